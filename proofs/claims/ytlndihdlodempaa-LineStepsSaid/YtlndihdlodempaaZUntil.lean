/- What is waited for: Until.Is; a step of waiting under it. -/
import Derived.Test.YtlndihdlodempaaZWait2
import Derived.Test.YtlndihdlodempaaZRef06
import Derived.Outline
import Derived.Shelf.Abstract
set_option linter.unusedVariables false
set_option linter.unusedSimpArgs false
namespace Go.Proofs.Ytlndihdlodempaa.Z
open Go.RowKit

def untilA (k m x v : Int) : Bool :=
  if k = 0 then bits .and .u32 v m == x else if k = 1 then bits .and .u32 v m != x
  else if k = 2 then v / 256 % 256 == v / 65536 % 256 else if k = 3 then (v / 256 % 256 == x) && (v % 256 == 0) else false

theorem until_any (k m x v : Int) (w : World) (h0 : 0 ≤ v) (h1 : v < 4294967296) :
    Calls Try.prog 58 #[.agg #[.int .i64 k, .int .u32 m, .int .u32 x], .int .u32 v] w fun e w' => e = .returned (.bool (untilA k m x v)) ∧ Touch [] w w' := by
  by_cases k0 : k = 0
  · subst k0
    rw [show untilA 0 m x v = (bits .and .u32 v m == x) from rfl]
    go_enter Try.func58, Try.ntmps58
    go_wp2
    go_ret
    exact ⟨rfl, (Touch.refl [] w).alloc _⟩
  by_cases k1 : k = 1
  · subst k1
    rw [show untilA 1 m x v = (bits .and .u32 v m != x) from rfl]
    go_enter Try.func58, Try.ntmps58
    go_wp2
    go_ret
    exact ⟨rfl, (Touch.refl [] w).alloc _⟩
  by_cases k2 : k = 2
  · subst k2
    rw [show untilA 2 m x v = (v / 256 % 256 == v / 65536 % 256) from rfl]
    go_enter Try.func58, Try.ntmps58
    go_wp2
    go_ret
    exact ⟨rfl, (Touch.refl [] w).alloc _⟩
  by_cases k3 : k = 3
  · subst k3
    rw [show untilA 3 m x v = ((v / 256 % 256 == x) && (v % 256 == 0)) from rfl]
    cases hb : (v / 256 % 256 == x)
    · have hne : ¬ (v / 256 % 256 = x) := by simpa using hb
      go_enter Try.func58, Try.ntmps58
      go_wp2
      go_ret
      exact ⟨rfl, (Touch.refl [] w).alloc _⟩
    · obtain rfl : v / 256 % 256 = x := by simpa using hb
      go_enter Try.func58, Try.ntmps58
      go_wp2
      go_ret
      exact ⟨rfl, (Touch.refl [] w).alloc _⟩
  · rw [show untilA k m x v = false from by unfold untilA; rw [if_neg k0, if_neg k1, if_neg k2, if_neg k3]]
    have e0 : (k == 0) = false := by simpa using k0
    have e1 : (k == 1) = false := by simpa using k1
    have e2 : (k == 2) = false := by simpa using k2
    have e3 : (k == 3) = false := by simpa using k3
    clear k0 k1 k2 k3
    go_enter Try.func58, Try.ntmps58
    go_wp2
    go_ret
    exact ⟨rfl, (Touch.refl [] w).alloc _⟩

/-- What a step of waiting tells. -/
def WaitR.value (r : WaitR) : Value := .tuple #[.agg #[.int .i64 r.stage], .agg r.acc.cells, .bool r.seen, .bool r.done]

theorem waitA0 {L : List Int} {n mode task stage c : Int} {p : Int → Bool} (e : stageA mode stage = 0) : waitA L n mode task stage c p = ⟨if p (doA L ⟨1, c, 0, 0, 0⟩).1.old then 0 else if mode = 2 then 1 else 0, (doA L ⟨1, c, 0, 0, 0⟩).1, p (doA L ⟨1, c, 0, 0, 0⟩).1.old, p (doA L ⟨1, c, 0, 0, 0⟩).1.old, L⟩ := by
  unfold waitA
  rw [e]
  rfl
theorem waitA1 {L : List Int} {n mode task stage c : Int} {p : Int → Bool} (e : stageA mode stage = 1) : waitA L n mode task stage c p = ⟨2, (doA L ⟨2, cellP n 2 task, (c + 1) % 4294967296, 0, 0⟩).1, false, false, (doA L ⟨2, cellP n 2 task, (c + 1) % 4294967296, 0, 0⟩).2.2⟩ := by
  unfold waitA
  rw [e]
  rfl
theorem waitA2 {L : List Int} {n mode task stage c : Int} {p : Int → Bool} (e : stageA mode stage = 2) : waitA L n mode task stage c p = ⟨if p (doA L ⟨1, c, 0, 0, 0⟩).1.old then 4 else 3, (doA L ⟨1, c, 0, 0, 0⟩).1, p (doA L ⟨1, c, 0, 0, 0⟩).1.old, false, L⟩ := by
  unfold waitA
  rw [e]
  rfl
theorem waitA3 {L : List Int} {n mode task stage c : Int} {p : Int → Bool} (e : stageA mode stage = 3) : waitA L n mode task stage c p = ⟨if (takeA L n task).2.1 then 2 else 3, (takeA L n task).1, false, false, (takeA L n task).2.2⟩ := by
  unfold waitA
  rw [e]
  rfl
theorem waitA4 {L : List Int} {n mode task stage c : Int} {p : Int → Bool} (e : stageA mode stage = 4) : waitA L n mode task stage c p = ⟨0, (doA L ⟨2, cellP n 2 task, 0, 0, 0⟩).1, false, true, (doA L ⟨2, cellP n 2 task, 0, 0, 0⟩).2.2⟩ := by
  unfold waitA
  rw [e]
  rfl

/-- A step of waiting, whatever is waited for, where to look changes nothing. -/
theorem wait_any {w : World} {m a : Nat} {L : List Int} (h : Mem w m a L) (n mode task stage c : Int) (hn : I64 n) (fid : FuncId) (first cap : Array Value) (p : Int → Bool)
    (eg : ∀ args w, (callFunc fid args).run Try.prog w = .ok (.enter fid args) w)
    (hF : ∀ W v, 0 ≤ v → v < 4294967296 → Touch [] w W → Calls Try.prog fid (first ++ #[.int .u32 v] ++ cap) W fun e W' => e = .returned (.bool (p v)) ∧ Touch [] W W') :
    Calls Try.prog 128 #[.pointer (some ⟨m, 0, none⟩), .agg #[.int .i64 n], .int .i64 mode, .int .i64 task, .agg #[.int .i64 stage], .int .i64 c, .func (.func fid) first cap] w
      fun e w' => e = .returned (waitA L n mode task stage c p).value ∧ Mem w' m a (waitA L n mode task stage c p).words ∧ Touch (lv a L) w w' := by
  have hv := doA_old L h.words ⟨1, c, 0, 0, 0⟩
  have hlook := fun hst => wait_look (S := []) (G := fun _ => True) h n mode task stage c fid first cap (p (doA L ⟨1, c, 0, 0, 0⟩).1.old) eg hst (by simp) (fun _ _ _ h _ _ => h) (fun W t => (hF W _ hv.1 hv.2 t).mono fun e W' h => ⟨h.1, h.2, trivial⟩)
  rcases stageA_is mode stage with e | e | e | e | e
  · rw [waitA0 e]
    refine (hlook (Or.inl e)).mono ?_
    rintro en w' ⟨he, hM, t, _⟩
    exact ⟨by rw [he, e]; simp [WaitR.value], hM, t.mono (by simp)⟩
  · rw [waitA1 e]
    exact wait_say h n mode task stage c hn _ e
  · rw [waitA2 e]
    refine (hlook (Or.inr e)).mono ?_
    rintro en w' ⟨he, hM, t, _⟩
    exact ⟨by rw [he, e]; simp [WaitR.value], hM, t.mono (by simp)⟩
  · rw [waitA3 e]
    exact wait_sleep h n mode task stage c hn _ e
  · rw [waitA4 e]
    exact wait_forget h n mode task stage c hn _ e

/-- A step of waiting for nothing. -/
theorem wait_never {w : World} {m a : Nat} {L : List Int} (h : Mem w m a L) (n mode task stage c : Int) (hn : I64 n) :
    Calls Try.prog 128 #[.pointer (some ⟨m, 0, none⟩), .agg #[.int .i64 n], .int .i64 mode, .int .i64 task, .agg #[.int .i64 stage], .int .i64 c, .nilFunc] w
      fun e w' => e = .returned (waitA L n mode task stage c fun _ => false).value ∧ Mem w' m a (waitA L n mode task stage c fun _ => false).words ∧ Touch (lv a L) w w' := by
  have hlook := fun hst => wait_nil h n mode task stage c hst
  rcases stageA_is mode stage with e | e | e | e | e
  · rw [waitA0 e]
    refine (hlook (Or.inl e)).mono ?_
    rintro en w' ⟨he, hM, t⟩
    exact ⟨by rw [he, e]; simp [WaitR.value], hM, t.mono (by simp)⟩
  · rw [waitA1 e]
    exact wait_say h n mode task stage c hn _ e
  · rw [waitA2 e]
    refine (hlook (Or.inr e)).mono ?_
    rintro en w' ⟨he, hM, t⟩
    exact ⟨by rw [he, e]; simp [WaitR.value], hM, t.mono (by simp)⟩
  · rw [waitA3 e]
    exact wait_sleep h n mode task stage c hn _ e
  · rw [waitA4 e]
    exact wait_forget h n mode task stage c hn _ e

/-- A step of waiting for an Until. -/
theorem wait_until {w : World} {m a : Nat} {L : List Int} (h : Mem w m a L) (n mode task stage c : Int) (hn : I64 n) (k mk x : Int) :
    Calls Try.prog 128 #[.pointer (some ⟨m, 0, none⟩), .agg #[.int .i64 n], .int .i64 mode, .int .i64 task, .agg #[.int .i64 stage], .int .i64 c, .func (.func 58) #[.agg #[.int .i64 k, .int .u32 mk, .int .u32 x]] #[]] w
      fun e w' => e = .returned (waitA L n mode task stage c (untilA k mk x)).value ∧ Mem w' m a (waitA L n mode task stage c (untilA k mk x)).words ∧ Touch (lv a L) w w' :=
  wait_any h n mode task stage c hn _ _ _ (untilA k mk x) (enters_of Try.func58 (by kernel_rfl) rfl) (fun W v h0 h1 _ => until_any k mk x v W h0 h1)

end Go.Proofs.Ytlndihdlodempaa.Z
