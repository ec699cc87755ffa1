/- The document's step of waiting, whole; who is stuck. -/
import Derived.Test.YtlndihdlodempaaZRef07
import Derived.Outline
set_option linter.unusedVariables false
set_option linter.unusedSimpArgs false
namespace Go.Proofs.Ytlndihdlodempaa.Z
open Go.RowKit

theorem stageA_at {mode stage v : Int} (h : stageA mode stage = v) (hv : v ≠ 0) : mode = 2 ∧ stage = v := by
  unfold stageA at h
  split at h <;> omega

theorem rwait_any {w : World} {p : Option Addr} {g cap : Nat} {L : List Int} (h : Row w p g L) (hcap : L.length ≤ cap) (hcm : cap ≤ 9223372036854775807) (n mode task stage c : Int) (k mk x : Int) :
    Calls Try.prog 134 #[.slice p L.length cap, .int .i64 n, .int .i64 mode, .int .i64 task, .agg #[.int .i64 stage], .int .i64 c, .agg #[.int .i64 k, .int .u32 mk, .int .u32 x]] w
      fun e w' => e = .returned (waitA L n mode task stage c (untilA k mk x)).value ∧ Row w' p g (waitA L n mode task stage c (untilA k mk x)).words ∧ Touch (lv g L) w w' := by
  rcases stageA_is mode stage with e | e | e | e | e
  · rw [waitA0 e]
    exact (rwait_look0 h hcap hcm n mode task stage c k mk x e).mono fun en w' ⟨he, t⟩ => ⟨he, h.touch t (by simp), t.mono (by simp)⟩
  · rw [waitA1 e]
    obtain ⟨rfl, rfl⟩ := stageA_at e (by decide)
    exact rwait_say h hcap hcm n task c k mk x
  · rw [waitA2 e]
    obtain ⟨rfl, rfl⟩ := stageA_at e (by decide)
    exact (rwait_look2 h hcap hcm n task c k mk x).mono fun en w' ⟨he, t⟩ => ⟨he, h.touch t (by simp), t.mono (by simp)⟩
  · rw [waitA3 e]
    obtain ⟨rfl, rfl⟩ := stageA_at e (by decide)
    exact rwait_sleep h hcap hcm n task c k mk x
  · rw [waitA4 e]
    obtain ⟨rfl, rfl⟩ := stageA_at e (by decide)
    exact rwait_forget h hcap hcm n task c k mk x

/-- Is the task stuck? -/
def stuckA (L : List Int) (n mode task stage : Int) : Bool := (stageA mode stage == 3) && !(thereA L n task)

theorem stuck_any {w : World} {m a : Nat} {L : List Int} (h : Mem w m a L) (n mode task stage : Int) (hn : I64 n) :
    Calls Try.prog 73 #[.pointer (some ⟨m, 0, none⟩), .agg #[.int .i64 n], .int .i64 mode, .int .i64 task, .agg #[.int .i64 stage]] w
      fun e w' => e = .returned (.bool (stuckA L n mode task stage)) ∧ Touch [] w w' := by
  unfold stuckA
  have hs := fun W => stage_any mode stage W
  have ht := fun W (hM : Mem W m a L) => there_is hM n task hn
  generalize stageA mode stage = st at hs ⊢
  generalize thereA L n task = b at ht ⊢
  have HS := Lib.hid hs
  have HT := Lib.hid ht
  clear hs ht hn
  cases hb : st == 3 with
  | false =>
    go_enter Try.func73, Try.ntmps73
    go_wp2_with fail
    refine (HS.out _).mono ?_
    rintro e w1 ⟨rfl, t1⟩
    go_wp2_with fail
    go_ret
    exact ⟨rfl, (((Touch.refl [] w).alloc _).alloc _).trans t1⟩
  | true =>
    obtain rfl : st = 3 := by simpa using hb
    go_enter Try.func73, Try.ntmps73
    go_wp2_with fail
    refine (HS.out _).mono ?_
    rintro e w1 ⟨rfl, t1⟩
    obtain ⟨B0, B1⟩ := t1.own2 (by simp)
    obtain ⟨x0, x1, x2⟩ := B0.own
    go_wp2_with fail
    refine (HT.out _ (h.touch ((((Touch.refl [] w).alloc _).alloc _).trans t1) (by simp) (by simp))).mono ?_
    rintro e w2 ⟨rfl, t2⟩
    go_wp2_with fail
    go_ret
    exact ⟨by simp, ((((Touch.refl [] w).alloc _).alloc _).trans t1).trans t2⟩

end Go.Proofs.Ytlndihdlodempaa.Z
