/- 6 texts of this claim, joined: what each shows stands at its own head. -/
import Derived.Test.YtlndihdlodempaaZSame
import Derived.Test.YtlndihdlodempaaZElem
import Derived.Test.YtlndihdlodempaaZXNote
import Derived.Deep.RegionHeld3
import Derived.Deep.DrawnRows
import Derived.Test.YtlndihdlodempaaZFlat3
import Derived.Test.YtlndihdlodempaaZBase
import Derived.Test.YtlndihdlodempaaZXRun7
/- The same notes are the same (stilemanref05.Same). -/
set_option linter.unusedVariables false
set_option linter.unusedSimpArgs false
namespace Go.Proofs.Ytlndihdlodempaa.Z
open Go.RowKit

set_option maxHeartbeats 1600000 in
set_option maxRecDepth 100000 in
theorem same_notes {A B : Option Addr} {n c d : Nat} {l : List Nt} (w : World) (hA : Rd w 4 A n (nts l)) (hB : Rd w 4 B n (nts l)) (hn : n ≤ 1048576) :
    Calls Try.prog 22 #[.slice A n c, .slice B n d] w fun e w' => e = .returned (.bool true) ∧ Touch [] w w' := by
  have hb : ((n : Int) != (n : Int)) = false := by simp
  have HA := Lib.hid hA
  have HB := Lib.hid hB
  clear hA hB
  go_enter Try.func22, Try.ntmps22
  go_wp2_with fail
  go_loopw [5] (fun i wr => ∃ k : Nat, k ≤ n ∧ i = .int .i64 k ∧ Touch [] w wr) (fun i _ => n - (intOf i).toNat)
  case atStart => exact ⟨0, Nat.zero_le _, rfl, Touch.refl _ _⟩
  case round =>
    obtain ⟨k, hk, rfl, hw⟩ := hrel
    by_cases hlt : k < n
    · obtain ⟨b, off, y, rfl, hbb, hy, _⟩ := elem_head (dec := Nt.cells) (size := 4) (by decide) (fun _ => rfl) (HA.out.touch hw (by simp)) hlt
      obtain ⟨b2, off2, y2, rfl, hbb2, hy2, _⟩ := elem_head (dec := Nt.cells) (size := 4) (by decide) (fun _ => rfl) (HB.out.touch hw (by simp)) hlt
      obtain rfl : y = y2 := Option.some.inj (hy.symm.trans hy2)
      obtain ⟨yt, yw, yo, ya⟩ := y
      have hT : ∀ w', Touch [] w w' → Touch [] w w' ∧ (b < w'.heap.size ∧ b2 < w'.heap.size) ∧ (w'.cell? ⟨b, off + k * 4, none⟩ = some (.int .i64 yt)) ∧ (w'.cell? ⟨b, off + k * 4 + 1, none⟩ = some (.int .i64 yw)) ∧ (w'.cell? ⟨b, off + k * 4 + 2, none⟩ = some (.int .i64 yo)) ∧ (w'.cell? ⟨b, off + k * 4 + 3, none⟩ = some (.int .i64 ya)) ∧ (w'.cell? ⟨b2, off2 + k * 4, none⟩ = some (.int .i64 yt)) ∧ (w'.cell? ⟨b2, off2 + k * 4 + 1, none⟩ = some (.int .i64 yw)) ∧ (w'.cell? ⟨b2, off2 + k * 4 + 2, none⟩ = some (.int .i64 yo)) ∧ (w'.cell? ⟨b2, off2 + k * 4 + 3, none⟩ = some (.int .i64 ya)) := fun w' t => by
        obtain ⟨c0, c1⟩ := elem_cells (dec := Nt.cells) (size := 4) (by decide) (fun _ => rfl) (HA.out.touch t (by simp)) hlt hy
        obtain ⟨e0, e1⟩ := elem_cells (dec := Nt.cells) (size := 4) (by decide) (fun _ => rfl) (HB.out.touch t (by simp)) hlt hy
        exact ⟨t, ⟨c0, e0⟩, c1 0 _ rfl, c1 1 _ rfl, c1 2 _ rfl, c1 3 _ rfl, e1 0 _ rfl, e1 1 _ rfl, e1 2 _ rfl, e1 3 _ rfl⟩
      have hi : (k : Int) < (n : Int) := by omega
      go_wp2_with fail
      go_region_held3 (fun w' => Touch [] w w' ∧ (b < w'.heap.size ∧ b2 < w'.heap.size) ∧ (w'.cell? ⟨b, off + k * 4, none⟩ = some (.int .i64 yt)) ∧ (w'.cell? ⟨b, off + k * 4 + 1, none⟩ = some (.int .i64 yw)) ∧ (w'.cell? ⟨b, off + k * 4 + 2, none⟩ = some (.int .i64 yo)) ∧ (w'.cell? ⟨b, off + k * 4 + 3, none⟩ = some (.int .i64 ya)) ∧ (w'.cell? ⟨b2, off2 + k * 4, none⟩ = some (.int .i64 yt)) ∧ (w'.cell? ⟨b2, off2 + k * 4 + 1, none⟩ = some (.int .i64 yw)) ∧ (w'.cell? ⟨b2, off2 + k * 4 + 2, none⟩ = some (.int .i64 yo)) ∧ (w'.cell? ⟨b2, off2 + k * 4 + 3, none⟩ = some (.int .i64 ya)))
        (first | (go_split_ands; refine hT _ ?_; first | assumption | exact Touch.refl _ _ | (with_reducible apply Touch.drew; first | exact Touch.refl _ _ | assumption)))
        (fail)
      go_wp2_with fail
      go_roundw
      case rel => exact ⟨k + 1, by omega, by go_num, by repeat (first | assumption | apply Touch.drewN | apply Touch.drew)⟩
      case measure => simp [intOf]; omega
    · have hkn : k = n := by omega
      have hi : (n : Int) ≤ (k : Int) := by omega
      go_wp2
      go_ret
      exact ⟨rfl, hw⟩

end Go.Proofs.Ytlndihdlodempaa.Z

/- A region that draws its order and holds one call that leaves the world as it was, walked in the order of its text: the call is borne beside loads. No program is in sight. -/
set_option linter.unusedVariables false
set_option linter.unusedSimpArgs false
namespace Go.Proofs.Ytlndihdlodempaa.Z
open Go

section
variable {P : Program} {ops : Array Oper} {Q : Exit → Act → World → Prop} {c : Nat}

/-- A call's value here: it leaves the world as it was. -/
def CallAt (P : Program) (ops : Array Oper) (o : Oper) (v : Value) (a : Act) (w : World) : Prop :=
  (Region.wanted o (yielded ops a.tmps) = true ∧ (∀ W, Touch [] w W → ∃ f args, (execOp a.eval o).run P W = .ok (.enter f args) W ∧ Calls P f args W fun e w' => e = .returned v ∧ W = w')) ∨ (Region.wanted o (yielded ops a.tmps) = false ∧ v = undef)

theorem CallAt.wpOp {i : Nat} {o : Oper} {v : Value} {a : Act} {w : World} (hi : ops[i]? = some o) (hy : CallAt P ops o v a w) {K : Act → World → Prop} (h : K (a.put o.dst v) w) : wpOp P ops Q i K a w := by
  unfold Go.wpOp
  simp only [hi]
  rcases hy with ⟨hw, hf⟩ | ⟨hw, rfl⟩
  · obtain ⟨f, args, hv, hc⟩ := hf w (Touch.refl _ _)
    simp only [hw, if_true, Oper.wp, hv, Oper.upon]
    refine .inl (Calls.mono hc ?_)
    rintro e w' ⟨rfl, rfl⟩
    exact h
  · simp only [hw, Bool.false_eq_true, if_false]; exact h

/-- A load's value, or the call's. -/
def LooksAt (P : Program) (ops : Array Oper) (c i : Nat) (o : Oper) (v : Value) (a : Act) (w : World) : Prop := if i = c then CallAt P ops o v a w else LoadsAt P ops o v a w

theorem LooksAt.of_same {i : Nat} {o : Oper} {v : Value} {a a' : Act} {w : World} (hy : LooksAt P ops c i o v a w) (he : execOp a'.eval o = execOp a.eval o) (hw : Region.wanted o (yielded ops a'.tmps) = Region.wanted o (yielded ops a.tmps)) : LooksAt P ops c i o v a' w := by
  unfold LooksAt at *
  split
  · rename_i h
    rw [if_pos h] at hy
    unfold CallAt at *
    rw [he, hw]
    exact hy
  · rename_i h
    rw [if_neg h] at hy
    exact hy.of_same he hw

/-- Operation i; the call: by its value. -/
def wpOpJ (P : Program) (ops : Array Oper) (c : Nat) (Q : Exit → Act → World → Prop) (i : Nat) (K : Act → World → Prop) (a : Act) (w : World) : Prop :=
  if i = c then ∃ o v, ops[i]? = some o ∧ CallAt P ops o v a w ∧ K (a.put o.dst v) w else wpOpI P ops Q i K a w

def wpOpsJ (P : Program) (ops : Array Oper) (c : Nat) (Q : Exit → Act → World → Prop) : List Nat → Act → World → Prop
  | [], a, w => Q .normal a w
  | i :: rest, a, w => wpOpJ P ops c Q i (wpOpsJ P ops c Q rest) a w

theorem wpOpJ_mono {i : Nat} {a : Act} {w : World} {K K' : Act → World → Prop} (h : ∀ a w, K a w → K' a w) (hh : wpOpJ P ops c Q i K a w) : wpOpJ P ops c Q i K' a w := by
  unfold wpOpJ at *
  split
  · rename_i hc
    rw [if_pos hc] at hh
    obtain ⟨o, v, h1, h2, h3⟩ := hh
    exact ⟨o, v, h1, h2, h _ _ h3⟩
  · rename_i hc
    rw [if_neg hc] at hh
    exact wpOpI_mono h hh

theorem wpOpJ_wpOp {i : Nat} {a : Act} {w : World} {K : Act → World → Prop} (hh : wpOpJ P ops c Q i K a w) : wpOp P ops Q i K a w := by
  unfold wpOpJ at hh
  split at hh
  · obtain ⟨o, v, h1, h2, h3⟩ := hh
    exact h2.wpOp h1 h3
  · exact hh.2

theorem look_at {i : Nat} {oi : Oper} {a : Act} {w : World} {K : Act → World → Prop} (hQ : Calm Q) (hi : ops[i]? = some oi) (hb : (i == c || loadOp oi) = true) (h : wpOpJ P ops c Q i K a w) : ∃ v, LooksAt P ops c i oi v a w ∧ K (a.put oi.dst v) w := by
  unfold wpOpJ at h
  unfold LooksAt
  split at h
  · rename_i hc
    obtain ⟨o, v, h1, h2, h3⟩ := h
    rw [hi] at h1
    cases h1
    exact ⟨v, by rw [if_pos hc]; exact h2, h3⟩
  · rename_i hc
    have hb' : loadOp oi = true := by simpa [hc] using hb
    obtain ⟨v, h1, h2⟩ := load_at hQ hi hb' h.2
    exact ⟨v, by rw [if_neg hc]; exact h1, h2⟩

theorem LooksAt.wpOpJ {i : Nat} {oi : Oper} {v : Value} {a : Act} {w : World} {K : Act → World → Prop} (hi : ops[i]? = some oi) (hb : (i == c || loadOp oi) = true) (h : LooksAt P ops c i oi v a w) (hk : K (a.put oi.dst v) w) : wpOpJ P ops c Q i K a w := by
  unfold Z.wpOpJ
  unfold LooksAt at h
  split
  · rename_i hc
    rw [if_pos hc] at h
    exact ⟨oi, v, hi, h, hk⟩
  · rename_i hc
    rw [if_neg hc] at h
    have hb' : loadOp oi = true := by simpa [hc] using hb
    exact ⟨fun o ho _ => by rw [hi] at ho; cases ho; exact nums_load hb', h.wpOp hi hk⟩

/-- Two that look. -/
theorem swap3C {i j : Nat} {oi oj : Oper} {K : Act → World → Prop} {a : Act} {w : World} (hQ : Calm Q) (hi : ops[i]? = some oi) (hj : ops[j]? = some oj)
    (hsi : ∀ cs b, oi.op ≠ .select cs b) (hsj : ∀ cs b, oj.op ≠ .select cs b) (hli : (i == c || loadOp oi) = true) (hlj : (j == c || loadOp oj) = true) (hap : oi.apart ops oj = true)
    (h : wpOpJ P ops c Q j (wpOpJ P ops c Q i K) a w) : wpOpJ P ops c Q i (wpOpJ P ops c Q j K) a w := by
  obtain ⟨a1, a2, a3⟩ := Oper.apart_spec hap
  obtain ⟨u, hu, hk⟩ := look_at hQ hj hlj h
  obtain ⟨v, hv, hk⟩ := look_at hQ hi hli hk
  have hv' : LooksAt P ops c i oi v a w := hv.of_same (execOp_put oi hsi a oj.dst u a3).symm (wanted_put oi a oj.dst u a3).symm
  have hu' : LooksAt P ops c j oj u (a.put oi.dst v) w := hu.of_same (execOp_put oj hsj a oi.dst v a1) (wanted_put oj a oi.dst v a1)
  refine hv'.wpOpJ hi hli (hu'.wpOpJ hj hlj ?_)
  rw [Act.put_comm a v u a2]
  exact hk

/-- A blind one is first, the call comes ahead of it. -/
theorem swap1C {i : Nat} {oi oj : Oper} {K : Act → World → Prop} {a : Act} {w : World} (hQ : Calm Q) (hi : ops[i]? = some oi) (hj : ops[c]? = some oj) (hic : i ≠ c)
    (hsi : ∀ cs b, oi.op ≠ .select cs b) (hsj : ∀ cs b, oj.op ≠ .select cs b) (hb : blindOp P oi = true) (hap : oi.apart ops oj = true)
    (h : wpOpJ P ops c Q i (wpOpJ P ops c Q c K) a w) : wpOpJ P ops c Q c (wpOpJ P ops c Q i K) a w := by
  have hcc : (c == c || loadOp oj) = true := by simp
  have h' : wpOpI P ops Q i (wpOpJ P ops c Q c K) a w := by unfold wpOpJ at h; rw [if_neg hic] at h; exact h
  obtain ⟨v, hy, hk⟩ := blind_yields hQ hi hb h'
  obtain ⟨a1, a2, a3⟩ := Oper.apart_spec hap
  obtain ⟨u, hu, hk⟩ := look_at hQ hj hcc hk
  have hu' : LooksAt P ops c c oj u a w := hu.of_same (execOp_put oj hsj a oi.dst v a1).symm (wanted_put oj a oi.dst v a1).symm
  refine hu'.wpOpJ hj hcc ?_
  unfold wpOpJ
  rw [if_neg hic]
  have hy2 : Yields P ops oi v (a.put oj.dst u) := hy.of_same (execOp_put oi hsi a oj.dst u a3) (wanted_put oi a oj.dst u a3)
  refine ⟨fun o ho hw => ?_, Yields.wpOp hi hy2 ?_⟩
  · rw [hi] at ho
    cases ho
    exact (nums_put (ops := ops) a3).2 (h'.1 _ hi (by rw [← wanted_put oi a oj.dst u a3]; exact hw))
  · rw [← Act.put_comm a v u a2]
    exact hk

/-- The call is first, a blind one comes ahead of it. -/
theorem swap2C {i : Nat} {oi oj : Oper} {K : Act → World → Prop} {a : Act} {w : World} (hQ : Calm Q) (hi : ops[i]? = some oi) (hj : ops[c]? = some oj) (hic : i ≠ c)
    (hsi : ∀ cs b, oi.op ≠ .select cs b) (hsj : ∀ cs b, oj.op ≠ .select cs b) (hb : blindOp P oi = true) (hap : oi.apart ops oj = true)
    (h : wpOpJ P ops c Q c (wpOpJ P ops c Q i K) a w) : wpOpJ P ops c Q i (wpOpJ P ops c Q c K) a w := by
  have hcc : (c == c || loadOp oj) = true := by simp
  obtain ⟨u, hu, hk⟩ := look_at hQ hj hcc h
  unfold wpOpJ at hk
  rw [if_neg hic] at hk
  obtain ⟨v, hy, hk2⟩ := blind_yields hQ hi hb hk
  obtain ⟨a1, a2, a3⟩ := Oper.apart_spec hap
  have hy2 : Yields P ops oi v a := hy.of_same (execOp_put oi hsi a oj.dst u a3).symm (wanted_put oi a oj.dst u a3).symm
  have hu' : LooksAt P ops c c oj u (a.put oi.dst v) w := hu.of_same (execOp_put oj hsj a oi.dst v a1) (wanted_put oj a oi.dst v a1)
  unfold wpOpJ
  rw [if_neg hic]
  refine ⟨fun o ho hw => ?_, Yields.wpOp hi hy2 ?_⟩
  · rw [hi] at ho
    cases ho
    exact (nums_put (ops := ops) a3).1 (hk.1 _ hi (by rw [wanted_put oi a oj.dst u a3]; exact hw))
  · refine hu'.wpOpJ hj hcc ?_
    rw [Act.put_comm a v u a2]
    exact hk2

theorem LooksAt.grow {i : Nat} {o : Oper} {v : Value} {a : Act} {w w' : World} (hl : (i == c || loadOp o) = true) (hy : LooksAt P ops c i o v a w) (t : Touch [] w w') : LooksAt P ops c i o v a w' := by
  unfold LooksAt at *
  split
  · rename_i h
    rw [if_pos h] at hy
    rcases hy with ⟨hw, hf⟩ | hy
    · exact .inl ⟨hw, fun W t2 => hf W (t.trans t2)⟩
    · exact .inr hy
  · rename_i h
    rw [if_neg h] at hy
    exact LoadsAt.grow (by simpa [h] using hl) hy t

theorem wpOpJ_ne {i : Nat} (h : i ≠ c) (K : Act → World → Prop) : wpOpJ P ops c Q i K = wpOpI P ops Q i K := by
  funext a w
  unfold wpOpJ
  rw [if_neg h]

/-- The call is first, what makes memory comes ahead of it. -/
theorem swap4C {i : Nat} {oi ok : Oper} {K : Act → World → Prop} {a : Act} {w : World} (hQ : Calm Q) (hi : ops[i]? = some oi) (hk : ops[c]? = some ok) (hic : i ≠ c)
    (hsi : ∀ cs b, oi.op ≠ .select cs b) (hsk : ∀ cs b, ok.op ≠ .select cs b) (hni : newOp oi = true) (hap : oi.apart ops ok = true)
    (h : wpOpJ P ops c Q c (wpOpJ P ops c Q i K) a w) : wpOpJ P ops c Q i (wpOpJ P ops c Q c K) a w := by
  have hcc : (c == c || loadOp ok) = true := by simp
  obtain ⟨a1, a2, a3⟩ := Oper.apart_spec hap
  obtain ⟨u, hu, hh⟩ := look_at hQ hk hcc h
  unfold wpOpJ at hh
  rw [if_neg hic] at hh
  have h2 := hh.2
  have keep : ∀ (v : Value) (w' : World), Touch [] w w' → K ((a.put ok.dst u).put oi.dst v) w' → wpOpJ P ops c Q c K (a.put oi.dst v) w' := fun v w' t hK =>
    ((hu.grow hcc t).of_same (execOp_put ok hsk a oi.dst v a1) (wanted_put ok a oi.dst v a1)).wpOpJ hk hcc (by rw [Act.put_comm a v u a2]; exact hK)
  rw [wpOpJ_ne hic]
  refine ⟨fun o ho _ => by rw [hi] at ho; cases ho; exact nums_new hni, ?_⟩
  unfold wpOp at h2 ⊢
  simp only [hi] at h2 ⊢
  rw [wanted_put oi a ok.dst u a3] at h2
  split
  · rename_i hw
    simp only [hw, if_true] at h2
    rcases h2 with h2 | ⟨_, h2⟩
    case inr => exact absurd h2 hQ.out
    refine .inl ?_
    unfold Oper.wp at h2 ⊢
    rw [execOp_put oi hsi a ok.dst u a3] at h2
    obtain ⟨s, hs, hg⟩ := newOp_spec (P := P) (a := a) hni
    rw [hs] at h2 ⊢
    rw [Sem.run_bind] at h2 ⊢
    cases hr : s.run P w with
    | ok v w' =>
      rw [hr] at h2
      have := keep v w' (hg _ _ _ hr) h2
      exact this
    | halt h' w' =>
      rw [hr] at h2
      obtain ⟨n, w2, e2⟩ := calm_upon hQ h2
      cases e2
  · rename_i hw
    simp only [hw] at h2
    have := keep undef w (Touch.refl _ _) h2
    exact this

/-- Two operations that may come in either order. -/
def compatC (P : Program) (ops : Array Oper) (c k i : Nat) : Bool :=
  match ops[k]?, ops[i]? with
  | some x, some y => x.apart ops y && y.apart ops x && k != i && (if k = c then blindOp P y || (loadOp y || newOp y) else if i = c then blindOp P x || loadOp x else compat P ops k i)
  | _, _ => false

theorem swapAnyC (hQ : Calm Q) (hs : Region.noSelect ops = true) {k i : Nat} (h : compatC P ops c k i = true) {K : Act → World → Prop} {a : Act} {w : World}
    (hh : wpOpJ P ops c Q k (wpOpJ P ops c Q i K) a w) : wpOpJ P ops c Q i (wpOpJ P ops c Q k K) a w := by
  unfold compatC at h
  split at h
  · rename_i x y hx hy
    simp only [Bool.and_eq_true, bne_iff_ne, ne_eq] at h
    obtain ⟨⟨⟨h1, h2⟩, hne⟩, h3⟩ := h
    have sx := Region.noSelect_spec hs k x
    have sy := Region.noSelect_spec hs i y
    split at h3
    · rename_i hk
      subst hk
      simp only [Bool.or_eq_true] at h3
      rcases h3 with h3 | h3 | h3
      · exact swap2C hQ hy hx (fun e => hne e.symm) (fun cs b => sy cs b hy) (fun cs b => sx cs b hx) h3 h2 hh
      · exact swap3C hQ hy hx (fun cs b => sy cs b hy) (fun cs b => sx cs b hx) (by simp [h3]) (by simp) h2 hh
      · exact swap4C hQ hy hx (fun e => hne e.symm) (fun cs b => sy cs b hy) (fun cs b => sx cs b hx) h3 h2 hh
    · rename_i hk
      split at h3
      · rename_i hi
        subst hi
        simp only [Bool.or_eq_true] at h3
        rcases h3 with h3 | h3
        · exact swap1C hQ hx hy hne (fun cs b => sx cs b hx) (fun cs b => sy cs b hy) h3 h1 hh
        · exact swap3C hQ hy hx (fun cs b => sy cs b hy) (fun cs b => sx cs b hx) (by simp) (by simp [h3]) h2 hh
      · rename_i hi
        have e1 : ∀ K, wpOpJ P ops c Q k K = wpOpI P ops Q k K := fun K => by funext a w; unfold wpOpJ; rw [if_neg hk]
        have e2 : ∀ K, wpOpJ P ops c Q i K = wpOpI P ops Q i K := fun K => by funext a w; unfold wpOpJ; rw [if_neg hi]
        rw [e1, e2] at hh
        rw [e2, e1]
        exact swapAny hQ hs h3 hh
  · cases h

theorem moveFirstC (hQ : Calm Q) (hs : Region.noSelect ops = true) {i : Nat} {t2 : List Nat} : ∀ (t1 : List Nat), (∀ k, k ∈ t1 → compatC P ops c k i = true) → ∀ (a : Act) (w : World),
    wpOpsJ P ops c Q (t1 ++ i :: t2) a w → wpOpsJ P ops c Q (i :: (t1 ++ t2)) a w
  | [], _, a, w, h => h
  | k :: t1, hc, a, w, h => by
    have h1 : wpOpJ P ops c Q k (wpOpJ P ops c Q i (wpOpsJ P ops c Q (t1 ++ t2))) a w :=
      wpOpJ_mono (fun a' w' h' => moveFirstC hQ hs t1 (fun k hk => hc k (List.mem_cons_of_mem _ hk)) a' w' h') h
    exact swapAnyC hQ hs (hc k (by simp)) h1

def flatAtC (P : Program) (ops : Array Oper) (c : Nat) (M : Array Nat) (i : Nat) : Bool :=
  (match ops[i]? with
    | some o => o.after.all fun e => !Region.binds .any e || decide (e.on < i)
    | none => true) && ((List.range i).all fun k => (M.getD i 0).testBit k || compatC P ops c k i) && maskOk ops M i

def flatWithC (P : Program) (ops : Array Oper) (c : Nat) (M : Array Nat) : Bool := Region.noSelect ops && (List.range ops.size).all (flatAtC P ops c M)

/-- THE CHECK: what is not ordered commutes. -/
def flatOkC (P : Program) (ops : Array Oper) (c : Nat) : Bool := flatWithC P ops c (Region.before ops)

theorem flat_edgeC {M : Array Nat} (h : flatWithC P ops c M = true) {i : Nat} {o : Oper} (ho : ops[i]? = some o) {e : Edge} (he : e ∈ o.after) (hb : Region.binds .any e = true) : e.on < i := by
  unfold flatWithC at h
  simp only [Bool.and_eq_true, List.all_eq_true, List.mem_range] at h
  have h1 := h.2 i (Array.getElem?_eq_some_iff.1 ho).1
  unfold flatAtC at h1
  simp only [Bool.and_eq_true, ho] at h1
  have h2 := Array.all_eq_true_iff_forall_mem.1 h1.1.1 e he
  simpa [hb] using h2

theorem mask_listedC {M : Array Nat} (h : flatWithC P ops c M = true) {listed : Array Bool} (hc : Closed ops listed) : ∀ (i : Nat) (o : Oper), ops[i]? = some o → (∀ e ∈ o.after, Region.binds .any e = true → listed.getD e.on false = true) →
    ∀ k, k < i → (M.getD i 0).testBit k = true → listed.getD k false = true := by
  intro i
  induction i using Nat.strongRecOn with
  | ind i ih =>
    intro o ho hd k hk hb
    have h' := h
    unfold flatWithC at h'
    simp only [Bool.and_eq_true, List.all_eq_true, List.mem_range] at h'
    have h1 := h'.2 i (Array.getElem?_eq_some_iff.1 ho).1
    unfold flatAtC at h1
    simp only [Bool.and_eq_true] at h1
    have h2 := h1.2
    unfold maskOk at h2
    simp only [List.all_eq_true, List.mem_range, ho] at h2
    have h3 := h2 k hk
    simp only [hb, Bool.not_true, Bool.false_or] at h3
    obtain ⟨e, he, h4⟩ := Array.any_eq_true'.1 h3
    simp only [Bool.and_eq_true, Bool.or_eq_true, beq_iff_eq, decide_eq_true_eq] at h4
    have hlt := flat_edgeC h ho he h4.1
    have hl := hd e he h4.1
    rcases h4.2 with h5 | ⟨hke, h5⟩
    · rw [← h5]; exact hl
    · have hn : e.on < ops.size := Nat.lt_trans hlt (Array.getElem?_eq_some_iff.1 ho).1
      exact ih e.on hlt ops[e.on] (Array.getElem?_eq_getElem hn) (hc e.on _ hl (Array.getElem?_eq_getElem hn)) k hke h5

theorem any_of_flatC {M : Array Nat} (hQ : Calm Q) (h : flatWithC P ops c M = true) : ∀ (fuel : Nat) (listed : Array Bool) (a : Act) (w : World), listed.size = ops.size → Closed ops listed → (restOf ops.size listed).length ≤ fuel →
    wpOpsJ P ops c Q (restOf ops.size listed) a w → wpAny P .any ops Q fuel listed a w := by
  have hs : Region.noSelect ops = true := by
    unfold flatWithC at h
    simp only [Bool.and_eq_true] at h
    exact h.1
  have hat : ∀ i, i < ops.size → ∀ k, k < i → (M.getD i 0).testBit k = true ∨ compatC P ops c k i = true := by
    intro i hi k hk
    unfold flatWithC at h
    simp only [Bool.and_eq_true, List.all_eq_true, List.mem_range] at h
    have h1 := h.2 i hi
    unfold flatAtC at h1
    simp only [Bool.and_eq_true, List.all_eq_true, List.mem_range, Bool.or_eq_true] at h1
    exact h1.1.2 k hk
  have hready : ∀ (listed : Array Bool), Region.ready .any ops listed = [] → Closed ops listed → restOf ops.size listed = [] := by
    intro listed hr hc
    cases ht : restOf ops.size listed with
    | nil => rfl
    | cons j t =>
      exfalso
      have hj : j ∈ restOf ops.size listed := by rw [ht]; simp
      obtain ⟨hjn, hj0⟩ := mem_rest.1 hj
      have hle : ∀ k, k ∈ restOf ops.size listed → j ≤ k := by
        have hp : (restOf ops.size listed).Pairwise (· < ·) := by
          unfold restOf
          exact List.Pairwise.filter _ List.pairwise_lt_range
        rw [ht] at hp
        intro k hk
        rw [ht] at hk
        rcases List.mem_cons.1 hk with rfl | hk
        · exact Nat.le_refl _
        · exact Nat.le_of_lt ((List.pairwise_cons.1 hp).1 k hk)
      have : j ∈ Region.ready .any ops listed := by
        rw [mem_ready]
        refine ⟨hj0, ops[j], Array.getElem?_eq_getElem hjn, fun e he hb => ?_⟩
        have hlt := flat_edgeC h (Array.getElem?_eq_getElem hjn) he hb
        cases hl : listed.getD e.on true with
        | true =>
          by_cases hin : e.on < listed.size
          · simpa [hin] using hl
          · simp [Array.getElem?_eq_none (Nat.le_of_not_lt hin)] at hl
            have h2 := hle e.on
            by_cases hin2 : listed.size ≤ e.on
            · exfalso
              have h3 : e.on < ops.size := Nat.lt_trans hlt hjn
              have h4 : ¬ (j < listed.size) := fun hh => by
                exact absurd (Nat.lt_trans hlt hh) (Nat.not_lt.2 hin2)
              simp [Array.getElem?_eq_none (Nat.le_of_not_lt h4)] at hj0
            · omega
        | false =>
          have := hle e.on (mem_rest.2 ⟨Nat.lt_trans hlt hjn, hl⟩)
          omega
      rw [hr] at this
      cases this
  intro fuel
  induction fuel with
  | zero =>
    intro listed a w hsz hc hl hh
    have hnil : restOf ops.size listed = [] := List.eq_nil_of_length_eq_zero (by omega)
    rw [hnil] at hh
    refine ⟨?_, hh⟩
    cases hr : Region.ready .any ops listed with
    | nil => rfl
    | cons j t =>
      exfalso
      have hj : j ∈ Region.ready .any ops listed := by rw [hr]; simp
      obtain ⟨h0, o, ho, _⟩ := mem_ready.1 hj
      have : j ∈ restOf ops.size listed := mem_rest.2 ⟨(Array.getElem?_eq_some_iff.1 ho).1, h0⟩
      rw [hnil] at this
      cases this
  | succ fuel ih =>
    intro listed a w hsz hc hl hh
    refine ⟨fun hr => ?_, fun i hi => ?_⟩
    · rw [hready listed hr hc] at hh
      exact hh
    · obtain ⟨h0, o, ho, hd⟩ := mem_ready.1 hi
      have hin := (Array.getElem?_eq_some_iff.1 ho).1
      obtain ⟨t1, t2, e1, e2, ht⟩ := rest_split hin hsz h0
      rw [e1] at hh hl
      have hmv := moveFirstC hQ hs t1 (fun k hk => by
        obtain ⟨hki, hk0⟩ := ht k hk
        rcases hat i hin k hki with hb | hb
        · have := mask_listedC h hc i o ho hd k hki hb
          exfalso
          have hks : k < listed.size := by omega
          simp [hks] at this hk0
          rw [hk0] at this
          cases this
        · exact hb) a w hh
      refine wpOp_mono (fun a' w' h3 => ih _ a' w' (by simpa using hsz) ?_ ?_ ?_) (wpOpJ_wpOp hmv)
      · intro x ox hx hox e he hb
        by_cases hxi : i = x
        · subst hxi
          rw [ho] at hox
          cases hox
          exact getD_set_true (hd e he hb)
        · rw [getD_set_ne false hxi] at hx
          exact getD_set_true (hc x ox hx hox e he hb)
      · rw [e2]
        simp only [List.length_append, List.length_cons] at hl ⊢
        omega
      · rw [e2]
        exact h3


theorem wpOp_only {R : Exit → Act → World → Prop} {i : Nat} {K : Act → World → Prop} {a : Act} {w : World} (h : wpOp P ops (Only R) i K a w) : wpOp P ops (Only Q) i K a w := by
  unfold wpOp at *
  split at h
  · exact h
  · rename_i o ho
    split at h
    · rename_i hw
      rw [if_pos hw]
      rcases h with h | ⟨_, h⟩
      case inr => exact absurd h calm_only.out
      refine .inl ?_
      unfold Oper.wp at *
      generalize (execOp a.eval o).run P w = r at *
      cases r with
      | ok n w' =>
        cases n <;> simp only [Oper.upon] at h ⊢
        case value u => exact h
        case skip => exact h
        case defer d => exact h
        case enter f args =>
          refine Calls.mono h fun e w'' he => ?_
          cases e with
          | returned u => exact he
          | panicked c => exact absurd he (calm_only.panic _ _ _)
          | outgrown => exact absurd he calm_only.out
        case row row args => exact h
      | halt x w' =>
        cases x <;> simp only [Oper.upon] at h ⊢
        case panic u => exact absurd h (calm_only.panic _ _ _)
    · rename_i hw
      rw [if_neg hw]
      exact h

theorem opsJ_of_list {R : Exit → Act → World → Prop} {t : List Nat} (hR : ∀ a w, R .normal a w → wpOpsJ P ops c (Only Q) t a w) : ∀ (l : List Oper) (k : Nat), (∀ j, j < l.length → l[j]? = ops[k + j]?) → (c < k ∨ k + l.length ≤ c) → ∀ (a : Act) (w : World), wpList P ops (Only R) (probed l) a w → wpOpsJ P ops c (Only Q) (List.range' k l.length ++ t) a w
  | [], k, _, _, a, w, h => hR a w h
  | o :: l, k, hk, hck, a, w, h => by
    have hQ : Calm (Only R) := calm_only
    have ho : ops[k]? = some o := by simpa using (hk 0 (by simp)).symm
    have hl : ∀ j, j < l.length → l[j]? = ops[k + 1 + j]? := fun j hj => by have := hk (j + 1) (by simpa using hj); simpa [Nat.add_assoc, Nat.add_comm 1 j] using this
    have hne : k ≠ c := by rcases hck with h | h <;> simp only [List.length_cons] at * <;> omega
    have hck2 : c < k + 1 ∨ k + 1 + l.length ≤ c := by simp only [List.length_cons] at hck; omega
    rw [List.length_cons, List.range'_succ, List.cons_append]
    unfold probed at h
    have hn : (Region.wanted o (yielded ops a.tmps) = true → Nums o a) ∧ wpList P ops (Only R) (o :: probed l) a w := by
      unfold probes at h
      unfold Nums
      split at h
      · rename_i op t x y u hop
        rw [List.append_assoc] at h
        obtain ⟨h1, h⟩ := probe_look hQ h
        obtain ⟨h2, h⟩ := probe_look hQ h
        rw [hop]
        exact ⟨fun hw => ⟨h1 hw, h2 hw⟩, h⟩
      · rename_i s d x hop
        obtain ⟨h1, h⟩ := probe_look hQ h
        rw [hop]
        exact ⟨h1, h⟩
      · rename_i h1 h2
        refine ⟨fun _ => ?_, h⟩
        split
        · rename_i op t x y u hop
          exact absurd hop (h1 _ _ _ _ _)
        · rename_i s d x hop
          exact absurd hop (h2 _ _ _)
        · trivial
    show wpOpJ P ops c (Only Q) k (wpOpsJ P ops c (Only Q) (List.range' (k + 1) l.length ++ t)) a w
    unfold wpOpJ
    rw [if_neg hne]
    refine ⟨fun o' ho' hw => ?_, ?_⟩
    · rw [ho] at ho'
      cases ho'
      exact hn.1 hw
    · have h2 := hn.2
      refine wpOp_only (R := R) ?_
      unfold wpList at h2
      unfold wpOp
      simp only [ho]
      split
      · rename_i hw
        simp only [hw, if_true] at h2
        exact h2.imp (fun h => Oper.wp_mono (fun a' w' h' => opsJ_of_list hR l (k + 1) hl hck2 a' w' h') h) id
      · rename_i hw
        simp only [hw] at h2
        exact opsJ_of_list hR l (k + 1) hl hck2 _ _ h2

/-- What the walk shows: the text up to the call; the call; the rest. -/
def Half (P : Program) (ops : Array Oper) (Q : Exit → Act → World → Prop) (o : Oper) (l : List Oper) : Exit → Act → World → Prop := fun _ a w => ∃ v, CallAt P ops o v a w ∧ wpList P ops (Only Q) (probed l) (a.put o.dst v) w

/-- THE LAW: where what is not ordered commutes, the call borne as a load. -/
theorem region_flat_call {id : Nat} {l : List Oper} {o : Oper} {a : Act} {w : World} (c : Nat) (hc : l[c]? = some o) (hm : P.follows .mixedOrders = true) (hok : flatOkC P l.toArray c = true)
    (h : wpList P l.toArray (Only (Half P l.toArray Q o (l.drop (c + 1)))) (probed (l.take c)) a w.drew) : (Code.region id l.toArray true).wp P Q a w := by
  have hcl : c < l.length := (List.getElem?_eq_some_iff.1 hc).1
  have hr : restOf l.toArray.size (Array.replicate l.toArray.size false) = List.range' 0 (l.take c).length ++ (c :: List.range' (c + 1) (l.drop (c + 1)).length) := by
    have e1 : restOf l.toArray.size (Array.replicate l.toArray.size false) = List.range' 0 l.length := by
      unfold restOf
      rw [← List.range_eq_range']
      simp only [List.size_toArray]
      refine List.filter_eq_self.2 fun j hj => ?_
      have := List.mem_range.1 hj
      simp [this]
    rw [e1]
    have e2 : l.length = c + ((l.length - c - 1) + 1) := by omega
    rw [show (l.take c).length = c from by rw [List.length_take]; omega, show (l.drop (c + 1)).length = l.length - c - 1 from by rw [List.length_drop]; omega]
    conv => lhs; rw [e2]
    rw [← List.range'_append_1, Nat.zero_add, List.range'_succ]
  have h0 : ∀ a w, Half P l.toArray Q o (l.drop (c + 1)) .normal a w → wpOpsJ P l.toArray c (Only Q) (c :: List.range' (c + 1) (l.drop (c + 1)).length) a w := by
    rintro a w ⟨v, h1, h2⟩
    show wpOpJ P l.toArray c (Only Q) c (wpOpsJ P l.toArray c (Only Q) (List.range' (c + 1) (l.drop (c + 1)).length)) a w
    unfold wpOpJ
    rw [if_pos rfl]
    refine ⟨o, v, by simpa using hc, h1, ?_⟩
    have := opsJ_of_list (P := P) (ops := l.toArray) (c := c) (Q := Q) (R := Q) (t := []) (fun a w h => h) (l.drop (c + 1)) (c + 1) (fun j hj => by simp) (Or.inl (Nat.lt_succ_self c)) _ _ h2
    rw [List.append_nil] at this
    exact this
  have h1 := opsJ_of_list (P := P) (ops := l.toArray) (c := c) (Q := Q) (R := Half P l.toArray Q o (l.drop (c + 1))) h0 (l.take c) 0 (fun j hj => by
    rw [List.length_take] at hj
    rw [List.getElem?_take_of_lt (by omega)]
    simp) (Or.inr (by rw [List.length_take]; omega)) a w.drew h
  have h2 : wpAny P .any l.toArray (Only Q) l.toArray.size (Array.replicate l.toArray.size false) a w.drew :=
    any_of_flatC calm_only hok _ _ _ _ (by simp) (by
      intro x o hx
      exfalso
      by_cases hx' : x < l.toArray.size
      · simp at hx' hx
        simp [hx'] at hx
      · simp at hx' hx
        simp [Nat.not_lt.2 hx'] at hx) (by rw [hr]; simp; omega) (by rw [hr]; exact h1)
  refine Go.Code.wp_mono (Q := Only Q) ?_ (wp_region_any hm h2)
  intro e a' w' he
  cases e with
  | normal => exact he
  | _ => exact absurd he (by intro h; exact h)

theorem run_static {o : Oper} {a : Act} {w : World} {f : FuncId} {args : Array Operand} {ts : Array TypeId} (ho : o.op = .call { callee := .value (.func f), args := args, argTypes := ts })
    (eg : ∀ args w, (callFunc f args).run P w = .ok (.enter f args) w) : (execOp a.eval o).run P w = .ok (.enter f (args.map a.eval)) w := by
  unfold execOp
  simp [ho, resolve, Deferred.ofValue, Act.eval, invoke, eg]

/-- A call of a function by its number, with no guard: its contract says that the world is as it was. -/
theorem half_static {o : Oper} {l : List Oper} {a : Act} {w : World} {f : FuncId} {args : Array Operand} {ts : Array TypeId} {vs : Array Value} (v : Value) (hg : o.guard = none) (ho : o.op = .call { callee := .value (.func f), args := args, argTypes := ts })
    (eg : ∀ args w, (callFunc f args).run P w = .ok (.enter f args) w) (hv : args.map a.eval = vs) (hc : ∀ W, Touch [] w W → Calls P f vs W fun e w' => e = .returned v ∧ W = w')
    (h : wpList P ops (Only Q) (probed l) (a.put o.dst v) w) : Half P ops Q o l .normal a w :=
  ⟨v, .inl ⟨by unfold Region.wanted; rw [hg], fun W t => ⟨f, vs, by rw [← hv]; exact run_static ho eg, hc W t⟩⟩, h⟩

end
end Go.Proofs.Ytlndihdlodempaa.Z

/- A region that draws its order, walked in an order that is told: one call that makes memory is borne beside loads that may come ahead of it or behind it; sums must be ordered with all. No program is in sight. -/
set_option linter.unusedVariables false
set_option linter.unusedSimpArgs false
namespace Go.Proofs.Ytlndihdlodempaa.Z
open Go

section
variable {P : Program} {ops : Array Oper} {Q : Exit → Act → World → Prop} {c : Nat}

/-- What may come anywhere, sums left out. -/
def blind2 (P : Program) (o : Oper) : Bool :=
  match o.op with
  | .binOp .. => false
  | .convert .. => false
  | _ => blindOp P o

theorem blind2_blind {o : Oper} (h : blind2 P o = true) : blindOp P o = true := by
  unfold blind2 at h
  split at h
  · cases h
  · cases h
  · exact h

theorem blind2_nums {o : Oper} {a : Act} (h : blind2 P o = true) : Nums o a := by
  obtain ⟨dst, op, type, pos, after, guard⟩ := o
  cases op <;> simp only [blind2, Bool.false_eq_true] at h <;> exact trivial

theorem blind2_yields {i : Nat} {oi : Oper} {a : Act} {w : World} {K : Act → World → Prop} (hQ : Calm Q) (hi : ops[i]? = some oi) (hb : blind2 P oi = true) (h : wpOp P ops Q i K a w) :
    ∃ v, Yields P ops oi v a ∧ K (a.put oi.dst v) w :=
  blind_yields hQ hi (blind2_blind hb) ⟨fun o ho _ => by rw [hi] at ho; cases ho; exact blind2_nums hb, h⟩

theorem swap1K {i j : Nat} {oi oj : Oper} {K : Act → World → Prop} {a : Act} {w : World} (hQ : Calm Q) (hi : ops[i]? = some oi) (hj : ops[j]? = some oj)
    (hsi : ∀ cs b, oi.op ≠ .select cs b) (hsj : ∀ cs b, oj.op ≠ .select cs b) (hb : blind2 P oi = true) (hap : oi.apart ops oj = true)
    (h : wpOp P ops Q i (wpOp P ops Q j K) a w) : wpOp P ops Q j (wpOp P ops Q i K) a w := by
  obtain ⟨v, hy, hk⟩ := blind2_yields hQ hi hb h
  have h2 := wpOp_put hj hap hsi hsj (fun c a w h => absurd h (hQ.panic _ _ _)) hy hk
  exact wpOp_mono (fun a' w' h3 => Yields.wpOp hi h3.1 h3.2) h2

theorem swap2K {i j : Nat} {oi oj : Oper} {K : Act → World → Prop} {a : Act} {w : World} (hQ : Calm Q) (hi : ops[i]? = some oi) (hj : ops[j]? = some oj)
    (hsi : ∀ cs b, oi.op ≠ .select cs b) (hsj : ∀ cs b, oj.op ≠ .select cs b) (hb : blind2 P oi = true) (hap : oi.apart ops oj = true)
    (h : wpOp P ops Q j (wpOp P ops Q i K) a w) : wpOp P ops Q i (wpOp P ops Q j K) a w := by
  obtain ⟨a1, a2, a3⟩ := Oper.apart_spec hap
  have hs := wpOp_shape hj h
  obtain ⟨b, wb, hsb, hib⟩ := wpOp_reach hQ hs
  obtain ⟨v, hyb, _⟩ := blind2_yields hQ hi hb hib
  have hy : Yields P ops oi v a := hyb.of_same (shape_exec (ops := ops) hsi a3 hsb).symm (shape_wanted (ops := ops) a3 hsb).symm
  refine Yields.wpOp hi hy ?_
  refine wpOp_unput (i := i) hQ hj hap hsj hs fun a' w' hsh hk => ?_
  obtain ⟨v', hy', hk'⟩ := blind2_yields hQ hi hb hk.2
  have hy2 : Yields P ops oi v a' := hy.of_same (shape_exec (ops := ops) hsi a3 hsh) (shape_wanted (ops := ops) a3 hsh)
  rw [yields_same hy2 hy']
  exact hk'

theorem swap3K {i j : Nat} {oi oj : Oper} {K : Act → World → Prop} {a : Act} {w : World} (hQ : Calm Q) (hi : ops[i]? = some oi) (hj : ops[j]? = some oj)
    (hsi : ∀ cs b, oi.op ≠ .select cs b) (hsj : ∀ cs b, oj.op ≠ .select cs b) (hli : loadOp oi = true) (hlj : loadOp oj = true) (hap : oi.apart ops oj = true)
    (h : wpOp P ops Q j (wpOp P ops Q i K) a w) : wpOp P ops Q i (wpOp P ops Q j K) a w := by
  have h' := swap3 (K := K) hQ hi hj hsi hsj hli hlj hap ⟨fun o ho _ => by rw [hj] at ho; cases ho; exact nums_load hlj, wpOp_mono (fun a w k => ⟨fun o ho _ => by rw [hi] at ho; cases ho; exact nums_load hli, k⟩) h⟩
  exact wpOp_mono (fun a w k => k.2) h'.2

theorem swap4K {i k : Nat} {oi ok : Oper} {K : Act → World → Prop} {a : Act} {w : World} (hQ : Calm Q) (hi : ops[i]? = some oi) (hk : ops[k]? = some ok)
    (hsi : ∀ cs b, oi.op ≠ .select cs b) (hsk : ∀ cs b, ok.op ≠ .select cs b) (hni : newOp oi = true) (hlk : loadOp ok = true) (hap : oi.apart ops ok = true)
    (h : wpOp P ops Q k (wpOp P ops Q i K) a w) : wpOp P ops Q i (wpOp P ops Q k K) a w := by
  have h' := swap4 (K := K) hQ hi hk hsi hsk hni hlk hap ⟨fun o ho _ => by rw [hk] at ho; cases ho; exact nums_load hlk, wpOp_mono (fun a w k => ⟨fun o ho _ => by rw [hi] at ho; cases ho; exact nums_new hni, k⟩) h⟩
  exact wpOp_mono (fun a w k => k.2) h'.2

/-- The call: what it tells may differ from world to world; it makes memory, and no more. -/
def CallK (P : Program) (ops : Array Oper) (o : Oper) (K : Act → World → Prop) (a : Act) (w : World) : Prop :=
  (Region.wanted o (yielded ops a.tmps) = true ∧ (∀ W, Touch [] w W → ∃ f args, (execOp a.eval o).run P W = .ok (.enter f args) W ∧ Calls P f args W fun e w' => ∃ v, e = .returned v ∧ Touch [] W w' ∧ K (a.put o.dst v) w')) ∨ (Region.wanted o (yielded ops a.tmps) = false ∧ K (a.put o.dst undef) w)

theorem CallK.wpOp {i : Nat} {o : Oper} {a : Act} {w : World} {K : Act → World → Prop} (hi : ops[i]? = some o) (h : CallK P ops o K a w) : wpOp P ops Q i K a w := by
  unfold Go.wpOp
  simp only [hi]
  rcases h with ⟨hw, hf⟩ | ⟨hw, hk⟩
  · obtain ⟨f, args, hv, hc⟩ := hf w (Touch.refl _ _)
    simp only [hw, if_true, Oper.wp, hv, Oper.upon]
    refine .inl (Calls.mono hc ?_)
    rintro e w' ⟨v, rfl, _, hk⟩
    exact hk
  · simp only [hw, Bool.false_eq_true, if_false]; exact hk

theorem CallK.mono {o : Oper} {a : Act} {w : World} {K K' : Act → World → Prop} (h : ∀ a w, K a w → K' a w) (hh : CallK P ops o K a w) : CallK P ops o K' a w := by
  rcases hh with ⟨hw, hf⟩ | ⟨hw, hk⟩
  · refine .inl ⟨hw, fun W t => ?_⟩
    obtain ⟨f, args, hv, hc⟩ := hf W t
    exact ⟨f, args, hv, hc.mono fun e w' ⟨v, he, ht, hk⟩ => ⟨v, he, ht, h _ _ hk⟩⟩
  · exact .inr ⟨hw, h _ _ hk⟩

def wpOpK (P : Program) (ops : Array Oper) (c : Nat) (Q : Exit → Act → World → Prop) (i : Nat) (K : Act → World → Prop) (a : Act) (w : World) : Prop :=
  if i = c then ∃ o, ops[i]? = some o ∧ CallK P ops o K a w else wpOp P ops Q i K a w

def wpOpsK (P : Program) (ops : Array Oper) (c : Nat) (Q : Exit → Act → World → Prop) : List Nat → Act → World → Prop
  | [], a, w => Q .normal a w
  | i :: rest, a, w => wpOpK P ops c Q i (wpOpsK P ops c Q rest) a w

theorem wpOpK_mono {i : Nat} {a : Act} {w : World} {K K' : Act → World → Prop} (h : ∀ a w, K a w → K' a w) (hh : wpOpK P ops c Q i K a w) : wpOpK P ops c Q i K' a w := by
  unfold wpOpK at *
  split
  · rename_i hc
    rw [if_pos hc] at hh
    obtain ⟨o, h1, h2⟩ := hh
    exact ⟨o, h1, h2.mono h⟩
  · rename_i hc
    rw [if_neg hc] at hh
    exact wpOp_mono h hh

theorem wpOpK_wpOp {i : Nat} {a : Act} {w : World} {K : Act → World → Prop} (hh : wpOpK P ops c Q i K a w) : wpOp P ops Q i K a w := by
  unfold wpOpK at hh
  split at hh
  · obtain ⟨o, h1, h2⟩ := hh
    exact h2.wpOp h1
  · exact hh

theorem wpOpK_ne {i : Nat} (h : i ≠ c) (K : Act → World → Prop) : wpOpK P ops c Q i K = wpOp P ops Q i K := by
  funext a w
  unfold wpOpK
  rw [if_neg h]

/-- A blind one is first, the call comes ahead of it. -/
theorem swapCb {i : Nat} {oi oj : Oper} {K : Act → World → Prop} {a : Act} {w : World} (hQ : Calm Q) (hi : ops[i]? = some oi) (hj : ops[c]? = some oj)
    (hsi : ∀ cs b, oi.op ≠ .select cs b) (hsj : ∀ cs b, oj.op ≠ .select cs b) (hb : blind2 P oi = true) (hap : oi.apart ops oj = true)
    (h : wpOp P ops Q i (wpOpK P ops c Q c K) a w) : wpOpK P ops c Q c (wpOp P ops Q i K) a w := by
  obtain ⟨v, hy, hk⟩ := blind2_yields hQ hi hb h
  obtain ⟨a1, a2, a3⟩ := Oper.apart_spec hap
  unfold wpOpK at hk ⊢
  rw [if_pos rfl] at hk ⊢
  obtain ⟨o, ho, hk⟩ := hk
  rw [hj] at ho
  cases ho
  refine ⟨oj, hj, ?_⟩
  have step : ∀ (u : Value) (w' : World), K ((a.put oi.dst v).put oj.dst u) w' → Go.wpOp P ops Q i K (a.put oj.dst u) w' := fun u w' hK =>
    Yields.wpOp hi (hy.of_same (execOp_put oi hsi a oj.dst u a3) (wanted_put oi a oj.dst u a3)) (by rw [← Act.put_comm a v u a2]; exact hK)
  unfold CallK at hk ⊢
  rw [wanted_put oj a oi.dst v a1, execOp_put oj hsj a oi.dst v a1] at hk
  rcases hk with ⟨hw, hf⟩ | ⟨hw, hk⟩
  · refine .inl ⟨hw, fun W t => ?_⟩
    obtain ⟨f, args, hv, hc⟩ := hf W t
    exact ⟨f, args, hv, hc.mono fun e w' ⟨u, he, ht, hK⟩ => ⟨u, he, ht, step u w' hK⟩⟩
  · exact .inr ⟨hw, step _ _ hk⟩

/-- A load is first, the call comes ahead of it. -/
theorem swapCl {i : Nat} {oi oj : Oper} {K : Act → World → Prop} {a : Act} {w : World} (hQ : Calm Q) (hi : ops[i]? = some oi) (hj : ops[c]? = some oj)
    (hsi : ∀ cs b, oi.op ≠ .select cs b) (hsj : ∀ cs b, oj.op ≠ .select cs b) (hb : loadOp oi = true) (hap : oi.apart ops oj = true)
    (h : wpOp P ops Q i (wpOpK P ops c Q c K) a w) : wpOpK P ops c Q c (wpOp P ops Q i K) a w := by
  obtain ⟨v, hy, hk⟩ := load_at hQ hi hb h
  obtain ⟨a1, a2, a3⟩ := Oper.apart_spec hap
  unfold wpOpK at hk ⊢
  rw [if_pos rfl] at hk ⊢
  obtain ⟨o, ho, hk⟩ := hk
  rw [hj] at ho
  cases ho
  refine ⟨oj, hj, ?_⟩
  have step : ∀ (u : Value) (w' : World), Touch [] w w' → K ((a.put oi.dst v).put oj.dst u) w' → Go.wpOp P ops Q i K (a.put oj.dst u) w' := fun u w' t hK =>
    LoadsAt.wpOp hi ((hy.grow hb t).of_same (execOp_put oi hsi a oj.dst u a3) (wanted_put oi a oj.dst u a3)) (by rw [← Act.put_comm a v u a2]; exact hK)
  unfold CallK at hk ⊢
  rw [wanted_put oj a oi.dst v a1, execOp_put oj hsj a oi.dst v a1] at hk
  rcases hk with ⟨hw, hf⟩ | ⟨hw, hk⟩
  · refine .inl ⟨hw, fun W t => ?_⟩
    obtain ⟨f, args, hv, hc⟩ := hf W t
    exact ⟨f, args, hv, hc.mono fun e w' ⟨u, he, ht, hK⟩ => ⟨u, he, ht, step u w' (t.trans ht) hK⟩⟩
  · exact .inr ⟨hw, step _ _ (Touch.refl _ _) hk⟩

/-- Two operations that may come in either order (k stands first). -/
def compatK (P : Program) (ops : Array Oper) (c k i : Nat) : Bool :=
  match ops[k]?, ops[i]? with
  | some x, some y => x.apart ops y && y.apart ops x && k != c && (if i = c then blind2 P x || loadOp x else (blind2 P x || blind2 P y || (loadOp x && (loadOp y || newOp y))))
  | _, _ => false

theorem swapAnyK (hQ : Calm Q) (hs : Region.noSelect ops = true) {k i : Nat} (h : compatK P ops c k i = true) {K : Act → World → Prop} {a : Act} {w : World}
    (hh : wpOpK P ops c Q k (wpOpK P ops c Q i K) a w) : wpOpK P ops c Q i (wpOpK P ops c Q k K) a w := by
  unfold compatK at h
  split at h
  · rename_i x y hx hy
    simp only [Bool.and_eq_true, bne_iff_ne, ne_eq] at h
    obtain ⟨⟨⟨h1, h2⟩, hne⟩, h3⟩ := h
    have sx := Region.noSelect_spec hs k x
    have sy := Region.noSelect_spec hs i y
    rw [wpOpK_ne hne] at hh ⊢
    split at h3
    · rename_i hi
      subst hi
      simp only [Bool.or_eq_true] at h3
      rcases h3 with h3 | h3
      · exact swapCb hQ hx hy (fun cs b => sx cs b hx) (fun cs b => sy cs b hy) h3 h1 hh
      · exact swapCl hQ hx hy (fun cs b => sx cs b hx) (fun cs b => sy cs b hy) h3 h1 hh
    · rename_i hi
      rw [wpOpK_ne hi] at hh ⊢
      simp only [Bool.or_eq_true, Bool.and_eq_true] at h3
      rcases h3 with (h3 | h3) | ⟨h3, h4 | h4⟩
      · exact swap1K hQ hx hy (fun cs b => sx cs b hx) (fun cs b => sy cs b hy) h3 h1 hh
      · exact swap2K hQ hy hx (fun cs b => sy cs b hy) (fun cs b => sx cs b hx) h3 h2 hh
      · exact swap3K hQ hy hx (fun cs b => sy cs b hy) (fun cs b => sx cs b hx) h4 h3 h2 hh
      · exact swap4K hQ hy hx (fun cs b => sy cs b hy) (fun cs b => sx cs b hx) h4 h3 h2 hh
  · cases h

theorem moveFirstK (hQ : Calm Q) (hs : Region.noSelect ops = true) {i : Nat} {t2 : List Nat} : ∀ (t1 : List Nat), (∀ k, k ∈ t1 → compatK P ops c k i = true) → ∀ (a : Act) (w : World),
    wpOpsK P ops c Q (t1 ++ i :: t2) a w → wpOpsK P ops c Q (i :: (t1 ++ t2)) a w
  | [], _, a, w, h => h
  | k :: t1, hc, a, w, h => by
    have h1 : wpOpK P ops c Q k (wpOpK P ops c Q i (wpOpsK P ops c Q (t1 ++ t2))) a w :=
      wpOpK_mono (fun a' w' h' => moveFirstK hQ hs t1 (fun k hk => hc k (List.mem_cons_of_mem _ hk)) a' w' h') h
    exact swapAnyK hQ hs (hc k (by simp)) h1

def edgesIn (ops : Array Oper) (pre : List Nat) (i : Nat) : Bool :=
  match ops[i]? with
  | some o => o.after.all fun e => !Region.binds .any e || pre.contains e.on
  | none => false
def maskedOr (P : Program) (ops : Array Oper) (c : Nat) (M : Array Nat) (i k : Nat) : Bool := (decide (k < i) && (M.getD i 0).testBit k) || compatK P ops c k i

/-- An order that is told: what stands first is ordered so, or may come in either order. -/
def ordOk (P : Program) (ops : Array Oper) (c : Nat) (M : Array Nat) : List Nat → List Nat → Bool
  | _, [] => true
  | pre, i :: rest => edgesIn ops pre i && pre.all (maskedOr P ops c M i) && !pre.contains i && ordOk P ops c M (i :: pre) rest

theorem ordOk_at {M : Array Nat} {i : Nat} {q : List Nat} : ∀ (p pre : List Nat), ordOk P ops c M pre (p ++ i :: q) = true →
    (∃ o, ops[i]? = some o ∧ ∀ e ∈ o.after, Region.binds .any e = true → e.on ∈ p ∨ e.on ∈ pre) ∧ (∀ k, k ∈ p ∨ k ∈ pre → maskedOr P ops c M i k = true) ∧ i ∉ pre
  | [], pre, h => by
    rw [List.nil_append] at h
    unfold ordOk at h
    simp only [Bool.and_eq_true, List.all_eq_true, Bool.not_eq_true', List.contains_eq_mem, decide_eq_false_iff_not] at h
    obtain ⟨⟨⟨h1, h2⟩, h3⟩, _⟩ := h
    refine ⟨?_, fun k hk => h2 k (by simpa using hk), h3⟩
    unfold edgesIn at h1
    split at h1
    · rename_i o ho
      refine ⟨o, ho, fun e he hb => .inr ?_⟩
      have := Array.all_eq_true_iff_forall_mem.1 h1 e he
      simpa [hb] using this
    · cases h1
  | j :: p, pre, h => by
    rw [List.cons_append] at h
    unfold ordOk at h
    simp only [Bool.and_eq_true] at h
    obtain ⟨⟨o, ho, h1⟩, h2, h3⟩ := ordOk_at p (j :: pre) h.2
    refine ⟨⟨o, ho, fun e he hb => ?_⟩, fun k hk => h2 k ?_, fun hm => h3 (List.mem_cons_of_mem _ hm)⟩
    · rcases h1 e he hb with h | h
      · exact .inl (List.mem_cons_of_mem _ h)
      · rcases List.mem_cons.1 h with h | h
        · exact .inl (by rw [h]; simp)
        · exact .inr h
    · rcases hk with hk | hk
      · rcases List.mem_cons.1 hk with hk | hk
        · exact .inr (by rw [hk]; simp)
        · exact .inl hk
      · exact .inr (List.mem_cons_of_mem _ hk)

theorem ordOk_nodup {M : Array Nat} : ∀ (l pre : List Nat), ordOk P ops c M pre l = true → l.Nodup ∧ ∀ x, x ∈ l → x ∉ pre
  | [], _, _ => ⟨List.nodup_nil, by simp⟩
  | i :: l, pre, h => by
    unfold ordOk at h
    simp only [Bool.and_eq_true, Bool.not_eq_true', List.contains_eq_mem, decide_eq_false_iff_not] at h
    obtain ⟨h1, h2⟩ := ordOk_nodup l (i :: pre) h.2
    refine ⟨List.nodup_cons.2 ⟨fun hm => h2 i hm (by simp), h1⟩, fun x hx hm => ?_⟩
    rcases List.mem_cons.1 hx with rfl | hx
    · exact h.1.2 hm
    · exact h2 x hx (List.mem_cons_of_mem _ hm)

def backOk (ops : Array Oper) (i : Nat) : Bool :=
  match ops[i]? with
  | some o => o.after.all fun e => !Region.binds .any e || decide (e.on < i)
  | none => true

theorem mask_listed2 {M : Array Nat} (h : (List.range ops.size).all (fun i => backOk ops i && maskOk ops M i) = true) {listed : Array Bool} (hc : Closed ops listed) : ∀ (i : Nat) (o : Oper), ops[i]? = some o → (∀ e ∈ o.after, Region.binds .any e = true → listed.getD e.on false = true) →
    ∀ k, k < i → (M.getD i 0).testBit k = true → listed.getD k false = true := by
  intro i
  induction i using Nat.strongRecOn with
  | ind i ih =>
    intro o ho hd k hk hb
    have h' := h
    simp only [List.all_eq_true, List.mem_range, Bool.and_eq_true] at h'
    obtain ⟨h0, h2⟩ := h' i (Array.getElem?_eq_some_iff.1 ho).1
    unfold backOk at h0
    simp only [ho] at h0
    unfold maskOk at h2
    simp only [List.all_eq_true, List.mem_range, ho] at h2
    have h3 := h2 k hk
    simp only [hb, Bool.not_true, Bool.false_or] at h3
    obtain ⟨e, he, h4⟩ := Array.any_eq_true'.1 h3
    simp only [Bool.and_eq_true, Bool.or_eq_true, beq_iff_eq, decide_eq_true_eq] at h4
    have hlt : e.on < i := by
      have := Array.all_eq_true_iff_forall_mem.1 h0 e he
      simpa [h4.1] using this
    have hl := hd e he h4.1
    rcases h4.2 with h5 | ⟨hke, h5⟩
    · rw [← h5]; exact hl
    · have hn : e.on < ops.size := Nat.lt_trans hlt (Array.getElem?_eq_some_iff.1 ho).1
      exact ih e.on hlt ops[e.on] (Array.getElem?_eq_getElem hn) (hc e.on _ hl (Array.getElem?_eq_getElem hn)) k hke h5

/-- What is still to come, in the order that is told. -/
def restO (ord : List Nat) (listed : Array Bool) : List Nat := ord.filter fun j => !listed.getD j true

theorem restO_split {p q : List Nat} {i : Nat} {listed : Array Bool} (hn : (p ++ i :: q).Nodup) (hi : i < listed.size) (h0 : listed.getD i true = false) :
    restO (p ++ i :: q) listed = restO p listed ++ i :: restO q listed ∧ restO (p ++ i :: q) (listed.setIfInBounds i true) = restO p listed ++ restO q listed := by
  obtain ⟨hp, hq, hpq⟩ := List.nodup_append.1 hn
  have ip : ∀ j, j ∈ p → j ≠ i := fun j hj e => hpq j hj i (by simp) e
  have iq : ∀ j, j ∈ q → j ≠ i := fun j hj e => (List.nodup_cons.1 hq).1 (e ▸ hj)
  constructor
  · unfold restO
    rw [List.filter_append, List.filter_cons]
    simp only [h0, Bool.not_false, if_true]
  · unfold restO
    rw [List.filter_append, List.filter_cons]
    have e1 : (listed.setIfInBounds i true).getD i true = true := by simp [Array.getElem?_setIfInBounds, hi]
    simp only [e1, Bool.not_true, Bool.false_eq_true, if_false]
    congr 1
    · exact List.filter_congr fun j hj => by rw [getD_set_ne true (fun e => ip j hj e.symm)]
    · exact List.filter_congr fun j hj => by rw [getD_set_ne true (fun e => iq j hj e.symm)]

theorem any_of_ord {M : Array Nat} {ord : List Nat} (hQ : Calm Q) (hs : Region.noSelect ops = true) (hM : (List.range ops.size).all (fun i => backOk ops i && maskOk ops M i) = true) (ho : ordOk P ops c M [] ord = true) (hall : ∀ i, i < ops.size → i ∈ ord) :
    ∀ (fuel : Nat) (listed : Array Bool) (a : Act) (w : World), listed.size = ops.size → Closed ops listed → (restO ord listed).length ≤ fuel →
    wpOpsK P ops c Q (restO ord listed) a w → wpAny P .any ops Q fuel listed a w := by
  have hnd := (ordOk_nodup ord [] ho).1
  have hsz0 : ∀ j, j ∈ ord → j < ops.size := fun j hj => by
    obtain ⟨p, q, rfl⟩ := List.append_of_mem hj
    obtain ⟨⟨o, h1, _⟩, _⟩ := ordOk_at p [] ho
    exact (Array.getElem?_eq_some_iff.1 h1).1
  have hready : ∀ (listed : Array Bool), listed.size = ops.size → Region.ready .any ops listed = [] → restO ord listed = [] := by
    intro listed hsz hr
    cases ht : restO ord listed with
    | nil => rfl
    | cons j t =>
      exfalso
      have hj : j ∈ restO ord listed := by rw [ht]; simp
      obtain ⟨hjo, hj0⟩ := List.mem_filter.1 hj
      have hj0 : listed.getD j true = false := by simpa using hj0
      obtain ⟨p, q, rfl⟩ := List.append_of_mem hjo
      obtain ⟨⟨o, ho1, ho2⟩, _, _⟩ := ordOk_at p [] ho
      have hjn : j < listed.size := by rw [hsz]; exact hsz0 j hjo
      have hp : restO p listed = [] := by
        have h1 := (restO_split hnd hjn hj0).1
        rw [ht] at h1
        cases hpp : restO p listed with
        | nil => rfl
        | cons x xs =>
          exfalso
          rw [hpp] at h1
          have hx : x = j := by injection h1 with h1 _; exact h1.symm
          have hxm : x ∈ p := (List.mem_filter.1 (show x ∈ restO p listed by rw [hpp]; simp)).1
          exact (List.nodup_append.1 hnd).2.2 x hxm j (by simp) hx
      have : j ∈ Region.ready .any ops listed := by
        rw [mem_ready]
        refine ⟨hj0, o, ho1, fun e he hb => ?_⟩
        have hep : e.on ∈ p := by
          rcases ho2 e he hb with h | h
          · exact h
          · cases h
        have hes : e.on < listed.size := by rw [hsz]; exact hsz0 _ (List.mem_append_left _ hep)
        have hl : listed.getD e.on true = true := by
          cases h : listed.getD e.on true with
          | true => rfl
          | false =>
            have : e.on ∈ restO p listed := List.mem_filter.2 ⟨hep, by simpa using h⟩
            rw [hp] at this
            cases this
        simpa [hes] using hl
      rw [hr] at this
      cases this
  intro fuel
  induction fuel with
  | zero =>
    intro listed a w hsz hc hl hh
    have hnil : restO ord listed = [] := List.eq_nil_of_length_eq_zero (by omega)
    rw [hnil] at hh
    refine ⟨?_, hh⟩
    cases hr : Region.ready .any ops listed with
    | nil => rfl
    | cons j t =>
      exfalso
      have hj : j ∈ Region.ready .any ops listed := by rw [hr]; simp
      obtain ⟨h0, o, ho, _⟩ := mem_ready.1 hj
      have : j ∈ restO ord listed := List.mem_filter.2 ⟨hall j (Array.getElem?_eq_some_iff.1 ho).1, by simpa using h0⟩
      rw [hnil] at this
      cases this
  | succ fuel ih =>
    intro listed a w hsz hc hl hh
    refine ⟨fun hr => ?_, fun i hi => ?_⟩
    · rw [hready listed hsz hr] at hh
      exact hh
    · obtain ⟨h0, o, hoi, hd⟩ := mem_ready.1 hi
      have hin := (Array.getElem?_eq_some_iff.1 hoi).1
      obtain ⟨p, q, rfl⟩ := List.append_of_mem (hall i hin)
      obtain ⟨e1, e2⟩ := restO_split hnd (by rw [hsz]; exact hin) h0
      obtain ⟨_, hat, _⟩ := ordOk_at p [] ho
      rw [e1] at hh hl
      have hmv := moveFirstK hQ hs (restO p listed) (fun k hk => by
        obtain ⟨hkp, hk0⟩ := List.mem_filter.1 hk
        have hk0 : listed.getD k true = false := by simpa using hk0
        have hm := hat k (.inl hkp)
        unfold maskedOr at hm
        simp only [Bool.or_eq_true, Bool.and_eq_true, decide_eq_true_eq] at hm
        rcases hm with ⟨hki, hb⟩ | hb
        · have := mask_listed2 hM hc i o hoi hd k hki hb
          exfalso
          have hks : k < listed.size := by omega
          simp [hks] at this hk0
          rw [hk0] at this
          cases this
        · exact hb) a w hh
      refine wpOp_mono (fun a' w' h3 => ih _ a' w' (by simpa using hsz) ?_ ?_ ?_) (wpOpK_wpOp hmv)
      · intro x ox hx hox e he hb
        by_cases hxi : i = x
        · subst hxi
          rw [hoi] at hox
          cases hox
          exact getD_set_true (hd e he hb)
        · rw [getD_set_ne false hxi] at hx
          exact getD_set_true (hc x ox hx hox e he hb)
      · rw [e2]
        simp only [List.length_append, List.length_cons] at hl ⊢
        omega
      · rw [e2]
        exact h3

theorem opsK_of_list {R : Exit → Act → World → Prop} {t : List Nat} (hR : ∀ a w, R .normal a w → wpOpsK P ops c (Only Q) t a w) : ∀ (l : List Oper) (is : List Nat), l.map some = is.map (fun i => ops[i]?) → c ∉ is → ∀ (a : Act) (w : World), wpList P ops (Only R) l a w → wpOpsK P ops c (Only Q) (is ++ t) a w
  | [], [], _, _, a, w, h => hR a w h
  | [], _ :: _, h, _, _, _, _ => by simp at h
  | _ :: _, [], h, _, _, _, _ => by simp at h
  | o :: l, k :: is, hm, hc, a, w, h => by
    simp only [List.map_cons, List.cons.injEq] at hm
    obtain ⟨ho, hm⟩ := hm
    have hne : k ≠ c := fun e => hc (by simp [e])
    show wpOpK P ops c (Only Q) k (wpOpsK P ops c (Only Q) (is ++ t)) a w
    rw [wpOpK_ne hne]
    refine wpOp_only (R := R) ?_
    unfold wpList at h
    unfold wpOp
    simp only [← ho]
    split
    · rename_i hw
      simp only [hw, if_true] at h
      exact h.imp (fun h => Oper.wp_mono (fun a' w' h' => opsK_of_list hR l is hm (fun hm => hc (List.mem_cons_of_mem _ hm)) a' w' h') h) id
    · rename_i hw
      simp only [hw] at h
      exact opsK_of_list hR l is hm (fun hm => hc (List.mem_cons_of_mem _ hm)) _ _ h

theorem map_range (l : List Oper) (s k : Nat) (h : s + k ≤ l.length) : ((l.drop s).take k).map some = (List.range' s k).map (fun i => l.toArray[i]?) := by
  refine List.ext_getElem (by simp; omega) fun n h1 h2 => ?_
  simp only [List.length_map, List.length_take, List.length_drop] at h1
  have : s + n < l.length := by omega
  simp [this]

/-- THE CHECK: the call at c comes behind the m operations that stand behind it in the text; what is not ordered may come in either order. -/
def movedOk (P : Program) (ops : Array Oper) (c m : Nat) : Bool :=
  Region.noSelect ops && (List.range ops.size).all (fun i => backOk ops i && maskOk ops (Region.before ops) i) && ordOk P ops c (Region.before ops) [] (List.range' 0 c ++ (List.range' (c + 1) m ++ c :: List.range' (c + 1 + m) (ops.size - c - 1 - m))) && decide (c + 1 + m ≤ ops.size)

def HalfK (P : Program) (ops : Array Oper) (Q : Exit → Act → World → Prop) (o : Oper) (l : List Oper) : Exit → Act → World → Prop := fun _ a w => CallK P ops o (wpList P ops (Only Q) l) a w

/-- THE LAW: a drawn region whose call at c makes memory: walked in the order of its text, but for the call, which comes behind the m operations that stand behind it. -/
theorem region_moved {id : Nat} {l : List Oper} {o : Oper} {a : Act} {w : World} (c m : Nat) (hc : l[c]? = some o) (hm : P.follows .mixedOrders = true) (hok : movedOk P l.toArray c m = true)
    (h : wpList P l.toArray (Only (HalfK P l.toArray Q o (l.drop (c + 1 + m)))) (l.take c ++ (l.drop (c + 1)).take m) a w.drew) : (Code.region id l.toArray true).wp P Q a w := by
  have hcl : c < l.length := (List.getElem?_eq_some_iff.1 hc).1
  unfold movedOk at hok
  simp only [Bool.and_eq_true, decide_eq_true_eq, List.size_toArray] at hok
  obtain ⟨⟨⟨hs, hM⟩, ho⟩, hcm⟩ := hok
  have hall : ∀ i, i < l.toArray.size → i ∈ List.range' 0 c ++ (List.range' (c + 1) m ++ c :: List.range' (c + 1 + m) (l.length - c - 1 - m)) := by
    intro i hi
    simp only [List.size_toArray] at hi
    simp only [List.mem_append, List.mem_cons, List.mem_range'_1]
    omega
  have hr : restO (List.range' 0 c ++ (List.range' (c + 1) m ++ c :: List.range' (c + 1 + m) (l.length - c - 1 - m))) (Array.replicate l.toArray.size false) = (List.range' 0 c ++ List.range' (c + 1) m) ++ (c :: List.range' (c + 1 + m) (l.length - c - 1 - m)) := by
    rw [List.append_assoc]
    unfold restO
    refine List.filter_eq_self.2 fun j hj => ?_
    have : j < l.length := by
      simp only [List.mem_append, List.mem_cons, List.mem_range'_1] at hj
      omega
    simp [this]
  have h0 : ∀ a w, HalfK P l.toArray Q o (l.drop (c + 1 + m)) .normal a w → wpOpsK P l.toArray c (Only Q) (c :: List.range' (c + 1 + m) (l.length - c - 1 - m)) a w := by
    intro a w hk
    show wpOpK P l.toArray c (Only Q) c (wpOpsK P l.toArray c (Only Q) (List.range' (c + 1 + m) (l.length - c - 1 - m))) a w
    unfold wpOpK
    rw [if_pos rfl]
    refine ⟨o, by simpa using hc, CallK.mono (fun a w h2 => ?_) hk⟩
    have := opsK_of_list (P := P) (ops := l.toArray) (c := c) (Q := Q) (R := Q) (t := []) (fun a w h => h) (l.drop (c + 1 + m)) (List.range' (c + 1 + m) (l.length - c - 1 - m)) (by
      rw [← map_range l (c + 1 + m) (l.length - c - 1 - m) (by omega), List.take_of_length_le (by simp; omega)]) (by simp only [List.mem_range'_1]; omega) _ _ h2
    rw [List.append_nil] at this
    exact this
  have h1 := opsK_of_list (P := P) (ops := l.toArray) (c := c) (Q := Q) (R := HalfK P l.toArray Q o (l.drop (c + 1 + m))) h0 (l.take c ++ (l.drop (c + 1)).take m) (List.range' 0 c ++ List.range' (c + 1) m) (by
    rw [List.map_append, List.map_append, ← map_range l 0 c (by omega), ← map_range l (c + 1) m (by omega), List.drop_zero]) (by simp only [List.mem_append, List.mem_range'_1]; omega) a w.drew h
  have h2 : wpAny P .any l.toArray (Only Q) l.toArray.size (Array.replicate l.toArray.size false) a w.drew :=
    any_of_ord calm_only hs hM ho hall _ _ _ _ (by simp) (by
      intro x o hx
      exfalso
      by_cases hx' : x < l.toArray.size
      · simp at hx' hx
        simp [hx'] at hx
      · simp at hx' hx
        simp [Nat.not_lt.2 hx'] at hx) (by rw [hr]; simp; omega) (by rw [hr]; exact h1)
  refine Go.Code.wp_mono (Q := Only Q) ?_ (wp_region_any hm h2)
  intro e a' w' he
  cases e with
  | normal => exact he
  | _ => exact absurd he (by intro h; exact h)

/-- A call of a function by its number, with no guard. -/
theorem callK_static {o : Oper} {l : List Oper} {a : Act} {w : World} {f : FuncId} {args : Array Operand} {ts : Array TypeId} {vs : Array Value} (hw : Region.wanted o (yielded ops a.tmps) = true) (ho : o.op = .call { callee := .value (.func f), args := args, argTypes := ts })
    (eg : ∀ args w, (callFunc f args).run P w = .ok (.enter f args) w) (hv : args.map a.eval = vs) (hc : ∀ W, Touch [] w W → Calls P f vs W fun e w' => ∃ v, e = .returned v ∧ Touch [] W w' ∧ wpList P ops (Only Q) l (a.put o.dst v) w') :
    HalfK P ops Q o l .normal a w :=
  .inl ⟨hw, fun W t => ⟨f, vs, by rw [← hv]; exact run_static ho eg, hc W t⟩⟩

end
end Go.Proofs.Ytlndihdlodempaa.Z

/- Fields of words: what the bit operations come to, in whole numbers. No program is in sight. -/
set_option linter.unusedVariables false
set_option linter.unusedSimpArgs false
namespace Go.Proofs.Ytlndihdlodempaa.ZB
open Go.RowKit

theorem pow_pos (n : Nat) : 0 < 2 ^ n := Nat.pow_pos (by decide)

theorem two_pow_le {a b : Nat} (h : a ≤ b) : 2 ^ a ≤ 2 ^ b := Nat.pow_le_pow_right (by decide) h

theorem and_mask (v s w : Nat) : v &&& ((2 ^ w - 1) * 2 ^ s) = (v / 2 ^ s % 2 ^ w) * 2 ^ s := by
  rw [← Nat.shiftLeft_eq, ← Nat.shiftLeft_eq, ← Nat.shiftRight_eq_div_pow]
  apply Nat.eq_of_testBit_eq
  intro i
  simp only [Nat.testBit_and, Nat.testBit_shiftLeft, Nat.testBit_two_pow_sub_one, Nat.testBit_mod_two_pow, Nat.testBit_shiftRight]
  by_cases h : i ≥ s
  · have e : s + (i - s) = i := by omega
    simp only [h, decide_true, Bool.true_and, e]
    exact Bool.and_comm _ _
  · simp [h]

theorem ofInt_nat (k n : Nat) : BitVec.ofInt k (n : Int) = BitVec.ofNat k n := by simp

theorem bits_and (a b : Nat) (ha : a < 4294967296) (hb : b < 4294967296) : Go.bits .and .u32 (a : Int) (b : Int) = ((a &&& b : Nat) : Int) := by
  unfold Go.bits
  simp only [ofInt_nat, BitVec.toNat_and, BitVec.toNat_ofNat]
  rw [Nat.mod_eq_of_lt (by simpa [IntKind.bits] using ha), Nat.mod_eq_of_lt (by simpa [IntKind.bits] using hb)]
  rw [IntKind.wrap_u32]
  have : a &&& b ≤ a := Nat.and_le_left
  omega

theorem and_split (v m : BitVec 32) : v.toNat = (v &&& m).toNat + (v &&& ~~~m).toNat := by
  have hz : (v &&& m) &&& (v &&& ~~~m) = 0#32 := by ext i; simp only [BitVec.getElem_and, BitVec.getElem_or, BitVec.getElem_not, BitVec.getElem_zero]; cases v[i] <;> cases m[i] <;> rfl
  have hor : (v &&& m) ||| (v &&& ~~~m) = v := by ext i; simp only [BitVec.getElem_and, BitVec.getElem_or, BitVec.getElem_not, BitVec.getElem_zero]; cases v[i] <;> cases m[i] <;> rfl
  have := BitVec.add_eq_or_of_and_eq_zero _ _ hz
  rw [hor] at this
  have h2 := congrArg BitVec.toNat this
  rw [BitVec.toNat_add] at h2
  have h3 : (v &&& ~~~m).toNat ≤ (~~~m).toNat := by rw [BitVec.toNat_and]; exact Nat.and_le_right
  have h4 : (v &&& m).toNat ≤ m.toNat := by rw [BitVec.toNat_and]; exact Nat.and_le_right
  rw [BitVec.toNat_not] at h3
  have := m.isLt
  rw [Nat.mod_eq_of_lt (by omega)] at h2
  exact h2.symm

theorem put_split (v x m : BitVec 32) : ((v &&& ~~~m) ||| (x &&& m)).toNat = (v &&& ~~~m).toNat + (x &&& m).toNat := by
  have hz : (v &&& ~~~m) &&& (x &&& m) = 0#32 := by ext i; simp only [BitVec.getElem_and, BitVec.getElem_not, BitVec.getElem_zero]; cases v[i] <;> cases x[i] <;> cases m[i] <;> rfl
  have := BitVec.add_eq_or_of_and_eq_zero _ _ hz
  rw [← this, BitVec.toNat_add]
  have h3 : (v &&& ~~~m).toNat ≤ (~~~m).toNat := by rw [BitVec.toNat_and]; exact Nat.and_le_right
  have h4 : (x &&& m).toNat ≤ m.toNat := by rw [BitVec.toNat_and]; exact Nat.and_le_right
  rw [BitVec.toNat_not] at h3
  have := m.isLt
  rw [Nat.mod_eq_of_lt (by omega)]

theorem bits_or (a b : Nat) (ha : a < 4294967296) (hb : b < 4294967296) : Go.bits .or .u32 (a : Int) (b : Int) = ((BitVec.ofNat 32 a ||| BitVec.ofNat 32 b).toNat : Int) := by
  show (IntKind.u32.wrap ((BitVec.ofInt 32 (a : Int) ||| BitVec.ofInt 32 (b : Int)).toNat : Int)) = _
  rw [ofInt_nat, ofInt_nat, IntKind.wrap_u32]
  have := (BitVec.ofNat 32 a ||| BitVec.ofNat 32 b).isLt
  omega

theorem bits_andNot (a b : Nat) : Go.bits .andNot .u32 (a : Int) (b : Int) = ((BitVec.ofNat 32 a &&& ~~~ (BitVec.ofNat 32 b)).toNat : Int) := by
  show (IntKind.u32.wrap ((BitVec.ofInt 32 (a : Int) &&& ~~~ (BitVec.ofInt 32 (b : Int))).toNat : Int)) = _
  rw [ofInt_nat, ofInt_nat, IntKind.wrap_u32]
  have := (BitVec.ofNat 32 a &&& ~~~ (BitVec.ofNat 32 b)).isLt
  omega

theorem nat32 (a : Nat) (ha : a < 4294967296) : (BitVec.ofNat 32 a).toNat = a := by
  rw [BitVec.toNat_ofNat]; exact Nat.mod_eq_of_lt (by omega)

theorem bits_put (v x m : Nat) (hv : v < 4294967296) (hx : x < 4294967296) (hm : m < 4294967296) :
    Go.bits .or .u32 (Go.bits .andNot .u32 (v : Int) (m : Int)) (Go.bits .and .u32 (x : Int) (m : Int)) = (v : Int) - ((v &&& m : Nat) : Int) + ((x &&& m : Nat) : Int) := by
  rw [bits_and x m hx hm, bits_andNot]
  have e1 := and_split (BitVec.ofNat 32 v) (BitVec.ofNat 32 m)
  have e2 := put_split (BitVec.ofNat 32 v) (BitVec.ofNat 32 x) (BitVec.ofNat 32 m)
  have ex : (BitVec.ofNat 32 x &&& BitVec.ofNat 32 m).toNat = x &&& m := by rw [BitVec.toNat_and, nat32 x hx, nat32 m hm]
  have ev : (BitVec.ofNat 32 v &&& BitVec.ofNat 32 m).toNat = v &&& m := by rw [BitVec.toNat_and, nat32 v hv, nat32 m hm]
  have e5 : BitVec.ofNat 32 (x &&& m) = (BitVec.ofNat 32 x &&& BitVec.ofNat 32 m) := by
    apply BitVec.eq_of_toNat_eq
    rw [ex, nat32]
    have : x &&& m ≤ x := Nat.and_le_left
    omega
  have hl : x &&& m < 4294967296 := by
    have : x &&& m ≤ x := Nat.and_le_left
    omega
  generalize hA : (BitVec.ofNat 32 v &&& ~~~ (BitVec.ofNat 32 m)) = A at e1 e2 ⊢
  have hlt := A.isLt
  rw [bits_or _ _ (by omega) hl, e5, show BitVec.ofNat 32 A.toNat = A from by simp, e2, ex]
  rw [ev, nat32 v hv] at e1
  omega

end Go.Proofs.Ytlndihdlodempaa.ZB

/- The document's run: a box more; what a wait looks at. -/
set_option linter.unusedVariables false
set_option linter.unusedSimpArgs false
namespace Go.Proofs.Ytlndihdlodempaa.Z
open Go.RowKit

/-- A box more. -/
theorem XHas.box {S0 : List Nat} {w0 w : World} {p : Option Addr} {g cap x : Nat} {rs : List Res} {s : Rn} (H : XHas S0 w0 p g cap x rs s w) {b : Nat} (hb : w.heap.size = b) (cs : Array Value) (T : TypeId) : XHas S0 w0 p g cap x (.blk b cs :: rs) s (w.alloc (.cells cs T)) := by
  obtain ⟨nv, H⟩ := H
  exact ⟨nv, (H.new hb cs T).perm (perm_past3 (Res.row p g cap s.L) (Res.blk x (xcells p cap s nv)) (Res.own 98 4 nv s.notes.length (nts s.notes)) [Res.blk b cs] rs)⟩
theorem XHas.unbox {S0 : List Nat} {w0 w : World} {p : Option Addr} {g cap x : Nat} {y : Res} {rs : List Res} {s : Rn} (H : XHas S0 w0 p g cap x (y :: rs) s w) : XHas S0 w0 p g cap x rs s w := by
  obtain ⟨nv, H⟩ := H
  exact ⟨nv, H.cut31⟩
theorem XHas.first {S0 : List Nat} {w0 w : World} {p : Option Addr} {g cap x b : Nat} {cs : Array Value} {rs : List Res} {s : Rn} (H : XHas S0 w0 p g cap x (.blk b cs :: rs) s w) : Blk w b cs := by
  obtain ⟨nv, H⟩ := H
  exact H.at_ 3 rfl

theorem untilA_all {v : Int} (a : Int) (h : 0 ≤ v ∧ v < 4294967296) : untilA 0 4294967295 a v = (v == a) := by
  obtain ⟨n, rfl⟩ : ∃ n : Nat, v = n := ⟨v.toNat, by omega⟩
  show (bits .and .u32 (n : Int) 4294967295 == a) = _
  have h1 := ZB.bits_and n 4294967295 (by omega) (by decide)
  have h2 : n &&& 4294967295 = n := by
    rw [show (4294967295 : Nat) = 2 ^ 32 - 1 from rfl, Nat.and_two_pow_sub_one_eq_mod]
    omega
  rw [h2] at h1
  rw [show ((4294967295 : Nat) : Int) = 4294967295 from rfl] at h1
  rw [h1]
theorem untilA_some {v : Int} (a : Int) (h : 0 ≤ v ∧ v < 4294967296) : untilA 1 4294967295 a v = (v != a) := by
  have h1 := untilA_all a h
  unfold untilA at h1 ⊢
  simp only [if_true] at h1
  simp only [show ¬ ((1 : Int) = 0) from by decide, if_false, if_true]
  unfold bne
  rw [h1]
/-- A wait looks at a word: what else is so elsewhere doesn't matter. -/
theorem waitA_like {L : List Int} {n mode task st c : Int} {p q : Int → Bool} (hw : Words L) (h : ∀ v, 0 ≤ v ∧ v < 4294967296 → p v = q v) : waitA L n mode task st c p = waitA L n mode task st c q := by
  have h1 := fun b => h _ (doA_old L hw b)
  unfold waitA
  simp only [h1]
theorem XHas.words_ {S0 : List Nat} {w0 w : World} {p : Option Addr} {g cap x : Nat} {rs : List Res} {s : Rn} (H : XHas S0 w0 p g cap x rs s w) : Words s.L := by
  obtain ⟨nv, H⟩ := H
  exact H.row.words
theorem XHas.back_ {S0 : List Nat} {w0 w : World} {p : Option Addr} {g cap x : Nat} {rs : List Res} {s : Rn} {R : Acc × Bool × List Int} {k l : Int} (H : XHas S0 w0 p g cap x rs ((s.goto k).did R) w) (h : s.f.line = l) : XHas S0 w0 p g cap x rs (s.did R) (w.setCell ⟨x, 5, none⟩ (.int .i64 l)) := by
  have e : ((s.goto k).did R).goto l = s.did R := by
    obtain ⟨n, mode, task, ⟨op, line, fa, fb, st, wk, ret⟩, acc, notes, L⟩ := s
    simp only at h
    subst h
    rfl
  rw [← e]
  exact H.goto l

end Go.Proofs.Ytlndihdlodempaa.Z

/- What the Steps' last region keeps, and its calls. Written by gensteps.py. -/
set_option linter.unusedVariables false
set_option linter.unusedSimpArgs false
namespace Go.Proofs.Ytlndihdlodempaa.Z
open Go.RowKit

def stepStart (n mode task : Int) (f : Fr) (L : List Int) : Rn := ⟨n, mode, task, f, Acc.zero, [], L⟩

/-- What the last region keeps. -/
def RSKeep (w : World) (m a r : Nat) (p : Option Addr) (g cap x : Nat) (s : Rn) (nv nx : Value) (w' : World) : Prop :=
  Has [] w w' (.row p g cap s.L :: .blk x (xcells p cap s nx) :: .own 98 4 nx s.notes.length (nts s.notes) :: .mem m a s.L :: .blk r (rcells m s nv) :: .own 98 4 nv s.notes.length (nts s.notes) :: [])
section
variable {w : World} {m a r : Nat} {p : Option Addr} {g cap x : Nat} {s : Rn} {nv nx : Value} {w' : World}
theorem rskeep (h : RSKeep w m a r p g cap x s nv nx w') : (r < w'.heap.size ∧ (∀ i, w'.cell? ⟨r, i, none⟩ = (rcells m s nv)[i]?)) ∧ (x < w'.heap.size ∧ (∀ i, w'.cell? ⟨x, i, none⟩ = (xcells p cap s nx)[i]?)) :=
  ⟨⟨(Has.at_ h 4 rfl).lt, (Has.at_ h 4 rfl).cell⟩, (Has.at_ h 1 rfl).lt, (Has.at_ h 1 rfl).cell⟩
theorem RSKeep.grow {w'' : World} (h : RSKeep w m a r p g cap x s nv nx w') (t : Touch [] w' w'') : RSKeep w m a r p g cap x s nv nx w'' := Has.grow h t
theorem RSKeep.drew (h : RSKeep w m a r p g cap x s nv nx w') : RSKeep w m a r p g cap x s nv nx w'.drew := Has.drew h
theorem rsover (h : RSKeep w m a r p g cap x s nv nx w') : Calls Try.prog 20 #[.pointer (some ⟨x, 0, none⟩)] w' fun e w'' => e = .returned (.bool s.over) ∧ RSKeep w m a r p g cap x s nv nx w'' :=
  (x_over h).mono fun e w'' k => ⟨k.1, k.2 ▸ h⟩
theorem rsnotes {pn qn : Option Addr} {c d : Nat} (h : RSKeep w m a r p g cap x s (.slice pn s.notes.length c) (.slice qn s.notes.length d) w') (hn : s.notes.length ≤ 1048576) : Calls Try.prog 22 #[.slice pn s.notes.length c, .slice qn s.notes.length d] w' fun e w'' => e = .returned (.bool true) ∧ RSKeep w m a r p g cap x s (.slice pn s.notes.length c) (.slice qn s.notes.length d) w'' :=
  (same_notes w' (Rd.own (Has.ownAt h 5 rfl)) (Rd.own (Has.ownAt h 2 rfl)) hn).mono fun e w'' k => ⟨k.1, Has.grow h k.2⟩
def RSAll (w : World) (m a r : Nat) (p : Option Addr) (g cap x : Nat) (s : Rn) (nv nx : Value) (w' : World) (e : Ending) (w'' : World) : Prop :=
  ∃ p' cap', e = .returned (.slice p' s.L.length cap') ∧ RSKeep w m a r p g cap x s nv nx w'' ∧ Rd w'' 1 p' s.L.length (u32s s.L) ∧ Touch [] w' w''
theorem rsall (h : RSKeep w m a r p g cap x s nv nx w') : Calls Try.prog 23 #[.pointer (some ⟨m, 0, none⟩)] w' (RSAll w m a r p g cap x s nv nx w') :=
  (all_mem (Has.mem (Has.front h 3 (by simp)))).mono fun e w'' ⟨p', cap', he, ho, t⟩ => ⟨p', cap', he, Has.grow h t, by
    obtain ⟨g', hR, _⟩ := Row.of_owns ho (Has.row h).words
    exact hR.rd, t⟩
theorem rssame (h : RSKeep w m a r p g cap x s nv nx w') {p' : Option Addr} {cap' : Nat} (hr : Rd w' 1 p' s.L.length (u32s s.L)) :
    Calls Try.prog 21 #[.slice p' s.L.length cap', .slice p s.L.length cap] w' fun e w'' => e = .returned (.bool true) ∧ RSKeep w m a r p g cap x s nv nx w'' := by
  have := same_any (c := cap') (d := cap) w' hr (Has.row h).rd (by have := (Has.row h).words.1; omega)
  simp only [decide_true] at this
  exact this.mono fun e w'' k => ⟨k.1, Has.grow h k.2⟩
end
theorem six {S0 : List Nat} {w0 w : World} {a b c d e f : Res} {rs : List Res} (h : Has S0 w0 w (a :: b :: c :: d :: e :: f :: rs)) : Has S0 w0 w (d :: e :: f :: a :: b :: c :: rs) :=
  ((h.front 5 (by simp)).front 5 (by simp)).front 5 (by simp)
theorem drop7 {S0 : List Nat} {w0 w : World} {a b c d e f g : Res} (h : Has S0 w0 w (a :: b :: c :: d :: e :: f :: g :: [])) : Has S0 w0 w (a :: b :: c :: d :: e :: f :: []) :=
  Has.tail (h.front 6 (by simp))
end Go.Proofs.Ytlndihdlodempaa.Z
