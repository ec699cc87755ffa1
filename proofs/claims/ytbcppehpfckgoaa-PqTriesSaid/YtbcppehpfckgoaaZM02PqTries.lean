/- 6 texts of this claim, joined: what each shows stands at its own head. -/
import Derived.Test.YtbcppehpfckgoaaZM00PqTries
import Derived.Test.YtbcppehpfckgoaaZM01PqTries
/- Package pq: what a line keeps. Written by genpqfine.py. -/
set_option linter.unusedVariables false
set_option linter.unusedSimpArgs false
namespace Go.Proofs.Ytbcppehpfckgoaa.Z
open Go.RowKit


variable {s : Rn}
section
theorem pfR10_fk (hw : Words s.L) (h : (0 ≤ s.f.a ∧ s.f.a < 4294967296) ∧ (0 ≤ s.f.b ∧ s.f.b < 4294967296)) : FK 2 s (pfR10 s) := by
  have R := FK.refl h
  have hold := fun b => doA_old s.L hw b
  unfold pfR10
  dsimp only
  split
  · exact (((((R.did _).setA (hold _)).note _ _).note _ _).fin _).more (by decide)
  · exact ((((R.did _).setA (hold _)).note _ _).goto _).more (by decide)

theorem pfR11_fk (hw : Words s.L) (h : (0 ≤ s.f.a ∧ s.f.a < 4294967296) ∧ (0 ≤ s.f.b ∧ s.f.b < 4294967296)) : FK 2 s (pfR11 s) := by
  have R := FK.refl h
  have hold := fun b => doA_old s.L hw b
  unfold pfR11
  dsimp only
  split
  · split
    · exact (((R.waited _).note _ _).fin _).more (by decide)
    · exact ((R.waited _).fin _).more (by decide)
  · split
    · exact ((R.waited _).note _ _).more (by decide)
    · exact (R.waited _).more (by decide)

theorem pfR20_fk (hw : Words s.L) (h : (0 ≤ s.f.a ∧ s.f.a < 4294967296) ∧ (0 ≤ s.f.b ∧ s.f.b < 4294967296)) : FK 2 s (pfR20 s) := by
  have R := FK.refl h
  have hold := fun b => doA_old s.L hw b
  unfold pfR20
  exact ((((R.did _).note _ _).wake _).fin _).more (by decide)

theorem pfR50_fk (hw : Words s.L) (h : (0 ≤ s.f.a ∧ s.f.a < 4294967296) ∧ (0 ≤ s.f.b ∧ s.f.b < 4294967296)) : FK 2 s (pfR50 s) := by
  have R := FK.refl h
  have hold := fun b => doA_old s.L hw b
  unfold pfR50
  dsimp only
  split
  · exact (((R.did _).setA (hold _)).goto _).more (by decide)
  · exact ((((R.did _).setA (hold _)).note _ _).fin _).more (by decide)

theorem pfR51_fk (hw : Words s.L) (h : (0 ≤ s.f.a ∧ s.f.a < 4294967296) ∧ (0 ≤ s.f.b ∧ s.f.b < 4294967296)) : FK 2 s (pfR51 s) := by
  have R := FK.refl h
  have hold := fun b => doA_old s.L hw b
  unfold pfR51
  split
  · exact ((((R.did _).note _ _).note _ _).fin _).more (by decide)
  · exact ((R.did _).goto _).more (by decide)

theorem pqEnter_fk (hw : Words s.L) (h : (0 ≤ s.f.a ∧ s.f.a < 4294967296) ∧ (0 ≤ s.f.b ∧ s.f.b < 4294967296)) : FK 2 s (pqEnter s) := by
  have R := FK.refl h
  have hold := fun b => doA_old s.L hw b
  have Q := mxEnter_fk (s := s) 2 2 hw h
  unfold pqEnter
  split
  · exact (Q.goto _).more (by decide)
  · exact (Q).more (by decide)

theorem pqGive_fk (q : Int) (ok : Bool) (hw : Words s.L) (h : (0 ≤ s.f.a ∧ s.f.a < 4294967296) ∧ (0 ≤ s.f.b ∧ s.f.b < 4294967296)) : FK 2 s (pqGive q ok s) := by
  have R := FK.refl h
  have hold := fun b => doA_old s.L hw b
  have Q := mxGive_fk (s := s) 2 q [8] hw h
  unfold pqGive
  split
  · exact (Q.fin _).more (by decide)
  · exact (Q).more (by decide)

theorem pqTry_fk (hw : Words s.L) (h : (0 ≤ s.f.a ∧ s.f.a < 4294967296) ∧ (0 ≤ s.f.b ∧ s.f.b < 4294967296)) : FK 2 s (pqTry s) := by
  have R := FK.refl h
  have hold := fun b => doA_old s.L hw b
  have Q := mxTry_fk (s := s) 2 h
  unfold pqTry
  split
  · split
    · exact ((Q.note _ _).goto _).more (by decide)
    · exact ((Q.note _ _).fin _).more (by decide)
  · exact (Q).more (by decide)

theorem pqLock_fk (hw : Words s.L) (h : (0 ≤ s.f.a ∧ s.f.a < 4294967296) ∧ (0 ≤ s.f.b ∧ s.f.b < 4294967296)) : FK 2 s (pqLock s) := by
  have R := FK.refl h
  have hold := fun b => doA_old s.L hw b
  unfold pqLock
  split
  · exact (((R.did _).setB (hold _)).goto _).more (by decide)
  split
  · exact ((((R.did _).setA (hold _)).note _ _).goto _).more (by decide)
  split
  · dsimp only
    split
    · split
      · exact (((R.waited _).note _ _).fin _).more (by decide)
      · exact ((R.waited _).fin _).more (by decide)
    · split
      · exact ((R.waited _).note _ _).more (by decide)
      · exact (R.waited _).more (by decide)
  · exact pqEnter_fk hw h

theorem pqLeave_fk (hw : Words s.L) (h : (0 ≤ s.f.a ∧ s.f.a < 4294967296) ∧ (0 ≤ s.f.b ∧ s.f.b < 4294967296)) : FK 2 s (pqLeave s) := by
  have R := FK.refl h
  have hold := fun b => doA_old s.L hw b
  unfold pqLeave
  split
  · exact (((R.did _).setB (hold _)).goto _).more (by decide)
  split
  · exact (((R.did _).setB (hold _)).goto _).more (by decide)
  split
  · exact ((((R.did _).note _ _).wake _).goto _).more (by decide)
  split
  · exact ((((R.did _).note _ _).wake _).goto _).more (by decide)
  split
  · exact ((R.did _).goto _).more (by decide)
  split
  · exact ((R.did _).goto _).more (by decide)
  · exact pqGive_fk _ _ hw h

theorem pqIn6_fk (hw : Words s.L) (h : (0 ≤ s.f.a ∧ s.f.a < 4294967296) ∧ (0 ≤ s.f.b ∧ s.f.b < 4294967296)) : FK 2 s (pqIn6 s) := by
  have R := FK.refl h
  have hold := fun b => doA_old s.L hw b
  unfold pqIn6
  dsimp only
  split
  · exact ((((R.did _).setB (hold _)).note _ _).goto _).more (by decide)
  · exact (((R.did _).setB (hold _)).goto _).more (by decide)

theorem pqLast6_fk (hw : Words s.L) (h : (0 ≤ s.f.a ∧ s.f.a < 4294967296) ∧ (0 ≤ s.f.b ∧ s.f.b < 4294967296)) : FK 2 s (pqLast6 s) := by
  have R := FK.refl h
  have hold := fun b => doA_old s.L hw b
  unfold pqLast6
  dsimp only
  split
  · split
    · exact (((R.waited _).note _ _).fin _).more (by decide)
    · exact ((R.waited _).fin _).more (by decide)
  · split
    · exact ((R.waited _).note _ _).more (by decide)
    · exact (R.waited _).more (by decide)

theorem pqIn7_fk (hw : Words s.L) (h : (0 ≤ s.f.a ∧ s.f.a < 4294967296) ∧ (0 ≤ s.f.b ∧ s.f.b < 4294967296)) : FK 2 s (pqIn7 s) := by
  have R := FK.refl h
  have hold := fun b => doA_old s.L hw b
  unfold pqIn7
  dsimp only
  split
  · exact ((((R.did _).setB (hold _)).note _ _).goto _).more (by decide)
  · exact (((R.did _).setB (hold _)).goto _).more (by decide)

theorem pqLast7_fk (hw : Words s.L) (h : (0 ≤ s.f.a ∧ s.f.a < 4294967296) ∧ (0 ≤ s.f.b ∧ s.f.b < 4294967296)) : FK 2 s (pqLast7 s) := by
  have R := FK.refl h
  have hold := fun b => doA_old s.L hw b
  unfold pqLast7
  dsimp only
  split
  · split
    · exact (((R.waited _).note _ _).goto _).more (by decide)
    · exact ((R.waited _).goto _).more (by decide)
  · split
    · exact ((R.waited _).note _ _).more (by decide)
    · exact (R.waited _).more (by decide)

theorem pqDecide_fk (hw : Words s.L) (h : (0 ≤ s.f.a ∧ s.f.a < 4294967296) ∧ (0 ≤ s.f.b ∧ s.f.b < 4294967296)) : FK 2 s (pqDecide s) := by
  have R := FK.refl h
  have hold := fun b => doA_old s.L hw b
  unfold pqDecide
  split
  · exact (((R.did _).setA (hold _)).goto _).more (by decide)
  split
  · split
    · exact pqIn7_fk hw h
    · exact pqIn6_fk hw h
  split
  · exact (((R.did _).setB (hold _)).goto _).more (by decide)
  split
  · exact ((((R.did _).setA (hold _)).note _ _).goto _).more (by decide)
  split
  · split
    · exact pqLast7_fk hw h
    · exact pqLast6_fk hw h
  split
  · split
    · exact ((R.did _).fin _).more (by decide)
    · exact (R).more (by decide)
  · exact pqGive_fk _ _ hw h

theorem pqA_fk (hw : Words s.L) (h : (0 ≤ s.f.a ∧ s.f.a < 4294967296) ∧ (0 ≤ s.f.b ∧ s.f.b < 4294967296)) : FK 2 s (pqA s) := by
  have R := FK.refl h
  have hold := fun b => doA_old s.L hw b
  unfold pqA
  split
  · exact pfR10_fk hw h
  split
  · exact pfR11_fk hw h
  split
  · exact pfR20_fk hw h
  split
  · exact pfR50_fk hw h
  split
  · exact pfR51_fk hw h
  split
  · exact pqLock_fk hw h
  split
  · exact pqLeave_fk hw h
  split
  · exact pqLeave_fk hw h
  split
  · split
    · exact pqTry_fk hw h
    · exact pqDecide_fk hw h
  split
  · split
    · exact pqTry_fk hw h
    · exact pqDecide_fk hw h
  · exact (R).more (by decide)
end
theorem pqA_fine (s : Rn) (hw : Words s.L) (h : I64 s.n ∧ (0 ≤ s.f.a ∧ s.f.a < 4294967296) ∧ (0 ≤ s.f.b ∧ s.f.b < 4294967296)) : Fine s (pqA s) := by
  have F := pqA_fk hw h.2
  exact fine_mk ⟨⟨by rw [F.1.1]; exact h.1, F.2.1⟩, by have := F.2.2; omega⟩
end Go.Proofs.Ytbcppehpfckgoaa.Z

/- Package pq: a line leaves whose run it is. Written by genpqfine.py. -/
set_option linter.unusedVariables false
set_option linter.unusedSimpArgs false
namespace Go.Proofs.Ytbcppehpfckgoaa.Z
open Go.RowKit

def SK (k : Nat) (s s' : Rn) : Prop := s'.n = s.n ∧ s'.mode = s.mode ∧ s'.task = s.task
section
variable {k : Nat} {s s' : Rn}
theorem SK.refl (h : True) : SK 0 s s := ⟨rfl, rfl, rfl⟩
theorem SK.goto (h : SK k s s') (l : Int) : SK k s (s'.goto l) := h
theorem SK.fin (h : SK k s s') (b : Bool) : SK k s (s'.fin b) := h
theorem SK.wake (h : SK k s s') (c : Int) : SK k s (s'.wake c) := h
theorem SK.did (h : SK k s s') (R : Acc × Bool × List Int) : SK k s (s'.did R) := h
theorem SK.waited (h : SK k s s') (R : WaitR) : SK k s (s'.waited R) := h
theorem SK.setA (h : SK k s s') {v : Int} (hv : True) : SK k s (s'.setA v) := h
theorem SK.setB (h : SK k s s') {v : Int} (hv : True) : SK k s (s'.setB v) := h
theorem SK.note (h : SK k s s') (x y : Int) : SK (k + 1) s (s'.note x y) := h
theorem SK.more (h : SK k s s') {j : Nat} (hj : k ≤ j) : SK j s s' := h
theorem SK.noted (h : SK k s s') (l : List Int) : SK (k + l.length) s (s'.noted l) := by
  induction l generalizing s' k with
  | nil => exact h
  | cons x l ih => exact ih (h.note x 0)
theorem SK.keep (h : SK k s s') (hw : True) (n mode task st c : Int) (p : Int → Bool) : SK k s (s'.keep (waitA s'.L n mode task st c p)) := by
  unfold Rn.keep
  split <;> exact h
end
variable {s : Rn}
theorem mxEnter_sk (tail cls : Int) (hw : True) (h : True) : SK 1 s (mxEnter tail cls s).2 := by
  have R := SK.refl (s := s) h
  have hold := fun (_ : Acc) => trivial
  unfold mxEnter
  split
  · exact ((R.did _).goto _).more (by decide)
  split
  · exact ((R.did _).goto _).more (by decide)
  split
  · unfold mxE2
    dsimp only
    split
    · exact ((R.did _).setA trivial).note _ _
    · exact (((R.did _).setA trivial).note _ _).goto _
  split
  · exact (((R.did _).wake _).goto _).more (by decide)
  split
  · exact (R.waited _).more (by decide)
  · exact R.more (by decide)
theorem mxTry_sk (tail : Int) (h : True) : SK 0 s (mxTry tail s).2.2 := by
  have R := SK.refl (s := s) h
  unfold mxTry
  split
  · exact (R.did _).goto _
  split
  · exact R.did _
  · exact R
theorem mxGive_sk (tail q : Int) (nl : List Int) (hw : True) (h : True) : SK nl.length s (mxGive tail q nl s).2 := by
  have R := SK.refl (s := s) h
  have hold := fun (_ : Acc) => trivial
  unfold mxGive
  split
  · unfold mxG0
    dsimp only
    split
    · exact (((R.did _).setA trivial).goto _).more (Nat.zero_le _)
    · exact (((R.did _).setA trivial).goto _).more (Nat.zero_le _)
  split
  · unfold mxG1
    split
    · exact ((R.did _).noted nl).more (by omega)
    · exact ((R.did _).goto _).more (Nat.zero_le _)
  split
  · unfold mxG2
    dsimp only
    split
    · exact (((R.keep hw _ _ _ _ _ _).waited _).goto _).more (Nat.zero_le _)
    · exact ((R.keep hw _ _ _ _ _ _).waited _).more (Nat.zero_le _)
  split
  · exact (((R.did _).noted nl).wake _).more (by omega)
  · exact R.more (Nat.zero_le _)
section
theorem pfR10_sk (hw : True) (h : True) : SK 2 s (pfR10 s) := by
  have R := SK.refl (s := s) h
  have hold := fun (_ : Acc) => trivial
  unfold pfR10
  dsimp only
  split
  · exact (((((R.did _).setA trivial).note _ _).note _ _).fin _).more (by decide)
  · exact ((((R.did _).setA trivial).note _ _).goto _).more (by decide)

theorem pfR11_sk (hw : True) (h : True) : SK 2 s (pfR11 s) := by
  have R := SK.refl (s := s) h
  have hold := fun (_ : Acc) => trivial
  unfold pfR11
  dsimp only
  split
  · split
    · exact (((R.waited _).note _ _).fin _).more (by decide)
    · exact ((R.waited _).fin _).more (by decide)
  · split
    · exact ((R.waited _).note _ _).more (by decide)
    · exact (R.waited _).more (by decide)

theorem pfR20_sk (hw : True) (h : True) : SK 2 s (pfR20 s) := by
  have R := SK.refl (s := s) h
  have hold := fun (_ : Acc) => trivial
  unfold pfR20
  exact ((((R.did _).note _ _).wake _).fin _).more (by decide)

theorem pfR50_sk (hw : True) (h : True) : SK 2 s (pfR50 s) := by
  have R := SK.refl (s := s) h
  have hold := fun (_ : Acc) => trivial
  unfold pfR50
  dsimp only
  split
  · exact (((R.did _).setA trivial).goto _).more (by decide)
  · exact ((((R.did _).setA trivial).note _ _).fin _).more (by decide)

theorem pfR51_sk (hw : True) (h : True) : SK 2 s (pfR51 s) := by
  have R := SK.refl (s := s) h
  have hold := fun (_ : Acc) => trivial
  unfold pfR51
  split
  · exact ((((R.did _).note _ _).note _ _).fin _).more (by decide)
  · exact ((R.did _).goto _).more (by decide)

theorem pqEnter_sk (hw : True) (h : True) : SK 2 s (pqEnter s) := by
  have R := SK.refl (s := s) h
  have hold := fun (_ : Acc) => trivial
  have Q := mxEnter_sk (s := s) 2 2 hw h
  unfold pqEnter
  split
  · exact (Q.goto _).more (by decide)
  · exact (Q).more (by decide)

theorem pqGive_sk (q : Int) (ok : Bool) (hw : True) (h : True) : SK 2 s (pqGive q ok s) := by
  have R := SK.refl (s := s) h
  have hold := fun (_ : Acc) => trivial
  have Q := mxGive_sk (s := s) 2 q [8] hw h
  unfold pqGive
  split
  · exact (Q.fin _).more (by decide)
  · exact (Q).more (by decide)

theorem pqTry_sk (hw : True) (h : True) : SK 2 s (pqTry s) := by
  have R := SK.refl (s := s) h
  have hold := fun (_ : Acc) => trivial
  have Q := mxTry_sk (s := s) 2 h
  unfold pqTry
  split
  · split
    · exact ((Q.note _ _).goto _).more (by decide)
    · exact ((Q.note _ _).fin _).more (by decide)
  · exact (Q).more (by decide)

theorem pqLock_sk (hw : True) (h : True) : SK 2 s (pqLock s) := by
  have R := SK.refl (s := s) h
  have hold := fun (_ : Acc) => trivial
  unfold pqLock
  split
  · exact (((R.did _).setB trivial).goto _).more (by decide)
  split
  · exact ((((R.did _).setA trivial).note _ _).goto _).more (by decide)
  split
  · dsimp only
    split
    · split
      · exact (((R.waited _).note _ _).fin _).more (by decide)
      · exact ((R.waited _).fin _).more (by decide)
    · split
      · exact ((R.waited _).note _ _).more (by decide)
      · exact (R.waited _).more (by decide)
  · exact pqEnter_sk hw h

theorem pqLeave_sk (hw : True) (h : True) : SK 2 s (pqLeave s) := by
  have R := SK.refl (s := s) h
  have hold := fun (_ : Acc) => trivial
  unfold pqLeave
  split
  · exact (((R.did _).setB trivial).goto _).more (by decide)
  split
  · exact (((R.did _).setB trivial).goto _).more (by decide)
  split
  · exact ((((R.did _).note _ _).wake _).goto _).more (by decide)
  split
  · exact ((((R.did _).note _ _).wake _).goto _).more (by decide)
  split
  · exact ((R.did _).goto _).more (by decide)
  split
  · exact ((R.did _).goto _).more (by decide)
  · exact pqGive_sk _ _ hw h

theorem pqIn6_sk (hw : True) (h : True) : SK 2 s (pqIn6 s) := by
  have R := SK.refl (s := s) h
  have hold := fun (_ : Acc) => trivial
  unfold pqIn6
  dsimp only
  split
  · exact ((((R.did _).setB trivial).note _ _).goto _).more (by decide)
  · exact (((R.did _).setB trivial).goto _).more (by decide)

theorem pqLast6_sk (hw : True) (h : True) : SK 2 s (pqLast6 s) := by
  have R := SK.refl (s := s) h
  have hold := fun (_ : Acc) => trivial
  unfold pqLast6
  dsimp only
  split
  · split
    · exact (((R.waited _).note _ _).fin _).more (by decide)
    · exact ((R.waited _).fin _).more (by decide)
  · split
    · exact ((R.waited _).note _ _).more (by decide)
    · exact (R.waited _).more (by decide)

theorem pqIn7_sk (hw : True) (h : True) : SK 2 s (pqIn7 s) := by
  have R := SK.refl (s := s) h
  have hold := fun (_ : Acc) => trivial
  unfold pqIn7
  dsimp only
  split
  · exact ((((R.did _).setB trivial).note _ _).goto _).more (by decide)
  · exact (((R.did _).setB trivial).goto _).more (by decide)

theorem pqLast7_sk (hw : True) (h : True) : SK 2 s (pqLast7 s) := by
  have R := SK.refl (s := s) h
  have hold := fun (_ : Acc) => trivial
  unfold pqLast7
  dsimp only
  split
  · split
    · exact (((R.waited _).note _ _).goto _).more (by decide)
    · exact ((R.waited _).goto _).more (by decide)
  · split
    · exact ((R.waited _).note _ _).more (by decide)
    · exact (R.waited _).more (by decide)

theorem pqDecide_sk (hw : True) (h : True) : SK 2 s (pqDecide s) := by
  have R := SK.refl (s := s) h
  have hold := fun (_ : Acc) => trivial
  unfold pqDecide
  split
  · exact (((R.did _).setA trivial).goto _).more (by decide)
  split
  · split
    · exact pqIn7_sk hw h
    · exact pqIn6_sk hw h
  split
  · exact (((R.did _).setB trivial).goto _).more (by decide)
  split
  · exact ((((R.did _).setA trivial).note _ _).goto _).more (by decide)
  split
  · split
    · exact pqLast7_sk hw h
    · exact pqLast6_sk hw h
  split
  · split
    · exact ((R.did _).fin _).more (by decide)
    · exact (R).more (by decide)
  · exact pqGive_sk _ _ hw h

theorem pqA_sk (hw : True) (h : True) : SK 2 s (pqA s) := by
  have R := SK.refl (s := s) h
  have hold := fun (_ : Acc) => trivial
  unfold pqA
  split
  · exact pfR10_sk hw h
  split
  · exact pfR11_sk hw h
  split
  · exact pfR20_sk hw h
  split
  · exact pfR50_sk hw h
  split
  · exact pfR51_sk hw h
  split
  · exact pqLock_sk hw h
  split
  · exact pqLeave_sk hw h
  split
  · exact pqLeave_sk hw h
  split
  · split
    · exact pqTry_sk hw h
    · exact pqDecide_sk hw h
  split
  · split
    · exact pqTry_sk hw h
    · exact pqDecide_sk hw h
  · exact (R).more (by decide)
end
theorem pq_step_same (s : Rn) : (stepR pqA s).n = s.n ∧ (stepR pqA s).mode = s.mode ∧ (stepR pqA s).task = s.task := by
  unfold stepR
  split
  · exact ⟨rfl, rfl, rfl⟩
  · exact pqA_sk (s := s.fresh) trivial trivial
end Go.Proofs.Ytbcppehpfckgoaa.Z

/- A lock's operations, each whole, from words to words: by itself, tried, many that read. No lock in sight. -/
set_option linter.unusedVariables false
set_option linter.unusedSimpArgs false
namespace Go.Proofs.Ytbcppehpfckgoaa.Z
open Go.RowKit

theorem alone_does {g : Rn → Rn} : ∀ {n : Nat} {s s' : Rn}, Does g n s s' → ∀ {m : Nat}, n ≤ m → aloneA g m s = (s'.f.ret, s') := by
  intro n s s' h
  induction h with
  | @last s s' hf hs ho =>
    intro m hm
    obtain ⟨m, rfl⟩ : ∃ j, m = j + 1 := ⟨m - 1, by omega⟩
    show (if (stepR g s).over then ((stepR g s).f.ret, stepR g s) else aloneA g m (stepR g s)) = _
    rw [hs, if_pos ho]
  | @more n s s1 s' hf hs ho hop hd ih =>
    intro m hm
    obtain ⟨m, rfl⟩ : ∃ j, m = j + 1 := ⟨m - 1, by omega⟩
    show (if (stepR g s).over then ((stepR g s).f.ret, stepR g s) else aloneA g m (stepR g s)) = _
    rw [hs, if_neg (by rw [ho]; decide)]
    exact ih (by omega)

/-- An operation of a task: from these words it ends so, and leaves those. -/
def OpDoes (g : Rn → Rn) (k : Nat) (d : Int) (t : Nat) (op ret : Int) (P Q : List Int → Prop) : Prop :=
  ∀ L, P L → ∃ n s', n ≤ 40 + 8 * k ∧ Does g n (startT k d t op L) s' ∧ s'.f.ret = ret ∧ s'.f.op = op ∧ Q s'.L

/-- What a lock's operations do: so many read; one writes. -/
structure Ops (g : Rn → Rn) (k : Nat) (d : Int) (P : Nat → List Int → Prop) (W : List Int → Prop) : Prop where
  same : Same g
  read : ∀ t j op, t < k → j ≤ 15 → (op = 1 ∨ op = 5) → OpDoes g k d t op 2 (P j) (P (j + 1))
  give : ∀ t j, t < k → j ≤ 15 → OpDoes g k d t 2 2 (P (j + 1)) (P j)
  lock : ∀ t, t < k → OpDoes g k d t 3 2 (P 0) W
  unlock : ∀ t, t < k → OpDoes g k d t 4 2 W (P 0)
  tryw : ∀ t, t < k → OpDoes g k d t 6 2 (P 0) W
  no : ∀ t j, t < k → j ≤ 15 → OpDoes g k d t 6 1 (P (j + 1)) (P (j + 1))
  noW : ∀ t, t < k → OpDoes g k d t 6 1 W W
  norW : ∀ t, t < k → OpDoes g k d t 5 1 W W
  down : ∀ t, t < k → OpDoes g k d t 8 2 W (P 1)
  up : ∀ t, t < k → OpDoes g k d t 7 2 (P 1) W

theorem Ops.together {g : Rn → Rn} {k : Nat} {d op : Int} {P : Nat → List Int → Prop} {W : List Int → Prop} (O : Ops g k d P W) (h1 : 2 ≤ k) (h2 : k ≤ 16) (hop : op = 1 ∨ op = 5) : Together g k d op P := by
  refine ⟨O.same, fun i j L hi hj hP => ?_, fun i j L hi hj hP => ?_, fun i j L hi hj hP => ?_, fun i L hi hP => ?_⟩
  · obtain ⟨n, s', h3, h4, h5, h6, h7⟩ := O.read i j op hi (by omega) hop L hP
    exact ⟨n, s', by omega, h4, h5, by rw [h6]; exact hop, h7⟩
  · obtain ⟨n, s', h3, h4, h5, h6, h7⟩ := O.no i j hi (by omega) L hP
    exact ⟨n, s', by omega, h4, by rw [h5]; decide, h7⟩
  · obtain ⟨n, s', h3, h4, h5, h6, h7⟩ := O.give i j hi (by omega) L hP
    exact ⟨n, s', by omega, h4, h6, h7⟩
  · obtain ⟨n, s', h3, h4, h5, h6, h7⟩ := O.tryw i hi L hP
    exact ⟨n, s', by omega, h4, h5, h6⟩

theorem OpDoes.alone {g : Rn → Rn} {k : Nat} {d op ret : Int} {P Q : List Int → Prop} (h : OpDoes g k d 0 op ret P Q) {most : Nat} (hm : 40 + 8 * k ≤ most) {L : List Int} (hP : P L) : ∃ s, aloneA g most (start k d op L) = (ret, s) ∧ Q s.L := by
  obtain ⟨n, s', h3, h4, h5, h6, h7⟩ := h L hP
  refine ⟨s', ?_, h7⟩
  rw [← h5]
  exact alone_does h4 (by omega)

theorem runs_nil {g : Rn → Rn} {n d : Int} {most : Nat} {Q R : List Int → Prop} (h : ∀ L, Q L → R L) : ∀ L, Q L → ∃ E, Runs g n d most [] L E ∧ R E := fun L hL => ⟨L, rfl, h L hL⟩
theorem runs_cons {g : Rn → Rn} {k : Nat} {d op : Int} {most : Nat} {P Q R : List Int → Prop} {os : List Int} (h : OpDoes g k d 0 op 2 P Q) (hm : 40 + 8 * k ≤ most) (hr : ∀ L, Q L → ∃ E, Runs g k d most os L E ∧ R E) : ∀ L, P L → ∃ E, Runs g k d most (op :: os) L E ∧ R E := by
  intro L hL
  obtain ⟨s, h1, h2⟩ := h.alone hm hL
  obtain ⟨E, h3, h4⟩ := hr s.L h2
  exact ⟨E, ⟨s, h1, h3⟩, h4⟩

/-- The lists of operations that the statements ask. -/
def opLists : List (List Int) := [[1, 2], [3, 4], [5, 2], [6, 4], [3, 8, 2], [1, 7, 4], [6, 8, 7, 4]]
theorem Ops.runs {g : Rn → Rn} {k : Nat} {d : Int} {P : Nat → List Int → Prop} {W R : List Int → Prop} (O : Ops g k d P W) (h1 : 1 ≤ k) {most : Nat} (hm : 40 + 8 * k ≤ most) (hR : ∀ L, P 0 L → R L) {Z : List Int} (hZ : P 0 Z) :
    ∀ l, l ∈ opLists → ∃ E, Runs g k d most l Z E ∧ R E := by
  have hk : 0 < k := h1
  have e := runs_nil (g := g) (n := k) (d := d) (most := most) hR
  have rd := fun op h => O.read 0 0 op hk (by omega) h
  intro l hl
  simp only [opLists, List.mem_cons, List.not_mem_nil, or_false] at hl
  rcases hl with rfl | rfl | rfl | rfl | rfl | rfl | rfl
  · exact runs_cons (rd 1 (Or.inl rfl)) hm (runs_cons (O.give 0 0 hk (by omega)) hm e) Z hZ
  · exact runs_cons (O.lock 0 hk) hm (runs_cons (O.unlock 0 hk) hm e) Z hZ
  · exact runs_cons (rd 5 (Or.inr rfl)) hm (runs_cons (O.give 0 0 hk (by omega)) hm e) Z hZ
  · exact runs_cons (O.tryw 0 hk) hm (runs_cons (O.unlock 0 hk) hm e) Z hZ
  · exact runs_cons (O.lock 0 hk) hm (runs_cons (O.down 0 hk) hm (runs_cons (O.give 0 0 hk (by omega)) hm e)) Z hZ
  · exact runs_cons (rd 1 (Or.inl rfl)) hm (runs_cons (O.up 0 hk) hm (runs_cons (O.unlock 0 hk) hm e)) Z hZ
  · exact runs_cons (O.tryw 0 hk) hm (runs_cons (O.down 0 hk) hm (runs_cons (O.up 0 hk) hm (runs_cons (O.unlock 0 hk) hm e))) Z hZ

/-- What one holds, what is tried, what that tells, what gives back. -/
def opTry : List (Int × Int × Int × Int) := [(3, 5, 1, 4), (3, 6, 1, 4), (1, 6, 1, 2), (1, 5, 2, 2)]
theorem Ops.tries {g : Rn → Rn} {k : Nat} {d : Int} {P : Nat → List Int → Prop} {W : List Int → Prop} (O : Ops g k d P W) (h1 : 1 ≤ k) {most : Nat} (hm : 40 + 8 * k ≤ most) {Z : List Int} (hZ : P 0 Z) :
    ∀ x0 x1 x2 x3, (x0, x1, x2, x3) ∈ opTry → ∃ s1 s2 s3, aloneA g most (start k d x0 Z) = (2, s1) ∧ aloneA g most (start k d x1 s1.L) = (x2, s2) ∧
      aloneA g most (start k d x3 s2.L) = (2, s3) ∧ (x2 = 1 → ∃ s4, aloneA g most (start k d 6 s3.L) = (2, s4)) := by
  have hk : 0 < k := h1
  intro x0 x1 x2 x3 hx
  simp only [opTry, List.mem_cons, List.not_mem_nil, or_false, Prod.mk.injEq] at hx
  rcases hx with ⟨rfl, rfl, rfl, rfl⟩ | ⟨rfl, rfl, rfl, rfl⟩ | ⟨rfl, rfl, rfl, rfl⟩ | ⟨rfl, rfl, rfl, rfl⟩
  · obtain ⟨s1, a1, b1⟩ := (O.lock 0 hk).alone hm hZ
    obtain ⟨s2, a2, b2⟩ := (O.norW 0 hk).alone hm b1
    obtain ⟨s3, a3, b3⟩ := (O.unlock 0 hk).alone hm b2
    obtain ⟨s4, a4, b4⟩ := (O.tryw 0 hk).alone hm b3
    exact ⟨s1, s2, s3, a1, a2, a3, fun _ => ⟨s4, a4⟩⟩
  · obtain ⟨s1, a1, b1⟩ := (O.lock 0 hk).alone hm hZ
    obtain ⟨s2, a2, b2⟩ := (O.noW 0 hk).alone hm b1
    obtain ⟨s3, a3, b3⟩ := (O.unlock 0 hk).alone hm b2
    obtain ⟨s4, a4, b4⟩ := (O.tryw 0 hk).alone hm b3
    exact ⟨s1, s2, s3, a1, a2, a3, fun _ => ⟨s4, a4⟩⟩
  · obtain ⟨s1, a1, b1⟩ := (O.read 0 0 1 hk (by omega) (Or.inl rfl)).alone hm hZ
    obtain ⟨s2, a2, b2⟩ := (O.no 0 0 hk (by omega)).alone hm b1
    obtain ⟨s3, a3, b3⟩ := (O.give 0 0 hk (by omega)).alone hm b2
    obtain ⟨s4, a4, b4⟩ := (O.tryw 0 hk).alone hm b3
    exact ⟨s1, s2, s3, a1, a2, a3, fun _ => ⟨s4, a4⟩⟩
  · obtain ⟨s1, a1, b1⟩ := (O.read 0 0 1 hk (by omega) (Or.inl rfl)).alone hm hZ
    obtain ⟨s2, a2, b2⟩ := (O.read 0 1 5 hk (by omega) (Or.inr rfl)).alone hm b1
    obtain ⟨s3, a3, b3⟩ := (O.give 0 1 hk (by omega)).alone hm b2
    exact ⟨s1, s2, s3, a1, a2, a3, fun h => absurd h (by decide)⟩

end Go.Proofs.Ytbcppehpfckgoaa.Z

/- A lock's operations, each whole, where the words tell who writes. No lock in sight. -/
set_option linter.unusedVariables false
set_option linter.unusedSimpArgs false
namespace Go.Proofs.Ytbcppehpfckgoaa.Z
open Go.RowKit

/-- What a lock's operations do: so many read; one writes. -/
structure OpsT (g : Rn → Rn) (k : Nat) (d : Int) (P : Nat → List Int → Prop) (W : Nat → List Int → Prop) : Prop where
  same : Same g
  read : ∀ t j op, t < k → j ≤ 15 → (op = 1 ∨ op = 5) → OpDoes g k d t op 2 (P j) (P (j + 1))
  give : ∀ t j, t < k → j ≤ 15 → OpDoes g k d t 2 2 (P (j + 1)) (P j)
  lock : ∀ t, t < k → OpDoes g k d t 3 2 (P 0) (W t)
  unlock : ∀ t, t < k → OpDoes g k d t 4 2 (W t) (P 0)
  tryw : ∀ t, t < k → OpDoes g k d t 6 2 (P 0) (W t)
  no : ∀ t j, t < k → j ≤ 15 → OpDoes g k d t 6 1 (P (j + 1)) (P (j + 1))
  noW : ∀ t i, t < k → i < k → OpDoes g k d t 6 1 (W i) (W i)
  norW : ∀ t i, t < k → i < k → OpDoes g k d t 5 1 (W i) (W i)
  down : ∀ t, t < k → OpDoes g k d t 8 2 (W t) (P 1)
  up : ∀ t, t < k → OpDoes g k d t 7 2 (P 1) (W t)

theorem OpsT.together {g : Rn → Rn} {k : Nat} {d op : Int} {P : Nat → List Int → Prop} {W : Nat → List Int → Prop} (O : OpsT g k d P W) (h1 : 2 ≤ k) (h2 : k ≤ 16) (hop : op = 1 ∨ op = 5) : Together g k d op P := by
  refine ⟨O.same, fun i j L hi hj hP => ?_, fun i j L hi hj hP => ?_, fun i j L hi hj hP => ?_, fun i L hi hP => ?_⟩
  · obtain ⟨n, s', h3, h4, h5, h6, h7⟩ := O.read i j op hi (by omega) hop L hP
    exact ⟨n, s', by omega, h4, h5, by rw [h6]; exact hop, h7⟩
  · obtain ⟨n, s', h3, h4, h5, h6, h7⟩ := O.no i j hi (by omega) L hP
    exact ⟨n, s', by omega, h4, by rw [h5]; decide, h7⟩
  · obtain ⟨n, s', h3, h4, h5, h6, h7⟩ := O.give i j hi (by omega) L hP
    exact ⟨n, s', by omega, h4, h6, h7⟩
  · obtain ⟨n, s', h3, h4, h5, h6, h7⟩ := O.tryw i hi L hP
    exact ⟨n, s', by omega, h4, h5, h6⟩

theorem OpsT.runs {g : Rn → Rn} {k : Nat} {d : Int} {P : Nat → List Int → Prop} {W : Nat → List Int → Prop} {R : List Int → Prop} (O : OpsT g k d P W) (h1 : 1 ≤ k) {most : Nat} (hm : 40 + 8 * k ≤ most) (hR : ∀ L, P 0 L → R L) {Z : List Int} (hZ : P 0 Z) :
    ∀ l, l ∈ opLists → ∃ E, Runs g k d most l Z E ∧ R E := by
  have hk : 0 < k := h1
  have e := runs_nil (g := g) (n := k) (d := d) (most := most) hR
  have rd := fun op h => O.read 0 0 op hk (by omega) h
  intro l hl
  simp only [opLists, List.mem_cons, List.not_mem_nil, or_false] at hl
  rcases hl with rfl | rfl | rfl | rfl | rfl | rfl | rfl
  · exact runs_cons (rd 1 (Or.inl rfl)) hm (runs_cons (O.give 0 0 hk (by omega)) hm e) Z hZ
  · exact runs_cons (O.lock 0 hk) hm (runs_cons (O.unlock 0 hk) hm e) Z hZ
  · exact runs_cons (rd 5 (Or.inr rfl)) hm (runs_cons (O.give 0 0 hk (by omega)) hm e) Z hZ
  · exact runs_cons (O.tryw 0 hk) hm (runs_cons (O.unlock 0 hk) hm e) Z hZ
  · exact runs_cons (O.lock 0 hk) hm (runs_cons (O.down 0 hk) hm (runs_cons (O.give 0 0 hk (by omega)) hm e)) Z hZ
  · exact runs_cons (rd 1 (Or.inl rfl)) hm (runs_cons (O.up 0 hk) hm (runs_cons (O.unlock 0 hk) hm e)) Z hZ
  · exact runs_cons (O.tryw 0 hk) hm (runs_cons (O.down 0 hk) hm (runs_cons (O.up 0 hk) hm (runs_cons (O.unlock 0 hk) hm e))) Z hZ

theorem OpsT.tries {g : Rn → Rn} {k : Nat} {d : Int} {P : Nat → List Int → Prop} {W : Nat → List Int → Prop} (O : OpsT g k d P W) (h1 : 1 ≤ k) {most : Nat} (hm : 40 + 8 * k ≤ most) {Z : List Int} (hZ : P 0 Z) :
    ∀ x0 x1 x2 x3, (x0, x1, x2, x3) ∈ opTry → ∃ s1 s2 s3, aloneA g most (start k d x0 Z) = (2, s1) ∧ aloneA g most (start k d x1 s1.L) = (x2, s2) ∧
      aloneA g most (start k d x3 s2.L) = (2, s3) ∧ (x2 = 1 → ∃ s4, aloneA g most (start k d 6 s3.L) = (2, s4)) := by
  have hk : 0 < k := h1
  intro x0 x1 x2 x3 hx
  simp only [opTry, List.mem_cons, List.not_mem_nil, or_false, Prod.mk.injEq] at hx
  rcases hx with ⟨rfl, rfl, rfl, rfl⟩ | ⟨rfl, rfl, rfl, rfl⟩ | ⟨rfl, rfl, rfl, rfl⟩ | ⟨rfl, rfl, rfl, rfl⟩
  · obtain ⟨s1, a1, b1⟩ := (O.lock 0 hk).alone hm hZ
    obtain ⟨s2, a2, b2⟩ := (O.norW 0 0 hk hk).alone hm b1
    obtain ⟨s3, a3, b3⟩ := (O.unlock 0 hk).alone hm b2
    obtain ⟨s4, a4, b4⟩ := (O.tryw 0 hk).alone hm b3
    exact ⟨s1, s2, s3, a1, a2, a3, fun _ => ⟨s4, a4⟩⟩
  · obtain ⟨s1, a1, b1⟩ := (O.lock 0 hk).alone hm hZ
    obtain ⟨s2, a2, b2⟩ := (O.noW 0 0 hk hk).alone hm b1
    obtain ⟨s3, a3, b3⟩ := (O.unlock 0 hk).alone hm b2
    obtain ⟨s4, a4, b4⟩ := (O.tryw 0 hk).alone hm b3
    exact ⟨s1, s2, s3, a1, a2, a3, fun _ => ⟨s4, a4⟩⟩
  · obtain ⟨s1, a1, b1⟩ := (O.read 0 0 1 hk (by omega) (Or.inl rfl)).alone hm hZ
    obtain ⟨s2, a2, b2⟩ := (O.no 0 0 hk (by omega)).alone hm b1
    obtain ⟨s3, a3, b3⟩ := (O.give 0 0 hk (by omega)).alone hm b2
    obtain ⟨s4, a4, b4⟩ := (O.tryw 0 hk).alone hm b3
    exact ⟨s1, s2, s3, a1, a2, a3, fun _ => ⟨s4, a4⟩⟩
  · obtain ⟨s1, a1, b1⟩ := (O.read 0 0 1 hk (by omega) (Or.inl rfl)).alone hm hZ
    obtain ⟨s2, a2, b2⟩ := (O.read 0 1 5 hk (by omega) (Or.inr rfl)).alone hm b1
    obtain ⟨s3, a3, b3⟩ := (O.give 0 1 hk (by omega)).alone hm b2
    exact ⟨s1, s2, s3, a1, a2, a3, fun h => absurd h (by decide)⟩

end Go.Proofs.Ytbcppehpfckgoaa.Z

/- A wake-up that finds nobody, in the middle of an operation. No lock in sight. -/
set_option linter.unusedVariables false
set_option linter.unusedSimpArgs false
namespace Go.Proofs.Ytbcppehpfckgoaa.Z
open Go.RowKit

theorem does_wakes_mid (g : Rn → Rn) (c : Int) : ∀ (d : Nat) (s : Rn) (i : Int), s.f.wk = ⟨true, c, i, false⟩ → 0 ≤ i → i + d = s.n → 1 ≤ d → NoWatch s.n c s.L → s.f.ret = 0 → s.f.op ≠ 0 →
    ∃ s2, s2.fresh = s.rests ∧ ∀ n s', Does g n s2 s' → Does g (n + d) s s' := by
  intro d
  induction d with
  | zero => intro s i hw h0 h1 h2; omega
  | succ d ih =>
    intro s i hw h0 h1 _ hc hr ho
    obtain ⟨e1, e2, e3, e4, e5, e6⟩ := woke_calm hw h0 (by omega) hc
    have hst : stepR g s = s.woke := by unfold stepR; rw [hw]; rfl
    have hf : Free s := Or.inl (by rw [hw])
    have hov : s.woke.over = false := by unfold Rn.over; rw [show s.woke.f.ret = 0 from by rw [e2]; exact hr]; rfl
    have hop : s.woke.f.op ≠ 0 := by rw [e2]; exact ho
    by_cases hd : d = 0
    · subst hd
      rw [if_pos (by omega)] at e2
      refine ⟨s.woke, ?_, fun n s' h => Does.more hf hst hov hop h⟩
      unfold Rn.fresh Rn.rests
      rw [e1, e2, e4, e5, e6]
    · rw [if_neg (by omega)] at e2
      obtain ⟨s2, k1, k2⟩ := ih s.woke (i + 1) (by rw [e2]) (by omega) (by rw [e4]; omega) (by omega) (by rw [e4, e1]; exact hc) (by rw [e2]; exact hr) hop
      refine ⟨s2, ?_, fun n s' h => Does.more hf hst hov hop (k2 n s' h)⟩
      rw [k1]
      unfold Rn.rests
      rw [e1, e2, e4, e5, e6]

theorem AtT.mid {n mode : Int} {t : Nat} {s s1 : Rn} {op line a b line' a' b' : Int} {L L' : List Int} {g : Rn → Rn} (h : AtT n mode t s op line a b L) (c : Int) (hg : g (RnT n mode t op line a b L) = s1) (hr : s1.rests = RnT n mode t op line' a' b' L') (ho : op ≠ 0) (hk : s1.f.wk = beginA mode c) (h1 : 1 ≤ n) (hc : NoWatch n c L') :
    ∃ q s2, q ≤ n.toNat + 1 ∧ AtT n mode t s2 op line' a' b' L' ∧ ∀ m s', Does g m s2 s' → Does g (m + q) s s' := by
  have hL : s1.L = L' := congrArg (fun x => x.L) hr
  have hn : s1.n = n := congrArg (fun x => x.n) hr
  have hret : s1.f.ret = 0 := congrArg (fun x => x.f.ret) hr
  have hop : s1.f.op = op := congrArg (fun x => x.f.op) hr
  have hov : s1.over = false := by unfold Rn.over; rw [hret]; rfl
  have hst : stepR g s = s1 := h.step.trans hg
  unfold beginA at hk
  split at hk
  · obtain ⟨s2, k1, k2⟩ := does_wakes_mid g c n.toNat s1 0 hk (Int.le_refl _) (by omega) (by omega) (by rw [hn, hL]; exact hc) hret (by rw [hop]; exact ho)
    exact ⟨n.toNat + 1, s2, Nat.le_refl _, k1.trans hr, fun m s' hd => Does.more h.free hst hov (by rw [hop]; exact ho) (k2 m s' hd)⟩
  · refine ⟨1, s1, by omega, ?_, fun m s' hd => Does.more h.free hst hov (by rw [hop]; exact ho) hd⟩
    unfold AtT
    rw [← hr]
    unfold Rn.fresh Rn.rests
    rw [← hk]

end Go.Proofs.Ytbcppehpfckgoaa.Z

/- The phase-fair lock with a queue: its operations, each whole. No program is in sight. Written by genpqops.py. -/
set_option linter.unusedVariables false
set_option linter.unusedSimpArgs false
namespace Go.Proofs.Ytbcppehpfckgoaa.Z
open Go.RowKit

section
variable {L : List Int} {c : Nat} {x y : Int}
theorem eq_ld (h : c < L.length) : doA L ⟨1, (c : Int), 0, 0, 0⟩ = (⟨1, c, 0, 0, L.getD c 0⟩, true, L) := by
  unfold doA
  rw [if_pos (by dsimp only; omega)]
  simp
theorem eq_st (h : c < L.length) : (doA L ⟨2, (c : Int), x, 0, 0⟩).2.2 = L.set c x := by
  unfold doA
  rw [if_pos (by dsimp only; omega)]
  simp
theorem eq_add (h : c < L.length) : (doA L ⟨3, (c : Int), x, 0, 0⟩).2.2 = L.set c ((L.getD c 0 + x) % 4294967296) ∧ (doA L ⟨3, (c : Int), x, 0, 0⟩).1.old = L.getD c 0 := by
  unfold doA
  rw [if_pos (by dsimp only; omega)]
  simp
theorem eq_sw (h : c < L.length) : (doA L ⟨4, (c : Int), x, 0, 0⟩).2.2 = L.set c x ∧ (doA L ⟨4, (c : Int), x, 0, 0⟩).1.old = L.getD c 0 := by
  unfold doA
  rw [if_pos (by dsimp only; omega)]
  simp
theorem eq_cas (h : c < L.length) : (doA L ⟨5, (c : Int), x, y, 0⟩).2.2 = (if L.getD c 0 = x then L.set c y else L) ∧ casB L c x y = (L.getD c 0 == x) := by
  unfold casB doA
  rw [if_pos (by dsimp only; omega)]
  by_cases h : L[c]?.getD 0 = x
  · simp [h]
  · simp [h]
end
theorem qcell_next {k i : Nat} (h2 : k ≤ 64) (hi : i < k) : cellP k 0 i = ((8 + i : Nat) : Int) := by unfold cellP; rw [if_pos (by omega)]; omega
theorem qcell_blocked {k i : Nat} (h2 : k ≤ 64) (hi : i < k) : cellP k 1 i = ((8 + k + i : Nat) : Int) := by unfold cellP; rw [if_pos (by omega)]; omega

/-- The lock's words: who came, who went, where the queue's end is, the phase; nobody is watched for. -/
def PqAt (k : Nat) (x q t p : Int) (L : List Int) : Prop := L.length = 8 + 4 * k ∧ (L.getD 0 0 = x ∧ L.getD 1 0 = q ∧ L.getD 2 0 = t ∧ L.getD 3 0 = p) ∧ ∀ i, i < k → L.getD (8 + 2 * k + i) 0 = 0
theorem getD_setq {L : List Int} {i j : Nat} {v : Int} : (L.set i v).getD j 0 = if i = j ∧ i < L.length then v else L.getD j 0 := by
  simp only [List.getD_eq_getElem?_getD, List.getElem?_set]
  by_cases h : i = j
  · subst h
    by_cases h2 : i < L.length
    · simp [h2]
    · simp [h2]
  · simp [h]
/-- Those whose link is nothing: it stays so. -/
def Nx (i : Nat) (L L' : List Int) : Prop := ∀ j : Nat, L.getD (8 + j) 0 = 0 → L'.getD (8 + j) 0 = 0
section
variable {k i : Nat} {x q t p : Int} {L : List Int}
theorem PqAt.set (h : PqAt k x q t p L) {c : Nat} {v : Int} (h0 : 8 ≤ c) (h1 : c < 8 + 2 * k) : PqAt k x q t p (L.set c v) := by
  obtain ⟨a1, ⟨a2, a3, a5, a6⟩, a4⟩ := h
  refine ⟨by simpa using a1, ⟨?_, ?_, ?_, ?_⟩, fun i hi => ?_⟩
  · rw [getD_setq, if_neg (by omega)]; exact a2
  · rw [getD_setq, if_neg (by omega)]; exact a3
  · rw [getD_setq, if_neg (by omega)]; exact a5
  · rw [getD_setq, if_neg (by omega)]; exact a6
  · rw [getD_setq, if_neg (by omega)]; exact a4 i hi
theorem PqAt.set0 (h : PqAt k x q t p L) (v : Int) : PqAt k v q t p (L.set 0 v) := by
  obtain ⟨a1, ⟨a2, a3, a5, a6⟩, a4⟩ := h
  refine ⟨by simpa using a1, ⟨?_, ?_, ?_, ?_⟩, fun i hi => ?_⟩
  · rw [getD_setq, if_pos (by omega)]
  · rw [getD_setq, if_neg (by omega)]; exact a3
  · rw [getD_setq, if_neg (by omega)]; exact a5
  · rw [getD_setq, if_neg (by omega)]; exact a6
  · rw [getD_setq, if_neg (by omega)]; exact a4 i hi
theorem PqAt.ld0 (h : PqAt k x q t p L) : doA L ⟨1, 0, 0, 0, 0⟩ = (⟨1, 0, 0, 0, x⟩, true, L) := by
  have hl := h.1
  have e := eq_ld (L := L) (c := 0) (by omega)
  rw [show L.getD 0 0 = x from h.2.1.1] at e
  exact e
theorem PqAt.add0 (h : PqAt k x q t p L) (v : Int) : ∃ L', (doA L ⟨3, 0, v, 0, 0⟩).2.2 = L' ∧ (doA L ⟨3, 0, v, 0, 0⟩).1.old = x ∧ PqAt k ((x + v) % 4294967296) q t p L' ∧ Nx i L L' := by
  have hl := h.1
  have e := eq_add (L := L) (c := 0) (x := v) (by omega)
  have hv : L.getD 0 0 = x := h.2.1.1
  rw [hv] at e
  refine ⟨_, e.1, e.2, h.set0 _, fun j hj => ?_⟩
  rw [getD_setq, if_neg (by omega)]; exact hj
theorem PqAt.cas0 (h : PqAt k x q t p L) {y : Int} (hy : x = y) (v : Int) : ∃ L', (doA L ⟨5, 0, y, v, 0⟩).2.2 = L' ∧ casB L 0 y v = true ∧ PqAt k v q t p L' ∧ Nx i L L' := by
  have hl := h.1
  have e := eq_cas (L := L) (c := 0) (x := y) (y := v) (by omega)
  have ht : L.getD 0 0 = x := h.2.1.1
  rw [if_pos (ht.trans hy)] at e
  refine ⟨_, e.1, e.2.trans (by rw [ht, hy]; simp), h.set0 v, fun j hj => ?_⟩
  rw [getD_setq, if_neg (by omega)]; exact hj
theorem PqAt.ldA0 (h : PqAt k x q t p L) : ldA L 0 = x := by
  have hl := h.1
  unfold ldA
  rw [if_pos (by omega)]
  exact h.2.1.1
theorem PqAt.set1 (h : PqAt k x q t p L) (v : Int) : PqAt k x v t p (L.set 1 v) := by
  obtain ⟨a1, ⟨a2, a3, a5, a6⟩, a4⟩ := h
  refine ⟨by simpa using a1, ⟨?_, ?_, ?_, ?_⟩, fun i hi => ?_⟩
  · rw [getD_setq, if_neg (by omega)]; exact a2
  · rw [getD_setq, if_pos (by omega)]
  · rw [getD_setq, if_neg (by omega)]; exact a5
  · rw [getD_setq, if_neg (by omega)]; exact a6
  · rw [getD_setq, if_neg (by omega)]; exact a4 i hi
theorem PqAt.ld1 (h : PqAt k x q t p L) : doA L ⟨1, 1, 0, 0, 0⟩ = (⟨1, 1, 0, 0, q⟩, true, L) := by
  have hl := h.1
  have e := eq_ld (L := L) (c := 1) (by omega)
  rw [show L.getD 1 0 = q from h.2.1.2.1] at e
  exact e
theorem PqAt.add1 (h : PqAt k x q t p L) (v : Int) : ∃ L', (doA L ⟨3, 1, v, 0, 0⟩).2.2 = L' ∧ (doA L ⟨3, 1, v, 0, 0⟩).1.old = q ∧ PqAt k x ((q + v) % 4294967296) t p L' ∧ Nx i L L' := by
  have hl := h.1
  have e := eq_add (L := L) (c := 1) (x := v) (by omega)
  have hv : L.getD 1 0 = q := h.2.1.2.1
  rw [hv] at e
  refine ⟨_, e.1, e.2, h.set1 _, fun j hj => ?_⟩
  rw [getD_setq, if_neg (by omega)]; exact hj
theorem PqAt.cas1 (h : PqAt k x q t p L) {y : Int} (hy : q = y) (v : Int) : ∃ L', (doA L ⟨5, 1, y, v, 0⟩).2.2 = L' ∧ casB L 1 y v = true ∧ PqAt k x v t p L' ∧ Nx i L L' := by
  have hl := h.1
  have e := eq_cas (L := L) (c := 1) (x := y) (y := v) (by omega)
  have ht : L.getD 1 0 = q := h.2.1.2.1
  rw [if_pos (ht.trans hy)] at e
  refine ⟨_, e.1, e.2.trans (by rw [ht, hy]; simp), h.set1 v, fun j hj => ?_⟩
  rw [getD_setq, if_neg (by omega)]; exact hj
theorem PqAt.ldA1 (h : PqAt k x q t p L) : ldA L 1 = q := by
  have hl := h.1
  unfold ldA
  rw [if_pos (by omega)]
  exact h.2.1.2.1
theorem PqAt.set2 (h : PqAt k x q t p L) (v : Int) : PqAt k x q v p (L.set 2 v) := by
  obtain ⟨a1, ⟨a2, a3, a5, a6⟩, a4⟩ := h
  refine ⟨by simpa using a1, ⟨?_, ?_, ?_, ?_⟩, fun i hi => ?_⟩
  · rw [getD_setq, if_neg (by omega)]; exact a2
  · rw [getD_setq, if_neg (by omega)]; exact a3
  · rw [getD_setq, if_pos (by omega)]
  · rw [getD_setq, if_neg (by omega)]; exact a6
  · rw [getD_setq, if_neg (by omega)]; exact a4 i hi
theorem PqAt.ld2 (h : PqAt k x q t p L) : doA L ⟨1, 2, 0, 0, 0⟩ = (⟨1, 2, 0, 0, t⟩, true, L) := by
  have hl := h.1
  have e := eq_ld (L := L) (c := 2) (by omega)
  rw [show L.getD 2 0 = t from h.2.1.2.2.1] at e
  exact e
theorem PqAt.add2 (h : PqAt k x q t p L) (v : Int) : ∃ L', (doA L ⟨3, 2, v, 0, 0⟩).2.2 = L' ∧ (doA L ⟨3, 2, v, 0, 0⟩).1.old = t ∧ PqAt k x q ((t + v) % 4294967296) p L' ∧ Nx i L L' := by
  have hl := h.1
  have e := eq_add (L := L) (c := 2) (x := v) (by omega)
  have hv : L.getD 2 0 = t := h.2.1.2.2.1
  rw [hv] at e
  refine ⟨_, e.1, e.2, h.set2 _, fun j hj => ?_⟩
  rw [getD_setq, if_neg (by omega)]; exact hj
theorem PqAt.cas2 (h : PqAt k x q t p L) {y : Int} (hy : t = y) (v : Int) : ∃ L', (doA L ⟨5, 2, y, v, 0⟩).2.2 = L' ∧ casB L 2 y v = true ∧ PqAt k x q v p L' ∧ Nx i L L' := by
  have hl := h.1
  have e := eq_cas (L := L) (c := 2) (x := y) (y := v) (by omega)
  have ht : L.getD 2 0 = t := h.2.1.2.2.1
  rw [if_pos (ht.trans hy)] at e
  refine ⟨_, e.1, e.2.trans (by rw [ht, hy]; simp), h.set2 v, fun j hj => ?_⟩
  rw [getD_setq, if_neg (by omega)]; exact hj
theorem PqAt.ldA2 (h : PqAt k x q t p L) : ldA L 2 = t := by
  have hl := h.1
  unfold ldA
  rw [if_pos (by omega)]
  exact h.2.1.2.2.1
theorem PqAt.set3 (h : PqAt k x q t p L) (v : Int) : PqAt k x q t v (L.set 3 v) := by
  obtain ⟨a1, ⟨a2, a3, a5, a6⟩, a4⟩ := h
  refine ⟨by simpa using a1, ⟨?_, ?_, ?_, ?_⟩, fun i hi => ?_⟩
  · rw [getD_setq, if_neg (by omega)]; exact a2
  · rw [getD_setq, if_neg (by omega)]; exact a3
  · rw [getD_setq, if_neg (by omega)]; exact a5
  · rw [getD_setq, if_pos (by omega)]
  · rw [getD_setq, if_neg (by omega)]; exact a4 i hi
theorem PqAt.ld3 (h : PqAt k x q t p L) : doA L ⟨1, 3, 0, 0, 0⟩ = (⟨1, 3, 0, 0, p⟩, true, L) := by
  have hl := h.1
  have e := eq_ld (L := L) (c := 3) (by omega)
  rw [show L.getD 3 0 = p from h.2.1.2.2.2] at e
  exact e
theorem PqAt.add3 (h : PqAt k x q t p L) (v : Int) : ∃ L', (doA L ⟨3, 3, v, 0, 0⟩).2.2 = L' ∧ (doA L ⟨3, 3, v, 0, 0⟩).1.old = p ∧ PqAt k x q t ((p + v) % 4294967296) L' ∧ Nx i L L' := by
  have hl := h.1
  have e := eq_add (L := L) (c := 3) (x := v) (by omega)
  have hv : L.getD 3 0 = p := h.2.1.2.2.2
  rw [hv] at e
  refine ⟨_, e.1, e.2, h.set3 _, fun j hj => ?_⟩
  rw [getD_setq, if_neg (by omega)]; exact hj
theorem PqAt.cas3 (h : PqAt k x q t p L) {y : Int} (hy : p = y) (v : Int) : ∃ L', (doA L ⟨5, 3, y, v, 0⟩).2.2 = L' ∧ casB L 3 y v = true ∧ PqAt k x q t v L' ∧ Nx i L L' := by
  have hl := h.1
  have e := eq_cas (L := L) (c := 3) (x := y) (y := v) (by omega)
  have ht : L.getD 3 0 = p := h.2.1.2.2.2
  rw [if_pos (ht.trans hy)] at e
  refine ⟨_, e.1, e.2.trans (by rw [ht, hy]; simp), h.set3 v, fun j hj => ?_⟩
  rw [getD_setq, if_neg (by omega)]; exact hj
theorem PqAt.ldA3 (h : PqAt k x q t p L) : ldA L 3 = p := by
  have hl := h.1
  unfold ldA
  rw [if_pos (by omega)]
  exact h.2.1.2.2.2
theorem PqAt.casno (h : PqAt k x q t p L) {y : Int} (hy : ¬ t = y) (v : Int) : (doA L ⟨5, 2, y, v, 0⟩).2.2 = L ∧ casB L 2 y v = false := by
  have hl := h.1
  have e := eq_cas (L := L) (c := 2) (x := y) (y := v) (by omega)
  have ht : L.getD 2 0 = t := h.2.1.2.2.1
  rw [if_neg (by rw [ht]; exact hy)] at e
  exact ⟨e.1, e.2.trans (by rw [ht]; simpa using hy)⟩
theorem PqAt.sw (h : PqAt k x q t p L) (v : Int) : ∃ L', (doA L ⟨4, 2, v, 0, 0⟩).2.2 = L' ∧ (doA L ⟨4, 2, v, 0, 0⟩).1.old = t ∧ PqAt k x q v p L' ∧ Nx i L L' := by
  have hl := h.1
  have e := eq_sw (L := L) (c := 2) (x := v) (by omega)
  refine ⟨_, e.1, e.2.trans h.2.1.2.2.1, h.set2 v, fun j hj => ?_⟩
  rw [getD_setq, if_neg (by omega)]; exact hj
theorem PqAt.st3 (h : PqAt k x q t p L) (v : Int) : ∃ L', (doA L ⟨2, 3, v, 0, 0⟩).2.2 = L' ∧ PqAt k x q t v L' ∧ Nx i L L' := by
  have hl := h.1
  refine ⟨_, eq_st (c := 3) (by omega), h.set3 v, fun j hj => ?_⟩
  rw [getD_setq, if_neg (by omega)]; exact hj
theorem PqAt.nowatch (h : PqAt k x q t p L) (h2 : k ≤ 64) (h1 : 1 ≤ k) (cc : Int) (hc : 0 ≤ cc ∧ cc ≤ 4) : NoWatch k cc L := by
  intro i h0 hi
  obtain ⟨a1, a2, a4⟩ := h
  have hcl : cellP k 2 i = 8 + 2 * k + i := by unfold cellP; rw [if_pos (by omega)]
  have hlt : 0 ≤ 8 + 2 * (k : Int) + i ∧ 8 + 2 * (k : Int) + i < (L.length : Int) := by omega
  have hg : L.getD (8 + 2 * (k : Int) + i).toNat 0 = 0 := by
    have := a4 i.toNat (by omega)
    rw [show (8 + 2 * (k : Int) + i).toNat = 8 + 2 * k + i.toNat from by omega]
    exact this
  rw [hcl]
  unfold doA
  rw [if_pos hlt]
  refine ⟨by simp, ?_⟩
  simp only [if_true]
  rw [hg]
  omega
theorem PqAt.st_next (h : PqAt k x q t p L) (h2 : k ≤ 64) (hi : i < k) : ∃ L', (doA L ⟨2, cellP k 0 i, 0, 0, 0⟩).2.2 = L' ∧ PqAt k x q t p L' ∧ L'.getD (8 + i) 0 = 0 ∧ Nx i L L' := by
  have hl := h.1
  rw [qcell_next h2 hi]
  refine ⟨_, eq_st (by omega), h.set (by omega) (by omega), ?_, fun j hj => ?_⟩
  · rw [getD_setq, if_pos (by omega)]
  · rw [getD_setq]; split; rfl; exact hj
theorem PqAt.st_blocked (h : PqAt k x q t p L) (h2 : k ≤ 64) (hi : i < k) : ∃ L', (doA L ⟨2, cellP k 1 i, 1, 0, 0⟩).2.2 = L' ∧ PqAt k x q t p L' ∧ (∀ j, j < k → L.getD (8 + j) 0 = 0 → L'.getD (8 + j) 0 = 0) := by
  have hl := h.1
  rw [qcell_blocked h2 hi]
  refine ⟨_, eq_st (by omega), h.set (by omega) (by omega), fun j hj hz => ?_⟩
  rw [getD_setq, if_neg (by omega)]; exact hz
theorem PqAt.ld_next (h : PqAt k x q t p L) (h2 : k ≤ 64) (hi : i < k) (hz : L.getD (8 + i) 0 = 0) : (doA L ⟨1, cellP k 0 i, 0, 0, 0⟩).2.2 = L ∧ (doA L ⟨1, cellP k 0 i, 0, 0, 0⟩).1.old = 0 := by
  have hl := h.1
  rw [qcell_next h2 hi, eq_ld (by omega)]
  exact ⟨rfl, hz⟩
theorem PqAt.wait (h : PqAt k x q t p L) (n mode task : Int) (pr : Int → Bool) (hp : pr q = true) : waitA L n mode task 0 1 pr = ⟨0, ⟨1, 1, 0, 0, q⟩, true, true, L⟩ := by
  rw [wait_hit (by rw [h.ld1]; exact hp), h.ld1]
end
def PqW (q p : Int) : Prop := (0 ≤ q ∧ q < 4294967296) ∧ q % 256 = 0 ∧ (0 ≤ p ∧ p < 4294967296)
/-- So many read; one writes. -/
def PqReads (k j : Nat) (L : List Int) : Prop := ∃ q p : Int, PqAt k ((q + 256 * j) % 4294967296) q 0 p L ∧ PqW q p
def PqWrites (k t : Nat) (L : List Int) : Prop := ∃ q p : Int, (PqAt k ((q + pfP p) % 4294967296) q (t + 1) p L ∧ PqW q p) ∧ L.getD (8 + t) 0 = 0
theorem pfP_is (p : Int) : pfP p = 2 ∨ pfP p = 3 := by unfold pfP; omega

set_option maxHeartbeats 1600000 in
theorem pq_ops (k : Nat) (d : Int) (h1 : 1 ≤ k) (h2 : k ≤ 64) : OpsT pqA k d (PqReads k) (PqWrites k) := by
  refine ⟨pq_step_same, ?_, ?_, ?_, ?_, ?_, ?_, ?_, ?_, ?_, ?_⟩
  · rintro i j op hi hj hop L ⟨q, p, hL, hq, hq4, hp⟩
    have hown : ((i : Int) + 1) % 4294967296 = i + 1 := by omega
    have hne : ¬ ((i : Int) + 1 = 0) := by omega
    rcases hop with rfl | rfl
    · have hm : ((q + 256 * (j : Int)) % 4294967296) % 4 = 0 := by omega
      have hb : (((q + 256 * (j : Int)) % 4294967296) + 256) % 4294967296 = (q + 256 * ((j + 1 : Nat) : Int)) % 4294967296 := by omega
      generalize hx : (q + 256 * (j : Int)) % 4294967296 = x at hL hm hb
      obtain ⟨L1, hs, ho, hF, hn⟩ := PqAt.add0 (i := i) hL 256
      rw [hb] at hF
      obtain ⟨s1, e1⟩ : ∃ s1, pqA (RnT k d i 1 0 0 0 L) = s1 := ⟨_, rfl⟩
      have e2 := e1
      simp [AtT, RnT, pqA, pfR10, pfR20, pfR50, pfR51, pqLock, pqEnter, pqLeave, pqTry, pqDecide, pqGive, pqIn6, pqIn7, pqLast6, pqLast7, mxEnter, mxE0, mxE1, mxE2, mxGive, mxG0, mxG1, mxTry, mxOwn, wrap64, Rn.fresh, Rn.rests, Rn.did, Rn.setA, Rn.setB, Rn.note, Rn.noted, Rn.goto, Rn.fin, Rn.wake, Rn.waited, Wk.zero, hown, hs, ho, hm] at e2
      subst e2
      refine ⟨1, _, by omega, ((startT_at k d i 1 L).fin (by rw [e1]; simp) (by rw [e1]; rfl)), by rw [e1], by rw [e1], ?_⟩
      rw [e1]
      exact ⟨q, p, hF, hq, hq4, hp⟩
    · have hm : ((q + 256 * (j : Int)) % 4294967296) % 4 = 0 := by omega
      have hb : (((q + 256 * (j : Int)) % 4294967296) + 256) % 4294967296 = (q + 256 * ((j + 1 : Nat) : Int)) % 4294967296 := by omega
      generalize hx : (q + 256 * (j : Int)) % 4294967296 = x at hL hm hb
      generalize hy : (q + 256 * ((j + 1 : Nat) : Int)) % 4294967296 = y at hb
      have hl := hL.ld0
      obtain ⟨L1, hs, ho, hF, hn⟩ := PqAt.cas0 (i := i) hL rfl ((x + 256) % 4294967296)
      have k0 : AtT k d i (pqA (RnT k d i 5 0 0 0 L)) 5 1 x 0 L := by simp [AtT, RnT, pqA, pfR10, pfR20, pfR50, pfR51, pqLock, pqEnter, pqLeave, pqTry, pqDecide, pqGive, pqIn6, pqIn7, pqLast6, pqLast7, mxEnter, mxE0, mxE1, mxE2, mxGive, mxG0, mxG1, mxTry, mxOwn, wrap64, Rn.fresh, Rn.rests, Rn.did, Rn.setA, Rn.setB, Rn.note, Rn.noted, Rn.goto, Rn.fin, Rn.wake, Rn.waited, Wk.zero, hown, hl, hm]
      rw [hb] at hF hs ho
      obtain ⟨s1, e1⟩ : ∃ s1, pqA (RnT k d i 5 1 x 0 L) = s1 := ⟨_, rfl⟩
      have e2 := e1
      simp [AtT, RnT, pqA, pfR10, pfR20, pfR50, pfR51, pqLock, pqEnter, pqLeave, pqTry, pqDecide, pqGive, pqIn6, pqIn7, pqLast6, pqLast7, mxEnter, mxE0, mxE1, mxE2, mxGive, mxG0, mxG1, mxTry, mxOwn, wrap64, Rn.fresh, Rn.rests, Rn.did, Rn.setA, Rn.setB, Rn.note, Rn.noted, Rn.goto, Rn.fin, Rn.wake, Rn.waited, Wk.zero, hown, hs, ho, hb] at e2
      subst e2
      refine ⟨2, _, by omega, ((startT_at k d i 5 L).go k0 (by decide) (k0.fin (by rw [e1]; simp) (by rw [e1]; rfl))), by rw [e1], by rw [e1], ?_⟩
      rw [e1]
      exact ⟨q, p, by rw [hy]; exact hF, hq, hq4, hp⟩
  · rintro i j hi hj L ⟨q, p, hL, hq, hq4, hp⟩
    have hown : ((i : Int) + 1) % 4294967296 = i + 1 := by omega
    have hne : ¬ ((i : Int) + 1 = 0) := by omega
    have hb : (q + 256 * ((j + 1 : Nat) : Int)) % 4294967296 = ((q + 256) % 4294967296 + 256 * (j : Int)) % 4294967296 := by omega
    rw [hb] at hL
    obtain ⟨L1, hs, ho, hF, hn⟩ := PqAt.add1 (i := i) hL 256
    obtain ⟨s1, e1⟩ : ∃ s1, pqA (RnT k d i 2 0 0 0 L) = s1 := ⟨_, rfl⟩
    have e2 := e1
    simp [AtT, RnT, pqA, pfR10, pfR20, pfR50, pfR51, pqLock, pqEnter, pqLeave, pqTry, pqDecide, pqGive, pqIn6, pqIn7, pqLast6, pqLast7, mxEnter, mxE0, mxE1, mxE2, mxGive, mxG0, mxG1, mxTry, mxOwn, wrap64, Rn.fresh, Rn.rests, Rn.did, Rn.setA, Rn.setB, Rn.note, Rn.noted, Rn.goto, Rn.fin, Rn.wake, Rn.waited, Wk.zero, hown, hs, ho] at e2
    subst e2
    obtain ⟨n, s', h3, h4, h5, h6, h7⟩ := AtT.ends (g := pqA) (startT_at k d i 2 L) 1 e1 (by simp) (by simp) rfl (by simp; omega) (hF.nowatch h2 h1 1 (by omega))
    refine ⟨_, s', by simp at h3; omega, h4, h6, h7, ?_⟩
    rw [h5]
    exact ⟨(q + 256) % 4294967296, p, hF, by omega, by omega, hp⟩
  · rintro i hi L ⟨q, p, hL, hq, hq4, hp⟩
    have hown : ((i : Int) + 1) % 4294967296 = i + 1 := by omega
    have hne : ¬ ((i : Int) + 1 = 0) := by omega
    have hx0 : (q + 256 * ((0 : Nat) : Int)) % 4294967296 = q := by omega
    rw [hx0] at hL
    obtain ⟨L1, hs1, hF1, hz1, hn1⟩ := PqAt.st_next hL h2 hi
    obtain ⟨L2, hs2, hF2, hn2⟩ := PqAt.st_blocked hF1 h2 hi
    have hz2 := hn2 i hi hz1
    obtain ⟨L3, hs3, ho3, hF3, hn3⟩ := PqAt.sw (i := i) hF2 (i + 1)
    have hz3 := hn3 i hz2
    have k0 : AtT k d i (pqA (RnT k d i 3 0 0 0 L)) 3 1 0 0 L1 := by simp [AtT, RnT, pqA, pfR10, pfR20, pfR50, pfR51, pqLock, pqEnter, pqLeave, pqTry, pqDecide, pqGive, pqIn6, pqIn7, pqLast6, pqLast7, mxEnter, mxE0, mxE1, mxE2, mxGive, mxG0, mxG1, mxTry, mxOwn, wrap64, Rn.fresh, Rn.rests, Rn.did, Rn.setA, Rn.setB, Rn.note, Rn.noted, Rn.goto, Rn.fin, Rn.wake, Rn.waited, Wk.zero, hown, hs1]
    have k1 : AtT k d i (pqA (RnT k d i 3 1 0 0 L1)) 3 2 0 0 L2 := by simp [AtT, RnT, pqA, pfR10, pfR20, pfR50, pfR51, pqLock, pqEnter, pqLeave, pqTry, pqDecide, pqGive, pqIn6, pqIn7, pqLast6, pqLast7, mxEnter, mxE0, mxE1, mxE2, mxGive, mxG0, mxG1, mxTry, mxOwn, wrap64, Rn.fresh, Rn.rests, Rn.did, Rn.setA, Rn.setB, Rn.note, Rn.noted, Rn.goto, Rn.fin, Rn.wake, Rn.waited, Wk.zero, hown, hs2]
    have k2 : AtT k d i (pqA (RnT k d i 3 2 0 0 L2)) 3 5 0 0 L3 := by simp [AtT, RnT, pqA, pfR10, pfR20, pfR50, pfR51, pqLock, pqEnter, pqLeave, pqTry, pqDecide, pqGive, pqIn6, pqIn7, pqLast6, pqLast7, mxEnter, mxE0, mxE1, mxE2, mxGive, mxG0, mxG1, mxTry, mxOwn, wrap64, Rn.fresh, Rn.rests, Rn.did, Rn.setA, Rn.setB, Rn.note, Rn.noted, Rn.goto, Rn.fin, Rn.wake, Rn.waited, Wk.zero, hown, hs3, ho3]
    have hl3 := hF3.ld3
    obtain ⟨L4, hs4, ho4, hF4, hn4⟩ := PqAt.add0 (i := i) hF3 (pfP p)
    have hw4 := hF4.wait k d i (fun v => v == q) (by simp)
    have k3 : AtT k d i (pqA (RnT k d i 3 5 0 0 L3)) 3 6 0 p L3 := by simp [AtT, RnT, pqA, pfR10, pfR20, pfR50, pfR51, pqLock, pqEnter, pqLeave, pqTry, pqDecide, pqGive, pqIn6, pqIn7, pqLast6, pqLast7, mxEnter, mxE0, mxE1, mxE2, mxGive, mxG0, mxG1, mxTry, mxOwn, wrap64, Rn.fresh, Rn.rests, Rn.did, Rn.setA, Rn.setB, Rn.note, Rn.noted, Rn.goto, Rn.fin, Rn.wake, Rn.waited, Wk.zero, hown, hl3]
    have k4 : AtT k d i (pqA (RnT k d i 3 6 0 p L3)) 3 7 q p L4 := by simp [AtT, RnT, pqA, pfR10, pfR20, pfR50, pfR51, pqLock, pqEnter, pqLeave, pqTry, pqDecide, pqGive, pqIn6, pqIn7, pqLast6, pqLast7, mxEnter, mxE0, mxE1, mxE2, mxGive, mxG0, mxG1, mxTry, mxOwn, wrap64, Rn.fresh, Rn.rests, Rn.did, Rn.setA, Rn.setB, Rn.note, Rn.noted, Rn.goto, Rn.fin, Rn.wake, Rn.waited, Wk.zero, hown, hs4, ho4]
    obtain ⟨s1, e1⟩ : ∃ s1, pqA (RnT k d i 3 7 q p L4) = s1 := ⟨_, rfl⟩
    have e2 := e1
    simp [AtT, RnT, pqA, pfR10, pfR20, pfR50, pfR51, pqLock, pqEnter, pqLeave, pqTry, pqDecide, pqGive, pqIn6, pqIn7, pqLast6, pqLast7, mxEnter, mxE0, mxE1, mxE2, mxGive, mxG0, mxG1, mxTry, mxOwn, wrap64, Rn.fresh, Rn.rests, Rn.did, Rn.setA, Rn.setB, Rn.note, Rn.noted, Rn.goto, Rn.fin, Rn.wake, Rn.waited, Wk.zero, hown, hw4] at e2
    subst e2
    refine ⟨6, _, by omega, ((startT_at k d i 3 L).go k0 (by decide) (k0.go k1 (by decide) (k1.go k2 (by decide) (k2.go k3 (by decide) (k3.go k4 (by decide) (k4.fin (by rw [e1]; simp) (by rw [e1]; rfl))))))), by rw [e1], by rw [e1], ?_⟩
    rw [e1]
    exact ⟨q, p, ⟨hF4, hq, hq4, hp⟩, hn4 i hz3⟩
  · rintro i hi L ⟨q, p, ⟨hL, hq, hq4, hp⟩, hz⟩
    have hown : ((i : Int) + 1) % 4294967296 = i + 1 := by omega
    have hne : ¬ ((i : Int) + 1 = 0) := by omega
    have hl0 := hL.ld3
    obtain ⟨L1, hs1, ho1, hF1, hn1⟩ := PqAt.add0 (i := i) hL (-pfP p % 4294967296)
    have hz1 := hn1 i hz
    have hb : ((q + pfP p) % 4294967296 + -pfP p % 4294967296) % 4294967296 = (q + 256 * ((0 : Nat) : Int)) % 4294967296 := by have := pfP_is p; omega
    rw [hb] at hF1
    have k0 : AtT k d i (pqA (RnT k d i 4 0 0 0 L)) 4 1 0 p L := by simp [AtT, RnT, pqA, pfR10, pfR20, pfR50, pfR51, pqLock, pqEnter, pqLeave, pqTry, pqDecide, pqGive, pqIn6, pqIn7, pqLast6, pqLast7, mxEnter, mxE0, mxE1, mxE2, mxGive, mxG0, mxG1, mxTry, mxOwn, wrap64, Rn.fresh, Rn.rests, Rn.did, Rn.setA, Rn.setB, Rn.note, Rn.noted, Rn.goto, Rn.fin, Rn.wake, Rn.waited, Wk.zero, hown, hl0]
    obtain ⟨s1, e1⟩ : ∃ s1, pqA (RnT k d i 4 1 0 p L) = s1 := ⟨_, rfl⟩
    have e2 := e1
    simp [AtT, RnT, pqA, pfR10, pfR20, pfR50, pfR51, pqLock, pqEnter, pqLeave, pqTry, pqDecide, pqGive, pqIn6, pqIn7, pqLast6, pqLast7, mxEnter, mxE0, mxE1, mxE2, mxGive, mxG0, mxG1, mxTry, mxOwn, wrap64, Rn.fresh, Rn.rests, Rn.did, Rn.setA, Rn.setB, Rn.note, Rn.noted, Rn.goto, Rn.fin, Rn.wake, Rn.waited, Wk.zero, hown, hs1, ho1] at e2
    obtain ⟨qm, s2, hqm, k1, hgo⟩ := AtT.mid (g := pqA) k0 (line' := 2) (a' := 0) (b' := p) (L' := L1) 0 e1 (by rw [← e2]; simp [Rn.rests, RnT, Wk.zero]) (by decide) (by rw [← e2]) (by omega) (hF1.nowatch h2 h1 0 (by omega))
    obtain ⟨L2, hs2, hF2, hn2⟩ := PqAt.st3 (i := i) hF1 ((p + 1) % 4294967296)
    have hz2 := hn2 i hz1
    obtain ⟨g1, g2⟩ := hF2.ld_next h2 hi hz2
    obtain ⟨L9, hs9, hb9, hF9, hn9⟩ := PqAt.cas2 (i := i) hF2 rfl 0
    have k2 : AtT k d i (pqA (RnT k d i 4 2 0 p L1)) 4 3 0 p L2 := by simp [AtT, RnT, pqA, pfR10, pfR20, pfR50, pfR51, pqLock, pqEnter, pqLeave, pqTry, pqDecide, pqGive, pqIn6, pqIn7, pqLast6, pqLast7, mxEnter, mxE0, mxE1, mxE2, mxGive, mxG0, mxG1, mxTry, mxOwn, wrap64, Rn.fresh, Rn.rests, Rn.did, Rn.setA, Rn.setB, Rn.note, Rn.noted, Rn.goto, Rn.fin, Rn.wake, Rn.waited, Wk.zero, hown, hs2]
    have k3 : AtT k d i (pqA (RnT k d i 4 3 0 p L2)) 4 4 0 p L2 := by simp [AtT, RnT, pqA, pfR10, pfR20, pfR50, pfR51, pqLock, pqEnter, pqLeave, pqTry, pqDecide, pqGive, pqIn6, pqIn7, pqLast6, pqLast7, mxEnter, mxE0, mxE1, mxE2, mxGive, mxG0, mxG1, mxTry, mxOwn, wrap64, Rn.fresh, Rn.rests, Rn.did, Rn.setA, Rn.setB, Rn.note, Rn.noted, Rn.goto, Rn.fin, Rn.wake, Rn.waited, Wk.zero, hown, g1, g2]
    obtain ⟨s3, e3⟩ : ∃ s3, pqA (RnT k d i 4 4 0 p L2) = s3 := ⟨_, rfl⟩
    have e4 := e3
    simp [AtT, RnT, pqA, pfR10, pfR20, pfR50, pfR51, pqLock, pqEnter, pqLeave, pqTry, pqDecide, pqGive, pqIn6, pqIn7, pqLast6, pqLast7, mxEnter, mxE0, mxE1, mxE2, mxGive, mxG0, mxG1, mxTry, mxOwn, wrap64, Rn.fresh, Rn.rests, Rn.did, Rn.setA, Rn.setB, Rn.note, Rn.noted, Rn.goto, Rn.fin, Rn.wake, Rn.waited, Wk.zero, hown, hs9, hb9] at e4
    subst e4
    refine ⟨_, _, ?_, (startT_at k d i 4 L).go k0 (by decide) (hgo _ _ (k1.go k2 (by decide) (k2.go k3 (by decide) (k3.fin (by rw [e3]; simp) (by rw [e3]; rfl))))), by rw [e3], by rw [e3], ?_⟩
    · omega
    rw [e3]
    exact ⟨q, _, hF9, hq, hq4, by omega⟩
  · rintro i hi L ⟨q, p, hL, hq, hq4, hp⟩
    have hown : ((i : Int) + 1) % 4294967296 = i + 1 := by omega
    have hne : ¬ ((i : Int) + 1 = 0) := by omega
    have hx0 : (q + 256 * ((0 : Nat) : Int)) % 4294967296 = q := by omega
    rw [hx0] at hL
    obtain ⟨L1, hs1, hF1, hz1, hn1⟩ := PqAt.st_next hL h2 hi
    obtain ⟨L3, hs3, hb3, hF3, hn3⟩ := PqAt.cas2 (i := i) hF1 rfl (i + 1)
    have hz3 := hn3 i hz1
    have hr0 := hF3.ld0
    have hr1 := hF3.ld1
    have hr3 := hF3.ld3
    have k0 : AtT k d i (pqA (RnT k d i 6 0 0 0 L)) 6 1 0 0 L1 := by simp [AtT, RnT, pqA, pfR10, pfR20, pfR50, pfR51, pqLock, pqEnter, pqLeave, pqTry, pqDecide, pqGive, pqIn6, pqIn7, pqLast6, pqLast7, mxEnter, mxE0, mxE1, mxE2, mxGive, mxG0, mxG1, mxTry, mxOwn, wrap64, Rn.fresh, Rn.rests, Rn.did, Rn.setA, Rn.setB, Rn.note, Rn.noted, Rn.goto, Rn.fin, Rn.wake, Rn.waited, Wk.zero, hown, hs1]
    have k1 : AtT k d i (pqA (RnT k d i 6 1 0 0 L1)) 6 2 0 0 L3 := by simp [AtT, RnT, pqA, pfR10, pfR20, pfR50, pfR51, pqLock, pqEnter, pqLeave, pqTry, pqDecide, pqGive, pqIn6, pqIn7, pqLast6, pqLast7, mxEnter, mxE0, mxE1, mxE2, mxGive, mxG0, mxG1, mxTry, mxOwn, wrap64, Rn.fresh, Rn.rests, Rn.did, Rn.setA, Rn.setB, Rn.note, Rn.noted, Rn.goto, Rn.fin, Rn.wake, Rn.waited, Wk.zero, hown, hs3, hb3]
    have k2 : AtT k d i (pqA (RnT k d i 6 2 0 0 L3)) 6 3 q 0 L3 := by simp [AtT, RnT, pqA, pfR10, pfR20, pfR50, pfR51, pqLock, pqEnter, pqLeave, pqTry, pqDecide, pqGive, pqIn6, pqIn7, pqLast6, pqLast7, mxEnter, mxE0, mxE1, mxE2, mxGive, mxG0, mxG1, mxTry, mxOwn, wrap64, Rn.fresh, Rn.rests, Rn.did, Rn.setA, Rn.setB, Rn.note, Rn.noted, Rn.goto, Rn.fin, Rn.wake, Rn.waited, Wk.zero, hown, hr0]
    have ha0 : ¬ 0 < aheadA q q := by unfold aheadA; omega
    obtain ⟨L4, hs4, ho4, hF4, hn4⟩ := PqAt.add0 (i := i) hF3 (pfP p)
    have hw4 := hF4.wait k d i (fun v => v == q) (by simp)
    have k3 : AtT k d i (pqA (RnT k d i 6 3 q 0 L3)) 6 4 q q L3 := by simp [AtT, RnT, pqA, pfR10, pfR20, pfR50, pfR51, pqLock, pqEnter, pqLeave, pqTry, pqDecide, pqGive, pqIn6, pqIn7, pqLast6, pqLast7, mxEnter, mxE0, mxE1, mxE2, mxGive, mxG0, mxG1, mxTry, mxOwn, wrap64, Rn.fresh, Rn.rests, Rn.did, Rn.setA, Rn.setB, Rn.note, Rn.noted, Rn.goto, Rn.fin, Rn.wake, Rn.waited, Wk.zero, hown, hr1, ha0]
    have k4 : AtT k d i (pqA (RnT k d i 6 4 q q L3)) 6 5 q p L3 := by simp [AtT, RnT, pqA, pfR10, pfR20, pfR50, pfR51, pqLock, pqEnter, pqLeave, pqTry, pqDecide, pqGive, pqIn6, pqIn7, pqLast6, pqLast7, mxEnter, mxE0, mxE1, mxE2, mxGive, mxG0, mxG1, mxTry, mxOwn, wrap64, Rn.fresh, Rn.rests, Rn.did, Rn.setA, Rn.setB, Rn.note, Rn.noted, Rn.goto, Rn.fin, Rn.wake, Rn.waited, Wk.zero, hown, hr3]
    have k5 : AtT k d i (pqA (RnT k d i 6 5 q p L3)) 6 6 q p L4 := by simp [AtT, RnT, pqA, pfR10, pfR20, pfR50, pfR51, pqLock, pqEnter, pqLeave, pqTry, pqDecide, pqGive, pqIn6, pqIn7, pqLast6, pqLast7, mxEnter, mxE0, mxE1, mxE2, mxGive, mxG0, mxG1, mxTry, mxOwn, wrap64, Rn.fresh, Rn.rests, Rn.did, Rn.setA, Rn.setB, Rn.note, Rn.noted, Rn.goto, Rn.fin, Rn.wake, Rn.waited, Wk.zero, hown, hs4, ho4]
    obtain ⟨s1, e1⟩ : ∃ s1, pqA (RnT k d i 6 6 q p L4) = s1 := ⟨_, rfl⟩
    have e2 := e1
    simp [AtT, RnT, pqA, pfR10, pfR20, pfR50, pfR51, pqLock, pqEnter, pqLeave, pqTry, pqDecide, pqGive, pqIn6, pqIn7, pqLast6, pqLast7, mxEnter, mxE0, mxE1, mxE2, mxGive, mxG0, mxG1, mxTry, mxOwn, wrap64, Rn.fresh, Rn.rests, Rn.did, Rn.setA, Rn.setB, Rn.note, Rn.noted, Rn.goto, Rn.fin, Rn.wake, Rn.waited, Wk.zero, hown, hw4] at e2
    subst e2
    refine ⟨7, _, by omega, ((startT_at k d i 6 L).go k0 (by decide) (k0.go k1 (by decide) (k1.go k2 (by decide) (k2.go k3 (by decide) (k3.go k4 (by decide) (k4.go k5 (by decide) (k5.fin (by rw [e1]; simp) (by rw [e1]; rfl)))))))), by rw [e1], by rw [e1], ?_⟩
    rw [e1]
    exact ⟨q, p, ⟨hF4, hq, hq4, hp⟩, hn4 i hz3⟩
  · rintro i j hi hj L ⟨q, p, hL, hq, hq4, hp⟩
    have hown : ((i : Int) + 1) % 4294967296 = i + 1 := by omega
    have hne : ¬ ((i : Int) + 1 = 0) := by omega
    have ha0 : 0 < aheadA ((q + 256 * ((j + 1 : Nat) : Int)) % 4294967296) q := by unfold aheadA; omega
    generalize hx : (q + 256 * ((j + 1 : Nat) : Int)) % 4294967296 = x at hL ha0
    obtain ⟨L1, hs1, hF1, hz1, hn1⟩ := PqAt.st_next hL h2 hi
    obtain ⟨L3, hs3, hb3, hF3, hn3⟩ := PqAt.cas2 (i := i) hF1 rfl (i + 1)
    have hz3 := hn3 i hz1
    have hr0 := hF3.ld0
    have hr1 := hF3.ld1
    have hr3 := hF3.ld3
    have k0 : AtT k d i (pqA (RnT k d i 6 0 0 0 L)) 6 1 0 0 L1 := by simp [AtT, RnT, pqA, pfR10, pfR20, pfR50, pfR51, pqLock, pqEnter, pqLeave, pqTry, pqDecide, pqGive, pqIn6, pqIn7, pqLast6, pqLast7, mxEnter, mxE0, mxE1, mxE2, mxGive, mxG0, mxG1, mxTry, mxOwn, wrap64, Rn.fresh, Rn.rests, Rn.did, Rn.setA, Rn.setB, Rn.note, Rn.noted, Rn.goto, Rn.fin, Rn.wake, Rn.waited, Wk.zero, hown, hs1]
    have k1 : AtT k d i (pqA (RnT k d i 6 1 0 0 L1)) 6 2 0 0 L3 := by simp [AtT, RnT, pqA, pfR10, pfR20, pfR50, pfR51, pqLock, pqEnter, pqLeave, pqTry, pqDecide, pqGive, pqIn6, pqIn7, pqLast6, pqLast7, mxEnter, mxE0, mxE1, mxE2, mxGive, mxG0, mxG1, mxTry, mxOwn, wrap64, Rn.fresh, Rn.rests, Rn.did, Rn.setA, Rn.setB, Rn.note, Rn.noted, Rn.goto, Rn.fin, Rn.wake, Rn.waited, Wk.zero, hown, hs3, hb3]
    have k2 : AtT k d i (pqA (RnT k d i 6 2 0 0 L3)) 6 3 x 0 L3 := by simp [AtT, RnT, pqA, pfR10, pfR20, pfR50, pfR51, pqLock, pqEnter, pqLeave, pqTry, pqDecide, pqGive, pqIn6, pqIn7, pqLast6, pqLast7, mxEnter, mxE0, mxE1, mxE2, mxGive, mxG0, mxG1, mxTry, mxOwn, wrap64, Rn.fresh, Rn.rests, Rn.did, Rn.setA, Rn.setB, Rn.note, Rn.noted, Rn.goto, Rn.fin, Rn.wake, Rn.waited, Wk.zero, hown, hr0]
    have k3 : AtT k d i (pqA (RnT k d i 6 3 x 0 L3)) 6 8 x q L3 := by simp [AtT, RnT, pqA, pfR10, pfR20, pfR50, pfR51, pqLock, pqEnter, pqLeave, pqTry, pqDecide, pqGive, pqIn6, pqIn7, pqLast6, pqLast7, mxEnter, mxE0, mxE1, mxE2, mxGive, mxG0, mxG1, mxTry, mxOwn, wrap64, Rn.fresh, Rn.rests, Rn.did, Rn.setA, Rn.setB, Rn.note, Rn.noted, Rn.goto, Rn.fin, Rn.wake, Rn.waited, Wk.zero, hown, hr1, ha0]
    obtain ⟨g1, g2⟩ := hF3.ld_next h2 hi hz3
    obtain ⟨L9, hs9, hb9, hF9, hn9⟩ := PqAt.cas2 (i := i) hF3 rfl 0
    have m0 : AtT k d i (pqA (RnT k d i 6 8 x q L3)) 6 9 0 q L3 := by simp [AtT, RnT, pqA, pfR10, pfR20, pfR50, pfR51, pqLock, pqEnter, pqLeave, pqTry, pqDecide, pqGive, pqIn6, pqIn7, pqLast6, pqLast7, mxEnter, mxE0, mxE1, mxE2, mxGive, mxG0, mxG1, mxTry, mxOwn, wrap64, Rn.fresh, Rn.rests, Rn.did, Rn.setA, Rn.setB, Rn.note, Rn.noted, Rn.goto, Rn.fin, Rn.wake, Rn.waited, Wk.zero, hown, g1, g2]
    obtain ⟨s1, e1⟩ : ∃ s1, pqA (RnT k d i 6 9 0 q L3) = s1 := ⟨_, rfl⟩
    have e2 := e1
    simp [AtT, RnT, pqA, pfR10, pfR20, pfR50, pfR51, pqLock, pqEnter, pqLeave, pqTry, pqDecide, pqGive, pqIn6, pqIn7, pqLast6, pqLast7, mxEnter, mxE0, mxE1, mxE2, mxGive, mxG0, mxG1, mxTry, mxOwn, wrap64, Rn.fresh, Rn.rests, Rn.did, Rn.setA, Rn.setB, Rn.note, Rn.noted, Rn.goto, Rn.fin, Rn.wake, Rn.waited, Wk.zero, hown, hs9, hb9] at e2
    subst e2
    refine ⟨6, _, by omega, ((startT_at k d i 6 L).go k0 (by decide) (k0.go k1 (by decide) (k1.go k2 (by decide) (k2.go k3 (by decide) (k3.go m0 (by decide) (m0.fin (by rw [e1]; simp) (by rw [e1]; rfl))))))), by rw [e1], by rw [e1], ?_⟩
    rw [e1]
    exact ⟨q, p, by rw [hx]; exact hF9, hq, hq4, hp⟩
  · rintro i z hi hz1 L ⟨q, p, ⟨hL, hq, hq4, hp⟩, hz⟩
    have hown : ((i : Int) + 1) % 4294967296 = i + 1 := by omega
    have hne : ¬ ((i : Int) + 1 = 0) := by omega
    obtain ⟨L1, hs1, hF1, hz2, hn1⟩ := PqAt.st_next hL h2 hi
    obtain ⟨g1, g2⟩ := hF1.casno (y := 0) (by omega) (i + 1)
    have k0 : AtT k d i (pqA (RnT k d i 6 0 0 0 L)) 6 1 0 0 L1 := by simp [AtT, RnT, pqA, pfR10, pfR20, pfR50, pfR51, pqLock, pqEnter, pqLeave, pqTry, pqDecide, pqGive, pqIn6, pqIn7, pqLast6, pqLast7, mxEnter, mxE0, mxE1, mxE2, mxGive, mxG0, mxG1, mxTry, mxOwn, wrap64, Rn.fresh, Rn.rests, Rn.did, Rn.setA, Rn.setB, Rn.note, Rn.noted, Rn.goto, Rn.fin, Rn.wake, Rn.waited, Wk.zero, hown, hs1]
    obtain ⟨s1, e1⟩ : ∃ s1, pqA (RnT k d i 6 1 0 0 L1) = s1 := ⟨_, rfl⟩
    have e2 := e1
    simp [AtT, RnT, pqA, pfR10, pfR20, pfR50, pfR51, pqLock, pqEnter, pqLeave, pqTry, pqDecide, pqGive, pqIn6, pqIn7, pqLast6, pqLast7, mxEnter, mxE0, mxE1, mxE2, mxGive, mxG0, mxG1, mxTry, mxOwn, wrap64, Rn.fresh, Rn.rests, Rn.did, Rn.setA, Rn.setB, Rn.note, Rn.noted, Rn.goto, Rn.fin, Rn.wake, Rn.waited, Wk.zero, hown, g1, g2] at e2
    subst e2
    refine ⟨2, _, by omega, ((startT_at k d i 6 L).go k0 (by decide) (k0.fin (by rw [e1]; simp) (by rw [e1]; rfl))), by rw [e1], by rw [e1], ?_⟩
    rw [e1]
    exact ⟨q, p, ⟨hF1, hq, hq4, hp⟩, hn1 z hz⟩
  · rintro i z hi hz1 L ⟨q, p, ⟨hL, hq, hq4, hp⟩, hz⟩
    have hown : ((i : Int) + 1) % 4294967296 = i + 1 := by omega
    have hne : ¬ ((i : Int) + 1 = 0) := by omega
    have hm : ¬ ((q + pfP p) % 4294967296) % 4 = 0 := by have := pfP_is p; omega
    generalize hx : (q + pfP p) % 4294967296 = x at hL hm
    have hl := hL.ld0
    obtain ⟨s1, e1⟩ : ∃ s1, pqA (RnT k d i 5 0 0 0 L) = s1 := ⟨_, rfl⟩
    have e2 := e1
    simp [AtT, RnT, pqA, pfR10, pfR20, pfR50, pfR51, pqLock, pqEnter, pqLeave, pqTry, pqDecide, pqGive, pqIn6, pqIn7, pqLast6, pqLast7, mxEnter, mxE0, mxE1, mxE2, mxGive, mxG0, mxG1, mxTry, mxOwn, wrap64, Rn.fresh, Rn.rests, Rn.did, Rn.setA, Rn.setB, Rn.note, Rn.noted, Rn.goto, Rn.fin, Rn.wake, Rn.waited, Wk.zero, hown, hl, hm] at e2
    subst e2
    refine ⟨1, _, by omega, ((startT_at k d i 5 L).fin (by rw [e1]; simp) (by rw [e1]; rfl)), by rw [e1], by rw [e1], ?_⟩
    rw [e1]
    exact ⟨q, p, ⟨by rw [hx]; exact hL, hq, hq4, hp⟩, hz⟩
  · rintro i hi L ⟨q, p, ⟨hL, hq, hq4, hp⟩, hz⟩
    have hown : ((i : Int) + 1) % 4294967296 = i + 1 := by omega
    have hne : ¬ ((i : Int) + 1 = 0) := by omega
    have hl0 := hL.ld3
    obtain ⟨L1, hs1, ho1, hF1, hn1⟩ := PqAt.add0 (i := i) hL ((256 - pfP p) % 4294967296)
    have hz1 := hn1 i hz
    have hb : ((q + pfP p) % 4294967296 + (256 - pfP p) % 4294967296) % 4294967296 = (q + 256 * ((1 : Nat) : Int)) % 4294967296 := by have := pfP_is p; omega
    rw [hb] at hF1
    have k0 : AtT k d i (pqA (RnT k d i 8 0 0 0 L)) 8 1 0 p L := by simp [AtT, RnT, pqA, pfR10, pfR20, pfR50, pfR51, pqLock, pqEnter, pqLeave, pqTry, pqDecide, pqGive, pqIn6, pqIn7, pqLast6, pqLast7, mxEnter, mxE0, mxE1, mxE2, mxGive, mxG0, mxG1, mxTry, mxOwn, wrap64, Rn.fresh, Rn.rests, Rn.did, Rn.setA, Rn.setB, Rn.note, Rn.noted, Rn.goto, Rn.fin, Rn.wake, Rn.waited, Wk.zero, hown, hl0]
    obtain ⟨s1, e1⟩ : ∃ s1, pqA (RnT k d i 8 1 0 p L) = s1 := ⟨_, rfl⟩
    have e2 := e1
    simp [AtT, RnT, pqA, pfR10, pfR20, pfR50, pfR51, pqLock, pqEnter, pqLeave, pqTry, pqDecide, pqGive, pqIn6, pqIn7, pqLast6, pqLast7, mxEnter, mxE0, mxE1, mxE2, mxGive, mxG0, mxG1, mxTry, mxOwn, wrap64, Rn.fresh, Rn.rests, Rn.did, Rn.setA, Rn.setB, Rn.note, Rn.noted, Rn.goto, Rn.fin, Rn.wake, Rn.waited, Wk.zero, hown, hs1, ho1] at e2
    obtain ⟨qm, s2, hqm, k1, hgo⟩ := AtT.mid (g := pqA) k0 (line' := 2) (a' := 0) (b' := p) (L' := L1) 0 e1 (by rw [← e2]; simp [Rn.rests, RnT, Wk.zero]) (by decide) (by rw [← e2]) (by omega) (hF1.nowatch h2 h1 0 (by omega))
    obtain ⟨L2, hs2, hF2, hn2⟩ := PqAt.st3 (i := i) hF1 ((p + 1) % 4294967296)
    have hz2 := hn2 i hz1
    obtain ⟨g1, g2⟩ := hF2.ld_next h2 hi hz2
    obtain ⟨L9, hs9, hb9, hF9, hn9⟩ := PqAt.cas2 (i := i) hF2 rfl 0
    have k2 : AtT k d i (pqA (RnT k d i 8 2 0 p L1)) 8 3 0 p L2 := by simp [AtT, RnT, pqA, pfR10, pfR20, pfR50, pfR51, pqLock, pqEnter, pqLeave, pqTry, pqDecide, pqGive, pqIn6, pqIn7, pqLast6, pqLast7, mxEnter, mxE0, mxE1, mxE2, mxGive, mxG0, mxG1, mxTry, mxOwn, wrap64, Rn.fresh, Rn.rests, Rn.did, Rn.setA, Rn.setB, Rn.note, Rn.noted, Rn.goto, Rn.fin, Rn.wake, Rn.waited, Wk.zero, hown, hs2]
    have k3 : AtT k d i (pqA (RnT k d i 8 3 0 p L2)) 8 4 0 p L2 := by simp [AtT, RnT, pqA, pfR10, pfR20, pfR50, pfR51, pqLock, pqEnter, pqLeave, pqTry, pqDecide, pqGive, pqIn6, pqIn7, pqLast6, pqLast7, mxEnter, mxE0, mxE1, mxE2, mxGive, mxG0, mxG1, mxTry, mxOwn, wrap64, Rn.fresh, Rn.rests, Rn.did, Rn.setA, Rn.setB, Rn.note, Rn.noted, Rn.goto, Rn.fin, Rn.wake, Rn.waited, Wk.zero, hown, g1, g2]
    obtain ⟨s3, e3⟩ : ∃ s3, pqA (RnT k d i 8 4 0 p L2) = s3 := ⟨_, rfl⟩
    have e4 := e3
    simp [AtT, RnT, pqA, pfR10, pfR20, pfR50, pfR51, pqLock, pqEnter, pqLeave, pqTry, pqDecide, pqGive, pqIn6, pqIn7, pqLast6, pqLast7, mxEnter, mxE0, mxE1, mxE2, mxGive, mxG0, mxG1, mxTry, mxOwn, wrap64, Rn.fresh, Rn.rests, Rn.did, Rn.setA, Rn.setB, Rn.note, Rn.noted, Rn.goto, Rn.fin, Rn.wake, Rn.waited, Wk.zero, hown, hs9, hb9] at e4
    subst e4
    refine ⟨_, _, ?_, (startT_at k d i 8 L).go k0 (by decide) (hgo _ _ (k1.go k2 (by decide) (k2.go k3 (by decide) (k3.fin (by rw [e3]; simp) (by rw [e3]; rfl))))), by rw [e3], by rw [e3], ?_⟩
    · omega
    rw [e3]
    exact ⟨q, _, hF9, hq, hq4, by omega⟩
  · rintro i hi L ⟨q, p, hL, hq, hq4, hp⟩
    have hown : ((i : Int) + 1) % 4294967296 = i + 1 := by omega
    have hne : ¬ ((i : Int) + 1 = 0) := by omega
    have ha0 : ¬ 256 < aheadA ((q + 256 * ((1 : Nat) : Int)) % 4294967296) q := by unfold aheadA; omega
    have hb : ((q + 256 * ((1 : Nat) : Int)) % 4294967296 - 256) % 4294967296 = q := by omega
    have hc : ((q + 256 * ((1 : Nat) : Int)) % 4294967296 + pfP p) % 4294967296 = ((q + 256) % 4294967296 + pfP p) % 4294967296 := by omega
    generalize hx : (q + 256 * ((1 : Nat) : Int)) % 4294967296 = x at hL ha0 hb hc
    obtain ⟨L1, hs1, hF1, hz1, hn1⟩ := PqAt.st_next hL h2 hi
    obtain ⟨L3, hs3, hb3, hF3, hn3⟩ := PqAt.cas2 (i := i) hF1 rfl (i + 1)
    have hz3 := hn3 i hz1
    have hr0 := hF3.ld0
    have hr1 := hF3.ld1
    have hr3 := hF3.ld3
    have k0 : AtT k d i (pqA (RnT k d i 7 0 0 0 L)) 7 1 0 0 L1 := by simp [AtT, RnT, pqA, pfR10, pfR20, pfR50, pfR51, pqLock, pqEnter, pqLeave, pqTry, pqDecide, pqGive, pqIn6, pqIn7, pqLast6, pqLast7, mxEnter, mxE0, mxE1, mxE2, mxGive, mxG0, mxG1, mxTry, mxOwn, wrap64, Rn.fresh, Rn.rests, Rn.did, Rn.setA, Rn.setB, Rn.note, Rn.noted, Rn.goto, Rn.fin, Rn.wake, Rn.waited, Wk.zero, hown, hs1]
    have k1 : AtT k d i (pqA (RnT k d i 7 1 0 0 L1)) 7 2 0 0 L3 := by simp [AtT, RnT, pqA, pfR10, pfR20, pfR50, pfR51, pqLock, pqEnter, pqLeave, pqTry, pqDecide, pqGive, pqIn6, pqIn7, pqLast6, pqLast7, mxEnter, mxE0, mxE1, mxE2, mxGive, mxG0, mxG1, mxTry, mxOwn, wrap64, Rn.fresh, Rn.rests, Rn.did, Rn.setA, Rn.setB, Rn.note, Rn.noted, Rn.goto, Rn.fin, Rn.wake, Rn.waited, Wk.zero, hown, hs3, hb3]
    have k2 : AtT k d i (pqA (RnT k d i 7 2 0 0 L3)) 7 3 x 0 L3 := by simp [AtT, RnT, pqA, pfR10, pfR20, pfR50, pfR51, pqLock, pqEnter, pqLeave, pqTry, pqDecide, pqGive, pqIn6, pqIn7, pqLast6, pqLast7, mxEnter, mxE0, mxE1, mxE2, mxGive, mxG0, mxG1, mxTry, mxOwn, wrap64, Rn.fresh, Rn.rests, Rn.did, Rn.setA, Rn.setB, Rn.note, Rn.noted, Rn.goto, Rn.fin, Rn.wake, Rn.waited, Wk.zero, hown, hr0]
    obtain ⟨L4, hs4, ho4, hF4, hn4⟩ := PqAt.add0 (i := i) hF3 (pfP p)
    have hw4 := hF4.wait k d i (fun v => v == (x - 256) % 4294967296) (by simp [hb])
    obtain ⟨L5, hs5, ho5, hF5, hn5⟩ := PqAt.add1 (i := i) hF4 256
    rw [hc] at hF5
    have k3 : AtT k d i (pqA (RnT k d i 7 3 x 0 L3)) 7 4 x q L3 := by simp [AtT, RnT, pqA, pfR10, pfR20, pfR50, pfR51, pqLock, pqEnter, pqLeave, pqTry, pqDecide, pqGive, pqIn6, pqIn7, pqLast6, pqLast7, mxEnter, mxE0, mxE1, mxE2, mxGive, mxG0, mxG1, mxTry, mxOwn, wrap64, Rn.fresh, Rn.rests, Rn.did, Rn.setA, Rn.setB, Rn.note, Rn.noted, Rn.goto, Rn.fin, Rn.wake, Rn.waited, Wk.zero, hown, hr1, ha0]
    have k4 : AtT k d i (pqA (RnT k d i 7 4 x q L3)) 7 5 x p L3 := by simp [AtT, RnT, pqA, pfR10, pfR20, pfR50, pfR51, pqLock, pqEnter, pqLeave, pqTry, pqDecide, pqGive, pqIn6, pqIn7, pqLast6, pqLast7, mxEnter, mxE0, mxE1, mxE2, mxGive, mxG0, mxG1, mxTry, mxOwn, wrap64, Rn.fresh, Rn.rests, Rn.did, Rn.setA, Rn.setB, Rn.note, Rn.noted, Rn.goto, Rn.fin, Rn.wake, Rn.waited, Wk.zero, hown, hr3]
    have k5 : AtT k d i (pqA (RnT k d i 7 5 x p L3)) 7 6 x p L4 := by simp [AtT, RnT, pqA, pfR10, pfR20, pfR50, pfR51, pqLock, pqEnter, pqLeave, pqTry, pqDecide, pqGive, pqIn6, pqIn7, pqLast6, pqLast7, mxEnter, mxE0, mxE1, mxE2, mxGive, mxG0, mxG1, mxTry, mxOwn, wrap64, Rn.fresh, Rn.rests, Rn.did, Rn.setA, Rn.setB, Rn.note, Rn.noted, Rn.goto, Rn.fin, Rn.wake, Rn.waited, Wk.zero, hown, hs4, ho4]
    have k6 : AtT k d i (pqA (RnT k d i 7 6 x p L4)) 7 7 x p L4 := by simp [AtT, RnT, pqA, pfR10, pfR20, pfR50, pfR51, pqLock, pqEnter, pqLeave, pqTry, pqDecide, pqGive, pqIn6, pqIn7, pqLast6, pqLast7, mxEnter, mxE0, mxE1, mxE2, mxGive, mxG0, mxG1, mxTry, mxOwn, wrap64, Rn.fresh, Rn.rests, Rn.did, Rn.setA, Rn.setB, Rn.note, Rn.noted, Rn.goto, Rn.fin, Rn.wake, Rn.waited, Wk.zero, hown, hw4]
    obtain ⟨s1, e1⟩ : ∃ s1, pqA (RnT k d i 7 7 x p L4) = s1 := ⟨_, rfl⟩
    have e2 := e1
    simp [AtT, RnT, pqA, pfR10, pfR20, pfR50, pfR51, pqLock, pqEnter, pqLeave, pqTry, pqDecide, pqGive, pqIn6, pqIn7, pqLast6, pqLast7, mxEnter, mxE0, mxE1, mxE2, mxGive, mxG0, mxG1, mxTry, mxOwn, wrap64, Rn.fresh, Rn.rests, Rn.did, Rn.setA, Rn.setB, Rn.note, Rn.noted, Rn.goto, Rn.fin, Rn.wake, Rn.waited, Wk.zero, hown, hs5, ho5] at e2
    subst e2
    refine ⟨8, _, by omega, ((startT_at k d i 7 L).go k0 (by decide) (k0.go k1 (by decide) (k1.go k2 (by decide) (k2.go k3 (by decide) (k3.go k4 (by decide) (k4.go k5 (by decide) (k5.go k6 (by decide) (k6.fin (by rw [e1]; simp) (by rw [e1]; rfl))))))))), by rw [e1], by rw [e1], ?_⟩
    rw [e1]
    exact ⟨_, p, ⟨hF5, by omega, by omega, hp⟩, hn5 i (hn4 i hz3)⟩


def pqLists : List (List Int) := [[1, 2], [3, 4], [5, 2], [6, 4], [3, 8, 2], [1, 7, 4], [6, 8, 7, 4]]
def pqTry4 : List (Int × Int × Int × Int) := [(3, 5, 1, 4), (3, 6, 1, 4), (1, 6, 1, 2), (1, 5, 2, 2)]
/-- Those that came and those that went are alike, and the queue is empty. -/
def pqEnd (base : Int) (E : List Int) : Prop := ldA E 0 = ldA E 1 ∧ ldA E 2 = 0
theorem pq_first (k : Nat) (base : Int) (h1 : 1 ≤ k) (h2 : k ≤ 64) (hb : 0 ≤ base ∧ base < 4294967296) : PqReads k 0 (own3 base ++ List.replicate ((8 + 4 * (k : Int)).toNat - 4) 0) := by
  refine ⟨base * 256 % 4294967296, base, ?_, by omega, by omega, hb⟩
  rw [show (base * 256 % 4294967296 + 256 * ((0 : Nat) : Int)) % 4294967296 = base * 256 % 4294967296 from by omega]
  refine ⟨by simp [own3]; omega, ⟨rfl, rfl, rfl, rfl⟩, fun i hi => ?_⟩
  obtain ⟨j, hj⟩ : ∃ j : Nat, 8 + 2 * k + i = j + 4 := ⟨4 + 2 * k + i, by omega⟩
  rw [hj]
  show (List.replicate _ (0 : Int)).getD j 0 = 0
  rw [List.getD_eq_getElem?_getD, List.getElem?_replicate]
  split <;> rfl
theorem pq_runs (n d base : Int) (most : Nat) (h1 : 1 ≤ n) (h2 : n ≤ 64) (hb : 0 ≤ base ∧ base < 4294967296) (hm : 40 + 8 * n ≤ most) :
    ∀ l, l ∈ pqLists → ∃ E, Runs pqA n d most l (own3 base ++ List.replicate ((8 + 4 * n).toNat - 4) 0) E ∧ pqEnd base E := by
  obtain ⟨k, rfl⟩ : ∃ k : Nat, n = k := ⟨n.toNat, by omega⟩
  refine (pq_ops k d (by omega) (by omega)).runs (by omega) (by omega) ?_ (pq_first k base (by omega) (by omega) hb)
  rintro L ⟨q, p, hL, hq, hq4, hp⟩
  unfold pqEnd
  rw [hL.ldA0, hL.ldA1, hL.ldA2]
  exact ⟨by omega, rfl⟩
theorem pq_tries (n d base : Int) (most : Nat) (h1 : 1 ≤ n) (h2 : n ≤ 64) (hb : 0 ≤ base ∧ base < 4294967296) (hm : 40 + 8 * n ≤ most) : ∀ x0 x1 x2 x3, (x0, x1, x2, x3) ∈ pqTry4 → ∃ s1 s2 s3, aloneA pqA most (start n d x0 (own3 base ++ List.replicate ((8 + 4 * n).toNat - 4) 0)) = (2, s1) ∧ aloneA pqA most (start n d x1 s1.L) = (x2, s2) ∧
    aloneA pqA most (start n d x3 s2.L) = (2, s3) ∧ (x2 = 1 → ∃ s4, aloneA pqA most (start n d 6 s3.L) = (2, s4)) := by
  obtain ⟨k, rfl⟩ : ∃ k : Nat, n = k := ⟨n.toNat, by omega⟩
  exact (pq_ops k d (by omega) (by omega)).tries (by omega) (by omega) (pq_first k base (by omega) (by omega) hb)
theorem pq_together (k : Nat) (d op : Int) (h1 : 2 ≤ k) (h2 : k ≤ 16) (hop : op = 1 ∨ op = 5) : Together pqA k d op (PqReads k) :=
  (pq_ops k d (by omega) (by omega)).together h1 h2 hop

end Go.Proofs.Ytbcppehpfckgoaa.Z
