/- Calls that make memories and rows, and the like, said of a world as a list of things. -/
import Derived.Test.YtlndihdlodempaaZHas2
import Derived.Test.YtlndihdlodempaaZFromRow
import Derived.Test.YtlndihdlodempaaZSame
set_option linter.unusedVariables false
set_option linter.unusedSimpArgs false
namespace Go.Proofs.Ytlndihdlodempaa.Z
open Go.RowKit

/-- A new memory of these words, first in the list. -/
def HasMem (S0 : List Nat) (w0 : World) (L : List Int) (rs : List Res) (e : Ending) (w' : World) : Prop :=
  ∃ m a, e = .returned (.tuple #[.pointer (some ⟨m, 0, none⟩), .int .i64 0]) ∧ Has S0 w0 w' (.mem m a L :: rs)

/-- A new row of these words, first in the list. -/
def HasRow (S0 : List Nat) (w0 : World) (L : List Int) (rs : List Res) (e : Ending) (w' : World) : Prop :=
  ∃ p g cap, e = .returned (.slice p L.length cap) ∧ Has S0 w0 w' (.row p g cap L :: rs)

/-- The same, told with no error. -/
def HasFirst (S0 : List Nat) (w0 : World) (L : List Int) (rs : List Res) (e : Ending) (w' : World) : Prop :=
  ∃ p g cap, e = .returned (.tuple #[.slice p L.length cap, .int .i64 0]) ∧ Has S0 w0 w' (.row p g cap L :: rs)

theorem has_newmem {S0 : List Nat} {w0 w w' : World} {L : List Int} {rs : List Res} (H : Has S0 w0 w rs) {e : Ending} (h : NewMem w L e w') : HasMem S0 w0 L rs e w' := by
  obtain ⟨m, a, he, hM, k1, k2, t⟩ := h
  exact ⟨m, a, he, H.came (.mem m a L) t (by simp) hM (by
    intro k hk
    simp only [Res.foot, List.mem_cons] at hk
    rcases hk with rfl | hk
    · exact k1
    · rw [(mem_lv hk).1]; exact k2)⟩

theorem from_has {S0 : List Nat} {w0 w : World} {A : Option Addr} {n c : Nat} {L : List Int} {rs : List Res} (H : Has S0 w0 w rs) (hr : Rd w 1 A n (u32s L)) (hw : Words L) :
    Calls Try.prog 12 #[.slice A n c] w (HasMem S0 w0 L rs) :=
  (from_ok w hr hw).mono fun e w' h => has_newmem H h

theorem fromRow_has {S0 : List Nat} {w0 w : World} {p : Option Addr} {g cap : Nat} {L : List Int} {rs : List Res} (H : Has S0 w0 w (.row p g cap L :: rs)) {n : Nat} (hn : L.length = n) :
    Calls Try.prog 12 #[.slice p n cap] w (HasMem S0 w0 L (.row p g cap L :: rs)) :=
  (from_row H.row hn).mono fun e w' h => has_newmem H h

theorem has_newrow {S0 : List Nat} {w0 w w' : World} {L : List Int} {rs : List Res} (H : Has S0 w0 w rs) (hw : Words L) {e : Ending} (h : NewRow w L e w') : HasRow S0 w0 L rs e w' := by
  obtain ⟨p, cap, he, ho, t⟩ := h
  obtain ⟨g, hR, hg⟩ := Row.of_owns ho hw
  exact ⟨p, g, cap, he, H.came (.row p g cap L) t (by simp) ⟨hR, owns_cap ho⟩ (by
    intro k hk
    rw [(mem_lv hk).1]
    exact hg)⟩

theorem copy_has {S0 : List Nat} {w0 w : World} {A : Option Addr} {n c : Nat} {L : List Int} {rs : List Res} (H : Has S0 w0 w rs) (hr : Rd w 1 A n (u32s L)) (hw : Words L) :
    Calls Try.prog 13 #[.slice A n c] w (HasRow S0 w0 L rs) :=
  (copy_any w hr (by have := hw.1; have := len_of_rd hr; omega)).mono fun e w' h => has_newrow H hw h

theorem all_has {S0 : List Nat} {w0 w : World} {m a : Nat} {L : List Int} {rs : List Res} (H : Has S0 w0 w (.mem m a L :: rs)) :
    Calls Try.prog 23 #[.pointer (some ⟨m, 0, none⟩)] w (HasRow S0 w0 L (.mem m a L :: rs)) :=
  (all_mem H.mem).mono fun e w' h => has_newrow H H.mem.words h

theorem has_newwords {S0 : List Nat} {w0 w w' : World} {L : List Int} {rs : List Res} (H : Has S0 w0 w rs) {e : Ending} (h : NewWords w L e w') : HasFirst S0 w0 L rs e w' := by
  obtain ⟨p, g, cap, he, hR, hg, _, t, hc, hm⟩ := h
  exact ⟨p, g, cap, he, H.came (.row p g cap L) t (by simp) ⟨hR, hc, hm⟩ (by
    intro k hk
    rw [(mem_lv hk).1]
    exact hg)⟩

theorem load_has {S0 : List Nat} {w0 w : World} {m a : Nat} {L : List Int} {rs : List Res} (H : Has S0 w0 w (.mem m a L :: rs)) (c : Int) :
    Calls Try.prog 50 #[.pointer (some ⟨m, 0, none⟩), .int .i64 c] w fun e w' => e = .returned (.int .u32 (ldA L c)) ∧ Has S0 w0 w' (.mem m a L :: rs) :=
  (load_any H.mem c).mono fun e w' h => ⟨h.1, H.grow h.2⟩

theorem same_has {S0 : List Nat} {w0 w : World} {p q : Option Addr} {g k cap cap' : Nat} {L M : List Int} {rs : List Res} (H : Has S0 w0 w (.row p g cap L :: .row q k cap' M :: rs)) {n m c d : Nat} (hn : L.length = n) (hm : M.length = m) :
    Calls Try.prog 21 #[.slice p n c, .slice q m d] w fun e w' => e = .returned (.bool (decide (L = M))) ∧ Has S0 w0 w' (.row p g cap L :: .row q k cap' M :: rs) :=
  (same_any w (H.row.rd' hn) (H.row1.rd' hm) (by have := H.row.words.1; omega)).mono fun e w' h => ⟨h.1, H.grow h.2⟩

/-- A word of a row is stored over. -/
theorem Has.rowSet {S0 : List Nat} {w0 w : World} {p : Option Addr} {g cap : Nat} {L : List Int} {rs : List Res} (H : Has S0 w0 w (.row p g cap L :: rs)) (i : Nat) (hi : i < L.length) (v : Int) (hv : 0 ≤ v ∧ v < 4294967296) :
    Has S0 w0 (w.setCell ⟨g, i, none⟩ (.int .u32 v)) (.row p g cap (L.set i v) :: rs) := by
  refine H.wordsRow (H.row.set i hi v hv.1 hv.2) (by simp) ?_
  have h0 : 0 < L.length := by omega
  rw [show lv g L = [g] from if_pos h0]
  exact (Touch.refl [g] w).set (by simp) _

end Go.Proofs.Ytlndihdlodempaa.Z
