/- The same notes are the same (stilemanref05.Same). -/
import Derived.Test.YtlndihdlodempaaZSame
import Derived.Test.YtlndihdlodempaaZElem
import Derived.Test.YtlndihdlodempaaZXNote
import Derived.Deep.RegionHeld3
import Derived.Deep.DrawnRows
set_option linter.unusedVariables false
set_option linter.unusedSimpArgs false
namespace Go.Proofs.Ytlndihdlodempaa.Z
open Go.RowKit

set_option maxHeartbeats 1600000 in
set_option maxRecDepth 100000 in
theorem same_notes {A B : Option Addr} {n c d : Nat} {l : List Nt} (w : World) (hA : Rd w 4 A n (nts l)) (hB : Rd w 4 B n (nts l)) (hn : n ≤ 1048576) :
    Calls Try.prog 22 #[.slice A n c, .slice B n d] w fun e w' => e = .returned (.bool true) ∧ Touch [] w w' := by
  have hb : ((n : Int) != (n : Int)) = false := by simp
  have HA := Lib.hid hA
  have HB := Lib.hid hB
  clear hA hB
  go_enter Try.func22, Try.ntmps22
  go_wp2_with fail
  go_loopw [5] (fun i wr => ∃ k : Nat, k ≤ n ∧ i = .int .i64 k ∧ Touch [] w wr) (fun i _ => n - (intOf i).toNat)
  case atStart => exact ⟨0, Nat.zero_le _, rfl, Touch.refl _ _⟩
  case round =>
    obtain ⟨k, hk, rfl, hw⟩ := hrel
    by_cases hlt : k < n
    · obtain ⟨b, off, y, rfl, hbb, hy, _⟩ := elem_head (dec := Nt.cells) (size := 4) (by decide) (fun _ => rfl) (HA.out.touch hw (by simp)) hlt
      obtain ⟨b2, off2, y2, rfl, hbb2, hy2, _⟩ := elem_head (dec := Nt.cells) (size := 4) (by decide) (fun _ => rfl) (HB.out.touch hw (by simp)) hlt
      obtain rfl : y = y2 := Option.some.inj (hy.symm.trans hy2)
      obtain ⟨yt, yw, yo, ya⟩ := y
      have hT : ∀ w', Touch [] w w' → Touch [] w w' ∧ (b < w'.heap.size ∧ b2 < w'.heap.size) ∧ (w'.cell? ⟨b, off + k * 4, none⟩ = some (.int .i64 yt)) ∧ (w'.cell? ⟨b, off + k * 4 + 1, none⟩ = some (.int .i64 yw)) ∧ (w'.cell? ⟨b, off + k * 4 + 2, none⟩ = some (.int .i64 yo)) ∧ (w'.cell? ⟨b, off + k * 4 + 3, none⟩ = some (.int .i64 ya)) ∧ (w'.cell? ⟨b2, off2 + k * 4, none⟩ = some (.int .i64 yt)) ∧ (w'.cell? ⟨b2, off2 + k * 4 + 1, none⟩ = some (.int .i64 yw)) ∧ (w'.cell? ⟨b2, off2 + k * 4 + 2, none⟩ = some (.int .i64 yo)) ∧ (w'.cell? ⟨b2, off2 + k * 4 + 3, none⟩ = some (.int .i64 ya)) := fun w' t => by
        obtain ⟨c0, c1⟩ := elem_cells (dec := Nt.cells) (size := 4) (by decide) (fun _ => rfl) (HA.out.touch t (by simp)) hlt hy
        obtain ⟨e0, e1⟩ := elem_cells (dec := Nt.cells) (size := 4) (by decide) (fun _ => rfl) (HB.out.touch t (by simp)) hlt hy
        exact ⟨t, ⟨c0, e0⟩, c1 0 _ rfl, c1 1 _ rfl, c1 2 _ rfl, c1 3 _ rfl, e1 0 _ rfl, e1 1 _ rfl, e1 2 _ rfl, e1 3 _ rfl⟩
      have hi : (k : Int) < (n : Int) := by omega
      go_wp2_with fail
      go_region_held3 (fun w' => Touch [] w w' ∧ (b < w'.heap.size ∧ b2 < w'.heap.size) ∧ (w'.cell? ⟨b, off + k * 4, none⟩ = some (.int .i64 yt)) ∧ (w'.cell? ⟨b, off + k * 4 + 1, none⟩ = some (.int .i64 yw)) ∧ (w'.cell? ⟨b, off + k * 4 + 2, none⟩ = some (.int .i64 yo)) ∧ (w'.cell? ⟨b, off + k * 4 + 3, none⟩ = some (.int .i64 ya)) ∧ (w'.cell? ⟨b2, off2 + k * 4, none⟩ = some (.int .i64 yt)) ∧ (w'.cell? ⟨b2, off2 + k * 4 + 1, none⟩ = some (.int .i64 yw)) ∧ (w'.cell? ⟨b2, off2 + k * 4 + 2, none⟩ = some (.int .i64 yo)) ∧ (w'.cell? ⟨b2, off2 + k * 4 + 3, none⟩ = some (.int .i64 ya)))
        (first | (go_split_ands; refine hT _ ?_; first | assumption | exact Touch.refl _ _ | (with_reducible apply Touch.drew; first | exact Touch.refl _ _ | assumption)))
        (fail)
      go_wp2_with fail
      go_roundw
      case rel => exact ⟨k + 1, by omega, by go_num, by repeat (first | assumption | apply Touch.drewN | apply Touch.drew)⟩
      case measure => simp [intOf]; omega
    · have hkn : k = n := by omega
      have hi : (n : Int) ≤ (k : Int) := by omega
      go_wp2
      go_ret
      exact ⟨rfl, hw⟩

end Go.Proofs.Ytlndihdlodempaa.Z
