/- Law 10: the statement TfAlone: its walk. Written by genlaw.py. -/
import Derived.Test.YtdffdppkdbbdoaaZTfOps
import Derived.Test.YtdffdppkdbbdoaaZTfAwake
set_option linter.unusedVariables false
set_option linter.unusedSimpArgs false
namespace Go.Proofs.Ytdffdppkdbbdoaa.Z
open Go.RowKit

theorem tf_aloneI {S0 : List Nat} {w0 w : World} {m a : Nat} {L : List Int} {rs : List Res} (H : Has S0 w0 w (.mem m a L :: rs)) (n mode op M : Int) (hn : I64 n) (hM : 0 ≤ M ∧ M ≤ 2000) {R : Int × Rn} (hR : aloneA tfA M.toNat (start n mode op L) = R) :
    Calls Try.prog 31 #[.pointer (some ⟨m, 0, none⟩), .int .i64 n, .int .i64 mode, .int .i64 op, .int .i64 M] w (AloneEnd S0 w0 m a rs R) := by
  subst hR
  have := tf_alone H n mode op hn M.toNat (by omega)
  rw [show ((M.toNat : Nat) : Int) = M from by omega] at this
  exact this

theorem runs_drop {g : Rn → Rn} {n mode : Int} {most : Nat} {l : List Int} {L Z : List Int} {j : Nat} (hj : j < l.length) (h : Runs g n mode most (l.drop j) L Z) : ∃ s, aloneA g most (start n mode (l.getD j 0) L) = (2, s) ∧ Runs g n mode most (l.drop (j + 1)) s.L Z := by
  rw [List.drop_eq_getElem_cons hj] at h
  have e : l.getD j 0 = l[j] := by simp [List.getD, hj]
  rw [e]
  exact h

def tfBlks (B : Nat) : List Res :=
  [.blk (B + 6) #[.slice (some ⟨B + 0, 0, none⟩) 2 2, .slice (some ⟨B + 1, 0, none⟩) 2 2, .slice (some ⟨B + 2, 0, none⟩) 2 2, .slice (some ⟨B + 3, 0, none⟩) 2 2, .slice (some ⟨B + 4, 0, none⟩) 3 3, .slice (some ⟨B + 5, 0, none⟩) 3 3], .blk (B + 5) #[.int .i64 1, .int .i64 7, .int .i64 4], .blk (B + 4) #[.int .i64 3, .int .i64 8, .int .i64 2], .blk (B + 3) #[.int .i64 6, .int .i64 4], .blk (B + 2) #[.int .i64 5, .int .i64 2], .blk (B + 1) #[.int .i64 3, .int .i64 4], .blk (B + 0) #[.int .i64 1, .int .i64 2]]
theorem tf_elem (B : Nat) (k : Nat) (hk : k < 6) : ∃ (q : Nat) (l : List Int) (i : Nat), (tfBlks B)[i]? = some (.blk (B + q) (i64s l).toArray) ∧ (#[.slice (some ⟨B + 0, 0, none⟩) 2 2, .slice (some ⟨B + 1, 0, none⟩) 2 2, .slice (some ⟨B + 2, 0, none⟩) 2 2, .slice (some ⟨B + 3, 0, none⟩) 2 2, .slice (some ⟨B + 4, 0, none⟩) 3 3, .slice (some ⟨B + 5, 0, none⟩) 3 3] : Array Value)[k]? = some (.slice (some ⟨B + q, 0, none⟩) l.length l.length) ∧ l ∈ tfLists ∧ l.length ≤ 4 := by
  match k, hk with
  | 0, _ => exact ⟨0, [1, 2], 6, rfl, rfl, by simp [tfLists], by simp⟩
  | 1, _ => exact ⟨1, [3, 4], 5, rfl, rfl, by simp [tfLists], by simp⟩
  | 2, _ => exact ⟨2, [5, 2], 4, rfl, rfl, by simp [tfLists], by simp⟩
  | 3, _ => exact ⟨3, [6, 4], 3, rfl, rfl, by simp [tfLists], by simp⟩
  | 4, _ => exact ⟨4, [3, 8, 2], 2, rfl, rfl, by simp [tfLists], by simp⟩
  | 5, _ => exact ⟨5, [1, 7, 4], 1, rfl, rfl, by simp [tfLists], by simp⟩

set_option maxHeartbeats 3200000 in
set_option maxRecDepth 100000 in
theorem tfAlone_any (base n mode : Int) (w : World) (hb : 0 ≤ base ∧ base < 4294967296) (hn : 0 ≤ n ∧ n < 256) :
    Calls Try.prog 8 #[.int .u32 base, .int .u8 n, .int .i64 mode] w fun e w' => e = .returned (.bool true) ∧ Touch [] w w' := by
  have hk : ∃ k : Int, 1 + n % 64 = k ∧ 1 ≤ k ∧ k ≤ 64 := ⟨_, rfl, by omega, by omega⟩
  obtain ⟨k, hk, hk1, hk2⟩ := hk
  have hruns : ∀ l, l ∈ tfLists → ∃ E, Runs tfA k mode (20 + 4 * k).toNat l (T3 ((8 + 4 * k).toNat - 3) base base base) E ∧ tfEnd base E := tf_runs k mode base (20 + 4 * k).toNat hk1 hk2 hb (by omega)
  have hf := fun W => first1 k base W ⟨hk1, hk2⟩ hb
  have hZ : own1 base ++ List.replicate ((8 + 4 * k).toNat - 3) 0 = T3 ((8 + 4 * k).toNat - 3) base base base := rfl
  rw [hZ] at hf
  generalize T3 ((8 + 4 * k).toNat - 3) base base base = Z at hf hruns
  have HF := Lib.hid hf
  have HRUNS := Lib.hid hruns
  have HHK := Lib.hid hk
  clear hf hruns hZ hk
  go_enter Try.func8, Try.ntmps8
  go_wp2_with fail
  rw [HHK.out]
  refine wp_from (Facts := fun W => Has [] w W (tfBlks w.heap.size)) ?_ ((Has.start [] w).new7)
  intro W HW
  have hTB : w.heap.size + 1 + 1 + 1 + 1 + 1 + 1 = w.heap.size + 6 := rfl
  rw [hTB]
  clear hTB
  generalize w.heap.size = B at HW ⊢
  generalize n % 64 = n64
  have HV := Lib.hid HW
  clear HW HHK
  go_loopw [29] (fun i wr => ∃ q : Nat, q ≤ 6 ∧ i = .int .i64 q ∧ Has [] w wr (tfBlks B)) (fun i _ => 6 - (intOf i).toNat)
  case atStart => exact ⟨0, Nat.zero_le _, rfl, HV.out⟩
  case round =>
    obtain ⟨q, hq, rfl, hH⟩ := hrel
    clear HV
    by_cases hlt : q < 6
    · obtain ⟨d, l, i, hi, hs, hl, hl4⟩ := tf_elem B q hlt
      have hcell : wr.cell? ⟨B + 6, q, none⟩ = some (.slice (some ⟨B + d, 0, none⟩) l.length l.length) := ((hH.at_ 0 rfl).cell q).trans hs
      obtain ⟨E, hrn, hend⟩ := HRUNS.out l hl
      have HRN := Lib.hid hrn
      have HEND := Lib.hid hend
      have HI := Lib.hid hi
      have HH := Lib.hid hH
      clear hs hl hrn hi hH hend
      generalize hBT : B + 6 = TB at hcell ⊢
      generalize hBD : B + d = BD at hcell ⊢
      have HBD := Lib.hid hBD
      clear hBT hBD
      have hi1 : (0 : Int) ≤ (q : Int) := Int.natCast_nonneg _
      have hi2 : (q : Int) < 6 := by omega
      go_wp2_with fail
      refine (HF.out _).mono ?_
      rintro e w1 h1
      obtain ⟨p, g, cap, rfl, H1⟩ := has_newwords HH.out h1
      clear h1 hcell
      go_wp2_with fail
      refine (fromRow_has H1 rfl).mono ?_
      rintro e w2 ⟨m, a, rfl, H2⟩
      clear H1
      go_wp2_with fail
      have HS2 := Lib.hid H2
      clear H2
      go_loopw [14] (fun i wr => ∃ (j : Nat) (L : List Int), j ≤ l.length ∧ i = .int .i64 j ∧ Has [] w wr (.mem m a L :: .row p g cap Z :: tfBlks B) ∧ Runs tfA k mode (20 + 4 * k).toNat (l.drop j) L E) (fun i _ => l.length - (intOf i).toNat)
      case atStart => exact ⟨0, Z, Nat.zero_le _, rfl, HS2.out, HRN.out⟩
      case round =>
        obtain ⟨j, L, hj, rfl, hH, hru⟩ := hrel
        clear HS2 HRN
        by_cases hjl : j < l.length
        · obtain ⟨s, hal, hru2⟩ := runs_drop hjl hru
          have hB : Blk wr BD (i64s l).toArray := by have := hH.at_ (i + 2) (by simpa using HI.out); rw [HBD.out] at this; exact this
          obtain ⟨b, off, hb1, hbl, hcell⟩ := i64s_at (rd_blk hB) hjl
          simp only [Option.some.injEq, Addr.mk.injEq] at hb1
          obtain ⟨rfl, rfl, _⟩ := hb1
          rw [Nat.zero_add] at hcell
          generalize l.getD j 0 = o at hal hcell
          have HAL := Lib.hid hal
          have HRU := Lib.hid hru2
          have HH2 := Lib.hid hH
          clear hal hru2 hH hru hB hbl
          have hj1 : (0 : Int) ≤ (j : Int) := Int.natCast_nonneg _
          have hj2 : (j : Int) < (l.length : Int) := by omega
          go_wp2_with fail
          refine (tf_aloneI HH2.out k mode o (20 + 4 * k) (by unfold I64; omega) (by omega) HAL.out).mono ?_
          rintro e w3 ⟨v, rfl, H3⟩
          go_wp2
          go_roundw
          case rel => exact ⟨j + 1, s.L, by omega, by go_num, H3, HRU.out⟩
          case measure => simp [intOf]; omega
        · have hjl2 : j = l.length := by omega
          subst hjl2
          rw [List.drop_length] at hru
          have hLZ : L = E := hru
          subst hLZ
          have HH2 := Lib.hid hH
          clear hH hru hjl hj
          have hj2 : (l.length : Int) ≤ (l.length : Int) := Int.le_refl _
          obtain ⟨he1, he2, he3⟩ := HEND.out
          have hld := fun (c : Int) W (H : Has [] w W (.mem m a L :: .row p g cap Z :: tfBlks B)) => load_has H c
          have hl0 := hld 0
          have hl1 := hld 1
          have hl2 := hld 2
          rw [← he1] at hl1
          rw [← he2] at hl2
          generalize ldA L 0 = x at hl0 hl1 hl2 he3
          have HL0 := Lib.hid hl0
          have HL1 := Lib.hid hl1
          have HL2 := Lib.hid hl2
          have hne : (x == base) = false := by simpa using he3
          have hxx : (x != x) = false := by simp
          clear hl0 hl1 hl2 he1 he2 he3 hld
          go_wp2_with fail
          refine (HL0.out _ HH2.out).mono ?_
          rintro e w4 ⟨rfl, G4⟩
          go_wp2_with fail
          refine (HL1.out _ G4).mono ?_
          rintro e w5 ⟨rfl, G5⟩
          go_wp2_with fail
          refine (HL0.out _ G5).mono ?_
          rintro e w6 ⟨rfl, G6⟩
          go_wp2_with fail
          refine (HL2.out _ G6).mono ?_
          rintro e w7 ⟨rfl, G7⟩
          go_wp2_with fail
          refine (HL0.out _ G7).mono ?_
          rintro e w8 ⟨rfl, H9⟩
          go_wp2
          go_roundw
          case rel => exact ⟨q + 1, by omega, by go_num, H9.tail.tail⟩
          case measure => simp [intOf]; omega
    · have hq2 : q = 6 := by omega
      subst hq2
      have HH := Lib.hid hH
      clear hH hq hlt
      go_wp2_with fail
      refine (tf_awake _).mono ?_
      rintro e w1 ⟨rfl, t1⟩
      go_wp2_with fail
      go_ret
      exact ⟨rfl, (HH.out.grow t1).touch⟩

end Go.Proofs.Ytdffdppkdbbdoaa.Z
