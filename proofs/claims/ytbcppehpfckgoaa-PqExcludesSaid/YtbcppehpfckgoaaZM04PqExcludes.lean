/- 6 texts of this claim, joined: what each shows stands at its own head. -/
import Derived.Test.YtbcppehpfckgoaaZMat2
import Derived.Test.YtbcppehpfckgoaaZM03PqExcludes
import Derived.Test.YtbcppehpfckgoaaZM02PqExcludes
/- What tasks hold is nothing, read or write. No lock in sight. -/
set_option linter.unusedVariables false
set_option linter.unusedSimpArgs false
namespace Go.Proofs.Ytbcppehpfckgoaa.Z
open Go.RowKit

def HOk (M : Mt) : Prop := ∀ j, 0 ≤ M.hold.getD j 0 ∧ M.hold.getD j 0 ≤ 2
theorem hset {l : List Int} {i : Nat} {v : Int} (h : ∀ j, 0 ≤ l.getD j 0 ∧ l.getD j 0 ≤ 2) (hv : 0 ≤ v ∧ v ≤ 2) : ∀ j, 0 ≤ (l.set i v).getD j 0 ∧ (l.set i v).getD j 0 ≤ 2 := by
  intro j
  have hj := h j
  simp only [List.getD_eq_getElem?_getD, List.getElem?_set] at hj ⊢
  by_cases e : i = j
  · subst e
    by_cases h2 : i < l.length
    · simp [h2]; omega
    · simp [h2]
  · simp only [if_neg e]
    exact hj
theorem from_ok_ {op h : Int} (hh : 0 ≤ h ∧ h ≤ 2) : 0 ≤ fromA op h ∧ fromA op h ≤ 2 := by
  unfold fromA
  repeat' split
  all_goals omega
theorem behind_ok_ {op r h : Int} (hh : 0 ≤ h ∧ h ≤ 2) : 0 ≤ behindA op r h ∧ behindA op r h ≤ 2 := by
  unfold behindA
  repeat' split
  all_goals omega
theorem goes_hok {g : Rn → Rn} {M : Mt} {i : Nat} {f : Fr} {h : Int} (H : HOk M) (hh : 0 ≤ h ∧ h ≤ 2) : HOk (M.goes g i f h) := by
  unfold Mt.goes
  split
  · exact hset H hh
  split
  · exact hset H (behind_ok_ hh)
  · exact hset H hh
theorem play_hok {g : Rn → Rn} {M : Mt} (H : HOk M) (i : Nat) (op : Int) : HOk (M.play g i op) := by
  unfold Mt.play
  split
  · split
    · exact goes_hok H (from_ok_ (H i))
    · exact H
  · exact goes_hok H (H i)
theorem plays_hok {g : Rn → Rn} {k : Nat} : ∀ (l : List (Int × Int)) (M : Mt), HOk M → HOk (playsA g k M l)
  | [], M, H => H
  | x :: l, M, H => plays_hok l _ (play_hok H _ _)
theorem back_hok {g : Rn → Rn} {M : Mt} (H : HOk M) : ∀ t, HOk (backA g M t)
  | 0 => H
  | t + 1 => play_hok (back_hok H t) _ _
theorem rounds_hok {g : Rn → Rn} {k : Nat} {M : Mt} (H : HOk M) : ∀ r, HOk (roundsA g k M r)
  | 0 => H
  | r + 1 => back_hok (rounds_hok H r) k
theorem start_hok (k : Nat) (d : Int) (Z : List Int) : HOk (Mt.start k d Z) := by
  intro j
  show 0 ≤ (List.replicate k (0 : Int)).getD j 0 ∧ (List.replicate k (0 : Int)).getD j 0 ≤ 2
  rw [List.getD_eq_getElem?_getD, List.getElem?_replicate]
  split <;> simp
end Go.Proofs.Ytbcppehpfckgoaa.Z

/- Law 14: the statement PqExcludes: its walk. Written by genmat.py. -/
set_option linter.unusedVariables false
set_option linter.unusedSimpArgs false
namespace Go.Proofs.Ytbcppehpfckgoaa.Z
open Go.RowKit

def turnDec (x : Int × Int) : List Value := [.int .u8 x.1, .int .u8 x.2]
theorem turn_len {w : World} {B : Option Addr} {m : Nat} {l : List (Int × Int)} (hB : Rd w 2 B m (l.flatMap turnDec)) : l.length = m := by
  have h1 := hB.1
  have h2 : ∀ l : List (Int × Int), (l.flatMap turnDec).length = l.length * 2 := fun l => by
    induction l with
    | nil => rfl
    | cons x l ih => rw [List.flatMap_cons, List.length_append, ih, List.length_cons]; simp [turnDec]; omega
  rw [h2] at h1
  omega
set_option maxHeartbeats 3200000 in
set_option maxRecDepth 100000 in
theorem pq_excludes_some {B : Option Addr} {m d : Nat} (n mode base : Int) (l : List (Int × Int)) (w : World) (hn : 0 ≤ n ∧ n < 256) (hm : 0 ≤ mode ∧ mode < 256) (hb : 0 ≤ base ∧ base < 4294967296) (hB : Rd w 2 B m (l.flatMap turnDec)) (hl : ∀ x, x ∈ l → (0 ≤ x.1 ∧ x.1 < 256) ∧ (0 ≤ x.2 ∧ x.2 < 256)) (h5 : m ≤ 500)
    (hE : ∀ k : Nat, (k : Int) = 1 + n % 6 → ExcludesOk pqA k (Mt.start k (1 + mode % 2) (own3 base ++ List.replicate ((8 + 4 * (k : Int)).toNat - 4) 0)) l) :
    Calls Try.prog 10 #[.int .u8 n, .int .u8 mode, .int .u32 base, .slice B m d] w fun e w' => e = .returned (.bool true) ∧ Touch [] w w' := by
  obtain ⟨k, hk⟩ : ∃ k : Nat, 1 + n % 6 = (k : Int) := ⟨(1 + n % 6).toNat, by omega⟩
  obtain ⟨dd, hd⟩ : ∃ d : Int, 1 + mode % 2 = d := ⟨_, rfl⟩
  have hE := hE k hk.symm
  have hlen := turn_len hB
  have hbg := fun W rs (HX : Has [] w W rs) => pq_begun HX k (by omega) (by omega) dd base hb
  rw [hd] at hE
  generalize own3 base ++ List.replicate ((8 + 4 * (k : Int)).toNat - 4) 0 = Z at hE hbg
  have hk1 : 1 ≤ k := by omega
  have hk2 : k ≤ 6 := by omega
  have HE := Lib.hid hE
  have HBG := Lib.hid hbg
  have HK := Lib.hid hk
  have HD := Lib.hid hd
  have HB := Lib.hid hB
  have HL := Lib.hid hl
  have HLEN := Lib.hid hlen
  have hq1 : (1 : Int) ≤ (k : Int) := by omega
  have hq2 : (k : Int) ≤ 6 := by omega
  have hq3 : ¬ ((500 : Int) < (m : Int)) := by omega
  obtain ⟨R, hR⟩ : ∃ R : Nat, 2 * k * (8 * k + 40) = R := ⟨_, rfl⟩
  have hR2 : R ≤ 1056 := by
    subst hR
    exact Nat.mul_le_mul (show 2 * k ≤ 12 by omega) (show 8 * k + 40 ≤ 88 by omega)
  have hRI : 2 * (k : Int) * (8 * (k : Int) + 40) = (R : Int) := by rw [← hR]; push_cast; rfl
  have HRR := Lib.hid hR
  clear hE hbg hk hd hB hl hlen hR
  go_enter Try.func10, Try.ntmps10
  go_wp2_with fail
  rw [HK.out, HD.out]
  refine (HBG.out _ _ (Has.start [] _)).mono ?_
  rintro e1 w1 ⟨x, mm, a, hbk, p, g, cap, rfl, H1⟩
  have HV := Lib.hid H1
  clear H1
  go_wp2_with fail
  go_loopw [11] (fun c wr => ∃ j : Nat, j ≤ m ∧ c = .int .i64 j ∧ MatchHas [] w mm a x hbk (.row p g cap Z :: []) (playsA pqA k (Mt.start k dd Z) (l.take j)) wr) (fun c _ => m - (intOf c).toNat)
  case atStart => exact ⟨0, Nat.zero_le _, rfl, HV.out⟩
  case round =>
    obtain ⟨j, hj, rfl, hR⟩ := hrel
    clear HV
    have hi1 : (0 : Int) ≤ (j : Int) := Int.natCast_nonneg _
    by_cases hjm : j < m
    · have hi2 : (j : Int) < (m : Int) := by omega
      have hBr := HB.out.touch hR.touch (by simp)
      obtain ⟨b, off, y, rfl, hbb, hy, _⟩ := elem_head (dec := turnDec) (size := 2) (by decide) (fun _ => rfl) hBr hjm
      obtain ⟨c0, c1⟩ := elem_cells (dec := turnDec) (size := 2) (by decide) (fun _ => rfl) hBr hjm hy
      obtain ⟨⟨u1, u2⟩, u3, u4⟩ := HL.out y (List.mem_of_getElem? hy)
      have hyd : l.getD j (0, 0) = y := by rw [List.getD_eq_getElem?_getD, hy]; rfl
      have hsn := plays_snoc pqA k (Mt.start k dd Z) l j (by rw [HLEN.out]; exact hjm)
      rw [hyd] at hsn
      have hmn := HE.out.safe (j + 1) (by rw [HLEN.out]; omega)
      have hpl := (plays_len pqA k (l.take j) (Mt.start k dd Z)).trans (show (Mt.start k dd Z).fs.length = k by simp [Mt.start])
      have hti : (y.1 % (k : Int)).toNat < k := by have := Int.emod_lt_of_pos y.1 (show (0 : Int) < k by omega); omega
      have htc : (((y.1 % (k : Int)).toNat : Nat) : Int) = y.1 % (k : Int) := by have := Int.emod_nonneg y.1 (show (k : Int) ≠ 0 by omega); omega
      have hplay := fun W (HX : MatchHas [] w mm a x hbk (.row p g cap Z :: []) (playsA pqA k (Mt.start k dd Z) (l.take j)) W) => pq_play HX (i := (y.1 % (k : Int)).toNat) (by rw [hpl]; exact hti) (y.2 % 9)
      rw [htc, ← hsn] at hplay
      generalize hM2 : playsA pqA k (Mt.start k dd Z) (l.take (j + 1)) = M2 at hplay hmn
      have HM2 := Lib.hid hM2
      clear hM2
      have HPLAY := Lib.hid hplay
      have HMN := Lib.hid hmn
      have HH := Lib.hid hR
      clear hplay hmn hR hsn hyd htc hti hpl hBr hy
      have f0 : wr.cell? ⟨b, off + j * 2, none⟩ = some (.int .u8 y.1) := c1 0 _ rfl
      have f1 : wr.cell? ⟨b, off + j * 2 + 1, none⟩ = some (.int .u8 y.2) := c1 1 _ rfl
      have d0 : wr.drew.cell? ⟨b, off + j * 2, none⟩ = some (.int .u8 y.1) := f0
      have d1 : wr.drew.cell? ⟨b, off + j * 2 + 1, none⟩ = some (.int .u8 y.2) := f1
      clear c1
      have hkz : ((k : Int) == 0) = false := by have : (k : Int) ≠ 0 := by omega
                                                simpa using this
      go_wp2_with fail
      refine region_flat (by kernel_rfl) (by kernel_rfl) ?_
      simp only [probed, probes, List.nil_append]
      go_wp2_with fail
      refine (HPLAY.out _ HH.out.drew).mono ?_
      rintro e2 w2 ⟨rfl, H2⟩
      go_wp2_with fail
      rw [only_normal]
      (first | (rename_i hK; refine hK _ _ ?_; clear hK) | (rename_i hK hX; refine hK _ _ ?_; clear hK) | (rename_i hK hX hY; refine hK _ _ ?_; clear hK))
      have HR2 := Lib.hid H2
      clear H2
      go_wp2_with fail
      refine (pq_many HR2.out 2).mono ?_
      rintro e3 w3 ⟨rfl, rfl⟩
      have hc1 := HMN.out
      by_cases c2 : M2.many 2 = 1
      · rw [c2]
        have e5 : ((M2.many 1 : Nat) : Int) = 0 := by omega
        clear hc1
        have E5 := Lib.hid e5
        clear e5 c2
        go_wp2_with fail
        refine (pq_many HR2.out 1).mono ?_
        rintro e4 w4 ⟨rfl, rfl⟩
        rw [E5.out]
        go_wp2
        go_roundw
        case rel => exact ⟨j + 1, by omega, by go_num, by rw [HM2.out]; exact HR2.out⟩
        case measure => simp [intOf]; omega
      · have e5 : ((M2.many 2 : Nat) : Int) = 0 := by omega
        rw [e5]
        clear hc1 e5 c2
        go_wp2
        go_roundw
        case rel => exact ⟨j + 1, by omega, by go_num, by rw [HM2.out]; exact HR2.out⟩
        case measure => simp [intOf]; omega
    · have hjm2 : j = m := by omega
      subst hjm2
      have HV := Lib.hid hR
      clear hR
      have hi2 : (j : Int) ≤ (j : Int) := Int.le_refl _
      have hlt : l.take j = l := by rw [← HLEN.out, List.take_length]
      rw [hlt] at HV
      clear hlt
      go_wp2_with fail
      go_loopw [13] (fun c wr => ∃ r : Nat, r ≤ R ∧ c = .int .i64 r ∧ MatchHas [] w mm a x hbk (.row p g cap Z :: []) (roundsA pqA k (playsA pqA k (Mt.start k dd Z) l) r) wr) (fun c _ => R - (intOf c).toNat)
      case atStart => exact ⟨0, Nat.zero_le _, rfl, HV.out⟩
      case round =>
        obtain ⟨r, hr, rfl, hR⟩ := hrel
        clear HV
        have hi1 : (0 : Int) ≤ (r : Int) := Int.natCast_nonneg _
        by_cases hrR : r < R
        · have hi3 : (r : Int) < (R : Int) := by omega
          go_wp2_with fail
          have HS := Lib.hid hR
          clear hR
          go_loopw [14] (fun c wr => ∃ t : Nat, t ≤ k ∧ c = .int .i64 t ∧ MatchHas [] w mm a x hbk (.row p g cap Z :: []) (backA pqA (roundsA pqA k (playsA pqA k (Mt.start k dd Z) l) r) t) wr) (fun c _ => k - (intOf c).toNat)
          case atStart => exact ⟨0, Nat.zero_le _, rfl, HS.out⟩
          case round =>
            obtain ⟨t, ht, rfl, hR⟩ := hrel
            clear HS
            have hj1 : (0 : Int) ≤ (t : Int) := Int.natCast_nonneg _
            by_cases htk : t < k
            · have hj2 : (t : Int) < (k : Int) := by omega
              have hlen := (back_len pqA (roundsA pqA k (playsA pqA k (Mt.start k dd Z) l) r) t).trans ((rounds_len pqA k (playsA pqA k (Mt.start k dd Z) l) r).trans ((plays_len pqA k l (Mt.start k dd Z)).trans (show (Mt.start k dd Z).fs.length = k by simp [Mt.start])))
              have hplay := fun W (HX : MatchHas [] w mm a x hbk (.row p g cap Z :: []) (backA pqA (roundsA pqA k (playsA pqA k (Mt.start k dd Z) l) r) t) W) => pq_play HX (i := t) (by rw [hlen]; exact htk) (2 * (backA pqA (roundsA pqA k (playsA pqA k (Mt.start k dd Z) l) r) t).hold.getD t 0)
              have hsn : backA pqA (roundsA pqA k (playsA pqA k (Mt.start k dd Z) l) r) (t + 1) = (backA pqA (roundsA pqA k (playsA pqA k (Mt.start k dd Z) l) r) t).play pqA t (2 * (backA pqA (roundsA pqA k (playsA pqA k (Mt.start k dd Z) l) r) t).hold.getD t 0) := rfl
              rw [← hsn] at hplay
              obtain ⟨x0, x1, x2, x3⟩ := hR.held
              rw [hlen] at x1 x3
              have hh := x3 t htk
              have hz := back_hok (g := pqA) (rounds_hok (g := pqA) (k := k) (plays_hok (g := pqA) (k := k) l (Mt.start k dd Z) (start_hok k dd Z)) r) t t
              generalize (backA pqA (roundsA pqA k (playsA pqA k (Mt.start k dd Z) l) r) t).hold.getD t 0 = hv at hplay hh hz
              generalize hM3 : backA pqA (roundsA pqA k (playsA pqA k (Mt.start k dd Z) l) r) (t + 1) = M3 at hplay
              have HM3 := Lib.hid hM3
              clear hM3
              have HPLAY := Lib.hid hplay
              have HR2 := Lib.hid hR
              have HLEN2 := Lib.hid hlen
              clear hR hplay hlen x3 hsn
              go_wp2_with fail
              refine (HPLAY.out _ HR2.out).mono ?_
              rintro e2 w2 ⟨rfl, H2⟩
              go_wp2
              go_roundw
              case rel => exact ⟨t + 1, by omega, by go_num, by rw [HM3.out]; exact H2⟩
              case measure => simp [intOf]; omega
            · have htk2 : t = k := by omega
              subst htk2
              have HR2 := Lib.hid hR
              clear hR
              have hj2 : (t : Int) ≤ (t : Int) := Int.le_refl _
              go_wp2
              go_roundw
              case rel => exact ⟨r + 1, by omega, by go_num, HR2.out⟩
              case measure => simp [intOf]; omega
        · have hrR2 : r = R := by omega
          subst hrR2
          have hlen := (rounds_len pqA k (playsA pqA k (Mt.start k dd Z) l) r).trans ((plays_len pqA k l (Mt.start k dd Z)).trans (show (Mt.start k dd Z).fs.length = k by simp [Mt.start]))
          have hrest := HE.out.rest
          rw [HRR.out] at hrest
          generalize roundsA pqA k (playsA pqA k (Mt.start k dd Z) l) r = M4 at hR hlen hrest
          have HREST := Lib.hid hrest
          have HR2 := Lib.hid hR
          have HLEN2 := Lib.hid hlen
          clear hR hrest hlen
          have hi3 : (r : Int) ≤ (r : Int) := Int.le_refl _
          go_wp2_with fail
          go_loopw [15] (fun c wr => MatchHas [] w mm a x hbk (.row p g cap Z :: []) M4 wr ∧ ∃ t : Nat, t ≤ k ∧ c = .int .i64 t) (fun c _ => k - (intOf c).toNat)
          case atStart => exact ⟨HR2.out, 0, Nat.zero_le _, rfl⟩
          case round =>
            obtain ⟨hR3, t, ht, rfl⟩ := hrel
            clear HR2
            have HR2 := Lib.hid hR3
            clear hR3
            have hj1 : (0 : Int) ≤ (t : Int) := Int.natCast_nonneg _
            by_cases htk : t < k
            · have hj2 : (t : Int) < (k : Int) := by omega
              obtain ⟨z6, z7⟩ := HREST.out t htk
              obtain ⟨rr, b, off, cp, z0, z1, z2, z3, z4, z5⟩ := HR2.out.look (i := t) (by rw [HLEN2.out]; exact htk)
              obtain ⟨x0, x1, x2, x3⟩ := HR2.out.held
              rw [HLEN2.out] at x1 x3 z1
              have hh := x3 t htk
              rw [z7] at hh
              rw [z6] at z5
              clear x3 z6 z7
              go_wp2
              go_roundw
              case rel => exact ⟨HR2.out, t + 1, by omega, by go_num⟩
              case measure => simp [intOf]; omega
            · have htk2 : t = k := by omega
              subst htk2
              have hj2 : (t : Int) ≤ (t : Int) := Int.le_refl _
              go_wp2_with fail
              refine (pq_awake _).mono ?_
              rintro e4 w4 ⟨rfl, t4⟩
              go_wp2
              go_ret
              exact ⟨rfl, (HR2.out.grow t4).touch⟩

set_option maxHeartbeats 1600000 in
set_option maxRecDepth 100000 in
theorem pq_excludes_long {B : Option Addr} {m d : Nat} (n mode base : Int) (w : World) (hn : 0 ≤ n ∧ n < 256) (hm : 0 ≤ mode ∧ mode < 256) (hb : 0 ≤ base ∧ base < 4294967296) (h5 : 500 < m) :
    Calls Try.prog 10 #[.int .u8 n, .int .u8 mode, .int .u32 base, .slice B m d] w fun e w' => e = .returned (.bool true) ∧ Touch [] w w' := by
  obtain ⟨k, hk⟩ : ∃ k : Nat, 1 + n % 6 = (k : Int) := ⟨(1 + n % 6).toNat, by omega⟩
  obtain ⟨dd, hd⟩ : ∃ d : Int, 1 + mode % 2 = d := ⟨_, rfl⟩
  have hbg := fun W rs (HX : Has [] w W rs) => pq_begun HX k (by omega) (by omega) dd base hb
  have HBG := Lib.hid hbg
  have HK := Lib.hid hk
  have HD := Lib.hid hd
  have hq3 : (500 : Int) < (m : Int) := by omega
  clear hbg hk hd
  go_enter Try.func10, Try.ntmps10
  go_wp2_with fail
  rw [HK.out, HD.out]
  refine (HBG.out _ _ (Has.start [] _)).mono ?_
  rintro e1 w1 ⟨x, mm, a, hbk, p, g, cap, rfl, H1⟩
  have HV := Lib.hid H1
  clear H1
  go_wp2_with fail
  refine (pq_awake _).mono ?_
  rintro e4 w4 ⟨rfl, t4⟩
  go_wp2
  go_ret
  exact ⟨rfl, (HV.out.grow t4).touch⟩

end Go.Proofs.Ytbcppehpfckgoaa.Z

/- Locks as tasks that wait for cells, and wake each other: what a step of a task does. No lock in sight. -/
set_option linter.unusedVariables false
set_option linter.unusedSimpArgs false
namespace Go.Proofs.Ytbcppehpfckgoaa.Z
open Go.RowKit

/-- The words that are no watches, no permits. -/
def mainOf (n : Nat) (L : List Int) : Nat → Int := fun j => if j < 8 + 2 * n then L.getD j 0 else 0
def upd (m : Nat → Int) (c : Nat) (v : Int) : Nat → Int := fun j => if j = c then v else m j
def written (m : Nat → Int) : Option (Nat × Int) → Nat → Int
  | none => m
  | some (c, v) => upd m c v
def writtenL (L : List Int) : Option (Nat × Int) → List Int
  | none => L
  | some (c, v) => L.set c v
def wkOf (mode : Int) : Option Nat → Wk
  | none => Wk.zero
  | some c => beginA mode c

theorem getDset {L : List Int} {i j : Nat} {v : Int} : (L.set i v).getD j 0 = if i = j ∧ i < L.length then v else L.getD j 0 := by
  simp only [List.getD_eq_getElem?_getD, List.getElem?_set]
  by_cases h : i = j
  · subst h
    by_cases h2 : i < L.length
    · simp [h2]
    · simp [h2]
  · simp [h]
theorem getDsetG {α : Type} {L : List α} {i j : Nat} {v d : α} (hi : i < L.length) : (L.set i v).getD j d = if i = j then v else L.getD j d := by
  simp only [List.getD_eq_getElem?_getD, List.getElem?_set]
  by_cases h : i = j
  · subst h
    simp [hi]
  · simp [h]
theorem getDset_ne {α : Type} {L : List α} {i j : Nat} {v d : α} (h : i ≠ j) : (L.set i v).getD j d = L.getD j d := by
  simp [List.getD_eq_getElem?_getD, List.getElem?_set, h]
theorem main_set {n : Nat} {L : List Int} {c : Nat} {v : Int} (hl : L.length = 8 + 4 * n) (hc : c < 8 + 2 * n) : mainOf n (L.set c v) = upd (mainOf n L) c v := by
  funext j
  unfold mainOf upd
  rw [getDset]
  by_cases h : j = c
  · subst h
    rw [if_pos hc, if_pos ⟨rfl, by omega⟩, if_pos rfl]
  · rw [if_neg (fun h2 : c = j ∧ c < L.length => h h2.1.symm), if_neg h]
theorem main_far {n : Nat} {L : List Int} {c : Nat} {v : Int} (hc : 8 + 2 * n ≤ c) : mainOf n (L.set c v) = mainOf n L := by
  funext j
  unfold mainOf
  by_cases h : j < 8 + 2 * n
  · rw [if_pos h, if_pos h, getDset, if_neg (by omega)]
  · rw [if_neg h, if_neg h]
theorem main_written {n : Nat} {L : List Int} (hl : L.length = 8 + 4 * n) {w : Option (Nat × Int)} (hc : ∀ c v, w = some (c, v) → c < 8 + 2 * n) : mainOf n (writtenL L w) = written (mainOf n L) w := by
  cases w with
  | none => rfl
  | some x => obtain ⟨c, v⟩ := x; exact main_set hl (hc c v rfl)
theorem writtenL_len (L : List Int) (w : Option (Nat × Int)) : (writtenL L w).length = L.length := by
  cases w with
  | none => rfl
  | some x => obtain ⟨c, v⟩ := x; simp [writtenL]
theorem writtenL_far {n j : Nat} {L : List Int} {w : Option (Nat × Int)} (hc : ∀ c v, w = some (c, v) → c < 8 + 2 * n) (hj : 8 + 2 * n ≤ j) : (writtenL L w).getD j 0 = L.getD j 0 := by
  cases w with
  | none => rfl
  | some x =>
    obtain ⟨c, v⟩ := x
    have := hc c v rfl
    exact getDset_ne (by omega)

/-- A lock, as its tasks stand: where one is, what it waits for, what a step does to the words. -/
structure LockM (P : Type) where
  g : Rn → Rn
  conc : P → Fr × Int
  keep : P → Int → Int
  wait : Nat → P → Option (Nat × (Int → Bool))
  post : P → Int → P
  act : Nat → P → (Nat → Int) → P × Option (Nat × Int) × Option Nat
  idle : Int → P
  start : Int → Int → P
  ok : P → Prop

/-- A frame, when its operation may be over. -/
def normF (f : Fr) (h : Int) : Fr × Int := if f.ret ≠ 0 then (Fr.zero, behindA f.op f.ret h) else ({ f with wk := Wk.zero }, h)

variable {P : Type}
/-- What a step from a place that does not wait does. -/
structure ActIs (K : LockM P) (n : Nat) (p : P) (R : P × Option (Nat × Int) × Option Nat) (s s' : Rn) : Prop where
  L : s'.L = writtenL s.L R.2.1
  f : normF s'.f (K.conc p).2 = K.conc R.1
  st : s'.f.st = 0
  wk : s'.f.wk = wkOf s.mode R.2.2
  op : s'.f.op ≠ 0
  lt : ∀ c v, R.2.1 = some (c, v) → c < 8 + 2 * n

/-- The lock's lines are what is said of it. -/
structure LockM.Good (K : LockM P) (n : Nat) (mode : Int) : Prop where
  plain : ∀ p, (K.conc p).1.st = 0 ∧ (K.conc p).1.wk = Wk.zero ∧ (K.conc p).1.ret = 0
  idle_conc : ∀ h, K.conc (K.idle h) = (Fr.zero, h)
  idle_only : ∀ p, (K.conc p).1.op = 0 → p = K.idle (K.conc p).2
  two : ∀ p, (K.conc p).2 = 2 → p = K.idle 2
  wait_op : ∀ t p c pr, K.wait t p = some (c, pr) → (K.conc p).1.op ≠ 0
  start_conc : ∀ op h, mayB op h = true → K.conc (K.start op h) = (frOp op, fromA op h)
  start_wait : ∀ t op h, mayB op h = true → K.wait t (K.start op h) = none
  wait_lt : ∀ t p c pr, K.ok p → t < n → K.wait t p = some (c, pr) → c < 8 + 2 * n
  post_hold : ∀ t p c pr v, K.wait t p = some (c, pr) → (K.conc p).2 ≠ 0 → (K.conc (K.post p v)).2 ≠ 0
  act : ∀ p t s, K.ok p → t < n → K.wait t p = none → (K.conc p).1.op ≠ 0 → s.n = (n : Int) → s.mode = mode → s.task = (t : Int) → s.f = (K.conc p).1 → s.L.length = 8 + 4 * n → ActIs K n p (K.act t p (mainOf n s.L)) s (K.g s)
  wait_step : ∀ p t c pr st s, K.ok p → t < n → K.wait t p = some (c, pr) → 0 ≤ st → st ≤ 3 → s.n = (n : Int) → s.mode = mode → s.task = (t : Int) → s.f = { (K.conc p).1 with st := st } → s.L.length = 8 + 4 * n →
    (K.g s).L = (waitA s.L n mode t st c pr).words ∧
    ((waitA s.L n mode t st c pr).done = true → normF (K.g s).f (K.conc p).2 = K.conc (K.post p (waitA s.L n mode t st c pr).acc.old) ∧ (K.g s).f.st = 0 ∧ (K.g s).f.wk = Wk.zero ∧ (K.g s).f.op ≠ 0) ∧
    ((waitA s.L n mode t st c pr).done = false → (K.g s).f = if (waitA s.L n mode t st c pr).seen then { (K.conc p).1 with a := K.keep p (waitA s.L n mode t st c pr).acc.old, st := (waitA s.L n mode t st c pr).stage } else { (K.conc p).1 with st := (waitA s.L n mode t st c pr).stage })
  wait_last : ∀ p t c pr v s, K.ok p → t < n → mode = 2 → K.wait t p = some (c, pr) → pr v = true → s.n = (n : Int) → s.mode = mode → s.task = (t : Int) → s.f = { (K.conc p).1 with a := K.keep p v, st := 4 } → s.L.length = 8 + 4 * n →
    (K.g s).L = (waitA s.L n mode t 4 c pr).words ∧ normF (K.g s).f (K.conc p).2 = K.conc (K.post p v) ∧ (K.g s).f.st = 0 ∧ (K.g s).f.wk = Wk.zero ∧ (K.g s).f.op ≠ 0

/-- How a task's frame, and what it holds, stand for its place. -/
inductive AbsF (K : LockM P) (n : Nat) (mode : Int) (t : Nat) : Fr → Int → P → Prop
  | plain (p : P) : AbsF K n mode t (K.conc p).1 (K.conc p).2 p
  | waking (p : P) (k : Wk) : mode = 2 → k.on = true → 0 ≤ k.i → k.i < n → 0 ≤ k.cell → (K.conc p).1.op ≠ 0 → AbsF K n mode t { (K.conc p).1 with wk := k } (K.conc p).2 p
  | staged (p : P) (c : Nat) (pr : Int → Bool) (st : Int) : mode = 2 → K.ok p → K.wait t p = some (c, pr) → st = 1 ∨ st = 2 ∨ st = 3 → AbsF K n mode t { (K.conc p).1 with st := st } (K.conc p).2 p
  | seen (q : P) (c : Nat) (pr : Int → Bool) (v : Int) : mode = 2 → K.ok q → K.wait t q = some (c, pr) → pr v = true → AbsF K n mode t { (K.conc q).1 with a := K.keep q v, st := 4 } (K.conc q).2 (K.post q v)
  | over (f : Fr) (h : Int) : mode = 2 → f.wk.on = true → 0 ≤ f.wk.i → f.wk.i < n → 0 ≤ f.wk.cell → f.op ≠ 0 → f.ret ≠ 0 → f.st = 0 → h ≠ 2 → AbsF K n mode t f h (K.idle (behindA f.op f.ret h))

/-- Tasks over a lock, and where each is. -/
structure MI (K : LockM P) (I : Nat → List P → (Nat → Int) → Prop) (n b : Nat) (M : Mt) (ps : List P) : Prop where
  num : M.n = (n : Int)
  fsl : M.fs.length = n
  hol : M.hold.length = n
  psl : ps.length = n
  len : M.L.length = 8 + 4 * n
  abs : ∀ i, i < n → AbsF K n M.mode i (M.fs.getD i Fr.zero) (M.hold.getD i 0) (ps.getD i (K.idle 0))
  inv : I b ps (mainOf n M.L)
  watch : ∀ i c pr, i < n → K.wait i (ps.getD i (K.idle 0)) = some (c, pr) → ((M.fs.getD i Fr.zero).st = 2 ∨ (M.fs.getD i Fr.zero).st = 3) → M.L.getD (8 + 2 * n + i) 0 = ((c : Int) + 1) % 4294967296
  woken : ∀ i c pr, i < n → K.wait i (ps.getD i (K.idle 0)) = some (c, pr) → (M.fs.getD i Fr.zero).st = 3 → pr (mainOf n M.L c) = true →
    M.L.getD (8 + 3 * n + i) 0 ≠ 0 ∨ ∃ j, j < n ∧ (M.fs.getD j Fr.zero).wk.on = true ∧ (M.fs.getD j Fr.zero).wk.cell = c ∧ (M.fs.getD j Fr.zero).wk.i ≤ i

/-- What holds of the places and the words, and stays so. -/
structure LockM.Keeps (K : LockM P) (n : Nat) (I : Nat → List P → (Nat → Int) → Prop) : Prop where
  weak : ∀ b ps m, I (b + 1) ps m → I b ps m
  ok : ∀ b ps m i, I b ps m → i < n → ps.length = n → K.ok (ps.getD i (K.idle 0))
  begins : ∀ b ps m i op h, I (b + 1) ps m → i < n → ps.length = n → ps.getD i (K.idle 0) = K.idle h → mayB op h = true → I b (ps.set i (K.start op h)) m
  acts : ∀ b ps m i, I (b + 1) ps m → i < n → ps.length = n → K.wait i (ps.getD i (K.idle 0)) = none → (K.conc (ps.getD i (K.idle 0))).1.op ≠ 0 →
    I b (ps.set i (K.act i (ps.getD i (K.idle 0)) m).1) (written m (K.act i (ps.getD i (K.idle 0)) m).2.1)
  sees : ∀ b ps m i c pr, I (b + 1) ps m → i < n → ps.length = n → K.wait i (ps.getD i (K.idle 0)) = some (c, pr) → pr (m c) = true → I b (ps.set i (K.post (ps.getD i (K.idle 0)) (m c))) m
  wakes : ∀ b ps m i j c pr, I (b + 1) ps m → i < n → j < n → i ≠ j → ps.length = n → K.wait i (ps.getD i (K.idle 0)) = none → (K.conc (ps.getD i (K.idle 0))).1.op ≠ 0 → K.wait j (ps.getD j (K.idle 0)) = some (c, pr) →
    pr (written m (K.act i (ps.getD i (K.idle 0)) m).2.1 c) = true → pr (m c) = true ∨ (K.act i (ps.getD i (K.idle 0)) m).2.2 = some c

theorem step_off {g : Rn → Rn} {s : Rn} (h : s.f.wk.on = false) (ha : s.acc = Acc.zero) (hn : s.notes = []) : stepR g s = g s := by
  unfold stepR
  rw [h]
  obtain ⟨n, mode, task, f, acc, notes, L⟩ := s
  simp only at ha hn
  subst ha hn
  rfl
theorem goes_wake {g : Rn → Rn} {M : Mt} {i : Nat} {f : Fr} {h : Int} (hw : f.wk.on = true) :
    M.goes g i f h = if f.ret ≠ 0 ∧ (wakeA M.L M.n f.wk).1.on = false then M.put i Fr.zero (behindA f.op f.ret h) (wakeA M.L M.n f.wk).2.2 else M.put i { f with wk := (wakeA M.L M.n f.wk).1 } h (wakeA M.L M.n f.wk).2.2 := by
  have hs : stepR g (M.run i f) = (M.run i f).woke := by
    unfold stepR
    rw [show (M.run i f).f.wk.on = true from hw]
    rfl
  rw [goes_of hs, hw]
  simp only [Bool.not_true, Bool.false_and, Bool.false_eq_true, if_false]
  have e1 : (M.run i f).woke.over = (f.ret != 0 && !(wakeA M.L M.n f.wk).1.on) := rfl
  rw [e1]
  by_cases h1 : f.ret = 0
  · rw [if_neg (by simp [h1]), if_neg (by simp [h1])]
    rfl
  · by_cases h2 : (wakeA M.L M.n f.wk).1.on = false
    · rw [if_pos (by simp [h1, h2]), if_pos ⟨h1, h2⟩]
      rfl
    · rw [if_neg (by simp [h1, h2]), if_neg (by simp [h2])]
      rfl
theorem goes_step {g : Rn → Rn} {M : Mt} {i : Nat} {f : Fr} {h : Int} (hw : f.wk.on = false) (hs : stuckA M.L M.n M.mode i f.st = false) :
    M.goes g i f h = if (g (M.run i f)).over = true then M.put i Fr.zero (behindA (g (M.run i f)).f.op (g (M.run i f)).f.ret h) (g (M.run i f)).L else M.put i (g (M.run i f)).f h (g (M.run i f)).L := by
  rw [goes_of (step_off (g := g) (s := M.run i f) hw rfl rfl), hw, hs]
  simp
theorem goes_stuck {g : Rn → Rn} {M : Mt} {i : Nat} {f : Fr} {h : Int} (hw : f.wk.on = false) (hs : stuckA M.L M.n M.mode i f.st = true) : M.goes g i f h = M.put i f h M.L := by
  unfold Mt.goes
  rw [hw, hs]
  simp
theorem put_same {M : Mt} {i : Nat} (h1 : i < M.fs.length) (h2 : i < M.hold.length) : M.put i (M.fs.getD i Fr.zero) (M.hold.getD i 0) M.L = M := by
  unfold Mt.put
  have e1 : M.fs.set i (M.fs.getD i Fr.zero) = M.fs := by simp [List.getD, h1]
  have e2 : M.hold.set i (M.hold.getD i 0) = M.hold := by simp [List.getD, h2]
  rw [e1, e2]

theorem cell_row {n : Nat} {row i : Int} (h1 : 1 ≤ n) (h2 : n ≤ 64) (h0 : 0 ≤ i) (hi : i < n) : cellP n row i = 8 + row * n + i := by
  unfold cellP
  rw [if_pos (by omega)]
theorem doA_at {L : List Int} {kind c x y : Int} (hc : 0 ≤ c ∧ c < L.length) :
    doA L ⟨kind, c, x, y, 0⟩ = (if kind = 1 then (⟨kind, c, x, y, L.getD c.toNat 0⟩, true, L) else if kind = 3 then (⟨kind, c, x, y, L.getD c.toNat 0⟩, true, L.set c.toNat ((L.getD c.toNat 0 + x) % 4294967296))
      else if kind = 5 then (⟨kind, c, x, y, L.getD c.toNat 0⟩, true, if L.getD c.toNat 0 = x then L.set c.toNat y else L)
      else if kind = 2 ∨ kind = 4 then (⟨kind, c, x, y, L.getD c.toNat 0⟩, true, L.set c.toNat x) else (Acc.zero, false, L)) := by
  unfold doA
  rw [if_pos hc]

/-- A wake-up's step. -/
theorem wake_is {n : Nat} {L : List Int} {k : Wk} (h1 : 1 ≤ n) (h2 : n ≤ 64) (hl : L.length = 8 + 4 * n) (hk : k.on = true) (h0 : 0 ≤ k.i) (hi : k.i < n) :
    wakeA L n k = if k.hit then (nextA n k, (giveA L n k.i).1, L.set (8 + 3 * n + k.i.toNat) 1)
      else (if L.getD (8 + 2 * n + k.i.toNat) 0 = (k.cell + 1) % 4294967296 then ⟨true, k.cell, k.i, true⟩ else nextA n k, (doA L ⟨1, cellP n 2 k.i, 0, 0, 0⟩).1, L) := by
  have e2 : (cellP n 2 k.i).toNat = 8 + 2 * n + k.i.toNat := by rw [cell_row h1 h2 h0 hi]; omega
  have e3 : (cellP n 3 k.i).toNat = 8 + 3 * n + k.i.toNat := by rw [cell_row h1 h2 h0 hi]; omega
  have b2 : 0 ≤ cellP n 2 k.i ∧ cellP n 2 k.i < L.length := by rw [cell_row h1 h2 h0 hi]; omega
  have b3 : 0 ≤ cellP n 3 k.i ∧ cellP n 3 k.i < L.length := by rw [cell_row h1 h2 h0 hi]; omega
  unfold wakeA
  rw [if_pos hk]
  have g3 := doA_at (L := L) (kind := 2) (c := cellP n 3 k.i) (x := 1) (y := 0) b3
  have g2 := doA_at (L := L) (kind := 1) (c := cellP n 2 k.i) (x := 0) (y := 0) b2
  simp at g3 g2
  rw [e3] at g3
  rw [e2] at g2
  have gg : giveA L n k.i = doA L ⟨2, cellP n 3 k.i, 1, 0, 0⟩ := rfl
  rw [gg, g3, g2]
  simp [hk]

/-- What is left of a wake-up. -/
def leftF (n : Nat) (f : Fr) : Nat := if f.wk.on then 2 * (n - f.wk.i.toNat) - (if f.wk.hit then 1 else 0) else 0
theorem left_next {n : Nat} {k : Wk} {f : Fr} (hk : k.on = true) (h0 : 0 ≤ k.i) (hi : k.i < n) : leftF n { f with wk := nextA n k } + 1 ≤ leftF n { f with wk := k } := by
  unfold leftF nextA
  simp only [hk, if_true]
  split <;> split <;> simp [Wk.zero] at * <;> (try split) <;> omega

end Go.Proofs.Ytbcppehpfckgoaa.Z

/- Locks as tasks that wait for cells, and wake each other: each step keeps what holds, and goes on. No lock in sight. -/
set_option linter.unusedVariables false
set_option linter.unusedSimpArgs false
namespace Go.Proofs.Ytbcppehpfckgoaa.Z
open Go.RowKit

variable {P : Type} {K : LockM P} {I : Nat → List P → (Nat → Int) → Prop} {n b : Nat} {M : Mt} {ps : List P}

theorem stage_at {mode st : Int} (hm : mode = 2) (h0 : 0 ≤ st) (h1 : st ≤ 4) : stageA mode st = st := by
  unfold stageA
  rw [if_pos (by omega)]
theorem stage_zero (mode : Int) : stageA mode 0 = 0 := by unfold stageA; split <;> rfl

theorem AbsF.st_mode {mode : Int} {t : Nat} {f : Fr} {h : Int} {p : P} (G : K.Good n mode) (H : AbsF K n mode t f h p) : (f.st = 2 ∨ f.st = 3) → mode = 2 := by
  intro hs
  cases H <;> first | assumption | (have := (G.plain p).1; omega)
theorem AbsF.left {mode : Int} {t : Nat} {f : Fr} {h : Int} {p : P} (G : K.Good n mode) (H : AbsF K n mode t f h p) : leftF n f ≤ 2 * n := by
  unfold leftF
  split
  · omega
  · omega

/-- A task's new frame, and the words. -/
theorem MI.put (H : MI K I n (b + 1) M ps) (G : K.Good n M.mode) {i : Nat} (hi : i < n) {f' : Fr} {h' : Int} {p' : P} {L' : List Int} (hL : L'.length = 8 + 4 * n) (ha : AbsF K n M.mode i f' h' p') (hinv : I b (ps.set i p') (mainOf n L'))
    (w1 : ∀ c pr, K.wait i p' = some (c, pr) → (f'.st = 2 ∨ f'.st = 3) → L'.getD (8 + 2 * n + i) 0 = ((c : Int) + 1) % 4294967296)
    (w2 : ∀ j, j < n → j ≠ i → L'.getD (8 + 2 * n + j) 0 = M.L.getD (8 + 2 * n + j) 0)
    (w3 : ∀ c pr, K.wait i p' = some (c, pr) → f'.st = 3 → pr (mainOf n L' c) = false)
    (w4 : ∀ j c pr, j < n → j ≠ i → K.wait j (ps.getD j (K.idle 0)) = some (c, pr) → (M.fs.getD j Fr.zero).st = 3 → pr (mainOf n L' c) = true →
      L'.getD (8 + 3 * n + j) 0 ≠ 0 ∨ (f'.wk.on = true ∧ f'.wk.cell = c ∧ f'.wk.i ≤ j) ∨ ∃ u, u < n ∧ u ≠ i ∧ (M.fs.getD u Fr.zero).wk.on = true ∧ (M.fs.getD u Fr.zero).wk.cell = c ∧ (M.fs.getD u Fr.zero).wk.i ≤ j) :
    MI K I n b (M.put i f' h' L') (ps.set i p') := by
  have hfl := H.fsl
  have hhl := H.hol
  have hpl := H.psl
  refine ⟨H.num, by simp [Mt.put, hfl], by simp [Mt.put, hhl], by simp [hpl], hL, fun j hj => ?_, hinv, fun j c pr hj hw hs => ?_, fun j c pr hj hw hs hp => ?_⟩
  · show AbsF K n M.mode j ((M.fs.set i f').getD j Fr.zero) ((M.hold.set i h').getD j 0) ((ps.set i p').getD j (K.idle 0))
    rw [getDsetG (by omega), getDsetG (by omega), getDsetG (by omega)]
    by_cases e : i = j
    · subst e
      simp only [if_true]
      exact ha
    · simp only [if_neg e]
      exact H.abs j hj
  · have hs : ((M.fs.set i f').getD j Fr.zero).st = 2 ∨ ((M.fs.set i f').getD j Fr.zero).st = 3 := hs
    show L'.getD (8 + 2 * n + j) 0 = _
    rw [getDsetG (by omega)] at hs hw
    by_cases e : i = j
    · subst e
      simp only [if_true] at hs hw
      exact w1 c pr hw hs
    · simp only [if_neg e] at hs hw
      rw [w2 j hj (fun h => e h.symm)]
      exact H.watch j c pr hj hw hs
  · have hs : ((M.fs.set i f').getD j Fr.zero).st = 3 := hs
    have hp : pr (mainOf n L' c) = true := hp
    rw [getDsetG (by omega)] at hs hw
    by_cases e : i = j
    · subst e
      simp only [if_true] at hs hw
      rw [w3 c pr hw hs] at hp
      cases hp
    · simp only [if_neg e] at hs hw
      rcases w4 j c pr hj (fun h => e h.symm) hw hs hp with h1 | ⟨h1, h2, h3⟩ | ⟨u, h1, h2, h3, h4, h5⟩
      · exact Or.inl h1
      · refine Or.inr ⟨i, hi, ?_⟩
        show ((M.fs.set i f').getD i Fr.zero).wk.on = true ∧ ((M.fs.set i f').getD i Fr.zero).wk.cell = c ∧ ((M.fs.set i f').getD i Fr.zero).wk.i ≤ j
        rw [getDsetG (by omega), if_pos rfl]
        exact ⟨h1, h2, h3⟩
      · refine Or.inr ⟨u, h1, ?_⟩
        show ((M.fs.set i f').getD u Fr.zero).wk.on = true ∧ ((M.fs.set i f').getD u Fr.zero).wk.cell = c ∧ ((M.fs.set i f').getD u Fr.zero).wk.i ≤ j
        rw [getDsetG (by omega), if_neg (fun h => h2 h.symm)]
        exact ⟨h3, h4, h5⟩

/-- Where nothing but watches and permits changed, and who slept is woken as before. -/
theorem MI.others (H : MI K I n b M ps) {i : Nat} {L' : List Int} (hw : (M.fs.getD i Fr.zero).wk.on = false) (hm : mainOf n L' = mainOf n M.L) (hp : ∀ j, j < n → j ≠ i → L'.getD (8 + 3 * n + j) 0 = M.L.getD (8 + 3 * n + j) 0) (f' : Fr) :
    ∀ j c pr, j < n → j ≠ i → K.wait j (ps.getD j (K.idle 0)) = some (c, pr) → (M.fs.getD j Fr.zero).st = 3 → pr (mainOf n L' c) = true →
      L'.getD (8 + 3 * n + j) 0 ≠ 0 ∨ (f'.wk.on = true ∧ f'.wk.cell = c ∧ f'.wk.i ≤ j) ∨ ∃ u, u < n ∧ u ≠ i ∧ (M.fs.getD u Fr.zero).wk.on = true ∧ (M.fs.getD u Fr.zero).wk.cell = c ∧ (M.fs.getD u Fr.zero).wk.i ≤ j := by
  intro j c pr hj hji hwt hs hpr
  rw [hm] at hpr
  rcases H.woken j c pr hj hwt hs hpr with h1 | ⟨u, h1, h2, h3⟩
  · exact Or.inl (by rw [hp j hj hji]; exact h1)
  · refine Or.inr (Or.inr ⟨u, h1, ?_, h2, h3⟩)
    rintro rfl
    rw [hw] at h2
    cases h2

/-- A step's end: over, or not. -/
theorem after_abs {mode : Int} (hm : mode = 1 ∨ mode = 2) (G : K.Good n mode) (h1 : 1 ≤ n) {t : Nat} {s' : Rn} {h : Int} {p' : P} {w : Option Nat} (hf : normF s'.f h = K.conc p') (hst : s'.f.st = 0) (hwk : s'.f.wk = wkOf mode w) (hop : s'.f.op ≠ 0) (hh : h ≠ 2) :
    ∃ f' h', (if s'.over = true then (Fr.zero, behindA s'.f.op s'.f.ret h) else (s'.f, h)) = (f', h') ∧ AbsF K n mode t f' h' p' ∧ f'.st = 0 ∧ f'.wk = wkOf mode w := by
  have hz : wkOf mode w = Wk.zero ∨ ∃ c, w = some c ∧ mode = 2 ∧ wkOf mode w = ⟨true, c, 0, false⟩ := by
    cases w with
    | none => exact Or.inl rfl
    | some c =>
      rcases hm with hm | hm
      · left; show beginA mode c = _; unfold beginA; rw [if_neg (by omega)]
      · right; exact ⟨c, rfl, hm, by show beginA mode c = _; unfold beginA; rw [if_pos hm]⟩
  unfold normF at hf
  by_cases hr : s'.f.ret = 0
  · rw [if_neg (by simp [hr])] at hf
    refine ⟨s'.f, h, by rw [if_neg (by unfold Rn.over; simp [hr])], ?_, hst, hwk⟩
    rcases hz with hz | ⟨c, hc, hm2, hz⟩
    · have e : ({ s'.f with wk := Wk.zero } : Fr) = s'.f := by rw [hz] at hwk; rw [← hwk]
      rw [e] at hf
      have := AbsF.plain (K := K) (n := n) (mode := mode) (t := t) p'
      rw [← hf] at this
      exact this
    · have hp1 : (K.conc p').1 = { s'.f with wk := Wk.zero } := by rw [← hf]
      have hp2 : (K.conc p').2 = h := by rw [← hf]
      have := AbsF.waking (K := K) (n := n) (mode := mode) (t := t) p' s'.f.wk hm2 (by rw [hwk, hz]) (by rw [hwk, hz]; exact Int.le_refl _) (by rw [hwk, hz]; show (0 : Int) < n; omega) (by rw [hwk, hz]; show (0 : Int) ≤ c; omega) (by rw [hp1]; exact hop)
      rw [hp1, hp2] at this
      exact this
  · rw [if_pos hr] at hf
    have hp : p' = K.idle (behindA s'.f.op s'.f.ret h) := by
      have := G.idle_only p' (by rw [← hf]; rfl)
      rw [← hf] at this
      exact this
    subst hp
    rcases hz with hz | ⟨c, hc, hm2, hz⟩
    · refine ⟨Fr.zero, behindA s'.f.op s'.f.ret h, by rw [if_pos (by unfold Rn.over; rw [hwk, hz]; simp [hr, Wk.zero])], ?_, rfl, by rw [hz]; rfl⟩
      have := AbsF.plain (K := K) (n := n) (mode := mode) (t := t) (K.idle (behindA s'.f.op s'.f.ret h))
      rw [← hf] at this
      exact this
    · refine ⟨s'.f, h, by rw [if_neg (by unfold Rn.over; rw [hwk, hz]; simp)], ?_, hst, hwk⟩
      exact AbsF.over s'.f h hm2 (by rw [hwk, hz]) (by rw [hwk, hz]; exact Int.le_refl _) (by rw [hwk, hz]; show (0 : Int) < n; omega) (by rw [hwk, hz]; show (0 : Int) ≤ c; omega) hop hr hst hh
theorem put_if {M : Mt} {i : Nat} {b : Bool} {f1 f2 f' : Fr} {h1 h2 h' : Int} {L' : List Int} (h : (if b = true then (f1, h1) else (f2, h2)) = (f', h')) : (if b = true then M.put i f1 h1 L' else M.put i f2 h2 L') = M.put i f' h' L' := by
  cases b <;> simp at h <;> simp [h]

/-- What a lock brings so that all come to rest: how many writes are left, how many of them wake; how many steps a task can do while no word changes. -/
structure LockM.Live (K : LockM P) (n : Nat) (I : Nat → List P → (Nat → Int) → Prop) (N V C : Nat) (nw nv : P → Nat) (cp : (Nat → Int) → Nat → P → Nat) : Prop where
  nwle : ∀ p, nw p ≤ N
  nvle : ∀ p, nv p ≤ V
  five : 5 ≤ C
  cple : ∀ m t p, cp m t p + 1 ≤ C ∧ (K.wait t p ≠ none → cp m t p + 2 ≤ C)
  wait_yes : ∀ m t p c pr, K.wait t p = some (c, pr) → pr (m c) = true → cp m t (K.post p (m c)) + 1 ≤ cp m t p
  wait_no : ∀ m t p c pr, K.wait t p = some (c, pr) → pr (m c) = false → 5 ≤ cp m t p
  post_w : ∀ t p c pr v, K.wait t p = some (c, pr) → nw (K.post p v) ≤ nw p ∧ nv (K.post p v) ≤ nv p
  write : ∀ m t p w, K.wait t p = none → (K.conc p).1.op ≠ 0 → (K.act t p m).2.1 = some w → nw (K.act t p m).1 + 1 ≤ nw p ∧ nv (K.act t p m).1 + (if (K.act t p m).2.2.isSome then 1 else 0) ≤ nv p
  quiet : ∀ b ps m t p, I b ps m → ps.length = n → t < n → ps.getD t (K.idle 0) = p → K.wait t p = none → (K.conc p).1.op ≠ 0 → (K.act t p m).2.1 = none → (K.act t p m).2.2 = none ∧ nw (K.act t p m).1 ≤ nw p ∧ nv (K.act t p m).1 ≤ nv p ∧ cp m t (K.act t p m).1 + 1 ≤ cp m t p
  gives : ∀ m t h, h = 1 ∨ h = 2 → nw (K.start (2 * h) h) ≤ nw (K.idle h) ∧ nv (K.start (2 * h) h) ≤ nv (K.idle h) ∧ cp m t (K.start (2 * h) h) ≤ cp m t (K.idle h)
  rests : ∀ m t, cp m t (K.idle 0) = 0
  zero : ∀ m t p, K.wait t p = none → cp m t p = 0 → p = K.idle 0
  free : ∀ b ps m, I b ps m → ps.length = n → (∀ i, i < n → ps.getD i (K.idle 0) = K.idle 0 ∨ ∃ c pr, K.wait i (ps.getD i (K.idle 0)) = some (c, pr) ∧ pr (m c) = false) → ∀ i, i < n → ps.getD i (K.idle 0) = K.idle 0

theorem cple_of {C x : Nat} {Q : Prop} (h : x + 2 ≤ C) : x + 1 ≤ C ∧ (Q → x + 2 ≤ C) := ⟨by omega, fun _ => h⟩
/-- How many steps a task can do yet while no word changes. -/
def potF (K : LockM P) (cp : (Nat → Int) → Nat → P → Nat) (m : Nat → Int) (mode : Int) (t : Nat) (f : Fr) (p : P) (q : Int) : Nat :=
  if f.st = 4 then 1 + cp m t p
  else match K.wait t p with
    | some (c, pr) => if pr (m c) then (if f.st = 0 then 0 else if f.st = 2 then 1 else 2) + cp m t p
      else if mode = 2 then (if f.st = 0 then 3 else if f.st = 1 then 2 else if f.st = 2 then 1 else 0) + (if q ≠ 0 then 2 else 0) else 0
    | none => cp m t p
theorem potF_le {N V C : Nat} {nw nv : P → Nat} {cp : (Nat → Int) → Nat → P → Nat} (Lv : K.Live n I N V C nw nv cp) {m : Nat → Int} {mode : Int} {t : Nat} {f : Fr} {p : P} {q : Int} : potF K cp m mode t f p q ≤ C := by
  obtain ⟨h1, h3⟩ := Lv.cple m t p
  have h2 := Lv.five
  unfold potF
  split
  · omega
  split
  · rename_i c pr hw
    have h3 := h3 (by rw [hw]; exact fun h => by cases h)
    split
    · repeat' split
      all_goals omega
    · repeat' split
      all_goals omega
  · omega
theorem potF_plain {N V C : Nat} {nw nv : P → Nat} {cp : (Nat → Int) → Nat → P → Nat} (Lv : K.Live n I N V C nw nv cp) {m : Nat → Int} {mode : Int} {t : Nat} {f : Fr} {p : P} {q : Int} (hs : f.st = 0) : potF K cp m mode t f p q ≤ cp m t p := by
  unfold potF
  rw [if_neg (by omega)]
  split
  · rename_i c pr hw
    cases hp : pr (m c) with
    | true => simp [hs]
    | false =>
      have := Lv.wait_no m t p c pr hw hp
      simp only [hs, if_true, Bool.false_eq_true, if_false]
      repeat' split
      all_goals omega
  · exact Nat.le_refl _

/-- How a step goes on. -/
structure Went (K : LockM P) (n : Nat) (nw nv : P → Nat) (cp : (Nat → Int) → Nat → P → Nat) (M : Mt) (ps : List P) (i : Nat) (M' : Mt) (ps' : List P) : Prop where
  num : M'.n = M.n ∧ M'.mode = M.mode
  others : ∀ j, j ≠ i → M'.fs.getD j Fr.zero = M.fs.getD j Fr.zero ∧ M'.hold.getD j 0 = M.hold.getD j 0 ∧ ps'.getD j (K.idle 0) = ps.getD j (K.idle 0)
  kind : (0 < leftF n (M.fs.getD i Fr.zero) ∧ leftF n (M'.fs.getD i Fr.zero) + 1 ≤ leftF n (M.fs.getD i Fr.zero) ∧ ps' = ps ∧ mainOf n M'.L = mainOf n M.L) ∨
    (leftF n (M.fs.getD i Fr.zero) = 0 ∧ nw (ps'.getD i (K.idle 0)) + 1 ≤ nw (ps.getD i (K.idle 0)) ∧ nv (ps'.getD i (K.idle 0)) + (if 0 < leftF n (M'.fs.getD i Fr.zero) then 1 else 0) ≤ nv (ps.getD i (K.idle 0))) ∨
    (leftF n (M.fs.getD i Fr.zero) = 0 ∧ leftF n (M'.fs.getD i Fr.zero) = 0 ∧ mainOf n M'.L = mainOf n M.L ∧ nw (ps'.getD i (K.idle 0)) ≤ nw (ps.getD i (K.idle 0)) ∧ nv (ps'.getD i (K.idle 0)) ≤ nv (ps.getD i (K.idle 0)) ∧
      (∀ j, j < n → j ≠ i → M'.L.getD (8 + 3 * n + j) 0 = M.L.getD (8 + 3 * n + j) 0) ∧
      (potF K cp (mainOf n M.L) M.mode i (M'.fs.getD i Fr.zero) (ps'.getD i (K.idle 0)) (M'.L.getD (8 + 3 * n + i) 0) + 1 ≤ potF K cp (mainOf n M.L) M.mode i (M.fs.getD i Fr.zero) (ps.getD i (K.idle 0)) (M.L.getD (8 + 3 * n + i) 0) ∨
        (potF K cp (mainOf n M.L) M.mode i (M'.fs.getD i Fr.zero) (ps'.getD i (K.idle 0)) (M'.L.getD (8 + 3 * n + i) 0) = 0 ∧ potF K cp (mainOf n M.L) M.mode i (M.fs.getD i Fr.zero) (ps.getD i (K.idle 0)) (M.L.getD (8 + 3 * n + i) 0) = 0) ∨
        ∃ j, j < n ∧ (M.fs.getD j Fr.zero).wk.on = true))

theorem put_went {M : Mt} {ps : List P} {i : Nat} {f' : Fr} {h' : Int} {p' : P} {L' : List Int} (hf : i < M.fs.length) (hh : i < M.hold.length) (hp : i < ps.length) :
    (∀ j, j ≠ i → (M.put i f' h' L').fs.getD j Fr.zero = M.fs.getD j Fr.zero ∧ (M.put i f' h' L').hold.getD j 0 = M.hold.getD j 0 ∧ (ps.set i p').getD j (K.idle 0) = ps.getD j (K.idle 0)) ∧
    (M.put i f' h' L').fs.getD i Fr.zero = f' ∧ (M.put i f' h' L').hold.getD i 0 = h' ∧ (ps.set i p').getD i (K.idle 0) = p' := by
  refine ⟨fun j hj => ⟨getDset_ne (fun h => hj h.symm), getDset_ne (fun h => hj h.symm), getDset_ne (fun h => hj h.symm)⟩, ?_, ?_, ?_⟩
  · show (M.fs.set i f').getD i Fr.zero = f'
    rw [getDsetG hf, if_pos rfl]
  · show (M.hold.set i h').getD i 0 = h'
    rw [getDsetG hh, if_pos rfl]
  · rw [getDsetG hp, if_pos rfl]

end Go.Proofs.Ytbcppehpfckgoaa.Z

/- Locks as tasks that wait for cells, and wake each other: a step of a task that is with an operation. No lock in sight. -/
set_option linter.unusedVariables false
set_option linter.unusedSimpArgs false
namespace Go.Proofs.Ytbcppehpfckgoaa.Z
open Go.RowKit

theorem set_self {α : Type} {l : List α} {i : Nat} {d v : α} (h : i < l.length) (e : l.getD i d = v) : l.set i v = l := by
  subst e
  simp [List.getD, h]

section
variable {P : Type} {K : LockM P} {I : Nat → List P → (Nat → Int) → Prop} {n b : Nat} {M : Mt} {ps : List P} {N V C : Nat} {nw nv : P → Nat} {cp : (Nat → Int) → Nat → P → Nat} {i : Nat} {f : Fr} {h : Int} {p : P}

def Goes (K : LockM P) (I : Nat → List P → (Nat → Int) → Prop) (n b : Nat) (nw nv : P → Nat) (cp : (Nat → Int) → Nat → P → Nat) (M : Mt) (ps : List P) (i : Nat) (f : Fr) (h : Int) : Prop :=
  ∃ ps', MI K I n b (M.goes K.g i f h) ps' ∧ Went K n nw nv cp M ps i (M.goes K.g i f h) ps'

theorem left_off {f : Fr} (h : f.wk.on = false) : leftF n f = 0 := by unfold leftF; rw [h]; rfl
theorem left_zero {f : Fr} (h : f.wk = Wk.zero) : leftF n f = 0 := left_off (by rw [h]; rfl)
theorem wkOf_off {mode : Int} : (wkOf mode none).on = false := rfl
theorem stuck_not {L : List Int} {n mode task st : Int} (h : stageA mode st ≠ 3) : stuckA L n mode task st = false := by
  unfold stuckA
  have : (stageA mode st == 3) = false := by simpa using h
  rw [this]
  rfl

theorem MI.weaken (Kp : K.Keeps n I) (H : MI K I n (b + 1) M ps) : MI K I n b M ps := ⟨H.num, H.fsl, H.hol, H.psl, H.len, H.abs, Kp.weak _ _ _ H.inv, H.watch, H.woken⟩

/-- From a place that does not wait. -/
theorem goes_act (G : K.Good n M.mode) (Kp : K.Keeps n I) (Lv : K.Live n I N V C nw nv cp) (h1 : 1 ≤ n) (hm : M.mode = 1 ∨ M.mode = 2) (H : MI K I n (b + 1) M ps) (hi : i < n)
    (hf : M.fs.getD i Fr.zero = (K.conc p).1) (hh : M.hold.getD i 0 = (K.conc p).2) (hp : ps.getD i (K.idle 0) = p) (hop : (K.conc p).1.op ≠ 0) (hw : K.wait i p = none) : Goes K I n b nw nv cp M ps i (K.conc p).1 (K.conc p).2 := by
  obtain ⟨q1, q2, q3⟩ := G.plain p
  have hfl := H.fsl
  have hhl := H.hol
  have hpl := H.psl
  have hok := Kp.ok _ ps _ i H.inv hi hpl
  have hacts := Kp.acts _ ps _ i H.inv hi hpl
  have hwks := fun j c pr => Kp.wakes _ ps _ i j c pr H.inv hi
  have hlw := Lv.write (mainOf n M.L) i p
  have hlq := Lv.quiet _ ps (mainOf n M.L) i p H.inv hpl hi hp
  rw [hp] at hok hacts hwks
  have A := G.act p i (M.run i (K.conc p).1) hok hi hw hop H.num rfl rfl rfl H.len
  have hacts := hacts hw hop
  rw [show (M.run i (K.conc p).1).L = M.L from rfl] at A
  have hstep : M.goes K.g i (K.conc p).1 (K.conc p).2 = _ := goes_step (by rw [q2]; rfl) (stuck_not (by rw [q1, stage_zero]; decide))
  have hh2 : (K.conc p).2 ≠ 2 := fun e => hop (by rw [G.two p e, G.idle_conc]; rfl)
  obtain ⟨f', h', e1, e2, e3, e4⟩ := after_abs (t := i) hm G h1 A.f A.st (show _ = wkOf M.mode _ from A.wk) A.op hh2
  rw [put_if e1] at hstep
  unfold Goes
  rw [hstep, A.L]
  have hmw := main_written H.len A.lt
  have hL : (M.run i (K.conc p).1).L = M.L := rfl
  rw [hL]
  generalize hR : K.act i p (mainOf n M.L) = R at *
  obtain ⟨p', w, k⟩ := R
  simp only at *
  refine ⟨ps.set i p', MI.put H G hi (by rw [writtenL_len]; exact H.len) e2 (by rw [hmw]; exact hacts) (fun c pr _ hs => by omega) (fun j hj _ => writtenL_far A.lt (by omega)) (fun c pr _ hs => by omega) (fun j c pr hj hji hwt hs hpr => ?_), ?_⟩
  · rw [hmw] at hpr
    rcases hwks j c pr hj (fun h => hji h.symm) hpl hw hop hwt (by exact hpr) with hold | hwake
    · rcases H.woken j c pr hj hwt hs hold with h3 | ⟨u, h3, h4, h5⟩
      · exact Or.inl (by rw [writtenL_far A.lt (by omega)]; exact h3)
      · refine Or.inr (Or.inr ⟨u, h3, ?_, h4, h5⟩)
        rintro rfl
        rw [hf, q2] at h4
        cases h4
    · refine Or.inr (Or.inl ?_)
      have hm2 := (H.abs j hj).st_mode G (Or.inr hs)
      rw [e4, hwake]
      show (beginA M.mode c).on = true ∧ (beginA M.mode c).cell = c ∧ (beginA M.mode c).i ≤ j
      unfold beginA
      rw [if_pos hm2]
      exact ⟨rfl, rfl, by simp⟩
  · obtain ⟨o1, o2, o3, o4⟩ := put_went (K := K) (f' := f') (h' := h') (p' := p') (L' := writtenL M.L w) (M := M) (ps := ps) (i := i) (by omega) (by omega) (by omega)
    refine ⟨⟨rfl, rfl⟩, o1, ?_⟩
    rw [o2, o4, hf, hp]
    have hl0 : leftF n (K.conc p).1 = 0 := left_zero q2
    cases w with
    | some x =>
      right; left
      obtain ⟨g1, g2⟩ := hlw x hw hop rfl
      refine ⟨hl0, g1, ?_⟩
      cases k with
      | none => rw [left_zero (f := f') (by rw [e4]; rfl)]; simpa using g2
      | some c =>
        simp only [Option.isSome_some, if_true] at g2
        split <;> omega
    | none =>
      right; right
      obtain ⟨g1, g2, g3, g4⟩ := hlq hw hop rfl
      subst g1
      refine ⟨hl0, left_zero (f := f') (by rw [e4]; rfl), rfl, g2, g3, fun j hj hji => rfl, Or.inl ?_⟩
      have := potF_plain Lv (m := mainOf n M.L) (mode := M.mode) (t := i) (f := f') (p := p') (q := (M.put i f' h' (writtenL M.L none)).L.getD (8 + 3 * n + i) 0) e3
      have hpp : potF K cp (mainOf n M.L) M.mode i (K.conc p).1 p (M.L.getD (8 + 3 * n + i) 0) = cp (mainOf n M.L) i p := by
        unfold potF
        rw [if_neg (by omega), hw]
      rw [hpp]
      omega

/-- What the first look tells. -/
theorem look0 {L : List Int} {mode task : Int} {c : Nat} {pr : Int → Bool} (hl : L.length = 8 + 4 * n) (hc : c < 8 + 2 * n) :
    waitA L n mode task 0 c pr = ⟨if pr (mainOf n L c) then 0 else if mode = 2 then 1 else 0, ⟨1, c, 0, 0, mainOf n L c⟩, pr (mainOf n L c), pr (mainOf n L c), L⟩ := by
  have e : doA L ⟨1, (c : Int), 0, 0, 0⟩ = (⟨1, c, 0, 0, mainOf n L c⟩, true, L) := by
    rw [doA_at (by omega)]
    simp [mainOf, hc]
  unfold waitA
  dsimp only
  rw [stage_zero, e]
  simp
theorem look2 {L : List Int} {task : Int} {c : Nat} {pr : Int → Bool} (hl : L.length = 8 + 4 * n) (hc : c < 8 + 2 * n) :
    waitA L n 2 task 2 c pr = ⟨if pr (mainOf n L c) then 4 else 3, ⟨1, c, 0, 0, mainOf n L c⟩, pr (mainOf n L c), false, L⟩ := by
  have e : doA L ⟨1, (c : Int), 0, 0, 0⟩ = (⟨1, c, 0, 0, mainOf n L c⟩, true, L) := by
    rw [doA_at (by omega)]
    simp [mainOf, hc]
  unfold waitA
  dsimp only
  rw [stage_at rfl (by omega) (by omega), e]
  simp
theorem look1 {L : List Int} {c : Nat} {pr : Int → Bool} (h1 : 1 ≤ n) (h2 : n ≤ 64) (hi : i < n) (hl : L.length = 8 + 4 * n) :
    ∃ a, waitA L n 2 i 1 c pr = ⟨2, a, false, false, L.set (8 + 2 * n + i) (((c : Int) + 1) % 4294967296)⟩ := by
  have e2 : (cellP n 2 i).toNat = 8 + 2 * n + i := by rw [cell_row (by omega) (by omega) (by omega) (by omega)]; omega
  have b2 : 0 ≤ cellP n 2 i ∧ cellP n 2 i < L.length := by rw [cell_row (by omega) (by omega) (by omega) (by omega)]; omega
  unfold waitA
  dsimp only
  rw [stage_at rfl (by omega) (by omega), if_pos rfl, doA_at b2, e2]
  exact ⟨_, rfl⟩
theorem look4 {L : List Int} {c : Nat} {pr : Int → Bool} (h1 : 1 ≤ n) (h2 : n ≤ 64) (hi : i < n) (hl : L.length = 8 + 4 * n) :
    (waitA L n 2 i 4 c pr).words = L.set (8 + 2 * n + i) 0 := by
  have e2 : (cellP n 2 i).toNat = 8 + 2 * n + i := by rw [cell_row (by omega) (by omega) (by omega) (by omega)]; omega
  have b2 : 0 ≤ cellP n 2 i ∧ cellP n 2 i < L.length := by rw [cell_row (by omega) (by omega) (by omega) (by omega)]; omega
  unfold waitA
  dsimp only
  rw [stage_at rfl (by omega) (by omega), if_neg (by decide), if_neg (by decide), if_neg (by decide), if_pos rfl, doA_at b2, e2]
  simp
theorem there_is_ {L : List Int} (h1 : 1 ≤ n) (h2 : n ≤ 64) (hi : i < n) (hl : L.length = 8 + 4 * n) : thereA L n i = (L.getD (8 + 3 * n + i) 0 != 0) := by
  have e2 : (cellP n 3 i).toNat = 8 + 3 * n + i := by rw [cell_row (by omega) (by omega) (by omega) (by omega)]; omega
  have b2 : 0 ≤ cellP n 3 i ∧ cellP n 3 i < L.length := by rw [cell_row (by omega) (by omega) (by omega) (by omega)]; omega
  unfold thereA ldA
  rw [if_pos b2, e2]
theorem look3 {L : List Int} {c : Nat} {pr : Int → Bool} (h1 : 1 ≤ n) (h2 : n ≤ 64) (hi : i < n) (hl : L.length = 8 + 4 * n) (hq : L.getD (8 + 3 * n + i) 0 ≠ 0) :
    ∃ a, waitA L n 2 i 3 c pr = ⟨2, a, false, false, L.set (8 + 3 * n + i) 0⟩ := by
  have e2 : (cellP n 3 i).toNat = 8 + 3 * n + i := by rw [cell_row (by omega) (by omega) (by omega) (by omega)]; omega
  have b2 : 0 ≤ cellP n 3 i ∧ cellP n 3 i < L.length := by rw [cell_row (by omega) (by omega) (by omega) (by omega)]; omega
  have ht : takeA L n i = (⟨4, cellP n 3 i, 0, 0, L.getD (8 + 3 * n + i) 0⟩, true, L.set (8 + 3 * n + i) 0) := by
    unfold takeA
    rw [there_is_ h1 h2 hi hl, if_pos (by simpa using hq), doA_at b2, e2]
    simp
  unfold waitA
  dsimp only
  rw [stage_at rfl (by omega) (by omega), if_neg (by decide), if_neg (by decide), if_pos rfl, ht]
  exact ⟨_, rfl⟩

/-- From a place that waits, at first. -/
theorem goes_look (G : K.Good n M.mode) (Kp : K.Keeps n I) (Lv : K.Live n I N V C nw nv cp) (h1 : 1 ≤ n) (hm : M.mode = 1 ∨ M.mode = 2) (H : MI K I n (b + 1) M ps) (hi : i < n)
    (hf : M.fs.getD i Fr.zero = (K.conc p).1) (hh : M.hold.getD i 0 = (K.conc p).2) (hp : ps.getD i (K.idle 0) = p) {c : Nat} {pr : Int → Bool} (hw : K.wait i p = some (c, pr)) : Goes K I n b nw nv cp M ps i (K.conc p).1 (K.conc p).2 := by
  obtain ⟨q1, q2, q3⟩ := G.plain p
  have hop := G.wait_op i p c pr hw
  have hfl := H.fsl
  have hhl := H.hol
  have hpl := H.psl
  have hok := Kp.ok _ ps _ i H.inv hi hpl
  have hsees := Kp.sees _ ps _ i c pr H.inv hi hpl
  rw [hp] at hok hsees
  have hsees := hsees hw
  have hc := G.wait_lt i p c pr hok hi hw
  have hfst : (M.run i (K.conc p).1).f = { (K.conc p).1 with st := 0 } := by
    show (K.conc p).1 = _
    rw [← q1]
  obtain ⟨s1, s2, s3⟩ := G.wait_step p i c pr 0 (M.run i (K.conc p).1) hok hi hw (Int.le_refl _) (by omega) H.num rfl rfl hfst H.len
  rw [show (M.run i (K.conc p).1).L = M.L from rfl, look0 H.len hc] at s1 s2 s3
  simp only at s1 s2 s3
  have hstep : M.goes K.g i (K.conc p).1 (K.conc p).2 = _ := goes_step (by rw [q2]; rfl) (stuck_not (by rw [q1, stage_zero]; decide))
  have hh2 : (K.conc p).2 ≠ 2 := fun e => hop (by rw [G.two p e, G.idle_conc]; rfl)
  have hl0 : leftF n (K.conc p).1 = 0 := left_zero q2
  unfold Goes
  cases hpr : pr (mainOf n M.L c) with
  | true =>
    obtain ⟨s4, s5, s6, s7⟩ := s2 hpr
    obtain ⟨f', h', e1, e2, e3, e4⟩ := after_abs (t := i) (w := none) hm G h1 s4 s5 s6 s7 hh2
    rw [put_if e1] at hstep
    rw [hstep, s1]
    refine ⟨ps.set i (K.post p (mainOf n M.L c)), MI.put H G hi H.len e2 (hsees hpr) (fun c pr _ hs => by omega) (fun j hj _ => rfl) (fun c pr _ hs => by omega) (MI.others H (by rw [hf, q2]; rfl) rfl (fun _ _ _ => rfl) f'), ?_⟩
    obtain ⟨o1, o2, o3, o4⟩ := put_went (K := K) (f' := f') (h' := h') (p' := K.post p (mainOf n M.L c)) (L' := M.L) (M := M) (ps := ps) (i := i) (by omega) (by omega) (by omega)
    refine ⟨⟨rfl, rfl⟩, o1, Or.inr (Or.inr ?_)⟩
    rw [o2, o4, hf, hp]
    obtain ⟨g1, g2⟩ := Lv.post_w i p c pr (mainOf n M.L c) hw
    refine ⟨hl0, left_zero (f := f') e4, rfl, g1, g2, fun j hj hji => rfl, Or.inl ?_⟩
    have h5 := potF_plain Lv (m := mainOf n M.L) (mode := M.mode) (t := i) (f := f') (p := K.post p (mainOf n M.L c)) (q := M.L.getD (8 + 3 * n + i) 0) e3
    have h6 := Lv.wait_yes (mainOf n M.L) i p c pr hw hpr
    have hpp : potF K cp (mainOf n M.L) M.mode i (K.conc p).1 p (M.L.getD (8 + 3 * n + i) 0) = cp (mainOf n M.L) i p := by
      unfold potF
      rw [if_neg (by omega), hw]
      simp [hpr, q1]
    rw [hpp]
    exact Nat.le_trans (Nat.succ_le_succ h5) h6
  | false =>
    have s4 := s3 hpr
    rw [hpr] at s4
    simp only [Bool.false_eq_true, if_false] at s4
    have hnover : (K.g (M.run i (K.conc p).1)).over = false := by
      unfold Rn.over
      rw [s4]
      simp [q3]
    rw [hnover] at hstep
    simp only [Bool.false_eq_true, if_false] at hstep
    rw [hstep, s1, s4]
    rcases hm with hm | hm
    · rw [if_neg (by omega)]
      have e0 : ({ (K.conc p).1 with st := 0 } : Fr) = (K.conc p).1 := hfst.symm
      have e9 : M.put i { (K.conc p).1 with st := 0 } (K.conc p).2 M.L = M := by
        rw [e0, ← hf, ← hh]
        exact put_same (by omega) (by omega)
      rw [e9]
      refine ⟨ps, H.weaken Kp, ⟨rfl, rfl⟩, fun j _ => ⟨rfl, rfl, rfl⟩, Or.inr (Or.inr ?_)⟩
      rw [hf]
      refine ⟨hl0, hl0, rfl, Nat.le_refl _, Nat.le_refl _, fun _ _ _ => rfl, Or.inr (Or.inl ?_)⟩
      have hpp : potF K cp (mainOf n M.L) M.mode i (K.conc p).1 (ps.getD i (K.idle 0)) (M.L.getD (8 + 3 * n + i) 0) = 0 := by
        unfold potF
        rw [hp, if_neg (by omega), hw]
        simp [hpr, hm]
      exact ⟨hpp, hpp⟩
    · rw [if_pos hm]
      refine ⟨ps.set i p, MI.put H G hi H.len (AbsF.staged p c pr 1 hm hok hw (by simp)) (by rw [set_self (by omega) hp]; exact Kp.weak _ _ _ H.inv) (fun c pr _ hs => by simp at hs) (fun j hj _ => rfl) (fun c pr _ hs => by simp at hs) (MI.others H (by rw [hf, q2]; rfl) rfl (fun _ _ _ => rfl) _), ?_⟩
      obtain ⟨o1, o2, o3, o4⟩ := put_went (K := K) (f' := { (K.conc p).1 with st := 1 }) (h' := (K.conc p).2) (p' := p) (L' := M.L) (M := M) (ps := ps) (i := i) (by omega) (by omega) (by omega)
      refine ⟨⟨rfl, rfl⟩, o1, Or.inr (Or.inr ?_)⟩
      rw [o2, o4, hf, hp]
      refine ⟨hl0, left_zero q2, rfl, Nat.le_refl _, Nat.le_refl _, fun _ _ _ => rfl, Or.inl ?_⟩
      show potF K cp (mainOf n M.L) M.mode i { (K.conc p).1 with st := 1 } p (M.L.getD (8 + 3 * n + i) 0) + 1 ≤ _
      unfold potF
      rw [hw]
      simp [hpr, hm, q1]
      omega
end
end Go.Proofs.Ytbcppehpfckgoaa.Z

/- Locks as tasks that wait for cells, and wake each other: steps of a wake-up, of one who sleeps; any step. No lock in sight. -/
set_option linter.unusedVariables false
set_option linter.unusedSimpArgs false
namespace Go.Proofs.Ytbcppehpfckgoaa.Z
open Go.RowKit

section
variable {P : Type} {K : LockM P} {I : Nat → List P → (Nat → Int) → Prop} {n b : Nat} {M : Mt} {ps : List P} {N V C : Nat} {nw nv : P → Nat} {cp : (Nat → Int) → Nat → P → Nat} {i : Nat} {f : Fr} {h : Int} {p : P}

/-- A wake-up's step: what it leaves, where it is then, and whose permit it gives. -/
theorem wake_goes {L : List Int} {k : Wk} (h1 : 1 ≤ n) (h2 : n ≤ 64) (hl : L.length = 8 + 4 * n) (hk : k.on = true) (h0 : 0 ≤ k.i) (hi : k.i < n) (hc : 0 ≤ k.cell) {k' : Wk} {L' : List Int} (e1 : (wakeA L n k).1 = k') (e2 : (wakeA L n k).2.2 = L') :
    (k' = Wk.zero ∨ (k'.on = true ∧ 0 ≤ k'.i ∧ k'.i < n ∧ 0 ≤ k'.cell)) ∧ L'.length = 8 + 4 * n ∧ mainOf n L' = mainOf n L ∧ (∀ j, j < n → L'.getD (8 + 2 * n + j) 0 = L.getD (8 + 2 * n + j) 0) ∧
    (∀ j, j < n → L.getD (8 + 3 * n + j) 0 ≠ 0 → L'.getD (8 + 3 * n + j) 0 ≠ 0) ∧ (∀ f : Fr, leftF n { f with wk := k' } + 1 ≤ leftF n { f with wk := k }) ∧
    (∀ j, j < n → k.i ≤ j → L.getD (8 + 2 * n + j) 0 = (k.cell + 1) % 4294967296 → L'.getD (8 + 3 * n + j) 0 ≠ 0 ∨ (k'.on = true ∧ k'.cell = k.cell ∧ k'.i ≤ j)) := by
  rw [wake_is h1 h2 hl hk h0 hi] at e1 e2
  have hnx : nextA n k = Wk.zero ∨ ((nextA n k).on = true ∧ 0 ≤ (nextA n k).i ∧ (nextA n k).i < n ∧ 0 ≤ (nextA n k).cell) := by
    unfold nextA
    split
    · exact Or.inl rfl
    · exact Or.inr ⟨hk, by simp; omega, by simp; omega, hc⟩
  have hpass : ∀ j : Nat, j < n → k.i < j → (nextA n k).on = true ∧ (nextA n k).cell = k.cell ∧ (nextA n k).i ≤ j := by
    intro j hj hlt
    unfold nextA
    rw [if_neg (by omega)]
    exact ⟨hk, rfl, by simp; omega⟩
  by_cases hh : k.hit = true
  · rw [if_pos hh] at e1 e2
    simp only at e1 e2
    subst e1 e2
    refine ⟨hnx, by simpa using hl, main_far (by omega), fun j hj => getDset_ne (by omega), fun j hj hne => ?_, fun f => left_next hk h0 hi, fun j hj hle hwt => ?_⟩
    · rw [getDset]; split; decide; exact hne
    · by_cases e : k.i.toNat = j
      · left; rw [getDset, if_pos (by omega)]; decide
      · right; exact hpass j hj (by omega)
  · rw [if_neg hh] at e1 e2
    simp only at e1 e2
    subst e2
    by_cases hm : L.getD (8 + 2 * n + k.i.toNat) 0 = (k.cell + 1) % 4294967296
    · rw [if_pos hm] at e1
      subst e1
      refine ⟨Or.inr ⟨rfl, h0, hi, hc⟩, hl, rfl, fun _ _ => rfl, fun _ _ h => h, fun f => ?_, fun j hj hle hwt => Or.inr ⟨rfl, rfl, hle⟩⟩
      unfold leftF
      simp [hk, hh]
      omega
    · rw [if_neg hm] at e1
      subst e1
      refine ⟨hnx, hl, rfl, fun _ _ => rfl, fun _ _ h => h, fun f => left_next hk h0 hi, fun j hj hle hwt => ?_⟩
      by_cases e : k.i.toNat = j
      · subst e; exact absurd hwt hm
      · right; exact hpass j hj (by omega)

theorem left_pos {k : Wk} {f : Fr} (hk : k.on = true) (h0 : 0 ≤ k.i) (hi : k.i < n) (e : f.wk = k) : 0 < leftF n f := by
  unfold leftF
  rw [e, if_pos hk]
  split <;> omega

/-- A step of a wake-up, whosever. -/
theorem goes_waking (G : K.Good n M.mode) (Kp : K.Keeps n I) (h1 : 1 ≤ n) (h2 : n ≤ 64) (H : MI K I n (b + 1) M ps) (hi : i < n) (hm : M.mode = 2)
    (hf : M.fs.getD i Fr.zero = f) (hh : M.hold.getD i 0 = h) (hp : ps.getD i (K.idle 0) = p) (hk : f.wk.on = true) (h0 : 0 ≤ f.wk.i) (hlt : f.wk.i < n) (hc : 0 ≤ f.wk.cell) (hst : f.st = 0)
    (hend : f.ret ≠ 0 → AbsF K n M.mode i Fr.zero (behindA f.op f.ret h) p) (hmore : ∀ k' : Wk, (f.ret = 0 ∧ k' = Wk.zero) ∨ (k'.on = true ∧ 0 ≤ k'.i ∧ k'.i < n ∧ 0 ≤ k'.cell) → AbsF K n M.mode i { f with wk := k' } h p) :
    Goes K I n b nw nv cp M ps i f h := by
  have hfl := H.fsl
  have hhl := H.hol
  have hpl := H.psl
  have hnum := H.num
  obtain ⟨k', e1⟩ : ∃ k', (wakeA M.L n f.wk).1 = k' := ⟨_, rfl⟩
  obtain ⟨L', e2⟩ : ∃ L', (wakeA M.L n f.wk).2.2 = L' := ⟨_, rfl⟩
  obtain ⟨c1, c2, c3, c4, c5, c6, c7⟩ := wake_goes h1 h2 H.len hk h0 hlt hc e1 e2
  have hstep := goes_wake (g := K.g) (M := M) (i := i) (f := f) (h := h) hk
  rw [hnum, e1, e2] at hstep
  have hps : ps.set i p = ps := set_self (by omega) hp
  have main : ∀ f' h', AbsF K n M.mode i f' h' p → f'.st = 0 → f'.wk = k' → MI K I n b (M.put i f' h' L') ps ∧ Went K n nw nv cp M ps i (M.put i f' h' L') ps := by
    intro f' h' ha hs hw'
    constructor
    · rw [← hps]
      refine MI.put H G hi c2 ha (by rw [hps, c3]; exact Kp.weak _ _ _ H.inv) (fun c pr _ h => by omega) (fun j hj _ => c4 j hj) (fun c pr _ h => by omega) (fun j c pr hj hji hwt hs3 hpr => ?_)
      rw [c3] at hpr
      rcases H.woken j c pr hj hwt hs3 hpr with h3 | ⟨u, h3, h4, h5, h6⟩
      · exact Or.inl (c5 j hj h3)
      · by_cases e : u = i
        · subst e
          rw [hf] at h4 h5 h6
          have hwj := H.watch j c pr hj hwt (Or.inr hs3)
          rw [hw']
          rcases c7 j hj h6 (by rw [h5]; exact hwj) with h7 | ⟨h7, h8, h9⟩
          · exact Or.inl h7
          · exact Or.inr (Or.inl ⟨h7, by rw [h8, h5], h9⟩)
        · exact Or.inr (Or.inr ⟨u, h3, e, h4, h5, h6⟩)
    · obtain ⟨o1, o2, o3, o4⟩ := put_went (K := K) (f' := f') (h' := h') (p' := p) (L' := L') (M := M) (ps := ps) (i := i) (by omega) (by omega) (by omega)
      refine ⟨⟨rfl, rfl⟩, fun j hj => ⟨(o1 j hj).1, (o1 j hj).2.1, rfl⟩, Or.inl ?_⟩
      rw [o2, hf]
      refine ⟨left_pos hk h0 hlt rfl, ?_, rfl, c3⟩
      have := c6 f
      have e3 : leftF n f' = leftF n { f with wk := k' } := by unfold leftF; rw [hw']
      rw [e3]
      exact this
  unfold Goes
  rw [hstep]
  by_cases hb : f.ret ≠ 0 ∧ k'.on = false
  · rw [if_pos hb]
    have hz : k' = Wk.zero := by
      rcases c1 with h3 | h3
      · exact h3
      · rw [hb.2] at h3; cases h3.1
    exact ⟨ps, main _ _ (hend hb.1) rfl hz.symm⟩
  · rw [if_neg hb]
    refine ⟨ps, main _ _ (hmore k' ?_) hst rfl⟩
    rcases c1 with h3 | h3
    · left
      refine ⟨?_, h3⟩
      rcases Decidable.em (f.ret = 0) with h4 | h4
      · exact h4
      · exact absurd ⟨h4, by rw [h3]; rfl⟩ hb
    · exact Or.inr h3

/-- Of one who waits and is parked. -/
theorem goes_staged (G : K.Good n M.mode) (Kp : K.Keeps n I) (Lv : K.Live n I N V C nw nv cp) (h1 : 1 ≤ n) (h2 : n ≤ 64) (H : MI K I n (b + 1) M ps) (hi : i < n) {c : Nat} {pr : Int → Bool} {st : Int} (hm : M.mode = 2) (hok : K.ok p) (hw : K.wait i p = some (c, pr)) (hst : st = 1 ∨ st = 2 ∨ st = 3)
    (hf : M.fs.getD i Fr.zero = { (K.conc p).1 with st := st }) (hh : M.hold.getD i 0 = (K.conc p).2) (hp : ps.getD i (K.idle 0) = p) : Goes K I n b nw nv cp M ps i { (K.conc p).1 with st := st } (K.conc p).2 := by
  obtain ⟨q1, q2, q3⟩ := G.plain p
  have hop := G.wait_op i p c pr hw
  have hfl := H.fsl
  have hhl := H.hol
  have hpl := H.psl
  have hsees := Kp.sees _ ps _ i c pr H.inv hi hpl
  rw [hp] at hsees
  have hsees := hsees hw
  have hc := G.wait_lt i p c pr hok hi hw
  obtain ⟨s1, s2, s3⟩ := G.wait_step p i c pr st (M.run i { (K.conc p).1 with st := st }) hok hi hw (by omega) (by omega) H.num rfl rfl rfl H.len
  rw [show (M.run i { (K.conc p).1 with st := st }).L = M.L from rfl] at s1 s2 s3
  have hl0 : ∀ s : Int, leftF n { (K.conc p).1 with st := s } = 0 := fun s => left_zero q2
  have hps : ps.set i p = ps := set_self (by omega) hp
  have hoff : (M.fs.getD i Fr.zero).wk.on = false := by rw [hf]; show (K.conc p).1.wk.on = false; rw [q2]; rfl
  have hinv : I b (ps.set i p) (mainOf n M.L) := by rw [hps]; exact Kp.weak _ _ _ H.inv
  have hno : ∀ s' : Rn, s'.f.ret = 0 → s'.over = false := fun s' e => by unfold Rn.over; rw [e]; rfl
  unfold Goes
  rw [hm] at s1 s2 s3
  rcases hst with rfl | rfl | rfl
  · -- announce
    obtain ⟨a, ha⟩ := look1 (c := c) (pr := pr) h1 h2 hi H.len
    rw [ha] at s1 s3
    have s4 := s3 rfl
    simp only [Bool.false_eq_true, if_false] at s1 s4
    have hstep : M.goes K.g i { (K.conc p).1 with st := 1 } (K.conc p).2 = _ := goes_step (by show (K.conc p).1.wk.on = false; rw [q2]; rfl) (stuck_not (by show stageA M.mode 1 ≠ 3; rw [stage_at hm (by omega) (by omega)]; decide))
    rw [hno _ (by rw [s4]; exact q3)] at hstep
    simp only [Bool.false_eq_true, if_false] at hstep
    rw [hstep, s1, s4]
    have hmf : mainOf n (M.L.set (8 + 2 * n + i) (((c : Int) + 1) % 4294967296)) = mainOf n M.L := main_far (by omega)
    refine ⟨ps.set i p, MI.put H G hi (by simpa using H.len) (AbsF.staged p c pr 2 hm hok hw (by simp)) (by rw [hmf]; exact hinv) (fun c2 pr2 hw2 _ => ?_) (fun j hj hji => getDset_ne (by omega)) (fun c pr _ hs => by simp at hs) (MI.others H hoff hmf (fun j hj hji => getDset_ne (by omega)) _), ?_⟩
    · rw [hw] at hw2
      obtain ⟨rfl, rfl⟩ := Prod.mk.inj (Option.some.inj hw2)
      have := H.len
      rw [getDset, if_pos ⟨rfl, by omega⟩]
    · obtain ⟨o1, o2, o3, o4⟩ := put_went (K := K) (f' := { (K.conc p).1 with st := 2 }) (h' := (K.conc p).2) (p' := p) (L' := M.L.set (8 + 2 * n + i) (((c : Int) + 1) % 4294967296)) (M := M) (ps := ps) (i := i) (by omega) (by omega) (by omega)
      refine ⟨⟨rfl, rfl⟩, o1, Or.inr (Or.inr ?_)⟩
      rw [o2, o4, hf, hp]
      refine ⟨hl0 1, hl0 2, hmf, Nat.le_refl _, Nat.le_refl _, fun j hj hji => getDset_ne (by omega), Or.inl ?_⟩
      show potF K cp (mainOf n M.L) M.mode i { (K.conc p).1 with st := 2 } p ((M.L.set (8 + 2 * n + i) (((c : Int) + 1) % 4294967296)).getD (8 + 3 * n + i) 0) + 1 ≤ _
      rw [getDset_ne (by omega)]
      unfold potF
      rw [hw]
      cases hpr : pr (mainOf n M.L c) <;> simp [hpr, hm] <;> omega
  · -- look again
    rw [look2 H.len hc] at s1 s3
    simp only at s1 s3
    have s4 := s3 trivial
    have hstep : M.goes K.g i { (K.conc p).1 with st := 2 } (K.conc p).2 = _ := goes_step (by show (K.conc p).1.wk.on = false; rw [q2]; rfl) (stuck_not (by show stageA M.mode 2 ≠ 3; rw [stage_at hm (by omega) (by omega)]; decide))
    cases hpr : pr (mainOf n M.L c) with
    | true =>
      rw [hpr] at s4
      simp only [if_true] at s4
      rw [hno _ (by rw [s4]; exact q3)] at hstep
      simp only [Bool.false_eq_true, if_false] at hstep
      rw [hstep, s1, s4]
      refine ⟨ps.set i (K.post p (mainOf n M.L c)), MI.put H G hi H.len (AbsF.seen p c pr (mainOf n M.L c) hm hok hw hpr) (hsees hpr) (fun c pr _ hs => by simp at hs) (fun j hj _ => rfl) (fun c pr _ hs => by simp at hs) (MI.others H hoff rfl (fun _ _ _ => rfl) _), ?_⟩
      obtain ⟨o1, o2, o3, o4⟩ := put_went (K := K) (f' := { (K.conc p).1 with a := K.keep p (mainOf n M.L c), st := 4 }) (h' := (K.conc p).2) (p' := K.post p (mainOf n M.L c)) (L' := M.L) (M := M) (ps := ps) (i := i) (by omega) (by omega) (by omega)
      refine ⟨⟨rfl, rfl⟩, o1, Or.inr (Or.inr ?_)⟩
      rw [o2, o4, hf, hp]
      obtain ⟨g1, g2⟩ := Lv.post_w i p c pr (mainOf n M.L c) hw
      refine ⟨hl0 2, left_zero q2, rfl, g1, g2, fun _ _ _ => rfl, Or.inl ?_⟩
      have h6 := Lv.wait_yes (mainOf n M.L) i p c pr hw hpr
      unfold potF
      rw [hw]
      simp only [if_true, hpr]
      simp
      omega
    | false =>
      rw [hpr] at s4
      simp only [Bool.false_eq_true, if_false] at s4
      rw [hno _ (by rw [s4]; exact q3)] at hstep
      simp only [Bool.false_eq_true, if_false] at hstep
      rw [hstep, s1, s4]
      refine ⟨ps.set i p, MI.put H G hi H.len (AbsF.staged p c pr 3 hm hok hw (by simp)) hinv (fun c2 pr2 hw2 _ => ?_) (fun j hj _ => rfl) (fun c2 pr2 hw2 _ => ?_) (MI.others H hoff rfl (fun _ _ _ => rfl) _), ?_⟩
      · rw [← hp] at hw2
        exact H.watch i c2 pr2 hi hw2 (by rw [hf]; simp)
      · rw [hw] at hw2
        obtain ⟨rfl, rfl⟩ := Prod.mk.inj (Option.some.inj hw2)
        exact hpr
      · obtain ⟨o1, o2, o3, o4⟩ := put_went (K := K) (f' := { (K.conc p).1 with st := 3 }) (h' := (K.conc p).2) (p' := p) (L' := M.L) (M := M) (ps := ps) (i := i) (by omega) (by omega) (by omega)
        refine ⟨⟨rfl, rfl⟩, o1, Or.inr (Or.inr ?_)⟩
        rw [o2, o4, hf, hp]
        refine ⟨hl0 2, hl0 3, rfl, Nat.le_refl _, Nat.le_refl _, fun _ _ _ => rfl, Or.inl ?_⟩
        show potF K cp (mainOf n M.L) M.mode i { (K.conc p).1 with st := 3 } p (M.L.getD (8 + 3 * n + i) 0) + 1 ≤ _
        unfold potF
        rw [hw]
        simp [hpr, hm]
        omega
  · -- sleep
    by_cases hq : M.L.getD (8 + 3 * n + i) 0 = 0
    · have hstep : M.goes K.g i { (K.conc p).1 with st := 3 } (K.conc p).2 = _ := goes_stuck (by show (K.conc p).1.wk.on = false; rw [q2]; rfl) (by
        show stuckA M.L M.n M.mode i 3 = true
        unfold stuckA
        rw [stage_at hm (by omega) (by omega), H.num, there_is_ h1 h2 hi H.len, hq]
        rfl)
      have hsame : M.put i { (K.conc p).1 with st := 3 } (K.conc p).2 M.L = M := by
        rw [← hf, ← hh]
        exact put_same (by omega) (by omega)
      rw [hstep, hsame]
      refine ⟨ps, H.weaken Kp, ⟨rfl, rfl⟩, fun j _ => ⟨rfl, rfl, rfl⟩, Or.inr (Or.inr ?_)⟩
      rw [hf]
      refine ⟨hl0 3, hl0 3, rfl, Nat.le_refl _, Nat.le_refl _, fun _ _ _ => rfl, Or.inr ?_⟩
      cases hpr : pr (mainOf n M.L c) with
      | false =>
        left
        have hpp : potF K cp (mainOf n M.L) M.mode i { (K.conc p).1 with st := 3 } (ps.getD i (K.idle 0)) (M.L.getD (8 + 3 * n + i) 0) = 0 := by
          unfold potF
          rw [hp, hw, hq]
          simp [hpr, hm]
        exact ⟨hpp, hpp⟩
      | true =>
        right
        rcases H.woken i c pr hi (by rw [hp]; exact hw) (by rw [hf]) hpr with h3 | ⟨u, h3, h4, h5⟩
        · exact absurd hq h3
        · exact ⟨u, h3, h4⟩
    · obtain ⟨a, ha⟩ := look3 (c := c) (pr := pr) h1 h2 hi H.len hq
      rw [ha] at s1 s3
      have s4 := s3 rfl
      simp only [Bool.false_eq_true, if_false] at s1 s4
      have hstep : M.goes K.g i { (K.conc p).1 with st := 3 } (K.conc p).2 = _ := goes_step (by show (K.conc p).1.wk.on = false; rw [q2]; rfl) (by
        show stuckA M.L M.n M.mode i 3 = false
        unfold stuckA
        rw [H.num, there_is_ h1 h2 hi H.len]
        have : (M.L.getD (8 + 3 * n + i) 0 != 0) = true := by simpa using hq
        rw [this]
        simp)
      rw [hno _ (by rw [s4]; exact q3)] at hstep
      simp only [Bool.false_eq_true, if_false] at hstep
      rw [hstep, s1, s4]
      have hmf : mainOf n (M.L.set (8 + 3 * n + i) 0) = mainOf n M.L := main_far (by omega)
      have hlen := H.len
      refine ⟨ps.set i p, MI.put H G hi (by simpa using H.len) (AbsF.staged p c pr 2 hm hok hw (by simp)) (by rw [hmf]; exact hinv) (fun c2 pr2 hw2 _ => ?_) (fun j hj hji => getDset_ne (by omega)) (fun c pr _ hs => by simp at hs) (MI.others H hoff hmf (fun j hj hji => getDset_ne (by omega)) _), ?_⟩
      · rw [← hp] at hw2
        rw [getDset_ne (by omega)]
        exact H.watch i c2 pr2 hi hw2 (by rw [hf]; simp)
      · obtain ⟨o1, o2, o3, o4⟩ := put_went (K := K) (f' := { (K.conc p).1 with st := 2 }) (h' := (K.conc p).2) (p' := p) (L' := M.L.set (8 + 3 * n + i) 0) (M := M) (ps := ps) (i := i) (by omega) (by omega) (by omega)
        refine ⟨⟨rfl, rfl⟩, o1, Or.inr (Or.inr ?_)⟩
        rw [o2, o4, hf, hp]
        refine ⟨hl0 3, hl0 2, hmf, Nat.le_refl _, Nat.le_refl _, fun j hj hji => getDset_ne (by omega), Or.inl ?_⟩
        show potF K cp (mainOf n M.L) M.mode i { (K.conc p).1 with st := 2 } p ((M.L.set (8 + 3 * n + i) 0).getD (8 + 3 * n + i) 0) + 1 ≤ _
        rw [getDset, if_pos ⟨rfl, by omega⟩]
        unfold potF
        rw [hw]
        cases hpr : pr (mainOf n M.L c) with
        | true => simp [hpr, hm]; omega
        | false =>
          have hq2 : ¬ M.L[8 + 3 * n + i]?.getD 0 = 0 := by rw [← List.getD_eq_getElem?_getD]; exact hq
          simp [hpr, hm, hq2]

/-- Of one who has seen it, and forgets. -/
theorem goes_seen (G : K.Good n M.mode) (Kp : K.Keeps n I) (Lv : K.Live n I N V C nw nv cp) (h1 : 1 ≤ n) (h2 : n ≤ 64) (H : MI K I n (b + 1) M ps) (hi : i < n) {q : P} {c : Nat} {pr : Int → Bool} {v : Int} (hm : M.mode = 2) (hok : K.ok q) (hw : K.wait i q = some (c, pr)) (hpr : pr v = true)
    (hf : M.fs.getD i Fr.zero = { (K.conc q).1 with a := K.keep q v, st := 4 }) (hh : M.hold.getD i 0 = (K.conc q).2) (hp : ps.getD i (K.idle 0) = K.post q v) : Goes K I n b nw nv cp M ps i { (K.conc q).1 with a := K.keep q v, st := 4 } (K.conc q).2 := by
  obtain ⟨q1, q2, q3⟩ := G.plain q
  have hop := G.wait_op i q c pr hw
  have hfl := H.fsl
  have hhl := H.hol
  have hpl := H.psl
  have hh2 : (K.conc q).2 ≠ 2 := fun e => hop (by rw [G.two q e, G.idle_conc]; rfl)
  obtain ⟨s1, s2, s3, s4, s5⟩ := G.wait_last q i c pr v (M.run i { (K.conc q).1 with a := K.keep q v, st := 4 }) hok hi hm hw hpr H.num rfl rfl rfl H.len
  rw [show (M.run i { (K.conc q).1 with a := K.keep q v, st := 4 }).L = M.L from rfl, hm, look4 h1 h2 hi H.len] at s1
  have hoff : (M.fs.getD i Fr.zero).wk.on = false := by rw [hf]; show (K.conc q).1.wk.on = false; rw [q2]; rfl
  have hstep : M.goes K.g i { (K.conc q).1 with a := K.keep q v, st := 4 } (K.conc q).2 = _ := goes_step (by show (K.conc q).1.wk.on = false; rw [q2]; rfl) (stuck_not (by show stageA M.mode 4 ≠ 3; rw [stage_at hm (by omega) (by omega)]; decide))
  obtain ⟨f', h', e1, e2, e3, e4⟩ := after_abs (t := i) (w := none) (Or.inr hm) G h1 s2 s3 s4 s5 hh2
  rw [put_if e1] at hstep
  unfold Goes
  rw [hstep, s1]
  have hmf : mainOf n (M.L.set (8 + 2 * n + i) 0) = mainOf n M.L := main_far (by omega)
  have hps : ps.set i (K.post q v) = ps := set_self (by omega) hp
  refine ⟨ps.set i (K.post q v), MI.put H G hi (by simpa using H.len) e2 (by rw [hmf, hps]; exact Kp.weak _ _ _ H.inv) (fun c pr _ hs => by omega) (fun j hj hji => getDset_ne (by omega)) (fun c pr _ hs => by omega) (MI.others H hoff hmf (fun j hj hji => getDset_ne (by omega)) f'), ?_⟩
  obtain ⟨o1, o2, o3, o4⟩ := put_went (K := K) (f' := f') (h' := h') (p' := K.post q v) (L' := M.L.set (8 + 2 * n + i) 0) (M := M) (ps := ps) (i := i) (by omega) (by omega) (by omega)
  refine ⟨⟨rfl, rfl⟩, o1, Or.inr (Or.inr ?_)⟩
  rw [o2, o4, hf, hp]
  refine ⟨left_zero q2, left_zero e4, hmf, Nat.le_refl _, Nat.le_refl _, fun j hj hji => getDset_ne (by omega), Or.inl ?_⟩
  have h5 := potF_plain Lv (m := mainOf n M.L) (mode := M.mode) (t := i) (f := f') (p := K.post q v) (q := (M.L.set (8 + 2 * n + i) 0).getD (8 + 3 * n + i) 0) e3
  have h6 : potF K cp (mainOf n M.L) M.mode i { (K.conc q).1 with a := K.keep q v, st := 4 } (K.post q v) (M.L.getD (8 + 3 * n + i) 0) = 1 + cp (mainOf n M.L) i (K.post q v) := by
    unfold potF
    rw [if_pos rfl]
  rw [h6]
  exact Nat.le_trans (Nat.succ_le_succ h5) (by omega)

/-- ANY STEP of a task that is with an operation. -/
theorem goes_any (G : K.Good n M.mode) (Kp : K.Keeps n I) (Lv : K.Live n I N V C nw nv cp) (h1 : 1 ≤ n) (h2 : n ≤ 64) (hm : M.mode = 1 ∨ M.mode = 2) (H : MI K I n (b + 1) M ps) (hi : i < n) (hop : (M.fs.getD i Fr.zero).op ≠ 0) :
    Goes K I n b nw nv cp M ps i (M.fs.getD i Fr.zero) (M.hold.getD i 0) := by
  have ha := H.abs i hi
  obtain ⟨f, hf⟩ : ∃ f, M.fs.getD i Fr.zero = f := ⟨_, rfl⟩
  obtain ⟨h, hh⟩ : ∃ h, M.hold.getD i 0 = h := ⟨_, rfl⟩
  obtain ⟨p, hp⟩ : ∃ p, ps.getD i (K.idle 0) = p := ⟨_, rfl⟩
  rw [hf] at hop
  rw [hf, hh]
  rw [hf, hh, hp] at ha
  cases ha with
  | plain =>
    cases hw : K.wait i p with
    | none => exact goes_act G Kp Lv h1 hm H hi hf hh hp hop hw
    | some x => obtain ⟨c, pr⟩ := x; exact goes_look G Kp Lv h1 hm H hi hf hh hp hw
  | waking _ k hm2 hk h0 hlt hc hop2 =>
    obtain ⟨q1, q2, q3⟩ := G.plain p
    refine goes_waking G Kp h1 h2 H hi hm2 hf hh hp hk h0 hlt hc q1 (fun hr => absurd q3 hr) (fun k' hk' => ?_)
    rcases hk' with ⟨_, rfl⟩ | ⟨g1, g2, g3, g4⟩
    · have e : ({ { (K.conc p).1 with wk := k } with wk := Wk.zero } : Fr) = (K.conc p).1 := by
        show ({ (K.conc p).1 with wk := Wk.zero } : Fr) = _
        rw [← q2]
      rw [e]
      exact AbsF.plain p
    · exact AbsF.waking p k' hm2 g1 g2 g3 g4 hop2
  | staged _ c pr st hm2 hok hw hst => exact goes_staged G Kp Lv h1 h2 H hi hm2 hok hw hst hf hh hp
  | seen q c pr v hm2 hok hw hpr => exact goes_seen G Kp Lv h1 h2 H hi hm2 hok hw hpr hf hh hp
  | over _ _ hm2 hk h0 hlt hc hop2 hr hst hh2 =>
    refine goes_waking G Kp h1 h2 H hi hm2 hf hh hp hk h0 hlt hc hst (fun _ => ?_) (fun k' hk' => ?_)
    · have := AbsF.plain (K := K) (n := n) (mode := M.mode) (t := i) (K.idle (behindA f.op f.ret h))
      rw [G.idle_conc] at this
      exact this
    · rcases hk' with ⟨h3, _⟩ | ⟨g1, g2, g3, g4⟩
      · exact absurd h3 hr
      · exact AbsF.over { f with wk := k' } h hm2 g1 g2 g3 g4 hop2 hr hst hh2
end
end Go.Proofs.Ytbcppehpfckgoaa.Z
