/- 6 texts of this claim, joined: what each shows stands at its own head. -/
import Derived.Test.YtmbbcgkfankiaaaZRead
import Derived.ProofKit
import Derived.OpenShut
import Derived.ChangeOld
import Derived.SizedLaws
import Derived.Deep.Slices
import Derived.Test.YtmbbcgkfankiaaaZOwn
import Derived.Test.YtmbbcgkfankiaaaZMat2
import Derived.Test.YtmbbcgkfankiaaaZM01PfExcludes
import Derived.Test.YtmbbcgkfankiaaaZAlone
/- Arguments opened: whole numbers, structs of whole numbers, slices of these. No statement is in sight. -/
set_option linter.unusedVariables false
set_option linter.unusedSimpArgs false
namespace Go.Proofs.Ytmbbcgkfankiaaa.Z
open Go.RowKit Go.ChangeShapes Go.WideShapes Go.ChangeAt Go.Deep

/-- Whatever reads as a value of type t has cells of this form. -/
def Flat (P : Program) (t : TypeId) (ok : List Value → Prop) : Prop :=
  ∀ (H : Type) (enc : TypeId × Value → H) (w : World) (base : Nat) (spare : Nat → Bool) (held : Bool) (fuel : Nat) (cs : List Value) (x : DataW H × List MemPlace),
    DataW.trod enc P w base spare held fuel t cs = some x → ok cs

theorem flat_int {P : Program} {t : TypeId} {k : IntKind} (ht : P.underlying t = some (.int k)) : Flat P t (fun cs => ∃ n, cs = [.int k n] ∧ (Lit.int k n).wf = true) := by
  intro H enc w base spare held fuel cs x h
  obtain ⟨n, h1, _, h2⟩ := DataW.trod_int ht h
  exact ⟨n, h1, h2⟩

theorem flat_bool {P : Program} {t : TypeId} (ht : P.underlying t = some .bool) : Flat P t (fun cs => ∃ b, cs = [.bool b]) := by
  intro H enc w base spare held fuel cs x h
  obtain ⟨n, h1, _⟩ := DataW.trod_bool ht h
  exact ⟨n, h1⟩

theorem flat_mono {P : Program} {t : TypeId} {ok ok' : List Value → Prop} (h : Flat P t ok) (hm : ∀ cs, ok cs → ok' cs) : Flat P t ok' :=
  fun H enc w base spare held fuel cs x hx => hm _ (h H enc w base spare held fuel cs x hx)

/-- A struct: each field's cells are of that field's form. -/
theorem flat_struct {P : Program} {t : TypeId} {fs : Array Field} (ht : P.underlying t = some (.struct fs)) :
    Flat P t (fun cs => cs.length = P.cellsOf t ∧ ∀ (i : Nat) (f : Field) (ok : List Value → Prop), fs[i]? = some f → Flat P f.type ok → ok ((cs.drop f.offset).take (P.cellsOf f.type))) := by
  intro H enc w base spare held fuel cs x h
  obtain ⟨xs, n, _, _, hl, hxl, hf⟩ := DataW.trod_struct ht h
  refine ⟨hl, fun i f ok hi hok => ?_⟩
  have hil : i < fs.size := (Array.getElem?_eq_some_iff.1 hi).1
  have := hf i f hi
  rw [List.getElem?_eq_getElem (by omega)] at this
  exact hok H enc w base spare held n _ _ this

theorem wf_u32 {n : Int} (h : (Lit.int .u32 n).wf = true) : 0 ≤ n ∧ n < 4294967296 := by
  simp [Lit.wf, IntKind.min, IntKind.max, IntKind.signed, IntKind.bits] at h; omega
theorem wf_u8 {n : Int} (h : (Lit.int .u8 n).wf = true) : 0 ≤ n ∧ n < 256 := by
  simp [Lit.wf, IntKind.min, IntKind.max, IntKind.signed, IntKind.bits] at h; omega
theorem wf_i64 {n : Int} (h : (Lit.int .i64 n).wf = true) : -9223372036854775808 ≤ n ∧ n ≤ 9223372036854775807 := by
  simp [Lit.wf, IntKind.min, IntKind.max, IntKind.signed, IntKind.bits] at h; omega
theorem wf_i32 {n : Int} (h : (Lit.int .i32 n).wf = true) : -2147483648 ≤ n ∧ n < 2147483648 := by
  simp [Lit.wf, IntKind.min, IntKind.max, IntKind.signed, IntKind.bits] at h; omega

theorem flatMap_at {α : Type} {dec : α → List Value} {size : Nat} (hs : 0 < size) (hlen : ∀ a, (dec a).length = size) : ∀ (l : List α) (i j : Nat) (h : i < l.length), j < size → (l.flatMap dec)[i * size + j]? = (dec l[i])[j]? := by
  intro l
  induction l with
  | nil => intro i j h; simp at h
  | cons a l ih =>
    intro i j h hj
    rw [List.flatMap_cons]
    cases i with
    | zero =>
      rw [List.getElem?_append_left (by rw [hlen]; omega)]
      simp
    | succ i =>
      rw [List.getElem?_append_right (by rw [hlen, Nat.succ_mul]; omega), hlen, show (i + 1) * size + j - size = i * size + j by rw [Nat.succ_mul]; omega, ih i j (by simpa using h) hj]
      rfl

theorem flatMap_length {α : Type} {dec : α → List Value} {size : Nat} (hlen : ∀ a, (dec a).length = size) (l : List α) : (l.flatMap dec).length = l.length * size := by
  induction l with
  | nil => simp
  | cons a l ih => rw [List.flatMap_cons, List.length_append, ih, hlen, List.length_cons, Nat.succ_mul]; omega

/-- A slice of flat elements, as a list. -/
theorem open_list {P : Program} {H : Type} {enc : TypeId × Value → H} {w : World} {t e : TypeId} {α : Type} {dec : α → List Value} {ok : α → Prop} {size : Nat} {A : Option Addr} {n c : Nat} {d : DataW H} {p : List MemPlace}
    (ht : P.underlying t = some (.slice e)) (hF : Flat P e (fun cs => ∃ a, ok a ∧ cs = dec a)) (hC : P.cellsOf e = size) (hs : 0 < size) (hlen : ∀ a, (dec a).length = size)
    (h : DataW.Trod enc P w 0 (fun _ => true) true t (.slice A n c) d p) (lt : ∀ x ∈ p, x.block < w.heap.size) :
    ∃ l : List α, l.length = n ∧ (∀ a, a ∈ l → ok a) ∧ Rd w size A n (l.flatMap dec) ∧ n ≤ c ∧ c ≤ 9223372036854775807 := by
  obtain ⟨fuel, hf⟩ := h
  rcases open_slice ht hf with ⟨hcs, _⟩ | ⟨a, len, cap, m, n', D, Pl, hcs, hb, hl, hm, hmm, hx, hi⟩
  · simp [Value.cells] at hcs
    obtain ⟨rfl, rfl, rfl⟩ := hcs
    exact ⟨[], rfl, by simp, Rd.nil _ _ _, Nat.le_refl _, by decide⟩
  · simp [Value.cells] at hcs
    obtain ⟨rfl, rfl, rfl⟩ := hcs
    simp at hmm
    subst hmm
    have hE : ∀ i, i < n → ∃ y : α, ok y ∧ ∀ j, j < size → w.cell? (a.add (i * size + j)) = (dec y)[j]? := by
      intro i hin
      obtain ⟨cs', hc, htr⟩ := hi i (by omega)
      obtain ⟨y, hy, rfl⟩ := hF H enc w 0 _ true n' cs' _ htr
      rw [hC] at hc
      obtain ⟨_, hcl, hat⟩ := World.cells?_some hc
      exact ⟨y, hy, fun j hj => by rw [← Go.Deep.add_add]; exact hat j hj⟩
    have hL : ∀ n0, n0 ≤ n → ∃ l : List α, l.length = n0 ∧ ∀ i (h : i < l.length), ok l[i] ∧ ∀ j, j < size → w.cell? (a.add (i * size + j)) = (dec l[i])[j]? := by
      intro n0
      induction n0 with
      | zero => intro _; exact ⟨[], rfl, fun i h => by simp at h⟩
      | succ k ih =>
        intro hk
        obtain ⟨l, hl, hlp⟩ := ih (by omega)
        obtain ⟨y, hy, hyc⟩ := hE k (by omega)
        refine ⟨l ++ [y], by simp [hl], fun i h => ?_⟩
        by_cases hik : i < l.length
        · rw [List.getElem_append_left hik]; exact hlp i hik
        · have : i = k := by simp at h; omega
          subst this
          rw [List.getElem_append_right (by omega)]
          simp [hl]
          exact ⟨hy, hyc⟩
    obtain ⟨l, hll, hlp⟩ := hL n (Nat.le_refl _)
    refine ⟨l, hll, fun y hy => ?_, ⟨by rw [flatMap_length hlen, hll], fun h0 => ⟨a, rfl, ?_, fun j u hu => ?_⟩⟩, hl, hm⟩
    · obtain ⟨i, hi, rfl⟩ := List.getElem_of_mem hy
      exact (hlp i hi).1
    · have := (hlp 0 (by omega)).2 0 hs
      have h1 : (dec l[0])[0]? = some ((dec l[0])[0]'(by rw [hlen]; exact hs)) := List.getElem?_eq_getElem _
      rw [h1] at this
      have := World.block_lt_of_cell? w _ this
      rw [addr_block] at this
      exact this
    · have hj : j < l.length * size := by
        have := (List.getElem?_eq_some_iff.1 hu).1
        rwa [flatMap_length hlen] at this
      have e := Nat.div_add_mod j size
      have hd : j / size < l.length := Nat.div_lt_of_lt_mul (by rw [Nat.mul_comm]; exact hj)
      have hm := Nat.mod_lt j hs
      rw [Nat.mul_comm] at e
      have := (hlp _ hd).2 _ hm
      rw [e] at this
      rw [this, ← flatMap_at hs hlen l _ _ hd hm, e, hu]

/-- A struct by value, as its cells. -/
theorem open_flat {P : Program} {H : Type} {enc : TypeId × Value → H} {w : World} {t : TypeId} {fs : Array Field} {α : Type} {dec : α → List Value} {ok : α → Prop} {v : Value} {d : DataW H} {p : List MemPlace} {r : Reach} {base : Nat}
    (ht : P.underlying t = some (.struct fs)) (hF : Flat P t (fun cs => ∃ a, ok a ∧ cs = dec a)) (hv : Value.okWide P w r base t v) (h : DataW.Trod enc P w 0 (fun _ => true) true t v d p) :
    ∃ a, ok a ∧ v = .agg (dec a).toArray := by
  obtain ⟨cs, rfl, _⟩ := okWide_struct ht hv
  obtain ⟨fuel, hf⟩ := h
  obtain ⟨a, ha, hc⟩ := hF H enc w 0 _ true fuel _ _ hf
  refine ⟨a, ha, ?_⟩
  rw [← hc]
  simp [Value.cells]

/-- A number's value, its data left as they are. -/
theorem open_num {P : Program} {H : Type} {enc : TypeId × Value → H} {w : World} {t : TypeId} {k : IntKind} {v : Value} {d : DataW H} {p : List MemPlace} {r : Reach} {base : Nat}
    (ht : P.underlying t = some (.int k)) (hv : Value.okWide P w r base t v) (h : DataW.Trod enc P w 0 (fun _ => true) true t v d p) : ∃ n, v = .int k n ∧ (Lit.int k n).wf = true := by
  obtain ⟨n, h1, _, _, h2⟩ := open_int ht hv h
  exact ⟨n, h1, h2⟩

theorem open_truth {P : Program} {H : Type} {enc : TypeId × Value → H} {w : World} {t : TypeId} {v : Value} {d : DataW H} {p : List MemPlace} {r : Reach} {base : Nat}
    (ht : P.underlying t = some .bool) (hv : Value.okWide P w r base t v) (h : DataW.Trod enc P w 0 (fun _ => true) true t v d p) : ∃ b, v = .bool b := by
  obtain ⟨n, h1, _⟩ := open_bool ht hv h
  exact ⟨n, h1⟩

end Go.Proofs.Ytmbbcgkfankiaaa.Z

/- Elements of slices of structs, by their cells. No program is in sight. -/
set_option linter.unusedVariables false
set_option linter.unusedSimpArgs false
namespace Go.Proofs.Ytmbbcgkfankiaaa.Z
open Go.RowKit

theorem elem_head {α : Type} {dec : α → List Value} {size : Nat} {w : World} {B : Option Addr} {m i : Nat} {l : List α} (hs : 0 < size) (hlen : ∀ a, (dec a).length = size) (h : Rd w size B m (l.flatMap dec)) (hi : i < m) :
    ∃ b off x, B = some ⟨b, off, none⟩ ∧ b < w.heap.size ∧ l[i]? = some x ∧ x ∈ l := by
  obtain ⟨b, off, hB, hb, hc⟩ := h.lit (by omega) hs
  have hl : l.length = m := by
    have := h.1
    rw [flatMap_length hlen] at this
    exact Nat.eq_of_mul_eq_mul_right hs this
  exact ⟨b, off, l[i], hB, hb, List.getElem?_eq_getElem (by omega), List.getElem_mem _⟩

theorem elem_cells {α : Type} {dec : α → List Value} {size : Nat} {w : World} {b off m i : Nat} {x : α} {l : List α} (hs : 0 < size) (hlen : ∀ a, (dec a).length = size) (h : Rd w size (some ⟨b, off, none⟩) m (l.flatMap dec)) (hi : i < m) (hx : l[i]? = some x) :
    b < w.heap.size ∧ ∀ j u, (dec x)[j]? = some u → w.cell? ⟨b, off + i * size + j, none⟩ = some u := by
  obtain ⟨b', off', hB, hb, hc⟩ := h.lit (by omega) hs
  simp only [Option.some.injEq, Addr.mk.injEq] at hB
  obtain ⟨rfl, rfl, _⟩ := hB
  obtain ⟨hil, rfl⟩ := List.getElem?_eq_some_iff.1 hx
  refine ⟨hb, fun j u hu => ?_⟩
  have hj : j < size := by have := (List.getElem?_eq_some_iff.1 hu).1; rwa [hlen] at this
  rw [Nat.add_assoc]
  exact hc _ _ ((flatMap_at hs hlen l i j hil hj).trans hu)

end Go.Proofs.Ytmbbcgkfankiaaa.Z

/- What tasks hold is nothing, read or write. No lock in sight. -/
set_option linter.unusedVariables false
set_option linter.unusedSimpArgs false
namespace Go.Proofs.Ytmbbcgkfankiaaa.Z
open Go.RowKit

def HOk (M : Mt) : Prop := ∀ j, 0 ≤ M.hold.getD j 0 ∧ M.hold.getD j 0 ≤ 2
theorem hset {l : List Int} {i : Nat} {v : Int} (h : ∀ j, 0 ≤ l.getD j 0 ∧ l.getD j 0 ≤ 2) (hv : 0 ≤ v ∧ v ≤ 2) : ∀ j, 0 ≤ (l.set i v).getD j 0 ∧ (l.set i v).getD j 0 ≤ 2 := by
  intro j
  have hj := h j
  simp only [List.getD_eq_getElem?_getD, List.getElem?_set] at hj ⊢
  by_cases e : i = j
  · subst e
    by_cases h2 : i < l.length
    · simp [h2]; omega
    · simp [h2]
  · simp only [if_neg e]
    exact hj
theorem from_ok_ {op h : Int} (hh : 0 ≤ h ∧ h ≤ 2) : 0 ≤ fromA op h ∧ fromA op h ≤ 2 := by
  unfold fromA
  repeat' split
  all_goals omega
theorem behind_ok_ {op r h : Int} (hh : 0 ≤ h ∧ h ≤ 2) : 0 ≤ behindA op r h ∧ behindA op r h ≤ 2 := by
  unfold behindA
  repeat' split
  all_goals omega
theorem goes_hok {g : Rn → Rn} {M : Mt} {i : Nat} {f : Fr} {h : Int} (H : HOk M) (hh : 0 ≤ h ∧ h ≤ 2) : HOk (M.goes g i f h) := by
  unfold Mt.goes
  split
  · exact hset H hh
  split
  · exact hset H (behind_ok_ hh)
  · exact hset H hh
theorem play_hok {g : Rn → Rn} {M : Mt} (H : HOk M) (i : Nat) (op : Int) : HOk (M.play g i op) := by
  unfold Mt.play
  split
  · split
    · exact goes_hok H (from_ok_ (H i))
    · exact H
  · exact goes_hok H (H i)
theorem plays_hok {g : Rn → Rn} {k : Nat} : ∀ (l : List (Int × Int)) (M : Mt), HOk M → HOk (playsA g k M l)
  | [], M, H => H
  | x :: l, M, H => plays_hok l _ (play_hok H _ _)
theorem back_hok {g : Rn → Rn} {M : Mt} (H : HOk M) : ∀ t, HOk (backA g M t)
  | 0 => H
  | t + 1 => play_hok (back_hok H t) _ _
theorem rounds_hok {g : Rn → Rn} {k : Nat} {M : Mt} (H : HOk M) : ∀ r, HOk (roundsA g k M r)
  | 0 => H
  | r + 1 => back_hok (rounds_hok H r) k
theorem start_hok (k : Nat) (d : Int) (Z : List Int) : HOk (Mt.start k d Z) := by
  intro j
  show 0 ≤ (List.replicate k (0 : Int)).getD j 0 ∧ (List.replicate k (0 : Int)).getD j 0 ≤ 2
  rw [List.getD_eq_getElem?_getD, List.getElem?_replicate]
  split <;> simp
end Go.Proofs.Ytmbbcgkfankiaaa.Z

/- Law 11: the statement PfExcludes: its walk. Written by genmat.py. -/
set_option linter.unusedVariables false
set_option linter.unusedSimpArgs false
namespace Go.Proofs.Ytmbbcgkfankiaaa.Z
open Go.RowKit

def turnDec (x : Int × Int) : List Value := [.int .u8 x.1, .int .u8 x.2]
theorem turn_len {w : World} {B : Option Addr} {m : Nat} {l : List (Int × Int)} (hB : Rd w 2 B m (l.flatMap turnDec)) : l.length = m := by
  have h1 := hB.1
  have h2 : ∀ l : List (Int × Int), (l.flatMap turnDec).length = l.length * 2 := fun l => by
    induction l with
    | nil => rfl
    | cons x l ih => rw [List.flatMap_cons, List.length_append, ih, List.length_cons]; simp [turnDec]; omega
  rw [h2] at h1
  omega
set_option maxHeartbeats 3200000 in
set_option maxRecDepth 100000 in
theorem pf_excludes_some {B : Option Addr} {m d : Nat} (n mode base : Int) (l : List (Int × Int)) (w : World) (hn : 0 ≤ n ∧ n < 256) (hm : 0 ≤ mode ∧ mode < 256) (hb : 0 ≤ base ∧ base < 4294967296) (hB : Rd w 2 B m (l.flatMap turnDec)) (hl : ∀ x, x ∈ l → (0 ≤ x.1 ∧ x.1 < 256) ∧ (0 ≤ x.2 ∧ x.2 < 256)) (h5 : m ≤ 500)
    (hE : ∀ k : Nat, (k : Int) = 1 + n % 6 → ExcludesOk pfA k (Mt.start k (1 + mode % 2) (own2 base ++ List.replicate ((8 + 4 * (k : Int)).toNat - 5) 0)) l) :
    Calls Try.prog 10 #[.int .u8 n, .int .u8 mode, .int .u32 base, .slice B m d] w fun e w' => e = .returned (.bool true) ∧ Touch [] w w' := by
  obtain ⟨k, hk⟩ : ∃ k : Nat, 1 + n % 6 = (k : Int) := ⟨(1 + n % 6).toNat, by omega⟩
  obtain ⟨dd, hd⟩ : ∃ d : Int, 1 + mode % 2 = d := ⟨_, rfl⟩
  have hE := hE k hk.symm
  have hlen := turn_len hB
  have hbg := fun W rs (HX : Has [] w W rs) => pf_begun HX k (by omega) (by omega) dd base hb
  rw [hd] at hE
  generalize own2 base ++ List.replicate ((8 + 4 * (k : Int)).toNat - 5) 0 = Z at hE hbg
  have hk1 : 1 ≤ k := by omega
  have hk2 : k ≤ 6 := by omega
  have HE := Lib.hid hE
  have HBG := Lib.hid hbg
  have HK := Lib.hid hk
  have HD := Lib.hid hd
  have HB := Lib.hid hB
  have HL := Lib.hid hl
  have HLEN := Lib.hid hlen
  have hq1 : (1 : Int) ≤ (k : Int) := by omega
  have hq2 : (k : Int) ≤ 6 := by omega
  have hq3 : ¬ ((500 : Int) < (m : Int)) := by omega
  obtain ⟨R, hR⟩ : ∃ R : Nat, 2 * k * (8 * k + 40) = R := ⟨_, rfl⟩
  have hR2 : R ≤ 1056 := by
    subst hR
    exact Nat.mul_le_mul (show 2 * k ≤ 12 by omega) (show 8 * k + 40 ≤ 88 by omega)
  have hRI : 2 * (k : Int) * (8 * (k : Int) + 40) = (R : Int) := by rw [← hR]; push_cast; rfl
  have HRR := Lib.hid hR
  clear hE hbg hk hd hB hl hlen hR
  go_enter Try.func10, Try.ntmps10
  go_wp2_with fail
  rw [HK.out, HD.out]
  refine (HBG.out _ _ (Has.start [] _)).mono ?_
  rintro e1 w1 ⟨x, mm, a, hbk, p, g, cap, rfl, H1⟩
  have HV := Lib.hid H1
  clear H1
  go_wp2_with fail
  go_loopw [11] (fun c wr => ∃ j : Nat, j ≤ m ∧ c = .int .i64 j ∧ MatchHas [] w mm a x hbk (.row p g cap Z :: []) (playsA pfA k (Mt.start k dd Z) (l.take j)) wr) (fun c _ => m - (intOf c).toNat)
  case atStart => exact ⟨0, Nat.zero_le _, rfl, HV.out⟩
  case round =>
    obtain ⟨j, hj, rfl, hR⟩ := hrel
    clear HV
    have hi1 : (0 : Int) ≤ (j : Int) := Int.natCast_nonneg _
    by_cases hjm : j < m
    · have hi2 : (j : Int) < (m : Int) := by omega
      have hBr := HB.out.touch hR.touch (by simp)
      obtain ⟨b, off, y, rfl, hbb, hy, _⟩ := elem_head (dec := turnDec) (size := 2) (by decide) (fun _ => rfl) hBr hjm
      obtain ⟨c0, c1⟩ := elem_cells (dec := turnDec) (size := 2) (by decide) (fun _ => rfl) hBr hjm hy
      obtain ⟨⟨u1, u2⟩, u3, u4⟩ := HL.out y (List.mem_of_getElem? hy)
      have hyd : l.getD j (0, 0) = y := by rw [List.getD_eq_getElem?_getD, hy]; rfl
      have hsn := plays_snoc pfA k (Mt.start k dd Z) l j (by rw [HLEN.out]; exact hjm)
      rw [hyd] at hsn
      have hmn := HE.out.safe (j + 1) (by rw [HLEN.out]; omega)
      have hpl := (plays_len pfA k (l.take j) (Mt.start k dd Z)).trans (show (Mt.start k dd Z).fs.length = k by simp [Mt.start])
      have hti : (y.1 % (k : Int)).toNat < k := by have := Int.emod_lt_of_pos y.1 (show (0 : Int) < k by omega); omega
      have htc : (((y.1 % (k : Int)).toNat : Nat) : Int) = y.1 % (k : Int) := by have := Int.emod_nonneg y.1 (show (k : Int) ≠ 0 by omega); omega
      have hplay := fun W (HX : MatchHas [] w mm a x hbk (.row p g cap Z :: []) (playsA pfA k (Mt.start k dd Z) (l.take j)) W) => pf_play HX (i := (y.1 % (k : Int)).toNat) (by rw [hpl]; exact hti) (y.2 % 9)
      rw [htc, ← hsn] at hplay
      generalize hM2 : playsA pfA k (Mt.start k dd Z) (l.take (j + 1)) = M2 at hplay hmn
      have HM2 := Lib.hid hM2
      clear hM2
      have HPLAY := Lib.hid hplay
      have HMN := Lib.hid hmn
      have HH := Lib.hid hR
      clear hplay hmn hR hsn hyd htc hti hpl hBr hy
      have f0 : wr.cell? ⟨b, off + j * 2, none⟩ = some (.int .u8 y.1) := c1 0 _ rfl
      have f1 : wr.cell? ⟨b, off + j * 2 + 1, none⟩ = some (.int .u8 y.2) := c1 1 _ rfl
      have d0 : wr.drew.cell? ⟨b, off + j * 2, none⟩ = some (.int .u8 y.1) := f0
      have d1 : wr.drew.cell? ⟨b, off + j * 2 + 1, none⟩ = some (.int .u8 y.2) := f1
      clear c1
      have hkz : ((k : Int) == 0) = false := by have : (k : Int) ≠ 0 := by omega
                                                simpa using this
      go_wp2_with fail
      refine region_flat (by kernel_rfl) (by kernel_rfl) ?_
      simp only [probed, probes, List.nil_append]
      go_wp2_with fail
      refine (HPLAY.out _ HH.out.drew).mono ?_
      rintro e2 w2 ⟨rfl, H2⟩
      go_wp2_with fail
      rw [only_normal]
      (first | (rename_i hK; refine hK _ _ ?_; clear hK) | (rename_i hK hX; refine hK _ _ ?_; clear hK) | (rename_i hK hX hY; refine hK _ _ ?_; clear hK))
      have HR2 := Lib.hid H2
      clear H2
      go_wp2_with fail
      refine (pf_many HR2.out 2).mono ?_
      rintro e3 w3 ⟨rfl, rfl⟩
      have hc1 := HMN.out
      by_cases c2 : M2.many 2 = 1
      · rw [c2]
        have e5 : ((M2.many 1 : Nat) : Int) = 0 := by omega
        clear hc1
        have E5 := Lib.hid e5
        clear e5 c2
        go_wp2_with fail
        refine (pf_many HR2.out 1).mono ?_
        rintro e4 w4 ⟨rfl, rfl⟩
        rw [E5.out]
        go_wp2
        go_roundw
        case rel => exact ⟨j + 1, by omega, by go_num, by rw [HM2.out]; exact HR2.out⟩
        case measure => simp [intOf]; omega
      · have e5 : ((M2.many 2 : Nat) : Int) = 0 := by omega
        rw [e5]
        clear hc1 e5 c2
        go_wp2
        go_roundw
        case rel => exact ⟨j + 1, by omega, by go_num, by rw [HM2.out]; exact HR2.out⟩
        case measure => simp [intOf]; omega
    · have hjm2 : j = m := by omega
      subst hjm2
      have HV := Lib.hid hR
      clear hR
      have hi2 : (j : Int) ≤ (j : Int) := Int.le_refl _
      have hlt : l.take j = l := by rw [← HLEN.out, List.take_length]
      rw [hlt] at HV
      clear hlt
      go_wp2_with fail
      go_loopw [13] (fun c wr => ∃ r : Nat, r ≤ R ∧ c = .int .i64 r ∧ MatchHas [] w mm a x hbk (.row p g cap Z :: []) (roundsA pfA k (playsA pfA k (Mt.start k dd Z) l) r) wr) (fun c _ => R - (intOf c).toNat)
      case atStart => exact ⟨0, Nat.zero_le _, rfl, HV.out⟩
      case round =>
        obtain ⟨r, hr, rfl, hR⟩ := hrel
        clear HV
        have hi1 : (0 : Int) ≤ (r : Int) := Int.natCast_nonneg _
        by_cases hrR : r < R
        · have hi3 : (r : Int) < (R : Int) := by omega
          go_wp2_with fail
          have HS := Lib.hid hR
          clear hR
          go_loopw [14] (fun c wr => ∃ t : Nat, t ≤ k ∧ c = .int .i64 t ∧ MatchHas [] w mm a x hbk (.row p g cap Z :: []) (backA pfA (roundsA pfA k (playsA pfA k (Mt.start k dd Z) l) r) t) wr) (fun c _ => k - (intOf c).toNat)
          case atStart => exact ⟨0, Nat.zero_le _, rfl, HS.out⟩
          case round =>
            obtain ⟨t, ht, rfl, hR⟩ := hrel
            clear HS
            have hj1 : (0 : Int) ≤ (t : Int) := Int.natCast_nonneg _
            by_cases htk : t < k
            · have hj2 : (t : Int) < (k : Int) := by omega
              have hlen := (back_len pfA (roundsA pfA k (playsA pfA k (Mt.start k dd Z) l) r) t).trans ((rounds_len pfA k (playsA pfA k (Mt.start k dd Z) l) r).trans ((plays_len pfA k l (Mt.start k dd Z)).trans (show (Mt.start k dd Z).fs.length = k by simp [Mt.start])))
              have hplay := fun W (HX : MatchHas [] w mm a x hbk (.row p g cap Z :: []) (backA pfA (roundsA pfA k (playsA pfA k (Mt.start k dd Z) l) r) t) W) => pf_play HX (i := t) (by rw [hlen]; exact htk) (2 * (backA pfA (roundsA pfA k (playsA pfA k (Mt.start k dd Z) l) r) t).hold.getD t 0)
              have hsn : backA pfA (roundsA pfA k (playsA pfA k (Mt.start k dd Z) l) r) (t + 1) = (backA pfA (roundsA pfA k (playsA pfA k (Mt.start k dd Z) l) r) t).play pfA t (2 * (backA pfA (roundsA pfA k (playsA pfA k (Mt.start k dd Z) l) r) t).hold.getD t 0) := rfl
              rw [← hsn] at hplay
              obtain ⟨x0, x1, x2, x3⟩ := hR.held
              rw [hlen] at x1 x3
              have hh := x3 t htk
              have hz := back_hok (g := pfA) (rounds_hok (g := pfA) (k := k) (plays_hok (g := pfA) (k := k) l (Mt.start k dd Z) (start_hok k dd Z)) r) t t
              generalize (backA pfA (roundsA pfA k (playsA pfA k (Mt.start k dd Z) l) r) t).hold.getD t 0 = hv at hplay hh hz
              generalize hM3 : backA pfA (roundsA pfA k (playsA pfA k (Mt.start k dd Z) l) r) (t + 1) = M3 at hplay
              have HM3 := Lib.hid hM3
              clear hM3
              have HPLAY := Lib.hid hplay
              have HR2 := Lib.hid hR
              have HLEN2 := Lib.hid hlen
              clear hR hplay hlen x3 hsn
              go_wp2_with fail
              refine (HPLAY.out _ HR2.out).mono ?_
              rintro e2 w2 ⟨rfl, H2⟩
              go_wp2
              go_roundw
              case rel => exact ⟨t + 1, by omega, by go_num, by rw [HM3.out]; exact H2⟩
              case measure => simp [intOf]; omega
            · have htk2 : t = k := by omega
              subst htk2
              have HR2 := Lib.hid hR
              clear hR
              have hj2 : (t : Int) ≤ (t : Int) := Int.le_refl _
              go_wp2
              go_roundw
              case rel => exact ⟨r + 1, by omega, by go_num, HR2.out⟩
              case measure => simp [intOf]; omega
        · have hrR2 : r = R := by omega
          subst hrR2
          have hlen := (rounds_len pfA k (playsA pfA k (Mt.start k dd Z) l) r).trans ((plays_len pfA k l (Mt.start k dd Z)).trans (show (Mt.start k dd Z).fs.length = k by simp [Mt.start]))
          have hrest := HE.out.rest
          rw [HRR.out] at hrest
          generalize roundsA pfA k (playsA pfA k (Mt.start k dd Z) l) r = M4 at hR hlen hrest
          have HREST := Lib.hid hrest
          have HR2 := Lib.hid hR
          have HLEN2 := Lib.hid hlen
          clear hR hrest hlen
          have hi3 : (r : Int) ≤ (r : Int) := Int.le_refl _
          go_wp2_with fail
          go_loopw [15] (fun c wr => MatchHas [] w mm a x hbk (.row p g cap Z :: []) M4 wr ∧ ∃ t : Nat, t ≤ k ∧ c = .int .i64 t) (fun c _ => k - (intOf c).toNat)
          case atStart => exact ⟨HR2.out, 0, Nat.zero_le _, rfl⟩
          case round =>
            obtain ⟨hR3, t, ht, rfl⟩ := hrel
            clear HR2
            have HR2 := Lib.hid hR3
            clear hR3
            have hj1 : (0 : Int) ≤ (t : Int) := Int.natCast_nonneg _
            by_cases htk : t < k
            · have hj2 : (t : Int) < (k : Int) := by omega
              obtain ⟨z6, z7⟩ := HREST.out t htk
              obtain ⟨rr, b, off, cp, z0, z1, z2, z3, z4, z5⟩ := HR2.out.look (i := t) (by rw [HLEN2.out]; exact htk)
              obtain ⟨x0, x1, x2, x3⟩ := HR2.out.held
              rw [HLEN2.out] at x1 x3 z1
              have hh := x3 t htk
              rw [z7] at hh
              rw [z6] at z5
              clear x3 z6 z7
              go_wp2
              go_roundw
              case rel => exact ⟨HR2.out, t + 1, by omega, by go_num⟩
              case measure => simp [intOf]; omega
            · have htk2 : t = k := by omega
              subst htk2
              have hj2 : (t : Int) ≤ (t : Int) := Int.le_refl _
              go_wp2_with fail
              refine (pf_awake _).mono ?_
              rintro e4 w4 ⟨rfl, t4⟩
              go_wp2
              go_ret
              exact ⟨rfl, (HR2.out.grow t4).touch⟩

set_option maxHeartbeats 1600000 in
set_option maxRecDepth 100000 in
theorem pf_excludes_long {B : Option Addr} {m d : Nat} (n mode base : Int) (w : World) (hn : 0 ≤ n ∧ n < 256) (hm : 0 ≤ mode ∧ mode < 256) (hb : 0 ≤ base ∧ base < 4294967296) (h5 : 500 < m) :
    Calls Try.prog 10 #[.int .u8 n, .int .u8 mode, .int .u32 base, .slice B m d] w fun e w' => e = .returned (.bool true) ∧ Touch [] w w' := by
  obtain ⟨k, hk⟩ : ∃ k : Nat, 1 + n % 6 = (k : Int) := ⟨(1 + n % 6).toNat, by omega⟩
  obtain ⟨dd, hd⟩ : ∃ d : Int, 1 + mode % 2 = d := ⟨_, rfl⟩
  have hbg := fun W rs (HX : Has [] w W rs) => pf_begun HX k (by omega) (by omega) dd base hb
  have HBG := Lib.hid hbg
  have HK := Lib.hid hk
  have HD := Lib.hid hd
  have hq3 : (500 : Int) < (m : Int) := by omega
  clear hbg hk hd
  go_enter Try.func10, Try.ntmps10
  go_wp2_with fail
  rw [HK.out, HD.out]
  refine (HBG.out _ _ (Has.start [] _)).mono ?_
  rintro e1 w1 ⟨x, mm, a, hbk, p, g, cap, rfl, H1⟩
  have HV := Lib.hid H1
  clear H1
  go_wp2_with fail
  refine (pf_awake _).mono ?_
  rintro e4 w4 ⟨rfl, t4⟩
  go_wp2
  go_ret
  exact ⟨rfl, (HV.out.grow t4).touch⟩

end Go.Proofs.Ytmbbcgkfankiaaa.Z

/- Locks as tasks that wait for cells, and wake each other: what a step of a task does. No lock in sight. -/
set_option linter.unusedVariables false
set_option linter.unusedSimpArgs false
namespace Go.Proofs.Ytmbbcgkfankiaaa.Z
open Go.RowKit

/-- The words that are no watches, no permits. -/
def mainOf (n : Nat) (L : List Int) : Nat → Int := fun j => if j < 8 + 2 * n then L.getD j 0 else 0
def upd (m : Nat → Int) (c : Nat) (v : Int) : Nat → Int := fun j => if j = c then v else m j
def written (m : Nat → Int) : Option (Nat × Int) → Nat → Int
  | none => m
  | some (c, v) => upd m c v
def writtenL (L : List Int) : Option (Nat × Int) → List Int
  | none => L
  | some (c, v) => L.set c v
def wkOf (mode : Int) : Option Nat → Wk
  | none => Wk.zero
  | some c => beginA mode c

theorem getDset {L : List Int} {i j : Nat} {v : Int} : (L.set i v).getD j 0 = if i = j ∧ i < L.length then v else L.getD j 0 := by
  simp only [List.getD_eq_getElem?_getD, List.getElem?_set]
  by_cases h : i = j
  · subst h
    by_cases h2 : i < L.length
    · simp [h2]
    · simp [h2]
  · simp [h]
theorem getDsetG {α : Type} {L : List α} {i j : Nat} {v d : α} (hi : i < L.length) : (L.set i v).getD j d = if i = j then v else L.getD j d := by
  simp only [List.getD_eq_getElem?_getD, List.getElem?_set]
  by_cases h : i = j
  · subst h
    simp [hi]
  · simp [h]
theorem getDset_ne {α : Type} {L : List α} {i j : Nat} {v d : α} (h : i ≠ j) : (L.set i v).getD j d = L.getD j d := by
  simp [List.getD_eq_getElem?_getD, List.getElem?_set, h]
theorem main_set {n : Nat} {L : List Int} {c : Nat} {v : Int} (hl : L.length = 8 + 4 * n) (hc : c < 8 + 2 * n) : mainOf n (L.set c v) = upd (mainOf n L) c v := by
  funext j
  unfold mainOf upd
  rw [getDset]
  by_cases h : j = c
  · subst h
    rw [if_pos hc, if_pos ⟨rfl, by omega⟩, if_pos rfl]
  · rw [if_neg (fun h2 : c = j ∧ c < L.length => h h2.1.symm), if_neg h]
theorem main_far {n : Nat} {L : List Int} {c : Nat} {v : Int} (hc : 8 + 2 * n ≤ c) : mainOf n (L.set c v) = mainOf n L := by
  funext j
  unfold mainOf
  by_cases h : j < 8 + 2 * n
  · rw [if_pos h, if_pos h, getDset, if_neg (by omega)]
  · rw [if_neg h, if_neg h]
theorem main_written {n : Nat} {L : List Int} (hl : L.length = 8 + 4 * n) {w : Option (Nat × Int)} (hc : ∀ c v, w = some (c, v) → c < 8 + 2 * n) : mainOf n (writtenL L w) = written (mainOf n L) w := by
  cases w with
  | none => rfl
  | some x => obtain ⟨c, v⟩ := x; exact main_set hl (hc c v rfl)
theorem writtenL_len (L : List Int) (w : Option (Nat × Int)) : (writtenL L w).length = L.length := by
  cases w with
  | none => rfl
  | some x => obtain ⟨c, v⟩ := x; simp [writtenL]
theorem writtenL_far {n j : Nat} {L : List Int} {w : Option (Nat × Int)} (hc : ∀ c v, w = some (c, v) → c < 8 + 2 * n) (hj : 8 + 2 * n ≤ j) : (writtenL L w).getD j 0 = L.getD j 0 := by
  cases w with
  | none => rfl
  | some x =>
    obtain ⟨c, v⟩ := x
    have := hc c v rfl
    exact getDset_ne (by omega)

/-- A lock, as its tasks stand: where one is, what it waits for, what a step does to the words. -/
structure LockM (P : Type) where
  g : Rn → Rn
  conc : P → Fr × Int
  keep : P → Int → Int
  wait : Nat → P → Option (Nat × (Int → Bool))
  post : P → Int → P
  act : Nat → P → (Nat → Int) → P × Option (Nat × Int) × Option Nat
  idle : Int → P
  start : Int → Int → P
  ok : P → Prop

/-- A frame, when its operation may be over. -/
def normF (f : Fr) (h : Int) : Fr × Int := if f.ret ≠ 0 then (Fr.zero, behindA f.op f.ret h) else ({ f with wk := Wk.zero }, h)

variable {P : Type}
/-- What a step from a place that does not wait does. -/
structure ActIs (K : LockM P) (n : Nat) (p : P) (R : P × Option (Nat × Int) × Option Nat) (s s' : Rn) : Prop where
  L : s'.L = writtenL s.L R.2.1
  f : normF s'.f (K.conc p).2 = K.conc R.1
  st : s'.f.st = 0
  wk : s'.f.wk = wkOf s.mode R.2.2
  op : s'.f.op ≠ 0
  lt : ∀ c v, R.2.1 = some (c, v) → c < 8 + 2 * n

/-- The lock's lines are what is said of it. -/
structure LockM.Good (K : LockM P) (n : Nat) (mode : Int) : Prop where
  plain : ∀ p, (K.conc p).1.st = 0 ∧ (K.conc p).1.wk = Wk.zero ∧ (K.conc p).1.ret = 0
  idle_conc : ∀ h, K.conc (K.idle h) = (Fr.zero, h)
  idle_only : ∀ p, (K.conc p).1.op = 0 → p = K.idle (K.conc p).2
  two : ∀ p, (K.conc p).2 = 2 → p = K.idle 2
  wait_op : ∀ t p c pr, K.wait t p = some (c, pr) → (K.conc p).1.op ≠ 0
  start_conc : ∀ op h, mayB op h = true → K.conc (K.start op h) = (frOp op, fromA op h)
  start_wait : ∀ t op h, mayB op h = true → K.wait t (K.start op h) = none
  wait_lt : ∀ t p c pr, K.ok p → t < n → K.wait t p = some (c, pr) → c < 8 + 2 * n
  post_hold : ∀ t p c pr v, K.wait t p = some (c, pr) → (K.conc p).2 ≠ 0 → (K.conc (K.post p v)).2 ≠ 0
  act : ∀ p t s, K.ok p → t < n → K.wait t p = none → (K.conc p).1.op ≠ 0 → s.n = (n : Int) → s.mode = mode → s.task = (t : Int) → s.f = (K.conc p).1 → s.L.length = 8 + 4 * n → ActIs K n p (K.act t p (mainOf n s.L)) s (K.g s)
  wait_step : ∀ p t c pr st s, K.ok p → t < n → K.wait t p = some (c, pr) → 0 ≤ st → st ≤ 3 → s.n = (n : Int) → s.mode = mode → s.task = (t : Int) → s.f = { (K.conc p).1 with st := st } → s.L.length = 8 + 4 * n →
    (K.g s).L = (waitA s.L n mode t st c pr).words ∧
    ((waitA s.L n mode t st c pr).done = true → normF (K.g s).f (K.conc p).2 = K.conc (K.post p (waitA s.L n mode t st c pr).acc.old) ∧ (K.g s).f.st = 0 ∧ (K.g s).f.wk = Wk.zero ∧ (K.g s).f.op ≠ 0) ∧
    ((waitA s.L n mode t st c pr).done = false → (K.g s).f = if (waitA s.L n mode t st c pr).seen then { (K.conc p).1 with a := K.keep p (waitA s.L n mode t st c pr).acc.old, st := (waitA s.L n mode t st c pr).stage } else { (K.conc p).1 with st := (waitA s.L n mode t st c pr).stage })
  wait_last : ∀ p t c pr v s, K.ok p → t < n → mode = 2 → K.wait t p = some (c, pr) → pr v = true → s.n = (n : Int) → s.mode = mode → s.task = (t : Int) → s.f = { (K.conc p).1 with a := K.keep p v, st := 4 } → s.L.length = 8 + 4 * n →
    (K.g s).L = (waitA s.L n mode t 4 c pr).words ∧ normF (K.g s).f (K.conc p).2 = K.conc (K.post p v) ∧ (K.g s).f.st = 0 ∧ (K.g s).f.wk = Wk.zero ∧ (K.g s).f.op ≠ 0

/-- How a task's frame, and what it holds, stand for its place. -/
inductive AbsF (K : LockM P) (n : Nat) (mode : Int) (t : Nat) : Fr → Int → P → Prop
  | plain (p : P) : AbsF K n mode t (K.conc p).1 (K.conc p).2 p
  | waking (p : P) (k : Wk) : mode = 2 → k.on = true → 0 ≤ k.i → k.i < n → 0 ≤ k.cell → (K.conc p).1.op ≠ 0 → AbsF K n mode t { (K.conc p).1 with wk := k } (K.conc p).2 p
  | staged (p : P) (c : Nat) (pr : Int → Bool) (st : Int) : mode = 2 → K.ok p → K.wait t p = some (c, pr) → st = 1 ∨ st = 2 ∨ st = 3 → AbsF K n mode t { (K.conc p).1 with st := st } (K.conc p).2 p
  | seen (q : P) (c : Nat) (pr : Int → Bool) (v : Int) : mode = 2 → K.ok q → K.wait t q = some (c, pr) → pr v = true → AbsF K n mode t { (K.conc q).1 with a := K.keep q v, st := 4 } (K.conc q).2 (K.post q v)
  | over (f : Fr) (h : Int) : mode = 2 → f.wk.on = true → 0 ≤ f.wk.i → f.wk.i < n → 0 ≤ f.wk.cell → f.op ≠ 0 → f.ret ≠ 0 → f.st = 0 → h ≠ 2 → AbsF K n mode t f h (K.idle (behindA f.op f.ret h))

/-- Tasks over a lock, and where each is. -/
structure MI (K : LockM P) (I : Nat → List P → (Nat → Int) → Prop) (n b : Nat) (M : Mt) (ps : List P) : Prop where
  num : M.n = (n : Int)
  fsl : M.fs.length = n
  hol : M.hold.length = n
  psl : ps.length = n
  len : M.L.length = 8 + 4 * n
  abs : ∀ i, i < n → AbsF K n M.mode i (M.fs.getD i Fr.zero) (M.hold.getD i 0) (ps.getD i (K.idle 0))
  inv : I b ps (mainOf n M.L)
  watch : ∀ i c pr, i < n → K.wait i (ps.getD i (K.idle 0)) = some (c, pr) → ((M.fs.getD i Fr.zero).st = 2 ∨ (M.fs.getD i Fr.zero).st = 3) → M.L.getD (8 + 2 * n + i) 0 = ((c : Int) + 1) % 4294967296
  woken : ∀ i c pr, i < n → K.wait i (ps.getD i (K.idle 0)) = some (c, pr) → (M.fs.getD i Fr.zero).st = 3 → pr (mainOf n M.L c) = true →
    M.L.getD (8 + 3 * n + i) 0 ≠ 0 ∨ ∃ j, j < n ∧ (M.fs.getD j Fr.zero).wk.on = true ∧ (M.fs.getD j Fr.zero).wk.cell = c ∧ (M.fs.getD j Fr.zero).wk.i ≤ i

/-- What holds of the places and the words, and stays so. -/
structure LockM.Keeps (K : LockM P) (n : Nat) (I : Nat → List P → (Nat → Int) → Prop) : Prop where
  weak : ∀ b ps m, I (b + 1) ps m → I b ps m
  ok : ∀ b ps m i, I b ps m → i < n → ps.length = n → K.ok (ps.getD i (K.idle 0))
  begins : ∀ b ps m i op h, I (b + 1) ps m → i < n → ps.length = n → ps.getD i (K.idle 0) = K.idle h → mayB op h = true → I b (ps.set i (K.start op h)) m
  acts : ∀ b ps m i, I (b + 1) ps m → i < n → ps.length = n → K.wait i (ps.getD i (K.idle 0)) = none → (K.conc (ps.getD i (K.idle 0))).1.op ≠ 0 →
    I b (ps.set i (K.act i (ps.getD i (K.idle 0)) m).1) (written m (K.act i (ps.getD i (K.idle 0)) m).2.1)
  sees : ∀ b ps m i c pr, I (b + 1) ps m → i < n → ps.length = n → K.wait i (ps.getD i (K.idle 0)) = some (c, pr) → pr (m c) = true → I b (ps.set i (K.post (ps.getD i (K.idle 0)) (m c))) m
  wakes : ∀ b ps m i j c pr, I (b + 1) ps m → i < n → j < n → i ≠ j → ps.length = n → K.wait i (ps.getD i (K.idle 0)) = none → (K.conc (ps.getD i (K.idle 0))).1.op ≠ 0 → K.wait j (ps.getD j (K.idle 0)) = some (c, pr) →
    pr (written m (K.act i (ps.getD i (K.idle 0)) m).2.1 c) = true → pr (m c) = true ∨ (K.act i (ps.getD i (K.idle 0)) m).2.2 = some c

theorem step_off {g : Rn → Rn} {s : Rn} (h : s.f.wk.on = false) (ha : s.acc = Acc.zero) (hn : s.notes = []) : stepR g s = g s := by
  unfold stepR
  rw [h]
  obtain ⟨n, mode, task, f, acc, notes, L⟩ := s
  simp only at ha hn
  subst ha hn
  rfl
theorem goes_wake {g : Rn → Rn} {M : Mt} {i : Nat} {f : Fr} {h : Int} (hw : f.wk.on = true) :
    M.goes g i f h = if f.ret ≠ 0 ∧ (wakeA M.L M.n f.wk).1.on = false then M.put i Fr.zero (behindA f.op f.ret h) (wakeA M.L M.n f.wk).2.2 else M.put i { f with wk := (wakeA M.L M.n f.wk).1 } h (wakeA M.L M.n f.wk).2.2 := by
  have hs : stepR g (M.run i f) = (M.run i f).woke := by
    unfold stepR
    rw [show (M.run i f).f.wk.on = true from hw]
    rfl
  rw [goes_of hs, hw]
  simp only [Bool.not_true, Bool.false_and, Bool.false_eq_true, if_false]
  have e1 : (M.run i f).woke.over = (f.ret != 0 && !(wakeA M.L M.n f.wk).1.on) := rfl
  rw [e1]
  by_cases h1 : f.ret = 0
  · rw [if_neg (by simp [h1]), if_neg (by simp [h1])]
    rfl
  · by_cases h2 : (wakeA M.L M.n f.wk).1.on = false
    · rw [if_pos (by simp [h1, h2]), if_pos ⟨h1, h2⟩]
      rfl
    · rw [if_neg (by simp [h1, h2]), if_neg (by simp [h2])]
      rfl
theorem goes_step {g : Rn → Rn} {M : Mt} {i : Nat} {f : Fr} {h : Int} (hw : f.wk.on = false) (hs : stuckA M.L M.n M.mode i f.st = false) :
    M.goes g i f h = if (g (M.run i f)).over = true then M.put i Fr.zero (behindA (g (M.run i f)).f.op (g (M.run i f)).f.ret h) (g (M.run i f)).L else M.put i (g (M.run i f)).f h (g (M.run i f)).L := by
  rw [goes_of (step_off (g := g) (s := M.run i f) hw rfl rfl), hw, hs]
  simp
theorem goes_stuck {g : Rn → Rn} {M : Mt} {i : Nat} {f : Fr} {h : Int} (hw : f.wk.on = false) (hs : stuckA M.L M.n M.mode i f.st = true) : M.goes g i f h = M.put i f h M.L := by
  unfold Mt.goes
  rw [hw, hs]
  simp
theorem put_same {M : Mt} {i : Nat} (h1 : i < M.fs.length) (h2 : i < M.hold.length) : M.put i (M.fs.getD i Fr.zero) (M.hold.getD i 0) M.L = M := by
  unfold Mt.put
  have e1 : M.fs.set i (M.fs.getD i Fr.zero) = M.fs := by simp [List.getD, h1]
  have e2 : M.hold.set i (M.hold.getD i 0) = M.hold := by simp [List.getD, h2]
  rw [e1, e2]

theorem cell_row {n : Nat} {row i : Int} (h1 : 1 ≤ n) (h2 : n ≤ 64) (h0 : 0 ≤ i) (hi : i < n) : cellP n row i = 8 + row * n + i := by
  unfold cellP
  rw [if_pos (by omega)]
theorem doA_at {L : List Int} {kind c x y : Int} (hc : 0 ≤ c ∧ c < L.length) :
    doA L ⟨kind, c, x, y, 0⟩ = (if kind = 1 then (⟨kind, c, x, y, L.getD c.toNat 0⟩, true, L) else if kind = 3 then (⟨kind, c, x, y, L.getD c.toNat 0⟩, true, L.set c.toNat ((L.getD c.toNat 0 + x) % 4294967296))
      else if kind = 5 then (⟨kind, c, x, y, L.getD c.toNat 0⟩, true, if L.getD c.toNat 0 = x then L.set c.toNat y else L)
      else if kind = 2 ∨ kind = 4 then (⟨kind, c, x, y, L.getD c.toNat 0⟩, true, L.set c.toNat x) else (Acc.zero, false, L)) := by
  unfold doA
  rw [if_pos hc]

/-- A wake-up's step. -/
theorem wake_is {n : Nat} {L : List Int} {k : Wk} (h1 : 1 ≤ n) (h2 : n ≤ 64) (hl : L.length = 8 + 4 * n) (hk : k.on = true) (h0 : 0 ≤ k.i) (hi : k.i < n) :
    wakeA L n k = if k.hit then (nextA n k, (giveA L n k.i).1, L.set (8 + 3 * n + k.i.toNat) 1)
      else (if L.getD (8 + 2 * n + k.i.toNat) 0 = (k.cell + 1) % 4294967296 then ⟨true, k.cell, k.i, true⟩ else nextA n k, (doA L ⟨1, cellP n 2 k.i, 0, 0, 0⟩).1, L) := by
  have e2 : (cellP n 2 k.i).toNat = 8 + 2 * n + k.i.toNat := by rw [cell_row h1 h2 h0 hi]; omega
  have e3 : (cellP n 3 k.i).toNat = 8 + 3 * n + k.i.toNat := by rw [cell_row h1 h2 h0 hi]; omega
  have b2 : 0 ≤ cellP n 2 k.i ∧ cellP n 2 k.i < L.length := by rw [cell_row h1 h2 h0 hi]; omega
  have b3 : 0 ≤ cellP n 3 k.i ∧ cellP n 3 k.i < L.length := by rw [cell_row h1 h2 h0 hi]; omega
  unfold wakeA
  rw [if_pos hk]
  have g3 := doA_at (L := L) (kind := 2) (c := cellP n 3 k.i) (x := 1) (y := 0) b3
  have g2 := doA_at (L := L) (kind := 1) (c := cellP n 2 k.i) (x := 0) (y := 0) b2
  simp at g3 g2
  rw [e3] at g3
  rw [e2] at g2
  have gg : giveA L n k.i = doA L ⟨2, cellP n 3 k.i, 1, 0, 0⟩ := rfl
  rw [gg, g3, g2]
  simp [hk]

/-- What is left of a wake-up. -/
def leftF (n : Nat) (f : Fr) : Nat := if f.wk.on then 2 * (n - f.wk.i.toNat) - (if f.wk.hit then 1 else 0) else 0
theorem left_next {n : Nat} {k : Wk} {f : Fr} (hk : k.on = true) (h0 : 0 ≤ k.i) (hi : k.i < n) : leftF n { f with wk := nextA n k } + 1 ≤ leftF n { f with wk := k } := by
  unfold leftF nextA
  simp only [hk, if_true]
  split <;> split <;> simp [Wk.zero] at * <;> (try split) <;> omega

end Go.Proofs.Ytmbbcgkfankiaaa.Z

/- A lock's operation by itself, line by line. No program is in sight but the model's words. -/
set_option linter.unusedVariables false
set_option linter.unusedSimpArgs false
namespace Go.Proofs.Ytmbbcgkfankiaaa.Z
open Go.RowKit

/-- A run at a line, afresh. -/
def RnF (n mode op line a b : Int) (L : List Int) : Rn := ⟨n, mode, 0, ⟨op, line, a, b, 0, Wk.zero, 0⟩, Acc.zero, [], L⟩
def At (n mode : Int) (s : Rn) (op line a b : Int) (L : List Int) : Prop := s.fresh = RnF n mode op line a b L

section
variable {n mode : Int} {s s1 : Rn} {op line a b line' a' b' : Int} {L L' : List Int} {g : Rn → Rn}
theorem At.wk (h : At n mode s op line a b L) : s.f.wk = Wk.zero := congrArg (fun x => x.f.wk) h
theorem At.ret (h : At n mode s op line a b L) : s.f.ret = 0 := congrArg (fun x => x.f.ret) h
theorem At.over (h : At n mode s op line a b L) : s.over = false := by unfold Rn.over; rw [h.ret]; rfl
theorem At.step (h : At n mode s op line a b L) : stepR g s = g (RnF n mode op line a b L) := by
  unfold stepR
  rw [h.wk]
  show g s.fresh = _
  rw [show s.fresh = _ from h]
theorem start_at : At n mode (start n mode op L) op 0 0 0 L := rfl

/-- A line, and on. -/
theorem At.go (h : At n mode s op line a b L) (hg : g (RnF n mode op line a b L) = s1) (h1 : At n mode s1 op line' a' b' L') (q : Nat) : aloneA g (q + 1) s = aloneA g q s1 := by
  show (if (stepR g s).over then ((stepR g s).f.ret, stepR g s) else aloneA g q (stepR g s)) = _
  rw [h.step, hg, h1.over]
  rfl
/-- A line that ends the operation. -/
theorem At.fin (h : At n mode s op line a b L) (hg : g (RnF n mode op line a b L) = s1) (hr : s1.f.ret ≠ 0) (hk : s1.f.wk = Wk.zero) (q : Nat) : aloneA g (q + 1) s = (s1.f.ret, s1) := by
  show (if (stepR g s).over then ((stepR g s).f.ret, stepR g s) else aloneA g q (stepR g s)) = _
  rw [h.step, hg, if_pos (by unfold Rn.over; rw [hk]; simpa [Wk.zero] using hr)]
theorem At.fin2 (h : At n mode s op line a b L) (hg : g (RnF n mode op line a b L) = s1) (hr : s1.f.ret ≠ 0) (hk : s1.f.wk = Wk.zero) (q : Nat) : ∃ s', aloneA g (q + 1) s = (s1.f.ret, s') ∧ s'.L = s1.L := ⟨s1, h.fin hg hr hk q, rfl⟩
/-- A line that ends the operation, and begins a wake-up. -/
theorem At.ends (h : At n mode s op line a b L) (c : Int) (hg : g (RnF n mode op line a b L) = s1) (hr : s1.f.ret ≠ 0) (hk : s1.f.wk = beginA mode c) (hn : s1.n = n) (h1 : 1 ≤ n) (hc : NoWatch n c s1.L) (q : Nat) :
    ∃ s', aloneA g (q + n.toNat + 1) s = (s1.f.ret, s') ∧ s'.L = s1.L := by
  have hgo : aloneA g (q + n.toNat + 1) s = if s1.over then (s1.f.ret, s1) else aloneA g (q + n.toNat) s1 := by
    show (if (stepR g s).over then ((stepR g s).f.ret, stepR g s) else aloneA g (q + n.toNat) (stepR g s)) = _
    rw [h.step, hg]
  by_cases h2 : mode = 2
  · have hk2 : s1.f.wk = ⟨true, c, 0, false⟩ := by rw [hk]; unfold beginA; rw [if_pos h2]
    obtain ⟨s', _, _, k3, _, k5, _⟩ := alone_wakes g c n.toNat s1 0 (q + n.toNat) hk2 (Int.le_refl _) (by omega) (by omega) (by rw [hn]; exact hc) (by omega)
    refine ⟨s', ?_, k3⟩
    rw [hgo, if_neg (by unfold Rn.over; rw [hk2]; simp), k5 hr]
  · have hk2 : s1.f.wk = Wk.zero := by rw [hk]; unfold beginA; rw [if_neg h2]
    refine ⟨s1, ?_, rfl⟩
    rw [hgo, if_pos (by unfold Rn.over; rw [hk2]; simpa [Wk.zero] using hr)]
/-- A line that begins a wake-up, behind which the operation goes on. -/
theorem At.wakes (h : At n mode s op line a b L) (c : Int) (hg : g (RnF n mode op line a b L) = s1) (hr : s1.rests = RnF n mode op line' a' b' L') (hk : s1.f.wk = beginA mode c) (h1 : 1 ≤ n) (hc : NoWatch n c L') (q : Nat) :
    ∃ s' q', At n mode s' op line' a' b' L' ∧ q ≤ q' ∧ aloneA g (q + n.toNat + 1) s = aloneA g q' s' := by
  have hL : s1.L = L' := congrArg (fun x => x.L) hr
  have hn : s1.n = n := congrArg (fun x => x.n) hr
  have hret : s1.f.ret = 0 := congrArg (fun x => x.f.ret) hr
  have hgo : aloneA g (q + n.toNat + 1) s = if s1.over then (s1.f.ret, s1) else aloneA g (q + n.toNat) s1 := by
    show (if (stepR g s).over then ((stepR g s).f.ret, stepR g s) else aloneA g (q + n.toNat) (stepR g s)) = _
    rw [h.step, hg]
  have hov : s1.over = false := by unfold Rn.over; rw [hret]; rfl
  rw [hov] at hgo
  by_cases h2 : mode = 2
  · have hk2 : s1.f.wk = ⟨true, c, 0, false⟩ := by rw [hk]; unfold beginA; rw [if_pos h2]
    obtain ⟨s', k1, _, _, _, _, k6⟩ := alone_wakes g c n.toNat s1 0 (q + n.toNat) hk2 (Int.le_refl _) (by omega) (by omega) (by rw [hn, hL]; exact hc) (by omega)
    refine ⟨s', q, k1.trans hr, Nat.le_refl _, ?_⟩
    rw [hgo]
    have := k6 hret
    rw [Nat.add_sub_cancel] at this
    exact this
  · have hk2 : s1.f.wk = Wk.zero := by rw [hk]; unfold beginA; rw [if_neg h2]
    refine ⟨s1, q + n.toNat, ?_, by omega, hgo⟩
    unfold At
    rw [← hr]
    unfold Rn.fresh Rn.rests
    rw [← hk2]
end

theorem stageA_0 (mode : Int) : stageA mode 0 = 0 := by unfold stageA; split <;> rfl
/-- What is waited for holds. -/
theorem wait_hit {L : List Int} {n mode task c : Int} {p : Int → Bool} (h : p (doA L ⟨1, c, 0, 0, 0⟩).1.old = true) : waitA L n mode task 0 c p = ⟨0, (doA L ⟨1, c, 0, 0, 0⟩).1, true, true, L⟩ := by
  rw [waitA0 (stageA_0 mode), h]
  rfl

end Go.Proofs.Ytmbbcgkfankiaaa.Z
