/- 6 texts of this claim, joined: what Package world needs of them. -/
import Derived.Test.YthnimpkoidablaaGreatZB18
import Derived.Test.YthnimpkoidablaaGreatZB19
import Derived.Test.YthnimpkoidablaaGreatZB20
import Derived.Test.YthnimpkoidablaaGreatZB21
import Derived.Test.YthnimpkoidablaaGreatZB14
import Derived.Test.YthnimpkoidablaaGreatZB22
import Derived.Test.YthnimpkoidablaaGreatZB11
import Derived.Test.YthnimpkoidablaaGreatZB15
import Derived.Test.YthnimpkoidablaaGreatZB08
import Derived.Test.YthnimpkoidablaaGreatZB00
import Derived.ProofKit
import Derived.OpenShut
import Derived.ChangeOld
import Derived.SizedLaws
import Derived.Deep.Slices
set_option linter.unusedVariables false
set_option linter.unusedSimpArgs false
namespace Go.Proofs.YthnimpkoidablaaGreat.Z
open Go.RowKit
theorem tf_stepR {S0 : List Nat} {w0 w : World} {m a r : Nat} {rs : List Res} {s : Rn} (H : RunHas S0 w0 m a r rs s w) (hok : s.ok) :
    Calls Tryz.prog 54 #[.pointer (some ⟨r, 0, none⟩), .func (.func 67) #[] #[]] w fun e w' => e = .returned (.bool (stepR tfA s).over) ∧ RunHas S0 w0 m a r rs (stepR tfA s) w' := by
  cases hw : s.f.wk.on with
  | true =>
    have e : stepR tfA s = s.woke := by unfold stepR; rw [hw]; rfl
    rw [e]
    exact run_step_wake H hw hok.1 _
  | false =>
    have e : stepR tfA s = tfA s.fresh := by unfold stepR; rw [hw]; rfl
    rw [e]
    exact run_step_lines H hw 67 #[] #[] (enters_of Tryz.func67 (by kernel_rfl) rfl) (fun W HW => tf_lines HW hok.1 hok.2.1 (by simp [Rn.fresh]))
theorem tf_stepok {s : Rn} (hw : Words s.L) (h : s.ok) : (stepR tfA s).ok ∧ (stepR tfA s).notes.length ≤ 10 := by
  unfold stepR
  split
  · exact ⟨woke_ok h, by simp [Rn.woke]⟩
  · have := tfA_fine s.fresh hw (fresh_ok h)
    exact ⟨this.1, by simpa [Rn.fresh] using this.2⟩
theorem pf_stepR {S0 : List Nat} {w0 w : World} {m a r : Nat} {rs : List Res} {s : Rn} (H : RunHas S0 w0 m a r rs s w) (hok : s.ok) :
    Calls Tryz.prog 54 #[.pointer (some ⟨r, 0, none⟩), .func (.func 68) #[] #[]] w fun e w' => e = .returned (.bool (stepR pfA s).over) ∧ RunHas S0 w0 m a r rs (stepR pfA s) w' := by
  cases hw : s.f.wk.on with
  | true =>
    have e : stepR pfA s = s.woke := by unfold stepR; rw [hw]; rfl
    rw [e]
    exact run_step_wake H hw hok.1 _
  | false =>
    have e : stepR pfA s = pfA s.fresh := by unfold stepR; rw [hw]; rfl
    rw [e]
    exact run_step_lines H hw 68 #[] #[] (enters_of Tryz.func68 (by kernel_rfl) rfl) (fun W HW => pf_lines HW hok.1 hok.2.1 hok.2.2 (by simp [Rn.fresh]))
theorem pf_stepok {s : Rn} (hw : Words s.L) (h : s.ok) : (stepR pfA s).ok ∧ (stepR pfA s).notes.length ≤ 10 := by
  unfold stepR
  split
  · exact ⟨woke_ok h, by simp [Rn.woke]⟩
  · have := pfA_fine s.fresh hw (fresh_ok h)
    exact ⟨this.1, by simpa [Rn.fresh] using this.2⟩
theorem pq_stepR {S0 : List Nat} {w0 w : World} {m a r : Nat} {rs : List Res} {s : Rn} (H : RunHas S0 w0 m a r rs s w) (hok : s.ok) :
    Calls Tryz.prog 54 #[.pointer (some ⟨r, 0, none⟩), .func (.func 69) #[] #[]] w fun e w' => e = .returned (.bool (stepR pqA s).over) ∧ RunHas S0 w0 m a r rs (stepR pqA s) w' := by
  cases hw : s.f.wk.on with
  | true =>
    have e : stepR pqA s = s.woke := by unfold stepR; rw [hw]; rfl
    rw [e]
    exact run_step_wake H hw hok.1 _
  | false =>
    have e : stepR pqA s = pqA s.fresh := by unfold stepR; rw [hw]; rfl
    rw [e]
    exact run_step_lines H hw 69 #[] #[] (enters_of Tryz.func69 (by kernel_rfl) rfl) (fun W HW => pq_lines HW hok.1 hok.2.1 hok.2.2 (by simp [Rn.fresh]))
theorem pq_stepok {s : Rn} (hw : Words s.L) (h : s.ok) : (stepR pqA s).ok ∧ (stepR pqA s).notes.length ≤ 10 := by
  unfold stepR
  split
  · exact ⟨woke_ok h, by simp [Rn.woke]⟩
  · have := pqA_fine s.fresh hw (fresh_ok h)
    exact ⟨this.1, by simpa [Rn.fresh] using this.2⟩
theorem fq_stepR {S0 : List Nat} {w0 w : World} {m a r : Nat} {rs : List Res} {s : Rn} (H : RunHas S0 w0 m a r rs s w) (hok : s.ok) :
    Calls Tryz.prog 54 #[.pointer (some ⟨r, 0, none⟩), .func (.func 70) #[] #[]] w fun e w' => e = .returned (.bool (stepR fqA s).over) ∧ RunHas S0 w0 m a r rs (stepR fqA s) w' := by
  cases hw : s.f.wk.on with
  | true =>
    have e : stepR fqA s = s.woke := by unfold stepR; rw [hw]; rfl
    rw [e]
    exact run_step_wake H hw hok.1 _
  | false =>
    have e : stepR fqA s = fqA s.fresh := by unfold stepR; rw [hw]; rfl
    rw [e]
    exact run_step_lines H hw 70 #[] #[] (enters_of Tryz.func70 (by kernel_rfl) rfl) (fun W HW => fq_lines HW hok.1 hok.2.1 (by simp [Rn.fresh]))
theorem fq_stepok {s : Rn} (hw : Words s.L) (h : s.ok) : (stepR fqA s).ok ∧ (stepR fqA s).notes.length ≤ 10 := by
  unfold stepR
  split
  · exact ⟨woke_ok h, by simp [Rn.woke]⟩
  · have := fqA_fine s.fresh hw (fresh_ok h)
    exact ⟨this.1, by simpa [Rn.fresh] using this.2⟩
theorem rf_stepR {S0 : List Nat} {w0 w : World} {m a r : Nat} {rs : List Res} {s : Rn} (H : RunHas S0 w0 m a r rs s w) (hok : s.ok) :
    Calls Tryz.prog 54 #[.pointer (some ⟨r, 0, none⟩), .func (.func 71) #[] #[]] w fun e w' => e = .returned (.bool (stepR rfA s).over) ∧ RunHas S0 w0 m a r rs (stepR rfA s) w' := by
  cases hw : s.f.wk.on with
  | true =>
    have e : stepR rfA s = s.woke := by unfold stepR; rw [hw]; rfl
    rw [e]
    exact run_step_wake H hw hok.1 _
  | false =>
    have e : stepR rfA s = rfA s.fresh := by unfold stepR; rw [hw]; rfl
    rw [e]
    exact run_step_lines H hw 71 #[] #[] (enters_of Tryz.func71 (by kernel_rfl) rfl) (fun W HW => rf_lines HW hok.1 hok.2.1 (by simp [Rn.fresh]))
theorem rf_stepok {s : Rn} (hw : Words s.L) (h : s.ok) : (stepR rfA s).ok ∧ (stepR rfA s).notes.length ≤ 10 := by
  unfold stepR
  split
  · exact ⟨woke_ok h, by simp [Rn.woke]⟩
  · have := rfA_fine s.fresh hw (fresh_ok h)
    exact ⟨this.1, by simpa [Rn.fresh] using this.2⟩
theorem wf_stepR {S0 : List Nat} {w0 w : World} {m a r : Nat} {rs : List Res} {s : Rn} (H : RunHas S0 w0 m a r rs s w) (hok : s.ok) :
    Calls Tryz.prog 54 #[.pointer (some ⟨r, 0, none⟩), .func (.func 72) #[] #[]] w fun e w' => e = .returned (.bool (stepR wfA s).over) ∧ RunHas S0 w0 m a r rs (stepR wfA s) w' := by
  cases hw : s.f.wk.on with
  | true =>
    have e : stepR wfA s = s.woke := by unfold stepR; rw [hw]; rfl
    rw [e]
    exact run_step_wake H hw hok.1 _
  | false =>
    have e : stepR wfA s = wfA s.fresh := by unfold stepR; rw [hw]; rfl
    rw [e]
    exact run_step_lines H hw 72 #[] #[] (enters_of Tryz.func72 (by kernel_rfl) rfl) (fun W HW => wf_lines HW hok.1 hok.2.1 (by simp [Rn.fresh]))
theorem wf_stepok {s : Rn} (hw : Words s.L) (h : s.ok) : (stepR wfA s).ok ∧ (stepR wfA s).notes.length ≤ 10 := by
  unfold stepR
  split
  · exact ⟨woke_ok h, by simp [Rn.woke]⟩
  · have := wfA_fine s.fresh hw (fresh_ok h)
    exact ⟨this.1, by simpa [Rn.fresh] using this.2⟩
end Go.Proofs.YthnimpkoidablaaGreat.Z

set_option linter.unusedVariables false
set_option linter.unusedSimpArgs false
namespace Go.Proofs.YthnimpkoidablaaGreat.Z
open Go.RowKit Go.Lib
structure KindAll (kind : Int) (fid : FuncId) (g : Rn → Rn) (Z : Int → Int → List Int) : Prop where
  ok : KindOk fid g
  lines : ∀ w, Calls Tryz.prog 46 #[.int .i64 kind] w fun e w' => e = .returned (.tuple #[.func (.func fid) #[] #[], .bool true]) ∧ w = w'
  first : ∀ (n base : Int) (w : World), 1 ≤ n ∧ n ≤ 64 → 0 ≤ base ∧ base < 4294967296 → Calls Tryz.prog 47 #[.int .i64 kind, .int .i64 n, .int .u32 base] w (NewWords w (Z n base))
def ownZ (own : Int → List Int) (m : Nat) (n base : Int) : List Int := own base ++ List.replicate ((8 + 4 * n).toNat - m) 0
theorem slines1 (w : World) : Calls Tryz.prog 46 #[.int .i64 1] w fun e w' => e = .returned (.tuple #[.func (.func 67) #[] #[], .bool true]) ∧ w = w' := by
  go_enter Tryz.func46, Tryz.ntmps46
  go_wp2
  go_ret2
  exact ⟨rfl, rfl⟩
theorem kind_tf : KindAll 1 67 tfA (ownZ own1 3) :=
  ⟨⟨fun H hok => tf_stepR H hok, fun hw hok => tf_stepok hw hok⟩, slines1, fun n base w h hb => first1 n base w h hb⟩
theorem slines2 (w : World) : Calls Tryz.prog 46 #[.int .i64 2] w fun e w' => e = .returned (.tuple #[.func (.func 68) #[] #[], .bool true]) ∧ w = w' := by
  go_enter Tryz.func46, Tryz.ntmps46
  go_wp2
  go_ret2
  exact ⟨rfl, rfl⟩
theorem kind_pf : KindAll 2 68 pfA (ownZ own2 5) :=
  ⟨⟨fun H hok => pf_stepR H hok, fun hw hok => pf_stepok hw hok⟩, slines2, fun n base w h hb => first2 n base w h hb⟩
theorem slines3 (w : World) : Calls Tryz.prog 46 #[.int .i64 3] w fun e w' => e = .returned (.tuple #[.func (.func 69) #[] #[], .bool true]) ∧ w = w' := by
  go_enter Tryz.func46, Tryz.ntmps46
  go_wp2
  go_ret2
  exact ⟨rfl, rfl⟩
theorem kind_pq : KindAll 3 69 pqA (ownZ own3 4) :=
  ⟨⟨fun H hok => pq_stepR H hok, fun hw hok => pq_stepok hw hok⟩, slines3, fun n base w h hb => first3 n base w h hb⟩
theorem slines4 (w : World) : Calls Tryz.prog 46 #[.int .i64 4] w fun e w' => e = .returned (.tuple #[.func (.func 70) #[] #[], .bool true]) ∧ w = w' := by
  go_enter Tryz.func46, Tryz.ntmps46
  go_wp2
  go_ret2
  exact ⟨rfl, rfl⟩
theorem kind_fq : KindAll 4 70 fqA (ownZ own4 2) :=
  ⟨⟨fun H hok => fq_stepR H hok, fun hw hok => fq_stepok hw hok⟩, slines4, fun n base w h hb => first4 n base w h hb⟩
theorem slines5 (w : World) : Calls Tryz.prog 46 #[.int .i64 5] w fun e w' => e = .returned (.tuple #[.func (.func 71) #[] #[], .bool true]) ∧ w = w' := by
  go_enter Tryz.func46, Tryz.ntmps46
  go_wp2
  go_ret2
  exact ⟨rfl, rfl⟩
theorem kind_rf : KindAll 5 71 rfA (ownZ own5 1) :=
  ⟨⟨fun H hok => rf_stepR H hok, fun hw hok => rf_stepok hw hok⟩, slines5, fun n base w h hb => first5 n base w h hb⟩
theorem slines6 (w : World) : Calls Tryz.prog 46 #[.int .i64 6] w fun e w' => e = .returned (.tuple #[.func (.func 72) #[] #[], .bool true]) ∧ w = w' := by
  go_enter Tryz.func46, Tryz.ntmps46
  go_wp2
  go_ret2
  exact ⟨rfl, rfl⟩
theorem kind_wf : KindAll 6 72 wfA (ownZ own6 1) :=
  ⟨⟨fun H hok => wf_stepR H hok, fun hw hok => wf_stepok hw hok⟩, slines6, fun n base w h hb => first6 n base w h hb⟩
theorem task_info : (Tryz.prog.info? 78).map (fun i => (i.zero, i.size, i.bytes)) = some (some (.agg #[.int .i64 0, .int .i64 0, .int .i64 0, .int .u32 0, .int .u32 0, .int .i64 0, .bool false, .int .i64 0, .int .i64 0, .bool false, .int .i64 0]), 11, 80) := by kernel_rfl
theorem made_tasks (n : Nat) : (madeCells (Value.agg #[.int .i64 0, .int .i64 0, .int .i64 0, .int .u32 0, .int .u32 0, .int .i64 0, .bool false, .int .i64 0, .int .i64 0, .bool false, .int .i64 0]).cells (n * 11)).toList = tcells (List.replicate n 0) (List.replicate n Fr.zero) := by
  apply List.ext_getElem?
  intro j
  by_cases h : j < n * 11
  · have hr : j % 11 < 11 := Nat.mod_lt _ (by decide)
    have hj : j / 11 < n := Nat.div_lt_of_lt_mul (by omega)
    have h2 := tc_get (List.replicate n 0) (List.replicate n Fr.zero) (j / 11) (j % 11) (by simp) (by simpa using hj) hr
    rw [show j / 11 * 11 + j % 11 = j by omega] at h2
    rw [h2, show (List.replicate n (0 : Int)).getD (j / 11) 0 = 0 by simp [List.getD, hj], show (List.replicate n Fr.zero).getD (j / 11) Fr.zero = Fr.zero by simp [List.getD, hj]]
    have e : (madeCells (Value.agg #[.int .i64 0, .int .i64 0, .int .i64 0, .int .u32 0, .int .u32 0, .int .i64 0, .bool false, .int .i64 0, .int .i64 0, .bool false, .int .i64 0]).cells (n * 11)).toList[j]? = some ((#[.int .i64 0, .int .i64 0, .int .i64 0, .int .u32 0, .int .u32 0, .int .i64 0, .bool false, .int .i64 0, .int .i64 0, .bool false, .int .i64 0] : Array Value)[j % 11]!) := by
      simp [madeCells, Value.cells, h]
    rw [e]
    generalize j % 11 = r at hr
    have hc : r = 0 ∨ r = 1 ∨ r = 2 ∨ r = 3 ∨ r = 4 ∨ r = 5 ∨ r = 6 ∨ r = 7 ∨ r = 8 ∨ r = 9 ∨ r = 10 := by omega
    rcases hc with rfl | rfl | rfl | rfl | rfl | rfl | rfl | rfl | rfl | rfl | rfl <;> rfl
  · rw [List.getElem?_eq_none (by simp [madeCells]; omega), List.getElem?_eq_none (by rw [tc_len _ _ (by simp)]; simp; omega)]
theorem own_fullW {w : World} {e size b n : Nat} {xs : List Value} (h : w.ownsRow 0 e size (.slice (some ⟨b, 0, none⟩) n n) n xs) : Blk w b xs.toArray := by
  rcases h.2 with ⟨hv, _⟩ | ⟨g, cap, cur, hv, _, hg, _, _, hs, ht⟩
  · cases hv
  · simp only [Value.slice.injEq, Option.some.injEq, Addr.mk.injEq] at hv
    obtain ⟨⟨rfl, _, _⟩, _, rfl⟩ := hv
    refine ⟨e, ?_⟩
    rw [hg]
    have : cur.toList = xs := by rw [← ht, List.take_of_length_le]; simp [hs]
    rw [← this]
theorem start_fit (k : Nat) (mode : Int) (Z : List Int) (h1 : 1 ≤ k) (h2 : k ≤ 64) : WFit (Mt.start k mode Z) := by
  refine ⟨by simp [Mt.start], by simp [Mt.start], by simpa [Mt.start] using h2, by simpa [Mt.start] using h1, fun f hf => ?_, fun h hh => ?_⟩
  · obtain rfl := (List.mem_replicate.1 hf).2
    exact ⟨by simp [Fr.zero], by simp [Fr.zero]⟩
  · exact Or.inl (List.mem_replicate.1 hh).2
def WMade (S0 : List Nat) (w0 : World) (kind : Int) (fid : FuncId) (rs : List Res) (M : Mt) (e : Ending) (w' : World) : Prop :=
  ∃ m a x tb, e = .returned (.tuple #[.pointer (some ⟨x, 0, none⟩), .int .i64 0]) ∧ WHas S0 w0 ⟨kind, fid, m, a, x, tb⟩ rs M w'
theorem wmade {S0 : List Nat} {w0 w w' : World} {k : Nat} {rs : List Res} (H : Has S0 w0 w rs) (hown : w'.ownsRow 0 78 11 (.slice (some ⟨w.heap.size, 0, none⟩) k k) k (madeCells (Value.agg #[.int .i64 0, .int .i64 0, .int .i64 0, .int .u32 0, .int .u32 0, .int .i64 0, .bool false, .int .i64 0, .int .i64 0, .bool false, .int .i64 0]).cells (k * 11)).toList) (hg : w.grownBy w' none) :
    Has S0 w0 w' (.blk w.heap.size (tcells (List.replicate k 0) (List.replicate k Fr.zero)).toArray :: rs) := by
  refine H.came _ (S := []) ((Touch.refl [] w).grown hg (by simp)) (by simp) ?_ (by simp [Res.foot])
  rw [← made_tasks]
  exact own_fullW hown
theorem wboxed {S0 : List Nat} {w0 w : World} {m a tb k : Nat} {kind mode : Int} {fid : FuncId} {Z : List Int} {row : Res} {rs : List Res} {T : TypeId} (H : Has S0 w0 w (.blk tb (tcells (List.replicate k 0) (List.replicate k Fr.zero)).toArray :: .mem m a Z :: row :: rs)) :
    Has S0 w0 (w.alloc (.cells #[.int .i64 kind, .int .i64 mode, .pointer (some ⟨m, 0, none⟩), .int .i64 k, .func (.func fid) #[] #[], .slice (some ⟨tb, 0, none⟩) k k] T)) (.mem m a Z :: .blk w.heap.size (wcells ⟨kind, fid, m, a, w.heap.size, tb⟩ mode k (List.replicate k Fr.zero).length) :: .blk tb (tcells (List.replicate k 0) (List.replicate k Fr.zero)).toArray :: rs) := by
  rw [List.length_replicate]
  exact ((Has.new1 H).front 3 (by simp)).tail.front 2 (by simp)
set_option maxHeartbeats 3200000 in
set_option maxRecDepth 100000 in
theorem wnew_ok {S0 : List Nat} {w0 w : World} {kind : Int} {fid : FuncId} {g : Rn → Rn} {Z : Int → Int → List Int} {rs : List Res} (K : KindAll kind fid g Z) (H : Has S0 w0 w rs) (mode : Int) (k : Nat) (base : Int) (hm : mode = 1 ∨ mode = 2) (h1 : 1 ≤ k) (h2 : k ≤ 64) (hb : 0 ≤ base ∧ base < 4294967296) :
    Calls Tryz.prog 29 #[.int .i64 kind, .int .i64 mode, .int .i64 k, .int .u32 base] w (WMade S0 w0 kind fid rs (Mt.start k mode (Z k base))) := by
  have hl := K.lines
  have hf := fun w => K.first k base w (by omega) hb
  have HL := Lib.hid hl
  have HF := Lib.hid hf
  have HH := Lib.hid H
  obtain ⟨i0, hi0, hz0, hz1, hz2⟩ := info_parts task_info
  have HI := Lib.hid (show _ ∧ _ ∧ _ ∧ _ from ⟨hi0, hz0, hz1, hz2⟩)
  have HFIT := Lib.hid (start_fit k mode (Z k base) h1 h2)
  generalize Z k base = ZZ at HF HFIT ⊢
  have hmd : ¬ (mode ≠ 1 ∧ mode ≠ 2) := by omega
  have H12 := Lib.hid h2
  have H11 := Lib.hid h1
  clear hl hf H hi0 hz0 hz1 hz2 h1 h2 hb
  rcases hm with rfl | rfl
  all_goals
    clear hmd
    go_enter Tryz.func29, Tryz.ntmps29
    go_wp2_with fail
    refine (HL.out _).mono ?_
    rintro e W1 ⟨rfl, rfl⟩
    go_wp2_with fail
    refine (HF.out _).mono ?_
    intro e w2 h2
    obtain ⟨pz, gz, cz, rfl, H2⟩ := has_newwords HH.out h2
    go_wp2_with fail
    refine (fromRow_has H2 rfl).mono ?_
    rintro e w3 ⟨m, a, rfl, H3⟩
    have HH3 := Lib.hid H3
    clear H2 H3 h2
    go_wp2_with (at_make; refine wpList_make_full _ rfl _ _ 66 rfl 0 78 i0 _ 11 Tryz.underlying66 HI.out.1 HI.out.2.1 HI.out.2.2.1 _ _ _ _ k rfl rfl (by omega) (by omega) (by rw [HI.out.2.2.2]; have := H12.out; omega) (by unfold maxLen; have := H12.out; omega) (Nat.zero_le _) ?_; intro w4 hown hg; have HMK := Lib.hid (wmade HH3.out hown hg); clear hown hg)
    go_ret2
    exact ⟨m, a, w4.heap.size, w3.heap.size, rfl, HFIT.out, wboxed HMK.out⟩
end Go.Proofs.YthnimpkoidablaaGreat.Z

set_option linter.unusedVariables false
set_option linter.unusedSimpArgs false
namespace Go.Proofs.YthnimpkoidablaaGreat.Z
open Go.RowKit
structure Lk where
  kind : Int
  mode : Int
  n : Int
  base : Int
def Lk.cells (x : Lk) : List Value := [.int .u8 x.kind, .int .u8 x.mode, .int .u8 x.n, .int .u32 x.base]
def LkOk (x : Lk) : Prop := ((0 ≤ x.kind ∧ x.kind < 256) ∧ (0 ≤ x.mode ∧ x.mode < 256)) ∧ (0 ≤ x.n ∧ x.n < 256) ∧ (0 ≤ x.base ∧ x.base < 4294967296)
def Lk.k (x : Lk) : Nat := 1 + (x.n % 64).toNat
theorem tmod_small {a m : Int} (h0 : 0 ≤ a) (h1 : a < 256) : Int.tmod a m = a % m := Int.tmod_eq_emod_of_nonneg h0
theorem lkind_ok (x : Lk) (hx : LkOk x) (w : World) : Calls Tryz.prog 15 #[.agg x.cells.toArray] w fun e w' => e = .returned (.int .i64 (1 + x.kind % 6)) ∧ Touch [] w w' := by
  obtain ⟨kk, mm, nn, bb⟩ := x
  obtain ⟨⟨⟨h0, h1⟩, _⟩, _⟩ := hx
  simp only at h0 h1
  simp only [Lk.cells]
  have ht := tmod_small (m := 6) h0 h1
  have hw : IntKind.i64.wrap kk = kk := by rw [IntKind.wrap_i64]; omega
  have hw2 : IntKind.i64.wrap (1 + kk % 6) = 1 + kk % 6 := by rw [IntKind.wrap_i64]; omega
  have hw3 : IntKind.i64.wrap (kk % 6) = kk % 6 := by rw [IntKind.wrap_i64]; omega
  go_enter Tryz.func15, Tryz.ntmps15
  go_wp2
  go_ret
  exact ⟨by simp [ht, hw, hw2, hw3], (Touch.refl [] w).alloc _⟩
theorem lmode_ok (x : Lk) (hx : LkOk x) (w : World) : Calls Tryz.prog 30 #[.agg x.cells.toArray] w fun e w' => e = .returned (.int .i64 (1 + x.mode % 2)) ∧ Touch [] w w' := by
  obtain ⟨kk, mm, nn, bb⟩ := x
  obtain ⟨⟨_, h0, h1⟩, _⟩ := hx
  simp only at h0 h1
  simp only [Lk.cells]
  have ht := tmod_small (m := 2) h0 h1
  have hw : IntKind.i64.wrap mm = mm := by rw [IntKind.wrap_i64]; omega
  have hw2 : IntKind.i64.wrap (1 + mm % 2) = 1 + mm % 2 := by rw [IntKind.wrap_i64]; omega
  have hw3 : IntKind.i64.wrap (mm % 2) = mm % 2 := by rw [IntKind.wrap_i64]; omega
  go_enter Tryz.func30, Tryz.ntmps30
  go_wp2
  go_ret
  exact ⟨by simp [ht, hw, hw2, hw3], (Touch.refl [] w).alloc _⟩
theorem ln_ok (x : Lk) (hx : LkOk x) (w : World) : Calls Tryz.prog 16 #[.agg x.cells.toArray] w fun e w' => e = .returned (.int .i64 x.k) ∧ Touch [] w w' := by
  obtain ⟨kk, mm, nn, bb⟩ := x
  obtain ⟨_, ⟨h0, h1⟩, _⟩ := hx
  simp only at h0 h1
  simp only [Lk.cells, Lk.k]
  have ht := tmod_small (m := 64) h0 h1
  have hw : IntKind.i64.wrap nn = nn := by rw [IntKind.wrap_i64]; omega
  have hw2 : IntKind.i64.wrap (1 + nn % 64) = 1 + nn % 64 := by rw [IntKind.wrap_i64]; omega
  have hw3 : IntKind.i64.wrap (nn % 64) = nn % 64 := by rw [IntKind.wrap_i64]; omega
  have e : ((1 + (nn % 64).toNat : Nat) : Int) = 1 + nn % 64 := by omega
  rw [e]
  clear e
  go_enter Tryz.func16, Tryz.ntmps16
  go_wp2
  go_ret
  exact ⟨by simp [ht, hw, hw2, hw3], (Touch.refl [] w).alloc _⟩
def LMade (S0 : List Nat) (w0 : World) (kind : Int) (fid : FuncId) (rs : List Res) (M : Mt) (e : Ending) (w' : World) : Prop :=
  ∃ m a x tb, e = .returned (.pointer (some ⟨x, 0, none⟩)) ∧ WHas S0 w0 ⟨kind, fid, m, a, x, tb⟩ rs M w'
def Lk.st (x : Lk) (Z : Int → Int → List Int) : Mt := Mt.start x.k (1 + x.mode % 2) (Z x.k x.base)
def LkF (S0 : List Nat) (w0 : World) (b0 : Nat) (cs : Array Value) (w : World) : Prop := ∃ rest, Has S0 w0 w (.blk b0 cs :: rest)
theorem lkf {S0 : List Nat} {w0 : World} {b0 : Nat} {cs : Array Value} {w : World} (h : LkF S0 w0 b0 cs w) : LkF S0 w0 b0 cs w ∧ (∀ i, w.cell? ⟨b0, i, none⟩ = cs[i]?) := by
  obtain ⟨rest, H⟩ := h
  exact ⟨⟨rest, H⟩, H.blk.cell⟩
theorem WHas.lkf {S0 : List Nat} {w0 w : World} {p : Wl} {b0 : Nat} {cs : Array Value} {rs : List Res} {M : Mt} (H : WHas S0 w0 p (.blk b0 cs :: rs) M w) : LkF S0 w0 b0 cs w := ⟨_, Has.front H.2 3 (by simp)⟩
def CallTo (S0 : List Nat) (w0 : World) (f : FuncId) (args : Array Value) (rs : List Res) (v : Value) : Prop := ∀ w, Has S0 w0 w rs → Calls Tryz.prog f args w fun e w' => e = .returned v ∧ Has S0 w0 w' rs
set_option maxHeartbeats 3200000 in
set_option maxRecDepth 100000 in
theorem lmade_ok {S0 : List Nat} {w0 w : World} {x : Lk} (hx : LkOk x) {fid : FuncId} {g : Rn → Rn} {Z : Int → Int → List Int} {rs : List Res} (K : KindAll (1 + x.kind % 6) fid g Z) (H : Has S0 w0 w rs) :
    Calls Tryz.prog 10 #[.agg x.cells.toArray] w (LMade S0 w0 (1 + x.kind % 6) fid rs (x.st Z)) := by
  have hkind : ∀ b, CallTo S0 w0 15 #[.agg x.cells.toArray] (.blk b x.cells.toArray :: rs) (.int .i64 (1 + x.kind % 6)) := fun b w h => (lkind_ok x hx w).mono fun e w' hh => ⟨hh.1, h.grow hh.2⟩
  have hmode : ∀ b, CallTo S0 w0 30 #[.agg x.cells.toArray] (.blk b x.cells.toArray :: rs) (.int .i64 (1 + x.mode % 2)) := fun b w h => (lmode_ok x hx w).mono fun e w' hh => ⟨hh.1, h.grow hh.2⟩
  have hn : ∀ b, CallTo S0 w0 16 #[.agg x.cells.toArray] (.blk b x.cells.toArray :: rs) (.int .i64 x.k) := fun b w h => (ln_ok x hx w).mono fun e w' hh => ⟨hh.1, h.grow hh.2⟩
  have hnew := fun (w : World) (rs : List Res) (HX : Has S0 w0 w rs) => wnew_ok K HX (1 + x.mode % 2) x.k x.base (by have := hx.1.2; omega) (by unfold Lk.k; omega) (by have := hx.2.1; unfold Lk.k; omega) hx.2.2
  have hst : x.st Z = Mt.start x.k (1 + x.mode % 2) (Z x.k x.base) := rfl
  rw [hst]
  generalize Mt.start x.k (1 + x.mode % 2) (Z x.k x.base) = M at hnew ⊢
  generalize x.k = k at hn hnew
  obtain ⟨kk, mm, nn, bb⟩ := x
  simp only [Lk.cells] at hkind hmode hn hnew ⊢
  generalize 1 + kk % 6 = kd at hkind hnew ⊢
  generalize 1 + mm % 2 = md at hmode hnew ⊢
  have HKI := Lib.hid hkind
  have HMO := Lib.hid hmode
  have HN := Lib.hid hn
  have HNEW := Lib.hid hnew
  have HH := Lib.hid H
  clear hkind hmode hn hnew H hx hst
  go_enter Tryz.func10, Tryz.ntmps10
  go_wp2_with fail
  refine wp_from (Facts := fun W => Has S0 w0 W (.blk w.heap.size #[.int .u8 kk, .int .u8 mm, .int .u8 nn, .int .u32 bb] :: rs)) ?_ HH.out.new1
  clear HH
  intro W HR
  generalize w.heap.size = b0 at HR ⊢
  have HDREW := Lib.hid HR.drew
  clear HR
  go_region_held3 (fun w' => LkF S0 w0 b0 #[.int .u8 kk, .int .u8 mm, .int .u8 nn, .int .u32 bb] w' ∧ (∀ i, w'.cell? ⟨b0, i, none⟩ = (#[.int .u8 kk, .int .u8 mm, .int .u8 nn, .int .u32 bb] : Array Value)[i]?))
    (first | (refine lkf ?_; first | exact HE.out.lkf | exact ⟨_, HC.out⟩ | exact ⟨_, HB.out⟩ | exact ⟨_, HA.out⟩ | exact ⟨_, HDREW.out⟩))
    (first
      | (go_at_call 15; refine (HKI.out _ _ HDREW.out).mono ?_; rintro e w2 ⟨rfl, HA0⟩; have HA := Lib.hid HA0; clear HA0)
      | (go_at_call 30; refine (HMO.out _ _ HA.out).mono ?_; rintro e w3 ⟨rfl, HB0⟩; have HB := Lib.hid HB0; clear HB0)
      | (go_at_call 16; refine (HN.out _ _ HB.out).mono ?_; rintro e w4 ⟨rfl, HC0⟩; have HC := Lib.hid HC0; clear HC0)
      | (go_at_call 29; refine (HNEW.out _ _ HC.out).mono ?_; rintro e w5 ⟨m, a, x, tb, rfl, HE0⟩; have HE := Lib.hid HE0; clear HE0))
  all_goals
    simp only [Exit.then]
    go_wp2_with fail
    go_ret
    exact ⟨m, a, x, tb, rfl, HE.out.unbox⟩
end Go.Proofs.YthnimpkoidablaaGreat.Z

set_option linter.unusedVariables false
set_option linter.unusedSimpArgs false
namespace Go.Proofs.YthnimpkoidablaaGreat.Z
open Go.RowKit Go.ChangeShapes Go.WideShapes Go.ChangeAt Go.Deep
def Flat (P : Program) (t : TypeId) (ok : List Value → Prop) : Prop :=
  ∀ (H : Type) (enc : TypeId × Value → H) (w : World) (base : Nat) (spare : Nat → Bool) (held : Bool) (fuel : Nat) (cs : List Value) (x : DataW H × List MemPlace),
    DataW.trod enc P w base spare held fuel t cs = some x → ok cs
theorem flat_int {P : Program} {t : TypeId} {k : IntKind} (ht : P.underlying t = some (.int k)) : Flat P t (fun cs => ∃ n, cs = [.int k n] ∧ (Lit.int k n).wf = true) := by
  intro H enc w base spare held fuel cs x h
  obtain ⟨n, h1, _, h2⟩ := DataW.trod_int ht h
  exact ⟨n, h1, h2⟩
theorem flat_mono {P : Program} {t : TypeId} {ok ok' : List Value → Prop} (h : Flat P t ok) (hm : ∀ cs, ok cs → ok' cs) : Flat P t ok' :=
  fun H enc w base spare held fuel cs x hx => hm _ (h H enc w base spare held fuel cs x hx)
theorem flat_struct {P : Program} {t : TypeId} {fs : Array Field} (ht : P.underlying t = some (.struct fs)) :
    Flat P t (fun cs => cs.length = P.cellsOf t ∧ ∀ (i : Nat) (f : Field) (ok : List Value → Prop), fs[i]? = some f → Flat P f.type ok → ok ((cs.drop f.offset).take (P.cellsOf f.type))) := by
  intro H enc w base spare held fuel cs x h
  obtain ⟨xs, n, _, _, hl, hxl, hf⟩ := DataW.trod_struct ht h
  refine ⟨hl, fun i f ok hi hok => ?_⟩
  have hil : i < fs.size := (Array.getElem?_eq_some_iff.1 hi).1
  have := hf i f hi
  rw [List.getElem?_eq_getElem (by omega)] at this
  exact hok H enc w base spare held n _ _ this
theorem wf_u32 {n : Int} (h : (Lit.int .u32 n).wf = true) : 0 ≤ n ∧ n < 4294967296 := by
  simp [Lit.wf, IntKind.min, IntKind.max, IntKind.signed, IntKind.bits] at h; omega
theorem wf_u8 {n : Int} (h : (Lit.int .u8 n).wf = true) : 0 ≤ n ∧ n < 256 := by
  simp [Lit.wf, IntKind.min, IntKind.max, IntKind.signed, IntKind.bits] at h; omega
theorem flatMap_at {α : Type} {dec : α → List Value} {size : Nat} (hs : 0 < size) (hlen : ∀ a, (dec a).length = size) : ∀ (l : List α) (i j : Nat) (h : i < l.length), j < size → (l.flatMap dec)[i * size + j]? = (dec l[i])[j]? := by
  intro l
  induction l with
  | nil => intro i j h; simp at h
  | cons a l ih =>
    intro i j h hj
    rw [List.flatMap_cons]
    cases i with
    | zero =>
      rw [List.getElem?_append_left (by rw [hlen]; omega)]
      simp
    | succ i =>
      rw [List.getElem?_append_right (by rw [hlen, Nat.succ_mul]; omega), hlen, show (i + 1) * size + j - size = i * size + j by rw [Nat.succ_mul]; omega, ih i j (by simpa using h) hj]
      rfl
theorem flatMap_length {α : Type} {dec : α → List Value} {size : Nat} (hlen : ∀ a, (dec a).length = size) (l : List α) : (l.flatMap dec).length = l.length * size := by
  induction l with
  | nil => simp
  | cons a l ih => rw [List.flatMap_cons, List.length_append, ih, hlen, List.length_cons, Nat.succ_mul]; omega
theorem open_list {P : Program} {H : Type} {enc : TypeId × Value → H} {w : World} {t e : TypeId} {α : Type} {dec : α → List Value} {ok : α → Prop} {size : Nat} {A : Option Addr} {n c : Nat} {d : DataW H} {p : List MemPlace}
    (ht : P.underlying t = some (.slice e)) (hF : Flat P e (fun cs => ∃ a, ok a ∧ cs = dec a)) (hC : P.cellsOf e = size) (hs : 0 < size) (hlen : ∀ a, (dec a).length = size)
    (h : DataW.Trod enc P w 0 (fun _ => true) true t (.slice A n c) d p) (lt : ∀ x ∈ p, x.block < w.heap.size) :
    ∃ l : List α, l.length = n ∧ (∀ a, a ∈ l → ok a) ∧ Rd w size A n (l.flatMap dec) ∧ n ≤ c ∧ c ≤ 9223372036854775807 := by
  obtain ⟨fuel, hf⟩ := h
  rcases open_slice ht hf with ⟨hcs, _⟩ | ⟨a, len, cap, m, n', D, Pl, hcs, hb, hl, hm, hmm, hx, hi⟩
  · simp [Value.cells] at hcs
    obtain ⟨rfl, rfl, rfl⟩ := hcs
    exact ⟨[], rfl, by simp, Rd.nil _ _ _, Nat.le_refl _, by decide⟩
  · simp [Value.cells] at hcs
    obtain ⟨rfl, rfl, rfl⟩ := hcs
    simp at hmm
    subst hmm
    have hE : ∀ i, i < n → ∃ y : α, ok y ∧ ∀ j, j < size → w.cell? (a.add (i * size + j)) = (dec y)[j]? := by
      intro i hin
      obtain ⟨cs', hc, htr⟩ := hi i (by omega)
      obtain ⟨y, hy, rfl⟩ := hF H enc w 0 _ true n' cs' _ htr
      rw [hC] at hc
      obtain ⟨_, hcl, hat⟩ := World.cells?_some hc
      exact ⟨y, hy, fun j hj => by rw [← Go.Deep.add_add]; exact hat j hj⟩
    have hL : ∀ n0, n0 ≤ n → ∃ l : List α, l.length = n0 ∧ ∀ i (h : i < l.length), ok l[i] ∧ ∀ j, j < size → w.cell? (a.add (i * size + j)) = (dec l[i])[j]? := by
      intro n0
      induction n0 with
      | zero => intro _; exact ⟨[], rfl, fun i h => by simp at h⟩
      | succ k ih =>
        intro hk
        obtain ⟨l, hl, hlp⟩ := ih (by omega)
        obtain ⟨y, hy, hyc⟩ := hE k (by omega)
        refine ⟨l ++ [y], by simp [hl], fun i h => ?_⟩
        by_cases hik : i < l.length
        · rw [List.getElem_append_left hik]; exact hlp i hik
        · have : i = k := by simp at h; omega
          subst this
          rw [List.getElem_append_right (by omega)]
          simp [hl]
          exact ⟨hy, hyc⟩
    obtain ⟨l, hll, hlp⟩ := hL n (Nat.le_refl _)
    refine ⟨l, hll, fun y hy => ?_, ⟨by rw [flatMap_length hlen, hll], fun h0 => ⟨a, rfl, ?_, fun j u hu => ?_⟩⟩, hl, hm⟩
    · obtain ⟨i, hi, rfl⟩ := List.getElem_of_mem hy
      exact (hlp i hi).1
    · have := (hlp 0 (by omega)).2 0 hs
      have h1 : (dec l[0])[0]? = some ((dec l[0])[0]'(by rw [hlen]; exact hs)) := List.getElem?_eq_getElem _
      rw [h1] at this
      have := World.block_lt_of_cell? w _ this
      rw [addr_block] at this
      exact this
    · have hj : j < l.length * size := by
        have := (List.getElem?_eq_some_iff.1 hu).1
        rwa [flatMap_length hlen] at this
      have e := Nat.div_add_mod j size
      have hd : j / size < l.length := Nat.div_lt_of_lt_mul (by rw [Nat.mul_comm]; exact hj)
      have hm := Nat.mod_lt j hs
      rw [Nat.mul_comm] at e
      have := (hlp _ hd).2 _ hm
      rw [e] at this
      rw [this, ← flatMap_at hs hlen l _ _ hd hm, e, hu]
theorem open_flat {P : Program} {H : Type} {enc : TypeId × Value → H} {w : World} {t : TypeId} {fs : Array Field} {α : Type} {dec : α → List Value} {ok : α → Prop} {v : Value} {d : DataW H} {p : List MemPlace} {r : Reach} {base : Nat}
    (ht : P.underlying t = some (.struct fs)) (hF : Flat P t (fun cs => ∃ a, ok a ∧ cs = dec a)) (hv : Value.okWide P w r base t v) (h : DataW.Trod enc P w 0 (fun _ => true) true t v d p) :
    ∃ a, ok a ∧ v = .agg (dec a).toArray := by
  obtain ⟨cs, rfl, _⟩ := okWide_struct ht hv
  obtain ⟨fuel, hf⟩ := h
  obtain ⟨a, ha, hc⟩ := hF H enc w 0 _ true fuel _ _ hf
  refine ⟨a, ha, ?_⟩
  rw [← hc]
  simp [Value.cells]
theorem open_num {P : Program} {H : Type} {enc : TypeId × Value → H} {w : World} {t : TypeId} {k : IntKind} {v : Value} {d : DataW H} {p : List MemPlace} {r : Reach} {base : Nat}
    (ht : P.underlying t = some (.int k)) (hv : Value.okWide P w r base t v) (h : DataW.Trod enc P w 0 (fun _ => true) true t v d p) : ∃ n, v = .int k n ∧ (Lit.int k n).wf = true := by
  obtain ⟨n, h1, _, _, h2⟩ := open_int ht hv h
  exact ⟨n, h1, h2⟩
end Go.Proofs.YthnimpkoidablaaGreat.Z

set_option linter.unusedVariables false
set_option linter.unusedSimpArgs false
namespace Go.Proofs.YthnimpkoidablaaGreat.Z
open Go.RowKit
theorem elem_head {α : Type} {dec : α → List Value} {size : Nat} {w : World} {B : Option Addr} {m i : Nat} {l : List α} (hs : 0 < size) (hlen : ∀ a, (dec a).length = size) (h : Rd w size B m (l.flatMap dec)) (hi : i < m) :
    ∃ b off x, B = some ⟨b, off, none⟩ ∧ b < w.heap.size ∧ l[i]? = some x ∧ x ∈ l := by
  obtain ⟨b, off, hB, hb, hc⟩ := h.lit (by omega) hs
  have hl : l.length = m := by
    have := h.1
    rw [flatMap_length hlen] at this
    exact Nat.eq_of_mul_eq_mul_right hs this
  exact ⟨b, off, l[i], hB, hb, List.getElem?_eq_getElem (by omega), List.getElem_mem _⟩
theorem elem_cells {α : Type} {dec : α → List Value} {size : Nat} {w : World} {b off m i : Nat} {x : α} {l : List α} (hs : 0 < size) (hlen : ∀ a, (dec a).length = size) (h : Rd w size (some ⟨b, off, none⟩) m (l.flatMap dec)) (hi : i < m) (hx : l[i]? = some x) :
    b < w.heap.size ∧ ∀ j u, (dec x)[j]? = some u → w.cell? ⟨b, off + i * size + j, none⟩ = some u := by
  obtain ⟨b', off', hB, hb, hc⟩ := h.lit (by omega) hs
  simp only [Option.some.injEq, Addr.mk.injEq] at hB
  obtain ⟨rfl, rfl, _⟩ := hB
  obtain ⟨hil, rfl⟩ := List.getElem?_eq_some_iff.1 hx
  refine ⟨hb, fun j u hu => ?_⟩
  have hj : j < size := by have := (List.getElem?_eq_some_iff.1 hu).1; rwa [hlen] at this
  rw [Nat.add_assoc]
  exact hc _ _ ((flatMap_at hs hlen l i j hil hj).trans hu)
end Go.Proofs.YthnimpkoidablaaGreat.Z

set_option linter.unusedVariables false
set_option linter.unusedSimpArgs false
namespace Go.Proofs.YthnimpkoidablaaGreat.Z
open Go.RowKit
attribute [local go_sem ↓] Go.wp_at_zero Go.wp_at_succ
theorem task_info6 : (Tryz.prog.info? 78).map (fun i => (i.zero, i.size, i.bytes)) = some (some (.agg #[.int .i64 0, .int .i64 0, .int .i64 0, .int .u32 0, .int .u32 0, .int .i64 0, .bool false, .int .i64 0, .int .i64 0, .bool false, .int .i64 0]), 11, 80) := by kernel_rfl
theorem tcells_one : ∀ (hs : List Int) (fs : List Fr), ∀ v ∈ tcells hs fs, v.oneCell' = true
  | h :: hs, f :: fs, v, hv => by
    rcases List.mem_append.1 (show v ∈ tkCells h f ++ tcells hs fs from hv) with h1 | h1
    · simp only [tkCells, List.mem_cons, List.not_mem_nil, or_false] at h1
      rcases h1 with rfl | rfl | rfl | rfl | rfl | rfl | rfl | rfl | rfl | rfl | rfl <;> rfl
    · exact tcells_one hs fs v h1
  | [], [], v, hv => by simp [tcells] at hv
  | [], f :: fs, v, hv => by simp [tcells] at hv
  | h :: hs, [], v, hv => by simp [tcells] at hv
set_option maxHeartbeats 800000 in
theorem clone_tasks {b n c : Nat} {xs : List Value} (w : World) (hr : Rd w 11 (some ⟨b, 0, none⟩) n xs) (h1 : ∀ u ∈ xs, u.oneCell' = true) (hn : n ≤ 64) :
    Calls Tryz.prog 41 #[.slice (some ⟨b, 0, none⟩) n c] w fun e w' => ∃ v, e = .returned v ∧ w'.ownsRow w.heap.size 78 11 v n xs ∧ Below w.heap.size w w' := by
  obtain ⟨i0, hi0, hz0, hz1, hz2⟩ := info_parts task_info6
  have hnil := fun (w : World) => Go.Lib.run_eql_slice_nil (P := Tryz.prog) w 66 78 (some ⟨b, 0, none⟩) n c 0 0 Tryz.underlying66
  go_enter Tryz.func41, Tryz.ntmps41
  have hrd := hr.touch (((Touch.refl [] w).alloc (.cells #[] 78))) (by simp)
  go_wp2_with (at_builtin; refine wpList_append_rd _ rfl (.tmp 5) (.tmp 6) _ rfl w.heap.size 78 i0 _ 11 80 Tryz.underlying66 hi0 hz0 hz1 hz2 rfl (by omega) (.slice (some ⟨w.heap.size, 0, none⟩) 0 0) 0 [] rfl (owns_new0 w _ _) (some ⟨b, 0, none⟩) n c xs rfl hrd h1 (by simp only [maxLen]; omega) (by omega) (by simp) ?_; intro v' w' hown hg hat)
  go_ret
  refine ⟨v', rfl, by simpa using hown, ?_⟩
  exact ((Below.refl _ _).alloc (Nat.le_refl _) _).grown hg (by simp) (by intro k hk; simp [Value.ownBlock] at hk; omega)
def runE (g : Rn → Rn) : List (Int × Int) → Mt → Mt × List Nt
  | [], M => (M, [])
  | x :: l, M => ((runE g l (M.pickE g x.1 x.2).1).1, (M.pickE g x.1 x.2).2.notes ++ (runE g l (M.pickE g x.1 x.2).1).2)
theorem runE_snoc (g : Rn → Rn) : ∀ (l : List (Int × Int)) (x : Int × Int) (M : Mt), runE g (l ++ [x]) M = (((runE g l M).1.pickE g x.1 x.2).1, (runE g l M).2 ++ ((runE g l M).1.pickE g x.1 x.2).2.notes)
  | [], x, M => by simp [runE]
  | y :: l, x, M => by
    show ((runE g (l ++ [x]) (M.pickE g y.1 y.2).1).1, (M.pickE g y.1 y.2).2.notes ++ (runE g (l ++ [x]) (M.pickE g y.1 y.2).1).2) = _
    rw [runE_snoc g l x]
    simp [runE]
theorem runE_take (g : Rn → Rn) (l : List (Int × Int)) (M : Mt) (j : Nat) (h : j < l.length) : runE g (l.take (j + 1)) M = (((runE g (l.take j) M).1.pickE g l[j].1 l[j].2).1, (runE g (l.take j) M).2 ++ ((runE g (l.take j) M).1.pickE g l[j].1 l[j].2).2.notes) := by
  rw [List.take_succ_eq_append_getElem h, runE_snoc]
theorem pickE_few {fid : FuncId} {g : Rn → Rn} (K : KindOk fid g) {M : Mt} (F : WFit M) (hw : Words M.L) (t op : Int) : (M.pickE g t op).2.notes.length ≤ 13 := by
  have hs : ∀ (M' : Mt) (i : Nat), WFit M' → Words M'.L → (M'.stepE g i).2.notes.length ≤ 11 := fun M' i F' hw' =>
    stepE_few (K.fine (s := M'.run i (M'.fs.getD i Fr.zero)) hw' ⟨F'.n64, (F'.frok i).1, (F'.frok i).2⟩).2
  unfold Mt.pickE
  split
  · split
    · split
      · unfold Mt.beginE
        split
        · have := hs (M.put t.toNat (frOp op) (fromA op (M.hold.getD t.toNat 0)) M.L) t.toNat (F.put _ _ _ _ ⟨by simp [frOp], by simp [frOp]⟩ (hold_from (F.held _))) hw
          show (_ :: _ : List Nt).length ≤ 13
          rw [List.length_cons]
          omega
        · simp
      · simp [Ev.none]
    · split
      · simp [Ev.none]
      · have := hs M t.toNat F hw
        omega
  · simp [Ev.none]
def pkCells (x : Int × Int) : List Value := [.int .i64 x.1, .int .i64 x.2]
def RunW (S0 : List Nat) (w0 : World) (p : Wl) (rs : List Res) (v : Value) (R : Mt × List Nt) (w : World) : Prop := WHas S0 w0 p (.own 40 4 v R.2.length (nts R.2) :: rs) R.1 w
theorem wpList_field {P : Program} {ops : Array Oper} {rest : List Oper} {o : Oper} {a : Act} {w : World} {Q : Exit → Act → World → Prop} (hg : o.guard = none) (ty : TypeId) (x : Operand) (i : Nat) (ho : o.op = .field ty x i) (v : Value) (hrun : (execOp a.eval o).run P w = .ok (.value v) w)
    (h : wpList P ops Q rest (a.put o.dst v) w) : wpList P ops Q (o :: rest) a w := wpList_value hg v hrun h
theorem wmore {S0 : List Nat} {w0 w w' : World} {a b c n pb : Res} {v v' : Value} {l1 l2 : List Nt} {rs : List Res} (H : Has S0 w0 w (a :: b :: c :: n :: pb :: .own 40 4 v l1.length (nts l1) :: rs))
    (hown : w'.ownsRow 0 40 4 v' (l1.length + l2.length) (nts l1 ++ nts l2)) (hg : w.grownBy w' v.ownBlock) (hat : v'.ownBlock = v.ownBlock ∨ v'.ownBlock = some w.heap.size) :
    Has S0 w0 w' (a :: b :: c :: .own 40 4 v' (l1 ++ l2).length (nts (l1 ++ l2)) :: rs) := by
  rw [List.length_append, show nts (l1 ++ l2) = nts l1 ++ nts l2 by simp [nts]]
  have h1 : Has S0 w0 w (.own 40 4 v l1.length (nts l1) :: a :: b :: c :: n :: pb :: rs) := H.front 5 (by simp)
  have h2 := Has.grown h1 hown hg hat
  have h3 := ((h2.front 4 (by simp)).tail.front 4 (by simp)).tail
  exact ((h3.front 3 (by simp)).front 3 (by simp)).front 3 (by simp)
set_option maxHeartbeats 3200000 in
set_option maxRecDepth 100000 in
theorem wrunall_ok {S0 : List Nat} {w0 w : World} {p : Wl} {rs : List Res} {M : Mt} {g : Rn → Rn} (K : KindOk p.fid g) (H : WHas S0 w0 p rs M w) {A : Option Addr} {n c : Nat} {l : List (Int × Int)} (hr : ∀ v R W, RunW S0 w0 p rs v R W → Rd W 2 A n (l.flatMap pkCells)) (hn : n ≤ 1500) :
    Calls Tryz.prog 24 #[.pointer (some ⟨p.x, 0, none⟩), .slice A n c] w fun e w' => ∃ v, e = .returned v ∧ RunW S0 w0 p rs v (runE g l M) w' := by
  obtain ⟨i0, hi0, hz0, hz1, hz2⟩ := info_parts note_info
  have HI := Lib.hid (show _ ∧ _ ∧ _ ∧ _ from ⟨hi0, hz0, hz1, hz2⟩)
  have H0 : RunW S0 w0 p rs (.slice none 0 0) (runE g (l.take 0) M) w := ⟨H.1, (H.2.ownNil 40 4).perm (List.perm_middle (l₁ := [_, _, _])).symm⟩
  have hlk : l.length = n := by have := (hr _ _ _ H0).1; rw [flatMap_length (dec := pkCells) (size := 2) (fun _ => rfl)] at this; omega
  have HS := Lib.hid H0
  have HR := Lib.hid hr
  have HL := Lib.hid hlk
  have HN := Lib.hid hn
  clear hi0 hz0 hz1 hz2 H H0 hr hlk hn
  go_enter Tryz.func24, Tryz.ntmps24
  go_wp2_with fail
  go_loopw [5, 10] (fun v i W => ∃ j : Nat, j ≤ n ∧ i = .int .i64 j ∧ (runE g (l.take j) M).2.length ≤ 13 * j ∧ ∃ v', v' = v ∧ RunW S0 w0 p rs v' (runE g (l.take j) M) W) (fun _ i _ => n - (intOf i).toNat)
  case atStart => exact ⟨0, Nat.zero_le _, rfl, by simp [runE], _, rfl, HS.out⟩
  case round =>
    obtain ⟨j, hj, rfl, hfew, v, rfl, hR⟩ := hrel
    clear HS
    have hi1 : (0 : Int) ≤ (j : Int) := Int.natCast_nonneg _
    by_cases hjk : j < n
    · have hi2 : (j : Int) < (n : Int) := by omega
      have hBr := HR.out _ _ _ hR
      obtain ⟨b, off, o, rfl, hbb, ho, hol⟩ := elem_head (dec := pkCells) (size := 2) (by decide) (fun _ => rfl) hBr hjk
      obtain ⟨c0, c1⟩ := elem_cells (dec := pkCells) (size := 2) (by decide) (fun _ => rfl) hBr hjk ho
      obtain ⟨hjl, hjo⟩ := List.getElem?_eq_some_iff.1 ho
      have htk := runE_take g l M j hjl
      rw [hjo] at htk
      obtain ⟨t, op⟩ := o
      have f0 := c1 0 _ rfl
      have f1 := c1 1 _ rfl
      simp only [Nat.add_zero] at f0 f1
      have hpf := pickE_few K hR.1 hR.words t op
      have HTK := Lib.hid htk
      have HRW := Lib.hid hR
      have HFW := Lib.hid hfew
      have HPF := Lib.hid hpf
      clear c1 hBr ho hol hjo htk hR hfew hpf
      generalize hRR : runE g (l.take j) M = R at *
      clear hRR
      obtain ⟨M1, nt1⟩ := R
      go_wp2_with fail
      refine (wpick_ok K (WHas.box HRW.out) t op).mono ?_
      rintro e w3 ⟨nv, rfl, F3, H3⟩
      generalize hR2 : M1.pickE g t op = R2 at HTK HPF F3 H3 ⊢
      clear hR2
      obtain ⟨M2, ran2, ⟨ak, ac, ax, ay, ao⟩, nt2⟩ := R2
      simp only [Ev.cells]
      simp only at F3 H3
      obtain ⟨pn, cn, rfl⟩ := owns_slice (Has.ownAt H3 3 rfl)
      have HH3 := Lib.hid H3
      have HF3 := Lib.hid F3
      clear H3 F3
      have hn15 := HN.out
      go_wp2_with (first | (refine wpList_field rfl 35 (.tmp 17) 2 rfl (.slice pn nt2.length cn) (by kernel_rfl) ?_) | (at_builtin; refine wpList_append_rd (P := Tryz.prog) _ rfl (.tmp 14) (.tmp 18) _ rfl 0 40 i0 _ 4 32 Tryz.underlying33 HI.out.1 HI.out.2.1 HI.out.2.2.1 HI.out.2.2.2 rfl (by omega) v nt1.length (nts nt1) rfl (Has.ownAt HH3.out 5 rfl) pn nt2.length cn (nts nt2) rfl (Rd.own (Has.ownAt HH3.out 3 rfl)) (nts_cells _) (by have h1 : nt1.length ≤ 13 * j := HFW.out; have h2 : nt2.length ≤ 13 := HPF.out; have := HN.out; simp only [maxLen]; omega) (by have h1 : nt1.length ≤ 13 * j := HFW.out; have h2 : nt2.length ≤ 13 := HPF.out; have := HN.out; omega) (by omega) ?_; intro v' w' hown hg hat; have HF := Lib.hid (wmore HH3.out hown hg hat); clear hown hg hat))
      exact ⟨⟨j + 1, by omega, by go_num, by rw [HTK.out]; have h1 : nt1.length ≤ 13 * j := HFW.out; have h2 : nt2.length ≤ 13 := HPF.out; simp; omega, _, rfl, by rw [HTK.out]; exact ⟨HF3.out, HF.out⟩⟩, by simp [intOf]; omega⟩
    · have hjk2 : j = n := by omega
      have hi2 : (n : Int) ≤ (j : Int) := by omega
      have HJ := Lib.hid hjk2
      have HRW := Lib.hid hR
      clear hjk2 hR
      go_wp2_with fail
      go_ret
      refine ⟨_, rfl, ?_⟩
      have h := HRW.out
      rw [HJ.out, ← HL.out, List.take_length] at h
      exact h
end Go.Proofs.YthnimpkoidablaaGreat.Z
