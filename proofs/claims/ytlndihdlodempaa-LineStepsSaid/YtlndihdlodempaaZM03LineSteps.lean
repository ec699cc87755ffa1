/- 6 texts of this claim, joined: what each shows stands at its own head. -/
import Derived.Test.YtlndihdlodempaaZM02LineSteps
import Derived.Test.YtlndihdlodempaaZSame
import Derived.Test.YtlndihdlodempaaZXNote
import Derived.Deep.RegionHeld3
import Derived.Deep.DrawnRows
import Derived.Test.YtlndihdlodempaaZM01LineSteps
import Derived.Test.YtlndihdlodempaaZXRun7
import Derived.Test.YtlndihdlodempaaZM00LineSteps
/- Law 9: `calls`: its walk (under way). -/
set_option linter.unusedVariables false
set_option linter.unusedSimpArgs false
namespace Go.Proofs.Ytlndihdlodempaa.Z
open Go.RowKit

/-- The run, and in front of its other things what was told. -/
def CHas (S0 : List Nat) (w0 : World) (m a r : Nat) (rs : List Res) (v : Value) (R : List Int × Rn) (w : World) : Prop := RunHas S0 w0 m a r (.own 23 1 v R.1.length (u32s R.1) :: rs) R.2 w

/-- Three words more are told. -/
theorem CHas.more {S0 : List Nat} {w0 w w' : World} {m a r : Nat} {rs : List Res} {v v' : Value} {out : List Int} {s : Rn} {o : Res} {c0 : Array Value} {t0 : TypeId} {x y z : Int}
    (H : RunHas S0 w0 m a r (o :: .own 23 1 v out.length (u32s out) :: rs) s w) (hown : w'.ownsRow 0 23 1 v' (out.length + 3) (u32s out ++ [.int .u32 x, .int .u32 y, .int .u32 z])) (hg : (w.alloc (.cells c0 t0)).grownBy w' v.ownBlock)
    (hat : v'.ownBlock = v.ownBlock ∨ v'.ownBlock = some (w.alloc (.cells c0 t0)).heap.size) : CHas S0 w0 m a r rs v' (out ++ [x, y, z], s) w' := by
  obtain ⟨nv, H⟩ := H
  have H1 : Has S0 w0 (w.alloc (.cells c0 t0)) (.mem m a s.L :: .blk r (rcells m s nv) :: .own 98 4 nv s.notes.length (nts s.notes) :: o :: .own 23 1 v out.length (u32s out) :: rs) := (Has.new1 H).tail
  have H2 := Has.grown (H1.perm (List.perm_middle (l₁ := [_, _, _, _]))) hown hg hat
  refine ⟨nv, ?_⟩
  show Has S0 w0 w' (.mem m a s.L :: .blk r (rcells m s nv) :: .own 98 4 nv s.notes.length (nts s.notes) :: .own 23 1 v' (out ++ [x, y, z]).length (u32s (out ++ [x, y, z])) :: rs)
  rw [show (out ++ [x, y, z]).length = out.length + 3 by simp, show u32s (out ++ [x, y, z]) = u32s out ++ [.int .u32 x, .int .u32 y, .int .u32 z] by simp [u32s]]
  have H3 : Has S0 w0 w' (.own 23 1 v' (out.length + 3) (u32s out ++ [.int .u32 x, .int .u32 y, .int .u32 z]) :: .mem m a s.L :: .blk r (rcells m s nv) :: .own 98 4 nv s.notes.length (nts s.notes) :: o :: rs) := H2
  have H4 : Has S0 w0 w' (.mem m a s.L :: .blk r (rcells m s nv) :: .own 98 4 nv s.notes.length (nts s.notes) :: .own 23 1 v' (out.length + 3) (u32s out ++ [.int .u32 x, .int .u32 y, .int .u32 z]) :: o :: rs) := H3.perm (List.perm_middle (l₁ := [_, _, _])).symm
  exact (H4.perm (List.perm_middle (l₁ := [_, _, _, _]) (a := o))).tail

theorem u32_info9 : (Try.prog.info? 23).map (fun i => (i.zero, i.size, i.bytes)) = some (some (.int .u32 0), 1, 4) := by kernel_rfl

set_option maxHeartbeats 1600000 in
set_option maxRecDepth 100000 in
theorem calls_any {w0 w : World} {m a r : Nat} {rs : List Res} {s : Rn} {A : Option Addr} {k cp : Nat} {l : List Op9} (H : RunHas [] w0 m a r rs s w) (hr : Rd w0 8 A k (l.flatMap Op9.cells)) (hl : ∀ o, o ∈ l → Op9Ok o) (hk : k ≤ 10) (hn : I64 s.n) (hc : s.notes.length ≤ 100) :
    Calls Try.prog 16 #[.pointer (some ⟨r, 0, none⟩), .slice A k cp] w fun e w' => ∃ v, e = .returned v ∧ CHas [] w0 m a r rs v (calls9 l s) w' := by
  have hlk : l.length = k := by have := hr.1; rw [flatMap_length (dec := Op9.cells) (size := 8) (fun _ => rfl)] at this; omega
  have H0 : CHas [] w0 m a r rs (.slice none 0 0) (calls9 (l.take 0) s) w := by
    obtain ⟨nv, H⟩ := H
    refine ⟨nv, ?_⟩
    exact ((H.ownNil 23 1).perm (List.perm_middle (l₁ := [_, _, _])).symm)
  obtain ⟨i0, hi0, hz0, hz1, hz2⟩ := info_parts u32_info9
  have HI := Lib.hid (show _ ∧ _ ∧ _ ∧ _ from ⟨hi0, hz0, hz1, hz2⟩)
  clear hi0 hz0 hz1 hz2
  have HS := Lib.hid H0
  have HR := Lib.hid hr
  have HL := Lib.hid hl
  have HK := Lib.hid hlk
  clear H H0 hr hl hlk
  go_enter Try.func16, Try.ntmps16
  go_wp2_with fail
  go_loopw [5, 6] (fun v i W => ∃ j : Nat, j ≤ k ∧ i = .int .i64 j ∧ ∃ v', v' = v ∧ CHas [] w0 m a r rs v' (calls9 (l.take j) s) W) (fun _ i _ => k - (intOf i).toNat)
  case atStart => exact ⟨0, Nat.zero_le _, rfl, _, rfl, HS.out⟩
  case round =>
    obtain ⟨j, hj, rfl, v, rfl, hR⟩ := hrel
    clear HS
    have hi1 : (0 : Int) ≤ (j : Int) := Int.natCast_nonneg _
    have HV := Lib.hid hR
    clear hR
    by_cases hjk : j < k
    · have hi2 : (j : Int) < (k : Int) := by omega
      obtain ⟨nv0, hV0⟩ := HV.out
      have hBr := HR.out.touch hV0.touch (by simp)
      obtain ⟨b, off, o, rfl, hbb, ho, hol⟩ := elem_head (dec := Op9.cells) (size := 8) (by decide) (fun _ => rfl) hBr hjk
      obtain ⟨c0, c1⟩ := elem_cells (dec := Op9.cells) (size := 8) (by decide) (fun _ => rfl) hBr hjk ho
      have hok := HL.out o hol
      obtain ⟨hjl, hjo⟩ := List.getElem?_eq_some_iff.1 ho
      have htk := calls9_take l s j hjl
      rw [hjo] at htk
      obtain ⟨kind, c, on, x, y, uk, um, ux⟩ := o
      have f0 := c1 0 _ rfl
      have f1 := c1 1 _ rfl
      have f2 := c1 2 _ rfl
      have f3 := c1 3 _ rfl
      have f4 := c1 4 _ rfl
      have f5 := c1 5 _ rfl
      have f6 := c1 6 _ rfl
      have f7 := c1 7 _ rfl
      simp only [Nat.add_zero] at f0 f1 f2 f3 f4 f5 f6 f7
      clear c1 hBr hV0 ho hol hjo
      have HLN := Lib.hid (show (calls9 (l.take j) s).1.length ≤ 30 by rw [calls9_len, List.length_take]; omega)
      have HOK := Lib.hid hok
      have HTK := Lib.hid htk
      clear hok htk
      by_cases k0 : kind = 0
      · subst k0
        have HB : RunHas [] w0 m a r (.blk wr.heap.size #[.int .i64 0, .int .i64 c, .int .i64 on, .int .u32 x, .int .u32 y, .int .i64 uk, .int .u32 um, .int .u32 ux] :: .own 23 1 v (calls9 (l.take j) s).1.length (u32s (calls9 (l.take j) s).1) :: rs) (calls9 (l.take j) s).2 (wr.alloc (.cells #[.int .i64 0, .int .i64 c, .int .i64 on, .int .u32 x, .int .u32 y, .int .i64 uk, .int .u32 um, .int .u32 ux] 87)) := HV.out.box rfl _ _
        go_wp2_with fail
        refine (rn_load HB c).mono ?_
        rintro e w3 ⟨rfl, H3⟩
        obtain ⟨nv3, H3b⟩ := H3
        have HT3 := Lib.hid H3b
        clear H3b HB
        go_wp2_with (first
          | (go_at_call 61; refine (bit_any _ _).mono ?_; rintro e w9 ⟨rfl, rfl⟩)
          | (at_builtin; refine wpList_append_rd (P := Try.prog) _ rfl (.tmp 103) (.tmp 109) _ rfl 0 23 i0 _ 1 4 Try.underlying22 HI.out.1 HI.out.2.1 HI.out.2.2.1 HI.out.2.2.2 rfl (by omega) _ _ _ rfl (Has.ownAt (Has.new1 HT3.out) 5 rfl) (some ⟨w3.heap.size, 0, none⟩) 3 3 [.int .u32 _, .int .u32 _, .int .u32 _] rfl (rd_cells (Blk.new _ _ _)) (by simp [Value.oneCell']) (by unfold maxLen; have := HLN.out; omega) (by have := HLN.out; omega) (by omega) ?_; intro v' w' hown hg hat; have HF := CHas.more ⟨nv3, HT3.out⟩ hown hg hat; clear hown hg hat))
        exact ⟨⟨j + 1, by omega, by go_num, _, rfl, by rw [HTK.out]; exact HF⟩, by simp [intOf]; omega⟩
      by_cases k1 : kind = 1
      · subst k1
        have HB : RunHas [] w0 m a r (.blk wr.heap.size #[.int .i64 1, .int .i64 c, .int .i64 on, .int .u32 x, .int .u32 y, .int .i64 uk, .int .u32 um, .int .u32 ux] :: .own 23 1 v (calls9 (l.take j) s).1.length (u32s (calls9 (l.take j) s).1) :: rs) (calls9 (l.take j) s).2 (wr.alloc (.cells #[.int .i64 1, .int .i64 c, .int .i64 on, .int .u32 x, .int .u32 y, .int .i64 uk, .int .u32 um, .int .u32 ux] 87)) := HV.out.box rfl _ _
        go_wp2_with fail
        refine (rn_store HB c x HOK.out.1.1).mono ?_
        rintro e w3 ⟨rfl, H3⟩
        obtain ⟨nv3, H3b⟩ := H3
        have HT3 := Lib.hid H3b
        clear H3b HB
        go_wp2_with (first
          | (go_at_call 61; refine (bit_any _ _).mono ?_; rintro e w9 ⟨rfl, rfl⟩)
          | (at_builtin; refine wpList_append_rd (P := Try.prog) _ rfl (.tmp 103) (.tmp 109) _ rfl 0 23 i0 _ 1 4 Try.underlying22 HI.out.1 HI.out.2.1 HI.out.2.2.1 HI.out.2.2.2 rfl (by omega) _ _ _ rfl (Has.ownAt (Has.new1 HT3.out) 5 rfl) (some ⟨w3.heap.size, 0, none⟩) 3 3 [.int .u32 _, .int .u32 _, .int .u32 _] rfl (rd_cells (Blk.new _ _ _)) (by simp [Value.oneCell']) (by unfold maxLen; have := HLN.out; omega) (by have := HLN.out; omega) (by omega) ?_; intro v' w' hown hg hat; have HF := CHas.more ⟨nv3, HT3.out⟩ hown hg hat; clear hown hg hat))
        exact ⟨⟨j + 1, by omega, by go_num, _, rfl, by rw [HTK.out]; exact HF⟩, by simp [intOf]; omega⟩
      by_cases k2 : kind = 2
      · subst k2
        have HB : RunHas [] w0 m a r (.blk wr.heap.size #[.int .i64 2, .int .i64 c, .int .i64 on, .int .u32 x, .int .u32 y, .int .i64 uk, .int .u32 um, .int .u32 ux] :: .own 23 1 v (calls9 (l.take j) s).1.length (u32s (calls9 (l.take j) s).1) :: rs) (calls9 (l.take j) s).2 (wr.alloc (.cells #[.int .i64 2, .int .i64 c, .int .i64 on, .int .u32 x, .int .u32 y, .int .i64 uk, .int .u32 um, .int .u32 ux] 87)) := HV.out.box rfl _ _
        go_wp2_with fail
        refine (rn_add HB c x HOK.out.1.1).mono ?_
        rintro e w3 ⟨rfl, H3⟩
        obtain ⟨nv3, H3b⟩ := H3
        have HT3 := Lib.hid H3b
        clear H3b HB
        go_wp2_with (first
          | (go_at_call 61; refine (bit_any _ _).mono ?_; rintro e w9 ⟨rfl, rfl⟩)
          | (at_builtin; refine wpList_append_rd (P := Try.prog) _ rfl (.tmp 103) (.tmp 109) _ rfl 0 23 i0 _ 1 4 Try.underlying22 HI.out.1 HI.out.2.1 HI.out.2.2.1 HI.out.2.2.2 rfl (by omega) _ _ _ rfl (Has.ownAt (Has.new1 HT3.out) 5 rfl) (some ⟨w3.heap.size, 0, none⟩) 3 3 [.int .u32 _, .int .u32 _, .int .u32 _] rfl (rd_cells (Blk.new _ _ _)) (by simp [Value.oneCell']) (by unfold maxLen; have := HLN.out; omega) (by have := HLN.out; omega) (by omega) ?_; intro v' w' hown hg hat; have HF := CHas.more ⟨nv3, HT3.out⟩ hown hg hat; clear hown hg hat))
        exact ⟨⟨j + 1, by omega, by go_num, _, rfl, by rw [HTK.out]; exact HF⟩, by simp [intOf]; omega⟩
      by_cases k3 : kind = 3
      · subst k3
        have HB : RunHas [] w0 m a r (.blk wr.heap.size #[.int .i64 3, .int .i64 c, .int .i64 on, .int .u32 x, .int .u32 y, .int .i64 uk, .int .u32 um, .int .u32 ux] :: .own 23 1 v (calls9 (l.take j) s).1.length (u32s (calls9 (l.take j) s).1) :: rs) (calls9 (l.take j) s).2 (wr.alloc (.cells #[.int .i64 3, .int .i64 c, .int .i64 on, .int .u32 x, .int .u32 y, .int .i64 uk, .int .u32 um, .int .u32 ux] 87)) := HV.out.box rfl _ _
        go_wp2_with fail
        refine (rn_swap HB c x HOK.out.1.1).mono ?_
        rintro e w3 ⟨rfl, H3⟩
        obtain ⟨nv3, H3b⟩ := H3
        have HT3 := Lib.hid H3b
        clear H3b HB
        go_wp2_with (first
          | (go_at_call 61; refine (bit_any _ _).mono ?_; rintro e w9 ⟨rfl, rfl⟩)
          | (at_builtin; refine wpList_append_rd (P := Try.prog) _ rfl (.tmp 103) (.tmp 109) _ rfl 0 23 i0 _ 1 4 Try.underlying22 HI.out.1 HI.out.2.1 HI.out.2.2.1 HI.out.2.2.2 rfl (by omega) _ _ _ rfl (Has.ownAt (Has.new1 HT3.out) 5 rfl) (some ⟨w3.heap.size, 0, none⟩) 3 3 [.int .u32 _, .int .u32 _, .int .u32 _] rfl (rd_cells (Blk.new _ _ _)) (by simp [Value.oneCell']) (by unfold maxLen; have := HLN.out; omega) (by have := HLN.out; omega) (by omega) ?_; intro v' w' hown hg hat; have HF := CHas.more ⟨nv3, HT3.out⟩ hown hg hat; clear hown hg hat))
        exact ⟨⟨j + 1, by omega, by go_num, _, rfl, by rw [HTK.out]; exact HF⟩, by simp [intOf]; omega⟩
      by_cases k4 : kind = 4
      · subst k4
        have HB : RunHas [] w0 m a r (.blk wr.heap.size #[.int .i64 4, .int .i64 c, .int .i64 on, .int .u32 x, .int .u32 y, .int .i64 uk, .int .u32 um, .int .u32 ux] :: .own 23 1 v (calls9 (l.take j) s).1.length (u32s (calls9 (l.take j) s).1) :: rs) (calls9 (l.take j) s).2 (wr.alloc (.cells #[.int .i64 4, .int .i64 c, .int .i64 on, .int .u32 x, .int .u32 y, .int .i64 uk, .int .u32 um, .int .u32 ux] 87)) := HV.out.box rfl _ _
        go_wp2_with fail
        refine (rn_cas HB c x y HOK.out.1.1 HOK.out.1.2).mono ?_
        rintro e w3 ⟨rfl, H3⟩
        obtain ⟨nv3, H3b⟩ := H3
        have HT3 := Lib.hid H3b
        clear H3b HB
        go_wp2_with (first
          | (go_at_call 61; refine (bit_any _ _).mono ?_; rintro e w9 ⟨rfl, rfl⟩)
          | (at_builtin; refine wpList_append_rd (P := Try.prog) _ rfl (.tmp 103) (.tmp 109) _ rfl 0 23 i0 _ 1 4 Try.underlying22 HI.out.1 HI.out.2.1 HI.out.2.2.1 HI.out.2.2.2 rfl (by omega) _ _ _ rfl (Has.ownAt (Has.new1 HT3.out) 5 rfl) (some ⟨w3.heap.size, 0, none⟩) 3 3 [.int .u32 _, .int .u32 _, .int .u32 _] rfl (rd_cells (Blk.new _ _ _)) (by simp [Value.oneCell']) (by unfold maxLen; have := HLN.out; omega) (by have := HLN.out; omega) (by omega) ?_; intro v' w' hown hg hat; have HF := CHas.more ⟨nv3, HT3.out⟩ hown hg hat; clear hown hg hat))
        exact ⟨⟨j + 1, by omega, by go_num, _, rfl, by rw [HTK.out]; exact HF⟩, by simp [intOf]; omega⟩
      by_cases k5 : kind = 5
      · subst k5
        have HB : RunHas [] w0 m a r (.blk wr.heap.size #[.int .i64 5, .int .i64 c, .int .i64 on, .int .u32 x, .int .u32 y, .int .i64 uk, .int .u32 um, .int .u32 ux] :: .own 23 1 v (calls9 (l.take j) s).1.length (u32s (calls9 (l.take j) s).1) :: rs) (calls9 (l.take j) s).2 (wr.alloc (.cells #[.int .i64 5, .int .i64 c, .int .i64 on, .int .u32 x, .int .u32 y, .int .i64 uk, .int .u32 um, .int .u32 ux] 87)) := HV.out.box rfl _ _
        go_wp2_with fail
        refine (rn_wait HB (by rw [calls9_n]; exact hn) c 58 #[.agg #[.int .i64 uk, .int .u32 um, .int .u32 ux]] #[] (untilA uk um ux) (enters_of Try.func58 (by kernel_rfl) rfl) (fun W v h1 h2 _ => until_any uk um ux v W h1 h2)).mono ?_
        rintro e w3 ⟨rfl, H3⟩
        obtain ⟨nv3, H3b⟩ := H3
        have HT3 := Lib.hid H3b
        clear H3b HB
        go_wp2_with (first
          | (go_at_call 61; refine (bit_any _ _).mono ?_; rintro e w9 ⟨rfl, rfl⟩)
          | (at_builtin; refine wpList_append_rd (P := Try.prog) _ rfl (.tmp 103) (.tmp 109) _ rfl 0 23 i0 _ 1 4 Try.underlying22 HI.out.1 HI.out.2.1 HI.out.2.2.1 HI.out.2.2.2 rfl (by omega) _ _ _ rfl (Has.ownAt (Has.new1 HT3.out) 5 rfl) (some ⟨w3.heap.size, 0, none⟩) 3 3 [.int .u32 _, .int .u32 _, .int .u32 _] rfl (rd_cells (Blk.new _ _ _)) (by simp [Value.oneCell']) (by unfold maxLen; have := HLN.out; omega) (by have := HLN.out; omega) (by omega) ?_; intro v' w' hown hg hat; have HF := CHas.more ⟨nv3, HT3.out⟩ hown hg hat; clear hown hg hat))
        exact ⟨⟨j + 1, by omega, by go_num, _, rfl, by rw [HTK.out]; exact HF⟩, by simp [intOf]; omega⟩
      by_cases k6 : kind = 6
      · subst k6
        have HB : RunHas [] w0 m a r (.blk wr.heap.size #[.int .i64 6, .int .i64 c, .int .i64 on, .int .u32 x, .int .u32 y, .int .i64 uk, .int .u32 um, .int .u32 ux] :: .own 23 1 v (calls9 (l.take j) s).1.length (u32s (calls9 (l.take j) s).1) :: rs) (calls9 (l.take j) s).2 (wr.alloc (.cells #[.int .i64 6, .int .i64 c, .int .i64 on, .int .u32 x, .int .u32 y, .int .i64 uk, .int .u32 um, .int .u32 ux] 87)) := HV.out.box rfl _ _
        go_wp2_with fail
        refine (run_note HB (by have := calls9_notes (l.take j) s; rw [List.length_take] at this; omega) on c).mono ?_
        rintro e w3 ⟨rfl, H3⟩
        obtain ⟨nv3, H3b⟩ := H3
        have HT3 := Lib.hid H3b
        clear H3b HB
        go_wp2_with (first
          | (go_at_call 61; refine (bit_any _ _).mono ?_; rintro e w9 ⟨rfl, rfl⟩)
          | (at_builtin; refine wpList_append_rd (P := Try.prog) _ rfl (.tmp 103) (.tmp 109) _ rfl 0 23 i0 _ 1 4 Try.underlying22 HI.out.1 HI.out.2.1 HI.out.2.2.1 HI.out.2.2.2 rfl (by omega) _ _ _ rfl (Has.ownAt (Has.new1 HT3.out) 5 rfl) (some ⟨w3.heap.size, 0, none⟩) 3 3 [.int .u32 _, .int .u32 _, .int .u32 _] rfl (rd_cells (Blk.new _ _ _)) (by simp [Value.oneCell']) (by unfold maxLen; have := HLN.out; omega) (by have := HLN.out; omega) (by omega) ?_; intro v' w' hown hg hat; have HF := CHas.more ⟨nv3, HT3.out⟩ hown hg hat; clear hown hg hat))
        exact ⟨⟨j + 1, by omega, by go_num, _, rfl, by rw [HTK.out]; exact HF⟩, by simp [intOf]; omega⟩
      by_cases k7 : kind = 7
      · subst k7
        have HB : RunHas [] w0 m a r (.blk wr.heap.size #[.int .i64 7, .int .i64 c, .int .i64 on, .int .u32 x, .int .u32 y, .int .i64 uk, .int .u32 um, .int .u32 ux] :: .own 23 1 v (calls9 (l.take j) s).1.length (u32s (calls9 (l.take j) s).1) :: rs) (calls9 (l.take j) s).2 (wr.alloc (.cells #[.int .i64 7, .int .i64 c, .int .i64 on, .int .u32 x, .int .u32 y, .int .i64 uk, .int .u32 um, .int .u32 ux] 87)) := HV.out.box rfl _ _
        go_wp2_with fail
        refine (rn_go HB on).mono ?_
        rintro e w3 ⟨rfl, H3⟩
        obtain ⟨nv3, H3b⟩ := H3
        have HT3 := Lib.hid H3b
        clear H3b HB
        go_wp2_with (first
          | (go_at_call 61; refine (bit_any _ _).mono ?_; rintro e w9 ⟨rfl, rfl⟩)
          | (at_builtin; refine wpList_append_rd (P := Try.prog) _ rfl (.tmp 103) (.tmp 109) _ rfl 0 23 i0 _ 1 4 Try.underlying22 HI.out.1 HI.out.2.1 HI.out.2.2.1 HI.out.2.2.2 rfl (by omega) _ _ _ rfl (Has.ownAt (Has.new1 HT3.out) 5 rfl) (some ⟨w3.heap.size, 0, none⟩) 3 3 [.int .u32 _, .int .u32 _, .int .u32 _] rfl (rd_cells (Blk.new _ _ _)) (by simp [Value.oneCell']) (by unfold maxLen; have := HLN.out; omega) (by have := HLN.out; omega) (by omega) ?_; intro v' w' hown hg hat; have HF := CHas.more ⟨nv3, HT3.out⟩ hown hg hat; clear hown hg hat))
        exact ⟨⟨j + 1, by omega, by go_num, _, rfl, by rw [HTK.out]; exact HF⟩, by simp [intOf]; omega⟩
      by_cases k8 : kind = 8
      · subst k8
        have HB : RunHas [] w0 m a r (.blk wr.heap.size #[.int .i64 8, .int .i64 c, .int .i64 on, .int .u32 x, .int .u32 y, .int .i64 uk, .int .u32 um, .int .u32 ux] :: .own 23 1 v (calls9 (l.take j) s).1.length (u32s (calls9 (l.take j) s).1) :: rs) (calls9 (l.take j) s).2 (wr.alloc (.cells #[.int .i64 8, .int .i64 c, .int .i64 on, .int .u32 x, .int .u32 y, .int .i64 uk, .int .u32 um, .int .u32 ux] 87)) := HV.out.box rfl _ _
        go_wp2_with fail
        refine (rn_end HB _).mono ?_
        rintro e w3 ⟨rfl, H3⟩
        obtain ⟨nv3, H3b⟩ := H3
        have HT3 := Lib.hid H3b
        clear H3b HB
        go_wp2_with (first
          | (go_at_call 61; refine (bit_any _ _).mono ?_; rintro e w9 ⟨rfl, rfl⟩)
          | (at_builtin; refine wpList_append_rd (P := Try.prog) _ rfl (.tmp 103) (.tmp 109) _ rfl 0 23 i0 _ 1 4 Try.underlying22 HI.out.1 HI.out.2.1 HI.out.2.2.1 HI.out.2.2.2 rfl (by omega) _ _ _ rfl (Has.ownAt (Has.new1 HT3.out) 5 rfl) (some ⟨w3.heap.size, 0, none⟩) 3 3 [.int .u32 _, .int .u32 _, .int .u32 _] rfl (rd_cells (Blk.new _ _ _)) (by simp [Value.oneCell']) (by unfold maxLen; have := HLN.out; omega) (by have := HLN.out; omega) (by omega) ?_; intro v' w' hown hg hat; have HF := CHas.more ⟨nv3, HT3.out⟩ hown hg hat; clear hown hg hat))
        exact ⟨⟨j + 1, by omega, by go_num, _, rfl, by rw [HTK.out]; exact HF⟩, by simp [intOf]; omega⟩
      by_cases k9 : kind = 9
      · subst k9
        have HB : RunHas [] w0 m a r (.blk wr.heap.size #[.int .i64 9, .int .i64 c, .int .i64 on, .int .u32 x, .int .u32 y, .int .i64 uk, .int .u32 um, .int .u32 ux] :: .own 23 1 v (calls9 (l.take j) s).1.length (u32s (calls9 (l.take j) s).1) :: rs) (calls9 (l.take j) s).2 (wr.alloc (.cells #[.int .i64 9, .int .i64 c, .int .i64 on, .int .u32 x, .int .u32 y, .int .i64 uk, .int .u32 um, .int .u32 ux] 87)) := HV.out.box rfl _ _
        go_wp2_with fail
        refine (rn_wake HB c).mono ?_
        rintro e w3 ⟨rfl, H3⟩
        obtain ⟨nv3, H3b⟩ := H3
        have HT3 := Lib.hid H3b
        clear H3b HB
        go_wp2_with (first
          | (go_at_call 61; refine (bit_any _ _).mono ?_; rintro e w9 ⟨rfl, rfl⟩)
          | (at_builtin; refine wpList_append_rd (P := Try.prog) _ rfl (.tmp 103) (.tmp 109) _ rfl 0 23 i0 _ 1 4 Try.underlying22 HI.out.1 HI.out.2.1 HI.out.2.2.1 HI.out.2.2.2 rfl (by omega) _ _ _ rfl (Has.ownAt (Has.new1 HT3.out) 5 rfl) (some ⟨w3.heap.size, 0, none⟩) 3 3 [.int .u32 _, .int .u32 _, .int .u32 _] rfl (rd_cells (Blk.new _ _ _)) (by simp [Value.oneCell']) (by unfold maxLen; have := HLN.out; omega) (by have := HLN.out; omega) (by omega) ?_; intro v' w' hown hg hat; have HF := CHas.more ⟨nv3, HT3.out⟩ hown hg hat; clear hown hg hat))
        exact ⟨⟨j + 1, by omega, by go_num, _, rfl, by rw [HTK.out]; exact HF⟩, by simp [intOf]; omega⟩
      have q0 : (kind == 0) = false := by simpa using k0
      have q1 : (kind == 1) = false := by simpa using k1
      have q2 : (kind == 2) = false := by simpa using k2
      have q3 : (kind == 3) = false := by simpa using k3
      have q4 : (kind == 4) = false := by simpa using k4
      have q5 : (kind == 5) = false := by simpa using k5
      have q6 : (kind == 6) = false := by simpa using k6
      have q7 : (kind == 7) = false := by simpa using k7
      have q8 : (kind == 8) = false := by simpa using k8
      have q9 : (kind == 9) = false := by simpa using k9
      have HC9 := Lib.hid (call9_none (c := c) (n := on) (x := x) (y := y) (uk := uk) (um := um) (ux := ux) (calls9 (l.take j) s).2 k0 k1 k2 k3 k4 k5 k6 k7 k8 k9)
      clear k0 k1 k2 k3 k4 k5 k6 k7 k8 k9
      go_wp2_with fail
      refine calls_from (Facts := fun W => RunHas [] w0 m a r (.blk wr.heap.size #[.int .i64 kind, .int .i64 c, .int .i64 on, .int .u32 x, .int .u32 y, .int .i64 uk, .int .u32 um, .int .u32 ux] :: .own 23 1 v (calls9 (l.take j) s).1.length (u32s (calls9 (l.take j) s).1) :: rs) (calls9 (l.take j) s).2 W) ?_ (HV.out.box rfl _ _)
      intro w3 H3
      obtain ⟨nv3, H3b⟩ := H3
      have HT3 := Lib.hid H3b
      clear H3b
      refine (bit_any _ _).mono ?_
      rintro e w9 ⟨rfl, rfl⟩
      go_wp2_with (first
          | (go_at_call 61; refine (bit_any _ _).mono ?_; rintro e w9 ⟨rfl, rfl⟩)
          | (at_builtin; refine wpList_append_rd (P := Try.prog) _ rfl (.tmp 103) (.tmp 109) _ rfl 0 23 i0 _ 1 4 Try.underlying22 HI.out.1 HI.out.2.1 HI.out.2.2.1 HI.out.2.2.2 rfl (by omega) _ _ _ rfl (Has.ownAt (Has.new1 HT3.out) 5 rfl) (some ⟨w3.heap.size, 0, none⟩) 3 3 [.int .u32 _, .int .u32 _, .int .u32 _] rfl (rd_cells (Blk.new _ _ _)) (by simp [Value.oneCell']) (by unfold maxLen; have := HLN.out; omega) (by have := HLN.out; omega) (by omega) ?_; intro v' w' hown hg hat; have HF := CHas.more ⟨nv3, HT3.out⟩ hown hg hat; clear hown hg hat))
      exact ⟨⟨j + 1, by omega, by go_num, _, rfl, by rw [HTK.out, HC9.out]; exact HF⟩, by simp [intOf]; omega⟩
    · have hjk2 : j = k := by omega
      have hi2 : (k : Int) ≤ (j : Int) := by omega
      have HJ := Lib.hid hjk2
      clear hjk2
      go_wp2_with fail
      go_ret
      refine ⟨_, rfl, ?_⟩
      have h := HV.out
      rw [HJ.out, ← HK.out, List.take_length] at h
      exact h
end Go.Proofs.Ytlndihdlodempaa.Z

/- Law 9: `plain`: its walk. Written by gencalls9.py. -/
set_option linter.unusedVariables false
set_option linter.unusedSimpArgs false
namespace Go.Proofs.Ytlndihdlodempaa.Z
open Go.RowKit

/-- The run, and in front of its other things what was told. -/
def PHas (S0 : List Nat) (w0 : World) (pp : Option Addr) (g cap q : Nat) (rs : List Res) (v : Value) (R : List Int × Rn) (w : World) : Prop := XHas S0 w0 pp g cap q (.own 23 1 v R.1.length (u32s R.1) :: rs) R.2 w

/-- Three words more are told. -/
theorem PHas.more {S0 : List Nat} {w0 w w' : World} {pp : Option Addr} {g cap q : Nat} {rs : List Res} {v v' : Value} {out : List Int} {s : Rn} {o : Res} {c0 : Array Value} {t0 : TypeId} {x y z : Int}
    (H : XHas S0 w0 pp g cap q (o :: .own 23 1 v out.length (u32s out) :: rs) s w) (hown : w'.ownsRow 0 23 1 v' (out.length + 3) (u32s out ++ [.int .u32 x, .int .u32 y, .int .u32 z])) (hg : (w.alloc (.cells c0 t0)).grownBy w' v.ownBlock)
    (hat : v'.ownBlock = v.ownBlock ∨ v'.ownBlock = some (w.alloc (.cells c0 t0)).heap.size) : PHas S0 w0 pp g cap q rs v' (out ++ [x, y, z], s) w' := by
  obtain ⟨nv, H⟩ := H
  have H1 : Has S0 w0 (w.alloc (.cells c0 t0)) (.row pp g cap s.L :: .blk q (xcells pp cap s nv) :: .own 98 4 nv s.notes.length (nts s.notes) :: o :: .own 23 1 v out.length (u32s out) :: rs) := (Has.new1 H).tail
  have H2 := Has.grown (H1.perm (List.perm_middle (l₁ := [_, _, _, _]))) hown hg hat
  refine ⟨nv, ?_⟩
  show Has S0 w0 w' (.row pp g cap s.L :: .blk q (xcells pp cap s nv) :: .own 98 4 nv s.notes.length (nts s.notes) :: .own 23 1 v' (out ++ [x, y, z]).length (u32s (out ++ [x, y, z])) :: rs)
  rw [show (out ++ [x, y, z]).length = out.length + 3 by simp, show u32s (out ++ [x, y, z]) = u32s out ++ [.int .u32 x, .int .u32 y, .int .u32 z] by simp [u32s]]
  have H3 : Has S0 w0 w' (.own 23 1 v' (out.length + 3) (u32s out ++ [.int .u32 x, .int .u32 y, .int .u32 z]) :: .row pp g cap s.L :: .blk q (xcells pp cap s nv) :: .own 98 4 nv s.notes.length (nts s.notes) :: o :: rs) := H2
  have H4 : Has S0 w0 w' (.row pp g cap s.L :: .blk q (xcells pp cap s nv) :: .own 98 4 nv s.notes.length (nts s.notes) :: .own 23 1 v' (out.length + 3) (u32s out ++ [.int .u32 x, .int .u32 y, .int .u32 z]) :: o :: rs) := H3.perm (List.perm_middle (l₁ := [_, _, _])).symm
  exact (H4.perm (List.perm_middle (l₁ := [_, _, _, _]) (a := o))).tail


set_option maxHeartbeats 1600000 in
set_option maxRecDepth 100000 in
theorem plain_any {w0 w : World} {pp : Option Addr} {g cap q : Nat} {rs : List Res} {s : Rn} {A : Option Addr} {k cp : Nat} {l : List Op9} (H : XHas [] w0 pp g cap q rs s w) (hr : Rd w0 8 A k (l.flatMap Op9.cells)) (hl : ∀ o, o ∈ l → Op9Ok o) (hk : k ≤ 10) (hn : I64 s.n) (hc : s.notes.length ≤ 100) :
    Calls Try.prog 18 #[.pointer (some ⟨q, 0, none⟩), .slice A k cp] w fun e w' => ∃ v, e = .returned v ∧ PHas [] w0 pp g cap q rs v (calls9 l s) w' := by
  have hlk : l.length = k := by have := hr.1; rw [flatMap_length (dec := Op9.cells) (size := 8) (fun _ => rfl)] at this; omega
  have H0 : PHas [] w0 pp g cap q rs (.slice none 0 0) (calls9 (l.take 0) s) w := by
    obtain ⟨nv, H⟩ := H
    refine ⟨nv, ?_⟩
    exact ((H.ownNil 23 1).perm (List.perm_middle (l₁ := [_, _, _])).symm)
  obtain ⟨i0, hi0, hz0, hz1, hz2⟩ := info_parts u32_info9
  have HI := Lib.hid (show _ ∧ _ ∧ _ ∧ _ from ⟨hi0, hz0, hz1, hz2⟩)
  clear hi0 hz0 hz1 hz2
  have HS := Lib.hid H0
  have HR := Lib.hid hr
  have HL := Lib.hid hl
  have HK := Lib.hid hlk
  clear H H0 hr hl hlk
  go_enter Try.func18, Try.ntmps18
  go_wp2_with fail
  go_loopw [5, 6] (fun v i W => ∃ j : Nat, j ≤ k ∧ i = .int .i64 j ∧ ∃ v', v' = v ∧ PHas [] w0 pp g cap q rs v' (calls9 (l.take j) s) W) (fun _ i _ => k - (intOf i).toNat)
  case atStart => exact ⟨0, Nat.zero_le _, rfl, _, rfl, HS.out⟩
  case round =>
    obtain ⟨j, hj, rfl, v, rfl, hR⟩ := hrel
    clear HS
    have hi1 : (0 : Int) ≤ (j : Int) := Int.natCast_nonneg _
    have HV := Lib.hid hR
    clear hR
    by_cases hjk : j < k
    · have hi2 : (j : Int) < (k : Int) := by omega
      obtain ⟨nv0, hV0⟩ := HV.out
      have hBr := HR.out.touch hV0.touch (by simp)
      obtain ⟨b, off, o, rfl, hbb, ho, hol⟩ := elem_head (dec := Op9.cells) (size := 8) (by decide) (fun _ => rfl) hBr hjk
      obtain ⟨c0, c1⟩ := elem_cells (dec := Op9.cells) (size := 8) (by decide) (fun _ => rfl) hBr hjk ho
      have hok := HL.out o hol
      obtain ⟨hjl, hjo⟩ := List.getElem?_eq_some_iff.1 ho
      have htk := calls9_take l s j hjl
      rw [hjo] at htk
      obtain ⟨kind, c, on, x, y, uk, um, ux⟩ := o
      have f0 := c1 0 _ rfl
      have f1 := c1 1 _ rfl
      have f2 := c1 2 _ rfl
      have f3 := c1 3 _ rfl
      have f4 := c1 4 _ rfl
      have f5 := c1 5 _ rfl
      have f6 := c1 6 _ rfl
      have f7 := c1 7 _ rfl
      simp only [Nat.add_zero] at f0 f1 f2 f3 f4 f5 f6 f7
      clear c1 hBr hV0 ho hol hjo
      have HLN := Lib.hid (show (calls9 (l.take j) s).1.length ≤ 30 by rw [calls9_len, List.length_take]; omega)
      have HOK := Lib.hid hok
      have HTK := Lib.hid htk
      clear hok htk
      by_cases k0 : kind = 0
      · subst k0
        have HB : XHas [] w0 pp g cap q (.blk wr.heap.size #[.int .i64 0, .int .i64 c, .int .i64 on, .int .u32 x, .int .u32 y, .int .i64 uk, .int .u32 um, .int .u32 ux] :: .own 23 1 v (calls9 (l.take j) s).1.length (u32s (calls9 (l.take j) s).1) :: rs) (calls9 (l.take j) s).2 (wr.alloc (.cells #[.int .i64 0, .int .i64 c, .int .i64 on, .int .u32 x, .int .u32 y, .int .i64 uk, .int .u32 um, .int .u32 ux] 87)) := HV.out.box rfl _ _
        go_wp2_with fail
        refine (xn_load HB c).mono ?_
        rintro e w3 ⟨rfl, H3⟩
        obtain ⟨nv3, H3b⟩ := H3
        have HT3 := Lib.hid H3b
        clear H3b HB
        go_wp2_with (first
          | (go_at_call 61; refine (bit_any _ _).mono ?_; rintro e w9 ⟨rfl, rfl⟩)
          | (at_builtin; refine wpList_append_rd (P := Try.prog) _ rfl (.tmp 104) (.tmp 110) _ rfl 0 23 i0 _ 1 4 Try.underlying22 HI.out.1 HI.out.2.1 HI.out.2.2.1 HI.out.2.2.2 rfl (by omega) _ _ _ rfl (Has.ownAt (Has.new1 HT3.out) 5 rfl) (some ⟨w3.heap.size, 0, none⟩) 3 3 [.int .u32 _, .int .u32 _, .int .u32 _] rfl (rd_cells (Blk.new _ _ _)) (by simp [Value.oneCell']) (by unfold maxLen; have := HLN.out; omega) (by have := HLN.out; omega) (by omega) ?_; intro v' w' hown hg hat; have HF := PHas.more ⟨nv3, HT3.out⟩ hown hg hat; clear hown hg hat))
        exact ⟨⟨j + 1, by omega, by go_num, _, rfl, by rw [HTK.out]; exact HF⟩, by simp [intOf]; omega⟩
      by_cases k1 : kind = 1
      · subst k1
        have HB : XHas [] w0 pp g cap q (.blk wr.heap.size #[.int .i64 1, .int .i64 c, .int .i64 on, .int .u32 x, .int .u32 y, .int .i64 uk, .int .u32 um, .int .u32 ux] :: .own 23 1 v (calls9 (l.take j) s).1.length (u32s (calls9 (l.take j) s).1) :: rs) (calls9 (l.take j) s).2 (wr.alloc (.cells #[.int .i64 1, .int .i64 c, .int .i64 on, .int .u32 x, .int .u32 y, .int .i64 uk, .int .u32 um, .int .u32 ux] 87)) := HV.out.box rfl _ _
        go_wp2_with fail
        refine (xn_store HB c x HOK.out.1.1).mono ?_
        rintro e w3 ⟨rfl, H3⟩
        obtain ⟨nv3, H3b⟩ := H3
        have HT3 := Lib.hid H3b
        clear H3b HB
        go_wp2_with (first
          | (go_at_call 61; refine (bit_any _ _).mono ?_; rintro e w9 ⟨rfl, rfl⟩)
          | (at_builtin; refine wpList_append_rd (P := Try.prog) _ rfl (.tmp 104) (.tmp 110) _ rfl 0 23 i0 _ 1 4 Try.underlying22 HI.out.1 HI.out.2.1 HI.out.2.2.1 HI.out.2.2.2 rfl (by omega) _ _ _ rfl (Has.ownAt (Has.new1 HT3.out) 5 rfl) (some ⟨w3.heap.size, 0, none⟩) 3 3 [.int .u32 _, .int .u32 _, .int .u32 _] rfl (rd_cells (Blk.new _ _ _)) (by simp [Value.oneCell']) (by unfold maxLen; have := HLN.out; omega) (by have := HLN.out; omega) (by omega) ?_; intro v' w' hown hg hat; have HF := PHas.more ⟨nv3, HT3.out⟩ hown hg hat; clear hown hg hat))
        exact ⟨⟨j + 1, by omega, by go_num, _, rfl, by rw [HTK.out]; exact HF⟩, by simp [intOf]; omega⟩
      by_cases k2 : kind = 2
      · subst k2
        have HB : XHas [] w0 pp g cap q (.blk wr.heap.size #[.int .i64 2, .int .i64 c, .int .i64 on, .int .u32 x, .int .u32 y, .int .i64 uk, .int .u32 um, .int .u32 ux] :: .own 23 1 v (calls9 (l.take j) s).1.length (u32s (calls9 (l.take j) s).1) :: rs) (calls9 (l.take j) s).2 (wr.alloc (.cells #[.int .i64 2, .int .i64 c, .int .i64 on, .int .u32 x, .int .u32 y, .int .i64 uk, .int .u32 um, .int .u32 ux] 87)) := HV.out.box rfl _ _
        go_wp2_with fail
        refine (xn_add HB c x HOK.out.1.1).mono ?_
        rintro e w3 ⟨rfl, H3⟩
        obtain ⟨nv3, H3b⟩ := H3
        have HT3 := Lib.hid H3b
        clear H3b HB
        go_wp2_with (first
          | (go_at_call 61; refine (bit_any _ _).mono ?_; rintro e w9 ⟨rfl, rfl⟩)
          | (at_builtin; refine wpList_append_rd (P := Try.prog) _ rfl (.tmp 104) (.tmp 110) _ rfl 0 23 i0 _ 1 4 Try.underlying22 HI.out.1 HI.out.2.1 HI.out.2.2.1 HI.out.2.2.2 rfl (by omega) _ _ _ rfl (Has.ownAt (Has.new1 HT3.out) 5 rfl) (some ⟨w3.heap.size, 0, none⟩) 3 3 [.int .u32 _, .int .u32 _, .int .u32 _] rfl (rd_cells (Blk.new _ _ _)) (by simp [Value.oneCell']) (by unfold maxLen; have := HLN.out; omega) (by have := HLN.out; omega) (by omega) ?_; intro v' w' hown hg hat; have HF := PHas.more ⟨nv3, HT3.out⟩ hown hg hat; clear hown hg hat))
        exact ⟨⟨j + 1, by omega, by go_num, _, rfl, by rw [HTK.out]; exact HF⟩, by simp [intOf]; omega⟩
      by_cases k3 : kind = 3
      · subst k3
        have HB : XHas [] w0 pp g cap q (.blk wr.heap.size #[.int .i64 3, .int .i64 c, .int .i64 on, .int .u32 x, .int .u32 y, .int .i64 uk, .int .u32 um, .int .u32 ux] :: .own 23 1 v (calls9 (l.take j) s).1.length (u32s (calls9 (l.take j) s).1) :: rs) (calls9 (l.take j) s).2 (wr.alloc (.cells #[.int .i64 3, .int .i64 c, .int .i64 on, .int .u32 x, .int .u32 y, .int .i64 uk, .int .u32 um, .int .u32 ux] 87)) := HV.out.box rfl _ _
        go_wp2_with fail
        refine (xn_swap HB c x HOK.out.1.1).mono ?_
        rintro e w3 ⟨rfl, H3⟩
        obtain ⟨nv3, H3b⟩ := H3
        have HT3 := Lib.hid H3b
        clear H3b HB
        go_wp2_with (first
          | (go_at_call 61; refine (bit_any _ _).mono ?_; rintro e w9 ⟨rfl, rfl⟩)
          | (at_builtin; refine wpList_append_rd (P := Try.prog) _ rfl (.tmp 104) (.tmp 110) _ rfl 0 23 i0 _ 1 4 Try.underlying22 HI.out.1 HI.out.2.1 HI.out.2.2.1 HI.out.2.2.2 rfl (by omega) _ _ _ rfl (Has.ownAt (Has.new1 HT3.out) 5 rfl) (some ⟨w3.heap.size, 0, none⟩) 3 3 [.int .u32 _, .int .u32 _, .int .u32 _] rfl (rd_cells (Blk.new _ _ _)) (by simp [Value.oneCell']) (by unfold maxLen; have := HLN.out; omega) (by have := HLN.out; omega) (by omega) ?_; intro v' w' hown hg hat; have HF := PHas.more ⟨nv3, HT3.out⟩ hown hg hat; clear hown hg hat))
        exact ⟨⟨j + 1, by omega, by go_num, _, rfl, by rw [HTK.out]; exact HF⟩, by simp [intOf]; omega⟩
      by_cases k4 : kind = 4
      · subst k4
        have HB : XHas [] w0 pp g cap q (.blk wr.heap.size #[.int .i64 4, .int .i64 c, .int .i64 on, .int .u32 x, .int .u32 y, .int .i64 uk, .int .u32 um, .int .u32 ux] :: .own 23 1 v (calls9 (l.take j) s).1.length (u32s (calls9 (l.take j) s).1) :: rs) (calls9 (l.take j) s).2 (wr.alloc (.cells #[.int .i64 4, .int .i64 c, .int .i64 on, .int .u32 x, .int .u32 y, .int .i64 uk, .int .u32 um, .int .u32 ux] 87)) := HV.out.box rfl _ _
        go_wp2_with fail
        refine (xn_cas HB c x y HOK.out.1.1 HOK.out.1.2).mono ?_
        rintro e w3 ⟨rfl, H3⟩
        obtain ⟨nv3, H3b⟩ := H3
        have HT3 := Lib.hid H3b
        clear H3b HB
        go_wp2_with (first
          | (go_at_call 61; refine (bit_any _ _).mono ?_; rintro e w9 ⟨rfl, rfl⟩)
          | (at_builtin; refine wpList_append_rd (P := Try.prog) _ rfl (.tmp 104) (.tmp 110) _ rfl 0 23 i0 _ 1 4 Try.underlying22 HI.out.1 HI.out.2.1 HI.out.2.2.1 HI.out.2.2.2 rfl (by omega) _ _ _ rfl (Has.ownAt (Has.new1 HT3.out) 5 rfl) (some ⟨w3.heap.size, 0, none⟩) 3 3 [.int .u32 _, .int .u32 _, .int .u32 _] rfl (rd_cells (Blk.new _ _ _)) (by simp [Value.oneCell']) (by unfold maxLen; have := HLN.out; omega) (by have := HLN.out; omega) (by omega) ?_; intro v' w' hown hg hat; have HF := PHas.more ⟨nv3, HT3.out⟩ hown hg hat; clear hown hg hat))
        exact ⟨⟨j + 1, by omega, by go_num, _, rfl, by rw [HTK.out]; exact HF⟩, by simp [intOf]; omega⟩
      by_cases k5 : kind = 5
      · subst k5
        have HB : XHas [] w0 pp g cap q (.blk wr.heap.size #[.int .i64 5, .int .i64 c, .int .i64 on, .int .u32 x, .int .u32 y, .int .i64 uk, .int .u32 um, .int .u32 ux] :: .own 23 1 v (calls9 (l.take j) s).1.length (u32s (calls9 (l.take j) s).1) :: rs) (calls9 (l.take j) s).2 (wr.alloc (.cells #[.int .i64 5, .int .i64 c, .int .i64 on, .int .u32 x, .int .u32 y, .int .i64 uk, .int .u32 um, .int .u32 ux] 87)) := HV.out.box rfl _ _
        go_wp2_with fail
        refine (xn_wait HB c uk um ux).mono ?_
        rintro e w3 ⟨rfl, H3⟩
        obtain ⟨nv3, H3b⟩ := H3
        have HT3 := Lib.hid H3b
        clear H3b HB
        go_wp2_with (first
          | (go_at_call 61; refine (bit_any _ _).mono ?_; rintro e w9 ⟨rfl, rfl⟩)
          | (at_builtin; refine wpList_append_rd (P := Try.prog) _ rfl (.tmp 104) (.tmp 110) _ rfl 0 23 i0 _ 1 4 Try.underlying22 HI.out.1 HI.out.2.1 HI.out.2.2.1 HI.out.2.2.2 rfl (by omega) _ _ _ rfl (Has.ownAt (Has.new1 HT3.out) 5 rfl) (some ⟨w3.heap.size, 0, none⟩) 3 3 [.int .u32 _, .int .u32 _, .int .u32 _] rfl (rd_cells (Blk.new _ _ _)) (by simp [Value.oneCell']) (by unfold maxLen; have := HLN.out; omega) (by have := HLN.out; omega) (by omega) ?_; intro v' w' hown hg hat; have HF := PHas.more ⟨nv3, HT3.out⟩ hown hg hat; clear hown hg hat))
        exact ⟨⟨j + 1, by omega, by go_num, _, rfl, by rw [HTK.out]; exact HF⟩, by simp [intOf]; omega⟩
      by_cases k6 : kind = 6
      · subst k6
        have HB : XHas [] w0 pp g cap q (.blk wr.heap.size #[.int .i64 6, .int .i64 c, .int .i64 on, .int .u32 x, .int .u32 y, .int .i64 uk, .int .u32 um, .int .u32 ux] :: .own 23 1 v (calls9 (l.take j) s).1.length (u32s (calls9 (l.take j) s).1) :: rs) (calls9 (l.take j) s).2 (wr.alloc (.cells #[.int .i64 6, .int .i64 c, .int .i64 on, .int .u32 x, .int .u32 y, .int .i64 uk, .int .u32 um, .int .u32 ux] 87)) := HV.out.box rfl _ _
        go_wp2_with fail
        refine (x_note HB (by have := calls9_notes (l.take j) s; rw [List.length_take] at this; omega) on c).mono ?_
        rintro e w3 ⟨rfl, H3⟩
        obtain ⟨nv3, H3b⟩ := H3
        have HT3 := Lib.hid H3b
        clear H3b HB
        go_wp2_with (first
          | (go_at_call 61; refine (bit_any _ _).mono ?_; rintro e w9 ⟨rfl, rfl⟩)
          | (at_builtin; refine wpList_append_rd (P := Try.prog) _ rfl (.tmp 104) (.tmp 110) _ rfl 0 23 i0 _ 1 4 Try.underlying22 HI.out.1 HI.out.2.1 HI.out.2.2.1 HI.out.2.2.2 rfl (by omega) _ _ _ rfl (Has.ownAt (Has.new1 HT3.out) 5 rfl) (some ⟨w3.heap.size, 0, none⟩) 3 3 [.int .u32 _, .int .u32 _, .int .u32 _] rfl (rd_cells (Blk.new _ _ _)) (by simp [Value.oneCell']) (by unfold maxLen; have := HLN.out; omega) (by have := HLN.out; omega) (by omega) ?_; intro v' w' hown hg hat; have HF := PHas.more ⟨nv3, HT3.out⟩ hown hg hat; clear hown hg hat))
        exact ⟨⟨j + 1, by omega, by go_num, _, rfl, by rw [HTK.out]; exact HF⟩, by simp [intOf]; omega⟩
      by_cases k7 : kind = 7
      · subst k7
        have HB : XHas [] w0 pp g cap q (.blk wr.heap.size #[.int .i64 7, .int .i64 c, .int .i64 on, .int .u32 x, .int .u32 y, .int .i64 uk, .int .u32 um, .int .u32 ux] :: .own 23 1 v (calls9 (l.take j) s).1.length (u32s (calls9 (l.take j) s).1) :: rs) (calls9 (l.take j) s).2 (wr.alloc (.cells #[.int .i64 7, .int .i64 c, .int .i64 on, .int .u32 x, .int .u32 y, .int .i64 uk, .int .u32 um, .int .u32 ux] 87)) := HV.out.box rfl _ _
        have HG := HB.goto on
        obtain ⟨nvb, HB⟩ := HB
        obtain ⟨z0, z1, z2⟩ := HB.blk1.own
        simp only [xcells] at z1
        have HGH := Lib.hid HG
        clear HG HB
        go_wp2_with fail
        refine calls_from (Facts := fun W => XHas [] w0 pp g cap q (.blk wr.heap.size #[.int .i64 7, .int .i64 c, .int .i64 on, .int .u32 x, .int .u32 y, .int .i64 uk, .int .u32 um, .int .u32 ux] :: .own 23 1 v (calls9 (l.take j) s).1.length (u32s (calls9 (l.take j) s).1) :: rs) ((calls9 (l.take j) s).2.goto on) W) ?_ HGH.out
        clear z0 z1 z2 HGH
        intro w3 H3
        obtain ⟨nv3, H3b⟩ := H3
        have HT3 := Lib.hid H3b
        clear H3b
        refine (bit_any _ _).mono ?_
        rintro e w9 ⟨rfl, rfl⟩
        go_wp2_with (first
          | (go_at_call 61; refine (bit_any _ _).mono ?_; rintro e w9 ⟨rfl, rfl⟩)
          | (at_builtin; refine wpList_append_rd (P := Try.prog) _ rfl (.tmp 104) (.tmp 110) _ rfl 0 23 i0 _ 1 4 Try.underlying22 HI.out.1 HI.out.2.1 HI.out.2.2.1 HI.out.2.2.2 rfl (by omega) _ _ _ rfl (Has.ownAt (Has.new1 HT3.out) 5 rfl) (some ⟨w3.heap.size, 0, none⟩) 3 3 [.int .u32 _, .int .u32 _, .int .u32 _] rfl (rd_cells (Blk.new _ _ _)) (by simp [Value.oneCell']) (by unfold maxLen; have := HLN.out; omega) (by have := HLN.out; omega) (by omega) ?_; intro v' w' hown hg hat; have HF := PHas.more ⟨nv3, HT3.out⟩ hown hg hat; clear hown hg hat))
        exact ⟨⟨j + 1, by omega, by go_num, _, rfl, by rw [HTK.out]; exact HF⟩, by simp [intOf]; omega⟩
      by_cases k8 : kind = 8
      · subst k8
        have HB : XHas [] w0 pp g cap q (.blk wr.heap.size #[.int .i64 8, .int .i64 c, .int .i64 on, .int .u32 x, .int .u32 y, .int .i64 uk, .int .u32 um, .int .u32 ux] :: .own 23 1 v (calls9 (l.take j) s).1.length (u32s (calls9 (l.take j) s).1) :: rs) (calls9 (l.take j) s).2 (wr.alloc (.cells #[.int .i64 8, .int .i64 c, .int .i64 on, .int .u32 x, .int .u32 y, .int .i64 uk, .int .u32 um, .int .u32 ux] 87)) := HV.out.box rfl _ _
        go_wp2_with fail
        refine (xn_end HB _).mono ?_
        rintro e w3 ⟨rfl, H3⟩
        obtain ⟨nv3, H3b⟩ := H3
        have HT3 := Lib.hid H3b
        clear H3b HB
        go_wp2_with (first
          | (go_at_call 61; refine (bit_any _ _).mono ?_; rintro e w9 ⟨rfl, rfl⟩)
          | (at_builtin; refine wpList_append_rd (P := Try.prog) _ rfl (.tmp 104) (.tmp 110) _ rfl 0 23 i0 _ 1 4 Try.underlying22 HI.out.1 HI.out.2.1 HI.out.2.2.1 HI.out.2.2.2 rfl (by omega) _ _ _ rfl (Has.ownAt (Has.new1 HT3.out) 5 rfl) (some ⟨w3.heap.size, 0, none⟩) 3 3 [.int .u32 _, .int .u32 _, .int .u32 _] rfl (rd_cells (Blk.new _ _ _)) (by simp [Value.oneCell']) (by unfold maxLen; have := HLN.out; omega) (by have := HLN.out; omega) (by omega) ?_; intro v' w' hown hg hat; have HF := PHas.more ⟨nv3, HT3.out⟩ hown hg hat; clear hown hg hat))
        exact ⟨⟨j + 1, by omega, by go_num, _, rfl, by rw [HTK.out]; exact HF⟩, by simp [intOf]; omega⟩
      by_cases k9 : kind = 9
      · subst k9
        have HB : XHas [] w0 pp g cap q (.blk wr.heap.size #[.int .i64 9, .int .i64 c, .int .i64 on, .int .u32 x, .int .u32 y, .int .i64 uk, .int .u32 um, .int .u32 ux] :: .own 23 1 v (calls9 (l.take j) s).1.length (u32s (calls9 (l.take j) s).1) :: rs) (calls9 (l.take j) s).2 (wr.alloc (.cells #[.int .i64 9, .int .i64 c, .int .i64 on, .int .u32 x, .int .u32 y, .int .i64 uk, .int .u32 um, .int .u32 ux] 87)) := HV.out.box rfl _ _
        go_wp2_with fail
        refine (xn_wake HB c).mono ?_
        rintro e w3 ⟨rfl, H3⟩
        obtain ⟨nv3, H3b⟩ := H3
        have HT3 := Lib.hid H3b
        clear H3b HB
        go_wp2_with (first
          | (go_at_call 61; refine (bit_any _ _).mono ?_; rintro e w9 ⟨rfl, rfl⟩)
          | (at_builtin; refine wpList_append_rd (P := Try.prog) _ rfl (.tmp 104) (.tmp 110) _ rfl 0 23 i0 _ 1 4 Try.underlying22 HI.out.1 HI.out.2.1 HI.out.2.2.1 HI.out.2.2.2 rfl (by omega) _ _ _ rfl (Has.ownAt (Has.new1 HT3.out) 5 rfl) (some ⟨w3.heap.size, 0, none⟩) 3 3 [.int .u32 _, .int .u32 _, .int .u32 _] rfl (rd_cells (Blk.new _ _ _)) (by simp [Value.oneCell']) (by unfold maxLen; have := HLN.out; omega) (by have := HLN.out; omega) (by omega) ?_; intro v' w' hown hg hat; have HF := PHas.more ⟨nv3, HT3.out⟩ hown hg hat; clear hown hg hat))
        exact ⟨⟨j + 1, by omega, by go_num, _, rfl, by rw [HTK.out]; exact HF⟩, by simp [intOf]; omega⟩
      have q0 : (kind == 0) = false := by simpa using k0
      have q1 : (kind == 1) = false := by simpa using k1
      have q2 : (kind == 2) = false := by simpa using k2
      have q3 : (kind == 3) = false := by simpa using k3
      have q4 : (kind == 4) = false := by simpa using k4
      have q5 : (kind == 5) = false := by simpa using k5
      have q6 : (kind == 6) = false := by simpa using k6
      have q7 : (kind == 7) = false := by simpa using k7
      have q8 : (kind == 8) = false := by simpa using k8
      have q9 : (kind == 9) = false := by simpa using k9
      have HC9 := Lib.hid (call9_none (c := c) (n := on) (x := x) (y := y) (uk := uk) (um := um) (ux := ux) (calls9 (l.take j) s).2 k0 k1 k2 k3 k4 k5 k6 k7 k8 k9)
      clear k0 k1 k2 k3 k4 k5 k6 k7 k8 k9
      go_wp2_with fail
      refine calls_from (Facts := fun W => XHas [] w0 pp g cap q (.blk wr.heap.size #[.int .i64 kind, .int .i64 c, .int .i64 on, .int .u32 x, .int .u32 y, .int .i64 uk, .int .u32 um, .int .u32 ux] :: .own 23 1 v (calls9 (l.take j) s).1.length (u32s (calls9 (l.take j) s).1) :: rs) (calls9 (l.take j) s).2 W) ?_ (HV.out.box rfl _ _)
      intro w3 H3
      obtain ⟨nv3, H3b⟩ := H3
      have HT3 := Lib.hid H3b
      clear H3b
      refine (bit_any _ _).mono ?_
      rintro e w9 ⟨rfl, rfl⟩
      go_wp2_with (first
          | (go_at_call 61; refine (bit_any _ _).mono ?_; rintro e w9 ⟨rfl, rfl⟩)
          | (at_builtin; refine wpList_append_rd (P := Try.prog) _ rfl (.tmp 104) (.tmp 110) _ rfl 0 23 i0 _ 1 4 Try.underlying22 HI.out.1 HI.out.2.1 HI.out.2.2.1 HI.out.2.2.2 rfl (by omega) _ _ _ rfl (Has.ownAt (Has.new1 HT3.out) 5 rfl) (some ⟨w3.heap.size, 0, none⟩) 3 3 [.int .u32 _, .int .u32 _, .int .u32 _] rfl (rd_cells (Blk.new _ _ _)) (by simp [Value.oneCell']) (by unfold maxLen; have := HLN.out; omega) (by have := HLN.out; omega) (by omega) ?_; intro v' w' hown hg hat; have HF := PHas.more ⟨nv3, HT3.out⟩ hown hg hat; clear hown hg hat))
      exact ⟨⟨j + 1, by omega, by go_num, _, rfl, by rw [HTK.out, HC9.out]; exact HF⟩, by simp [intOf]; omega⟩
    · have hjk2 : j = k := by omega
      have hi2 : (k : Int) ≤ (j : Int) := by omega
      have HJ := Lib.hid hjk2
      clear hjk2
      go_wp2_with fail
      go_ret
      refine ⟨_, rfl, ?_⟩
      have h := HV.out
      rw [HJ.out, ← HK.out, List.take_length] at h
      exact h
end Go.Proofs.Ytlndihdlodempaa.Z

/- The same notes are the same (stilemanref05.Same). -/
set_option linter.unusedVariables false
set_option linter.unusedSimpArgs false
namespace Go.Proofs.Ytlndihdlodempaa.Z
open Go.RowKit

set_option maxHeartbeats 1600000 in
set_option maxRecDepth 100000 in
theorem same_notes {A B : Option Addr} {n c d : Nat} {l : List Nt} (w : World) (hA : Rd w 4 A n (nts l)) (hB : Rd w 4 B n (nts l)) (hn : n ≤ 1048576) :
    Calls Try.prog 22 #[.slice A n c, .slice B n d] w fun e w' => e = .returned (.bool true) ∧ Touch [] w w' := by
  have hb : ((n : Int) != (n : Int)) = false := by simp
  have HA := Lib.hid hA
  have HB := Lib.hid hB
  clear hA hB
  go_enter Try.func22, Try.ntmps22
  go_wp2_with fail
  go_loopw [5] (fun i wr => ∃ k : Nat, k ≤ n ∧ i = .int .i64 k ∧ Touch [] w wr) (fun i _ => n - (intOf i).toNat)
  case atStart => exact ⟨0, Nat.zero_le _, rfl, Touch.refl _ _⟩
  case round =>
    obtain ⟨k, hk, rfl, hw⟩ := hrel
    by_cases hlt : k < n
    · obtain ⟨b, off, y, rfl, hbb, hy, _⟩ := elem_head (dec := Nt.cells) (size := 4) (by decide) (fun _ => rfl) (HA.out.touch hw (by simp)) hlt
      obtain ⟨b2, off2, y2, rfl, hbb2, hy2, _⟩ := elem_head (dec := Nt.cells) (size := 4) (by decide) (fun _ => rfl) (HB.out.touch hw (by simp)) hlt
      obtain rfl : y = y2 := Option.some.inj (hy.symm.trans hy2)
      obtain ⟨yt, yw, yo, ya⟩ := y
      have hT : ∀ w', Touch [] w w' → Touch [] w w' ∧ (b < w'.heap.size ∧ b2 < w'.heap.size) ∧ (w'.cell? ⟨b, off + k * 4, none⟩ = some (.int .i64 yt)) ∧ (w'.cell? ⟨b, off + k * 4 + 1, none⟩ = some (.int .i64 yw)) ∧ (w'.cell? ⟨b, off + k * 4 + 2, none⟩ = some (.int .i64 yo)) ∧ (w'.cell? ⟨b, off + k * 4 + 3, none⟩ = some (.int .i64 ya)) ∧ (w'.cell? ⟨b2, off2 + k * 4, none⟩ = some (.int .i64 yt)) ∧ (w'.cell? ⟨b2, off2 + k * 4 + 1, none⟩ = some (.int .i64 yw)) ∧ (w'.cell? ⟨b2, off2 + k * 4 + 2, none⟩ = some (.int .i64 yo)) ∧ (w'.cell? ⟨b2, off2 + k * 4 + 3, none⟩ = some (.int .i64 ya)) := fun w' t => by
        obtain ⟨c0, c1⟩ := elem_cells (dec := Nt.cells) (size := 4) (by decide) (fun _ => rfl) (HA.out.touch t (by simp)) hlt hy
        obtain ⟨e0, e1⟩ := elem_cells (dec := Nt.cells) (size := 4) (by decide) (fun _ => rfl) (HB.out.touch t (by simp)) hlt hy
        exact ⟨t, ⟨c0, e0⟩, c1 0 _ rfl, c1 1 _ rfl, c1 2 _ rfl, c1 3 _ rfl, e1 0 _ rfl, e1 1 _ rfl, e1 2 _ rfl, e1 3 _ rfl⟩
      have hi : (k : Int) < (n : Int) := by omega
      go_wp2_with fail
      go_region_held3 (fun w' => Touch [] w w' ∧ (b < w'.heap.size ∧ b2 < w'.heap.size) ∧ (w'.cell? ⟨b, off + k * 4, none⟩ = some (.int .i64 yt)) ∧ (w'.cell? ⟨b, off + k * 4 + 1, none⟩ = some (.int .i64 yw)) ∧ (w'.cell? ⟨b, off + k * 4 + 2, none⟩ = some (.int .i64 yo)) ∧ (w'.cell? ⟨b, off + k * 4 + 3, none⟩ = some (.int .i64 ya)) ∧ (w'.cell? ⟨b2, off2 + k * 4, none⟩ = some (.int .i64 yt)) ∧ (w'.cell? ⟨b2, off2 + k * 4 + 1, none⟩ = some (.int .i64 yw)) ∧ (w'.cell? ⟨b2, off2 + k * 4 + 2, none⟩ = some (.int .i64 yo)) ∧ (w'.cell? ⟨b2, off2 + k * 4 + 3, none⟩ = some (.int .i64 ya)))
        (first | (go_split_ands; refine hT _ ?_; first | assumption | exact Touch.refl _ _ | (with_reducible apply Touch.drew; first | exact Touch.refl _ _ | assumption)))
        (fail)
      go_wp2_with fail
      go_roundw
      case rel => exact ⟨k + 1, by omega, by go_num, by repeat (first | assumption | apply Touch.drewN | apply Touch.drew)⟩
      case measure => simp [intOf]; omega
    · have hkn : k = n := by omega
      have hi : (n : Int) ≤ (k : Int) := by omega
      go_wp2
      go_ret
      exact ⟨rfl, hw⟩

end Go.Proofs.Ytlndihdlodempaa.Z

/- A region that draws its order, walked in an order that is told: one call that makes memory is borne beside loads that may come ahead of it or behind it; sums must be ordered with all. No program is in sight. -/
set_option linter.unusedVariables false
set_option linter.unusedSimpArgs false
namespace Go.Proofs.Ytlndihdlodempaa.Z
open Go

section
variable {P : Program} {ops : Array Oper} {Q : Exit → Act → World → Prop} {c : Nat}

/-- What may come anywhere, sums left out. -/
def blind2 (P : Program) (o : Oper) : Bool :=
  match o.op with
  | .binOp .. => false
  | .convert .. => false
  | _ => blindOp P o

theorem blind2_blind {o : Oper} (h : blind2 P o = true) : blindOp P o = true := by
  unfold blind2 at h
  split at h
  · cases h
  · cases h
  · exact h

theorem blind2_nums {o : Oper} {a : Act} (h : blind2 P o = true) : Nums o a := by
  obtain ⟨dst, op, type, pos, after, guard⟩ := o
  cases op <;> simp only [blind2, Bool.false_eq_true] at h <;> exact trivial

theorem blind2_yields {i : Nat} {oi : Oper} {a : Act} {w : World} {K : Act → World → Prop} (hQ : Calm Q) (hi : ops[i]? = some oi) (hb : blind2 P oi = true) (h : wpOp P ops Q i K a w) :
    ∃ v, Yields P ops oi v a ∧ K (a.put oi.dst v) w :=
  blind_yields hQ hi (blind2_blind hb) ⟨fun o ho _ => by rw [hi] at ho; cases ho; exact blind2_nums hb, h⟩

theorem swap1K {i j : Nat} {oi oj : Oper} {K : Act → World → Prop} {a : Act} {w : World} (hQ : Calm Q) (hi : ops[i]? = some oi) (hj : ops[j]? = some oj)
    (hsi : ∀ cs b, oi.op ≠ .select cs b) (hsj : ∀ cs b, oj.op ≠ .select cs b) (hb : blind2 P oi = true) (hap : oi.apart ops oj = true)
    (h : wpOp P ops Q i (wpOp P ops Q j K) a w) : wpOp P ops Q j (wpOp P ops Q i K) a w := by
  obtain ⟨v, hy, hk⟩ := blind2_yields hQ hi hb h
  have h2 := wpOp_put hj hap hsi hsj (fun c a w h => absurd h (hQ.panic _ _ _)) hy hk
  exact wpOp_mono (fun a' w' h3 => Yields.wpOp hi h3.1 h3.2) h2

theorem swap2K {i j : Nat} {oi oj : Oper} {K : Act → World → Prop} {a : Act} {w : World} (hQ : Calm Q) (hi : ops[i]? = some oi) (hj : ops[j]? = some oj)
    (hsi : ∀ cs b, oi.op ≠ .select cs b) (hsj : ∀ cs b, oj.op ≠ .select cs b) (hb : blind2 P oi = true) (hap : oi.apart ops oj = true)
    (h : wpOp P ops Q j (wpOp P ops Q i K) a w) : wpOp P ops Q i (wpOp P ops Q j K) a w := by
  obtain ⟨a1, a2, a3⟩ := Oper.apart_spec hap
  have hs := wpOp_shape hj h
  obtain ⟨b, wb, hsb, hib⟩ := wpOp_reach hQ hs
  obtain ⟨v, hyb, _⟩ := blind2_yields hQ hi hb hib
  have hy : Yields P ops oi v a := hyb.of_same (shape_exec (ops := ops) hsi a3 hsb).symm (shape_wanted (ops := ops) a3 hsb).symm
  refine Yields.wpOp hi hy ?_
  refine wpOp_unput (i := i) hQ hj hap hsj hs fun a' w' hsh hk => ?_
  obtain ⟨v', hy', hk'⟩ := blind2_yields hQ hi hb hk.2
  have hy2 : Yields P ops oi v a' := hy.of_same (shape_exec (ops := ops) hsi a3 hsh) (shape_wanted (ops := ops) a3 hsh)
  rw [yields_same hy2 hy']
  exact hk'

theorem swap3K {i j : Nat} {oi oj : Oper} {K : Act → World → Prop} {a : Act} {w : World} (hQ : Calm Q) (hi : ops[i]? = some oi) (hj : ops[j]? = some oj)
    (hsi : ∀ cs b, oi.op ≠ .select cs b) (hsj : ∀ cs b, oj.op ≠ .select cs b) (hli : loadOp oi = true) (hlj : loadOp oj = true) (hap : oi.apart ops oj = true)
    (h : wpOp P ops Q j (wpOp P ops Q i K) a w) : wpOp P ops Q i (wpOp P ops Q j K) a w := by
  have h' := swap3 (K := K) hQ hi hj hsi hsj hli hlj hap ⟨fun o ho _ => by rw [hj] at ho; cases ho; exact nums_load hlj, wpOp_mono (fun a w k => ⟨fun o ho _ => by rw [hi] at ho; cases ho; exact nums_load hli, k⟩) h⟩
  exact wpOp_mono (fun a w k => k.2) h'.2

theorem swap4K {i k : Nat} {oi ok : Oper} {K : Act → World → Prop} {a : Act} {w : World} (hQ : Calm Q) (hi : ops[i]? = some oi) (hk : ops[k]? = some ok)
    (hsi : ∀ cs b, oi.op ≠ .select cs b) (hsk : ∀ cs b, ok.op ≠ .select cs b) (hni : newOp oi = true) (hlk : loadOp ok = true) (hap : oi.apart ops ok = true)
    (h : wpOp P ops Q k (wpOp P ops Q i K) a w) : wpOp P ops Q i (wpOp P ops Q k K) a w := by
  have h' := swap4 (K := K) hQ hi hk hsi hsk hni hlk hap ⟨fun o ho _ => by rw [hk] at ho; cases ho; exact nums_load hlk, wpOp_mono (fun a w k => ⟨fun o ho _ => by rw [hi] at ho; cases ho; exact nums_new hni, k⟩) h⟩
  exact wpOp_mono (fun a w k => k.2) h'.2

/-- The call: what it tells may differ from world to world; it makes memory, and no more. -/
def CallK (P : Program) (ops : Array Oper) (o : Oper) (K : Act → World → Prop) (a : Act) (w : World) : Prop :=
  (Region.wanted o (yielded ops a.tmps) = true ∧ (∀ W, Touch [] w W → ∃ f args, (execOp a.eval o).run P W = .ok (.enter f args) W ∧ Calls P f args W fun e w' => ∃ v, e = .returned v ∧ Touch [] W w' ∧ K (a.put o.dst v) w')) ∨ (Region.wanted o (yielded ops a.tmps) = false ∧ K (a.put o.dst undef) w)

theorem CallK.wpOp {i : Nat} {o : Oper} {a : Act} {w : World} {K : Act → World → Prop} (hi : ops[i]? = some o) (h : CallK P ops o K a w) : wpOp P ops Q i K a w := by
  unfold Go.wpOp
  simp only [hi]
  rcases h with ⟨hw, hf⟩ | ⟨hw, hk⟩
  · obtain ⟨f, args, hv, hc⟩ := hf w (Touch.refl _ _)
    simp only [hw, if_true, Oper.wp, hv, Oper.upon]
    refine .inl (Calls.mono hc ?_)
    rintro e w' ⟨v, rfl, _, hk⟩
    exact hk
  · simp only [hw, Bool.false_eq_true, if_false]; exact hk

theorem CallK.mono {o : Oper} {a : Act} {w : World} {K K' : Act → World → Prop} (h : ∀ a w, K a w → K' a w) (hh : CallK P ops o K a w) : CallK P ops o K' a w := by
  rcases hh with ⟨hw, hf⟩ | ⟨hw, hk⟩
  · refine .inl ⟨hw, fun W t => ?_⟩
    obtain ⟨f, args, hv, hc⟩ := hf W t
    exact ⟨f, args, hv, hc.mono fun e w' ⟨v, he, ht, hk⟩ => ⟨v, he, ht, h _ _ hk⟩⟩
  · exact .inr ⟨hw, h _ _ hk⟩

def wpOpK (P : Program) (ops : Array Oper) (c : Nat) (Q : Exit → Act → World → Prop) (i : Nat) (K : Act → World → Prop) (a : Act) (w : World) : Prop :=
  if i = c then ∃ o, ops[i]? = some o ∧ CallK P ops o K a w else wpOp P ops Q i K a w

def wpOpsK (P : Program) (ops : Array Oper) (c : Nat) (Q : Exit → Act → World → Prop) : List Nat → Act → World → Prop
  | [], a, w => Q .normal a w
  | i :: rest, a, w => wpOpK P ops c Q i (wpOpsK P ops c Q rest) a w

theorem wpOpK_mono {i : Nat} {a : Act} {w : World} {K K' : Act → World → Prop} (h : ∀ a w, K a w → K' a w) (hh : wpOpK P ops c Q i K a w) : wpOpK P ops c Q i K' a w := by
  unfold wpOpK at *
  split
  · rename_i hc
    rw [if_pos hc] at hh
    obtain ⟨o, h1, h2⟩ := hh
    exact ⟨o, h1, h2.mono h⟩
  · rename_i hc
    rw [if_neg hc] at hh
    exact wpOp_mono h hh

theorem wpOpK_wpOp {i : Nat} {a : Act} {w : World} {K : Act → World → Prop} (hh : wpOpK P ops c Q i K a w) : wpOp P ops Q i K a w := by
  unfold wpOpK at hh
  split at hh
  · obtain ⟨o, h1, h2⟩ := hh
    exact h2.wpOp h1
  · exact hh

theorem wpOpK_ne {i : Nat} (h : i ≠ c) (K : Act → World → Prop) : wpOpK P ops c Q i K = wpOp P ops Q i K := by
  funext a w
  unfold wpOpK
  rw [if_neg h]

/-- A blind one is first, the call comes ahead of it. -/
theorem swapCb {i : Nat} {oi oj : Oper} {K : Act → World → Prop} {a : Act} {w : World} (hQ : Calm Q) (hi : ops[i]? = some oi) (hj : ops[c]? = some oj)
    (hsi : ∀ cs b, oi.op ≠ .select cs b) (hsj : ∀ cs b, oj.op ≠ .select cs b) (hb : blind2 P oi = true) (hap : oi.apart ops oj = true)
    (h : wpOp P ops Q i (wpOpK P ops c Q c K) a w) : wpOpK P ops c Q c (wpOp P ops Q i K) a w := by
  obtain ⟨v, hy, hk⟩ := blind2_yields hQ hi hb h
  obtain ⟨a1, a2, a3⟩ := Oper.apart_spec hap
  unfold wpOpK at hk ⊢
  rw [if_pos rfl] at hk ⊢
  obtain ⟨o, ho, hk⟩ := hk
  rw [hj] at ho
  cases ho
  refine ⟨oj, hj, ?_⟩
  have step : ∀ (u : Value) (w' : World), K ((a.put oi.dst v).put oj.dst u) w' → Go.wpOp P ops Q i K (a.put oj.dst u) w' := fun u w' hK =>
    Yields.wpOp hi (hy.of_same (execOp_put oi hsi a oj.dst u a3) (wanted_put oi a oj.dst u a3)) (by rw [← Act.put_comm a v u a2]; exact hK)
  unfold CallK at hk ⊢
  rw [wanted_put oj a oi.dst v a1, execOp_put oj hsj a oi.dst v a1] at hk
  rcases hk with ⟨hw, hf⟩ | ⟨hw, hk⟩
  · refine .inl ⟨hw, fun W t => ?_⟩
    obtain ⟨f, args, hv, hc⟩ := hf W t
    exact ⟨f, args, hv, hc.mono fun e w' ⟨u, he, ht, hK⟩ => ⟨u, he, ht, step u w' hK⟩⟩
  · exact .inr ⟨hw, step _ _ hk⟩

/-- A load is first, the call comes ahead of it. -/
theorem swapCl {i : Nat} {oi oj : Oper} {K : Act → World → Prop} {a : Act} {w : World} (hQ : Calm Q) (hi : ops[i]? = some oi) (hj : ops[c]? = some oj)
    (hsi : ∀ cs b, oi.op ≠ .select cs b) (hsj : ∀ cs b, oj.op ≠ .select cs b) (hb : loadOp oi = true) (hap : oi.apart ops oj = true)
    (h : wpOp P ops Q i (wpOpK P ops c Q c K) a w) : wpOpK P ops c Q c (wpOp P ops Q i K) a w := by
  obtain ⟨v, hy, hk⟩ := load_at hQ hi hb h
  obtain ⟨a1, a2, a3⟩ := Oper.apart_spec hap
  unfold wpOpK at hk ⊢
  rw [if_pos rfl] at hk ⊢
  obtain ⟨o, ho, hk⟩ := hk
  rw [hj] at ho
  cases ho
  refine ⟨oj, hj, ?_⟩
  have step : ∀ (u : Value) (w' : World), Touch [] w w' → K ((a.put oi.dst v).put oj.dst u) w' → Go.wpOp P ops Q i K (a.put oj.dst u) w' := fun u w' t hK =>
    LoadsAt.wpOp hi ((hy.grow hb t).of_same (execOp_put oi hsi a oj.dst u a3) (wanted_put oi a oj.dst u a3)) (by rw [← Act.put_comm a v u a2]; exact hK)
  unfold CallK at hk ⊢
  rw [wanted_put oj a oi.dst v a1, execOp_put oj hsj a oi.dst v a1] at hk
  rcases hk with ⟨hw, hf⟩ | ⟨hw, hk⟩
  · refine .inl ⟨hw, fun W t => ?_⟩
    obtain ⟨f, args, hv, hc⟩ := hf W t
    exact ⟨f, args, hv, hc.mono fun e w' ⟨u, he, ht, hK⟩ => ⟨u, he, ht, step u w' (t.trans ht) hK⟩⟩
  · exact .inr ⟨hw, step _ _ (Touch.refl _ _) hk⟩

/-- Two operations that may come in either order (k stands first). -/
def compatK (P : Program) (ops : Array Oper) (c k i : Nat) : Bool :=
  match ops[k]?, ops[i]? with
  | some x, some y => x.apart ops y && y.apart ops x && k != c && (if i = c then blind2 P x || loadOp x else (blind2 P x || blind2 P y || (loadOp x && (loadOp y || newOp y))))
  | _, _ => false

theorem swapAnyK (hQ : Calm Q) (hs : Region.noSelect ops = true) {k i : Nat} (h : compatK P ops c k i = true) {K : Act → World → Prop} {a : Act} {w : World}
    (hh : wpOpK P ops c Q k (wpOpK P ops c Q i K) a w) : wpOpK P ops c Q i (wpOpK P ops c Q k K) a w := by
  unfold compatK at h
  split at h
  · rename_i x y hx hy
    simp only [Bool.and_eq_true, bne_iff_ne, ne_eq] at h
    obtain ⟨⟨⟨h1, h2⟩, hne⟩, h3⟩ := h
    have sx := Region.noSelect_spec hs k x
    have sy := Region.noSelect_spec hs i y
    rw [wpOpK_ne hne] at hh ⊢
    split at h3
    · rename_i hi
      subst hi
      simp only [Bool.or_eq_true] at h3
      rcases h3 with h3 | h3
      · exact swapCb hQ hx hy (fun cs b => sx cs b hx) (fun cs b => sy cs b hy) h3 h1 hh
      · exact swapCl hQ hx hy (fun cs b => sx cs b hx) (fun cs b => sy cs b hy) h3 h1 hh
    · rename_i hi
      rw [wpOpK_ne hi] at hh ⊢
      simp only [Bool.or_eq_true, Bool.and_eq_true] at h3
      rcases h3 with (h3 | h3) | ⟨h3, h4 | h4⟩
      · exact swap1K hQ hx hy (fun cs b => sx cs b hx) (fun cs b => sy cs b hy) h3 h1 hh
      · exact swap2K hQ hy hx (fun cs b => sy cs b hy) (fun cs b => sx cs b hx) h3 h2 hh
      · exact swap3K hQ hy hx (fun cs b => sy cs b hy) (fun cs b => sx cs b hx) h4 h3 h2 hh
      · exact swap4K hQ hy hx (fun cs b => sy cs b hy) (fun cs b => sx cs b hx) h4 h3 h2 hh
  · cases h

theorem moveFirstK (hQ : Calm Q) (hs : Region.noSelect ops = true) {i : Nat} {t2 : List Nat} : ∀ (t1 : List Nat), (∀ k, k ∈ t1 → compatK P ops c k i = true) → ∀ (a : Act) (w : World),
    wpOpsK P ops c Q (t1 ++ i :: t2) a w → wpOpsK P ops c Q (i :: (t1 ++ t2)) a w
  | [], _, a, w, h => h
  | k :: t1, hc, a, w, h => by
    have h1 : wpOpK P ops c Q k (wpOpK P ops c Q i (wpOpsK P ops c Q (t1 ++ t2))) a w :=
      wpOpK_mono (fun a' w' h' => moveFirstK hQ hs t1 (fun k hk => hc k (List.mem_cons_of_mem _ hk)) a' w' h') h
    exact swapAnyK hQ hs (hc k (by simp)) h1

def edgesIn (ops : Array Oper) (pre : List Nat) (i : Nat) : Bool :=
  match ops[i]? with
  | some o => o.after.all fun e => !Region.binds .any e || pre.contains e.on
  | none => false
def maskedOr (P : Program) (ops : Array Oper) (c : Nat) (M : Array Nat) (i k : Nat) : Bool := (decide (k < i) && (M.getD i 0).testBit k) || compatK P ops c k i

/-- An order that is told: what stands first is ordered so, or may come in either order. -/
def ordOk (P : Program) (ops : Array Oper) (c : Nat) (M : Array Nat) : List Nat → List Nat → Bool
  | _, [] => true
  | pre, i :: rest => edgesIn ops pre i && pre.all (maskedOr P ops c M i) && !pre.contains i && ordOk P ops c M (i :: pre) rest

theorem ordOk_at {M : Array Nat} {i : Nat} {q : List Nat} : ∀ (p pre : List Nat), ordOk P ops c M pre (p ++ i :: q) = true →
    (∃ o, ops[i]? = some o ∧ ∀ e ∈ o.after, Region.binds .any e = true → e.on ∈ p ∨ e.on ∈ pre) ∧ (∀ k, k ∈ p ∨ k ∈ pre → maskedOr P ops c M i k = true) ∧ i ∉ pre
  | [], pre, h => by
    rw [List.nil_append] at h
    unfold ordOk at h
    simp only [Bool.and_eq_true, List.all_eq_true, Bool.not_eq_true', List.contains_eq_mem, decide_eq_false_iff_not] at h
    obtain ⟨⟨⟨h1, h2⟩, h3⟩, _⟩ := h
    refine ⟨?_, fun k hk => h2 k (by simpa using hk), h3⟩
    unfold edgesIn at h1
    split at h1
    · rename_i o ho
      refine ⟨o, ho, fun e he hb => .inr ?_⟩
      have := Array.all_eq_true_iff_forall_mem.1 h1 e he
      simpa [hb] using this
    · cases h1
  | j :: p, pre, h => by
    rw [List.cons_append] at h
    unfold ordOk at h
    simp only [Bool.and_eq_true] at h
    obtain ⟨⟨o, ho, h1⟩, h2, h3⟩ := ordOk_at p (j :: pre) h.2
    refine ⟨⟨o, ho, fun e he hb => ?_⟩, fun k hk => h2 k ?_, fun hm => h3 (List.mem_cons_of_mem _ hm)⟩
    · rcases h1 e he hb with h | h
      · exact .inl (List.mem_cons_of_mem _ h)
      · rcases List.mem_cons.1 h with h | h
        · exact .inl (by rw [h]; simp)
        · exact .inr h
    · rcases hk with hk | hk
      · rcases List.mem_cons.1 hk with hk | hk
        · exact .inr (by rw [hk]; simp)
        · exact .inl hk
      · exact .inr (List.mem_cons_of_mem _ hk)

theorem ordOk_nodup {M : Array Nat} : ∀ (l pre : List Nat), ordOk P ops c M pre l = true → l.Nodup ∧ ∀ x, x ∈ l → x ∉ pre
  | [], _, _ => ⟨List.nodup_nil, by simp⟩
  | i :: l, pre, h => by
    unfold ordOk at h
    simp only [Bool.and_eq_true, Bool.not_eq_true', List.contains_eq_mem, decide_eq_false_iff_not] at h
    obtain ⟨h1, h2⟩ := ordOk_nodup l (i :: pre) h.2
    refine ⟨List.nodup_cons.2 ⟨fun hm => h2 i hm (by simp), h1⟩, fun x hx hm => ?_⟩
    rcases List.mem_cons.1 hx with rfl | hx
    · exact h.1.2 hm
    · exact h2 x hx (List.mem_cons_of_mem _ hm)

def backOk (ops : Array Oper) (i : Nat) : Bool :=
  match ops[i]? with
  | some o => o.after.all fun e => !Region.binds .any e || decide (e.on < i)
  | none => true

theorem mask_listed2 {M : Array Nat} (h : (List.range ops.size).all (fun i => backOk ops i && maskOk ops M i) = true) {listed : Array Bool} (hc : Closed ops listed) : ∀ (i : Nat) (o : Oper), ops[i]? = some o → (∀ e ∈ o.after, Region.binds .any e = true → listed.getD e.on false = true) →
    ∀ k, k < i → (M.getD i 0).testBit k = true → listed.getD k false = true := by
  intro i
  induction i using Nat.strongRecOn with
  | ind i ih =>
    intro o ho hd k hk hb
    have h' := h
    simp only [List.all_eq_true, List.mem_range, Bool.and_eq_true] at h'
    obtain ⟨h0, h2⟩ := h' i (Array.getElem?_eq_some_iff.1 ho).1
    unfold backOk at h0
    simp only [ho] at h0
    unfold maskOk at h2
    simp only [List.all_eq_true, List.mem_range, ho] at h2
    have h3 := h2 k hk
    simp only [hb, Bool.not_true, Bool.false_or] at h3
    obtain ⟨e, he, h4⟩ := Array.any_eq_true'.1 h3
    simp only [Bool.and_eq_true, Bool.or_eq_true, beq_iff_eq, decide_eq_true_eq] at h4
    have hlt : e.on < i := by
      have := Array.all_eq_true_iff_forall_mem.1 h0 e he
      simpa [h4.1] using this
    have hl := hd e he h4.1
    rcases h4.2 with h5 | ⟨hke, h5⟩
    · rw [← h5]; exact hl
    · have hn : e.on < ops.size := Nat.lt_trans hlt (Array.getElem?_eq_some_iff.1 ho).1
      exact ih e.on hlt ops[e.on] (Array.getElem?_eq_getElem hn) (hc e.on _ hl (Array.getElem?_eq_getElem hn)) k hke h5

/-- What is still to come, in the order that is told. -/
def restO (ord : List Nat) (listed : Array Bool) : List Nat := ord.filter fun j => !listed.getD j true

theorem restO_split {p q : List Nat} {i : Nat} {listed : Array Bool} (hn : (p ++ i :: q).Nodup) (hi : i < listed.size) (h0 : listed.getD i true = false) :
    restO (p ++ i :: q) listed = restO p listed ++ i :: restO q listed ∧ restO (p ++ i :: q) (listed.setIfInBounds i true) = restO p listed ++ restO q listed := by
  obtain ⟨hp, hq, hpq⟩ := List.nodup_append.1 hn
  have ip : ∀ j, j ∈ p → j ≠ i := fun j hj e => hpq j hj i (by simp) e
  have iq : ∀ j, j ∈ q → j ≠ i := fun j hj e => (List.nodup_cons.1 hq).1 (e ▸ hj)
  constructor
  · unfold restO
    rw [List.filter_append, List.filter_cons]
    simp only [h0, Bool.not_false, if_true]
  · unfold restO
    rw [List.filter_append, List.filter_cons]
    have e1 : (listed.setIfInBounds i true).getD i true = true := by simp [Array.getElem?_setIfInBounds, hi]
    simp only [e1, Bool.not_true, Bool.false_eq_true, if_false]
    congr 1
    · exact List.filter_congr fun j hj => by rw [getD_set_ne true (fun e => ip j hj e.symm)]
    · exact List.filter_congr fun j hj => by rw [getD_set_ne true (fun e => iq j hj e.symm)]

theorem any_of_ord {M : Array Nat} {ord : List Nat} (hQ : Calm Q) (hs : Region.noSelect ops = true) (hM : (List.range ops.size).all (fun i => backOk ops i && maskOk ops M i) = true) (ho : ordOk P ops c M [] ord = true) (hall : ∀ i, i < ops.size → i ∈ ord) :
    ∀ (fuel : Nat) (listed : Array Bool) (a : Act) (w : World), listed.size = ops.size → Closed ops listed → (restO ord listed).length ≤ fuel →
    wpOpsK P ops c Q (restO ord listed) a w → wpAny P .any ops Q fuel listed a w := by
  have hnd := (ordOk_nodup ord [] ho).1
  have hsz0 : ∀ j, j ∈ ord → j < ops.size := fun j hj => by
    obtain ⟨p, q, rfl⟩ := List.append_of_mem hj
    obtain ⟨⟨o, h1, _⟩, _⟩ := ordOk_at p [] ho
    exact (Array.getElem?_eq_some_iff.1 h1).1
  have hready : ∀ (listed : Array Bool), listed.size = ops.size → Region.ready .any ops listed = [] → restO ord listed = [] := by
    intro listed hsz hr
    cases ht : restO ord listed with
    | nil => rfl
    | cons j t =>
      exfalso
      have hj : j ∈ restO ord listed := by rw [ht]; simp
      obtain ⟨hjo, hj0⟩ := List.mem_filter.1 hj
      have hj0 : listed.getD j true = false := by simpa using hj0
      obtain ⟨p, q, rfl⟩ := List.append_of_mem hjo
      obtain ⟨⟨o, ho1, ho2⟩, _, _⟩ := ordOk_at p [] ho
      have hjn : j < listed.size := by rw [hsz]; exact hsz0 j hjo
      have hp : restO p listed = [] := by
        have h1 := (restO_split hnd hjn hj0).1
        rw [ht] at h1
        cases hpp : restO p listed with
        | nil => rfl
        | cons x xs =>
          exfalso
          rw [hpp] at h1
          have hx : x = j := by injection h1 with h1 _; exact h1.symm
          have hxm : x ∈ p := (List.mem_filter.1 (show x ∈ restO p listed by rw [hpp]; simp)).1
          exact (List.nodup_append.1 hnd).2.2 x hxm j (by simp) hx
      have : j ∈ Region.ready .any ops listed := by
        rw [mem_ready]
        refine ⟨hj0, o, ho1, fun e he hb => ?_⟩
        have hep : e.on ∈ p := by
          rcases ho2 e he hb with h | h
          · exact h
          · cases h
        have hes : e.on < listed.size := by rw [hsz]; exact hsz0 _ (List.mem_append_left _ hep)
        have hl : listed.getD e.on true = true := by
          cases h : listed.getD e.on true with
          | true => rfl
          | false =>
            have : e.on ∈ restO p listed := List.mem_filter.2 ⟨hep, by simpa using h⟩
            rw [hp] at this
            cases this
        simpa [hes] using hl
      rw [hr] at this
      cases this
  intro fuel
  induction fuel with
  | zero =>
    intro listed a w hsz hc hl hh
    have hnil : restO ord listed = [] := List.eq_nil_of_length_eq_zero (by omega)
    rw [hnil] at hh
    refine ⟨?_, hh⟩
    cases hr : Region.ready .any ops listed with
    | nil => rfl
    | cons j t =>
      exfalso
      have hj : j ∈ Region.ready .any ops listed := by rw [hr]; simp
      obtain ⟨h0, o, ho, _⟩ := mem_ready.1 hj
      have : j ∈ restO ord listed := List.mem_filter.2 ⟨hall j (Array.getElem?_eq_some_iff.1 ho).1, by simpa using h0⟩
      rw [hnil] at this
      cases this
  | succ fuel ih =>
    intro listed a w hsz hc hl hh
    refine ⟨fun hr => ?_, fun i hi => ?_⟩
    · rw [hready listed hsz hr] at hh
      exact hh
    · obtain ⟨h0, o, hoi, hd⟩ := mem_ready.1 hi
      have hin := (Array.getElem?_eq_some_iff.1 hoi).1
      obtain ⟨p, q, rfl⟩ := List.append_of_mem (hall i hin)
      obtain ⟨e1, e2⟩ := restO_split hnd (by rw [hsz]; exact hin) h0
      obtain ⟨_, hat, _⟩ := ordOk_at p [] ho
      rw [e1] at hh hl
      have hmv := moveFirstK hQ hs (restO p listed) (fun k hk => by
        obtain ⟨hkp, hk0⟩ := List.mem_filter.1 hk
        have hk0 : listed.getD k true = false := by simpa using hk0
        have hm := hat k (.inl hkp)
        unfold maskedOr at hm
        simp only [Bool.or_eq_true, Bool.and_eq_true, decide_eq_true_eq] at hm
        rcases hm with ⟨hki, hb⟩ | hb
        · have := mask_listed2 hM hc i o hoi hd k hki hb
          exfalso
          have hks : k < listed.size := by omega
          simp [hks] at this hk0
          rw [hk0] at this
          cases this
        · exact hb) a w hh
      refine wpOp_mono (fun a' w' h3 => ih _ a' w' (by simpa using hsz) ?_ ?_ ?_) (wpOpK_wpOp hmv)
      · intro x ox hx hox e he hb
        by_cases hxi : i = x
        · subst hxi
          rw [hoi] at hox
          cases hox
          exact getD_set_true (hd e he hb)
        · rw [getD_set_ne false hxi] at hx
          exact getD_set_true (hc x ox hx hox e he hb)
      · rw [e2]
        simp only [List.length_append, List.length_cons] at hl ⊢
        omega
      · rw [e2]
        exact h3

theorem opsK_of_list {R : Exit → Act → World → Prop} {t : List Nat} (hR : ∀ a w, R .normal a w → wpOpsK P ops c (Only Q) t a w) : ∀ (l : List Oper) (is : List Nat), l.map some = is.map (fun i => ops[i]?) → c ∉ is → ∀ (a : Act) (w : World), wpList P ops (Only R) l a w → wpOpsK P ops c (Only Q) (is ++ t) a w
  | [], [], _, _, a, w, h => hR a w h
  | [], _ :: _, h, _, _, _, _ => by simp at h
  | _ :: _, [], h, _, _, _, _ => by simp at h
  | o :: l, k :: is, hm, hc, a, w, h => by
    simp only [List.map_cons, List.cons.injEq] at hm
    obtain ⟨ho, hm⟩ := hm
    have hne : k ≠ c := fun e => hc (by simp [e])
    show wpOpK P ops c (Only Q) k (wpOpsK P ops c (Only Q) (is ++ t)) a w
    rw [wpOpK_ne hne]
    refine wpOp_only (R := R) ?_
    unfold wpList at h
    unfold wpOp
    simp only [← ho]
    split
    · rename_i hw
      simp only [hw, if_true] at h
      exact h.imp (fun h => Oper.wp_mono (fun a' w' h' => opsK_of_list hR l is hm (fun hm => hc (List.mem_cons_of_mem _ hm)) a' w' h') h) id
    · rename_i hw
      simp only [hw] at h
      exact opsK_of_list hR l is hm (fun hm => hc (List.mem_cons_of_mem _ hm)) _ _ h

theorem map_range (l : List Oper) (s k : Nat) (h : s + k ≤ l.length) : ((l.drop s).take k).map some = (List.range' s k).map (fun i => l.toArray[i]?) := by
  refine List.ext_getElem (by simp; omega) fun n h1 h2 => ?_
  simp only [List.length_map, List.length_take, List.length_drop] at h1
  have : s + n < l.length := by omega
  simp [this]

/-- THE CHECK: the call at c comes behind the m operations that stand behind it in the text; what is not ordered may come in either order. -/
def movedOk (P : Program) (ops : Array Oper) (c m : Nat) : Bool :=
  Region.noSelect ops && (List.range ops.size).all (fun i => backOk ops i && maskOk ops (Region.before ops) i) && ordOk P ops c (Region.before ops) [] (List.range' 0 c ++ (List.range' (c + 1) m ++ c :: List.range' (c + 1 + m) (ops.size - c - 1 - m))) && decide (c + 1 + m ≤ ops.size)

def HalfK (P : Program) (ops : Array Oper) (Q : Exit → Act → World → Prop) (o : Oper) (l : List Oper) : Exit → Act → World → Prop := fun _ a w => CallK P ops o (wpList P ops (Only Q) l) a w

/-- THE LAW: a drawn region whose call at c makes memory: walked in the order of its text, but for the call, which comes behind the m operations that stand behind it. -/
theorem region_moved {id : Nat} {l : List Oper} {o : Oper} {a : Act} {w : World} (c m : Nat) (hc : l[c]? = some o) (hm : P.follows .mixedOrders = true) (hok : movedOk P l.toArray c m = true)
    (h : wpList P l.toArray (Only (HalfK P l.toArray Q o (l.drop (c + 1 + m)))) (l.take c ++ (l.drop (c + 1)).take m) a w.drew) : (Code.region id l.toArray true).wp P Q a w := by
  have hcl : c < l.length := (List.getElem?_eq_some_iff.1 hc).1
  unfold movedOk at hok
  simp only [Bool.and_eq_true, decide_eq_true_eq, List.size_toArray] at hok
  obtain ⟨⟨⟨hs, hM⟩, ho⟩, hcm⟩ := hok
  have hall : ∀ i, i < l.toArray.size → i ∈ List.range' 0 c ++ (List.range' (c + 1) m ++ c :: List.range' (c + 1 + m) (l.length - c - 1 - m)) := by
    intro i hi
    simp only [List.size_toArray] at hi
    simp only [List.mem_append, List.mem_cons, List.mem_range'_1]
    omega
  have hr : restO (List.range' 0 c ++ (List.range' (c + 1) m ++ c :: List.range' (c + 1 + m) (l.length - c - 1 - m))) (Array.replicate l.toArray.size false) = (List.range' 0 c ++ List.range' (c + 1) m) ++ (c :: List.range' (c + 1 + m) (l.length - c - 1 - m)) := by
    rw [List.append_assoc]
    unfold restO
    refine List.filter_eq_self.2 fun j hj => ?_
    have : j < l.length := by
      simp only [List.mem_append, List.mem_cons, List.mem_range'_1] at hj
      omega
    simp [this]
  have h0 : ∀ a w, HalfK P l.toArray Q o (l.drop (c + 1 + m)) .normal a w → wpOpsK P l.toArray c (Only Q) (c :: List.range' (c + 1 + m) (l.length - c - 1 - m)) a w := by
    intro a w hk
    show wpOpK P l.toArray c (Only Q) c (wpOpsK P l.toArray c (Only Q) (List.range' (c + 1 + m) (l.length - c - 1 - m))) a w
    unfold wpOpK
    rw [if_pos rfl]
    refine ⟨o, by simpa using hc, CallK.mono (fun a w h2 => ?_) hk⟩
    have := opsK_of_list (P := P) (ops := l.toArray) (c := c) (Q := Q) (R := Q) (t := []) (fun a w h => h) (l.drop (c + 1 + m)) (List.range' (c + 1 + m) (l.length - c - 1 - m)) (by
      rw [← map_range l (c + 1 + m) (l.length - c - 1 - m) (by omega), List.take_of_length_le (by simp; omega)]) (by simp only [List.mem_range'_1]; omega) _ _ h2
    rw [List.append_nil] at this
    exact this
  have h1 := opsK_of_list (P := P) (ops := l.toArray) (c := c) (Q := Q) (R := HalfK P l.toArray Q o (l.drop (c + 1 + m))) h0 (l.take c ++ (l.drop (c + 1)).take m) (List.range' 0 c ++ List.range' (c + 1) m) (by
    rw [List.map_append, List.map_append, ← map_range l 0 c (by omega), ← map_range l (c + 1) m (by omega), List.drop_zero]) (by simp only [List.mem_append, List.mem_range'_1]; omega) a w.drew h
  have h2 : wpAny P .any l.toArray (Only Q) l.toArray.size (Array.replicate l.toArray.size false) a w.drew :=
    any_of_ord calm_only hs hM ho hall _ _ _ _ (by simp) (by
      intro x o hx
      exfalso
      by_cases hx' : x < l.toArray.size
      · simp at hx' hx
        simp [hx'] at hx
      · simp at hx' hx
        simp [Nat.not_lt.2 hx'] at hx) (by rw [hr]; simp; omega) (by rw [hr]; exact h1)
  refine Go.Code.wp_mono (Q := Only Q) ?_ (wp_region_any hm h2)
  intro e a' w' he
  cases e with
  | normal => exact he
  | _ => exact absurd he (by intro h; exact h)

/-- A call of a function by its number, with no guard. -/
theorem callK_static {o : Oper} {l : List Oper} {a : Act} {w : World} {f : FuncId} {args : Array Operand} {ts : Array TypeId} {vs : Array Value} (hw : Region.wanted o (yielded ops a.tmps) = true) (ho : o.op = .call { callee := .value (.func f), args := args, argTypes := ts })
    (eg : ∀ args w, (callFunc f args).run P w = .ok (.enter f args) w) (hv : args.map a.eval = vs) (hc : ∀ W, Touch [] w W → Calls P f vs W fun e w' => ∃ v, e = .returned v ∧ Touch [] W w' ∧ wpList P ops (Only Q) l (a.put o.dst v) w') :
    HalfK P ops Q o l .normal a w :=
  .inl ⟨hw, fun W t => ⟨f, vs, by rw [← hv]; exact run_static ho eg, hc W t⟩⟩

end
end Go.Proofs.Ytlndihdlodempaa.Z

/- What the Steps' last region keeps, and its calls. Written by gensteps.py. -/
set_option linter.unusedVariables false
set_option linter.unusedSimpArgs false
namespace Go.Proofs.Ytlndihdlodempaa.Z
open Go.RowKit

def stepStart (n mode task : Int) (f : Fr) (L : List Int) : Rn := ⟨n, mode, task, f, Acc.zero, [], L⟩

/-- What the last region keeps. -/
def RSKeep (w : World) (m a r : Nat) (p : Option Addr) (g cap x : Nat) (s : Rn) (nv nx : Value) (w' : World) : Prop :=
  Has [] w w' (.row p g cap s.L :: .blk x (xcells p cap s nx) :: .own 98 4 nx s.notes.length (nts s.notes) :: .mem m a s.L :: .blk r (rcells m s nv) :: .own 98 4 nv s.notes.length (nts s.notes) :: [])
section
variable {w : World} {m a r : Nat} {p : Option Addr} {g cap x : Nat} {s : Rn} {nv nx : Value} {w' : World}
theorem rskeep (h : RSKeep w m a r p g cap x s nv nx w') : (r < w'.heap.size ∧ (∀ i, w'.cell? ⟨r, i, none⟩ = (rcells m s nv)[i]?)) ∧ (x < w'.heap.size ∧ (∀ i, w'.cell? ⟨x, i, none⟩ = (xcells p cap s nx)[i]?)) :=
  ⟨⟨(Has.at_ h 4 rfl).lt, (Has.at_ h 4 rfl).cell⟩, (Has.at_ h 1 rfl).lt, (Has.at_ h 1 rfl).cell⟩
theorem RSKeep.grow {w'' : World} (h : RSKeep w m a r p g cap x s nv nx w') (t : Touch [] w' w'') : RSKeep w m a r p g cap x s nv nx w'' := Has.grow h t
theorem RSKeep.drew (h : RSKeep w m a r p g cap x s nv nx w') : RSKeep w m a r p g cap x s nv nx w'.drew := Has.drew h
theorem rsover (h : RSKeep w m a r p g cap x s nv nx w') : Calls Try.prog 20 #[.pointer (some ⟨x, 0, none⟩)] w' fun e w'' => e = .returned (.bool s.over) ∧ RSKeep w m a r p g cap x s nv nx w'' :=
  (x_over h).mono fun e w'' k => ⟨k.1, k.2 ▸ h⟩
theorem rsnotes {pn qn : Option Addr} {c d : Nat} (h : RSKeep w m a r p g cap x s (.slice pn s.notes.length c) (.slice qn s.notes.length d) w') (hn : s.notes.length ≤ 1048576) : Calls Try.prog 22 #[.slice pn s.notes.length c, .slice qn s.notes.length d] w' fun e w'' => e = .returned (.bool true) ∧ RSKeep w m a r p g cap x s (.slice pn s.notes.length c) (.slice qn s.notes.length d) w'' :=
  (same_notes w' (Rd.own (Has.ownAt h 5 rfl)) (Rd.own (Has.ownAt h 2 rfl)) hn).mono fun e w'' k => ⟨k.1, Has.grow h k.2⟩
def RSAll (w : World) (m a r : Nat) (p : Option Addr) (g cap x : Nat) (s : Rn) (nv nx : Value) (w' : World) (e : Ending) (w'' : World) : Prop :=
  ∃ p' cap', e = .returned (.slice p' s.L.length cap') ∧ RSKeep w m a r p g cap x s nv nx w'' ∧ Rd w'' 1 p' s.L.length (u32s s.L) ∧ Touch [] w' w''
theorem rsall (h : RSKeep w m a r p g cap x s nv nx w') : Calls Try.prog 23 #[.pointer (some ⟨m, 0, none⟩)] w' (RSAll w m a r p g cap x s nv nx w') :=
  (all_mem (Has.mem (Has.front h 3 (by simp)))).mono fun e w'' ⟨p', cap', he, ho, t⟩ => ⟨p', cap', he, Has.grow h t, by
    obtain ⟨g', hR, _⟩ := Row.of_owns ho (Has.row h).words
    exact hR.rd, t⟩
theorem rssame (h : RSKeep w m a r p g cap x s nv nx w') {p' : Option Addr} {cap' : Nat} (hr : Rd w' 1 p' s.L.length (u32s s.L)) :
    Calls Try.prog 21 #[.slice p' s.L.length cap', .slice p s.L.length cap] w' fun e w'' => e = .returned (.bool true) ∧ RSKeep w m a r p g cap x s nv nx w'' := by
  have := same_any (c := cap') (d := cap) w' hr (Has.row h).rd (by have := (Has.row h).words.1; omega)
  simp only [decide_true] at this
  exact this.mono fun e w'' k => ⟨k.1, Has.grow h k.2⟩
end
theorem six {S0 : List Nat} {w0 w : World} {a b c d e f : Res} {rs : List Res} (h : Has S0 w0 w (a :: b :: c :: d :: e :: f :: rs)) : Has S0 w0 w (d :: e :: f :: a :: b :: c :: rs) :=
  ((h.front 5 (by simp)).front 5 (by simp)).front 5 (by simp)
theorem drop7 {S0 : List Nat} {w0 w : World} {a b c d e f g : Res} (h : Has S0 w0 w (a :: b :: c :: d :: e :: f :: g :: [])) : Has S0 w0 w (a :: b :: c :: d :: e :: f :: []) :=
  Has.tail (h.front 6 (by simp))
end Go.Proofs.Ytlndihdlodempaa.Z

/- Law 9: a step of calls, on a run and by the document. -/
set_option linter.unusedVariables false
set_option linter.unusedSimpArgs false
namespace Go.Proofs.Ytlndihdlodempaa.Z
open Go.RowKit

/-- What a step of calls comes to, and what it tells. -/
def st9 (l : List Op9) (s : Rn) : Rn := if s.f.wk.on then s.woke else (calls9 l s.fresh).2
def ou9 (l : List Op9) (s : Rn) : List Int := if s.f.wk.on then [] else (calls9 l s.fresh).1

theorem call9_ok {o : Op9} {s : Rn} (ho : Op9Ok o) (h : s.ok) : (call9 o s).2.ok := by
  have e : ∀ t : Rn, t.n = s.n → t.f.a = s.f.a → t.f.b = s.f.b → t.ok := fun t h1 h2 h3 => by
    unfold Rn.ok at h ⊢
    rw [h1, h2, h3]
    exact h
  unfold call9
  repeat' split
  all_goals first | exact h | exact e _ rfl rfl rfl
theorem calls9_ok : ∀ (l : List Op9) (s : Rn), (∀ o, o ∈ l → Op9Ok o) → s.ok → (calls9 l s).2.ok
  | [], s, _, h => h
  | o :: l, s, hl, h => calls9_ok l _ (fun o h => hl o (List.mem_cons_of_mem _ h)) (call9_ok (hl o List.mem_cons_self) h)
theorem st9_ok {l : List Op9} {s : Rn} (hl : ∀ o, o ∈ l → Op9Ok o) (h : s.ok) : (st9 l s).ok := by
  unfold st9
  split
  · exact woke_ok h
  · exact calls9_ok l _ hl (fresh_ok h)
theorem st9_notes {l : List Op9} {s : Rn} (h10 : l.length ≤ 10) : (st9 l s).notes.length ≤ 10 := by
  unfold st9
  split
  · simp [Rn.woke]
  · have := calls9_notes l s.fresh
    have e : s.fresh.notes.length = 0 := rfl
    omega

set_option maxHeartbeats 1600000 in
set_option maxRecDepth 100000 in
theorem run_step_some {α : Type} {S0 : List Nat} {w0 w : World} {m a r : Nat} {rs : List Res} {rs2 : α → List Res} {s s2 : Rn} (H : RunHas S0 w0 m a r rs s w) (hoff : s.f.wk.on = false) (fid : FuncId) (first cap : Array Value)
    (eg : ∀ args w, (callFunc fid args).run Try.prog w = .ok (.enter fid args) w)
    (hl : ∀ W, RunHas S0 w0 m a r rs s.fresh W → Calls Try.prog fid (first ++ #[.pointer (some ⟨r, 0, none⟩)] ++ cap) W fun e W' => e = .returned (.tuple #[]) ∧ ∃ v, RunHas S0 w0 m a r (rs2 v) s2 W') :
    Calls Try.prog 14 #[.pointer (some ⟨r, 0, none⟩), .func (.func fid) first cap] w fun e w' => e = .returned (.bool s2.over) ∧ ∃ v, RunHas S0 w0 m a r (rs2 v) s2 w' := by
  obtain ⟨n, mode, task, ⟨op, line, fa, fb, st, ⟨on, wc, wi, hit⟩, ret⟩, ⟨ak, ac, ax, ay, ao⟩, notes, L⟩ := s
  obtain ⟨n', mode', task', ⟨op', line', fa', fb', st', ⟨on', wc', wi', hit'⟩, ret'⟩, ⟨ak', ac', ax', ay', ao'⟩, notes', L'⟩ := s2
  simp only at hoff
  subst hoff
  simp only [RunHas, Rn.fresh, Rn.over, Acc.zero] at H hl ⊢
  obtain ⟨nv, H⟩ := H
  simp only [rcells] at *
  obtain ⟨x0, x1, x2⟩ := H.blk1.own
  have hrun := notNilL (.func fid) first cap
  have HLN := Lib.hid hl
  have HH := Lib.hid H
  clear hl H
  go_enter Try.func14, Try.ntmps14
  go_wp2_with fail
  refine (HLN.out _ ⟨.slice none 0 0, ((((((HH.out.own_drop.set1 14 _).set1 15 _).set1 16 _).set1 17 _).set1 18 _).set1 19 _).own_nil _ _⟩).mono ?_
  rintro e w1 ⟨rfl, v, nv', H1⟩
  clear x0 x1 x2
  obtain ⟨y0, y1, y2⟩ := H1.blk1.own
  by_cases h0 : ret' = 0
  · subst h0
    go_wp2_with fail
    go_ret
    exact ⟨by simp, v, nv', H1⟩
  · have h1 : (ret' != 0) = true := by simpa using h0
    clear h0
    cases on' with
    | true =>
      go_wp2_with fail
      go_ret
      exact ⟨by simp, v, nv', H1⟩
    | false =>
      go_wp2_with fail
      go_ret
      exact ⟨by simp [h1], v, nv', H1⟩

/-- The steps, as they lie: read through. -/
theorem lists_at {w : World} {A : Option Addr} {k i : Nat} {ls : List (Value × List Op9)} (h : Rd w 1 A k (ls.map Prod.fst)) (hl : ls.length = k) (hi : i < k) :
    ∃ b off, A = some ⟨b, off, none⟩ ∧ b < w.heap.size ∧ w.cell? ⟨b, off + i, none⟩ = some (ls[i]'(by omega)).1 := by
  obtain ⟨b, off, rfl, hb, hc⟩ := h.lit (by omega) (by omega)
  exact ⟨b, off, rfl, hb, hc i _ (by rw [List.getElem?_map, List.getElem?_eq_getElem (by omega)]; rfl)⟩

set_option maxHeartbeats 1600000 in
set_option maxRecDepth 100000 in
theorem closure9 {w0 w : World} {m a r ba bs bi : Nat} {rs : List Res} {s : Rn} {A : Option Addr} {k c i : Nat} {c0 : Value} {ls : List (Value × List Op9)}
    (H : RunHas [] w0 m a r (.blk ba #[c0] :: .blk bs #[.slice A k c] :: .blk bi #[.int .i64 i] :: rs) s w) (hA : Rd w0 1 A k (ls.map Prod.fst)) (hl : ls.length = k) (hi : i < k) (hI : Inner w0 Op9.cells Op9Ok 8 (ls[i]'(by omega))) (h10 : (ls[i]'(by omega)).2.length ≤ 10) (hn : I64 s.n) (hc : s.notes.length ≤ 100) :
    Calls Try.prog 15 #[.pointer (some ⟨r, 0, none⟩), .pointer (some ⟨bs, 0, none⟩), .pointer (some ⟨bi, 0, none⟩), .pointer (some ⟨ba, 0, none⟩)] w fun e w' => e = .returned (.tuple #[]) ∧
      ∃ v, RunHas [] w0 m a r (.blk ba #[v] :: .blk bs #[.slice A k c] :: .blk bi #[.int .i64 i] :: .own 23 1 v (calls9 (ls[i]'(by omega)).2 s).1.length (u32s (calls9 (ls[i]'(by omega)).2 s).1) :: rs) (calls9 (ls[i]'(by omega)).2 s).2 w' := by
  have hT : Touch [] w0 w := H.touch
  obtain ⟨hok, B, d, hv, _, _, hrd⟩ := hI
  have hcalls := fun W (HW : RunHas [] w0 m a r (.blk ba #[c0] :: .blk bs #[.slice A k c] :: .blk bi #[.int .i64 i] :: rs) s W) => calls_any (cp := d) HW hrd hok h10 hn hc
  obtain ⟨b, off, rfl, hb, hcl⟩ := lists_at (hA.touch hT (by simp)) hl hi
  rw [hv] at hcl
  generalize (ls[i]'(by omega)).2 = l at hcalls hcl ⊢
  obtain ⟨nv, H0⟩ := H
  obtain ⟨x0, x1, x2⟩ := (H0.at_ 4 rfl).own
  obtain ⟨y0, y1, y2⟩ := (H0.at_ 5 rfl).own
  have HC := Lib.hid hcalls
  have HH := Lib.hid H0
  have h1 : (i : Int) < (k : Int) := by omega
  have h2 : (0 : Int) ≤ (i : Int) := by omega
  clear hcalls H0 hA hrd hok
  go_enter Try.func15, Try.ntmps15
  go_wp2_with fail
  refine (HC.out _ ⟨nv, HH.out⟩).mono ?_
  rintro e w3 ⟨v, rfl, nv3, H3⟩
  obtain ⟨pa, ca, rfl⟩ := owns_slice (Has.ownAt H3 3 rfl)
  obtain ⟨z0, z1, z2⟩ := (Has.at_ H3 4 rfl).own
  have HT := Lib.hid (Has.set4 H3 0 (.slice pa (calls9 l s).1.length ca))
  clear H3
  go_wp2_with fail
  go_end0
  refine ⟨rfl, .slice pa (calls9 l s).1.length ca, nv3, ?_⟩
  have h := HT.out
  simp only [List.setIfInBounds_toArray, List.set_cons_zero] at h
  exact h.perm ((((List.Perm.swap _ _ _).trans ((List.Perm.swap _ _ _).trans (List.Perm.swap _ _ _ |>.cons _) |>.cons _)).cons _).cons _ |>.cons _)
end Go.Proofs.Ytlndihdlodempaa.Z
