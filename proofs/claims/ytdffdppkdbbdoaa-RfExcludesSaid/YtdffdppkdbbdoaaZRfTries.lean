/- Package rf: a try's lines. Written by genrf3.py. -/
import Derived.Test.YtdffdppkdbbdoaaZRf
import Derived.Deep.RegionHeld3
import Derived.Deep.DrawnRows
set_option linter.unusedVariables false
set_option linter.unusedSimpArgs false
namespace Go.Proofs.Ytdffdppkdbbdoaa.Z
open Go.RowKit

attribute [local go_sem ↓] Go.wp_at_zero Go.wp_at_succ
theorem rfKeep {w : World} {b : Nat} {cs : Array Value} (h : Blk w b cs) : Blk w b cs ∧ (∀ i, w.cell? ⟨b, i, none⟩ = cs[i]?) := ⟨h, h.cell⟩
theorem rf_first2 {S0 : List Nat} {w0 w : World} {m a r tb : Nat} {rs : List Res} {s : Rn} (H : RunHas S0 w0 m a r (.blk tb #[.pointer (some ⟨r, 0, none⟩)] :: rs) s w) (hc : s.notes.length ≤ 1000) :
    Calls Try.prog 90 #[.pointer (some ⟨tb, 0, none⟩)] w fun e w' => e = .returned (.tuple #[]) ∧ RunHas S0 w0 m a r (.blk tb #[.pointer (some ⟨r, 0, none⟩)] :: rs) (s.note 2 1) w' := by
  obtain ⟨u0, u1, u2⟩ := H.first.own
  go_enter Try.func90, Try.ntmps90
  go_wp2_with fail
  refine (run_note H hc 2 1).mono ?_
  rintro e w1 ⟨rfl, H1⟩
  go_wp2_with fail
  go_end0
  exact ⟨rfl, H1⟩
theorem rf_first3 {S0 : List Nat} {w0 w : World} {m a r tb : Nat} {rs : List Res} {s : Rn} (H : RunHas S0 w0 m a r (.blk tb #[.pointer (some ⟨r, 0, none⟩)] :: rs) s w) (hc : s.notes.length ≤ 1000) :
    Calls Try.prog 91 #[.pointer (some ⟨tb, 0, none⟩)] w fun e w' => e = .returned (.tuple #[]) ∧ RunHas S0 w0 m a r (.blk tb #[.pointer (some ⟨r, 0, none⟩)] :: rs) (s.note 2 2) w' := by
  obtain ⟨u0, u1, u2⟩ := H.first.own
  go_enter Try.func91, Try.ntmps91
  go_wp2_with fail
  refine (run_note H hc 2 2).mono ?_
  rintro e w1 ⟨rfl, H1⟩
  go_wp2_with fail
  go_end0
  exact ⟨rfl, H1⟩
theorem rf_first4 {S0 : List Nat} {w0 w : World} {m a r : Nat} {rs : List Res} {s : Rn} (H : RunHas S0 w0 m a r rs s w) :
    Calls Try.prog 92 #[] w fun e w' => e = .returned (.tuple #[]) ∧ RunHas S0 w0 m a r rs s w' := by
  go_enter Try.func92, Try.ntmps92
  go_wp2_with fail
  go_end0
  exact ⟨rfl, H⟩


def rf50 (s : Rn) : Rn :=
  s.chosen (fun v => !rfIn v)

set_option maxHeartbeats 1600000 in
set_option maxRecDepth 100000 in
theorem rf_50 {S0 : List Nat} {w0 w : World} {m a r : Nat} {rs : List Res} {s : Rn} (H : RunHas S0 w0 m a r rs s w) (hop : s.f.op = 5) (hl : s.f.line = 0) (hc : s.notes.length ≤ 900) :
    Calls Try.prog 57 #[.pointer (some ⟨r, 0, none⟩)] w fun e w' => e = .returned (.tuple #[]) ∧ RunHas S0 w0 m a r rs (rf50 s) w' := by
  have H0 := H.box rfl #[.pointer (some ⟨r, 0, none⟩)] 46
  have HC := Lib.hid hc
  obtain ⟨z0, z2, z4, z5, z6, z7⟩ := H.facts hop hl rfl rfl
  have HH := Lib.hid H0
  clear hc H H0
  go_enter Try.func57, Try.ntmps57
  go_wp2_with fail
  go_quiet (fail)
  have HW := HH.out.drewN nq
  clear z0 z2 z4 z5 z6 z7
  generalize w.heap.size = tb at HW ⊢
  generalize (World.drewN _ nq) = W at HW ⊢
  obtain ⟨z0, z2, z4, z5, z6, z7⟩ := HW.facts hop hl rfl rfl
  obtain ⟨u0, u1, u2⟩ := HW.first.own
  go_wp2_with fail
  refine (rf_choose HW HC.out hop hl 88 #[] #[] (fun v => !rfIn v) (enters_of Try.func88 (by kernel_rfl) rfl) (fun W v s' _ => rf_free' v W)).mono ?_
  rintro e w1 ⟨rfl, H1⟩
  go_wp2_with fail
  go_end0
  exact ⟨rfl, H1.unbox⟩

def rf60 (s : Rn) : Rn :=
  s.chosen (fun v => v == 0)

set_option maxHeartbeats 1600000 in
set_option maxRecDepth 100000 in
theorem rf_60 {S0 : List Nat} {w0 w : World} {m a r : Nat} {rs : List Res} {s : Rn} (H : RunHas S0 w0 m a r rs s w) (hop : s.f.op = 6) (hl : s.f.line = 0) (hc : s.notes.length ≤ 900) :
    Calls Try.prog 57 #[.pointer (some ⟨r, 0, none⟩)] w fun e w' => e = .returned (.tuple #[]) ∧ RunHas S0 w0 m a r rs (rf60 s) w' := by
  have H0 := H.box rfl #[.pointer (some ⟨r, 0, none⟩)] 46
  have HC := Lib.hid hc
  obtain ⟨z0, z2, z4, z5, z6, z7⟩ := H.facts hop hl rfl rfl
  have HH := Lib.hid H0
  clear hc H H0
  go_enter Try.func57, Try.ntmps57
  go_wp2_with fail
  go_quiet (fail)
  have HW := HH.out.drewN nq
  clear z0 z2 z4 z5 z6 z7
  generalize w.heap.size = tb at HW ⊢
  generalize (World.drewN _ nq) = W at HW ⊢
  obtain ⟨z0, z2, z4, z5, z6, z7⟩ := HW.facts hop hl rfl rfl
  obtain ⟨u0, u1, u2⟩ := HW.first.own
  go_wp2_with fail
  have hch := fun W2 (H : RunHas S0 w0 m a r (.blk W.heap.size #[.int .u32 0] :: .blk tb #[.pointer (some ⟨r, 0, none⟩)] :: rs) s W2) => rf_choose H HC.out hop hl 86 #[] #[.pointer (some ⟨W.heap.size, 0, none⟩)] (fun v => v == 0) (enters_of Try.func86 (by kernel_rfl) rfl) (fun W v s' H => rf_is1 0 v W H.first)
  have HCH := Lib.hid hch
  clear hch
  have HB := Lib.hid (HW.box rfl #[.int .u32 0] 22).drew
  have HB1 : Blk (W.alloc (.cells #[.int .u32 0] 22)).drew tb _ := HW.first.alloc _
  have HB0 : Blk W.drew tb _ := HW.drew.first
  go_region_held3 (fun w' => Blk w' tb #[.pointer (some ⟨r, 0, none⟩)] ∧ (∀ i, w'.cell? ⟨tb, i, none⟩ = #[Value.pointer (some ⟨r, 0, none⟩)][i]?))
    (first | (go_split_ands; refine rfKeep ?_; first | with_reducible assumption | with_reducible exact HB2))
    (first
      | (go_at_call 56; refine (rf_is 0 _).mono ?_; rintro e w1 ⟨rfl, rfl⟩)
      | (go_at_call 87; with_reducible refine (HCH.out _ HB.out).mono ?_; rintro e w2 ⟨rfl, H2⟩; have HB2 := H2.unbox.first))
  go_wp2_with fail
  go_end0
  exact ⟨rfl, H2.unbox.unbox⟩

def rf70 (s : Rn) : Rn :=
  s.chosen (fun v => v == 1)

set_option maxHeartbeats 1600000 in
set_option maxRecDepth 100000 in
theorem rf_70 {S0 : List Nat} {w0 w : World} {m a r : Nat} {rs : List Res} {s : Rn} (H : RunHas S0 w0 m a r rs s w) (hop : s.f.op = 7) (hl : s.f.line = 0) (hc : s.notes.length ≤ 900) :
    Calls Try.prog 57 #[.pointer (some ⟨r, 0, none⟩)] w fun e w' => e = .returned (.tuple #[]) ∧ RunHas S0 w0 m a r rs (rf70 s) w' := by
  have H0 := H.box rfl #[.pointer (some ⟨r, 0, none⟩)] 46
  have HC := Lib.hid hc
  obtain ⟨z0, z2, z4, z5, z6, z7⟩ := H.facts hop hl rfl rfl
  have HH := Lib.hid H0
  clear hc H H0
  go_enter Try.func57, Try.ntmps57
  go_wp2_with fail
  go_quiet (fail)
  have HW := HH.out.drewN nq
  clear z0 z2 z4 z5 z6 z7
  generalize w.heap.size = tb at HW ⊢
  generalize (World.drewN _ nq) = W at HW ⊢
  obtain ⟨z0, z2, z4, z5, z6, z7⟩ := HW.facts hop hl rfl rfl
  obtain ⟨u0, u1, u2⟩ := HW.first.own
  go_wp2_with fail
  have hch := fun W2 (H : RunHas S0 w0 m a r (.blk W.heap.size #[.int .u32 1] :: .blk tb #[.pointer (some ⟨r, 0, none⟩)] :: rs) s W2) => rf_choose H HC.out hop hl 86 #[] #[.pointer (some ⟨W.heap.size, 0, none⟩)] (fun v => v == 1) (enters_of Try.func86 (by kernel_rfl) rfl) (fun W v s' H => rf_is1 1 v W H.first)
  have HCH := Lib.hid hch
  clear hch
  have HB := Lib.hid (HW.box rfl #[.int .u32 1] 22).drew
  have HB1 : Blk (W.alloc (.cells #[.int .u32 1] 22)).drew tb _ := HW.first.alloc _
  have HB0 : Blk W.drew tb _ := HW.drew.first
  go_region_held3 (fun w' => Blk w' tb #[.pointer (some ⟨r, 0, none⟩)] ∧ (∀ i, w'.cell? ⟨tb, i, none⟩ = #[Value.pointer (some ⟨r, 0, none⟩)][i]?))
    (first | (go_split_ands; refine rfKeep ?_; first | with_reducible assumption | with_reducible exact HB2))
    (first
      | (go_at_call 56; refine (rf_is 1 _).mono ?_; rintro e w1 ⟨rfl, rfl⟩)
      | (go_at_call 87; with_reducible refine (HCH.out _ HB.out).mono ?_; rintro e w2 ⟨rfl, H2⟩; have HB2 := H2.unbox.first))
  go_wp2_with fail
  go_end0
  exact ⟨rfl, H2.unbox.unbox⟩

def rf51 (s : Rn) : Rn :=
  s.swapped s.f.a ((s.f.a + 1) % 4294967296) (fun s => s.note 2 1) 4

set_option maxHeartbeats 1600000 in
set_option maxRecDepth 100000 in
theorem rf_51 {S0 : List Nat} {w0 w : World} {m a r : Nat} {rs : List Res} {s : Rn} (H : RunHas S0 w0 m a r rs s w) (hop : s.f.op = 5) (hl : s.f.line = 1) (ha : 0 ≤ s.f.a ∧ s.f.a < 4294967296) (hc : s.notes.length ≤ 900) :
    Calls Try.prog 57 #[.pointer (some ⟨r, 0, none⟩)] w fun e w' => e = .returned (.tuple #[]) ∧ RunHas S0 w0 m a r rs (rf51 s) w' := by
  have H0 := H.box rfl #[.pointer (some ⟨r, 0, none⟩)] 46
  have HC := Lib.hid hc
  obtain ⟨z0, z2, z4, z5, z6, z7⟩ := H.facts hop hl rfl rfl
  have HH := Lib.hid H0
  clear hc H H0
  go_enter Try.func57, Try.ntmps57
  go_wp2_with fail
  go_quiet (fail)
  have HW := HH.out.drewN nq
  clear z0 z2 z4 z5 z6 z7
  generalize w.heap.size = tb at HW ⊢
  generalize (World.drewN _ nq) = W at HW ⊢
  obtain ⟨z0, z2, z4, z5, z6, z7⟩ := HW.facts hop hl rfl rfl
  obtain ⟨u0, u1, u2⟩ := HW.first.own
  go_wp2_with fail
  refine region_flat (by kernel_rfl) (by kernel_rfl) ?_
  simp only [probed, probes, List.nil_append, List.cons_append, probe]
  go_wp2_with fail
  refine (rf_swap HW.drew HC.out 90 #[.pointer (some ⟨tb, 0, none⟩)] (fun s => s.note 2 1) (fun s => by simp [Rn.note]) (enters_of Try.func90 (by kernel_rfl) rfl) s.f.a ((s.f.a + 1) % 4294967296) 4 ha (by omega) (fun W s' hs H => rf_first2 H (by rw [hs]; exact Nat.le_trans HC.out (by decide)))).mono ?_
  rintro e w1 ⟨rfl, H1⟩
  go_wp2_with fail
  rw [only_normal]
  first
    | (rename_i hK; refine hK _ _ ?_; go_wp2_with fail; go_end0; exact ⟨rfl, H1.unbox⟩)
    | (rename_i hK; simp only [Exit.inBlock, Exit.then]; refine hK _ _ ?_; go_wp2_with fail; go_end0; exact ⟨rfl, H1.unbox⟩)
    | (simp only [Exit.inBlock, Exit.then]; go_end0; exact ⟨rfl, H1.unbox⟩)
    | (trace_state; fail)

def rf61 (s : Rn) : Rn :=
  s.swapped 0 65536 (fun s => s.note 2 2) 4

set_option maxHeartbeats 1600000 in
set_option maxRecDepth 100000 in
theorem rf_61 {S0 : List Nat} {w0 w : World} {m a r : Nat} {rs : List Res} {s : Rn} (H : RunHas S0 w0 m a r rs s w) (hop : s.f.op = 6) (hl : s.f.line = 1) (hc : s.notes.length ≤ 900) :
    Calls Try.prog 57 #[.pointer (some ⟨r, 0, none⟩)] w fun e w' => e = .returned (.tuple #[]) ∧ RunHas S0 w0 m a r rs (rf61 s) w' := by
  have H0 := H.box rfl #[.pointer (some ⟨r, 0, none⟩)] 46
  have HC := Lib.hid hc
  obtain ⟨z0, z2, z4, z5, z6, z7⟩ := H.facts hop hl rfl rfl
  have HH := Lib.hid H0
  clear hc H H0
  go_enter Try.func57, Try.ntmps57
  go_wp2_with fail
  go_quiet (fail)
  have HW := HH.out.drewN nq
  clear z0 z2 z4 z5 z6 z7
  generalize w.heap.size = tb at HW ⊢
  generalize (World.drewN _ nq) = W at HW ⊢
  obtain ⟨z0, z2, z4, z5, z6, z7⟩ := HW.facts hop hl rfl rfl
  obtain ⟨u0, u1, u2⟩ := HW.first.own
  go_wp2_with fail
  refine (rf_swap HW HC.out 91 #[.pointer (some ⟨tb, 0, none⟩)] (fun s => s.note 2 2) (fun s => by simp [Rn.note]) (enters_of Try.func91 (by kernel_rfl) rfl) 0 65536 4 (by decide) (by decide) (fun W s' hs H => rf_first3 H (by rw [hs]; exact Nat.le_trans HC.out (by decide)))).mono ?_
  rintro e w1 ⟨rfl, H1⟩
  go_wp2_with fail
  go_end0
  exact ⟨rfl, H1.unbox⟩

def rf71 (s : Rn) : Rn :=
  s.swapped 1 65536 (fun s => s) 9

set_option maxHeartbeats 1600000 in
set_option maxRecDepth 100000 in
theorem rf_71 {S0 : List Nat} {w0 w : World} {m a r : Nat} {rs : List Res} {s : Rn} (H : RunHas S0 w0 m a r rs s w) (hop : s.f.op = 7) (hl : s.f.line = 1) (hc : s.notes.length ≤ 900) :
    Calls Try.prog 57 #[.pointer (some ⟨r, 0, none⟩)] w fun e w' => e = .returned (.tuple #[]) ∧ RunHas S0 w0 m a r rs (rf71 s) w' := by
  have H0 := H.box rfl #[.pointer (some ⟨r, 0, none⟩)] 46
  have HC := Lib.hid hc
  obtain ⟨z0, z2, z4, z5, z6, z7⟩ := H.facts hop hl rfl rfl
  have HH := Lib.hid H0
  clear hc H H0
  go_enter Try.func57, Try.ntmps57
  go_wp2_with fail
  go_quiet (fail)
  have HW := HH.out.drewN nq
  clear z0 z2 z4 z5 z6 z7
  generalize w.heap.size = tb at HW ⊢
  generalize (World.drewN _ nq) = W at HW ⊢
  obtain ⟨z0, z2, z4, z5, z6, z7⟩ := HW.facts hop hl rfl rfl
  obtain ⟨u0, u1, u2⟩ := HW.first.own
  go_wp2_with fail
  refine (rf_swap HW HC.out 92 #[] (fun s => s) (fun s => by simp) (enters_of Try.func92 (by kernel_rfl) rfl) 1 65536 9 (by decide) (by decide) (fun W s' hs H => rf_first4 H)).mono ?_
  rintro e w1 ⟨rfl, H1⟩
  go_wp2_with fail
  go_end0
  exact ⟨rfl, H1.unbox⟩

end Go.Proofs.Ytdffdppkdbbdoaa.Z
