/- Package mutex: the lines of who gives the queue on. Written by genmx.py. -/
import Derived.Test.YtlndihdlodempaaZMx
set_option linter.unusedVariables false
set_option linter.unusedSimpArgs false
namespace Go.Proofs.Ytlndihdlodempaa.Z
open Go.RowKit

attribute [local go_sem ↓] Go.wp_at_zero Go.wp_at_succ

def mxG0 (q : Int) (s : Rn) : Rn :=
  let s1 := (s.did (doA s.L ⟨1, (cellP s.n 0 s.task), 0, 0, 0⟩)).setA (doA s.L ⟨1, (cellP s.n 0 s.task), 0, 0, 0⟩).1.old
  if (doA s.L ⟨1, (cellP s.n 0 s.task), 0, 0, 0⟩).1.old = 0 then s1.goto (q + 1) else s1.goto (q + 3)
set_option maxHeartbeats 1600000 in
theorem mx_g0 {S0 : List Nat} {w0 w : World} {m a r : Nat} {rs : List Res} {s : Rn} (tail q : Int) {g nn c : Nat} {nl : List Int} (hnl : nl.length = nn) (hq : 0 ≤ q ∧ q ≤ 100) (hc : s.notes.length + nl.length ≤ 900) (H : RunHas S0 w0 m a r (.blk g (i64s nl).toArray :: rs) s w) {l : Int} (hl : s.f.line = l) (hsub : wrap64 (l - q) = 0) (hn : I64 s.n) (ha : 0 ≤ s.f.a ∧ s.f.a < 4294967296) :
    Calls Try.prog 28 #[.pointer (some ⟨r, 0, none⟩), .int .i64 tail, .int .i64 q, .slice (some ⟨g, 0, none⟩) nn c] w fun e w' => e = .returned (.bool false) ∧ RunHas S0 w0 m a r (.blk g (i64s nl).toArray :: rs) (mxG0 q s) w' := by
  obtain ⟨o, hop⟩ : ∃ o, s.f.op = o := ⟨_, rfl⟩
  have hne := H.ne_first
  obtain ⟨z0, z2, z4, z5, z6, z7⟩ := H.facts hop hl rfl rfl
  have HA := Lib.hid ha
  have HC := Lib.hid hc
  have HQ := Lib.hid hq
  have HNX := Lib.hid (fun W => mapNext s.n s.task W hn)
  have HLD := Lib.hid (fun W rs (H : RunHas S0 w0 m a r rs s W) => rn_load H (cellP s.n 0 s.task))
  have HH := Lib.hid (H.box rfl #[.pointer (some ⟨r, 4, none⟩)] 102)
  clear H ha hc hn
  unfold mxG0
  (try dsimp only)
  by_cases hz : (doA s.L ⟨1, (cellP s.n 0 s.task), 0, 0, 0⟩).1.old = 0
  · simp only [if_pos hz]
    have hzb : ((doA s.L ⟨1, (cellP s.n 0 s.task), 0, 0, 0⟩).1.old != 0) = false := by simpa using hz
    clear hz
    go_enter Try.func28, Try.ntmps28
    go_wp2_with fail
    have HW := HH.out
    generalize w.heap.size = tb at HW ⊢
    generalize w.alloc _ = W at HW ⊢
    obtain ⟨z0, z2, z4, z5, z6, z7⟩ := HW.facts hop hl rfl rfl
    obtain ⟨y1, y2, y3⟩ := HW.whose rfl rfl rfl
    obtain ⟨u0, u1, u2⟩ := HW.first.own
    go_region_held3 (fun w' => w'.cell? ⟨r, 1, none⟩ = some (.int .i64 s.n) ∧ w'.cell? ⟨r, 3, none⟩ = some (.int .i64 s.task) ∧ w'.cell? ⟨r, 6, none⟩ = some (.int .u32 s.f.a) ∧ w'.cell? ⟨tb, 0, none⟩ = some (.pointer (some ⟨r, 4, none⟩)))
      (first | (refine RunHas.sees_box (S0 := S0) (w0 := w0) (m := m) (a := a) (rs := .blk g (i64s nl).toArray :: rs) (s := s) ?_; first | with_reducible assumption | with_reducible exact HW.drew))
      (first | (go_at_call 75; refine (HNX.out _).mono ?_; rintro e w1 ⟨rfl, t1⟩; have H1 := RunHas.grow HW.drew t1))
    clear u0 u1 u2 z0 z2 z4 z5 z6 z7 y1 y2 y3
    obtain ⟨x0, x2, x4, x5, x6, x7⟩ := H1.facts hop hl rfl rfl
    obtain ⟨v1, v2, v3⟩ := H1.whose rfl rfl rfl
    obtain ⟨u0, u1, u2⟩ := H1.first.own
    go_wp2_with fail
    have hne2 := H1.ne_first
    go_region_held3 (fun w' => ∀ i, w'.cell? ⟨tb, i, none⟩ = (#[.pointer (some ⟨r, 4, none⟩)] : Array Value)[i]?)
      (first | assumption | (intro i; rw [World.cell?_setCell_far _ _ _ _ (by exact hne2)]; apply_assumption) | (intro i; apply_assumption))
      (first | (go_at_call 53; (with_reducible refine (HLD.out _ _ H1.drew).mono ?_); rintro e w2 ⟨rfl, H2⟩; obtain ⟨v0, v1, v2⟩ := H2.first.own; obtain ⟨x0, x2, x4, x5, x6, x7⟩ := H2.facts hop hl rfl rfl))
    have H3 := H2.setA (doA s.L ⟨1, (cellP s.n 0 s.task), 0, 0, 0⟩).1.old
    go_wp2_with fail
    refine (rn_go H3 (q + 1)).mono ?_
    rintro e w4 ⟨rfl, H4⟩
    go_wp2_with fail
    go_ret
    exact ⟨rfl, H4.unbox⟩
  · simp only [if_neg hz]
    have hzb : ((doA s.L ⟨1, (cellP s.n 0 s.task), 0, 0, 0⟩).1.old != 0) = true := by simpa using hz
    clear hz
    go_enter Try.func28, Try.ntmps28
    go_wp2_with fail
    have HW := HH.out
    generalize w.heap.size = tb at HW ⊢
    generalize w.alloc _ = W at HW ⊢
    obtain ⟨z0, z2, z4, z5, z6, z7⟩ := HW.facts hop hl rfl rfl
    obtain ⟨y1, y2, y3⟩ := HW.whose rfl rfl rfl
    obtain ⟨u0, u1, u2⟩ := HW.first.own
    go_region_held3 (fun w' => w'.cell? ⟨r, 1, none⟩ = some (.int .i64 s.n) ∧ w'.cell? ⟨r, 3, none⟩ = some (.int .i64 s.task) ∧ w'.cell? ⟨r, 6, none⟩ = some (.int .u32 s.f.a) ∧ w'.cell? ⟨tb, 0, none⟩ = some (.pointer (some ⟨r, 4, none⟩)))
      (first | (refine RunHas.sees_box (S0 := S0) (w0 := w0) (m := m) (a := a) (rs := .blk g (i64s nl).toArray :: rs) (s := s) ?_; first | with_reducible assumption | with_reducible exact HW.drew))
      (first | (go_at_call 75; refine (HNX.out _).mono ?_; rintro e w1 ⟨rfl, t1⟩; have H1 := RunHas.grow HW.drew t1))
    clear u0 u1 u2 z0 z2 z4 z5 z6 z7 y1 y2 y3
    obtain ⟨x0, x2, x4, x5, x6, x7⟩ := H1.facts hop hl rfl rfl
    obtain ⟨v1, v2, v3⟩ := H1.whose rfl rfl rfl
    obtain ⟨u0, u1, u2⟩ := H1.first.own
    go_wp2_with fail
    have hne2 := H1.ne_first
    go_region_held3 (fun w' => ∀ i, w'.cell? ⟨tb, i, none⟩ = (#[.pointer (some ⟨r, 4, none⟩)] : Array Value)[i]?)
      (first | assumption | (intro i; rw [World.cell?_setCell_far _ _ _ _ (by exact hne2)]; apply_assumption) | (intro i; apply_assumption))
      (first | (go_at_call 53; (with_reducible refine (HLD.out _ _ H1.drew).mono ?_); rintro e w2 ⟨rfl, H2⟩; obtain ⟨v0, v1, v2⟩ := H2.first.own; obtain ⟨x0, x2, x4, x5, x6, x7⟩ := H2.facts hop hl rfl rfl))
    have H3 := H2.setA (doA s.L ⟨1, (cellP s.n 0 s.task), 0, 0, 0⟩).1.old
    go_wp2_with fail
    refine (rn_go H3 (q + 3)).mono ?_
    rintro e w4 ⟨rfl, H4⟩
    go_wp2_with fail
    go_ret
    exact ⟨rfl, H4.unbox⟩

def mxG1 (tail q : Int) (nl : List Int) (s : Rn) : Bool × Rn :=
  if casB s.L tail (mxOwn s) 0 then (true, (s.did (doA s.L ⟨5, tail, mxOwn s, 0, 0⟩)).noted nl) else (false, (s.did (doA s.L ⟨5, tail, mxOwn s, 0, 0⟩)).goto (q + 2))
set_option maxHeartbeats 1600000 in
theorem mx_g1 {S0 : List Nat} {w0 w : World} {m a r : Nat} {rs : List Res} {s : Rn} (tail q : Int) {g nn c : Nat} {nl : List Int} (hnl : nl.length = nn) (hq : 0 ≤ q ∧ q ≤ 100) (hc : s.notes.length + nl.length ≤ 900) (H : RunHas S0 w0 m a r (.blk g (i64s nl).toArray :: rs) s w) {l : Int} (hl : s.f.line = l) (hsub : wrap64 (l - q) = 1) (hn : I64 s.n) (ha : 0 ≤ s.f.a ∧ s.f.a < 4294967296) :
    Calls Try.prog 28 #[.pointer (some ⟨r, 0, none⟩), .int .i64 tail, .int .i64 q, .slice (some ⟨g, 0, none⟩) nn c] w fun e w' => e = .returned (.bool (mxG1 tail q nl s).1) ∧ RunHas S0 w0 m a r (.blk g (i64s nl).toArray :: rs) (mxG1 tail q nl s).2 w' := by
  obtain ⟨o, hop⟩ : ∃ o, s.f.op = o := ⟨_, rfl⟩
  have hne := H.ne_first
  obtain ⟨z0, z2, z4, z5, z6, z7⟩ := H.facts hop hl rfl rfl
  have HA := Lib.hid ha
  have HC := Lib.hid hc
  have HQ := Lib.hid hq
  have HNX := Lib.hid (fun W => mapNext s.n s.task W hn)
  have hcas := fun W rs (H : RunHas S0 w0 m a r rs s W) => rn_cas H tail (mxOwn s) 0 (mxOwn_word s) (by decide)
  have HH := Lib.hid (H.box rfl #[.pointer (some ⟨r, 4, none⟩)] 102)
  clear H ha hc hn
  unfold mxG1
  cases hb : casB s.L tail (mxOwn s) 0 with
  | true =>
    rw [hb] at hcas
    simp only [if_true]
    have HCAS := Lib.hid hcas
    clear hcas hb
    go_enter Try.func28, Try.ntmps28
    go_wp2_with fail
    have HW := HH.out
    generalize w.heap.size = tb at HW ⊢
    generalize w.alloc _ = W at HW ⊢
    obtain ⟨z0, z2, z4, z5, z6, z7⟩ := HW.facts hop hl rfl rfl
    obtain ⟨y1, y2, y3⟩ := HW.whose rfl rfl rfl
    obtain ⟨u0, u1, u2⟩ := HW.first.own
    go_region_held3 (fun w' => w'.cell? ⟨r, 1, none⟩ = some (.int .i64 s.n) ∧ w'.cell? ⟨r, 3, none⟩ = some (.int .i64 s.task) ∧ w'.cell? ⟨r, 6, none⟩ = some (.int .u32 s.f.a) ∧ w'.cell? ⟨tb, 0, none⟩ = some (.pointer (some ⟨r, 4, none⟩)))
      (first | (refine RunHas.sees_box (S0 := S0) (w0 := w0) (m := m) (a := a) (rs := .blk g (i64s nl).toArray :: rs) (s := s) ?_; first | with_reducible assumption | with_reducible exact HW.drew))
      (first | (go_at_call 75; refine (HNX.out _).mono ?_; rintro e w1 ⟨rfl, t1⟩; have H1 := RunHas.grow HW.drew t1))
    clear u0 u1 u2 z0 z2 z4 z5 z6 z7 y1 y2 y3
    obtain ⟨x0, x2, x4, x5, x6, x7⟩ := H1.facts hop hl rfl rfl
    obtain ⟨v1, v2, v3⟩ := H1.whose rfl rfl rfl
    obtain ⟨u0, u1, u2⟩ := H1.first.own
    go_wp2_with fail
    refine (mx_own H1).mono ?_
    rintro e w9 ⟨rfl, rfl⟩
    go_wp2_with fail
    refine (HCAS.out _ _ H1).mono ?_
    rintro e w2 ⟨rfl, H2⟩
    go_wp2_with fail
    refine (mx_noted H2.swap12 hnl (by have := HC.out; simp [Rn.did]; omega)).mono ?_
    rintro e w3 ⟨rfl, H3⟩
    go_wp2_with fail
    go_ret
    exact ⟨rfl, H3.swap12.unbox⟩
  | false =>
    rw [hb] at hcas
    simp only [Bool.false_eq_true, if_false]
    have HCAS := Lib.hid hcas
    clear hcas hb
    go_enter Try.func28, Try.ntmps28
    go_wp2_with fail
    have HW := HH.out
    generalize w.heap.size = tb at HW ⊢
    generalize w.alloc _ = W at HW ⊢
    obtain ⟨z0, z2, z4, z5, z6, z7⟩ := HW.facts hop hl rfl rfl
    obtain ⟨y1, y2, y3⟩ := HW.whose rfl rfl rfl
    obtain ⟨u0, u1, u2⟩ := HW.first.own
    go_region_held3 (fun w' => w'.cell? ⟨r, 1, none⟩ = some (.int .i64 s.n) ∧ w'.cell? ⟨r, 3, none⟩ = some (.int .i64 s.task) ∧ w'.cell? ⟨r, 6, none⟩ = some (.int .u32 s.f.a) ∧ w'.cell? ⟨tb, 0, none⟩ = some (.pointer (some ⟨r, 4, none⟩)))
      (first | (refine RunHas.sees_box (S0 := S0) (w0 := w0) (m := m) (a := a) (rs := .blk g (i64s nl).toArray :: rs) (s := s) ?_; first | with_reducible assumption | with_reducible exact HW.drew))
      (first | (go_at_call 75; refine (HNX.out _).mono ?_; rintro e w1 ⟨rfl, t1⟩; have H1 := RunHas.grow HW.drew t1))
    clear u0 u1 u2 z0 z2 z4 z5 z6 z7 y1 y2 y3
    obtain ⟨x0, x2, x4, x5, x6, x7⟩ := H1.facts hop hl rfl rfl
    obtain ⟨v1, v2, v3⟩ := H1.whose rfl rfl rfl
    obtain ⟨u0, u1, u2⟩ := H1.first.own
    go_wp2_with fail
    refine (mx_own H1).mono ?_
    rintro e w9 ⟨rfl, rfl⟩
    go_wp2_with fail
    refine (HCAS.out _ _ H1).mono ?_
    rintro e w2 ⟨rfl, H2⟩
    go_wp2_with fail
    refine (rn_go H2 (q + 2)).mono ?_
    rintro e w3 ⟨rfl, H3⟩
    go_wp2_with fail
    go_ret
    exact ⟨rfl, H3.unbox⟩

def mxG2 (q : Int) (s : Rn) : Rn :=
  let s1 := (s.keep (waitA s.L s.n s.mode s.task s.f.st (cellP s.n 0 s.task) (fun v => v != 0))).waited (waitA s.L s.n s.mode s.task s.f.st (cellP s.n 0 s.task) (fun v => v != 0))
  if (waitA s.L s.n s.mode s.task s.f.st (cellP s.n 0 s.task) (fun v => v != 0)).done then s1.goto (q + 3) else s1
set_option maxHeartbeats 1600000 in
theorem mx_g2 {S0 : List Nat} {w0 w : World} {m a r : Nat} {rs : List Res} {s : Rn} (tail q : Int) {g nn c : Nat} {nl : List Int} (hnl : nl.length = nn) (hq : 0 ≤ q ∧ q ≤ 100) (hc : s.notes.length + nl.length ≤ 900) (H : RunHas S0 w0 m a r (.blk g (i64s nl).toArray :: rs) s w) {l : Int} (hl : s.f.line = l) (hsub : wrap64 (l - q) = 2) (hn : I64 s.n) (ha : 0 ≤ s.f.a ∧ s.f.a < 4294967296) :
    Calls Try.prog 28 #[.pointer (some ⟨r, 0, none⟩), .int .i64 tail, .int .i64 q, .slice (some ⟨g, 0, none⟩) nn c] w fun e w' => e = .returned (.bool false) ∧ RunHas S0 w0 m a r (.blk g (i64s nl).toArray :: rs) (mxG2 q s) w' := by
  obtain ⟨o, hop⟩ : ∃ o, s.f.op = o := ⟨_, rfl⟩
  have hne := H.ne_first
  obtain ⟨z0, z2, z4, z5, z6, z7⟩ := H.facts hop hl rfl rfl
  have HA := Lib.hid ha
  have HC := Lib.hid hc
  have HQ := Lib.hid hq
  have HNX := Lib.hid (fun W => mapNext s.n s.task W hn)
  have hwt := fun (tb : Nat) W (H : RunHas S0 w0 m a r (.blk tb #[.pointer (some ⟨r, 4, none⟩)] :: .blk g (i64s nl).toArray :: rs) s W) => rn_wait_keep H hn (cellP s.n 0 s.task) 84 #[] #[.pointer (some ⟨tb, 0, none⟩)] (fun v => v != 0) (enters_of Try.func84 (by kernel_rfl) rfl) (fun W nv v h0 h1 HX => mx_keeps v W ⟨h0, h1⟩ HX.blk1 (HX.at_ 3 rfl))
  have HH := Lib.hid (H.box rfl #[.pointer (some ⟨r, 4, none⟩)] 102)
  clear H ha hc hn
  unfold mxG2
  (try dsimp only)
  generalize (waitA s.L s.n s.mode s.task s.f.st (cellP s.n 0 s.task) (fun v => v != 0)).seen = sn at hwt
  cases hd : (waitA s.L s.n s.mode s.task s.f.st (cellP s.n 0 s.task) (fun v => v != 0)).done <;> rw [hd] at hwt <;> simp only [if_true, Bool.false_eq_true, if_false] <;> (have HWT := Lib.hid hwt) <;> clear hwt hd
  · go_enter Try.func28, Try.ntmps28
    go_wp2_with fail
    have HW := HH.out
    generalize w.heap.size = tb at HW ⊢
    generalize w.alloc _ = W at HW ⊢
    obtain ⟨z0, z2, z4, z5, z6, z7⟩ := HW.facts hop hl rfl rfl
    obtain ⟨y1, y2, y3⟩ := HW.whose rfl rfl rfl
    obtain ⟨u0, u1, u2⟩ := HW.first.own
    go_region_held3 (fun w' => w'.cell? ⟨r, 1, none⟩ = some (.int .i64 s.n) ∧ w'.cell? ⟨r, 3, none⟩ = some (.int .i64 s.task) ∧ w'.cell? ⟨r, 6, none⟩ = some (.int .u32 s.f.a) ∧ w'.cell? ⟨tb, 0, none⟩ = some (.pointer (some ⟨r, 4, none⟩)))
      (first | (refine RunHas.sees_box (S0 := S0) (w0 := w0) (m := m) (a := a) (rs := .blk g (i64s nl).toArray :: rs) (s := s) ?_; first | with_reducible assumption | with_reducible exact HW.drew))
      (first | (go_at_call 75; refine (HNX.out _).mono ?_; rintro e w1 ⟨rfl, t1⟩; have H1 := RunHas.grow HW.drew t1))
    clear u0 u1 u2 z0 z2 z4 z5 z6 z7 y1 y2 y3
    obtain ⟨x0, x2, x4, x5, x6, x7⟩ := H1.facts hop hl rfl rfl
    obtain ⟨v1, v2, v3⟩ := H1.whose rfl rfl rfl
    obtain ⟨u0, u1, u2⟩ := H1.first.own
    go_wp2_with fail
    refine (HWT.out _ _ H1).mono ?_
    rintro e w2 ⟨rfl, H2⟩
    go_wp2_with fail
    go_ret
    exact ⟨rfl, H2.unbox⟩
  · go_enter Try.func28, Try.ntmps28
    go_wp2_with fail
    have HW := HH.out
    generalize w.heap.size = tb at HW ⊢
    generalize w.alloc _ = W at HW ⊢
    obtain ⟨z0, z2, z4, z5, z6, z7⟩ := HW.facts hop hl rfl rfl
    obtain ⟨y1, y2, y3⟩ := HW.whose rfl rfl rfl
    obtain ⟨u0, u1, u2⟩ := HW.first.own
    go_region_held3 (fun w' => w'.cell? ⟨r, 1, none⟩ = some (.int .i64 s.n) ∧ w'.cell? ⟨r, 3, none⟩ = some (.int .i64 s.task) ∧ w'.cell? ⟨r, 6, none⟩ = some (.int .u32 s.f.a) ∧ w'.cell? ⟨tb, 0, none⟩ = some (.pointer (some ⟨r, 4, none⟩)))
      (first | (refine RunHas.sees_box (S0 := S0) (w0 := w0) (m := m) (a := a) (rs := .blk g (i64s nl).toArray :: rs) (s := s) ?_; first | with_reducible assumption | with_reducible exact HW.drew))
      (first | (go_at_call 75; refine (HNX.out _).mono ?_; rintro e w1 ⟨rfl, t1⟩; have H1 := RunHas.grow HW.drew t1))
    clear u0 u1 u2 z0 z2 z4 z5 z6 z7 y1 y2 y3
    obtain ⟨x0, x2, x4, x5, x6, x7⟩ := H1.facts hop hl rfl rfl
    obtain ⟨v1, v2, v3⟩ := H1.whose rfl rfl rfl
    obtain ⟨u0, u1, u2⟩ := H1.first.own
    go_wp2_with fail
    refine (HWT.out _ _ H1).mono ?_
    rintro e w2 ⟨rfl, H2⟩
    go_wp2_with fail
    refine (rn_go H2 (q + 3)).mono ?_
    rintro e w3 ⟨rfl, H3⟩
    go_wp2_with fail
    go_ret
    exact ⟨rfl, H3.unbox⟩

def mxG3 (nl : List Int) (s : Rn) : Rn := ((s.did (doA s.L ⟨2, (cellP s.n 1 (s.f.a - 1)), 0, 0, 0⟩)).noted nl).wake (cellP s.n 1 (s.f.a - 1))
set_option maxHeartbeats 1600000 in
theorem mx_g3 {S0 : List Nat} {w0 w : World} {m a r : Nat} {rs : List Res} {s : Rn} (tail q : Int) {g nn c : Nat} {nl : List Int} (hnl : nl.length = nn) (hq : 0 ≤ q ∧ q ≤ 100) (hc : s.notes.length + nl.length ≤ 900) (H : RunHas S0 w0 m a r (.blk g (i64s nl).toArray :: rs) s w) {l : Int} (hl : s.f.line = l) (hsub : wrap64 (l - q) = 3) (hn : I64 s.n) (ha : 0 ≤ s.f.a ∧ s.f.a < 4294967296) :
    Calls Try.prog 28 #[.pointer (some ⟨r, 0, none⟩), .int .i64 tail, .int .i64 q, .slice (some ⟨g, 0, none⟩) nn c] w fun e w' => e = .returned (.bool true) ∧ RunHas S0 w0 m a r (.blk g (i64s nl).toArray :: rs) (mxG3 nl s) w' := by
  obtain ⟨o, hop⟩ : ∃ o, s.f.op = o := ⟨_, rfl⟩
  have hne := H.ne_first
  obtain ⟨z0, z2, z4, z5, z6, z7⟩ := H.facts hop hl rfl rfl
  have HA := Lib.hid ha
  have HC := Lib.hid hc
  have HQ := Lib.hid hq
  have HNX := Lib.hid (fun W => mapNext s.n s.task W hn)
  have HBL := Lib.hid (fun W => mapBlocked s.n (s.f.a - 1) W hn)
  have HH := Lib.hid (H.box rfl #[.pointer (some ⟨r, 4, none⟩)] 102)
  clear H ha hc hn
  unfold mxG3
  go_enter Try.func28, Try.ntmps28
  go_wp2_with fail
  have HW := HH.out
  generalize w.heap.size = tb at HW ⊢
  generalize w.alloc _ = W at HW ⊢
  obtain ⟨z0, z2, z4, z5, z6, z7⟩ := HW.facts hop hl rfl rfl
  obtain ⟨y1, y2, y3⟩ := HW.whose rfl rfl rfl
  obtain ⟨u0, u1, u2⟩ := HW.first.own
  go_region_held3 (fun w' => w'.cell? ⟨r, 1, none⟩ = some (.int .i64 s.n) ∧ w'.cell? ⟨r, 3, none⟩ = some (.int .i64 s.task) ∧ w'.cell? ⟨r, 6, none⟩ = some (.int .u32 s.f.a) ∧ w'.cell? ⟨tb, 0, none⟩ = some (.pointer (some ⟨r, 4, none⟩)))
    (first | (refine RunHas.sees_box (S0 := S0) (w0 := w0) (m := m) (a := a) (rs := .blk g (i64s nl).toArray :: rs) (s := s) ?_; first | with_reducible assumption | with_reducible exact HW.drew | with_reducible exact H1.drew))
    (first | (go_at_call 75; refine (HNX.out _).mono ?_; rintro e w1 ⟨rfl, t1⟩; have H1 := RunHas.grow HW.drew t1))
  clear u0 u1 u2 z0 z2 z4 z5 z6 z7 y1 y2 y3
  obtain ⟨x0, x2, x4, x5, x6, x7⟩ := H1.facts hop hl rfl rfl
  obtain ⟨v1, v2, v3⟩ := H1.whose rfl rfl rfl
  obtain ⟨u0, u1, u2⟩ := H1.first.own
  go_wp2_with fail
  go_region_held3 (fun w' => w'.cell? ⟨r, 1, none⟩ = some (.int .i64 s.n) ∧ w'.cell? ⟨r, 3, none⟩ = some (.int .i64 s.task) ∧ w'.cell? ⟨r, 6, none⟩ = some (.int .u32 s.f.a) ∧ w'.cell? ⟨tb, 0, none⟩ = some (.pointer (some ⟨r, 4, none⟩)))
    (first | (refine RunHas.sees_box (S0 := S0) (w0 := w0) (m := m) (a := a) (rs := .blk g (i64s nl).toArray :: rs) (s := s) ?_; first | with_reducible assumption | with_reducible exact HW.drew | with_reducible exact H1.drew))
    (first | (go_at_call 78; refine (mx_other _ _ HA.out).mono ?_; rintro e w9 ⟨rfl, rfl⟩) | (go_at_call 76; refine (HBL.out _).mono ?_; rintro e w2 ⟨rfl, t2⟩; have H2 := RunHas.grow H1.drew t2))
  obtain ⟨p0, p2, p4, p5, p6, p7⟩ := H2.facts hop hl rfl rfl
  go_wp2_with fail
  refine (rn_store H2 (cellP s.n 1 (s.f.a - 1)) 0 (by decide)).mono ?_
  rintro e w3 ⟨rfl, H3⟩
  go_wp2_with fail
  refine (mx_noted H3.swap12 hnl (by have := HC.out; simp [Rn.did]; omega)).mono ?_
  rintro e w4 ⟨rfl, H4⟩
  go_wp2_with fail
  refine (rn_wake H4.swap12 (cellP s.n 1 (s.f.a - 1))).mono ?_
  rintro e w5 ⟨rfl, H5⟩
  go_wp2_with fail
  go_ret
  exact ⟨rfl, H5.unbox⟩

def mxGnone (s : Rn) : Rn := s
set_option maxHeartbeats 1600000 in
theorem mx_gnone {S0 : List Nat} {w0 w : World} {m a r : Nat} {rs : List Res} {s : Rn} (tail q : Int) {g nn c : Nat} {nl : List Int} (hnl : nl.length = nn) (hq : 0 ≤ q ∧ q ≤ 100) (hc : s.notes.length + nl.length ≤ 900) (H : RunHas S0 w0 m a r (.blk g (i64s nl).toArray :: rs) s w) {l : Int} (hl : s.f.line = l) (k0 : ¬ wrap64 (l - q) = 0) (k1 : ¬ wrap64 (l - q) = 1) (k2 : ¬ wrap64 (l - q) = 2) (k3 : ¬ wrap64 (l - q) = 3) (hn : I64 s.n) (ha : 0 ≤ s.f.a ∧ s.f.a < 4294967296) :
    Calls Try.prog 28 #[.pointer (some ⟨r, 0, none⟩), .int .i64 tail, .int .i64 q, .slice (some ⟨g, 0, none⟩) nn c] w fun e w' => e = .returned (.bool false) ∧ RunHas S0 w0 m a r (.blk g (i64s nl).toArray :: rs) s w' := by
  obtain ⟨o, hop⟩ : ∃ o, s.f.op = o := ⟨_, rfl⟩
  have hne := H.ne_first
  obtain ⟨z0, z2, z4, z5, z6, z7⟩ := H.facts hop hl rfl rfl
  have HA := Lib.hid ha
  have HC := Lib.hid hc
  have HQ := Lib.hid hq
  have HNX := Lib.hid (fun W => mapNext s.n s.task W hn)
  have HH := Lib.hid (H.box rfl #[.pointer (some ⟨r, 4, none⟩)] 102)
  clear H ha hc hn
  go_enter Try.func28, Try.ntmps28
  go_wp2_with fail
  have HW := HH.out
  generalize w.heap.size = tb at HW ⊢
  generalize w.alloc _ = W at HW ⊢
  obtain ⟨z0, z2, z4, z5, z6, z7⟩ := HW.facts hop hl rfl rfl
  obtain ⟨y1, y2, y3⟩ := HW.whose rfl rfl rfl
  obtain ⟨u0, u1, u2⟩ := HW.first.own
  go_region_held3 (fun w' => w'.cell? ⟨r, 1, none⟩ = some (.int .i64 s.n) ∧ w'.cell? ⟨r, 3, none⟩ = some (.int .i64 s.task) ∧ w'.cell? ⟨r, 6, none⟩ = some (.int .u32 s.f.a) ∧ w'.cell? ⟨tb, 0, none⟩ = some (.pointer (some ⟨r, 4, none⟩)))
    (first | (refine RunHas.sees_box (S0 := S0) (w0 := w0) (m := m) (a := a) (rs := .blk g (i64s nl).toArray :: rs) (s := s) ?_; first | with_reducible assumption | with_reducible exact HW.drew))
    (first | (go_at_call 75; refine (HNX.out _).mono ?_; rintro e w1 ⟨rfl, t1⟩; have H1 := RunHas.grow HW.drew t1))
  clear u0 u1 u2 z0 z2 z4 z5 z6 z7 y1 y2 y3
  obtain ⟨x0, x2, x4, x5, x6, x7⟩ := H1.facts hop hl rfl rfl
  obtain ⟨v1, v2, v3⟩ := H1.whose rfl rfl rfl
  obtain ⟨u0, u1, u2⟩ := H1.first.own
  go_wp2_with fail
  go_ret
  exact ⟨rfl, H1.unbox⟩

/-- A line of who gives the queue on. -/
def mxGive (tail q : Int) (nl : List Int) (s : Rn) : Bool × Rn :=
  if wrap64 (s.f.line - q) = 0 then (false, mxG0 q s) else if wrap64 (s.f.line - q) = 1 then mxG1 tail q nl s else if wrap64 (s.f.line - q) = 2 then (false, mxG2 q s) else if wrap64 (s.f.line - q) = 3 then (true, mxG3 nl s) else (false, s)
theorem mx_give {S0 : List Nat} {w0 w : World} {m a r : Nat} {rs : List Res} {s : Rn} (tail q : Int) {g nn c : Nat} {nl : List Int} (hnl : nl.length = nn) (hq : 0 ≤ q ∧ q ≤ 100) (hc : s.notes.length + nl.length ≤ 900) (H : RunHas S0 w0 m a r (.blk g (i64s nl).toArray :: rs) s w) (hn : I64 s.n) (ha : 0 ≤ s.f.a ∧ s.f.a < 4294967296) :
    Calls Try.prog 28 #[.pointer (some ⟨r, 0, none⟩), .int .i64 tail, .int .i64 q, .slice (some ⟨g, 0, none⟩) nn c] w fun e w' => e = .returned (.bool (mxGive tail q nl s).1) ∧ RunHas S0 w0 m a r (.blk g (i64s nl).toArray :: rs) (mxGive tail q nl s).2 w' := by
  unfold mxGive
  split
  · exact mx_g0 tail q hnl hq hc H rfl (by assumption) hn ha
  split
  · exact mx_g1 tail q hnl hq hc H rfl (by assumption) hn ha
  split
  · exact mx_g2 tail q hnl hq hc H rfl (by assumption) hn ha
  split
  · exact mx_g3 tail q hnl hq hc H rfl (by assumption) hn ha
  · exact mx_gnone tail q hnl hq hc H rfl (by assumption) (by assumption) (by assumption) (by assumption) hn ha

end Go.Proofs.Ytlndihdlodempaa.Z
