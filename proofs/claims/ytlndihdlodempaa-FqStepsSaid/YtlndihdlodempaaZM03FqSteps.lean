/- 6 texts of this claim, joined: what each shows stands at its own head. -/
import Derived.Test.YtlndihdlodempaaZRun7
import Derived.Test.YtlndihdlodempaaZFin
import Derived.Test.YtlndihdlodempaaZM02FqSteps
import Derived.Test.YtlndihdlodempaaZWord
/- A lock's operation by itself: steps of a run, counted. No program is in sight but the model's words. -/
set_option linter.unusedVariables false
set_option linter.unusedSimpArgs false
namespace Go.Proofs.Ytlndihdlodempaa.Z
open Go.RowKit

/-- A step under these lines. -/
def stepR (g : Rn → Rn) (s : Rn) : Rn := if s.f.wk.on then s.woke else g s.fresh
/-- So many steps at most: the result, and the run then. -/
def aloneA (g : Rn → Rn) : Nat → Rn → Int × Rn
  | 0, s => (0, s)
  | k + 1, s => if (stepR g s).over then ((stepR g s).f.ret, stepR g s) else aloneA g k (stepR g s)
def start (n mode op : Int) (L : List Int) : Rn := ⟨n, mode, 0, ⟨op, 0, 0, 0, 0, Wk.zero, 0⟩, Acc.zero, [], L⟩

/-- A frame whose kept words are words. -/
def Rn.ok (s : Rn) : Prop := I64 s.n ∧ (0 ≤ s.f.a ∧ s.f.a < 4294967296) ∧ (0 ≤ s.f.b ∧ s.f.b < 4294967296)
theorem start_ok {n : Int} (hn : I64 n) (mode op : Int) (L : List Int) : (start n mode op L).ok := ⟨hn, by simp [start], by simp [start]⟩
theorem woke_ok {s : Rn} (h : s.ok) : s.woke.ok := h
theorem fresh_ok {s : Rn} (h : s.ok) : s.fresh.ok := h

/-- Words in which nobody watches the cell c. -/
def NoWatch (n : Int) (c : Int) (L : List Int) : Prop := ∀ i, 0 ≤ i → i < n → (doA L ⟨1, cellP n 2 i, 0, 0, 0⟩).2.1 = true ∧ (doA L ⟨1, cellP n 2 i, 0, 0, 0⟩).1.old ≠ (c + 1) % 4294967296

theorem woke_calm {s : Rn} {c i : Int} (hw : s.f.wk = ⟨true, c, i, false⟩) (h0 : 0 ≤ i) (h1 : i < s.n) (hc : NoWatch s.n c s.L) :
    s.woke.L = s.L ∧ s.woke.f = { s.f with wk := if s.n ≤ i + 1 then Wk.zero else ⟨true, c, i + 1, false⟩ } ∧ s.woke.notes = [] ∧ s.woke.n = s.n ∧ s.woke.mode = s.mode ∧ s.woke.task = s.task := by
  obtain ⟨h2, h3⟩ := hc i h0 h1
  have e : wakeA s.L s.n s.f.wk = (nextA s.n ⟨true, c, i, false⟩, (doA s.L ⟨1, cellP s.n 2 i, 0, 0, 0⟩).1, s.L) := by
    rw [hw]
    unfold wakeA
    simp only [if_true, Bool.false_eq_true, if_false]
    rw [if_pos h2, if_neg h3]
  unfold Rn.woke
  rw [e]
  refine ⟨rfl, ?_, rfl, rfl, rfl, rfl⟩
  show { s.f with wk := nextA s.n ⟨true, c, i, false⟩ } = _
  unfold nextA
  rfl

/-- The run behind a wake-up that finds nobody: only its access and its notes may differ. -/
def Rn.rests (s : Rn) : Rn := { s with f := { s.f with wk := Wk.zero }, acc := Acc.zero, notes := [] }

/-- A wake-up that finds nobody, within an operation: behind it the steps go on. -/
theorem alone_wakes (g : Rn → Rn) (c : Int) : ∀ (d : Nat) (s : Rn) (i : Int) (most : Nat), s.f.wk = ⟨true, c, i, false⟩ → 0 ≤ i → i + d = s.n → 1 ≤ d → NoWatch s.n c s.L → d ≤ most →
    ∃ s', s'.fresh = s.rests ∧ s'.f.wk.on = false ∧ s'.L = s.L ∧ s'.f.ret = s.f.ret ∧ ((s.f.ret ≠ 0 → aloneA g most s = (s.f.ret, s')) ∧ (s.f.ret = 0 → aloneA g most s = aloneA g (most - d) s')) := by
  intro d
  induction d with
  | zero => intro s i most hw h0 h1 h2; omega
  | succ d ih =>
    intro s i most hw h0 h1 _ hc hm
    obtain ⟨e1, e2, e3, e4, e5, e6⟩ := woke_calm hw h0 (by omega) hc
    have hst : stepR g s = s.woke := by unfold stepR; rw [hw]; rfl
    obtain ⟨most, rfl⟩ : ∃ j, most = j + 1 := ⟨most - 1, by omega⟩
    by_cases hd : d = 0
    · subst hd
      rw [if_pos (by omega)] at e2
      refine ⟨s.woke, ?_, by rw [e2]; rfl, e1, by rw [e2], fun hr => ?_, fun hr => ?_⟩
      · unfold Rn.fresh Rn.rests
        rw [e1, e2, e4, e5, e6]
      · show (if (stepR g s).over then ((stepR g s).f.ret, stepR g s) else aloneA g most (stepR g s)) = _
        rw [hst, if_pos (by unfold Rn.over; rw [e2]; simpa [Wk.zero] using hr), e2]
      · show (if (stepR g s).over then ((stepR g s).f.ret, stepR g s) else aloneA g most (stepR g s)) = _
        rw [hst, if_neg (by unfold Rn.over; rw [e2]; simp [hr])]
        rfl
    · rw [if_neg (by omega)] at e2
      obtain ⟨s', k1, k2, k3, k4, k5, k6⟩ := ih s.woke (i + 1) most (by rw [e2]) (by omega) (by rw [e4]; omega) (by omega) (by rw [e4, e1]; exact hc) (by omega)
      have er : s.woke.f.ret = s.f.ret := by rw [e2]
      have hgo : aloneA g (most + 1) s = aloneA g most s.woke := by
        show (if (stepR g s).over then ((stepR g s).f.ret, stepR g s) else aloneA g most (stepR g s)) = _
        rw [hst, if_neg (by unfold Rn.over; rw [e2]; simp)]
      refine ⟨s', ?_, k2, k3.trans e1, k4.trans er, fun hr => ?_, fun hr => ?_⟩
      · rw [k1]
        unfold Rn.rests
        rw [e1, e2, e4, e5, e6]
      · rw [hgo, k5 (by rw [er]; exact hr), er]
      · rw [hgo, k6 (by rw [er]; exact hr)]
        congr 1
        omega

/-- Operations one after the other, each by itself: all end with true. -/
def Runs (g : Rn → Rn) (n mode : Int) (most : Nat) : List Int → List Int → List Int → Prop
  | [], L, L' => L = L'
  | o :: os, L, L' => ∃ s, aloneA g most (start n mode o L) = (2, s) ∧ Runs g n mode most os s.L L'

/-- What is kept is words; ten notes more at most. -/
def Fine (s0 s' : Rn) : Prop := (I64 s'.n ∧ (0 ≤ s'.f.a ∧ s'.f.a < 4294967296) ∧ (0 ≤ s'.f.b ∧ s'.f.b < 4294967296)) ∧ s'.notes.length ≤ s0.notes.length + 10
theorem fine_mk {s0 s' : Rn} (h : (I64 s'.n ∧ (0 ≤ s'.f.a ∧ s'.f.a < 4294967296) ∧ (0 ≤ s'.f.b ∧ s'.f.b < 4294967296)) ∧ s'.notes.length ≤ s0.notes.length + 10) : Fine s0 s' := h

theorem Has.ownNil {S0 : List Nat} {w0 w : World} {rs : List Res} (h : Has S0 w0 w rs) (e size : Nat) : Has S0 w0 w (.own e size (.slice none 0 0) 0 [] :: rs) :=
  Has.upd (xs := []) (rs := rs) [.own e size (.slice none 0 0) 0 []] (S := []) h (Touch.refl _ _) (by simp) (by simp [Res.holds]; exact ⟨by simp, .inl ⟨rfl, rfl⟩⟩) (by simp) (by simp [Res.foot, Value.ownBlock])

/-- A new run. -/
theorem RunHas.fresh_ {S0 : List Nat} {w0 w : World} {m a : Nat} {rs : List Res} (s : Rn) (H : Has S0 w0 w (.mem m a s.L :: rs)) (hn : s.notes = []) (T : TypeId) :
    RunHas S0 w0 m a w.heap.size rs s (w.alloc (.cells (rcells m s (.slice none 0 0)) T)) := by
  refine ⟨.slice none 0 0, ?_⟩
  rw [hn]
  exact (H.al1).own_nil _ _

/-- More is appended to what is owned, fourth in the list. -/
theorem Has.grown4 {S0 : List Nat} {w0 w w' : World} {x y z : Res} {e size n m : Nat} {v v' : Value} {xs ys : List Value} {rs : List Res} (h : Has S0 w0 w (x :: y :: z :: .own e size v n xs :: rs)) (hown : w'.ownsRow 0 e size v' m ys) (hg : w.grownBy w' v.ownBlock)
    (hat : v'.ownBlock = v.ownBlock ∨ v'.ownBlock = some w.heap.size) : Has S0 w0 w' (x :: y :: z :: .own e size v' m ys :: rs) :=
  ((h.perm (perm_past3 x y z [_] rs).symm).grown hown hg hat).perm (perm_past3 x y z [_] rs)

/-- What an operation by itself tells. -/
def AloneEnd (S0 : List Nat) (w0 : World) (m a : Nat) (rs : List Res) (R : Int × Rn) (e : Ending) (w' : World) : Prop :=
  ∃ v, e = .returned (.tuple #[.int .i64 R.1, v]) ∧ Has S0 w0 w' (.mem m a R.2.L :: rs)

end Go.Proofs.Ytlndihdlodempaa.Z

/- Package fq: its lines, whole. Written by genfq.py. -/
set_option linter.unusedVariables false
set_option linter.unusedSimpArgs false
namespace Go.Proofs.Ytlndihdlodempaa.Z
open Go.RowKit

attribute [local go_sem ↓] Go.wp_at_zero Go.wp_at_succ

set_option maxHeartbeats 800000 in
theorem fq_line_0 {S0 : List Nat} {w0 w : World} {m a r : Nat} {rs : List Res} {s : Rn} (H : RunHas S0 w0 m a r rs s w) {o l : Int} (hop : s.f.op = o) (hl : s.f.line = l) (ho : o = 1) (hle : l ≤ 4) (hn : I64 s.n) (ha : 0 ≤ s.f.a ∧ s.f.a < 4294967296) (hc : s.notes.length ≤ 800) :
    Calls Try.prog 43 #[.pointer (some ⟨r, 0, none⟩)] w fun e w' => e = .returned (.tuple #[]) ∧ RunHas S0 w0 m a r rs (fqEnter 1 s) w' := by
  obtain ⟨z0, z2, z4, z5, z6, z7⟩ := H.facts hop hl rfl rfl
  have HC := Lib.hid hc
  have HA := Lib.hid ha
  have HN := Lib.hid hn
  have HH := Lib.hid H
  clear hc H hn ha
  subst ho
  go_enter Try.func43, Try.ntmps43
  go_wp2_with fail
  refine (fq_enter HH.out 1 HN.out HA.out HC.out).mono ?_
  rintro e w1 ⟨rfl, H1⟩
  go_wp2_with fail
  go_end0
  exact ⟨rfl, H1⟩

set_option maxHeartbeats 800000 in
theorem fq_line_1 {S0 : List Nat} {w0 w : World} {m a r : Nat} {rs : List Res} {s : Rn} (H : RunHas S0 w0 m a r rs s w) {o l : Int} (hop : s.f.op = o) (hl : s.f.line = l) (ho : o = 1) (hle : 4 < l) (hn : I64 s.n) (ha : 0 ≤ s.f.a ∧ s.f.a < 4294967296) (hc : s.notes.length ≤ 800) :
    Calls Try.prog 43 #[.pointer (some ⟨r, 0, none⟩)] w fun e w' => e = .returned (.tuple #[]) ∧ RunHas S0 w0 m a r rs (fqReader s) w' := by
  obtain ⟨z0, z2, z4, z5, z6, z7⟩ := H.facts hop hl rfl rfl
  have HC := Lib.hid hc
  have HA := Lib.hid ha
  have HN := Lib.hid hn
  have HH := Lib.hid H
  clear hc H hn ha
  subst ho
  go_enter Try.func43, Try.ntmps43
  go_wp2_with fail
  refine (fq_reader HH.out HN.out HA.out HC.out).mono ?_
  rintro e w1 ⟨rfl, H1⟩
  go_wp2_with fail
  go_end0
  exact ⟨rfl, H1⟩

set_option maxHeartbeats 800000 in
theorem fq_line_2 {S0 : List Nat} {w0 w : World} {m a r : Nat} {rs : List Res} {s : Rn} (H : RunHas S0 w0 m a r rs s w) {o l : Int} (hop : s.f.op = o) (hl : s.f.line = l) (ho : o = 5) (hle : l ≤ 1) (hn : I64 s.n) (ha : 0 ≤ s.f.a ∧ s.f.a < 4294967296) (hc : s.notes.length ≤ 800) :
    Calls Try.prog 43 #[.pointer (some ⟨r, 0, none⟩)] w fun e w' => e = .returned (.tuple #[]) ∧ RunHas S0 w0 m a r rs (fqTry 1 5 s) w' := by
  obtain ⟨z0, z2, z4, z5, z6, z7⟩ := H.facts hop hl rfl rfl
  have HC := Lib.hid hc
  have HA := Lib.hid ha
  have HN := Lib.hid hn
  have HH := Lib.hid H
  clear hc H hn ha
  subst ho
  go_enter Try.func43, Try.ntmps43
  go_wp2_with fail
  refine (fq_try HH.out 1 5 HN.out HA.out HC.out).mono ?_
  rintro e w1 ⟨rfl, H1⟩
  go_wp2_with fail
  go_end0
  exact ⟨rfl, H1⟩

set_option maxHeartbeats 800000 in
theorem fq_line_3 {S0 : List Nat} {w0 w : World} {m a r : Nat} {rs : List Res} {s : Rn} (H : RunHas S0 w0 m a r rs s w) {o l : Int} (hop : s.f.op = o) (hl : s.f.line = l) (ho : o = 5) (hle : 1 < l) (hn : I64 s.n) (ha : 0 ≤ s.f.a ∧ s.f.a < 4294967296) (hc : s.notes.length ≤ 800) :
    Calls Try.prog 43 #[.pointer (some ⟨r, 0, none⟩)] w fun e w' => e = .returned (.tuple #[]) ∧ RunHas S0 w0 m a r rs (fqReader s) w' := by
  obtain ⟨z0, z2, z4, z5, z6, z7⟩ := H.facts hop hl rfl rfl
  have HC := Lib.hid hc
  have HA := Lib.hid ha
  have HN := Lib.hid hn
  have HH := Lib.hid H
  clear hc H hn ha
  subst ho
  go_enter Try.func43, Try.ntmps43
  go_wp2_with fail
  refine (fq_reader HH.out HN.out HA.out HC.out).mono ?_
  rintro e w1 ⟨rfl, H1⟩
  go_wp2_with fail
  go_end0
  exact ⟨rfl, H1⟩

set_option maxHeartbeats 800000 in
theorem fq_line_4 {S0 : List Nat} {w0 w : World} {m a r : Nat} {rs : List Res} {s : Rn} (H : RunHas S0 w0 m a r rs s w) {o l : Int} (hop : s.f.op = o) (hl : s.f.line = l) (ho : o = 3) (hle : l ≤ 4) (hn : I64 s.n) (ha : 0 ≤ s.f.a ∧ s.f.a < 4294967296) (hc : s.notes.length ≤ 800) :
    Calls Try.prog 43 #[.pointer (some ⟨r, 0, none⟩)] w fun e w' => e = .returned (.tuple #[]) ∧ RunHas S0 w0 m a r rs (fqEnter 2 s) w' := by
  obtain ⟨z0, z2, z4, z5, z6, z7⟩ := H.facts hop hl rfl rfl
  have HC := Lib.hid hc
  have HA := Lib.hid ha
  have HN := Lib.hid hn
  have HH := Lib.hid H
  clear hc H hn ha
  subst ho
  go_enter Try.func43, Try.ntmps43
  go_wp2_with fail
  refine (fq_enter HH.out 2 HN.out HA.out HC.out).mono ?_
  rintro e w1 ⟨rfl, H1⟩
  go_wp2_with fail
  go_end0
  exact ⟨rfl, H1⟩

set_option maxHeartbeats 800000 in
theorem fq_line_5 {S0 : List Nat} {w0 w : World} {m a r : Nat} {rs : List Res} {s : Rn} (H : RunHas S0 w0 m a r rs s w) {o l : Int} (hop : s.f.op = o) (hl : s.f.line = l) (ho : o = 3) (hle : 4 < l) (hn : I64 s.n) (ha : 0 ≤ s.f.a ∧ s.f.a < 4294967296) (hc : s.notes.length ≤ 800) :
    Calls Try.prog 43 #[.pointer (some ⟨r, 0, none⟩)] w fun e w' => e = .returned (.tuple #[]) ∧ RunHas S0 w0 m a r rs (fqWriter s) w' := by
  obtain ⟨z0, z2, z4, z5, z6, z7⟩ := H.facts hop hl rfl rfl
  have HC := Lib.hid hc
  have HA := Lib.hid ha
  have HN := Lib.hid hn
  have HH := Lib.hid H
  clear hc H hn ha
  subst ho
  go_enter Try.func43, Try.ntmps43
  go_wp2_with fail
  refine (fq_writer HH.out HN.out HA.out HC.out).mono ?_
  rintro e w1 ⟨rfl, H1⟩
  go_wp2_with fail
  go_end0
  exact ⟨rfl, H1⟩

set_option maxHeartbeats 800000 in
theorem fq_line_6 {S0 : List Nat} {w0 w : World} {m a r : Nat} {rs : List Res} {s : Rn} (H : RunHas S0 w0 m a r rs s w) {o l : Int} (hop : s.f.op = o) (hl : s.f.line = l) (ho : o = 4) (hn : I64 s.n) (ha : 0 ≤ s.f.a ∧ s.f.a < 4294967296) (hc : s.notes.length ≤ 800) :
    Calls Try.prog 43 #[.pointer (some ⟨r, 0, none⟩)] w fun e w' => e = .returned (.tuple #[]) ∧ RunHas S0 w0 m a r rs (fqGive 0 true [7, 8] s) w' := by
  obtain ⟨z0, z2, z4, z5, z6, z7⟩ := H.facts hop hl rfl rfl
  have HC := Lib.hid hc
  have HA := Lib.hid ha
  have HN := Lib.hid hn
  have HH := Lib.hid H
  clear hc H hn ha
  subst ho
  go_enter Try.func43, Try.ntmps43
  go_wp2_with fail
  refine (fq_give 0 true (nl := [7, 8]) rfl (by decide) (by decide) (HH.out.box rfl _ _) HN.out HA.out HC.out).mono ?_
  rintro e w7 ⟨rfl, H7⟩
  go_wp2_with fail
  go_end0
  exact ⟨rfl, H7.unbox⟩

set_option maxHeartbeats 800000 in
theorem fq_line_7 {S0 : List Nat} {w0 w : World} {m a r : Nat} {rs : List Res} {s : Rn} (H : RunHas S0 w0 m a r rs s w) {o l : Int} (hop : s.f.op = o) (hl : s.f.line = l) (ho : o = 6) (hle : l ≤ 1) (hn : I64 s.n) (ha : 0 ≤ s.f.a ∧ s.f.a < 4294967296) (hc : s.notes.length ≤ 800) :
    Calls Try.prog 43 #[.pointer (some ⟨r, 0, none⟩)] w fun e w' => e = .returned (.tuple #[]) ∧ RunHas S0 w0 m a r rs (fqTry 2 2 s) w' := by
  obtain ⟨z0, z2, z4, z5, z6, z7⟩ := H.facts hop hl rfl rfl
  have HC := Lib.hid hc
  have HA := Lib.hid ha
  have HN := Lib.hid hn
  have HH := Lib.hid H
  clear hc H hn ha
  subst ho
  go_enter Try.func43, Try.ntmps43
  go_wp2_with fail
  refine (fq_try HH.out 2 2 HN.out HA.out HC.out).mono ?_
  rintro e w1 ⟨rfl, H1⟩
  go_wp2_with fail
  go_end0
  exact ⟨rfl, H1⟩

set_option maxHeartbeats 800000 in
theorem fq_line_8 {S0 : List Nat} {w0 w : World} {m a r : Nat} {rs : List Res} {s : Rn} (H : RunHas S0 w0 m a r rs s w) {o l : Int} (hop : s.f.op = o) (hl : s.f.line = l) (ho : o = 6) (hle : 1 < l) (hn : I64 s.n) (ha : 0 ≤ s.f.a ∧ s.f.a < 4294967296) (hc : s.notes.length ≤ 800) :
    Calls Try.prog 43 #[.pointer (some ⟨r, 0, none⟩)] w fun e w' => e = .returned (.tuple #[]) ∧ RunHas S0 w0 m a r rs (fqDecide s) w' := by
  obtain ⟨z0, z2, z4, z5, z6, z7⟩ := H.facts hop hl rfl rfl
  have HC := Lib.hid hc
  have HA := Lib.hid ha
  have HN := Lib.hid hn
  have HH := Lib.hid H
  clear hc H hn ha
  subst ho
  go_enter Try.func43, Try.ntmps43
  go_wp2_with fail
  refine (fq_decide HH.out HN.out HA.out HC.out).mono ?_
  rintro e w1 ⟨rfl, H1⟩
  go_wp2_with fail
  go_end0
  exact ⟨rfl, H1⟩

set_option maxHeartbeats 800000 in
theorem fq_line_9 {S0 : List Nat} {w0 w : World} {m a r : Nat} {rs : List Res} {s : Rn} (H : RunHas S0 w0 m a r rs s w) {o l : Int} (hop : s.f.op = o) (hl : s.f.line = l) (ho : o = 7) (hle : l ≤ 1) (hn : I64 s.n) (ha : 0 ≤ s.f.a ∧ s.f.a < 4294967296) (hc : s.notes.length ≤ 800) :
    Calls Try.prog 43 #[.pointer (some ⟨r, 0, none⟩)] w fun e w' => e = .returned (.tuple #[]) ∧ RunHas S0 w0 m a r rs (fqTry 2 2 s) w' := by
  obtain ⟨z0, z2, z4, z5, z6, z7⟩ := H.facts hop hl rfl rfl
  have HC := Lib.hid hc
  have HA := Lib.hid ha
  have HN := Lib.hid hn
  have HH := Lib.hid H
  clear hc H hn ha
  subst ho
  go_enter Try.func43, Try.ntmps43
  go_wp2_with fail
  refine (fq_try HH.out 2 2 HN.out HA.out HC.out).mono ?_
  rintro e w1 ⟨rfl, H1⟩
  go_wp2_with fail
  go_end0
  exact ⟨rfl, H1⟩

set_option maxHeartbeats 800000 in
theorem fq_line_10 {S0 : List Nat} {w0 w : World} {m a r : Nat} {rs : List Res} {s : Rn} (H : RunHas S0 w0 m a r rs s w) {o l : Int} (hop : s.f.op = o) (hl : s.f.line = l) (ho : o = 7) (hle : 1 < l) (hn : I64 s.n) (ha : 0 ≤ s.f.a ∧ s.f.a < 4294967296) (hc : s.notes.length ≤ 800) :
    Calls Try.prog 43 #[.pointer (some ⟨r, 0, none⟩)] w fun e w' => e = .returned (.tuple #[]) ∧ RunHas S0 w0 m a r rs (fqDecide s) w' := by
  obtain ⟨z0, z2, z4, z5, z6, z7⟩ := H.facts hop hl rfl rfl
  have HC := Lib.hid hc
  have HA := Lib.hid ha
  have HN := Lib.hid hn
  have HH := Lib.hid H
  clear hc H hn ha
  subst ho
  go_enter Try.func43, Try.ntmps43
  go_wp2_with fail
  refine (fq_decide HH.out HN.out HA.out HC.out).mono ?_
  rintro e w1 ⟨rfl, H1⟩
  go_wp2_with fail
  go_end0
  exact ⟨rfl, H1⟩

set_option maxHeartbeats 800000 in
theorem fq_line_11 {S0 : List Nat} {w0 w : World} {m a r : Nat} {rs : List Res} {s : Rn} (H : RunHas S0 w0 m a r rs s w) {o l : Int} (hop : s.f.op = o) (hl : s.f.line = l) (k1 : ¬ o = 1) (k5 : ¬ o = 5) (k3 : ¬ o = 3) (k4 : ¬ o = 4) (k6 : ¬ o = 6) (k7 : ¬ o = 7) (hn : I64 s.n) (ha : 0 ≤ s.f.a ∧ s.f.a < 4294967296) (hc : s.notes.length ≤ 800) :
    Calls Try.prog 43 #[.pointer (some ⟨r, 0, none⟩)] w fun e w' => e = .returned (.tuple #[]) ∧ RunHas S0 w0 m a r rs (fqOthers s) w' := by
  obtain ⟨z0, z2, z4, z5, z6, z7⟩ := H.facts hop hl rfl rfl
  have HC := Lib.hid hc
  have HA := Lib.hid ha
  have HN := Lib.hid hn
  have HH := Lib.hid H
  clear hc H hn ha
  go_enter Try.func43, Try.ntmps43
  go_wp2_with fail
  refine (fq_others HH.out HN.out HA.out HC.out).mono ?_
  rintro e w1 ⟨rfl, H1⟩
  go_wp2_with fail
  go_end0
  exact ⟨rfl, H1⟩

def fqA (s : Rn) : Rn :=
  if s.f.op = 1 then (if s.f.line ≤ 4 then fqEnter 1 s else fqReader s)
  else if s.f.op = 5 then (if s.f.line ≤ 1 then fqTry 1 5 s else fqReader s)
  else if s.f.op = 3 then (if s.f.line ≤ 4 then fqEnter 2 s else fqWriter s)
  else if s.f.op = 4 then fqGive 0 true [7, 8] s
  else if s.f.op = 6 then (if s.f.line ≤ 1 then fqTry 2 2 s else fqDecide s)
  else if s.f.op = 7 then (if s.f.line ≤ 1 then fqTry 2 2 s else fqDecide s)
  else fqOthers s
theorem fq_lines {S0 : List Nat} {w0 w : World} {m a r : Nat} {rs : List Res} {s : Rn} (H : RunHas S0 w0 m a r rs s w) (hn : I64 s.n) (ha : 0 ≤ s.f.a ∧ s.f.a < 4294967296) (hc : s.notes.length ≤ 800) : Calls Try.prog 43 #[.pointer (some ⟨r, 0, none⟩)] w fun e w' => e = .returned (.tuple #[]) ∧ RunHas S0 w0 m a r rs (fqA s) w' := by
  unfold fqA
  split
  · split
    · exact fq_line_0 H rfl rfl (by assumption) (by assumption) hn ha hc
    · exact fq_line_1 H rfl rfl (by assumption) (by omega) hn ha hc
  split
  · split
    · exact fq_line_2 H rfl rfl (by assumption) (by assumption) hn ha hc
    · exact fq_line_3 H rfl rfl (by assumption) (by omega) hn ha hc
  split
  · split
    · exact fq_line_4 H rfl rfl (by assumption) (by assumption) hn ha hc
    · exact fq_line_5 H rfl rfl (by assumption) (by omega) hn ha hc
  split
  · exact fq_line_6 H rfl rfl (by assumption) hn ha hc
  split
  · split
    · exact fq_line_7 H rfl rfl (by assumption) (by assumption) hn ha hc
    · exact fq_line_8 H rfl rfl (by assumption) (by omega) hn ha hc
  split
  · split
    · exact fq_line_9 H rfl rfl (by assumption) (by assumption) hn ha hc
    · exact fq_line_10 H rfl rfl (by assumption) (by omega) hn ha hc
  · exact fq_line_11 H rfl rfl (by assumption) (by assumption) (by assumption) (by assumption) (by assumption) (by assumption) hn ha hc
theorem fq_lines_nil (w : World) : Calls Try.prog 43 #[.pointer none] w fun e w' => e = .returned (.tuple #[]) ∧ w = w' := by
  go_enter Try.func43, Try.ntmps43
  go_wp2
  (try simp only [Exit.inBlock, Exit.then]); refine bodyPost_ret (results_none rfl _ _ _) rfl ?_
  exact ⟨rfl, rfl⟩
end Go.Proofs.Ytlndihdlodempaa.Z

/- The document's lines of the fair queue. Written by genxfq.py. -/
set_option linter.unusedVariables false
set_option linter.unusedSimpArgs false
namespace Go.Proofs.Ytlndihdlodempaa.Z
open Go.RowKit

attribute [local go_sem ↓] Go.wp_at_zero Go.wp_at_succ

theorem xf_give {S0 : List Nat} {w0 w : World} {p : Option Addr} {g cap x : Nat} {rs : List Res} {s : Rn} (q : Int) (ok : Bool) {gg nn c : Nat} {nl : List Int} (hnl : nl.length = nn) (hq : 0 ≤ q ∧ q ≤ 100) (hl : nl.length ≤ 10) (H : XHas S0 w0 p g cap x (.blk gg (i64s nl).toArray :: rs) s w) (hI : I64 s.f.line) (ha : 0 ≤ s.f.a ∧ s.f.a < 4294967296) (hc : s.notes.length ≤ 800) :
    Calls Try.prog 121 #[.pointer (some ⟨x, 0, none⟩), .int .i64 q, .bool ok, .slice (some ⟨gg, 0, none⟩) nn c] w fun e w' => e = .returned (.tuple #[]) ∧ XHas S0 w0 p g cap x (.blk gg (i64s nl).toArray :: rs) (fqGive q ok nl s) w' := by
  have he := xm_give H 0 q (by omega) (c := c) hnl (fun W s' H => by have := rd_blk H.first; rw [hnl] at this; exact this) (by omega) hI ha
  unfold fqGive
  generalize mxGive 0 q nl s = R at he ⊢
  obtain ⟨b, s1⟩ := R
  have HE := Lib.hid he
  clear he H hc hI ha
  cases b with
  | true =>
    simp only [if_true] at HE ⊢
    go_enter Try.func121, Try.ntmps121
    go_wp2_with fail
    refine (HE.out).mono ?_
    rintro e w1 ⟨rfl, H1⟩
    go_wp2_with fail
    refine (xn_end H1 ok).mono ?_
    rintro e w2 ⟨rfl, H2⟩
    go_wp2_with fail
    go_end0
    exact ⟨rfl, H2⟩
  | false =>
    simp only [Bool.false_eq_true, if_false] at HE ⊢
    go_enter Try.func121, Try.ntmps121
    go_wp2_with fail
    refine (HE.out).mono ?_
    rintro e w1 ⟨rfl, H1⟩
    go_wp2_with fail
    go_end0
    exact ⟨rfl, H1⟩

set_option maxHeartbeats 1600000 in
set_option maxRecDepth 100000 in
theorem xf_enter1 {S0 : List Nat} {w0 w : World} {p : Option Addr} {g cap x : Nat} {rs : List Res} {s : Rn} (H : XHas S0 w0 p g cap x rs s w) (hI : I64 s.f.line) (ha : 0 ≤ s.f.a ∧ s.f.a < 4294967296) (hc : s.notes.length ≤ 800) {l : Int} (hop : s.f.op = 1) (hl : s.f.line = l) (h1 : decide (0 ≤ l) = true) (h2 : decide (l ≤ 4) = true) :
    Calls Try.prog 44 #[.pointer (some ⟨x, 0, none⟩)] w fun e w' => e = .returned (.tuple #[]) ∧ XHas S0 w0 p g cap x rs (fqEnter 1 s) w' := by
  obtain ⟨z0, z2, z4, z5, z6, z7⟩ := H.facts hop hl rfl rfl
  have HC := Lib.hid hc
  have HA := Lib.hid ha
  have HI := Lib.hid hI
  have HH := Lib.hid H
  clear hc H ha hI
  have he := fun W (H : XHas S0 w0 p g cap x rs s W) => xm_enter H 0 1 HA.out (by have := HC.out; omega)
  unfold fqEnter
  generalize mxEnter 0 1 s = R at he ⊢
  obtain ⟨b, s1⟩ := R
  have HE := Lib.hid he
  clear he
  cases b with
  | true =>
    simp only [if_true] at HE ⊢
    go_enter Try.func44, Try.ntmps44
    go_wp2_with fail
    go_quiet (fail)
    have HW := HH.out.drewN nq
    clear z0 z2 z4 z5 z6 z7
    generalize w.drewN nq = W at HW ⊢
    obtain ⟨z0, z2, z4, z5, z6, z7⟩ := HW.facts hop hl rfl rfl
    go_wp2_with fail
    refine (HE.out _ HW).mono ?_
    rintro e w1 ⟨rfl, H1⟩
    obtain ⟨x0, x2, x4, x5, x6, x7⟩ := H1.facts rfl rfl rfl rfl
    go_wp2_with fail
    first | go_end0 | ((try simp only [Exit.inBlock, Exit.then]); refine bodyPost_ret (results_none rfl _ _ _) rfl ?_)
    exact ⟨rfl, (H1.goto 5)⟩
  | false =>
    simp only [Bool.false_eq_true, if_false] at HE ⊢
    go_enter Try.func44, Try.ntmps44
    go_wp2_with fail
    go_quiet (fail)
    have HW := HH.out.drewN nq
    clear z0 z2 z4 z5 z6 z7
    generalize w.drewN nq = W at HW ⊢
    obtain ⟨z0, z2, z4, z5, z6, z7⟩ := HW.facts hop hl rfl rfl
    go_wp2_with fail
    refine (HE.out _ HW).mono ?_
    rintro e w1 ⟨rfl, H1⟩
    obtain ⟨x0, x2, x4, x5, x6, x7⟩ := H1.facts rfl rfl rfl rfl
    go_wp2_with fail
    first | go_end0 | ((try simp only [Exit.inBlock, Exit.then]); refine bodyPost_ret (results_none rfl _ _ _) rfl ?_)
    exact ⟨rfl, H1⟩

set_option maxHeartbeats 1600000 in
set_option maxRecDepth 100000 in
theorem xf_enter3 {S0 : List Nat} {w0 w : World} {p : Option Addr} {g cap x : Nat} {rs : List Res} {s : Rn} (H : XHas S0 w0 p g cap x rs s w) (hI : I64 s.f.line) (ha : 0 ≤ s.f.a ∧ s.f.a < 4294967296) (hc : s.notes.length ≤ 800) {l : Int} (hop : s.f.op = 3) (hl : s.f.line = l) (h1 : decide (0 ≤ l) = true) (h2 : decide (l ≤ 4) = true) :
    Calls Try.prog 44 #[.pointer (some ⟨x, 0, none⟩)] w fun e w' => e = .returned (.tuple #[]) ∧ XHas S0 w0 p g cap x rs (fqEnter 2 s) w' := by
  obtain ⟨z0, z2, z4, z5, z6, z7⟩ := H.facts hop hl rfl rfl
  have HC := Lib.hid hc
  have HA := Lib.hid ha
  have HI := Lib.hid hI
  have HH := Lib.hid H
  clear hc H ha hI
  have he := fun W (H : XHas S0 w0 p g cap x rs s W) => xm_enter H 0 2 HA.out (by have := HC.out; omega)
  unfold fqEnter
  generalize mxEnter 0 2 s = R at he ⊢
  obtain ⟨b, s1⟩ := R
  have HE := Lib.hid he
  clear he
  cases b with
  | true =>
    simp only [if_true] at HE ⊢
    go_enter Try.func44, Try.ntmps44
    go_wp2_with fail
    go_quiet (fail)
    have HW := HH.out.drewN nq
    clear z0 z2 z4 z5 z6 z7
    generalize w.drewN nq = W at HW ⊢
    obtain ⟨z0, z2, z4, z5, z6, z7⟩ := HW.facts hop hl rfl rfl
    go_wp2_with fail
    refine (HE.out _ HW).mono ?_
    rintro e w1 ⟨rfl, H1⟩
    obtain ⟨x0, x2, x4, x5, x6, x7⟩ := H1.facts rfl rfl rfl rfl
    go_wp2_with fail
    first | go_end0 | ((try simp only [Exit.inBlock, Exit.then]); refine bodyPost_ret (results_none rfl _ _ _) rfl ?_)
    exact ⟨rfl, (H1.goto 5)⟩
  | false =>
    simp only [Bool.false_eq_true, if_false] at HE ⊢
    go_enter Try.func44, Try.ntmps44
    go_wp2_with fail
    go_quiet (fail)
    have HW := HH.out.drewN nq
    clear z0 z2 z4 z5 z6 z7
    generalize w.drewN nq = W at HW ⊢
    obtain ⟨z0, z2, z4, z5, z6, z7⟩ := HW.facts hop hl rfl rfl
    go_wp2_with fail
    refine (HE.out _ HW).mono ?_
    rintro e w1 ⟨rfl, H1⟩
    obtain ⟨x0, x2, x4, x5, x6, x7⟩ := H1.facts rfl rfl rfl rfl
    go_wp2_with fail
    first | go_end0 | ((try simp only [Exit.inBlock, Exit.then]); refine bodyPost_ret (results_none rfl _ _ _) rfl ?_)
    exact ⟨rfl, H1⟩

set_option maxHeartbeats 1600000 in
set_option maxRecDepth 100000 in
theorem xf_try5 {S0 : List Nat} {w0 w : World} {p : Option Addr} {g cap x : Nat} {rs : List Res} {s : Rn} (H : XHas S0 w0 p g cap x rs s w) (hI : I64 s.f.line) (ha : 0 ≤ s.f.a ∧ s.f.a < 4294967296) (hc : s.notes.length ≤ 800) {l : Int} (hop : s.f.op = 5) (hl : s.f.line = l) (h1 : decide (0 ≤ l) = true) (h2 : decide (l ≤ 1) = true) :
    Calls Try.prog 44 #[.pointer (some ⟨x, 0, none⟩)] w fun e w' => e = .returned (.tuple #[]) ∧ XHas S0 w0 p g cap x rs (fqTry 1 5 s) w' := by
  obtain ⟨z0, z2, z4, z5, z6, z7⟩ := H.facts hop hl rfl rfl
  have HC := Lib.hid hc
  have HA := Lib.hid ha
  have HI := Lib.hid hI
  have HH := Lib.hid H
  clear hc H ha hI
  have he := fun W (H : XHas S0 w0 p g cap x rs s W) => xm_try H 0 0 (by decide) HA.out
  rw [xmTry_fq 0 s HI.out] at he
  have hnt := mxTry_notes 0 s
  unfold fqTry
  generalize mxTry 0 s = R at he hnt ⊢
  obtain ⟨d, i, s1⟩ := R
  have HE := Lib.hid he
  have HNT := Lib.hid hnt
  clear he hnt
  cases d with
  | true =>
    cases i with
    | true =>
      simp only [if_true] at HE ⊢
      go_enter Try.func44, Try.ntmps44
      go_wp2_with fail
      go_quiet (fail)
      have HW := HH.out.drewN nq
      clear z0 z2 z4 z5 z6 z7
      generalize w.drewN nq = W at HW ⊢
      obtain ⟨z0, z2, z4, z5, z6, z7⟩ := HW.facts hop hl rfl rfl
      go_wp2_with fail
      refine (HE.out _ HW).mono ?_
      rintro e w1 ⟨rfl, H1⟩
      go_wp2_with fail
      refine (x_note H1 (by have := HNT.out; (try simp only at this); rw [this]; exact Nat.le_trans HC.out (by decide)) 2 1).mono ?_
      rintro e w2 ⟨rfl, H2⟩
      obtain ⟨x0, x2, x4, x5, x6, x7⟩ := H2.facts rfl rfl rfl rfl
      go_wp2_with fail
      first | go_end0 | ((try simp only [Exit.inBlock, Exit.then]); refine bodyPost_ret (results_none rfl _ _ _) rfl ?_)
      exact ⟨rfl, (H2.goto 5)⟩
    | false =>
      simp only [if_true, Bool.false_eq_true, if_false] at HE ⊢
      go_enter Try.func44, Try.ntmps44
      go_wp2_with fail
      go_quiet (fail)
      have HW := HH.out.drewN nq
      clear z0 z2 z4 z5 z6 z7
      generalize w.drewN nq = W at HW ⊢
      obtain ⟨z0, z2, z4, z5, z6, z7⟩ := HW.facts hop hl rfl rfl
      go_wp2_with fail
      refine (HE.out _ HW).mono ?_
      rintro e w1 ⟨rfl, H1⟩
      go_wp2_with fail
      refine (x_note H1 (by have := HNT.out; (try simp only at this); rw [this]; exact Nat.le_trans HC.out (by decide)) 5 0).mono ?_
      rintro e w2 ⟨rfl, H2⟩
      go_wp2_with fail
      refine (xn_end H2 false).mono ?_
      rintro e w3 ⟨rfl, H3⟩
      go_wp2_with fail
      first | go_end0 | ((try simp only [Exit.inBlock, Exit.then]); refine bodyPost_ret (results_none rfl _ _ _) rfl ?_)
      exact ⟨rfl, H3⟩
  | false =>
      simp only [Bool.false_eq_true, if_false] at HE ⊢
      go_enter Try.func44, Try.ntmps44
      go_wp2_with fail
      go_quiet (fail)
      have HW := HH.out.drewN nq
      clear z0 z2 z4 z5 z6 z7
      generalize w.drewN nq = W at HW ⊢
      obtain ⟨z0, z2, z4, z5, z6, z7⟩ := HW.facts hop hl rfl rfl
      go_wp2_with fail
      refine (HE.out _ HW).mono ?_
      rintro e w1 ⟨rfl, H1⟩
      go_wp2_with fail
      first | go_end0 | ((try simp only [Exit.inBlock, Exit.then]); refine bodyPost_ret (results_none rfl _ _ _) rfl ?_)
      exact ⟨rfl, H1⟩

set_option maxHeartbeats 1600000 in
set_option maxRecDepth 100000 in
theorem xf_try6 {S0 : List Nat} {w0 w : World} {p : Option Addr} {g cap x : Nat} {rs : List Res} {s : Rn} (H : XHas S0 w0 p g cap x rs s w) (hI : I64 s.f.line) (ha : 0 ≤ s.f.a ∧ s.f.a < 4294967296) (hc : s.notes.length ≤ 800) {l : Int} (hop : s.f.op = 6) (hl : s.f.line = l) (h1 : decide (0 ≤ l) = true) (h2 : decide (l ≤ 1) = true) :
    Calls Try.prog 44 #[.pointer (some ⟨x, 0, none⟩)] w fun e w' => e = .returned (.tuple #[]) ∧ XHas S0 w0 p g cap x rs (fqTry 2 2 s) w' := by
  obtain ⟨z0, z2, z4, z5, z6, z7⟩ := H.facts hop hl rfl rfl
  have HC := Lib.hid hc
  have HA := Lib.hid ha
  have HI := Lib.hid hI
  have HH := Lib.hid H
  clear hc H ha hI
  have he := fun W (H : XHas S0 w0 p g cap x rs s W) => xm_try H 0 0 (by decide) HA.out
  rw [xmTry_fq 0 s HI.out] at he
  have hnt := mxTry_notes 0 s
  unfold fqTry
  generalize mxTry 0 s = R at he hnt ⊢
  obtain ⟨d, i, s1⟩ := R
  have HE := Lib.hid he
  have HNT := Lib.hid hnt
  clear he hnt
  cases d with
  | true =>
    cases i with
    | true =>
      simp only [if_true] at HE ⊢
      go_enter Try.func44, Try.ntmps44
      go_wp2_with fail
      go_quiet (fail)
      have HW := HH.out.drewN nq
      clear z0 z2 z4 z5 z6 z7
      generalize w.drewN nq = W at HW ⊢
      obtain ⟨z0, z2, z4, z5, z6, z7⟩ := HW.facts hop hl rfl rfl
      go_wp2_with fail
      refine (HE.out _ HW).mono ?_
      rintro e w1 ⟨rfl, H1⟩
      go_wp2_with fail
      refine (x_note H1 (by have := HNT.out; (try simp only at this); rw [this]; exact Nat.le_trans HC.out (by decide)) 2 2).mono ?_
      rintro e w2 ⟨rfl, H2⟩
      obtain ⟨x0, x2, x4, x5, x6, x7⟩ := H2.facts rfl rfl rfl rfl
      go_wp2_with fail
      first | go_end0 | ((try simp only [Exit.inBlock, Exit.then]); refine bodyPost_ret (results_none rfl _ _ _) rfl ?_)
      exact ⟨rfl, (H2.goto 2)⟩
    | false =>
      simp only [if_true, Bool.false_eq_true, if_false] at HE ⊢
      go_enter Try.func44, Try.ntmps44
      go_wp2_with fail
      go_quiet (fail)
      have HW := HH.out.drewN nq
      clear z0 z2 z4 z5 z6 z7
      generalize w.drewN nq = W at HW ⊢
      obtain ⟨z0, z2, z4, z5, z6, z7⟩ := HW.facts hop hl rfl rfl
      go_wp2_with fail
      refine (HE.out _ HW).mono ?_
      rintro e w1 ⟨rfl, H1⟩
      go_wp2_with fail
      refine (x_note H1 (by have := HNT.out; (try simp only at this); rw [this]; exact Nat.le_trans HC.out (by decide)) 5 0).mono ?_
      rintro e w2 ⟨rfl, H2⟩
      go_wp2_with fail
      refine (xn_end H2 false).mono ?_
      rintro e w3 ⟨rfl, H3⟩
      go_wp2_with fail
      first | go_end0 | ((try simp only [Exit.inBlock, Exit.then]); refine bodyPost_ret (results_none rfl _ _ _) rfl ?_)
      exact ⟨rfl, H3⟩
  | false =>
      simp only [Bool.false_eq_true, if_false] at HE ⊢
      go_enter Try.func44, Try.ntmps44
      go_wp2_with fail
      go_quiet (fail)
      have HW := HH.out.drewN nq
      clear z0 z2 z4 z5 z6 z7
      generalize w.drewN nq = W at HW ⊢
      obtain ⟨z0, z2, z4, z5, z6, z7⟩ := HW.facts hop hl rfl rfl
      go_wp2_with fail
      refine (HE.out _ HW).mono ?_
      rintro e w1 ⟨rfl, H1⟩
      go_wp2_with fail
      first | go_end0 | ((try simp only [Exit.inBlock, Exit.then]); refine bodyPost_ret (results_none rfl _ _ _) rfl ?_)
      exact ⟨rfl, H1⟩

set_option maxHeartbeats 1600000 in
set_option maxRecDepth 100000 in
theorem xf_try7 {S0 : List Nat} {w0 w : World} {p : Option Addr} {g cap x : Nat} {rs : List Res} {s : Rn} (H : XHas S0 w0 p g cap x rs s w) (hI : I64 s.f.line) (ha : 0 ≤ s.f.a ∧ s.f.a < 4294967296) (hc : s.notes.length ≤ 800) {l : Int} (hop : s.f.op = 7) (hl : s.f.line = l) (h1 : decide (0 ≤ l) = true) (h2 : decide (l ≤ 1) = true) :
    Calls Try.prog 44 #[.pointer (some ⟨x, 0, none⟩)] w fun e w' => e = .returned (.tuple #[]) ∧ XHas S0 w0 p g cap x rs (fqTry 2 2 s) w' := by
  obtain ⟨z0, z2, z4, z5, z6, z7⟩ := H.facts hop hl rfl rfl
  have HC := Lib.hid hc
  have HA := Lib.hid ha
  have HI := Lib.hid hI
  have HH := Lib.hid H
  clear hc H ha hI
  have he := fun W (H : XHas S0 w0 p g cap x rs s W) => xm_try H 0 0 (by decide) HA.out
  rw [xmTry_fq 0 s HI.out] at he
  have hnt := mxTry_notes 0 s
  unfold fqTry
  generalize mxTry 0 s = R at he hnt ⊢
  obtain ⟨d, i, s1⟩ := R
  have HE := Lib.hid he
  have HNT := Lib.hid hnt
  clear he hnt
  cases d with
  | true =>
    cases i with
    | true =>
      simp only [if_true] at HE ⊢
      go_enter Try.func44, Try.ntmps44
      go_wp2_with fail
      go_quiet (fail)
      have HW := HH.out.drewN nq
      clear z0 z2 z4 z5 z6 z7
      generalize w.drewN nq = W at HW ⊢
      obtain ⟨z0, z2, z4, z5, z6, z7⟩ := HW.facts hop hl rfl rfl
      go_wp2_with fail
      refine (HE.out _ HW).mono ?_
      rintro e w1 ⟨rfl, H1⟩
      go_wp2_with fail
      refine (x_note H1 (by have := HNT.out; (try simp only at this); rw [this]; exact Nat.le_trans HC.out (by decide)) 2 2).mono ?_
      rintro e w2 ⟨rfl, H2⟩
      obtain ⟨x0, x2, x4, x5, x6, x7⟩ := H2.facts rfl rfl rfl rfl
      go_wp2_with fail
      first | go_end0 | ((try simp only [Exit.inBlock, Exit.then]); refine bodyPost_ret (results_none rfl _ _ _) rfl ?_)
      exact ⟨rfl, (H2.goto 2)⟩
    | false =>
      simp only [if_true, Bool.false_eq_true, if_false] at HE ⊢
      go_enter Try.func44, Try.ntmps44
      go_wp2_with fail
      go_quiet (fail)
      have HW := HH.out.drewN nq
      clear z0 z2 z4 z5 z6 z7
      generalize w.drewN nq = W at HW ⊢
      obtain ⟨z0, z2, z4, z5, z6, z7⟩ := HW.facts hop hl rfl rfl
      go_wp2_with fail
      refine (HE.out _ HW).mono ?_
      rintro e w1 ⟨rfl, H1⟩
      go_wp2_with fail
      refine (x_note H1 (by have := HNT.out; (try simp only at this); rw [this]; exact Nat.le_trans HC.out (by decide)) 5 0).mono ?_
      rintro e w2 ⟨rfl, H2⟩
      go_wp2_with fail
      refine (xn_end H2 false).mono ?_
      rintro e w3 ⟨rfl, H3⟩
      go_wp2_with fail
      first | go_end0 | ((try simp only [Exit.inBlock, Exit.then]); refine bodyPost_ret (results_none rfl _ _ _) rfl ?_)
      exact ⟨rfl, H3⟩
  | false =>
      simp only [Bool.false_eq_true, if_false] at HE ⊢
      go_enter Try.func44, Try.ntmps44
      go_wp2_with fail
      go_quiet (fail)
      have HW := HH.out.drewN nq
      clear z0 z2 z4 z5 z6 z7
      generalize w.drewN nq = W at HW ⊢
      obtain ⟨z0, z2, z4, z5, z6, z7⟩ := HW.facts hop hl rfl rfl
      go_wp2_with fail
      refine (HE.out _ HW).mono ?_
      rintro e w1 ⟨rfl, H1⟩
      go_wp2_with fail
      first | go_end0 | ((try simp only [Exit.inBlock, Exit.then]); refine bodyPost_ret (results_none rfl _ _ _) rfl ?_)
      exact ⟨rfl, H1⟩

set_option maxHeartbeats 1600000 in
set_option maxRecDepth 100000 in
theorem xf_r15 {S0 : List Nat} {w0 w : World} {p : Option Addr} {g cap x : Nat} {rs : List Res} {s : Rn} (H : XHas S0 w0 p g cap x rs s w) (hI : I64 s.f.line) (ha : 0 ≤ s.f.a ∧ s.f.a < 4294967296) (hc : s.notes.length ≤ 800) (hop : s.f.op = 1) (hl : s.f.line = 5) :
    Calls Try.prog 44 #[.pointer (some ⟨x, 0, none⟩)] w fun e w' => e = .returned (.tuple #[]) ∧ XHas S0 w0 p g cap x rs ((s.did (doA s.L ⟨3, 1, 1, 0, 0⟩)).goto 6) w' := by
  obtain ⟨z0, z2, z4, z5, z6, z7⟩ := H.facts hop hl rfl rfl
  have HC := Lib.hid hc
  have HA := Lib.hid ha
  have HI := Lib.hid hI
  have HH := Lib.hid H
  clear hc H ha hI
  go_enter Try.func44, Try.ntmps44
  go_wp2_with fail
  go_quiet (fail)
  have HW := HH.out.drewN nq
  clear z0 z2 z4 z5 z6 z7
  generalize w.drewN nq = W at HW ⊢
  obtain ⟨z0, z2, z4, z5, z6, z7⟩ := HW.facts hop hl rfl rfl
  go_wp2_with fail
  refine (xn_add HW 1 1 (by decide)).mono ?_
  rintro e w1 ⟨rfl, H1⟩
  obtain ⟨x0, x2, x4, x5, x6, x7⟩ := H1.facts hop hl rfl rfl
  go_wp2_with fail
  first | go_end0 | ((try simp only [Exit.inBlock, Exit.then]); refine bodyPost_ret (results_none rfl _ _ _) rfl ?_)
  exact ⟨rfl, (H1.goto 6)⟩

set_option maxHeartbeats 1600000 in
set_option maxRecDepth 100000 in
theorem xf_r55 {S0 : List Nat} {w0 w : World} {p : Option Addr} {g cap x : Nat} {rs : List Res} {s : Rn} (H : XHas S0 w0 p g cap x rs s w) (hI : I64 s.f.line) (ha : 0 ≤ s.f.a ∧ s.f.a < 4294967296) (hc : s.notes.length ≤ 800) (hop : s.f.op = 5) (hl : s.f.line = 5) :
    Calls Try.prog 44 #[.pointer (some ⟨x, 0, none⟩)] w fun e w' => e = .returned (.tuple #[]) ∧ XHas S0 w0 p g cap x rs ((s.did (doA s.L ⟨3, 1, 1, 0, 0⟩)).goto 6) w' := by
  obtain ⟨z0, z2, z4, z5, z6, z7⟩ := H.facts hop hl rfl rfl
  have HC := Lib.hid hc
  have HA := Lib.hid ha
  have HI := Lib.hid hI
  have HH := Lib.hid H
  clear hc H ha hI
  go_enter Try.func44, Try.ntmps44
  go_wp2_with fail
  go_quiet (fail)
  have HW := HH.out.drewN nq
  clear z0 z2 z4 z5 z6 z7
  generalize w.drewN nq = W at HW ⊢
  obtain ⟨z0, z2, z4, z5, z6, z7⟩ := HW.facts hop hl rfl rfl
  go_wp2_with fail
  refine (xn_add HW 1 1 (by decide)).mono ?_
  rintro e w1 ⟨rfl, H1⟩
  obtain ⟨x0, x2, x4, x5, x6, x7⟩ := H1.facts hop hl rfl rfl
  go_wp2_with fail
  first | go_end0 | ((try simp only [Exit.inBlock, Exit.then]); refine bodyPost_ret (results_none rfl _ _ _) rfl ?_)
  exact ⟨rfl, (H1.goto 6)⟩

set_option maxHeartbeats 1600000 in
set_option maxRecDepth 100000 in
theorem xf_u0 {S0 : List Nat} {w0 w : World} {p : Option Addr} {g cap x : Nat} {rs : List Res} {s : Rn} (H : XHas S0 w0 p g cap x rs s w) (hI : I64 s.f.line) (ha : 0 ≤ s.f.a ∧ s.f.a < 4294967296) (hc : s.notes.length ≤ 800) (hop : s.f.op = 2) (hl : s.f.line = 0) :
    Calls Try.prog 44 #[.pointer (some ⟨x, 0, none⟩)] w fun e w' => e = .returned (.tuple #[]) ∧ XHas S0 w0 p g cap x rs ((((s.did (doA s.L ⟨3, 1, 4294967295, 0, 0⟩)).note 6 0).wake 1).fin true) w' := by
  obtain ⟨z0, z2, z4, z5, z6, z7⟩ := H.facts hop hl rfl rfl
  have HC := Lib.hid hc
  have HA := Lib.hid ha
  have HI := Lib.hid hI
  have HH := Lib.hid H
  clear hc H ha hI
  go_enter Try.func44, Try.ntmps44
  go_wp2_with fail
  go_quiet (fail)
  have HW := HH.out.drewN nq
  clear z0 z2 z4 z5 z6 z7
  generalize w.drewN nq = W at HW ⊢
  obtain ⟨z0, z2, z4, z5, z6, z7⟩ := HW.facts hop hl rfl rfl
  go_wp2_with fail
  refine (xn_add HW 1 4294967295 (by decide)).mono ?_
  rintro e w1 ⟨rfl, H1⟩
  obtain ⟨x0, x2, x4, x5, x6, x7⟩ := H1.facts hop hl rfl rfl
  go_wp2_with fail
  refine (x_note H1 (by have := HC.out; first | exact Nat.le_trans this (by decide) | (simp [Rn.note, Rn.did, Rn.setA, Rn.setB, Rn.waited, Rn.goto, Rn.noted]; omega)) 6 0).mono ?_
  rintro e w2 ⟨rfl, H2⟩
  obtain ⟨x0, x2, x4, x5, x6, x7⟩ := H2.facts hop hl rfl rfl
  go_wp2_with fail
  refine (xn_wake H2 1).mono ?_
  rintro e w3 ⟨rfl, H3⟩
  obtain ⟨x0, x2, x4, x5, x6, x7⟩ := H3.facts hop hl rfl rfl
  go_wp2_with fail
  refine (xn_end H3 true).mono ?_
  rintro e w4 ⟨rfl, H4⟩
  obtain ⟨x0, x2, x4, x5, x6, x7⟩ := H4.facts hop hl rfl rfl
  go_wp2_with fail
  first | go_end0 | ((try simp only [Exit.inBlock, Exit.then]); refine bodyPost_ret (results_none rfl _ _ _) rfl ?_)
  exact ⟨rfl, H4⟩

end Go.Proofs.Ytlndihdlodempaa.Z

/- The document's lines of the fair queue: a writer, a try that is in. Written by genxfq.py. -/
set_option linter.unusedVariables false
set_option linter.unusedSimpArgs false
namespace Go.Proofs.Ytlndihdlodempaa.Z
open Go.RowKit

attribute [local go_sem ↓] Go.wp_at_zero Go.wp_at_succ

set_option maxHeartbeats 1600000 in
set_option maxRecDepth 100000 in
theorem xf_w5 {S0 : List Nat} {w0 w : World} {p : Option Addr} {g cap x : Nat} {rs : List Res} {s : Rn} (H : XHas S0 w0 p g cap x rs s w) (hI : I64 s.f.line) (ha : 0 ≤ s.f.a ∧ s.f.a < 4294967296) (hc : s.notes.length ≤ 800) (hop : s.f.op = 3) (hl : s.f.line = 5) :
    Calls Try.prog 44 #[.pointer (some ⟨x, 0, none⟩)] w fun e w' => e = .returned (.tuple #[]) ∧ XHas S0 w0 p g cap x rs ((let s1 := s.waited (waitA s.L s.n s.mode s.task s.f.st 1 (fun v => v == 0)); let s2 := if (waitA s.L s.n s.mode s.task s.f.st 1 (fun v => v == 0)).seen then s1.note 4 0 else s1; if (waitA s.L s.n s.mode s.task s.f.st 1 (fun v => v == 0)).done then s2.fin true else s2)) w' := by
  obtain ⟨z0, z2, z4, z5, z6, z7⟩ := H.facts hop hl rfl rfl
  have HC := Lib.hid hc
  have HA := Lib.hid ha
  have HI := Lib.hid hI
  have HH := Lib.hid H
  clear hc H ha hI
  have hwt := fun W (H : XHas S0 w0 p g cap x rs s W) => xn_wait H 1 0 4294967295 0
  rw [waitA_like (q := fun v => v == 0) HH.out.words_ (fun v hv => untilA_all _ hv)] at hwt
  (try dsimp only)
  cases hs : (waitA s.L s.n s.mode s.task s.f.st 1 (fun v => v == 0)).seen <;> cases hd : (waitA s.L s.n s.mode s.task s.f.st 1 (fun v => v == 0)).done <;> rw [hs, hd] at hwt <;> simp only [hs, if_true, Bool.false_eq_true, if_false] <;> (have HWT := Lib.hid hwt) <;> clear hwt hs hd
  · go_enter Try.func44, Try.ntmps44
    go_wp2_with fail
    go_quiet (fail)
    have HW := HH.out.drewN nq
    clear z0 z2 z4 z5 z6 z7
    generalize w.drewN nq = W at HW ⊢
    obtain ⟨z0, z2, z4, z5, z6, z7⟩ := HW.facts hop hl rfl rfl
    go_wp2_with fail
    refine (HWT.out _ HW).mono ?_
    rintro e w1 ⟨rfl, H1⟩
    obtain ⟨x0, x2, x4, x5, x6, x7⟩ := H1.facts hop hl rfl rfl
    go_wp2_with fail
    first | go_end0 | ((try simp only [Exit.inBlock, Exit.then]); refine bodyPost_ret (results_none rfl _ _ _) rfl ?_)
    exact ⟨rfl, H1⟩
  · go_enter Try.func44, Try.ntmps44
    go_wp2_with fail
    go_quiet (fail)
    have HW := HH.out.drewN nq
    clear z0 z2 z4 z5 z6 z7
    generalize w.drewN nq = W at HW ⊢
    obtain ⟨z0, z2, z4, z5, z6, z7⟩ := HW.facts hop hl rfl rfl
    go_wp2_with fail
    refine (HWT.out _ HW).mono ?_
    rintro e w1 ⟨rfl, H1⟩
    obtain ⟨x0, x2, x4, x5, x6, x7⟩ := H1.facts hop hl rfl rfl
    go_wp2_with fail
    refine (xn_end H1 true).mono ?_
    rintro e w2 ⟨rfl, H2⟩
    obtain ⟨x0, x2, x4, x5, x6, x7⟩ := H2.facts hop hl rfl rfl
    go_wp2_with fail
    first | go_end0 | ((try simp only [Exit.inBlock, Exit.then]); refine bodyPost_ret (results_none rfl _ _ _) rfl ?_)
    exact ⟨rfl, H2⟩
  · go_enter Try.func44, Try.ntmps44
    go_wp2_with fail
    go_quiet (fail)
    have HW := HH.out.drewN nq
    clear z0 z2 z4 z5 z6 z7
    generalize w.drewN nq = W at HW ⊢
    obtain ⟨z0, z2, z4, z5, z6, z7⟩ := HW.facts hop hl rfl rfl
    go_wp2_with fail
    refine (HWT.out _ HW).mono ?_
    rintro e w1 ⟨rfl, H1⟩
    obtain ⟨x0, x2, x4, x5, x6, x7⟩ := H1.facts hop hl rfl rfl
    go_wp2_with fail
    refine (x_note H1 (by have := HC.out; first | exact Nat.le_trans this (by decide) | (simp [Rn.note, Rn.did, Rn.setA, Rn.setB, Rn.waited, Rn.goto, Rn.noted]; omega)) 4 0).mono ?_
    rintro e w2 ⟨rfl, H2⟩
    obtain ⟨x0, x2, x4, x5, x6, x7⟩ := H2.facts hop hl rfl rfl
    go_wp2_with fail
    first | go_end0 | ((try simp only [Exit.inBlock, Exit.then]); refine bodyPost_ret (results_none rfl _ _ _) rfl ?_)
    exact ⟨rfl, H2⟩
  · go_enter Try.func44, Try.ntmps44
    go_wp2_with fail
    go_quiet (fail)
    have HW := HH.out.drewN nq
    clear z0 z2 z4 z5 z6 z7
    generalize w.drewN nq = W at HW ⊢
    obtain ⟨z0, z2, z4, z5, z6, z7⟩ := HW.facts hop hl rfl rfl
    go_wp2_with fail
    refine (HWT.out _ HW).mono ?_
    rintro e w1 ⟨rfl, H1⟩
    obtain ⟨x0, x2, x4, x5, x6, x7⟩ := H1.facts hop hl rfl rfl
    go_wp2_with fail
    refine (x_note H1 (by have := HC.out; first | exact Nat.le_trans this (by decide) | (simp [Rn.note, Rn.did, Rn.setA, Rn.setB, Rn.waited, Rn.goto, Rn.noted]; omega)) 4 0).mono ?_
    rintro e w2 ⟨rfl, H2⟩
    obtain ⟨x0, x2, x4, x5, x6, x7⟩ := H2.facts hop hl rfl rfl
    go_wp2_with fail
    refine (xn_end H2 true).mono ?_
    rintro e w3 ⟨rfl, H3⟩
    obtain ⟨x0, x2, x4, x5, x6, x7⟩ := H3.facts hop hl rfl rfl
    go_wp2_with fail
    first | go_end0 | ((try simp only [Exit.inBlock, Exit.then]); refine bodyPost_ret (results_none rfl _ _ _) rfl ?_)
    exact ⟨rfl, H3⟩

set_option maxHeartbeats 1600000 in
set_option maxRecDepth 100000 in
theorem xf_d62 {S0 : List Nat} {w0 w : World} {p : Option Addr} {g cap x : Nat} {rs : List Res} {s : Rn} (H : XHas S0 w0 p g cap x rs s w) (hI : I64 s.f.line) (ha : 0 ≤ s.f.a ∧ s.f.a < 4294967296) (hc : s.notes.length ≤ 800) (hop : s.f.op = 6) (hl : s.f.line = 2) :
    Calls Try.prog 44 #[.pointer (some ⟨x, 0, none⟩)] w fun e w' => e = .returned (.tuple #[]) ∧ XHas S0 w0 p g cap x rs (if (doA s.L ⟨1, 1, 0, 0, 0⟩).1.old = 0 then (((s.did (doA s.L ⟨1, 1, 0, 0, 0⟩)).setA (doA s.L ⟨1, 1, 0, 0, 0⟩).1.old).note 4 0).fin true else (((s.did (doA s.L ⟨1, 1, 0, 0, 0⟩)).setA (doA s.L ⟨1, 1, 0, 0, 0⟩).1.old).note 5 0).goto 6) w' := by
  obtain ⟨z0, z2, z4, z5, z6, z7⟩ := H.facts hop hl rfl rfl
  have HC := Lib.hid hc
  have HA := Lib.hid ha
  have HI := Lib.hid hI
  have HH := Lib.hid H
  clear hc H ha hI
  by_cases hz : (doA s.L ⟨1, 1, 0, 0, 0⟩).1.old = 0
  · simp only [if_pos hz]
    have hzb : ((doA s.L ⟨1, 1, 0, 0, 0⟩).1.old == 0) = true := by simpa using hz
    clear hz
    go_enter Try.func44, Try.ntmps44
    go_wp2_with fail
    go_quiet (fail)
    have HW := HH.out.drewN nq
    clear z0 z2 z4 z5 z6 z7
    generalize w.drewN nq = W at HW ⊢
    obtain ⟨z0, z2, z4, z5, z6, z7⟩ := HW.facts hop hl rfl rfl
    go_wp2_with fail
    refine (xn_load HW 1).mono ?_
    rintro e w1 ⟨rfl, H1⟩
    obtain ⟨x0, x2, x4, x5, x6, x7⟩ := H1.facts hop hl rfl rfl
    go_wp2_with fail
    refine (x_note (H1.setA (doA s.L ⟨1, 1, 0, 0, 0⟩).1.old) (by have := HC.out; first | exact Nat.le_trans this (by decide) | (simp [Rn.note, Rn.did, Rn.setA, Rn.setB, Rn.waited, Rn.goto, Rn.noted]; omega)) 4 0).mono ?_
    rintro e w2 ⟨rfl, H2⟩
    obtain ⟨x0, x2, x4, x5, x6, x7⟩ := H2.facts hop hl (y := (doA s.L ⟨1, 1, 0, 0, 0⟩).1.old) rfl rfl
    go_wp2_with fail
    refine (xn_end H2 true).mono ?_
    rintro e w3 ⟨rfl, H3⟩
    obtain ⟨x0, x2, x4, x5, x6, x7⟩ := H3.facts hop hl (y := (doA s.L ⟨1, 1, 0, 0, 0⟩).1.old) rfl rfl
    go_wp2_with fail
    first | go_end0 | ((try simp only [Exit.inBlock, Exit.then]); refine bodyPost_ret (results_none rfl _ _ _) rfl ?_)
    exact ⟨rfl, H3⟩
  · simp only [if_neg hz]
    have hzb : ((doA s.L ⟨1, 1, 0, 0, 0⟩).1.old == 0) = false := by simpa using hz
    clear hz
    go_enter Try.func44, Try.ntmps44
    go_wp2_with fail
    go_quiet (fail)
    have HW := HH.out.drewN nq
    clear z0 z2 z4 z5 z6 z7
    generalize w.drewN nq = W at HW ⊢
    obtain ⟨z0, z2, z4, z5, z6, z7⟩ := HW.facts hop hl rfl rfl
    go_wp2_with fail
    refine (xn_load HW 1).mono ?_
    rintro e w1 ⟨rfl, H1⟩
    obtain ⟨x0, x2, x4, x5, x6, x7⟩ := H1.facts hop hl rfl rfl
    go_wp2_with fail
    refine (x_note (H1.setA (doA s.L ⟨1, 1, 0, 0, 0⟩).1.old) (by have := HC.out; first | exact Nat.le_trans this (by decide) | (simp [Rn.note, Rn.did, Rn.setA, Rn.setB, Rn.waited, Rn.goto, Rn.noted]; omega)) 5 0).mono ?_
    rintro e w2 ⟨rfl, H2⟩
    obtain ⟨x0, x2, x4, x5, x6, x7⟩ := H2.facts hop hl (y := (doA s.L ⟨1, 1, 0, 0, 0⟩).1.old) rfl rfl
    go_wp2_with fail
    first | go_end0 | ((try simp only [Exit.inBlock, Exit.then]); refine bodyPost_ret (results_none rfl _ _ _) rfl ?_)
    exact ⟨rfl, (H2.goto 6)⟩

set_option maxHeartbeats 1600000 in
set_option maxRecDepth 100000 in
theorem xf_d72 {S0 : List Nat} {w0 w : World} {p : Option Addr} {g cap x : Nat} {rs : List Res} {s : Rn} (H : XHas S0 w0 p g cap x rs s w) (hI : I64 s.f.line) (ha : 0 ≤ s.f.a ∧ s.f.a < 4294967296) (hc : s.notes.length ≤ 800) (hop : s.f.op = 7) (hl : s.f.line = 2) :
    Calls Try.prog 44 #[.pointer (some ⟨x, 0, none⟩)] w fun e w' => e = .returned (.tuple #[]) ∧ XHas S0 w0 p g cap x rs (if (doA s.L ⟨1, 1, 0, 0, 0⟩).1.old = 1 then ((s.did (doA s.L ⟨1, 1, 0, 0, 0⟩)).setA (doA s.L ⟨1, 1, 0, 0, 0⟩).1.old).goto 3 else (((s.did (doA s.L ⟨1, 1, 0, 0, 0⟩)).setA (doA s.L ⟨1, 1, 0, 0, 0⟩).1.old).note 5 0).goto 6) w' := by
  obtain ⟨z0, z2, z4, z5, z6, z7⟩ := H.facts hop hl rfl rfl
  have HC := Lib.hid hc
  have HA := Lib.hid ha
  have HI := Lib.hid hI
  have HH := Lib.hid H
  clear hc H ha hI
  by_cases hz : (doA s.L ⟨1, 1, 0, 0, 0⟩).1.old = 1
  · simp only [if_pos hz]
    have hzb : ((doA s.L ⟨1, 1, 0, 0, 0⟩).1.old == 1) = true := by simpa using hz
    clear hz
    go_enter Try.func44, Try.ntmps44
    go_wp2_with fail
    go_quiet (fail)
    have HW := HH.out.drewN nq
    clear z0 z2 z4 z5 z6 z7
    generalize w.drewN nq = W at HW ⊢
    obtain ⟨z0, z2, z4, z5, z6, z7⟩ := HW.facts hop hl rfl rfl
    go_wp2_with fail
    refine (xn_load HW 1).mono ?_
    rintro e w1 ⟨rfl, H1⟩
    obtain ⟨x0, x2, x4, x5, x6, x7⟩ := H1.facts hop hl rfl rfl
    go_wp2_with fail
    first | go_end0 | ((try simp only [Exit.inBlock, Exit.then]); refine bodyPost_ret (results_none rfl _ _ _) rfl ?_)
    exact ⟨rfl, ((H1.setA (doA s.L ⟨1, 1, 0, 0, 0⟩).1.old).goto 3)⟩
  · simp only [if_neg hz]
    have hzb : ((doA s.L ⟨1, 1, 0, 0, 0⟩).1.old == 1) = false := by simpa using hz
    clear hz
    go_enter Try.func44, Try.ntmps44
    go_wp2_with fail
    go_quiet (fail)
    have HW := HH.out.drewN nq
    clear z0 z2 z4 z5 z6 z7
    generalize w.drewN nq = W at HW ⊢
    obtain ⟨z0, z2, z4, z5, z6, z7⟩ := HW.facts hop hl rfl rfl
    go_wp2_with fail
    refine (xn_load HW 1).mono ?_
    rintro e w1 ⟨rfl, H1⟩
    obtain ⟨x0, x2, x4, x5, x6, x7⟩ := H1.facts hop hl rfl rfl
    go_wp2_with fail
    refine (x_note (H1.setA (doA s.L ⟨1, 1, 0, 0, 0⟩).1.old) (by have := HC.out; first | exact Nat.le_trans this (by decide) | (simp [Rn.note, Rn.did, Rn.setA, Rn.setB, Rn.waited, Rn.goto, Rn.noted]; omega)) 5 0).mono ?_
    rintro e w2 ⟨rfl, H2⟩
    obtain ⟨x0, x2, x4, x5, x6, x7⟩ := H2.facts hop hl (y := (doA s.L ⟨1, 1, 0, 0, 0⟩).1.old) rfl rfl
    go_wp2_with fail
    first | go_end0 | ((try simp only [Exit.inBlock, Exit.then]); refine bodyPost_ret (results_none rfl _ _ _) rfl ?_)
    exact ⟨rfl, (H2.goto 6)⟩

set_option maxHeartbeats 1600000 in
set_option maxRecDepth 100000 in
theorem xf_d73 {S0 : List Nat} {w0 w : World} {p : Option Addr} {g cap x : Nat} {rs : List Res} {s : Rn} (H : XHas S0 w0 p g cap x rs s w) (hI : I64 s.f.line) (ha : 0 ≤ s.f.a ∧ s.f.a < 4294967296) (hc : s.notes.length ≤ 800) (hop : s.f.op = 7) (hl : s.f.line = 3) :
    Calls Try.prog 44 #[.pointer (some ⟨x, 0, none⟩)] w fun e w' => e = .returned (.tuple #[]) ∧ XHas S0 w0 p g cap x rs (((s.did (doA s.L ⟨3, 1, 4294967295, 0, 0⟩)).note 9 0).fin true) w' := by
  obtain ⟨z0, z2, z4, z5, z6, z7⟩ := H.facts hop hl rfl rfl
  have HC := Lib.hid hc
  have HA := Lib.hid ha
  have HI := Lib.hid hI
  have HH := Lib.hid H
  clear hc H ha hI
  go_enter Try.func44, Try.ntmps44
  go_wp2_with fail
  go_quiet (fail)
  have HW := HH.out.drewN nq
  clear z0 z2 z4 z5 z6 z7
  generalize w.drewN nq = W at HW ⊢
  obtain ⟨z0, z2, z4, z5, z6, z7⟩ := HW.facts hop hl rfl rfl
  go_wp2_with fail
  refine (xn_add HW 1 4294967295 (by decide)).mono ?_
  rintro e w1 ⟨rfl, H1⟩
  obtain ⟨x0, x2, x4, x5, x6, x7⟩ := H1.facts hop hl rfl rfl
  go_wp2_with fail
  refine (x_note H1 (by have := HC.out; first | exact Nat.le_trans this (by decide) | (simp [Rn.note, Rn.did, Rn.setA, Rn.setB, Rn.waited, Rn.goto, Rn.noted]; omega)) 9 0).mono ?_
  rintro e w2 ⟨rfl, H2⟩
  obtain ⟨x0, x2, x4, x5, x6, x7⟩ := H2.facts hop hl rfl rfl
  go_wp2_with fail
  refine (xn_end H2 true).mono ?_
  rintro e w3 ⟨rfl, H3⟩
  obtain ⟨x0, x2, x4, x5, x6, x7⟩ := H3.facts hop hl rfl rfl
  go_wp2_with fail
  first | go_end0 | ((try simp only [Exit.inBlock, Exit.then]); refine bodyPost_ret (results_none rfl _ _ _) rfl ?_)
  exact ⟨rfl, H3⟩

set_option maxHeartbeats 1600000 in
set_option maxRecDepth 100000 in
theorem xf_g80 {S0 : List Nat} {w0 w : World} {p : Option Addr} {g cap x : Nat} {rs : List Res} {s : Rn} (H : XHas S0 w0 p g cap x rs s w) (hI : I64 s.f.line) (ha : 0 ≤ s.f.a ∧ s.f.a < 4294967296) (hc : s.notes.length ≤ 800) (hop : s.f.op = 8) (hl : s.f.line = 0) :
    Calls Try.prog 44 #[.pointer (some ⟨x, 0, none⟩)] w fun e w' => e = .returned (.tuple #[]) ∧ XHas S0 w0 p g cap x rs ((s.did (doA s.L ⟨3, 1, 1, 0, 0⟩)).goto 1) w' := by
  obtain ⟨z0, z2, z4, z5, z6, z7⟩ := H.facts hop hl rfl rfl
  have HC := Lib.hid hc
  have HA := Lib.hid ha
  have HI := Lib.hid hI
  have HH := Lib.hid H
  clear hc H ha hI
  go_enter Try.func44, Try.ntmps44
  go_wp2_with fail
  go_quiet (fail)
  have HW := HH.out.drewN nq
  clear z0 z2 z4 z5 z6 z7
  generalize w.drewN nq = W at HW ⊢
  obtain ⟨z0, z2, z4, z5, z6, z7⟩ := HW.facts hop hl rfl rfl
  go_wp2_with fail
  refine (xn_add HW 1 1 (by decide)).mono ?_
  rintro e w1 ⟨rfl, H1⟩
  obtain ⟨x0, x2, x4, x5, x6, x7⟩ := H1.facts hop hl rfl rfl
  go_wp2_with fail
  first | go_end0 | ((try simp only [Exit.inBlock, Exit.then]); refine bodyPost_ret (results_none rfl _ _ _) rfl ?_)
  exact ⟨rfl, (H1.goto 1)⟩

end Go.Proofs.Ytlndihdlodempaa.Z

/- The document's lines of the fair queue: giving on, and nothing. Written by genxfq.py. -/
set_option linter.unusedVariables false
set_option linter.unusedSimpArgs false
namespace Go.Proofs.Ytlndihdlodempaa.Z
open Go.RowKit

attribute [local go_sem ↓] Go.wp_at_zero Go.wp_at_succ

set_option maxHeartbeats 1600000 in
set_option maxRecDepth 100000 in
theorem xf_g1n {S0 : List Nat} {w0 w : World} {p : Option Addr} {g cap x : Nat} {rs : List Res} {s : Rn} (H : XHas S0 w0 p g cap x rs s w) (hI : I64 s.f.line) (ha : 0 ≤ s.f.a ∧ s.f.a < 4294967296) (hc : s.notes.length ≤ 800) {l : Int} (hop : s.f.op = 1) (hl : s.f.line = l) (h1 : decide (0 ≤ l) = false) (h3 : (l == 5) = false) :
    Calls Try.prog 44 #[.pointer (some ⟨x, 0, none⟩)] w fun e w' => e = .returned (.tuple #[]) ∧ XHas S0 w0 p g cap x rs (fqGive 6 true [4] s) w' := by
  obtain ⟨z0, z2, z4, z5, z6, z7⟩ := H.facts hop hl rfl rfl
  have HC := Lib.hid hc
  have HA := Lib.hid ha
  have HI := Lib.hid hI
  have HH := Lib.hid H
  clear hc H ha hI
  go_enter Try.func44, Try.ntmps44
  go_wp2_with fail
  go_quiet (fail)
  have HW := HH.out.drewN nq
  clear z0 z2 z4 z5 z6 z7
  generalize w.drewN nq = W at HW ⊢
  obtain ⟨z0, z2, z4, z5, z6, z7⟩ := HW.facts hop hl rfl rfl
  go_wp2_with fail
  refine (xf_give 6 true (nl := [4]) rfl (by decide) (by decide) (HW.box rfl _ _) HI.out HA.out HC.out).mono ?_
  rintro e w7 ⟨rfl, H7⟩
  go_wp2_with fail
  first | go_end0 | ((try simp only [Exit.inBlock, Exit.then]); refine bodyPost_ret (results_none rfl _ _ _) rfl ?_)
  exact ⟨rfl, H7.unbox⟩

set_option maxHeartbeats 1600000 in
set_option maxRecDepth 100000 in
theorem xf_g1p {S0 : List Nat} {w0 w : World} {p : Option Addr} {g cap x : Nat} {rs : List Res} {s : Rn} (H : XHas S0 w0 p g cap x rs s w) (hI : I64 s.f.line) (ha : 0 ≤ s.f.a ∧ s.f.a < 4294967296) (hc : s.notes.length ≤ 800) {l : Int} (hop : s.f.op = 1) (hl : s.f.line = l) (h1 : decide (0 ≤ l) = true) (h2 : decide (l ≤ 4) = false) (h3 : (l == 5) = false) :
    Calls Try.prog 44 #[.pointer (some ⟨x, 0, none⟩)] w fun e w' => e = .returned (.tuple #[]) ∧ XHas S0 w0 p g cap x rs (fqGive 6 true [4] s) w' := by
  obtain ⟨z0, z2, z4, z5, z6, z7⟩ := H.facts hop hl rfl rfl
  have HC := Lib.hid hc
  have HA := Lib.hid ha
  have HI := Lib.hid hI
  have HH := Lib.hid H
  clear hc H ha hI
  go_enter Try.func44, Try.ntmps44
  go_wp2_with fail
  go_quiet (fail)
  have HW := HH.out.drewN nq
  clear z0 z2 z4 z5 z6 z7
  generalize w.drewN nq = W at HW ⊢
  obtain ⟨z0, z2, z4, z5, z6, z7⟩ := HW.facts hop hl rfl rfl
  go_wp2_with fail
  refine (xf_give 6 true (nl := [4]) rfl (by decide) (by decide) (HW.box rfl _ _) HI.out HA.out HC.out).mono ?_
  rintro e w7 ⟨rfl, H7⟩
  go_wp2_with fail
  first | go_end0 | ((try simp only [Exit.inBlock, Exit.then]); refine bodyPost_ret (results_none rfl _ _ _) rfl ?_)
  exact ⟨rfl, H7.unbox⟩

set_option maxHeartbeats 1600000 in
set_option maxRecDepth 100000 in
theorem xf_g5n {S0 : List Nat} {w0 w : World} {p : Option Addr} {g cap x : Nat} {rs : List Res} {s : Rn} (H : XHas S0 w0 p g cap x rs s w) (hI : I64 s.f.line) (ha : 0 ≤ s.f.a ∧ s.f.a < 4294967296) (hc : s.notes.length ≤ 800) {l : Int} (hop : s.f.op = 5) (hl : s.f.line = l) (h1 : decide (0 ≤ l) = false) (h3 : (l == 5) = false) :
    Calls Try.prog 44 #[.pointer (some ⟨x, 0, none⟩)] w fun e w' => e = .returned (.tuple #[]) ∧ XHas S0 w0 p g cap x rs (fqGive 6 true [4] s) w' := by
  obtain ⟨z0, z2, z4, z5, z6, z7⟩ := H.facts hop hl rfl rfl
  have HC := Lib.hid hc
  have HA := Lib.hid ha
  have HI := Lib.hid hI
  have HH := Lib.hid H
  clear hc H ha hI
  go_enter Try.func44, Try.ntmps44
  go_wp2_with fail
  go_quiet (fail)
  have HW := HH.out.drewN nq
  clear z0 z2 z4 z5 z6 z7
  generalize w.drewN nq = W at HW ⊢
  obtain ⟨z0, z2, z4, z5, z6, z7⟩ := HW.facts hop hl rfl rfl
  go_wp2_with fail
  refine (xf_give 6 true (nl := [4]) rfl (by decide) (by decide) (HW.box rfl _ _) HI.out HA.out HC.out).mono ?_
  rintro e w7 ⟨rfl, H7⟩
  go_wp2_with fail
  first | go_end0 | ((try simp only [Exit.inBlock, Exit.then]); refine bodyPost_ret (results_none rfl _ _ _) rfl ?_)
  exact ⟨rfl, H7.unbox⟩

set_option maxHeartbeats 1600000 in
set_option maxRecDepth 100000 in
theorem xf_g5p {S0 : List Nat} {w0 w : World} {p : Option Addr} {g cap x : Nat} {rs : List Res} {s : Rn} (H : XHas S0 w0 p g cap x rs s w) (hI : I64 s.f.line) (ha : 0 ≤ s.f.a ∧ s.f.a < 4294967296) (hc : s.notes.length ≤ 800) {l : Int} (hop : s.f.op = 5) (hl : s.f.line = l) (h1 : decide (0 ≤ l) = true) (h2 : decide (l ≤ 1) = false) (h3 : (l == 5) = false) :
    Calls Try.prog 44 #[.pointer (some ⟨x, 0, none⟩)] w fun e w' => e = .returned (.tuple #[]) ∧ XHas S0 w0 p g cap x rs (fqGive 6 true [4] s) w' := by
  obtain ⟨z0, z2, z4, z5, z6, z7⟩ := H.facts hop hl rfl rfl
  have HC := Lib.hid hc
  have HA := Lib.hid ha
  have HI := Lib.hid hI
  have HH := Lib.hid H
  clear hc H ha hI
  go_enter Try.func44, Try.ntmps44
  go_wp2_with fail
  go_quiet (fail)
  have HW := HH.out.drewN nq
  clear z0 z2 z4 z5 z6 z7
  generalize w.drewN nq = W at HW ⊢
  obtain ⟨z0, z2, z4, z5, z6, z7⟩ := HW.facts hop hl rfl rfl
  go_wp2_with fail
  refine (xf_give 6 true (nl := [4]) rfl (by decide) (by decide) (HW.box rfl _ _) HI.out HA.out HC.out).mono ?_
  rintro e w7 ⟨rfl, H7⟩
  go_wp2_with fail
  first | go_end0 | ((try simp only [Exit.inBlock, Exit.then]); refine bodyPost_ret (results_none rfl _ _ _) rfl ?_)
  exact ⟨rfl, H7.unbox⟩

set_option maxHeartbeats 1600000 in
set_option maxRecDepth 100000 in
theorem xf_g4 {S0 : List Nat} {w0 w : World} {p : Option Addr} {g cap x : Nat} {rs : List Res} {s : Rn} (H : XHas S0 w0 p g cap x rs s w) (hI : I64 s.f.line) (ha : 0 ≤ s.f.a ∧ s.f.a < 4294967296) (hc : s.notes.length ≤ 800) {l : Int} (hop : s.f.op = 4) (hl : s.f.line = l) :
    Calls Try.prog 44 #[.pointer (some ⟨x, 0, none⟩)] w fun e w' => e = .returned (.tuple #[]) ∧ XHas S0 w0 p g cap x rs (fqGive 0 true [7, 8] s) w' := by
  obtain ⟨z0, z2, z4, z5, z6, z7⟩ := H.facts hop hl rfl rfl
  have HC := Lib.hid hc
  have HA := Lib.hid ha
  have HI := Lib.hid hI
  have HH := Lib.hid H
  clear hc H ha hI
  go_enter Try.func44, Try.ntmps44
  go_wp2_with fail
  go_quiet (fail)
  have HW := HH.out.drewN nq
  clear z0 z2 z4 z5 z6 z7
  generalize w.drewN nq = W at HW ⊢
  obtain ⟨z0, z2, z4, z5, z6, z7⟩ := HW.facts hop hl rfl rfl
  go_wp2_with fail
  refine (xf_give 0 true (nl := [7, 8]) rfl (by decide) (by decide) (HW.box rfl _ _) HI.out HA.out HC.out).mono ?_
  rintro e w7 ⟨rfl, H7⟩
  go_wp2_with fail
  first | go_end0 | ((try simp only [Exit.inBlock, Exit.then]); refine bodyPost_ret (results_none rfl _ _ _) rfl ?_)
  exact ⟨rfl, H7.unbox⟩

set_option maxHeartbeats 1600000 in
set_option maxRecDepth 100000 in
theorem xf_g6n {S0 : List Nat} {w0 w : World} {p : Option Addr} {g cap x : Nat} {rs : List Res} {s : Rn} (H : XHas S0 w0 p g cap x rs s w) (hI : I64 s.f.line) (ha : 0 ≤ s.f.a ∧ s.f.a < 4294967296) (hc : s.notes.length ≤ 800) {l : Int} (hop : s.f.op = 6) (hl : s.f.line = l) (h1 : decide (0 ≤ l) = false) (h3 : (l == 2) = false) :
    Calls Try.prog 44 #[.pointer (some ⟨x, 0, none⟩)] w fun e w' => e = .returned (.tuple #[]) ∧ XHas S0 w0 p g cap x rs (fqGive 6 false [8] s) w' := by
  obtain ⟨z0, z2, z4, z5, z6, z7⟩ := H.facts hop hl rfl rfl
  have HC := Lib.hid hc
  have HA := Lib.hid ha
  have HI := Lib.hid hI
  have HH := Lib.hid H
  clear hc H ha hI
  go_enter Try.func44, Try.ntmps44
  go_wp2_with fail
  go_quiet (fail)
  have HW := HH.out.drewN nq
  clear z0 z2 z4 z5 z6 z7
  generalize w.drewN nq = W at HW ⊢
  obtain ⟨z0, z2, z4, z5, z6, z7⟩ := HW.facts hop hl rfl rfl
  go_wp2_with fail
  refine (xf_give 6 false (nl := [8]) rfl (by decide) (by decide) (HW.box rfl _ _) HI.out HA.out HC.out).mono ?_
  rintro e w7 ⟨rfl, H7⟩
  go_wp2_with fail
  first | go_end0 | ((try simp only [Exit.inBlock, Exit.then]); refine bodyPost_ret (results_none rfl _ _ _) rfl ?_)
  exact ⟨rfl, H7.unbox⟩

set_option maxHeartbeats 1600000 in
set_option maxRecDepth 100000 in
theorem xf_g6p {S0 : List Nat} {w0 w : World} {p : Option Addr} {g cap x : Nat} {rs : List Res} {s : Rn} (H : XHas S0 w0 p g cap x rs s w) (hI : I64 s.f.line) (ha : 0 ≤ s.f.a ∧ s.f.a < 4294967296) (hc : s.notes.length ≤ 800) {l : Int} (hop : s.f.op = 6) (hl : s.f.line = l) (h1 : decide (0 ≤ l) = true) (h2 : decide (l ≤ 1) = false) (h3 : (l == 2) = false) :
    Calls Try.prog 44 #[.pointer (some ⟨x, 0, none⟩)] w fun e w' => e = .returned (.tuple #[]) ∧ XHas S0 w0 p g cap x rs (fqGive 6 false [8] s) w' := by
  obtain ⟨z0, z2, z4, z5, z6, z7⟩ := H.facts hop hl rfl rfl
  have HC := Lib.hid hc
  have HA := Lib.hid ha
  have HI := Lib.hid hI
  have HH := Lib.hid H
  clear hc H ha hI
  go_enter Try.func44, Try.ntmps44
  go_wp2_with fail
  go_quiet (fail)
  have HW := HH.out.drewN nq
  clear z0 z2 z4 z5 z6 z7
  generalize w.drewN nq = W at HW ⊢
  obtain ⟨z0, z2, z4, z5, z6, z7⟩ := HW.facts hop hl rfl rfl
  go_wp2_with fail
  refine (xf_give 6 false (nl := [8]) rfl (by decide) (by decide) (HW.box rfl _ _) HI.out HA.out HC.out).mono ?_
  rintro e w7 ⟨rfl, H7⟩
  go_wp2_with fail
  first | go_end0 | ((try simp only [Exit.inBlock, Exit.then]); refine bodyPost_ret (results_none rfl _ _ _) rfl ?_)
  exact ⟨rfl, H7.unbox⟩

set_option maxHeartbeats 1600000 in
set_option maxRecDepth 100000 in
theorem xf_g7n {S0 : List Nat} {w0 w : World} {p : Option Addr} {g cap x : Nat} {rs : List Res} {s : Rn} (H : XHas S0 w0 p g cap x rs s w) (hI : I64 s.f.line) (ha : 0 ≤ s.f.a ∧ s.f.a < 4294967296) (hc : s.notes.length ≤ 800) {l : Int} (hop : s.f.op = 7) (hl : s.f.line = l) (h1 : decide (0 ≤ l) = false) (h3 : (l == 2) = false) (h4 : (l == 3) = false) :
    Calls Try.prog 44 #[.pointer (some ⟨x, 0, none⟩)] w fun e w' => e = .returned (.tuple #[]) ∧ XHas S0 w0 p g cap x rs (fqGive 6 false [8] s) w' := by
  obtain ⟨z0, z2, z4, z5, z6, z7⟩ := H.facts hop hl rfl rfl
  have HC := Lib.hid hc
  have HA := Lib.hid ha
  have HI := Lib.hid hI
  have HH := Lib.hid H
  clear hc H ha hI
  go_enter Try.func44, Try.ntmps44
  go_wp2_with fail
  go_quiet (fail)
  have HW := HH.out.drewN nq
  clear z0 z2 z4 z5 z6 z7
  generalize w.drewN nq = W at HW ⊢
  obtain ⟨z0, z2, z4, z5, z6, z7⟩ := HW.facts hop hl rfl rfl
  go_wp2_with fail
  refine (xf_give 6 false (nl := [8]) rfl (by decide) (by decide) (HW.box rfl _ _) HI.out HA.out HC.out).mono ?_
  rintro e w7 ⟨rfl, H7⟩
  go_wp2_with fail
  first | go_end0 | ((try simp only [Exit.inBlock, Exit.then]); refine bodyPost_ret (results_none rfl _ _ _) rfl ?_)
  exact ⟨rfl, H7.unbox⟩

set_option maxHeartbeats 1600000 in
set_option maxRecDepth 100000 in
theorem xf_g7p {S0 : List Nat} {w0 w : World} {p : Option Addr} {g cap x : Nat} {rs : List Res} {s : Rn} (H : XHas S0 w0 p g cap x rs s w) (hI : I64 s.f.line) (ha : 0 ≤ s.f.a ∧ s.f.a < 4294967296) (hc : s.notes.length ≤ 800) {l : Int} (hop : s.f.op = 7) (hl : s.f.line = l) (h1 : decide (0 ≤ l) = true) (h2 : decide (l ≤ 1) = false) (h3 : (l == 2) = false) (h4 : (l == 3) = false) :
    Calls Try.prog 44 #[.pointer (some ⟨x, 0, none⟩)] w fun e w' => e = .returned (.tuple #[]) ∧ XHas S0 w0 p g cap x rs (fqGive 6 false [8] s) w' := by
  obtain ⟨z0, z2, z4, z5, z6, z7⟩ := H.facts hop hl rfl rfl
  have HC := Lib.hid hc
  have HA := Lib.hid ha
  have HI := Lib.hid hI
  have HH := Lib.hid H
  clear hc H ha hI
  go_enter Try.func44, Try.ntmps44
  go_wp2_with fail
  go_quiet (fail)
  have HW := HH.out.drewN nq
  clear z0 z2 z4 z5 z6 z7
  generalize w.drewN nq = W at HW ⊢
  obtain ⟨z0, z2, z4, z5, z6, z7⟩ := HW.facts hop hl rfl rfl
  go_wp2_with fail
  refine (xf_give 6 false (nl := [8]) rfl (by decide) (by decide) (HW.box rfl _ _) HI.out HA.out HC.out).mono ?_
  rintro e w7 ⟨rfl, H7⟩
  go_wp2_with fail
  first | go_end0 | ((try simp only [Exit.inBlock, Exit.then]); refine bodyPost_ret (results_none rfl _ _ _) rfl ?_)
  exact ⟨rfl, H7.unbox⟩

set_option maxHeartbeats 1600000 in
set_option maxRecDepth 100000 in
theorem xf_g8 {S0 : List Nat} {w0 w : World} {p : Option Addr} {g cap x : Nat} {rs : List Res} {s : Rn} (H : XHas S0 w0 p g cap x rs s w) (hI : I64 s.f.line) (ha : 0 ≤ s.f.a ∧ s.f.a < 4294967296) (hc : s.notes.length ≤ 800) {l : Int} (hop : s.f.op = 8) (hl : s.f.line = l) (h1 : (l == 0) = false) :
    Calls Try.prog 44 #[.pointer (some ⟨x, 0, none⟩)] w fun e w' => e = .returned (.tuple #[]) ∧ XHas S0 w0 p g cap x rs (fqGive 1 true [10] s) w' := by
  obtain ⟨z0, z2, z4, z5, z6, z7⟩ := H.facts hop hl rfl rfl
  have HC := Lib.hid hc
  have HA := Lib.hid ha
  have HI := Lib.hid hI
  have HH := Lib.hid H
  clear hc H ha hI
  go_enter Try.func44, Try.ntmps44
  go_wp2_with fail
  go_quiet (fail)
  have HW := HH.out.drewN nq
  clear z0 z2 z4 z5 z6 z7
  generalize w.drewN nq = W at HW ⊢
  obtain ⟨z0, z2, z4, z5, z6, z7⟩ := HW.facts hop hl rfl rfl
  go_wp2_with fail
  refine (xf_give 1 true (nl := [10]) rfl (by decide) (by decide) (HW.box rfl _ _) HI.out HA.out HC.out).mono ?_
  rintro e w7 ⟨rfl, H7⟩
  go_wp2_with fail
  first | go_end0 | ((try simp only [Exit.inBlock, Exit.then]); refine bodyPost_ret (results_none rfl _ _ _) rfl ?_)
  exact ⟨rfl, H7.unbox⟩

set_option maxHeartbeats 1600000 in
set_option maxRecDepth 100000 in
theorem xf_n2 {S0 : List Nat} {w0 w : World} {p : Option Addr} {g cap x : Nat} {rs : List Res} {s : Rn} (H : XHas S0 w0 p g cap x rs s w) (hI : I64 s.f.line) (ha : 0 ≤ s.f.a ∧ s.f.a < 4294967296) (hc : s.notes.length ≤ 800) {l : Int} (hop : s.f.op = 2) (hl : s.f.line = l) (h1 : (l == 0) = false) :
    Calls Try.prog 44 #[.pointer (some ⟨x, 0, none⟩)] w fun e w' => e = .returned (.tuple #[]) ∧ XHas S0 w0 p g cap x rs (s) w' := by
  obtain ⟨z0, z2, z4, z5, z6, z7⟩ := H.facts hop hl rfl rfl
  have HC := Lib.hid hc
  have HA := Lib.hid ha
  have HI := Lib.hid hI
  have HH := Lib.hid H
  clear hc H ha hI
  go_enter Try.func44, Try.ntmps44
  go_wp2_with fail
  go_quiet (fail)
  have HW := HH.out.drewN nq
  clear z0 z2 z4 z5 z6 z7
  generalize w.drewN nq = W at HW ⊢
  obtain ⟨z0, z2, z4, z5, z6, z7⟩ := HW.facts hop hl rfl rfl
  go_wp2_with fail
  first | go_end0 | ((try simp only [Exit.inBlock, Exit.then]); refine bodyPost_ret (results_none rfl _ _ _) rfl ?_)
  exact ⟨rfl, HW⟩

set_option maxHeartbeats 1600000 in
set_option maxRecDepth 100000 in
theorem xf_n3n {S0 : List Nat} {w0 w : World} {p : Option Addr} {g cap x : Nat} {rs : List Res} {s : Rn} (H : XHas S0 w0 p g cap x rs s w) (hI : I64 s.f.line) (ha : 0 ≤ s.f.a ∧ s.f.a < 4294967296) (hc : s.notes.length ≤ 800) {l : Int} (hop : s.f.op = 3) (hl : s.f.line = l) (h1 : decide (0 ≤ l) = false) (h3 : (l == 5) = false) :
    Calls Try.prog 44 #[.pointer (some ⟨x, 0, none⟩)] w fun e w' => e = .returned (.tuple #[]) ∧ XHas S0 w0 p g cap x rs (s) w' := by
  obtain ⟨z0, z2, z4, z5, z6, z7⟩ := H.facts hop hl rfl rfl
  have HC := Lib.hid hc
  have HA := Lib.hid ha
  have HI := Lib.hid hI
  have HH := Lib.hid H
  clear hc H ha hI
  go_enter Try.func44, Try.ntmps44
  go_wp2_with fail
  go_quiet (fail)
  have HW := HH.out.drewN nq
  clear z0 z2 z4 z5 z6 z7
  generalize w.drewN nq = W at HW ⊢
  obtain ⟨z0, z2, z4, z5, z6, z7⟩ := HW.facts hop hl rfl rfl
  go_wp2_with fail
  first | go_end0 | ((try simp only [Exit.inBlock, Exit.then]); refine bodyPost_ret (results_none rfl _ _ _) rfl ?_)
  exact ⟨rfl, HW⟩

set_option maxHeartbeats 1600000 in
set_option maxRecDepth 100000 in
theorem xf_n3p {S0 : List Nat} {w0 w : World} {p : Option Addr} {g cap x : Nat} {rs : List Res} {s : Rn} (H : XHas S0 w0 p g cap x rs s w) (hI : I64 s.f.line) (ha : 0 ≤ s.f.a ∧ s.f.a < 4294967296) (hc : s.notes.length ≤ 800) {l : Int} (hop : s.f.op = 3) (hl : s.f.line = l) (h1 : decide (0 ≤ l) = true) (h2 : decide (l ≤ 4) = false) (h3 : (l == 5) = false) :
    Calls Try.prog 44 #[.pointer (some ⟨x, 0, none⟩)] w fun e w' => e = .returned (.tuple #[]) ∧ XHas S0 w0 p g cap x rs (s) w' := by
  obtain ⟨z0, z2, z4, z5, z6, z7⟩ := H.facts hop hl rfl rfl
  have HC := Lib.hid hc
  have HA := Lib.hid ha
  have HI := Lib.hid hI
  have HH := Lib.hid H
  clear hc H ha hI
  go_enter Try.func44, Try.ntmps44
  go_wp2_with fail
  go_quiet (fail)
  have HW := HH.out.drewN nq
  clear z0 z2 z4 z5 z6 z7
  generalize w.drewN nq = W at HW ⊢
  obtain ⟨z0, z2, z4, z5, z6, z7⟩ := HW.facts hop hl rfl rfl
  go_wp2_with fail
  first | go_end0 | ((try simp only [Exit.inBlock, Exit.then]); refine bodyPost_ret (results_none rfl _ _ _) rfl ?_)
  exact ⟨rfl, HW⟩

set_option maxHeartbeats 1600000 in
set_option maxRecDepth 100000 in
theorem xf_none {S0 : List Nat} {w0 w : World} {p : Option Addr} {g cap x : Nat} {rs : List Res} {s : Rn} (H : XHas S0 w0 p g cap x rs s w) {o l : Int} (hop : s.f.op = o) (hl : s.f.line = l) (h : o < 1 ∨ 8 < o) :
    Calls Try.prog 44 #[.pointer (some ⟨x, 0, none⟩)] w fun e w' => e = .returned (.tuple #[]) ∧ XHas S0 w0 p g cap x rs s w' := by
  have k1 : (o == 1) = false := by simp; omega
  have k2 : (o == 2) = false := by simp; omega
  have k3 : (o == 3) = false := by simp; omega
  have k4 : (o == 4) = false := by simp; omega
  have k5 : (o == 5) = false := by simp; omega
  have k6 : (o == 6) = false := by simp; omega
  have k7 : (o == 7) = false := by simp; omega
  have k8 : (o == 8) = false := by simp; omega
  obtain ⟨z0, z2, z4, z5, z6, z7⟩ := H.facts hop hl rfl rfl
  have HH := Lib.hid H
  clear H h
  go_enter Try.func44, Try.ntmps44
  go_wp2_with fail
  go_quiet (fail)
  have HW := HH.out.drewN nq
  clear z0 z2 z4 z5 z6 z7
  generalize w.drewN nq = W at HW ⊢
  obtain ⟨z0, z2, z4, z5, z6, z7⟩ := HW.facts hop hl rfl rfl
  go_wp2_with fail
  first | go_end0 | ((try simp only [Exit.inBlock, Exit.then]); refine bodyPost_ret (results_none rfl _ _ _) rfl ?_)
  exact ⟨rfl, HW⟩

end Go.Proofs.Ytlndihdlodempaa.Z

/- The document's lines of the fair queue are the program's. Written by genxfq.py. -/
set_option linter.unusedVariables false
set_option linter.unusedSimpArgs false
namespace Go.Proofs.Ytlndihdlodempaa.Z
open Go.RowKit

attribute [local go_sem ↓] Go.wp_at_zero Go.wp_at_succ

theorem mxEnter_low (tail cls : Int) (s : Rn) (h : s.f.line < 0) : mxEnter tail cls s = (false, s) := by
  unfold mxEnter
  rw [if_neg (by omega), if_neg (by omega), if_neg (by omega), if_neg (by omega), if_neg (by omega)]
theorem fqEnter_low (cls : Int) (s : Rn) (h : s.f.line < 0) : fqEnter cls s = s := by
  unfold fqEnter
  rw [mxEnter_low 0 cls s h]
  rfl
theorem mxGive_off (tail q : Int) (nl : List Int) (s : Rn) (hI : I64 s.f.line) (hq : -1000 ≤ q ∧ q ≤ 1000) (h : s.f.line < q ∨ q + 3 < s.f.line) : mxGive tail q nl s = (false, s) := by
  unfold mxGive
  simp only [wrap_line hI hq (show (0 : Int) ≤ 0 ∧ (0 : Int) ≤ 3 by decide), wrap_line hI hq (show (0 : Int) ≤ 1 ∧ (1 : Int) ≤ 3 by decide), wrap_line hI hq (show (0 : Int) ≤ 2 ∧ (2 : Int) ≤ 3 by decide), wrap_line hI hq (show (0 : Int) ≤ 3 ∧ (3 : Int) ≤ 3 by decide), Int.add_zero]
  rw [if_neg (by omega), if_neg (by omega), if_neg (by omega), if_neg (by omega)]
theorem fqGive_off (q : Int) (ok : Bool) (nl : List Int) (s : Rn) (hI : I64 s.f.line) (hq : -1000 ≤ q ∧ q ≤ 1000) (h : s.f.line < q ∨ q + 3 < s.f.line) : fqGive q ok nl s = s := by
  unfold fqGive
  rw [mxGive_off 0 q nl s hI hq h]
  rfl
theorem mxTry_low (s : Rn) (hI : I64 s.f.line) (h : s.f.line < 0) : mxTry 0 s = (false, false, s) := by
  rw [← xmTry_fq 0 s hI]
  unfold xmTry
  rw [if_neg (by omega), if_neg (by omega)]
theorem fqTry_low (cls nx : Int) (s : Rn) (hI : I64 s.f.line) (h : s.f.line < 0) : fqTry cls nx s = s := by
  unfold fqTry
  rw [mxTry_low s hI h]
  rfl

set_option maxHeartbeats 1600000 in
/-- The document's lines are the program's. -/
theorem xfq_lines {S0 : List Nat} {w0 w : World} {p : Option Addr} {g cap x : Nat} {rs : List Res} {s : Rn} (H : XHas S0 w0 p g cap x rs s w) (hI : I64 s.f.line) (ha : 0 ≤ s.f.a ∧ s.f.a < 4294967296) (hc : s.notes.length ≤ 800) :
    Calls Try.prog 44 #[.pointer (some ⟨x, 0, none⟩)] w fun e w' => e = .returned (.tuple #[]) ∧ XHas S0 w0 p g cap x rs (fqA s) w' := by
  have D : ∀ (P : Prop) [Decidable P], P → decide P = true := fun P _ h => decide_eq_true h
  have N : ∀ (P : Prop) [Decidable P], ¬ P → decide P = false := fun P _ h => decide_eq_false h
  have E : ∀ k : Int, s.f.line ≠ k → (s.f.line == k) = false := fun k h => by simpa using h
  by_cases o1 : s.f.op = 1
  · rw [show fqA s = (if s.f.line ≤ 4 then fqEnter 1 s else fqReader s) from by unfold fqA; rw [if_pos o1]]
    by_cases h0 : 0 ≤ s.f.line
    · by_cases h4 : s.f.line ≤ 4
      · rw [if_pos h4]; exact xf_enter1 H hI ha hc o1 rfl (D _ h0) (D _ h4)
      · rw [if_neg h4]
        unfold fqReader
        by_cases h5 : s.f.line = 5
        · rw [if_pos h5]; exact xf_r15 H hI ha hc o1 h5
        · rw [if_neg h5]; exact xf_g1p H hI ha hc o1 rfl (D _ h0) (N _ h4) (E _ h5)
    · rw [if_pos (by omega), fqEnter_low 1 s (by omega)]
      have := xf_g1n H hI ha hc o1 rfl (N _ h0) (E _ (by omega))
      rw [fqGive_off 6 true [4] s hI (by decide) (by omega)] at this
      exact this
  by_cases o5 : s.f.op = 5
  · rw [show fqA s = (if s.f.line ≤ 1 then fqTry 1 5 s else fqReader s) from by unfold fqA; rw [if_neg o1, if_pos o5]]
    by_cases h0 : 0 ≤ s.f.line
    · by_cases h4 : s.f.line ≤ 1
      · rw [if_pos h4]; exact xf_try5 H hI ha hc o5 rfl (D _ h0) (D _ h4)
      · rw [if_neg h4]
        unfold fqReader
        by_cases h5 : s.f.line = 5
        · rw [if_pos h5]; exact xf_r55 H hI ha hc o5 h5
        · rw [if_neg h5]; exact xf_g5p H hI ha hc o5 rfl (D _ h0) (N _ h4) (E _ h5)
    · rw [if_pos (by omega), fqTry_low 1 5 s hI (by omega)]
      have := xf_g5n H hI ha hc o5 rfl (N _ h0) (E _ (by omega))
      rw [fqGive_off 6 true [4] s hI (by decide) (by omega)] at this
      exact this
  by_cases o3 : s.f.op = 3
  · rw [show fqA s = (if s.f.line ≤ 4 then fqEnter 2 s else fqWriter s) from by unfold fqA; rw [if_neg o1, if_neg o5, if_pos o3]]
    by_cases h0 : 0 ≤ s.f.line
    · by_cases h4 : s.f.line ≤ 4
      · rw [if_pos h4]; exact xf_enter3 H hI ha hc o3 rfl (D _ h0) (D _ h4)
      · rw [if_neg h4]
        unfold fqWriter
        by_cases h5 : s.f.line = 5
        · rw [if_pos h5]; exact xf_w5 H hI ha hc o3 h5
        · rw [if_neg h5]; exact xf_n3p H hI ha hc o3 rfl (D _ h0) (N _ h4) (E _ h5)
    · rw [if_pos (by omega), fqEnter_low 2 s (by omega)]
      exact xf_n3n H hI ha hc o3 rfl (N _ h0) (E _ (by omega))
  by_cases o4 : s.f.op = 4
  · rw [show fqA s = fqGive 0 true [7, 8] s from by unfold fqA; rw [if_neg o1, if_neg o5, if_neg o3, if_pos o4]]
    exact xf_g4 H hI ha hc o4 rfl
  by_cases o6 : s.f.op = 6
  · rw [show fqA s = (if s.f.line ≤ 1 then fqTry 2 2 s else fqDecide s) from by unfold fqA; rw [if_neg o1, if_neg o5, if_neg o3, if_neg o4, if_pos o6]]
    by_cases h0 : 0 ≤ s.f.line
    · by_cases h4 : s.f.line ≤ 1
      · rw [if_pos h4]; exact xf_try6 H hI ha hc o6 rfl (D _ h0) (D _ h4)
      · rw [if_neg h4]
        unfold fqDecide
        by_cases h5 : s.f.line = 2
        · rw [if_pos ⟨o6, h5⟩]; exact xf_d62 H hI ha hc o6 h5
        · rw [if_neg (by omega), if_neg (by omega), if_neg (by omega)]; exact xf_g6p H hI ha hc o6 rfl (D _ h0) (N _ h4) (E _ h5)
    · rw [if_pos (by omega), fqTry_low 2 2 s hI (by omega)]
      have := xf_g6n H hI ha hc o6 rfl (N _ h0) (E _ (by omega))
      rw [fqGive_off 6 false [8] s hI (by decide) (by omega)] at this
      exact this
  by_cases o7 : s.f.op = 7
  · rw [show fqA s = (if s.f.line ≤ 1 then fqTry 2 2 s else fqDecide s) from by unfold fqA; rw [if_neg o1, if_neg o5, if_neg o3, if_neg o4, if_neg o6, if_pos o7]]
    by_cases h0 : 0 ≤ s.f.line
    · by_cases h4 : s.f.line ≤ 1
      · rw [if_pos h4]; exact xf_try7 H hI ha hc o7 rfl (D _ h0) (D _ h4)
      · rw [if_neg h4]
        unfold fqDecide
        by_cases h5 : s.f.line = 2
        · rw [if_neg (by omega), if_pos ⟨o7, h5⟩]; exact xf_d72 H hI ha hc o7 h5
        · by_cases h6 : s.f.line = 3
          · rw [if_neg (by omega), if_neg (by omega), if_pos ⟨o7, h6⟩]; exact xf_d73 H hI ha hc o7 h6
          · rw [if_neg (by omega), if_neg (by omega), if_neg (by omega)]; exact xf_g7p H hI ha hc o7 rfl (D _ h0) (N _ h4) (E _ h5) (E _ h6)
    · rw [if_pos (by omega), fqTry_low 2 2 s hI (by omega)]
      have := xf_g7n H hI ha hc o7 rfl (N _ h0) (E _ (by omega)) (E _ (by omega))
      rw [fqGive_off 6 false [8] s hI (by decide) (by omega)] at this
      exact this
  rw [show fqA s = fqOthers s from by unfold fqA; rw [if_neg o1, if_neg o5, if_neg o3, if_neg o4, if_neg o6, if_neg o7]]
  unfold fqOthers
  by_cases o2 : s.f.op = 2
  · rw [if_pos o2]
    by_cases h0 : s.f.line = 0
    · rw [if_pos h0]; exact xf_u0 H hI ha hc o2 h0
    · rw [if_neg h0]; exact xf_n2 H hI ha hc o2 rfl (E _ h0)
  rw [if_neg o2]
  by_cases o8 : s.f.op = 8
  · rw [if_pos o8]
    by_cases h0 : s.f.line = 0
    · rw [if_pos h0]; exact xf_g80 H hI ha hc o8 h0
    · rw [if_neg h0]; exact xf_g8 H hI ha hc o8 rfl (E _ h0)
  rw [if_neg o8]
  exact xf_none H rfl rfl (by omega)

end Go.Proofs.Ytlndihdlodempaa.Z
