/- The document's answers for memories: Copy, There, Same, Do, on a slice of words. -/
import Derived.Test.YtlndihdlodempaaZFrom
import Derived.Outline
set_option linter.unusedVariables false
set_option linter.unusedSimpArgs false
namespace Go.Proofs.Ytlndihdlodempaa.Z
open Go.RowKit

/-- The slice at p, of the words L, lies at the head of block g, and may be written. -/
structure Row (w : World) (p : Option Addr) (g : Nat) (L : List Int) : Prop where
  words : Words L
  at_ : 0 < L.length → p = some ⟨g, 0, none⟩
  body : 0 < L.length → ∃ rest, Blk w g ((u32s L) ++ rest).toArray

theorem Row.lt {w : World} {p : Option Addr} {g : Nat} {L : List Int} (h : Row w p g L) : 0 < L.length → g < w.heap.size := fun h0 => by
  obtain ⟨rest, hr⟩ := h.body h0
  exact hr.lt

theorem Row.touch {w w' : World} {p : Option Addr} {g : Nat} {L : List Int} {S : List Nat} (h : Row w p g L) (t : Touch S w w') (hg : g ∉ S) : Row w' p g L :=
  ⟨h.words, h.at_, fun h0 => by
    obtain ⟨rest, hr⟩ := h.body h0
    exact ⟨rest, t.blk hr hg⟩⟩

theorem Row.set {w : World} {p : Option Addr} {g : Nat} {L : List Int} (h : Row w p g L) (i : Nat) (hi : i < L.length) (v : Int) (h0 : 0 ≤ v) (h1 : v < 4294967296) :
    Row (w.setCell ⟨g, i, none⟩ (.int .u32 v)) p g (L.set i v) := by
  obtain ⟨rest, hr⟩ := h.body (by omega)
  exact ⟨h.words.set i v h0 h1, by simpa using h.at_, fun _ => ⟨rest, (hr.set i _).eq (u32s_set hi rest v)⟩⟩

theorem Row.rd {w : World} {p : Option Addr} {g : Nat} {L : List Int} (h : Row w p g L) : Rd w 1 p L.length (u32s L) := by
  refine ⟨by simp [u32s], fun h0 => ?_⟩
  obtain ⟨rest, hr⟩ := h.body h0
  refine ⟨_, h.at_ h0, hr.lt, fun j u hj => ?_⟩
  rw [Addr.add_lit]
  have hj' : j < (u32s L).length := (List.getElem?_eq_some_iff.1 hj).1
  simp only [Nat.zero_add]
  rw [hr.cell, ← hj]
  simp [List.getElem?_append, hj']

theorem Row.rd' {w : World} {p : Option Addr} {g n : Nat} {L : List Int} (h : Row w p g L) (hn : L.length = n) : Rd w 1 p n (u32s L) := hn ▸ h.rd

theorem Row.of_owns {w : World} {base e : Nat} {p : Option Addr} {cap : Nat} {L : List Int} (h : w.ownsRow base e 1 (.slice p L.length cap) L.length (u32s L)) (hw : Words L) : ∃ g, Row w p g L ∧ base ≤ g := by
  rcases h.2 with ⟨hv, h0⟩ | ⟨g, cap', cur, hv, hg, hh, hc, hm, hs, ht⟩
  · exact ⟨base, ⟨hw, fun h => by omega, fun h => by omega⟩, Nat.le_refl _⟩
  · simp only [Value.slice.injEq] at hv
    obtain ⟨rfl, _, rfl⟩ := hv
    exact ⟨g, ⟨hw, fun _ => rfl, fun _ => ⟨cur.toList.drop (L.length * 1), e, by rw [hh, ← ht, List.take_append_drop]⟩⟩, hg⟩

theorem Row.of_owns_ne {w : World} {base e : Nat} {p : Option Addr} {cap : Nat} {L : List Int} (h : w.ownsRow base e 1 (.slice p L.length cap) L.length (u32s L)) (hw : Words L) (av : Nat) (ha : 0 < L.length → av < base) :
    ∃ g, Row w p g L ∧ base ≤ g ∧ g ≠ av := by
  obtain ⟨g, hg, hb⟩ := Row.of_owns h hw
  rcases Nat.eq_zero_or_pos L.length with h0 | h0
  · exact ⟨base + av + 1, ⟨hw, fun h => by omega, fun h => by omega⟩, by omega, by omega⟩
  · exact ⟨g, hg, hb, by have := ha h0; omega⟩

theorem owns_cap {w : World} {base e : Nat} {p : Option Addr} {n cap : Nat} {xs : List Value} (h : w.ownsRow base e 1 (.slice p n cap) n xs) : n ≤ cap ∧ cap ≤ 9223372036854775807 := by
  rcases h.2 with ⟨hv, h0⟩ | ⟨g, cap', cur, hv, hg, hh, hc, hm, hs, ht⟩
  · simp only [Value.slice.injEq] at hv
    obtain ⟨_, rfl, rfl⟩ := hv
    exact ⟨Nat.le_refl _, by decide⟩
  · simp only [Value.slice.injEq] at hv
    obtain ⟨_, _, rfl⟩ := hv
    exact ⟨hc, by unfold maxLen at hm; omega⟩

theorem doA_length (L : List Int) (b : Acc) : (doA L b).2.2.length = L.length := by
  unfold doA
  split
  · dsimp only
    split
    · rfl
    · split
      · simp
      · split
        · dsimp only; split <;> simp
        · split <;> simp
  · rfl

theorem Row.at_cell {w : World} {p : Option Addr} {g : Nat} {L : List Int} (h : Row w p g L) (c v : Int) (h0 : 0 ≤ c) (h1 : c < L.length) (hv : L.getD c.toNat 0 = v) :
    p = some ⟨g, 0, none⟩ ∧ w.cell? ⟨g, c.toNat, none⟩ = some (.int .u32 v) ∧ w.frozen? ⟨g, c.toNat, none⟩ = false ∧ g < w.heap.size ∧ g ≠ w.heap.size ∧ g ≠ w.heap.size + 1 := by
  obtain ⟨rest, hr⟩ := h.body (by omega)
  have hg := hr.lt
  exact ⟨h.at_ (by omega), by rw [hr.cell, u32s_get (by omega), hv], hr.free _, hg, by omega, by omega⟩

set_option maxHeartbeats 400000 in
theorem copy_any {A : Option Addr} {n c : Nat} {L : List Int} (w : World) (hr : Rd w 1 A n (u32s L)) (hn : n ≤ 1048576) :
    Calls Try.prog 13 #[.slice A n c] w (NewRow w L) := by
  have hl := len_of_rd hr
  subst hl
  obtain ⟨i0, hi0, hz0, hz1, hz2⟩ := info_parts u32_info
  have hrd := hr.touch (((Touch.refl [] w).alloc (.cells #[] 23))) (by simp)
  go_enter Try.func13, Try.ntmps13
  go_wp2_with (at_builtin; refine wpList_append_rd _ rfl (.tmp 3) (.tmp 4) _ rfl w.heap.size 23 i0 _ 1 4 Try.underlying22 hi0 hz0 hz1 hz2 rfl (by omega) (.slice (some ⟨w.heap.size, 0, none⟩) 0 0) 0 [] rfl (owns_new0 w _ _) A L.length c (u32s L) rfl hrd (u32s_one L) (by simp only [maxLen]; omega) (by omega) (by simp) ?_; intro v' w' hown hg hat)
  go_ret
  rw [Nat.zero_add, List.nil_append] at hown
  obtain ⟨p, cap, rfl⟩ := owns_slice hown
  exact ⟨p, cap, rfl, hown, Below.toTouch (((Below.refl _ _).alloc (Nat.le_refl _) _).grown hg (by simp) (by intro k hk; simp [Value.ownBlock] at hk; omega))⟩

theorem there_any (A : Option Addr) (n c : Nat) (i : Int) (w : World) :
    Calls Try.prog 133 #[.slice A n c, .int .i64 i] w fun e w' => e = .returned (.bool (decide (0 ≤ i ∧ i < n))) ∧ w = w' := by
  by_cases h : 0 ≤ i
  · have e : decide (0 ≤ i ∧ i < (n : Int)) = decide (i < (n : Int)) := by simp [h]
    rw [e]
    clear e
    go_enter Try.func133, Try.ntmps133
    go_wp2_with fail
    go_ret
    exact ⟨rfl, rfl⟩
  · have e : decide (0 ≤ i ∧ i < (n : Int)) = false := by simp [h]
    rw [e]
    clear e
    have h' : i < 0 := by omega
    clear h
    go_enter Try.func133, Try.ntmps133
    go_wp2_with fail
    go_ret
    exact ⟨rfl, rfl⟩

set_option maxHeartbeats 800000 in
theorem rdo_load {w : World} {p : Option Addr} {g cap : Nat} {L : List Int} (h : Row w p g L) (hcap : L.length ≤ cap) (hcm : cap ≤ 9223372036854775807) (c x y o v : Int) (h0 : 0 ≤ c) (h1 : c < L.length) (hv : L.getD c.toNat 0 = v) :
    Calls Try.prog 131 #[.slice p L.length cap, .agg #[.int .i64 1, .int .i64 c, .int .u32 x, .int .u32 y, .int .u32 o]] w
      fun e w' => e = .returned (.tuple #[.agg #[.int .i64 1, .int .i64 c, .int .u32 x, .int .u32 y, .int .u32 v], .bool true]) ∧ Touch [] w w' := by
  obtain ⟨rfl, hc1, hc2, ha, ha2, ha3⟩ := h.at_cell c v h0 h1 hv
  clear hv
  have ht := fun w => there_any (some ⟨g, 0, none⟩) L.length cap c w
  rw [decide_eq_true ⟨h0, h1⟩] at ht
  go_enter Try.func131, Try.ntmps131
  go_wp2_with (go_at_call 133; refine (ht _).mono ?_; rintro e w' ⟨rfl, rfl⟩)
  refine bodyPost_ret (v := .tuple #[.agg #[.int .i64 1, .int .i64 c, .int .u32 x, .int .u32 y, .int .u32 v], .bool true]) (by simp [results, Try.results131, go_sem]) rfl ?_
  refine ⟨rfl, ?_⟩
  repeat (first | exact Touch.refl _ _ | apply Touch.drewN | apply Touch.drew | apply Touch.alloc)

set_option maxHeartbeats 800000 in
theorem rdo_store {w : World} {p : Option Addr} {g cap : Nat} {L : List Int} (h : Row w p g L) (hcap : L.length ≤ cap) (hcm : cap ≤ 9223372036854775807) (c x y o v : Int) (hx : 0 ≤ x ∧ x < 4294967296) (h0 : 0 ≤ c) (h1 : c < L.length) (hv : L.getD c.toNat 0 = v) :
    Calls Try.prog 131 #[.slice p L.length cap, .agg #[.int .i64 2, .int .i64 c, .int .u32 x, .int .u32 y, .int .u32 o]] w
      fun e w' => e = .returned (.tuple #[.agg #[.int .i64 2, .int .i64 c, .int .u32 x, .int .u32 y, .int .u32 v], .bool true]) ∧ Row w' p g (L.set c.toNat x) ∧ Touch [g] w w' := by
  obtain ⟨rfl, hc1, hc2, ha, ha2, ha3⟩ := h.at_cell c v h0 h1 hv
  clear hv
  have ht := fun w => there_any (some ⟨g, 0, none⟩) L.length cap c w
  rw [decide_eq_true ⟨h0, h1⟩] at ht
  go_enter Try.func131, Try.ntmps131
  go_wp2_with (go_at_call 133; refine (ht _).mono ?_; rintro e w' ⟨rfl, rfl⟩)
  refine bodyPost_ret (v := .tuple #[.agg #[.int .i64 2, .int .i64 c, .int .u32 x, .int .u32 y, .int .u32 v], .bool true]) (by simp [results, Try.results131, go_sem]) rfl ?_
  refine ⟨rfl, (h.set c.toNat (by omega) _ hx.1 hx.2).touch (S := []) ?_ (by simp), ?_⟩
  · repeat (first | exact Touch.refl _ _ | apply Touch.drewN | apply Touch.drew | apply Touch.alloc)
  · repeat (first | exact Touch.refl _ _ | apply Touch.drewN | apply Touch.drew | apply Touch.alloc | refine Touch.set ?_ (by simp) _)

set_option maxHeartbeats 800000 in
theorem rdo_swap {w : World} {p : Option Addr} {g cap : Nat} {L : List Int} (h : Row w p g L) (hcap : L.length ≤ cap) (hcm : cap ≤ 9223372036854775807) (c x y o v : Int) (hx : 0 ≤ x ∧ x < 4294967296) (h0 : 0 ≤ c) (h1 : c < L.length) (hv : L.getD c.toNat 0 = v) :
    Calls Try.prog 131 #[.slice p L.length cap, .agg #[.int .i64 4, .int .i64 c, .int .u32 x, .int .u32 y, .int .u32 o]] w
      fun e w' => e = .returned (.tuple #[.agg #[.int .i64 4, .int .i64 c, .int .u32 x, .int .u32 y, .int .u32 v], .bool true]) ∧ Row w' p g (L.set c.toNat x) ∧ Touch [g] w w' := by
  obtain ⟨rfl, hc1, hc2, ha, ha2, ha3⟩ := h.at_cell c v h0 h1 hv
  clear hv
  have ht := fun w => there_any (some ⟨g, 0, none⟩) L.length cap c w
  rw [decide_eq_true ⟨h0, h1⟩] at ht
  go_enter Try.func131, Try.ntmps131
  go_wp2_with (go_at_call 133; refine (ht _).mono ?_; rintro e w' ⟨rfl, rfl⟩)
  refine bodyPost_ret (v := .tuple #[.agg #[.int .i64 4, .int .i64 c, .int .u32 x, .int .u32 y, .int .u32 v], .bool true]) (by simp [results, Try.results131, go_sem]) rfl ?_
  refine ⟨rfl, (h.set c.toNat (by omega) _ hx.1 hx.2).touch (S := []) ?_ (by simp), ?_⟩
  · repeat (first | exact Touch.refl _ _ | apply Touch.drewN | apply Touch.drew | apply Touch.alloc)
  · repeat (first | exact Touch.refl _ _ | apply Touch.drewN | apply Touch.drew | apply Touch.alloc | refine Touch.set ?_ (by simp) _)

set_option maxHeartbeats 800000 in
theorem rdo_add {w : World} {p : Option Addr} {g cap : Nat} {L : List Int} (h : Row w p g L) (hcap : L.length ≤ cap) (hcm : cap ≤ 9223372036854775807) (c x y o v : Int) (h0 : 0 ≤ c) (h1 : c < L.length) (hv : L.getD c.toNat 0 = v) :
    Calls Try.prog 131 #[.slice p L.length cap, .agg #[.int .i64 3, .int .i64 c, .int .u32 x, .int .u32 y, .int .u32 o]] w
      fun e w' => e = .returned (.tuple #[.agg #[.int .i64 3, .int .i64 c, .int .u32 x, .int .u32 y, .int .u32 v], .bool true]) ∧ Row w' p g (L.set c.toNat ((v + x) % 4294967296)) ∧ Touch [g] w w' := by
  obtain ⟨rfl, hc1, hc2, ha, ha2, ha3⟩ := h.at_cell c v h0 h1 hv
  clear hv
  have ht := fun w => there_any (some ⟨g, 0, none⟩) L.length cap c w
  rw [decide_eq_true ⟨h0, h1⟩] at ht
  go_enter Try.func131, Try.ntmps131
  go_wp2_with (go_at_call 133; refine (ht _).mono ?_; rintro e w' ⟨rfl, rfl⟩)
  refine bodyPost_ret (v := .tuple #[.agg #[.int .i64 3, .int .i64 c, .int .u32 x, .int .u32 y, .int .u32 v], .bool true]) (by simp [results, Try.results131, go_sem]) rfl ?_
  refine ⟨rfl, (h.set c.toNat (by omega) _ (by omega) (by omega)).touch (S := []) ?_ (by simp), ?_⟩
  · repeat (first | exact Touch.refl _ _ | apply Touch.drewN | apply Touch.drew | apply Touch.alloc)
  · repeat (first | exact Touch.refl _ _ | apply Touch.drewN | apply Touch.drew | apply Touch.alloc | refine Touch.set ?_ (by simp) _)

set_option maxHeartbeats 800000 in
theorem rdo_cas {w : World} {p : Option Addr} {g cap : Nat} {L : List Int} (h : Row w p g L) (hcap : L.length ≤ cap) (hcm : cap ≤ 9223372036854775807) (c x y o v : Int) (hy : 0 ≤ y ∧ y < 4294967296) (he : v = x) (h0 : 0 ≤ c) (h1 : c < L.length) (hv : L.getD c.toNat 0 = v) :
    Calls Try.prog 131 #[.slice p L.length cap, .agg #[.int .i64 5, .int .i64 c, .int .u32 x, .int .u32 y, .int .u32 o]] w
      fun e w' => e = .returned (.tuple #[.agg #[.int .i64 5, .int .i64 c, .int .u32 x, .int .u32 y, .int .u32 v], .bool true]) ∧ Row w' p g (L.set c.toNat y) ∧ Touch [g] w w' := by
  obtain ⟨rfl, hc1, hc2, ha, ha2, ha3⟩ := h.at_cell c v h0 h1 hv
  clear hv
  have ht := fun w => there_any (some ⟨g, 0, none⟩) L.length cap c w
  rw [decide_eq_true ⟨h0, h1⟩] at ht
  have he2 : (v == x) = true := by simp [he]
  clear he
  go_enter Try.func131, Try.ntmps131
  go_wp2_with (go_at_call 133; refine (ht _).mono ?_; rintro e w' ⟨rfl, rfl⟩)
  refine bodyPost_ret (v := .tuple #[.agg #[.int .i64 5, .int .i64 c, .int .u32 x, .int .u32 y, .int .u32 v], .bool true]) (by simp [results, Try.results131, go_sem]) rfl ?_
  refine ⟨rfl, (h.set c.toNat (by omega) _ hy.1 hy.2).touch (S := []) ?_ (by simp), ?_⟩
  · repeat (first | exact Touch.refl _ _ | apply Touch.drewN | apply Touch.drew | apply Touch.alloc)
  · repeat (first | exact Touch.refl _ _ | apply Touch.drewN | apply Touch.drew | apply Touch.alloc | refine Touch.set ?_ (by simp) _)

set_option maxHeartbeats 800000 in
theorem rdo_casnot {w : World} {p : Option Addr} {g cap : Nat} {L : List Int} (h : Row w p g L) (hcap : L.length ≤ cap) (hcm : cap ≤ 9223372036854775807) (c x y o v : Int) (he : v ≠ x) (h0 : 0 ≤ c) (h1 : c < L.length) (hv : L.getD c.toNat 0 = v) :
    Calls Try.prog 131 #[.slice p L.length cap, .agg #[.int .i64 5, .int .i64 c, .int .u32 x, .int .u32 y, .int .u32 o]] w
      fun e w' => e = .returned (.tuple #[.agg #[.int .i64 5, .int .i64 c, .int .u32 x, .int .u32 y, .int .u32 v], .bool true]) ∧ Touch [] w w' := by
  obtain ⟨rfl, hc1, hc2, ha, ha2, ha3⟩ := h.at_cell c v h0 h1 hv
  clear hv
  have ht := fun w => there_any (some ⟨g, 0, none⟩) L.length cap c w
  rw [decide_eq_true ⟨h0, h1⟩] at ht
  have he2 : (v == x) = false := by simpa using he
  clear he
  go_enter Try.func131, Try.ntmps131
  go_wp2_with (go_at_call 133; refine (ht _).mono ?_; rintro e w' ⟨rfl, rfl⟩)
  refine bodyPost_ret (v := .tuple #[.agg #[.int .i64 5, .int .i64 c, .int .u32 x, .int .u32 y, .int .u32 v], .bool true]) (by simp [results, Try.results131, go_sem]) rfl ?_
  refine ⟨rfl, ?_⟩
  repeat (first | exact Touch.refl _ _ | apply Touch.drewN | apply Touch.drew | apply Touch.alloc)

set_option maxHeartbeats 400000 in
theorem rdo_no {w : World} (p : Option Addr) (n cap : Nat) (k c x y o : Int) (hc : ¬ (0 ≤ c ∧ c < (n : Int)) ∨ k < 1 ∨ 5 < k) :
    Calls Try.prog 131 #[.slice p n cap, .agg #[.int .i64 k, .int .i64 c, .int .u32 x, .int .u32 y, .int .u32 o]] w
      fun e w' => e = .returned (.tuple #[Value.agg Acc.zero.cells, .bool false]) ∧ Touch [] w w' := by
  have ht := fun w => there_any p n cap c w
  by_cases hin : 0 ≤ c ∧ c < (n : Int)
  · rw [decide_eq_true hin] at ht
    have hk : k < 1 ∨ 5 < k := by omega
    clear hc hin
    rcases hk with hk | hk
    all_goals
      try have hk1 : ¬ (k < 1) := by omega
      go_enter Try.func131, Try.ntmps131
      go_wp2_with (go_at_call 133; refine (ht _).mono ?_; rintro e w' ⟨rfl, rfl⟩)
      refine bodyPost_ret (v := .tuple #[Value.agg Acc.zero.cells, .bool false]) (by simp [results, Try.results131, go_sem, Acc.zero, Acc.cells]) rfl ⟨rfl, ?_⟩
      repeat (first | exact Touch.refl _ _ | apply Touch.drew | apply Touch.alloc)
  · rw [decide_eq_false hin] at ht
    clear hc hin
    go_enter Try.func131, Try.ntmps131
    go_wp2_with (go_at_call 133; refine (ht _).mono ?_; rintro e w' ⟨rfl, rfl⟩)
    refine bodyPost_ret (v := .tuple #[Value.agg Acc.zero.cells, .bool false]) (by simp [results, Try.results131, go_sem, Acc.zero, Acc.cells]) rfl ⟨rfl, ?_⟩
    repeat (first | exact Touch.refl _ _ | apply Touch.drew | apply Touch.alloc)

/-- WHATEVER THE ACCESS: the document's answer is doA. -/
theorem rdo_any {w : World} {p : Option Addr} {g cap : Nat} {L : List Int} (h : Row w p g L) (hcap : L.length ≤ cap) (hcm : cap ≤ 9223372036854775807) (b : Acc) (hx : 0 ≤ b.x ∧ b.x < 4294967296) (hy : 0 ≤ b.y ∧ b.y < 4294967296) :
    Calls Try.prog 131 #[.slice p L.length cap, .agg b.cells] w
      fun e w' => e = .returned (.tuple #[.agg (doA L b).1.cells, .bool (doA L b).2.1]) ∧ Row w' p g (doA L b).2.2 ∧ Touch (lv g L) w w' := by
  obtain ⟨k, c, x, y, o⟩ := b
  have none : ∀ (e : Ending) (w' : World), (e = .returned (.tuple #[Value.agg Acc.zero.cells, .bool false]) ∧ Touch [] w w') → e = .returned (.tuple #[.agg Acc.zero.cells, .bool false]) ∧ Row w' p g L ∧ Touch (lv g L) w w' :=
    fun e w' ⟨he, ht⟩ => ⟨he, h.touch ht (by simp), ht.mono (by simp)⟩
  by_cases hc : 0 ≤ c ∧ c < L.length
  · have hd : ∀ k, doA L ⟨k, c, x, y, o⟩ = (let old := L.getD c.toNat 0
        if k = 1 then ((⟨k, c, x, y, old⟩ : Acc), true, L)
        else if k = 3 then (⟨k, c, x, y, old⟩, true, L.set c.toNat ((old + x) % 4294967296))
        else if k = 5 then (⟨k, c, x, y, old⟩, true, if old = x then L.set c.toNat y else L)
        else if k = 2 ∨ k = 4 then (⟨k, c, x, y, old⟩, true, L.set c.toNat x)
        else (Acc.zero, false, L)) := fun k => if_pos hc
    rw [hd k, show lv g L = [g] from if_pos (by omega)]
    clear hd
    by_cases k1 : k = 1
    · subst k1
      exact (rdo_load h hcap hcm c x y o _ hc.1 hc.2 rfl).mono fun e w' ⟨he, ht⟩ => ⟨he, h.touch ht (by simp), ht.mono (by simp)⟩
    by_cases k3 : k = 3
    · subst k3
      exact rdo_add h hcap hcm c x y o _ hc.1 hc.2 rfl
    by_cases k5 : k = 5
    · subst k5
      by_cases he : L.getD c.toNat 0 = x
      · simp only [he, if_true]
        exact rdo_cas h hcap hcm c x y o x hy rfl hc.1 hc.2 he
      · simp only [he, if_false]
        exact (rdo_casnot h hcap hcm c x y o _ he hc.1 hc.2 rfl).mono fun e w' ⟨he, ht⟩ => ⟨he, h.touch ht (by simp), ht.mono (by simp)⟩
    by_cases k2 : k = 2
    · subst k2
      exact rdo_store h hcap hcm c x y o _ hx hc.1 hc.2 rfl
    by_cases k4 : k = 4
    · subst k4
      exact rdo_swap h hcap hcm c x y o _ hx hc.1 hc.2 rfl
    simp only [k1, k2, k3, k4, k5, if_false, or_self]
    exact (rdo_no p L.length cap k c x y o (by omega)).mono fun e w' ⟨he, ht⟩ => ⟨he, h.touch ht (by simp), ht.mono (by simp)⟩
  · rw [show doA L ⟨k, c, x, y, o⟩ = (Acc.zero, false, L) from if_neg hc]
    exact (rdo_no p L.length cap k c x y o (.inl hc)).mono none

end Go.Proofs.Ytlndihdlodempaa.Z
