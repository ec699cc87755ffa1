/- 6 texts of this claim, joined: what Package world needs of them. -/
import Derived.Test.YthnimpkoidablaaGreatZB00
import Derived.Outline
set_option linter.unusedVariables false
set_option linter.unusedSimpArgs false
namespace Go.Proofs.YthnimpkoidablaaGreat.Z
open Go.RowKit
def ldA (L : List Int) (c : Int) : Int := if 0 ≤ c ∧ c < L.length then L.getD c.toNat 0 else 0
theorem z32 : (0 : Int) ≤ 0 ∧ (0 : Int) < 4294967296 := by decide
theorem do_ld {w : World} {m a : Nat} {L : List Int} (h : Mem w m a L) (c : Int) :
    Calls Tryz.prog 127 #[.pointer (some ⟨m, 0, none⟩), .agg #[.int .i64 1, .int .i64 c, .int .u32 0, .int .u32 0, .int .u32 0]] w
      fun e w' => ∃ (k c' x y : Int) (b : Bool), e = .returned (.tuple #[.agg #[.int .i64 k, .int .i64 c', .int .u32 x, .int .u32 y, .int .u32 (ldA L c)], .bool b]) ∧ Touch [] w w' := by
  by_cases hc : 0 ≤ c ∧ c < L.length
  · refine (do_load h c 0 0 0 _ hc.1 hc.2 rfl).mono ?_
    rintro e w' ⟨rfl, ht⟩
    refine ⟨1, c, 0, 0, true, by rw [show ldA L c = _ from if_pos hc], ?_⟩
    exact ht
  · refine (do_out h 1 c 0 0 0 hc).mono ?_
    rintro e w' ⟨rfl, ht⟩
    exact ⟨0, 0, 0, 0, false, by rw [show ldA L c = 0 from if_neg hc]; rfl, ht⟩
set_option maxHeartbeats 400000 in
theorem load_any {w : World} {m a : Nat} {L : List Int} (h : Mem w m a L) (c : Int) :
    Calls Tryz.prog 129 #[.pointer (some ⟨m, 0, none⟩), .int .i64 c] w fun e w' => e = .returned (.int .u32 (ldA L c)) ∧ Touch [] w w' := by
  go_enter Tryz.func129, Tryz.ntmps129
  go_wp2_with (go_at_call 127; refine (do_ld h c).mono ?_; rintro e w' ⟨k, c', x, y, b, rfl, ht⟩)
  go_ret
  exact ⟨rfl, ht.alloc _⟩
end Go.Proofs.YthnimpkoidablaaGreat.Z

set_option linter.unusedVariables false
set_option linter.unusedSimpArgs false
namespace Go.Proofs.YthnimpkoidablaaGreat.Z
open Go.RowKit
theorem u32s_length (L : List Int) : (u32s L).length = L.length := by simp [u32s]
theorem u32s_one (L : List Int) : ∀ u ∈ u32s L, u.oneCell' = true := oneCell_ints
theorem mem_of_owns {w : World} {base e : Nat} {v : Value} {L : List Int} (h : w.ownsRow base e 1 v L.length (u32s L)) (hw : Words L) (hb : base ≤ w.heap.size) (T : TypeId) :
    ∃ a, Mem (w.alloc (.cells #[v] T)) w.heap.size a L ∧ base ≤ a := by
  rcases h.2 with ⟨rfl, h0⟩ | ⟨g, cap, cur, rfl, hg, hh, hc, hm, hs, ht⟩
  · refine ⟨w.heap.size + 1, ⟨by omega, hw, ⟨none, 0, ?_, by omega, by omega, fun h => by omega⟩, fun h => by omega⟩, by omega⟩
    rw [h0]
    exact Blk.new _ _ _
  · have hlt : g < w.heap.size := by
      rcases Nat.lt_or_ge g w.heap.size with h' | h'
      · exact h'
      · simp [Array.getElem?_eq_none h'] at hh
    refine ⟨g, ⟨by omega, hw, ⟨_, cap, Blk.new _ _ _, hc, by unfold maxLen at hm; omega, fun _ => rfl⟩, fun _ => ⟨cur.toList.drop (L.length * 1), ?_⟩⟩, hg⟩
    refine Blk.alloc ⟨e, ?_⟩ _
    rw [hh, ← ht, List.take_append_drop]
def NewMem (w : World) (L : List Int) (e : Ending) (w' : World) : Prop :=
  ∃ m a, e = .returned (.tuple #[.pointer (some ⟨m, 0, none⟩), .int .i64 0]) ∧ Mem w' m a L ∧ w.heap.size ≤ m ∧ w.heap.size ≤ a ∧ Touch [] w w'
def NewRow (w : World) (L : List Int) (e : Ending) (w' : World) : Prop := ∃ p cap, e = .returned (.slice p L.length cap) ∧ w'.ownsRow w.heap.size 22 1 (.slice p L.length cap) L.length (u32s L) ∧ Touch [] w w'
theorem len_of_rd {w : World} {A : Option Addr} {n : Nat} {L : List Int} (h : Rd w 1 A n (u32s L)) : L.length = n := by
  have := h.1
  rw [u32s_length] at this
  omega
set_option maxHeartbeats 400000 in
theorem from_ok {A : Option Addr} {n c : Nat} {L : List Int} (w : World) (hr : Rd w 1 A n (u32s L)) (hw : Words L) :
    Calls Tryz.prog 48 #[.slice A n c] w (NewMem w L) := by
  have hl := len_of_rd hr
  subst hl
  have h1024 := hw.1
  have hle : ¬ ((1024 : Int) < (L.length : Int)) := by omega
  go_enter Tryz.func48, Tryz.ntmps48
  go_wp2_with (go_at_call 66; refine (clone_any _ hr (u32s_one L) (by omega)).mono ?_; rintro e w' ⟨v, rfl, hown, hb⟩; obtain ⟨p, cap, rfl⟩ := owns_slice hown)
  go_ret2
  obtain ⟨a, hm, ha⟩ := mem_of_owns hown hw hb.size 127
  exact ⟨w'.heap.size, a, rfl, hm, hb.size, ha, (Below.toTouch hb).alloc _⟩
set_option maxHeartbeats 400000 in
theorem all_mem {w : World} {m a : Nat} {L : List Int} (h : Mem w m a L) :
    Calls Tryz.prog 40 #[.pointer (some ⟨m, 0, none⟩)] w (NewRow w L) := by
  obtain ⟨p, cap, hb, hc, hm, hp⟩ := h.head
  have hc0 := hb.cell 0
  have h1024 := h.words.1
  have hr : Rd w 1 p L.length (u32s L) := by
    refine ⟨by simp [u32s], fun h0 => ?_⟩
    obtain ⟨rest, hr⟩ := h.body h0
    refine ⟨_, hp h0, hr.lt, fun j u hj => ?_⟩
    rw [Addr.add_lit]
    have hj' : j < (u32s L).length := (List.getElem?_eq_some_iff.1 hj).1
    simp only [Nat.zero_add]
    rw [hr.cell, ← hj]
    simp [List.getElem?_append, hj']
  clear hp hb hc
  go_enter Tryz.func40, Tryz.ntmps40
  go_wp2_with (go_at_call 66; refine (clone_any _ hr (u32s_one L) (by omega)).mono ?_; rintro e w' ⟨v, rfl, hown, hb⟩)
  go_ret
  obtain ⟨p, cap, rfl⟩ := owns_slice hown
  exact ⟨p, cap, rfl, hown, Below.toTouch hb⟩
end Go.Proofs.YthnimpkoidablaaGreat.Z

set_option linter.unusedVariables false
set_option linter.unusedSimpArgs false
namespace Go.Proofs.YthnimpkoidablaaGreat.Z
open Go.RowKit
structure Row (w : World) (p : Option Addr) (g : Nat) (L : List Int) : Prop where
  words : Words L
  at_ : 0 < L.length → p = some ⟨g, 0, none⟩
  body : 0 < L.length → ∃ rest, Blk w g ((u32s L) ++ rest).toArray
theorem Row.lt {w : World} {p : Option Addr} {g : Nat} {L : List Int} (h : Row w p g L) : 0 < L.length → g < w.heap.size := fun h0 => by
  obtain ⟨rest, hr⟩ := h.body h0
  exact hr.lt
theorem Row.touch {w w' : World} {p : Option Addr} {g : Nat} {L : List Int} {S : List Nat} (h : Row w p g L) (t : Touch S w w') (hg : g ∉ S) : Row w' p g L :=
  ⟨h.words, h.at_, fun h0 => by
    obtain ⟨rest, hr⟩ := h.body h0
    exact ⟨rest, t.blk hr hg⟩⟩
theorem Row.set {w : World} {p : Option Addr} {g : Nat} {L : List Int} (h : Row w p g L) (i : Nat) (hi : i < L.length) (v : Int) (h0 : 0 ≤ v) (h1 : v < 4294967296) :
    Row (w.setCell ⟨g, i, none⟩ (.int .u32 v)) p g (L.set i v) := by
  obtain ⟨rest, hr⟩ := h.body (by omega)
  exact ⟨h.words.set i v h0 h1, by simpa using h.at_, fun _ => ⟨rest, (hr.set i _).eq (u32s_set hi rest v)⟩⟩
theorem Row.rd {w : World} {p : Option Addr} {g : Nat} {L : List Int} (h : Row w p g L) : Rd w 1 p L.length (u32s L) := by
  refine ⟨by simp [u32s], fun h0 => ?_⟩
  obtain ⟨rest, hr⟩ := h.body h0
  refine ⟨_, h.at_ h0, hr.lt, fun j u hj => ?_⟩
  rw [Addr.add_lit]
  have hj' : j < (u32s L).length := (List.getElem?_eq_some_iff.1 hj).1
  simp only [Nat.zero_add]
  rw [hr.cell, ← hj]
  simp [List.getElem?_append, hj']
theorem Row.rd' {w : World} {p : Option Addr} {g n : Nat} {L : List Int} (h : Row w p g L) (hn : L.length = n) : Rd w 1 p n (u32s L) := hn ▸ h.rd
theorem Row.of_owns {w : World} {base e : Nat} {p : Option Addr} {cap : Nat} {L : List Int} (h : w.ownsRow base e 1 (.slice p L.length cap) L.length (u32s L)) (hw : Words L) : ∃ g, Row w p g L ∧ base ≤ g := by
  rcases h.2 with ⟨hv, h0⟩ | ⟨g, cap', cur, hv, hg, hh, hc, hm, hs, ht⟩
  · exact ⟨base, ⟨hw, fun h => by omega, fun h => by omega⟩, Nat.le_refl _⟩
  · simp only [Value.slice.injEq] at hv
    obtain ⟨rfl, _, rfl⟩ := hv
    exact ⟨g, ⟨hw, fun _ => rfl, fun _ => ⟨cur.toList.drop (L.length * 1), e, by rw [hh, ← ht, List.take_append_drop]⟩⟩, hg⟩
theorem owns_cap {w : World} {base e : Nat} {p : Option Addr} {n cap : Nat} {xs : List Value} (h : w.ownsRow base e 1 (.slice p n cap) n xs) : n ≤ cap ∧ cap ≤ 9223372036854775807 := by
  rcases h.2 with ⟨hv, h0⟩ | ⟨g, cap', cur, hv, hg, hh, hc, hm, hs, ht⟩
  · simp only [Value.slice.injEq] at hv
    obtain ⟨_, rfl, rfl⟩ := hv
    exact ⟨Nat.le_refl _, by decide⟩
  · simp only [Value.slice.injEq] at hv
    obtain ⟨_, _, rfl⟩ := hv
    exact ⟨hc, by unfold maxLen at hm; omega⟩
theorem doA_length (L : List Int) (b : Acc) : (doA L b).2.2.length = L.length := by
  unfold doA
  split
  · dsimp only
    split
    · rfl
    · split
      · simp
      · split
        · dsimp only; split <;> simp
        · split <;> simp
  · rfl
theorem Row.at_cell {w : World} {p : Option Addr} {g : Nat} {L : List Int} (h : Row w p g L) (c v : Int) (h0 : 0 ≤ c) (h1 : c < L.length) (hv : L.getD c.toNat 0 = v) :
    p = some ⟨g, 0, none⟩ ∧ w.cell? ⟨g, c.toNat, none⟩ = some (.int .u32 v) ∧ w.frozen? ⟨g, c.toNat, none⟩ = false ∧ g < w.heap.size ∧ g ≠ w.heap.size ∧ g ≠ w.heap.size + 1 := by
  obtain ⟨rest, hr⟩ := h.body (by omega)
  have hg := hr.lt
  exact ⟨h.at_ (by omega), by rw [hr.cell, u32s_get (by omega), hv], hr.free _, hg, by omega, by omega⟩
end Go.Proofs.YthnimpkoidablaaGreat.Z

set_option linter.unusedVariables false
set_option linter.unusedSimpArgs false
namespace Go.Proofs.YthnimpkoidablaaGreat.Z
open Go.RowKit
theorem calls_from {P : Program} {f : FuncId} {args : Array Value} {W0 : World} {R : Ending → World → Prop} {Facts : World → Prop} (h : ∀ W, Facts W → Calls P f args W R) (h0 : Facts W0) : Calls P f args W0 R := h _ h0
theorem wp_from {P : Program} {c : Code} {Q : Exit → Act → World → Prop} {a : Act} {W0 : World} {Facts : World → Prop} (h : ∀ W, Facts W → c.wp P Q a W) (h0 : Facts W0) : c.wp P Q a W0 := h _ h0
theorem blk_set5 {w : World} {b : Nat} {c0 c1 c2 c3 c4 v0 v1 v2 v3 v4 : Value} (h : Blk w b #[c0, c1, c2, c3, c4]) :
    Blk (((((w.setCell ⟨b, 0, none⟩ v0).setCell ⟨b, 1, none⟩ v1).setCell ⟨b, 2, none⟩ v2).setCell ⟨b, 3, none⟩ v3).setCell ⟨b, 4, none⟩ v4) b #[v0, v1, v2, v3, v4] :=
  (((((h.set 0 v0).set 1 v1).set 2 v2).set 3 v3).set 4 v4).eq rfl
theorem touch_set5 {w : World} {b : Nat} {v0 v1 v2 v3 v4 : Value} :
    Touch [b] w (((((w.setCell ⟨b, 0, none⟩ v0).setCell ⟨b, 1, none⟩ v1).setCell ⟨b, 2, none⟩ v2).setCell ⟨b, 3, none⟩ v3).setCell ⟨b, 4, none⟩ v4) :=
  ((((((Touch.refl [b] w).set (p := ⟨b, 0, none⟩) (by simp) v0).set (p := ⟨b, 1, none⟩) (by simp) v1).set (p := ⟨b, 2, none⟩) (by simp) v2).set (p := ⟨b, 3, none⟩) (by simp) v3).set (p := ⟨b, 4, none⟩) (by simp) v4)
theorem Row.new {w0 w2 wf : World} {p : Option Addr} {g : Nat} {L0 L2 : List Int} {S : List Nat} (h0 : Row w0 p g L0) (h : Row w2 p g L2) (hl : L2.length = L0.length) (t : Touch S w2 wf) (hS : ∀ k, k ∈ S → w0.heap.size ≤ k) : Row wf p g L2 :=
  ⟨h.words, h.at_, fun hp => by
    obtain ⟨rest, hr⟩ := h.body hp
    exact ⟨rest, t.blk hr (fun hm => by have := hS _ hm; have := h0.lt (by omega); omega)⟩⟩
theorem Mem.new {w0 w2 wf : World} {m a : Nat} {L0 L2 : List Int} {S : List Nat} (h0 : Mem w0 m a L0) (h : Mem w2 m a L2) (hl : L2.length = L0.length) (t : Touch S w2 wf) (hS : ∀ k, k ∈ S → w0.heap.size ≤ k) : Mem wf m a L2 := by
  obtain ⟨p, cap, hb, r⟩ := h.head
  have hlt := h0.lt
  refine ⟨h.ne, h.words, ⟨p, cap, t.blk hb (fun hm => by have := hS _ hm; omega), r⟩, fun hp => ?_⟩
  obtain ⟨rest, hr⟩ := h.body hp
  exact ⟨rest, t.blk hr (fun hm => by have := hS _ hm; have := hlt.2 (by omega); omega)⟩
end Go.Proofs.YthnimpkoidablaaGreat.Z

set_option linter.unusedVariables false
set_option linter.unusedSimpArgs false
namespace Go.Proofs.YthnimpkoidablaaGreat.Z
open Go.RowKit
inductive Res where
  | blk (b : Nat) (cs : Array Value)
  | mem (m a : Nat) (L : List Int)
  | row (p : Option Addr) (g cap : Nat) (L : List Int)
  | own (e size : Nat) (v : Value) (n : Nat) (xs : List Value)
def Res.foot : Res → List Nat
  | .blk b _ => [b]
  | .mem m a L => m :: lv a L
  | .row _ g _ L => lv g L
  | .own _ _ v _ _ => v.ownBlock.toList
def Res.holds (w : World) : Res → Prop
  | .blk b cs => Blk w b cs
  | .mem m a L => Mem w m a L
  | .row p g cap L => Row w p g L ∧ L.length ≤ cap ∧ cap ≤ 9223372036854775807
  | .own e size v n xs => w.ownsRow 0 e size v n xs
theorem Res.lt {w : World} {r : Res} (h : r.holds w) : ∀ k, k ∈ r.foot → k < w.heap.size := by
  intro k hk
  cases r with
  | blk b cs => simp only [Res.foot, List.mem_singleton] at hk; subst hk; exact Blk.lt h
  | mem m a L =>
    simp only [Res.foot, List.mem_cons] at hk
    have := Mem.lt h
    rcases hk with rfl | hk
    · exact this.1
    · obtain ⟨rfl, h0⟩ := mem_lv hk; exact this.2 h0
  | row p g cap L =>
    obtain ⟨rfl, h0⟩ := mem_lv hk
    exact h.1.lt h0
  | own e size v n xs =>
    rcases owns_block h with rfl | ⟨g, c, rfl, _, hg, _⟩
    · simp [Res.foot, Value.ownBlock] at hk
    · simp [Res.foot, Value.ownBlock] at hk; omega
theorem Res.keep {w w' : World} {r : Res} {S : List Nat} (h : r.holds w) (t : Touch S w w') (hs : ∀ k, k ∈ r.foot → k ∉ S) : r.holds w' := by
  cases r with
  | blk b cs => exact t.blk h (hs b (by simp [Res.foot]))
  | mem m a L =>
    obtain ⟨p, cap, hb, r⟩ := Mem.head h
    refine ⟨Mem.ne h, Mem.words h, ⟨p, cap, t.blk hb (hs m (by simp [Res.foot])), r⟩, fun h0 => ?_⟩
    obtain ⟨rest, hr⟩ := Mem.body h h0
    exact ⟨rest, t.blk hr (hs a (by simp [Res.foot, lv, h0]))⟩
  | row p g cap L =>
    refine ⟨⟨h.1.words, h.1.at_, fun h0 => ?_⟩, h.2⟩
    obtain ⟨rest, hr⟩ := h.1.body h0
    exact ⟨rest, t.blk hr (hs g (by simp [Res.foot, lv, h0]))⟩
  | own e size v n xs =>
    refine owns_touch h t (fun g hg => hs g ?_)
    simp [Res.foot, hg]
def foots (rs : List Res) : List Nat := rs.flatMap Res.foot
theorem mem_foots {rs : List Res} {k : Nat} : k ∈ foots rs ↔ ∃ r, r ∈ rs ∧ k ∈ r.foot := by simp [foots]
def Apart (r s : Res) : Prop := ∀ k, k ∈ r.foot → k ∉ s.foot
theorem Apart.symm {r s : Res} (h : Apart r s) : Apart s r := fun k hs hr => h k hr hs
structure Has (S0 : List Nat) (w0 w : World) (rs : List Res) : Prop where
  touch : Touch S0 w0 w
  all : ∀ r, r ∈ rs → r.holds w
  apart : rs.Pairwise Apart
  fresh : ∀ r, r ∈ rs → ∀ k, k ∈ r.foot → k ∈ S0 ∨ w0.heap.size ≤ k
theorem Has.start (S0 : List Nat) (w : World) : Has S0 w w [] := ⟨Touch.refl _ _, by simp, List.Pairwise.nil, by simp⟩
theorem Has.lt {S0 : List Nat} {w0 w : World} {rs : List Res} (h : Has S0 w0 w rs) : ∀ r, r ∈ rs → ∀ k, k ∈ r.foot → k < w.heap.size := fun r hr => Res.lt (h.all r hr)
theorem Has.upd {S0 : List Nat} {w0 w w' : World} {xs rs : List Res} (ys : List Res) {S : List Nat} (h : Has S0 w0 w (xs ++ rs)) (t : Touch S w w')
    (hS : ∀ k, k ∈ S → k ∈ foots xs ∨ w.heap.size ≤ k) (hy : ∀ r, r ∈ ys → r.holds w') (ha : ys.Pairwise Apart) (hf : ∀ r, r ∈ ys → ∀ k, k ∈ r.foot → k ∈ foots xs ∨ w.heap.size ≤ k) : Has S0 w0 w' (ys ++ rs) := by
  obtain ⟨h1, h2, h3⟩ := List.pairwise_append.1 h.apart
  have far : ∀ r, r ∈ rs → ∀ k, k ∈ r.foot → k ∉ foots xs := fun r hr k hk hm => by
    obtain ⟨s, hs, hks⟩ := mem_foots.1 hm
    exact h3 s hs r hr k hks hk
  have old : ∀ k, k ∈ foots xs → k ∈ S0 ∨ w0.heap.size ≤ k := fun k hk => by
    obtain ⟨s, hs, hks⟩ := mem_foots.1 hk
    exact h.fresh s (List.mem_append_left _ hs) k hks
  have ht : Touch S0 w0 w' := by
    refine ⟨t.os.trans h.touch.os, t.tape.trans h.touch.tape, t.output.trans h.touch.output, Nat.le_trans h.touch.size t.size, fun k hk hs => ?_⟩
    refine (t.block k (Nat.lt_of_lt_of_le hk h.touch.size) (fun hm => ?_)).trans (h.touch.block k hk hs)
    have := h.touch.size
    rcases hS k hm with h' | h'
    · rcases old k h' with h'' | h''
      · exact hs h''
      · omega
    · omega
  refine ⟨ht, fun r hr => ?_, List.pairwise_append.2 ⟨ha, h2, fun y hyy r hr k hk hkr => ?_⟩, fun r hr k hk => ?_⟩
  · rcases List.mem_append.1 hr with hr | hr
    · exact hy r hr
    · refine Res.keep (h.all r (List.mem_append_right _ hr)) t (fun k hk hm => ?_)
      have := h.lt r (List.mem_append_right _ hr) k hk
      rcases hS k hm with h' | h'
      · exact far r hr k hk h'
      · omega
  · have := h.lt r (List.mem_append_right _ hr) k hkr
    rcases hf y hyy k hk with h' | h'
    · exact far r hr k hkr h'
    · omega
  · rcases List.mem_append.1 hr with hr | hr
    · rcases hf r hr k hk with h' | h'
      · exact old k h'
      · exact Or.inr (Nat.le_trans h.touch.size h')
    · exact h.fresh r (List.mem_append_right _ hr) k hk
theorem Has.perm {S0 : List Nat} {w0 w : World} {rs rs' : List Res} (h : Has S0 w0 w rs) (p : rs.Perm rs') : Has S0 w0 w rs' :=
  ⟨h.touch, fun r hr => h.all r (p.mem_iff.2 hr), (p.pairwise_iff (fun h => Apart.symm h)).1 h.apart, fun r hr => h.fresh r (p.mem_iff.2 hr)⟩
theorem perm_front {α : Type} : ∀ (l : List α) (i : Nat) (hi : i < l.length), l.Perm (l[i] :: l.eraseIdx i)
  | [], i, hi => by simp at hi
  | x :: l, 0, _ => by simp
  | x :: l, i + 1, hi => by
    simp only [List.getElem_cons_succ, List.eraseIdx_cons_succ]
    exact ((perm_front l i (by simpa using hi)).cons x).trans (List.Perm.swap _ _ _)
theorem Has.front {S0 : List Nat} {w0 w : World} {rs : List Res} (h : Has S0 w0 w rs) (i : Nat) (hi : i < rs.length) : Has S0 w0 w (rs[i] :: rs.eraseIdx i) :=
  h.perm (perm_front rs i hi)
theorem Has.swap {S0 : List Nat} {w0 w : World} {x y : Res} {rs : List Res} (h : Has S0 w0 w (x :: y :: rs)) : Has S0 w0 w (y :: x :: rs) := h.perm (List.Perm.swap y x rs)
theorem Has.rot3 {S0 : List Nat} {w0 w : World} {x y z : Res} {rs : List Res} (h : Has S0 w0 w (x :: y :: z :: rs)) : Has S0 w0 w (z :: x :: y :: rs) := h.front 2 (by simp)
theorem Has.back3 {S0 : List Nat} {w0 w : World} {x y z : Res} {rs : List Res} (h : Has S0 w0 w (z :: x :: y :: rs)) : Has S0 w0 w (x :: y :: z :: rs) := h.rot3.rot3
theorem Has.tail {S0 : List Nat} {w0 w : World} {x : Res} {rs : List Res} (h : Has S0 w0 w (x :: rs)) : Has S0 w0 w rs :=
  ⟨h.touch, fun r hr => h.all r (List.mem_cons_of_mem _ hr), (List.pairwise_cons.1 h.apart).2, fun r hr => h.fresh r (List.mem_cons_of_mem _ hr)⟩
theorem Has.drop1 {S0 : List Nat} {w0 w : World} {x y : Res} {rs : List Res} (h : Has S0 w0 w (x :: y :: rs)) : Has S0 w0 w (x :: rs) := h.swap.tail
theorem Has.drew {S0 : List Nat} {w0 w : World} {rs : List Res} (h : Has S0 w0 w rs) : Has S0 w0 w.drew rs := by
  have := Has.upd (xs := []) (rs := rs) [] (S := []) h ((Touch.refl [] w).drew) (by simp) (by simp) List.Pairwise.nil (by simp)
  exact this
theorem Has.drewN {S0 : List Nat} {w0 w : World} {rs : List Res} (h : Has S0 w0 w rs) (n : Nat) : Has S0 w0 (w.drewN n) rs := by
  have := Has.upd (xs := []) (rs := rs) [] (S := []) h ((Touch.refl [] w).drewN n) (by simp) (by simp) List.Pairwise.nil (by simp)
  exact this
theorem Has.grow {S0 : List Nat} {w0 w w' : World} {rs : List Res} (h : Has S0 w0 w rs) (t : Touch [] w w') : Has S0 w0 w' rs := by
  have := Has.upd (xs := []) (rs := rs) [] (S := []) h t (by simp) (by simp) List.Pairwise.nil (by simp)
  exact this
theorem Has.new {S0 : List Nat} {w0 w : World} {rs : List Res} (h : Has S0 w0 w rs) {b : Nat} (hb : w.heap.size = b) (cs : Array Value) (T : TypeId) : Has S0 w0 (w.alloc (.cells cs T)) (.blk b cs :: rs) := by
  subst hb
  exact Has.upd (xs := []) (rs := rs) [.blk w.heap.size cs] (S := []) h ((Touch.refl [] w).alloc _) (by simp) (by simp [Res.holds]; exact Blk.new _ _ _) (by simp) (by simp [Res.foot])
theorem Has.al {S0 : List Nat} {w0 w : World} {x : Res} {rs : List Res} (h : Has S0 w0 w (x :: rs)) {b : Nat} (hb : w.heap.size = b) (cs : Array Value) (T : TypeId) : Has S0 w0 (w.alloc (.cells cs T)) (x :: .blk b cs :: rs) := (h.new hb cs T).swap
theorem Has.set {S0 : List Nat} {w0 w : World} {b : Nat} {cs : Array Value} {rs : List Res} (h : Has S0 w0 w (.blk b cs :: rs)) (i : Nat) (v : Value) : Has S0 w0 (w.setCell ⟨b, i, none⟩ v) (.blk b (cs.setIfInBounds i v) :: rs) :=
  Has.upd (xs := [.blk b cs]) (rs := rs) [.blk b (cs.setIfInBounds i v)] (S := [b]) h ((Touch.refl [b] w).set (by simp) v) (by simp [foots, Res.foot]) (by simp [Res.holds]; exact (h.all (.blk b cs) (by simp)).set i v) (by simp) (by simp [foots, Res.foot])
theorem Has.set1 {S0 : List Nat} {w0 w : World} {x : Res} {b : Nat} {cs : Array Value} {rs : List Res} (h : Has S0 w0 w (x :: .blk b cs :: rs)) (i : Nat) (v : Value) : Has S0 w0 (w.setCell ⟨b, i, none⟩ v) (x :: .blk b (cs.setIfInBounds i v) :: rs) :=
  (h.swap.set i v).swap
theorem Has.blk {S0 : List Nat} {w0 w : World} {b : Nat} {cs : Array Value} {rs : List Res} (h : Has S0 w0 w (.blk b cs :: rs)) : Blk w b cs := h.all (.blk b cs) (by simp)
theorem Has.blk1 {S0 : List Nat} {w0 w : World} {x : Res} {b : Nat} {cs : Array Value} {rs : List Res} (h : Has S0 w0 w (x :: .blk b cs :: rs)) : Blk w b cs := h.all (.blk b cs) (by simp)
theorem Has.blk2 {S0 : List Nat} {w0 w : World} {x y : Res} {b : Nat} {cs : Array Value} {rs : List Res} (h : Has S0 w0 w (x :: y :: .blk b cs :: rs)) : Blk w b cs := h.all (.blk b cs) (by simp)
theorem Has.blk3 {S0 : List Nat} {w0 w : World} {x y z : Res} {b : Nat} {cs : Array Value} {rs : List Res} (h : Has S0 w0 w (x :: y :: z :: .blk b cs :: rs)) : Blk w b cs := h.all (.blk b cs) (by simp)
theorem Has.blk4 {S0 : List Nat} {w0 w : World} {x y z u : Res} {b : Nat} {cs : Array Value} {rs : List Res} (h : Has S0 w0 w (x :: y :: z :: u :: .blk b cs :: rs)) : Blk w b cs := h.all (.blk b cs) (by simp)
theorem Has.blk5 {S0 : List Nat} {w0 w : World} {x y z u v : Res} {b : Nat} {cs : Array Value} {rs : List Res} (h : Has S0 w0 w (x :: y :: z :: u :: v :: .blk b cs :: rs)) : Blk w b cs := h.all (.blk b cs) (by simp)
theorem Has.mem {S0 : List Nat} {w0 w : World} {m a : Nat} {L : List Int} {rs : List Res} (h : Has S0 w0 w (.mem m a L :: rs)) : Mem w m a L := h.all (.mem m a L) (by simp)
theorem Has.row {S0 : List Nat} {w0 w : World} {p : Option Addr} {g cap : Nat} {L : List Int} {rs : List Res} (h : Has S0 w0 w (.row p g cap L :: rs)) : Row w p g L := (h.all (.row p g cap L) (by simp)).1
theorem Has.cap {S0 : List Nat} {w0 w : World} {p : Option Addr} {g cap : Nat} {L : List Int} {rs : List Res} (h : Has S0 w0 w (.row p g cap L :: rs)) : L.length ≤ cap ∧ cap ≤ 9223372036854775807 := (h.all (.row p g cap L) (by simp)).2
theorem Has.words {S0 : List Nat} {w0 w w' : World} {m a : Nat} {L L' : List Int} {rs : List Res} (h : Has S0 w0 w (.mem m a L :: rs)) (hM : Mem w' m a L') (hl : L'.length = L.length) (t : Touch (lv a L) w w') : Has S0 w0 w' (.mem m a L' :: rs) :=
  Has.upd (xs := [.mem m a L]) (rs := rs) [.mem m a L'] (S := lv a L) h t (fun k hk => Or.inl (by simp [foots, Res.foot, hk])) (by simp [Res.holds]; exact hM) (by simp) (by intro r hr k hk; simp only [List.mem_singleton] at hr; subst hr; left; simpa [foots, Res.foot, lv, hl] using hk)
theorem Has.take {S0 : List Nat} {w : World} {r : Res} {rs : List Res} (h : Has S0 w w rs) (hr : r.holds w) (hf : ∀ k, k ∈ r.foot → k ∈ S0) (ha : ∀ s, s ∈ rs → Apart r s) : Has S0 w w (r :: rs) :=
  ⟨h.touch, fun s hs => by
    rcases List.mem_cons.1 hs with rfl | hs
    · exact hr
    · exact h.all s hs, List.pairwise_cons.2 ⟨ha, h.apart⟩, fun s hs k hk => by
    rcases List.mem_cons.1 hs with rfl | hs
    · exact Or.inl (hf k hk)
    · exact h.fresh s hs k hk⟩
theorem Has.came {S0 : List Nat} {w0 w w' : World} {rs : List Res} (r : Res) {S : List Nat} (h : Has S0 w0 w rs) (t : Touch S w w') (hS : ∀ k, k ∈ S → w.heap.size ≤ k) (hr : r.holds w') (hf : ∀ k, k ∈ r.foot → w.heap.size ≤ k) : Has S0 w0 w' (r :: rs) :=
  Has.upd (xs := []) (rs := rs) [r] (S := S) h t (fun k hk => Or.inr (hS k hk)) (by simp; exact hr) (by simp) (by simp; exact fun k hk => Or.inr (hf k hk))
end Go.Proofs.YthnimpkoidablaaGreat.Z

set_option linter.unusedVariables false
set_option linter.unusedSimpArgs false
namespace Go.Proofs.YthnimpkoidablaaGreat.Z
open Go.RowKit
theorem perm_past1 {α : Type} (x : α) : ∀ (ys rs : List α), (ys ++ x :: rs).Perm (x :: (ys ++ rs)) := fun ys rs => List.perm_middle
theorem perm_past2 {α : Type} (x y : α) (ys rs : List α) : (ys ++ x :: y :: rs).Perm (x :: y :: (ys ++ rs)) :=
  List.perm_middle.trans (List.Perm.cons x List.perm_middle)
theorem perm_past3 {α : Type} (x y z : α) (ys rs : List α) : (ys ++ x :: y :: z :: rs).Perm (x :: y :: z :: (ys ++ rs)) :=
  List.perm_middle.trans (List.Perm.cons x (perm_past2 y z ys rs))
theorem perm_past4 {α : Type} (x y z u : α) (ys rs : List α) : (ys ++ x :: y :: z :: u :: rs).Perm (x :: y :: z :: u :: (ys ++ rs)) :=
  List.perm_middle.trans (List.Perm.cons x (perm_past3 y z u ys rs))
theorem Has.leave {S0 : List Nat} {w0 w w' : World} {ys rs : List Res} {S : List Nat} (h : Has S0 w0 w (ys ++ rs)) (t : Touch S w w') (hS : ∀ k, k ∈ S → k ∈ foots ys) : Has S0 w0 w' rs := by
  have := Has.upd (xs := ys) (rs := rs) [] (S := S) h t (fun k hk => Or.inl (hS k hk)) (by simp) List.Pairwise.nil (by simp)
  exact this
theorem Has.new1 {S0 : List Nat} {w0 w : World} {rs : List Res} (h : Has S0 w0 w rs) {c0 : Array Value} {t0 : TypeId} : Has S0 w0 (w.alloc (.cells c0 t0)) (.blk w.heap.size c0 :: rs) := by
  exact h.new rfl _ _
theorem Has.al1 {S0 : List Nat} {w0 w : World} {x : Res} {rs : List Res} (h : Has S0 w0 w (x :: rs)) {c0 : Array Value} {t0 : TypeId} : Has S0 w0 (w.alloc (.cells c0 t0)) (x :: .blk w.heap.size c0 :: rs) :=
  h.new1.perm (perm_past1 x [.blk w.heap.size c0] rs)
theorem Has.al31 {S0 : List Nat} {w0 w : World} {x y z : Res} {rs : List Res} (h : Has S0 w0 w (x :: y :: z :: rs)) {c0 : Array Value} {t0 : TypeId} : Has S0 w0 (w.alloc (.cells c0 t0)) (x :: y :: z :: .blk w.heap.size c0 :: rs) :=
  h.new1.perm (perm_past3 x y z [.blk w.heap.size c0] rs)
theorem Has.new2 {S0 : List Nat} {w0 w : World} {rs : List Res} (h : Has S0 w0 w rs) {c0 c1 : Array Value} {t0 t1 : TypeId} : Has S0 w0 ((w.alloc (.cells c0 t0)).alloc (.cells c1 t1)) (.blk (w.heap.size + 1) c1 :: .blk w.heap.size c0 :: rs) := by
  exact (h.new1).new (by simp) _ _
theorem Has.al22 {S0 : List Nat} {w0 w : World} {x y : Res} {rs : List Res} (h : Has S0 w0 w (x :: y :: rs)) {c0 c1 : Array Value} {t0 t1 : TypeId} : Has S0 w0 ((w.alloc (.cells c0 t0)).alloc (.cells c1 t1)) (x :: y :: .blk (w.heap.size + 1) c1 :: .blk w.heap.size c0 :: rs) :=
  h.new2.perm (perm_past2 x y [.blk (w.heap.size + 1) c1, .blk w.heap.size c0] rs)
theorem Has.new3 {S0 : List Nat} {w0 w : World} {rs : List Res} (h : Has S0 w0 w rs) {c0 c1 c2 : Array Value} {t0 t1 t2 : TypeId} : Has S0 w0 (((w.alloc (.cells c0 t0)).alloc (.cells c1 t1)).alloc (.cells c2 t2)) (.blk (w.heap.size + 2) c2 :: .blk (w.heap.size + 1) c1 :: .blk w.heap.size c0 :: rs) := by
  exact (h.new2).new (by simp) _ _
theorem Has.new4 {S0 : List Nat} {w0 w : World} {rs : List Res} (h : Has S0 w0 w rs) {c0 c1 c2 c3 : Array Value} {t0 t1 t2 t3 : TypeId} : Has S0 w0 ((((w.alloc (.cells c0 t0)).alloc (.cells c1 t1)).alloc (.cells c2 t2)).alloc (.cells c3 t3)) (.blk (w.heap.size + 3) c3 :: .blk (w.heap.size + 2) c2 :: .blk (w.heap.size + 1) c1 :: .blk w.heap.size c0 :: rs) := by
  exact (h.new3).new (by simp) _ _
theorem Has.new5 {S0 : List Nat} {w0 w : World} {rs : List Res} (h : Has S0 w0 w rs) {c0 c1 c2 c3 c4 : Array Value} {t0 t1 t2 t3 t4 : TypeId} : Has S0 w0 (((((w.alloc (.cells c0 t0)).alloc (.cells c1 t1)).alloc (.cells c2 t2)).alloc (.cells c3 t3)).alloc (.cells c4 t4)) (.blk (w.heap.size + 4) c4 :: .blk (w.heap.size + 3) c3 :: .blk (w.heap.size + 2) c2 :: .blk (w.heap.size + 1) c1 :: .blk w.heap.size c0 :: rs) := by
  exact (h.new4).new (by simp) _ _
theorem Has.al5 {S0 : List Nat} {w0 w : World} {x : Res} {rs : List Res} (h : Has S0 w0 w (x :: rs)) {c0 c1 c2 c3 c4 : Array Value} {t0 t1 t2 t3 t4 : TypeId} : Has S0 w0 (((((w.alloc (.cells c0 t0)).alloc (.cells c1 t1)).alloc (.cells c2 t2)).alloc (.cells c3 t3)).alloc (.cells c4 t4)) (x :: .blk (w.heap.size + 4) c4 :: .blk (w.heap.size + 3) c3 :: .blk (w.heap.size + 2) c2 :: .blk (w.heap.size + 1) c1 :: .blk w.heap.size c0 :: rs) :=
  h.new5.perm (perm_past1 x [.blk (w.heap.size + 4) c4, .blk (w.heap.size + 3) c3, .blk (w.heap.size + 2) c2, .blk (w.heap.size + 1) c1, .blk w.heap.size c0] rs)
theorem Has.cut31 {S0 : List Nat} {w0 w : World} {x y z y0 : Res} {rs : List Res} (h : Has S0 w0 w (x :: y :: z :: y0 :: rs)) : Has S0 w0 w (x :: y :: z :: rs) :=
  ((h.perm (perm_past3 x y z [y0] rs).symm).tail)
theorem Has.done5 {S0 : List Nat} {w0 w w' : World} {x : Res} {rs : List Res} {b0 b1 b2 b3 b4 : Nat} {c0 c1 c2 c3 c4 : Array Value} (h : Has S0 w0 w (x :: .blk b0 c0 :: .blk b1 c1 :: .blk b2 c2 :: .blk b3 c3 :: .blk b4 c4 :: rs)) (t : Touch [b0, b1, b2, b3, b4] w w') : Has S0 w0 w' (x :: rs) :=
  Has.leave (ys := [.blk b0 c0, .blk b1 c1, .blk b2 c2, .blk b3 c3, .blk b4 c4]) (h.perm (perm_past1 x [.blk b0 c0, .blk b1 c1, .blk b2 c2, .blk b3 c3, .blk b4 c4] rs).symm) t (by simp [foots, Res.foot])
theorem Has.done6 {S0 : List Nat} {w0 w w' : World} {x : Res} {rs : List Res} {b0 b1 b2 b3 b4 b5 : Nat} {c0 c1 c2 c3 c4 c5 : Array Value} (h : Has S0 w0 w (x :: .blk b0 c0 :: .blk b1 c1 :: .blk b2 c2 :: .blk b3 c3 :: .blk b4 c4 :: .blk b5 c5 :: rs)) (t : Touch [b0, b1, b2, b3, b4, b5] w w') : Has S0 w0 w' (x :: rs) :=
  Has.leave (ys := [.blk b0 c0, .blk b1 c1, .blk b2 c2, .blk b3 c3, .blk b4 c4, .blk b5 c5]) (h.perm (perm_past1 x [.blk b0 c0, .blk b1 c1, .blk b2 c2, .blk b3 c3, .blk b4 c4, .blk b5 c5] rs).symm) t (by simp [foots, Res.foot])
theorem Has.done2_2 {S0 : List Nat} {w0 w w' : World} {x y : Res} {rs : List Res} {b0 b1 : Nat} {c0 c1 : Array Value} (h : Has S0 w0 w (x :: y :: .blk b0 c0 :: .blk b1 c1 :: rs)) (t : Touch [b0, b1] w w') : Has S0 w0 w' (x :: y :: rs) :=
  Has.leave (ys := [.blk b0 c0, .blk b1 c1]) (h.perm (perm_past2 x y [.blk b0 c0, .blk b1 c1] rs).symm) t (by simp [foots, Res.foot])
theorem Has.set2 {S0 : List Nat} {w0 w : World} {x y : Res} {b : Nat} {cs : Array Value} {rs : List Res} (h : Has S0 w0 w (x :: y :: .blk b cs :: rs)) (i : Nat) (v : Value) : Has S0 w0 (w.setCell ⟨b, i, none⟩ v) (x :: y :: .blk b (cs.setIfInBounds i v) :: rs) :=
  ((h.perm (perm_past2 x y [_] rs).symm).set i v).perm (perm_past2 x y [_] rs)
theorem Has.set3 {S0 : List Nat} {w0 w : World} {x y z : Res} {b : Nat} {cs : Array Value} {rs : List Res} (h : Has S0 w0 w (x :: y :: z :: .blk b cs :: rs)) (i : Nat) (v : Value) : Has S0 w0 (w.setCell ⟨b, i, none⟩ v) (x :: y :: z :: .blk b (cs.setIfInBounds i v) :: rs) :=
  ((h.perm (perm_past3 x y z [_] rs).symm).set i v).perm (perm_past3 x y z [_] rs)
theorem Has.set4 {S0 : List Nat} {w0 w : World} {x y z u : Res} {b : Nat} {cs : Array Value} {rs : List Res} (h : Has S0 w0 w (x :: y :: z :: u :: .blk b cs :: rs)) (i : Nat) (v : Value) : Has S0 w0 (w.setCell ⟨b, i, none⟩ v) (x :: y :: z :: u :: .blk b (cs.setIfInBounds i v) :: rs) :=
  ((h.perm (perm_past4 x y z u [_] rs).symm).set i v).perm (perm_past4 x y z u [_] rs)
theorem perm_past5 {α : Type} (x y z u v : α) (ys rs : List α) : (ys ++ x :: y :: z :: u :: v :: rs).Perm (x :: y :: z :: u :: v :: (ys ++ rs)) :=
  List.perm_middle.trans (List.Perm.cons x (perm_past4 y z u v ys rs))
theorem Has.set5 {S0 : List Nat} {w0 w : World} {x y z u v : Res} {b : Nat} {cs : Array Value} {rs : List Res} (h : Has S0 w0 w (x :: y :: z :: u :: v :: .blk b cs :: rs)) (i : Nat) (c : Value) : Has S0 w0 (w.setCell ⟨b, i, none⟩ c) (x :: y :: z :: u :: v :: .blk b (cs.setIfInBounds i c) :: rs) :=
  ((h.perm (perm_past5 x y z u v [_] rs).symm).set i c).perm (perm_past5 x y z u v [_] rs)
theorem Has.at_ {S0 : List Nat} {w0 w : World} {rs : List Res} (h : Has S0 w0 w rs) (i : Nat) {b : Nat} {cs : Array Value} (hi : rs[i]? = some (.blk b cs)) : Blk w b cs := h.all _ (List.mem_of_getElem? hi)
theorem Has.free {S0 : List Nat} {w0 w w' : World} {rs : List Res} (h : Has S0 w0 w rs) (t : Touch [] w w') : Has S0 w0 w' rs := h.grow t
theorem Has.ne_at {S0 : List Nat} {w0 w : World} {rs : List Res} (h : Has S0 w0 w rs) (i j : Nat) {b c : Nat} {cs ds : Array Value} (hi : rs[i]? = some (.blk b cs)) (hj : rs[j]? = some (.blk c ds)) (hij : i < j) : b ≠ c := by
  have hp := h.apart
  rw [List.pairwise_iff_getElem] at hp
  obtain ⟨hi1, hi2⟩ := List.getElem?_eq_some_iff.1 hi
  obtain ⟨hj1, hj2⟩ := List.getElem?_eq_some_iff.1 hj
  have := hp i j hi1 hj1 hij
  rw [hi2, hj2] at this
  intro e
  exact this b (by simp [Res.foot]) (by simp [Res.foot, e])
theorem set_all4 {c : Array Value} (h : c.size = 4) (a b d e : Value) : (((c.setIfInBounds 0 a).setIfInBounds 1 b).setIfInBounds 2 d).setIfInBounds 3 e = #[a, b, d, e] := by
  obtain ⟨l⟩ := c
  match l, h with
  | [x0, x1, x2, x3], _ => rfl
theorem set_all5 {c : Array Value} (h : c.size = 5) (a b d e f : Value) : ((((c.setIfInBounds 0 a).setIfInBounds 1 b).setIfInBounds 2 d).setIfInBounds 3 e).setIfInBounds 4 f = #[a, b, d, e, f] := by
  obtain ⟨l⟩ := c
  match l, h with
  | [x0, x1, x2, x3, x4], _ => rfl
def cellD (w : World) (b i : Nat) : Value := (w.cell? ⟨b, i, none⟩).getD undef
theorem cellD_is {w : World} {b i : Nat} {cs : Array Value} (h : Blk w b cs) (hi : i < cs.size) : w.cell? ⟨b, i, none⟩ = some (cellD w b i) := by
  unfold cellD
  rw [h.cell, Array.getElem?_eq_getElem hi]
  rfl
end Go.Proofs.YthnimpkoidablaaGreat.Z
