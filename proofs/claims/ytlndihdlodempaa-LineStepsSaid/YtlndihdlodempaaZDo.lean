/- An access on a memory of words: what it tells, what lies there then, and that nothing else changes. -/
import Derived.Test.YtlndihdlodempaaRows
import Derived.Test.YtlndihdlodempaaZBase
set_option linter.unusedVariables false
set_option linter.unusedSimpArgs false
namespace Go.Proofs.Ytlndihdlodempaa.Z
open Go.RowKit

/-- Words as values. -/
def u32s (L : List Int) : List Value := L.map (Value.int .u32)

/-- An access. -/
structure Acc where
  kind : Int
  cell : Int
  x : Int
  y : Int
  old : Int
deriving DecidableEq

def Acc.zero : Acc := ⟨0, 0, 0, 0, 0⟩
def Acc.cells (a : Acc) : Array Value := #[.int .i64 a.kind, .int .i64 a.cell, .int .u32 a.x, .int .u32 a.y, .int .u32 a.old]

/-- The words of a memory: all within 32 bits, at most 1,024. -/
def Words (L : List Int) : Prop := L.length ≤ 1024 ∧ ∀ x, x ∈ L → 0 ≤ x ∧ x < 4294967296

/-- At block m lies a memory whose words lie in block a. -/
structure Mem (w : World) (m a : Nat) (L : List Int) : Prop where
  ne : m ≠ a
  words : Words L
  head : ∃ p cap, Blk w m #[.slice p L.length cap] ∧ L.length ≤ cap ∧ cap ≤ 9223372036854775807 ∧ (0 < L.length → p = some ⟨a, 0, none⟩)
  body : 0 < L.length → ∃ rest, Blk w a ((u32s L) ++ rest).toArray

/-- The block of a memory that has words. -/
def lv (a : Nat) (L : List Int) : List Nat := if 0 < L.length then [a] else []

theorem mem_lv {k a : Nat} {L : List Int} (h : k ∈ lv a L) : k = a ∧ 0 < L.length := by
  unfold lv at h
  split at h
  · rename_i h0
    exact ⟨by simpa using h, h0⟩
  · simp at h

theorem lv_not {k a : Nat} {L : List Int} (h : k ≠ a) : k ∉ lv a L := fun hm => h (mem_lv hm).1

theorem lv_ge {B a : Nat} {L : List Int} (h : B ≤ a) : ∀ k, k ∈ lv a L → B ≤ k := fun k hk => by rw [(mem_lv hk).1]; exact h

/-- An access, on words. -/
def doA (L : List Int) (a : Acc) : Acc × Bool × List Int :=
  if 0 ≤ a.cell ∧ a.cell < L.length then
    let old := L.getD a.cell.toNat 0
    if a.kind = 1 then ({ a with old := old }, true, L)
    else if a.kind = 3 then ({ a with old := old }, true, L.set a.cell.toNat ((old + a.x) % 4294967296))
    else if a.kind = 5 then ({ a with old := old }, true, if old = a.x then L.set a.cell.toNat a.y else L)
    else if a.kind = 2 ∨ a.kind = 4 then ({ a with old := old }, true, L.set a.cell.toNat a.x)
    else (Acc.zero, false, L)
  else (Acc.zero, false, L)

theorem u32s_get {L : List Int} {i : Nat} (h : i < L.length) (rest : List Value) : (u32s L ++ rest).toArray[i]? = some (.int .u32 (L.getD i 0)) := by
  simp [u32s, List.getElem?_append, h]

theorem u32s_set {L : List Int} {i : Nat} (h : i < L.length) (rest : List Value) (v : Int) : (u32s L ++ rest).toArray.setIfInBounds i (.int .u32 v) = (u32s (L.set i v) ++ rest).toArray := by
  simp [u32s, List.set_append, h, List.map_set]

theorem Words.set {L : List Int} (h : Words L) (i : Nat) (v : Int) (h0 : 0 ≤ v) (h1 : v < 4294967296) : Words (L.set i v) :=
  ⟨by simpa using h.1, fun x hx => (List.mem_or_eq_of_mem_set hx).elim (h.2 x) (fun e => e ▸ ⟨h0, h1⟩)⟩

theorem Words.getD {L : List Int} (h : Words L) (i : Nat) : 0 ≤ L.getD i 0 ∧ L.getD i 0 < 4294967296 := by
  by_cases hi : i < L.length
  · have := h.2 L[i] (List.getElem_mem hi)
    simpa [List.getD, hi] using this
  · simp [List.getD, List.getElem?_eq_none (Nat.le_of_not_lt hi)]

theorem Mem.set {w : World} {m a : Nat} {L : List Int} (h : Mem w m a L) (i : Nat) (hi : i < L.length) (v : Int) (h0 : 0 ≤ v) (h1 : v < 4294967296) :
    Mem (w.setCell ⟨a, i, none⟩ (.int .u32 v)) m a (L.set i v) := by
  obtain ⟨p, cap, hb, hc, hm, hp⟩ := h.head
  obtain ⟨rest, hr⟩ := h.body (by omega)
  exact ⟨h.ne, h.words.set i v h0 h1, ⟨p, cap, by simpa using hb.setNe h.ne _, by simpa using hc, hm, by simpa using hp⟩, fun _ => ⟨rest, (hr.set i _).eq (u32s_set hi rest v)⟩⟩

theorem Mem.blkBody {w : World} {m a : Nat} {L : List Int} (h : Mem w m a L) (h0 : 0 < L.length) : ∃ rest, Blk w a ((u32s L) ++ rest).toArray := h.body h0

theorem Mem.touch {w w' : World} {m a : Nat} {L : List Int} {S : List Nat} (h : Mem w m a L) (t : Touch S w w') (hm : m ∉ S) (ha : a ∉ S) : Mem w' m a L := by
  obtain ⟨p, cap, hb, r⟩ := h.head
  refine ⟨h.ne, h.words, ⟨p, cap, t.blk hb hm, r⟩, fun h0 => ?_⟩
  obtain ⟨rest, hr⟩ := h.body h0
  exact ⟨rest, t.blk hr ha⟩

theorem Mem.lt {w : World} {m a : Nat} {L : List Int} (h : Mem w m a L) : m < w.heap.size ∧ (0 < L.length → a < w.heap.size) := by
  obtain ⟨p, cap, hb, _⟩ := h.head
  exact ⟨hb.lt, fun h0 => by obtain ⟨rest, hr⟩ := h.body h0; exact hr.lt⟩

theorem len_nil (w : World) : Calls Try.prog 175 #[.pointer none] w fun e w' => e = .returned (.int .i64 0) ∧ w = w' := by
  go_enter Try.func175, Try.ntmps175
  go_wp2
  go_ret
  exact ⟨rfl, rfl⟩

theorem len_slice (w : World) (m : Nat) (p : Option Addr) (n c : Nat) (hm : w.cell? ⟨m, 0, none⟩ = some (.slice p n c)) :
    Calls Try.prog 175 #[.pointer (some ⟨m, 0, none⟩)] w fun e w' => e = .returned (.int .i64 n) ∧ w = w' := by
  go_enter Try.func175, Try.ntmps175
  go_wp2
  go_ret
  exact ⟨rfl, rfl⟩

theorem len_mem {w : World} {m a : Nat} {L : List Int} (h : Mem w m a L) :
    Calls Try.prog 175 #[.pointer (some ⟨m, 0, none⟩)] w fun e w' => e = .returned (.int .i64 L.length) ∧ w = w' := by
  obtain ⟨p, cap, hb, _⟩ := h.head
  exact len_slice w m p L.length cap (hb.cell 0)

theorem cell_nil (w : World) (c : Int) : Calls Try.prog 166 #[.pointer none, .int .i64 c] w fun e w' => e = .returned (.pointer none) ∧ w = w' := by
  by_cases h : c < 0
  · go_enter Try.func166, Try.ntmps166
    go_wp2
    go_ret
    exact ⟨rfl, rfl⟩
  · have h2 : (0 : Int) ≤ c := by omega
    go_enter Try.func166, Try.ntmps166
    go_wp2_with (go_at_call 175; refine (len_nil _).mono ?_; rintro e w' ⟨rfl, rfl⟩)
    go_ret
    exact ⟨rfl, rfl⟩

theorem cell_out {w : World} {m a : Nat} {L : List Int} (h : Mem w m a L) (c : Int) (hc : ¬ (0 ≤ c ∧ c < L.length)) :
    Calls Try.prog 166 #[.pointer (some ⟨m, 0, none⟩), .int .i64 c] w fun e w' => e = .returned (.pointer none) ∧ w = w' := by
  by_cases h0 : c < 0
  · clear hc
    go_enter Try.func166, Try.ntmps166
    go_wp2
    go_ret
    exact ⟨rfl, rfl⟩
  · have h2 : (L.length : Int) ≤ c := by omega
    clear hc
    go_enter Try.func166, Try.ntmps166
    go_wp2_with (go_at_call 175; refine (len_mem h).mono ?_; rintro e w' ⟨rfl, rfl⟩)
    go_ret
    exact ⟨rfl, rfl⟩

theorem cell_in {w : World} {m a : Nat} {L : List Int} (h : Mem w m a L) (c : Int) (h0 : 0 ≤ c) (h1 : c < L.length) :
    Calls Try.prog 166 #[.pointer (some ⟨m, 0, none⟩), .int .i64 c] w fun e w' => e = .returned (.pointer (some ⟨a, c.toNat, none⟩)) ∧ w = w' := by
  obtain ⟨p, cap, hb, hcap, hmx, hp⟩ := h.head
  obtain rfl := hp (by omega)
  have hm := hb.cell 0
  clear hp hb
  have hh : ¬ (c < 0) := by omega
  have h2 : ¬ ((L.length:Int) ≤ c) := by omega
  go_enter Try.func166, Try.ntmps166
  go_wp2_with (go_at_call 175; refine (len_mem h).mono ?_; rintro e w' ⟨rfl, rfl⟩)
  go_ret
  exact ⟨by simp, rfl⟩

end Go.Proofs.Ytlndihdlodempaa.Z
