/- Package place: the own cells' names, what they are at first, and all words at first. -/
import Derived.Test.YtlndihdlodempaaZPlace
import Derived.Test.YtlndihdlodempaaZMaps
import Derived.Test.YtlndihdlodempaaZRef01
import Derived.Test.YtlndihdlodempaaZWord
set_option linter.unusedVariables false
set_option linter.unusedSimpArgs false
namespace Go.Proofs.Ytlndihdlodempaa.Z
open Go.RowKit

def s_count : ByteArray := ⟨#[99, 111, 117, 110, 116]⟩
def s_phase : ByteArray := ⟨#[112, 104, 97, 115, 101]⟩
def s_reads : ByteArray := ⟨#[114, 101, 97, 100, 115]⟩
def s_rin : ByteArray := ⟨#[114, 105, 110]⟩
def s_rout : ByteArray := ⟨#[114, 111, 117, 116]⟩
def s_tail : ByteArray := ⟨#[116, 97, 105, 108]⟩
def s_users : ByteArray := ⟨#[117, 115, 101, 114, 115]⟩
def s_win : ByteArray := ⟨#[119, 105, 110]⟩
def s_word : ByteArray := ⟨#[119, 111, 114, 100]⟩
def s_wout : ByteArray := ⟨#[119, 111, 117, 116]⟩
def s_writes : ByteArray := ⟨#[119, 114, 105, 116, 101, 115]⟩

def names1 : Array Value := #[.string s_users, .string s_reads, .string s_writes]
def names2 : Array Value := #[.string s_rin, .string s_rout, .string s_win, .string s_wout, .string s_phase]
def names3 : Array Value := #[.string s_rin, .string s_rout, .string s_tail, .string s_phase]
def names4 : Array Value := #[.string s_tail, .string s_count]
def names5 : Array Value := #[.string s_word]
def names6 : Array Value := #[.string s_word]

/-- The map of the names, as it lies in memory. -/
structure NamesAt (w : World) (m : Nat) : Prop where mk ::
  at_ : ∃ b1 b2 b3 b4 b5 b6, MapAt w m [(1, .slice (some ⟨b1, 0, none⟩) 3 3), (2, .slice (some ⟨b2, 0, none⟩) 5 5), (3, .slice (some ⟨b3, 0, none⟩) 4 4), (4, .slice (some ⟨b4, 0, none⟩) 2 2), (5, .slice (some ⟨b5, 0, none⟩) 1 1), (6, .slice (some ⟨b6, 0, none⟩) 1 1)] ∧ Blk w b1 names1 ∧ Blk w b2 names2 ∧ Blk w b3 names3 ∧ Blk w b4 names4 ∧ Blk w b5 names5 ∧ Blk w b6 names6

/-- It is told, and is new. -/
def NewNames (w : World) (e : Ending) (w' : World) : Prop := ∃ m, e = .returned (.map (some m)) ∧ NamesAt w' m ∧ Touch [] w w'

set_option maxHeartbeats 1600000 in
theorem names_any (w : World) : Calls Try.prog 139 #[] w (NewNames w) := by
  have hmm := @run_makeMap Try.prog
  have m0 := MapAt.new w
  have t0 : Touch [] w (w.alloc (.map #[] 0)) := ⟨rfl, rfl, rfl, by simp, fun k hk _ => Below.heap_alloc _ _ _ hk⟩
  go_enter Try.func139, Try.ntmps139
  go_wp2_with (first
    | (refine wpList_insert_int _ rfl (.tmp 1) (.const (.int .i64 1)) (.tmp 2) 147 rfl _ _ Try.underlying147 Try.underlying3 w.heap.size _ rfl (MapAt.touch m0 ((Touch.refl [] _).alloc _) (by simp)) 1 _ rfl rfl rfl ?_; intro w1 m1 t1)
    | (refine wpList_insert_int _ rfl (.tmp 1) (.const (.int .i64 2)) (.tmp 3) 147 rfl _ _ Try.underlying147 Try.underlying3 w.heap.size _ rfl (MapAt.touch m1 ((Touch.refl [] _).alloc _) (by simp)) 2 _ rfl rfl rfl ?_; intro w2 m2 t2)
    | (refine wpList_insert_int _ rfl (.tmp 1) (.const (.int .i64 3)) (.tmp 4) 147 rfl _ _ Try.underlying147 Try.underlying3 w.heap.size _ rfl (MapAt.touch m2 ((Touch.refl [] _).alloc _) (by simp)) 3 _ rfl rfl rfl ?_; intro w3 m3 t3)
    | (refine wpList_insert_int _ rfl (.tmp 1) (.const (.int .i64 4)) (.tmp 5) 147 rfl _ _ Try.underlying147 Try.underlying3 w.heap.size _ rfl (MapAt.touch m3 ((Touch.refl [] _).alloc _) (by simp)) 4 _ rfl rfl rfl ?_; intro w4 m4 t4)
    | (refine wpList_insert_int _ rfl (.tmp 1) (.const (.int .i64 5)) (.tmp 6) 147 rfl _ _ Try.underlying147 Try.underlying3 w.heap.size _ rfl (MapAt.touch m4 ((Touch.refl [] _).alloc _) (by simp)) 5 _ rfl rfl rfl ?_; intro w5 m5 t5)
    | (refine wpList_insert_int _ rfl (.tmp 1) (.const (.int .i64 6)) (.tmp 7) 147 rfl _ _ Try.underlying147 Try.underlying3 w.heap.size _ rfl (MapAt.touch m5 ((Touch.refl [] _).alloc _) (by simp)) 6 _ rfl rfl rfl ?_; intro w6 m6 t6))
  go_ret
  have z1 := t1.size
  simp only [World.size_alloc] at z1
  have z2 := t2.size
  simp only [World.size_alloc] at z2
  have z3 := t3.size
  simp only [World.size_alloc] at z3
  have z4 := t4.size
  simp only [World.size_alloc] at z4
  have z5 := t5.size
  simp only [World.size_alloc] at z5
  have z6 := t6.size
  simp only [World.size_alloc] at z6
  have T1 : Touch [] w w1 := (t0.alloc _).newer t1 (by simp)
  have T2 : Touch [] w w2 := (T1.alloc _).newer t2 (by simp)
  have T3 : Touch [] w w3 := (T2.alloc _).newer t3 (by simp)
  have T4 : Touch [] w w4 := (T3.alloc _).newer t4 (by simp)
  have T5 : Touch [] w w5 := (T4.alloc _).newer t5 (by simp)
  have T6 : Touch [] w w6 := (T5.alloc _).newer t6 (by simp)
  have B1_1 : Blk w1 (w.heap.size + 1) names1 := t1.blk (by have := Blk.new (w.alloc (.map #[] 0)) names1 9; rw [World.size_alloc] at this; exact this) (by simp)
  have B2_2 : Blk w2 w1.heap.size names2 := t2.blk (Blk.new w1 names2 9) (by simp; omega)
  have B3_3 : Blk w3 w2.heap.size names3 := t3.blk (Blk.new w2 names3 9) (by simp; omega)
  have B4_4 : Blk w4 w3.heap.size names4 := t4.blk (Blk.new w3 names4 9) (by simp; omega)
  have B5_5 : Blk w5 w4.heap.size names5 := t5.blk (Blk.new w4 names5 9) (by simp; omega)
  have B6_6 : Blk w6 w5.heap.size names6 := t6.blk (Blk.new w5 names6 9) (by simp; omega)
  have B1_2 := t2.blk (B1_1.alloc _) (by simp)
  have B1_3 := t3.blk (B1_2.alloc _) (by simp)
  have B1_4 := t4.blk (B1_3.alloc _) (by simp)
  have B1_5 := t5.blk (B1_4.alloc _) (by simp)
  have B1_6 := t6.blk (B1_5.alloc _) (by simp)
  have B2_3 := t3.blk (B2_2.alloc _) (by simp; omega)
  have B2_4 := t4.blk (B2_3.alloc _) (by simp; omega)
  have B2_5 := t5.blk (B2_4.alloc _) (by simp; omega)
  have B2_6 := t6.blk (B2_5.alloc _) (by simp; omega)
  have B3_4 := t4.blk (B3_3.alloc _) (by simp; omega)
  have B3_5 := t5.blk (B3_4.alloc _) (by simp; omega)
  have B3_6 := t6.blk (B3_5.alloc _) (by simp; omega)
  have B4_5 := t5.blk (B4_4.alloc _) (by simp; omega)
  have B4_6 := t6.blk (B4_5.alloc _) (by simp; omega)
  have B5_6 := t6.blk (B5_5.alloc _) (by simp; omega)
  exact ⟨w.heap.size, rfl, ⟨w.heap.size + 1, w1.heap.size, w2.heap.size, w3.heap.size, w4.heap.size, w5.heap.size, m6, B1_6, B2_6, B3_6, B4_6, B5_6, B6_6⟩, T6⟩

theorem begin_users (k base : Int) (w : World) (hb : 0 ≤ base ∧ base < 4294967296) : Calls Try.prog 142 #[.int .i64 k, .string s_users, .int .u32 base] w fun e w' => e = .returned (.int .u32 base) ∧ w = w' := by
  obtain ⟨h0, h1⟩ := hb
  unfold s_users
  go_enter Try.func142, Try.ntmps142
  go_wp2_with fail
  go_ret
  exact ⟨rfl, rfl⟩

theorem begin_reads (k base : Int) (w : World) (hb : 0 ≤ base ∧ base < 4294967296) : Calls Try.prog 142 #[.int .i64 k, .string s_reads, .int .u32 base] w fun e w' => e = .returned (.int .u32 base) ∧ w = w' := by
  obtain ⟨h0, h1⟩ := hb
  unfold s_reads
  go_enter Try.func142, Try.ntmps142
  go_wp2_with fail
  go_ret
  exact ⟨rfl, rfl⟩

theorem begin_writes (k base : Int) (w : World) (hb : 0 ≤ base ∧ base < 4294967296) : Calls Try.prog 142 #[.int .i64 k, .string s_writes, .int .u32 base] w fun e w' => e = .returned (.int .u32 base) ∧ w = w' := by
  obtain ⟨h0, h1⟩ := hb
  unfold s_writes
  go_enter Try.func142, Try.ntmps142
  go_wp2_with fail
  go_ret
  exact ⟨rfl, rfl⟩

theorem begin_rin (k base : Int) (w : World) (hb : 0 ≤ base ∧ base < 4294967296) : Calls Try.prog 142 #[.int .i64 k, .string s_rin, .int .u32 base] w fun e w' => e = .returned (.int .u32 (base * 256 % 4294967296)) ∧ w = w' := by
  obtain ⟨h0, h1⟩ := hb
  unfold s_rin
  go_enter Try.func142, Try.ntmps142
  go_wp2_with fail
  go_ret
  exact ⟨rfl, rfl⟩

theorem begin_rout (k base : Int) (w : World) (hb : 0 ≤ base ∧ base < 4294967296) : Calls Try.prog 142 #[.int .i64 k, .string s_rout, .int .u32 base] w fun e w' => e = .returned (.int .u32 (base * 256 % 4294967296)) ∧ w = w' := by
  obtain ⟨h0, h1⟩ := hb
  unfold s_rout
  go_enter Try.func142, Try.ntmps142
  go_wp2_with fail
  go_ret
  exact ⟨rfl, rfl⟩

theorem begin_win (k base : Int) (w : World) (hb : 0 ≤ base ∧ base < 4294967296) : Calls Try.prog 142 #[.int .i64 k, .string s_win, .int .u32 base] w fun e w' => e = .returned (.int .u32 base) ∧ w = w' := by
  obtain ⟨h0, h1⟩ := hb
  unfold s_win
  go_enter Try.func142, Try.ntmps142
  go_wp2_with fail
  go_ret
  exact ⟨rfl, rfl⟩

theorem begin_wout (k base : Int) (w : World) (hb : 0 ≤ base ∧ base < 4294967296) : Calls Try.prog 142 #[.int .i64 k, .string s_wout, .int .u32 base] w fun e w' => e = .returned (.int .u32 base) ∧ w = w' := by
  obtain ⟨h0, h1⟩ := hb
  unfold s_wout
  go_enter Try.func142, Try.ntmps142
  go_wp2_with fail
  go_ret
  exact ⟨rfl, rfl⟩

theorem begin_phase (k base : Int) (w : World) (hb : 0 ≤ base ∧ base < 4294967296) : Calls Try.prog 142 #[.int .i64 k, .string s_phase, .int .u32 base] w fun e w' => e = .returned (.int .u32 base) ∧ w = w' := by
  obtain ⟨h0, h1⟩ := hb
  unfold s_phase
  go_enter Try.func142, Try.ntmps142
  go_wp2_with fail
  go_ret
  exact ⟨rfl, rfl⟩

theorem begin_tail (k base : Int) (w : World) (hb : 0 ≤ base ∧ base < 4294967296) : Calls Try.prog 142 #[.int .i64 k, .string s_tail, .int .u32 base] w fun e w' => e = .returned (.int .u32 0) ∧ w = w' := by
  obtain ⟨h0, h1⟩ := hb
  unfold s_tail
  go_enter Try.func142, Try.ntmps142
  go_wp2_with fail
  go_ret
  exact ⟨rfl, rfl⟩

theorem begin_count (k base : Int) (w : World) (hb : 0 ≤ base ∧ base < 4294967296) : Calls Try.prog 142 #[.int .i64 k, .string s_count, .int .u32 base] w fun e w' => e = .returned (.int .u32 0) ∧ w = w' := by
  obtain ⟨h0, h1⟩ := hb
  unfold s_count
  go_enter Try.func142, Try.ntmps142
  go_wp2_with fail
  go_ret
  exact ⟨rfl, rfl⟩

theorem begin_word5 (base : Int) (w : World) (hb : 0 ≤ base ∧ base < 4294967296) : Calls Try.prog 142 #[.int .i64 5, .string s_word, .int .u32 base] w fun e w' => e = .returned (.int .u32 0) ∧ w = w' := by
  obtain ⟨h0, h1⟩ := hb
  unfold s_word
  go_enter Try.func142, Try.ntmps142
  go_wp2_with fail
  go_ret
  exact ⟨rfl, rfl⟩

theorem begin_word6 (base : Int) (w : World) (hb : 0 ≤ base ∧ base < 4294967296) : Calls Try.prog 142 #[.int .i64 6, .string s_word, .int .u32 base] w fun e w' => e = .returned (.int .u32 (base % 256 * 65792)) ∧ w = w' := by
  obtain ⟨h0, h1⟩ := hb
  unfold s_word
  have e1 := and255 base h0 h1
  have e2 : base % 256 * 65792 % 4294967296 = base % 256 * 65792 := by omega
  go_enter Try.func142, Try.ntmps142
  go_wp2_with fail
  go_ret
  exact ⟨rfl, rfl⟩

end Go.Proofs.Ytlndihdlodempaa.Z
