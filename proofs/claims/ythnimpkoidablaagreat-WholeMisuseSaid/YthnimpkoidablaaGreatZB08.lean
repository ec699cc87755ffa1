/- 6 texts of this claim, joined: what Package world needs of them. -/
import Derived.Test.YthnimpkoidablaaGreatZB00
import Derived.Maps.OwnOps
import Derived.WalkKit
import Derived.Test.YthnimpkoidablaaGreatZB06
import Derived.Test.YthnimpkoidablaaGreatZB02
import Derived.Outline
set_option linter.unusedVariables false
set_option linter.unusedSimpArgs false
namespace Go.Proofs.YthnimpkoidablaaGreat.Z
open Go.RowKit
def MapAt (w : World) (m : Nat) (es : List (Int × Value)) : Prop := ∃ clk, ∃ l : List MapEntry, w.heap[m]? = some (.map l.toArray clk) ∧ l.map (fun e => (e.key, e.val)) = es.map (fun e => (Value.int .i64 e.1, e.2))
theorem MapAt.new (w : World) : MapAt (w.alloc (.map #[] 0)) w.heap.size [] := ⟨0, [], by show (w.heap.push _)[w.heap.size]? = _; simp, rfl⟩
theorem MapAt.touch {w w' : World} {m : Nat} {es : List (Int × Value)} {S : List Nat} (h : MapAt w m es) (t : Touch S w w') (hm : m ∉ S) : MapAt w' m es := by
  obtain ⟨clk, l, hb, he⟩ := h
  have hlt : m < w.heap.size := by
    rcases Nat.lt_or_ge m w.heap.size with h' | h'
    · exact h'
    · simp [Array.getElem?_eq_none h'] at hb
  exact ⟨clk, l, (t.block m hlt hm).trans hb, he⟩
theorem findNow_some (k : Int) : ∀ (l : List MapEntry) (es : List (Int × Value)) (i : Nat), l.map (fun e => (e.key, e.val)) = es.map (fun e => (Value.int .i64 e.1, e.2)) →
    ∃ o, Instr.findNow (.int .i64) (.int .i64 k) l i = some o ∧ o.map (·.2) = (es.find? (fun e => e.1 == k)).map (·.2)
  | [], [], i, _ => ⟨none, rfl, rfl⟩
  | [], _ :: _, i, h => by simp at h
  | _ :: _, [], i, h => by simp at h
  | e :: l, x :: es, i, h => by
    simp only [List.map_cons, List.cons.injEq, Prod.mk.injEq] at h
    obtain ⟨⟨hk, hv⟩, ht⟩ := h
    obtain ⟨o, ho, hp⟩ := findNow_some k l es (i + 1) ht
    by_cases hx : x.1 = k
    · refine ⟨some (i, e.val), ?_, ?_⟩
      · simp [Instr.findNow, hk, Instr.sameNow, hx]
      · simp [List.find?, hx, hv]
    · refine ⟨o, ?_, ?_⟩
      · have : (k == x.1) = false := by simp; exact fun e => hx e.symm
        simp [Instr.findNow, hk, Instr.sameNow, this, ho]
      · have : (x.1 == k) = false := by simpa using hx
        simp [List.find?, this, hp]
theorem run_checkKey_succ {P : Program} {w : World} {kt : TypeId} (hk : P.underlying kt = some (.int .i64)) (b : Bool) (k : Int) (n : Nat) : (Instr.checkKey b (n + 1) kt (.int .i64 k)).run P w = .ok () w := by
  rw [Instr.checkKey]
  simp [run_underlying hk]
theorem run_checkKey_int {P : Program} {w : World} {kt : TypeId} (hk : P.underlying kt = some (.int .i64)) (b : Bool) (k : Int) : (Instr.checkKey b 10000 kt (.int .i64 k)).run P w = .ok () w :=
  run_checkKey_succ hk b k 9999
theorem run_insert_int {P : Program} {w : World} {T kt et : TypeId} {m : Nat} {es : List (Int × Value)} (hT : P.underlying T = some (.map kt et)) (hk : P.underlying kt = some (.int .i64)) (h : MapAt w m es) (k : Int) (v : Value)
    (hn : es.find? (fun e => e.1 == k) = none) : ∃ w', (Instr.mapUpdate T (.map (some m)) (.int .i64 k) v).run P w = .ok () w' ∧ MapAt w' m (es ++ [(k, v)]) ∧ Touch [m] w w' := by
  obtain ⟨clk, l, hb, he⟩ := h
  obtain ⟨o, ho, hp⟩ := findNow_some k l es 0 he
  rw [hn] at hp
  have hon : o = none := by cases o <;> simp at hp ⊢
  subst hon
  refine ⟨{ w with heap := w.heap.setIfInBounds m (.map (l.toArray.push { key := .int .i64 k, val := v, born := clk }) (clk + 1)) }, ?_, ?_, ?_⟩
  · simp [Instr.mapUpdate, run_underlying hT, MapKept.run_getObj_map hb, run_checkKey_int hk, Instr.findKey, run_underlying hk, ho, MapKept.run_setObj_map _ hb]
  · have hlt : m < w.heap.size := by
      rcases Nat.lt_or_ge m w.heap.size with h' | h'
      · exact h'
      · simp [Array.getElem?_eq_none h'] at hb
    refine ⟨clk + 1, l ++ [{ key := .int .i64 k, val := v, born := clk }], ?_, ?_⟩
    · show (w.heap.setIfInBounds m _)[m]? = _
      simp [hlt]
    · simp [he]
  · refine ⟨rfl, rfl, rfl, by simp, fun j hj hs => ?_⟩
    show (w.heap.setIfInBounds m _)[j]? = _
    have : m ≠ j := by simp at hs; omega
    simp [Array.getElem?_setIfInBounds, this]
theorem run_lookup_int {P : Program} {w : World} {T kt et : TypeId} {m : Nat} {es : List (Int × Value)} (hT : P.underlying T = some (.map kt et)) (hk : P.underlying kt = some (.int .i64)) (h : MapAt w m es) (k : Int) (v : Value)
    (hn : (es.find? (fun e => e.1 == k)).map (·.2) = some v) : (Instr.lookup T (.map (some m)) (.int .i64 k) false).run P w = .ok v w := by
  obtain ⟨clk, l, hb, he⟩ := h
  obtain ⟨o, ho, hp⟩ := findNow_some k l es 0 he
  rw [hn] at hp
  obtain ⟨⟨i, v'⟩, rfl⟩ : ∃ x, o = some x := by cases o <;> simp at hp ⊢
  simp at hp
  subst hp
  simp [Instr.lookup, run_underlying hT, MapKept.run_getObj_map hb, run_checkKey_int hk, Instr.findKey, run_underlying hk, ho]
theorem wpList_insert_int {P : Program} (w : World) {ops : Array Oper} {rest : List Oper} {o : Oper} {a : Act} {Q : Exit → Act → World → Prop}
    (hg : o.guard = none) (mo ko vo : Operand) (T : TypeId) (hop : o.op = Op.insert T mo ko vo) (kt et : TypeId) (hT : P.underlying T = some (.map kt et)) (hk : P.underlying kt = some (.int .i64))
    (m : Nat) (es : List (Int × Value)) (hm : a.eval mo = .map (some m)) (h : MapAt w m es) (k : Int) (v : Value) (hko : a.eval ko = .int .i64 k) (hvo : a.eval vo = v) (hn : es.find? (fun e => e.1 == k) = none)
    (hK : ∀ w', MapAt w' m (es ++ [(k, v)]) → Touch [m] w w' → wpList P ops Q rest (a.put o.dst undef) w') : wpList P ops Q (o :: rest) a w := by
  refine wpList_plain hg fun K' hK' => ?_
  obtain ⟨w', hrun, r1, r2⟩ := run_insert_int hT hk h k v hn
  unfold Oper.wp
  simp [execOp, hop, hm, hko, hvo, hrun, Result.andThen]
  exact hK' _ _ (hK w' r1 r2)
end Go.Proofs.YthnimpkoidablaaGreat.Z

set_option linter.unusedVariables false
set_option linter.unusedSimpArgs false
namespace Go.Proofs.YthnimpkoidablaaGreat.Z
open Go.RowKit
theorem pow2_pos (n : Nat) : 0 < 2 ^ n := Nat.pow_pos (by decide)
theorem two_pow_le {a b : Nat} (h : a ≤ b) : 2 ^ a ≤ 2 ^ b := Nat.pow_le_pow_right (by decide) h
theorem and_mask (v s w : Nat) : v &&& ((2 ^ w - 1) * 2 ^ s) = (v / 2 ^ s % 2 ^ w) * 2 ^ s := by
  rw [← Nat.shiftLeft_eq, ← Nat.shiftLeft_eq, ← Nat.shiftRight_eq_div_pow]
  apply Nat.eq_of_testBit_eq
  intro i
  simp only [Nat.testBit_and, Nat.testBit_shiftLeft, Nat.testBit_two_pow_sub_one, Nat.testBit_mod_two_pow, Nat.testBit_shiftRight]
  by_cases h : i ≥ s
  · have e : s + (i - s) = i := by omega
    simp only [h, decide_true, Bool.true_and, e]
    exact Bool.and_comm _ _
  · simp [h]
theorem ofInt_nat (k n : Nat) : BitVec.ofInt k (n : Int) = BitVec.ofNat k n := by simp
theorem bits_and (a b : Nat) (ha : a < 4294967296) (hb : b < 4294967296) : Go.bits .and .u32 (a : Int) (b : Int) = ((a &&& b : Nat) : Int) := by
  unfold Go.bits
  simp only [ofInt_nat, BitVec.toNat_and, BitVec.toNat_ofNat]
  rw [Nat.mod_eq_of_lt (by simpa [IntKind.bits] using ha), Nat.mod_eq_of_lt (by simpa [IntKind.bits] using hb)]
  rw [IntKind.wrap_u32]
  have : a &&& b ≤ a := Nat.and_le_left
  omega
theorem and_split (v m : BitVec 32) : v.toNat = (v &&& m).toNat + (v &&& ~~~m).toNat := by
  have hz : (v &&& m) &&& (v &&& ~~~m) = 0#32 := by ext i; simp only [BitVec.getElem_and, BitVec.getElem_or, BitVec.getElem_not, BitVec.getElem_zero]; cases v[i] <;> cases m[i] <;> rfl
  have hor : (v &&& m) ||| (v &&& ~~~m) = v := by ext i; simp only [BitVec.getElem_and, BitVec.getElem_or, BitVec.getElem_not, BitVec.getElem_zero]; cases v[i] <;> cases m[i] <;> rfl
  have := BitVec.add_eq_or_of_and_eq_zero _ _ hz
  rw [hor] at this
  have h2 := congrArg BitVec.toNat this
  rw [BitVec.toNat_add] at h2
  have h3 : (v &&& ~~~m).toNat ≤ (~~~m).toNat := by rw [BitVec.toNat_and]; exact Nat.and_le_right
  have h4 : (v &&& m).toNat ≤ m.toNat := by rw [BitVec.toNat_and]; exact Nat.and_le_right
  rw [BitVec.toNat_not] at h3
  have := m.isLt
  rw [Nat.mod_eq_of_lt (by omega)] at h2
  exact h2.symm
theorem put_split (v x m : BitVec 32) : ((v &&& ~~~m) ||| (x &&& m)).toNat = (v &&& ~~~m).toNat + (x &&& m).toNat := by
  have hz : (v &&& ~~~m) &&& (x &&& m) = 0#32 := by ext i; simp only [BitVec.getElem_and, BitVec.getElem_not, BitVec.getElem_zero]; cases v[i] <;> cases x[i] <;> cases m[i] <;> rfl
  have := BitVec.add_eq_or_of_and_eq_zero _ _ hz
  rw [← this, BitVec.toNat_add]
  have h3 : (v &&& ~~~m).toNat ≤ (~~~m).toNat := by rw [BitVec.toNat_and]; exact Nat.and_le_right
  have h4 : (x &&& m).toNat ≤ m.toNat := by rw [BitVec.toNat_and]; exact Nat.and_le_right
  rw [BitVec.toNat_not] at h3
  have := m.isLt
  rw [Nat.mod_eq_of_lt (by omega)]
theorem bits_or (a b : Nat) (ha : a < 4294967296) (hb : b < 4294967296) : Go.bits .or .u32 (a : Int) (b : Int) = ((BitVec.ofNat 32 a ||| BitVec.ofNat 32 b).toNat : Int) := by
  show (IntKind.u32.wrap ((BitVec.ofInt 32 (a : Int) ||| BitVec.ofInt 32 (b : Int)).toNat : Int)) = _
  rw [ofInt_nat, ofInt_nat, IntKind.wrap_u32]
  have := (BitVec.ofNat 32 a ||| BitVec.ofNat 32 b).isLt
  omega
theorem bits_andNot (a b : Nat) : Go.bits .andNot .u32 (a : Int) (b : Int) = ((BitVec.ofNat 32 a &&& ~~~ (BitVec.ofNat 32 b)).toNat : Int) := by
  show (IntKind.u32.wrap ((BitVec.ofInt 32 (a : Int) &&& ~~~ (BitVec.ofInt 32 (b : Int))).toNat : Int)) = _
  rw [ofInt_nat, ofInt_nat, IntKind.wrap_u32]
  have := (BitVec.ofNat 32 a &&& ~~~ (BitVec.ofNat 32 b)).isLt
  omega
theorem nat32 (a : Nat) (ha : a < 4294967296) : (BitVec.ofNat 32 a).toNat = a := by
  rw [BitVec.toNat_ofNat]; exact Nat.mod_eq_of_lt (by omega)
theorem bits_put (v x m : Nat) (hv : v < 4294967296) (hx : x < 4294967296) (hm : m < 4294967296) :
    Go.bits .or .u32 (Go.bits .andNot .u32 (v : Int) (m : Int)) (Go.bits .and .u32 (x : Int) (m : Int)) = (v : Int) - ((v &&& m : Nat) : Int) + ((x &&& m : Nat) : Int) := by
  rw [bits_and x m hx hm, bits_andNot]
  have e1 := and_split (BitVec.ofNat 32 v) (BitVec.ofNat 32 m)
  have e2 := put_split (BitVec.ofNat 32 v) (BitVec.ofNat 32 x) (BitVec.ofNat 32 m)
  have ex : (BitVec.ofNat 32 x &&& BitVec.ofNat 32 m).toNat = x &&& m := by rw [BitVec.toNat_and, nat32 x hx, nat32 m hm]
  have ev : (BitVec.ofNat 32 v &&& BitVec.ofNat 32 m).toNat = v &&& m := by rw [BitVec.toNat_and, nat32 v hv, nat32 m hm]
  have e5 : BitVec.ofNat 32 (x &&& m) = (BitVec.ofNat 32 x &&& BitVec.ofNat 32 m) := by
    apply BitVec.eq_of_toNat_eq
    rw [ex, nat32]
    have : x &&& m ≤ x := Nat.and_le_left
    omega
  have hl : x &&& m < 4294967296 := by
    have : x &&& m ≤ x := Nat.and_le_left
    omega
  generalize hA : (BitVec.ofNat 32 v &&& ~~~ (BitVec.ofNat 32 m)) = A at e1 e2 ⊢
  have hlt := A.isLt
  rw [bits_or _ _ (by omega) hl, e5, show BitVec.ofNat 32 A.toNat = A from by simp, e2, ex]
  rw [ev, nat32 v hv] at e1
  omega
theorem bits_low (x : Int) (i : Nat) (hi : i ≤ 32) (h0 : 0 ≤ x) (h1 : x < 4294967296) : Go.bits .and .u32 x ((2 ^ i - 1 : Nat) : Int) = x % ((2 ^ i : Nat) : Int) := by
  obtain ⟨n, rfl⟩ := Int.eq_ofNat_of_zero_le h0
  have hm : 2 ^ i - 1 < 4294967296 := by
    have := two_pow_le hi
    have := pow2_pos i
    omega
  rw [bits_and n _ (by omega) hm]
  have := and_mask n 0 i
  simp only [Nat.pow_zero, Nat.mul_one, Nat.div_one] at this
  rw [this]
  rfl
theorem and255 (x : Int) (h0 : 0 ≤ x) (h1 : x < 4294967296) : Go.bits .and .u32 x 255 = x % 256 := bits_low x 8 (by decide) h0 h1
end Go.Proofs.YthnimpkoidablaaGreat.Z

set_option linter.unusedVariables false
set_option linter.unusedSimpArgs false
namespace Go.Proofs.YthnimpkoidablaaGreat.Z
open Go.RowKit
def s_count : ByteArray := ⟨#[99, 111, 117, 110, 116]⟩
def s_phase : ByteArray := ⟨#[112, 104, 97, 115, 101]⟩
def s_reads : ByteArray := ⟨#[114, 101, 97, 100, 115]⟩
def s_rin : ByteArray := ⟨#[114, 105, 110]⟩
def s_rout : ByteArray := ⟨#[114, 111, 117, 116]⟩
def s_tail : ByteArray := ⟨#[116, 97, 105, 108]⟩
def s_users : ByteArray := ⟨#[117, 115, 101, 114, 115]⟩
def s_win : ByteArray := ⟨#[119, 105, 110]⟩
def s_word : ByteArray := ⟨#[119, 111, 114, 100]⟩
def s_wout : ByteArray := ⟨#[119, 111, 117, 116]⟩
def s_writes : ByteArray := ⟨#[119, 114, 105, 116, 101, 115]⟩
def names1 : Array Value := #[.string s_users, .string s_reads, .string s_writes]
def names2 : Array Value := #[.string s_rin, .string s_rout, .string s_win, .string s_wout, .string s_phase]
def names3 : Array Value := #[.string s_rin, .string s_rout, .string s_tail, .string s_phase]
def names4 : Array Value := #[.string s_tail, .string s_count]
def names5 : Array Value := #[.string s_word]
def names6 : Array Value := #[.string s_word]
structure NamesAt (w : World) (m : Nat) : Prop where mk ::
  at_ : ∃ b1 b2 b3 b4 b5 b6, MapAt w m [(1, .slice (some ⟨b1, 0, none⟩) 3 3), (2, .slice (some ⟨b2, 0, none⟩) 5 5), (3, .slice (some ⟨b3, 0, none⟩) 4 4), (4, .slice (some ⟨b4, 0, none⟩) 2 2), (5, .slice (some ⟨b5, 0, none⟩) 1 1), (6, .slice (some ⟨b6, 0, none⟩) 1 1)] ∧ Blk w b1 names1 ∧ Blk w b2 names2 ∧ Blk w b3 names3 ∧ Blk w b4 names4 ∧ Blk w b5 names5 ∧ Blk w b6 names6
def NewNames (w : World) (e : Ending) (w' : World) : Prop := ∃ m, e = .returned (.map (some m)) ∧ NamesAt w' m ∧ Touch [] w w'
set_option maxHeartbeats 1600000 in
theorem names_any (w : World) : Calls Tryz.prog 73 #[] w (NewNames w) := by
  have hmm := @run_makeMap Tryz.prog
  have m0 := MapAt.new w
  have t0 : Touch [] w (w.alloc (.map #[] 0)) := ⟨rfl, rfl, rfl, by simp, fun k hk _ => Below.heap_alloc _ _ _ hk⟩
  go_enter Tryz.func73, Tryz.ntmps73
  go_wp2_with (first
    | (refine wpList_insert_int _ rfl (.tmp 1) (.const (.int .i64 1)) (.tmp 2) 129 rfl _ _ Tryz.underlying129 Tryz.underlying3 w.heap.size _ rfl (MapAt.touch m0 ((Touch.refl [] _).alloc _) (by simp)) 1 _ rfl rfl rfl ?_; intro w1 m1 t1)
    | (refine wpList_insert_int _ rfl (.tmp 1) (.const (.int .i64 2)) (.tmp 3) 129 rfl _ _ Tryz.underlying129 Tryz.underlying3 w.heap.size _ rfl (MapAt.touch m1 ((Touch.refl [] _).alloc _) (by simp)) 2 _ rfl rfl rfl ?_; intro w2 m2 t2)
    | (refine wpList_insert_int _ rfl (.tmp 1) (.const (.int .i64 3)) (.tmp 4) 129 rfl _ _ Tryz.underlying129 Tryz.underlying3 w.heap.size _ rfl (MapAt.touch m2 ((Touch.refl [] _).alloc _) (by simp)) 3 _ rfl rfl rfl ?_; intro w3 m3 t3)
    | (refine wpList_insert_int _ rfl (.tmp 1) (.const (.int .i64 4)) (.tmp 5) 129 rfl _ _ Tryz.underlying129 Tryz.underlying3 w.heap.size _ rfl (MapAt.touch m3 ((Touch.refl [] _).alloc _) (by simp)) 4 _ rfl rfl rfl ?_; intro w4 m4 t4)
    | (refine wpList_insert_int _ rfl (.tmp 1) (.const (.int .i64 5)) (.tmp 6) 129 rfl _ _ Tryz.underlying129 Tryz.underlying3 w.heap.size _ rfl (MapAt.touch m4 ((Touch.refl [] _).alloc _) (by simp)) 5 _ rfl rfl rfl ?_; intro w5 m5 t5)
    | (refine wpList_insert_int _ rfl (.tmp 1) (.const (.int .i64 6)) (.tmp 7) 129 rfl _ _ Tryz.underlying129 Tryz.underlying3 w.heap.size _ rfl (MapAt.touch m5 ((Touch.refl [] _).alloc _) (by simp)) 6 _ rfl rfl rfl ?_; intro w6 m6 t6))
  go_ret
  have z1 := t1.size
  simp only [World.size_alloc] at z1
  have z2 := t2.size
  simp only [World.size_alloc] at z2
  have z3 := t3.size
  simp only [World.size_alloc] at z3
  have z4 := t4.size
  simp only [World.size_alloc] at z4
  have z5 := t5.size
  simp only [World.size_alloc] at z5
  have z6 := t6.size
  simp only [World.size_alloc] at z6
  have T1 : Touch [] w w1 := (t0.alloc _).newer t1 (by simp)
  have T2 : Touch [] w w2 := (T1.alloc _).newer t2 (by simp)
  have T3 : Touch [] w w3 := (T2.alloc _).newer t3 (by simp)
  have T4 : Touch [] w w4 := (T3.alloc _).newer t4 (by simp)
  have T5 : Touch [] w w5 := (T4.alloc _).newer t5 (by simp)
  have T6 : Touch [] w w6 := (T5.alloc _).newer t6 (by simp)
  have B1_1 : Blk w1 (w.heap.size + 1) names1 := t1.blk (by have := Blk.new (w.alloc (.map #[] 0)) names1 9; rw [World.size_alloc] at this; exact this) (by simp)
  have B2_2 : Blk w2 w1.heap.size names2 := t2.blk (Blk.new w1 names2 9) (by simp; omega)
  have B3_3 : Blk w3 w2.heap.size names3 := t3.blk (Blk.new w2 names3 9) (by simp; omega)
  have B4_4 : Blk w4 w3.heap.size names4 := t4.blk (Blk.new w3 names4 9) (by simp; omega)
  have B5_5 : Blk w5 w4.heap.size names5 := t5.blk (Blk.new w4 names5 9) (by simp; omega)
  have B6_6 : Blk w6 w5.heap.size names6 := t6.blk (Blk.new w5 names6 9) (by simp; omega)
  have B1_2 := t2.blk (B1_1.alloc _) (by simp)
  have B1_3 := t3.blk (B1_2.alloc _) (by simp)
  have B1_4 := t4.blk (B1_3.alloc _) (by simp)
  have B1_5 := t5.blk (B1_4.alloc _) (by simp)
  have B1_6 := t6.blk (B1_5.alloc _) (by simp)
  have B2_3 := t3.blk (B2_2.alloc _) (by simp; omega)
  have B2_4 := t4.blk (B2_3.alloc _) (by simp; omega)
  have B2_5 := t5.blk (B2_4.alloc _) (by simp; omega)
  have B2_6 := t6.blk (B2_5.alloc _) (by simp; omega)
  have B3_4 := t4.blk (B3_3.alloc _) (by simp; omega)
  have B3_5 := t5.blk (B3_4.alloc _) (by simp; omega)
  have B3_6 := t6.blk (B3_5.alloc _) (by simp; omega)
  have B4_5 := t5.blk (B4_4.alloc _) (by simp; omega)
  have B4_6 := t6.blk (B4_5.alloc _) (by simp; omega)
  have B5_6 := t6.blk (B5_5.alloc _) (by simp; omega)
  exact ⟨w.heap.size, rfl, ⟨w.heap.size + 1, w1.heap.size, w2.heap.size, w3.heap.size, w4.heap.size, w5.heap.size, m6, B1_6, B2_6, B3_6, B4_6, B5_6, B6_6⟩, T6⟩
theorem begin_users (k base : Int) (w : World) (hb : 0 ≤ base ∧ base < 4294967296) : Calls Tryz.prog 76 #[.int .i64 k, .string s_users, .int .u32 base] w fun e w' => e = .returned (.int .u32 base) ∧ w = w' := by
  obtain ⟨h0, h1⟩ := hb
  unfold s_users
  go_enter Tryz.func76, Tryz.ntmps76
  go_wp2_with fail
  go_ret
  exact ⟨rfl, rfl⟩
theorem begin_reads (k base : Int) (w : World) (hb : 0 ≤ base ∧ base < 4294967296) : Calls Tryz.prog 76 #[.int .i64 k, .string s_reads, .int .u32 base] w fun e w' => e = .returned (.int .u32 base) ∧ w = w' := by
  obtain ⟨h0, h1⟩ := hb
  unfold s_reads
  go_enter Tryz.func76, Tryz.ntmps76
  go_wp2_with fail
  go_ret
  exact ⟨rfl, rfl⟩
theorem begin_writes (k base : Int) (w : World) (hb : 0 ≤ base ∧ base < 4294967296) : Calls Tryz.prog 76 #[.int .i64 k, .string s_writes, .int .u32 base] w fun e w' => e = .returned (.int .u32 base) ∧ w = w' := by
  obtain ⟨h0, h1⟩ := hb
  unfold s_writes
  go_enter Tryz.func76, Tryz.ntmps76
  go_wp2_with fail
  go_ret
  exact ⟨rfl, rfl⟩
theorem begin_rin (k base : Int) (w : World) (hb : 0 ≤ base ∧ base < 4294967296) : Calls Tryz.prog 76 #[.int .i64 k, .string s_rin, .int .u32 base] w fun e w' => e = .returned (.int .u32 (base * 256 % 4294967296)) ∧ w = w' := by
  obtain ⟨h0, h1⟩ := hb
  unfold s_rin
  go_enter Tryz.func76, Tryz.ntmps76
  go_wp2_with fail
  go_ret
  exact ⟨rfl, rfl⟩
theorem begin_rout (k base : Int) (w : World) (hb : 0 ≤ base ∧ base < 4294967296) : Calls Tryz.prog 76 #[.int .i64 k, .string s_rout, .int .u32 base] w fun e w' => e = .returned (.int .u32 (base * 256 % 4294967296)) ∧ w = w' := by
  obtain ⟨h0, h1⟩ := hb
  unfold s_rout
  go_enter Tryz.func76, Tryz.ntmps76
  go_wp2_with fail
  go_ret
  exact ⟨rfl, rfl⟩
theorem begin_win (k base : Int) (w : World) (hb : 0 ≤ base ∧ base < 4294967296) : Calls Tryz.prog 76 #[.int .i64 k, .string s_win, .int .u32 base] w fun e w' => e = .returned (.int .u32 base) ∧ w = w' := by
  obtain ⟨h0, h1⟩ := hb
  unfold s_win
  go_enter Tryz.func76, Tryz.ntmps76
  go_wp2_with fail
  go_ret
  exact ⟨rfl, rfl⟩
theorem begin_wout (k base : Int) (w : World) (hb : 0 ≤ base ∧ base < 4294967296) : Calls Tryz.prog 76 #[.int .i64 k, .string s_wout, .int .u32 base] w fun e w' => e = .returned (.int .u32 base) ∧ w = w' := by
  obtain ⟨h0, h1⟩ := hb
  unfold s_wout
  go_enter Tryz.func76, Tryz.ntmps76
  go_wp2_with fail
  go_ret
  exact ⟨rfl, rfl⟩
theorem begin_phase (k base : Int) (w : World) (hb : 0 ≤ base ∧ base < 4294967296) : Calls Tryz.prog 76 #[.int .i64 k, .string s_phase, .int .u32 base] w fun e w' => e = .returned (.int .u32 base) ∧ w = w' := by
  obtain ⟨h0, h1⟩ := hb
  unfold s_phase
  go_enter Tryz.func76, Tryz.ntmps76
  go_wp2_with fail
  go_ret
  exact ⟨rfl, rfl⟩
theorem begin_tail (k base : Int) (w : World) (hb : 0 ≤ base ∧ base < 4294967296) : Calls Tryz.prog 76 #[.int .i64 k, .string s_tail, .int .u32 base] w fun e w' => e = .returned (.int .u32 0) ∧ w = w' := by
  obtain ⟨h0, h1⟩ := hb
  unfold s_tail
  go_enter Tryz.func76, Tryz.ntmps76
  go_wp2_with fail
  go_ret
  exact ⟨rfl, rfl⟩
theorem begin_count (k base : Int) (w : World) (hb : 0 ≤ base ∧ base < 4294967296) : Calls Tryz.prog 76 #[.int .i64 k, .string s_count, .int .u32 base] w fun e w' => e = .returned (.int .u32 0) ∧ w = w' := by
  obtain ⟨h0, h1⟩ := hb
  unfold s_count
  go_enter Tryz.func76, Tryz.ntmps76
  go_wp2_with fail
  go_ret
  exact ⟨rfl, rfl⟩
theorem begin_word5 (base : Int) (w : World) (hb : 0 ≤ base ∧ base < 4294967296) : Calls Tryz.prog 76 #[.int .i64 5, .string s_word, .int .u32 base] w fun e w' => e = .returned (.int .u32 0) ∧ w = w' := by
  obtain ⟨h0, h1⟩ := hb
  unfold s_word
  go_enter Tryz.func76, Tryz.ntmps76
  go_wp2_with fail
  go_ret
  exact ⟨rfl, rfl⟩
theorem begin_word6 (base : Int) (w : World) (hb : 0 ≤ base ∧ base < 4294967296) : Calls Tryz.prog 76 #[.int .i64 6, .string s_word, .int .u32 base] w fun e w' => e = .returned (.int .u32 (base % 256 * 65792)) ∧ w = w' := by
  obtain ⟨h0, h1⟩ := hb
  unfold s_word
  have e1 := and255 base h0 h1
  have e2 : base % 256 * 65792 % 4294967296 = base % 256 * 65792 := by omega
  go_enter Tryz.func76, Tryz.ntmps76
  go_wp2_with fail
  go_ret
  exact ⟨rfl, rfl⟩
end Go.Proofs.YthnimpkoidablaaGreat.Z

set_option linter.unusedVariables false
set_option linter.unusedSimpArgs false
namespace Go.Proofs.YthnimpkoidablaaGreat.Z
open Go.RowKit
theorem placeNew_ok (n : Int) (w : World) (h : 1 ≤ n ∧ n ≤ 64) : Calls Tryz.prog 74 #[.int .i64 n] w fun e w' => e = .returned (.tuple #[.agg #[.int .i64 n], .int .i64 0]) ∧ Touch [] w w' := by
  have hr := fun w => right_yes n w h
  go_enter Tryz.func74, Tryz.ntmps74
  go_wp2_with (go_at_call 123; refine (hr _).mono ?_; rintro e w' ⟨rfl, rfl⟩)
  refine bodyPost_ret (v := .tuple #[.agg #[.int .i64 n], .int .i64 0]) (by simp [results, Tryz.results74, go_sem]) rfl ⟨rfl, ?_⟩
  repeat (first | exact Touch.refl _ _ | apply Touch.drew | apply Touch.alloc)
theorem mapSize_ok (n : Int) (w : World) (h : 1 ≤ n ∧ n ≤ 64) : Calls Tryz.prog 75 #[.agg #[.int .i64 n]] w fun e w' => e = .returned (.int .i64 (8 + 4 * n)) ∧ Touch [] w w' := by
  have hr := fun w => right_yes n w h
  obtain ⟨h1, h2⟩ := h
  go_enter Tryz.func75, Tryz.ntmps75
  go_wp2_with (go_at_call 123; refine (hr _).mono ?_; rintro e w' ⟨rfl, rfl⟩)
  go_ret
  exact ⟨rfl, (Touch.refl _ _).alloc _⟩
def NewWords (w : World) (L : List Int) (e : Ending) (w' : World) : Prop :=
  ∃ p g cap, e = .returned (.tuple #[.slice p L.length cap, .int .i64 0]) ∧ Row w' p g L ∧ w.heap.size ≤ g ∧ g < w'.heap.size ∧ Touch [] w w' ∧ L.length ≤ cap ∧ cap ≤ 9223372036854775807
theorem set_snoc {l : List Int} {m : Nat} {v : Int} (h : 0 < m) : (l ++ List.replicate m 0).set l.length v = (l ++ [v]) ++ List.replicate (m - 1) 0 := by
  rw [List.set_append_right _ _ (Nat.le_refl _), Nat.sub_self]
  obtain ⟨k, rfl⟩ : ∃ k, m = k + 1 := ⟨m - 1, by omega⟩
  simp [List.replicate_succ]
theorem part_at (l : List Int) (m q : Nat) (h : l.length = q) : (l ++ List.replicate m 0).getD q 0 = 0 := by
  subst h
  simp [List.getD, List.getElem?_append, List.getElem?_replicate]
  split <;> rfl
theorem newWords_of {w w' : World} {L L' : List Int} {p : Option Addr} {g N : Nat} (hL : L' = L) (hlen : L'.length = N) (h0 : 0 < N) (hN : N ≤ 1048576) (R : Row w' p g L') (hg : w.heap.size ≤ g) (t : Touch [] w w') :
    NewWords w L (.returned (.tuple #[.slice p N N, .int .i64 0])) w' := by
  subst hL
  subst hlen
  exact ⟨p, g, _, rfl, R, hg, R.lt h0, t, Nat.le_refl _, by omega⟩
theorem words_part {l : List Int} {m : Nat} (hl : ∀ x, x ∈ l → 0 ≤ x ∧ x < 4294967296) (h : l.length + m ≤ 1024) : Words (l ++ List.replicate m 0) := by
  refine ⟨by simpa using h, fun x hx => ?_⟩
  rcases List.mem_append.1 hx with h1 | h1
  · exact hl x h1
  · have := List.eq_of_mem_replicate h1; omega
def own1 (base : Int) : List Int := [base, base, base]
set_option maxHeartbeats 1600000 in
theorem first1 (n base : Int) (w : World) (h : 1 ≤ n ∧ n ≤ 64) (hb : 0 ≤ base ∧ base < 4294967296) :
    Calls Tryz.prog 47 #[.int .i64 1, .int .i64 n, .int .u32 base] w (NewWords w (own1 base ++ List.replicate ((8 + 4 * n).toNat - 3) 0)) := by
  obtain ⟨i0, hi0, hz0, hz1, hz2⟩ := info_parts u32_info
  have hnw := fun w => placeNew_ok n w h
  have hsz := fun w => mapSize_ok n w h
  obtain ⟨h1, h2⟩ := h
  go_enter Tryz.func47, Tryz.ntmps47
  go_wp2_with (go_at_call 73; refine (names_any _).mono ?_; rintro e w1 ⟨m, rfl, ⟨b1, b2, b3, b4, b5, b6, hm, B1, B2, B3, B4, B5, B6⟩, ht1⟩; have hlk := run_lookup_int (P := Tryz.prog) Tryz.underlying129 Tryz.underlying3 hm 1 _ rfl)
  refine (hnw _).mono ?_
  rintro e w2 ⟨rfl, ht2⟩
  have hB2 := (ht2.blk B1 (by simp)).alloc (.cells #[.int .i64 n] 94)
  have hT2 : Touch [] w (w2.alloc (.cells #[.int .i64 n] 94)) := (ht1.trans ht2).alloc _
  clear hlk hm B1 B2 B3 B4 B5 B6 ht1 ht2
  go_wp2_with (first
    | (go_at_call 75; refine (hsz _).mono ?_; rintro e w3 ⟨rfl, ht3⟩)
    | (at_make; refine wpList_make_full _ rfl _ _ 65 rfl w3.heap.size 22 i0 _ 1 Tryz.underlying65 hi0 hz0 hz1 _ _ _ _ (8 + 4 * n).toNat rfl rfl (by omega) (by omega) (by rw [hz2]; omega) (by unfold maxLen; omega) (Nat.le_refl _) ?_; intro w4 hown hg))
  have z3 := ht3.size
  have z4 := hg.size
  simp only [World.size_alloc] at z3
  obtain ⟨N, hN⟩ : ∃ N, (8 + 4 * n).toNat = N := ⟨_, rfl⟩
  have hNn : (N : Int) = 8 + 4 * n := by omega
  rw [hN] at hown
  have hown' : w4.ownsRow w3.heap.size 22 1 (.slice (some ⟨w3.heap.size, 0, none⟩) (List.replicate N (0 : Int)).length N) (List.replicate N (0 : Int)).length (u32s (List.replicate N 0)) := by
    have e : (madeCells (Value.int .u32 0).cells (N * 1)).toList = u32s (List.replicate N 0) := by
      rw [Nat.mul_one]; exact (toList_madeCells_one _ N).trans (by simp [u32s])
    rw [e] at hown
    simpa using hown
  obtain ⟨g, hR, _⟩ := Row.of_owns hown' (words_part (l := []) (by simp) (by simp; omega))
  obtain rfl : g = w3.heap.size := by have := hR.at_ (by simp; omega); simp at this; exact this.symm
  have hT4 : Touch [] w w4 := (hT2.trans ht3).grown hg (by simp)
  have hB4 := (Touch.grown (Touch.refl [] w3) hg (by simp)).blk (ht3.blk hB2 (by simp)) (by simp)
  have hbl := hB4.lt
  have HB := Lib.hid (show w.heap.size ≤ w3.heap.size ∧ b1 ≠ w3.heap.size from ⟨by have := (hT2.trans ht3).size; omega, by have := (ht3.blk hB2 (by simp)).lt; omega⟩)
  have HN := Lib.hid hN
  clear hown hown' hg ht3 hT2 hB2 z3 z4 hN hbl hnw hsz
  rw [HN.out]
  go_loopw [33] (fun i wr => ∃ k : Nat, k ≤ 3 ∧ i = .int .i64 k ∧ Row wr (some ⟨w3.heap.size, 0, none⟩) w3.heap.size ((own1 base).take k ++ List.replicate (N - k) 0) ∧ Touch [] w wr ∧ Blk wr b1 names1) (fun i _ => 3 - (intOf i).toNat)
  case atStart => exact ⟨0, by decide, rfl, hR, hT4, hB4⟩
  case round =>
    obtain ⟨k, hk, rfl, hRr, hTr, hBr⟩ := hrel
    clear hR hT4 hB4
    have hcases : k = 0 ∨ k = 1 ∨ k = 2 ∨ k = 3 := by omega
    clear hk
    rcases hcases with rfl | rfl | rfl | rfl
    · have hname : wr.cell? ⟨b1, 0, none⟩ = some (.string s_users) := by rw [hBr.cell]; rfl
      have hbl := hBr.lt
      obtain ⟨_, d1, d2, c3, _, _⟩ := hRr.at_cell 0 0 (by decide) (by simp [own1]; omega) (part_at _ _ 0 rfl)
      have c1 : wr.cell? ⟨w3.heap.size, 0, none⟩ = some (.int .u32 0) := d1
      have c2 : wr.frozen? ⟨w3.heap.size, 0, none⟩ = false := d2
      clear d1 d2
      have hset := hRr.set 0 (by simp [own1]; omega) base hb.1 hb.2
      have hts := (Touch.refl [w3.heap.size] wr).set (p := ⟨w3.heap.size, 0, none⟩) (by simp) (.int .u32 base)
      have hTs : Touch [] w (wr.setCell ⟨w3.heap.size, 0, none⟩ (.int .u32 base)) := hTr.newer hts (by have := HB.out.1; simp; exact this)
      have hBs := hts.blk hBr (by have := HB.out.2; simpa using this)
      have hs := set_snoc (l := (own1 base).take 0) (m := N - 0) (v := base) (by omega)
      rw [Nat.sub_sub] at hs
      have hset : Row (wr.setCell ⟨w3.heap.size, 0, none⟩ (.int .u32 base)) (some ⟨w3.heap.size, 0, none⟩) w3.heap.size ((own1 base).take 1 ++ List.replicate (N - 1) 0) := by
        rw [show (own1 base).take 1 ++ List.replicate (N - 1) 0 = _ from hs.symm]
        exact hset
      have hi : (0 : Int) < (N : Int) := by omega
      have HNN := Lib.hid hNn
      clear hNn hs hts
      have HSET := Lib.hid hset
      clear hset
      go_wp2_with (go_at_call 76; refine (begin_users _ base _ hb).mono ?_; rintro e w9 ⟨rfl, rfl⟩)
      exact ⟨⟨1, by decide, rfl, HSET.out, hTs, hBs⟩, by simp [intOf]⟩
    · have hname : wr.cell? ⟨b1, 1, none⟩ = some (.string s_reads) := by rw [hBr.cell]; rfl
      have hbl := hBr.lt
      obtain ⟨_, d1, d2, c3, _, _⟩ := hRr.at_cell 1 0 (by decide) (by simp [own1]; omega) (part_at _ _ 1 rfl)
      have c1 : wr.cell? ⟨w3.heap.size, 1, none⟩ = some (.int .u32 0) := d1
      have c2 : wr.frozen? ⟨w3.heap.size, 1, none⟩ = false := d2
      clear d1 d2
      have hset := hRr.set 1 (by simp [own1]; omega) base hb.1 hb.2
      have hts := (Touch.refl [w3.heap.size] wr).set (p := ⟨w3.heap.size, 1, none⟩) (by simp) (.int .u32 base)
      have hTs : Touch [] w (wr.setCell ⟨w3.heap.size, 1, none⟩ (.int .u32 base)) := hTr.newer hts (by have := HB.out.1; simp; exact this)
      have hBs := hts.blk hBr (by have := HB.out.2; simpa using this)
      have hs := set_snoc (l := (own1 base).take 1) (m := N - 1) (v := base) (by omega)
      rw [Nat.sub_sub] at hs
      have hset : Row (wr.setCell ⟨w3.heap.size, 1, none⟩ (.int .u32 base)) (some ⟨w3.heap.size, 0, none⟩) w3.heap.size ((own1 base).take 2 ++ List.replicate (N - 2) 0) := by
        rw [show (own1 base).take 2 ++ List.replicate (N - 2) 0 = _ from hs.symm]
        exact hset
      have hi : (1 : Int) < (N : Int) := by omega
      have HNN := Lib.hid hNn
      clear hNn hs hts
      have HSET := Lib.hid hset
      clear hset
      go_wp2_with (go_at_call 76; refine (begin_reads _ base _ hb).mono ?_; rintro e w9 ⟨rfl, rfl⟩)
      exact ⟨⟨2, by decide, rfl, HSET.out, hTs, hBs⟩, by simp [intOf]⟩
    · have hname : wr.cell? ⟨b1, 2, none⟩ = some (.string s_writes) := by rw [hBr.cell]; rfl
      have hbl := hBr.lt
      obtain ⟨_, d1, d2, c3, _, _⟩ := hRr.at_cell 2 0 (by decide) (by simp [own1]; omega) (part_at _ _ 2 rfl)
      have c1 : wr.cell? ⟨w3.heap.size, 2, none⟩ = some (.int .u32 0) := d1
      have c2 : wr.frozen? ⟨w3.heap.size, 2, none⟩ = false := d2
      clear d1 d2
      have hset := hRr.set 2 (by simp [own1]; omega) base hb.1 hb.2
      have hts := (Touch.refl [w3.heap.size] wr).set (p := ⟨w3.heap.size, 2, none⟩) (by simp) (.int .u32 base)
      have hTs : Touch [] w (wr.setCell ⟨w3.heap.size, 2, none⟩ (.int .u32 base)) := hTr.newer hts (by have := HB.out.1; simp; exact this)
      have hBs := hts.blk hBr (by have := HB.out.2; simpa using this)
      have hs := set_snoc (l := (own1 base).take 2) (m := N - 2) (v := base) (by omega)
      rw [Nat.sub_sub] at hs
      have hset : Row (wr.setCell ⟨w3.heap.size, 2, none⟩ (.int .u32 base)) (some ⟨w3.heap.size, 0, none⟩) w3.heap.size ((own1 base).take 3 ++ List.replicate (N - 3) 0) := by
        rw [show (own1 base).take 3 ++ List.replicate (N - 3) 0 = _ from hs.symm]
        exact hset
      have hi : (2 : Int) < (N : Int) := by omega
      have HNN := Lib.hid hNn
      clear hNn hs hts
      have HSET := Lib.hid hset
      clear hset
      go_wp2_with (go_at_call 76; refine (begin_writes _ base _ hb).mono ?_; rintro e w9 ⟨rfl, rfl⟩)
      exact ⟨⟨3, by decide, rfl, HSET.out, hTs, hBs⟩, by simp [intOf]⟩
    · have hlen : ((own1 base).take 3 ++ List.replicate (N - 3) 0).length = N := by simp [own1]; omega
      have HL := Lib.hid hlen
      have HNN := Lib.hid hNn
      clear hlen hNn
      go_wp2
      go_ret2
      exact newWords_of (by rw [HN.out]; rfl) HL.out (by have := HNN.out; omega) (by have := HNN.out; omega) hRr HB.out.1 hTr
def own2 (base : Int) : List Int := [(base * 256 % 4294967296), (base * 256 % 4294967296), base, base, base]
set_option maxHeartbeats 1600000 in
theorem first2 (n base : Int) (w : World) (h : 1 ≤ n ∧ n ≤ 64) (hb : 0 ≤ base ∧ base < 4294967296) :
    Calls Tryz.prog 47 #[.int .i64 2, .int .i64 n, .int .u32 base] w (NewWords w (own2 base ++ List.replicate ((8 + 4 * n).toNat - 5) 0)) := by
  obtain ⟨i0, hi0, hz0, hz1, hz2⟩ := info_parts u32_info
  have hnw := fun w => placeNew_ok n w h
  have hsz := fun w => mapSize_ok n w h
  obtain ⟨h1, h2⟩ := h
  go_enter Tryz.func47, Tryz.ntmps47
  go_wp2_with (go_at_call 73; refine (names_any _).mono ?_; rintro e w1 ⟨m, rfl, ⟨b1, b2, b3, b4, b5, b6, hm, B1, B2, B3, B4, B5, B6⟩, ht1⟩; have hlk := run_lookup_int (P := Tryz.prog) Tryz.underlying129 Tryz.underlying3 hm 2 _ rfl)
  refine (hnw _).mono ?_
  rintro e w2 ⟨rfl, ht2⟩
  have hB2 := (ht2.blk B2 (by simp)).alloc (.cells #[.int .i64 n] 94)
  have hT2 : Touch [] w (w2.alloc (.cells #[.int .i64 n] 94)) := (ht1.trans ht2).alloc _
  clear hlk hm B1 B2 B3 B4 B5 B6 ht1 ht2
  go_wp2_with (first
    | (go_at_call 75; refine (hsz _).mono ?_; rintro e w3 ⟨rfl, ht3⟩)
    | (at_make; refine wpList_make_full _ rfl _ _ 65 rfl w3.heap.size 22 i0 _ 1 Tryz.underlying65 hi0 hz0 hz1 _ _ _ _ (8 + 4 * n).toNat rfl rfl (by omega) (by omega) (by rw [hz2]; omega) (by unfold maxLen; omega) (Nat.le_refl _) ?_; intro w4 hown hg))
  have z3 := ht3.size
  have z4 := hg.size
  simp only [World.size_alloc] at z3
  obtain ⟨N, hN⟩ : ∃ N, (8 + 4 * n).toNat = N := ⟨_, rfl⟩
  have hNn : (N : Int) = 8 + 4 * n := by omega
  rw [hN] at hown
  have hown' : w4.ownsRow w3.heap.size 22 1 (.slice (some ⟨w3.heap.size, 0, none⟩) (List.replicate N (0 : Int)).length N) (List.replicate N (0 : Int)).length (u32s (List.replicate N 0)) := by
    have e : (madeCells (Value.int .u32 0).cells (N * 1)).toList = u32s (List.replicate N 0) := by
      rw [Nat.mul_one]; exact (toList_madeCells_one _ N).trans (by simp [u32s])
    rw [e] at hown
    simpa using hown
  obtain ⟨g, hR, _⟩ := Row.of_owns hown' (words_part (l := []) (by simp) (by simp; omega))
  obtain rfl : g = w3.heap.size := by have := hR.at_ (by simp; omega); simp at this; exact this.symm
  have hT4 : Touch [] w w4 := (hT2.trans ht3).grown hg (by simp)
  have hB4 := (Touch.grown (Touch.refl [] w3) hg (by simp)).blk (ht3.blk hB2 (by simp)) (by simp)
  have hbl := hB4.lt
  have HB := Lib.hid (show w.heap.size ≤ w3.heap.size ∧ b2 ≠ w3.heap.size from ⟨by have := (hT2.trans ht3).size; omega, by have := (ht3.blk hB2 (by simp)).lt; omega⟩)
  have HN := Lib.hid hN
  clear hown hown' hg ht3 hT2 hB2 z3 z4 hN hbl hnw hsz
  rw [HN.out]
  go_loopw [33] (fun i wr => ∃ k : Nat, k ≤ 5 ∧ i = .int .i64 k ∧ Row wr (some ⟨w3.heap.size, 0, none⟩) w3.heap.size ((own2 base).take k ++ List.replicate (N - k) 0) ∧ Touch [] w wr ∧ Blk wr b2 names2) (fun i _ => 5 - (intOf i).toNat)
  case atStart => exact ⟨0, by decide, rfl, hR, hT4, hB4⟩
  case round =>
    obtain ⟨k, hk, rfl, hRr, hTr, hBr⟩ := hrel
    clear hR hT4 hB4
    have hcases : k = 0 ∨ k = 1 ∨ k = 2 ∨ k = 3 ∨ k = 4 ∨ k = 5 := by omega
    clear hk
    rcases hcases with rfl | rfl | rfl | rfl | rfl | rfl
    · have hname : wr.cell? ⟨b2, 0, none⟩ = some (.string s_rin) := by rw [hBr.cell]; rfl
      have hbl := hBr.lt
      obtain ⟨_, d1, d2, c3, _, _⟩ := hRr.at_cell 0 0 (by decide) (by simp [own2]; omega) (part_at _ _ 0 rfl)
      have c1 : wr.cell? ⟨w3.heap.size, 0, none⟩ = some (.int .u32 0) := d1
      have c2 : wr.frozen? ⟨w3.heap.size, 0, none⟩ = false := d2
      clear d1 d2
      have hset := hRr.set 0 (by simp [own2]; omega) (base * 256 % 4294967296) (by omega) (by omega)
      have hts := (Touch.refl [w3.heap.size] wr).set (p := ⟨w3.heap.size, 0, none⟩) (by simp) (.int .u32 (base * 256 % 4294967296))
      have hTs : Touch [] w (wr.setCell ⟨w3.heap.size, 0, none⟩ (.int .u32 (base * 256 % 4294967296))) := hTr.newer hts (by have := HB.out.1; simp; exact this)
      have hBs := hts.blk hBr (by have := HB.out.2; simpa using this)
      have hs := set_snoc (l := (own2 base).take 0) (m := N - 0) (v := (base * 256 % 4294967296)) (by omega)
      rw [Nat.sub_sub] at hs
      have hset : Row (wr.setCell ⟨w3.heap.size, 0, none⟩ (.int .u32 (base * 256 % 4294967296))) (some ⟨w3.heap.size, 0, none⟩) w3.heap.size ((own2 base).take 1 ++ List.replicate (N - 1) 0) := by
        rw [show (own2 base).take 1 ++ List.replicate (N - 1) 0 = _ from hs.symm]
        exact hset
      have hi : (0 : Int) < (N : Int) := by omega
      have HNN := Lib.hid hNn
      clear hNn hs hts
      have HSET := Lib.hid hset
      clear hset
      go_wp2_with (go_at_call 76; refine (begin_rin _ base _ hb).mono ?_; rintro e w9 ⟨rfl, rfl⟩)
      exact ⟨⟨1, by decide, rfl, HSET.out, hTs, hBs⟩, by simp [intOf]⟩
    · have hname : wr.cell? ⟨b2, 1, none⟩ = some (.string s_rout) := by rw [hBr.cell]; rfl
      have hbl := hBr.lt
      obtain ⟨_, d1, d2, c3, _, _⟩ := hRr.at_cell 1 0 (by decide) (by simp [own2]; omega) (part_at _ _ 1 rfl)
      have c1 : wr.cell? ⟨w3.heap.size, 1, none⟩ = some (.int .u32 0) := d1
      have c2 : wr.frozen? ⟨w3.heap.size, 1, none⟩ = false := d2
      clear d1 d2
      have hset := hRr.set 1 (by simp [own2]; omega) (base * 256 % 4294967296) (by omega) (by omega)
      have hts := (Touch.refl [w3.heap.size] wr).set (p := ⟨w3.heap.size, 1, none⟩) (by simp) (.int .u32 (base * 256 % 4294967296))
      have hTs : Touch [] w (wr.setCell ⟨w3.heap.size, 1, none⟩ (.int .u32 (base * 256 % 4294967296))) := hTr.newer hts (by have := HB.out.1; simp; exact this)
      have hBs := hts.blk hBr (by have := HB.out.2; simpa using this)
      have hs := set_snoc (l := (own2 base).take 1) (m := N - 1) (v := (base * 256 % 4294967296)) (by omega)
      rw [Nat.sub_sub] at hs
      have hset : Row (wr.setCell ⟨w3.heap.size, 1, none⟩ (.int .u32 (base * 256 % 4294967296))) (some ⟨w3.heap.size, 0, none⟩) w3.heap.size ((own2 base).take 2 ++ List.replicate (N - 2) 0) := by
        rw [show (own2 base).take 2 ++ List.replicate (N - 2) 0 = _ from hs.symm]
        exact hset
      have hi : (1 : Int) < (N : Int) := by omega
      have HNN := Lib.hid hNn
      clear hNn hs hts
      have HSET := Lib.hid hset
      clear hset
      go_wp2_with (go_at_call 76; refine (begin_rout _ base _ hb).mono ?_; rintro e w9 ⟨rfl, rfl⟩)
      exact ⟨⟨2, by decide, rfl, HSET.out, hTs, hBs⟩, by simp [intOf]⟩
    · have hname : wr.cell? ⟨b2, 2, none⟩ = some (.string s_win) := by rw [hBr.cell]; rfl
      have hbl := hBr.lt
      obtain ⟨_, d1, d2, c3, _, _⟩ := hRr.at_cell 2 0 (by decide) (by simp [own2]; omega) (part_at _ _ 2 rfl)
      have c1 : wr.cell? ⟨w3.heap.size, 2, none⟩ = some (.int .u32 0) := d1
      have c2 : wr.frozen? ⟨w3.heap.size, 2, none⟩ = false := d2
      clear d1 d2
      have hset := hRr.set 2 (by simp [own2]; omega) base hb.1 hb.2
      have hts := (Touch.refl [w3.heap.size] wr).set (p := ⟨w3.heap.size, 2, none⟩) (by simp) (.int .u32 base)
      have hTs : Touch [] w (wr.setCell ⟨w3.heap.size, 2, none⟩ (.int .u32 base)) := hTr.newer hts (by have := HB.out.1; simp; exact this)
      have hBs := hts.blk hBr (by have := HB.out.2; simpa using this)
      have hs := set_snoc (l := (own2 base).take 2) (m := N - 2) (v := base) (by omega)
      rw [Nat.sub_sub] at hs
      have hset : Row (wr.setCell ⟨w3.heap.size, 2, none⟩ (.int .u32 base)) (some ⟨w3.heap.size, 0, none⟩) w3.heap.size ((own2 base).take 3 ++ List.replicate (N - 3) 0) := by
        rw [show (own2 base).take 3 ++ List.replicate (N - 3) 0 = _ from hs.symm]
        exact hset
      have hi : (2 : Int) < (N : Int) := by omega
      have HNN := Lib.hid hNn
      clear hNn hs hts
      have HSET := Lib.hid hset
      clear hset
      go_wp2_with (go_at_call 76; refine (begin_win _ base _ hb).mono ?_; rintro e w9 ⟨rfl, rfl⟩)
      exact ⟨⟨3, by decide, rfl, HSET.out, hTs, hBs⟩, by simp [intOf]⟩
    · have hname : wr.cell? ⟨b2, 3, none⟩ = some (.string s_wout) := by rw [hBr.cell]; rfl
      have hbl := hBr.lt
      obtain ⟨_, d1, d2, c3, _, _⟩ := hRr.at_cell 3 0 (by decide) (by simp [own2]; omega) (part_at _ _ 3 rfl)
      have c1 : wr.cell? ⟨w3.heap.size, 3, none⟩ = some (.int .u32 0) := d1
      have c2 : wr.frozen? ⟨w3.heap.size, 3, none⟩ = false := d2
      clear d1 d2
      have hset := hRr.set 3 (by simp [own2]; omega) base hb.1 hb.2
      have hts := (Touch.refl [w3.heap.size] wr).set (p := ⟨w3.heap.size, 3, none⟩) (by simp) (.int .u32 base)
      have hTs : Touch [] w (wr.setCell ⟨w3.heap.size, 3, none⟩ (.int .u32 base)) := hTr.newer hts (by have := HB.out.1; simp; exact this)
      have hBs := hts.blk hBr (by have := HB.out.2; simpa using this)
      have hs := set_snoc (l := (own2 base).take 3) (m := N - 3) (v := base) (by omega)
      rw [Nat.sub_sub] at hs
      have hset : Row (wr.setCell ⟨w3.heap.size, 3, none⟩ (.int .u32 base)) (some ⟨w3.heap.size, 0, none⟩) w3.heap.size ((own2 base).take 4 ++ List.replicate (N - 4) 0) := by
        rw [show (own2 base).take 4 ++ List.replicate (N - 4) 0 = _ from hs.symm]
        exact hset
      have hi : (3 : Int) < (N : Int) := by omega
      have HNN := Lib.hid hNn
      clear hNn hs hts
      have HSET := Lib.hid hset
      clear hset
      go_wp2_with (go_at_call 76; refine (begin_wout _ base _ hb).mono ?_; rintro e w9 ⟨rfl, rfl⟩)
      exact ⟨⟨4, by decide, rfl, HSET.out, hTs, hBs⟩, by simp [intOf]⟩
    · have hname : wr.cell? ⟨b2, 4, none⟩ = some (.string s_phase) := by rw [hBr.cell]; rfl
      have hbl := hBr.lt
      obtain ⟨_, d1, d2, c3, _, _⟩ := hRr.at_cell 4 0 (by decide) (by simp [own2]; omega) (part_at _ _ 4 rfl)
      have c1 : wr.cell? ⟨w3.heap.size, 4, none⟩ = some (.int .u32 0) := d1
      have c2 : wr.frozen? ⟨w3.heap.size, 4, none⟩ = false := d2
      clear d1 d2
      have hset := hRr.set 4 (by simp [own2]; omega) base hb.1 hb.2
      have hts := (Touch.refl [w3.heap.size] wr).set (p := ⟨w3.heap.size, 4, none⟩) (by simp) (.int .u32 base)
      have hTs : Touch [] w (wr.setCell ⟨w3.heap.size, 4, none⟩ (.int .u32 base)) := hTr.newer hts (by have := HB.out.1; simp; exact this)
      have hBs := hts.blk hBr (by have := HB.out.2; simpa using this)
      have hs := set_snoc (l := (own2 base).take 4) (m := N - 4) (v := base) (by omega)
      rw [Nat.sub_sub] at hs
      have hset : Row (wr.setCell ⟨w3.heap.size, 4, none⟩ (.int .u32 base)) (some ⟨w3.heap.size, 0, none⟩) w3.heap.size ((own2 base).take 5 ++ List.replicate (N - 5) 0) := by
        rw [show (own2 base).take 5 ++ List.replicate (N - 5) 0 = _ from hs.symm]
        exact hset
      have hi : (4 : Int) < (N : Int) := by omega
      have HNN := Lib.hid hNn
      clear hNn hs hts
      have HSET := Lib.hid hset
      clear hset
      go_wp2_with (go_at_call 76; refine (begin_phase _ base _ hb).mono ?_; rintro e w9 ⟨rfl, rfl⟩)
      exact ⟨⟨5, by decide, rfl, HSET.out, hTs, hBs⟩, by simp [intOf]⟩
    · have hlen : ((own2 base).take 5 ++ List.replicate (N - 5) 0).length = N := by simp [own2]; omega
      have HL := Lib.hid hlen
      have HNN := Lib.hid hNn
      clear hlen hNn
      go_wp2
      go_ret2
      exact newWords_of (by rw [HN.out]; rfl) HL.out (by have := HNN.out; omega) (by have := HNN.out; omega) hRr HB.out.1 hTr
def own3 (base : Int) : List Int := [(base * 256 % 4294967296), (base * 256 % 4294967296), 0, base]
set_option maxHeartbeats 1600000 in
theorem first3 (n base : Int) (w : World) (h : 1 ≤ n ∧ n ≤ 64) (hb : 0 ≤ base ∧ base < 4294967296) :
    Calls Tryz.prog 47 #[.int .i64 3, .int .i64 n, .int .u32 base] w (NewWords w (own3 base ++ List.replicate ((8 + 4 * n).toNat - 4) 0)) := by
  obtain ⟨i0, hi0, hz0, hz1, hz2⟩ := info_parts u32_info
  have hnw := fun w => placeNew_ok n w h
  have hsz := fun w => mapSize_ok n w h
  obtain ⟨h1, h2⟩ := h
  go_enter Tryz.func47, Tryz.ntmps47
  go_wp2_with (go_at_call 73; refine (names_any _).mono ?_; rintro e w1 ⟨m, rfl, ⟨b1, b2, b3, b4, b5, b6, hm, B1, B2, B3, B4, B5, B6⟩, ht1⟩; have hlk := run_lookup_int (P := Tryz.prog) Tryz.underlying129 Tryz.underlying3 hm 3 _ rfl)
  refine (hnw _).mono ?_
  rintro e w2 ⟨rfl, ht2⟩
  have hB2 := (ht2.blk B3 (by simp)).alloc (.cells #[.int .i64 n] 94)
  have hT2 : Touch [] w (w2.alloc (.cells #[.int .i64 n] 94)) := (ht1.trans ht2).alloc _
  clear hlk hm B1 B2 B3 B4 B5 B6 ht1 ht2
  go_wp2_with (first
    | (go_at_call 75; refine (hsz _).mono ?_; rintro e w3 ⟨rfl, ht3⟩)
    | (at_make; refine wpList_make_full _ rfl _ _ 65 rfl w3.heap.size 22 i0 _ 1 Tryz.underlying65 hi0 hz0 hz1 _ _ _ _ (8 + 4 * n).toNat rfl rfl (by omega) (by omega) (by rw [hz2]; omega) (by unfold maxLen; omega) (Nat.le_refl _) ?_; intro w4 hown hg))
  have z3 := ht3.size
  have z4 := hg.size
  simp only [World.size_alloc] at z3
  obtain ⟨N, hN⟩ : ∃ N, (8 + 4 * n).toNat = N := ⟨_, rfl⟩
  have hNn : (N : Int) = 8 + 4 * n := by omega
  rw [hN] at hown
  have hown' : w4.ownsRow w3.heap.size 22 1 (.slice (some ⟨w3.heap.size, 0, none⟩) (List.replicate N (0 : Int)).length N) (List.replicate N (0 : Int)).length (u32s (List.replicate N 0)) := by
    have e : (madeCells (Value.int .u32 0).cells (N * 1)).toList = u32s (List.replicate N 0) := by
      rw [Nat.mul_one]; exact (toList_madeCells_one _ N).trans (by simp [u32s])
    rw [e] at hown
    simpa using hown
  obtain ⟨g, hR, _⟩ := Row.of_owns hown' (words_part (l := []) (by simp) (by simp; omega))
  obtain rfl : g = w3.heap.size := by have := hR.at_ (by simp; omega); simp at this; exact this.symm
  have hT4 : Touch [] w w4 := (hT2.trans ht3).grown hg (by simp)
  have hB4 := (Touch.grown (Touch.refl [] w3) hg (by simp)).blk (ht3.blk hB2 (by simp)) (by simp)
  have hbl := hB4.lt
  have HB := Lib.hid (show w.heap.size ≤ w3.heap.size ∧ b3 ≠ w3.heap.size from ⟨by have := (hT2.trans ht3).size; omega, by have := (ht3.blk hB2 (by simp)).lt; omega⟩)
  have HN := Lib.hid hN
  clear hown hown' hg ht3 hT2 hB2 z3 z4 hN hbl hnw hsz
  rw [HN.out]
  go_loopw [33] (fun i wr => ∃ k : Nat, k ≤ 4 ∧ i = .int .i64 k ∧ Row wr (some ⟨w3.heap.size, 0, none⟩) w3.heap.size ((own3 base).take k ++ List.replicate (N - k) 0) ∧ Touch [] w wr ∧ Blk wr b3 names3) (fun i _ => 4 - (intOf i).toNat)
  case atStart => exact ⟨0, by decide, rfl, hR, hT4, hB4⟩
  case round =>
    obtain ⟨k, hk, rfl, hRr, hTr, hBr⟩ := hrel
    clear hR hT4 hB4
    have hcases : k = 0 ∨ k = 1 ∨ k = 2 ∨ k = 3 ∨ k = 4 := by omega
    clear hk
    rcases hcases with rfl | rfl | rfl | rfl | rfl
    · have hname : wr.cell? ⟨b3, 0, none⟩ = some (.string s_rin) := by rw [hBr.cell]; rfl
      have hbl := hBr.lt
      obtain ⟨_, d1, d2, c3, _, _⟩ := hRr.at_cell 0 0 (by decide) (by simp [own3]; omega) (part_at _ _ 0 rfl)
      have c1 : wr.cell? ⟨w3.heap.size, 0, none⟩ = some (.int .u32 0) := d1
      have c2 : wr.frozen? ⟨w3.heap.size, 0, none⟩ = false := d2
      clear d1 d2
      have hset := hRr.set 0 (by simp [own3]; omega) (base * 256 % 4294967296) (by omega) (by omega)
      have hts := (Touch.refl [w3.heap.size] wr).set (p := ⟨w3.heap.size, 0, none⟩) (by simp) (.int .u32 (base * 256 % 4294967296))
      have hTs : Touch [] w (wr.setCell ⟨w3.heap.size, 0, none⟩ (.int .u32 (base * 256 % 4294967296))) := hTr.newer hts (by have := HB.out.1; simp; exact this)
      have hBs := hts.blk hBr (by have := HB.out.2; simpa using this)
      have hs := set_snoc (l := (own3 base).take 0) (m := N - 0) (v := (base * 256 % 4294967296)) (by omega)
      rw [Nat.sub_sub] at hs
      have hset : Row (wr.setCell ⟨w3.heap.size, 0, none⟩ (.int .u32 (base * 256 % 4294967296))) (some ⟨w3.heap.size, 0, none⟩) w3.heap.size ((own3 base).take 1 ++ List.replicate (N - 1) 0) := by
        rw [show (own3 base).take 1 ++ List.replicate (N - 1) 0 = _ from hs.symm]
        exact hset
      have hi : (0 : Int) < (N : Int) := by omega
      have HNN := Lib.hid hNn
      clear hNn hs hts
      have HSET := Lib.hid hset
      clear hset
      go_wp2_with (go_at_call 76; refine (begin_rin _ base _ hb).mono ?_; rintro e w9 ⟨rfl, rfl⟩)
      exact ⟨⟨1, by decide, rfl, HSET.out, hTs, hBs⟩, by simp [intOf]⟩
    · have hname : wr.cell? ⟨b3, 1, none⟩ = some (.string s_rout) := by rw [hBr.cell]; rfl
      have hbl := hBr.lt
      obtain ⟨_, d1, d2, c3, _, _⟩ := hRr.at_cell 1 0 (by decide) (by simp [own3]; omega) (part_at _ _ 1 rfl)
      have c1 : wr.cell? ⟨w3.heap.size, 1, none⟩ = some (.int .u32 0) := d1
      have c2 : wr.frozen? ⟨w3.heap.size, 1, none⟩ = false := d2
      clear d1 d2
      have hset := hRr.set 1 (by simp [own3]; omega) (base * 256 % 4294967296) (by omega) (by omega)
      have hts := (Touch.refl [w3.heap.size] wr).set (p := ⟨w3.heap.size, 1, none⟩) (by simp) (.int .u32 (base * 256 % 4294967296))
      have hTs : Touch [] w (wr.setCell ⟨w3.heap.size, 1, none⟩ (.int .u32 (base * 256 % 4294967296))) := hTr.newer hts (by have := HB.out.1; simp; exact this)
      have hBs := hts.blk hBr (by have := HB.out.2; simpa using this)
      have hs := set_snoc (l := (own3 base).take 1) (m := N - 1) (v := (base * 256 % 4294967296)) (by omega)
      rw [Nat.sub_sub] at hs
      have hset : Row (wr.setCell ⟨w3.heap.size, 1, none⟩ (.int .u32 (base * 256 % 4294967296))) (some ⟨w3.heap.size, 0, none⟩) w3.heap.size ((own3 base).take 2 ++ List.replicate (N - 2) 0) := by
        rw [show (own3 base).take 2 ++ List.replicate (N - 2) 0 = _ from hs.symm]
        exact hset
      have hi : (1 : Int) < (N : Int) := by omega
      have HNN := Lib.hid hNn
      clear hNn hs hts
      have HSET := Lib.hid hset
      clear hset
      go_wp2_with (go_at_call 76; refine (begin_rout _ base _ hb).mono ?_; rintro e w9 ⟨rfl, rfl⟩)
      exact ⟨⟨2, by decide, rfl, HSET.out, hTs, hBs⟩, by simp [intOf]⟩
    · have hname : wr.cell? ⟨b3, 2, none⟩ = some (.string s_tail) := by rw [hBr.cell]; rfl
      have hbl := hBr.lt
      obtain ⟨_, d1, d2, c3, _, _⟩ := hRr.at_cell 2 0 (by decide) (by simp [own3]; omega) (part_at _ _ 2 rfl)
      have c1 : wr.cell? ⟨w3.heap.size, 2, none⟩ = some (.int .u32 0) := d1
      have c2 : wr.frozen? ⟨w3.heap.size, 2, none⟩ = false := d2
      clear d1 d2
      have hset := hRr.set 2 (by simp [own3]; omega) 0 (by decide) (by decide)
      have hts := (Touch.refl [w3.heap.size] wr).set (p := ⟨w3.heap.size, 2, none⟩) (by simp) (.int .u32 0)
      have hTs : Touch [] w (wr.setCell ⟨w3.heap.size, 2, none⟩ (.int .u32 0)) := hTr.newer hts (by have := HB.out.1; simp; exact this)
      have hBs := hts.blk hBr (by have := HB.out.2; simpa using this)
      have hs := set_snoc (l := (own3 base).take 2) (m := N - 2) (v := 0) (by omega)
      rw [Nat.sub_sub] at hs
      have hset : Row (wr.setCell ⟨w3.heap.size, 2, none⟩ (.int .u32 0)) (some ⟨w3.heap.size, 0, none⟩) w3.heap.size ((own3 base).take 3 ++ List.replicate (N - 3) 0) := by
        rw [show (own3 base).take 3 ++ List.replicate (N - 3) 0 = _ from hs.symm]
        exact hset
      have hi : (2 : Int) < (N : Int) := by omega
      have HNN := Lib.hid hNn
      clear hNn hs hts
      have HSET := Lib.hid hset
      clear hset
      go_wp2_with (go_at_call 76; refine (begin_tail _ base _ hb).mono ?_; rintro e w9 ⟨rfl, rfl⟩)
      exact ⟨⟨3, by decide, rfl, HSET.out, hTs, hBs⟩, by simp [intOf]⟩
    · have hname : wr.cell? ⟨b3, 3, none⟩ = some (.string s_phase) := by rw [hBr.cell]; rfl
      have hbl := hBr.lt
      obtain ⟨_, d1, d2, c3, _, _⟩ := hRr.at_cell 3 0 (by decide) (by simp [own3]; omega) (part_at _ _ 3 rfl)
      have c1 : wr.cell? ⟨w3.heap.size, 3, none⟩ = some (.int .u32 0) := d1
      have c2 : wr.frozen? ⟨w3.heap.size, 3, none⟩ = false := d2
      clear d1 d2
      have hset := hRr.set 3 (by simp [own3]; omega) base hb.1 hb.2
      have hts := (Touch.refl [w3.heap.size] wr).set (p := ⟨w3.heap.size, 3, none⟩) (by simp) (.int .u32 base)
      have hTs : Touch [] w (wr.setCell ⟨w3.heap.size, 3, none⟩ (.int .u32 base)) := hTr.newer hts (by have := HB.out.1; simp; exact this)
      have hBs := hts.blk hBr (by have := HB.out.2; simpa using this)
      have hs := set_snoc (l := (own3 base).take 3) (m := N - 3) (v := base) (by omega)
      rw [Nat.sub_sub] at hs
      have hset : Row (wr.setCell ⟨w3.heap.size, 3, none⟩ (.int .u32 base)) (some ⟨w3.heap.size, 0, none⟩) w3.heap.size ((own3 base).take 4 ++ List.replicate (N - 4) 0) := by
        rw [show (own3 base).take 4 ++ List.replicate (N - 4) 0 = _ from hs.symm]
        exact hset
      have hi : (3 : Int) < (N : Int) := by omega
      have HNN := Lib.hid hNn
      clear hNn hs hts
      have HSET := Lib.hid hset
      clear hset
      go_wp2_with (go_at_call 76; refine (begin_phase _ base _ hb).mono ?_; rintro e w9 ⟨rfl, rfl⟩)
      exact ⟨⟨4, by decide, rfl, HSET.out, hTs, hBs⟩, by simp [intOf]⟩
    · have hlen : ((own3 base).take 4 ++ List.replicate (N - 4) 0).length = N := by simp [own3]; omega
      have HL := Lib.hid hlen
      have HNN := Lib.hid hNn
      clear hlen hNn
      go_wp2
      go_ret2
      exact newWords_of (by rw [HN.out]; rfl) HL.out (by have := HNN.out; omega) (by have := HNN.out; omega) hRr HB.out.1 hTr
def own4 (base : Int) : List Int := [0, 0]
set_option maxHeartbeats 1600000 in
theorem first4 (n base : Int) (w : World) (h : 1 ≤ n ∧ n ≤ 64) (hb : 0 ≤ base ∧ base < 4294967296) :
    Calls Tryz.prog 47 #[.int .i64 4, .int .i64 n, .int .u32 base] w (NewWords w (own4 base ++ List.replicate ((8 + 4 * n).toNat - 2) 0)) := by
  obtain ⟨i0, hi0, hz0, hz1, hz2⟩ := info_parts u32_info
  have hnw := fun w => placeNew_ok n w h
  have hsz := fun w => mapSize_ok n w h
  obtain ⟨h1, h2⟩ := h
  go_enter Tryz.func47, Tryz.ntmps47
  go_wp2_with (go_at_call 73; refine (names_any _).mono ?_; rintro e w1 ⟨m, rfl, ⟨b1, b2, b3, b4, b5, b6, hm, B1, B2, B3, B4, B5, B6⟩, ht1⟩; have hlk := run_lookup_int (P := Tryz.prog) Tryz.underlying129 Tryz.underlying3 hm 4 _ rfl)
  refine (hnw _).mono ?_
  rintro e w2 ⟨rfl, ht2⟩
  have hB2 := (ht2.blk B4 (by simp)).alloc (.cells #[.int .i64 n] 94)
  have hT2 : Touch [] w (w2.alloc (.cells #[.int .i64 n] 94)) := (ht1.trans ht2).alloc _
  clear hlk hm B1 B2 B3 B4 B5 B6 ht1 ht2
  go_wp2_with (first
    | (go_at_call 75; refine (hsz _).mono ?_; rintro e w3 ⟨rfl, ht3⟩)
    | (at_make; refine wpList_make_full _ rfl _ _ 65 rfl w3.heap.size 22 i0 _ 1 Tryz.underlying65 hi0 hz0 hz1 _ _ _ _ (8 + 4 * n).toNat rfl rfl (by omega) (by omega) (by rw [hz2]; omega) (by unfold maxLen; omega) (Nat.le_refl _) ?_; intro w4 hown hg))
  have z3 := ht3.size
  have z4 := hg.size
  simp only [World.size_alloc] at z3
  obtain ⟨N, hN⟩ : ∃ N, (8 + 4 * n).toNat = N := ⟨_, rfl⟩
  have hNn : (N : Int) = 8 + 4 * n := by omega
  rw [hN] at hown
  have hown' : w4.ownsRow w3.heap.size 22 1 (.slice (some ⟨w3.heap.size, 0, none⟩) (List.replicate N (0 : Int)).length N) (List.replicate N (0 : Int)).length (u32s (List.replicate N 0)) := by
    have e : (madeCells (Value.int .u32 0).cells (N * 1)).toList = u32s (List.replicate N 0) := by
      rw [Nat.mul_one]; exact (toList_madeCells_one _ N).trans (by simp [u32s])
    rw [e] at hown
    simpa using hown
  obtain ⟨g, hR, _⟩ := Row.of_owns hown' (words_part (l := []) (by simp) (by simp; omega))
  obtain rfl : g = w3.heap.size := by have := hR.at_ (by simp; omega); simp at this; exact this.symm
  have hT4 : Touch [] w w4 := (hT2.trans ht3).grown hg (by simp)
  have hB4 := (Touch.grown (Touch.refl [] w3) hg (by simp)).blk (ht3.blk hB2 (by simp)) (by simp)
  have hbl := hB4.lt
  have HB := Lib.hid (show w.heap.size ≤ w3.heap.size ∧ b4 ≠ w3.heap.size from ⟨by have := (hT2.trans ht3).size; omega, by have := (ht3.blk hB2 (by simp)).lt; omega⟩)
  have HN := Lib.hid hN
  clear hown hown' hg ht3 hT2 hB2 z3 z4 hN hbl hnw hsz
  rw [HN.out]
  go_loopw [33] (fun i wr => ∃ k : Nat, k ≤ 2 ∧ i = .int .i64 k ∧ Row wr (some ⟨w3.heap.size, 0, none⟩) w3.heap.size ((own4 base).take k ++ List.replicate (N - k) 0) ∧ Touch [] w wr ∧ Blk wr b4 names4) (fun i _ => 2 - (intOf i).toNat)
  case atStart => exact ⟨0, by decide, rfl, hR, hT4, hB4⟩
  case round =>
    obtain ⟨k, hk, rfl, hRr, hTr, hBr⟩ := hrel
    clear hR hT4 hB4
    have hcases : k = 0 ∨ k = 1 ∨ k = 2 := by omega
    clear hk
    rcases hcases with rfl | rfl | rfl
    · have hname : wr.cell? ⟨b4, 0, none⟩ = some (.string s_tail) := by rw [hBr.cell]; rfl
      have hbl := hBr.lt
      obtain ⟨_, d1, d2, c3, _, _⟩ := hRr.at_cell 0 0 (by decide) (by simp [own4]; omega) (part_at _ _ 0 rfl)
      have c1 : wr.cell? ⟨w3.heap.size, 0, none⟩ = some (.int .u32 0) := d1
      have c2 : wr.frozen? ⟨w3.heap.size, 0, none⟩ = false := d2
      clear d1 d2
      have hset := hRr.set 0 (by simp [own4]; omega) 0 (by decide) (by decide)
      have hts := (Touch.refl [w3.heap.size] wr).set (p := ⟨w3.heap.size, 0, none⟩) (by simp) (.int .u32 0)
      have hTs : Touch [] w (wr.setCell ⟨w3.heap.size, 0, none⟩ (.int .u32 0)) := hTr.newer hts (by have := HB.out.1; simp; exact this)
      have hBs := hts.blk hBr (by have := HB.out.2; simpa using this)
      have hs := set_snoc (l := (own4 base).take 0) (m := N - 0) (v := 0) (by omega)
      rw [Nat.sub_sub] at hs
      have hset : Row (wr.setCell ⟨w3.heap.size, 0, none⟩ (.int .u32 0)) (some ⟨w3.heap.size, 0, none⟩) w3.heap.size ((own4 base).take 1 ++ List.replicate (N - 1) 0) := by
        rw [show (own4 base).take 1 ++ List.replicate (N - 1) 0 = _ from hs.symm]
        exact hset
      have hi : (0 : Int) < (N : Int) := by omega
      have HNN := Lib.hid hNn
      clear hNn hs hts
      have HSET := Lib.hid hset
      clear hset
      go_wp2_with (go_at_call 76; refine (begin_tail _ base _ hb).mono ?_; rintro e w9 ⟨rfl, rfl⟩)
      exact ⟨⟨1, by decide, rfl, HSET.out, hTs, hBs⟩, by simp [intOf]⟩
    · have hname : wr.cell? ⟨b4, 1, none⟩ = some (.string s_count) := by rw [hBr.cell]; rfl
      have hbl := hBr.lt
      obtain ⟨_, d1, d2, c3, _, _⟩ := hRr.at_cell 1 0 (by decide) (by simp [own4]; omega) (part_at _ _ 1 rfl)
      have c1 : wr.cell? ⟨w3.heap.size, 1, none⟩ = some (.int .u32 0) := d1
      have c2 : wr.frozen? ⟨w3.heap.size, 1, none⟩ = false := d2
      clear d1 d2
      have hset := hRr.set 1 (by simp [own4]; omega) 0 (by decide) (by decide)
      have hts := (Touch.refl [w3.heap.size] wr).set (p := ⟨w3.heap.size, 1, none⟩) (by simp) (.int .u32 0)
      have hTs : Touch [] w (wr.setCell ⟨w3.heap.size, 1, none⟩ (.int .u32 0)) := hTr.newer hts (by have := HB.out.1; simp; exact this)
      have hBs := hts.blk hBr (by have := HB.out.2; simpa using this)
      have hs := set_snoc (l := (own4 base).take 1) (m := N - 1) (v := 0) (by omega)
      rw [Nat.sub_sub] at hs
      have hset : Row (wr.setCell ⟨w3.heap.size, 1, none⟩ (.int .u32 0)) (some ⟨w3.heap.size, 0, none⟩) w3.heap.size ((own4 base).take 2 ++ List.replicate (N - 2) 0) := by
        rw [show (own4 base).take 2 ++ List.replicate (N - 2) 0 = _ from hs.symm]
        exact hset
      have hi : (1 : Int) < (N : Int) := by omega
      have HNN := Lib.hid hNn
      clear hNn hs hts
      have HSET := Lib.hid hset
      clear hset
      go_wp2_with (go_at_call 76; refine (begin_count _ base _ hb).mono ?_; rintro e w9 ⟨rfl, rfl⟩)
      exact ⟨⟨2, by decide, rfl, HSET.out, hTs, hBs⟩, by simp [intOf]⟩
    · have hlen : ((own4 base).take 2 ++ List.replicate (N - 2) 0).length = N := by simp [own4]; omega
      have HL := Lib.hid hlen
      have HNN := Lib.hid hNn
      clear hlen hNn
      go_wp2
      go_ret2
      exact newWords_of (by rw [HN.out]; rfl) HL.out (by have := HNN.out; omega) (by have := HNN.out; omega) hRr HB.out.1 hTr
def own5 (base : Int) : List Int := [0]
set_option maxHeartbeats 1600000 in
theorem first5 (n base : Int) (w : World) (h : 1 ≤ n ∧ n ≤ 64) (hb : 0 ≤ base ∧ base < 4294967296) :
    Calls Tryz.prog 47 #[.int .i64 5, .int .i64 n, .int .u32 base] w (NewWords w (own5 base ++ List.replicate ((8 + 4 * n).toNat - 1) 0)) := by
  obtain ⟨i0, hi0, hz0, hz1, hz2⟩ := info_parts u32_info
  have hnw := fun w => placeNew_ok n w h
  have hsz := fun w => mapSize_ok n w h
  obtain ⟨h1, h2⟩ := h
  go_enter Tryz.func47, Tryz.ntmps47
  go_wp2_with (go_at_call 73; refine (names_any _).mono ?_; rintro e w1 ⟨m, rfl, ⟨b1, b2, b3, b4, b5, b6, hm, B1, B2, B3, B4, B5, B6⟩, ht1⟩; have hlk := run_lookup_int (P := Tryz.prog) Tryz.underlying129 Tryz.underlying3 hm 5 _ rfl)
  refine (hnw _).mono ?_
  rintro e w2 ⟨rfl, ht2⟩
  have hB2 := (ht2.blk B5 (by simp)).alloc (.cells #[.int .i64 n] 94)
  have hT2 : Touch [] w (w2.alloc (.cells #[.int .i64 n] 94)) := (ht1.trans ht2).alloc _
  clear hlk hm B1 B2 B3 B4 B5 B6 ht1 ht2
  go_wp2_with (first
    | (go_at_call 75; refine (hsz _).mono ?_; rintro e w3 ⟨rfl, ht3⟩)
    | (at_make; refine wpList_make_full _ rfl _ _ 65 rfl w3.heap.size 22 i0 _ 1 Tryz.underlying65 hi0 hz0 hz1 _ _ _ _ (8 + 4 * n).toNat rfl rfl (by omega) (by omega) (by rw [hz2]; omega) (by unfold maxLen; omega) (Nat.le_refl _) ?_; intro w4 hown hg))
  have z3 := ht3.size
  have z4 := hg.size
  simp only [World.size_alloc] at z3
  obtain ⟨N, hN⟩ : ∃ N, (8 + 4 * n).toNat = N := ⟨_, rfl⟩
  have hNn : (N : Int) = 8 + 4 * n := by omega
  rw [hN] at hown
  have hown' : w4.ownsRow w3.heap.size 22 1 (.slice (some ⟨w3.heap.size, 0, none⟩) (List.replicate N (0 : Int)).length N) (List.replicate N (0 : Int)).length (u32s (List.replicate N 0)) := by
    have e : (madeCells (Value.int .u32 0).cells (N * 1)).toList = u32s (List.replicate N 0) := by
      rw [Nat.mul_one]; exact (toList_madeCells_one _ N).trans (by simp [u32s])
    rw [e] at hown
    simpa using hown
  obtain ⟨g, hR, _⟩ := Row.of_owns hown' (words_part (l := []) (by simp) (by simp; omega))
  obtain rfl : g = w3.heap.size := by have := hR.at_ (by simp; omega); simp at this; exact this.symm
  have hT4 : Touch [] w w4 := (hT2.trans ht3).grown hg (by simp)
  have hB4 := (Touch.grown (Touch.refl [] w3) hg (by simp)).blk (ht3.blk hB2 (by simp)) (by simp)
  have hbl := hB4.lt
  have HB := Lib.hid (show w.heap.size ≤ w3.heap.size ∧ b5 ≠ w3.heap.size from ⟨by have := (hT2.trans ht3).size; omega, by have := (ht3.blk hB2 (by simp)).lt; omega⟩)
  have HN := Lib.hid hN
  clear hown hown' hg ht3 hT2 hB2 z3 z4 hN hbl hnw hsz
  rw [HN.out]
  go_loopw [33] (fun i wr => ∃ k : Nat, k ≤ 1 ∧ i = .int .i64 k ∧ Row wr (some ⟨w3.heap.size, 0, none⟩) w3.heap.size ((own5 base).take k ++ List.replicate (N - k) 0) ∧ Touch [] w wr ∧ Blk wr b5 names5) (fun i _ => 1 - (intOf i).toNat)
  case atStart => exact ⟨0, by decide, rfl, hR, hT4, hB4⟩
  case round =>
    obtain ⟨k, hk, rfl, hRr, hTr, hBr⟩ := hrel
    clear hR hT4 hB4
    have hcases : k = 0 ∨ k = 1 := by omega
    clear hk
    rcases hcases with rfl | rfl
    · have hname : wr.cell? ⟨b5, 0, none⟩ = some (.string s_word) := by rw [hBr.cell]; rfl
      have hbl := hBr.lt
      obtain ⟨_, d1, d2, c3, _, _⟩ := hRr.at_cell 0 0 (by decide) (by simp [own5]; omega) (part_at _ _ 0 rfl)
      have c1 : wr.cell? ⟨w3.heap.size, 0, none⟩ = some (.int .u32 0) := d1
      have c2 : wr.frozen? ⟨w3.heap.size, 0, none⟩ = false := d2
      clear d1 d2
      have hset := hRr.set 0 (by simp [own5]; omega) 0 (by decide) (by decide)
      have hts := (Touch.refl [w3.heap.size] wr).set (p := ⟨w3.heap.size, 0, none⟩) (by simp) (.int .u32 0)
      have hTs : Touch [] w (wr.setCell ⟨w3.heap.size, 0, none⟩ (.int .u32 0)) := hTr.newer hts (by have := HB.out.1; simp; exact this)
      have hBs := hts.blk hBr (by have := HB.out.2; simpa using this)
      have hs := set_snoc (l := (own5 base).take 0) (m := N - 0) (v := 0) (by omega)
      rw [Nat.sub_sub] at hs
      have hset : Row (wr.setCell ⟨w3.heap.size, 0, none⟩ (.int .u32 0)) (some ⟨w3.heap.size, 0, none⟩) w3.heap.size ((own5 base).take 1 ++ List.replicate (N - 1) 0) := by
        rw [show (own5 base).take 1 ++ List.replicate (N - 1) 0 = _ from hs.symm]
        exact hset
      have hi : (0 : Int) < (N : Int) := by omega
      have HNN := Lib.hid hNn
      clear hNn hs hts
      have HSET := Lib.hid hset
      clear hset
      go_wp2_with (go_at_call 76; refine (begin_word5 base _ hb).mono ?_; rintro e w9 ⟨rfl, rfl⟩)
      exact ⟨⟨1, by decide, rfl, HSET.out, hTs, hBs⟩, by simp [intOf]⟩
    · have hlen : ((own5 base).take 1 ++ List.replicate (N - 1) 0).length = N := by simp [own5]; omega
      have HL := Lib.hid hlen
      have HNN := Lib.hid hNn
      clear hlen hNn
      go_wp2
      go_ret2
      exact newWords_of (by rw [HN.out]; rfl) HL.out (by have := HNN.out; omega) (by have := HNN.out; omega) hRr HB.out.1 hTr
def own6 (base : Int) : List Int := [(base % 256 * 65792)]
set_option maxHeartbeats 1600000 in
theorem first6 (n base : Int) (w : World) (h : 1 ≤ n ∧ n ≤ 64) (hb : 0 ≤ base ∧ base < 4294967296) :
    Calls Tryz.prog 47 #[.int .i64 6, .int .i64 n, .int .u32 base] w (NewWords w (own6 base ++ List.replicate ((8 + 4 * n).toNat - 1) 0)) := by
  obtain ⟨i0, hi0, hz0, hz1, hz2⟩ := info_parts u32_info
  have hnw := fun w => placeNew_ok n w h
  have hsz := fun w => mapSize_ok n w h
  obtain ⟨h1, h2⟩ := h
  go_enter Tryz.func47, Tryz.ntmps47
  go_wp2_with (go_at_call 73; refine (names_any _).mono ?_; rintro e w1 ⟨m, rfl, ⟨b1, b2, b3, b4, b5, b6, hm, B1, B2, B3, B4, B5, B6⟩, ht1⟩; have hlk := run_lookup_int (P := Tryz.prog) Tryz.underlying129 Tryz.underlying3 hm 6 _ rfl)
  refine (hnw _).mono ?_
  rintro e w2 ⟨rfl, ht2⟩
  have hB2 := (ht2.blk B6 (by simp)).alloc (.cells #[.int .i64 n] 94)
  have hT2 : Touch [] w (w2.alloc (.cells #[.int .i64 n] 94)) := (ht1.trans ht2).alloc _
  clear hlk hm B1 B2 B3 B4 B5 B6 ht1 ht2
  go_wp2_with (first
    | (go_at_call 75; refine (hsz _).mono ?_; rintro e w3 ⟨rfl, ht3⟩)
    | (at_make; refine wpList_make_full _ rfl _ _ 65 rfl w3.heap.size 22 i0 _ 1 Tryz.underlying65 hi0 hz0 hz1 _ _ _ _ (8 + 4 * n).toNat rfl rfl (by omega) (by omega) (by rw [hz2]; omega) (by unfold maxLen; omega) (Nat.le_refl _) ?_; intro w4 hown hg))
  have z3 := ht3.size
  have z4 := hg.size
  simp only [World.size_alloc] at z3
  obtain ⟨N, hN⟩ : ∃ N, (8 + 4 * n).toNat = N := ⟨_, rfl⟩
  have hNn : (N : Int) = 8 + 4 * n := by omega
  rw [hN] at hown
  have hown' : w4.ownsRow w3.heap.size 22 1 (.slice (some ⟨w3.heap.size, 0, none⟩) (List.replicate N (0 : Int)).length N) (List.replicate N (0 : Int)).length (u32s (List.replicate N 0)) := by
    have e : (madeCells (Value.int .u32 0).cells (N * 1)).toList = u32s (List.replicate N 0) := by
      rw [Nat.mul_one]; exact (toList_madeCells_one _ N).trans (by simp [u32s])
    rw [e] at hown
    simpa using hown
  obtain ⟨g, hR, _⟩ := Row.of_owns hown' (words_part (l := []) (by simp) (by simp; omega))
  obtain rfl : g = w3.heap.size := by have := hR.at_ (by simp; omega); simp at this; exact this.symm
  have hT4 : Touch [] w w4 := (hT2.trans ht3).grown hg (by simp)
  have hB4 := (Touch.grown (Touch.refl [] w3) hg (by simp)).blk (ht3.blk hB2 (by simp)) (by simp)
  have hbl := hB4.lt
  have HB := Lib.hid (show w.heap.size ≤ w3.heap.size ∧ b6 ≠ w3.heap.size from ⟨by have := (hT2.trans ht3).size; omega, by have := (ht3.blk hB2 (by simp)).lt; omega⟩)
  have HN := Lib.hid hN
  clear hown hown' hg ht3 hT2 hB2 z3 z4 hN hbl hnw hsz
  rw [HN.out]
  go_loopw [33] (fun i wr => ∃ k : Nat, k ≤ 1 ∧ i = .int .i64 k ∧ Row wr (some ⟨w3.heap.size, 0, none⟩) w3.heap.size ((own6 base).take k ++ List.replicate (N - k) 0) ∧ Touch [] w wr ∧ Blk wr b6 names6) (fun i _ => 1 - (intOf i).toNat)
  case atStart => exact ⟨0, by decide, rfl, hR, hT4, hB4⟩
  case round =>
    obtain ⟨k, hk, rfl, hRr, hTr, hBr⟩ := hrel
    clear hR hT4 hB4
    have hcases : k = 0 ∨ k = 1 := by omega
    clear hk
    rcases hcases with rfl | rfl
    · have hname : wr.cell? ⟨b6, 0, none⟩ = some (.string s_word) := by rw [hBr.cell]; rfl
      have hbl := hBr.lt
      obtain ⟨_, d1, d2, c3, _, _⟩ := hRr.at_cell 0 0 (by decide) (by simp [own6]; omega) (part_at _ _ 0 rfl)
      have c1 : wr.cell? ⟨w3.heap.size, 0, none⟩ = some (.int .u32 0) := d1
      have c2 : wr.frozen? ⟨w3.heap.size, 0, none⟩ = false := d2
      clear d1 d2
      have hset := hRr.set 0 (by simp [own6]; omega) (base % 256 * 65792) (by omega) (by omega)
      have hts := (Touch.refl [w3.heap.size] wr).set (p := ⟨w3.heap.size, 0, none⟩) (by simp) (.int .u32 (base % 256 * 65792))
      have hTs : Touch [] w (wr.setCell ⟨w3.heap.size, 0, none⟩ (.int .u32 (base % 256 * 65792))) := hTr.newer hts (by have := HB.out.1; simp; exact this)
      have hBs := hts.blk hBr (by have := HB.out.2; simpa using this)
      have hs := set_snoc (l := (own6 base).take 0) (m := N - 0) (v := (base % 256 * 65792)) (by omega)
      rw [Nat.sub_sub] at hs
      have hset : Row (wr.setCell ⟨w3.heap.size, 0, none⟩ (.int .u32 (base % 256 * 65792))) (some ⟨w3.heap.size, 0, none⟩) w3.heap.size ((own6 base).take 1 ++ List.replicate (N - 1) 0) := by
        rw [show (own6 base).take 1 ++ List.replicate (N - 1) 0 = _ from hs.symm]
        exact hset
      have hi : (0 : Int) < (N : Int) := by omega
      have HNN := Lib.hid hNn
      clear hNn hs hts
      have HSET := Lib.hid hset
      clear hset
      go_wp2_with (go_at_call 76; refine (begin_word6 base _ hb).mono ?_; rintro e w9 ⟨rfl, rfl⟩)
      exact ⟨⟨1, by decide, rfl, HSET.out, hTs, hBs⟩, by simp [intOf]⟩
    · have hlen : ((own6 base).take 1 ++ List.replicate (N - 1) 0).length = N := by simp [own6]; omega
      have HL := Lib.hid hlen
      have HNN := Lib.hid hNn
      clear hlen hNn
      go_wp2
      go_ret2
      exact newWords_of (by rw [HN.out]; rfl) HL.out (by have := HNN.out; omega) (by have := HNN.out; omega) hRr HB.out.1 hTr
end Go.Proofs.YthnimpkoidablaaGreat.Z

set_option linter.unusedVariables false
set_option linter.unusedSimpArgs false
namespace Go.Proofs.YthnimpkoidablaaGreat.Z
open Go.RowKit
theorem from_row {w : World} {p : Option Addr} {g cap n : Nat} {L : List Int} (h : Row w p g L) (hn : L.length = n) :
    Calls Tryz.prog 48 #[.slice p n cap] w (NewMem w L) := from_ok w (h.rd' hn) h.words
end Go.Proofs.YthnimpkoidablaaGreat.Z

set_option linter.unusedVariables false
set_option linter.unusedSimpArgs false
namespace Go.Proofs.YthnimpkoidablaaGreat.Z
open Go.RowKit
def HasMem (S0 : List Nat) (w0 : World) (L : List Int) (rs : List Res) (e : Ending) (w' : World) : Prop :=
  ∃ m a, e = .returned (.tuple #[.pointer (some ⟨m, 0, none⟩), .int .i64 0]) ∧ Has S0 w0 w' (.mem m a L :: rs)
def HasRow (S0 : List Nat) (w0 : World) (L : List Int) (rs : List Res) (e : Ending) (w' : World) : Prop :=
  ∃ p g cap, e = .returned (.slice p L.length cap) ∧ Has S0 w0 w' (.row p g cap L :: rs)
def HasFirst (S0 : List Nat) (w0 : World) (L : List Int) (rs : List Res) (e : Ending) (w' : World) : Prop :=
  ∃ p g cap, e = .returned (.tuple #[.slice p L.length cap, .int .i64 0]) ∧ Has S0 w0 w' (.row p g cap L :: rs)
theorem has_newmem {S0 : List Nat} {w0 w w' : World} {L : List Int} {rs : List Res} (H : Has S0 w0 w rs) {e : Ending} (h : NewMem w L e w') : HasMem S0 w0 L rs e w' := by
  obtain ⟨m, a, he, hM, k1, k2, t⟩ := h
  exact ⟨m, a, he, H.came (.mem m a L) t (by simp) hM (by
    intro k hk
    simp only [Res.foot, List.mem_cons] at hk
    rcases hk with rfl | hk
    · exact k1
    · rw [(mem_lv hk).1]; exact k2)⟩
theorem fromRow_has {S0 : List Nat} {w0 w : World} {p : Option Addr} {g cap : Nat} {L : List Int} {rs : List Res} (H : Has S0 w0 w (.row p g cap L :: rs)) {n : Nat} (hn : L.length = n) :
    Calls Tryz.prog 48 #[.slice p n cap] w (HasMem S0 w0 L (.row p g cap L :: rs)) :=
  (from_row H.row hn).mono fun e w' h => has_newmem H h
theorem has_newrow {S0 : List Nat} {w0 w w' : World} {L : List Int} {rs : List Res} (H : Has S0 w0 w rs) (hw : Words L) {e : Ending} (h : NewRow w L e w') : HasRow S0 w0 L rs e w' := by
  obtain ⟨p, cap, he, ho, t⟩ := h
  obtain ⟨g, hR, hg⟩ := Row.of_owns ho hw
  exact ⟨p, g, cap, he, H.came (.row p g cap L) t (by simp) ⟨hR, owns_cap ho⟩ (by
    intro k hk
    rw [(mem_lv hk).1]
    exact hg)⟩
theorem has_newwords {S0 : List Nat} {w0 w w' : World} {L : List Int} {rs : List Res} (H : Has S0 w0 w rs) {e : Ending} (h : NewWords w L e w') : HasFirst S0 w0 L rs e w' := by
  obtain ⟨p, g, cap, he, hR, hg, _, t, hc, hm⟩ := h
  exact ⟨p, g, cap, he, H.came (.row p g cap L) t (by simp) ⟨hR, hc, hm⟩ (by
    intro k hk
    rw [(mem_lv hk).1]
    exact hg)⟩
end Go.Proofs.YthnimpkoidablaaGreat.Z
