/- Maps with whole numbers for keys that the call makes: an insertion, a look-up. No program is in sight. -/
import Derived.Test.YtlndihdlodempaaZBase
import Derived.Maps.OwnOps
set_option linter.unusedVariables false
set_option linter.unusedSimpArgs false
namespace Go.Proofs.Ytlndihdlodempaa.Z
open Go.RowKit

/-- Block m is a map of these entries. -/
def MapAt (w : World) (m : Nat) (es : List (Int × Value)) : Prop := ∃ clk, ∃ l : List MapEntry, w.heap[m]? = some (.map l.toArray clk) ∧ l.map (fun e => (e.key, e.val)) = es.map (fun e => (Value.int .i64 e.1, e.2))

theorem MapAt.new (w : World) : MapAt (w.alloc (.map #[] 0)) w.heap.size [] := ⟨0, [], by show (w.heap.push _)[w.heap.size]? = _; simp, rfl⟩

theorem MapAt.touch {w w' : World} {m : Nat} {es : List (Int × Value)} {S : List Nat} (h : MapAt w m es) (t : Touch S w w') (hm : m ∉ S) : MapAt w' m es := by
  obtain ⟨clk, l, hb, he⟩ := h
  have hlt : m < w.heap.size := by
    rcases Nat.lt_or_ge m w.heap.size with h' | h'
    · exact h'
    · simp [Array.getElem?_eq_none h'] at hb
  exact ⟨clk, l, (t.block m hlt hm).trans hb, he⟩

theorem findNow_some (k : Int) : ∀ (l : List MapEntry) (es : List (Int × Value)) (i : Nat), l.map (fun e => (e.key, e.val)) = es.map (fun e => (Value.int .i64 e.1, e.2)) →
    ∃ o, Instr.findNow (.int .i64) (.int .i64 k) l i = some o ∧ o.map (·.2) = (es.find? (fun e => e.1 == k)).map (·.2)
  | [], [], i, _ => ⟨none, rfl, rfl⟩
  | [], _ :: _, i, h => by simp at h
  | _ :: _, [], i, h => by simp at h
  | e :: l, x :: es, i, h => by
    simp only [List.map_cons, List.cons.injEq, Prod.mk.injEq] at h
    obtain ⟨⟨hk, hv⟩, ht⟩ := h
    obtain ⟨o, ho, hp⟩ := findNow_some k l es (i + 1) ht
    by_cases hx : x.1 = k
    · refine ⟨some (i, e.val), ?_, ?_⟩
      · simp [Instr.findNow, hk, Instr.sameNow, hx]
      · simp [List.find?, hx, hv]
    · refine ⟨o, ?_, ?_⟩
      · have : (k == x.1) = false := by simp; exact fun e => hx e.symm
        simp [Instr.findNow, hk, Instr.sameNow, this, ho]
      · have : (x.1 == k) = false := by simpa using hx
        simp [List.find?, this, hp]

theorem run_checkKey_succ {P : Program} {w : World} {kt : TypeId} (hk : P.underlying kt = some (.int .i64)) (b : Bool) (k : Int) (n : Nat) : (Instr.checkKey b (n + 1) kt (.int .i64 k)).run P w = .ok () w := by
  rw [Instr.checkKey]
  simp [run_underlying hk]

theorem run_checkKey_int {P : Program} {w : World} {kt : TypeId} (hk : P.underlying kt = some (.int .i64)) (b : Bool) (k : Int) : (Instr.checkKey b 10000 kt (.int .i64 k)).run P w = .ok () w :=
  run_checkKey_succ hk b k 9999

theorem run_insert_int {P : Program} {w : World} {T kt et : TypeId} {m : Nat} {es : List (Int × Value)} (hT : P.underlying T = some (.map kt et)) (hk : P.underlying kt = some (.int .i64)) (h : MapAt w m es) (k : Int) (v : Value)
    (hn : es.find? (fun e => e.1 == k) = none) : ∃ w', (Instr.mapUpdate T (.map (some m)) (.int .i64 k) v).run P w = .ok () w' ∧ MapAt w' m (es ++ [(k, v)]) ∧ Touch [m] w w' := by
  obtain ⟨clk, l, hb, he⟩ := h
  obtain ⟨o, ho, hp⟩ := findNow_some k l es 0 he
  rw [hn] at hp
  have hon : o = none := by cases o <;> simp at hp ⊢
  subst hon
  refine ⟨{ w with heap := w.heap.setIfInBounds m (.map (l.toArray.push { key := .int .i64 k, val := v, born := clk }) (clk + 1)) }, ?_, ?_, ?_⟩
  · simp [Instr.mapUpdate, run_underlying hT, MapKept.run_getObj_map hb, run_checkKey_int hk, Instr.findKey, run_underlying hk, ho, MapKept.run_setObj_map _ hb]
  · have hlt : m < w.heap.size := by
      rcases Nat.lt_or_ge m w.heap.size with h' | h'
      · exact h'
      · simp [Array.getElem?_eq_none h'] at hb
    refine ⟨clk + 1, l ++ [{ key := .int .i64 k, val := v, born := clk }], ?_, ?_⟩
    · show (w.heap.setIfInBounds m _)[m]? = _
      simp [hlt]
    · simp [he]
  · refine ⟨rfl, rfl, rfl, by simp, fun j hj hs => ?_⟩
    show (w.heap.setIfInBounds m _)[j]? = _
    have : m ≠ j := by simp at hs; omega
    simp [Array.getElem?_setIfInBounds, this]

theorem run_lookup_int {P : Program} {w : World} {T kt et : TypeId} {m : Nat} {es : List (Int × Value)} (hT : P.underlying T = some (.map kt et)) (hk : P.underlying kt = some (.int .i64)) (h : MapAt w m es) (k : Int) (v : Value)
    (hn : (es.find? (fun e => e.1 == k)).map (·.2) = some v) : (Instr.lookup T (.map (some m)) (.int .i64 k) false).run P w = .ok v w := by
  obtain ⟨clk, l, hb, he⟩ := h
  obtain ⟨o, ho, hp⟩ := findNow_some k l es 0 he
  rw [hn] at hp
  obtain ⟨⟨i, v'⟩, rfl⟩ : ∃ x, o = some x := by cases o <;> simp at hp ⊢
  simp at hp
  subst hp
  simp [Instr.lookup, run_underlying hT, MapKept.run_getObj_map hb, run_checkKey_int hk, Instr.findKey, run_underlying hk, ho]

theorem wpList_insert_int {P : Program} (w : World) {ops : Array Oper} {rest : List Oper} {o : Oper} {a : Act} {Q : Exit → Act → World → Prop}
    (hg : o.guard = none) (mo ko vo : Operand) (T : TypeId) (hop : o.op = Op.insert T mo ko vo) (kt et : TypeId) (hT : P.underlying T = some (.map kt et)) (hk : P.underlying kt = some (.int .i64))
    (m : Nat) (es : List (Int × Value)) (hm : a.eval mo = .map (some m)) (h : MapAt w m es) (k : Int) (v : Value) (hko : a.eval ko = .int .i64 k) (hvo : a.eval vo = v) (hn : es.find? (fun e => e.1 == k) = none)
    (hK : ∀ w', MapAt w' m (es ++ [(k, v)]) → Touch [m] w w' → wpList P ops Q rest (a.put o.dst undef) w') : wpList P ops Q (o :: rest) a w := by
  refine wpList_plain hg fun K' hK' => ?_
  obtain ⟨w', hrun, r1, r2⟩ := run_insert_int hT hk h k v hn
  unfold Oper.wp
  simp [execOp, hop, hm, hko, hvo, hrun, Result.andThen]
  exact hK' _ _ (hK w' r1 r2)

end Go.Proofs.Ytlndihdlodempaa.Z
