/- The document's Same, on two slices of words. -/
import Derived.Test.YtlndihdlodempaaZRef01
import Derived.Outline
set_option linter.unusedVariables false
set_option linter.unusedSimpArgs false
namespace Go.Proofs.Ytlndihdlodempaa.Z
open Go.RowKit

theorem u32s_at {w : World} {n i : Nat} {A : Option Addr} {L : List Int} (h : Rd w 1 A n (u32s L)) (hi : i < n) :
    ∃ ad, A = some ad ∧ ad.block < w.heap.size ∧ w.cell? (ad.add i) = some (.int .u32 (L.getD i 0)) := by
  obtain ⟨ad, u, hA, hu, hb, hc⟩ := h.at_ hi
  have hl := len_of_rd h
  refine ⟨ad, hA, hb, ?_⟩
  rw [hc, ← hu]
  simp [u32s, show i < L.length by omega]

theorem u32s_flatMap (L : List Int) : (L.flatMap fun x => [Value.int .u32 x]) = u32s L := by
  induction L with
  | nil => rfl
  | cons x L ih => rw [List.flatMap_cons, ih]; rfl

theorem take_eq_succ {L M : List Int} {k : Nat} (hl : k < L.length) (hm : k < M.length) (h : L.take k = M.take k) (e : L.getD k 0 = M.getD k 0) : L.take (k + 1) = M.take (k + 1) := by
  rw [List.take_succ_eq_append_getElem hl, List.take_succ_eq_append_getElem hm, h]
  simp [List.getD, hl, hm] at e
  rw [e]

set_option maxHeartbeats 800000 in
theorem same_any {A B : Option Addr} {n m c d : Nat} {L M : List Int} (w : World) (hA : Rd w 1 A n (u32s L)) (hB : Rd w 1 B m (u32s M)) (hn : n ≤ 1048576) :
    Calls Try.prog 21 #[.slice A n c, .slice B m d] w fun e w' => e = .returned (.bool (decide (L = M))) ∧ Touch [] w w' := by
  have hl := len_of_rd hA
  have hm := len_of_rd hB
  by_cases hnm : n = m
  case neg =>
    have hd : decide (L = M) = false := decide_eq_false (fun e => hnm (by rw [← hl, ← hm, e]))
    rw [hd]
    have hb : ((n : Int) != (m : Int)) = true := by rw [bne_iff_ne]; omega
    clear hd hnm hl hm
    go_enter Try.func21, Try.ntmps21
    go_wp2_with fail
    go_ret
    exact ⟨rfl, Touch.refl _ _⟩
  case pos =>
    subst hnm
    have hb : ((n : Int) != (n : Int)) = false := by simp
    have HL := Lib.hid hl
    have HM := Lib.hid hm
    clear hl hm
    go_enter Try.func21, Try.ntmps21
    go_wp2_with fail
    go_loopw [5] (fun i wr => ∃ k : Nat, k ≤ n ∧ i = .int .i64 k ∧ L.take k = M.take k ∧ Touch [] w wr) (fun i _ => n - (intOf i).toNat)
    case atStart => exact ⟨0, Nat.zero_le _, rfl, rfl, Touch.refl _ _⟩
    case round =>
      obtain ⟨k, hk, rfl, ht, hw⟩ := hrel
      have HT := Lib.hid ht
      clear ht
      by_cases hlt : k < n
      · obtain ⟨ad, rfl, _, hca⟩ := u32s_at (hA.touch hw (by simp)) hlt
        obtain ⟨bd, rfl, _, hcb⟩ := u32s_at (hB.touch hw (by simp)) hlt
        obtain ⟨x, hx⟩ : ∃ x, L.getD k 0 = x := ⟨_, rfl⟩
        obtain ⟨y, hy⟩ : ∃ y, M.getD k 0 = y := ⟨_, rfl⟩
        rw [hx] at hca
        rw [hy] at hcb
        have HX := Lib.hid hx
        have HY := Lib.hid hy
        clear hx hy
        have hi : (k : Int) < (n : Int) := by omega
        go_wp2_with fail
        go_quiet (fail)
        by_cases hxy : x = y
        · subst hxy
          go_wp2
          go_roundw
          case rel => exact ⟨k + 1, by omega, by go_num, take_eq_succ (by have := HL.out; omega) (by have := HM.out; omega) HT.out (HX.out.trans HY.out.symm), by repeat (first | assumption | apply Touch.drewN | apply Touch.drew)⟩
          case measure => simp [intOf]; omega
        · have hne : (x != y) = true := by rw [bne_iff_ne]; exact hxy
          have hd : decide (L = M) = false := decide_eq_false (fun e => hxy (by rw [← HX.out, ← HY.out, e]))
          have HD := Lib.hid hd
          clear hd hxy
          go_wp2
          go_ret
          exact ⟨by rw [HD.out]; rfl, by repeat (first | assumption | apply Touch.drewN | apply Touch.drew)⟩
      · have hkn : k = n := by omega
        have hd : decide (L = M) = true := decide_eq_true (by
          have h1 := HT.out
          rw [List.take_of_length_le (by have := HL.out; omega), List.take_of_length_le (by have := HM.out; omega)] at h1
          exact h1)
        have HD := Lib.hid hd
        clear hd hkn
        have hi : (n : Int) ≤ (k : Int) := by omega
        go_wp2
        go_ret
        exact ⟨by rw [HD.out]; rfl, hw⟩

end Go.Proofs.Ytlndihdlodempaa.Z
