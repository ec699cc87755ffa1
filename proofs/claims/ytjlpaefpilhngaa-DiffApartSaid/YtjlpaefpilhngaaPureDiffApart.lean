/- What is put into a field of 8 bits is in it, another field that has no bit in common is as it was, and a field that is bumped 256 times is as it was: for every word, every value and every two places. -/
import Derived.Test.YtjlpaefpilhngaaPDiffApartx1
import Derived.Test.YtjlpaefpilhngaaZBits
namespace Go.Proofs.Ytjlpaefpilhngaa.Pure
open Go.RowKit Go.Proofs.Ytjlpaefpilhngaa.PDiffApart Go.Proofs.YtjlpaefpilhngaaW.PrintWords Go.Proofs.YtjlpaefpilhngaaW.PrintLast Go.Proofs.Ytjlpaefpilhngaa.ZBits

theorem apart_awake : stilemanlaw02_awake.f = some true := by decide +kernel

theorem apart_field (s : Nat) (hs : s < 25) : diff_field.f (s : Int) 8 = some true := by
  unfold diff_field.f
  rw [if_pos (by omega), if_pos (by omega), if_pos (by omega)]
  have : wrap64 (32 - (s : Int)) = 32 - s := by unfold wrap64; omega
  rw [this, decide_eq_true (by omega)]

/-- A word with another byte at place s. -/
def put8 (v s y : Nat) : Nat := v - v / 2 ^ s % 256 * 2 ^ s + y * 2 ^ s

theorem split8 (v s : Nat) : v = v / 2 ^ s / 256 * 256 * 2 ^ s + v / 2 ^ s % 256 * 2 ^ s + v % 2 ^ s := by
  have e1 := Nat.div_add_mod v (2 ^ s)
  have e2 := Nat.div_add_mod (v / 2 ^ s) 256
  generalize 2 ^ s = D at *
  rw [← Nat.add_mul, Nat.mul_comm (v / D / 256) 256, e2, Nat.mul_comm]
  exact e1.symm

theorem put8_eq (v s y : Nat) : put8 v s y = (v / 2 ^ s / 256 * 256 + y) * 2 ^ s + v % 2 ^ s := by
  have h := split8 v s
  unfold put8
  rw [Nat.add_mul]
  generalize v / 2 ^ s / 256 * 256 * 2 ^ s = a at *
  generalize v / 2 ^ s % 256 * 2 ^ s = b at *
  generalize y * 2 ^ s = c at *
  omega

theorem put8_div (v s y : Nat) : put8 v s y / 2 ^ s = v / 2 ^ s / 256 * 256 + y := by
  rw [put8_eq, Nat.mul_comm, Nat.mul_add_div (pow_pos s), Nat.div_eq_of_lt (Nat.mod_lt _ (pow_pos s)), Nat.add_zero]

theorem put8_get (v s y : Nat) (hy : y < 256) : put8 v s y / 2 ^ s % 256 = y := by
  rw [put8_div]
  omega

theorem put8_twice (v s y z : Nat) (hy : y < 256) : put8 (put8 v s y) s z = put8 v s z := by
  rw [put8_eq (put8 v s y) s z, put8_div, put8_eq v s z]
  have e : put8 v s y % 2 ^ s = v % 2 ^ s := by rw [put8_eq, Nat.mul_comm, Nat.mul_add_mod, Nat.mod_mod]
  rw [e, show (v / 2 ^ s / 256 * 256 + y) / 256 = v / 2 ^ s / 256 by omega]

theorem put8_self (v s : Nat) : put8 v s (v / 2 ^ s % 256) = v := by
  have h := split8 v s
  unfold put8
  generalize v / 2 ^ s / 256 * 256 * 2 ^ s = a at *
  generalize v / 2 ^ s % 256 * 2 ^ s = b at *
  omega

theorem put8_lt (v s y : Nat) (hv : v < 4294967296) (hs : s < 25) (hy : y < 256) : put8 v s y < 4294967296 := by
  rw [put8_eq]
  have e : (4294967296 : Nat) = 2 ^ s * (256 * 2 ^ (24 - s)) := by
    rw [show (256 : Nat) = 2 ^ 8 from rfl, ← Nat.pow_add, ← Nat.pow_add, show s + (8 + (24 - s)) = 32 by omega]
  have hq : v / 2 ^ s / 256 < 2 ^ (24 - s) := by
    apply Nat.div_lt_of_lt_mul
    apply Nat.div_lt_of_lt_mul
    rw [← e]; exact hv
  have hm : v % 2 ^ s < 2 ^ s := Nat.mod_lt _ (pow_pos s)
  generalize v / 2 ^ s / 256 = q at *
  generalize v % 2 ^ s = r at *
  have h1 : q * 256 + y + 1 ≤ 256 * 2 ^ (24 - s) := by omega
  have h2 := Nat.mul_le_mul_left (2 ^ s) h1
  rw [← e, Nat.mul_add, Nat.mul_one, Nat.mul_comm] at h2
  omega

/-- Another byte, above. -/
theorem put8_above (v s t y : Nat) (hy : y < 256) (h : s + 8 ≤ t) : put8 v s y / 2 ^ t % 256 = v / 2 ^ t % 256 := by
  have e : (2 : Nat) ^ t = 2 ^ s * (256 * 2 ^ (t - s - 8)) := by
    rw [show (256 : Nat) = 2 ^ 8 from rfl, ← Nat.pow_add, ← Nat.pow_add, show s + (8 + (t - s - 8)) = t by omega]
  have k : ∀ n : Nat, n / (2 ^ s * (256 * 2 ^ (t - s - 8))) = n / 2 ^ s / 256 / 2 ^ (t - s - 8) := fun n => by rw [← Nat.div_div_eq_div_mul, ← Nat.div_div_eq_div_mul]
  rw [e, k, k, put8_div, show (v / 2 ^ s / 256 * 256 + y) / 256 = v / 2 ^ s / 256 by omega]

/-- Another byte, below. -/
theorem put8_below (v s t y : Nat) (h : t + 8 ≤ s) : put8 v s y / 2 ^ t % 256 = v / 2 ^ t % 256 := by
  have e : (2 : Nat) ^ s = 2 ^ t * 256 * 2 ^ (s - t - 8) := by
    rw [show (256 : Nat) = 2 ^ 8 from rfl, ← Nat.pow_add, ← Nat.pow_add, show t + 8 + (s - t - 8) = s by omega]
  have hm : ∀ n : Nat, n / 2 ^ t % 256 = n % 2 ^ s / 2 ^ t % 256 := by
    intro n
    rw [← Nat.mod_mul_right_div_self, ← Nat.mod_mul_right_div_self, Nat.mod_mod_of_dvd n (show 2 ^ t * 256 ∣ 2 ^ s from ⟨_, e⟩)]
  rw [hm (put8 v s y), hm v]
  have : put8 v s y % 2 ^ s = v % 2 ^ s := by rw [put8_eq, Nat.mul_comm, Nat.mul_add_mod, Nat.mod_mod]
  rw [this]

theorem apart_get (v s : Nat) (hv : v < 4294967296) (hs : s < 25) : diff_Get.f (v : Int) (s : Int) 8 = some ((v / 2 ^ s % 256 : Nat) : Int) := by
  unfold diff_Get.f diff_mask.f
  rw [apart_field s hs]
  simp only [Option.bind_some, if_true]
  rw [if_pos (by omega), if_pos (by omega)]
  simp only [Option.bind_some]
  rw [if_pos (by omega)]
  have := get_val v s 8 hv (by omega) (by omega) (by omega)
  exact congrArg some this

theorem apart_put (v x s : Nat) (hv : v < 4294967296) (hx : x < 4294967296) (hs : s < 25) : diff_Put.f (v : Int) (s : Int) 8 (x : Int) = some ((put8 v s (x % 256) : Nat) : Int) := by
  unfold diff_Put.f diff_mask.f
  rw [apart_field s hs]
  simp only [Option.bind_some, if_true]
  rw [if_pos (by omega), if_pos (by omega)]
  simp only [Option.bind_some]
  rw [if_pos (by omega)]
  have := put_val v x s 8 hv hx (by omega) (by omega) (by omega)
  refine congrArg some (this.trans ?_)
  have h := split8 v s
  unfold put8
  generalize v / 2 ^ s / 256 * 256 * 2 ^ s = a at *
  show (v : Int) - ((v / 2 ^ s % 256 * 2 ^ s : Nat) : Int) + ((x % 256 * 2 ^ s : Nat) : Int) = _
  generalize v / 2 ^ s % 256 * 2 ^ s = b at *
  generalize x % 256 * 2 ^ s = c at *
  omega

theorem apart_bump (v s : Nat) (hv : v < 4294967296) (hs : s < 25) :
    diff_Bump.f (v : Int) (s : Int) 8 = some ((((put8 v s ((v / 2 ^ s % 256 + 1) % 256) : Nat) : Int) - v) % 4294967296) := by
  unfold diff_Bump.f
  rw [apart_field s hs, apart_get v s hv hs]
  simp only [Option.bind_some, if_true]
  have e : (((v / 2 ^ s % 256 : Nat) : Int) + 1) % 4294967296 = ((v / 2 ^ s % 256 + 1 : Nat) : Int) := by
    have : v / 2 ^ s % 256 < 256 := Nat.mod_lt _ (by decide)
    omega
  rw [e, apart_put v _ s hv (by have : v / 2 ^ s % 256 < 256 := Nat.mod_lt _ (by decide)
                                omega) hs]
  rfl

theorem and255 (a : Nat) (ha : a < 4294967296) : Go.bits .and .u32 (a : Int) 255 = ((a % 256 : Nat) : Int) := by
  have := bits_and a 255 ha (by decide)
  refine this.trans ?_
  have h := and_mask a 0 8
  simp only [Nat.pow_zero, Nat.div_one, Nat.mul_one] at h
  exact congrArg _ h

theorem apart_round (v s c i : Nat) (hv : v < 4294967296) (hs : s < 25) (k : Nat) (hi : i < 256)
    (ih : stilemanlaw02_DiffApart.l0 k (v : Int) (s : Int) ((put8 v s ((c + (i + 1)) % 256) : Nat) : Int) ((i + 1 : Nat) : Int) = some true) :
    stilemanlaw02_DiffApart.l0 (k + 1) (v : Int) (s : Int) ((put8 v s ((c + i) % 256) : Nat) : Int) (i : Int) = some true := by
  have hc : (c + i) % 256 < 256 := Nat.mod_lt _ (by decide)
  have hc2 : (c + (i + 1)) % 256 < 256 := Nat.mod_lt _ (by decide)
  have hc3 : ((c + i) % 256 + 1) % 256 = (c + (i + 1)) % 256 := by omega
  have hn := put8_lt v s _ hv hs hc
  have hn2 := put8_lt v s _ hv hs hc2
  have hg := put8_get v s _ hc
  have hg2 := put8_get v s _ hc2
  have ht := put8_twice v s _ ((c + (i + 1)) % 256) hc
  have e3 : wrap64 ((i : Int) + 1) = ((i + 1 : Nat) : Int) := by unfold wrap64; omega
  have hB := apart_bump (put8 v s ((c + i) % 256)) s hn hs
  rw [hg, hc3, ht] at hB
  have hG := apart_get (put8 v s ((c + i) % 256)) s hn hs
  rw [hg] at hG
  have hG2 := apart_get (put8 v s ((c + (i + 1)) % 256)) s hn2 hs
  rw [hg2] at hG2
  have e2 : ((((c + i) % 256 : Nat) : Int) + 1) % 4294967296 = (((c + i) % 256 + 1 : Nat) : Int) := by omega
  have e4 := and255 ((c + i) % 256 + 1) (by omega)
  rw [hc3] at e4
  clear hg hg2 ht
  generalize hN : put8 v s ((c + (i + 1)) % 256) = N at *
  generalize hO : put8 v s ((c + i) % 256) = O at *
  have e1 : ((O : Int) + ((N : Int) - O) % 4294967296) % 4294967296 = N := by omega
  simp only [stilemanlaw02_DiffApart.l0]
  rw [if_pos (by omega), hB]
  simp only [Option.bind_some]
  rw [e1, hG2, hG]
  simp only [Option.bind_some]
  rw [e2, e4, if_pos rfl, e3]
  exact ih

theorem apart_loop (v s c : Nat) (hv : v < 4294967296) (hs : s < 25) (hc : v / 2 ^ s % 256 = c) (d : Nat) : ∀ (k i : Nat), i + d = 256 → d < k →
    stilemanlaw02_DiffApart.l0 k (v : Int) (s : Int) ((put8 v s ((c + i) % 256) : Nat) : Int) (i : Int) = some true := by
  have hc8 : c < 256 := by rw [← hc]; exact Nat.mod_lt _ (by decide)
  induction d with
  | zero =>
    intro k i hi hk
    obtain ⟨k, rfl⟩ : ∃ m, k = m + 1 := ⟨k - 1, by omega⟩
    obtain rfl : i = 256 := by omega
    simp only [stilemanlaw02_DiffApart.l0]
    rw [if_neg (by omega)]
    have e : (c + 256) % 256 = c := by clear hc; omega
    rw [e, ← hc, put8_self, if_pos rfl, apart_awake]
    rfl
  | succ d ih =>
    intro k i hi hk
    obtain ⟨k, rfl⟩ : ∃ m, k = m + 1 := ⟨k - 1, by omega⟩
    have hi' : i < 256 := by clear hc; omega
    have h1 : i + 1 + d = 256 := by clear hc; omega
    have h2 : d < k := by clear hc; omega
    exact apart_round v s c i hv hs k hi' (ih k (i + 1) h1 h2)

theorem DiffApart : stilemanlaw02_DiffApart.Pure := by
  intro a0 a1 a2 a3 h0 h1 h2 h3
  simp only [Lit.wf, IntKind.min, IntKind.max, IntKind.signed, IntKind.bits] at h0 h1 h2 h3
  simp at h0 h1 h2 h3
  refine ⟨300, ?_⟩
  obtain ⟨v, rfl⟩ := Int.eq_ofNat_of_zero_le h0.1
  obtain ⟨x, rfl⟩ := Int.eq_ofNat_of_zero_le h1.1
  obtain ⟨p, rfl⟩ := Int.eq_ofNat_of_zero_le h2.1
  obtain ⟨q, rfl⟩ := Int.eq_ofNat_of_zero_le h3.1
  have hv : v < 4294967296 := by omega
  have hx : x < 4294967296 := by omega
  have ep : Int.tmod (wrap64 (p : Int)) 25 = ((p % 25 : Nat) : Int) := by
    have : wrap64 (p : Int) = (p : Int) := by unfold wrap64; omega
    rw [this]; rfl
  have eq : Int.tmod (wrap64 (q : Int)) 25 = ((q % 25 : Nat) : Int) := by
    have : wrap64 (q : Int) = (q : Int) := by unfold wrap64; omega
    rw [this]; rfl
  unfold stilemanlaw02_DiffApart.f
  rw [ep, eq]
  have hs : p % 25 < 25 := Nat.mod_lt _ (by decide)
  have ht : q % 25 < 25 := Nat.mod_lt _ (by decide)
  generalize p % 25 = s at *
  generalize q % 25 = t at *
  have hy : x % 256 < 256 := Nat.mod_lt _ (by decide)
  have hn := put8_lt v s _ hv hs hy
  have hj : stilemanlaw02_DiffApart.j0 300 (v : Int) (s : Int) false = some true := by
    simp only [stilemanlaw02_DiffApart.j0]
    rw [if_neg (by decide)]
    have h := apart_loop v s _ hv hs rfl 256 299 0 (by decide) (by decide)
    rw [Nat.add_zero, Nat.mod_mod, put8_self] at h
    exact h
  rw [apart_put v x s hv hx hs]
  simp only [Option.bind_some]
  rw [apart_get _ s hn hs, and255 x hx, put8_get v s _ hy]
  simp only [Option.bind_some, if_true]
  have w1 : wrap64 ((t : Int) + 8) = t + 8 := by unfold wrap64; omega
  have w2 : wrap64 ((s : Int) + 8) = s + 8 := by unfold wrap64; omega
  rw [w1, w2]
  by_cases c1 : (s : Int) ≥ t + 8
  · rw [if_pos c1, apart_get _ t hn ht, apart_get v t hv ht, put8_below v s t _ (by clear ep eq hj hn hy; omega)]
    simp only [Option.bind_some, bne_self_eq_false]
    exact hj
  · rw [if_neg c1]
    by_cases c2 : (t : Int) ≥ s + 8
    · rw [if_pos c2, apart_get _ t hn ht, apart_get v t hv ht, put8_above v s t _ hy (by clear ep eq hj hn hy; omega)]
      simp only [Option.bind_some, bne_self_eq_false]
      exact hj
    · rw [if_neg c2]
      exact hj

end Go.Proofs.Ytjlpaefpilhngaa.Pure
