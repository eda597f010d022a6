/-
  Numbers: bits of what is moved, lengths bit by bit.
-/
import Derived.Test.YtmipfmjeppodmaaNm2
namespace Go.Ab
open Go
set_option linter.unusedSimpArgs false
set_option linter.unusedVariables false

theorem tmodL (a n : Nat) : Int.tmod (a : Int) (no_index (OfNat.ofNat n : Int)) = ((a % OfNat.ofNat n : Nat) : Int) := rfl
theorem tdivL (a n : Nat) : Int.tdiv (a : Int) (no_index (OfNat.ofNat n : Int)) = ((a / OfNat.ofNat n : Nat) : Int) := rfl

theorem blen_step (a k : Nat) : blen (a % 2 ^ (k + 1)) = if a / 2 ^ k % 2 = 1 then k + 1 else blen (a % 2 ^ k) := by
  have e : a % 2 ^ (k + 1) = a % 2 ^ k + 2 ^ k * (a / 2 ^ k % 2) := by rw [Nat.pow_succ, Nat.mod_mul]
  have h1 := Nat.mod_lt a (Nat.two_pow_pos k)
  by_cases h : a / 2 ^ k % 2 = 1
  · rw [if_pos h]
    have e2 : a % 2 ^ (k + 1) / 2 ^ k = 1 := by
      rw [e, h, Nat.mul_one, Nat.add_div_right _ (Nat.two_pow_pos k), Nat.div_eq_of_lt h1]
    rw [blen_shift k (a % 2 ^ (k + 1)) (by rw [e2]; decide), e2]
    rfl
  · rw [if_neg h, e, show a / 2 ^ k % 2 = 0 by omega, Nat.mul_zero, Nat.add_zero]

/-- A bit of what is moved. -/
theorem shf_bit (a : Nat) (n : Int) (k : Nat) (ha : a < 2 ^ 256) (hk : k < 256) : shf a n / 2 ^ k % 2 = if (k : Int) - n < 0 ∨ 256 ≤ (k : Int) - n then 0 else a / 2 ^ ((k : Int) - n).toNat % 2 := by
  unfold shf
  by_cases h : n ≤ -256 ∨ 256 ≤ n
  · rw [if_pos h, if_pos (by omega), Nat.zero_div]
  · rw [if_neg h]
    by_cases h0 : 0 ≤ n
    · rw [if_pos h0, mod_div_pow _ 256 k (by omega), mod_pow_two _ _ (by omega)]
      obtain ⟨m, rfl⟩ := Int.eq_ofNat_of_zero_le h0
      by_cases h2 : (k : Int) - m < 0
      · rw [if_pos (.inl h2), Int.toNat_natCast, show m = k + (1 + (m - k - 1)) by omega, Nat.pow_add, Nat.pow_add, Nat.mul_left_comm, Nat.mul_div_cancel_left _ (Nat.two_pow_pos _), Nat.pow_one, Nat.mul_left_comm, Nat.mul_mod_right]
      · rw [if_neg (by omega), Int.toNat_natCast, show ((k : Int) - m).toNat = k - m by omega]
        obtain ⟨d, hd⟩ : ∃ d, k = m + d := ⟨k - m, by omega⟩
        rw [show k - m = d by omega, hd, Nat.pow_add, ← Nat.div_div_eq_div_mul, Nat.mul_div_cancel _ (Nat.two_pow_pos _)]
    · rw [if_neg h0, Nat.div_div_eq_div_mul, ← Nat.pow_add]
      by_cases h2 : 256 ≤ (k : Int) - n
      · rw [if_pos (.inr h2), Nat.div_eq_of_lt]
        exact Nat.lt_of_lt_of_le ha (Nat.pow_le_pow_right (by decide) (by omega))
      · rw [if_neg (by omega), show (-n).toNat + k = ((k : Int) - n).toNat by omega]
theorem shf_lt (a : Nat) (n : Int) (ha : a < 2 ^ 256) : shf a n < 2 ^ 256 := by
  unfold shf
  split
  · decide
  · split
    · exact Nat.mod_lt _ (by decide)
    · exact Nat.lt_of_le_of_lt (Nat.div_le_self _ _) ha

/-- A number, from its lowest bit up. -/
theorem arr_up (q k : Nat) : (arr 4 fun j => if j = k / 64 then (wd (q % 2 ^ k) (k / 64) + q / 2 ^ k % 2 * 2 ^ (k % 64)) else wd (q % 2 ^ k) j) = nat4 (q % 2 ^ (k + 1)) := by
  have e : q % 2 ^ (k + 1) = q % 2 ^ k + q / 2 ^ k % 2 * 2 ^ k := by rw [Nat.pow_succ, Nat.mod_mul, Nat.mul_comm (2 ^ k)]
  have hr := Nat.mod_lt q (Nat.two_pow_pos k)
  have hb : q / 2 ^ k % 2 ≤ 1 := by omega
  rw [e]
  generalize q % 2 ^ k = r at *
  generalize q / 2 ^ k % 2 = b at *
  have hk : 2 ^ k = 2 ^ (64 * (k / 64)) * 2 ^ (k % 64) := by rw [← Nat.pow_add, Nat.div_add_mod]
  have hs : b * 2 ^ (k % 64) ≤ 2 ^ (k % 64) := by have := Nat.mul_le_mul_right (2 ^ (k % 64)) hb; omega
  have h64 : 2 ^ (k % 64) * 2 ≤ 18446744073709551616 := by
    rw [← Nat.pow_succ]
    exact Nat.pow_le_pow_right (n := 2) (j := 64) (by decide) (by omega)
  have hd : r / 2 ^ (64 * (k / 64)) < 2 ^ (k % 64) := Nat.div_lt_of_lt_mul (by rw [← hk]; exact hr)
  refine arr_congr fun j hj => ?_
  by_cases h : j = k / 64
  · rw [if_pos h, h, wd_eq, wd_eq]
    have : b * 2 ^ k = 2 ^ (64 * (k / 64)) * (b * 2 ^ (k % 64)) := by conv => lhs; rw [hk, Nat.mul_left_comm]
    rw [this, Nat.add_mul_div_left _ _ (Nat.two_pow_pos _)]
    clear this hr hk
    generalize r / 2 ^ (64 * (k / 64)) = u at *
    generalize b * 2 ^ (k % 64) = z at *
    generalize 2 ^ (k % 64) = y at *
    omega
  · rw [if_neg h]
    rcases Nat.lt_or_gt_of_ne h with h | h
    · have : b * 2 ^ k = b * 2 ^ (k - 64 * (j + 1)) * 2 ^ (64 * (j + 1)) := by rw [Nat.mul_assoc, ← Nat.pow_add, show k - 64 * (j + 1) + 64 * (j + 1) = k by omega]
      rw [this, wd_add_high _ _ _ _ (by omega)]
    · have h2 : 2 ^ (k + 1) ≤ 2 ^ (64 * j) := Nat.pow_le_pow_right (by decide) (by omega)
      have h3 : b * 2 ^ k ≤ 2 ^ k := by have := Nat.mul_le_mul_right (2 ^ k) hb; omega
      rw [Nat.pow_succ] at h2
      rw [wd_big _ _ (by omega), wd_big _ _ (by omega)]
/-- There is room for the bit. -/
theorem up_lt (q k : Nat) : wd (q % 2 ^ k) (k / 64) + q / 2 ^ k % 2 * 2 ^ (k % 64) < 18446744073709551616 := by
  have hr := Nat.mod_lt q (Nat.two_pow_pos k)
  have hb : q / 2 ^ k % 2 ≤ 1 := by omega
  generalize q % 2 ^ k = r at *
  generalize q / 2 ^ k % 2 = b at *
  have hk : 2 ^ k = 2 ^ (64 * (k / 64)) * 2 ^ (k % 64) := by rw [← Nat.pow_add, Nat.div_add_mod]
  have hs : b * 2 ^ (k % 64) ≤ 2 ^ (k % 64) := by have := Nat.mul_le_mul_right (2 ^ (k % 64)) hb; omega
  have h64 : 2 ^ (k % 64) * 2 ≤ 18446744073709551616 := by
    rw [← Nat.pow_succ]
    exact Nat.pow_le_pow_right (n := 2) (j := 64) (by decide) (by omega)
  have hd : r / 2 ^ (64 * (k / 64)) < 2 ^ (k % 64) := Nat.div_lt_of_lt_mul (by rw [← hk]; exact hr)
  rw [wd_eq]
  clear hr hk
  generalize r / 2 ^ (64 * (k / 64)) = u at *
  generalize b * 2 ^ (k % 64) = z at *
  generalize 2 ^ (k % 64) = y at *
  omega
theorem arr4_65 : arr 4 (fun j => if j = 1 then 1 else if j = 0 then 0 else 0) = nat4 (2 ^ 64) := by
  refine arr_congr fun j hj => ?_
  have : j = 0 ∨ j = 1 ∨ j = 2 ∨ j = 3 := by omega
  rcases this with rfl | rfl | rfl | rfl <;> decide
end Go.Ab
