/-
  Numbers: lengths against powers of two.
-/
import Derived.Test.YtpikjhpbldocnaaNm4
namespace Go.Ab
open Go
set_option linter.unusedSimpArgs false
set_option linter.unusedVariables false

theorem blen_le (x k : Nat) (h : x < 2 ^ k) : blen x ≤ k := by
  unfold blen
  split
  · omega
  · rename_i h0
    exact (Nat.log2_lt h0).2 h
theorem lt_blen (a : Nat) : a < 2 ^ blen a := by
  unfold blen
  split
  · omega
  · exact Nat.lt_log2_self
theorem blen_ge (a m : Nat) (h : blen a = m + 1) : 2 ^ m ≤ a := by
  unfold blen at h
  split at h
  · omega
  · rename_i h0
    have := Nat.log2_self_le h0
    rw [show a.log2 = m by omega] at this
    exact this
theorem blen_pos (a : Nat) (h : a ≠ 0) : 1 ≤ blen a := by
  unfold blen
  rw [if_neg h]
  omega
theorem shf_up (a n : Nat) (hn : n < 256) : shf a (n : Int) = a * 2 ^ n % 2 ^ 256 := by
  unfold shf
  rw [if_neg (by omega), if_pos (by omega), Int.toNat_natCast]
theorem shf_down (s n : Nat) (hs : s < 2 ^ 256) (hn : n < 256) : shf s (-(n : Int)) = s / 2 ^ n := by
  unfold shf
  rw [if_neg (by omega)]
  by_cases h : n = 0
  · subst h
    simp
    exact hs
  · rw [if_neg (by omega), show (-(-(n : Int))).toNat = n by omega]
theorem mv_succ (a k M : Nat) : a * 2 ^ k % M + a * 2 ^ k % M = a * 2 ^ (k + 1) % M + M * ((a * 2 ^ k % M + a * 2 ^ k % M) / M) := by
  have e : a * 2 ^ (k + 1) % M = (a * 2 ^ k % M + a * 2 ^ k % M) % M := by
    rw [Nat.pow_succ, ← Nat.mul_assoc, Nat.mul_two, ← Nat.add_mod]
  rw [e, Nat.mod_add_div]
theorem moved_back (a n : Nat) (h : blen a + n ≤ 256) : a * 2 ^ n % 2 ^ 256 / 2 ^ n = a := by
  have h1 := lt_blen a
  have h2 : a * 2 ^ n < 2 ^ blen a * 2 ^ n := Nat.mul_lt_mul_of_pos_right h1 (Nat.two_pow_pos n)
  rw [← Nat.pow_add] at h2
  have h3 : 2 ^ (blen a + n) ≤ 2 ^ 256 := Nat.pow_le_pow_right (by decide) h
  rw [Nat.mod_eq_of_lt (Nat.lt_of_lt_of_le h2 h3), Nat.mul_div_cancel _ (Nat.two_pow_pos n)]
theorem moved_len (s n : Nat) (hs : s < 2 ^ 256) (hn : n ≤ 256) : blen (s / 2 ^ n) ≤ 256 - n := by
  refine blen_le _ _ (Nat.div_lt_of_lt_mul ?_)
  rw [← Nat.pow_add, show n + (256 - n) = 256 by omega]
  exact hs
theorem top_bit (a m : Nat) (h1 : 2 ^ m ≤ a) (h2 : a < 2 ^ (m + 1)) : a / 2 ^ m % 2 = 1 := by
  have : a / 2 ^ m = 1 := by
    rw [Nat.pow_succ] at h2
    have h3 : a / 2 ^ m < 2 := Nat.div_lt_of_lt_mul h2
    have h4 := Nat.div_le_div_right (c := 2 ^ m) h1
    rw [Nat.div_self (Nat.two_pow_pos m)] at h4
    omega
  rw [this]
end Go.Ab
