/-
  Numbers: bits of digits, a digit's increment, halves of eight words.
-/
import Derived.Test.YtpikjhpbldocnaaNm5
namespace Go.Ab
open Go
set_option linter.unusedSimpArgs false
set_option linter.unusedVariables false

theorem wd8_bit (a i : Nat) : wd8 a (i / 8) / 2 ^ (i % 8) % 2 = a / 2 ^ i % 2 := by
  rw [wd8, mod_div_pow _ 8 _ (by omega), mod_pow_two _ _ (by omega), Nat.div_div_eq_div_mul, ← Nat.pow_add, Nat.div_add_mod]
/-- One more in the lowest place. -/
theorem dgs_inc (q b : Nat) (hq : q % 2 = 0) (hb : b ≤ 1) : (dgs q).set 0 (.v (.int .i64 ((wd8 q 0 + b : Nat) : Int))) = dgs (q + b) := by
  unfold dgs
  rw [iarr_set]
  refine iarr_congr fun j hj => ?_
  by_cases h : j = 0
  · subst h
    rw [if_pos rfl]
    simp only [wd_eq8, Nat.mul_zero, Nat.pow_zero, Nat.div_one]
    omega
  · rw [if_neg h]
    congr 1
    obtain ⟨t, rfl⟩ := Nat.dvd_of_mod_eq_zero hq
    have e : 2 ^ (8 * j) = 2 * 2 ^ (8 * j - 1) := by
      rw [← Nat.pow_succ']
      congr 1
      omega
    rw [wd_eq8, wd_eq8, e, ← Nat.div_div_eq_div_mul, ← Nat.div_div_eq_div_mul, show (2 * t + b) / 2 = t by omega, show 2 * t / 2 = t by omega]
theorem wd8_even (q : Nat) (hq : q % 2 = 0) : wd8 q 0 ≤ 254 := by
  rw [wd_eq8]
  simp
  omega
theorem wd_shift (y j : Nat) : wd (y / 2 ^ 256) j = wd y (j + 4) := by
  rw [wd_eq, wd_eq, Nat.div_div_eq_div_mul, ← Nat.pow_add, show 256 + 64 * j = 64 * (j + 4) by omega]
theorem low4 (y : Nat) : (arr 4 fun j => if j = 3 then wd y 3 else if j = 2 then wd y 2 else if j = 1 then wd y 1 else if j = 0 then wd y 0 else 0) = nat4 y := by
  refine arr_congr fun j hj => ?_
  have : j = 0 ∨ j = 1 ∨ j = 2 ∨ j = 3 := by omega
  rcases this with rfl | rfl | rfl | rfl <;> simp
theorem high4 (y : Nat) : (arr 4 fun j => if j = 3 then wd y 7 else if j = 2 then wd y 6 else if j = 1 then wd y 5 else if j = 0 then wd y 4 else 0) = nat4 (y / 2 ^ 256) := by
  refine arr_congr fun j hj => ?_
  have : j = 0 ∨ j = 1 ∨ j = 2 ∨ j = 3 := by omega
  rcases this with rfl | rfl | rfl | rfl <;> (rw [wd_shift]; simp)
theorem lits8_self (a b : Nat) (h : a = b) : litsEq (lits 8 (wd a)) (lits 8 (wd b)) = true := by
  subst h
  exact (litsEq_iff _ _).2 rfl
end Go.Ab
