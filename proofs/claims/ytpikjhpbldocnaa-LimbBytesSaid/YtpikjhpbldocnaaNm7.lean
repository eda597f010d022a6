/-
  Numbers: a product of sums, in halves.
-/
import Derived.Test.YtpikjhpbldocnaaNm6
namespace Go.Ab
open Go
set_option linter.unusedSimpArgs false
set_option linter.unusedVariables false

theorem half_sum (X Y Z M : Nat) (hM : 0 < M) (hX : X = Y + Z) (hl : X < M * M) :
    Y / M < M ∧ Z / M < M ∧ X / M < M ∧ Y / M + Z / M < M ∧ ∃ k, k ≤ 1 ∧ Y % M + Z % M = X % M + M * k ∧ Y / M + Z / M + k = X / M := by
  have h1 := Nat.div_add_mod Y M
  have h2 := Nat.div_add_mod Z M
  have h3 := Nat.mod_lt Y hM
  have h4 := Nat.mod_lt Z hM
  have hXd : X / M < M := Nat.div_lt_of_lt_mul hl
  have hY : Y / M ≤ X / M := Nat.div_le_div_right (by omega)
  have hZ : Z / M ≤ X / M := Nat.div_le_div_right (by omega)
  have e : X = (Y % M + Z % M) + M * (Y / M + Z / M) := by rw [Nat.mul_add]; omega
  have hq : X / M = (Y % M + Z % M) / M + (Y / M + Z / M) := by
    conv => lhs; rw [e, Nat.add_mul_div_left _ _ hM]
  have hr : X % M = (Y % M + Z % M) % M := by
    conv => lhs; rw [e, Nat.add_mul_mod_self_left]
  have hk : (Y % M + Z % M) / M ≤ 1 := by
    have : (Y % M + Z % M) / M < 2 := (Nat.div_lt_iff_lt_mul hM).2 (by omega)
    omega
  refine ⟨Nat.lt_of_le_of_lt hY hXd, Nat.lt_of_le_of_lt hZ hXd, hXd, Nat.lt_of_le_of_lt (by rw [hq]; exact Nat.le_add_left _ _) hXd, (Y % M + Z % M) / M, hk, ?_, by rw [hq, Nat.add_comm]⟩
  rw [hr, Nat.mod_add_div]
theorem mul_lt_sq (a b M : Nat) (ha : a < M) (hb : b < M) : a * b < M * M := Nat.mul_lt_mul_of_lt_of_le ha (Nat.le_of_lt hb) (by omega)
end Go.Ab
