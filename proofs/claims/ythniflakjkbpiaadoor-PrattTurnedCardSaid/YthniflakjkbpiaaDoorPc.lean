/-
  Lists as they may be.
-/
import Derived.Test.YthniflakjkbpiaaDoorPv
namespace Go.Ab
set_option linter.unusedSimpArgs false
set_option linter.unusedVariables false
/-- A list as it may be. -/
structure PfOk (l : Nat → Pf) : Prop where
  N : ∀ i, (l i).N < 2 ^ 256
  G : ∀ i, (l i).G < 2 ^ 256
  P : ∀ i k, (l i).P k < 2 ^ 256
  E : ∀ i k, -9223372036854775808 ≤ (l i).E k ∧ (l i).E k < 9223372036854775808
  n : ∀ i, (l i).n < 9223372036854775808

theorem ckS_long {l : Nat → Pf} {m : Nat} (h : 40 < m) : ckS l m = 2 := by unfold ckS; rw [if_pos h]
theorem ckS_short {l : Nat → Pf} {m : Nat} (h : ¬ 40 < m) : ckS l m = ckU l m := by unfold ckS; rw [if_neg h]
theorem ckA_un {l : Nat → Pf} {i k : Nat} (hk : k < (l i).n) (h : knS l i ((l i).P k) = false) : ckA l i = 20 := by
  unfold ckA
  rw [if_pos (anyB_iff.2 ⟨k, hk, by rw [h]; rfl⟩)]
theorem ckA_st {l : Nat → Pf} {i : Nat} (h : ∀ k, k < (l i).n → knS l i ((l i).P k) = true) : ckA l i = stS (l i).N (l i).G (l i).n (l i).P (l i).E := by
  unfold ckA
  rw [if_neg (by rw [anyB_false.2 fun k hk => by rw [h k hk]; rfl]; decide)]
end Go.Ab
