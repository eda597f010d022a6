/-
  Euclid's way, modulo m.
-/
import Derived.Test.YthniflakjkbpiaaR1
namespace Go.Proofs.Ythniflakjkbpiaa
open Go Go.Ab
set_option linter.unusedSimpArgs false
set_option linter.unusedVariables false

/-- What is left in the end, and how it comes. -/
def egc (m last rest s t : Nat) : Nat × Nat := if h : rest = 0 then (last, s) else egc m rest (last % rest) t (msub m s (last / rest * t % m))
termination_by rest
decreasing_by exact Nat.mod_lt _ (Nat.pos_of_ne_zero h)
theorem egc_zero (m last s t : Nat) : egc m last 0 s t = (last, s) := by rw [egc]; simp
theorem egc_step (m last rest s t : Nat) (h : rest ≠ 0) : egc m last rest s t = egc m rest (last % rest) t (msub m s (last / rest * t % m)) := by rw [egc]; simp [h]
/-- What makes 1 with a. -/
def inv (m a : Nat) : Nat := if (egc m m (a % m) 0 1).1 = 1 then (egc m m (a % m) 0 1).2 else 0
def invE (m a : Nat) : Int := if (egc m m (a % m) 0 1).1 = 1 then 0 else 11
end Go.Proofs.Ythniflakjkbpiaa
