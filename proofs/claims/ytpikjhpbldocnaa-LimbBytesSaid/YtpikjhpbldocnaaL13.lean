import Derived.Test.YtpikjhpbldocnaaL11
namespace Go.Proofs.Ytpikjhpbldocnaa
open Go Go.Ab
set_option linter.unusedSimpArgs false
set_option linter.unusedVariables false
set_option maxHeartbeats 20000000

theorem litsEq_self (l : List Lit) : litsEq l l = true := (litsEq_iff l l).2 rfl
/-- A sum, by its parts. -/
theorem add_e (a b s c : Nat) (ha : a < 2 ^ 256) (hb : b < 2 ^ 256) (hs : s < 2 ^ 256) (h : a + b = s + 2 ^ 256 * c) : PureC Try.prog 19 [.agg (nat4 a), .agg (nat4 b)] (.tup [.agg (nat4 s), .s (.v (.int .u64 (c : Int)))]) := by
  have e := add_c a b ha hb
  rw [← nat4_mod (a + b), show (a + b) % 2 ^ 256 = s by omega, show (a + b) / 2 ^ 256 = c by omega] at e
  exact e
theorem cmp_lt (a b : Nat) (hb : b < 2 ^ 256) (h : a < b) : PureC Try.prog 21 [.agg (nat4 a), .agg (nat4 b)] (.s (.v (.int .i64 (-1)))) := by
  have e := cmp_c a b (by omega) hb
  rw [sg_neg h] at e
  exact e
theorem cmp_gt (a b : Nat) (ha : a < 2 ^ 256) (h : b < a) : PureC Try.prog 21 [.agg (nat4 a), .agg (nat4 b)] (.s (.v (.int .i64 1))) := by
  have e := cmp_c a b ha (by omega)
  rw [sg_pos h] at e
  exact e
theorem cmp_same (a : Nat) (ha : a < 2 ^ 256) : PureC Try.prog 21 [.agg (nat4 a), .agg (nat4 a)] (.s (.v (.int .i64 0))) := by
  have e := cmp_c a a ha ha
  rw [sg_same] at e
  exact e
end Go.Proofs.Ytpikjhpbldocnaa
