/-
  What factors make, whether a proof is one: plain.
-/
import Derived.Test.YthniflakjkbpiaaDoorPa0
namespace Go.Ab
open Go Go.RowKit
set_option linter.unusedSimpArgs false
set_option linter.unusedVariables false

/-- Is there one below n? -/
def anyB (n : Nat) (f : Nat → Bool) : Bool := (List.range n).any f
theorem anyB_iff {n : Nat} {f : Nat → Bool} : anyB n f = true ↔ ∃ i, i < n ∧ f i = true := by
  unfold anyB
  rw [List.any_eq_true]
  simp only [List.mem_range]
theorem anyB_false {n : Nat} {f : Nat → Bool} : anyB n f = false ↔ ∀ i, i < n → f i = false := by
  rw [← Bool.not_eq_true, anyB_iff]
  constructor
  · intro h i hi
    cases hf : f i with
    | false => rfl
    | true => exact absurd ⟨i, hi, hf⟩ h
  · rintro h ⟨i, hi, hf⟩
    rw [h i hi] at hf
    cases hf
theorem anyB_zero {f : Nat → Bool} : anyB 0 f = false := rfl
theorem anyB_succ {n : Nat} {f : Nat → Bool} : anyB (n + 1) f = (anyB n f || f n) := by
  unfold anyB
  rw [List.range_succ, List.any_append]
  simp
/-- What the first n factors make. -/
def prT (P : Nat → Nat) (E : Nat → Int) : Nat → Nat
  | 0 => 1
  | i + 1 => prT P E i * P i ^ (E i).toNat
def eBad (E : Nat → Int) (i : Nat) : Bool := decide (E i < 1) || decide (255 < E i)
theorem eBad_false {E : Nat → Int} {i : Nat} : eBad E i = false ↔ 1 ≤ E i ∧ E i ≤ 255 := by
  unfold eBad
  rw [Bool.or_eq_false_iff, decide_eq_false_iff_not, decide_eq_false_iff_not]
  omega
theorem eBad_true {E : Nat → Int} {i : Nat} : eBad E i = true ↔ E i < 1 ∨ 255 < E i := by
  unfold eBad
  rw [Bool.or_eq_true, decide_eq_true_iff, decide_eq_true_iff]
/-- D1: what factors make, or why nothing. -/
def prS (n : Nat) (P : Nat → Nat) (E : Nat → Int) : Nat × Int :=
  if 40 < n then (0, 2) else if anyB n (eBad E) then (0, 1) else if anyB n (fun i => P i == 0) then (0, 0) else if prT P E n < 2 ^ 256 then (prT P E n, 0) else (0, 10)
section
variable {n : Nat} {P : Nat → Nat} {E : Nat → Int}
theorem prS_long (h : 40 < n) : prS n P E = (0, 2) := by unfold prS; rw [if_pos h]
theorem prS_bad (h : ¬ 40 < n) {i : Nat} (hi : i < n) (hb : eBad E i = true) : prS n P E = (0, 1) := by
  unfold prS
  rw [if_neg h, if_pos (anyB_iff.2 ⟨i, hi, hb⟩)]
theorem prS_zero (h : ¬ 40 < n) (hb : ∀ i, i < n → eBad E i = false) (hz : anyB n (fun i => P i == 0) = true) : prS n P E = (0, 0) := by
  unfold prS
  rw [if_neg h, if_neg (by rw [anyB_false.2 hb]; decide), if_pos hz]
theorem prS_fits (h : ¬ 40 < n) (hb : ∀ i, i < n → eBad E i = false) (hz : anyB n (fun i => P i == 0) = false) (hT : prT P E n < 2 ^ 256) : prS n P E = (prT P E n, 0) := by
  unfold prS
  rw [if_neg h, if_neg (by rw [anyB_false.2 hb]; decide), if_neg (by rw [hz]; decide), if_pos hT]
theorem prS_over (h : ¬ 40 < n) (hb : ∀ i, i < n → eBad E i = false) (hz : anyB n (fun i => P i == 0) = false) (hT : ¬ prT P E n < 2 ^ 256) : prS n P E = (0, 10) := by
  unfold prS
  rw [if_neg h, if_neg (by rw [anyB_false.2 hb]; decide), if_neg (by rw [hz]; decide), if_neg hT]
theorem prT_pos (hz : ∀ i, i < n → 0 < P i) : 0 < prT P E n := by
  induction n with
  | zero => exact Nat.one_pos
  | succ n ih => exact Nat.mul_pos (ih fun i hi => hz i (by omega)) (Nat.pow_pos (hz n (by omega)))
theorem prT_le (hz : ∀ i, i < n → 0 < P i) : ∀ {m : Nat}, m ≤ n → prT P E m ≤ prT P E n := by
  induction n with
  | zero => intro m hm; rw [Nat.le_zero.1 hm]; exact Nat.le_refl _
  | succ n ih =>
    intro m hm
    by_cases h : m = n + 1
    · subst h; exact Nat.le_refl _
    · refine Nat.le_trans (ih (fun i hi => hz i (by omega)) (by omega)) ?_
      exact Nat.le_mul_of_pos_right _ (Nat.pow_pos (hz n (by omega)))
theorem prT_part (hz : ∀ i, i < n → 0 < P i) {i k : Nat} (hi : i < n) (hk : k ≤ (E i).toNat) : prT P E i * P i ^ k ≤ prT P E n := by
  refine Nat.le_trans ?_ (prT_le (m := i + 1) hz (by omega))
  exact Nat.mul_le_mul_left _ (Nat.pow_le_pow_right (hz i hi) hk)
end
theorem zero_pos {n : Nat} {P : Nat → Nat} (hz : anyB n (fun i => P i == 0) = false) : ∀ i, i < n → 0 < P i := fun i hi => by
  have h := anyB_false.1 hz i hi
  have : P i ≠ 0 := by simpa using h
  omega
def stB (N G : Nat) (P : Nat → Nat) (i : Nat) : Bool := decide (P i < 2) || decide (G ^ ((N - 1) / P i) % N = 1)
/-- D2: is it a step? -/
def stS (N G n : Nat) (P : Nat → Nat) (E : Nat → Int) : Int :=
  if (prS n P E).2 ≠ 0 then (prS n P E).2
  else if ¬ (N % 2 = 1 ∧ 3 ≤ N) then 20
  else if (prS n P E).1 ≠ N - 1 ∨ G ^ (N - 1) % N ≠ 1 then 20
  else if anyB n (stB N G P) then 20 else 0
section
variable {N G n : Nat} {P : Nat → Nat} {E : Nat → Int} {a : Nat}
theorem stS_e {e : Int} (h : prS n P E = (a, e)) (he : e ≠ 0) : stS N G n P E = e := by unfold stS; rw [h, if_pos he]
theorem stS_m (h : prS n P E = (a, 0)) (hG : ¬ (N % 2 = 1 ∧ 3 ≤ N)) : stS N G n P E = 20 := by
  unfold stS
  rw [h, if_neg (fun h => h rfl), if_pos hG]
theorem stS_p (h : prS n P E = (a, 0)) (hG : N % 2 = 1 ∧ 3 ≤ N) (hp : a ≠ N - 1 ∨ G ^ (N - 1) % N ≠ 1) : stS N G n P E = 20 := by
  unfold stS
  rw [h, if_neg (fun h => h rfl), if_neg (fun h => h hG), if_pos hp]
theorem stS_b (h : prS n P E = (a, 0)) (hG : N % 2 = 1 ∧ 3 ≤ N) (ha : a = N - 1) (hp : G ^ (N - 1) % N = 1) {i : Nat} (hi : i < n) (hb : stB N G P i = true) : stS N G n P E = 20 := by
  unfold stS
  rw [h, if_neg (fun h => h rfl), if_neg (fun h => h hG), if_neg (fun h => h.elim (fun h => h ha) (fun h => h hp)), if_pos (anyB_iff.2 ⟨i, hi, hb⟩)]
theorem stS_o (h : prS n P E = (a, 0)) (hG : N % 2 = 1 ∧ 3 ≤ N) (ha : a = N - 1) (hp : G ^ (N - 1) % N = 1) (hb : ∀ i, i < n → stB N G P i = false) : stS N G n P E = 0 := by
  unfold stS
  rw [h, if_neg (fun h => h rfl), if_neg (fun h => h hG), if_neg (fun h => h.elim (fun h => h ha) (fun h => h hp)), if_neg (by rw [anyB_false.2 hb]; decide)]
theorem stB_lt (h : P n < 2) : stB N G P n = true := by unfold stB; rw [decide_eq_true h, Bool.true_or]
theorem stB_eq (h : ¬ P n < 2) : stB N G P n = decide (G ^ ((N - 1) / P n) % N = 1) := by unfold stB; rw [decide_eq_false h, Bool.false_or]
theorem prS_lt (hP : ∀ i, P i < 2 ^ 256) : (prS n P E).1 < 2 ^ 256 := by
  unfold prS
  split
  · show 0 < 2 ^ 256; decide
  split
  · show 0 < 2 ^ 256; decide
  split
  · show 0 < 2 ^ 256; decide
  split
  · assumption
  · show 0 < 2 ^ 256; decide
end
/-- D3: 2, and the numbers of the first m. -/
def knS (l : Nat → Pf) (m : Nat) (n : Nat) : Bool := n == 2 || anyB m fun i => (l i).N == n
/-- What is to be said of the proof i. -/
def ckA (l : Nat → Pf) (i : Nat) : Int := if anyB (l i).n (fun k => !knS l i ((l i).P k)) then 20 else stS (l i).N (l i).G (l i).n (l i).P (l i).E
/-- Of the first m. -/
def ckU (l : Nat → Pf) : Nat → Int
  | 0 => 0
  | m + 1 => if ckU l m ≠ 0 then ckU l m else ckA l m
def ckS (l : Nat → Pf) (m : Nat) : Int := if 40 < m then 2 else ckU l m
def pvS (l : Nat → Pf) (m : Nat) (n : Nat) : Int := if ckS l m ≠ 0 then ckS l m else if knS l m n then 0 else 20
theorem knS_zero {l : Nat → Pf} {n : Nat} : knS l 0 n = (n == 2) := by unfold knS; rw [anyB_zero, Bool.or_false]
theorem knS_succ {l : Nat → Pf} {m n : Nat} : knS l (m + 1) n = (knS l m n || n == (l m).N) := by
  unfold knS
  rw [anyB_succ, Bool.or_assoc]
  congr 2
  rw [Bool.beq_comm]
theorem ckU_stop {l : Nat → Pf} {i m : Nat} (hi : i < m) (h0 : ckU l i = 0) (h : ckA l i ≠ 0) : ckU l m = ckA l i := by
  induction m with
  | zero => omega
  | succ m ih =>
    by_cases hm : i = m
    · subst hm
      show (if ckU l i ≠ 0 then ckU l i else ckA l i) = _
      rw [if_neg (by omega)]
    · have h1 := ih (by omega)
      show (if ckU l m ≠ 0 then ckU l m else ckA l m) = _
      rw [if_pos (by rw [h1]; exact h), h1]
theorem ckU_go {l : Nat → Pf} {i : Nat} (h0 : ckU l i = 0) (h : ckA l i = 0) : ckU l (i + 1) = 0 := by
  show (if ckU l i ≠ 0 then ckU l i else ckA l i) = _
  rw [if_neg (by omega), h]
end Go.Ab
