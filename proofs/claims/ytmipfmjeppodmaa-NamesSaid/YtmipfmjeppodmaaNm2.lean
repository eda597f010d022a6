/-
  Numbers: a product, word by word.
-/
import Derived.Test.YtmipfmjeppodmaaNm
namespace Go.Ab
open Go
set_option linter.unusedSimpArgs false
set_option linter.unusedVariables false

theorem wd_add_high (v y s t : Nat) (h : t < s) : wd (v + y * 2 ^ (64 * s)) t = wd v t := by
  have e : 2 ^ (64 * s) = 2 ^ (64 * t) * (18446744073709551616 * 2 ^ (64 * (s - (t + 1)))) := by
    rw [show (18446744073709551616 : Nat) = 2 ^ 64 from rfl, ← Nat.pow_add, ← Nat.pow_add]; congr 1; omega
  rw [wd_eq, wd_eq, e, Nat.mul_left_comm, Nat.add_mul_div_left _ _ (Nat.two_pow_pos _), Nat.mul_left_comm, Nat.add_mul_mod_self_left]

def mV (a b i j : Nat) : Nat := a % 2 ^ (64 * i) * b + wd a i * (b % 2 ^ (64 * j)) * 2 ^ (64 * i)
def mC (a b i j : Nat) : Nat := mV a b i j / 2 ^ (64 * (i + j)) - a % 2 ^ (64 * i) * b / 2 ^ (64 * (i + j))
theorem mV_zero (a b i : Nat) : mV a b i 0 = a % 2 ^ (64 * i) * b := by simp [mV, Nat.mod_one]
theorem mC_zero (a b i : Nat) : mC a b i 0 = 0 := by simp [mC, mV_zero]
theorem mV_succ (a b i j : Nat) : mV a b i (j + 1) = mV a b i j + wd a i * wd b j * 2 ^ (64 * (i + j)) := by
  unfold mV
  rw [wd_split b j, Nat.mul_add, Nat.add_mul, ← Nat.add_assoc, Nat.mul_add, Nat.pow_add]
  congr 1
  rw [Nat.mul_left_comm (wd a i), Nat.mul_comm (2 ^ (64 * j)) (wd a i * wd b j), Nat.mul_assoc, Nat.mul_comm (2 ^ (64 * j))]
theorem m_step (a b i j : Nat) : mC a b i (j + 1) = (wd a i * wd b j + wd (a % 2 ^ (64 * i) * b) (i + j) + mC a b i j) / 18446744073709551616 ∧
    wd (mV a b i (j + 1)) (i + j) = (wd a i * wd b j + wd (a % 2 ^ (64 * i) * b) (i + j) + mC a b i j) % 18446744073709551616 := by
  have hW : a % 2 ^ (64 * i) * b / 2 ^ (64 * (i + j)) ≤ mV a b i j / 2 ^ (64 * (i + j)) := Nat.div_le_div_right (Nat.le_add_right _ _)
  have h1 := dv_step (a % 2 ^ (64 * i) * b) (i + j)
  have h2 : mV a b i (j + 1) / 2 ^ (64 * (i + j)) = mV a b i j / 2 ^ (64 * (i + j)) + wd a i * wd b j := by
    rw [mV_succ, Nat.mul_comm (wd a i * wd b j), Nat.add_mul_div_left _ _ (Nat.two_pow_pos _)]
  have h3 : mV a b i (j + 1) / 2 ^ (64 * (i + j)) = 18446744073709551616 * (a % 2 ^ (64 * i) * b / 2 ^ (64 * (i + j + 1))) + (wd a i * wd b j + wd (a % 2 ^ (64 * i) * b) (i + j) + mC a b i j) := by
    rw [h2]; unfold mC; omega
  refine ⟨?_, ?_⟩
  · have : mC a b i (j + 1) = mV a b i (j + 1) / 2 ^ (64 * (i + j + 1)) - a % 2 ^ (64 * i) * b / 2 ^ (64 * (i + j + 1)) := rfl
    rw [this]
    have h4 : mV a b i (j + 1) / 2 ^ (64 * (i + j + 1)) = mV a b i (j + 1) / 2 ^ (64 * (i + j)) / 18446744073709551616 := by rw [P_succ, Nat.div_div_eq_div_mul]
    rw [h4, h3]
    omega
  · rw [wd_eq, h3]
    omega
theorem mul_word_le (a b i j : Nat) : wd a i * wd b j ≤ 18446744073709551615 * 18446744073709551615 := Nat.mul_le_mul (by have := wd_lt a i; omega) (by have := wd_lt b j; omega)
theorem mC_lt (a b i : Nat) : ∀ j, mC a b i j < 18446744073709551616
  | 0 => by rw [mC_zero]; decide
  | j + 1 => by
    have h1 := mul_word_le a b i j
    have h2 := wd_lt (a % 2 ^ (64 * i) * b) (i + j)
    have h3 := mC_lt a b i j
    rw [(m_step a b i j).1]
    omega
theorem mV_low (a b i j t : Nat) (h : t < i + j) : wd (mV a b i (j + 1)) t = wd (mV a b i j) t := by
  rw [mV_succ, wd_add_high _ _ _ _ h]
theorem m_arr (a b i j v : Nat) (hv : v = (wd a i * wd b j + wd (a % 2 ^ (64 * i) * b) (i + j) + mC a b i j) % 18446744073709551616) :
    (arr 8 fun t => if t = i + j then v else if t < i + j then wd (mV a b i j) t else wd (a % 2 ^ (64 * i) * b) t) = arr 8 fun t => if t < i + (j + 1) then wd (mV a b i (j + 1)) t else wd (a % 2 ^ (64 * i) * b) t := by
  refine arr_congr fun t _ => ?_
  by_cases h : t = i + j
  · rw [if_pos h, if_pos (by omega), h, hv, (m_step a b i j).2]
  · rw [if_neg h]
    by_cases h2 : t < i + j
    · rw [if_pos h2, if_pos (by omega), mV_low _ _ _ _ _ h2]
    · rw [if_neg h2, if_neg (by omega)]
theorem m_last (a b i : Nat) (hb : b < 2 ^ 256) (hi : i < 4) : (arr 8 fun t => if t = i + 4 then mC a b i 4 else if t < i + 4 then wd (mV a b i 4) t else wd (a % 2 ^ (64 * i) * b) t) = nat8 (a % 2 ^ (64 * (i + 1)) * b) := by
  have hV : mV a b i 4 = a % 2 ^ (64 * (i + 1)) * b := by
    unfold mV
    rw [wd_split a i, show 64 * 4 = 256 from rfl, Nat.mod_eq_of_lt hb, Nat.add_mul, Nat.mul_comm (wd a i * b), Nat.mul_assoc]
  have hP : 2 ^ (64 * (i + 4)) = 2 ^ (64 * i) * 2 ^ 256 := by rw [← Nat.pow_add, Nat.mul_add]
  have hW : a % 2 ^ (64 * i) * b < 2 ^ (64 * (i + 4)) := by
    rw [hP]
    exact Nat.mul_lt_mul_of_lt_of_le (Nat.mod_lt _ (Nat.two_pow_pos _)) (Nat.le_of_lt hb) (Nat.two_pow_pos _)
  have hV2 : a % 2 ^ (64 * (i + 1)) * b < 2 ^ (64 * (i + 4 + 1)) := by
    rw [show 2 ^ (64 * (i + 4 + 1)) = 2 ^ (64 * (i + 1)) * 2 ^ 256 by rw [← Nat.pow_add, show 64 * (i + 1) + 256 = 64 * (i + 4 + 1) by omega]]
    exact Nat.mul_lt_mul_of_lt_of_le (Nat.mod_lt _ (Nat.two_pow_pos _)) (Nat.le_of_lt hb) (Nat.two_pow_pos _)
  refine arr_congr fun t _ => ?_
  by_cases h : t = i + 4
  · rw [if_pos h, h]
    unfold mC
    have h5 : a % 2 ^ (64 * (i + 1)) * b / 2 ^ (64 * (i + 4)) < 18446744073709551616 := by
      refine (Nat.div_lt_iff_lt_mul (Nat.two_pow_pos _)).2 ?_
      rw [Nat.mul_comm 18446744073709551616, ← P_succ (i + 4)]
      exact hV2
    rw [Nat.div_eq_of_lt hW, Nat.sub_zero, hV, wd_eq, Nat.mod_eq_of_lt h5]
  · rw [if_neg h]
    by_cases h2 : t < i + 4
    · rw [if_pos h2, hV]
    · rw [if_neg h2, wd_big _ _ (Nat.lt_of_lt_of_le hW (Nat.pow_le_pow_right (by decide) (by omega))), wd_big _ _ (Nat.lt_of_lt_of_le hV2 (Nat.pow_le_pow_right (by decide) (by omega)))]
theorem arr8_zero : arr 8 (fun _ => 0) = nat8 0 := arr_congr fun i _ => (wd_zero i).symm
end Go.Ab
