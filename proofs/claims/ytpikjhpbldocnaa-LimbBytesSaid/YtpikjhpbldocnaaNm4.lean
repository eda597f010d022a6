/-
  Numbers: digits of eight bits.
-/
import Derived.Test.YtpikjhpbldocnaaNm3
namespace Go.Ab
open Go
set_option linter.unusedSimpArgs false
set_option linter.unusedVariables false

/-- A digit of a number. -/
def wd8 (n i : Nat) : Nat := n / 2 ^ (8 * i) % 2 ^ 8
theorem wd8_lt (n i : Nat) : wd8 n i < 256 := Nat.mod_lt _ (by decide)
theorem wd_eq8 (a k : Nat) : wd8 a k = a / 2 ^ (8 * k) % 256 := rfl
theorem P_succ8 (k : Nat) : 2 ^ (8 * (k + 1)) = 2 ^ (8 * k) * 256 := by rw [Nat.mul_add, Nat.mul_one, Nat.pow_add]
theorem dv_step8 (a k : Nat) : a / 2 ^ (8 * k) = 256 * (a / 2 ^ (8 * (k + 1))) + wd8 a k := by
  rw [P_succ8, ← Nat.div_div_eq_div_mul, wd_eq8]
  omega
theorem wd_split8 (a k : Nat) : a % 2 ^ (8 * (k + 1)) = a % 2 ^ (8 * k) + 2 ^ (8 * k) * wd8 a k := by
  rw [Nat.mul_add, Nat.mul_one, Nat.pow_add, Nat.mod_mul]
  rfl
/-- What goes over into word k of a sum. -/
def cy8 (a b k : Nat) : Nat := (a % 2 ^ (8 * k) + b % 2 ^ (8 * k)) / 2 ^ (8 * k)
theorem cy_zero8 (a b : Nat) : cy8 a b 0 = 0 := by simp [cy8, Nat.mod_one]
theorem cy_le8 (a b k : Nat) : cy8 a b k ≤ 1 := by
  unfold cy8
  have h := Nat.two_pow_pos (8 * k)
  have h1 := Nat.mod_lt a h
  have h2 := Nat.mod_lt b h
  have : (a % 2 ^ (8 * k) + b % 2 ^ (8 * k)) / 2 ^ (8 * k) < 2 := (Nat.div_lt_iff_lt_mul h).2 (by omega)
  omega
theorem cy_add8 (a b k : Nat) : (wd8 a k + wd8 b k + cy8 a b k) = wd8 (a + b) k + 256 * cy8 a b (k + 1) := by
  have h := Nat.two_pow_pos (8 * k)
  have e1 := wd_split8 a k
  have e2 := wd_split8 b k
  unfold cy8
  rw [e1, e2]
  generalize hM : 2 ^ (8 * k) = M at *
  have hM2 : 2 ^ (8 * (k + 1)) = M * 256 := by rw [Nat.mul_add, Nat.mul_one, Nat.pow_add, hM]
  rw [hM2]
  have hab : wd8 (a + b) k = (wd8 a k + wd8 b k + (a % M + b % M) / M) % 256 := by
    simp only [wd8, hM]
    have h1 := Nat.div_add_mod a M
    have h2 := Nat.div_add_mod b M
    have h3 : a + b = (a % M + b % M) + M * (a / M + b / M) := by rw [Nat.mul_add]; omega
    rw [h3, Nat.add_mul_div_left _ _ h]
    omega
  have h5 : (a % M + M * wd8 a k + (b % M + M * wd8 b k)) / (M * 256) = (wd8 a k + wd8 b k + (a % M + b % M) / M) / 256 := by
    rw [← Nat.div_div_eq_div_mul, show a % M + M * wd8 a k + (b % M + M * wd8 b k) = (a % M + b % M) + M * (wd8 a k + wd8 b k) by rw [Nat.mul_add]; omega, Nat.add_mul_div_left _ _ h, Nat.add_comm]
  rw [h5, hab]
  omega
theorem wd_zero8 (k : Nat) : wd8 0 k = 0 := by simp [wd8]
theorem wd_big8 (a k : Nat) (h : a < 2 ^ (8 * k)) : wd8 a k = 0 := by
  rw [wd_eq8, Nat.div_eq_of_lt h]
theorem wd_add_high8 (v y s t : Nat) (h : t < s) : wd8 (v + y * 2 ^ (8 * s)) t = wd8 v t := by
  have e : 2 ^ (8 * s) = 2 ^ (8 * t) * (256 * 2 ^ (8 * (s - (t + 1)))) := by
    rw [show (256 : Nat) = 2 ^ 8 from rfl, ← Nat.pow_add, ← Nat.pow_add]; congr 1; omega
  rw [wd_eq8, wd_eq8, e, Nat.mul_left_comm, Nat.add_mul_div_left _ _ (Nat.two_pow_pos _), Nat.mul_left_comm, Nat.add_mul_mod_self_left]

def mV8 (a b i j : Nat) : Nat := a % 2 ^ (8 * i) * b + wd8 a i * (b % 2 ^ (8 * j)) * 2 ^ (8 * i)
def mC8 (a b i j : Nat) : Nat := mV8 a b i j / 2 ^ (8 * (i + j)) - a % 2 ^ (8 * i) * b / 2 ^ (8 * (i + j))
theorem mV_zero8 (a b i : Nat) : mV8 a b i 0 = a % 2 ^ (8 * i) * b := by simp [mV8, Nat.mod_one]
theorem mC_zero8 (a b i : Nat) : mC8 a b i 0 = 0 := by simp [mC8, mV_zero8]
theorem mV_succ8 (a b i j : Nat) : mV8 a b i (j + 1) = mV8 a b i j + wd8 a i * wd8 b j * 2 ^ (8 * (i + j)) := by
  unfold mV8
  rw [wd_split8 b j, Nat.mul_add, Nat.add_mul, ← Nat.add_assoc, Nat.mul_add, Nat.pow_add]
  congr 1
  rw [Nat.mul_left_comm (wd8 a i), Nat.mul_comm (2 ^ (8 * j)) (wd8 a i * wd8 b j), Nat.mul_assoc, Nat.mul_comm (2 ^ (8 * j))]
theorem m_step8 (a b i j : Nat) : mC8 a b i (j + 1) = (wd8 a i * wd8 b j + wd8 (a % 2 ^ (8 * i) * b) (i + j) + mC8 a b i j) / 256 ∧
    wd8 (mV8 a b i (j + 1)) (i + j) = (wd8 a i * wd8 b j + wd8 (a % 2 ^ (8 * i) * b) (i + j) + mC8 a b i j) % 256 := by
  have hW : a % 2 ^ (8 * i) * b / 2 ^ (8 * (i + j)) ≤ mV8 a b i j / 2 ^ (8 * (i + j)) := Nat.div_le_div_right (Nat.le_add_right _ _)
  have h1 := dv_step8 (a % 2 ^ (8 * i) * b) (i + j)
  have h2 : mV8 a b i (j + 1) / 2 ^ (8 * (i + j)) = mV8 a b i j / 2 ^ (8 * (i + j)) + wd8 a i * wd8 b j := by
    rw [mV_succ8, Nat.mul_comm (wd8 a i * wd8 b j), Nat.add_mul_div_left _ _ (Nat.two_pow_pos _)]
  have h3 : mV8 a b i (j + 1) / 2 ^ (8 * (i + j)) = 256 * (a % 2 ^ (8 * i) * b / 2 ^ (8 * (i + j + 1))) + (wd8 a i * wd8 b j + wd8 (a % 2 ^ (8 * i) * b) (i + j) + mC8 a b i j) := by
    rw [h2]; unfold mC8; omega
  refine ⟨?_, ?_⟩
  · have : mC8 a b i (j + 1) = mV8 a b i (j + 1) / 2 ^ (8 * (i + j + 1)) - a % 2 ^ (8 * i) * b / 2 ^ (8 * (i + j + 1)) := rfl
    rw [this]
    have h4 : mV8 a b i (j + 1) / 2 ^ (8 * (i + j + 1)) = mV8 a b i (j + 1) / 2 ^ (8 * (i + j)) / 256 := by rw [P_succ8, Nat.div_div_eq_div_mul]
    rw [h4, h3]
    omega
  · rw [wd_eq8, h3]
    omega
theorem mV_low8 (a b i j t : Nat) (h : t < i + j) : wd8 (mV8 a b i (j + 1)) t = wd8 (mV8 a b i j) t := by
  rw [mV_succ8, wd_add_high8 _ _ _ _ h]

/-- A number of sixty-four digits. -/
def dgs (n : Nat) : List SV := iarr 64 fun i => ((wd8 n i : Nat) : Int)
theorem dgs_okk {m n : Nat} : (∀ x ∈ dgs n, x.ok m) = True := iarr_okk
theorem dgs_length {n : Nat} : (dgs n).length = 64 := iarr_length
theorem dgs_one {n : Nat} : oneAll (dgs n) = True := iarr_one
theorem dgs_get {n i : Nat} (h : i < 64) : (dgs n)[i]? = some (.v (.int .i64 ((wd8 n i : Nat) : Int))) := iarr_get h
theorem dgs_of (f : Nat → Int) (a : Nat) (h : ∀ k, k < 64 → f k = ((wd8 a k : Nat) : Int)) : iarr 64 f = dgs a := iarr_congr h
theorem dgs_zero : iarr 64 (fun _ => 0) = dgs 0 := iarr_congr fun i _ => by rw [wd_zero8]; rfl
theorem wd8_512 (a c k : Nat) (hk : k < 64) : wd8 (a + 2 ^ 512 * c) k = wd8 a k := by
  have e : 2 ^ 512 = 2 ^ (8 * k) * (256 * 2 ^ (8 * (63 - k))) := by
    rw [show (256 : Nat) = 2 ^ 8 from rfl, ← Nat.pow_add, ← Nat.pow_add]
    congr 1; omega
  rw [wd_eq8, wd_eq8, e, Nat.mul_assoc, Nat.add_mul_div_left _ _ (Nat.two_pow_pos _), Nat.mul_assoc, Nat.add_mul_mod_self_left]
theorem dgs_512 (a c : Nat) : dgs (a + 2 ^ 512 * c) = dgs a := iarr_congr fun k hk => by rw [wd8_512 a c k hk]
theorem dgs_modP (a P : Nat) (h : ∀ a c, dgs (a + P * c) = dgs a) : dgs (a % P) = dgs a := by
  conv => rhs; rw [← Nat.mod_add_div a P, h]
theorem dgs_mod (a : Nat) : dgs (a % 2 ^ 512) = dgs a := dgs_modP a _ dgs_512
theorem pow_512 (x y : Nat) (h : x + y = 512) : 2 ^ 512 = 2 ^ x * 2 ^ y := by
  have e := Nat.pow_add 2 x y
  rw [h] at e
  exact e
theorem upd_digit {f : Nat → Int} {k i : Nat} {v : Int} (h : v = f k) : (if i = k then v else if i < k then f i else 0) = if i < k + 1 then f i else 0 := by
  by_cases h1 : i = k
  · subst h1; simp [h]
  · by_cases h2 : i < k
    · simp [h1, h2, show i < k + 1 by omega]
    · simp [h1, h2, show ¬ i < k + 1 by omega]
/-- A digit, out of the word that holds it. -/
theorem wd_digit (a i : Nat) : wd a (i / 8) / 2 ^ (8 * (i % 8)) % 256 = wd8 a i := by
  rw [wd, mod_div_pow _ 64 _ (by omega), wd_eq8, Nat.div_div_eq_div_mul, ← Nat.pow_add, show 64 * (i / 8) + 8 * (i % 8) = 8 * i by omega]
  have : 256 ∣ 2 ^ (64 - 8 * (i % 8)) := Nat.pow_dvd_pow 2 (m := 8) (by omega)
  exact Nat.mod_mod_of_dvd _ this
theorem wd8_of_lt (a i : Nat) (n : Nat) (ha : a < 2 ^ (8 * n)) (h : n ≤ i) : wd8 a i = 0 :=
  wd_big8 a i (Nat.lt_of_lt_of_le ha (Nat.pow_le_pow_right (by decide) (by omega)))

/-- A number, from its lowest digit up, in words. -/
theorem dig_up (q k n : Nat) (h : k / 8 < n) :
    (arr n fun j => if j = k / 8 then (wd (q % 2 ^ (8 * k)) (k / 8) + wd8 q k * 2 ^ (8 * (k % 8))) else wd (q % 2 ^ (8 * k)) j) = arr n (wd (q % 2 ^ (8 * (k + 1)))) ∧
    wd (q % 2 ^ (8 * k)) (k / 8) + wd8 q k * 2 ^ (8 * (k % 8)) < 18446744073709551616 := by
  have e := wd_split8 q k
  have hr := Nat.mod_lt q (Nat.two_pow_pos (8 * k))
  have hb := wd8_lt q k
  rw [e]
  generalize q % 2 ^ (8 * k) = r at *
  generalize wd8 q k = b at *
  have hk : 2 ^ (8 * k) = 2 ^ (64 * (k / 8)) * 2 ^ (8 * (k % 8)) := by rw [← Nat.pow_add]; congr 1; omega
  have h256 : 2 ^ (8 * (k % 8)) * 256 ≤ 18446744073709551616 := by
    rw [show (256 : Nat) = 2 ^ 8 from rfl, ← Nat.pow_add]
    exact Nat.pow_le_pow_right (n := 2) (j := 64) (by decide) (by omega)
  have hbz : b * 2 ^ (8 * (k % 8)) + 2 ^ (8 * (k % 8)) ≤ 2 ^ (8 * (k % 8)) * 256 := by
    rw [← Nat.succ_mul, Nat.mul_comm]; exact Nat.mul_le_mul_left _ hb
  have hd : r / 2 ^ (64 * (k / 8)) < 2 ^ (8 * (k % 8)) := Nat.div_lt_of_lt_mul (by rw [← hk]; exact hr)
  have hfit : wd r (k / 8) + b * 2 ^ (8 * (k % 8)) < 18446744073709551616 := by
    rw [wd_eq]
    clear hr hk
    generalize r / 2 ^ (64 * (k / 8)) = u at *
    generalize b * 2 ^ (8 * (k % 8)) = z at *
    generalize 2 ^ (8 * (k % 8)) = y at *
    omega
  refine ⟨?_, hfit⟩
  refine arr_congr fun j hj => ?_
  by_cases h : j = k / 8
  · rw [if_pos h, h, wd_eq, wd_eq]
    have : 2 ^ (8 * k) * b = 2 ^ (64 * (k / 8)) * (b * 2 ^ (8 * (k % 8))) := by rw [hk, Nat.mul_assoc, Nat.mul_comm b]
    rw [this, Nat.add_mul_div_left _ _ (Nat.two_pow_pos _)]
    clear this hr hk
    rw [wd_eq] at hfit
    generalize r / 2 ^ (64 * (k / 8)) = u at *
    generalize b * 2 ^ (8 * (k % 8)) = z at *
    generalize 2 ^ (8 * (k % 8)) = y at *
    omega
  · rw [if_neg h]
    rcases Nat.lt_or_gt_of_ne h with h | h
    · have : 2 ^ (8 * k) * b = b * 2 ^ (8 * k - 64 * (j + 1)) * 2 ^ (64 * (j + 1)) := by rw [Nat.mul_assoc, ← Nat.pow_add, show 8 * k - 64 * (j + 1) + 64 * (j + 1) = 8 * k by omega, Nat.mul_comm]
      rw [this, wd_add_high _ _ _ _ (by omega)]
    · have h2 : 2 ^ (8 * (k + 1)) ≤ 2 ^ (64 * j) := Nat.pow_le_pow_right (by decide) (by omega)
      have h3 : 2 ^ (8 * k) * b + 2 ^ (8 * k) ≤ 2 ^ (8 * k) * 256 := by rw [← Nat.mul_succ]; exact Nat.mul_le_mul_left _ hb
      rw [P_succ8] at h2
      rw [wd_big _ _ (by omega), wd_big _ _ (by omega)]
theorem t_last0 (a b i j P : Nat) (hP : P = 2 ^ (8 * i) * 2 ^ (8 * j)) : a % 2 ^ (8 * (i + 1)) * b = mV8 a b i j + P * (wd8 a i * (b / 2 ^ (8 * j))) := by
  unfold mV8
  rw [wd_split8, Nat.add_mul, Nat.add_assoc]
  congr 1
  conv => lhs; rw [← Nat.mod_add_div b (2 ^ (8 * j))]
  rw [hP, Nat.mul_add]
  congr 1
  · rw [Nat.mul_assoc, Nat.mul_comm]
  · simp only [Nat.mul_assoc, Nat.mul_left_comm]
theorem t_last1 (a b i j t P : Nat) (hP : P = 2 ^ (8 * i) * 2 ^ (8 * j)) (h : ∀ x c, wd8 (x + P * c) t = wd8 x t) : wd8 (mV8 a b i j) t = wd8 (a % 2 ^ (8 * (i + 1)) * b) t := by
  rw [t_last0 a b i j P hP, h]
/-- What leaves sixty-four digits is lost. -/
theorem t_last (a b i : Nat) (hi : i < 64) (t : Nat) (ht : t < 64) : wd8 (mV8 a b i (64 - i)) t = wd8 (a % 2 ^ (8 * (i + 1)) * b) t := by
  have f := t_last1 a b i (64 - i) t (2 ^ 512) (pow_512 (8 * i) (8 * (64 - i)) (by omega)) (fun x c => wd8_512 x c t ht)
  exact f
theorem cy8_64 (a b : Nat) (ha : a < 2 ^ 512) (hb : b < 2 ^ 512) : cy8 a b 64 = (a + b) / 2 ^ 512 := by
  unfold cy8
  rw [show 8 * 64 = 512 from rfl, Nat.mod_eq_of_lt ha, Nat.mod_eq_of_lt hb]
theorem mul_digit_le (a b i j : Nat) : wd8 a i * wd8 b j ≤ 255 * 255 := Nat.mul_le_mul (by have := wd8_lt a i; omega) (by have := wd8_lt b j; omega)
theorem mC8_lt (a b i : Nat) : ∀ j, mC8 a b i j < 256
  | 0 => by rw [mC_zero8]; decide
  | j + 1 => by
    have h1 := mul_digit_le a b i j
    have h2 := wd8_lt (a % 2 ^ (8 * i) * b) (i + j)
    have h3 := mC8_lt a b i j
    rw [(m_step8 a b i j).1]
    omega

end Go.Ab
