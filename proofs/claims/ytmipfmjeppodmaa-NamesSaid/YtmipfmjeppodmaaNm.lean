/-
  Numbers: rules that keep what the walk finds natural; words of numbers.
-/
import Derived.Test.YtmipfmjeppodmaaAr
import Derived.Laws.BitsAllLaws
import Derived.Laws.Bits128
import Derived.Lib.BitFns
namespace Go.Ab
open Go
set_option linter.unusedSimpArgs false
set_option linter.unusedVariables false

/-! Try# Rules -/
theorem addL (a n : Nat) : (a : Int) + (no_index (OfNat.ofNat n : Int)) = ((a + OfNat.ofNat n : Nat) : Int) := rfl
theorem mulL (a n : Nat) : (a : Int) * (no_index (OfNat.ofNat n : Int)) = ((a * OfNat.ofNat n : Nat) : Int) := rfl
theorem mulL' (a n : Nat) : (no_index (OfNat.ofNat n : Int)) * (a : Int) = ((OfNat.ofNat n * a : Nat) : Int) := rfl
theorem divL (a n : Nat) : (a : Int) / (no_index (OfNat.ofNat n : Int)) = ((a / OfNat.ofNat n : Nat) : Int) := rfl
theorem modL (a n : Nat) : (a : Int) % (no_index (OfNat.ofNat n : Int)) = ((a % OfNat.ofNat n : Nat) : Int) := rfl
theorem subL (a n : Nat) (h : OfNat.ofNat n ≤ a) : (a : Int) - (no_index (OfNat.ofNat n : Int)) = ((a - OfNat.ofNat n : Nat) : Int) := (Int.ofNat_sub h).symm
theorem subL' (a n : Nat) (h : a ≤ OfNat.ofNat n) : (no_index (OfNat.ofNat n : Int)) - (a : Int) = ((OfNat.ofNat n - a : Nat) : Int) := (Int.ofNat_sub h).symm
theorem addN (a b : Nat) : (a : Int) + (b : Int) = ((a + b : Nat) : Int) := rfl
theorem mulN (a b : Nat) : (a : Int) * (b : Int) = ((a * b : Nat) : Int) := rfl
theorem subN (a b : Nat) (h : b ≤ a) : (a : Int) - (b : Int) = ((a - b : Nat) : Int) := (Int.ofNat_sub h).symm
theorem divN (a b : Nat) : (a : Int) / (b : Int) = ((a / b : Nat) : Int) := rfl
theorem modN (a b : Nat) : (a : Int) % (b : Int) = ((a % b : Nat) : Int) := rfl
theorem fdivL (a n : Nat) : Int.fdiv (a : Int) (no_index (OfNat.ofNat n : Int)) = ((a / OfNat.ofNat n : Nat) : Int) := Int.fdiv_eq_ediv_of_nonneg _ (Int.natCast_nonneg (OfNat.ofNat n))
theorem divP (a n : Nat) : (a : Int) / 2 ^ n = ((a / 2 ^ n : Nat) : Int) := by
  rw [show ((2 : Int) ^ n) = ((2 ^ n : Nat) : Int) by push_cast; rfl]; rfl
theorem mulP (a n : Nat) : (a : Int) * 2 ^ n = ((a * 2 ^ n : Nat) : Int) := by
  rw [show ((2 : Int) ^ n) = ((2 ^ n : Nat) : Int) by push_cast; rfl]; rfl
theorem w64 (a : Nat) (h : a < 18446744073709551616) : IntKind.u64.wrap (a : Int) = (a : Int) := by rw [IntKind.wrap_u64]; omega
theorem w64m (a : Nat) : IntKind.u64.wrap (a : Int) = ((a % 18446744073709551616 : Nat) : Int) := by rw [IntKind.wrap_u64]; rfl
theorem w8m (a : Nat) : IntKind.u8.wrap (a : Int) = ((a % 256 : Nat) : Int) := by rw [IntKind.wrap_u8]; rfl
theorem w32m (a : Nat) : IntKind.u32.wrap (a : Int) = ((a % 4294967296 : Nat) : Int) := by rw [IntKind.wrap_u32']; rfl
theorem wi64 (a : Nat) (h : a < 9223372036854775808) : IntKind.i64.wrap (a : Int) = (a : Int) := by rw [IntKind.wrap_i64]; omega
theorem minL (a b : Nat) (h : a ≤ b) : min a b = a := Nat.min_eq_left h
theorem minR (a b : Nat) (h : b ≤ a) : min a b = b := Nat.min_eq_right h
theorem andOne (a : Nat) (h : a < 18446744073709551616) : bits .and .u64 (a : Int) 1 = ((a % 2 : Nat) : Int) := by
  have := bits_and_u64_nat a 1 h (by decide)
  rw [nat_mask1] at this
  exact this
theorem and255 (a : Nat) (h : a < 18446744073709551616) : bits .and .u64 (a : Int) 255 = ((a % 256 : Nat) : Int) := by
  have := bits_and_u64_nat a 255 h (by decide)
  rw [show (255 : Nat) = 2 ^ 8 - 1 from rfl, Nat.and_two_pow_sub_one_eq_mod] at this
  exact this
theorem orN (a b : Nat) (ha : a < 18446744073709551616) (hb : b < 18446744073709551616) : bits .or .u64 (a : Int) (b : Int) = ((a ||| b : Nat) : Int) := bits_or_u64_nat a b ha hb
theorem and63 (n : Int) : bits .and .i64 n 63 = n % 64 := by
  have h127 : (BitVec.ofInt 64 63).toNat = 2 ^ 6 - 1 := by decide
  have key : (BitVec.ofInt 64 n &&& BitVec.ofInt 64 63).toNat = (n % ((2 ^ 64 : Nat) : Int)).toNat % 2 ^ 6 := by
    rw [BitVec.toNat_and, BitVec.toNat_ofInt, h127, Nat.and_two_pow_sub_one_eq_mod]
  show IntKind.i64.wrap ((BitVec.ofInt 64 n &&& BitVec.ofInt 64 63).toNat : Nat) = n % 64
  rw [key, IntKind.wrap_i64]
  omega
theorem neI (a b : Nat) : ((a : Int) != (b : Int)) = (a != b) := by
  rw [Bool.eq_iff_iff, bne_iff_ne, bne_iff_ne]
  omega
theorem eqI (a b : Nat) : ((a : Int) == (b : Int)) = (a == b) := by
  rw [Bool.eq_iff_iff, beq_iff_eq, beq_iff_eq]
  omega

theorem upd_word {f : Nat → Nat} {k v i : Nat} (h : v = f k) : (if i = k then v else if i < k then f i else 0) = if i < k + 1 then f i else 0 := by
  by_cases h1 : i = k
  · subst h1; simp [h]
  · by_cases h2 : i < k
    · simp [h1, h2, show i < k + 1 by omega]
    · simp [h1, h2, show ¬ i < k + 1 by omega]

theorem castL (n : Nat) : ((no_index (OfNat.ofNat n : Nat) : Nat) : Int) = OfNat.ofNat n := rfl
theorem neL (a n : Nat) : ((a : Int) != (no_index (OfNat.ofNat n : Int))) = (a != OfNat.ofNat n) := neI a (OfNat.ofNat n)
theorem eqL (a n : Nat) : ((a : Int) == (no_index (OfNat.ofNat n : Int))) = (a == OfNat.ofNat n) := eqI a (OfNat.ofNat n)

/-! Try# Words -/
theorem wd_eq (a k : Nat) : wd a k = a / 2 ^ (64 * k) % 18446744073709551616 := rfl
theorem P_succ (k : Nat) : 2 ^ (64 * (k + 1)) = 2 ^ (64 * k) * 18446744073709551616 := by rw [Nat.mul_add, Nat.mul_one, Nat.pow_add]
theorem dv_step (a k : Nat) : a / 2 ^ (64 * k) = 18446744073709551616 * (a / 2 ^ (64 * (k + 1))) + wd a k := by
  rw [P_succ, ← Nat.div_div_eq_div_mul, wd_eq]
  omega
theorem wd_split (a k : Nat) : a % 2 ^ (64 * (k + 1)) = a % 2 ^ (64 * k) + 2 ^ (64 * k) * wd a k := by
  rw [Nat.mul_add, Nat.mul_one, Nat.pow_add, Nat.mod_mul]
  rfl
/-- What goes over into word k of a sum. -/
def cy (a b k : Nat) : Nat := (a % 2 ^ (64 * k) + b % 2 ^ (64 * k)) / 2 ^ (64 * k)
theorem cy_zero (a b : Nat) : cy a b 0 = 0 := by simp [cy, Nat.mod_one]
theorem cy_le (a b k : Nat) : cy a b k ≤ 1 := by
  unfold cy
  have h := Nat.two_pow_pos (64 * k)
  have h1 := Nat.mod_lt a h
  have h2 := Nat.mod_lt b h
  have : (a % 2 ^ (64 * k) + b % 2 ^ (64 * k)) / 2 ^ (64 * k) < 2 := (Nat.div_lt_iff_lt_mul h).2 (by omega)
  omega
theorem cy_add (a b k : Nat) : (wd a k + wd b k + cy a b k) = wd (a + b) k + 18446744073709551616 * cy a b (k + 1) := by
  have h := Nat.two_pow_pos (64 * k)
  have e1 := wd_split a k
  have e2 := wd_split b k
  unfold cy
  rw [e1, e2]
  generalize hM : 2 ^ (64 * k) = M at *
  have hM2 : 2 ^ (64 * (k + 1)) = M * 18446744073709551616 := by rw [Nat.mul_add, Nat.mul_one, Nat.pow_add, hM]
  rw [hM2]
  have hab : wd (a + b) k = (wd a k + wd b k + (a % M + b % M) / M) % 18446744073709551616 := by
    simp only [wd, hM]
    have h1 := Nat.div_add_mod a M
    have h2 := Nat.div_add_mod b M
    have h3 : a + b = (a % M + b % M) + M * (a / M + b / M) := by rw [Nat.mul_add]; omega
    rw [h3, Nat.add_mul_div_left _ _ h]
    omega
  have h5 : (a % M + M * wd a k + (b % M + M * wd b k)) / (M * 18446744073709551616) = (wd a k + wd b k + (a % M + b % M) / M) / 18446744073709551616 := by
    rw [← Nat.div_div_eq_div_mul, show a % M + M * wd a k + (b % M + M * wd b k) = (a % M + b % M) + M * (wd a k + wd b k) by rw [Nat.mul_add]; omega, Nat.add_mul_div_left _ _ h, Nat.add_comm]
  rw [h5, hab]
  omega
theorem cy_four (a b : Nat) (ha : a < 2 ^ 256) (hb : b < 2 ^ 256) : cy a b 4 = (a + b) / 2 ^ 256 := by
  unfold cy
  rw [show 64 * 4 = 256 from rfl, Nat.mod_eq_of_lt ha, Nat.mod_eq_of_lt hb]
theorem wd_four_add (a c k : Nat) (hk : k < 4) : wd (a + 2 ^ 256 * c) k = wd a k := by
  have e : 2 ^ 256 = 2 ^ (64 * k) * (18446744073709551616 * 2 ^ (64 * (3 - k))) := by
    rw [show (18446744073709551616 : Nat) = 2 ^ 64 from rfl, ← Nat.pow_add, ← Nat.pow_add]
    congr 1; omega
  rw [wd_eq, wd_eq, e, Nat.mul_assoc, Nat.add_mul_div_left _ _ (Nat.two_pow_pos _), Nat.mul_assoc, Nat.add_mul_mod_self_left]
theorem wd_mod (a k : Nat) (hk : k < 4) : wd (a % 2 ^ 256) k = wd a k := by
  rw [← wd_four_add (a % 2 ^ 256) (a / 2 ^ 256) k hk, Nat.mod_add_div]
theorem wd_zero (k : Nat) : wd 0 k = 0 := by simp [wd]
theorem wd_big (a k : Nat) (h : a < 2 ^ (64 * k)) : wd a k = 0 := by
  rw [wd_eq, Nat.div_eq_of_lt h]
theorem wd_small (a : Nat) (h : a < 18446744073709551616) : wd a 0 = a := by
  rw [wd_eq]; simp; omega
/-- The words of a number are all that there is to it. -/
theorem wd_inj4 (a b : Nat) (ha : a < 2 ^ 256) (hb : b < 2 ^ 256) (h : ∀ k, k < 4 → wd a k = wd b k) : a = b := by
  have h0 := h 0 (by decide); have h1 := h 1 (by decide); have h2 := h 2 (by decide); have h3 := h 3 (by decide)
  simp only [wd, Nat.reduceMul, Nat.reducePow, Nat.pow_zero, Nat.div_one] at *
  omega
theorem nat4_inj (a b : Nat) (ha : a < 2 ^ 256) (hb : b < 2 ^ 256) : nat4 a = nat4 b ↔ a = b :=
  ⟨fun h => wd_inj4 a b ha hb fun k hk => arr_inj h k hk, fun h => by rw [h]⟩
theorem nat4_of (f : Nat → Nat) (a : Nat) (h : ∀ k, k < 4 → f k = wd a k) : arr 4 f = nat4 a := arr_congr h
theorem nat4_mod (a : Nat) : nat4 (a % 2 ^ 256) = nat4 a := arr_congr fun k hk => wd_mod a k hk
theorem mod_div_pow (q n j : Nat) (h : j ≤ n) : q % 2 ^ n / 2 ^ j = q / 2 ^ j % 2 ^ (n - j) := by
  rw [show 2 ^ n = 2 ^ j * 2 ^ (n - j) by rw [← Nat.pow_add]; congr 1; omega, Nat.mod_mul_right_div_self]
theorem mod_pow_two (x n : Nat) (h : 0 < n) : x % 2 ^ n % 2 = x % 2 := Nat.mod_mod_of_dvd x (Nat.dvd_trans ⟨1, rfl⟩ (Nat.pow_dvd_pow 2 (show 1 ≤ n from h)))
theorem wd_bit (a i : Nat) : wd a (i / 64) / 2 ^ (i % 64) % 2 = a / 2 ^ i % 2 := by
  rw [wd, mod_div_pow _ 64 _ (by omega), mod_pow_two _ _ (by omega), Nat.div_div_eq_div_mul, ← Nat.pow_add, Nat.div_add_mod]

theorem pow_64 (p : Nat) (hp : p < 64) : 2 ^ (64 - p) = 2 * 2 ^ (63 - p) := by
  obtain ⟨d, hd⟩ : ∃ d, 63 - p = d := ⟨_, rfl⟩
  rw [hd, show 64 - p = d + 1 by omega, Nat.pow_succ, Nat.mul_comm]

/-- The order of two numbers, as a sign. -/
def sg (a b : Nat) : Int := if a < b then -1 else if b < a then 1 else 0
theorem sg_lt {a b k : Nat} (h : a / 2 ^ (64 * (k + 1)) = b / 2 ^ (64 * (k + 1))) (h2 : wd a k < wd b k) : sg a b = -1 := by
  have h3 : a / 2 ^ (64 * k) < b / 2 ^ (64 * k) := by rw [dv_step a k, dv_step b k]; omega
  have : a < b := Nat.lt_of_not_le fun hh => absurd (Nat.div_le_div_right (c := 2 ^ (64 * k)) hh) (by omega)
  simp [sg, this]
theorem sg_gt {a b k : Nat} (h : a / 2 ^ (64 * (k + 1)) = b / 2 ^ (64 * (k + 1))) (h2 : wd b k < wd a k) : sg a b = 1 := by
  have h3 : b / 2 ^ (64 * k) < a / 2 ^ (64 * k) := by rw [dv_step a k, dv_step b k]; omega
  have : b < a := Nat.lt_of_not_le fun hh => absurd (Nat.div_le_div_right (c := 2 ^ (64 * k)) hh) (by omega)
  simp [sg, this, show ¬ a < b by omega]
theorem sg_neg {a b : Nat} (h : a < b) : sg a b = -1 := by simp [sg, h]
theorem sg_pos {a b : Nat} (h : b < a) : sg a b = 1 := by simp [sg, h, show ¬ a < b by omega]
theorem sg_same {a : Nat} : sg a a = 0 := by simp [sg]
theorem sg_nonneg {a b : Nat} (h : b ≤ a) : 0 ≤ sg a b := by
  rcases Nat.lt_or_eq_of_le h with h | h
  · rw [sg_pos h]; decide
  · subst h; rw [sg_same]; decide
theorem sg_lt0 {a b : Nat} (h : a < b) : sg a b < 0 := by rw [sg_neg h]; decide

/-! Try# Arrays against each other -/
def lits (n : Nat) (f : Nat → Nat) : List Lit := (List.range n).map fun i => .int .u64 (f i : Int)
theorem litsEq_lits {n : Nat} {f g : Nat → Nat} : litsEq (lits n f) (lits n g) = decide (∀ i, i < n → f i = g i) := by
  rw [Bool.eq_iff_iff, litsEq_iff, decide_eq_true_iff]
  simp only [lits]
  rw [List.map_inj_left]
  simp only [List.mem_range, Lit.int.injEq, true_and]
  exact ⟨fun h i hi => by have := h i hi; omega, fun h i hi => by rw [h i hi]⟩
theorem litsEq_nat4 {a b : Nat} (ha : a < 2 ^ 256) (hb : b < 2 ^ 256) : litsEq (lits 4 (wd a)) (lits 4 (wd b)) = decide (a = b) := by
  rw [litsEq_lits, Bool.eq_iff_iff, decide_eq_true_iff, decide_eq_true_iff]
  exact ⟨fun h => wd_inj4 a b ha hb h, fun h => by intros; rw [h]⟩
theorem valsOf_map {α : Type} (g : α → Value) : ∀ l : List α, valsOf (l.map fun i => SV.v (g i)) = some (l.map g)
  | [] => rfl
  | a :: l => by simp [valsOf, valsOf_map g l]
theorem mapM_all {α β : Type} (g : α → Option β) (h : α → β) : ∀ l : List α, (∀ a ∈ l, g a = some (h a)) → l.mapM g = some (l.map h)
  | [], _ => by simp
  | a :: l, hh => by
    rw [List.mapM_cons, hh a (by simp), mapM_all g h l (fun b hb => hh b (by simp [hb]))]
    rfl
theorem flat_map {α β : Type} (g : α → β) (l : List α) : (l.map fun i => [g i]).flatten = l.map g := by
  induction l with
  | nil => rfl
  | cons a l ih => simp [ih]
theorem litsA_row {P : Program} {t n e : Nat} {k : IntKind} {g : Nat → Int} (hu : P.underlying t = some (.array n e)) (he : P.underlying e = some (.int k)) (hc : P.cellsOf t = n) (hce : P.cellsOf e = 1)
    (hg : ∀ i, i < n → (Lit.int k (g i)).wf = true) : litsA P t (some ((List.range n).map fun i => SV.v (.int k (g i)))) = some ((List.range n).map fun i => .int k (g i)) := by
  unfold litsA
  rw [Option.bind_some, valsOf_map, Option.bind_some]
  show P.keyLits (8 + 1) t _ = _
  unfold Program.keyLits
  rw [hu]
  simp only [List.length_map, List.length_range, hc, if_true]
  rw [mapM_all _ (fun i => [Lit.int k (g i)])]
  · simp only [Option.map_some, flat_map]
  · intro i hi
    rw [List.mem_range] at hi
    have : ((List.map (fun i => Value.int k (g i)) (List.range n)).drop (i * P.cellsOf e)).take (P.cellsOf e) = [.int k (g i)] := by
      rw [hce, Nat.mul_one]
      apply List.ext_getElem?
      intro j
      rcases j with _ | j
      · simp [hi]
      · simp; omega
    rw [this]
    show P.keyLits (7 + 1) e _ = _
    unfold Program.keyLits
    rw [he]
    simp only [hg i hi, and_self, if_true]
theorem wf_u64 (n : Nat) (h : n < 18446744073709551616) : (Lit.int .u64 (n : Int)).wf = true := by
  have h1 : IntKind.u64.min = 0 := rfl
  have h2 : IntKind.u64.max = 18446744073709551615 := rfl
  simp only [Lit.wf, h1, h2, Bool.and_eq_true, decide_eq_true_iff]
  omega
theorem litsA_arr {P : Program} {t n e : Nat} {f : Nat → Nat} (hu : P.underlying t = some (.array n e)) (he : P.underlying e = some (.int .u64)) (hc : P.cellsOf t = n) (hce : P.cellsOf e = 1)
    (hf : ∀ i, i < n → f i < 18446744073709551616) : litsA P t (some (arr n f)) = some (lits n f) := litsA_row hu he hc hce fun i hi => wf_u64 _ (hf i hi)
theorem arr4_zero : arr 4 (fun _ => 0) = nat4 0 := arr_congr fun i _ => (wd_zero i).symm
theorem nat4_small {a : Nat} (ha : a < 18446744073709551616) : arr 4 (fun j => if j = 0 then a else 0) = nat4 a := by
  refine arr_congr fun i hi => ?_
  by_cases h : i = 0
  · subst h; simp [wd_small a ha]
  · simp only [h, if_false]
    rw [wd_big]
    exact Nat.lt_of_lt_of_le ha (Nat.pow_le_pow_right (n := 2) (i := 64) (by decide) (by omega))
theorem arr_setL {n i : Nat} {f : Nat → Nat} (x : Nat) : (arr n f).set i (.v (.int .u64 (no_index (OfNat.ofNat x : Int)))) = arr n (fun j => if j = i then OfNat.ofNat x else f j) := arr_set x

/-! Try# Bit by bit -/
/-- One bit more above what is left. -/
theorem or_bit (q w i j : Nat) (hq : q % 2 ^ (i + 1) = 0) (hw : w ≤ 1) (hi : i / 64 = j) : wd q j ||| (w * 2 ^ (i % 64) % 18446744073709551616) = wd (q + w * 2 ^ i) j := by
  have hs : w * 2 ^ (i % 64) < 18446744073709551616 := by
    have h1 : 2 ^ (i % 64) ≤ 2 ^ 63 := Nat.pow_le_pow_right (by decide) (by omega)
    have : w * 2 ^ (i % 64) ≤ 1 * 2 ^ 63 := Nat.mul_le_mul hw h1
    omega
  rw [Nat.mod_eq_of_lt hs]
  obtain ⟨t, rfl⟩ := Nat.dvd_of_mod_eq_zero hq
  have hi2 : i = 64 * j + i % 64 := by rw [← hi, Nat.div_add_mod]
  have e1 : 2 ^ (i + 1) * t = 2 ^ (64 * j) * (2 ^ (i % 64) * (2 * t)) := by
    conv => lhs; rw [hi2, Nat.pow_succ, Nat.pow_add]
    simp only [Nat.mul_assoc]
  have e2 : w * 2 ^ i = 2 ^ (64 * j) * (2 ^ (i % 64) * w) := by
    conv => lhs; rw [hi2, Nat.pow_add]
    rw [Nat.mul_comm w, Nat.mul_assoc]
  rw [e1, e2, ← Nat.mul_add, wd_eq, wd_eq, Nat.mul_div_cancel_left _ (Nat.two_pow_pos _), Nat.mul_div_cancel_left _ (Nat.two_pow_pos _), ← Nat.mul_add]
  have e3 : (18446744073709551616 : Nat) = 2 ^ (i % 64) * 2 ^ (64 - i % 64) := by
    rw [← Nat.pow_add, show i % 64 + (64 - i % 64) = 64 by omega]
  have e4 : 2 ^ (64 - i % 64) = 2 * 2 ^ (63 - i % 64) := pow_64 _ (by omega)
  rw [e3, Nat.mul_mod_mul_left, Nat.mul_mod_mul_left, Nat.mul_comm w]
  have e5 : (2 * t + w) % 2 ^ (64 - i % 64) = 2 * t % 2 ^ (64 - i % 64) + w := by
    rw [e4, Nat.mul_mod_mul_left, Nat.mod_mul, show (2 * t + w) / 2 = t by omega]
    omega
  rw [e5, Nat.mul_add]
  refine nat_join (i % 64 + 1) _ _ ?_ ?_
  · rw [e4, Nat.mul_mod_mul_left, ← Nat.mul_assoc, ← Nat.pow_succ, Nat.mul_mod_right]
  · rw [Nat.pow_succ]
    exact Nat.mul_lt_mul_of_le_of_lt (Nat.le_refl _) (by omega) (Nat.two_pow_pos _)
theorem wd_above (q x i j : Nat) (hq : q % 2 ^ (i + 1) = 0) (hx : x ≤ 1) (hj : i / 64 ≠ j) : wd (q + x * 2 ^ i) j = wd q j := by
  obtain ⟨t, rfl⟩ := Nat.dvd_of_mod_eq_zero hq
  have hlt : x * 2 ^ i < 2 ^ (i + 1) := by
    rw [Nat.pow_succ, Nat.mul_comm]
    exact Nat.mul_lt_mul_of_le_of_lt (Nat.le_refl _) (by omega) (Nat.two_pow_pos _)
  rcases Nat.lt_or_gt_of_ne hj with h | h
  · have e : 2 ^ (64 * j) = 2 ^ (i + 1) * 2 ^ (64 * j - (i + 1)) := by rw [← Nat.pow_add]; congr 1; omega
    rw [wd_eq, wd_eq, e, ← Nat.div_div_eq_div_mul, ← Nat.div_div_eq_div_mul, Nat.mul_add_div (Nat.two_pow_pos _), Nat.div_eq_of_lt hlt, Nat.add_zero, Nat.mul_div_cancel_left _ (Nat.two_pow_pos _)]
  · have e : 2 ^ i = 2 ^ (64 * j) * (18446744073709551616 * 2 ^ (i - 64 * (j + 1))) := by
      rw [show (18446744073709551616 : Nat) = 2 ^ 64 from rfl, ← Nat.pow_add, ← Nat.pow_add]; congr 1; omega
    rw [Nat.pow_succ, e, wd_eq, wd_eq]
    have e1 : 2 ^ (64 * j) * (18446744073709551616 * 2 ^ (i - 64 * (j + 1))) * 2 * t = 2 ^ (64 * j) * (18446744073709551616 * (2 ^ (i - 64 * (j + 1)) * 2 * t)) := by simp only [Nat.mul_assoc]
    have e2 : x * (2 ^ (64 * j) * (18446744073709551616 * 2 ^ (i - 64 * (j + 1)))) = 2 ^ (64 * j) * (18446744073709551616 * (2 ^ (i - 64 * (j + 1)) * x)) := by
      rw [Nat.mul_comm x]; simp only [Nat.mul_assoc]
    rw [e1, e2, ← Nat.mul_add, Nat.mul_div_cancel_left _ (Nat.two_pow_pos _), Nat.mul_div_cancel_left _ (Nat.two_pow_pos _), ← Nat.mul_add, Nat.mul_mod_right, Nat.mul_mod_right]
/-- A division, a bit further down. -/
theorem div_bit (a m i v : Nat) (hm : 0 < m) (hv : v = 2 * (a / 2 ^ (i + 1) % m) + a / 2 ^ i % 2) :
    (a / 2 ^ i % m = if m ≤ v then v - m else v) ∧ a / 2 ^ i / m = 2 * (a / 2 ^ (i + 1) / m) + (if m ≤ v then 1 else 0) := by
  have e : a / 2 ^ i = 2 * (a / 2 ^ (i + 1)) + a / 2 ^ i % 2 := by
    rw [Nat.pow_succ, ← Nat.div_div_eq_div_mul]; omega
  have h1 := Nat.div_add_mod (a / 2 ^ (i + 1)) m
  have h2 := Nat.mod_lt (a / 2 ^ (i + 1)) hm
  have h3 : m * (2 * (a / 2 ^ (i + 1) / m)) = 2 * (m * (a / 2 ^ (i + 1) / m)) := by rw [Nat.mul_left_comm]
  have ev : a / 2 ^ i = m * (2 * (a / 2 ^ (i + 1) / m)) + v := by omega
  have hv : v < 2 * m := by omega
  rw [ev, Nat.mul_add_mod, Nat.mul_add_div hm]
  by_cases h : m ≤ v
  · rw [if_pos h, if_pos h, Nat.mod_eq_sub_mod h, Nat.mod_eq_of_lt (a := v - m) (by omega), Nat.div_eq_sub_div hm h, Nat.div_eq_of_lt (show v - m < m by omega)]
    exact ⟨rfl, rfl⟩
  · rw [if_neg h, if_neg h, Nat.mod_eq_of_lt (by omega), Nat.div_eq_of_lt (show v < m by omega)]
    exact ⟨rfl, rfl⟩

/-! Try# How many bits -/
/-- How many bits a number has. -/
def blen (a : Nat) : Nat := if a = 0 then 0 else a.log2 + 1
theorem blen_half (a : Nat) (h : a ≠ 0) : blen a = 1 + blen (a / 2) := by
  unfold blen
  rw [if_neg h, Nat.log2_def]
  by_cases h2 : a ≥ 2
  · rw [if_pos h2, if_neg (by omega)]; omega
  · rw [if_neg h2, if_pos (by omega)]
theorem blen_shift : ∀ (k a : Nat), a / 2 ^ k ≠ 0 → blen a = k + blen (a / 2 ^ k)
  | 0, a, _ => by simp
  | k + 1, a, h => by
    have ha : a ≠ 0 := by rintro rfl; simp at h
    have e : a / 2 ^ (k + 1) = a / 2 / 2 ^ k := by rw [Nat.pow_succ, Nat.mul_comm, Nat.div_div_eq_div_mul]
    rw [e] at h ⊢
    rw [blen_half a ha, blen_shift k (a / 2) h]
    omega
theorem lib_blen : ∀ (k x : Nat), x < 2 ^ k → k ≤ 64 → Lib.bitLen x = blen x
  | 0, x, h, _ => by have : x = 0 := by simpa using h
                     subst this; rfl
  | k + 1, x, h, hk => by
    by_cases h0 : x = 0
    · subst h0; rfl
    · have hp : 2 ^ (k + 1) ≤ 2 ^ 64 := Nat.pow_le_pow_right (by decide) hk
      rw [Lib.bitLen_half x h0 (by omega), blen_half x h0, lib_blen k (x / 2) (by rw [Nat.pow_succ] at h; omega) (by omega)]
theorem blen_word (a j : Nat) (ha : a < 2 ^ (64 * (j + 1))) (h : wd a j ≠ 0) : blen a = 64 * j + Lib.bitLen (wd a j) := by
  have e : a / 2 ^ (64 * j) = wd a j := by
    rw [wd_eq, Nat.mod_eq_of_lt]
    rw [P_succ] at ha
    exact Nat.div_lt_of_lt_mul (by omega)
  rw [lib_blen 64 _ (wd_lt a j) (by omega), blen_shift (64 * j) a (by rw [e]; exact h), e]
theorem lt_word (a j : Nat) (ha : a < 2 ^ (64 * (j + 1))) (h : wd a j = 0) : a < 2 ^ (64 * j) := by
  have h1 := dv_step a j
  rw [h, Nat.div_eq_of_lt ha] at h1
  rcases Nat.lt_or_ge a (2 ^ (64 * j)) with h2 | h2
  · exact h2
  · have := Nat.div_pos h2 (Nat.two_pow_pos _)
    omega

/-! Try# Moves -/
/-- A number, moved. -/
def shf (a : Nat) (n : Int) : Nat := if n ≤ -256 ∨ 256 ≤ n then 0 else if 0 ≤ n then a * 2 ^ n.toNat % 2 ^ 256 else a / 2 ^ (-n).toNat
/-- A word, wherever. -/
def wat (a : Nat) (k : Int) : Nat := if k < 0 ∨ 4 ≤ k then 0 else wd a k.toNat
theorem wat_lt (a : Nat) (k : Int) : wat a k < 18446744073709551616 := by
  unfold wat; split
  · decide
  · exact wd_lt _ _
theorem wat_nat (a k : Nat) (ha : a < 2 ^ 256) : wat a (k : Int) = wd a k := by
  unfold wat
  by_cases h : 4 ≤ k
  · rw [if_pos (by omega), wd_big]
    exact Nat.lt_of_lt_of_le ha (Nat.pow_le_pow_right (n := 2) (i := 256) (by decide) (by omega))
  · rw [if_neg (by omega)]; rfl
theorem wat_neg (a : Nat) (k : Int) (h : k < 0) : wat a k = 0 := if_pos (.inl h)
/-- Two words, and where they meet. -/
theorem word_meet (q p : Nat) (hp : p < 64) : (q / 2 ^ 64 % 2 ^ 64 * 2 ^ p % 2 ^ 64) + q % 2 ^ 64 / 2 / 2 ^ (63 - p) = q / 2 ^ (64 - p) % 2 ^ 64 := by
  have e0 : q % 2 ^ 64 / 2 / 2 ^ (63 - p) = q % 2 ^ 64 / 2 ^ (64 - p) := by
    rw [Nat.div_div_eq_div_mul, ← pow_64 p hp]
  have e1 : 2 ^ 64 = 2 ^ (64 - p) * 2 ^ p := by rw [← Nat.pow_add]; congr 1; omega
  have hA := Nat.two_pow_pos (64 - p)
  have hB := Nat.two_pow_pos p
  rw [e0]
  generalize hQ : q / 2 ^ 64 = Q
  have hq : q = 2 ^ 64 * Q + q % 2 ^ 64 := by rw [← hQ]; exact (Nat.div_add_mod q _).symm
  have hr : q % 2 ^ 64 < 2 ^ 64 := Nat.mod_lt _ (by decide)
  generalize q % 2 ^ 64 = r at hq hr
  have e2 : q / 2 ^ (64 - p) = 2 ^ p * Q + r / 2 ^ (64 - p) := by
    rw [hq, e1, Nat.mul_assoc, Nat.mul_add_div hA]
  have h3 : r / 2 ^ (64 - p) < 2 ^ p := (Nat.div_lt_iff_lt_mul hA).2 (by rw [Nat.mul_comm]; omega)
  rw [e2]
  have e4 : Q % 2 ^ 64 * 2 ^ p % 2 ^ 64 = 2 ^ p * (Q % 2 ^ (64 - p)) := by
    rw [Nat.mul_comm, Nat.mul_mod, Nat.mod_mod, ← Nat.mul_mod]
    conv => lhs; rw [e1, Nat.mul_comm (2 ^ (64 - p)), Nat.mul_mod_mul_left]
  have e5 : (2 ^ p * Q + r / 2 ^ (64 - p)) % 2 ^ 64 = 2 ^ p * (Q % 2 ^ (64 - p)) + r / 2 ^ (64 - p) := by
    have hs : Q = 2 ^ (64 - p) * (Q / 2 ^ (64 - p)) + Q % 2 ^ (64 - p) := (Nat.div_add_mod _ _).symm
    have hl : Q % 2 ^ (64 - p) < 2 ^ (64 - p) := Nat.mod_lt _ hA
    generalize Q % 2 ^ (64 - p) = u at hs hl ⊢
    generalize Q / 2 ^ (64 - p) = v at hs
    have : 2 ^ p * Q + r / 2 ^ (64 - p) = (2 ^ p * u + r / 2 ^ (64 - p)) + 2 ^ 64 * v := by
      rw [hs, Nat.mul_add, e1, ← Nat.mul_assoc, Nat.mul_comm (2 ^ p) (2 ^ (64 - p))]; omega
    rw [this, Nat.add_mul_mod_self_left, Nat.mod_eq_of_lt]
    have : 2 ^ p * u + 2 ^ p ≤ 2 ^ p * 2 ^ (64 - p) := by rw [← Nat.mul_succ]; exact Nat.mul_le_mul_left _ hl
    rw [e1, Nat.mul_comm (2 ^ (64 - p))]
    omega
  rw [e4, e5]
theorem shl_mod (x p : Nat) (hp : p < 64) : x * 2 ^ p % 2 ^ 64 % 2 ^ p = 0 := by
  rw [Nat.mod_mod_of_dvd _ (Nat.pow_dvd_pow 2 (by omega)), Nat.mul_mod_left]
theorem or_meet (x y p : Nat) (hp : p < 64) (hy : y < 18446744073709551616) : (x * 2 ^ p % 18446744073709551616) ||| (y / 2 / 2 ^ (63 - p)) = x * 2 ^ p % 18446744073709551616 + y / 2 / 2 ^ (63 - p) := by
  refine nat_join p _ _ (shl_mod x p hp) ?_
  rw [Nat.div_div_eq_div_mul, ← pow_64 p hp]
  refine (Nat.div_lt_iff_lt_mul (Nat.two_pow_pos _)).2 ?_
  rw [← Nat.pow_add, show p + (64 - p) = 64 by omega]
  exact hy
theorem shift_word (a : Nat) (ws : Int) (p i : Nat) (n : Int) (ha : a < 2 ^ 256) (hn : n = 64 * ws + p) (hp : p < 64) (h1 : -256 < n) (h2 : n < 256) (hi : i < 4) :
    (wat a ((i : Int) - ws) * 2 ^ p % 18446744073709551616) ||| (wat a ((i : Int) - ws - 1) / 2 / 2 ^ (63 - p)) = wd (shf a n) i := by
  rw [or_meet _ _ _ hp (wat_lt _ _)]
  have key : ∀ q : Nat, q < 2 ^ 256 → ∀ k : Nat, wat q (k : Int) * 2 ^ p % 18446744073709551616 + wat q ((k : Int) - 1) / 2 / 2 ^ (63 - p) = if k = 0 then q * 2 ^ p % 2 ^ 64 else q / 2 ^ (64 * k - p) % 2 ^ 64 := by
    intro q hq k
    cases k with
    | zero =>
      rw [wat_neg q (((0 : Nat) : Int) - 1) (by omega), wat_nat q 0 hq, if_pos rfl]
      simp only [wd, Nat.mul_zero, Nat.pow_zero, Nat.div_one, Nat.zero_div, Nat.add_zero]
      rw [Nat.mul_mod, Nat.mod_mod, ← Nat.mul_mod]
    | succ k =>
      rw [show ((k + 1 : Nat) : Int) - 1 = ((k : Nat) : Int) by omega, wat_nat q _ hq, wat_nat q _ hq, if_neg (by omega)]
      have := word_meet (q / 2 ^ (64 * k)) p hp
      have e3 : q / 2 ^ (64 * k) / 2 ^ 64 = q / 2 ^ (64 * (k + 1)) := by rw [Nat.div_div_eq_div_mul, ← Nat.pow_add]; rfl
      have e4 : q / 2 ^ (64 * k) / 2 ^ (64 - p) = q / 2 ^ (64 * (k + 1) - p) := by rw [Nat.div_div_eq_div_mul, ← Nat.pow_add, show 64 * k + (64 - p) = 64 * (k + 1) - p by omega]
      rw [e3, e4] at this
      rw [← this]
      rfl
  by_cases h0 : 0 ≤ n
  · rw [shf, if_neg (by omega), if_pos h0, wd_mod _ _ hi]
    by_cases hk : (i : Int) - ws < 0
    · rw [wat_neg _ _ hk, wat_neg _ _ (by omega), wd_eq]
      obtain ⟨d, hd⟩ : ∃ d : Nat, n.toNat = 64 * i + 64 + d := ⟨n.toNat - (64 * i + 64), by omega⟩
      have : a * 2 ^ n.toNat = 2 ^ (64 * i) * (18446744073709551616 * (a * 2 ^ d)) := by
        rw [hd, Nat.pow_add, Nat.pow_add, show (18446744073709551616 : Nat) = 2 ^ 64 from rfl, Nat.mul_comm a, Nat.mul_assoc, Nat.mul_assoc, Nat.mul_comm a]
      rw [this, Nat.mul_div_cancel_left _ (Nat.two_pow_pos _), Nat.mul_mod_right]
      simp
    · obtain ⟨k, hk⟩ := Int.eq_ofNat_of_zero_le (a := (i : Int) - ws) (by omega)
      rw [hk, key a ha k, wd_eq]
      by_cases h3 : k = 0
      · rw [if_pos h3, show n.toNat = 64 * i + p by omega, Nat.pow_add, Nat.mul_comm (2 ^ (64 * i)), ← Nat.mul_assoc, Nat.mul_div_cancel _ (Nat.two_pow_pos _)]
      · rw [if_neg h3, show 64 * i = (64 * k - p) + n.toNat by omega, Nat.pow_add, Nat.mul_comm (2 ^ (64 * k - p)), ← Nat.div_div_eq_div_mul, Nat.mul_div_cancel _ (Nat.two_pow_pos _)]
  · rw [shf, if_neg (by omega), if_neg h0, wd_eq]
    obtain ⟨k, hk⟩ := Int.eq_ofNat_of_zero_le (a := (i : Int) - ws) (by omega)
    rw [hk, key a ha k, if_neg (by omega), Nat.div_div_eq_div_mul, ← Nat.pow_add, show (-n).toNat + 64 * i = 64 * k - p by omega]
end Go.Ab
