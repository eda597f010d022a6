/-
  Texts laid together: Ar, Nm, Nm2, Nm3, Nm4, Nm5, Nm6, Nm7, Nm8, Nm9, Mt, Nq.
  Texts laid together: Vc, L0.
  DERIVED: THE SHELF's CONTRACTS AT THIS DUMP, IN PLAIN WORDS (tools/lay-plain.mjs out of 'YtdmcknmjdlghgaaGreatDoorSh0.lean', which tools/lay-shelf.mjs wrote): THE SAME DECLARATIONS UNDER THE SAME NAMES: 'import', 'namespace', 'open', 'def', 'theorem' AND NOTHING ELSE: no command of the shelf's: FOR A HAND-IN. Each laying: the table of numbers ('.._ren') and one theorem, a field a fact of the dump's own or the kernel's comparison; each contract: ONE APPLICATION.
-/
import Derived.Laws.BitsAllLaws
import Derived.Laws.Bits128
import Derived.Lib.BitFns
import Derived.Test.YtdmcknmjdlghgaaGreatDoorProg
import Derived.Shelf.Bits.Mul64
import Derived.Shelf.Strconv.Itoa0
import Derived.Test.YtdmcknmjdlghgaaGreatDoorV01
import Derived.Test.YtdmcknmjdlghgaaGreatDoorV02
/-
  Arrays of numbers, as cells.
-/
namespace Go.Ab
open Go Go.RowKit
set_option linter.unusedSimpArgs false
set_option linter.unusedVariables false
def arr (n : Nat) (f : Nat → Nat) : List SV := (List.range n).map fun i => .v (.int .u64 (f i : Int))
def iarr (n : Nat) (f : Nat → Int) : List SV := (List.range n).map fun i => .v (.int .i64 (f i))
section
variable {n i : Nat} {f g : Nat → Nat} {p q : Nat → Int}
theorem arr_length : (arr n f).length = n := by simp [arr]
theorem iarr_length : (iarr n p).length = n := by simp [iarr]
theorem arr_get (h : i < n) : (arr n f)[i]? = some (.v (.int .u64 (f i : Int))) := by simp [arr, h]
theorem iarr_get (h : i < n) : (iarr n p)[i]? = some (.v (.int .i64 (p i))) := by simp [iarr, h]
theorem arr_congr (h : ∀ i, i < n → f i = g i) : arr n f = arr n g := by
  unfold arr
  exact List.map_congr_left fun i hi => by rw [h i (List.mem_range.1 hi)]
theorem iarr_congr (h : ∀ i, i < n → p i = q i) : iarr n p = iarr n q := by
  unfold iarr
  exact List.map_congr_left fun i hi => by rw [h i (List.mem_range.1 hi)]
theorem arr_set (x : Nat) : (arr n f).set i (.v (.int .u64 (x : Int))) = arr n (fun j => if j = i then x else f j) := by
  apply List.ext_getElem?
  intro k
  rw [List.getElem?_set]
  simp only [arr_length]
  by_cases h : i = k
  · subst h
    by_cases h2 : i < n
    · simp [h2, arr_get h2, arr]
    · simp [h2, arr]
  · simp only [h, if_false]
    by_cases h2 : k < n
    · rw [arr_get h2, arr_get h2, if_neg (Ne.symm h)]
    · simp [arr, h2]
theorem iarr_set (x : Int) : (iarr n p).set i (.v (.int .i64 x)) = iarr n (fun j => if j = i then x else p j) := by
  apply List.ext_getElem?
  intro k
  rw [List.getElem?_set]
  simp only [iarr_length]
  by_cases h : i = k
  · subst h
    by_cases h2 : i < n
    · simp [h2, iarr_get h2, iarr]
    · simp [h2, iarr]
  · simp only [h, if_false]
    by_cases h2 : k < n
    · rw [iarr_get h2, iarr_get h2, if_neg (Ne.symm h)]
    · simp [iarr, h2]
theorem arr_one : oneAll (arr n f) = True := by
  simp only [oneAll, eq_iff_iff, iff_true]
  intro c hc
  simp only [arr, List.mem_map] at hc
  obtain ⟨i, _, rfl⟩ := hc
  rfl
theorem iarr_one : oneAll (iarr n p) = True := by
  simp only [oneAll, eq_iff_iff, iff_true]
  intro c hc
  simp only [iarr, List.mem_map] at hc
  obtain ⟨i, _, rfl⟩ := hc
  rfl
theorem arr_ok (m : Nat) : ∀ x ∈ arr n f, x.ok m := by
  intro x hx
  simp only [arr, List.mem_map] at hx
  obtain ⟨i, _, rfl⟩ := hx
  trivial
theorem iarr_ok (m : Nat) : ∀ x ∈ iarr n p, x.ok m := by
  intro x hx
  simp only [iarr, List.mem_map] at hx
  obtain ⟨i, _, rfl⟩ := hx
  trivial
theorem arr_inj (h : arr n f = arr n g) (i : Nat) (hi : i < n) : f i = g i := by
  have h1 := congrArg (·[i]?) h
  simp only [arr_get hi, Option.some.injEq, SV.v.injEq, Value.int.injEq, true_and] at h1
  omega
end
section
variable {n m : Nat} {f : Nat → Nat} {p : Nat → Int} {l : List SV} {x : SV} {v : Value} {la : List AV}
theorem arr_okk : (∀ x ∈ arr n f, x.ok m) = True := eq_true (arr_ok m)
theorem iarr_okk : (∀ x ∈ iarr n p, x.ok m) = True := eq_true (iarr_ok m)
theorem oks_s : (TV.s x).ok m = x.ok m := rfl
theorem oks_agg : (TV.agg l).ok m = ∀ x ∈ l, x.ok m := rfl
theorem oks_tup : (TV.tup la).ok m = ∀ x ∈ la, x.ok m := rfl
theorem oka_s : (AV.s x).ok m = x.ok m := rfl
theorem oka_agg : (AV.agg l).ok m = ∀ x ∈ l, x.ok m := rfl
theorem okv_p {j o : Nat} : (SV.p j o).ok m = (j < m) := rfl
theorem okv_sl {j o a b : Nat} : (SV.sl j o a b).ok m = (j < m) := rfl
theorem okv_v : (SV.v v).ok m = True := rfl
end
theorem tlt_true {a b : Int} (h : a < b) : (a < b) = True := eq_true h
theorem tle_true {a b : Int} (h : a ≤ b) : (a ≤ b) = True := eq_true h
theorem nlt_true {a b : Nat} (h : a < b) : (a < b) = True := eq_true h
theorem nle_true {a b : Nat} (h : a ≤ b) : (a ≤ b) = True := eq_true h
theorem nlt_false {a b : Nat} (h : b ≤ a) : (a < b) = False := eq_false (Nat.not_lt.2 h)
theorem nle_false {a b : Nat} (h : b < a) : (a ≤ b) = False := eq_false (Nat.not_le.2 h)
theorem tlt_false {a b : Int} (h : b ≤ a) : (a < b) = False := eq_false (Int.not_lt.2 h)
theorem tle_false {a b : Int} (h : b < a) : (a ≤ b) = False := eq_false (Int.not_le.2 h)
def wd (n i : Nat) : Nat := n / 2 ^ (64 * i) % 2 ^ 64
theorem wd_lt (n i : Nat) : wd n i < 18446744073709551616 := Nat.mod_lt _ (by decide)
def nat4 (n : Nat) : List SV := arr 4 (wd n)
def nat8 (n : Nat) : List SV := arr 8 (wd n)
theorem nat4_okk {m n : Nat} : (∀ x ∈ nat4 n, x.ok m) = True := arr_okk
theorem nat8_okk {m n : Nat} : (∀ x ∈ nat8 n, x.ok m) = True := arr_okk
theorem nat4_length {n : Nat} : (nat4 n).length = 4 := arr_length
theorem nat8_length {n : Nat} : (nat8 n).length = 8 := arr_length
theorem nat4_one {n : Nat} : oneAll (nat4 n) = True := arr_one
theorem nat8_one {n : Nat} : oneAll (nat8 n) = True := arr_one
theorem nat4_get {n i : Nat} (h : i < 4) : (nat4 n)[i]? = some (.v (.int .u64 (wd n i : Int))) := arr_get h
theorem nat8_get {n i : Nat} (h : i < 8) : (nat8 n)[i]? = some (.v (.int .u64 (wd n i : Int))) := arr_get h
theorem nat4_set {n i : Nat} (x : Nat) : (nat4 n).set i (.v (.int .u64 (x : Int))) = arr 4 (fun j => if j = i then x else wd n j) := arr_set x
theorem nat8_set {n i : Nat} (x : Nat) : (nat8 n).set i (.v (.int .u64 (x : Int))) = arr 8 (fun j => if j = i then x else wd n j) := arr_set x
theorem shape_of {ι : Type} {V : ι → Prop} {n : Nat} {sv : ι → List (Nat × TV)} {hv : ι → List (Nat × List SV)} (h : ∀ i, ((sv i).map (·.1)).Nodup ∧ (∀ p ∈ sv i, p.2.ok n) ∧ ∀ p ∈ hv i, ∀ x ∈ p.2, x.ok n) : Shape V n sv hv :=
  ⟨fun i _ => (h i).1, fun i _ => (h i).2.1, fun i _ => (h i).2.2⟩
end Go.Ab
/-
  Numbers: rules that keep what the walk finds natural; words of numbers.
-/
namespace Go.Ab
open Go
set_option linter.unusedSimpArgs false
set_option linter.unusedVariables false
/-! Tryz# Rules -/
theorem addL (a n : Nat) : (a : Int) + (no_index (OfNat.ofNat n : Int)) = ((a + OfNat.ofNat n : Nat) : Int) := rfl
theorem mulL (a n : Nat) : (a : Int) * (no_index (OfNat.ofNat n : Int)) = ((a * OfNat.ofNat n : Nat) : Int) := rfl
theorem mulL' (a n : Nat) : (no_index (OfNat.ofNat n : Int)) * (a : Int) = ((OfNat.ofNat n * a : Nat) : Int) := rfl
theorem divL (a n : Nat) : (a : Int) / (no_index (OfNat.ofNat n : Int)) = ((a / OfNat.ofNat n : Nat) : Int) := rfl
theorem modL (a n : Nat) : (a : Int) % (no_index (OfNat.ofNat n : Int)) = ((a % OfNat.ofNat n : Nat) : Int) := rfl
theorem subL (a n : Nat) (h : OfNat.ofNat n ≤ a) : (a : Int) - (no_index (OfNat.ofNat n : Int)) = ((a - OfNat.ofNat n : Nat) : Int) := (Int.ofNat_sub h).symm
theorem subL' (a n : Nat) (h : a ≤ OfNat.ofNat n) : (no_index (OfNat.ofNat n : Int)) - (a : Int) = ((OfNat.ofNat n - a : Nat) : Int) := (Int.ofNat_sub h).symm
theorem addN (a b : Nat) : (a : Int) + (b : Int) = ((a + b : Nat) : Int) := rfl
theorem mulN (a b : Nat) : (a : Int) * (b : Int) = ((a * b : Nat) : Int) := rfl
theorem subN (a b : Nat) (h : b ≤ a) : (a : Int) - (b : Int) = ((a - b : Nat) : Int) := (Int.ofNat_sub h).symm
theorem divN (a b : Nat) : (a : Int) / (b : Int) = ((a / b : Nat) : Int) := rfl
theorem modN (a b : Nat) : (a : Int) % (b : Int) = ((a % b : Nat) : Int) := rfl
theorem fdivL (a n : Nat) : Int.fdiv (a : Int) (no_index (OfNat.ofNat n : Int)) = ((a / OfNat.ofNat n : Nat) : Int) := Int.fdiv_eq_ediv_of_nonneg _ (Int.natCast_nonneg (OfNat.ofNat n))
theorem divP (a n : Nat) : (a : Int) / 2 ^ n = ((a / 2 ^ n : Nat) : Int) := by
  rw [show ((2 : Int) ^ n) = ((2 ^ n : Nat) : Int) by push_cast; rfl]; rfl
theorem mulP (a n : Nat) : (a : Int) * 2 ^ n = ((a * 2 ^ n : Nat) : Int) := by
  rw [show ((2 : Int) ^ n) = ((2 ^ n : Nat) : Int) by push_cast; rfl]; rfl
theorem w64 (a : Nat) (h : a < 18446744073709551616) : IntKind.u64.wrap (a : Int) = (a : Int) := by rw [IntKind.wrap_u64]; omega
theorem w64m (a : Nat) : IntKind.u64.wrap (a : Int) = ((a % 18446744073709551616 : Nat) : Int) := by rw [IntKind.wrap_u64]; rfl
theorem wi64 (a : Nat) (h : a < 9223372036854775808) : IntKind.i64.wrap (a : Int) = (a : Int) := by rw [IntKind.wrap_i64]; omega
theorem minL (a b : Nat) (h : a ≤ b) : min a b = a := Nat.min_eq_left h
theorem minR (a b : Nat) (h : b ≤ a) : min a b = b := Nat.min_eq_right h
theorem andOne (a : Nat) (h : a < 18446744073709551616) : bits .and .u64 (a : Int) 1 = ((a % 2 : Nat) : Int) := by
  have := bits_and_u64_nat a 1 h (by decide)
  rw [nat_mask1] at this
  exact this
theorem and255 (a : Nat) (h : a < 18446744073709551616) : bits .and .u64 (a : Int) 255 = ((a % 256 : Nat) : Int) := by
  have := bits_and_u64_nat a 255 h (by decide)
  rw [show (255 : Nat) = 2 ^ 8 - 1 from rfl, Nat.and_two_pow_sub_one_eq_mod] at this
  exact this
theorem orN (a b : Nat) (ha : a < 18446744073709551616) (hb : b < 18446744073709551616) : bits .or .u64 (a : Int) (b : Int) = ((a ||| b : Nat) : Int) := bits_or_u64_nat a b ha hb
theorem and63 (n : Int) : bits .and .i64 n 63 = n % 64 := by
  have h127 : (BitVec.ofInt 64 63).toNat = 2 ^ 6 - 1 := by decide
  have key : (BitVec.ofInt 64 n &&& BitVec.ofInt 64 63).toNat = (n % ((2 ^ 64 : Nat) : Int)).toNat % 2 ^ 6 := by
    rw [BitVec.toNat_and, BitVec.toNat_ofInt, h127, Nat.and_two_pow_sub_one_eq_mod]
  show IntKind.i64.wrap ((BitVec.ofInt 64 n &&& BitVec.ofInt 64 63).toNat : Nat) = n % 64
  rw [key, IntKind.wrap_i64]
  omega
theorem neI (a b : Nat) : ((a : Int) != (b : Int)) = (a != b) := by
  rw [Bool.eq_iff_iff, bne_iff_ne, bne_iff_ne]
  omega
theorem eqI (a b : Nat) : ((a : Int) == (b : Int)) = (a == b) := by
  rw [Bool.eq_iff_iff, beq_iff_eq, beq_iff_eq]
  omega
theorem upd_word {f : Nat → Nat} {k v i : Nat} (h : v = f k) : (if i = k then v else if i < k then f i else 0) = if i < k + 1 then f i else 0 := by
  by_cases h1 : i = k
  · subst h1; simp [h]
  · by_cases h2 : i < k
    · simp [h1, h2, show i < k + 1 by omega]
    · simp [h1, h2, show ¬ i < k + 1 by omega]
theorem castL (n : Nat) : ((no_index (OfNat.ofNat n : Nat) : Nat) : Int) = OfNat.ofNat n := rfl
theorem neL (a n : Nat) : ((a : Int) != (no_index (OfNat.ofNat n : Int))) = (a != OfNat.ofNat n) := neI a (OfNat.ofNat n)
theorem eqL (a n : Nat) : ((a : Int) == (no_index (OfNat.ofNat n : Int))) = (a == OfNat.ofNat n) := eqI a (OfNat.ofNat n)
/-! Tryz# Words -/
theorem wd_eq (a k : Nat) : wd a k = a / 2 ^ (64 * k) % 18446744073709551616 := rfl
theorem P_succ (k : Nat) : 2 ^ (64 * (k + 1)) = 2 ^ (64 * k) * 18446744073709551616 := by rw [Nat.mul_add, Nat.mul_one, Nat.pow_add]
theorem dv_step (a k : Nat) : a / 2 ^ (64 * k) = 18446744073709551616 * (a / 2 ^ (64 * (k + 1))) + wd a k := by
  rw [P_succ, ← Nat.div_div_eq_div_mul, wd_eq]
  omega
theorem wd_split (a k : Nat) : a % 2 ^ (64 * (k + 1)) = a % 2 ^ (64 * k) + 2 ^ (64 * k) * wd a k := by
  rw [Nat.mul_add, Nat.mul_one, Nat.pow_add, Nat.mod_mul]
  rfl
def cy (a b k : Nat) : Nat := (a % 2 ^ (64 * k) + b % 2 ^ (64 * k)) / 2 ^ (64 * k)
theorem cy_zero (a b : Nat) : cy a b 0 = 0 := by simp [cy, Nat.mod_one]
theorem cy_le (a b k : Nat) : cy a b k ≤ 1 := by
  unfold cy
  have h := Nat.two_pow_pos (64 * k)
  have h1 := Nat.mod_lt a h
  have h2 := Nat.mod_lt b h
  have : (a % 2 ^ (64 * k) + b % 2 ^ (64 * k)) / 2 ^ (64 * k) < 2 := (Nat.div_lt_iff_lt_mul h).2 (by omega)
  omega
theorem cy_add (a b k : Nat) : (wd a k + wd b k + cy a b k) = wd (a + b) k + 18446744073709551616 * cy a b (k + 1) := by
  have h := Nat.two_pow_pos (64 * k)
  have e1 := wd_split a k
  have e2 := wd_split b k
  unfold cy
  rw [e1, e2]
  generalize hM : 2 ^ (64 * k) = M at *
  have hM2 : 2 ^ (64 * (k + 1)) = M * 18446744073709551616 := by rw [Nat.mul_add, Nat.mul_one, Nat.pow_add, hM]
  rw [hM2]
  have hab : wd (a + b) k = (wd a k + wd b k + (a % M + b % M) / M) % 18446744073709551616 := by
    simp only [wd, hM]
    have h1 := Nat.div_add_mod a M
    have h2 := Nat.div_add_mod b M
    have h3 : a + b = (a % M + b % M) + M * (a / M + b / M) := by rw [Nat.mul_add]; omega
    rw [h3, Nat.add_mul_div_left _ _ h]
    omega
  have h5 : (a % M + M * wd a k + (b % M + M * wd b k)) / (M * 18446744073709551616) = (wd a k + wd b k + (a % M + b % M) / M) / 18446744073709551616 := by
    rw [← Nat.div_div_eq_div_mul, show a % M + M * wd a k + (b % M + M * wd b k) = (a % M + b % M) + M * (wd a k + wd b k) by rw [Nat.mul_add]; omega, Nat.add_mul_div_left _ _ h, Nat.add_comm]
  rw [h5, hab]
  omega
theorem cy_four (a b : Nat) (ha : a < 2 ^ 256) (hb : b < 2 ^ 256) : cy a b 4 = (a + b) / 2 ^ 256 := by
  unfold cy
  rw [show 64 * 4 = 256 from rfl, Nat.mod_eq_of_lt ha, Nat.mod_eq_of_lt hb]
theorem wd_four_add (a c k : Nat) (hk : k < 4) : wd (a + 2 ^ 256 * c) k = wd a k := by
  have e : 2 ^ 256 = 2 ^ (64 * k) * (18446744073709551616 * 2 ^ (64 * (3 - k))) := by
    rw [show (18446744073709551616 : Nat) = 2 ^ 64 from rfl, ← Nat.pow_add, ← Nat.pow_add]
    congr 1; omega
  rw [wd_eq, wd_eq, e, Nat.mul_assoc, Nat.add_mul_div_left _ _ (Nat.two_pow_pos _), Nat.mul_assoc, Nat.add_mul_mod_self_left]
theorem wd_mod (a k : Nat) (hk : k < 4) : wd (a % 2 ^ 256) k = wd a k := by
  rw [← wd_four_add (a % 2 ^ 256) (a / 2 ^ 256) k hk, Nat.mod_add_div]
theorem wd_zero (k : Nat) : wd 0 k = 0 := by simp [wd]
theorem wd_big (a k : Nat) (h : a < 2 ^ (64 * k)) : wd a k = 0 := by
  rw [wd_eq, Nat.div_eq_of_lt h]
theorem wd_small (a : Nat) (h : a < 18446744073709551616) : wd a 0 = a := by
  rw [wd_eq]; simp; omega
theorem wd_inj4 (a b : Nat) (ha : a < 2 ^ 256) (hb : b < 2 ^ 256) (h : ∀ k, k < 4 → wd a k = wd b k) : a = b := by
  have h0 := h 0 (by decide); have h1 := h 1 (by decide); have h2 := h 2 (by decide); have h3 := h 3 (by decide)
  simp only [wd, Nat.reduceMul, Nat.reducePow, Nat.pow_zero, Nat.div_one] at *
  omega
theorem nat4_inj (a b : Nat) (ha : a < 2 ^ 256) (hb : b < 2 ^ 256) : nat4 a = nat4 b ↔ a = b :=
  ⟨fun h => wd_inj4 a b ha hb fun k hk => arr_inj h k hk, fun h => by rw [h]⟩
theorem nat4_mod (a : Nat) : nat4 (a % 2 ^ 256) = nat4 a := arr_congr fun k hk => wd_mod a k hk
theorem mod_div_pow (q n j : Nat) (h : j ≤ n) : q % 2 ^ n / 2 ^ j = q / 2 ^ j % 2 ^ (n - j) := by
  rw [show 2 ^ n = 2 ^ j * 2 ^ (n - j) by rw [← Nat.pow_add]; congr 1; omega, Nat.mod_mul_right_div_self]
theorem mod_pow_two (x n : Nat) (h : 0 < n) : x % 2 ^ n % 2 = x % 2 := Nat.mod_mod_of_dvd x (Nat.dvd_trans ⟨1, rfl⟩ (Nat.pow_dvd_pow 2 (show 1 ≤ n from h)))
theorem wd_bit (a i : Nat) : wd a (i / 64) / 2 ^ (i % 64) % 2 = a / 2 ^ i % 2 := by
  rw [wd, mod_div_pow _ 64 _ (by omega), mod_pow_two _ _ (by omega), Nat.div_div_eq_div_mul, ← Nat.pow_add, Nat.div_add_mod]
theorem pow_64 (p : Nat) (hp : p < 64) : 2 ^ (64 - p) = 2 * 2 ^ (63 - p) := by
  obtain ⟨d, hd⟩ : ∃ d, 63 - p = d := ⟨_, rfl⟩
  rw [hd, show 64 - p = d + 1 by omega, Nat.pow_succ, Nat.mul_comm]
def sg (a b : Nat) : Int := if a < b then -1 else if b < a then 1 else 0
theorem sg_lt {a b k : Nat} (h : a / 2 ^ (64 * (k + 1)) = b / 2 ^ (64 * (k + 1))) (h2 : wd a k < wd b k) : sg a b = -1 := by
  have h3 : a / 2 ^ (64 * k) < b / 2 ^ (64 * k) := by rw [dv_step a k, dv_step b k]; omega
  have : a < b := Nat.lt_of_not_le fun hh => absurd (Nat.div_le_div_right (c := 2 ^ (64 * k)) hh) (by omega)
  simp [sg, this]
theorem sg_gt {a b k : Nat} (h : a / 2 ^ (64 * (k + 1)) = b / 2 ^ (64 * (k + 1))) (h2 : wd b k < wd a k) : sg a b = 1 := by
  have h3 : b / 2 ^ (64 * k) < a / 2 ^ (64 * k) := by rw [dv_step a k, dv_step b k]; omega
  have : b < a := Nat.lt_of_not_le fun hh => absurd (Nat.div_le_div_right (c := 2 ^ (64 * k)) hh) (by omega)
  simp [sg, this, show ¬ a < b by omega]
theorem sg_neg {a b : Nat} (h : a < b) : sg a b = -1 := by simp [sg, h]
theorem sg_pos {a b : Nat} (h : b < a) : sg a b = 1 := by simp [sg, h, show ¬ a < b by omega]
theorem sg_same {a : Nat} : sg a a = 0 := by simp [sg]
theorem sg_nonneg {a b : Nat} (h : b ≤ a) : 0 ≤ sg a b := by
  rcases Nat.lt_or_eq_of_le h with h | h
  · rw [sg_pos h]; decide
  · subst h; rw [sg_same]; decide
theorem sg_lt0 {a b : Nat} (h : a < b) : sg a b < 0 := by rw [sg_neg h]; decide
/-! Tryz# Arrays against each other -/
def lits (n : Nat) (f : Nat → Nat) : List Lit := (List.range n).map fun i => .int .u64 (f i : Int)
theorem litsEq_lits {n : Nat} {f g : Nat → Nat} : litsEq (lits n f) (lits n g) = decide (∀ i, i < n → f i = g i) := by
  rw [Bool.eq_iff_iff, litsEq_iff, decide_eq_true_iff]
  simp only [lits]
  rw [List.map_inj_left]
  simp only [List.mem_range, Lit.int.injEq, true_and]
  exact ⟨fun h i hi => by have := h i hi; omega, fun h i hi => by rw [h i hi]⟩
theorem litsEq_nat4 {a b : Nat} (ha : a < 2 ^ 256) (hb : b < 2 ^ 256) : litsEq (lits 4 (wd a)) (lits 4 (wd b)) = decide (a = b) := by
  rw [litsEq_lits, Bool.eq_iff_iff, decide_eq_true_iff, decide_eq_true_iff]
  exact ⟨fun h => wd_inj4 a b ha hb h, fun h => by intros; rw [h]⟩
theorem valsOf_map {α : Type} (g : α → Value) : ∀ l : List α, valsOf (l.map fun i => SV.v (g i)) = some (l.map g)
  | [] => rfl
  | a :: l => by simp [valsOf, valsOf_map g l]
theorem mapM_all {α β : Type} (g : α → Option β) (h : α → β) : ∀ l : List α, (∀ a ∈ l, g a = some (h a)) → l.mapM g = some (l.map h)
  | [], _ => by simp
  | a :: l, hh => by
    rw [List.mapM_cons, hh a (by simp), mapM_all g h l (fun b hb => hh b (by simp [hb]))]
    rfl
theorem flat_map {α β : Type} (g : α → β) (l : List α) : (l.map fun i => [g i]).flatten = l.map g := by
  induction l with
  | nil => rfl
  | cons a l ih => simp [ih]
theorem litsA_row {P : Program} {t n e : Nat} {k : IntKind} {g : Nat → Int} (hu : P.underlying t = some (.array n e)) (he : P.underlying e = some (.int k)) (hc : P.cellsOf t = n) (hce : P.cellsOf e = 1)
    (hg : ∀ i, i < n → (Lit.int k (g i)).wf = true) : litsA P t (some ((List.range n).map fun i => SV.v (.int k (g i)))) = some ((List.range n).map fun i => .int k (g i)) := by
  unfold litsA
  rw [Option.bind_some, valsOf_map, Option.bind_some]
  show P.keyLits (8 + 1) t _ = _
  unfold Program.keyLits
  rw [hu]
  simp only [List.length_map, List.length_range, hc, if_true]
  rw [mapM_all _ (fun i => [Lit.int k (g i)])]
  · simp only [Option.map_some, flat_map]
  · intro i hi
    rw [List.mem_range] at hi
    have : ((List.map (fun i => Value.int k (g i)) (List.range n)).drop (i * P.cellsOf e)).take (P.cellsOf e) = [.int k (g i)] := by
      rw [hce, Nat.mul_one]
      apply List.ext_getElem?
      intro j
      rcases j with _ | j
      · simp [hi]
      · simp; omega
    rw [this]
    show P.keyLits (7 + 1) e _ = _
    unfold Program.keyLits
    rw [he]
    simp only [hg i hi, and_self, if_true]
theorem wf_u64 (n : Nat) (h : n < 18446744073709551616) : (Lit.int .u64 (n : Int)).wf = true := by
  have h1 : IntKind.u64.min = 0 := rfl
  have h2 : IntKind.u64.max = 18446744073709551615 := rfl
  simp only [Lit.wf, h1, h2, Bool.and_eq_true, decide_eq_true_iff]
  omega
theorem litsA_arr {P : Program} {t n e : Nat} {f : Nat → Nat} (hu : P.underlying t = some (.array n e)) (he : P.underlying e = some (.int .u64)) (hc : P.cellsOf t = n) (hce : P.cellsOf e = 1)
    (hf : ∀ i, i < n → f i < 18446744073709551616) : litsA P t (some (arr n f)) = some (lits n f) := litsA_row hu he hc hce fun i hi => wf_u64 _ (hf i hi)
theorem arr4_zero : arr 4 (fun _ => 0) = nat4 0 := arr_congr fun i _ => (wd_zero i).symm
theorem nat4_small {a : Nat} (ha : a < 18446744073709551616) : arr 4 (fun j => if j = 0 then a else 0) = nat4 a := by
  refine arr_congr fun i hi => ?_
  by_cases h : i = 0
  · subst h; simp [wd_small a ha]
  · simp only [h, if_false]
    rw [wd_big]
    exact Nat.lt_of_lt_of_le ha (Nat.pow_le_pow_right (n := 2) (i := 64) (by decide) (by omega))
theorem arr_setL {n i : Nat} {f : Nat → Nat} (x : Nat) : (arr n f).set i (.v (.int .u64 (no_index (OfNat.ofNat x : Int)))) = arr n (fun j => if j = i then OfNat.ofNat x else f j) := arr_set x
/-! Tryz# Bit by bit -/
theorem or_bit (q w i j : Nat) (hq : q % 2 ^ (i + 1) = 0) (hw : w ≤ 1) (hi : i / 64 = j) : wd q j ||| (w * 2 ^ (i % 64) % 18446744073709551616) = wd (q + w * 2 ^ i) j := by
  have hs : w * 2 ^ (i % 64) < 18446744073709551616 := by
    have h1 : 2 ^ (i % 64) ≤ 2 ^ 63 := Nat.pow_le_pow_right (by decide) (by omega)
    have : w * 2 ^ (i % 64) ≤ 1 * 2 ^ 63 := Nat.mul_le_mul hw h1
    omega
  rw [Nat.mod_eq_of_lt hs]
  obtain ⟨t, rfl⟩ := Nat.dvd_of_mod_eq_zero hq
  have hi2 : i = 64 * j + i % 64 := by rw [← hi, Nat.div_add_mod]
  have e1 : 2 ^ (i + 1) * t = 2 ^ (64 * j) * (2 ^ (i % 64) * (2 * t)) := by
    conv => lhs; rw [hi2, Nat.pow_succ, Nat.pow_add]
    simp only [Nat.mul_assoc]
  have e2 : w * 2 ^ i = 2 ^ (64 * j) * (2 ^ (i % 64) * w) := by
    conv => lhs; rw [hi2, Nat.pow_add]
    rw [Nat.mul_comm w, Nat.mul_assoc]
  rw [e1, e2, ← Nat.mul_add, wd_eq, wd_eq, Nat.mul_div_cancel_left _ (Nat.two_pow_pos _), Nat.mul_div_cancel_left _ (Nat.two_pow_pos _), ← Nat.mul_add]
  have e3 : (18446744073709551616 : Nat) = 2 ^ (i % 64) * 2 ^ (64 - i % 64) := by
    rw [← Nat.pow_add, show i % 64 + (64 - i % 64) = 64 by omega]
  have e4 : 2 ^ (64 - i % 64) = 2 * 2 ^ (63 - i % 64) := pow_64 _ (by omega)
  rw [e3, Nat.mul_mod_mul_left, Nat.mul_mod_mul_left, Nat.mul_comm w]
  have e5 : (2 * t + w) % 2 ^ (64 - i % 64) = 2 * t % 2 ^ (64 - i % 64) + w := by
    rw [e4, Nat.mul_mod_mul_left, Nat.mod_mul, show (2 * t + w) / 2 = t by omega]
    omega
  rw [e5, Nat.mul_add]
  refine nat_join (i % 64 + 1) _ _ ?_ ?_
  · rw [e4, Nat.mul_mod_mul_left, ← Nat.mul_assoc, ← Nat.pow_succ, Nat.mul_mod_right]
  · rw [Nat.pow_succ]
    exact Nat.mul_lt_mul_of_le_of_lt (Nat.le_refl _) (by omega) (Nat.two_pow_pos _)
theorem wd_above (q x i j : Nat) (hq : q % 2 ^ (i + 1) = 0) (hx : x ≤ 1) (hj : i / 64 ≠ j) : wd (q + x * 2 ^ i) j = wd q j := by
  obtain ⟨t, rfl⟩ := Nat.dvd_of_mod_eq_zero hq
  have hlt : x * 2 ^ i < 2 ^ (i + 1) := by
    rw [Nat.pow_succ, Nat.mul_comm]
    exact Nat.mul_lt_mul_of_le_of_lt (Nat.le_refl _) (by omega) (Nat.two_pow_pos _)
  rcases Nat.lt_or_gt_of_ne hj with h | h
  · have e : 2 ^ (64 * j) = 2 ^ (i + 1) * 2 ^ (64 * j - (i + 1)) := by rw [← Nat.pow_add]; congr 1; omega
    rw [wd_eq, wd_eq, e, ← Nat.div_div_eq_div_mul, ← Nat.div_div_eq_div_mul, Nat.mul_add_div (Nat.two_pow_pos _), Nat.div_eq_of_lt hlt, Nat.add_zero, Nat.mul_div_cancel_left _ (Nat.two_pow_pos _)]
  · have e : 2 ^ i = 2 ^ (64 * j) * (18446744073709551616 * 2 ^ (i - 64 * (j + 1))) := by
      rw [show (18446744073709551616 : Nat) = 2 ^ 64 from rfl, ← Nat.pow_add, ← Nat.pow_add]; congr 1; omega
    rw [Nat.pow_succ, e, wd_eq, wd_eq]
    have e1 : 2 ^ (64 * j) * (18446744073709551616 * 2 ^ (i - 64 * (j + 1))) * 2 * t = 2 ^ (64 * j) * (18446744073709551616 * (2 ^ (i - 64 * (j + 1)) * 2 * t)) := by simp only [Nat.mul_assoc]
    have e2 : x * (2 ^ (64 * j) * (18446744073709551616 * 2 ^ (i - 64 * (j + 1)))) = 2 ^ (64 * j) * (18446744073709551616 * (2 ^ (i - 64 * (j + 1)) * x)) := by
      rw [Nat.mul_comm x]; simp only [Nat.mul_assoc]
    rw [e1, e2, ← Nat.mul_add, Nat.mul_div_cancel_left _ (Nat.two_pow_pos _), Nat.mul_div_cancel_left _ (Nat.two_pow_pos _), ← Nat.mul_add, Nat.mul_mod_right, Nat.mul_mod_right]
theorem div_bit (a m i v : Nat) (hm : 0 < m) (hv : v = 2 * (a / 2 ^ (i + 1) % m) + a / 2 ^ i % 2) :
    (a / 2 ^ i % m = if m ≤ v then v - m else v) ∧ a / 2 ^ i / m = 2 * (a / 2 ^ (i + 1) / m) + (if m ≤ v then 1 else 0) := by
  have e : a / 2 ^ i = 2 * (a / 2 ^ (i + 1)) + a / 2 ^ i % 2 := by
    rw [Nat.pow_succ, ← Nat.div_div_eq_div_mul]; omega
  have h1 := Nat.div_add_mod (a / 2 ^ (i + 1)) m
  have h2 := Nat.mod_lt (a / 2 ^ (i + 1)) hm
  have h3 : m * (2 * (a / 2 ^ (i + 1) / m)) = 2 * (m * (a / 2 ^ (i + 1) / m)) := by rw [Nat.mul_left_comm]
  have ev : a / 2 ^ i = m * (2 * (a / 2 ^ (i + 1) / m)) + v := by omega
  have hv : v < 2 * m := by omega
  rw [ev, Nat.mul_add_mod, Nat.mul_add_div hm]
  by_cases h : m ≤ v
  · rw [if_pos h, if_pos h, Nat.mod_eq_sub_mod h, Nat.mod_eq_of_lt (a := v - m) (by omega), Nat.div_eq_sub_div hm h, Nat.div_eq_of_lt (show v - m < m by omega)]
    exact ⟨rfl, rfl⟩
  · rw [if_neg h, if_neg h, Nat.mod_eq_of_lt (by omega), Nat.div_eq_of_lt (show v < m by omega)]
    exact ⟨rfl, rfl⟩
/-! Tryz# How many bits -/
def blen (a : Nat) : Nat := if a = 0 then 0 else a.log2 + 1
theorem blen_half (a : Nat) (h : a ≠ 0) : blen a = 1 + blen (a / 2) := by
  unfold blen
  rw [if_neg h, Nat.log2_def]
  by_cases h2 : a ≥ 2
  · rw [if_pos h2, if_neg (by omega)]; omega
  · rw [if_neg h2, if_pos (by omega)]
theorem blen_shift : ∀ (k a : Nat), a / 2 ^ k ≠ 0 → blen a = k + blen (a / 2 ^ k)
  | 0, a, _ => by simp
  | k + 1, a, h => by
    have ha : a ≠ 0 := by rintro rfl; simp at h
    have e : a / 2 ^ (k + 1) = a / 2 / 2 ^ k := by rw [Nat.pow_succ, Nat.mul_comm, Nat.div_div_eq_div_mul]
    rw [e] at h ⊢
    rw [blen_half a ha, blen_shift k (a / 2) h]
    omega
theorem lib_blen : ∀ (k x : Nat), x < 2 ^ k → k ≤ 64 → Lib.bitLen x = blen x
  | 0, x, h, _ => by have : x = 0 := by simpa using h
                     subst this; rfl
  | k + 1, x, h, hk => by
    by_cases h0 : x = 0
    · subst h0; rfl
    · have hp : 2 ^ (k + 1) ≤ 2 ^ 64 := Nat.pow_le_pow_right (by decide) hk
      rw [Lib.bitLen_half x h0 (by omega), blen_half x h0, lib_blen k (x / 2) (by rw [Nat.pow_succ] at h; omega) (by omega)]
theorem blen_word (a j : Nat) (ha : a < 2 ^ (64 * (j + 1))) (h : wd a j ≠ 0) : blen a = 64 * j + Lib.bitLen (wd a j) := by
  have e : a / 2 ^ (64 * j) = wd a j := by
    rw [wd_eq, Nat.mod_eq_of_lt]
    rw [P_succ] at ha
    exact Nat.div_lt_of_lt_mul (by omega)
  rw [lib_blen 64 _ (wd_lt a j) (by omega), blen_shift (64 * j) a (by rw [e]; exact h), e]
theorem lt_word (a j : Nat) (ha : a < 2 ^ (64 * (j + 1))) (h : wd a j = 0) : a < 2 ^ (64 * j) := by
  have h1 := dv_step a j
  rw [h, Nat.div_eq_of_lt ha] at h1
  rcases Nat.lt_or_ge a (2 ^ (64 * j)) with h2 | h2
  · exact h2
  · have := Nat.div_pos h2 (Nat.two_pow_pos _)
    omega
/-! Tryz# Moves -/
def shf (a : Nat) (n : Int) : Nat := if n ≤ -256 ∨ 256 ≤ n then 0 else if 0 ≤ n then a * 2 ^ n.toNat % 2 ^ 256 else a / 2 ^ (-n).toNat
def wat (a : Nat) (k : Int) : Nat := if k < 0 ∨ 4 ≤ k then 0 else wd a k.toNat
theorem wat_lt (a : Nat) (k : Int) : wat a k < 18446744073709551616 := by
  unfold wat; split
  · decide
  · exact wd_lt _ _
theorem wat_nat (a k : Nat) (ha : a < 2 ^ 256) : wat a (k : Int) = wd a k := by
  unfold wat
  by_cases h : 4 ≤ k
  · rw [if_pos (by omega), wd_big]
    exact Nat.lt_of_lt_of_le ha (Nat.pow_le_pow_right (n := 2) (i := 256) (by decide) (by omega))
  · rw [if_neg (by omega)]; rfl
theorem wat_neg (a : Nat) (k : Int) (h : k < 0) : wat a k = 0 := if_pos (.inl h)
theorem word_meet (q p : Nat) (hp : p < 64) : (q / 2 ^ 64 % 2 ^ 64 * 2 ^ p % 2 ^ 64) + q % 2 ^ 64 / 2 / 2 ^ (63 - p) = q / 2 ^ (64 - p) % 2 ^ 64 := by
  have e0 : q % 2 ^ 64 / 2 / 2 ^ (63 - p) = q % 2 ^ 64 / 2 ^ (64 - p) := by
    rw [Nat.div_div_eq_div_mul, ← pow_64 p hp]
  have e1 : 2 ^ 64 = 2 ^ (64 - p) * 2 ^ p := by rw [← Nat.pow_add]; congr 1; omega
  have hA := Nat.two_pow_pos (64 - p)
  have hB := Nat.two_pow_pos p
  rw [e0]
  generalize hQ : q / 2 ^ 64 = Q
  have hq : q = 2 ^ 64 * Q + q % 2 ^ 64 := by rw [← hQ]; exact (Nat.div_add_mod q _).symm
  have hr : q % 2 ^ 64 < 2 ^ 64 := Nat.mod_lt _ (by decide)
  generalize q % 2 ^ 64 = r at hq hr
  have e2 : q / 2 ^ (64 - p) = 2 ^ p * Q + r / 2 ^ (64 - p) := by
    rw [hq, e1, Nat.mul_assoc, Nat.mul_add_div hA]
  have h3 : r / 2 ^ (64 - p) < 2 ^ p := (Nat.div_lt_iff_lt_mul hA).2 (by rw [Nat.mul_comm]; omega)
  rw [e2]
  have e4 : Q % 2 ^ 64 * 2 ^ p % 2 ^ 64 = 2 ^ p * (Q % 2 ^ (64 - p)) := by
    rw [Nat.mul_comm, Nat.mul_mod, Nat.mod_mod, ← Nat.mul_mod]
    conv => lhs; rw [e1, Nat.mul_comm (2 ^ (64 - p)), Nat.mul_mod_mul_left]
  have e5 : (2 ^ p * Q + r / 2 ^ (64 - p)) % 2 ^ 64 = 2 ^ p * (Q % 2 ^ (64 - p)) + r / 2 ^ (64 - p) := by
    have hs : Q = 2 ^ (64 - p) * (Q / 2 ^ (64 - p)) + Q % 2 ^ (64 - p) := (Nat.div_add_mod _ _).symm
    have hl : Q % 2 ^ (64 - p) < 2 ^ (64 - p) := Nat.mod_lt _ hA
    generalize Q % 2 ^ (64 - p) = u at hs hl ⊢
    generalize Q / 2 ^ (64 - p) = v at hs
    have : 2 ^ p * Q + r / 2 ^ (64 - p) = (2 ^ p * u + r / 2 ^ (64 - p)) + 2 ^ 64 * v := by
      rw [hs, Nat.mul_add, e1, ← Nat.mul_assoc, Nat.mul_comm (2 ^ p) (2 ^ (64 - p))]; omega
    rw [this, Nat.add_mul_mod_self_left, Nat.mod_eq_of_lt]
    have : 2 ^ p * u + 2 ^ p ≤ 2 ^ p * 2 ^ (64 - p) := by rw [← Nat.mul_succ]; exact Nat.mul_le_mul_left _ hl
    rw [e1, Nat.mul_comm (2 ^ (64 - p))]
    omega
  rw [e4, e5]
theorem shl_mod (x p : Nat) (hp : p < 64) : x * 2 ^ p % 2 ^ 64 % 2 ^ p = 0 := by
  rw [Nat.mod_mod_of_dvd _ (Nat.pow_dvd_pow 2 (by omega)), Nat.mul_mod_left]
theorem or_meet (x y p : Nat) (hp : p < 64) (hy : y < 18446744073709551616) : (x * 2 ^ p % 18446744073709551616) ||| (y / 2 / 2 ^ (63 - p)) = x * 2 ^ p % 18446744073709551616 + y / 2 / 2 ^ (63 - p) := by
  refine nat_join p _ _ (shl_mod x p hp) ?_
  rw [Nat.div_div_eq_div_mul, ← pow_64 p hp]
  refine (Nat.div_lt_iff_lt_mul (Nat.two_pow_pos _)).2 ?_
  rw [← Nat.pow_add, show p + (64 - p) = 64 by omega]
  exact hy
theorem shift_word (a : Nat) (ws : Int) (p i : Nat) (n : Int) (ha : a < 2 ^ 256) (hn : n = 64 * ws + p) (hp : p < 64) (h1 : -256 < n) (h2 : n < 256) (hi : i < 4) :
    (wat a ((i : Int) - ws) * 2 ^ p % 18446744073709551616) ||| (wat a ((i : Int) - ws - 1) / 2 / 2 ^ (63 - p)) = wd (shf a n) i := by
  rw [or_meet _ _ _ hp (wat_lt _ _)]
  have key : ∀ q : Nat, q < 2 ^ 256 → ∀ k : Nat, wat q (k : Int) * 2 ^ p % 18446744073709551616 + wat q ((k : Int) - 1) / 2 / 2 ^ (63 - p) = if k = 0 then q * 2 ^ p % 2 ^ 64 else q / 2 ^ (64 * k - p) % 2 ^ 64 := by
    intro q hq k
    cases k with
    | zero =>
      rw [wat_neg q (((0 : Nat) : Int) - 1) (by omega), wat_nat q 0 hq, if_pos rfl]
      simp only [wd, Nat.mul_zero, Nat.pow_zero, Nat.div_one, Nat.zero_div, Nat.add_zero]
      rw [Nat.mul_mod, Nat.mod_mod, ← Nat.mul_mod]
    | succ k =>
      rw [show ((k + 1 : Nat) : Int) - 1 = ((k : Nat) : Int) by omega, wat_nat q _ hq, wat_nat q _ hq, if_neg (by omega)]
      have := word_meet (q / 2 ^ (64 * k)) p hp
      have e3 : q / 2 ^ (64 * k) / 2 ^ 64 = q / 2 ^ (64 * (k + 1)) := by rw [Nat.div_div_eq_div_mul, ← Nat.pow_add]; rfl
      have e4 : q / 2 ^ (64 * k) / 2 ^ (64 - p) = q / 2 ^ (64 * (k + 1) - p) := by rw [Nat.div_div_eq_div_mul, ← Nat.pow_add, show 64 * k + (64 - p) = 64 * (k + 1) - p by omega]
      rw [e3, e4] at this
      rw [← this]
      rfl
  by_cases h0 : 0 ≤ n
  · rw [shf, if_neg (by omega), if_pos h0, wd_mod _ _ hi]
    by_cases hk : (i : Int) - ws < 0
    · rw [wat_neg _ _ hk, wat_neg _ _ (by omega), wd_eq]
      obtain ⟨d, hd⟩ : ∃ d : Nat, n.toNat = 64 * i + 64 + d := ⟨n.toNat - (64 * i + 64), by omega⟩
      have : a * 2 ^ n.toNat = 2 ^ (64 * i) * (18446744073709551616 * (a * 2 ^ d)) := by
        rw [hd, Nat.pow_add, Nat.pow_add, show (18446744073709551616 : Nat) = 2 ^ 64 from rfl, Nat.mul_comm a, Nat.mul_assoc, Nat.mul_assoc, Nat.mul_comm a]
      rw [this, Nat.mul_div_cancel_left _ (Nat.two_pow_pos _), Nat.mul_mod_right]
      simp
    · obtain ⟨k, hk⟩ := Int.eq_ofNat_of_zero_le (a := (i : Int) - ws) (by omega)
      rw [hk, key a ha k, wd_eq]
      by_cases h3 : k = 0
      · rw [if_pos h3, show n.toNat = 64 * i + p by omega, Nat.pow_add, Nat.mul_comm (2 ^ (64 * i)), ← Nat.mul_assoc, Nat.mul_div_cancel _ (Nat.two_pow_pos _)]
      · rw [if_neg h3, show 64 * i = (64 * k - p) + n.toNat by omega, Nat.pow_add, Nat.mul_comm (2 ^ (64 * k - p)), ← Nat.div_div_eq_div_mul, Nat.mul_div_cancel _ (Nat.two_pow_pos _)]
  · rw [shf, if_neg (by omega), if_neg h0, wd_eq]
    obtain ⟨k, hk⟩ := Int.eq_ofNat_of_zero_le (a := (i : Int) - ws) (by omega)
    rw [hk, key a ha k, if_neg (by omega), Nat.div_div_eq_div_mul, ← Nat.pow_add, show (-n).toNat + 64 * i = 64 * k - p by omega]
end Go.Ab
/-
  Numbers: a product, word by word.
-/
namespace Go.Ab
open Go
set_option linter.unusedSimpArgs false
set_option linter.unusedVariables false
theorem wd_add_high (v y s t : Nat) (h : t < s) : wd (v + y * 2 ^ (64 * s)) t = wd v t := by
  have e : 2 ^ (64 * s) = 2 ^ (64 * t) * (18446744073709551616 * 2 ^ (64 * (s - (t + 1)))) := by
    rw [show (18446744073709551616 : Nat) = 2 ^ 64 from rfl, ← Nat.pow_add, ← Nat.pow_add]; congr 1; omega
  rw [wd_eq, wd_eq, e, Nat.mul_left_comm, Nat.add_mul_div_left _ _ (Nat.two_pow_pos _), Nat.mul_left_comm, Nat.add_mul_mod_self_left]
def mV (a b i j : Nat) : Nat := a % 2 ^ (64 * i) * b + wd a i * (b % 2 ^ (64 * j)) * 2 ^ (64 * i)
def mC (a b i j : Nat) : Nat := mV a b i j / 2 ^ (64 * (i + j)) - a % 2 ^ (64 * i) * b / 2 ^ (64 * (i + j))
theorem mV_zero (a b i : Nat) : mV a b i 0 = a % 2 ^ (64 * i) * b := by simp [mV, Nat.mod_one]
theorem mC_zero (a b i : Nat) : mC a b i 0 = 0 := by simp [mC, mV_zero]
theorem mV_succ (a b i j : Nat) : mV a b i (j + 1) = mV a b i j + wd a i * wd b j * 2 ^ (64 * (i + j)) := by
  unfold mV
  rw [wd_split b j, Nat.mul_add, Nat.add_mul, ← Nat.add_assoc, Nat.mul_add, Nat.pow_add]
  congr 1
  rw [Nat.mul_left_comm (wd a i), Nat.mul_comm (2 ^ (64 * j)) (wd a i * wd b j), Nat.mul_assoc, Nat.mul_comm (2 ^ (64 * j))]
theorem m_step (a b i j : Nat) : mC a b i (j + 1) = (wd a i * wd b j + wd (a % 2 ^ (64 * i) * b) (i + j) + mC a b i j) / 18446744073709551616 ∧
    wd (mV a b i (j + 1)) (i + j) = (wd a i * wd b j + wd (a % 2 ^ (64 * i) * b) (i + j) + mC a b i j) % 18446744073709551616 := by
  have hW : a % 2 ^ (64 * i) * b / 2 ^ (64 * (i + j)) ≤ mV a b i j / 2 ^ (64 * (i + j)) := Nat.div_le_div_right (Nat.le_add_right _ _)
  have h1 := dv_step (a % 2 ^ (64 * i) * b) (i + j)
  have h2 : mV a b i (j + 1) / 2 ^ (64 * (i + j)) = mV a b i j / 2 ^ (64 * (i + j)) + wd a i * wd b j := by
    rw [mV_succ, Nat.mul_comm (wd a i * wd b j), Nat.add_mul_div_left _ _ (Nat.two_pow_pos _)]
  have h3 : mV a b i (j + 1) / 2 ^ (64 * (i + j)) = 18446744073709551616 * (a % 2 ^ (64 * i) * b / 2 ^ (64 * (i + j + 1))) + (wd a i * wd b j + wd (a % 2 ^ (64 * i) * b) (i + j) + mC a b i j) := by
    rw [h2]; unfold mC; omega
  refine ⟨?_, ?_⟩
  · have : mC a b i (j + 1) = mV a b i (j + 1) / 2 ^ (64 * (i + j + 1)) - a % 2 ^ (64 * i) * b / 2 ^ (64 * (i + j + 1)) := rfl
    rw [this]
    have h4 : mV a b i (j + 1) / 2 ^ (64 * (i + j + 1)) = mV a b i (j + 1) / 2 ^ (64 * (i + j)) / 18446744073709551616 := by rw [P_succ, Nat.div_div_eq_div_mul]
    rw [h4, h3]
    omega
  · rw [wd_eq, h3]
    omega
theorem mul_word_le (a b i j : Nat) : wd a i * wd b j ≤ 18446744073709551615 * 18446744073709551615 := Nat.mul_le_mul (by have := wd_lt a i; omega) (by have := wd_lt b j; omega)
theorem mC_lt (a b i : Nat) : ∀ j, mC a b i j < 18446744073709551616
  | 0 => by rw [mC_zero]; decide
  | j + 1 => by
    have h1 := mul_word_le a b i j
    have h2 := wd_lt (a % 2 ^ (64 * i) * b) (i + j)
    have h3 := mC_lt a b i j
    rw [(m_step a b i j).1]
    omega
theorem mV_low (a b i j t : Nat) (h : t < i + j) : wd (mV a b i (j + 1)) t = wd (mV a b i j) t := by
  rw [mV_succ, wd_add_high _ _ _ _ h]
theorem m_arr (a b i j v : Nat) (hv : v = (wd a i * wd b j + wd (a % 2 ^ (64 * i) * b) (i + j) + mC a b i j) % 18446744073709551616) :
    (arr 8 fun t => if t = i + j then v else if t < i + j then wd (mV a b i j) t else wd (a % 2 ^ (64 * i) * b) t) = arr 8 fun t => if t < i + (j + 1) then wd (mV a b i (j + 1)) t else wd (a % 2 ^ (64 * i) * b) t := by
  refine arr_congr fun t _ => ?_
  by_cases h : t = i + j
  · rw [if_pos h, if_pos (by omega), h, hv, (m_step a b i j).2]
  · rw [if_neg h]
    by_cases h2 : t < i + j
    · rw [if_pos h2, if_pos (by omega), mV_low _ _ _ _ _ h2]
    · rw [if_neg h2, if_neg (by omega)]
theorem m_last (a b i : Nat) (hb : b < 2 ^ 256) (hi : i < 4) : (arr 8 fun t => if t = i + 4 then mC a b i 4 else if t < i + 4 then wd (mV a b i 4) t else wd (a % 2 ^ (64 * i) * b) t) = nat8 (a % 2 ^ (64 * (i + 1)) * b) := by
  have hV : mV a b i 4 = a % 2 ^ (64 * (i + 1)) * b := by
    unfold mV
    rw [wd_split a i, show 64 * 4 = 256 from rfl, Nat.mod_eq_of_lt hb, Nat.add_mul, Nat.mul_comm (wd a i * b), Nat.mul_assoc]
  have hP : 2 ^ (64 * (i + 4)) = 2 ^ (64 * i) * 2 ^ 256 := by rw [← Nat.pow_add, Nat.mul_add]
  have hW : a % 2 ^ (64 * i) * b < 2 ^ (64 * (i + 4)) := by
    rw [hP]
    exact Nat.mul_lt_mul_of_lt_of_le (Nat.mod_lt _ (Nat.two_pow_pos _)) (Nat.le_of_lt hb) (Nat.two_pow_pos _)
  have hV2 : a % 2 ^ (64 * (i + 1)) * b < 2 ^ (64 * (i + 4 + 1)) := by
    rw [show 2 ^ (64 * (i + 4 + 1)) = 2 ^ (64 * (i + 1)) * 2 ^ 256 by rw [← Nat.pow_add, show 64 * (i + 1) + 256 = 64 * (i + 4 + 1) by omega]]
    exact Nat.mul_lt_mul_of_lt_of_le (Nat.mod_lt _ (Nat.two_pow_pos _)) (Nat.le_of_lt hb) (Nat.two_pow_pos _)
  refine arr_congr fun t _ => ?_
  by_cases h : t = i + 4
  · rw [if_pos h, h]
    unfold mC
    have h5 : a % 2 ^ (64 * (i + 1)) * b / 2 ^ (64 * (i + 4)) < 18446744073709551616 := by
      refine (Nat.div_lt_iff_lt_mul (Nat.two_pow_pos _)).2 ?_
      rw [Nat.mul_comm 18446744073709551616, ← P_succ (i + 4)]
      exact hV2
    rw [Nat.div_eq_of_lt hW, Nat.sub_zero, hV, wd_eq, Nat.mod_eq_of_lt h5]
  · rw [if_neg h]
    by_cases h2 : t < i + 4
    · rw [if_pos h2, hV]
    · rw [if_neg h2, wd_big _ _ (Nat.lt_of_lt_of_le hW (Nat.pow_le_pow_right (by decide) (by omega))), wd_big _ _ (Nat.lt_of_lt_of_le hV2 (Nat.pow_le_pow_right (by decide) (by omega)))]
theorem arr8_zero : arr 8 (fun _ => 0) = nat8 0 := arr_congr fun i _ => (wd_zero i).symm
end Go.Ab
/-
  Numbers: bits of what is moved, lengths bit by bit.
-/
namespace Go.Ab
open Go
set_option linter.unusedSimpArgs false
set_option linter.unusedVariables false
theorem tmodL (a n : Nat) : Int.tmod (a : Int) (no_index (OfNat.ofNat n : Int)) = ((a % OfNat.ofNat n : Nat) : Int) := rfl
theorem tdivL (a n : Nat) : Int.tdiv (a : Int) (no_index (OfNat.ofNat n : Int)) = ((a / OfNat.ofNat n : Nat) : Int) := rfl
end Go.Ab
/-
  Numbers: digits of eight bits.
-/
namespace Go.Ab
open Go
set_option linter.unusedSimpArgs false
set_option linter.unusedVariables false
def wd8 (n i : Nat) : Nat := n / 2 ^ (8 * i) % 2 ^ 8
theorem wd8_lt (n i : Nat) : wd8 n i < 256 := Nat.mod_lt _ (by decide)
theorem wd_eq8 (a k : Nat) : wd8 a k = a / 2 ^ (8 * k) % 256 := rfl
theorem P_succ8 (k : Nat) : 2 ^ (8 * (k + 1)) = 2 ^ (8 * k) * 256 := by rw [Nat.mul_add, Nat.mul_one, Nat.pow_add]
theorem wd_split8 (a k : Nat) : a % 2 ^ (8 * (k + 1)) = a % 2 ^ (8 * k) + 2 ^ (8 * k) * wd8 a k := by
  rw [Nat.mul_add, Nat.mul_one, Nat.pow_add, Nat.mod_mul]
  rfl
def cy8 (a b k : Nat) : Nat := (a % 2 ^ (8 * k) + b % 2 ^ (8 * k)) / 2 ^ (8 * k)
theorem cy_zero8 (a b : Nat) : cy8 a b 0 = 0 := by simp [cy8, Nat.mod_one]
theorem cy_le8 (a b k : Nat) : cy8 a b k ≤ 1 := by
  unfold cy8
  have h := Nat.two_pow_pos (8 * k)
  have h1 := Nat.mod_lt a h
  have h2 := Nat.mod_lt b h
  have : (a % 2 ^ (8 * k) + b % 2 ^ (8 * k)) / 2 ^ (8 * k) < 2 := (Nat.div_lt_iff_lt_mul h).2 (by omega)
  omega
theorem cy_add8 (a b k : Nat) : (wd8 a k + wd8 b k + cy8 a b k) = wd8 (a + b) k + 256 * cy8 a b (k + 1) := by
  have h := Nat.two_pow_pos (8 * k)
  have e1 := wd_split8 a k
  have e2 := wd_split8 b k
  unfold cy8
  rw [e1, e2]
  generalize hM : 2 ^ (8 * k) = M at *
  have hM2 : 2 ^ (8 * (k + 1)) = M * 256 := by rw [Nat.mul_add, Nat.mul_one, Nat.pow_add, hM]
  rw [hM2]
  have hab : wd8 (a + b) k = (wd8 a k + wd8 b k + (a % M + b % M) / M) % 256 := by
    simp only [wd8, hM]
    have h1 := Nat.div_add_mod a M
    have h2 := Nat.div_add_mod b M
    have h3 : a + b = (a % M + b % M) + M * (a / M + b / M) := by rw [Nat.mul_add]; omega
    rw [h3, Nat.add_mul_div_left _ _ h]
    omega
  have h5 : (a % M + M * wd8 a k + (b % M + M * wd8 b k)) / (M * 256) = (wd8 a k + wd8 b k + (a % M + b % M) / M) / 256 := by
    rw [← Nat.div_div_eq_div_mul, show a % M + M * wd8 a k + (b % M + M * wd8 b k) = (a % M + b % M) + M * (wd8 a k + wd8 b k) by rw [Nat.mul_add]; omega, Nat.add_mul_div_left _ _ h, Nat.add_comm]
  rw [h5, hab]
  omega
theorem wd_zero8 (k : Nat) : wd8 0 k = 0 := by simp [wd8]
theorem wd_big8 (a k : Nat) (h : a < 2 ^ (8 * k)) : wd8 a k = 0 := by
  rw [wd_eq8, Nat.div_eq_of_lt h]
def dgs (n : Nat) : List SV := iarr 64 fun i => ((wd8 n i : Nat) : Int)
theorem dgs_okk {m n : Nat} : (∀ x ∈ dgs n, x.ok m) = True := iarr_okk
theorem dgs_length {n : Nat} : (dgs n).length = 64 := iarr_length
theorem dgs_one {n : Nat} : oneAll (dgs n) = True := iarr_one
theorem dgs_get {n i : Nat} (h : i < 64) : (dgs n)[i]? = some (.v (.int .i64 ((wd8 n i : Nat) : Int))) := iarr_get h
theorem dgs_zero : iarr 64 (fun _ => 0) = dgs 0 := iarr_congr fun i _ => by rw [wd_zero8]; rfl
theorem wd8_512 (a c k : Nat) (hk : k < 64) : wd8 (a + 2 ^ 512 * c) k = wd8 a k := by
  have e : 2 ^ 512 = 2 ^ (8 * k) * (256 * 2 ^ (8 * (63 - k))) := by
    rw [show (256 : Nat) = 2 ^ 8 from rfl, ← Nat.pow_add, ← Nat.pow_add]
    congr 1; omega
  rw [wd_eq8, wd_eq8, e, Nat.mul_assoc, Nat.add_mul_div_left _ _ (Nat.two_pow_pos _), Nat.mul_assoc, Nat.add_mul_mod_self_left]
theorem upd_digit {f : Nat → Int} {k i : Nat} {v : Int} (h : v = f k) : (if i = k then v else if i < k then f i else 0) = if i < k + 1 then f i else 0 := by
  by_cases h1 : i = k
  · subst h1; simp [h]
  · by_cases h2 : i < k
    · simp [h1, h2, show i < k + 1 by omega]
    · simp [h1, h2, show ¬ i < k + 1 by omega]
theorem wd_digit (a i : Nat) : wd a (i / 8) / 2 ^ (8 * (i % 8)) % 256 = wd8 a i := by
  rw [wd, mod_div_pow _ 64 _ (by omega), wd_eq8, Nat.div_div_eq_div_mul, ← Nat.pow_add, show 64 * (i / 8) + 8 * (i % 8) = 8 * i by omega]
  have : 256 ∣ 2 ^ (64 - 8 * (i % 8)) := Nat.pow_dvd_pow 2 (m := 8) (by omega)
  exact Nat.mod_mod_of_dvd _ this
theorem wd8_of_lt (a i : Nat) (n : Nat) (ha : a < 2 ^ (8 * n)) (h : n ≤ i) : wd8 a i = 0 :=
  wd_big8 a i (Nat.lt_of_lt_of_le ha (Nat.pow_le_pow_right (by decide) (by omega)))
theorem dig_up (q k n : Nat) (h : k / 8 < n) :
    (arr n fun j => if j = k / 8 then (wd (q % 2 ^ (8 * k)) (k / 8) + wd8 q k * 2 ^ (8 * (k % 8))) else wd (q % 2 ^ (8 * k)) j) = arr n (wd (q % 2 ^ (8 * (k + 1)))) ∧
    wd (q % 2 ^ (8 * k)) (k / 8) + wd8 q k * 2 ^ (8 * (k % 8)) < 18446744073709551616 := by
  have e := wd_split8 q k
  have hr := Nat.mod_lt q (Nat.two_pow_pos (8 * k))
  have hb := wd8_lt q k
  rw [e]
  generalize q % 2 ^ (8 * k) = r at *
  generalize wd8 q k = b at *
  have hk : 2 ^ (8 * k) = 2 ^ (64 * (k / 8)) * 2 ^ (8 * (k % 8)) := by rw [← Nat.pow_add]; congr 1; omega
  have h256 : 2 ^ (8 * (k % 8)) * 256 ≤ 18446744073709551616 := by
    rw [show (256 : Nat) = 2 ^ 8 from rfl, ← Nat.pow_add]
    exact Nat.pow_le_pow_right (n := 2) (j := 64) (by decide) (by omega)
  have hbz : b * 2 ^ (8 * (k % 8)) + 2 ^ (8 * (k % 8)) ≤ 2 ^ (8 * (k % 8)) * 256 := by
    rw [← Nat.succ_mul, Nat.mul_comm]; exact Nat.mul_le_mul_left _ hb
  have hd : r / 2 ^ (64 * (k / 8)) < 2 ^ (8 * (k % 8)) := Nat.div_lt_of_lt_mul (by rw [← hk]; exact hr)
  have hfit : wd r (k / 8) + b * 2 ^ (8 * (k % 8)) < 18446744073709551616 := by
    rw [wd_eq]
    clear hr hk
    generalize r / 2 ^ (64 * (k / 8)) = u at *
    generalize b * 2 ^ (8 * (k % 8)) = z at *
    generalize 2 ^ (8 * (k % 8)) = y at *
    omega
  refine ⟨?_, hfit⟩
  refine arr_congr fun j hj => ?_
  by_cases h : j = k / 8
  · rw [if_pos h, h, wd_eq, wd_eq]
    have : 2 ^ (8 * k) * b = 2 ^ (64 * (k / 8)) * (b * 2 ^ (8 * (k % 8))) := by rw [hk, Nat.mul_assoc, Nat.mul_comm b]
    rw [this, Nat.add_mul_div_left _ _ (Nat.two_pow_pos _)]
    clear this hr hk
    rw [wd_eq] at hfit
    generalize r / 2 ^ (64 * (k / 8)) = u at *
    generalize b * 2 ^ (8 * (k % 8)) = z at *
    generalize 2 ^ (8 * (k % 8)) = y at *
    omega
  · rw [if_neg h]
    rcases Nat.lt_or_gt_of_ne h with h | h
    · have : 2 ^ (8 * k) * b = b * 2 ^ (8 * k - 64 * (j + 1)) * 2 ^ (64 * (j + 1)) := by rw [Nat.mul_assoc, ← Nat.pow_add, show 8 * k - 64 * (j + 1) + 64 * (j + 1) = 8 * k by omega, Nat.mul_comm]
      rw [this, wd_add_high _ _ _ _ (by omega)]
    · have h2 : 2 ^ (8 * (k + 1)) ≤ 2 ^ (64 * j) := Nat.pow_le_pow_right (by decide) (by omega)
      have h3 : 2 ^ (8 * k) * b + 2 ^ (8 * k) ≤ 2 ^ (8 * k) * 256 := by rw [← Nat.mul_succ]; exact Nat.mul_le_mul_left _ hb
      rw [P_succ8] at h2
      rw [wd_big _ _ (by omega), wd_big _ _ (by omega)]
theorem cy8_64 (a b : Nat) (ha : a < 2 ^ 512) (hb : b < 2 ^ 512) : cy8 a b 64 = (a + b) / 2 ^ 512 := by
  unfold cy8
  rw [show 8 * 64 = 512 from rfl, Nat.mod_eq_of_lt ha, Nat.mod_eq_of_lt hb]
end Go.Ab
/-
  Numbers: lengths against powers of two.
-/
namespace Go.Ab
open Go
set_option linter.unusedSimpArgs false
set_option linter.unusedVariables false
theorem blen_le (x k : Nat) (h : x < 2 ^ k) : blen x ≤ k := by
  unfold blen
  split
  · omega
  · rename_i h0
    exact (Nat.log2_lt h0).2 h
theorem lt_blen (a : Nat) : a < 2 ^ blen a := by
  unfold blen
  split
  · omega
  · exact Nat.lt_log2_self
end Go.Ab
/-
  Numbers: bits of digits, a digit's increment, halves of eight words.
-/
namespace Go.Ab
open Go
set_option linter.unusedSimpArgs false
set_option linter.unusedVariables false
theorem wd8_bit (a i : Nat) : wd8 a (i / 8) / 2 ^ (i % 8) % 2 = a / 2 ^ i % 2 := by
  rw [wd8, mod_div_pow _ 8 _ (by omega), mod_pow_two _ _ (by omega), Nat.div_div_eq_div_mul, ← Nat.pow_add, Nat.div_add_mod]
theorem dgs_inc (q b : Nat) (hq : q % 2 = 0) (hb : b ≤ 1) : (dgs q).set 0 (.v (.int .i64 ((wd8 q 0 + b : Nat) : Int))) = dgs (q + b) := by
  unfold dgs
  rw [iarr_set]
  refine iarr_congr fun j hj => ?_
  by_cases h : j = 0
  · subst h
    rw [if_pos rfl]
    simp only [wd_eq8, Nat.mul_zero, Nat.pow_zero, Nat.div_one]
    omega
  · rw [if_neg h]
    congr 1
    obtain ⟨t, rfl⟩ := Nat.dvd_of_mod_eq_zero hq
    have e : 2 ^ (8 * j) = 2 * 2 ^ (8 * j - 1) := by
      rw [← Nat.pow_succ']
      congr 1
      omega
    rw [wd_eq8, wd_eq8, e, ← Nat.div_div_eq_div_mul, ← Nat.div_div_eq_div_mul, show (2 * t + b) / 2 = t by omega, show 2 * t / 2 = t by omega]
theorem wd8_even (q : Nat) (hq : q % 2 = 0) : wd8 q 0 ≤ 254 := by
  rw [wd_eq8]
  simp
  omega
theorem wd_shift (y j : Nat) : wd (y / 2 ^ 256) j = wd y (j + 4) := by
  rw [wd_eq, wd_eq, Nat.div_div_eq_div_mul, ← Nat.pow_add, show 256 + 64 * j = 64 * (j + 4) by omega]
theorem low4 (y : Nat) : (arr 4 fun j => if j = 3 then wd y 3 else if j = 2 then wd y 2 else if j = 1 then wd y 1 else if j = 0 then wd y 0 else 0) = nat4 y := by
  refine arr_congr fun j hj => ?_
  have : j = 0 ∨ j = 1 ∨ j = 2 ∨ j = 3 := by omega
  rcases this with rfl | rfl | rfl | rfl <;> simp
end Go.Ab
/-
  Numbers: a product of sums, in halves.
-/
namespace Go.Ab
open Go
set_option linter.unusedSimpArgs false
set_option linter.unusedVariables false
end Go.Ab
/-
  Numbers of bytes; bytes as cells.
-/
namespace Go.Ab
open Go Go.RowKit
set_option linter.unusedSimpArgs false
set_option linter.unusedVariables false
/-! Tryz# Bytes, as cells -/
section
variable {n m i : Nat} {f g : Nat → Nat}
end
theorem addr_add (b o i : Nat) : (⟨b, o, none⟩ : Addr).add i = ⟨b, o + i, none⟩ := Addr.add_mid b o i
end Go.Ab
/-
  Numbers: a product with a word, added to a number of six words.
-/
namespace Go.Ab
open Go
set_option linter.unusedSimpArgs false
set_option linter.unusedVariables false
def cr (T w b j : Nat) : Nat := (T % 2 ^ (64 * j) + w * (b % 2 ^ (64 * j))) / 2 ^ (64 * j)
theorem cr_zero (T w b : Nat) : cr T w b 0 = 0 := by simp [cr, Nat.mod_one]
theorem cr_lt (T w b j : Nat) (hw : w < 18446744073709551616) : cr T w b j < 18446744073709551616 := by
  unfold cr
  have hM := Nat.two_pow_pos (64 * j)
  have h1 := Nat.mod_lt T hM
  have h2 := Nat.mod_lt b hM
  generalize 2 ^ (64 * j) = M at *
  refine (Nat.div_lt_iff_lt_mul hM).2 ?_
  have h3 : w * (b % M) ≤ 18446744073709551615 * (b % M) := Nat.mul_le_mul_right _ (by omega)
  omega
theorem cr_step (T w b j : Nat) : wd T j + w * wd b j + cr T w b j = wd (T + w * b) j + 18446744073709551616 * cr T w b (j + 1) := by
  have hM := Nat.two_pow_pos (64 * j)
  have e1 := wd_split T j
  have e2 := wd_split b j
  have e3 : wd (T + w * b) j = (T + w * b) / 2 ^ (64 * j) % 18446744073709551616 := rfl
  have e4 : wd T j = T / 2 ^ (64 * j) % 18446744073709551616 := rfl
  have e5 : wd b j = b / 2 ^ (64 * j) % 18446744073709551616 := rfl
  have h1 := Nat.div_add_mod T (2 ^ (64 * j))
  have h2 := Nat.div_add_mod b (2 ^ (64 * j))
  unfold cr
  rw [e1, e2, P_succ, e3]
  rw [← Nat.div_div_eq_div_mul]
  generalize 2 ^ (64 * j) = M at *
  have h3 : (T % M + M * wd T j + w * (b % M + M * wd b j)) / M = (T % M + w * (b % M)) / M + (wd T j + w * wd b j) := by
    rw [← Nat.add_mul_div_left _ _ hM]
    congr 1
    rw [Nat.mul_add, Nat.mul_add, Nat.mul_left_comm w M]
    omega
  have h4 : (T + w * b) / M = (T % M + w * (b % M)) / M + (T / M + w * (b / M)) := by
    rw [← Nat.add_mul_div_left _ _ hM]
    congr 1
    rw [Nat.mul_add, Nat.mul_left_comm M w]
    have h5 : w * b = w * (M * (b / M)) + w * (b % M) := by rw [← Nat.mul_add, h2]
    omega
  rw [h3, h4]
  have h6 : w * (b / M) = w * (18446744073709551616 * (b / M / 18446744073709551616)) + w * wd b j := by rw [← Nat.mul_add, e5, Nat.div_add_mod]
  have h7 : w * (18446744073709551616 * (b / M / 18446744073709551616)) = 18446744073709551616 * (w * (b / M / 18446744073709551616)) := Nat.mul_left_comm _ _ _
  rw [h6, h7]
  generalize (T % M + w * (b % M)) / M = S
  generalize w * wd b j = y
  generalize w * (b / M / 18446744073709551616) = z
  omega
theorem cr_five (T w b : Nat) (hb : b < 2 ^ 256) : wd T 4 + cr T w b 4 = wd (T + w * b) 4 + 18446744073709551616 * cr T w b 5 := by
  have h := cr_step T w b 4
  rw [wd_big b 4 hb, Nat.mul_zero, Nat.add_zero] at h
  exact h
theorem wd_big2 (a k n : Nat) (h : a < 2 ^ n) (hn : n ≤ 64 * k) : wd a k = 0 := wd_big a k (Nat.lt_of_lt_of_le h (Nat.pow_le_pow_right (by decide) hn))
theorem cr_six (T w b n : Nat) (hn : n = 384) (hb : b < 2 ^ 256) (h6 : T + w * b < 2 ^ n) : wd T 5 + cr T w b 5 = wd (T + w * b) 5 := by
  have h := cr_step T w b 5
  rw [wd_big2 b 5 256 hb (by decide), Nat.mul_zero, Nat.add_zero] at h
  have h0 : cr T w b (5 + 1) = 0 := by
    unfold cr
    rw [show 64 * (5 + 1) = n from hn.symm]
    refine Nat.div_eq_of_lt (Nat.lt_of_le_of_lt (Nat.add_le_add (Nat.mod_le _ _) (Nat.mul_le_mul_left _ (Nat.mod_le _ _))) ?_)
    exact h6
  rw [h0] at h
  omega
theorem upd_two {f g : Nat → Nat} {k v i : Nat} (h : v = f k) : (if i = k then v else if i < k then f i else g i) = if i < k + 1 then f i else g i := by
  by_cases h1 : i = k
  · subst h1; simp [h]
  · simp only [h1, if_false]
    by_cases h2 : i < k
    · simp [h2, show i < k + 1 by omega]
    · simp [h2, show ¬ i < k + 1 by omega]
theorem row_word {p t c x y B : Nat} (hB : B = 18446744073709551616) (hp : p + t + c = x + B * y) (hx : x < B) (hy : y < B) (ht : t < B) (hc : c < B) :
    ((p % B + t) % B + c) % B = x ∧ (p / B + (p % B + t) / B) % B = (p + t) / B ∧ ((p / B + (p % B + t) / B) % B + ((p % B + t) % B + c) / B) % B = y := by
  subst hB
  omega
end Go.Ab
/-
  Numbers: what makes -1 with an odd number modulo 2^64; images.
-/
namespace Go.Ab
open Go
set_option linter.unusedSimpArgs false
set_option linter.unusedVariables false
def nvs (y x : Nat) : Nat := x * ((2 + 18446744073709551616 - y * x % 18446744073709551616) % 18446744073709551616) % 18446744073709551616
def nv (y : Nat) : Nat → Nat
  | 0 => 1
  | k + 1 => nvs y (nv y k)
theorem nv_lt (y : Nat) : ∀ k, nv y k < 18446744073709551616
  | 0 => by show 1 < 18446744073709551616; decide
  | k + 1 => Nat.mod_lt _ (by decide)
theorem w_two_sub (u : Nat) (h : u < 18446744073709551616) : IntKind.u64.wrap (2 - (u : Int)) = (((2 + 18446744073709551616 - u) % 18446744073709551616 : Nat) : Int) := by
  rw [IntKind.wrap_u64]; omega
theorem w_neg (u : Nat) (h : u < 18446744073709551616) : IntKind.u64.wrap (-(u : Int)) = (((18446744073709551616 - u) % 18446744073709551616 : Nat) : Int) := by
  rw [IntKind.wrap_u64]; omega
theorem nvs_step (y x M : Nat) (hd : M * M ∣ 18446744073709551616) (hM : 0 < M) (h : y * x % M = 1 % M) : y * nvs y x % (M * M) = 1 % (M * M) := by
  have hMB : M * M ∣ 18446744073709551616 := hd
  obtain ⟨c, hc⟩ := hMB
  -- y * x = 1 + M * t, as whole numbers
  have hI : (M : Int) ∣ (y * x : Int) - 1 := by
    have h1 : ((y * x : Nat) : Int) % (M : Int) = ((1 : Nat) : Int) % (M : Int) := by exact_mod_cast h
    have := Int.emod_emod_of_dvd
    have h2 := Int.emod_eq_emod_iff_emod_sub_eq_zero.1 h1
    have h3 := Int.dvd_of_emod_eq_zero h2
    simpa using h3
  obtain ⟨t, ht⟩ := hI
  have h4 : ∃ e : Int, ((nvs y x : Nat) : Int) = x * (2 - y * x) + 18446744073709551616 * e := by
    unfold nvs
    obtain ⟨u, hu⟩ : ∃ u, y * x % 18446744073709551616 = u := ⟨_, rfl⟩
    have hu2 : u < 18446744073709551616 := by rw [← hu]; exact Nat.mod_lt _ (by decide)
    have hu3 : ((y * x : Nat) : Int) = u + 18446744073709551616 * ((y * x / 18446744073709551616 : Nat) : Int) := by
      have := Nat.div_add_mod (y * x) 18446744073709551616
      omega
    rw [hu]
    obtain ⟨v, hv⟩ : ∃ v, (2 + 18446744073709551616 - u) % 18446744073709551616 = v := ⟨_, rfl⟩
    have hv2 : ∃ e : Int, (v : Int) = 2 - u + 18446744073709551616 * e := by
      refine ⟨1 - (((2 + 18446744073709551616 - u) / 18446744073709551616 : Nat) : Int), ?_⟩
      have := Nat.div_add_mod (2 + 18446744073709551616 - u) 18446744073709551616
      omega
    rw [hv]
    obtain ⟨e, he⟩ := hv2
    have h5 : ((x * v % 18446744073709551616 : Nat) : Int) = (x : Int) * v - 18446744073709551616 * ((x * v / 18446744073709551616 : Nat) : Int) := by
      have := Nat.div_add_mod (x * v) 18446744073709551616
      have h6 : ((x * v : Nat) : Int) = (x : Int) * v := Int.natCast_mul x v
      omega
    have hu4 : (y : Int) * x = u + 18446744073709551616 * ((y * x / 18446744073709551616 : Nat) : Int) := by rw [← hu3]; exact (Int.natCast_mul y x).symm
    refine ⟨x * (((y * x / 18446744073709551616 : Nat) : Int) + e) - ((x * v / 18446744073709551616 : Nat) : Int), ?_⟩
    rw [h5, he, hu4]
    generalize ((y * x / 18446744073709551616 : Nat) : Int) = q
    generalize ((x * v / 18446744073709551616 : Nat) : Int) = q'
    simp only [Int.mul_add, Int.mul_sub]
    have e1 : (x : Int) * (18446744073709551616 * q) = 18446744073709551616 * (x * q) := Int.mul_left_comm _ _ _
    have e2 : (x : Int) * (18446744073709551616 * e) = 18446744073709551616 * (x * e) := Int.mul_left_comm _ _ _
    rw [e1, e2]
    omega
  obtain ⟨e, he⟩ := h4
  have h7 : ((M * M : Nat) : Int) ∣ ((y * nvs y x : Nat) : Int) - 1 := by
    refine ⟨-(t * t) + c * (y * e), ?_⟩
    rw [Int.natCast_mul, he]
    have hxy : (y : Int) * x = 1 + M * t := by omega
    have hcI : ((18446744073709551616 : Nat) : Int) = ((M * M : Nat) : Int) * c := by rw [hc]; exact Int.natCast_mul _ _
    have hcJ : (18446744073709551616 : Int) = ((M * M : Nat) : Int) * c := hcI
    have e3 : (y : Int) * (x * (2 - y * x) + 18446744073709551616 * e) = (y * x) * (2 - y * x) + 18446744073709551616 * (y * e) := by
      rw [Int.mul_add, ← Int.mul_assoc, Int.mul_left_comm (y : Int) 18446744073709551616 e]
    rw [e3, hxy, hcJ, Int.natCast_mul]
    rw [Int.mul_add]
    have e4 : (1 + (M : Int) * t) * (2 - (1 + M * t)) = 1 + M * M * -(t * t) := by
      have e5 : (2 : Int) - (1 + M * t) = 1 - M * t := by omega
      rw [e5, Int.add_mul, Int.one_mul, Int.mul_sub, Int.mul_one]
      have e6 : (M : Int) * t * (M * t) = M * M * (t * t) := by
        rw [Int.mul_assoc, Int.mul_left_comm t, ← Int.mul_assoc]
      rw [e6, Int.mul_neg]
      omega
    rw [e4, Int.mul_assoc ((M : Int) * M) c]
    omega
  have h8 := Int.emod_emod_of_dvd
  have h9 : ((y * nvs y x : Nat) : Int) % ((M * M : Nat) : Int) = ((1 : Nat) : Int) % ((M * M : Nat) : Int) := by
    refine Int.emod_eq_emod_iff_emod_sub_eq_zero.2 ?_
    exact Int.emod_eq_zero_of_dvd (by simpa using h7)
  exact_mod_cast h9
theorem nv_right (y : Nat) (hy : y % 2 = 1) : y * nv y 6 % 18446744073709551616 = 1 := by
  have h0 : y * nv y 0 % 2 = 1 % 2 := by simp only [nv]; omega
  have h1 := nvs_step y (nv y 0) 2 (by decide) (by decide) h0
  have h2 := nvs_step y (nv y 1) 4 (by decide) (by decide) h1
  have h3 := nvs_step y (nv y 2) 16 (by decide) (by decide) h2
  have h4 := nvs_step y (nv y 3) 256 (by decide) (by decide) h3
  have h5 := nvs_step y (nv y 4) 65536 (by decide) (by decide) h4
  have h6 := nvs_step y (nv y 5) 4294967296 (by decide) (by decide) h5
  exact h6
def mi (m : Nat) : Nat := (18446744073709551616 - nv (wd m 0) 6) % 18446744073709551616
theorem mi_lt (m : Nat) : mi m < 18446744073709551616 := Nat.mod_lt _ (by decide)
end Go.Ab
/-
  Numbers modulo an odd one: halves, images, products of images, powers.
-/
namespace Go.Ab
open Go
set_option linter.unusedSimpArgs false
set_option linter.unusedVariables false
/-! Tryz# Numbers modulo an odd one -/
theorem cg_mul {m a b c d : Nat} (h : a % m = b % m) (h' : c % m = d % m) : a * c % m = b * d % m := by rw [Nat.mul_mod, h, h', ← Nat.mul_mod]
theorem cg_add {m a b c d : Nat} (h : a % m = b % m) (h' : c % m = d % m) : (a + c) % m = (b + d) % m := by rw [Nat.add_mod, h, h', ← Nat.add_mod]
theorem cg_mod (m a : Nat) : a % m % m = a % m := Nat.mod_mod _ _
def hf (m r : Nat) : Nat := if r % 2 = 1 then (r + m) / 2 else r / 2
theorem hf_lt {m r : Nat} (h : r < m) : hf m r < m := by unfold hf; split <;> omega
theorem hf_two {m r : Nat} (hm : m % 2 = 1) : hf m r * 2 % m = r % m := by
  unfold hf
  split
  · rw [Nat.div_mul_cancel (by omega), Nat.add_mod_right]
  · rw [Nat.div_mul_cancel (by omega)]
def hfs (m : Nat) : Nat → Nat → Nat
  | 0, r => r
  | k + 1, r => hf m (hfs m k r)
theorem hfs_lt {m r : Nat} (h : r < m) : ∀ k, hfs m k r < m
  | 0 => h
  | k + 1 => hf_lt (hfs_lt h k)
theorem hfs_pow {m r : Nat} (hm : m % 2 = 1) : ∀ k, hfs m k r * 2 ^ k % m = r % m
  | 0 => by simp [hfs]
  | k + 1 => by
    have h1 := hfs_pow (r := r) hm k
    have h2 : hf m (hfs m k r) * 2 % m = hfs m k r % m := hf_two hm
    rw [Nat.pow_succ, Nat.mul_comm (2 ^ k) 2, ← Nat.mul_assoc, ← h1]
    exact cg_mul h2 rfl
theorem two_cancel {m a b : Nat} (hm : m % 2 = 1) (ha : a < m) (hb : b < m) (h : a * 2 % m = b * 2 % m) : a = b := by
  by_cases h1 : a * 2 < m
  · rw [Nat.mod_eq_of_lt h1] at h
    by_cases h2 : b * 2 < m
    · rw [Nat.mod_eq_of_lt h2] at h; omega
    · rw [Nat.mod_eq_sub_mod (by omega), Nat.mod_eq_of_lt (by omega)] at h; omega
  · rw [Nat.mod_eq_sub_mod (by omega), Nat.mod_eq_of_lt (by omega)] at h
    by_cases h2 : b * 2 < m
    · rw [Nat.mod_eq_of_lt h2] at h; omega
    · rw [Nat.mod_eq_sub_mod (a := b * 2) (by omega), Nat.mod_eq_of_lt (a := b * 2 - m) (by omega)] at h; omega
theorem pow_cancel {m a b : Nat} (hm : m % 2 = 1) (ha : a < m) (hb : b < m) : ∀ k, a * 2 ^ k % m = b * 2 ^ k % m → a = b
  | 0, h => by simpa [Nat.mod_eq_of_lt ha, Nat.mod_eq_of_lt hb] using h
  | k + 1, h => by
    refine pow_cancel hm ha hb k (two_cancel hm (Nat.mod_lt _ (by omega)) (Nat.mod_lt _ (by omega)) ?_)
    have e : ∀ x, x * 2 ^ k % m * 2 % m = x * 2 ^ (k + 1) % m := fun x => by
      rw [Nat.pow_succ, ← Nat.mul_assoc]; exact cg_mul (cg_mod _ _) rfl
    rw [e, e]
    exact h
def moN (n m x : Nat) : Nat := hfs m n (x % m)
theorem moN_lt {n m x : Nat} (h : 0 < m) : moN n m x < m := hfs_lt (Nat.mod_lt _ h) n
theorem moN_pow {n m x : Nat} (hm : m % 2 = 1) : moN n m x * 2 ^ n % m = x % m := by
  have := hfs_pow (r := x % m) hm n
  rw [cg_mod] at this
  exact this
theorem moN_uniq {n m x r : Nat} (hm : m % 2 = 1) (hr : r < m) (h : r * 2 ^ n % m = x % m) : r = moN n m x :=
  pow_cancel hm hr (moN_lt (by omega)) n (by rw [h, moN_pow hm])
theorem moN_mod {n m x y : Nat} (h : x % m = y % m) : moN n m x = moN n m y := by unfold moN; rw [h]
theorem moN_to {n m x : Nat} (hm : m % 2 = 1) : moN n m (x * 2 ^ n) = x % m :=
  (moN_uniq hm (Nat.mod_lt _ (by omega)) (cg_mul (cg_mod _ _) rfl)).symm
theorem mm_lt {m b w T u B : Nat} (hB : 0 < B) (hb : b < m) (hT : T < 2 * m) (hw : w < B) (hu : u < B) : (T + w * b + u * m) / B < 2 * m := by
  refine (Nat.div_lt_iff_lt_mul hB).2 ?_
  have h1 : w * b ≤ (B - 1) * m := Nat.mul_le_mul (by omega) (by omega)
  have h2 : u * m ≤ (B - 1) * m := Nat.mul_le_mul_right _ (by omega)
  have h3 : 2 * m * B = 2 * m + ((B - 1) * m + (B - 1) * m) := by
    obtain ⟨c, rfl⟩ : ∃ c, B = c + 1 := ⟨B - 1, by omega⟩
    rw [Nat.add_sub_cancel, Nat.mul_add, Nat.mul_one, Nat.mul_assoc, Nat.mul_comm m c]
    omega
  omega
theorem mm_div {m X i B : Nat} (h : (X + X % B * i % B * m) % B = 0) : (X + X % B * i % B * m) / B * B = X + X % B * i % B * m := Nat.div_mul_cancel (Nat.dvd_of_mod_eq_zero h)
theorem mm_zero {m X i B : Nat} (hi : (m * i + 1) % B = 0) : (X + X % B * i % B * m) % B = 0 := by
  have h1 : (X + X % B * i % B * m) % B = (X + X * i * m) % B := cg_add rfl (cg_mul (by rw [cg_mod]; exact cg_mul (cg_mod _ _) rfl) rfl)
  rw [h1, show X + X * i * m = X * (m * i + 1) by rw [Nat.mul_add, Nat.mul_one, Nat.add_comm, Nat.mul_comm m i, Nat.mul_assoc], Nat.mul_mod, hi, Nat.mul_zero, Nat.zero_mod]
theorem mm_step {m b w T u T' A Q B : Nat} (hT' : T' * B = T + w * b + u * m) (h : T * Q % m = A * b % m) : T' * (B * Q) % m = (A + Q * w) * b % m := by
  rw [← Nat.mul_assoc, hT', Nat.add_mul, Nat.add_mul]
  have h1 : (T * Q + w * b * Q + u * m * Q) % m = (A * b + w * b * Q) % m := by
    rw [show u * m * Q = m * (u * Q) by rw [Nat.mul_comm u m, Nat.mul_assoc], Nat.add_mul_mod_self_left]
    exact cg_add h rfl
  rw [h1, Nat.add_mul]
  congr 2
  rw [Nat.mul_assoc, Nat.mul_comm b Q, ← Nat.mul_assoc, Nat.mul_comm w Q]
theorem pow_bit (a n k : Nat) : a ^ (n % 2 ^ (k + 1)) = (if n / 2 ^ k % 2 = 1 then a ^ (n % 2 ^ k) * a ^ 2 ^ k else a ^ (n % 2 ^ k)) := by
  have h : n % 2 ^ (k + 1) = n % 2 ^ k + 2 ^ k * (n / 2 ^ k % 2) := by rw [Nat.pow_succ, Nat.mod_mul]
  rw [h]
  split
  · rename_i h1; rw [h1, Nat.mul_one, Nat.pow_add]
  · rename_i h1; rw [show n / 2 ^ k % 2 = 0 by omega, Nat.mul_zero, Nat.add_zero]
theorem neg_right (m y x i B : Nat) (h1 : y * x % B = 1) (hx : x < B) (hm : m % B = y % B) (hi : i = (B - x) % B) (hB : 1 < B) : (m * i + 1) % B = 0 := by
  have h4 : y * ((B - x) % B) % B = y * (B - x) % B := cg_mul rfl (cg_mod _ _)
  have h5 : y * (B - x) + y * x = y * B := by rw [← Nat.mul_add]; congr 1; omega
  have h3 : m * i % B = y * (B - x) % B := by rw [hi, ← h4]; exact cg_mul hm rfl
  have h6 : (m * i + 1) % B = (y * (B - x) + y * x) % B := cg_add h3 (by rw [h1, Nat.mod_eq_of_lt hB])
  rw [h6, h5, Nat.mul_mod_left]
theorem mi_right (m : Nat) (hm : m % 2 = 1) : (m * mi m + 1) % 18446744073709551616 = 0 :=
  neg_right m (wd m 0) (nv (wd m 0) 6) (mi m) _ (nv_right (wd m 0) (by simp only [wd]; omega)) (nv_lt _ 6) (by simp only [wd]; omega) rfl (by decide)
def tu (m X : Nat) : Nat := X % 18446744073709551616 * mi m % 18446744073709551616
def tm (m a b : Nat) : Nat → Nat
  | 0 => 0
  | k + 1 => (tm m a b k + wd a k * b + tu m (tm m a b k + wd a k * b) * m) / 18446744073709551616
theorem tu_lt (m X : Nat) : tu m X < 18446744073709551616 := Nat.mod_lt _ (by decide)
theorem tm_lt {m a b : Nat} (hb : b < m) : ∀ k, tm m a b k < 2 * m
  | 0 => by show 0 < 2 * m; omega
  | k + 1 => mm_lt (by decide) hb (tm_lt hb k) (wd_lt a k) (tu_lt m _)
theorem tm_cg {m a b : Nat} (hm : m % 2 = 1) : ∀ k, tm m a b k * 2 ^ (64 * k) % m = a % 2 ^ (64 * k) * b % m
  | 0 => by simp [tm, Nat.mod_one]
  | k + 1 => by
    rw [wd_split, P_succ, Nat.mul_comm (2 ^ (64 * k)) 18446744073709551616]
    refine mm_step (T := tm m a b k) (u := tu m (tm m a b k + wd a k * b)) ?_ (tm_cg hm k)
    exact mm_div (mm_zero (mi_right m hm))
theorem tm_end {m a b : Nat} (hm : m % 2 = 1) (hb : b < m) (ha : a < 2 ^ 256) : (if m ≤ tm m a b 4 then tm m a b 4 - m else tm m a b 4) = moN 256 m (a * b) := by
  have h1 := tm_lt (a := a) hb 4
  have h2 := tm_cg (a := a) (b := b) hm 4
  rw [show 64 * 4 = 256 from rfl, Nat.mod_eq_of_lt ha] at h2
  refine moN_uniq hm (by split <;> omega) ?_
  rw [← h2]
  refine cg_mul ?_ rfl
  split
  · rename_i h; rw [Nat.mod_eq_sub_mod h]
  · rfl
theorem X_lt {T p q m Z C : Nat} (h1 : T < 2 * m) (h2 : p ≤ 18446744073709551615 * m) (h3 : q ≤ 18446744073709551615 * m) (hC : 36893488147419103232 ≤ C) (h5 : m * C < Z) : T + p < Z ∧ T + p + q < Z := by
  have h6 : m * 36893488147419103232 ≤ m * C := Nat.mul_le_mul_left _ hC
  omega
theorem tm_X {m a b : Nat} (hb : b < m) (k n : Nat) (hn : n = 384) (hm : m < 2 ^ 256) : tm m a b k + wd a k * b < 2 ^ n ∧ tm m a b k + wd a k * b + tu m (tm m a b k + wd a k * b) * m < 2 ^ n := by
  refine X_lt (C := 2 ^ 128) (tm_lt hb k) (Nat.mul_le_mul (by have := wd_lt a k; omega) (by omega)) (Nat.mul_le_mul_right _ (by have := tu_lt m (tm m a b k + wd a k * b); omega)) (by decide) ?_
  rw [show n = 256 + 128 from hn, Nat.pow_add 2 256 128]
  exact Nat.mul_lt_mul_of_pos_right hm (Nat.two_pow_pos _)
theorem to_end {m a : Nat} (hm : m % 2 = 1) : moN 256 m (a * (2 ^ 256 % m * (2 ^ 256 % m) % m)) = a * 2 ^ 256 % m := by
  rw [← moN_to (n := 256) (x := a * 2 ^ 256) hm]
  refine moN_mod ?_
  rw [Nat.mul_assoc]
  exact cg_mul rfl (by rw [cg_mod]; exact cg_mul (cg_mod _ _) (cg_mod _ _))
theorem times_end {m a b : Nat} (hm : m % 2 = 1) : moN 256 m (a * 2 ^ 256 % m * b) = a * b % m := by
  rw [← moN_to (n := 256) (x := a * b) hm]
  refine moN_mod ?_
  rw [Nat.mul_assoc, Nat.mul_comm b, ← Nat.mul_assoc]
  exact cg_mul (cg_mod _ _) rfl
theorem back_end {m a : Nat} (hm : m % 2 = 1) : moN 256 m (a * 2 ^ 256 % m) = a % m := by
  rw [← moN_to (n := 256) (x := a) hm]
  exact moN_mod (cg_mod _ _)
theorem img_mul {m a b : Nat} (hm : m % 2 = 1) : moN 256 m ((a * 2 ^ 256 % m) * (b * 2 ^ 256 % m)) = a * b * 2 ^ 256 % m := by
  rw [times_end hm]
  have h : a * (b * 2 ^ 256 % m) % m = a * (b * 2 ^ 256) % m := cg_mul rfl (cg_mod _ _)
  rw [h, ← Nat.mul_assoc]
end Go.Ab
/-
  All rules by which simp walks, in one bundle.
-/
namespace Go.Ab
open Go
set_option linter.unusedSimpArgs false
set_option linter.unusedVariables false
set_option linter.defProp false
def vcR := (And.intro (And.intro (And.intro (And.intro (And.intro (And.intro (And.intro (And.intro @xCode_skip @xCode_label) (And.intro @xCode_region (And.intro @xCode_draw @xCode_seq))) (And.intro (And.intro @xCode_cond (And.intro @xCode_block @xCode_loop)) (And.intro @xCode_exit (And.intro @xCode_ret @xCode_scope)))) (And.intro (And.intro (And.intro @seqQ_normal @seqQ_ret) (And.intro @seqQ_exit (And.intro @loopQ_normal @loopQ_ret))) (And.intro (And.intro @loopQ_exit (And.intro @cutQ_normal @cutQ_ret)) (And.intro @cutQ_exit (And.intro @blockQ_normal @blockQ_ret))))) (And.intro (And.intro (And.intro (And.intro @blockQ_exit @scopeQ_normal) (And.intro @scopeQ_ret (And.intro @scopeQ_exit @xcond_bool))) (And.intro (And.intro @xTr_nil (And.intro @xTr_false @xTr_cons)) (And.intro @xAt_some (And.intro @xOps_nil @xOps_cons)))) (And.intro (And.intro (And.intro @xOps_consG @xHead_nil) (And.intro @xHead_cons (And.intro @xHead_consG @xguard_none))) (And.intro (And.intro @xguard_some (And.intro @xguardV_bool @xguardV_tup)) (And.intro @xguardV_undef (And.intro @putT_some @putT_none)))))) (And.intro (And.intro (And.intro (And.intro (And.intro @ev_tmp @ev_const) (And.intro @ev_global (And.intro @ev_func @app_none))) (And.intro (And.intro @app_new (And.intro @app_put @putH_zero)) (And.intro @putH_succ (And.intro @st_call @st_move)))) (And.intro (And.intro (And.intro @st_assign @st_pick) (And.intro @st_alloc (And.intro @st_box @st_build))) (And.intro (And.intro @st_load (And.intro @st_store @st_nilCheck)) (And.intro @st_binOp (And.intro @st_unOp @st_convert))))) (And.intro (And.intro (And.intro (And.intro @st_fieldAddr @st_field) (And.intro @st_indexAddr (And.intro @st_index @st_extract))) (And.intro (And.intro @qt_call (And.intro @qt_move @qt_assign)) (And.intro @qt_pick (And.intro @qt_build @qt_load)))) (And.intro (And.intro (And.intro @qt_nilCheck (And.intro @qt_binOp @qt_unOp)) (And.intro @qt_convert (And.intro @qt_fieldAddr @qt_field))) (And.intro (And.intro @qt_indexAddr (And.intro @qt_index @qt_extract)) (And.intro @st_makeFunc (And.intro @qt_makeFunc @plainsOf_nil))))))) (And.intro (And.intro (And.intro (And.intro (And.intro (And.intro @plainsOf_cons @xmakeFunc_some) (And.intro @cellsOf_func (And.intro @one_func @xfun_funcs))) (And.intro (And.intro @xcalled_first (And.intro @xcalled_cap @xcalledV_first)) (And.intro @xcalledV_cap (And.intro @quietK_none @xpick_bool)))) (And.intro (And.intro (And.intro @pickT_true @pickT_false) (And.intro @pickT_bool (And.intro @xnew_some @xnewS_some))) (And.intro (And.intro @cellsOf_agg (And.intro @cellsOf_vagg @cellsOf_int)) (And.intro @cellsOf_bool (And.intro @cellsOf_string @cellsOf_slice))))) (And.intro (And.intro (And.intro (And.intro @cellsOf_pointer @cellsOf_p) (And.intro @cellsOf_sl (And.intro @xload_p @xload_v))) (And.intro (And.intro @xpart_row (And.intro @xpart_one @xcell_some)) (And.intro @xstore_p (And.intro @xput_some @splice_one)))) (And.intro (And.intro (And.intro @oneAll_nil @oneAll_cons) (And.intro @one_int (And.intro @one_bool @one_slice))) (And.intro (And.intro @one_pointer (And.intro @one_p @one_sl)) (And.intro @xnil_p (And.intro @xnil_v @xbin_int)))))) (And.intro (And.intro (And.intro (And.intro (And.intro @xbin_bool @xbin_agg) (And.intro @xbin_aggv (And.intro @xbin_vagg @xbin_pnil))) (And.intro (And.intro @xbin_vnil (And.intro @xeqB_eql @xeqB_neq)) (And.intro @xeqR_eql (And.intro @xeqR_neq @xeqA_false)))) (And.intro (And.intro (And.intro @xeqA_true @xint_add) (And.intro @xint_sub (And.intro @xint_mul @xint_quo))) (And.intro (And.intro @xint_rem (And.intro @xint_and @xint_or)) (And.intro @xint_xor (And.intro @xint_eql @xint_neq))))) (And.intro (And.intro (And.intro (And.intro @xint_lss @xint_leq) (And.intro @xint_gtr (And.intro @xint_geq @xint_shl))) (And.intro (And.intro @xint_shr (And.intro @bits_u64 @bits_u32)) (And.intro @bits_i64 (And.intro @bits_u8 @xun_neg)))) (And.intro (And.intro (And.intro @xun_not (And.intro @xconv_int @xfieldAddr_p)) (And.intro @xfieldAddr_v (And.intro @xfield_some @isAgg_agg))) (And.intro (And.intro @isAgg_vagg (And.intro @xindexAddr_arr @xindexAddr_sl)) (And.intro @xindexAddr_vsl (And.intro @xindex_arr @xextract_zero)))))))) (And.intro (And.intro (And.intro (And.intro (And.intro (And.intro (And.intro @xextract_succ @tv_s) (And.intro @tv_agg (And.intro @xbuild_some @fillA_nil))) (And.intro (And.intro @fillA_cons (And.intro @fillB_some @setAt_one)) (And.intro @xcall_value (And.intro @xcall_len @xcallH_value)))) (And.intro (And.intro (And.intro @xcallH_len @xfun_func) (And.intro @xcalled_some (And.intro @xcalledV_some @xlen_v))) (And.intro (And.intro @xlen_sl (And.intro @retQ_normal @retQ_ret)) (And.intro @retV_one (And.intro @retV_nil @retV_more))))) (And.intro (And.intro (And.intro (And.intro @resAll_nil @resAll_cons) (And.intro @consO_some (And.intro @resOne_tmp @resOne_cell))) (And.intro (And.intro @resAt_p (And.intro @resCell_row @resCell_one)) (And.intro @toAV_s (And.intro @toAV_agg @setMany_nil)))) (And.intro (And.intro (And.intro @setMany_cons @junk_nil) (And.intro @junk_cons (And.intro @setCells_nil @setCells_cons))) (And.intro (And.intro @agreeT_nil (And.intro @agreeT_cons @agreeS_some)) (And.intro @agreeS_true (And.intro @agreeS_false @lookup_cons)))))) (And.intro (And.intro (And.intro (And.intro (And.intro @prefix_ex @prefix_ex0) (And.intro @ctx0_P (And.intro @ctx0_TM @wrap_i64_id))) (And.intro (And.intro @tdiv_nn (And.intro @tmod_nn @fdiv_pow)) (And.intro @Nat.add_one_sub_one (And.intro @Nat.add_sub_cancel @Option.toList_some.{0})))) (And.intro (And.intro (And.intro @castL @neL) (And.intro @eqL (And.intro @litsEq_nat4 @fdivL))) (And.intro (And.intro @nat4_length (And.intro @nat8_length @nat4_one)) (And.intro @nat8_one (And.intro @nat4_get @nat8_get))))) (And.intro (And.intro (And.intro (And.intro @nat4_set @nat8_set) (And.intro @arr_get (And.intro @arr_set @iarr_get))) (And.intro (And.intro @iarr_set (And.intro @or_self @or_false)) (And.intro @false_or (And.intro @Nat.min_self @addL)))) (And.intro (And.intro (And.intro @mulL (And.intro @mulL' @divL)) (And.intro @modL (And.intro @subL @subL'))) (And.intro (And.intro @addN (And.intro @mulN @subN)) (And.intro @divN (And.intro @modN @divP))))))) (And.intro (And.intro (And.intro (And.intro (And.intro (And.intro @mulP @w64) (And.intro @minL (And.intro @minR @andOne))) (And.intro (And.intro @and255 (And.intro @neI @eqI)) (And.intro @decide_true (And.intro @decide_false @tlt_true)))) (And.intro (And.intro (And.intro @tle_true @nlt_true) (And.intro @nle_true (And.intro @tlt_false @tle_false))) (And.intro (And.intro @nlt_false (And.intro @nle_false @splice_whole)) (And.intro @arr_length (And.intro @iarr_length @arr_one))))) (And.intro (And.intro (And.intro (And.intro @iarr_one @List.lookup_nil.{0, 0}) (And.intro @List.getD_cons_zero.{0} (And.intro @List.getD_cons_succ.{0} @List.set_cons_zero.{0}))) (And.intro (And.intro @List.set_cons_succ.{0} (And.intro @List.getElem?_cons_zero.{0} @List.getElem?_cons_succ.{0})) (And.intro @List.length_cons.{0} (And.intro @List.length_nil.{0} @List.cons_append.{0})))) (And.intro (And.intro (And.intro @List.nil_append.{0} @List.map_cons.{0, 0}) (And.intro @List.map_nil.{0, 0} (And.intro @Option.map_some.{0, 0} @Option.map_none.{0, 0}))) (And.intro (And.intro @Option.bind_some.{0, 0} (And.intro @Option.bind_none.{0, 0} @List.getElem?_toArray.{0})) (And.intro @List.contains_cons.{0} (And.intro @List.contains_nil.{0} @Nat.zero_add)))))) (And.intro (And.intro (And.intro (And.intro (And.intro @Nat.add_zero @Nat.mul_one) (And.intro @Nat.one_mul (And.intro @beq_self_eq_true.{0} @Bool.or_true))) (And.intro (And.intro @Bool.true_or (And.intro @Bool.or_false @Bool.false_or)) (And.intro @Bool.false_eq_true (And.intro @Bool.true_eq_false @Bool.not_true)))) (And.intro (And.intro (And.intro @Bool.not_false @true_and) (And.intro @and_true (And.intro @not_false_eq_true @not_true_eq_false))) (And.intro (And.intro @if_true.{1} (And.intro @if_false.{1} @false_implies)) (And.intro @true_implies (And.intro @imp_self @TV.s.injEq))))) (And.intro (And.intro (And.intro (And.intro @TV.agg.injEq @TV.tup.injEq) (And.intro @AV.s.injEq (And.intro @AV.agg.injEq @SV.v.injEq))) (And.intro (And.intro @SV.p.injEq (And.intro @SV.sl.injEq @Value.int.injEq)) (And.intro @Value.bool.injEq (And.intro @List.cons.injEq.{0} @AB.mk.injEq)))) (And.intro (And.intro (And.intro @and_self (And.intro @decide_eq_true_eq @decide_eq_false_iff_not)) (And.intro @Int.ofNat_eq_natCast (And.intro @Int.toNat_natCast @ne_eq.{1}))) (And.intro (And.intro @eq_self.{1} (And.intro @List.take_succ_cons.{0} @List.take_zero.{0})) (And.intro @List.drop_succ_cons.{0} (And.intro @List.drop_zero.{0} @List.tail_cons.{0})))))))))
end Go.Ab
namespace Go.Proofs.YtdmcknmjdlghgaaGreatDoor
open Go Go.Ab
set_option linter.unusedSimpArgs false
set_option linter.unusedVariables false
set_option linter.defProp false
theorem tf26_row : rowOf Tryz.prog 26 = some true := by kernel_rfl
theorem tf26_sz : Tryz.prog.cellsOf 26 = 4 := by kernel_rfl
theorem tf26_szO : szO Tryz.prog 26 = some 4 := by kernel_rfl
theorem tf26_arr : arrOf Tryz.prog 26 = some (4, 24) := by kernel_rfl
theorem tf26_known : known Tryz.prog 26 = true := by kernel_rfl
theorem tf26_eq : eqTy Tryz.prog 26 = true := by kernel_rfl
theorem tf26_zero : zeroA Tryz.prog 26 = some (arr 4 fun _ => 0) := by kernel_rfl
theorem tf26_lits (f : Nat → Nat) (hf : ∀ i, i < 4 → f i < 18446744073709551616) : litsA Tryz.prog 26 (some (arr 4 f)) = some (lits 4 f) := litsA_arr (e := 24) (by kernel_rfl) (by kernel_rfl) (by kernel_rfl) (by kernel_rfl) hf
theorem tf26_litsN (a : Nat) : litsA Tryz.prog 26 (some (nat4 a)) = some (lits 4 (wd a)) := tf26_lits (wd a) fun _ _ => wd_lt a _
theorem tf26_u : Tryz.prog.underlying 26 = some (.array 4 24) := by kernel_rfl
theorem tf26_ce : Tryz.prog.cellsOf 24 = 1 := by kernel_rfl
theorem tf26_place (i : Nat) : placeOf Tryz.prog 26 i = some (i * 1, 1) := by simp only [placeOf, tf26_u, tf26_ce]
theorem tf26_slc : slcOf Tryz.prog 26 = none := by kernel_rfl
theorem tf25_row : rowOf Tryz.prog 25 = some true := by kernel_rfl
theorem tf25_sz : Tryz.prog.cellsOf 25 = 4 := by kernel_rfl
theorem tf25_szO : szO Tryz.prog 25 = some 4 := by kernel_rfl
theorem tf25_arr : arrOf Tryz.prog 25 = some (4, 24) := by kernel_rfl
theorem tf25_known : known Tryz.prog 25 = true := by kernel_rfl
theorem tf25_eq : eqTy Tryz.prog 25 = true := by kernel_rfl
theorem tf25_zero : zeroA Tryz.prog 25 = some (arr 4 fun _ => 0) := by kernel_rfl
theorem tf25_lits (f : Nat → Nat) (hf : ∀ i, i < 4 → f i < 18446744073709551616) : litsA Tryz.prog 25 (some (arr 4 f)) = some (lits 4 f) := litsA_arr (e := 24) (by kernel_rfl) (by kernel_rfl) (by kernel_rfl) (by kernel_rfl) hf
theorem tf25_litsN (a : Nat) : litsA Tryz.prog 25 (some (nat4 a)) = some (lits 4 (wd a)) := tf25_lits (wd a) fun _ _ => wd_lt a _
theorem tf25_u : Tryz.prog.underlying 25 = some (.array 4 24) := by kernel_rfl
theorem tf25_ce : Tryz.prog.cellsOf 24 = 1 := by kernel_rfl
theorem tf25_place (i : Nat) : placeOf Tryz.prog 25 i = some (i * 1, 1) := by simp only [placeOf, tf25_u, tf25_ce]
theorem tf25_slc : slcOf Tryz.prog 25 = none := by kernel_rfl
theorem tf24_row : rowOf Tryz.prog 24 = some false := by kernel_rfl
theorem tf24_sz : Tryz.prog.cellsOf 24 = 1 := by kernel_rfl
theorem tf24_szO : szO Tryz.prog 24 = some 1 := by kernel_rfl
theorem tf24_slc : slcOf Tryz.prog 24 = none := by kernel_rfl
theorem tf24_int : intKindOf Tryz.prog 24 = some .u64 := by kernel_rfl
theorem tf24_zero : zeroA Tryz.prog 24 = some [.v (.int .u64 0)] := by kernel_rfl
theorem tf3_row : rowOf Tryz.prog 3 = some false := by kernel_rfl
theorem tf3_sz : Tryz.prog.cellsOf 3 = 1 := by kernel_rfl
theorem tf3_szO : szO Tryz.prog 3 = some 1 := by kernel_rfl
theorem tf3_slc : slcOf Tryz.prog 3 = none := by kernel_rfl
theorem tf3_int : intKindOf Tryz.prog 3 = some .i64 := by kernel_rfl
theorem tf3_zero : zeroA Tryz.prog 3 = some [.v (.int .i64 0)] := by kernel_rfl
theorem tf4_row : rowOf Tryz.prog 4 = some false := by kernel_rfl
theorem tf4_sz : Tryz.prog.cellsOf 4 = 1 := by kernel_rfl
theorem tf4_szO : szO Tryz.prog 4 = some 1 := by kernel_rfl
theorem tf4_slc : slcOf Tryz.prog 4 = none := by kernel_rfl
theorem tf4_bool : isBoolT Tryz.prog 4 = true := by kernel_rfl
theorem tf4_zero : zeroA Tryz.prog 4 = some [.v (.bool false)] := by kernel_rfl
theorem tf115_row : rowOf Tryz.prog 115 = some true := by kernel_rfl
theorem tf115_sz : Tryz.prog.cellsOf 115 = 8 := by kernel_rfl
theorem tf115_szO : szO Tryz.prog 115 = some 8 := by kernel_rfl
theorem tf115_arr : arrOf Tryz.prog 115 = some (8, 24) := by kernel_rfl
theorem tf115_known : known Tryz.prog 115 = true := by kernel_rfl
theorem tf115_eq : eqTy Tryz.prog 115 = true := by kernel_rfl
theorem tf115_zero : zeroA Tryz.prog 115 = some (arr 8 fun _ => 0) := by kernel_rfl
theorem tf115_lits (f : Nat → Nat) (hf : ∀ i, i < 8 → f i < 18446744073709551616) : litsA Tryz.prog 115 (some (arr 8 f)) = some (lits 8 f) := litsA_arr (e := 24) (by kernel_rfl) (by kernel_rfl) (by kernel_rfl) (by kernel_rfl) hf
theorem tf115_litsN (a : Nat) : litsA Tryz.prog 115 (some (nat8 a)) = some (lits 8 (wd a)) := tf115_lits (wd a) fun _ _ => wd_lt a _
theorem tf115_u : Tryz.prog.underlying 115 = some (.array 8 24) := by kernel_rfl
theorem tf115_ce : Tryz.prog.cellsOf 24 = 1 := by kernel_rfl
theorem tf115_place (i : Nat) : placeOf Tryz.prog 115 i = some (i * 1, 1) := by simp only [placeOf, tf115_u, tf115_ce]
theorem tf115_slc : slcOf Tryz.prog 115 = none := by kernel_rfl
theorem tf34_row : rowOf Tryz.prog 34 = some false := by kernel_rfl
theorem tf34_sz : Tryz.prog.cellsOf 34 = 1 := by kernel_rfl
theorem tf34_szO : szO Tryz.prog 34 = some 1 := by kernel_rfl
theorem tf34_slc : slcOf Tryz.prog 34 = none := by kernel_rfl
theorem tf34_int : intKindOf Tryz.prog 34 = some .i64 := by kernel_rfl
theorem tf34_zero : zeroA Tryz.prog 34 = some [.v (.int .i64 0)] := by kernel_rfl
theorem tf90_row : rowOf Tryz.prog 90 = some true := by kernel_rfl
theorem tf90_sz : Tryz.prog.cellsOf 90 = 64 := by kernel_rfl
theorem tf90_szO : szO Tryz.prog 90 = some 64 := by kernel_rfl
theorem tf90_arr : arrOf Tryz.prog 90 = some (64, 3) := by kernel_rfl
theorem tf90_known : known Tryz.prog 90 = true := by kernel_rfl
theorem tf90_eq : eqTy Tryz.prog 90 = true := by kernel_rfl
theorem tf90_zero : zeroA Tryz.prog 90 = some (iarr 64 fun _ => 0) := by kernel_rfl
theorem tf90_u : Tryz.prog.underlying 90 = some (.array 64 3) := by kernel_rfl
theorem tf90_ce : Tryz.prog.cellsOf 3 = 1 := by kernel_rfl
theorem tf90_place (i : Nat) : placeOf Tryz.prog 90 i = some (i * 1, 1) := by simp only [placeOf, tf90_u, tf90_ce]
theorem tf90_slc : slcOf Tryz.prog 90 = none := by kernel_rfl
theorem tf5_row : rowOf Tryz.prog 5 = some false := by kernel_rfl
theorem tf5_sz : Tryz.prog.cellsOf 5 = 1 := by kernel_rfl
theorem tf5_szO : szO Tryz.prog 5 = some 1 := by kernel_rfl
theorem tf5_slc : slcOf Tryz.prog 5 = none := by kernel_rfl
theorem tf5_int : intKindOf Tryz.prog 5 = some .u8 := by kernel_rfl
theorem tf5_zero : zeroA Tryz.prog 5 = some [.v (.int .u8 0)] := by kernel_rfl
def vcT := (And.intro (And.intro (And.intro (And.intro (And.intro (And.intro @tf26_row @tf26_sz) (And.intro @tf26_szO @tf26_arr)) (And.intro (And.intro @tf26_known @tf26_eq) (And.intro @tf26_zero (And.intro @tf26_lits @tf26_litsN)))) (And.intro (And.intro (And.intro @tf26_place @tf26_slc) (And.intro @tf25_row @tf25_sz)) (And.intro (And.intro @tf25_szO @tf25_arr) (And.intro @tf25_known (And.intro @tf25_eq @tf25_zero))))) (And.intro (And.intro (And.intro (And.intro @tf25_lits @tf25_litsN) (And.intro @tf25_place @tf25_slc)) (And.intro (And.intro @tf24_row @tf24_sz) (And.intro @tf24_szO (And.intro @tf24_slc @tf24_int)))) (And.intro (And.intro (And.intro @tf24_zero @tf3_row) (And.intro @tf3_sz @tf3_szO)) (And.intro (And.intro @tf3_slc @tf3_int) (And.intro @tf3_zero (And.intro @tf4_row @tf4_sz)))))) (And.intro (And.intro (And.intro (And.intro (And.intro @tf4_szO @tf4_slc) (And.intro @tf4_bool @tf4_zero)) (And.intro (And.intro @tf115_row @tf115_sz) (And.intro @tf115_szO (And.intro @tf115_arr @tf115_known)))) (And.intro (And.intro (And.intro @tf115_eq @tf115_zero) (And.intro @tf115_lits @tf115_litsN)) (And.intro (And.intro @tf115_place @tf115_slc) (And.intro @tf34_row (And.intro @tf34_sz @tf34_szO))))) (And.intro (And.intro (And.intro (And.intro @tf34_slc @tf34_int) (And.intro @tf34_zero @tf90_row)) (And.intro (And.intro @tf90_sz @tf90_szO) (And.intro @tf90_arr (And.intro @tf90_known @tf90_eq)))) (And.intro (And.intro (And.intro @tf90_zero @tf90_place) (And.intro @tf90_slc @tf5_row)) (And.intro (And.intro @tf5_sz @tf5_szO) (And.intro @tf5_slc (And.intro @tf5_int @tf5_zero)))))))
end Go.Proofs.YtdmcknmjdlghgaaGreatDoor
namespace Go.Proofs
open Go.Shelf
def YtdmcknmjdlghgaaGreatDoorlays129_ren : Go.Shelf.Ren := ⟨fun | 129 => 84 | n => n, fun | 53 => 24 | 3 => 3 | 4 => 4 | 46 => 154 | 5 => 5 | 9 => 9 | n => n, fun | n => n⟩
theorem YtdmcknmjdlghgaaGreatDoorlays129 : Go.Proofs.Lays.n129 Tryz.prog YtdmcknmjdlghgaaGreatDoorlays129_ren := {
  mixed := by kernel_rfl
  f129 := Tryz.func84.trans (congrArg some (by kernel_rfl))
  t3 := Tryz.underlying3
  a3 := Tryz.isAgg3
  z3 := Tryz.sizeOf3
  v3 := Tryz.zeroValue3
  t4 := Tryz.underlying4
  a4 := Tryz.isAgg4
  z4 := Tryz.sizeOf4
  v4 := Tryz.zeroValue4
  t5 := Tryz.underlying5
  a5 := Tryz.isAgg5
  z5 := Tryz.sizeOf5
  v5 := Tryz.zeroValue5
  t9 := Tryz.underlying9
  a9 := Tryz.isAgg9
  z9 := Tryz.sizeOf9
  v9 := Tryz.zeroValue9
  t46 := Tryz.underlying154
  a46 := Tryz.isAgg154
  z46 := Tryz.sizeOf154
  v46 := Tryz.zeroValue154
  t53 := Tryz.underlying24
  a53 := Tryz.isAgg24
  z53 := Tryz.sizeOf24
  v53 := Tryz.zeroValue24 }
def YtdmcknmjdlghgaaGreatDoorlays264_ren : Go.Shelf.Ren := ⟨fun | 264 => 97 | n => n, fun | 53 => 24 | 46 => 154 | n => n, fun | n => n⟩
theorem YtdmcknmjdlghgaaGreatDoorlays264 : Go.Proofs.Lays.n264 Tryz.prog YtdmcknmjdlghgaaGreatDoorlays264_ren := {
  mixed := by kernel_rfl
  f264 := Tryz.func97.trans (congrArg some (by kernel_rfl))
  t46 := Tryz.underlying154
  a46 := Tryz.isAgg154
  z46 := Tryz.sizeOf154
  v46 := Tryz.zeroValue154
  t53 := Tryz.underlying24
  a53 := Tryz.isAgg24
  z53 := Tryz.sizeOf24
  v53 := Tryz.zeroValue24 }
end Go.Proofs
