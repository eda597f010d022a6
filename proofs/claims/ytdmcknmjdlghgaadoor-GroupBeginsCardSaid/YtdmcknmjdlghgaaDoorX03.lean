/-
  A branch, each way by itself.
  Texts laid together: Ar, Nm, Nm2, Nm3, Nm4, Nm5, Nm6, Nm7, Nm8, Nm9, Mt, Nq.
  Maps whose keys are numbers: what the model does with them.
  Code beside which something is said of the world: what lies in a map.
  A call in the midst of code beside which something is said of the world; functions of that kind.
  Texts laid together: Mc, Md, Me, Mf.
  Numbers in a row, in memory that is known: slices of numbers.
  A row of ours is handed on: what it is told of is its place.
-/
import Derived.WalkKit
import Derived.StillTail
import Derived.Deep.MidRow
import Derived.DeepKeys
import Derived.Deep.LoopGhost
import Derived.Deep.Quiet
import Derived.Laws.AppendOwn
import Derived.Laws.MakeOwn
import Derived.Laws.Cover3
import Derived.Laws.IdiomCopy
import Derived.Laws.CopyRow
import Derived.Laws.BitsAllLaws
import Derived.Laws.Bits128
import Derived.Lib.BitFns
import Derived.DeepKeys3
import Derived.MapKept
import Derived.Test.YtdmcknmjdlghgaaDoorX01
import Derived.Test.YtdmcknmjdlghgaaDoorX02
namespace Go.Ab
open Go Go.RowKit
set_option linter.unusedSimpArgs false
set_option linter.unusedVariables false
theorem X_condX {Γ : Ctx} {c : Operand} {x y : Code} {T : List TV} {H : Heap} {Q : QX} (h : xcond (ev T c) (X Γ x T H Q) (X Γ y T H Q)) : X Γ (.cond c x y) T H Q := by
  intro a w hs
  unfold xcond at h
  split at h
  · rename_i b hb
    obtain ⟨β, hT, hR, hd⟩ := hs
    have hev := eval_ev (a := a) (hT β (.refl _ _)) c
    rw [hb] at hev
    have hs' : St Γ T H a w := ⟨β, hT, hR, hd⟩
    cases b with
    | true => exact wp_cond_true hev (h.1 rfl a w hs')
    | false => exact wp_cond_false hev (h.2 rfl a w hs')
  · exact h.elim
section
variable {Γ : Ctx} {ops : Array Oper} {H H0 : Heap} {M : List Nat} {T : List TV} {KL : List TV → Heap → Prop} {dst : Option Tmp} {ty : TypeId} {pos : String} {af : Array Edge}
end
end Go.Ab
/-
  Arrays of numbers, as cells.
-/
namespace Go.Ab
open Go Go.RowKit
set_option linter.unusedSimpArgs false
set_option linter.unusedVariables false

/-- n words of 64 bits. -/
def arr (n : Nat) (f : Nat → Nat) : List SV := (List.range n).map fun i => .v (.int .u64 (f i : Int))
/-- n whole numbers. -/
def iarr (n : Nat) (f : Nat → Int) : List SV := (List.range n).map fun i => .v (.int .i64 (f i))

section
variable {n i : Nat} {f g : Nat → Nat} {p q : Nat → Int}
theorem arr_length : (arr n f).length = n := by simp [arr]
theorem iarr_length : (iarr n p).length = n := by simp [iarr]
theorem arr_get (h : i < n) : (arr n f)[i]? = some (.v (.int .u64 (f i : Int))) := by simp [arr, h]
theorem iarr_get (h : i < n) : (iarr n p)[i]? = some (.v (.int .i64 (p i))) := by simp [iarr, h]
theorem arr_congr (h : ∀ i, i < n → f i = g i) : arr n f = arr n g := by
  unfold arr
  exact List.map_congr_left fun i hi => by rw [h i (List.mem_range.1 hi)]
theorem iarr_congr (h : ∀ i, i < n → p i = q i) : iarr n p = iarr n q := by
  unfold iarr
  exact List.map_congr_left fun i hi => by rw [h i (List.mem_range.1 hi)]
theorem arr_set (x : Nat) : (arr n f).set i (.v (.int .u64 (x : Int))) = arr n (fun j => if j = i then x else f j) := by
  apply List.ext_getElem?
  intro k
  rw [List.getElem?_set]
  simp only [arr_length]
  by_cases h : i = k
  · subst h
    by_cases h2 : i < n
    · simp [h2, arr_get h2, arr]
    · simp [h2, arr]
  · simp only [h, if_false]
    by_cases h2 : k < n
    · rw [arr_get h2, arr_get h2, if_neg (Ne.symm h)]
    · simp [arr, h2]
theorem iarr_set (x : Int) : (iarr n p).set i (.v (.int .i64 x)) = iarr n (fun j => if j = i then x else p j) := by
  apply List.ext_getElem?
  intro k
  rw [List.getElem?_set]
  simp only [iarr_length]
  by_cases h : i = k
  · subst h
    by_cases h2 : i < n
    · simp [h2, iarr_get h2, iarr]
    · simp [h2, iarr]
  · simp only [h, if_false]
    by_cases h2 : k < n
    · rw [iarr_get h2, iarr_get h2, if_neg (Ne.symm h)]
    · simp [iarr, h2]
theorem arr_one : oneAll (arr n f) = True := by
  simp only [oneAll, eq_iff_iff, iff_true]
  intro c hc
  simp only [arr, List.mem_map] at hc
  obtain ⟨i, _, rfl⟩ := hc
  rfl
theorem iarr_one : oneAll (iarr n p) = True := by
  simp only [oneAll, eq_iff_iff, iff_true]
  intro c hc
  simp only [iarr, List.mem_map] at hc
  obtain ⟨i, _, rfl⟩ := hc
  rfl
theorem arr_ok (m : Nat) : ∀ x ∈ arr n f, x.ok m := by
  intro x hx
  simp only [arr, List.mem_map] at hx
  obtain ⟨i, _, rfl⟩ := hx
  trivial
theorem iarr_ok (m : Nat) : ∀ x ∈ iarr n p, x.ok m := by
  intro x hx
  simp only [iarr, List.mem_map] at hx
  obtain ⟨i, _, rfl⟩ := hx
  trivial
theorem arr_inj (h : arr n f = arr n g) (i : Nat) (hi : i < n) : f i = g i := by
  have h1 := congrArg (·[i]?) h
  simp only [arr_get hi, Option.some.injEq, SV.v.injEq, Value.int.injEq, true_and] at h1
  omega
end

section
variable {n m : Nat} {f : Nat → Nat} {p : Nat → Int} {l : List SV} {x : SV} {v : Value} {la : List AV}
theorem arr_okk : (∀ x ∈ arr n f, x.ok m) = True := eq_true (arr_ok m)
theorem iarr_okk : (∀ x ∈ iarr n p, x.ok m) = True := eq_true (iarr_ok m)
theorem oks_s : (TV.s x).ok m = x.ok m := rfl
theorem oks_agg : (TV.agg l).ok m = ∀ x ∈ l, x.ok m := rfl
theorem oks_tup : (TV.tup la).ok m = ∀ x ∈ la, x.ok m := rfl
theorem oka_s : (AV.s x).ok m = x.ok m := rfl
theorem oka_agg : (AV.agg l).ok m = ∀ x ∈ l, x.ok m := rfl
theorem okv_p {j o : Nat} : (SV.p j o).ok m = (j < m) := rfl
theorem okv_sl {j o a b : Nat} : (SV.sl j o a b).ok m = (j < m) := rfl
theorem okv_v : (SV.v v).ok m = True := rfl
end

theorem tlt_true {a b : Int} (h : a < b) : (a < b) = True := eq_true h
theorem tle_true {a b : Int} (h : a ≤ b) : (a ≤ b) = True := eq_true h
theorem nlt_true {a b : Nat} (h : a < b) : (a < b) = True := eq_true h
theorem nle_true {a b : Nat} (h : a ≤ b) : (a ≤ b) = True := eq_true h
theorem nlt_false {a b : Nat} (h : b ≤ a) : (a < b) = False := eq_false (Nat.not_lt.2 h)
theorem nle_false {a b : Nat} (h : b < a) : (a ≤ b) = False := eq_false (Nat.not_le.2 h)
theorem tlt_false {a b : Int} (h : b ≤ a) : (a < b) = False := eq_false (Int.not_lt.2 h)
theorem tle_false {a b : Int} (h : b < a) : (a ≤ b) = False := eq_false (Int.not_le.2 h)

/-- A word of a number. -/
def wd (n i : Nat) : Nat := n / 2 ^ (64 * i) % 2 ^ 64
theorem wd_lt (n i : Nat) : wd n i < 18446744073709551616 := Nat.mod_lt _ (by decide)

/-- A number of four words, one of eight. -/
def nat4 (n : Nat) : List SV := arr 4 (wd n)
def nat8 (n : Nat) : List SV := arr 8 (wd n)
theorem nat4_okk {m n : Nat} : (∀ x ∈ nat4 n, x.ok m) = True := arr_okk
theorem nat8_okk {m n : Nat} : (∀ x ∈ nat8 n, x.ok m) = True := arr_okk
theorem nat4_length {n : Nat} : (nat4 n).length = 4 := arr_length
theorem nat8_length {n : Nat} : (nat8 n).length = 8 := arr_length
theorem nat4_one {n : Nat} : oneAll (nat4 n) = True := arr_one
theorem nat8_one {n : Nat} : oneAll (nat8 n) = True := arr_one
theorem nat4_get {n i : Nat} (h : i < 4) : (nat4 n)[i]? = some (.v (.int .u64 (wd n i : Int))) := arr_get h
theorem nat8_get {n i : Nat} (h : i < 8) : (nat8 n)[i]? = some (.v (.int .u64 (wd n i : Int))) := arr_get h
theorem nat4_set {n i : Nat} (x : Nat) : (nat4 n).set i (.v (.int .u64 (x : Int))) = arr 4 (fun j => if j = i then x else wd n j) := arr_set x
theorem nat8_set {n i : Nat} (x : Nat) : (nat8 n).set i (.v (.int .u64 (x : Int))) = arr 8 (fun j => if j = i then x else wd n j) := arr_set x
/-- What is said of a loop's states stays within our blocks. -/
theorem shape_of {ι : Type} {V : ι → Prop} {n : Nat} {sv : ι → List (Nat × TV)} {hv : ι → List (Nat × List SV)} (h : ∀ i, ((sv i).map (·.1)).Nodup ∧ (∀ p ∈ sv i, p.2.ok n) ∧ ∀ p ∈ hv i, ∀ x ∈ p.2, x.ok n) : Shape V n sv hv :=
  ⟨fun i _ => (h i).1, fun i _ => (h i).2.1, fun i _ => (h i).2.2⟩

end Go.Ab

/-
  Numbers: rules that keep what the walk finds natural; words of numbers.
-/
namespace Go.Ab
open Go
set_option linter.unusedSimpArgs false
set_option linter.unusedVariables false

/-! Tryd# Rules -/
theorem addL (a n : Nat) : (a : Int) + (no_index (OfNat.ofNat n : Int)) = ((a + OfNat.ofNat n : Nat) : Int) := rfl
theorem mulL (a n : Nat) : (a : Int) * (no_index (OfNat.ofNat n : Int)) = ((a * OfNat.ofNat n : Nat) : Int) := rfl
theorem mulL' (a n : Nat) : (no_index (OfNat.ofNat n : Int)) * (a : Int) = ((OfNat.ofNat n * a : Nat) : Int) := rfl
theorem divL (a n : Nat) : (a : Int) / (no_index (OfNat.ofNat n : Int)) = ((a / OfNat.ofNat n : Nat) : Int) := rfl
theorem modL (a n : Nat) : (a : Int) % (no_index (OfNat.ofNat n : Int)) = ((a % OfNat.ofNat n : Nat) : Int) := rfl
theorem subL (a n : Nat) (h : OfNat.ofNat n ≤ a) : (a : Int) - (no_index (OfNat.ofNat n : Int)) = ((a - OfNat.ofNat n : Nat) : Int) := (Int.ofNat_sub h).symm
theorem subL' (a n : Nat) (h : a ≤ OfNat.ofNat n) : (no_index (OfNat.ofNat n : Int)) - (a : Int) = ((OfNat.ofNat n - a : Nat) : Int) := (Int.ofNat_sub h).symm
theorem addN (a b : Nat) : (a : Int) + (b : Int) = ((a + b : Nat) : Int) := rfl
theorem mulN (a b : Nat) : (a : Int) * (b : Int) = ((a * b : Nat) : Int) := rfl
theorem subN (a b : Nat) (h : b ≤ a) : (a : Int) - (b : Int) = ((a - b : Nat) : Int) := (Int.ofNat_sub h).symm
theorem divN (a b : Nat) : (a : Int) / (b : Int) = ((a / b : Nat) : Int) := rfl
theorem modN (a b : Nat) : (a : Int) % (b : Int) = ((a % b : Nat) : Int) := rfl
theorem fdivL (a n : Nat) : Int.fdiv (a : Int) (no_index (OfNat.ofNat n : Int)) = ((a / OfNat.ofNat n : Nat) : Int) := Int.fdiv_eq_ediv_of_nonneg _ (Int.natCast_nonneg (OfNat.ofNat n))
theorem divP (a n : Nat) : (a : Int) / 2 ^ n = ((a / 2 ^ n : Nat) : Int) := by
  rw [show ((2 : Int) ^ n) = ((2 ^ n : Nat) : Int) by push_cast; rfl]; rfl
theorem mulP (a n : Nat) : (a : Int) * 2 ^ n = ((a * 2 ^ n : Nat) : Int) := by
  rw [show ((2 : Int) ^ n) = ((2 ^ n : Nat) : Int) by push_cast; rfl]; rfl
theorem w64 (a : Nat) (h : a < 18446744073709551616) : IntKind.u64.wrap (a : Int) = (a : Int) := by rw [IntKind.wrap_u64]; omega
theorem w64m (a : Nat) : IntKind.u64.wrap (a : Int) = ((a % 18446744073709551616 : Nat) : Int) := by rw [IntKind.wrap_u64]; rfl
theorem wi64 (a : Nat) (h : a < 9223372036854775808) : IntKind.i64.wrap (a : Int) = (a : Int) := by rw [IntKind.wrap_i64]; omega
theorem minL (a b : Nat) (h : a ≤ b) : min a b = a := Nat.min_eq_left h
theorem minR (a b : Nat) (h : b ≤ a) : min a b = b := Nat.min_eq_right h
theorem andOne (a : Nat) (h : a < 18446744073709551616) : bits .and .u64 (a : Int) 1 = ((a % 2 : Nat) : Int) := by
  have := bits_and_u64_nat a 1 h (by decide)
  rw [nat_mask1] at this
  exact this
theorem and255 (a : Nat) (h : a < 18446744073709551616) : bits .and .u64 (a : Int) 255 = ((a % 256 : Nat) : Int) := by
  have := bits_and_u64_nat a 255 h (by decide)
  rw [show (255 : Nat) = 2 ^ 8 - 1 from rfl, Nat.and_two_pow_sub_one_eq_mod] at this
  exact this
theorem orN (a b : Nat) (ha : a < 18446744073709551616) (hb : b < 18446744073709551616) : bits .or .u64 (a : Int) (b : Int) = ((a ||| b : Nat) : Int) := bits_or_u64_nat a b ha hb
theorem and63 (n : Int) : bits .and .i64 n 63 = n % 64 := by
  have h127 : (BitVec.ofInt 64 63).toNat = 2 ^ 6 - 1 := by decide
  have key : (BitVec.ofInt 64 n &&& BitVec.ofInt 64 63).toNat = (n % ((2 ^ 64 : Nat) : Int)).toNat % 2 ^ 6 := by
    rw [BitVec.toNat_and, BitVec.toNat_ofInt, h127, Nat.and_two_pow_sub_one_eq_mod]
  show IntKind.i64.wrap ((BitVec.ofInt 64 n &&& BitVec.ofInt 64 63).toNat : Nat) = n % 64
  rw [key, IntKind.wrap_i64]
  omega
theorem neI (a b : Nat) : ((a : Int) != (b : Int)) = (a != b) := by
  rw [Bool.eq_iff_iff, bne_iff_ne, bne_iff_ne]
  omega
theorem eqI (a b : Nat) : ((a : Int) == (b : Int)) = (a == b) := by
  rw [Bool.eq_iff_iff, beq_iff_eq, beq_iff_eq]
  omega

theorem upd_word {f : Nat → Nat} {k v i : Nat} (h : v = f k) : (if i = k then v else if i < k then f i else 0) = if i < k + 1 then f i else 0 := by
  by_cases h1 : i = k
  · subst h1; simp [h]
  · by_cases h2 : i < k
    · simp [h1, h2, show i < k + 1 by omega]
    · simp [h1, h2, show ¬ i < k + 1 by omega]

theorem castL (n : Nat) : ((no_index (OfNat.ofNat n : Nat) : Nat) : Int) = OfNat.ofNat n := rfl
theorem neL (a n : Nat) : ((a : Int) != (no_index (OfNat.ofNat n : Int))) = (a != OfNat.ofNat n) := neI a (OfNat.ofNat n)
theorem eqL (a n : Nat) : ((a : Int) == (no_index (OfNat.ofNat n : Int))) = (a == OfNat.ofNat n) := eqI a (OfNat.ofNat n)

/-! Tryd# Words -/
theorem wd_eq (a k : Nat) : wd a k = a / 2 ^ (64 * k) % 18446744073709551616 := rfl
theorem P_succ (k : Nat) : 2 ^ (64 * (k + 1)) = 2 ^ (64 * k) * 18446744073709551616 := by rw [Nat.mul_add, Nat.mul_one, Nat.pow_add]
theorem dv_step (a k : Nat) : a / 2 ^ (64 * k) = 18446744073709551616 * (a / 2 ^ (64 * (k + 1))) + wd a k := by
  rw [P_succ, ← Nat.div_div_eq_div_mul, wd_eq]
  omega
theorem wd_split (a k : Nat) : a % 2 ^ (64 * (k + 1)) = a % 2 ^ (64 * k) + 2 ^ (64 * k) * wd a k := by
  rw [Nat.mul_add, Nat.mul_one, Nat.pow_add, Nat.mod_mul]
  rfl
/-- What goes over into word k of a sum. -/
def cy (a b k : Nat) : Nat := (a % 2 ^ (64 * k) + b % 2 ^ (64 * k)) / 2 ^ (64 * k)
theorem cy_zero (a b : Nat) : cy a b 0 = 0 := by simp [cy, Nat.mod_one]
theorem cy_le (a b k : Nat) : cy a b k ≤ 1 := by
  unfold cy
  have h := Nat.two_pow_pos (64 * k)
  have h1 := Nat.mod_lt a h
  have h2 := Nat.mod_lt b h
  have : (a % 2 ^ (64 * k) + b % 2 ^ (64 * k)) / 2 ^ (64 * k) < 2 := (Nat.div_lt_iff_lt_mul h).2 (by omega)
  omega
theorem cy_add (a b k : Nat) : (wd a k + wd b k + cy a b k) = wd (a + b) k + 18446744073709551616 * cy a b (k + 1) := by
  have h := Nat.two_pow_pos (64 * k)
  have e1 := wd_split a k
  have e2 := wd_split b k
  unfold cy
  rw [e1, e2]
  generalize hM : 2 ^ (64 * k) = M at *
  have hM2 : 2 ^ (64 * (k + 1)) = M * 18446744073709551616 := by rw [Nat.mul_add, Nat.mul_one, Nat.pow_add, hM]
  rw [hM2]
  have hab : wd (a + b) k = (wd a k + wd b k + (a % M + b % M) / M) % 18446744073709551616 := by
    simp only [wd, hM]
    have h1 := Nat.div_add_mod a M
    have h2 := Nat.div_add_mod b M
    have h3 : a + b = (a % M + b % M) + M * (a / M + b / M) := by rw [Nat.mul_add]; omega
    rw [h3, Nat.add_mul_div_left _ _ h]
    omega
  have h5 : (a % M + M * wd a k + (b % M + M * wd b k)) / (M * 18446744073709551616) = (wd a k + wd b k + (a % M + b % M) / M) / 18446744073709551616 := by
    rw [← Nat.div_div_eq_div_mul, show a % M + M * wd a k + (b % M + M * wd b k) = (a % M + b % M) + M * (wd a k + wd b k) by rw [Nat.mul_add]; omega, Nat.add_mul_div_left _ _ h, Nat.add_comm]
  rw [h5, hab]
  omega
theorem cy_four (a b : Nat) (ha : a < 2 ^ 256) (hb : b < 2 ^ 256) : cy a b 4 = (a + b) / 2 ^ 256 := by
  unfold cy
  rw [show 64 * 4 = 256 from rfl, Nat.mod_eq_of_lt ha, Nat.mod_eq_of_lt hb]
theorem wd_four_add (a c k : Nat) (hk : k < 4) : wd (a + 2 ^ 256 * c) k = wd a k := by
  have e : 2 ^ 256 = 2 ^ (64 * k) * (18446744073709551616 * 2 ^ (64 * (3 - k))) := by
    rw [show (18446744073709551616 : Nat) = 2 ^ 64 from rfl, ← Nat.pow_add, ← Nat.pow_add]
    congr 1; omega
  rw [wd_eq, wd_eq, e, Nat.mul_assoc, Nat.add_mul_div_left _ _ (Nat.two_pow_pos _), Nat.mul_assoc, Nat.add_mul_mod_self_left]
theorem wd_mod (a k : Nat) (hk : k < 4) : wd (a % 2 ^ 256) k = wd a k := by
  rw [← wd_four_add (a % 2 ^ 256) (a / 2 ^ 256) k hk, Nat.mod_add_div]
theorem wd_zero (k : Nat) : wd 0 k = 0 := by simp [wd]
theorem wd_big (a k : Nat) (h : a < 2 ^ (64 * k)) : wd a k = 0 := by
  rw [wd_eq, Nat.div_eq_of_lt h]
theorem wd_small (a : Nat) (h : a < 18446744073709551616) : wd a 0 = a := by
  rw [wd_eq]; simp; omega
/-- The words of a number are all that there is to it. -/
theorem wd_inj4 (a b : Nat) (ha : a < 2 ^ 256) (hb : b < 2 ^ 256) (h : ∀ k, k < 4 → wd a k = wd b k) : a = b := by
  have h0 := h 0 (by decide); have h1 := h 1 (by decide); have h2 := h 2 (by decide); have h3 := h 3 (by decide)
  simp only [wd, Nat.reduceMul, Nat.reducePow, Nat.pow_zero, Nat.div_one] at *
  omega
theorem nat4_inj (a b : Nat) (ha : a < 2 ^ 256) (hb : b < 2 ^ 256) : nat4 a = nat4 b ↔ a = b :=
  ⟨fun h => wd_inj4 a b ha hb fun k hk => arr_inj h k hk, fun h => by rw [h]⟩
theorem nat4_mod (a : Nat) : nat4 (a % 2 ^ 256) = nat4 a := arr_congr fun k hk => wd_mod a k hk
theorem mod_div_pow (q n j : Nat) (h : j ≤ n) : q % 2 ^ n / 2 ^ j = q / 2 ^ j % 2 ^ (n - j) := by
  rw [show 2 ^ n = 2 ^ j * 2 ^ (n - j) by rw [← Nat.pow_add]; congr 1; omega, Nat.mod_mul_right_div_self]
theorem mod_pow_two (x n : Nat) (h : 0 < n) : x % 2 ^ n % 2 = x % 2 := Nat.mod_mod_of_dvd x (Nat.dvd_trans ⟨1, rfl⟩ (Nat.pow_dvd_pow 2 (show 1 ≤ n from h)))
theorem wd_bit (a i : Nat) : wd a (i / 64) / 2 ^ (i % 64) % 2 = a / 2 ^ i % 2 := by
  rw [wd, mod_div_pow _ 64 _ (by omega), mod_pow_two _ _ (by omega), Nat.div_div_eq_div_mul, ← Nat.pow_add, Nat.div_add_mod]

theorem pow_64 (p : Nat) (hp : p < 64) : 2 ^ (64 - p) = 2 * 2 ^ (63 - p) := by
  obtain ⟨d, hd⟩ : ∃ d, 63 - p = d := ⟨_, rfl⟩
  rw [hd, show 64 - p = d + 1 by omega, Nat.pow_succ, Nat.mul_comm]

/-- The order of two numbers, as a sign. -/
def sg (a b : Nat) : Int := if a < b then -1 else if b < a then 1 else 0
theorem sg_lt {a b k : Nat} (h : a / 2 ^ (64 * (k + 1)) = b / 2 ^ (64 * (k + 1))) (h2 : wd a k < wd b k) : sg a b = -1 := by
  have h3 : a / 2 ^ (64 * k) < b / 2 ^ (64 * k) := by rw [dv_step a k, dv_step b k]; omega
  have : a < b := Nat.lt_of_not_le fun hh => absurd (Nat.div_le_div_right (c := 2 ^ (64 * k)) hh) (by omega)
  simp [sg, this]
theorem sg_gt {a b k : Nat} (h : a / 2 ^ (64 * (k + 1)) = b / 2 ^ (64 * (k + 1))) (h2 : wd b k < wd a k) : sg a b = 1 := by
  have h3 : b / 2 ^ (64 * k) < a / 2 ^ (64 * k) := by rw [dv_step a k, dv_step b k]; omega
  have : b < a := Nat.lt_of_not_le fun hh => absurd (Nat.div_le_div_right (c := 2 ^ (64 * k)) hh) (by omega)
  simp [sg, this, show ¬ a < b by omega]
theorem sg_neg {a b : Nat} (h : a < b) : sg a b = -1 := by simp [sg, h]
theorem sg_pos {a b : Nat} (h : b < a) : sg a b = 1 := by simp [sg, h, show ¬ a < b by omega]
theorem sg_same {a : Nat} : sg a a = 0 := by simp [sg]
theorem sg_nonneg {a b : Nat} (h : b ≤ a) : 0 ≤ sg a b := by
  rcases Nat.lt_or_eq_of_le h with h | h
  · rw [sg_pos h]; decide
  · subst h; rw [sg_same]; decide
theorem sg_lt0 {a b : Nat} (h : a < b) : sg a b < 0 := by rw [sg_neg h]; decide

/-! Tryd# Arrays against each other -/
def lits (n : Nat) (f : Nat → Nat) : List Lit := (List.range n).map fun i => .int .u64 (f i : Int)
theorem litsEq_lits {n : Nat} {f g : Nat → Nat} : litsEq (lits n f) (lits n g) = decide (∀ i, i < n → f i = g i) := by
  rw [Bool.eq_iff_iff, litsEq_iff, decide_eq_true_iff]
  simp only [lits]
  rw [List.map_inj_left]
  simp only [List.mem_range, Lit.int.injEq, true_and]
  exact ⟨fun h i hi => by have := h i hi; omega, fun h i hi => by rw [h i hi]⟩
theorem litsEq_nat4 {a b : Nat} (ha : a < 2 ^ 256) (hb : b < 2 ^ 256) : litsEq (lits 4 (wd a)) (lits 4 (wd b)) = decide (a = b) := by
  rw [litsEq_lits, Bool.eq_iff_iff, decide_eq_true_iff, decide_eq_true_iff]
  exact ⟨fun h => wd_inj4 a b ha hb h, fun h => by intros; rw [h]⟩
theorem valsOf_map {α : Type} (g : α → Value) : ∀ l : List α, valsOf (l.map fun i => SV.v (g i)) = some (l.map g)
  | [] => rfl
  | a :: l => by simp [valsOf, valsOf_map g l]
theorem mapM_all {α β : Type} (g : α → Option β) (h : α → β) : ∀ l : List α, (∀ a ∈ l, g a = some (h a)) → l.mapM g = some (l.map h)
  | [], _ => by simp
  | a :: l, hh => by
    rw [List.mapM_cons, hh a (by simp), mapM_all g h l (fun b hb => hh b (by simp [hb]))]
    rfl
theorem flat_map {α β : Type} (g : α → β) (l : List α) : (l.map fun i => [g i]).flatten = l.map g := by
  induction l with
  | nil => rfl
  | cons a l ih => simp [ih]
theorem litsA_row {P : Program} {t n e : Nat} {k : IntKind} {g : Nat → Int} (hu : P.underlying t = some (.array n e)) (he : P.underlying e = some (.int k)) (hc : P.cellsOf t = n) (hce : P.cellsOf e = 1)
    (hg : ∀ i, i < n → (Lit.int k (g i)).wf = true) : litsA P t (some ((List.range n).map fun i => SV.v (.int k (g i)))) = some ((List.range n).map fun i => .int k (g i)) := by
  unfold litsA
  rw [Option.bind_some, valsOf_map, Option.bind_some]
  show P.keyLits (8 + 1) t _ = _
  unfold Program.keyLits
  rw [hu]
  simp only [List.length_map, List.length_range, hc, if_true]
  rw [mapM_all _ (fun i => [Lit.int k (g i)])]
  · simp only [Option.map_some, flat_map]
  · intro i hi
    rw [List.mem_range] at hi
    have : ((List.map (fun i => Value.int k (g i)) (List.range n)).drop (i * P.cellsOf e)).take (P.cellsOf e) = [.int k (g i)] := by
      rw [hce, Nat.mul_one]
      apply List.ext_getElem?
      intro j
      rcases j with _ | j
      · simp [hi]
      · simp; omega
    rw [this]
    show P.keyLits (7 + 1) e _ = _
    unfold Program.keyLits
    rw [he]
    simp only [hg i hi, and_self, if_true]
theorem wf_u64 (n : Nat) (h : n < 18446744073709551616) : (Lit.int .u64 (n : Int)).wf = true := by
  have h1 : IntKind.u64.min = 0 := rfl
  have h2 : IntKind.u64.max = 18446744073709551615 := rfl
  simp only [Lit.wf, h1, h2, Bool.and_eq_true, decide_eq_true_iff]
  omega
theorem litsA_arr {P : Program} {t n e : Nat} {f : Nat → Nat} (hu : P.underlying t = some (.array n e)) (he : P.underlying e = some (.int .u64)) (hc : P.cellsOf t = n) (hce : P.cellsOf e = 1)
    (hf : ∀ i, i < n → f i < 18446744073709551616) : litsA P t (some (arr n f)) = some (lits n f) := litsA_row hu he hc hce fun i hi => wf_u64 _ (hf i hi)
theorem arr4_zero : arr 4 (fun _ => 0) = nat4 0 := arr_congr fun i _ => (wd_zero i).symm
theorem nat4_small {a : Nat} (ha : a < 18446744073709551616) : arr 4 (fun j => if j = 0 then a else 0) = nat4 a := by
  refine arr_congr fun i hi => ?_
  by_cases h : i = 0
  · subst h; simp [wd_small a ha]
  · simp only [h, if_false]
    rw [wd_big]
    exact Nat.lt_of_lt_of_le ha (Nat.pow_le_pow_right (n := 2) (i := 64) (by decide) (by omega))
theorem arr_setL {n i : Nat} {f : Nat → Nat} (x : Nat) : (arr n f).set i (.v (.int .u64 (no_index (OfNat.ofNat x : Int)))) = arr n (fun j => if j = i then OfNat.ofNat x else f j) := arr_set x

/-! Tryd# Bit by bit -/
/-- One bit more above what is left. -/
theorem or_bit (q w i j : Nat) (hq : q % 2 ^ (i + 1) = 0) (hw : w ≤ 1) (hi : i / 64 = j) : wd q j ||| (w * 2 ^ (i % 64) % 18446744073709551616) = wd (q + w * 2 ^ i) j := by
  have hs : w * 2 ^ (i % 64) < 18446744073709551616 := by
    have h1 : 2 ^ (i % 64) ≤ 2 ^ 63 := Nat.pow_le_pow_right (by decide) (by omega)
    have : w * 2 ^ (i % 64) ≤ 1 * 2 ^ 63 := Nat.mul_le_mul hw h1
    omega
  rw [Nat.mod_eq_of_lt hs]
  obtain ⟨t, rfl⟩ := Nat.dvd_of_mod_eq_zero hq
  have hi2 : i = 64 * j + i % 64 := by rw [← hi, Nat.div_add_mod]
  have e1 : 2 ^ (i + 1) * t = 2 ^ (64 * j) * (2 ^ (i % 64) * (2 * t)) := by
    conv => lhs; rw [hi2, Nat.pow_succ, Nat.pow_add]
    simp only [Nat.mul_assoc]
  have e2 : w * 2 ^ i = 2 ^ (64 * j) * (2 ^ (i % 64) * w) := by
    conv => lhs; rw [hi2, Nat.pow_add]
    rw [Nat.mul_comm w, Nat.mul_assoc]
  rw [e1, e2, ← Nat.mul_add, wd_eq, wd_eq, Nat.mul_div_cancel_left _ (Nat.two_pow_pos _), Nat.mul_div_cancel_left _ (Nat.two_pow_pos _), ← Nat.mul_add]
  have e3 : (18446744073709551616 : Nat) = 2 ^ (i % 64) * 2 ^ (64 - i % 64) := by
    rw [← Nat.pow_add, show i % 64 + (64 - i % 64) = 64 by omega]
  have e4 : 2 ^ (64 - i % 64) = 2 * 2 ^ (63 - i % 64) := pow_64 _ (by omega)
  rw [e3, Nat.mul_mod_mul_left, Nat.mul_mod_mul_left, Nat.mul_comm w]
  have e5 : (2 * t + w) % 2 ^ (64 - i % 64) = 2 * t % 2 ^ (64 - i % 64) + w := by
    rw [e4, Nat.mul_mod_mul_left, Nat.mod_mul, show (2 * t + w) / 2 = t by omega]
    omega
  rw [e5, Nat.mul_add]
  refine nat_join (i % 64 + 1) _ _ ?_ ?_
  · rw [e4, Nat.mul_mod_mul_left, ← Nat.mul_assoc, ← Nat.pow_succ, Nat.mul_mod_right]
  · rw [Nat.pow_succ]
    exact Nat.mul_lt_mul_of_le_of_lt (Nat.le_refl _) (by omega) (Nat.two_pow_pos _)
theorem wd_above (q x i j : Nat) (hq : q % 2 ^ (i + 1) = 0) (hx : x ≤ 1) (hj : i / 64 ≠ j) : wd (q + x * 2 ^ i) j = wd q j := by
  obtain ⟨t, rfl⟩ := Nat.dvd_of_mod_eq_zero hq
  have hlt : x * 2 ^ i < 2 ^ (i + 1) := by
    rw [Nat.pow_succ, Nat.mul_comm]
    exact Nat.mul_lt_mul_of_le_of_lt (Nat.le_refl _) (by omega) (Nat.two_pow_pos _)
  rcases Nat.lt_or_gt_of_ne hj with h | h
  · have e : 2 ^ (64 * j) = 2 ^ (i + 1) * 2 ^ (64 * j - (i + 1)) := by rw [← Nat.pow_add]; congr 1; omega
    rw [wd_eq, wd_eq, e, ← Nat.div_div_eq_div_mul, ← Nat.div_div_eq_div_mul, Nat.mul_add_div (Nat.two_pow_pos _), Nat.div_eq_of_lt hlt, Nat.add_zero, Nat.mul_div_cancel_left _ (Nat.two_pow_pos _)]
  · have e : 2 ^ i = 2 ^ (64 * j) * (18446744073709551616 * 2 ^ (i - 64 * (j + 1))) := by
      rw [show (18446744073709551616 : Nat) = 2 ^ 64 from rfl, ← Nat.pow_add, ← Nat.pow_add]; congr 1; omega
    rw [Nat.pow_succ, e, wd_eq, wd_eq]
    have e1 : 2 ^ (64 * j) * (18446744073709551616 * 2 ^ (i - 64 * (j + 1))) * 2 * t = 2 ^ (64 * j) * (18446744073709551616 * (2 ^ (i - 64 * (j + 1)) * 2 * t)) := by simp only [Nat.mul_assoc]
    have e2 : x * (2 ^ (64 * j) * (18446744073709551616 * 2 ^ (i - 64 * (j + 1)))) = 2 ^ (64 * j) * (18446744073709551616 * (2 ^ (i - 64 * (j + 1)) * x)) := by
      rw [Nat.mul_comm x]; simp only [Nat.mul_assoc]
    rw [e1, e2, ← Nat.mul_add, Nat.mul_div_cancel_left _ (Nat.two_pow_pos _), Nat.mul_div_cancel_left _ (Nat.two_pow_pos _), ← Nat.mul_add, Nat.mul_mod_right, Nat.mul_mod_right]
/-- A division, a bit further down. -/
theorem div_bit (a m i v : Nat) (hm : 0 < m) (hv : v = 2 * (a / 2 ^ (i + 1) % m) + a / 2 ^ i % 2) :
    (a / 2 ^ i % m = if m ≤ v then v - m else v) ∧ a / 2 ^ i / m = 2 * (a / 2 ^ (i + 1) / m) + (if m ≤ v then 1 else 0) := by
  have e : a / 2 ^ i = 2 * (a / 2 ^ (i + 1)) + a / 2 ^ i % 2 := by
    rw [Nat.pow_succ, ← Nat.div_div_eq_div_mul]; omega
  have h1 := Nat.div_add_mod (a / 2 ^ (i + 1)) m
  have h2 := Nat.mod_lt (a / 2 ^ (i + 1)) hm
  have h3 : m * (2 * (a / 2 ^ (i + 1) / m)) = 2 * (m * (a / 2 ^ (i + 1) / m)) := by rw [Nat.mul_left_comm]
  have ev : a / 2 ^ i = m * (2 * (a / 2 ^ (i + 1) / m)) + v := by omega
  have hv : v < 2 * m := by omega
  rw [ev, Nat.mul_add_mod, Nat.mul_add_div hm]
  by_cases h : m ≤ v
  · rw [if_pos h, if_pos h, Nat.mod_eq_sub_mod h, Nat.mod_eq_of_lt (a := v - m) (by omega), Nat.div_eq_sub_div hm h, Nat.div_eq_of_lt (show v - m < m by omega)]
    exact ⟨rfl, rfl⟩
  · rw [if_neg h, if_neg h, Nat.mod_eq_of_lt (by omega), Nat.div_eq_of_lt (show v < m by omega)]
    exact ⟨rfl, rfl⟩

/-! Tryd# How many bits -/
/-- How many bits a number has. -/
def blen (a : Nat) : Nat := if a = 0 then 0 else a.log2 + 1
theorem blen_half (a : Nat) (h : a ≠ 0) : blen a = 1 + blen (a / 2) := by
  unfold blen
  rw [if_neg h, Nat.log2_def]
  by_cases h2 : a ≥ 2
  · rw [if_pos h2, if_neg (by omega)]; omega
  · rw [if_neg h2, if_pos (by omega)]
theorem blen_shift : ∀ (k a : Nat), a / 2 ^ k ≠ 0 → blen a = k + blen (a / 2 ^ k)
  | 0, a, _ => by simp
  | k + 1, a, h => by
    have ha : a ≠ 0 := by rintro rfl; simp at h
    have e : a / 2 ^ (k + 1) = a / 2 / 2 ^ k := by rw [Nat.pow_succ, Nat.mul_comm, Nat.div_div_eq_div_mul]
    rw [e] at h ⊢
    rw [blen_half a ha, blen_shift k (a / 2) h]
    omega
theorem lib_blen : ∀ (k x : Nat), x < 2 ^ k → k ≤ 64 → Lib.bitLen x = blen x
  | 0, x, h, _ => by have : x = 0 := by simpa using h
                     subst this; rfl
  | k + 1, x, h, hk => by
    by_cases h0 : x = 0
    · subst h0; rfl
    · have hp : 2 ^ (k + 1) ≤ 2 ^ 64 := Nat.pow_le_pow_right (by decide) hk
      rw [Lib.bitLen_half x h0 (by omega), blen_half x h0, lib_blen k (x / 2) (by rw [Nat.pow_succ] at h; omega) (by omega)]
theorem blen_word (a j : Nat) (ha : a < 2 ^ (64 * (j + 1))) (h : wd a j ≠ 0) : blen a = 64 * j + Lib.bitLen (wd a j) := by
  have e : a / 2 ^ (64 * j) = wd a j := by
    rw [wd_eq, Nat.mod_eq_of_lt]
    rw [P_succ] at ha
    exact Nat.div_lt_of_lt_mul (by omega)
  rw [lib_blen 64 _ (wd_lt a j) (by omega), blen_shift (64 * j) a (by rw [e]; exact h), e]
theorem lt_word (a j : Nat) (ha : a < 2 ^ (64 * (j + 1))) (h : wd a j = 0) : a < 2 ^ (64 * j) := by
  have h1 := dv_step a j
  rw [h, Nat.div_eq_of_lt ha] at h1
  rcases Nat.lt_or_ge a (2 ^ (64 * j)) with h2 | h2
  · exact h2
  · have := Nat.div_pos h2 (Nat.two_pow_pos _)
    omega

/-! Tryd# Moves -/
/-- A number, moved. -/
def shf (a : Nat) (n : Int) : Nat := if n ≤ -256 ∨ 256 ≤ n then 0 else if 0 ≤ n then a * 2 ^ n.toNat % 2 ^ 256 else a / 2 ^ (-n).toNat
/-- A word, wherever. -/
def wat (a : Nat) (k : Int) : Nat := if k < 0 ∨ 4 ≤ k then 0 else wd a k.toNat
theorem wat_lt (a : Nat) (k : Int) : wat a k < 18446744073709551616 := by
  unfold wat; split
  · decide
  · exact wd_lt _ _
theorem wat_nat (a k : Nat) (ha : a < 2 ^ 256) : wat a (k : Int) = wd a k := by
  unfold wat
  by_cases h : 4 ≤ k
  · rw [if_pos (by omega), wd_big]
    exact Nat.lt_of_lt_of_le ha (Nat.pow_le_pow_right (n := 2) (i := 256) (by decide) (by omega))
  · rw [if_neg (by omega)]; rfl
theorem wat_neg (a : Nat) (k : Int) (h : k < 0) : wat a k = 0 := if_pos (.inl h)
/-- Two words, and where they meet. -/
theorem word_meet (q p : Nat) (hp : p < 64) : (q / 2 ^ 64 % 2 ^ 64 * 2 ^ p % 2 ^ 64) + q % 2 ^ 64 / 2 / 2 ^ (63 - p) = q / 2 ^ (64 - p) % 2 ^ 64 := by
  have e0 : q % 2 ^ 64 / 2 / 2 ^ (63 - p) = q % 2 ^ 64 / 2 ^ (64 - p) := by
    rw [Nat.div_div_eq_div_mul, ← pow_64 p hp]
  have e1 : 2 ^ 64 = 2 ^ (64 - p) * 2 ^ p := by rw [← Nat.pow_add]; congr 1; omega
  have hA := Nat.two_pow_pos (64 - p)
  have hB := Nat.two_pow_pos p
  rw [e0]
  generalize hQ : q / 2 ^ 64 = Q
  have hq : q = 2 ^ 64 * Q + q % 2 ^ 64 := by rw [← hQ]; exact (Nat.div_add_mod q _).symm
  have hr : q % 2 ^ 64 < 2 ^ 64 := Nat.mod_lt _ (by decide)
  generalize q % 2 ^ 64 = r at hq hr
  have e2 : q / 2 ^ (64 - p) = 2 ^ p * Q + r / 2 ^ (64 - p) := by
    rw [hq, e1, Nat.mul_assoc, Nat.mul_add_div hA]
  have h3 : r / 2 ^ (64 - p) < 2 ^ p := (Nat.div_lt_iff_lt_mul hA).2 (by rw [Nat.mul_comm]; omega)
  rw [e2]
  have e4 : Q % 2 ^ 64 * 2 ^ p % 2 ^ 64 = 2 ^ p * (Q % 2 ^ (64 - p)) := by
    rw [Nat.mul_comm, Nat.mul_mod, Nat.mod_mod, ← Nat.mul_mod]
    conv => lhs; rw [e1, Nat.mul_comm (2 ^ (64 - p)), Nat.mul_mod_mul_left]
  have e5 : (2 ^ p * Q + r / 2 ^ (64 - p)) % 2 ^ 64 = 2 ^ p * (Q % 2 ^ (64 - p)) + r / 2 ^ (64 - p) := by
    have hs : Q = 2 ^ (64 - p) * (Q / 2 ^ (64 - p)) + Q % 2 ^ (64 - p) := (Nat.div_add_mod _ _).symm
    have hl : Q % 2 ^ (64 - p) < 2 ^ (64 - p) := Nat.mod_lt _ hA
    generalize Q % 2 ^ (64 - p) = u at hs hl ⊢
    generalize Q / 2 ^ (64 - p) = v at hs
    have : 2 ^ p * Q + r / 2 ^ (64 - p) = (2 ^ p * u + r / 2 ^ (64 - p)) + 2 ^ 64 * v := by
      rw [hs, Nat.mul_add, e1, ← Nat.mul_assoc, Nat.mul_comm (2 ^ p) (2 ^ (64 - p))]; omega
    rw [this, Nat.add_mul_mod_self_left, Nat.mod_eq_of_lt]
    have : 2 ^ p * u + 2 ^ p ≤ 2 ^ p * 2 ^ (64 - p) := by rw [← Nat.mul_succ]; exact Nat.mul_le_mul_left _ hl
    rw [e1, Nat.mul_comm (2 ^ (64 - p))]
    omega
  rw [e4, e5]
theorem shl_mod (x p : Nat) (hp : p < 64) : x * 2 ^ p % 2 ^ 64 % 2 ^ p = 0 := by
  rw [Nat.mod_mod_of_dvd _ (Nat.pow_dvd_pow 2 (by omega)), Nat.mul_mod_left]
theorem or_meet (x y p : Nat) (hp : p < 64) (hy : y < 18446744073709551616) : (x * 2 ^ p % 18446744073709551616) ||| (y / 2 / 2 ^ (63 - p)) = x * 2 ^ p % 18446744073709551616 + y / 2 / 2 ^ (63 - p) := by
  refine nat_join p _ _ (shl_mod x p hp) ?_
  rw [Nat.div_div_eq_div_mul, ← pow_64 p hp]
  refine (Nat.div_lt_iff_lt_mul (Nat.two_pow_pos _)).2 ?_
  rw [← Nat.pow_add, show p + (64 - p) = 64 by omega]
  exact hy
theorem shift_word (a : Nat) (ws : Int) (p i : Nat) (n : Int) (ha : a < 2 ^ 256) (hn : n = 64 * ws + p) (hp : p < 64) (h1 : -256 < n) (h2 : n < 256) (hi : i < 4) :
    (wat a ((i : Int) - ws) * 2 ^ p % 18446744073709551616) ||| (wat a ((i : Int) - ws - 1) / 2 / 2 ^ (63 - p)) = wd (shf a n) i := by
  rw [or_meet _ _ _ hp (wat_lt _ _)]
  have key : ∀ q : Nat, q < 2 ^ 256 → ∀ k : Nat, wat q (k : Int) * 2 ^ p % 18446744073709551616 + wat q ((k : Int) - 1) / 2 / 2 ^ (63 - p) = if k = 0 then q * 2 ^ p % 2 ^ 64 else q / 2 ^ (64 * k - p) % 2 ^ 64 := by
    intro q hq k
    cases k with
    | zero =>
      rw [wat_neg q (((0 : Nat) : Int) - 1) (by omega), wat_nat q 0 hq, if_pos rfl]
      simp only [wd, Nat.mul_zero, Nat.pow_zero, Nat.div_one, Nat.zero_div, Nat.add_zero]
      rw [Nat.mul_mod, Nat.mod_mod, ← Nat.mul_mod]
    | succ k =>
      rw [show ((k + 1 : Nat) : Int) - 1 = ((k : Nat) : Int) by omega, wat_nat q _ hq, wat_nat q _ hq, if_neg (by omega)]
      have := word_meet (q / 2 ^ (64 * k)) p hp
      have e3 : q / 2 ^ (64 * k) / 2 ^ 64 = q / 2 ^ (64 * (k + 1)) := by rw [Nat.div_div_eq_div_mul, ← Nat.pow_add]; rfl
      have e4 : q / 2 ^ (64 * k) / 2 ^ (64 - p) = q / 2 ^ (64 * (k + 1) - p) := by rw [Nat.div_div_eq_div_mul, ← Nat.pow_add, show 64 * k + (64 - p) = 64 * (k + 1) - p by omega]
      rw [e3, e4] at this
      rw [← this]
      rfl
  by_cases h0 : 0 ≤ n
  · rw [shf, if_neg (by omega), if_pos h0, wd_mod _ _ hi]
    by_cases hk : (i : Int) - ws < 0
    · rw [wat_neg _ _ hk, wat_neg _ _ (by omega), wd_eq]
      obtain ⟨d, hd⟩ : ∃ d : Nat, n.toNat = 64 * i + 64 + d := ⟨n.toNat - (64 * i + 64), by omega⟩
      have : a * 2 ^ n.toNat = 2 ^ (64 * i) * (18446744073709551616 * (a * 2 ^ d)) := by
        rw [hd, Nat.pow_add, Nat.pow_add, show (18446744073709551616 : Nat) = 2 ^ 64 from rfl, Nat.mul_comm a, Nat.mul_assoc, Nat.mul_assoc, Nat.mul_comm a]
      rw [this, Nat.mul_div_cancel_left _ (Nat.two_pow_pos _), Nat.mul_mod_right]
      simp
    · obtain ⟨k, hk⟩ := Int.eq_ofNat_of_zero_le (a := (i : Int) - ws) (by omega)
      rw [hk, key a ha k, wd_eq]
      by_cases h3 : k = 0
      · rw [if_pos h3, show n.toNat = 64 * i + p by omega, Nat.pow_add, Nat.mul_comm (2 ^ (64 * i)), ← Nat.mul_assoc, Nat.mul_div_cancel _ (Nat.two_pow_pos _)]
      · rw [if_neg h3, show 64 * i = (64 * k - p) + n.toNat by omega, Nat.pow_add, Nat.mul_comm (2 ^ (64 * k - p)), ← Nat.div_div_eq_div_mul, Nat.mul_div_cancel _ (Nat.two_pow_pos _)]
  · rw [shf, if_neg (by omega), if_neg h0, wd_eq]
    obtain ⟨k, hk⟩ := Int.eq_ofNat_of_zero_le (a := (i : Int) - ws) (by omega)
    rw [hk, key a ha k, if_neg (by omega), Nat.div_div_eq_div_mul, ← Nat.pow_add, show (-n).toNat + 64 * i = 64 * k - p by omega]
end Go.Ab

/-
  Numbers: a product, word by word.
-/
namespace Go.Ab
open Go
set_option linter.unusedSimpArgs false
set_option linter.unusedVariables false

theorem wd_add_high (v y s t : Nat) (h : t < s) : wd (v + y * 2 ^ (64 * s)) t = wd v t := by
  have e : 2 ^ (64 * s) = 2 ^ (64 * t) * (18446744073709551616 * 2 ^ (64 * (s - (t + 1)))) := by
    rw [show (18446744073709551616 : Nat) = 2 ^ 64 from rfl, ← Nat.pow_add, ← Nat.pow_add]; congr 1; omega
  rw [wd_eq, wd_eq, e, Nat.mul_left_comm, Nat.add_mul_div_left _ _ (Nat.two_pow_pos _), Nat.mul_left_comm, Nat.add_mul_mod_self_left]

def mV (a b i j : Nat) : Nat := a % 2 ^ (64 * i) * b + wd a i * (b % 2 ^ (64 * j)) * 2 ^ (64 * i)
def mC (a b i j : Nat) : Nat := mV a b i j / 2 ^ (64 * (i + j)) - a % 2 ^ (64 * i) * b / 2 ^ (64 * (i + j))
theorem mV_zero (a b i : Nat) : mV a b i 0 = a % 2 ^ (64 * i) * b := by simp [mV, Nat.mod_one]
theorem mC_zero (a b i : Nat) : mC a b i 0 = 0 := by simp [mC, mV_zero]
theorem mV_succ (a b i j : Nat) : mV a b i (j + 1) = mV a b i j + wd a i * wd b j * 2 ^ (64 * (i + j)) := by
  unfold mV
  rw [wd_split b j, Nat.mul_add, Nat.add_mul, ← Nat.add_assoc, Nat.mul_add, Nat.pow_add]
  congr 1
  rw [Nat.mul_left_comm (wd a i), Nat.mul_comm (2 ^ (64 * j)) (wd a i * wd b j), Nat.mul_assoc, Nat.mul_comm (2 ^ (64 * j))]
theorem m_step (a b i j : Nat) : mC a b i (j + 1) = (wd a i * wd b j + wd (a % 2 ^ (64 * i) * b) (i + j) + mC a b i j) / 18446744073709551616 ∧
    wd (mV a b i (j + 1)) (i + j) = (wd a i * wd b j + wd (a % 2 ^ (64 * i) * b) (i + j) + mC a b i j) % 18446744073709551616 := by
  have hW : a % 2 ^ (64 * i) * b / 2 ^ (64 * (i + j)) ≤ mV a b i j / 2 ^ (64 * (i + j)) := Nat.div_le_div_right (Nat.le_add_right _ _)
  have h1 := dv_step (a % 2 ^ (64 * i) * b) (i + j)
  have h2 : mV a b i (j + 1) / 2 ^ (64 * (i + j)) = mV a b i j / 2 ^ (64 * (i + j)) + wd a i * wd b j := by
    rw [mV_succ, Nat.mul_comm (wd a i * wd b j), Nat.add_mul_div_left _ _ (Nat.two_pow_pos _)]
  have h3 : mV a b i (j + 1) / 2 ^ (64 * (i + j)) = 18446744073709551616 * (a % 2 ^ (64 * i) * b / 2 ^ (64 * (i + j + 1))) + (wd a i * wd b j + wd (a % 2 ^ (64 * i) * b) (i + j) + mC a b i j) := by
    rw [h2]; unfold mC; omega
  refine ⟨?_, ?_⟩
  · have : mC a b i (j + 1) = mV a b i (j + 1) / 2 ^ (64 * (i + j + 1)) - a % 2 ^ (64 * i) * b / 2 ^ (64 * (i + j + 1)) := rfl
    rw [this]
    have h4 : mV a b i (j + 1) / 2 ^ (64 * (i + j + 1)) = mV a b i (j + 1) / 2 ^ (64 * (i + j)) / 18446744073709551616 := by rw [P_succ, Nat.div_div_eq_div_mul]
    rw [h4, h3]
    omega
  · rw [wd_eq, h3]
    omega
theorem mul_word_le (a b i j : Nat) : wd a i * wd b j ≤ 18446744073709551615 * 18446744073709551615 := Nat.mul_le_mul (by have := wd_lt a i; omega) (by have := wd_lt b j; omega)
theorem mC_lt (a b i : Nat) : ∀ j, mC a b i j < 18446744073709551616
  | 0 => by rw [mC_zero]; decide
  | j + 1 => by
    have h1 := mul_word_le a b i j
    have h2 := wd_lt (a % 2 ^ (64 * i) * b) (i + j)
    have h3 := mC_lt a b i j
    rw [(m_step a b i j).1]
    omega
theorem mV_low (a b i j t : Nat) (h : t < i + j) : wd (mV a b i (j + 1)) t = wd (mV a b i j) t := by
  rw [mV_succ, wd_add_high _ _ _ _ h]
theorem m_arr (a b i j v : Nat) (hv : v = (wd a i * wd b j + wd (a % 2 ^ (64 * i) * b) (i + j) + mC a b i j) % 18446744073709551616) :
    (arr 8 fun t => if t = i + j then v else if t < i + j then wd (mV a b i j) t else wd (a % 2 ^ (64 * i) * b) t) = arr 8 fun t => if t < i + (j + 1) then wd (mV a b i (j + 1)) t else wd (a % 2 ^ (64 * i) * b) t := by
  refine arr_congr fun t _ => ?_
  by_cases h : t = i + j
  · rw [if_pos h, if_pos (by omega), h, hv, (m_step a b i j).2]
  · rw [if_neg h]
    by_cases h2 : t < i + j
    · rw [if_pos h2, if_pos (by omega), mV_low _ _ _ _ _ h2]
    · rw [if_neg h2, if_neg (by omega)]
theorem m_last (a b i : Nat) (hb : b < 2 ^ 256) (hi : i < 4) : (arr 8 fun t => if t = i + 4 then mC a b i 4 else if t < i + 4 then wd (mV a b i 4) t else wd (a % 2 ^ (64 * i) * b) t) = nat8 (a % 2 ^ (64 * (i + 1)) * b) := by
  have hV : mV a b i 4 = a % 2 ^ (64 * (i + 1)) * b := by
    unfold mV
    rw [wd_split a i, show 64 * 4 = 256 from rfl, Nat.mod_eq_of_lt hb, Nat.add_mul, Nat.mul_comm (wd a i * b), Nat.mul_assoc]
  have hP : 2 ^ (64 * (i + 4)) = 2 ^ (64 * i) * 2 ^ 256 := by rw [← Nat.pow_add, Nat.mul_add]
  have hW : a % 2 ^ (64 * i) * b < 2 ^ (64 * (i + 4)) := by
    rw [hP]
    exact Nat.mul_lt_mul_of_lt_of_le (Nat.mod_lt _ (Nat.two_pow_pos _)) (Nat.le_of_lt hb) (Nat.two_pow_pos _)
  have hV2 : a % 2 ^ (64 * (i + 1)) * b < 2 ^ (64 * (i + 4 + 1)) := by
    rw [show 2 ^ (64 * (i + 4 + 1)) = 2 ^ (64 * (i + 1)) * 2 ^ 256 by rw [← Nat.pow_add, show 64 * (i + 1) + 256 = 64 * (i + 4 + 1) by omega]]
    exact Nat.mul_lt_mul_of_lt_of_le (Nat.mod_lt _ (Nat.two_pow_pos _)) (Nat.le_of_lt hb) (Nat.two_pow_pos _)
  refine arr_congr fun t _ => ?_
  by_cases h : t = i + 4
  · rw [if_pos h, h]
    unfold mC
    have h5 : a % 2 ^ (64 * (i + 1)) * b / 2 ^ (64 * (i + 4)) < 18446744073709551616 := by
      refine (Nat.div_lt_iff_lt_mul (Nat.two_pow_pos _)).2 ?_
      rw [Nat.mul_comm 18446744073709551616, ← P_succ (i + 4)]
      exact hV2
    rw [Nat.div_eq_of_lt hW, Nat.sub_zero, hV, wd_eq, Nat.mod_eq_of_lt h5]
  · rw [if_neg h]
    by_cases h2 : t < i + 4
    · rw [if_pos h2, hV]
    · rw [if_neg h2, wd_big _ _ (Nat.lt_of_lt_of_le hW (Nat.pow_le_pow_right (by decide) (by omega))), wd_big _ _ (Nat.lt_of_lt_of_le hV2 (Nat.pow_le_pow_right (by decide) (by omega)))]
theorem arr8_zero : arr 8 (fun _ => 0) = nat8 0 := arr_congr fun i _ => (wd_zero i).symm
end Go.Ab

/-
  Numbers: bits of what is moved, lengths bit by bit.
-/
namespace Go.Ab
open Go
set_option linter.unusedSimpArgs false
set_option linter.unusedVariables false

theorem tmodL (a n : Nat) : Int.tmod (a : Int) (no_index (OfNat.ofNat n : Int)) = ((a % OfNat.ofNat n : Nat) : Int) := rfl
theorem tdivL (a n : Nat) : Int.tdiv (a : Int) (no_index (OfNat.ofNat n : Int)) = ((a / OfNat.ofNat n : Nat) : Int) := rfl

theorem blen_step (a k : Nat) : blen (a % 2 ^ (k + 1)) = if a / 2 ^ k % 2 = 1 then k + 1 else blen (a % 2 ^ k) := by
  have e : a % 2 ^ (k + 1) = a % 2 ^ k + 2 ^ k * (a / 2 ^ k % 2) := by rw [Nat.pow_succ, Nat.mod_mul]
  have h1 := Nat.mod_lt a (Nat.two_pow_pos k)
  by_cases h : a / 2 ^ k % 2 = 1
  · rw [if_pos h]
    have e2 : a % 2 ^ (k + 1) / 2 ^ k = 1 := by
      rw [e, h, Nat.mul_one, Nat.add_div_right _ (Nat.two_pow_pos k), Nat.div_eq_of_lt h1]
    rw [blen_shift k (a % 2 ^ (k + 1)) (by rw [e2]; decide), e2]
    rfl
  · rw [if_neg h, e, show a / 2 ^ k % 2 = 0 by omega, Nat.mul_zero, Nat.add_zero]

end Go.Ab

/-
  Numbers: digits of eight bits.
-/
namespace Go.Ab
open Go
set_option linter.unusedSimpArgs false
set_option linter.unusedVariables false

/-- A digit of a number. -/
def wd8 (n i : Nat) : Nat := n / 2 ^ (8 * i) % 2 ^ 8
theorem wd8_lt (n i : Nat) : wd8 n i < 256 := Nat.mod_lt _ (by decide)
theorem wd_eq8 (a k : Nat) : wd8 a k = a / 2 ^ (8 * k) % 256 := rfl
theorem P_succ8 (k : Nat) : 2 ^ (8 * (k + 1)) = 2 ^ (8 * k) * 256 := by rw [Nat.mul_add, Nat.mul_one, Nat.pow_add]
theorem dv_step8 (a k : Nat) : a / 2 ^ (8 * k) = 256 * (a / 2 ^ (8 * (k + 1))) + wd8 a k := by
  rw [P_succ8, ← Nat.div_div_eq_div_mul, wd_eq8]
  omega
theorem wd_split8 (a k : Nat) : a % 2 ^ (8 * (k + 1)) = a % 2 ^ (8 * k) + 2 ^ (8 * k) * wd8 a k := by
  rw [Nat.mul_add, Nat.mul_one, Nat.pow_add, Nat.mod_mul]
  rfl
/-- What goes over into word k of a sum. -/
def cy8 (a b k : Nat) : Nat := (a % 2 ^ (8 * k) + b % 2 ^ (8 * k)) / 2 ^ (8 * k)
theorem cy_zero8 (a b : Nat) : cy8 a b 0 = 0 := by simp [cy8, Nat.mod_one]
theorem cy_le8 (a b k : Nat) : cy8 a b k ≤ 1 := by
  unfold cy8
  have h := Nat.two_pow_pos (8 * k)
  have h1 := Nat.mod_lt a h
  have h2 := Nat.mod_lt b h
  have : (a % 2 ^ (8 * k) + b % 2 ^ (8 * k)) / 2 ^ (8 * k) < 2 := (Nat.div_lt_iff_lt_mul h).2 (by omega)
  omega
theorem cy_add8 (a b k : Nat) : (wd8 a k + wd8 b k + cy8 a b k) = wd8 (a + b) k + 256 * cy8 a b (k + 1) := by
  have h := Nat.two_pow_pos (8 * k)
  have e1 := wd_split8 a k
  have e2 := wd_split8 b k
  unfold cy8
  rw [e1, e2]
  generalize hM : 2 ^ (8 * k) = M at *
  have hM2 : 2 ^ (8 * (k + 1)) = M * 256 := by rw [Nat.mul_add, Nat.mul_one, Nat.pow_add, hM]
  rw [hM2]
  have hab : wd8 (a + b) k = (wd8 a k + wd8 b k + (a % M + b % M) / M) % 256 := by
    simp only [wd8, hM]
    have h1 := Nat.div_add_mod a M
    have h2 := Nat.div_add_mod b M
    have h3 : a + b = (a % M + b % M) + M * (a / M + b / M) := by rw [Nat.mul_add]; omega
    rw [h3, Nat.add_mul_div_left _ _ h]
    omega
  have h5 : (a % M + M * wd8 a k + (b % M + M * wd8 b k)) / (M * 256) = (wd8 a k + wd8 b k + (a % M + b % M) / M) / 256 := by
    rw [← Nat.div_div_eq_div_mul, show a % M + M * wd8 a k + (b % M + M * wd8 b k) = (a % M + b % M) + M * (wd8 a k + wd8 b k) by rw [Nat.mul_add]; omega, Nat.add_mul_div_left _ _ h, Nat.add_comm]
  rw [h5, hab]
  omega
theorem wd_zero8 (k : Nat) : wd8 0 k = 0 := by simp [wd8]
theorem wd_big8 (a k : Nat) (h : a < 2 ^ (8 * k)) : wd8 a k = 0 := by
  rw [wd_eq8, Nat.div_eq_of_lt h]
theorem wd_add_high8 (v y s t : Nat) (h : t < s) : wd8 (v + y * 2 ^ (8 * s)) t = wd8 v t := by
  have e : 2 ^ (8 * s) = 2 ^ (8 * t) * (256 * 2 ^ (8 * (s - (t + 1)))) := by
    rw [show (256 : Nat) = 2 ^ 8 from rfl, ← Nat.pow_add, ← Nat.pow_add]; congr 1; omega
  rw [wd_eq8, wd_eq8, e, Nat.mul_left_comm, Nat.add_mul_div_left _ _ (Nat.two_pow_pos _), Nat.mul_left_comm, Nat.add_mul_mod_self_left]

def mV8 (a b i j : Nat) : Nat := a % 2 ^ (8 * i) * b + wd8 a i * (b % 2 ^ (8 * j)) * 2 ^ (8 * i)
def mC8 (a b i j : Nat) : Nat := mV8 a b i j / 2 ^ (8 * (i + j)) - a % 2 ^ (8 * i) * b / 2 ^ (8 * (i + j))
theorem mV_zero8 (a b i : Nat) : mV8 a b i 0 = a % 2 ^ (8 * i) * b := by simp [mV8, Nat.mod_one]
theorem mC_zero8 (a b i : Nat) : mC8 a b i 0 = 0 := by simp [mC8, mV_zero8]
theorem mV_succ8 (a b i j : Nat) : mV8 a b i (j + 1) = mV8 a b i j + wd8 a i * wd8 b j * 2 ^ (8 * (i + j)) := by
  unfold mV8
  rw [wd_split8 b j, Nat.mul_add, Nat.add_mul, ← Nat.add_assoc, Nat.mul_add, Nat.pow_add]
  congr 1
  rw [Nat.mul_left_comm (wd8 a i), Nat.mul_comm (2 ^ (8 * j)) (wd8 a i * wd8 b j), Nat.mul_assoc, Nat.mul_comm (2 ^ (8 * j))]
theorem m_step8 (a b i j : Nat) : mC8 a b i (j + 1) = (wd8 a i * wd8 b j + wd8 (a % 2 ^ (8 * i) * b) (i + j) + mC8 a b i j) / 256 ∧
    wd8 (mV8 a b i (j + 1)) (i + j) = (wd8 a i * wd8 b j + wd8 (a % 2 ^ (8 * i) * b) (i + j) + mC8 a b i j) % 256 := by
  have hW : a % 2 ^ (8 * i) * b / 2 ^ (8 * (i + j)) ≤ mV8 a b i j / 2 ^ (8 * (i + j)) := Nat.div_le_div_right (Nat.le_add_right _ _)
  have h1 := dv_step8 (a % 2 ^ (8 * i) * b) (i + j)
  have h2 : mV8 a b i (j + 1) / 2 ^ (8 * (i + j)) = mV8 a b i j / 2 ^ (8 * (i + j)) + wd8 a i * wd8 b j := by
    rw [mV_succ8, Nat.mul_comm (wd8 a i * wd8 b j), Nat.add_mul_div_left _ _ (Nat.two_pow_pos _)]
  have h3 : mV8 a b i (j + 1) / 2 ^ (8 * (i + j)) = 256 * (a % 2 ^ (8 * i) * b / 2 ^ (8 * (i + j + 1))) + (wd8 a i * wd8 b j + wd8 (a % 2 ^ (8 * i) * b) (i + j) + mC8 a b i j) := by
    rw [h2]; unfold mC8; omega
  refine ⟨?_, ?_⟩
  · have : mC8 a b i (j + 1) = mV8 a b i (j + 1) / 2 ^ (8 * (i + j + 1)) - a % 2 ^ (8 * i) * b / 2 ^ (8 * (i + j + 1)) := rfl
    rw [this]
    have h4 : mV8 a b i (j + 1) / 2 ^ (8 * (i + j + 1)) = mV8 a b i (j + 1) / 2 ^ (8 * (i + j)) / 256 := by rw [P_succ8, Nat.div_div_eq_div_mul]
    rw [h4, h3]
    omega
  · rw [wd_eq8, h3]
    omega
theorem mV_low8 (a b i j t : Nat) (h : t < i + j) : wd8 (mV8 a b i (j + 1)) t = wd8 (mV8 a b i j) t := by
  rw [mV_succ8, wd_add_high8 _ _ _ _ h]

/-- A number of sixty-four digits. -/
def dgs (n : Nat) : List SV := iarr 64 fun i => ((wd8 n i : Nat) : Int)
theorem dgs_okk {m n : Nat} : (∀ x ∈ dgs n, x.ok m) = True := iarr_okk
theorem dgs_length {n : Nat} : (dgs n).length = 64 := iarr_length
theorem dgs_one {n : Nat} : oneAll (dgs n) = True := iarr_one
theorem dgs_get {n i : Nat} (h : i < 64) : (dgs n)[i]? = some (.v (.int .i64 ((wd8 n i : Nat) : Int))) := iarr_get h
theorem dgs_zero : iarr 64 (fun _ => 0) = dgs 0 := iarr_congr fun i _ => by rw [wd_zero8]; rfl
theorem wd8_512 (a c k : Nat) (hk : k < 64) : wd8 (a + 2 ^ 512 * c) k = wd8 a k := by
  have e : 2 ^ 512 = 2 ^ (8 * k) * (256 * 2 ^ (8 * (63 - k))) := by
    rw [show (256 : Nat) = 2 ^ 8 from rfl, ← Nat.pow_add, ← Nat.pow_add]
    congr 1; omega
  rw [wd_eq8, wd_eq8, e, Nat.mul_assoc, Nat.add_mul_div_left _ _ (Nat.two_pow_pos _), Nat.mul_assoc, Nat.add_mul_mod_self_left]
theorem pow_512 (x y : Nat) (h : x + y = 512) : 2 ^ 512 = 2 ^ x * 2 ^ y := by
  have e := Nat.pow_add 2 x y
  rw [h] at e
  exact e
theorem upd_digit {f : Nat → Int} {k i : Nat} {v : Int} (h : v = f k) : (if i = k then v else if i < k then f i else 0) = if i < k + 1 then f i else 0 := by
  by_cases h1 : i = k
  · subst h1; simp [h]
  · by_cases h2 : i < k
    · simp [h1, h2, show i < k + 1 by omega]
    · simp [h1, h2, show ¬ i < k + 1 by omega]
/-- A digit, out of the word that holds it. -/
theorem wd_digit (a i : Nat) : wd a (i / 8) / 2 ^ (8 * (i % 8)) % 256 = wd8 a i := by
  rw [wd, mod_div_pow _ 64 _ (by omega), wd_eq8, Nat.div_div_eq_div_mul, ← Nat.pow_add, show 64 * (i / 8) + 8 * (i % 8) = 8 * i by omega]
  have : 256 ∣ 2 ^ (64 - 8 * (i % 8)) := Nat.pow_dvd_pow 2 (m := 8) (by omega)
  exact Nat.mod_mod_of_dvd _ this
theorem wd8_of_lt (a i : Nat) (n : Nat) (ha : a < 2 ^ (8 * n)) (h : n ≤ i) : wd8 a i = 0 :=
  wd_big8 a i (Nat.lt_of_lt_of_le ha (Nat.pow_le_pow_right (by decide) (by omega)))

/-- A number, from its lowest digit up, in words. -/
theorem dig_up (q k n : Nat) (h : k / 8 < n) :
    (arr n fun j => if j = k / 8 then (wd (q % 2 ^ (8 * k)) (k / 8) + wd8 q k * 2 ^ (8 * (k % 8))) else wd (q % 2 ^ (8 * k)) j) = arr n (wd (q % 2 ^ (8 * (k + 1)))) ∧
    wd (q % 2 ^ (8 * k)) (k / 8) + wd8 q k * 2 ^ (8 * (k % 8)) < 18446744073709551616 := by
  have e := wd_split8 q k
  have hr := Nat.mod_lt q (Nat.two_pow_pos (8 * k))
  have hb := wd8_lt q k
  rw [e]
  generalize q % 2 ^ (8 * k) = r at *
  generalize wd8 q k = b at *
  have hk : 2 ^ (8 * k) = 2 ^ (64 * (k / 8)) * 2 ^ (8 * (k % 8)) := by rw [← Nat.pow_add]; congr 1; omega
  have h256 : 2 ^ (8 * (k % 8)) * 256 ≤ 18446744073709551616 := by
    rw [show (256 : Nat) = 2 ^ 8 from rfl, ← Nat.pow_add]
    exact Nat.pow_le_pow_right (n := 2) (j := 64) (by decide) (by omega)
  have hbz : b * 2 ^ (8 * (k % 8)) + 2 ^ (8 * (k % 8)) ≤ 2 ^ (8 * (k % 8)) * 256 := by
    rw [← Nat.succ_mul, Nat.mul_comm]; exact Nat.mul_le_mul_left _ hb
  have hd : r / 2 ^ (64 * (k / 8)) < 2 ^ (8 * (k % 8)) := Nat.div_lt_of_lt_mul (by rw [← hk]; exact hr)
  have hfit : wd r (k / 8) + b * 2 ^ (8 * (k % 8)) < 18446744073709551616 := by
    rw [wd_eq]
    clear hr hk
    generalize r / 2 ^ (64 * (k / 8)) = u at *
    generalize b * 2 ^ (8 * (k % 8)) = z at *
    generalize 2 ^ (8 * (k % 8)) = y at *
    omega
  refine ⟨?_, hfit⟩
  refine arr_congr fun j hj => ?_
  by_cases h : j = k / 8
  · rw [if_pos h, h, wd_eq, wd_eq]
    have : 2 ^ (8 * k) * b = 2 ^ (64 * (k / 8)) * (b * 2 ^ (8 * (k % 8))) := by rw [hk, Nat.mul_assoc, Nat.mul_comm b]
    rw [this, Nat.add_mul_div_left _ _ (Nat.two_pow_pos _)]
    clear this hr hk
    rw [wd_eq] at hfit
    generalize r / 2 ^ (64 * (k / 8)) = u at *
    generalize b * 2 ^ (8 * (k % 8)) = z at *
    generalize 2 ^ (8 * (k % 8)) = y at *
    omega
  · rw [if_neg h]
    rcases Nat.lt_or_gt_of_ne h with h | h
    · have : 2 ^ (8 * k) * b = b * 2 ^ (8 * k - 64 * (j + 1)) * 2 ^ (64 * (j + 1)) := by rw [Nat.mul_assoc, ← Nat.pow_add, show 8 * k - 64 * (j + 1) + 64 * (j + 1) = 8 * k by omega, Nat.mul_comm]
      rw [this, wd_add_high _ _ _ _ (by omega)]
    · have h2 : 2 ^ (8 * (k + 1)) ≤ 2 ^ (64 * j) := Nat.pow_le_pow_right (by decide) (by omega)
      have h3 : 2 ^ (8 * k) * b + 2 ^ (8 * k) ≤ 2 ^ (8 * k) * 256 := by rw [← Nat.mul_succ]; exact Nat.mul_le_mul_left _ hb
      rw [P_succ8] at h2
      rw [wd_big _ _ (by omega), wd_big _ _ (by omega)]
theorem t_last0 (a b i j P : Nat) (hP : P = 2 ^ (8 * i) * 2 ^ (8 * j)) : a % 2 ^ (8 * (i + 1)) * b = mV8 a b i j + P * (wd8 a i * (b / 2 ^ (8 * j))) := by
  unfold mV8
  rw [wd_split8, Nat.add_mul, Nat.add_assoc]
  congr 1
  conv => lhs; rw [← Nat.mod_add_div b (2 ^ (8 * j))]
  rw [hP, Nat.mul_add]
  congr 1
  · rw [Nat.mul_assoc, Nat.mul_comm]
  · simp only [Nat.mul_assoc, Nat.mul_left_comm]
theorem t_last1 (a b i j t P : Nat) (hP : P = 2 ^ (8 * i) * 2 ^ (8 * j)) (h : ∀ x c, wd8 (x + P * c) t = wd8 x t) : wd8 (mV8 a b i j) t = wd8 (a % 2 ^ (8 * (i + 1)) * b) t := by
  rw [t_last0 a b i j P hP, h]
/-- What leaves sixty-four digits is lost. -/
theorem t_last (a b i : Nat) (hi : i < 64) (t : Nat) (ht : t < 64) : wd8 (mV8 a b i (64 - i)) t = wd8 (a % 2 ^ (8 * (i + 1)) * b) t := by
  have f := t_last1 a b i (64 - i) t (2 ^ 512) (pow_512 (8 * i) (8 * (64 - i)) (by omega)) (fun x c => wd8_512 x c t ht)
  exact f
theorem cy8_64 (a b : Nat) (ha : a < 2 ^ 512) (hb : b < 2 ^ 512) : cy8 a b 64 = (a + b) / 2 ^ 512 := by
  unfold cy8
  rw [show 8 * 64 = 512 from rfl, Nat.mod_eq_of_lt ha, Nat.mod_eq_of_lt hb]
theorem mul_digit_le (a b i j : Nat) : wd8 a i * wd8 b j ≤ 255 * 255 := Nat.mul_le_mul (by have := wd8_lt a i; omega) (by have := wd8_lt b j; omega)
theorem mC8_lt (a b i : Nat) : ∀ j, mC8 a b i j < 256
  | 0 => by rw [mC_zero8]; decide
  | j + 1 => by
    have h1 := mul_digit_le a b i j
    have h2 := wd8_lt (a % 2 ^ (8 * i) * b) (i + j)
    have h3 := mC8_lt a b i j
    rw [(m_step8 a b i j).1]
    omega

end Go.Ab

/-
  Numbers: lengths against powers of two.
-/
namespace Go.Ab
open Go
set_option linter.unusedSimpArgs false
set_option linter.unusedVariables false

theorem blen_le (x k : Nat) (h : x < 2 ^ k) : blen x ≤ k := by
  unfold blen
  split
  · omega
  · rename_i h0
    exact (Nat.log2_lt h0).2 h
theorem lt_blen (a : Nat) : a < 2 ^ blen a := by
  unfold blen
  split
  · omega
  · exact Nat.lt_log2_self
end Go.Ab

/-
  Numbers: bits of digits, a digit's increment, halves of eight words.
-/
namespace Go.Ab
open Go
set_option linter.unusedSimpArgs false
set_option linter.unusedVariables false

theorem wd8_bit (a i : Nat) : wd8 a (i / 8) / 2 ^ (i % 8) % 2 = a / 2 ^ i % 2 := by
  rw [wd8, mod_div_pow _ 8 _ (by omega), mod_pow_two _ _ (by omega), Nat.div_div_eq_div_mul, ← Nat.pow_add, Nat.div_add_mod]
/-- One more in the lowest place. -/
theorem dgs_inc (q b : Nat) (hq : q % 2 = 0) (hb : b ≤ 1) : (dgs q).set 0 (.v (.int .i64 ((wd8 q 0 + b : Nat) : Int))) = dgs (q + b) := by
  unfold dgs
  rw [iarr_set]
  refine iarr_congr fun j hj => ?_
  by_cases h : j = 0
  · subst h
    rw [if_pos rfl]
    simp only [wd_eq8, Nat.mul_zero, Nat.pow_zero, Nat.div_one]
    omega
  · rw [if_neg h]
    congr 1
    obtain ⟨t, rfl⟩ := Nat.dvd_of_mod_eq_zero hq
    have e : 2 ^ (8 * j) = 2 * 2 ^ (8 * j - 1) := by
      rw [← Nat.pow_succ']
      congr 1
      omega
    rw [wd_eq8, wd_eq8, e, ← Nat.div_div_eq_div_mul, ← Nat.div_div_eq_div_mul, show (2 * t + b) / 2 = t by omega, show 2 * t / 2 = t by omega]
theorem wd8_even (q : Nat) (hq : q % 2 = 0) : wd8 q 0 ≤ 254 := by
  rw [wd_eq8]
  simp
  omega
theorem wd_shift (y j : Nat) : wd (y / 2 ^ 256) j = wd y (j + 4) := by
  rw [wd_eq, wd_eq, Nat.div_div_eq_div_mul, ← Nat.pow_add, show 256 + 64 * j = 64 * (j + 4) by omega]
theorem low4 (y : Nat) : (arr 4 fun j => if j = 3 then wd y 3 else if j = 2 then wd y 2 else if j = 1 then wd y 1 else if j = 0 then wd y 0 else 0) = nat4 y := by
  refine arr_congr fun j hj => ?_
  have : j = 0 ∨ j = 1 ∨ j = 2 ∨ j = 3 := by omega
  rcases this with rfl | rfl | rfl | rfl <;> simp
end Go.Ab

/-
  Numbers: a product of sums, in halves.
-/
namespace Go.Ab
open Go
set_option linter.unusedSimpArgs false
set_option linter.unusedVariables false

end Go.Ab

/-
  Numbers of bytes; bytes as cells.
-/
namespace Go.Ab
open Go Go.RowKit
set_option linter.unusedSimpArgs false
set_option linter.unusedVariables false

/-! Tryd# Bytes, as cells -/
section
variable {n m i : Nat} {f g : Nat → Nat}
end
theorem addr_add (b o i : Nat) : (⟨b, o, none⟩ : Addr).add i = ⟨b, o + i, none⟩ := Addr.add_mid b o i
end Go.Ab

/-
  Numbers: a product with a word, added to a number of six words.
-/
namespace Go.Ab
open Go
set_option linter.unusedSimpArgs false
set_option linter.unusedVariables false

/-- What goes over into word j. -/
def cr (T w b j : Nat) : Nat := (T % 2 ^ (64 * j) + w * (b % 2 ^ (64 * j))) / 2 ^ (64 * j)
theorem cr_zero (T w b : Nat) : cr T w b 0 = 0 := by simp [cr, Nat.mod_one]
theorem cr_lt (T w b j : Nat) (hw : w < 18446744073709551616) : cr T w b j < 18446744073709551616 := by
  unfold cr
  have hM := Nat.two_pow_pos (64 * j)
  have h1 := Nat.mod_lt T hM
  have h2 := Nat.mod_lt b hM
  generalize 2 ^ (64 * j) = M at *
  refine (Nat.div_lt_iff_lt_mul hM).2 ?_
  have h3 : w * (b % M) ≤ 18446744073709551615 * (b % M) := Nat.mul_le_mul_right _ (by omega)
  omega
theorem cr_step (T w b j : Nat) : wd T j + w * wd b j + cr T w b j = wd (T + w * b) j + 18446744073709551616 * cr T w b (j + 1) := by
  have hM := Nat.two_pow_pos (64 * j)
  have e1 := wd_split T j
  have e2 := wd_split b j
  have e3 : wd (T + w * b) j = (T + w * b) / 2 ^ (64 * j) % 18446744073709551616 := rfl
  have e4 : wd T j = T / 2 ^ (64 * j) % 18446744073709551616 := rfl
  have e5 : wd b j = b / 2 ^ (64 * j) % 18446744073709551616 := rfl
  have h1 := Nat.div_add_mod T (2 ^ (64 * j))
  have h2 := Nat.div_add_mod b (2 ^ (64 * j))
  unfold cr
  rw [e1, e2, P_succ, e3]
  rw [← Nat.div_div_eq_div_mul]
  generalize 2 ^ (64 * j) = M at *
  have h3 : (T % M + M * wd T j + w * (b % M + M * wd b j)) / M = (T % M + w * (b % M)) / M + (wd T j + w * wd b j) := by
    rw [← Nat.add_mul_div_left _ _ hM]
    congr 1
    rw [Nat.mul_add, Nat.mul_add, Nat.mul_left_comm w M]
    omega
  have h4 : (T + w * b) / M = (T % M + w * (b % M)) / M + (T / M + w * (b / M)) := by
    rw [← Nat.add_mul_div_left _ _ hM]
    congr 1
    rw [Nat.mul_add, Nat.mul_left_comm M w]
    have h5 : w * b = w * (M * (b / M)) + w * (b % M) := by rw [← Nat.mul_add, h2]
    omega
  rw [h3, h4]
  have h6 : w * (b / M) = w * (18446744073709551616 * (b / M / 18446744073709551616)) + w * wd b j := by rw [← Nat.mul_add, e5, Nat.div_add_mod]
  have h7 : w * (18446744073709551616 * (b / M / 18446744073709551616)) = 18446744073709551616 * (w * (b / M / 18446744073709551616)) := Nat.mul_left_comm _ _ _
  rw [h6, h7]
  generalize (T % M + w * (b % M)) / M = S
  generalize w * wd b j = y
  generalize w * (b / M / 18446744073709551616) = z
  omega
theorem cr_five (T w b : Nat) (hb : b < 2 ^ 256) : wd T 4 + cr T w b 4 = wd (T + w * b) 4 + 18446744073709551616 * cr T w b 5 := by
  have h := cr_step T w b 4
  rw [wd_big b 4 hb, Nat.mul_zero, Nat.add_zero] at h
  exact h
theorem wd_big2 (a k n : Nat) (h : a < 2 ^ n) (hn : n ≤ 64 * k) : wd a k = 0 := wd_big a k (Nat.lt_of_lt_of_le h (Nat.pow_le_pow_right (by decide) hn))
theorem cr_six (T w b n : Nat) (hn : n = 384) (hb : b < 2 ^ 256) (h6 : T + w * b < 2 ^ n) : wd T 5 + cr T w b 5 = wd (T + w * b) 5 := by
  have h := cr_step T w b 5
  rw [wd_big2 b 5 256 hb (by decide), Nat.mul_zero, Nat.add_zero] at h
  have h0 : cr T w b (5 + 1) = 0 := by
    unfold cr
    rw [show 64 * (5 + 1) = n from hn.symm]
    refine Nat.div_eq_of_lt (Nat.lt_of_le_of_lt (Nat.add_le_add (Nat.mod_le _ _) (Nat.mul_le_mul_left _ (Nat.mod_le _ _))) ?_)
    exact h6
  rw [h0] at h
  omega
/-- One word further. -/
theorem upd_two {f g : Nat → Nat} {k v i : Nat} (h : v = f k) : (if i = k then v else if i < k then f i else g i) = if i < k + 1 then f i else g i := by
  by_cases h1 : i = k
  · subst h1; simp [h]
  · simp only [h1, if_false]
    by_cases h2 : i < k
    · simp [h2, show i < k + 1 by omega]
    · simp [h2, show ¬ i < k + 1 by omega]
theorem row_word {p t c x y B : Nat} (hB : B = 18446744073709551616) (hp : p + t + c = x + B * y) (hx : x < B) (hy : y < B) (ht : t < B) (hc : c < B) :
    ((p % B + t) % B + c) % B = x ∧ (p / B + (p % B + t) / B) % B = (p + t) / B ∧ ((p / B + (p % B + t) / B) % B + ((p % B + t) % B + c) / B) % B = y := by
  subst hB
  omega
end Go.Ab

/-
  Numbers: what makes -1 with an odd number modulo 2^64; images.
-/
namespace Go.Ab
open Go
set_option linter.unusedSimpArgs false
set_option linter.unusedVariables false

/-- One step towards what makes 1 with y. -/
def nvs (y x : Nat) : Nat := x * ((2 + 18446744073709551616 - y * x % 18446744073709551616) % 18446744073709551616) % 18446744073709551616
def nv (y : Nat) : Nat → Nat
  | 0 => 1
  | k + 1 => nvs y (nv y k)
theorem nv_lt (y : Nat) : ∀ k, nv y k < 18446744073709551616
  | 0 => by show 1 < 18446744073709551616; decide
  | k + 1 => Nat.mod_lt _ (by decide)
theorem w_two_sub (u : Nat) (h : u < 18446744073709551616) : IntKind.u64.wrap (2 - (u : Int)) = (((2 + 18446744073709551616 - u) % 18446744073709551616 : Nat) : Int) := by
  rw [IntKind.wrap_u64]; omega
theorem w_neg (u : Nat) (h : u < 18446744073709551616) : IntKind.u64.wrap (-(u : Int)) = (((18446744073709551616 - u) % 18446744073709551616 : Nat) : Int) := by
  rw [IntKind.wrap_u64]; omega

/-- A divisor of 2^64 makes a step right to twice as many bits. -/
theorem nvs_step (y x M : Nat) (hd : M * M ∣ 18446744073709551616) (hM : 0 < M) (h : y * x % M = 1 % M) : y * nvs y x % (M * M) = 1 % (M * M) := by
  have hMB : M * M ∣ 18446744073709551616 := hd
  obtain ⟨c, hc⟩ := hMB
  -- y * x = 1 + M * t, as whole numbers
  have hI : (M : Int) ∣ (y * x : Int) - 1 := by
    have h1 : ((y * x : Nat) : Int) % (M : Int) = ((1 : Nat) : Int) % (M : Int) := by exact_mod_cast h
    have := Int.emod_emod_of_dvd
    have h2 := Int.emod_eq_emod_iff_emod_sub_eq_zero.1 h1
    have h3 := Int.dvd_of_emod_eq_zero h2
    simpa using h3
  obtain ⟨t, ht⟩ := hI
  have h4 : ∃ e : Int, ((nvs y x : Nat) : Int) = x * (2 - y * x) + 18446744073709551616 * e := by
    unfold nvs
    obtain ⟨u, hu⟩ : ∃ u, y * x % 18446744073709551616 = u := ⟨_, rfl⟩
    have hu2 : u < 18446744073709551616 := by rw [← hu]; exact Nat.mod_lt _ (by decide)
    have hu3 : ((y * x : Nat) : Int) = u + 18446744073709551616 * ((y * x / 18446744073709551616 : Nat) : Int) := by
      have := Nat.div_add_mod (y * x) 18446744073709551616
      omega
    rw [hu]
    obtain ⟨v, hv⟩ : ∃ v, (2 + 18446744073709551616 - u) % 18446744073709551616 = v := ⟨_, rfl⟩
    have hv2 : ∃ e : Int, (v : Int) = 2 - u + 18446744073709551616 * e := by
      refine ⟨1 - (((2 + 18446744073709551616 - u) / 18446744073709551616 : Nat) : Int), ?_⟩
      have := Nat.div_add_mod (2 + 18446744073709551616 - u) 18446744073709551616
      omega
    rw [hv]
    obtain ⟨e, he⟩ := hv2
    have h5 : ((x * v % 18446744073709551616 : Nat) : Int) = (x : Int) * v - 18446744073709551616 * ((x * v / 18446744073709551616 : Nat) : Int) := by
      have := Nat.div_add_mod (x * v) 18446744073709551616
      have h6 : ((x * v : Nat) : Int) = (x : Int) * v := Int.natCast_mul x v
      omega
    have hu4 : (y : Int) * x = u + 18446744073709551616 * ((y * x / 18446744073709551616 : Nat) : Int) := by rw [← hu3]; exact (Int.natCast_mul y x).symm
    refine ⟨x * (((y * x / 18446744073709551616 : Nat) : Int) + e) - ((x * v / 18446744073709551616 : Nat) : Int), ?_⟩
    rw [h5, he, hu4]
    generalize ((y * x / 18446744073709551616 : Nat) : Int) = q
    generalize ((x * v / 18446744073709551616 : Nat) : Int) = q'
    simp only [Int.mul_add, Int.mul_sub]
    have e1 : (x : Int) * (18446744073709551616 * q) = 18446744073709551616 * (x * q) := Int.mul_left_comm _ _ _
    have e2 : (x : Int) * (18446744073709551616 * e) = 18446744073709551616 * (x * e) := Int.mul_left_comm _ _ _
    rw [e1, e2]
    omega
  obtain ⟨e, he⟩ := h4
  have h7 : ((M * M : Nat) : Int) ∣ ((y * nvs y x : Nat) : Int) - 1 := by
    refine ⟨-(t * t) + c * (y * e), ?_⟩
    rw [Int.natCast_mul, he]
    have hxy : (y : Int) * x = 1 + M * t := by omega
    have hcI : ((18446744073709551616 : Nat) : Int) = ((M * M : Nat) : Int) * c := by rw [hc]; exact Int.natCast_mul _ _
    have hcJ : (18446744073709551616 : Int) = ((M * M : Nat) : Int) * c := hcI
    have e3 : (y : Int) * (x * (2 - y * x) + 18446744073709551616 * e) = (y * x) * (2 - y * x) + 18446744073709551616 * (y * e) := by
      rw [Int.mul_add, ← Int.mul_assoc, Int.mul_left_comm (y : Int) 18446744073709551616 e]
    rw [e3, hxy, hcJ, Int.natCast_mul]
    rw [Int.mul_add]
    have e4 : (1 + (M : Int) * t) * (2 - (1 + M * t)) = 1 + M * M * -(t * t) := by
      have e5 : (2 : Int) - (1 + M * t) = 1 - M * t := by omega
      rw [e5, Int.add_mul, Int.one_mul, Int.mul_sub, Int.mul_one]
      have e6 : (M : Int) * t * (M * t) = M * M * (t * t) := by
        rw [Int.mul_assoc, Int.mul_left_comm t, ← Int.mul_assoc]
      rw [e6, Int.mul_neg]
      omega
    rw [e4, Int.mul_assoc ((M : Int) * M) c]
    omega
  have h8 := Int.emod_emod_of_dvd
  have h9 : ((y * nvs y x : Nat) : Int) % ((M * M : Nat) : Int) = ((1 : Nat) : Int) % ((M * M : Nat) : Int) := by
    refine Int.emod_eq_emod_iff_emod_sub_eq_zero.2 ?_
    exact Int.emod_eq_zero_of_dvd (by simpa using h7)
  exact_mod_cast h9
theorem nv_right (y : Nat) (hy : y % 2 = 1) : y * nv y 6 % 18446744073709551616 = 1 := by
  have h0 : y * nv y 0 % 2 = 1 % 2 := by simp only [nv]; omega
  have h1 := nvs_step y (nv y 0) 2 (by decide) (by decide) h0
  have h2 := nvs_step y (nv y 1) 4 (by decide) (by decide) h1
  have h3 := nvs_step y (nv y 2) 16 (by decide) (by decide) h2
  have h4 := nvs_step y (nv y 3) 256 (by decide) (by decide) h3
  have h5 := nvs_step y (nv y 4) 65536 (by decide) (by decide) h4
  have h6 := nvs_step y (nv y 5) 4294967296 (by decide) (by decide) h5
  exact h6
/-- What makes -1 with m modulo 2^64. -/
def mi (m : Nat) : Nat := (18446744073709551616 - nv (wd m 0) 6) % 18446744073709551616
theorem mi_lt (m : Nat) : mi m < 18446744073709551616 := Nat.mod_lt _ (by decide)
end Go.Ab

/-
  Numbers modulo an odd one: halves, images, products of images, powers.
-/
namespace Go.Ab
open Go
set_option linter.unusedSimpArgs false
set_option linter.unusedVariables false
/-! Tryd# Numbers modulo an odd one -/
theorem cg_mul {m a b c d : Nat} (h : a % m = b % m) (h' : c % m = d % m) : a * c % m = b * d % m := by rw [Nat.mul_mod, h, h', ← Nat.mul_mod]
theorem cg_add {m a b c d : Nat} (h : a % m = b % m) (h' : c % m = d % m) : (a + c) % m = (b + d) % m := by rw [Nat.add_mod, h, h', ← Nat.add_mod]
theorem cg_mod (m a : Nat) : a % m % m = a % m := Nat.mod_mod _ _
/-- Half of a number modulo m, odd. -/
def hf (m r : Nat) : Nat := if r % 2 = 1 then (r + m) / 2 else r / 2
theorem hf_lt {m r : Nat} (h : r < m) : hf m r < m := by unfold hf; split <;> omega
theorem hf_two {m r : Nat} (hm : m % 2 = 1) : hf m r * 2 % m = r % m := by
  unfold hf
  split
  · rw [Nat.div_mul_cancel (by omega), Nat.add_mod_right]
  · rw [Nat.div_mul_cancel (by omega)]
def hfs (m : Nat) : Nat → Nat → Nat
  | 0, r => r
  | k + 1, r => hf m (hfs m k r)
theorem hfs_lt {m r : Nat} (h : r < m) : ∀ k, hfs m k r < m
  | 0 => h
  | k + 1 => hf_lt (hfs_lt h k)
theorem hfs_pow {m r : Nat} (hm : m % 2 = 1) : ∀ k, hfs m k r * 2 ^ k % m = r % m
  | 0 => by simp [hfs]
  | k + 1 => by
    have h1 := hfs_pow (r := r) hm k
    have h2 : hf m (hfs m k r) * 2 % m = hfs m k r % m := hf_two hm
    rw [Nat.pow_succ, Nat.mul_comm (2 ^ k) 2, ← Nat.mul_assoc, ← h1]
    exact cg_mul h2 rfl
theorem two_cancel {m a b : Nat} (hm : m % 2 = 1) (ha : a < m) (hb : b < m) (h : a * 2 % m = b * 2 % m) : a = b := by
  by_cases h1 : a * 2 < m
  · rw [Nat.mod_eq_of_lt h1] at h
    by_cases h2 : b * 2 < m
    · rw [Nat.mod_eq_of_lt h2] at h; omega
    · rw [Nat.mod_eq_sub_mod (by omega), Nat.mod_eq_of_lt (by omega)] at h; omega
  · rw [Nat.mod_eq_sub_mod (by omega), Nat.mod_eq_of_lt (by omega)] at h
    by_cases h2 : b * 2 < m
    · rw [Nat.mod_eq_of_lt h2] at h; omega
    · rw [Nat.mod_eq_sub_mod (a := b * 2) (by omega), Nat.mod_eq_of_lt (a := b * 2 - m) (by omega)] at h; omega
theorem pow_cancel {m a b : Nat} (hm : m % 2 = 1) (ha : a < m) (hb : b < m) : ∀ k, a * 2 ^ k % m = b * 2 ^ k % m → a = b
  | 0, h => by simpa [Nat.mod_eq_of_lt ha, Nat.mod_eq_of_lt hb] using h
  | k + 1, h => by
    refine pow_cancel hm ha hb k (two_cancel hm (Nat.mod_lt _ (by omega)) (Nat.mod_lt _ (by omega)) ?_)
    have e : ∀ x, x * 2 ^ k % m * 2 % m = x * 2 ^ (k + 1) % m := fun x => by
      rw [Nat.pow_succ, ← Nat.mul_assoc]; exact cg_mul (cg_mod _ _) rfl
    rw [e, e]
    exact h
/-- What n images stand for: x, halved n times. -/
def moN (n m x : Nat) : Nat := hfs m n (x % m)
theorem moN_lt {n m x : Nat} (h : 0 < m) : moN n m x < m := hfs_lt (Nat.mod_lt _ h) n
theorem moN_pow {n m x : Nat} (hm : m % 2 = 1) : moN n m x * 2 ^ n % m = x % m := by
  have := hfs_pow (r := x % m) hm n
  rw [cg_mod] at this
  exact this
theorem moN_uniq {n m x r : Nat} (hm : m % 2 = 1) (hr : r < m) (h : r * 2 ^ n % m = x % m) : r = moN n m x :=
  pow_cancel hm hr (moN_lt (by omega)) n (by rw [h, moN_pow hm])
theorem moN_mod {n m x y : Nat} (h : x % m = y % m) : moN n m x = moN n m y := by unfold moN; rw [h]
/-- The image of the number itself. -/
theorem moN_to {n m x : Nat} (hm : m % 2 = 1) : moN n m (x * 2 ^ n) = x % m :=
  (moN_uniq hm (Nat.mod_lt _ (by omega)) (cg_mul (cg_mod _ _) rfl)).symm
/-- One round of a product of images. -/
theorem mm_lt {m b w T u B : Nat} (hB : 0 < B) (hb : b < m) (hT : T < 2 * m) (hw : w < B) (hu : u < B) : (T + w * b + u * m) / B < 2 * m := by
  refine (Nat.div_lt_iff_lt_mul hB).2 ?_
  have h1 : w * b ≤ (B - 1) * m := Nat.mul_le_mul (by omega) (by omega)
  have h2 : u * m ≤ (B - 1) * m := Nat.mul_le_mul_right _ (by omega)
  have h3 : 2 * m * B = 2 * m + ((B - 1) * m + (B - 1) * m) := by
    obtain ⟨c, rfl⟩ : ∃ c, B = c + 1 := ⟨B - 1, by omega⟩
    rw [Nat.add_sub_cancel, Nat.mul_add, Nat.mul_one, Nat.mul_assoc, Nat.mul_comm m c]
    omega
  omega
theorem mm_div {m X i B : Nat} (h : (X + X % B * i % B * m) % B = 0) : (X + X % B * i % B * m) / B * B = X + X % B * i % B * m := Nat.div_mul_cancel (Nat.dvd_of_mod_eq_zero h)
/-- What makes the lowest word 0. -/
theorem mm_zero {m X i B : Nat} (hi : (m * i + 1) % B = 0) : (X + X % B * i % B * m) % B = 0 := by
  have h1 : (X + X % B * i % B * m) % B = (X + X * i * m) % B := cg_add rfl (cg_mul (by rw [cg_mod]; exact cg_mul (cg_mod _ _) rfl) rfl)
  rw [h1, show X + X * i * m = X * (m * i + 1) by rw [Nat.mul_add, Nat.mul_one, Nat.add_comm, Nat.mul_comm m i, Nat.mul_assoc], Nat.mul_mod, hi, Nat.mul_zero, Nat.zero_mod]
theorem mm_step {m b w T u T' A Q B : Nat} (hT' : T' * B = T + w * b + u * m) (h : T * Q % m = A * b % m) : T' * (B * Q) % m = (A + Q * w) * b % m := by
  rw [← Nat.mul_assoc, hT', Nat.add_mul, Nat.add_mul]
  have h1 : (T * Q + w * b * Q + u * m * Q) % m = (A * b + w * b * Q) % m := by
    rw [show u * m * Q = m * (u * Q) by rw [Nat.mul_comm u m, Nat.mul_assoc], Nat.add_mul_mod_self_left]
    exact cg_add h rfl
  rw [h1, Nat.add_mul]
  congr 2
  rw [Nat.mul_assoc, Nat.mul_comm b Q, ← Nat.mul_assoc, Nat.mul_comm w Q]
/-- A sum of powers: bit by bit. -/
theorem pow_bit (a n k : Nat) : a ^ (n % 2 ^ (k + 1)) = (if n / 2 ^ k % 2 = 1 then a ^ (n % 2 ^ k) * a ^ 2 ^ k else a ^ (n % 2 ^ k)) := by
  have h : n % 2 ^ (k + 1) = n % 2 ^ k + 2 ^ k * (n / 2 ^ k % 2) := by rw [Nat.pow_succ, Nat.mod_mul]
  rw [h]
  split
  · rename_i h1; rw [h1, Nat.mul_one, Nat.pow_add]
  · rename_i h1; rw [show n / 2 ^ k % 2 = 0 by omega, Nat.mul_zero, Nat.add_zero]
theorem neg_right (m y x i B : Nat) (h1 : y * x % B = 1) (hx : x < B) (hm : m % B = y % B) (hi : i = (B - x) % B) (hB : 1 < B) : (m * i + 1) % B = 0 := by
  have h4 : y * ((B - x) % B) % B = y * (B - x) % B := cg_mul rfl (cg_mod _ _)
  have h5 : y * (B - x) + y * x = y * B := by rw [← Nat.mul_add]; congr 1; omega
  have h3 : m * i % B = y * (B - x) % B := by rw [hi, ← h4]; exact cg_mul hm rfl
  have h6 : (m * i + 1) % B = (y * (B - x) + y * x) % B := cg_add h3 (by rw [h1, Nat.mod_eq_of_lt hB])
  rw [h6, h5, Nat.mul_mod_left]
theorem mi_right (m : Nat) (hm : m % 2 = 1) : (m * mi m + 1) % 18446744073709551616 = 0 :=
  neg_right m (wd m 0) (nv (wd m 0) 6) (mi m) _ (nv_right (wd m 0) (by simp only [wd]; omega)) (nv_lt _ 6) (by simp only [wd]; omega) rfl (by decide)
/-- What is added for the lowest word to go, and what is left, after k words of a. -/
def tu (m X : Nat) : Nat := X % 18446744073709551616 * mi m % 18446744073709551616
def tm (m a b : Nat) : Nat → Nat
  | 0 => 0
  | k + 1 => (tm m a b k + wd a k * b + tu m (tm m a b k + wd a k * b) * m) / 18446744073709551616
theorem tu_lt (m X : Nat) : tu m X < 18446744073709551616 := Nat.mod_lt _ (by decide)
theorem tm_lt {m a b : Nat} (hb : b < m) : ∀ k, tm m a b k < 2 * m
  | 0 => by show 0 < 2 * m; omega
  | k + 1 => mm_lt (by decide) hb (tm_lt hb k) (wd_lt a k) (tu_lt m _)
theorem tm_cg {m a b : Nat} (hm : m % 2 = 1) : ∀ k, tm m a b k * 2 ^ (64 * k) % m = a % 2 ^ (64 * k) * b % m
  | 0 => by simp [tm, Nat.mod_one]
  | k + 1 => by
    rw [wd_split, P_succ, Nat.mul_comm (2 ^ (64 * k)) 18446744073709551616]
    refine mm_step (T := tm m a b k) (u := tu m (tm m a b k + wd a k * b)) ?_ (tm_cg hm k)
    exact mm_div (mm_zero (mi_right m hm))
theorem tm_end {m a b : Nat} (hm : m % 2 = 1) (hb : b < m) (ha : a < 2 ^ 256) : (if m ≤ tm m a b 4 then tm m a b 4 - m else tm m a b 4) = moN 256 m (a * b) := by
  have h1 := tm_lt (a := a) hb 4
  have h2 := tm_cg (a := a) (b := b) hm 4
  rw [show 64 * 4 = 256 from rfl, Nat.mod_eq_of_lt ha] at h2
  refine moN_uniq hm (by split <;> omega) ?_
  rw [← h2]
  refine cg_mul ?_ rfl
  split
  · rename_i h; rw [Nat.mod_eq_sub_mod h]
  · rfl
theorem X_lt {T p q m Z C : Nat} (h1 : T < 2 * m) (h2 : p ≤ 18446744073709551615 * m) (h3 : q ≤ 18446744073709551615 * m) (hC : 36893488147419103232 ≤ C) (h5 : m * C < Z) : T + p < Z ∧ T + p + q < Z := by
  have h6 : m * 36893488147419103232 ≤ m * C := Nat.mul_le_mul_left _ hC
  omega
theorem tm_X {m a b : Nat} (hb : b < m) (k n : Nat) (hn : n = 384) (hm : m < 2 ^ 256) : tm m a b k + wd a k * b < 2 ^ n ∧ tm m a b k + wd a k * b + tu m (tm m a b k + wd a k * b) * m < 2 ^ n := by
  refine X_lt (C := 2 ^ 128) (tm_lt hb k) (Nat.mul_le_mul (by have := wd_lt a k; omega) (by omega)) (Nat.mul_le_mul_right _ (by have := tu_lt m (tm m a b k + wd a k * b); omega)) (by decide) ?_
  rw [show n = 256 + 128 from hn, Nat.pow_add 2 256 128]
  exact Nat.mul_lt_mul_of_pos_right hm (Nat.two_pow_pos _)
/-- Products by images, and powers. -/
theorem to_end {m a : Nat} (hm : m % 2 = 1) : moN 256 m (a * (2 ^ 256 % m * (2 ^ 256 % m) % m)) = a * 2 ^ 256 % m := by
  rw [← moN_to (n := 256) (x := a * 2 ^ 256) hm]
  refine moN_mod ?_
  rw [Nat.mul_assoc]
  exact cg_mul rfl (by rw [cg_mod]; exact cg_mul (cg_mod _ _) (cg_mod _ _))
theorem times_end {m a b : Nat} (hm : m % 2 = 1) : moN 256 m (a * 2 ^ 256 % m * b) = a * b % m := by
  rw [← moN_to (n := 256) (x := a * b) hm]
  refine moN_mod ?_
  rw [Nat.mul_assoc, Nat.mul_comm b, ← Nat.mul_assoc]
  exact cg_mul (cg_mod _ _) rfl
theorem back_end {m a : Nat} (hm : m % 2 = 1) : moN 256 m (a * 2 ^ 256 % m) = a % m := by
  rw [← moN_to (n := 256) (x := a) hm]
  exact moN_mod (cg_mod _ _)
/-- Images of products of images. -/
theorem img_mul {m a b : Nat} (hm : m % 2 = 1) : moN 256 m ((a * 2 ^ 256 % m) * (b * 2 ^ 256 % m)) = a * b * 2 ^ 256 % m := by
  rw [times_end hm]
  have h : a * (b * 2 ^ 256 % m) % m = a * (b * 2 ^ 256) % m := cg_mul rfl (cg_mod _ _)
  rw [h, ← Nat.mul_assoc]
end Go.Ab
namespace Go.Ab
open Go Go.RowKit
set_option linter.unusedSimpArgs false
set_option linter.unusedVariables false

def natV (n : Nat) : Value := (TV.agg (nat4 n)).conc fun _ => 0
theorem natV_conc (β : Nat → Nat) (n : Nat) : (TV.agg (nat4 n)).conc β = natV n := by
  simp [natV, TV.conc, nat4, arr, SV.conc, Function.comp_def]
theorem natV_def (n : Nat) : natV n = .agg ((List.range 4).map fun i => Value.int .u64 (wd n i : Int)).toArray := by
  simp [natV, TV.conc, nat4, arr, SV.conc, Function.comp_def]
/-- A map from numbers to integers. -/
structure MapTy (P : Program) (mt kt et : TypeId) : Prop where
  m : P.underlying mt = some (.map kt et)
  row : isRow P kt = true
  kk : P.keyTypeAt 9 kt = true
  lit : ∀ n, n < 2 ^ 256 → litsA P kt (some (nat4 n)) = some (lits 4 (wd n))
  zero : zeroV P et = some (.int .i64 0)
section
variable {P : Program} {mt kt et : TypeId} {n : Nat} {w : World}
theorem MapTy.lits (M : MapTy P mt kt et) (hn : n < 2 ^ 256) : P.keyLits 9 kt (natV n).cells.toList = some (lits 4 (wd n)) := by
  have h := M.lit n hn
  unfold litsA at h
  rw [Option.bind_some] at h
  obtain ⟨vs, hv, hk⟩ := Option.bind_eq_some_iff.1 h
  have h1 := valsOf_conc (fun _ => 0) hv
  rw [natV, conc_agg, h1]
  exact hk
theorem MapTy.formed (M : MapTy P mt kt et) (hn : n < 2 ^ 256) : (natV n).formed P kt = true := by
  have hz := M.lits hn
  have hrow := M.row
  rw [natV, conc_agg] at hz ⊢
  unfold isRow at hrow
  simp only [Value.formed]
  split at hrow
  · rename_i fs hu
    simp only [hu]
    unfold Program.keyLits at hz
    simp only [hu] at hz
    split at hz
    · rename_i hc; simpa [Value.cells] using hc.1
    · cases hz
  · rename_i n e hu
    simp only [hu]
    unfold Program.keyLits at hz
    simp only [hu] at hz
    split at hz
    · rename_i hc; simpa [Value.cells] using hc
    · cases hz
  · cases hrow
theorem natV_inj (M : MapTy P mt kt et) {a b : Nat} (ha : a < 2 ^ 256) (hb : b < 2 ^ 256) (h : natV a = natV b) : a = b := by
  have h1 := M.lits ha
  rw [h, M.lits hb] at h1
  injection h1 with h1
  have h2 := (litsEq_iff _ _).2 h1.symm
  rw [litsEq_nat4 ha hb] at h2
  exact of_decide_eq_true h2
theorem run_equal_nat (M : MapTy P mt kt et) {a b : Nat} (ha : a < 2 ^ 256) (hb : b < 2 ^ 256) (w : World) : (Op.equal kt (natV a) (natV b)).run P w = .ok (decide (a = b)) w := by
  have hdeep := run_equalIn_deep (P := P) 9991 9 kt M.kk
  obtain ⟨r, hr, hiff⟩ := hdeep w 9 9 (natV a) (natV b) _ _ (M.formed ha) (M.formed hb) (M.lits ha) (M.lits hb)
  have : r = decide (a = b) := by rw [Bool.eq_iff_iff, hiff, ← litsEq_iff, litsEq_nat4 ha hb]
  rw [← this]
  exact hr
theorem run_find (M : MapTy P mt kt et) (hn : n < 2 ^ 256) : ∀ (l : List MapEntry) (i : Nat), (∀ e ∈ l, ∃ m, m < 2 ^ 256 ∧ e.key = natV m) →
    ((∀ w, (Instr.findAsking kt (natV n) l i).run P w = .ok none w) ∧ ∀ e ∈ l, e.key ≠ natV n) ∨ ∃ j e, (∀ w, (Instr.findAsking kt (natV n) l i).run P w = .ok (some (i + j, e.val)) w) ∧ l[j]? = some e ∧ e.key = natV n
  | [], i, _ => .inl ⟨fun w => by simp [Instr.findAsking], by simp⟩
  | e :: es, i, h => by
    obtain ⟨m, hm, hk⟩ := h e (.head _)
    have he := run_equal_nat M hn hm
    by_cases hnm : n = m
    · subst hnm
      exact .inr ⟨0, e, fun w => by simp [Instr.findAsking, hk, he, Result.andThen], rfl, hk⟩
    · have hne : e.key ≠ natV n := fun q => hnm (natV_inj M hn hm (q.symm.trans hk))
      rcases run_find M hn es (i + 1) (fun x hx => h x (.tail _ hx)) with ⟨h1, h2⟩ | ⟨j, e', h1, h2, h3⟩
      · exact .inl ⟨fun w => by simp [Instr.findAsking, hk, he, hnm, h1, Result.andThen], fun x hx => by
          cases hx with
          | head => exact hne
          | tail _ hx => exact h2 x hx⟩
      · exact .inr ⟨j + 1, e', fun w => by simp [Instr.findAsking, hk, he, hnm, h1, Result.andThen]; omega, by simpa using h2, h3⟩
theorem run_findKey_nat (M : MapTy P mt kt et) (l : List MapEntry) (x : Value) (w : World) : (Instr.findKey kt x l).run P w = (Instr.findAsking kt x l).run P w := by
  refine run_findKey_eq w ?_ x l
  have hrow := M.row
  unfold isRow at hrow
  cases hu : P.underlying kt with
  | none => simp [hu] at hrow
  | some d => cases d <;> simp [hu] at hrow ⊢
theorem run_checkKey_nat (M : MapTy P mt kt et) (hn : n < 2 ^ 256) (em : Bool) (w : World) : (Instr.checkKey em 10000 kt (natV n)).run P w = .ok () w :=
  run_checkKey_deep em 9991 9 kt M.kk w 9 (natV n) _ (M.formed hn) (M.lits hn)
theorem sameBits_nat (n : Nat) : Instr.sameBits 10000 (natV n) (natV n) = true := by
  rw [natV_def]
  show Instr.sameBits (9999 + 1) _ _ = true
  have h1 : ∀ q : Int, Instr.sameBits 9999 (.int .u64 q) (.int .u64 q) = true := fun q => by
    show (IntKind.u64 == IntKind.u64 && q == q) = true
    simp
  simp only [Instr.sameBits, List.range_succ, List.range_zero, List.nil_append, List.cons_append, List.map_cons, List.map_nil, List.zip_cons_cons, List.zip_nil_left, List.all_cons, List.all_nil, h1, Bool.and_true, beq_self_eq_true]
theorem run_keyStays_nat (n : Nat) (w : World) : (Instr.keyThatStays (natV n) (natV n)).run P w = .ok (natV n) w := by
  simp [Instr.keyThatStays, sameBits_nat]
theorem run_zero_of {t : TypeId} {v : Value} (h : zeroV P t = some v) (w : World) : (zeroValue t).run P w = .ok v w := by
  unfold zeroV at h
  obtain ⟨i, hi, hz⟩ := Option.bind_eq_some_iff.1 h
  simp [zeroValue, typeInfo, hi, hz, Result.andThen]

/-- What is in a map: its keys. -/
def MapIs (p : Nat → Bool) (es : Array MapEntry) : Prop :=
  (∀ e ∈ es.toList, ∃ m z, m < 2 ^ 256 ∧ e.key = natV m ∧ e.val = .int .i64 z ∧ p m = true) ∧ ∀ m, p m = true → ∃ e ∈ es.toList, e.key = natV m
def MapAt (b : Nat) (p : Nat → Bool) (w : World) : Prop := ∃ es c, w.heap[b]? = some (.map es c) ∧ MapIs p es
theorem MapIs.nil : MapIs (fun _ => false) #[] := ⟨fun e h => by simp at h, fun m h => by simp at h⟩
theorem MapIs.push {p : Nat → Bool} {es : Array MapEntry} (h : MapIs p es) (hn : n < 2 ^ 256) {e : MapEntry} {z : Int} (hk : e.key = natV n) (hv : e.val = .int .i64 z) : MapIs (fun m => p m || m == n) (es.push e) := by
  refine ⟨fun e' he => ?_, fun m hm => ?_⟩
  · simp only [Array.toList_push, List.mem_append, List.mem_singleton] at he
    rcases he with he | rfl
    · obtain ⟨m, z', h1, h2, h3, h4⟩ := h.1 e' he
      exact ⟨m, z', h1, h2, h3, by simp [h4]⟩
    · exact ⟨n, z, hn, hk, hv, by simp⟩
  · rcases (Bool.or_eq_true _ _).mp hm with hm | hm
    · obtain ⟨e', h1, h2⟩ := h.2 m hm
      exact ⟨e', by simp only [Array.toList_push, List.mem_append]; exact .inl h1, h2⟩
    · have hm : m = n := by simpa using hm
      subst hm
      exact ⟨e, by simp, hk⟩
theorem MapIs.modify {p : Nat → Bool} {es : Array MapEntry} (h : MapIs p es) (hn : n < 2 ^ 256) {j : Nat} {e : MapEntry} {z : Int} (hj : es[j]? = some e) (hk : e.key = natV n) :
    MapIs (fun m => p m || m == n) (es.modify j fun e => { e with key := natV n, val := .int .i64 z }) := by
  have hpn : ∀ m, m < 2 ^ 256 → e.key = natV m → True := fun _ _ _ => trivial
  refine ⟨fun e' he => ?_, fun m hm => ?_⟩
  · rw [Array.mem_toList_iff, Array.mem_iff_getElem?] at he
    obtain ⟨i, hi⟩ := he
    rw [Array.getElem?_modify] at hi
    split at hi
    · rename_i hij
      subst hij
      rw [hj] at hi
      simp only [Option.map_some, Option.some.injEq] at hi
      subst hi
      exact ⟨n, z, hn, rfl, rfl, by simp⟩
    · obtain ⟨m, z', h1, h2, h3, h4⟩ := h.1 e' (by rw [Array.mem_toList_iff, Array.mem_iff_getElem?]; exact ⟨i, hi⟩)
      exact ⟨m, z', h1, h2, h3, by simp [h4]⟩
  · have key : ∀ (i : Nat) (e' : MapEntry), es[i]? = some e' → ∃ e'' ∈ (es.modify j fun e => { e with key := natV n, val := .int .i64 z }).toList, e''.key = e'.key := fun i e' hi => by
      by_cases hij : j = i
      · subst hij
        rw [hj] at hi
        injection hi with hi
        subst hi
        exact ⟨_, by rw [Array.mem_toList_iff, Array.mem_iff_getElem?]; exact ⟨j, by rw [Array.getElem?_modify, if_pos rfl, hj]; rfl⟩, hk.symm⟩
      · exact ⟨e', by rw [Array.mem_toList_iff, Array.mem_iff_getElem?]; exact ⟨i, by rw [Array.getElem?_modify, if_neg hij, hi]⟩, rfl⟩
    rcases (Bool.or_eq_true _ _).mp hm with hm | hm
    · obtain ⟨e', h1, h2⟩ := h.2 m hm
      rw [Array.mem_toList_iff, Array.mem_iff_getElem?] at h1
      obtain ⟨i, hi⟩ := h1
      obtain ⟨e'', h3, h4⟩ := key i e' hi
      exact ⟨e'', h3, h4.trans h2⟩
    · have hm : m = n := by simpa using hm
      subst hm
      obtain ⟨e'', h3, h4⟩ := key j e hj
      exact ⟨e'', h3, h4.trans hk⟩
/-- WHAT IS LOOKED FOR. -/
theorem run_look (M : MapTy P mt kt et) {p : Nat → Bool} {es : Array MapEntry} (h : MapIs p es) (hn : n < 2 ^ 256) {b c : Nat} : ∃ z : Int, ∀ w : World, w.heap[b]? = some (.map es c) →
    (Instr.lookup mt (.map (some b)) (natV n) true).run P w = .ok (.tuple #[.int .i64 z, .bool (p n)]) w := by
  have hall : ∀ e ∈ es.toList, ∃ m, m < 2 ^ 256 ∧ e.key = natV m := fun e he => by
    obtain ⟨m, z, h1, h2, _⟩ := h.1 e he
    exact ⟨m, h1, h2⟩
  by_cases hp : ∃ e ∈ es.toList, e.key = natV n
  · have hpn : p n = true := by
      obtain ⟨e, he, hk⟩ := hp
      obtain ⟨m, z, h1, h2, _, h4⟩ := h.1 e he
      rw [natV_inj M hn h1 (hk.symm.trans h2)]
      exact h4
    have hfind : ∃ j e, es.toList[j]? = some e ∧ ∀ w, (Instr.findAsking kt (natV n) es.toList).run P w = .ok (some (j, e.val)) w := by
      obtain ⟨e0, he0, hk0⟩ := hp
      rcases run_find M hn es.toList 0 hall with ⟨_, h2⟩ | ⟨j, e, h1, h2, h3⟩
      · exact absurd hk0 (h2 e0 he0)
      · exact ⟨j, e, h2, fun w => by rw [h1, Nat.zero_add]⟩
    obtain ⟨j, e, hj, hf⟩ := hfind
    obtain ⟨m, z, _, _, hv, _⟩ := h.1 e (List.mem_of_getElem? hj)
    refine ⟨z, fun w hb => ?_⟩
    simp [Instr.lookup, run_underlying M.m, MapKept.run_getObj_map hb, run_checkKey_nat M hn, run_findKey_nat M, hf, hv, hpn, Result.andThen]
  · have hpn : p n = false := by
      cases hq : p n with
      | false => rfl
      | true => exact absurd (h.2 n hq) hp
    refine ⟨0, fun w hb => ?_⟩
    have hf : (Instr.findAsking kt (natV n) es.toList).run P w = .ok none w := by
      rcases run_find M hn es.toList 0 hall with ⟨h1, _⟩ | ⟨j, e, _, h2, h3⟩
      · exact h1 w
      · exact absurd ⟨e, List.mem_of_getElem? h2, h3⟩ hp
    simp [Instr.lookup, run_underlying M.m, MapKept.run_getObj_map hb, run_checkKey_nat M hn, run_findKey_nat M, hf, hpn, run_zero_of M.zero, Result.andThen]
theorem heapSet {r : Nat} {o o' : Obj} (hb : w.heap[r]? = some o) : (w.heap.setIfInBounds r o')[r]? = some o' ∧ ∀ r', r' ≠ r → (w.heap.setIfInBounds r o')[r']? = w.heap[r']? := by
  have hlt : r < w.heap.size := (Array.getElem?_eq_some_iff.1 hb).1
  exact ⟨by simp [hlt], fun r' hne => by simp [Ne.symm hne]⟩
/-- WHAT IS WRITTEN. -/
theorem run_upd (M : MapTy P mt kt et) {p : Nat → Bool} (hn : n < 2 ^ 256) {b : Nat} {z : Int} (h : MapAt b p w) : ∃ w', (Instr.mapUpdate mt (.map (some b)) (natV n) (.int .i64 z)).run P w = .ok () w' ∧ MapAt b (fun m => p m || m == n) w' ∧
    w'.os = w.os ∧ w'.tape = w.tape ∧ w'.output = w.output ∧ w'.heap.size = w.heap.size ∧ ∀ k, k ≠ b → w'.heap[k]? = w.heap[k]? := by
  obtain ⟨es, c, hb, hp⟩ := h
  have hall : ∀ e ∈ es.toList, ∃ m, m < 2 ^ 256 ∧ e.key = natV m := fun e he => by
    obtain ⟨m, z, h1, h2, _⟩ := hp.1 e he
    exact ⟨m, h1, h2⟩
  rcases run_find M hn es.toList 0 hall with ⟨h1, _⟩ | ⟨j, e, h1, h2, h3⟩
  · refine ⟨{ w with heap := w.heap.setIfInBounds b (.map (es.push { key := natV n, val := .int .i64 z, born := c }) (c + 1)) }, ?_, ⟨_, _, (heapSet hb).1, hp.push hn rfl rfl⟩, rfl, rfl, rfl, by simp, fun k hk => (heapSet hb).2 k hk⟩
    simp [Instr.mapUpdate, run_underlying M.m, MapKept.run_getObj_map hb, run_checkKey_nat M hn, run_findKey_nat M, h1, MapKept.run_setObj_map _ hb, Result.andThen]
  · have hj : es[j]? = some e := by simpa using h2
    refine ⟨{ w with heap := w.heap.setIfInBounds b (.map (es.modify j fun e => { e with key := natV n, val := .int .i64 z }) c) }, ?_, ⟨_, _, (heapSet hb).1, hp.modify hn hj h3⟩, rfl, rfl, rfl, by simp, fun k hk => (heapSet hb).2 k hk⟩
    simp [Instr.mapUpdate, run_underlying M.m, MapKept.run_getObj_map hb, run_checkKey_nat M hn, run_findKey_nat M, h1, hj, h3, run_keyStays_nat, MapKept.run_setObj_map _ hb, Result.andThen]
end
end Go.Ab
namespace Go.Ab
open Go Go.RowKit
set_option linter.unusedSimpArgs false
set_option linter.unusedVariables false

/-! Tryd# Something said of the world -/
/-- It stays so, whatever happens beside our blocks. -/
def Steady (A : World → Prop) : Prop := ∀ (Γ : Ctx) (V : Evo) (B : Nat) (L : List Nat) (H : Heap) (β : Nat → Nat) (w w' : World), Rep Γ H β w → (∀ i ∈ L, i < H.length) → A w → FrP (Γ.after V B w β L) w' → A w'
theorem steady_true : Steady fun _ => True := fun _ _ _ _ _ _ _ _ _ _ _ _ => trivial
theorem steady_map (b : Nat) (p : Nat → Bool) : Steady (MapAt b p) := by
  rintro Γ V B L H β w w' hR hlt ⟨es, c, hb, hp⟩ h
  refine ⟨es, c, ?_, hp⟩
  rcases h.2.2.2.2 b (Array.getElem?_eq_some_iff.1 hb).1 with ⟨i, hi, hbi⟩ | h1 | ⟨_, o, o', h2, _, h4⟩
  · have h5 := hR.blk β (.refl _ _) i (H[i]'(hlt i hi)) (List.getElem?_eq_getElem (hlt i hi))
    rw [← hbi, hb] at h5
    cases h5
  · exact h1.trans hb
  · have h2' : w.heap[b]? = some o := h2
    rw [hb] at h2'
    injection h2' with h2'
    obtain ⟨c', t', f', he, _⟩ := V.ofE _ _ h4
    rw [← h2'] at he
    cases he
theorem stays_map (V : Evo) (b : Nat) (p : Nat → Bool) : Stays V fun _ w => MapAt b p w := by
  rintro B w w' ⟨es, c, hb, hp⟩ h
  refine ⟨es, c, ?_, hp⟩
  rcases h.blk b (Array.getElem?_eq_some_iff.1 hb).1 with h1 | ⟨_, o, o', h2, _, h4⟩
  · exact h1.trans hb
  · rw [hb] at h2
    injection h2 with h2
    obtain ⟨c', t', f', he, _⟩ := V.ofE _ _ h4
    rw [← h2] at he
    cases he
abbrev KA := List TV → Heap → (World → Prop) → Prop
abbrev QA := Exit → List TV → Heap → (World → Prop) → Prop
def liftA (Γ : Ctx) (Q : QA) : Exit → Act → World → Prop := fun e a w => ∃ T H A, Q e T H A ∧ St Γ T H a w ∧ A w
/-- What a piece of code does, where A is so. -/
def XA (Γ : Ctx) (A : World → Prop) (c : Code) (T : List TV) (H : Heap) (Q : QA) : Prop := ∀ a w, St Γ T H a w → A w → c.wp Γ.P (liftA Γ Q) a w
section
variable {Γ : Ctx} {A : World → Prop} {H : Heap} {T : List TV} {Q : QA}
theorem XA.mono {c : Code} {Q' : QA} (h : XA Γ A c T H Q) (hq : ∀ e T H A, Q e T H A → Q' e T H A) : XA Γ A c T H Q' :=
  fun a w hs hA => wp_mono (h a w hs hA) fun _ _ _ ⟨T, H, A, h1, h2⟩ => ⟨T, H, A, hq _ _ _ _ h1, h2⟩
def seqA (K : KA) (Q : QA) : QA := fun e T H A => match e with | .normal => K T H A | e => Q e T H A
def blockA (id : Nat) (Q : QA) : QA := fun e T H A => match e with | .exit i => if i = id then Q .normal T H A else Q (.exit i) T H A | e => Q e T H A
theorem XA_seq {x y : Code} (h : XA Γ A x T H (seqA (fun T H A => XA Γ A y T H Q) Q)) : XA Γ A (.seq x y) T H Q := by
  intro a w hs hA
  refine wp_seq (wp_mono (h a w hs hA) fun e a' w' ⟨T', H', A', hq, hs', hA'⟩ => ?_)
  cases e with
  | normal => exact hq a' w' hs' hA'
  | _ => exact ⟨T', H', A', hq, hs', hA'⟩
theorem XA_block {id : Nat} {b : Code} (h : XA Γ A b T H (blockA id Q)) : XA Γ A (.block id b) T H Q := by
  intro a w hs hA
  refine wp_block (wp_mono (h a w hs hA) fun e a' w' ⟨T', H', A', hq, hs', hA'⟩ => ?_)
  cases e with
  | exit i =>
    simp only [Exit.inBlock]
    simp only [blockA] at hq
    split
    · rename_i hi; simp only [hi, if_true] at hq; exact ⟨T', H', A', hq, hs', hA'⟩
    · rename_i hi; simp only [hi, if_false] at hq; exact ⟨T', H', A', hq, hs', hA'⟩
  | _ => exact ⟨T', H', A', hq, hs', hA'⟩
/-- Here the world is what it is; our blocks stay ours. -/
theorem rep_here {β : Nat → Nat} {w : World} {L : List Nat} (hR : Rep Γ H β w) (hL : ∀ i, i < H.length → i ∈ L) : Rep (Γ.after Γ.ev Γ.B w β L) H β w :=
  ⟨⟨Nat.zero_le _, fun j hj => absurd hj (Nat.not_lt_zero j)⟩, ⟨rfl, rfl, rfl, Nat.le_refl _, fun _ _ => .inr (.inl rfl)⟩, hR.inj, fun j hj => .inr ⟨j, hL j hj, rfl⟩, hR.typ, hR.blk⟩
theorem st_here {β : Nat → Nat} {w : World} {L : List Nat} {a : Act} (hT : Holds H.length β T a.tmps) (hR : Rep Γ H β w) (hd : a.defers = []) (hL : ∀ i, i < H.length → i ∈ L) : St (Γ.after Γ.ev Γ.B w β L) T H a w := ⟨β, hT, rep_here hR hL, hd⟩
theorem st_back {β : Nat → Nat} {w w' : World} {L : List Nat} {a : Act} {T' : List TV} {H' : Heap} (hR : Rep Γ H β w) (hlt : ∀ i ∈ L, i < H.length) (hn : Γ.n0 = 0) (hS : Steady A) (hA : A w) (hs : St (Γ.after Γ.ev Γ.B w β L) T' H' a w') : St Γ T' H' a w' ∧ A w' := by
  obtain ⟨β', hT', hR', hd'⟩ := hs
  exact ⟨⟨β', hT', hR.back hlt hn (.inl ⟨rfl, rfl⟩) (fun _ h => h) hR', hd'⟩, hS _ _ _ _ _ _ _ _ hR hlt hA hR'.fr.to⟩
/-- CODE THAT WRITES INTO NO MAP: A is known all the while. -/
theorem XA_X {c : Code} (L : List Nat) (hS : Steady A) (hn : Γ.n0 = 0) (hL : ∀ i, i < H.length → i ∈ L) (hlt : ∀ i ∈ L, i < H.length)
    (h : ∀ β w, Rep Γ H β w → Kn (Γ.after Γ.ev Γ.B w β L) (fun _ w => A w) → (∀ q, Kn Γ q → Kn (Γ.after Γ.ev Γ.B w β L) q) → X (Γ.after Γ.ev Γ.B w β L) c T H fun e T H => Q e T H A) : XA Γ A c T H Q := by
  intro a w ⟨β, hT, hR, hd⟩ hA
  refine wp_mono (h β w hR (fun w' hw' => hS _ _ _ _ _ _ _ _ hR hlt hA hw') (fun q hq => hq.after hR hlt) a w (st_here hT hR hd hL)) fun e a' w' ⟨T', H', hq, hs'⟩ => ?_
  obtain ⟨h1, h2⟩ := st_back hR hlt hn hS hA hs'
  exact ⟨T', H', A, hq, h1, h2⟩
/-- Code in which nothing is said of the world. -/
theorem XA_of {c : Code} {Q' : QX} (h : X Γ c T H Q') (hq : ∀ e T H, Q' e T H → Q e T H fun _ => True) : XA Γ A c T H Q := fun a w hs _ =>
  wp_mono (h a w hs) fun e a' w' ⟨T', H', h1, h2⟩ => ⟨T', H', _, hq _ _ _ h1, h2, trivial⟩
def loopA {ι : Type} (T : List TV) (H : Heap) (V : ι → Prop) (μ : ι → Nat) (js : List Nat) (sv : ι → List (Nat × TV)) (hv : ι → List (Nat × List SV)) (AA : ι → World → Prop) (i : ι) (Q : QA) : QA :=
  seqA (fun T' H' A' => ∃ i', μ i' < μ i ∧ Again T H V js sv hv T' H' i' ∧ A' = AA i') Q
theorem XA_loop {c : Code} {ι : Type} (V : ι → Prop) (μ : ι → Nat) (js : List Nat) (sv : ι → List (Nat × TV)) (hv : ι → List (Nat × List SV)) (AA : ι → World → Prop) (i0 : ι)
    (hsh : Shape V H.length sv hv) (hnj : js.Nodup) (h0 : Again T H V js sv hv T H i0) (hA0 : A = AA i0)
    (hr : ∀ i us, V i → XA Γ (AA i) c (setMany (setMany T (junk us js)) (sv i)) (setCells H (hv i)) (loopA T H V μ js sv hv AA i Q)) : XA Γ A (.loop c) T H Q := by
  subst hA0
  intro a w hs hA
  obtain ⟨oT, oH, on⟩ := hs.oks
  refine wp_loop_ghost (fun n a w => ∃ i us, V i ∧ μ i = n ∧ St Γ (setMany (setMany T (junk us js)) (sv i)) (setCells H (hv i)) a w ∧ AA i w) (μ i0) ?_ ?_
  · obtain ⟨us, h⟩ := hs.again hsh hnj oT oH on h0
    exact ⟨i0, us, h0.1, rfl, h, hA⟩
  · rintro n a w ⟨i, us, hV, rfl, hs', hA'⟩
    refine wp_mono (hr i us hV a w hs' hA') fun e a' w' ⟨T', H', A', hq, hs'', hA''⟩ => ?_
    cases e with
    | normal =>
      obtain ⟨i', hlt, hag, rfl⟩ := hq
      obtain ⟨us', h⟩ := hs''.again hsh hnj oT oH on hag
      exact ⟨μ i', hlt, i', us', hag.1, rfl, h, hA''⟩
    | _ => exact ⟨T', H', A', hq, hs'', hA''⟩
end

/-! Tryd# Operations in a row -/
@[irreducible] def XAR (Γ : Ctx) (A : World → Prop) (ops : Array Oper) (l : List Oper) (T : List TV) (H : Heap) (K : KA) : Prop :=
  ∀ (Q : Exit → Act → World → Prop) (a : Act) (w : World), St Γ T H a w → A w → (∀ T' H' A' a' w', K T' H' A' → St Γ T' H' a' w' → A' w' → Q .normal a' w') → wpList Γ.P ops Q l a w
section
variable {Γ : Ctx} {A : World → Prop} {H : Heap} {T : List TV} {ops : Array Oper} {K : KA} {dst : Option Tmp} {op : Op} {ty : TypeId} {pos : String} {af : Array Edge} {r : List Oper}
theorem XAR_def {l : List Oper} : XAR Γ A ops l T H K = ∀ (Q : Exit → Act → World → Prop) (a : Act) (w : World), St Γ T H a w → A w → (∀ T' H' A' a' w', K T' H' A' → St Γ T' H' a' w' → A' w' → Q .normal a' w') → wpList Γ.P ops Q l a w := by unfold XAR; rfl
theorem XAR_nil (h : K T H A) : XAR Γ A ops [] T H K := by
  rw [XAR_def]
  exact fun Q a w hs hA hK => hK _ _ _ _ _ h hs hA
theorem XA_reg {id : Nat} {l : List Oper} {Q : QA} (h : XAR Γ A l.toArray l T H fun T H A => Q .normal T H A) : XA Γ A (.region id l.toArray false) T H Q := by
  intro a w hs hA
  rw [XAR_def] at h
  exact wp_region_list (h _ a w hs hA fun T' H' A' a' w' hq hs' hA' => ⟨T', H', A', hq, hs', hA'⟩)
/-- An operation that writes into no map. -/
theorem XAR_step (L : List Nat) (hS : Steady A) (hn : Γ.n0 = 0) (hL : ∀ i, i < H.length → i ∈ L) (hlt : ∀ i ∈ L, i < H.length)
    (h : ∀ β w, Rep Γ H β w → Kn (Γ.after Γ.ev Γ.B w β L) (fun _ w => A w) → (∀ q, Kn Γ q → Kn (Γ.after Γ.ev Γ.B w β L) q) → xstep (Γ.after Γ.ev Γ.B w β L) op (ev T) H fun v H' => XAR Γ A ops r (putT T dst v) H' K) :
    XAR Γ A ops (⟨dst, op, ty, pos, af, none⟩ :: r) T H K := by
  rw [XAR_def]
  intro Q a w hs hA hK
  obtain ⟨β, hT, hR, hd⟩ := hs
  have hwant : Region.wanted (⟨dst, op, ty, pos, af, none⟩ : Oper) (yielded ops a.tmps) = true := by simp [Region.wanted]
  simp only [wpList, hwant, if_true]
  refine .inl (xstep_wp (Γ := Γ.after Γ.ev Γ.B w β L) (o := ⟨dst, op, ty, pos, af, none⟩) (h β w hR (fun w' hw' => hS _ _ _ _ _ _ _ _ hR hlt hA hw') fun q hq => hq.after hR hlt) (st_here hT hR hd hL) fun v H' u w' hv hs'' => ?_)
  rw [XAR_def] at hv
  obtain ⟨h1, h2⟩ := st_back hR hlt hn hS hA hs''
  exact hv Q _ _ h1 h2 hK
/-- A new map. -/
theorem XAR_mk {t : TypeId} (h : ∀ b, Γ.W.heap.size ≤ b → XAR Γ (MapAt b fun _ => false) ops r (putT T dst (.s (.v (.map (some b))))) H K) :
    XAR Γ A ops (⟨dst, .makeMap t none, ty, pos, af, none⟩ :: r) T H K := by
  rw [XAR_def]
  intro Q a w hs hA hK
  obtain ⟨β, hT, hR, hd⟩ := hs
  have hput : ∀ u, (a.put dst u).defers = [] := fun u => by cases dst <;> exact hd
  have hwant : Region.wanted (⟨dst, .makeMap t none, ty, pos, af, none⟩ : Oper) (yielded ops a.tmps) = true := by simp [Region.wanted]
  simp only [wpList, hwant, if_true]
  left
  have hrun : (execOp a.eval (⟨dst, .makeMap t none, ty, pos, af, none⟩ : Oper)).run Γ.P w = .ok (.value (.map (some w.heap.size))) (w.alloc (.map #[] 0)) := by
    simp [execOp, run_makeMap]
  unfold Oper.wp
  rw [hrun]
  have hX := h w.heap.size hR.fr.size
  rw [XAR_def] at hX
  exact hX Q _ _ ⟨β, hT.put (Nat.le_refl _) (.refl _ _) (fun _ _ => rfl), hR.ext (Ext.alloc _ _ _ _), hput _⟩ ⟨#[], 0, (MapKept.heap_alloc w _).1, MapIs.nil⟩ hK
/-- What is written into a map. -/
theorem XAR_put {b : Nat} {p : Nat → Bool} {n : Nat} {z : Int} {mt kt et : TypeId} {m k x : Operand} (M : MapTy Γ.P mt kt et) (hop : op = .mapUpdate mt m k x ∨ op = .insert mt m k x) (hbW : Γ.W.heap.size ≤ b) (hn : n < 2 ^ 256)
    (hm : ev T m = .s (.v (.map (some b)))) (hk : ev T k = .agg (nat4 n)) (hx : ev T x = .s (.v (.int .i64 z))) (h : XAR Γ (MapAt b fun i => p i || i == n) ops r (putT T dst undefT) H K) :
    XAR Γ (MapAt b p) ops (⟨dst, op, ty, pos, af, none⟩ :: r) T H K := by
  rw [XAR_def] at h ⊢
  intro Q a w hs hA hK
  obtain ⟨β, hT, hR, hd⟩ := hs
  have hput : ∀ u, (a.put dst u).defers = [] := fun u => by cases dst <;> exact hd
  have hwant : Region.wanted (⟨dst, op, ty, pos, af, none⟩ : Oper) (yielded ops a.tmps) = true := by simp [Region.wanted]
  simp only [wpList, hwant, if_true]
  left
  obtain ⟨w', hrun, hA', hos, htape, hout, hsz, hsame⟩ := run_upd M hn (z := z) hA
  have hev := eval_ev (a := a) (hT β (.refl _ _))
  have e1 : a.eval m = .map (some b) := by rw [hev, hm]; rfl
  have e2 : a.eval k = natV n := by rw [hev, hk, natV_conc]
  have e3 : a.eval x = .int .i64 z := by rw [hev, hx]; rfl
  have hex : (execOp a.eval (⟨dst, op, ty, pos, af, none⟩ : Oper)).run Γ.P w = .ok .skip w' := by
    rcases hop with rfl | rfl <;> simp [execOp, e1, e2, e3, hrun, Result.andThen]
  unfold Oper.wp
  rw [hex]
  have hmap : ∃ es c, w.heap[b]? = some (.map es c) := by obtain ⟨es, c, h1, _⟩ := hA; exact ⟨es, c, h1⟩
  obtain ⟨es, c, hes⟩ := hmap
  have hR' : Rep Γ H β w' := by
    refine ⟨hR.anc, ⟨hos.trans hR.fr.os, htape.trans hR.fr.tape, hout.trans hR.fr.output, by rw [hsz]; exact hR.fr.size, fun k hk => ?_⟩, hR.inj, hR.lie, hR.typ, fun β' h' j bb hbb => ?_⟩
    · have hkb : k ≠ b := by omega
      refine (hR.fr.blk k hk).imp id fun h1 => ?_
      exact h1.trans (.inl (hsame k hkb))
    · have h2 := hR.blk β' h' j bb hbb
      rw [hsame]
      · exact h2
      · intro hj
        rw [hj, hes] at h2
        cases h2
  exact h Q _ _ ⟨β, hT.put (Nat.le_refl _) (.refl _ _) (fun _ _ => rfl), hR', hput _⟩ hA' hK
end

/-! Tryd# Functions -/
def retA (P : Program) (rs : List ResultVar) (R : TV → Heap → (World → Prop) → Prop) : QA := fun e T H A => retQ P rs (fun v H => R v H A) e T H
theorem calls_of_XA {Γ : Ctx} {A : World → Prop} {f : FuncId} {fn : Func} {c : Code} {args : List TV} {H : Heap} {β : Nat → Nat} {R : TV → Heap → (World → Prop) → Prop} (hf : Γ.P.funcs[f]? = some fn) (hb : fn.body = some c)
    (hR : Rep Γ H β Γ.W) (hA : A Γ.W) (ha : ∀ x ∈ args, x.ok H.length) (h : XA Γ A c (args ++ List.replicate (fn.ntmps - args.length) undefT) H (retA Γ.P fn.results.toList R)) :
    Calls Γ.P f (args.map (TV.conc β)).toArray Γ.W fun e w' => ∃ v H' A' β', R v H' A' ∧ A' w' ∧ Rep Γ H' β' w' ∧ ∀ β'', Agrees H'.length β' β'' → e = .returned (v.conc β'') := by
  refine calls_of_wp hf hb (wp_mono (h _ _ ⟨β, Holds.of_ok ?_ ?_, hR, rfl⟩ hA) ?_)
  · apply Array.ext'
    simp
  · intro x hx
    rw [List.mem_append] at hx
    rcases hx with hx | hx
    · exact ha x hx
    · rw [List.mem_replicate] at hx
      rw [hx.2]
      intro y hy
      simp at hy
  · rintro e a w' ⟨T', H', A', hq, hs, hA'⟩
    cases e with
    | normal => exact ret_post (fn := fn) (R' := fun e w' => ∃ v H' A' β', R v H' A' ∧ A' w' ∧ Rep Γ H' β' w' ∧ ∀ β'', Agrees H'.length β' β'' → e = .returned (v.conc β'')) (R := fun v H => R v H A') hq hs fun v β' e hv hR' he => ⟨v, H', A', β', hv, hA', hR', he⟩
    | ret => exact ret_post (fn := fn) (R' := fun e w' => ∃ v H' A' β', R v H' A' ∧ A' w' ∧ Rep Γ H' β' w' ∧ ∀ β'', Agrees H'.length β' β'' → e = .returned (v.conc β'')) (R := fun v H => R v H A') hq hs fun v β' e hv hR' he => ⟨v, H', A', β', hv, hA', hR', he⟩
    | _ => exact hq.elim
end Go.Ab
namespace Go.Ab
open Go Go.RowKit
set_option linter.unusedSimpArgs false
set_option linter.unusedVariables false
section
variable {Γ : Ctx} {A : World → Prop} {H : Heap} {T : List TV} {ops : Array Oper} {K : KA} {dst : Option Tmp} {ty : TypeId} {pos : String} {af : Array Edge} {r : List Oper}
/-- A call, of which something is said of the world behind it. -/
theorem XAR_call {g : Operand} {az : List Operand} {ts : Array TypeId} {f : FuncId} {args : List TV} {Rr : TV → (World → Prop) → Prop} (hg : ev T g = .s (.v (.func (.func f) #[] #[]))) (hargs : az.map (ev T) = args) (hcall : callable Γ.P f = true)
    (h : ∀ β w, Rep Γ H β w → A w → Calls Γ.P f (args.map (TV.conc β)).toArray w fun e w' => ∃ v A', Rr v A' ∧ A' w' ∧ (∀ β', e = .returned (v.conc β')) ∧ Ext Γ.ev Γ.B w w')
    (hK : ∀ v A', Rr v A' → XAR Γ A' ops r (putT T dst v) H K) : XAR Γ A ops (⟨dst, .call ⟨.value g, az.toArray, ts⟩, ty, pos, af, none⟩ :: r) T H K := by
  rw [XAR_def]
  intro Q a w hs hA hKK
  obtain ⟨β, hT, hR, hd⟩ := hs
  have hput : ∀ u, (a.put dst u).defers = [] := fun u => by cases dst <;> exact hd
  have hwant : Region.wanted (⟨dst, .call ⟨.value g, az.toArray, ts⟩, ty, pos, af, none⟩ : Oper) (yielded ops a.tmps) = true := by simp [Region.wanted]
  simp only [wpList, hwant, if_true]
  left
  have hev := eval_ev (a := a) (hT β (.refl _ _))
  have hgc : a.eval g = .func (.func f) #[] #[] := by rw [hev, hg]; rfl
  have hrun := run_callF (P := Γ.P) (o := ⟨dst, .call ⟨.value g, az.toArray, ts⟩, ty, pos, af, none⟩) (ρ := a.eval) rfl rfl hgc hcall w
  have hargs' : (args.map (TV.conc β)).toArray = #[] ++ (az.toArray).map a.eval ++ #[] := by
    apply Array.ext'
    simp [← hargs, Function.comp_def, hev]
  unfold Oper.wp
  rw [hrun]
  simp only [Oper.upon]
  have h' := h β w hR hA
  rw [hargs'] at h'
  refine h'.mono fun e w' ⟨v, A', hR', hA', he, hx⟩ => ?_
  have he0 := he β
  subst he0
  simp only
  have hX := hK v A' hR'
  rw [XAR_def] at hX
  refine hX Q _ _ ⟨β, hT.put (Nat.le_refl _) (.refl _ _) (fun β'' _ => ?_), hR.ext hx, hput _⟩ hA' hKK
  have h1 := he β''
  injection h1 with h1
  exact h1.symm
end
theorem pureM_ofA {P : Program} {f : FuncId} {fn : Func} {c : Code} {args : List TV} {pre : World → Prop} {r : TV} (hf : P.funcs[f]? = some fn) (hb : fn.body = some c) (ha : ∀ x ∈ args, x.ok 0) (hr : r.ok 0)
    (h : ∀ w, pre w → XA (ctx0 P w) (fun _ => True) c (args ++ List.replicate (fn.ntmps - args.length) undefT) [] (retA P fn.results.toList fun v _ _ => v = r)) : PureM P f args pre r := by
  intro w hw
  refine (calls_of_XA (Γ := ctx0 P w) hf hb (rep0 P w fun _ => 0) trivial ha (h w hw)).mono ?_
  rintro e w' ⟨v, H', A', β', rfl, _, hR, he⟩
  refine ⟨fun β'' => ?_, below_of_rep0 hR⟩
  rw [he β' (.refl _ _)]
  rw [TV.conc_ok hr (β := β'') (β' := β') (fun j hj => absurd hj (Nat.not_lt_zero j))]
end Go.Ab
/-
  The cells of a Mod.
-/
namespace Go.Ab
open Go
set_option linter.unusedSimpArgs false
set_option linter.unusedVariables false

/-- A Mod's cells: the number, the Once (done, its lock), what makes -1, the image of 2^256. -/
def modc (m d l i s : Nat) : List SV := nat4 m ++ ([.v (.int .u32 (d : Int)), .v (.int .i32 (l : Int)), .v (.int .u32 0), .v (.int .u64 (i : Int))] ++ nat4 s)
section
variable {m d l i s n x : Nat}
theorem modc_length : (modc m d l i s).length = 12 := rfl
theorem modc_take : List.take 4 (modc m d l i s) = nat4 m := rfl
theorem modc_sq : List.take 4 (List.drop 8 (modc m d l i s)) = nat4 s := rfl
theorem modc_i : (modc m d l i s)[7]? = some (.v (.int .u64 (i : Int))) := rfl
theorem modc_set7 : (modc m d l i s).set 7 (.v (.int .u64 (x : Int))) = modc m d l x s := rfl
theorem modc_spl : splice (modc m d l i s) 8 (nat4 x) = modc m d l i x := rfl
theorem modc_ok : ∀ y ∈ modc m d l i s, y.ok n := by
  intro y hy
  unfold modc at hy
  rcases List.mem_append.1 hy with hy | hy
  · exact arr_ok n y hy
  · rcases List.mem_append.1 hy with hy | hy
    · simp only [List.mem_cons, List.not_mem_nil, or_false] at hy
      rcases hy with rfl | rfl | rfl | rfl <;> trivial
    · exact arr_ok n y hy
theorem modc_okk : (∀ y ∈ modc m d l i s, y.ok n) = True := eq_true modc_ok
end
end Go.Ab

/-
  The states of a Mod: as it was made, and with what was made when it was first asked.
-/
namespace Go.Ab
open Go
set_option linter.unusedSimpArgs false
set_option linter.unusedVariables false

/-- A number that a Mod may be of. -/
structure OddM (m : Nat) : Prop where
  lt : m < 2 ^ 256
  odd : m % 2 = 1
  gt : 1 < m
theorem OddM.pos {m : Nat} (h : OddM m) : 0 < m := Nat.lt_trans Nat.zero_lt_one h.gt
theorem OddM.mod_lt {m x : Nat} (h : OddM m) : x % m < 2 ^ 256 := Nat.lt_trans (Nat.mod_lt _ h.pos) h.lt
theorem OddM.mo_lt {n m x : Nat} (h : OddM m) : moN n m x < 2 ^ 256 := Nat.lt_trans (moN_lt h.pos) h.lt
/-- The image of 2^256. -/
def sqm (m : Nat) : Nat := 2 ^ 256 % m * (2 ^ 256 % m) % m
theorem OddM.sq_lt {m : Nat} (h : OddM m) : sqm m < 2 ^ 256 := h.mod_lt
/-- A Mod's cells: asked already? -/
def modS (m : Nat) (b : Bool) : List SV := if b then modc m 1 0 (mi m) (sqm m) else modc m 0 0 0 0
theorem modS_true {m : Nat} : modS m true = modc m 1 0 (mi m) (sqm m) := rfl
theorem modS_eq (m : Nat) (b : Bool) : ∃ d i s, modS m b = modc m d 0 i s := by cases b; exact ⟨_, _, _, rfl⟩; exact ⟨_, _, _, rfl⟩
theorem modS_length {m : Nat} {b : Bool} : (modS m b).length = 12 := by cases b <;> rfl
theorem modS_ok {m n : Nat} {b : Bool} : ∀ y ∈ modS m b, y.ok n := by obtain ⟨d, i, s, h⟩ := modS_eq m b; rw [h]; exact modc_ok
theorem modS_okk {m n : Nat} {b : Bool} : (∀ y ∈ modS m b, y.ok n) = True := eq_true modS_ok
/-- A number's image, and what an image stands for. -/
def img (m x : Nat) : Nat := x * 2 ^ 256 % m
def mo (m x : Nat) : Nat := moN 256 m x
theorem OddM.img_lt {m x : Nat} (h : OddM m) : img m x < 2 ^ 256 := h.mod_lt
theorem OddM.mo_lt' {m x : Nat} (h : OddM m) : mo m x < 2 ^ 256 := h.mo_lt
theorem mo_sq {m : Nat} (h : OddM m) (x : Nat) : mo m (x * sqm m) = img m x := to_end h.odd
theorem mo_times {m : Nat} (h : OddM m) (x y : Nat) : mo m (img m x * y) = x * y % m := times_end h.odd
theorem mo_back {m : Nat} (h : OddM m) (x : Nat) : mo m (img m x) = x % m := back_end h.odd
theorem mo_img {m : Nat} (h : OddM m) (x y : Nat) : mo m (img m x * img m y) = img m (x * y) := img_mul h.odd
theorem pow_img {m : Nat} (h : OddM m) (a n k : Nat) : (if n / 2 ^ k % 2 = 1 then mo m (img m (a ^ (n % 2 ^ k)) * img m (a ^ 2 ^ k)) else img m (a ^ (n % 2 ^ k))) = img m (a ^ (n % 2 ^ (k + 1))) := by
  rw [pow_bit, mo_img h]
  split <;> rfl
theorem pow_sq {m : Nat} (h : OddM m) (a k : Nat) : mo m (img m (a ^ 2 ^ k) * img m (a ^ 2 ^ k)) = img m (a ^ 2 ^ (k + 1)) := by
  rw [mo_img h, ← Nat.pow_add, Nat.pow_succ, Nat.mul_two]
theorem lt_up {a n k : Nat} (hn : k ≤ n) (h : a < 2 ^ k) : a < 2 ^ n := Nat.lt_of_lt_of_le h (Nat.pow_le_pow_right (by decide) hn)
theorem lt_up_add {a b n k : Nat} (hn : k + 1 ≤ n) (h : a < 2 ^ k) (h' : b < 2 ^ k) : a + b < 2 ^ n := by
  have e : 2 ^ (k + 1) = 2 ^ k * 2 := Nat.pow_succ 2 k
  have h2 : 2 ^ (k + 1) ≤ 2 ^ n := Nat.pow_le_pow_right (by decide) hn
  rw [e] at h2
  omega
theorem lt_up_mul {a b n k : Nat} (hn : n = k + k) (h : a < 2 ^ k) (h' : b < 2 ^ k) : a * b < 2 ^ n := by
  rw [hn, Nat.pow_add 2 k k]
  exact Nat.mul_lt_mul_of_lt_of_le h (Nat.le_of_lt h') (Nat.two_pow_pos _)
theorem at512 {a n : Nat} (hn : n = 512) (h : a < 2 ^ n) : a < 2 ^ 512 := by subst hn; exact h
theorem lt512 {a : Nat} (h : a < 2 ^ 256) : a < 2 ^ 512 := by
  obtain ⟨n, hn⟩ : ∃ n, n = 512 := ⟨_, rfl⟩
  exact at512 hn (lt_up (by omega) h)
theorem lt512_add {a b : Nat} (h : a < 2 ^ 256) (h' : b < 2 ^ 256) : a + b < 2 ^ 512 := by
  obtain ⟨n, hn⟩ : ∃ n, n = 512 := ⟨_, rfl⟩
  exact at512 hn (lt_up_add (by omega) h h')
theorem lt512_mul {a b : Nat} (h : a < 2 ^ 256) (h' : b < 2 ^ 256) : a * b < 2 ^ 512 := by
  obtain ⟨n, hn⟩ : ∃ n, n = 512 := ⟨_, rfl⟩
  exact at512 hn (lt_up_mul (by omega) h h')
/-- Why a number may not be. -/
def chk (m : Nat) : Int := if m = 0 ∨ m = 1 then 11 else if m % 2 = 0 then 12 else 0
theorem good_of {m : Nat} (hm : m < 2 ^ 256) (h : chk m = 0) : OddM m := by
  unfold chk at h
  split at h
  · cases h
  · split at h
    · cases h
    · exact ⟨hm, by omega, by omega⟩
theorem chk_bad {m : Nat} (hm : m < 2 ^ 256) (h : ¬ OddM m) : chk m = 11 ∨ chk m = 12 := by
  by_cases h0 : chk m = 0
  · exact absurd (good_of hm h0) h
  · unfold chk at *
    split
    · exact .inl rfl
    · split
      · exact .inr rfl
      · rename_i h1 h2; simp [h1, h2] at h0
theorem nat4_set0 {a : Nat} (ha : a < 18446744073709551616) : (nat4 0).set 0 (.v (.int .u64 (a : Int))) = nat4 a := by
  rw [← arr4_zero, arr_set, nat4_small ha]
theorem nat4_setL (a : Nat) (ha : OfNat.ofNat a < 18446744073709551616) : (nat4 0).set 0 (.v (.int .u64 (no_index (OfNat.ofNat a : Int)))) = nat4 (OfNat.ofNat a) := nat4_set0 ha
theorem nat4_set1 : (nat4 0).set 0 (.v (.int .u64 1)) = nat4 1 := nat4_set0 (a := 1) (by decide)
end Go.Ab

/-
  Blocks of Mods may turn: from as they were made to as they are when they were asked.
-/
namespace Go.Ab
open Go
set_option linter.unusedSimpArgs false
set_option linter.unusedVariables false

def modObj (T m : Nat) (b : Bool) : Obj := .cells ((modS m b).map (SV.conc fun _ => 0)).toArray T (0, 0)
theorem modObj_conc (T m : Nat) (b : Bool) (β : Nat → Nat) : (AB.mk T (modS m b)).conc β = modObj T m b := conc_vals (b := ⟨T, modS m b⟩) modS_ok _ _
theorem modS_fst (m : Nat) (b : Bool) : ∃ l, modS m b = nat4 m ++ l := by cases b <;> exact ⟨_, rfl⟩
theorem modObj_inj {T m m' : Nat} {b b' : Bool} (hm : OddM m) (hm' : OddM m') (h : modObj T m b = modObj T m' b') : m = m' := by
  refine (nat4_inj m m' hm.lt hm'.lt).1 ?_
  unfold modObj at h
  injection h with h _ _
  injection h with h
  obtain ⟨l, hl⟩ := modS_fst m b
  obtain ⟨l', hl'⟩ := modS_fst m' b'
  rw [hl, hl', List.map_append, List.map_append] at h
  have h1 := (List.append_inj h (by simp [nat4, arr])).1
  refine arr_congr fun i hi => ?_
  have h2 := congrArg (fun l => l[i]?) h1
  have h3 : ((wd m i : Nat) : Int) = ((wd m' i : Nat) : Int) := by simpa [nat4, arr, hi, SV.conc] using h2
  omega
def modEvo (T : Nat) : Evo where
  E o o' := ∃ m b b', OddM m ∧ o = modObj T m b ∧ o' = modObj T m b'
  TM t := t = T
  ofE := fun o o' ⟨m, b, b', _, h, _⟩ => ⟨_, _, _, h, rfl⟩
  trans := fun a b c ⟨m, x, y, hm, h1, h2⟩ ⟨m', x', y', hm', h3, h4⟩ => by
    have : m = m' := modObj_inj hm hm' (h2.symm.trans h3)
    subst this
    exact ⟨m, x, y', hm, h1, h4⟩
/-- Block k is a Mod of m. -/
def isMod (T k m : Nat) : Nat → World → Prop := fun B w => OddM m ∧ B ≤ k ∧ ∃ b, w.heap[k]? = some (modObj T m b)
theorem isMod_stays (T k m : Nat) : Stays (modEvo T) (isMod T k m) := by
  rintro B w w' ⟨hm, hB, b, hb⟩ hx
  refine ⟨hm, hB, ?_⟩
  rcases hx.blk k (Array.getElem?_eq_some_iff.1 hb).1 with h1 | ⟨_, o, o', h1, h2, m', x, y, hm', h3, h4⟩
  · exact ⟨b, h1.trans hb⟩
  · rw [hb] at h1
    injection h1 with h1
    have : m = m' := modObj_inj hm hm' (h1.trans h3)
    subst this
    exact ⟨y, h2.trans (congrArg some h4)⟩
theorem modEvo_TM {T e : Nat} : (modEvo T).TM e = (e = T) := rfl
/-- A Mod that was let go. -/
theorem isMod_gone {Γ : Ctx} {T m B : Nat} {bb : Bool} {H : Heap} {β : Nat → Nat} {w : World} {L : List Nat} {j : Nat} (hR : Rep Γ H β w) (hb : H[j]? = some ⟨T, modS m bb⟩) (hj : j ∉ L) (hlt : ∀ i ∈ L, i < H.length) (hm : OddM m) (hB : B ≤ β j) :
    Kn (Γ.after (modEvo T) B w β L) (isMod T (β j) m) := by
  intro w' h
  refine ⟨hm, hB, ?_⟩
  rcases gone hR hb hj hlt h with h1 | ⟨_, o, h1, m', x, y, hm', h3, h4⟩
  · exact ⟨bb, h1.trans (congrArg some (modObj_conc T m bb β))⟩
  · rw [modObj_conc] at h3
    have : m = m' := modObj_inj hm hm' h3
    subst this
    exact ⟨y, h1.trans (congrArg some h4)⟩
theorem new_lie {Γ : Ctx} {H : Heap} {β : Nat → Nat} {w : World} (hR : Rep Γ H β w) (ho : ∀ k, ¬ Γ.own k) {j : Nat} (hj : j < H.length) : Γ.W.heap.size ≤ β j := (hR.lie j hj).resolve_right (ho _)
/-- What does something with one Mod of ours may do it with any. -/
theorem OwnC.mod {P : Program} {f : FuncId} {T k m : Nat} {args : List TV} {r : TV} (ha : ∀ x ∈ args, x.ok 0) (h : OddM m → ∀ b, ∃ b', OwnC P f (.s (.p 0 0) :: args) [⟨T, modS m b⟩] [⟨T, modS m b'⟩] r) :
    EvC (modEvo T) P f (.s (.v (.pointer (some ⟨k, 0, none⟩))) :: args) (isMod T k m) r := by
  refine OwnC.ev ha fun B w ⟨hm, hB, b, hb⟩ => ?_
  obtain ⟨b', h1⟩ := h hm b
  exact ⟨_, _, h1, modS_ok, hb.trans (congrArg some (modObj_conc T m b _).symm), .inr ⟨hB, m, b, b', hm, modObj_conc T m b _, modObj_conc T m b' _⟩⟩
section
variable {Γ : Ctx} {V : Evo} {B : Nat} {w : World} {β : Nat → Nat} {L : List Nat} {e : TypeId}
theorem after_P : (Γ.after V B w β L).P = Γ.P := rfl
theorem after_TM : (Γ.after V B w β L).ev.TM e = V.TM e := rfl
end
/-- What a power is made of, bit by bit. -/
def gimg (m a n i : Nat) : Nat := img m (a ^ (n % 2 ^ i))
def pimg (m a i : Nat) : Nat := img m (a ^ 2 ^ i)
theorem gimg_zero (m a n : Nat) : gimg m a n 0 = img m 1 := by unfold gimg; rw [Nat.pow_zero, Nat.mod_one, Nat.pow_zero]
theorem pimg_zero (m a : Nat) : pimg m a 0 = img m a := by unfold pimg; rw [Nat.pow_zero, Nat.pow_one]
theorem gimg_lt {m : Nat} (h : OddM m) (a n i : Nat) : gimg m a n i < 2 ^ 256 := h.img_lt
theorem pimg_lt {m : Nat} (h : OddM m) (a i : Nat) : pimg m a i < 2 ^ 256 := h.img_lt
theorem gimg_end {m : Nat} (h : OddM m) (a n : Nat) : mo m (gimg m a n (blen n)) = a ^ n % m := by unfold gimg; rw [Nat.mod_eq_of_lt (lt_blen n), mo_back h]
theorem gimg_step {m : Nat} (h : OddM m) (a n i : Nat) : (n / 2 ^ i % 2 = 0 ∧ gimg m a n i = gimg m a n (i + 1)) ∨ (n / 2 ^ i % 2 = 1 ∧ mo m (gimg m a n i * pimg m a i) = gimg m a n (i + 1)) := by
  have e := pow_img h a n i
  unfold gimg pimg
  by_cases h3 : n / 2 ^ i % 2 = 1
  · rw [if_pos h3] at e; exact .inr ⟨h3, e⟩
  · rw [if_neg h3] at e; exact .inl ⟨by omega, e⟩
theorem pimg_step {m : Nat} (h : OddM m) (a i : Nat) : mo m (pimg m a i * pimg m a i) = pimg m a (i + 1) := pow_sq h a i
theorem ren_nat4 {ρ : Nat → Nat} {a : Nat} : TV.ren ρ (.agg (nat4 a)) = .agg (nat4 a) := TV.ren_ok0 (x := .agg (nat4 a)) fun x hx => arr_ok 0 x hx
theorem avren_nat4 {ρ : Nat → Nat} {a : Nat} : AV.ren ρ (.agg (nat4 a)) = .agg (nat4 a) := AV.ren_ok0 (x := .agg (nat4 a)) fun x hx => arr_ok 0 x hx
end Go.Ab

/-
  A Mod that was made is let go: from there on it is known.
-/
namespace Go.Ab
open Go
set_option linter.unusedSimpArgs false
set_option linter.unusedVariables false
section
variable {L : List Nat} {β : Nat → Nat} {H : Heap} {o n c j i : Nat} {x : Value}
theorem fz_v : TV.fz L β (.s (.v x)) = .s (.v x) := rfl
theorem fz_p : TV.fz L β (.s (.p j o)) = .s (fzP β o j (posL L j)) := rfl
theorem fz_sl : TV.fz L β (.s (.sl j o n c)) = .s (fzS β o n c j (posL L j)) := rfl
theorem fz_agg {l : List SV} : TV.fz L β (.agg l) = .agg (l.map (SV.fz L β)) := rfl
theorem fz_tup {l : List AV} : TV.fz L β (.tup l) = .tup (l.map (AV.fz L β)) := rfl
theorem fz_undef : TV.fz L β undefT = undefT := rfl
theorem avfz_v : AV.fz L β (.s (.v x)) = .s (.v x) := rfl
theorem avfz_p : AV.fz L β (.s (.p j o)) = .s (fzP β o j (posL L j)) := rfl
theorem avfz_sl : AV.fz L β (.s (.sl j o n c)) = .s (fzS β o n c j (posL L j)) := rfl
theorem avfz_agg {l : List SV} : AV.fz L β (.agg l) = .agg (l.map (SV.fz L β)) := rfl
theorem svfz_v : SV.fz L β (.v x) = .v x := rfl
theorem svfz_p : SV.fz L β (.p j o) = fzP β o j (posL L j) := rfl
theorem svfz_sl : SV.fz L β (.sl j o n c) = fzS β o n c j (posL L j) := rfl
theorem fzP_none : fzP β o j none = .v (.pointer (some ⟨β j, o, none⟩)) := rfl
theorem fzP_some : fzP β o j (some i) = .p i o := rfl
theorem fzS_none : fzS β o n c j none = .v (.slice (some ⟨β j, o, none⟩) n c) := rfl
theorem fzS_some : fzS β o n c j (some i) = .sl i o n c := rfl
theorem fz_ok0 {l : List SV} (h : ∀ x ∈ l, x.ok 0) : l.map (SV.fz L β) = l := by
  refine (List.map_congr_left (g := id) fun x hx => ?_).trans (List.map_id l)
  have := h x hx
  cases x with
  | v x => rfl
  | p j o => exact absurd this (Nat.not_lt_zero j)
  | sl j o n c => exact absurd this (Nat.not_lt_zero j)
theorem fz_nat4 {a : Nat} : (nat4 a).map (SV.fz L β) = nat4 a := fz_ok0 fun x hx => arr_ok 0 x hx
theorem fz_arr {n : Nat} {f : Nat → Nat} : (arr n f).map (SV.fz L β) = arr n f := fz_ok0 fun x hx => arr_ok 0 x hx
theorem fz_iarr {n : Nat} {f : Nat → Int} : (iarr n f).map (SV.fz L β) = iarr n f := fz_ok0 fun x hx => iarr_ok 0 x hx
def fzB (L : List Nat) (β : Nat → Nat) (b : Option AB) (H : Heap) : Heap := match b with | some b => ⟨b.t, b.cs.map (SV.fz L β)⟩ :: H | none => H
theorem fzB_some {t : Nat} {cs : List SV} : fzB L β (some ⟨t, cs⟩) H = ⟨t, cs.map (SV.fz L β)⟩ :: H := rfl
theorem fzH_nil : fzH L β H [] = [] := rfl
theorem fzH_cons {r : List Nat} : fzH L β H (i :: r) = fzB L β H[i]? (fzH L β H r) := by
  simp only [fzH]
  cases H[i]? <;> rfl
end
end Go.Ab
namespace Go.Ab
open Go Go.RowKit
set_option linter.unusedSimpArgs false
set_option linter.unusedVariables false

/-- Cells that are known: n of them, from ad on. -/
def cellsAt (V : Evo) (ad : Addr) (n : Nat) (g : Nat → Value) : Nat → World → Prop := fun B w =>
  ad.spot = none ∧ ∃ c t f, w.heap[ad.block]? = some (.cells c t f) ∧ (ad.block < B ∨ ¬ V.TM t) ∧ ∀ i, i < n → c[ad.off + i]? = some (g i)
theorem cellsAt_stays (V : Evo) (ad : Addr) (n : Nat) (g : Nat → Value) : Stays V (cellsAt V ad n g) := by
  rintro B w w' ⟨hs, c, t, f, hk, ht, hc⟩ hx
  refine ⟨hs, c, t, f, ?_, ht, hc⟩
  rcases hx.blk _ (Array.getElem?_eq_some_iff.1 hk).1 with h1 | ⟨hB, o, o', h1, h2, hE⟩
  · exact h1.trans hk
  · rw [hk] at h1
    injection h1 with h1
    subst h1
    obtain ⟨c', t', f', he, hT⟩ := V.ofE _ _ hE
    injection he with _ he _
    subst he
    rcases ht with h3 | h3
    · omega
    · exact absurd hT h3
theorem cellsAt_cell {V : Evo} {ad : Addr} {n : Nat} {g : Nat → Value} {B : Nat} {w : World} (h : cellsAt V ad n g B w) {i : Nat} (hi : i < n) : w.cell? (ad.add i) = some (g i) := by
  obtain ⟨hs, c, t, f, hk, _, hc⟩ := h
  obtain ⟨b, o, s⟩ := ad
  simp only at hs
  subst hs
  simp only [addr_add, World.cell?, hk]
  exact hc i hi
theorem Kn.cell {Γ : Ctx} {V : Evo} {ad : Addr} {n : Nat} {g : Nat → Value} (h : Kn Γ (cellsAt V ad n g)) {i : Nat} (hi : i < n) : extCell Γ (ad.add i) (g i) := fun w hw => cellsAt_cell (h w hw) hi
theorem Kn.spot {Γ : Ctx} {V : Evo} {ad : Addr} {n : Nat} {g : Nat → Value} (h : Kn Γ (cellsAt V ad n g)) : ad.spot = none := (h _ (FrP.now Γ)).1
/-- Numbers, word by word. -/
def natsG (l : Nat → Nat) (j : Nat) : Value := .int .u64 (wd (l (j / 4)) (j % 4) : Int)
/-- n numbers at an address (none, if there are none). -/
def natsAt (V : Evo) (x : Option Addr) (n : Nat) (l : Nat → Nat) : Nat → World → Prop := fun B w => n = 0 ∨ ∃ ad, x = some ad ∧ cellsAt V ad (4 * n) (natsG l) B w
theorem natsAt_stays (V : Evo) (x : Option Addr) (n : Nat) (l : Nat → Nat) : Stays V (natsAt V x n l) := by
  rintro B w w' (h | ⟨ad, hx, h⟩) he
  · exact .inl h
  · exact .inr ⟨ad, hx, cellsAt_stays V ad _ _ B w w' h he⟩
theorem xext_row4 {Γ : Ctx} {b o a : Nat} {K : TV → HE → Prop} (h : ∀ k, k < 4 → extCell Γ ⟨b, o + k, none⟩ (.int .u64 (wd a k : Int))) : xext Γ (some true) 4 ⟨b, o, none⟩ K = K (.agg (nat4 a)) .none := by
  simp only [xext, eq_iff_iff]
  have e : ∀ l : List Value, l.length = 4 → (∀ i x, l[i]? = some x → extCell Γ ⟨b, o + i, none⟩ x) → l.map SV.v = nat4 a := by
    intro l hl hc
    refine List.ext_getElem? fun i => ?_
    by_cases hi : i < 4
    · have h1 := hc i l[i] (List.getElem?_eq_getElem (by omega))
      have h2 := extCell_fun h1 (h i hi)
      rw [List.getElem?_map, List.getElem?_eq_getElem (by omega), h2, nat4_get hi]
      rfl
    · rw [List.getElem?_eq_none (by simp; omega), List.getElem?_eq_none (by rw [nat4_length]; omega)]
  constructor
  · rintro ⟨l, hl, _, hc, hK⟩
    rwa [e l hl hc] at hK
  · intro hK
    refine ⟨[.int .u64 (wd a 0 : Int), .int .u64 (wd a 1 : Int), .int .u64 (wd a 2 : Int), .int .u64 (wd a 3 : Int)], rfl, trivial, fun i x hx => ?_, hK⟩
    match i, hx with
    | 0, hx => injection hx with hx; subst hx; exact h 0 (by omega)
    | 1, hx => injection hx with hx; subst hx; exact h 1 (by omega)
    | 2, hx => injection hx with hx; subst hx; exact h 2 (by omega)
    | 3, hx => injection hx with hx; subst hx; exact h 3 (by omega)
/-- A number out of a row that is known. -/
theorem Kn.nat {Γ : Ctx} {V : Evo} {ad : Addr} {n i : Nat} {l : Nat → Nat} (h : Kn Γ (natsAt V (some ad) n l)) (hi : i < n) {K : TV → HE → Prop} : xext Γ (some true) 4 (ad.add (i * 4)) K = K (.agg (nat4 (l i))) .none := by
  have h2 : Kn Γ (cellsAt V ad (4 * n) (natsG l)) := fun w hw => by
    rcases h w hw with h1 | ⟨ad', hx, h1⟩
    · omega
    · injection hx with hx
      subst hx
      exact h1
  have hs := h2.spot
  obtain ⟨b, o, s⟩ := ad
  simp only at hs
  subst hs
  rw [addr_add]
  refine xext_row4 fun k hk => ?_
  have h3 := h2.cell (i := i * 4 + k) (by omega)
  rw [addr_add, ← Nat.add_assoc] at h3
  have e : natsG l (i * 4 + k) = .int .u64 (wd (l i) k : Int) := by
    unfold natsG
    rw [show (i * 4 + k) / 4 = i by omega, show (i * 4 + k) % 4 = k by omega]
  rwa [e] at h3
/-- A row of ours. -/
def nats (n : Nat) (l : Nat → Nat) : List SV := arr (4 * n) fun j => wd (l (j / 4)) (j % 4)
section
variable {n i : Nat} {l : Nat → Nat}
theorem nats_length : (nats n l).length = 4 * n := arr_length
theorem nats_ok (m : Nat) : ∀ x ∈ nats n l, x.ok m := arr_ok m
theorem nats_okk {m : Nat} : (∀ x ∈ nats n l, x.ok m) = True := eq_true (nats_ok m)
theorem nats_get {j : Nat} (h : j < 4 * n) : (nats n l)[j]? = some (.v (natsG l j)) := arr_get h
theorem nats_zero : nats 0 l = [] := rfl
theorem nats_snoc : nats n l ++ nat4 (l n) = nats (n + 1) l := by
  refine List.ext_getElem? fun j => ?_
  by_cases h : j < 4 * n
  · rw [List.getElem?_append_left (by rw [nats_length]; exact h), nats_get h, nats_get (by omega)]
  · rw [List.getElem?_append_right (by rw [nats_length]; omega), nats_length]
    by_cases h2 : j < 4 * (n + 1)
    · rw [nats_get h2, nat4_get (by omega)]
      unfold natsG
      rw [show j / 4 = n by omega, show j % 4 = j - 4 * n by omega]
    · rw [List.getElem?_eq_none (by rw [nat4_length]; omega), List.getElem?_eq_none (by rw [nats_length]; omega)]
end
end Go.Ab
namespace Go.Ab
open Go Go.RowKit
set_option linter.unusedSimpArgs false
set_option linter.unusedVariables false

section
variable {Γ : Ctx} {P : Program} {V : Evo} {H : Heap} {M : List Nat} {f : FuncId} {args : List TV} {r : TV} {K : TV → Heap → Prop} {KV : TV → Prop}
theorem calz (h : ∀ β w, Rep Γ H β w → ∃ pre, EvC Γ.ev Γ.P f (args.map (TV.fz [] β)) pre r ∧ pre Γ.B w) : CalP Γ H f args r := by
  intro β w hR
  obtain ⟨pre, h1, h2⟩ := h β w hR
  have e : args.map (TV.conc β) = (args.map (TV.fz [] β)).map (TV.conc fun _ => 0) := by
    rw [List.map_map]
    exact List.map_congr_left fun x _ => (TV.fz_conc (fun i j h => by simp at h) x).symm
  rw [e]
  exact (h1 Γ.B w h2).mono fun _ _ ⟨he, hx⟩ => ⟨fun β' _ => he β', hx⟩
theorem yF_evz (h : ∀ β w, Rep Γ H β w → ∃ pre, EvC V P f (args.map (TV.fz [] β)) pre r ∧ pre Γ.B w) (hP : Γ.P = P) (hV : Γ.ev = V) (hc : callable P f = true) (hK : K r H) : xcallF Γ H f args K := by
  subst hP; subst hV; exact xcall_pure hc (calz h) hK
theorem yV_evz (h : ∀ β w, Rep Γ H β w → ∃ pre, EvC V P f (args.map (TV.fz [] β)) pre r ∧ pre Γ.B w) (hP : Γ.P = P) (hV : Γ.ev = V) (hc : callable P f = true) (hK : KV r) : xcallV Γ H f args KV := by
  subst hP; subst hV; exact xcallV_pure hc (calz h) hK
end
/-- A row of ours, where it lies. -/
theorem natsAt_own {Γ : Ctx} {T0 B n : Nat} {l : Nat → Nat} {sp : List SV} {e : Nat} {H : Heap} {β : Nat → Nat} {w : World} {j : Nat} (hR : Rep Γ H β w) (hb : H[j]? = some ⟨e, nats n l ++ sp⟩) (he : e ≠ T0) : natsAt (modEvo T0) (some ⟨β j, 0, none⟩) n l B w := by
  refine .inr ⟨_, rfl, rfl, _, _, _, hR.blk β (.refl _ _) j _ hb, .inr he, fun i hi => ?_⟩
  simp only [AB.conc, List.getElem?_toArray, List.getElem?_map, Nat.zero_add]
  rw [List.getElem?_append_left (by rw [nats_length]; exact hi), nats_get hi]
  rfl
theorem natsAt_own0 {Γ : Ctx} {T0 B n : Nat} {l : Nat → Nat} {e : Nat} {H : Heap} {β : Nat → Nat} {w : World} {j : Nat} (hR : Rep Γ H β w) (hb : H[j]? = some ⟨e, nats n l⟩) (he : e ≠ T0) : natsAt (modEvo T0) (some ⟨β j, 0, none⟩) n l B w :=
  natsAt_own (sp := []) hR (by rw [List.append_nil]; exact hb) he
/-- Two numbers. -/
def two (a b : Nat) (i : Nat) : Nat := if i = 0 then a else b
end Go.Ab
