/-
  Arrays of numbers, as cells.
-/
import Derived.Test.YtmipfmjeppodmaaAb8
namespace Go.Ab
open Go Go.RowKit
set_option linter.unusedSimpArgs false
set_option linter.unusedVariables false

/-- n words of 64 bits. -/
def arr (n : Nat) (f : Nat → Nat) : List SV := (List.range n).map fun i => .v (.int .u64 (f i : Int))
/-- n whole numbers. -/
def iarr (n : Nat) (f : Nat → Int) : List SV := (List.range n).map fun i => .v (.int .i64 (f i))

section
variable {n i : Nat} {f g : Nat → Nat} {p q : Nat → Int}
theorem arr_length : (arr n f).length = n := by simp [arr]
theorem iarr_length : (iarr n p).length = n := by simp [iarr]
theorem arr_get (h : i < n) : (arr n f)[i]? = some (.v (.int .u64 (f i : Int))) := by simp [arr, h]
theorem iarr_get (h : i < n) : (iarr n p)[i]? = some (.v (.int .i64 (p i))) := by simp [iarr, h]
theorem arr_congr (h : ∀ i, i < n → f i = g i) : arr n f = arr n g := by
  unfold arr
  exact List.map_congr_left fun i hi => by rw [h i (List.mem_range.1 hi)]
theorem iarr_congr (h : ∀ i, i < n → p i = q i) : iarr n p = iarr n q := by
  unfold iarr
  exact List.map_congr_left fun i hi => by rw [h i (List.mem_range.1 hi)]
theorem arr_set (x : Nat) : (arr n f).set i (.v (.int .u64 (x : Int))) = arr n (fun j => if j = i then x else f j) := by
  apply List.ext_getElem?
  intro k
  rw [List.getElem?_set]
  simp only [arr_length]
  by_cases h : i = k
  · subst h
    by_cases h2 : i < n
    · simp [h2, arr_get h2, arr]
    · simp [h2, arr]
  · simp only [h, if_false]
    by_cases h2 : k < n
    · rw [arr_get h2, arr_get h2, if_neg (Ne.symm h)]
    · simp [arr, h2]
theorem iarr_set (x : Int) : (iarr n p).set i (.v (.int .i64 x)) = iarr n (fun j => if j = i then x else p j) := by
  apply List.ext_getElem?
  intro k
  rw [List.getElem?_set]
  simp only [iarr_length]
  by_cases h : i = k
  · subst h
    by_cases h2 : i < n
    · simp [h2, iarr_get h2, iarr]
    · simp [h2, iarr]
  · simp only [h, if_false]
    by_cases h2 : k < n
    · rw [iarr_get h2, iarr_get h2, if_neg (Ne.symm h)]
    · simp [iarr, h2]
theorem arr_one : oneAll (arr n f) = True := by
  simp only [oneAll, eq_iff_iff, iff_true]
  intro c hc
  simp only [arr, List.mem_map] at hc
  obtain ⟨i, _, rfl⟩ := hc
  rfl
theorem iarr_one : oneAll (iarr n p) = True := by
  simp only [oneAll, eq_iff_iff, iff_true]
  intro c hc
  simp only [iarr, List.mem_map] at hc
  obtain ⟨i, _, rfl⟩ := hc
  rfl
theorem arr_ok (m : Nat) : ∀ x ∈ arr n f, x.ok m := by
  intro x hx
  simp only [arr, List.mem_map] at hx
  obtain ⟨i, _, rfl⟩ := hx
  trivial
theorem iarr_ok (m : Nat) : ∀ x ∈ iarr n p, x.ok m := by
  intro x hx
  simp only [iarr, List.mem_map] at hx
  obtain ⟨i, _, rfl⟩ := hx
  trivial
theorem arr_inj (h : arr n f = arr n g) (i : Nat) (hi : i < n) : f i = g i := by
  have h1 := congrArg (·[i]?) h
  simp only [arr_get hi, Option.some.injEq, SV.v.injEq, Value.int.injEq, true_and] at h1
  omega
end

section
variable {n m : Nat} {f : Nat → Nat} {p : Nat → Int} {l : List SV} {x : SV} {v : Value} {la : List AV}
theorem arr_okk : (∀ x ∈ arr n f, x.ok m) = True := eq_true (arr_ok m)
theorem iarr_okk : (∀ x ∈ iarr n p, x.ok m) = True := eq_true (iarr_ok m)
theorem oks_s : (TV.s x).ok m = x.ok m := rfl
theorem oks_agg : (TV.agg l).ok m = ∀ x ∈ l, x.ok m := rfl
theorem oks_tup : (TV.tup la).ok m = ∀ x ∈ la, x.ok m := rfl
theorem oka_s : (AV.s x).ok m = x.ok m := rfl
theorem oka_agg : (AV.agg l).ok m = ∀ x ∈ l, x.ok m := rfl
theorem okv_p {j o : Nat} : (SV.p j o).ok m = (j < m) := rfl
theorem okv_sl {j o a b : Nat} : (SV.sl j o a b).ok m = (j < m) := rfl
theorem okv_v : (SV.v v).ok m = True := rfl
end

theorem tlt_true {a b : Int} (h : a < b) : (a < b) = True := eq_true h
theorem tle_true {a b : Int} (h : a ≤ b) : (a ≤ b) = True := eq_true h
theorem nlt_true {a b : Nat} (h : a < b) : (a < b) = True := eq_true h
theorem nle_true {a b : Nat} (h : a ≤ b) : (a ≤ b) = True := eq_true h
theorem nlt_false {a b : Nat} (h : b ≤ a) : (a < b) = False := eq_false (Nat.not_lt.2 h)
theorem nle_false {a b : Nat} (h : b < a) : (a ≤ b) = False := eq_false (Nat.not_le.2 h)
theorem tlt_false {a b : Int} (h : b ≤ a) : (a < b) = False := eq_false (Int.not_lt.2 h)
theorem tle_false {a b : Int} (h : b < a) : (a ≤ b) = False := eq_false (Int.not_le.2 h)

/-- A word of a number. -/
def wd (n i : Nat) : Nat := n / 2 ^ (64 * i) % 2 ^ 64
theorem wd_lt (n i : Nat) : wd n i < 18446744073709551616 := Nat.mod_lt _ (by decide)

/-- A number of four words, one of eight. -/
def nat4 (n : Nat) : List SV := arr 4 (wd n)
def nat8 (n : Nat) : List SV := arr 8 (wd n)
theorem nat4_okk {m n : Nat} : (∀ x ∈ nat4 n, x.ok m) = True := arr_okk
theorem nat8_okk {m n : Nat} : (∀ x ∈ nat8 n, x.ok m) = True := arr_okk
theorem nat4_length {n : Nat} : (nat4 n).length = 4 := arr_length
theorem nat8_length {n : Nat} : (nat8 n).length = 8 := arr_length
theorem nat4_one {n : Nat} : oneAll (nat4 n) = True := arr_one
theorem nat8_one {n : Nat} : oneAll (nat8 n) = True := arr_one
theorem nat4_get {n i : Nat} (h : i < 4) : (nat4 n)[i]? = some (.v (.int .u64 (wd n i : Int))) := arr_get h
theorem nat8_get {n i : Nat} (h : i < 8) : (nat8 n)[i]? = some (.v (.int .u64 (wd n i : Int))) := arr_get h
theorem nat4_set {n i : Nat} (x : Nat) : (nat4 n).set i (.v (.int .u64 (x : Int))) = arr 4 (fun j => if j = i then x else wd n j) := arr_set x
theorem nat8_set {n i : Nat} (x : Nat) : (nat8 n).set i (.v (.int .u64 (x : Int))) = arr 8 (fun j => if j = i then x else wd n j) := arr_set x
/-- What is said of a loop's states stays within our blocks. -/
theorem shape_of {ι : Type} {V : ι → Prop} {n : Nat} {sv : ι → List (Nat × TV)} {hv : ι → List (Nat × List SV)} (h : ∀ i, ((sv i).map (·.1)).Nodup ∧ (∀ p ∈ sv i, p.2.ok n) ∧ ∀ p ∈ hv i, ∀ x ∈ p.2, x.ok n) : Shape V n sv hv :=
  ⟨fun i _ => (h i).1, fun i _ => (h i).2.1, fun i _ => (h i).2.2⟩

end Go.Ab
