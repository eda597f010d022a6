/-
  Numbers of bytes; bytes as cells.
-/
import Derived.Test.YtpikjhpbldocnaaNm7
import Derived.Test.YtpikjhpbldocnaaAb13
namespace Go.Ab
open Go Go.RowKit
set_option linter.unusedSimpArgs false
set_option linter.unusedVariables false

theorem or_at (q w p s j : Nat) (hq : q % 2 ^ (p + s) = 0) (hw : w < 2 ^ s) (hj : p / 64 = j) (hf : p % 64 + s ≤ 64) : wd q j ||| (w * 2 ^ (p % 64)) = wd (q + w * 2 ^ p) j := by
  obtain ⟨t, rfl⟩ := Nat.dvd_of_mod_eq_zero hq
  obtain ⟨r, hr⟩ : ∃ r, p % 64 = r := ⟨_, rfl⟩
  rw [hr] at hf ⊢
  have hp : p = 64 * j + r := by omega
  have e1 : 2 ^ (p + s) * t = 2 ^ (64 * j) * (2 ^ (r + s) * t) := by
    rw [show p + s = 64 * j + (r + s) by omega, Nat.pow_add, Nat.mul_assoc]
  have e2 : w * 2 ^ p = 2 ^ (64 * j) * (w * 2 ^ r) := by
    rw [hp, Nat.pow_add, Nat.mul_left_comm]
  have e3 : (18446744073709551616 : Nat) = 2 ^ (r + s) * 2 ^ (64 - (r + s)) := by
    rw [← Nat.pow_add, show r + s + (64 - (r + s)) = 64 by omega]
  have hB : w * 2 ^ r < 2 ^ (r + s) := by
    rw [Nat.pow_add, Nat.mul_comm (2 ^ r)]
    exact Nat.mul_lt_mul_of_pos_right hw (Nat.two_pow_pos r)
  rw [e1, e2, ← Nat.mul_add, wd_eq, wd_eq, Nat.mul_div_cancel_left _ (Nat.two_pow_pos _), Nat.mul_div_cancel_left _ (Nat.two_pow_pos _)]
  have e4 : 2 ^ (r + s) * t % 18446744073709551616 = 2 ^ (r + s) * (t % 2 ^ (64 - (r + s))) := by
    rw [e3, Nat.mul_mod_mul_left]
  have e5 : (2 ^ (r + s) * t + w * 2 ^ r) % 18446744073709551616 = 2 ^ (r + s) * (t % 2 ^ (64 - (r + s))) + w * 2 ^ r := by
    have hlt : 2 ^ (r + s) * (t % 2 ^ (64 - (r + s))) + w * 2 ^ r < 18446744073709551616 := by
      have h1 : t % 2 ^ (64 - (r + s)) + 1 ≤ 2 ^ (64 - (r + s)) := Nat.mod_lt _ (Nat.two_pow_pos _)
      have h2 := Nat.mul_le_mul_left (2 ^ (r + s)) h1
      rw [← e3, Nat.mul_add, Nat.mul_one] at h2
      omega
    rw [Nat.add_mod, e4, Nat.mod_eq_of_lt (a := w * 2 ^ r) (by
      have : 2 ^ (r + s) ≤ 18446744073709551616 := by rw [e3]; exact Nat.le_mul_of_pos_right _ (Nat.two_pow_pos _)
      omega), Nat.mod_eq_of_lt hlt]
  rw [e4, e5]
  exact nat_join (r + s) _ _ (Nat.mul_mod_right _ _) hB
theorem or_above (q w p s j : Nat) (hq : q % 2 ^ (p + s) = 0) (hw : w < 2 ^ s) (hj : p / 64 ≠ j) (hf : p % 64 + s ≤ 64) : wd (q + w * 2 ^ p) j = wd q j := by
  rcases Nat.lt_or_gt_of_ne hj with h | h
  · obtain ⟨t, rfl⟩ := Nat.dvd_of_mod_eq_zero hq
    have hlt : w * 2 ^ p < 2 ^ (p + s) := by
      rw [Nat.pow_add, Nat.mul_comm (2 ^ p)]
      exact Nat.mul_lt_mul_of_pos_right hw (Nat.two_pow_pos p)
    have e : 2 ^ (64 * j) = 2 ^ (p + s) * 2 ^ (64 * j - (p + s)) := by rw [← Nat.pow_add]; congr 1; omega
    rw [wd_eq, wd_eq, e, ← Nat.div_div_eq_div_mul, ← Nat.div_div_eq_div_mul, Nat.mul_add_div (Nat.two_pow_pos _), Nat.div_eq_of_lt hlt, Nat.add_zero, Nat.mul_div_cancel_left _ (Nat.two_pow_pos _)]
  · have e : w * 2 ^ p = w * 2 ^ (p - 64 * (j + 1)) * 2 ^ (64 * (j + 1)) := by
      rw [Nat.mul_assoc, ← Nat.pow_add, show p - 64 * (j + 1) + 64 * (j + 1) = p by omega]
    rw [e, wd_add_high _ _ _ _ (by omega)]
/-- A byte more below. -/
theorem arr_byte (V k : Nat) : (arr 4 fun j => if j = k / 8 then wd (V / 2 ^ (8 * (k + 1)) * 2 ^ (8 * (k + 1))) (k / 8) ||| wd8 V k * 2 ^ (8 * (k % 8)) else wd (V / 2 ^ (8 * (k + 1)) * 2 ^ (8 * (k + 1))) j) = nat4 (V / 2 ^ (8 * k) * 2 ^ (8 * k)) := by
  have hw := wd8_lt V k
  have e : V / 2 ^ (8 * k) * 2 ^ (8 * k) = V / 2 ^ (8 * (k + 1)) * 2 ^ (8 * (k + 1)) + wd8 V k * 2 ^ (8 * k) := by
    rw [dv_step8 V k, Nat.add_mul, P_succ8, Nat.mul_comm 256, Nat.mul_assoc, Nat.mul_comm 256]
  have hq : V / 2 ^ (8 * (k + 1)) * 2 ^ (8 * (k + 1)) % 2 ^ (8 * k + 8) = 0 := Nat.mul_mod_left _ _
  rw [e]
  generalize V / 2 ^ (8 * (k + 1)) * 2 ^ (8 * (k + 1)) = q at *
  have h8 : 8 * k % 64 = 8 * (k % 8) := by omega
  refine arr_congr fun j hj => ?_
  by_cases h : j = k / 8
  · rw [if_pos h, h, ← h8]
    exact or_at q (wd8 V k) (8 * k) 8 (k / 8) hq hw (by omega) (by omega)
  · rw [if_neg h]
    exact (or_above q (wd8 V k) (8 * k) 8 j hq hw (by omega) (by omega)).symm
theorem byte_top (V k : Nat) : wd8 V k * 2 ^ (8 * (k % 8)) < 18446744073709551616 := by
  have hw := wd8_lt V k
  have h1 : wd8 V k * 2 ^ (8 * (k % 8)) < 2 ^ 8 * 2 ^ (8 * (k % 8)) := Nat.mul_lt_mul_of_pos_right hw (Nat.two_pow_pos _)
  rw [← Nat.pow_add] at h1
  have h2 : 2 ^ (8 + 8 * (k % 8)) ≤ 2 ^ 64 := Nat.pow_le_pow_right (by decide) (by omega)
  omega

/-- The number of n digits. -/
def dsum (g : Nat → Nat) : Nat → Nat
  | 0 => 0
  | n + 1 => dsum g n + g n * 2 ^ (8 * n)
theorem dsum_lt (g : Nat → Nat) (hg : ∀ i, g i < 256) : ∀ n, dsum g n < 2 ^ (8 * n)
  | 0 => by simp [dsum]
  | n + 1 => by
    have h := dsum_lt g hg n
    have h2 : g n * 2 ^ (8 * n) ≤ 255 * 2 ^ (8 * n) := Nat.mul_le_mul_right _ (by have := hg n; omega)
    rw [P_succ8]
    simp only [dsum]
    omega
theorem wd8_dsum (g : Nat → Nat) (hg : ∀ i, g i < 256) : ∀ n i, i < n → wd8 (dsum g n) i = g i
  | n + 1, i, h => by
    simp only [dsum]
    by_cases h1 : i = n
    · subst h1
      rw [wd_eq8, Nat.mul_comm (g i), Nat.add_mul_div_left _ _ (Nat.two_pow_pos _), Nat.div_eq_of_lt (dsum_lt g hg i), Nat.zero_add, Nat.mod_eq_of_lt (hg i)]
    · rw [wd_add_high8 _ _ _ _ (by omega), wd8_dsum g hg n i (by omega)]

/-! Try# Bytes, as cells -/
section
variable {n m i : Nat} {f g : Nat → Nat}
theorem barr_length : (barr n f).length = n := by simp [barr]
theorem barr_get (h : i < n) : (barr n f)[i]? = some (.v (.int .u8 (f i : Int))) := by simp [barr, h]
theorem barr_congr (h : ∀ i, i < n → f i = g i) : barr n f = barr n g := by
  unfold barr
  exact List.map_congr_left fun i hi => by rw [h i (List.mem_range.1 hi)]
theorem barr_set (x : Nat) : (barr n f).set i (.v (.int .u8 (x : Int))) = barr n (fun j => if j = i then x else f j) := by
  apply List.ext_getElem?
  intro k
  rw [List.getElem?_set]
  simp only [barr_length]
  by_cases h : i = k
  · subst h
    by_cases h2 : i < n
    · simp [h2, barr_get h2, barr]
    · simp [h2, barr]
  · simp only [h, if_false]
    by_cases h2 : k < n
    · rw [barr_get h2, barr_get h2, if_neg (Ne.symm h)]
    · simp [barr, h2]
theorem barr_one : oneAll (barr n f) = True := by
  simp only [oneAll, eq_iff_iff, iff_true]
  intro c hc
  simp only [barr, List.mem_map] at hc
  obtain ⟨i, _, rfl⟩ := hc
  rfl
theorem barr_ok (m : Nat) : ∀ x ∈ barr n f, x.ok m := by
  intro x hx
  simp only [barr, List.mem_map] at hx
  obtain ⟨i, _, rfl⟩ := hx
  trivial
theorem barr_okk : (∀ x ∈ barr n f, x.ok m) = True := eq_true (barr_ok m)
theorem barr_snoc : barr n f ++ [.v (.int .u8 (f n : Int))] = barr (n + 1) f := by simp [barr, List.range_succ]
theorem barr_take {l : List SV} : (barr n f ++ l).take n = barr n f := by
  rw [List.take_append_of_le_length (by rw [barr_length]; exact Nat.le_refl _), List.take_of_length_le (by rw [barr_length]; exact Nat.le_refl _)]
end
theorem addr_add (b o i : Nat) : (⟨b, o, none⟩ : Addr).add i = ⟨b, o + i, none⟩ := Addr.add_mid b o i
theorem bytesAt_of {Γ : Ctx} {H : Heap} {β : Nat → Nat} {w : World} (hR : Rep Γ H β w) {j off n : Nat} {b : AB} {f : Nat → Nat} {l : List SV} (hb : H[j]? = some b) (hoff : off = 0) (hcs : b.cs = barr n f ++ l) : bytesAt w ⟨β j, off, none⟩ n f := by
  subst hoff
  refine ⟨rfl, fun i hi => ?_⟩
  rw [Addr.add_mid, cellOf hR hb, hcs, Nat.zero_add, List.getElem?_append_left (by rw [barr_length]; exact hi), barr_get hi]
  rfl
theorem slice0_of {P : Program} {e : TypeId} (hz : zeroA P e = some [.v (.int .u8 0)]) (hc : P.cellsOf e = 1) (n : Nat) (hn : n ≤ 16777216) : slice0 P e n = some (barr n fun _ => 0) := by
  unfold slice0
  rw [hz, Option.bind_some, hc, Nat.mul_one, if_neg (by simp; omega)]
  congr 1
  apply List.ext_getElem?
  intro k
  by_cases hk : k < n
  · simp [barr, hk, Nat.mod_one]
  · simp [barr, hk]
end Go.Ab
