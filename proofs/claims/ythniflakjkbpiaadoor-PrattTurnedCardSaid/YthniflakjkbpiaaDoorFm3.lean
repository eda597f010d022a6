/-
  A law's argument that is a slice of numbers, or of points: words in a row.
-/
import Derived.Test.YthniflakjkbpiaaDoorKF
import Derived.Test.YthniflakjkbpiaaDoorNd
import Derived.ChangeSlices
namespace Go.Ab
open Go Go.ChangeShapes Go.WideShapes Go.ChangeAt Go.RowKit
set_option linter.unusedSimpArgs false
set_option linter.unusedVariables false

/-- A type whose values are n words. -/
def Words (P : Program) (t n : Nat) : Prop :=
  P.cellsOf t = n ∧ ∀ (H : Type) (enc : TypeId × Value → H) (W : World) (base : Nat) (sp : Nat → Bool) (held : Bool) (fuel : Nat) (cs : List Value) (x : DataW H × List MemPlace),
    DataW.trod enc P W base sp held fuel t cs = some x → cs.length = n ∧ ∀ i, i < n → ∃ z : Nat, z < 18446744073709551616 ∧ cs[i]? = some (.int .u64 (z : Int))
theorem words_array {P : Program} {t e n : Nat} (ht : P.underlying t = some (.array n e)) (he : P.underlying e = some (.int .u64)) (hc : P.cellsOf t = n) (hce : P.cellsOf e = 1) : Words P t n := by
  refine ⟨hc, fun H enc W base sp held fuel cs x hf => ?_⟩
  obtain ⟨xs, m, _, _, hl, hxl, hi⟩ := DataW.trod_array ht hf
  rw [hc] at hl
  refine ⟨hl, fun i hin => ?_⟩
  have h1 := hi i hin
  rw [hce, Nat.mul_one] at h1
  rw [List.getElem?_eq_getElem (by omega)] at h1
  obtain ⟨z, ez, _, wz⟩ := DataW.trod_int he h1
  have hb := bounds_u64 wz
  obtain ⟨z, rfl⟩ := Int.eq_ofNat_of_zero_le hb.1
  refine ⟨z, by omega, ?_⟩
  have h2 := congrArg (·[0]?) ez
  simpa [List.getElem?_take, List.getElem?_drop] using h2
theorem words_two {P : Program} {t a b : Nat} {fs : Array Field} {f g : Field} (ht : P.underlying t = some (.struct fs)) (hs : fs.size = 2) (h0 : fs[0]? = some f) (h1 : fs[1]? = some g) (hf : f.offset = 0) (hg : g.offset = a)
    (ha : Words P f.type a) (hb : Words P g.type b) (hc : P.cellsOf t = a + b) : Words P t (a + b) := by
  refine ⟨hc, fun H enc W base sp held fuel cs x hx => ?_⟩
  obtain ⟨xs, m, _, _, hl, hxl, hi⟩ := DataW.trod_struct ht hx
  rw [hc] at hl
  have e0 := hi 0 f h0
  have e1 := hi 1 g h1
  rw [List.getElem?_eq_getElem (by omega), hf, ha.1] at e0
  rw [List.getElem?_eq_getElem (by omega), hg, hb.1] at e1
  obtain ⟨_, k0⟩ := ha.2 _ _ _ _ _ _ _ _ _ e0
  obtain ⟨_, k1⟩ := hb.2 _ _ _ _ _ _ _ _ _ e1
  refine ⟨hl, fun i hin => ?_⟩
  by_cases h : i < a
  · obtain ⟨z, hz, h2⟩ := k0 i h
    refine ⟨z, hz, ?_⟩
    rw [List.getElem?_take_of_lt h, List.getElem?_drop, Nat.zero_add] at h2
    exact h2
  · obtain ⟨z, hz, h2⟩ := k1 (i - a) (by omega)
    refine ⟨z, hz, ?_⟩
    rw [List.getElem?_take_of_lt (by omega), List.getElem?_drop, Nat.add_sub_cancel' (by omega)] at h2
    exact h2
/-- A slice whose things are q words each. -/
theorem open_row {H : Type} {enc : TypeId × Value → H} {P : Program} {W : World} {base b0 q : Nat} {r : Reach} {t e : Nat} {v : Value} {d : DataW H} {ps : List MemPlace} {V : Evo}
    (ht : P.underlying t = some (.slice e)) (he : Words P e (4 * q)) (hq : 0 < q) (hval : Value.okWide P W r b0 t v) (hd : DataW.Trod enc P W base (fun _ => true) true t v d ps) :
    ∃ (x : Option Addr) (n c : Nat) (l : Nat → Nat), v = .slice x n c ∧ n < 9223372036854775808 ∧ n ≤ c ∧ (∀ i, l i < 2 ^ 256) ∧ natsAt V x (q * n) l W.heap.size W := by
  obtain ⟨x, n, c, rfl⟩ := okWide_slice ht hval
  obtain ⟨fuel, hf⟩ := hd
  rcases DataW.trod_slice ht hf with ⟨h1, _⟩ | ⟨a, len, cap, elems, rest, fu, _, h1, _, hb, hlc, hcm, hel, hi, _, _⟩
  · simp only [Value.cells, List.cons.injEq, Value.slice.injEq, and_true] at h1
    obtain ⟨_, rfl, rfl⟩ := h1
    exact ⟨x, 0, 0, fun _ => 0, rfl, by decide, Nat.le_refl _, fun _ => by show 0 < 2 ^ 256; decide, .inl (Nat.mul_zero q)⟩
  · simp only [Value.cells, List.cons.injEq, Value.slice.injEq, and_true] at h1
    obtain ⟨rfl, rfl, rfl⟩ := h1
    have cell : ∀ i k, i < n → k < 4 * q → ∃ z : Nat, z < 18446744073709551616 ∧ W.cell? ((a.add (i * (4 * q))).add k) = some (.int .u64 (z : Int)) := by
      intro i k hin hk
      have h2 := hi i hin
      rw [List.getElem?_eq_getElem (by omega), Option.bind_eq_some_iff, he.1] at h2
      obtain ⟨cs, hcs, htr⟩ := h2
      obtain ⟨_, hw⟩ := he.2 _ _ _ _ _ _ _ _ _ htr
      obtain ⟨z, hz, hcz⟩ := hw _ hk
      unfold World.cells? at hcs
      split at hcs
      · have h3 := mapM_some_get hcs k k (by rw [List.getElem?_range hk])
        exact ⟨z, hz, h3.trans hcz⟩
      · cases hcs
    by_cases h0 : n = 0
    · subst h0
      exact ⟨_, 0, c, fun _ => 0, rfl, by decide, hlc, fun _ => by show 0 < 2 ^ 256; decide, .inl (Nat.mul_zero q)⟩
    obtain ⟨z0, _, hz0⟩ := cell 0 0 (by omega) (by omega)
    have hsp := World.cell?_spot hz0
    obtain ⟨b, o, s⟩ := a
    have hs : s = none := by simpa [Addr.add] using hsp
    subst hs
    have key : ∀ j, j < 4 * (q * n) → ∃ z : Nat, z < 18446744073709551616 ∧ W.cell? ⟨b, o + j, none⟩ = some (.int .u64 (z : Int)) := by
      intro j hj
      have hdm := Nat.div_add_mod j (4 * q)
      have hm := Nat.mod_lt j (show 0 < 4 * q by omega)
      have hin : j / (4 * q) < n := by
        rw [Nat.div_lt_iff_lt_mul (by omega)]
        have : n * (4 * q) = 4 * (q * n) := by rw [Nat.mul_comm n, Nat.mul_assoc]
        omega
      obtain ⟨z, hz, h3⟩ := cell _ _ hin hm
      refine ⟨z, hz, ?_⟩
      rw [addr_add, addr_add] at h3
      rw [show o + j = o + j / (4 * q) * (4 * q) + j % (4 * q) by rw [Nat.mul_comm (j / (4 * q))]; omega]
      exact h3
    let g : Nat → Nat := fun i => if h : i < 4 * (q * n) then (key i h).choose else 0
    have hg : ∀ i, g i < 18446744073709551616 := by
      intro i
      by_cases h : i < 4 * (q * n)
      · simp only [g, h, dite_true]; exact (key i h).choose_spec.1
      · simp only [g, h, dite_false]; decide
    have hgc : ∀ i, i < 4 * (q * n) → W.cell? ⟨b, o + i, none⟩ = some (.int .u64 (g i : Int)) := by
      intro i h
      simp only [g, h, dite_true]; exact (key i h).choose_spec.2
    have h00 := hgc 0 (by have := Nat.mul_pos hq (Nat.pos_of_ne_zero h0); omega)
    have hcl : ∃ cc t f, W.heap[b]? = some (.cells cc t f) := by
      unfold World.cell? at h00
      split at h00
      · rename_i cc t f hk; exact ⟨cc, t, f, hk⟩
      · cases h00
    obtain ⟨cc, tt, ff, hk⟩ := hcl
    refine ⟨_, n, c, fun i => wsum (fun k => g (4 * i + k)) 4, rfl, by simp only [maxLen] at hcm; omega, hlc, fun i => wsum_lt _ (fun k => hg _) 4, .inr ⟨_, rfl, rfl, cc, tt, ff, hk, .inl (Array.getElem?_eq_some_iff.1 hk).1, fun i hin => ?_⟩⟩
    have h1 := hgc i hin
    unfold World.cell? at h1
    simp only [hk] at h1
    rw [show natsG (fun i => wsum (fun k => g (4 * i + k)) 4) i = .int .u64 (g i : Int) by
      unfold natsG
      rw [wd_wsum _ (fun k => hg _) 4 _ (Nat.mod_lt _ (by decide)), show 4 * (i / 4) + i % 4 = i by omega]]
    exact h1
end Go.Ab
