/-
  A law's argument that is a slice of factors, a proof, or a slice of proofs.
-/
import Derived.Test.YthniflakjkbpiaaDoorFm3
import Derived.Test.YthniflakjkbpiaaDoorPc
namespace Go.Ab
open Go Go.ChangeShapes Go.WideShapes Go.ChangeAt Go.RowKit
set_option linter.unusedSimpArgs false
set_option linter.unusedVariables false

/-- What is told of a type's cells. -/
def Cells (P : Program) (t n : Nat) (G : World → List Value → Prop) : Prop :=
  P.cellsOf t = n ∧ ∀ (H : Type) (enc : TypeId × Value → H) (W : World) (base : Nat) (sp : Nat → Bool) (held : Bool) (fuel : Nat) (cs : List Value) (x : DataW H × List MemPlace),
    DataW.trod enc P W base sp held fuel t cs = some x → cs.length = n ∧ G W cs
def natL (p : Nat) : List Value := (List.range 4).map fun k => .int .u64 (wd p k : Int)
theorem cells_nat {P : Program} {t : Nat} (h : Words P t 4) : Cells P t 4 fun _ cs => ∃ p, p < 2 ^ 256 ∧ cs = natL p := by
  refine ⟨h.1, fun H enc W base sp held fuel cs x hx => ?_⟩
  obtain ⟨hl, hw⟩ := h.2 _ _ _ _ _ _ _ _ _ hx
  refine ⟨hl, ?_⟩
  let g : Nat → Nat := fun i => if h : i < 4 then (hw i h).choose else 0
  have hg : ∀ i, g i < 18446744073709551616 := by
    intro i
    by_cases h : i < 4
    · simp only [g, h, dite_true]; exact (hw i h).choose_spec.1
    · simp only [g, h, dite_false]; decide
  have hgc : ∀ i, i < 4 → cs[i]? = some (.int .u64 (g i : Int)) := by
    intro i h
    simp only [g, h, dite_true]; exact (hw i h).choose_spec.2
  refine ⟨wsum g 4, wsum_lt _ hg 4, List.ext_getElem? fun i => ?_⟩
  by_cases hi : i < 4
  · rw [hgc i hi]
    unfold natL
    rw [List.getElem?_map, List.getElem?_range hi, Option.map_some, wd_wsum _ hg 4 _ hi]
  · rw [List.getElem?_eq_none (by omega), List.getElem?_eq_none (by simp [natL]; omega)]
theorem cells_int {P : Program} {t : Nat} (ht : P.underlying t = some (.int .i64)) (hc : P.cellsOf t = 1) : Cells P t 1 fun _ cs => ∃ z : Int, (-9223372036854775808 ≤ z ∧ z < 9223372036854775808) ∧ cs = [.int .i64 z] := by
  refine ⟨hc, fun H enc W base sp held fuel cs x hx => ?_⟩
  obtain ⟨z, ez, _, wz⟩ := DataW.trod_int ht hx
  have hb := bounds_i64 wz
  refine ⟨by rw [ez]; rfl, z, by omega, ez⟩
/-- A struct of two, of three. -/
theorem cells_two {P : Program} {t a b : Nat} {fs : Array Field} {f g : Field} {F G : World → List Value → Prop} (ht : P.underlying t = some (.struct fs)) (hs : fs.size = 2) (h0 : fs[0]? = some f) (h1 : fs[1]? = some g) (hf : f.offset = 0) (hg : g.offset = a)
    (ha : Cells P f.type a F) (hb : Cells P g.type b G) (hc : P.cellsOf t = a + b) : Cells P t (a + b) fun W cs => ∃ u v, cs = u ++ v ∧ F W u ∧ G W v := by
  refine ⟨hc, fun H enc W base sp held fuel cs x hx => ?_⟩
  obtain ⟨xs, m, _, _, hl, hxl, hi⟩ := DataW.trod_struct ht hx
  rw [hc] at hl
  have e0 := hi 0 f h0
  have e1 := hi 1 g h1
  rw [List.getElem?_eq_getElem (by omega), hf, ha.1] at e0
  rw [List.getElem?_eq_getElem (by omega), hg, hb.1] at e1
  obtain ⟨_, k0⟩ := ha.2 _ _ _ _ _ _ _ _ _ e0
  obtain ⟨_, k1⟩ := hb.2 _ _ _ _ _ _ _ _ _ e1
  refine ⟨hl, _, _, ?_, k0, k1⟩
  rw [List.drop_zero, List.take_of_length_le (l := cs.drop a) (by rw [List.length_drop]; omega), List.take_append_drop]
theorem cells_three {P : Program} {t a b c : Nat} {fs : Array Field} {f g h : Field} {F G K : World → List Value → Prop} (ht : P.underlying t = some (.struct fs)) (hs : fs.size = 3) (h0 : fs[0]? = some f) (h1 : fs[1]? = some g) (h2 : fs[2]? = some h) (hf : f.offset = 0) (hg : g.offset = a) (hh : h.offset = a + b)
    (ha : Cells P f.type a F) (hb : Cells P g.type b G) (hk : Cells P h.type c K) (hc : P.cellsOf t = a + b + c) : Cells P t (a + b + c) fun W cs => ∃ u v z, cs = u ++ (v ++ z) ∧ F W u ∧ G W v ∧ K W z := by
  refine ⟨hc, fun H enc W base sp held fuel cs x hx => ?_⟩
  obtain ⟨xs, m, _, _, hl, hxl, hi⟩ := DataW.trod_struct ht hx
  rw [hc] at hl
  have e0 := hi 0 f h0
  have e1 := hi 1 g h1
  have e2 := hi 2 h h2
  rw [List.getElem?_eq_getElem (by omega), hf, ha.1] at e0
  rw [List.getElem?_eq_getElem (by omega), hg, hb.1] at e1
  rw [List.getElem?_eq_getElem (by omega), hh, hk.1] at e2
  obtain ⟨_, k0⟩ := ha.2 _ _ _ _ _ _ _ _ _ e0
  obtain ⟨_, k1⟩ := hb.2 _ _ _ _ _ _ _ _ _ e1
  obtain ⟨_, k2⟩ := hk.2 _ _ _ _ _ _ _ _ _ e2
  refine ⟨hl, _, _, _, ?_, k0, k1, k2⟩
  rw [List.drop_zero, List.take_of_length_le (l := cs.drop (a + b)) (by rw [List.length_drop]; omega), ← List.drop_drop, List.take_append_drop, List.take_append_drop]
/-- A slice of things of which G is told. -/
theorem cells_slice {P : Program} {t e q : Nat} {G : World → List Value → Prop} (ht : P.underlying t = some (.slice e)) (he : Cells P e q G) (hq : 0 < q) (hct : P.cellsOf t = 1) : Cells P t 1 fun W cs => ∃ (y : Option Addr) (n c : Nat), cs = [.slice y n c] ∧ n < 9223372036854775808 ∧ n ≤ c ∧
    (n = 0 ∨ ∃ ad, y = some ad ∧ ad.spot = none ∧ ∃ cc tt ff, W.heap[ad.block]? = some (.cells cc tt ff) ∧ ∀ i, i < n → ∃ l, G W l ∧ l.length = q ∧ ∀ k, k < q → cc[ad.off + (i * q + k)]? = l[k]?) := by
  refine ⟨hct, fun H enc W base sp held fuel cs x hf => ?_⟩
  rcases DataW.trod_slice ht hf with ⟨h1, _⟩ | ⟨a, len, cap, elems, rest, fu, _, h1, _, hb, hlc, hcm, hel, hi, _, _⟩
  · exact ⟨by rw [h1]; rfl, _, 0, 0, h1, by decide, Nat.le_refl _, .inl rfl⟩
  · refine ⟨by rw [h1]; rfl, some a, len, cap, h1, by simp only [maxLen] at hcm; omega, hlc, ?_⟩
    by_cases h0 : len = 0
    · exact .inl h0
    · have cell : ∀ i, i < len → ∃ l, G W l ∧ l.length = q ∧ ∀ k, k < q → W.cell? ((a.add (i * q)).add k) = l[k]? := by
        intro i hin
        have h2 := hi i hin
        rw [List.getElem?_eq_getElem (by omega), Option.bind_eq_some_iff, he.1] at h2
        obtain ⟨cs, hcs, htr⟩ := h2
        obtain ⟨hl, hG⟩ := he.2 _ _ _ _ _ _ _ _ _ htr
        refine ⟨cs, hG, hl, fun k hk => ?_⟩
        unfold World.cells? at hcs
        split at hcs
        · have h3 := mapM_some_get hcs k k (by rw [List.getElem?_range hk])
          exact h3
        · cases hcs
      obtain ⟨l0, _, hl0, hc0⟩ := cell 0 (by omega)
      have hz0 := hc0 0 hq
      rw [List.getElem?_eq_getElem (by omega)] at hz0
      have hsp := World.cell?_spot hz0
      obtain ⟨b, o, s⟩ := a
      have hs : s = none := by simpa [Addr.add] using hsp
      subst hs
      have hcl : ∃ cc t f, W.heap[b]? = some (.cells cc t f) := by
        rw [addr_add, addr_add] at hz0
        unfold World.cell? at hz0
        split at hz0
        · rename_i cc t f hk; exact ⟨cc, t, f, hk⟩
        · cases hz0
      obtain ⟨cc, tt, ff, hk⟩ := hcl
      refine .inr ⟨_, rfl, rfl, cc, tt, ff, hk, fun i hin => ?_⟩
      obtain ⟨l, hG, hl, hc⟩ := cell i hin
      refine ⟨l, hG, hl, fun k hk2 => ?_⟩
      have h3 := hc k hk2
      rw [addr_add, addr_add] at h3
      unfold World.cell? at h3
      simp only [hk] at h3
      rw [← Nat.add_assoc]
      exact h3
/-! Tryd# Factors and proofs -/
def facL (p : Nat) (e : Int) : List Value := natL p ++ [.int .i64 e]
theorem facL_get {P : Nat → Nat} {E : Nat → Int} {i k : Nat} (hk : k < 5) : (facL (P i) (E i))[k]? = some (facG P E (i * 5 + k)) := by
  unfold facL
  by_cases h : k < 4
  · rw [facG_p h, List.getElem?_append_left (by simp [natL]; omega)]
    unfold natL
    rw [List.getElem?_map, List.getElem?_range h]
    rfl
  · have : k = 4 := by omega
    subst this
    rw [facG_e, List.getElem?_append_right (by simp [natL])]
    rfl
/-- What is told of a slice of factors. -/
def FacsT (W : World) (cs : List Value) : Prop := ∃ (y : Option Addr) (n c : Nat) (P : Nat → Nat) (E : Nat → Int), cs = [.slice y n c] ∧ n < 9223372036854775808 ∧ n ≤ c ∧ (∀ i, P i < 2 ^ 256) ∧ (∀ i, -9223372036854775808 ≤ E i ∧ E i < 9223372036854775808) ∧ facs y n P E W
theorem facsT_of {W : World} {cs : List Value} (h : ∃ (y : Option Addr) (n c : Nat), cs = [.slice y n c] ∧ n < 9223372036854775808 ∧ n ≤ c ∧
    (n = 0 ∨ ∃ ad, y = some ad ∧ ad.spot = none ∧ ∃ cc tt ff, W.heap[ad.block]? = some (.cells cc tt ff) ∧ ∀ i, i < n → ∃ l, (∃ u v, l = u ++ v ∧ (∃ p, p < 2 ^ 256 ∧ u = natL p) ∧ (∃ z : Int, (-9223372036854775808 ≤ z ∧ z < 9223372036854775808) ∧ v = [.int .i64 z])) ∧ l.length = 5 ∧ ∀ k, k < 5 → cc[ad.off + (i * 5 + k)]? = l[k]?)) : FacsT W cs := by
  obtain ⟨y, n, c, hcs, hn, hc, h⟩ := h
  rcases h with h | ⟨ad, hy, hs, cc, tt, ff, hk, h⟩
  · exact ⟨y, n, c, fun _ => 0, fun _ => 0, hcs, hn, hc, fun _ => by show 0 < 2 ^ 256; decide, fun _ => by show -9223372036854775808 ≤ (0 : Int) ∧ (0 : Int) < 9223372036854775808; decide, .inl h⟩
  · have key : ∀ i, i < n → ∃ p : Nat, ∃ z : Int, p < 2 ^ 256 ∧ (-9223372036854775808 ≤ z ∧ z < 9223372036854775808) ∧ ∀ k, k < 5 → cc[ad.off + (i * 5 + k)]? = (facL p z)[k]? := by
      intro i hi
      obtain ⟨l, ⟨u, v, rfl, ⟨p, hp, rfl⟩, ⟨z, hz, rfl⟩⟩, _, hl⟩ := h i hi
      exact ⟨p, z, hp, hz, hl⟩
    refine ⟨y, n, c, fun i => if h : i < n then (key i h).choose else 0, fun i => if h : i < n then (key i h).choose_spec.choose else 0, hcs, hn, hc, fun i => ?_, fun i => ?_, .inr ⟨ad, hy, hs, cc, tt, ff, hk, fun j hj => ?_⟩⟩
    · by_cases hi : i < n
      · simp only [hi, dite_true]; exact (key i hi).choose_spec.choose_spec.1
      · simp only [hi, dite_false]; decide
    · by_cases hi : i < n
      · simp only [hi, dite_true]; exact (key i hi).choose_spec.choose_spec.2.1
      · simp only [hi, dite_false]; decide
    · have hi : j / 5 < n := by omega
      have h1 := (key (j / 5) hi).choose_spec.choose_spec.2.2 (j % 5) (by omega)
      rw [show j / 5 * 5 + j % 5 = j by omega] at h1
      rw [h1]
      have h2 := facL_get (P := fun i => if h : i < n then (key i h).choose else 0) (E := fun i => if h : i < n then (key i h).choose_spec.choose else 0) (i := j / 5) (k := j % 5) (by omega)
      rw [show j / 5 * 5 + j % 5 = j by omega] at h2
      rw [← h2]
      simp only [hi, dite_true]
def prfL (p : Pf) : List Value := natL p.N ++ (natL p.G ++ [.slice p.y p.n p.c])
theorem natL_length {p : Nat} : (natL p).length = 4 := by simp [natL]
theorem natL_get {p k : Nat} (h : k < 4) : (natL p)[k]? = some (.int .u64 (wd p k : Int)) := by
  unfold natL
  rw [List.getElem?_map, List.getElem?_range h]
  rfl
theorem prfL_get {l : Nat → Pf} {i k : Nat} (hk : k < 9) : (prfL (l i))[k]? = some (prfG l (i * 9 + k)) := by
  unfold prfL
  by_cases h : k < 4
  · rw [prfG_n h, List.getElem?_append_left (by rw [natL_length]; exact h), natL_get h]
  · rw [List.getElem?_append_right (by rw [natL_length]; omega), natL_length]
    by_cases h2 : k < 8
    · have h3 := prfG_g (l := l) (i := i) (k := k - 4) (by omega)
      rw [show i * 9 + 4 + (k - 4) = i * 9 + k by omega] at h3
      rw [h3, List.getElem?_append_left (by rw [natL_length]; omega), natL_get (by omega)]
    · have : k = 8 := by omega
      subst this
      rw [prfG_s, List.getElem?_append_right (by rw [natL_length]; omega), natL_length]
      rfl
/-- What is told of a proof. -/
structure PrfOk (W : World) (p : Pf) : Prop where
  N : p.N < 2 ^ 256
  G : p.G < 2 ^ 256
  P : ∀ k, p.P k < 2 ^ 256
  E : ∀ k, -9223372036854775808 ≤ p.E k ∧ p.E k < 9223372036854775808
  n : p.n < 9223372036854775808
  c : p.n ≤ p.c
  f : facs p.y p.n p.P p.E W
def PrfT (W : World) (cs : List Value) : Prop := ∃ p, PrfOk W p ∧ cs = prfL p
theorem prfT_of {W : World} {cs : List Value} (h : ∃ u v z, cs = u ++ (v ++ z) ∧ (∃ p, p < 2 ^ 256 ∧ u = natL p) ∧ (∃ p, p < 2 ^ 256 ∧ v = natL p) ∧ FacsT W z) : PrfT W cs := by
  obtain ⟨u, v, z, rfl, ⟨N, hN, rfl⟩, ⟨G, hG, rfl⟩, y, n, c, P, E, rfl, hn, hc, hP, hE, hf⟩ := h
  exact ⟨⟨N, G, y, n, c, P, E⟩, ⟨hN, hG, hP, hE, hn, hc, hf⟩, rfl⟩
def pf0 : Pf := ⟨0, 0, none, 0, 0, fun _ => 0, fun _ => 0⟩
theorem pf0_ok (W : World) : PrfOk W pf0 := ⟨by show 0 < 2 ^ 256; decide, by show 0 < 2 ^ 256; decide, fun _ => by show 0 < 2 ^ 256; decide, fun _ => by show -9223372036854775808 ≤ (0 : Int) ∧ (0 : Int) < 9223372036854775808; decide, by show 0 < 9223372036854775808; decide, Nat.le_refl _, .inl rfl⟩
/-- What is told of a slice of proofs. -/
def PrfsT (W : World) (cs : List Value) : Prop := ∃ (y : Option Addr) (m c : Nat) (l : Nat → Pf), cs = [.slice y m c] ∧ m < 9223372036854775808 ∧ m ≤ c ∧ PfOk l ∧ prfs y m l W
theorem prfsT_of {W : World} {cs : List Value} (h : ∃ (y : Option Addr) (n c : Nat), cs = [.slice y n c] ∧ n < 9223372036854775808 ∧ n ≤ c ∧
    (n = 0 ∨ ∃ ad, y = some ad ∧ ad.spot = none ∧ ∃ cc tt ff, W.heap[ad.block]? = some (.cells cc tt ff) ∧ ∀ i, i < n → ∃ l, PrfT W l ∧ l.length = 9 ∧ ∀ k, k < 9 → cc[ad.off + (i * 9 + k)]? = l[k]?)) : PrfsT W cs := by
  obtain ⟨y, n, c, hcs, hn, hc, h⟩ := h
  rcases h with h | ⟨ad, hy, hs, cc, tt, ff, hk, h⟩
  · exact ⟨y, n, c, fun _ => pf0, hcs, hn, hc, ⟨fun _ => (pf0_ok W).N, fun _ => (pf0_ok W).G, fun _ => (pf0_ok W).P, fun _ => (pf0_ok W).E, fun _ => (pf0_ok W).n⟩, .inl h, fun i hi => by omega⟩
  · have key : ∀ i, ∃ p : Pf, PrfOk W p ∧ (i < n → ∀ k, k < 9 → cc[ad.off + (i * 9 + k)]? = (prfL p)[k]?) := by
      intro i
      by_cases hi : i < n
      · obtain ⟨l, ⟨p, hp, rfl⟩, _, hl⟩ := h i hi
        exact ⟨p, hp, fun _ => hl⟩
      · exact ⟨pf0, pf0_ok W, fun h => absurd h hi⟩
    have ok := fun i => (key i).choose_spec.1
    refine ⟨y, n, c, fun i => (key i).choose, hcs, hn, hc, ⟨fun i => (ok i).N, fun i => (ok i).G, fun i => (ok i).P, fun i => (ok i).E, fun i => (ok i).n⟩, .inr ⟨ad, hy, hs, cc, tt, ff, hk, fun j hj => ?_⟩, fun i _ => (ok i).f⟩
    have h1 := (key (j / 9)).choose_spec.2 (by omega) (j % 9) (by omega)
    rw [show j / 9 * 9 + j % 9 = j by omega] at h1
    rw [h1]
    have h2 := prfL_get (l := fun i => (key i).choose) (i := j / 9) (k := j % 9) (by omega)
    rw [show j / 9 * 9 + j % 9 = j by omega] at h2
    exact h2
end Go.Ab
