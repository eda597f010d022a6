/-
  Numbers in a row, in memory that is known: slices of numbers.
-/
import Derived.Test.YthniflakjkbpiaaDoorKM
namespace Go.Ab
open Go Go.RowKit
set_option linter.unusedSimpArgs false
set_option linter.unusedVariables false

/-- Cells that are known: n of them, from ad on. -/
def cellsAt (V : Evo) (ad : Addr) (n : Nat) (g : Nat → Value) : Nat → World → Prop := fun B w =>
  ad.spot = none ∧ ∃ c t f, w.heap[ad.block]? = some (.cells c t f) ∧ (ad.block < B ∨ ¬ V.TM t) ∧ ∀ i, i < n → c[ad.off + i]? = some (g i)
theorem cellsAt_stays (V : Evo) (ad : Addr) (n : Nat) (g : Nat → Value) : Stays V (cellsAt V ad n g) := by
  rintro B w w' ⟨hs, c, t, f, hk, ht, hc⟩ hx
  refine ⟨hs, c, t, f, ?_, ht, hc⟩
  rcases hx.blk _ (Array.getElem?_eq_some_iff.1 hk).1 with h1 | ⟨hB, o, o', h1, h2, hE⟩
  · exact h1.trans hk
  · rw [hk] at h1
    injection h1 with h1
    subst h1
    obtain ⟨c', t', f', he, hT⟩ := V.ofE _ _ hE
    injection he with _ he _
    subst he
    rcases ht with h3 | h3
    · omega
    · exact absurd hT h3
theorem cellsAt_cell {V : Evo} {ad : Addr} {n : Nat} {g : Nat → Value} {B : Nat} {w : World} (h : cellsAt V ad n g B w) {i : Nat} (hi : i < n) : w.cell? (ad.add i) = some (g i) := by
  obtain ⟨hs, c, t, f, hk, _, hc⟩ := h
  obtain ⟨b, o, s⟩ := ad
  simp only at hs
  subst hs
  simp only [addr_add, World.cell?, hk]
  exact hc i hi
theorem Kn.cell {Γ : Ctx} {V : Evo} {ad : Addr} {n : Nat} {g : Nat → Value} (h : Kn Γ (cellsAt V ad n g)) {i : Nat} (hi : i < n) : extCell Γ (ad.add i) (g i) := fun w hw => cellsAt_cell (h w hw) hi
theorem Kn.spot {Γ : Ctx} {V : Evo} {ad : Addr} {n : Nat} {g : Nat → Value} (h : Kn Γ (cellsAt V ad n g)) : ad.spot = none := (h _ (FrP.now Γ)).1
/-- Numbers, word by word. -/
def natsG (l : Nat → Nat) (j : Nat) : Value := .int .u64 (wd (l (j / 4)) (j % 4) : Int)
/-- n numbers at an address (none, if there are none). -/
def natsAt (V : Evo) (x : Option Addr) (n : Nat) (l : Nat → Nat) : Nat → World → Prop := fun B w => n = 0 ∨ ∃ ad, x = some ad ∧ cellsAt V ad (4 * n) (natsG l) B w
theorem natsAt_stays (V : Evo) (x : Option Addr) (n : Nat) (l : Nat → Nat) : Stays V (natsAt V x n l) := by
  rintro B w w' (h | ⟨ad, hx, h⟩) he
  · exact .inl h
  · exact .inr ⟨ad, hx, cellsAt_stays V ad _ _ B w w' h he⟩
theorem xext_row4 {Γ : Ctx} {b o a : Nat} {K : TV → HE → Prop} (h : ∀ k, k < 4 → extCell Γ ⟨b, o + k, none⟩ (.int .u64 (wd a k : Int))) : xext Γ (some true) 4 ⟨b, o, none⟩ K = K (.agg (nat4 a)) .none := by
  simp only [xext, eq_iff_iff]
  have e : ∀ l : List Value, l.length = 4 → (∀ i x, l[i]? = some x → extCell Γ ⟨b, o + i, none⟩ x) → l.map SV.v = nat4 a := by
    intro l hl hc
    refine List.ext_getElem? fun i => ?_
    by_cases hi : i < 4
    · have h1 := hc i l[i] (List.getElem?_eq_getElem (by omega))
      have h2 := extCell_fun h1 (h i hi)
      rw [List.getElem?_map, List.getElem?_eq_getElem (by omega), h2, nat4_get hi]
      rfl
    · rw [List.getElem?_eq_none (by simp; omega), List.getElem?_eq_none (by rw [nat4_length]; omega)]
  constructor
  · rintro ⟨l, hl, _, hc, hK⟩
    rwa [e l hl hc] at hK
  · intro hK
    refine ⟨[.int .u64 (wd a 0 : Int), .int .u64 (wd a 1 : Int), .int .u64 (wd a 2 : Int), .int .u64 (wd a 3 : Int)], rfl, trivial, fun i x hx => ?_, hK⟩
    match i, hx with
    | 0, hx => injection hx with hx; subst hx; exact h 0 (by omega)
    | 1, hx => injection hx with hx; subst hx; exact h 1 (by omega)
    | 2, hx => injection hx with hx; subst hx; exact h 2 (by omega)
    | 3, hx => injection hx with hx; subst hx; exact h 3 (by omega)
/-- A number out of a row that is known. -/
theorem Kn.nat {Γ : Ctx} {V : Evo} {ad : Addr} {n i : Nat} {l : Nat → Nat} (h : Kn Γ (natsAt V (some ad) n l)) (hi : i < n) {K : TV → HE → Prop} : xext Γ (some true) 4 (ad.add (i * 4)) K = K (.agg (nat4 (l i))) .none := by
  have h2 : Kn Γ (cellsAt V ad (4 * n) (natsG l)) := fun w hw => by
    rcases h w hw with h1 | ⟨ad', hx, h1⟩
    · omega
    · injection hx with hx
      subst hx
      exact h1
  have hs := h2.spot
  obtain ⟨b, o, s⟩ := ad
  simp only at hs
  subst hs
  rw [addr_add]
  refine xext_row4 fun k hk => ?_
  have h3 := h2.cell (i := i * 4 + k) (by omega)
  rw [addr_add, ← Nat.add_assoc] at h3
  have e : natsG l (i * 4 + k) = .int .u64 (wd (l i) k : Int) := by
    unfold natsG
    rw [show (i * 4 + k) / 4 = i by omega, show (i * 4 + k) % 4 = k by omega]
  rwa [e] at h3
/-- A row of ours. -/
def nats (n : Nat) (l : Nat → Nat) : List SV := arr (4 * n) fun j => wd (l (j / 4)) (j % 4)
section
variable {n i : Nat} {l : Nat → Nat}
theorem nats_length : (nats n l).length = 4 * n := arr_length
theorem nats_ok (m : Nat) : ∀ x ∈ nats n l, x.ok m := arr_ok m
theorem nats_okk {m : Nat} : (∀ x ∈ nats n l, x.ok m) = True := eq_true (nats_ok m)
theorem nats_one : oneAll (nats n l) = True := arr_one
theorem nats_get {j : Nat} (h : j < 4 * n) : (nats n l)[j]? = some (.v (natsG l j)) := arr_get h
theorem nats_zero : nats 0 l = [] := rfl
theorem nats_snoc : nats n l ++ nat4 (l n) = nats (n + 1) l := by
  refine List.ext_getElem? fun j => ?_
  by_cases h : j < 4 * n
  · rw [List.getElem?_append_left (by rw [nats_length]; exact h), nats_get h, nats_get (by omega)]
  · rw [List.getElem?_append_right (by rw [nats_length]; omega), nats_length]
    by_cases h2 : j < 4 * (n + 1)
    · rw [nats_get h2, nat4_get (by omega)]
      unfold natsG
      rw [show j / 4 = n by omega, show j % 4 = j - 4 * n by omega]
    · rw [List.getElem?_eq_none (by rw [nat4_length]; omega), List.getElem?_eq_none (by rw [nats_length]; omega)]
theorem nats_part {sp : List SV} (h : i < n) : Ab.part (nats n l ++ sp) (i * 4) 4 = nat4 (l i) := by
  rw [part_eq]
  refine List.ext_getElem? fun j => ?_
  by_cases hj : j < 4
  · rw [List.getElem?_take_of_lt hj, List.getElem?_drop, List.getElem?_append_left (by rw [nats_length]; omega), nats_get (by omega), nat4_get hj]
    unfold natsG
    rw [show (i * 4 + j) / 4 = i by omega, show (i * 4 + j) % 4 = j by omega]
  · rw [List.getElem?_eq_none (by simp; omega), List.getElem?_eq_none (by rw [nat4_length]; omega)]
theorem nats_congr {l' : Nat → Nat} (h : ∀ i, i < n → l i = l' i) : nats n l = nats n l' := arr_congr fun j hj => by rw [h (j / 4) (by omega)]
end
/-- A row of ours that is let go. -/
theorem natsAt_gone {Γ : Ctx} {T0 B n : Nat} {l : Nat → Nat} {sp : List SV} {e : Nat} {H : Heap} {β : Nat → Nat} {w : World} {L : List Nat} {j : Nat} (hR : Rep Γ H β w) (hb : H[j]? = some ⟨e, nats n l ++ sp⟩) (hj : j ∉ L) (hlt : ∀ i ∈ L, i < H.length) (he : e ≠ T0) :
    Kn (Γ.after (modEvo T0) B w β L) (natsAt (modEvo T0) (some ⟨β j, 0, none⟩) n l) := by
  intro w' h
  refine .inr ⟨_, rfl, rfl, ?_⟩
  rcases gone hR hb hj hlt h with h1 | ⟨_, o, _, m', x, y, _, h3, _⟩
  · refine ⟨_, _, _, h1, .inr he, fun i hi => ?_⟩
    simp only [AB.conc, List.getElem?_toArray, List.getElem?_map, Nat.zero_add]
    rw [List.getElem?_append_left (by rw [nats_length]; exact hi), nats_get hi]
    rfl
  · exfalso
    unfold AB.conc modObj at h3
    injection h3 with _ h3 _
    exact he h3
end Go.Ab
