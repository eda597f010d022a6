/-
  Points in a row: two numbers each.
-/
import Derived.Test.YthniflakjkbpiaaDoorNb
namespace Go.Ab
open Go Go.RowKit
set_option linter.unusedSimpArgs false
set_option linter.unusedVariables false
/-- A point. -/
def pt (a b : Nat) : List SV := nat4 a ++ nat4 b
theorem pt_length {a b : Nat} : (pt a b).length = 8 := rfl
theorem pt_ok {a b : Nat} (m : Nat) : ∀ x ∈ pt a b, x.ok m := fun x hx => by
  rcases List.mem_append.1 hx with h | h
  · exact arr_ok m x h
  · exact arr_ok m x h
theorem pt_okk {a b m : Nat} : (∀ x ∈ pt a b, x.ok m) = True := eq_true (pt_ok m)
theorem pt_one {a b : Nat} : oneAll (pt a b) = True := by
  have h : pt a b = arr 8 fun j => if j < 4 then wd a j else wd b (j - 4) := rfl
  rw [h]; exact arr_one
theorem pt_fst {a b : Nat} : List.take 4 (pt a b) = nat4 a := rfl
theorem pt_snd {a b : Nat} : List.take 4 (List.drop 4 (pt a b)) = nat4 b := rfl
theorem pt_splice {a b : Nat} : splice [.v (.int .u64 0), .v (.int .u64 0), .v (.int .u64 0), .v (.int .u64 0), .v (.int .u64 0), .v (.int .u64 0), .v (.int .u64 0), .v (.int .u64 0)] 0 (pt a b) = pt a b := by
  rw [splice_eq _ _ _ (by rw [pt_length]; decide), pt_length]
  exact List.append_nil _
theorem pt_nats {l : Nat → Nat} {i : Nat} : pt (l (2 * i)) (l (2 * i + 1)) = arr 8 fun j => wd (l ((i * 8 + j) / 4)) ((i * 8 + j) % 4) := by
  refine List.ext_getElem? fun j => ?_
  by_cases h : j < 8
  · rw [arr_get h]
    unfold pt
    by_cases h4 : j < 4
    · rw [List.getElem?_append_left (by rw [nat4_length]; exact h4), nat4_get h4, show (i * 8 + j) / 4 = 2 * i by omega, show (i * 8 + j) % 4 = j by omega]
    · rw [List.getElem?_append_right (by rw [nat4_length]; omega), nat4_length, nat4_get (by omega), show (i * 8 + j) / 4 = 2 * i + 1 by omega, show (i * 8 + j) % 4 = j - 4 by omega]
  · rw [List.getElem?_eq_none (by rw [pt_length]; omega), List.getElem?_eq_none (by rw [arr_length]; omega)]
theorem xext_row8 {Γ : Ctx} {b o : Nat} {f : Nat → Nat} {K : TV → HE → Prop} (h : ∀ k, k < 8 → extCell Γ ⟨b, o + k, none⟩ (.int .u64 (f k : Int))) : xext Γ (some true) 8 ⟨b, o, none⟩ K = K (.agg (arr 8 f)) .none := by
  simp only [xext, eq_iff_iff]
  have e : ∀ l : List Value, l.length = 8 → (∀ i x, l[i]? = some x → extCell Γ ⟨b, o + i, none⟩ x) → l.map SV.v = arr 8 f := by
    intro l hl hc
    refine List.ext_getElem? fun i => ?_
    by_cases hi : i < 8
    · have h1 := hc i l[i] (List.getElem?_eq_getElem (by omega))
      have h2 := extCell_fun h1 (h i hi)
      rw [List.getElem?_map, List.getElem?_eq_getElem (by omega), h2, arr_get hi]
      rfl
    · rw [List.getElem?_eq_none (by simp; omega), List.getElem?_eq_none (by rw [arr_length]; omega)]
  constructor
  · rintro ⟨l, hl, _, hc, hK⟩
    rwa [e l hl hc] at hK
  · intro hK
    refine ⟨(List.range 8).map fun i => .int .u64 (f i : Int), by simp, trivial, fun i x hx => ?_, ?_⟩
    · simp only [List.getElem?_map, Option.map_eq_some_iff] at hx
      obtain ⟨a, ha, rfl⟩ := hx
      have hi : i < 8 := by
        have := (List.getElem?_eq_some_iff.1 ha).1
        simpa using this
      rw [List.getElem?_range hi] at ha
      injection ha with ha
      subst ha
      exact h i hi
    · rwa [e _ (by simp) fun i x hx => by
        simp only [List.getElem?_map, Option.map_eq_some_iff] at hx
        obtain ⟨a, ha, rfl⟩ := hx
        have hi : i < 8 := by
          have := (List.getElem?_eq_some_iff.1 ha).1
          simpa using this
        rw [List.getElem?_range hi] at ha
        injection ha with ha
        subst ha
        exact h i hi]
/-- A point out of a row that is known. -/
theorem Kn.pt {Γ : Ctx} {V : Evo} {ad : Addr} {n i : Nat} {l : Nat → Nat} (h : Kn Γ (natsAt V (some ad) (2 * n) l)) (hi : i < n) {K : TV → HE → Prop} : xext Γ (some true) 8 (ad.add (i * 8)) K = K (.agg (pt (l (2 * i)) (l (2 * i + 1)))) .none := by
  have h2 : Kn Γ (cellsAt V ad (4 * (2 * n)) (natsG l)) := fun w hw => by
    rcases h w hw with h1 | ⟨ad', hx, h1⟩
    · omega
    · injection hx with hx
      subst hx
      exact h1
  have hs := h2.spot
  obtain ⟨b, o, s⟩ := ad
  simp only at hs
  subst hs
  rw [addr_add, pt_nats]
  refine xext_row8 fun k hk => ?_
  have h3 := h2.cell (i := i * 8 + k) (by omega)
  rw [addr_add, ← Nat.add_assoc] at h3
  exact h3
/-- The first, and the second number of a point that is known. -/
theorem Kn.fst {Γ : Ctx} {V : Evo} {ad : Addr} {n i : Nat} {l : Nat → Nat} (h : Kn Γ (natsAt V (some ad) (2 * n) l)) (hi : i < n) {K : TV → HE → Prop} : xext Γ (some true) 4 (ad.add (i * 8)) K = K (.agg (nat4 (l (2 * i)))) .none := by
  rw [show i * 8 = 2 * i * 4 by omega]
  exact h.nat (by omega)
theorem Kn.snd {Γ : Ctx} {V : Evo} {ad : Addr} {n i : Nat} {l : Nat → Nat} (h : Kn Γ (natsAt V (some ad) (2 * n) l)) (hi : i < n) {K : TV → HE → Prop} : xext Γ (some true) 4 ((ad.add (i * 8)).add 4) K = K (.agg (nat4 (l (2 * i + 1)))) .none := by
  have e : (ad.add (i * 8)).add 4 = ad.add ((2 * i + 1) * 4) := by
    have hs : ad.spot = none := by
      rcases h _ (FrP.now Γ) with h1 | ⟨ad', hx, h1⟩
      · omega
      · injection hx with hx
        subst hx
        exact h1.1
    obtain ⟨b, o, s⟩ := ad
    simp only at hs
    subst hs
    rw [addr_add, addr_add, addr_add, show o + i * 8 + 4 = o + (2 * i + 1) * 4 by omega]
  rw [e]
  exact h.nat (by omega)
theorem avren_sl {ρ : Nat → Nat} {j o n c : Nat} : AV.ren ρ (.s (.sl j o n c)) = .s (.sl (ρ j) o n c) := rfl
theorem nats_tk {n i : Nat} {l : Nat → Nat} {sp : List SV} (h : i < n) : List.take 4 (List.drop (i * 4) (nats n l ++ sp)) = nat4 (l i) := by
  rw [← nats_part (sp := sp) h, part_eq]
end Go.Ab
