/-
  Loops whose states hold new blocks, of which one may point to another.
-/
import Derived.Test.YthniflakjkbpiaaDoorKB
namespace Go.Ab
open Go Go.RowKit
set_option linter.unusedSimpArgs false
set_option linter.unusedVariables false

/-- The blocks at the places are those, what points into ours turned. -/
def selR (L0 : List Nat) : List Nat → Heap → Heap → Prop
  | [], _, [] => True
  | l :: L, H', b :: H => H'[l]? = some ⟨b.t, b.cs.map (SV.ren (lk L0))⟩ ∧ selR L0 L H' H
  | _, _, _ => False
theorem selR_spec {L0 : List Nat} : ∀ {L : List Nat} {H' H : Heap}, selR L0 L H' H → H.length = L.length ∧ ∀ (k : Nat) (b : AB), H[k]? = some b → ∃ l, L[k]? = some l ∧ H'[l]? = some ⟨b.t, b.cs.map (SV.ren (lk L0))⟩
  | [], _, [], _ => ⟨rfl, fun k b h => by simp at h⟩
  | l :: L, H', b :: H, h => by
    obtain ⟨h1, h2⟩ := selR_spec h.2
    refine ⟨by simp [h1], fun k c hc => ?_⟩
    cases k with
    | zero =>
      simp only [List.getElem?_cons_zero, Option.some.injEq] at hc ⊢
      subst hc
      exact ⟨l, rfl, h.1⟩
    | succ k =>
      simp only [List.getElem?_cons_succ] at hc ⊢
      exact h2 k c hc
def AgainR {ι : Type} (T : List TV) (n : Nat) (V : ι → Prop) (js : List Nat) (sv : ι → List (Nat × TV)) (Hs : ι → Heap) (T' : List TV) (H' : Heap) (i : ι) : Prop :=
  V i ∧ ∃ L : List Nat, (L.Nodup ∧ L.take n = List.range n) ∧ agreeT js (renS L (sv i)) 0 T T' ∧ selR L L H' (Hs i)

/-- The side conditions, once for all. -/
def ShapeR {ι : Type} (V : ι → Prop) (n : Nat) (sv : ι → List (Nat × TV)) (Hs : ι → Heap) : Prop :=
  ∀ i, V i → ((sv i).map (·.1)).Nodup ∧ (∀ p ∈ sv i, p.2.ok (Hs i).length) ∧ n ≤ (Hs i).length ∧ ∀ b ∈ Hs i, ∀ x ∈ b.cs, x.ok (Hs i).length

theorem St.againR {Γ : Ctx} {ι : Type} {T : List TV} {n : Nat} {V : ι → Prop} {js : List Nat} {sv : ι → List (Nat × TV)} {Hs : ι → Heap}
    (hsh : ShapeR V n sv Hs) (hnj : js.Nodup) (hT : ∀ x ∈ T, x.ok n) (hn : Γ.n0 ≤ n)
    {T' : List TV} {H' : Heap} {a : Act} {w : World} {i : ι} (h : AgainR T n V js sv Hs T' H' i) (hs : St Γ T' H' a w) :
    ∃ us, St Γ (setMany (setMany T (junk us js)) (sv i)) (Hs i) a w := by
  obtain ⟨hV, L, ⟨hLn, hLt⟩, hag, hsel⟩ := h
  obtain ⟨hnd, hoks, hle, hcs⟩ := hsh i hV
  obtain ⟨β, hT', hR, hd⟩ := hs
  obtain ⟨hl, hk⟩ := agreeT_spec js (renS L (sv i)) 0 T T' hag
  obtain ⟨hlen, hblk⟩ := selR_spec hsel
  have hfix : ∀ k, k < n → lk L k = k := fun k hk => by
    have h1 : (L.take n)[k]? = (List.range n)[k]? := by rw [hLt]
    rw [List.getElem?_take, if_pos hk, List.getElem?_range hk] at h1
    simp [lk, h1]
  have hlt : ∀ k, k < (Hs i).length → ∃ b, (Hs i)[k]? = some b ∧ H'[lk L k]? = some ⟨b.t, b.cs.map (SV.ren (lk L))⟩ := fun k hk => by
    obtain ⟨l, h1, h2⟩ := hblk k _ (List.getElem?_eq_getElem hk)
    exact ⟨_, List.getElem?_eq_getElem hk, by simp only [lk, List.getD_eq_getElem?_getD, h1, Option.getD_some]; exact h2⟩
  have hagβ : Agrees n β (β ∘ lk L) := fun k hk => by simp [Function.comp, hfix k hk]
  let us : Nat → Value := fun d => (T'.getD d undefT).conc β
  have hjn : ((junk us js).map (·.1)).Nodup := by simpa [junk, Function.comp_def] using hnj
  have hslot : ∀ (k : Nat) (y : TV), T'[k]? = some y → ∃ z : TV, (setMany (setMany T (junk us js)) (sv i))[k]? = some z ∧ z.conc (β ∘ lk L) = y.conc β ∧ z.ok (Hs i).length := by
    intro k y hy
    have hkl : k < T.length := by rw [hl]; exact (List.getElem?_eq_some_iff.1 hy).1
    have hx : T[k]? = some T[k] := List.getElem?_eq_getElem hkl
    have h1 := hk k T[k] y hx hy
    rw [Nat.zero_add] at h1
    rw [setMany_get _ hnd _ k (by rw [setMany_length]; exact hkl)]
    have hlkr := renS_lookup L k (sv i)
    rw [hlkr] at h1
    cases hlk : (sv i).lookup k with
    | some v =>
      simp only [hlk, Option.map_some] at h1
      subst h1
      refine ⟨v, rfl, (TV.conc_ren _ _ _).symm, ?_⟩
      obtain ⟨l1, l2, he, _⟩ := List.lookup_eq_some_iff.1 hlk
      exact hoks (k, v) (by rw [he]; simp)
    | none =>
      simp only [hlk, Option.map_none] at h1
      simp only
      rw [setMany_get _ hjn _ k hkl, junk_lookup]
      by_cases hc : js.contains k = true
      · simp only [hc, if_true]
        refine ⟨_, rfl, ?_, trivial⟩
        simp only [TV.conc, SV.conc, us, List.getD_eq_getElem?_getD, hy, Option.getD_some]
      · rcases h1 with h1 | h1
        · exact absurd h1 hc
        · simp only [hc, hx]
          subst h1
          have ho := hT _ (List.getElem_mem hkl)
          refine ⟨_, rfl, TV.conc_ok ho hagβ, ?_⟩
          exact TV.ok_mono ho hle
  refine ⟨us, β ∘ lk L, Holds.of_ok ?_ ?_, ?_, hd⟩
  · rw [hT' β (.refl _ _)]
    congr 1
    apply List.ext_getElem?
    intro k
    simp only [List.getElem?_map]
    cases hy : T'[k]? with
    | none =>
      have : T'.length ≤ k := List.getElem?_eq_none_iff.1 hy
      rw [List.getElem?_eq_none (by rw [setMany_length, setMany_length, hl]; exact this)]
      rfl
    | some y =>
      obtain ⟨z, hz, hc, _⟩ := hslot k y hy
      rw [hz]
      simp [hc]
  · intro z hz
    obtain ⟨k, hk'⟩ := List.mem_iff_getElem?.1 hz
    have hkl : k < T'.length := by
      have := (List.getElem?_eq_some_iff.1 hk').1
      rw [setMany_length, setMany_length, hl] at this
      exact this
    obtain ⟨z', hz', _, ho⟩ := hslot k T'[k] (List.getElem?_eq_getElem hkl)
    rw [hk'] at hz'
    injection hz' with hz'
    subst hz'
    exact ho
  · have hlt' : ∀ k, k < (Hs i).length → lk L k < H'.length := fun k hk => by
      obtain ⟨b, _, h2⟩ := hlt k hk
      exact (List.getElem?_eq_some_iff.1 h2).1
    refine ⟨⟨Nat.le_trans hn hle, hR.anc.2.trans (hagβ.mono hn)⟩, hR.fr, fun p q hp hq he => ?_, fun k hk => hR.lie _ (hlt' k hk), fun k b hb => ?_, fun β' h' k b hb => ?_⟩
    · have h1 := hR.inj _ _ (hlt' p hp) (hlt' q hq) he
      have hpL : p < L.length := by rw [← hlen]; exact hp
      have hqL : q < L.length := by rw [← hlen]; exact hq
      simp only [lk, List.getD_eq_getElem?_getD, List.getElem?_eq_getElem hpL, List.getElem?_eq_getElem hqL, Option.getD_some] at h1
      exact nodup_inj hLn hpL hqL h1
    · obtain ⟨b', h1, h2⟩ := hlt k (List.getElem?_eq_some_iff.1 hb).1
      rw [hb] at h1
      injection h1 with h1
      subst h1
      have h4 := hR.typ _ _ h2
      exact h4
    · obtain ⟨b', h1, h2⟩ := hlt k (List.getElem?_eq_some_iff.1 hb).1
      rw [hb] at h1
      injection h1 with h1
      subst h1
      have h3 := hR.blk β (.refl _ _) _ _ h2
      rw [Function.comp_apply, h3]
      have hc := hcs b (List.mem_of_getElem? hb)
      simp only [AB.conc, List.map_map]
      rw [SV.concs_ok hc h']
      congr 2
      exact congrArg List.toArray (List.map_congr_left fun x _ => SV.conc_ren _ _ _)

def loopR {ι : Type} (T : List TV) (n : Nat) (V : ι → Prop) (μ : ι → Nat) (js : List Nat) (sv : ι → List (Nat × TV)) (Hs : ι → Heap) (i : ι) (Q : QX) : QX :=
  seqQ (fun T' H' => ∃ i', μ i' < μ i ∧ AgainR T n V js sv Hs T' H' i') Q

/-- A LOOP, its blocks chosen anew. -/
theorem X_loopR {Γ : Ctx} {c : Code} {T : List TV} {H : Heap} {Q : QX} {ι : Type} (V : ι → Prop) (μ : ι → Nat) (js : List Nat) (sv : ι → List (Nat × TV)) (Hs : ι → Heap) (i0 : ι)
    (hsh : ShapeR V H.length sv Hs) (hnj : js.Nodup) (h0 : AgainR T H.length V js sv Hs T H i0)
    (hr : ∀ i us, V i → X Γ c (setMany (setMany T (junk us js)) (sv i)) (Hs i) (loopR T H.length V μ js sv Hs i Q)) : XL Γ (.loop c) T H Q := by
  rw [XL_eq]
  intro a w hs
  obtain ⟨oT, oH, on⟩ := hs.oks
  refine wp_loop_ghost (fun n a w => ∃ i us, V i ∧ μ i = n ∧ St Γ (setMany (setMany T (junk us js)) (sv i)) (Hs i) a w) (μ i0) ?_ ?_
  · obtain ⟨us, h⟩ := hs.againR hsh hnj oT on h0
    exact ⟨i0, us, h0.1, rfl, h⟩
  · rintro n a w ⟨i, us, hV, rfl, hs'⟩
    refine wp_mono (hr i us hV a w hs') fun e a' w' ⟨T', H', hq, hs''⟩ => ?_
    cases e with
    | normal =>
      obtain ⟨i', hlt, hag⟩ := hq
      obtain ⟨us', h⟩ := hs''.againR hsh hnj oT on hag
      exact ⟨μ i', hlt, i', us', hag.1, rfl, h⟩
    | _ => exact ⟨T', H', hq, hs''⟩
section
variable {ι : Type} {T0 : List TV} {n : Nat} {V : ι → Prop} {μ : ι → Nat} {js : List Nat} {sv : ι → List (Nat × TV)} {Hs : ι → Heap} {i : ι} {Q : QX} {T : List TV} {H : Heap}
theorem loopR_n : loopR T0 n V μ js sv Hs i Q .normal T H = ∃ i', μ i' < μ i ∧ AgainR T0 n V js sv Hs T H i' := rfl
theorem loopR_r : loopR T0 n V μ js sv Hs i Q .ret T H = Q .ret T H := rfl
theorem loopR_x {j : Nat} : loopR T0 n V μ js sv Hs i Q (.exit j) T H = Q (.exit j) T H := rfl
end
end Go.Ab
