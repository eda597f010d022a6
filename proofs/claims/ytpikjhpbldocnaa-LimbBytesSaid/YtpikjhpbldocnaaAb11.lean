/-
  Loops whose states hold new blocks: at each round's end our blocks are chosen anew, by their places.
-/
import Derived.Test.YtpikjhpbldocnaaAb10
namespace Go.Ab
open Go Go.RowKit
set_option linter.unusedSimpArgs false
set_option linter.unusedVariables false

def SV.ren (ρ : Nat → Nat) : SV → SV
  | .v x => .v x
  | .p j o => .p (ρ j) o
  | .sl j o n c => .sl (ρ j) o n c
def AV.ren (ρ : Nat → Nat) : AV → AV
  | .s x => .s (x.ren ρ)
  | .agg l => .agg (l.map (SV.ren ρ))
def TV.ren (ρ : Nat → Nat) : TV → TV
  | .s x => .s (x.ren ρ)
  | .agg l => .agg (l.map (SV.ren ρ))
  | .tup l => .tup (l.map (AV.ren ρ))
theorem SV.conc_ren (ρ β : Nat → Nat) (x : SV) : (x.ren ρ).conc β = x.conc (β ∘ ρ) := by cases x <;> rfl
theorem AV.conc_ren (ρ β : Nat → Nat) (x : AV) : (x.ren ρ).conc β = x.conc (β ∘ ρ) := by
  cases x with
  | s x => exact SV.conc_ren ρ β x
  | agg l => simp [AV.ren, AV.conc, Function.comp_def, SV.conc_ren]
theorem TV.conc_ren (ρ β : Nat → Nat) (x : TV) : (x.ren ρ).conc β = x.conc (β ∘ ρ) := by
  cases x with
  | s x => exact SV.conc_ren ρ β x
  | agg l => simp [TV.ren, TV.conc, Function.comp_def, SV.conc_ren]
  | tup l => simp [TV.ren, TV.conc, Function.comp_def, AV.conc_ren]

theorem SV.ok_mono {n m : Nat} {x : SV} (h : x.ok n) (hn : n ≤ m) : x.ok m := by
  cases x with
  | v x => trivial
  | p j o => exact Nat.lt_of_lt_of_le h hn
  | sl j o a b => exact Nat.lt_of_lt_of_le h hn
theorem AV.ok_mono {n m : Nat} {x : AV} (h : x.ok n) (hn : n ≤ m) : x.ok m := by
  cases x with
  | s x => exact SV.ok_mono h hn
  | agg l => exact fun y hy => SV.ok_mono (h y hy) hn
theorem TV.ok_mono {n m : Nat} {x : TV} (h : x.ok n) (hn : n ≤ m) : x.ok m := by
  cases x with
  | s x => exact SV.ok_mono h hn
  | agg l => exact fun y hy => SV.ok_mono (h y hy) hn
  | tup l => exact fun y hy => AV.ok_mono (h y hy) hn

theorem nodup_inj {L : List Nat} (h : L.Nodup) {p q : Nat} (hp : p < L.length) (hq : q < L.length) (he : L[p] = L[q]) : p = q := by
  have h1 := List.pairwise_iff_getElem.1 h
  rcases Nat.lt_trichotomy p q with h2 | h2 | h2
  · exact absurd he (h1 p q hp hq h2)
  · exact h2
  · exact absurd he.symm (h1 q p hq hp h2)
/-- Where block k is now. -/
def lk (L : List Nat) (k : Nat) : Nat := L.getD k k
/-- The blocks at the places L are those. -/
def selH : List Nat → Heap → Heap → Prop
  | [], _, [] => True
  | l :: L, H', b :: H => H'[l]? = some b ∧ selH L H' H
  | _, _, _ => False
theorem selH_spec : ∀ {L : List Nat} {H' H : Heap}, selH L H' H → H.length = L.length ∧ ∀ (k : Nat) (b : AB), H[k]? = some b → ∃ l, L[k]? = some l ∧ H'[l]? = some b
  | [], _, [], _ => ⟨rfl, fun k b h => by simp at h⟩
  | l :: L, H', b :: H, h => by
    obtain ⟨h1, h2⟩ := selH_spec h.2
    refine ⟨by simp [h1], fun k c hc => ?_⟩
    cases k with
    | zero =>
      simp only [List.getElem?_cons_zero, Option.some.injEq] at hc ⊢
      subst hc
      exact ⟨l, rfl, h.1⟩
    | succ k =>
      simp only [List.getElem?_cons_succ] at hc ⊢
      exact h2 k c hc
def renS (L : List Nat) (sv : List (Nat × TV)) : List (Nat × TV) := sv.map fun p => (p.1, p.2.ren (lk L))

theorem renS_lookup (L : List Nat) (k : Nat) : ∀ l : List (Nat × TV), (renS L l).lookup k = (l.lookup k).map (TV.ren (lk L))
  | [] => rfl
  | (d, v) :: r => by
    have ih := renS_lookup L k r
    simp only [renS, List.map_cons, List.lookup_cons] at ih ⊢
    cases hkp : (k == d) with
    | true => rfl
    | false => exact ih

def AgainT {ι : Type} (T : List TV) (n : Nat) (V : ι → Prop) (js : List Nat) (sv : ι → List (Nat × TV)) (Hs : ι → Heap) (T' : List TV) (H' : Heap) (i : ι) : Prop :=
  V i ∧ ∃ L : List Nat, (L.Nodup ∧ L.take n = List.range n) ∧ agreeT js (renS L (sv i)) 0 T T' ∧ selH L H' (Hs i)

/-- The side conditions, once for all. -/
def ShapeT {ι : Type} (V : ι → Prop) (n : Nat) (sv : ι → List (Nat × TV)) (Hs : ι → Heap) : Prop :=
  ∀ i, V i → ((sv i).map (·.1)).Nodup ∧ (∀ p ∈ sv i, p.2.ok (Hs i).length) ∧ n ≤ (Hs i).length ∧ ∀ b ∈ Hs i, ∀ x ∈ b.cs, x.ok n

theorem St.againT {Γ : Ctx} {ι : Type} {T : List TV} {n : Nat} {V : ι → Prop} {js : List Nat} {sv : ι → List (Nat × TV)} {Hs : ι → Heap}
    (hsh : ShapeT V n sv Hs) (hnj : js.Nodup) (hT : ∀ x ∈ T, x.ok n) (hn : Γ.n0 ≤ n)
    {T' : List TV} {H' : Heap} {a : Act} {w : World} {i : ι} (h : AgainT T n V js sv Hs T' H' i) (hs : St Γ T' H' a w) :
    ∃ us, St Γ (setMany (setMany T (junk us js)) (sv i)) (Hs i) a w := by
  obtain ⟨hV, L, ⟨hLn, hLt⟩, hag, hsel⟩ := h
  obtain ⟨hnd, hoks, hle, hcs⟩ := hsh i hV
  obtain ⟨β, hT', hR, hd⟩ := hs
  obtain ⟨hl, hk⟩ := agreeT_spec js (renS L (sv i)) 0 T T' hag
  obtain ⟨hlen, hblk⟩ := selH_spec hsel
  have hfix : ∀ k, k < n → lk L k = k := fun k hk => by
    have h1 : (L.take n)[k]? = (List.range n)[k]? := by rw [hLt]
    rw [List.getElem?_take, if_pos hk, List.getElem?_range hk] at h1
    simp [lk, h1]
  have hlt : ∀ k, k < (Hs i).length → ∃ b, (Hs i)[k]? = some b ∧ H'[lk L k]? = some b := fun k hk => by
    obtain ⟨l, h1, h2⟩ := hblk k _ (List.getElem?_eq_getElem hk)
    exact ⟨_, List.getElem?_eq_getElem hk, by simp only [lk, List.getD_eq_getElem?_getD, h1, Option.getD_some]; exact h2⟩
  have hagβ : Agrees n β (β ∘ lk L) := fun k hk => by simp [Function.comp, hfix k hk]
  let us : Nat → Value := fun d => (T'.getD d undefT).conc β
  have hjn : ((junk us js).map (·.1)).Nodup := by simpa [junk, Function.comp_def] using hnj
  have hslot : ∀ (k : Nat) (y : TV), T'[k]? = some y → ∃ z : TV, (setMany (setMany T (junk us js)) (sv i))[k]? = some z ∧ z.conc (β ∘ lk L) = y.conc β ∧ z.ok (Hs i).length := by
    intro k y hy
    have hkl : k < T.length := by rw [hl]; exact (List.getElem?_eq_some_iff.1 hy).1
    have hx : T[k]? = some T[k] := List.getElem?_eq_getElem hkl
    have h1 := hk k T[k] y hx hy
    rw [Nat.zero_add] at h1
    rw [setMany_get _ hnd _ k (by rw [setMany_length]; exact hkl)]
    have hlkr := renS_lookup L k (sv i)
    rw [hlkr] at h1
    cases hlk : (sv i).lookup k with
    | some v =>
      simp only [hlk, Option.map_some] at h1
      subst h1
      refine ⟨v, rfl, (TV.conc_ren _ _ _).symm, ?_⟩
      obtain ⟨l1, l2, he, _⟩ := List.lookup_eq_some_iff.1 hlk
      exact hoks (k, v) (by rw [he]; simp)
    | none =>
      simp only [hlk, Option.map_none] at h1
      simp only
      rw [setMany_get _ hjn _ k hkl, junk_lookup]
      by_cases hc : js.contains k = true
      · simp only [hc, if_true]
        refine ⟨_, rfl, ?_, trivial⟩
        simp only [TV.conc, SV.conc, us, List.getD_eq_getElem?_getD, hy, Option.getD_some]
      · rcases h1 with h1 | h1
        · exact absurd h1 hc
        · simp only [hc, hx]
          subst h1
          have ho := hT _ (List.getElem_mem hkl)
          refine ⟨_, rfl, TV.conc_ok ho hagβ, ?_⟩
          exact TV.ok_mono ho hle
  refine ⟨us, β ∘ lk L, Holds.of_ok ?_ ?_, ?_, hd⟩
  · rw [hT' β (.refl _ _)]
    congr 1
    apply List.ext_getElem?
    intro k
    simp only [List.getElem?_map]
    cases hy : T'[k]? with
    | none =>
      have : T'.length ≤ k := List.getElem?_eq_none_iff.1 hy
      rw [List.getElem?_eq_none (by rw [setMany_length, setMany_length, hl]; exact this)]
      rfl
    | some y =>
      obtain ⟨z, hz, hc, _⟩ := hslot k y hy
      rw [hz]
      simp [hc]
  · intro z hz
    obtain ⟨k, hk'⟩ := List.mem_iff_getElem?.1 hz
    have hkl : k < T'.length := by
      have := (List.getElem?_eq_some_iff.1 hk').1
      rw [setMany_length, setMany_length, hl] at this
      exact this
    obtain ⟨z', hz', _, ho⟩ := hslot k T'[k] (List.getElem?_eq_getElem hkl)
    rw [hk'] at hz'
    injection hz' with hz'
    subst hz'
    exact ho
  · have hlt' : ∀ k, k < (Hs i).length → lk L k < H'.length := fun k hk => by
      obtain ⟨b, _, h2⟩ := hlt k hk
      exact (List.getElem?_eq_some_iff.1 h2).1
    refine ⟨⟨Nat.le_trans hn hle, hR.anc.2.trans (hagβ.mono hn)⟩, hR.fr, fun p q hp hq he => ?_, fun k hk => hR.lie _ (hlt' k hk), fun k b hb => ?_, fun β' h' k b hb => ?_⟩
    · have h1 := hR.inj _ _ (hlt' p hp) (hlt' q hq) he
      have hpL : p < L.length := by rw [← hlen]; exact hp
      have hqL : q < L.length := by rw [← hlen]; exact hq
      simp only [lk, List.getD_eq_getElem?_getD, List.getElem?_eq_getElem hpL, List.getElem?_eq_getElem hqL, Option.getD_some] at h1
      exact nodup_inj hLn hpL hqL h1
    · obtain ⟨b', h1, h2⟩ := hlt k (List.getElem?_eq_some_iff.1 hb).1
      rw [hb] at h1
      injection h1 with h1
      subst h1
      exact hR.typ _ b h2
    · obtain ⟨b', h1, h2⟩ := hlt k (List.getElem?_eq_some_iff.1 hb).1
      rw [hb] at h1
      injection h1 with h1
      subst h1
      have h3 := hR.blk β (.refl _ _) _ b h2
      rw [Function.comp_apply, h3]
      have hc := hcs b (List.mem_of_getElem? hb)
      simp only [AB.conc]
      rw [SV.concs_ok hc (hagβ.trans (h'.mono hle))]

def loopT {ι : Type} (T : List TV) (n : Nat) (V : ι → Prop) (μ : ι → Nat) (js : List Nat) (sv : ι → List (Nat × TV)) (Hs : ι → Heap) (i : ι) (Q : QX) : QX :=
  seqQ (fun T' H' => ∃ i', μ i' < μ i ∧ AgainT T n V js sv Hs T' H' i') Q

/-- A LOOP, its blocks chosen anew. -/
theorem X_loopT {Γ : Ctx} {c : Code} {T : List TV} {H : Heap} {Q : QX} {ι : Type} (V : ι → Prop) (μ : ι → Nat) (js : List Nat) (sv : ι → List (Nat × TV)) (Hs : ι → Heap) (i0 : ι)
    (hsh : ShapeT V H.length sv Hs) (hnj : js.Nodup) (h0 : AgainT T H.length V js sv Hs T H i0)
    (hr : ∀ i us, V i → X Γ c (setMany (setMany T (junk us js)) (sv i)) (Hs i) (loopT T H.length V μ js sv Hs i Q)) : XL Γ (.loop c) T H Q := by
  rw [XL_eq]
  intro a w hs
  obtain ⟨oT, oH, on⟩ := hs.oks
  refine wp_loop_ghost (fun n a w => ∃ i us, V i ∧ μ i = n ∧ St Γ (setMany (setMany T (junk us js)) (sv i)) (Hs i) a w) (μ i0) ?_ ?_
  · obtain ⟨us, h⟩ := hs.againT hsh hnj oT on h0
    exact ⟨i0, us, h0.1, rfl, h⟩
  · rintro n a w ⟨i, us, hV, rfl, hs'⟩
    refine wp_mono (hr i us hV a w hs') fun e a' w' ⟨T', H', hq, hs''⟩ => ?_
    cases e with
    | normal =>
      obtain ⟨i', hlt, hag⟩ := hq
      obtain ⟨us', h⟩ := hs''.againT hsh hnj oT on hag
      exact ⟨μ i', hlt, i', us', hag.1, rfl, h⟩
    | _ => exact ⟨T', H', hq, hs''⟩
end Go.Ab
