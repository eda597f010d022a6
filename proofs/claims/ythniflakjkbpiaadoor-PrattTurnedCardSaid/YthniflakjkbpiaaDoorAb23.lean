/-
  Functions that read what is known and hand back new blocks; what is added to a row, in one law.
-/
import Derived.Test.YthniflakjkbpiaaDoorAb22
namespace Go.Ab
open Go Go.RowKit
set_option linter.unusedSimpArgs false
set_option linter.unusedVariables false

/-- A function of values and of what is known, that may let blocks turn by V and may hand back new blocks. -/
def EvN (V : Evo) (P : Program) (f : FuncId) (args : List TV) (pre : Nat → World → Prop) (R : TV → Heap → Prop) : Prop :=
  ∀ B w, pre B w → Calls P f (args.map (TV.conc fun _ => 0)).toArray w fun e w' =>
    ∃ v H' β', R v H' ∧ (∀ b ∈ H', ∀ x ∈ b.cs, x.ok 0) ∧ v.ok H'.length ∧ Rep (ctxE P V w B) H' β' w' ∧ e = .returned (v.conc β')
/-- What is handed back: the value and its blocks, chosen out of ours. -/
def Gives (R : TV → Heap → Prop) (v : TV) (H' : Heap) : Prop := ∃ L v2 H2, R v2 H2 ∧ L.Nodup ∧ v = v2.ren (lk L) ∧ v2.ok H2.length ∧ selH L H' H2 ∧ ∀ b ∈ H2, ∀ x ∈ b.cs, x.ok 0
theorem evN_of {V : Evo} {P : Program} {f : FuncId} {fn : Func} {c : Code} {args : List TV} {pre : Nat → World → Prop} {R : TV → Heap → Prop} (hf : P.funcs[f]? = some fn) (hb : fn.body = some c) (ha : ∀ x ∈ args, x.ok 0)
    (h : ∀ B w, pre B w → X (ctxE P V w B) c (args ++ List.replicate (fn.ntmps - args.length) undefT) [] (retQ P fn.results.toList (Gives R))) : EvN V P f args pre R := by
  intro B w hp
  refine (calls_of_X (Γ := ctxE P V w B) hf hb (repE P V w B _) ha (h B w hp)).mono ?_
  rintro e w' ⟨v, H', β', ⟨L, v2, H2, hR2, hLn, rfl, hok, hsel, hcs⟩, hR, he⟩
  obtain ⟨hlen, hblk⟩ := selH_spec hsel
  have hlt : ∀ k, k < H2.length → ∃ b, H2[k]? = some b ∧ H'[lk L k]? = some b := fun k hk => by
    obtain ⟨l, h1, h2⟩ := hblk k _ (List.getElem?_eq_getElem hk)
    exact ⟨_, List.getElem?_eq_getElem hk, by simp only [lk, List.getD_eq_getElem?_getD, h1, Option.getD_some]; exact h2⟩
  have hlt' : ∀ k, k < H2.length → lk L k < H'.length := fun k hk => by
    obtain ⟨b, _, h2⟩ := hlt k hk
    exact (List.getElem?_eq_some_iff.1 h2).1
  refine ⟨v2, H2, β' ∘ lk L, hR2, hcs, hok, ?_, by rw [he β' (.refl _ _), TV.conc_ren]⟩
  refine ⟨⟨Nat.zero_le _, fun k hk => absurd hk (Nat.not_lt_zero k)⟩, hR.fr, fun p q hp hq hpq => ?_, fun k hk => hR.lie _ (hlt' k hk), fun k b hb => ?_, fun β'' h'' k b hb => ?_⟩
  · have h1 := hR.inj _ _ (hlt' p hp) (hlt' q hq) hpq
    have hpL : p < L.length := by rw [← hlen]; exact hp
    have hqL : q < L.length := by rw [← hlen]; exact hq
    simp only [lk, List.getD_eq_getElem?_getD, List.getElem?_eq_getElem hpL, List.getElem?_eq_getElem hqL, Option.getD_some] at h1
    exact nodup_inj hLn hpL hqL h1
  · obtain ⟨b', h1, h2⟩ := hlt k (List.getElem?_eq_some_iff.1 hb).1
    rw [hb] at h1
    injection h1 with h1
    subst h1
    exact hR.typ _ b h2
  · obtain ⟨b', h1, h2⟩ := hlt k (List.getElem?_eq_some_iff.1 hb).1
    rw [hb] at h1
    injection h1 with h1
    subst h1
    have h3 := hR.blk β' (.refl _ _) _ b h2
    rw [Function.comp_apply, h3]
    simp only [AB.conc]
    rw [SV.concs_ok (hcs b (List.mem_of_getElem? hb)) (β := β') (β' := β'') (fun j hj => absurd hj (Nat.not_lt_zero j))]

theorem xcall_evn {Γ : Ctx} {H : Heap} {f : FuncId} {args : List TV} {R : TV → Heap → Prop} {K : TV → Heap → Prop} (hc : callable Γ.P f = true)
    (h : ∀ β w, Rep Γ H β w → ∃ pre, EvN Γ.ev Γ.P f (args.map (TV.fz [] β)) pre R ∧ pre Γ.B w)
    (hK : ∀ v H', R v H' → K (v.ren (· + H.length)) (H ++ H')) : xcallF Γ H f args K := by
  refine xcall_gen (fun r H2 => ∃ v H', R v H' ∧ r = v.ren (· + H.length) ∧ H2 = H ++ H') hc ?_ fun r H2 ⟨v, H', hR, hr, hH⟩ => by subst hr; subst hH; exact hK v H' hR
  intro β w hR
  have e : args.map (TV.conc β) = (args.map (TV.fz [] β)).map (TV.conc fun _ => 0) := by
    rw [List.map_map]
    exact List.map_congr_left fun x _ => (TV.fz_conc (fun i j h => by simp at h) x).symm
  rw [e]
  obtain ⟨pre, h1, h2⟩ := h β w hR
  refine (h1 Γ.B w h2).mono ?_
  rintro e w' ⟨v, H', β', hRv, hcs, hok, hR', he⟩
  have hRw := hR.ext (ext_of_repE hR')
  let β2 : Nat → Nat := fun j => if j < H.length then β j else β' (j - H.length)
  have hag : Agrees H.length β β2 := fun j hj => by simp [β2, hj]
  have hag2 : ∀ j, β2 (j + H.length) = β' j := fun j => by simp [β2, show ¬ j + H.length < H.length by omega]
  have hbig : ∀ j, j < H'.length → w.heap.size ≤ β' j := fun j hj => by
    rcases hR'.lie j hj with h1 | h1
    · exact h1
    · exact h1.elim
  have hsm : ∀ j, j < H.length → β j < w.heap.size := fun j hj => hR.lt hj
  refine ⟨v.ren (· + H.length), H ++ H', β2, ⟨v, H', hRv, rfl, rfl⟩, hag, by simp, ?_, fun β'' h'' => ?_⟩
  · refine ⟨⟨by simp; exact Nat.le_trans hR.anc.1 (Nat.le_add_right _ _), hR.anc.2.trans (hag.mono hR.anc.1)⟩, hRw.fr, fun p q hp hq hpq => ?_, fun j hj => ?_, fun j b hb => ?_, fun β'' h'' j b hb => ?_⟩
    · simp only [List.length_append] at hp hq
      by_cases h1 : p < H.length
      · by_cases h2 : q < H.length
        · simp only [β2, h1, h2, if_true] at hpq
          exact hR.inj p q h1 h2 hpq
        · simp only [β2, h1, h2, if_true, if_false] at hpq
          have := hsm p h1
          have := hbig (q - H.length) (by omega)
          omega
      · by_cases h2 : q < H.length
        · simp only [β2, h1, h2, if_true, if_false] at hpq
          have := hsm q h2
          have := hbig (p - H.length) (by omega)
          omega
        · simp only [β2, h1, h2, if_false] at hpq
          have := hR'.inj _ _ (by omega) (by omega) hpq
          omega
    · simp only [List.length_append] at hj
      by_cases h1 : j < H.length
      · simp only [β2, h1, if_true]; exact hR.lie j h1
      · simp only [β2, h1, if_false]
        exact .inl (Nat.le_trans hR.fr.size (hbig _ (by omega)))
    · by_cases h1 : j < H.length
      · rw [List.getElem?_append_left h1] at hb
        exact hR.typ j b hb
      · rw [List.getElem?_append_right (by omega)] at hb
        exact hR'.typ _ b hb
    · by_cases h1 : j < H.length
      · rw [List.getElem?_append_left h1] at hb
        simp only [β2, h1, if_true]
        refine hRw.blk β'' (hag.trans (h''.mono (by simp))) j b hb
      · rw [List.getElem?_append_right (by omega)] at hb
        simp only [β2, h1, if_false]
        rw [hR'.blk β' (.refl _ _) _ b hb]
        simp only [AB.conc]
        rw [SV.concs_ok (hcs b (List.mem_of_getElem? hb)) (β := β') (β' := β'') (fun j hj => absurd hj (Nat.not_lt_zero j))]
  · rw [he, TV.conc_ren]
    congr 1
    refine (TV.conc_ok hok fun j hj => ?_).symm
    simp only [Function.comp_apply]
    rw [h'' (j + H.length) (by simp; omega), hag2]

/-! Tryd# Rows that grow -/
/-- A row of n things, if it has any at block j. -/
def rowV (j n c : Nat) : SV := if n = 0 then .v (.slice none 0 0) else .sl j 0 n c
def rowS (j n c : Nat) : TV := .s (rowV j n c)
def rowH (e : TypeId) (n : Nat) (cs : List SV) (sp : List Value) : Heap := if n = 0 then [] else [⟨e, cs ++ sp.map .v⟩]
theorem rowS_0 {j c : Nat} : rowS j 0 c = .s (.v (.slice none 0 0)) := rfl
theorem rowV_s {j n c : Nat} (h : n ≠ 0) : rowV j n c = .sl j 0 n c := if_neg h
theorem rowV_0 {j c : Nat} : rowV j 0 c = .v (.slice none 0 0) := rfl
theorem rowS_s {j n c : Nat} (h : n ≠ 0) : rowS j n c = .s (.sl j 0 n c) := congrArg TV.s (rowV_s h)
theorem rowH_0 {e : TypeId} {cs : List SV} {sp : List Value} : rowH e 0 cs sp = [] := rfl
theorem rowH_s {e n : Nat} {cs : List SV} {sp : List Value} (h : n ≠ 0) : rowH e n cs sp = [⟨e, cs ++ sp.map .v⟩] := if_neg h
theorem rowV_ok {j n c m : Nat} (h : n ≠ 0 → j < m) : (rowV j n c).ok m := by
  unfold rowV
  split
  · trivial
  · rename_i h0; exact h h0
theorem rowS_ok {j n c m : Nat} (h : n ≠ 0 → j < m) : (rowS j n c).ok m := rowV_ok h
theorem ren_rowV {ρ : Nat → Nat} {j n c : Nat} : (rowV j n c).ren ρ = rowV (ρ j) n c := by
  unfold rowV
  split <;> rfl
theorem ren_rowS {ρ : Nat → Nat} {j n c : Nat} : (rowS j n c).ren ρ = rowS (ρ j) n c := congrArg TV.s ren_rowV
/-- What is added to a row: it lies where it lay, or anew behind all. -/
theorem xappend_row {Γ : Ctx} {e : TypeId} {nw : TypeId → Option (List SV × Nat)} {H : Heap} {K : TV → Heap → Prop} {news cs : List SV} {sp : List Value} {j n c : Nat} (hn : nw e = some (news, 1))
    (hb : n ≠ 0 → H[j]? = some ⟨e, cs ++ sp.map .v⟩ ∧ n ≤ c ∧ sp.length = (c - n) * sz Γ.P e) (hcs : cs.length = n * sz Γ.P e) (hnl : news.length = sz Γ.P e)
    (hap : apOK Γ.P e (n + 1)) (hone : oneAll news) (hTM : ¬ Γ.ev.TM e)
    (h : ∀ (j' c' : Nat) (sp' : List Value) (H' : Heap), n + 1 ≤ c' → sp'.length = (c' - (n + 1)) * sz Γ.P e → H'[j']? = some ⟨e, cs ++ news ++ sp'.map .v⟩ → (n ≠ 0 ∧ j' = j ∨ j' = H.length) → (∀ i, i < H.length → i ≠ j → H'[i]? = H[i]?) → (n = 0 → ∀ i, i < H.length → H'[i]? = H[i]?) →
      K (.s (.sl j' 0 (n + 1) c')) H') : xappend Γ (some e) (rowS j n c) nw H K := by
  by_cases h0 : n = 0
  · subst h0
    rw [rowS_0]
    have hc0 : cs = [] := List.eq_nil_of_length_eq_zero (by rw [hcs, Nat.zero_mul])
    subst hc0
    refine xappend_nil_i hn (by decide) hap hTM fun c' sp' hc hsp => ?_
    exact h H.length c' sp' _ hc hsp (by simp) (.inr rfl) (fun i hi _ => List.getElem?_append_left hi) fun _ i hi => List.getElem?_append_left hi
  · obtain ⟨hb, hnc, hsp⟩ := hb h0
    rw [rowS_s h0]
    have hlen : (cs ++ sp.map SV.v).length = c * sz Γ.P e := by
      rw [List.length_append, List.length_map, hcs, hsp, ← Nat.add_mul, Nat.add_sub_cancel' hnc]
    have htk : (cs ++ sp.map SV.v).take (n * sz Γ.P e) = cs := by rw [← hcs]; exact List.take_left' rfl
    refine xappend_sl_i hn hb rfl (by rw [hlen]; exact Nat.le_refl _) hnc hap hone hTM (fun hfit => ?_) fun hgr c' sp' hc hsp' => ?_
    · have hdr : (cs ++ sp.map SV.v).drop (n * sz Γ.P e + news.length) = (sp.drop (sz Γ.P e)).map SV.v := by
        rw [← hcs, hnl, List.drop_append, List.drop_of_length_le (by omega), List.nil_append, List.map_drop]
        congr 1
        omega
      simp only [htk, hdr]
      have hjl := (List.getElem?_eq_some_iff.1 hb).1
      refine h j c (sp.drop (sz Γ.P e)) _ hfit ?_ ?_ (.inl ⟨h0, rfl⟩) (fun i hi hne => ?_) fun h1 => absurd h1 h0
      · rw [List.length_drop, hsp, show c - n = c - (n + 1) + 1 by omega, Nat.add_mul, Nat.one_mul, Nat.add_sub_cancel]
      · rw [putH_get, if_pos rfl, hb]; rfl
      · rw [putH_get, if_neg fun h => hne h.symm]
    · simp only [htk]
      exact h H.length c' sp' _ hc hsp' (by simp) (.inr rfl) (fun i hi _ => List.getElem?_append_left hi) fun h1 => absurd h1 h0
end Go.Ab
