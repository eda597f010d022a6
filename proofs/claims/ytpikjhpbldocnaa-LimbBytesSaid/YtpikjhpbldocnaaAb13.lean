/-
  Functions that hand back new slices; functions that read what lies where an argument says.
-/
import Derived.Test.YtpikjhpbldocnaaAb12
namespace Go.Ab
open Go Go.RowKit
set_option linter.unusedSimpArgs false
set_option linter.unusedVariables false

/-- A function that may hand back new blocks, of values alone. -/
def NewC (P : Program) (f : FuncId) (args : List TV) (R : TV → Heap → Prop) : Prop :=
  ∀ (β : Nat → Nat) (w : World), Calls P f (args.map (TV.conc β)).toArray w fun e w' =>
    ∃ v H' β', R v H' ∧ (∀ b ∈ H', ∀ x ∈ b.cs, x.ok 0) ∧ v.ok H'.length ∧ Rep (ctx0 P w) H' β' w' ∧ e = .returned (v.conc β')

theorem newC_of {P : Program} {f : FuncId} {fn : Func} {c : Code} {args : List TV} {R : TV → Heap → Prop} (hf : P.funcs[f]? = some fn) (hb : fn.body = some c) (ha : ∀ x ∈ args, x.ok 0)
    (h : ∀ w, X (ctx0 P w) c (args ++ List.replicate (fn.ntmps - args.length) undefT) [] (retQ P fn.results.toList fun v H' =>
      ∃ L v2 H2, R v2 H2 ∧ L.Nodup ∧ v = v2.ren (lk L) ∧ v2.ok H2.length ∧ selH L H' H2 ∧ ∀ b ∈ H2, ∀ x ∈ b.cs, x.ok 0)) : NewC P f args R := by
  intro β w
  refine (calls_of_X (Γ := ctx0 P w) hf hb (rep0 P w β) ha (h w)).mono ?_
  rintro e w' ⟨v, H', β', ⟨L, v2, H2, hR2, hLn, rfl, hok, hsel, hcs⟩, hR, he⟩
  obtain ⟨hlen, hblk⟩ := selH_spec hsel
  have hlt : ∀ k, k < H2.length → ∃ b, H2[k]? = some b ∧ H'[lk L k]? = some b := fun k hk => by
    obtain ⟨l, h1, h2⟩ := hblk k _ (List.getElem?_eq_getElem hk)
    exact ⟨_, List.getElem?_eq_getElem hk, by simp only [lk, List.getD_eq_getElem?_getD, h1, Option.getD_some]; exact h2⟩
  have hlt' : ∀ k, k < H2.length → lk L k < H'.length := fun k hk => by
    obtain ⟨b, _, h2⟩ := hlt k hk
    exact (List.getElem?_eq_some_iff.1 h2).1
  refine ⟨v2, H2, β' ∘ lk L, hR2, hcs, hok, ?_, by rw [he β' (.refl _ _), TV.conc_ren]⟩
  refine ⟨⟨Nat.zero_le _, fun k hk => absurd hk (Nat.not_lt_zero k)⟩, hR.fr, fun p q hp hq hpq => ?_, fun k hk => hR.lie _ (hlt' k hk), fun k b hb => ?_, fun β'' h'' k b hb => ?_⟩
  · have h1 := hR.inj _ _ (hlt' p hp) (hlt' q hq) hpq
    have hpL : p < L.length := by rw [← hlen]; exact hp
    have hqL : q < L.length := by rw [← hlen]; exact hq
    simp only [lk, List.getD_eq_getElem?_getD, List.getElem?_eq_getElem hpL, List.getElem?_eq_getElem hqL, Option.getD_some] at h1
    exact nodup_inj hLn hpL hqL h1
  · obtain ⟨b', h1, h2⟩ := hlt k (List.getElem?_eq_some_iff.1 hb).1
    rw [hb] at h1
    injection h1 with h1
    subst h1
    exact hR.typ _ b h2
  · obtain ⟨b', h1, h2⟩ := hlt k (List.getElem?_eq_some_iff.1 hb).1
    rw [hb] at h1
    injection h1 with h1
    subst h1
    have h3 := hR.blk β' (.refl _ _) _ b h2
    rw [Function.comp_apply, h3]
    simp only [AB.conc]
    rw [SV.concs_ok (hcs b (List.mem_of_getElem? hb)) (β := β') (β' := β'') (fun j hj => absurd hj (Nat.not_lt_zero j))]

theorem below_of_rep0 {P : Program} {w w' : World} {H : Heap} {β : Nat → Nat} (h : Rep (ctx0 P w) H β w') : Below w.heap.size w w' :=
  ⟨h.fr.os, h.fr.tape, h.fr.output, h.fr.size, fun k hk => by
    rcases h.fr.blk k hk with h1 | h1 | ⟨_, _, _, _, _, h1⟩
    · exact h1.elim
    · exact h1
    · exact h1.elim⟩

theorem xcall_new {Γ : Ctx} {H : Heap} {f : FuncId} {args : List TV} {R : TV → Heap → Prop} {K : TV → Heap → Prop} (hc : callable Γ.P f = true) (h : NewC Γ.P f args R) (hev : ∀ t, ¬ Γ.ev.TM t)
    (hK : ∀ v H', R v H' → K (v.ren (· + H.length)) (H ++ H')) : xcallF Γ H f args K := by
  refine xcall_gen (fun r H2 => ∃ v H', R v H' ∧ r = v.ren (· + H.length) ∧ H2 = H ++ H') hc ?_ fun r H2 ⟨v, H', hR, hr, hH⟩ => by subst hr; subst hH; exact hK v H' hR
  intro β w hR
  refine (h β w).mono ?_
  rintro e w' ⟨v, H', β', hRv, hcs, hok, hR', he⟩
  have hbel := below_of_rep0 hR'
  have hRw := hR.ext (Ext.of_below (V := Γ.ev) (B := Γ.B) hbel)
  let β2 : Nat → Nat := fun j => if j < H.length then β j else β' (j - H.length)
  have hag : Agrees H.length β β2 := fun j hj => by simp [β2, hj]
  have hag2 : ∀ j, β2 (j + H.length) = β' j := fun j => by simp [β2, show ¬ j + H.length < H.length by omega]
  have hbig : ∀ j, j < H'.length → w.heap.size ≤ β' j := fun j hj => by
    rcases hR'.lie j hj with h1 | h1
    · exact h1
    · exact h1.elim
  have hsm : ∀ j, j < H.length → β j < w.heap.size := fun j hj => hR.lt hj
  refine ⟨v.ren (· + H.length), H ++ H', β2, ⟨v, H', hRv, rfl, rfl⟩, hag, by simp, ?_, fun β'' h'' => ?_⟩
  · refine ⟨⟨by simp; exact Nat.le_trans hR.anc.1 (Nat.le_add_right _ _), hR.anc.2.trans (hag.mono hR.anc.1)⟩, hRw.fr, fun p q hp hq hpq => ?_, fun j hj => ?_, fun j b hb => hev _, fun β'' h'' j b hb => ?_⟩
    · simp only [List.length_append] at hp hq
      by_cases h1 : p < H.length
      · by_cases h2 : q < H.length
        · simp only [β2, h1, h2, if_true] at hpq
          exact hR.inj p q h1 h2 hpq
        · simp only [β2, h1, h2, if_true, if_false] at hpq
          have := hsm p h1
          have := hbig (q - H.length) (by omega)
          omega
      · by_cases h2 : q < H.length
        · simp only [β2, h1, h2, if_true, if_false] at hpq
          have := hsm q h2
          have := hbig (p - H.length) (by omega)
          omega
        · simp only [β2, h1, h2, if_false] at hpq
          have := hR'.inj _ _ (by omega) (by omega) hpq
          omega
    · simp only [List.length_append] at hj
      by_cases h1 : j < H.length
      · simp only [β2, h1, if_true]; exact hR.lie j h1
      · simp only [β2, h1, if_false]
        exact .inl (Nat.le_trans hR.fr.size (hbig _ (by omega)))
    · by_cases h1 : j < H.length
      · rw [List.getElem?_append_left h1] at hb
        simp only [β2, h1, if_true]
        refine hRw.blk β'' (hag.trans (h''.mono (by simp))) j b hb
      · rw [List.getElem?_append_right (by omega)] at hb
        simp only [β2, h1, if_false]
        rw [hR'.blk β' (.refl _ _) _ b hb]
        simp only [AB.conc]
        rw [SV.concs_ok (hcs b (List.mem_of_getElem? hb)) (β := β') (β' := β'') (fun j hj => absurd hj (Nat.not_lt_zero j))]
  · rw [he, TV.conc_ren]
    congr 1
    refine (TV.conc_ok hok fun j hj => ?_).symm
    simp only [Function.comp_apply]
    rw [h'' (j + H.length) (by simp; omega), hag2]

/-- A function that reads what its arguments point to; values alone come back. -/
def PureE (P : Program) (f : FuncId) (args : List Value) (pre : World → Prop) (r : TV) : Prop :=
  ∀ w, pre w → Calls P f args.toArray w fun e w' => (∀ β, e = .returned (r.conc β)) ∧ Below w.heap.size w w'
theorem pureE_of {P : Program} {f : FuncId} {fn : Func} {c : Code} {args : List Value} {pre : World → Prop} {r : TV} (hf : P.funcs[f]? = some fn) (hb : fn.body = some c) (hr : r.ok 0)
    (h : ∀ w, pre w → X (ctx0 P w) c (args.map (fun v => .s (.v v)) ++ List.replicate (fn.ntmps - args.length) undefT) [] (retQ P fn.results.toList fun v _ => v = r)) : PureE P f args pre r := by
  intro w hw
  have hargs : ((args.map (fun v => TV.s (.v v))).map (TV.conc fun _ => 0)).toArray = args.toArray := by simp [Function.comp_def, conc_v]
  have h1 := calls_of_X (Γ := ctx0 P w) (args := args.map (fun v => .s (.v v))) hf hb (rep0 P w fun _ => 0) (fun x hx => by
    rw [List.mem_map] at hx
    obtain ⟨v, _, rfl⟩ := hx
    trivial) (by have := h w hw; rw [List.length_map]; exact this)
  rw [hargs] at h1
  refine h1.mono ?_
  rintro e w' ⟨v, H', β', rfl, hR, he⟩
  refine ⟨fun β'' => ?_, below_of_rep0 hR⟩
  rw [he β' (.refl _ _)]
  rw [TV.conc_ok hr (β := β'') (β' := β') (fun j hj => absurd hj (Nat.not_lt_zero j))]
theorem xcall_pureE {Γ : Ctx} {H : Heap} {f : FuncId} {args : List TV} {K : TV → Heap → Prop} {r : TV} (hc : callable Γ.P f = true)
    (h : ∀ β w, Rep Γ H β w → ∃ pre, PureE Γ.P f (args.map (TV.conc β)) pre r ∧ pre w) (hK : K r H) : xcallF Γ H f args K := by
  refine xcall_pure hc (fun β w hR => ?_) hK
  obtain ⟨pre, h1, h2⟩ := h β w hR
  exact (h1 w h2).mono fun e w' ⟨he, hb⟩ => ⟨fun β' _ => he β', Ext.of_below hb⟩

theorem extCell_of {P : Program} {w : World} {ad : Addr} {x : Value} (hs : ad.spot = none) (h : w.cell? ad = some x) : extCell (ctx0 P w) ad x := by
  unfold World.cell? at h
  split at h
  · rename_i c t f hk
    simp only [hs] at h
    exact ⟨c, t, f, hs, hk, by simpa using h, fun h => h, fun h => h⟩
  · cases h
theorem extCell_fun {Γ : Ctx} {ad : Addr} {x y : Value} (h : extCell Γ ad x) (h' : extCell Γ ad y) : x = y := by
  obtain ⟨c, t, f, _, hk, hx, _⟩ := h
  obtain ⟨c', t', f', _, hk', hx', _⟩ := h'
  rw [hk] at hk'
  injection hk' with hk'
  injection hk' with h1 _ _
  subst h1
  rw [hx] at hx'
  injection hx'
theorem xext_eq {Γ : Ctx} {n : Nat} {ad : Addr} {x : Value} {K : TV → HE → Prop} (h : extCell Γ ad x) : xext Γ (some false) n ad K = K (.s (.v x)) .none := by
  simp only [xext, eq_iff_iff]
  exact ⟨fun ⟨y, hy, hK⟩ => by rw [extCell_fun h hy]; exact hK, fun hK => ⟨x, h, hK⟩⟩
/-- n bytes lie at an address. -/
def bytesAt (w : World) (ad : Addr) (n : Nat) (f : Nat → Nat) : Prop := ad.spot = none ∧ ∀ i, i < n → w.cell? (ad.add i) = some (.int .u8 (f i : Int))
/-- Bytes, as cells. -/
def barr (n : Nat) (f : Nat → Nat) : List SV := (List.range n).map fun i => .v (.int .u8 (f i : Int))
end Go.Ab
