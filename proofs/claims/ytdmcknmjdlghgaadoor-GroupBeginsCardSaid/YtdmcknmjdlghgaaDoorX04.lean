/-
  Functions that hand back new blocks that point to one another.
  A Mod of ours is let go: what was known stays known.
  Factors in a row, proofs in a row: memory that is known.
  Groups: what lies in memory, and what is known of it.
  Texts laid together: Vc, L0.
  DERIVED: THE SHELF's CONTRACTS AT THIS DUMP, IN PLAIN WORDS (tools/lay-plain.mjs out of 'YtdmcknmjdlghgaaDoorSh0.lean', which tools/lay-shelf.mjs wrote): THE SAME DECLARATIONS UNDER THE SAME NAMES: 'import', 'namespace', 'open', 'def', 'theorem' AND NOTHING ELSE: no command of the shelf's: FOR A HAND-IN. Each laying: the table of numbers ('.._ren') and one theorem, a field a fact of the dump's own or the kernel's comparison; each contract: ONE APPLICATION.
-/
import Derived.WalkKit
import Derived.StillTail
import Derived.Deep.MidRow
import Derived.DeepKeys
import Derived.Deep.LoopGhost
import Derived.Deep.Quiet
import Derived.Laws.AppendOwn
import Derived.Laws.MakeOwn
import Derived.Laws.Cover3
import Derived.Laws.IdiomCopy
import Derived.Laws.CopyRow
import Derived.Laws.BitsAllLaws
import Derived.Laws.Bits128
import Derived.Lib.BitFns
import Derived.DeepKeys3
import Derived.MapKept
import Derived.Test.YtdmcknmjdlghgaaDoorProg
import Derived.Shelf.Bits.Mul64
import Derived.Shelf.Strconv.Itoa0
import Derived.Test.YtdmcknmjdlghgaaDoorX01
import Derived.Test.YtdmcknmjdlghgaaDoorX02
import Derived.Test.YtdmcknmjdlghgaaDoorX03
namespace Go.Ab
open Go Go.RowKit
set_option linter.unusedSimpArgs false
set_option linter.unusedVariables false

def AB.ren (ρ : Nat → Nat) (b : AB) : AB := ⟨b.t, b.cs.map (SV.ren ρ)⟩
theorem AB.conc_ren (ρ β : Nat → Nat) (b : AB) : (b.ren ρ).conc β = b.conc (β ∘ ρ) := by
  unfold AB.ren AB.conc
  simp only [List.map_map]
  congr 2
  exact List.map_congr_left fun x _ => SV.conc_ren ρ β x
theorem AB.conc_okk {b : AB} {n : Nat} (h : ∀ x ∈ b.cs, x.ok n) {β β' : Nat → Nat} (hβ : Agrees n β β') : b.conc β' = b.conc β := by
  unfold AB.conc
  rw [SV.concs_ok h hβ]
/-- A function that reads what is known, and may hand back new blocks. -/
def NewG (P : Program) (f : FuncId) (args : List TV) (pre : World → Prop) (R : TV → Heap → Prop) : Prop :=
  ∀ w, pre w → Calls P f (args.map (TV.conc fun _ => 0)).toArray w fun e w' =>
    ∃ v H' β', R v H' ∧ (∀ b ∈ H', ∀ x ∈ b.cs, x.ok H'.length) ∧ v.ok H'.length ∧ Rep (ctx0 P w) H' β' w' ∧ e = .returned (v.conc β')
/-- What is handed back, chosen out of our blocks. -/
def GivesG (R : TV → Heap → Prop) (v : TV) (H' : Heap) : Prop :=
  ∃ L v2 H2, R v2 H2 ∧ L.Nodup ∧ v = v2.ren (lk L) ∧ v2.ok H2.length ∧ selH L H' (H2.map (AB.ren (lk L))) ∧ ∀ b ∈ H2, ∀ x ∈ b.cs, x.ok H2.length
theorem rep_sel {P : Program} {w w' : World} {H' H2 : Heap} {β' : Nat → Nat} {L : List Nat} (hLn : L.Nodup) (hsel : selH L H' (H2.map (AB.ren (lk L)))) (hcs : ∀ b ∈ H2, ∀ x ∈ b.cs, x.ok H2.length) (hR : Rep (ctx0 P w) H' β' w') : Rep (ctx0 P w) H2 (β' ∘ lk L) w' := by
  obtain ⟨hlen, hblk⟩ := selH_spec hsel
  rw [List.length_map] at hlen
  have hlt : ∀ k b, H2[k]? = some b → H'[lk L k]? = some (b.ren (lk L)) := fun k b hb => by
    obtain ⟨l, h1, h2⟩ := hblk k (b.ren (lk L)) (by rw [List.getElem?_map, hb]; rfl)
    simp only [lk, List.getD_eq_getElem?_getD, h1, Option.getD_some]
    exact h2
  have hlt' : ∀ k, k < H2.length → lk L k < H'.length := fun k hk => (List.getElem?_eq_some_iff.1 (hlt k _ (List.getElem?_eq_getElem hk))).1
  refine ⟨⟨Nat.zero_le _, fun k hk => absurd hk (Nat.not_lt_zero k)⟩, hR.fr, fun p q hp hq hpq => ?_, fun k hk => hR.lie _ (hlt' k hk), fun k b hb => ?_, fun β'' h'' k b hb => ?_⟩
  · have h1 := hR.inj _ _ (hlt' p hp) (hlt' q hq) hpq
    have hpL : p < L.length := by rw [← hlen]; exact hp
    have hqL : q < L.length := by rw [← hlen]; exact hq
    simp only [lk, List.getD_eq_getElem?_getD, List.getElem?_eq_getElem hpL, List.getElem?_eq_getElem hqL, Option.getD_some] at h1
    exact nodup_inj hLn hpL hqL h1
  · exact hR.typ _ (b.ren (lk L)) (hlt k b hb)
  · have h3 := hR.blk β' (.refl _ _) _ _ (hlt k b hb)
    rw [Function.comp_apply, h3, AB.conc_ren]
    exact congrArg some (AB.conc_okk (hcs b (List.mem_of_getElem? hb)) h'').symm
theorem newG_of {P : Program} {f : FuncId} {fn : Func} {c : Code} {args : List TV} {pre : World → Prop} {R : TV → Heap → Prop} (hf : P.funcs[f]? = some fn) (hb : fn.body = some c) (ha : ∀ x ∈ args, x.ok 0)
    (h : ∀ w, pre w → X (ctx0 P w) c (args ++ List.replicate (fn.ntmps - args.length) undefT) [] (retQ P fn.results.toList (GivesG R))) : NewG P f args pre R := by
  intro w hw
  refine (calls_of_X (Γ := ctx0 P w) hf hb (rep0 P w fun _ => 0) ha (h w hw)).mono ?_
  rintro e w' ⟨v, H', β', ⟨L, v2, H2, hR2, hLn, rfl, hok, hsel, hcs⟩, hR, he⟩
  exact ⟨v2, H2, β' ∘ lk L, hR2, hcs, hok, rep_sel hLn hsel hcs hR, by rw [he β' (.refl _ _), TV.conc_ren]⟩
theorem xcall_newG {Γ : Ctx} {H : Heap} {f : FuncId} {args : List TV} {R : TV → Heap → Prop} {K : TV → Heap → Prop} (hc : callable Γ.P f = true)
    (h : ∀ β w, Rep Γ H β w → ∃ pre, NewG Γ.P f (args.map (TV.fz [] β)) pre R ∧ pre w) (hev : ∀ t, ¬ Γ.ev.TM t)
    (hK : ∀ v H', R v H' → K (v.ren (· + H.length)) (H ++ H'.map (AB.ren (· + H.length)))) : xcallF Γ H f args K := by
  refine xcall_gen (fun r H2 => ∃ v H', R v H' ∧ r = v.ren (· + H.length) ∧ H2 = H ++ H'.map (AB.ren (· + H.length))) hc ?_ fun r H2 ⟨v, H', hR, hr, hH⟩ => by subst hr; subst hH; exact hK v H' hR
  intro β w hR
  have e : args.map (TV.conc β) = (args.map (TV.fz [] β)).map (TV.conc fun _ => 0) := by
    rw [List.map_map]
    exact List.map_congr_left fun x _ => (TV.fz_conc (fun i j h => by simp at h) x).symm
  rw [e]
  obtain ⟨pre, h1, h2⟩ := h β w hR
  refine (h1 w h2).mono ?_
  rintro e w' ⟨v, H', β', hRv, hcs, hok, hR', he⟩
  have hbel := below_of_rep0 hR'
  have hRw := hR.ext (Ext.of_below (V := Γ.ev) (B := Γ.B) hbel)
  let β2 : Nat → Nat := fun j => if j < H.length then β j else β' (j - H.length)
  have hag : Agrees H.length β β2 := fun j hj => by simp [β2, hj]
  have hag2 : ∀ j, β2 (j + H.length) = β' j := fun j => by simp [β2, show ¬ j + H.length < H.length by omega]
  have hbig : ∀ j, j < H'.length → w.heap.size ≤ β' j := fun j hj => by
    rcases hR'.lie j hj with h1 | h1
    · exact h1
    · exact h1.elim
  have hsm : ∀ j, j < H.length → β j < w.heap.size := fun j hj => hR.lt hj
  refine ⟨v.ren (· + H.length), H ++ H'.map (AB.ren (· + H.length)), β2, ⟨v, H', hRv, rfl, rfl⟩, hag, by simp, ?_, fun β'' h'' => ?_⟩
  · refine ⟨⟨by simp; exact Nat.le_trans hR.anc.1 (Nat.le_add_right _ _), hR.anc.2.trans (hag.mono hR.anc.1)⟩, hRw.fr, fun p q hp hq hpq => ?_, fun j hj => ?_, fun j b hb => hev _, fun β'' h'' j b hb => ?_⟩
    · simp only [List.length_append, List.length_map] at hp hq
      by_cases h1 : p < H.length
      · by_cases h2 : q < H.length
        · simp only [β2, h1, h2, if_true] at hpq
          exact hR.inj p q h1 h2 hpq
        · simp only [β2, h1, h2, if_true, if_false] at hpq
          have := hsm p h1
          have := hbig (q - H.length) (by omega)
          omega
      · by_cases h2 : q < H.length
        · simp only [β2, h1, h2, if_true, if_false] at hpq
          have := hsm q h2
          have := hbig (p - H.length) (by omega)
          omega
        · simp only [β2, h1, h2, if_false] at hpq
          have := hR'.inj _ _ (by omega) (by omega) hpq
          omega
    · simp only [List.length_append, List.length_map] at hj
      by_cases h1 : j < H.length
      · simp only [β2, h1, if_true]; exact hR.lie j h1
      · simp only [β2, h1, if_false]
        exact .inl (Nat.le_trans hR.fr.size (hbig _ (by omega)))
    · by_cases h1 : j < H.length
      · rw [List.getElem?_append_left h1] at hb
        simp only [β2, h1, if_true]
        refine hRw.blk β'' (hag.trans (h''.mono (by simp))) j b hb
      · rw [List.getElem?_append_right (by omega), List.getElem?_map] at hb
        obtain ⟨b0, hb0, rfl⟩ := Option.map_eq_some_iff.1 hb
        simp only [β2, h1, if_false]
        rw [hR'.blk β' (.refl _ _) _ b0 hb0, AB.conc_ren]
        refine congrArg some (AB.conc_okk (hcs b0 (List.mem_of_getElem? hb0)) fun j hj => ?_).symm
        simp only [Function.comp_apply]
        rw [h'' (j + H.length) (by simp; omega), hag2]
  · rw [he, TV.conc_ren]
    congr 1
    refine (TV.conc_ok hok fun j hj => ?_).symm
    simp only [Function.comp_apply]
    rw [h'' (j + H.length) (by simp; omega), hag2]
theorem yF_newG {Γ : Ctx} {P : Program} {H : Heap} {f : FuncId} {args : List TV} {R : TV → Heap → Prop} {K : TV → Heap → Prop}
    (h : ∀ β w, Rep Γ H β w → ∃ pre, NewG P f (args.map (TV.fz [] β)) pre R ∧ pre w) (hP : Γ.P = P) (hc : callable P f = true) (hev : ∀ t, ¬ Γ.ev.TM t)
    (hK : ∀ v H', R v H' → K (v.ren (· + H.length)) (H ++ H'.map (AB.ren (· + H.length)))) : xcallF Γ H f args K := by
  subst hP; exact xcall_newG hc h hev hK
theorem abren_mk {ρ : Nat → Nat} {t : TypeId} {cs : List SV} : AB.ren ρ ⟨t, cs⟩ = ⟨t, cs.map (SV.ren ρ)⟩ := rfl
/-! Tryd# Code that ends with something said of the world -/
/-- From here on blocks lie outside; at the end something that is known of them is said of the world. -/
theorem XA_reb {Γ : Ctx} {A : World → Prop} {H : Heap} {T : List TV} {c : Code} {Q : QA} (V : Evo) (B : Nat) (L : List Nat) (hL : L.Nodup) (hlt : ∀ i ∈ L, i < H.length) (hn : Γ.n0 = 0) (hB : (V = Γ.ev ∧ B = Γ.B) ∨ Γ.W.heap.size ≤ B) (hTM : ∀ t, Γ.ev.TM t → V.TM t)
    (hLT : ∀ i ∈ L, ∀ b, H[i]? = some b → ¬ V.TM b.t) (h : ∀ β w, Rep Γ H β w → ∃ A' : World → Prop, Kn (Γ.after V B w β L) (fun _ w => A' w) ∧ X (Γ.after V B w β L) c (T.map (TV.fz L β)) (fzH L β H L) fun e T H => Q e T H A') : XA Γ A c T H Q := by
  intro a w ⟨β, hT, hR, hd⟩ _
  obtain ⟨A', hA', hX⟩ := h β w hR
  have hlk : ∀ i j, L[i]? = some j → lk L i = j := fun i j h => by simp [lk, List.getD_eq_getElem?_getD, h]
  refine wp_mono (hX a w ⟨β ∘ lk L, fun β'' h'' => ?_, rep_after hR hL hlt hLT, hd⟩) fun e a' w' ⟨T', H', hq, β', hT', hR', hd'⟩ => ⟨T', H', A', hq, ⟨β', hT', hR.back hlt hn hB hTM hR', hd'⟩, hA' w' hR'.fr.to⟩
  obtain ⟨h1, h2⟩ := fzH_spec (L := L) (β := β) (H := H) L hlt
  rw [hT β (.refl _ _), List.map_map]
  refine congrArg List.toArray (List.map_congr_left fun x _ => ?_)
  refine (TV.fz_conc (fun p q hpq => ?_) x).symm
  rw [h'' p (by rw [h1]; exact (List.getElem?_eq_some_iff.1 hpq).1)]
  simp only [Function.comp_apply, hlk p q hpq]
/-- A block that lies outside is one of ours again. -/
theorem Rep.add {P : Program} {w0 w : World} {H : Heap} {β : Nat → Nat} (hR : Rep (ctx0 P w0) H β w) {k : Nat} {b : AB} (hk : w0.heap.size ≤ k) (hb : ∀ x ∈ b.cs, x.ok 0) (hw : w.heap[k]? = some (b.conc β)) (hno : ∀ j, j < H.length → β j ≠ k) (hok : ∀ (j : Nat) (b : AB), H[j]? = some b → ∀ x ∈ b.cs, x.ok H.length) :
    Rep (ctx0 P w0) (H ++ [b]) (upd β H.length k) w := by
  have hsm : ∀ j, j < H.length → upd β H.length k j = β j := fun j hj => by simp [upd, Nat.ne_of_lt hj]
  refine ⟨⟨Nat.zero_le _, fun j hj => absurd hj (Nat.not_lt_zero j)⟩, hR.fr, fun p q hp hq hpq => ?_, fun j hj => ?_, fun j b hb h => h.elim, fun β'' h'' j bb hbb => ?_⟩
  · simp only [List.length_append, List.length_singleton] at hp hq
    by_cases h1 : p < H.length
    · by_cases h2 : q < H.length
      · rw [hsm p h1, hsm q h2] at hpq; exact hR.inj p q h1 h2 hpq
      · rw [hsm p h1, show q = H.length by omega, upd_same] at hpq; exact absurd hpq (hno p h1)
    · by_cases h2 : q < H.length
      · rw [hsm q h2, show p = H.length by omega, upd_same] at hpq; exact absurd hpq.symm (hno q h2)
      · omega
  · simp only [List.length_append, List.length_singleton] at hj
    by_cases h1 : j < H.length
    · rw [hsm j h1]; exact hR.lie j h1
    · rw [show j = H.length by omega, upd_same]; exact .inl hk
  · by_cases h1 : j < H.length
    · rw [List.getElem?_append_left h1] at hbb
      rw [hsm j h1]
      refine hR.blk β'' (fun i hi => ?_) j bb hbb
      rw [h'' i (by simp; omega), hsm i hi]
    · rw [List.getElem?_append_right (by omega)] at hbb
      cases hz : j - H.length with
      | zero =>
        rw [hz] at hbb
        simp only [List.getElem?_cons_zero, Option.some.injEq] at hbb
        subst hbb
        rw [show j = H.length by omega, upd_same, hw]
        exact congrArg some (AB.conc_okk hb fun j hj => absurd hj (Nat.not_lt_zero j)).symm
      | succ n => rw [hz] at hbb; simp at hbb
end Go.Ab
namespace Go.Ab
open Go Go.RowKit
set_option linter.unusedSimpArgs false
set_option linter.unusedVariables false

theorem kn_law {P : Program} {w0 w : World} {H : Heap} {β : Nat → Nat} {L : List Nat} {V : Evo} {p : Nat → World → Prop} (hR : Rep (ctx0 P w0) H β w) (hlt : ∀ i ∈ L, i < H.length) (hs : Stays V p) (hp : p w0.heap.size w0) :
    Kn ((ctx0 P w0).after V w0.heap.size w β L) p := by
  intro w' h
  obtain ⟨h1, h2, h3, h4, h5⟩ := FrP.back hR hlt (.inr (Nat.le_refl _)) h
  exact hs _ w0 w' hp ⟨h1, h2, h3, h4, fun k hk => .inl (by
    rcases h5 k hk with h6 | h6 | ⟨_, _, _, _, _, h6⟩
    · exact h6.elim
    · exact h6
    · exact h6.elim)⟩
theorem X_modM {P : Program} {w0 : World} {c : Code} {T : List TV} {H : Heap} {Q : QX} {T0 m : Nat} {bb : Bool} (j : Nat) (L : List Nat) (hb : H[j]? = some ⟨T0, modS m bb⟩) (hL : L.Nodup) (hLj : j ∉ L) (hG : OddM m) (hlt : ∀ i ∈ L, i < H.length)
    (hLT : ∀ b ∈ pickH H L, b.t ≠ T0)
    (h : ∀ β w, Kn ((ctx0 P w0).after (modEvo T0) w0.heap.size w β L) (isMod T0 (β j) m) → (∀ p, Stays (modEvo T0) p → p w0.heap.size w0 → Kn ((ctx0 P w0).after (modEvo T0) w0.heap.size w β L) p) →
      X ((ctx0 P w0).after (modEvo T0) w0.heap.size w β L) c (T.map (TV.fz L β)) (fzH L β H L) Q) : X (ctx0 P w0) c T H Q := by
  refine X_rebase (modEvo T0) w0.heap.size L hL hlt rfl (.inr (Nat.le_refl _)) (fun _ h => h.elim) (fun i hi b hb => ?_) fun β w hR => h β w ?_ fun p hs hp => kn_law hR hlt hs hp
  · refine hLT b ?_
    clear h hLT hL hLj hlt
    induction L with
    | nil => cases hi
    | cons i' r ih =>
      rw [pickH_cons]
      rcases List.mem_cons.1 hi with h1 | h1
      · subst h1; rw [hb, consH_some]; exact List.mem_cons_self ..
      · have h2 := ih h1
        cases h3 : H[i']? with
        | none => exact h2
        | some b' => exact List.mem_cons_of_mem _ h2
  · exact isMod_gone hR hb hLj hlt hG (new_lie hR (fun _ h => h) (List.getElem?_eq_some_iff.1 hb).1)
/-- Four numbers. -/
def four (a b c d : Nat) (i : Nat) : Nat := if i = 0 then a else if i = 1 then b else if i = 2 then c else d
end Go.Ab
namespace Go.Ab
open Go Go.RowKit
set_option linter.unusedSimpArgs false
set_option linter.unusedVariables false

/-- A row of cells that is known. -/
theorem xext_cells {Γ : Ctx} {V : Evo} {ad : Addr} {n k q : Nat} {g : Nat → Value} (h : Kn Γ (cellsAt V ad n g)) (hk : k + q ≤ n) {K : TV → HE → Prop} : xext Γ (some true) q (ad.add k) K = K (.agg ((List.range q).map fun i => .v (g (k + i)))) .none := by
  have hs := h.spot
  obtain ⟨b, o, s⟩ := ad
  simp only at hs
  subst hs
  rw [addr_add]
  have hc : ∀ i, i < q → extCell Γ ⟨b, o + k + i, none⟩ (g (k + i)) := fun i hi => by
    have h3 := h.cell (i := k + i) (by omega)
    rw [addr_add, ← Nat.add_assoc] at h3
    exact h3
  simp only [xext, eq_iff_iff]
  have e : ∀ l : List Value, l.length = q → (∀ i x, l[i]? = some x → extCell Γ ⟨b, o + k + i, none⟩ x) → l = (List.range q).map fun i => g (k + i) := by
    intro l hl hc'
    refine List.ext_getElem? fun i => ?_
    by_cases hi : i < q
    · have h1 := hc' i l[i] (List.getElem?_eq_getElem (by omega))
      rw [List.getElem?_eq_getElem (by omega), extCell_fun h1 (hc i hi), List.getElem?_map, List.getElem?_range hi]
      rfl
    · rw [List.getElem?_eq_none (by omega), List.getElem?_eq_none (by simp; omega)]
  constructor
  · rintro ⟨l, hl, _, hc', hK⟩
    rw [e l hl hc', List.map_map] at hK
    exact hK
  · intro hK
    refine ⟨(List.range q).map fun i => g (k + i), by simp, trivial, fun i x hx => ?_, by rw [List.map_map]; exact hK⟩
    simp only [List.getElem?_map, Option.map_eq_some_iff] at hx
    obtain ⟨a, ha, rfl⟩ := hx
    have hi : i < q := by
      have := (List.getElem?_eq_some_iff.1 ha).1
      simpa using this
    rw [List.getElem?_range hi] at ha
    injection ha with ha
    subst ha
    exact hc i hi
theorem add_add {ad : Addr} (hs : ad.spot = none) (i j : Nat) : (ad.add i).add j = ad.add (i + j) := by
  obtain ⟨b, o, s⟩ := ad
  simp only at hs
  subst hs
  rw [addr_add, addr_add, addr_add, Nat.add_assoc]
/-! Tryd# Factors -/
/-- A factor. -/
def fac (p : Nat) (e : Int) : List SV := nat4 p ++ [.v (.int .i64 e)]
section
variable {p : Nat} {e : Int}
theorem fac_length : (fac p e).length = 5 := rfl
theorem fac_okk {m : Nat} : (∀ x ∈ fac p e, x.ok m) = True := eq_true fun x hx => by
  rcases List.mem_append.1 hx with h | h
  · exact arr_ok m x h
  · simp only [List.mem_singleton] at h; subst h; trivial
theorem fac_one : oneAll (fac p e) = True := eq_true fun x hx => by
  rcases List.mem_append.1 hx with h | h
  · have : oneAll (nat4 p) := by rw [nat4_one]; trivial
    exact this x h
  · simp only [List.mem_singleton] at h; subst h; rfl
theorem fac_fst : List.take 4 (fac p e) = nat4 p := rfl
theorem fac_snd : (fac p e)[4]? = some (.v (.int .i64 e)) := rfl
theorem fac_splice {l : List SV} (h : l.length = 5) : splice l 0 (fac p e) = fac p e := splice_all (by rw [h]; rfl) (by rw [fac_length]; decide)
end
def facG (P : Nat → Nat) (E : Nat → Int) (j : Nat) : Value := if j % 5 < 4 then .int .u64 (wd (P (j / 5)) (j % 5) : Int) else .int .i64 (E (j / 5))
/-- n factors at an address (none, if there are none). -/
def facsAt (V : Evo) (x : Option Addr) (n : Nat) (P : Nat → Nat) (E : Nat → Int) : Nat → World → Prop := fun B w => n = 0 ∨ ∃ ad, x = some ad ∧ cellsAt V ad (5 * n) (facG P E) B w
theorem facsAt_stays (V : Evo) (x : Option Addr) (n : Nat) (P : Nat → Nat) (E : Nat → Int) : Stays V (facsAt V x n P E) := by
  rintro B w w' (h | ⟨ad, hx, h⟩) he
  · exact .inl h
  · exact .inr ⟨ad, hx, cellsAt_stays V ad _ _ B w w' h he⟩
/-- They lie there. -/
def facs (x : Option Addr) (n : Nat) (P : Nat → Nat) (E : Nat → Int) (w : World) : Prop := n = 0 ∨ ∃ ad, x = some ad ∧ ad.spot = none ∧ ∃ c t f, w.heap[ad.block]? = some (.cells c t f) ∧ ∀ i, i < 5 * n → c[ad.off + i]? = some (facG P E i)
theorem facs_at {x : Option Addr} {n : Nat} {P : Nat → Nat} {E : Nat → Int} {w : World} (V : Evo) (h : facs x n P E w) : facsAt V x n P E w.heap.size w := by
  rcases h with h | ⟨ad, hx, hs, c, t, f, hk, hc⟩
  · exact .inl h
  · exact .inr ⟨ad, hx, hs, c, t, f, hk, .inl (Array.getElem?_eq_some_iff.1 hk).1, hc⟩
theorem facs_of {x : Option Addr} {n : Nat} {P : Nat → Nat} {E : Nat → Int} {w : World} {V : Evo} {B : Nat} (h : facsAt V x n P E B w) : facs x n P E w := by
  rcases h with h | ⟨ad, hx, hs, c, t, f, hk, _, hc⟩
  · exact .inl h
  · exact .inr ⟨ad, hx, hs, c, t, f, hk, hc⟩
/-- What is so when a function of values begins stays so in it. -/
theorem kn0_law {P : Program} {w : World} {V : Evo} {p : Nat → World → Prop} (hs : Stays V p) (hp : p w.heap.size w) : Kn (ctx0 P w) p := by
  intro w' ⟨h1, h2, h3, h4, h5⟩
  exact hs _ w w' hp ⟨h1, h2, h3, h4, fun k hk => .inl (by
    rcases h5 k hk with h6 | h6 | ⟨_, _, _, _, _, h6⟩
    · exact h6.elim
    · exact h6
    · exact h6.elim)⟩
theorem facs_kn {P0 : Program} {w : World} {x : Option Addr} {n : Nat} {P : Nat → Nat} {E : Nat → Int} (h : facs x n P E w) : Kn (ctx0 P0 w) (facsAt Evo.none x n P E) := kn0_law (facsAt_stays Evo.none x n P E) (facs_at _ h)
theorem Kn.facs0 {Γ : Ctx} {V : Evo} {x : Option Addr} {n : Nat} {P : Nat → Nat} {E : Nat → Int} (h : Kn Γ (facsAt V x n P E)) : Kn Γ fun _ w => Ab.facs x n P E w := fun w hw => facs_of (h w hw)
section
variable {Γ : Ctx} {V : Evo} {ad : Addr} {n i : Nat} {P : Nat → Nat} {E : Nat → Int}
theorem Kn.facs (h : Kn Γ (facsAt V (some ad) n P E)) (hi : i < n) : Kn Γ (cellsAt V ad (5 * n) (facG P E)) := fun w hw => by
  rcases h w hw with h1 | ⟨ad', hx, h1⟩
  · omega
  · injection hx with hx
    subst hx
    exact h1
theorem facG_p {k : Nat} (hk : k < 4) : facG P E (i * 5 + k) = .int .u64 (wd (P i) k : Int) := by
  unfold facG
  rw [show (i * 5 + k) % 5 = k by omega, show (i * 5 + k) / 5 = i by omega, if_pos hk]
theorem facG_e : facG P E (i * 5 + 4) = .int .i64 (E i) := by
  unfold facG
  rw [show (i * 5 + 4) % 5 = 4 by omega, show (i * 5 + 4) / 5 = i by omega, if_neg (by decide)]
theorem map_facG_p : ((List.range 4).map fun k => SV.v (facG P E (i * 5 + k))) = nat4 (P i) := by
  unfold nat4 arr
  refine List.map_congr_left fun k hk => ?_
  rw [List.mem_range] at hk
  rw [facG_p hk]
theorem map_facG : ((List.range 5).map fun k => SV.v (facG P E (i * 5 + k))) = fac (P i) (E i) := by
  rw [List.range_succ, List.map_append, map_facG_p, List.map_singleton, facG_e]
  rfl
/-- A factor out of a row that is known; its number; how often it stands. -/
theorem Kn.fac (h : Kn Γ (facsAt V (some ad) n P E)) (hi : i < n) {K : TV → HE → Prop} : xext Γ (some true) 5 (ad.add (i * 5)) K = K (.agg (Ab.fac (P i) (E i))) .none := by
  rw [xext_cells (h.facs hi) (by omega), map_facG]
theorem Kn.facP (h : Kn Γ (facsAt V (some ad) n P E)) (hi : i < n) {K : TV → HE → Prop} : xext Γ (some true) 4 (ad.add (i * 5)) K = K (.agg (nat4 (P i))) .none := by
  rw [xext_cells (h.facs hi) (by omega), map_facG_p]
theorem Kn.facE (h : Kn Γ (facsAt V (some ad) n P E)) (hi : i < n) {q : Nat} {K : TV → HE → Prop} : xext Γ (some false) q ((ad.add (i * 5)).add 4) K = K (.s (.v (.int .i64 (E i)))) .none := by
  have h2 := h.facs hi
  rw [add_add h2.spot, xext_eq (h2.cell (by omega)), facG_e]
end
/-! Tryd# Proofs -/
/-- A proof that a number is prime: the number, what tells it, and factors. -/
structure Pf where
  N : Nat
  G : Nat
  y : Option Addr
  n : Nat
  c : Nat
  P : Nat → Nat
  E : Nat → Int
/-- As cells. -/
def prf (N G : Nat) (s : SV) : List SV := nat4 N ++ (nat4 G ++ [s])
section
variable {N G : Nat} {s : SV}
theorem prf_length : (prf N G s).length = 9 := rfl
theorem prf_okk {m : Nat} : (∀ x ∈ prf N G s, x.ok m) = s.ok m := by
  refine propext ⟨fun h => h s (List.mem_append_right _ (List.mem_append_right _ (List.mem_singleton_self s))), fun h x hx => ?_⟩
  rcases List.mem_append.1 hx with h1 | h1
  · exact arr_ok m x h1
  · rcases List.mem_append.1 h1 with h1 | h1
    · exact arr_ok m x h1
    · simp only [List.mem_singleton] at h1; subst h1; exact h
theorem prf_one : oneAll (prf N G s) = (s.one = true) := by
  refine propext ⟨fun h => h s (List.mem_append_right _ (List.mem_append_right _ (List.mem_singleton_self s))), fun h x hx => ?_⟩
  have h4 : ∀ q, oneAll (nat4 q) := fun q => by rw [nat4_one]; trivial
  rcases List.mem_append.1 hx with h1 | h1
  · exact h4 N x h1
  · rcases List.mem_append.1 h1 with h1 | h1
    · exact h4 G x h1
    · simp only [List.mem_singleton] at h1; subst h1; exact h
theorem prf_fst : List.take 4 (prf N G s) = nat4 N := rfl
theorem prf_snd : List.take 4 (List.drop 4 (prf N G s)) = nat4 G := rfl
theorem prf_thd : (prf N G s)[8]? = some s := rfl
theorem prf_splice {l : List SV} (h : l.length = 9) : splice l 0 (prf N G s) = prf N G s := splice_all (by rw [h]; rfl) (by rw [prf_length]; decide)
theorem fz_prf {L : List Nat} {β : Nat → Nat} : (prf N G s).map (SV.fz L β) = prf N G (s.fz L β) := rfl
end
def prfG (l : Nat → Pf) (j : Nat) : Value := if j % 9 < 4 then .int .u64 (wd (l (j / 9)).N (j % 9) : Int) else if j % 9 < 8 then .int .u64 (wd (l (j / 9)).G (j % 9 - 4) : Int) else .slice (l (j / 9)).y (l (j / 9)).n (l (j / 9)).c
/-- m proofs at an address (none, if there are none), with their factors. -/
def prfAt (V : Evo) (x : Option Addr) (m : Nat) (l : Nat → Pf) : Nat → World → Prop := fun B w => (m = 0 ∨ ∃ ad, x = some ad ∧ cellsAt V ad (9 * m) (prfG l) B w) ∧ ∀ i, i < m → facsAt V (l i).y (l i).n (l i).P (l i).E B w
theorem prfAt_stays (V : Evo) (x : Option Addr) (m : Nat) (l : Nat → Pf) : Stays V (prfAt V x m l) := by
  rintro B w w' ⟨h, hf⟩ he
  refine ⟨?_, fun i hi => facsAt_stays V _ _ _ _ B w w' (hf i hi) he⟩
  rcases h with h | ⟨ad, hx, h⟩
  · exact .inl h
  · exact .inr ⟨ad, hx, cellsAt_stays V ad _ _ B w w' h he⟩
/-- They lie there. -/
def prfs (x : Option Addr) (m : Nat) (l : Nat → Pf) (w : World) : Prop := (m = 0 ∨ ∃ ad, x = some ad ∧ ad.spot = none ∧ ∃ c t f, w.heap[ad.block]? = some (.cells c t f) ∧ ∀ i, i < 9 * m → c[ad.off + i]? = some (prfG l i)) ∧ ∀ i, i < m → facs (l i).y (l i).n (l i).P (l i).E w
theorem prfs_at {x : Option Addr} {m : Nat} {l : Nat → Pf} {w : World} (V : Evo) (h : prfs x m l w) : prfAt V x m l w.heap.size w := by
  refine ⟨?_, fun i hi => facs_at V (h.2 i hi)⟩
  rcases h.1 with h | ⟨ad, hx, hs, c, t, f, hk, hc⟩
  · exact .inl h
  · exact .inr ⟨ad, hx, hs, c, t, f, hk, .inl (Array.getElem?_eq_some_iff.1 hk).1, hc⟩
theorem prfs_of {x : Option Addr} {m : Nat} {l : Nat → Pf} {w : World} {V : Evo} {B : Nat} (h : prfAt V x m l B w) : prfs x m l w := by
  refine ⟨?_, fun i hi => facs_of (h.2 i hi)⟩
  rcases h.1 with h | ⟨ad, hx, hs, c, t, f, hk, _, hc⟩
  · exact .inl h
  · exact .inr ⟨ad, hx, hs, c, t, f, hk, hc⟩
theorem prfs_kn {P0 : Program} {w : World} {x : Option Addr} {m : Nat} {l : Nat → Pf} (h : prfs x m l w) : Kn (ctx0 P0 w) (prfAt Evo.none x m l) := kn0_law (prfAt_stays Evo.none x m l) (prfs_at _ h)
theorem Kn.prfs0 {Γ : Ctx} {V : Evo} {x : Option Addr} {m : Nat} {l : Nat → Pf} (h : Kn Γ (prfAt V x m l)) : Kn Γ fun _ w => Ab.prfs x m l w := fun w hw => prfs_of (h w hw)
/-- A package's number, where it lies. -/
def gnat (k v : Nat) (w : World) : Prop := ∃ c t f, w.heap[k]? = some (.cells c t f) ∧ ∀ i, i < 4 → c[i]? = some (natsG (fun _ => v) i)
theorem gnat_at {k v : Nat} {w : World} (V : Evo) (h : gnat k v w) : natsAt V (some ⟨k, 0, none⟩) 1 (fun _ => v) w.heap.size w := by
  obtain ⟨c, t, f, hk, hc⟩ := h
  exact .inr ⟨_, rfl, rfl, c, t, f, hk, .inl (Array.getElem?_eq_some_iff.1 hk).1, fun i hi => by rw [Nat.zero_add]; exact hc i hi⟩
theorem gnat_of {k v : Nat} {w : World} {V : Evo} {B : Nat} (h : natsAt V (some ⟨k, 0, none⟩) 1 (fun _ => v) B w) : gnat k v w := by
  rcases h with h | ⟨ad, hx, _, c, t, f, hk, _, hc⟩
  · cases h
  · injection hx with hx
    subst hx
    exact ⟨c, t, f, hk, fun i hi => by have := hc i hi; rwa [Nat.zero_add] at this⟩
theorem gnat_kn {k v : Nat} {P0 : Program} {w : World} (h : gnat k v w) : Kn (ctx0 P0 w) (natsAt Evo.none (some ⟨k, 0, none⟩) 1 fun _ => v) := kn0_law (natsAt_stays Evo.none _ _ _) (gnat_at _ h)
theorem Kn.gnat0 {k v : Nat} {Γ : Ctx} {V : Evo} (h : Kn Γ (natsAt V (some ⟨k, 0, none⟩) 1 fun _ => v)) : Kn Γ fun _ w => gnat k v w := fun w hw => gnat_of (h w hw)
theorem Kn.gnat {k v : Nat} {Γ : Ctx} {V : Evo} (h : Kn Γ (natsAt V (some ⟨k, 0, none⟩) 1 fun _ => v)) {K : TV → HE → Prop} : xext Γ (some true) 4 ⟨k, 0, none⟩ K = K (.agg (nat4 v)) .none := h.nat (i := 0) (by decide)
/-- The least prime, where it lies. -/
def least (w : World) : Prop := gnat 3 2 w
theorem least_at {w : World} (V : Evo) (h : least w) : natsAt V (some ⟨3, 0, none⟩) 1 (fun _ => 2) w.heap.size w := gnat_at V h
theorem least_of {w : World} {V : Evo} {B : Nat} (h : natsAt V (some ⟨3, 0, none⟩) 1 (fun _ => 2) B w) : least w := gnat_of h
theorem least_kn {P0 : Program} {w : World} (h : least w) : Kn (ctx0 P0 w) (natsAt Evo.none (some ⟨3, 0, none⟩) 1 fun _ => 2) := gnat_kn h
theorem Kn.least0 {Γ : Ctx} {V : Evo} (h : Kn Γ (natsAt V (some ⟨3, 0, none⟩) 1 fun _ => 2)) : Kn Γ fun _ w => Ab.least w := fun w hw => least_of (h w hw)
theorem Kn.least {Γ : Ctx} {V : Evo} (h : Kn Γ (natsAt V (some ⟨3, 0, none⟩) 1 fun _ => 2)) {K : TV → HE → Prop} : xext Γ (some true) 4 ⟨3, 0, none⟩ K = K (.agg (nat4 2)) .none := h.gnat
section
variable {Γ : Ctx} {V : Evo} {ad : Addr} {n i : Nat} {l : Nat → Pf}
theorem Kn.prfs (h : Kn Γ (prfAt V (some ad) n l)) (hi : i < n) : Kn Γ (cellsAt V ad (9 * n) (prfG l)) := fun w hw => by
  rcases (h w hw).1 with h1 | ⟨ad', hx, h1⟩
  · omega
  · injection hx with hx
    subst hx
    exact h1
theorem Kn.prfF {x : Option Addr} (h : Kn Γ (prfAt V x n l)) (hi : i < n) : Kn Γ (facsAt V (l i).y (l i).n (l i).P (l i).E) := fun w hw => (h w hw).2 i hi
theorem prfG_n {k : Nat} (hk : k < 4) : prfG l (i * 9 + k) = .int .u64 (wd (l i).N k : Int) := by
  unfold prfG
  rw [show (i * 9 + k) % 9 = k by omega, show (i * 9 + k) / 9 = i by omega, if_pos hk]
theorem prfG_g {k : Nat} (hk : k < 4) : prfG l (i * 9 + 4 + k) = .int .u64 (wd (l i).G k : Int) := by
  unfold prfG
  rw [show (i * 9 + 4 + k) % 9 = 4 + k by omega, show (i * 9 + 4 + k) / 9 = i by omega, if_neg (by omega), if_pos (by omega), Nat.add_sub_cancel_left]
theorem prfG_s : prfG l (i * 9 + 8) = .slice (l i).y (l i).n (l i).c := by
  unfold prfG
  rw [show (i * 9 + 8) % 9 = 8 by omega, show (i * 9 + 8) / 9 = i by omega, if_neg (by decide), if_neg (by decide)]
theorem map_prfG_n : ((List.range 4).map fun k => SV.v (prfG l (i * 9 + k))) = nat4 (l i).N := by
  unfold nat4 arr
  refine List.map_congr_left fun k hk => ?_
  rw [List.mem_range] at hk
  rw [prfG_n hk]
theorem map_prfG_g : ((List.range 4).map fun k => SV.v (prfG l (i * 9 + 4 + k))) = nat4 (l i).G := by
  unfold nat4 arr
  refine List.map_congr_left fun k hk => ?_
  rw [List.mem_range] at hk
  rw [prfG_g hk]
theorem map_prfG : ((List.range 9).map fun k => SV.v (prfG l (i * 9 + k))) = prf (l i).N (l i).G (.v (.slice (l i).y (l i).n (l i).c)) := by
  have h : (List.range 9).map (fun k => SV.v (prfG l (i * 9 + k))) = (List.range 4).map (fun k => SV.v (prfG l (i * 9 + k))) ++ ((List.range 4).map (fun k => SV.v (prfG l (i * 9 + 4 + k))) ++ [SV.v (prfG l (i * 9 + 8))]) := rfl
  rw [h, map_prfG_n, map_prfG_g, prfG_s]
  rfl
/-- A proof out of a row that is known; its number; what tells it; its factors. -/
theorem Kn.prf (h : Kn Γ (prfAt V (some ad) n l)) (hi : i < n) {K : TV → HE → Prop} : xext Γ (some true) 9 (ad.add (i * 9)) K = K (.agg (Ab.prf (l i).N (l i).G (.v (.slice (l i).y (l i).n (l i).c)))) .none := by
  rw [xext_cells (h.prfs hi) (by omega), map_prfG]
theorem Kn.prfN (h : Kn Γ (prfAt V (some ad) n l)) (hi : i < n) {K : TV → HE → Prop} : xext Γ (some true) 4 (ad.add (i * 9)) K = K (.agg (nat4 (l i).N)) .none := by
  rw [xext_cells (h.prfs hi) (by omega), map_prfG_n]
theorem Kn.prfS (h : Kn Γ (prfAt V (some ad) n l)) (hi : i < n) {q : Nat} {K : TV → HE → Prop} : xext Γ (some false) q ((ad.add (i * 9)).add 8) K = K (.s (.v (.slice (l i).y (l i).n (l i).c))) .none := by
  have h2 := h.prfs hi
  rw [add_add h2.spot, xext_eq (h2.cell (by omega)), prfG_s]
end
end Go.Ab
namespace Go.Ab
open Go Go.RowKit
set_option linter.unusedSimpArgs false
set_option linter.unusedVariables false

/-- Parameters, as cells. -/
def prms (P Q G : Nat) : List SV := nat4 P ++ (nat4 Q ++ nat4 G)
section
variable {P Q G : Nat}
theorem prms_length : (prms P Q G).length = 12 := rfl
theorem prms_okk {m : Nat} : (∀ x ∈ prms P Q G, x.ok m) = True := eq_true fun x hx => by
  rcases List.mem_append.1 hx with h | h
  · exact arr_ok m x h
  · rcases List.mem_append.1 h with h | h <;> exact arr_ok m x h
theorem prms_one : oneAll (prms P Q G) = True := eq_true fun x hx => by
  have h4 : ∀ q, oneAll (nat4 q) := fun q => by rw [nat4_one]; trivial
  rcases List.mem_append.1 hx with h | h
  · exact h4 P x h
  · rcases List.mem_append.1 h with h | h
    · exact h4 Q x h
    · exact h4 G x h
theorem prms_fst : List.take 4 (prms P Q G) = nat4 P := rfl
theorem prms_snd : List.take 4 (List.drop 4 (prms P Q G)) = nat4 Q := rfl
theorem prms_thd : List.take 4 (List.drop 8 (prms P Q G)) = nat4 G := rfl
theorem prms_low : (prms P Q G)[0]? = some (.v (.int .u64 (wd P 0 : Int))) := rfl
theorem prms_lowq : (prms P Q G)[4]? = some (.v (.int .u64 (wd Q 0 : Int))) := rfl
theorem prms_splice {l : List SV} (h : l.length = 12) : splice l 0 (prms P Q G) = prms P Q G := splice_all (by rw [h]; rfl) (by rw [prms_length]; decide)
theorem fz_prms {L : List Nat} {β : Nat → Nat} : (prms P Q G).map (SV.fz L β) = prms P Q G := rfl
theorem ren_prms {ρ : Nat → Nat} : TV.ren ρ (.agg (prms P Q G)) = .agg (prms P Q G) := rfl
theorem avren_prms {ρ : Nat → Nat} : AV.ren ρ (.agg (prms P Q G)) = .agg (prms P Q G) := rfl
end
/-- A group, as cells. -/
def grpc (P Q G : Nat) (x q : SV) : List SV := prms P Q G ++ [x, q]
section
variable {P Q G : Nat} {x q : SV}
theorem grpc_length : (grpc P Q G x q).length = 14 := rfl
theorem grpc_okk {m : Nat} : (∀ y ∈ grpc P Q G x q, y.ok m) = (x.ok m ∧ q.ok m) := by
  refine propext ⟨fun h => ⟨h x (List.mem_append_right _ (by simp)), h q (List.mem_append_right _ (by simp))⟩, fun ⟨h1, h2⟩ y hy => ?_⟩
  rcases List.mem_append.1 hy with h | h
  · have h3 : ∀ x ∈ prms P Q G, x.ok m := by rw [prms_okk]; trivial
    exact h3 y h
  · simp only [List.mem_cons, List.not_mem_nil, or_false] at h
    rcases h with rfl | rfl <;> assumption
theorem fz_grpc {L : List Nat} {β : Nat → Nat} : (grpc P Q G x q).map (SV.fz L β) = grpc P Q G (x.fz L β) (q.fz L β) := rfl
theorem ren_grpc {ρ : Nat → Nat} : (grpc P Q G x q).map (SV.ren ρ) = grpc P Q G (x.ren ρ) (q.ren ρ) := rfl
end
def grpG (P Q G kx kq : Nat) (j : Nat) : Value :=
  if j < 4 then .int .u64 (wd P j : Int) else if j < 8 then .int .u64 (wd Q (j - 4) : Int) else if j < 12 then .int .u64 (wd G (j - 8) : Int) else if j < 13 then .pointer (some ⟨kx, 0, none⟩) else .pointer (some ⟨kq, 0, none⟩)
/-- Block k is a group. -/
def isGrp (T k kx kq P Q G : Nat) : Nat → World → Prop := fun B w => cellsAt (modEvo T) ⟨k, 0, none⟩ 14 (grpG P Q G kx kq) B w ∧ isMod T kx P B w ∧ isMod T kq Q B w
theorem isGrp_stays (T k kx kq P Q G : Nat) : Stays (modEvo T) (isGrp T k kx kq P Q G) :=
  (cellsAt_stays (modEvo T) ⟨k, 0, none⟩ 14 (grpG P Q G kx kq)).and ((isMod_stays T kx P).and (isMod_stays T kq Q))
section
variable {Γ : Ctx} {T k kx kq P Q G : Nat} {K : TV → HE → Prop}
theorem Kn.gmx (h : Kn Γ (isGrp T k kx kq P Q G)) : Kn Γ (isMod T kx P) := fun w hw => (h w hw).2.1
theorem Kn.gmq (h : Kn Γ (isGrp T k kx kq P Q G)) : Kn Γ (isMod T kq Q) := fun w hw => (h w hw).2.2
theorem Kn.gcs (h : Kn Γ (isGrp T k kx kq P Q G)) : Kn Γ (cellsAt (modEvo T) ⟨k, 0, none⟩ 14 (grpG P Q G kx kq)) := fun w hw => (h w hw).1
theorem Kn.gP (h : Kn Γ (isGrp T k kx kq P Q G)) : xext Γ (some true) 4 ⟨k, 0, none⟩ K = K (.agg (nat4 P)) .none := by
  have h1 := xext_cells (K := K) h.gcs (k := 0) (q := 4) (by decide)
  rw [addr_add] at h1
  exact h1
theorem Kn.gQ (h : Kn Γ (isGrp T k kx kq P Q G)) : xext Γ (some true) 4 ⟨k, 4, none⟩ K = K (.agg (nat4 Q)) .none := by
  have h1 := xext_cells (K := K) h.gcs (k := 4) (q := 4) (by decide)
  rw [addr_add] at h1
  exact h1
theorem Kn.gG (h : Kn Γ (isGrp T k kx kq P Q G)) : xext Γ (some true) 4 ⟨k, 8, none⟩ K = K (.agg (nat4 G)) .none := by
  have h1 := xext_cells (K := K) h.gcs (k := 8) (q := 4) (by decide)
  rw [addr_add] at h1
  exact h1
theorem Kn.gp (h : Kn Γ (isGrp T k kx kq P Q G)) : xext Γ (some true) 12 ⟨k, 0, none⟩ K = K (.agg (prms P Q G)) .none := by
  have h1 := xext_cells (K := K) h.gcs (k := 0) (q := 12) (by decide)
  rw [addr_add] at h1
  exact h1
theorem Kn.gx (h : Kn Γ (isGrp T k kx kq P Q G)) {q : Nat} : xext Γ (some false) q ⟨k, 12, none⟩ K = K (.s (.v (.pointer (some ⟨kx, 0, none⟩)))) .none := by
  have h1 := h.gcs.cell (i := 12) (by decide)
  rw [addr_add] at h1
  exact xext_eq h1
theorem Kn.gq (h : Kn Γ (isGrp T k kx kq P Q G)) {q : Nat} : xext Γ (some false) q ⟨k, 13, none⟩ K = K (.s (.v (.pointer (some ⟨kq, 0, none⟩)))) .none := by
  have h1 := h.gcs.cell (i := 13) (by decide)
  rw [addr_add] at h1
  exact xext_eq h1
theorem Kn.gOdd (h : Kn Γ (isGrp T k kx kq P Q G)) : OddM P ∧ OddM Q := ⟨(h _ (FrP.now Γ)).2.1.1, (h _ (FrP.now Γ)).2.2.1⟩
end
/-- A cell of one value, where it lies. -/
def cellAt (V : Evo) (k : Nat) (v : Value) : Nat → World → Prop := cellsAt V ⟨k, 0, none⟩ 1 fun _ => v
theorem cellAt_stays (V : Evo) (k : Nat) (v : Value) : Stays V (cellAt V k v) := cellsAt_stays V _ _ _
theorem Kn.cell1 {Γ : Ctx} {V : Evo} {k : Nat} {v : Value} (h : Kn Γ (cellAt V k v)) {q : Nat} {K : TV → HE → Prop} : xext Γ (some false) q ⟨k, 0, none⟩ K = K (.s (.v v)) .none := by
  have h1 := Kn.cell (ad := ⟨k, 0, none⟩) h (i := 0) (by decide)
  rw [addr_add] at h1
  exact xext_eq h1
/-- A block of ours of values that is let go. -/
theorem cellsAt_gone {Γ : Ctx} {V : Evo} {B n : Nat} {g : Nat → Value} {cs : List SV} {e : Nat} {H : Heap} {β : Nat → Nat} {w : World} {L : List Nat} {j : Nat} (hR : Rep Γ H β w) (hb : H[j]? = some ⟨e, cs⟩) (hj : j ∉ L) (hlt : ∀ i ∈ L, i < H.length) (he : ¬ V.TM e)
    (hcs : ∀ i, i < n → (cs[i]?).map (SV.conc β) = some (g i)) : Kn (Γ.after V B w β L) (cellsAt V ⟨β j, 0, none⟩ n g) := by
  intro w' h
  refine ⟨rfl, ?_⟩
  rcases gone hR hb hj hlt h with h1 | ⟨_, o, _, h3⟩
  · refine ⟨_, _, _, h1, .inr he, fun i hi => ?_⟩
    rw [Nat.zero_add, List.getElem?_toArray, List.getElem?_map, hcs i hi]
  · exfalso
    obtain ⟨c', t', f', he', hT⟩ := V.ofE _ _ h3
    unfold AB.conc at he'
    injection he' with _ he' _
    rw [← he'] at hT
    exact he hT
/-- A group that was made is let go. -/
theorem isGrp_gone {Γ : Ctx} {T T1 B P Q G : Nat} {bx bq : Bool} {H : Heap} {β : Nat → Nat} {w : World} {L : List Nat} {j jx jq : Nat} (hR : Rep Γ H β w) (hb : H[j]? = some ⟨T1, grpc P Q G (.p jx 0) (.p jq 0)⟩) (hbx : H[jx]? = some ⟨T, modS P bx⟩) (hbq : H[jq]? = some ⟨T, modS Q bq⟩)
    (hj : j ∉ L) (hjx : jx ∉ L) (hjq : jq ∉ L) (hlt : ∀ i ∈ L, i < H.length) (hT : T1 ≠ T) (hP : OddM P) (hQ : OddM Q) (hBx : B ≤ β jx) (hBq : B ≤ β jq) : Kn (Γ.after (modEvo T) B w β L) (isGrp T (β j) (β jx) (β jq) P Q G) := by
  have h1 : Kn (Γ.after (modEvo T) B w β L) (cellsAt (modEvo T) ⟨β j, 0, none⟩ 14 (grpG P Q G (β jx) (β jq))) := cellsAt_gone hR hb hj hlt hT fun i hi => by
    rcases i with _ | _ | _ | _ | _ | _ | _ | _ | _ | _ | _ | _ | _ | _ | i
    all_goals first | rfl | omega
  have h2 := isMod_gone hR hbx hjx hlt hP hBx
  have h3 := isMod_gone hR hbq hjq hlt hQ hBq
  exact fun w' h => ⟨h1 w' h, h2 w' h, h3 w' h⟩
/-- FROM HERE ON a group that was made is known; the blocks of L are kept. -/
theorem X_grp {P0 : Program} {w0 : World} {c : Code} {S : List TV} {H : Heap} {Qx : QX} {T T1 P Q G : Nat} {bx bq : Bool} (j jx jq : Nat) (L : List Nat) (hb : H[j]? = some ⟨T1, grpc P Q G (.p jx 0) (.p jq 0)⟩) (hbx : H[jx]? = some ⟨T, modS P bx⟩) (hbq : H[jq]? = some ⟨T, modS Q bq⟩)
    (hP : OddM P) (hQ : OddM Q) (hT : T1 ≠ T) (hL : L.Nodup) (hLj : j ∉ L ∧ jx ∉ L ∧ jq ∉ L) (hlt : ∀ i ∈ L, i < H.length) (hLT : ∀ b ∈ pickH H L, b.t ≠ T)
    (h : ∀ β w, Rep (ctx0 P0 w0) H β w → Kn ((ctx0 P0 w0).after (modEvo T) w0.heap.size w β L) (isGrp T (β j) (β jx) (β jq) P Q G) → (∀ p, Stays (modEvo T) p → p w0.heap.size w0 → Kn ((ctx0 P0 w0).after (modEvo T) w0.heap.size w β L) p) →
      X ((ctx0 P0 w0).after (modEvo T) w0.heap.size w β L) c (S.map (TV.fz L β)) (fzH L β H L) Qx) : X (ctx0 P0 w0) c S H Qx := by
  refine X_rebase (modEvo T) w0.heap.size L hL hlt rfl (.inr (Nat.le_refl _)) (fun _ h => h.elim) (fun i hi b hb => ?_) fun β w hR => h β w hR ?_ fun p hs hp => kn_law hR hlt hs hp
  · refine hLT b ?_
    clear h hLT hL hLj hlt
    induction L with
    | nil => cases hi
    | cons i' r ih =>
      rw [pickH_cons]
      rcases List.mem_cons.1 hi with h1 | h1
      · subst h1; rw [hb, consH_some]; exact List.mem_cons_self ..
      · have h2 := ih h1
        cases h3 : H[i']? with
        | none => exact h2
        | some b' => exact List.mem_cons_of_mem _ h2
  · exact isGrp_gone hR hb hbx hbq hLj.1 hLj.2.1 hLj.2.2 hlt hT hP hQ (new_lie hR (fun _ h => h) (List.getElem?_eq_some_iff.1 hbx).1) (new_lie hR (fun _ h => h) (List.getElem?_eq_some_iff.1 hbq).1)
/-- FROM HERE ON two Mods that were made are known; at the end they are said to be. -/
theorem XA_two {P0 : Program} {w0 : World} {c : Code} {S : List TV} {H : Heap} {A : World → Prop} {Qx : QA} {T P Q : Nat} {bx bq : Bool} (jx jq : Nat) (L : List Nat) (hbx : H[jx]? = some ⟨T, modS P bx⟩) (hbq : H[jq]? = some ⟨T, modS Q bq⟩) (hP : OddM P) (hQ : OddM Q) (hne : jx ≠ jq)
    (hL : L.Nodup) (hLj : jx ∉ L ∧ jq ∉ L) (hlt : ∀ i ∈ L, i < H.length) (hLT : ∀ b ∈ pickH H L, b.t ≠ T)
    (h : ∀ β w, Rep (ctx0 P0 w0) H β w → Kn ((ctx0 P0 w0).after (modEvo T) w0.heap.size w β L) (isMod T (β jx) P) → Kn ((ctx0 P0 w0).after (modEvo T) w0.heap.size w β L) (isMod T (β jq) Q) → (∀ p, Stays (modEvo T) p → p w0.heap.size w0 → Kn ((ctx0 P0 w0).after (modEvo T) w0.heap.size w β L) p) →
      X ((ctx0 P0 w0).after (modEvo T) w0.heap.size w β L) c (S.map (TV.fz L β)) (fzH L β H L) fun e T' H' => Qx e T' H' fun w => isMod T (β jx) P w0.heap.size w ∧ isMod T (β jq) Q w0.heap.size w ∧ β jx ≠ β jq) : XA (ctx0 P0 w0) A c S H Qx := by
  refine XA_reb (modEvo T) w0.heap.size L hL hlt rfl (.inr (Nat.le_refl _)) (fun _ h => h.elim) (fun i hi b hb => ?_) fun β w hR => ?_
  · refine hLT b ?_
    clear h hLT hL hLj hlt
    induction L with
    | nil => cases hi
    | cons i' r ih =>
      rw [pickH_cons]
      rcases List.mem_cons.1 hi with h1 | h1
      · subst h1; rw [hb, consH_some]; exact List.mem_cons_self ..
      · have h2 := ih h1
        cases h3 : H[i']? with
        | none => exact h2
        | some b' => exact List.mem_cons_of_mem _ h2
  · have h1 := isMod_gone hR hbx hLj.1 hlt hP (new_lie hR (fun _ h => h) (List.getElem?_eq_some_iff.1 hbx).1)
    have h2 := isMod_gone hR hbq hLj.2 hlt hQ (new_lie hR (fun _ h => h) (List.getElem?_eq_some_iff.1 hbq).1)
    have h3 : β jx ≠ β jq := fun e => hne (hR.inj _ _ (List.getElem?_eq_some_iff.1 hbx).1 (List.getElem?_eq_some_iff.1 hbq).1 e)
    exact ⟨_, fun w' hw' => ⟨h1 w' hw', h2 w' hw', h3⟩, h β w hR h1 h2 fun p hs hp => kn_law hR hlt hs hp⟩
end Go.Ab
/-
  All rules by which simp walks, in one bundle.
-/
namespace Go.Ab
open Go
set_option linter.unusedSimpArgs false
set_option linter.unusedVariables false
set_option linter.defProp false

def vcR := (And.intro (And.intro (And.intro (And.intro (And.intro (And.intro (And.intro (And.intro @xCode_skip @xCode_label) (And.intro @xCode_region (And.intro @xCode_draw @xCode_seq))) (And.intro (And.intro @xCode_cond (And.intro @xCode_block @xCode_loop)) (And.intro @xCode_exit (And.intro @xCode_ret @xCode_scope)))) (And.intro (And.intro (And.intro @seqQ_normal @seqQ_ret) (And.intro @seqQ_exit (And.intro @loopQ_normal @loopQ_ret))) (And.intro (And.intro @loopQ_exit (And.intro @cutQ_normal @cutQ_ret)) (And.intro @cutQ_exit (And.intro @blockQ_normal @blockQ_ret))))) (And.intro (And.intro (And.intro (And.intro @blockQ_exit @scopeQ_normal) (And.intro @scopeQ_ret (And.intro @scopeQ_exit @xcond_bool))) (And.intro (And.intro @xTr_nil (And.intro @xTr_false @xTr_cons)) (And.intro @xAt_some (And.intro @xOps_nil @xOps_cons)))) (And.intro (And.intro (And.intro @xOps_consG @xHead_nil) (And.intro @xHead_cons (And.intro @xHead_consG @xguard_none))) (And.intro (And.intro @xguard_some (And.intro @xguardV_bool @xguardV_tup)) (And.intro @xguardV_undef (And.intro @putT_some @putT_none)))))) (And.intro (And.intro (And.intro (And.intro (And.intro @ev_tmp @ev_const) (And.intro @ev_global (And.intro @ev_func @app_none))) (And.intro (And.intro @app_new (And.intro @app_put @putH_zero)) (And.intro @putH_succ (And.intro @st_call @st_move)))) (And.intro (And.intro (And.intro @st_assign @st_pick) (And.intro @st_alloc (And.intro @st_box @st_build))) (And.intro (And.intro @st_load (And.intro @st_store @st_nilCheck)) (And.intro @st_binOp (And.intro @st_unOp @st_convert))))) (And.intro (And.intro (And.intro (And.intro @st_fieldAddr @st_field) (And.intro @st_indexAddr (And.intro @st_index @st_extract))) (And.intro (And.intro @qt_call (And.intro @qt_move @qt_assign)) (And.intro @qt_pick (And.intro @qt_build @qt_load)))) (And.intro (And.intro (And.intro @qt_nilCheck (And.intro @qt_binOp @qt_unOp)) (And.intro @qt_convert (And.intro @qt_fieldAddr @qt_field))) (And.intro (And.intro @qt_indexAddr (And.intro @qt_index @qt_extract)) (And.intro @st_makeFunc (And.intro @qt_makeFunc @plainsOf_nil))))))) (And.intro (And.intro (And.intro (And.intro (And.intro (And.intro @plainsOf_cons @xmakeFunc_some) (And.intro @cellsOf_func (And.intro @one_func @xfun_funcs))) (And.intro (And.intro @xcalled_first (And.intro @xcalled_cap @xcalledV_first)) (And.intro @xcalledV_cap (And.intro @quietK_none @xpick_bool)))) (And.intro (And.intro (And.intro @pickT_true @pickT_false) (And.intro @pickT_bool (And.intro @xnew_some @xnewS_some))) (And.intro (And.intro @cellsOf_agg (And.intro @cellsOf_vagg @cellsOf_int)) (And.intro @cellsOf_bool (And.intro @cellsOf_string @cellsOf_slice))))) (And.intro (And.intro (And.intro (And.intro @cellsOf_pointer @cellsOf_p) (And.intro @cellsOf_sl (And.intro @xload_p @xload_v))) (And.intro (And.intro @xpart_row (And.intro @xpart_one @xcell_some)) (And.intro @xstore_p (And.intro @xput_some @splice_one)))) (And.intro (And.intro (And.intro @oneAll_nil @oneAll_cons) (And.intro @one_int (And.intro @one_bool @one_slice))) (And.intro (And.intro @one_pointer (And.intro @one_p @one_sl)) (And.intro @xnil_p (And.intro @xnil_v @xbin_int)))))) (And.intro (And.intro (And.intro (And.intro (And.intro @xbin_bool @xbin_agg) (And.intro @xbin_aggv (And.intro @xbin_vagg @xbin_pnil))) (And.intro (And.intro @xbin_vnil (And.intro @xeqB_eql @xeqB_neq)) (And.intro @xeqR_eql (And.intro @xeqR_neq @xeqA_false)))) (And.intro (And.intro (And.intro @xeqA_true @xint_add) (And.intro @xint_sub (And.intro @xint_mul @xint_quo))) (And.intro (And.intro @xint_rem (And.intro @xint_and @xint_or)) (And.intro @xint_xor (And.intro @xint_eql @xint_neq))))) (And.intro (And.intro (And.intro (And.intro @xint_lss @xint_leq) (And.intro @xint_gtr (And.intro @xint_geq @xint_shl))) (And.intro (And.intro @xint_shr (And.intro @bits_u64 @bits_u32)) (And.intro @bits_i64 (And.intro @bits_u8 @xun_neg)))) (And.intro (And.intro (And.intro @xun_not (And.intro @xconv_int @xfieldAddr_p)) (And.intro @xfieldAddr_v (And.intro @xfield_some @isAgg_agg))) (And.intro (And.intro @isAgg_vagg (And.intro @xindexAddr_arr @xindexAddr_sl)) (And.intro @xindexAddr_vsl (And.intro @xindex_arr @xextract_zero)))))))) (And.intro (And.intro (And.intro (And.intro (And.intro (And.intro (And.intro @xextract_succ @tv_s) (And.intro @tv_agg (And.intro @xbuild_some @fillA_nil))) (And.intro (And.intro @fillA_cons (And.intro @fillB_some @setAt_one)) (And.intro @xcall_value (And.intro @xcall_len @xcallH_value)))) (And.intro (And.intro (And.intro @xcallH_len @xfun_func) (And.intro @xcalled_some (And.intro @xcalledV_some @xlen_v))) (And.intro (And.intro @xlen_sl (And.intro @retQ_normal @retQ_ret)) (And.intro @retV_one (And.intro @retV_nil @retV_more))))) (And.intro (And.intro (And.intro (And.intro @resAll_nil @resAll_cons) (And.intro @consO_some (And.intro @resOne_tmp @resOne_cell))) (And.intro (And.intro @resAt_p (And.intro @resCell_row @resCell_one)) (And.intro @toAV_s (And.intro @toAV_agg @setMany_nil)))) (And.intro (And.intro (And.intro @setMany_cons @junk_nil) (And.intro @junk_cons (And.intro @setCells_nil @setCells_cons))) (And.intro (And.intro @agreeT_nil (And.intro @agreeT_cons @agreeS_some)) (And.intro @agreeS_true (And.intro @agreeS_false @lookup_cons)))))) (And.intro (And.intro (And.intro (And.intro (And.intro @prefix_ex @prefix_ex0) (And.intro @ctx0_P (And.intro @ctx0_TM @wrap_i64_id))) (And.intro (And.intro @tdiv_nn (And.intro @tmod_nn @fdiv_pow)) (And.intro @Nat.add_one_sub_one (And.intro @Nat.add_sub_cancel @Option.toList_some.{0})))) (And.intro (And.intro (And.intro @castL @neL) (And.intro @eqL (And.intro @litsEq_nat4 @fdivL))) (And.intro (And.intro @nat4_length (And.intro @nat8_length @nat4_one)) (And.intro @nat8_one (And.intro @nat4_get @nat8_get))))) (And.intro (And.intro (And.intro (And.intro @nat4_set @nat8_set) (And.intro @arr_get (And.intro @arr_set @iarr_get))) (And.intro (And.intro @iarr_set (And.intro @or_self @or_false)) (And.intro @false_or (And.intro @Nat.min_self @addL)))) (And.intro (And.intro (And.intro @mulL (And.intro @mulL' @divL)) (And.intro @modL (And.intro @subL @subL'))) (And.intro (And.intro @addN (And.intro @mulN @subN)) (And.intro @divN (And.intro @modN @divP))))))) (And.intro (And.intro (And.intro (And.intro (And.intro (And.intro @mulP @w64) (And.intro @minL (And.intro @minR @andOne))) (And.intro (And.intro @and255 (And.intro @neI @eqI)) (And.intro @decide_true (And.intro @decide_false @tlt_true)))) (And.intro (And.intro (And.intro @tle_true @nlt_true) (And.intro @nle_true (And.intro @tlt_false @tle_false))) (And.intro (And.intro @nlt_false (And.intro @nle_false @splice_whole)) (And.intro @arr_length (And.intro @iarr_length @arr_one))))) (And.intro (And.intro (And.intro (And.intro @iarr_one @List.lookup_nil.{0, 0}) (And.intro @List.getD_cons_zero.{0} (And.intro @List.getD_cons_succ.{0} @List.set_cons_zero.{0}))) (And.intro (And.intro @List.set_cons_succ.{0} (And.intro @List.getElem?_cons_zero.{0} @List.getElem?_cons_succ.{0})) (And.intro @List.length_cons.{0} (And.intro @List.length_nil.{0} @List.cons_append.{0})))) (And.intro (And.intro (And.intro @List.nil_append.{0} @List.map_cons.{0, 0}) (And.intro @List.map_nil.{0, 0} (And.intro @Option.map_some.{0, 0} @Option.map_none.{0, 0}))) (And.intro (And.intro @Option.bind_some.{0, 0} (And.intro @Option.bind_none.{0, 0} @List.getElem?_toArray.{0})) (And.intro @List.contains_cons.{0} (And.intro @List.contains_nil.{0} @Nat.zero_add)))))) (And.intro (And.intro (And.intro (And.intro (And.intro @Nat.add_zero @Nat.mul_one) (And.intro @Nat.one_mul (And.intro @beq_self_eq_true.{0} @Bool.or_true))) (And.intro (And.intro @Bool.true_or (And.intro @Bool.or_false @Bool.false_or)) (And.intro @Bool.false_eq_true (And.intro @Bool.true_eq_false @Bool.not_true)))) (And.intro (And.intro (And.intro @Bool.not_false @true_and) (And.intro @and_true (And.intro @not_false_eq_true @not_true_eq_false))) (And.intro (And.intro @if_true.{1} (And.intro @if_false.{1} @false_implies)) (And.intro @true_implies (And.intro @imp_self @TV.s.injEq))))) (And.intro (And.intro (And.intro (And.intro @TV.agg.injEq @TV.tup.injEq) (And.intro @AV.s.injEq (And.intro @AV.agg.injEq @SV.v.injEq))) (And.intro (And.intro @SV.p.injEq (And.intro @SV.sl.injEq @Value.int.injEq)) (And.intro @Value.bool.injEq (And.intro @List.cons.injEq.{0} @AB.mk.injEq)))) (And.intro (And.intro (And.intro @and_self (And.intro @decide_eq_true_eq @decide_eq_false_iff_not)) (And.intro @Int.ofNat_eq_natCast (And.intro @Int.toNat_natCast @ne_eq.{1}))) (And.intro (And.intro @eq_self.{1} (And.intro @List.take_succ_cons.{0} @List.take_zero.{0})) (And.intro @List.drop_succ_cons.{0} (And.intro @List.drop_zero.{0} @List.tail_cons.{0})))))))))
end Go.Ab

namespace Go.Proofs.YtdmcknmjdlghgaaDoor
open Go Go.Ab
set_option linter.unusedSimpArgs false
set_option linter.unusedVariables false
set_option linter.defProp false
theorem tf24_row : rowOf Tryd.prog 24 = some true := by kernel_rfl
theorem tf24_sz : Tryd.prog.cellsOf 24 = 4 := by kernel_rfl
theorem tf24_szO : szO Tryd.prog 24 = some 4 := by kernel_rfl
theorem tf24_arr : arrOf Tryd.prog 24 = some (4, 22) := by kernel_rfl
theorem tf24_known : known Tryd.prog 24 = true := by kernel_rfl
theorem tf24_eq : eqTy Tryd.prog 24 = true := by kernel_rfl
theorem tf24_zero : zeroA Tryd.prog 24 = some (arr 4 fun _ => 0) := by kernel_rfl
theorem tf24_lits (f : Nat → Nat) (hf : ∀ i, i < 4 → f i < 18446744073709551616) : litsA Tryd.prog 24 (some (arr 4 f)) = some (lits 4 f) := litsA_arr (e := 22) (by kernel_rfl) (by kernel_rfl) (by kernel_rfl) (by kernel_rfl) hf
theorem tf24_litsN (a : Nat) : litsA Tryd.prog 24 (some (nat4 a)) = some (lits 4 (wd a)) := tf24_lits (wd a) fun _ _ => wd_lt a _
theorem tf24_u : Tryd.prog.underlying 24 = some (.array 4 22) := by kernel_rfl
theorem tf24_ce : Tryd.prog.cellsOf 22 = 1 := by kernel_rfl
theorem tf24_place (i : Nat) : placeOf Tryd.prog 24 i = some (i * 1, 1) := by simp only [placeOf, tf24_u, tf24_ce]
theorem tf24_slc : slcOf Tryd.prog 24 = none := by kernel_rfl
theorem tf23_row : rowOf Tryd.prog 23 = some true := by kernel_rfl
theorem tf23_sz : Tryd.prog.cellsOf 23 = 4 := by kernel_rfl
theorem tf23_szO : szO Tryd.prog 23 = some 4 := by kernel_rfl
theorem tf23_arr : arrOf Tryd.prog 23 = some (4, 22) := by kernel_rfl
theorem tf23_known : known Tryd.prog 23 = true := by kernel_rfl
theorem tf23_eq : eqTy Tryd.prog 23 = true := by kernel_rfl
theorem tf23_zero : zeroA Tryd.prog 23 = some (arr 4 fun _ => 0) := by kernel_rfl
theorem tf23_lits (f : Nat → Nat) (hf : ∀ i, i < 4 → f i < 18446744073709551616) : litsA Tryd.prog 23 (some (arr 4 f)) = some (lits 4 f) := litsA_arr (e := 22) (by kernel_rfl) (by kernel_rfl) (by kernel_rfl) (by kernel_rfl) hf
theorem tf23_litsN (a : Nat) : litsA Tryd.prog 23 (some (nat4 a)) = some (lits 4 (wd a)) := tf23_lits (wd a) fun _ _ => wd_lt a _
theorem tf23_u : Tryd.prog.underlying 23 = some (.array 4 22) := by kernel_rfl
theorem tf23_ce : Tryd.prog.cellsOf 22 = 1 := by kernel_rfl
theorem tf23_place (i : Nat) : placeOf Tryd.prog 23 i = some (i * 1, 1) := by simp only [placeOf, tf23_u, tf23_ce]
theorem tf23_slc : slcOf Tryd.prog 23 = none := by kernel_rfl
theorem tf22_row : rowOf Tryd.prog 22 = some false := by kernel_rfl
theorem tf22_sz : Tryd.prog.cellsOf 22 = 1 := by kernel_rfl
theorem tf22_szO : szO Tryd.prog 22 = some 1 := by kernel_rfl
theorem tf22_slc : slcOf Tryd.prog 22 = none := by kernel_rfl
theorem tf22_int : intKindOf Tryd.prog 22 = some .u64 := by kernel_rfl
theorem tf22_zero : zeroA Tryd.prog 22 = some [.v (.int .u64 0)] := by kernel_rfl
theorem tf3_row : rowOf Tryd.prog 3 = some false := by kernel_rfl
theorem tf3_sz : Tryd.prog.cellsOf 3 = 1 := by kernel_rfl
theorem tf3_szO : szO Tryd.prog 3 = some 1 := by kernel_rfl
theorem tf3_slc : slcOf Tryd.prog 3 = none := by kernel_rfl
theorem tf3_int : intKindOf Tryd.prog 3 = some .i64 := by kernel_rfl
theorem tf3_zero : zeroA Tryd.prog 3 = some [.v (.int .i64 0)] := by kernel_rfl
theorem tf4_row : rowOf Tryd.prog 4 = some false := by kernel_rfl
theorem tf4_sz : Tryd.prog.cellsOf 4 = 1 := by kernel_rfl
theorem tf4_szO : szO Tryd.prog 4 = some 1 := by kernel_rfl
theorem tf4_slc : slcOf Tryd.prog 4 = none := by kernel_rfl
theorem tf4_bool : isBoolT Tryd.prog 4 = true := by kernel_rfl
theorem tf4_zero : zeroA Tryd.prog 4 = some [.v (.bool false)] := by kernel_rfl
theorem tf87_row : rowOf Tryd.prog 87 = some true := by kernel_rfl
theorem tf87_sz : Tryd.prog.cellsOf 87 = 8 := by kernel_rfl
theorem tf87_szO : szO Tryd.prog 87 = some 8 := by kernel_rfl
theorem tf87_arr : arrOf Tryd.prog 87 = some (8, 22) := by kernel_rfl
theorem tf87_known : known Tryd.prog 87 = true := by kernel_rfl
theorem tf87_eq : eqTy Tryd.prog 87 = true := by kernel_rfl
theorem tf87_zero : zeroA Tryd.prog 87 = some (arr 8 fun _ => 0) := by kernel_rfl
theorem tf87_lits (f : Nat → Nat) (hf : ∀ i, i < 8 → f i < 18446744073709551616) : litsA Tryd.prog 87 (some (arr 8 f)) = some (lits 8 f) := litsA_arr (e := 22) (by kernel_rfl) (by kernel_rfl) (by kernel_rfl) (by kernel_rfl) hf
theorem tf87_litsN (a : Nat) : litsA Tryd.prog 87 (some (nat8 a)) = some (lits 8 (wd a)) := tf87_lits (wd a) fun _ _ => wd_lt a _
theorem tf87_u : Tryd.prog.underlying 87 = some (.array 8 22) := by kernel_rfl
theorem tf87_ce : Tryd.prog.cellsOf 22 = 1 := by kernel_rfl
theorem tf87_place (i : Nat) : placeOf Tryd.prog 87 i = some (i * 1, 1) := by simp only [placeOf, tf87_u, tf87_ce]
theorem tf87_slc : slcOf Tryd.prog 87 = none := by kernel_rfl
theorem tf32_row : rowOf Tryd.prog 32 = some false := by kernel_rfl
theorem tf32_sz : Tryd.prog.cellsOf 32 = 1 := by kernel_rfl
theorem tf32_szO : szO Tryd.prog 32 = some 1 := by kernel_rfl
theorem tf32_slc : slcOf Tryd.prog 32 = none := by kernel_rfl
theorem tf32_int : intKindOf Tryd.prog 32 = some .i64 := by kernel_rfl
theorem tf32_zero : zeroA Tryd.prog 32 = some [.v (.int .i64 0)] := by kernel_rfl
theorem tf90_row : rowOf Tryd.prog 90 = some true := by kernel_rfl
theorem tf90_sz : Tryd.prog.cellsOf 90 = 64 := by kernel_rfl
theorem tf90_szO : szO Tryd.prog 90 = some 64 := by kernel_rfl
theorem tf90_arr : arrOf Tryd.prog 90 = some (64, 3) := by kernel_rfl
theorem tf90_known : known Tryd.prog 90 = true := by kernel_rfl
theorem tf90_eq : eqTy Tryd.prog 90 = true := by kernel_rfl
theorem tf90_zero : zeroA Tryd.prog 90 = some (iarr 64 fun _ => 0) := by kernel_rfl
theorem tf90_u : Tryd.prog.underlying 90 = some (.array 64 3) := by kernel_rfl
theorem tf90_ce : Tryd.prog.cellsOf 3 = 1 := by kernel_rfl
theorem tf90_place (i : Nat) : placeOf Tryd.prog 90 i = some (i * 1, 1) := by simp only [placeOf, tf90_u, tf90_ce]
theorem tf90_slc : slcOf Tryd.prog 90 = none := by kernel_rfl
theorem tf5_row : rowOf Tryd.prog 5 = some false := by kernel_rfl
theorem tf5_sz : Tryd.prog.cellsOf 5 = 1 := by kernel_rfl
theorem tf5_szO : szO Tryd.prog 5 = some 1 := by kernel_rfl
theorem tf5_slc : slcOf Tryd.prog 5 = none := by kernel_rfl
theorem tf5_int : intKindOf Tryd.prog 5 = some .u8 := by kernel_rfl
theorem tf5_zero : zeroA Tryd.prog 5 = some [.v (.int .u8 0)] := by kernel_rfl
def vcT := (And.intro (And.intro (And.intro (And.intro (And.intro (And.intro @tf24_row @tf24_sz) (And.intro @tf24_szO @tf24_arr)) (And.intro (And.intro @tf24_known @tf24_eq) (And.intro @tf24_zero (And.intro @tf24_lits @tf24_litsN)))) (And.intro (And.intro (And.intro @tf24_place @tf24_slc) (And.intro @tf23_row @tf23_sz)) (And.intro (And.intro @tf23_szO @tf23_arr) (And.intro @tf23_known (And.intro @tf23_eq @tf23_zero))))) (And.intro (And.intro (And.intro (And.intro @tf23_lits @tf23_litsN) (And.intro @tf23_place @tf23_slc)) (And.intro (And.intro @tf22_row @tf22_sz) (And.intro @tf22_szO (And.intro @tf22_slc @tf22_int)))) (And.intro (And.intro (And.intro @tf22_zero @tf3_row) (And.intro @tf3_sz @tf3_szO)) (And.intro (And.intro @tf3_slc @tf3_int) (And.intro @tf3_zero (And.intro @tf4_row @tf4_sz)))))) (And.intro (And.intro (And.intro (And.intro (And.intro @tf4_szO @tf4_slc) (And.intro @tf4_bool @tf4_zero)) (And.intro (And.intro @tf87_row @tf87_sz) (And.intro @tf87_szO (And.intro @tf87_arr @tf87_known)))) (And.intro (And.intro (And.intro @tf87_eq @tf87_zero) (And.intro @tf87_lits @tf87_litsN)) (And.intro (And.intro @tf87_place @tf87_slc) (And.intro @tf32_row (And.intro @tf32_sz @tf32_szO))))) (And.intro (And.intro (And.intro (And.intro @tf32_slc @tf32_int) (And.intro @tf32_zero @tf90_row)) (And.intro (And.intro @tf90_sz @tf90_szO) (And.intro @tf90_arr (And.intro @tf90_known @tf90_eq)))) (And.intro (And.intro (And.intro @tf90_zero @tf90_place) (And.intro @tf90_slc @tf5_row)) (And.intro (And.intro @tf5_sz @tf5_szO) (And.intro @tf5_slc (And.intro @tf5_int @tf5_zero)))))))
end Go.Proofs.YtdmcknmjdlghgaaDoor
namespace Go.Proofs
open Go.Shelf
def YtdmcknmjdlghgaaDoorlays129_ren : Go.Shelf.Ren := ⟨fun | 129 => 93 | n => n, fun | 53 => 22 | 3 => 3 | 4 => 4 | 46 => 157 | 5 => 5 | 9 => 9 | n => n, fun | n => n⟩
theorem YtdmcknmjdlghgaaDoorlays129 : Go.Proofs.Lays.n129 Tryd.prog YtdmcknmjdlghgaaDoorlays129_ren := {
  mixed := by kernel_rfl
  f129 := Tryd.func93.trans (congrArg some (by kernel_rfl))
  t3 := Tryd.underlying3
  a3 := Tryd.isAgg3
  z3 := Tryd.sizeOf3
  v3 := Tryd.zeroValue3
  t4 := Tryd.underlying4
  a4 := Tryd.isAgg4
  z4 := Tryd.sizeOf4
  v4 := Tryd.zeroValue4
  t5 := Tryd.underlying5
  a5 := Tryd.isAgg5
  z5 := Tryd.sizeOf5
  v5 := Tryd.zeroValue5
  t9 := Tryd.underlying9
  a9 := Tryd.isAgg9
  z9 := Tryd.sizeOf9
  v9 := Tryd.zeroValue9
  t46 := Tryd.underlying157
  a46 := Tryd.isAgg157
  z46 := Tryd.sizeOf157
  v46 := Tryd.zeroValue157
  t53 := Tryd.underlying22
  a53 := Tryd.isAgg22
  z53 := Tryd.sizeOf22
  v53 := Tryd.zeroValue22 }
def YtdmcknmjdlghgaaDoorlays264_ren : Go.Shelf.Ren := ⟨fun | 264 => 101 | n => n, fun | 53 => 22 | 46 => 157 | n => n, fun | n => n⟩
theorem YtdmcknmjdlghgaaDoorlays264 : Go.Proofs.Lays.n264 Tryd.prog YtdmcknmjdlghgaaDoorlays264_ren := {
  mixed := by kernel_rfl
  f264 := Tryd.func101.trans (congrArg some (by kernel_rfl))
  t46 := Tryd.underlying157
  a46 := Tryd.isAgg157
  z46 := Tryd.sizeOf157
  v46 := Tryd.zeroValue157
  t53 := Tryd.underlying22
  a53 := Tryd.isAgg22
  z53 := Tryd.sizeOf22
  v53 := Tryd.zeroValue22 }
end Go.Proofs
