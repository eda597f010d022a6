/-
  A call in the midst of code beside which something is said of the world; functions of that kind.
-/
import Derived.Test.YthniflakjkbpiaaDoorAb29
namespace Go.Ab
open Go Go.RowKit
set_option linter.unusedSimpArgs false
set_option linter.unusedVariables false
section
variable {Γ : Ctx} {A : World → Prop} {H : Heap} {T : List TV} {ops : Array Oper} {K : KA} {dst : Option Tmp} {ty : TypeId} {pos : String} {af : Array Edge} {r : List Oper}
/-- A call, of which something is said of the world behind it. -/
theorem XAR_call {g : Operand} {az : List Operand} {ts : Array TypeId} {f : FuncId} {args : List TV} {Rr : TV → (World → Prop) → Prop} (hg : ev T g = .s (.v (.func (.func f) #[] #[]))) (hargs : az.map (ev T) = args) (hcall : callable Γ.P f = true)
    (h : ∀ β w, Rep Γ H β w → A w → Calls Γ.P f (args.map (TV.conc β)).toArray w fun e w' => ∃ v A', Rr v A' ∧ A' w' ∧ (∀ β', e = .returned (v.conc β')) ∧ Ext Γ.ev Γ.B w w')
    (hK : ∀ v A', Rr v A' → XAR Γ A' ops r (putT T dst v) H K) : XAR Γ A ops (⟨dst, .call ⟨.value g, az.toArray, ts⟩, ty, pos, af, none⟩ :: r) T H K := by
  rw [XAR_def]
  intro Q a w hs hA hKK
  obtain ⟨β, hT, hR, hd⟩ := hs
  have hput : ∀ u, (a.put dst u).defers = [] := fun u => by cases dst <;> exact hd
  have hwant : Region.wanted (⟨dst, .call ⟨.value g, az.toArray, ts⟩, ty, pos, af, none⟩ : Oper) (yielded ops a.tmps) = true := by simp [Region.wanted]
  simp only [wpList, hwant, if_true]
  left
  have hev := eval_ev (a := a) (hT β (.refl _ _))
  have hgc : a.eval g = .func (.func f) #[] #[] := by rw [hev, hg]; rfl
  have hrun := run_callF (P := Γ.P) (o := ⟨dst, .call ⟨.value g, az.toArray, ts⟩, ty, pos, af, none⟩) (ρ := a.eval) rfl rfl hgc hcall w
  have hargs' : (args.map (TV.conc β)).toArray = #[] ++ (az.toArray).map a.eval ++ #[] := by
    apply Array.ext'
    simp [← hargs, Function.comp_def, hev]
  unfold Oper.wp
  rw [hrun]
  simp only [Oper.upon]
  have h' := h β w hR hA
  rw [hargs'] at h'
  refine h'.mono fun e w' ⟨v, A', hR', hA', he, hx⟩ => ?_
  have he0 := he β
  subst he0
  simp only
  have hX := hK v A' hR'
  rw [XAR_def] at hX
  refine hX Q _ _ ⟨β, hT.put (Nat.le_refl _) (.refl _ _) (fun β'' _ => ?_), hR.ext hx, hput _⟩ hA' hKK
  have h1 := he β''
  injection h1 with h1
  exact h1.symm
end
theorem pureM_ofA {P : Program} {f : FuncId} {fn : Func} {c : Code} {args : List TV} {pre : World → Prop} {r : TV} (hf : P.funcs[f]? = some fn) (hb : fn.body = some c) (ha : ∀ x ∈ args, x.ok 0) (hr : r.ok 0)
    (h : ∀ w, pre w → XA (ctx0 P w) (fun _ => True) c (args ++ List.replicate (fn.ntmps - args.length) undefT) [] (retA P fn.results.toList fun v _ _ => v = r)) : PureM P f args pre r := by
  intro w hw
  refine (calls_of_XA (Γ := ctx0 P w) hf hb (rep0 P w fun _ => 0) trivial ha (h w hw)).mono ?_
  rintro e w' ⟨v, H', A', β', rfl, _, hR, he⟩
  refine ⟨fun β'' => ?_, below_of_rep0 hR⟩
  rw [he β' (.refl _ _)]
  rw [TV.conc_ok hr (β := β'') (β' := β') (fun j hj => absurd hj (Nat.not_lt_zero j))]
end Go.Ab
