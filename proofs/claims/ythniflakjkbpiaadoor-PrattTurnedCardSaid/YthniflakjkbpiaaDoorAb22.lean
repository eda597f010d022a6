/-
  A branch, each way by itself.
-/
import Derived.Test.YthniflakjkbpiaaDoorKB
namespace Go.Ab
open Go Go.RowKit
set_option linter.unusedSimpArgs false
set_option linter.unusedVariables false
theorem X_condX {Γ : Ctx} {c : Operand} {x y : Code} {T : List TV} {H : Heap} {Q : QX} (h : xcond (ev T c) (X Γ x T H Q) (X Γ y T H Q)) : X Γ (.cond c x y) T H Q := by
  intro a w hs
  unfold xcond at h
  split at h
  · rename_i b hb
    obtain ⟨β, hT, hR, hd⟩ := hs
    have hev := eval_ev (a := a) (hT β (.refl _ _)) c
    rw [hb] at hev
    have hs' : St Γ T H a w := ⟨β, hT, hR, hd⟩
    cases b with
    | true => exact wp_cond_true hev (h.1 rfl a w hs')
    | false => exact wp_cond_false hev (h.2 rfl a w hs')
  · exact h.elim
section
variable {Γ : Ctx} {ops : Array Oper} {H H0 : Heap} {M : List Nat} {T : List TV} {KL : List TV → Heap → Prop} {dst : Option Tmp} {ty : TypeId} {pos : String} {af : Array Edge}
theorem xAtM_load {t : TypeId} {a : Operand} : xAtM Γ ops H0 M (some ⟨dst, .load t a, ty, pos, af, none⟩) T H KL = xload Γ t (ev T a) H (fun v e => famL M 0 H0 (e.app H) ∧ KL (putT T dst v) (e.app H)) := by simp [xAtM, xop]
end
end Go.Ab
