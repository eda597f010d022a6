/-
  A drawn statement's head, an operation at a time.
-/
import Derived.Test.YtpikjhpbldocnaaAb8
namespace Go.Ab
open Go Go.RowKit
set_option linter.unusedSimpArgs false
set_option linter.unusedVariables false

@[irreducible] def XH (Γ : Ctx) (ops : Array Oper) (H : Heap) (l : List Oper) (T : List TV) (K : List TV → Prop) : Prop := xHead Γ ops H l T K
theorem XH_eq {Γ : Ctx} {ops : Array Oper} {H : Heap} {l : List Oper} {T : List TV} {K : List TV → Prop} : XH Γ ops H l T K = xHead Γ ops H l T K := by unfold XH; rfl
section
variable {Γ : Ctx} {ops : Array Oper} {H : Heap} {T T' : List TV} {K : List TV → Prop} {dst : Option Tmp} {op : Op} {ty : TypeId} {pos : String} {af : Array Edge} {j : Nat} {w : Bool} {r : List Oper}
@[congr] theorem XH_congr {l : List Oper} (h1 : T = T') : XH Γ ops H l T K = XH Γ ops H l T' K := by rw [h1]
theorem XH_nil (h : K T) : XH Γ ops H [] T K := by rw [XH_eq]; exact h
theorem XH_cons (h : xquiet Γ op (ev T) H fun v => XH Γ ops H r (putT T dst v) K) : XH Γ ops H (⟨dst, op, ty, pos, af, none⟩ :: r) T K := by
  simp only [XH_eq] at h ⊢
  exact h
theorem XH_consG (h : xguard T (some ((ops[j]?).bind (·.dst), w)) (fun T => xquiet Γ op (ev T) H fun v => XH Γ ops H r (putT T dst v) K) (fun T => XH Γ ops H r (putT T dst undefT) K)) :
    XH Γ ops H (⟨dst, op, ty, pos, af, some (j, w)⟩ :: r) T K := by
  simp only [XH_eq] at h ⊢
  exact h
/-- A STATEMENT WHOSE ORDER IS OPEN, its head an operation at a time. -/
theorem X_drawH {id : Nat} {l : List Oper} {Q : QX} (n : Nat) (hm : Γ.P.follows .mixedOrders = true) (hB : mixB .any l.toArray n = true)
    (h : XH Γ l.toArray H (l.take n) T fun T => xOps Γ l.toArray (l.drop n) T H fun T H => Q .normal T H) : XL Γ (.region id l.toArray true) T H Q :=
  X_draw n hm hB (by rw [XH_eq] at h; exact h)
end

@[irreducible] def XO (Γ : Ctx) (ops : Array Oper) (l : List Oper) (T : List TV) (H : Heap) (K : List TV → Heap → Prop) : Prop := xOps Γ ops l T H K
theorem XO_eq {Γ : Ctx} {ops : Array Oper} {l : List Oper} {T : List TV} {H : Heap} {K : List TV → Heap → Prop} : XO Γ ops l T H K = xOps Γ ops l T H K := by unfold XO; rfl
section
variable {Γ : Ctx} {ops : Array Oper} {H H' : Heap} {T T' : List TV} {K : List TV → Heap → Prop} {dst : Option Tmp} {op : Op} {ty : TypeId} {pos : String} {af : Array Edge} {j : Nat} {w : Bool} {r : List Oper}
@[congr] theorem XO_congr {l : List Oper} (h1 : T = T') (h2 : H = H') : XO Γ ops l T H K = XO Γ ops l T' H' K := by rw [h1, h2]
theorem XO_nil (h : K T H) : XO Γ ops [] T H K := by rw [XO_eq]; exact h
theorem XO_cons (h : xstep Γ op (ev T) H fun v H' => XO Γ ops r (putT T dst v) H' K) : XO Γ ops (⟨dst, op, ty, pos, af, none⟩ :: r) T H K := by
  simp only [XO_eq] at h ⊢
  exact h
theorem XO_consG (h : xguard T (some ((ops[j]?).bind (·.dst), w)) (fun T => xstep Γ op (ev T) H fun v H' => XO Γ ops r (putT T dst v) H' K) (fun T => XO Γ ops r (putT T dst undefT) H K)) :
    XO Γ ops (⟨dst, op, ty, pos, af, some (j, w)⟩ :: r) T H K := by
  simp only [XO_eq] at h ⊢
  exact h
/-- A statement, an operation at a time. -/
theorem X_reg {id : Nat} {l : List Oper} {Q : QX} (h : XO Γ l.toArray l T H fun T H => Q .normal T H) : X Γ (.region id l.toArray false) T H Q := by
  refine X_of _ ?_
  rw [xCode_region]
  rw [XO_eq] at h
  exact h
theorem X_regS {id : Nat} {l : List Oper} {b : Code} {Q : QX} (h : XO Γ l.toArray l T H fun T H => X Γ b T H Q) : X Γ (.seq (.region id l.toArray false) b) T H Q := by
  refine X_of _ ?_
  rw [xCode_seq, xCode_region]
  rw [XO_eq] at h
  exact h
end
end Go.Ab
