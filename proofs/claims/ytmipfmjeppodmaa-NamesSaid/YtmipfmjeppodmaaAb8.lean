/-
  The rules by which simp walks: each is true by definition; and which parts simp may look into.
-/
import Derived.Test.YtmipfmjeppodmaaAb7
namespace Go.Ab
open Go Go.RowKit
set_option linter.unusedSimpArgs false
set_option linter.unusedVariables false

section
variable {Γ : Ctx} {T T' : List TV} {H H' : Heap} {Q : QX} {ops : Array Oper} {l : List Oper} {KL : List TV → Heap → Prop} {KT' : List TV → Prop} {K : KT} {KV : TV → Prop} {KK : KH} {E : Operand → TV}

/-- One operation, found by its number. -/
def xAt (Γ : Ctx) (ops : Array Oper) (o : Option Oper) (T : List TV) (H : Heap) (K : List TV → Heap → Prop) : Prop :=
  match o with | some o => xOps Γ ops [o] T H K | none => False

/-! Try# Where simp may not look -/
@[congr] theorem xTr_congr {b : Bool} {t : Tr} (h1 : T = T') (h2 : H = H') : xTr Γ ops KL t b T H = xTr Γ ops KL t b T' H' := by rw [h1, h2]
@[congr] theorem xAt_congr {o o' : Option Oper} (h0 : o = o') (h1 : T = T') (h2 : H = H') : xAt Γ ops o T H KL = xAt Γ ops o' T' H' KL := by rw [h0, h1, h2]
@[congr] theorem xCode_congr {c : Code} (h1 : T = T') (h2 : H = H') : xCode Γ c T H Q = xCode Γ c T' H' Q := by rw [h1, h2]
@[congr] theorem X_congr {c : Code} (h1 : T = T') (h2 : H = H') : X Γ c T H Q = X Γ c T' H' Q := by rw [h1, h2]
@[congr] theorem XL_congr {c : Code} (h1 : T = T') (h2 : H = H') : XL Γ c T H Q = XL Γ c T' H' Q := by rw [h1, h2]
@[congr] theorem xOps_congr (h1 : T = T') (h2 : H = H') : xOps Γ ops l T H KL = xOps Γ ops l T' H' KL := by rw [h1, h2]
@[congr] theorem xHead_congr (h1 : T = T') : xHead Γ ops H l T KT' = xHead Γ ops H l T' KT' := by rw [h1]
@[congr] theorem xstep_congr {op : Op} : xstep Γ op E H KK = xstep Γ op E H KK := rfl
@[congr] theorem xquiet_congr {op : Op} : xquiet Γ op E H KV = xquiet Γ op E H KV := rfl
@[congr] theorem xop_congr {op : Op} : xop Γ op E H K = xop Γ op E H K := rfl
@[congr] theorem xguardV_congr {x y : TV} {d : Tmp} {b : Bool} {r s : List TV → Prop} (h : x = y) : xguardV x T d b r s = xguardV y T d b r s := by rw [h]
@[congr] theorem xguard_congr {g g' : Option (Option Tmp × Bool)} {r s : List TV → Prop} (h : g = g') : xguard T g r s = xguard T g' r s := by rw [h]
@[congr] theorem xcond_congr {x y : TV} {p q : Prop} (h : x = y) : xcond x p q = xcond y p q := by rw [h]
@[congr] theorem xpick_congr {a b c a' b' c' : TV} (h1 : c = c') (h2 : a = a') (h3 : b = b') : xpick c a b K = xpick c' a' b' K := by rw [h1, h2, h3]
@[congr] theorem xnew_congr {e : TypeId} {cs cs' : Option (List SV)} {n n' : Nat} (h1 : cs = cs') (h2 : n = n') : xnew Γ e cs n K = xnew Γ e cs' n' K := by rw [h1, h2]
@[congr] theorem xnewS_congr {e : TypeId} {cs cs' : Option (List SV)} {n n' m : Nat} (h1 : cs = cs') (h2 : n = n') : xnewS Γ e cs n m K = xnewS Γ e cs' n' m K := by rw [h1, h2]
@[congr] theorem xload_congr {t : TypeId} {a a' : TV} (h : a = a') : xload Γ t a H K = xload Γ t a' H K := by rw [h]
@[congr] theorem xpart_congr {r r' : Option Bool} {n n' o o' : Nat} {cs cs' : Option (List SV)} (h1 : r = r') (h2 : n = n') (h3 : o = o') (h4 : cs = cs') : xpart r n o cs K = xpart r' n' o' cs' K := by rw [h1, h2, h3, h4]
@[congr] theorem xext_congr {r r' : Option Bool} {n n' : Nat} {ad : Addr} (h1 : r = r') (h2 : n = n') : xext Γ r n ad K = xext Γ r' n' ad K := by rw [h1, h2]
@[congr] theorem xcell_congr {x x' : Option SV} (h : x = x') : xcell x K = xcell x' K := by rw [h]
@[congr] theorem xstore_congr {t : TypeId} {a a' x x' : TV} (h1 : a = a') (h2 : x = x') : xstore Γ t a x H K = xstore Γ t a' x' H K := by rw [h1, h2]
@[congr] theorem xput_congr {n n' : Option Nat} {o o' j : Nat} {b b' : Option AB} {cs cs' : Option (List SV)} (h1 : n = n') (h2 : o = o') (h3 : b = b') (h4 : cs = cs') : xput n o j b cs K = xput n' o' j b' cs' K := by rw [h1, h2, h3, h4]
@[congr] theorem xnil_congr {x x' : TV} (h : x = x') : xnil x K = xnil x' K := by rw [h]
@[congr] theorem xbin_congr {P : Program} {op : BinOp} {t : TypeId} {a a' b b' : TV} (h1 : a = a') (h2 : b = b') : xbin P op t a b K = xbin P op t a' b' K := by rw [h1, h2]
@[congr] theorem xeqA_congr {ok ok' neg : Bool} {x x' y y' : Option (List Lit)} (h0 : ok = ok') (h1 : x = x') (h2 : y = y') : xeqA ok neg x y K = xeqA ok' neg x' y' K := by rw [h0, h1, h2]
@[congr] theorem xun_congr {op : UnOp} {a a' : TV} (h : a = a') : xun op a K = xun op a' K := by rw [h]
@[congr] theorem xconv_congr {s s' d d' : Option IntKind} {a a' : TV} (h1 : s = s') (h2 : d = d') (h3 : a = a') : xconv s d a K = xconv s' d' a' K := by rw [h1, h2, h3]
@[congr] theorem xfieldAddr_congr {f f' : Option (Nat × TypeId)} {a a' : TV} (h1 : f = f') (h2 : a = a') : xfieldAddr f a K = xfieldAddr f' a' K := by rw [h1, h2]
@[congr] theorem xfield_congr {P : Program} {f f' : Option (Nat × TypeId)} {a a' : TV} (h1 : f = f') (h2 : a = a') : xfield P f a K = xfield P f' a' K := by rw [h1, h2]
@[congr] theorem xindexAddr_congr {P : Program} {r r' : Option (Nat × TypeId)} {s s' : Option TypeId} {a a' i i' : TV} (h1 : r = r') (h2 : s = s') (h3 : a = a') (h4 : i = i') : xindexAddr P r s a i K = xindexAddr P r' s' a' i' K := by rw [h1, h2, h3, h4]
@[congr] theorem xindex_congr {P : Program} {r r' : Option (Nat × TypeId)} {a a' i i' : TV} (h1 : r = r') (h3 : a = a') (h4 : i = i') : xindex P r a i K = xindex P r' a' i' K := by rw [h1, h3, h4]
@[congr] theorem xextract_congr {a a' : TV} {i : Nat} (h : a = a') : xextract a i K = xextract a' i K := by rw [h]
@[congr] theorem xbuild_congr {cs cs' : Option (List SV)} (h : cs = cs') : xbuild cs K = xbuild cs' K := by rw [h]
@[congr] theorem xcalled_congr {g g' : Option (FuncId × List TV × List TV)} {as as' : List TV} (h1 : g = g') (h2 : as = as') : xcalled Γ H g as KK = xcalled Γ H g' as' KK := by rw [h1, h2]
@[congr] theorem xcallF_congr {f : FuncId} {as as' : List TV} (h : as = as') : xcallF Γ H f as KK = xcallF Γ H f as' KK := by rw [h]
@[congr] theorem xcalledV_congr {g g' : Option (FuncId × List TV × List TV)} {as as' : List TV} (h1 : g = g') (h2 : as = as') : xcalledV Γ H g as KV = xcalledV Γ H g' as' KV := by rw [h1, h2]
@[congr] theorem xcallV_congr {f : FuncId} {as as' : List TV} (h : as = as') : xcallV Γ H f as KV = xcallV Γ H f as' KV := by rw [h]
@[congr] theorem xlen_congr {ok ok' : Bool} {x x' : TV} (h1 : ok = ok') (h2 : x = x') : xlen ok x KV = xlen ok' x' KV := by rw [h1, h2]
@[congr] theorem retV_congr {x x' : Option (List AV)} (h : x = x') : retV x KV = retV x' KV := by rw [h]

/-! Try# Code -/
section
variable {ι : Type} {T0 : List TV} {H0 : Heap} {V : ι → Prop} {μ : ι → Nat} {js : List Nat} {sv : ι → List (Nat × TV)} {hv : ι → List (Nat × List SV)} {i0 : ι}
theorem loopQ_normal : loopQ T0 H0 V μ js sv hv i0 Q .normal T H = (∃ i', μ i' < μ i0 ∧ Again T0 H0 V js sv hv T H i') := rfl
theorem loopQ_ret : loopQ T0 H0 V μ js sv hv i0 Q .ret T H = Q .ret T H := rfl
theorem loopQ_exit {i : Nat} : loopQ T0 H0 V μ js sv hv i0 Q (.exit i) T H = Q (.exit i) T H := rfl
theorem cutQ_normal : cutQ T0 H0 V js sv hv Q .normal T H = (∃ i', Again T0 H0 V js sv hv T H i') := rfl
theorem cutQ_ret : cutQ T0 H0 V js sv hv Q .ret T H = Q .ret T H := rfl
theorem cutQ_exit {i : Nat} : cutQ T0 H0 V js sv hv Q (.exit i) T H = Q (.exit i) T H := rfl
@[congr] theorem Again_congr (h1 : T = T') (h2 : H = H') : Again T0 H0 V js sv hv T H i0 = Again T0 H0 V js sv hv T' H' i0 := by rw [h1, h2]
theorem again_eq : Again T0 H0 V js sv hv T H i0 = (V i0 ∧ agreeT js (sv i0) 0 T0 T ∧ ∃ G, H = setCells H0 (hv i0) ++ G) := rfl
end
theorem xCode_skip : xCode Γ .skip T H Q = Q .normal T H := rfl
theorem xCode_region {id : Nat} : xCode Γ (.region id l.toArray false) T H Q = xOps Γ l.toArray l T H (fun T H => Q .normal T H) := by simp [xCode]
theorem xCode_draw {id : Nat} : xCode Γ (.region id ops true) T H Q = XL Γ (.region id ops true) T H Q := by simp [xCode, XL_eq]
theorem xCode_seq {a b : Code} : xCode Γ (.seq a b) T H Q = xCode Γ a T H (seqQ (fun T H => X Γ b T H Q) Q) := rfl
theorem xCode_cond {c : Operand} {a b : Code} : xCode Γ (.cond c a b) T H Q = xcond (ev T c) (xCode Γ a T H Q) (xCode Γ b T H Q) := rfl
theorem xCode_block {id : Nat} {b : Code} : xCode Γ (.block id b) T H Q = xCode Γ b T H (blockQ id Q) := rfl
theorem xCode_loop {b : Code} : xCode Γ (.loop b) T H Q = XL Γ (.loop b) T H Q := XL_eq.symm
theorem xCode_exit {i : Nat} : xCode Γ (.exit i) T H Q = Q (.exit i) T H := rfl
theorem xCode_label {i : Nat} : xCode Γ (.label i) T H Q = Q .normal T H := rfl
theorem xCode_ret : xCode Γ .ret T H Q = Q .ret T H := rfl
theorem xCode_scope {b : Code} : xCode Γ (.scope b) T H Q = xCode Γ b T H (scopeQ Q) := rfl

theorem seqQ_normal : seqQ KL Q .normal T H = KL T H := rfl
theorem seqQ_ret : seqQ KL Q .ret T H = Q .ret T H := rfl
theorem seqQ_exit {i : Nat} : seqQ KL Q (.exit i) T H = Q (.exit i) T H := rfl
theorem blockQ_normal {id : Nat} : blockQ id Q .normal T H = Q .normal T H := rfl
theorem blockQ_ret {id : Nat} : blockQ id Q .ret T H = Q .ret T H := rfl
theorem blockQ_exit {id i : Nat} : blockQ id Q (.exit i) T H = if i = id then Q .normal T H else Q (.exit i) T H := rfl
theorem scopeQ_normal : scopeQ Q .normal T H = Q .normal T H := rfl
theorem scopeQ_ret : scopeQ Q .ret T H = Q .ret T H := rfl
theorem scopeQ_exit {i : Nat} : scopeQ Q (.exit i) T H = Q (.exit i) T H := rfl
theorem xcond_bool {b : Bool} {x y : Prop} : xcond (.s (.v (.bool b))) x y = ((b = true → x) ∧ (b = false → y)) := rfl

/-! Try# Operations -/
theorem xOps_nil : xOps Γ ops [] T H KL = KL T H := rfl
theorem xOps_cons {dst : Option Tmp} {op : Op} {ty : TypeId} {pos : String} {af : Array Edge} {r : List Oper} :
    xOps Γ ops (⟨dst, op, ty, pos, af, none⟩ :: r) T H KL = xstep Γ op (ev T) H fun v H' => xOps Γ ops r (putT T dst v) H' KL := rfl
theorem xOps_consG {dst : Option Tmp} {op : Op} {ty : TypeId} {pos : String} {af : Array Edge} {j : Nat} {w : Bool} {r : List Oper} :
    xOps Γ ops (⟨dst, op, ty, pos, af, some (j, w)⟩ :: r) T H KL = xguard T (some ((ops[j]?).bind (·.dst), w)) (fun T => xstep Γ op (ev T) H fun v H' => xOps Γ ops r (putT T dst v) H' KL) (fun T => xOps Γ ops r (putT T dst undefT) H KL) := rfl
theorem xHead_nil : xHead Γ ops H [] T KT' = KT' T := rfl
theorem xHead_cons {dst : Option Tmp} {op : Op} {ty : TypeId} {pos : String} {af : Array Edge} {r : List Oper} :
    xHead Γ ops H (⟨dst, op, ty, pos, af, none⟩ :: r) T KT' = xquiet Γ op (ev T) H fun v => xHead Γ ops H r (putT T dst v) KT' := rfl
theorem xHead_consG {dst : Option Tmp} {op : Op} {ty : TypeId} {pos : String} {af : Array Edge} {j : Nat} {w : Bool} {r : List Oper} :
    xHead Γ ops H (⟨dst, op, ty, pos, af, some (j, w)⟩ :: r) T KT' = xguard T (some ((ops[j]?).bind (·.dst), w)) (fun T => xquiet Γ op (ev T) H fun v => xHead Γ ops H r (putT T dst v) KT') (fun T => xHead Γ ops H r (putT T dst undefT) KT') := rfl
theorem xguard_none {r s : List TV → Prop} : xguard T none r s = r T := rfl
theorem xguard_some {d : Tmp} {w : Bool} {r s : List TV → Prop} : xguard T (some (some d, w)) r s = xguardV (T.getD d undefT) T d w r s := rfl
theorem xguardV_bool {t w : Bool} {d : Tmp} {r s : List TV → Prop} : xguardV (.s (.v (.bool t))) T d w r s = if t = w then r (T.set d (.s (.v (.bool w)))) else s (T.set d (.s (.v (.bool !w)))) := by
  have e : xguardV (.s (.v (.bool t))) T d w r s = ((t = w → r (T.set d (.s (.v (.bool w))))) ∧ (t = !w → s (T.set d (.s (.v (.bool !w)))))) := rfl
  rw [e]
  cases t <;> cases w <;> simp
theorem xguardV_tup {l : List AV} {w : Bool} {d : Tmp} {r s : List TV → Prop} : xguardV (.tup l) T d w r s = s T := rfl
theorem xguardV_undef {w : Bool} {d : Tmp} {r s : List TV → Prop} : xguardV undefT T d w r s = s T := rfl
theorem putT_some {d : Tmp} {v : TV} : putT T (some d) v = T.set d v := rfl
theorem putT_none {v : TV} : putT T none v = T := rfl
theorem ev_tmp {t : Tmp} : ev T (.tmp t) = T.getD t undefT := rfl
theorem ev_const {v : Value} : ev T (.const v) = .s (.v v) := rfl
theorem ev_global {g : Nat} : ev T (.global g) = .s (.v (.pointer (some ⟨g, 0, none⟩))) := rfl
theorem ev_func {f : FuncId} : ev T (.func f) = .s (.v (.func (.func f) #[] #[])) := rfl
theorem app_none : HE.app .none H = H := rfl
theorem app_new {b : AB} : HE.app (.new b) H = H ++ [b] := rfl
theorem app_put {j : Nat} {cs : List SV} : HE.app (.put j cs) H = putH H j cs := rfl
theorem putH_zero {b : AB} {cs : List SV} : putH (b :: H) 0 cs = ⟨b.t, cs⟩ :: H := rfl
theorem putH_succ {b : AB} {j : Nat} {cs : List SV} : putH (b :: H) (j + 1) cs = b :: putH H j cs := rfl

theorem st_call {c : Call} : xstep Γ (.call c) E H KK = xcall Γ c E H KK := rfl
theorem st_move {x : Operand} : xstep Γ (.move x) E H KK = KK (E x) H := rfl
theorem st_assign {x : Operand} : xstep Γ (.assign x) E H KK = KK (E x) H := rfl
theorem st_pick {c a b : Operand} : xstep Γ (.pick c a b) E H KK = xpick (E c) (E a) (E b) fun v e => KK v (e.app H) := rfl
theorem st_alloc {e : TypeId} : xstep Γ (.alloc e) E H KK = xnew Γ e (zeroA Γ.P e) H.length fun v e => KK v (e.app H) := rfl
theorem st_box {e : TypeId} {x : Operand} : xstep Γ (.box e x) E H KK = xnew Γ e (cellsOf (E x)) H.length fun v e => KK v (e.app H) := rfl
theorem st_build {t : TypeId} {ps : List (Nat × Operand)} : xstep Γ (.build t ps.toArray) E H KK = (known Γ.P t = true ∧ xbuild ((zeroA Γ.P t).bind fun z => fillA (placeOf Γ.P t) z (ps.map fun p => (p.1, cellsOf (E p.2)))) fun v e => KK v (e.app H)) := rfl
theorem st_load {t : TypeId} {a : Operand} : xstep Γ (.load t a) E H KK = xload Γ t (E a) H fun v e => KK v (e.app H) := rfl
theorem st_store {t : TypeId} {a x : Operand} : xstep Γ (.store t a x) E H KK = xstore Γ t (E a) (E x) H fun v e => KK v (e.app H) := rfl
theorem st_nilCheck {x : Operand} : xstep Γ (.nilCheck x) E H KK = xnil (E x) fun v e => KK v (e.app H) := rfl
theorem st_binOp {op : BinOp} {t ty : TypeId} {x y : Operand} : xstep Γ (.binOp op t x y ty) E H KK = xbin Γ.P op t (E x) (E y) fun v e => KK v (e.app H) := rfl
theorem st_unOp {op : UnOp} {t : TypeId} {x : Operand} : xstep Γ (.unOp op t x) E H KK = xun op (E x) fun v e => KK v (e.app H) := rfl
theorem st_convert {s d : TypeId} {x : Operand} : xstep Γ (.convert s d x) E H KK = xconv (intKindOf Γ.P s) (intKindOf Γ.P d) (E x) fun v e => KK v (e.app H) := rfl
theorem st_fieldAddr {s : TypeId} {x : Operand} {f : Nat} : xstep Γ (.fieldAddr s x f) E H KK = xfieldAddr (fieldOff Γ.P s f) (E x) fun v e => KK v (e.app H) := rfl
theorem st_field {s : TypeId} {x : Operand} {f : Nat} : xstep Γ (.field s x f) E H KK = xfield Γ.P (fieldOff Γ.P s f) (E x) fun v e => KK v (e.app H) := rfl
theorem st_indexAddr {t : TypeId} {x i : Operand} : xstep Γ (.indexAddr t x i) E H KK = xindexAddr Γ.P (arrOf Γ.P t) (slcOf Γ.P t) (E x) (E i) fun v e => KK v (e.app H) := rfl
theorem st_index {t : TypeId} {x i : Operand} : xstep Γ (.index t x i) E H KK = xindex Γ.P (arrOf Γ.P t) (E x) (E i) fun v e => KK v (e.app H) := rfl
theorem st_extract {x : Operand} {i : Nat} : xstep Γ (.extract x i) E H KK = xextract (E x) i fun v e => KK v (e.app H) := rfl

theorem qt_call {c : Call} : xquiet Γ (.call c) E H KV = xcallH Γ c E H KV := rfl
theorem qt_move {x : Operand} : xquiet Γ (.move x) E H KV = KV (E x) := rfl
theorem qt_assign {x : Operand} : xquiet Γ (.assign x) E H KV = KV (E x) := rfl
theorem qt_pick {c a b : Operand} : xquiet Γ (.pick c a b) E H KV = xpick (E c) (E a) (E b) (quietK KV) := rfl
theorem qt_build {t : TypeId} {ps : List (Nat × Operand)} : xquiet Γ (.build t ps.toArray) E H KV = (known Γ.P t = true ∧ xbuild ((zeroA Γ.P t).bind fun z => fillA (placeOf Γ.P t) z (ps.map fun p => (p.1, cellsOf (E p.2)))) (quietK KV)) := rfl
theorem qt_load {t : TypeId} {a : Operand} : xquiet Γ (.load t a) E H KV = xload Γ t (E a) H (quietK KV) := rfl
theorem qt_nilCheck {x : Operand} : xquiet Γ (.nilCheck x) E H KV = xnil (E x) (quietK KV) := rfl
theorem qt_binOp {op : BinOp} {t ty : TypeId} {x y : Operand} : xquiet Γ (.binOp op t x y ty) E H KV = xbin Γ.P op t (E x) (E y) (quietK KV) := rfl
theorem qt_unOp {op : UnOp} {t : TypeId} {x : Operand} : xquiet Γ (.unOp op t x) E H KV = xun op (E x) (quietK KV) := rfl
theorem qt_convert {s d : TypeId} {x : Operand} : xquiet Γ (.convert s d x) E H KV = xconv (intKindOf Γ.P s) (intKindOf Γ.P d) (E x) (quietK KV) := rfl
theorem qt_fieldAddr {s : TypeId} {x : Operand} {f : Nat} : xquiet Γ (.fieldAddr s x f) E H KV = xfieldAddr (fieldOff Γ.P s f) (E x) (quietK KV) := rfl
theorem qt_field {s : TypeId} {x : Operand} {f : Nat} : xquiet Γ (.field s x f) E H KV = xfield Γ.P (fieldOff Γ.P s f) (E x) (quietK KV) := rfl
theorem qt_indexAddr {t : TypeId} {x i : Operand} : xquiet Γ (.indexAddr t x i) E H KV = xindexAddr Γ.P (arrOf Γ.P t) (slcOf Γ.P t) (E x) (E i) (quietK KV) := rfl
theorem qt_index {t : TypeId} {x i : Operand} : xquiet Γ (.index t x i) E H KV = xindex Γ.P (arrOf Γ.P t) (E x) (E i) (quietK KV) := rfl
theorem qt_extract {x : Operand} {i : Nat} : xquiet Γ (.extract x i) E H KV = xextract (E x) i (quietK KV) := rfl
theorem quietK_none {v : TV} : quietK KV v .none = KV v := rfl

theorem xpick_bool {t : Bool} {a b : TV} : xpick (.s (.v (.bool t))) a b K = K (pickT t a b) .none := rfl
theorem pickT_true {a b : TV} : pickT true a b = a := by unfold pickT; split <;> simp
theorem pickT_false {a b : TV} : pickT false a b = b := by unfold pickT; split <;> simp
theorem pickT_bool {t x y : Bool} : pickT t (.s (.v (.bool x))) (.s (.v (.bool y))) = .s (.v (.bool (if t then x else y))) := rfl
theorem xnew_some {e : TypeId} {cs : List SV} {n : Nat} : xnew Γ e (some cs) n K = (¬ Γ.ev.TM e ∧ K (.s (.p n 0)) (.new ⟨e, cs⟩)) := rfl
theorem xnewS_some {e : TypeId} {cs : List SV} {n m : Nat} : xnewS Γ e (some cs) n m K = (¬ Γ.ev.TM e ∧ K (.s (.sl n 0 m m)) (.new ⟨e, cs⟩)) := rfl
theorem cellsOf_agg {l : List SV} : cellsOf (.agg l) = some l := rfl
theorem cellsOf_vagg {l : List Value} : cellsOf (.s (.v (.agg l.toArray))) = some (l.map .v) := rfl
theorem cellsOf_int {k : IntKind} {n : Int} : cellsOf (.s (.v (.int k n))) = some [.v (.int k n)] := rfl
theorem cellsOf_bool {b : Bool} : cellsOf (.s (.v (.bool b))) = some [.v (.bool b)] := rfl
theorem cellsOf_string {s : ByteArray} : cellsOf (.s (.v (.string s))) = some [.v (.string s)] := rfl
theorem cellsOf_slice {a : Option Addr} {n c : Nat} : cellsOf (.s (.v (.slice a n c))) = some [.v (.slice a n c)] := rfl
theorem cellsOf_pointer {a : Option Addr} : cellsOf (.s (.v (.pointer a))) = some [.v (.pointer a)] := rfl
theorem cellsOf_p {j o : Nat} : cellsOf (.s (.p j o)) = some [.p j o] := rfl
theorem cellsOf_sl {j o n c : Nat} : cellsOf (.s (.sl j o n c)) = some [.sl j o n c] := rfl
theorem xload_p {t : TypeId} {j off : Nat} : xload Γ t (.s (.p j off)) H K = xpart (rowOf Γ.P t) (sz Γ.P t) off (H[j]?.map AB.cs) K := rfl
theorem xload_v {t : TypeId} {ad : Addr} : xload Γ t (.s (.v (.pointer (some ad)))) H K = xext Γ (rowOf Γ.P t) (sz Γ.P t) ad K := rfl
theorem xpart_row {n o : Nat} {cs : List SV} : xpart (some true) n o (some cs) K = (o + n ≤ cs.length ∧ K (.agg (part cs o n)) .none) := rfl
theorem xpart_one {n o : Nat} {cs : List SV} : xpart (some false) n o (some cs) K = xcell cs[o]? K := rfl
theorem xcell_some {x : SV} : xcell (some x) K = K (.s x) .none := rfl
theorem xstore_p {t : TypeId} {j off : Nat} {x : TV} : xstore Γ t (.s (.p j off)) x H K = xput (szO Γ.P t) off j H[j]? (cellsOf x) K := rfl
theorem xput_some {n : Option Nat} {o j : Nat} {b : AB} {cs : List SV} : xput n o j (some b) (some cs) K = (n = some cs.length ∧ o + cs.length ≤ b.cs.length ∧ oneAll cs ∧ K undefT (.put j (splice b.cs o cs))) := rfl
theorem splice_whole {bs cs : List SV} (h : cs.length = bs.length) : splice bs 0 cs = cs := by rw [splice_eq _ _ _ (by omega)]; simp [← h]
theorem splice_one {bs : List SV} {o : Nat} {x : SV} : splice bs o [x] = bs.set o x := rfl
theorem splice_all {bs cs : List SV} (h : cs.length = bs.length) (h2 : cs.length ≠ 1) : splice bs 0 cs = cs := by
  unfold splice
  split
  · simp at h2
  · simp [h]
theorem oneAll_nil : oneAll [] = True := by simp [oneAll]
theorem oneAll_cons {x : SV} {l : List SV} : oneAll (x :: l) = (x.one = true ∧ oneAll l) := by simp [oneAll]
theorem one_int {k : IntKind} {n : Int} : (SV.v (.int k n)).one = true := rfl
theorem one_bool {b : Bool} : (SV.v (.bool b)).one = true := rfl
theorem one_slice {a : Option Addr} {n c : Nat} : (SV.v (.slice a n c)).one = true := rfl
theorem one_pointer {a : Option Addr} : (SV.v (.pointer a)).one = true := rfl
theorem one_p {j o : Nat} : (SV.p j o).one = true := rfl
theorem one_sl {j o n c : Nat} : (SV.sl j o n c).one = true := rfl
theorem xnil_p {j o : Nat} : xnil (.s (.p j o)) K = K (.s (.p j o)) .none := rfl
theorem xnil_v {ad : Addr} : xnil (.s (.v (.pointer (some ad)))) K = K (.s (.v (.pointer (some ad)))) .none := rfl

theorem xbin_int {P : Program} {op : BinOp} {t : TypeId} {k k' : IntKind} {m n : Int} : xbin P op t (.s (.v (.int k m))) (.s (.v (.int k' n))) K = xint op k m k' n K := rfl
theorem xbin_bool {P : Program} {op : BinOp} {t : TypeId} {x y : Bool} : xbin P op t (.s (.v (.bool x))) (.s (.v (.bool y))) K = xeqB (isBoolT P t) (eqNeg op) (x == y) K := rfl
theorem xbin_agg {P : Program} {op : BinOp} {t : TypeId} {a b : List SV} : xbin P op t (.agg a) (.agg b) K = xeqR P t (eqNeg op) (.agg a) (.agg b) K := rfl
theorem xbin_aggv {P : Program} {op : BinOp} {t : TypeId} {a : List SV} {b : Array Value} : xbin P op t (.agg a) (.s (.v (.agg b))) K = xeqR P t (eqNeg op) (.agg a) (.s (.v (.agg b))) K := rfl
theorem xbin_vagg {P : Program} {op : BinOp} {t : TypeId} {a : Array Value} {b : List SV} : xbin P op t (.s (.v (.agg a))) (.agg b) K = xeqR P t (eqNeg op) (.s (.v (.agg a))) (.agg b) K := rfl
theorem xbin_pnil {P : Program} {op : BinOp} {t : TypeId} {j o : Nat} : xbin P op t (.s (.p j o)) (.s (.v (.pointer none))) K = xeqB (isPtr P t) (eqNeg op) false K := rfl
theorem xbin_vnil {P : Program} {op : BinOp} {t : TypeId} {x : Option Addr} : xbin P op t (.s (.v (.pointer x))) (.s (.v (.pointer none))) K = xeqB (isPtr P t) (eqNeg op) x.isNone K := rfl
theorem xeqB_eql {ok r : Bool} : xeqB ok (eqNeg .eql) r K = (ok = true ∧ K (.s (.v (.bool r))) .none) := rfl
theorem xeqB_neq {ok r : Bool} : xeqB ok (eqNeg .neq) r K = (ok = true ∧ K (.s (.v (.bool !r))) .none) := rfl
theorem xeqR_eql {P : Program} {t : TypeId} {a b : TV} : xeqR P t (eqNeg .eql) a b K = xeqA (eqTy P t) false (litsA P t (cellsOf a)) (litsA P t (cellsOf b)) K := rfl
theorem xeqR_neq {P : Program} {t : TypeId} {a b : TV} : xeqR P t (eqNeg .neq) a b K = xeqA (eqTy P t) true (litsA P t (cellsOf a)) (litsA P t (cellsOf b)) K := rfl
theorem xeqA_false {ok : Bool} {x y : List Lit} : xeqA ok false (some x) (some y) K = (ok = true ∧ K (.s (.v (.bool (litsEq x y)))) .none) := rfl
theorem xeqA_true {ok : Bool} {x y : List Lit} : xeqA ok true (some x) (some y) K = (ok = true ∧ K (.s (.v (.bool !(litsEq x y)))) .none) := rfl
theorem xint_add {k k' : IntKind} {m n : Int} : xint .add k m k' n K = (k = k' ∧ K (.s (.v (.int k (k.wrap (m + n))))) .none) := rfl
theorem xint_sub {k k' : IntKind} {m n : Int} : xint .sub k m k' n K = (k = k' ∧ K (.s (.v (.int k (k.wrap (m - n))))) .none) := rfl
theorem xint_mul {k k' : IntKind} {m n : Int} : xint .mul k m k' n K = (k = k' ∧ K (.s (.v (.int k (k.wrap (m * n))))) .none) := rfl
theorem xint_quo {k k' : IntKind} {m n : Int} : xint .quo k m k' n K = (k = k' ∧ n ≠ 0 ∧ K (.s (.v (.int k (k.wrap (m.tdiv n))))) .none) := rfl
theorem xint_rem {k k' : IntKind} {m n : Int} : xint .rem k m k' n K = (k = k' ∧ n ≠ 0 ∧ K (.s (.v (.int k (m.tmod n)))) .none) := rfl
theorem xint_and {k k' : IntKind} {m n : Int} : xint .and k m k' n K = (k = k' ∧ K (.s (.v (.int k (bits .and k m n)))) .none) := rfl
theorem xint_or {k k' : IntKind} {m n : Int} : xint .or k m k' n K = (k = k' ∧ K (.s (.v (.int k (bits .or k m n)))) .none) := rfl
theorem xint_xor {k k' : IntKind} {m n : Int} : xint .xor k m k' n K = (k = k' ∧ K (.s (.v (.int k (bits .xor k m n)))) .none) := rfl
theorem xint_eql {k k' : IntKind} {m n : Int} : xint .eql k m k' n K = (k = k' ∧ K (.s (.v (.bool (m == n)))) .none) := rfl
theorem xint_neq {k k' : IntKind} {m n : Int} : xint .neq k m k' n K = (k = k' ∧ K (.s (.v (.bool (m != n)))) .none) := rfl
theorem xint_lss {k k' : IntKind} {m n : Int} : xint .lss k m k' n K = (k = k' ∧ K (.s (.v (.bool (decide (m < n))))) .none) := rfl
theorem xint_leq {k k' : IntKind} {m n : Int} : xint .leq k m k' n K = (k = k' ∧ K (.s (.v (.bool (decide (m ≤ n))))) .none) := rfl
theorem xint_gtr {k k' : IntKind} {m n : Int} : xint .gtr k m k' n K = (k = k' ∧ K (.s (.v (.bool (decide (n < m))))) .none) := rfl
theorem xint_geq {k k' : IntKind} {m n : Int} : xint .geq k m k' n K = (k = k' ∧ K (.s (.v (.bool (decide (n ≤ m))))) .none) := rfl
theorem xint_shl {k k' : IntKind} {m n : Int} : xint .shl k m k' n K = (0 ≤ n ∧ K (.s (.v (.int k (k.wrap (m * 2 ^ (min n.toNat k.bits)))))) .none) := rfl
theorem xint_shr {k k' : IntKind} {m n : Int} : xint .shr k m k' n K = (0 ≤ n ∧ K (.s (.v (.int k (m.fdiv (2 ^ (min n.toNat k.bits)))))) .none) := rfl
theorem bits_u64 : IntKind.bits .u64 = 64 := rfl
theorem bits_u32 : IntKind.bits .u32 = 32 := rfl
theorem bits_i64 : IntKind.bits .i64 = 64 := rfl
theorem bits_u8 : IntKind.bits .u8 = 8 := rfl
theorem xun_neg {k : IntKind} {n : Int} : xun .neg (.s (.v (.int k n))) K = K (.s (.v (.int k (k.wrap (0 - n))))) .none := rfl
theorem xun_not {b : Bool} : xun .not (.s (.v (.bool b))) K = K (.s (.v (.bool (!b)))) .none := rfl
theorem xconv_int {s d k : IntKind} {n : Int} : xconv (some s) (some d) (.s (.v (.int k n))) K = K (.s (.v (.int d (d.wrap n)))) .none := rfl
theorem xfieldAddr_p {o : Nat} {t : TypeId} {j off : Nat} : xfieldAddr (some (o, t)) (.s (.p j off)) K = K (.s (.p j (off + o))) .none := rfl
theorem xfieldAddr_v {o : Nat} {t : TypeId} {ad : Addr} : xfieldAddr (some (o, t)) (.s (.v (.pointer (some ad)))) K = K (.s (.v (.pointer (some (ad.add o))))) .none := rfl
theorem xfield_some {P : Program} {o : Nat} {t : TypeId} {a : TV} : xfield P (some (o, t)) a K = (Ab.isAgg a = true ∧ xpart (rowOf P t) (P.cellsOf t) o (cellsOf a) K) := rfl
theorem isAgg_agg {l : List SV} : Ab.isAgg (.agg l) = true := rfl
theorem isAgg_vagg {l : Array Value} : Ab.isAgg (.s (.v (.agg l))) = true := rfl
theorem xindexAddr_arr {P : Program} {n : Nat} {e : TypeId} {s : Option TypeId} {j off : Nat} {k : IntKind} {i : Int} : xindexAddr P (some (n, e)) s (.s (.p j off)) (.s (.v (.int k i))) K = ((0 ≤ i ∧ i < (n : Int)) ∧ K (.s (.p j (off + i.toNat * P.cellsOf e))) .none) := rfl
theorem xindexAddr_sl {P : Program} {e : TypeId} {j off n c : Nat} {k : IntKind} {i : Int} : xindexAddr P none (some e) (.s (.sl j off n c)) (.s (.v (.int k i))) K = ((0 ≤ i ∧ i < (n : Int)) ∧ K (.s (.p j (off + i.toNat * P.cellsOf e))) .none) := rfl
theorem xindexAddr_vsl {P : Program} {e : TypeId} {ad : Addr} {n c : Nat} {k : IntKind} {i : Int} : xindexAddr P none (some e) (.s (.v (.slice (some ad) n c))) (.s (.v (.int k i))) K = ((0 ≤ i ∧ i < (n : Int)) ∧ K (.s (.v (.pointer (some (ad.add (i.toNat * P.cellsOf e)))))) .none) := rfl
theorem xindex_arr {P : Program} {n : Nat} {e : TypeId} {a : TV} {k : IntKind} {i : Int} : xindex P (some (n, e)) a (.s (.v (.int k i))) K = (Ab.isAgg a = true ∧ (0 ≤ i ∧ i < (n : Int)) ∧ xpart (rowOf P e) (P.cellsOf e) (i.toNat * P.cellsOf e) (cellsOf a) K) := rfl
theorem xextract_zero {a : AV} {l : List AV} : xextract (.tup (a :: l)) 0 K = K a.tv .none := rfl
theorem xextract_succ {a : AV} {l : List AV} {i : Nat} : xextract (.tup (a :: l)) (i + 1) K = xextract (.tup l) i K := rfl
theorem tv_s {x : SV} : (AV.s x).tv = .s x := rfl
theorem tv_agg {l : List SV} : (AV.agg l).tv = .agg l := rfl
theorem xbuild_some {cs : List SV} : xbuild (some cs) K = K (.agg cs) .none := rfl
theorem xcall_value {g : Operand} {as : List Operand} {ts : Array TypeId} : xcall Γ ⟨.value g, as.toArray, ts⟩ E H KK = xcalled Γ H (xfun (E g)) (as.map E) KK := rfl
theorem xcall_len {x : Operand} {t : TypeId} : xcall Γ ⟨.builtin .len, #[x], #[t]⟩ E H KK = xlen (isSlc Γ.P t) (E x) fun v => KK v H := rfl
theorem xcallH_value {g : Operand} {as : List Operand} {ts : Array TypeId} : xcallH Γ ⟨.value g, as.toArray, ts⟩ E H KV = xcalledV Γ H (xfun (E g)) (as.map E) KV := rfl
theorem xcallH_len {x : Operand} {t : TypeId} : xcallH Γ ⟨.builtin .len, #[x], #[t]⟩ E H KV = xlen (isSlc Γ.P t) (E x) KV := rfl
theorem xfun_func {f : FuncId} : xfun (.s (.v (.func (.func f) #[] #[]))) = some (f, [], []) := rfl
theorem xcalled_some {f : FuncId} {as : List TV} : xcalled Γ H (some (f, [], [])) as KK = xcallF Γ H f as KK := by simp [xcalled]
theorem xcalledV_some {f : FuncId} {as : List TV} : xcalledV Γ H (some (f, [], [])) as KV = xcallV Γ H f as KV := by simp [xcalledV]
theorem xlen_v {ok : Bool} {a : Option Addr} {n c : Nat} : xlen ok (.s (.v (.slice a n c))) KV = (ok = true ∧ KV (.s (.v (.int .i64 (n : Int))))) := rfl
theorem xlen_sl {ok : Bool} {j o n c : Nat} : xlen ok (.s (.sl j o n c)) KV = (ok = true ∧ KV (.s (.v (.int .i64 (n : Int))))) := rfl

def fillB (pl : Nat → Option (Nat × Nat)) (cells v : List SV) (r : List (Nat × Option (List SV))) : Option (Nat × Nat) → Option (List SV)
  | some (off, n) => if v.length = n ∧ off + v.length ≤ cells.length then fillA pl (setAt cells off v) r else none
  | none => none
theorem fillA_nil {pl : Nat → Option (Nat × Nat)} {cells : List SV} : fillA pl cells [] = some cells := rfl
theorem fillA_cons {pl : Nat → Option (Nat × Nat)} {cells v : List SV} {i : Nat} {r : List (Nat × Option (List SV))} : fillA pl cells ((i, some v) :: r) = fillB pl cells v r (pl i) := by
  simp only [fillA]
  cases h : pl i with
  | none => rfl
  | some p =>
    obtain ⟨off, n⟩ := p
    simp only [fillB]
    by_cases h1 : v.length = n ∧ off + v.length ≤ cells.length
    · rw [if_pos h1, if_neg (by simpa using h1)]
    · rw [if_neg h1, if_pos (by simp; omega)]
theorem fillB_some {pl : Nat → Option (Nat × Nat)} {cells v : List SV} {r : List (Nat × Option (List SV))} {off n : Nat} : fillB pl cells v r (some (off, n)) = if v.length = n ∧ off + v.length ≤ cells.length then fillA pl (setAt cells off v) r else none := rfl
theorem setAt_one {cells : List SV} {off : Nat} {x : SV} : setAt cells off [x] = cells.set off x := rfl

theorem xTr_nil : xTr Γ ops KL .nil true T H = KL T H := rfl
theorem xTr_false : xTr Γ ops KL .nil false T H = True := rfl
theorem xTr_cons {i : Nat} {sub rest : Tr} {b : Bool} : xTr Γ ops KL (.cons i sub rest) b T H = (xAt Γ ops ops[i]? T H (fun T H => xTr Γ ops KL sub true T H) ∧ xTr Γ ops KL rest false T H) := by
  simp only [xTr, xAt]
  cases ops[i]? <;> rfl
theorem xAt_some {o : Oper} : xAt Γ ops (some o) T H KL = xOps Γ ops [o] T H KL := rfl

/-! Try# Results, states that come again -/
theorem retQ_normal {P : Program} {rs : List ResultVar} : retQ P rs KK .normal T H = retV (resAll P T H rs) fun v => KK v H := rfl
theorem retQ_ret {P : Program} {rs : List ResultVar} : retQ P rs KK .ret T H = retV (resAll P T H rs) fun v => KK v H := rfl
theorem retV_one {a : AV} : retV (some [a]) KV = KV a.tv := rfl
theorem retV_nil : retV (some []) KV = KV (.tup []) := rfl
theorem retV_more {a b : AV} {l : List AV} : retV (some (a :: b :: l)) KV = KV (.tup (a :: b :: l)) := rfl
theorem resAll_nil {P : Program} : resAll P T H [] = some [] := rfl
theorem resAll_cons {P : Program} {r : ResultVar} {rs : List ResultVar} : resAll P T H (r :: rs) = consO (resOne P T H r) (resAll P T H rs) := rfl
theorem consO_some {a : AV} {l : List AV} : consO (some a) (some l) = some (a :: l) := rfl
theorem resOne_tmp {P : Program} {t : Tmp} : resOne P T H (.tmp t) = toAV (T.getD t undefT) := rfl
def resAt (P : Program) (x : TV) (H : Heap) (ty : TypeId) : Option AV := match x with | .s (.p j off) => resCell (rowOf P ty) (P.cellsOf ty) off (H[j]?.map AB.cs) | _ => none
theorem resOne_cell {P : Program} {a : Tmp} {ty : TypeId} : resOne P T H (.cell a ty) = resAt P (T.getD a undefT) H ty := rfl
theorem resAt_p {P : Program} {j off : Nat} {ty : TypeId} : resAt P (.s (.p j off)) H ty = resCell (rowOf P ty) (P.cellsOf ty) off (H[j]?.map AB.cs) := rfl
theorem resCell_row {n off : Nat} {cs : List SV} : resCell (some true) n off (some cs) = if off + n ≤ cs.length then some (.agg (part cs off n)) else none := rfl
theorem resCell_one {n off : Nat} {cs : List SV} : resCell (some false) n off (some cs) = (cs[off]?).map .s := rfl
theorem toAV_s {x : SV} : toAV (.s x) = some (.s x) := rfl
theorem toAV_agg {l : List SV} : toAV (.agg l) = some (.agg l) := rfl

theorem setMany_nil : setMany T [] = T := rfl
theorem setMany_cons {d : Nat} {v : TV} {r : List (Nat × TV)} : setMany T ((d, v) :: r) = setMany (T.set d v) r := rfl
theorem junk_nil {us : Nat → Value} : junk us [] = [] := rfl
theorem junk_cons {us : Nat → Value} {d : Nat} {r : List Nat} : junk us (d :: r) = (d, .s (.v (us d))) :: junk us r := rfl
theorem setCells_nil : setCells H [] = H := rfl
theorem setCells_cons {j : Nat} {cs : List SV} {r : List (Nat × List SV)} : setCells H ((j, cs) :: r) = setCells (putH H j cs) r := rfl
theorem agreeT_nil {js : List Nat} {sv : List (Nat × TV)} {i : Nat} : agreeT js sv i [] [] = True := rfl
theorem agreeT_cons {js : List Nat} {sv : List (Nat × TV)} {i : Nat} {x y : TV} : agreeT js sv i (x :: T) (y :: T') = (agreeS (sv.lookup i) (js.contains i) x y ∧ agreeT js sv (i + 1) T T') := rfl
theorem agreeS_some {v x y : TV} {j : Bool} : agreeS (some v) j x y = (y = v) := rfl
theorem agreeS_true {x y : TV} : agreeS none true x y = True := rfl
theorem agreeS_false {x y : TV} : agreeS none false x y = (y = x) := rfl
theorem lookup_cons {d i : Nat} {v : TV} {r : List (Nat × TV)} : List.lookup i ((d, v) :: r) = if i = d then some v else List.lookup i r := by
  simp only [List.lookup_cons]
  by_cases h : i = d
  · simp [h]
  · have : (i == d) = false := by simpa using h
    simp [h, this]
theorem prefix_ex {G : Heap} : (∃ G', H ++ G = H ++ G') = True := by simp
theorem prefix_ex0 : (∃ G', H = H ++ G') = True := by simp

theorem ctx0_P {P : Program} {w : World} : (ctx0 P w).P = P := rfl
theorem ctx0_TM {P : Program} {w : World} {e : TypeId} : (ctx0 P w).ev.TM e = False := rfl

/-! Try# Numbers -/
theorem wrap_i64_id {x : Int} (h : -9223372036854775808 ≤ x ∧ x < 9223372036854775808) : IntKind.i64.wrap x = x := by
  rw [IntKind.wrap_i64]
  omega
theorem wrap_u64 (x : Int) : IntKind.u64.wrap x = x % 18446744073709551616 := by rfl
theorem tdiv_nn {m n : Int} (h : 0 ≤ m) : m.tdiv n = m / n := Int.tdiv_eq_ediv_of_nonneg h
theorem tmod_nn {m n : Int} (h : 0 ≤ m) : m.tmod n = m % n := Int.tmod_eq_emod_of_nonneg h
theorem fdiv_pow (m : Int) (n : Nat) : m.fdiv (2 ^ n) = m / 2 ^ n := Int.fdiv_eq_ediv_of_nonneg m (Int.pow_nonneg (by omega))
end

end Go.Ab
