/-
  Operations in a row; code; loops; calls.
-/
import Derived.Test.YtmipfmjeppodmaaAb4
namespace Go.Ab
open Go Go.RowKit
set_option linter.unusedSimpArgs false
set_option linter.unusedVariables false

abbrev KH := TV → Heap → Prop

def callable (P : Program) (f : FuncId) : Bool := match P.funcs[f]? with | some fn => fn.body.isSome && fn.name != "runtime.NumGoroutine" | none => false

/-- A call, of which we know what it yields and that it leaves all as it was. -/
def CalP (Γ : Ctx) (H : Heap) (f : FuncId) (args : List TV) (r : TV) : Prop :=
  ∀ β w, Rep Γ H β w → Calls Γ.P f (args.map (TV.conc β)).toArray w fun e w' => (∀ β', Agrees H.length β β' → e = .returned (r.conc β')) ∧ Ext Γ.ev Γ.B w w'

/-- A call, of which we know what it may yield, and what may become of our blocks. -/
def CalG (Γ : Ctx) (H : Heap) (f : FuncId) (args : List TV) (R : KH) : Prop :=
  ∀ β w, Rep Γ H β w → Calls Γ.P f (args.map (TV.conc β)).toArray w fun e w' =>
    ∃ r H' β', R r H' ∧ Agrees H.length β β' ∧ H.length ≤ H'.length ∧ Rep Γ H' β' w' ∧ ∀ β'', Agrees H'.length β' β'' → e = .returned (r.conc β'')

theorem CalP.gen {Γ : Ctx} {H : Heap} {f : FuncId} {args : List TV} {r : TV} (h : CalP Γ H f args r) : CalG Γ H f args fun r' H' => r' = r ∧ H' = H :=
  fun β w hR => (h β w hR).mono fun _ _ ⟨he, hx⟩ => ⟨r, H, β, ⟨rfl, rfl⟩, .refl _ _, Nat.le_refl _, hR.ext hx, he⟩

/-- A function without a body: the model's own answer. -/
def ExtC (P : Program) (f : FuncId) (args : List TV) (r : TV) : Prop :=
  ∀ (β : Nat → Nat) (w : World), (callFunc f (args.map (TV.conc β)).toArray).run P w = .ok (.value (r.conc β)) w

def xcallF (Γ : Ctx) (H : Heap) (f : FuncId) (args : List TV) (K : KH) : Prop :=
  (callable Γ.P f = true ∧ ∃ R, CalG Γ H f args R ∧ ∀ r H', R r H' → K r H') ∨ ∃ r, ExtC Γ.P f args r ∧ r.ok 0 ∧ K r H

theorem xcall_gen {Γ : Ctx} {H : Heap} {f : FuncId} {args : List TV} {K : KH} (R : KH) (hc : callable Γ.P f = true) (h : CalG Γ H f args R) (hK : ∀ r H', R r H' → K r H') : xcallF Γ H f args K := .inl ⟨hc, R, h, hK⟩
theorem xcall_ext {Γ : Ctx} {H : Heap} {f : FuncId} {args : List TV} {K : KH} {r : TV} (h : ExtC Γ.P f args r) (ho : r.ok 0) (hK : K r H) : xcallF Γ H f args K := .inr ⟨r, h, ho, hK⟩

theorem xcall_pure {Γ : Ctx} {H : Heap} {f : FuncId} {args : List TV} {K : KH} {r : TV} (hc : callable Γ.P f = true) (h : CalP Γ H f args r) (hK : K r H) : xcallF Γ H f args K :=
  .inl ⟨hc, _, h.gen, fun _ _ ⟨h1, h2⟩ => by rw [h1, h2]; exact hK⟩

/-- The same, where nothing but the value may be asked. -/
def xcallV (Γ : Ctx) (H : Heap) (f : FuncId) (args : List TV) (K : TV → Prop) : Prop :=
  (callable Γ.P f = true ∧ ∃ r, CalP Γ H f args r ∧ K r) ∨ ∃ r, ExtC Γ.P f args r ∧ r.ok 0 ∧ K r
theorem xcallV_pure {Γ : Ctx} {H : Heap} {f : FuncId} {args : List TV} {K : TV → Prop} {r : TV} (hc : callable Γ.P f = true) (h : CalP Γ H f args r) (hK : K r) : xcallV Γ H f args K := .inl ⟨hc, r, h, hK⟩
theorem xcallV_ext {Γ : Ctx} {H : Heap} {f : FuncId} {args : List TV} {K : TV → Prop} {r : TV} (h : ExtC Γ.P f args r) (ho : r.ok 0) (hK : K r) : xcallV Γ H f args K := .inr ⟨r, h, ho, hK⟩

def xlen (ok : Bool) (x : TV) (K : TV → Prop) : Prop :=
  match x with
  | .s (.v (.slice _ n _)) => ok = true ∧ K (.s (.v (.int .i64 (n : Int))))
  | .s (.sl _ _ n _) => ok = true ∧ K (.s (.v (.int .i64 (n : Int))))
  | _ => False

/-- Which function, with what first and last. -/
def xfun (x : TV) : Option (FuncId × List TV × List TV) :=
  match x with
  | .s (.v (.func (.func f) a c)) => some (f, a.toList.map (fun v => .s (.v v)), c.toList.map (fun v => .s (.v v)))
  | _ => none
def xcalled (Γ : Ctx) (H : Heap) (g : Option (FuncId × List TV × List TV)) (args : List TV) (K : KH) : Prop :=
  match g with
  | some (f, a, c) => xcallF Γ H f (a ++ args ++ c) K
  | none => False
def xcall (Γ : Ctx) (c : Call) (E : Operand → TV) (H : Heap) (K : KH) : Prop :=
  match c.callee with
  | .value g => xcalled Γ H (xfun (E g)) (c.args.toList.map E) K
  | .builtin .len => match c.args.toList, c.argTypes.toList with
    | [x], [t] => xlen (isSlc Γ.P t) (E x) fun v => K v H
    | _, _ => False
  | _ => False

def xstep (Γ : Ctx) (op : Op) (E : Operand → TV) (H : Heap) (K : KH) : Prop :=
  match op with
  | .call c => xcall Γ c E H K
  | op => xop Γ op E H fun v e => K v (e.app H)

def putT (T : List TV) (dst : Option Tmp) (v : TV) : List TV := match dst with | some d => T.set d v | none => T

/-- A guard: what it says of a slot. -/
def xguardV (x : TV) (T : List TV) (d : Tmp) (want : Bool) (run skip : List TV → Prop) : Prop :=
  match x with
  | .s (.v (.bool t)) => (t = want → run (T.set d (.s (.v (.bool want))))) ∧ (t = !want → skip (T.set d (.s (.v (.bool !want)))))
  | .tup _ => skip T
  | _ => False
def xguard (T : List TV) (g : Option (Option Tmp × Bool)) (run skip : List TV → Prop) : Prop :=
  match g with
  | none => run T
  | some (none, _) => skip T
  | some (some d, want) => xguardV (T.getD d undefT) T d want run skip

/-- The operations in their order. -/
def xOps (Γ : Ctx) (ops : Array Oper) : List Oper → List TV → Heap → (List TV → Heap → Prop) → Prop
  | [], T, H, K => K T H
  | o :: r, T, H, K => xguard T (o.guard.map fun g => ((ops[g.1]?).bind (·.dst), g.2))
      (fun T => xstep Γ o.op (ev T) H fun v H' => xOps Γ ops r (putT T o.dst v) H' K)
      (fun T => xOps Γ ops r (putT T o.dst undefT) H K)

/-- The state. -/
def St (Γ : Ctx) (T : List TV) (H : Heap) (a : Act) (w : World) : Prop :=
  ∃ β, Holds H.length β T a.tmps ∧ Rep Γ H β w ∧ a.defers = []

theorem Holds.put {n m : Nat} {β β' : Nat → Nat} {T : List TV} {a : Act} {dst : Option Tmp} {v : TV} {u : Value} (h : Holds n β T a.tmps) (hn : n ≤ m) (hβ : Agrees n β β') (hv : ∀ β'', Agrees m β' β'' → v.conc β'' = u) :
    Holds m β' (putT T dst v) (a.put dst u).tmps := by
  intro β'' h''
  have h1 := h β'' (hβ.trans (h''.mono hn))
  cases dst with
  | none => exact h1
  | some d =>
    simp only [Act.put, putT, h1]
    rw [← hv β'' h'']
    simp [List.map_set]

theorem putH_get (H : Heap) (j : Nat) (cs : List SV) (k : Nat) : (putH H j cs)[k]? = if j = k then (H[k]?).map (fun b => ⟨b.t, cs⟩) else H[k]? := by
  unfold putH
  rw [List.getElem?_modify]
  by_cases h : j = k
  · simp [h]
  · simp [h]
theorem putH_length (H : Heap) (j : Nat) (cs : List SV) : (putH H j cs).length = H.length := by simp [putH]

/-- What an operation that calls nothing leaves. -/
theorem Does.leaves {Γ : Ctx} {H : Heap} {β : Nat → Nat} {w : World} {v : TV} {e : HE} {r : Result Next}
    (hd : ∀ β', Agrees H.length β β' → Does Γ H β' w v e r) (hR : Rep Γ H β w) :
    ∃ u w' β', (r = .ok (.value u) w' ∨ (r = .ok .skip w' ∧ u = undef)) ∧ Agrees H.length β β' ∧ H.length ≤ (e.app H).length ∧ Rep Γ (e.app H) β' w' ∧ ∀ β'', Agrees (e.app H).length β' β'' → v.conc β'' = u := by
  have h0 := hd β (.refl _ _)
  cases e with
  | none =>
    refine ⟨v.conc β, w, β, .inl h0, .refl _ _, Nat.le_refl _, hR, fun β'' h'' => ?_⟩
    have h1 := hd β'' h''
    simp only [Does] at h0 h1
    rw [h0] at h1
    injection h1 with h1 _
    injection h1 with h1
    exact h1.symm
  | new b =>
    obtain ⟨hTM, hv, hr⟩ := h0
    have hlen : (HE.app (.new b) H).length = H.length + 1 := by simp [HE.app]
    have hconc : ∀ β', Agrees H.length β β' → b.conc β' = b.conc β := fun β' h' => by
      have h1 := (hd β' h').2.2
      rw [hr] at h1
      injection h1 with _ h1
      have h2 := congrArg (fun w' : World => w'.heap[w.heap.size]?) h1
      simp only [heap_alloc_new, Option.some.injEq] at h2
      exact h2.symm
    refine ⟨_, _, upd β H.length w.heap.size, .inl hr, upd_agrees _ _ _, by rw [hlen]; omega, ?_, fun β'' h'' => ?_⟩
    · refine ⟨⟨by rw [hlen]; exact Nat.le_succ_of_le hR.anc.1, hR.anc.2.trans ((upd_agrees _ _ _).mono hR.anc.1)⟩, hR.fr.ext (Ext.alloc _ _ _ _), fun i j hi hj he => ?_, fun j hj => ?_, fun j c hc => ?_, fun β' h' j c hc => ?_⟩
      · rw [hlen] at hi hj
        by_cases h1 : i = H.length
        · by_cases h2 : j = H.length
          · omega
          · have := hR.lt (j := j) (by omega)
            rw [h1, upd_same] at he
            rw [upd_agrees β H.length w.heap.size j (by omega)] at he
            omega
        · by_cases h2 : j = H.length
          · have := hR.lt (j := i) (by omega)
            rw [h2, upd_same] at he
            rw [upd_agrees β H.length w.heap.size i (by omega)] at he
            omega
          · rw [upd_agrees β H.length w.heap.size i (by omega), upd_agrees β H.length w.heap.size j (by omega)] at he
            exact hR.inj i j (by omega) (by omega) he
      · rw [hlen] at hj
        by_cases h1 : j = H.length
        · rw [h1, upd_same]; exact .inl hR.fr.size
        · rw [upd_agrees β H.length w.heap.size j (by omega)]; exact hR.lie j (by omega)
      · simp only [HE.app] at hc
        by_cases h1 : j < H.length
        · rw [List.getElem?_append_left h1] at hc; exact hR.typ j c hc
        · rw [List.getElem?_append_right (by omega)] at hc
          by_cases h2 : j - H.length = 0
          · simp only [h2, List.getElem?_cons_zero, Option.some.injEq] at hc; subst hc; exact hTM
          · rw [List.getElem?_eq_none (by simp; omega)] at hc; cases hc
      · rw [hlen] at h'
        have hag : Agrees H.length β β' := (upd_agrees β H.length w.heap.size).trans (h'.mono (by omega))
        simp only [HE.app] at hc
        by_cases h1 : j < H.length
        · rw [List.getElem?_append_left h1] at hc
          rw [upd_agrees β H.length w.heap.size j h1, Below.heap_alloc _ _ _ (hR.lt h1)]
          exact hR.blk β' hag j c hc
        · rw [List.getElem?_append_right (by omega)] at hc
          by_cases h2 : j - H.length = 0
          · have h3 : j = H.length := by omega
            simp only [h2, List.getElem?_cons_zero, Option.some.injEq] at hc
            subst hc
            rw [h3, upd_same, heap_alloc_new, hconc β' hag]
          · rw [List.getElem?_eq_none (by simp; omega)] at hc; cases hc
    · have h2 : β'' H.length = w.heap.size := by rw [h'' H.length (by rw [hlen]; omega), upd_same]
      rcases hv with rfl | ⟨k, rfl⟩
      · simp [conc_v, conc_p, conc_sl, conc_agg, conc_tup, h2, upd_same]
      · simp [conc_v, conc_p, conc_sl, conc_agg, conc_tup, h2, upd_same]
  | put j cs =>
    obtain ⟨rfl, ⟨b, hb, hl⟩, hr⟩ := h0
    have hjl : j < H.length := (List.getElem?_eq_some_iff.1 hb).1
    have hblk := hR.blk β (.refl _ _) j b hb
    have hlen : (HE.app (.put j cs) H).length = H.length := putH_length _ _ _
    have hconc : ∀ β', Agrees H.length β β' → cs.map (SV.conc β') = cs.map (SV.conc β) := fun β' h' => by
      have h1 := (hd β' h').2.2
      rw [hr, h' j hjl] at h1
      injection h1 with _ h1
      have h2 := congrArg (fun w : World => w.heap[β j]?) h1
      simp only [setRow_heap w (β j) _ _ _ _ hblk] at h2
      injection h2 with h2
      injection h2 with h2 _ _
      simpa using h2.symm
    refine ⟨undef, _, β, .inr ⟨hr, rfl⟩, .refl _ _, by rw [hlen]; omega, ?_, fun _ _ => rfl⟩
    refine ⟨⟨by rw [hlen]; exact hR.anc.1, hR.anc.2⟩, ⟨hR.fr.os, hR.fr.tape, hR.fr.output, by rw [setRow_size]; exact hR.fr.size, fun k hk => ?_⟩, fun i k hi hk => hR.inj i k (by rw [hlen] at hi; exact hi) (by rw [hlen] at hk; exact hk), fun k hk => hR.lie k (by rw [hlen] at hk; exact hk), fun k c hc => ?_, fun β' h' k c hc => ?_⟩
    · by_cases hkj : k = β j
      · left
        rcases hR.lie j hjl with h | h
        · omega
        · rw [hkj]; exact h
      · rcases hR.fr.blk k hk with h | h
        · exact .inl h
        · right
          unfold sameBlk at *
          rw [setRow_other _ _ _ _ hkj]
          exact h
    · simp only [HE.app] at hc
      rw [putH_get] at hc
      by_cases h1 : j = k
      · subst h1
        simp only [if_true, hb, Option.map_some, Option.some.injEq] at hc
        subst hc
        exact hR.typ j b hb
      · simp only [h1, if_false] at hc
        exact hR.typ k c hc
    · rw [hlen] at h'
      simp only [HE.app] at hc
      rw [putH_get] at hc
      by_cases h1 : j = k
      · subst h1
        simp only [if_true, hb, Option.map_some, Option.some.injEq] at hc
        subst hc
        rw [setRow_heap w (β j) _ _ _ _ hblk]
        simp only [AB.conc, hconc β' h']
      · simp only [h1, if_false] at hc
        have hkl : k < H.length := (List.getElem?_eq_some_iff.1 hc).1
        rw [setRow_other _ _ _ _ (fun he => h1 (hR.inj j k hjl hkl he.symm))]
        exact hR.blk β' h' k c hc


theorem run_callV {P : Program} {ρ : Operand → Value} {o : Oper} {c : Call} {g : Operand} {f : FuncId} {a cap : Array Value} (ho : o.op = .call c) (hc : c.callee = .value g) (hg : ρ g = .func (.func f) a cap)
    (w : World) : (execOp ρ o).run P w = (callFunc f (a ++ c.args.map ρ ++ cap)).run P w := by
  simp only [execOp, ho, resolve, hc, hg, Deferred.ofValue, invoke, Sem.run_bind, Sem.run_pure, Result.andThen_ok]

theorem run_callF {P : Program} {ρ : Operand → Value} {o : Oper} {c : Call} {g : Operand} {f : FuncId} {a cap : Array Value} (ho : o.op = .call c) (hc : c.callee = .value g) (hg : ρ g = .func (.func f) a cap)
    (hf : callable P f = true) (w : World) : (execOp ρ o).run P w = .ok (.enter f (a ++ c.args.map ρ ++ cap)) w := by
  rw [run_callV ho hc hg]
  unfold callable at hf
  split at hf
  · rename_i fn hfn
    simp only [Bool.and_eq_true, bne_iff_ne, ne_eq] at hf
    have hb : fn.body ≠ none := by intro h; simp [h] at hf
    simp [callFunc, hfn, hb, hf.2]
  · cases hf

theorem xcallF_wp {Γ : Ctx} {o : Oper} {c : Call} {T : List TV} {H : Heap} {K : KH} {a : Act} {w : World} {next : Act → World → Prop} {Q : Exit → Act → World → Prop}
    (ho : o.op = .call c) (h : xcall Γ c (ev T) H K) (hs : St Γ T H a w)
    (hn : ∀ v H' u w', K v H' → St Γ (putT T o.dst v) H' (a.put o.dst u) w' → next (a.put o.dst u) w') : o.wp Γ.P a w next Q := by
  obtain ⟨β, hT, hR, hd⟩ := hs
  have hev := eval_ev (a := a) (hT β (.refl _ _))
  have hput : ∀ u, (a.put o.dst u).defers = [] := fun u => by cases o.dst <;> exact hd
  unfold xcall at h
  split at h
  · rename_i g hc
    unfold xcalled at h
    split at h
    · rename_i f fa fc hg
      unfold xfun at hg
      split at hg
      · rename_i f' av cv hgv
        simp only [Option.some.injEq, Prod.mk.injEq] at hg
        obtain ⟨rfl, rfl, rfl⟩ := hg
        have hgc : a.eval g = .func (.func f') av cv := by rw [hev, hgv]; rfl
        have hargs : (((av.toList.map (fun v => TV.s (.v v))) ++ c.args.toList.map (ev T) ++ (cv.toList.map (fun v => TV.s (.v v)))).map (TV.conc β)).toArray = av ++ c.args.map a.eval ++ cv := by
          apply Array.ext'
          simp [conc_v, conc_p, conc_sl, conc_agg, conc_tup, Function.comp_def, hev]
        rcases h with ⟨hcall, R, hG, hK⟩ | ⟨r, hX, hok, hK⟩
        case inr =>
          have hrun := run_callV (P := Γ.P) ho hc hgc w
          have hX' := hX β w
          rw [hargs] at hX'
          unfold Oper.wp
          rw [hrun, hX']
          exact hn _ H _ w hK ⟨β, hT.put (Nat.le_refl _) (.refl _ _) (fun β'' h'' => TV.conc_ok hok (fun j hj => absurd hj (Nat.not_lt_zero j))), hR, hput _⟩
        have hrun := run_callF (P := Γ.P) ho hc hgc hcall w
        unfold Oper.wp
        rw [hrun]
        simp only [Oper.upon]
        have hG' := hG β w hR
        rw [hargs] at hG'
        refine hG'.mono fun e w' hh => ?_
        obtain ⟨r, H', β', hr, hag, hlen, hR', he⟩ := hh
        have he0 := he β' (.refl _ _)
        subst he0
        simp only
        refine hn r H' _ w' (hK r H' hr) ⟨β', ?_, hR', hput _⟩
        refine hT.put hlen hag (fun β'' h'' => ?_)
        have h1 := he β'' h''
        injection h1 with h1
        exact h1.symm
      · cases hg
    · exact h.elim
  · rename_i hc
    split at h
    · rename_i x t hx ht
      have hargs : c.args = #[x] := Array.ext' (by simpa using hx)
      have hts : c.argTypes = #[t] := Array.ext' (by simpa using ht)
      have fin : ∀ (n : Nat) (y : TV), ev T x = y → isSlc Γ.P t = true → (∃ ad cap, y.conc β = .slice ad n cap) → K (.s (.v (.int .i64 (n : Int)))) H → o.wp Γ.P a w next Q := by
        intro n y hy hsl ⟨ad, cap, hconc⟩ hK
        unfold isSlc at hsl
        split at hsl
        · rename_i e hu
          have hrun : (execOp a.eval o).run Γ.P w = .ok (.value (.int .i64 (n : Int))) w := by
            simp [execOp, ho, resolve, hc, hargs, hts, invoke, builtin, Builtin.len_, run_underlying hu, hev, hy, hconc, goInt]
          unfold Oper.wp
          rw [hrun]
          simp only [Oper.upon]
          refine hn _ H _ w hK ⟨β, ?_, hR, hput _⟩
          exact hT.put (Nat.le_refl _) (.refl _ _) (fun _ _ => rfl)
        · cases hsl
      unfold xlen at h
      split at h
      · rename_i ad n cap hy
        exact fin n _ hy h.1 ⟨ad, cap, rfl⟩ h.2
      · rename_i j off n cap hy
        exact fin n _ hy h.1 ⟨_, cap, rfl⟩ h.2
      · exact h.elim
    · exact h.elim
  · exact h.elim

/-- One operation. -/
theorem xstep_wp {Γ : Ctx} {o : Oper} {T : List TV} {H : Heap} {K : KH} {a : Act} {w : World} {next : Act → World → Prop} {Q : Exit → Act → World → Prop}
    (h : xstep Γ o.op (ev T) H K) (hs : St Γ T H a w)
    (hn : ∀ v H' u w', K v H' → St Γ (putT T o.dst v) H' (a.put o.dst u) w' → next (a.put o.dst u) w') : o.wp Γ.P a w next Q := by
  unfold xstep at h
  split at h
  · rename_i c ho
    exact xcallF_wp ho h hs hn
  · obtain ⟨β, hT, hR, hd⟩ := hs
    obtain ⟨v, e, hK, hsd⟩ := xop_sound h
    have hput : ∀ u, (a.put o.dst u).defers = [] := fun u => by cases o.dst <;> exact hd
    obtain ⟨u, w', β', hr, hag, hlen, hR', hv⟩ := Does.leaves (fun β' h' => hsd o β' a.eval w rfl (eval_ev (hT β' h')) (hR.agree h')) hR
    have hfin := hn v _ u w' hK ⟨β', hT.put hlen hag hv, hR', hput _⟩
    unfold Oper.wp
    rcases hr with hr | ⟨hr, rfl⟩
    · rw [hr]; exact hfin
    · rw [hr]; exact hfin

theorem St.set_same {Γ : Ctx} {T : List TV} {H : Heap} {a : Act} {w : World} {d : Nat} {x y : TV} (hs : St Γ T H a w) (hx : T.getD d undefT = x) (hne : d < T.length) (hy : ∀ β, y.conc β = x.conc β) : St Γ (T.set d y) H a w := by
  obtain ⟨β, hT, hR, hd⟩ := hs
  refine ⟨β, fun β' h' => ?_, hR, hd⟩
  rw [hT β' h', List.map_set, hy]
  congr 1
  apply List.ext_getElem?
  intro i
  rw [List.getElem?_set]
  split
  · rename_i h1
    subst h1
    simp [hne] at hx ⊢
    rw [hx]
  · rfl

theorem St.slot {Γ : Ctx} {T : List TV} {H : Heap} {a : Act} {w : World} (hs : St Γ T H a w) (d : Nat) : ∃ β, a.tmps[d]? = (T[d]?).map (TV.conc β) := by
  obtain ⟨β, hT, _, _⟩ := hs
  refine ⟨β, ?_⟩
  rw [hT β (.refl _ _)]
  simp

theorem xguard_wp {Γ : Ctx} {ops : Array Oper} {o : Oper} {T : List TV} {H : Heap} {a : Act} {w : World} {run skip : List TV → Prop} {G : Prop}
    (h : xguard T (o.guard.map fun g => ((ops[g.1]?).bind (·.dst), g.2)) run skip) (hs : St Γ T H a w)
    (hrun : ∀ T', Region.wanted o (yielded ops a.tmps) = true → run T' → St Γ T' H a w → G) (hskip : ∀ T', Region.wanted o (yielded ops a.tmps) = false → skip T' → St Γ T' H a w → G) : G := by
  unfold xguard at h
  cases hg : o.guard with
  | none =>
    simp only [hg, Option.map_none] at h
    exact hrun T (by simp [Region.wanted, hg]) h hs
  | some g =>
    obtain ⟨j, want⟩ := g
    simp only [hg, Option.map_some] at h
    cases hd : (ops[j]?).bind (·.dst) with
    | none =>
      simp only [hd] at h
      refine hskip T ?_ h hs
      simp [Region.wanted, hg, yielded, hd]
    | some d =>
      simp only [hd] at h
      obtain ⟨β, hsl⟩ := hs.slot d
      unfold xguardV at h
      split at h
      · rename_i t ht
        have hlt : d < T.length := by
          rcases Nat.lt_or_ge d T.length with h1 | h1
          · exact h1
          · simp [List.getD_eq_getElem?_getD, List.getElem?_eq_none h1, undefT] at ht
        have hT : T[d]? = some (.s (.v (.bool t))) := by
          simp [hlt] at ht ⊢; exact ht
        have hw : Region.wanted o (yielded ops a.tmps) = (t == want) := by
          simp [Region.wanted, hg, yielded, hd, hsl, hT, conc_v, conc_p, conc_sl, conc_agg, conc_tup]
        by_cases htw : t = want
        · subst htw
          exact hrun _ (by rw [hw]; simp) (h.1 rfl) (hs.set_same ht hlt (fun _ => rfl))
        · have htn : t = !want := by cases t <;> cases want <;> simp_all
          subst htn
          exact hskip _ (by rw [hw]; cases want <;> rfl) (h.2 rfl) (hs.set_same ht hlt (fun _ => rfl))
      · rename_i l hl
        refine hskip T ?_ h hs
        have : (T[d]?).map (TV.conc β) = none ∨ (T[d]?).map (TV.conc β) = some (.tuple (l.map (AV.conc β)).toArray) := by
          rcases Nat.lt_or_ge d T.length with h1 | h1
          · right; simp [h1] at hl ⊢; rw [hl]; rfl
          · left; simp [List.getElem?_eq_none h1]
        rw [← hsl] at this
        rcases this with h1 | h1 <;> simp [Region.wanted, hg, yielded, hd, h1]
      · exact h.elim

/-- THE OPERATIONS IN THEIR ORDER. -/
theorem xOps_wp {Γ : Ctx} {ops : Array Oper} {Q : Exit → Act → World → Prop} : ∀ (l : List Oper) {T : List TV} {H : Heap} {K : List TV → Heap → Prop} {a : Act} {w : World},
    xOps Γ ops l T H K → St Γ T H a w → (∀ T' H' a' w', K T' H' → St Γ T' H' a' w' → Q .normal a' w') → wpList Γ.P ops Q l a w
  | [], _, _, _, _, _, h, hs, hK => hK _ _ _ _ h hs
  | o :: l, T, H, K, a, w, h, hs, hK => by
    simp only [xOps] at h
    refine xguard_wp (ops := ops) (o := o) h hs (fun T' hw hr hs' => ?_) (fun T' hw hr hs' => ?_)
    · simp only [wpList, hw, if_true]
      exact .inl (xstep_wp hr hs' fun v H' u w' hv hs'' => xOps_wp l hv hs'' hK)
    · simp only [wpList, hw, Bool.false_eq_true, if_false]
      refine xOps_wp l hr ?_ hK
      obtain ⟨β, hT, hR, hd⟩ := hs'
      exact ⟨β, hT.put (Nat.le_refl _) (.refl _ _) (fun _ _ => rfl), hR, by cases o.dst <;> exact hd⟩

abbrev QX := Exit → List TV → Heap → Prop

/-- What is asked of abstract states, asked of worlds. -/
def lift (Γ : Ctx) (Q : QX) : Exit → Act → World → Prop := fun e a w => ∃ T H, Q e T H ∧ St Γ T H a w
/-- What a piece of code does. -/
def X (Γ : Ctx) (c : Code) (T : List TV) (H : Heap) (Q : QX) : Prop := ∀ a w, St Γ T H a w → c.wp Γ.P (lift Γ Q) a w

def seqQ (K : List TV → Heap → Prop) (Q : QX) : QX := fun e T H => match e with | .normal => K T H | e => Q e T H
def blockQ (id : Nat) (Q : QX) : QX := fun e T H => match e with | .exit i => if i = id then Q .normal T H else Q (.exit i) T H | e => Q e T H
def scopeQ (Q : QX) : QX := fun e T H => match e with | .goto _ => False | e => Q e T H
def xcond (c : TV) (x y : Prop) : Prop := match c with | .s (.v (.bool b)) => (b = true → x) ∧ (b = false → y) | _ => False

def xCode (Γ : Ctx) : Code → List TV → Heap → QX → Prop
  | .skip, T, H, Q => Q .normal T H
  | .region id ops draw, T, H, Q => if draw then X Γ (.region id ops true) T H Q else xOps Γ ops ops.toList T H (fun T H => Q .normal T H)
  | .seq a b, T, H, Q => xCode Γ a T H (seqQ (fun T H => X Γ b T H Q) Q)
  | .cond c a b, T, H, Q => xcond (ev T c) (xCode Γ a T H Q) (xCode Γ b T H Q)
  | .block id b, T, H, Q => xCode Γ b T H (blockQ id Q)
  | .loop b, T, H, Q => X Γ (.loop b) T H Q
  | .exit i, T, H, Q => Q (.exit i) T H
  | .ret, T, H, Q => Q .ret T H
  | .label _, T, H, Q => Q .normal T H
  | .scope b, T, H, Q => xCode Γ b T H (scopeQ Q)
  | c, T, H, Q => X Γ c T H Q

theorem X.mono {Γ : Ctx} {c : Code} {T : List TV} {H : Heap} {Q Q' : QX} (h : X Γ c T H Q) (hq : ∀ e T H, Q e T H → Q' e T H) : X Γ c T H Q' :=
  fun a w hs => wp_mono (h a w hs) fun _ _ _ ⟨T, H, h1, h2⟩ => ⟨T, H, hq _ _ _ h1, h2⟩

/-- THE CODE. -/
theorem X_of {Γ : Ctx} : ∀ (c : Code) {T : List TV} {H : Heap} {Q : QX}, xCode Γ c T H Q → X Γ c T H Q
  | .skip, _, _, _, h => fun _ _ hs => wp_skip ⟨_, _, h, hs⟩
  | .region id ops draw, T, H, Q, h => by
    cases draw
    · intro a w hs
      refine wp_region_list ?_
      simp only [xCode, Bool.false_eq_true, if_false] at h
      exact xOps_wp _ h hs fun T' H' a' w' hK hs' => ⟨T', H', hK, hs'⟩
    · simpa only [xCode, if_true] using h
  | .seq x y, T, H, Q, h => by
    intro a w hs
    refine wp_seq (wp_mono (X_of x h a w hs) fun e a' w' ⟨T', H', hq, hs'⟩ => ?_)
    cases e with
    | normal => exact hq a' w' hs'
    | _ => exact ⟨T', H', hq, hs'⟩
  | .cond c x y, T, H, Q, h => by
    intro a w hs
    simp only [xCode, xcond] at h
    split at h
    · rename_i b hb
      have hev : a.eval c = .bool b := by
        obtain ⟨β, hT, _, _⟩ := hs
        rw [eval_ev (hT β (.refl _ _)) c, hb]; rfl
      exact wp_cond_split hev (fun ht => X_of x (h.1 ht) a w hs) (fun ht => X_of y (h.2 ht) a w hs)
    · exact h.elim
  | .block id b, T, H, Q, h => by
    intro a w hs
    refine wp_block (wp_mono (X_of b h a w hs) fun e a' w' ⟨T', H', hq, hs'⟩ => ?_)
    cases e with
    | exit i =>
      simp only [Exit.inBlock]
      simp only [blockQ] at hq
      split
      · rename_i hi; simp only [hi, if_true] at hq; exact ⟨T', H', hq, hs'⟩
      · rename_i hi; simp only [hi, if_false] at hq; exact ⟨T', H', hq, hs'⟩
    | _ => exact ⟨T', H', hq, hs'⟩
  | .loop b, T, H, Q, h => h
  | .exit i, T, H, Q, h => fun _ _ hs => wp_exit ⟨_, _, h, hs⟩
  | .ret, T, H, Q, h => fun _ _ hs => wp_ret ⟨_, _, h, hs⟩
  | .scope b, T, H, Q, h => by
    intro a w hs
    refine wp_scope_straight (wp_mono (X_of b h a w hs) fun e a' w' ⟨T', H', hq, hs'⟩ => ?_)
    cases e with
    | goto l => exact hq.elim
    | _ => exact ⟨T', H', hq, hs'⟩
  | .rangeFunc .., _, _, _, h => h
  | .label _, _, _, _, h => fun _ _ hs => wp_label ⟨_, _, h, hs⟩
  | .goto _, _, _, _, h => h
  | .refuse _, _, _, _, h => h

end Go.Ab
