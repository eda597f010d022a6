/-
  A statement whose order is open: what only reads and calls may come in whatever order; what stands at its end comes in its own.
  (After the kit's own texts on regions that leave the world as it was, and on such a region with a tail.)
-/
import Derived.Test.YtmipfmjeppodmaaAb6
import Derived.Deep.Quiet
import Derived.StillTail
namespace Go.Ab
open Go Go.RowKit
set_option linter.unusedSimpArgs false
set_option linter.unusedVariables false

section
variable {P : Program} {ops : Array Oper} {md : Region.Mode} {C : World → Prop}

/-- Whatever order is picked: the operations below n are quiet in the class; the others are asked in every world of it. -/
def wpAnyM (P : Program) (md : Region.Mode) (ops : Array Oper) (C : World → Prop) (n : Nat) (Q : Exit → Act → World → Prop) : Nat → Array Bool → Act → Prop
  | 0, listed, a => Region.ready md ops listed = [] ∧ ∀ w, C w → Q .normal a w
  | f + 1, listed, a =>
    (Region.ready md ops listed = [] → ∀ w, C w → Q .normal a w) ∧
    ∀ i ∈ Region.ready md ops listed, (i < n → qOp P ops C i (wpAnyM P md ops C n Q f (listed.setIfInBounds i true)) a) ∧
      (n ≤ i → ∀ w, C w → wpOp P ops Q i (wpAny P md ops Q f (listed.setIfInBounds i true)) a w)

theorem wpAny_of_M {n : Nat} {Q : Exit → Act → World → Prop} : ∀ (f : Nat) (listed : Array Bool) (a : Act) (w : World), C w → wpAnyM P md ops C n Q f listed a → wpAny P md ops Q f listed a w
  | 0, listed, a, w, hw, h => ⟨h.1, h.2 w hw⟩
  | f + 1, listed, a, w, hw, h => ⟨fun h0 => h.1 h0 w hw, fun i hi => by
      rcases Nat.lt_or_ge i n with hlt | hge
      · exact wpOp_of_qOp hw (fun a' w' hw' h' => wpAny_of_M f _ a' w' hw' h') ((h.2 i hi).1 hlt)
      · exact (h.2 i hi).2 hge w hw⟩

theorem wpAnyM_first {n i : Nat} {oi : Oper} {v : Value} {Q : Exit → Act → World → Prop} (hi : ops[i]? = some oi) (hsel : ∀ (j : Nat) (o : Oper) cs b, ops[j]? = some o → o.op ≠ .select cs b)
    (hQ : ∀ c a w, ¬ Q (.panic c) a w) (hin : i < n) :
    ∀ (f : Nat) (listed : Array Bool) (a : Act),
      (∀ j oj, ops[j]? = some oj → j ≠ i → listed.getD j true = false → (∀ e ∈ oj.after, Region.binds md e = true → e.on ≠ i) → oi.apart ops oj = true) →
      (Yields P ops oi v a ∨ ∀ j oj, ops[j]? = some oj → n ≤ j → listed.getD j true = false → ∃ e ∈ oj.after, Region.binds md e = true ∧ e.on = i) →
      i ∈ Region.ready md ops listed → YieldsIn P ops C oi v a →
      wpAnyM P md ops C n Q f (listed.setIfInBounds i true) (a.put oi.dst v) → wpAnyM P md ops C n Q (f + 1) listed a := by
  intro f
  induction f with
  | zero =>
    intro listed a _ _ hr hy H
    refine ⟨fun h => (by rw [h] at hr; cases hr), fun j hj => ?_⟩
    by_cases hji : j = i
    · subst hji; exact ⟨fun _ => hy.qOp hi H, fun h => absurd hin (Nat.not_lt.2 h)⟩
    · have := ready_mono hj hji
      rw [H.1] at this
      cases this
  | succ f ih =>
    intro listed a hfree hpw hr hy H
    have hun := (mem_ready.1 hr).1
    refine ⟨fun h => (by rw [h] at hr; cases hr), fun j hj => ?_⟩
    by_cases hji : j = i
    · subst hji; exact ⟨fun _ => hy.qOp hi H, fun h => absurd hin (Nat.not_lt.2 h)⟩
    · have h1 := H.2 j (ready_mono hj hji)
      obtain ⟨hjun, oj, hoj, hall⟩ := mem_ready.1 hj
      have hnot : ∀ e ∈ oj.after, Region.binds md e = true → e.on ≠ i := fun e he hb heq => by
        have h1 := hall e he hb
        rw [heq, getD_both hun] at h1
        cases h1
      have hap := hfree j oj hoj hji hjun hnot
      have hfree' : ∀ k ok, ops[k]? = some ok → k ≠ i → (listed.setIfInBounds j true).getD k true = false →
          (∀ e ∈ ok.after, Region.binds md e = true → e.on ≠ i) → oi.apart ops ok = true := fun k ok hk hki hun hno => by
        refine hfree k ok hk hki ?_ hno
        by_cases hjk : j = k
        · subst hjk; exact hjun
        · rw [getD_set_ne true hjk] at hun; exact hun
      refine ⟨fun hjn => ?_, fun hjn w hw => ?_⟩
      · rcases hpw with hpure | hwait
        · -- the value is one in every world: it stays so behind j
          have h2 := qOp_put hoj hap (fun cs b => hsel i oi cs b hi) (fun cs b => hsel j oj cs b hoj) hy (h1.1 hjn)
          obtain ⟨e1, e2, e3⟩ := Oper.apart_spec hap
          obtain ⟨u, hyj, hK⟩ := yieldsIn_of_qOp hoj h2
          have hpure' : Yields P ops oi v (a.put oj.dst u) := hpure.of_same (execOp_put oi (fun cs b => hsel i oi cs b hi) a oj.dst u e3) (wanted_put oi a oj.dst u e3)
          refine hyj.qOp hoj (ih (listed.setIfInBounds j true) _ hfree' (.inl hpure') (ready_mono hr (Ne.symm hji)) hK.1 ?_)
          rw [Array.setIfInBounds_comm _ _ hji]
          exact hK.2
        · have h2 := qOp_put hoj hap (fun cs b => hsel i oi cs b hi) (fun cs b => hsel j oj cs b hoj) hy (h1.1 hjn)
          refine qOp_mono (fun a' h3 => ih (listed.setIfInBounds j true) a' hfree' (.inr fun k ok hk hkn hun => ?_) (ready_mono hr (Ne.symm hji)) h3.1 ?_) h2
          · refine hwait k ok hk hkn ?_
            by_cases hjk : j = k
            · subst hjk; exact hjun
            · rw [getD_set_ne true hjk] at hun; exact hun
          · rw [Array.setIfInBounds_comm _ _ hji]
            exact h3.2
      · rcases hpw with hpure | hwait
        · have h2 := wpOp_put hoj hap (fun cs b => hsel i oi cs b hi) (fun cs b => hsel j oj cs b hoj) (fun c a w h => absurd h (hQ c _ w)) hpure (h1.2 hjn w hw)
          refine wpOp_mono (fun a' w' h3 => ?_) h2
          refine wpAny_first hi hsel (fun c a w h => absurd h (hQ c _ w)) f (listed.setIfInBounds j true) a' w' hfree' (ready_mono hr (Ne.symm hji)) h3.1 ?_
          rw [Array.setIfInBounds_comm _ _ hji]
          exact h3.2
        · obtain ⟨e, he, hb, hon⟩ := hwait j oj hoj hjn hjun
          exact absurd hon (hnot e he hb)

/-- An operation that looks at no world. -/
def isPop (ops : Array Oper) (k : Nat) : Bool := match ops[k]? with | some o => (match o.op with | .move _ => true | .assign _ => true | .extract _ _ => true | _ => false) | none => false
def mixHead (md : Region.Mode) (ops : Array Oper) (n : Nat) (fin : Array Bool → Bool) : Nat → Nat → Array Bool → Bool
  | 0, _, listed => fin listed
  | f + 1, k, listed => (Region.ready md ops listed).contains k && Region.free md ops listed k &&
      (isPop ops k || (List.range ops.size).all fun j => decide (j < n) || listed.getD j true || Region.waitsFor md ops j k) && mixHead md ops n fin f (k + 1) (listed.setIfInBounds k true)
def mixB (md : Region.Mode) (ops : Array Oper) (n : Nat) : Bool :=
  Region.noSelect ops && decide (n ≤ ops.size) && mixHead md ops n (Region.seqB md ops (ops.size - n) n) n 0 (Array.replicate ops.size false)

theorem pure_of_in {o : Oper} {v : Value} {a : Act} {w0 : World} (hw0 : C w0) (ho : (match o.op with | .move _ => true | .assign _ => true | .extract _ _ => true | _ => false) = true) (hy : YieldsIn P ops C o v a) : Yields P ops o v a := by
  rcases hy with ⟨hw, h⟩ | h
  · refine .inl ⟨hw, fun w => ?_⟩
    have h0 := h w0 hw0
    unfold Oper.quietAt at h0
    cases hop : o.op <;> simp only [hop, Bool.false_eq_true] at ho
    case move x =>
      simp only [execOp, hop, Sem.run_pure] at h0 ⊢
      rw [h0.2]
    case assign x =>
      simp only [execOp, hop, Sem.run_pure] at h0 ⊢
      rw [h0.2]
    case extract x i =>
      simp only [execOp, hop, Sem.run_bind, Instr.extract] at h0 ⊢
      cases hx : a.eval x <;> simp only [hx, run_stuck, Result.andThen_halt] at h0 ⊢ <;> try exact h0.elim
      rename_i vs
      cases hv : vs[i]? <;> simp only [hv, run_stuck, Result.andThen_halt, Sem.run_pure, Result.andThen_ok] at h0 ⊢
      · exact h0.elim
      · rw [h0.2]
  · exact .inr h

theorem wpAnyM_lex {n g : Nat} {fin : Array Bool → Bool} {Q : Exit → Act → World → Prop} {Lq : Act → Prop} {w0 : World} (hw0 : C w0) (hQ : ∀ c a w, ¬ Q (.panic c) a w) (hsel : Region.noSelect ops = true)
    (hL : ∀ listed a, fin listed = true → Lq a → wpAnyM P md ops C n Q g listed a) :
    ∀ (l : List Oper) (k : Nat) (listed : Array Bool) (a : Act), (∀ j, j < l.length → l[j]? = ops[k + j]?) → k + l.length = n →
    mixHead md ops n fin l.length k listed = true → wpQuiet P ops C Lq l a → wpAnyM P md ops C n Q (l.length + g) listed a
  | [], k, listed, a, _, hk, hB, h => by
    have : k = n := by simpa using hk
    rw [List.length_nil, Nat.zero_add]
    exact hL listed a (by simpa [mixHead] using hB) h
  | o :: l, k, listed, a, hl, hk, hB, h => by
    have h0 : ops[k]? = some o := by simpa using (hl 0 (by simp)).symm
    simp only [List.length_cons, mixHead, Bool.and_eq_true] at hB
    obtain ⟨⟨⟨hr, hf⟩, hp⟩, hB'⟩ := hB
    have hkn : k < n := by simp only [List.length_cons] at hk; omega
    have hr' : k ∈ Region.ready md ops listed := by simpa using hr
    have hst : qOp P ops C k (wpQuiet P ops C Lq l) a := by unfold qOp; simp only [h0]; exact h
    obtain ⟨v, hy, hK⟩ := yieldsIn_of_qOp h0 hst
    rw [List.length_cons, show l.length + 1 + g = (l.length + g) + 1 by omega]
    refine wpAnyM_first h0 (Region.noSelect_spec hsel) hQ hkn (l.length + g) listed a (Region.free_spec h0 hf) ?_ hr' hy
      (wpAnyM_lex hw0 hQ hsel hL l (k + 1) _ _ (fun j hj => by have := hl (j + 1) (by simp; omega); simpa [Nat.add_assoc, Nat.add_comm 1 j] using this) (by simp only [List.length_cons] at hk; omega) hB' hK)
    simp only [Bool.or_eq_true] at hp
    rcases hp with hp | hp
    · left
      unfold isPop at hp
      rw [h0] at hp
      exact pure_of_in hw0 hp hy
    · right
      intro j oj hoj hjn hun
      have h1 := List.all_eq_true.1 hp j (List.mem_range.2 (Array.getElem?_eq_some_iff.1 hoj).1)
      simp only [Bool.or_eq_true, decide_eq_true_eq, hun, Bool.false_eq_true, or_false] at h1
      rcases h1 with h1 | h1
      · omega
      · obtain ⟨oj', hoj', e, he, hb, hon⟩ := Region.waitsFor_spec h1
        rw [hoj] at hoj'
        injection hoj' with hoj'
        subst hoj'
        exact ⟨e, he, hb, hon⟩

/-- A region that asks the tape for its order: a head that is quiet in the class C, then a tail whose order is forced. -/
theorem wp_region_mix {id : Nat} {Q : Exit → Act → World → Prop} {a : Act} {w : World} {l : List Oper} (n : Nat) (hm : P.follows .mixedOrders = true) (hB : mixB .any l.toArray n = true)
    (hQ : ∀ c a w, ¬ Q (.panic c) a w) (hC : C { w with drawn := w.drawn + 1 })
    (h : wpQuiet P l.toArray C (fun a' => ∀ w', C w' → wpList P l.toArray Q (l.drop n) a' w') (l.take n) a) : (Code.region id l.toArray true).wp P Q a w := by
  simp only [mixB, Bool.and_eq_true, decide_eq_true_eq] at hB
  obtain ⟨⟨hsel, hn⟩, hmix⟩ := hB
  have hn' : n ≤ l.length := by simpa using hn
  have htl : (l.take n).length = n := by simp; omega
  have hdl : (l.drop n).length = l.toArray.size - n := by simp
  have H := wpAnyM_lex (md := .any) (g := l.toArray.size - n) (fin := Region.seqB .any l.toArray (l.toArray.size - n) n) (P := P) (ops := l.toArray) (C := C) (n := n) (Q := Q) hC hQ hsel (fun listed a' hs hLq => by
    have hall : ∀ w', C w' → wpAny P .any l.toArray Q (l.toArray.size - n) listed a' w' := fun w' hw' => by
      have := wpAny_of_seq (md := .any) (Q' := Q) (l.drop n) n listed a' w' (fun j => by simp [List.getElem?_drop]) (by rw [hdl]; exact hs) (hLq w' hw')
      rwa [hdl] at this
    have hge := seqB_ready hs
    generalize l.toArray.size - n = g at *
    cases g with
    | zero => exact ⟨by simpa [Region.seqB] using hs, fun w' hw' => (hall w' hw').2⟩
    | succ g => exact ⟨fun h0 w' hw' => (hall w' hw').1 h0, fun i hi => ⟨fun hlt => absurd (hge i hi) (Nat.not_le.2 hlt), fun _ w' hw' => (hall w' hw').2 i hi⟩⟩)
    (l.take n) 0 _ a (fun j hj => by
      have hj' : j < n := by rw [htl] at hj; exact hj
      simp [hj']) (by simpa using htl) (by rw [htl]; exact hmix) h
  refine wp_region_any hm ?_
  have := wpAny_of_M _ _ _ _ hC H
  rw [htl, show n + (l.toArray.size - n) = l.toArray.size by simp; omega] at this
  exact this
end

/-- The orders that are left: first child, next brother; an empty list of brothers at its begin: all is done. -/
inductive Tr where
  | nil
  | cons (i : Nat) (sub rest : Tr)
def Tr.kids : Tr → List Nat
  | .nil => []
  | .cons i _ rest => i :: rest.kids
/-- The tree holds every order that may come. -/
def trB (md : Region.Mode) (ops : Array Oper) : Tr → Nat → Bool → Array Bool → Bool
  | .nil, _, true, listed => (Region.ready md ops listed).isEmpty
  | .nil, _, false, _ => true
  | .cons _ _ _, 0, _, _ => false
  | .cons i sub rest, f + 1, first, listed => (!first || (!(Region.ready md ops listed).isEmpty && (Region.ready md ops listed).all fun k => (i :: rest.kids).contains k)) && trB md ops sub f true (listed.setIfInBounds i true) && trB md ops rest (f + 1) false listed
/-- The last part in every order that may come. -/
def wpTr (P : Program) (ops : Array Oper) (Q : Exit → Act → World → Prop) : Tr → Bool → Act → World → Prop
  | .nil, true, a, w => Q .normal a w
  | .nil, false, _, _ => True
  | .cons i sub rest, _, a, w => wpOp P ops Q i (wpTr P ops Q sub true) a w ∧ wpTr P ops Q rest false a w

section
variable {P : Program} {ops : Array Oper} {md : Region.Mode} {C : World → Prop}
theorem wpAny_of_tr {Q : Exit → Act → World → Prop} : ∀ (t : Tr) (f : Nat) (first : Bool) (listed : Array Bool) (a : Act) (w : World), trB md ops t f first listed = true → wpTr P ops Q t first a w →
    (first = true → wpAny P md ops Q f listed a w) ∧ ∀ g, f = g + 1 → ∀ i ∈ t.kids, wpOp P ops Q i (wpAny P md ops Q g (listed.setIfInBounds i true)) a w
  | .nil, f, first, listed, a, w, hB, h => by
    refine ⟨fun hf => ?_, fun g _ i hi => by cases hi⟩
    subst hf
    have h0 : Region.ready md ops listed = [] := by simpa [trB] using hB
    cases f with
    | zero => exact ⟨h0, h⟩
    | succ f => exact ⟨fun _ => h, fun i hi => by rw [h0] at hi; cases hi⟩
  | .cons i sub rest, 0, first, listed, a, w, hB, h => by simp [trB] at hB
  | .cons i sub rest, f + 1, first, listed, a, w, hB, h => by
    simp only [trB, Bool.and_eq_true] at hB
    obtain ⟨⟨h1, h2⟩, h3⟩ := hB
    have hk : ∀ k ∈ (Tr.cons i sub rest).kids, wpOp P ops Q k (wpAny P md ops Q f (listed.setIfInBounds k true)) a w := by
      intro k hk
      rcases List.mem_cons.1 hk with hk | hk
      · subst hk
        exact wpOp_mono (fun a' w' h' => (wpAny_of_tr sub f true _ a' w' h2 h').1 rfl) h.1
      · exact (wpAny_of_tr rest (f + 1) false listed a w h3 h.2).2 f rfl k hk
    refine ⟨fun hf => ?_, fun g hg => by injection hg with hg; subst hg; exact hk⟩
    subst hf
    simp only [Bool.not_true, Bool.false_or, Bool.and_eq_true, List.all_eq_true] at h1
    refine ⟨fun h0 => ?_, fun k hk' => hk k (by have := h1.2 k hk'; simpa [Tr.kids] using this)⟩
    have := h1.1
    rw [h0] at this
    cases this

def mixT (md : Region.Mode) (ops : Array Oper) (n : Nat) (t : Tr) : Bool :=
  Region.noSelect ops && decide (n ≤ ops.size) && mixHead md ops n (fun listed => trB md ops t (ops.size - n) true listed && (List.range n).all fun k => listed.getD k true) n 0 (Array.replicate ops.size false)

/-- The same with a last part in whatever order its tree says. -/
theorem wp_region_tr {id : Nat} {Q : Exit → Act → World → Prop} {a : Act} {w : World} {l : List Oper} (n : Nat) (t : Tr) (hm : P.follows .mixedOrders = true) (hB : mixT .any l.toArray n t = true)
    (hQ : ∀ c a w, ¬ Q (.panic c) a w) (hC : C { w with drawn := w.drawn + 1 })
    (h : wpQuiet P l.toArray C (fun a' => ∀ w', C w' → wpTr P l.toArray Q t true a' w') (l.take n) a) : (Code.region id l.toArray true).wp P Q a w := by
  simp only [mixT, Bool.and_eq_true, decide_eq_true_eq] at hB
  obtain ⟨⟨hsel, hn⟩, hmix⟩ := hB
  have hn' : n ≤ l.length := by simpa using hn
  have htl : (l.take n).length = n := by simp; omega
  have H := wpAnyM_lex (md := .any) (g := l.toArray.size - n) (fin := fun listed => trB .any l.toArray t (l.toArray.size - n) true listed && (List.range n).all fun k => listed.getD k true) (P := P) (ops := l.toArray) (C := C) (n := n) (Q := Q) hC hQ hsel (fun listed a' hs hLq => by
    simp only [Bool.and_eq_true, List.all_eq_true, List.mem_range] at hs
    obtain ⟨hs, hlt⟩ := hs
    have hall : ∀ w', C w' → wpAny P .any l.toArray Q (l.toArray.size - n) listed a' w' := fun w' hw' => (wpAny_of_tr t _ true listed a' w' hs (hLq w' hw')).1 rfl
    have hge : ∀ i ∈ Region.ready .any l.toArray listed, n ≤ i := fun i hi => by
      rcases Nat.lt_or_ge i n with h1 | h1
      · have h2 := (mem_ready.1 hi).1
        have h3 := hlt i h1
        rw [h2] at h3
        cases h3
      · exact h1
    generalize l.toArray.size - n = g at *
    cases g with
    | zero => exact ⟨(hall _ hC).1, fun w' hw' => (hall w' hw').2⟩
    | succ g => exact ⟨fun h0 w' hw' => (hall w' hw').1 h0, fun i hi => ⟨fun hlt => absurd (hge i hi) (Nat.not_le.2 hlt), fun _ w' hw' => (hall w' hw').2 i hi⟩⟩)
    (l.take n) 0 _ a (fun j hj => by
      have hj' : j < n := by rw [htl] at hj; exact hj
      simp [hj']) (by simpa using htl) (by rw [htl]; exact hmix) h
  refine wp_region_any hm ?_
  have := wpAny_of_M _ _ _ _ hC H
  rw [htl, show n + (l.toArray.size - n) = l.toArray.size by simp; omega] at this
  exact this
end

/-! Try# Abstractly -/
def quietK (K : TV → Prop) : KT := fun v e => match e with | .none => K v | _ => False

def xcalledV (Γ : Ctx) (H : Heap) (g : Option (FuncId × List TV × List TV)) (args : List TV) (K : TV → Prop) : Prop :=
  match g with
  | some (f, a, c) => xcallV Γ H f (a ++ args ++ c) K
  | none => False
def xcallH (Γ : Ctx) (c : Call) (E : Operand → TV) (H : Heap) (K : TV → Prop) : Prop :=
  match c.callee with
  | .value g => xcalledV Γ H (xfun (E g)) (c.args.toList.map E) K
  | .builtin .len => match c.args.toList, c.argTypes.toList with
    | [x], [t] => xlen (isSlc Γ.P t) (E x) K
    | _, _ => False
  | _ => False
def xquiet (Γ : Ctx) (op : Op) (E : Operand → TV) (H : Heap) (K : TV → Prop) : Prop :=
  match op with
  | .call c => xcallH Γ c E H K
  | op => xop Γ op E H (quietK K)
def xHead (Γ : Ctx) (ops : Array Oper) (H : Heap) : List Oper → List TV → (List TV → Prop) → Prop
  | [], T, K => K T
  | o :: r, T, K => xguard T (o.guard.map fun g => ((ops[g.1]?).bind (·.dst), g.2))
      (fun T => xquiet Γ o.op (ev T) H fun v => xHead Γ ops H r (putT T o.dst v) K)
      (fun T => xHead Γ ops H r (putT T o.dst undefT) K)

theorem xguard_holds {n : Nat} {β : Nat → Nat} {ops : Array Oper} {o : Oper} {T : List TV} {a : Act} {run skip : List TV → Prop} {G : Prop}
    (h : xguard T (o.guard.map fun g => ((ops[g.1]?).bind (·.dst), g.2)) run skip) (hT : Holds n β T a.tmps)
    (hrun : ∀ T', Region.wanted o (yielded ops a.tmps) = true → run T' → Holds n β T' a.tmps → G) (hskip : ∀ T', Region.wanted o (yielded ops a.tmps) = false → skip T' → Holds n β T' a.tmps → G) : G := by
  unfold xguard at h
  have hset : ∀ {d : Nat} {x y : TV}, T.getD d undefT = x → d < T.length → (∀ β, y.conc β = x.conc β) → Holds n β (T.set d y) a.tmps := by
    intro d x y hx hne hy β' h'
    rw [hT β' h', List.map_set, hy]
    congr 1
    apply List.ext_getElem?
    intro i
    rw [List.getElem?_set]
    split
    · rename_i h1
      subst h1
      simp [hne] at hx ⊢
      rw [hx]
    · rfl
  cases hg : o.guard with
  | none =>
    simp only [hg, Option.map_none] at h
    exact hrun T (by simp [Region.wanted, hg]) h hT
  | some g =>
    obtain ⟨j, want⟩ := g
    simp only [hg, Option.map_some] at h
    cases hd : (ops[j]?).bind (·.dst) with
    | none =>
      simp only [hd] at h
      refine hskip T ?_ h hT
      simp [Region.wanted, hg, yielded, hd]
    | some d =>
      simp only [hd] at h
      have hsl : a.tmps[d]? = (T[d]?).map (TV.conc β) := by rw [hT β (.refl _ _)]; simp
      unfold xguardV at h
      split at h
      · rename_i t ht
        have hlt : d < T.length := by
          rcases Nat.lt_or_ge d T.length with h1 | h1
          · exact h1
          · simp [List.getD_eq_getElem?_getD, List.getElem?_eq_none h1, undefT] at ht
        have hTd : T[d]? = some (.s (.v (.bool t))) := by
          simp [hlt] at ht ⊢; exact ht
        have hw : Region.wanted o (yielded ops a.tmps) = (t == want) := by
          simp [Region.wanted, hg, yielded, hd, hsl, hTd, conc_v, conc_p, conc_sl, conc_agg, conc_tup]
        by_cases htw : t = want
        · subst htw
          exact hrun _ (by rw [hw]; simp) (h.1 rfl) (hset ht hlt (fun _ => rfl))
        · have htn : t = !want := by cases t <;> cases want <;> simp_all
          subst htn
          exact hskip _ (by rw [hw]; cases want <;> rfl) (h.2 rfl) (hset ht hlt (fun _ => rfl))
      · rename_i l hl
        refine hskip T ?_ h hT
        have : (T[d]?).map (TV.conc β) = none ∨ (T[d]?).map (TV.conc β) = some (.tuple (l.map (AV.conc β)).toArray) := by
          rcases Nat.lt_or_ge d T.length with h1 | h1
          · right; simp [h1] at hl ⊢; rw [hl]; rfl
          · left; simp [List.getElem?_eq_none h1]
        rw [← hsl] at this
        rcases this with h1 | h1 <;> simp [Region.wanted, hg, yielded, hd, h1]
      · exact h.elim

/-- What an operation of the head yields in every world in which our blocks lie so. -/
theorem xquiet_at {Γ : Ctx} {o : Oper} {T : List TV} {H : Heap} {β : Nat → Nat} {K : TV → Prop} {a : Act} {w0 : World} (h : xquiet Γ o.op (ev T) H K) (hT : Holds H.length β T a.tmps) (hR0 : Rep Γ H β w0) :
    ∃ v, K v ∧ (∀ β', Agrees H.length β β' → v.conc β' = v.conc β) ∧ ∀ w, Rep Γ H β w → o.quietAt Γ.P a (Rep Γ H β) w (v.conc β) := by
  have hev := eval_ev (a := a) (hT β (.refl _ _))
  unfold xquiet at h
  split at h
  · rename_i c ho
    unfold xcallH at h
    split at h
    · rename_i g hc
      unfold xcalledV at h
      split at h
      · rename_i f fa fc hg
        unfold xfun at hg
        split at hg
        · rename_i f' av cv hgv
          simp only [Option.some.injEq, Prod.mk.injEq] at hg
          obtain ⟨rfl, rfl, rfl⟩ := hg
          have hgc : a.eval g = .func (.func f') av cv := by rw [hev, hgv]; rfl
          have hargs : (((av.toList.map (fun v => TV.s (.v v))) ++ c.args.toList.map (ev T) ++ (cv.toList.map (fun v => TV.s (.v v)))).map (TV.conc β)).toArray = av ++ c.args.map a.eval ++ cv := by
            apply Array.ext'
            simp [conc_v, Function.comp_def, hev]
          rcases h with ⟨hcall, r, hP, hK⟩ | ⟨r, hX, hok, hK⟩
          case inr =>
            refine ⟨r, hK, fun β' _ => TV.conc_ok hok (fun j hj => absurd hj (Nat.not_lt_zero j)), fun w _ => ?_⟩
            have hX' := hX β w
            rw [hargs] at hX'
            unfold Oper.quietAt
            rw [run_callV (P := Γ.P) ho hc hgc w, hX']
            exact ⟨rfl, rfl⟩
          refine ⟨r, hK, ?_, fun w hR => ?_⟩
          · intro β' h'
            obtain ⟨e, w', fr, ⟨he, _⟩, _⟩ := hP β w0 hR0 []
            have h1 := he β (.refl _ _)
            rw [he β' h'] at h1
            injection h1
          · have hrun := run_callF (P := Γ.P) ho hc hgc hcall w
            have hP' := hP β w hR
            rw [hargs] at hP'
            unfold Oper.quietAt
            rw [hrun]
            exact ⟨rfl, hP'.mono fun e w' ⟨he, hx⟩ => ⟨he β (.refl _ _), hR.ext hx⟩⟩
        · cases hg
      · exact h.elim
    · rename_i hc
      split at h
      · rename_i x t hx ht
        have hargs : c.args = #[x] := Array.ext' (by simpa using hx)
        have hts : c.argTypes = #[t] := Array.ext' (by simpa using ht)
        have fin : ∀ (n : Nat) (y : TV), ev T x = y → isSlc Γ.P t = true → (∃ ad cap, y.conc β = .slice ad n cap) → K (.s (.v (.int .i64 (n : Int)))) →
            ∃ v, K v ∧ (∀ β', Agrees H.length β β' → v.conc β' = v.conc β) ∧ ∀ w, Rep Γ H β w → o.quietAt Γ.P a (Rep Γ H β) w (v.conc β) := by
          intro n y hy hsl ⟨ad, cap, hconc⟩ hK
          unfold isSlc at hsl
          split at hsl
          · rename_i e hu
            refine ⟨_, hK, fun _ _ => rfl, fun w _ => ?_⟩
            have hrun : (execOp a.eval o).run Γ.P w = .ok (.value (.int .i64 (n : Int))) w := by
              simp [execOp, ho, resolve, hc, hargs, hts, invoke, builtin, Builtin.len_, run_underlying hu, hev, hy, hconc, goInt]
            unfold Oper.quietAt
            rw [hrun]
            exact ⟨rfl, rfl⟩
          · cases hsl
        unfold xlen at h
        split at h
        · rename_i ad n cap hy
          exact fin n _ hy h.1 ⟨ad, cap, rfl⟩ h.2
        · rename_i j off n cap hy
          exact fin n _ hy h.1 ⟨_, cap, rfl⟩ h.2
        · exact h.elim
      · exact h.elim
    · exact h.elim
  · obtain ⟨v, e, hK, hsd⟩ := xop_sound h
    cases e with
    | none =>
      have hd : ∀ w, Rep Γ H β w → ∀ β', Agrees H.length β β' → (execOp a.eval o).run Γ.P w = .ok (.value (v.conc β')) w := fun w hR β' h' =>
        hsd o β' a.eval w rfl (eval_ev (hT β' h')) (hR.agree h')
      refine ⟨v, hK, fun β' h' => ?_, fun w hR => ?_⟩
      · have h1 := hd w0 hR0 β (.refl _ _)
        rw [hd w0 hR0 β' h'] at h1
        injection h1 with h1
        injection h1 with h1
      · unfold Oper.quietAt
        rw [hd w hR β (.refl _ _)]
        exact ⟨rfl, rfl⟩
    | new b => exact hK.elim
    | put j cs => exact hK.elim

theorem xHead_wp {Γ : Ctx} {ops : Array Oper} {H : Heap} {β : Nat → Nat} {w0 : World} {Q : Act → Prop} (hR0 : Rep Γ H β w0) : ∀ (l : List Oper) {T : List TV} {K : List TV → Prop} {a : Act},
    xHead Γ ops H l T K → Holds H.length β T a.tmps → a.defers = [] → (∀ T' a', K T' → Holds H.length β T' a'.tmps → a'.defers = [] → Q a') → wpQuiet Γ.P ops (Rep Γ H β) Q l a
  | [], _, _, _, h, hT, hd, hQ => hQ _ _ h hT hd
  | o :: l, T, K, a, h, hT, hd, hQ => by
    simp only [xHead] at h
    have hput : ∀ u, (a.put o.dst u).defers = [] := fun u => by cases o.dst <;> exact hd
    refine xguard_holds (ops := ops) (o := o) h hT (fun T' hw hr hT' => ?_) (fun T' hw hr hT' => ?_)
    · obtain ⟨v, hK, hv, hq⟩ := xquiet_at hr hT' hR0
      simp only [wpQuiet, hw, if_true]
      exact ⟨v.conc β, hq, xHead_wp hR0 l hK (hT'.put (Nat.le_refl _) (.refl _ _) hv) (hput _) hQ⟩
    · simp only [wpQuiet, hw, Bool.false_eq_true, if_false]
      exact xHead_wp hR0 l hr (hT'.put (Nat.le_refl _) (.refl _ _) (fun _ _ => rfl)) (hput _) hQ

theorem Rep.drewQ {Γ : Ctx} {H : Heap} {β : Nat → Nat} {w : World} (h : Rep Γ H β w) : Rep Γ H β { w with drawn := w.drawn + 1 } := h.ext (Ext.drew _ _ _)

/-- A STATEMENT WHOSE ORDER IS OPEN: n operations in whatever order, then the rest. -/
theorem X_draw {Γ : Ctx} {id : Nat} {l : List Oper} {T : List TV} {H : Heap} {Q : QX} (n : Nat) (hm : Γ.P.follows .mixedOrders = true) (hB : mixB .any l.toArray n = true)
    (h : xHead Γ l.toArray H (l.take n) T fun T => xOps Γ l.toArray (l.drop n) T H fun T H => Q .normal T H) : XL Γ (.region id l.toArray true) T H Q := by
  rw [XL_eq]
  intro a w ⟨β, hT, hR, hd⟩
  refine wp_mono (wp_region_mix (C := Rep Γ H β) (Q := fun e a w => match e with | .normal => lift Γ Q .normal a w | _ => False) n hm hB (fun _ _ _ h => h) hR.drewQ ?_) fun e a w h => ?_
  · refine xHead_wp hR _ h hT hd fun T' a' hK hT' hd' w' hw' => ?_
    exact xOps_wp _ hK ⟨β, hT', hw', hd'⟩ fun T'' H'' a'' w'' hq hs => ⟨T'', H'', hq, hs⟩
  · cases e with
    | normal => exact h
    | _ => exact h.elim

/-- The last part of an open order, abstractly. -/
def xTr (Γ : Ctx) (ops : Array Oper) (K : List TV → Heap → Prop) : Tr → Bool → List TV → Heap → Prop
  | .nil, true, T, H => K T H
  | .nil, false, _, _ => True
  | .cons i sub rest, _, T, H => (match ops[i]? with | some o => xOps Γ ops [o] T H (xTr Γ ops K sub true) | none => False) ∧ xTr Γ ops K rest false T H

theorem xTr_wp {Γ : Ctx} {ops : Array Oper} {Q : Exit → Act → World → Prop} {K : List TV → Heap → Prop} (hK : ∀ T' H' a' w', K T' H' → St Γ T' H' a' w' → Q .normal a' w') :
    ∀ (t : Tr) (first : Bool) {T : List TV} {H : Heap} {a : Act} {w : World}, xTr Γ ops K t first T H → St Γ T H a w → wpTr Γ.P ops Q t first a w
  | .nil, true, _, _, _, _, h, hs => hK _ _ _ _ h hs
  | .nil, false, _, _, _, _, _, _ => trivial
  | .cons i sub rest, first, T, H, a, w, h, hs => by
    simp only [xTr] at h
    refine ⟨?_, xTr_wp hK rest false h.2 hs⟩
    have h1 := h.1
    unfold wpOp
    split at h1
    · rename_i o ho
      simp only [ho]
      simp only [xOps] at h1
      refine xguard_wp (ops := ops) (o := o) h1 hs (fun T' hw hr hs' => ?_) (fun T' hw hr hs' => ?_)
      · simp only [hw, if_true]
        exact .inl (xstep_wp hr hs' fun v H' u w' hv hs'' => xTr_wp hK sub true hv hs'')
      · simp only [hw, Bool.false_eq_true, if_false]
        refine xTr_wp hK sub true hr ?_
        obtain ⟨β, hT, hR, hd⟩ := hs'
        exact ⟨β, hT.put (Nat.le_refl _) (.refl _ _) (fun _ _ => rfl), hR, by cases o.dst <;> exact hd⟩
    · exact h1.elim

/-- A statement whose order is open: n operations in whatever order, then the rest in every order of the tree. -/
theorem X_drawT {Γ : Ctx} {id : Nat} {l : List Oper} {T : List TV} {H : Heap} {Q : QX} (n : Nat) (t : Tr) (hm : Γ.P.follows .mixedOrders = true) (hB : mixT .any l.toArray n t = true)
    (h : xHead Γ l.toArray H (l.take n) T fun T => xTr Γ l.toArray (fun T H => Q .normal T H) t true T H) : XL Γ (.region id l.toArray true) T H Q := by
  rw [XL_eq]
  intro a w ⟨β, hT, hR, hd⟩
  refine wp_mono (wp_region_tr (C := Rep Γ H β) (Q := fun e a w => match e with | .normal => lift Γ Q .normal a w | _ => False) n t hm hB (fun _ _ _ h => h) hR.drewQ ?_) fun e a w h => ?_
  · refine xHead_wp hR _ h hT hd fun T' a' hK hT' hd' w' hw' => ?_
    exact xTr_wp (fun T'' H'' a'' w'' hq hs => ⟨T'', H'', hq, hs⟩) t true hK ⟨β, hT', hw', hd'⟩
  · cases e with
    | normal => exact h
    | _ => exact h.elim

end Go.Ab
