/-
  A statement whose order is open, where its last part (new blocks, stores) may come ahead of what only reads and calls:
  what is read and called is quiet in every world of a family: our blocks as they were, but for some that may hold whatever, and new ones.
-/
import Derived.Test.YtpikjhpbldocnaaAb9
namespace Go.Ab
open Go Go.RowKit
set_option linter.unusedSimpArgs false
set_option linter.unusedVariables false

section
variable {P : Program} {ops : Array Oper} {md : Region.Mode} {σ : Type} {D : σ → World → Prop}

def wpAnyG (P : Program) (md : Region.Mode) (ops : Array Oper) (D : σ → World → Prop) (n : Nat) (Q : Exit → Act → World → Prop) : Nat → Array Bool → σ → Act → Prop
  | 0, listed, s, a => Region.ready md ops listed = [] ∧ ∀ w, D s w → Q .normal a w
  | f + 1, listed, s, a =>
    (Region.ready md ops listed = [] → ∀ w, D s w → Q .normal a w) ∧
    ∀ i ∈ Region.ready md ops listed, (i < n → qOp P ops (D s) i (wpAnyG P md ops D n Q f (listed.setIfInBounds i true) s) a) ∧
      (n ≤ i → ∀ w, D s w → wpOp P ops Q i (fun a' w' => ∃ s', D s' w' ∧ wpAnyG P md ops D n Q f (listed.setIfInBounds i true) s' a') a w)

theorem wpAny_of_G {n : Nat} {Q : Exit → Act → World → Prop} : ∀ (f : Nat) (listed : Array Bool) (s : σ) (a : Act) (w : World), D s w → wpAnyG P md ops D n Q f listed s a → wpAny P md ops Q f listed a w
  | 0, _, _, _, w, hw, h => ⟨h.1, h.2 w hw⟩
  | f + 1, listed, s, a, w, hw, h => ⟨fun h0 => h.1 h0 w hw, fun i hi => by
      rcases Nat.lt_or_ge i n with hlt | hge
      · exact wpOp_of_qOp hw (fun a' w' hw' h' => wpAny_of_G f _ s a' w' hw' h') ((h.2 i hi).1 hlt)
      · exact wpOp_mono (fun a' w' ⟨s', hs', h'⟩ => wpAny_of_G f _ s' a' w' hs' h') ((h.2 i hi).2 hge w hw)⟩

def YG (P : Program) (ops : Array Oper) (D : σ → World → Prop) (o : Oper) (v : Value) (a : Act) : Prop := ∀ s, YieldsIn P ops (D s) o v a
theorem YG.of_same {o : Oper} {v : Value} {a a' : Act} (hy : YG P ops D o v a) (he : execOp a'.eval o = execOp a.eval o)
    (hw : Region.wanted o (yielded ops a'.tmps) = Region.wanted o (yielded ops a.tmps)) : YG P ops D o v a' := fun s => (hy s).of_same he hw

theorem wpOp_putG {Q : Exit → Act → World → Prop} {j : Nat} {oi oj : Oper} {v : Value} (hj : ops[j]? = some oj) (hap : oi.apart ops oj = true)
    (hsi : ∀ cs b, oi.op ≠ .select cs b) (hsj : ∀ cs b, oj.op ≠ .select cs b)
    (hQ : ∀ c a w, Q (.panic c) (a.put oi.dst v) w → Q (.panic c) a w) {K : Act → World → Prop} {a : Act} {w : World}
    (hy : YG P ops D oi v a) (h : wpOp P ops Q j K (a.put oi.dst v) w) :
    wpOp P ops Q j (fun a' w' => YG P ops D oi v a' ∧ K (a'.put oi.dst v) w') a w := by
  obtain ⟨h1, h2, h3⟩ := Oper.apart_spec hap
  have keep : ∀ (a : Act), YG P ops D oi v a → ∀ u, YG P ops D oi v (a.put oj.dst u) := fun a hy u =>
    hy.of_same (execOp_put oi hsi a oj.dst u h3) (wanted_put oi a oj.dst u h3)
  have keepD : ∀ d, YG P ops D oi v { a with defers := d :: a.defers } := fun d => hy.of_same rfl rfl
  unfold wpOp at *
  simp only [hj] at *
  rw [wanted_put oj a oi.dst v h1] at h
  split
  · rename_i hw
    simp only [hw, if_true] at h
    rcases h with h | ⟨hasks, hlets⟩
    case inr => exact .inr ⟨by unfold Oper.asks at *; rw [execOp_put oj hsj a oi.dst v h1] at hasks; exact hasks, hlets⟩
    refine .inl ?_
    unfold Oper.wp at *
    rw [execOp_put oj hsj a oi.dst v h1] at h
    generalize (execOp a.eval oj).run P w = r at *
    cases r with
    | ok n w' =>
      cases n <;> simp only [Oper.upon] at h ⊢
      case value u => exact ⟨keep a hy u, by rw [← Act.put_comm a v u h2]; exact h⟩
      case skip => exact ⟨keep a hy _, by rw [← Act.put_comm a v undef h2]; exact h⟩
      case defer d =>
        refine ⟨keep _ (keepD d) _, ?_⟩
        rw [← Act.put_comm _ v undef h2, ← Act.put_defers]
        exact h
      case enter f args =>
        refine Calls.mono h fun e w'' he => ?_
        cases e with
        | returned u => exact ⟨keep a hy u, by rw [← Act.put_comm a v u h2]; exact he⟩
        | panicked c => exact hQ _ _ _ he
        | outgrown => exact he
      case row row args => exact Rows.mono h fun u w'' he => ⟨keep a hy u, by rw [← Act.put_comm a v u h2]; exact he⟩
    | halt x w' =>
      cases x <;> simp only [Oper.upon] at h ⊢
      case panic u => exact hQ _ _ _ h
  · rename_i hw
    simp only [hw] at h
    exact ⟨keep a hy _, by rw [← Act.put_comm a v undef h2]; exact h⟩

theorem wpAnyG_first {n i : Nat} {oi : Oper} {v : Value} {Q : Exit → Act → World → Prop} (hi : ops[i]? = some oi) (hsel : ∀ (j : Nat) (o : Oper) cs b, ops[j]? = some o → o.op ≠ .select cs b)
    (hQ : ∀ c a w, ¬ Q (.panic c) a w) (hin : i < n) :
    ∀ (f : Nat) (listed : Array Bool) (s : σ) (a : Act),
      (∀ j oj, ops[j]? = some oj → j ≠ i → listed.getD j true = false → (∀ e ∈ oj.after, Region.binds md e = true → e.on ≠ i) → oi.apart ops oj = true) →
      i ∈ Region.ready md ops listed → YG P ops D oi v a →
      wpAnyG P md ops D n Q f (listed.setIfInBounds i true) s (a.put oi.dst v) → wpAnyG P md ops D n Q (f + 1) listed s a := by
  intro f
  induction f with
  | zero =>
    intro listed s a _ hr hy H
    refine ⟨fun h => (by rw [h] at hr; cases hr), fun j hj => ?_⟩
    by_cases hji : j = i
    · subst hji; exact ⟨fun _ => (hy s).qOp hi H, fun h => absurd hin (Nat.not_lt.2 h)⟩
    · have := ready_mono hj hji
      rw [H.1] at this
      cases this
  | succ f ih =>
    intro listed s a hfree hr hy H
    have hun := (mem_ready.1 hr).1
    refine ⟨fun h => (by rw [h] at hr; cases hr), fun j hj => ?_⟩
    by_cases hji : j = i
    · subst hji; exact ⟨fun _ => (hy s).qOp hi H, fun h => absurd hin (Nat.not_lt.2 h)⟩
    · have h1 := H.2 j (ready_mono hj hji)
      obtain ⟨hjun, oj, hoj, hall⟩ := mem_ready.1 hj
      have hnot : ∀ e ∈ oj.after, Region.binds md e = true → e.on ≠ i := fun e he hb heq => by
        have h1 := hall e he hb
        rw [heq, getD_both hun] at h1
        cases h1
      have hap := hfree j oj hoj hji hjun hnot
      have hfree' : ∀ k ok, ops[k]? = some ok → k ≠ i → (listed.setIfInBounds j true).getD k true = false →
          (∀ e ∈ ok.after, Region.binds md e = true → e.on ≠ i) → oi.apart ops ok = true := fun k ok hk hki hun hno => by
        refine hfree k ok hk hki ?_ hno
        by_cases hjk : j = k
        · subst hjk; exact hjun
        · rw [getD_set_ne true hjk] at hun; exact hun
      obtain ⟨e1, e2, e3⟩ := Oper.apart_spec hap
      refine ⟨fun hjn => ?_, fun hjn w hw => ?_⟩
      · have h2 := qOp_put hoj hap (fun cs b => hsel i oi cs b hi) (fun cs b => hsel j oj cs b hoj) (hy s) (h1.1 hjn)
        obtain ⟨u, hyj, hK⟩ := yieldsIn_of_qOp hoj h2
        have hy' : YG P ops D oi v (a.put oj.dst u) := hy.of_same (execOp_put oi (fun cs b => hsel i oi cs b hi) a oj.dst u e3) (wanted_put oi a oj.dst u e3)
        refine hyj.qOp hoj (ih (listed.setIfInBounds j true) s _ hfree' (ready_mono hr (Ne.symm hji)) hy' ?_)
        rw [Array.setIfInBounds_comm _ _ hji]
        exact hK.2
      · have h2 := wpOp_putG hoj hap (fun cs b => hsel i oi cs b hi) (fun cs b => hsel j oj cs b hoj) (fun c a w h => absurd h (hQ c _ w)) hy (h1.2 hjn w hw)
        refine wpOp_mono (fun a' w' ⟨hy', s', hs', h3⟩ => ⟨s', hs', ih (listed.setIfInBounds j true) s' a' hfree' (ready_mono hr (Ne.symm hji)) hy' ?_⟩) h2
        rw [Array.setIfInBounds_comm _ _ hji]
        exact h3

def headG (md : Region.Mode) (ops : Array Oper) (fin : Array Bool → Bool) : Nat → Nat → Array Bool → Bool
  | 0, _, listed => fin listed
  | f + 1, k, listed => (Region.ready md ops listed).contains k && Region.free md ops listed k && headG md ops fin f (k + 1) (listed.setIfInBounds k true)
def mixG (md : Region.Mode) (ops : Array Oper) (n : Nat) (t : Tr) : Bool :=
  Region.noSelect ops && decide (n ≤ ops.size) && headG md ops (fun listed => trB md ops t (ops.size - n) true listed && (List.range n).all fun k => listed.getD k true) n 0 (Array.replicate ops.size false)

def wpQuietG (P : Program) (ops : Array Oper) (D : σ → World → Prop) (Q : Act → Prop) : List Oper → Act → Prop
  | [], a => Q a
  | o :: r, a => if Region.wanted o (yielded ops a.tmps) then ∃ v, (∀ s w, D s w → o.quietAt P a (D s) w v) ∧ wpQuietG P ops D Q r (a.put o.dst v) else wpQuietG P ops D Q r (a.put o.dst undef)

theorem wpAnyG_lex {n g : Nat} {fin : Array Bool → Bool} {Q : Exit → Act → World → Prop} {Lq : Act → Prop} {s : σ} (hQ : ∀ c a w, ¬ Q (.panic c) a w) (hsel : Region.noSelect ops = true)
    (hL : ∀ listed a, fin listed = true → Lq a → wpAnyG P md ops D n Q g listed s a) :
    ∀ (l : List Oper) (k : Nat) (listed : Array Bool) (a : Act), (∀ j, j < l.length → l[j]? = ops[k + j]?) → k + l.length = n →
    headG md ops fin l.length k listed = true → wpQuietG P ops D Lq l a → wpAnyG P md ops D n Q (l.length + g) listed s a
  | [], k, listed, a, _, hk, hB, h => by
    rw [List.length_nil, Nat.zero_add]
    exact hL listed a (by simpa [headG] using hB) h
  | o :: l, k, listed, a, hl, hk, hB, h => by
    have h0 : ops[k]? = some o := by simpa using (hl 0 (by simp)).symm
    simp only [List.length_cons, headG, Bool.and_eq_true] at hB
    obtain ⟨⟨hr, hf⟩, hB'⟩ := hB
    have hkn : k < n := by simp only [List.length_cons] at hk; omega
    have hr' : k ∈ Region.ready md ops listed := by simpa using hr
    have hst : ∃ v, YG P ops D o v a ∧ wpQuietG P ops D Lq l (a.put o.dst v) := by
      simp only [wpQuietG] at h
      split at h
      · rename_i hw
        obtain ⟨v, hv, hK⟩ := h
        exact ⟨v, fun s => .inl ⟨hw, hv s⟩, hK⟩
      · rename_i hw
        exact ⟨undef, fun s => .inr ⟨by simpa using hw, rfl⟩, h⟩
    obtain ⟨v, hy, hK⟩ := hst
    rw [List.length_cons, show l.length + 1 + g = (l.length + g) + 1 by omega]
    exact wpAnyG_first h0 (Region.noSelect_spec hsel) hQ hkn (l.length + g) listed s a (Region.free_spec h0 hf) hr' hy
      (wpAnyG_lex hQ hsel hL l (k + 1) _ _ (fun j hj => by have := hl (j + 1) (by simp; omega); simpa [Nat.add_assoc, Nat.add_comm 1 j] using this) (by simp only [List.length_cons] at hk; omega) hB' hK)

/-- The last part, in every order that may come. -/
def wpTrG (P : Program) (ops : Array Oper) (D : σ → World → Prop) (Q : Exit → Act → World → Prop) : Tr → Bool → σ → Act → Prop
  | .nil, true, s, a => ∀ w, D s w → Q .normal a w
  | .nil, false, _, _ => True
  | .cons i sub rest, _, s, a => (∀ w, D s w → wpOp P ops Q i (fun a' w' => ∃ s', D s' w' ∧ wpTrG P ops D Q sub true s' a') a w) ∧ wpTrG P ops D Q rest false s a

theorem wpAnyG_of_tr {n : Nat} {Q : Exit → Act → World → Prop} : ∀ (t : Tr) (f : Nat) (first : Bool) (listed : Array Bool) (s : σ) (a : Act), trB md ops t f first listed = true → (∀ k, k < n → listed.getD k true = true) → wpTrG P ops D Q t first s a →
    (first = true → wpAnyG P md ops D n Q f listed s a) ∧ ∀ g, f = g + 1 → ∀ i ∈ t.kids, ∀ w, D s w → wpOp P ops Q i (fun a' w' => ∃ s', D s' w' ∧ wpAnyG P md ops D n Q g (listed.setIfInBounds i true) s' a') a w
  | .nil, f, first, listed, s, a, hB, _, h => by
    refine ⟨fun hf => ?_, fun g _ i hi => by cases hi⟩
    subst hf
    have h0 : Region.ready md ops listed = [] := by simpa [trB] using hB
    cases f with
    | zero => exact ⟨h0, h⟩
    | succ f => exact ⟨fun _ => h, fun i hi => by rw [h0] at hi; cases hi⟩
  | .cons i sub rest, 0, first, listed, s, a, hB, _, h => by simp [trB] at hB
  | .cons i sub rest, f + 1, first, listed, s, a, hB, hn, h => by
    simp only [trB, Bool.and_eq_true] at hB
    obtain ⟨⟨h1, h2⟩, h3⟩ := hB
    have hn' : ∀ j k, k < n → (listed.setIfInBounds j true).getD k true = true := fun j k hk => by
      by_cases hjk : j = k
      · subst hjk
        rcases Nat.lt_or_ge j listed.size with h' | h'
        · simp [h']
        · simp [Array.getElem?_eq_none (show (listed.setIfInBounds j true).size ≤ j by simpa using h')]
      · rw [getD_set_ne true hjk]; exact hn k hk
    have hk : ∀ k ∈ (Tr.cons i sub rest).kids, ∀ w, D s w → wpOp P ops Q k (fun a' w' => ∃ s', D s' w' ∧ wpAnyG P md ops D n Q f (listed.setIfInBounds k true) s' a') a w := by
      intro k hk
      rcases List.mem_cons.1 hk with hk | hk
      · subst hk
        exact fun w hw => wpOp_mono (fun a' w' ⟨s', hs', h'⟩ => ⟨s', hs', (wpAnyG_of_tr sub f true _ s' a' h2 (hn' _) h').1 rfl⟩) (h.1 w hw)
      · exact (wpAnyG_of_tr rest (f + 1) false listed s a h3 hn h.2).2 f rfl k hk
    refine ⟨fun hf => ?_, fun g hg => by injection hg with hg; subst hg; exact hk⟩
    subst hf
    simp only [Bool.not_true, Bool.false_or, Bool.and_eq_true, List.all_eq_true] at h1
    refine ⟨fun h0 => ?_, fun k hk' => ⟨fun hlt => ?_, fun _ => hk k (by have := h1.2 k hk'; simpa [Tr.kids] using this)⟩⟩
    · have := h1.1
      rw [h0] at this
      cases this
    · have h5 := (mem_ready.1 hk').1
      rw [hn k hlt] at h5
      cases h5

theorem wp_region_G {id : Nat} {Q : Exit → Act → World → Prop} {a : Act} {w : World} {l : List Oper} (n : Nat) (t : Tr) (s : σ) (hm : P.follows .mixedOrders = true) (hB : mixG .any l.toArray n t = true)
    (hQ : ∀ c a w, ¬ Q (.panic c) a w) (hC : D s { w with drawn := w.drawn + 1 })
    (h : wpQuietG P l.toArray D (fun a' => wpTrG P l.toArray D Q t true s a') (l.take n) a) : (Code.region id l.toArray true).wp P Q a w := by
  simp only [mixG, Bool.and_eq_true, decide_eq_true_eq] at hB
  obtain ⟨⟨hsel, hn⟩, hmix⟩ := hB
  have hn' : n ≤ l.length := by simpa using hn
  have htl : (l.take n).length = n := by simp; omega
  have H := wpAnyG_lex (md := .any) (g := l.toArray.size - n) (fin := fun listed => trB .any l.toArray t (l.toArray.size - n) true listed && (List.range n).all fun k => listed.getD k true) (P := P) (ops := l.toArray) (D := D) (n := n) (Q := Q) (s := s) hQ hsel (fun listed a' hs hLq => by
    simp only [Bool.and_eq_true, List.all_eq_true, List.mem_range] at hs
    exact (wpAnyG_of_tr t _ true listed s a' hs.1 hs.2 hLq).1 rfl)
    (l.take n) 0 _ a (fun j hj => by
      have hj' : j < n := by rw [htl] at hj; exact hj
      simp [hj']) (by simpa using htl) (by rw [htl]; exact hmix) h
  refine wp_region_any hm ?_
  have := wpAny_of_G _ _ _ _ _ hC H
  rw [htl, show n + (l.toArray.size - n) = l.toArray.size by simp; omega] at this
  exact this
end

/-! Try# Abstractly -/
/-- Our blocks as they were, but for those of M; new ones behind them. -/
def famL (M : List Nat) : Nat → Heap → Heap → Prop
  | _, [], _ => True
  | i, b :: H, b' :: H' => (M.contains i = true ∨ b' = b) ∧ famL M (i + 1) H H'
  | _, _ :: _, [] => False
theorem famL_spec {M : List Nat} : ∀ {i : Nat} {H H' : Heap}, famL M i H H' → H.length ≤ H'.length ∧ ∀ (j : Nat) (b : AB), H[j]? = some b → M.contains (i + j) = false → H'[j]? = some b
  | _, [], _, _ => ⟨Nat.zero_le _, fun j b h => by simp at h⟩
  | i, b :: H, b' :: H', h => by
    obtain ⟨h1, h2⟩ := famL_spec h.2
    refine ⟨by simp; omega, fun j c hc hM => ?_⟩
    cases j with
    | zero =>
      simp only [List.getElem?_cons_zero, Option.some.injEq, Nat.add_zero] at hc hM ⊢
      rcases h.1 with h3 | h3
      · rw [hM] at h3; cases h3
      · rw [h3, hc]
    | succ j =>
      simp only [List.getElem?_cons_succ] at hc ⊢
      exact h2 j c hc (by rw [show i + 1 + j = i + (j + 1) by omega]; exact hM)
  | _, _ :: _, [], h => h.elim
theorem famL_refl {M : List Nat} : ∀ {i : Nat} {H : Heap}, famL M i H H
  | _, [] => trivial
  | _, _ :: _ => ⟨.inr rfl, famL_refl⟩

def famD (Γ : Ctx) (H : Heap) (β : Nat → Nat) (M : List Nat) (s : Heap × (Nat → Nat)) (w : World) : Prop := famL M 0 H s.1 ∧ Agrees H.length β s.2 ∧ Rep Γ s.1 s.2 w

theorem Rep.nil {Γ : Ctx} {H : Heap} {β : Nat → Nat} {w : World} (hn : Γ.n0 = 0) (h : Rep Γ H β w) : Rep Γ [] β w :=
  ⟨⟨by rw [hn]; exact Nat.le_refl _, fun j hj => by rw [hn] at hj; exact absurd hj (Nat.not_lt_zero j)⟩, h.fr, fun i j hi => absurd hi (Nat.not_lt_zero i), fun j hj => absurd hj (Nat.not_lt_zero j), fun j b hb => by simp at hb, fun _ _ j b hb => by simp at hb⟩

def xcallM (Γ : Ctx) (H : Heap) (M : List Nat) (f : FuncId) (args : List TV) (K : TV → Prop) : Prop :=
  (callable Γ.P f = true ∧ ∃ r, (∀ H', famL M 0 H H' → CalP Γ H' f args r) ∧ K r) ∨ ∃ r, ExtC Γ.P f args r ∧ r.ok 0 ∧ K r
theorem xcallM_pure {Γ : Ctx} {H : Heap} {M : List Nat} {f : FuncId} {args : List TV} {K : TV → Prop} {r : TV} (hc : callable Γ.P f = true) (h : PureC Γ.P f args r) (hK : K r) : xcallM Γ H M f args K := .inl ⟨hc, r, fun _ _ => PureC.cal h, hK⟩
theorem xcallM_ext {Γ : Ctx} {H : Heap} {M : List Nat} {f : FuncId} {args : List TV} {K : TV → Prop} {r : TV} (h : ExtC Γ.P f args r) (ho : r.ok 0) (hK : K r) : xcallM Γ H M f args K := .inr ⟨r, h, ho, hK⟩
def xcalledM (Γ : Ctx) (H : Heap) (M : List Nat) (g : Option (FuncId × List TV × List TV)) (args : List TV) (K : TV → Prop) : Prop :=
  match g with
  | some (f, a, c) => xcallM Γ H M f (a ++ args ++ c) K
  | none => False
def xcallHM (Γ : Ctx) (c : Call) (E : Operand → TV) (H : Heap) (M : List Nat) (K : TV → Prop) : Prop :=
  match c.callee with
  | .value g => xcalledM Γ H M (xfun (E g)) (c.args.toList.map E) K
  | .builtin .len => match c.args.toList, c.argTypes.toList with
    | [x], [t] => xlen (isSlc Γ.P t) (E x) K
    | _, _ => False
  | _ => False
def maskOK (M : List Nat) (x : TV) : Prop := match x with | .s (.p j _) => M.contains j = false | _ => True
def xquietM (Γ : Ctx) (op : Op) (E : Operand → TV) (H : Heap) (M : List Nat) (K : TV → Prop) : Prop :=
  match op with
  | .call c => xcallHM Γ c E H M K
  | .load t a => maskOK M (E a) ∧ xload Γ t (E a) H (quietK K)
  | op => xop Γ op E [] (quietK K)

theorem xload_fam {Γ : Ctx} {t : TypeId} {x : TV} {H : Heap} {M : List Nat} {K : TV → Prop} (hm : maskOK M x) (h : xload Γ t x H (quietK K)) :
    ∃ v, K v ∧ ∀ H', famL M 0 H H' → xload Γ t x H' (fun v' e => v' = v ∧ e = .none) := by
  unfold xload at h
  split at h
  · rename_i j off
    have hM : M.contains j = false := hm
    unfold xpart at h
    split at h
    · rename_i cs hrow hcs
      simp only [Option.map_eq_some_iff] at hcs
      obtain ⟨b, hb, rfl⟩ := hcs
      refine ⟨_, h.2, fun H' hf => ?_⟩
      have hb' := (famL_spec hf).2 j b hb (by rw [Nat.zero_add]; exact hM)
      show xpart (rowOf Γ.P t) (sz Γ.P t) off (H'[j]?.map AB.cs) _
      rw [hrow, hb']
      exact ⟨h.1, rfl, rfl⟩
    · rename_i cs hrow hcs
      simp only [Option.map_eq_some_iff] at hcs
      obtain ⟨b, hb, rfl⟩ := hcs
      unfold xcell at h
      split at h
      · rename_i y hy
        refine ⟨_, h, fun H' hf => ?_⟩
        have hb' := (famL_spec hf).2 j b hb (by rw [Nat.zero_add]; exact hM)
        show xpart (rowOf Γ.P t) (sz Γ.P t) off (H'[j]?.map AB.cs) _
        rw [hrow, hb']
        show xcell b.cs[off]? (fun v' e => v' = TV.s y ∧ e = HE.none)
        rw [hy]
        exact ⟨rfl, rfl⟩
      · exact h.elim
    · exact h.elim
  · rename_i ad
    unfold xext at h
    split at h
    · rename_i hrow
      obtain ⟨l, h1, h2, h3, h4⟩ := h
      exact ⟨_, h4, fun H' _ => by show xext Γ (rowOf Γ.P t) (sz Γ.P t) ad (fun v' e => v' = TV.agg (List.map SV.v l) ∧ e = HE.none); rw [hrow]; exact ⟨l, h1, h2, h3, rfl, rfl⟩⟩
    · rename_i hrow
      obtain ⟨y, h1, h2⟩ := h
      exact ⟨_, h2, fun H' _ => by show xext Γ (rowOf Γ.P t) (sz Γ.P t) ad (fun v' e => v' = TV.s (SV.v y) ∧ e = HE.none); rw [hrow]; exact ⟨y, h1, rfl, rfl⟩⟩
    · exact h.elim
  · exact h.elim

theorem xquietM_at {Γ : Ctx} {o : Oper} {T : List TV} {H : Heap} {M : List Nat} {β : Nat → Nat} {K : TV → Prop} {a : Act} {w0 : World} (hn0 : Γ.n0 = 0) (h : xquietM Γ o.op (ev T) H M K) (hT : Holds H.length β T a.tmps) (hR0 : Rep Γ H β w0) :
    ∃ v, K v ∧ (∀ β', Agrees H.length β β' → v.conc β' = v.conc β) ∧ ∀ s w, famD Γ H β M s w → o.quietAt Γ.P a (famD Γ H β M s) w (v.conc β) := by
  have hev : ∀ β', Agrees H.length β β' → ∀ x, a.eval x = (ev T x).conc β' := fun β' h' => eval_ev (a := a) (hT β' h')
  unfold xquietM at h
  split at h
  · rename_i c ho
    unfold xcallHM at h
    split at h
    · rename_i g hc
      unfold xcalledM at h
      split at h
      · rename_i f fa fc hg
        unfold xfun at hg
        split at hg
        · rename_i f' av cv hgv
          simp only [Option.some.injEq, Prod.mk.injEq] at hg
          obtain ⟨rfl, rfl, rfl⟩ := hg
          have hgc : a.eval g = .func (.func f') av cv := by rw [hev β (.refl _ _), hgv]; rfl
          have hargs : ∀ β', Agrees H.length β β' → (((av.toList.map (fun v => TV.s (.v v))) ++ c.args.toList.map (ev T) ++ (cv.toList.map (fun v => TV.s (.v v)))).map (TV.conc β')).toArray = av ++ c.args.map a.eval ++ cv := fun β' h' => by
            apply Array.ext'
            simp [conc_v, Function.comp_def, hev β' h']
          rcases h with ⟨hcall, r, hP, hK⟩ | ⟨r, hX, hok, hK⟩
          case inr =>
            have hst : ∀ β', r.conc β' = r.conc β := fun β' => TV.conc_ok hok (fun j hj => absurd hj (Nat.not_lt_zero j))
            refine ⟨r, hK, fun β' _ => hst β', fun s w hs => ?_⟩
            have hX' := hX β w
            rw [hargs β (.refl _ _)] at hX'
            unfold Oper.quietAt
            rw [run_callV (P := Γ.P) ho hc hgc w, hX']
            exact ⟨rfl, rfl⟩
          have hst : ∀ β', Agrees H.length β β' → r.conc β' = r.conc β := fun β' h' => by
            obtain ⟨e, w', fr, ⟨he, _⟩, _⟩ := hP H famL_refl β w0 hR0 []
            have h1 := he β (.refl _ _)
            rw [he β' h'] at h1
            injection h1
          refine ⟨r, hK, hst, fun s w hs => ?_⟩
          obtain ⟨hf, hag, hR⟩ := hs
          have hrun := run_callF (P := Γ.P) ho hc hgc hcall w
          have hP' := hP s.1 hf s.2 w hR
          rw [hargs s.2 hag] at hP'
          unfold Oper.quietAt
          rw [hrun]
          exact ⟨rfl, hP'.mono fun e w' ⟨he, hx⟩ => ⟨by rw [he s.2 (.refl _ _), hst s.2 hag], hf, hag, hR.ext hx⟩⟩
        · cases hg
      · exact h.elim
    · rename_i hc
      split at h
      · rename_i x t hx ht
        have hargs : c.args = #[x] := Array.ext' (by simpa using hx)
        have hts : c.argTypes = #[t] := Array.ext' (by simpa using ht)
        have fin : ∀ (n : Nat) (y : TV), ev T x = y → isSlc Γ.P t = true → (∃ ad cap, y.conc β = .slice ad n cap) → K (.s (.v (.int .i64 (n : Int)))) →
            ∃ v, K v ∧ (∀ β', Agrees H.length β β' → v.conc β' = v.conc β) ∧ ∀ s w, famD Γ H β M s w → o.quietAt Γ.P a (famD Γ H β M s) w (v.conc β) := by
          intro n y hy hsl ⟨ad, cap, hconc⟩ hK
          unfold isSlc at hsl
          split at hsl
          · rename_i e hu
            refine ⟨_, hK, fun _ _ => rfl, fun s w hs => ?_⟩
            have hrun : (execOp a.eval o).run Γ.P w = .ok (.value (.int .i64 (n : Int))) w := by
              simp [execOp, ho, resolve, hc, hargs, hts, invoke, builtin, Builtin.len_, run_underlying hu, hev β (.refl _ _), hy, hconc, goInt]
            unfold Oper.quietAt
            rw [hrun]
            exact ⟨rfl, rfl⟩
          · cases hsl
        unfold xlen at h
        split at h
        · rename_i ad n cap hy
          exact fin n _ hy h.1 ⟨ad, cap, rfl⟩ h.2
        · rename_i j off n cap hy
          exact fin n _ hy h.1 ⟨_, cap, rfl⟩ h.2
        · exact h.elim
      · exact h.elim
    · exact h.elim
  · rename_i t x ho
    obtain ⟨v, hK, hv⟩ := xload_fam h.1 h.2
    have run : ∀ H', famL M 0 H H' → ∀ β', Agrees H.length β β' → ∀ w, Rep Γ H' β' w → (execOp a.eval o).run Γ.P w = .ok (.value (v.conc β')) w := fun H' hf β' h' w hR => by
      obtain ⟨v', e, ⟨rfl, rfl⟩, hsd⟩ := sound_load (t := t) (x := x) (hv H' hf)
      exact hsd o β' a.eval w ho (hev β' h') hR
    have hst : ∀ β', Agrees H.length β β' → v.conc β' = v.conc β := fun β' h' => by
      have h1 := run H famL_refl β (.refl _ _) w0 hR0
      rw [run H famL_refl β' h' w0 (hR0.agree h')] at h1
      injection h1 with h1
      injection h1 with h1
    refine ⟨v, hK, hst, fun s w hs => ?_⟩
    obtain ⟨hf, hag, hR⟩ := hs
    unfold Oper.quietAt
    rw [run s.1 hf s.2 hag w hR]
    exact ⟨rfl, hst s.2 hag⟩
  · obtain ⟨v, e, hK, hsd⟩ := xop_sound h
    cases e with
    | none =>
      have run : ∀ H' β', Agrees H.length β β' → ∀ w, Rep Γ H' β' w → (execOp a.eval o).run Γ.P w = .ok (.value (v.conc β')) w := fun H' β' h' w hR =>
        hsd o β' a.eval w rfl (hev β' h') (hR.nil hn0)
      have hst : ∀ β', Agrees H.length β β' → v.conc β' = v.conc β := fun β' h' => by
        have h1 := run H β (.refl _ _) w0 hR0
        rw [run H β' h' w0 (hR0.agree h')] at h1
        injection h1 with h1
        injection h1 with h1
      refine ⟨v, hK, hst, fun s w hs => ?_⟩
      obtain ⟨hf, hag, hR⟩ := hs
      unfold Oper.quietAt
      rw [run s.1 s.2 hag w hR]
      exact ⟨rfl, hst s.2 hag⟩
    | new b => exact hK.elim
    | put j cs => exact hK.elim

def xHeadM (Γ : Ctx) (ops : Array Oper) (H : Heap) (M : List Nat) : List Oper → List TV → (List TV → Prop) → Prop
  | [], T, K => K T
  | o :: r, T, K => xguard T (o.guard.map fun g => ((ops[g.1]?).bind (·.dst), g.2))
      (fun T => xquietM Γ o.op (ev T) H M fun v => xHeadM Γ ops H M r (putT T o.dst v) K)
      (fun T => xHeadM Γ ops H M r (putT T o.dst undefT) K)

theorem xHeadM_wp {Γ : Ctx} {ops : Array Oper} {H : Heap} {M : List Nat} {β : Nat → Nat} {w0 : World} {Q : Act → Prop} (hn0 : Γ.n0 = 0) (hR0 : Rep Γ H β w0) : ∀ (l : List Oper) {T : List TV} {K : List TV → Prop} {a : Act},
    xHeadM Γ ops H M l T K → Holds H.length β T a.tmps → a.defers = [] → (∀ T' a', K T' → Holds H.length β T' a'.tmps → a'.defers = [] → Q a') → wpQuietG Γ.P ops (famD Γ H β M) Q l a
  | [], _, _, _, h, hT, hd, hQ => hQ _ _ h hT hd
  | o :: l, T, K, a, h, hT, hd, hQ => by
    simp only [xHeadM] at h
    have hput : ∀ u, (a.put o.dst u).defers = [] := fun u => by cases o.dst <;> exact hd
    refine xguard_holds (ops := ops) (o := o) h hT (fun T' hw hr hT' => ?_) (fun T' hw hr hT' => ?_)
    · obtain ⟨v, hK, hv, hq⟩ := xquietM_at hn0 hr hT' hR0
      simp only [wpQuietG, hw, if_true]
      exact ⟨v.conc β, hq, xHeadM_wp hn0 hR0 l hK (hT'.put (Nat.le_refl _) (.refl _ _) hv) (hput _) hQ⟩
    · simp only [wpQuietG, hw, Bool.false_eq_true, if_false]
      exact xHeadM_wp hn0 hR0 l hr (hT'.put (Nat.le_refl _) (.refl _ _) (fun _ _ => rfl)) (hput _) hQ

/-- The last part, abstractly: no calls, no guards. -/
def xTrM (Γ : Ctx) (ops : Array Oper) (H0 : Heap) (M : List Nat) (K : List TV → Heap → Prop) : Tr → Bool → List TV → Heap → Prop
  | .nil, true, T, H => K T H
  | .nil, false, _, _ => True
  | .cons i sub rest, _, T, H => (match ops[i]? with | some o => o.guard = none ∧ xop Γ o.op (ev T) H fun v e => famL M 0 H0 (e.app H) ∧ xTrM Γ ops H0 M K sub true (putT T o.dst v) (e.app H) | none => False) ∧ xTrM Γ ops H0 M K rest false T H

theorem xTrM_wp {Γ : Ctx} {ops : Array Oper} {H0 : Heap} {β0 : Nat → Nat} {M : List Nat} {Q : Exit → Act → World → Prop} {K : List TV → Heap → Prop} (hK : ∀ T' H' a' w', K T' H' → St Γ T' H' a' w' → Q .normal a' w') :
    ∀ (t : Tr) (first : Bool) {T : List TV} {H : Heap} {β : Nat → Nat} {a : Act}, xTrM Γ ops H0 M K t first T H → Agrees H0.length β0 β → H0.length ≤ H.length → Holds H.length β T a.tmps → a.defers = [] → wpTrG Γ.P ops (famD Γ H0 β0 M) Q t first (H, β) a
  | .nil, true, _, _, β, _, h, _, _, hT, hd => fun w hw => hK _ _ _ _ h ⟨β, hT, hw.2.2, hd⟩
  | .nil, false, _, _, _, _, _, _, _, _, _ => trivial
  | .cons i sub rest, first, T, H, β, a, h, hag, hle, hT, hd => by
    simp only [xTrM] at h
    refine ⟨fun w hw => ?_, xTrM_wp hK rest false h.2 hag hle hT hd⟩
    have h1 := h.1
    unfold wpOp
    split at h1
    · rename_i o ho
      obtain ⟨hg, hx⟩ := h1
      have hwant : Region.wanted o (yielded ops a.tmps) = true := by simp [Region.wanted, hg]
      simp only [ho, hwant, if_true]
      refine .inl ?_
      obtain ⟨v, e, ⟨hfam, hKv⟩, hsd⟩ := xop_sound hx
      have hput : ∀ u, (a.put o.dst u).defers = [] := fun u => by cases o.dst <;> exact hd
      have hR := hw.2.2
      obtain ⟨u, w', β', hr, hag', hlen, hR', hv⟩ := Does.leaves (fun β' h' => hsd o β' a.eval w rfl (eval_ev (hT β' h')) (hR.agree h')) hR
      have hfin : ∃ s', famD Γ H0 β0 M s' w' ∧ wpTrG Γ.P ops (famD Γ H0 β0 M) Q sub true s' (a.put o.dst u) :=
        ⟨(e.app H, β'), ⟨hfam, hag.trans (hag'.mono hle), hR'⟩, xTrM_wp hK sub true hKv (hag.trans (hag'.mono hle)) (Nat.le_trans hle hlen) (hT.put hlen hag' hv) (hput _)⟩
      unfold Oper.wp
      rcases hr with hr | ⟨hr, rfl⟩
      · rw [hr]; exact hfin
      · rw [hr]; exact hfin
    · exact h1.elim

@[irreducible] def XM (Γ : Ctx) (ops : Array Oper) (H : Heap) (M : List Nat) (l : List Oper) (T : List TV) (K : List TV → Prop) : Prop := xHeadM Γ ops H M l T K
theorem XM_eq {Γ : Ctx} {ops : Array Oper} {H : Heap} {M : List Nat} {l : List Oper} {T : List TV} {K : List TV → Prop} : XM Γ ops H M l T K = xHeadM Γ ops H M l T K := by unfold XM; rfl
/-- A STATEMENT WHOSE ORDER IS OPEN: n operations that are quiet whatever the blocks of M hold; the rest in every order of the tree, between them wherever it may come. -/
theorem X_drawM {Γ : Ctx} {id : Nat} {l : List Oper} {T : List TV} {H : Heap} {Q : QX} (n : Nat) (M : List Nat) (t : Tr) (hn0 : Γ.n0 = 0) (hm : Γ.P.follows .mixedOrders = true) (hB : mixG .any l.toArray n t = true)
    (h : XM Γ l.toArray H M (l.take n) T fun T => xTrM Γ l.toArray H M (fun T H => Q .normal T H) t true T H) : XL Γ (.region id l.toArray true) T H Q := by
  rw [XM_eq] at h
  rw [XL_eq]
  intro a w ⟨β, hT, hR, hd⟩
  refine wp_mono (wp_region_G (D := famD Γ H β M) (Q := fun e a w => match e with | .normal => lift Γ Q .normal a w | _ => False) n t (H, β) hm hB (fun _ _ _ h => h) ⟨famL_refl, .refl _ _, hR.drewQ⟩ ?_) fun e a w h => ?_
  · refine xHeadM_wp hn0 hR _ h hT hd fun T' a' hK hT' hd' => ?_
    exact xTrM_wp (fun T'' H'' a'' w'' hq hs => ⟨T'', H'', hq, hs⟩) t true hK (.refl _ _) (Nat.le_refl _) hT' hd'
  · cases e with
    | normal => exact h
    | _ => exact h.elim

section
variable {Γ : Ctx} {ops : Array Oper} {H H' H0 : Heap} {M : List Nat} {T T' : List TV} {K : List TV → Prop} {KL : List TV → Heap → Prop} {KV : TV → Prop} {E : Operand → TV} {dst : Option Tmp} {op : Op} {ty : TypeId} {pos : String} {af : Array Edge} {j i : Nat} {w b : Bool} {r : List Oper}
@[congr] theorem XM_congr {l : List Oper} (h1 : T = T') : XM Γ ops H M l T K = XM Γ ops H M l T' K := by rw [h1]
theorem XM_nil (h : K T) : XM Γ ops H M [] T K := by rw [XM_eq]; exact h
theorem XM_cons (h : xquietM Γ op (ev T) H M fun v => XM Γ ops H M r (putT T dst v) K) : XM Γ ops H M (⟨dst, op, ty, pos, af, none⟩ :: r) T K := by
  simp only [XM_eq] at h ⊢
  exact h
theorem XM_consG (h : xguard T (some ((ops[j]?).bind (·.dst), w)) (fun T => xquietM Γ op (ev T) H M fun v => XM Γ ops H M r (putT T dst v) K) (fun T => XM Γ ops H M r (putT T dst undefT) K)) :
    XM Γ ops H M (⟨dst, op, ty, pos, af, some (j, w)⟩ :: r) T K := by
  simp only [XM_eq] at h ⊢
  exact h
theorem qm_call {c : Call} : xquietM Γ (.call c) E H M KV = xcallHM Γ c E H M KV := rfl
theorem qm_move {x : Operand} : xquietM Γ (.move x) E H M KV = KV (E x) := rfl
theorem qm_assign {x : Operand} : xquietM Γ (.assign x) E H M KV = KV (E x) := rfl
theorem qm_pick {c a b : Operand} : xquietM Γ (.pick c a b) E H M KV = xpick (E c) (E a) (E b) (quietK KV) := rfl
theorem qm_build {t : TypeId} {ps : List (Nat × Operand)} : xquietM Γ (.build t ps.toArray) E H M KV = (known Γ.P t = true ∧ xbuild ((zeroA Γ.P t).bind fun z => fillA (placeOf Γ.P t) z (ps.map fun p => (p.1, cellsOf (E p.2)))) (quietK KV)) := rfl
theorem qm_load {t : TypeId} {a : Operand} : xquietM Γ (.load t a) E H M KV = (maskOK M (E a) ∧ xload Γ t (E a) H (quietK KV)) := rfl
theorem qm_nilCheck {x : Operand} : xquietM Γ (.nilCheck x) E H M KV = xnil (E x) (quietK KV) := rfl
theorem qm_binOp {op : BinOp} {t ty : TypeId} {x y : Operand} : xquietM Γ (.binOp op t x y ty) E H M KV = xbin Γ.P op t (E x) (E y) (quietK KV) := rfl
theorem qm_unOp {op : UnOp} {t : TypeId} {x : Operand} : xquietM Γ (.unOp op t x) E H M KV = xun op (E x) (quietK KV) := rfl
theorem qm_convert {s d : TypeId} {x : Operand} : xquietM Γ (.convert s d x) E H M KV = xconv (intKindOf Γ.P s) (intKindOf Γ.P d) (E x) (quietK KV) := rfl
theorem qm_fieldAddr {s : TypeId} {x : Operand} {f : Nat} : xquietM Γ (.fieldAddr s x f) E H M KV = xfieldAddr (fieldOff Γ.P s f) (E x) (quietK KV) := rfl
theorem qm_field {s : TypeId} {x : Operand} {f : Nat} : xquietM Γ (.field s x f) E H M KV = xfield Γ.P (fieldOff Γ.P s f) (E x) (quietK KV) := rfl
theorem qm_indexAddr {t : TypeId} {x i : Operand} : xquietM Γ (.indexAddr t x i) E H M KV = xindexAddr Γ.P (arrOf Γ.P t) (slcOf Γ.P t) (E x) (E i) (quietK KV) := rfl
theorem qm_index {t : TypeId} {x i : Operand} : xquietM Γ (.index t x i) E H M KV = xindex Γ.P (arrOf Γ.P t) (E x) (E i) (quietK KV) := rfl
theorem qm_extract {x : Operand} {i : Nat} : xquietM Γ (.extract x i) E H M KV = xextract (E x) i (quietK KV) := rfl
theorem maskOK_p {o : Nat} : maskOK M (.s (.p j o)) = (M.contains j = false) := rfl
theorem maskOK_v {x : Value} : maskOK M (.s (.v x)) = True := rfl
theorem xcallHM_value {g : Operand} {as : List Operand} {ts : Array TypeId} : xcallHM Γ ⟨.value g, as.toArray, ts⟩ E H M KV = xcalledM Γ H M (xfun (E g)) (as.map E) KV := rfl
theorem xcallHM_len {x : Operand} {t : TypeId} : xcallHM Γ ⟨.builtin .len, #[x], #[t]⟩ E H M KV = xlen (isSlc Γ.P t) (E x) KV := rfl
theorem xcalledM_some {f : FuncId} {as : List TV} : xcalledM Γ H M (some (f, [], [])) as KV = xcallM Γ H M f as KV := by simp [xcalledM]
@[congr] theorem xcallHM_congr {c : Call} {E' : Operand → TV} (h : E = E') : xcallHM Γ c E H M KV = xcallHM Γ c E' H M KV := by rw [h]
@[congr] theorem xcalledM_congr {g g' : Option (FuncId × List TV × List TV)} {as as' : List TV} (h : g = g') (h2 : as = as') : xcalledM Γ H M g as KV = xcalledM Γ H M g' as' KV := by rw [h, h2]
@[congr] theorem xcallM_congr {f : FuncId} {as as' : List TV} (h2 : as = as') : xcallM Γ H M f as KV = xcallM Γ H M f as' KV := by rw [h2]
@[congr] theorem xTrM_congr {t : Tr} {H1 : Heap} (h1 : T = T') (h2 : H = H') : xTrM Γ ops H1 M KL t b T H = xTrM Γ ops H1 M KL t b T' H' := by rw [h1, h2]
@[congr] theorem xquietM_congr {op : Op} {E' : Operand → TV} (h : E = E') : xquietM Γ op E H M KV = xquietM Γ op E' H M KV := by rw [h]
def xAtM (Γ : Ctx) (ops : Array Oper) (H0 : Heap) (M : List Nat) (o : Option Oper) (T : List TV) (H : Heap) (KL : List TV → Heap → Prop) : Prop :=
  match o with | some o => o.guard = none ∧ xop Γ o.op (ev T) H fun v e => famL M 0 H0 (e.app H) ∧ KL (putT T o.dst v) (e.app H) | none => False
@[congr] theorem xAtM_congr {o o' : Option Oper} (h : o = o') (h1 : T = T') (h2 : H = H') : xAtM Γ ops H0 M o T H KL = xAtM Γ ops H0 M o' T' H' KL := by rw [h, h1, h2]
theorem xTrM_nil : xTrM Γ ops H0 M KL .nil true T H = KL T H := rfl
theorem xTrM_false : xTrM Γ ops H0 M KL .nil false T H = True := rfl
theorem xTrM_cons {sub rest : Tr} : xTrM Γ ops H0 M KL (.cons i sub rest) b T H = (xAtM Γ ops H0 M ops[i]? T H (fun T H => xTrM Γ ops H0 M KL sub true T H) ∧ xTrM Γ ops H0 M KL rest false T H) := by
  simp only [xTrM, xAtM]
theorem xAtM_assign {x : Operand} : xAtM Γ ops H0 M (some ⟨dst, .assign x, ty, pos, af, none⟩) T H KL = (famL M 0 H0 H ∧ KL (putT T dst (ev T x)) H) := by simp [xAtM, xop, HE.app]
theorem xAtM_move {x : Operand} : xAtM Γ ops H0 M (some ⟨dst, .move x, ty, pos, af, none⟩) T H KL = (famL M 0 H0 H ∧ KL (putT T dst (ev T x)) H) := by simp [xAtM, xop, HE.app]
theorem xAtM_extract {x : Operand} {n : Nat} : xAtM Γ ops H0 M (some ⟨dst, .extract x n, ty, pos, af, none⟩) T H KL = xextract (ev T x) n (fun v e => famL M 0 H0 (e.app H) ∧ KL (putT T dst v) (e.app H)) := by simp [xAtM, xop]
theorem xAtM_alloc {e : TypeId} : xAtM Γ ops H0 M (some ⟨dst, .alloc e, ty, pos, af, none⟩) T H KL = xnew Γ e (zeroA Γ.P e) H.length (fun v e => famL M 0 H0 (e.app H) ∧ KL (putT T dst v) (e.app H)) := by simp [xAtM, xop]
theorem xAtM_store {t : TypeId} {a x : Operand} : xAtM Γ ops H0 M (some ⟨dst, .store t a x, ty, pos, af, none⟩) T H KL = xstore Γ t (ev T a) (ev T x) H (fun v e => famL M 0 H0 (e.app H) ∧ KL (putT T dst v) (e.app H)) := by simp [xAtM, xop]
theorem famL_nil : famL M i [] H = True := by cases H <;> rfl
theorem famL_cons {x y : AB} : famL M i (x :: H) (y :: H') = ((M.contains i = true ∨ y = x) ∧ famL M (i + 1) H H') := rfl
end
end Go.Ab
