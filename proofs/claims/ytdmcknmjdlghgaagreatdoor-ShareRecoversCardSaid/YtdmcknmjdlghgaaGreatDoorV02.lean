/-
  Texts laid together: Ab9, Ab10, Ab11, Ab12, Ab13, Ab14, Ab15, Ab16, Ab17, Ab18, Ab19, Ab20, Ab21.
-/
import Derived.Laws.AppendOwn
import Derived.Laws.MakeOwn
import Derived.Laws.Cover3
import Derived.Laws.IdiomCopy
import Derived.Laws.CopyRow
import Derived.Test.YtdmcknmjdlghgaaGreatDoorV01
/-
  A drawn statement's head, an operation at a time.
-/
namespace Go.Ab
open Go Go.RowKit
set_option linter.unusedSimpArgs false
set_option linter.unusedVariables false
@[irreducible] def XH (Γ : Ctx) (ops : Array Oper) (H : Heap) (l : List Oper) (T : List TV) (K : List TV → Prop) : Prop := xHead Γ ops H l T K
section
variable {Γ : Ctx} {ops : Array Oper} {H : Heap} {T T' : List TV} {K : List TV → Prop} {dst : Option Tmp} {op : Op} {ty : TypeId} {pos : String} {af : Array Edge} {j : Nat} {w : Bool} {r : List Oper}
@[congr] theorem XH_congr {l : List Oper} (h1 : T = T') : XH Γ ops H l T K = XH Γ ops H l T' K := by rw [h1]
end
@[irreducible] def XO (Γ : Ctx) (ops : Array Oper) (l : List Oper) (T : List TV) (H : Heap) (K : List TV → Heap → Prop) : Prop := xOps Γ ops l T H K
section
variable {Γ : Ctx} {ops : Array Oper} {H H' : Heap} {T T' : List TV} {K : List TV → Heap → Prop} {dst : Option Tmp} {op : Op} {ty : TypeId} {pos : String} {af : Array Edge} {j : Nat} {w : Bool} {r : List Oper}
@[congr] theorem XO_congr {l : List Oper} (h1 : T = T') (h2 : H = H') : XO Γ ops l T H K = XO Γ ops l T' H' K := by rw [h1, h2]
end
end Go.Ab
/-
  A statement whose order is open, where its last part (new blocks, stores) may come ahead of what only reads and calls:
  what is read and called is quiet in every world of a family: our blocks as they were, but for some that may hold whatever, and new ones.
-/
namespace Go.Ab
open Go Go.RowKit
set_option linter.unusedSimpArgs false
set_option linter.unusedVariables false
section
variable {P : Program} {ops : Array Oper} {md : Region.Mode} {σ : Type} {D : σ → World → Prop}
def wpAnyG (P : Program) (md : Region.Mode) (ops : Array Oper) (D : σ → World → Prop) (n : Nat) (Q : Exit → Act → World → Prop) : Nat → Array Bool → σ → Act → Prop
  | 0, listed, s, a => Region.ready md ops listed = [] ∧ ∀ w, D s w → Q .normal a w
  | f + 1, listed, s, a =>
    (Region.ready md ops listed = [] → ∀ w, D s w → Q .normal a w) ∧
    ∀ i ∈ Region.ready md ops listed, (i < n → qOp P ops (D s) i (wpAnyG P md ops D n Q f (listed.setIfInBounds i true) s) a) ∧
      (n ≤ i → ∀ w, D s w → wpOp P ops Q i (fun a' w' => ∃ s', D s' w' ∧ wpAnyG P md ops D n Q f (listed.setIfInBounds i true) s' a') a w)
theorem wpAny_of_G {n : Nat} {Q : Exit → Act → World → Prop} : ∀ (f : Nat) (listed : Array Bool) (s : σ) (a : Act) (w : World), D s w → wpAnyG P md ops D n Q f listed s a → wpAny P md ops Q f listed a w
  | 0, _, _, _, w, hw, h => ⟨h.1, h.2 w hw⟩
  | f + 1, listed, s, a, w, hw, h => ⟨fun h0 => h.1 h0 w hw, fun i hi => by
      rcases Nat.lt_or_ge i n with hlt | hge
      · exact wpOp_of_qOp hw (fun a' w' hw' h' => wpAny_of_G f _ s a' w' hw' h') ((h.2 i hi).1 hlt)
      · exact wpOp_mono (fun a' w' ⟨s', hs', h'⟩ => wpAny_of_G f _ s' a' w' hs' h') ((h.2 i hi).2 hge w hw)⟩
def YG (P : Program) (ops : Array Oper) (D : σ → World → Prop) (o : Oper) (v : Value) (a : Act) : Prop := ∀ s, YieldsIn P ops (D s) o v a
theorem YG.of_same {o : Oper} {v : Value} {a a' : Act} (hy : YG P ops D o v a) (he : execOp a'.eval o = execOp a.eval o)
    (hw : Region.wanted o (yielded ops a'.tmps) = Region.wanted o (yielded ops a.tmps)) : YG P ops D o v a' := fun s => (hy s).of_same he hw
theorem wpOp_putG {Q : Exit → Act → World → Prop} {j : Nat} {oi oj : Oper} {v : Value} (hj : ops[j]? = some oj) (hap : oi.apart ops oj = true)
    (hsi : ∀ cs b, oi.op ≠ .select cs b) (hsj : ∀ cs b, oj.op ≠ .select cs b)
    (hQ : ∀ c a w, Q (.panic c) (a.put oi.dst v) w → Q (.panic c) a w) {K : Act → World → Prop} {a : Act} {w : World}
    (hy : YG P ops D oi v a) (h : wpOp P ops Q j K (a.put oi.dst v) w) :
    wpOp P ops Q j (fun a' w' => YG P ops D oi v a' ∧ K (a'.put oi.dst v) w') a w := by
  obtain ⟨h1, h2, h3⟩ := Oper.apart_spec hap
  have keep : ∀ (a : Act), YG P ops D oi v a → ∀ u, YG P ops D oi v (a.put oj.dst u) := fun a hy u =>
    hy.of_same (execOp_put oi hsi a oj.dst u h3) (wanted_put oi a oj.dst u h3)
  have keepD : ∀ d, YG P ops D oi v { a with defers := d :: a.defers } := fun d => hy.of_same rfl rfl
  unfold wpOp at *
  simp only [hj] at *
  rw [wanted_put oj a oi.dst v h1] at h
  split
  · rename_i hw
    simp only [hw, if_true] at h
    rcases h with h | ⟨hasks, hlets⟩
    case inr => exact .inr ⟨by unfold Oper.asks at *; rw [execOp_put oj hsj a oi.dst v h1] at hasks; exact hasks, hlets⟩
    refine .inl ?_
    unfold Oper.wp at *
    rw [execOp_put oj hsj a oi.dst v h1] at h
    generalize (execOp a.eval oj).run P w = r at *
    cases r with
    | ok n w' =>
      cases n <;> simp only [Oper.upon] at h ⊢
      case value u => exact ⟨keep a hy u, by rw [← Act.put_comm a v u h2]; exact h⟩
      case skip => exact ⟨keep a hy _, by rw [← Act.put_comm a v undef h2]; exact h⟩
      case defer d =>
        refine ⟨keep _ (keepD d) _, ?_⟩
        rw [← Act.put_comm _ v undef h2, ← Act.put_defers]
        exact h
      case enter f args =>
        refine Calls.mono h fun e w'' he => ?_
        cases e with
        | returned u => exact ⟨keep a hy u, by rw [← Act.put_comm a v u h2]; exact he⟩
        | panicked c => exact hQ _ _ _ he
        | outgrown => exact he
      case row row args => exact Rows.mono h fun u w'' he => ⟨keep a hy u, by rw [← Act.put_comm a v u h2]; exact he⟩
    | halt x w' =>
      cases x <;> simp only [Oper.upon] at h ⊢
      case panic u => exact hQ _ _ _ h
  · rename_i hw
    simp only [hw] at h
    exact ⟨keep a hy _, by rw [← Act.put_comm a v undef h2]; exact h⟩
theorem wpAnyG_first {n i : Nat} {oi : Oper} {v : Value} {Q : Exit → Act → World → Prop} (hi : ops[i]? = some oi) (hsel : ∀ (j : Nat) (o : Oper) cs b, ops[j]? = some o → o.op ≠ .select cs b)
    (hQ : ∀ c a w, ¬ Q (.panic c) a w) (hin : i < n) :
    ∀ (f : Nat) (listed : Array Bool) (s : σ) (a : Act),
      (∀ j oj, ops[j]? = some oj → j ≠ i → listed.getD j true = false → (∀ e ∈ oj.after, Region.binds md e = true → e.on ≠ i) → oi.apart ops oj = true) →
      i ∈ Region.ready md ops listed → YG P ops D oi v a →
      wpAnyG P md ops D n Q f (listed.setIfInBounds i true) s (a.put oi.dst v) → wpAnyG P md ops D n Q (f + 1) listed s a := by
  intro f
  induction f with
  | zero =>
    intro listed s a _ hr hy H
    refine ⟨fun h => (by rw [h] at hr; cases hr), fun j hj => ?_⟩
    by_cases hji : j = i
    · subst hji; exact ⟨fun _ => (hy s).qOp hi H, fun h => absurd hin (Nat.not_lt.2 h)⟩
    · have := ready_mono hj hji
      rw [H.1] at this
      cases this
  | succ f ih =>
    intro listed s a hfree hr hy H
    have hun := (mem_ready.1 hr).1
    refine ⟨fun h => (by rw [h] at hr; cases hr), fun j hj => ?_⟩
    by_cases hji : j = i
    · subst hji; exact ⟨fun _ => (hy s).qOp hi H, fun h => absurd hin (Nat.not_lt.2 h)⟩
    · have h1 := H.2 j (ready_mono hj hji)
      obtain ⟨hjun, oj, hoj, hall⟩ := mem_ready.1 hj
      have hnot : ∀ e ∈ oj.after, Region.binds md e = true → e.on ≠ i := fun e he hb heq => by
        have h1 := hall e he hb
        rw [heq, getD_both hun] at h1
        cases h1
      have hap := hfree j oj hoj hji hjun hnot
      have hfree' : ∀ k ok, ops[k]? = some ok → k ≠ i → (listed.setIfInBounds j true).getD k true = false →
          (∀ e ∈ ok.after, Region.binds md e = true → e.on ≠ i) → oi.apart ops ok = true := fun k ok hk hki hun hno => by
        refine hfree k ok hk hki ?_ hno
        by_cases hjk : j = k
        · subst hjk; exact hjun
        · rw [getD_set_ne true hjk] at hun; exact hun
      obtain ⟨e1, e2, e3⟩ := Oper.apart_spec hap
      refine ⟨fun hjn => ?_, fun hjn w hw => ?_⟩
      · have h2 := qOp_put hoj hap (fun cs b => hsel i oi cs b hi) (fun cs b => hsel j oj cs b hoj) (hy s) (h1.1 hjn)
        obtain ⟨u, hyj, hK⟩ := yieldsIn_of_qOp hoj h2
        have hy' : YG P ops D oi v (a.put oj.dst u) := hy.of_same (execOp_put oi (fun cs b => hsel i oi cs b hi) a oj.dst u e3) (wanted_put oi a oj.dst u e3)
        refine hyj.qOp hoj (ih (listed.setIfInBounds j true) s _ hfree' (ready_mono hr (Ne.symm hji)) hy' ?_)
        rw [Array.setIfInBounds_comm _ _ hji]
        exact hK.2
      · have h2 := wpOp_putG hoj hap (fun cs b => hsel i oi cs b hi) (fun cs b => hsel j oj cs b hoj) (fun c a w h => absurd h (hQ c _ w)) hy (h1.2 hjn w hw)
        refine wpOp_mono (fun a' w' ⟨hy', s', hs', h3⟩ => ⟨s', hs', ih (listed.setIfInBounds j true) s' a' hfree' (ready_mono hr (Ne.symm hji)) hy' ?_⟩) h2
        rw [Array.setIfInBounds_comm _ _ hji]
        exact h3
def headG (md : Region.Mode) (ops : Array Oper) (fin : Array Bool → Bool) : Nat → Nat → Array Bool → Bool
  | 0, _, listed => fin listed
  | f + 1, k, listed => (Region.ready md ops listed).contains k && Region.free md ops listed k && headG md ops fin f (k + 1) (listed.setIfInBounds k true)
def mixG (md : Region.Mode) (ops : Array Oper) (n : Nat) (t : Tr) : Bool :=
  Region.noSelect ops && decide (n ≤ ops.size) && headG md ops (fun listed => trB md ops t (ops.size - n) true listed && (List.range n).all fun k => listed.getD k true) n 0 (Array.replicate ops.size false)
def wpQuietG (P : Program) (ops : Array Oper) (D : σ → World → Prop) (Q : Act → Prop) : List Oper → Act → Prop
  | [], a => Q a
  | o :: r, a => if Region.wanted o (yielded ops a.tmps) then ∃ v, (∀ s w, D s w → o.quietAt P a (D s) w v) ∧ wpQuietG P ops D Q r (a.put o.dst v) else wpQuietG P ops D Q r (a.put o.dst undef)
theorem wpAnyG_lex {n g : Nat} {fin : Array Bool → Bool} {Q : Exit → Act → World → Prop} {Lq : Act → Prop} {s : σ} (hQ : ∀ c a w, ¬ Q (.panic c) a w) (hsel : Region.noSelect ops = true)
    (hL : ∀ listed a, fin listed = true → Lq a → wpAnyG P md ops D n Q g listed s a) :
    ∀ (l : List Oper) (k : Nat) (listed : Array Bool) (a : Act), (∀ j, j < l.length → l[j]? = ops[k + j]?) → k + l.length = n →
    headG md ops fin l.length k listed = true → wpQuietG P ops D Lq l a → wpAnyG P md ops D n Q (l.length + g) listed s a
  | [], k, listed, a, _, hk, hB, h => by
    rw [List.length_nil, Nat.zero_add]
    exact hL listed a (by simpa [headG] using hB) h
  | o :: l, k, listed, a, hl, hk, hB, h => by
    have h0 : ops[k]? = some o := by simpa using (hl 0 (by simp)).symm
    simp only [List.length_cons, headG, Bool.and_eq_true] at hB
    obtain ⟨⟨hr, hf⟩, hB'⟩ := hB
    have hkn : k < n := by simp only [List.length_cons] at hk; omega
    have hr' : k ∈ Region.ready md ops listed := by simpa using hr
    have hst : ∃ v, YG P ops D o v a ∧ wpQuietG P ops D Lq l (a.put o.dst v) := by
      simp only [wpQuietG] at h
      split at h
      · rename_i hw
        obtain ⟨v, hv, hK⟩ := h
        exact ⟨v, fun s => .inl ⟨hw, hv s⟩, hK⟩
      · rename_i hw
        exact ⟨undef, fun s => .inr ⟨by simpa using hw, rfl⟩, h⟩
    obtain ⟨v, hy, hK⟩ := hst
    rw [List.length_cons, show l.length + 1 + g = (l.length + g) + 1 by omega]
    exact wpAnyG_first h0 (Region.noSelect_spec hsel) hQ hkn (l.length + g) listed s a (Region.free_spec h0 hf) hr' hy
      (wpAnyG_lex hQ hsel hL l (k + 1) _ _ (fun j hj => by have := hl (j + 1) (by simp; omega); simpa [Nat.add_assoc, Nat.add_comm 1 j] using this) (by simp only [List.length_cons] at hk; omega) hB' hK)
def wpTrG (P : Program) (ops : Array Oper) (D : σ → World → Prop) (Q : Exit → Act → World → Prop) : Tr → Bool → σ → Act → Prop
  | .nil, true, s, a => ∀ w, D s w → Q .normal a w
  | .nil, false, _, _ => True
  | .cons i sub rest, _, s, a => (∀ w, D s w → wpOp P ops Q i (fun a' w' => ∃ s', D s' w' ∧ wpTrG P ops D Q sub true s' a') a w) ∧ wpTrG P ops D Q rest false s a
theorem wpAnyG_of_tr {n : Nat} {Q : Exit → Act → World → Prop} : ∀ (t : Tr) (f : Nat) (first : Bool) (listed : Array Bool) (s : σ) (a : Act), trB md ops t f first listed = true → (∀ k, k < n → listed.getD k true = true) → wpTrG P ops D Q t first s a →
    (first = true → wpAnyG P md ops D n Q f listed s a) ∧ ∀ g, f = g + 1 → ∀ i ∈ t.kids, ∀ w, D s w → wpOp P ops Q i (fun a' w' => ∃ s', D s' w' ∧ wpAnyG P md ops D n Q g (listed.setIfInBounds i true) s' a') a w
  | .nil, f, first, listed, s, a, hB, _, h => by
    refine ⟨fun hf => ?_, fun g _ i hi => by cases hi⟩
    subst hf
    have h0 : Region.ready md ops listed = [] := by simpa [trB] using hB
    cases f with
    | zero => exact ⟨h0, h⟩
    | succ f => exact ⟨fun _ => h, fun i hi => by rw [h0] at hi; cases hi⟩
  | .cons i sub rest, 0, first, listed, s, a, hB, _, h => by simp [trB] at hB
  | .cons i sub rest, f + 1, first, listed, s, a, hB, hn, h => by
    simp only [trB, Bool.and_eq_true] at hB
    obtain ⟨⟨h1, h2⟩, h3⟩ := hB
    have hn' : ∀ j k, k < n → (listed.setIfInBounds j true).getD k true = true := fun j k hk => by
      by_cases hjk : j = k
      · subst hjk
        rcases Nat.lt_or_ge j listed.size with h' | h'
        · simp [h']
        · simp [Array.getElem?_eq_none (show (listed.setIfInBounds j true).size ≤ j by simpa using h')]
      · rw [getD_set_ne true hjk]; exact hn k hk
    have hk : ∀ k ∈ (Tr.cons i sub rest).kids, ∀ w, D s w → wpOp P ops Q k (fun a' w' => ∃ s', D s' w' ∧ wpAnyG P md ops D n Q f (listed.setIfInBounds k true) s' a') a w := by
      intro k hk
      rcases List.mem_cons.1 hk with hk | hk
      · subst hk
        exact fun w hw => wpOp_mono (fun a' w' ⟨s', hs', h'⟩ => ⟨s', hs', (wpAnyG_of_tr sub f true _ s' a' h2 (hn' _) h').1 rfl⟩) (h.1 w hw)
      · exact (wpAnyG_of_tr rest (f + 1) false listed s a h3 hn h.2).2 f rfl k hk
    refine ⟨fun hf => ?_, fun g hg => by injection hg with hg; subst hg; exact hk⟩
    subst hf
    simp only [Bool.not_true, Bool.false_or, Bool.and_eq_true, List.all_eq_true] at h1
    refine ⟨fun h0 => ?_, fun k hk' => ⟨fun hlt => ?_, fun _ => hk k (by have := h1.2 k hk'; simpa [Tr.kids] using this)⟩⟩
    · have := h1.1
      rw [h0] at this
      cases this
    · have h5 := (mem_ready.1 hk').1
      rw [hn k hlt] at h5
      cases h5
theorem wp_region_G {id : Nat} {Q : Exit → Act → World → Prop} {a : Act} {w : World} {l : List Oper} (n : Nat) (t : Tr) (s : σ) (hm : P.follows .mixedOrders = true) (hB : mixG .any l.toArray n t = true)
    (hQ : ∀ c a w, ¬ Q (.panic c) a w) (hC : D s { w with drawn := w.drawn + 1 })
    (h : wpQuietG P l.toArray D (fun a' => wpTrG P l.toArray D Q t true s a') (l.take n) a) : (Code.region id l.toArray true).wp P Q a w := by
  simp only [mixG, Bool.and_eq_true, decide_eq_true_eq] at hB
  obtain ⟨⟨hsel, hn⟩, hmix⟩ := hB
  have hn' : n ≤ l.length := by simpa using hn
  have htl : (l.take n).length = n := by simp; omega
  have H := wpAnyG_lex (md := .any) (g := l.toArray.size - n) (fin := fun listed => trB .any l.toArray t (l.toArray.size - n) true listed && (List.range n).all fun k => listed.getD k true) (P := P) (ops := l.toArray) (D := D) (n := n) (Q := Q) (s := s) hQ hsel (fun listed a' hs hLq => by
    simp only [Bool.and_eq_true, List.all_eq_true, List.mem_range] at hs
    exact (wpAnyG_of_tr t _ true listed s a' hs.1 hs.2 hLq).1 rfl)
    (l.take n) 0 _ a (fun j hj => by
      have hj' : j < n := by rw [htl] at hj; exact hj
      simp [hj']) (by simpa using htl) (by rw [htl]; exact hmix) h
  refine wp_region_any hm ?_
  have := wpAny_of_G _ _ _ _ _ hC H
  rw [htl, show n + (l.toArray.size - n) = l.toArray.size by simp; omega] at this
  exact this
end
/-! Tryz# Abstractly -/
def famL (M : List Nat) : Nat → Heap → Heap → Prop
  | _, [], _ => True
  | i, b :: H, b' :: H' => (M.contains i = true ∨ b' = b) ∧ famL M (i + 1) H H'
  | _, _ :: _, [] => False
theorem famL_spec {M : List Nat} : ∀ {i : Nat} {H H' : Heap}, famL M i H H' → H.length ≤ H'.length ∧ ∀ (j : Nat) (b : AB), H[j]? = some b → M.contains (i + j) = false → H'[j]? = some b
  | _, [], _, _ => ⟨Nat.zero_le _, fun j b h => by simp at h⟩
  | i, b :: H, b' :: H', h => by
    obtain ⟨h1, h2⟩ := famL_spec h.2
    refine ⟨by simp; omega, fun j c hc hM => ?_⟩
    cases j with
    | zero =>
      simp only [List.getElem?_cons_zero, Option.some.injEq, Nat.add_zero] at hc hM ⊢
      rcases h.1 with h3 | h3
      · rw [hM] at h3; cases h3
      · rw [h3, hc]
    | succ j =>
      simp only [List.getElem?_cons_succ] at hc ⊢
      exact h2 j c hc (by rw [show i + 1 + j = i + (j + 1) by omega]; exact hM)
  | _, _ :: _, [], h => h.elim
theorem famL_refl {M : List Nat} : ∀ {i : Nat} {H : Heap}, famL M i H H
  | _, [] => trivial
  | _, _ :: _ => ⟨.inr rfl, famL_refl⟩
def famD (Γ : Ctx) (H : Heap) (β : Nat → Nat) (M : List Nat) (s : Heap × (Nat → Nat)) (w : World) : Prop := famL M 0 H s.1 ∧ Agrees H.length β s.2 ∧ Rep Γ s.1 s.2 w
theorem Rep.nil {Γ : Ctx} {H : Heap} {β : Nat → Nat} {w : World} (h : Rep Γ H β w) : Rep { Γ with n0 := 0 } [] β w :=
  ⟨⟨Nat.le_refl _, fun j hj => absurd hj (Nat.not_lt_zero j)⟩, ⟨h.fr.os, h.fr.tape, h.fr.output, h.fr.size, h.fr.blk⟩, fun i j hi => absurd hi (Nat.not_lt_zero i), fun j hj => absurd hj (Nat.not_lt_zero j), fun j b hb => by simp at hb, fun _ _ j b hb => by simp at hb⟩
theorem xop_n0 {Γ : Ctx} {op : Op} {E : Operand → TV} {H : Heap} {K : KT} (h : xop Γ op E H K) : xop { Γ with n0 := 0 } op E H K := by
  cases op <;> exact h
def xcallM (Γ : Ctx) (H : Heap) (M : List Nat) (f : FuncId) (args : List TV) (K : TV → Prop) : Prop :=
  (callable Γ.P f = true ∧ ∃ r, (∀ H', famL M 0 H H' → CalP Γ H' f args r) ∧ K r) ∨ ∃ r, ExtC Γ.P f args r ∧ r.ok 0 ∧ K r
theorem xcallM_pure {Γ : Ctx} {H : Heap} {M : List Nat} {f : FuncId} {args : List TV} {K : TV → Prop} {r : TV} (hc : callable Γ.P f = true) (h : PureC Γ.P f args r) (hK : K r) : xcallM Γ H M f args K := .inl ⟨hc, r, fun _ _ => PureC.cal h, hK⟩
def xcalledM (Γ : Ctx) (H : Heap) (M : List Nat) (g : Option (FuncId × List TV × List TV)) (args : List TV) (K : TV → Prop) : Prop :=
  match g with
  | some (f, a, c) => xcallM Γ H M f (a ++ args ++ c) K
  | none => False
def xcallHM (Γ : Ctx) (c : Call) (E : Operand → TV) (H : Heap) (M : List Nat) (K : TV → Prop) : Prop :=
  match c.callee with
  | .value g => xcalledM Γ H M (xfun (E g)) (c.args.toList.map E) K
  | .builtin .len => match c.args.toList, c.argTypes.toList with
    | [x], [t] => xlen (isSlc Γ.P t) (E x) K
    | _, _ => False
  | _ => False
def maskOK (M : List Nat) (x : TV) : Prop := match x with | .s (.p j _) => M.contains j = false | _ => True
def xquietM (Γ : Ctx) (op : Op) (E : Operand → TV) (H : Heap) (M : List Nat) (K : TV → Prop) : Prop :=
  match op with
  | .call c => xcallHM Γ c E H M K
  | .load t a => maskOK M (E a) ∧ xload Γ t (E a) H (quietK K)
  | op => xop Γ op E [] (quietK K)
theorem xload_fam {Γ : Ctx} {t : TypeId} {x : TV} {H : Heap} {M : List Nat} {K : TV → Prop} (hm : maskOK M x) (h : xload Γ t x H (quietK K)) :
    ∃ v, K v ∧ ∀ H', famL M 0 H H' → xload Γ t x H' (fun v' e => v' = v ∧ e = .none) := by
  unfold xload at h
  split at h
  · rename_i j off
    have hM : M.contains j = false := hm
    unfold xpart at h
    split at h
    · rename_i cs hrow hcs
      simp only [Option.map_eq_some_iff] at hcs
      obtain ⟨b, hb, rfl⟩ := hcs
      refine ⟨_, h.2, fun H' hf => ?_⟩
      have hb' := (famL_spec hf).2 j b hb (by rw [Nat.zero_add]; exact hM)
      show xpart (rowOf Γ.P t) (sz Γ.P t) off (H'[j]?.map AB.cs) _
      rw [hrow, hb']
      exact ⟨h.1, rfl, rfl⟩
    · rename_i cs hrow hcs
      simp only [Option.map_eq_some_iff] at hcs
      obtain ⟨b, hb, rfl⟩ := hcs
      unfold xcell at h
      split at h
      · rename_i y hy
        refine ⟨_, h, fun H' hf => ?_⟩
        have hb' := (famL_spec hf).2 j b hb (by rw [Nat.zero_add]; exact hM)
        show xpart (rowOf Γ.P t) (sz Γ.P t) off (H'[j]?.map AB.cs) _
        rw [hrow, hb']
        show xcell b.cs[off]? (fun v' e => v' = TV.s y ∧ e = HE.none)
        rw [hy]
        exact ⟨rfl, rfl⟩
      · exact h.elim
    · exact h.elim
  · rename_i ad
    unfold xext at h
    split at h
    · rename_i hrow
      obtain ⟨l, h1, h2, h3, h4⟩ := h
      exact ⟨_, h4, fun H' _ => by show xext Γ (rowOf Γ.P t) (sz Γ.P t) ad (fun v' e => v' = TV.agg (List.map SV.v l) ∧ e = HE.none); rw [hrow]; exact ⟨l, h1, h2, h3, rfl, rfl⟩⟩
    · rename_i hrow
      obtain ⟨y, h1, h2⟩ := h
      exact ⟨_, h2, fun H' _ => by show xext Γ (rowOf Γ.P t) (sz Γ.P t) ad (fun v' e => v' = TV.s (SV.v y) ∧ e = HE.none); rw [hrow]; exact ⟨y, h1, rfl, rfl⟩⟩
    · exact h.elim
  · exact h.elim
theorem xquietM_at {Γ : Ctx} {o : Oper} {T : List TV} {H : Heap} {M : List Nat} {β : Nat → Nat} {K : TV → Prop} {a : Act} {w0 : World} (h : xquietM Γ o.op (ev T) H M K) (hT : Holds H.length β T a.tmps) (hR0 : Rep Γ H β w0) :
    ∃ v, K v ∧ (∀ β', Agrees H.length β β' → v.conc β' = v.conc β) ∧ ∀ s w, famD Γ H β M s w → o.quietAt Γ.P a (famD Γ H β M s) w (v.conc β) := by
  have hev : ∀ β', Agrees H.length β β' → ∀ x, a.eval x = (ev T x).conc β' := fun β' h' => eval_ev (a := a) (hT β' h')
  unfold xquietM at h
  split at h
  · rename_i c ho
    unfold xcallHM at h
    split at h
    · rename_i g hc
      unfold xcalledM at h
      split at h
      · rename_i f fa fc hg
        unfold xfun at hg
        split at hg
        · rename_i f' av cv hgv
          simp only [Option.some.injEq, Prod.mk.injEq] at hg
          obtain ⟨rfl, rfl, rfl⟩ := hg
          have hgc : a.eval g = .func (.func f') av cv := by rw [hev β (.refl _ _), hgv]; rfl
          have hargs : ∀ β', Agrees H.length β β' → (((av.toList.map (fun v => TV.s (.v v))) ++ c.args.toList.map (ev T) ++ (cv.toList.map (fun v => TV.s (.v v)))).map (TV.conc β')).toArray = av ++ c.args.map a.eval ++ cv := fun β' h' => by
            apply Array.ext'
            simp [conc_v, Function.comp_def, hev β' h']
          rcases h with ⟨hcall, r, hP, hK⟩ | ⟨r, hX, hok, hK⟩
          case inr =>
            have hst : ∀ β', r.conc β' = r.conc β := fun β' => TV.conc_ok hok (fun j hj => absurd hj (Nat.not_lt_zero j))
            refine ⟨r, hK, fun β' _ => hst β', fun s w hs => ?_⟩
            have hX' := hX β w
            rw [hargs β (.refl _ _)] at hX'
            unfold Oper.quietAt
            rw [run_callV (P := Γ.P) ho hc hgc w, hX']
            exact ⟨rfl, rfl⟩
          have hst : ∀ β', Agrees H.length β β' → r.conc β' = r.conc β := fun β' h' => by
            obtain ⟨e, w', fr, ⟨he, _⟩, _⟩ := hP H famL_refl β w0 hR0 []
            have h1 := he β (.refl _ _)
            rw [he β' h'] at h1
            injection h1
          refine ⟨r, hK, hst, fun s w hs => ?_⟩
          obtain ⟨hf, hag, hR⟩ := hs
          have hrun := run_callF (P := Γ.P) ho hc hgc hcall w
          have hP' := hP s.1 hf s.2 w hR
          rw [hargs s.2 hag] at hP'
          unfold Oper.quietAt
          rw [hrun]
          exact ⟨rfl, hP'.mono fun e w' ⟨he, hx⟩ => ⟨by rw [he s.2 (.refl _ _), hst s.2 hag], hf, hag, hR.ext hx⟩⟩
        · cases hg
      · exact h.elim
    · rename_i hc
      split at h
      · rename_i x t hx ht
        have hargs : c.args = #[x] := Array.ext' (by simpa using hx)
        have hts : c.argTypes = #[t] := Array.ext' (by simpa using ht)
        have fin : ∀ (n : Nat) (y : TV), ev T x = y → isSlc Γ.P t = true → (∃ ad cap, y.conc β = .slice ad n cap) → K (.s (.v (.int .i64 (n : Int)))) →
            ∃ v, K v ∧ (∀ β', Agrees H.length β β' → v.conc β' = v.conc β) ∧ ∀ s w, famD Γ H β M s w → o.quietAt Γ.P a (famD Γ H β M s) w (v.conc β) := by
          intro n y hy hsl ⟨ad, cap, hconc⟩ hK
          unfold isSlc at hsl
          split at hsl
          · rename_i e hu
            refine ⟨_, hK, fun _ _ => rfl, fun s w hs => ?_⟩
            have hrun : (execOp a.eval o).run Γ.P w = .ok (.value (.int .i64 (n : Int))) w := by
              simp [execOp, ho, resolve, hc, hargs, hts, invoke, builtin, Builtin.len_, run_underlying hu, hev β (.refl _ _), hy, hconc, goInt]
            unfold Oper.quietAt
            rw [hrun]
            exact ⟨rfl, rfl⟩
          · cases hsl
        unfold xlen at h
        split at h
        · rename_i ad n cap hy
          exact fin n _ hy h.1 ⟨ad, cap, rfl⟩ h.2
        · rename_i j off n cap hy
          exact fin n _ hy h.1 ⟨_, cap, rfl⟩ h.2
        · exact h.elim
      · exact h.elim
    · exact h.elim
  · rename_i t x ho
    obtain ⟨v, hK, hv⟩ := xload_fam h.1 h.2
    have run : ∀ H', famL M 0 H H' → ∀ β', Agrees H.length β β' → ∀ w, Rep Γ H' β' w → (execOp a.eval o).run Γ.P w = .ok (.value (v.conc β')) w := fun H' hf β' h' w hR => by
      obtain ⟨v', e, ⟨rfl, rfl⟩, hsd⟩ := sound_load (t := t) (x := x) (hv H' hf)
      exact hsd o β' a.eval w ho (hev β' h') hR
    have hst : ∀ β', Agrees H.length β β' → v.conc β' = v.conc β := fun β' h' => by
      have h1 := run H famL_refl β (.refl _ _) w0 hR0
      rw [run H famL_refl β' h' w0 (hR0.agree h')] at h1
      injection h1 with h1
      injection h1 with h1
    refine ⟨v, hK, hst, fun s w hs => ?_⟩
    obtain ⟨hf, hag, hR⟩ := hs
    unfold Oper.quietAt
    rw [run s.1 hf s.2 hag w hR]
    exact ⟨rfl, hst s.2 hag⟩
  · obtain ⟨v, e, hK, hsd⟩ := xop_sound (xop_n0 h)
    cases e with
    | none =>
      have run : ∀ H' β', Agrees H.length β β' → ∀ w, Rep Γ H' β' w → (execOp a.eval o).run Γ.P w = .ok (.value (v.conc β')) w := fun H' β' h' w hR =>
        hsd o β' a.eval w rfl (hev β' h') hR.nil
      have hst : ∀ β', Agrees H.length β β' → v.conc β' = v.conc β := fun β' h' => by
        have h1 := run H β (.refl _ _) w0 hR0
        rw [run H β' h' w0 (hR0.agree h')] at h1
        injection h1 with h1
        injection h1 with h1
      refine ⟨v, hK, hst, fun s w hs => ?_⟩
      obtain ⟨hf, hag, hR⟩ := hs
      unfold Oper.quietAt
      rw [run s.1 s.2 hag w hR]
      exact ⟨rfl, hst s.2 hag⟩
    | new b => exact hK.elim
    | put j cs => exact hK.elim
def xHeadM (Γ : Ctx) (ops : Array Oper) (H : Heap) (M : List Nat) : List Oper → List TV → (List TV → Prop) → Prop
  | [], T, K => K T
  | o :: r, T, K => xguard T (o.guard.map fun g => ((ops[g.1]?).bind (·.dst), g.2))
      (fun T => xquietM Γ o.op (ev T) H M fun v => xHeadM Γ ops H M r (putT T o.dst v) K)
      (fun T => xHeadM Γ ops H M r (putT T o.dst undefT) K)
theorem xHeadM_wp {Γ : Ctx} {ops : Array Oper} {H : Heap} {M : List Nat} {β : Nat → Nat} {w0 : World} {Q : Act → Prop} (hR0 : Rep Γ H β w0) : ∀ (l : List Oper) {T : List TV} {K : List TV → Prop} {a : Act},
    xHeadM Γ ops H M l T K → Holds H.length β T a.tmps → a.defers = [] → (∀ T' a', K T' → Holds H.length β T' a'.tmps → a'.defers = [] → Q a') → wpQuietG Γ.P ops (famD Γ H β M) Q l a
  | [], _, _, _, h, hT, hd, hQ => hQ _ _ h hT hd
  | o :: l, T, K, a, h, hT, hd, hQ => by
    simp only [xHeadM] at h
    have hput : ∀ u, (a.put o.dst u).defers = [] := fun u => by cases o.dst <;> exact hd
    refine xguard_holds (ops := ops) (o := o) h hT (fun T' hw hr hT' => ?_) (fun T' hw hr hT' => ?_)
    · obtain ⟨v, hK, hv, hq⟩ := xquietM_at hr hT' hR0
      simp only [wpQuietG, hw, if_true]
      exact ⟨v.conc β, hq, xHeadM_wp hR0 l hK (hT'.put (Nat.le_refl _) (.refl _ _) hv) (hput _) hQ⟩
    · simp only [wpQuietG, hw, Bool.false_eq_true, if_false]
      exact xHeadM_wp hR0 l hr (hT'.put (Nat.le_refl _) (.refl _ _) (fun _ _ => rfl)) (hput _) hQ
def xTrM (Γ : Ctx) (ops : Array Oper) (H0 : Heap) (M : List Nat) (K : List TV → Heap → Prop) : Tr → Bool → List TV → Heap → Prop
  | .nil, true, T, H => K T H
  | .nil, false, _, _ => True
  | .cons i sub rest, _, T, H => (match ops[i]? with | some o => o.guard = none ∧ xop Γ o.op (ev T) H fun v e => famL M 0 H0 (e.app H) ∧ xTrM Γ ops H0 M K sub true (putT T o.dst v) (e.app H) | none => False) ∧ xTrM Γ ops H0 M K rest false T H
theorem xTrM_wp {Γ : Ctx} {ops : Array Oper} {H0 : Heap} {β0 : Nat → Nat} {M : List Nat} {Q : Exit → Act → World → Prop} {K : List TV → Heap → Prop} (hK : ∀ T' H' a' w', K T' H' → St Γ T' H' a' w' → Q .normal a' w') :
    ∀ (t : Tr) (first : Bool) {T : List TV} {H : Heap} {β : Nat → Nat} {a : Act}, xTrM Γ ops H0 M K t first T H → Agrees H0.length β0 β → H0.length ≤ H.length → Holds H.length β T a.tmps → a.defers = [] → wpTrG Γ.P ops (famD Γ H0 β0 M) Q t first (H, β) a
  | .nil, true, _, _, β, _, h, _, _, hT, hd => fun w hw => hK _ _ _ _ h ⟨β, hT, hw.2.2, hd⟩
  | .nil, false, _, _, _, _, _, _, _, _, _ => trivial
  | .cons i sub rest, first, T, H, β, a, h, hag, hle, hT, hd => by
    simp only [xTrM] at h
    refine ⟨fun w hw => ?_, xTrM_wp hK rest false h.2 hag hle hT hd⟩
    have h1 := h.1
    unfold wpOp
    split at h1
    · rename_i o ho
      obtain ⟨hg, hx⟩ := h1
      have hwant : Region.wanted o (yielded ops a.tmps) = true := by simp [Region.wanted, hg]
      simp only [ho, hwant, if_true]
      refine .inl ?_
      obtain ⟨v, e, ⟨hfam, hKv⟩, hsd⟩ := xop_sound hx
      have hput : ∀ u, (a.put o.dst u).defers = [] := fun u => by cases o.dst <;> exact hd
      have hR := hw.2.2
      obtain ⟨u, w', β', hr, hag', hlen, hR', hv⟩ := Does.leaves (fun β' h' => hsd o β' a.eval w rfl (eval_ev (hT β' h')) (hR.agree h')) hR
      have hfin : ∃ s', famD Γ H0 β0 M s' w' ∧ wpTrG Γ.P ops (famD Γ H0 β0 M) Q sub true s' (a.put o.dst u) :=
        ⟨(e.app H, β'), ⟨hfam, hag.trans (hag'.mono hle), hR'⟩, xTrM_wp hK sub true hKv (hag.trans (hag'.mono hle)) (Nat.le_trans hle hlen) (hT.put hlen hag' hv) (hput _)⟩
      unfold Oper.wp
      rcases hr with hr | ⟨hr, rfl⟩
      · rw [hr]; exact hfin
      · rw [hr]; exact hfin
    · exact h1.elim
@[irreducible] def XM (Γ : Ctx) (ops : Array Oper) (H : Heap) (M : List Nat) (l : List Oper) (T : List TV) (K : List TV → Prop) : Prop := xHeadM Γ ops H M l T K
theorem XM_eq {Γ : Ctx} {ops : Array Oper} {H : Heap} {M : List Nat} {l : List Oper} {T : List TV} {K : List TV → Prop} : XM Γ ops H M l T K = xHeadM Γ ops H M l T K := by unfold XM; rfl
theorem X_drawM {Γ : Ctx} {id : Nat} {l : List Oper} {T : List TV} {H : Heap} {Q : QX} (n : Nat) (M : List Nat) (t : Tr) (hm : Γ.P.follows .mixedOrders = true) (hB : mixG .any l.toArray n t = true)
    (h : XM Γ l.toArray H M (l.take n) T fun T => xTrM Γ l.toArray H M (fun T H => Q .normal T H) t true T H) : XL Γ (.region id l.toArray true) T H Q := by
  rw [XM_eq] at h
  rw [XL_eq]
  intro a w ⟨β, hT, hR, hd⟩
  refine wp_mono (wp_region_G (D := famD Γ H β M) (Q := fun e a w => match e with | .normal => lift Γ Q .normal a w | _ => False) n t (H, β) hm hB (fun _ _ _ h => h) ⟨famL_refl, .refl _ _, hR.drewQ⟩ ?_) fun e a w h => ?_
  · refine xHeadM_wp hR _ h hT hd fun T' a' hK hT' hd' => ?_
    exact xTrM_wp (fun T'' H'' a'' w'' hq hs => ⟨T'', H'', hq, hs⟩) t true hK (.refl _ _) (Nat.le_refl _) hT' hd'
  · cases e with
    | normal => exact h
    | _ => exact h.elim
section
variable {Γ : Ctx} {ops : Array Oper} {H H' H0 : Heap} {M : List Nat} {T T' : List TV} {K : List TV → Prop} {KL : List TV → Heap → Prop} {KV : TV → Prop} {E : Operand → TV} {dst : Option Tmp} {op : Op} {ty : TypeId} {pos : String} {af : Array Edge} {j i : Nat} {w b : Bool} {r : List Oper}
@[congr] theorem XM_congr {l : List Oper} (h1 : T = T') : XM Γ ops H M l T K = XM Γ ops H M l T' K := by rw [h1]
theorem XM_nil (h : K T) : XM Γ ops H M [] T K := by rw [XM_eq]; exact h
theorem XM_cons (h : xquietM Γ op (ev T) H M fun v => XM Γ ops H M r (putT T dst v) K) : XM Γ ops H M (⟨dst, op, ty, pos, af, none⟩ :: r) T K := by
  simp only [XM_eq] at h ⊢
  exact h
theorem XM_consG (h : xguard T (some ((ops[j]?).bind (·.dst), w)) (fun T => xquietM Γ op (ev T) H M fun v => XM Γ ops H M r (putT T dst v) K) (fun T => XM Γ ops H M r (putT T dst undefT) K)) :
    XM Γ ops H M (⟨dst, op, ty, pos, af, some (j, w)⟩ :: r) T K := by
  simp only [XM_eq] at h ⊢
  exact h
theorem qm_call {c : Call} : xquietM Γ (.call c) E H M KV = xcallHM Γ c E H M KV := rfl
theorem qm_move {x : Operand} : xquietM Γ (.move x) E H M KV = KV (E x) := rfl
theorem qm_assign {x : Operand} : xquietM Γ (.assign x) E H M KV = KV (E x) := rfl
theorem qm_pick {c a b : Operand} : xquietM Γ (.pick c a b) E H M KV = xpick (E c) (E a) (E b) (quietK KV) := rfl
theorem qm_build {t : TypeId} {ps : List (Nat × Operand)} : xquietM Γ (.build t ps.toArray) E H M KV = (known Γ.P t = true ∧ xbuild ((zeroA Γ.P t).bind fun z => fillA (placeOf Γ.P t) z (ps.map fun p => (p.1, cellsOf (E p.2)))) (quietK KV)) := rfl
theorem qm_load {t : TypeId} {a : Operand} : xquietM Γ (.load t a) E H M KV = (maskOK M (E a) ∧ xload Γ t (E a) H (quietK KV)) := rfl
theorem qm_nilCheck {x : Operand} : xquietM Γ (.nilCheck x) E H M KV = xnil (E x) (quietK KV) := rfl
theorem qm_binOp {op : BinOp} {t ty : TypeId} {x y : Operand} : xquietM Γ (.binOp op t x y ty) E H M KV = xbin Γ.P op t (E x) (E y) (quietK KV) := rfl
theorem qm_unOp {op : UnOp} {t : TypeId} {x : Operand} : xquietM Γ (.unOp op t x) E H M KV = xun op (E x) (quietK KV) := rfl
theorem qm_convert {s d : TypeId} {x : Operand} : xquietM Γ (.convert s d x) E H M KV = xconv (intKindOf Γ.P s) (intKindOf Γ.P d) (E x) (quietK KV) := rfl
theorem qm_fieldAddr {s : TypeId} {x : Operand} {f : Nat} : xquietM Γ (.fieldAddr s x f) E H M KV = xfieldAddr (fieldOff Γ.P s f) (E x) (quietK KV) := rfl
theorem qm_field {s : TypeId} {x : Operand} {f : Nat} : xquietM Γ (.field s x f) E H M KV = xfield Γ.P (fieldOff Γ.P s f) (E x) (quietK KV) := rfl
theorem qm_indexAddr {t : TypeId} {x i : Operand} : xquietM Γ (.indexAddr t x i) E H M KV = xindexAddr Γ.P (arrOf Γ.P t) (slcOf Γ.P t) (E x) (E i) (quietK KV) := rfl
theorem qm_index {t : TypeId} {x i : Operand} : xquietM Γ (.index t x i) E H M KV = xindex Γ.P (arrOf Γ.P t) (E x) (E i) (quietK KV) := rfl
theorem qm_extract {x : Operand} {i : Nat} : xquietM Γ (.extract x i) E H M KV = xextract (E x) i (quietK KV) := rfl
theorem qm_makeFunc {g : FuncId} {a c : List Operand} : xquietM Γ (.makeFunc (.func g) a.toArray c.toArray) E H M KV = xmakeFunc g (plainsOf (a.map E)) (plainsOf (c.map E)) (quietK KV) := rfl
theorem maskOK_p {o : Nat} : maskOK M (.s (.p j o)) = (M.contains j = false) := rfl
theorem maskOK_v {x : Value} : maskOK M (.s (.v x)) = True := rfl
theorem xcallHM_value {g : Operand} {as : List Operand} {ts : Array TypeId} : xcallHM Γ ⟨.value g, as.toArray, ts⟩ E H M KV = xcalledM Γ H M (xfun (E g)) (as.map E) KV := rfl
theorem xcallHM_len {x : Operand} {t : TypeId} : xcallHM Γ ⟨.builtin .len, #[x], #[t]⟩ E H M KV = xlen (isSlc Γ.P t) (E x) KV := rfl
theorem xcalledM_first {f : FuncId} {x : TV} {a as : List TV} : xcalledM Γ H M (some (f, x :: a, [])) as KV = xcallM Γ H M f (x :: (a ++ as)) KV := by simp [xcalledM]
theorem xcalledM_cap {f : FuncId} {x : TV} {c as : List TV} : xcalledM Γ H M (some (f, [], x :: c)) as KV = xcallM Γ H M f (as ++ x :: c) KV := by simp [xcalledM]
theorem xcalledM_some {f : FuncId} {as : List TV} : xcalledM Γ H M (some (f, [], [])) as KV = xcallM Γ H M f as KV := by simp [xcalledM]
@[congr] theorem xcallHM_congr {c : Call} {E' : Operand → TV} (h : E = E') : xcallHM Γ c E H M KV = xcallHM Γ c E' H M KV := by rw [h]
@[congr] theorem xcalledM_congr {g g' : Option (FuncId × List TV × List TV)} {as as' : List TV} (h : g = g') (h2 : as = as') : xcalledM Γ H M g as KV = xcalledM Γ H M g' as' KV := by rw [h, h2]
@[congr] theorem xcallM_congr {f : FuncId} {as as' : List TV} (h2 : as = as') : xcallM Γ H M f as KV = xcallM Γ H M f as' KV := by rw [h2]
@[congr] theorem xTrM_congr {t : Tr} {H1 : Heap} (h1 : T = T') (h2 : H = H') : xTrM Γ ops H1 M KL t b T H = xTrM Γ ops H1 M KL t b T' H' := by rw [h1, h2]
@[congr] theorem xquietM_congr {op : Op} {E' : Operand → TV} (h : E = E') : xquietM Γ op E H M KV = xquietM Γ op E' H M KV := by rw [h]
def xAtM (Γ : Ctx) (ops : Array Oper) (H0 : Heap) (M : List Nat) (o : Option Oper) (T : List TV) (H : Heap) (KL : List TV → Heap → Prop) : Prop :=
  match o with | some o => o.guard = none ∧ xop Γ o.op (ev T) H fun v e => famL M 0 H0 (e.app H) ∧ KL (putT T o.dst v) (e.app H) | none => False
@[congr] theorem xAtM_congr {o o' : Option Oper} (h : o = o') (h1 : T = T') (h2 : H = H') : xAtM Γ ops H0 M o T H KL = xAtM Γ ops H0 M o' T' H' KL := by rw [h, h1, h2]
theorem xTrM_nil : xTrM Γ ops H0 M KL .nil true T H = KL T H := rfl
theorem xTrM_false : xTrM Γ ops H0 M KL .nil false T H = True := rfl
theorem xTrM_cons {sub rest : Tr} : xTrM Γ ops H0 M KL (.cons i sub rest) b T H = (xAtM Γ ops H0 M ops[i]? T H (fun T H => xTrM Γ ops H0 M KL sub true T H) ∧ xTrM Γ ops H0 M KL rest false T H) := by
  simp only [xTrM, xAtM]
theorem xAtM_assign {x : Operand} : xAtM Γ ops H0 M (some ⟨dst, .assign x, ty, pos, af, none⟩) T H KL = (famL M 0 H0 H ∧ KL (putT T dst (ev T x)) H) := by simp [xAtM, xop, HE.app]
theorem xAtM_move {x : Operand} : xAtM Γ ops H0 M (some ⟨dst, .move x, ty, pos, af, none⟩) T H KL = (famL M 0 H0 H ∧ KL (putT T dst (ev T x)) H) := by simp [xAtM, xop, HE.app]
theorem xAtM_extract {x : Operand} {n : Nat} : xAtM Γ ops H0 M (some ⟨dst, .extract x n, ty, pos, af, none⟩) T H KL = xextract (ev T x) n (fun v e => famL M 0 H0 (e.app H) ∧ KL (putT T dst v) (e.app H)) := by simp [xAtM, xop]
theorem xAtM_alloc {e : TypeId} : xAtM Γ ops H0 M (some ⟨dst, .alloc e, ty, pos, af, none⟩) T H KL = xnew Γ e (zeroA Γ.P e) H.length (fun v e => famL M 0 H0 (e.app H) ∧ KL (putT T dst v) (e.app H)) := by simp [xAtM, xop]
theorem xAtM_store {t : TypeId} {a x : Operand} : xAtM Γ ops H0 M (some ⟨dst, .store t a x, ty, pos, af, none⟩) T H KL = xstore Γ t (ev T a) (ev T x) H (fun v e => famL M 0 H0 (e.app H) ∧ KL (putT T dst v) (e.app H)) := by simp [xAtM, xop]
theorem famL_nil : famL M i [] H = True := by cases H <;> rfl
theorem famL_cons {x y : AB} : famL M i (x :: H) (y :: H') = ((M.contains i = true ∨ y = x) ∧ famL M (i + 1) H H') := rfl
end
end Go.Ab
/-
  Loops whose states hold new blocks: at each round's end our blocks are chosen anew, by their places.
-/
namespace Go.Ab
open Go Go.RowKit
set_option linter.unusedSimpArgs false
set_option linter.unusedVariables false
def SV.ren (ρ : Nat → Nat) : SV → SV
  | .v x => .v x
  | .p j o => .p (ρ j) o
  | .sl j o n c => .sl (ρ j) o n c
def AV.ren (ρ : Nat → Nat) : AV → AV
  | .s x => .s (x.ren ρ)
  | .agg l => .agg (l.map (SV.ren ρ))
def TV.ren (ρ : Nat → Nat) : TV → TV
  | .s x => .s (x.ren ρ)
  | .agg l => .agg (l.map (SV.ren ρ))
  | .tup l => .tup (l.map (AV.ren ρ))
theorem SV.conc_ren (ρ β : Nat → Nat) (x : SV) : (x.ren ρ).conc β = x.conc (β ∘ ρ) := by cases x <;> rfl
theorem AV.conc_ren (ρ β : Nat → Nat) (x : AV) : (x.ren ρ).conc β = x.conc (β ∘ ρ) := by
  cases x with
  | s x => exact SV.conc_ren ρ β x
  | agg l => simp [AV.ren, AV.conc, Function.comp_def, SV.conc_ren]
theorem TV.conc_ren (ρ β : Nat → Nat) (x : TV) : (x.ren ρ).conc β = x.conc (β ∘ ρ) := by
  cases x with
  | s x => exact SV.conc_ren ρ β x
  | agg l => simp [TV.ren, TV.conc, Function.comp_def, SV.conc_ren]
  | tup l => simp [TV.ren, TV.conc, Function.comp_def, AV.conc_ren]
theorem SV.ok_mono {n m : Nat} {x : SV} (h : x.ok n) (hn : n ≤ m) : x.ok m := by
  cases x with
  | v x => trivial
  | p j o => exact Nat.lt_of_lt_of_le h hn
  | sl j o a b => exact Nat.lt_of_lt_of_le h hn
theorem AV.ok_mono {n m : Nat} {x : AV} (h : x.ok n) (hn : n ≤ m) : x.ok m := by
  cases x with
  | s x => exact SV.ok_mono h hn
  | agg l => exact fun y hy => SV.ok_mono (h y hy) hn
theorem TV.ok_mono {n m : Nat} {x : TV} (h : x.ok n) (hn : n ≤ m) : x.ok m := by
  cases x with
  | s x => exact SV.ok_mono h hn
  | agg l => exact fun y hy => SV.ok_mono (h y hy) hn
  | tup l => exact fun y hy => AV.ok_mono (h y hy) hn
theorem nodup_inj {L : List Nat} (h : L.Nodup) {p q : Nat} (hp : p < L.length) (hq : q < L.length) (he : L[p] = L[q]) : p = q := by
  have h1 := List.pairwise_iff_getElem.1 h
  rcases Nat.lt_trichotomy p q with h2 | h2 | h2
  · exact absurd he (h1 p q hp hq h2)
  · exact h2
  · exact absurd he.symm (h1 q p hq hp h2)
def lk (L : List Nat) (k : Nat) : Nat := L.getD k k
def selH : List Nat → Heap → Heap → Prop
  | [], _, [] => True
  | l :: L, H', b :: H => H'[l]? = some b ∧ selH L H' H
  | _, _, _ => False
theorem selH_spec : ∀ {L : List Nat} {H' H : Heap}, selH L H' H → H.length = L.length ∧ ∀ (k : Nat) (b : AB), H[k]? = some b → ∃ l, L[k]? = some l ∧ H'[l]? = some b
  | [], _, [], _ => ⟨rfl, fun k b h => by simp at h⟩
  | l :: L, H', b :: H, h => by
    obtain ⟨h1, h2⟩ := selH_spec h.2
    refine ⟨by simp [h1], fun k c hc => ?_⟩
    cases k with
    | zero =>
      simp only [List.getElem?_cons_zero, Option.some.injEq] at hc ⊢
      subst hc
      exact ⟨l, rfl, h.1⟩
    | succ k =>
      simp only [List.getElem?_cons_succ] at hc ⊢
      exact h2 k c hc
def renS (L : List Nat) (sv : List (Nat × TV)) : List (Nat × TV) := sv.map fun p => (p.1, p.2.ren (lk L))
theorem renS_lookup (L : List Nat) (k : Nat) : ∀ l : List (Nat × TV), (renS L l).lookup k = (l.lookup k).map (TV.ren (lk L))
  | [] => rfl
  | (d, v) :: r => by
    have ih := renS_lookup L k r
    simp only [renS, List.map_cons, List.lookup_cons] at ih ⊢
    cases hkp : (k == d) with
    | true => rfl
    | false => exact ih
def AgainT {ι : Type} (T : List TV) (n : Nat) (V : ι → Prop) (js : List Nat) (sv : ι → List (Nat × TV)) (Hs : ι → Heap) (T' : List TV) (H' : Heap) (i : ι) : Prop :=
  V i ∧ ∃ L : List Nat, (L.Nodup ∧ L.take n = List.range n) ∧ agreeT js (renS L (sv i)) 0 T T' ∧ selH L H' (Hs i)
def ShapeT {ι : Type} (V : ι → Prop) (n : Nat) (sv : ι → List (Nat × TV)) (Hs : ι → Heap) : Prop :=
  ∀ i, V i → ((sv i).map (·.1)).Nodup ∧ (∀ p ∈ sv i, p.2.ok (Hs i).length) ∧ n ≤ (Hs i).length ∧ ∀ b ∈ Hs i, ∀ x ∈ b.cs, x.ok n
theorem St.againT {Γ : Ctx} {ι : Type} {T : List TV} {n : Nat} {V : ι → Prop} {js : List Nat} {sv : ι → List (Nat × TV)} {Hs : ι → Heap}
    (hsh : ShapeT V n sv Hs) (hnj : js.Nodup) (hT : ∀ x ∈ T, x.ok n) (hn : Γ.n0 ≤ n)
    {T' : List TV} {H' : Heap} {a : Act} {w : World} {i : ι} (h : AgainT T n V js sv Hs T' H' i) (hs : St Γ T' H' a w) :
    ∃ us, St Γ (setMany (setMany T (junk us js)) (sv i)) (Hs i) a w := by
  obtain ⟨hV, L, ⟨hLn, hLt⟩, hag, hsel⟩ := h
  obtain ⟨hnd, hoks, hle, hcs⟩ := hsh i hV
  obtain ⟨β, hT', hR, hd⟩ := hs
  obtain ⟨hl, hk⟩ := agreeT_spec js (renS L (sv i)) 0 T T' hag
  obtain ⟨hlen, hblk⟩ := selH_spec hsel
  have hfix : ∀ k, k < n → lk L k = k := fun k hk => by
    have h1 : (L.take n)[k]? = (List.range n)[k]? := by rw [hLt]
    rw [List.getElem?_take, if_pos hk, List.getElem?_range hk] at h1
    simp [lk, h1]
  have hlt : ∀ k, k < (Hs i).length → ∃ b, (Hs i)[k]? = some b ∧ H'[lk L k]? = some b := fun k hk => by
    obtain ⟨l, h1, h2⟩ := hblk k _ (List.getElem?_eq_getElem hk)
    exact ⟨_, List.getElem?_eq_getElem hk, by simp only [lk, List.getD_eq_getElem?_getD, h1, Option.getD_some]; exact h2⟩
  have hagβ : Agrees n β (β ∘ lk L) := fun k hk => by simp [Function.comp, hfix k hk]
  let us : Nat → Value := fun d => (T'.getD d undefT).conc β
  have hjn : ((junk us js).map (·.1)).Nodup := by simpa [junk, Function.comp_def] using hnj
  have hslot : ∀ (k : Nat) (y : TV), T'[k]? = some y → ∃ z : TV, (setMany (setMany T (junk us js)) (sv i))[k]? = some z ∧ z.conc (β ∘ lk L) = y.conc β ∧ z.ok (Hs i).length := by
    intro k y hy
    have hkl : k < T.length := by rw [hl]; exact (List.getElem?_eq_some_iff.1 hy).1
    have hx : T[k]? = some T[k] := List.getElem?_eq_getElem hkl
    have h1 := hk k T[k] y hx hy
    rw [Nat.zero_add] at h1
    rw [setMany_get _ hnd _ k (by rw [setMany_length]; exact hkl)]
    have hlkr := renS_lookup L k (sv i)
    rw [hlkr] at h1
    cases hlk : (sv i).lookup k with
    | some v =>
      simp only [hlk, Option.map_some] at h1
      subst h1
      refine ⟨v, rfl, (TV.conc_ren _ _ _).symm, ?_⟩
      obtain ⟨l1, l2, he, _⟩ := List.lookup_eq_some_iff.1 hlk
      exact hoks (k, v) (by rw [he]; simp)
    | none =>
      simp only [hlk, Option.map_none] at h1
      simp only
      rw [setMany_get _ hjn _ k hkl, junk_lookup]
      by_cases hc : js.contains k = true
      · simp only [hc, if_true]
        refine ⟨_, rfl, ?_, trivial⟩
        simp only [TV.conc, SV.conc, us, List.getD_eq_getElem?_getD, hy, Option.getD_some]
      · rcases h1 with h1 | h1
        · exact absurd h1 hc
        · simp only [hc, hx]
          subst h1
          have ho := hT _ (List.getElem_mem hkl)
          refine ⟨_, rfl, TV.conc_ok ho hagβ, ?_⟩
          exact TV.ok_mono ho hle
  refine ⟨us, β ∘ lk L, Holds.of_ok ?_ ?_, ?_, hd⟩
  · rw [hT' β (.refl _ _)]
    congr 1
    apply List.ext_getElem?
    intro k
    simp only [List.getElem?_map]
    cases hy : T'[k]? with
    | none =>
      have : T'.length ≤ k := List.getElem?_eq_none_iff.1 hy
      rw [List.getElem?_eq_none (by rw [setMany_length, setMany_length, hl]; exact this)]
      rfl
    | some y =>
      obtain ⟨z, hz, hc, _⟩ := hslot k y hy
      rw [hz]
      simp [hc]
  · intro z hz
    obtain ⟨k, hk'⟩ := List.mem_iff_getElem?.1 hz
    have hkl : k < T'.length := by
      have := (List.getElem?_eq_some_iff.1 hk').1
      rw [setMany_length, setMany_length, hl] at this
      exact this
    obtain ⟨z', hz', _, ho⟩ := hslot k T'[k] (List.getElem?_eq_getElem hkl)
    rw [hk'] at hz'
    injection hz' with hz'
    subst hz'
    exact ho
  · have hlt' : ∀ k, k < (Hs i).length → lk L k < H'.length := fun k hk => by
      obtain ⟨b, _, h2⟩ := hlt k hk
      exact (List.getElem?_eq_some_iff.1 h2).1
    refine ⟨⟨Nat.le_trans hn hle, hR.anc.2.trans (hagβ.mono hn)⟩, hR.fr, fun p q hp hq he => ?_, fun k hk => hR.lie _ (hlt' k hk), fun k b hb => ?_, fun β' h' k b hb => ?_⟩
    · have h1 := hR.inj _ _ (hlt' p hp) (hlt' q hq) he
      have hpL : p < L.length := by rw [← hlen]; exact hp
      have hqL : q < L.length := by rw [← hlen]; exact hq
      simp only [lk, List.getD_eq_getElem?_getD, List.getElem?_eq_getElem hpL, List.getElem?_eq_getElem hqL, Option.getD_some] at h1
      exact nodup_inj hLn hpL hqL h1
    · obtain ⟨b', h1, h2⟩ := hlt k (List.getElem?_eq_some_iff.1 hb).1
      rw [hb] at h1
      injection h1 with h1
      subst h1
      exact hR.typ _ b h2
    · obtain ⟨b', h1, h2⟩ := hlt k (List.getElem?_eq_some_iff.1 hb).1
      rw [hb] at h1
      injection h1 with h1
      subst h1
      have h3 := hR.blk β (.refl _ _) _ b h2
      rw [Function.comp_apply, h3]
      have hc := hcs b (List.mem_of_getElem? hb)
      simp only [AB.conc]
      rw [SV.concs_ok hc (hagβ.trans (h'.mono hle))]
def loopT {ι : Type} (T : List TV) (n : Nat) (V : ι → Prop) (μ : ι → Nat) (js : List Nat) (sv : ι → List (Nat × TV)) (Hs : ι → Heap) (i : ι) (Q : QX) : QX :=
  seqQ (fun T' H' => ∃ i', μ i' < μ i ∧ AgainT T n V js sv Hs T' H' i') Q
theorem X_loopT {Γ : Ctx} {c : Code} {T : List TV} {H : Heap} {Q : QX} {ι : Type} (V : ι → Prop) (μ : ι → Nat) (js : List Nat) (sv : ι → List (Nat × TV)) (Hs : ι → Heap) (i0 : ι)
    (hsh : ShapeT V H.length sv Hs) (hnj : js.Nodup) (h0 : AgainT T H.length V js sv Hs T H i0)
    (hr : ∀ i us, V i → X Γ c (setMany (setMany T (junk us js)) (sv i)) (Hs i) (loopT T H.length V μ js sv Hs i Q)) : XL Γ (.loop c) T H Q := by
  rw [XL_eq]
  intro a w hs
  obtain ⟨oT, oH, on⟩ := hs.oks
  refine wp_loop_ghost (fun n a w => ∃ i us, V i ∧ μ i = n ∧ St Γ (setMany (setMany T (junk us js)) (sv i)) (Hs i) a w) (μ i0) ?_ ?_
  · obtain ⟨us, h⟩ := hs.againT hsh hnj oT on h0
    exact ⟨i0, us, h0.1, rfl, h⟩
  · rintro n a w ⟨i, us, hV, rfl, hs'⟩
    refine wp_mono (hr i us hV a w hs') fun e a' w' ⟨T', H', hq, hs''⟩ => ?_
    cases e with
    | normal =>
      obtain ⟨i', hlt, hag⟩ := hq
      obtain ⟨us', h⟩ := hs''.againT hsh hnj oT on hag
      exact ⟨μ i', hlt, i', us', hag.1, rfl, h⟩
    | _ => exact ⟨T', H', hq, hs''⟩
end Go.Ab
/-
  A statement's operations, more of them: new slices, and what is added to one; each step by its own law.
-/
namespace Go.Ab
open Go Go.RowKit
set_option linter.unusedSimpArgs false
set_option linter.unusedVariables false
theorem Rep.new {Γ : Ctx} {H : Heap} {β : Nat → Nat} {w : World} {b : AB} (hR : Rep Γ H β w) (hTM : ¬ Γ.ev.TM b.t) (hok : ∀ x ∈ b.cs, x.ok H.length) :
    ∃ β', Agrees H.length β β' ∧ β' H.length = w.heap.size ∧ Rep Γ (H ++ [b]) β' (w.alloc (b.conc β)) := by
  have hd : ∀ β', Agrees H.length β β' → Does Γ H β' w (.s (.p H.length 0)) (.new b) (.ok (.value (.pointer (some ⟨w.heap.size, 0, none⟩))) (w.alloc (b.conc β))) := fun β' h' => by
    refine ⟨hTM, .inl rfl, ?_⟩
    have : b.conc β' = b.conc β := by simp only [AB.conc]; rw [SV.concs_ok hok h']
    rw [this, conc_p, upd_same]
  obtain ⟨u, w', β', hr, hag, hlen, hR', hv⟩ := Does.leaves hd hR
  rcases hr with hr | ⟨hr, _⟩
  · injection hr with h1 h2
    injection h1 with h1
    subst h2
    refine ⟨β', hag, ?_, hR'⟩
    have h3 := hv β' (.refl _ _)
    rw [← h1, conc_p] at h3
    injection h3 with h3
    injection h3 with h3
    injection h3
  · cases hr
theorem Rep.put {Γ : Ctx} {H : Heap} {β : Nat → Nat} {w : World} {j : Nat} {b : AB} {cs : List SV} (hR : Rep Γ H β w) (hb : H[j]? = some b) (hl : cs.length = b.cs.length) (hok : ∀ x ∈ cs, x.ok H.length) :
    Rep Γ (putH H j cs) β (w.setRow (β j) (cs.map (SV.conc β)).toArray) := by
  have hjl : j < H.length := (List.getElem?_eq_some_iff.1 hb).1
  have hd : ∀ β', Agrees H.length β β' → Does Γ H β' w undefT (.put j cs) (.ok .skip (w.setRow (β j) (cs.map (SV.conc β)).toArray)) := fun β' h' => by
    refine ⟨rfl, ⟨b, hb, hl⟩, ?_⟩
    rw [SV.concs_ok hok h', h' j hjl]
  obtain ⟨u, w', β', hr, hag, hlen, hR', hv⟩ := Does.leaves hd hR
  rcases hr with hr | ⟨hr, _⟩
  · cases hr
  · injection hr with _ h2
    subst h2
    refine hR'.agree ?_
    have : (HE.app (.put j cs) H).length = H.length := putH_length _ _ _
    rw [this]
    exact hag.symm
@[irreducible] def XR (Γ : Ctx) (ops : Array Oper) (l : List Oper) (T : List TV) (H : Heap) (K : List TV → Heap → Prop) : Prop :=
  ∀ (Q : Exit → Act → World → Prop) (a : Act) (w : World), St Γ T H a w → (∀ T' H' a' w', K T' H' → St Γ T' H' a' w' → Q .normal a' w') → wpList Γ.P ops Q l a w
section
variable {Γ : Ctx} {ops : Array Oper} {H H' : Heap} {T T' : List TV} {K : List TV → Heap → Prop} {dst : Option Tmp} {op : Op} {ty : TypeId} {pos : String} {af : Array Edge} {j : Nat} {w : Bool} {r : List Oper}
@[congr] theorem XR_congr {l : List Oper} (h1 : T = T') (h2 : H = H') : XR Γ ops l T H K = XR Γ ops l T' H' K := by rw [h1, h2]
theorem XR_def {l : List Oper} : XR Γ ops l T H K = ∀ (Q : Exit → Act → World → Prop) (a : Act) (w : World), St Γ T H a w → (∀ T' H' a' w', K T' H' → St Γ T' H' a' w' → Q .normal a' w') → wpList Γ.P ops Q l a w := by unfold XR; rfl
theorem XR_nil (h : K T H) : XR Γ ops [] T H K := by
  rw [XR_def]
  exact fun Q a w hs hK => hK _ _ _ _ h hs
theorem XR_cons (h : xstep Γ op (ev T) H fun v H' => XR Γ ops r (putT T dst v) H' K) : XR Γ ops (⟨dst, op, ty, pos, af, none⟩ :: r) T H K := by
  rw [XR_def]
  intro Q a w hs hK
  have hwant : Region.wanted (⟨dst, op, ty, pos, af, none⟩ : Oper) (yielded ops a.tmps) = true := by simp [Region.wanted]
  simp only [wpList, hwant, if_true]
  refine .inl (xstep_wp (o := ⟨dst, op, ty, pos, af, none⟩) h hs fun v H' u w' hv hs'' => ?_)
  rw [XR_def] at hv
  exact hv Q _ _ hs'' hK
theorem XR_consG (h : xguard T (some ((ops[j]?).bind (·.dst), w)) (fun T => xstep Γ op (ev T) H fun v H' => XR Γ ops r (putT T dst v) H' K) (fun T => XR Γ ops r (putT T dst undefT) H K)) :
    XR Γ ops (⟨dst, op, ty, pos, af, some (j, w)⟩ :: r) T H K := by
  rw [XR_def]
  intro Q a w' hs hK
  refine xguard_wp (ops := ops) (o := ⟨dst, op, ty, pos, af, some (j, w)⟩) h hs (fun T' hw hr hs' => ?_) (fun T' hw hr hs' => ?_)
  · simp only [wpList, hw, if_true]
    refine .inl (xstep_wp (o := ⟨dst, op, ty, pos, af, some (j, w)⟩) hr hs' fun v H' u w' hv hs'' => ?_)
    rw [XR_def] at hv
    exact hv Q _ _ hs'' hK
  · simp only [wpList, hw, Bool.false_eq_true, if_false]
    rw [XR_def] at hr
    refine hr Q _ _ ?_ hK
    obtain ⟨β, hT, hR, hd⟩ := hs'
    exact ⟨β, hT.put (Nat.le_refl _) (.refl _ _) (fun _ _ => rfl), hR, by cases dst <;> exact hd⟩
theorem X_regR {id : Nat} {l : List Oper} {Q : QX} (h : XR Γ l.toArray l T H fun T H => Q .normal T H) : X Γ (.region id l.toArray false) T H Q := by
  intro a w hs
  rw [XR_def] at h
  exact wp_region_list (h _ a w hs fun T' H' a' w' hq hs' => ⟨T', H', hq, hs'⟩)
theorem X_regRS {id : Nat} {l : List Oper} {b : Code} {Q : QX} (h : XR Γ l.toArray l T H fun T H => X Γ b T H Q) : X Γ (.seq (.region id l.toArray false) b) T H Q := by
  intro a w hs
  refine wp_seq (wp_mono (X_regR (Q := fun e T H => e = .normal ∧ X Γ b T H Q) (id := id) (l := l) ?_ a w hs) fun e a' w' ⟨T', H', hq, hs'⟩ => ?_)
  · rw [XR_def] at h ⊢
    intro Q' a' w' hs' hK
    exact h Q' a' w' hs' fun T' H' a'' w'' hX hs'' => hK T' H' a'' w'' ⟨rfl, hX⟩ hs''
  · obtain ⟨he, hX⟩ := hq
    cases e with
    | normal => exact hX a' w' hs'
    | _ => cases he
/-! Tryz# New slices -/
def mkOK (P : Program) (e : TypeId) (n : Nat) : Prop := match P.info? e with | some i => i.bytes * n ≤ 281474976710656 ∧ n ≤ 9223372036854775807 | none => False
theorem mk_bytes {b : Nat} {l : Int} (h0 : 0 ≤ l) (h : b * l.toNat ≤ 281474976710656) : (b : Int) * l ≤ 281474976710656 := by
  have e : ((l.toNat : Nat) : Int) = l := Int.toNat_of_nonneg h0
  rw [← e]
  exact Int.ofNat_le.2 h
def xmake (Γ : Ctx) (e : Option TypeId) (l c : TV) (n : Nat) (K : TV → HE → Prop) : Prop :=
  match e, l, c with
  | some e, .s (.v (.int _ l)), .s (.v (.int _ c)) => (0 ≤ l ∧ l = c ∧ mkOK Γ.P e l.toNat) ∧ xnewS Γ e (slice0 Γ.P e l.toNat) n l.toNat K
  | _, _, _ => False
theorem XR_make {t : TypeId} {l c : Operand} (h : xmake Γ (slcOf Γ.P t) (ev T l) (ev T c) H.length fun v e => XR Γ ops r (putT T dst v) (e.app H) K) :
    XR Γ ops (⟨dst, .makeSlice t l c, ty, pos, af, none⟩ :: r) T H K := by
  rw [XR_def]
  intro Q a w hs hK
  have hwant : Region.wanted (⟨dst, .makeSlice t l c, ty, pos, af, none⟩ : Oper) (yielded ops a.tmps) = true := by simp [Region.wanted]
  simp only [wpList, hwant, if_true]
  left
  obtain ⟨β, hT, hR, hd⟩ := hs
  have hput : ∀ u, (a.put dst u).defers = [] := fun u => by cases dst <;> exact hd
  unfold xmake at h
  split at h
  · rename_i e kl lv kc cv he hl hc
    obtain ⟨⟨h0, hlc, hmk⟩, h⟩ := h
    subst hlc
    unfold xnewS at h
    split at h
    · rename_i cs hcs
      obtain ⟨hTM, hX⟩ := h
      unfold slice0 at hcs
      simp only [Option.bind_eq_some_iff] at hcs
      obtain ⟨zc, hzA, hz⟩ := hcs
      split at hz
      · cases hz
      · rename_i hlen
        simp only [not_or, Nat.not_lt, gt_iff_lt, ne_eq, Decidable.not_not] at hlen
        simp only [Option.some.injEq] at hz
        obtain ⟨i, z, hi, hz0, hzc⟩ := zeroA_spec hzA
        obtain ⟨hu, _⟩ := slcOf_spec he
        have hsz : Γ.P.cellsOf e = i.size := by simp [Program.cellsOf, hi]
        simp only [mkOK, hi] at hmk
        have hev := eval_ev (a := a) (hT β (.refl _ _))
        have hrun := run_makeSlice (P := Γ.P) w t e i z hu hi hz0 kl kc lv lv h0 (Int.le_refl _) (by rw [← hsz]; exact hlen.1) (mk_bytes h0 hmk.1) (by have := hmk.2; omega)
        have hzs : z.cells.size = i.size := by rw [hzc β]; simp; omega
        have hzz : ∀ β', (cs.map (SV.conc β')).toArray = madeCells z.cells (lv.toNat * i.size) := fun β' => by
          rw [← hz, hsz]
          apply Array.ext
          · simp [madeCells]
          · intro k h1 h2
            have hk : k < lv.toNat * i.size := by simpa [madeCells] using h2
            have hpos : 0 < i.size := Nat.pos_of_ne_zero (fun h0 => by rw [h0, Nat.mul_zero] at hk; omega)
            have hzl : zc.length = i.size := by rw [← hsz]; exact hlen.2
            have hm : k % i.size < i.size := Nat.mod_lt _ hpos
            simp [madeCells, hzc β', hzl, hm]
        have hd' : ∀ β', Agrees H.length β β' → Does Γ H β' w (.s (.sl H.length 0 lv.toNat lv.toNat)) (.new ⟨e, cs⟩) (.ok (.value (.slice (some ⟨w.heap.size, 0, none⟩) lv.toNat lv.toNat)) (w.alloc (.cells (madeCells z.cells (lv.toNat * i.size)) e))) := fun β' h' => by
          refine ⟨hTM, .inr ⟨_, rfl⟩, ?_⟩
          rw [conc_sl, upd_same]
          simp only [AB.conc, hzz β']
        obtain ⟨u, w', β', hr, hag, hlen', hR', hv⟩ := Does.leaves hd' hR
        rw [XR_def] at hX
        unfold Oper.wp
        have hex : (execOp a.eval (⟨dst, .makeSlice t l c, ty, pos, af, none⟩ : Oper)).run Γ.P w = .ok (.value (.slice (some ⟨w.heap.size, 0, none⟩) lv.toNat lv.toNat)) (w.alloc (.cells (madeCells z.cells (lv.toNat * i.size)) e)) := by
          simp only [execOp, hev, hl, hc, conc_v, Sem.run_bind, hrun, Result.andThen_ok, Sem.run_pure]
        rw [hex]
        rcases hr with hr | ⟨hr, _⟩
        · rw [hr]
          exact hX Q _ _ ⟨β', hT.put hlen' hag hv, hR', hput _⟩ hK
        · cases hr
    · exact h.elim
  · exact h.elim
/-! Tryz# What is added to a slice -/
def apOK (P : Program) (e : TypeId) (n : Nat) : Prop := ∃ i z, P.info? e = some i ∧ i.zero = some z ∧ z.cells.size = i.size ∧ n * i.bytes ≤ 140737488355328 ∧ n ≤ 9223372036854775807
def newsOf (H : Heap) (sz : Nat) (x : TV) : Option (List SV × Nat) :=
  match x with
  | .s (.sl k off m _) => (H[k]?).bind fun b => if off + m * sz ≤ b.cs.length then some (part b.cs off (m * sz), m) else none
  | _ => none
def xappend (Γ : Ctx) (e : Option TypeId) (s : TV) (nw : TypeId → Option (List SV × Nat)) (H : Heap) (K : TV → Heap → Prop) : Prop :=
  match e with
  | some e => match s, nw e with
    | .s (.v (.slice none 0 0)), some (news, m) => (0 < m ∧ apOK Γ.P e m ∧ ¬ Γ.ev.TM e) ∧ ∀ (c : Nat) (sp : List Value), m ≤ c → sp.length = (c - m) * sz Γ.P e → K (.s (.sl H.length 0 m c)) (H ++ [⟨e, news ++ sp.map .v⟩])
    | .s (.sl j 0 n cap), some (news, m) => ∃ b, H[j]? = some b ∧ (b.t = e ∧ cap * sz Γ.P e ≤ b.cs.length ∧ n ≤ cap ∧ apOK Γ.P e (n + m) ∧ oneAll news ∧ ¬ Γ.ev.TM e) ∧
        (n + m ≤ cap → K (.s (.sl j 0 (n + m) cap)) (putH H j (b.cs.take (n * sz Γ.P e) ++ news ++ b.cs.drop (n * sz Γ.P e + news.length)))) ∧
        (cap < n + m → ∀ (c : Nat) (sp : List Value), n + m ≤ c → sp.length = (c - (n + m)) * sz Γ.P e → K (.s (.sl H.length 0 (n + m) c)) (H ++ [⟨e, b.cs.take (n * sz Γ.P e) ++ news ++ sp.map .v⟩]))
    | _, _ => False
  | none => False
theorem newsOf_spec {H : Heap} {n m : Nat} {x : TV} {news : List SV} (h : newsOf H n x = some (news, m)) : ∃ k off c b, x = .s (.sl k off m c) ∧ H[k]? = some b ∧ off + m * n ≤ b.cs.length ∧ news = part b.cs off (m * n) := by
  unfold newsOf at h
  split at h
  · rename_i k off m' c
    simp only [Option.bind_eq_some_iff] at h
    obtain ⟨b, hb, h⟩ := h
    split at h
    · rename_i hl
      simp only [Option.some.injEq, Prod.mk.injEq] at h
      obtain ⟨h1, h2⟩ := h
      subst h2
      exact ⟨k, off, c, b, rfl, hb, hl, h1.symm⟩
    · cases h
  · cases h
theorem part_cells {Γ : Ctx} {H : Heap} {β : Nat → Nat} {w : World} (hR : Rep Γ H β w) {k : Nat} {b : AB} (hb : H[k]? = some b) (off n : Nat) :
    ∀ (j : Nat) (u : Value), ((part b.cs off n).map (SV.conc β))[j]? = some u → w.cell? ((⟨β k, off, none⟩ : Addr).add j) = some u := by
  intro j u hj
  rw [Addr.add_mid, cellOf hR hb]
  rw [part_eq] at hj
  simp only [List.getElem?_map, List.getElem?_take, List.getElem?_drop] at hj
  split at hj
  · exact hj
  · simp at hj
theorem part_length {cs : List SV} {off n : Nat} (h : off + n ≤ cs.length) : (part cs off n).length = n := by
  rw [part_eq, List.length_take, List.length_drop]; omega
theorem part_ok {cs : List SV} {off n m : Nat} (h : ∀ x ∈ cs, x.ok m) : ∀ x ∈ part cs off n, x.ok m := by
  intro x hx
  rw [part_eq] at hx
  exact h x (List.mem_of_mem_drop (List.mem_of_mem_take hx))
theorem vals_ok {sp : List Value} {m : Nat} : ∀ x ∈ sp.map SV.v, x.ok m := by
  intro x hx
  rw [List.mem_map] at hx
  obtain ⟨y, _, rfl⟩ := hx
  trivial
theorem vals_conc (sp : List Value) (β : Nat → Nat) : (sp.map SV.v).map (SV.conc β) = sp := by
  rw [List.map_map]
  exact List.map_id' sp
theorem XR_append {t : TypeId} {s x : Operand} (h : xappend Γ (slcOf Γ.P t) (ev T s) (fun e => newsOf H (sz Γ.P e) (ev T x)) H fun v H' => XR Γ ops r (putT T dst v) H' K) :
    XR Γ ops (⟨dst, .call ⟨.builtin .append, #[s, x], #[t, t]⟩, ty, pos, af, none⟩ :: r) T H K := by
  rw [XR_def]
  intro Q a w hs hK
  have hwant : Region.wanted (⟨dst, .call ⟨.builtin .append, #[s, x], #[t, t]⟩, ty, pos, af, none⟩ : Oper) (yielded ops a.tmps) = true := by simp [Region.wanted]
  simp only [wpList, hwant, if_true]
  left
  obtain ⟨β, hT, hR, hd⟩ := hs
  have hput : ∀ u, (a.put dst u).defers = [] := fun u => by cases dst <;> exact hd
  have hev := eval_ev (a := a) (hT β (.refl _ _))
  have go : ∀ (u : Value) (w' : World) (v : TV) (H' : Heap) (β' : Nat → Nat), (Builtin.append_ #[t, t] ty #[a.eval s, a.eval x]).run Γ.P w = .ok u w' → XR Γ ops r (putT T dst v) H' K → Agrees H.length β β' → H.length ≤ H'.length → Rep Γ H' β' w' →
      (∀ β'', Agrees H'.length β' β'' → v.conc β'' = u) → Oper.wp Γ.P (⟨dst, .call ⟨.builtin .append, #[s, x], #[t, t]⟩, ty, pos, af, none⟩ : Oper) a w (wpList Γ.P ops Q r) Q := by
    intro u w' v H' β' hrun hX hag hle hR' hv
    rw [XR_def] at hX
    unfold Oper.wp execOp
    simp only [resolve, invoke, builtin, Sem.run_bind, Sem.run_pure, Result.andThen_ok, List.map_toArray, List.map_cons, List.map_nil, hrun]
    exact hX Q _ _ ⟨β', hT.put hle hag hv, hR', hput _⟩ hK
  unfold xappend at h
  split at h
  · rename_i e he
    obtain ⟨hu, _⟩ := slcOf_spec he
    split at h
    · rename_i news m hs hn
      obtain ⟨⟨h0, ⟨i, z, hi, hz, hzs, hby, h63⟩, hTM⟩, hX⟩ := h
      obtain ⟨k, off, c0, b, hx, hb, hl, rfl⟩ := newsOf_spec hn
      have hsz : sz Γ.P e = i.size := by simp [sz, Program.cellsOf, hi]
      rw [hsz] at hl hX
      have hr := run_append_nil (P := Γ.P) w t ty e i z hu hi hz ⟨β k, off, none⟩ m c0 ((part b.cs off (m * i.size)).map (SV.conc β)) (by simp [part_length hl]) (part_cells hR hb _ _) h0 (by omega) (by omega)
      have hge := grownCap_ge w m 0 e
      obtain ⟨β', hag, hnew, hR'⟩ := Rep.new (b := ⟨e, part b.cs off (m * i.size) ++ ((Builtin.zeroCells z.cells (grownCap w m 0 e - m)).toList.map .v)⟩) (hR.ext (Ext.drew Γ.ev Γ.B w)) hTM
        (fun y hy => by
          rcases List.mem_append.1 hy with hy | hy
          · exact part_ok (hR.ok hb) y hy
          · exact vals_ok y hy)
      refine go (.slice (some ⟨w.heap.size, 0, none⟩) m (grownCap w m 0 e)) _ (.s (.sl H.length 0 m (grownCap w m 0 e))) _ β' ?_ (hX (grownCap w m 0 e) (Builtin.zeroCells z.cells (grownCap w m 0 e - m)).toList hge (by rw [Array.length_toList, size_zeroCells, hzs])) hag (by simp) hR' ?_
      · rw [hev s, hev x, hs, hx, conc_v, conc_sl, hr]
        congr 1
        simp only [AB.conc, List.map_append, vals_conc]
        congr 2
        simp
      · intro β'' h''
        have h3 := h'' H.length (by simp)
        rw [hnew] at h3
        rw [conc_sl, h3]
        rfl
    · rename_i j n cap news m hs hn
      obtain ⟨b0, hb0, ⟨hbt, hcap, hnc, ⟨i, z, hi, hz, hzs, hby, h63⟩, hone, hTM⟩, hroom, hgrow⟩ := h
      obtain ⟨k, off, c0, b, hx, hb, hl, rfl⟩ := newsOf_spec hn
      have hsz : sz Γ.P e = i.size := by simp [sz, Program.cellsOf, hi]
      rw [hsz] at hl hcap hone hroom hgrow
      have hpl := part_length hl
      have hnl : n * i.size ≤ cap * i.size := Nat.mul_le_mul_right _ hnc
      by_cases hfit : n + m ≤ cap
      · have hfc : n * i.size + m * i.size ≤ b0.cs.length := by rw [← Nat.add_mul]; exact Nat.le_trans (Nat.mul_le_mul_right _ hfit) hcap
        have hblk := hR.blk β (.refl _ _) j b0 hb0
        simp only [AB.conc, hbt] at hblk
        have hr := run_append_room (P := Γ.P) w t ty e i hu hi (β j) n cap _ hblk ⟨β k, off, none⟩ m c0 ((part b.cs off (m * i.size)).map (SV.conc β)) (by simp [hpl]) (part_cells hR hb _ _)
          (fun u hu' => by
            simp only [List.mem_map] at hu'
            obtain ⟨y, hy, rfl⟩ := hu'
            have := hone y hy
            cases y with
            | v x => exact this
            | p j off => rfl
            | sl j off len cap => rfl) hfit (by simp [hpl]; exact hfc)
        have hR' := Rep.put (cs := b0.cs.take (n * i.size) ++ part b.cs off (m * i.size) ++ b0.cs.drop (n * i.size + (part b.cs off (m * i.size)).length)) hR hb0 (by simp [hpl]; omega)
          (fun y hy => by
            rcases List.mem_append.1 hy with hy | hy
            · rcases List.mem_append.1 hy with hy | hy
              · exact hR.ok hb0 y (List.mem_of_mem_take hy)
              · exact part_ok (hR.ok hb) y hy
            · exact hR.ok hb0 y (List.mem_of_mem_drop hy))
        refine go (.slice (some ⟨β j, 0, none⟩) (n + m) cap) _ (.s (.sl j 0 (n + m) cap)) _ β ?_ (hroom hfit) (.refl _ _) (by rw [putH_length]; exact Nat.le_refl _) hR' ?_
        · rw [hev s, hev x, hs, hx, conc_sl, conc_sl, hr]
          congr 2
          simp [List.map_take, List.map_drop]
        · intro β'' h''
          have hjl : j < H.length := (List.getElem?_eq_some_iff.1 hb0).1
          rw [conc_sl, h'' j (by rw [putH_length]; exact hjl)]
      · have hcn : cap < n + m := by omega
        have hnl2 : 0 + n * i.size ≤ b0.cs.length := by omega
        have holds : ∀ (q : Nat) (u : Value), ((part b0.cs 0 (n * i.size)).map (SV.conc β))[q]? = some u → w.cell? ((⟨β j, 0, none⟩ : Addr).add q) = some u := part_cells hR hb0 0 _
        have hr := run_append_grow (P := Γ.P) w t ty e i z hu hi hz ⟨β j, 0, none⟩ n cap ((part b0.cs 0 (n * i.size)).map (SV.conc β)) (by simp [part_length hnl2]) holds ⟨β k, off, none⟩ m c0 ((part b.cs off (m * i.size)).map (SV.conc β)) (by simp [hpl]) (part_cells hR hb _ _) hcn (by omega) (growslice_fits hcn hby)
        have hge := grownCap_ge w (n + m) cap e
        obtain ⟨β', hag, hnew, hR'⟩ := Rep.new (b := ⟨e, b0.cs.take (n * i.size) ++ part b.cs off (m * i.size) ++ ((Builtin.zeroCells z.cells (grownCap w (n + m) cap e - (n + m))).toList.map .v)⟩) (hR.ext (Ext.drew Γ.ev Γ.B w)) hTM
          (fun y hy => by
            rcases List.mem_append.1 hy with hy | hy
            · rcases List.mem_append.1 hy with hy | hy
              · exact hR.ok hb0 y (List.mem_of_mem_take hy)
              · exact part_ok (hR.ok hb) y hy
            · exact vals_ok y hy)
        refine go (.slice (some ⟨w.heap.size, 0, none⟩) (n + m) (grownCap w (n + m) cap e)) _ (.s (.sl H.length 0 (n + m) (grownCap w (n + m) cap e))) _ β' ?_ (hgrow hcn (grownCap w (n + m) cap e) (Builtin.zeroCells z.cells (grownCap w (n + m) cap e - (n + m))).toList hge (by rw [Array.length_toList, size_zeroCells, hzs])) hag (by simp) hR' ?_
        · rw [hev s, hev x, hs, hx, conc_sl, conc_sl, hr]
          congr 1
          simp only [AB.conc, List.map_append, vals_conc, part_eq, List.drop_zero]
          congr 2
          simp
        · intro β'' h''
          have h3 := h'' H.length (by simp)
          rw [hnew] at h3
          rw [conc_sl, h3]
          rfl
    · exact h.elim
  · exact h.elim
end
end Go.Ab
/-
  Functions that hand back new slices; functions that read what lies where an argument says.
-/
namespace Go.Ab
open Go Go.RowKit
set_option linter.unusedSimpArgs false
set_option linter.unusedVariables false
def NewC (P : Program) (f : FuncId) (args : List TV) (R : TV → Heap → Prop) : Prop :=
  ∀ (β : Nat → Nat) (w : World), Calls P f (args.map (TV.conc β)).toArray w fun e w' =>
    ∃ v H' β', R v H' ∧ (∀ b ∈ H', ∀ x ∈ b.cs, x.ok 0) ∧ v.ok H'.length ∧ Rep (ctx0 P w) H' β' w' ∧ e = .returned (v.conc β')
theorem newC_of {P : Program} {f : FuncId} {fn : Func} {c : Code} {args : List TV} {R : TV → Heap → Prop} (hf : P.funcs[f]? = some fn) (hb : fn.body = some c) (ha : ∀ x ∈ args, x.ok 0)
    (h : ∀ w, X (ctx0 P w) c (args ++ List.replicate (fn.ntmps - args.length) undefT) [] (retQ P fn.results.toList fun v H' =>
      ∃ L v2 H2, R v2 H2 ∧ L.Nodup ∧ v = v2.ren (lk L) ∧ v2.ok H2.length ∧ selH L H' H2 ∧ ∀ b ∈ H2, ∀ x ∈ b.cs, x.ok 0)) : NewC P f args R := by
  intro β w
  refine (calls_of_X (Γ := ctx0 P w) hf hb (rep0 P w β) ha (h w)).mono ?_
  rintro e w' ⟨v, H', β', ⟨L, v2, H2, hR2, hLn, rfl, hok, hsel, hcs⟩, hR, he⟩
  obtain ⟨hlen, hblk⟩ := selH_spec hsel
  have hlt : ∀ k, k < H2.length → ∃ b, H2[k]? = some b ∧ H'[lk L k]? = some b := fun k hk => by
    obtain ⟨l, h1, h2⟩ := hblk k _ (List.getElem?_eq_getElem hk)
    exact ⟨_, List.getElem?_eq_getElem hk, by simp only [lk, List.getD_eq_getElem?_getD, h1, Option.getD_some]; exact h2⟩
  have hlt' : ∀ k, k < H2.length → lk L k < H'.length := fun k hk => by
    obtain ⟨b, _, h2⟩ := hlt k hk
    exact (List.getElem?_eq_some_iff.1 h2).1
  refine ⟨v2, H2, β' ∘ lk L, hR2, hcs, hok, ?_, by rw [he β' (.refl _ _), TV.conc_ren]⟩
  refine ⟨⟨Nat.zero_le _, fun k hk => absurd hk (Nat.not_lt_zero k)⟩, hR.fr, fun p q hp hq hpq => ?_, fun k hk => hR.lie _ (hlt' k hk), fun k b hb => ?_, fun β'' h'' k b hb => ?_⟩
  · have h1 := hR.inj _ _ (hlt' p hp) (hlt' q hq) hpq
    have hpL : p < L.length := by rw [← hlen]; exact hp
    have hqL : q < L.length := by rw [← hlen]; exact hq
    simp only [lk, List.getD_eq_getElem?_getD, List.getElem?_eq_getElem hpL, List.getElem?_eq_getElem hqL, Option.getD_some] at h1
    exact nodup_inj hLn hpL hqL h1
  · obtain ⟨b', h1, h2⟩ := hlt k (List.getElem?_eq_some_iff.1 hb).1
    rw [hb] at h1
    injection h1 with h1
    subst h1
    exact hR.typ _ b h2
  · obtain ⟨b', h1, h2⟩ := hlt k (List.getElem?_eq_some_iff.1 hb).1
    rw [hb] at h1
    injection h1 with h1
    subst h1
    have h3 := hR.blk β' (.refl _ _) _ b h2
    rw [Function.comp_apply, h3]
    simp only [AB.conc]
    rw [SV.concs_ok (hcs b (List.mem_of_getElem? hb)) (β := β') (β' := β'') (fun j hj => absurd hj (Nat.not_lt_zero j))]
theorem below_of_rep0 {P : Program} {w w' : World} {H : Heap} {β : Nat → Nat} (h : Rep (ctx0 P w) H β w') : Below w.heap.size w w' :=
  ⟨h.fr.os, h.fr.tape, h.fr.output, h.fr.size, fun k hk => by
    rcases h.fr.blk k hk with h1 | h1 | ⟨_, _, _, _, _, h1⟩
    · exact h1.elim
    · exact h1
    · exact h1.elim⟩
theorem xcall_new {Γ : Ctx} {H : Heap} {f : FuncId} {args : List TV} {R : TV → Heap → Prop} {K : TV → Heap → Prop} (hc : callable Γ.P f = true) (h : NewC Γ.P f args R) (hev : ∀ t, ¬ Γ.ev.TM t)
    (hK : ∀ v H', R v H' → K (v.ren (· + H.length)) (H ++ H')) : xcallF Γ H f args K := by
  refine xcall_gen (fun r H2 => ∃ v H', R v H' ∧ r = v.ren (· + H.length) ∧ H2 = H ++ H') hc ?_ fun r H2 ⟨v, H', hR, hr, hH⟩ => by subst hr; subst hH; exact hK v H' hR
  intro β w hR
  refine (h β w).mono ?_
  rintro e w' ⟨v, H', β', hRv, hcs, hok, hR', he⟩
  have hbel := below_of_rep0 hR'
  have hRw := hR.ext (Ext.of_below (V := Γ.ev) (B := Γ.B) hbel)
  let β2 : Nat → Nat := fun j => if j < H.length then β j else β' (j - H.length)
  have hag : Agrees H.length β β2 := fun j hj => by simp [β2, hj]
  have hag2 : ∀ j, β2 (j + H.length) = β' j := fun j => by simp [β2, show ¬ j + H.length < H.length by omega]
  have hbig : ∀ j, j < H'.length → w.heap.size ≤ β' j := fun j hj => by
    rcases hR'.lie j hj with h1 | h1
    · exact h1
    · exact h1.elim
  have hsm : ∀ j, j < H.length → β j < w.heap.size := fun j hj => hR.lt hj
  refine ⟨v.ren (· + H.length), H ++ H', β2, ⟨v, H', hRv, rfl, rfl⟩, hag, by simp, ?_, fun β'' h'' => ?_⟩
  · refine ⟨⟨by simp; exact Nat.le_trans hR.anc.1 (Nat.le_add_right _ _), hR.anc.2.trans (hag.mono hR.anc.1)⟩, hRw.fr, fun p q hp hq hpq => ?_, fun j hj => ?_, fun j b hb => hev _, fun β'' h'' j b hb => ?_⟩
    · simp only [List.length_append] at hp hq
      by_cases h1 : p < H.length
      · by_cases h2 : q < H.length
        · simp only [β2, h1, h2, if_true] at hpq
          exact hR.inj p q h1 h2 hpq
        · simp only [β2, h1, h2, if_true, if_false] at hpq
          have := hsm p h1
          have := hbig (q - H.length) (by omega)
          omega
      · by_cases h2 : q < H.length
        · simp only [β2, h1, h2, if_true, if_false] at hpq
          have := hsm q h2
          have := hbig (p - H.length) (by omega)
          omega
        · simp only [β2, h1, h2, if_false] at hpq
          have := hR'.inj _ _ (by omega) (by omega) hpq
          omega
    · simp only [List.length_append] at hj
      by_cases h1 : j < H.length
      · simp only [β2, h1, if_true]; exact hR.lie j h1
      · simp only [β2, h1, if_false]
        exact .inl (Nat.le_trans hR.fr.size (hbig _ (by omega)))
    · by_cases h1 : j < H.length
      · rw [List.getElem?_append_left h1] at hb
        simp only [β2, h1, if_true]
        refine hRw.blk β'' (hag.trans (h''.mono (by simp))) j b hb
      · rw [List.getElem?_append_right (by omega)] at hb
        simp only [β2, h1, if_false]
        rw [hR'.blk β' (.refl _ _) _ b hb]
        simp only [AB.conc]
        rw [SV.concs_ok (hcs b (List.mem_of_getElem? hb)) (β := β') (β' := β'') (fun j hj => absurd hj (Nat.not_lt_zero j))]
  · rw [he, TV.conc_ren]
    congr 1
    refine (TV.conc_ok hok fun j hj => ?_).symm
    simp only [Function.comp_apply]
    rw [h'' (j + H.length) (by simp; omega), hag2]
theorem extCell_fun {Γ : Ctx} {ad : Addr} {x y : Value} (h : extCell Γ ad x) (h' : extCell Γ ad y) : x = y := by
  have h1 := h _ (FrP.now Γ)
  rw [h' _ (FrP.now Γ)] at h1
  injection h1 with h1
  exact h1.symm
theorem xext_eq {Γ : Ctx} {n : Nat} {ad : Addr} {x : Value} {K : TV → HE → Prop} (h : extCell Γ ad x) : xext Γ (some false) n ad K = K (.s (.v x)) .none := by
  simp only [xext, eq_iff_iff]
  exact ⟨fun ⟨y, hy, hK⟩ => by rw [extCell_fun h hy]; exact hK, fun hK => ⟨x, h, hK⟩⟩
end Go.Ab
/-
  Pieces of code, one ahead of another; rules for loops with new blocks.
-/
namespace Go.Ab
open Go Go.RowKit
set_option linter.unusedSimpArgs false
set_option linter.unusedVariables false
theorem X_seqX {Γ : Ctx} {x y : Code} {T : List TV} {H : Heap} {Q : QX} (h : X Γ x T H (seqQ (fun T H => X Γ y T H Q) Q)) : X Γ (.seq x y) T H Q := by
  intro a w hs
  refine wp_seq (wp_mono (h a w hs) fun e a' w' ⟨T', H', hq, hs'⟩ => ?_)
  cases e with
  | normal => exact hq a' w' hs'
  | _ => exact ⟨T', H', hq, hs'⟩
theorem X_blockX {Γ : Ctx} {id : Nat} {b : Code} {T : List TV} {H : Heap} {Q : QX} (h : X Γ b T H (blockQ id Q)) : X Γ (.block id b) T H Q := by
  intro a w hs
  refine wp_block (wp_mono (h a w hs) fun e a' w' ⟨T', H', hq, hs'⟩ => ?_)
  cases e with
  | exit i =>
    simp only [Exit.inBlock]
    simp only [blockQ] at hq
    split
    · rename_i hi; simp only [hi, if_true] at hq; exact ⟨T', H', hq, hs'⟩
    · rename_i hi; simp only [hi, if_false] at hq; exact ⟨T', H', hq, hs'⟩
  | _ => exact ⟨T', H', hq, hs'⟩
def bigO (o : Oper) : Bool :=
  match o.op with
  | .call c => match c.callee with
    | .builtin .append => true
    | .builtin .copy => true
    | .builtin .max => true
    | _ => false
  | .makeSlice _ _ _ => true
  | .slice _ _ _ _ _ => true
  | _ => false
def bigL (l : List Oper) : Bool := Nat.ble 8 l.length || l.any bigO
def bigC : Nat → Code → Bool
  | n + 1, .region _ l false => bigL l.toList
  | n + 1, .seq x _ => bigC n x
  | _, _ => false
def bigB : Nat → Code → Bool
  | n + 1, .region _ l false => bigL l.toList
  | n + 1, .seq x _ => bigB n x
  | n + 1, .block _ x => bigB n x
  | _, _ => false
section
variable {Γ : Ctx} {T : List TV} {H : Heap} {Q : QX} {id : Nat} {l : List Oper} {b x y : Code}
theorem gRS (_hb : bigL l = true) (h : XR Γ l.toArray l T H fun T H => X Γ b T H Q) : X Γ (.seq (.region id l.toArray false) b) T H Q := X_regRS h
theorem gR (_hb : bigL l = true) (h : XR Γ l.toArray l T H fun T H => Q .normal T H) : X Γ (.region id l.toArray false) T H Q := X_regR h
theorem gS (_hb : bigC 4 x = true) (h : X Γ x T H (seqQ (fun T H => X Γ y T H Q) Q)) : X Γ (.seq x y) T H Q := X_seqX h
theorem gSB (_hb : bigB 5 x = true) (h : X Γ x T H (seqQ (fun T H => X Γ y T H Q) Q)) : X Γ (.seq x y) T H Q := X_seqX h
theorem gB (_hb : bigB 5 b = true) (h : X Γ b T H (blockQ id Q)) : X Γ (.block id b) T H Q := X_blockX h
end
def PureM (P : Program) (f : FuncId) (args : List TV) (pre : World → Prop) (r : TV) : Prop :=
  ∀ w, pre w → Calls P f (args.map (TV.conc fun _ => 0)).toArray w fun e w' => (∀ β, e = .returned (r.conc β)) ∧ Below w.heap.size w w'
theorem pureM_of {P : Program} {f : FuncId} {fn : Func} {c : Code} {args : List TV} {pre : World → Prop} {r : TV} (hf : P.funcs[f]? = some fn) (hb : fn.body = some c) (ha : ∀ x ∈ args, x.ok 0) (hr : r.ok 0)
    (h : ∀ w, pre w → X (ctx0 P w) c (args ++ List.replicate (fn.ntmps - args.length) undefT) [] (retQ P fn.results.toList fun v _ => v = r)) : PureM P f args pre r := by
  intro w hw
  refine (calls_of_X (Γ := ctx0 P w) hf hb (rep0 P w fun _ => 0) ha (h w hw)).mono ?_
  rintro e w' ⟨v, H', β', rfl, hR, he⟩
  refine ⟨fun β'' => ?_, below_of_rep0 hR⟩
  rw [he β' (.refl _ _)]
  rw [TV.conc_ok hr (β := β'') (β' := β') (fun j hj => absurd hj (Nat.not_lt_zero j))]
def xbs (Γ : Ctx) (e : Option TypeId) (len : Nat) (ps : List (Nat × Operand)) (E : Operand → TV) (H : Heap) (K : TV → HE → Prop) : Prop :=
  match e with
  | some e => xnewS Γ e ((slice0 Γ.P e len).bind fun z => fillA (fun i => some (i * Γ.P.cellsOf e, Γ.P.cellsOf e)) z (ps.map fun p => (p.1, cellsOf (E p.2)))) H.length len K
  | none => False
theorem st_bs {Γ : Ctx} {t : TypeId} {len : Nat} {ps : List (Nat × Operand)} {E : Operand → TV} {H : Heap} {KK : TV → Heap → Prop} : xstep Γ (.buildSlice t len ps.toArray) E H KK = xbs Γ (slcOf Γ.P t) len ps E H fun v e => KK v (e.app H) := rfl
theorem xbs_some {Γ : Ctx} {e : TypeId} {len : Nat} {ps : List (Nat × Operand)} {E : Operand → TV} {H : Heap} {K : TV → HE → Prop} : xbs Γ (some e) len ps E H K = xnewS Γ e ((slice0 Γ.P e len).bind fun z => fillA (fun i => some (i * Γ.P.cellsOf e, Γ.P.cellsOf e)) z (ps.map fun p => (p.1, cellsOf (E p.2)))) H.length len K := rfl
theorem xappend_nil {Γ : Ctx} {e : TypeId} {nw : TypeId → Option (List SV × Nat)} {H : Heap} {K : TV → Heap → Prop} {news : List SV} {m : Nat} (hn : nw e = some (news, m)) :
    xappend Γ (some e) (.s (.v (.slice none 0 0))) nw H K = ((0 < m ∧ apOK Γ.P e m ∧ ¬ Γ.ev.TM e) ∧ ∀ (c : Nat) (sp : List Value), m ≤ c → sp.length = (c - m) * sz Γ.P e → K (.s (.sl H.length 0 m c)) (H ++ [⟨e, news ++ sp.map .v⟩])) := by
  unfold xappend
  simp only [hn]
theorem xappend_sl {Γ : Ctx} {e : TypeId} {nw : TypeId → Option (List SV × Nat)} {H : Heap} {K : TV → Heap → Prop} {news : List SV} {m j n cap : Nat} {b : AB} (hn : nw e = some (news, m)) (hb : H[j]? = some b) :
    xappend Γ (some e) (.s (.sl j 0 n cap)) nw H K = ((b.t = e ∧ cap * sz Γ.P e ≤ b.cs.length ∧ n ≤ cap ∧ apOK Γ.P e (n + m) ∧ oneAll news ∧ ¬ Γ.ev.TM e) ∧
        (n + m ≤ cap → K (.s (.sl j 0 (n + m) cap)) (putH H j (b.cs.take (n * sz Γ.P e) ++ news ++ b.cs.drop (n * sz Γ.P e + news.length)))) ∧
        (cap < n + m → ∀ (c : Nat) (sp : List Value), n + m ≤ c → sp.length = (c - (n + m)) * sz Γ.P e → K (.s (.sl H.length 0 (n + m) c)) (H ++ [⟨e, b.cs.take (n * sz Γ.P e) ++ news ++ sp.map .v⟩]))) := by
  unfold xappend
  simp only [hn, hb, Option.some.injEq, exists_eq_left']
theorem xappend_nil_i {Γ : Ctx} {e : TypeId} {nw : TypeId → Option (List SV × Nat)} {H : Heap} {K : TV → Heap → Prop} {news : List SV} {m : Nat} (hn : nw e = some (news, m)) (h1 : 0 < m) (h2 : apOK Γ.P e m) (h3 : ¬ Γ.ev.TM e)
    (h : ∀ (c : Nat) (sp : List Value), m ≤ c → sp.length = (c - m) * sz Γ.P e → K (.s (.sl H.length 0 m c)) (H ++ [⟨e, news ++ sp.map .v⟩])) : xappend Γ (some e) (.s (.v (.slice none 0 0))) nw H K := by
  rw [xappend_nil hn]
  exact ⟨⟨h1, h2, h3⟩, h⟩
theorem xappend_sl_i {Γ : Ctx} {e : TypeId} {nw : TypeId → Option (List SV × Nat)} {H : Heap} {K : TV → Heap → Prop} {news : List SV} {m j n cap : Nat} {b : AB} (hn : nw e = some (news, m)) (hb : H[j]? = some b) (ht : b.t = e)
    (hcap : cap * sz Γ.P e ≤ b.cs.length) (hnc : n ≤ cap) (hap : apOK Γ.P e (n + m)) (hone : oneAll news) (hTM : ¬ Γ.ev.TM e)
    (h1 : n + m ≤ cap → K (.s (.sl j 0 (n + m) cap)) (putH H j (b.cs.take (n * sz Γ.P e) ++ news ++ b.cs.drop (n * sz Γ.P e + news.length))))
    (h2 : cap < n + m → ∀ (c : Nat) (sp : List Value), n + m ≤ c → sp.length = (c - (n + m)) * sz Γ.P e → K (.s (.sl H.length 0 (n + m) c)) (H ++ [⟨e, b.cs.take (n * sz Γ.P e) ++ news ++ sp.map .v⟩])) : xappend Γ (some e) (.s (.sl j 0 n cap)) nw H K := by
  rw [xappend_sl hn hb]
  exact ⟨⟨ht, hcap, hnc, hap, hone, hTM⟩, h1, h2⟩
theorem renS_nil {L : List Nat} : renS L [] = [] := rfl
theorem renS_cons {L : List Nat} {d : Nat} {v : TV} {r : List (Nat × TV)} : renS L ((d, v) :: r) = (d, v.ren (lk L)) :: renS L r := rfl
theorem ren_v {ρ : Nat → Nat} {x : Value} : TV.ren ρ (.s (.v x)) = .s (.v x) := rfl
theorem ren_p {ρ : Nat → Nat} {j o : Nat} : TV.ren ρ (.s (.p j o)) = .s (.p (ρ j) o) := rfl
theorem ren_sl {ρ : Nat → Nat} {j o n c : Nat} : TV.ren ρ (.s (.sl j o n c)) = .s (.sl (ρ j) o n c) := rfl
end Go.Ab
/-
  Functions that change blocks of their caller's: which they need, what they leave.
-/
namespace Go.Ab
open Go Go.RowKit
set_option linter.unusedSimpArgs false
set_option linter.unusedVariables false
def ctxN (P : Program) (w : World) (n : Nat) (β : Nat → Nat) : Ctx := { P := P, W := w, B := w.heap.size, own := fun k => ∃ j, j < n ∧ k = β j, ev := Evo.none, n0 := n, β0 := β }
theorem ctxN_P {P : Program} {w : World} {n : Nat} {β : Nat → Nat} : (ctxN P w n β).P = P := rfl
theorem ctxN_TM {P : Program} {w : World} {n : Nat} {β : Nat → Nat} {e : TypeId} : (ctxN P w n β).ev.TM e = False := rfl
def liesAt (bs : Heap) (β : Nat → Nat) (w : World) : Prop := (∀ i j, i < bs.length → j < bs.length → β i = β j → i = j) ∧ ∀ (j : Nat) (b : AB), bs[j]? = some b → w.heap[β j]? = some (b.conc β)
def OwnC (P : Program) (f : FuncId) (args : List TV) (bs bs' : Heap) (r : TV) : Prop :=
  ∀ (β : Nat → Nat) (w : World), liesAt bs β w → Calls P f (args.map (TV.conc β)).toArray w fun e w' =>
    (∀ β', e = .returned (r.conc β')) ∧ liesAt bs' β w' ∧ w'.os = w.os ∧ w'.tape = w.tape ∧ w'.output = w.output ∧ w.heap.size ≤ w'.heap.size ∧ ∀ k, k < w.heap.size → (∀ j, j < bs.length → k ≠ β j) → w'.heap[k]? = w.heap[k]?
theorem repN {P : Program} {w : World} {bs : Heap} {β : Nat → Nat} (h : liesAt bs β w) (hok : ∀ b ∈ bs, ∀ x ∈ b.cs, x.ok bs.length) : Rep (ctxN P w bs.length β) bs β w :=
  ⟨⟨Nat.le_refl _, .refl _ _⟩, ⟨rfl, rfl, rfl, Nat.le_refl _, fun _ _ => .inr (.inl rfl)⟩, h.1, fun j hj => .inr ⟨j, hj, rfl⟩, fun _ _ _ h => h, fun β' h' j b hb => by
    rw [h.2 j b hb]
    simp only [AB.conc]
    rw [SV.concs_ok (hok b (List.mem_of_getElem? hb)) h']⟩
theorem own_of {P : Program} {f : FuncId} {fn : Func} {c : Code} {args : List TV} {bs bs' : Heap} {r : TV} (hf : P.funcs[f]? = some fn) (hb : fn.body = some c) (ha : ∀ x ∈ args, x.ok bs.length) (hr : r.ok 0)
    (hok : ∀ b ∈ bs, ∀ x ∈ b.cs, x.ok bs.length) (hok' : ∀ b ∈ bs', ∀ x ∈ b.cs, x.ok bs.length) (hl : bs'.length = bs.length)
    (h : ∀ w β, X (ctxN P w bs.length β) c (args ++ List.replicate (fn.ntmps - args.length) undefT) bs (retQ P fn.results.toList fun v H' => v = r ∧ ∃ G, H' = bs' ++ G)) : OwnC P f args bs bs' r := by
  intro β w hlie
  refine (calls_of_X (Γ := ctxN P w bs.length β) hf hb (repN hlie hok) ha (h w β)).mono ?_
  rintro e w' ⟨v, H', β', ⟨rfl, G, rfl⟩, hR, he⟩
  have hag : Agrees bs.length β β' := hR.anc.2
  refine ⟨fun β'' => ?_, ⟨fun i j hi hj => hlie.1 i j (by rw [← hl]; exact hi) (by rw [← hl]; exact hj), fun j b hb => ?_⟩, hR.fr.os, hR.fr.tape, hR.fr.output, hR.fr.size, fun k hk hne => ?_⟩
  · rw [he β' (.refl _ _)]
    rw [TV.conc_ok hr (β := β'') (β' := β') (fun j hj => absurd hj (Nat.not_lt_zero j))]
  · have hjl : j < bs'.length := (List.getElem?_eq_some_iff.1 hb).1
    have hjb : (bs' ++ G)[j]? = some b := by rw [List.getElem?_append_left hjl]; exact hb
    rw [← hag j (by rw [← hl]; exact hjl), hR.blk β' (.refl _ _) j b hjb]
    simp only [AB.conc]
    rw [SV.concs_ok (hok' b (List.mem_of_getElem? hb)) hag]
  · rcases hR.fr.blk k hk with ⟨j, hj, hkj⟩ | h1 | ⟨_, _, _, _, _, h1⟩
    · exact absurd hkj (hne j hj)
    · exact h1
    · exact h1.elim
theorem conc_vals {b : AB} (hv : ∀ x ∈ b.cs, x.ok 0) (β β' : Nat → Nat) : b.conc β' = b.conc β := by
  simp only [AB.conc]
  rw [SV.concs_ok hv (β := β) (β' := β') (fun j hj => absurd hj (Nat.not_lt_zero j))]
theorem args_ren (args : List TV) (j : Nat) (β : Nat → Nat) : (args.map (TV.ren fun _ => j)).map (TV.conc β) = args.map (TV.conc fun _ => β j) := by
  rw [List.map_map]
  exact List.map_congr_left fun x _ => TV.conc_ren _ _ x
theorem lies1 {Γ : Ctx} {H : Heap} {β : Nat → Nat} {w : World} (hR : Rep Γ H β w) {j : Nat} {b : AB} (hb : H[j]? = some b) (hv : ∀ x ∈ b.cs, x.ok 0) : liesAt [b] (fun _ => β j) w := by
  refine ⟨fun p q hp hq _ => by simp at hp hq; omega, fun k c hc => ?_⟩
  cases k with
  | zero =>
    simp only [List.getElem?_cons_zero, Option.some.injEq] at hc
    subst hc
    rw [hR.blk β (.refl _ _) j b hb]
    exact congrArg some (conc_vals hv _ _)
  | succ k => simp at hc
theorem OwnC.cal1 {Γ : Ctx} {H : Heap} {f : FuncId} {args : List TV} {b b' : AB} {r : TV} {j : Nat} (h : OwnC Γ.P f args [b] [b'] r) (hb : H[j]? = some b) (hv : ∀ x ∈ b.cs, x.ok 0) (hv' : ∀ x ∈ b'.cs, x.ok 0) (ht : b'.t = b.t) :
    CalG Γ H f (args.map (TV.ren fun _ => j)) fun r' H' => r' = r ∧ H' = putH H j b'.cs := by
  intro β w hR
  rw [args_ren]
  refine (h (fun _ => β j) w (lies1 hR hb hv)).mono ?_
  rintro e w' ⟨he, hl', hos, htape, hout, hsize, hsame⟩
  have hjl : j < H.length := (List.getElem?_eq_some_iff.1 hb).1
  have hblk : w'.heap[β j]? = some (b'.conc fun _ => β j) := hl'.2 0 b' rfl
  have hoth : ∀ k, k < w.heap.size → k ≠ β j → w'.heap[k]? = w.heap[k]? := fun k hk hne => hsame k hk fun _ _ => hne
  refine ⟨r, putH H j b'.cs, β, ⟨rfl, rfl⟩, .refl _ _, by rw [putH_length]; exact Nat.le_refl _, ?_, fun β'' _ => he β''⟩
  refine ⟨⟨by rw [putH_length]; exact hR.anc.1, hR.anc.2⟩, ⟨hos.trans hR.fr.os, htape.trans hR.fr.tape, hout.trans hR.fr.output, Nat.le_trans hR.fr.size hsize, fun k hk => ?_⟩, fun p q hp hq => hR.inj p q (by rw [putH_length] at hp; exact hp) (by rw [putH_length] at hq; exact hq), fun k hk => hR.lie k (by rw [putH_length] at hk; exact hk), fun k c hc => ?_, fun β' h' k c hc => ?_⟩
  · by_cases hkj : k = β j
    · left
      rcases hR.lie j hjl with h1 | h1
      · omega
      · rw [hkj]; exact h1
    · rcases hR.fr.blk k hk with h1 | h1
      · exact .inl h1
      · right
        unfold sameBlk at *
        rw [hoth k (Nat.lt_of_lt_of_le hk hR.fr.size) hkj]
        exact h1
  · rw [putH_get] at hc
    by_cases h1 : j = k
    · subst h1
      simp only [if_true, hb, Option.map_some, Option.some.injEq] at hc
      subst hc
      exact hR.typ j b hb
    · simp only [h1, if_false] at hc
      exact hR.typ k c hc
  · rw [putH_get] at hc
    rw [putH_length] at h'
    by_cases h1 : j = k
    · subst h1
      simp only [if_true, hb, Option.map_some, Option.some.injEq] at hc
      subst hc
      rw [hblk, conc_vals hv' β' _]
      simp only [AB.conc, ht]
    · simp only [h1, if_false] at hc
      have hkl : k < H.length := (List.getElem?_eq_some_iff.1 hc).1
      rw [hoth (β k) (hR.lt hkl) (fun he' => h1 (hR.inj j k hjl hkl he'.symm))]
      exact hR.blk β' h' k c hc
theorem OwnC.calP {Γ : Ctx} {H : Heap} {f : FuncId} {args : List TV} {b : AB} {r : TV} {j : Nat} (h : OwnC Γ.P f args [b] [b] r) (hb : H[j]? = some b) (hv : ∀ x ∈ b.cs, x.ok 0) : CalP Γ H f (args.map (TV.ren fun _ => j)) r := by
  intro β w hR
  rw [args_ren]
  refine (h (fun _ => β j) w (lies1 hR hb hv)).mono ?_
  rintro e w' ⟨he, hl', hos, htape, hout, hsize, hsame⟩
  have hblk : w'.heap[β j]? = some (b.conc fun _ => β j) := hl'.2 0 b rfl
  refine ⟨fun β' _ => he β', hos, htape, hout, hsize, fun k hk => .inl ?_⟩
  by_cases hkj : k = β j
  · rw [hkj, hblk, hR.blk β (.refl _ _) j b hb]
    exact congrArg some (conc_vals hv _ _)
  · exact hsame k hk fun _ _ => hkj
theorem xcall_own {Γ : Ctx} {H : Heap} {f : FuncId} {args args' : List TV} {b b' : AB} {r : TV} {j : Nat} {K : TV → Heap → Prop} (hc : callable Γ.P f = true) (h : OwnC Γ.P f args [b] [b'] r) (ha : args' = args.map (TV.ren fun _ => j)) (hb : H[j]? = some b)
    (hv : ∀ x ∈ b.cs, x.ok 0) (hv' : ∀ x ∈ b'.cs, x.ok 0) (ht : b'.t = b.t) (hK : K r (putH H j b'.cs)) : xcallF Γ H f args' K := by
  subst ha
  exact xcall_gen _ hc (h.cal1 hb hv hv' ht) fun r' H' ⟨h1, h2⟩ => by subst h1; subst h2; exact hK
theorem xcallM_own {Γ : Ctx} {H : Heap} {M : List Nat} {f : FuncId} {args args' : List TV} {b : AB} {r : TV} {j : Nat} {K : TV → Prop} (hc : callable Γ.P f = true) (h : OwnC Γ.P f args [b] [b] r) (ha : args' = args.map (TV.ren fun _ => j)) (hb : H[j]? = some b)
    (hM : M.contains j = false) (hv : ∀ x ∈ b.cs, x.ok 0) (hK : K r) : xcallM Γ H M f args' K := by
  subst ha
  exact .inl ⟨hc, r, fun H' hf => h.calP ((famL_spec hf).2 j b hb (by rw [Nat.zero_add]; exact hM)) hv, hK⟩
theorem xcallV_own {Γ : Ctx} {H : Heap} {f : FuncId} {args args' : List TV} {b : AB} {r : TV} {j : Nat} {K : TV → Prop} (hc : callable Γ.P f = true) (h : OwnC Γ.P f args [b] [b] r) (ha : args' = args.map (TV.ren fun _ => j)) (hb : H[j]? = some b)
    (hv : ∀ x ∈ b.cs, x.ok 0) (hK : K r) : xcallV Γ H f args' K := by
  subst ha
  exact xcallV_pure hc (h.calP hb hv) hK
end Go.Ab
/-
  A statement whose order is open, once more: its last part waits for the head, also through others; the head and the last part go by laws of their own.
  Slices of arrays and of slices, arrays of slices, copy.
-/
namespace Go.Ab
open Go Go.RowKit
set_option linter.unusedSimpArgs false
set_option linter.unusedVariables false
section
variable {P : Program} {ops : Array Oper} {md : Region.Mode} {C : World → Prop}
def maskOf (md : Region.Mode) (o : Oper) : Nat := o.after.toList.foldl (fun s e => if Region.binds md e then s ||| 2 ^ e.on else s) 0
def ancM (md : Region.Mode) (ops : Array Oper) : Nat → Nat → Nat
  | 0, S => S
  | k + 1, S => ancM md ops k (match ops[k]? with | some o => if S.testBit k then S ||| maskOf md o else S | none => S)
def waitsB (md : Region.Mode) (ops : Array Oper) (f j i : Nat) : Bool := match ops[j]? with | some oj => (ancM md ops f (maskOf md oj)).testBit i | none => false
def closedL (md : Region.Mode) (ops : Array Oper) (listed : Array Bool) : Prop := ∀ j oj, ops[j]? = some oj → listed.getD j false = true → ∀ e ∈ oj.after, Region.binds md e = true → listed.getD e.on false = true
theorem mask_listed {listed : Array Bool} : ∀ (l : List Edge) (S : Nat), (∀ i, S.testBit i = true → listed.getD i false = true) → (∀ e ∈ l, Region.binds md e = true → listed.getD e.on false = true) →
    ∀ i, (l.foldl (fun s e => if Region.binds md e then s ||| 2 ^ e.on else s) S).testBit i = true → listed.getD i false = true
  | [], S, hS, _ => hS
  | e :: l, S, hS, h => by
    rw [List.foldl_cons]
    refine mask_listed l _ (fun i hi => ?_) fun e' he' => h e' (List.mem_cons_of_mem _ he')
    split at hi
    · rename_i hb
      rw [Nat.testBit_or, Bool.or_eq_true, Nat.testBit_two_pow, decide_eq_true_eq] at hi
      rcases hi with hi | hi
      · exact hS i hi
      · rw [← hi]; exact h e (List.mem_cons_self ..) hb
    · exact hS i hi
theorem anc_listed {listed : Array Bool} (hc : closedL md ops listed) : ∀ (f S : Nat), (∀ i, S.testBit i = true → listed.getD i false = true) → ∀ i, (ancM md ops f S).testBit i = true → listed.getD i false = true
  | 0, S, hS => hS
  | f + 1, S, hS => by
    refine anc_listed hc f _ fun i hi => ?_
    split at hi
    · rename_i o ho
      split at hi
      · rename_i hb
        rw [Nat.testBit_or, Bool.or_eq_true] at hi
        rcases hi with hi | hi
        · exact hS i hi
        · exact mask_listed o.after.toList 0 (fun i h => by simp at h) (fun e he hbe => hc f o ho (hS f hb) e (Array.mem_toList_iff.1 he) hbe) i hi
      · exact hS i hi
    · exact hS i hi
theorem waits_listed {i : Nat} {listed : Array Bool} (hc : closedL md ops listed) (f j : Nat) (h : waitsB md ops f j i = true) (hd : ∀ oj, ops[j]? = some oj → ∀ e ∈ oj.after, Region.binds md e = true → listed.getD e.on false = true) : listed.getD i false = true := by
  unfold waitsB at h
  split at h
  · rename_i oj hoj
    exact anc_listed hc f _ (mask_listed oj.after.toList 0 (fun i h => by simp at h) fun e he hb => hd oj hoj e (Array.mem_toList_iff.1 he) hb) i h
  · cases h
theorem closed_set {j : Nat} {listed : Array Bool} (hc : closedL md ops listed) (hj : j ∈ Region.ready md ops listed) : closedL md ops (listed.setIfInBounds j true) := by
  intro k ok hok hk e he hb
  by_cases hjk : j = k
  · subst hjk
    obtain ⟨_, oj, hoj, hall⟩ := mem_ready.1 hj
    rw [hoj] at hok
    injection hok with hok
    subst hok
    exact getD_set_true (hall e he hb)
  · rw [getD_set_ne false hjk] at hk
    exact getD_set_true (hc k ok hok hk e he hb)
theorem wpAnyC_first {n i F : Nat} {oi : Oper} {v : Value} {Q : Exit → Act → World → Prop} (hi : ops[i]? = some oi) (hsel : ∀ (j : Nat) (o : Oper) cs b, ops[j]? = some o → o.op ≠ .select cs b)
    (hQ : ∀ c a w, ¬ Q (.panic c) a w) (hin : i < n) :
    ∀ (f : Nat) (listed : Array Bool) (a : Act), closedL md ops listed →
      (∀ j oj, ops[j]? = some oj → j ≠ i → listed.getD j true = false → (∀ e ∈ oj.after, Region.binds md e = true → e.on ≠ i) → oi.apart ops oj = true) →
      (Yields P ops oi v a ∨ ∀ j oj, ops[j]? = some oj → n ≤ j → listed.getD j true = false → waitsB md ops F j i = true) →
      i ∈ Region.ready md ops listed → YieldsIn P ops C oi v a →
      wpAnyM P md ops C n Q f (listed.setIfInBounds i true) (a.put oi.dst v) → wpAnyM P md ops C n Q (f + 1) listed a := by
  intro f
  induction f with
  | zero =>
    intro listed a _ _ _ hr hy H
    refine ⟨fun h => (by rw [h] at hr; cases hr), fun j hj => ?_⟩
    by_cases hji : j = i
    · subst hji; exact ⟨fun _ => hy.qOp hi H, fun h => absurd hin (Nat.not_lt.2 h)⟩
    · have := ready_mono hj hji
      rw [H.1] at this
      cases this
  | succ f ih =>
    intro listed a hcl hfree hpw hr hy H
    have hun := (mem_ready.1 hr).1
    refine ⟨fun h => (by rw [h] at hr; cases hr), fun j hj => ?_⟩
    by_cases hji : j = i
    · subst hji; exact ⟨fun _ => hy.qOp hi H, fun h => absurd hin (Nat.not_lt.2 h)⟩
    · have h1 := H.2 j (ready_mono hj hji)
      have hcl' := closed_set hcl hj
      obtain ⟨hjun, oj, hoj, hall⟩ := mem_ready.1 hj
      have hnot : ∀ e ∈ oj.after, Region.binds md e = true → e.on ≠ i := fun e he hb heq => by
        have h1 := hall e he hb
        rw [heq, getD_both hun] at h1
        cases h1
      have hap := hfree j oj hoj hji hjun hnot
      have hfree' : ∀ k ok, ops[k]? = some ok → k ≠ i → (listed.setIfInBounds j true).getD k true = false →
          (∀ e ∈ ok.after, Region.binds md e = true → e.on ≠ i) → oi.apart ops ok = true := fun k ok hk hki hun hno => by
        refine hfree k ok hk hki ?_ hno
        by_cases hjk : j = k
        · subst hjk; exact hjun
        · rw [getD_set_ne true hjk] at hun; exact hun
      refine ⟨fun hjn => ?_, fun hjn w hw => ?_⟩
      · rcases hpw with hpure | hwait
        · have h2 := qOp_put hoj hap (fun cs b => hsel i oi cs b hi) (fun cs b => hsel j oj cs b hoj) hy (h1.1 hjn)
          obtain ⟨e1, e2, e3⟩ := Oper.apart_spec hap
          obtain ⟨u, hyj, hK⟩ := yieldsIn_of_qOp hoj h2
          have hpure' : Yields P ops oi v (a.put oj.dst u) := hpure.of_same (execOp_put oi (fun cs b => hsel i oi cs b hi) a oj.dst u e3) (wanted_put oi a oj.dst u e3)
          refine hyj.qOp hoj (ih (listed.setIfInBounds j true) _ hcl' hfree' (.inl hpure') (ready_mono hr (Ne.symm hji)) hK.1 ?_)
          rw [Array.setIfInBounds_comm _ _ hji]
          exact hK.2
        · have h2 := qOp_put hoj hap (fun cs b => hsel i oi cs b hi) (fun cs b => hsel j oj cs b hoj) hy (h1.1 hjn)
          refine qOp_mono (fun a' h3 => ih (listed.setIfInBounds j true) a' hcl' hfree' (.inr fun k ok hk hkn hun => ?_) (ready_mono hr (Ne.symm hji)) h3.1 ?_) h2
          · refine hwait k ok hk hkn ?_
            by_cases hjk : j = k
            · subst hjk; exact hjun
            · rw [getD_set_ne true hjk] at hun; exact hun
          · rw [Array.setIfInBounds_comm _ _ hji]
            exact h3.2
      · rcases hpw with hpure | hwait
        · have h2 := wpOp_put hoj hap (fun cs b => hsel i oi cs b hi) (fun cs b => hsel j oj cs b hoj) (fun c a w h => absurd h (hQ c _ w)) hpure (h1.2 hjn w hw)
          refine wpOp_mono (fun a' w' h3 => ?_) h2
          refine wpAny_first hi hsel (fun c a w h => absurd h (hQ c _ w)) f (listed.setIfInBounds j true) a' w' hfree' (ready_mono hr (Ne.symm hji)) h3.1 ?_
          rw [Array.setIfInBounds_comm _ _ hji]
          exact h3.2
        · have h2 := waits_listed hcl F j (hwait j oj hoj hjn hjun) fun ok hok e he hb => by
            rw [hoj] at hok
            injection hok with hok
            subst hok
            exact hall e he hb
          rw [getD_both hun] at h2
          cases h2
def headC (md : Region.Mode) (ops : Array Oper) (n : Nat) (fin : Array Bool → Bool) : Nat → Nat → Array Bool → Bool
  | 0, _, listed => fin listed
  | f + 1, k, listed => (Region.ready md ops listed).contains k && Region.free md ops listed k &&
      (isPop ops k || (List.range ops.size).all fun j => decide (j < n) || listed.getD j true || waitsB md ops ops.size j k) && headC md ops n fin f (k + 1) (listed.setIfInBounds k true)
def mixC (md : Region.Mode) (ops : Array Oper) (n : Nat) : Bool :=
  Region.noSelect ops && decide (n ≤ ops.size) && headC md ops n (Region.seqB md ops (ops.size - n) n) n 0 (Array.replicate ops.size false)
theorem wpAnyC_lex {n g : Nat} {fin : Array Bool → Bool} {Q : Exit → Act → World → Prop} {Lq : Act → Prop} {w0 : World} (hw0 : C w0) (hQ : ∀ c a w, ¬ Q (.panic c) a w) (hsel : Region.noSelect ops = true)
    (hL : ∀ listed a, fin listed = true → Lq a → wpAnyM P md ops C n Q g listed a) :
    ∀ (l : List Oper) (k : Nat) (listed : Array Bool) (a : Act), closedL md ops listed → (∀ j, j < l.length → l[j]? = ops[k + j]?) → k + l.length = n →
    headC md ops n fin l.length k listed = true → wpQuiet P ops C Lq l a → wpAnyM P md ops C n Q (l.length + g) listed a
  | [], k, listed, a, _, _, hk, hB, h => by
    have : k = n := by simpa using hk
    rw [List.length_nil, Nat.zero_add]
    exact hL listed a (by simpa [headC] using hB) h
  | o :: l, k, listed, a, hcl, hl, hk, hB, h => by
    have h0 : ops[k]? = some o := by simpa using (hl 0 (by simp)).symm
    simp only [List.length_cons, headC, Bool.and_eq_true] at hB
    obtain ⟨⟨⟨hr, hf⟩, hp⟩, hB'⟩ := hB
    have hkn : k < n := by simp only [List.length_cons] at hk; omega
    have hr' : k ∈ Region.ready md ops listed := by simpa using hr
    have hst : qOp P ops C k (wpQuiet P ops C Lq l) a := by unfold qOp; simp only [h0]; exact h
    obtain ⟨v, hy, hK⟩ := yieldsIn_of_qOp h0 hst
    rw [List.length_cons, show l.length + 1 + g = (l.length + g) + 1 by omega]
    refine wpAnyC_first (F := ops.size) h0 (Region.noSelect_spec hsel) hQ hkn (l.length + g) listed a hcl (Region.free_spec h0 hf) ?_ hr' hy
      (wpAnyC_lex hw0 hQ hsel hL l (k + 1) _ _ (closed_set hcl hr') (fun j hj => by have := hl (j + 1) (by simp; omega); simpa [Nat.add_assoc, Nat.add_comm 1 j] using this) (by simp only [List.length_cons] at hk; omega) hB' hK)
    simp only [Bool.or_eq_true] at hp
    rcases hp with hp | hp
    · left
      unfold isPop at hp
      rw [h0] at hp
      exact pure_of_in hw0 hp hy
    · right
      intro j oj hoj hjn hun
      have h1 := List.all_eq_true.1 hp j (List.mem_range.2 (Array.getElem?_eq_some_iff.1 hoj).1)
      simp only [Bool.or_eq_true, decide_eq_true_eq, hun, Bool.false_eq_true, or_false] at h1
      rcases h1 with h1 | h1
      · omega
      · exact h1
theorem wp_region_C {id : Nat} {Q : Exit → Act → World → Prop} {a : Act} {w : World} {l : List Oper} (n : Nat) (hm : P.follows .mixedOrders = true) (hB : mixC .any l.toArray n = true)
    (hQ : ∀ c a w, ¬ Q (.panic c) a w) (hC : C { w with drawn := w.drawn + 1 })
    (h : wpQuiet P l.toArray C (fun a' => ∀ w', C w' → wpList P l.toArray Q (l.drop n) a' w') (l.take n) a) : (Code.region id l.toArray true).wp P Q a w := by
  simp only [mixC, Bool.and_eq_true, decide_eq_true_eq] at hB
  obtain ⟨⟨hsel, hn⟩, hmix⟩ := hB
  have hn' : n ≤ l.length := by simpa using hn
  have htl : (l.take n).length = n := by simp; omega
  have hdl : (l.drop n).length = l.toArray.size - n := by simp
  have H := wpAnyC_lex (md := .any) (g := l.toArray.size - n) (fin := Region.seqB .any l.toArray (l.toArray.size - n) n) (P := P) (ops := l.toArray) (C := C) (n := n) (Q := Q) hC hQ hsel (fun listed a' hs hLq => by
    have hall : ∀ w', C w' → wpAny P .any l.toArray Q (l.toArray.size - n) listed a' w' := fun w' hw' => by
      have := wpAny_of_seq (md := .any) (Q' := Q) (l.drop n) n listed a' w' (fun j => by simp [List.getElem?_drop]) (by rw [hdl]; exact hs) (hLq w' hw')
      rwa [hdl] at this
    have hge := seqB_ready hs
    generalize l.toArray.size - n = g at *
    cases g with
    | zero => exact ⟨by simpa [Region.seqB] using hs, fun w' hw' => (hall w' hw').2⟩
    | succ g => exact ⟨fun h0 w' hw' => (hall w' hw').1 h0, fun i hi => ⟨fun hlt => absurd (hge i hi) (Nat.not_le.2 hlt), fun _ w' hw' => (hall w' hw').2 i hi⟩⟩)
    (l.take n) 0 _ a (fun j oj _ hj => by rw [getD_replicate_false] at hj; cases hj) (fun j hj => by
      have hj' : j < n := by rw [htl] at hj; exact hj
      simp [hj']) (by simpa using htl) (by rw [htl]; exact hmix) h
  refine wp_region_any hm ?_
  have := wpAny_of_M _ _ _ _ hC H
  rw [htl, show n + (l.toArray.size - n) = l.toArray.size by simp; omega] at this
  exact this
end
/-! Tryz# The head by laws -/
@[irreducible] def XQ (Γ : Ctx) (ops : Array Oper) (H : Heap) (l : List Oper) (T : List TV) (K : List TV → Prop) : Prop :=
  ∀ (β : Nat → Nat) (w0 : World) (Q : Act → Prop) (a : Act), Rep Γ H β w0 → Holds H.length β T a.tmps → a.defers = [] → (∀ T' a', K T' → Holds H.length β T' a'.tmps → a'.defers = [] → Q a') → wpQuiet Γ.P ops (Rep Γ H β) Q l a
section
variable {Γ : Ctx} {ops : Array Oper} {H : Heap} {T T' : List TV} {K : List TV → Prop} {dst : Option Tmp} {op : Op} {ty : TypeId} {pos : String} {af : Array Edge} {j : Nat} {w : Bool} {r : List Oper}
theorem XQ_def {l : List Oper} : XQ Γ ops H l T K = ∀ (β : Nat → Nat) (w0 : World) (Q : Act → Prop) (a : Act), Rep Γ H β w0 → Holds H.length β T a.tmps → a.defers = [] → (∀ T' a', K T' → Holds H.length β T' a'.tmps → a'.defers = [] → Q a') → wpQuiet Γ.P ops (Rep Γ H β) Q l a := by unfold XQ; rfl
@[congr] theorem XQ_congr {l : List Oper} (h1 : T = T') : XQ Γ ops H l T K = XQ Γ ops H l T' K := by rw [h1]
theorem XQ_nil (h : K T) : XQ Γ ops H [] T K := by
  rw [XQ_def]
  exact fun β w0 Q a _ hT hd hQ => hQ _ _ h hT hd
theorem XQ_cons (h : xquiet Γ op (ev T) H fun v => XQ Γ ops H r (putT T dst v) K) : XQ Γ ops H (⟨dst, op, ty, pos, af, none⟩ :: r) T K := by
  rw [XQ_def]
  intro β w0 Q a hR hT hd hQ
  obtain ⟨v, hK, hv, hq⟩ := xquiet_at (o := ⟨dst, op, ty, pos, af, none⟩) h hT hR
  rw [XQ_def] at hK
  have hput : ∀ u, (a.put dst u).defers = [] := fun u => by cases dst <;> exact hd
  have hwant : Region.wanted (⟨dst, op, ty, pos, af, none⟩ : Oper) (yielded ops a.tmps) = true := by simp [Region.wanted]
  simp only [wpQuiet, hwant, if_true]
  exact ⟨v.conc β, hq, hK β w0 Q _ hR (hT.put (Nat.le_refl _) (.refl _ _) hv) (hput _) hQ⟩
theorem XQ_consG (h : xguard T (some ((ops[j]?).bind (·.dst), w)) (fun T => xquiet Γ op (ev T) H fun v => XQ Γ ops H r (putT T dst v) K) (fun T => XQ Γ ops H r (putT T dst undefT) K)) :
    XQ Γ ops H (⟨dst, op, ty, pos, af, some (j, w)⟩ :: r) T K := by
  rw [XQ_def]
  intro β w0 Q a hR hT hd hQ
  have hput : ∀ u, (a.put dst u).defers = [] := fun u => by cases dst <;> exact hd
  refine xguard_holds (ops := ops) (o := ⟨dst, op, ty, pos, af, some (j, w)⟩) h hT (fun T' hw hr hT' => ?_) (fun T' hw hr hT' => ?_)
  · obtain ⟨v, hK, hv, hq⟩ := xquiet_at (o := ⟨dst, op, ty, pos, af, some (j, w)⟩) hr hT' hR
    rw [XQ_def] at hK
    simp only [wpQuiet, hw, if_true]
    exact ⟨v.conc β, hq, hK β w0 Q _ hR (hT'.put (Nat.le_refl _) (.refl _ _) hv) (hput _) hQ⟩
  · rw [XQ_def] at hr
    simp only [wpQuiet, hw, Bool.false_eq_true, if_false]
    exact hr β w0 Q _ hR (hT'.put (Nat.le_refl _) (.refl _ _) (fun _ _ => rfl)) (hput _) hQ
theorem XQ_law {v : TV} (hs : Sound Γ op (ev T) H v .none) (h : XQ Γ ops H r (putT T dst v) K) : XQ Γ ops H (⟨dst, op, ty, pos, af, none⟩ :: r) T K := by
  rw [XQ_def] at h ⊢
  intro β w0 Q a hR hT hd hQ
  have hput : ∀ u, (a.put dst u).defers = [] := fun u => by cases dst <;> exact hd
  have hwant : Region.wanted (⟨dst, op, ty, pos, af, none⟩ : Oper) (yielded ops a.tmps) = true := by simp [Region.wanted]
  have hdo : ∀ w, Rep Γ H β w → ∀ β', Agrees H.length β β' → (execOp a.eval (⟨dst, op, ty, pos, af, none⟩ : Oper)).run Γ.P w = .ok (.value (v.conc β')) w := fun w hR β' h' =>
    hs _ β' a.eval w rfl (eval_ev (hT β' h')) (hR.agree h')
  have hv : ∀ β', Agrees H.length β β' → v.conc β' = v.conc β := fun β' h' => by
    have h1 := hdo w0 hR β (.refl _ _)
    rw [hdo w0 hR β' h'] at h1
    injection h1 with h1
    injection h1 with h1
  simp only [wpQuiet, hwant, if_true]
  refine ⟨v.conc β, fun w hw => ?_, h β w0 Q _ hR (hT.put (Nat.le_refl _) (.refl _ _) hv) (hput _) hQ⟩
  unfold Oper.quietAt
  rw [hdo w hw β (.refl _ _)]
  exact ⟨rfl, rfl⟩
theorem XR_law {H : Heap} {K : List TV → Heap → Prop} {v : TV} (hs : Sound Γ op (ev T) H v .none) (h : XR Γ ops r (putT T dst v) H K) : XR Γ ops (⟨dst, op, ty, pos, af, none⟩ :: r) T H K := by
  rw [XR_def] at h ⊢
  intro Q a w hst hK
  have hwant : Region.wanted (⟨dst, op, ty, pos, af, none⟩ : Oper) (yielded ops a.tmps) = true := by simp [Region.wanted]
  simp only [wpList, hwant, if_true]
  left
  obtain ⟨β, hT, hR, hd⟩ := hst
  have hput : ∀ u, (a.put dst u).defers = [] := fun u => by cases dst <;> exact hd
  have hdo : ∀ β', Agrees H.length β β' → (execOp a.eval (⟨dst, op, ty, pos, af, none⟩ : Oper)).run Γ.P w = .ok (.value (v.conc β')) w := fun β' h' =>
    hs _ β' a.eval w rfl (eval_ev (hT β' h')) (hR.agree h')
  have hv : ∀ β', Agrees H.length β β' → v.conc β' = v.conc β := fun β' h' => by
    have h1 := hdo β (.refl _ _)
    rw [hdo β' h'] at h1
    injection h1 with h1
    injection h1 with h1
  unfold Oper.wp
  rw [hdo β (.refl _ _)]
  exact h Q _ _ ⟨β, hT.put (Nat.le_refl _) (.refl _ _) hv, hR, hput _⟩ hK
theorem X_drawC {id : Nat} {l : List Oper} {Q : QX} (n : Nat) (hm : Γ.P.follows .mixedOrders = true) (hB : mixC .any l.toArray n = true)
    (h : XQ Γ l.toArray H (l.take n) T fun T => XR Γ l.toArray (l.drop n) T H fun T H => Q .normal T H) : XL Γ (.region id l.toArray true) T H Q := by
  rw [XL_eq]
  rw [XQ_def] at h
  intro a w ⟨β, hT, hR, hd⟩
  refine wp_mono (wp_region_C (C := Rep Γ H β) (Q := fun e a w => match e with | .normal => lift Γ Q .normal a w | _ => False) n hm hB (fun _ _ _ h => h) hR.drewQ ?_) fun e a w h => ?_
  · refine h β w _ a hR hT hd fun T' a' hK hT' hd' w' hw' => ?_
    rw [XR_def] at hK
    exact hK _ a' w' ⟨β, hT', hw', hd'⟩ fun T'' H'' a'' w'' hq hs => ⟨T'', H'', hq, hs⟩
  · cases e with
    | normal => exact h
    | _ => exact h.elim
end
end Go.Ab
/-
  Laws of operations: slices of arrays and of slices, arrays of slices, copy.
-/
namespace Go.Ab
open Go Go.RowKit
set_option linter.unusedSimpArgs false
set_option linter.unusedVariables false
def bnd (d : Nat) : Option TV → Option Nat
  | none => some d
  | some (.s (.v (.int _ i))) => if 0 ≤ i then some i.toNat else none
  | _ => none
def xslB (lo hi : Option Nat) (cap : Nat) (K : Nat → Nat → Prop) : Prop := match lo, hi with | some l, some h => (l ≤ h ∧ h ≤ cap) ∧ K l h | _, _ => False
def xslice (arr : Option (Nat × TypeId)) (slc : Option TypeId) (sz : TypeId → Nat) (x : TV) (lo hi : Option TV) (K : TV → Prop) : Prop :=
  match x with
  | .s (.p j off) => match arr with | some (n, e) => xslB (bnd 0 lo) (bnd n hi) n fun l h => K (.s (.sl j (if n = l then off else off + l * sz e) (h - l) (n - l))) | none => False
  | .s (.sl j off len cap) => match slc with | some e => xslB (bnd 0 lo) (bnd len hi) cap fun l h => K (.s (.sl j (if cap = l then off else off + l * sz e) (h - l) (cap - l))) | none => False
  | .s (.v (.slice a len cap)) => match slc with | some e => xslB (bnd 0 lo) (bnd len hi) cap fun l h => K (.s (.v (.slice (if cap = l then a else a.map (·.add (l * sz e))) (h - l) (cap - l)))) | none => False
  | _ => False
theorem run_bnds {P : Program} {isS : Bool} {len cap l h : Nat} {lo hi : Option TV} {β : Nat → Nat} {w : World} (hl : bnd 0 lo = some l) (hh : bnd len hi = some h) (h1 : l ≤ h) (h2 : h ≤ cap) :
    (Instr.sliceBounds isS len cap (lo.map (TV.conc β)) (hi.map (TV.conc β)) none).run P w = .ok (l, h, cap) w := by
  have hb : ∀ (d : Nat) (o : Option TV) (n : Nat), bnd d o = some n → (o = none ∧ n = d) ∨ ∃ k, o = some (.s (.v (.int k (n : Int)))) := by
    intro d o n hn
    unfold bnd at hn
    split at hn
    · injection hn with hn; exact .inl ⟨rfl, hn.symm⟩
    · rename_i k i
      split at hn
      · rename_i h0
        injection hn with hn
        exact .inr ⟨k, by rw [← hn, Int.toNat_of_nonneg h0]⟩
      · cases hn
    · cases hn
  unfold Instr.sliceBounds
  have hsb : ∀ (k : IntKind) (n m : Nat) (code : BoundsCode), n ≤ m → (Instr.sliceBound (.int k (n : Int)) m code).run P w = .ok n w := fun k n m code hnm => by
    unfold Instr.sliceBound
    simp [asIntOf, hnm]
  rcases hb _ _ _ hl with ⟨rfl, rfl⟩ | ⟨kl, rfl⟩ <;> rcases hb _ _ _ hh with ⟨rfl, rfl⟩ | ⟨kh, rfl⟩
  · simp
  · simp [conc_v, hsb _ _ _ _ h2]
  · simp [conc_v, hsb _ _ _ _ h1]
  · simp [conc_v, hsb _ _ _ _ h2, hsb _ _ _ _ h1]
theorem sound_slice {Γ : Ctx} {t : TypeId} {x : Operand} {lo hi : Option Operand} {E : Operand → TV} {H : Heap} {K : TV → Prop} (h : xslice (arrOf Γ.P t) (slcOf Γ.P t) (sz Γ.P) (E x) (lo.map E) (hi.map E) K) :
    ∃ v, K v ∧ Sound Γ (.slice t x lo hi none) E H v .none := by
  unfold xslice at h
  have hm : ∀ (o : Option Operand) (ρ : Operand → Value) (β : Nat → Nat), (∀ x, ρ x = (E x).conc β) → o.map ρ = (o.map E).map (TV.conc β) := fun o ρ β hρ => by
    cases o <;> simp [hρ]
  split at h
  · rename_i j off hx
    split at h
    · rename_i n e harr
      obtain ⟨hu, i, hi'⟩ := arrOf_spec harr
      unfold xslB at h
      split at h
      · rename_i l hh hl hh'
        obtain ⟨⟨h1, h2⟩, hK⟩ := h
        refine ⟨_, hK, fun o β ρ w ho hρ hR => ?_⟩
        have hb := run_bnds (P := Γ.P) (isS := false) (β := β) (w := w) hl hh' h1 h2
        simp only [Does, execOp, ho, hρ, hx, conc_p, conc_sl, Instr.sliceAt, Sem.run_bind, run_underlying hu, Result.andThen_ok, Instr.sureAddr, Sem.run_pure, hm lo ρ β hρ, hm hi ρ β hρ, Option.map_none]
        simp only [hb, Result.andThen_ok, sizeOf, typeInfo, Sem.run_bind, run_program, hi', Sem.run_pure]
        by_cases hnl : n = l
        · simp [hnl]
        · simp [hnl, sz, Program.cellsOf, hi', Addr.add_mid]
      · exact h.elim
    · exact h.elim
  · rename_i j off len cap hx
    split at h
    · rename_i e hs
      obtain ⟨hu, i, hi'⟩ := slcOf_spec hs
      unfold xslB at h
      split at h
      · rename_i l hh hl hh'
        obtain ⟨⟨h1, h2⟩, hK⟩ := h
        refine ⟨_, hK, fun o β ρ w ho hρ hR => ?_⟩
        have hb := run_bnds (P := Γ.P) (isS := true) (β := β) (w := w) hl hh' h1 h2
        simp only [Does, execOp, ho, hρ, hx, conc_p, conc_sl, Instr.sliceAt, Instr.slice, Sem.run_bind, run_underlying hu, Result.andThen_ok, Sem.run_pure, hm lo ρ β hρ, hm hi ρ β hρ, Option.map_none]
        simp only [hb, Result.andThen_ok, sizeOf, typeInfo, Sem.run_bind, run_program, hi', Sem.run_pure]
        by_cases hnl : cap = l
        · simp [hnl]
        · simp [hnl, sz, Program.cellsOf, hi', Addr.add_mid]
      · exact h.elim
    · exact h.elim
  · rename_i a len cap hx
    split at h
    · rename_i e hs
      obtain ⟨hu, i, hi'⟩ := slcOf_spec hs
      unfold xslB at h
      split at h
      · rename_i l hh hl hh'
        obtain ⟨⟨h1, h2⟩, hK⟩ := h
        refine ⟨_, hK, fun o β ρ w ho hρ hR => ?_⟩
        have hb := run_bnds (P := Γ.P) (isS := true) (β := β) (w := w) hl hh' h1 h2
        simp only [Does, execOp, ho, hρ, hx, conc_v, Instr.sliceAt, Instr.slice, Sem.run_bind, run_underlying hu, Result.andThen_ok, Sem.run_pure, hm lo ρ β hρ, hm hi ρ β hρ, Option.map_none]
        simp only [hb, Result.andThen_ok, sizeOf, typeInfo, Sem.run_bind, run_program, hi', Sem.run_pure]
        simp [sz, Program.cellsOf, hi']
      · exact h.elim
    · exact h.elim
  · exact h.elim
def xarrAt (arr : Option (Nat × TypeId)) (x : TV) (K : TV → Prop) : Prop :=
  match arr with
  | some (n, _) => match x with
    | .s (.sl j off len _) => n ≤ len ∧ K (.s (.p j off))
    | .s (.v (.slice a len _)) => n ≤ len ∧ K (.s (.v (.pointer a)))
    | _ => False
  | none => False
theorem sound_arrAt {Γ : Ctx} {t : TypeId} {x : Operand} {E : Operand → TV} {H : Heap} {K : TV → Prop} (h : xarrAt (arrOf Γ.P t) (E x) K) :
    ∃ v, K v ∧ Sound Γ (.sliceToArrayPointer t x) E H v .none := by
  unfold xarrAt at h
  split at h
  · rename_i n e harr
    obtain ⟨hu, i, hi'⟩ := arrOf_spec harr
    split at h
    · rename_i j off len cap hx
      refine ⟨_, h.2, fun o β ρ w ho hρ hR => ?_⟩
      simp only [Does, execOp, ho, hρ, hx, conc_p, conc_sl, Sem.run_bind, run_arrayAt w t e n _ len cap hu h.1, Result.andThen_ok, Sem.run_pure]
    · rename_i a len cap hx
      refine ⟨_, h.2, fun o β ρ w ho hρ hR => ?_⟩
      simp only [Does, execOp, ho, hρ, hx, conc_v, Sem.run_bind, run_arrayAt w t e n _ len cap hu h.1, Result.andThen_ok, Sem.run_pure]
    · exact h.elim
  · exact h.elim
section
variable {Γ : Ctx} {ops : Array Oper} {H : Heap} {T : List TV} {dst : Option Tmp} {ty : TypeId} {pos : String} {af : Array Edge} {r : List Oper}
theorem XQ_slice {K : List TV → Prop} {t : TypeId} {x : Operand} {lo hi : Option Operand} (h : xslice (arrOf Γ.P t) (slcOf Γ.P t) (sz Γ.P) (ev T x) (lo.map (ev T)) (hi.map (ev T)) fun v => XQ Γ ops H r (putT T dst v) K) :
    XQ Γ ops H (⟨dst, .slice t x lo hi none, ty, pos, af, none⟩ :: r) T K := by
  obtain ⟨v, hK, hs⟩ := sound_slice (H := H) h
  exact XQ_law hs hK
theorem XQ_arrAt {K : List TV → Prop} {t : TypeId} {x : Operand} (h : xarrAt (arrOf Γ.P t) (ev T x) fun v => XQ Γ ops H r (putT T dst v) K) :
    XQ Γ ops H (⟨dst, .sliceToArrayPointer t x, ty, pos, af, none⟩ :: r) T K := by
  obtain ⟨v, hK, hs⟩ := sound_arrAt (H := H) h
  exact XQ_law hs hK
theorem XR_slice {K : List TV → Heap → Prop} {t : TypeId} {x : Operand} {lo hi : Option Operand} (h : xslice (arrOf Γ.P t) (slcOf Γ.P t) (sz Γ.P) (ev T x) (lo.map (ev T)) (hi.map (ev T)) fun v => XR Γ ops r (putT T dst v) H K) :
    XR Γ ops (⟨dst, .slice t x lo hi none, ty, pos, af, none⟩ :: r) T H K := by
  obtain ⟨v, hK, hs⟩ := sound_slice (H := H) h
  exact XR_law hs hK
theorem XR_arrAt {K : List TV → Heap → Prop} {t : TypeId} {x : Operand} (h : xarrAt (arrOf Γ.P t) (ev T x) fun v => XR Γ ops r (putT T dst v) H K) :
    XR Γ ops (⟨dst, .sliceToArrayPointer t x, ty, pos, af, none⟩ :: r) T H K := by
  obtain ⟨v, hK, hs⟩ := sound_arrAt (H := H) h
  exact XR_law hs hK
def xcopy (Γ : Ctx) (e : Option TypeId) (d s : TV) (H : Heap) (K : TV → Heap → Prop) : Prop :=
  match e with
  | some e => match d, s with
    | .s (.sl j o n _), .s (.sl k o' m _) => ∃ b b', H[j]? = some b ∧ H[k]? = some b' ∧ (szO Γ.P e = some 1 ∧ o + min m n ≤ b.cs.length ∧ o' + min m n ≤ b'.cs.length ∧ oneAll (part b'.cs o' (min m n))) ∧
        K (.s (.v (.int .i64 ((min m n : Nat) : Int)))) (putH H j (b.cs.take o ++ part b'.cs o' (min m n) ++ b.cs.drop (o + min m n)))
    | _, _ => False
  | none => False
theorem XR_copy {K : List TV → Heap → Prop} {t t' : TypeId} {d s : Operand} (h : xcopy Γ (slcOf Γ.P t) (ev T d) (ev T s) H fun v H' => XR Γ ops r (putT T dst v) H' K) :
    XR Γ ops (⟨dst, .call ⟨.builtin .copy, #[d, s], #[t, t']⟩, ty, pos, af, none⟩ :: r) T H K := by
  rw [XR_def]
  intro Q a w hs hK
  have hwant : Region.wanted (⟨dst, .call ⟨.builtin .copy, #[d, s], #[t, t']⟩, ty, pos, af, none⟩ : Oper) (yielded ops a.tmps) = true := by simp [Region.wanted]
  simp only [wpList, hwant, if_true]
  left
  obtain ⟨β, hT, hR, hd⟩ := hs
  have hput : ∀ u, (a.put dst u).defers = [] := fun u => by cases dst <;> exact hd
  have hev := eval_ev (a := a) (hT β (.refl _ _))
  unfold xcopy at h
  split at h
  · rename_i e he
    obtain ⟨hu, _⟩ := slcOf_spec he
    split at h
    · rename_i j o n c k o' m c' hdd hss
      obtain ⟨b, b', hb, hb', ⟨hsz, hfit, hfit', hone⟩, hX⟩ := h
      have hblk := hR.blk β (.refl _ _) j b hb
      simp only [AB.conc] at hblk
      have hpl := part_length hfit'
      have hr := run_copy_row (P := Γ.P) w t t' ty e (β j) o n c ⟨β k, o', none⟩ m c' _ b.t ((part b'.cs o' (min m n)).map (SV.conc β)) hu hsz hblk (by rw [List.length_map, hpl]) (part_cells hR hb' _ _) (by simp only [List.length_map, hpl, List.size_toArray]; exact hfit)
        (fun u hu' => by
          simp only [List.mem_map] at hu'
          obtain ⟨y, hy, rfl⟩ := hu'
          have := hone y hy
          cases y with
          | v x => exact this
          | p j off => rfl
          | sl j off len cap => rfl)
      have hR' := Rep.put (cs := b.cs.take o ++ part b'.cs o' (min m n) ++ b.cs.drop (o + min m n)) hR hb (by simp [hpl]; omega)
        (fun y hy => by
          rcases List.mem_append.1 hy with hy | hy
          · rcases List.mem_append.1 hy with hy | hy
            · exact hR.ok hb y (List.mem_of_mem_take hy)
            · exact part_ok (hR.ok hb') y hy
          · exact hR.ok hb y (List.mem_of_mem_drop hy))
      rw [XR_def] at hX
      unfold Oper.wp
      have hex : (execOp a.eval (⟨dst, .call ⟨.builtin .copy, #[d, s], #[t, t']⟩, ty, pos, af, none⟩ : Oper)).run Γ.P w = .ok (.value (.int .i64 ((min m n : Nat) : Int))) (w.setRow (β j) (((b.cs.take o ++ part b'.cs o' (min m n) ++ b.cs.drop (o + min m n)).map (SV.conc β)).toArray)) := by
        unfold execOp
        simp only [resolve, invoke, builtin, Sem.run_bind, Sem.run_pure, Result.andThen_ok, List.map_toArray, List.map_cons, List.map_nil, hev, hdd, hss, conc_sl, hr]
        simp [goInt, hpl, List.map_take, List.map_drop]
      rw [hex]
      exact hX Q _ _ ⟨β, (hT.mono (by rw [putH_length]; exact Nat.le_refl _)).put (Nat.le_refl _) (.refl _ _) (fun _ _ => rfl), hR', hput _⟩ hK
    · exact h.elim
  · exact h.elim
variable {K : TV → Prop} {KH : TV → Heap → Prop} {arr : Option (Nat × TypeId)} {slc : Option TypeId} {sz : TypeId → Nat} {lo hi : Option TV} {j off len cap n : Nat} {e : TypeId}
theorem bnd_none {d : Nat} : bnd d none = some d := rfl
theorem bnd_int {d : Nat} {k : IntKind} {i : Int} (h : 0 ≤ i) : bnd d (some (.s (.v (.int k i)))) = some i.toNat := if_pos h
theorem xslB_some {l h cap : Nat} {K : Nat → Nat → Prop} : xslB (some l) (some h) cap K = ((l ≤ h ∧ h ≤ cap) ∧ K l h) := rfl
theorem xslice_p : xslice (some (n, e)) slc sz (.s (.p j off)) lo hi K = xslB (bnd 0 lo) (bnd n hi) n fun l h => K (.s (.sl j (if n = l then off else off + l * sz e) (h - l) (n - l))) := rfl
theorem xslice_sl : xslice arr (some e) sz (.s (.sl j off len cap)) lo hi K = xslB (bnd 0 lo) (bnd len hi) cap fun l h => K (.s (.sl j (if cap = l then off else off + l * sz e) (h - l) (cap - l))) := rfl
theorem xslice_v {a : Option Addr} : xslice arr (some e) sz (.s (.v (.slice a len cap))) lo hi K = xslB (bnd 0 lo) (bnd len hi) cap fun l h => K (.s (.v (.slice (if cap = l then a else a.map (·.add (l * sz e))) (h - l) (cap - l)))) := rfl
theorem xarrAt_sl : xarrAt (some (n, e)) (.s (.sl j off len cap)) K = (n ≤ len ∧ K (.s (.p j off))) := rfl
theorem xarrAt_v {a : Option Addr} : xarrAt (some (n, e)) (.s (.v (.slice a len cap))) K = (n ≤ len ∧ K (.s (.v (.pointer a)))) := rfl
@[congr] theorem xslice_congr {arr' : Option (Nat × TypeId)} {slc' : Option TypeId} {x x' : TV} {lo' hi' : Option TV} (h1 : arr = arr') (h2 : slc = slc') (h3 : x = x') (h4 : lo = lo') (h5 : hi = hi') : xslice arr slc sz x lo hi K = xslice arr' slc' sz x' lo' hi' K := by rw [h1, h2, h3, h4, h5]
@[congr] theorem xarrAt_congr {arr' : Option (Nat × TypeId)} {x x' : TV} (h1 : arr = arr') (h3 : x = x') : xarrAt arr x K = xarrAt arr' x' K := by rw [h1, h3]
@[congr] theorem xcopy_congr {s s' d d' : TV} {e e' : Option TypeId} (h1 : e = e') (h2 : d = d') (h3 : s = s') : xcopy Γ e d s H KH = xcopy Γ e' d' s' H KH := by rw [h1, h2, h3]
theorem xcopy_some {o m n c o' c' k : Nat} {b b' : AB} (hb : H[j]? = some b) (hb' : H[k]? = some b') (h : (szO Γ.P e = some 1 ∧ o + min m n ≤ b.cs.length ∧ o' + min m n ≤ b'.cs.length ∧ oneAll (part b'.cs o' (min m n))) ∧
        KH (.s (.v (.int .i64 ((min m n : Nat) : Int)))) (putH H j (b.cs.take o ++ part b'.cs o' (min m n) ++ b.cs.drop (o + min m n)))) : xcopy Γ (some e) (.s (.sl j o n c)) (.s (.sl k o' m c')) H KH := ⟨b, b', hb, hb', h⟩
end
end Go.Ab
/-
  Calls that may change one block of ours, told of their arguments alone.
-/
namespace Go.Ab
open Go Go.RowKit
set_option linter.unusedSimpArgs false
set_option linter.unusedVariables false
theorem SV.ren_ok0 {ρ : Nat → Nat} {x : SV} (h : x.ok 0) : x.ren ρ = x := by
  cases x with
  | v x => rfl
  | p j o => exact absurd h (Nat.not_lt_zero j)
  | sl j o n c => exact absurd h (Nat.not_lt_zero j)
theorem SV.rens_ok0 {ρ : Nat → Nat} {l : List SV} (h : ∀ x ∈ l, x.ok 0) : l.map (SV.ren ρ) = l := by
  exact (List.map_congr_left (g := id) fun x hx => SV.ren_ok0 (h x hx)).trans (List.map_id l)
theorem AV.ren_ok0 {ρ : Nat → Nat} {x : AV} (h : x.ok 0) : x.ren ρ = x := by
  cases x with
  | s x => exact congrArg AV.s (SV.ren_ok0 h)
  | agg l => exact congrArg AV.agg (SV.rens_ok0 h)
theorem TV.ren_ok0 {ρ : Nat → Nat} {x : TV} (h : x.ok 0) : x.ren ρ = x := by
  cases x with
  | s x => exact congrArg TV.s (SV.ren_ok0 h)
  | agg l => exact congrArg TV.agg (SV.rens_ok0 h)
  | tup l =>
    refine congrArg TV.tup ?_
    exact (List.map_congr_left (g := id) fun x hx => AV.ren_ok0 (h x hx)).trans (List.map_id l)
theorem TV.rens_ok0 {ρ : Nat → Nat} {l : List TV} (h : ∀ x ∈ l, x.ok 0) : l.map (TV.ren ρ) = l := by
  exact (List.map_congr_left (g := id) fun x hx => TV.ren_ok0 (h x hx)).trans (List.map_id l)
section
variable {Γ : Ctx} {H : Heap} {M : List Nat} {f : FuncId} {args : List TV} {b b' : AB} {r : TV} {j o : Nat}
theorem xcall_own1 {K : TV → Heap → Prop} (hc : callable Γ.P f = true) (h : OwnC Γ.P f (.s (.p 0 o) :: args) [b] [b'] r) (ha : ∀ x ∈ args, x.ok 0) (hb : H[j]? = some b)
    (hv : ∀ x ∈ b.cs, x.ok 0) (hv' : ∀ x ∈ b'.cs, x.ok 0) (ht : b'.t = b.t) (hK : K r (putH H j b'.cs)) : xcallF Γ H f (.s (.p j o) :: args) K :=
  xcall_own hc h (by rw [List.map_cons, TV.rens_ok0 ha]; rfl) hb hv hv' ht hK
theorem xcallV_own1 {K : TV → Prop} (hc : callable Γ.P f = true) (h : OwnC Γ.P f (.s (.p 0 o) :: args) [b] [b] r) (ha : ∀ x ∈ args, x.ok 0) (hb : H[j]? = some b)
    (hv : ∀ x ∈ b.cs, x.ok 0) (hK : K r) : xcallV Γ H f (.s (.p j o) :: args) K :=
  xcallV_own hc h (by rw [List.map_cons, TV.rens_ok0 ha]; rfl) hb hv hK
end
end Go.Ab
/-
  What is known of the world outside our blocks; functions that may let some blocks turn; blocks that are let go.
-/
namespace Go.Ab
open Go Go.RowKit
set_option linter.unusedSimpArgs false
set_option linter.unusedVariables false
def Kn (Γ : Ctx) (p : Nat → World → Prop) : Prop := ∀ w, FrP Γ w → p Γ.B w
def Stays (V : Evo) (p : Nat → World → Prop) : Prop := ∀ B w w', p B w → Ext V B w w' → p B w'
def ctxE (P : Program) (V : Evo) (w : World) (B : Nat) : Ctx := { P := P, W := w, B := B, own := fun _ => False, ev := V, n0 := 0, β0 := fun _ => 0 }
theorem ctxE_P {P : Program} {V : Evo} {w : World} {B : Nat} : (ctxE P V w B).P = P := rfl
theorem ctxE_TM {P : Program} {V : Evo} {w : World} {B : Nat} {e : TypeId} : (ctxE P V w B).ev.TM e = V.TM e := rfl
theorem repE (P : Program) (V : Evo) (w : World) (B : Nat) (β : Nat → Nat) : Rep (ctxE P V w B) [] β w :=
  ⟨⟨Nat.le_refl _, fun j hj => absurd hj (Nat.not_lt_zero j)⟩, ⟨rfl, rfl, rfl, Nat.le_refl _, fun _ _ => .inr (.inl rfl)⟩, fun i j hi => absurd hi (Nat.not_lt_zero i), fun j hj => absurd hj (Nat.not_lt_zero j), fun j b hb => by simp at hb, fun _ _ j b hb => by simp at hb⟩
theorem ext_of_repE {P : Program} {V : Evo} {w w' : World} {B : Nat} {H : Heap} {β : Nat → Nat} (h : Rep (ctxE P V w B) H β w') : Ext V B w w' :=
  ⟨h.fr.os, h.fr.tape, h.fr.output, h.fr.size, fun k hk => (h.fr.blk k hk).resolve_left fun h => h⟩
theorem Kn.entry {P : Program} {V : Evo} {w : World} {B : Nat} {p : Nat → World → Prop} (hs : Stays V p) (hp : p B w) : Kn (ctxE P V w B) p := fun w' h => hs B w w' hp ⟨h.1, h.2.1, h.2.2.1, h.2.2.2.1, fun k hk => (h.2.2.2.2 k hk).resolve_left fun h => h⟩
theorem Kn.and {Γ : Ctx} {p q : Nat → World → Prop} (h : Kn Γ p) (h' : Kn Γ q) : Kn Γ fun B w => p B w ∧ q B w := fun w hR => ⟨h w hR, h' w hR⟩
theorem Kn.left {Γ : Ctx} {p q : Nat → World → Prop} (h : Kn Γ fun B w => p B w ∧ q B w) : Kn Γ p := fun w hR => (h w hR).1
theorem Kn.right {Γ : Ctx} {p q : Nat → World → Prop} (h : Kn Γ fun B w => p B w ∧ q B w) : Kn Γ q := fun w hR => (h w hR).2
theorem Stays.and {V : Evo} {p q : Nat → World → Prop} (h : Stays V p) (h' : Stays V q) : Stays V fun B w => p B w ∧ q B w := fun B w w' ⟨hp, hq⟩ hx => ⟨h B w w' hp hx, h' B w w' hq hx⟩
def EvC (V : Evo) (P : Program) (f : FuncId) (args : List TV) (pre : Nat → World → Prop) (r : TV) : Prop :=
  ∀ B w, pre B w → Calls P f (args.map (TV.conc fun _ => 0)).toArray w fun e w' => (∀ β, e = .returned (r.conc β)) ∧ Ext V B w w'
theorem conc_ok0 {args : List TV} (ha : ∀ x ∈ args, x.ok 0) (β β' : Nat → Nat) : args.map (TV.conc β) = args.map (TV.conc β') :=
  List.map_congr_left fun x hx => TV.conc_ok (ha x hx) fun j hj => absurd hj (Nat.not_lt_zero j)
theorem evC_of {V : Evo} {P : Program} {f : FuncId} {fn : Func} {c : Code} {args : List TV} {pre : Nat → World → Prop} {r : TV} (hf : P.funcs[f]? = some fn) (hb : fn.body = some c) (ha : ∀ x ∈ args, x.ok 0) (hr : r.ok 0)
    (h : ∀ B w, pre B w → X (ctxE P V w B) c (args ++ List.replicate (fn.ntmps - args.length) undefT) [] (retQ P fn.results.toList fun v _ => v = r)) : EvC V P f args pre r := by
  intro B w hp
  refine (calls_of_X (Γ := ctxE P V w B) hf hb (repE P V w B _) ha (h B w hp)).mono ?_
  rintro e w' ⟨v, H', β', rfl, hR, he⟩
  refine ⟨fun β'' => ?_, ext_of_repE hR⟩
  rw [he β' (.refl _ _)]
  rw [TV.conc_ok hr (β := β'') (β' := β') (fun j hj => absurd hj (Nat.not_lt_zero j))]
theorem EvC.cal {Γ : Ctx} {H : Heap} {f : FuncId} {args : List TV} {pre : Nat → World → Prop} {r : TV} (h : EvC Γ.ev Γ.P f args pre r) (ha : ∀ x ∈ args, x.ok 0) (hp : Kn Γ pre) : CalP Γ H f args r := by
  intro β w hR
  rw [conc_ok0 ha β fun _ => 0]
  exact (h Γ.B w (hp w hR.fr.to)).mono fun _ _ ⟨he, hx⟩ => ⟨fun β' _ => he β', hx⟩
section
variable {Γ : Ctx} {H : Heap} {M : List Nat} {f : FuncId} {args : List TV} {pre : Nat → World → Prop} {r : TV}
theorem xcall_ev {K : TV → Heap → Prop} (hc : callable Γ.P f = true) (h : EvC Γ.ev Γ.P f args pre r) (ha : ∀ x ∈ args, x.ok 0) (hp : Kn Γ pre) (hK : K r H) : xcallF Γ H f args K := xcall_pure hc (h.cal ha hp) hK
theorem xcallV_ev {K : TV → Prop} (hc : callable Γ.P f = true) (h : EvC Γ.ev Γ.P f args pre r) (ha : ∀ x ∈ args, x.ok 0) (hp : Kn Γ pre) (hK : K r) : xcallV Γ H f args K := xcallV_pure hc (h.cal ha hp) hK
theorem xcallM_ev {K : TV → Prop} (hc : callable Γ.P f = true) (h : EvC Γ.ev Γ.P f args pre r) (ha : ∀ x ∈ args, x.ok 0) (hp : Kn Γ pre) (hK : K r) : xcallM Γ H M f args K := .inl ⟨hc, r, fun H' _ => h.cal ha hp, hK⟩
end
theorem PureM.ev {V : Evo} {P : Program} {f : FuncId} {args : List TV} {pre : World → Prop} {r : TV} (h : PureM P f args pre r) : EvC V P f args (fun _ w => pre w) r := fun B w hp => (h w hp).mono fun _ _ ⟨he, hb⟩ => ⟨he, Ext.of_below hb⟩
theorem OwnC.ev {V : Evo} {P : Program} {f : FuncId} {o : Nat} {args : List TV} {pre : Nat → World → Prop} {r : TV} {k : Nat} (ha : ∀ x ∈ args, x.ok 0)
    (h : ∀ B w, pre B w → ∃ b b', OwnC P f (.s (.p 0 o) :: args) [b] [b'] r ∧ (∀ x ∈ b.cs, x.ok 0) ∧ w.heap[k]? = some (b.conc fun _ => k) ∧ (b = b' ∨ (B ≤ k ∧ V.E (b.conc fun _ => k) (b'.conc fun _ => k)))) :
    EvC V P f (.s (.v (.pointer (some ⟨k, o, none⟩))) :: args) pre r := by
  intro B w hp
  obtain ⟨b, b', hO, hv, hw, hE⟩ := h B w hp
  have hl : liesAt [b] (fun _ => k) w := by
    refine ⟨fun p q hp hq _ => by simp at hp hq; omega, fun j c hc => ?_⟩
    cases j with
    | zero => simp only [List.getElem?_cons_zero, Option.some.injEq] at hc; subst hc; exact hw
    | succ j => simp at hc
  have h1 := hO (fun _ => k) w hl
  rw [List.map_cons, conc_ok0 ha (fun _ => k) fun _ => 0] at h1
  refine h1.mono ?_
  rintro e w' ⟨he, hl', hos, htape, hout, hsize, hsame⟩
  refine ⟨he, hos, htape, hout, hsize, fun j hj => ?_⟩
  by_cases hjk : j = k
  · subst hjk
    have h2 : w'.heap[j]? = some (b'.conc fun _ => j) := hl'.2 0 b' rfl
    rcases hE with rfl | ⟨hB, hE⟩
    · exact .inl (h2.trans hw.symm)
    · exact .inr ⟨hB, _, _, hw, h2, hE⟩
  · exact .inl (hsame j hj fun _ _ => hjk)
/-! Tryz# Blocks that are let go -/
def posL : List Nat → Nat → Option Nat
  | [], _ => none
  | i :: r, j => if j = i then some 0 else (posL r j).map (· + 1)
theorem posL_nil {j : Nat} : posL [] j = none := rfl
theorem posL_cons {i j : Nat} {r : List Nat} : posL (i :: r) j = if j = i then some 0 else (posL r j).map (· + 1) := rfl
theorem posL_some : ∀ {L : List Nat} {j i : Nat}, posL L j = some i → L[i]? = some j
  | [], _, _, h => by cases h
  | a :: r, j, i, h => by
    rw [posL_cons] at h
    split at h
    · rename_i hj; injection h with h; subst h; simp [hj]
    · obtain ⟨k, hk, rfl⟩ := Option.map_eq_some_iff.1 h
      simpa using posL_some hk
def fzP (β : Nat → Nat) (o : Nat) : Nat → Option Nat → SV
  | _, some i => .p i o
  | j, none => .v (.pointer (some ⟨β j, o, none⟩))
def fzS (β : Nat → Nat) (o n c : Nat) : Nat → Option Nat → SV
  | _, some i => .sl i o n c
  | j, none => .v (.slice (some ⟨β j, o, none⟩) n c)
def SV.fz (L : List Nat) (β : Nat → Nat) : SV → SV
  | .v x => .v x
  | .p j o => fzP β o j (posL L j)
  | .sl j o n c => fzS β o n c j (posL L j)
def AV.fz (L : List Nat) (β : Nat → Nat) : AV → AV
  | .s x => .s (x.fz L β)
  | .agg l => .agg (l.map (SV.fz L β))
def TV.fz (L : List Nat) (β : Nat → Nat) : TV → TV
  | .s x => .s (x.fz L β)
  | .agg l => .agg (l.map (SV.fz L β))
  | .tup l => .tup (l.map (AV.fz L β))
theorem SV.fz_conc {L : List Nat} {β β' : Nat → Nat} (h : ∀ i j, L[i]? = some j → β' i = β j) (x : SV) : (x.fz L β).conc β' = x.conc β := by
  cases x with
  | v x => rfl
  | p j o =>
    simp only [SV.fz]
    cases hp : posL L j with
    | none => rfl
    | some i => simp only [fzP, SV.conc, h i j (posL_some hp)]
  | sl j o n c =>
    simp only [SV.fz]
    cases hp : posL L j with
    | none => rfl
    | some i => simp only [fzS, SV.conc, h i j (posL_some hp)]
theorem AV.fz_conc {L : List Nat} {β β' : Nat → Nat} (h : ∀ i j, L[i]? = some j → β' i = β j) (x : AV) : (x.fz L β).conc β' = x.conc β := by
  cases x with
  | s x => exact SV.fz_conc h x
  | agg l => simp [AV.fz, AV.conc, Function.comp_def, SV.fz_conc h]
theorem TV.fz_conc {L : List Nat} {β β' : Nat → Nat} (h : ∀ i j, L[i]? = some j → β' i = β j) (x : TV) : (x.fz L β).conc β' = x.conc β := by
  cases x with
  | s x => exact SV.fz_conc h x
  | agg l => simp [TV.fz, TV.conc, Function.comp_def, SV.fz_conc h]
  | tup l => simp [TV.fz, TV.conc, Function.comp_def, AV.fz_conc h]
def fzH (L : List Nat) (β : Nat → Nat) (H : Heap) : List Nat → Heap
  | [] => []
  | i :: r => (match H[i]? with | some b => [⟨b.t, b.cs.map (SV.fz L β)⟩] | none => []) ++ fzH L β H r
theorem fzH_spec {L : List Nat} {β : Nat → Nat} {H : Heap} : ∀ (l : List Nat), (∀ i ∈ l, i < H.length) → (fzH L β H l).length = l.length ∧ ∀ (k : Nat) (b : AB), (fzH L β H l)[k]? = some b → ∃ i b0, l[k]? = some i ∧ H[i]? = some b0 ∧ b = ⟨b0.t, b0.cs.map (SV.fz L β)⟩
  | [], _ => ⟨rfl, fun k b h => by simp [fzH] at h⟩
  | i :: r, hl => by
    obtain ⟨h1, h2⟩ := fzH_spec (L := L) (β := β) (H := H) r fun j hj => hl j (List.mem_cons_of_mem _ hj)
    have hi := hl i (List.mem_cons_self ..)
    simp only [fzH, List.getElem?_eq_getElem hi, List.singleton_append]
    refine ⟨by simp [h1], fun k b hb => ?_⟩
    cases k with
    | zero =>
      simp only [List.getElem?_cons_zero, Option.some.injEq] at hb
      exact ⟨i, H[i], rfl, List.getElem?_eq_getElem hi, hb.symm⟩
    | succ k =>
      simp only [List.getElem?_cons_succ] at hb ⊢
      exact h2 k b hb
def Ctx.after (Γ : Ctx) (V : Evo) (B : Nat) (w : World) (β : Nat → Nat) (L : List Nat) : Ctx := { P := Γ.P, W := w, B := B, own := fun k => ∃ i ∈ L, k = β i, ev := V, n0 := 0, β0 := β }
section
variable {Γ : Ctx} {V : Evo} {B : Nat} {L : List Nat} {H : Heap} {β : Nat → Nat} {w : World}
theorem FrP.back (hR : Rep Γ H β w) (hlt : ∀ i ∈ L, i < H.length) (hB : (V = Γ.ev ∧ B = Γ.B) ∨ Γ.W.heap.size ≤ B) {w' : World} (h : FrP (Γ.after V B w β L) w') : FrP Γ w' := by
  obtain ⟨hos, htape, hout, hsize, hblk⟩ := h
  refine ⟨hos.trans hR.fr.os, htape.trans hR.fr.tape, hout.trans hR.fr.output, Nat.le_trans hR.fr.size hsize, fun k hk => ?_⟩
  have hk2 : k < w.heap.size := Nat.lt_of_lt_of_le hk hR.fr.size
  rcases hblk k hk2 with ⟨i, hi, hki⟩ | h1
  · left
    rcases hR.lie i (hlt i hi) with h2 | h2
    · omega
    · rw [hki]; exact h2
  · rcases hR.fr.blk k hk with h2 | h2
    · exact .inl h2
    · right
      rcases hB with ⟨rfl, rfl⟩ | hB
      · exact h2.trans h1
      · rcases h1 with h1 | ⟨h3, _⟩
        · exact h2.trans (.inl h1)
        · exact absurd (show B ≤ k from h3) (by omega)
theorem Rep.back (hR : Rep Γ H β w) (hlt : ∀ i ∈ L, i < H.length) (hn : Γ.n0 = 0) (hB : (V = Γ.ev ∧ B = Γ.B) ∨ Γ.W.heap.size ≤ B) (hTM : ∀ t, Γ.ev.TM t → V.TM t) {H' : Heap} {β' : Nat → Nat} {w' : World} (h : Rep (Γ.after V B w β L) H' β' w') : Rep Γ H' β' w' := by
  obtain ⟨hos, htape, hout, hsize, hblk⟩ := FrP.back hR hlt hB h.fr.to
  refine ⟨⟨by rw [hn]; exact Nat.zero_le _, fun j hj => absurd hj (by rw [hn]; exact Nat.not_lt_zero j)⟩, ⟨hos, htape, hout, hsize, hblk⟩, h.inj, fun j hj => ?_, fun j b hb ht => h.typ j b hb (hTM _ ht), h.blk⟩
  rcases h.lie j hj with h1 | ⟨i, hi, h1⟩
  · exact .inl (Nat.le_trans hR.fr.size h1)
  · rw [h1]; exact hR.lie i (hlt i hi)
theorem Kn.after {p : Nat → World → Prop} (hp : Kn Γ p) (hR : Rep Γ H β w) (hlt : ∀ i ∈ L, i < H.length) : Kn (Γ.after Γ.ev Γ.B w β L) p :=
  fun _ h => hp _ (FrP.back hR hlt (.inl ⟨rfl, rfl⟩) h)
theorem gone (hR : Rep Γ H β w) {j : Nat} {b : AB} (hb : H[j]? = some b) (hj : j ∉ L) (hlt : ∀ i ∈ L, i < H.length) {w' : World} (h : FrP (Γ.after V B w β L) w') :
    w'.heap[β j]? = some (b.conc β) ∨ (B ≤ β j ∧ ∃ o, w'.heap[β j]? = some o ∧ V.E (b.conc β) o) := by
  have h0 := hR.blk β (.refl _ _) j b hb
  rcases h.2.2.2.2 (β j) (Array.getElem?_eq_some_iff.1 h0).1 with ⟨i, hi, hki⟩ | h1 | ⟨h2, o, o', h3, h4, h5⟩
  · have := hR.inj j i (List.getElem?_eq_some_iff.1 hb).1 (hlt i hi) hki
    exact absurd hi (this ▸ hj)
  · exact .inl (h1.trans h0)
  · refine .inr ⟨h2, o', h4, ?_⟩
    have h3' : w.heap[β j]? = some o := h3
    rw [h0] at h3'
    injection h3' with h3'
    rw [h3']
    exact h5
theorem rep_after (hR : Rep Γ H β w) (hL : L.Nodup) (hlt : ∀ i ∈ L, i < H.length) (hLT : ∀ i ∈ L, ∀ b, H[i]? = some b → ¬ V.TM b.t) : Rep (Γ.after V B w β L) (fzH L β H L) (β ∘ lk L) w := by
  obtain ⟨h1, h2⟩ := fzH_spec (L := L) (β := β) (H := H) L hlt
  have hlk : ∀ i j, L[i]? = some j → lk L i = j := fun i j h => by simp [lk, List.getD_eq_getElem?_getD, h]
  refine ⟨⟨Nat.zero_le _, fun j hj => absurd hj (Nat.not_lt_zero j)⟩, ⟨rfl, rfl, rfl, Nat.le_refl _, fun _ _ => .inr (.inl rfl)⟩, fun p q hp hq hpq => ?_, fun k hk => ?_, fun k b hb => ?_, fun β'' h'' k b hb => ?_⟩
  · rw [h1] at hp hq
    have ep := hlk p _ (List.getElem?_eq_getElem hp)
    have eq := hlk q _ (List.getElem?_eq_getElem hq)
    simp only [Function.comp_apply, ep, eq] at hpq
    exact nodup_inj hL hp hq (hR.inj _ _ (hlt _ (List.getElem_mem hp)) (hlt _ (List.getElem_mem hq)) hpq)
  · rw [h1] at hk
    exact .inr ⟨L[k], List.getElem_mem hk, by simp only [Function.comp_apply, hlk k _ (List.getElem?_eq_getElem hk)]⟩
  · obtain ⟨i, b0, hi, hb0, rfl⟩ := h2 k b hb
    exact hLT i (List.mem_of_getElem? hi) b0 hb0
  · obtain ⟨i, b0, hi, hb0, rfl⟩ := h2 k b hb
    simp only [Function.comp_apply, hlk k i hi]
    rw [hR.blk β (.refl _ _) i b0 hb0]
    simp only [AB.conc, List.map_map]
    congr 2
    refine congrArg List.toArray (List.map_congr_left fun x _ => ?_)
    refine (SV.fz_conc (fun p q hpq => ?_) x).symm
    rw [h'' p (by rw [h1]; exact (List.getElem?_eq_some_iff.1 hpq).1)]
    simp only [Function.comp_apply, hlk p q hpq]
theorem X_rebase {c : Code} {T : List TV} {Q : QX} (V : Evo) (B : Nat) (L : List Nat) (hL : L.Nodup) (hlt : ∀ i ∈ L, i < H.length) (hn : Γ.n0 = 0) (hB : (V = Γ.ev ∧ B = Γ.B) ∨ Γ.W.heap.size ≤ B) (hTM : ∀ t, Γ.ev.TM t → V.TM t)
    (hLT : ∀ i ∈ L, ∀ b, H[i]? = some b → ¬ V.TM b.t) (h : ∀ β w, Rep Γ H β w → X (Γ.after V B w β L) c (T.map (TV.fz L β)) (fzH L β H L) Q) : X Γ c T H Q := by
  intro a w ⟨β, hT, hR, hd⟩
  obtain ⟨h1, h2⟩ := fzH_spec (L := L) (β := β) (H := H) L hlt
  have hlk : ∀ i j, L[i]? = some j → lk L i = j := fun i j h => by simp [lk, List.getD_eq_getElem?_getD, h]
  refine wp_mono (h β w hR a w ⟨β ∘ lk L, fun β'' h'' => ?_, rep_after hR hL hlt hLT, hd⟩) fun e a' w' ⟨T', H', hq, β', hT', hR', hd'⟩ => ⟨T', H', hq, β', hT', hR.back hlt hn hB hTM hR', hd'⟩
  rw [hT β (.refl _ _), List.map_map]
  refine congrArg List.toArray (List.map_congr_left fun x _ => ?_)
  refine (TV.fz_conc (fun p q hpq => ?_) x).symm
  rw [h'' p (by rw [h1]; exact (List.getElem?_eq_some_iff.1 hpq).1)]
  simp only [Function.comp_apply, hlk p q hpq]
end
end Go.Ab
/-
  The calls' laws once more, for a walk that goes by itself: the program, and what may turn, apart.
-/
namespace Go.Ab
open Go Go.RowKit
set_option linter.unusedSimpArgs false
set_option linter.unusedVariables false
section
variable {Γ : Ctx} {P : Program} {V : Evo} {H : Heap} {M : List Nat} {f : FuncId} {args : List TV} {b b' : AB} {r : TV} {j o : Nat} {pre : Nat → World → Prop} {K : TV → Heap → Prop} {KV : TV → Prop}
theorem yF_pure (h : PureC P f args r) (hP : Γ.P = P) (hc : callable P f = true) (hK : K r H) : xcallF Γ H f args K := by subst hP; exact xcall_pure hc (PureC.cal h) hK
theorem yV_pure (h : PureC P f args r) (hP : Γ.P = P) (hc : callable P f = true) (hK : KV r) : xcallV Γ H f args KV := by subst hP; exact xcallV_pure hc (PureC.cal h) hK
theorem yM_pure (h : PureC P f args r) (hP : Γ.P = P) (hc : callable P f = true) (hK : KV r) : xcallM Γ H M f args KV := by subst hP; exact xcallM_pure hc h hK
theorem yF_own (h : OwnC P f (.s (.p 0 o) :: args) [b] [b'] r) (hP : Γ.P = P) (hb : H[j]? = some b) (hc : callable P f = true) (ha : ∀ x ∈ args, x.ok 0)
    (hv : ∀ x ∈ b.cs, x.ok 0) (hv' : ∀ x ∈ b'.cs, x.ok 0) (ht : b'.t = b.t) (hK : K r (putH H j b'.cs)) : xcallF Γ H f (.s (.p j o) :: args) K := by subst hP; exact xcall_own1 hc h ha hb hv hv' ht hK
theorem yV_own (h : OwnC P f (.s (.p 0 o) :: args) [b] [b] r) (hP : Γ.P = P) (hb : H[j]? = some b) (hc : callable P f = true) (ha : ∀ x ∈ args, x.ok 0)
    (hv : ∀ x ∈ b.cs, x.ok 0) (hK : KV r) : xcallV Γ H f (.s (.p j o) :: args) KV := by subst hP; exact xcallV_own1 hc h ha hb hv hK
theorem yF_ev (h : EvC V P f args pre r) (hP : Γ.P = P) (hV : Γ.ev = V) (hc : callable P f = true) (ha : ∀ x ∈ args, x.ok 0) (hp : Kn Γ pre) (hK : K r H) : xcallF Γ H f args K := by subst hP; subst hV; exact xcall_ev hc h ha hp hK
theorem yV_ev (h : EvC V P f args pre r) (hP : Γ.P = P) (hV : Γ.ev = V) (hc : callable P f = true) (ha : ∀ x ∈ args, x.ok 0) (hp : Kn Γ pre) (hK : KV r) : xcallV Γ H f args KV := by subst hP; subst hV; exact xcallV_ev hc h ha hp hK
theorem yM_ev (h : EvC V P f args pre r) (hP : Γ.P = P) (hV : Γ.ev = V) (hc : callable P f = true) (ha : ∀ x ∈ args, x.ok 0) (hp : Kn Γ pre) (hK : KV r) : xcallM Γ H M f args KV := by subst hP; subst hV; exact xcallM_ev hc h ha hp hK
theorem yF_new {R : TV → Heap → Prop} (h : NewC P f args R) (hP : Γ.P = P) (hc : callable P f = true) (hev : ∀ t, ¬ Γ.ev.TM t)
    (hK : ∀ v H', R v H' → K (v.ren (· + H.length)) (H ++ H')) : xcallF Γ H f args K := by subst hP; exact xcall_new hc h hev hK
end
end Go.Ab
/-
  Our blocks in another order.
-/
namespace Go.Ab
open Go Go.RowKit
set_option linter.unusedSimpArgs false
set_option linter.unusedVariables false
def pickH (H : Heap) : List Nat → Heap
  | [] => []
  | i :: r => (match H[i]? with | some b => [b] | none => []) ++ pickH H r
theorem pickH_spec {H : Heap} : ∀ (l : List Nat), (∀ i ∈ l, i < H.length) → (pickH H l).length = l.length ∧ ∀ (k : Nat) (b : AB), (pickH H l)[k]? = some b → ∃ i, l[k]? = some i ∧ H[i]? = some b
  | [], _ => ⟨rfl, fun k b h => by simp [pickH] at h⟩
  | i :: r, hl => by
    obtain ⟨h1, h2⟩ := pickH_spec (H := H) r fun j hj => hl j (List.mem_cons_of_mem _ hj)
    have hi := hl i (List.mem_cons_self ..)
    simp only [pickH, List.getElem?_eq_getElem hi, List.singleton_append]
    refine ⟨by simp [h1], fun k b hb => ?_⟩
    cases k with
    | zero =>
      simp only [List.getElem?_cons_zero, Option.some.injEq] at hb
      exact ⟨i, rfl, by rw [List.getElem?_eq_getElem hi, hb]⟩
    | succ k =>
      simp only [List.getElem?_cons_succ] at hb ⊢
      exact h2 k b hb
theorem X_perm {Γ : Ctx} {c : Code} {T : List TV} {H : Heap} {Q : QX} (L : List Nat) (hn : Γ.n0 = 0) (hlen : L.length = H.length) (hinv : ∀ k, k < H.length → lk L (lk L k) = k) (hlt : ∀ i ∈ L, i < H.length) (hcs : ∀ b ∈ H, ∀ x ∈ b.cs, x.ok 0)
    (h : X Γ c (T.map (TV.ren (lk L))) (pickH H L) Q) : X Γ c T H Q := by
  intro a w hs
  refine h a w ?_
  obtain ⟨oT, _, _⟩ := hs.oks
  obtain ⟨β, hT, hR, hd⟩ := hs
  obtain ⟨h1, h2⟩ := pickH_spec (H := H) L hlt
  have hlk : ∀ i j, L[i]? = some j → lk L i = j := fun i j h => by simp [lk, List.getD_eq_getElem?_getD, h]
  have hl2 : ∀ k, k < H.length → lk L k < H.length := fun k hk => by
    rw [hlk k _ (List.getElem?_eq_getElem (by omega))]
    exact hlt _ (List.getElem_mem _)
  refine ⟨β ∘ lk L, fun β'' h'' => ?_, ⟨⟨by rw [hn]; exact Nat.zero_le _, fun j hj => absurd hj (by rw [hn]; exact Nat.not_lt_zero j)⟩, hR.fr, fun p q hp hq hpq => ?_, fun k hk => ?_, fun k b hb => ?_, fun β'' h'' k b hb => ?_⟩, hd⟩
  · rw [hT β (.refl _ _), List.map_map]
    refine congrArg List.toArray (List.map_congr_left fun x hx => ?_)
    simp only [Function.comp_apply, TV.conc_ren]
    refine (TV.conc_ok (oT x hx) fun j hj => ?_).symm
    simp only [Function.comp_apply]
    rw [h'' (lk L j) (by rw [h1, hlen]; exact hl2 j hj)]
    simp only [Function.comp_apply, hinv j hj]
  · rw [h1, hlen] at hp hq
    have h3 := hR.inj _ _ (hl2 p hp) (hl2 q hq) hpq
    rw [← hinv p hp, h3, hinv q hq]
  · rw [h1, hlen] at hk
    exact hR.lie _ (hl2 k hk)
  · obtain ⟨i, hi, hb0⟩ := h2 k b hb
    exact hR.typ i b hb0
  · obtain ⟨i, hi, hb0⟩ := h2 k b hb
    simp only [Function.comp_apply, hlk k i hi]
    rw [hR.blk β (.refl _ _) i b hb0]
    exact congrArg some (conc_vals (fun x hx => hcs b (List.mem_of_getElem? hb0) x hx) _ _)
theorem X_permL {Γ : Ctx} {c : Code} {T : List TV} {H : Heap} {Q : QX} (L : List Nat) (hn : Γ.n0 = 0) (hlen : L.length = H.length) (hinv : ∀ k, k < L.length → lk L (lk L k) = k) (hlt : ∀ i ∈ L, i < L.length) (hcs : ∀ b ∈ H, ∀ x ∈ b.cs, x.ok 0)
    (h : XL Γ c (T.map (TV.ren (lk L))) (pickH H L) Q) : XL Γ c T H Q := by
  rw [XL_eq] at h ⊢
  exact X_perm L hn hlen (by rw [← hlen]; exact hinv) (by rw [← hlen]; exact hlt) hcs h
theorem ren_undef {ρ : Nat → Nat} : TV.ren ρ undefT = undefT := rfl
theorem ren_tupE {ρ : Nat → Nat} : TV.ren ρ (.tup []) = .tup [] := rfl
theorem ren_tup {ρ : Nat → Nat} {l : List AV} : TV.ren ρ (.tup l) = .tup (l.map (AV.ren ρ)) := rfl
theorem avren_v {ρ : Nat → Nat} {x : Value} : AV.ren ρ (.s (.v x)) = .s (.v x) := rfl
theorem avren_p {ρ : Nat → Nat} {j o : Nat} : AV.ren ρ (.s (.p j o)) = .s (.p (ρ j) o) := rfl
theorem pickH_nil {H : Heap} : pickH H [] = [] := rfl
def consH (b : Option AB) (H : Heap) : Heap := match b with | some b => b :: H | none => H
theorem consH_some {b : AB} {H : Heap} : consH (some b) H = b :: H := rfl
theorem pickH_cons {H : Heap} {i : Nat} {r : List Nat} : pickH H (i :: r) = consH H[i]? (pickH H r) := by
  simp only [pickH]
  cases H[i]? <;> rfl
theorem lk_def {L : List Nat} {k : Nat} : lk L k = L.getD k k := rfl
section
variable {n : Nat} {a : TV} {l : List TV} {x : SV} {s : List SV} {y : AV} {v : List AV}
theorem okT_nil : (∀ x ∈ ([] : List TV), x.ok n) = True := by simp
theorem okT_cons : (∀ x ∈ a :: l, x.ok n) = (a.ok n ∧ ∀ x ∈ l, x.ok n) := by simp
theorem okS_nil : (∀ x ∈ ([] : List SV), x.ok n) = True := by simp
theorem okS_cons : (∀ z ∈ x :: s, z.ok n) = (x.ok n ∧ ∀ z ∈ s, z.ok n) := by simp
theorem okA_nil : (∀ x ∈ ([] : List AV), x.ok n) = True := by simp
theorem okA_cons : (∀ z ∈ y :: v, z.ok n) = (y.ok n ∧ ∀ z ∈ v, z.ok n) := by simp
end
end Go.Ab
