/-
  A statement whose order is open: n operations that are quiet in a family of worlds; then operations up to m, that may come among them and leave the family be (new blocks); the rest waits for all and goes in its order, by laws of its own.
-/
import Derived.Test.YthniflakjkbpiaaDoorAb27
import Derived.Test.YthniflakjkbpiaaDoorKB
namespace Go.Ab
open Go Go.RowKit
set_option linter.unusedSimpArgs false
set_option linter.unusedVariables false

section
variable {P : Program} {ops : Array Oper} {md : Region.Mode} {σ : Type} {D : σ → World → Prop}

def wpAnyH (P : Program) (md : Region.Mode) (ops : Array Oper) (D : σ → World → Prop) (n m : Nat) (Q : Exit → Act → World → Prop) : Nat → Array Bool → σ → Act → Prop
  | 0, listed, s, a => Region.ready md ops listed = [] ∧ ∀ w, D s w → Q .normal a w
  | f + 1, listed, s, a =>
    (Region.ready md ops listed = [] → ∀ w, D s w → Q .normal a w) ∧
    ∀ i ∈ Region.ready md ops listed, (i < n → qOp P ops (D s) i (wpAnyH P md ops D n m Q f (listed.setIfInBounds i true) s) a) ∧
      (n ≤ i → i < m → ∀ w, D s w → wpOp P ops Q i (fun a' w' => ∃ s', D s' w' ∧ wpAnyH P md ops D n m Q f (listed.setIfInBounds i true) s' a') a w) ∧
      (n ≤ i → m ≤ i → ∀ w, D s w → wpOp P ops Q i (wpAny P md ops Q f (listed.setIfInBounds i true)) a w)

theorem wpAny_of_H {n m : Nat} {Q : Exit → Act → World → Prop} : ∀ (f : Nat) (listed : Array Bool) (s : σ) (a : Act) (w : World), D s w → wpAnyH P md ops D n m Q f listed s a → wpAny P md ops Q f listed a w
  | 0, _, _, _, w, hw, h => ⟨h.1, h.2 w hw⟩
  | f + 1, listed, s, a, w, hw, h => ⟨fun h0 => h.1 h0 w hw, fun i hi => by
      rcases Nat.lt_or_ge i n with hlt | hge
      · exact wpOp_of_qOp hw (fun a' w' hw' h' => wpAny_of_H f _ s a' w' hw' h') ((h.2 i hi).1 hlt)
      · rcases Nat.lt_or_ge i m with hlt | hge2
        · exact wpOp_mono (fun a' w' ⟨s', hs', h'⟩ => wpAny_of_H f _ s' a' w' hs' h') ((h.2 i hi).2.1 hge hlt w hw)
        · exact (h.2 i hi).2.2 hge hge2 w hw⟩

theorem wpAnyH_first {n m i F : Nat} {oi : Oper} {v : Value} {Q : Exit → Act → World → Prop} (hi : ops[i]? = some oi) (hsel : ∀ (j : Nat) (o : Oper) cs b, ops[j]? = some o → o.op ≠ .select cs b)
    (hQ : ∀ c a w, ¬ Q (.panic c) a w) (hin : i < n) (hwait : ∀ j oj, ops[j]? = some oj → m ≤ j → waitsB md ops F j i = true) :
    ∀ (f : Nat) (listed : Array Bool) (s : σ) (a : Act), closedL md ops listed →
      (∀ j oj, ops[j]? = some oj → j ≠ i → listed.getD j true = false → (∀ e ∈ oj.after, Region.binds md e = true → e.on ≠ i) → oi.apart ops oj = true) →
      i ∈ Region.ready md ops listed → YG P ops D oi v a →
      wpAnyH P md ops D n m Q f (listed.setIfInBounds i true) s (a.put oi.dst v) → wpAnyH P md ops D n m Q (f + 1) listed s a := by
  intro f
  induction f with
  | zero =>
    intro listed s a _ _ hr hy H
    refine ⟨fun h => (by rw [h] at hr; cases hr), fun j hj => ?_⟩
    by_cases hji : j = i
    · subst hji; exact ⟨fun _ => (hy s).qOp hi H, fun h => absurd hin (Nat.not_lt.2 h), fun h => absurd hin (Nat.not_lt.2 h)⟩
    · have := ready_mono hj hji
      rw [H.1] at this
      cases this
  | succ f ih =>
    intro listed s a hcl hfree hr hy H
    have hun := (mem_ready.1 hr).1
    refine ⟨fun h => (by rw [h] at hr; cases hr), fun j hj => ?_⟩
    by_cases hji : j = i
    · subst hji; exact ⟨fun _ => (hy s).qOp hi H, fun h => absurd hin (Nat.not_lt.2 h), fun h => absurd hin (Nat.not_lt.2 h)⟩
    · have h1 := H.2 j (ready_mono hj hji)
      have hcl' := closed_set hcl hj
      obtain ⟨hjun, oj, hoj, hall⟩ := mem_ready.1 hj
      have hnot : ∀ e ∈ oj.after, Region.binds md e = true → e.on ≠ i := fun e he hb heq => by
        have h1 := hall e he hb
        rw [heq, getD_both hun] at h1
        cases h1
      have hap := hfree j oj hoj hji hjun hnot
      have hfree' : ∀ k ok, ops[k]? = some ok → k ≠ i → (listed.setIfInBounds j true).getD k true = false →
          (∀ e ∈ ok.after, Region.binds md e = true → e.on ≠ i) → oi.apart ops ok = true := fun k ok hk hki hun hno => by
        refine hfree k ok hk hki ?_ hno
        by_cases hjk : j = k
        · subst hjk; exact hjun
        · rw [getD_set_ne true hjk] at hun; exact hun
      obtain ⟨e1, e2, e3⟩ := Oper.apart_spec hap
      refine ⟨fun hjn => ?_, fun hjn hjm w hw => ?_, fun hjn hjm w hw => ?_⟩
      · have h2 := qOp_put hoj hap (fun cs b => hsel i oi cs b hi) (fun cs b => hsel j oj cs b hoj) (hy s) (h1.1 hjn)
        obtain ⟨u, hyj, hK⟩ := yieldsIn_of_qOp hoj h2
        have hy' : YG P ops D oi v (a.put oj.dst u) := hy.of_same (execOp_put oi (fun cs b => hsel i oi cs b hi) a oj.dst u e3) (wanted_put oi a oj.dst u e3)
        refine hyj.qOp hoj (ih (listed.setIfInBounds j true) s _ hcl' hfree' (ready_mono hr (Ne.symm hji)) hy' ?_)
        rw [Array.setIfInBounds_comm _ _ hji]
        exact hK.2
      · have h2 := wpOp_putG hoj hap (fun cs b => hsel i oi cs b hi) (fun cs b => hsel j oj cs b hoj) (fun c a w h => absurd h (hQ c _ w)) hy (h1.2.1 hjn hjm w hw)
        refine wpOp_mono (fun a' w' ⟨hy', s', hs', h3⟩ => ⟨s', hs', ih (listed.setIfInBounds j true) s' a' hcl' hfree' (ready_mono hr (Ne.symm hji)) hy' ?_⟩) h2
        rw [Array.setIfInBounds_comm _ _ hji]
        exact h3
      · have h2 := waits_listed hcl F j (hwait j oj hoj hjm) fun ok hok e he hb => by
          rw [hoj] at hok
          injection hok with hok
          subst hok
          exact hall e he hb
        rw [getD_both hun] at h2
        cases h2

def mixH (md : Region.Mode) (ops : Array Oper) (n m : Nat) : Bool :=
  Region.noSelect ops && decide (n ≤ m) && decide (m ≤ ops.size) && ((List.range ops.size).all fun j => decide (j < m) || (List.range n).all fun k => waitsB md ops ops.size j k) &&
    headG md ops (fun listed => Region.seqB md ops (ops.size - n) n listed) n 0 (Array.replicate ops.size false)

theorem wpAnyH_lex {n m g : Nat} {fin : Array Bool → Bool} {Q : Exit → Act → World → Prop} {Lq : Act → Prop} {s : σ} (hQ : ∀ c a w, ¬ Q (.panic c) a w) (hsel : Region.noSelect ops = true)
    (hwait : ∀ j oj, ops[j]? = some oj → m ≤ j → ∀ k, k < n → waitsB md ops ops.size j k = true)
    (hL : ∀ listed a, fin listed = true → Lq a → wpAnyH P md ops D n m Q g listed s a) :
    ∀ (l : List Oper) (k : Nat) (listed : Array Bool) (a : Act), closedL md ops listed → (∀ j, j < l.length → l[j]? = ops[k + j]?) → k + l.length = n →
    headG md ops fin l.length k listed = true → wpQuietG P ops D Lq l a → wpAnyH P md ops D n m Q (l.length + g) listed s a
  | [], k, listed, a, _, _, hk, hB, h => by
    rw [List.length_nil, Nat.zero_add]
    exact hL listed a (by simpa [headG] using hB) h
  | o :: l, k, listed, a, hcl, hl, hk, hB, h => by
    have h0 : ops[k]? = some o := by simpa using (hl 0 (by simp)).symm
    simp only [List.length_cons, headG, Bool.and_eq_true] at hB
    obtain ⟨⟨hr, hf⟩, hB'⟩ := hB
    have hkn : k < n := by simp only [List.length_cons] at hk; omega
    have hr' : k ∈ Region.ready md ops listed := by simpa using hr
    have hst : ∃ v, YG P ops D o v a ∧ wpQuietG P ops D Lq l (a.put o.dst v) := by
      simp only [wpQuietG] at h
      split at h
      · rename_i hw
        obtain ⟨v, hv, hK⟩ := h
        exact ⟨v, fun s => .inl ⟨hw, hv s⟩, hK⟩
      · rename_i hw
        exact ⟨undef, fun s => .inr ⟨by simpa using hw, rfl⟩, h⟩
    obtain ⟨v, hy, hK⟩ := hst
    rw [List.length_cons, show l.length + 1 + g = (l.length + g) + 1 by omega]
    exact wpAnyH_first (F := ops.size) h0 (Region.noSelect_spec hsel) hQ hkn (fun j oj hj hm => hwait j oj hj hm k hkn) (l.length + g) listed s a hcl (Region.free_spec h0 hf) hr' hy
      (wpAnyH_lex hQ hsel hwait hL l (k + 1) _ _ (closed_set hcl hr') (fun j hj => by have := hl (j + 1) (by simp; omega); simpa [Nat.add_assoc, Nat.add_comm 1 j] using this) (by simp only [List.length_cons] at hk; omega) hB' hK)

/-- The middle part, one after the other. -/
def wpSeqD (P : Program) (ops : Array Oper) (D : σ → World → Prop) (Q : Exit → Act → World → Prop) (fin : Act → World → Prop) : List Nat → σ → Act → Prop
  | [], s, a => ∀ w, D s w → fin a w
  | i :: r, s, a => ∀ w, D s w → wpOp P ops Q i (fun a' w' => ∃ s', D s' w' ∧ wpSeqD P ops D Q fin r s' a') a w

theorem wpAnyH_of_seq {n m : Nat} {Q : Exit → Act → World → Prop} {L : List Oper} (hL : ∀ j, L[j]? = ops[m + j]?) (hLl : m + L.length = ops.size) (hnm : n ≤ m) : ∀ (is : List Nat) (k : Nat) (listed : Array Bool) (s : σ) (a : Act), is = List.range' k is.length → k + is.length = m → n ≤ k → (∃ w, D s w) →
    Region.seqB md ops (ops.size - k) k listed = true → wpSeqD P ops D Q (wpList P ops Q L) is s a → wpAnyH P md ops D n m Q (ops.size - k) listed s a
  | [], k, listed, s, a, _, hk, hn, ⟨w0, hw0⟩, hB, h => by
    have hkm : k = m := by simpa using hk
    subst hkm
    have hg : ops.size - k = L.length := by omega
    rw [hg] at hB ⊢
    have hall : ∀ w, D s w → wpAny P md ops Q L.length listed a w := fun w hw => wpAny_of_seq L k listed a w hL hB (h w hw)
    have hge := seqB_ready hB
    generalize L.length = g at *
    cases g with
    | zero => exact ⟨(hall w0 hw0).1, fun w hw => (hall w hw).2⟩
    | succ g => exact ⟨fun h0 w hw => (hall w hw).1 h0, fun i hi => ⟨fun hlt => absurd (hge i hi) (by omega), fun _ hlt => absurd (hge i hi) (by omega), fun _ _ w hw => (hall w hw).2 i hi⟩⟩
  | i :: is, k, listed, s, a, his, hk, hn, hex, hB, h => by
    have hik : i = k := by rw [List.length_cons, List.range'_succ] at his; exact (List.cons.inj his).1
    subst hik
    have his' : is = List.range' (i + 1) is.length := by rw [List.length_cons, List.range'_succ] at his; exact (List.cons.inj his).2
    have hlt : i < ops.size := by simp only [List.length_cons] at hk; omega
    have hg : ops.size - i = (ops.size - (i + 1)) + 1 := by omega
    rw [hg] at hB ⊢
    simp only [Region.seqB, Bool.and_eq_true, decide_eq_true_eq] at hB
    refine ⟨fun h1 => (by rw [hB.1] at h1; cases h1), fun j hj => ?_⟩
    rw [hB.1] at hj
    have hji : j = i := by simpa using hj
    subst hji
    refine ⟨fun hlt => absurd hn (by omega), fun _ _ w hw => ?_, fun _ hge => absurd hge (by simp only [List.length_cons] at hk; omega)⟩
    exact wpOp_mono (fun a' w' ⟨s', hs', h'⟩ => ⟨s', hs', wpAnyH_of_seq hL hLl hnm is (j + 1) _ s' a' his' (by simp only [List.length_cons] at hk; omega) (by omega) ⟨w', hs'⟩ hB.2 h'⟩) (h w hw)

theorem wp_region_H {id : Nat} {Q : Exit → Act → World → Prop} {a : Act} {w : World} {l : List Oper} (n m : Nat) (s : σ) (hm : P.follows .mixedOrders = true) (hB : mixH .any l.toArray n m = true)
    (hQ : ∀ c a w, ¬ Q (.panic c) a w) (hC : D s { w with drawn := w.drawn + 1 })
    (h : wpQuietG P l.toArray D (fun a' => wpSeqD P l.toArray D Q (wpList P l.toArray Q (l.drop m)) (List.range' n (m - n)) s a') (l.take n) a) : (Code.region id l.toArray true).wp P Q a w := by
  simp only [mixH, Bool.and_eq_true, decide_eq_true_eq, List.all_eq_true, List.mem_range, Bool.or_eq_true] at hB
  obtain ⟨⟨⟨⟨hsel, hnm⟩, hms⟩, hwt⟩, hmix⟩ := hB
  have hms' : m ≤ l.length := by simpa using hms
  have htl : (l.take n).length = n := by simp; omega
  have H := wpAnyH_lex (md := .any) (m := m) (g := l.toArray.size - n) (fin := fun listed => Region.seqB .any l.toArray (l.toArray.size - n) n listed) (P := P) (ops := l.toArray) (D := D) (n := n) (Q := Q) (s := s) hQ hsel
    (fun j oj hj hmj k hk => by
      rcases hwt j (Array.getElem?_eq_some_iff.1 hj).1 with h1 | h1
      · omega
      · exact h1 k hk)
    (fun listed a' hs hLq => wpAnyH_of_seq (L := l.drop m) (fun j => by simp [List.getElem?_drop]) (by simp; omega) hnm (List.range' n (m - n)) n listed s a' (by simp) (by simp; omega) (Nat.le_refl _) ⟨_, hC⟩ hs hLq)
    (l.take n) 0 _ a (fun j oj _ hj => by rw [getD_replicate_false] at hj; cases hj) (fun j hj => by
      have hj' : j < n := by rw [htl] at hj; exact hj
      simp [hj']) (by simpa using htl) (by rw [htl]; exact hmix) h
  refine wp_region_any hm ?_
  have := wpAny_of_H _ _ _ _ _ hC H
  rw [htl, show n + (l.toArray.size - n) = l.toArray.size by simp; omega] at this
  exact this
end

/-! Tryd# Abstractly -/
/-- The middle part: new blocks, stores to what is masked; then the rest. -/
def xMid (Γ : Ctx) (ops : Array Oper) (H0 : Heap) (M : List Nat) (L : List Oper) (K : List TV → Heap → Prop) : List Nat → List TV → Heap → Prop
  | [], T, H => XR Γ ops L T H K
  | i :: r, T, H => match ops[i]? with | some o => o.guard = none ∧ xop Γ o.op (ev T) H fun v e => famL M 0 H0 (e.app H) ∧ xMid Γ ops H0 M L K r (putT T o.dst v) (e.app H) | none => False
theorem xMid_wp {Γ : Ctx} {ops : Array Oper} {H0 : Heap} {β0 : Nat → Nat} {M : List Nat} {L : List Oper} {Q : Exit → Act → World → Prop} {K : List TV → Heap → Prop} (hK : ∀ T' H' a' w', K T' H' → St Γ T' H' a' w' → Q .normal a' w') :
    ∀ (is : List Nat) {T : List TV} {H : Heap} {β : Nat → Nat} {a : Act}, xMid Γ ops H0 M L K is T H → Agrees H0.length β0 β → H0.length ≤ H.length → Holds H.length β T a.tmps → a.defers = [] → wpSeqD Γ.P ops (famD Γ H0 β0 M) Q (wpList Γ.P ops Q L) is (H, β) a
  | [], _, _, β, _, h, _, _, hT, hd => fun w hw => by
    simp only [xMid] at h
    rw [XR_def] at h
    exact h Q _ w ⟨β, hT, hw.2.2, hd⟩ hK
  | i :: r, T, H, β, a, h, hag, hle, hT, hd => by
    intro w hw
    simp only [xMid] at h
    unfold wpOp
    split at h
    · rename_i o ho
      obtain ⟨hg, hx⟩ := h
      have hwant : Region.wanted o (yielded ops a.tmps) = true := by simp [Region.wanted, hg]
      simp only [ho, hwant, if_true]
      refine .inl ?_
      obtain ⟨v, e, ⟨hfam, hKv⟩, hsd⟩ := xop_sound hx
      have hput : ∀ u, (a.put o.dst u).defers = [] := fun u => by cases o.dst <;> exact hd
      have hR := hw.2.2
      obtain ⟨u, w', β', hr, hag', hlen, hR', hv⟩ := Does.leaves (fun β' h' => hsd o β' a.eval w rfl (eval_ev (hT β' h')) (hR.agree h')) hR
      have hfin : ∃ s', famD Γ H0 β0 M s' w' ∧ wpSeqD Γ.P ops (famD Γ H0 β0 M) Q (wpList Γ.P ops Q L) r s' (a.put o.dst u) :=
        ⟨(e.app H, β'), ⟨hfam, hag.trans (hag'.mono hle), hR'⟩, xMid_wp hK r hKv (hag.trans (hag'.mono hle)) (Nat.le_trans hle hlen) (hT.put hlen hag' hv) (hput _)⟩
      unfold Oper.wp
      rcases hr with hr | ⟨hr, rfl⟩
      · rw [hr]; exact hfin
      · rw [hr]; exact hfin
    · exact h.elim
/-- A STATEMENT WHOSE ORDER IS OPEN: n quiet ones; up to m new blocks, that may come among them; the rest waits for all. -/
theorem X_drawH2 {Γ : Ctx} {id : Nat} {l : List Oper} {T : List TV} {H : Heap} {Q : QX} (n m : Nat) (is : List Nat) (his : is = List.range' n (m - n)) (hm : Γ.P.follows .mixedOrders = true) (hB : mixH .any l.toArray n m = true)
    (h : XM Γ l.toArray H [] (l.take n) T fun T => xMid Γ l.toArray H [] (l.drop m) (fun T H => Q .normal T H) is T H) : XL Γ (.region id l.toArray true) T H Q := by
  subst his
  rw [XM_eq] at h
  rw [XL_eq]
  intro a w ⟨β, hT, hR, hd⟩
  refine wp_mono (wp_region_H (D := famD Γ H β []) (Q := fun e a w => match e with | .normal => lift Γ Q .normal a w | _ => False) n m (H, β) hm hB (fun _ _ _ h => h) ⟨famL_refl, .refl _ _, hR.drewQ⟩ ?_) fun e a w h => ?_
  · refine xHeadM_wp hR _ h hT hd fun T' a' hK hT' hd' => ?_
    exact xMid_wp (fun T'' H'' a'' w'' hq hs => ⟨T'', H'', hq, hs⟩) _ hK (.refl _ _) (Nat.le_refl _) hT' hd'
  · cases e with
    | normal => exact h
    | _ => exact h.elim
section
variable {Γ : Ctx} {ops : Array Oper} {H0 H : Heap} {T : List TV} {M : List Nat} {L : List Oper} {K : List TV → Heap → Prop} {KL : List TV → Heap → Prop} {i len : Nat} {r : List Nat} {dst : Option Tmp} {ty t : TypeId} {pos : String} {af : Array Edge} {ps : List (Nat × Operand)}
theorem xMid_nil : xMid Γ ops H0 M L K [] T H = XR Γ ops L T H K := rfl
theorem xMid_cons : xMid Γ ops H0 M L K (i :: r) T H = xAtM Γ ops H0 M ops[i]? T H (fun T H => xMid Γ ops H0 M L K r T H) := by
  simp only [xMid, xAtM]
  all_goals (cases ops[i]? <;> rfl)
theorem xAtM_bs : xAtM Γ ops H0 M (some ⟨dst, .buildSlice t len ps.toArray, ty, pos, af, none⟩) T H KL = xbs Γ (slcOf Γ.P t) len ps (Ab.ev T) H fun v e => famL M 0 H0 (e.app H) ∧ KL (putT T dst v) (e.app H) := by
  simp only [xAtM, xop, true_and]
  rfl
end
end Go.Ab
