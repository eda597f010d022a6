/-
  Code beside which something is said of the world: what lies in a map.
-/
import Derived.Test.YthniflakjkbpiaaDoorAb28
namespace Go.Ab
open Go Go.RowKit
set_option linter.unusedSimpArgs false
set_option linter.unusedVariables false

/-! Tryd# Something said of the world -/
/-- It stays so, whatever happens beside our blocks. -/
def Steady (A : World → Prop) : Prop := ∀ (Γ : Ctx) (V : Evo) (B : Nat) (L : List Nat) (H : Heap) (β : Nat → Nat) (w w' : World), Rep Γ H β w → (∀ i ∈ L, i < H.length) → A w → FrP (Γ.after V B w β L) w' → A w'
theorem steady_true : Steady fun _ => True := fun _ _ _ _ _ _ _ _ _ _ _ _ => trivial
theorem steady_map (b : Nat) (p : Nat → Bool) : Steady (MapAt b p) := by
  rintro Γ V B L H β w w' hR hlt ⟨es, c, hb, hp⟩ h
  refine ⟨es, c, ?_, hp⟩
  rcases h.2.2.2.2 b (Array.getElem?_eq_some_iff.1 hb).1 with ⟨i, hi, hbi⟩ | h1 | ⟨_, o, o', h2, _, h4⟩
  · have h5 := hR.blk β (.refl _ _) i (H[i]'(hlt i hi)) (List.getElem?_eq_getElem (hlt i hi))
    rw [← hbi, hb] at h5
    cases h5
  · exact h1.trans hb
  · have h2' : w.heap[b]? = some o := h2
    rw [hb] at h2'
    injection h2' with h2'
    obtain ⟨c', t', f', he, _⟩ := V.ofE _ _ h4
    rw [← h2'] at he
    cases he
theorem stays_map (V : Evo) (b : Nat) (p : Nat → Bool) : Stays V fun _ w => MapAt b p w := by
  rintro B w w' ⟨es, c, hb, hp⟩ h
  refine ⟨es, c, ?_, hp⟩
  rcases h.blk b (Array.getElem?_eq_some_iff.1 hb).1 with h1 | ⟨_, o, o', h2, _, h4⟩
  · exact h1.trans hb
  · rw [hb] at h2
    injection h2 with h2
    obtain ⟨c', t', f', he, _⟩ := V.ofE _ _ h4
    rw [← h2] at he
    cases he
abbrev KA := List TV → Heap → (World → Prop) → Prop
abbrev QA := Exit → List TV → Heap → (World → Prop) → Prop
def liftA (Γ : Ctx) (Q : QA) : Exit → Act → World → Prop := fun e a w => ∃ T H A, Q e T H A ∧ St Γ T H a w ∧ A w
/-- What a piece of code does, where A is so. -/
def XA (Γ : Ctx) (A : World → Prop) (c : Code) (T : List TV) (H : Heap) (Q : QA) : Prop := ∀ a w, St Γ T H a w → A w → c.wp Γ.P (liftA Γ Q) a w
section
variable {Γ : Ctx} {A : World → Prop} {H : Heap} {T : List TV} {Q : QA}
theorem XA.mono {c : Code} {Q' : QA} (h : XA Γ A c T H Q) (hq : ∀ e T H A, Q e T H A → Q' e T H A) : XA Γ A c T H Q' :=
  fun a w hs hA => wp_mono (h a w hs hA) fun _ _ _ ⟨T, H, A, h1, h2⟩ => ⟨T, H, A, hq _ _ _ _ h1, h2⟩
def seqA (K : KA) (Q : QA) : QA := fun e T H A => match e with | .normal => K T H A | e => Q e T H A
def blockA (id : Nat) (Q : QA) : QA := fun e T H A => match e with | .exit i => if i = id then Q .normal T H A else Q (.exit i) T H A | e => Q e T H A
def scopeA (Q : QA) : QA := fun e T H A => match e with | .goto _ => False | e => Q e T H A
theorem XA_seq {x y : Code} (h : XA Γ A x T H (seqA (fun T H A => XA Γ A y T H Q) Q)) : XA Γ A (.seq x y) T H Q := by
  intro a w hs hA
  refine wp_seq (wp_mono (h a w hs hA) fun e a' w' ⟨T', H', A', hq, hs', hA'⟩ => ?_)
  cases e with
  | normal => exact hq a' w' hs' hA'
  | _ => exact ⟨T', H', A', hq, hs', hA'⟩
theorem XA_block {id : Nat} {b : Code} (h : XA Γ A b T H (blockA id Q)) : XA Γ A (.block id b) T H Q := by
  intro a w hs hA
  refine wp_block (wp_mono (h a w hs hA) fun e a' w' ⟨T', H', A', hq, hs', hA'⟩ => ?_)
  cases e with
  | exit i =>
    simp only [Exit.inBlock]
    simp only [blockA] at hq
    split
    · rename_i hi; simp only [hi, if_true] at hq; exact ⟨T', H', A', hq, hs', hA'⟩
    · rename_i hi; simp only [hi, if_false] at hq; exact ⟨T', H', A', hq, hs', hA'⟩
  | _ => exact ⟨T', H', A', hq, hs', hA'⟩
theorem XA_scope {b : Code} (h : XA Γ A b T H (scopeA Q)) : XA Γ A (.scope b) T H Q := by
  intro a w hs hA
  refine wp_scope_straight (wp_mono (h a w hs hA) fun e a' w' ⟨T', H', A', hq, hs', hA'⟩ => ?_)
  cases e with
  | goto l => exact hq.elim
  | _ => exact ⟨T', H', A', hq, hs', hA'⟩
theorem XA_cond {c : Operand} {x y : Code} {t : Bool} (hb : Ab.ev T c = .s (.v (.bool t))) (hx : t = true → XA Γ A x T H Q) (hy : t = false → XA Γ A y T H Q) : XA Γ A (.cond c x y) T H Q := by
  intro a w hs hA
  have hev : a.eval c = .bool t := by
    obtain ⟨β, hT, _, _⟩ := hs
    rw [eval_ev (hT β (.refl _ _)) c, hb]; rfl
  exact wp_cond_split hev (fun ht => hx ht a w hs hA) (fun ht => hy ht a w hs hA)
theorem XA_skip (h : Q .normal T H A) : XA Γ A .skip T H Q := fun _ _ hs hA => wp_skip ⟨_, _, _, h, hs, hA⟩
theorem XA_label {l : Nat} (h : Q .normal T H A) : XA Γ A (.label l) T H Q := fun _ _ hs hA => wp_label ⟨_, _, _, h, hs, hA⟩
theorem XA_exit {i : Nat} (h : Q (.exit i) T H A) : XA Γ A (.exit i) T H Q := fun _ _ hs hA => wp_exit ⟨_, _, _, h, hs, hA⟩
theorem XA_ret (h : Q .ret T H A) : XA Γ A .ret T H Q := fun _ _ hs hA => wp_ret ⟨_, _, _, h, hs, hA⟩
/-- Here the world is what it is; our blocks stay ours. -/
theorem rep_here {β : Nat → Nat} {w : World} {L : List Nat} (hR : Rep Γ H β w) (hL : ∀ i, i < H.length → i ∈ L) : Rep (Γ.after Γ.ev Γ.B w β L) H β w :=
  ⟨⟨Nat.zero_le _, fun j hj => absurd hj (Nat.not_lt_zero j)⟩, ⟨rfl, rfl, rfl, Nat.le_refl _, fun _ _ => .inr (.inl rfl)⟩, hR.inj, fun j hj => .inr ⟨j, hL j hj, rfl⟩, hR.typ, hR.blk⟩
theorem st_here {β : Nat → Nat} {w : World} {L : List Nat} {a : Act} (hT : Holds H.length β T a.tmps) (hR : Rep Γ H β w) (hd : a.defers = []) (hL : ∀ i, i < H.length → i ∈ L) : St (Γ.after Γ.ev Γ.B w β L) T H a w := ⟨β, hT, rep_here hR hL, hd⟩
theorem st_back {β : Nat → Nat} {w w' : World} {L : List Nat} {a : Act} {T' : List TV} {H' : Heap} (hR : Rep Γ H β w) (hlt : ∀ i ∈ L, i < H.length) (hn : Γ.n0 = 0) (hS : Steady A) (hA : A w) (hs : St (Γ.after Γ.ev Γ.B w β L) T' H' a w') : St Γ T' H' a w' ∧ A w' := by
  obtain ⟨β', hT', hR', hd'⟩ := hs
  exact ⟨⟨β', hT', hR.back hlt hn (.inl ⟨rfl, rfl⟩) (fun _ h => h) hR', hd'⟩, hS _ _ _ _ _ _ _ _ hR hlt hA hR'.fr.to⟩
/-- CODE THAT WRITES INTO NO MAP: A is known all the while. -/
theorem XA_X {c : Code} (L : List Nat) (hS : Steady A) (hn : Γ.n0 = 0) (hL : ∀ i, i < H.length → i ∈ L) (hlt : ∀ i ∈ L, i < H.length)
    (h : ∀ β w, Rep Γ H β w → Kn (Γ.after Γ.ev Γ.B w β L) (fun _ w => A w) → (∀ q, Kn Γ q → Kn (Γ.after Γ.ev Γ.B w β L) q) → X (Γ.after Γ.ev Γ.B w β L) c T H fun e T H => Q e T H A) : XA Γ A c T H Q := by
  intro a w ⟨β, hT, hR, hd⟩ hA
  refine wp_mono (h β w hR (fun w' hw' => hS _ _ _ _ _ _ _ _ hR hlt hA hw') (fun q hq => hq.after hR hlt) a w (st_here hT hR hd hL)) fun e a' w' ⟨T', H', hq, hs'⟩ => ?_
  obtain ⟨h1, h2⟩ := st_back hR hlt hn hS hA hs'
  exact ⟨T', H', A, hq, h1, h2⟩
/-- Code in which nothing is said of the world. -/
theorem XA_of {c : Code} {Q' : QX} (h : X Γ c T H Q') (hq : ∀ e T H, Q' e T H → Q e T H fun _ => True) : XA Γ A c T H Q := fun a w hs _ =>
  wp_mono (h a w hs) fun e a' w' ⟨T', H', h1, h2⟩ => ⟨T', H', _, hq _ _ _ h1, h2, trivial⟩
def loopA {ι : Type} (T : List TV) (H : Heap) (V : ι → Prop) (μ : ι → Nat) (js : List Nat) (sv : ι → List (Nat × TV)) (hv : ι → List (Nat × List SV)) (AA : ι → World → Prop) (i : ι) (Q : QA) : QA :=
  seqA (fun T' H' A' => ∃ i', μ i' < μ i ∧ Again T H V js sv hv T' H' i' ∧ A' = AA i') Q
theorem XA_loop {c : Code} {ι : Type} (V : ι → Prop) (μ : ι → Nat) (js : List Nat) (sv : ι → List (Nat × TV)) (hv : ι → List (Nat × List SV)) (AA : ι → World → Prop) (i0 : ι)
    (hsh : Shape V H.length sv hv) (hnj : js.Nodup) (h0 : Again T H V js sv hv T H i0) (hA0 : A = AA i0)
    (hr : ∀ i us, V i → XA Γ (AA i) c (setMany (setMany T (junk us js)) (sv i)) (setCells H (hv i)) (loopA T H V μ js sv hv AA i Q)) : XA Γ A (.loop c) T H Q := by
  subst hA0
  intro a w hs hA
  obtain ⟨oT, oH, on⟩ := hs.oks
  refine wp_loop_ghost (fun n a w => ∃ i us, V i ∧ μ i = n ∧ St Γ (setMany (setMany T (junk us js)) (sv i)) (setCells H (hv i)) a w ∧ AA i w) (μ i0) ?_ ?_
  · obtain ⟨us, h⟩ := hs.again hsh hnj oT oH on h0
    exact ⟨i0, us, h0.1, rfl, h, hA⟩
  · rintro n a w ⟨i, us, hV, rfl, hs', hA'⟩
    refine wp_mono (hr i us hV a w hs' hA') fun e a' w' ⟨T', H', A', hq, hs'', hA''⟩ => ?_
    cases e with
    | normal =>
      obtain ⟨i', hlt, hag, rfl⟩ := hq
      obtain ⟨us', h⟩ := hs''.again hsh hnj oT oH on hag
      exact ⟨μ i', hlt, i', us', hag.1, rfl, h, hA''⟩
    | _ => exact ⟨T', H', A', hq, hs'', hA''⟩
end

/-! Tryd# Operations in a row -/
@[irreducible] def XAR (Γ : Ctx) (A : World → Prop) (ops : Array Oper) (l : List Oper) (T : List TV) (H : Heap) (K : KA) : Prop :=
  ∀ (Q : Exit → Act → World → Prop) (a : Act) (w : World), St Γ T H a w → A w → (∀ T' H' A' a' w', K T' H' A' → St Γ T' H' a' w' → A' w' → Q .normal a' w') → wpList Γ.P ops Q l a w
section
variable {Γ : Ctx} {A : World → Prop} {H : Heap} {T : List TV} {ops : Array Oper} {K : KA} {dst : Option Tmp} {op : Op} {ty : TypeId} {pos : String} {af : Array Edge} {r : List Oper}
theorem XAR_def {l : List Oper} : XAR Γ A ops l T H K = ∀ (Q : Exit → Act → World → Prop) (a : Act) (w : World), St Γ T H a w → A w → (∀ T' H' A' a' w', K T' H' A' → St Γ T' H' a' w' → A' w' → Q .normal a' w') → wpList Γ.P ops Q l a w := by unfold XAR; rfl
theorem XAR_nil (h : K T H A) : XAR Γ A ops [] T H K := by
  rw [XAR_def]
  exact fun Q a w hs hA hK => hK _ _ _ _ _ h hs hA
theorem XA_reg {id : Nat} {l : List Oper} {Q : QA} (h : XAR Γ A l.toArray l T H fun T H A => Q .normal T H A) : XA Γ A (.region id l.toArray false) T H Q := by
  intro a w hs hA
  rw [XAR_def] at h
  exact wp_region_list (h _ a w hs hA fun T' H' A' a' w' hq hs' hA' => ⟨T', H', A', hq, hs', hA'⟩)
/-- An operation that writes into no map. -/
theorem XAR_step (L : List Nat) (hS : Steady A) (hn : Γ.n0 = 0) (hL : ∀ i, i < H.length → i ∈ L) (hlt : ∀ i ∈ L, i < H.length)
    (h : ∀ β w, Rep Γ H β w → Kn (Γ.after Γ.ev Γ.B w β L) (fun _ w => A w) → (∀ q, Kn Γ q → Kn (Γ.after Γ.ev Γ.B w β L) q) → xstep (Γ.after Γ.ev Γ.B w β L) op (ev T) H fun v H' => XAR Γ A ops r (putT T dst v) H' K) :
    XAR Γ A ops (⟨dst, op, ty, pos, af, none⟩ :: r) T H K := by
  rw [XAR_def]
  intro Q a w hs hA hK
  obtain ⟨β, hT, hR, hd⟩ := hs
  have hwant : Region.wanted (⟨dst, op, ty, pos, af, none⟩ : Oper) (yielded ops a.tmps) = true := by simp [Region.wanted]
  simp only [wpList, hwant, if_true]
  refine .inl (xstep_wp (Γ := Γ.after Γ.ev Γ.B w β L) (o := ⟨dst, op, ty, pos, af, none⟩) (h β w hR (fun w' hw' => hS _ _ _ _ _ _ _ _ hR hlt hA hw') fun q hq => hq.after hR hlt) (st_here hT hR hd hL) fun v H' u w' hv hs'' => ?_)
  rw [XAR_def] at hv
  obtain ⟨h1, h2⟩ := st_back hR hlt hn hS hA hs''
  exact hv Q _ _ h1 h2 hK
/-- A new map. -/
theorem XAR_mk {t : TypeId} (h : ∀ b, Γ.W.heap.size ≤ b → XAR Γ (MapAt b fun _ => false) ops r (putT T dst (.s (.v (.map (some b))))) H K) :
    XAR Γ A ops (⟨dst, .makeMap t none, ty, pos, af, none⟩ :: r) T H K := by
  rw [XAR_def]
  intro Q a w hs hA hK
  obtain ⟨β, hT, hR, hd⟩ := hs
  have hput : ∀ u, (a.put dst u).defers = [] := fun u => by cases dst <;> exact hd
  have hwant : Region.wanted (⟨dst, .makeMap t none, ty, pos, af, none⟩ : Oper) (yielded ops a.tmps) = true := by simp [Region.wanted]
  simp only [wpList, hwant, if_true]
  left
  have hrun : (execOp a.eval (⟨dst, .makeMap t none, ty, pos, af, none⟩ : Oper)).run Γ.P w = .ok (.value (.map (some w.heap.size))) (w.alloc (.map #[] 0)) := by
    simp [execOp, run_makeMap]
  unfold Oper.wp
  rw [hrun]
  have hX := h w.heap.size hR.fr.size
  rw [XAR_def] at hX
  exact hX Q _ _ ⟨β, hT.put (Nat.le_refl _) (.refl _ _) (fun _ _ => rfl), hR.ext (Ext.alloc _ _ _ _), hput _⟩ ⟨#[], 0, (MapKept.heap_alloc w _).1, MapIs.nil⟩ hK
/-- What is written into a map. -/
theorem XAR_put {b : Nat} {p : Nat → Bool} {n : Nat} {z : Int} {mt kt et : TypeId} {m k x : Operand} (M : MapTy Γ.P mt kt et) (hop : op = .mapUpdate mt m k x ∨ op = .insert mt m k x) (hbW : Γ.W.heap.size ≤ b) (hn : n < 2 ^ 256)
    (hm : ev T m = .s (.v (.map (some b)))) (hk : ev T k = .agg (nat4 n)) (hx : ev T x = .s (.v (.int .i64 z))) (h : XAR Γ (MapAt b fun i => p i || i == n) ops r (putT T dst undefT) H K) :
    XAR Γ (MapAt b p) ops (⟨dst, op, ty, pos, af, none⟩ :: r) T H K := by
  rw [XAR_def] at h ⊢
  intro Q a w hs hA hK
  obtain ⟨β, hT, hR, hd⟩ := hs
  have hput : ∀ u, (a.put dst u).defers = [] := fun u => by cases dst <;> exact hd
  have hwant : Region.wanted (⟨dst, op, ty, pos, af, none⟩ : Oper) (yielded ops a.tmps) = true := by simp [Region.wanted]
  simp only [wpList, hwant, if_true]
  left
  obtain ⟨w', hrun, hA', hos, htape, hout, hsz, hsame⟩ := run_upd M hn (z := z) hA
  have hev := eval_ev (a := a) (hT β (.refl _ _))
  have e1 : a.eval m = .map (some b) := by rw [hev, hm]; rfl
  have e2 : a.eval k = natV n := by rw [hev, hk, natV_conc]
  have e3 : a.eval x = .int .i64 z := by rw [hev, hx]; rfl
  have hex : (execOp a.eval (⟨dst, op, ty, pos, af, none⟩ : Oper)).run Γ.P w = .ok .skip w' := by
    rcases hop with rfl | rfl <;> simp [execOp, e1, e2, e3, hrun, Result.andThen]
  unfold Oper.wp
  rw [hex]
  have hmap : ∃ es c, w.heap[b]? = some (.map es c) := by obtain ⟨es, c, h1, _⟩ := hA; exact ⟨es, c, h1⟩
  obtain ⟨es, c, hes⟩ := hmap
  have hR' : Rep Γ H β w' := by
    refine ⟨hR.anc, ⟨hos.trans hR.fr.os, htape.trans hR.fr.tape, hout.trans hR.fr.output, by rw [hsz]; exact hR.fr.size, fun k hk => ?_⟩, hR.inj, hR.lie, hR.typ, fun β' h' j bb hbb => ?_⟩
    · have hkb : k ≠ b := by omega
      refine (hR.fr.blk k hk).imp id fun h1 => ?_
      exact h1.trans (.inl (hsame k hkb))
    · have h2 := hR.blk β' h' j bb hbb
      rw [hsame]
      · exact h2
      · intro hj
        rw [hj, hes] at h2
        cases h2
  exact h Q _ _ ⟨β, hT.put (Nat.le_refl _) (.refl _ _) (fun _ _ => rfl), hR', hput _⟩ hA' hK
end

/-! Tryd# Functions -/
def retA (P : Program) (rs : List ResultVar) (R : TV → Heap → (World → Prop) → Prop) : QA := fun e T H A => retQ P rs (fun v H => R v H A) e T H
theorem calls_of_XA {Γ : Ctx} {A : World → Prop} {f : FuncId} {fn : Func} {c : Code} {args : List TV} {H : Heap} {β : Nat → Nat} {R : TV → Heap → (World → Prop) → Prop} (hf : Γ.P.funcs[f]? = some fn) (hb : fn.body = some c)
    (hR : Rep Γ H β Γ.W) (hA : A Γ.W) (ha : ∀ x ∈ args, x.ok H.length) (h : XA Γ A c (args ++ List.replicate (fn.ntmps - args.length) undefT) H (retA Γ.P fn.results.toList R)) :
    Calls Γ.P f (args.map (TV.conc β)).toArray Γ.W fun e w' => ∃ v H' A' β', R v H' A' ∧ A' w' ∧ Rep Γ H' β' w' ∧ ∀ β'', Agrees H'.length β' β'' → e = .returned (v.conc β'') := by
  refine calls_of_wp hf hb (wp_mono (h _ _ ⟨β, Holds.of_ok ?_ ?_, hR, rfl⟩ hA) ?_)
  · apply Array.ext'
    simp
  · intro x hx
    rw [List.mem_append] at hx
    rcases hx with hx | hx
    · exact ha x hx
    · rw [List.mem_replicate] at hx
      rw [hx.2]
      intro y hy
      simp at hy
  · rintro e a w' ⟨T', H', A', hq, hs, hA'⟩
    cases e with
    | normal => exact ret_post (fn := fn) (R' := fun e w' => ∃ v H' A' β', R v H' A' ∧ A' w' ∧ Rep Γ H' β' w' ∧ ∀ β'', Agrees H'.length β' β'' → e = .returned (v.conc β'')) (R := fun v H => R v H A') hq hs fun v β' e hv hR' he => ⟨v, H', A', β', hv, hA', hR', he⟩
    | ret => exact ret_post (fn := fn) (R' := fun e w' => ∃ v H' A' β', R v H' A' ∧ A' w' ∧ Rep Γ H' β' w' ∧ ∀ β'', Agrees H'.length β' β'' → e = .returned (v.conc β'')) (R := fun v H => R v H A') hq hs fun v β' e hv hR' he => ⟨v, H', A', β', hv, hA', hR', he⟩
    | _ => exact hq.elim
/-- What is looked for in a map: an operation's own law. -/
theorem sound_look {Γ : Ctx} {H : Heap} {T : List TV} {b n : Nat} {p : Nat → Bool} {mt kt et : TypeId} {m k : Operand} (M : MapTy Γ.P mt kt et) (hno : ¬ Γ.own b) (hA : Kn Γ fun _ w => MapAt b p w) (hn : n < 2 ^ 256)
    (hm : ev T m = .s (.v (.map (some b)))) (hk : ev T k = .agg (nat4 n)) : ∃ z : Int, Sound Γ (.lookup mt m k true) (ev T) H (.tup [.s (.v (.int .i64 z)), .s (.v (.bool (p n)))]) .none := by
  obtain ⟨es, c, hb, hp⟩ := hA _ (FrP.now Γ)
  obtain ⟨z, hz⟩ := run_look (b := b) (c := c) M hp hn
  refine ⟨z, fun o β ρ w ho hρ hR => ?_⟩
  obtain ⟨es', c', hb', hp'⟩ := hA w hR.fr.to
  have hsame : w.heap[b]? = some (.map es c) := by
    have hlt := (Array.getElem?_eq_some_iff.1 hb).1
    rcases hR.fr.blk b hlt with h1 | h1 | ⟨_, o1, o2, h2, _, h4⟩
    · exact absurd h1 hno
    · exact h1.trans hb
    · rw [hb] at h2
      injection h2 with h2
      obtain ⟨c', t', f', he, _⟩ := Γ.ev.ofE _ _ h4
      rw [← h2] at he
      cases he
  have e1 : ρ m = .map (some b) := by rw [hρ, hm]; rfl
  have e2 : ρ k = natV n := by rw [hρ, hk, natV_conc]
  simp [Does, execOp, ho, e1, e2, hz w hsame, Result.andThen, conc_tup, AV.conc, SV.conc]
end Go.Ab
