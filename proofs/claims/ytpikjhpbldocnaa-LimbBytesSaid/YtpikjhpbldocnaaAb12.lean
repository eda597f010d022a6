/-
  A statement's operations, more of them: new slices, and what is added to one; each step by its own law.
-/
import Derived.Test.YtpikjhpbldocnaaAb11
import Derived.Laws.AppendOwn
import Derived.Laws.MakeOwn
namespace Go.Ab
open Go Go.RowKit
set_option linter.unusedSimpArgs false
set_option linter.unusedVariables false

theorem Rep.new {Γ : Ctx} {H : Heap} {β : Nat → Nat} {w : World} {b : AB} (hR : Rep Γ H β w) (hTM : ¬ Γ.ev.TM b.t) (hok : ∀ x ∈ b.cs, x.ok H.length) :
    ∃ β', Agrees H.length β β' ∧ β' H.length = w.heap.size ∧ Rep Γ (H ++ [b]) β' (w.alloc (b.conc β)) := by
  have hd : ∀ β', Agrees H.length β β' → Does Γ H β' w (.s (.p H.length 0)) (.new b) (.ok (.value (.pointer (some ⟨w.heap.size, 0, none⟩))) (w.alloc (b.conc β))) := fun β' h' => by
    refine ⟨hTM, .inl rfl, ?_⟩
    have : b.conc β' = b.conc β := by simp only [AB.conc]; rw [SV.concs_ok hok h']
    rw [this, conc_p, upd_same]
  obtain ⟨u, w', β', hr, hag, hlen, hR', hv⟩ := Does.leaves hd hR
  rcases hr with hr | ⟨hr, _⟩
  · injection hr with h1 h2
    injection h1 with h1
    subst h2
    refine ⟨β', hag, ?_, hR'⟩
    have h3 := hv β' (.refl _ _)
    rw [← h1, conc_p] at h3
    injection h3 with h3
    injection h3 with h3
    injection h3
  · cases hr
theorem Rep.put {Γ : Ctx} {H : Heap} {β : Nat → Nat} {w : World} {j : Nat} {b : AB} {cs : List SV} (hR : Rep Γ H β w) (hb : H[j]? = some b) (hl : cs.length = b.cs.length) (hok : ∀ x ∈ cs, x.ok H.length) :
    Rep Γ (putH H j cs) β (w.setRow (β j) (cs.map (SV.conc β)).toArray) := by
  have hjl : j < H.length := (List.getElem?_eq_some_iff.1 hb).1
  have hd : ∀ β', Agrees H.length β β' → Does Γ H β' w undefT (.put j cs) (.ok .skip (w.setRow (β j) (cs.map (SV.conc β)).toArray)) := fun β' h' => by
    refine ⟨rfl, ⟨b, hb, hl⟩, ?_⟩
    rw [SV.concs_ok hok h', h' j hjl]
  obtain ⟨u, w', β', hr, hag, hlen, hR', hv⟩ := Does.leaves hd hR
  rcases hr with hr | ⟨hr, _⟩
  · cases hr
  · injection hr with _ h2
    subst h2
    refine hR'.agree ?_
    have : (HE.app (.put j cs) H).length = H.length := putH_length _ _ _
    rw [this]
    exact hag.symm

/-- Operations in a row, by what they do. -/
@[irreducible] def XR (Γ : Ctx) (ops : Array Oper) (l : List Oper) (T : List TV) (H : Heap) (K : List TV → Heap → Prop) : Prop :=
  ∀ (Q : Exit → Act → World → Prop) (a : Act) (w : World), St Γ T H a w → (∀ T' H' a' w', K T' H' → St Γ T' H' a' w' → Q .normal a' w') → wpList Γ.P ops Q l a w
section
variable {Γ : Ctx} {ops : Array Oper} {H H' : Heap} {T T' : List TV} {K : List TV → Heap → Prop} {dst : Option Tmp} {op : Op} {ty : TypeId} {pos : String} {af : Array Edge} {j : Nat} {w : Bool} {r : List Oper}
@[congr] theorem XR_congr {l : List Oper} (h1 : T = T') (h2 : H = H') : XR Γ ops l T H K = XR Γ ops l T' H' K := by rw [h1, h2]
theorem XR_def {l : List Oper} : XR Γ ops l T H K = ∀ (Q : Exit → Act → World → Prop) (a : Act) (w : World), St Γ T H a w → (∀ T' H' a' w', K T' H' → St Γ T' H' a' w' → Q .normal a' w') → wpList Γ.P ops Q l a w := by unfold XR; rfl
theorem XR_nil (h : K T H) : XR Γ ops [] T H K := by
  rw [XR_def]
  exact fun Q a w hs hK => hK _ _ _ _ h hs
theorem XR_cons (h : xstep Γ op (ev T) H fun v H' => XR Γ ops r (putT T dst v) H' K) : XR Γ ops (⟨dst, op, ty, pos, af, none⟩ :: r) T H K := by
  rw [XR_def]
  intro Q a w hs hK
  have hwant : Region.wanted (⟨dst, op, ty, pos, af, none⟩ : Oper) (yielded ops a.tmps) = true := by simp [Region.wanted]
  simp only [wpList, hwant, if_true]
  refine .inl (xstep_wp (o := ⟨dst, op, ty, pos, af, none⟩) h hs fun v H' u w' hv hs'' => ?_)
  rw [XR_def] at hv
  exact hv Q _ _ hs'' hK
theorem XR_consG (h : xguard T (some ((ops[j]?).bind (·.dst), w)) (fun T => xstep Γ op (ev T) H fun v H' => XR Γ ops r (putT T dst v) H' K) (fun T => XR Γ ops r (putT T dst undefT) H K)) :
    XR Γ ops (⟨dst, op, ty, pos, af, some (j, w)⟩ :: r) T H K := by
  rw [XR_def]
  intro Q a w' hs hK
  refine xguard_wp (ops := ops) (o := ⟨dst, op, ty, pos, af, some (j, w)⟩) h hs (fun T' hw hr hs' => ?_) (fun T' hw hr hs' => ?_)
  · simp only [wpList, hw, if_true]
    refine .inl (xstep_wp (o := ⟨dst, op, ty, pos, af, some (j, w)⟩) hr hs' fun v H' u w' hv hs'' => ?_)
    rw [XR_def] at hv
    exact hv Q _ _ hs'' hK
  · simp only [wpList, hw, Bool.false_eq_true, if_false]
    rw [XR_def] at hr
    refine hr Q _ _ ?_ hK
    obtain ⟨β, hT, hR, hd⟩ := hs'
    exact ⟨β, hT.put (Nat.le_refl _) (.refl _ _) (fun _ _ => rfl), hR, by cases dst <;> exact hd⟩
theorem X_regR {id : Nat} {l : List Oper} {Q : QX} (h : XR Γ l.toArray l T H fun T H => Q .normal T H) : X Γ (.region id l.toArray false) T H Q := by
  intro a w hs
  rw [XR_def] at h
  exact wp_region_list (h _ a w hs fun T' H' a' w' hq hs' => ⟨T', H', hq, hs'⟩)
theorem X_regRS {id : Nat} {l : List Oper} {b : Code} {Q : QX} (h : XR Γ l.toArray l T H fun T H => X Γ b T H Q) : X Γ (.seq (.region id l.toArray false) b) T H Q := by
  intro a w hs
  refine wp_seq (wp_mono (X_regR (Q := fun e T H => e = .normal ∧ X Γ b T H Q) (id := id) (l := l) ?_ a w hs) fun e a' w' ⟨T', H', hq, hs'⟩ => ?_)
  · rw [XR_def] at h ⊢
    intro Q' a' w' hs' hK
    exact h Q' a' w' hs' fun T' H' a'' w'' hX hs'' => hK T' H' a'' w'' ⟨rfl, hX⟩ hs''
  · obtain ⟨he, hX⟩ := hq
    cases e with
    | normal => exact hX a' w' hs'
    | _ => cases he

/-! Try# New slices -/
def mkOK (P : Program) (e : TypeId) (n : Nat) : Prop := match P.info? e with | some i => i.bytes * n ≤ 281474976710656 ∧ n ≤ 9223372036854775807 | none => False
theorem mk_bytes {b : Nat} {l : Int} (h0 : 0 ≤ l) (h : b * l.toNat ≤ 281474976710656) : (b : Int) * l ≤ 281474976710656 := by
  have e : ((l.toNat : Nat) : Int) = l := Int.toNat_of_nonneg h0
  rw [← e]
  exact Int.ofNat_le.2 h
def xmake (Γ : Ctx) (e : Option TypeId) (l c : TV) (n : Nat) (K : TV → HE → Prop) : Prop :=
  match e, l, c with
  | some e, .s (.v (.int _ l)), .s (.v (.int _ c)) => (0 ≤ l ∧ l = c ∧ mkOK Γ.P e l.toNat) ∧ xnewS Γ e (slice0 Γ.P e l.toNat) n l.toNat K
  | _, _, _ => False
theorem XR_make {t : TypeId} {l c : Operand} (h : xmake Γ (slcOf Γ.P t) (ev T l) (ev T c) H.length fun v e => XR Γ ops r (putT T dst v) (e.app H) K) :
    XR Γ ops (⟨dst, .makeSlice t l c, ty, pos, af, none⟩ :: r) T H K := by
  rw [XR_def]
  intro Q a w hs hK
  have hwant : Region.wanted (⟨dst, .makeSlice t l c, ty, pos, af, none⟩ : Oper) (yielded ops a.tmps) = true := by simp [Region.wanted]
  simp only [wpList, hwant, if_true]
  left
  obtain ⟨β, hT, hR, hd⟩ := hs
  have hput : ∀ u, (a.put dst u).defers = [] := fun u => by cases dst <;> exact hd
  unfold xmake at h
  split at h
  · rename_i e kl lv kc cv he hl hc
    obtain ⟨⟨h0, hlc, hmk⟩, h⟩ := h
    subst hlc
    unfold xnewS at h
    split at h
    · rename_i cs hcs
      obtain ⟨hTM, hX⟩ := h
      unfold slice0 at hcs
      simp only [Option.bind_eq_some_iff] at hcs
      obtain ⟨zc, hzA, hz⟩ := hcs
      split at hz
      · cases hz
      · rename_i hlen
        simp only [not_or, Nat.not_lt, gt_iff_lt, ne_eq, Decidable.not_not] at hlen
        simp only [Option.some.injEq] at hz
        obtain ⟨i, z, hi, hz0, hzc⟩ := zeroA_spec hzA
        obtain ⟨hu, _⟩ := slcOf_spec he
        have hsz : Γ.P.cellsOf e = i.size := by simp [Program.cellsOf, hi]
        simp only [mkOK, hi] at hmk
        have hev := eval_ev (a := a) (hT β (.refl _ _))
        have hrun := run_makeSlice (P := Γ.P) w t e i z hu hi hz0 kl kc lv lv h0 (Int.le_refl _) (by rw [← hsz]; exact hlen.1) (mk_bytes h0 hmk.1) (by have := hmk.2; omega)
        have hzs : z.cells.size = i.size := by rw [hzc β]; simp; omega
        have hzz : ∀ β', (cs.map (SV.conc β')).toArray = madeCells z.cells (lv.toNat * i.size) := fun β' => by
          rw [← hz, hsz]
          apply Array.ext
          · simp [madeCells]
          · intro k h1 h2
            have hk : k < lv.toNat * i.size := by simpa [madeCells] using h2
            have hpos : 0 < i.size := Nat.pos_of_ne_zero (fun h0 => by rw [h0, Nat.mul_zero] at hk; omega)
            have hzl : zc.length = i.size := by rw [← hsz]; exact hlen.2
            have hm : k % i.size < i.size := Nat.mod_lt _ hpos
            simp [madeCells, hzc β', hzl, hm]
        have hd' : ∀ β', Agrees H.length β β' → Does Γ H β' w (.s (.sl H.length 0 lv.toNat lv.toNat)) (.new ⟨e, cs⟩) (.ok (.value (.slice (some ⟨w.heap.size, 0, none⟩) lv.toNat lv.toNat)) (w.alloc (.cells (madeCells z.cells (lv.toNat * i.size)) e))) := fun β' h' => by
          refine ⟨hTM, .inr ⟨_, rfl⟩, ?_⟩
          rw [conc_sl, upd_same]
          simp only [AB.conc, hzz β']
        obtain ⟨u, w', β', hr, hag, hlen', hR', hv⟩ := Does.leaves hd' hR
        rw [XR_def] at hX
        unfold Oper.wp
        have hex : (execOp a.eval (⟨dst, .makeSlice t l c, ty, pos, af, none⟩ : Oper)).run Γ.P w = .ok (.value (.slice (some ⟨w.heap.size, 0, none⟩) lv.toNat lv.toNat)) (w.alloc (.cells (madeCells z.cells (lv.toNat * i.size)) e)) := by
          simp only [execOp, hev, hl, hc, conc_v, Sem.run_bind, hrun, Result.andThen_ok, Sem.run_pure]
        rw [hex]
        rcases hr with hr | ⟨hr, _⟩
        · rw [hr]
          exact hX Q _ _ ⟨β', hT.put hlen' hag hv, hR', hput _⟩ hK
        · cases hr
    · exact h.elim
  · exact h.elim

/-! Try# What is added to a slice -/
def apOK (P : Program) (e : TypeId) (n : Nat) : Prop := ∃ i z, P.info? e = some i ∧ i.zero = some z ∧ z.cells.size = i.size ∧ n * i.bytes ≤ 140737488355328 ∧ n ≤ 9223372036854775807
/-- What a slice of ours holds. -/
def newsOf (H : Heap) (sz : Nat) (x : TV) : Option (List SV × Nat) :=
  match x with
  | .s (.sl k off m _) => (H[k]?).bind fun b => if off + m * sz ≤ b.cs.length then some (part b.cs off (m * sz), m) else none
  | _ => none
def xappend (Γ : Ctx) (e : Option TypeId) (s : TV) (nw : TypeId → Option (List SV × Nat)) (H : Heap) (K : TV → Heap → Prop) : Prop :=
  match e with
  | some e => match s, nw e with
    | .s (.v (.slice none 0 0)), some (news, m) => (0 < m ∧ apOK Γ.P e m ∧ ¬ Γ.ev.TM e) ∧ ∀ (c : Nat) (sp : List Value), m ≤ c → sp.length = (c - m) * sz Γ.P e → K (.s (.sl H.length 0 m c)) (H ++ [⟨e, news ++ sp.map .v⟩])
    | .s (.sl j 0 n cap), some (news, m) => ∃ b, H[j]? = some b ∧ (b.t = e ∧ cap * sz Γ.P e ≤ b.cs.length ∧ n ≤ cap ∧ apOK Γ.P e (n + m) ∧ oneAll news ∧ ¬ Γ.ev.TM e) ∧
        (n + m ≤ cap → K (.s (.sl j 0 (n + m) cap)) (putH H j (b.cs.take (n * sz Γ.P e) ++ news ++ b.cs.drop (n * sz Γ.P e + news.length)))) ∧
        (cap < n + m → ∀ (c : Nat) (sp : List Value), n + m ≤ c → sp.length = (c - (n + m)) * sz Γ.P e → K (.s (.sl H.length 0 (n + m) c)) (H ++ [⟨e, b.cs.take (n * sz Γ.P e) ++ news ++ sp.map .v⟩]))
    | _, _ => False
  | none => False

theorem newsOf_spec {H : Heap} {n m : Nat} {x : TV} {news : List SV} (h : newsOf H n x = some (news, m)) : ∃ k off c b, x = .s (.sl k off m c) ∧ H[k]? = some b ∧ off + m * n ≤ b.cs.length ∧ news = part b.cs off (m * n) := by
  unfold newsOf at h
  split at h
  · rename_i k off m' c
    simp only [Option.bind_eq_some_iff] at h
    obtain ⟨b, hb, h⟩ := h
    split at h
    · rename_i hl
      simp only [Option.some.injEq, Prod.mk.injEq] at h
      obtain ⟨h1, h2⟩ := h
      subst h2
      exact ⟨k, off, c, b, rfl, hb, hl, h1.symm⟩
    · cases h
  · cases h
theorem part_cells {Γ : Ctx} {H : Heap} {β : Nat → Nat} {w : World} (hR : Rep Γ H β w) {k : Nat} {b : AB} (hb : H[k]? = some b) (off n : Nat) :
    ∀ (j : Nat) (u : Value), ((part b.cs off n).map (SV.conc β))[j]? = some u → w.cell? ((⟨β k, off, none⟩ : Addr).add j) = some u := by
  intro j u hj
  rw [Addr.add_mid, cellOf hR hb]
  rw [part_eq] at hj
  simp only [List.getElem?_map, List.getElem?_take, List.getElem?_drop] at hj
  split at hj
  · exact hj
  · simp at hj
theorem part_length {cs : List SV} {off n : Nat} (h : off + n ≤ cs.length) : (part cs off n).length = n := by
  rw [part_eq, List.length_take, List.length_drop]; omega
theorem part_ok {cs : List SV} {off n m : Nat} (h : ∀ x ∈ cs, x.ok m) : ∀ x ∈ part cs off n, x.ok m := by
  intro x hx
  rw [part_eq] at hx
  exact h x (List.mem_of_mem_drop (List.mem_of_mem_take hx))
theorem vals_ok {sp : List Value} {m : Nat} : ∀ x ∈ sp.map SV.v, x.ok m := by
  intro x hx
  rw [List.mem_map] at hx
  obtain ⟨y, _, rfl⟩ := hx
  trivial
theorem vals_conc (sp : List Value) (β : Nat → Nat) : (sp.map SV.v).map (SV.conc β) = sp := by
  rw [List.map_map]
  exact List.map_id' sp

theorem XR_append {t : TypeId} {s x : Operand} (h : xappend Γ (slcOf Γ.P t) (ev T s) (fun e => newsOf H (sz Γ.P e) (ev T x)) H fun v H' => XR Γ ops r (putT T dst v) H' K) :
    XR Γ ops (⟨dst, .call ⟨.builtin .append, #[s, x], #[t, t]⟩, ty, pos, af, none⟩ :: r) T H K := by
  rw [XR_def]
  intro Q a w hs hK
  have hwant : Region.wanted (⟨dst, .call ⟨.builtin .append, #[s, x], #[t, t]⟩, ty, pos, af, none⟩ : Oper) (yielded ops a.tmps) = true := by simp [Region.wanted]
  simp only [wpList, hwant, if_true]
  left
  obtain ⟨β, hT, hR, hd⟩ := hs
  have hput : ∀ u, (a.put dst u).defers = [] := fun u => by cases dst <;> exact hd
  have hev := eval_ev (a := a) (hT β (.refl _ _))
  have go : ∀ (u : Value) (w' : World) (v : TV) (H' : Heap) (β' : Nat → Nat), (Builtin.append_ #[t, t] ty #[a.eval s, a.eval x]).run Γ.P w = .ok u w' → XR Γ ops r (putT T dst v) H' K → Agrees H.length β β' → H.length ≤ H'.length → Rep Γ H' β' w' →
      (∀ β'', Agrees H'.length β' β'' → v.conc β'' = u) → Oper.wp Γ.P (⟨dst, .call ⟨.builtin .append, #[s, x], #[t, t]⟩, ty, pos, af, none⟩ : Oper) a w (wpList Γ.P ops Q r) Q := by
    intro u w' v H' β' hrun hX hag hle hR' hv
    rw [XR_def] at hX
    unfold Oper.wp execOp
    simp only [resolve, invoke, builtin, Sem.run_bind, Sem.run_pure, Result.andThen_ok, List.map_toArray, List.map_cons, List.map_nil, hrun]
    exact hX Q _ _ ⟨β', hT.put hle hag hv, hR', hput _⟩ hK
  unfold xappend at h
  split at h
  · rename_i e he
    obtain ⟨hu, _⟩ := slcOf_spec he
    split at h
    · rename_i news m hs hn
      obtain ⟨⟨h0, ⟨i, z, hi, hz, hzs, hby, h63⟩, hTM⟩, hX⟩ := h
      obtain ⟨k, off, c0, b, hx, hb, hl, rfl⟩ := newsOf_spec hn
      have hsz : sz Γ.P e = i.size := by simp [sz, Program.cellsOf, hi]
      rw [hsz] at hl hX
      have hr := run_append_nil (P := Γ.P) w t ty e i z hu hi hz ⟨β k, off, none⟩ m c0 ((part b.cs off (m * i.size)).map (SV.conc β)) (by simp [part_length hl]) (part_cells hR hb _ _) h0 (by omega) (by omega)
      have hge := grownCap_ge w m 0 e
      obtain ⟨β', hag, hnew, hR'⟩ := Rep.new (b := ⟨e, part b.cs off (m * i.size) ++ ((Builtin.zeroCells z.cells (grownCap w m 0 e - m)).toList.map .v)⟩) (hR.ext (Ext.drew Γ.ev Γ.B w)) hTM
        (fun y hy => by
          rcases List.mem_append.1 hy with hy | hy
          · exact part_ok (hR.ok hb) y hy
          · exact vals_ok y hy)
      refine go (.slice (some ⟨w.heap.size, 0, none⟩) m (grownCap w m 0 e)) _ (.s (.sl H.length 0 m (grownCap w m 0 e))) _ β' ?_ (hX (grownCap w m 0 e) (Builtin.zeroCells z.cells (grownCap w m 0 e - m)).toList hge (by rw [Array.length_toList, size_zeroCells, hzs])) hag (by simp) hR' ?_
      · rw [hev s, hev x, hs, hx, conc_v, conc_sl, hr]
        congr 1
        simp only [AB.conc, List.map_append, vals_conc]
        congr 2
        simp
      · intro β'' h''
        have h3 := h'' H.length (by simp)
        rw [hnew] at h3
        rw [conc_sl, h3]
        rfl
    · rename_i j n cap news m hs hn
      obtain ⟨b0, hb0, ⟨hbt, hcap, hnc, ⟨i, z, hi, hz, hzs, hby, h63⟩, hone, hTM⟩, hroom, hgrow⟩ := h
      obtain ⟨k, off, c0, b, hx, hb, hl, rfl⟩ := newsOf_spec hn
      have hsz : sz Γ.P e = i.size := by simp [sz, Program.cellsOf, hi]
      rw [hsz] at hl hcap hone hroom hgrow
      have hpl := part_length hl
      have hnl : n * i.size ≤ cap * i.size := Nat.mul_le_mul_right _ hnc
      by_cases hfit : n + m ≤ cap
      · have hfc : n * i.size + m * i.size ≤ b0.cs.length := by rw [← Nat.add_mul]; exact Nat.le_trans (Nat.mul_le_mul_right _ hfit) hcap
        have hblk := hR.blk β (.refl _ _) j b0 hb0
        simp only [AB.conc, hbt] at hblk
        have hr := run_append_room (P := Γ.P) w t ty e i hu hi (β j) n cap _ hblk ⟨β k, off, none⟩ m c0 ((part b.cs off (m * i.size)).map (SV.conc β)) (by simp [hpl]) (part_cells hR hb _ _)
          (fun u hu' => by
            simp only [List.mem_map] at hu'
            obtain ⟨y, hy, rfl⟩ := hu'
            have := hone y hy
            cases y with
            | v x => exact this
            | p j off => rfl
            | sl j off len cap => rfl) hfit (by simp [hpl]; exact hfc)
        have hR' := Rep.put (cs := b0.cs.take (n * i.size) ++ part b.cs off (m * i.size) ++ b0.cs.drop (n * i.size + (part b.cs off (m * i.size)).length)) hR hb0 (by simp [hpl]; omega)
          (fun y hy => by
            rcases List.mem_append.1 hy with hy | hy
            · rcases List.mem_append.1 hy with hy | hy
              · exact hR.ok hb0 y (List.mem_of_mem_take hy)
              · exact part_ok (hR.ok hb) y hy
            · exact hR.ok hb0 y (List.mem_of_mem_drop hy))
        refine go (.slice (some ⟨β j, 0, none⟩) (n + m) cap) _ (.s (.sl j 0 (n + m) cap)) _ β ?_ (hroom hfit) (.refl _ _) (by rw [putH_length]; exact Nat.le_refl _) hR' ?_
        · rw [hev s, hev x, hs, hx, conc_sl, conc_sl, hr]
          congr 2
          simp [List.map_take, List.map_drop]
        · intro β'' h''
          have hjl : j < H.length := (List.getElem?_eq_some_iff.1 hb0).1
          rw [conc_sl, h'' j (by rw [putH_length]; exact hjl)]
      · have hcn : cap < n + m := by omega
        have hnl2 : 0 + n * i.size ≤ b0.cs.length := by omega
        have holds : ∀ (q : Nat) (u : Value), ((part b0.cs 0 (n * i.size)).map (SV.conc β))[q]? = some u → w.cell? ((⟨β j, 0, none⟩ : Addr).add q) = some u := part_cells hR hb0 0 _
        have hr := run_append_grow (P := Γ.P) w t ty e i z hu hi hz ⟨β j, 0, none⟩ n cap ((part b0.cs 0 (n * i.size)).map (SV.conc β)) (by simp [part_length hnl2]) holds ⟨β k, off, none⟩ m c0 ((part b.cs off (m * i.size)).map (SV.conc β)) (by simp [hpl]) (part_cells hR hb _ _) hcn (by omega) (growslice_fits hcn hby)
        have hge := grownCap_ge w (n + m) cap e
        obtain ⟨β', hag, hnew, hR'⟩ := Rep.new (b := ⟨e, b0.cs.take (n * i.size) ++ part b.cs off (m * i.size) ++ ((Builtin.zeroCells z.cells (grownCap w (n + m) cap e - (n + m))).toList.map .v)⟩) (hR.ext (Ext.drew Γ.ev Γ.B w)) hTM
          (fun y hy => by
            rcases List.mem_append.1 hy with hy | hy
            · rcases List.mem_append.1 hy with hy | hy
              · exact hR.ok hb0 y (List.mem_of_mem_take hy)
              · exact part_ok (hR.ok hb) y hy
            · exact vals_ok y hy)
        refine go (.slice (some ⟨w.heap.size, 0, none⟩) (n + m) (grownCap w (n + m) cap e)) _ (.s (.sl H.length 0 (n + m) (grownCap w (n + m) cap e))) _ β' ?_ (hgrow hcn (grownCap w (n + m) cap e) (Builtin.zeroCells z.cells (grownCap w (n + m) cap e - (n + m))).toList hge (by rw [Array.length_toList, size_zeroCells, hzs])) hag (by simp) hR' ?_
        · rw [hev s, hev x, hs, hx, conc_sl, conc_sl, hr]
          congr 1
          simp only [AB.conc, List.map_append, vals_conc, part_eq, List.drop_zero]
          congr 2
          simp
        · intro β'' h''
          have h3 := h'' H.length (by simp)
          rw [hnew] at h3
          rw [conc_sl, h3]
          rfl
    · exact h.elim
  · exact h.elim
end
end Go.Ab
