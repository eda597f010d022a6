/-
  One operation's abstract step is what the model does.
-/
import Derived.Test.YtmipfmjeppodmaaAb2
import Derived.Deep.MidRow
import Derived.DeepKeys
namespace Go.Ab
open Go Go.RowKit
set_option linter.unusedSimpArgs false
set_option linter.unusedVariables false

def upd (β : Nat → Nat) (n g : Nat) : Nat → Nat := fun j => if j = n then g else β j
theorem upd_agrees (β : Nat → Nat) (n g : Nat) : Agrees n β (upd β n g) := fun j hj => by simp [upd, Nat.ne_of_lt hj]
theorem upd_same (β : Nat → Nat) (n g : Nat) : upd β n g n = g := by simp [upd]

/-- What an operation that calls nothing does to a world in which our blocks lie. -/
def Does (Γ : Ctx) (H : Heap) (β : Nat → Nat) (w : World) (v : TV) (e : HE) (r : Result Next) : Prop :=
  match e with
  | .none => r = .ok (.value (v.conc β)) w
  | .new b => ¬ Γ.ev.TM b.t ∧ (v = .s (.p H.length 0) ∨ ∃ k, v = .s (.sl H.length 0 k k)) ∧ r = .ok (.value (v.conc (upd β H.length w.heap.size))) (w.alloc (b.conc β))
  | .put j cs => v = undefT ∧ (∃ b, H[j]? = some b ∧ cs.length = b.cs.length) ∧ r = .ok .skip (w.setRow (β j) (cs.map (SV.conc β)).toArray)

def Sound (Γ : Ctx) (op : Op) (E : Operand → TV) (H : Heap) (v : TV) (e : HE) : Prop :=
  ∀ (o : Oper) (β : Nat → Nat) (ρ : Operand → Value) (w : World), o.op = op → (∀ x, ρ x = (E x).conc β) → Rep Γ H β w → Does Γ H β w v e ((execOp ρ o).run Γ.P w)

theorem pickT_conc (t : Bool) (a b : TV) (β : Nat → Nat) : (pickT t a b).conc β = if t then a.conc β else b.conc β := by
  unfold pickT
  split
  · cases t <;> simp [conc_v, conc_p, conc_sl, conc_agg, conc_tup]
  · cases t <;> rfl

theorem sound_pick {Γ : Ctx} {c a b : Operand} {E : Operand → TV} {H : Heap} {K : KT} (h : xpick (E c) (E a) (E b) K) :
    ∃ v e, K v e ∧ Sound Γ (.pick c a b) E H v e := by
  unfold xpick at h
  split at h
  · rename_i t hc
    refine ⟨_, _, h, fun o β ρ w ho hρ _ => ?_⟩
    simp [Does, execOp, ho, hρ, hc, conc_v, conc_p, conc_sl, conc_agg, conc_tup, asBool, pickT_conc]
  · exact h.elim

theorem sound_move {Γ : Ctx} {x : Operand} {E : Operand → TV} {H : Heap} {K : KT} (h : K (E x) .none) :
    ∃ v e, K v e ∧ Sound Γ (.move x) E H v e :=
  ⟨_, _, h, fun o β ρ w ho hρ _ => by simp [Does, execOp, ho, hρ]⟩
theorem sound_assign {Γ : Ctx} {x : Operand} {E : Operand → TV} {H : Heap} {K : KT} (h : K (E x) .none) :
    ∃ v e, K v e ∧ Sound Γ (.assign x) E H v e :=
  ⟨_, _, h, fun o β ρ w ho hρ _ => by simp [Does, execOp, ho, hρ]⟩

theorem zeroA_spec {P : Program} {t : TypeId} {l : List SV} (h : zeroA P t = some l) : ∃ i z, P.info? t = some i ∧ i.zero = some z ∧ ∀ β, z.cells = (l.map (SV.conc β)).toArray := by
  unfold zeroA zeroV at h
  cases hi : P.info? t with
  | none => simp [hi] at h
  | some i =>
    cases hz : i.zero with
    | none => simp [hi, hz] at h
    | some z =>
      simp only [hi, Option.bind_some, hz] at h
      exact ⟨i, z, rfl, hz, fun β => by have := cellsOf_conc h β; simpa [conc_v, conc_p, conc_sl, conc_agg, conc_tup] using this⟩

theorem sound_alloc {Γ : Ctx} {t : TypeId} {E : Operand → TV} {H : Heap} {K : KT} (h : xnew Γ t (zeroA Γ.P t) H.length K) :
    ∃ v e, K v e ∧ Sound Γ (.alloc t) E H v e := by
  unfold xnew at h
  split at h
  · rename_i cs hcs
    obtain ⟨i, z, hi, hz, hc⟩ := zeroA_spec hcs
    refine ⟨_, _, h.2, fun o β ρ w ho hρ _ => ⟨h.1, .inl rfl, ?_⟩⟩
    simp [execOp, ho, Instr.alloc, zeroValue, typeInfo, hi, hz, newVar, newRow, hc β, conc_v, conc_p, conc_sl, conc_agg, conc_tup, upd_same, AB.conc]
  · exact h.elim

theorem sound_box {Γ : Ctx} {t : TypeId} {x : Operand} {E : Operand → TV} {H : Heap} {K : KT} (h : xnew Γ t (cellsOf (E x)) H.length K) :
    ∃ v e, K v e ∧ Sound Γ (.box t x) E H v e := by
  unfold xnew at h
  split at h
  · rename_i cs hcs
    refine ⟨_, _, h.2, fun o β ρ w ho hρ _ => ⟨h.1, .inl rfl, ?_⟩⟩
    have hc := cellsOf_conc hcs β
    simp [execOp, ho, hρ, Instr.box, newVar, newRow, hc, conc_v, conc_p, conc_sl, conc_agg, conc_tup, upd_same, AB.conc]
  · exact h.elim

theorem setAt_conc (f : SV → Value) (off : Nat) : ∀ (vs : List SV) (k : Nat) (cells : List SV),
    ((vs.map f).zipIdx k).foldl (fun cs (c, j) => cs.setIfInBounds (off + j) c) (cells.map f).toArray = (((vs.zipIdx k).foldl (fun cs (c, j) => cs.set (off + j) c) cells).map f).toArray
  | [], _, _ => rfl
  | v :: vs, k, cells => by
    simp only [List.map_cons, List.zipIdx_cons, List.foldl_cons]
    have : (cells.map f).toArray.setIfInBounds (off + k) (f v) = ((cells.set (off + k) v).map f).toArray := by simp
    rw [this]
    exact setAt_conc f off vs (k + 1) _

theorem fill_parts {E : Operand → TV} {ρ : Operand → Value} {β : Nat → Nat} (hρ : ∀ x, ρ x = (E x).conc β) {place place' : Nat → Option (Nat × Nat)} (hp : ∀ i q, place i = some q → place' i = some q) :
    ∀ (parts : List (Nat × Operand)) (cells out : List SV), fillA place cells (parts.map fun p => (p.1, cellsOf (E p.2))) = some out →
      Instr.fill place' (cells.map (SV.conc β)).toArray (parts.map fun p => (p.1, ρ p.2)) = some (out.map (SV.conc β)).toArray
  | [], cells, out, h => by
    simp only [List.map_nil, fillA, Option.some.injEq] at h
    subst h
    rfl
  | p :: ps, cells, out, h => by
    simp only [List.map_cons, fillA] at h
    split at h
    · rename_i off size v h1 h2
      split at h
      · cases h
      · rename_i hc
        have hv := cellsOf_conc h2 β
        have ih := fill_parts hρ hp ps _ _ h
        simp only [List.map_cons, Instr.fill, hp _ _ h1, hρ, hv]
        have hsz : ((v.map (SV.conc β)).toArray.size ≠ size || decide (off + (v.map (SV.conc β)).toArray.size > (cells.map (SV.conc β)).toArray.size)) = false := by
          simpa using hc
        rw [hsz]
        simp only [Bool.false_eq_true, if_false]
        have := setAt_conc (SV.conc β) off v 0 cells
        rw [← ih]
        unfold setAt
        rw [← this]
        simp [hρ]
    · cases h


theorem mapM_known {P : Program} : ∀ (fs : List Field), (∀ f ∈ fs, (P.info? f.type).isSome = true) →
    fs.mapM (fun f => (P.info? f.type).map fun i => (f.offset, i.size)) = some (fs.map fun f => (f.offset, P.cellsOf f.type))
  | [], _ => rfl
  | f :: fs, h => by
    have h1 := h f (by simp)
    obtain ⟨i, hi⟩ := Option.isSome_iff_exists.1 h1
    have ih := mapM_known fs (fun g hg => h g (by simp [hg]))
    simp [List.mapM_cons, hi, ih, Program.cellsOf]

theorem sound_build {Γ : Ctx} {t : TypeId} {ps : Array (Nat × Operand)} {E : Operand → TV} {H : Heap} {K : KT}
    (h : known Γ.P t = true ∧ xbuild ((zeroA Γ.P t).bind fun z => fillA (placeOf Γ.P t) z (ps.toList.map fun p => (p.1, cellsOf (E p.2)))) K) :
    ∃ v e, K v e ∧ Sound Γ (.build t ps) E H v e := by
  obtain ⟨hk, h⟩ := h
  unfold xbuild at h
  split at h
  · rename_i cs hcs
    simp only [Option.bind_eq_some_iff] at hcs
    obtain ⟨zc, hz, hf⟩ := hcs
    obtain ⟨i, z, hi, hz0, hzc⟩ := zeroA_spec hz
    refine ⟨_, _, h, fun o β ρ w ho hρ _ => ?_⟩
    have hb : Γ.P.built t ((ps.map fun p => (p.1, ρ p.2)).toList) = some (cs.map (SV.conc β)).toArray := by
      rw [Array.toList_map]
      unfold Program.built
      unfold known at hk
      cases hu : Γ.P.underlying t with
      | none => simp [hu] at hk
      | some d =>
        cases d <;> simp only [hu, Bool.false_eq_true] at hk
        case array n e =>
          obtain ⟨ie, hie⟩ := Option.isSome_iff_exists.1 hk
          have hce : Γ.P.cellsOf e = ie.size := by simp [Program.cellsOf, hie]
          simp only [hi, hz0, hie, hzc β]
          exact fill_parts hρ (fun j q hq => by simp only [placeOf, hu, hce] at hq; exact hq) _ _ _ hf
        case struct fs =>
          have hm := mapM_known (P := Γ.P) fs.toList (fun f hfm => by
            have := Array.all_eq_true_iff_forall_mem.1 hk f (by simpa using hfm)
            exact this)
          simp only [hi, hz0, hm, hzc β]
          refine fill_parts hρ (fun j q hq => ?_) _ _ _ hf
          simp only [placeOf, hu] at hq
          simpa using hq
    have hrun := run_build (P := Γ.P) w t (ps.map fun p => (p.1, ρ p.2)) _ hb
    simp only [Does, execOp, ho, Sem.run_bind]
    rw [hrun]
    simp [TV.conc]
  · exact h.elim

theorem arrOf_spec {P : Program} {t : TypeId} {n : Nat} {e : TypeId} (h : arrOf P t = some (n, e)) : P.underlying t = some (.array n e) ∧ ∃ i, P.info? e = some i := by
  unfold arrOf at h
  split at h
  · split at h
    · rename_i hi
      simp only [Option.some.injEq, Prod.mk.injEq] at h
      obtain ⟨rfl, rfl⟩ := h
      exact ⟨by assumption, Option.isSome_iff_exists.1 hi⟩
    · cases h
  · cases h
theorem slcOf_spec {P : Program} {t e : TypeId} (h : slcOf P t = some e) : P.underlying t = some (.slice e) ∧ ∃ i, P.info? e = some i := by
  unfold slcOf at h
  split at h
  · split at h
    · rename_i hi
      simp only [Option.some.injEq] at h
      subst h
      exact ⟨by assumption, Option.isSome_iff_exists.1 hi⟩
    · cases h
  · cases h

theorem sound_buildSlice {Γ : Ctx} {t : TypeId} {len : Nat} {ps : Array (Nat × Operand)} {E : Operand → TV} {H : Heap} {K : KT}
    (h : match slcOf Γ.P t with
      | some e => xnewS Γ e ((slice0 Γ.P e len).bind fun z => fillA (fun i => some (i * Γ.P.cellsOf e, Γ.P.cellsOf e)) z (ps.toList.map fun p => (p.1, cellsOf (E p.2)))) H.length len K
      | none => False) :
    ∃ v e, K v e ∧ Sound Γ (.buildSlice t len ps) E H v e := by
  split at h
  · rename_i e he
    obtain ⟨hu, _⟩ := slcOf_spec he
    unfold xnewS at h
    split at h
    · rename_i cs hcs
      simp only [Option.bind_eq_some_iff] at hcs
      obtain ⟨z0, hz, hf⟩ := hcs
      unfold slice0 at hz
      simp only [Option.bind_eq_some_iff] at hz
      obtain ⟨zc, hzA, hz⟩ := hz
      split at hz
      · cases hz
      · rename_i hlen
        simp only [not_or, Nat.not_lt, gt_iff_lt, ne_eq, Decidable.not_not] at hlen
        simp only [Option.some.injEq] at hz
        obtain ⟨i, z, hi, hz0, hzc⟩ := zeroA_spec hzA
        refine ⟨_, _, h.2, fun o β ρ w ho hρ _ => ⟨h.1, .inr ⟨_, rfl⟩, ?_⟩⟩
        have hsz : Γ.P.cellsOf e = i.size := by simp [Program.cellsOf, hi]
        have hfill := fill_parts hρ (β := β) (place := fun i => some (i * Γ.P.cellsOf e, Γ.P.cellsOf e)) (place' := fun j => some (j * i.size, i.size)) (fun j q hq => by rw [hsz] at hq; exact hq) _ _ _ hf
        have hzz : (z0.map (SV.conc β)).toArray = (Array.range (len * i.size)).map (fun j => (if len * i.size = 0 then #[] else z.cells)[j % (if len * i.size = 0 then #[] else z.cells).size]!) := by
          rw [← hz, hsz]
          apply Array.ext
          · simp
          · intro j h1 h2
            have hj : j < len * i.size := by simpa using h2
            have hne : len * i.size ≠ 0 := by omega
            have hzs : zc.length = i.size := by rw [← hsz]; exact hlen.2
            have hpos : 0 < i.size := Nat.pos_of_ne_zero (fun h0 => hne (by rw [h0, Nat.mul_zero]))
            have hm : j % i.size < i.size := Nat.mod_lt _ hpos
            simp [hne, hzc β, hzs, hm]
        have hlen1 : ¬ len * i.size > 2 ^ 24 := by rw [← hsz]; omega
        simp only [execOp, ho]
        simp only [Instr.buildSlice, Sem.run_bind, run_underlying hu, Result.andThen_ok, sizeOf, typeInfo, Sem.run_pure, run_program, hi, hlen1, if_false]
        have hzrun : ∀ (k : Array Value → Sem Next) , True := fun _ => trivial
        by_cases h0 : len * i.size = 0
        · simp only [h0, if_true] at hzz
          simp [h0, newRow, conc_v, conc_p, conc_sl, conc_agg, conc_tup, upd_same, AB.conc]
          have : Instr.fill (fun j => some (j * i.size, i.size)) (Array.map (fun j => (#[] : Array Value)[j % (#[] : Array Value).size]!) (Array.range 0)) (List.map (fun p => (p.1, ρ p.2)) ps.toList) = some (cs.map (SV.conc β)).toArray := by
            rw [← hfill]; congr 1; rw [hzz]
          simp at this
          simp [this]
        · simp only [h0, if_false] at hzz
          simp [h0, zeroValue, typeInfo, hi, hz0, newRow, conc_v, conc_p, conc_sl, conc_agg, conc_tup, upd_same, AB.conc]
          have : Instr.fill (fun j => some (j * i.size, i.size)) (Array.map (fun j => z.cells[j % z.cells.size]!) (Array.range (len * i.size))) (List.map (fun p => (p.1, ρ p.2)) ps.toList) = some (cs.map (SV.conc β)).toArray := by
            rw [← hfill]; congr 1; rw [hzz]
          simp [this]
    · exact h.elim
  · exact h.elim

/-! Try# Loads -/
theorem cellOf {Γ : Ctx} {H : Heap} {β : Nat → Nat} {w : World} (hR : Rep Γ H β w) {j : Nat} {b : AB} (hb : H[j]? = some b) (i : Nat) : w.cell? ⟨β j, i, none⟩ = (b.cs[i]?).map (SV.conc β) := by
  have := hR.blk β (.refl _ _) j b hb
  simp [World.cell?, this, AB.conc]

theorem frozenOf {Γ : Ctx} {H : Heap} {β : Nat → Nat} {w : World} (hR : Rep Γ H β w) {j : Nat} {b : AB} (hb : H[j]? = some b) (i : Nat) : w.frozen? ⟨β j, i, none⟩ = false := by
  have := hR.blk β (.refl _ _) j b hb
  simp [World.frozen?, this, AB.conc]

theorem rowOf_true {P : Program} {t : TypeId} (h : rowOf P t = some true) : ∃ d, P.underlying t = some d ∧ d.isRow = true := by
  unfold rowOf at h
  split at h
  · exact ⟨_, ‹_›, rfl⟩
  · exact ⟨_, ‹_›, rfl⟩
  · cases h
  · cases h
theorem rowOf_false {P : Program} {t : TypeId} (h : rowOf P t = some false) : ∃ d, P.underlying t = some d ∧ d.isRow = false := by
  unfold rowOf at h
  split at h
  · cases h
  · cases h
  · rename_i d h1 h2 hd
    refine ⟨d, hd, ?_⟩
    cases d <;> first | rfl | (exfalso; simp_all; done)
  · cases h

theorem run_isAgg {P : Program} {t : TypeId} {d : TypeDesc} (hu : P.underlying t = some d) (w : World) : (Go.isAgg t).run P w = .ok d.isRow w := by
  unfold Go.isAgg
  rw [Sem.run_bind, run_underlying hu w]
  cases d <;> rfl

theorem run_loadAt_one {P : Program} {t : TypeId} (ht : rowOf P t = some false) {w : World} {ad : Addr} {u : Value} (hc : w.cell? ad = some u) :
    (Instr.loadAt t (.pointer (some ad))).run P w = .ok u w := by
  obtain ⟨d, hu, hd⟩ := rowOf_false ht
  simp [Instr.loadAt, Instr.sureAddr, loadVar, run_isAgg hu, hd, run_load, hc]

theorem info_of_row {P : Program} {t : TypeId} {d : TypeDesc} (hu : P.underlying t = some d) : (P.info? t).map (·.size) = some (P.cellsOf t) := by
  obtain ⟨i, hi⟩ := info_of_underlying hu
  simp [hi, Program.cellsOf]

theorem run_loadAt_row {P : Program} {t : TypeId} (ht : rowOf P t = some true) {w : World} {b off : Nat} {cs : List Value} (hl : cs.length = P.cellsOf t) (hc : w.rangeAt b off cs) :
    (Instr.loadAt t (.pointer (some ⟨b, off, none⟩))).run P w = .ok (.agg cs.toArray) w := by
  obtain ⟨d, hu, hd⟩ := rowOf_true ht
  exact run_loadAt_mid w b off t cs d hc hu hd (by rw [hl]; exact info_of_row hu)

theorem extCell_at {Γ : Ctx} {H : Heap} {β : Nat → Nat} {w : World} (hR : Rep Γ H β w) {ad : Addr} {x : Value} (h : extCell Γ ad x) : w.cell? ad = some x := by
  obtain ⟨c, t, f, hs, hk, hx, ho, ht⟩ := h
  have hlt : ad.block < Γ.W.heap.size := (Array.getElem?_eq_some_iff.1 hk).1
  have : w.heap[ad.block]? = some (.cells c t f) := by
    rcases hR.fr.blk ad.block hlt with h1 | h1 | ⟨_, o, o', h1, h2, hE⟩
    · exact absurd h1 ho
    · rw [h1, hk]
    · rw [hk] at h1
      injection h1 with h1
      subst h1
      obtain ⟨c', t', f', he, hT⟩ := Γ.ev.ofE _ _ hE
      injection he with _ he _
      subst he
      exact absurd hT ht
  simp [World.cell?, this, hs, hx]

theorem sound_load {Γ : Ctx} {t : TypeId} {x : Operand} {E : Operand → TV} {H : Heap} {K : KT} (h : xload Γ t (E x) H K) :
    ∃ v e, K v e ∧ Sound Γ (.load t x) E H v e := by
  unfold xload at h
  split at h
  · rename_i j off hx
    unfold xpart at h
    split at h
    · rename_i cs hrow hcs
      simp only [Option.map_eq_some_iff] at hcs
      obtain ⟨b, hb, rfl⟩ := hcs
      obtain ⟨hlen, hK⟩ := h
      refine ⟨_, _, hK, fun o β ρ w ho hρ hR => ?_⟩
      have hpl : (part b.cs off (sz Γ.P t)).length = Γ.P.cellsOf t := by rw [part_eq, List.length_take, List.length_drop]; simp only [sz] at hlen ⊢; omega
      have hr := run_loadAt_row (P := Γ.P) (w := w) (b := β j) (off := off) (cs := (part b.cs off (sz Γ.P t)).map (SV.conc β)) hrow (by simpa using hpl) (fun i v hv => by
        rw [cellOf hR hb, part_eq] at *
        simp only [List.getElem?_map, List.getElem?_take, List.getElem?_drop] at hv
        split at hv
        · exact hv
        · simp at hv)
      have hx' : (E x).conc β = .pointer (some ⟨β j, off, none⟩) := by rw [hx]; rfl
      simp only [Does, execOp, ho, hρ, hx', Sem.run_bind, hr, Result.andThen_ok, Sem.run_pure, conc_agg]
    · rename_i cs hrow hcs
      simp only [Option.map_eq_some_iff] at hcs
      obtain ⟨b, hb, rfl⟩ := hcs
      unfold xcell at h
      split at h
      · rename_i y hy
        refine ⟨_, _, h, fun o β ρ w ho hρ hR => ?_⟩
        have hr := run_loadAt_one (P := Γ.P) (w := w) (ad := ⟨β j, off, none⟩) (u := y.conc β) hrow (by rw [cellOf hR hb, hy]; rfl)
        have hx' : (E x).conc β = .pointer (some ⟨β j, off, none⟩) := by rw [hx]; rfl
        simp only [Does, execOp, ho, hρ, hx', Sem.run_bind, hr, Result.andThen_ok, Sem.run_pure, conc_s]
      · exact h.elim
    · exact h.elim
  · rename_i ad hx
    unfold xext at h
    split at h
    · rename_i hrow
      obtain ⟨l, hl, hs, hc, hK⟩ := h
      refine ⟨_, _, hK, fun o β ρ w ho hρ hR => ?_⟩
      obtain ⟨bl, of, sp⟩ := ad
      simp only at hs
      subst hs
      have hr := run_loadAt_row (P := Γ.P) (w := w) (b := bl) (off := of) (cs := l) hrow hl (fun i v hv => extCell_at hR (hc i v hv))
      have hx' : (E x).conc β = .pointer (some ⟨bl, of, none⟩) := by rw [hx]; rfl
      have hl' : (TV.agg (l.map .v)).conc β = .agg l.toArray := by simp [conc_agg, Function.comp_def, SV.conc]
      simp only [Does, execOp, ho, hρ, hx', Sem.run_bind, hr, Result.andThen_ok, Sem.run_pure, hl']
    · rename_i hrow
      obtain ⟨y, hy, hK⟩ := h
      refine ⟨_, _, hK, fun o β ρ w ho hρ hR => ?_⟩
      have hr := run_loadAt_one (P := Γ.P) (w := w) (ad := ad) (u := y) hrow (extCell_at hR hy)
      have hx' : (E x).conc β = .pointer (some ad) := by rw [hx]; rfl
      simp only [Does, execOp, ho, hρ, hx', Sem.run_bind, hr, Result.andThen_ok, Sem.run_pure, conc_v]
    · exact h.elim
  · exact h.elim

/-! Try# Stores -/
theorem run_storeCells_at {P : Program} (g off : Nat) (t : TypeId) : ∀ (vs : List Value) (i : Nat) (cur : Array Value) (w : World), w.heap[g]? = some (.cells cur t (0, 0)) → off + i + vs.length ≤ cur.size → (∀ v ∈ vs, v.oneCell' = true) →
    (storeCells ⟨g, off, none⟩ vs i).run P w = .ok () (w.setRow g (cur.toList.take (off + i) ++ (vs ++ cur.toList.drop (off + i + vs.length))).toArray)
  | [], i, cur, w, hg, _, _ => by
    have hlt : g < w.heap.size := (Array.getElem?_eq_some_iff.1 hg).1
    have hv : w.heap[g] = .cells cur t (0, 0) := (Array.getElem?_eq_some_iff.1 hg).2
    simp only [storeCells, List.nil_append, List.length_nil, Nat.add_zero, List.take_append_drop, Array.toArray_toList]
    show Result.ok () w = _
    congr 1
    unfold World.setRow
    cases w with
    | mk heap tape drawn os output =>
      congr 1
      apply Array.ext
      · simp
      · intro k h1 h2
        simp only [Array.getElem_modify]
        split
        · rename_i hk; subst hk; simp at hv; simp [hv]
        · rfl
  | v :: rest, i, cur, w, hg, hl, h1 => by
    have hi : off + i < cur.size := by simp at hl; omega
    have hadd : (⟨g, off, none⟩ : Addr).add i = ⟨g, off + i, none⟩ := Addr.add_mid g off i
    have hcell : w.cell? ⟨g, off + i, none⟩ = some cur[off + i] := by simp [World.cell?, hg, hi]
    have hfro : w.frozen? ⟨g, off + i, none⟩ = false := by simp [World.frozen?, hg]
    have hst : (store ((⟨g, off, none⟩ : Addr).add i) v).run P w = .ok () (w.setRow g (cur.setIfInBounds (off + i) v)) := by
      rw [hadd, run_store P w _ v _ (h1 v (by simp)), hcell]
      simp [hfro, setCell_eq_setRow w g (off + i) cur t (0, 0) v hg]
    have ih := run_storeCells_at (P := P) g off t rest (i + 1) (cur.setIfInBounds (off + i) v) (w.setRow g (cur.setIfInBounds (off + i) v)) (setRow_heap w g cur _ t _ hg) (by simp at hl ⊢; omega) (fun x hx => h1 x (by simp [hx]))
    simp only [storeCells, Sem.run_bind, hst, Result.andThen_ok, ih, setRow_setRow]
    congr 3
    apply List.ext_getElem?
    intro k
    simp only [Array.toList_setIfInBounds, List.getElem?_append, List.length_take, List.length_set, Array.length_toList, List.getElem?_take, List.getElem?_set, List.getElem?_drop, List.length_cons, List.getElem?_cons]
    by_cases hk : k < off + i
    · simp [hk, show k < off + (i + 1) by omega, show min (off + (i + 1)) cur.size = off + (i + 1) by omega, show min (off + i) cur.size = off + i by omega, show off + i ≠ k by omega]
    · by_cases hk2 : k = off + i
      · subst hk2
        simp [show min (off + (i + 1)) cur.size = off + (i + 1) by omega, show min (off + i) cur.size = off + i by omega, show off + i < off + (i + 1) by omega, hi]
      · simp only [hk, if_false, show ¬ k < off + (i + 1) by omega, show min (off + (i + 1)) cur.size = off + (i + 1) by omega, show min (off + i) cur.size = off + i by omega, show k - (off + i) = (k - (off + (i + 1))) + 1 by omega, Nat.add_sub_cancel]
        by_cases hk3 : k - (off + (i + 1)) < rest.length
        · simp [hk3]
        · simp only [hk3, if_false, Nat.add_lt_add_iff_right]
          rw [if_neg (by omega)]
          simp
          congr 1
          omega

theorem Addr.noSpot (b o : Nat) : (⟨b, o, none⟩ : Addr).spot = none := rfl

theorem sound_store {Γ : Ctx} {t : TypeId} {x y : Operand} {E : Operand → TV} {H : Heap} {K : KT} (h : xstore Γ t (E x) (E y) H K) :
    ∃ v e, K v e ∧ Sound Γ (.store t x y) E H v e := by
  unfold xstore at h
  split at h
  · rename_i j off hx
    unfold xput at h
    split at h
    · rename_i b cs hb hcs
      obtain ⟨hn, hlen, hone, hK⟩ := h
      have hsl : (splice b.cs off cs).length = b.cs.length := by rw [splice_eq _ _ _ hlen]; simp; omega
      refine ⟨_, _, hK, fun o β ρ w ho hρ hR => ⟨rfl, ⟨b, hb, hsl⟩, ?_⟩⟩
      have hy := cellsOf_conc hcs β
      have hblk := hR.blk β (.refl _ _) j b hb
      have hst := run_storeCells_at (P := Γ.P) (β j) off b.t (cs.map (SV.conc β)) 0 (b.cs.map (SV.conc β)).toArray w hblk (by simpa using hlen) (fun v hv => by
        simp only [List.mem_map] at hv
        obtain ⟨c, hc, rfl⟩ := hv
        have := hone c hc
        cases c with
        | v x => exact this
        | p j off => rfl
        | sl j off len cap => rfl)
      have hi : ∃ i, Γ.P.info? t = some i ∧ i.size = cs.length := by
        unfold szO at hn
        simpa [Option.map_eq_some_iff] using hn
      obtain ⟨i, hi, his⟩ := hi
      have hcsz : (((E y).conc β).cells).size = i.size := by rw [hy]; simp [his]
      simp only [execOp, ho, hρ, hx, conc_v, conc_p, conc_sl, conc_agg, conc_tup, Instr.storeAt, Instr.sureAddr, storeVar, sizeOf, typeInfo, Sem.run_bind, Sem.run_pure, Result.andThen_ok, run_program, hi, hcsz, ne_eq, not_true_eq_false, if_false, hy]
      have hcs2 : (cs.map (SV.conc β)).toArray.size = i.size := by simp [his]
      simp only [hcs2, not_true_eq_false, if_false, hst, Result.andThen_ok, Sem.run_pure]
      congr 3
      rw [splice_eq _ _ _ hlen]
      simp [List.map_take, List.map_drop]
    · exact h.elim
  · exact h.elim

end Go.Ab
