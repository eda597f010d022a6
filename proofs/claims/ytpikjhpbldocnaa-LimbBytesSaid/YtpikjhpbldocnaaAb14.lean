/-
  Pieces of code, one ahead of another; rules for loops with new blocks.
-/
import Derived.Test.YtpikjhpbldocnaaAb13
namespace Go.Ab
open Go Go.RowKit
set_option linter.unusedSimpArgs false
set_option linter.unusedVariables false

theorem X_seqX {Γ : Ctx} {x y : Code} {T : List TV} {H : Heap} {Q : QX} (h : X Γ x T H (seqQ (fun T H => X Γ y T H Q) Q)) : X Γ (.seq x y) T H Q := by
  intro a w hs
  refine wp_seq (wp_mono (h a w hs) fun e a' w' ⟨T', H', hq, hs'⟩ => ?_)
  cases e with
  | normal => exact hq a' w' hs'
  | _ => exact ⟨T', H', hq, hs'⟩
theorem X_blockX {Γ : Ctx} {id : Nat} {b : Code} {T : List TV} {H : Heap} {Q : QX} (h : X Γ b T H (blockQ id Q)) : X Γ (.block id b) T H Q := by
  intro a w hs
  refine wp_block (wp_mono (h a w hs) fun e a' w' ⟨T', H', hq, hs'⟩ => ?_)
  cases e with
  | exit i =>
    simp only [Exit.inBlock]
    simp only [blockQ] at hq
    split
    · rename_i hi; simp only [hi, if_true] at hq; exact ⟨T', H', hq, hs'⟩
    · rename_i hi; simp only [hi, if_false] at hq; exact ⟨T', H', hq, hs'⟩
  | _ => exact ⟨T', H', hq, hs'⟩
/-- A function of values, and of what lies where they point. -/
def PureM (P : Program) (f : FuncId) (args : List TV) (pre : World → Prop) (r : TV) : Prop :=
  ∀ w, pre w → Calls P f (args.map (TV.conc fun _ => 0)).toArray w fun e w' => (∀ β, e = .returned (r.conc β)) ∧ Below w.heap.size w w'
theorem pureM_of {P : Program} {f : FuncId} {fn : Func} {c : Code} {args : List TV} {pre : World → Prop} {r : TV} (hf : P.funcs[f]? = some fn) (hb : fn.body = some c) (ha : ∀ x ∈ args, x.ok 0) (hr : r.ok 0)
    (h : ∀ w, pre w → X (ctx0 P w) c (args ++ List.replicate (fn.ntmps - args.length) undefT) [] (retQ P fn.results.toList fun v _ => v = r)) : PureM P f args pre r := by
  intro w hw
  refine (calls_of_X (Γ := ctx0 P w) hf hb (rep0 P w fun _ => 0) ha (h w hw)).mono ?_
  rintro e w' ⟨v, H', β', rfl, hR, he⟩
  refine ⟨fun β'' => ?_, below_of_rep0 hR⟩
  rw [he β' (.refl _ _)]
  rw [TV.conc_ok hr (β := β'') (β' := β') (fun j hj => absurd hj (Nat.not_lt_zero j))]
theorem bytesAt_stays {P : Program} {w w' : World} {H : Heap} {β : Nat → Nat} {ad : Addr} {n : Nat} {f : Nat → Nat} (hR : Rep (ctx0 P w) H β w') (h : bytesAt w ad n f) : bytesAt w' ad n f := by
  refine ⟨h.1, fun i hi => ?_⟩
  have h1 := h.2 i hi
  unfold World.cell? at h1 ⊢
  have hb := below_of_rep0 hR
  split at h1
  · rename_i c t fz hk
    have hlt : (ad.add i).block < w.heap.size := (Array.getElem?_eq_some_iff.1 hk).1
    rw [hb.block _ hlt, hk]
    exact h1
  · cases h1
def xbs (Γ : Ctx) (e : Option TypeId) (len : Nat) (ps : List (Nat × Operand)) (E : Operand → TV) (H : Heap) (K : TV → HE → Prop) : Prop :=
  match e with
  | some e => xnewS Γ e ((slice0 Γ.P e len).bind fun z => fillA (fun i => some (i * Γ.P.cellsOf e, Γ.P.cellsOf e)) z (ps.map fun p => (p.1, cellsOf (E p.2)))) H.length len K
  | none => False
theorem st_bs {Γ : Ctx} {t : TypeId} {len : Nat} {ps : List (Nat × Operand)} {E : Operand → TV} {H : Heap} {KK : TV → Heap → Prop} : xstep Γ (.buildSlice t len ps.toArray) E H KK = xbs Γ (slcOf Γ.P t) len ps E H fun v e => KK v (e.app H) := rfl
theorem xbs_some {Γ : Ctx} {e : TypeId} {len : Nat} {ps : List (Nat × Operand)} {E : Operand → TV} {H : Heap} {K : TV → HE → Prop} : xbs Γ (some e) len ps E H K = xnewS Γ e ((slice0 Γ.P e len).bind fun z => fillA (fun i => some (i * Γ.P.cellsOf e, Γ.P.cellsOf e)) z (ps.map fun p => (p.1, cellsOf (E p.2)))) H.length len K := rfl
theorem xappend_nil {Γ : Ctx} {e : TypeId} {nw : TypeId → Option (List SV × Nat)} {H : Heap} {K : TV → Heap → Prop} {news : List SV} {m : Nat} (hn : nw e = some (news, m)) :
    xappend Γ (some e) (.s (.v (.slice none 0 0))) nw H K = ((0 < m ∧ apOK Γ.P e m ∧ ¬ Γ.ev.TM e) ∧ ∀ (c : Nat) (sp : List Value), m ≤ c → sp.length = (c - m) * sz Γ.P e → K (.s (.sl H.length 0 m c)) (H ++ [⟨e, news ++ sp.map .v⟩])) := by
  unfold xappend
  simp only [hn]
theorem xappend_sl {Γ : Ctx} {e : TypeId} {nw : TypeId → Option (List SV × Nat)} {H : Heap} {K : TV → Heap → Prop} {news : List SV} {m j n cap : Nat} {b : AB} (hn : nw e = some (news, m)) (hb : H[j]? = some b) :
    xappend Γ (some e) (.s (.sl j 0 n cap)) nw H K = ((b.t = e ∧ cap * sz Γ.P e ≤ b.cs.length ∧ n ≤ cap ∧ apOK Γ.P e (n + m) ∧ oneAll news ∧ ¬ Γ.ev.TM e) ∧
        (n + m ≤ cap → K (.s (.sl j 0 (n + m) cap)) (putH H j (b.cs.take (n * sz Γ.P e) ++ news ++ b.cs.drop (n * sz Γ.P e + news.length)))) ∧
        (cap < n + m → ∀ (c : Nat) (sp : List Value), n + m ≤ c → sp.length = (c - (n + m)) * sz Γ.P e → K (.s (.sl H.length 0 (n + m) c)) (H ++ [⟨e, b.cs.take (n * sz Γ.P e) ++ news ++ sp.map .v⟩]))) := by
  unfold xappend
  simp only [hn, hb, Option.some.injEq, exists_eq_left']
theorem xappend_nil_i {Γ : Ctx} {e : TypeId} {nw : TypeId → Option (List SV × Nat)} {H : Heap} {K : TV → Heap → Prop} {news : List SV} {m : Nat} (hn : nw e = some (news, m)) (h1 : 0 < m) (h2 : apOK Γ.P e m) (h3 : ¬ Γ.ev.TM e)
    (h : ∀ (c : Nat) (sp : List Value), m ≤ c → sp.length = (c - m) * sz Γ.P e → K (.s (.sl H.length 0 m c)) (H ++ [⟨e, news ++ sp.map .v⟩])) : xappend Γ (some e) (.s (.v (.slice none 0 0))) nw H K := by
  rw [xappend_nil hn]
  exact ⟨⟨h1, h2, h3⟩, h⟩
theorem xappend_sl_i {Γ : Ctx} {e : TypeId} {nw : TypeId → Option (List SV × Nat)} {H : Heap} {K : TV → Heap → Prop} {news : List SV} {m j n cap : Nat} {b : AB} (hn : nw e = some (news, m)) (hb : H[j]? = some b) (ht : b.t = e)
    (hcap : cap * sz Γ.P e ≤ b.cs.length) (hnc : n ≤ cap) (hap : apOK Γ.P e (n + m)) (hone : oneAll news) (hTM : ¬ Γ.ev.TM e)
    (h1 : n + m ≤ cap → K (.s (.sl j 0 (n + m) cap)) (putH H j (b.cs.take (n * sz Γ.P e) ++ news ++ b.cs.drop (n * sz Γ.P e + news.length))))
    (h2 : cap < n + m → ∀ (c : Nat) (sp : List Value), n + m ≤ c → sp.length = (c - (n + m)) * sz Γ.P e → K (.s (.sl H.length 0 (n + m) c)) (H ++ [⟨e, b.cs.take (n * sz Γ.P e) ++ news ++ sp.map .v⟩])) : xappend Γ (some e) (.s (.sl j 0 n cap)) nw H K := by
  rw [xappend_sl hn hb]
  exact ⟨⟨ht, hcap, hnc, hap, hone, hTM⟩, h1, h2⟩
theorem news_barr {H : Heap} {k m c n : Nat} {t : TypeId} {f : Nat → Nat} (hn : n = 1) (hb : H[k]? = some ⟨t, barr m f⟩) : newsOf H n (.s (.sl k 0 m c)) = some (barr m f, m) := by
  subst hn
  have hl : (barr m f).length = m := by simp [barr]
  simp [newsOf, hb, hl, part]
theorem renS_nil {L : List Nat} : renS L [] = [] := rfl
theorem renS_cons {L : List Nat} {d : Nat} {v : TV} {r : List (Nat × TV)} : renS L ((d, v) :: r) = (d, v.ren (lk L)) :: renS L r := rfl
theorem ren_v {ρ : Nat → Nat} {x : Value} : TV.ren ρ (.s (.v x)) = .s (.v x) := rfl
theorem ren_p {ρ : Nat → Nat} {j o : Nat} : TV.ren ρ (.s (.p j o)) = .s (.p (ρ j) o) := rfl
theorem ren_sl {ρ : Nat → Nat} {j o n c : Nat} : TV.ren ρ (.s (.sl j o n c)) = .s (.sl (ρ j) o n c) := rfl
theorem selH_nil {H : Heap} : selH [] H [] = True := rfl
theorem selH_cons {l : Nat} {L : List Nat} {H' H : Heap} {b : AB} : selH (l :: L) H' (b :: H) = (H'[l]? = some b ∧ selH L H' H) := rfl
end Go.Ab
