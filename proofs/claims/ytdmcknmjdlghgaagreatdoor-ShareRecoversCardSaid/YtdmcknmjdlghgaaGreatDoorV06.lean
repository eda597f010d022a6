/-
  A branch, each way by itself.
  Functions that read what is known and hand back new blocks; what is added to a row, in one law.
  A Mod of ours is let go: what was known stays known.
  Numbers in a row, in memory that is known: slices of numbers.
  A row of ours is handed on: what it is told of is its place.
  Points in a row: two numbers each.
  What is added to a row that has something: both ways, each told outright.
  Maps whose keys are numbers: what the model does with them.
  Code beside which something is said of the world: what lies in a map.
  Factors in a row, proofs in a row: memory that is known.
  Types of package pratt.
  Types of package group.
  Types of package share.
  A call in the midst of code beside which something is said of the world; functions of that kind.
  Functions that hand back new blocks that point to one another.
  Groups: what lies in memory, and what is known of it.
  The calls' laws once more, over groups; the rules in one bundle.
  Numbers in rows: what appends and slices need.
  Types of package modq.
-/
import Derived.DeepKeys3
import Derived.MapKept
import Derived.Test.YtdmcknmjdlghgaaGreatDoorV01
import Derived.Test.YtdmcknmjdlghgaaGreatDoorV02
import Derived.Test.YtdmcknmjdlghgaaGreatDoorV03
import Derived.Test.YtdmcknmjdlghgaaGreatDoorV05
namespace Go.Ab
open Go Go.RowKit
set_option linter.unusedSimpArgs false
set_option linter.unusedVariables false
theorem X_condX {Γ : Ctx} {c : Operand} {x y : Code} {T : List TV} {H : Heap} {Q : QX} (h : xcond (ev T c) (X Γ x T H Q) (X Γ y T H Q)) : X Γ (.cond c x y) T H Q := by
  intro a w hs
  unfold xcond at h
  split at h
  · rename_i b hb
    obtain ⟨β, hT, hR, hd⟩ := hs
    have hev := eval_ev (a := a) (hT β (.refl _ _)) c
    rw [hb] at hev
    have hs' : St Γ T H a w := ⟨β, hT, hR, hd⟩
    cases b with
    | true => exact wp_cond_true hev (h.1 rfl a w hs')
    | false => exact wp_cond_false hev (h.2 rfl a w hs')
  · exact h.elim
section
variable {Γ : Ctx} {ops : Array Oper} {H H0 : Heap} {M : List Nat} {T : List TV} {KL : List TV → Heap → Prop} {dst : Option Tmp} {ty : TypeId} {pos : String} {af : Array Edge}
theorem xAtM_load {t : TypeId} {a : Operand} : xAtM Γ ops H0 M (some ⟨dst, .load t a, ty, pos, af, none⟩) T H KL = xload Γ t (ev T a) H (fun v e => famL M 0 H0 (e.app H) ∧ KL (putT T dst v) (e.app H)) := by simp [xAtM, xop]
end
def EvN (V : Evo) (P : Program) (f : FuncId) (args : List TV) (pre : Nat → World → Prop) (R : TV → Heap → Prop) : Prop :=
  ∀ B w, pre B w → Calls P f (args.map (TV.conc fun _ => 0)).toArray w fun e w' =>
    ∃ v H' β', R v H' ∧ (∀ b ∈ H', ∀ x ∈ b.cs, x.ok 0) ∧ v.ok H'.length ∧ Rep (ctxE P V w B) H' β' w' ∧ e = .returned (v.conc β')
def Gives (R : TV → Heap → Prop) (v : TV) (H' : Heap) : Prop := ∃ L v2 H2, R v2 H2 ∧ L.Nodup ∧ v = v2.ren (lk L) ∧ v2.ok H2.length ∧ selH L H' H2 ∧ ∀ b ∈ H2, ∀ x ∈ b.cs, x.ok 0
theorem evN_of {V : Evo} {P : Program} {f : FuncId} {fn : Func} {c : Code} {args : List TV} {pre : Nat → World → Prop} {R : TV → Heap → Prop} (hf : P.funcs[f]? = some fn) (hb : fn.body = some c) (ha : ∀ x ∈ args, x.ok 0)
    (h : ∀ B w, pre B w → X (ctxE P V w B) c (args ++ List.replicate (fn.ntmps - args.length) undefT) [] (retQ P fn.results.toList (Gives R))) : EvN V P f args pre R := by
  intro B w hp
  refine (calls_of_X (Γ := ctxE P V w B) hf hb (repE P V w B _) ha (h B w hp)).mono ?_
  rintro e w' ⟨v, H', β', ⟨L, v2, H2, hR2, hLn, rfl, hok, hsel, hcs⟩, hR, he⟩
  obtain ⟨hlen, hblk⟩ := selH_spec hsel
  have hlt : ∀ k, k < H2.length → ∃ b, H2[k]? = some b ∧ H'[lk L k]? = some b := fun k hk => by
    obtain ⟨l, h1, h2⟩ := hblk k _ (List.getElem?_eq_getElem hk)
    exact ⟨_, List.getElem?_eq_getElem hk, by simp only [lk, List.getD_eq_getElem?_getD, h1, Option.getD_some]; exact h2⟩
  have hlt' : ∀ k, k < H2.length → lk L k < H'.length := fun k hk => by
    obtain ⟨b, _, h2⟩ := hlt k hk
    exact (List.getElem?_eq_some_iff.1 h2).1
  refine ⟨v2, H2, β' ∘ lk L, hR2, hcs, hok, ?_, by rw [he β' (.refl _ _), TV.conc_ren]⟩
  refine ⟨⟨Nat.zero_le _, fun k hk => absurd hk (Nat.not_lt_zero k)⟩, hR.fr, fun p q hp hq hpq => ?_, fun k hk => hR.lie _ (hlt' k hk), fun k b hb => ?_, fun β'' h'' k b hb => ?_⟩
  · have h1 := hR.inj _ _ (hlt' p hp) (hlt' q hq) hpq
    have hpL : p < L.length := by rw [← hlen]; exact hp
    have hqL : q < L.length := by rw [← hlen]; exact hq
    simp only [lk, List.getD_eq_getElem?_getD, List.getElem?_eq_getElem hpL, List.getElem?_eq_getElem hqL, Option.getD_some] at h1
    exact nodup_inj hLn hpL hqL h1
  · obtain ⟨b', h1, h2⟩ := hlt k (List.getElem?_eq_some_iff.1 hb).1
    rw [hb] at h1
    injection h1 with h1
    subst h1
    exact hR.typ _ b h2
  · obtain ⟨b', h1, h2⟩ := hlt k (List.getElem?_eq_some_iff.1 hb).1
    rw [hb] at h1
    injection h1 with h1
    subst h1
    have h3 := hR.blk β' (.refl _ _) _ b h2
    rw [Function.comp_apply, h3]
    simp only [AB.conc]
    rw [SV.concs_ok (hcs b (List.mem_of_getElem? hb)) (β := β') (β' := β'') (fun j hj => absurd hj (Nat.not_lt_zero j))]
theorem xcall_evn {Γ : Ctx} {H : Heap} {f : FuncId} {args : List TV} {R : TV → Heap → Prop} {K : TV → Heap → Prop} (hc : callable Γ.P f = true)
    (h : ∀ β w, Rep Γ H β w → ∃ pre, EvN Γ.ev Γ.P f (args.map (TV.fz [] β)) pre R ∧ pre Γ.B w)
    (hK : ∀ v H', R v H' → K (v.ren (· + H.length)) (H ++ H')) : xcallF Γ H f args K := by
  refine xcall_gen (fun r H2 => ∃ v H', R v H' ∧ r = v.ren (· + H.length) ∧ H2 = H ++ H') hc ?_ fun r H2 ⟨v, H', hR, hr, hH⟩ => by subst hr; subst hH; exact hK v H' hR
  intro β w hR
  have e : args.map (TV.conc β) = (args.map (TV.fz [] β)).map (TV.conc fun _ => 0) := by
    rw [List.map_map]
    exact List.map_congr_left fun x _ => (TV.fz_conc (fun i j h => by simp at h) x).symm
  rw [e]
  obtain ⟨pre, h1, h2⟩ := h β w hR
  refine (h1 Γ.B w h2).mono ?_
  rintro e w' ⟨v, H', β', hRv, hcs, hok, hR', he⟩
  have hRw := hR.ext (ext_of_repE hR')
  let β2 : Nat → Nat := fun j => if j < H.length then β j else β' (j - H.length)
  have hag : Agrees H.length β β2 := fun j hj => by simp [β2, hj]
  have hag2 : ∀ j, β2 (j + H.length) = β' j := fun j => by simp [β2, show ¬ j + H.length < H.length by omega]
  have hbig : ∀ j, j < H'.length → w.heap.size ≤ β' j := fun j hj => by
    rcases hR'.lie j hj with h1 | h1
    · exact h1
    · exact h1.elim
  have hsm : ∀ j, j < H.length → β j < w.heap.size := fun j hj => hR.lt hj
  refine ⟨v.ren (· + H.length), H ++ H', β2, ⟨v, H', hRv, rfl, rfl⟩, hag, by simp, ?_, fun β'' h'' => ?_⟩
  · refine ⟨⟨by simp; exact Nat.le_trans hR.anc.1 (Nat.le_add_right _ _), hR.anc.2.trans (hag.mono hR.anc.1)⟩, hRw.fr, fun p q hp hq hpq => ?_, fun j hj => ?_, fun j b hb => ?_, fun β'' h'' j b hb => ?_⟩
    · simp only [List.length_append] at hp hq
      by_cases h1 : p < H.length
      · by_cases h2 : q < H.length
        · simp only [β2, h1, h2, if_true] at hpq
          exact hR.inj p q h1 h2 hpq
        · simp only [β2, h1, h2, if_true, if_false] at hpq
          have := hsm p h1
          have := hbig (q - H.length) (by omega)
          omega
      · by_cases h2 : q < H.length
        · simp only [β2, h1, h2, if_true, if_false] at hpq
          have := hsm q h2
          have := hbig (p - H.length) (by omega)
          omega
        · simp only [β2, h1, h2, if_false] at hpq
          have := hR'.inj _ _ (by omega) (by omega) hpq
          omega
    · simp only [List.length_append] at hj
      by_cases h1 : j < H.length
      · simp only [β2, h1, if_true]; exact hR.lie j h1
      · simp only [β2, h1, if_false]
        exact .inl (Nat.le_trans hR.fr.size (hbig _ (by omega)))
    · by_cases h1 : j < H.length
      · rw [List.getElem?_append_left h1] at hb
        exact hR.typ j b hb
      · rw [List.getElem?_append_right (by omega)] at hb
        exact hR'.typ _ b hb
    · by_cases h1 : j < H.length
      · rw [List.getElem?_append_left h1] at hb
        simp only [β2, h1, if_true]
        refine hRw.blk β'' (hag.trans (h''.mono (by simp))) j b hb
      · rw [List.getElem?_append_right (by omega)] at hb
        simp only [β2, h1, if_false]
        rw [hR'.blk β' (.refl _ _) _ b hb]
        simp only [AB.conc]
        rw [SV.concs_ok (hcs b (List.mem_of_getElem? hb)) (β := β') (β' := β'') (fun j hj => absurd hj (Nat.not_lt_zero j))]
  · rw [he, TV.conc_ren]
    congr 1
    refine (TV.conc_ok hok fun j hj => ?_).symm
    simp only [Function.comp_apply]
    rw [h'' (j + H.length) (by simp; omega), hag2]
/-! Tryz# Rows that grow -/
def rowV (j n c : Nat) : SV := if n = 0 then .v (.slice none 0 0) else .sl j 0 n c
def rowS (j n c : Nat) : TV := .s (rowV j n c)
def rowH (e : TypeId) (n : Nat) (cs : List SV) (sp : List Value) : Heap := if n = 0 then [] else [⟨e, cs ++ sp.map .v⟩]
theorem rowS_0 {j c : Nat} : rowS j 0 c = .s (.v (.slice none 0 0)) := rfl
theorem rowV_s {j n c : Nat} (h : n ≠ 0) : rowV j n c = .sl j 0 n c := if_neg h
theorem rowV_0 {j c : Nat} : rowV j 0 c = .v (.slice none 0 0) := rfl
theorem rowS_s {j n c : Nat} (h : n ≠ 0) : rowS j n c = .s (.sl j 0 n c) := congrArg TV.s (rowV_s h)
theorem rowH_0 {e : TypeId} {cs : List SV} {sp : List Value} : rowH e 0 cs sp = [] := rfl
theorem rowH_s {e n : Nat} {cs : List SV} {sp : List Value} (h : n ≠ 0) : rowH e n cs sp = [⟨e, cs ++ sp.map .v⟩] := if_neg h
theorem rowV_ok {j n c m : Nat} (h : n ≠ 0 → j < m) : (rowV j n c).ok m := by
  unfold rowV
  split
  · trivial
  · rename_i h0; exact h h0
theorem rowS_ok {j n c m : Nat} (h : n ≠ 0 → j < m) : (rowS j n c).ok m := rowV_ok h
theorem ren_rowV {ρ : Nat → Nat} {j n c : Nat} : (rowV j n c).ren ρ = rowV (ρ j) n c := by
  unfold rowV
  split <;> rfl
theorem ren_rowS {ρ : Nat → Nat} {j n c : Nat} : (rowS j n c).ren ρ = rowS (ρ j) n c := congrArg TV.s ren_rowV
theorem xappend_row {Γ : Ctx} {e : TypeId} {nw : TypeId → Option (List SV × Nat)} {H : Heap} {K : TV → Heap → Prop} {news cs : List SV} {sp : List Value} {j n c : Nat} (hn : nw e = some (news, 1))
    (hb : n ≠ 0 → H[j]? = some ⟨e, cs ++ sp.map .v⟩ ∧ n ≤ c ∧ sp.length = (c - n) * sz Γ.P e) (hcs : cs.length = n * sz Γ.P e) (hnl : news.length = sz Γ.P e)
    (hap : apOK Γ.P e (n + 1)) (hone : oneAll news) (hTM : ¬ Γ.ev.TM e)
    (h : ∀ (j' c' : Nat) (sp' : List Value) (H' : Heap), n + 1 ≤ c' → sp'.length = (c' - (n + 1)) * sz Γ.P e → H'[j']? = some ⟨e, cs ++ news ++ sp'.map .v⟩ → (n ≠ 0 ∧ j' = j ∨ j' = H.length) → (∀ i, i < H.length → i ≠ j → H'[i]? = H[i]?) → (n = 0 → ∀ i, i < H.length → H'[i]? = H[i]?) →
      K (.s (.sl j' 0 (n + 1) c')) H') : xappend Γ (some e) (rowS j n c) nw H K := by
  by_cases h0 : n = 0
  · subst h0
    rw [rowS_0]
    have hc0 : cs = [] := List.eq_nil_of_length_eq_zero (by rw [hcs, Nat.zero_mul])
    subst hc0
    refine xappend_nil_i hn (by decide) hap hTM fun c' sp' hc hsp => ?_
    exact h H.length c' sp' _ hc hsp (by simp) (.inr rfl) (fun i hi _ => List.getElem?_append_left hi) fun _ i hi => List.getElem?_append_left hi
  · obtain ⟨hb, hnc, hsp⟩ := hb h0
    rw [rowS_s h0]
    have hlen : (cs ++ sp.map SV.v).length = c * sz Γ.P e := by
      rw [List.length_append, List.length_map, hcs, hsp, ← Nat.add_mul, Nat.add_sub_cancel' hnc]
    have htk : (cs ++ sp.map SV.v).take (n * sz Γ.P e) = cs := by rw [← hcs]; exact List.take_left' rfl
    refine xappend_sl_i hn hb rfl (by rw [hlen]; exact Nat.le_refl _) hnc hap hone hTM (fun hfit => ?_) fun hgr c' sp' hc hsp' => ?_
    · have hdr : (cs ++ sp.map SV.v).drop (n * sz Γ.P e + news.length) = (sp.drop (sz Γ.P e)).map SV.v := by
        rw [← hcs, hnl, List.drop_append, List.drop_of_length_le (by omega), List.nil_append, List.map_drop]
        congr 1
        omega
      simp only [htk, hdr]
      have hjl := (List.getElem?_eq_some_iff.1 hb).1
      refine h j c (sp.drop (sz Γ.P e)) _ hfit ?_ ?_ (.inl ⟨h0, rfl⟩) (fun i hi hne => ?_) fun h1 => absurd h1 h0
      · rw [List.length_drop, hsp, show c - n = c - (n + 1) + 1 by omega, Nat.add_mul, Nat.one_mul, Nat.add_sub_cancel]
      · rw [putH_get, if_pos rfl, hb]; rfl
      · rw [putH_get, if_neg fun h => hne h.symm]
    · simp only [htk]
      exact h H.length c' sp' _ hc hsp' (by simp) (.inr rfl) (fun i hi _ => List.getElem?_append_left hi) fun h1 => absurd h1 h0
theorem kn_law {P : Program} {w0 w : World} {H : Heap} {β : Nat → Nat} {L : List Nat} {V : Evo} {p : Nat → World → Prop} (hR : Rep (ctx0 P w0) H β w) (hlt : ∀ i ∈ L, i < H.length) (hs : Stays V p) (hp : p w0.heap.size w0) :
    Kn ((ctx0 P w0).after V w0.heap.size w β L) p := by
  intro w' h
  obtain ⟨h1, h2, h3, h4, h5⟩ := FrP.back hR hlt (.inr (Nat.le_refl _)) h
  exact hs _ w0 w' hp ⟨h1, h2, h3, h4, fun k hk => .inl (by
    rcases h5 k hk with h6 | h6 | ⟨_, _, _, _, _, h6⟩
    · exact h6.elim
    · exact h6
    · exact h6.elim)⟩
theorem X_modM {P : Program} {w0 : World} {c : Code} {T : List TV} {H : Heap} {Q : QX} {T0 m : Nat} {bb : Bool} (j : Nat) (L : List Nat) (hb : H[j]? = some ⟨T0, modS m bb⟩) (hL : L.Nodup) (hLj : j ∉ L) (hG : OddM m) (hlt : ∀ i ∈ L, i < H.length)
    (hLT : ∀ b ∈ pickH H L, b.t ≠ T0)
    (h : ∀ β w, Kn ((ctx0 P w0).after (modEvo T0) w0.heap.size w β L) (isMod T0 (β j) m) → (∀ p, Stays (modEvo T0) p → p w0.heap.size w0 → Kn ((ctx0 P w0).after (modEvo T0) w0.heap.size w β L) p) →
      X ((ctx0 P w0).after (modEvo T0) w0.heap.size w β L) c (T.map (TV.fz L β)) (fzH L β H L) Q) : X (ctx0 P w0) c T H Q := by
  refine X_rebase (modEvo T0) w0.heap.size L hL hlt rfl (.inr (Nat.le_refl _)) (fun _ h => h.elim) (fun i hi b hb => ?_) fun β w hR => h β w ?_ fun p hs hp => kn_law hR hlt hs hp
  · refine hLT b ?_
    clear h hLT hL hLj hlt
    induction L with
    | nil => cases hi
    | cons i' r ih =>
      rw [pickH_cons]
      rcases List.mem_cons.1 hi with h1 | h1
      · subst h1; rw [hb, consH_some]; exact List.mem_cons_self ..
      · have h2 := ih h1
        cases h3 : H[i']? with
        | none => exact h2
        | some b' => exact List.mem_cons_of_mem _ h2
  · exact isMod_gone hR hb hLj hlt hG (new_lie hR (fun _ h => h) (List.getElem?_eq_some_iff.1 hb).1)
def four (a b c d : Nat) (i : Nat) : Nat := if i = 0 then a else if i = 1 then b else if i = 2 then c else d
def cellsAt (V : Evo) (ad : Addr) (n : Nat) (g : Nat → Value) : Nat → World → Prop := fun B w =>
  ad.spot = none ∧ ∃ c t f, w.heap[ad.block]? = some (.cells c t f) ∧ (ad.block < B ∨ ¬ V.TM t) ∧ ∀ i, i < n → c[ad.off + i]? = some (g i)
theorem cellsAt_stays (V : Evo) (ad : Addr) (n : Nat) (g : Nat → Value) : Stays V (cellsAt V ad n g) := by
  rintro B w w' ⟨hs, c, t, f, hk, ht, hc⟩ hx
  refine ⟨hs, c, t, f, ?_, ht, hc⟩
  rcases hx.blk _ (Array.getElem?_eq_some_iff.1 hk).1 with h1 | ⟨hB, o, o', h1, h2, hE⟩
  · exact h1.trans hk
  · rw [hk] at h1
    injection h1 with h1
    subst h1
    obtain ⟨c', t', f', he, hT⟩ := V.ofE _ _ hE
    injection he with _ he _
    subst he
    rcases ht with h3 | h3
    · omega
    · exact absurd hT h3
theorem cellsAt_cell {V : Evo} {ad : Addr} {n : Nat} {g : Nat → Value} {B : Nat} {w : World} (h : cellsAt V ad n g B w) {i : Nat} (hi : i < n) : w.cell? (ad.add i) = some (g i) := by
  obtain ⟨hs, c, t, f, hk, _, hc⟩ := h
  obtain ⟨b, o, s⟩ := ad
  simp only at hs
  subst hs
  simp only [addr_add, World.cell?, hk]
  exact hc i hi
theorem Kn.cell {Γ : Ctx} {V : Evo} {ad : Addr} {n : Nat} {g : Nat → Value} (h : Kn Γ (cellsAt V ad n g)) {i : Nat} (hi : i < n) : extCell Γ (ad.add i) (g i) := fun w hw => cellsAt_cell (h w hw) hi
theorem Kn.spot {Γ : Ctx} {V : Evo} {ad : Addr} {n : Nat} {g : Nat → Value} (h : Kn Γ (cellsAt V ad n g)) : ad.spot = none := (h _ (FrP.now Γ)).1
def natsG (l : Nat → Nat) (j : Nat) : Value := .int .u64 (wd (l (j / 4)) (j % 4) : Int)
def natsAt (V : Evo) (x : Option Addr) (n : Nat) (l : Nat → Nat) : Nat → World → Prop := fun B w => n = 0 ∨ ∃ ad, x = some ad ∧ cellsAt V ad (4 * n) (natsG l) B w
theorem natsAt_stays (V : Evo) (x : Option Addr) (n : Nat) (l : Nat → Nat) : Stays V (natsAt V x n l) := by
  rintro B w w' (h | ⟨ad, hx, h⟩) he
  · exact .inl h
  · exact .inr ⟨ad, hx, cellsAt_stays V ad _ _ B w w' h he⟩
theorem xext_row4 {Γ : Ctx} {b o a : Nat} {K : TV → HE → Prop} (h : ∀ k, k < 4 → extCell Γ ⟨b, o + k, none⟩ (.int .u64 (wd a k : Int))) : xext Γ (some true) 4 ⟨b, o, none⟩ K = K (.agg (nat4 a)) .none := by
  simp only [xext, eq_iff_iff]
  have e : ∀ l : List Value, l.length = 4 → (∀ i x, l[i]? = some x → extCell Γ ⟨b, o + i, none⟩ x) → l.map SV.v = nat4 a := by
    intro l hl hc
    refine List.ext_getElem? fun i => ?_
    by_cases hi : i < 4
    · have h1 := hc i l[i] (List.getElem?_eq_getElem (by omega))
      have h2 := extCell_fun h1 (h i hi)
      rw [List.getElem?_map, List.getElem?_eq_getElem (by omega), h2, nat4_get hi]
      rfl
    · rw [List.getElem?_eq_none (by simp; omega), List.getElem?_eq_none (by rw [nat4_length]; omega)]
  constructor
  · rintro ⟨l, hl, _, hc, hK⟩
    rwa [e l hl hc] at hK
  · intro hK
    refine ⟨[.int .u64 (wd a 0 : Int), .int .u64 (wd a 1 : Int), .int .u64 (wd a 2 : Int), .int .u64 (wd a 3 : Int)], rfl, trivial, fun i x hx => ?_, hK⟩
    match i, hx with
    | 0, hx => injection hx with hx; subst hx; exact h 0 (by omega)
    | 1, hx => injection hx with hx; subst hx; exact h 1 (by omega)
    | 2, hx => injection hx with hx; subst hx; exact h 2 (by omega)
    | 3, hx => injection hx with hx; subst hx; exact h 3 (by omega)
theorem Kn.nat {Γ : Ctx} {V : Evo} {ad : Addr} {n i : Nat} {l : Nat → Nat} (h : Kn Γ (natsAt V (some ad) n l)) (hi : i < n) {K : TV → HE → Prop} : xext Γ (some true) 4 (ad.add (i * 4)) K = K (.agg (nat4 (l i))) .none := by
  have h2 : Kn Γ (cellsAt V ad (4 * n) (natsG l)) := fun w hw => by
    rcases h w hw with h1 | ⟨ad', hx, h1⟩
    · omega
    · injection hx with hx
      subst hx
      exact h1
  have hs := h2.spot
  obtain ⟨b, o, s⟩ := ad
  simp only at hs
  subst hs
  rw [addr_add]
  refine xext_row4 fun k hk => ?_
  have h3 := h2.cell (i := i * 4 + k) (by omega)
  rw [addr_add, ← Nat.add_assoc] at h3
  have e : natsG l (i * 4 + k) = .int .u64 (wd (l i) k : Int) := by
    unfold natsG
    rw [show (i * 4 + k) / 4 = i by omega, show (i * 4 + k) % 4 = k by omega]
  rwa [e] at h3
def nats (n : Nat) (l : Nat → Nat) : List SV := arr (4 * n) fun j => wd (l (j / 4)) (j % 4)
section
variable {n i : Nat} {l : Nat → Nat}
theorem nats_length : (nats n l).length = 4 * n := arr_length
theorem nats_ok (m : Nat) : ∀ x ∈ nats n l, x.ok m := arr_ok m
theorem nats_okk {m : Nat} : (∀ x ∈ nats n l, x.ok m) = True := eq_true (nats_ok m)
theorem nats_get {j : Nat} (h : j < 4 * n) : (nats n l)[j]? = some (.v (natsG l j)) := arr_get h
theorem nats_zero : nats 0 l = [] := rfl
theorem nats_snoc : nats n l ++ nat4 (l n) = nats (n + 1) l := by
  refine List.ext_getElem? fun j => ?_
  by_cases h : j < 4 * n
  · rw [List.getElem?_append_left (by rw [nats_length]; exact h), nats_get h, nats_get (by omega)]
  · rw [List.getElem?_append_right (by rw [nats_length]; omega), nats_length]
    by_cases h2 : j < 4 * (n + 1)
    · rw [nats_get h2, nat4_get (by omega)]
      unfold natsG
      rw [show j / 4 = n by omega, show j % 4 = j - 4 * n by omega]
    · rw [List.getElem?_eq_none (by rw [nat4_length]; omega), List.getElem?_eq_none (by rw [nats_length]; omega)]
theorem nats_part {sp : List SV} (h : i < n) : Ab.part (nats n l ++ sp) (i * 4) 4 = nat4 (l i) := by
  rw [part_eq]
  refine List.ext_getElem? fun j => ?_
  by_cases hj : j < 4
  · rw [List.getElem?_take_of_lt hj, List.getElem?_drop, List.getElem?_append_left (by rw [nats_length]; omega), nats_get (by omega), nat4_get hj]
    unfold natsG
    rw [show (i * 4 + j) / 4 = i by omega, show (i * 4 + j) % 4 = j by omega]
  · rw [List.getElem?_eq_none (by simp; omega), List.getElem?_eq_none (by rw [nat4_length]; omega)]
end
theorem natsAt_gone {Γ : Ctx} {T0 B n : Nat} {l : Nat → Nat} {sp : List SV} {e : Nat} {H : Heap} {β : Nat → Nat} {w : World} {L : List Nat} {j : Nat} (hR : Rep Γ H β w) (hb : H[j]? = some ⟨e, nats n l ++ sp⟩) (hj : j ∉ L) (hlt : ∀ i ∈ L, i < H.length) (he : e ≠ T0) :
    Kn (Γ.after (modEvo T0) B w β L) (natsAt (modEvo T0) (some ⟨β j, 0, none⟩) n l) := by
  intro w' h
  refine .inr ⟨_, rfl, rfl, ?_⟩
  rcases gone hR hb hj hlt h with h1 | ⟨_, o, _, m', x, y, _, h3, _⟩
  · refine ⟨_, _, _, h1, .inr he, fun i hi => ?_⟩
    simp only [AB.conc, List.getElem?_toArray, List.getElem?_map, Nat.zero_add]
    rw [List.getElem?_append_left (by rw [nats_length]; exact hi), nats_get hi]
    rfl
  · exfalso
    unfold AB.conc modObj at h3
    injection h3 with _ h3 _
    exact he h3
section
variable {Γ : Ctx} {P : Program} {V : Evo} {H : Heap} {M : List Nat} {f : FuncId} {args : List TV} {r : TV} {K : TV → Heap → Prop} {KV : TV → Prop}
theorem calz (h : ∀ β w, Rep Γ H β w → ∃ pre, EvC Γ.ev Γ.P f (args.map (TV.fz [] β)) pre r ∧ pre Γ.B w) : CalP Γ H f args r := by
  intro β w hR
  obtain ⟨pre, h1, h2⟩ := h β w hR
  have e : args.map (TV.conc β) = (args.map (TV.fz [] β)).map (TV.conc fun _ => 0) := by
    rw [List.map_map]
    exact List.map_congr_left fun x _ => (TV.fz_conc (fun i j h => by simp at h) x).symm
  rw [e]
  exact (h1 Γ.B w h2).mono fun _ _ ⟨he, hx⟩ => ⟨fun β' _ => he β', hx⟩
theorem yF_evz (h : ∀ β w, Rep Γ H β w → ∃ pre, EvC V P f (args.map (TV.fz [] β)) pre r ∧ pre Γ.B w) (hP : Γ.P = P) (hV : Γ.ev = V) (hc : callable P f = true) (hK : K r H) : xcallF Γ H f args K := by
  subst hP; subst hV; exact xcall_pure hc (calz h) hK
end
theorem natsAt_own {Γ : Ctx} {T0 B n : Nat} {l : Nat → Nat} {sp : List SV} {e : Nat} {H : Heap} {β : Nat → Nat} {w : World} {j : Nat} (hR : Rep Γ H β w) (hb : H[j]? = some ⟨e, nats n l ++ sp⟩) (he : e ≠ T0) : natsAt (modEvo T0) (some ⟨β j, 0, none⟩) n l B w := by
  refine .inr ⟨_, rfl, rfl, _, _, _, hR.blk β (.refl _ _) j _ hb, .inr he, fun i hi => ?_⟩
  simp only [AB.conc, List.getElem?_toArray, List.getElem?_map, Nat.zero_add]
  rw [List.getElem?_append_left (by rw [nats_length]; exact hi), nats_get hi]
  rfl
theorem natsAt_own0 {Γ : Ctx} {T0 B n : Nat} {l : Nat → Nat} {e : Nat} {H : Heap} {β : Nat → Nat} {w : World} {j : Nat} (hR : Rep Γ H β w) (hb : H[j]? = some ⟨e, nats n l⟩) (he : e ≠ T0) : natsAt (modEvo T0) (some ⟨β j, 0, none⟩) n l B w :=
  natsAt_own (sp := []) hR (by rw [List.append_nil]; exact hb) he
def two (a b : Nat) (i : Nat) : Nat := if i = 0 then a else b
theorem nats_two (a b : Nat) : nat4 a ++ nat4 b = nats 2 (two a b) := by
  have h1 := nats_snoc (n := 1) (l := two a b)
  have h0 := nats_snoc (n := 0) (l := two a b)
  rw [nats_zero, List.nil_append] at h0
  rw [← h1, ← h0]
  rfl
theorem two_set (a b : Nat) : setAt (setAt (arr 8 fun _ => 0) 0 (nat4 a)) 4 (nat4 b) = nats 2 (two a b) := by
  rw [← nats_two]
  rfl
theorem two_len (a : Nat) : (setAt (arr 8 fun _ => 0) 0 (nat4 a)).length = 8 := rfl
def pt (a b : Nat) : List SV := nat4 a ++ nat4 b
theorem pt_length {a b : Nat} : (pt a b).length = 8 := rfl
theorem pt_ok {a b : Nat} (m : Nat) : ∀ x ∈ pt a b, x.ok m := fun x hx => by
  rcases List.mem_append.1 hx with h | h
  · exact arr_ok m x h
  · exact arr_ok m x h
theorem pt_okk {a b m : Nat} : (∀ x ∈ pt a b, x.ok m) = True := eq_true (pt_ok m)
theorem pt_one {a b : Nat} : oneAll (pt a b) = True := by
  have h : pt a b = arr 8 fun j => if j < 4 then wd a j else wd b (j - 4) := rfl
  rw [h]; exact arr_one
theorem pt_fst {a b : Nat} : List.take 4 (pt a b) = nat4 a := rfl
theorem pt_snd {a b : Nat} : List.take 4 (List.drop 4 (pt a b)) = nat4 b := rfl
theorem pt_splice {a b : Nat} : splice [.v (.int .u64 0), .v (.int .u64 0), .v (.int .u64 0), .v (.int .u64 0), .v (.int .u64 0), .v (.int .u64 0), .v (.int .u64 0), .v (.int .u64 0)] 0 (pt a b) = pt a b := by
  rw [splice_eq _ _ _ (by rw [pt_length]; decide), pt_length]
  exact List.append_nil _
theorem pt_nats {l : Nat → Nat} {i : Nat} : pt (l (2 * i)) (l (2 * i + 1)) = arr 8 fun j => wd (l ((i * 8 + j) / 4)) ((i * 8 + j) % 4) := by
  refine List.ext_getElem? fun j => ?_
  by_cases h : j < 8
  · rw [arr_get h]
    unfold pt
    by_cases h4 : j < 4
    · rw [List.getElem?_append_left (by rw [nat4_length]; exact h4), nat4_get h4, show (i * 8 + j) / 4 = 2 * i by omega, show (i * 8 + j) % 4 = j by omega]
    · rw [List.getElem?_append_right (by rw [nat4_length]; omega), nat4_length, nat4_get (by omega), show (i * 8 + j) / 4 = 2 * i + 1 by omega, show (i * 8 + j) % 4 = j - 4 by omega]
  · rw [List.getElem?_eq_none (by rw [pt_length]; omega), List.getElem?_eq_none (by rw [arr_length]; omega)]
theorem xext_row8 {Γ : Ctx} {b o : Nat} {f : Nat → Nat} {K : TV → HE → Prop} (h : ∀ k, k < 8 → extCell Γ ⟨b, o + k, none⟩ (.int .u64 (f k : Int))) : xext Γ (some true) 8 ⟨b, o, none⟩ K = K (.agg (arr 8 f)) .none := by
  simp only [xext, eq_iff_iff]
  have e : ∀ l : List Value, l.length = 8 → (∀ i x, l[i]? = some x → extCell Γ ⟨b, o + i, none⟩ x) → l.map SV.v = arr 8 f := by
    intro l hl hc
    refine List.ext_getElem? fun i => ?_
    by_cases hi : i < 8
    · have h1 := hc i l[i] (List.getElem?_eq_getElem (by omega))
      have h2 := extCell_fun h1 (h i hi)
      rw [List.getElem?_map, List.getElem?_eq_getElem (by omega), h2, arr_get hi]
      rfl
    · rw [List.getElem?_eq_none (by simp; omega), List.getElem?_eq_none (by rw [arr_length]; omega)]
  constructor
  · rintro ⟨l, hl, _, hc, hK⟩
    rwa [e l hl hc] at hK
  · intro hK
    refine ⟨(List.range 8).map fun i => .int .u64 (f i : Int), by simp, trivial, fun i x hx => ?_, ?_⟩
    · simp only [List.getElem?_map, Option.map_eq_some_iff] at hx
      obtain ⟨a, ha, rfl⟩ := hx
      have hi : i < 8 := by
        have := (List.getElem?_eq_some_iff.1 ha).1
        simpa using this
      rw [List.getElem?_range hi] at ha
      injection ha with ha
      subst ha
      exact h i hi
    · rwa [e _ (by simp) fun i x hx => by
        simp only [List.getElem?_map, Option.map_eq_some_iff] at hx
        obtain ⟨a, ha, rfl⟩ := hx
        have hi : i < 8 := by
          have := (List.getElem?_eq_some_iff.1 ha).1
          simpa using this
        rw [List.getElem?_range hi] at ha
        injection ha with ha
        subst ha
        exact h i hi]
theorem Kn.pt {Γ : Ctx} {V : Evo} {ad : Addr} {n i : Nat} {l : Nat → Nat} (h : Kn Γ (natsAt V (some ad) (2 * n) l)) (hi : i < n) {K : TV → HE → Prop} : xext Γ (some true) 8 (ad.add (i * 8)) K = K (.agg (pt (l (2 * i)) (l (2 * i + 1)))) .none := by
  have h2 : Kn Γ (cellsAt V ad (4 * (2 * n)) (natsG l)) := fun w hw => by
    rcases h w hw with h1 | ⟨ad', hx, h1⟩
    · omega
    · injection hx with hx
      subst hx
      exact h1
  have hs := h2.spot
  obtain ⟨b, o, s⟩ := ad
  simp only at hs
  subst hs
  rw [addr_add, pt_nats]
  refine xext_row8 fun k hk => ?_
  have h3 := h2.cell (i := i * 8 + k) (by omega)
  rw [addr_add, ← Nat.add_assoc] at h3
  exact h3
theorem avren_sl {ρ : Nat → Nat} {j o n c : Nat} : AV.ren ρ (.s (.sl j o n c)) = .s (.sl (ρ j) o n c) := rfl
theorem xappend_row2 {Γ : Ctx} {e : TypeId} {nw : TypeId → Option (List SV × Nat)} {H : Heap} {K : TV → Heap → Prop} {news cs : List SV} {sp : List Value} {j n c : Nat} (hn : nw e = some (news, 1)) (h0 : n ≠ 0)
    (hb : H[j]? = some ⟨e, cs ++ sp.map .v⟩) (hnc : n ≤ c) (hsp : sp.length = (c - n) * sz Γ.P e) (hcs : cs.length = n * sz Γ.P e) (hnl : news.length = sz Γ.P e)
    (hap : apOK Γ.P e (n + 1)) (hone : oneAll news) (hTM : ¬ Γ.ev.TM e)
    (h1 : ∀ sp' : List Value, n + 1 ≤ c → sp'.length = (c - (n + 1)) * sz Γ.P e → K (.s (.sl j 0 (n + 1) c)) (putH H j (cs ++ news ++ sp'.map .v)))
    (h2 : ∀ (c' : Nat) (sp' : List Value), n + 1 ≤ c' → sp'.length = (c' - (n + 1)) * sz Γ.P e → K (.s (.sl H.length 0 (n + 1) c')) (H ++ [⟨e, cs ++ news ++ sp'.map .v⟩])) : xappend Γ (some e) (rowS j n c) nw H K := by
  rw [rowS_s h0]
  have hlen : (cs ++ sp.map SV.v).length = c * sz Γ.P e := by
    rw [List.length_append, List.length_map, hcs, hsp, ← Nat.add_mul, Nat.add_sub_cancel' hnc]
  have htk : (cs ++ sp.map SV.v).take (n * sz Γ.P e) = cs := by rw [← hcs]; exact List.take_left' rfl
  refine xappend_sl_i hn hb rfl (by rw [hlen]; exact Nat.le_refl _) hnc hap hone hTM (fun hfit => ?_) fun hgr c' sp' hc hsp' => ?_
  · have hdr : (cs ++ sp.map SV.v).drop (n * sz Γ.P e + news.length) = (sp.drop (sz Γ.P e)).map SV.v := by
      rw [← hcs, hnl, List.drop_append, List.drop_of_length_le (by omega), List.nil_append, List.map_drop]
      congr 1
      omega
    simp only [htk, hdr]
    refine h1 (sp.drop (sz Γ.P e)) hfit ?_
    rw [List.length_drop, hsp, show c - n = c - (n + 1) + 1 by omega, Nat.add_mul, Nat.one_mul, Nat.add_sub_cancel]
  · simp only [htk]
    exact h2 c' sp' hc hsp'
def natV (n : Nat) : Value := (TV.agg (nat4 n)).conc fun _ => 0
theorem natV_conc (β : Nat → Nat) (n : Nat) : (TV.agg (nat4 n)).conc β = natV n := by
  simp [natV, TV.conc, nat4, arr, SV.conc, Function.comp_def]
theorem natV_def (n : Nat) : natV n = .agg ((List.range 4).map fun i => Value.int .u64 (wd n i : Int)).toArray := by
  simp [natV, TV.conc, nat4, arr, SV.conc, Function.comp_def]
structure MapTy (P : Program) (mt kt et : TypeId) : Prop where
  m : P.underlying mt = some (.map kt et)
  row : isRow P kt = true
  kk : P.keyTypeAt 9 kt = true
  lit : ∀ n, n < 2 ^ 256 → litsA P kt (some (nat4 n)) = some (lits 4 (wd n))
  zero : zeroV P et = some (.int .i64 0)
section
variable {P : Program} {mt kt et : TypeId} {n : Nat} {w : World}
theorem MapTy.lits (M : MapTy P mt kt et) (hn : n < 2 ^ 256) : P.keyLits 9 kt (natV n).cells.toList = some (lits 4 (wd n)) := by
  have h := M.lit n hn
  unfold litsA at h
  rw [Option.bind_some] at h
  obtain ⟨vs, hv, hk⟩ := Option.bind_eq_some_iff.1 h
  have h1 := valsOf_conc (fun _ => 0) hv
  rw [natV, conc_agg, h1]
  exact hk
theorem MapTy.formed (M : MapTy P mt kt et) (hn : n < 2 ^ 256) : (natV n).formed P kt = true := by
  have hz := M.lits hn
  have hrow := M.row
  rw [natV, conc_agg] at hz ⊢
  unfold isRow at hrow
  simp only [Value.formed]
  split at hrow
  · rename_i fs hu
    simp only [hu]
    unfold Program.keyLits at hz
    simp only [hu] at hz
    split at hz
    · rename_i hc; simpa [Value.cells] using hc.1
    · cases hz
  · rename_i n e hu
    simp only [hu]
    unfold Program.keyLits at hz
    simp only [hu] at hz
    split at hz
    · rename_i hc; simpa [Value.cells] using hc
    · cases hz
  · cases hrow
theorem natV_inj (M : MapTy P mt kt et) {a b : Nat} (ha : a < 2 ^ 256) (hb : b < 2 ^ 256) (h : natV a = natV b) : a = b := by
  have h1 := M.lits ha
  rw [h, M.lits hb] at h1
  injection h1 with h1
  have h2 := (litsEq_iff _ _).2 h1.symm
  rw [litsEq_nat4 ha hb] at h2
  exact of_decide_eq_true h2
theorem run_equal_nat (M : MapTy P mt kt et) {a b : Nat} (ha : a < 2 ^ 256) (hb : b < 2 ^ 256) (w : World) : (Op.equal kt (natV a) (natV b)).run P w = .ok (decide (a = b)) w := by
  have hdeep := run_equalIn_deep (P := P) 9991 9 kt M.kk
  obtain ⟨r, hr, hiff⟩ := hdeep w 9 9 (natV a) (natV b) _ _ (M.formed ha) (M.formed hb) (M.lits ha) (M.lits hb)
  have : r = decide (a = b) := by rw [Bool.eq_iff_iff, hiff, ← litsEq_iff, litsEq_nat4 ha hb]
  rw [← this]
  exact hr
theorem run_find (M : MapTy P mt kt et) (hn : n < 2 ^ 256) : ∀ (l : List MapEntry) (i : Nat), (∀ e ∈ l, ∃ m, m < 2 ^ 256 ∧ e.key = natV m) →
    ((∀ w, (Instr.findAsking kt (natV n) l i).run P w = .ok none w) ∧ ∀ e ∈ l, e.key ≠ natV n) ∨ ∃ j e, (∀ w, (Instr.findAsking kt (natV n) l i).run P w = .ok (some (i + j, e.val)) w) ∧ l[j]? = some e ∧ e.key = natV n
  | [], i, _ => .inl ⟨fun w => by simp [Instr.findAsking], by simp⟩
  | e :: es, i, h => by
    obtain ⟨m, hm, hk⟩ := h e (.head _)
    have he := run_equal_nat M hn hm
    by_cases hnm : n = m
    · subst hnm
      exact .inr ⟨0, e, fun w => by simp [Instr.findAsking, hk, he, Result.andThen], rfl, hk⟩
    · have hne : e.key ≠ natV n := fun q => hnm (natV_inj M hn hm (q.symm.trans hk))
      rcases run_find M hn es (i + 1) (fun x hx => h x (.tail _ hx)) with ⟨h1, h2⟩ | ⟨j, e', h1, h2, h3⟩
      · exact .inl ⟨fun w => by simp [Instr.findAsking, hk, he, hnm, h1, Result.andThen], fun x hx => by
          cases hx with
          | head => exact hne
          | tail _ hx => exact h2 x hx⟩
      · exact .inr ⟨j + 1, e', fun w => by simp [Instr.findAsking, hk, he, hnm, h1, Result.andThen]; omega, by simpa using h2, h3⟩
theorem run_findKey_nat (M : MapTy P mt kt et) (l : List MapEntry) (x : Value) (w : World) : (Instr.findKey kt x l).run P w = (Instr.findAsking kt x l).run P w := by
  refine run_findKey_eq w ?_ x l
  have hrow := M.row
  unfold isRow at hrow
  cases hu : P.underlying kt with
  | none => simp [hu] at hrow
  | some d => cases d <;> simp [hu] at hrow ⊢
theorem run_checkKey_nat (M : MapTy P mt kt et) (hn : n < 2 ^ 256) (em : Bool) (w : World) : (Instr.checkKey em 10000 kt (natV n)).run P w = .ok () w :=
  run_checkKey_deep em 9991 9 kt M.kk w 9 (natV n) _ (M.formed hn) (M.lits hn)
theorem sameBits_nat (n : Nat) : Instr.sameBits 10000 (natV n) (natV n) = true := by
  rw [natV_def]
  show Instr.sameBits (9999 + 1) _ _ = true
  have h1 : ∀ q : Int, Instr.sameBits 9999 (.int .u64 q) (.int .u64 q) = true := fun q => by
    show (IntKind.u64 == IntKind.u64 && q == q) = true
    simp
  simp only [Instr.sameBits, List.range_succ, List.range_zero, List.nil_append, List.cons_append, List.map_cons, List.map_nil, List.zip_cons_cons, List.zip_nil_left, List.all_cons, List.all_nil, h1, Bool.and_true, beq_self_eq_true]
theorem run_keyStays_nat (n : Nat) (w : World) : (Instr.keyThatStays (natV n) (natV n)).run P w = .ok (natV n) w := by
  simp [Instr.keyThatStays, sameBits_nat]
theorem run_zero_of {t : TypeId} {v : Value} (h : zeroV P t = some v) (w : World) : (zeroValue t).run P w = .ok v w := by
  unfold zeroV at h
  obtain ⟨i, hi, hz⟩ := Option.bind_eq_some_iff.1 h
  simp [zeroValue, typeInfo, hi, hz, Result.andThen]
def MapIs (p : Nat → Bool) (es : Array MapEntry) : Prop :=
  (∀ e ∈ es.toList, ∃ m z, m < 2 ^ 256 ∧ e.key = natV m ∧ e.val = .int .i64 z ∧ p m = true) ∧ ∀ m, p m = true → ∃ e ∈ es.toList, e.key = natV m
def MapAt (b : Nat) (p : Nat → Bool) (w : World) : Prop := ∃ es c, w.heap[b]? = some (.map es c) ∧ MapIs p es
theorem MapIs.nil : MapIs (fun _ => false) #[] := ⟨fun e h => by simp at h, fun m h => by simp at h⟩
theorem MapIs.push {p : Nat → Bool} {es : Array MapEntry} (h : MapIs p es) (hn : n < 2 ^ 256) {e : MapEntry} {z : Int} (hk : e.key = natV n) (hv : e.val = .int .i64 z) : MapIs (fun m => p m || m == n) (es.push e) := by
  refine ⟨fun e' he => ?_, fun m hm => ?_⟩
  · simp only [Array.toList_push, List.mem_append, List.mem_singleton] at he
    rcases he with he | rfl
    · obtain ⟨m, z', h1, h2, h3, h4⟩ := h.1 e' he
      exact ⟨m, z', h1, h2, h3, by simp [h4]⟩
    · exact ⟨n, z, hn, hk, hv, by simp⟩
  · rcases (Bool.or_eq_true _ _).mp hm with hm | hm
    · obtain ⟨e', h1, h2⟩ := h.2 m hm
      exact ⟨e', by simp only [Array.toList_push, List.mem_append]; exact .inl h1, h2⟩
    · have hm : m = n := by simpa using hm
      subst hm
      exact ⟨e, by simp, hk⟩
theorem MapIs.modify {p : Nat → Bool} {es : Array MapEntry} (h : MapIs p es) (hn : n < 2 ^ 256) {j : Nat} {e : MapEntry} {z : Int} (hj : es[j]? = some e) (hk : e.key = natV n) :
    MapIs (fun m => p m || m == n) (es.modify j fun e => { e with key := natV n, val := .int .i64 z }) := by
  have hpn : ∀ m, m < 2 ^ 256 → e.key = natV m → True := fun _ _ _ => trivial
  refine ⟨fun e' he => ?_, fun m hm => ?_⟩
  · rw [Array.mem_toList_iff, Array.mem_iff_getElem?] at he
    obtain ⟨i, hi⟩ := he
    rw [Array.getElem?_modify] at hi
    split at hi
    · rename_i hij
      subst hij
      rw [hj] at hi
      simp only [Option.map_some, Option.some.injEq] at hi
      subst hi
      exact ⟨n, z, hn, rfl, rfl, by simp⟩
    · obtain ⟨m, z', h1, h2, h3, h4⟩ := h.1 e' (by rw [Array.mem_toList_iff, Array.mem_iff_getElem?]; exact ⟨i, hi⟩)
      exact ⟨m, z', h1, h2, h3, by simp [h4]⟩
  · have key : ∀ (i : Nat) (e' : MapEntry), es[i]? = some e' → ∃ e'' ∈ (es.modify j fun e => { e with key := natV n, val := .int .i64 z }).toList, e''.key = e'.key := fun i e' hi => by
      by_cases hij : j = i
      · subst hij
        rw [hj] at hi
        injection hi with hi
        subst hi
        exact ⟨_, by rw [Array.mem_toList_iff, Array.mem_iff_getElem?]; exact ⟨j, by rw [Array.getElem?_modify, if_pos rfl, hj]; rfl⟩, hk.symm⟩
      · exact ⟨e', by rw [Array.mem_toList_iff, Array.mem_iff_getElem?]; exact ⟨i, by rw [Array.getElem?_modify, if_neg hij, hi]⟩, rfl⟩
    rcases (Bool.or_eq_true _ _).mp hm with hm | hm
    · obtain ⟨e', h1, h2⟩ := h.2 m hm
      rw [Array.mem_toList_iff, Array.mem_iff_getElem?] at h1
      obtain ⟨i, hi⟩ := h1
      obtain ⟨e'', h3, h4⟩ := key i e' hi
      exact ⟨e'', h3, h4.trans h2⟩
    · have hm : m = n := by simpa using hm
      subst hm
      obtain ⟨e'', h3, h4⟩ := key j e hj
      exact ⟨e'', h3, h4.trans hk⟩
theorem run_look (M : MapTy P mt kt et) {p : Nat → Bool} {es : Array MapEntry} (h : MapIs p es) (hn : n < 2 ^ 256) {b c : Nat} : ∃ z : Int, ∀ w : World, w.heap[b]? = some (.map es c) →
    (Instr.lookup mt (.map (some b)) (natV n) true).run P w = .ok (.tuple #[.int .i64 z, .bool (p n)]) w := by
  have hall : ∀ e ∈ es.toList, ∃ m, m < 2 ^ 256 ∧ e.key = natV m := fun e he => by
    obtain ⟨m, z, h1, h2, _⟩ := h.1 e he
    exact ⟨m, h1, h2⟩
  by_cases hp : ∃ e ∈ es.toList, e.key = natV n
  · have hpn : p n = true := by
      obtain ⟨e, he, hk⟩ := hp
      obtain ⟨m, z, h1, h2, _, h4⟩ := h.1 e he
      rw [natV_inj M hn h1 (hk.symm.trans h2)]
      exact h4
    have hfind : ∃ j e, es.toList[j]? = some e ∧ ∀ w, (Instr.findAsking kt (natV n) es.toList).run P w = .ok (some (j, e.val)) w := by
      obtain ⟨e0, he0, hk0⟩ := hp
      rcases run_find M hn es.toList 0 hall with ⟨_, h2⟩ | ⟨j, e, h1, h2, h3⟩
      · exact absurd hk0 (h2 e0 he0)
      · exact ⟨j, e, h2, fun w => by rw [h1, Nat.zero_add]⟩
    obtain ⟨j, e, hj, hf⟩ := hfind
    obtain ⟨m, z, _, _, hv, _⟩ := h.1 e (List.mem_of_getElem? hj)
    refine ⟨z, fun w hb => ?_⟩
    simp [Instr.lookup, run_underlying M.m, MapKept.run_getObj_map hb, run_checkKey_nat M hn, run_findKey_nat M, hf, hv, hpn, Result.andThen]
  · have hpn : p n = false := by
      cases hq : p n with
      | false => rfl
      | true => exact absurd (h.2 n hq) hp
    refine ⟨0, fun w hb => ?_⟩
    have hf : (Instr.findAsking kt (natV n) es.toList).run P w = .ok none w := by
      rcases run_find M hn es.toList 0 hall with ⟨h1, _⟩ | ⟨j, e, _, h2, h3⟩
      · exact h1 w
      · exact absurd ⟨e, List.mem_of_getElem? h2, h3⟩ hp
    simp [Instr.lookup, run_underlying M.m, MapKept.run_getObj_map hb, run_checkKey_nat M hn, run_findKey_nat M, hf, hpn, run_zero_of M.zero, Result.andThen]
theorem heapSet {r : Nat} {o o' : Obj} (hb : w.heap[r]? = some o) : (w.heap.setIfInBounds r o')[r]? = some o' ∧ ∀ r', r' ≠ r → (w.heap.setIfInBounds r o')[r']? = w.heap[r']? := by
  have hlt : r < w.heap.size := (Array.getElem?_eq_some_iff.1 hb).1
  exact ⟨by simp [hlt], fun r' hne => by simp [Ne.symm hne]⟩
theorem run_upd (M : MapTy P mt kt et) {p : Nat → Bool} (hn : n < 2 ^ 256) {b : Nat} {z : Int} (h : MapAt b p w) : ∃ w', (Instr.mapUpdate mt (.map (some b)) (natV n) (.int .i64 z)).run P w = .ok () w' ∧ MapAt b (fun m => p m || m == n) w' ∧
    w'.os = w.os ∧ w'.tape = w.tape ∧ w'.output = w.output ∧ w'.heap.size = w.heap.size ∧ ∀ k, k ≠ b → w'.heap[k]? = w.heap[k]? := by
  obtain ⟨es, c, hb, hp⟩ := h
  have hall : ∀ e ∈ es.toList, ∃ m, m < 2 ^ 256 ∧ e.key = natV m := fun e he => by
    obtain ⟨m, z, h1, h2, _⟩ := hp.1 e he
    exact ⟨m, h1, h2⟩
  rcases run_find M hn es.toList 0 hall with ⟨h1, _⟩ | ⟨j, e, h1, h2, h3⟩
  · refine ⟨{ w with heap := w.heap.setIfInBounds b (.map (es.push { key := natV n, val := .int .i64 z, born := c }) (c + 1)) }, ?_, ⟨_, _, (heapSet hb).1, hp.push hn rfl rfl⟩, rfl, rfl, rfl, by simp, fun k hk => (heapSet hb).2 k hk⟩
    simp [Instr.mapUpdate, run_underlying M.m, MapKept.run_getObj_map hb, run_checkKey_nat M hn, run_findKey_nat M, h1, MapKept.run_setObj_map _ hb, Result.andThen]
  · have hj : es[j]? = some e := by simpa using h2
    refine ⟨{ w with heap := w.heap.setIfInBounds b (.map (es.modify j fun e => { e with key := natV n, val := .int .i64 z }) c) }, ?_, ⟨_, _, (heapSet hb).1, hp.modify hn hj h3⟩, rfl, rfl, rfl, by simp, fun k hk => (heapSet hb).2 k hk⟩
    simp [Instr.mapUpdate, run_underlying M.m, MapKept.run_getObj_map hb, run_checkKey_nat M hn, run_findKey_nat M, h1, hj, h3, run_keyStays_nat, MapKept.run_setObj_map _ hb, Result.andThen]
end
/-! Tryz# Something said of the world -/
def Steady (A : World → Prop) : Prop := ∀ (Γ : Ctx) (V : Evo) (B : Nat) (L : List Nat) (H : Heap) (β : Nat → Nat) (w w' : World), Rep Γ H β w → (∀ i ∈ L, i < H.length) → A w → FrP (Γ.after V B w β L) w' → A w'
theorem steady_true : Steady fun _ => True := fun _ _ _ _ _ _ _ _ _ _ _ _ => trivial
theorem steady_map (b : Nat) (p : Nat → Bool) : Steady (MapAt b p) := by
  rintro Γ V B L H β w w' hR hlt ⟨es, c, hb, hp⟩ h
  refine ⟨es, c, ?_, hp⟩
  rcases h.2.2.2.2 b (Array.getElem?_eq_some_iff.1 hb).1 with ⟨i, hi, hbi⟩ | h1 | ⟨_, o, o', h2, _, h4⟩
  · have h5 := hR.blk β (.refl _ _) i (H[i]'(hlt i hi)) (List.getElem?_eq_getElem (hlt i hi))
    rw [← hbi, hb] at h5
    cases h5
  · exact h1.trans hb
  · have h2' : w.heap[b]? = some o := h2
    rw [hb] at h2'
    injection h2' with h2'
    obtain ⟨c', t', f', he, _⟩ := V.ofE _ _ h4
    rw [← h2'] at he
    cases he
theorem stays_map (V : Evo) (b : Nat) (p : Nat → Bool) : Stays V fun _ w => MapAt b p w := by
  rintro B w w' ⟨es, c, hb, hp⟩ h
  refine ⟨es, c, ?_, hp⟩
  rcases h.blk b (Array.getElem?_eq_some_iff.1 hb).1 with h1 | ⟨_, o, o', h2, _, h4⟩
  · exact h1.trans hb
  · rw [hb] at h2
    injection h2 with h2
    obtain ⟨c', t', f', he, _⟩ := V.ofE _ _ h4
    rw [← h2] at he
    cases he
abbrev KA := List TV → Heap → (World → Prop) → Prop
abbrev QA := Exit → List TV → Heap → (World → Prop) → Prop
def liftA (Γ : Ctx) (Q : QA) : Exit → Act → World → Prop := fun e a w => ∃ T H A, Q e T H A ∧ St Γ T H a w ∧ A w
def XA (Γ : Ctx) (A : World → Prop) (c : Code) (T : List TV) (H : Heap) (Q : QA) : Prop := ∀ a w, St Γ T H a w → A w → c.wp Γ.P (liftA Γ Q) a w
section
variable {Γ : Ctx} {A : World → Prop} {H : Heap} {T : List TV} {Q : QA}
theorem XA.mono {c : Code} {Q' : QA} (h : XA Γ A c T H Q) (hq : ∀ e T H A, Q e T H A → Q' e T H A) : XA Γ A c T H Q' :=
  fun a w hs hA => wp_mono (h a w hs hA) fun _ _ _ ⟨T, H, A, h1, h2⟩ => ⟨T, H, A, hq _ _ _ _ h1, h2⟩
def seqA (K : KA) (Q : QA) : QA := fun e T H A => match e with | .normal => K T H A | e => Q e T H A
def blockA (id : Nat) (Q : QA) : QA := fun e T H A => match e with | .exit i => if i = id then Q .normal T H A else Q (.exit i) T H A | e => Q e T H A
theorem XA_seq {x y : Code} (h : XA Γ A x T H (seqA (fun T H A => XA Γ A y T H Q) Q)) : XA Γ A (.seq x y) T H Q := by
  intro a w hs hA
  refine wp_seq (wp_mono (h a w hs hA) fun e a' w' ⟨T', H', A', hq, hs', hA'⟩ => ?_)
  cases e with
  | normal => exact hq a' w' hs' hA'
  | _ => exact ⟨T', H', A', hq, hs', hA'⟩
theorem XA_block {id : Nat} {b : Code} (h : XA Γ A b T H (blockA id Q)) : XA Γ A (.block id b) T H Q := by
  intro a w hs hA
  refine wp_block (wp_mono (h a w hs hA) fun e a' w' ⟨T', H', A', hq, hs', hA'⟩ => ?_)
  cases e with
  | exit i =>
    simp only [Exit.inBlock]
    simp only [blockA] at hq
    split
    · rename_i hi; simp only [hi, if_true] at hq; exact ⟨T', H', A', hq, hs', hA'⟩
    · rename_i hi; simp only [hi, if_false] at hq; exact ⟨T', H', A', hq, hs', hA'⟩
  | _ => exact ⟨T', H', A', hq, hs', hA'⟩
theorem rep_here {β : Nat → Nat} {w : World} {L : List Nat} (hR : Rep Γ H β w) (hL : ∀ i, i < H.length → i ∈ L) : Rep (Γ.after Γ.ev Γ.B w β L) H β w :=
  ⟨⟨Nat.zero_le _, fun j hj => absurd hj (Nat.not_lt_zero j)⟩, ⟨rfl, rfl, rfl, Nat.le_refl _, fun _ _ => .inr (.inl rfl)⟩, hR.inj, fun j hj => .inr ⟨j, hL j hj, rfl⟩, hR.typ, hR.blk⟩
theorem st_here {β : Nat → Nat} {w : World} {L : List Nat} {a : Act} (hT : Holds H.length β T a.tmps) (hR : Rep Γ H β w) (hd : a.defers = []) (hL : ∀ i, i < H.length → i ∈ L) : St (Γ.after Γ.ev Γ.B w β L) T H a w := ⟨β, hT, rep_here hR hL, hd⟩
theorem st_back {β : Nat → Nat} {w w' : World} {L : List Nat} {a : Act} {T' : List TV} {H' : Heap} (hR : Rep Γ H β w) (hlt : ∀ i ∈ L, i < H.length) (hn : Γ.n0 = 0) (hS : Steady A) (hA : A w) (hs : St (Γ.after Γ.ev Γ.B w β L) T' H' a w') : St Γ T' H' a w' ∧ A w' := by
  obtain ⟨β', hT', hR', hd'⟩ := hs
  exact ⟨⟨β', hT', hR.back hlt hn (.inl ⟨rfl, rfl⟩) (fun _ h => h) hR', hd'⟩, hS _ _ _ _ _ _ _ _ hR hlt hA hR'.fr.to⟩
theorem XA_X {c : Code} (L : List Nat) (hS : Steady A) (hn : Γ.n0 = 0) (hL : ∀ i, i < H.length → i ∈ L) (hlt : ∀ i ∈ L, i < H.length)
    (h : ∀ β w, Rep Γ H β w → Kn (Γ.after Γ.ev Γ.B w β L) (fun _ w => A w) → (∀ q, Kn Γ q → Kn (Γ.after Γ.ev Γ.B w β L) q) → X (Γ.after Γ.ev Γ.B w β L) c T H fun e T H => Q e T H A) : XA Γ A c T H Q := by
  intro a w ⟨β, hT, hR, hd⟩ hA
  refine wp_mono (h β w hR (fun w' hw' => hS _ _ _ _ _ _ _ _ hR hlt hA hw') (fun q hq => hq.after hR hlt) a w (st_here hT hR hd hL)) fun e a' w' ⟨T', H', hq, hs'⟩ => ?_
  obtain ⟨h1, h2⟩ := st_back hR hlt hn hS hA hs'
  exact ⟨T', H', A, hq, h1, h2⟩
theorem XA_of {c : Code} {Q' : QX} (h : X Γ c T H Q') (hq : ∀ e T H, Q' e T H → Q e T H fun _ => True) : XA Γ A c T H Q := fun a w hs _ =>
  wp_mono (h a w hs) fun e a' w' ⟨T', H', h1, h2⟩ => ⟨T', H', _, hq _ _ _ h1, h2, trivial⟩
def loopA {ι : Type} (T : List TV) (H : Heap) (V : ι → Prop) (μ : ι → Nat) (js : List Nat) (sv : ι → List (Nat × TV)) (hv : ι → List (Nat × List SV)) (AA : ι → World → Prop) (i : ι) (Q : QA) : QA :=
  seqA (fun T' H' A' => ∃ i', μ i' < μ i ∧ Again T H V js sv hv T' H' i' ∧ A' = AA i') Q
theorem XA_loop {c : Code} {ι : Type} (V : ι → Prop) (μ : ι → Nat) (js : List Nat) (sv : ι → List (Nat × TV)) (hv : ι → List (Nat × List SV)) (AA : ι → World → Prop) (i0 : ι)
    (hsh : Shape V H.length sv hv) (hnj : js.Nodup) (h0 : Again T H V js sv hv T H i0) (hA0 : A = AA i0)
    (hr : ∀ i us, V i → XA Γ (AA i) c (setMany (setMany T (junk us js)) (sv i)) (setCells H (hv i)) (loopA T H V μ js sv hv AA i Q)) : XA Γ A (.loop c) T H Q := by
  subst hA0
  intro a w hs hA
  obtain ⟨oT, oH, on⟩ := hs.oks
  refine wp_loop_ghost (fun n a w => ∃ i us, V i ∧ μ i = n ∧ St Γ (setMany (setMany T (junk us js)) (sv i)) (setCells H (hv i)) a w ∧ AA i w) (μ i0) ?_ ?_
  · obtain ⟨us, h⟩ := hs.again hsh hnj oT oH on h0
    exact ⟨i0, us, h0.1, rfl, h, hA⟩
  · rintro n a w ⟨i, us, hV, rfl, hs', hA'⟩
    refine wp_mono (hr i us hV a w hs' hA') fun e a' w' ⟨T', H', A', hq, hs'', hA''⟩ => ?_
    cases e with
    | normal =>
      obtain ⟨i', hlt, hag, rfl⟩ := hq
      obtain ⟨us', h⟩ := hs''.again hsh hnj oT oH on hag
      exact ⟨μ i', hlt, i', us', hag.1, rfl, h, hA''⟩
    | _ => exact ⟨T', H', A', hq, hs'', hA''⟩
end
/-! Tryz# Operations in a row -/
@[irreducible] def XAR (Γ : Ctx) (A : World → Prop) (ops : Array Oper) (l : List Oper) (T : List TV) (H : Heap) (K : KA) : Prop :=
  ∀ (Q : Exit → Act → World → Prop) (a : Act) (w : World), St Γ T H a w → A w → (∀ T' H' A' a' w', K T' H' A' → St Γ T' H' a' w' → A' w' → Q .normal a' w') → wpList Γ.P ops Q l a w
section
variable {Γ : Ctx} {A : World → Prop} {H : Heap} {T : List TV} {ops : Array Oper} {K : KA} {dst : Option Tmp} {op : Op} {ty : TypeId} {pos : String} {af : Array Edge} {r : List Oper}
theorem XAR_def {l : List Oper} : XAR Γ A ops l T H K = ∀ (Q : Exit → Act → World → Prop) (a : Act) (w : World), St Γ T H a w → A w → (∀ T' H' A' a' w', K T' H' A' → St Γ T' H' a' w' → A' w' → Q .normal a' w') → wpList Γ.P ops Q l a w := by unfold XAR; rfl
theorem XAR_nil (h : K T H A) : XAR Γ A ops [] T H K := by
  rw [XAR_def]
  exact fun Q a w hs hA hK => hK _ _ _ _ _ h hs hA
theorem XA_reg {id : Nat} {l : List Oper} {Q : QA} (h : XAR Γ A l.toArray l T H fun T H A => Q .normal T H A) : XA Γ A (.region id l.toArray false) T H Q := by
  intro a w hs hA
  rw [XAR_def] at h
  exact wp_region_list (h _ a w hs hA fun T' H' A' a' w' hq hs' hA' => ⟨T', H', A', hq, hs', hA'⟩)
theorem XAR_step (L : List Nat) (hS : Steady A) (hn : Γ.n0 = 0) (hL : ∀ i, i < H.length → i ∈ L) (hlt : ∀ i ∈ L, i < H.length)
    (h : ∀ β w, Rep Γ H β w → Kn (Γ.after Γ.ev Γ.B w β L) (fun _ w => A w) → (∀ q, Kn Γ q → Kn (Γ.after Γ.ev Γ.B w β L) q) → xstep (Γ.after Γ.ev Γ.B w β L) op (ev T) H fun v H' => XAR Γ A ops r (putT T dst v) H' K) :
    XAR Γ A ops (⟨dst, op, ty, pos, af, none⟩ :: r) T H K := by
  rw [XAR_def]
  intro Q a w hs hA hK
  obtain ⟨β, hT, hR, hd⟩ := hs
  have hwant : Region.wanted (⟨dst, op, ty, pos, af, none⟩ : Oper) (yielded ops a.tmps) = true := by simp [Region.wanted]
  simp only [wpList, hwant, if_true]
  refine .inl (xstep_wp (Γ := Γ.after Γ.ev Γ.B w β L) (o := ⟨dst, op, ty, pos, af, none⟩) (h β w hR (fun w' hw' => hS _ _ _ _ _ _ _ _ hR hlt hA hw') fun q hq => hq.after hR hlt) (st_here hT hR hd hL) fun v H' u w' hv hs'' => ?_)
  rw [XAR_def] at hv
  obtain ⟨h1, h2⟩ := st_back hR hlt hn hS hA hs''
  exact hv Q _ _ h1 h2 hK
theorem XAR_mk {t : TypeId} (h : ∀ b, Γ.W.heap.size ≤ b → XAR Γ (MapAt b fun _ => false) ops r (putT T dst (.s (.v (.map (some b))))) H K) :
    XAR Γ A ops (⟨dst, .makeMap t none, ty, pos, af, none⟩ :: r) T H K := by
  rw [XAR_def]
  intro Q a w hs hA hK
  obtain ⟨β, hT, hR, hd⟩ := hs
  have hput : ∀ u, (a.put dst u).defers = [] := fun u => by cases dst <;> exact hd
  have hwant : Region.wanted (⟨dst, .makeMap t none, ty, pos, af, none⟩ : Oper) (yielded ops a.tmps) = true := by simp [Region.wanted]
  simp only [wpList, hwant, if_true]
  left
  have hrun : (execOp a.eval (⟨dst, .makeMap t none, ty, pos, af, none⟩ : Oper)).run Γ.P w = .ok (.value (.map (some w.heap.size))) (w.alloc (.map #[] 0)) := by
    simp [execOp, run_makeMap]
  unfold Oper.wp
  rw [hrun]
  have hX := h w.heap.size hR.fr.size
  rw [XAR_def] at hX
  exact hX Q _ _ ⟨β, hT.put (Nat.le_refl _) (.refl _ _) (fun _ _ => rfl), hR.ext (Ext.alloc _ _ _ _), hput _⟩ ⟨#[], 0, (MapKept.heap_alloc w _).1, MapIs.nil⟩ hK
theorem XAR_put {b : Nat} {p : Nat → Bool} {n : Nat} {z : Int} {mt kt et : TypeId} {m k x : Operand} (M : MapTy Γ.P mt kt et) (hop : op = .mapUpdate mt m k x ∨ op = .insert mt m k x) (hbW : Γ.W.heap.size ≤ b) (hn : n < 2 ^ 256)
    (hm : ev T m = .s (.v (.map (some b)))) (hk : ev T k = .agg (nat4 n)) (hx : ev T x = .s (.v (.int .i64 z))) (h : XAR Γ (MapAt b fun i => p i || i == n) ops r (putT T dst undefT) H K) :
    XAR Γ (MapAt b p) ops (⟨dst, op, ty, pos, af, none⟩ :: r) T H K := by
  rw [XAR_def] at h ⊢
  intro Q a w hs hA hK
  obtain ⟨β, hT, hR, hd⟩ := hs
  have hput : ∀ u, (a.put dst u).defers = [] := fun u => by cases dst <;> exact hd
  have hwant : Region.wanted (⟨dst, op, ty, pos, af, none⟩ : Oper) (yielded ops a.tmps) = true := by simp [Region.wanted]
  simp only [wpList, hwant, if_true]
  left
  obtain ⟨w', hrun, hA', hos, htape, hout, hsz, hsame⟩ := run_upd M hn (z := z) hA
  have hev := eval_ev (a := a) (hT β (.refl _ _))
  have e1 : a.eval m = .map (some b) := by rw [hev, hm]; rfl
  have e2 : a.eval k = natV n := by rw [hev, hk, natV_conc]
  have e3 : a.eval x = .int .i64 z := by rw [hev, hx]; rfl
  have hex : (execOp a.eval (⟨dst, op, ty, pos, af, none⟩ : Oper)).run Γ.P w = .ok .skip w' := by
    rcases hop with rfl | rfl <;> simp [execOp, e1, e2, e3, hrun, Result.andThen]
  unfold Oper.wp
  rw [hex]
  have hmap : ∃ es c, w.heap[b]? = some (.map es c) := by obtain ⟨es, c, h1, _⟩ := hA; exact ⟨es, c, h1⟩
  obtain ⟨es, c, hes⟩ := hmap
  have hR' : Rep Γ H β w' := by
    refine ⟨hR.anc, ⟨hos.trans hR.fr.os, htape.trans hR.fr.tape, hout.trans hR.fr.output, by rw [hsz]; exact hR.fr.size, fun k hk => ?_⟩, hR.inj, hR.lie, hR.typ, fun β' h' j bb hbb => ?_⟩
    · have hkb : k ≠ b := by omega
      refine (hR.fr.blk k hk).imp id fun h1 => ?_
      exact h1.trans (.inl (hsame k hkb))
    · have h2 := hR.blk β' h' j bb hbb
      rw [hsame]
      · exact h2
      · intro hj
        rw [hj, hes] at h2
        cases h2
  exact h Q _ _ ⟨β, hT.put (Nat.le_refl _) (.refl _ _) (fun _ _ => rfl), hR', hput _⟩ hA' hK
end
/-! Tryz# Functions -/
def retA (P : Program) (rs : List ResultVar) (R : TV → Heap → (World → Prop) → Prop) : QA := fun e T H A => retQ P rs (fun v H => R v H A) e T H
theorem calls_of_XA {Γ : Ctx} {A : World → Prop} {f : FuncId} {fn : Func} {c : Code} {args : List TV} {H : Heap} {β : Nat → Nat} {R : TV → Heap → (World → Prop) → Prop} (hf : Γ.P.funcs[f]? = some fn) (hb : fn.body = some c)
    (hR : Rep Γ H β Γ.W) (hA : A Γ.W) (ha : ∀ x ∈ args, x.ok H.length) (h : XA Γ A c (args ++ List.replicate (fn.ntmps - args.length) undefT) H (retA Γ.P fn.results.toList R)) :
    Calls Γ.P f (args.map (TV.conc β)).toArray Γ.W fun e w' => ∃ v H' A' β', R v H' A' ∧ A' w' ∧ Rep Γ H' β' w' ∧ ∀ β'', Agrees H'.length β' β'' → e = .returned (v.conc β'') := by
  refine calls_of_wp hf hb (wp_mono (h _ _ ⟨β, Holds.of_ok ?_ ?_, hR, rfl⟩ hA) ?_)
  · apply Array.ext'
    simp
  · intro x hx
    rw [List.mem_append] at hx
    rcases hx with hx | hx
    · exact ha x hx
    · rw [List.mem_replicate] at hx
      rw [hx.2]
      intro y hy
      simp at hy
  · rintro e a w' ⟨T', H', A', hq, hs, hA'⟩
    cases e with
    | normal => exact ret_post (fn := fn) (R' := fun e w' => ∃ v H' A' β', R v H' A' ∧ A' w' ∧ Rep Γ H' β' w' ∧ ∀ β'', Agrees H'.length β' β'' → e = .returned (v.conc β'')) (R := fun v H => R v H A') hq hs fun v β' e hv hR' he => ⟨v, H', A', β', hv, hA', hR', he⟩
    | ret => exact ret_post (fn := fn) (R' := fun e w' => ∃ v H' A' β', R v H' A' ∧ A' w' ∧ Rep Γ H' β' w' ∧ ∀ β'', Agrees H'.length β' β'' → e = .returned (v.conc β'')) (R := fun v H => R v H A') hq hs fun v β' e hv hR' he => ⟨v, H', A', β', hv, hA', hR', he⟩
    | _ => exact hq.elim
theorem xext_cells {Γ : Ctx} {V : Evo} {ad : Addr} {n k q : Nat} {g : Nat → Value} (h : Kn Γ (cellsAt V ad n g)) (hk : k + q ≤ n) {K : TV → HE → Prop} : xext Γ (some true) q (ad.add k) K = K (.agg ((List.range q).map fun i => .v (g (k + i)))) .none := by
  have hs := h.spot
  obtain ⟨b, o, s⟩ := ad
  simp only at hs
  subst hs
  rw [addr_add]
  have hc : ∀ i, i < q → extCell Γ ⟨b, o + k + i, none⟩ (g (k + i)) := fun i hi => by
    have h3 := h.cell (i := k + i) (by omega)
    rw [addr_add, ← Nat.add_assoc] at h3
    exact h3
  simp only [xext, eq_iff_iff]
  have e : ∀ l : List Value, l.length = q → (∀ i x, l[i]? = some x → extCell Γ ⟨b, o + k + i, none⟩ x) → l = (List.range q).map fun i => g (k + i) := by
    intro l hl hc'
    refine List.ext_getElem? fun i => ?_
    by_cases hi : i < q
    · have h1 := hc' i l[i] (List.getElem?_eq_getElem (by omega))
      rw [List.getElem?_eq_getElem (by omega), extCell_fun h1 (hc i hi), List.getElem?_map, List.getElem?_range hi]
      rfl
    · rw [List.getElem?_eq_none (by omega), List.getElem?_eq_none (by simp; omega)]
  constructor
  · rintro ⟨l, hl, _, hc', hK⟩
    rw [e l hl hc', List.map_map] at hK
    exact hK
  · intro hK
    refine ⟨(List.range q).map fun i => g (k + i), by simp, trivial, fun i x hx => ?_, by rw [List.map_map]; exact hK⟩
    simp only [List.getElem?_map, Option.map_eq_some_iff] at hx
    obtain ⟨a, ha, rfl⟩ := hx
    have hi : i < q := by
      have := (List.getElem?_eq_some_iff.1 ha).1
      simpa using this
    rw [List.getElem?_range hi] at ha
    injection ha with ha
    subst ha
    exact hc i hi
/-! Tryz# Factors -/
def fac (p : Nat) (e : Int) : List SV := nat4 p ++ [.v (.int .i64 e)]
section
variable {p : Nat} {e : Int}
theorem fac_length : (fac p e).length = 5 := rfl
theorem fac_okk {m : Nat} : (∀ x ∈ fac p e, x.ok m) = True := eq_true fun x hx => by
  rcases List.mem_append.1 hx with h | h
  · exact arr_ok m x h
  · simp only [List.mem_singleton] at h; subst h; trivial
theorem fac_one : oneAll (fac p e) = True := eq_true fun x hx => by
  rcases List.mem_append.1 hx with h | h
  · have : oneAll (nat4 p) := by rw [nat4_one]; trivial
    exact this x h
  · simp only [List.mem_singleton] at h; subst h; rfl
theorem fac_fst : List.take 4 (fac p e) = nat4 p := rfl
theorem fac_snd : (fac p e)[4]? = some (.v (.int .i64 e)) := rfl
theorem fac_splice {l : List SV} (h : l.length = 5) : splice l 0 (fac p e) = fac p e := splice_all (by rw [h]; rfl) (by rw [fac_length]; decide)
end
def facG (P : Nat → Nat) (E : Nat → Int) (j : Nat) : Value := if j % 5 < 4 then .int .u64 (wd (P (j / 5)) (j % 5) : Int) else .int .i64 (E (j / 5))
def facsAt (V : Evo) (x : Option Addr) (n : Nat) (P : Nat → Nat) (E : Nat → Int) : Nat → World → Prop := fun B w => n = 0 ∨ ∃ ad, x = some ad ∧ cellsAt V ad (5 * n) (facG P E) B w
theorem facsAt_stays (V : Evo) (x : Option Addr) (n : Nat) (P : Nat → Nat) (E : Nat → Int) : Stays V (facsAt V x n P E) := by
  rintro B w w' (h | ⟨ad, hx, h⟩) he
  · exact .inl h
  · exact .inr ⟨ad, hx, cellsAt_stays V ad _ _ B w w' h he⟩
def facs (x : Option Addr) (n : Nat) (P : Nat → Nat) (E : Nat → Int) (w : World) : Prop := n = 0 ∨ ∃ ad, x = some ad ∧ ad.spot = none ∧ ∃ c t f, w.heap[ad.block]? = some (.cells c t f) ∧ ∀ i, i < 5 * n → c[ad.off + i]? = some (facG P E i)
theorem facs_at {x : Option Addr} {n : Nat} {P : Nat → Nat} {E : Nat → Int} {w : World} (V : Evo) (h : facs x n P E w) : facsAt V x n P E w.heap.size w := by
  rcases h with h | ⟨ad, hx, hs, c, t, f, hk, hc⟩
  · exact .inl h
  · exact .inr ⟨ad, hx, hs, c, t, f, hk, .inl (Array.getElem?_eq_some_iff.1 hk).1, hc⟩
theorem facs_of {x : Option Addr} {n : Nat} {P : Nat → Nat} {E : Nat → Int} {w : World} {V : Evo} {B : Nat} (h : facsAt V x n P E B w) : facs x n P E w := by
  rcases h with h | ⟨ad, hx, hs, c, t, f, hk, _, hc⟩
  · exact .inl h
  · exact .inr ⟨ad, hx, hs, c, t, f, hk, hc⟩
theorem kn0_law {P : Program} {w : World} {V : Evo} {p : Nat → World → Prop} (hs : Stays V p) (hp : p w.heap.size w) : Kn (ctx0 P w) p := by
  intro w' ⟨h1, h2, h3, h4, h5⟩
  exact hs _ w w' hp ⟨h1, h2, h3, h4, fun k hk => .inl (by
    rcases h5 k hk with h6 | h6 | ⟨_, _, _, _, _, h6⟩
    · exact h6.elim
    · exact h6
    · exact h6.elim)⟩
theorem facs_kn {P0 : Program} {w : World} {x : Option Addr} {n : Nat} {P : Nat → Nat} {E : Nat → Int} (h : facs x n P E w) : Kn (ctx0 P0 w) (facsAt Evo.none x n P E) := kn0_law (facsAt_stays Evo.none x n P E) (facs_at _ h)
theorem Kn.facs0 {Γ : Ctx} {V : Evo} {x : Option Addr} {n : Nat} {P : Nat → Nat} {E : Nat → Int} (h : Kn Γ (facsAt V x n P E)) : Kn Γ fun _ w => Ab.facs x n P E w := fun w hw => facs_of (h w hw)
section
variable {Γ : Ctx} {V : Evo} {ad : Addr} {n i : Nat} {P : Nat → Nat} {E : Nat → Int}
theorem Kn.facs (h : Kn Γ (facsAt V (some ad) n P E)) (hi : i < n) : Kn Γ (cellsAt V ad (5 * n) (facG P E)) := fun w hw => by
  rcases h w hw with h1 | ⟨ad', hx, h1⟩
  · omega
  · injection hx with hx
    subst hx
    exact h1
theorem facG_p {k : Nat} (hk : k < 4) : facG P E (i * 5 + k) = .int .u64 (wd (P i) k : Int) := by
  unfold facG
  rw [show (i * 5 + k) % 5 = k by omega, show (i * 5 + k) / 5 = i by omega, if_pos hk]
theorem facG_e : facG P E (i * 5 + 4) = .int .i64 (E i) := by
  unfold facG
  rw [show (i * 5 + 4) % 5 = 4 by omega, show (i * 5 + 4) / 5 = i by omega, if_neg (by decide)]
theorem map_facG_p : ((List.range 4).map fun k => SV.v (facG P E (i * 5 + k))) = nat4 (P i) := by
  unfold nat4 arr
  refine List.map_congr_left fun k hk => ?_
  rw [List.mem_range] at hk
  rw [facG_p hk]
theorem map_facG : ((List.range 5).map fun k => SV.v (facG P E (i * 5 + k))) = fac (P i) (E i) := by
  rw [List.range_succ, List.map_append, map_facG_p, List.map_singleton, facG_e]
  rfl
theorem Kn.fac (h : Kn Γ (facsAt V (some ad) n P E)) (hi : i < n) {K : TV → HE → Prop} : xext Γ (some true) 5 (ad.add (i * 5)) K = K (.agg (Ab.fac (P i) (E i))) .none := by
  rw [xext_cells (h.facs hi) (by omega), map_facG]
end
/-! Tryz# Proofs -/
structure Pf where
  N : Nat
  G : Nat
  y : Option Addr
  n : Nat
  c : Nat
  P : Nat → Nat
  E : Nat → Int
def prf (N G : Nat) (s : SV) : List SV := nat4 N ++ (nat4 G ++ [s])
section
variable {N G : Nat} {s : SV}
theorem prf_length : (prf N G s).length = 9 := rfl
theorem prf_okk {m : Nat} : (∀ x ∈ prf N G s, x.ok m) = s.ok m := by
  refine propext ⟨fun h => h s (List.mem_append_right _ (List.mem_append_right _ (List.mem_singleton_self s))), fun h x hx => ?_⟩
  rcases List.mem_append.1 hx with h1 | h1
  · exact arr_ok m x h1
  · rcases List.mem_append.1 h1 with h1 | h1
    · exact arr_ok m x h1
    · simp only [List.mem_singleton] at h1; subst h1; exact h
theorem prf_one : oneAll (prf N G s) = (s.one = true) := by
  refine propext ⟨fun h => h s (List.mem_append_right _ (List.mem_append_right _ (List.mem_singleton_self s))), fun h x hx => ?_⟩
  have h4 : ∀ q, oneAll (nat4 q) := fun q => by rw [nat4_one]; trivial
  rcases List.mem_append.1 hx with h1 | h1
  · exact h4 N x h1
  · rcases List.mem_append.1 h1 with h1 | h1
    · exact h4 G x h1
    · simp only [List.mem_singleton] at h1; subst h1; exact h
theorem prf_fst : List.take 4 (prf N G s) = nat4 N := rfl
theorem prf_snd : List.take 4 (List.drop 4 (prf N G s)) = nat4 G := rfl
theorem prf_thd : (prf N G s)[8]? = some s := rfl
theorem prf_splice {l : List SV} (h : l.length = 9) : splice l 0 (prf N G s) = prf N G s := splice_all (by rw [h]; rfl) (by rw [prf_length]; decide)
theorem fz_prf {L : List Nat} {β : Nat → Nat} : (prf N G s).map (SV.fz L β) = prf N G (s.fz L β) := rfl
end
def prfG (l : Nat → Pf) (j : Nat) : Value := if j % 9 < 4 then .int .u64 (wd (l (j / 9)).N (j % 9) : Int) else if j % 9 < 8 then .int .u64 (wd (l (j / 9)).G (j % 9 - 4) : Int) else .slice (l (j / 9)).y (l (j / 9)).n (l (j / 9)).c
def prfAt (V : Evo) (x : Option Addr) (m : Nat) (l : Nat → Pf) : Nat → World → Prop := fun B w => (m = 0 ∨ ∃ ad, x = some ad ∧ cellsAt V ad (9 * m) (prfG l) B w) ∧ ∀ i, i < m → facsAt V (l i).y (l i).n (l i).P (l i).E B w
theorem prfAt_stays (V : Evo) (x : Option Addr) (m : Nat) (l : Nat → Pf) : Stays V (prfAt V x m l) := by
  rintro B w w' ⟨h, hf⟩ he
  refine ⟨?_, fun i hi => facsAt_stays V _ _ _ _ B w w' (hf i hi) he⟩
  rcases h with h | ⟨ad, hx, h⟩
  · exact .inl h
  · exact .inr ⟨ad, hx, cellsAt_stays V ad _ _ B w w' h he⟩
def prfs (x : Option Addr) (m : Nat) (l : Nat → Pf) (w : World) : Prop := (m = 0 ∨ ∃ ad, x = some ad ∧ ad.spot = none ∧ ∃ c t f, w.heap[ad.block]? = some (.cells c t f) ∧ ∀ i, i < 9 * m → c[ad.off + i]? = some (prfG l i)) ∧ ∀ i, i < m → facs (l i).y (l i).n (l i).P (l i).E w
theorem prfs_at {x : Option Addr} {m : Nat} {l : Nat → Pf} {w : World} (V : Evo) (h : prfs x m l w) : prfAt V x m l w.heap.size w := by
  refine ⟨?_, fun i hi => facs_at V (h.2 i hi)⟩
  rcases h.1 with h | ⟨ad, hx, hs, c, t, f, hk, hc⟩
  · exact .inl h
  · exact .inr ⟨ad, hx, hs, c, t, f, hk, .inl (Array.getElem?_eq_some_iff.1 hk).1, hc⟩
theorem prfs_of {x : Option Addr} {m : Nat} {l : Nat → Pf} {w : World} {V : Evo} {B : Nat} (h : prfAt V x m l B w) : prfs x m l w := by
  refine ⟨?_, fun i hi => facs_of (h.2 i hi)⟩
  rcases h.1 with h | ⟨ad, hx, hs, c, t, f, hk, _, hc⟩
  · exact .inl h
  · exact .inr ⟨ad, hx, hs, c, t, f, hk, hc⟩
theorem prfs_kn {P0 : Program} {w : World} {x : Option Addr} {m : Nat} {l : Nat → Pf} (h : prfs x m l w) : Kn (ctx0 P0 w) (prfAt Evo.none x m l) := kn0_law (prfAt_stays Evo.none x m l) (prfs_at _ h)
theorem Kn.prfs0 {Γ : Ctx} {V : Evo} {x : Option Addr} {m : Nat} {l : Nat → Pf} (h : Kn Γ (prfAt V x m l)) : Kn Γ fun _ w => Ab.prfs x m l w := fun w hw => prfs_of (h w hw)
def gnat (k v : Nat) (w : World) : Prop := ∃ c t f, w.heap[k]? = some (.cells c t f) ∧ ∀ i, i < 4 → c[i]? = some (natsG (fun _ => v) i)
theorem gnat_at {k v : Nat} {w : World} (V : Evo) (h : gnat k v w) : natsAt V (some ⟨k, 0, none⟩) 1 (fun _ => v) w.heap.size w := by
  obtain ⟨c, t, f, hk, hc⟩ := h
  exact .inr ⟨_, rfl, rfl, c, t, f, hk, .inl (Array.getElem?_eq_some_iff.1 hk).1, fun i hi => by rw [Nat.zero_add]; exact hc i hi⟩
theorem gnat_of {k v : Nat} {w : World} {V : Evo} {B : Nat} (h : natsAt V (some ⟨k, 0, none⟩) 1 (fun _ => v) B w) : gnat k v w := by
  rcases h with h | ⟨ad, hx, _, c, t, f, hk, _, hc⟩
  · cases h
  · injection hx with hx
    subst hx
    exact ⟨c, t, f, hk, fun i hi => by have := hc i hi; rwa [Nat.zero_add] at this⟩
theorem gnat_kn {k v : Nat} {P0 : Program} {w : World} (h : gnat k v w) : Kn (ctx0 P0 w) (natsAt Evo.none (some ⟨k, 0, none⟩) 1 fun _ => v) := kn0_law (natsAt_stays Evo.none _ _ _) (gnat_at _ h)
theorem Kn.gnat0 {k v : Nat} {Γ : Ctx} {V : Evo} (h : Kn Γ (natsAt V (some ⟨k, 0, none⟩) 1 fun _ => v)) : Kn Γ fun _ w => gnat k v w := fun w hw => gnat_of (h w hw)
theorem Kn.gnat {k v : Nat} {Γ : Ctx} {V : Evo} (h : Kn Γ (natsAt V (some ⟨k, 0, none⟩) 1 fun _ => v)) {K : TV → HE → Prop} : xext Γ (some true) 4 ⟨k, 0, none⟩ K = K (.agg (nat4 v)) .none := h.nat (i := 0) (by decide)
def least (w : World) : Prop := gnat 3 2 w
theorem least_at {w : World} (V : Evo) (h : least w) : natsAt V (some ⟨3, 0, none⟩) 1 (fun _ => 2) w.heap.size w := gnat_at V h
theorem least_of {w : World} {V : Evo} {B : Nat} (h : natsAt V (some ⟨3, 0, none⟩) 1 (fun _ => 2) B w) : least w := gnat_of h
theorem least_kn {P0 : Program} {w : World} (h : least w) : Kn (ctx0 P0 w) (natsAt Evo.none (some ⟨3, 0, none⟩) 1 fun _ => 2) := gnat_kn h
theorem Kn.least0 {Γ : Ctx} {V : Evo} (h : Kn Γ (natsAt V (some ⟨3, 0, none⟩) 1 fun _ => 2)) : Kn Γ fun _ w => Ab.least w := fun w hw => least_of (h w hw)
theorem Kn.least {Γ : Ctx} {V : Evo} (h : Kn Γ (natsAt V (some ⟨3, 0, none⟩) 1 fun _ => 2)) {K : TV → HE → Prop} : xext Γ (some true) 4 ⟨3, 0, none⟩ K = K (.agg (nat4 2)) .none := h.gnat
section
variable {Γ : Ctx} {V : Evo} {ad : Addr} {n i : Nat} {l : Nat → Pf}
theorem Kn.prfs (h : Kn Γ (prfAt V (some ad) n l)) (hi : i < n) : Kn Γ (cellsAt V ad (9 * n) (prfG l)) := fun w hw => by
  rcases (h w hw).1 with h1 | ⟨ad', hx, h1⟩
  · omega
  · injection hx with hx
    subst hx
    exact h1
theorem Kn.prfF {x : Option Addr} (h : Kn Γ (prfAt V x n l)) (hi : i < n) : Kn Γ (facsAt V (l i).y (l i).n (l i).P (l i).E) := fun w hw => (h w hw).2 i hi
theorem prfG_n {k : Nat} (hk : k < 4) : prfG l (i * 9 + k) = .int .u64 (wd (l i).N k : Int) := by
  unfold prfG
  rw [show (i * 9 + k) % 9 = k by omega, show (i * 9 + k) / 9 = i by omega, if_pos hk]
theorem prfG_g {k : Nat} (hk : k < 4) : prfG l (i * 9 + 4 + k) = .int .u64 (wd (l i).G k : Int) := by
  unfold prfG
  rw [show (i * 9 + 4 + k) % 9 = 4 + k by omega, show (i * 9 + 4 + k) / 9 = i by omega, if_neg (by omega), if_pos (by omega), Nat.add_sub_cancel_left]
theorem prfG_s : prfG l (i * 9 + 8) = .slice (l i).y (l i).n (l i).c := by
  unfold prfG
  rw [show (i * 9 + 8) % 9 = 8 by omega, show (i * 9 + 8) / 9 = i by omega, if_neg (by decide), if_neg (by decide)]
theorem map_prfG_n : ((List.range 4).map fun k => SV.v (prfG l (i * 9 + k))) = nat4 (l i).N := by
  unfold nat4 arr
  refine List.map_congr_left fun k hk => ?_
  rw [List.mem_range] at hk
  rw [prfG_n hk]
theorem map_prfG_g : ((List.range 4).map fun k => SV.v (prfG l (i * 9 + 4 + k))) = nat4 (l i).G := by
  unfold nat4 arr
  refine List.map_congr_left fun k hk => ?_
  rw [List.mem_range] at hk
  rw [prfG_g hk]
theorem map_prfG : ((List.range 9).map fun k => SV.v (prfG l (i * 9 + k))) = prf (l i).N (l i).G (.v (.slice (l i).y (l i).n (l i).c)) := by
  have h : (List.range 9).map (fun k => SV.v (prfG l (i * 9 + k))) = (List.range 4).map (fun k => SV.v (prfG l (i * 9 + k))) ++ ((List.range 4).map (fun k => SV.v (prfG l (i * 9 + 4 + k))) ++ [SV.v (prfG l (i * 9 + 8))]) := rfl
  rw [h, map_prfG_n, map_prfG_g, prfG_s]
  rfl
theorem Kn.prf (h : Kn Γ (prfAt V (some ad) n l)) (hi : i < n) {K : TV → HE → Prop} : xext Γ (some true) 9 (ad.add (i * 9)) K = K (.agg (Ab.prf (l i).N (l i).G (.v (.slice (l i).y (l i).n (l i).c)))) .none := by
  rw [xext_cells (h.prfs hi) (by omega), map_prfG]
end
end Go.Ab
namespace Go.Proofs.YtdmcknmjdlghgaaGreatDoor
open Go Go.Ab
set_option linter.unusedSimpArgs false
set_option linter.unusedVariables false
theorem tf22_row : rowOf Tryz.prog 22 = some false := by kernel_rfl
theorem tf22_sz : Tryz.prog.cellsOf 22 = 1 := by kernel_rfl
theorem tf22_szO : szO Tryz.prog 22 = some 1 := by kernel_rfl
theorem tf22_slc : slcOf Tryz.prog 22 = some 26 := by kernel_rfl
theorem tf22_arr : arrOf Tryz.prog 22 = none := by kernel_rfl
theorem tf22_isSlc : isSlc Tryz.prog 22 = true := by kernel_rfl
theorem tf22_zero : zeroA Tryz.prog 22 = some [.v (.slice none 0 0)] := by kernel_rfl
theorem tf61_row : rowOf Tryz.prog 61 = some true := by kernel_rfl
theorem tf61_sz : Tryz.prog.cellsOf 61 = 5 := by kernel_rfl
theorem tf61_szO : szO Tryz.prog 61 = some 5 := by kernel_rfl
theorem tf61_f0 : fieldOff Tryz.prog 61 0 = some (0, 26) := by kernel_rfl
theorem tf61_f1 : fieldOff Tryz.prog 61 1 = some (4, 3) := by kernel_rfl
theorem tf61_known : known Tryz.prog 61 = true := by kernel_rfl
theorem tf61_eq : eqTy Tryz.prog 61 = true := by kernel_rfl
theorem tf61_zero : zeroA Tryz.prog 61 = some [.v (.int .u64 0), .v (.int .u64 0), .v (.int .u64 0), .v (.int .u64 0), .v (.int .i64 0)] := by kernel_rfl
theorem tf61_p0 : placeOf Tryz.prog 61 0 = some (0, 4) := by kernel_rfl
theorem tf61_p1 : placeOf Tryz.prog 61 1 = some (4, 1) := by kernel_rfl
theorem tf61_slc : slcOf Tryz.prog 61 = none := by kernel_rfl
theorem tf62_row : rowOf Tryz.prog 62 = some false := by kernel_rfl
theorem tf62_sz : Tryz.prog.cellsOf 62 = 1 := by kernel_rfl
theorem tf62_szO : szO Tryz.prog 62 = some 1 := by kernel_rfl
theorem tf62_slc : slcOf Tryz.prog 62 = some 61 := by kernel_rfl
theorem tf62_arr : arrOf Tryz.prog 62 = none := by kernel_rfl
theorem tf62_isSlc : isSlc Tryz.prog 62 = true := by kernel_rfl
theorem tf62_zero : zeroA Tryz.prog 62 = some [.v (.slice none 0 0)] := by kernel_rfl
theorem tf64_row : rowOf Tryz.prog 64 = some true := by kernel_rfl
theorem tf64_sz : Tryz.prog.cellsOf 64 = 9 := by kernel_rfl
theorem tf64_szO : szO Tryz.prog 64 = some 9 := by kernel_rfl
theorem tf64_f0 : fieldOff Tryz.prog 64 0 = some (0, 26) := by kernel_rfl
theorem tf64_f1 : fieldOff Tryz.prog 64 1 = some (4, 26) := by kernel_rfl
theorem tf64_f2 : fieldOff Tryz.prog 64 2 = some (8, 62) := by kernel_rfl
theorem tf64_known : known Tryz.prog 64 = true := by kernel_rfl
theorem tf64_zero : zeroA Tryz.prog 64 = some [.v (.int .u64 0), .v (.int .u64 0), .v (.int .u64 0), .v (.int .u64 0), .v (.int .u64 0), .v (.int .u64 0), .v (.int .u64 0), .v (.int .u64 0), .v (.slice none 0 0)] := by kernel_rfl
theorem tf64_p0 : placeOf Tryz.prog 64 0 = some (0, 4) := by kernel_rfl
theorem tf64_p1 : placeOf Tryz.prog 64 1 = some (4, 4) := by kernel_rfl
theorem tf64_p2 : placeOf Tryz.prog 64 2 = some (8, 1) := by kernel_rfl
theorem tf64_slc : slcOf Tryz.prog 64 = none := by kernel_rfl
theorem tf29_row : rowOf Tryz.prog 29 = some false := by kernel_rfl
theorem tf29_sz : Tryz.prog.cellsOf 29 = 1 := by kernel_rfl
theorem tf29_szO : szO Tryz.prog 29 = some 1 := by kernel_rfl
theorem tf29_slc : slcOf Tryz.prog 29 = some 64 := by kernel_rfl
theorem tf29_arr : arrOf Tryz.prog 29 = none := by kernel_rfl
theorem tf29_isSlc : isSlc Tryz.prog 29 = true := by kernel_rfl
theorem tf29_zero : zeroA Tryz.prog 29 = some [.v (.slice none 0 0)] := by kernel_rfl
theorem tf119_row : rowOf Tryz.prog 119 = some false := by kernel_rfl
theorem tf119_sz : Tryz.prog.cellsOf 119 = 1 := by kernel_rfl
theorem tf119_szO : szO Tryz.prog 119 = some 1 := by kernel_rfl
theorem tf119_slc : slcOf Tryz.prog 119 = none := by kernel_rfl
theorem tf28_row : rowOf Tryz.prog 28 = some true := by kernel_rfl
theorem tf28_sz : Tryz.prog.cellsOf 28 = 12 := by kernel_rfl
theorem tf28_szO : szO Tryz.prog 28 = some 12 := by kernel_rfl
theorem tf28_f0 : fieldOff Tryz.prog 28 0 = some (0, 26) := by kernel_rfl
theorem tf28_f1 : fieldOff Tryz.prog 28 1 = some (4, 26) := by kernel_rfl
theorem tf28_f2 : fieldOff Tryz.prog 28 2 = some (8, 26) := by kernel_rfl
theorem tf28_known : known Tryz.prog 28 = true := by kernel_rfl
theorem tf28_eq : eqTy Tryz.prog 28 = true := by kernel_rfl
theorem tf28_zero : zeroA Tryz.prog 28 = some [.v (.int .u64 0), .v (.int .u64 0), .v (.int .u64 0), .v (.int .u64 0), .v (.int .u64 0), .v (.int .u64 0), .v (.int .u64 0), .v (.int .u64 0), .v (.int .u64 0), .v (.int .u64 0), .v (.int .u64 0), .v (.int .u64 0)] := by kernel_rfl
theorem tf28_p0 : placeOf Tryz.prog 28 0 = some (0, 4) := by kernel_rfl
theorem tf28_p1 : placeOf Tryz.prog 28 1 = some (4, 4) := by kernel_rfl
theorem tf28_p2 : placeOf Tryz.prog 28 2 = some (8, 4) := by kernel_rfl
theorem tf28_slc : slcOf Tryz.prog 28 = none := by kernel_rfl
theorem tf100_row : rowOf Tryz.prog 100 = some true := by kernel_rfl
theorem tf100_sz : Tryz.prog.cellsOf 100 = 14 := by kernel_rfl
theorem tf100_szO : szO Tryz.prog 100 = some 14 := by kernel_rfl
theorem tf100_f0 : fieldOff Tryz.prog 100 0 = some (0, 28) := by kernel_rfl
theorem tf100_f1 : fieldOff Tryz.prog 100 1 = some (12, 71) := by kernel_rfl
theorem tf100_f2 : fieldOff Tryz.prog 100 2 = some (13, 71) := by kernel_rfl
theorem tf100_known : known Tryz.prog 100 = true := by kernel_rfl
theorem tf100_zero : zeroA Tryz.prog 100 = some [.v (.int .u64 0), .v (.int .u64 0), .v (.int .u64 0), .v (.int .u64 0), .v (.int .u64 0), .v (.int .u64 0), .v (.int .u64 0), .v (.int .u64 0), .v (.int .u64 0), .v (.int .u64 0), .v (.int .u64 0), .v (.int .u64 0), .v (.pointer none), .v (.pointer none)] := by kernel_rfl
theorem tf100_p0 : placeOf Tryz.prog 100 0 = some (0, 12) := by kernel_rfl
theorem tf100_p1 : placeOf Tryz.prog 100 1 = some (12, 1) := by kernel_rfl
theorem tf100_p2 : placeOf Tryz.prog 100 2 = some (13, 1) := by kernel_rfl
theorem tf100_slc : slcOf Tryz.prog 100 = none := by kernel_rfl
theorem tf32_row : rowOf Tryz.prog 32 = some false := by kernel_rfl
theorem tf32_sz : Tryz.prog.cellsOf 32 = 1 := by kernel_rfl
theorem tf32_szO : szO Tryz.prog 32 = some 1 := by kernel_rfl
theorem tf32_slc : slcOf Tryz.prog 32 = none := by kernel_rfl
theorem tf32_ptr : isPtr Tryz.prog 32 = true := by kernel_rfl
theorem tf32_zero : zeroA Tryz.prog 32 = some [.v (.pointer none)] := by kernel_rfl
theorem tf108_row : rowOf Tryz.prog 108 = some false := by kernel_rfl
theorem tf108_sz : Tryz.prog.cellsOf 108 = 1 := by kernel_rfl
theorem tf108_szO : szO Tryz.prog 108 = some 1 := by kernel_rfl
theorem tf108_slc : slcOf Tryz.prog 108 = none := by kernel_rfl
theorem tf45_row : rowOf Tryz.prog 45 = some true := by kernel_rfl
theorem tf45_sz : Tryz.prog.cellsOf 45 = 5 := by kernel_rfl
theorem tf45_szO : szO Tryz.prog 45 = some 5 := by kernel_rfl
theorem tf45_f0 : fieldOff Tryz.prog 45 0 = some (0, 3) := by kernel_rfl
theorem tf45_f1 : fieldOff Tryz.prog 45 1 = some (1, 26) := by kernel_rfl
theorem tf45_known : known Tryz.prog 45 = true := by kernel_rfl
theorem tf45_eq : eqTy Tryz.prog 45 = true := by kernel_rfl
theorem tf45_zero : zeroA Tryz.prog 45 = some [.v (.int .i64 0), .v (.int .u64 0), .v (.int .u64 0), .v (.int .u64 0), .v (.int .u64 0)] := by kernel_rfl
theorem tf45_p0 : placeOf Tryz.prog 45 0 = some (0, 1) := by kernel_rfl
theorem tf45_p1 : placeOf Tryz.prog 45 1 = some (1, 4) := by kernel_rfl
theorem tf45_slc : slcOf Tryz.prog 45 = none := by kernel_rfl
theorem tf46_row : rowOf Tryz.prog 46 = some false := by kernel_rfl
theorem tf46_sz : Tryz.prog.cellsOf 46 = 1 := by kernel_rfl
theorem tf46_szO : szO Tryz.prog 46 = some 1 := by kernel_rfl
theorem tf46_slc : slcOf Tryz.prog 46 = some 45 := by kernel_rfl
theorem tf46_arr : arrOf Tryz.prog 46 = none := by kernel_rfl
theorem tf46_isSlc : isSlc Tryz.prog 46 = true := by kernel_rfl
theorem tf46_zero : zeroA Tryz.prog 46 = some [.v (.slice none 0 0)] := by kernel_rfl
theorem tf77_row : rowOf Tryz.prog 77 = some false := by kernel_rfl
theorem tf77_sz : Tryz.prog.cellsOf 77 = 1 := by kernel_rfl
theorem tf77_szO : szO Tryz.prog 77 = some 1 := by kernel_rfl
theorem tf77_slc : slcOf Tryz.prog 77 = none := by kernel_rfl
theorem tf80_row : rowOf Tryz.prog 80 = some false := by kernel_rfl
theorem tf80_sz : Tryz.prog.cellsOf 80 = 1 := by kernel_rfl
theorem tf80_szO : szO Tryz.prog 80 = some 1 := by kernel_rfl
theorem tf80_slc : slcOf Tryz.prog 80 = some 77 := by kernel_rfl
theorem tf80_arr : arrOf Tryz.prog 80 = none := by kernel_rfl
theorem tf80_isSlc : isSlc Tryz.prog 80 = true := by kernel_rfl
theorem tf80_zero : zeroA Tryz.prog 80 = some [.v (.slice none 0 0)] := by kernel_rfl
def pieceC (s : Int) (a : Nat) : List SV := .v (.int .i64 s) :: nat4 a
theorem pieceC_length {s : Int} {a : Nat} : (pieceC s a).length = 5 := rfl
theorem pieceC_okk {s : Int} {a m : Nat} : (∀ x ∈ pieceC s a, x.ok m) = True := eq_true fun x hx => by
  rcases List.mem_cons.1 hx with rfl | h
  · trivial
  · exact arr_ok m x h
theorem pieceC_one {s : Int} {a : Nat} : oneAll (pieceC s a) = True := eq_true fun x hx => by
  have h4 : oneAll (nat4 a) := by rw [nat4_one]; trivial
  rcases List.mem_cons.1 hx with rfl | h
  · trivial
  · exact h4 x h
theorem piece_splice {l : List SV} {s : Int} {a : Nat} (h : l.length = 5) : splice l 0 (pieceC s a) = pieceC s a := splice_all (by rw [h]; rfl) (by rw [pieceC_length]; decide)
theorem piece_0 {s : Int} {a : Nat} : (pieceC s a)[0]? = some (.v (.int .i64 s)) := rfl
theorem piece_1 {s : Int} {a : Nat} : List.take 4 (List.drop 1 (pieceC s a)) = nat4 a := rfl
end Go.Proofs.YtdmcknmjdlghgaaGreatDoor
namespace Go.Ab
open Go Go.RowKit
set_option linter.unusedSimpArgs false
set_option linter.unusedVariables false
section
variable {Γ : Ctx} {A : World → Prop} {H : Heap} {T : List TV} {ops : Array Oper} {K : KA} {dst : Option Tmp} {ty : TypeId} {pos : String} {af : Array Edge} {r : List Oper}
theorem XAR_call {g : Operand} {az : List Operand} {ts : Array TypeId} {f : FuncId} {args : List TV} {Rr : TV → (World → Prop) → Prop} (hg : ev T g = .s (.v (.func (.func f) #[] #[]))) (hargs : az.map (ev T) = args) (hcall : callable Γ.P f = true)
    (h : ∀ β w, Rep Γ H β w → A w → Calls Γ.P f (args.map (TV.conc β)).toArray w fun e w' => ∃ v A', Rr v A' ∧ A' w' ∧ (∀ β', e = .returned (v.conc β')) ∧ Ext Γ.ev Γ.B w w')
    (hK : ∀ v A', Rr v A' → XAR Γ A' ops r (putT T dst v) H K) : XAR Γ A ops (⟨dst, .call ⟨.value g, az.toArray, ts⟩, ty, pos, af, none⟩ :: r) T H K := by
  rw [XAR_def]
  intro Q a w hs hA hKK
  obtain ⟨β, hT, hR, hd⟩ := hs
  have hput : ∀ u, (a.put dst u).defers = [] := fun u => by cases dst <;> exact hd
  have hwant : Region.wanted (⟨dst, .call ⟨.value g, az.toArray, ts⟩, ty, pos, af, none⟩ : Oper) (yielded ops a.tmps) = true := by simp [Region.wanted]
  simp only [wpList, hwant, if_true]
  left
  have hev := eval_ev (a := a) (hT β (.refl _ _))
  have hgc : a.eval g = .func (.func f) #[] #[] := by rw [hev, hg]; rfl
  have hrun := run_callF (P := Γ.P) (o := ⟨dst, .call ⟨.value g, az.toArray, ts⟩, ty, pos, af, none⟩) (ρ := a.eval) rfl rfl hgc hcall w
  have hargs' : (args.map (TV.conc β)).toArray = #[] ++ (az.toArray).map a.eval ++ #[] := by
    apply Array.ext'
    simp [← hargs, Function.comp_def, hev]
  unfold Oper.wp
  rw [hrun]
  simp only [Oper.upon]
  have h' := h β w hR hA
  rw [hargs'] at h'
  refine h'.mono fun e w' ⟨v, A', hR', hA', he, hx⟩ => ?_
  have he0 := he β
  subst he0
  simp only
  have hX := hK v A' hR'
  rw [XAR_def] at hX
  refine hX Q _ _ ⟨β, hT.put (Nat.le_refl _) (.refl _ _) (fun β'' _ => ?_), hR.ext hx, hput _⟩ hA' hKK
  have h1 := he β''
  injection h1 with h1
  exact h1.symm
end
theorem pureM_ofA {P : Program} {f : FuncId} {fn : Func} {c : Code} {args : List TV} {pre : World → Prop} {r : TV} (hf : P.funcs[f]? = some fn) (hb : fn.body = some c) (ha : ∀ x ∈ args, x.ok 0) (hr : r.ok 0)
    (h : ∀ w, pre w → XA (ctx0 P w) (fun _ => True) c (args ++ List.replicate (fn.ntmps - args.length) undefT) [] (retA P fn.results.toList fun v _ _ => v = r)) : PureM P f args pre r := by
  intro w hw
  refine (calls_of_XA (Γ := ctx0 P w) hf hb (rep0 P w fun _ => 0) trivial ha (h w hw)).mono ?_
  rintro e w' ⟨v, H', A', β', rfl, _, hR, he⟩
  refine ⟨fun β'' => ?_, below_of_rep0 hR⟩
  rw [he β' (.refl _ _)]
  rw [TV.conc_ok hr (β := β'') (β' := β') (fun j hj => absurd hj (Nat.not_lt_zero j))]
def AB.ren (ρ : Nat → Nat) (b : AB) : AB := ⟨b.t, b.cs.map (SV.ren ρ)⟩
theorem AB.conc_ren (ρ β : Nat → Nat) (b : AB) : (b.ren ρ).conc β = b.conc (β ∘ ρ) := by
  unfold AB.ren AB.conc
  simp only [List.map_map]
  congr 2
  exact List.map_congr_left fun x _ => SV.conc_ren ρ β x
theorem AB.conc_okk {b : AB} {n : Nat} (h : ∀ x ∈ b.cs, x.ok n) {β β' : Nat → Nat} (hβ : Agrees n β β') : b.conc β' = b.conc β := by
  unfold AB.conc
  rw [SV.concs_ok h hβ]
def NewG (P : Program) (f : FuncId) (args : List TV) (pre : World → Prop) (R : TV → Heap → Prop) : Prop :=
  ∀ w, pre w → Calls P f (args.map (TV.conc fun _ => 0)).toArray w fun e w' =>
    ∃ v H' β', R v H' ∧ (∀ b ∈ H', ∀ x ∈ b.cs, x.ok H'.length) ∧ v.ok H'.length ∧ Rep (ctx0 P w) H' β' w' ∧ e = .returned (v.conc β')
def GivesG (R : TV → Heap → Prop) (v : TV) (H' : Heap) : Prop :=
  ∃ L v2 H2, R v2 H2 ∧ L.Nodup ∧ v = v2.ren (lk L) ∧ v2.ok H2.length ∧ selH L H' (H2.map (AB.ren (lk L))) ∧ ∀ b ∈ H2, ∀ x ∈ b.cs, x.ok H2.length
theorem rep_sel {P : Program} {w w' : World} {H' H2 : Heap} {β' : Nat → Nat} {L : List Nat} (hLn : L.Nodup) (hsel : selH L H' (H2.map (AB.ren (lk L)))) (hcs : ∀ b ∈ H2, ∀ x ∈ b.cs, x.ok H2.length) (hR : Rep (ctx0 P w) H' β' w') : Rep (ctx0 P w) H2 (β' ∘ lk L) w' := by
  obtain ⟨hlen, hblk⟩ := selH_spec hsel
  rw [List.length_map] at hlen
  have hlt : ∀ k b, H2[k]? = some b → H'[lk L k]? = some (b.ren (lk L)) := fun k b hb => by
    obtain ⟨l, h1, h2⟩ := hblk k (b.ren (lk L)) (by rw [List.getElem?_map, hb]; rfl)
    simp only [lk, List.getD_eq_getElem?_getD, h1, Option.getD_some]
    exact h2
  have hlt' : ∀ k, k < H2.length → lk L k < H'.length := fun k hk => (List.getElem?_eq_some_iff.1 (hlt k _ (List.getElem?_eq_getElem hk))).1
  refine ⟨⟨Nat.zero_le _, fun k hk => absurd hk (Nat.not_lt_zero k)⟩, hR.fr, fun p q hp hq hpq => ?_, fun k hk => hR.lie _ (hlt' k hk), fun k b hb => ?_, fun β'' h'' k b hb => ?_⟩
  · have h1 := hR.inj _ _ (hlt' p hp) (hlt' q hq) hpq
    have hpL : p < L.length := by rw [← hlen]; exact hp
    have hqL : q < L.length := by rw [← hlen]; exact hq
    simp only [lk, List.getD_eq_getElem?_getD, List.getElem?_eq_getElem hpL, List.getElem?_eq_getElem hqL, Option.getD_some] at h1
    exact nodup_inj hLn hpL hqL h1
  · exact hR.typ _ (b.ren (lk L)) (hlt k b hb)
  · have h3 := hR.blk β' (.refl _ _) _ _ (hlt k b hb)
    rw [Function.comp_apply, h3, AB.conc_ren]
    exact congrArg some (AB.conc_okk (hcs b (List.mem_of_getElem? hb)) h'').symm
theorem newG_of {P : Program} {f : FuncId} {fn : Func} {c : Code} {args : List TV} {pre : World → Prop} {R : TV → Heap → Prop} (hf : P.funcs[f]? = some fn) (hb : fn.body = some c) (ha : ∀ x ∈ args, x.ok 0)
    (h : ∀ w, pre w → X (ctx0 P w) c (args ++ List.replicate (fn.ntmps - args.length) undefT) [] (retQ P fn.results.toList (GivesG R))) : NewG P f args pre R := by
  intro w hw
  refine (calls_of_X (Γ := ctx0 P w) hf hb (rep0 P w fun _ => 0) ha (h w hw)).mono ?_
  rintro e w' ⟨v, H', β', ⟨L, v2, H2, hR2, hLn, rfl, hok, hsel, hcs⟩, hR, he⟩
  exact ⟨v2, H2, β' ∘ lk L, hR2, hcs, hok, rep_sel hLn hsel hcs hR, by rw [he β' (.refl _ _), TV.conc_ren]⟩
theorem xcall_newG {Γ : Ctx} {H : Heap} {f : FuncId} {args : List TV} {R : TV → Heap → Prop} {K : TV → Heap → Prop} (hc : callable Γ.P f = true)
    (h : ∀ β w, Rep Γ H β w → ∃ pre, NewG Γ.P f (args.map (TV.fz [] β)) pre R ∧ pre w) (hev : ∀ t, ¬ Γ.ev.TM t)
    (hK : ∀ v H', R v H' → K (v.ren (· + H.length)) (H ++ H'.map (AB.ren (· + H.length)))) : xcallF Γ H f args K := by
  refine xcall_gen (fun r H2 => ∃ v H', R v H' ∧ r = v.ren (· + H.length) ∧ H2 = H ++ H'.map (AB.ren (· + H.length))) hc ?_ fun r H2 ⟨v, H', hR, hr, hH⟩ => by subst hr; subst hH; exact hK v H' hR
  intro β w hR
  have e : args.map (TV.conc β) = (args.map (TV.fz [] β)).map (TV.conc fun _ => 0) := by
    rw [List.map_map]
    exact List.map_congr_left fun x _ => (TV.fz_conc (fun i j h => by simp at h) x).symm
  rw [e]
  obtain ⟨pre, h1, h2⟩ := h β w hR
  refine (h1 w h2).mono ?_
  rintro e w' ⟨v, H', β', hRv, hcs, hok, hR', he⟩
  have hbel := below_of_rep0 hR'
  have hRw := hR.ext (Ext.of_below (V := Γ.ev) (B := Γ.B) hbel)
  let β2 : Nat → Nat := fun j => if j < H.length then β j else β' (j - H.length)
  have hag : Agrees H.length β β2 := fun j hj => by simp [β2, hj]
  have hag2 : ∀ j, β2 (j + H.length) = β' j := fun j => by simp [β2, show ¬ j + H.length < H.length by omega]
  have hbig : ∀ j, j < H'.length → w.heap.size ≤ β' j := fun j hj => by
    rcases hR'.lie j hj with h1 | h1
    · exact h1
    · exact h1.elim
  have hsm : ∀ j, j < H.length → β j < w.heap.size := fun j hj => hR.lt hj
  refine ⟨v.ren (· + H.length), H ++ H'.map (AB.ren (· + H.length)), β2, ⟨v, H', hRv, rfl, rfl⟩, hag, by simp, ?_, fun β'' h'' => ?_⟩
  · refine ⟨⟨by simp; exact Nat.le_trans hR.anc.1 (Nat.le_add_right _ _), hR.anc.2.trans (hag.mono hR.anc.1)⟩, hRw.fr, fun p q hp hq hpq => ?_, fun j hj => ?_, fun j b hb => hev _, fun β'' h'' j b hb => ?_⟩
    · simp only [List.length_append, List.length_map] at hp hq
      by_cases h1 : p < H.length
      · by_cases h2 : q < H.length
        · simp only [β2, h1, h2, if_true] at hpq
          exact hR.inj p q h1 h2 hpq
        · simp only [β2, h1, h2, if_true, if_false] at hpq
          have := hsm p h1
          have := hbig (q - H.length) (by omega)
          omega
      · by_cases h2 : q < H.length
        · simp only [β2, h1, h2, if_true, if_false] at hpq
          have := hsm q h2
          have := hbig (p - H.length) (by omega)
          omega
        · simp only [β2, h1, h2, if_false] at hpq
          have := hR'.inj _ _ (by omega) (by omega) hpq
          omega
    · simp only [List.length_append, List.length_map] at hj
      by_cases h1 : j < H.length
      · simp only [β2, h1, if_true]; exact hR.lie j h1
      · simp only [β2, h1, if_false]
        exact .inl (Nat.le_trans hR.fr.size (hbig _ (by omega)))
    · by_cases h1 : j < H.length
      · rw [List.getElem?_append_left h1] at hb
        simp only [β2, h1, if_true]
        refine hRw.blk β'' (hag.trans (h''.mono (by simp))) j b hb
      · rw [List.getElem?_append_right (by omega), List.getElem?_map] at hb
        obtain ⟨b0, hb0, rfl⟩ := Option.map_eq_some_iff.1 hb
        simp only [β2, h1, if_false]
        rw [hR'.blk β' (.refl _ _) _ b0 hb0, AB.conc_ren]
        refine congrArg some (AB.conc_okk (hcs b0 (List.mem_of_getElem? hb0)) fun j hj => ?_).symm
        simp only [Function.comp_apply]
        rw [h'' (j + H.length) (by simp; omega), hag2]
  · rw [he, TV.conc_ren]
    congr 1
    refine (TV.conc_ok hok fun j hj => ?_).symm
    simp only [Function.comp_apply]
    rw [h'' (j + H.length) (by simp; omega), hag2]
theorem yF_newG {Γ : Ctx} {P : Program} {H : Heap} {f : FuncId} {args : List TV} {R : TV → Heap → Prop} {K : TV → Heap → Prop}
    (h : ∀ β w, Rep Γ H β w → ∃ pre, NewG P f (args.map (TV.fz [] β)) pre R ∧ pre w) (hP : Γ.P = P) (hc : callable P f = true) (hev : ∀ t, ¬ Γ.ev.TM t)
    (hK : ∀ v H', R v H' → K (v.ren (· + H.length)) (H ++ H'.map (AB.ren (· + H.length)))) : xcallF Γ H f args K := by
  subst hP; exact xcall_newG hc h hev hK
theorem abren_mk {ρ : Nat → Nat} {t : TypeId} {cs : List SV} : AB.ren ρ ⟨t, cs⟩ = ⟨t, cs.map (SV.ren ρ)⟩ := rfl
/-! Tryz# Code that ends with something said of the world -/
theorem XA_reb {Γ : Ctx} {A : World → Prop} {H : Heap} {T : List TV} {c : Code} {Q : QA} (V : Evo) (B : Nat) (L : List Nat) (hL : L.Nodup) (hlt : ∀ i ∈ L, i < H.length) (hn : Γ.n0 = 0) (hB : (V = Γ.ev ∧ B = Γ.B) ∨ Γ.W.heap.size ≤ B) (hTM : ∀ t, Γ.ev.TM t → V.TM t)
    (hLT : ∀ i ∈ L, ∀ b, H[i]? = some b → ¬ V.TM b.t) (h : ∀ β w, Rep Γ H β w → ∃ A' : World → Prop, Kn (Γ.after V B w β L) (fun _ w => A' w) ∧ X (Γ.after V B w β L) c (T.map (TV.fz L β)) (fzH L β H L) fun e T H => Q e T H A') : XA Γ A c T H Q := by
  intro a w ⟨β, hT, hR, hd⟩ _
  obtain ⟨A', hA', hX⟩ := h β w hR
  have hlk : ∀ i j, L[i]? = some j → lk L i = j := fun i j h => by simp [lk, List.getD_eq_getElem?_getD, h]
  refine wp_mono (hX a w ⟨β ∘ lk L, fun β'' h'' => ?_, rep_after hR hL hlt hLT, hd⟩) fun e a' w' ⟨T', H', hq, β', hT', hR', hd'⟩ => ⟨T', H', A', hq, ⟨β', hT', hR.back hlt hn hB hTM hR', hd'⟩, hA' w' hR'.fr.to⟩
  obtain ⟨h1, h2⟩ := fzH_spec (L := L) (β := β) (H := H) L hlt
  rw [hT β (.refl _ _), List.map_map]
  refine congrArg List.toArray (List.map_congr_left fun x _ => ?_)
  refine (TV.fz_conc (fun p q hpq => ?_) x).symm
  rw [h'' p (by rw [h1]; exact (List.getElem?_eq_some_iff.1 hpq).1)]
  simp only [Function.comp_apply, hlk p q hpq]
theorem Rep.add {P : Program} {w0 w : World} {H : Heap} {β : Nat → Nat} (hR : Rep (ctx0 P w0) H β w) {k : Nat} {b : AB} (hk : w0.heap.size ≤ k) (hb : ∀ x ∈ b.cs, x.ok 0) (hw : w.heap[k]? = some (b.conc β)) (hno : ∀ j, j < H.length → β j ≠ k) (hok : ∀ (j : Nat) (b : AB), H[j]? = some b → ∀ x ∈ b.cs, x.ok H.length) :
    Rep (ctx0 P w0) (H ++ [b]) (upd β H.length k) w := by
  have hsm : ∀ j, j < H.length → upd β H.length k j = β j := fun j hj => by simp [upd, Nat.ne_of_lt hj]
  refine ⟨⟨Nat.zero_le _, fun j hj => absurd hj (Nat.not_lt_zero j)⟩, hR.fr, fun p q hp hq hpq => ?_, fun j hj => ?_, fun j b hb h => h.elim, fun β'' h'' j bb hbb => ?_⟩
  · simp only [List.length_append, List.length_singleton] at hp hq
    by_cases h1 : p < H.length
    · by_cases h2 : q < H.length
      · rw [hsm p h1, hsm q h2] at hpq; exact hR.inj p q h1 h2 hpq
      · rw [hsm p h1, show q = H.length by omega, upd_same] at hpq; exact absurd hpq (hno p h1)
    · by_cases h2 : q < H.length
      · rw [hsm q h2, show p = H.length by omega, upd_same] at hpq; exact absurd hpq.symm (hno q h2)
      · omega
  · simp only [List.length_append, List.length_singleton] at hj
    by_cases h1 : j < H.length
    · rw [hsm j h1]; exact hR.lie j h1
    · rw [show j = H.length by omega, upd_same]; exact .inl hk
  · by_cases h1 : j < H.length
    · rw [List.getElem?_append_left h1] at hbb
      rw [hsm j h1]
      refine hR.blk β'' (fun i hi => ?_) j bb hbb
      rw [h'' i (by simp; omega), hsm i hi]
    · rw [List.getElem?_append_right (by omega)] at hbb
      cases hz : j - H.length with
      | zero =>
        rw [hz] at hbb
        simp only [List.getElem?_cons_zero, Option.some.injEq] at hbb
        subst hbb
        rw [show j = H.length by omega, upd_same, hw]
        exact congrArg some (AB.conc_okk hb fun j hj => absurd hj (Nat.not_lt_zero j)).symm
      | succ n => rw [hz] at hbb; simp at hbb
def prms (P Q G : Nat) : List SV := nat4 P ++ (nat4 Q ++ nat4 G)
section
variable {P Q G : Nat}
theorem prms_length : (prms P Q G).length = 12 := rfl
theorem prms_okk {m : Nat} : (∀ x ∈ prms P Q G, x.ok m) = True := eq_true fun x hx => by
  rcases List.mem_append.1 hx with h | h
  · exact arr_ok m x h
  · rcases List.mem_append.1 h with h | h <;> exact arr_ok m x h
theorem prms_one : oneAll (prms P Q G) = True := eq_true fun x hx => by
  have h4 : ∀ q, oneAll (nat4 q) := fun q => by rw [nat4_one]; trivial
  rcases List.mem_append.1 hx with h | h
  · exact h4 P x h
  · rcases List.mem_append.1 h with h | h
    · exact h4 Q x h
    · exact h4 G x h
theorem prms_fst : List.take 4 (prms P Q G) = nat4 P := rfl
theorem prms_snd : List.take 4 (List.drop 4 (prms P Q G)) = nat4 Q := rfl
theorem prms_thd : List.take 4 (List.drop 8 (prms P Q G)) = nat4 G := rfl
theorem prms_low : (prms P Q G)[0]? = some (.v (.int .u64 (wd P 0 : Int))) := rfl
theorem prms_lowq : (prms P Q G)[4]? = some (.v (.int .u64 (wd Q 0 : Int))) := rfl
theorem prms_splice {l : List SV} (h : l.length = 12) : splice l 0 (prms P Q G) = prms P Q G := splice_all (by rw [h]; rfl) (by rw [prms_length]; decide)
theorem fz_prms {L : List Nat} {β : Nat → Nat} : (prms P Q G).map (SV.fz L β) = prms P Q G := rfl
theorem ren_prms {ρ : Nat → Nat} : TV.ren ρ (.agg (prms P Q G)) = .agg (prms P Q G) := rfl
theorem avren_prms {ρ : Nat → Nat} : AV.ren ρ (.agg (prms P Q G)) = .agg (prms P Q G) := rfl
end
def grpc (P Q G : Nat) (x q : SV) : List SV := prms P Q G ++ [x, q]
section
variable {P Q G : Nat} {x q : SV}
theorem grpc_length : (grpc P Q G x q).length = 14 := rfl
theorem grpc_okk {m : Nat} : (∀ y ∈ grpc P Q G x q, y.ok m) = (x.ok m ∧ q.ok m) := by
  refine propext ⟨fun h => ⟨h x (List.mem_append_right _ (by simp)), h q (List.mem_append_right _ (by simp))⟩, fun ⟨h1, h2⟩ y hy => ?_⟩
  rcases List.mem_append.1 hy with h | h
  · have h3 : ∀ x ∈ prms P Q G, x.ok m := by rw [prms_okk]; trivial
    exact h3 y h
  · simp only [List.mem_cons, List.not_mem_nil, or_false] at h
    rcases h with rfl | rfl <;> assumption
theorem fz_grpc {L : List Nat} {β : Nat → Nat} : (grpc P Q G x q).map (SV.fz L β) = grpc P Q G (x.fz L β) (q.fz L β) := rfl
theorem ren_grpc {ρ : Nat → Nat} : (grpc P Q G x q).map (SV.ren ρ) = grpc P Q G (x.ren ρ) (q.ren ρ) := rfl
end
def grpG (P Q G kx kq : Nat) (j : Nat) : Value :=
  if j < 4 then .int .u64 (wd P j : Int) else if j < 8 then .int .u64 (wd Q (j - 4) : Int) else if j < 12 then .int .u64 (wd G (j - 8) : Int) else if j < 13 then .pointer (some ⟨kx, 0, none⟩) else .pointer (some ⟨kq, 0, none⟩)
def isGrp (T k kx kq P Q G : Nat) : Nat → World → Prop := fun B w => cellsAt (modEvo T) ⟨k, 0, none⟩ 14 (grpG P Q G kx kq) B w ∧ isMod T kx P B w ∧ isMod T kq Q B w
theorem isGrp_stays (T k kx kq P Q G : Nat) : Stays (modEvo T) (isGrp T k kx kq P Q G) :=
  (cellsAt_stays (modEvo T) ⟨k, 0, none⟩ 14 (grpG P Q G kx kq)).and ((isMod_stays T kx P).and (isMod_stays T kq Q))
section
variable {Γ : Ctx} {T k kx kq P Q G : Nat} {K : TV → HE → Prop}
theorem Kn.gmx (h : Kn Γ (isGrp T k kx kq P Q G)) : Kn Γ (isMod T kx P) := fun w hw => (h w hw).2.1
theorem Kn.gmq (h : Kn Γ (isGrp T k kx kq P Q G)) : Kn Γ (isMod T kq Q) := fun w hw => (h w hw).2.2
theorem Kn.gcs (h : Kn Γ (isGrp T k kx kq P Q G)) : Kn Γ (cellsAt (modEvo T) ⟨k, 0, none⟩ 14 (grpG P Q G kx kq)) := fun w hw => (h w hw).1
theorem Kn.gP (h : Kn Γ (isGrp T k kx kq P Q G)) : xext Γ (some true) 4 ⟨k, 0, none⟩ K = K (.agg (nat4 P)) .none := by
  have h1 := xext_cells (K := K) h.gcs (k := 0) (q := 4) (by decide)
  rw [addr_add] at h1
  exact h1
theorem Kn.gQ (h : Kn Γ (isGrp T k kx kq P Q G)) : xext Γ (some true) 4 ⟨k, 4, none⟩ K = K (.agg (nat4 Q)) .none := by
  have h1 := xext_cells (K := K) h.gcs (k := 4) (q := 4) (by decide)
  rw [addr_add] at h1
  exact h1
theorem Kn.gG (h : Kn Γ (isGrp T k kx kq P Q G)) : xext Γ (some true) 4 ⟨k, 8, none⟩ K = K (.agg (nat4 G)) .none := by
  have h1 := xext_cells (K := K) h.gcs (k := 8) (q := 4) (by decide)
  rw [addr_add] at h1
  exact h1
theorem Kn.gx (h : Kn Γ (isGrp T k kx kq P Q G)) {q : Nat} : xext Γ (some false) q ⟨k, 12, none⟩ K = K (.s (.v (.pointer (some ⟨kx, 0, none⟩)))) .none := by
  have h1 := h.gcs.cell (i := 12) (by decide)
  rw [addr_add] at h1
  exact xext_eq h1
theorem Kn.gq (h : Kn Γ (isGrp T k kx kq P Q G)) {q : Nat} : xext Γ (some false) q ⟨k, 13, none⟩ K = K (.s (.v (.pointer (some ⟨kq, 0, none⟩)))) .none := by
  have h1 := h.gcs.cell (i := 13) (by decide)
  rw [addr_add] at h1
  exact xext_eq h1
theorem Kn.gOdd (h : Kn Γ (isGrp T k kx kq P Q G)) : OddM P ∧ OddM Q := ⟨(h _ (FrP.now Γ)).2.1.1, (h _ (FrP.now Γ)).2.2.1⟩
end
def cellAt (V : Evo) (k : Nat) (v : Value) : Nat → World → Prop := cellsAt V ⟨k, 0, none⟩ 1 fun _ => v
theorem cellAt_stays (V : Evo) (k : Nat) (v : Value) : Stays V (cellAt V k v) := cellsAt_stays V _ _ _
theorem Kn.cell1 {Γ : Ctx} {V : Evo} {k : Nat} {v : Value} (h : Kn Γ (cellAt V k v)) {q : Nat} {K : TV → HE → Prop} : xext Γ (some false) q ⟨k, 0, none⟩ K = K (.s (.v v)) .none := by
  have h1 := Kn.cell (ad := ⟨k, 0, none⟩) h (i := 0) (by decide)
  rw [addr_add] at h1
  exact xext_eq h1
theorem cellsAt_gone {Γ : Ctx} {V : Evo} {B n : Nat} {g : Nat → Value} {cs : List SV} {e : Nat} {H : Heap} {β : Nat → Nat} {w : World} {L : List Nat} {j : Nat} (hR : Rep Γ H β w) (hb : H[j]? = some ⟨e, cs⟩) (hj : j ∉ L) (hlt : ∀ i ∈ L, i < H.length) (he : ¬ V.TM e)
    (hcs : ∀ i, i < n → (cs[i]?).map (SV.conc β) = some (g i)) : Kn (Γ.after V B w β L) (cellsAt V ⟨β j, 0, none⟩ n g) := by
  intro w' h
  refine ⟨rfl, ?_⟩
  rcases gone hR hb hj hlt h with h1 | ⟨_, o, _, h3⟩
  · refine ⟨_, _, _, h1, .inr he, fun i hi => ?_⟩
    rw [Nat.zero_add, List.getElem?_toArray, List.getElem?_map, hcs i hi]
  · exfalso
    obtain ⟨c', t', f', he', hT⟩ := V.ofE _ _ h3
    unfold AB.conc at he'
    injection he' with _ he' _
    rw [← he'] at hT
    exact he hT
theorem isGrp_gone {Γ : Ctx} {T T1 B P Q G : Nat} {bx bq : Bool} {H : Heap} {β : Nat → Nat} {w : World} {L : List Nat} {j jx jq : Nat} (hR : Rep Γ H β w) (hb : H[j]? = some ⟨T1, grpc P Q G (.p jx 0) (.p jq 0)⟩) (hbx : H[jx]? = some ⟨T, modS P bx⟩) (hbq : H[jq]? = some ⟨T, modS Q bq⟩)
    (hj : j ∉ L) (hjx : jx ∉ L) (hjq : jq ∉ L) (hlt : ∀ i ∈ L, i < H.length) (hT : T1 ≠ T) (hP : OddM P) (hQ : OddM Q) (hBx : B ≤ β jx) (hBq : B ≤ β jq) : Kn (Γ.after (modEvo T) B w β L) (isGrp T (β j) (β jx) (β jq) P Q G) := by
  have h1 : Kn (Γ.after (modEvo T) B w β L) (cellsAt (modEvo T) ⟨β j, 0, none⟩ 14 (grpG P Q G (β jx) (β jq))) := cellsAt_gone hR hb hj hlt hT fun i hi => by
    rcases i with _ | _ | _ | _ | _ | _ | _ | _ | _ | _ | _ | _ | _ | _ | i
    all_goals first | rfl | omega
  have h2 := isMod_gone hR hbx hjx hlt hP hBx
  have h3 := isMod_gone hR hbq hjq hlt hQ hBq
  exact fun w' h => ⟨h1 w' h, h2 w' h, h3 w' h⟩
theorem X_grp {P0 : Program} {w0 : World} {c : Code} {S : List TV} {H : Heap} {Qx : QX} {T T1 P Q G : Nat} {bx bq : Bool} (j jx jq : Nat) (L : List Nat) (hb : H[j]? = some ⟨T1, grpc P Q G (.p jx 0) (.p jq 0)⟩) (hbx : H[jx]? = some ⟨T, modS P bx⟩) (hbq : H[jq]? = some ⟨T, modS Q bq⟩)
    (hP : OddM P) (hQ : OddM Q) (hT : T1 ≠ T) (hL : L.Nodup) (hLj : j ∉ L ∧ jx ∉ L ∧ jq ∉ L) (hlt : ∀ i ∈ L, i < H.length) (hLT : ∀ b ∈ pickH H L, b.t ≠ T)
    (h : ∀ β w, Rep (ctx0 P0 w0) H β w → Kn ((ctx0 P0 w0).after (modEvo T) w0.heap.size w β L) (isGrp T (β j) (β jx) (β jq) P Q G) → (∀ p, Stays (modEvo T) p → p w0.heap.size w0 → Kn ((ctx0 P0 w0).after (modEvo T) w0.heap.size w β L) p) →
      X ((ctx0 P0 w0).after (modEvo T) w0.heap.size w β L) c (S.map (TV.fz L β)) (fzH L β H L) Qx) : X (ctx0 P0 w0) c S H Qx := by
  refine X_rebase (modEvo T) w0.heap.size L hL hlt rfl (.inr (Nat.le_refl _)) (fun _ h => h.elim) (fun i hi b hb => ?_) fun β w hR => h β w hR ?_ fun p hs hp => kn_law hR hlt hs hp
  · refine hLT b ?_
    clear h hLT hL hLj hlt
    induction L with
    | nil => cases hi
    | cons i' r ih =>
      rw [pickH_cons]
      rcases List.mem_cons.1 hi with h1 | h1
      · subst h1; rw [hb, consH_some]; exact List.mem_cons_self ..
      · have h2 := ih h1
        cases h3 : H[i']? with
        | none => exact h2
        | some b' => exact List.mem_cons_of_mem _ h2
  · exact isGrp_gone hR hb hbx hbq hLj.1 hLj.2.1 hLj.2.2 hlt hT hP hQ (new_lie hR (fun _ h => h) (List.getElem?_eq_some_iff.1 hbx).1) (new_lie hR (fun _ h => h) (List.getElem?_eq_some_iff.1 hbq).1)
theorem XA_two {P0 : Program} {w0 : World} {c : Code} {S : List TV} {H : Heap} {A : World → Prop} {Qx : QA} {T P Q : Nat} {bx bq : Bool} (jx jq : Nat) (L : List Nat) (hbx : H[jx]? = some ⟨T, modS P bx⟩) (hbq : H[jq]? = some ⟨T, modS Q bq⟩) (hP : OddM P) (hQ : OddM Q) (hne : jx ≠ jq)
    (hL : L.Nodup) (hLj : jx ∉ L ∧ jq ∉ L) (hlt : ∀ i ∈ L, i < H.length) (hLT : ∀ b ∈ pickH H L, b.t ≠ T)
    (h : ∀ β w, Rep (ctx0 P0 w0) H β w → Kn ((ctx0 P0 w0).after (modEvo T) w0.heap.size w β L) (isMod T (β jx) P) → Kn ((ctx0 P0 w0).after (modEvo T) w0.heap.size w β L) (isMod T (β jq) Q) → (∀ p, Stays (modEvo T) p → p w0.heap.size w0 → Kn ((ctx0 P0 w0).after (modEvo T) w0.heap.size w β L) p) →
      X ((ctx0 P0 w0).after (modEvo T) w0.heap.size w β L) c (S.map (TV.fz L β)) (fzH L β H L) fun e T' H' => Qx e T' H' fun w => isMod T (β jx) P w0.heap.size w ∧ isMod T (β jq) Q w0.heap.size w ∧ β jx ≠ β jq) : XA (ctx0 P0 w0) A c S H Qx := by
  refine XA_reb (modEvo T) w0.heap.size L hL hlt rfl (.inr (Nat.le_refl _)) (fun _ h => h.elim) (fun i hi b hb => ?_) fun β w hR => ?_
  · refine hLT b ?_
    clear h hLT hL hLj hlt
    induction L with
    | nil => cases hi
    | cons i' r ih =>
      rw [pickH_cons]
      rcases List.mem_cons.1 hi with h1 | h1
      · subst h1; rw [hb, consH_some]; exact List.mem_cons_self ..
      · have h2 := ih h1
        cases h3 : H[i']? with
        | none => exact h2
        | some b' => exact List.mem_cons_of_mem _ h2
  · have h1 := isMod_gone hR hbx hLj.1 hlt hP (new_lie hR (fun _ h => h) (List.getElem?_eq_some_iff.1 hbx).1)
    have h2 := isMod_gone hR hbq hLj.2 hlt hQ (new_lie hR (fun _ h => h) (List.getElem?_eq_some_iff.1 hbq).1)
    have h3 : β jx ≠ β jq := fun e => hne (hR.inj _ _ (List.getElem?_eq_some_iff.1 hbx).1 (List.getElem?_eq_some_iff.1 hbq).1 e)
    exact ⟨_, fun w' hw' => ⟨h1 w' hw', h2 w' hw', h3⟩, h β w hR h1 h2 fun p hs hp => kn_law hR hlt hs hp⟩
end Go.Ab
namespace Go.Proofs.YtdmcknmjdlghgaaGreatDoor
open Go Go.Ab
set_option linter.unusedSimpArgs false
set_option linter.unusedVariables false
set_option linter.defProp false
def vcXGb := (And.intro (And.intro (And.intro (And.intro (And.intro (And.intro (And.intro @modc_length (And.intro @modc_take @modc_sq)) (And.intro (And.intro @modc_i @modS_length) (And.intro @dgs_length @dgs_one))) (And.intro (And.intro (And.intro @dgs_get @nats_length) (And.intro @fac_length @fac_fst)) (And.intro (And.intro @fac_snd @fac_one) (And.intro @prf_length @prf_fst)))) (And.intro (And.intro (And.intro (And.intro @prf_snd @prf_thd) (And.intro @prf_one @fz_prf)) (And.intro (And.intro @avren_sl @prms_length) (And.intro @prms_one @prms_fst))) (And.intro (And.intro (And.intro @prms_snd @prms_thd) (And.intro @prms_low @prms_lowq)) (And.intro (And.intro @fz_prms @ren_prms) (And.intro @avren_prms @grpc_length))))) (And.intro (And.intro (And.intro (And.intro (And.intro @fz_grpc @ren_grpc) (And.intro @qm_call @qm_move)) (And.intro (And.intro @qm_assign @qm_pick) (And.intro @qm_build @qm_load))) (And.intro (And.intro (And.intro @qm_nilCheck @qm_binOp) (And.intro @qm_unOp @qm_convert)) (And.intro (And.intro @qm_fieldAddr @qm_field) (And.intro @qm_indexAddr @qm_index)))) (And.intro (And.intro (And.intro (And.intro @qm_extract @qm_makeFunc) (And.intro @xcalledM_first @xcalledM_cap)) (And.intro (And.intro @maskOK_p @maskOK_v) (And.intro @xcallHM_value @xcallHM_len))) (And.intro (And.intro (And.intro @xcalledM_some @xTrM_nil) (And.intro @xTrM_false @xTrM_cons)) (And.intro (And.intro @xAtM_assign @xAtM_move) (And.intro @xAtM_extract @xAtM_alloc)))))) (And.intro (And.intro (And.intro (And.intro (And.intro (And.intro @xAtM_store @famL_nil) (And.intro @famL_cons @tf135_row)) (And.intro (And.intro @tf135_sz @tf135_szO) (And.intro @tf135_f0 @tf135_f1))) (And.intro (And.intro (And.intro @tf135_f2 @tf135_f3) (And.intro @tf135_known @tf135_zero)) (And.intro (And.intro @tf135_p0 @tf135_p1) (And.intro @tf135_p2 @tf135_p3)))) (And.intro (And.intro (And.intro (And.intro @tf135_slc @tf144_row) (And.intro @tf144_sz @tf144_szO)) (And.intro (And.intro @tf144_arr @tf144_known) (And.intro @tf144_eq @tf144_zero))) (And.intro (And.intro (And.intro @tf144_lits @tf144_place) (And.intro @tf144_slc @tf71_row)) (And.intro (And.intro @tf71_sz @tf71_szO) (And.intro @tf71_slc @tf71_ptr))))) (And.intro (And.intro (And.intro (And.intro (And.intro @tf71_zero @tf146_row) (And.intro @tf146_sz @tf146_szO)) (And.intro (And.intro @tf146_slc @tf146_ptr) (And.intro @tf146_zero @tf147_row))) (And.intro (And.intro (And.intro @tf147_sz @tf147_szO) (And.intro @tf147_slc @tf147_arr)) (And.intro (And.intro @tf147_isSlc @tf147_zero) (And.intro @tf125_row @tf125_sz)))) (And.intro (And.intro (And.intro (And.intro @tf125_szO @tf125_slc) (And.intro @tf125_int @tf125_zero)) (And.intro (And.intro @tf21_row @tf21_sz) (And.intro @tf21_szO @tf21_slc))) (And.intro (And.intro (And.intro @tf21_int @tf21_zero) (And.intro @ctxN_P @ctxN_TM)) (And.intro (And.intro @bnd_none @bnd_int) (And.intro @xslB_some @xslice_p))))))) (And.intro (And.intro (And.intro (And.intro (And.intro (And.intro @xslice_sl (And.intro @xslice_v @xarrAt_sl)) (And.intro (And.intro @xarrAt_v @tf22_row) (And.intro @tf22_sz @tf22_szO))) (And.intro (And.intro (And.intro @tf22_slc @tf22_arr) (And.intro @tf22_isSlc @tf22_zero)) (And.intro (And.intro @tf61_row @tf61_sz) (And.intro @tf61_szO @tf61_f0)))) (And.intro (And.intro (And.intro (And.intro @tf61_f1 @tf61_known) (And.intro @tf61_eq @tf61_zero)) (And.intro (And.intro @tf61_p0 @tf61_p1) (And.intro @tf61_slc @tf62_row))) (And.intro (And.intro (And.intro @tf62_sz @tf62_szO) (And.intro @tf62_slc @tf62_arr)) (And.intro (And.intro @tf62_isSlc @tf62_zero) (And.intro @tf64_row @tf64_sz))))) (And.intro (And.intro (And.intro (And.intro (And.intro @tf64_szO @tf64_f0) (And.intro @tf64_f1 @tf64_f2)) (And.intro (And.intro @tf64_known @tf64_zero) (And.intro @tf64_p0 @tf64_p1))) (And.intro (And.intro (And.intro @tf64_p2 @tf64_slc) (And.intro @tf29_row @tf29_sz)) (And.intro (And.intro @tf29_szO @tf29_slc) (And.intro @tf29_arr @tf29_isSlc)))) (And.intro (And.intro (And.intro (And.intro @tf29_zero @tf119_row) (And.intro @tf119_sz @tf119_szO)) (And.intro (And.intro @tf119_slc @tf28_row) (And.intro @tf28_sz @tf28_szO))) (And.intro (And.intro (And.intro @tf28_f0 @tf28_f1) (And.intro @tf28_f2 @tf28_known)) (And.intro (And.intro @tf28_eq @tf28_zero) (And.intro @tf28_p0 @tf28_p1)))))) (And.intro (And.intro (And.intro (And.intro (And.intro (And.intro @tf28_p2 @tf28_slc) (And.intro @tf100_row @tf100_sz)) (And.intro (And.intro @tf100_szO @tf100_f0) (And.intro @tf100_f1 @tf100_f2))) (And.intro (And.intro (And.intro @tf100_known @tf100_zero) (And.intro @tf100_p0 @tf100_p1)) (And.intro (And.intro @tf100_p2 @tf100_slc) (And.intro @tf32_row @tf32_sz)))) (And.intro (And.intro (And.intro (And.intro @tf32_szO @tf32_slc) (And.intro @tf32_ptr @tf32_zero)) (And.intro (And.intro @tf108_row @tf108_sz) (And.intro @tf108_szO @tf108_slc))) (And.intro (And.intro (And.intro @ctxE_P @ctxE_TM) (And.intro @modEvo_TM @after_P)) (And.intro (And.intro @after_TM @fz_v) (And.intro @fz_p @fz_sl))))) (And.intro (And.intro (And.intro (And.intro (And.intro @fz_agg @fz_tup) (And.intro @fz_undef @avfz_v)) (And.intro (And.intro @avfz_p @avfz_sl) (And.intro @avfz_agg @svfz_v))) (And.intro (And.intro (And.intro @svfz_p @svfz_sl) (And.intro @fzP_none @fzP_some)) (And.intro (And.intro @fzS_none @fzS_some) (And.intro @fz_nat4 @fz_arr)))) (And.intro (And.intro (And.intro (And.intro @fz_iarr @fzB_some) (And.intro @fzH_nil @fzH_cons)) (And.intro (And.intro @posL_nil @posL_cons) (And.intro @ren_v @ren_p))) (And.intro (And.intro (And.intro @ren_sl @ren_undef) (And.intro @ren_nat4 @ren_tupE)) (And.intro (And.intro @ren_tup @avren_v) (And.intro @avren_p @avren_nat4))))))))
def vcQGb := (And.intro (And.intro (And.intro (And.intro @okT_nil (And.intro @okT_cons @okS_nil)) (And.intro (And.intro @okS_cons @okA_nil) (And.intro @okA_cons @and_self))) (And.intro (And.intro @true_and (And.intro @and_true @okv_p)) (And.intro (And.intro @okv_sl @oks_s) (And.intro @oks_agg @oks_tup)))) (And.intro (And.intro (And.intro @oka_s (And.intro @oka_agg @okv_v)) (And.intro (And.intro @nat4_okk @nat8_okk) (And.intro @arr_okk @iarr_okk))) (And.intro (And.intro (And.intro @modc_okk @modS_okk) (And.intro @dgs_okk @nats_okk)) (And.intro (And.intro @fac_okk @prf_okk) (And.intro @prms_okk @grpc_okk)))))
def vcOGb := (And.intro (And.intro (And.intro (And.intro @okv_p @okv_sl) (And.intro @oks_s (And.intro @oks_agg @oks_tup))) (And.intro (And.intro @oka_s @oka_agg) (And.intro @okv_v (And.intro @nat4_okk @nat8_okk)))) (And.intro (And.intro (And.intro @arr_okk @iarr_okk) (And.intro @modc_okk (And.intro @modS_okk @dgs_okk))) (And.intro (And.intro @nats_okk @fac_okk) (And.intro @prf_okk (And.intro @prms_okk @grpc_okk)))))
theorem bd2 {p : Prop} (h : p := by first | (with_reducible first | assumption | exact OddM.mod_lt (by assumption) | exact OddM.mo_lt (by assumption) | exact OddM.mo_lt' (by assumption) | exact OddM.img_lt (by assumption) | exact OddM.lt (by assumption) | exact OddM.pos (by assumption) | exact lt512 (by assumption) | exact lt512_add (by first | assumption | exact OddM.mod_lt (by assumption)) (by first | assumption | exact OddM.lt (by assumption)) | exact lt512_mul (by assumption) (by assumption)) | decide | omega) : p := h
theorem dz2 {p : Prop} (h : p := by first | (simp only [nat4_length, nat8_length, arr_length, iarr_length, modc_length, modS_length, dgs_length, nats_length, fac_length, prf_length, prms_length, grpc_length, List.length_cons, List.length_nil, Nat.reduceAdd]; done) | omega) : p := h
section
variable {Γ : Ctx} {P : Program} {V : Evo} {H : Heap} {M : List Nat} {f : FuncId} {args : List TV} {r : TV} {pre : Nat → World → Prop} {K : TV → Heap → Prop} {KV : TV → Prop}
theorem cF_pure2 (h : PureC P f args r) (hK : K r H) (hP : Γ.P = P := by with_unfolding_all rfl) (hc : callable P f = true := by kernel_rfl) : xcallF Γ H f args K := yF_pure h hP hc hK
theorem cV_pure2 (h : PureC P f args r) (hK : KV r) (hP : Γ.P = P := by with_unfolding_all rfl) (hc : callable P f = true := by kernel_rfl) : xcallV Γ H f args KV := yV_pure h hP hc hK
theorem cM_pure2 (h : PureC P f args r) (hK : KV r) (hP : Γ.P = P := by with_unfolding_all rfl) (hc : callable P f = true := by kernel_rfl) : xcallM Γ H M f args KV := yM_pure h hP hc hK
theorem cF_ev2 (h : EvC V P f args pre r) (hK : K r H) (hP : Γ.P = P := by with_unfolding_all rfl) (hV : Γ.ev = V := by with_unfolding_all rfl) (hc : callable P f = true := by kernel_rfl) (ha : ∀ x ∈ args, x.ok 0 := by simp only [vcQGb])
    (hp : Kn Γ pre := by with_reducible first | assumption | exact Kn.and (by assumption) (by assumption) | (repeat' first | assumption | refine Kn.and ?_ ?_)) : xcallF Γ H f args K := yF_ev h hP hV hc ha hp hK
theorem cV_ev2 (h : EvC V P f args pre r) (hK : KV r) (hP : Γ.P = P := by with_unfolding_all rfl) (hV : Γ.ev = V := by with_unfolding_all rfl) (hc : callable P f = true := by kernel_rfl) (ha : ∀ x ∈ args, x.ok 0 := by simp only [vcQGb])
    (hp : Kn Γ pre := by with_reducible first | assumption | exact Kn.and (by assumption) (by assumption) | (repeat' first | assumption | refine Kn.and ?_ ?_)) : xcallV Γ H f args KV := yV_ev h hP hV hc ha hp hK
theorem cM_ev2 (h : EvC V P f args pre r) (hK : KV r) (hP : Γ.P = P := by with_unfolding_all rfl) (hV : Γ.ev = V := by with_unfolding_all rfl) (hc : callable P f = true := by kernel_rfl) (ha : ∀ x ∈ args, x.ok 0 := by simp only [vcQGb])
    (hp : Kn Γ pre := by with_reducible first | assumption | exact Kn.and (by assumption) (by assumption) | (repeat' first | assumption | refine Kn.and ?_ ?_)) : xcallM Γ H M f args KV := yM_ev h hP hV hc ha hp hK
theorem cF_new2 {R : TV → Heap → Prop} (h : NewC P f args R) (hK : ∀ v H', R v H' → K (v.ren (· + H.length)) (H ++ H')) (hP : Γ.P = P := by with_unfolding_all rfl) (hc : callable P f = true := by kernel_rfl) (hev : ∀ t, ¬ Γ.ev.TM t := by with_unfolding_all exact fun _ h => h) : xcallF Γ H f args K := yF_new h hP hc hev hK
end
set_option maxHeartbeats 20000000
set_option maxRecDepth 100000
theorem gap_nat (n : Nat) (hn : n ≤ 1000000) : apOK Tryz.prog 26 n := by
  have h1 : (Tryz.prog.info? 26).map (fun i => (i.bytes, i.size, i.zero.map fun z => z.cells.size)) = some (32, 4, some 4) := by kernel_rfl
  cases hi : Tryz.prog.info? 26 with
  | none => rw [hi] at h1; cases h1
  | some i =>
    rw [hi] at h1
    simp only [Option.map_some, Option.some.injEq, Prod.mk.injEq] at h1
    obtain ⟨h2, h3, h4⟩ := h1
    obtain ⟨z, hz, hz4⟩ := Option.map_eq_some_iff.1 h4
    exact ⟨i, z, hi, hz, by rw [hz4, h3], by rw [h2]; omega, by omega⟩
theorem gsz_nat : sz Tryz.prog 26 = 4 := by kernel_rfl
theorem gnews_nat {H : Heap} {k t a n : Nat} (hn : n = 4) (hb : H[k]? = some ⟨t, nat4 a⟩) : newsOf H n (.s (.sl k 0 1 1)) = some (nat4 a, 1) := by
  subst hn
  have hl : (nat4 a).length = 4 := nat4_length
  have h4 : (nat4 a).take 4 = nat4 a := List.take_of_length_le (by omega)
  simp [newsOf, hb, hl, part_eq, h4]
theorem row_okG {e n n0 : Nat} {cs : List SV} {sp : List Value} (h : ∀ x ∈ cs, x.ok n0) : ∀ b ∈ rowH e n cs sp, ∀ x ∈ b.cs, x.ok n0 := by
  intro b hb x hx
  by_cases h0 : n = 0
  · subst h0; rw [rowH_0] at hb; simp at hb
  · rw [rowH_s h0] at hb
    simp only [List.mem_singleton] at hb
    subst hb
    rcases List.mem_append.1 hx with h1 | h1
    · exact h x h1
    · obtain ⟨v, _, rfl⟩ := List.mem_map.1 h1
      trivial
theorem gone_set (a : Nat) : setAt (nat4 0) 0 (nat4 a) = nat4 a := rfl
theorem ghz1 : slice0 Tryz.prog 26 1 = some (arr 4 fun _ => 0) := by kernel_rfl
theorem tq22_row : rowOf Tryz.prog 22 = some false := by kernel_rfl
theorem tq22_sz : Tryz.prog.cellsOf 22 = 1 := by kernel_rfl
theorem tq22_szO : szO Tryz.prog 22 = some 1 := by kernel_rfl
theorem tq22_slc : slcOf Tryz.prog 22 = some 26 := by kernel_rfl
theorem tq22_arr : arrOf Tryz.prog 22 = none := by kernel_rfl
theorem tq22_isSlc : isSlc Tryz.prog 22 = true := by kernel_rfl
theorem tq22_zero : zeroA Tryz.prog 22 = some [.v (.slice none 0 0)] := by kernel_rfl
theorem tq81_row : rowOf Tryz.prog 81 = some false := by kernel_rfl
theorem tq81_sz : Tryz.prog.cellsOf 81 = 1 := by kernel_rfl
theorem tq81_szO : szO Tryz.prog 81 = some 1 := by kernel_rfl
theorem tq81_slc : slcOf Tryz.prog 81 = some 83 := by kernel_rfl
theorem tq81_arr : arrOf Tryz.prog 81 = none := by kernel_rfl
theorem tq81_isSlc : isSlc Tryz.prog 81 = true := by kernel_rfl
theorem tq81_zero : zeroA Tryz.prog 81 = some [.v (.slice none 0 0)] := by kernel_rfl
theorem tq83_row : rowOf Tryz.prog 83 = some true := by kernel_rfl
theorem tq83_sz : Tryz.prog.cellsOf 83 = 8 := by kernel_rfl
theorem tq83_szO : szO Tryz.prog 83 = some 8 := by kernel_rfl
theorem tq83_f0 : fieldOff Tryz.prog 83 0 = some (0, 26) := by kernel_rfl
theorem tq83_f1 : fieldOff Tryz.prog 83 1 = some (4, 26) := by kernel_rfl
theorem tq83_known : known Tryz.prog 83 = true := by kernel_rfl
theorem tq83_eq : eqTy Tryz.prog 83 = true := by kernel_rfl
theorem tq83_zero : zeroA Tryz.prog 83 = some [.v (.int .u64 0), .v (.int .u64 0), .v (.int .u64 0), .v (.int .u64 0), .v (.int .u64 0), .v (.int .u64 0), .v (.int .u64 0), .v (.int .u64 0)] := by kernel_rfl
theorem tq83_p0 : placeOf Tryz.prog 83 0 = some (0, 4) := by kernel_rfl
theorem tq83_p1 : placeOf Tryz.prog 83 1 = some (4, 4) := by kernel_rfl
theorem tq83_slc : slcOf Tryz.prog 83 = none := by kernel_rfl
end Go.Proofs.YtdmcknmjdlghgaaGreatDoor
