/-
  The calls' laws once more, over shares; the rules in one bundle.
  A statement whose order is open: n operations that are quiet in a family of worlds; then operations up to m, that may come among them and leave the family be (new blocks); the rest waits for all and goes in its order, by laws of its own.
  A statement whose order is open: its quiet operations by their own laws (slices too), whatever new blocks come among them.
  The greater of two numbers.
  Open orders whose rest has calls that hand back new blocks.
  The calls' laws once more, over factors and proofs; the rules in one bundle.
  What factors make, whether a proof is one: plain.
  pratt: what factors make.
  pratt: a map of numbers that are proved.
  Lists as they may be.
  The small groups: their proofs as rows, and what is known of them.
  The small groups.
  Maps from integers to true: what the model does with them.
  Maps from integers, beside code: made, written, counted; loops beside them.
  A slice cut off at its length (slices.Clip).
  slices.Clip.
  What sortitionref03's functions say: greatest common divisors, values.
  Interpolation at 0, where differences can be divided by: in the numbers modulo m.
-/
import Derived.Test.YtdmcknmjdlghgaaGreatDoorV01
import Derived.Test.YtdmcknmjdlghgaaGreatDoorV02
import Derived.Test.YtdmcknmjdlghgaaGreatDoorV03
import Derived.Test.YtdmcknmjdlghgaaGreatDoorV04
import Derived.Test.YtdmcknmjdlghgaaGreatDoorV05
import Derived.Test.YtdmcknmjdlghgaaGreatDoorV06
namespace Go.Proofs.YtdmcknmjdlghgaaGreatDoor
open Go Go.Ab
set_option linter.unusedSimpArgs false
set_option linter.unusedVariables false
set_option linter.defProp false
def vcXHb := (And.intro (And.intro (And.intro (And.intro (And.intro (And.intro (And.intro (And.intro @pt_length @pt_fst) (And.intro @pt_snd @pt_one)) (And.intro (And.intro @pt_splice @modc_length) (And.intro @modc_take (And.intro @modc_sq @modc_i)))) (And.intro (And.intro (And.intro @modS_length @dgs_length) (And.intro @dgs_one (And.intro @dgs_get @nats_length))) (And.intro (And.intro @fac_length @fac_fst) (And.intro @fac_snd (And.intro @fac_one @prf_length))))) (And.intro (And.intro (And.intro (And.intro @prf_fst @prf_snd) (And.intro @prf_thd (And.intro @prf_one @fz_prf))) (And.intro (And.intro @avren_sl @prms_length) (And.intro @prms_one (And.intro @prms_fst @prms_snd)))) (And.intro (And.intro (And.intro @prms_thd @prms_low) (And.intro @prms_lowq (And.intro @fz_prms @ren_prms))) (And.intro (And.intro @avren_prms @grpc_length) (And.intro @fz_grpc (And.intro @ren_grpc @pieceC_length)))))) (And.intro (And.intro (And.intro (And.intro (And.intro @pieceC_one @piece_splice) (And.intro @piece_0 (And.intro @piece_1 @qm_call))) (And.intro (And.intro @qm_move @qm_assign) (And.intro @qm_pick (And.intro @qm_build @qm_load)))) (And.intro (And.intro (And.intro @qm_nilCheck @qm_binOp) (And.intro @qm_unOp (And.intro @qm_convert @qm_fieldAddr))) (And.intro (And.intro @qm_field @qm_indexAddr) (And.intro @qm_index (And.intro @qm_extract @qm_makeFunc))))) (And.intro (And.intro (And.intro (And.intro @xcalledM_first @xcalledM_cap) (And.intro @maskOK_p (And.intro @maskOK_v @xcallHM_value))) (And.intro (And.intro @xcallHM_len @xcalledM_some) (And.intro @xTrM_nil (And.intro @xTrM_false @xTrM_cons)))) (And.intro (And.intro (And.intro @xAtM_assign @xAtM_move) (And.intro @xAtM_extract (And.intro @xAtM_alloc @xAtM_store))) (And.intro (And.intro @famL_nil @famL_cons) (And.intro @tf135_row (And.intro @tf135_sz @tf135_szO))))))) (And.intro (And.intro (And.intro (And.intro (And.intro (And.intro @tf135_f0 @tf135_f1) (And.intro @tf135_f2 (And.intro @tf135_f3 @tf135_known))) (And.intro (And.intro @tf135_zero @tf135_p0) (And.intro @tf135_p1 (And.intro @tf135_p2 @tf135_p3)))) (And.intro (And.intro (And.intro @tf135_slc @tf144_row) (And.intro @tf144_sz (And.intro @tf144_szO @tf144_arr))) (And.intro (And.intro @tf144_known @tf144_eq) (And.intro @tf144_zero (And.intro @tf144_lits @tf144_place))))) (And.intro (And.intro (And.intro (And.intro @tf144_slc @tf71_row) (And.intro @tf71_sz (And.intro @tf71_szO @tf71_slc))) (And.intro (And.intro @tf71_ptr @tf71_zero) (And.intro @tf146_row (And.intro @tf146_sz @tf146_szO)))) (And.intro (And.intro (And.intro @tf146_slc @tf146_ptr) (And.intro @tf146_zero (And.intro @tf147_row @tf147_sz))) (And.intro (And.intro @tf147_szO @tf147_slc) (And.intro @tf147_arr (And.intro @tf147_isSlc @tf147_zero)))))) (And.intro (And.intro (And.intro (And.intro (And.intro @tf125_row @tf125_sz) (And.intro @tf125_szO (And.intro @tf125_slc @tf125_int))) (And.intro (And.intro @tf125_zero @tf21_row) (And.intro @tf21_sz (And.intro @tf21_szO @tf21_slc)))) (And.intro (And.intro (And.intro @tf21_int @tf21_zero) (And.intro @ctxN_P (And.intro @ctxN_TM @bnd_none))) (And.intro (And.intro @bnd_int @xslB_some) (And.intro @xslice_p (And.intro @xslice_sl @xslice_v))))) (And.intro (And.intro (And.intro (And.intro @xarrAt_sl @xarrAt_v) (And.intro @tf22_row (And.intro @tf22_sz @tf22_szO))) (And.intro (And.intro @tf22_slc @tf22_arr) (And.intro @tf22_isSlc (And.intro @tf22_zero @tf61_row)))) (And.intro (And.intro (And.intro @tf61_sz @tf61_szO) (And.intro @tf61_f0 (And.intro @tf61_f1 @tf61_known))) (And.intro (And.intro @tf61_eq @tf61_zero) (And.intro @tf61_p0 (And.intro @tf61_p1 @tf61_slc)))))))) (And.intro (And.intro (And.intro (And.intro (And.intro (And.intro (And.intro @tf62_row @tf62_sz) (And.intro @tf62_szO @tf62_slc)) (And.intro (And.intro @tf62_arr @tf62_isSlc) (And.intro @tf62_zero (And.intro @tf64_row @tf64_sz)))) (And.intro (And.intro (And.intro @tf64_szO @tf64_f0) (And.intro @tf64_f1 (And.intro @tf64_f2 @tf64_known))) (And.intro (And.intro @tf64_zero @tf64_p0) (And.intro @tf64_p1 (And.intro @tf64_p2 @tf64_slc))))) (And.intro (And.intro (And.intro (And.intro @tf29_row @tf29_sz) (And.intro @tf29_szO (And.intro @tf29_slc @tf29_arr))) (And.intro (And.intro @tf29_isSlc @tf29_zero) (And.intro @tf119_row (And.intro @tf119_sz @tf119_szO)))) (And.intro (And.intro (And.intro @tf119_slc @tf28_row) (And.intro @tf28_sz (And.intro @tf28_szO @tf28_f0))) (And.intro (And.intro @tf28_f1 @tf28_f2) (And.intro @tf28_known (And.intro @tf28_eq @tf28_zero)))))) (And.intro (And.intro (And.intro (And.intro (And.intro @tf28_p0 @tf28_p1) (And.intro @tf28_p2 (And.intro @tf28_slc @tf100_row))) (And.intro (And.intro @tf100_sz @tf100_szO) (And.intro @tf100_f0 (And.intro @tf100_f1 @tf100_f2)))) (And.intro (And.intro (And.intro @tf100_known @tf100_zero) (And.intro @tf100_p0 (And.intro @tf100_p1 @tf100_p2))) (And.intro (And.intro @tf100_slc @tf32_row) (And.intro @tf32_sz (And.intro @tf32_szO @tf32_slc))))) (And.intro (And.intro (And.intro (And.intro @tf32_ptr @tf32_zero) (And.intro @tf108_row (And.intro @tf108_sz @tf108_szO))) (And.intro (And.intro @tf108_slc @tf45_row) (And.intro @tf45_sz (And.intro @tf45_szO @tf45_f0)))) (And.intro (And.intro (And.intro @tf45_f1 @tf45_known) (And.intro @tf45_eq (And.intro @tf45_zero @tf45_p0))) (And.intro (And.intro @tf45_p1 @tf45_slc) (And.intro @tf46_row (And.intro @tf46_sz @tf46_szO))))))) (And.intro (And.intro (And.intro (And.intro (And.intro (And.intro @tf46_slc @tf46_arr) (And.intro @tf46_isSlc (And.intro @tf46_zero @tf77_row))) (And.intro (And.intro @tf77_sz @tf77_szO) (And.intro @tf77_slc (And.intro @tf80_row @tf80_sz)))) (And.intro (And.intro (And.intro @tf80_szO @tf80_slc) (And.intro @tf80_arr (And.intro @tf80_isSlc @tf80_zero))) (And.intro (And.intro @tq22_row @tq22_sz) (And.intro @tq22_szO (And.intro @tq22_slc @tq22_arr))))) (And.intro (And.intro (And.intro (And.intro @tq22_isSlc @tq22_zero) (And.intro @tq81_row (And.intro @tq81_sz @tq81_szO))) (And.intro (And.intro @tq81_slc @tq81_arr) (And.intro @tq81_isSlc (And.intro @tq81_zero @tq83_row)))) (And.intro (And.intro (And.intro @tq83_sz @tq83_szO) (And.intro @tq83_f0 (And.intro @tq83_f1 @tq83_known))) (And.intro (And.intro @tq83_eq @tq83_zero) (And.intro @tq83_p0 (And.intro @tq83_p1 @tq83_slc)))))) (And.intro (And.intro (And.intro (And.intro (And.intro @ctxE_P @ctxE_TM) (And.intro @modEvo_TM (And.intro @after_P @after_TM))) (And.intro (And.intro @fz_v @fz_p) (And.intro @fz_sl (And.intro @fz_agg @fz_tup)))) (And.intro (And.intro (And.intro @fz_undef @avfz_v) (And.intro @avfz_p (And.intro @avfz_sl @avfz_agg))) (And.intro (And.intro @svfz_v @svfz_p) (And.intro @svfz_sl (And.intro @fzP_none @fzP_some))))) (And.intro (And.intro (And.intro (And.intro @fzS_none @fzS_some) (And.intro @fz_nat4 (And.intro @fz_arr @fz_iarr))) (And.intro (And.intro @fzB_some @fzH_nil) (And.intro @fzH_cons (And.intro @posL_nil @posL_cons)))) (And.intro (And.intro (And.intro @ren_v @ren_p) (And.intro @ren_sl (And.intro @ren_undef @ren_nat4))) (And.intro (And.intro @ren_tupE @ren_tup) (And.intro @avren_v (And.intro @avren_p @avren_nat4)))))))))
def vcQHb := (And.intro (And.intro (And.intro (And.intro @okT_nil (And.intro @okT_cons @okS_nil)) (And.intro (And.intro @okS_cons @okA_nil) (And.intro @okA_cons @and_self))) (And.intro (And.intro (And.intro @true_and @and_true) (And.intro @okv_p @okv_sl)) (And.intro (And.intro @oks_s @oks_agg) (And.intro @oks_tup @oka_s)))) (And.intro (And.intro (And.intro (And.intro @oka_agg @okv_v) (And.intro @nat4_okk @nat8_okk)) (And.intro (And.intro @arr_okk @iarr_okk) (And.intro @pt_okk @modc_okk))) (And.intro (And.intro (And.intro @modS_okk @dgs_okk) (And.intro @nats_okk @fac_okk)) (And.intro (And.intro @prf_okk @prms_okk) (And.intro @grpc_okk @pieceC_okk)))))
def vcOHb := (And.intro (And.intro (And.intro (And.intro @okv_p @okv_sl) (And.intro @oks_s (And.intro @oks_agg @oks_tup))) (And.intro (And.intro @oka_s (And.intro @oka_agg @okv_v)) (And.intro @nat4_okk (And.intro @nat8_okk @arr_okk)))) (And.intro (And.intro (And.intro @iarr_okk @pt_okk) (And.intro @modc_okk (And.intro @modS_okk @dgs_okk))) (And.intro (And.intro @nats_okk (And.intro @fac_okk @prf_okk)) (And.intro @prms_okk (And.intro @grpc_okk @pieceC_okk)))))
theorem bd3 {p : Prop} (h : p := by first | (with_reducible first | assumption | exact OddM.mod_lt (by assumption) | exact OddM.mo_lt (by assumption) | exact OddM.mo_lt' (by assumption) | exact OddM.img_lt (by assumption) | exact OddM.lt (by assumption) | exact OddM.pos (by assumption) | exact lt512 (by assumption) | exact lt512_add (by first | assumption | exact OddM.mod_lt (by assumption)) (by first | assumption | exact OddM.lt (by assumption)) | exact lt512_mul (by assumption) (by assumption)) | decide | omega) : p := h
theorem dz3 {p : Prop} (h : p := by first | (simp only [nat4_length, nat8_length, arr_length, iarr_length, modc_length, modS_length, dgs_length, nats_length, fac_length, prf_length, prms_length, grpc_length, pieceC_length, List.length_cons, List.length_nil, Nat.reduceAdd]; done) | omega) : p := h
section
variable {Γ : Ctx} {P : Program} {V : Evo} {H : Heap} {M : List Nat} {f : FuncId} {args : List TV} {r : TV} {pre : Nat → World → Prop} {K : TV → Heap → Prop} {KV : TV → Prop}
theorem cF_pure3 (h : PureC P f args r) (hK : K r H) (hP : Γ.P = P := by with_unfolding_all rfl) (hc : callable P f = true := by kernel_rfl) : xcallF Γ H f args K := yF_pure h hP hc hK
theorem cV_pure3 (h : PureC P f args r) (hK : KV r) (hP : Γ.P = P := by with_unfolding_all rfl) (hc : callable P f = true := by kernel_rfl) : xcallV Γ H f args KV := yV_pure h hP hc hK
theorem cM_pure3 (h : PureC P f args r) (hK : KV r) (hP : Γ.P = P := by with_unfolding_all rfl) (hc : callable P f = true := by kernel_rfl) : xcallM Γ H M f args KV := yM_pure h hP hc hK
theorem cF_ev3 (h : EvC V P f args pre r) (hK : K r H) (hP : Γ.P = P := by with_unfolding_all rfl) (hV : Γ.ev = V := by with_unfolding_all rfl) (hc : callable P f = true := by kernel_rfl) (ha : ∀ x ∈ args, x.ok 0 := by simp only [vcQHb])
    (hp : Kn Γ pre := by with_reducible first | assumption | exact Kn.and (by assumption) (by assumption) | (repeat' first | assumption | refine Kn.and ?_ ?_)) : xcallF Γ H f args K := yF_ev h hP hV hc ha hp hK
theorem cV_ev3 (h : EvC V P f args pre r) (hK : KV r) (hP : Γ.P = P := by with_unfolding_all rfl) (hV : Γ.ev = V := by with_unfolding_all rfl) (hc : callable P f = true := by kernel_rfl) (ha : ∀ x ∈ args, x.ok 0 := by simp only [vcQHb])
    (hp : Kn Γ pre := by with_reducible first | assumption | exact Kn.and (by assumption) (by assumption) | (repeat' first | assumption | refine Kn.and ?_ ?_)) : xcallV Γ H f args KV := yV_ev h hP hV hc ha hp hK
theorem cM_ev3 (h : EvC V P f args pre r) (hK : KV r) (hP : Γ.P = P := by with_unfolding_all rfl) (hV : Γ.ev = V := by with_unfolding_all rfl) (hc : callable P f = true := by kernel_rfl) (ha : ∀ x ∈ args, x.ok 0 := by simp only [vcQHb])
    (hp : Kn Γ pre := by with_reducible first | assumption | exact Kn.and (by assumption) (by assumption) | (repeat' first | assumption | refine Kn.and ?_ ?_)) : xcallM Γ H M f args KV := yM_ev h hP hV hc ha hp hK
theorem cF_new3 {R : TV → Heap → Prop} (h : NewC P f args R) (hK : ∀ v H', R v H' → K (v.ren (· + H.length)) (H ++ H')) (hP : Γ.P = P := by with_unfolding_all rfl) (hc : callable P f = true := by kernel_rfl) (hev : ∀ t, ¬ Γ.ev.TM t := by with_unfolding_all exact fun _ h => h) : xcallF Γ H f args K := yF_new h hP hc hev hK
end
end Go.Proofs.YtdmcknmjdlghgaaGreatDoor
namespace Go.Ab
open Go Go.RowKit
set_option linter.unusedSimpArgs false
set_option linter.unusedVariables false
section
variable {P : Program} {ops : Array Oper} {md : Region.Mode} {σ : Type} {D : σ → World → Prop}
end
/-! Tryz# Abstractly -/
section
variable {Γ : Ctx} {ops : Array Oper} {H0 H : Heap} {T : List TV} {M : List Nat} {L : List Oper} {K : List TV → Heap → Prop} {KL : List TV → Heap → Prop} {i len : Nat} {r : List Nat} {dst : Option Tmp} {ty t : TypeId} {pos : String} {af : Array Edge} {ps : List (Nat × Operand)}
theorem xAtM_bs : xAtM Γ ops H0 M (some ⟨dst, .buildSlice t len ps.toArray, ty, pos, af, none⟩) T H KL = xbs Γ (slcOf Γ.P t) len ps (Ab.ev T) H fun v e => famL M 0 H0 (e.app H) ∧ KL (putT T dst v) (e.app H) := by
  simp only [xAtM, xop, true_and]
  rfl
end
@[irreducible] def XW (Γ : Ctx) (ops : Array Oper) (H : Heap) (M : List Nat) (l : List Oper) (T : List TV) (K : List TV → Prop) : Prop :=
  ∀ (β : Nat → Nat) (w0 : World) (Q : Act → Prop) (a : Act), Rep Γ H β w0 → Holds H.length β T a.tmps → a.defers = [] → (∀ T' a', K T' → Holds H.length β T' a'.tmps → a'.defers = [] → Q a') → wpQuietG Γ.P ops (famD Γ H β M) Q l a
section
variable {Γ : Ctx} {ops : Array Oper} {H : Heap} {M : List Nat} {T T' : List TV} {K : List TV → Prop} {dst : Option Tmp} {op : Op} {ty : TypeId} {pos : String} {af : Array Edge} {j : Nat} {w : Bool} {r : List Oper}
theorem XW_def {l : List Oper} : XW Γ ops H M l T K = ∀ (β : Nat → Nat) (w0 : World) (Q : Act → Prop) (a : Act), Rep Γ H β w0 → Holds H.length β T a.tmps → a.defers = [] → (∀ T' a', K T' → Holds H.length β T' a'.tmps → a'.defers = [] → Q a') → wpQuietG Γ.P ops (famD Γ H β M) Q l a := by unfold XW; rfl
@[congr] theorem XW_congr {l : List Oper} (h1 : T = T') : XW Γ ops H M l T K = XW Γ ops H M l T' K := by rw [h1]
theorem XW_nil (h : K T) : XW Γ ops H M [] T K := by
  rw [XW_def]
  exact fun β w0 Q a _ hT hd hQ => hQ _ _ h hT hd
theorem XW_cons (h : xquietM Γ op (ev T) H M fun v => XW Γ ops H M r (putT T dst v) K) : XW Γ ops H M (⟨dst, op, ty, pos, af, none⟩ :: r) T K := by
  rw [XW_def]
  intro β w0 Q a hR hT hd hQ
  obtain ⟨v, hK, hv, hq⟩ := xquietM_at (o := ⟨dst, op, ty, pos, af, none⟩) h hT hR
  rw [XW_def] at hK
  have hput : ∀ u, (a.put dst u).defers = [] := fun u => by cases dst <;> exact hd
  have hwant : Region.wanted (⟨dst, op, ty, pos, af, none⟩ : Oper) (yielded ops a.tmps) = true := by simp [Region.wanted]
  simp only [wpQuietG, hwant, if_true]
  exact ⟨v.conc β, hq, hK β w0 Q _ hR (hT.put (Nat.le_refl _) (.refl _ _) hv) (hput _) hQ⟩
theorem XW_law {v : TV} (hs : ∀ H', Sound Γ op (ev T) H' v .none) (h : XW Γ ops H M r (putT T dst v) K) : XW Γ ops H M (⟨dst, op, ty, pos, af, none⟩ :: r) T K := by
  rw [XW_def] at h ⊢
  intro β w0 Q a hR hT hd hQ
  have hput : ∀ u, (a.put dst u).defers = [] := fun u => by cases dst <;> exact hd
  have hwant : Region.wanted (⟨dst, op, ty, pos, af, none⟩ : Oper) (yielded ops a.tmps) = true := by simp [Region.wanted]
  have hdo : ∀ H' w β', Rep Γ H' β' w → Agrees H.length β β' → (execOp a.eval (⟨dst, op, ty, pos, af, none⟩ : Oper)).run Γ.P w = .ok (.value (v.conc β')) w := fun H' w β' hR h' =>
    hs H' _ β' a.eval w rfl (eval_ev (hT β' h')) hR
  have hv : ∀ β', Agrees H.length β β' → v.conc β' = v.conc β := fun β' h' => by
    have h1 := hdo H w0 β hR (.refl _ _)
    rw [hdo H w0 β' (hR.agree h') h'] at h1
    injection h1 with h1
    injection h1 with h1
  simp only [wpQuietG, hwant, if_true]
  refine ⟨v.conc β, fun s w hw => ?_, h β w0 Q _ hR (hT.put (Nat.le_refl _) (.refl _ _) hv) (hput _) hQ⟩
  unfold Oper.quietAt
  rw [hdo s.1 w s.2 hw.2.2 hw.2.1, hv s.2 hw.2.1]
  exact ⟨rfl, rfl⟩
theorem xslice_det {arr : Option (Nat × TypeId)} {slc : Option TypeId} {sz : TypeId → Nat} {x : TV} {lo hi : Option TV} {K : TV → Prop} (h : xslice arr slc sz x lo hi K) : ∃ v, K v ∧ xslice arr slc sz x lo hi fun v' => v' = v := by
  unfold xslice at h ⊢
  split at h
  · split at h
    · unfold xslB at h ⊢
      split at h
      · rename_i hl hh
        refine ⟨_, h.2, ?_⟩
        simp only [hl, hh]
        exact ⟨h.1, trivial⟩
      · exact h.elim
    · exact h.elim
  · split at h
    · unfold xslB at h ⊢
      split at h
      · rename_i hl hh
        refine ⟨_, h.2, ?_⟩
        simp only [hl, hh]
        exact ⟨h.1, trivial⟩
      · exact h.elim
    · exact h.elim
  · split at h
    · unfold xslB at h ⊢
      split at h
      · rename_i hl hh
        refine ⟨_, h.2, ?_⟩
        simp only [hl, hh]
        exact ⟨h.1, trivial⟩
      · exact h.elim
    · exact h.elim
  · exact h.elim
theorem XW_slice {t : TypeId} {x : Operand} {lo hi : Option Operand} (h : xslice (arrOf Γ.P t) (slcOf Γ.P t) (sz Γ.P) (ev T x) (lo.map (ev T)) (hi.map (ev T)) fun v => XW Γ ops H M r (putT T dst v) K) :
    XW Γ ops H M (⟨dst, .slice t x lo hi none, ty, pos, af, none⟩ :: r) T K := by
  obtain ⟨v, hK, hv⟩ := xslice_det h
  refine XW_law (v := v) (fun H' => ?_) hK
  obtain ⟨v', hv', hs⟩ := sound_slice (H := H') hv
  rw [hv'] at hs
  exact hs
end
def xmax (x y : TV) (K : TV → Prop) : Prop :=
  match x, y with
  | .s (.v (.int k a)), .s (.v (.int _ b)) => K (.s (.v (.int k (if b > a then b else a))))
  | _, _ => False
theorem xmax_int {k k' : IntKind} {a b : Int} {K : TV → Prop} : xmax (.s (.v (.int k a))) (.s (.v (.int k' b))) K = K (.s (.v (.int k (if b > a then b else a)))) := rfl
section
variable {Γ : Ctx} {ops : Array Oper} {H : Heap} {T : List TV} {dst : Option Tmp} {ty : TypeId} {pos : String} {af : Array Edge} {r : List Oper}
theorem XR_max {K : List TV → Heap → Prop} {ts : Array TypeId} {x y : Operand} (h : xmax (ev T x) (ev T y) fun v => XR Γ ops r (putT T dst v) H K) :
    XR Γ ops (⟨dst, .call ⟨.builtin .max, #[x, y], ts⟩, ty, pos, af, none⟩ :: r) T H K := by
  unfold xmax at h
  split at h
  · rename_i k a k' b hx hy
    refine XR_law (v := .s (.v (.int k (if b > a then b else a)))) ?_ h
    intro o β ρ w ho hρ hR
    simp only [Does, execOp, ho, resolve, invoke, builtin, Sem.run_bind, Sem.run_pure, Result.andThen_ok, List.map_toArray, List.map_cons, List.map_nil, hρ, hx, hy, conc_v, Builtin.max_, List.foldlM_cons, List.foldlM_nil, Builtin.max2]
  · exact h.elim
end
theorem xcallF_wpA {Γ : Ctx} {o : Oper} {c : Call} {T : List TV} {H : Heap} {K : KH} {a : Act} {w : World} {β : Nat → Nat} {next : Act → World → Prop} {Q : Exit → Act → World → Prop}
    (ho : o.op = .call c) (h : xcall Γ c (ev T) H K) (hT : Holds H.length β T a.tmps) (hR : Rep Γ H β w)
    (hn : ∀ v H' u w' β', K v H' → Agrees H.length β β' → H.length ≤ H'.length → Holds H'.length β' (putT T o.dst v) (a.put o.dst u).tmps → Rep Γ H' β' w' → next (a.put o.dst u) w') : o.wp Γ.P a w next Q := by
  have hev := eval_ev (a := a) (hT β (.refl _ _))
  unfold xcall at h
  split at h
  · rename_i g hc
    unfold xcalled at h
    split at h
    · rename_i f fa fc hg
      unfold xfun at hg
      split at hg
      · rename_i f' av cv hgv
        simp only [Option.some.injEq, Prod.mk.injEq] at hg
        obtain ⟨rfl, rfl, rfl⟩ := hg
        have hgc : a.eval g = .func (.func f') av cv := by rw [hev, hgv]; rfl
        have hargs : (((av.toList.map (fun v => TV.s (.v v))) ++ c.args.toList.map (ev T) ++ (cv.toList.map (fun v => TV.s (.v v)))).map (TV.conc β)).toArray = av ++ c.args.map a.eval ++ cv := by
          apply Array.ext'
          simp [conc_v, conc_p, conc_sl, conc_agg, conc_tup, Function.comp_def, hev]
        rcases h with ⟨hcall, R, hG, hK⟩ | ⟨r, hX, hok, hK⟩
        case inr =>
          have hrun := run_callV (P := Γ.P) ho hc hgc w
          have hX' := hX β w
          rw [hargs] at hX'
          unfold Oper.wp
          rw [hrun, hX']
          exact hn _ H _ w β hK (.refl _ _) (Nat.le_refl _) (hT.put (Nat.le_refl _) (.refl _ _) (fun β'' h'' => TV.conc_ok hok (fun j hj => absurd hj (Nat.not_lt_zero j)))) hR
        have hrun := run_callF (P := Γ.P) ho hc hgc hcall w
        unfold Oper.wp
        rw [hrun]
        simp only [Oper.upon]
        have hG' := hG β w hR
        rw [hargs] at hG'
        refine hG'.mono fun e w' hh => ?_
        obtain ⟨r, H', β', hr, hag, hlen, hR', he⟩ := hh
        have he0 := he β' (.refl _ _)
        subst he0
        simp only
        refine hn r H' _ w' β' (hK r H' hr) hag hlen ?_ hR'
        refine hT.put hlen hag (fun β'' h'' => ?_)
        have h1 := he β'' h''
        injection h1 with h1
        exact h1.symm
      · cases hg
    · exact h.elim
  · rename_i hc
    split at h
    · rename_i x t hx ht
      have hargs : c.args = #[x] := Array.ext' (by simpa using hx)
      have hts : c.argTypes = #[t] := Array.ext' (by simpa using ht)
      have fin : ∀ (n : Nat) (y : TV), ev T x = y → isSlc Γ.P t = true → (∃ ad cap, y.conc β = .slice ad n cap) → K (.s (.v (.int .i64 (n : Int)))) H → o.wp Γ.P a w next Q := by
        intro n y hy hsl ⟨ad, cap, hconc⟩ hK
        unfold isSlc at hsl
        split at hsl
        · rename_i e hu
          have hrun : (execOp a.eval o).run Γ.P w = .ok (.value (.int .i64 (n : Int))) w := by
            simp [execOp, ho, resolve, hc, hargs, hts, invoke, builtin, Builtin.len_, run_underlying hu, hev, hy, hconc, goInt]
          unfold Oper.wp
          rw [hrun]
          simp only [Oper.upon]
          refine hn _ H _ w β hK (.refl _ _) (Nat.le_refl _) ?_ hR
          exact hT.put (Nat.le_refl _) (.refl _ _) (fun _ _ => rfl)
        · cases hsl
      unfold xlen at h
      split at h
      · rename_i ad n cap hy
        exact fin n _ hy h.1 ⟨ad, cap, rfl⟩ h.2
      · rename_i j off n cap hy
        exact fin n _ hy h.1 ⟨_, cap, rfl⟩ h.2
      · exact h.elim
    · exact h.elim
  · exact h.elim
theorem xstep_wpA {Γ : Ctx} {o : Oper} {T : List TV} {H : Heap} {K : KH} {a : Act} {w : World} {β : Nat → Nat} {next : Act → World → Prop} {Q : Exit → Act → World → Prop}
    (h : xstep Γ o.op (ev T) H K) (hT : Holds H.length β T a.tmps) (hR : Rep Γ H β w)
    (hn : ∀ v H' u w' β', K v H' → Agrees H.length β β' → H.length ≤ H'.length → Holds H'.length β' (putT T o.dst v) (a.put o.dst u).tmps → Rep Γ H' β' w' → next (a.put o.dst u) w') : o.wp Γ.P a w next Q := by
  unfold xstep at h
  split at h
  · rename_i c ho
    exact xcallF_wpA ho h hT hR hn
  · obtain ⟨v, e, hK, hsd⟩ := xop_sound h
    obtain ⟨u, w', β', hr, hag, hlen, hR', hv⟩ := Does.leaves (fun β' h' => hsd o β' a.eval w rfl (eval_ev (hT β' h')) (hR.agree h')) hR
    have hfin := hn v _ u w' β' hK hag hlen (hT.put hlen hag hv) hR'
    unfold Oper.wp
    rcases hr with hr | ⟨hr, rfl⟩
    · rw [hr]; exact hfin
    · rw [hr]; exact hfin
def xTrC (Γ : Ctx) (ops : Array Oper) (H0 : Heap) (M : List Nat) (K : List TV → Heap → Prop) : Tr → Bool → List TV → Heap → Prop
  | .nil, true, T, H => K T H
  | .nil, false, _, _ => True
  | .cons i sub rest, _, T, H => (match ops[i]? with | some o => o.guard = none ∧ xstep Γ o.op (ev T) H fun v H' => famL M 0 H0 H' ∧ xTrC Γ ops H0 M K sub true (putT T o.dst v) H' | none => False) ∧ xTrC Γ ops H0 M K rest false T H
theorem xTrC_wp {Γ : Ctx} {ops : Array Oper} {H0 : Heap} {β0 : Nat → Nat} {M : List Nat} {Q : Exit → Act → World → Prop} {K : List TV → Heap → Prop} (hK : ∀ T' H' a' w', K T' H' → St Γ T' H' a' w' → Q .normal a' w') :
    ∀ (t : Tr) (first : Bool) {T : List TV} {H : Heap} {β : Nat → Nat} {a : Act}, xTrC Γ ops H0 M K t first T H → Agrees H0.length β0 β → H0.length ≤ H.length → Holds H.length β T a.tmps → a.defers = [] → wpTrG Γ.P ops (famD Γ H0 β0 M) Q t first (H, β) a
  | .nil, true, _, _, β, _, h, _, _, hT, hd => fun w hw => hK _ _ _ _ h ⟨β, hT, hw.2.2, hd⟩
  | .nil, false, _, _, _, _, _, _, _, _, _ => trivial
  | .cons i sub rest, first, T, H, β, a, h, hag, hle, hT, hd => by
    simp only [xTrC] at h
    refine ⟨fun w hw => ?_, xTrC_wp hK rest false h.2 hag hle hT hd⟩
    have h1 := h.1
    unfold wpOp
    split at h1
    · rename_i o ho
      obtain ⟨hg, hx⟩ := h1
      have hwant : Region.wanted o (yielded ops a.tmps) = true := by simp [Region.wanted, hg]
      have hput : ∀ u, (a.put o.dst u).defers = [] := fun u => by cases o.dst <;> exact hd
      simp only [ho, hwant, if_true]
      refine .inl (xstep_wpA hx hT hw.2.2 fun v H' u w' β' hk hag' hlen hT' hR' => ?_)
      exact ⟨(H', β'), ⟨hk.1, hag.trans (hag'.mono hle), hR'⟩, xTrC_wp hK sub true hk.2 (hag.trans (hag'.mono hle)) (Nat.le_trans hle hlen) hT' (hput _)⟩
    · exact h1.elim
theorem X_drawC2 {Γ : Ctx} {T : List TV} {H : Heap} {id : Nat} {l : List Oper} {Q : QX} (n : Nat) (M : List Nat) (t : Tr) (hm : Γ.P.follows .mixedOrders = true) (hB : mixG .any l.toArray n t = true)
    (h : XW Γ l.toArray H M (l.take n) T fun T => xTrC Γ l.toArray H M (fun T H => Q .normal T H) t true T H) : XL Γ (.region id l.toArray true) T H Q := by
  rw [XW_def] at h
  rw [XL_eq]
  intro a w ⟨β, hT, hR, hd⟩
  refine wp_mono (wp_region_G (D := famD Γ H β M) (Q := fun e a w => match e with | .normal => lift Γ Q .normal a w | _ => False) n t (H, β) hm hB (fun _ _ _ h => h) ⟨famL_refl, .refl _ _, hR.drewQ⟩ ?_) fun e a w h => ?_
  · refine h β w _ a hR hT hd fun T' a' hK hT' hd' => ?_
    exact xTrC_wp (fun T'' H'' a'' w'' hq hs => ⟨T'', H'', hq, hs⟩) t true hK (.refl _ _) (Nat.le_refl _) hT' hd'
  · cases e with
    | normal => exact h
    | _ => exact h.elim
section
variable {Γ : Ctx} {ops : Array Oper} {H0 : Heap} {M : List Nat} {T : List TV} {H : Heap} {K : List TV → Heap → Prop} {i : Nat} {sub rest : Tr} {b : Bool}
theorem xTrC_end : xTrC Γ ops H0 M K .nil true T H = K T H := rfl
theorem xTrC_last : xTrC Γ ops H0 M K .nil false T H = True := rfl
theorem xTrC_cons {dst : Option Tmp} {op : Op} {ty : TypeId} {pos : String} {af : Array Edge} (ho : ops[i]? = some ⟨dst, op, ty, pos, af, none⟩) (h : xstep Γ op (ev T) H fun v H' => famL M 0 H0 H' ∧ xTrC Γ ops H0 M K sub true (putT T dst v) H') (h2 : xTrC Γ ops H0 M K rest false T H) :
    xTrC Γ ops H0 M K (.cons i sub rest) b T H := by
  cases b <;> (simp only [xTrC, ho]; exact ⟨⟨trivial, h⟩, h2⟩)
end
end Go.Ab
namespace Go.Proofs.YtdmcknmjdlghgaaGreatDoor
open Go Go.Ab
set_option linter.unusedSimpArgs false
set_option linter.unusedVariables false
set_option linter.defProp false
def vcXPb := (And.intro (And.intro (And.intro (And.intro (And.intro (And.intro (And.intro @modc_length (And.intro @modc_take @modc_sq)) (And.intro @modc_i (And.intro @modS_length @dgs_length))) (And.intro (And.intro @dgs_one (And.intro @dgs_get @nats_length)) (And.intro @fac_length (And.intro @fac_fst @fac_snd)))) (And.intro (And.intro (And.intro @fac_one (And.intro @prf_length @prf_fst)) (And.intro @prf_snd (And.intro @prf_thd @prf_one))) (And.intro (And.intro @fz_prf (And.intro @avren_sl @qm_call)) (And.intro (And.intro @qm_move @qm_assign) (And.intro @qm_pick @qm_build))))) (And.intro (And.intro (And.intro (And.intro @qm_load (And.intro @qm_nilCheck @qm_binOp)) (And.intro @qm_unOp (And.intro @qm_convert @qm_fieldAddr))) (And.intro (And.intro @qm_field (And.intro @qm_indexAddr @qm_index)) (And.intro (And.intro @qm_extract @qm_makeFunc) (And.intro @xcalledM_first @xcalledM_cap)))) (And.intro (And.intro (And.intro @maskOK_p (And.intro @maskOK_v @xcallHM_value)) (And.intro @xcallHM_len (And.intro @xcalledM_some @xTrM_nil))) (And.intro (And.intro @xTrM_false (And.intro @xTrM_cons @xAtM_assign)) (And.intro (And.intro @xAtM_move @xAtM_extract) (And.intro @xAtM_alloc @xAtM_store)))))) (And.intro (And.intro (And.intro (And.intro (And.intro @famL_nil (And.intro @famL_cons @tf135_row)) (And.intro @tf135_sz (And.intro @tf135_szO @tf135_f0))) (And.intro (And.intro @tf135_f1 (And.intro @tf135_f2 @tf135_f3)) (And.intro (And.intro @tf135_known @tf135_zero) (And.intro @tf135_p0 @tf135_p1)))) (And.intro (And.intro (And.intro @tf135_p2 (And.intro @tf135_p3 @tf135_slc)) (And.intro @tf144_row (And.intro @tf144_sz @tf144_szO))) (And.intro (And.intro @tf144_arr (And.intro @tf144_known @tf144_eq)) (And.intro (And.intro @tf144_zero @tf144_lits) (And.intro @tf144_place @tf144_slc))))) (And.intro (And.intro (And.intro (And.intro @tf71_row (And.intro @tf71_sz @tf71_szO)) (And.intro @tf71_slc (And.intro @tf71_ptr @tf71_zero))) (And.intro (And.intro @tf146_row (And.intro @tf146_sz @tf146_szO)) (And.intro (And.intro @tf146_slc @tf146_ptr) (And.intro @tf146_zero @tf147_row)))) (And.intro (And.intro (And.intro @tf147_sz (And.intro @tf147_szO @tf147_slc)) (And.intro @tf147_arr (And.intro @tf147_isSlc @tf147_zero))) (And.intro (And.intro @tf125_row (And.intro @tf125_sz @tf125_szO)) (And.intro (And.intro @tf125_slc @tf125_int) (And.intro @tf125_zero @tf21_row))))))) (And.intro (And.intro (And.intro (And.intro (And.intro (And.intro @tf21_sz (And.intro @tf21_szO @tf21_slc)) (And.intro @tf21_int (And.intro @tf21_zero @ctxN_P))) (And.intro (And.intro @ctxN_TM (And.intro @bnd_none @bnd_int)) (And.intro @xslB_some (And.intro @xslice_p @xslice_sl)))) (And.intro (And.intro (And.intro @xslice_v (And.intro @xarrAt_sl @xarrAt_v)) (And.intro @tf22_row (And.intro @tf22_sz @tf22_szO))) (And.intro (And.intro @tf22_slc (And.intro @tf22_arr @tf22_isSlc)) (And.intro (And.intro @tf22_zero @tf61_row) (And.intro @tf61_sz @tf61_szO))))) (And.intro (And.intro (And.intro (And.intro @tf61_f0 (And.intro @tf61_f1 @tf61_known)) (And.intro @tf61_eq (And.intro @tf61_zero @tf61_p0))) (And.intro (And.intro @tf61_p1 (And.intro @tf61_slc @tf62_row)) (And.intro (And.intro @tf62_sz @tf62_szO) (And.intro @tf62_slc @tf62_arr)))) (And.intro (And.intro (And.intro @tf62_isSlc (And.intro @tf62_zero @tf64_row)) (And.intro @tf64_sz (And.intro @tf64_szO @tf64_f0))) (And.intro (And.intro @tf64_f1 (And.intro @tf64_f2 @tf64_known)) (And.intro (And.intro @tf64_zero @tf64_p0) (And.intro @tf64_p1 @tf64_p2)))))) (And.intro (And.intro (And.intro (And.intro (And.intro @tf64_slc (And.intro @tf29_row @tf29_sz)) (And.intro @tf29_szO (And.intro @tf29_slc @tf29_arr))) (And.intro (And.intro @tf29_isSlc (And.intro @tf29_zero @tf119_row)) (And.intro (And.intro @tf119_sz @tf119_szO) (And.intro @tf119_slc @ctxE_P)))) (And.intro (And.intro (And.intro @ctxE_TM (And.intro @modEvo_TM @after_P)) (And.intro @after_TM (And.intro @fz_v @fz_p))) (And.intro (And.intro @fz_sl (And.intro @fz_agg @fz_tup)) (And.intro (And.intro @fz_undef @avfz_v) (And.intro @avfz_p @avfz_sl))))) (And.intro (And.intro (And.intro (And.intro @avfz_agg (And.intro @svfz_v @svfz_p)) (And.intro @svfz_sl (And.intro @fzP_none @fzP_some))) (And.intro (And.intro @fzS_none (And.intro @fzS_some @fz_nat4)) (And.intro (And.intro @fz_arr @fz_iarr) (And.intro @fzB_some @fzH_nil)))) (And.intro (And.intro (And.intro @fzH_cons (And.intro @posL_nil @posL_cons)) (And.intro @ren_v (And.intro @ren_p @ren_sl))) (And.intro (And.intro @ren_undef (And.intro @ren_nat4 @ren_tupE)) (And.intro (And.intro @ren_tup @avren_v) (And.intro @avren_p @avren_nat4))))))))
def vcQPb := (And.intro (And.intro (And.intro (And.intro @okT_nil (And.intro @okT_cons @okS_nil)) (And.intro @okS_cons (And.intro @okA_nil @okA_cons))) (And.intro (And.intro @and_self (And.intro @true_and @and_true)) (And.intro (And.intro @okv_p @okv_sl) (And.intro @oks_s @oks_agg)))) (And.intro (And.intro (And.intro @oks_tup (And.intro @oka_s @oka_agg)) (And.intro (And.intro @okv_v @nat4_okk) (And.intro @nat8_okk @arr_okk))) (And.intro (And.intro @iarr_okk (And.intro @modc_okk @modS_okk)) (And.intro (And.intro @dgs_okk @nats_okk) (And.intro @fac_okk @prf_okk)))))
def vcOPb := (And.intro (And.intro (And.intro (And.intro @okv_p @okv_sl) (And.intro @oks_s @oks_agg)) (And.intro (And.intro @oks_tup @oka_s) (And.intro @oka_agg (And.intro @okv_v @nat4_okk)))) (And.intro (And.intro (And.intro @nat8_okk @arr_okk) (And.intro @iarr_okk @modc_okk)) (And.intro (And.intro @modS_okk @dgs_okk) (And.intro @nats_okk (And.intro @fac_okk @prf_okk)))))
theorem bd1 {p : Prop} (h : p := by first | (with_reducible first | assumption | exact OddM.mod_lt (by assumption) | exact OddM.mo_lt (by assumption) | exact OddM.mo_lt' (by assumption) | exact OddM.img_lt (by assumption) | exact OddM.lt (by assumption) | exact OddM.pos (by assumption) | exact lt512 (by assumption) | exact lt512_add (by first | assumption | exact OddM.mod_lt (by assumption)) (by first | assumption | exact OddM.lt (by assumption)) | exact lt512_mul (by assumption) (by assumption)) | decide | omega) : p := h
theorem dz1 {p : Prop} (h : p := by first | (simp only [nat4_length, nat8_length, arr_length, iarr_length, modc_length, modS_length, dgs_length, nats_length, fac_length, prf_length, List.length_cons, List.length_nil, Nat.reduceAdd]; done) | omega) : p := h
section
variable {Γ : Ctx} {P : Program} {V : Evo} {H : Heap} {M : List Nat} {f : FuncId} {args : List TV} {r : TV} {pre : Nat → World → Prop} {K : TV → Heap → Prop} {KV : TV → Prop}
theorem cF_pure1 (h : PureC P f args r) (hK : K r H) (hP : Γ.P = P := by with_unfolding_all rfl) (hc : callable P f = true := by kernel_rfl) : xcallF Γ H f args K := yF_pure h hP hc hK
theorem cV_pure1 (h : PureC P f args r) (hK : KV r) (hP : Γ.P = P := by with_unfolding_all rfl) (hc : callable P f = true := by kernel_rfl) : xcallV Γ H f args KV := yV_pure h hP hc hK
theorem cF_ev1 (h : EvC V P f args pre r) (hK : K r H) (hP : Γ.P = P := by with_unfolding_all rfl) (hV : Γ.ev = V := by with_unfolding_all rfl) (hc : callable P f = true := by kernel_rfl) (ha : ∀ x ∈ args, x.ok 0 := by simp only [vcQPb])
    (hp : Kn Γ pre := by with_reducible first | assumption | exact Kn.and (by assumption) (by assumption)) : xcallF Γ H f args K := yF_ev h hP hV hc ha hp hK
theorem cV_ev1 (h : EvC V P f args pre r) (hK : KV r) (hP : Γ.P = P := by with_unfolding_all rfl) (hV : Γ.ev = V := by with_unfolding_all rfl) (hc : callable P f = true := by kernel_rfl) (ha : ∀ x ∈ args, x.ok 0 := by simp only [vcQPb])
    (hp : Kn Γ pre := by with_reducible first | assumption | exact Kn.and (by assumption) (by assumption)) : xcallV Γ H f args KV := yV_ev h hP hV hc ha hp hK
theorem cF_new1 {R : TV → Heap → Prop} (h : NewC P f args R) (hK : ∀ v H', R v H' → K (v.ren (· + H.length)) (H ++ H')) (hP : Γ.P = P := by with_unfolding_all rfl) (hc : callable P f = true := by kernel_rfl) (hev : ∀ t, ¬ Γ.ev.TM t := by with_unfolding_all exact fun _ h => h) : xcallF Γ H f args K := yF_new h hP hc hev hK
end
end Go.Proofs.YtdmcknmjdlghgaaGreatDoor
namespace Go.Ab
open Go Go.RowKit
set_option linter.unusedSimpArgs false
set_option linter.unusedVariables false
def anyB (n : Nat) (f : Nat → Bool) : Bool := (List.range n).any f
theorem anyB_iff {n : Nat} {f : Nat → Bool} : anyB n f = true ↔ ∃ i, i < n ∧ f i = true := by
  unfold anyB
  rw [List.any_eq_true]
  simp only [List.mem_range]
theorem anyB_false {n : Nat} {f : Nat → Bool} : anyB n f = false ↔ ∀ i, i < n → f i = false := by
  rw [← Bool.not_eq_true, anyB_iff]
  constructor
  · intro h i hi
    cases hf : f i with
    | false => rfl
    | true => exact absurd ⟨i, hi, hf⟩ h
  · rintro h ⟨i, hi, hf⟩
    rw [h i hi] at hf
    cases hf
theorem anyB_zero {f : Nat → Bool} : anyB 0 f = false := rfl
theorem anyB_succ {n : Nat} {f : Nat → Bool} : anyB (n + 1) f = (anyB n f || f n) := by
  unfold anyB
  rw [List.range_succ, List.any_append]
  simp
def prT (P : Nat → Nat) (E : Nat → Int) : Nat → Nat
  | 0 => 1
  | i + 1 => prT P E i * P i ^ (E i).toNat
def eBad (E : Nat → Int) (i : Nat) : Bool := decide (E i < 1) || decide (255 < E i)
theorem eBad_false {E : Nat → Int} {i : Nat} : eBad E i = false ↔ 1 ≤ E i ∧ E i ≤ 255 := by
  unfold eBad
  rw [Bool.or_eq_false_iff, decide_eq_false_iff_not, decide_eq_false_iff_not]
  omega
theorem eBad_true {E : Nat → Int} {i : Nat} : eBad E i = true ↔ E i < 1 ∨ 255 < E i := by
  unfold eBad
  rw [Bool.or_eq_true, decide_eq_true_iff, decide_eq_true_iff]
def prS (n : Nat) (P : Nat → Nat) (E : Nat → Int) : Nat × Int :=
  if 40 < n then (0, 2) else if anyB n (eBad E) then (0, 1) else if anyB n (fun i => P i == 0) then (0, 0) else if prT P E n < 2 ^ 256 then (prT P E n, 0) else (0, 10)
section
variable {n : Nat} {P : Nat → Nat} {E : Nat → Int}
theorem prS_long (h : 40 < n) : prS n P E = (0, 2) := by unfold prS; rw [if_pos h]
theorem prS_bad (h : ¬ 40 < n) {i : Nat} (hi : i < n) (hb : eBad E i = true) : prS n P E = (0, 1) := by
  unfold prS
  rw [if_neg h, if_pos (anyB_iff.2 ⟨i, hi, hb⟩)]
theorem prS_zero (h : ¬ 40 < n) (hb : ∀ i, i < n → eBad E i = false) (hz : anyB n (fun i => P i == 0) = true) : prS n P E = (0, 0) := by
  unfold prS
  rw [if_neg h, if_neg (by rw [anyB_false.2 hb]; decide), if_pos hz]
theorem prS_fits (h : ¬ 40 < n) (hb : ∀ i, i < n → eBad E i = false) (hz : anyB n (fun i => P i == 0) = false) (hT : prT P E n < 2 ^ 256) : prS n P E = (prT P E n, 0) := by
  unfold prS
  rw [if_neg h, if_neg (by rw [anyB_false.2 hb]; decide), if_neg (by rw [hz]; decide), if_pos hT]
theorem prS_over (h : ¬ 40 < n) (hb : ∀ i, i < n → eBad E i = false) (hz : anyB n (fun i => P i == 0) = false) (hT : ¬ prT P E n < 2 ^ 256) : prS n P E = (0, 10) := by
  unfold prS
  rw [if_neg h, if_neg (by rw [anyB_false.2 hb]; decide), if_neg (by rw [hz]; decide), if_neg hT]
theorem prT_le (hz : ∀ i, i < n → 0 < P i) : ∀ {m : Nat}, m ≤ n → prT P E m ≤ prT P E n := by
  induction n with
  | zero => intro m hm; rw [Nat.le_zero.1 hm]; exact Nat.le_refl _
  | succ n ih =>
    intro m hm
    by_cases h : m = n + 1
    · subst h; exact Nat.le_refl _
    · refine Nat.le_trans (ih (fun i hi => hz i (by omega)) (by omega)) ?_
      exact Nat.le_mul_of_pos_right _ (Nat.pow_pos (hz n (by omega)))
theorem prT_part (hz : ∀ i, i < n → 0 < P i) {i k : Nat} (hi : i < n) (hk : k ≤ (E i).toNat) : prT P E i * P i ^ k ≤ prT P E n := by
  refine Nat.le_trans ?_ (prT_le (m := i + 1) hz (by omega))
  exact Nat.mul_le_mul_left _ (Nat.pow_le_pow_right (hz i hi) hk)
end
theorem zero_pos {n : Nat} {P : Nat → Nat} (hz : anyB n (fun i => P i == 0) = false) : ∀ i, i < n → 0 < P i := fun i hi => by
  have h := anyB_false.1 hz i hi
  have : P i ≠ 0 := by simpa using h
  omega
def stB (N G : Nat) (P : Nat → Nat) (i : Nat) : Bool := decide (P i < 2) || decide (G ^ ((N - 1) / P i) % N = 1)
def stS (N G n : Nat) (P : Nat → Nat) (E : Nat → Int) : Int :=
  if (prS n P E).2 ≠ 0 then (prS n P E).2
  else if ¬ (N % 2 = 1 ∧ 3 ≤ N) then 20
  else if (prS n P E).1 ≠ N - 1 ∨ G ^ (N - 1) % N ≠ 1 then 20
  else if anyB n (stB N G P) then 20 else 0
section
variable {N G n : Nat} {P : Nat → Nat} {E : Nat → Int} {a : Nat}
theorem stS_e {e : Int} (h : prS n P E = (a, e)) (he : e ≠ 0) : stS N G n P E = e := by unfold stS; rw [h, if_pos he]
theorem stS_m (h : prS n P E = (a, 0)) (hG : ¬ (N % 2 = 1 ∧ 3 ≤ N)) : stS N G n P E = 20 := by
  unfold stS
  rw [h, if_neg (fun h => h rfl), if_pos hG]
theorem stS_p (h : prS n P E = (a, 0)) (hG : N % 2 = 1 ∧ 3 ≤ N) (hp : a ≠ N - 1 ∨ G ^ (N - 1) % N ≠ 1) : stS N G n P E = 20 := by
  unfold stS
  rw [h, if_neg (fun h => h rfl), if_neg (fun h => h hG), if_pos hp]
theorem stS_b (h : prS n P E = (a, 0)) (hG : N % 2 = 1 ∧ 3 ≤ N) (ha : a = N - 1) (hp : G ^ (N - 1) % N = 1) {i : Nat} (hi : i < n) (hb : stB N G P i = true) : stS N G n P E = 20 := by
  unfold stS
  rw [h, if_neg (fun h => h rfl), if_neg (fun h => h hG), if_neg (fun h => h.elim (fun h => h ha) (fun h => h hp)), if_pos (anyB_iff.2 ⟨i, hi, hb⟩)]
theorem stS_o (h : prS n P E = (a, 0)) (hG : N % 2 = 1 ∧ 3 ≤ N) (ha : a = N - 1) (hp : G ^ (N - 1) % N = 1) (hb : ∀ i, i < n → stB N G P i = false) : stS N G n P E = 0 := by
  unfold stS
  rw [h, if_neg (fun h => h rfl), if_neg (fun h => h hG), if_neg (fun h => h.elim (fun h => h ha) (fun h => h hp)), if_neg (by rw [anyB_false.2 hb]; decide)]
theorem stB_lt (h : P n < 2) : stB N G P n = true := by unfold stB; rw [decide_eq_true h, Bool.true_or]
theorem stB_eq (h : ¬ P n < 2) : stB N G P n = decide (G ^ ((N - 1) / P n) % N = 1) := by unfold stB; rw [decide_eq_false h, Bool.false_or]
theorem prS_lt (hP : ∀ i, P i < 2 ^ 256) : (prS n P E).1 < 2 ^ 256 := by
  unfold prS
  split
  · show 0 < 2 ^ 256; decide
  split
  · show 0 < 2 ^ 256; decide
  split
  · show 0 < 2 ^ 256; decide
  split
  · assumption
  · show 0 < 2 ^ 256; decide
end
def knS (l : Nat → Pf) (m : Nat) (n : Nat) : Bool := n == 2 || anyB m fun i => (l i).N == n
def ckA (l : Nat → Pf) (i : Nat) : Int := if anyB (l i).n (fun k => !knS l i ((l i).P k)) then 20 else stS (l i).N (l i).G (l i).n (l i).P (l i).E
def ckU (l : Nat → Pf) : Nat → Int
  | 0 => 0
  | m + 1 => if ckU l m ≠ 0 then ckU l m else ckA l m
def ckS (l : Nat → Pf) (m : Nat) : Int := if 40 < m then 2 else ckU l m
def pvS (l : Nat → Pf) (m : Nat) (n : Nat) : Int := if ckS l m ≠ 0 then ckS l m else if knS l m n then 0 else 20
theorem knS_zero {l : Nat → Pf} {n : Nat} : knS l 0 n = (n == 2) := by unfold knS; rw [anyB_zero, Bool.or_false]
theorem knS_succ {l : Nat → Pf} {m n : Nat} : knS l (m + 1) n = (knS l m n || n == (l m).N) := by
  unfold knS
  rw [anyB_succ, Bool.or_assoc]
  congr 2
  rw [Bool.beq_comm]
theorem ckU_stop {l : Nat → Pf} {i m : Nat} (hi : i < m) (h0 : ckU l i = 0) (h : ckA l i ≠ 0) : ckU l m = ckA l i := by
  induction m with
  | zero => omega
  | succ m ih =>
    by_cases hm : i = m
    · subst hm
      show (if ckU l i ≠ 0 then ckU l i else ckA l i) = _
      rw [if_neg (by omega)]
    · have h1 := ih (by omega)
      show (if ckU l m ≠ 0 then ckU l m else ckA l m) = _
      rw [if_pos (by rw [h1]; exact h), h1]
theorem ckU_go {l : Nat → Pf} {i : Nat} (h0 : ckU l i = 0) (h : ckA l i = 0) : ckU l (i + 1) = 0 := by
  show (if ckU l i ≠ 0 then ckU l i else ckA l i) = _
  rw [if_neg (by omega), h]
end Go.Ab
namespace Go.Proofs.YtdmcknmjdlghgaaGreatDoor
open Go Go.Ab
set_option linter.unusedSimpArgs false
set_option linter.unusedVariables false
set_option linter.defProp false
set_option maxHeartbeats 20000000
set_option maxRecDepth 100000
def low4 (X : Nat) (j : Nat) : Nat := if j = 3 then wd X 3 else if j = 2 then wd X 2 else if j = 1 then wd X 1 else if j = 0 then wd X 0 else 0
theorem low4_lt (X j : Nat) : low4 X j < 18446744073709551616 := by
  unfold low4
  repeat' split
  all_goals first | exact wd_lt _ _ | decide
theorem low4_lits {X : Nat} : litsA Tryz.prog 115 (some (arr 8 fun j => if j = 3 then wd X 3 else if j = 2 then wd X 2 else if j = 1 then wd X 1 else if j = 0 then wd X 0 else 0)) = some (lits 8 (low4 X)) :=
  litsA_arr (f := low4 X) tf115_u (by kernel_rfl : Tryz.prog.underlying 24 = some (.int .u64)) (by kernel_rfl) (by kernel_rfl) fun i _ => low4_lt X i
theorem nat8_tk {X : Nat} : List.take 4 (nat8 X) = nat4 X := rfl
theorem low4_eq {X : Nat} (h : X < 2 ^ 256 * 2 ^ 256) : litsEq (lits 8 (wd X)) (lits 8 (low4 X)) = decide (X < 2 ^ 256) := by
  rw [litsEq_lits, Bool.eq_iff_iff, decide_eq_true_iff, decide_eq_true_iff]
  constructor
  · intro hh
    have h0 : X / 2 ^ 256 = 0 := wd_inj4 _ 0 ((Nat.div_lt_iff_lt_mul (Nat.two_pow_pos _)).2 h) (Nat.two_pow_pos _) fun k hk => by
      rw [wd_shift, wd_zero, hh (k + 4) (by omega)]
      unfold low4
      rw [if_neg (by omega), if_neg (by omega), if_neg (by omega), if_neg (by omega)]
    rcases (Nat.div_eq_zero_iff).1 h0 with h1 | h1
    · exact absurd h1 (Nat.ne_of_gt (Nat.two_pow_pos _))
    · exact h1
  · intro hh i hi
    unfold low4
    split
    · rename_i e; rw [e]
    split
    · rename_i e; rw [e]
    split
    · rename_i e; rw [e]
    split
    · rename_i e; rw [e]
    exact wd_big2 X i 256 hh (by omega)
theorem product_m (x : Option Addr) (n c : Nat) (P : Nat → Nat) (E : Nat → Int) (hP : ∀ i, P i < 2 ^ 256) (hE : ∀ i, -9223372036854775808 ≤ E i ∧ E i < 9223372036854775808) (hn : n < 9223372036854775808) :
    PureM Tryz.prog 91 [.s (.v (.slice x n c))] (facs x n P E) (.tup [.agg (nat4 (prS n P E).1), .s (.v (.int .i64 (prS n P E).2))]) := by
  obtain ⟨r, hr⟩ : ∃ r, prS n P E = r := ⟨_, rfl⟩
  rw [hr]
  (refine pureM_of Tryz.func91 rfl (by simp only [List.length_cons, List.length_nil, List.map_cons, List.map_nil, List.nodup_cons, List.nodup_nil, List.mem_cons, Nat.reduceAdd, Nat.reduceEqDiff, or_false, not_false_eq_true, forall_eq_or_imp, forall_eq, or_self, Nat.reduceLT, Nat.reduceLeDiff, and_self, List.forall_mem_cons, List.not_mem_nil, false_implies, implies_true, and_true, true_and, vcOPb]) (by simp only [List.length_cons, List.length_nil, List.map_cons, List.map_nil, List.nodup_cons, List.nodup_nil, List.mem_cons, Nat.reduceAdd, Nat.reduceEqDiff, or_false, not_false_eq_true, forall_eq_or_imp, forall_eq, or_self, Nat.reduceLT, Nat.reduceLeDiff, and_self, List.forall_mem_cons, List.not_mem_nil, false_implies, implies_true, and_true, true_and, vcOPb]) fun w hpre => ?_; simp only [List.length_cons, List.length_nil, Tryz.ntmps91, Nat.reduceAdd, Nat.reduceSub, List.replicate_succ, List.replicate_zero, List.cons_append, List.nil_append])
  have hN : Kn (ctx0 Tryz.prog w) (facsAt Evo.none x n P E) := facs_kn hpre
  have hadr : n ≠ 0 → ∃ ad, x = some ad := fun h => by
    rcases hpre with h0 | ⟨ad, h0, _⟩
    · omega
    · exact ⟨ad, h0⟩
  clear hpre
  by_cases h40 : 40 < n
  · have h40' : (40 : Int) < (n : Int) := by omega
    rw [prS_long h40] at hr
    subst hr
    (repeat' ((first | with_reducible (first | apply XR_slice | apply XR_arrAt | apply XR_cons | apply XR_consG | apply XR_nil | apply cF_pure1 (by assumption) | apply cF_ev1 (by assumption) | apply cF_pure1 (mul_c _ _ bd1 bd1)) | with_reducible (first | apply gRS (by with_unfolding_all rfl) | apply gR (by with_unfolding_all rfl) | apply gS (by with_unfolding_all rfl) | fail) | refine X_of _ ?_ | with_reducible (first | exact ⟨_, rfl⟩ | refine And.intro ?_ ?_ | intro _)) <;> try simp -implicitDefEqProofs (maxSteps := 1000000) (disch := first | exact dz1 | fail) only [vcR, vcT, simprocAttr, Ab.part, implies_true, forall_const, vcS, vcXPb, Tryz.f91, h40']))
  · have h40' : ¬ (40 : Int) < (n : Int) := by omega
    (repeat' ((first | with_reducible (first | apply XR_slice | apply XR_arrAt | apply XR_cons | apply XR_consG | apply XR_nil | apply cF_pure1 (by assumption) | apply cF_ev1 (by assumption) | apply cF_pure1 (mul_c _ _ bd1 bd1)) | with_reducible (first | apply gRS (by with_unfolding_all rfl) | apply gR (by with_unfolding_all rfl) | apply gS (by with_unfolding_all rfl) | fail) | refine X_of _ ?_ | with_reducible (first | exact ⟨_, rfl⟩ | refine And.intro ?_ ?_ | intro _)) <;> try simp -implicitDefEqProofs (maxSteps := 1000000) (disch := first | exact dz1 | fail) only [vcR, vcT, simprocAttr, Ab.part, implies_true, forall_const, vcS, vcXPb, Tryz.f91, h40']))
    refine X_loop (ι := Nat) (fun i => i ≤ n ∧ ∀ j, j < i → eBad E j = false) (fun i => n - i) [4, 6, 17, 18, 19, 20, 21, 22, 23, 24, 25, 26, 27, 28, 29, 30, 31, 32, 33, 34, 35, 36, 37]
      (fun i => [(4, .s (.v (.bool (anyB i fun j => P j == 0)))), (17, .s (.v (.int .i64 (i : Nat))))])
      (fun i => []) 0 (shape_of fun i => ?_) (by decide) ?_ ?_
    · simp only [List.length_cons, List.length_nil, List.map_cons, List.map_nil, List.nodup_cons, List.nodup_nil, List.mem_cons, Nat.reduceAdd, Nat.reduceEqDiff, or_false, not_false_eq_true, forall_eq_or_imp, forall_eq, or_self, Nat.reduceLT, Nat.reduceLeDiff, and_self, List.forall_mem_cons, List.not_mem_nil, false_implies, implies_true, and_true, true_and, vcOPb]
    · simp -implicitDefEqProofs (maxSteps := 1000000) (disch := first | exact dz1 | fail) only [vcR, vcT, simprocAttr, Ab.part, implies_true, forall_const, vcS, vcXPb, Tryz.f91, again_eq]
      exact ⟨rfl, _, rfl⟩
    · intro i us ⟨hi, hbad⟩
      by_cases h : i < n
      · obtain ⟨ad, rfl⟩ := hadr (by omega)
        have hx : ∀ {K : TV → HE → Prop}, xext (ctx0 Tryz.prog w) (some true) 5 (ad.add (i * 5)) K = K (.agg (fac (P i) (E i))) .none := fun {K} => hN.fac h
        have hPi := hP i
        have hl0 : litsEq (lits 4 (wd (P i))) (lits 4 (wd 0)) = (P i == 0) := litsEq_nat4 hPi (by decide)
        by_cases he1 : E i < 1
        · rw [prS_bad h40 h (eBad_true.2 (.inl he1))] at hr
          subst hr
          (repeat' ((first | with_reducible (first | apply XR_slice | apply XR_arrAt | apply XR_cons | apply XR_consG | apply XR_nil | apply cF_pure1 (by assumption) | apply cF_ev1 (by assumption) | apply cF_pure1 (mul_c _ _ bd1 bd1)) | with_reducible (first | apply gRS (by with_unfolding_all rfl) | apply gR (by with_unfolding_all rfl) | apply gS (by with_unfolding_all rfl) | fail) | refine X_of _ ?_ | with_reducible (first | exact ⟨_, rfl⟩ | refine And.intro ?_ ?_ | intro _)) <;> try simp -implicitDefEqProofs (maxSteps := 1000000) (disch := first | exact dz1 | fail) only [vcR, vcT, simprocAttr, Ab.part, implies_true, forall_const, vcS, vcXPb, Tryz.f91, hx,he1]))
        · by_cases he2 : 255 < E i
          · rw [prS_bad h40 h (eBad_true.2 (.inr he2))] at hr
            subst hr
            (repeat' ((first | with_reducible (first | apply XR_slice | apply XR_arrAt | apply XR_cons | apply XR_consG | apply XR_nil | apply cF_pure1 (by assumption) | apply cF_ev1 (by assumption) | apply cF_pure1 (mul_c _ _ bd1 bd1)) | with_reducible (first | apply gRS (by with_unfolding_all rfl) | apply gR (by with_unfolding_all rfl) | apply gS (by with_unfolding_all rfl) | fail) | refine X_of _ ?_ | with_reducible (first | exact ⟨_, rfl⟩ | refine And.intro ?_ ?_ | intro _)) <;> try simp -implicitDefEqProofs (maxSteps := 1000000) (disch := first | exact dz1 | fail) only [vcR, vcT, simprocAttr, Ab.part, implies_true, forall_const, vcS, vcXPb, Tryz.f91, hx,he1,he2]))
          · have hb : eBad E i = false := eBad_false.2 ⟨by omega, by omega⟩
            have hbad' : ∀ j, j < i + 1 → eBad E j = false := fun j hj => by
              by_cases hji : j = i
              · subst hji; exact hb
              · exact hbad j (by omega)
            obtain ⟨z, hz⟩ : ∃ z, (anyB i fun j => P j == 0) = z := ⟨_, rfl⟩
            have hz' : (anyB (i + 1) fun j => P j == 0) = (z || (P i == 0)) := by rw [anyB_succ, hz]
            rw [hz]
            clear hadr hbad hb hE hP hr hz
            cases z with
            | true =>
              (repeat' ((first | with_reducible (first | apply XR_slice | apply XR_arrAt | apply XR_cons | apply XR_consG | apply XR_nil | apply cF_pure1 (by assumption) | apply cF_ev1 (by assumption) | apply cF_pure1 (mul_c _ _ bd1 bd1)) | with_reducible (first | apply gRS (by with_unfolding_all rfl) | apply gR (by with_unfolding_all rfl) | apply gS (by with_unfolding_all rfl) | fail) | refine X_of _ ?_ | with_reducible (first | exact ⟨_, rfl⟩ | refine And.intro ?_ ?_ | intro _)) <;> try simp -implicitDefEqProofs (maxSteps := 1000000) (disch := first | exact dz1 | fail) only [vcR, vcT, simprocAttr, Ab.part, implies_true, forall_const, vcS, vcXPb, Tryz.f91, hx,he1,he2]))
              refine ⟨i + 1, by omega, ?_⟩
              simp -implicitDefEqProofs (maxSteps := 1000000) (disch := first | exact dz1 | fail) only [vcR, vcT, simprocAttr, Ab.part, implies_true, forall_const, vcS, vcXPb, Tryz.f91, again_eq]
              exact ⟨hbad', by rw [hz']; rfl, _, rfl⟩
            | false =>
              (repeat' ((first | with_reducible (first | apply XR_slice | apply XR_arrAt | apply XR_cons | apply XR_consG | apply XR_nil | apply cF_pure1 (by assumption) | apply cF_ev1 (by assumption) | apply cF_pure1 (mul_c _ _ bd1 bd1)) | with_reducible (first | apply gRS (by with_unfolding_all rfl) | apply gR (by with_unfolding_all rfl) | apply gS (by with_unfolding_all rfl) | fail) | refine X_of _ ?_ | with_reducible (first | exact ⟨_, rfl⟩ | refine And.intro ?_ ?_ | intro _)) <;> try simp -implicitDefEqProofs (maxSteps := 1000000) (disch := first | exact dz1 | fail) only [vcR, vcT, simprocAttr, Ab.part, implies_true, forall_const, vcS, vcXPb, Tryz.f91, hx,he1,he2,hl0]))
              refine ⟨i + 1, by omega, ?_⟩
              simp -implicitDefEqProofs (maxSteps := 1000000) (disch := first | exact dz1 | fail) only [vcR, vcT, simprocAttr, Ab.part, implies_true, forall_const, vcS, vcXPb, Tryz.f91, again_eq]
              exact ⟨hbad', by rw [hz', Bool.false_or], _, rfl⟩
      · have : i = n := by omega
        subst this
        obtain ⟨z, hz⟩ : ∃ z, (anyB i fun j => P j == 0) = z := ⟨_, rfl⟩
        rw [hz]
        cases z with
        | true =>
          rw [prS_zero h40 hbad hz] at hr
          subst hr
          (repeat' ((first | with_reducible (first | apply XR_slice | apply XR_arrAt | apply XR_cons | apply XR_consG | apply XR_nil | apply cF_pure1 (by assumption) | apply cF_ev1 (by assumption) | apply cF_pure1 (mul_c _ _ bd1 bd1)) | with_reducible (first | apply gRS (by with_unfolding_all rfl) | apply gR (by with_unfolding_all rfl) | apply gS (by with_unfolding_all rfl) | fail) | refine X_of _ ?_ | with_reducible (first | exact ⟨_, rfl⟩ | refine And.intro ?_ ?_ | intro _)) <;> try simp -implicitDefEqProofs (maxSteps := 1000000) (disch := first | exact dz1 | fail) only [vcR, vcT, simprocAttr, Ab.part, implies_true, forall_const, vcS, vcXPb, Tryz.f91]))
        | false =>
          have hpos := zero_pos hz
          (repeat' ((first | with_reducible (first | apply XR_slice | apply XR_arrAt | apply XR_cons | apply XR_consG | apply XR_nil | apply cF_pure1 (by assumption) | apply cF_ev1 (by assumption) | apply cF_pure1 (mul_c _ _ bd1 bd1)) | with_reducible (first | apply gRS (by with_unfolding_all rfl) | apply gR (by with_unfolding_all rfl) | apply gS (by with_unfolding_all rfl) | fail) | refine X_of _ ?_ | with_reducible (first | exact ⟨_, rfl⟩ | refine And.intro ?_ ?_ | intro _)) <;> try simp -implicitDefEqProofs (maxSteps := 1000000) (disch := first | exact dz1 | fail) only [vcR, vcT, simprocAttr, Ab.part, implies_true, forall_const, vcS, vcXPb, Tryz.f91]))
          refine X_loop (ι := Nat) (fun k => k ≤ i ∧ prT P E k < 2 ^ 256) (fun k => i - k) [9, 10, 43, 44, 45, 46, 47, 48, 49, 50, 51, 52, 53, 54, 55, 56, 57, 58, 59, 60, 61, 62, 63, 64, 65, 66, 67, 68, 69, 70, 71]
            (fun k => [(43, .s (.v (.int .i64 (k : Nat))))])
            (fun k => [(1, nat4 (prT P E k))]) 0 (shape_of fun k => ?_) (by decide) ?_ ?_
          · simp only [List.length_cons, List.length_nil, List.map_cons, List.map_nil, List.nodup_cons, List.nodup_nil, List.mem_cons, Nat.reduceAdd, Nat.reduceEqDiff, or_false, not_false_eq_true, forall_eq_or_imp, forall_eq, or_self, Nat.reduceLT, Nat.reduceLeDiff, and_self, List.forall_mem_cons, List.not_mem_nil, false_implies, implies_true, and_true, true_and, vcOPb]
          · simp -implicitDefEqProofs (maxSteps := 1000000) (disch := first | exact dz1 | fail) only [vcR, vcT, simprocAttr, Ab.part, implies_true, forall_const, vcS, vcXPb, Tryz.f91, again_eq]
            exact ⟨by show 1 < _; decide, _, rfl, rfl⟩
          · intro k us2 ⟨hk, hkT⟩
            by_cases hki : k < i
            · obtain ⟨ad, rfl⟩ := hadr (by omega)
              have hx : ∀ {K : TV → HE → Prop}, xext (ctx0 Tryz.prog w) (some true) 5 (ad.add (k * 5)) K = K (.agg (fac (P k) (E k))) .none := fun {K} => hN.fac hki
              have hPk := hP k
              obtain ⟨e, he⟩ : ∃ e : Nat, E k = (e : Int) := ⟨(E k).toNat, by have := (eBad_false.1 (hbad k hki)).1; omega⟩
              have he255 : e ≤ 255 := by have := (eBad_false.1 (hbad k hki)).2; omega
              rw [he] at hx
              (repeat' ((first | with_reducible (first | apply XR_slice | apply XR_arrAt | apply XR_cons | apply XR_consG | apply XR_nil | apply cF_pure1 (by assumption) | apply cF_ev1 (by assumption) | apply cF_pure1 (mul_c _ _ bd1 bd1)) | with_reducible (first | apply gRS (by with_unfolding_all rfl) | apply gR (by with_unfolding_all rfl) | apply gS (by with_unfolding_all rfl) | fail) | refine X_of _ ?_ | with_reducible (first | exact ⟨_, rfl⟩ | refine And.intro ?_ ?_ | intro _)) <;> try simp -implicitDefEqProofs (maxSteps := 1000000) (disch := first | exact dz1 | fail) only [vcR, vcT, simprocAttr, Ab.part, implies_true, forall_const, vcS, vcXPb, Tryz.f91, hx]))
              obtain ⟨t, ht⟩ : ∃ t, prT P E k = t := ⟨_, rfl⟩
              have hpart := fun q (hq : q ≤ e) => prT_part (E := E) (k := q) hpos hki (by rw [he]; exact hq)
              have hnext : prT P E (k + 1) = t * P k ^ e := by
                show prT P E k * P k ^ (E k).toNat = _
                rw [ht, he]; rfl
              rw [ht] at hkT hpart ⊢
              refine X_loop (ι := Nat) (fun q => q ≤ e ∧ t * P k ^ q < 2 ^ 256) (fun q => e - q) [10, 49, 50, 51, 52, 53, 54, 55, 56, 57, 58, 59, 60, 61, 62, 63, 64, 65, 66, 67, 68, 69, 70]
                (fun q => [(49, .s (.v (.int .i64 (q : Nat))))])
                (fun q => [(1, nat4 (t * P k ^ q))]) 0 (shape_of fun q => ?_) (by decide) ?_ ?_
              · simp only [List.length_cons, List.length_nil, List.map_cons, List.map_nil, List.nodup_cons, List.nodup_nil, List.mem_cons, Nat.reduceAdd, Nat.reduceEqDiff, or_false, not_false_eq_true, forall_eq_or_imp, forall_eq, or_self, Nat.reduceLT, Nat.reduceLeDiff, and_self, List.forall_mem_cons, List.not_mem_nil, false_implies, implies_true, and_true, true_and, vcOPb]
              · simp -implicitDefEqProofs (maxSteps := 1000000) (disch := first | exact dz1 | fail) only [vcR, vcT, simprocAttr, Ab.part, implies_true, forall_const, vcS, vcXPb, Tryz.f91, again_eq]
                exact ⟨by rw [Nat.pow_zero, Nat.mul_one]; exact hkT, _, by rw [Nat.pow_zero, Nat.mul_one], rfl⟩
              · intro q us3 ⟨hq, hqT⟩
                by_cases hqe : q < e
                · have hp1 := hpart (q + 1) hqe
                  rw [Nat.pow_succ, ← Nat.mul_assoc] at hp1
                  have hn1 : t * P k ^ (q + 1) = t * P k ^ q * P k := by rw [Nat.pow_succ, Nat.mul_assoc]
                  obtain ⟨o, ho⟩ : ∃ o, t * P k ^ q = o := ⟨_, rfl⟩
                  rw [ho] at hp1 hqT hn1 ⊢
                  by_cases hfit : o * P k < 2 ^ 256
                  · clear hr hpart hnext hadr hbad hP hE
                    have hX := low4_eq (X := o * P k) (Nat.mul_lt_mul'' hqT hPk)
                    rw [decide_eq_true hfit] at hX
                    (repeat' ((first | with_reducible (first | apply XR_slice | apply XR_arrAt | apply XR_cons | apply XR_consG | apply XR_nil | apply cF_pure1 (by assumption) | apply cF_ev1 (by assumption) | apply cF_pure1 (mul_c _ _ bd1 bd1)) | with_reducible (first | apply gRS (by with_unfolding_all rfl) | apply gR (by with_unfolding_all rfl) | apply gS (by with_unfolding_all rfl) | fail) | refine X_of _ ?_ | with_reducible (first | exact ⟨_, rfl⟩ | refine And.intro ?_ ?_ | intro _)) <;> try simp -implicitDefEqProofs (maxSteps := 1000000) (disch := first | exact dz1 | fail) only [vcR, vcT, simprocAttr, Ab.part, implies_true, forall_const, vcS, vcXPb, Tryz.f91, low4_lits,hX,nat8_tk]))
                    refine ⟨q + 1, by omega, ?_⟩
                    simp -implicitDefEqProofs (maxSteps := 1000000) (disch := first | exact dz1 | fail) only [vcR, vcT, simprocAttr, Ab.part, implies_true, forall_const, vcS, vcXPb, Tryz.f91, again_eq]
                    exact ⟨_, by rw [hn1], rfl⟩
                  · rw [prS_over h40 hbad hz (by omega)] at hr
                    subst hr
                    clear hpart hnext hadr hbad hP hE
                    have hX := low4_eq (X := o * P k) (Nat.mul_lt_mul'' hqT hPk)
                    rw [decide_eq_false hfit] at hX
                    (repeat' ((first | with_reducible (first | apply XR_slice | apply XR_arrAt | apply XR_cons | apply XR_consG | apply XR_nil | apply cF_pure1 (by assumption) | apply cF_ev1 (by assumption) | apply cF_pure1 (mul_c _ _ bd1 bd1)) | with_reducible (first | apply gRS (by with_unfolding_all rfl) | apply gR (by with_unfolding_all rfl) | apply gS (by with_unfolding_all rfl) | fail) | refine X_of _ ?_ | with_reducible (first | exact ⟨_, rfl⟩ | refine And.intro ?_ ?_ | intro _)) <;> try simp -implicitDefEqProofs (maxSteps := 1000000) (disch := first | exact dz1 | fail) only [vcR, vcT, simprocAttr, Ab.part, implies_true, forall_const, vcS, vcXPb, Tryz.f91, low4_lits,hX,nat8_tk]))
                · have : q = e := by omega
                  subst this
                  clear hr hpart hadr hbad hP hE
                  (repeat' ((first | with_reducible (first | apply XR_slice | apply XR_arrAt | apply XR_cons | apply XR_consG | apply XR_nil | apply cF_pure1 (by assumption) | apply cF_ev1 (by assumption) | apply cF_pure1 (mul_c _ _ bd1 bd1)) | with_reducible (first | apply gRS (by with_unfolding_all rfl) | apply gR (by with_unfolding_all rfl) | apply gS (by with_unfolding_all rfl) | fail) | refine X_of _ ?_ | with_reducible (first | exact ⟨_, rfl⟩ | refine And.intro ?_ ?_ | intro _)) <;> try simp -implicitDefEqProofs (maxSteps := 1000000) (disch := first | exact dz1 | fail) only [vcR, vcT, simprocAttr, Ab.part, implies_true, forall_const, vcS, vcXPb, Tryz.f91]))
                  refine ⟨k + 1, by omega, ?_⟩
                  simp -implicitDefEqProofs (maxSteps := 1000000) (disch := first | exact dz1 | fail) only [vcR, vcT, simprocAttr, Ab.part, implies_true, forall_const, vcS, vcXPb, Tryz.f91, again_eq]
                  exact ⟨_, by rw [hnext], rfl⟩
            · have : k = i := by omega
              subst this
              rw [prS_fits h40 hbad hz hkT] at hr
              subst hr
              (repeat' ((first | with_reducible (first | apply XR_slice | apply XR_arrAt | apply XR_cons | apply XR_consG | apply XR_nil | apply cF_pure1 (by assumption) | apply cF_ev1 (by assumption) | apply cF_pure1 (mul_c _ _ bd1 bd1)) | with_reducible (first | apply gRS (by with_unfolding_all rfl) | apply gR (by with_unfolding_all rfl) | apply gS (by with_unfolding_all rfl) | fail) | refine X_of _ ?_ | with_reducible (first | exact ⟨_, rfl⟩ | refine And.intro ?_ ?_ | intro _)) <;> try simp -implicitDefEqProofs (maxSteps := 1000000) (disch := first | exact dz1 | fail) only [vcR, vcT, simprocAttr, Ab.part, implies_true, forall_const, vcS, vcXPb, Tryz.f91]))
theorem mapTy : MapTy Tryz.prog 119 26 3 where
  m := by kernel_rfl
  row := by kernel_rfl
  kk := by kernel_rfl
  lit n _ := litsA_arr tf26_u (by kernel_rfl : Tryz.prog.underlying 24 = some (.int .u64)) (by kernel_rfl) (by kernel_rfl) fun i _ => wd_lt n i
  zero := by kernel_rfl
theorem look_z {Γ : Ctx} {b n : Nat} {p : Nat → Bool} {mt kt et : TypeId} (M : MapTy Γ.P mt kt et) (hno : ¬ Γ.own b) (hA : Kn Γ fun _ w => MapAt b p w) (hn : n < 2 ^ 256) :
    ∃ z : Int, ∀ (H : Heap) (T : List TV) (m k : Operand), ev T m = .s (.v (.map (some b))) → ev T k = .agg (nat4 n) → Sound Γ (.lookup mt m k true) (ev T) H (.tup [.s (.v (.int .i64 z)), .s (.v (.bool (p n)))]) .none := by
  obtain ⟨es, c, hb, hp⟩ := hA _ (FrP.now Γ)
  obtain ⟨z, hz⟩ := run_look (b := b) (c := c) M hp hn
  refine ⟨z, fun H T m k hm hk o β ρ w ho hρ hR => ?_⟩
  have hsame : w.heap[b]? = some (.map es c) := by
    have hlt := (Array.getElem?_eq_some_iff.1 hb).1
    rcases hR.fr.blk b hlt with h1 | h1 | ⟨_, o1, o2, h2, _, h4⟩
    · exact absurd h1 hno
    · exact h1.trans hb
    · rw [hb] at h2
      injection h2 with h2
      obtain ⟨c', t', f', he, _⟩ := Γ.ev.ofE _ _ h4
      rw [← h2] at he
      cases he
  have e1 : ρ m = .map (some b) := by rw [hρ, hm]; rfl
  have e2 : ρ k = natV n := by rw [hρ, hk, natV_conc]
  simp [Does, execOp, ho, e1, e2, hz w hsame, Result.andThen, conc_tup, AV.conc, SV.conc]
theorem has_m (b n : Nat) (p : Nat → Bool) (hn : n < 2 ^ 256) : PureM Tryz.prog 67 [.s (.v (.map (some b))), .agg (nat4 n)] (fun w => MapAt b p w) (.s (.v (.bool (p n)))) := by
  (refine pureM_of Tryz.func67 rfl (by simp only [List.length_cons, List.length_nil, List.map_cons, List.map_nil, List.nodup_cons, List.nodup_nil, List.mem_cons, Nat.reduceAdd, Nat.reduceEqDiff, or_false, not_false_eq_true, forall_eq_or_imp, forall_eq, or_self, Nat.reduceLT, Nat.reduceLeDiff, and_self, List.forall_mem_cons, List.not_mem_nil, false_implies, implies_true, and_true, true_and, vcOPb]) (by simp only [List.length_cons, List.length_nil, List.map_cons, List.map_nil, List.nodup_cons, List.nodup_nil, List.mem_cons, Nat.reduceAdd, Nat.reduceEqDiff, or_false, not_false_eq_true, forall_eq_or_imp, forall_eq, or_self, Nat.reduceLT, Nat.reduceLeDiff, and_self, List.forall_mem_cons, List.not_mem_nil, false_implies, implies_true, and_true, true_and, vcOPb]) fun w hpre => ?_; simp only [List.length_cons, List.length_nil, Tryz.ntmps67, Nat.reduceAdd, Nat.reduceSub, List.replicate_succ, List.replicate_zero, List.cons_append, List.nil_append])
  have hA : Kn (ctx0 Tryz.prog w) fun _ w => MapAt b p w := kn0_law (stays_map Evo.none b p) hpre
  obtain ⟨z, hz⟩ := look_z (Γ := ctx0 Tryz.prog w) mapTy (fun h => h) hA hn
  (iterate 2 ((first | with_reducible (first | apply XR_cons | apply XR_consG | apply XR_nil | apply cF_pure1 (by assumption) | apply cF_ev1 (by assumption)) | with_reducible (first | apply gRS (by with_unfolding_all rfl) | apply gR (by with_unfolding_all rfl) | apply gS (by with_unfolding_all rfl) | fail) | refine X_of _ ?_ | with_reducible (first | exact ⟨_, rfl⟩ | refine And.intro ?_ ?_ | intro _)) <;> try simp -implicitDefEqProofs (maxSteps := 1000000) (disch := first | exact dz1 | fail) only [vcR, vcT, simprocAttr, Ab.part, implies_true, forall_const, vcS, vcXPb, Tryz.f67]))
  refine XR_cons ?_
  try simp -implicitDefEqProofs (maxSteps := 1000000) (disch := first | exact dz1 | fail) only [vcR, vcT, simprocAttr, Ab.part, implies_true, forall_const, vcS, vcXPb, Tryz.f67]
  refine XR_cons ?_
  try simp -implicitDefEqProofs (maxSteps := 1000000) (disch := first | exact dz1 | fail) only [vcR, vcT, simprocAttr, Ab.part, implies_true, forall_const, vcS, vcXPb, Tryz.f67]
  refine XR_law (hz _ _ _ _ rfl rfl) ?_
  try simp -implicitDefEqProofs (maxSteps := 1000000) (disch := first | exact dz1 | fail) only [vcR, vcT, simprocAttr, Ab.part, implies_true, forall_const, vcS, vcXPb, Tryz.f67]
  (repeat' ((first | with_reducible (first | apply XR_cons | apply XR_consG | apply XR_nil | apply cF_pure1 (by assumption) | apply cF_ev1 (by assumption)) | with_reducible (first | apply gRS (by with_unfolding_all rfl) | apply gR (by with_unfolding_all rfl) | apply gS (by with_unfolding_all rfl) | fail) | refine X_of _ ?_ | with_reducible (first | exact ⟨_, rfl⟩ | refine And.intro ?_ ?_ | intro _)) <;> try simp -implicitDefEqProofs (maxSteps := 1000000) (disch := first | exact dz1 | fail) only [vcR, vcT, simprocAttr, Ab.part, implies_true, forall_const, vcS, vcXPb, Tryz.f67]))
end Go.Proofs.YtdmcknmjdlghgaaGreatDoor
namespace Go.Ab
set_option linter.unusedSimpArgs false
set_option linter.unusedVariables false
structure PfOk (l : Nat → Pf) : Prop where
  N : ∀ i, (l i).N < 2 ^ 256
  G : ∀ i, (l i).G < 2 ^ 256
  P : ∀ i k, (l i).P k < 2 ^ 256
  E : ∀ i k, -9223372036854775808 ≤ (l i).E k ∧ (l i).E k < 9223372036854775808
  n : ∀ i, (l i).n < 9223372036854775808
theorem ckS_long {l : Nat → Pf} {m : Nat} (h : 40 < m) : ckS l m = 2 := by unfold ckS; rw [if_pos h]
theorem ckS_short {l : Nat → Pf} {m : Nat} (h : ¬ 40 < m) : ckS l m = ckU l m := by unfold ckS; rw [if_neg h]
theorem ckA_un {l : Nat → Pf} {i k : Nat} (hk : k < (l i).n) (h : knS l i ((l i).P k) = false) : ckA l i = 20 := by
  unfold ckA
  rw [if_pos (anyB_iff.2 ⟨k, hk, by rw [h]; rfl⟩)]
theorem ckA_st {l : Nat → Pf} {i : Nat} (h : ∀ k, k < (l i).n → knS l i ((l i).P k) = true) : ckA l i = stS (l i).N (l i).G (l i).n (l i).P (l i).E := by
  unfold ckA
  rw [if_neg (by rw [anyB_false.2 fun k hk => by rw [h k hk]; rfl]; decide)]
open Go Go.RowKit
set_option maxRecDepth 100000
abbrev Sp := Nat × Nat × List (Nat × Int)
def pfOf (s : Sp) (y : Option Addr) : Pf := ⟨s.1, s.2.1, y, s.2.2.length, s.2.2.length, fun k => (s.2.2.getD k (2, 1)).1, fun k => (s.2.2.getD k (2, 1)).2⟩
def lOf (S : List Sp) (β : Nat → Nat) (i : Nat) : Pf := pfOf (S.getD i (2, 2, [])) (some ⟨β (i + 1), 0, none⟩)
def facl : List (Nat × Int) → List SV
  | [] => []
  | f :: fs => fac f.1 f.2 ++ facl fs
def rowF : Nat → List Sp → List SV
  | _, [] => []
  | k, s :: S => prf s.1 s.2.1 (.sl k 0 s.2.2.length s.2.2.length) ++ rowF (k + 1) S
def heapS (tp tf : TypeId) (S : List Sp) : Heap := ⟨tp, rowF 1 S⟩ :: S.map fun s => ⟨tf, facl s.2.2⟩
theorem facl_get (d : Nat × Int) : ∀ (fs : List (Nat × Int)) (q r : Nat), q < fs.length → r < 5 → (facl fs)[q * 5 + r]? = (fac (fs.getD q d).1 (fs.getD q d).2)[r]?
  | [], q, r, h, _ => absurd h (Nat.not_lt_zero q)
  | f :: fs, 0, r, _, hr => by
    show (fac f.1 f.2 ++ facl fs)[0 * 5 + r]? = _
    rw [Nat.zero_mul, Nat.zero_add, List.getElem?_append_left (by show r < 5; exact hr)]
    rfl
  | f :: fs, q + 1, r, h, hr => by
    show (fac f.1 f.2 ++ facl fs)[(q + 1) * 5 + r]? = _
    rw [List.getElem?_append_right (by show 5 ≤ (q + 1) * 5 + r; omega), show (q + 1) * 5 + r - (fac f.1 f.2).length = q * 5 + r by show (q + 1) * 5 + r - 5 = q * 5 + r; omega, facl_get d fs q r (Nat.lt_of_succ_lt_succ h) hr]
    rfl
theorem rowF_get (d : Sp) : ∀ (S : List Sp) (k q r : Nat), q < S.length → r < 9 → (rowF k S)[q * 9 + r]? = (prf (S.getD q d).1 (S.getD q d).2.1 (.sl (k + q) 0 (S.getD q d).2.2.length (S.getD q d).2.2.length))[r]?
  | [], k, q, r, h, _ => absurd h (Nat.not_lt_zero q)
  | f :: fs, k, 0, r, _, hr => by
    show (prf f.1 f.2.1 (.sl k 0 f.2.2.length f.2.2.length) ++ rowF (k + 1) fs)[0 * 9 + r]? = _
    rw [Nat.zero_mul, Nat.zero_add, List.getElem?_append_left (by show r < 9; exact hr)]
    rfl
  | f :: fs, k, q + 1, r, h, hr => by
    show (prf f.1 f.2.1 (.sl k 0 f.2.2.length f.2.2.length) ++ rowF (k + 1) fs)[(q + 1) * 9 + r]? = _
    rw [List.getElem?_append_right (by show 9 ≤ (q + 1) * 9 + r; omega), show (q + 1) * 9 + r - (prf f.1 f.2.1 (.sl k 0 f.2.2.length f.2.2.length)).length = q * 9 + r by show (q + 1) * 9 + r - 9 = q * 9 + r; omega, rowF_get d fs (k + 1) q r (Nat.lt_of_succ_lt_succ h) hr, show k + 1 + q = k + (q + 1) by omega]
    rfl
theorem fac_conc {p : Nat} {e : Int} {r : Nat} {β : Nat → Nat} (hr : r < 5) : ((fac p e)[r]?).map (SV.conc β) = some (facG (fun _ => p) (fun _ => e) r) := by
  rcases r with _ | _ | _ | _ | _ | r
  all_goals first | rfl | omega
theorem prf_conc {N G i n : Nat} {r : Nat} {β : Nat → Nat} (hr : r < 9) : ((prf N G (.sl i 0 n n))[r]?).map (SV.conc β) = some (prfG (fun _ => ⟨N, G, some ⟨β i, 0, none⟩, n, n, fun _ => 0, fun _ => 0⟩) r) := by
  rcases r with _ | _ | _ | _ | _ | _ | _ | _ | _ | r
  all_goals first | rfl | omega
theorem facG_at {P : Nat → Nat} {E : Nat → Int} {q r : Nat} (hr : r < 5) : facG P E (q * 5 + r) = facG (fun _ => P q) (fun _ => E q) r := by
  unfold facG
  rw [show (q * 5 + r) % 5 = r by omega, show (q * 5 + r) / 5 = q by omega, Nat.mod_eq_of_lt hr]
theorem prfG_at {l : Nat → Pf} {q r : Nat} (hr : r < 9) : prfG l (q * 9 + r) = prfG (fun _ => l q) r := by
  unfold prfG
  rw [show (q * 9 + r) % 9 = r by omega, show (q * 9 + r) / 9 = q by omega, Nat.mod_eq_of_lt hr]
def spOk (s : Sp) : Bool := decide (s.1 < 2 ^ 256) && decide (s.2.1 < 2 ^ 256) && decide (s.2.2.length < 9223372036854775808) && s.2.2.all fun f => decide (f.1 < 2 ^ 256) && decide (-9223372036854775808 ≤ f.2) && decide (f.2 < 9223372036854775808)
theorem getD_all {α : Type} {p : α → Bool} {l : List α} {d : α} (h : l.all p = true) (hd : p d = true) (i : Nat) : p (l.getD i d) = true := by
  rw [List.getD_eq_getElem?_getD]
  cases hi : l[i]? with
  | none => exact hd
  | some x => exact List.all_eq_true.1 h x (List.mem_of_getElem? hi)
theorem pfOk_of {S : List Sp} (h : S.all spOk = true) (β : Nat → Nat) : PfOk (lOf S β) := by
  have h1 : ∀ i, spOk (S.getD i (2, 2, [])) = true := fun i => getD_all h (by decide) i
  have h2 := fun i => Bool.and_eq_true_iff.1 (h1 i)
  have h3 := fun i => Bool.and_eq_true_iff.1 (h2 i).1
  have h4 := fun i => Bool.and_eq_true_iff.1 (h3 i).1
  have h5 : ∀ i k, ((decide (((S.getD i (2, 2, [])).2.2.getD k (2, 1)).1 < 2 ^ 256) && decide (-9223372036854775808 ≤ ((S.getD i (2, 2, [])).2.2.getD k (2, 1)).2)) && decide (((S.getD i (2, 2, [])).2.2.getD k (2, 1)).2 < 9223372036854775808)) = true := fun i k => getD_all (p := fun f : Nat × Int => (decide (f.1 < 2 ^ 256) && decide (-9223372036854775808 ≤ f.2)) && decide (f.2 < 9223372036854775808)) (h2 i).2 (by decide) k
  have h6 := fun i k => Bool.and_eq_true_iff.1 (h5 i k)
  have h7 := fun i k => Bool.and_eq_true_iff.1 (h6 i k).1
  exact ⟨fun i => of_decide_eq_true (h4 i).1, fun i => of_decide_eq_true (h4 i).2, fun i k => of_decide_eq_true (h7 i k).1, fun i k => ⟨of_decide_eq_true (h7 i k).2, of_decide_eq_true (h6 i k).2⟩, fun i => of_decide_eq_true (h3 i).2⟩
def Lies (n Q : Nat) (H : Heap) : Prop := ∀ β : Nat → Nat, ∃ l, PfOk l ∧ pvS l n Q = 0 ∧ pvS l 1 Q = 20 ∧ ∀ w : World, (∀ (j : Nat) (b : AB), H[j]? = some b → w.heap[β j]? = some (b.conc β)) → prfs (some ⟨β 0, 0, none⟩) n l w
theorem lies_of {tp tf : TypeId} {S : List Sp} {Q : Nat} (hok : S.all spOk = true) (h0 : ∀ β, pvS (lOf S β) S.length Q = 0) (h1 : ∀ β, pvS (lOf S β) 1 Q = 20) : Lies S.length Q (heapS tp tf S) := by
  intro β
  refine ⟨lOf S β, pfOk_of hok β, h0 β, h1 β, fun w hw => ⟨.inr ⟨_, rfl, rfl, _, _, _, hw 0 _ rfl, fun i hi => ?_⟩, fun q hq => .inr ⟨_, rfl, rfl, _, _, _, hw (q + 1) ⟨tf, facl (S.getD q (2, 2, [])).2.2⟩ ?_, fun i hi => ?_⟩⟩⟩
  · rw [Nat.zero_add, List.getElem?_toArray, List.getElem?_map]
    have hi' : i / 9 < S.length := by omega
    rw [show i = i / 9 * 9 + i % 9 by omega, rowF_get (2, 2, []) S 1 (i / 9) (i % 9) hi' (by omega), prf_conc (by omega), prfG_at (by omega)]
    show _ = some (prfG (fun _ => pfOf (S.getD (i / 9) (2, 2, [])) (some ⟨β (i / 9 + 1), 0, none⟩)) (i % 9))
    unfold pfOf
    rw [Nat.add_comm 1 (i / 9)]
    rfl
  · show (S.map fun s => (⟨tf, facl s.2.2⟩ : AB))[q]? = _
    rw [List.getElem?_map, List.getElem?_eq_getElem hq, List.getD_eq_getElem?_getD, List.getElem?_eq_getElem hq]
    rfl
  · rw [Nat.zero_add, List.getElem?_toArray, List.getElem?_map]
    have hi2 : i < 5 * (S.getD q (2, 2, [])).2.2.length := hi
    have hi' : i / 5 < (S.getD q (2, 2, [])).2.2.length := by omega
    show ((facl (S.getD q (2, 2, [])).2.2)[i]?).map (SV.conc β) = some (facG (fun k => ((S.getD q (2, 2, [])).2.2.getD k (2, 1)).1) (fun k => ((S.getD q (2, 2, [])).2.2.getD k (2, 1)).2) i)
    rw [show i = i / 5 * 5 + i % 5 by omega, facl_get (2, 1) _ (i / 5) (i % 5) hi' (by omega), fac_conc (by omega), facG_at (by omega)]
theorem facl_ok {m : Nat} : ∀ (fs : List (Nat × Int)), ∀ x ∈ facl fs, x.ok m
  | [], x, hx => by cases hx
  | f :: fs, x, hx => by
    rcases List.mem_append.1 hx with h | h
    · have h1 : ∀ x ∈ fac f.1 f.2, x.ok m := by rw [fac_okk]; trivial
      exact h1 x h
    · exact facl_ok fs x h
theorem rowF_ok {m : Nat} : ∀ (S : List Sp) (k : Nat), k + S.length ≤ m → ∀ x ∈ rowF k S, x.ok m
  | [], k, _, x, hx => by cases hx
  | s :: S, k, h, x, hx => by
    have h2 : k + (S.length + 1) ≤ m := h
    rcases List.mem_append.1 hx with h1 | h1
    · have h3 : ∀ x ∈ prf s.1 s.2.1 (.sl k 0 s.2.2.length s.2.2.length), x.ok m := by rw [prf_okk]; show k < m; omega
      exact h3 x h1
    · exact rowF_ok S (k + 1) (by omega) x h1
theorem heapS_ok {tp tf : TypeId} {S : List Sp} : ∀ b ∈ heapS tp tf S, ∀ x ∈ b.cs, x.ok (heapS tp tf S).length := by
  have hl : (heapS tp tf S).length = S.length + 1 := by simp [heapS]
  intro b hb
  rw [hl]
  rcases List.mem_cons.1 hb with rfl | hb
  · exact rowF_ok S 1 (by omega)
  · obtain ⟨s, _, rfl⟩ := List.mem_map.1 hb
    exact facl_ok _
theorem sm_okk {P Q n m : Nat} (h : 0 < m) : TV.ok m (.tup [.agg (prms P Q 4), .s (.sl 0 0 n n)]) := by
  intro x hx
  simp only [List.mem_cons, List.not_mem_nil, or_false] at hx
  rcases hx with rfl | rfl
  · show ∀ x ∈ prms P Q 4, x.ok m
    rw [prms_okk]
    trivial
  · exact h
/-! Tryz# The four -/
def sp0 : List Sp := [(5, 2, [(2, 2)]), (11, 2, [(2, 1), (5, 1)])]
def sp1 : List Sp := [(3, 2, [(2, 1)]), (7, 3, [(2, 1), (3, 1)]), (127, 3, [(2, 1), (3, 2), (7, 1)]), (509, 2, [(2, 2), (127, 1)]), (1019, 2, [(2, 1), (509, 1)])]
def sp2 : List Sp := [(5, 2, [(2, 2)]), (41, 6, [(2, 3), (5, 1)]), (83, 2, [(2, 1), (41, 1)])]
def sp3 : List Sp := [(3, 2, [(2, 1)]), (13, 2, [(2, 2), (3, 1)]), (53, 2, [(2, 2), (13, 1)])]
theorem pv0 (β : Nat → Nat) : pvS (lOf sp0 β) 2 11 = 0 := by kernel_rfl
theorem pv1 (β : Nat → Nat) : pvS (lOf sp1 β) 5 1019 = 0 := by kernel_rfl
theorem pv2 (β : Nat → Nat) : pvS (lOf sp2 β) 3 83 = 0 := by kernel_rfl
theorem pv3 (β : Nat → Nat) : pvS (lOf sp3 β) 3 53 = 0 := by kernel_rfl
theorem pv0' (β : Nat → Nat) : pvS (lOf sp0 β) 1 11 = 20 := by kernel_rfl
theorem pv1' (β : Nat → Nat) : pvS (lOf sp1 β) 1 1019 = 20 := by kernel_rfl
theorem pv2' (β : Nat → Nat) : pvS (lOf sp2 β) 1 83 = 20 := by kernel_rfl
theorem pv3' (β : Nat → Nat) : pvS (lOf sp3 β) 1 53 = 20 := by kernel_rfl
theorem smL0 {tp tf : TypeId} : Lies 2 11 (heapS tp tf sp0) := lies_of rfl pv0 pv0'
theorem smL1 {tp tf : TypeId} : Lies 5 1019 (heapS tp tf sp1) := lies_of rfl pv1 pv1'
theorem smL2 {tp tf : TypeId} : Lies 3 83 (heapS tp tf sp2) := lies_of rfl pv2 pv2'
theorem smL3 {tp tf : TypeId} : Lies 3 53 (heapS tp tf sp3) := lies_of rfl pv3 pv3'
def smP (z : Int) : Nat := if z = 1 then 2039 else if z = 2 then 167 else if z = 3 then 107 else 23
def smQ (z : Int) : Nat := if z = 1 then 1019 else if z = 2 then 83 else if z = 3 then 53 else 11
end Go.Ab
namespace Go.Proofs.YtdmcknmjdlghgaaGreatDoor
open Go Go.Ab
set_option linter.unusedSimpArgs false
set_option linter.unusedVariables false
set_option linter.defProp false
set_option maxHeartbeats 20000000
set_option maxRecDepth 100000
theorem setAt_len {l vs : List SV} {off : Nat} : (setAt l off vs).length = l.length := by
  unfold setAt
  generalize vs.zipIdx = q
  induction q generalizing l with
  | nil => rfl
  | cons a q ih => rw [List.foldl_cons, ih, List.length_set]
theorem gfacb_len {p : Nat} : (setAt [.v (.int .u64 0), .v (.int .u64 0), .v (.int .u64 0), .v (.int .u64 0), .v (.int .i64 0)] 0 (nat4 p)).length = 5 := rfl
theorem gfacb {p : Nat} {e : Int} : (setAt [.v (.int .u64 0), .v (.int .u64 0), .v (.int .u64 0), .v (.int .u64 0), .v (.int .i64 0)] 0 (nat4 p)).set 4 (.v (.int .i64 e)) = fac p e := rfl
theorem gprfb_len {N : Nat} : (setAt [.v (.int .u64 0), .v (.int .u64 0), .v (.int .u64 0), .v (.int .u64 0), .v (.int .u64 0), .v (.int .u64 0), .v (.int .u64 0), .v (.int .u64 0), .v (.slice none 0 0)] 0 (nat4 N)).length = 9 := rfl
theorem gprfb_len2 {N G : Nat} : (setAt (setAt [.v (.int .u64 0), .v (.int .u64 0), .v (.int .u64 0), .v (.int .u64 0), .v (.int .u64 0), .v (.int .u64 0), .v (.int .u64 0), .v (.int .u64 0), .v (.slice none 0 0)] 0 (nat4 N)) 4 (nat4 G)).length = 9 := rfl
theorem gprfb {N G : Nat} {s : SV} : (setAt (setAt [.v (.int .u64 0), .v (.int .u64 0), .v (.int .u64 0), .v (.int .u64 0), .v (.int .u64 0), .v (.int .u64 0), .v (.int .u64 0), .v (.int .u64 0), .v (.slice none 0 0)] 0 (nat4 N)) 4 (nat4 G)).set 8 s = prf N G s := rfl
theorem gren_prf {ρ : Nat → Nat} {N G : Nat} {s : SV} : TV.ren ρ (.agg (prf N G s)) = .agg (prf N G (s.ren ρ)) := rfl
theorem gsvren_sl {ρ : Nat → Nat} {j o n c : Nat} : SV.ren ρ (.sl j o n c) = .sl (ρ j) o n c := rfl
def zgfac1 : List SV := [.v (.int .u64 0), .v (.int .u64 0), .v (.int .u64 0), .v (.int .u64 0), .v (.int .i64 0)]
theorem zgfac1_len : zgfac1.length = 5 := by kernel_rfl
theorem ghzf1 : slice0 Tryz.prog 61 1 = some zgfac1 := by kernel_rfl
theorem gfac1_all {p0 : Nat} {e0 : Int} : setAt zgfac1 0 (fac p0 e0) = (fac p0 e0) := by kernel_rfl
def zgfac2 : List SV := [.v (.int .u64 0), .v (.int .u64 0), .v (.int .u64 0), .v (.int .u64 0), .v (.int .i64 0), .v (.int .u64 0), .v (.int .u64 0), .v (.int .u64 0), .v (.int .u64 0), .v (.int .i64 0)]
theorem zgfac2_len : zgfac2.length = 10 := by kernel_rfl
theorem ghzf2 : slice0 Tryz.prog 61 2 = some zgfac2 := by kernel_rfl
theorem gfac2_all {p0 : Nat} {e0 : Int} {p1 : Nat} {e1 : Int} : setAt (setAt zgfac2 0 (fac p0 e0)) 5 (fac p1 e1) = ((fac p0 e0) ++ (fac p1 e1)) := by kernel_rfl
def zgfac3 : List SV := [.v (.int .u64 0), .v (.int .u64 0), .v (.int .u64 0), .v (.int .u64 0), .v (.int .i64 0), .v (.int .u64 0), .v (.int .u64 0), .v (.int .u64 0), .v (.int .u64 0), .v (.int .i64 0), .v (.int .u64 0), .v (.int .u64 0), .v (.int .u64 0), .v (.int .u64 0), .v (.int .i64 0)]
theorem zgfac3_len : zgfac3.length = 15 := by kernel_rfl
theorem ghzf3 : slice0 Tryz.prog 61 3 = some zgfac3 := by kernel_rfl
theorem gfac3_all {p0 : Nat} {e0 : Int} {p1 : Nat} {e1 : Int} {p2 : Nat} {e2 : Int} : setAt (setAt (setAt zgfac3 0 (fac p0 e0)) 5 (fac p1 e1)) 10 (fac p2 e2) = ((fac p0 e0) ++ ((fac p1 e1) ++ (fac p2 e2))) := by kernel_rfl
def zgprf2 : List SV := [.v (.int .u64 0), .v (.int .u64 0), .v (.int .u64 0), .v (.int .u64 0), .v (.int .u64 0), .v (.int .u64 0), .v (.int .u64 0), .v (.int .u64 0), .v (.slice none 0 0), .v (.int .u64 0), .v (.int .u64 0), .v (.int .u64 0), .v (.int .u64 0), .v (.int .u64 0), .v (.int .u64 0), .v (.int .u64 0), .v (.int .u64 0), .v (.slice none 0 0)]
theorem zgprf2_len : zgprf2.length = 18 := by kernel_rfl
theorem ghzp2 : slice0 Tryz.prog 64 2 = some zgprf2 := by kernel_rfl
theorem gprf2_all {N0 G0 : Nat} {s0 : SV} {N1 G1 : Nat} {s1 : SV} : setAt (setAt zgprf2 0 (prf N0 G0 s0)) 9 (prf N1 G1 s1) = ((prf N0 G0 s0) ++ (prf N1 G1 s1)) := by kernel_rfl
def zgprf3 : List SV := [.v (.int .u64 0), .v (.int .u64 0), .v (.int .u64 0), .v (.int .u64 0), .v (.int .u64 0), .v (.int .u64 0), .v (.int .u64 0), .v (.int .u64 0), .v (.slice none 0 0), .v (.int .u64 0), .v (.int .u64 0), .v (.int .u64 0), .v (.int .u64 0), .v (.int .u64 0), .v (.int .u64 0), .v (.int .u64 0), .v (.int .u64 0), .v (.slice none 0 0), .v (.int .u64 0), .v (.int .u64 0), .v (.int .u64 0), .v (.int .u64 0), .v (.int .u64 0), .v (.int .u64 0), .v (.int .u64 0), .v (.int .u64 0), .v (.slice none 0 0)]
theorem zgprf3_len : zgprf3.length = 27 := by kernel_rfl
theorem ghzp3 : slice0 Tryz.prog 64 3 = some zgprf3 := by kernel_rfl
theorem gprf3_all {N0 G0 : Nat} {s0 : SV} {N1 G1 : Nat} {s1 : SV} {N2 G2 : Nat} {s2 : SV} : setAt (setAt (setAt zgprf3 0 (prf N0 G0 s0)) 9 (prf N1 G1 s1)) 18 (prf N2 G2 s2) = ((prf N0 G0 s0) ++ ((prf N1 G1 s1) ++ (prf N2 G2 s2))) := by kernel_rfl
def zgprf5 : List SV := [.v (.int .u64 0), .v (.int .u64 0), .v (.int .u64 0), .v (.int .u64 0), .v (.int .u64 0), .v (.int .u64 0), .v (.int .u64 0), .v (.int .u64 0), .v (.slice none 0 0), .v (.int .u64 0), .v (.int .u64 0), .v (.int .u64 0), .v (.int .u64 0), .v (.int .u64 0), .v (.int .u64 0), .v (.int .u64 0), .v (.int .u64 0), .v (.slice none 0 0), .v (.int .u64 0), .v (.int .u64 0), .v (.int .u64 0), .v (.int .u64 0), .v (.int .u64 0), .v (.int .u64 0), .v (.int .u64 0), .v (.int .u64 0), .v (.slice none 0 0), .v (.int .u64 0), .v (.int .u64 0), .v (.int .u64 0), .v (.int .u64 0), .v (.int .u64 0), .v (.int .u64 0), .v (.int .u64 0), .v (.int .u64 0), .v (.slice none 0 0), .v (.int .u64 0), .v (.int .u64 0), .v (.int .u64 0), .v (.int .u64 0), .v (.int .u64 0), .v (.int .u64 0), .v (.int .u64 0), .v (.int .u64 0), .v (.slice none 0 0)]
theorem zgprf5_len : zgprf5.length = 45 := by kernel_rfl
theorem ghzp5 : slice0 Tryz.prog 64 5 = some zgprf5 := by kernel_rfl
theorem gprf5_all {N0 G0 : Nat} {s0 : SV} {N1 G1 : Nat} {s1 : SV} {N2 G2 : Nat} {s2 : SV} {N3 G3 : Nat} {s3 : SV} {N4 G4 : Nat} {s4 : SV} : setAt (setAt (setAt (setAt (setAt zgprf5 0 (prf N0 G0 s0)) 9 (prf N1 G1 s1)) 18 (prf N2 G2 s2)) 27 (prf N3 G3 s3)) 36 (prf N4 G4 s4) = ((prf N0 G0 s0) ++ ((prf N1 G1 s1) ++ ((prf N2 G2 s2) ++ ((prf N3 G3 s3) ++ (prf N4 G4 s4))))) := by kernel_rfl
theorem gprmz3 {P Q G : Nat} : setAt (setAt (setAt [.v (.int .u64 0), .v (.int .u64 0), .v (.int .u64 0), .v (.int .u64 0), .v (.int .u64 0), .v (.int .u64 0), .v (.int .u64 0), .v (.int .u64 0), .v (.int .u64 0), .v (.int .u64 0), .v (.int .u64 0), .v (.int .u64 0)] 0 (nat4 P)) 4 (nat4 Q)) 8 (nat4 G) = prms P Q G := by kernel_rfl
def SmR (P Q : Nat) (v : TV) (H : Heap) : Prop := ∃ n, (1 ≤ n ∧ n ≤ 5) ∧ v = .tup [.agg (prms P Q 4), .s (.sl 0 0 n n)] ∧ Lies n Q H ∧ 0 < H.length
def trG8n7x10 : Tr := (.cons 9 (.cons 10 (.cons 11 .nil .nil) .nil) (.cons 10 (.cons 9 (.cons 11 .nil .nil) .nil) .nil))
def trG8n7x14 : Tr := (.cons 7 (.cons 8 (.cons 9 .nil .nil) .nil) (.cons 8 (.cons 7 (.cons 9 .nil .nil) .nil) .nil))
def trG8n7x20 : Tr := (.cons 6 (.cons 7 (.cons 8 .nil .nil) .nil) (.cons 7 (.cons 6 (.cons 8 .nil .nil) .nil) .nil))
theorem small_g0 (z : Int) (hz1 : z ≠ 1) (hz2 : z ≠ 2) (hz3 : z ≠ 3) : NewG Tryz.prog 7 [.s (.v (.int .i64 z))] (fun _ => True) (SmR 23 11) := by
  refine newG_of Tryz.func7 rfl (by simp only [List.length_cons, List.length_nil, List.map_cons, List.map_nil, List.nodup_cons, List.nodup_nil, List.mem_cons, Nat.reduceAdd, Nat.reduceEqDiff, or_false, not_false_eq_true, forall_eq_or_imp, forall_eq, or_self, Nat.reduceLT, Nat.reduceLeDiff, and_self, List.forall_mem_cons, List.not_mem_nil, false_implies, implies_true, and_true, true_and, vcOGb]) fun w _ => ?_
  simp only [List.length_cons, List.length_nil, Tryz.ntmps7, Nat.reduceAdd, Nat.reduceSub, List.replicate_succ, List.replicate_zero, List.cons_append, List.nil_append]
  have d1 : (z == 1) = false := beq_false_of_ne hz1
  have d2 : (z == 2) = false := beq_false_of_ne hz2
  have d3 : (z == 3) = false := beq_false_of_ne hz3
  (repeat' ((first | with_reducible (first | apply XR_cons | apply XR_consG | apply XR_nil | apply XM_cons | apply XM_consG | apply XM_nil | apply cF_pure2 (by assumption) | apply cM_pure2 (by assumption)) | with_reducible (first | apply gRS (by with_unfolding_all rfl) | apply gR (by with_unfolding_all rfl) | apply gS (by with_unfolding_all rfl) | apply X_condX (c := .tmp 98) | apply X_seqX (x := .cond (.tmp 98) _ _) | apply X_condX (c := .tmp 73) | apply X_seqX (x := .cond (.tmp 73) _ _) | apply X_condX (c := .tmp 30) | apply X_seqX (x := .cond (.tmp 30) _ _) | fail) | (with_reducible apply X_drawM (id := 10) 9 [0] trG8n7x10; (next => (kernel_rfl)); (next => (kernel_rfl))) | (with_reducible apply X_drawM (id := 14) 7 [0] trG8n7x14; (next => (kernel_rfl)); (next => (kernel_rfl))) | (with_reducible apply X_drawM (id := 18) 7 [0] trG8n7x14; (next => (kernel_rfl)); (next => (kernel_rfl))) | (with_reducible apply X_drawM (id := 20) 6 [0] trG8n7x20; (next => (kernel_rfl)); (next => (kernel_rfl))) | refine X_of _ ?_ | with_reducible (first | exact ⟨_, rfl⟩ | refine And.intro ?_ ?_ | intro _)) <;> try simp -implicitDefEqProofs (maxSteps := 1000000) (disch := first | exact dz2 | fail) only [vcR, vcT, simprocAttr, Ab.part, implies_true, forall_const, vcS, vcXGb, Tryz.f7, xAtM_bs,st_bs,xbs_some,prf_splice,fac_splice,prms_splice,setAt_len,gfacb_len,gfacb,gprfb_len,gprfb_len2,gprfb,gren_prf,gsvren_sl,zgfac1_len,ghzf1,gfac1_all,zgfac2_len,ghzf2,gfac2_all,zgfac3_len,ghzf3,gfac3_all,zgprf2_len,ghzp2,gprf2_all,zgprf3_len,ghzp3,gprf3_all,zgprf5_len,ghzp5,gprf5_all,gprmz3,d1,d2,d3, trG8n7x10, trG8n7x14, trG8n7x20]))
  exact ⟨[8, 4, 6], _, heapS 64 61 sp0, ⟨2, by decide, rfl, smL0, by decide⟩, by decide, by kernel_rfl, sm_okk (by decide), ⟨by kernel_rfl, by kernel_rfl, by kernel_rfl, trivial⟩, heapS_ok⟩
theorem small_g1  : NewG Tryz.prog 7 [.s (.v (.int .i64 1))] (fun _ => True) (SmR 2039 1019) := by
  refine newG_of Tryz.func7 rfl (by simp only [List.length_cons, List.length_nil, List.map_cons, List.map_nil, List.nodup_cons, List.nodup_nil, List.mem_cons, Nat.reduceAdd, Nat.reduceEqDiff, or_false, not_false_eq_true, forall_eq_or_imp, forall_eq, or_self, Nat.reduceLT, Nat.reduceLeDiff, and_self, List.forall_mem_cons, List.not_mem_nil, false_implies, implies_true, and_true, true_and, vcOGb]) fun w _ => ?_
  simp only [List.length_cons, List.length_nil, Tryz.ntmps7, Nat.reduceAdd, Nat.reduceSub, List.replicate_succ, List.replicate_zero, List.cons_append, List.nil_append]
  (repeat' ((first | with_reducible (first | apply XR_cons | apply XR_consG | apply XR_nil | apply XM_cons | apply XM_consG | apply XM_nil | apply cF_pure2 (by assumption) | apply cM_pure2 (by assumption)) | with_reducible (first | apply gRS (by with_unfolding_all rfl) | apply gR (by with_unfolding_all rfl) | apply gS (by with_unfolding_all rfl) | apply X_condX (c := .tmp 98) | apply X_seqX (x := .cond (.tmp 98) _ _) | apply X_condX (c := .tmp 73) | apply X_seqX (x := .cond (.tmp 73) _ _) | apply X_condX (c := .tmp 30) | apply X_seqX (x := .cond (.tmp 30) _ _) | fail) | (with_reducible apply X_drawM (id := 10) 9 [0] trG8n7x10; (next => (kernel_rfl)); (next => (kernel_rfl))) | (with_reducible apply X_drawM (id := 14) 7 [0] trG8n7x14; (next => (kernel_rfl)); (next => (kernel_rfl))) | (with_reducible apply X_drawM (id := 18) 7 [0] trG8n7x14; (next => (kernel_rfl)); (next => (kernel_rfl))) | (with_reducible apply X_drawM (id := 20) 6 [0] trG8n7x20; (next => (kernel_rfl)); (next => (kernel_rfl))) | refine X_of _ ?_ | with_reducible (first | exact ⟨_, rfl⟩ | refine And.intro ?_ ?_ | intro _)) <;> try simp -implicitDefEqProofs (maxSteps := 1000000) (disch := first | exact dz2 | fail) only [vcR, vcT, simprocAttr, Ab.part, implies_true, forall_const, vcS, vcXGb, Tryz.f7, xAtM_bs,st_bs,xbs_some,prf_splice,fac_splice,prms_splice,setAt_len,gfacb_len,gfacb,gprfb_len,gprfb_len2,gprfb,gren_prf,gsvren_sl,zgfac1_len,ghzf1,gfac1_all,zgfac2_len,ghzf2,gfac2_all,zgfac3_len,ghzf3,gfac3_all,zgprf2_len,ghzp2,gprf2_all,zgprf3_len,ghzp3,gprf3_all,zgprf5_len,ghzp5,gprf5_all,gprmz3, trG8n7x10, trG8n7x14, trG8n7x20]))
  exact ⟨[14, 2, 10, 8, 6, 12], _, heapS 64 61 sp1, ⟨5, by decide, rfl, smL1, by decide⟩, by decide, by kernel_rfl, sm_okk (by decide), ⟨by kernel_rfl, by kernel_rfl, by kernel_rfl, by kernel_rfl, by kernel_rfl, by kernel_rfl, trivial⟩, heapS_ok⟩
theorem small_g2  : NewG Tryz.prog 7 [.s (.v (.int .i64 2))] (fun _ => True) (SmR 167 83) := by
  refine newG_of Tryz.func7 rfl (by simp only [List.length_cons, List.length_nil, List.map_cons, List.map_nil, List.nodup_cons, List.nodup_nil, List.mem_cons, Nat.reduceAdd, Nat.reduceEqDiff, or_false, not_false_eq_true, forall_eq_or_imp, forall_eq, or_self, Nat.reduceLT, Nat.reduceLeDiff, and_self, List.forall_mem_cons, List.not_mem_nil, false_implies, implies_true, and_true, true_and, vcOGb]) fun w _ => ?_
  simp only [List.length_cons, List.length_nil, Tryz.ntmps7, Nat.reduceAdd, Nat.reduceSub, List.replicate_succ, List.replicate_zero, List.cons_append, List.nil_append]
  (repeat' ((first | with_reducible (first | apply XR_cons | apply XR_consG | apply XR_nil | apply XM_cons | apply XM_consG | apply XM_nil | apply cF_pure2 (by assumption) | apply cM_pure2 (by assumption)) | with_reducible (first | apply gRS (by with_unfolding_all rfl) | apply gR (by with_unfolding_all rfl) | apply gS (by with_unfolding_all rfl) | apply X_condX (c := .tmp 98) | apply X_seqX (x := .cond (.tmp 98) _ _) | apply X_condX (c := .tmp 73) | apply X_seqX (x := .cond (.tmp 73) _ _) | apply X_condX (c := .tmp 30) | apply X_seqX (x := .cond (.tmp 30) _ _) | fail) | (with_reducible apply X_drawM (id := 10) 9 [0] trG8n7x10; (next => (kernel_rfl)); (next => (kernel_rfl))) | (with_reducible apply X_drawM (id := 14) 7 [0] trG8n7x14; (next => (kernel_rfl)); (next => (kernel_rfl))) | (with_reducible apply X_drawM (id := 18) 7 [0] trG8n7x14; (next => (kernel_rfl)); (next => (kernel_rfl))) | (with_reducible apply X_drawM (id := 20) 6 [0] trG8n7x20; (next => (kernel_rfl)); (next => (kernel_rfl))) | refine X_of _ ?_ | with_reducible (first | exact ⟨_, rfl⟩ | refine And.intro ?_ ?_ | intro _)) <;> try simp -implicitDefEqProofs (maxSteps := 1000000) (disch := first | exact dz2 | fail) only [vcR, vcT, simprocAttr, Ab.part, implies_true, forall_const, vcS, vcXGb, Tryz.f7, xAtM_bs,st_bs,xbs_some,prf_splice,fac_splice,prms_splice,setAt_len,gfacb_len,gfacb,gprfb_len,gprfb_len2,gprfb,gren_prf,gsvren_sl,zgfac1_len,ghzf1,gfac1_all,zgfac2_len,ghzf2,gfac2_all,zgfac3_len,ghzf3,gfac3_all,zgprf2_len,ghzp2,gprf2_all,zgprf3_len,ghzp3,gprf3_all,zgprf5_len,ghzp5,gprf5_all,gprmz3, trG8n7x10, trG8n7x14, trG8n7x20]))
  exact ⟨[10, 4, 6, 8], _, heapS 64 61 sp2, ⟨3, by decide, rfl, smL2, by decide⟩, by decide, by kernel_rfl, sm_okk (by decide), ⟨by kernel_rfl, by kernel_rfl, by kernel_rfl, by kernel_rfl, trivial⟩, heapS_ok⟩
theorem small_g3  : NewG Tryz.prog 7 [.s (.v (.int .i64 3))] (fun _ => True) (SmR 107 53) := by
  refine newG_of Tryz.func7 rfl (by simp only [List.length_cons, List.length_nil, List.map_cons, List.map_nil, List.nodup_cons, List.nodup_nil, List.mem_cons, Nat.reduceAdd, Nat.reduceEqDiff, or_false, not_false_eq_true, forall_eq_or_imp, forall_eq, or_self, Nat.reduceLT, Nat.reduceLeDiff, and_self, List.forall_mem_cons, List.not_mem_nil, false_implies, implies_true, and_true, true_and, vcOGb]) fun w _ => ?_
  simp only [List.length_cons, List.length_nil, Tryz.ntmps7, Nat.reduceAdd, Nat.reduceSub, List.replicate_succ, List.replicate_zero, List.cons_append, List.nil_append]
  (repeat' ((first | with_reducible (first | apply XR_cons | apply XR_consG | apply XR_nil | apply XM_cons | apply XM_consG | apply XM_nil | apply cF_pure2 (by assumption) | apply cM_pure2 (by assumption)) | with_reducible (first | apply gRS (by with_unfolding_all rfl) | apply gR (by with_unfolding_all rfl) | apply gS (by with_unfolding_all rfl) | apply X_condX (c := .tmp 98) | apply X_seqX (x := .cond (.tmp 98) _ _) | apply X_condX (c := .tmp 73) | apply X_seqX (x := .cond (.tmp 73) _ _) | apply X_condX (c := .tmp 30) | apply X_seqX (x := .cond (.tmp 30) _ _) | fail) | (with_reducible apply X_drawM (id := 10) 9 [0] trG8n7x10; (next => (kernel_rfl)); (next => (kernel_rfl))) | (with_reducible apply X_drawM (id := 14) 7 [0] trG8n7x14; (next => (kernel_rfl)); (next => (kernel_rfl))) | (with_reducible apply X_drawM (id := 18) 7 [0] trG8n7x14; (next => (kernel_rfl)); (next => (kernel_rfl))) | (with_reducible apply X_drawM (id := 20) 6 [0] trG8n7x20; (next => (kernel_rfl)); (next => (kernel_rfl))) | refine X_of _ ?_ | with_reducible (first | exact ⟨_, rfl⟩ | refine And.intro ?_ ?_ | intro _)) <;> try simp -implicitDefEqProofs (maxSteps := 1000000) (disch := first | exact dz2 | fail) only [vcR, vcT, simprocAttr, Ab.part, implies_true, forall_const, vcS, vcXGb, Tryz.f7, xAtM_bs,st_bs,xbs_some,prf_splice,fac_splice,prms_splice,setAt_len,gfacb_len,gfacb,gprfb_len,gprfb_len2,gprfb,gren_prf,gsvren_sl,zgfac1_len,ghzf1,gfac1_all,zgfac2_len,ghzf2,gfac2_all,zgfac3_len,ghzf3,gfac3_all,zgprf2_len,ghzp2,gprf2_all,zgprf3_len,ghzp3,gprf3_all,zgprf5_len,ghzp5,gprf5_all,gprmz3, trG8n7x10, trG8n7x14, trG8n7x20]))
  exact ⟨[10, 2, 6, 8], _, heapS 64 61 sp3, ⟨3, by decide, rfl, smL3, by decide⟩, by decide, by kernel_rfl, sm_okk (by decide), ⟨by kernel_rfl, by kernel_rfl, by kernel_rfl, by kernel_rfl, trivial⟩, heapS_ok⟩
theorem small_g (z : Int) : NewG Tryz.prog 7 [.s (.v (.int .i64 z))] (fun _ => True) (SmR (smP z) (smQ z)) := by
  unfold smP smQ
  split
  · rename_i h; subst h; exact small_g1
  · split
    · rename_i h; subst h; exact small_g2
    · split
      · rename_i h; subst h; exact small_g3
      · exact small_g0 z (by assumption) (by assumption) (by assumption)
end Go.Proofs.YtdmcknmjdlghgaaGreatDoor
namespace Go.Ab
open Go Go.RowKit
set_option linter.unusedSimpArgs false
set_option linter.unusedVariables false
def intV (s : Int) : Value := .int .i64 s
structure MapTyI (P : Program) (mt kt et : TypeId) : Prop where
  m : P.underlying mt = some (.map kt et)
  k : P.underlying kt = some (.int .i64)
  kk : P.keyTypeAt 9 kt = true
def IMap (b : Nat) (ks : List Int) (w : World) : Prop := ∃ es c, w.heap[b]? = some (.map es c) ∧ es.toList.map (fun e => e.key) = ks.map intV
section
variable {P : Program} {mt kt et : TypeId} {w : World} {s : Int}
theorem MapTyI.lits (M : MapTyI P mt kt et) (h1 : -9223372036854775808 ≤ s) (h2 : s ≤ 9223372036854775807) : P.keyLits 9 kt (intV s).cells.toList = some [.int .i64 s] := by
  show P.keyLits (8 + 1) kt [.int .i64 s] = _
  have hw : (Lit.int .i64 s).wf = true := by
    have e1 : IntKind.i64.min = -9223372036854775808 := rfl
    have e2 : IntKind.i64.max = 9223372036854775807 := rfl
    simp only [Lit.wf, e1, e2, Bool.and_eq_true, decide_eq_true_iff]
    omega
  unfold Program.keyLits
  simp only [M.k, hw, and_self, if_true]
theorem MapTyI.formed (M : MapTyI P mt kt et) : (intV s).formed P kt = true := by
  show Value.formed P kt (.int .i64 s) = true
  unfold Value.formed
  simp only [M.k]
theorem find_int (s : Int) : ∀ (l : List MapEntry) (i : Nat), (∀ e ∈ l, ∃ t, e.key = intV t) →
    (Instr.findNow (.int .i64) (intV s) l i = some none ∧ ∀ e ∈ l, e.key ≠ intV s) ∨ ∃ j e, Instr.findNow (.int .i64) (intV s) l i = some (some (i + j, e.val)) ∧ l[j]? = some e ∧ e.key = intV s
  | [], i, _ => .inl ⟨rfl, by simp⟩
  | e :: es, i, h => by
    obtain ⟨t, ht⟩ := h e (.head _)
    by_cases hst : s = t
    · subst hst
      exact .inr ⟨0, e, by simp [Instr.findNow, ht, intV, Instr.sameNow], rfl, ht⟩
    · have hne : e.key ≠ intV s := fun q => hst (by
        rw [ht] at q
        injection q with _ q
        exact q.symm)
      have hs : Instr.sameNow (.int .i64) (intV s) e.key = some false := by simp [ht, intV, Instr.sameNow, hst]
      rcases find_int s es (i + 1) (fun x hx => h x (.tail _ hx)) with ⟨h1, h2⟩ | ⟨j, e', h1, h2, h3⟩
      · exact .inl ⟨by simp only [Instr.findNow, hs, h1], fun x hx => by
          cases hx with
          | head => exact hne
          | tail _ hx => exact h2 x hx⟩
      · exact .inr ⟨j + 1, e', by simp only [Instr.findNow, hs, h1]; congr 3; omega, by simpa using h2, h3⟩
theorem run_findKey_int (M : MapTyI P mt kt et) {l : List MapEntry} {r : Option (Nat × Value)} (h : Instr.findNow (.int .i64) (intV s) l 0 = some r) (w : World) : (Instr.findKey kt (intV s) l).run P w = .ok r w := by
  simp [Instr.findKey, run_underlying M.k, h, Result.andThen]
theorem run_checkKey_int (M : MapTyI P mt kt et) (h1 : -9223372036854775808 ≤ s) (h2 : s ≤ 9223372036854775807) (em : Bool) (w : World) : (Instr.checkKey em 10000 kt (intV s)).run P w = .ok () w :=
  run_checkKey_deep em 9991 9 kt M.kk w 9 (intV s) _ M.formed (M.lits h1 h2)
theorem run_keyStays_int (w : World) : (Instr.keyThatStays (intV s) (intV s)).run P w = .ok (intV s) w := by
  have h : Instr.sameBits 10000 (intV s) (intV s) = true := by
    show Instr.sameBits (9999 + 1) (.int .i64 s) (.int .i64 s) = true
    simp [Instr.sameBits]
  simp [Instr.keyThatStays, h]
def insI (ks : List Int) (s : Int) : List Int := if s ∈ ks then ks else ks ++ [s]
theorem run_updI (M : MapTyI P mt kt et) (h1 : -9223372036854775808 ≤ s) (h2 : s ≤ 9223372036854775807) {b : Nat} {ks : List Int} {v : Value} (h : IMap b ks w) : ∃ w', (Instr.mapUpdate mt (.map (some b)) (intV s) v).run P w = .ok () w' ∧ IMap b (insI ks s) w' ∧
    w'.os = w.os ∧ w'.tape = w.tape ∧ w'.output = w.output ∧ w'.heap.size = w.heap.size ∧ ∀ k, k ≠ b → w'.heap[k]? = w.heap[k]? := by
  obtain ⟨es, c, hb, hp⟩ := h
  have hall : ∀ e ∈ es.toList, ∃ t, e.key = intV t := fun e he => by
    have h3 : e.key ∈ ks.map intV := by rw [← hp]; exact List.mem_map.2 ⟨e, he, rfl⟩
    obtain ⟨t, _, ht⟩ := List.mem_map.1 h3
    exact ⟨t, ht.symm⟩
  rcases find_int s es.toList 0 hall with ⟨hf, hno⟩ | ⟨j, e, hf, hj, hk⟩
  · have hns : s ∉ ks := fun hs => by
      have h3 : intV s ∈ es.toList.map (fun e => e.key) := by rw [hp]; exact List.mem_map.2 ⟨s, hs, rfl⟩
      obtain ⟨e, he, hk⟩ := List.mem_map.1 h3
      exact hno e he hk
    refine ⟨{ w with heap := w.heap.setIfInBounds b (.map (es.push { key := intV s, val := v, born := c }) (c + 1)) }, ?_, ⟨_, _, (heapSet hb).1, ?_⟩, rfl, rfl, rfl, by simp, fun k hk => (heapSet hb).2 k hk⟩
    · simp [Instr.mapUpdate, run_underlying M.m, MapKept.run_getObj_map hb, run_checkKey_int M h1 h2, run_findKey_int M hf, MapKept.run_setObj_map _ hb, Result.andThen]
    · unfold insI
      rw [if_neg hns, Array.toList_push, List.map_append, List.map_append, hp]
      rfl
  · have hss : s ∈ ks := by
      have h3 : e.key ∈ ks.map intV := by rw [← hp]; exact List.mem_map.2 ⟨e, List.mem_of_getElem? hj, rfl⟩
      obtain ⟨t, ht, hte⟩ := List.mem_map.1 h3
      rw [hk] at hte
      injection hte with _ hte
      rwa [← hte]
    have hj' : es[j]? = some e := by simpa using hj
    refine ⟨{ w with heap := w.heap.setIfInBounds b (.map (es.modify j fun e => { e with key := intV s, val := v }) c) }, ?_, ⟨_, _, (heapSet hb).1, ?_⟩, rfl, rfl, rfl, by simp, fun k hk => (heapSet hb).2 k hk⟩
    · simp [Instr.mapUpdate, run_underlying M.m, MapKept.run_getObj_map hb, run_checkKey_int M h1 h2, run_findKey_int M hf, hj', hk, run_keyStays_int, MapKept.run_setObj_map _ hb, Result.andThen]
    · unfold insI
      rw [if_pos hss, ← hp]
      apply List.ext_getElem?
      intro i
      rw [List.getElem?_map, List.getElem?_map, Array.getElem?_toList, Array.getElem?_toList, Array.getElem?_modify]
      split
      · rename_i hji
        subst hji
        rw [hj']
        simp [hk]
      · rfl
theorem run_lenI (M : MapTyI P mt kt et) {b : Nat} {ks : List Int} {ty : TypeId} (h : IMap b ks w) : (Builtin.len_ #[mt] ty #[.map (some b)]).run P w = .ok (.int .i64 (ks.length : Int)) w := by
  obtain ⟨es, c, hb, hp⟩ := h
  have hl : es.size = ks.length := by
    have h1 := congrArg List.length hp
    simpa using h1
  simp [Builtin.len_, run_underlying M.m, MapKept.run_getObj_map hb, goInt, hl, Result.andThen]
end
theorem steady_imap (b : Nat) (ks : List Int) : Steady (IMap b ks) := by
  rintro Γ V B L H β w w' hR hlt ⟨es, c, hb, hp⟩ h
  refine ⟨es, c, ?_, hp⟩
  rcases h.2.2.2.2 b (Array.getElem?_eq_some_iff.1 hb).1 with ⟨i, hi, hbi⟩ | h1 | ⟨_, o, o', h2, _, h4⟩
  · have h5 := hR.blk β (.refl _ _) i (H[i]'(hlt i hi)) (List.getElem?_eq_getElem (hlt i hi))
    rw [← hbi, hb] at h5
    cases h5
  · exact h1.trans hb
  · have h2' : w.heap[b]? = some o := h2
    rw [hb] at h2'
    injection h2' with h2'
    obtain ⟨c', t', f', he, _⟩ := V.ofE _ _ h4
    rw [← h2'] at he
    cases he
def loopTA {ι : Type} (T : List TV) (n : Nat) (V : ι → Prop) (μ : ι → Nat) (js : List Nat) (sv : ι → List (Nat × TV)) (Hs : ι → Heap) (AA : ι → World → Prop) (i : ι) (Q : QA) : QA :=
  seqA (fun T' H' A' => ∃ i', μ i' < μ i ∧ AgainT T n V js sv Hs T' H' i' ∧ A' = AA i') Q
theorem XA_loopT {Γ : Ctx} {A : World → Prop} {c : Code} {T : List TV} {H : Heap} {Q : QA} {ι : Type} (V : ι → Prop) (μ : ι → Nat) (js : List Nat) (sv : ι → List (Nat × TV)) (Hs : ι → Heap) (AA : ι → World → Prop) (i0 : ι)
    (hsh : ShapeT V H.length sv Hs) (hnj : js.Nodup) (h0 : AgainT T H.length V js sv Hs T H i0) (hA0 : A = AA i0)
    (hr : ∀ i us, V i → XA Γ (AA i) c (setMany (setMany T (junk us js)) (sv i)) (Hs i) (loopTA T H.length V μ js sv Hs AA i Q)) : XA Γ A (.loop c) T H Q := by
  subst hA0
  intro a w hs hA
  obtain ⟨oT, oH, on⟩ := hs.oks
  refine wp_loop_ghost (fun n a w => ∃ i us, V i ∧ μ i = n ∧ St Γ (setMany (setMany T (junk us js)) (sv i)) (Hs i) a w ∧ AA i w) (μ i0) ?_ ?_
  · obtain ⟨us, h⟩ := hs.againT hsh hnj oT on h0
    exact ⟨i0, us, h0.1, rfl, h, hA⟩
  · rintro n a w ⟨i, us, hV, rfl, hs', hA'⟩
    refine wp_mono (hr i us hV a w hs' hA') fun e a' w' ⟨T', H', A', hq, hs'', hA''⟩ => ?_
    cases e with
    | normal =>
      obtain ⟨i', hlt, hag, rfl⟩ := hq
      obtain ⟨us', h⟩ := hs''.againT hsh hnj oT on hag
      exact ⟨μ i', hlt, i', us', hag.1, rfl, h, hA''⟩
    | _ => exact ⟨T', H', A', hq, hs'', hA''⟩
section
variable {Γ : Ctx} {A : World → Prop} {H : Heap} {T : List TV} {ops : Array Oper} {K : KA} {dst : Option Tmp} {op : Op} {ty : TypeId} {pos : String} {af : Array Edge} {r : List Oper}
theorem XAR_mkI {t : TypeId} (h : ∀ b, Γ.W.heap.size ≤ b → XAR Γ (IMap b []) ops r (putT T dst (.s (.v (.map (some b))))) H K) :
    XAR Γ A ops (⟨dst, .makeMap t none, ty, pos, af, none⟩ :: r) T H K := by
  rw [XAR_def]
  intro Q a w hs hA hK
  obtain ⟨β, hT, hR, hd⟩ := hs
  have hput : ∀ u, (a.put dst u).defers = [] := fun u => by cases dst <;> exact hd
  have hwant : Region.wanted (⟨dst, .makeMap t none, ty, pos, af, none⟩ : Oper) (yielded ops a.tmps) = true := by simp [Region.wanted]
  simp only [wpList, hwant, if_true]
  left
  have hrun : (execOp a.eval (⟨dst, .makeMap t none, ty, pos, af, none⟩ : Oper)).run Γ.P w = .ok (.value (.map (some w.heap.size))) (w.alloc (.map #[] 0)) := by
    simp [execOp, run_makeMap]
  unfold Oper.wp
  rw [hrun]
  have hX := h w.heap.size hR.fr.size
  rw [XAR_def] at hX
  exact hX Q _ _ ⟨β, hT.put (Nat.le_refl _) (.refl _ _) (fun _ _ => rfl), hR.ext (Ext.alloc _ _ _ _), hput _⟩ ⟨#[], 0, (MapKept.heap_alloc w _).1, rfl⟩ hK
theorem XAR_putI {b : Nat} {ks : List Int} {s : Int} {mt kt et : TypeId} {m k x : Operand} (M : MapTyI Γ.P mt kt et) (hop : op = .mapUpdate mt m k x ∨ op = .insert mt m k x) (hbW : Γ.W.heap.size ≤ b) (h1 : -9223372036854775808 ≤ s) (h2 : s ≤ 9223372036854775807)
    (hm : ev T m = .s (.v (.map (some b)))) (hk : ev T k = .s (.v (.int .i64 s))) (h : XAR Γ (IMap b (insI ks s)) ops r (putT T dst undefT) H K) :
    XAR Γ (IMap b ks) ops (⟨dst, op, ty, pos, af, none⟩ :: r) T H K := by
  rw [XAR_def] at h ⊢
  intro Q a w hs hA hK
  obtain ⟨β, hT, hR, hd⟩ := hs
  have hput : ∀ u, (a.put dst u).defers = [] := fun u => by cases dst <;> exact hd
  have hwant : Region.wanted (⟨dst, op, ty, pos, af, none⟩ : Oper) (yielded ops a.tmps) = true := by simp [Region.wanted]
  simp only [wpList, hwant, if_true]
  left
  obtain ⟨w', hrun, hA', hos, htape, hout, hsz, hsame⟩ := run_updI M h1 h2 (v := a.eval x) hA
  have hev := eval_ev (a := a) (hT β (.refl _ _))
  have e1 : a.eval m = .map (some b) := by rw [hev, hm]; rfl
  have e2 : a.eval k = intV s := by rw [hev, hk]; rfl
  have hex : (execOp a.eval (⟨dst, op, ty, pos, af, none⟩ : Oper)).run Γ.P w = .ok .skip w' := by
    rcases hop with rfl | rfl <;> simp [execOp, e1, e2, hrun, Result.andThen]
  unfold Oper.wp
  rw [hex]
  have hmap : ∃ es c, w.heap[b]? = some (.map es c) := by obtain ⟨es, c, h1, _⟩ := hA; exact ⟨es, c, h1⟩
  obtain ⟨es, c, hes⟩ := hmap
  have hR' : Rep Γ H β w' := by
    refine ⟨hR.anc, ⟨hos.trans hR.fr.os, htape.trans hR.fr.tape, hout.trans hR.fr.output, by rw [hsz]; exact hR.fr.size, fun k hk => ?_⟩, hR.inj, hR.lie, hR.typ, fun β' h' j bb hbb => ?_⟩
    · have hkb : k ≠ b := by omega
      refine (hR.fr.blk k hk).imp id fun h1 => ?_
      exact h1.trans (.inl (hsame k hkb))
    · have h3 := hR.blk β' h' j bb hbb
      rw [hsame]
      · exact h3
      · intro hj
        rw [hj, hes] at h3
        cases h3
  exact h Q _ _ ⟨β, hT.put (Nat.le_refl _) (.refl _ _) (fun _ _ => rfl), hR', hput _⟩ hA' hK
theorem XAR_lenI {b : Nat} {ks : List Int} {mt kt et : TypeId} {m : Operand} (M : MapTyI Γ.P mt kt et) (hm : ev T m = .s (.v (.map (some b)))) (h : XAR Γ (IMap b ks) ops r (putT T dst (.s (.v (.int .i64 (ks.length : Int))))) H K) :
    XAR Γ (IMap b ks) ops (⟨dst, .call ⟨.builtin .len, #[m], #[mt]⟩, ty, pos, af, none⟩ :: r) T H K := by
  rw [XAR_def] at h ⊢
  intro Q a w hs hA hK
  obtain ⟨β, hT, hR, hd⟩ := hs
  have hput : ∀ u, (a.put dst u).defers = [] := fun u => by cases dst <;> exact hd
  have hwant : Region.wanted (⟨dst, .call ⟨.builtin .len, #[m], #[mt]⟩, ty, pos, af, none⟩ : Oper) (yielded ops a.tmps) = true := by simp [Region.wanted]
  simp only [wpList, hwant, if_true]
  left
  have hev := eval_ev (a := a) (hT β (.refl _ _))
  have e1 : a.eval m = .map (some b) := by rw [hev, hm]; rfl
  have hrun := run_lenI (ty := ty) M hA
  unfold Oper.wp execOp
  simp only [resolve, invoke, builtin, Sem.run_bind, Sem.run_pure, Result.andThen_ok, List.map_toArray, List.map_cons, List.map_nil, e1, hrun]
  exact h Q _ _ ⟨β, hT.put (Nat.le_refl _) (.refl _ _) (fun _ _ => rfl), hR, hput _⟩ hA hK
end
def xclip (slc : Option TypeId) (x hi mx : TV) (K : TV → Prop) : Prop :=
  match slc, hi, mx with
  | some _, .s (.v (.int _ h)), .s (.v (.int _ m)) =>
    match x with
    | .s (.sl j off len cap) => (h = (len : Int) ∧ m = (len : Int) ∧ len ≤ cap) ∧ K (.s (.sl j off len len))
    | .s (.v (.slice a len cap)) => (h = (len : Int) ∧ m = (len : Int) ∧ len ≤ cap) ∧ K (.s (.v (.slice a len len)))
    | _ => False
  | _, _, _ => False
theorem xclip_v {e : TypeId} {a : Option Addr} {len cap : Nat} {k k' : IntKind} {h m : Int} {K : TV → Prop} : xclip (some e) (.s (.v (.slice a len cap))) (.s (.v (.int k h))) (.s (.v (.int k' m))) K = ((h = (len : Int) ∧ m = (len : Int) ∧ len ≤ cap) ∧ K (.s (.v (.slice a len len)))) := rfl
@[congr] theorem xclip_congr {slc slc' : Option TypeId} {x x' hi hi' mx mx' : TV} {K : TV → Prop} (h1 : slc = slc') (h2 : x = x') (h3 : hi = hi') (h4 : mx = mx') : xclip slc x hi mx K = xclip slc' x' hi' mx' K := by rw [h1, h2, h3, h4]
theorem run_clip {P : Program} {len cap : Nat} {k k' : IntKind} {w : World} (h : len ≤ cap) :
    (Instr.sliceBounds true len cap none (some (.int k (len : Int))) (some (.int k' (len : Int)))).run P w = .ok (0, len, len) w := by
  have hsb : ∀ (k : IntKind) (n m : Nat) (code : BoundsCode), n ≤ m → (Instr.sliceBound (.int k (n : Int)) m code).run P w = .ok n w := fun k n m code hnm => by
    unfold Instr.sliceBound
    simp [asIntOf, hnm]
  unfold Instr.sliceBounds
  simp [hsb _ _ _ _ h, hsb _ _ _ _ (Nat.le_refl len)]
theorem addr_add0 (a : Addr) : a.add 0 = a := by cases a; simp [Addr.add]
section
variable {Γ : Ctx} {ops : Array Oper} {H : Heap} {T : List TV} {dst : Option Tmp} {ty : TypeId} {pos : String} {af : Array Edge} {r : List Oper}
theorem XR_clip {K : List TV → Heap → Prop} {t : TypeId} {x hi mx : Operand} (h : xclip (slcOf Γ.P t) (ev T x) (ev T hi) (ev T mx) fun v => XR Γ ops r (putT T dst v) H K) :
    XR Γ ops (⟨dst, .slice t x none (some hi) (some mx), ty, pos, af, none⟩ :: r) T H K := by
  unfold xclip at h
  split at h
  · rename_i e k hh k' m hs hhi hmx
    obtain ⟨hu, i, hi'⟩ := slcOf_spec hs
    split at h
    · rename_i j off len cap hx
      obtain ⟨⟨rfl, rfl, hc⟩, hK⟩ := h
      refine XR_law (v := .s (.sl j off len len)) ?_ hK
      intro o β ρ w ho hρ hR
      have hb := run_clip (P := Γ.P) (k := k) (k' := k') (w := w) hc
      simp only [Does, execOp, ho, hρ, hx, hhi, hmx, conc_v, conc_sl, Instr.sliceAt, Instr.slice, Sem.run_bind, run_underlying hu, Result.andThen_ok, Sem.run_pure, Option.map_none, Option.map_some]
      simp only [hb, Result.andThen_ok, sizeOf, typeInfo, Sem.run_bind, run_program, hi', Sem.run_pure]
      by_cases hl : len = 0
      · simp [hl]
      · simp [hl, Addr.add_mid]
    · rename_i a len cap hx
      obtain ⟨⟨rfl, rfl, hc⟩, hK⟩ := h
      refine XR_law (v := .s (.v (.slice a len len))) ?_ hK
      intro o β ρ w ho hρ hR
      have hb := run_clip (P := Γ.P) (k := k) (k' := k') (w := w) hc
      simp only [Does, execOp, ho, hρ, hx, hhi, hmx, conc_v, conc_sl, Instr.sliceAt, Instr.slice, Sem.run_bind, run_underlying hu, Result.andThen_ok, Sem.run_pure, Option.map_none, Option.map_some]
      simp only [hb, Result.andThen_ok, sizeOf, typeInfo, Sem.run_bind, run_program, hi', Sem.run_pure]
      by_cases hl : len = 0
      · simp [hl]
      · cases a <;> simp [hl, addr_add0]
    · exact h.elim
  · exact h.elim
theorem xcall_thaw {Γ : Ctx} {H : Heap} {f : FuncId} {args : List TV} {r : TV} {K : TV → Heap → Prop} (hc : callable Γ.P f = true) (h : ∀ β, PureC Γ.P f (args.map (TV.fz [] β)) (r.fz [] β)) (hr : r.ok H.length) (hK : K r H) : xcallF Γ H f args K := by
  refine xcall_gen (fun r' H' => r' = r ∧ H' = H) hc ?_ fun r' H' ⟨h1, h2⟩ => by rw [h1, h2]; exact hK
  intro β w hR
  have e : args.map (TV.conc β) = (args.map (TV.fz [] β)).map (TV.conc fun _ => 0) := by
    rw [List.map_map]
    exact List.map_congr_left fun x _ => (TV.fz_conc (fun i j h => by simp at h) x).symm
  rw [e]
  refine (h β (fun _ => 0) w).mono ?_
  rintro e w' ⟨he, hb⟩
  refine ⟨r, H, β, ⟨rfl, rfl⟩, .refl _ _, Nat.le_refl _, hR.ext (Ext.of_below hb), fun β'' h'' => ?_⟩
  rw [he β'', TV.fz_conc (fun i j h => by simp at h) r, TV.conc_ok hr h'']
end
end Go.Ab
namespace Go.Proofs.YtdmcknmjdlghgaaGreatDoor
open Go Go.Ab
set_option linter.unusedSimpArgs false
set_option linter.unusedVariables false
set_option linter.defProp false
set_option maxRecDepth 100000
theorem clip_c (a : Option Addr) (n c : Nat) (hn : n < 9223372036854775808) (hc : n ≤ c) : PureC Tryz.prog 39 [.s (.v (.slice a n c))] (.s (.v (.slice a n n))) := by
  refine pureC_of Tryz.func39 rfl (by simp only [List.length_cons, List.length_nil, List.map_cons, List.map_nil, List.nodup_cons, List.nodup_nil, List.mem_cons, Nat.reduceAdd, Nat.reduceEqDiff, or_false, not_false_eq_true, forall_eq_or_imp, forall_eq, or_self, Nat.reduceLT, Nat.reduceLeDiff, and_self, List.forall_mem_cons, List.not_mem_nil, false_implies, implies_true, and_true, true_and, vcOHb]) (by simp only [List.length_cons, List.length_nil, List.map_cons, List.map_nil, List.nodup_cons, List.nodup_nil, List.mem_cons, Nat.reduceAdd, Nat.reduceEqDiff, or_false, not_false_eq_true, forall_eq_or_imp, forall_eq, or_self, Nat.reduceLT, Nat.reduceLeDiff, and_self, List.forall_mem_cons, List.not_mem_nil, false_implies, implies_true, and_true, true_and, vcOHb]) fun w => ?_
  simp only [List.length_cons, List.length_nil, Tryz.ntmps39, Nat.reduceAdd, Nat.reduceSub, List.replicate_succ, List.replicate_zero, List.cons_append, List.nil_append]
  (repeat' ((first | with_reducible (first | apply XR_clip | apply XR_slice | apply XR_cons | apply XR_consG | apply XR_nil | apply cF_pure3 (by assumption)) | with_reducible (first | apply gRS (by with_unfolding_all rfl) | apply gR (by with_unfolding_all rfl) | apply gS (by with_unfolding_all rfl) | fail) | refine X_of _ ?_ | with_reducible (first | exact ⟨_, rfl⟩ | refine And.intro ?_ ?_ | intro _)) <;> try simp -implicitDefEqProofs (maxSteps := 1000000) (disch := first | exact dz3 | fail) only [vcR, vcT, simprocAttr, Ab.part, implies_true, forall_const, vcS, vcXHb, Tryz.f39, xclip_v,hc]))
set_option maxHeartbeats 20000000
def alike (f g : Nat → Nat) : Nat → Bool
  | 0 => true
  | n + 1 => alike f g n && decide (f n = g n)
end Go.Proofs.YtdmcknmjdlghgaaGreatDoor
namespace Go.Ab
set_option linter.unusedSimpArgs false
set_option linter.unusedVariables false
section
variable {m : Nat} [NeZero m]
def pw (x : Fin m) : Nat → Fin m
  | 0 => 1
  | n + 1 => pw x n * x
def Wp (r : Nat → Nat → Fin m) (i : Nat) : List Nat → Fin m
  | [] => 1
  | k :: L => r i k * Wp r i L
def Ls (r : Nat → Nat → Fin m) : List Nat → (Nat → Fin m) → Fin m
  | [], _ => 0
  | i :: L, f => f i * Wp r i L + Ls r L fun k => f k * r k i
theorem Ls_congr {r : Nat → Nat → Fin m} : ∀ {L : List Nat} {f g : Nat → Fin m}, (∀ k ∈ L, f k = g k) → Ls r L f = Ls r L g
  | [], _, _, _ => rfl
  | i :: L, f, g, h => by
    show _ + _ = _ + _
    rw [h i (List.mem_cons_self ..), Ls_congr (L := L) (g := fun k => g k * r k i) fun k hk => by rw [h k (List.mem_cons_of_mem _ hk)]]
theorem Ls_add {r : Nat → Nat → Fin m} : ∀ {L : List Nat} {f g : Nat → Fin m}, Ls r L (fun k => f k + g k) = Ls r L f + Ls r L g
  | [], _, _ => by show (0 : Fin m) = 0 + 0; grind
  | i :: L, f, g => by
    have h := Ls_add (r := r) (L := L) (f := fun k => f k * r k i) (g := fun k => g k * r k i)
    have e : Ls r L (fun k => (f k + g k) * r k i) = Ls r L fun k => f k * r k i + g k * r k i := Ls_congr fun k _ => by grind
    show (f i + g i) * Wp r i L + Ls r L (fun k => (f k + g k) * r k i) = (f i * Wp r i L + Ls r L fun k => f k * r k i) + (g i * Wp r i L + Ls r L fun k => g k * r k i)
    rw [e, h]
    grind
theorem Ls_mul {r : Nat → Nat → Fin m} (a : Fin m) : ∀ {L : List Nat} {f : Nat → Fin m}, Ls r L (fun k => a * f k) = a * Ls r L f
  | [], _ => by show (0 : Fin m) = a * 0; grind
  | i :: L, f => by
    have h := Ls_mul (r := r) a (L := L) (f := fun k => f k * r k i)
    have e : Ls r L (fun k => (a * f k) * r k i) = Ls r L fun k => a * (f k * r k i) := Ls_congr fun k _ => by grind
    show (a * f i) * Wp r i L + Ls r L (fun k => (a * f k) * r k i) = a * (f i * Wp r i L + Ls r L fun k => f k * r k i)
    rw [e, h]
    grind
def Apart (X : Nat → Fin m) (v : Nat → Nat → Fin m) (L : List Nat) : Prop := L.Pairwise fun i k => (X k - X i) * v i k = 1 ∧ (X i - X k) * v k i = 1
variable {X : Nat → Fin m} {v : Nat → Nat → Fin m}
theorem Ls_one : ∀ (n : Nat) (L : List Nat), L.length = n + 1 → Apart X v L → Ls (fun i k => X k * v i k) L (fun _ => 1) = 1 := by
  intro n
  induction n with
  | zero =>
    intro L hL _
    match L, hL with
    | [i], _ => show (1 : Fin m) * 1 + 0 = 1; grind
  | succ n ih =>
    intro L hL hA
    match L, hL with
    | a :: b :: ys, hL =>
      simp only [Apart, List.pairwise_cons, List.mem_cons, forall_eq_or_imp] at hA
      obtain ⟨⟨⟨hab, hba⟩, ha⟩, hb, hys⟩ := hA
      have hla : (a :: ys).length = n + 1 := by simp only [List.length_cons] at hL ⊢; omega
      have hlb : (b :: ys).length = n + 1 := by simp only [List.length_cons] at hL ⊢; omega
      have ia := ih (a :: ys) hla (List.pairwise_cons.2 ⟨ha, hys⟩)
      have ib := ih (b :: ys) hlb (List.pairwise_cons.2 ⟨hb, hys⟩)
      let r : Nat → Nat → Fin m := fun i k => X k * v i k
      have ia' : 1 * Wp r a ys + Ls r ys (fun k => 1 * r k a) = 1 := ia
      have ib' : 1 * Wp r b ys + Ls r ys (fun k => 1 * r k b) = 1 := ib
      have hS : (X b - X a) * Ls r ys (fun k => 1 * r k a * r k b) = X b * Ls r ys (fun k => 1 * r k a) + -X a * Ls r ys (fun k => 1 * r k b) := by
        rw [← Ls_mul, ← Ls_mul, ← Ls_mul, ← Ls_add]
        refine Ls_congr fun k hk => ?_
        have h1 := (ha k hk).2
        have h2 := (hb k hk).2
        show (X b - X a) * (1 * (X a * v k a) * (X b * v k b)) = X b * (1 * (X a * v k a)) + -X a * (1 * (X b * v k b))
        grind
      show 1 * (X b * v a b * Wp r a ys) + (1 * (X a * v b a) * Wp r b ys + Ls r ys (fun k => 1 * r k a * r k b)) = 1
      generalize Ls r ys (fun k => 1 * r k a * r k b) = S at hS ⊢
      generalize Ls r ys (fun k => 1 * r k a) = Sa at hS ia'
      generalize Ls r ys (fun k => 1 * r k b) = Sb at hS ib'
      generalize Wp r a ys = A at ia' ⊢
      generalize Wp r b ys = B at ib' ⊢
      have h1 : (X b - X a) * (1 * (X b * v a b * A) + (1 * (X a * v b a) * B + S)) = X b - X a := by grind
      generalize (1 * (X b * v a b * A) + (1 * (X a * v b a) * B + S)) = Z at h1 ⊢
      grind
theorem Ls_pow : ∀ (p : Nat) (L : List Nat), p < L.length → Apart X v L → Ls (fun i k => X k * v i k) L (fun k => pw (X k) p) = if p = 0 then 1 else 0 := by
  intro p
  induction p with
  | zero =>
    intro L hp hA
    rw [if_pos rfl]
    exact Ls_one (L.length - 1) L (by omega) hA
  | succ p ih =>
    intro L hp hA
    rw [if_neg (by omega)]
    match L, hp with
    | x :: ys, hp =>
      have i1 := ih (x :: ys) (by omega) hA
      simp only [Apart, List.pairwise_cons] at hA
      obtain ⟨ha, hys⟩ := hA
      have i2 := ih ys (by simp only [List.length_cons] at hp; omega) hys
      let r : Nat → Nat → Fin m := fun i k => X k * v i k
      have i1' : pw (X x) p * Wp r x ys + Ls r ys (fun k => pw (X k) p * r k x) = if p = 0 then 1 else 0 := i1
      have i2' : Ls r ys (fun k => pw (X k) p) = if p = 0 then 1 else 0 := i2
      have hS : Ls r ys (fun k => pw (X k) p * X k * r k x) = X x * Ls r ys (fun k => pw (X k) p * r k x) + -X x * Ls r ys (fun k => pw (X k) p) := by
        rw [← Ls_mul, ← Ls_mul, ← Ls_add]
        refine Ls_congr fun k hk => ?_
        have h1 := (ha k hk).2
        show pw (X k) p * X k * (X x * v k x) = X x * (pw (X k) p * (X x * v k x)) + -X x * pw (X k) p
        grind
      show pw (X x) p * X x * Wp r x ys + Ls r ys (fun k => pw (X k) p * X k * r k x) = 0
      generalize Ls r ys (fun k => pw (X k) p * X k * r k x) = S at hS ⊢
      generalize Ls r ys (fun k => pw (X k) p * r k x) = S1 at hS i1'
      generalize Ls r ys (fun k => pw (X k) p) = S2 at hS i2'
      generalize Wp r x ys = A at i1' ⊢
      generalize (if p = 0 then (1 : Fin m) else 0) = D at i1' i2'
      grind
def sF (g : Nat → Fin m) : Nat → Fin m
  | 0 => 0
  | n + 1 => sF g n + g n
theorem sF_congr {f g : Nat → Fin m} : ∀ {n : Nat}, (∀ i, i < n → f i = g i) → sF f n = sF g n
  | 0, _ => rfl
  | n + 1, h => by show _ + _ = _ + _; rw [sF_congr fun i hi => h i (by omega), h n (by omega)]
theorem sF_mul {f : Nat → Fin m} {a : Fin m} : ∀ {n : Nat}, sF (fun i => f i * a) n = sF f n * a
  | 0 => by show (0 : Fin m) = 0 * a; grind
  | n + 1 => by
    have h := sF_mul (f := f) (a := a) (n := n)
    show sF (fun i => f i * a) n + f n * a = (sF f n + f n) * a
    rw [h]; grind
def fW (r : Nat → Nat → Fin m) (i : Nat) : Nat → Fin m
  | 0 => 1
  | k + 1 => if k = i then fW r i k else fW r i k * r i k
def dn : Nat → List Nat
  | 0 => []
  | n + 1 => n :: dn n
theorem dn_length : ∀ n, (dn n).length = n
  | 0 => rfl
  | n + 1 => congrArg (· + 1) (dn_length n)
theorem mem_dn {i : Nat} : ∀ {n : Nat}, i ∈ dn n ↔ i < n
  | 0 => by simp [dn]
  | n + 1 => by simp only [dn, List.mem_cons, mem_dn (n := n)]; omega
theorem fW_dn {r : Nat → Nat → Fin m} {i : Nat} : ∀ {k : Nat}, k ≤ i → fW r i k = Wp r i (dn k)
  | 0, _ => rfl
  | k + 1, h => by
    show ite _ _ _ = _ * _
    rw [if_neg (by omega), fW_dn (by omega)]
    grind
theorem sF_Ls {r : Nat → Nat → Fin m} : ∀ (n : Nat) (f : Nat → Fin m), sF (fun i => f i * fW r i n) n = Ls r (dn n) f
  | 0, _ => rfl
  | n + 1, f => by
    have h := sF_Ls (r := r) n fun k => f k * r k n
    have e1 : sF (fun i => f i * fW r i (n + 1)) n = sF (fun i => f i * r i n * fW r i n) n := sF_congr fun i hi => by
      show f i * ite _ _ _ = _
      rw [if_neg (by omega)]
      grind
    have e2 : fW r n (n + 1) = Wp r n (dn n) := by
      show ite _ _ _ = _
      rw [if_pos rfl, fW_dn (Nat.le_refl n)]
    show sF (fun i => f i * fW r i (n + 1)) n + f n * fW r n (n + 1) = f n * Wp r n (dn n) + Ls r (dn n) fun k => f k * r k n
    rw [e1, e2, h]
    grind
theorem dn_apart {n : Nat} (h : ∀ i k, i < n → k < n → i ≠ k → (X k - X i) * v i k = 1) : ∀ j, j ≤ n → Apart X v (dn j)
  | 0, _ => List.Pairwise.nil
  | j + 1, hj => List.pairwise_cons.2 ⟨fun k hk => ⟨h j k (by omega) (by have := mem_dn.1 hk; omega) (by have := mem_dn.1 hk; omega), h k j (by have := mem_dn.1 hk; omega) (by omega) (by have := mem_dn.1 hk; omega)⟩, dn_apart h j (by omega)⟩
theorem at_zero {n : Nat} (h : ∀ i k, i < n → k < n → i ≠ k → (X k - X i) * v i k = 1) (c : Nat → Fin m) : ∀ d, d ≤ n →
    sF (fun i => sF (fun j => c j * pw (X i) j) d * fW (fun i k => X k * v i k) i n) n = if d = 0 then 0 else c 0 := by
  intro d hd
  rw [sF_Ls n fun i => sF (fun j => c j * pw (X i) j) d]
  induction d with
  | zero =>
    rw [if_pos rfl]
    have e : Ls (fun i k => X k * v i k) (dn n) (fun i => sF (fun j => c j * pw (X i) j) 0) = Ls (fun i k => X k * v i k) (dn n) (fun i => 0 * (fun _ => (0 : Fin m)) i) := Ls_congr fun k _ => by show (0 : Fin m) = 0 * 0; grind
    rw [e, Ls_mul]
    grind
  | succ d ih =>
    rw [if_neg (by omega)]
    have e : Ls (fun i k => X k * v i k) (dn n) (fun i => sF (fun j => c j * pw (X i) j) (d + 1)) = Ls (fun i k => X k * v i k) (dn n) (fun i => sF (fun j => c j * pw (X i) j) d + (fun i => c d * pw (X i) d) i) := rfl
    rw [e, Ls_add, Ls_mul, ih (by omega), Ls_pow d (dn n) (by rw [dn_length]; omega) (dn_apart h n (Nat.le_refl n))]
    by_cases hd0 : d = 0
    · subst hd0
      rw [if_pos rfl, if_pos rfl]
      grind
    · rw [if_neg hd0, if_neg hd0]
      grind
end
end Go.Ab
