/-
  The calls' laws once more, over factors and proofs; the rules in one bundle.
  pratt: what factors make.
  pratt: is a proof one, if its factors are prime?
  pratt: a map of numbers that are proved.
  pratt: what a list proves.
  pratt: is a list one, and what it proves.
-/
import Derived.WalkKit
import Derived.StillTail
import Derived.Deep.MidRow
import Derived.DeepKeys
import Derived.Deep.LoopGhost
import Derived.Deep.Quiet
import Derived.Laws.AppendOwn
import Derived.Laws.MakeOwn
import Derived.Laws.Cover3
import Derived.Laws.IdiomCopy
import Derived.Laws.CopyRow
import Derived.Laws.BitsAllLaws
import Derived.Laws.Bits128
import Derived.Lib.BitFns
import Derived.DeepKeys3
import Derived.MapKept
import Derived.Test.YtdmcknmjdlghgaaDoorProg
import Derived.Shelf.Bits.Mul64
import Derived.Shelf.Strconv.Itoa0
import Derived.Shelf.Spec.BitsCarry
import Derived.Tactics
import Derived.Tactics2
import Derived.Defers
import Derived.Laws.Pointers
import Derived.Laws.LoneSync
import Derived.RegionTactic
import Derived.RegionCalls
import Derived.ChangeAlike
import Derived.KernelRfl
import Derived.Laws.NewBlocks
import Derived.Test.YtdmcknmjdlghgaaDoorZ01
import Derived.Test.YtdmcknmjdlghgaaDoorZ02
import Derived.Test.YtdmcknmjdlghgaaDoorZ03
import Derived.Test.YtdmcknmjdlghgaaDoorZ04
import Derived.Test.YtdmcknmjdlghgaaDoorZ05
import Derived.Test.YtdmcknmjdlghgaaDoorZ06
import Derived.Test.YtdmcknmjdlghgaaDoorZ07
namespace Go.Proofs.YtdmcknmjdlghgaaDoor
open Go Go.Ab
set_option linter.unusedSimpArgs false
set_option linter.unusedVariables false
set_option linter.defProp false
def vcXPb := (And.intro (And.intro (And.intro (And.intro (And.intro (And.intro (And.intro @modc_length (And.intro @modc_take @modc_sq)) (And.intro @modc_i (And.intro @modS_length @dgs_length))) (And.intro (And.intro @dgs_one (And.intro @dgs_get @nats_length)) (And.intro @fac_length (And.intro @fac_fst @fac_snd)))) (And.intro (And.intro (And.intro @fac_one (And.intro @prf_length @prf_fst)) (And.intro @prf_snd (And.intro @prf_thd @prf_one))) (And.intro (And.intro @fz_prf (And.intro @avren_sl @qm_call)) (And.intro (And.intro @qm_move @qm_assign) (And.intro @qm_pick @qm_build))))) (And.intro (And.intro (And.intro (And.intro @qm_load (And.intro @qm_nilCheck @qm_binOp)) (And.intro @qm_unOp (And.intro @qm_convert @qm_fieldAddr))) (And.intro (And.intro @qm_field (And.intro @qm_indexAddr @qm_index)) (And.intro (And.intro @qm_extract @qm_makeFunc) (And.intro @xcalledM_first @xcalledM_cap)))) (And.intro (And.intro (And.intro @maskOK_p (And.intro @maskOK_v @xcallHM_value)) (And.intro @xcallHM_len (And.intro @xcalledM_some @xTrM_nil))) (And.intro (And.intro @xTrM_false (And.intro @xTrM_cons @xAtM_assign)) (And.intro (And.intro @xAtM_move @xAtM_extract) (And.intro @xAtM_alloc @xAtM_store)))))) (And.intro (And.intro (And.intro (And.intro (And.intro @famL_nil (And.intro @famL_cons @tf108_row)) (And.intro @tf108_sz (And.intro @tf108_szO @tf108_f0))) (And.intro (And.intro @tf108_f1 (And.intro @tf108_f2 @tf108_f3)) (And.intro (And.intro @tf108_known @tf108_zero) (And.intro @tf108_p0 @tf108_p1)))) (And.intro (And.intro (And.intro @tf108_p2 (And.intro @tf108_p3 @tf108_slc)) (And.intro @tf142_row (And.intro @tf142_sz @tf142_szO))) (And.intro (And.intro @tf142_arr (And.intro @tf142_known @tf142_eq)) (And.intro (And.intro @tf142_zero @tf142_lits) (And.intro @tf142_place @tf142_slc))))) (And.intro (And.intro (And.intro (And.intro @tf46_row (And.intro @tf46_sz @tf46_szO)) (And.intro @tf46_slc (And.intro @tf46_ptr @tf46_zero))) (And.intro (And.intro @tf144_row (And.intro @tf144_sz @tf144_szO)) (And.intro (And.intro @tf144_slc @tf144_ptr) (And.intro @tf144_zero @tf145_row)))) (And.intro (And.intro (And.intro @tf145_sz (And.intro @tf145_szO @tf145_slc)) (And.intro @tf145_arr (And.intro @tf145_isSlc @tf145_zero))) (And.intro (And.intro @tf98_row (And.intro @tf98_sz @tf98_szO)) (And.intro (And.intro @tf98_slc @tf98_int) (And.intro @tf98_zero @tf21_row))))))) (And.intro (And.intro (And.intro (And.intro (And.intro (And.intro @tf21_sz (And.intro @tf21_szO @tf21_slc)) (And.intro @tf21_int (And.intro @tf21_zero @ctxN_P))) (And.intro (And.intro @ctxN_TM (And.intro @bnd_none @bnd_int)) (And.intro @xslB_some (And.intro @xslice_p @xslice_sl)))) (And.intro (And.intro (And.intro @xslice_v (And.intro @xarrAt_sl @xarrAt_v)) (And.intro @tf50_row (And.intro @tf50_sz @tf50_szO))) (And.intro (And.intro @tf50_slc (And.intro @tf50_arr @tf50_isSlc)) (And.intro (And.intro @tf50_zero @tf78_row) (And.intro @tf78_sz @tf78_szO))))) (And.intro (And.intro (And.intro (And.intro @tf78_f0 (And.intro @tf78_f1 @tf78_known)) (And.intro @tf78_eq (And.intro @tf78_zero @tf78_p0))) (And.intro (And.intro @tf78_p1 (And.intro @tf78_slc @tf41_row)) (And.intro (And.intro @tf41_sz @tf41_szO) (And.intro @tf41_slc @tf41_arr)))) (And.intro (And.intro (And.intro @tf41_isSlc (And.intro @tf41_zero @tf43_row)) (And.intro @tf43_sz (And.intro @tf43_szO @tf43_f0))) (And.intro (And.intro @tf43_f1 (And.intro @tf43_f2 @tf43_known)) (And.intro (And.intro @tf43_zero @tf43_p0) (And.intro @tf43_p1 @tf43_p2)))))) (And.intro (And.intro (And.intro (And.intro (And.intro @tf43_slc (And.intro @tf28_row @tf28_sz)) (And.intro @tf28_szO (And.intro @tf28_slc @tf28_arr))) (And.intro (And.intro @tf28_isSlc (And.intro @tf28_zero @tf131_row)) (And.intro (And.intro @tf131_sz @tf131_szO) (And.intro @tf131_slc @ctxE_P)))) (And.intro (And.intro (And.intro @ctxE_TM (And.intro @modEvo_TM @after_P)) (And.intro @after_TM (And.intro @fz_v @fz_p))) (And.intro (And.intro @fz_sl (And.intro @fz_agg @fz_tup)) (And.intro (And.intro @fz_undef @avfz_v) (And.intro @avfz_p @avfz_sl))))) (And.intro (And.intro (And.intro (And.intro @avfz_agg (And.intro @svfz_v @svfz_p)) (And.intro @svfz_sl (And.intro @fzP_none @fzP_some))) (And.intro (And.intro @fzS_none (And.intro @fzS_some @fz_nat4)) (And.intro (And.intro @fz_arr @fz_iarr) (And.intro @fzB_some @fzH_nil)))) (And.intro (And.intro (And.intro @fzH_cons (And.intro @posL_nil @posL_cons)) (And.intro @ren_v (And.intro @ren_p @ren_sl))) (And.intro (And.intro @ren_undef (And.intro @ren_nat4 @ren_tupE)) (And.intro (And.intro @ren_tup @avren_v) (And.intro @avren_p @avren_nat4))))))))
def vcQPb := (And.intro (And.intro (And.intro (And.intro @okT_nil (And.intro @okT_cons @okS_nil)) (And.intro @okS_cons (And.intro @okA_nil @okA_cons))) (And.intro (And.intro @and_self (And.intro @true_and @and_true)) (And.intro (And.intro @okv_p @okv_sl) (And.intro @oks_s @oks_agg)))) (And.intro (And.intro (And.intro @oks_tup (And.intro @oka_s @oka_agg)) (And.intro (And.intro @okv_v @nat4_okk) (And.intro @nat8_okk @arr_okk))) (And.intro (And.intro @iarr_okk (And.intro @modc_okk @modS_okk)) (And.intro (And.intro @dgs_okk @nats_okk) (And.intro @fac_okk @prf_okk)))))
def vcOPb := (And.intro (And.intro (And.intro (And.intro @okv_p @okv_sl) (And.intro @oks_s @oks_agg)) (And.intro (And.intro @oks_tup @oka_s) (And.intro @oka_agg (And.intro @okv_v @nat4_okk)))) (And.intro (And.intro (And.intro @nat8_okk @arr_okk) (And.intro @iarr_okk @modc_okk)) (And.intro (And.intro @modS_okk @dgs_okk) (And.intro @nats_okk (And.intro @fac_okk @prf_okk)))))
/-- A bound, or the like. -/
theorem bd1 {p : Prop} (h : p := by first | (with_reducible first | assumption | exact OddM.mod_lt (by assumption) | exact OddM.mo_lt (by assumption) | exact OddM.mo_lt' (by assumption) | exact OddM.img_lt (by assumption) | exact OddM.lt (by assumption) | exact OddM.pos (by assumption) | exact lt512 (by assumption) | exact lt512_add (by first | assumption | exact OddM.mod_lt (by assumption)) (by first | assumption | exact OddM.lt (by assumption)) | exact lt512_mul (by assumption) (by assumption)) | decide | omega) : p := h
/-- What simp asks for on its way. -/
theorem dz1 {p : Prop} (h : p := by first | (simp only [nat4_length, nat8_length, arr_length, iarr_length, modc_length, modS_length, dgs_length, nats_length, fac_length, prf_length, List.length_cons, List.length_nil, Nat.reduceAdd]; done) | omega) : p := h
section
variable {Γ : Ctx} {P : Program} {V : Evo} {H : Heap} {M : List Nat} {f : FuncId} {args : List TV} {r : TV} {pre : Nat → World → Prop} {K : TV → Heap → Prop} {KV : TV → Prop}
theorem cF_pure1 (h : PureC P f args r) (hK : K r H) (hP : Γ.P = P := by with_unfolding_all rfl) (hc : callable P f = true := by kernel_rfl) : xcallF Γ H f args K := yF_pure h hP hc hK
theorem cV_pure1 (h : PureC P f args r) (hK : KV r) (hP : Γ.P = P := by with_unfolding_all rfl) (hc : callable P f = true := by kernel_rfl) : xcallV Γ H f args KV := yV_pure h hP hc hK
theorem cF_ev1 (h : EvC V P f args pre r) (hK : K r H) (hP : Γ.P = P := by with_unfolding_all rfl) (hV : Γ.ev = V := by with_unfolding_all rfl) (hc : callable P f = true := by kernel_rfl) (ha : ∀ x ∈ args, x.ok 0 := by simp only [vcQPb])
    (hp : Kn Γ pre := by with_reducible first | assumption | exact Kn.and (by assumption) (by assumption)) : xcallF Γ H f args K := yF_ev h hP hV hc ha hp hK
theorem cV_ev1 (h : EvC V P f args pre r) (hK : KV r) (hP : Γ.P = P := by with_unfolding_all rfl) (hV : Γ.ev = V := by with_unfolding_all rfl) (hc : callable P f = true := by kernel_rfl) (ha : ∀ x ∈ args, x.ok 0 := by simp only [vcQPb])
    (hp : Kn Γ pre := by with_reducible first | assumption | exact Kn.and (by assumption) (by assumption)) : xcallV Γ H f args KV := yV_ev h hP hV hc ha hp hK
theorem cF_new1 {R : TV → Heap → Prop} (h : NewC P f args R) (hK : ∀ v H', R v H' → K (v.ren (· + H.length)) (H ++ H')) (hP : Γ.P = P := by with_unfolding_all rfl) (hc : callable P f = true := by kernel_rfl) (hev : ∀ t, ¬ Γ.ev.TM t := by with_unfolding_all exact fun _ h => h) : xcallF Γ H f args K := yF_new h hP hc hev hK
end
end Go.Proofs.YtdmcknmjdlghgaaDoor
namespace Go.Proofs.YtdmcknmjdlghgaaDoor
open Go Go.Ab
set_option linter.unusedSimpArgs false
set_option linter.unusedVariables false
set_option linter.defProp false
set_option maxHeartbeats 20000000
set_option maxRecDepth 100000

/-- The lower four words alone. -/
def low4 (X : Nat) (j : Nat) : Nat := if j = 3 then wd X 3 else if j = 2 then wd X 2 else if j = 1 then wd X 1 else if j = 0 then wd X 0 else 0
theorem low4_lt (X j : Nat) : low4 X j < 18446744073709551616 := by
  unfold low4
  repeat' split
  all_goals first | exact wd_lt _ _ | decide
theorem low4_lits {X : Nat} : litsA Tryd.prog 87 (some (arr 8 fun j => if j = 3 then wd X 3 else if j = 2 then wd X 2 else if j = 1 then wd X 1 else if j = 0 then wd X 0 else 0)) = some (lits 8 (low4 X)) :=
  litsA_arr (f := low4 X) tf87_u (by kernel_rfl : Tryd.prog.underlying 22 = some (.int .u64)) (by kernel_rfl) (by kernel_rfl) fun i _ => low4_lt X i
theorem nat8_tk {X : Nat} : List.take 4 (nat8 X) = nat4 X := rfl
theorem low4_eq {X : Nat} (h : X < 2 ^ 256 * 2 ^ 256) : litsEq (lits 8 (wd X)) (lits 8 (low4 X)) = decide (X < 2 ^ 256) := by
  rw [litsEq_lits, Bool.eq_iff_iff, decide_eq_true_iff, decide_eq_true_iff]
  constructor
  · intro hh
    have h0 : X / 2 ^ 256 = 0 := wd_inj4 _ 0 ((Nat.div_lt_iff_lt_mul (Nat.two_pow_pos _)).2 h) (Nat.two_pow_pos _) fun k hk => by
      rw [wd_shift, wd_zero, hh (k + 4) (by omega)]
      unfold low4
      rw [if_neg (by omega), if_neg (by omega), if_neg (by omega), if_neg (by omega)]
    rcases (Nat.div_eq_zero_iff).1 h0 with h1 | h1
    · exact absurd h1 (Nat.ne_of_gt (Nat.two_pow_pos _))
    · exact h1
  · intro hh i hi
    unfold low4
    split
    · rename_i e; rw [e]
    split
    · rename_i e; rw [e]
    split
    · rename_i e; rw [e]
    split
    · rename_i e; rw [e]
    exact wd_big2 X i 256 hh (by omega)


theorem product_m (x : Option Addr) (n c : Nat) (P : Nat → Nat) (E : Nat → Int) (hP : ∀ i, P i < 2 ^ 256) (hE : ∀ i, -9223372036854775808 ≤ E i ∧ E i < 9223372036854775808) (hn : n < 9223372036854775808) :
    PureM Tryd.prog 104 [.s (.v (.slice x n c))] (facs x n P E) (.tup [.agg (nat4 (prS n P E).1), .s (.v (.int .i64 (prS n P E).2))]) := by
  obtain ⟨r, hr⟩ : ∃ r, prS n P E = r := ⟨_, rfl⟩
  rw [hr]
  (refine pureM_of Tryd.func104 rfl (by simp only [List.length_cons, List.length_nil, List.map_cons, List.map_nil, List.nodup_cons, List.nodup_nil, List.mem_cons, Nat.reduceAdd, Nat.reduceEqDiff, or_false, not_false_eq_true, forall_eq_or_imp, forall_eq, or_self, Nat.reduceLT, Nat.reduceLeDiff, and_self, List.forall_mem_cons, List.not_mem_nil, false_implies, implies_true, and_true, true_and, vcOPb]) (by simp only [List.length_cons, List.length_nil, List.map_cons, List.map_nil, List.nodup_cons, List.nodup_nil, List.mem_cons, Nat.reduceAdd, Nat.reduceEqDiff, or_false, not_false_eq_true, forall_eq_or_imp, forall_eq, or_self, Nat.reduceLT, Nat.reduceLeDiff, and_self, List.forall_mem_cons, List.not_mem_nil, false_implies, implies_true, and_true, true_and, vcOPb]) fun w hpre => ?_; simp only [List.length_cons, List.length_nil, Tryd.ntmps104, Nat.reduceAdd, Nat.reduceSub, List.replicate_succ, List.replicate_zero, List.cons_append, List.nil_append])
  have hN : Kn (ctx0 Tryd.prog w) (facsAt Evo.none x n P E) := facs_kn hpre
  have hadr : n ≠ 0 → ∃ ad, x = some ad := fun h => by
    rcases hpre with h0 | ⟨ad, h0, _⟩
    · omega
    · exact ⟨ad, h0⟩
  clear hpre
  by_cases h40 : 40 < n
  · have h40' : (40 : Int) < (n : Int) := by omega
    rw [prS_long h40] at hr
    subst hr
    (repeat' ((first | with_reducible (first | apply XR_slice | apply XR_arrAt | apply XR_cons | apply XR_consG | apply XR_nil | apply cF_pure1 (by assumption) | apply cF_ev1 (by assumption) | apply cF_pure1 (mul_c _ _ bd1 bd1)) | with_reducible (first | apply X_regRS (id := 7) | apply X_regR (id := 7) | apply X_seqX (x := .seq (.region 7 _ false) _) | apply X_seqX (x := .seq (.seq (.region 7 _ false) _) _) | apply X_regRS (id := 9) | apply X_regR (id := 9) | apply X_seqX (x := .seq (.region 9 _ false) _) | apply X_seqX (x := .seq (.seq (.region 9 _ false) _) _) | apply X_regRS (id := 20) | apply X_regR (id := 20) | apply X_seqX (x := .seq (.region 20 _ false) _) | apply X_seqX (x := .seq (.seq (.region 20 _ false) _) _) | apply X_regRS (id := 22) | apply X_regR (id := 22) | apply X_seqX (x := .seq (.region 22 _ false) _) | apply X_seqX (x := .seq (.seq (.region 22 _ false) _) _)) | refine X_of _ ?_ | with_reducible (first | exact ⟨_, rfl⟩ | refine And.intro ?_ ?_ | intro _)) <;> try simp -implicitDefEqProofs (maxSteps := 1000000) (disch := first | exact dz1 | fail) only [vcR, vcT, Int.reduceBEq, Int.reduceBNe, Int.reduceEq, Int.reduceNe, Ab.part, Nat.reduceAdd, Nat.reduceMul, Nat.reduceLeDiff, Nat.reduceEqDiff, Nat.reduceBEq, Nat.reduceBNe, reduceCtorEq, ↓reduceIte, implies_true, forall_const, Int.reduceNeg, Int.reduceToNat, Int.reduceLT, Int.reduceLE, Int.reduceAdd, Int.reduceSub, Int.reduceMul, Int.reducePow, Nat.reducePow, true_or, Option.isNone_some, Option.isNone_none, vcXPb, Tryd.f104, List.toList_toArray, arr4_zero, nat4_set1, nat4_setL, nat4_set0, h40']))
  · have h40' : ¬ (40 : Int) < (n : Int) := by omega
    (repeat' ((first | with_reducible (first | apply XR_slice | apply XR_arrAt | apply XR_cons | apply XR_consG | apply XR_nil | apply cF_pure1 (by assumption) | apply cF_ev1 (by assumption) | apply cF_pure1 (mul_c _ _ bd1 bd1)) | with_reducible (first | apply X_regRS (id := 7) | apply X_regR (id := 7) | apply X_seqX (x := .seq (.region 7 _ false) _) | apply X_seqX (x := .seq (.seq (.region 7 _ false) _) _) | apply X_regRS (id := 9) | apply X_regR (id := 9) | apply X_seqX (x := .seq (.region 9 _ false) _) | apply X_seqX (x := .seq (.seq (.region 9 _ false) _) _) | apply X_regRS (id := 20) | apply X_regR (id := 20) | apply X_seqX (x := .seq (.region 20 _ false) _) | apply X_seqX (x := .seq (.seq (.region 20 _ false) _) _) | apply X_regRS (id := 22) | apply X_regR (id := 22) | apply X_seqX (x := .seq (.region 22 _ false) _) | apply X_seqX (x := .seq (.seq (.region 22 _ false) _) _)) | refine X_of _ ?_ | with_reducible (first | exact ⟨_, rfl⟩ | refine And.intro ?_ ?_ | intro _)) <;> try simp -implicitDefEqProofs (maxSteps := 1000000) (disch := first | exact dz1 | fail) only [vcR, vcT, Int.reduceBEq, Int.reduceBNe, Int.reduceEq, Int.reduceNe, Ab.part, Nat.reduceAdd, Nat.reduceMul, Nat.reduceLeDiff, Nat.reduceEqDiff, Nat.reduceBEq, Nat.reduceBNe, reduceCtorEq, ↓reduceIte, implies_true, forall_const, Int.reduceNeg, Int.reduceToNat, Int.reduceLT, Int.reduceLE, Int.reduceAdd, Int.reduceSub, Int.reduceMul, Int.reducePow, Nat.reducePow, true_or, Option.isNone_some, Option.isNone_none, vcXPb, Tryd.f104, List.toList_toArray, arr4_zero, nat4_set1, nat4_setL, nat4_set0, h40']))
    refine X_loop (ι := Nat) (fun i => i ≤ n ∧ ∀ j, j < i → eBad E j = false) (fun i => n - i) [4, 6, 17, 18, 19, 20, 21, 22, 23, 24, 25, 26, 27, 28, 29, 30, 31, 32, 33, 34, 35, 36, 37]
      (fun i => [(4, .s (.v (.bool (anyB i fun j => P j == 0)))), (17, .s (.v (.int .i64 (i : Nat))))])
      (fun i => []) 0 (shape_of fun i => ?_) (by decide) ?_ ?_
    · simp only [List.length_cons, List.length_nil, List.map_cons, List.map_nil, List.nodup_cons, List.nodup_nil, List.mem_cons, Nat.reduceAdd, Nat.reduceEqDiff, or_false, not_false_eq_true, forall_eq_or_imp, forall_eq, or_self, Nat.reduceLT, Nat.reduceLeDiff, and_self, List.forall_mem_cons, List.not_mem_nil, false_implies, implies_true, and_true, true_and, vcOPb]
    · simp -implicitDefEqProofs (maxSteps := 1000000) (disch := first | exact dz1 | fail) only [vcR, vcT, Int.reduceBEq, Int.reduceBNe, Int.reduceEq, Int.reduceNe, Ab.part, Nat.reduceAdd, Nat.reduceMul, Nat.reduceLeDiff, Nat.reduceEqDiff, Nat.reduceBEq, Nat.reduceBNe, reduceCtorEq, ↓reduceIte, implies_true, forall_const, Int.reduceNeg, Int.reduceToNat, Int.reduceLT, Int.reduceLE, Int.reduceAdd, Int.reduceSub, Int.reduceMul, Int.reducePow, Nat.reducePow, true_or, Option.isNone_some, Option.isNone_none, vcXPb, Tryd.f104, List.toList_toArray, again_eq]
      exact ⟨rfl, _, rfl⟩
    · intro i us ⟨hi, hbad⟩
      by_cases h : i < n
      · obtain ⟨ad, rfl⟩ := hadr (by omega)
        have hx : ∀ {K : TV → HE → Prop}, xext (ctx0 Tryd.prog w) (some true) 5 (ad.add (i * 5)) K = K (.agg (fac (P i) (E i))) .none := fun {K} => hN.fac h
        have hPi := hP i
        have hl0 : litsEq (lits 4 (wd (P i))) (lits 4 (wd 0)) = (P i == 0) := litsEq_nat4 hPi (by decide)
        by_cases he1 : E i < 1
        · rw [prS_bad h40 h (eBad_true.2 (.inl he1))] at hr
          subst hr
          (repeat' ((first | with_reducible (first | apply XR_slice | apply XR_arrAt | apply XR_cons | apply XR_consG | apply XR_nil | apply cF_pure1 (by assumption) | apply cF_ev1 (by assumption) | apply cF_pure1 (mul_c _ _ bd1 bd1)) | with_reducible (first | apply X_regRS (id := 7) | apply X_regR (id := 7) | apply X_seqX (x := .seq (.region 7 _ false) _) | apply X_seqX (x := .seq (.seq (.region 7 _ false) _) _) | apply X_regRS (id := 9) | apply X_regR (id := 9) | apply X_seqX (x := .seq (.region 9 _ false) _) | apply X_seqX (x := .seq (.seq (.region 9 _ false) _) _) | apply X_regRS (id := 20) | apply X_regR (id := 20) | apply X_seqX (x := .seq (.region 20 _ false) _) | apply X_seqX (x := .seq (.seq (.region 20 _ false) _) _) | apply X_regRS (id := 22) | apply X_regR (id := 22) | apply X_seqX (x := .seq (.region 22 _ false) _) | apply X_seqX (x := .seq (.seq (.region 22 _ false) _) _)) | refine X_of _ ?_ | with_reducible (first | exact ⟨_, rfl⟩ | refine And.intro ?_ ?_ | intro _)) <;> try simp -implicitDefEqProofs (maxSteps := 1000000) (disch := first | exact dz1 | fail) only [vcR, vcT, Int.reduceBEq, Int.reduceBNe, Int.reduceEq, Int.reduceNe, Ab.part, Nat.reduceAdd, Nat.reduceMul, Nat.reduceLeDiff, Nat.reduceEqDiff, Nat.reduceBEq, Nat.reduceBNe, reduceCtorEq, ↓reduceIte, implies_true, forall_const, Int.reduceNeg, Int.reduceToNat, Int.reduceLT, Int.reduceLE, Int.reduceAdd, Int.reduceSub, Int.reduceMul, Int.reducePow, Nat.reducePow, true_or, Option.isNone_some, Option.isNone_none, vcXPb, Tryd.f104, List.toList_toArray, arr4_zero, nat4_set1, nat4_setL, nat4_set0, hx,he1]))
        · by_cases he2 : 255 < E i
          · rw [prS_bad h40 h (eBad_true.2 (.inr he2))] at hr
            subst hr
            (repeat' ((first | with_reducible (first | apply XR_slice | apply XR_arrAt | apply XR_cons | apply XR_consG | apply XR_nil | apply cF_pure1 (by assumption) | apply cF_ev1 (by assumption) | apply cF_pure1 (mul_c _ _ bd1 bd1)) | with_reducible (first | apply X_regRS (id := 7) | apply X_regR (id := 7) | apply X_seqX (x := .seq (.region 7 _ false) _) | apply X_seqX (x := .seq (.seq (.region 7 _ false) _) _) | apply X_regRS (id := 9) | apply X_regR (id := 9) | apply X_seqX (x := .seq (.region 9 _ false) _) | apply X_seqX (x := .seq (.seq (.region 9 _ false) _) _) | apply X_regRS (id := 20) | apply X_regR (id := 20) | apply X_seqX (x := .seq (.region 20 _ false) _) | apply X_seqX (x := .seq (.seq (.region 20 _ false) _) _) | apply X_regRS (id := 22) | apply X_regR (id := 22) | apply X_seqX (x := .seq (.region 22 _ false) _) | apply X_seqX (x := .seq (.seq (.region 22 _ false) _) _)) | refine X_of _ ?_ | with_reducible (first | exact ⟨_, rfl⟩ | refine And.intro ?_ ?_ | intro _)) <;> try simp -implicitDefEqProofs (maxSteps := 1000000) (disch := first | exact dz1 | fail) only [vcR, vcT, Int.reduceBEq, Int.reduceBNe, Int.reduceEq, Int.reduceNe, Ab.part, Nat.reduceAdd, Nat.reduceMul, Nat.reduceLeDiff, Nat.reduceEqDiff, Nat.reduceBEq, Nat.reduceBNe, reduceCtorEq, ↓reduceIte, implies_true, forall_const, Int.reduceNeg, Int.reduceToNat, Int.reduceLT, Int.reduceLE, Int.reduceAdd, Int.reduceSub, Int.reduceMul, Int.reducePow, Nat.reducePow, true_or, Option.isNone_some, Option.isNone_none, vcXPb, Tryd.f104, List.toList_toArray, arr4_zero, nat4_set1, nat4_setL, nat4_set0, hx,he1,he2]))
          · have hb : eBad E i = false := eBad_false.2 ⟨by omega, by omega⟩
            have hbad' : ∀ j, j < i + 1 → eBad E j = false := fun j hj => by
              by_cases hji : j = i
              · subst hji; exact hb
              · exact hbad j (by omega)
            obtain ⟨z, hz⟩ : ∃ z, (anyB i fun j => P j == 0) = z := ⟨_, rfl⟩
            have hz' : (anyB (i + 1) fun j => P j == 0) = (z || (P i == 0)) := by rw [anyB_succ, hz]
            rw [hz]
            clear hadr hbad hb hE hP hr hz
            cases z with
            | true =>
              (repeat' ((first | with_reducible (first | apply XR_slice | apply XR_arrAt | apply XR_cons | apply XR_consG | apply XR_nil | apply cF_pure1 (by assumption) | apply cF_ev1 (by assumption) | apply cF_pure1 (mul_c _ _ bd1 bd1)) | with_reducible (first | apply X_regRS (id := 7) | apply X_regR (id := 7) | apply X_seqX (x := .seq (.region 7 _ false) _) | apply X_seqX (x := .seq (.seq (.region 7 _ false) _) _) | apply X_regRS (id := 9) | apply X_regR (id := 9) | apply X_seqX (x := .seq (.region 9 _ false) _) | apply X_seqX (x := .seq (.seq (.region 9 _ false) _) _) | apply X_regRS (id := 20) | apply X_regR (id := 20) | apply X_seqX (x := .seq (.region 20 _ false) _) | apply X_seqX (x := .seq (.seq (.region 20 _ false) _) _) | apply X_regRS (id := 22) | apply X_regR (id := 22) | apply X_seqX (x := .seq (.region 22 _ false) _) | apply X_seqX (x := .seq (.seq (.region 22 _ false) _) _)) | refine X_of _ ?_ | with_reducible (first | exact ⟨_, rfl⟩ | refine And.intro ?_ ?_ | intro _)) <;> try simp -implicitDefEqProofs (maxSteps := 1000000) (disch := first | exact dz1 | fail) only [vcR, vcT, Int.reduceBEq, Int.reduceBNe, Int.reduceEq, Int.reduceNe, Ab.part, Nat.reduceAdd, Nat.reduceMul, Nat.reduceLeDiff, Nat.reduceEqDiff, Nat.reduceBEq, Nat.reduceBNe, reduceCtorEq, ↓reduceIte, implies_true, forall_const, Int.reduceNeg, Int.reduceToNat, Int.reduceLT, Int.reduceLE, Int.reduceAdd, Int.reduceSub, Int.reduceMul, Int.reducePow, Nat.reducePow, true_or, Option.isNone_some, Option.isNone_none, vcXPb, Tryd.f104, List.toList_toArray, arr4_zero, nat4_set1, nat4_setL, nat4_set0, hx,he1,he2]))
              refine ⟨i + 1, by omega, ?_⟩
              simp -implicitDefEqProofs (maxSteps := 1000000) (disch := first | exact dz1 | fail) only [vcR, vcT, Int.reduceBEq, Int.reduceBNe, Int.reduceEq, Int.reduceNe, Ab.part, Nat.reduceAdd, Nat.reduceMul, Nat.reduceLeDiff, Nat.reduceEqDiff, Nat.reduceBEq, Nat.reduceBNe, reduceCtorEq, ↓reduceIte, implies_true, forall_const, Int.reduceNeg, Int.reduceToNat, Int.reduceLT, Int.reduceLE, Int.reduceAdd, Int.reduceSub, Int.reduceMul, Int.reducePow, Nat.reducePow, true_or, Option.isNone_some, Option.isNone_none, vcXPb, Tryd.f104, List.toList_toArray, again_eq]
              exact ⟨hbad', by rw [hz']; rfl, _, rfl⟩
            | false =>
              (repeat' ((first | with_reducible (first | apply XR_slice | apply XR_arrAt | apply XR_cons | apply XR_consG | apply XR_nil | apply cF_pure1 (by assumption) | apply cF_ev1 (by assumption) | apply cF_pure1 (mul_c _ _ bd1 bd1)) | with_reducible (first | apply X_regRS (id := 7) | apply X_regR (id := 7) | apply X_seqX (x := .seq (.region 7 _ false) _) | apply X_seqX (x := .seq (.seq (.region 7 _ false) _) _) | apply X_regRS (id := 9) | apply X_regR (id := 9) | apply X_seqX (x := .seq (.region 9 _ false) _) | apply X_seqX (x := .seq (.seq (.region 9 _ false) _) _) | apply X_regRS (id := 20) | apply X_regR (id := 20) | apply X_seqX (x := .seq (.region 20 _ false) _) | apply X_seqX (x := .seq (.seq (.region 20 _ false) _) _) | apply X_regRS (id := 22) | apply X_regR (id := 22) | apply X_seqX (x := .seq (.region 22 _ false) _) | apply X_seqX (x := .seq (.seq (.region 22 _ false) _) _)) | refine X_of _ ?_ | with_reducible (first | exact ⟨_, rfl⟩ | refine And.intro ?_ ?_ | intro _)) <;> try simp -implicitDefEqProofs (maxSteps := 1000000) (disch := first | exact dz1 | fail) only [vcR, vcT, Int.reduceBEq, Int.reduceBNe, Int.reduceEq, Int.reduceNe, Ab.part, Nat.reduceAdd, Nat.reduceMul, Nat.reduceLeDiff, Nat.reduceEqDiff, Nat.reduceBEq, Nat.reduceBNe, reduceCtorEq, ↓reduceIte, implies_true, forall_const, Int.reduceNeg, Int.reduceToNat, Int.reduceLT, Int.reduceLE, Int.reduceAdd, Int.reduceSub, Int.reduceMul, Int.reducePow, Nat.reducePow, true_or, Option.isNone_some, Option.isNone_none, vcXPb, Tryd.f104, List.toList_toArray, arr4_zero, nat4_set1, nat4_setL, nat4_set0, hx,he1,he2,hl0]))
              refine ⟨i + 1, by omega, ?_⟩
              simp -implicitDefEqProofs (maxSteps := 1000000) (disch := first | exact dz1 | fail) only [vcR, vcT, Int.reduceBEq, Int.reduceBNe, Int.reduceEq, Int.reduceNe, Ab.part, Nat.reduceAdd, Nat.reduceMul, Nat.reduceLeDiff, Nat.reduceEqDiff, Nat.reduceBEq, Nat.reduceBNe, reduceCtorEq, ↓reduceIte, implies_true, forall_const, Int.reduceNeg, Int.reduceToNat, Int.reduceLT, Int.reduceLE, Int.reduceAdd, Int.reduceSub, Int.reduceMul, Int.reducePow, Nat.reducePow, true_or, Option.isNone_some, Option.isNone_none, vcXPb, Tryd.f104, List.toList_toArray, again_eq]
              exact ⟨hbad', by rw [hz', Bool.false_or], _, rfl⟩
      · have : i = n := by omega
        subst this
        obtain ⟨z, hz⟩ : ∃ z, (anyB i fun j => P j == 0) = z := ⟨_, rfl⟩
        rw [hz]
        cases z with
        | true =>
          rw [prS_zero h40 hbad hz] at hr
          subst hr
          (repeat' ((first | with_reducible (first | apply XR_slice | apply XR_arrAt | apply XR_cons | apply XR_consG | apply XR_nil | apply cF_pure1 (by assumption) | apply cF_ev1 (by assumption) | apply cF_pure1 (mul_c _ _ bd1 bd1)) | with_reducible (first | apply X_regRS (id := 7) | apply X_regR (id := 7) | apply X_seqX (x := .seq (.region 7 _ false) _) | apply X_seqX (x := .seq (.seq (.region 7 _ false) _) _) | apply X_regRS (id := 9) | apply X_regR (id := 9) | apply X_seqX (x := .seq (.region 9 _ false) _) | apply X_seqX (x := .seq (.seq (.region 9 _ false) _) _) | apply X_regRS (id := 20) | apply X_regR (id := 20) | apply X_seqX (x := .seq (.region 20 _ false) _) | apply X_seqX (x := .seq (.seq (.region 20 _ false) _) _) | apply X_regRS (id := 22) | apply X_regR (id := 22) | apply X_seqX (x := .seq (.region 22 _ false) _) | apply X_seqX (x := .seq (.seq (.region 22 _ false) _) _)) | refine X_of _ ?_ | with_reducible (first | exact ⟨_, rfl⟩ | refine And.intro ?_ ?_ | intro _)) <;> try simp -implicitDefEqProofs (maxSteps := 1000000) (disch := first | exact dz1 | fail) only [vcR, vcT, Int.reduceBEq, Int.reduceBNe, Int.reduceEq, Int.reduceNe, Ab.part, Nat.reduceAdd, Nat.reduceMul, Nat.reduceLeDiff, Nat.reduceEqDiff, Nat.reduceBEq, Nat.reduceBNe, reduceCtorEq, ↓reduceIte, implies_true, forall_const, Int.reduceNeg, Int.reduceToNat, Int.reduceLT, Int.reduceLE, Int.reduceAdd, Int.reduceSub, Int.reduceMul, Int.reducePow, Nat.reducePow, true_or, Option.isNone_some, Option.isNone_none, vcXPb, Tryd.f104, List.toList_toArray, arr4_zero, nat4_set1, nat4_setL, nat4_set0]))
        | false =>
          have hpos := zero_pos hz
          (repeat' ((first | with_reducible (first | apply XR_slice | apply XR_arrAt | apply XR_cons | apply XR_consG | apply XR_nil | apply cF_pure1 (by assumption) | apply cF_ev1 (by assumption) | apply cF_pure1 (mul_c _ _ bd1 bd1)) | with_reducible (first | apply X_regRS (id := 7) | apply X_regR (id := 7) | apply X_seqX (x := .seq (.region 7 _ false) _) | apply X_seqX (x := .seq (.seq (.region 7 _ false) _) _) | apply X_regRS (id := 9) | apply X_regR (id := 9) | apply X_seqX (x := .seq (.region 9 _ false) _) | apply X_seqX (x := .seq (.seq (.region 9 _ false) _) _) | apply X_regRS (id := 20) | apply X_regR (id := 20) | apply X_seqX (x := .seq (.region 20 _ false) _) | apply X_seqX (x := .seq (.seq (.region 20 _ false) _) _) | apply X_regRS (id := 22) | apply X_regR (id := 22) | apply X_seqX (x := .seq (.region 22 _ false) _) | apply X_seqX (x := .seq (.seq (.region 22 _ false) _) _)) | refine X_of _ ?_ | with_reducible (first | exact ⟨_, rfl⟩ | refine And.intro ?_ ?_ | intro _)) <;> try simp -implicitDefEqProofs (maxSteps := 1000000) (disch := first | exact dz1 | fail) only [vcR, vcT, Int.reduceBEq, Int.reduceBNe, Int.reduceEq, Int.reduceNe, Ab.part, Nat.reduceAdd, Nat.reduceMul, Nat.reduceLeDiff, Nat.reduceEqDiff, Nat.reduceBEq, Nat.reduceBNe, reduceCtorEq, ↓reduceIte, implies_true, forall_const, Int.reduceNeg, Int.reduceToNat, Int.reduceLT, Int.reduceLE, Int.reduceAdd, Int.reduceSub, Int.reduceMul, Int.reducePow, Nat.reducePow, true_or, Option.isNone_some, Option.isNone_none, vcXPb, Tryd.f104, List.toList_toArray, arr4_zero, nat4_set1, nat4_setL, nat4_set0]))
          refine X_loop (ι := Nat) (fun k => k ≤ i ∧ prT P E k < 2 ^ 256) (fun k => i - k) [9, 10, 43, 44, 45, 46, 47, 48, 49, 50, 51, 52, 53, 54, 55, 56, 57, 58, 59, 60, 61, 62, 63, 64, 65, 66, 67, 68, 69, 70, 71]
            (fun k => [(43, .s (.v (.int .i64 (k : Nat))))])
            (fun k => [(1, nat4 (prT P E k))]) 0 (shape_of fun k => ?_) (by decide) ?_ ?_
          · simp only [List.length_cons, List.length_nil, List.map_cons, List.map_nil, List.nodup_cons, List.nodup_nil, List.mem_cons, Nat.reduceAdd, Nat.reduceEqDiff, or_false, not_false_eq_true, forall_eq_or_imp, forall_eq, or_self, Nat.reduceLT, Nat.reduceLeDiff, and_self, List.forall_mem_cons, List.not_mem_nil, false_implies, implies_true, and_true, true_and, vcOPb]
          · simp -implicitDefEqProofs (maxSteps := 1000000) (disch := first | exact dz1 | fail) only [vcR, vcT, Int.reduceBEq, Int.reduceBNe, Int.reduceEq, Int.reduceNe, Ab.part, Nat.reduceAdd, Nat.reduceMul, Nat.reduceLeDiff, Nat.reduceEqDiff, Nat.reduceBEq, Nat.reduceBNe, reduceCtorEq, ↓reduceIte, implies_true, forall_const, Int.reduceNeg, Int.reduceToNat, Int.reduceLT, Int.reduceLE, Int.reduceAdd, Int.reduceSub, Int.reduceMul, Int.reducePow, Nat.reducePow, true_or, Option.isNone_some, Option.isNone_none, vcXPb, Tryd.f104, List.toList_toArray, again_eq]
            exact ⟨by show 1 < _; decide, _, rfl, rfl⟩
          · intro k us2 ⟨hk, hkT⟩
            by_cases hki : k < i
            · obtain ⟨ad, rfl⟩ := hadr (by omega)
              have hx : ∀ {K : TV → HE → Prop}, xext (ctx0 Tryd.prog w) (some true) 5 (ad.add (k * 5)) K = K (.agg (fac (P k) (E k))) .none := fun {K} => hN.fac hki
              have hPk := hP k
              obtain ⟨e, he⟩ : ∃ e : Nat, E k = (e : Int) := ⟨(E k).toNat, by have := (eBad_false.1 (hbad k hki)).1; omega⟩
              have he255 : e ≤ 255 := by have := (eBad_false.1 (hbad k hki)).2; omega
              rw [he] at hx
              (repeat' ((first | with_reducible (first | apply XR_slice | apply XR_arrAt | apply XR_cons | apply XR_consG | apply XR_nil | apply cF_pure1 (by assumption) | apply cF_ev1 (by assumption) | apply cF_pure1 (mul_c _ _ bd1 bd1)) | with_reducible (first | apply X_regRS (id := 7) | apply X_regR (id := 7) | apply X_seqX (x := .seq (.region 7 _ false) _) | apply X_seqX (x := .seq (.seq (.region 7 _ false) _) _) | apply X_regRS (id := 9) | apply X_regR (id := 9) | apply X_seqX (x := .seq (.region 9 _ false) _) | apply X_seqX (x := .seq (.seq (.region 9 _ false) _) _) | apply X_regRS (id := 20) | apply X_regR (id := 20) | apply X_seqX (x := .seq (.region 20 _ false) _) | apply X_seqX (x := .seq (.seq (.region 20 _ false) _) _) | apply X_regRS (id := 22) | apply X_regR (id := 22) | apply X_seqX (x := .seq (.region 22 _ false) _) | apply X_seqX (x := .seq (.seq (.region 22 _ false) _) _)) | refine X_of _ ?_ | with_reducible (first | exact ⟨_, rfl⟩ | refine And.intro ?_ ?_ | intro _)) <;> try simp -implicitDefEqProofs (maxSteps := 1000000) (disch := first | exact dz1 | fail) only [vcR, vcT, Int.reduceBEq, Int.reduceBNe, Int.reduceEq, Int.reduceNe, Ab.part, Nat.reduceAdd, Nat.reduceMul, Nat.reduceLeDiff, Nat.reduceEqDiff, Nat.reduceBEq, Nat.reduceBNe, reduceCtorEq, ↓reduceIte, implies_true, forall_const, Int.reduceNeg, Int.reduceToNat, Int.reduceLT, Int.reduceLE, Int.reduceAdd, Int.reduceSub, Int.reduceMul, Int.reducePow, Nat.reducePow, true_or, Option.isNone_some, Option.isNone_none, vcXPb, Tryd.f104, List.toList_toArray, arr4_zero, nat4_set1, nat4_setL, nat4_set0, hx]))
              obtain ⟨t, ht⟩ : ∃ t, prT P E k = t := ⟨_, rfl⟩
              have hpart := fun q (hq : q ≤ e) => prT_part (E := E) (k := q) hpos hki (by rw [he]; exact hq)
              have hnext : prT P E (k + 1) = t * P k ^ e := by
                show prT P E k * P k ^ (E k).toNat = _
                rw [ht, he]; rfl
              rw [ht] at hkT hpart ⊢
              refine X_loop (ι := Nat) (fun q => q ≤ e ∧ t * P k ^ q < 2 ^ 256) (fun q => e - q) [10, 49, 50, 51, 52, 53, 54, 55, 56, 57, 58, 59, 60, 61, 62, 63, 64, 65, 66, 67, 68, 69, 70]
                (fun q => [(49, .s (.v (.int .i64 (q : Nat))))])
                (fun q => [(1, nat4 (t * P k ^ q))]) 0 (shape_of fun q => ?_) (by decide) ?_ ?_
              · simp only [List.length_cons, List.length_nil, List.map_cons, List.map_nil, List.nodup_cons, List.nodup_nil, List.mem_cons, Nat.reduceAdd, Nat.reduceEqDiff, or_false, not_false_eq_true, forall_eq_or_imp, forall_eq, or_self, Nat.reduceLT, Nat.reduceLeDiff, and_self, List.forall_mem_cons, List.not_mem_nil, false_implies, implies_true, and_true, true_and, vcOPb]
              · simp -implicitDefEqProofs (maxSteps := 1000000) (disch := first | exact dz1 | fail) only [vcR, vcT, Int.reduceBEq, Int.reduceBNe, Int.reduceEq, Int.reduceNe, Ab.part, Nat.reduceAdd, Nat.reduceMul, Nat.reduceLeDiff, Nat.reduceEqDiff, Nat.reduceBEq, Nat.reduceBNe, reduceCtorEq, ↓reduceIte, implies_true, forall_const, Int.reduceNeg, Int.reduceToNat, Int.reduceLT, Int.reduceLE, Int.reduceAdd, Int.reduceSub, Int.reduceMul, Int.reducePow, Nat.reducePow, true_or, Option.isNone_some, Option.isNone_none, vcXPb, Tryd.f104, List.toList_toArray, again_eq]
                exact ⟨by rw [Nat.pow_zero, Nat.mul_one]; exact hkT, _, by rw [Nat.pow_zero, Nat.mul_one], rfl⟩
              · intro q us3 ⟨hq, hqT⟩
                by_cases hqe : q < e
                · have hp1 := hpart (q + 1) hqe
                  rw [Nat.pow_succ, ← Nat.mul_assoc] at hp1
                  have hn1 : t * P k ^ (q + 1) = t * P k ^ q * P k := by rw [Nat.pow_succ, Nat.mul_assoc]
                  obtain ⟨o, ho⟩ : ∃ o, t * P k ^ q = o := ⟨_, rfl⟩
                  rw [ho] at hp1 hqT hn1 ⊢
                  by_cases hfit : o * P k < 2 ^ 256
                  · clear hr hpart hnext hadr hbad hP hE
                    have hX := low4_eq (X := o * P k) (Nat.mul_lt_mul'' hqT hPk)
                    rw [decide_eq_true hfit] at hX
                    (repeat' ((first | with_reducible (first | apply XR_slice | apply XR_arrAt | apply XR_cons | apply XR_consG | apply XR_nil | apply cF_pure1 (by assumption) | apply cF_ev1 (by assumption) | apply cF_pure1 (mul_c _ _ bd1 bd1)) | with_reducible (first | apply X_regRS (id := 7) | apply X_regR (id := 7) | apply X_seqX (x := .seq (.region 7 _ false) _) | apply X_seqX (x := .seq (.seq (.region 7 _ false) _) _) | apply X_regRS (id := 9) | apply X_regR (id := 9) | apply X_seqX (x := .seq (.region 9 _ false) _) | apply X_seqX (x := .seq (.seq (.region 9 _ false) _) _) | apply X_regRS (id := 20) | apply X_regR (id := 20) | apply X_seqX (x := .seq (.region 20 _ false) _) | apply X_seqX (x := .seq (.seq (.region 20 _ false) _) _) | apply X_regRS (id := 22) | apply X_regR (id := 22) | apply X_seqX (x := .seq (.region 22 _ false) _) | apply X_seqX (x := .seq (.seq (.region 22 _ false) _) _)) | refine X_of _ ?_ | with_reducible (first | exact ⟨_, rfl⟩ | refine And.intro ?_ ?_ | intro _)) <;> try simp -implicitDefEqProofs (maxSteps := 1000000) (disch := first | exact dz1 | fail) only [vcR, vcT, Int.reduceBEq, Int.reduceBNe, Int.reduceEq, Int.reduceNe, Ab.part, Nat.reduceAdd, Nat.reduceMul, Nat.reduceLeDiff, Nat.reduceEqDiff, Nat.reduceBEq, Nat.reduceBNe, reduceCtorEq, ↓reduceIte, implies_true, forall_const, Int.reduceNeg, Int.reduceToNat, Int.reduceLT, Int.reduceLE, Int.reduceAdd, Int.reduceSub, Int.reduceMul, Int.reducePow, Nat.reducePow, true_or, Option.isNone_some, Option.isNone_none, vcXPb, Tryd.f104, List.toList_toArray, arr4_zero, nat4_set1, nat4_setL, nat4_set0, low4_lits,hX,nat8_tk]))
                    refine ⟨q + 1, by omega, ?_⟩
                    simp -implicitDefEqProofs (maxSteps := 1000000) (disch := first | exact dz1 | fail) only [vcR, vcT, Int.reduceBEq, Int.reduceBNe, Int.reduceEq, Int.reduceNe, Ab.part, Nat.reduceAdd, Nat.reduceMul, Nat.reduceLeDiff, Nat.reduceEqDiff, Nat.reduceBEq, Nat.reduceBNe, reduceCtorEq, ↓reduceIte, implies_true, forall_const, Int.reduceNeg, Int.reduceToNat, Int.reduceLT, Int.reduceLE, Int.reduceAdd, Int.reduceSub, Int.reduceMul, Int.reducePow, Nat.reducePow, true_or, Option.isNone_some, Option.isNone_none, vcXPb, Tryd.f104, List.toList_toArray, again_eq]
                    exact ⟨_, by rw [hn1], rfl⟩
                  · rw [prS_over h40 hbad hz (by omega)] at hr
                    subst hr
                    clear hpart hnext hadr hbad hP hE
                    have hX := low4_eq (X := o * P k) (Nat.mul_lt_mul'' hqT hPk)
                    rw [decide_eq_false hfit] at hX
                    (repeat' ((first | with_reducible (first | apply XR_slice | apply XR_arrAt | apply XR_cons | apply XR_consG | apply XR_nil | apply cF_pure1 (by assumption) | apply cF_ev1 (by assumption) | apply cF_pure1 (mul_c _ _ bd1 bd1)) | with_reducible (first | apply X_regRS (id := 7) | apply X_regR (id := 7) | apply X_seqX (x := .seq (.region 7 _ false) _) | apply X_seqX (x := .seq (.seq (.region 7 _ false) _) _) | apply X_regRS (id := 9) | apply X_regR (id := 9) | apply X_seqX (x := .seq (.region 9 _ false) _) | apply X_seqX (x := .seq (.seq (.region 9 _ false) _) _) | apply X_regRS (id := 20) | apply X_regR (id := 20) | apply X_seqX (x := .seq (.region 20 _ false) _) | apply X_seqX (x := .seq (.seq (.region 20 _ false) _) _) | apply X_regRS (id := 22) | apply X_regR (id := 22) | apply X_seqX (x := .seq (.region 22 _ false) _) | apply X_seqX (x := .seq (.seq (.region 22 _ false) _) _)) | refine X_of _ ?_ | with_reducible (first | exact ⟨_, rfl⟩ | refine And.intro ?_ ?_ | intro _)) <;> try simp -implicitDefEqProofs (maxSteps := 1000000) (disch := first | exact dz1 | fail) only [vcR, vcT, Int.reduceBEq, Int.reduceBNe, Int.reduceEq, Int.reduceNe, Ab.part, Nat.reduceAdd, Nat.reduceMul, Nat.reduceLeDiff, Nat.reduceEqDiff, Nat.reduceBEq, Nat.reduceBNe, reduceCtorEq, ↓reduceIte, implies_true, forall_const, Int.reduceNeg, Int.reduceToNat, Int.reduceLT, Int.reduceLE, Int.reduceAdd, Int.reduceSub, Int.reduceMul, Int.reducePow, Nat.reducePow, true_or, Option.isNone_some, Option.isNone_none, vcXPb, Tryd.f104, List.toList_toArray, arr4_zero, nat4_set1, nat4_setL, nat4_set0, low4_lits,hX,nat8_tk]))
                · have : q = e := by omega
                  subst this
                  clear hr hpart hadr hbad hP hE
                  (repeat' ((first | with_reducible (first | apply XR_slice | apply XR_arrAt | apply XR_cons | apply XR_consG | apply XR_nil | apply cF_pure1 (by assumption) | apply cF_ev1 (by assumption) | apply cF_pure1 (mul_c _ _ bd1 bd1)) | with_reducible (first | apply X_regRS (id := 7) | apply X_regR (id := 7) | apply X_seqX (x := .seq (.region 7 _ false) _) | apply X_seqX (x := .seq (.seq (.region 7 _ false) _) _) | apply X_regRS (id := 9) | apply X_regR (id := 9) | apply X_seqX (x := .seq (.region 9 _ false) _) | apply X_seqX (x := .seq (.seq (.region 9 _ false) _) _) | apply X_regRS (id := 20) | apply X_regR (id := 20) | apply X_seqX (x := .seq (.region 20 _ false) _) | apply X_seqX (x := .seq (.seq (.region 20 _ false) _) _) | apply X_regRS (id := 22) | apply X_regR (id := 22) | apply X_seqX (x := .seq (.region 22 _ false) _) | apply X_seqX (x := .seq (.seq (.region 22 _ false) _) _)) | refine X_of _ ?_ | with_reducible (first | exact ⟨_, rfl⟩ | refine And.intro ?_ ?_ | intro _)) <;> try simp -implicitDefEqProofs (maxSteps := 1000000) (disch := first | exact dz1 | fail) only [vcR, vcT, Int.reduceBEq, Int.reduceBNe, Int.reduceEq, Int.reduceNe, Ab.part, Nat.reduceAdd, Nat.reduceMul, Nat.reduceLeDiff, Nat.reduceEqDiff, Nat.reduceBEq, Nat.reduceBNe, reduceCtorEq, ↓reduceIte, implies_true, forall_const, Int.reduceNeg, Int.reduceToNat, Int.reduceLT, Int.reduceLE, Int.reduceAdd, Int.reduceSub, Int.reduceMul, Int.reducePow, Nat.reducePow, true_or, Option.isNone_some, Option.isNone_none, vcXPb, Tryd.f104, List.toList_toArray, arr4_zero, nat4_set1, nat4_setL, nat4_set0]))
                  refine ⟨k + 1, by omega, ?_⟩
                  simp -implicitDefEqProofs (maxSteps := 1000000) (disch := first | exact dz1 | fail) only [vcR, vcT, Int.reduceBEq, Int.reduceBNe, Int.reduceEq, Int.reduceNe, Ab.part, Nat.reduceAdd, Nat.reduceMul, Nat.reduceLeDiff, Nat.reduceEqDiff, Nat.reduceBEq, Nat.reduceBNe, reduceCtorEq, ↓reduceIte, implies_true, forall_const, Int.reduceNeg, Int.reduceToNat, Int.reduceLT, Int.reduceLE, Int.reduceAdd, Int.reduceSub, Int.reduceMul, Int.reducePow, Nat.reducePow, true_or, Option.isNone_some, Option.isNone_none, vcXPb, Tryd.f104, List.toList_toArray, again_eq]
                  exact ⟨_, by rw [hnext], rfl⟩
            · have : k = i := by omega
              subst this
              rw [prS_fits h40 hbad hz hkT] at hr
              subst hr
              (repeat' ((first | with_reducible (first | apply XR_slice | apply XR_arrAt | apply XR_cons | apply XR_consG | apply XR_nil | apply cF_pure1 (by assumption) | apply cF_ev1 (by assumption) | apply cF_pure1 (mul_c _ _ bd1 bd1)) | with_reducible (first | apply X_regRS (id := 7) | apply X_regR (id := 7) | apply X_seqX (x := .seq (.region 7 _ false) _) | apply X_seqX (x := .seq (.seq (.region 7 _ false) _) _) | apply X_regRS (id := 9) | apply X_regR (id := 9) | apply X_seqX (x := .seq (.region 9 _ false) _) | apply X_seqX (x := .seq (.seq (.region 9 _ false) _) _) | apply X_regRS (id := 20) | apply X_regR (id := 20) | apply X_seqX (x := .seq (.region 20 _ false) _) | apply X_seqX (x := .seq (.seq (.region 20 _ false) _) _) | apply X_regRS (id := 22) | apply X_regR (id := 22) | apply X_seqX (x := .seq (.region 22 _ false) _) | apply X_seqX (x := .seq (.seq (.region 22 _ false) _) _)) | refine X_of _ ?_ | with_reducible (first | exact ⟨_, rfl⟩ | refine And.intro ?_ ?_ | intro _)) <;> try simp -implicitDefEqProofs (maxSteps := 1000000) (disch := first | exact dz1 | fail) only [vcR, vcT, Int.reduceBEq, Int.reduceBNe, Int.reduceEq, Int.reduceNe, Ab.part, Nat.reduceAdd, Nat.reduceMul, Nat.reduceLeDiff, Nat.reduceEqDiff, Nat.reduceBEq, Nat.reduceBNe, reduceCtorEq, ↓reduceIte, implies_true, forall_const, Int.reduceNeg, Int.reduceToNat, Int.reduceLT, Int.reduceLE, Int.reduceAdd, Int.reduceSub, Int.reduceMul, Int.reducePow, Nat.reducePow, true_or, Option.isNone_some, Option.isNone_none, vcXPb, Tryd.f104, List.toList_toArray, arr4_zero, nat4_set1, nat4_setL, nat4_set0]))
end Go.Proofs.YtdmcknmjdlghgaaDoor
namespace Go.Proofs.YtdmcknmjdlghgaaDoor
open Go Go.Ab
set_option linter.unusedSimpArgs false
set_option linter.unusedVariables false
set_option linter.defProp false
set_option maxHeartbeats 20000000
set_option maxRecDepth 100000

theorem odd_iff {N : Nat} (hN : N < 2 ^ 256) : OddM N ↔ (N % 2 = 1 ∧ 3 ≤ N) := ⟨fun h => ⟨h.odd, by have := h.gt; have := h.odd; omega⟩, fun h => ⟨hN, h.1, by omega⟩⟩

theorem sg_nlt0 {a b : Nat} (h : ¬ a < b) : ¬ sg a b < 0 := by
  unfold sg
  rw [if_neg h]
  split <;> decide


theorem step_m (N G : Nat) (x : Option Addr) (n c : Nat) (P : Nat → Nat) (E : Nat → Int) (hN : N < 2 ^ 256) (hG : G < 2 ^ 256) (hP : ∀ i, P i < 2 ^ 256) (hE : ∀ i, -9223372036854775808 ≤ E i ∧ E i < 9223372036854775808) (hn : n < 9223372036854775808) :
    PureM Tryd.prog 92 [.agg (prf N G (.v (.slice x n c)))] (fun w => facs x n P E w ∧ least w) (.s (.v (.int .i64 (stS N G n P E)))) := by
  have hpr := (product_m x n c P E hP hE hn).ev (V := Evo.none)
  have hpl := prS_lt (n := n) (P := P) (E := E) hP
  obtain ⟨a, e, hae⟩ : ∃ a e, prS n P E = (a, e) := ⟨_, _, rfl⟩
  rw [hae] at hpr hpl
  dsimp only at hpr
  have ha : a < 2 ^ 256 := hpl
  clear hpl
  obtain ⟨r, hr⟩ : ∃ r, stS N G n P E = r := ⟨_, rfl⟩
  rw [hr]
  (refine pureM_of Tryd.func92 rfl (by simp only [List.length_cons, List.length_nil, List.map_cons, List.map_nil, List.nodup_cons, List.nodup_nil, List.mem_cons, Nat.reduceAdd, Nat.reduceEqDiff, or_false, not_false_eq_true, forall_eq_or_imp, forall_eq, or_self, Nat.reduceLT, Nat.reduceLeDiff, and_self, List.forall_mem_cons, List.not_mem_nil, false_implies, implies_true, and_true, true_and, vcOPb]) (by simp only [List.length_cons, List.length_nil, List.map_cons, List.map_nil, List.nodup_cons, List.nodup_nil, List.mem_cons, Nat.reduceAdd, Nat.reduceEqDiff, or_false, not_false_eq_true, forall_eq_or_imp, forall_eq, or_self, Nat.reduceLT, Nat.reduceLeDiff, and_self, List.forall_mem_cons, List.not_mem_nil, false_implies, implies_true, and_true, true_and, vcOPb]) fun w hpre => ?_; simp only [List.length_cons, List.length_nil, Tryd.ntmps92, Nat.reduceAdd, Nat.reduceSub, List.replicate_succ, List.replicate_zero, List.cons_append, List.nil_append])
  have hF0 : Kn (ctx0 Tryd.prog w) fun _ w => facs x n P E w := (facs_kn hpre.1).facs0
  have hadr : n ≠ 0 → ∃ ad, x = some ad := fun h => by
    rcases hpre.1 with h0 | ⟨ad, h0, _⟩
    · omega
    · exact ⟨ad, h0⟩
  by_cases he : e ≠ 0
  · have he' : (e != 0) = true := by simpa using he
    rw [stS_e hae he] at hr
    subst hr
    clear hpre
    (repeat' ((first | with_reducible (first | apply XQ_cons | apply XQ_consG | apply XQ_nil | apply XR_cons | apply XR_consG | apply XR_nil | apply cF_pure1 (by assumption) | apply cV_pure1 (by assumption) | apply cF_ev1 (by assumption) | apply cV_ev1 (by assumption) | apply cF_pure1 (cmp_c _ _ bd1 bd1) | apply cV_pure1 (cmp_c _ _ bd1 bd1) | apply cF_pure1 (div_c _ _ bd1 bd1 bd1) | apply cV_pure1 (div_c _ _ bd1 bd1 bd1) | apply cF_ev1 (pow_e _ _ _ _ bd1 bd1 bd1) | apply cV_ev1 (pow_e _ _ _ _ bd1 bd1 bd1)) | ((with_reducible apply cF_new1 (by assumption)); (first | rintro _ _ ⟨rfl, rfl⟩ | rintro _ _ ⟨_, _, rfl, rfl⟩)) | with_reducible (first | apply X_regRS (id := 1) | apply X_regR (id := 1) | apply X_seqX (x := .seq (.region 1 _ false) _) | apply X_seqX (x := .seq (.seq (.region 1 _ false) _) _) | apply X_regRS (id := 5) | apply X_regR (id := 5) | apply X_seqX (x := .seq (.region 5 _ false) _) | apply X_seqX (x := .seq (.seq (.region 5 _ false) _) _) | apply X_regRS (id := 6) | apply X_regR (id := 6) | apply X_seqX (x := .seq (.region 6 _ false) _) | apply X_seqX (x := .seq (.seq (.region 6 _ false) _) _) | apply X_regRS (id := 14) | apply X_regR (id := 14) | apply X_seqX (x := .seq (.region 14 _ false) _) | apply X_seqX (x := .seq (.seq (.region 14 _ false) _) _)) | (with_reducible apply X_drawC (id := 7) 16; (next => (kernel_rfl)); (next => (kernel_rfl))) | (with_reducible apply X_drawC (id := 15) 7; (next => (kernel_rfl)); (next => (kernel_rfl))) | refine X_of _ ?_ | with_reducible (first | exact ⟨_, rfl⟩ | refine And.intro ?_ ?_ | intro _)) <;> try simp -implicitDefEqProofs (maxSteps := 1000000) (disch := first | exact dz1 | fail) only [vcR, vcT, Int.reduceBEq, Int.reduceBNe, Int.reduceEq, Int.reduceNe, Ab.part, Nat.reduceAdd, Nat.reduceMul, Nat.reduceLeDiff, Nat.reduceEqDiff, Nat.reduceBEq, Nat.reduceBNe, reduceCtorEq, ↓reduceIte, implies_true, forall_const, Int.reduceNeg, Int.reduceToNat, Int.reduceLT, Int.reduceLE, Int.reduceAdd, Int.reduceSub, Int.reduceMul, Int.reducePow, Nat.reducePow, true_or, Option.isNone_some, Option.isNone_none, vcXPb, Tryd.f92, List.toList_toArray, arr4_zero, nat4_set1, nat4_setL, nat4_set0, he']))
  · have he0 : e = 0 := Classical.not_not.1 he
    subst he0
    by_cases hO : OddM N
    · have h3 := hO.gt
      have hsub := sub_c N 1 (N - 1) 0 hN (by decide) (by omega) (by omega)
      have hnew := new_good N hO
      have hO' := (odd_iff hN).1 hO
      have hl1 : litsEq (lits 4 (wd a)) (lits 4 (wd (N - 1))) = decide (a = N - 1) := litsEq_nat4 ha (by omega)
      obtain ⟨M1, hNM⟩ : ∃ M1, N - 1 = M1 := ⟨_, rfl⟩
      rw [hNM] at hsub hl1
      have hM1l : M1 < 2 ^ 256 := by omega
      have hl2 : litsEq (lits 4 (wd (G ^ M1 % N))) (lits 4 (wd 1)) = decide (G ^ M1 % N = 1) := litsEq_nat4 hO.mod_lt (by decide)
      by_cases ha1 : a = M1
      · rw [decide_eq_true ha1] at hl1
        by_cases hR1 : G ^ M1 % N = 1
        · rw [decide_eq_true hR1] at hl2
          (repeat' ((first | ((refine X_modM 4 [0, 1, 2, 3] rfl (by decide) (by decide) ?_ ?_ ?_ ?_); (next => (with_reducible assumption)); (next => (simp)); (next => (simp [pickH_cons, pickH_nil, consH_some])); (intro β1 w1 hM1 hK1); (have hN0 := hK1 _ (facsAt_stays _ x n P E) (facs_at _ hpre.1)); (have hN1 := hK1 _ (natsAt_stays _ _ _ _) (least_at _ hpre.2))) | with_reducible (first | apply XQ_cons | apply XQ_consG | apply XQ_nil | apply XR_cons | apply XR_consG | apply XR_nil | apply cF_pure1 (by assumption) | apply cV_pure1 (by assumption) | apply cF_ev1 (by assumption) | apply cV_ev1 (by assumption) | apply cF_pure1 (cmp_c _ _ bd1 bd1) | apply cV_pure1 (cmp_c _ _ bd1 bd1) | apply cF_pure1 (div_c _ _ bd1 bd1 bd1) | apply cV_pure1 (div_c _ _ bd1 bd1 bd1) | apply cF_ev1 (pow_e _ _ _ _ bd1 bd1 bd1) | apply cV_ev1 (pow_e _ _ _ _ bd1 bd1 bd1)) | ((with_reducible apply cF_new1 (by assumption)); (first | rintro _ _ ⟨rfl, rfl⟩ | rintro _ _ ⟨_, _, rfl, rfl⟩)) | with_reducible (first | apply X_regRS (id := 1) | apply X_regR (id := 1) | apply X_seqX (x := .seq (.region 1 _ false) _) | apply X_seqX (x := .seq (.seq (.region 1 _ false) _) _) | apply X_regRS (id := 5) | apply X_regR (id := 5) | apply X_seqX (x := .seq (.region 5 _ false) _) | apply X_seqX (x := .seq (.seq (.region 5 _ false) _) _) | apply X_regRS (id := 6) | apply X_regR (id := 6) | apply X_seqX (x := .seq (.region 6 _ false) _) | apply X_seqX (x := .seq (.seq (.region 6 _ false) _) _) | apply X_regRS (id := 14) | apply X_regR (id := 14) | apply X_seqX (x := .seq (.region 14 _ false) _) | apply X_seqX (x := .seq (.seq (.region 14 _ false) _) _)) | (with_reducible apply X_drawC (id := 7) 16; (next => (kernel_rfl)); (next => (kernel_rfl))) | (with_reducible apply X_drawC (id := 15) 7; (next => (kernel_rfl)); (next => (kernel_rfl))) | refine X_of _ ?_ | with_reducible (first | exact ⟨_, rfl⟩ | refine And.intro ?_ ?_ | intro _)) <;> try simp -implicitDefEqProofs (maxSteps := 1000000) (disch := first | exact dz1 | fail) only [vcR, vcT, Int.reduceBEq, Int.reduceBNe, Int.reduceEq, Int.reduceNe, Ab.part, Nat.reduceAdd, Nat.reduceMul, Nat.reduceLeDiff, Nat.reduceEqDiff, Nat.reduceBEq, Nat.reduceBNe, reduceCtorEq, ↓reduceIte, implies_true, forall_const, Int.reduceNeg, Int.reduceToNat, Int.reduceLT, Int.reduceLE, Int.reduceAdd, Int.reduceSub, Int.reduceMul, Int.reducePow, Nat.reducePow, true_or, Option.isNone_some, Option.isNone_none, vcXPb, Tryd.f92, List.toList_toArray, arr4_zero, nat4_set1, nat4_setL, nat4_set0, hl1,hl2,bne_self_eq_false]))
          refine X_loop (ι := Nat) (fun i => i ≤ n ∧ ∀ j, j < i → stB N G P j = false) (fun i => n - i) [11, 12, 13, 14, 57, 58, 59, 60, 61, 62, 63, 64, 65, 66, 67, 68, 69, 70, 71, 72, 73, 74, 75, 76, 77, 78, 79, 80, 81]
            (fun i => [(57, .s (.v (.int .i64 (i : Nat))))])
            (fun i => []) 0 (shape_of fun i => ?_) (by decide) ?_ ?_
          · simp only [List.length_cons, List.length_nil, List.map_cons, List.map_nil, List.nodup_cons, List.nodup_nil, List.mem_cons, Nat.reduceAdd, Nat.reduceEqDiff, or_false, not_false_eq_true, forall_eq_or_imp, forall_eq, or_self, Nat.reduceLT, Nat.reduceLeDiff, and_self, List.forall_mem_cons, List.not_mem_nil, false_implies, implies_true, and_true, true_and, vcOPb]
          · simp -implicitDefEqProofs (maxSteps := 1000000) (disch := first | exact dz1 | fail) only [vcR, vcT, Int.reduceBEq, Int.reduceBNe, Int.reduceEq, Int.reduceNe, Ab.part, Nat.reduceAdd, Nat.reduceMul, Nat.reduceLeDiff, Nat.reduceEqDiff, Nat.reduceBEq, Nat.reduceBNe, reduceCtorEq, ↓reduceIte, implies_true, forall_const, Int.reduceNeg, Int.reduceToNat, Int.reduceLT, Int.reduceLE, Int.reduceAdd, Int.reduceSub, Int.reduceMul, Int.reducePow, Nat.reducePow, true_or, Option.isNone_some, Option.isNone_none, vcXPb, Tryd.f92, List.toList_toArray, again_eq]
            exact ⟨_, rfl⟩
          · intro i us ⟨hi, hb⟩
            by_cases h : i < n
            · obtain ⟨ad, rfl⟩ := hadr (by omega)
              have hx : ∀ {K : TV → HE → Prop}, xext ((ctx0 Tryd.prog w).after (modEvo 108) w.heap.size w1 β1 [0, 1, 2, 3]) (some true) 5 (ad.add (i * 5)) K = K (.agg (fac (P i) (E i))) .none := fun {K} => hN0.fac h
              have hg : ∀ {K : TV → HE → Prop}, xext ((ctx0 Tryd.prog w).after (modEvo 108) w.heap.size w1 β1 [0, 1, 2, 3]) (some true) 4 ⟨3, 0, none⟩ K = K (.agg (nat4 2)) .none := fun {K} => hN1.least
              have hPi := hP i
              clear hpre hP hE hadr hpr hF0 hsub
              by_cases hp2 : P i < 2
              · have hs := sg_lt0 hp2
                rw [stS_b hae hO' (by rw [hNM]; exact ha1) (by rw [hNM]; exact hR1) h (stB_lt hp2)] at hr
                subst hr
                (repeat' ((first | with_reducible (first | apply XQ_cons | apply XQ_consG | apply XQ_nil | apply XR_cons | apply XR_consG | apply XR_nil | apply cF_pure1 (by assumption) | apply cV_pure1 (by assumption) | apply cF_ev1 (by assumption) | apply cV_ev1 (by assumption) | apply cF_pure1 (cmp_c _ _ bd1 bd1) | apply cV_pure1 (cmp_c _ _ bd1 bd1) | apply cF_pure1 (div_c _ _ bd1 bd1 bd1) | apply cV_pure1 (div_c _ _ bd1 bd1 bd1) | apply cF_ev1 (pow_e _ _ _ _ bd1 bd1 bd1) | apply cV_ev1 (pow_e _ _ _ _ bd1 bd1 bd1)) | ((with_reducible apply cF_new1 (by assumption)); (first | rintro _ _ ⟨rfl, rfl⟩ | rintro _ _ ⟨_, _, rfl, rfl⟩)) | with_reducible (first | apply X_regRS (id := 1) | apply X_regR (id := 1) | apply X_seqX (x := .seq (.region 1 _ false) _) | apply X_seqX (x := .seq (.seq (.region 1 _ false) _) _) | apply X_regRS (id := 5) | apply X_regR (id := 5) | apply X_seqX (x := .seq (.region 5 _ false) _) | apply X_seqX (x := .seq (.seq (.region 5 _ false) _) _) | apply X_regRS (id := 6) | apply X_regR (id := 6) | apply X_seqX (x := .seq (.region 6 _ false) _) | apply X_seqX (x := .seq (.seq (.region 6 _ false) _) _) | apply X_regRS (id := 14) | apply X_regR (id := 14) | apply X_seqX (x := .seq (.region 14 _ false) _) | apply X_seqX (x := .seq (.seq (.region 14 _ false) _) _)) | (with_reducible apply X_drawC (id := 7) 16; (next => (kernel_rfl)); (next => (kernel_rfl))) | (with_reducible apply X_drawC (id := 15) 7; (next => (kernel_rfl)); (next => (kernel_rfl))) | refine X_of _ ?_ | with_reducible (first | exact ⟨_, rfl⟩ | refine And.intro ?_ ?_ | intro _)) <;> try simp -implicitDefEqProofs (maxSteps := 1000000) (disch := first | exact dz1 | fail) only [vcR, vcT, Int.reduceBEq, Int.reduceBNe, Int.reduceEq, Int.reduceNe, Ab.part, Nat.reduceAdd, Nat.reduceMul, Nat.reduceLeDiff, Nat.reduceEqDiff, Nat.reduceBEq, Nat.reduceBNe, reduceCtorEq, ↓reduceIte, implies_true, forall_const, Int.reduceNeg, Int.reduceToNat, Int.reduceLT, Int.reduceLE, Int.reduceAdd, Int.reduceSub, Int.reduceMul, Int.reducePow, Nat.reducePow, true_or, Option.isNone_some, Option.isNone_none, vcXPb, Tryd.f92, List.toList_toArray, arr4_zero, nat4_set1, nat4_setL, nat4_set0, hx,hg,hs]))
              · have hs := sg_nlt0 hp2
                have hq : M1 / P i < 2 ^ 256 := Nat.lt_of_le_of_lt (Nat.div_le_self _ _) hM1l
                have hp0 : 0 < P i := by omega
                have hl3 : litsEq (lits 4 (wd (G ^ (M1 / P i) % N))) (lits 4 (wd 1)) = decide (G ^ (M1 / P i) % N = 1) := litsEq_nat4 hO.mod_lt (by decide)
                have hsb := stB_eq (N := N) (G := G) hp2
                rw [hNM] at hsb
                by_cases hg1 : G ^ (M1 / P i) % N = 1
                · rw [decide_eq_true hg1] at hl3 hsb
                  rw [stS_b hae hO' (by rw [hNM]; exact ha1) (by rw [hNM]; exact hR1) h hsb] at hr
                  subst hr
                  (repeat' ((first | with_reducible (first | apply XQ_cons | apply XQ_consG | apply XQ_nil | apply XR_cons | apply XR_consG | apply XR_nil | apply cF_pure1 (by assumption) | apply cV_pure1 (by assumption) | apply cF_ev1 (by assumption) | apply cV_ev1 (by assumption) | apply cF_pure1 (cmp_c _ _ bd1 bd1) | apply cV_pure1 (cmp_c _ _ bd1 bd1) | apply cF_pure1 (div_c _ _ bd1 bd1 bd1) | apply cV_pure1 (div_c _ _ bd1 bd1 bd1) | apply cF_ev1 (pow_e _ _ _ _ bd1 bd1 bd1) | apply cV_ev1 (pow_e _ _ _ _ bd1 bd1 bd1)) | ((with_reducible apply cF_new1 (by assumption)); (first | rintro _ _ ⟨rfl, rfl⟩ | rintro _ _ ⟨_, _, rfl, rfl⟩)) | with_reducible (first | apply X_regRS (id := 1) | apply X_regR (id := 1) | apply X_seqX (x := .seq (.region 1 _ false) _) | apply X_seqX (x := .seq (.seq (.region 1 _ false) _) _) | apply X_regRS (id := 5) | apply X_regR (id := 5) | apply X_seqX (x := .seq (.region 5 _ false) _) | apply X_seqX (x := .seq (.seq (.region 5 _ false) _) _) | apply X_regRS (id := 6) | apply X_regR (id := 6) | apply X_seqX (x := .seq (.region 6 _ false) _) | apply X_seqX (x := .seq (.seq (.region 6 _ false) _) _) | apply X_regRS (id := 14) | apply X_regR (id := 14) | apply X_seqX (x := .seq (.region 14 _ false) _) | apply X_seqX (x := .seq (.seq (.region 14 _ false) _) _)) | (with_reducible apply X_drawC (id := 7) 16; (next => (kernel_rfl)); (next => (kernel_rfl))) | (with_reducible apply X_drawC (id := 15) 7; (next => (kernel_rfl)); (next => (kernel_rfl))) | refine X_of _ ?_ | with_reducible (first | exact ⟨_, rfl⟩ | refine And.intro ?_ ?_ | intro _)) <;> try simp -implicitDefEqProofs (maxSteps := 1000000) (disch := first | exact dz1 | fail) only [vcR, vcT, Int.reduceBEq, Int.reduceBNe, Int.reduceEq, Int.reduceNe, Ab.part, Nat.reduceAdd, Nat.reduceMul, Nat.reduceLeDiff, Nat.reduceEqDiff, Nat.reduceBEq, Nat.reduceBNe, reduceCtorEq, ↓reduceIte, implies_true, forall_const, Int.reduceNeg, Int.reduceToNat, Int.reduceLT, Int.reduceLE, Int.reduceAdd, Int.reduceSub, Int.reduceMul, Int.reducePow, Nat.reducePow, true_or, Option.isNone_some, Option.isNone_none, vcXPb, Tryd.f92, List.toList_toArray, arr4_zero, nat4_set1, nat4_setL, nat4_set0, hx,hg,hs,hl3]))
                · rw [decide_eq_false hg1] at hl3 hsb
                  have hb' : ∀ j, j < i + 1 → stB N G P j = false := fun j hj => by
                    by_cases hji : j = i
                    · subst hji; exact hsb
                    · exact hb j (by omega)
                  clear hr hb hsb
                  (repeat' ((first | with_reducible (first | apply XQ_cons | apply XQ_consG | apply XQ_nil | apply XR_cons | apply XR_consG | apply XR_nil | apply cF_pure1 (by assumption) | apply cV_pure1 (by assumption) | apply cF_ev1 (by assumption) | apply cV_ev1 (by assumption) | apply cF_pure1 (cmp_c _ _ bd1 bd1) | apply cV_pure1 (cmp_c _ _ bd1 bd1) | apply cF_pure1 (div_c _ _ bd1 bd1 bd1) | apply cV_pure1 (div_c _ _ bd1 bd1 bd1) | apply cF_ev1 (pow_e _ _ _ _ bd1 bd1 bd1) | apply cV_ev1 (pow_e _ _ _ _ bd1 bd1 bd1)) | ((with_reducible apply cF_new1 (by assumption)); (first | rintro _ _ ⟨rfl, rfl⟩ | rintro _ _ ⟨_, _, rfl, rfl⟩)) | with_reducible (first | apply X_regRS (id := 1) | apply X_regR (id := 1) | apply X_seqX (x := .seq (.region 1 _ false) _) | apply X_seqX (x := .seq (.seq (.region 1 _ false) _) _) | apply X_regRS (id := 5) | apply X_regR (id := 5) | apply X_seqX (x := .seq (.region 5 _ false) _) | apply X_seqX (x := .seq (.seq (.region 5 _ false) _) _) | apply X_regRS (id := 6) | apply X_regR (id := 6) | apply X_seqX (x := .seq (.region 6 _ false) _) | apply X_seqX (x := .seq (.seq (.region 6 _ false) _) _) | apply X_regRS (id := 14) | apply X_regR (id := 14) | apply X_seqX (x := .seq (.region 14 _ false) _) | apply X_seqX (x := .seq (.seq (.region 14 _ false) _) _)) | (with_reducible apply X_drawC (id := 7) 16; (next => (kernel_rfl)); (next => (kernel_rfl))) | (with_reducible apply X_drawC (id := 15) 7; (next => (kernel_rfl)); (next => (kernel_rfl))) | refine X_of _ ?_ | with_reducible (first | exact ⟨_, rfl⟩ | refine And.intro ?_ ?_ | intro _)) <;> try simp -implicitDefEqProofs (maxSteps := 1000000) (disch := first | exact dz1 | fail) only [vcR, vcT, Int.reduceBEq, Int.reduceBNe, Int.reduceEq, Int.reduceNe, Ab.part, Nat.reduceAdd, Nat.reduceMul, Nat.reduceLeDiff, Nat.reduceEqDiff, Nat.reduceBEq, Nat.reduceBNe, reduceCtorEq, ↓reduceIte, implies_true, forall_const, Int.reduceNeg, Int.reduceToNat, Int.reduceLT, Int.reduceLE, Int.reduceAdd, Int.reduceSub, Int.reduceMul, Int.reducePow, Nat.reducePow, true_or, Option.isNone_some, Option.isNone_none, vcXPb, Tryd.f92, List.toList_toArray, arr4_zero, nat4_set1, nat4_setL, nat4_set0, hx,hg,hs,hl3]))
                  refine ⟨i + 1, by omega, ?_⟩
                  simp -implicitDefEqProofs (maxSteps := 1000000) (disch := first | exact dz1 | fail) only [vcR, vcT, Int.reduceBEq, Int.reduceBNe, Int.reduceEq, Int.reduceNe, Ab.part, Nat.reduceAdd, Nat.reduceMul, Nat.reduceLeDiff, Nat.reduceEqDiff, Nat.reduceBEq, Nat.reduceBNe, reduceCtorEq, ↓reduceIte, implies_true, forall_const, Int.reduceNeg, Int.reduceToNat, Int.reduceLT, Int.reduceLE, Int.reduceAdd, Int.reduceSub, Int.reduceMul, Int.reducePow, Nat.reducePow, true_or, Option.isNone_some, Option.isNone_none, vcXPb, Tryd.f92, List.toList_toArray, again_eq]
                  exact ⟨hb', _, rfl⟩
            · have : i = n := by omega
              subst this
              rw [stS_o hae hO' (by rw [hNM]; exact ha1) (by rw [hNM]; exact hR1) hb] at hr
              subst hr
              (repeat' ((first | with_reducible (first | apply XQ_cons | apply XQ_consG | apply XQ_nil | apply XR_cons | apply XR_consG | apply XR_nil | apply cF_pure1 (by assumption) | apply cV_pure1 (by assumption) | apply cF_ev1 (by assumption) | apply cV_ev1 (by assumption) | apply cF_pure1 (cmp_c _ _ bd1 bd1) | apply cV_pure1 (cmp_c _ _ bd1 bd1) | apply cF_pure1 (div_c _ _ bd1 bd1 bd1) | apply cV_pure1 (div_c _ _ bd1 bd1 bd1) | apply cF_ev1 (pow_e _ _ _ _ bd1 bd1 bd1) | apply cV_ev1 (pow_e _ _ _ _ bd1 bd1 bd1)) | ((with_reducible apply cF_new1 (by assumption)); (first | rintro _ _ ⟨rfl, rfl⟩ | rintro _ _ ⟨_, _, rfl, rfl⟩)) | with_reducible (first | apply X_regRS (id := 1) | apply X_regR (id := 1) | apply X_seqX (x := .seq (.region 1 _ false) _) | apply X_seqX (x := .seq (.seq (.region 1 _ false) _) _) | apply X_regRS (id := 5) | apply X_regR (id := 5) | apply X_seqX (x := .seq (.region 5 _ false) _) | apply X_seqX (x := .seq (.seq (.region 5 _ false) _) _) | apply X_regRS (id := 6) | apply X_regR (id := 6) | apply X_seqX (x := .seq (.region 6 _ false) _) | apply X_seqX (x := .seq (.seq (.region 6 _ false) _) _) | apply X_regRS (id := 14) | apply X_regR (id := 14) | apply X_seqX (x := .seq (.region 14 _ false) _) | apply X_seqX (x := .seq (.seq (.region 14 _ false) _) _)) | (with_reducible apply X_drawC (id := 7) 16; (next => (kernel_rfl)); (next => (kernel_rfl))) | (with_reducible apply X_drawC (id := 15) 7; (next => (kernel_rfl)); (next => (kernel_rfl))) | refine X_of _ ?_ | with_reducible (first | exact ⟨_, rfl⟩ | refine And.intro ?_ ?_ | intro _)) <;> try simp -implicitDefEqProofs (maxSteps := 1000000) (disch := first | exact dz1 | fail) only [vcR, vcT, Int.reduceBEq, Int.reduceBNe, Int.reduceEq, Int.reduceNe, Ab.part, Nat.reduceAdd, Nat.reduceMul, Nat.reduceLeDiff, Nat.reduceEqDiff, Nat.reduceBEq, Nat.reduceBNe, reduceCtorEq, ↓reduceIte, implies_true, forall_const, Int.reduceNeg, Int.reduceToNat, Int.reduceLT, Int.reduceLE, Int.reduceAdd, Int.reduceSub, Int.reduceMul, Int.reducePow, Nat.reducePow, true_or, Option.isNone_some, Option.isNone_none, vcXPb, Tryd.f92, List.toList_toArray, arr4_zero, nat4_set1, nat4_setL, nat4_set0]))
        · rw [decide_eq_false hR1] at hl2
          rw [stS_p hae hO' (.inr (by rw [hNM]; exact hR1))] at hr
          subst hr
          (repeat' ((first | ((refine X_modM 4 [0, 1, 2, 3] rfl (by decide) (by decide) ?_ ?_ ?_ ?_); (next => (with_reducible assumption)); (next => (simp)); (next => (simp [pickH_cons, pickH_nil, consH_some])); (intro β1 w1 hM1 hK1); (have hN0 := hK1 _ (facsAt_stays _ x n P E) (facs_at _ hpre.1))) | with_reducible (first | apply XQ_cons | apply XQ_consG | apply XQ_nil | apply XR_cons | apply XR_consG | apply XR_nil | apply cF_pure1 (by assumption) | apply cV_pure1 (by assumption) | apply cF_ev1 (by assumption) | apply cV_ev1 (by assumption) | apply cF_pure1 (cmp_c _ _ bd1 bd1) | apply cV_pure1 (cmp_c _ _ bd1 bd1) | apply cF_pure1 (div_c _ _ bd1 bd1 bd1) | apply cV_pure1 (div_c _ _ bd1 bd1 bd1) | apply cF_ev1 (pow_e _ _ _ _ bd1 bd1 bd1) | apply cV_ev1 (pow_e _ _ _ _ bd1 bd1 bd1)) | ((with_reducible apply cF_new1 (by assumption)); (first | rintro _ _ ⟨rfl, rfl⟩ | rintro _ _ ⟨_, _, rfl, rfl⟩)) | with_reducible (first | apply X_regRS (id := 1) | apply X_regR (id := 1) | apply X_seqX (x := .seq (.region 1 _ false) _) | apply X_seqX (x := .seq (.seq (.region 1 _ false) _) _) | apply X_regRS (id := 5) | apply X_regR (id := 5) | apply X_seqX (x := .seq (.region 5 _ false) _) | apply X_seqX (x := .seq (.seq (.region 5 _ false) _) _) | apply X_regRS (id := 6) | apply X_regR (id := 6) | apply X_seqX (x := .seq (.region 6 _ false) _) | apply X_seqX (x := .seq (.seq (.region 6 _ false) _) _) | apply X_regRS (id := 14) | apply X_regR (id := 14) | apply X_seqX (x := .seq (.region 14 _ false) _) | apply X_seqX (x := .seq (.seq (.region 14 _ false) _) _)) | (with_reducible apply X_drawC (id := 7) 16; (next => (kernel_rfl)); (next => (kernel_rfl))) | (with_reducible apply X_drawC (id := 15) 7; (next => (kernel_rfl)); (next => (kernel_rfl))) | refine X_of _ ?_ | with_reducible (first | exact ⟨_, rfl⟩ | refine And.intro ?_ ?_ | intro _)) <;> try simp -implicitDefEqProofs (maxSteps := 1000000) (disch := first | exact dz1 | fail) only [vcR, vcT, Int.reduceBEq, Int.reduceBNe, Int.reduceEq, Int.reduceNe, Ab.part, Nat.reduceAdd, Nat.reduceMul, Nat.reduceLeDiff, Nat.reduceEqDiff, Nat.reduceBEq, Nat.reduceBNe, reduceCtorEq, ↓reduceIte, implies_true, forall_const, Int.reduceNeg, Int.reduceToNat, Int.reduceLT, Int.reduceLE, Int.reduceAdd, Int.reduceSub, Int.reduceMul, Int.reducePow, Nat.reducePow, true_or, Option.isNone_some, Option.isNone_none, vcXPb, Tryd.f92, List.toList_toArray, arr4_zero, nat4_set1, nat4_setL, nat4_set0, hl1,hl2,bne_self_eq_false]))
      · rw [decide_eq_false ha1] at hl1
        rw [stS_p hae hO' (.inl (by rw [hNM]; exact ha1))] at hr
        subst hr
        (repeat' ((first | ((refine X_modM 4 [0, 1, 2, 3] rfl (by decide) (by decide) ?_ ?_ ?_ ?_); (next => (with_reducible assumption)); (next => (simp)); (next => (simp [pickH_cons, pickH_nil, consH_some])); (intro β1 w1 hM1 hK1); (have hN0 := hK1 _ (facsAt_stays _ x n P E) (facs_at _ hpre.1))) | with_reducible (first | apply XQ_cons | apply XQ_consG | apply XQ_nil | apply XR_cons | apply XR_consG | apply XR_nil | apply cF_pure1 (by assumption) | apply cV_pure1 (by assumption) | apply cF_ev1 (by assumption) | apply cV_ev1 (by assumption) | apply cF_pure1 (cmp_c _ _ bd1 bd1) | apply cV_pure1 (cmp_c _ _ bd1 bd1) | apply cF_pure1 (div_c _ _ bd1 bd1 bd1) | apply cV_pure1 (div_c _ _ bd1 bd1 bd1) | apply cF_ev1 (pow_e _ _ _ _ bd1 bd1 bd1) | apply cV_ev1 (pow_e _ _ _ _ bd1 bd1 bd1)) | ((with_reducible apply cF_new1 (by assumption)); (first | rintro _ _ ⟨rfl, rfl⟩ | rintro _ _ ⟨_, _, rfl, rfl⟩)) | with_reducible (first | apply X_regRS (id := 1) | apply X_regR (id := 1) | apply X_seqX (x := .seq (.region 1 _ false) _) | apply X_seqX (x := .seq (.seq (.region 1 _ false) _) _) | apply X_regRS (id := 5) | apply X_regR (id := 5) | apply X_seqX (x := .seq (.region 5 _ false) _) | apply X_seqX (x := .seq (.seq (.region 5 _ false) _) _) | apply X_regRS (id := 6) | apply X_regR (id := 6) | apply X_seqX (x := .seq (.region 6 _ false) _) | apply X_seqX (x := .seq (.seq (.region 6 _ false) _) _) | apply X_regRS (id := 14) | apply X_regR (id := 14) | apply X_seqX (x := .seq (.region 14 _ false) _) | apply X_seqX (x := .seq (.seq (.region 14 _ false) _) _)) | (with_reducible apply X_drawC (id := 7) 16; (next => (kernel_rfl)); (next => (kernel_rfl))) | (with_reducible apply X_drawC (id := 15) 7; (next => (kernel_rfl)); (next => (kernel_rfl))) | refine X_of _ ?_ | with_reducible (first | exact ⟨_, rfl⟩ | refine And.intro ?_ ?_ | intro _)) <;> try simp -implicitDefEqProofs (maxSteps := 1000000) (disch := first | exact dz1 | fail) only [vcR, vcT, Int.reduceBEq, Int.reduceBNe, Int.reduceEq, Int.reduceNe, Ab.part, Nat.reduceAdd, Nat.reduceMul, Nat.reduceLeDiff, Nat.reduceEqDiff, Nat.reduceBEq, Nat.reduceBNe, reduceCtorEq, ↓reduceIte, implies_true, forall_const, Int.reduceNeg, Int.reduceToNat, Int.reduceLT, Int.reduceLE, Int.reduceAdd, Int.reduceSub, Int.reduceMul, Int.reducePow, Nat.reducePow, true_or, Option.isNone_some, Option.isNone_none, vcXPb, Tryd.f92, List.toList_toArray, arr4_zero, nat4_set1, nat4_setL, nat4_set0, hl1,bne_self_eq_false]))
    · have hnew := new_bad N hN hO
      rw [stS_m hae (fun h => hO ((odd_iff hN).2 h))] at hr
      subst hr
      clear hpre
      obtain ⟨M1, bo, hM1, hsub⟩ : ∃ M1 bo, M1 < 2 ^ 256 ∧ PureC Tryd.prog 87 [.agg (nat4 N), .agg (nat4 1)] (.tup [.agg (nat4 M1), .s (.v (.int .u64 (bo : Int)))]) := by
        by_cases h0 : N = 0
        · exact ⟨2 ^ 256 - 1, 1, by omega, sub_c N 1 (2 ^ 256 - 1) 1 hN (by decide) (by omega) (by omega)⟩
        · exact ⟨N - 1, 0, by omega, sub_c N 1 (N - 1) 0 hN (by decide) (by omega) (by omega)⟩
      have hc : (chk N != 0) = true := by
        rcases chk_bad hN hO with h | h <;> rw [h] <;> rfl
      (repeat' ((first | with_reducible (first | apply XQ_cons | apply XQ_consG | apply XQ_nil | apply XR_cons | apply XR_consG | apply XR_nil | apply cF_pure1 (by assumption) | apply cV_pure1 (by assumption) | apply cF_ev1 (by assumption) | apply cV_ev1 (by assumption) | apply cF_pure1 (cmp_c _ _ bd1 bd1) | apply cV_pure1 (cmp_c _ _ bd1 bd1) | apply cF_pure1 (div_c _ _ bd1 bd1 bd1) | apply cV_pure1 (div_c _ _ bd1 bd1 bd1) | apply cF_ev1 (pow_e _ _ _ _ bd1 bd1 bd1) | apply cV_ev1 (pow_e _ _ _ _ bd1 bd1 bd1)) | ((with_reducible apply cF_new1 (by assumption)); (first | rintro _ _ ⟨rfl, rfl⟩ | rintro _ _ ⟨_, _, rfl, rfl⟩)) | with_reducible (first | apply X_regRS (id := 1) | apply X_regR (id := 1) | apply X_seqX (x := .seq (.region 1 _ false) _) | apply X_seqX (x := .seq (.seq (.region 1 _ false) _) _) | apply X_regRS (id := 5) | apply X_regR (id := 5) | apply X_seqX (x := .seq (.region 5 _ false) _) | apply X_seqX (x := .seq (.seq (.region 5 _ false) _) _) | apply X_regRS (id := 6) | apply X_regR (id := 6) | apply X_seqX (x := .seq (.region 6 _ false) _) | apply X_seqX (x := .seq (.seq (.region 6 _ false) _) _) | apply X_regRS (id := 14) | apply X_regR (id := 14) | apply X_seqX (x := .seq (.region 14 _ false) _) | apply X_seqX (x := .seq (.seq (.region 14 _ false) _) _)) | (with_reducible apply X_drawC (id := 7) 16; (next => (kernel_rfl)); (next => (kernel_rfl))) | (with_reducible apply X_drawC (id := 15) 7; (next => (kernel_rfl)); (next => (kernel_rfl))) | refine X_of _ ?_ | with_reducible (first | exact ⟨_, rfl⟩ | refine And.intro ?_ ?_ | intro _)) <;> try simp -implicitDefEqProofs (maxSteps := 1000000) (disch := first | exact dz1 | fail) only [vcR, vcT, Int.reduceBEq, Int.reduceBNe, Int.reduceEq, Int.reduceNe, Ab.part, Nat.reduceAdd, Nat.reduceMul, Nat.reduceLeDiff, Nat.reduceEqDiff, Nat.reduceBEq, Nat.reduceBNe, reduceCtorEq, ↓reduceIte, implies_true, forall_const, Int.reduceNeg, Int.reduceToNat, Int.reduceLT, Int.reduceLE, Int.reduceAdd, Int.reduceSub, Int.reduceMul, Int.reducePow, Nat.reducePow, true_or, Option.isNone_some, Option.isNone_none, vcXPb, Tryd.f92, List.toList_toArray, arr4_zero, nat4_set1, nat4_setL, nat4_set0, hc,bne_self_eq_false]))
end Go.Proofs.YtdmcknmjdlghgaaDoor
namespace Go.Proofs.YtdmcknmjdlghgaaDoor
open Go Go.Ab
set_option linter.unusedSimpArgs false
set_option linter.unusedVariables false
set_option linter.defProp false
set_option maxHeartbeats 20000000
set_option maxRecDepth 100000

theorem mapTy : MapTy Tryd.prog 131 24 3 where
  m := by kernel_rfl
  row := by kernel_rfl
  kk := by kernel_rfl
  lit n _ := litsA_arr tf24_u (by kernel_rfl : Tryd.prog.underlying 22 = some (.int .u64)) (by kernel_rfl) (by kernel_rfl) fun i _ => wd_lt n i
  zero := by kernel_rfl
theorem look_z {Γ : Ctx} {b n : Nat} {p : Nat → Bool} {mt kt et : TypeId} (M : MapTy Γ.P mt kt et) (hno : ¬ Γ.own b) (hA : Kn Γ fun _ w => MapAt b p w) (hn : n < 2 ^ 256) :
    ∃ z : Int, ∀ (H : Heap) (T : List TV) (m k : Operand), ev T m = .s (.v (.map (some b))) → ev T k = .agg (nat4 n) → Sound Γ (.lookup mt m k true) (ev T) H (.tup [.s (.v (.int .i64 z)), .s (.v (.bool (p n)))]) .none := by
  obtain ⟨es, c, hb, hp⟩ := hA _ (FrP.now Γ)
  obtain ⟨z, hz⟩ := run_look (b := b) (c := c) M hp hn
  refine ⟨z, fun H T m k hm hk o β ρ w ho hρ hR => ?_⟩
  have hsame : w.heap[b]? = some (.map es c) := by
    have hlt := (Array.getElem?_eq_some_iff.1 hb).1
    rcases hR.fr.blk b hlt with h1 | h1 | ⟨_, o1, o2, h2, _, h4⟩
    · exact absurd h1 hno
    · exact h1.trans hb
    · rw [hb] at h2
      injection h2 with h2
      obtain ⟨c', t', f', he, _⟩ := Γ.ev.ofE _ _ h4
      rw [← h2] at he
      cases he
  have e1 : ρ m = .map (some b) := by rw [hρ, hm]; rfl
  have e2 : ρ k = natV n := by rw [hρ, hk, natV_conc]
  simp [Does, execOp, ho, e1, e2, hz w hsame, Result.andThen, conc_tup, AV.conc, SV.conc]


theorem has_m (b n : Nat) (p : Nat → Bool) (hn : n < 2 ^ 256) : PureM Tryd.prog 74 [.s (.v (.map (some b))), .agg (nat4 n)] (fun w => MapAt b p w) (.s (.v (.bool (p n)))) := by
  (refine pureM_of Tryd.func74 rfl (by simp only [List.length_cons, List.length_nil, List.map_cons, List.map_nil, List.nodup_cons, List.nodup_nil, List.mem_cons, Nat.reduceAdd, Nat.reduceEqDiff, or_false, not_false_eq_true, forall_eq_or_imp, forall_eq, or_self, Nat.reduceLT, Nat.reduceLeDiff, and_self, List.forall_mem_cons, List.not_mem_nil, false_implies, implies_true, and_true, true_and, vcOPb]) (by simp only [List.length_cons, List.length_nil, List.map_cons, List.map_nil, List.nodup_cons, List.nodup_nil, List.mem_cons, Nat.reduceAdd, Nat.reduceEqDiff, or_false, not_false_eq_true, forall_eq_or_imp, forall_eq, or_self, Nat.reduceLT, Nat.reduceLeDiff, and_self, List.forall_mem_cons, List.not_mem_nil, false_implies, implies_true, and_true, true_and, vcOPb]) fun w hpre => ?_; simp only [List.length_cons, List.length_nil, Tryd.ntmps74, Nat.reduceAdd, Nat.reduceSub, List.replicate_succ, List.replicate_zero, List.cons_append, List.nil_append])
  have hA : Kn (ctx0 Tryd.prog w) fun _ w => MapAt b p w := kn0_law (stays_map Evo.none b p) hpre
  obtain ⟨z, hz⟩ := look_z (Γ := ctx0 Tryd.prog w) mapTy (fun h => h) hA hn
  (iterate 2 ((first | with_reducible (first | apply XR_cons | apply XR_consG | apply XR_nil | apply cF_pure1 (by assumption) | apply cF_ev1 (by assumption)) | with_reducible (first | apply X_regRS (id := 1) | apply X_regR (id := 1) | apply X_seqX (x := .seq (.region 1 _ false) _) | apply X_seqX (x := .seq (.seq (.region 1 _ false) _) _)) | refine X_of _ ?_ | with_reducible (first | exact ⟨_, rfl⟩ | refine And.intro ?_ ?_ | intro _)) <;> try simp -implicitDefEqProofs (maxSteps := 1000000) (disch := first | exact dz1 | fail) only [vcR, vcT, Int.reduceBEq, Int.reduceBNe, Int.reduceEq, Int.reduceNe, Ab.part, Nat.reduceAdd, Nat.reduceMul, Nat.reduceLeDiff, Nat.reduceEqDiff, Nat.reduceBEq, Nat.reduceBNe, reduceCtorEq, ↓reduceIte, implies_true, forall_const, Int.reduceNeg, Int.reduceToNat, Int.reduceLT, Int.reduceLE, Int.reduceAdd, Int.reduceSub, Int.reduceMul, Int.reducePow, Nat.reducePow, true_or, Option.isNone_some, Option.isNone_none, vcXPb, Tryd.f74, List.toList_toArray, arr4_zero, nat4_set1, nat4_setL, nat4_set0]))
  refine XR_cons ?_
  try simp -implicitDefEqProofs (maxSteps := 1000000) (disch := first | exact dz1 | fail) only [vcR, vcT, Int.reduceBEq, Int.reduceBNe, Int.reduceEq, Int.reduceNe, Ab.part, Nat.reduceAdd, Nat.reduceMul, Nat.reduceLeDiff, Nat.reduceEqDiff, Nat.reduceBEq, Nat.reduceBNe, reduceCtorEq, ↓reduceIte, implies_true, forall_const, Int.reduceNeg, Int.reduceToNat, Int.reduceLT, Int.reduceLE, Int.reduceAdd, Int.reduceSub, Int.reduceMul, Int.reducePow, Nat.reducePow, true_or, Option.isNone_some, Option.isNone_none, vcXPb, Tryd.f74, List.toList_toArray]
  refine XR_cons ?_
  try simp -implicitDefEqProofs (maxSteps := 1000000) (disch := first | exact dz1 | fail) only [vcR, vcT, Int.reduceBEq, Int.reduceBNe, Int.reduceEq, Int.reduceNe, Ab.part, Nat.reduceAdd, Nat.reduceMul, Nat.reduceLeDiff, Nat.reduceEqDiff, Nat.reduceBEq, Nat.reduceBNe, reduceCtorEq, ↓reduceIte, implies_true, forall_const, Int.reduceNeg, Int.reduceToNat, Int.reduceLT, Int.reduceLE, Int.reduceAdd, Int.reduceSub, Int.reduceMul, Int.reducePow, Nat.reducePow, true_or, Option.isNone_some, Option.isNone_none, vcXPb, Tryd.f74, List.toList_toArray]
  refine XR_law (hz _ _ _ _ rfl rfl) ?_
  try simp -implicitDefEqProofs (maxSteps := 1000000) (disch := first | exact dz1 | fail) only [vcR, vcT, Int.reduceBEq, Int.reduceBNe, Int.reduceEq, Int.reduceNe, Ab.part, Nat.reduceAdd, Nat.reduceMul, Nat.reduceLeDiff, Nat.reduceEqDiff, Nat.reduceBEq, Nat.reduceBNe, reduceCtorEq, ↓reduceIte, implies_true, forall_const, Int.reduceNeg, Int.reduceToNat, Int.reduceLT, Int.reduceLE, Int.reduceAdd, Int.reduceSub, Int.reduceMul, Int.reducePow, Nat.reducePow, true_or, Option.isNone_some, Option.isNone_none, vcXPb, Tryd.f74, List.toList_toArray]
  (repeat' ((first | with_reducible (first | apply XR_cons | apply XR_consG | apply XR_nil | apply cF_pure1 (by assumption) | apply cF_ev1 (by assumption)) | with_reducible (first | apply X_regRS (id := 1) | apply X_regR (id := 1) | apply X_seqX (x := .seq (.region 1 _ false) _) | apply X_seqX (x := .seq (.seq (.region 1 _ false) _) _)) | refine X_of _ ?_ | with_reducible (first | exact ⟨_, rfl⟩ | refine And.intro ?_ ?_ | intro _)) <;> try simp -implicitDefEqProofs (maxSteps := 1000000) (disch := first | exact dz1 | fail) only [vcR, vcT, Int.reduceBEq, Int.reduceBNe, Int.reduceEq, Int.reduceNe, Ab.part, Nat.reduceAdd, Nat.reduceMul, Nat.reduceLeDiff, Nat.reduceEqDiff, Nat.reduceBEq, Nat.reduceBNe, reduceCtorEq, ↓reduceIte, implies_true, forall_const, Int.reduceNeg, Int.reduceToNat, Int.reduceLT, Int.reduceLE, Int.reduceAdd, Int.reduceSub, Int.reduceMul, Int.reducePow, Nat.reducePow, true_or, Option.isNone_some, Option.isNone_none, vcXPb, Tryd.f74, List.toList_toArray, arr4_zero, nat4_set1, nat4_setL, nat4_set0]))
end Go.Proofs.YtdmcknmjdlghgaaDoor
namespace Go.Proofs.YtdmcknmjdlghgaaDoor
open Go Go.Ab
set_option linter.unusedSimpArgs false
set_option linter.unusedVariables false
set_option linter.defProp false
set_option maxHeartbeats 20000000
set_option maxRecDepth 100000

theorem seqA_n {K : KA} {Q : QA} {T : List TV} {H : Heap} {A : World → Prop} : seqA K Q .normal T H A = K T H A := rfl
theorem seqA_r {K : KA} {Q : QA} {T : List TV} {H : Heap} {A : World → Prop} : seqA K Q .ret T H A = Q .ret T H A := rfl
theorem seqA_x {K : KA} {Q : QA} {T : List TV} {H : Heap} {A : World → Prop} {i : Nat} : seqA K Q (.exit i) T H A = Q (.exit i) T H A := rfl
theorem blockA_n {id : Nat} {Q : QA} {T : List TV} {H : Heap} {A : World → Prop} : blockA id Q .normal T H A = Q .normal T H A := rfl
theorem blockA_r {id : Nat} {Q : QA} {T : List TV} {H : Heap} {A : World → Prop} : blockA id Q .ret T H A = Q .ret T H A := rfl
theorem blockA_x {id i : Nat} {Q : QA} {T : List TV} {H : Heap} {A : World → Prop} : blockA id Q (.exit i) T H A = if i = id then Q .normal T H A else Q (.exit i) T H A := rfl
theorem retA_n {P : Program} {rs : List ResultVar} {R : TV → Heap → (World → Prop) → Prop} {T : List TV} {H : Heap} {A : World → Prop} : retA P rs R .normal T H A = retV (resAll P T H rs) fun v => R v H A := rfl
theorem retA_r {P : Program} {rs : List ResultVar} {R : TV → Heap → (World → Prop) → Prop} {T : List TV} {H : Heap} {A : World → Prop} : retA P rs R .ret T H A = retV (resAll P T H rs) fun v => R v H A := rfl
section
variable {ι : Type} {T0 : List TV} {H0 : Heap} {V : ι → Prop} {μ : ι → Nat} {js : List Nat} {sv : ι → List (Nat × TV)} {hv : ι → List (Nat × List SV)} {AA : ι → World → Prop} {i : ι} {Q : QA} {T : List TV} {H : Heap} {A : World → Prop}
theorem loopA_n : loopA T0 H0 V μ js sv hv AA i Q .normal T H A = ∃ i', μ i' < μ i ∧ Again T0 H0 V js sv hv T H i' ∧ A = AA i' := rfl
theorem loopA_r : loopA T0 H0 V μ js sv hv AA i Q .ret T H A = Q .ret T H A := rfl
theorem loopA_x {j : Nat} : loopA T0 H0 V μ js sv hv AA i Q (.exit j) T H A = Q (.exit j) T H A := rfl
end
/-- What check hands back. -/
def CkR (w : World) (l : Nat → Pf) (m : Nat) (v : TV) (A : World → Prop) : Prop :=
  ∃ b p, w.heap.size ≤ b ∧ v = .tup [.s (.v (.map (some b))), .s (.v (.int .i64 (ckS l m)))] ∧ A = MapAt b p ∧ (ckS l m = 0 → p = knS l m)
theorem XAR_A {Γ : Ctx} {A A' : World → Prop} {ops : Array Oper} {l : List Oper} {T : List TV} {H : Heap} {K : KA} (h : A = A') (hx : XAR Γ A' ops l T H K) : XAR Γ A ops l T H K := by rw [h]; exact hx
theorem mapS {b i N G n c : Nat} {l : Nat → Pf} {y : Option Addr} {P : Nat → Nat} {E : Nat → Int} (h : l i = ⟨N, G, y, n, c, P, E⟩) : MapAt b (fun q => knS l i q || q == N) = MapAt b (knS l (i + 1)) := by
  congr 1
  funext q
  rw [knS_succ, h]
theorem map0 (b : Nat) (l : Nat → Pf) : MapAt b (fun i => (fun _ => false) i || i == 2) = MapAt b (knS l 0) := by
  congr 1
  funext i
  rw [knS_zero, Bool.false_or]


theorem check_c (x : Option Addr) (m c : Nat) (l : Nat → Pf) (hl : PfOk l) (hm : m < 9223372036854775808) (w : World) (hp : prfs x m l w) (h2 : least w) :
    Calls Tryd.prog 73 ([TV.s (.v (.slice x m c))].map (TV.conc fun _ => 0)).toArray w fun e w' => ∃ v H' A' β', CkR w l m v A' ∧ A' w' ∧ Rep (ctx0 Tryd.prog w) H' β' w' ∧ ∀ β'', Agrees H'.length β' β'' → e = .returned (v.conc β'') := by
  refine calls_of_XA (Γ := ctx0 Tryd.prog w) (A := fun _ => True) (R := fun v H A => CkR w l m v A) Tryd.func73 rfl (rep0 Tryd.prog w fun _ => 0) trivial (by simp only [List.length_cons, List.length_nil, List.map_cons, List.map_nil, List.nodup_cons, List.nodup_nil, List.mem_cons, Nat.reduceAdd, Nat.reduceEqDiff, or_false, not_false_eq_true, forall_eq_or_imp, forall_eq, or_self, Nat.reduceLT, Nat.reduceLeDiff, and_self, List.forall_mem_cons, List.not_mem_nil, false_implies, implies_true, and_true, true_and, vcOPb]) ?_
  simp only [List.length_cons, List.length_nil, Tryd.ntmps73, Nat.reduceAdd, Nat.reduceSub, List.replicate_succ, List.replicate_zero, List.cons_append, List.nil_append]
  have hP0 := prfs_kn (P0 := Tryd.prog) hp
  have hL0 := least_kn (P0 := Tryd.prog) h2
  have hadr : m ≠ 0 → ∃ ad, x = some ad := fun h => by
    rcases hp.1 with h0 | ⟨ad, h0, _⟩
    · omega
    · exact ⟨ad, h0⟩
  clear hp h2
  refine XA_seq (XA_X [] steady_true rfl (by simp) (by simp) fun β1 w1 hR1 hA1 hK1 => ?_)
  (repeat' ((first | with_reducible (first | apply cF_pure1 (by assumption) | apply cF_ev1 (by assumption)) | refine X_of _ ?_ | with_reducible (first | exact ⟨_, rfl⟩ | refine And.intro ?_ ?_ | intro _)) <;> try simp -implicitDefEqProofs (maxSteps := 1000000) (disch := first | exact dz1 | fail) only [vcR, vcT, Int.reduceBEq, Int.reduceBNe, Int.reduceEq, Int.reduceNe, Ab.part, Nat.reduceAdd, Nat.reduceMul, Nat.reduceLeDiff, Nat.reduceEqDiff, Nat.reduceBEq, Nat.reduceBNe, reduceCtorEq, ↓reduceIte, implies_true, forall_const, Int.reduceNeg, Int.reduceToNat, Int.reduceLT, Int.reduceLE, Int.reduceAdd, Int.reduceSub, Int.reduceMul, Int.reducePow, Nat.reducePow, true_or, Option.isNone_some, Option.isNone_none, vcXPb, Tryd.f73, List.toList_toArray, arr4_zero, nat4_set1, nat4_setL, nat4_set0, seqA_n]))
  clear hR1 hA1 hK1 β1 w1
  refine XA_seq (XA_reg (XAR_mk fun b hb => ?_))
  try simp -implicitDefEqProofs (maxSteps := 1000000) (disch := first | exact dz1 | fail) only [vcR, vcT, Int.reduceBEq, Int.reduceBNe, Int.reduceEq, Int.reduceNe, Ab.part, Nat.reduceAdd, Nat.reduceMul, Nat.reduceLeDiff, Nat.reduceEqDiff, Nat.reduceBEq, Nat.reduceBNe, reduceCtorEq, ↓reduceIte, implies_true, forall_const, Int.reduceNeg, Int.reduceToNat, Int.reduceLT, Int.reduceLE, Int.reduceAdd, Int.reduceSub, Int.reduceMul, Int.reducePow, Nat.reducePow, true_or, Option.isNone_some, Option.isNone_none, vcXPb, Tryd.f73, List.toList_toArray]
  refine XAR_step [] (steady_map _ _) rfl (by simp) (by simp) fun β2 w2 hR2 hA2 hK2 => ?_
  have hg : ∀ {K : TV → HE → Prop}, xext ((ctx0 Tryd.prog w).after (ctx0 Tryd.prog w).ev (ctx0 Tryd.prog w).B w2 β2 []) (some true) 4 ⟨3, 0, none⟩ K = K (.agg (nat4 2)) .none := fun {K} => (hK2 _ hL0).least
  try simp -implicitDefEqProofs (maxSteps := 1000000) (disch := first | exact dz1 | fail) only [vcR, vcT, Int.reduceBEq, Int.reduceBNe, Int.reduceEq, Int.reduceNe, Ab.part, Nat.reduceAdd, Nat.reduceMul, Nat.reduceLeDiff, Nat.reduceEqDiff, Nat.reduceBEq, Nat.reduceBNe, reduceCtorEq, ↓reduceIte, implies_true, forall_const, Int.reduceNeg, Int.reduceToNat, Int.reduceLT, Int.reduceLE, Int.reduceAdd, Int.reduceSub, Int.reduceMul, Int.reducePow, Nat.reducePow, true_or, Option.isNone_some, Option.isNone_none, vcXPb, Tryd.f73, List.toList_toArray, hg]
  clear hg hR2 hA2 hK2 β2 w2
  refine XAR_put mapTy (.inr rfl) hb (n := 2) (z := 0) (by decide) rfl rfl rfl ?_
  refine XAR_A (map0 b l) ?_
  try simp -implicitDefEqProofs (maxSteps := 1000000) (disch := first | exact dz1 | fail) only [vcR, vcT, Int.reduceBEq, Int.reduceBNe, Int.reduceEq, Int.reduceNe, Ab.part, Nat.reduceAdd, Nat.reduceMul, Nat.reduceLeDiff, Nat.reduceEqDiff, Nat.reduceBEq, Nat.reduceBNe, reduceCtorEq, ↓reduceIte, implies_true, forall_const, Int.reduceNeg, Int.reduceToNat, Int.reduceLT, Int.reduceLE, Int.reduceAdd, Int.reduceSub, Int.reduceMul, Int.reducePow, Nat.reducePow, true_or, Option.isNone_some, Option.isNone_none, vcXPb, Tryd.f73, List.toList_toArray]
  refine XAR_step [] (steady_map _ _) rfl (by simp) (by simp) fun β2 w2 hR2 hA2 hK2 => ?_
  try simp -implicitDefEqProofs (maxSteps := 1000000) (disch := first | exact dz1 | fail) only [vcR, vcT, Int.reduceBEq, Int.reduceBNe, Int.reduceEq, Int.reduceNe, Ab.part, Nat.reduceAdd, Nat.reduceMul, Nat.reduceLeDiff, Nat.reduceEqDiff, Nat.reduceBEq, Nat.reduceBNe, reduceCtorEq, ↓reduceIte, implies_true, forall_const, Int.reduceNeg, Int.reduceToNat, Int.reduceLT, Int.reduceLE, Int.reduceAdd, Int.reduceSub, Int.reduceMul, Int.reducePow, Nat.reducePow, true_or, Option.isNone_some, Option.isNone_none, vcXPb, Tryd.f73, List.toList_toArray]
  clear hK2 hA2 hR2 w2 β2
  refine XAR_step [] (steady_map _ _) rfl (by simp) (by simp) fun β2 w2 hR2 hA2 hK2 => ?_
  try simp -implicitDefEqProofs (maxSteps := 1000000) (disch := first | exact dz1 | fail) only [vcR, vcT, Int.reduceBEq, Int.reduceBNe, Int.reduceEq, Int.reduceNe, Ab.part, Nat.reduceAdd, Nat.reduceMul, Nat.reduceLeDiff, Nat.reduceEqDiff, Nat.reduceBEq, Nat.reduceBNe, reduceCtorEq, ↓reduceIte, implies_true, forall_const, Int.reduceNeg, Int.reduceToNat, Int.reduceLT, Int.reduceLE, Int.reduceAdd, Int.reduceSub, Int.reduceMul, Int.reducePow, Nat.reducePow, true_or, Option.isNone_some, Option.isNone_none, vcXPb, Tryd.f73, List.toList_toArray]
  clear hK2 hA2 hR2 w2 β2
  refine XAR_nil ?_
  try simp -implicitDefEqProofs (maxSteps := 1000000) (disch := first | exact dz1 | fail) only [vcR, vcT, Int.reduceBEq, Int.reduceBNe, Int.reduceEq, Int.reduceNe, Ab.part, Nat.reduceAdd, Nat.reduceMul, Nat.reduceLeDiff, Nat.reduceEqDiff, Nat.reduceBEq, Nat.reduceBNe, reduceCtorEq, ↓reduceIte, implies_true, forall_const, Int.reduceNeg, Int.reduceToNat, Int.reduceLT, Int.reduceLE, Int.reduceAdd, Int.reduceSub, Int.reduceMul, Int.reducePow, Nat.reducePow, true_or, Option.isNone_some, Option.isNone_none, vcXPb, Tryd.f73, List.toList_toArray, seqA_n]
  by_cases h40 : 40 < m
  · have h40' : (40 : Int) < (m : Int) := by omega
    refine XA_seq (XA_X [] (steady_map _ _) rfl (by simp) (by simp) fun β1 w1 hR1 hA1 hK1 => ?_)
    (repeat' ((first | with_reducible (first | apply cF_pure1 (by assumption) | apply cF_ev1 (by assumption)) | refine X_of _ ?_ | with_reducible (first | exact ⟨_, rfl⟩ | refine And.intro ?_ ?_ | intro _)) <;> try simp -implicitDefEqProofs (maxSteps := 1000000) (disch := first | exact dz1 | fail) only [vcR, vcT, Int.reduceBEq, Int.reduceBNe, Int.reduceEq, Int.reduceNe, Ab.part, Nat.reduceAdd, Nat.reduceMul, Nat.reduceLeDiff, Nat.reduceEqDiff, Nat.reduceBEq, Nat.reduceBNe, reduceCtorEq, ↓reduceIte, implies_true, forall_const, Int.reduceNeg, Int.reduceToNat, Int.reduceLT, Int.reduceLE, Int.reduceAdd, Int.reduceSub, Int.reduceMul, Int.reducePow, Nat.reducePow, true_or, Option.isNone_some, Option.isNone_none, vcXPb, Tryd.f73, List.toList_toArray, arr4_zero, nat4_set1, nat4_setL, nat4_set0, seqA_n,seqA_r,seqA_x,blockA_n,blockA_r,blockA_x,loopA_n,loopA_r,loopA_x,retA_n,retA_r,h40']))
    exact ⟨b, _, hb, by rw [ckS_long h40], rfl, fun h => by rw [ckS_long h40] at h; cases h⟩
  · have h40' : ¬ (40 : Int) < (m : Int) := by omega
    refine XA_seq (XA_X [] (steady_map _ _) rfl (by simp) (by simp) fun β1 w1 hR1 hA1 hK1 => ?_)
    (repeat' ((first | with_reducible (first | apply cF_pure1 (by assumption) | apply cF_ev1 (by assumption)) | refine X_of _ ?_ | with_reducible (first | exact ⟨_, rfl⟩ | refine And.intro ?_ ?_ | intro _)) <;> try simp -implicitDefEqProofs (maxSteps := 1000000) (disch := first | exact dz1 | fail) only [vcR, vcT, Int.reduceBEq, Int.reduceBNe, Int.reduceEq, Int.reduceNe, Ab.part, Nat.reduceAdd, Nat.reduceMul, Nat.reduceLeDiff, Nat.reduceEqDiff, Nat.reduceBEq, Nat.reduceBNe, reduceCtorEq, ↓reduceIte, implies_true, forall_const, Int.reduceNeg, Int.reduceToNat, Int.reduceLT, Int.reduceLE, Int.reduceAdd, Int.reduceSub, Int.reduceMul, Int.reducePow, Nat.reducePow, true_or, Option.isNone_some, Option.isNone_none, vcXPb, Tryd.f73, List.toList_toArray, arr4_zero, nat4_set1, nat4_setL, nat4_set0, seqA_n,seqA_r,seqA_x,blockA_n,blockA_r,blockA_x,loopA_n,loopA_r,loopA_x,retA_n,retA_r,h40']))
    clear hK1 hA1 hR1 w1 β1
    refine XA_seq (XA_seq (XA_X [] (steady_map _ _) rfl (by simp) (by simp) fun β1 w1 hR1 hA1 hK1 => ?_))
    (repeat' ((first | with_reducible (first | apply cF_pure1 (by assumption) | apply cF_ev1 (by assumption)) | refine X_of _ ?_ | with_reducible (first | exact ⟨_, rfl⟩ | refine And.intro ?_ ?_ | intro _)) <;> try simp -implicitDefEqProofs (maxSteps := 1000000) (disch := first | exact dz1 | fail) only [vcR, vcT, Int.reduceBEq, Int.reduceBNe, Int.reduceEq, Int.reduceNe, Ab.part, Nat.reduceAdd, Nat.reduceMul, Nat.reduceLeDiff, Nat.reduceEqDiff, Nat.reduceBEq, Nat.reduceBNe, reduceCtorEq, ↓reduceIte, implies_true, forall_const, Int.reduceNeg, Int.reduceToNat, Int.reduceLT, Int.reduceLE, Int.reduceAdd, Int.reduceSub, Int.reduceMul, Int.reducePow, Nat.reducePow, true_or, Option.isNone_some, Option.isNone_none, vcXPb, Tryd.f73, List.toList_toArray, arr4_zero, nat4_set1, nat4_setL, nat4_set0, seqA_n,seqA_r,seqA_x,blockA_n,blockA_r,blockA_x,loopA_n,loopA_r,loopA_x,retA_n,retA_r]))
    clear hK1 hA1 hR1 w1 β1
    refine XA_block (XA_loop (ι := Nat) (fun i => i ≤ m ∧ ckU l i = 0) (fun i => m - i) [5, 6, 7, 8, 9, 19, 20, 21, 22, 23, 24, 25, 26, 27, 28, 29, 30, 31, 32, 33, 34, 35, 36, 37, 38, 39, 40, 41, 42, 43, 44, 45, 46, 47, 48, 49]
      (fun i => [(19, .s (.v (.int .i64 (i : Nat))))]) (fun i => []) (fun i => MapAt b (knS l i)) 0 (shape_of fun i => ?_) (by decide) ?_ rfl ?_)
    · simp only [List.length_cons, List.length_nil, List.map_cons, List.map_nil, List.nodup_cons, List.nodup_nil, List.mem_cons, Nat.reduceAdd, Nat.reduceEqDiff, or_false, not_false_eq_true, forall_eq_or_imp, forall_eq, or_self, Nat.reduceLT, Nat.reduceLeDiff, and_self, List.forall_mem_cons, List.not_mem_nil, false_implies, implies_true, and_true, true_and, vcOPb]
    · simp -implicitDefEqProofs (maxSteps := 1000000) (disch := first | exact dz1 | fail) only [vcR, vcT, Int.reduceBEq, Int.reduceBNe, Int.reduceEq, Int.reduceNe, Ab.part, Nat.reduceAdd, Nat.reduceMul, Nat.reduceLeDiff, Nat.reduceEqDiff, Nat.reduceBEq, Nat.reduceBNe, reduceCtorEq, ↓reduceIte, implies_true, forall_const, Int.reduceNeg, Int.reduceToNat, Int.reduceLT, Int.reduceLE, Int.reduceAdd, Int.reduceSub, Int.reduceMul, Int.reducePow, Nat.reducePow, true_or, Option.isNone_some, Option.isNone_none, vcXPb, Tryd.f73, List.toList_toArray, again_eq]
      exact ⟨rfl, _, rfl⟩
    · intro i us ⟨hi, hU⟩
      try simp -implicitDefEqProofs (maxSteps := 1000000) (disch := first | exact dz1 | fail) only [vcR, vcT, Int.reduceBEq, Int.reduceBNe, Int.reduceEq, Int.reduceNe, Ab.part, Nat.reduceAdd, Nat.reduceMul, Nat.reduceLeDiff, Nat.reduceEqDiff, Nat.reduceBEq, Nat.reduceBNe, reduceCtorEq, ↓reduceIte, implies_true, forall_const, Int.reduceNeg, Int.reduceToNat, Int.reduceLT, Int.reduceLE, Int.reduceAdd, Int.reduceSub, Int.reduceMul, Int.reducePow, Nat.reducePow, true_or, Option.isNone_some, Option.isNone_none, vcXPb, Tryd.f73, List.toList_toArray]
      by_cases h : i < m
      · obtain ⟨ad, rfl⟩ := hadr (by omega)
        refine XA_seq (XA_X [] (steady_map _ _) rfl (by simp) (by simp) fun β1 w1 hR1 hA1 hK1 => ?_)
        (repeat' ((first | with_reducible (first | apply cF_pure1 (by assumption) | apply cF_ev1 (by assumption)) | refine X_of _ ?_ | with_reducible (first | exact ⟨_, rfl⟩ | refine And.intro ?_ ?_ | intro _)) <;> try simp -implicitDefEqProofs (maxSteps := 1000000) (disch := first | exact dz1 | fail) only [vcR, vcT, Int.reduceBEq, Int.reduceBNe, Int.reduceEq, Int.reduceNe, Ab.part, Nat.reduceAdd, Nat.reduceMul, Nat.reduceLeDiff, Nat.reduceEqDiff, Nat.reduceBEq, Nat.reduceBNe, reduceCtorEq, ↓reduceIte, implies_true, forall_const, Int.reduceNeg, Int.reduceToNat, Int.reduceLT, Int.reduceLE, Int.reduceAdd, Int.reduceSub, Int.reduceMul, Int.reducePow, Nat.reducePow, true_or, Option.isNone_some, Option.isNone_none, vcXPb, Tryd.f73, List.toList_toArray, arr4_zero, nat4_set1, nat4_setL, nat4_set0, seqA_n,seqA_r,seqA_x,blockA_n,blockA_r,blockA_x,loopA_n,loopA_r,loopA_x,retA_n,retA_r]))
        clear hK1 hA1 hR1 w1 β1
        obtain ⟨p, hli⟩ : ∃ p, l i = p := ⟨_, rfl⟩
        obtain ⟨N, G, y, n, c', P, E⟩ := p
        have hNl : N < 2 ^ 256 := by have := hl.N i; rwa [hli] at this
        have hGl : G < 2 ^ 256 := by have := hl.G i; rwa [hli] at this
        have hPl : ∀ k, P k < 2 ^ 256 := fun k => by have := hl.P i k; rwa [hli] at this
        have hEl : ∀ k, -9223372036854775808 ≤ E k ∧ E k < 9223372036854775808 := fun k => by have := hl.E i k; rwa [hli] at this
        have hnl : n < 9223372036854775808 := by have := hl.n i; rwa [hli] at this
        have hF0 : Kn (ctx0 Tryd.prog w) (facsAt Evo.none y n P E) := by have := hP0.prfF h; rwa [hli] at this
        have hady : n ≠ 0 → ∃ ad, y = some ad := fun h => by
          rcases hF0 _ (FrP.now _) with h0 | ⟨ad, h0, _⟩
          · exact absurd h0 h
          · exact ⟨ad, h0⟩
        refine XA_seq (XA_X [] (steady_map _ _) rfl (by simp) (by simp) fun β1 w1 hR1 hA1 hK1 => ?_)
        (repeat' ((first | with_reducible (first | apply cF_pure1 (by assumption) | apply cF_ev1 (by assumption)) | refine X_of _ ?_ | with_reducible (first | exact ⟨_, rfl⟩ | refine And.intro ?_ ?_ | intro _)) <;> try simp -implicitDefEqProofs (maxSteps := 1000000) (disch := first | exact dz1 | fail) only [vcR, vcT, Int.reduceBEq, Int.reduceBNe, Int.reduceEq, Int.reduceNe, Ab.part, Nat.reduceAdd, Nat.reduceMul, Nat.reduceLeDiff, Nat.reduceEqDiff, Nat.reduceBEq, Nat.reduceBNe, reduceCtorEq, ↓reduceIte, implies_true, forall_const, Int.reduceNeg, Int.reduceToNat, Int.reduceLT, Int.reduceLE, Int.reduceAdd, Int.reduceSub, Int.reduceMul, Int.reducePow, Nat.reducePow, true_or, Option.isNone_some, Option.isNone_none, vcXPb, Tryd.f73, List.toList_toArray, arr4_zero, nat4_set1, nat4_setL, nat4_set0, seqA_n,seqA_r,seqA_x,blockA_n,blockA_r,blockA_x,loopA_n,loopA_r,loopA_x,retA_n,retA_r]))
        clear hK1 hA1 hR1 w1 β1
        refine XA_seq (XA_block ?_)
        refine XA_seq ?_
        refine (XA_X [] (steady_map _ _) rfl (by simp) (by simp) fun β1 w1 hR1 hA1 hK1 => ?_)
        have hx : ∀ {K : TV → HE → Prop}, xext ((ctx0 Tryd.prog w).after (ctx0 Tryd.prog w).ev (ctx0 Tryd.prog w).B w1 β1 []) (some true) 9 (ad.add (i * 9)) K = K (.agg (prf N G (.v (.slice y n c')))) .none := fun {K} => by rw [(hK1 _ hP0).prf h, hli]
        (repeat' ((first | with_reducible (first | apply cF_pure1 (by assumption) | apply cF_ev1 (by assumption)) | refine X_of _ ?_ | with_reducible (first | exact ⟨_, rfl⟩ | refine And.intro ?_ ?_ | intro _)) <;> try simp -implicitDefEqProofs (maxSteps := 1000000) (disch := first | exact dz1 | fail) only [vcR, vcT, Int.reduceBEq, Int.reduceBNe, Int.reduceEq, Int.reduceNe, Ab.part, Nat.reduceAdd, Nat.reduceMul, Nat.reduceLeDiff, Nat.reduceEqDiff, Nat.reduceBEq, Nat.reduceBNe, reduceCtorEq, ↓reduceIte, implies_true, forall_const, Int.reduceNeg, Int.reduceToNat, Int.reduceLT, Int.reduceLE, Int.reduceAdd, Int.reduceSub, Int.reduceMul, Int.reducePow, Nat.reducePow, true_or, Option.isNone_some, Option.isNone_none, vcXPb, Tryd.f73, List.toList_toArray, arr4_zero, nat4_set1, nat4_setL, nat4_set0, seqA_n,seqA_r,seqA_x,blockA_n,blockA_r,blockA_x,loopA_n,loopA_r,loopA_x,retA_n,retA_r,hx]))
        clear hx
        clear hK1 hA1 hR1 w1 β1
        refine XA_seq ?_
        refine XA_seq ?_
        refine XA_X [0] (steady_map _ _) rfl (by simp) (by simp) fun β1 w1 hR1 hA1 hK1 => ?_
        (repeat' ((first | with_reducible (first | apply cF_pure1 (by assumption) | apply cF_ev1 (by assumption)) | refine X_of _ ?_ | with_reducible (first | exact ⟨_, rfl⟩ | refine And.intro ?_ ?_ | intro _)) <;> try simp -implicitDefEqProofs (maxSteps := 1000000) (disch := first | exact dz1 | fail) only [vcR, vcT, Int.reduceBEq, Int.reduceBNe, Int.reduceEq, Int.reduceNe, Ab.part, Nat.reduceAdd, Nat.reduceMul, Nat.reduceLeDiff, Nat.reduceEqDiff, Nat.reduceBEq, Nat.reduceBNe, reduceCtorEq, ↓reduceIte, implies_true, forall_const, Int.reduceNeg, Int.reduceToNat, Int.reduceLT, Int.reduceLE, Int.reduceAdd, Int.reduceSub, Int.reduceMul, Int.reducePow, Nat.reducePow, true_or, Option.isNone_some, Option.isNone_none, vcXPb, Tryd.f73, List.toList_toArray, arr4_zero, nat4_set1, nat4_setL, nat4_set0, seqA_n,seqA_r,seqA_x,blockA_n,blockA_r,blockA_x,loopA_n,loopA_r,loopA_x,retA_n,retA_r]))
        clear hK1 hA1 hR1 w1 β1
        refine XA_X [0] (steady_map _ _) rfl (by simp) (by simp) fun β1 w1 hR1 hA1 hK1 => ?_
        have hF1 := hK1 _ hF0
        (repeat' ((first | with_reducible (first | apply cF_pure1 (by assumption) | apply cF_ev1 (by assumption)) | refine X_of _ ?_ | with_reducible (first | exact ⟨_, rfl⟩ | refine And.intro ?_ ?_ | intro _)) <;> try simp -implicitDefEqProofs (maxSteps := 1000000) (disch := first | exact dz1 | fail) only [vcR, vcT, Int.reduceBEq, Int.reduceBNe, Int.reduceEq, Int.reduceNe, Ab.part, Nat.reduceAdd, Nat.reduceMul, Nat.reduceLeDiff, Nat.reduceEqDiff, Nat.reduceBEq, Nat.reduceBNe, reduceCtorEq, ↓reduceIte, implies_true, forall_const, Int.reduceNeg, Int.reduceToNat, Int.reduceLT, Int.reduceLE, Int.reduceAdd, Int.reduceSub, Int.reduceMul, Int.reducePow, Nat.reducePow, true_or, Option.isNone_some, Option.isNone_none, vcXPb, Tryd.f73, List.toList_toArray, arr4_zero, nat4_set1, nat4_setL, nat4_set0, seqA_n,seqA_r,seqA_x,blockA_n,blockA_r,blockA_x,loopA_n,loopA_r,loopA_x,retA_n,retA_r]))
        refine X_loop (ι := Nat) (fun k => k ≤ n ∧ ∀ j, j < k → knS l i (P j) = true) (fun k => n - k) [8, 27, 28, 29, 30, 31, 32, 33, 34, 35, 36, 37]
          (fun k => [(27, .s (.v (.int .i64 (k : Nat))))])
          (fun k => []) 0 (shape_of fun k => ?_) (by decide) ?_ ?_
        · simp only [List.length_cons, List.length_nil, List.map_cons, List.map_nil, List.nodup_cons, List.nodup_nil, List.mem_cons, Nat.reduceAdd, Nat.reduceEqDiff, or_false, not_false_eq_true, forall_eq_or_imp, forall_eq, or_self, Nat.reduceLT, Nat.reduceLeDiff, and_self, List.forall_mem_cons, List.not_mem_nil, false_implies, implies_true, and_true, true_and, vcOPb]
        · simp -implicitDefEqProofs (maxSteps := 1000000) (disch := first | exact dz1 | fail) only [vcR, vcT, Int.reduceBEq, Int.reduceBNe, Int.reduceEq, Int.reduceNe, Ab.part, Nat.reduceAdd, Nat.reduceMul, Nat.reduceLeDiff, Nat.reduceEqDiff, Nat.reduceBEq, Nat.reduceBNe, reduceCtorEq, ↓reduceIte, implies_true, forall_const, Int.reduceNeg, Int.reduceToNat, Int.reduceLT, Int.reduceLE, Int.reduceAdd, Int.reduceSub, Int.reduceMul, Int.reducePow, Nat.reducePow, true_or, Option.isNone_some, Option.isNone_none, vcXPb, Tryd.f73, List.toList_toArray, again_eq]
          exact ⟨_, rfl⟩
        · intro k us2 ⟨hk, hkn⟩
          by_cases hkk : k < n
          · obtain ⟨ad2, rfl⟩ := hady (by omega)
            have hx : ∀ {K : TV → HE → Prop}, xext ((ctx0 Tryd.prog w).after (ctx0 Tryd.prog w).ev (ctx0 Tryd.prog w).B w1 β1 [0]) (some true) 5 (ad2.add (k * 5)) K = K (.agg (fac (P k) (E k))) .none := fun {K} => hF1.fac hkk
            have hhas := (has_m b (P k) (knS l i) (hPl k)).ev (V := Evo.none)
            cases hz : knS l i (P k) with
            | false =>
              rw [hz] at hhas
              (repeat' ((first | with_reducible (first | apply cF_pure1 (by assumption) | apply cF_ev1 (by assumption)) | refine X_of _ ?_ | with_reducible (first | exact ⟨_, rfl⟩ | refine And.intro ?_ ?_ | intro _)) <;> try simp -implicitDefEqProofs (maxSteps := 1000000) (disch := first | exact dz1 | fail) only [vcR, vcT, Int.reduceBEq, Int.reduceBNe, Int.reduceEq, Int.reduceNe, Ab.part, Nat.reduceAdd, Nat.reduceMul, Nat.reduceLeDiff, Nat.reduceEqDiff, Nat.reduceBEq, Nat.reduceBNe, reduceCtorEq, ↓reduceIte, implies_true, forall_const, Int.reduceNeg, Int.reduceToNat, Int.reduceLT, Int.reduceLE, Int.reduceAdd, Int.reduceSub, Int.reduceMul, Int.reducePow, Nat.reducePow, true_or, Option.isNone_some, Option.isNone_none, vcXPb, Tryd.f73, List.toList_toArray, arr4_zero, nat4_set1, nat4_setL, nat4_set0, seqA_n,seqA_r,seqA_x,blockA_n,blockA_r,blockA_x,loopA_n,loopA_r,loopA_x,retA_n,retA_r,hx]))
              have hck : ckA l i = 20 := ckA_un (k := k) (by rw [hli]; exact hkk) (by rw [hli]; exact hz)
              have hcs : ckS l m = 20 := by rw [ckS_short h40, ckU_stop h hU (by rw [hck]; decide), hck]
              exact ⟨b, _, hb, by rw [hcs], rfl, fun h => by rw [hcs] at h; cases h⟩
            | true =>
              rw [hz] at hhas
              (repeat' ((first | with_reducible (first | apply cF_pure1 (by assumption) | apply cF_ev1 (by assumption)) | refine X_of _ ?_ | with_reducible (first | exact ⟨_, rfl⟩ | refine And.intro ?_ ?_ | intro _)) <;> try simp -implicitDefEqProofs (maxSteps := 1000000) (disch := first | exact dz1 | fail) only [vcR, vcT, Int.reduceBEq, Int.reduceBNe, Int.reduceEq, Int.reduceNe, Ab.part, Nat.reduceAdd, Nat.reduceMul, Nat.reduceLeDiff, Nat.reduceEqDiff, Nat.reduceBEq, Nat.reduceBNe, reduceCtorEq, ↓reduceIte, implies_true, forall_const, Int.reduceNeg, Int.reduceToNat, Int.reduceLT, Int.reduceLE, Int.reduceAdd, Int.reduceSub, Int.reduceMul, Int.reducePow, Nat.reducePow, true_or, Option.isNone_some, Option.isNone_none, vcXPb, Tryd.f73, List.toList_toArray, arr4_zero, nat4_set1, nat4_setL, nat4_set0, seqA_n,seqA_r,seqA_x,blockA_n,blockA_r,blockA_x,loopA_n,loopA_r,loopA_x,retA_n,retA_r,hx]))
              refine ⟨k + 1, by omega, ?_⟩
              simp -implicitDefEqProofs (maxSteps := 1000000) (disch := first | exact dz1 | fail) only [vcR, vcT, Int.reduceBEq, Int.reduceBNe, Int.reduceEq, Int.reduceNe, Ab.part, Nat.reduceAdd, Nat.reduceMul, Nat.reduceLeDiff, Nat.reduceEqDiff, Nat.reduceBEq, Nat.reduceBNe, reduceCtorEq, ↓reduceIte, implies_true, forall_const, Int.reduceNeg, Int.reduceToNat, Int.reduceLT, Int.reduceLE, Int.reduceAdd, Int.reduceSub, Int.reduceMul, Int.reducePow, Nat.reducePow, true_or, Option.isNone_some, Option.isNone_none, vcXPb, Tryd.f73, List.toList_toArray, again_eq]
              refine ⟨fun j hj => ?_, _, rfl⟩
              by_cases hjk : j = k
              · subst hjk; exact hz
              · exact hkn j (by omega)
          · have : k = n := by omega
            subst this
            (repeat' ((first | with_reducible (first | apply cF_pure1 (by assumption) | apply cF_ev1 (by assumption)) | refine X_of _ ?_ | with_reducible (first | exact ⟨_, rfl⟩ | refine And.intro ?_ ?_ | intro _)) <;> try simp -implicitDefEqProofs (maxSteps := 1000000) (disch := first | exact dz1 | fail) only [vcR, vcT, Int.reduceBEq, Int.reduceBNe, Int.reduceEq, Int.reduceNe, Ab.part, Nat.reduceAdd, Nat.reduceMul, Nat.reduceLeDiff, Nat.reduceEqDiff, Nat.reduceBEq, Nat.reduceBNe, reduceCtorEq, ↓reduceIte, implies_true, forall_const, Int.reduceNeg, Int.reduceToNat, Int.reduceLT, Int.reduceLE, Int.reduceAdd, Int.reduceSub, Int.reduceMul, Int.reducePow, Nat.reducePow, true_or, Option.isNone_some, Option.isNone_none, vcXPb, Tryd.f73, List.toList_toArray, arr4_zero, nat4_set1, nat4_setL, nat4_set0, seqA_n,seqA_r,seqA_x,blockA_n,blockA_r,blockA_x,loopA_n,loopA_r,loopA_x,retA_n,retA_r]))
            have hst := (step_m N G y k c' P E hNl hGl hPl hEl hnl).ev (V := Evo.none)
            obtain ⟨e, he⟩ : ∃ e, stS N G k P E = e := ⟨_, rfl⟩
            have hck : ckA l i = e := by
              rw [ckA_st (by rw [hli]; exact hkn), hli]
              exact he
            rw [he] at hst
            clear hF1
            clear hK1 hA1 hR1 w1 β1
            by_cases he0 : e = 0
            · subst he0
              refine XA_seq (XA_X [0] (steady_map _ _) rfl (by simp) (by simp) fun β1 w1 hR1 hA1 hK1 => ?_)
              have hFL : Kn ((ctx0 Tryd.prog w).after (ctx0 Tryd.prog w).ev (ctx0 Tryd.prog w).B w1 β1 [0]) (fun _ w => facs y k P E w ∧ least w) := fun w' hw' => ⟨facs_of (hK1 _ hF0 w' hw'), least_of (hK1 _ hL0 w' hw')⟩
              (repeat' ((first | with_reducible (first | apply cF_pure1 (by assumption) | apply cF_ev1 (by assumption)) | refine X_of _ ?_ | with_reducible (first | exact ⟨_, rfl⟩ | refine And.intro ?_ ?_ | intro _)) <;> try simp -implicitDefEqProofs (maxSteps := 1000000) (disch := first | exact dz1 | fail) only [vcR, vcT, Int.reduceBEq, Int.reduceBNe, Int.reduceEq, Int.reduceNe, Ab.part, Nat.reduceAdd, Nat.reduceMul, Nat.reduceLeDiff, Nat.reduceEqDiff, Nat.reduceBEq, Nat.reduceBNe, reduceCtorEq, ↓reduceIte, implies_true, forall_const, Int.reduceNeg, Int.reduceToNat, Int.reduceLT, Int.reduceLE, Int.reduceAdd, Int.reduceSub, Int.reduceMul, Int.reducePow, Nat.reducePow, true_or, Option.isNone_some, Option.isNone_none, vcXPb, Tryd.f73, List.toList_toArray, arr4_zero, nat4_set1, nat4_setL, nat4_set0, seqA_n,seqA_r,seqA_x,blockA_n,blockA_r,blockA_x,loopA_n,loopA_r,loopA_x,retA_n,retA_r,bne_self_eq_false]))
              clear hFL hst
              clear hK1 hA1 hR1 w1 β1
              refine XA_reg ?_
              try simp -implicitDefEqProofs (maxSteps := 1000000) (disch := first | exact dz1 | fail) only [vcR, vcT, Int.reduceBEq, Int.reduceBNe, Int.reduceEq, Int.reduceNe, Ab.part, Nat.reduceAdd, Nat.reduceMul, Nat.reduceLeDiff, Nat.reduceEqDiff, Nat.reduceBEq, Nat.reduceBNe, reduceCtorEq, ↓reduceIte, implies_true, forall_const, Int.reduceNeg, Int.reduceToNat, Int.reduceLT, Int.reduceLE, Int.reduceAdd, Int.reduceSub, Int.reduceMul, Int.reducePow, Nat.reducePow, true_or, Option.isNone_some, Option.isNone_none, vcXPb, Tryd.f73, List.toList_toArray]
              refine XAR_step [0] (steady_map _ _) rfl (by simp) (by simp) fun β2 w2 hR2 hA2 hK2 => ?_
              try simp -implicitDefEqProofs (maxSteps := 1000000) (disch := first | exact dz1 | fail) only [vcR, vcT, Int.reduceBEq, Int.reduceBNe, Int.reduceEq, Int.reduceNe, Ab.part, Nat.reduceAdd, Nat.reduceMul, Nat.reduceLeDiff, Nat.reduceEqDiff, Nat.reduceBEq, Nat.reduceBNe, reduceCtorEq, ↓reduceIte, implies_true, forall_const, Int.reduceNeg, Int.reduceToNat, Int.reduceLT, Int.reduceLE, Int.reduceAdd, Int.reduceSub, Int.reduceMul, Int.reducePow, Nat.reducePow, true_or, Option.isNone_some, Option.isNone_none, vcXPb, Tryd.f73, List.toList_toArray]
              refine XAR_step [0] (steady_map _ _) rfl (by simp) (by simp) fun β2 w2 hR2 hA2 hK2 => ?_
              try simp -implicitDefEqProofs (maxSteps := 1000000) (disch := first | exact dz1 | fail) only [vcR, vcT, Int.reduceBEq, Int.reduceBNe, Int.reduceEq, Int.reduceNe, Ab.part, Nat.reduceAdd, Nat.reduceMul, Nat.reduceLeDiff, Nat.reduceEqDiff, Nat.reduceBEq, Nat.reduceBNe, reduceCtorEq, ↓reduceIte, implies_true, forall_const, Int.reduceNeg, Int.reduceToNat, Int.reduceLT, Int.reduceLE, Int.reduceAdd, Int.reduceSub, Int.reduceMul, Int.reducePow, Nat.reducePow, true_or, Option.isNone_some, Option.isNone_none, vcXPb, Tryd.f73, List.toList_toArray]
              refine XAR_step [0] (steady_map _ _) rfl (by simp) (by simp) fun β2 w2 hR2 hA2 hK2 => ?_
              try simp -implicitDefEqProofs (maxSteps := 1000000) (disch := first | exact dz1 | fail) only [vcR, vcT, Int.reduceBEq, Int.reduceBNe, Int.reduceEq, Int.reduceNe, Ab.part, Nat.reduceAdd, Nat.reduceMul, Nat.reduceLeDiff, Nat.reduceEqDiff, Nat.reduceBEq, Nat.reduceBNe, reduceCtorEq, ↓reduceIte, implies_true, forall_const, Int.reduceNeg, Int.reduceToNat, Int.reduceLT, Int.reduceLE, Int.reduceAdd, Int.reduceSub, Int.reduceMul, Int.reducePow, Nat.reducePow, true_or, Option.isNone_some, Option.isNone_none, vcXPb, Tryd.f73, List.toList_toArray]
              refine XAR_step [0] (steady_map _ _) rfl (by simp) (by simp) fun β2 w2 hR2 hA2 hK2 => ?_
              try simp -implicitDefEqProofs (maxSteps := 1000000) (disch := first | exact dz1 | fail) only [vcR, vcT, Int.reduceBEq, Int.reduceBNe, Int.reduceEq, Int.reduceNe, Ab.part, Nat.reduceAdd, Nat.reduceMul, Nat.reduceLeDiff, Nat.reduceEqDiff, Nat.reduceBEq, Nat.reduceBNe, reduceCtorEq, ↓reduceIte, implies_true, forall_const, Int.reduceNeg, Int.reduceToNat, Int.reduceLT, Int.reduceLE, Int.reduceAdd, Int.reduceSub, Int.reduceMul, Int.reducePow, Nat.reducePow, true_or, Option.isNone_some, Option.isNone_none, vcXPb, Tryd.f73, List.toList_toArray]
              refine XAR_step [0] (steady_map _ _) rfl (by simp) (by simp) fun β2 w2 hR2 hA2 hK2 => ?_
              try simp -implicitDefEqProofs (maxSteps := 1000000) (disch := first | exact dz1 | fail) only [vcR, vcT, Int.reduceBEq, Int.reduceBNe, Int.reduceEq, Int.reduceNe, Ab.part, Nat.reduceAdd, Nat.reduceMul, Nat.reduceLeDiff, Nat.reduceEqDiff, Nat.reduceBEq, Nat.reduceBNe, reduceCtorEq, ↓reduceIte, implies_true, forall_const, Int.reduceNeg, Int.reduceToNat, Int.reduceLT, Int.reduceLE, Int.reduceAdd, Int.reduceSub, Int.reduceMul, Int.reducePow, Nat.reducePow, true_or, Option.isNone_some, Option.isNone_none, vcXPb, Tryd.f73, List.toList_toArray]
              refine XAR_put mapTy (.inl rfl) hb (n := N) (z := (i : Int) + 1) hNl rfl rfl rfl ?_
              refine XAR_A (A' := MapAt b (knS l (i + 1))) (mapS hli) ?_
              try simp -implicitDefEqProofs (maxSteps := 1000000) (disch := first | exact dz1 | fail) only [vcR, vcT, Int.reduceBEq, Int.reduceBNe, Int.reduceEq, Int.reduceNe, Ab.part, Nat.reduceAdd, Nat.reduceMul, Nat.reduceLeDiff, Nat.reduceEqDiff, Nat.reduceBEq, Nat.reduceBNe, reduceCtorEq, ↓reduceIte, implies_true, forall_const, Int.reduceNeg, Int.reduceToNat, Int.reduceLT, Int.reduceLE, Int.reduceAdd, Int.reduceSub, Int.reduceMul, Int.reducePow, Nat.reducePow, true_or, Option.isNone_some, Option.isNone_none, vcXPb, Tryd.f73, List.toList_toArray]
              refine XAR_nil ?_
              try simp -implicitDefEqProofs (maxSteps := 1000000) (disch := first | exact dz1 | fail) only [vcR, vcT, Int.reduceBEq, Int.reduceBNe, Int.reduceEq, Int.reduceNe, Ab.part, Nat.reduceAdd, Nat.reduceMul, Nat.reduceLeDiff, Nat.reduceEqDiff, Nat.reduceBEq, Nat.reduceBNe, reduceCtorEq, ↓reduceIte, implies_true, forall_const, Int.reduceNeg, Int.reduceToNat, Int.reduceLT, Int.reduceLE, Int.reduceAdd, Int.reduceSub, Int.reduceMul, Int.reducePow, Nat.reducePow, true_or, Option.isNone_some, Option.isNone_none, vcXPb, Tryd.f73, List.toList_toArray, seqA_n,seqA_r,seqA_x,blockA_n,blockA_r,blockA_x,loopA_n,loopA_r,loopA_x,retA_n,retA_r]
              refine XA_X [0] (steady_map _ _) rfl (by simp) (by simp) fun β1 w1 hR1 hA1 hK1 => ?_
              (repeat' ((first | with_reducible (first | apply cF_pure1 (by assumption) | apply cF_ev1 (by assumption)) | refine X_of _ ?_ | with_reducible (first | exact ⟨_, rfl⟩ | refine And.intro ?_ ?_ | intro _)) <;> try simp -implicitDefEqProofs (maxSteps := 1000000) (disch := first | exact dz1 | fail) only [vcR, vcT, Int.reduceBEq, Int.reduceBNe, Int.reduceEq, Int.reduceNe, Ab.part, Nat.reduceAdd, Nat.reduceMul, Nat.reduceLeDiff, Nat.reduceEqDiff, Nat.reduceBEq, Nat.reduceBNe, reduceCtorEq, ↓reduceIte, implies_true, forall_const, Int.reduceNeg, Int.reduceToNat, Int.reduceLT, Int.reduceLE, Int.reduceAdd, Int.reduceSub, Int.reduceMul, Int.reducePow, Nat.reducePow, true_or, Option.isNone_some, Option.isNone_none, vcXPb, Tryd.f73, List.toList_toArray, arr4_zero, nat4_set1, nat4_setL, nat4_set0, seqA_n,seqA_r,seqA_x,blockA_n,blockA_r,blockA_x,loopA_n,loopA_r,loopA_x,retA_n,retA_r]))
              refine ⟨i + 1, by omega, ?_, rfl⟩
              simp -implicitDefEqProofs (maxSteps := 1000000) (disch := first | exact dz1 | fail) only [vcR, vcT, Int.reduceBEq, Int.reduceBNe, Int.reduceEq, Int.reduceNe, Ab.part, Nat.reduceAdd, Nat.reduceMul, Nat.reduceLeDiff, Nat.reduceEqDiff, Nat.reduceBEq, Nat.reduceBNe, reduceCtorEq, ↓reduceIte, implies_true, forall_const, Int.reduceNeg, Int.reduceToNat, Int.reduceLT, Int.reduceLE, Int.reduceAdd, Int.reduceSub, Int.reduceMul, Int.reducePow, Nat.reducePow, true_or, Option.isNone_some, Option.isNone_none, vcXPb, Tryd.f73, List.toList_toArray, again_eq]
              exact ⟨ckU_go hU hck, _, rfl⟩
            · have he' : (e != 0) = true := by simpa using he0
              refine XA_seq (XA_X [0] (steady_map _ _) rfl (by simp) (by simp) fun β1 w1 hR1 hA1 hK1 => ?_)
              have hFL : Kn ((ctx0 Tryd.prog w).after (ctx0 Tryd.prog w).ev (ctx0 Tryd.prog w).B w1 β1 [0]) (fun _ w => facs y k P E w ∧ least w) := fun w' hw' => ⟨facs_of (hK1 _ hF0 w' hw'), least_of (hK1 _ hL0 w' hw')⟩
              (repeat' ((first | with_reducible (first | apply cF_pure1 (by assumption) | apply cF_ev1 (by assumption)) | refine X_of _ ?_ | with_reducible (first | exact ⟨_, rfl⟩ | refine And.intro ?_ ?_ | intro _)) <;> try simp -implicitDefEqProofs (maxSteps := 1000000) (disch := first | exact dz1 | fail) only [vcR, vcT, Int.reduceBEq, Int.reduceBNe, Int.reduceEq, Int.reduceNe, Ab.part, Nat.reduceAdd, Nat.reduceMul, Nat.reduceLeDiff, Nat.reduceEqDiff, Nat.reduceBEq, Nat.reduceBNe, reduceCtorEq, ↓reduceIte, implies_true, forall_const, Int.reduceNeg, Int.reduceToNat, Int.reduceLT, Int.reduceLE, Int.reduceAdd, Int.reduceSub, Int.reduceMul, Int.reducePow, Nat.reducePow, true_or, Option.isNone_some, Option.isNone_none, vcXPb, Tryd.f73, List.toList_toArray, arr4_zero, nat4_set1, nat4_setL, nat4_set0, seqA_n,seqA_r,seqA_x,blockA_n,blockA_r,blockA_x,loopA_n,loopA_r,loopA_x,retA_n,retA_r,he']))
              have hcs : ckS l m = e := by rw [ckS_short h40, ckU_stop h hU (by rw [hck]; exact he0), hck]
              exact ⟨b, _, hb, by rw [hcs], rfl, fun h => absurd (hcs ▸ h) he0⟩
      · have : i = m := by omega
        subst this
        refine XA_X [] (steady_map _ _) rfl (by simp) (by simp) fun β1 w1 hR1 hA1 hK1 => ?_
        (repeat' ((first | with_reducible (first | apply cF_pure1 (by assumption) | apply cF_ev1 (by assumption)) | refine X_of _ ?_ | with_reducible (first | exact ⟨_, rfl⟩ | refine And.intro ?_ ?_ | intro _)) <;> try simp -implicitDefEqProofs (maxSteps := 1000000) (disch := first | exact dz1 | fail) only [vcR, vcT, Int.reduceBEq, Int.reduceBNe, Int.reduceEq, Int.reduceNe, Ab.part, Nat.reduceAdd, Nat.reduceMul, Nat.reduceLeDiff, Nat.reduceEqDiff, Nat.reduceBEq, Nat.reduceBNe, reduceCtorEq, ↓reduceIte, implies_true, forall_const, Int.reduceNeg, Int.reduceToNat, Int.reduceLT, Int.reduceLE, Int.reduceAdd, Int.reduceSub, Int.reduceMul, Int.reducePow, Nat.reducePow, true_or, Option.isNone_some, Option.isNone_none, vcXPb, Tryd.f73, List.toList_toArray, arr4_zero, nat4_set1, nat4_setL, nat4_set0, seqA_n,seqA_r,seqA_x,blockA_n,blockA_r,blockA_x,loopA_n,loopA_r,loopA_x,retA_n,retA_r]))
        clear hK1 hA1 hR1 w1 β1
        refine XA_X [] (steady_map _ _) rfl (by simp) (by simp) fun β1 w1 hR1 hA1 hK1 => ?_
        (repeat' ((first | with_reducible (first | apply cF_pure1 (by assumption) | apply cF_ev1 (by assumption)) | refine X_of _ ?_ | with_reducible (first | exact ⟨_, rfl⟩ | refine And.intro ?_ ?_ | intro _)) <;> try simp -implicitDefEqProofs (maxSteps := 1000000) (disch := first | exact dz1 | fail) only [vcR, vcT, Int.reduceBEq, Int.reduceBNe, Int.reduceEq, Int.reduceNe, Ab.part, Nat.reduceAdd, Nat.reduceMul, Nat.reduceLeDiff, Nat.reduceEqDiff, Nat.reduceBEq, Nat.reduceBNe, reduceCtorEq, ↓reduceIte, implies_true, forall_const, Int.reduceNeg, Int.reduceToNat, Int.reduceLT, Int.reduceLE, Int.reduceAdd, Int.reduceSub, Int.reduceMul, Int.reducePow, Nat.reducePow, true_or, Option.isNone_some, Option.isNone_none, vcXPb, Tryd.f73, List.toList_toArray, arr4_zero, nat4_set1, nat4_setL, nat4_set0, seqA_n,seqA_r,seqA_x,blockA_n,blockA_r,blockA_x,loopA_n,loopA_r,loopA_x,retA_n,retA_r]))
        exact ⟨b, _, hb, by rw [ckS_short h40, hU], rfl, fun _ => rfl⟩
end Go.Proofs.YtdmcknmjdlghgaaDoor
namespace Go.Proofs.YtdmcknmjdlghgaaDoor
open Go Go.Ab
set_option linter.unusedSimpArgs false
set_option linter.unusedVariables false
set_option linter.defProp false
set_option maxHeartbeats 20000000
set_option maxRecDepth 100000

def CkV (l : Nat → Pf) (m : Nat) (v : TV) (A : World → Prop) : Prop :=
  ∃ b p, v = .tup [.s (.v (.map (some b))), .s (.v (.int .i64 (ckS l m)))] ∧ A = MapAt b p ∧ (ckS l m = 0 → p = knS l m)
theorem check_in {Γ : Ctx} {x : Option Addr} {m c : Nat} {l : Nat → Pf} (hl : PfOk l) (hm : m < 9223372036854775808) (hP : Γ.P = Tryd.prog) (h1 : Kn Γ fun _ w => prfs x m l w) (h2 : Kn Γ fun _ w => least w) {H : Heap} :
    ∀ β w, Rep Γ H β w → True → Calls Γ.P 73 ([TV.s (.v (.slice x m c))].map (TV.conc β)).toArray w fun e w' => ∃ v A', CkV l m v A' ∧ A' w' ∧ (∀ β', e = .returned (v.conc β')) ∧ Ext Γ.ev Γ.B w w' := by
  intro β w hR _
  have h := check_c x m c l hl hm w (h1 w hR.fr.to) (h2 w hR.fr.to)
  rw [hP]
  refine h.mono ?_
  rintro e w' ⟨v, H', A', β', ⟨b, p, hb, rfl, hA, hk⟩, hA', hR', he⟩
  refine ⟨_, A', ⟨b, p, rfl, hA, hk⟩, hA', fun β'' => ?_, Ext.of_below (below_of_rep0 hR')⟩
  rw [he β' (.refl _ _)]
  rfl


theorem proves_m (x : Option Addr) (m c : Nat) (l : Nat → Pf) (n : Nat) (hl : PfOk l) (hm : m < 9223372036854775808) (hn : n < 2 ^ 256) :
    PureM Tryd.prog 41 [.s (.v (.slice x m c)), .agg (nat4 n)] (fun w => prfs x m l w ∧ least w) (.s (.v (.int .i64 (pvS l m n)))) := by
  obtain ⟨r, hr⟩ : ∃ r, pvS l m n = r := ⟨_, rfl⟩
  rw [hr]
  refine pureM_ofA Tryd.func41 rfl (by simp only [List.length_cons, List.length_nil, List.map_cons, List.map_nil, List.nodup_cons, List.nodup_nil, List.mem_cons, Nat.reduceAdd, Nat.reduceEqDiff, or_false, not_false_eq_true, forall_eq_or_imp, forall_eq, or_self, Nat.reduceLT, Nat.reduceLeDiff, and_self, List.forall_mem_cons, List.not_mem_nil, false_implies, implies_true, and_true, true_and, vcOPb]) (by simp only [List.length_cons, List.length_nil, List.map_cons, List.map_nil, List.nodup_cons, List.nodup_nil, List.mem_cons, Nat.reduceAdd, Nat.reduceEqDiff, or_false, not_false_eq_true, forall_eq_or_imp, forall_eq, or_self, Nat.reduceLT, Nat.reduceLeDiff, and_self, List.forall_mem_cons, List.not_mem_nil, false_implies, implies_true, and_true, true_and, vcOPb]) fun w hpre => ?_
  simp only [List.length_cons, List.length_nil, Tryd.ntmps41, Nat.reduceAdd, Nat.reduceSub, List.replicate_succ, List.replicate_zero, List.cons_append, List.nil_append]
  have h1 := (prfs_kn (P0 := Tryd.prog) hpre.1).prfs0
  have h2 := (least_kn (P0 := Tryd.prog) hpre.2).least0
  clear hpre
  refine XA_seq (XA_X [] steady_true rfl (by simp) (by simp) fun β1 w1 hR1 hA1 hK1 => ?_)
  (repeat' ((first | with_reducible (first | apply XR_cons | apply XR_consG | apply XR_nil | apply cF_pure1 (by assumption) | apply cF_ev1 (by assumption)) | with_reducible (first | apply X_regRS (id := 2) | apply X_regR (id := 2) | apply X_seqX (x := .seq (.region 2 _ false) _) | apply X_seqX (x := .seq (.seq (.region 2 _ false) _) _)) | refine X_of _ ?_ | with_reducible (first | exact ⟨_, rfl⟩ | refine And.intro ?_ ?_ | intro _)) <;> try simp -implicitDefEqProofs (maxSteps := 1000000) (disch := first | exact dz1 | fail) only [vcR, vcT, Int.reduceBEq, Int.reduceBNe, Int.reduceEq, Int.reduceNe, Ab.part, Nat.reduceAdd, Nat.reduceMul, Nat.reduceLeDiff, Nat.reduceEqDiff, Nat.reduceBEq, Nat.reduceBNe, reduceCtorEq, ↓reduceIte, implies_true, forall_const, Int.reduceNeg, Int.reduceToNat, Int.reduceLT, Int.reduceLE, Int.reduceAdd, Int.reduceSub, Int.reduceMul, Int.reducePow, Nat.reducePow, true_or, Option.isNone_some, Option.isNone_none, vcXPb, Tryd.f41, List.toList_toArray, arr4_zero, nat4_set1, nat4_setL, nat4_set0, seqA_n]))
  clear hR1 hA1 hK1 β1 w1
  refine XA_seq (XA_reg ?_)
  refine XAR_step [0] steady_true rfl (by simp) (by simp) fun β2 w2 hR2 hA2 hK2 => ?_
  try simp -implicitDefEqProofs (maxSteps := 1000000) (disch := first | exact dz1 | fail) only [vcR, vcT, Int.reduceBEq, Int.reduceBNe, Int.reduceEq, Int.reduceNe, Ab.part, Nat.reduceAdd, Nat.reduceMul, Nat.reduceLeDiff, Nat.reduceEqDiff, Nat.reduceBEq, Nat.reduceBNe, reduceCtorEq, ↓reduceIte, implies_true, forall_const, Int.reduceNeg, Int.reduceToNat, Int.reduceLT, Int.reduceLE, Int.reduceAdd, Int.reduceSub, Int.reduceMul, Int.reducePow, Nat.reducePow, true_or, Option.isNone_some, Option.isNone_none, vcXPb, Tryd.f41, List.toList_toArray]
  clear hK2 hA2 hR2 w2 β2
  refine XAR_call rfl rfl (by kernel_rfl) (check_in hl hm rfl h1 h2) ?_
  rintro _ _ ⟨b, p, rfl, rfl, hk⟩
  try simp -implicitDefEqProofs (maxSteps := 1000000) (disch := first | exact dz1 | fail) only [vcR, vcT, Int.reduceBEq, Int.reduceBNe, Int.reduceEq, Int.reduceNe, Ab.part, Nat.reduceAdd, Nat.reduceMul, Nat.reduceLeDiff, Nat.reduceEqDiff, Nat.reduceBEq, Nat.reduceBNe, reduceCtorEq, ↓reduceIte, implies_true, forall_const, Int.reduceNeg, Int.reduceToNat, Int.reduceLT, Int.reduceLE, Int.reduceAdd, Int.reduceSub, Int.reduceMul, Int.reducePow, Nat.reducePow, true_or, Option.isNone_some, Option.isNone_none, vcXPb, Tryd.f41, List.toList_toArray]
  iterate 5 (refine XAR_step [0] (steady_map _ _) rfl (by simp) (by simp) fun β2 w2 hR2 hA2 hK2 => ?_; try simp -implicitDefEqProofs (maxSteps := 1000000) (disch := first | exact dz1 | fail) only [vcR, vcT, Int.reduceBEq, Int.reduceBNe, Int.reduceEq, Int.reduceNe, Ab.part, Nat.reduceAdd, Nat.reduceMul, Nat.reduceLeDiff, Nat.reduceEqDiff, Nat.reduceBEq, Nat.reduceBNe, reduceCtorEq, ↓reduceIte, implies_true, forall_const, Int.reduceNeg, Int.reduceToNat, Int.reduceLT, Int.reduceLE, Int.reduceAdd, Int.reduceSub, Int.reduceMul, Int.reducePow, Nat.reducePow, true_or, Option.isNone_some, Option.isNone_none, vcXPb, Tryd.f41, List.toList_toArray]; clear hK2 hA2 hR2 w2 β2)
  refine XAR_nil ?_
  try simp -implicitDefEqProofs (maxSteps := 1000000) (disch := first | exact dz1 | fail) only [vcR, vcT, Int.reduceBEq, Int.reduceBNe, Int.reduceEq, Int.reduceNe, Ab.part, Nat.reduceAdd, Nat.reduceMul, Nat.reduceLeDiff, Nat.reduceEqDiff, Nat.reduceBEq, Nat.reduceBNe, reduceCtorEq, ↓reduceIte, implies_true, forall_const, Int.reduceNeg, Int.reduceToNat, Int.reduceLT, Int.reduceLE, Int.reduceAdd, Int.reduceSub, Int.reduceMul, Int.reducePow, Nat.reducePow, true_or, Option.isNone_some, Option.isNone_none, vcXPb, Tryd.f41, List.toList_toArray, seqA_n]
  refine XA_X [0] (steady_map _ _) rfl (by simp) (by simp) fun β1 w1 hR1 hA1 hK1 => ?_
  have hhas := (has_m b n p hn).ev (V := Evo.none)
  by_cases hc : ckS l m = 0
  · have hp := hk hc
    subst hp
    have hr' : (if knS l m n then 0 else 20) = r := by
      rw [← hr]
      unfold pvS
      rw [if_neg (show ¬ ckS l m ≠ 0 from fun h => h hc)]
    rw [hc]
    cases hz : knS l m n with
    | true =>
      rw [hz] at hhas hr'
      have hr'' : r = 0 := hr'.symm
      subst hr''
      (repeat' ((first | with_reducible (first | apply XR_cons | apply XR_consG | apply XR_nil | apply cF_pure1 (by assumption) | apply cF_ev1 (by assumption)) | with_reducible (first | apply X_regRS (id := 2) | apply X_regR (id := 2) | apply X_seqX (x := .seq (.region 2 _ false) _) | apply X_seqX (x := .seq (.seq (.region 2 _ false) _) _)) | refine X_of _ ?_ | with_reducible (first | exact ⟨_, rfl⟩ | refine And.intro ?_ ?_ | intro _)) <;> try simp -implicitDefEqProofs (maxSteps := 1000000) (disch := first | exact dz1 | fail) only [vcR, vcT, Int.reduceBEq, Int.reduceBNe, Int.reduceEq, Int.reduceNe, Ab.part, Nat.reduceAdd, Nat.reduceMul, Nat.reduceLeDiff, Nat.reduceEqDiff, Nat.reduceBEq, Nat.reduceBNe, reduceCtorEq, ↓reduceIte, implies_true, forall_const, Int.reduceNeg, Int.reduceToNat, Int.reduceLT, Int.reduceLE, Int.reduceAdd, Int.reduceSub, Int.reduceMul, Int.reducePow, Nat.reducePow, true_or, Option.isNone_some, Option.isNone_none, vcXPb, Tryd.f41, List.toList_toArray, arr4_zero, nat4_set1, nat4_setL, nat4_set0, retA_n,retA_r,beq_self_eq_true]))
    | false =>
      rw [hz] at hhas hr'
      have hr'' : r = 20 := hr'.symm
      subst hr''
      (repeat' ((first | with_reducible (first | apply XR_cons | apply XR_consG | apply XR_nil | apply cF_pure1 (by assumption) | apply cF_ev1 (by assumption)) | with_reducible (first | apply X_regRS (id := 2) | apply X_regR (id := 2) | apply X_seqX (x := .seq (.region 2 _ false) _) | apply X_seqX (x := .seq (.seq (.region 2 _ false) _) _)) | refine X_of _ ?_ | with_reducible (first | exact ⟨_, rfl⟩ | refine And.intro ?_ ?_ | intro _)) <;> try simp -implicitDefEqProofs (maxSteps := 1000000) (disch := first | exact dz1 | fail) only [vcR, vcT, Int.reduceBEq, Int.reduceBNe, Int.reduceEq, Int.reduceNe, Ab.part, Nat.reduceAdd, Nat.reduceMul, Nat.reduceLeDiff, Nat.reduceEqDiff, Nat.reduceBEq, Nat.reduceBNe, reduceCtorEq, ↓reduceIte, implies_true, forall_const, Int.reduceNeg, Int.reduceToNat, Int.reduceLT, Int.reduceLE, Int.reduceAdd, Int.reduceSub, Int.reduceMul, Int.reducePow, Nat.reducePow, true_or, Option.isNone_some, Option.isNone_none, vcXPb, Tryd.f41, List.toList_toArray, arr4_zero, nat4_set1, nat4_setL, nat4_set0, retA_n,retA_r,beq_self_eq_true]))
  · have hc' : (ckS l m == 0) = false := by rw [beq_eq_false_iff_ne]; exact hc
    have hr' : ckS l m = r := by
      rw [← hr]
      unfold pvS
      rw [if_pos hc]
    rw [hr'] at hc' ⊢
    (repeat' ((first | with_reducible (first | apply XR_cons | apply XR_consG | apply XR_nil | apply cF_pure1 (by assumption) | apply cF_ev1 (by assumption)) | with_reducible (first | apply X_regRS (id := 2) | apply X_regR (id := 2) | apply X_seqX (x := .seq (.region 2 _ false) _) | apply X_seqX (x := .seq (.seq (.region 2 _ false) _) _)) | refine X_of _ ?_ | with_reducible (first | exact ⟨_, rfl⟩ | refine And.intro ?_ ?_ | intro _)) <;> try simp -implicitDefEqProofs (maxSteps := 1000000) (disch := first | exact dz1 | fail) only [vcR, vcT, Int.reduceBEq, Int.reduceBNe, Int.reduceEq, Int.reduceNe, Ab.part, Nat.reduceAdd, Nat.reduceMul, Nat.reduceLeDiff, Nat.reduceEqDiff, Nat.reduceBEq, Nat.reduceBNe, reduceCtorEq, ↓reduceIte, implies_true, forall_const, Int.reduceNeg, Int.reduceToNat, Int.reduceLT, Int.reduceLE, Int.reduceAdd, Int.reduceSub, Int.reduceMul, Int.reducePow, Nat.reducePow, true_or, Option.isNone_some, Option.isNone_none, vcXPb, Tryd.f41, List.toList_toArray, arr4_zero, nat4_set1, nat4_setL, nat4_set0, retA_n,retA_r,hc']))
end Go.Proofs.YtdmcknmjdlghgaaDoor
