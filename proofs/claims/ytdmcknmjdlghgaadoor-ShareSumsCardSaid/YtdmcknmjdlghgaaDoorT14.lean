/-
  share: place, few, below.
  The calls' laws once more, with what is shown alike each time; all rules of this package and below, in one bundle.
  modq: sums.
  Euclid's way, modulo m.
  modq: what makes 1 with a number.
  modq: a polynomial's value.
  share: Value, Opens, Commit; sortitionref03.Nats.
  share: Commit; sortitionref03.Nats, where rows are alike.
  share: powers.
  share: the two questions of Right.
  pratt: is a proof one, if its factors are prime?
-/
import Derived.Test.YtdmcknmjdlghgaaDoorT01
import Derived.Test.YtdmcknmjdlghgaaDoorT02
import Derived.Test.YtdmcknmjdlghgaaDoorT03
import Derived.Test.YtdmcknmjdlghgaaDoorT04
import Derived.Test.YtdmcknmjdlghgaaDoorT05
import Derived.Test.YtdmcknmjdlghgaaDoorT06
import Derived.Test.YtdmcknmjdlghgaaDoorT07
import Derived.Test.YtdmcknmjdlghgaaDoorT10
import Derived.Test.YtdmcknmjdlghgaaDoorT11
import Derived.Test.YtdmcknmjdlghgaaDoorT12
namespace Go.Proofs.YtdmcknmjdlghgaaDoor
open Go Go.Ab
set_option linter.unusedSimpArgs false
set_option linter.unusedVariables false
set_option linter.defProp false
set_option maxHeartbeats 20000000
set_option maxRecDepth 100000
def placeN (s : Int) : Nat := (max s 0).toNat + 1
theorem nat_word {x : Nat} (hx : x < 18446744073709551616) : arr 4 (fun j => if j = 0 then x else wd 0 j) = nat4 x := by
  refine arr_congr fun i hi => ?_
  by_cases h : i = 0
  · subst h
    rw [if_pos rfl, wd_small x hx]
  · rw [if_neg h, wd_zero, wd_big x i (Nat.lt_of_lt_of_le (show x < 2 ^ 64 from hx) (Nat.pow_le_pow_right (by decide) (by omega)))]
theorem place_c (s : Int) (h1 : -9223372036854775808 ≤ s) (h2 : s < 9223372036854775807) : PureC Tryd.prog 67 [.s (.v (.int .i64 s))] (.agg (nat4 (placeN s))) := by
  refine pureC_of Tryd.func67 rfl (by simp only [List.length_cons, List.length_nil, List.map_cons, List.map_nil, List.nodup_cons, List.nodup_nil, List.mem_cons, Nat.reduceAdd, Nat.reduceEqDiff, or_false, not_false_eq_true, forall_eq_or_imp, forall_eq, or_self, Nat.reduceLT, Nat.reduceLeDiff, and_self, List.forall_mem_cons, List.not_mem_nil, false_implies, implies_true, and_true, true_and, vcOHb]) (by simp only [List.length_cons, List.length_nil, List.map_cons, List.map_nil, List.nodup_cons, List.nodup_nil, List.mem_cons, Nat.reduceAdd, Nat.reduceEqDiff, or_false, not_false_eq_true, forall_eq_or_imp, forall_eq, or_self, Nat.reduceLT, Nat.reduceLeDiff, and_self, List.forall_mem_cons, List.not_mem_nil, false_implies, implies_true, and_true, true_and, vcOHb]) fun w => ?_
  simp only [List.length_cons, List.length_nil, Tryd.ntmps67, Nat.reduceAdd, Nat.reduceSub, List.replicate_succ, List.replicate_zero, List.cons_append, List.nil_append]
  by_cases h0 : 0 ≤ s
  · obtain ⟨n, rfl⟩ := Int.eq_ofNat_of_zero_le h0
    have hp : placeN (n : Int) = n + 1 := by unfold placeN; omega
    have hc : ¬ (0 : Int) > (n : Int) := by omega
    have hw := nat_word (x := n + 1) (by omega)
    rw [hp]
    clear hp
    (repeat' ((first | with_reducible (first | apply XR_max | apply XR_cons | apply XR_consG | apply XR_nil | apply cF_pure3 (by assumption) | apply cF_ev3 (by assumption)) | with_reducible (first | apply gRS (by with_unfolding_all rfl) | apply gR (by with_unfolding_all rfl) | apply gS (by with_unfolding_all rfl) | fail) | refine X_of _ ?_ | with_reducible (first | exact ⟨_, rfl⟩ | refine And.intro ?_ ?_ | intro _)) <;> try simp -implicitDefEqProofs (maxSteps := 1000000) (disch := first | exact dz3 | fail) only [vcR, vcT, simprocAttr, Ab.part, implies_true, forall_const, true_or, Option.isNone_some, Option.isNone_none, vcXHb, Tryd.f67, List.toList_toArray, arr4_zero, nat4_set1, nat4_setL, nat4_set0, xmax_int,hc,hw]))
  · have hp : placeN s = 1 := by unfold placeN; omega
    have hc : (0 : Int) > s := by omega
    rw [hp]
    clear hp
    have hw : (nat4 0).set 0 (.v (.int .u64 (IntKind.u64.wrap 1))) = nat4 1 := by kernel_rfl
    (repeat' ((first | with_reducible (first | apply XR_max | apply XR_cons | apply XR_consG | apply XR_nil | apply cF_pure3 (by assumption) | apply cF_ev3 (by assumption)) | with_reducible (first | apply gRS (by with_unfolding_all rfl) | apply gR (by with_unfolding_all rfl) | apply gS (by with_unfolding_all rfl) | fail) | refine X_of _ ?_ | with_reducible (first | exact ⟨_, rfl⟩ | refine And.intro ?_ ?_ | intro _)) <;> try simp -implicitDefEqProofs (maxSteps := 1000000) (disch := first | exact dz3 | fail) only [vcR, vcT, simprocAttr, Ab.part, implies_true, forall_const, true_or, Option.isNone_some, Option.isNone_none, vcXHb, Tryd.f67, List.toList_toArray, arr4_zero, nat4_set1, nat4_setL, nat4_set0, xmax_int,hc,hw]))
theorem few_c (n : Int) : PureC Tryd.prog 65 [.s (.v (.int .i64 n))] (.s (.v (.bool (decide (n ≥ 1) && decide (n ≤ 20))))) := by
  refine pureC_of Tryd.func65 rfl (by simp only [List.length_cons, List.length_nil, List.map_cons, List.map_nil, List.nodup_cons, List.nodup_nil, List.mem_cons, Nat.reduceAdd, Nat.reduceEqDiff, or_false, not_false_eq_true, forall_eq_or_imp, forall_eq, or_self, Nat.reduceLT, Nat.reduceLeDiff, and_self, List.forall_mem_cons, List.not_mem_nil, false_implies, implies_true, and_true, true_and, vcOHb]) (by simp only [List.length_cons, List.length_nil, List.map_cons, List.map_nil, List.nodup_cons, List.nodup_nil, List.mem_cons, Nat.reduceAdd, Nat.reduceEqDiff, or_false, not_false_eq_true, forall_eq_or_imp, forall_eq, or_self, Nat.reduceLT, Nat.reduceLeDiff, and_self, List.forall_mem_cons, List.not_mem_nil, false_implies, implies_true, and_true, true_and, vcOHb]) fun w => ?_
  simp only [List.length_cons, List.length_nil, Tryd.ntmps65, Nat.reduceAdd, Nat.reduceSub, List.replicate_succ, List.replicate_zero, List.cons_append, List.nil_append]
  by_cases h1 : n ≥ 1
  · by_cases h2 : n ≤ 20
    · rw [decide_eq_true h1, decide_eq_true h2]
      (repeat' ((first | with_reducible (first | apply cF_pure3 (by assumption) | apply cF_ev3 (by assumption)) | refine X_of _ ?_ | with_reducible (first | exact ⟨_, rfl⟩ | refine And.intro ?_ ?_ | intro _)) <;> try simp -implicitDefEqProofs (maxSteps := 1000000) (disch := first | exact dz3 | fail) only [vcR, vcT, simprocAttr, Ab.part, implies_true, forall_const, true_or, Option.isNone_some, Option.isNone_none, vcXHb, Tryd.f65, List.toList_toArray, arr4_zero, nat4_set1, nat4_setL, nat4_set0, h1,h2]))
      all_goals rfl
    · rw [decide_eq_true h1, decide_eq_false h2]
      (repeat' ((first | with_reducible (first | apply cF_pure3 (by assumption) | apply cF_ev3 (by assumption)) | refine X_of _ ?_ | with_reducible (first | exact ⟨_, rfl⟩ | refine And.intro ?_ ?_ | intro _)) <;> try simp -implicitDefEqProofs (maxSteps := 1000000) (disch := first | exact dz3 | fail) only [vcR, vcT, simprocAttr, Ab.part, implies_true, forall_const, true_or, Option.isNone_some, Option.isNone_none, vcXHb, Tryd.f65, List.toList_toArray, arr4_zero, nat4_set1, nat4_setL, nat4_set0, h1,h2]))
      all_goals rfl
  · rw [decide_eq_false h1]
    (repeat' ((first | with_reducible (first | apply cF_pure3 (by assumption) | apply cF_ev3 (by assumption)) | refine X_of _ ?_ | with_reducible (first | exact ⟨_, rfl⟩ | refine And.intro ?_ ?_ | intro _)) <;> try simp -implicitDefEqProofs (maxSteps := 1000000) (disch := first | exact dz3 | fail) only [vcR, vcT, simprocAttr, Ab.part, implies_true, forall_const, true_or, Option.isNone_some, Option.isNone_none, vcXHb, Tryd.f65, List.toList_toArray, arr4_zero, nat4_set1, nat4_setL, nat4_set0, h1]))
    all_goals rfl
theorem below_e (k kx kq P Q G a : Nat) (ha : a < 2 ^ 256) : EvC (modEvo 108) Tryd.prog 66 [.s (.v (.pointer (some ⟨k, 0, none⟩))), .agg (nat4 a)] (GK k kx kq P Q G) (.s (.v (.bool (decide (a < Q))))) := by
  (refine evC_of Tryd.func66 rfl (by simp only [List.length_cons, List.length_nil, List.map_cons, List.map_nil, List.nodup_cons, List.nodup_nil, List.mem_cons, Nat.reduceAdd, Nat.reduceEqDiff, or_false, not_false_eq_true, forall_eq_or_imp, forall_eq, or_self, Nat.reduceLT, Nat.reduceLeDiff, and_self, List.forall_mem_cons, List.not_mem_nil, false_implies, implies_true, and_true, true_and, vcOHb]) (by simp only [List.length_cons, List.length_nil, List.map_cons, List.map_nil, List.nodup_cons, List.nodup_nil, List.mem_cons, Nat.reduceAdd, Nat.reduceEqDiff, or_false, not_false_eq_true, forall_eq_or_imp, forall_eq, or_self, Nat.reduceLT, Nat.reduceLeDiff, and_self, List.forall_mem_cons, List.not_mem_nil, false_implies, implies_true, and_true, true_and, vcOHb]) fun B w hpre => ?_; simp only [List.length_cons, List.length_nil, Tryd.ntmps66, Nat.reduceAdd, Nat.reduceSub, List.replicate_succ, List.replicate_zero, List.cons_append, List.nil_append])
  have h1 := Kn.entry (P := Tryd.prog) (isGrp_stays 108 k kx kq P Q G) hpre
  have hMQ : Kn (ctxE Tryd.prog (modEvo 108) w B) (isMod 108 kq Q) := h1.gmq
  obtain ⟨hOP, hOQ⟩ := h1.gOdd
  have hQ2 := hOQ.lt
  have e1 := gQ_e k kx kq P Q G
  have e2 := M_e kq Q
  clear hpre
  by_cases hq : a < Q
  · have hs := sg_lt0 hq
    rw [decide_eq_true hq]
    clear hq
    (repeat' ((first | with_reducible (first | apply XQ_cons | apply XQ_consG | apply XQ_nil | apply XR_cons | apply XR_consG | apply XR_nil | apply cF_pure3 (by assumption) | apply cV_pure3 (by assumption) | apply cF_ev3 (by assumption) | apply cV_ev3 (by assumption) | apply cF_pure3 (cmp_c _ _ bd3 bd3) | apply cV_pure3 (cmp_c _ _ bd3 bd3)) | (with_reducible apply X_drawC (id := 1) 7; (next => (kernel_rfl)); (next => (kernel_rfl))) | refine X_of _ ?_ | with_reducible (first | exact ⟨_, rfl⟩ | refine And.intro ?_ ?_ | intro _)) <;> try simp -implicitDefEqProofs (maxSteps := 1000000) (disch := first | exact dz3 | fail) only [vcR, vcT, simprocAttr, Ab.part, implies_true, forall_const, true_or, Option.isNone_some, Option.isNone_none, vcXHb, Tryd.f66, List.toList_toArray, arr4_zero, nat4_set1, nat4_setL, nat4_set0, hs]))
  · have hs : ¬ sg a Q < 0 := by have := sg_nonneg (Nat.le_of_not_lt hq); omega
    rw [decide_eq_false hq]
    clear hq
    (repeat' ((first | with_reducible (first | apply XQ_cons | apply XQ_consG | apply XQ_nil | apply XR_cons | apply XR_consG | apply XR_nil | apply cF_pure3 (by assumption) | apply cV_pure3 (by assumption) | apply cF_ev3 (by assumption) | apply cV_ev3 (by assumption) | apply cF_pure3 (cmp_c _ _ bd3 bd3) | apply cV_pure3 (cmp_c _ _ bd3 bd3)) | (with_reducible apply X_drawC (id := 1) 7; (next => (kernel_rfl)); (next => (kernel_rfl))) | refine X_of _ ?_ | with_reducible (first | exact ⟨_, rfl⟩ | refine And.intro ?_ ?_ | intro _)) <;> try simp -implicitDefEqProofs (maxSteps := 1000000) (disch := first | exact dz3 | fail) only [vcR, vcT, simprocAttr, Ab.part, implies_true, forall_const, true_or, Option.isNone_some, Option.isNone_none, vcXHb, Tryd.f66, List.toList_toArray, arr4_zero, nat4_set1, nat4_setL, nat4_set0, hs]))
def vcXAb25 := (And.intro (And.intro (And.intro (And.intro (And.intro (And.intro (And.intro @modc_length @modc_take) (And.intro @modc_sq (And.intro @modc_i @modS_length))) (And.intro (And.intro @nats_length @pt_length) (And.intro @pt_fst (And.intro @pt_snd @pt_one)))) (And.intro (And.intro (And.intro @pt_splice @avren_sl) (And.intro @qm_call (And.intro @qm_move @qm_assign))) (And.intro (And.intro @qm_pick (And.intro @qm_build @qm_load)) (And.intro @qm_nilCheck (And.intro @qm_binOp @qm_unOp))))) (And.intro (And.intro (And.intro (And.intro @qm_convert @qm_fieldAddr) (And.intro @qm_field (And.intro @qm_indexAddr @qm_index))) (And.intro (And.intro @qm_extract (And.intro @qm_makeFunc @xcalledM_first)) (And.intro @xcalledM_cap (And.intro @maskOK_p @maskOK_v)))) (And.intro (And.intro (And.intro @xcallHM_value @xcallHM_len) (And.intro @xcalledM_some (And.intro @xTrM_nil @xTrM_false))) (And.intro (And.intro @xTrM_cons (And.intro @xAtM_assign @xAtM_move)) (And.intro @xAtM_extract (And.intro @xAtM_alloc @xAtM_store)))))) (And.intro (And.intro (And.intro (And.intro (And.intro @famL_nil @famL_cons) (And.intro @tf108_row (And.intro @tf108_sz @tf108_szO))) (And.intro (And.intro @tf108_f0 (And.intro @tf108_f1 @tf108_f2)) (And.intro @tf108_f3 (And.intro @tf108_known @tf108_zero)))) (And.intro (And.intro (And.intro @tf108_p0 @tf108_p1) (And.intro @tf108_p2 (And.intro @tf108_p3 @tf108_slc))) (And.intro (And.intro @tf142_row (And.intro @tf142_sz @tf142_szO)) (And.intro @tf142_arr (And.intro @tf142_known @tf142_eq))))) (And.intro (And.intro (And.intro (And.intro @tf142_zero @tf142_lits) (And.intro @tf142_place (And.intro @tf142_slc @tf46_row))) (And.intro (And.intro @tf46_sz (And.intro @tf46_szO @tf46_slc)) (And.intro @tf46_ptr (And.intro @tf46_zero @tf144_row)))) (And.intro (And.intro (And.intro @tf144_sz @tf144_szO) (And.intro @tf144_slc (And.intro @tf144_ptr @tf144_zero))) (And.intro (And.intro @tf145_row (And.intro @tf145_sz @tf145_szO)) (And.intro @tf145_slc (And.intro @tf145_arr @tf145_isSlc))))))) (And.intro (And.intro (And.intro (And.intro (And.intro (And.intro @tf145_zero @tf98_row) (And.intro @tf98_sz (And.intro @tf98_szO @tf98_slc))) (And.intro (And.intro @tf98_int (And.intro @tf98_zero @tf21_row)) (And.intro @tf21_sz (And.intro @tf21_szO @tf21_slc)))) (And.intro (And.intro (And.intro @tf21_int @tf21_zero) (And.intro @ctxN_P (And.intro @ctxN_TM @bnd_none))) (And.intro (And.intro @bnd_int (And.intro @xslB_some @xslice_p)) (And.intro @xslice_sl (And.intro @xslice_v @xarrAt_sl))))) (And.intro (And.intro (And.intro (And.intro @xarrAt_v @tq50_row) (And.intro @tq50_sz (And.intro @tq50_szO @tq50_slc))) (And.intro (And.intro @tq50_arr (And.intro @tq50_isSlc @tq50_zero)) (And.intro @tq124_row (And.intro @tq124_sz @tq124_szO)))) (And.intro (And.intro (And.intro @tq124_slc @tq124_arr) (And.intro @tq124_isSlc (And.intro @tq124_zero @tq126_row))) (And.intro (And.intro @tq126_sz (And.intro @tq126_szO @tq126_f0)) (And.intro @tq126_f1 (And.intro @tq126_known @tq126_eq)))))) (And.intro (And.intro (And.intro (And.intro (And.intro @tq126_zero @tq126_p0) (And.intro @tq126_p1 (And.intro @tq126_slc @ctxE_P))) (And.intro (And.intro @ctxE_TM (And.intro @modEvo_TM @after_P)) (And.intro @after_TM (And.intro @fz_v @fz_p)))) (And.intro (And.intro (And.intro @fz_sl @fz_agg) (And.intro @fz_tup (And.intro @fz_undef @avfz_v))) (And.intro (And.intro @avfz_p (And.intro @avfz_sl @avfz_agg)) (And.intro @svfz_v (And.intro @svfz_p @svfz_sl))))) (And.intro (And.intro (And.intro (And.intro @fzP_none @fzP_some) (And.intro @fzS_none (And.intro @fzS_some @fz_nat4))) (And.intro (And.intro @fz_arr (And.intro @fz_iarr @fzB_some)) (And.intro @fzH_nil (And.intro @fzH_cons @posL_nil)))) (And.intro (And.intro (And.intro @posL_cons @ren_v) (And.intro @ren_p (And.intro @ren_sl @ren_undef))) (And.intro (And.intro @ren_nat4 (And.intro @ren_tupE @ren_tup)) (And.intro @avren_v (And.intro @avren_p @avren_nat4))))))))
def vcOAb25 := (And.intro (And.intro (And.intro (And.intro @okv_p @okv_sl) (And.intro @oks_s @oks_agg)) (And.intro (And.intro @oks_tup @oka_s) (And.intro @oka_agg @okv_v))) (And.intro (And.intro (And.intro @nat4_okk @nat8_okk) (And.intro @arr_okk @iarr_okk)) (And.intro (And.intro @modc_okk @modS_okk) (And.intro @nats_okk @pt_okk))))
theorem bd {p : Prop} (h : p := by first | (with_reducible first | assumption | exact OddM.mod_lt (by assumption) | exact OddM.mo_lt (by assumption) | exact OddM.mo_lt' (by assumption) | exact OddM.img_lt (by assumption) | exact OddM.msub_lt (by assumption) | exact OddM.lt (by assumption) | exact OddM.pos (by assumption) | exact lt512 (by assumption) | exact lt512_add (by first | assumption | exact OddM.mod_lt (by assumption)) (by first | assumption | exact OddM.lt (by assumption)) | exact lt512_mul (by assumption) (by assumption)) | decide | omega) : p := h
theorem dz {p : Prop} (h : p := by first | (simp only [nat4_length, nat8_length, arr_length, iarr_length, modc_length, modS_length, nats_length, pt_length, List.length_cons, List.length_nil, Nat.reduceAdd]; done) | omega) : p := h
section
variable {Γ : Ctx} {P : Program} {V : Evo} {H : Heap} {f : FuncId} {args : List TV} {r : TV} {K : TV → Heap → Prop} {KV : TV → Prop}
end
def sumM (m : Nat) (l : Nat → Nat) : Nat → Nat
  | 0 => 0
  | n + 1 => (sumM m l n + l n) % m
theorem sumM_lt {m : Nat} (h : OddM m) (l : Nat → Nat) : ∀ n, sumM m l n < 2 ^ 256
  | 0 => by show 0 < 2 ^ 256; decide
  | n + 1 => h.mod_lt
theorem sum_e (k m : Nat) (x : Option Addr) (n c : Nat) (l : Nat → Nat) (hG : OddM m) (hl : ∀ i, l i < 2 ^ 256) (hn : n < 9223372036854775808) :
    EvC (modEvo 108) Tryd.prog 90 [.s (.v (.pointer (some ⟨k, 0, none⟩))), .s (.v (.slice x n c))] (fun B w => isMod 108 k m B w ∧ natsAt (modEvo 108) x n l B w) (.agg (nat4 (sumM m l n))) := by
  (refine evC_of Tryd.func90 rfl (by simp only [List.length_cons, List.length_nil, List.map_cons, List.map_nil, List.nodup_cons, List.nodup_nil, List.mem_cons, Nat.reduceAdd, Nat.reduceEqDiff, or_false, not_false_eq_true, forall_eq_or_imp, forall_eq, or_self, Nat.reduceLT, Nat.reduceLeDiff, and_self, List.forall_mem_cons, List.not_mem_nil, false_implies, implies_true, and_true, true_and, vcOAb25]) (by simp only [List.length_cons, List.length_nil, List.map_cons, List.map_nil, List.nodup_cons, List.nodup_nil, List.mem_cons, Nat.reduceAdd, Nat.reduceEqDiff, or_false, not_false_eq_true, forall_eq_or_imp, forall_eq, or_self, Nat.reduceLT, Nat.reduceLeDiff, and_self, List.forall_mem_cons, List.not_mem_nil, false_implies, implies_true, and_true, true_and, vcOAb25]) fun B w hpre => ?_; simp only [List.length_cons, List.length_nil, Tryd.ntmps90, Nat.reduceAdd, Nat.reduceSub, List.replicate_succ, List.replicate_zero, List.cons_append, List.nil_append])
  have hM : Kn (ctxE Tryd.prog (modEvo 108) w B) (isMod 108 k m) := Kn.entry (isMod_stays _ k m) hpre.1
  have hN : Kn (ctxE Tryd.prog (modEvo 108) w B) (natsAt (modEvo 108) x n l) := Kn.entry (natsAt_stays _ x n l) hpre.2
  have hN0 := hpre.2
  clear hpre
  (repeat' ((first | with_reducible (first | apply cF_pure (by assumption) | apply cF_ev (by assumption) | apply cF_ev (plus_e _ _ _ _ bd bd bd)) | refine X_of _ ?_ | with_reducible (first | exact ⟨_, rfl⟩ | refine And.intro ?_ ?_ | intro _)) <;> try simp -implicitDefEqProofs (maxSteps := 1000000) (disch := first | exact dz | fail) only [vcR, vcT, simprocAttr, Ab.part, implies_true, forall_const, true_or, Option.isNone_some, Option.isNone_none, vcXAb25, Tryd.f90, List.toList_toArray, arr4_zero, nat4_set1, nat4_setL, nat4_set0]))
  refine X_loop (ι := Nat) (fun i => i ≤ n) (fun i => n - i) [7, 10, 11, 12, 13, 14, 15, 16, 17, 18, 19]
    (fun i => [(10, .s (.v (.int .i64 (i : Nat))))])
    (fun i => [(1, nat4 (sumM m l i))]) 0 (shape_of fun i => ?_) (by decide) ?_ ?_
  · simp only [List.length_cons, List.length_nil, List.map_cons, List.map_nil, List.nodup_cons, List.nodup_nil, List.mem_cons, Nat.reduceAdd, Nat.reduceEqDiff, or_false, not_false_eq_true, forall_eq_or_imp, forall_eq, or_self, Nat.reduceLT, Nat.reduceLeDiff, and_self, List.forall_mem_cons, List.not_mem_nil, false_implies, implies_true, and_true, true_and, vcOAb25]
  · simp -implicitDefEqProofs (maxSteps := 1000000) (disch := first | exact dz | fail) only [vcR, vcT, simprocAttr, Ab.part, implies_true, forall_const, true_or, Option.isNone_some, Option.isNone_none, vcXAb25, Tryd.f90, List.toList_toArray, again_eq]
    try simp
    all_goals rfl
  · intro i us hi
    (repeat (refine X_of _ ?_; simp -implicitDefEqProofs (maxSteps := 1000000) (disch := first | exact dz | fail) only [vcR, vcT, simprocAttr, Ab.part, implies_true, forall_const, true_or, Option.isNone_some, Option.isNone_none, vcXAb25, Tryd.f90, List.toList_toArray]))
    refine ⟨fun h => ?_, fun h => ?_⟩
    · have hlt : i < n := by omega
      obtain ⟨ad, rfl⟩ : ∃ ad, x = some ad := by
        rcases hN0 with h0 | ⟨ad, h0, _⟩
        · omega
        · exact ⟨ad, h0⟩
      have hx : ∀ {K : TV → HE → Prop}, xext (ctxE Tryd.prog (modEvo 108) w B) (some true) 4 (ad.add (i * 4)) K = K (.agg (nat4 (l i))) .none := fun {K} => hN.nat hlt
      have h1 := plus_e k m (sumM m l i) (l i) hG (sumM_lt hG l i) (hl i)
      clear hN0 hl
      (repeat' ((first | with_reducible (first | apply cF_pure (by assumption) | apply cF_ev (by assumption)) | refine X_of _ ?_ | with_reducible (first | exact ⟨_, rfl⟩ | refine And.intro ?_ ?_ | intro _)) <;> try simp -implicitDefEqProofs (maxSteps := 1000000) (disch := first | exact dz | fail) only [vcR, vcT, simprocAttr, Ab.part, implies_true, forall_const, true_or, Option.isNone_some, Option.isNone_none, vcXAb25, Tryd.f90, List.toList_toArray, arr4_zero, nat4_set1, nat4_setL, nat4_set0, hx]))
      refine ⟨i + 1, by omega, ?_⟩
      simp -implicitDefEqProofs (maxSteps := 1000000) (disch := first | exact dz | fail) only [vcR, vcT, simprocAttr, Ab.part, implies_true, forall_const, true_or, Option.isNone_some, Option.isNone_none, vcXAb25, Tryd.f90, List.toList_toArray, again_eq]
      exact ⟨_, rfl, rfl⟩
    · have : i = n := by omega
      subst this
      (repeat' ((first | with_reducible (first | apply cF_pure (by assumption) | apply cF_ev (by assumption) | apply cF_ev (plus_e _ _ _ _ bd bd bd)) | refine X_of _ ?_ | with_reducible (first | exact ⟨_, rfl⟩ | refine And.intro ?_ ?_ | intro _)) <;> try simp -implicitDefEqProofs (maxSteps := 1000000) (disch := first | exact dz | fail) only [vcR, vcT, simprocAttr, Ab.part, implies_true, forall_const, true_or, Option.isNone_some, Option.isNone_none, vcXAb25, Tryd.f90, List.toList_toArray, arr4_zero, nat4_set1, nat4_setL, nat4_set0]))
def egc (m last rest s t : Nat) : Nat × Nat := if h : rest = 0 then (last, s) else egc m rest (last % rest) t (msub m s (last / rest * t % m))
termination_by rest
decreasing_by exact Nat.mod_lt _ (Nat.pos_of_ne_zero h)
theorem egc_zero (m last s t : Nat) : egc m last 0 s t = (last, s) := by rw [egc]; simp
theorem egc_step (m last rest s t : Nat) (h : rest ≠ 0) : egc m last rest s t = egc m rest (last % rest) t (msub m s (last / rest * t % m)) := by rw [egc]; simp [h]
def inv (m a : Nat) : Nat := if (egc m m (a % m) 0 1).1 = 1 then (egc m m (a % m) 0 1).2 else 0
def invE (m a : Nat) : Int := if (egc m m (a % m) 0 1).1 = 1 then 0 else 11
theorem egc_lt {m : Nat} (h : OddM m) : ∀ (rest last s t : Nat), s < 2 ^ 256 → t < 2 ^ 256 → (egc m last rest s t).2 < 2 ^ 256 := by
  intro rest
  induction rest using Nat.strongRecOn with
  | ind rest ih =>
    intro last s t hs ht
    by_cases h0 : rest = 0
    · subst h0; rw [egc_zero]; exact hs
    · rw [egc_step _ _ _ _ _ h0]
      exact ih _ (Nat.mod_lt _ (Nat.pos_of_ne_zero h0)) _ _ _ ht (OddM.msub_lt h)
theorem OddM.inv_lt {m a : Nat} (h : OddM m) : inv m a < 2 ^ 256 := by
  unfold inv
  split
  · exact egc_lt h _ _ _ _ (by decide) (by decide)
  · decide
def trQ2n109x2 : Tr := (.cons 6 (.cons 7 (.cons 8 (.cons 9 .nil .nil) .nil) .nil) (.cons 7 (.cons 6 (.cons 8 (.cons 9 .nil .nil) .nil) .nil) .nil))
def trQ2n109x3 : Tr := (.cons 2 (.cons 3 (.cons 4 (.cons 5 .nil .nil) .nil) .nil) (.cons 3 (.cons 2 (.cons 4 (.cons 5 .nil .nil) .nil) .nil) .nil))
def trQ2n109x6 : Tr := (.cons 0 (.cons 1 (.cons 2 (.cons 3 .nil .nil) .nil) (.cons 2 (.cons 1 (.cons 3 .nil .nil) .nil) .nil)) (.cons 1 (.cons 0 (.cons 2 (.cons 3 .nil .nil) .nil) .nil) .nil))
theorem inverse_e (k m a : Nat) (hG : OddM m) (ha : a < 2 ^ 256) :
    EvC (modEvo 108) Tryd.prog 109 [.s (.v (.pointer (some ⟨k, 0, none⟩))), .agg (nat4 a)] (isMod 108 k m) (.tup [.agg (nat4 (inv m a)), .s (.v (.int .i64 (invE m a)))]) := by
  obtain ⟨G, hGe⟩ : ∃ G, egc m m (a % m) 0 1 = G := ⟨_, rfl⟩
  have hi : inv m a = if G.1 = 1 then G.2 else 0 := by rw [← hGe]; rfl
  have he : invE m a = if G.1 = 1 then 0 else 11 := by rw [← hGe]; rfl
  obtain ⟨r, hr⟩ : ∃ r, inv m a = r := ⟨_, rfl⟩
  obtain ⟨e, hee⟩ : ∃ r, invE m a = r := ⟨_, rfl⟩
  rw [hr] at hi
  rw [hee] at he
  rw [hr, hee]
  clear hr hee
  (refine evC_of Tryd.func109 rfl (by simp only [List.length_cons, List.length_nil, List.map_cons, List.map_nil, List.nodup_cons, List.nodup_nil, List.mem_cons, Nat.reduceAdd, Nat.reduceEqDiff, or_false, not_false_eq_true, forall_eq_or_imp, forall_eq, or_self, Nat.reduceLT, Nat.reduceLeDiff, and_self, List.forall_mem_cons, List.not_mem_nil, false_implies, implies_true, and_true, true_and, vcOAb25]) (by simp only [List.length_cons, List.length_nil, List.map_cons, List.map_nil, List.nodup_cons, List.nodup_nil, List.mem_cons, Nat.reduceAdd, Nat.reduceEqDiff, or_false, not_false_eq_true, forall_eq_or_imp, forall_eq, or_self, Nat.reduceLT, Nat.reduceLeDiff, and_self, List.forall_mem_cons, List.not_mem_nil, false_implies, implies_true, and_true, true_and, vcOAb25]) fun B w hpre => ?_; simp only [List.length_cons, List.length_nil, Tryd.ntmps109, Nat.reduceAdd, Nat.reduceSub, List.replicate_succ, List.replicate_zero, List.cons_append, List.nil_append])
  have hM : Kn (ctxE Tryd.prog (modEvo 108) w B) (isMod 108 k m) := Kn.entry (isMod_stays _ k m) hpre
  have hm := hG.lt
  clear hpre
  (repeat' ((first | with_reducible (first | apply XQ_cons | apply XQ_consG | apply XQ_nil | apply XR_cons | apply XR_consG | apply XR_nil | apply XM_cons | apply XM_consG | apply XM_nil | apply cF_pure (by assumption) | apply cV_pure (by assumption) | apply cM_pure (by assumption) | apply cF_ev (by assumption) | apply cV_ev (by assumption) | apply cM_ev (by assumption) | apply cF_pure (div_c _ _ bd bd bd) | apply cV_pure (div_c _ _ bd bd bd) | apply cM_pure (div_c _ _ bd bd bd) | apply cF_ev (M_e _ _) | apply cV_ev (M_e _ _) | apply cM_ev (M_e _ _) | apply cF_ev (minus_e _ _ _ _ bd bd bd) | apply cV_ev (minus_e _ _ _ _ bd bd bd) | apply cM_ev (minus_e _ _ _ _ bd bd bd) | apply cF_ev (plus_e _ _ _ _ bd bd bd) | apply cV_ev (plus_e _ _ _ _ bd bd bd) | apply cM_ev (plus_e _ _ _ _ bd bd bd) | apply cF_ev (times_e _ _ _ _ bd bd bd) | apply cV_ev (times_e _ _ _ _ bd bd bd) | apply cM_ev (times_e _ _ _ _ bd bd bd)) | with_reducible (first | apply gRS (by with_unfolding_all rfl) | apply gR (by with_unfolding_all rfl) | apply gS (by with_unfolding_all rfl) | fail) | (with_reducible apply X_drawM (id := 2) 6 [] trQ2n109x2; (next => (kernel_rfl)); (next => (kernel_rfl))) | (with_reducible apply X_drawM (id := 3) 2 [] trQ2n109x3; (next => (kernel_rfl)); (next => (kernel_rfl))) | (with_reducible apply X_drawM (id := 6) 2 [] (.cons 2 (.cons 3 .nil .nil) .nil); (next => (kernel_rfl)); (next => (kernel_rfl))) | (with_reducible apply X_drawC (id := 7) 8; (next => (kernel_rfl)); (next => (kernel_rfl))) | refine X_of _ ?_ | with_reducible (first | exact ⟨_, rfl⟩ | refine And.intro ?_ ?_ | intro _)) <;> try simp -implicitDefEqProofs (maxSteps := 1000000) (disch := first | exact dz | fail) only [vcR, vcT, simprocAttr, Ab.part, implies_true, forall_const, true_or, Option.isNone_some, Option.isNone_none, vcXAb25, Tryd.f109, List.toList_toArray, arr4_zero, nat4_set1, nat4_setL, nat4_set0, trQ2n109x2, trQ2n109x3]))
  rotate_left
  (refine X_permL [0, 1, 2, 3, 4, 6, 5] rfl rfl (by decide) (by decide) (by simp only [List.length_cons, List.length_nil, List.map_cons, List.map_nil, List.nodup_cons, List.nodup_nil, List.mem_cons, Nat.reduceAdd, Nat.reduceEqDiff, or_false, not_false_eq_true, forall_eq_or_imp, forall_eq, or_self, Nat.reduceLT, Nat.reduceLeDiff, and_self, List.forall_mem_cons, List.not_mem_nil, false_implies, implies_true, and_true, true_and, vcOAb25]) ?_; simp only [ren_v, ren_p, ren_sl, ren_undef, ren_tupE, ren_tup, avren_v, avren_p, avren_nat4, ren_nat4, lk_def, pickH_nil, pickH_cons, consH_some, List.map_cons, List.map_nil, List.getD_cons_zero, List.getD_cons_succ, List.getElem?_cons_zero, List.getElem?_cons_succ])
  rotate_left
  (refine X_permL [0, 1, 2, 4, 3, 5, 6] rfl rfl (by decide) (by decide) (by simp only [List.length_cons, List.length_nil, List.map_cons, List.map_nil, List.nodup_cons, List.nodup_nil, List.mem_cons, Nat.reduceAdd, Nat.reduceEqDiff, or_false, not_false_eq_true, forall_eq_or_imp, forall_eq, or_self, Nat.reduceLT, Nat.reduceLeDiff, and_self, List.forall_mem_cons, List.not_mem_nil, false_implies, implies_true, and_true, true_and, vcOAb25]) ?_; simp only [ren_v, ren_p, ren_sl, ren_undef, ren_tupE, ren_tup, avren_v, avren_p, avren_nat4, ren_nat4, lk_def, pickH_nil, pickH_cons, consH_some, List.map_cons, List.map_nil, List.getD_cons_zero, List.getD_cons_succ, List.getElem?_cons_zero, List.getElem?_cons_succ])
  rotate_left
  (refine X_permL [0, 1, 2, 4, 3, 6, 5] rfl rfl (by decide) (by decide) (by simp only [List.length_cons, List.length_nil, List.map_cons, List.map_nil, List.nodup_cons, List.nodup_nil, List.mem_cons, Nat.reduceAdd, Nat.reduceEqDiff, or_false, not_false_eq_true, forall_eq_or_imp, forall_eq, or_self, Nat.reduceLT, Nat.reduceLeDiff, and_self, List.forall_mem_cons, List.not_mem_nil, false_implies, implies_true, and_true, true_and, vcOAb25]) ?_; simp only [ren_v, ren_p, ren_sl, ren_undef, ren_tupE, ren_tup, avren_v, avren_p, avren_nat4, ren_nat4, lk_def, pickH_nil, pickH_cons, consH_some, List.map_cons, List.map_nil, List.getD_cons_zero, List.getD_cons_succ, List.getElem?_cons_zero, List.getElem?_cons_succ])
  rotate_left
  all_goals
    refine X_loop (ι := Nat × Nat × Nat × Nat) (fun i => (i.1 < 2 ^ 256 ∧ i.2.1 < 2 ^ 256 ∧ i.2.2.1 < 2 ^ 256 ∧ i.2.2.2 < 2 ^ 256) ∧ egc m i.1 i.2.1 i.2.2.1 i.2.2.2 = G) (fun i => i.2.1) [11, 12, 13, 23, 24, 25, 26, 27, 28, 29, 30, 31, 32, 33, 34, 35, 36, 37, 38, 39, 40, 41, 42]
      (fun i => [])
      (fun i => [(3, nat4 i.1), (4, nat4 i.2.1), (5, nat4 i.2.2.1), (6, nat4 i.2.2.2)]) (m, a % m, 0, 1) (shape_of fun i => ?_) (by decide) ?_ ?_
    · simp only [List.length_cons, List.length_nil, List.map_cons, List.map_nil, List.nodup_cons, List.nodup_nil, List.mem_cons, Nat.reduceAdd, Nat.reduceEqDiff, or_false, not_false_eq_true, forall_eq_or_imp, forall_eq, or_self, Nat.reduceLT, Nat.reduceLeDiff, and_self, List.forall_mem_cons, List.not_mem_nil, false_implies, implies_true, and_true, true_and, vcOAb25]
    · simp -implicitDefEqProofs (maxSteps := 1000000) (disch := first | exact dz | fail) only [vcR, vcT, simprocAttr, Ab.part, implies_true, forall_const, true_or, Option.isNone_some, Option.isNone_none, vcXAb25, Tryd.f109, List.toList_toArray, again_eq]
      exact ⟨⟨OddM.mod_lt hG, hGe⟩, _, rfl⟩
    · rintro ⟨x, y, s, t⟩ us ⟨⟨hx, hy, hs, ht⟩, hg⟩
      simp only at hx hy hs ht hg ⊢
      by_cases h0 : y = 0
      · subst h0
        rw [egc_zero] at hg
        subst hg
        simp only at hi he
        have e0 : litsEq (lits 4 (wd 0)) (lits 4 (wd 0)) = true := litsEq_self _
        by_cases h1 : x = 1
        · rw [if_pos h1] at hi he
          subst h1 hi he
          have e1 : litsEq (lits 4 (wd 1)) (lits 4 (wd 1)) = true := litsEq_self _
          (repeat' ((first | with_reducible (first | apply XQ_cons | apply XQ_consG | apply XQ_nil | apply XR_cons | apply XR_consG | apply XR_nil | apply XM_cons | apply XM_consG | apply XM_nil | apply cF_pure (by assumption) | apply cV_pure (by assumption) | apply cM_pure (by assumption) | apply cF_ev (by assumption) | apply cV_ev (by assumption) | apply cM_ev (by assumption) | apply cF_pure (div_c _ _ bd bd bd) | apply cV_pure (div_c _ _ bd bd bd) | apply cM_pure (div_c _ _ bd bd bd) | apply cF_ev (M_e _ _) | apply cV_ev (M_e _ _) | apply cM_ev (M_e _ _) | apply cF_ev (minus_e _ _ _ _ bd bd bd) | apply cV_ev (minus_e _ _ _ _ bd bd bd) | apply cM_ev (minus_e _ _ _ _ bd bd bd) | apply cF_ev (plus_e _ _ _ _ bd bd bd) | apply cV_ev (plus_e _ _ _ _ bd bd bd) | apply cM_ev (plus_e _ _ _ _ bd bd bd) | apply cF_ev (times_e _ _ _ _ bd bd bd) | apply cV_ev (times_e _ _ _ _ bd bd bd) | apply cM_ev (times_e _ _ _ _ bd bd bd)) | with_reducible (first | apply gRS (by with_unfolding_all rfl) | apply gR (by with_unfolding_all rfl) | apply gS (by with_unfolding_all rfl) | fail) | (with_reducible apply X_drawM (id := 2) 6 [] trQ2n109x2; (next => (kernel_rfl)); (next => (kernel_rfl))) | (with_reducible apply X_drawM (id := 3) 2 [] trQ2n109x3; (next => (kernel_rfl)); (next => (kernel_rfl))) | (with_reducible apply X_drawM (id := 6) 2 [] (.cons 2 (.cons 3 .nil .nil) .nil); (next => (kernel_rfl)); (next => (kernel_rfl))) | (with_reducible apply X_drawC (id := 7) 8; (next => (kernel_rfl)); (next => (kernel_rfl))) | refine X_of _ ?_ | with_reducible (first | exact ⟨_, rfl⟩ | refine And.intro ?_ ?_ | intro _)) <;> try simp -implicitDefEqProofs (maxSteps := 1000000) (disch := first | exact dz | fail) only [vcR, vcT, simprocAttr, Ab.part, implies_true, forall_const, true_or, Option.isNone_some, Option.isNone_none, vcXAb25, Tryd.f109, List.toList_toArray, arr4_zero, nat4_set1, nat4_setL, nat4_set0, e0,e1, trQ2n109x2, trQ2n109x3]))
        · rw [if_neg h1] at hi he
          subst hi he
          have e1 : litsEq (lits 4 (wd x)) (lits 4 (wd 1)) = false := by rw [litsEq_nat4 hx (by decide)]; simp [h1]
          (repeat' ((first | with_reducible (first | apply XQ_cons | apply XQ_consG | apply XQ_nil | apply XR_cons | apply XR_consG | apply XR_nil | apply XM_cons | apply XM_consG | apply XM_nil | apply cF_pure (by assumption) | apply cV_pure (by assumption) | apply cM_pure (by assumption) | apply cF_ev (by assumption) | apply cV_ev (by assumption) | apply cM_ev (by assumption) | apply cF_pure (div_c _ _ bd bd bd) | apply cV_pure (div_c _ _ bd bd bd) | apply cM_pure (div_c _ _ bd bd bd) | apply cF_ev (M_e _ _) | apply cV_ev (M_e _ _) | apply cM_ev (M_e _ _) | apply cF_ev (minus_e _ _ _ _ bd bd bd) | apply cV_ev (minus_e _ _ _ _ bd bd bd) | apply cM_ev (minus_e _ _ _ _ bd bd bd) | apply cF_ev (plus_e _ _ _ _ bd bd bd) | apply cV_ev (plus_e _ _ _ _ bd bd bd) | apply cM_ev (plus_e _ _ _ _ bd bd bd) | apply cF_ev (times_e _ _ _ _ bd bd bd) | apply cV_ev (times_e _ _ _ _ bd bd bd) | apply cM_ev (times_e _ _ _ _ bd bd bd)) | with_reducible (first | apply gRS (by with_unfolding_all rfl) | apply gR (by with_unfolding_all rfl) | apply gS (by with_unfolding_all rfl) | fail) | (with_reducible apply X_drawM (id := 2) 6 [] trQ2n109x2; (next => (kernel_rfl)); (next => (kernel_rfl))) | (with_reducible apply X_drawM (id := 3) 2 [] trQ2n109x3; (next => (kernel_rfl)); (next => (kernel_rfl))) | (with_reducible apply X_drawM (id := 6) 2 [] (.cons 2 (.cons 3 .nil .nil) .nil); (next => (kernel_rfl)); (next => (kernel_rfl))) | (with_reducible apply X_drawC (id := 7) 8; (next => (kernel_rfl)); (next => (kernel_rfl))) | refine X_of _ ?_ | with_reducible (first | exact ⟨_, rfl⟩ | refine And.intro ?_ ?_ | intro _)) <;> try simp -implicitDefEqProofs (maxSteps := 1000000) (disch := first | exact dz | fail) only [vcR, vcT, simprocAttr, Ab.part, implies_true, forall_const, true_or, Option.isNone_some, Option.isNone_none, vcXAb25, Tryd.f109, List.toList_toArray, arr4_zero, nat4_set1, nat4_setL, nat4_set0, e0,e1, trQ2n109x2, trQ2n109x3]))
      · rw [egc_step _ _ _ _ _ h0] at hg
        have e0 : litsEq (lits 4 (wd y)) (lits 4 (wd 0)) = false := by rw [litsEq_nat4 hy (by decide)]; simp [h0]
        have hyp : 0 < y := by omega
        have hq : x / y < 2 ^ 256 := Nat.lt_of_le_of_lt (Nat.div_le_self _ _) hx
        have hr : x % y < y := Nat.mod_lt _ hyp
        (repeat' ((first | with_reducible (first | apply XQ_cons | apply XQ_consG | apply XQ_nil | apply XR_cons | apply XR_consG | apply XR_nil | apply XM_cons | apply XM_consG | apply XM_nil | apply cF_pure (by assumption) | apply cV_pure (by assumption) | apply cM_pure (by assumption) | apply cF_ev (by assumption) | apply cV_ev (by assumption) | apply cM_ev (by assumption) | apply cF_pure (div_c _ _ bd bd bd) | apply cV_pure (div_c _ _ bd bd bd) | apply cM_pure (div_c _ _ bd bd bd) | apply cF_ev (M_e _ _) | apply cV_ev (M_e _ _) | apply cM_ev (M_e _ _) | apply cF_ev (minus_e _ _ _ _ bd bd bd) | apply cV_ev (minus_e _ _ _ _ bd bd bd) | apply cM_ev (minus_e _ _ _ _ bd bd bd) | apply cF_ev (plus_e _ _ _ _ bd bd bd) | apply cV_ev (plus_e _ _ _ _ bd bd bd) | apply cM_ev (plus_e _ _ _ _ bd bd bd) | apply cF_ev (times_e _ _ _ _ bd bd bd) | apply cV_ev (times_e _ _ _ _ bd bd bd) | apply cM_ev (times_e _ _ _ _ bd bd bd)) | with_reducible (first | apply gRS (by with_unfolding_all rfl) | apply gR (by with_unfolding_all rfl) | apply gS (by with_unfolding_all rfl) | fail) | (with_reducible apply X_drawM (id := 2) 6 [] trQ2n109x2; (next => (kernel_rfl)); (next => (kernel_rfl))) | (with_reducible apply X_drawM (id := 3) 2 [] trQ2n109x3; (next => (kernel_rfl)); (next => (kernel_rfl))) | (with_reducible apply X_drawM (id := 6) 0 [3, 4] trQ2n109x6; (next => (kernel_rfl)); (next => (kernel_rfl))) | (with_reducible apply X_drawC (id := 7) 8; (next => (kernel_rfl)); (next => (kernel_rfl))) | refine X_of _ ?_ | with_reducible (first | exact ⟨_, rfl⟩ | refine And.intro ?_ ?_ | intro _)) <;> try simp -implicitDefEqProofs (maxSteps := 1000000) (disch := first | exact dz | fail) only [vcR, vcT, simprocAttr, Ab.part, implies_true, forall_const, true_or, Option.isNone_some, Option.isNone_none, vcXAb25, Tryd.f109, List.toList_toArray, arr4_zero, nat4_set1, nat4_setL, nat4_set0, e0,xAtM_load, trQ2n109x2, trQ2n109x3, trQ2n109x6]))
        all_goals
          refine ⟨(y, x % y, t, msub m s (x / y * t % m)), hr, ?_⟩
          simp -implicitDefEqProofs (maxSteps := 1000000) (disch := first | exact dz | fail) only [vcR, vcT, simprocAttr, Ab.part, implies_true, forall_const, true_or, Option.isNone_some, Option.isNone_none, vcXAb25, Tryd.f109, List.toList_toArray, again_eq]
          exact ⟨⟨OddM.msub_lt hG, hg⟩, _, rfl⟩
def hrn (m : Nat) (l : Nat → Nat) (n at' : Nat) : Nat → Nat
  | 0 => 0
  | i + 1 => sumM m (two (hrn m l n at' i * at' % m) (l (n - 1 - i))) 2
theorem hrn_lt {m : Nat} (h : OddM m) (l : Nat → Nat) (n a : Nat) : ∀ i, hrn m l n a i < 2 ^ 256
  | 0 => by show 0 < 2 ^ 256; decide
  | i + 1 => sumM_lt h _ _
theorem eval_e (k m : Nat) (x : Option Addr) (n c : Nat) (l : Nat → Nat) (a : Nat) (hG : OddM m) (hl : ∀ i, l i < 2 ^ 256) (ha : a < 2 ^ 256) (hn : n < 9223372036854775808) :
    EvC (modEvo 108) Tryd.prog 70 [.s (.v (.pointer (some ⟨k, 0, none⟩))), .s (.v (.slice x n c)), .agg (nat4 a)] (fun B w => isMod 108 k m B w ∧ natsAt (modEvo 108) x n l B w) (.agg (nat4 (hrn m l n a n))) := by
  (refine evC_of Tryd.func70 rfl (by simp only [List.length_cons, List.length_nil, List.map_cons, List.map_nil, List.nodup_cons, List.nodup_nil, List.mem_cons, Nat.reduceAdd, Nat.reduceEqDiff, or_false, not_false_eq_true, forall_eq_or_imp, forall_eq, or_self, Nat.reduceLT, Nat.reduceLeDiff, and_self, List.forall_mem_cons, List.not_mem_nil, false_implies, implies_true, and_true, true_and, vcOAb25]) (by simp only [List.length_cons, List.length_nil, List.map_cons, List.map_nil, List.nodup_cons, List.nodup_nil, List.mem_cons, Nat.reduceAdd, Nat.reduceEqDiff, or_false, not_false_eq_true, forall_eq_or_imp, forall_eq, or_self, Nat.reduceLT, Nat.reduceLeDiff, and_self, List.forall_mem_cons, List.not_mem_nil, false_implies, implies_true, and_true, true_and, vcOAb25]) fun B w hpre => ?_; simp only [List.length_cons, List.length_nil, Tryd.ntmps70, Nat.reduceAdd, Nat.reduceSub, List.replicate_succ, List.replicate_zero, List.cons_append, List.nil_append])
  have hM : Kn (ctxE Tryd.prog (modEvo 108) w B) (isMod 108 k m) := Kn.entry (isMod_stays _ k m) hpre.1
  have hN : Kn (ctxE Tryd.prog (modEvo 108) w B) (natsAt (modEvo 108) x n l) := Kn.entry (natsAt_stays _ x n l) hpre.2
  have hN0 := hpre.2
  clear hpre
  (repeat' ((first | with_reducible (first | apply XQ_cons | apply XQ_consG | apply XQ_nil | apply XR_cons | apply XR_consG | apply XR_nil | apply cF_pure (by assumption) | apply cV_pure (by assumption) | apply cF_ev (by assumption) | apply cV_ev (by assumption) | apply cF_ev (times_e _ _ _ _ bd bd bd) | apply cV_ev (times_e _ _ _ _ bd bd bd)) | (with_reducible apply X_drawC (id := 5) 13; (next => (kernel_rfl)); (next => (kernel_rfl))) | refine X_of _ ?_ | with_reducible (first | exact ⟨_, rfl⟩ | refine And.intro ?_ ?_ | intro _)) <;> try simp -implicitDefEqProofs (maxSteps := 1000000) (disch := first | exact dz | fail) only [vcR, vcT, simprocAttr, Ab.part, implies_true, forall_const, true_or, Option.isNone_some, Option.isNone_none, vcXAb25, Tryd.f70, List.toList_toArray, arr4_zero, nat4_set1, nat4_setL, nat4_set0]))
  refine X_loop (ι := Nat) (fun i => i ≤ n) (fun i => n - i) [8, 11, 12, 13, 14, 15, 16, 17, 18, 19, 20, 21, 22, 23, 24, 25, 26, 27, 28, 29]
    (fun i => [(11, .s (.v (.int .i64 (i : Nat))))])
    (fun i => [(2, nat4 (hrn m l n a i))]) 0 (shape_of fun i => ?_) (by decide) ?_ ?_
  · simp only [List.length_cons, List.length_nil, List.map_cons, List.map_nil, List.nodup_cons, List.nodup_nil, List.mem_cons, Nat.reduceAdd, Nat.reduceEqDiff, or_false, not_false_eq_true, forall_eq_or_imp, forall_eq, or_self, Nat.reduceLT, Nat.reduceLeDiff, and_self, List.forall_mem_cons, List.not_mem_nil, false_implies, implies_true, and_true, true_and, vcOAb25]
  · simp -implicitDefEqProofs (maxSteps := 1000000) (disch := first | exact dz | fail) only [vcR, vcT, simprocAttr, Ab.part, implies_true, forall_const, true_or, Option.isNone_some, Option.isNone_none, vcXAb25, Tryd.f70, List.toList_toArray, again_eq]
    try simp
    all_goals rfl
  · intro i us hi
    by_cases h : i < n
    · obtain ⟨ad, rfl⟩ : ∃ ad, x = some ad := by
        rcases hN0 with h0 | ⟨ad, h0, _⟩
        · omega
        · exact ⟨ad, h0⟩
      have hx : ∀ {K : TV → HE → Prop}, xext (ctxE Tryd.prog (modEvo 108) w B) (some true) 4 (ad.add ((n - 1 - i) * 4)) K = K (.agg (nat4 (l (n - 1 - i)))) .none := fun {K} => hN.nat (by omega)
      have h1 := times_e k m (hrn m l n a i) a hG (hrn_lt hG l n a i) ha
      have hlx := hl (n - 1 - i)
      clear hN0 hl
      have hz : slice0 Tryd.prog 24 2 = some (arr 8 fun _ => 0) := by kernel_rfl
      have ht := fun ad => sum_e k m (some ad) 2 2 (two (hrn m l n a i * a % m) (l (n - 1 - i))) hG (fun j => by unfold two; split; exact hG.mod_lt; exact hlx) (by decide)
      (repeat' ((first | with_reducible (first | apply XQ_cons | apply XQ_consG | apply XQ_nil | apply XR_cons | apply XR_consG | apply XR_nil | apply cF_pure (by assumption) | apply cV_pure (by assumption) | apply cF_ev (by assumption) | apply cV_ev (by assumption)) | (with_reducible apply X_drawC (id := 5) 13; (next => (kernel_rfl)); (next => (kernel_rfl))) | refine X_of _ ?_ | with_reducible (first | exact ⟨_, rfl⟩ | refine And.intro ?_ ?_ | intro _)) <;> try simp -implicitDefEqProofs (maxSteps := 1000000) (disch := first | exact dz | fail) only [vcR, vcT, simprocAttr, Ab.part, implies_true, forall_const, true_or, Option.isNone_some, Option.isNone_none, vcXAb25, Tryd.f70, List.toList_toArray, arr4_zero, nat4_set1, nat4_setL, nat4_set0, hx,wi64,st_bs,xbs_some,hz,two_len,two_set]))
      refine yF_evz (fun β w' hR => ⟨_, ht ⟨β 3, 0, none⟩, hM w' hR.fr.to, natsAt_own0 hR rfl (by decide)⟩) rfl rfl (by kernel_rfl) ?_
      (repeat' ((first | with_reducible (first | apply XQ_cons | apply XQ_consG | apply XQ_nil | apply XR_cons | apply XR_consG | apply XR_nil | apply cF_pure (by assumption) | apply cV_pure (by assumption) | apply cF_ev (by assumption) | apply cV_ev (by assumption) | apply cF_ev (times_e _ _ _ _ bd bd bd) | apply cV_ev (times_e _ _ _ _ bd bd bd)) | (with_reducible apply X_drawC (id := 5) 13; (next => (kernel_rfl)); (next => (kernel_rfl))) | refine X_of _ ?_ | with_reducible (first | exact ⟨_, rfl⟩ | refine And.intro ?_ ?_ | intro _)) <;> try simp -implicitDefEqProofs (maxSteps := 1000000) (disch := first | exact dz | fail) only [vcR, vcT, simprocAttr, Ab.part, implies_true, forall_const, true_or, Option.isNone_some, Option.isNone_none, vcXAb25, Tryd.f70, List.toList_toArray, arr4_zero, nat4_set1, nat4_setL, nat4_set0, hx]))
      refine ⟨i + 1, by omega, ?_⟩
      simp -implicitDefEqProofs (maxSteps := 1000000) (disch := first | exact dz | fail) only [vcR, vcT, simprocAttr, Ab.part, implies_true, forall_const, true_or, Option.isNone_some, Option.isNone_none, vcXAb25, Tryd.f70, List.toList_toArray, again_eq]
      first | exact ⟨_, rfl, rfl⟩ | exact ⟨_, rfl⟩ | rfl | trace_state
    · have : i = n := by omega
      subst this
      (repeat' ((first | with_reducible (first | apply XQ_cons | apply XQ_consG | apply XQ_nil | apply XR_cons | apply XR_consG | apply XR_nil | apply cF_pure (by assumption) | apply cV_pure (by assumption) | apply cF_ev (by assumption) | apply cV_ev (by assumption) | apply cF_ev (times_e _ _ _ _ bd bd bd) | apply cV_ev (times_e _ _ _ _ bd bd bd)) | (with_reducible apply X_drawC (id := 5) 13; (next => (kernel_rfl)); (next => (kernel_rfl))) | refine X_of _ ?_ | with_reducible (first | exact ⟨_, rfl⟩ | refine And.intro ?_ ?_ | intro _)) <;> try simp -implicitDefEqProofs (maxSteps := 1000000) (disch := first | exact dz | fail) only [vcR, vcT, simprocAttr, Ab.part, implies_true, forall_const, true_or, Option.isNone_some, Option.isNone_none, vcXAb25, Tryd.f70, List.toList_toArray, arr4_zero, nat4_set1, nat4_setL, nat4_set0]))
def valN (Q : Nat) (l : Nat → Nat) (n : Nat) (s : Int) : Nat := hrn Q l n (placeN s) n
def rowR (n : Nat) (f : Nat → Nat) (v : TV) (H : Heap) : Prop := ∃ (c : Nat) (sp : List Value), (n ≠ 0 → n ≤ c ∧ sp.length = (c - n) * 4) ∧ v = rowS 0 n c ∧ H = rowH 24 n (nats n f) sp
theorem value_e (k kx kq P Q G : Nat) (x : Option Addr) (n c : Nat) (l : Nat → Nat) (s : Int) (hl : ∀ i, l i < 2 ^ 256) (hn : n < 9223372036854775808) (h1 : -9223372036854775808 ≤ s) (h2 : s < 9223372036854775807) :
    EvC (modEvo 108) Tryd.prog 37 [.s (.v (.pointer (some ⟨k, 0, none⟩))), .s (.v (.slice x n c)), .s (.v (.int .i64 s))] (fun B w => GK k kx kq P Q G B w ∧ natsAt (modEvo 108) x n l B w) (.agg (nat4 (valN Q l n s))) := by
  (refine evC_of Tryd.func37 rfl (by simp only [List.length_cons, List.length_nil, List.map_cons, List.map_nil, List.nodup_cons, List.nodup_nil, List.mem_cons, Nat.reduceAdd, Nat.reduceEqDiff, or_false, not_false_eq_true, forall_eq_or_imp, forall_eq, or_self, Nat.reduceLT, Nat.reduceLeDiff, and_self, List.forall_mem_cons, List.not_mem_nil, false_implies, implies_true, and_true, true_and, vcOHb]) (by simp only [List.length_cons, List.length_nil, List.map_cons, List.map_nil, List.nodup_cons, List.nodup_nil, List.mem_cons, Nat.reduceAdd, Nat.reduceEqDiff, or_false, not_false_eq_true, forall_eq_or_imp, forall_eq, or_self, Nat.reduceLT, Nat.reduceLeDiff, and_self, List.forall_mem_cons, List.not_mem_nil, false_implies, implies_true, and_true, true_and, vcOHb]) fun B w hpre => ?_; simp only [List.length_cons, List.length_nil, Tryd.ntmps37, Nat.reduceAdd, Nat.reduceSub, List.replicate_succ, List.replicate_zero, List.cons_append, List.nil_append])
  have h0 := Kn.entry (P := Tryd.prog) ((isGrp_stays 108 k kx kq P Q G).and (natsAt_stays _ x n l)) hpre
  have hG := h0.left
  have hN := h0.right
  have hMQ : Kn (ctxE Tryd.prog (modEvo 108) w B) (isMod 108 kq Q) := hG.gmq
  obtain ⟨hOP, hOQ⟩ := hG.gOdd
  have hp : placeN s < 2 ^ 256 := by unfold placeN; omega
  have e1 := gQ_e k kx kq P Q G
  have e2 := place_c s h1 h2
  have e3 := eval_e kq Q x n c l (placeN s) hOQ hl hp hn
  unfold valN
  obtain ⟨r, hr⟩ : ∃ r, hrn Q l n (placeN s) n = r := ⟨_, rfl⟩
  obtain ⟨p, hpp⟩ : ∃ p, placeN s = p := ⟨_, rfl⟩
  rw [hr] at e3 ⊢
  rw [hpp] at e2 e3 hp
  clear hpre h0 hr hpp hl
  (repeat' ((first | with_reducible (first | apply cF_pure3 (by assumption) | apply cF_ev3 (by assumption)) | refine X_of _ ?_ | with_reducible (first | exact ⟨_, rfl⟩ | refine And.intro ?_ ?_ | intro _)) <;> try simp -implicitDefEqProofs (maxSteps := 1000000) (disch := first | exact dz3 | fail) only [vcR, vcT, simprocAttr, Ab.part, implies_true, forall_const, true_or, Option.isNone_some, Option.isNone_none, vcXHb, Tryd.f37, List.toList_toArray, arr4_zero, nat4_set1, nat4_setL, nat4_set0]))
theorem opens_e (k kx kq P Q G : Nat) (x : Option Addr) (n c : Nat) (l : Nat → Nat) (a : Nat) (hP2 : P < 2 ^ 256) (hG2 : G < 2 ^ 256) (hl : ∀ i, l i < 2 ^ 256) (hn : n < 9223372036854775808) (ha : a < 2 ^ 256) :
    EvC (modEvo 108) Tryd.prog 40 [.s (.v (.pointer (some ⟨k, 0, none⟩))), .s (.v (.slice x n c)), .agg (nat4 a)] (fun B w => GK k kx kq P Q G B w ∧ natsAt (modEvo 108) x n l B w)
      (.s (.v (.bool (decide (0 < n) && decide (a < Q) && decide (G ^ a % P = l 0))))) := by
  (refine evC_of Tryd.func40 rfl (by simp only [List.length_cons, List.length_nil, List.map_cons, List.map_nil, List.nodup_cons, List.nodup_nil, List.mem_cons, Nat.reduceAdd, Nat.reduceEqDiff, or_false, not_false_eq_true, forall_eq_or_imp, forall_eq, or_self, Nat.reduceLT, Nat.reduceLeDiff, and_self, List.forall_mem_cons, List.not_mem_nil, false_implies, implies_true, and_true, true_and, vcOHb]) (by simp only [List.length_cons, List.length_nil, List.map_cons, List.map_nil, List.nodup_cons, List.nodup_nil, List.mem_cons, Nat.reduceAdd, Nat.reduceEqDiff, or_false, not_false_eq_true, forall_eq_or_imp, forall_eq, or_self, Nat.reduceLT, Nat.reduceLeDiff, and_self, List.forall_mem_cons, List.not_mem_nil, false_implies, implies_true, and_true, true_and, vcOHb]) fun B w hpre => ?_; simp only [List.length_cons, List.length_nil, Tryd.ntmps40, Nat.reduceAdd, Nat.reduceSub, List.replicate_succ, List.replicate_zero, List.cons_append, List.nil_append])
  have hN0 := hpre.2
  have h0 := Kn.entry (P := Tryd.prog) ((isGrp_stays 108 k kx kq P Q G).and (natsAt_stays _ x n l)) hpre
  have hG := h0.left
  have hN := h0.right
  obtain ⟨hOP, hOQ⟩ := hG.gOdd
  have e1 := below_e k kx kq P Q G a ha
  have e2 := gBase_e k kx kq P Q G a hG2 ha
  have hr2 : G ^ a % P < 2 ^ 256 := hOP.mod_lt
  have hl0 := hl 0
  obtain ⟨r, hr⟩ : ∃ r, G ^ a % P = r := ⟨_, rfl⟩
  rw [hr] at e2 hr2 ⊢
  clear hpre h0 hr hl
  by_cases hn0 : 0 < n
  · obtain ⟨ad, rfl⟩ : ∃ ad, x = some ad := by
      rcases hN0 with h0 | ⟨ad, h0, _⟩
      · omega
      · exact ⟨ad, h0⟩
    have hni : (n : Int) > 0 := by omega
    have hx : ∀ {K : TV → HE → Prop}, xext (ctxE Tryd.prog (modEvo 108) w B) (some true) 4 (ad.add (0 * 4)) K = K (.agg (nat4 (l 0))) .none := fun {K} => hN.nat hn0
    rw [decide_eq_true hn0]
    cases hb : decide (a < Q) with
    | true =>
      rw [hb] at e1
      clear hb hN0
      (repeat' ((first | with_reducible (first | apply XQ_cons | apply XQ_consG | apply XQ_nil | apply XR_cons | apply XR_consG | apply XR_nil | apply cF_pure3 (by assumption) | apply cV_pure3 (by assumption) | apply cF_ev3 (by assumption) | apply cV_ev3 (by assumption)) | (with_reducible apply X_drawC (id := 1) 18; (next => (kernel_rfl)); (next => (kernel_rfl))) | refine X_of _ ?_ | with_reducible (first | exact ⟨_, rfl⟩ | refine And.intro ?_ ?_ | intro _)) <;> try simp -implicitDefEqProofs (maxSteps := 1000000) (disch := first | exact dz3 | fail) only [vcR, vcT, simprocAttr, Ab.part, implies_true, forall_const, true_or, Option.isNone_some, Option.isNone_none, vcXHb, Tryd.f40, List.toList_toArray, arr4_zero, nat4_set1, nat4_setL, nat4_set0, hx,hni,hn0,Nat.zero_mul]))
      all_goals simp
    | false =>
      rw [hb] at e1
      clear hb hN0
      (repeat' ((first | with_reducible (first | apply XQ_cons | apply XQ_consG | apply XQ_nil | apply XR_cons | apply XR_consG | apply XR_nil | apply cF_pure3 (by assumption) | apply cV_pure3 (by assumption) | apply cF_ev3 (by assumption) | apply cV_ev3 (by assumption)) | (with_reducible apply X_drawC (id := 1) 18; (next => (kernel_rfl)); (next => (kernel_rfl))) | refine X_of _ ?_ | with_reducible (first | exact ⟨_, rfl⟩ | refine And.intro ?_ ?_ | intro _)) <;> try simp -implicitDefEqProofs (maxSteps := 1000000) (disch := first | exact dz3 | fail) only [vcR, vcT, simprocAttr, Ab.part, implies_true, forall_const, true_or, Option.isNone_some, Option.isNone_none, vcXHb, Tryd.f40, List.toList_toArray, arr4_zero, nat4_set1, nat4_setL, nat4_set0, hx,hni,hn0,Nat.zero_mul]))
      all_goals simp
  · have hni : ¬ (n : Int) > 0 := by omega
    rw [decide_eq_false hn0]
    clear hN0
    (repeat' ((first | with_reducible (first | apply XQ_cons | apply XQ_consG | apply XQ_nil | apply XR_cons | apply XR_consG | apply XR_nil | apply cF_pure3 (by assumption) | apply cV_pure3 (by assumption) | apply cF_ev3 (by assumption) | apply cV_ev3 (by assumption)) | (with_reducible apply X_drawC (id := 1) 18; (next => (kernel_rfl)); (next => (kernel_rfl))) | refine X_of _ ?_ | with_reducible (first | exact ⟨_, rfl⟩ | refine And.intro ?_ ?_ | intro _)) <;> try simp -implicitDefEqProofs (maxSteps := 1000000) (disch := first | exact dz3 | fail) only [vcR, vcT, simprocAttr, Ab.part, implies_true, forall_const, true_or, Option.isNone_some, Option.isNone_none, vcXHb, Tryd.f40, List.toList_toArray, arr4_zero, nat4_set1, nat4_setL, nat4_set0, hni]))
    all_goals simp
def comN (P G : Nat) (l : Nat → Nat) : Nat → Nat := fun i => G ^ l i % P
theorem gives_row0 {f : Nat → Nat} {H' : Heap} : Gives (rowR 0 f) (.s (.v (.slice none 0 0))) H' :=
  ⟨[], rowS 0 0 0, rowH 24 0 (nats 0 f) [], ⟨0, [], fun h => absurd rfl h, rfl, rfl⟩, by decide, rfl, trivial, trivial, fun b hb => by rw [rowH_0] at hb; cases hb⟩
theorem gives_row {n c j : Nat} {f : Nat → Nat} {sp : List Value} {H' : Heap} (h0 : n ≠ 0) (hc : n ≤ c ∧ sp.length = (c - n) * 4) (hb : H'[j]? = some ⟨24, nats n f ++ sp.map SV.v⟩) : Gives (rowR n f) (.s (.sl j 0 n c)) H' := by
  refine ⟨[j], rowS 0 n c, rowH 24 n (nats n f) sp, ⟨c, sp, fun _ => hc, rfl, rfl⟩, by simp, by rw [ren_rowS, rowS_s h0]; rfl, ?_, ?_, row_okG (nats_ok _)⟩
  · exact rowS_ok fun _ => by rw [rowH_s h0]; exact Nat.zero_lt_one
  · rw [rowH_s h0]
    exact ⟨hb, trivial⟩
theorem commit_n (kg kx kq P Q G : Nat) (x : Option Addr) (n c : Nat) (l : Nat → Nat) (hG2 : G < 2 ^ 256) (hl : ∀ i, l i < 2 ^ 256) (hn : n ≤ 1000) :
    EvN (modEvo 108) Tryd.prog 35 [.s (.v (.pointer (some ⟨kg, 0, none⟩))), .s (.v (.slice x n c))] (fun B w => GK kg kx kq P Q G B w ∧ natsAt (modEvo 108) x n l B w) (rowR n (comN P G l)) := by
  (refine evN_of Tryd.func35 rfl (by simp only [List.length_cons, List.length_nil, List.map_cons, List.map_nil, List.nodup_cons, List.nodup_nil, List.mem_cons, Nat.reduceAdd, Nat.reduceEqDiff, or_false, not_false_eq_true, forall_eq_or_imp, forall_eq, or_self, Nat.reduceLT, Nat.reduceLeDiff, and_self, List.forall_mem_cons, List.not_mem_nil, false_implies, implies_true, and_true, true_and, vcOHb]) fun B w hpre => ?_; simp only [List.length_cons, List.length_nil, Tryd.ntmps35, Nat.reduceAdd, Nat.reduceSub, List.replicate_succ, List.replicate_zero, List.cons_append, List.nil_append])
  have h0 := Kn.entry (P := Tryd.prog) ((isGrp_stays 108 kg kx kq P Q G).and (natsAt_stays _ x n l)) hpre
  have hG := h0.left
  have hN := h0.right
  have hx0 := hpre.2
  obtain ⟨hOP, hOQ⟩ := hG.gOdd
  clear hpre h0
  obtain ⟨f, hf⟩ : ∃ f, comN P G l = f := ⟨_, rfl⟩
  have hadr : n ≠ 0 → ∃ ad, x = some ad := fun h => by
    rcases hx0 with h0 | ⟨ad, h0, _⟩
    · omega
    · exact ⟨ad, h0⟩
  clear hx0
  have hszz : sz (ctxE Tryd.prog (modEvo 108) w B).P 24 = 4 := gsz_nat
  rw [hf]
  (repeat' ((first | with_reducible (first | apply XR_append | apply XR_cons | apply XR_consG | apply XR_nil | apply cF_pure3 (by assumption) | apply cF_ev3 (by assumption)) | with_reducible (first | apply gRS (by with_unfolding_all rfl) | apply gR (by with_unfolding_all rfl) | apply gS (by with_unfolding_all rfl) | fail) | refine X_of _ ?_ | with_reducible (first | exact ⟨_, rfl⟩ | refine And.intro ?_ ?_ | intro _)) <;> try simp -implicitDefEqProofs (maxSteps := 1000000) (disch := first | exact dz3 | fail) only [vcR, vcT, simprocAttr, Ab.part, implies_true, forall_const, true_or, Option.isNone_some, Option.isNone_none, vcXHb, Tryd.f35, List.toList_toArray, arr4_zero, nat4_set1, nat4_setL, nat4_set0]))
  refine X_loopT (ι := Nat × Nat × List Value) (fun k => k.1 ≤ n ∧ (k.1 ≠ 0 → k.1 ≤ k.2.1 ∧ k.2.2.length = (k.2.1 - k.1) * 4)) (fun k => n - k.1) [5, 6, 7, 10, 11, 12, 13, 14, 15, 16, 17, 18, 19, 20]
    (fun k => [(5, rowS 0 k.1 k.2.1), (10, .s (.v (.int .i64 (k.1 : Nat))))])
    (fun k => rowH 24 k.1 (nats k.1 f) k.2.2) (0, 0, []) ?_ (by decide) ?_ ?_
  · rintro ⟨k, c', sp⟩ ⟨hk, _⟩
    refine ⟨by simp, ?_, Nat.zero_le _, ?_⟩
    · simp only [List.forall_mem_cons]
      refine ⟨rowS_ok fun h0 => ?_, trivial, fun x hx => by simp at hx⟩
      rw [rowH_s h0]; exact Nat.zero_lt_one
    · exact row_okG (nats_ok _)
  · refine ⟨⟨Nat.zero_le _, fun h => absurd rfl h⟩, [], ⟨by decide, rfl⟩, ?_, trivial⟩
    simp -implicitDefEqProofs (maxSteps := 1000000) (disch := first | exact dz3 | fail) only [vcR, vcT, simprocAttr, Ab.part, implies_true, forall_const, true_or, Option.isNone_some, Option.isNone_none, vcXHb, Tryd.f35, List.toList_toArray, renS_cons,renS_nil,ren_v,rowS_0]
    try simp
  · rintro ⟨k, c', sp⟩ us ⟨hk, hrow⟩
    simp only at hk hrow ⊢
    by_cases hki : k < n
    · obtain ⟨ad, rfl⟩ := hadr (by omega)
      have hx : ∀ {K : TV → HE → Prop}, xext (ctxE Tryd.prog (modEvo 108) w B) (some true) 4 (ad.add (k * 4)) K = K (.agg (nat4 (l k))) .none := fun {K} => hN.nat hki
      have e1 := gBase_e kg kx kq P Q G (l k) hG2 (hl k)
      have hfk : G ^ l k % P = f k := by rw [← hf]; rfl
      rw [hfk] at e1
      have hlk := hl k
      have hfk2 : f k < 2 ^ 256 := by rw [← hfk]; exact hOP.mod_lt
      clear hl hadr hf hfk
      by_cases h0 : k = 0
      · subst h0
        rw [rowH_0]
        (repeat' ((first | with_reducible (first | apply XR_append | apply XR_cons | apply XR_consG | apply XR_nil | apply cF_pure3 (by assumption) | apply cF_ev3 (by assumption)) | with_reducible (first | apply gRS (by with_unfolding_all rfl) | apply gR (by with_unfolding_all rfl) | apply gS (by with_unfolding_all rfl) | apply gSB (by with_unfolding_all rfl) | apply gB (by with_unfolding_all rfl) | fail) | refine X_of _ ?_ | with_reducible (first | exact ⟨_, rfl⟩ | refine And.intro ?_ ?_ | intro _)) <;> try simp -implicitDefEqProofs (maxSteps := 1000000) (disch := first | exact dz3 | fail) only [vcR, vcT, simprocAttr, Ab.part, implies_true, forall_const, true_or, Option.isNone_some, Option.isNone_none, vcXHb, Tryd.f35, List.toList_toArray, arr4_zero, nat4_set1, nat4_setL, nat4_set0, st_bs,xbs_some,ghz1,gone_set,hx]))
        rw [rowS_0]
        refine xappend_nil_i (gnews_nat hszz rfl) (by decide) (gap_nat _ (by decide)) (by show ¬ (24 = 108); decide) fun tc tsp ht1 ht2 => ?_
        try simp -implicitDefEqProofs (maxSteps := 1000000) (disch := first | exact dz3 | fail) only [vcR, vcT, simprocAttr, Ab.part, implies_true, forall_const, true_or, Option.isNone_some, Option.isNone_none, vcXHb, Tryd.f35, List.toList_toArray]
        rw [hszz] at ht2
        (repeat' ((first | with_reducible (first | apply XR_append | apply XR_cons | apply XR_consG | apply XR_nil | apply cF_pure3 (by assumption) | apply cF_ev3 (by assumption)) | with_reducible (first | apply gRS (by with_unfolding_all rfl) | apply gR (by with_unfolding_all rfl) | apply gS (by with_unfolding_all rfl) | apply gSB (by with_unfolding_all rfl) | apply gB (by with_unfolding_all rfl) | fail) | refine X_of _ ?_ | with_reducible (first | exact ⟨_, rfl⟩ | refine And.intro ?_ ?_ | intro _)) <;> try simp -implicitDefEqProofs (maxSteps := 1000000) (disch := first | exact dz3 | fail) only [vcR, vcT, simprocAttr, Ab.part, implies_true, forall_const, true_or, Option.isNone_some, Option.isNone_none, vcXHb, Tryd.f35, List.toList_toArray, arr4_zero, nat4_set1, nat4_setL, nat4_set0]))
        refine ⟨(0 + 1, tc, tsp), by simp; omega, ⟨by simp; omega, fun _ => ⟨ht1, ht2⟩⟩, [2], ⟨by decide, rfl⟩, ?_, ?_⟩
        · have e2 : (rowS 0 (0 + 1) tc).ren (lk [2]) = .s (.sl 2 0 (0 + 1) tc) := by rw [ren_rowS, rowS_s (by omega)]; rfl
          simp -implicitDefEqProofs (maxSteps := 1000000) (disch := first | exact dz3 | fail) only [vcR, vcT, simprocAttr, Ab.part, implies_true, forall_const, true_or, Option.isNone_some, Option.isNone_none, vcXHb, Tryd.f35, List.toList_toArray, renS_cons,renS_nil,ren_v,e2]
          try omega
        · simp only [rowH_s (show 0 + 1 ≠ 0 by omega)]
          refine ⟨?_, trivial⟩
          have h := nats_snoc (n := 0) (l := f)
          rw [nats_zero, List.nil_append] at h
          rw [← h]
          rfl
      · obtain ⟨hkc, hsp⟩ := hrow h0
        rw [rowH_s h0]
        (repeat' ((first | with_reducible (first | apply XR_append | apply XR_cons | apply XR_consG | apply XR_nil | apply cF_pure3 (by assumption) | apply cF_ev3 (by assumption)) | with_reducible (first | apply gRS (by with_unfolding_all rfl) | apply gR (by with_unfolding_all rfl) | apply gS (by with_unfolding_all rfl) | apply gSB (by with_unfolding_all rfl) | apply gB (by with_unfolding_all rfl) | fail) | refine X_of _ ?_ | with_reducible (first | exact ⟨_, rfl⟩ | refine And.intro ?_ ?_ | intro _)) <;> try simp -implicitDefEqProofs (maxSteps := 1000000) (disch := first | exact dz3 | fail) only [vcR, vcT, simprocAttr, Ab.part, implies_true, forall_const, true_or, Option.isNone_some, Option.isNone_none, vcXHb, Tryd.f35, List.toList_toArray, arr4_zero, nat4_set1, nat4_setL, nat4_set0, st_bs,xbs_some,ghz1,gone_set,hx]))
        refine xappend_row (cs := nats k f) (sp := sp) (gnews_nat hszz rfl) (fun _ => ⟨rfl, hkc, by rw [hszz]; exact hsp⟩) (by rw [nats_length, hszz] <;> omega) (by rw [nat4_length, hszz]) (gap_nat _ (by omega)) (by rw [nat4_one]; trivial) (by show ¬ (24 = 108); decide) fun j' c'' sp' H' h1 h2 h3 h4 h5 h6 => ?_
        clear h4 h5 h6
        (repeat' ((first | with_reducible (first | apply XR_append | apply XR_cons | apply XR_consG | apply XR_nil | apply cF_pure3 (by assumption) | apply cF_ev3 (by assumption)) | with_reducible (first | apply gRS (by with_unfolding_all rfl) | apply gR (by with_unfolding_all rfl) | apply gS (by with_unfolding_all rfl) | apply gSB (by with_unfolding_all rfl) | apply gB (by with_unfolding_all rfl) | fail) | refine X_of _ ?_ | with_reducible (first | exact ⟨_, rfl⟩ | refine And.intro ?_ ?_ | intro _)) <;> try simp -implicitDefEqProofs (maxSteps := 1000000) (disch := first | exact dz3 | fail) only [vcR, vcT, simprocAttr, Ab.part, implies_true, forall_const, true_or, Option.isNone_some, Option.isNone_none, vcXHb, Tryd.f35, List.toList_toArray, arr4_zero, nat4_set1, nat4_setL, nat4_set0]))
        refine ⟨(k + 1, c'', sp'), by simp; omega, ⟨by simp; omega, fun _ => ⟨h1, by rw [hszz] at h2; exact h2⟩⟩, [j'], ⟨by simp, rfl⟩, ?_, ?_⟩
        · have e2 : (rowS 0 (k + 1) c'').ren (lk [j']) = .s (.sl j' 0 (k + 1) c'') := by rw [ren_rowS, rowS_s (by omega)]; rfl
          simp -implicitDefEqProofs (maxSteps := 1000000) (disch := first | exact dz3 | fail) only [vcR, vcT, simprocAttr, Ab.part, implies_true, forall_const, true_or, Option.isNone_some, Option.isNone_none, vcXHb, Tryd.f35, List.toList_toArray, renS_cons,renS_nil,ren_v,e2]
          try omega
        · simp only [rowH_s (show k + 1 ≠ 0 by omega)]
          refine ⟨?_, trivial⟩
          rw [h3, ← nats_snoc (n := k) (l := f)]
    · have : n = k := by omega
      subst this
      clear hki hk hadr hl
      by_cases h0 : n = 0
      · subst h0
        rw [rowH_0]
        (repeat' ((first | with_reducible (first | apply XR_append | apply XR_cons | apply XR_consG | apply XR_nil | apply cF_pure3 (by assumption) | apply cF_ev3 (by assumption)) | with_reducible (first | apply gRS (by with_unfolding_all rfl) | apply gR (by with_unfolding_all rfl) | apply gS (by with_unfolding_all rfl) | fail) | refine X_of _ ?_ | with_reducible (first | exact ⟨_, rfl⟩ | refine And.intro ?_ ?_ | intro _)) <;> try simp -implicitDefEqProofs (maxSteps := 1000000) (disch := first | exact dz3 | fail) only [vcR, vcT, simprocAttr, Ab.part, implies_true, forall_const, true_or, Option.isNone_some, Option.isNone_none, vcXHb, Tryd.f35, List.toList_toArray, arr4_zero, nat4_set1, nat4_setL, nat4_set0, rowS_0]))
        exact gives_row0
      · rw [rowH_s h0]
        (repeat' ((first | with_reducible (first | apply XR_append | apply XR_cons | apply XR_consG | apply XR_nil | apply cF_pure3 (by assumption) | apply cF_ev3 (by assumption)) | with_reducible (first | apply gRS (by with_unfolding_all rfl) | apply gR (by with_unfolding_all rfl) | apply gS (by with_unfolding_all rfl) | fail) | refine X_of _ ?_ | with_reducible (first | exact ⟨_, rfl⟩ | refine And.intro ?_ ?_ | intro _)) <;> try simp -implicitDefEqProofs (maxSteps := 1000000) (disch := first | exact dz3 | fail) only [vcR, vcT, simprocAttr, Ab.part, implies_true, forall_const, true_or, Option.isNone_some, Option.isNone_none, vcXHb, Tryd.f35, List.toList_toArray, arr4_zero, nat4_set1, nat4_setL, nat4_set0, rowS_s h0]))
        exact gives_row h0 (hrow h0) rfl
def pwN (Q a : Nat) : Nat → Nat
  | 0 => 1
  | i + 1 => pwN Q a i * a % Q
theorem pwN_lt {Q a : Nat} (h : OddM Q) : ∀ i, pwN Q a i < 2 ^ 256
  | 0 => by show 1 < 2 ^ 256; decide
  | i + 1 => h.mod_lt
def pwS (t c : Nat) : TV := if t = 0 then .s (.sl 1 0 1 1) else .s (.sl 2 0 (t + 1) c)
def pwH (t : Nat) (f : Nat → Nat) (sp : List Value) : Heap := if t = 0 then [] else [⟨24, nats (t + 1) f ++ sp.map .v⟩]
theorem pwS_0 {c : Nat} : pwS 0 c = .s (.sl 1 0 1 1) := rfl
theorem pwS_s {t c : Nat} (h : t ≠ 0) : pwS t c = .s (.sl 2 0 (t + 1) c) := if_neg h
theorem pwH_0 {f : Nat → Nat} {sp : List Value} : pwH 0 f sp = [] := rfl
theorem pwH_s {t : Nat} {f : Nat → Nat} {sp : List Value} (h : t ≠ 0) : pwH t f sp = [⟨24, nats (t + 1) f ++ sp.map .v⟩] := if_neg h
theorem nats_1 {f : Nat → Nat} : nats 1 f = nat4 (f 0) := by
  have h := nats_snoc (n := 0) (l := f)
  rw [nats_zero, List.nil_append] at h
  exact h.symm
def trH4n69x3 : Tr := (.cons 2 (.cons 3 (.cons 4 (.cons 5 (.cons 6 (.cons 7 (.cons 8 (.cons 9 (.cons 10 (.cons 11 (.cons 12 (.cons 13 .nil .nil) .nil) .nil) .nil) .nil) (.cons 9 (.cons 8 (.cons 10 (.cons 11 (.cons 12 (.cons 13 .nil .nil) .nil) .nil) .nil) .nil) .nil)) (.cons 9 (.cons 7 (.cons 8 (.cons 10 (.cons 11 (.cons 12 (.cons 13 .nil .nil) .nil) .nil) .nil) .nil) .nil) .nil)) (.cons 9 (.cons 6 (.cons 7 (.cons 8 (.cons 10 (.cons 11 (.cons 12 (.cons 13 .nil .nil) .nil) .nil) .nil) .nil) .nil) .nil) .nil)) (.cons 9 (.cons 5 (.cons 6 (.cons 7 (.cons 8 (.cons 10 (.cons 11 (.cons 12 (.cons 13 .nil .nil) .nil) .nil) .nil) .nil) .nil) .nil) .nil) .nil)) (.cons 9 (.cons 4 (.cons 5 (.cons 6 (.cons 7 (.cons 8 (.cons 10 (.cons 11 (.cons 12 (.cons 13 .nil .nil) .nil) .nil) .nil) .nil) .nil) .nil) .nil) .nil) .nil)) (.cons 4 (.cons 3 (.cons 5 (.cons 6 (.cons 7 (.cons 8 (.cons 9 (.cons 10 (.cons 11 (.cons 12 (.cons 13 .nil .nil) .nil) .nil) .nil) .nil) (.cons 9 (.cons 8 (.cons 10 (.cons 11 (.cons 12 (.cons 13 .nil .nil) .nil) .nil) .nil) .nil) .nil)) (.cons 9 (.cons 7 (.cons 8 (.cons 10 (.cons 11 (.cons 12 (.cons 13 .nil .nil) .nil) .nil) .nil) .nil) .nil) .nil)) (.cons 9 (.cons 6 (.cons 7 (.cons 8 (.cons 10 (.cons 11 (.cons 12 (.cons 13 .nil .nil) .nil) .nil) .nil) .nil) .nil) .nil) .nil)) (.cons 9 (.cons 5 (.cons 6 (.cons 7 (.cons 8 (.cons 10 (.cons 11 (.cons 12 (.cons 13 .nil .nil) .nil) .nil) .nil) .nil) .nil) .nil) .nil) .nil)) (.cons 5 (.cons 3 (.cons 6 (.cons 7 (.cons 8 (.cons 9 (.cons 10 (.cons 11 (.cons 12 (.cons 13 .nil .nil) .nil) .nil) .nil) .nil) (.cons 9 (.cons 8 (.cons 10 (.cons 11 (.cons 12 (.cons 13 .nil .nil) .nil) .nil) .nil) .nil) .nil)) (.cons 9 (.cons 7 (.cons 8 (.cons 10 (.cons 11 (.cons 12 (.cons 13 .nil .nil) .nil) .nil) .nil) .nil) .nil) .nil)) (.cons 9 (.cons 6 (.cons 7 (.cons 8 (.cons 10 (.cons 11 (.cons 12 (.cons 13 .nil .nil) .nil) .nil) .nil) .nil) .nil) .nil) .nil)) (.cons 6 (.cons 3 (.cons 7 (.cons 8 (.cons 9 (.cons 10 (.cons 11 (.cons 12 (.cons 13 .nil .nil) .nil) .nil) .nil) .nil) (.cons 9 (.cons 8 (.cons 10 (.cons 11 (.cons 12 (.cons 13 .nil .nil) .nil) .nil) .nil) .nil) .nil)) (.cons 9 (.cons 7 (.cons 8 (.cons 10 (.cons 11 (.cons 12 (.cons 13 .nil .nil) .nil) .nil) .nil) .nil) .nil) .nil)) (.cons 9 (.cons 3 (.cons 7 (.cons 8 (.cons 10 (.cons 11 (.cons 12 (.cons 13 .nil .nil) .nil) .nil) .nil) .nil) .nil) .nil) .nil)) (.cons 9 (.cons 3 (.cons 6 (.cons 7 (.cons 8 (.cons 10 (.cons 11 (.cons 12 (.cons 13 .nil .nil) .nil) .nil) .nil) .nil) .nil) .nil) (.cons 6 (.cons 3 (.cons 7 (.cons 8 (.cons 10 (.cons 11 (.cons 12 (.cons 13 .nil .nil) .nil) .nil) .nil) .nil) .nil) .nil) .nil)) .nil))) (.cons 9 (.cons 3 (.cons 5 (.cons 6 (.cons 7 (.cons 8 (.cons 10 (.cons 11 (.cons 12 (.cons 13 .nil .nil) .nil) .nil) .nil) .nil) .nil) .nil) .nil) (.cons 5 (.cons 3 (.cons 6 (.cons 7 (.cons 8 (.cons 10 (.cons 11 (.cons 12 (.cons 13 .nil .nil) .nil) .nil) .nil) .nil) .nil) .nil) (.cons 6 (.cons 3 (.cons 7 (.cons 8 (.cons 10 (.cons 11 (.cons 12 (.cons 13 .nil .nil) .nil) .nil) .nil) .nil) .nil) .nil) .nil)) .nil)) .nil))) (.cons 9 (.cons 3 (.cons 4 (.cons 5 (.cons 6 (.cons 7 (.cons 8 (.cons 10 (.cons 11 (.cons 12 (.cons 13 .nil .nil) .nil) .nil) .nil) .nil) .nil) .nil) .nil) .nil) (.cons 4 (.cons 3 (.cons 5 (.cons 6 (.cons 7 (.cons 8 (.cons 10 (.cons 11 (.cons 12 (.cons 13 .nil .nil) .nil) .nil) .nil) .nil) .nil) .nil) .nil) (.cons 5 (.cons 3 (.cons 6 (.cons 7 (.cons 8 (.cons 10 (.cons 11 (.cons 12 (.cons 13 .nil .nil) .nil) .nil) .nil) .nil) .nil) .nil) (.cons 6 (.cons 3 (.cons 7 (.cons 8 (.cons 10 (.cons 11 (.cons 12 (.cons 13 .nil .nil) .nil) .nil) .nil) .nil) .nil) .nil) .nil)) .nil)) .nil)) .nil))) (.cons 3 (.cons 2 (.cons 4 (.cons 5 (.cons 6 (.cons 7 (.cons 8 (.cons 9 (.cons 10 (.cons 11 (.cons 12 (.cons 13 .nil .nil) .nil) .nil) .nil) .nil) (.cons 9 (.cons 8 (.cons 10 (.cons 11 (.cons 12 (.cons 13 .nil .nil) .nil) .nil) .nil) .nil) .nil)) (.cons 9 (.cons 7 (.cons 8 (.cons 10 (.cons 11 (.cons 12 (.cons 13 .nil .nil) .nil) .nil) .nil) .nil) .nil) .nil)) (.cons 9 (.cons 6 (.cons 7 (.cons 8 (.cons 10 (.cons 11 (.cons 12 (.cons 13 .nil .nil) .nil) .nil) .nil) .nil) .nil) .nil) .nil)) (.cons 9 (.cons 5 (.cons 6 (.cons 7 (.cons 8 (.cons 10 (.cons 11 (.cons 12 (.cons 13 .nil .nil) .nil) .nil) .nil) .nil) .nil) .nil) .nil) .nil)) (.cons 9 (.cons 4 (.cons 5 (.cons 6 (.cons 7 (.cons 8 (.cons 10 (.cons 11 (.cons 12 (.cons 13 .nil .nil) .nil) .nil) .nil) .nil) .nil) .nil) .nil) .nil) .nil)) (.cons 4 (.cons 2 (.cons 5 (.cons 6 (.cons 7 (.cons 8 (.cons 9 (.cons 10 (.cons 11 (.cons 12 (.cons 13 .nil .nil) .nil) .nil) .nil) .nil) (.cons 9 (.cons 8 (.cons 10 (.cons 11 (.cons 12 (.cons 13 .nil .nil) .nil) .nil) .nil) .nil) .nil)) (.cons 9 (.cons 7 (.cons 8 (.cons 10 (.cons 11 (.cons 12 (.cons 13 .nil .nil) .nil) .nil) .nil) .nil) .nil) .nil)) (.cons 9 (.cons 6 (.cons 7 (.cons 8 (.cons 10 (.cons 11 (.cons 12 (.cons 13 .nil .nil) .nil) .nil) .nil) .nil) .nil) .nil) .nil)) (.cons 9 (.cons 5 (.cons 6 (.cons 7 (.cons 8 (.cons 10 (.cons 11 (.cons 12 (.cons 13 .nil .nil) .nil) .nil) .nil) .nil) .nil) .nil) .nil) .nil)) (.cons 5 (.cons 2 (.cons 6 (.cons 7 (.cons 8 (.cons 9 (.cons 10 (.cons 11 (.cons 12 (.cons 13 .nil .nil) .nil) .nil) .nil) .nil) (.cons 9 (.cons 8 (.cons 10 (.cons 11 (.cons 12 (.cons 13 .nil .nil) .nil) .nil) .nil) .nil) .nil)) (.cons 9 (.cons 7 (.cons 8 (.cons 10 (.cons 11 (.cons 12 (.cons 13 .nil .nil) .nil) .nil) .nil) .nil) .nil) .nil)) (.cons 9 (.cons 6 (.cons 7 (.cons 8 (.cons 10 (.cons 11 (.cons 12 (.cons 13 .nil .nil) .nil) .nil) .nil) .nil) .nil) .nil) .nil)) (.cons 6 (.cons 2 (.cons 7 (.cons 8 (.cons 9 (.cons 10 (.cons 11 (.cons 12 (.cons 13 .nil .nil) .nil) .nil) .nil) .nil) (.cons 9 (.cons 8 (.cons 10 (.cons 11 (.cons 12 (.cons 13 .nil .nil) .nil) .nil) .nil) .nil) .nil)) (.cons 9 (.cons 7 (.cons 8 (.cons 10 (.cons 11 (.cons 12 (.cons 13 .nil .nil) .nil) .nil) .nil) .nil) .nil) .nil)) (.cons 7 (.cons 2 (.cons 8 (.cons 9 (.cons 10 (.cons 11 (.cons 12 (.cons 13 .nil .nil) .nil) .nil) .nil) .nil) (.cons 9 (.cons 8 (.cons 10 (.cons 11 (.cons 12 (.cons 13 .nil .nil) .nil) .nil) .nil) .nil) .nil)) (.cons 8 (.cons 2 (.cons 9 (.cons 10 (.cons 11 (.cons 12 (.cons 13 .nil .nil) .nil) .nil) .nil) .nil) (.cons 9 (.cons 2 (.cons 10 (.cons 11 (.cons 12 (.cons 13 .nil .nil) .nil) .nil) .nil) .nil) .nil)) (.cons 9 (.cons 2 (.cons 8 (.cons 10 (.cons 11 (.cons 12 (.cons 13 .nil .nil) .nil) .nil) .nil) .nil) (.cons 8 (.cons 2 (.cons 10 (.cons 11 (.cons 12 (.cons 13 .nil .nil) .nil) .nil) .nil) .nil) .nil)) .nil))) (.cons 9 (.cons 2 (.cons 7 (.cons 8 (.cons 10 (.cons 11 (.cons 12 (.cons 13 .nil .nil) .nil) .nil) .nil) .nil) .nil) (.cons 7 (.cons 2 (.cons 8 (.cons 10 (.cons 11 (.cons 12 (.cons 13 .nil .nil) .nil) .nil) .nil) .nil) (.cons 8 (.cons 2 (.cons 10 (.cons 11 (.cons 12 (.cons 13 .nil .nil) .nil) .nil) .nil) .nil) .nil)) .nil)) .nil))) (.cons 9 (.cons 2 (.cons 6 (.cons 7 (.cons 8 (.cons 10 (.cons 11 (.cons 12 (.cons 13 .nil .nil) .nil) .nil) .nil) .nil) .nil) .nil) (.cons 6 (.cons 2 (.cons 7 (.cons 8 (.cons 10 (.cons 11 (.cons 12 (.cons 13 .nil .nil) .nil) .nil) .nil) .nil) .nil) (.cons 7 (.cons 2 (.cons 8 (.cons 10 (.cons 11 (.cons 12 (.cons 13 .nil .nil) .nil) .nil) .nil) .nil) (.cons 8 (.cons 2 (.cons 10 (.cons 11 (.cons 12 (.cons 13 .nil .nil) .nil) .nil) .nil) .nil) .nil)) .nil)) .nil)) .nil))) (.cons 9 (.cons 2 (.cons 5 (.cons 6 (.cons 7 (.cons 8 (.cons 10 (.cons 11 (.cons 12 (.cons 13 .nil .nil) .nil) .nil) .nil) .nil) .nil) .nil) .nil) (.cons 5 (.cons 2 (.cons 6 (.cons 7 (.cons 8 (.cons 10 (.cons 11 (.cons 12 (.cons 13 .nil .nil) .nil) .nil) .nil) .nil) .nil) .nil) .nil) .nil)) .nil))) .nil)) .nil))
theorem powers_n (kg kx kq P Q G a n : Nat) (ha : a < 2 ^ 256) (hn1 : 1 ≤ n) (hn : n ≤ 1000) :
    EvN (modEvo 108) Tryd.prog 69 [.s (.v (.pointer (some ⟨kg, 0, none⟩))), .agg (nat4 a), .s (.v (.int .i64 (n : Int)))] (fun B w => GK kg kx kq P Q G B w) (rowR n (pwN Q a)) := by
  (refine evN_of Tryd.func69 rfl (by simp only [List.length_cons, List.length_nil, List.map_cons, List.map_nil, List.nodup_cons, List.nodup_nil, List.mem_cons, Nat.reduceAdd, Nat.reduceEqDiff, or_false, not_false_eq_true, forall_eq_or_imp, forall_eq, or_self, Nat.reduceLT, Nat.reduceLeDiff, and_self, List.forall_mem_cons, List.not_mem_nil, false_implies, implies_true, and_true, true_and, vcOHb]) fun B w hpre => ?_; simp only [List.length_cons, List.length_nil, Tryd.ntmps69, Nat.reduceAdd, Nat.reduceSub, List.replicate_succ, List.replicate_zero, List.cons_append, List.nil_append])
  have hG := Kn.entry (P := Tryd.prog) (isGrp_stays 108 kg kx kq P Q G) hpre
  obtain ⟨hOP, hOQ⟩ := hG.gOdd
  have hMQ : Kn (ctxE Tryd.prog (modEvo 108) w B) (isMod 108 kq Q) := hG.gmq
  have e1 := gQ_e kg kx kq P Q G
  clear hpre
  have hft : ∀ i, pwN Q a (i + 1) = pwN Q a i * a % Q := fun i => rfl
  have hlt := fun i => pwN_lt (a := a) hOQ i
  have hf0 : pwN Q a 0 = 1 := rfl
  obtain ⟨f, hf⟩ : ∃ f, pwN Q a = f := ⟨_, rfl⟩
  rw [hf] at hf0 hft hlt ⊢
  clear hf
  have hszz : sz (ctxE Tryd.prog (modEvo 108) w B).P 24 = 4 := gsz_nat
  (repeat' ((first | with_reducible (first | apply XR_append | apply XR_cons | apply XR_consG | apply XR_nil | apply XM_cons | apply XM_consG | apply XM_nil | apply cF_pure3 (by assumption) | apply cM_pure3 (by assumption) | apply cF_ev3 (by assumption) | apply cM_ev3 (by assumption) | apply cF_ev3 (times_e _ _ _ _ bd3 bd3 bd3) | apply cM_ev3 (times_e _ _ _ _ bd3 bd3 bd3)) | (with_reducible apply X_drawM (id := 3) 2 [] trH4n69x3; (next => (kernel_rfl)); (next => (kernel_rfl))) | refine X_of _ ?_ | with_reducible (first | exact ⟨_, rfl⟩ | refine And.intro ?_ ?_ | intro _)) <;> try simp -implicitDefEqProofs (maxSteps := 1000000) (disch := first | exact dz3 | fail) only [vcR, vcT, simprocAttr, Ab.part, implies_true, forall_const, true_or, Option.isNone_some, Option.isNone_none, vcXHb, Tryd.f69, List.toList_toArray, arr4_zero, nat4_set1, nat4_setL, nat4_set0, st_bs,xbs_some,ghz1,gone_set, trH4n69x3]))
  refine X_loopT (ι := Nat × Nat × List Value) (fun k => k.1 + 1 ≤ n ∧ (k.1 ≠ 0 → k.1 + 1 ≤ k.2.1 ∧ k.2.2.length = (k.2.1 - (k.1 + 1)) * 4)) (fun k => n - k.1) [7, 10, 11, 12, 13, 14, 15, 16, 17, 18, 19, 20, 21, 22, 23, 24, 25, 26]
    (fun k => [(7, pwS k.1 k.2.1)])
    (fun k => ⟨24, nat4 a⟩ :: ⟨24, nat4 1⟩ :: pwH k.1 f k.2.2) (0, 1, []) ?_ (by decide) ?_ ?_
  · rintro ⟨t, c', sp⟩ ⟨ht, _⟩
    refine ⟨by simp, ?_, by simp, ?_⟩
    · simp only [List.forall_mem_cons]
      refine ⟨?_, fun x hx => by simp at hx⟩
      by_cases h0 : t = 0
      · subst h0; rw [pwS_0, pwH_0]; exact Nat.lt_succ_self 1
      · rw [pwS_s h0, pwH_s h0]; exact Nat.lt_succ_self 2
    · simp only [List.forall_mem_cons]
      refine ⟨arr_ok _, arr_ok _, ?_⟩
      by_cases h0 : t = 0
      · subst h0; rw [pwH_0]; intro b hb; cases hb
      · rw [pwH_s h0, ← rowH_s (e := 24) (n := t + 1) (by omega)]
        exact row_okG (nats_ok _)
  · refine ⟨⟨hn1, fun h => absurd rfl h⟩, [0, 1], ⟨by decide, rfl⟩, ?_, rfl, rfl, trivial⟩
    simp -implicitDefEqProofs (maxSteps := 1000000) (disch := first | exact dz3 | fail) only [vcR, vcT, simprocAttr, Ab.part, implies_true, forall_const, true_or, Option.isNone_some, Option.isNone_none, vcXHb, Tryd.f69, List.toList_toArray, renS_cons,renS_nil,ren_v,pwS_0]
    try rfl
  · rintro ⟨t, c', sp⟩ us ⟨ht, hrow⟩
    simp only at ht hrow ⊢
    by_cases hki : t + 1 < n
    · have e2 := times_e kq Q (f t) a hOQ (hlt _) ha
      rw [← hft] at e2
      have hb1 := hlt t
      have hb2 := hlt (t + 1)
      by_cases h0 : t = 0
      · subst h0
        rw [pwH_0]
        rw [hf0] at e2 hb1
        have h1n : (1 : Int) < (n : Int) := by omega
        clear hft hlt
        (repeat' ((first | with_reducible (first | apply XQ_cons | apply XQ_consG | apply XQ_nil | apply XR_append | apply XR_cons | apply XR_consG | apply XR_nil | apply cF_pure3 (by assumption) | apply cV_pure3 (by assumption) | apply cF_ev3 (by assumption) | apply cV_ev3 (by assumption) | apply cF_ev3 (times_e _ _ _ _ bd3 bd3 bd3) | apply cV_ev3 (times_e _ _ _ _ bd3 bd3 bd3)) | (with_reducible apply X_drawC (id := 3) 11; (next => (kernel_rfl)); (next => (kernel_rfl))) | refine X_of _ ?_ | with_reducible (first | exact ⟨_, rfl⟩ | refine And.intro ?_ ?_ | intro _)) <;> try simp -implicitDefEqProofs (maxSteps := 1000000) (disch := first | exact dz3 | fail) only [vcR, vcT, simprocAttr, Ab.part, implies_true, forall_const, true_or, Option.isNone_some, Option.isNone_none, vcXHb, Tryd.f69, List.toList_toArray, arr4_zero, nat4_set1, nat4_setL, nat4_set0, st_bs,xbs_some,ghz1,gone_set,pwS_0,h1n]))
        refine xappend_row2 (j := 1) (n := 1) (c := 1) (cs := nat4 1) (sp := []) (gnews_nat hszz rfl) (by decide) (by rfl) (by decide) rfl (by rw [nat4_length, hszz]) (by rw [nat4_length, hszz]) (gap_nat _ (by decide)) (by rw [nat4_one]; trivial) (by show ¬ (24 = 108); decide) (fun tsp ht1 ht2 => by omega) fun tc tsp ht1 ht2 => ?_
        try simp -implicitDefEqProofs (maxSteps := 1000000) (disch := first | exact dz3 | fail) only [vcR, vcT, simprocAttr, Ab.part, implies_true, forall_const, true_or, Option.isNone_some, Option.isNone_none, vcXHb, Tryd.f69, List.toList_toArray]
        rw [hszz] at ht2
        (repeat' ((first | with_reducible (first | apply XQ_cons | apply XQ_consG | apply XQ_nil | apply XR_append | apply XR_cons | apply XR_consG | apply XR_nil | apply cF_pure3 (by assumption) | apply cV_pure3 (by assumption) | apply cF_ev3 (by assumption) | apply cV_ev3 (by assumption) | apply cF_ev3 (times_e _ _ _ _ bd3 bd3 bd3) | apply cV_ev3 (times_e _ _ _ _ bd3 bd3 bd3)) | (with_reducible apply X_drawC (id := 3) 11; (next => (kernel_rfl)); (next => (kernel_rfl))) | refine X_of _ ?_ | with_reducible (first | exact ⟨_, rfl⟩ | refine And.intro ?_ ?_ | intro _)) <;> try simp -implicitDefEqProofs (maxSteps := 1000000) (disch := first | exact dz3 | fail) only [vcR, vcT, simprocAttr, Ab.part, implies_true, forall_const, true_or, Option.isNone_some, Option.isNone_none, vcXHb, Tryd.f69, List.toList_toArray, arr4_zero, nat4_set1, nat4_setL, nat4_set0, st_bs,xbs_some,ghz1,gone_set]))
        refine ⟨(0 + 1, tc, tsp), by simp; omega, ⟨by simp; omega, fun _ => ⟨ht1, ht2⟩⟩, [0, 1, 3], ⟨by decide, rfl⟩, ?_, ?_⟩
        · have e3 : (pwS (0 + 1) tc).ren (lk [0, 1, 3]) = .s (.sl 3 0 (1 + 1) tc) := by rw [pwS_s (by omega)]; rfl
          simp -implicitDefEqProofs (maxSteps := 1000000) (disch := first | exact dz3 | fail) only [vcR, vcT, simprocAttr, Ab.part, implies_true, forall_const, true_or, Option.isNone_some, Option.isNone_none, vcXHb, Tryd.f69, List.toList_toArray, renS_cons,renS_nil,ren_v,e3]
          try omega
        · simp only [pwH_s (show 0 + 1 ≠ 0 by omega)]
          refine ⟨rfl, rfl, ?_, trivial⟩
          rw [← nats_snoc (n := 0 + 1) (l := f), show nats (0 + 1) f = nat4 1 by rw [show 0 + 1 = 1 from rfl, nats_1, hf0]]
          rfl
      · obtain ⟨hkc, hsp⟩ := hrow h0
        rw [pwH_s h0]
        have htn : ((t : Int) + 1) < (n : Int) := by omega
        have hpt : Ab.part (nats (t + 1) f ++ sp.map SV.v) (t * 4) 4 = nat4 (f t) := nats_part (by omega)
        unfold Ab.part at hpt
        have hlen : t * 4 + 4 ≤ (nats (t + 1) f ++ List.map SV.v sp).length := by rw [List.length_append, nats_length]; omega
        have ht1 : t + 1 - 1 = t := by omega
        clear hft hlt hf0
        (repeat' ((first | with_reducible (first | apply XQ_cons | apply XQ_consG | apply XQ_nil | apply XR_append | apply XR_cons | apply XR_consG | apply XR_nil | apply cF_pure3 (by assumption) | apply cV_pure3 (by assumption) | apply cF_ev3 (by assumption) | apply cV_ev3 (by assumption) | apply cF_ev3 (times_e _ _ _ _ bd3 bd3 bd3) | apply cV_ev3 (times_e _ _ _ _ bd3 bd3 bd3)) | (with_reducible apply X_drawC (id := 3) 11; (next => (kernel_rfl)); (next => (kernel_rfl))) | refine X_of _ ?_ | with_reducible (first | exact ⟨_, rfl⟩ | refine And.intro ?_ ?_ | intro _)) <;> try simp -implicitDefEqProofs (maxSteps := 1000000) (disch := first | exact dz3 | fail) only [vcR, vcT, simprocAttr, Ab.part, implies_true, forall_const, true_or, Option.isNone_some, Option.isNone_none, vcXHb, Tryd.f69, List.toList_toArray, arr4_zero, nat4_set1, nat4_setL, nat4_set0, st_bs,xbs_some,ghz1,gone_set,pwS_s h0,hpt,hlen,htn,ht1]))
        rw [← rowS_s (j := 2) (n := t + 1) (c := c') (by omega)]
        refine xappend_row (cs := nats (t + 1) f) (sp := sp) (gnews_nat hszz rfl) (fun _ => ⟨rfl, hkc, by rw [hszz]; exact hsp⟩) (by rw [nats_length, hszz] <;> omega) (by rw [nat4_length, hszz]) (gap_nat _ (by omega)) (by rw [nat4_one]; trivial) (by show ¬ (24 = 108); decide) fun j' c'' sp' H' h1 h2 h3 h4 h5 h6 => ?_
        have hj0 : j' ≠ 0 ∧ j' ≠ 1 := by
          rcases h4 with ⟨_, h⟩ | h
          · omega
          · simp only [List.length_cons, List.length_nil, Nat.reduceAdd] at h; omega
        have hH0 := h5 0 (by simp) (by decide)
        have hH1 := h5 1 (by simp) (by decide)
        clear h4 h5 h6
        (repeat' ((first | with_reducible (first | apply XR_append | apply XR_cons | apply XR_consG | apply XR_nil | apply XM_cons | apply XM_consG | apply XM_nil | apply cF_pure3 (by assumption) | apply cM_pure3 (by assumption) | apply cF_ev3 (by assumption) | apply cM_ev3 (by assumption) | apply cF_ev3 (times_e _ _ _ _ bd3 bd3 bd3) | apply cM_ev3 (times_e _ _ _ _ bd3 bd3 bd3)) | (with_reducible apply X_drawM (id := 3) 2 [] trH4n69x3; (next => (kernel_rfl)); (next => (kernel_rfl))) | refine X_of _ ?_ | with_reducible (first | exact ⟨_, rfl⟩ | refine And.intro ?_ ?_ | intro _)) <;> try simp -implicitDefEqProofs (maxSteps := 1000000) (disch := first | exact dz3 | fail) only [vcR, vcT, simprocAttr, Ab.part, implies_true, forall_const, true_or, Option.isNone_some, Option.isNone_none, vcXHb, Tryd.f69, List.toList_toArray, arr4_zero, nat4_set1, nat4_setL, nat4_set0, trH4n69x3]))
        refine ⟨(t + 1, c'', sp'), by simp; omega, ⟨by simp; omega, fun _ => ⟨h1, by rw [hszz] at h2; exact h2⟩⟩, [0, 1, j'], ⟨by simp; omega, rfl⟩, ?_, ?_⟩
        · have e3 : (pwS (t + 1) c'').ren (lk [0, 1, j']) = .s (.sl j' 0 (t + 1 + 1) c'') := by rw [pwS_s (by omega)]; rfl
          simp -implicitDefEqProofs (maxSteps := 1000000) (disch := first | exact dz3 | fail) only [vcR, vcT, simprocAttr, Ab.part, implies_true, forall_const, true_or, Option.isNone_some, Option.isNone_none, vcXHb, Tryd.f69, List.toList_toArray, renS_cons,renS_nil,ren_v,e3]
          try omega
        · simp only [pwH_s (show t + 1 ≠ 0 by omega)]
          refine ⟨hH0.trans rfl, hH1.trans rfl, ?_, trivial⟩
          rw [h3, ← nats_snoc (n := t + 1) (l := f)]
    · have hnt : n = t + 1 := by omega
      subst hnt
      clear hki hft hlt
      by_cases h0 : t = 0
      · subst h0
        rw [pwH_0]
        (repeat' ((first | with_reducible (first | apply XR_append | apply XR_cons | apply XR_consG | apply XR_nil | apply XM_cons | apply XM_consG | apply XM_nil | apply cF_pure3 (by assumption) | apply cM_pure3 (by assumption) | apply cF_ev3 (by assumption) | apply cM_ev3 (by assumption) | apply cF_ev3 (times_e _ _ _ _ bd3 bd3 bd3) | apply cM_ev3 (times_e _ _ _ _ bd3 bd3 bd3)) | (with_reducible apply X_drawM (id := 3) 2 [] trH4n69x3; (next => (kernel_rfl)); (next => (kernel_rfl))) | refine X_of _ ?_ | with_reducible (first | exact ⟨_, rfl⟩ | refine And.intro ?_ ?_ | intro _)) <;> try simp -implicitDefEqProofs (maxSteps := 1000000) (disch := first | exact dz3 | fail) only [vcR, vcT, simprocAttr, Ab.part, implies_true, forall_const, true_or, Option.isNone_some, Option.isNone_none, vcXHb, Tryd.f69, List.toList_toArray, arr4_zero, nat4_set1, nat4_setL, nat4_set0, pwS_0, trH4n69x3]))
        refine gives_row (n := 0 + 1) (c := 1) (j := 1) (sp := []) (by decide) ⟨by decide, rfl⟩ ?_
        rw [show nats (0 + 1) f = nat4 1 by rw [show 0 + 1 = 1 from rfl, nats_1, hf0]]
        rfl
      · rw [pwH_s h0]
        (repeat' ((first | with_reducible (first | apply XR_append | apply XR_cons | apply XR_consG | apply XR_nil | apply XM_cons | apply XM_consG | apply XM_nil | apply cF_pure3 (by assumption) | apply cM_pure3 (by assumption) | apply cF_ev3 (by assumption) | apply cM_ev3 (by assumption) | apply cF_ev3 (times_e _ _ _ _ bd3 bd3 bd3) | apply cM_ev3 (times_e _ _ _ _ bd3 bd3 bd3)) | (with_reducible apply X_drawM (id := 3) 2 [] trH4n69x3; (next => (kernel_rfl)); (next => (kernel_rfl))) | refine X_of _ ?_ | with_reducible (first | exact ⟨_, rfl⟩ | refine And.intro ?_ ?_ | intro _)) <;> try simp -implicitDefEqProofs (maxSteps := 1000000) (disch := first | exact dz3 | fail) only [vcR, vcT, simprocAttr, Ab.part, implies_true, forall_const, true_or, Option.isNone_some, Option.isNone_none, vcXHb, Tryd.f69, List.toList_toArray, arr4_zero, nat4_set1, nat4_setL, nat4_set0, pwS_s h0, trH4n69x3]))
        exact gives_row (by omega) (hrow h0) rfl
def pieceG (s : Int) (a : Nat) (j : Nat) : Value := if j = 0 then .int .i64 s else .int .u64 (wd a (j - 1) : Int)
def r1B (Q n : Nat) (s : Int) : Bool := decide (1 ≤ n) && decide (n ≤ 20) && decide (0 ≤ s) && decide (s < 40) && decide (placeN s < Q)
def boxesAt (jg jc jp k : Nat) (x : Option Addr) (n c : Nat) (s : Int) (a : Nat) : Nat → World → Prop := fun B w =>
  cellAt (modEvo 108) jg (.pointer (some ⟨k, 0, none⟩)) B w ∧ cellAt (modEvo 108) jc (.slice x n c) B w ∧ cellsAt (modEvo 108) ⟨jp, 0, none⟩ 5 (pieceG s a) B w
theorem boxesAt_stays (jg jc jp k : Nat) (x : Option Addr) (n c : Nat) (s : Int) (a : Nat) : Stays (modEvo 108) (boxesAt jg jc jp k x n c s a) := (cellAt_stays _ _ _).and ((cellAt_stays _ _ _).and (cellsAt_stays _ _ _ _))
section
variable {Γ : Ctx} {jg jc jp k : Nat} {x : Option Addr} {n c : Nat} {s : Int} {a : Nat} {K : TV → HE → Prop}
theorem Kn.bxg (h : Kn Γ (boxesAt jg jc jp k x n c s a)) {q : Nat} : xext Γ (some false) q ⟨jg, 0, none⟩ K = K (.s (.v (.pointer (some ⟨k, 0, none⟩)))) .none := Kn.cell1 (fun w hw => (h w hw).1)
theorem Kn.bxc (h : Kn Γ (boxesAt jg jc jp k x n c s a)) {q : Nat} : xext Γ (some false) q ⟨jc, 0, none⟩ K = K (.s (.v (.slice x n c))) .none := Kn.cell1 (fun w hw => (h w hw).2.1)
theorem Kn.bxs (h : Kn Γ (boxesAt jg jc jp k x n c s a)) {q : Nat} : xext Γ (some false) q ⟨jp, 0, none⟩ K = K (.s (.v (.int .i64 s))) .none := by
  have h1 := Kn.cell (ad := ⟨jp, 0, none⟩) (fun w hw => (h w hw).2.2) (i := 0) (by decide)
  rw [addr_add] at h1
  exact xext_eq h1
theorem Kn.bxa (h : Kn Γ (boxesAt jg jc jp k x n c s a)) : xext Γ (some true) 4 ⟨jp, 1, none⟩ K = K (.agg (nat4 a)) .none := by
  have h1 := xext_cells (K := K) (fun w hw => (h w hw).2.2) (k := 1) (q := 4) (by decide)
  rw [addr_add] at h1
  exact h1
end
theorem right1_e (jg jc jp k kx kq P Q G : Nat) (x : Option Addr) (n c : Nat) (s : Int) (a : Nat) (hs1 : -9223372036854775808 ≤ s) (hs2 : s ≤ 9223372036854775807) :
    EvC (modEvo 108) Tryd.prog 64 [.s (.v (.pointer (some ⟨jc, 0, none⟩))), .s (.v (.pointer (some ⟨jp, 0, none⟩))), .s (.v (.pointer (some ⟨jg, 0, none⟩)))] (fun B w => GK k kx kq P Q G B w ∧ boxesAt jg jc jp k x n c s a B w)
      (.s (.v (.int .i64 (if r1B Q n s then 0 else 1)))) := by
  (refine evC_of Tryd.func64 rfl (by simp only [List.length_cons, List.length_nil, List.map_cons, List.map_nil, List.nodup_cons, List.nodup_nil, List.mem_cons, Nat.reduceAdd, Nat.reduceEqDiff, or_false, not_false_eq_true, forall_eq_or_imp, forall_eq, or_self, Nat.reduceLT, Nat.reduceLeDiff, and_self, List.forall_mem_cons, List.not_mem_nil, false_implies, implies_true, and_true, true_and, vcOHb]) (by simp only [List.length_cons, List.length_nil, List.map_cons, List.map_nil, List.nodup_cons, List.nodup_nil, List.mem_cons, Nat.reduceAdd, Nat.reduceEqDiff, or_false, not_false_eq_true, forall_eq_or_imp, forall_eq, or_self, Nat.reduceLT, Nat.reduceLeDiff, and_self, List.forall_mem_cons, List.not_mem_nil, false_implies, implies_true, and_true, true_and, vcOHb]) fun B w hpre => ?_; simp only [List.length_cons, List.length_nil, Tryd.ntmps64, Nat.reduceAdd, Nat.reduceSub, List.replicate_succ, List.replicate_zero, List.cons_append, List.nil_append])
  have h0 := Kn.entry (P := Tryd.prog) ((isGrp_stays 108 k kx kq P Q G).and (boxesAt_stays jg jc jp k x n c s a)) hpre
  have hG := h0.left
  have hb := h0.right
  have g1 : ∀ {K : TV → HE → Prop} {q : Nat}, xext (ctxE Tryd.prog (modEvo 108) w B) (some false) q ⟨jg, 0, none⟩ K = K (.s (.v (.pointer (some ⟨k, 0, none⟩)))) .none := fun {K} => Kn.bxg hb
  have g2 : ∀ {K : TV → HE → Prop} {q : Nat}, xext (ctxE Tryd.prog (modEvo 108) w B) (some false) q ⟨jc, 0, none⟩ K = K (.s (.v (.slice x n c))) .none := fun {K} => Kn.bxc hb
  have g3 : ∀ {K : TV → HE → Prop} {q : Nat}, xext (ctxE Tryd.prog (modEvo 108) w B) (some false) q ⟨jp, 0, none⟩ K = K (.s (.v (.int .i64 s))) .none := fun {K} => Kn.bxs hb
  clear hpre h0 hb
  have e1 := few_c (n : Int)
  have hE : r1B Q n s = (decide (1 ≤ n) && decide (n ≤ 20) && decide (0 ≤ s) && decide (s < 40) && decide (placeN s < Q)) := rfl
  obtain ⟨r, hr⟩ : ∃ r, r1B Q n s = r := ⟨_, rfl⟩
  rw [hr] at hE ⊢
  clear hr
  by_cases c1 : 1 ≤ n ∧ n ≤ 20
  · rw [decide_eq_true c1.1, decide_eq_true c1.2, Bool.true_and, Bool.true_and] at hE
    rw [decide_eq_true (show (n : Int) ≥ 1 by omega), decide_eq_true (show (n : Int) ≤ 20 by omega), Bool.and_self] at e1
    by_cases c2 : s < 0
    · rw [decide_eq_false (show ¬ 0 ≤ s by omega), Bool.false_and, Bool.false_and] at hE
      subst hE
      (repeat' ((first | with_reducible (first | apply XQ_cons | apply XQ_consG | apply XQ_nil | apply XR_cons | apply XR_consG | apply XR_nil | apply cF_pure3 (by assumption) | apply cV_pure3 (by assumption) | apply cF_ev3 (by assumption) | apply cV_ev3 (by assumption)) | (with_reducible apply X_drawC (id := 1) 22; (next => (kernel_rfl)); (next => (kernel_rfl))) | refine X_of _ ?_ | with_reducible (first | exact ⟨_, rfl⟩ | refine And.intro ?_ ?_ | intro _)) <;> try simp -implicitDefEqProofs (maxSteps := 1000000) (disch := first | exact dz3 | fail) only [vcR, vcT, simprocAttr, Ab.part, implies_true, forall_const, true_or, Option.isNone_some, Option.isNone_none, vcXHb, Tryd.f64, List.toList_toArray, arr4_zero, nat4_set1, nat4_setL, nat4_set0, g1,g2,g3,c2,addr_add]))
      all_goals rfl
    · by_cases c3 : s < 40
      · rw [decide_eq_true (show 0 ≤ s by omega), decide_eq_true c3, Bool.true_and, Bool.true_and] at hE
        have c4 : ¬ s ≥ 40 := by omega
        have e2 := place_c s (by omega) (by omega)
        have e3 := below_e k kx kq P Q G (placeN s) (by unfold placeN; omega)
        rw [← hE] at e3
        clear hE
        obtain ⟨p, hp⟩ : ∃ p, placeN s = p := ⟨_, rfl⟩
        rw [hp] at e2 e3
        cases r with
        | true =>
          (repeat' ((first | with_reducible (first | apply XQ_cons | apply XQ_consG | apply XQ_nil | apply XR_cons | apply XR_consG | apply XR_nil | apply cF_pure3 (by assumption) | apply cV_pure3 (by assumption) | apply cF_ev3 (by assumption) | apply cV_ev3 (by assumption)) | (with_reducible apply X_drawC (id := 1) 22; (next => (kernel_rfl)); (next => (kernel_rfl))) | refine X_of _ ?_ | with_reducible (first | exact ⟨_, rfl⟩ | refine And.intro ?_ ?_ | intro _)) <;> try simp -implicitDefEqProofs (maxSteps := 1000000) (disch := first | exact dz3 | fail) only [vcR, vcT, simprocAttr, Ab.part, implies_true, forall_const, true_or, Option.isNone_some, Option.isNone_none, vcXHb, Tryd.f64, List.toList_toArray, arr4_zero, nat4_set1, nat4_setL, nat4_set0, g1,g2,g3,c2,c4,addr_add]))
          all_goals rfl
        | false =>
          (repeat' ((first | with_reducible (first | apply XQ_cons | apply XQ_consG | apply XQ_nil | apply XR_cons | apply XR_consG | apply XR_nil | apply cF_pure3 (by assumption) | apply cV_pure3 (by assumption) | apply cF_ev3 (by assumption) | apply cV_ev3 (by assumption)) | (with_reducible apply X_drawC (id := 1) 22; (next => (kernel_rfl)); (next => (kernel_rfl))) | refine X_of _ ?_ | with_reducible (first | exact ⟨_, rfl⟩ | refine And.intro ?_ ?_ | intro _)) <;> try simp -implicitDefEqProofs (maxSteps := 1000000) (disch := first | exact dz3 | fail) only [vcR, vcT, simprocAttr, Ab.part, implies_true, forall_const, true_or, Option.isNone_some, Option.isNone_none, vcXHb, Tryd.f64, List.toList_toArray, arr4_zero, nat4_set1, nat4_setL, nat4_set0, g1,g2,g3,c2,c4,addr_add]))
          all_goals rfl
      · rw [decide_eq_true (show 0 ≤ s by omega), decide_eq_false c3, Bool.true_and, Bool.false_and] at hE
        subst hE
        have c4 : s ≥ 40 := by omega
        (repeat' ((first | with_reducible (first | apply XQ_cons | apply XQ_consG | apply XQ_nil | apply XR_cons | apply XR_consG | apply XR_nil | apply cF_pure3 (by assumption) | apply cV_pure3 (by assumption) | apply cF_ev3 (by assumption) | apply cV_ev3 (by assumption)) | (with_reducible apply X_drawC (id := 1) 22; (next => (kernel_rfl)); (next => (kernel_rfl))) | refine X_of _ ?_ | with_reducible (first | exact ⟨_, rfl⟩ | refine And.intro ?_ ?_ | intro _)) <;> try simp -implicitDefEqProofs (maxSteps := 1000000) (disch := first | exact dz3 | fail) only [vcR, vcT, simprocAttr, Ab.part, implies_true, forall_const, true_or, Option.isNone_some, Option.isNone_none, vcXHb, Tryd.f64, List.toList_toArray, arr4_zero, nat4_set1, nat4_setL, nat4_set0, g1,g2,g3,c2,c4,addr_add]))
        all_goals rfl
  · have hf : (decide ((n : Int) ≥ 1) && decide ((n : Int) ≤ 20)) = false := by
      cases h : (decide ((n : Int) ≥ 1) && decide ((n : Int) ≤ 20)) with
      | false => rfl
      | true =>
        obtain ⟨h1, h2⟩ := Bool.and_eq_true_iff.1 h
        have h3 := of_decide_eq_true h1
        have h4 := of_decide_eq_true h2
        exact absurd ⟨by omega, by omega⟩ c1
    have hf2 : (decide (1 ≤ n) && decide (n ≤ 20)) = false := by
      cases h : (decide (1 ≤ n) && decide (n ≤ 20)) with
      | false => rfl
      | true =>
        obtain ⟨h1, h2⟩ := Bool.and_eq_true_iff.1 h
        exact absurd ⟨of_decide_eq_true h1, of_decide_eq_true h2⟩ c1
    rw [hf] at e1
    rw [hf2, Bool.false_and, Bool.false_and, Bool.false_and] at hE
    subst hE
    (repeat' ((first | with_reducible (first | apply XQ_cons | apply XQ_consG | apply XQ_nil | apply XR_cons | apply XR_consG | apply XR_nil | apply cF_pure3 (by assumption) | apply cV_pure3 (by assumption) | apply cF_ev3 (by assumption) | apply cV_ev3 (by assumption)) | (with_reducible apply X_drawC (id := 1) 22; (next => (kernel_rfl)); (next => (kernel_rfl))) | refine X_of _ ?_ | with_reducible (first | exact ⟨_, rfl⟩ | refine And.intro ?_ ?_ | intro _)) <;> try simp -implicitDefEqProofs (maxSteps := 1000000) (disch := first | exact dz3 | fail) only [vcR, vcT, simprocAttr, Ab.part, implies_true, forall_const, true_or, Option.isNone_some, Option.isNone_none, vcXHb, Tryd.f64, List.toList_toArray, arr4_zero, nat4_set1, nat4_setL, nat4_set0, g1,g2,g3,addr_add]))
    all_goals rfl
theorem odd_iff {N : Nat} (hN : N < 2 ^ 256) : OddM N ↔ (N % 2 = 1 ∧ 3 ≤ N) := ⟨fun h => ⟨h.odd, by have := h.gt; have := h.odd; omega⟩, fun h => ⟨hN, h.1, by omega⟩⟩
theorem sg_nlt0 {a b : Nat} (h : ¬ a < b) : ¬ sg a b < 0 := by
  unfold sg
  rw [if_neg h]
  split <;> decide
theorem step_m (N G : Nat) (x : Option Addr) (n c : Nat) (P : Nat → Nat) (E : Nat → Int) (hN : N < 2 ^ 256) (hG : G < 2 ^ 256) (hP : ∀ i, P i < 2 ^ 256) (hE : ∀ i, -9223372036854775808 ≤ E i ∧ E i < 9223372036854775808) (hn : n < 9223372036854775808) :
    PureM Tryd.prog 92 [.agg (prf N G (.v (.slice x n c)))] (fun w => facs x n P E w ∧ least w) (.s (.v (.int .i64 (stS N G n P E)))) := by
  have hpr := (product_m x n c P E hP hE hn).ev (V := Evo.none)
  have hpl := prS_lt (n := n) (P := P) (E := E) hP
  obtain ⟨a, e, hae⟩ : ∃ a e, prS n P E = (a, e) := ⟨_, _, rfl⟩
  rw [hae] at hpr hpl
  dsimp only at hpr
  have ha : a < 2 ^ 256 := hpl
  clear hpl
  obtain ⟨r, hr⟩ : ∃ r, stS N G n P E = r := ⟨_, rfl⟩
  rw [hr]
  (refine pureM_of Tryd.func92 rfl (by simp only [List.length_cons, List.length_nil, List.map_cons, List.map_nil, List.nodup_cons, List.nodup_nil, List.mem_cons, Nat.reduceAdd, Nat.reduceEqDiff, or_false, not_false_eq_true, forall_eq_or_imp, forall_eq, or_self, Nat.reduceLT, Nat.reduceLeDiff, and_self, List.forall_mem_cons, List.not_mem_nil, false_implies, implies_true, and_true, true_and, vcOPb]) (by simp only [List.length_cons, List.length_nil, List.map_cons, List.map_nil, List.nodup_cons, List.nodup_nil, List.mem_cons, Nat.reduceAdd, Nat.reduceEqDiff, or_false, not_false_eq_true, forall_eq_or_imp, forall_eq, or_self, Nat.reduceLT, Nat.reduceLeDiff, and_self, List.forall_mem_cons, List.not_mem_nil, false_implies, implies_true, and_true, true_and, vcOPb]) fun w hpre => ?_; simp only [List.length_cons, List.length_nil, Tryd.ntmps92, Nat.reduceAdd, Nat.reduceSub, List.replicate_succ, List.replicate_zero, List.cons_append, List.nil_append])
  have hF0 : Kn (ctx0 Tryd.prog w) fun _ w => facs x n P E w := (facs_kn hpre.1).facs0
  have hadr : n ≠ 0 → ∃ ad, x = some ad := fun h => by
    rcases hpre.1 with h0 | ⟨ad, h0, _⟩
    · omega
    · exact ⟨ad, h0⟩
  by_cases he : e ≠ 0
  · have he' : (e != 0) = true := by simpa using he
    rw [stS_e hae he] at hr
    subst hr
    clear hpre
    (repeat' ((first | with_reducible (first | apply XQ_cons | apply XQ_consG | apply XQ_nil | apply XR_cons | apply XR_consG | apply XR_nil | apply cF_pure1 (by assumption) | apply cV_pure1 (by assumption) | apply cF_ev1 (by assumption) | apply cV_ev1 (by assumption) | apply cF_pure1 (cmp_c _ _ bd1 bd1) | apply cV_pure1 (cmp_c _ _ bd1 bd1) | apply cF_pure1 (div_c _ _ bd1 bd1 bd1) | apply cV_pure1 (div_c _ _ bd1 bd1 bd1) | apply cF_ev1 (pow_e _ _ _ _ bd1 bd1 bd1) | apply cV_ev1 (pow_e _ _ _ _ bd1 bd1 bd1)) | ((with_reducible apply cF_new1 (by assumption)); (first | rintro _ _ ⟨rfl, rfl⟩ | rintro _ _ ⟨_, _, rfl, rfl⟩)) | with_reducible (first | apply gRS (by with_unfolding_all rfl) | apply gR (by with_unfolding_all rfl) | apply gS (by with_unfolding_all rfl) | fail) | (with_reducible apply X_drawC (id := 7) 16; (next => (kernel_rfl)); (next => (kernel_rfl))) | (with_reducible apply X_drawC (id := 15) 7; (next => (kernel_rfl)); (next => (kernel_rfl))) | refine X_of _ ?_ | with_reducible (first | exact ⟨_, rfl⟩ | refine And.intro ?_ ?_ | intro _)) <;> try simp -implicitDefEqProofs (maxSteps := 1000000) (disch := first | exact dz1 | fail) only [vcR, vcT, simprocAttr, Ab.part, implies_true, forall_const, true_or, Option.isNone_some, Option.isNone_none, vcXPb, Tryd.f92, List.toList_toArray, arr4_zero, nat4_set1, nat4_setL, nat4_set0, he']))
  · have he0 : e = 0 := Classical.not_not.1 he
    subst he0
    by_cases hO : OddM N
    · have h3 := hO.gt
      have hsub := sub_c N 1 (N - 1) 0 hN (by decide) (by omega) (by omega)
      have hnew := new_good N hO
      have hO' := (odd_iff hN).1 hO
      have hl1 : litsEq (lits 4 (wd a)) (lits 4 (wd (N - 1))) = decide (a = N - 1) := litsEq_nat4 ha (by omega)
      obtain ⟨M1, hNM⟩ : ∃ M1, N - 1 = M1 := ⟨_, rfl⟩
      rw [hNM] at hsub hl1
      have hM1l : M1 < 2 ^ 256 := by omega
      have hl2 : litsEq (lits 4 (wd (G ^ M1 % N))) (lits 4 (wd 1)) = decide (G ^ M1 % N = 1) := litsEq_nat4 hO.mod_lt (by decide)
      by_cases ha1 : a = M1
      · rw [decide_eq_true ha1] at hl1
        by_cases hR1 : G ^ M1 % N = 1
        · rw [decide_eq_true hR1] at hl2
          (repeat' ((first | ((refine X_modM 4 [0, 1, 2, 3] rfl (by decide) (by decide) ?_ ?_ ?_ ?_); (next => (with_reducible assumption)); (next => (simp)); (next => (simp [pickH_cons, pickH_nil, consH_some])); (intro β1 w1 hM1 hK1); (have hN0 := hK1 _ (facsAt_stays _ x n P E) (facs_at _ hpre.1)); (have hN1 := hK1 _ (natsAt_stays _ _ _ _) (least_at _ hpre.2))) | with_reducible (first | apply XQ_cons | apply XQ_consG | apply XQ_nil | apply XR_cons | apply XR_consG | apply XR_nil | apply cF_pure1 (by assumption) | apply cV_pure1 (by assumption) | apply cF_ev1 (by assumption) | apply cV_ev1 (by assumption) | apply cF_pure1 (cmp_c _ _ bd1 bd1) | apply cV_pure1 (cmp_c _ _ bd1 bd1) | apply cF_pure1 (div_c _ _ bd1 bd1 bd1) | apply cV_pure1 (div_c _ _ bd1 bd1 bd1) | apply cF_ev1 (pow_e _ _ _ _ bd1 bd1 bd1) | apply cV_ev1 (pow_e _ _ _ _ bd1 bd1 bd1)) | ((with_reducible apply cF_new1 (by assumption)); (first | rintro _ _ ⟨rfl, rfl⟩ | rintro _ _ ⟨_, _, rfl, rfl⟩)) | with_reducible (first | apply gRS (by with_unfolding_all rfl) | apply gR (by with_unfolding_all rfl) | apply gS (by with_unfolding_all rfl) | fail) | (with_reducible apply X_drawC (id := 7) 16; (next => (kernel_rfl)); (next => (kernel_rfl))) | (with_reducible apply X_drawC (id := 15) 7; (next => (kernel_rfl)); (next => (kernel_rfl))) | refine X_of _ ?_ | with_reducible (first | exact ⟨_, rfl⟩ | refine And.intro ?_ ?_ | intro _)) <;> try simp -implicitDefEqProofs (maxSteps := 1000000) (disch := first | exact dz1 | fail) only [vcR, vcT, simprocAttr, Ab.part, implies_true, forall_const, true_or, Option.isNone_some, Option.isNone_none, vcXPb, Tryd.f92, List.toList_toArray, arr4_zero, nat4_set1, nat4_setL, nat4_set0, hl1,hl2,bne_self_eq_false]))
          refine X_loop (ι := Nat) (fun i => i ≤ n ∧ ∀ j, j < i → stB N G P j = false) (fun i => n - i) [11, 12, 13, 14, 57, 58, 59, 60, 61, 62, 63, 64, 65, 66, 67, 68, 69, 70, 71, 72, 73, 74, 75, 76, 77, 78, 79, 80, 81]
            (fun i => [(57, .s (.v (.int .i64 (i : Nat))))])
            (fun i => []) 0 (shape_of fun i => ?_) (by decide) ?_ ?_
          · simp only [List.length_cons, List.length_nil, List.map_cons, List.map_nil, List.nodup_cons, List.nodup_nil, List.mem_cons, Nat.reduceAdd, Nat.reduceEqDiff, or_false, not_false_eq_true, forall_eq_or_imp, forall_eq, or_self, Nat.reduceLT, Nat.reduceLeDiff, and_self, List.forall_mem_cons, List.not_mem_nil, false_implies, implies_true, and_true, true_and, vcOPb]
          · simp -implicitDefEqProofs (maxSteps := 1000000) (disch := first | exact dz1 | fail) only [vcR, vcT, simprocAttr, Ab.part, implies_true, forall_const, true_or, Option.isNone_some, Option.isNone_none, vcXPb, Tryd.f92, List.toList_toArray, again_eq]
            exact ⟨_, rfl⟩
          · intro i us ⟨hi, hb⟩
            by_cases h : i < n
            · obtain ⟨ad, rfl⟩ := hadr (by omega)
              have hx : ∀ {K : TV → HE → Prop}, xext ((ctx0 Tryd.prog w).after (modEvo 108) w.heap.size w1 β1 [0, 1, 2, 3]) (some true) 5 (ad.add (i * 5)) K = K (.agg (fac (P i) (E i))) .none := fun {K} => hN0.fac h
              have hg : ∀ {K : TV → HE → Prop}, xext ((ctx0 Tryd.prog w).after (modEvo 108) w.heap.size w1 β1 [0, 1, 2, 3]) (some true) 4 ⟨3, 0, none⟩ K = K (.agg (nat4 2)) .none := fun {K} => hN1.least
              have hPi := hP i
              clear hpre hP hE hadr hpr hF0 hsub
              by_cases hp2 : P i < 2
              · have hs := sg_lt0 hp2
                rw [stS_b hae hO' (by rw [hNM]; exact ha1) (by rw [hNM]; exact hR1) h (stB_lt hp2)] at hr
                subst hr
                (repeat' ((first | with_reducible (first | apply XQ_cons | apply XQ_consG | apply XQ_nil | apply XR_cons | apply XR_consG | apply XR_nil | apply cF_pure1 (by assumption) | apply cV_pure1 (by assumption) | apply cF_ev1 (by assumption) | apply cV_ev1 (by assumption) | apply cF_pure1 (cmp_c _ _ bd1 bd1) | apply cV_pure1 (cmp_c _ _ bd1 bd1) | apply cF_pure1 (div_c _ _ bd1 bd1 bd1) | apply cV_pure1 (div_c _ _ bd1 bd1 bd1) | apply cF_ev1 (pow_e _ _ _ _ bd1 bd1 bd1) | apply cV_ev1 (pow_e _ _ _ _ bd1 bd1 bd1)) | ((with_reducible apply cF_new1 (by assumption)); (first | rintro _ _ ⟨rfl, rfl⟩ | rintro _ _ ⟨_, _, rfl, rfl⟩)) | with_reducible (first | apply gRS (by with_unfolding_all rfl) | apply gR (by with_unfolding_all rfl) | apply gS (by with_unfolding_all rfl) | fail) | (with_reducible apply X_drawC (id := 7) 16; (next => (kernel_rfl)); (next => (kernel_rfl))) | (with_reducible apply X_drawC (id := 15) 7; (next => (kernel_rfl)); (next => (kernel_rfl))) | refine X_of _ ?_ | with_reducible (first | exact ⟨_, rfl⟩ | refine And.intro ?_ ?_ | intro _)) <;> try simp -implicitDefEqProofs (maxSteps := 1000000) (disch := first | exact dz1 | fail) only [vcR, vcT, simprocAttr, Ab.part, implies_true, forall_const, true_or, Option.isNone_some, Option.isNone_none, vcXPb, Tryd.f92, List.toList_toArray, arr4_zero, nat4_set1, nat4_setL, nat4_set0, hx,hg,hs]))
              · have hs := sg_nlt0 hp2
                have hq : M1 / P i < 2 ^ 256 := Nat.lt_of_le_of_lt (Nat.div_le_self _ _) hM1l
                have hp0 : 0 < P i := by omega
                have hl3 : litsEq (lits 4 (wd (G ^ (M1 / P i) % N))) (lits 4 (wd 1)) = decide (G ^ (M1 / P i) % N = 1) := litsEq_nat4 hO.mod_lt (by decide)
                have hsb := stB_eq (N := N) (G := G) hp2
                rw [hNM] at hsb
                by_cases hg1 : G ^ (M1 / P i) % N = 1
                · rw [decide_eq_true hg1] at hl3 hsb
                  rw [stS_b hae hO' (by rw [hNM]; exact ha1) (by rw [hNM]; exact hR1) h hsb] at hr
                  subst hr
                  (repeat' ((first | with_reducible (first | apply XQ_cons | apply XQ_consG | apply XQ_nil | apply XR_cons | apply XR_consG | apply XR_nil | apply cF_pure1 (by assumption) | apply cV_pure1 (by assumption) | apply cF_ev1 (by assumption) | apply cV_ev1 (by assumption) | apply cF_pure1 (cmp_c _ _ bd1 bd1) | apply cV_pure1 (cmp_c _ _ bd1 bd1) | apply cF_pure1 (div_c _ _ bd1 bd1 bd1) | apply cV_pure1 (div_c _ _ bd1 bd1 bd1) | apply cF_ev1 (pow_e _ _ _ _ bd1 bd1 bd1) | apply cV_ev1 (pow_e _ _ _ _ bd1 bd1 bd1)) | ((with_reducible apply cF_new1 (by assumption)); (first | rintro _ _ ⟨rfl, rfl⟩ | rintro _ _ ⟨_, _, rfl, rfl⟩)) | with_reducible (first | apply gRS (by with_unfolding_all rfl) | apply gR (by with_unfolding_all rfl) | apply gS (by with_unfolding_all rfl) | fail) | (with_reducible apply X_drawC (id := 7) 16; (next => (kernel_rfl)); (next => (kernel_rfl))) | (with_reducible apply X_drawC (id := 15) 7; (next => (kernel_rfl)); (next => (kernel_rfl))) | refine X_of _ ?_ | with_reducible (first | exact ⟨_, rfl⟩ | refine And.intro ?_ ?_ | intro _)) <;> try simp -implicitDefEqProofs (maxSteps := 1000000) (disch := first | exact dz1 | fail) only [vcR, vcT, simprocAttr, Ab.part, implies_true, forall_const, true_or, Option.isNone_some, Option.isNone_none, vcXPb, Tryd.f92, List.toList_toArray, arr4_zero, nat4_set1, nat4_setL, nat4_set0, hx,hg,hs,hl3]))
                · rw [decide_eq_false hg1] at hl3 hsb
                  have hb' : ∀ j, j < i + 1 → stB N G P j = false := fun j hj => by
                    by_cases hji : j = i
                    · subst hji; exact hsb
                    · exact hb j (by omega)
                  clear hr hb hsb
                  (repeat' ((first | with_reducible (first | apply XQ_cons | apply XQ_consG | apply XQ_nil | apply XR_cons | apply XR_consG | apply XR_nil | apply cF_pure1 (by assumption) | apply cV_pure1 (by assumption) | apply cF_ev1 (by assumption) | apply cV_ev1 (by assumption) | apply cF_pure1 (cmp_c _ _ bd1 bd1) | apply cV_pure1 (cmp_c _ _ bd1 bd1) | apply cF_pure1 (div_c _ _ bd1 bd1 bd1) | apply cV_pure1 (div_c _ _ bd1 bd1 bd1) | apply cF_ev1 (pow_e _ _ _ _ bd1 bd1 bd1) | apply cV_ev1 (pow_e _ _ _ _ bd1 bd1 bd1)) | ((with_reducible apply cF_new1 (by assumption)); (first | rintro _ _ ⟨rfl, rfl⟩ | rintro _ _ ⟨_, _, rfl, rfl⟩)) | with_reducible (first | apply gRS (by with_unfolding_all rfl) | apply gR (by with_unfolding_all rfl) | apply gS (by with_unfolding_all rfl) | fail) | (with_reducible apply X_drawC (id := 7) 16; (next => (kernel_rfl)); (next => (kernel_rfl))) | (with_reducible apply X_drawC (id := 15) 7; (next => (kernel_rfl)); (next => (kernel_rfl))) | refine X_of _ ?_ | with_reducible (first | exact ⟨_, rfl⟩ | refine And.intro ?_ ?_ | intro _)) <;> try simp -implicitDefEqProofs (maxSteps := 1000000) (disch := first | exact dz1 | fail) only [vcR, vcT, simprocAttr, Ab.part, implies_true, forall_const, true_or, Option.isNone_some, Option.isNone_none, vcXPb, Tryd.f92, List.toList_toArray, arr4_zero, nat4_set1, nat4_setL, nat4_set0, hx,hg,hs,hl3]))
                  refine ⟨i + 1, by omega, ?_⟩
                  simp -implicitDefEqProofs (maxSteps := 1000000) (disch := first | exact dz1 | fail) only [vcR, vcT, simprocAttr, Ab.part, implies_true, forall_const, true_or, Option.isNone_some, Option.isNone_none, vcXPb, Tryd.f92, List.toList_toArray, again_eq]
                  exact ⟨hb', _, rfl⟩
            · have : i = n := by omega
              subst this
              rw [stS_o hae hO' (by rw [hNM]; exact ha1) (by rw [hNM]; exact hR1) hb] at hr
              subst hr
              (repeat' ((first | with_reducible (first | apply XQ_cons | apply XQ_consG | apply XQ_nil | apply XR_cons | apply XR_consG | apply XR_nil | apply cF_pure1 (by assumption) | apply cV_pure1 (by assumption) | apply cF_ev1 (by assumption) | apply cV_ev1 (by assumption) | apply cF_pure1 (cmp_c _ _ bd1 bd1) | apply cV_pure1 (cmp_c _ _ bd1 bd1) | apply cF_pure1 (div_c _ _ bd1 bd1 bd1) | apply cV_pure1 (div_c _ _ bd1 bd1 bd1) | apply cF_ev1 (pow_e _ _ _ _ bd1 bd1 bd1) | apply cV_ev1 (pow_e _ _ _ _ bd1 bd1 bd1)) | ((with_reducible apply cF_new1 (by assumption)); (first | rintro _ _ ⟨rfl, rfl⟩ | rintro _ _ ⟨_, _, rfl, rfl⟩)) | with_reducible (first | apply gRS (by with_unfolding_all rfl) | apply gR (by with_unfolding_all rfl) | apply gS (by with_unfolding_all rfl) | fail) | (with_reducible apply X_drawC (id := 7) 16; (next => (kernel_rfl)); (next => (kernel_rfl))) | (with_reducible apply X_drawC (id := 15) 7; (next => (kernel_rfl)); (next => (kernel_rfl))) | refine X_of _ ?_ | with_reducible (first | exact ⟨_, rfl⟩ | refine And.intro ?_ ?_ | intro _)) <;> try simp -implicitDefEqProofs (maxSteps := 1000000) (disch := first | exact dz1 | fail) only [vcR, vcT, simprocAttr, Ab.part, implies_true, forall_const, true_or, Option.isNone_some, Option.isNone_none, vcXPb, Tryd.f92, List.toList_toArray, arr4_zero, nat4_set1, nat4_setL, nat4_set0]))
        · rw [decide_eq_false hR1] at hl2
          rw [stS_p hae hO' (.inr (by rw [hNM]; exact hR1))] at hr
          subst hr
          (repeat' ((first | ((refine X_modM 4 [0, 1, 2, 3] rfl (by decide) (by decide) ?_ ?_ ?_ ?_); (next => (with_reducible assumption)); (next => (simp)); (next => (simp [pickH_cons, pickH_nil, consH_some])); (intro β1 w1 hM1 hK1); (have hN0 := hK1 _ (facsAt_stays _ x n P E) (facs_at _ hpre.1))) | with_reducible (first | apply XQ_cons | apply XQ_consG | apply XQ_nil | apply XR_cons | apply XR_consG | apply XR_nil | apply cF_pure1 (by assumption) | apply cV_pure1 (by assumption) | apply cF_ev1 (by assumption) | apply cV_ev1 (by assumption) | apply cF_pure1 (cmp_c _ _ bd1 bd1) | apply cV_pure1 (cmp_c _ _ bd1 bd1) | apply cF_pure1 (div_c _ _ bd1 bd1 bd1) | apply cV_pure1 (div_c _ _ bd1 bd1 bd1) | apply cF_ev1 (pow_e _ _ _ _ bd1 bd1 bd1) | apply cV_ev1 (pow_e _ _ _ _ bd1 bd1 bd1)) | ((with_reducible apply cF_new1 (by assumption)); (first | rintro _ _ ⟨rfl, rfl⟩ | rintro _ _ ⟨_, _, rfl, rfl⟩)) | with_reducible (first | apply gRS (by with_unfolding_all rfl) | apply gR (by with_unfolding_all rfl) | apply gS (by with_unfolding_all rfl) | fail) | (with_reducible apply X_drawC (id := 7) 16; (next => (kernel_rfl)); (next => (kernel_rfl))) | (with_reducible apply X_drawC (id := 15) 7; (next => (kernel_rfl)); (next => (kernel_rfl))) | refine X_of _ ?_ | with_reducible (first | exact ⟨_, rfl⟩ | refine And.intro ?_ ?_ | intro _)) <;> try simp -implicitDefEqProofs (maxSteps := 1000000) (disch := first | exact dz1 | fail) only [vcR, vcT, simprocAttr, Ab.part, implies_true, forall_const, true_or, Option.isNone_some, Option.isNone_none, vcXPb, Tryd.f92, List.toList_toArray, arr4_zero, nat4_set1, nat4_setL, nat4_set0, hl1,hl2,bne_self_eq_false]))
      · rw [decide_eq_false ha1] at hl1
        rw [stS_p hae hO' (.inl (by rw [hNM]; exact ha1))] at hr
        subst hr
        (repeat' ((first | ((refine X_modM 4 [0, 1, 2, 3] rfl (by decide) (by decide) ?_ ?_ ?_ ?_); (next => (with_reducible assumption)); (next => (simp)); (next => (simp [pickH_cons, pickH_nil, consH_some])); (intro β1 w1 hM1 hK1); (have hN0 := hK1 _ (facsAt_stays _ x n P E) (facs_at _ hpre.1))) | with_reducible (first | apply XQ_cons | apply XQ_consG | apply XQ_nil | apply XR_cons | apply XR_consG | apply XR_nil | apply cF_pure1 (by assumption) | apply cV_pure1 (by assumption) | apply cF_ev1 (by assumption) | apply cV_ev1 (by assumption) | apply cF_pure1 (cmp_c _ _ bd1 bd1) | apply cV_pure1 (cmp_c _ _ bd1 bd1) | apply cF_pure1 (div_c _ _ bd1 bd1 bd1) | apply cV_pure1 (div_c _ _ bd1 bd1 bd1) | apply cF_ev1 (pow_e _ _ _ _ bd1 bd1 bd1) | apply cV_ev1 (pow_e _ _ _ _ bd1 bd1 bd1)) | ((with_reducible apply cF_new1 (by assumption)); (first | rintro _ _ ⟨rfl, rfl⟩ | rintro _ _ ⟨_, _, rfl, rfl⟩)) | with_reducible (first | apply gRS (by with_unfolding_all rfl) | apply gR (by with_unfolding_all rfl) | apply gS (by with_unfolding_all rfl) | fail) | (with_reducible apply X_drawC (id := 7) 16; (next => (kernel_rfl)); (next => (kernel_rfl))) | (with_reducible apply X_drawC (id := 15) 7; (next => (kernel_rfl)); (next => (kernel_rfl))) | refine X_of _ ?_ | with_reducible (first | exact ⟨_, rfl⟩ | refine And.intro ?_ ?_ | intro _)) <;> try simp -implicitDefEqProofs (maxSteps := 1000000) (disch := first | exact dz1 | fail) only [vcR, vcT, simprocAttr, Ab.part, implies_true, forall_const, true_or, Option.isNone_some, Option.isNone_none, vcXPb, Tryd.f92, List.toList_toArray, arr4_zero, nat4_set1, nat4_setL, nat4_set0, hl1,bne_self_eq_false]))
    · have hnew := new_bad N hN hO
      rw [stS_m hae (fun h => hO ((odd_iff hN).2 h))] at hr
      subst hr
      clear hpre
      obtain ⟨M1, bo, hM1, hsub⟩ : ∃ M1 bo, M1 < 2 ^ 256 ∧ PureC Tryd.prog 87 [.agg (nat4 N), .agg (nat4 1)] (.tup [.agg (nat4 M1), .s (.v (.int .u64 (bo : Int)))]) := by
        by_cases h0 : N = 0
        · exact ⟨2 ^ 256 - 1, 1, by omega, sub_c N 1 (2 ^ 256 - 1) 1 hN (by decide) (by omega) (by omega)⟩
        · exact ⟨N - 1, 0, by omega, sub_c N 1 (N - 1) 0 hN (by decide) (by omega) (by omega)⟩
      have hc : (chk N != 0) = true := by
        rcases chk_bad hN hO with h | h <;> rw [h] <;> rfl
      (repeat' ((first | with_reducible (first | apply XQ_cons | apply XQ_consG | apply XQ_nil | apply XR_cons | apply XR_consG | apply XR_nil | apply cF_pure1 (by assumption) | apply cV_pure1 (by assumption) | apply cF_ev1 (by assumption) | apply cV_ev1 (by assumption) | apply cF_pure1 (cmp_c _ _ bd1 bd1) | apply cV_pure1 (cmp_c _ _ bd1 bd1) | apply cF_pure1 (div_c _ _ bd1 bd1 bd1) | apply cV_pure1 (div_c _ _ bd1 bd1 bd1) | apply cF_ev1 (pow_e _ _ _ _ bd1 bd1 bd1) | apply cV_ev1 (pow_e _ _ _ _ bd1 bd1 bd1)) | ((with_reducible apply cF_new1 (by assumption)); (first | rintro _ _ ⟨rfl, rfl⟩ | rintro _ _ ⟨_, _, rfl, rfl⟩)) | with_reducible (first | apply gRS (by with_unfolding_all rfl) | apply gR (by with_unfolding_all rfl) | apply gS (by with_unfolding_all rfl) | fail) | (with_reducible apply X_drawC (id := 7) 16; (next => (kernel_rfl)); (next => (kernel_rfl))) | (with_reducible apply X_drawC (id := 15) 7; (next => (kernel_rfl)); (next => (kernel_rfl))) | refine X_of _ ?_ | with_reducible (first | exact ⟨_, rfl⟩ | refine And.intro ?_ ?_ | intro _)) <;> try simp -implicitDefEqProofs (maxSteps := 1000000) (disch := first | exact dz1 | fail) only [vcR, vcT, simprocAttr, Ab.part, implies_true, forall_const, true_or, Option.isNone_some, Option.isNone_none, vcXPb, Tryd.f92, List.toList_toArray, arr4_zero, nat4_set1, nat4_setL, nat4_set0, hc,bne_self_eq_false]))
end Go.Proofs.YtdmcknmjdlghgaaDoor
