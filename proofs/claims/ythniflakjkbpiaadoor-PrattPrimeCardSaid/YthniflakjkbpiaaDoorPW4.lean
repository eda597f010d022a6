/-
  Package pratt's statements: they answer true.
-/
import Derived.Test.YthniflakjkbpiaaDoorPa9
import Derived.Test.YthniflakjkbpiaaDoorPp
namespace Go.Proofs.YthniflakjkbpiaaDoor
open Go Go.Ab
set_option linter.unusedSimpArgs false
set_option linter.unusedVariables false
set_option linter.defProp false
set_option maxHeartbeats 20000000
set_option maxRecDepth 100000

theorem ckU_le {l : Nat → Pf} : ∀ {m k : Nat}, k ≤ m → ckU l m = 0 → ckU l k = 0
  | 0, k, h, h0 => by rw [Nat.le_zero.1 h]; exact h0
  | m + 1, k, h, h0 => by
    by_cases hk : k = m + 1
    · subst hk; exact h0
    · exact ckU_le (m := m) (by omega) (ckU_before h0).1
theorem ckS_ok {l : Nat → Pf} {m : Nat} (h : ckS l m = 0) : ¬ 40 < m ∧ ckU l m = 0 := by
  by_cases h40 : 40 < m
  · rw [ckS_long h40] at h; cases h
  · rw [ckS_short h40] at h; exact ⟨h40, h⟩
theorem ckS_le {l : Nat → Pf} {m k : Nat} (h : k ≤ m) (h0 : ckS l m = 0) : ckS l k = 0 := by
  obtain ⟨h1, h2⟩ := ckS_ok h0
  rw [ckS_short (by omega)]
  exact ckU_le h h2
theorem knS_le {l : Nat → Pf} {m k n : Nat} (h : k ≤ m) (h0 : knS l k n = true) : knS l m n = true := by
  unfold knS at h0 ⊢
  rw [Bool.or_eq_true] at h0 ⊢
  rcases h0 with h0 | h0
  · exact .inl h0
  · obtain ⟨i, hi, hf⟩ := anyB_iff.1 h0
    exact .inr (anyB_iff.2 ⟨i, by omega, hf⟩)
theorem pvS_ne {l : Nat → Pf} {m n : Nat} (h : ckS l m ≠ 0) : pvS l m n = ckS l m := by unfold pvS; rw [if_pos h]
theorem pvS_kn {l : Nat → Pf} {m n : Nat} (h : ckS l m = 0) : pvS l m n = if knS l m n then 0 else 20 := by unfold pvS; rw [if_neg (show ¬ ckS l m ≠ 0 from fun h' => h' h)]
theorem pvS_ok {l : Nat → Pf} {m n : Nat} (h : pvS l m n = 0) : ckS l m = 0 ∧ knS l m n = true := by
  by_cases hc : ckS l m = 0
  · rw [pvS_kn hc] at h
    refine ⟨hc, ?_⟩
    cases hk : knS l m n with
    | true => rfl
    | false => rw [hk] at h; cases h
  · rw [pvS_ne hc] at h
    exact absurd h hc
theorem prfs_le {x : Option Addr} {m k : Nat} {l : Nat → Pf} {w : World} (hk : k ≤ m) (h : prfs x m l w) : prfs x k l w := by
  refine ⟨?_, fun i hi => h.2 i (by omega)⟩
  rcases h.1 with h1 | ⟨ad, hx, hs, c, t, f, hb, hc⟩
  · exact .inl (by omega)
  · exact .inr ⟨ad, hx, hs, c, t, f, hb, fun i hi => hc i (by omega)⟩
/-- A slice's beginning. -/
theorem xslice_any {arr : Option (Nat × TypeId)} {e : TypeId} {sz : TypeId → Nat} {x : Option Addr} {n c i : Nat} {k : IntKind} {K : TV → Prop} (h : i ≤ c) :
    xslice arr (some e) sz (.s (.v (.slice x n c))) none (some (.s (.v (.int k (i : Int))))) K = K (.s (.v (.slice x i c))) := by
  have hb : bnd n (some (.s (.v (.int k (i : Int))))) = some i := by rw [bnd_int (by omega)]; rfl
  rw [xslice_v, hb, bnd_none, xslB_some]
  have e1 : (if c = 0 then x else Option.map (fun x => x.add (0 * sz e)) x) = x := by
    split
    · rfl
    · rw [Nat.zero_mul]
      cases x with
      | none => rfl
      | some ad => rw [Option.map_some]; exact congrArg some (by cases ad; rfl)
  rw [e1, Nat.sub_zero, Nat.sub_zero]
  exact propext ⟨fun h => h.2, fun h' => ⟨⟨Nat.zero_le _, h⟩, h'⟩⟩


theorem prattMore_m (x : Option Addr) (m c : Nat) (l : Nat → Pf) (hl : PfOk l) (hm : m < 9223372036854775808) (hc : m ≤ c) (a : Int) (ha : IntKind.i64.min ≤ a ∧ a ≤ IntKind.i64.max) (n : Nat) (hn : n < 2 ^ 256) :
    PureM Tryd.prog 7 [.s (.v (.slice x m c)), .s (.v (.int .i64 a)), .agg (nat4 n)] (fun w => prfs x m l w ∧ least w) (.s (.v (.bool true))) := by
  clear ha
  have haw := pawake_m.ev (V := Evo.none)
  have hck := (prcheck_m x m c l hl hm).ev (V := Evo.none)
  have hpv := (proves_m x m c l n hl hm hn).ev (V := Evo.none)
  have hsh := (short_m x m c l hl hm).ev (V := Evo.none)
  obtain ⟨few, hfew⟩ : ∃ few, shS l m = few := ⟨_, rfl⟩
  rw [hfew] at hsh
  (refine pureM_of Tryd.func7 rfl (by simp only [List.length_cons, List.length_nil, List.map_cons, List.map_nil, List.nodup_cons, List.nodup_nil, List.mem_cons, Nat.reduceAdd, Nat.reduceEqDiff, or_false, not_false_eq_true, forall_eq_or_imp, forall_eq, or_self, Nat.reduceLT, Nat.reduceLeDiff, and_self, List.forall_mem_cons, List.not_mem_nil, false_implies, implies_true, and_true, true_and, vcOPb]) (by simp only [List.length_cons, List.length_nil, List.map_cons, List.map_nil, List.nodup_cons, List.nodup_nil, List.mem_cons, Nat.reduceAdd, Nat.reduceEqDiff, or_false, not_false_eq_true, forall_eq_or_imp, forall_eq, or_self, Nat.reduceLT, Nat.reduceLeDiff, and_self, List.forall_mem_cons, List.not_mem_nil, false_implies, implies_true, and_true, true_and, vcOPb]) fun w hpre => ?_; simp only [List.length_cons, List.length_nil, Tryd.ntmps7, Nat.reduceAdd, Nat.reduceSub, List.replicate_succ, List.replicate_zero, List.cons_append, List.nil_append])
  have hP0 : Kn (ctx0 Tryd.prog w) fun _ w => prfs x m l w := (prfs_kn hpre.1).prfs0
  have hL := (least_kn (P0 := Tryd.prog) hpre.2).least0
  have hPL : Kn (ctx0 Tryd.prog w) fun _ w => prfs x m l w ∧ least w := fun w' hw' => ⟨hP0 w' hw', hL w' hw'⟩
  clear hpre
  cases few with
  | false => (repeat' ((first | with_reducible (first | apply XQ_slice | apply XQ_cons | apply XQ_consG | apply XQ_nil | apply XR_slice | apply XR_cons | apply XR_consG | apply XR_nil | apply cF_pure1 (by assumption) | apply cV_pure1 (by assumption) | apply cF_ev1 (by assumption) | apply cV_ev1 (by assumption)) | with_reducible (first | apply X_regRS (id := 3) | apply X_regR (id := 3) | apply X_seqX (x := .seq (.region 3 _ false) _) | apply X_seqX (x := .seq (.seq (.region 3 _ false) _) _) | apply X_regRS (id := 6) | apply X_regR (id := 6) | apply X_seqX (x := .seq (.region 6 _ false) _) | apply X_seqX (x := .seq (.seq (.region 6 _ false) _) _) | apply X_regRS (id := 11) | apply X_regR (id := 11) | apply X_seqX (x := .seq (.region 11 _ false) _) | apply X_seqX (x := .seq (.seq (.region 11 _ false) _) _)) | (with_reducible apply X_drawC (id := 8) 6; (next => (kernel_rfl)); (next => (kernel_rfl))) | refine X_of _ ?_ | with_reducible (first | exact ⟨_, rfl⟩ | refine And.intro ?_ ?_ | intro _)) <;> try simp -implicitDefEqProofs (maxSteps := 1000000) (disch := first | exact dz1 | fail) only [vcR, vcT, Int.reduceBEq, Int.reduceBNe, Int.reduceEq, Int.reduceNe, Ab.part, Nat.reduceAdd, Nat.reduceMul, Nat.reduceLeDiff, Nat.reduceEqDiff, Nat.reduceBEq, Nat.reduceBNe, reduceCtorEq, ↓reduceIte, implies_true, forall_const, Int.reduceNeg, Int.reduceToNat, Int.reduceLT, Int.reduceLE, Int.reduceAdd, Int.reduceSub, Int.reduceMul, Int.reducePow, Nat.reducePow, true_or, Option.isNone_some, Option.isNone_none, vcXPb, Tryd.f7, List.toList_toArray, arr4_zero, nat4_set1, nat4_setL, nat4_set0]))
  | true =>
    by_cases h0 : a < 0
    · (repeat' ((first | with_reducible (first | apply XQ_slice | apply XQ_cons | apply XQ_consG | apply XQ_nil | apply XR_slice | apply XR_cons | apply XR_consG | apply XR_nil | apply cF_pure1 (by assumption) | apply cV_pure1 (by assumption) | apply cF_ev1 (by assumption) | apply cV_ev1 (by assumption)) | with_reducible (first | apply X_regRS (id := 3) | apply X_regR (id := 3) | apply X_seqX (x := .seq (.region 3 _ false) _) | apply X_seqX (x := .seq (.seq (.region 3 _ false) _) _) | apply X_regRS (id := 6) | apply X_regR (id := 6) | apply X_seqX (x := .seq (.region 6 _ false) _) | apply X_seqX (x := .seq (.seq (.region 6 _ false) _) _) | apply X_regRS (id := 11) | apply X_regR (id := 11) | apply X_seqX (x := .seq (.region 11 _ false) _) | apply X_seqX (x := .seq (.seq (.region 11 _ false) _) _)) | (with_reducible apply X_drawC (id := 8) 6; (next => (kernel_rfl)); (next => (kernel_rfl))) | refine X_of _ ?_ | with_reducible (first | exact ⟨_, rfl⟩ | refine And.intro ?_ ?_ | intro _)) <;> try simp -implicitDefEqProofs (maxSteps := 1000000) (disch := first | exact dz1 | fail) only [vcR, vcT, Int.reduceBEq, Int.reduceBNe, Int.reduceEq, Int.reduceNe, Ab.part, Nat.reduceAdd, Nat.reduceMul, Nat.reduceLeDiff, Nat.reduceEqDiff, Nat.reduceBEq, Nat.reduceBNe, reduceCtorEq, ↓reduceIte, implies_true, forall_const, Int.reduceNeg, Int.reduceToNat, Int.reduceLT, Int.reduceLE, Int.reduceAdd, Int.reduceSub, Int.reduceMul, Int.reducePow, Nat.reducePow, true_or, Option.isNone_some, Option.isNone_none, vcXPb, Tryd.f7, List.toList_toArray, arr4_zero, nat4_set1, nat4_setL, nat4_set0, h0]))
    · by_cases h1 : (m : Int) < a
      · (repeat' ((first | with_reducible (first | apply XQ_slice | apply XQ_cons | apply XQ_consG | apply XQ_nil | apply XR_slice | apply XR_cons | apply XR_consG | apply XR_nil | apply cF_pure1 (by assumption) | apply cV_pure1 (by assumption) | apply cF_ev1 (by assumption) | apply cV_ev1 (by assumption)) | with_reducible (first | apply X_regRS (id := 3) | apply X_regR (id := 3) | apply X_seqX (x := .seq (.region 3 _ false) _) | apply X_seqX (x := .seq (.seq (.region 3 _ false) _) _) | apply X_regRS (id := 6) | apply X_regR (id := 6) | apply X_seqX (x := .seq (.region 6 _ false) _) | apply X_seqX (x := .seq (.seq (.region 6 _ false) _) _) | apply X_regRS (id := 11) | apply X_regR (id := 11) | apply X_seqX (x := .seq (.region 11 _ false) _) | apply X_seqX (x := .seq (.seq (.region 11 _ false) _) _)) | (with_reducible apply X_drawC (id := 8) 6; (next => (kernel_rfl)); (next => (kernel_rfl))) | refine X_of _ ?_ | with_reducible (first | exact ⟨_, rfl⟩ | refine And.intro ?_ ?_ | intro _)) <;> try simp -implicitDefEqProofs (maxSteps := 1000000) (disch := first | exact dz1 | fail) only [vcR, vcT, Int.reduceBEq, Int.reduceBNe, Int.reduceEq, Int.reduceNe, Ab.part, Nat.reduceAdd, Nat.reduceMul, Nat.reduceLeDiff, Nat.reduceEqDiff, Nat.reduceBEq, Nat.reduceBNe, reduceCtorEq, ↓reduceIte, implies_true, forall_const, Int.reduceNeg, Int.reduceToNat, Int.reduceLT, Int.reduceLE, Int.reduceAdd, Int.reduceSub, Int.reduceMul, Int.reducePow, Nat.reducePow, true_or, Option.isNone_some, Option.isNone_none, vcXPb, Tryd.f7, List.toList_toArray, arr4_zero, nat4_set1, nat4_setL, nat4_set0, h0,h1]))
      · obtain ⟨k, rfl⟩ := Int.eq_ofNat_of_zero_le (show 0 ≤ a by omega)
        have hkm : k ≤ m := by omega
        have hsl : ∀ {arr : Option (Nat × TypeId)} {e : TypeId} {sz : TypeId → Nat} {K : TV → Prop}, xslice arr (some e) sz (.s (.v (.slice x m c))) none (some (.s (.v (.int .i64 (k : Int))))) K = K (.s (.v (.slice x k c))) := xslice_any (by omega)
        have hck2 := (prcheck_m x k c l hl (by omega)).ev (V := Evo.none)
        have hpv2 := (proves_m x k c l n hl (by omega) hn).ev (V := Evo.none)
        have hPk : Kn (ctx0 Tryd.prog w) fun _ w => prfs x k l w ∧ least w := fun w' hw' => ⟨prfs_le hkm (hP0 w' hw'), hL w' hw'⟩
        obtain ⟨h, hh⟩ : ∃ h, pvS l k n = h := ⟨_, rfl⟩
        rw [hh] at hpv2
        by_cases he : ckS l m = 0
        · have hf := ckS_le hkm he
          rw [he] at hck
          rw [hf] at hck2
          by_cases hh0 : h = 0
          · have hg : pvS l m n = 0 := by
              rw [hh0] at hh
              rw [pvS_kn he, knS_le hkm (pvS_ok hh).2]
              rfl
            subst hh0
            rw [hg] at hpv
            clear hfew hh hf he hg
            (repeat' ((first | with_reducible (first | apply XQ_slice | apply XQ_cons | apply XQ_consG | apply XQ_nil | apply XR_slice | apply XR_cons | apply XR_consG | apply XR_nil | apply cF_pure1 (by assumption) | apply cV_pure1 (by assumption) | apply cF_ev1 (by assumption) | apply cV_ev1 (by assumption)) | with_reducible (first | apply X_regRS (id := 3) | apply X_regR (id := 3) | apply X_seqX (x := .seq (.region 3 _ false) _) | apply X_seqX (x := .seq (.seq (.region 3 _ false) _) _) | apply X_regRS (id := 6) | apply X_regR (id := 6) | apply X_seqX (x := .seq (.region 6 _ false) _) | apply X_seqX (x := .seq (.seq (.region 6 _ false) _) _) | apply X_regRS (id := 11) | apply X_regR (id := 11) | apply X_seqX (x := .seq (.region 11 _ false) _) | apply X_seqX (x := .seq (.seq (.region 11 _ false) _) _)) | (with_reducible apply X_drawC (id := 8) 6; (next => (kernel_rfl)); (next => (kernel_rfl))) | refine X_of _ ?_ | with_reducible (first | exact ⟨_, rfl⟩ | refine And.intro ?_ ?_ | intro _)) <;> try simp -implicitDefEqProofs (maxSteps := 1000000) (disch := first | exact dz1 | fail) only [vcR, vcT, Int.reduceBEq, Int.reduceBNe, Int.reduceEq, Int.reduceNe, Ab.part, Nat.reduceAdd, Nat.reduceMul, Nat.reduceLeDiff, Nat.reduceEqDiff, Nat.reduceBEq, Nat.reduceBNe, reduceCtorEq, ↓reduceIte, implies_true, forall_const, Int.reduceNeg, Int.reduceToNat, Int.reduceLT, Int.reduceLE, Int.reduceAdd, Int.reduceSub, Int.reduceMul, Int.reducePow, Nat.reducePow, true_or, Option.isNone_some, Option.isNone_none, vcXPb, Tryd.f7, List.toList_toArray, arr4_zero, nat4_set1, nat4_setL, nat4_set0, h0,h1,hsl,bne_self_eq_false,beq_self_eq_true]))
          · have hh0' : (h != 0) = true := by simpa using hh0
            clear hfew hh hf he
            (repeat' ((first | with_reducible (first | apply XQ_slice | apply XQ_cons | apply XQ_consG | apply XQ_nil | apply XR_slice | apply XR_cons | apply XR_consG | apply XR_nil | apply cF_pure1 (by assumption) | apply cV_pure1 (by assumption) | apply cF_ev1 (by assumption) | apply cV_ev1 (by assumption)) | with_reducible (first | apply X_regRS (id := 3) | apply X_regR (id := 3) | apply X_seqX (x := .seq (.region 3 _ false) _) | apply X_seqX (x := .seq (.seq (.region 3 _ false) _) _) | apply X_regRS (id := 6) | apply X_regR (id := 6) | apply X_seqX (x := .seq (.region 6 _ false) _) | apply X_seqX (x := .seq (.seq (.region 6 _ false) _) _) | apply X_regRS (id := 11) | apply X_regR (id := 11) | apply X_seqX (x := .seq (.region 11 _ false) _) | apply X_seqX (x := .seq (.seq (.region 11 _ false) _) _)) | (with_reducible apply X_drawC (id := 8) 6; (next => (kernel_rfl)); (next => (kernel_rfl))) | refine X_of _ ?_ | with_reducible (first | exact ⟨_, rfl⟩ | refine And.intro ?_ ?_ | intro _)) <;> try simp -implicitDefEqProofs (maxSteps := 1000000) (disch := first | exact dz1 | fail) only [vcR, vcT, Int.reduceBEq, Int.reduceBNe, Int.reduceEq, Int.reduceNe, Ab.part, Nat.reduceAdd, Nat.reduceMul, Nat.reduceLeDiff, Nat.reduceEqDiff, Nat.reduceBEq, Nat.reduceBNe, reduceCtorEq, ↓reduceIte, implies_true, forall_const, Int.reduceNeg, Int.reduceToNat, Int.reduceLT, Int.reduceLE, Int.reduceAdd, Int.reduceSub, Int.reduceMul, Int.reducePow, Nat.reducePow, true_or, Option.isNone_some, Option.isNone_none, vcXPb, Tryd.f7, List.toList_toArray, arr4_zero, nat4_set1, nat4_setL, nat4_set0, h0,h1,hsl,bne_self_eq_false,beq_self_eq_true,hh0']))
        · have hg : pvS l m n = ckS l m := pvS_ne he
          rw [hg] at hpv
          obtain ⟨e, hee⟩ : ∃ e, ckS l m = e := ⟨_, rfl⟩
          rw [hee] at hpv hck he
          have he' : (e != 0) = true := by simpa using he
          clear hfew hh he hg hee
          (repeat' ((first | with_reducible (first | apply XQ_slice | apply XQ_cons | apply XQ_consG | apply XQ_nil | apply XR_slice | apply XR_cons | apply XR_consG | apply XR_nil | apply cF_pure1 (by assumption) | apply cV_pure1 (by assumption) | apply cF_ev1 (by assumption) | apply cV_ev1 (by assumption)) | with_reducible (first | apply X_regRS (id := 3) | apply X_regR (id := 3) | apply X_seqX (x := .seq (.region 3 _ false) _) | apply X_seqX (x := .seq (.seq (.region 3 _ false) _) _) | apply X_regRS (id := 6) | apply X_regR (id := 6) | apply X_seqX (x := .seq (.region 6 _ false) _) | apply X_seqX (x := .seq (.seq (.region 6 _ false) _) _) | apply X_regRS (id := 11) | apply X_regR (id := 11) | apply X_seqX (x := .seq (.region 11 _ false) _) | apply X_seqX (x := .seq (.seq (.region 11 _ false) _) _)) | (with_reducible apply X_drawC (id := 8) 6; (next => (kernel_rfl)); (next => (kernel_rfl))) | refine X_of _ ?_ | with_reducible (first | exact ⟨_, rfl⟩ | refine And.intro ?_ ?_ | intro _)) <;> try simp -implicitDefEqProofs (maxSteps := 1000000) (disch := first | exact dz1 | fail) only [vcR, vcT, Int.reduceBEq, Int.reduceBNe, Int.reduceEq, Int.reduceNe, Ab.part, Nat.reduceAdd, Nat.reduceMul, Nat.reduceLeDiff, Nat.reduceEqDiff, Nat.reduceBEq, Nat.reduceBNe, reduceCtorEq, ↓reduceIte, implies_true, forall_const, Int.reduceNeg, Int.reduceToNat, Int.reduceLT, Int.reduceLE, Int.reduceAdd, Int.reduceSub, Int.reduceMul, Int.reducePow, Nat.reducePow, true_or, Option.isNone_some, Option.isNone_none, vcXPb, Tryd.f7, List.toList_toArray, arr4_zero, nat4_set1, nat4_setL, nat4_set0, h0,h1,hsl,he',beq_self_eq_true]))
end Go.Proofs.YthniflakjkbpiaaDoor
