/-
  Package pratt's statements: they answer true.
-/
import Derived.Test.YthniflakjkbpiaaDoorPa8
import Derived.Test.YthniflakjkbpiaaDoorAb31
import Derived.Test.YthniflakjkbpiaaDoorAb32
namespace Go.Proofs.YthniflakjkbpiaaDoor
open Go Go.Ab
set_option linter.unusedSimpArgs false
set_option linter.unusedVariables false
set_option linter.defProp false
set_option maxHeartbeats 20000000
set_option maxRecDepth 100000

/-! Tryd# Factors turned about -/
def rvN (n : Nat) (P : Nat → Nat) (i : Nat) : Nat := P (n - 1 - i)
def rvE (n : Nat) (E : Nat → Int) (i : Nat) : Int := E (n - 1 - i)
theorem anyB_rev {n : Nat} {f : Nat → Bool} : anyB n (fun i => f (n - 1 - i)) = anyB n f := by
  rw [Bool.eq_iff_iff, anyB_iff, anyB_iff]
  constructor
  · rintro ⟨i, hi, h⟩
    exact ⟨n - 1 - i, by omega, h⟩
  · rintro ⟨i, hi, h⟩
    exact ⟨n - 1 - i, by omega, by rw [show n - 1 - (n - 1 - i) = i by omega]; exact h⟩
theorem prT_rev {n : Nat} {P : Nat → Nat} {E : Nat → Int} : ∀ {k : Nat}, k ≤ n → prT (rvN n P) (rvE n E) k * prT P E (n - k) = prT P E n
  | 0, _ => by show 1 * _ = _; rw [Nat.one_mul, Nat.sub_zero]
  | k + 1, h => by
    have ih := prT_rev (n := n) (P := P) (E := E) (k := k) (by omega)
    rw [← ih]
    show prT (rvN n P) (rvE n E) k * P (n - 1 - k) ^ (E (n - 1 - k)).toNat * prT P E (n - (k + 1)) = _
    have h2 : n - k = (n - (k + 1)) + 1 := by omega
    have h3 : n - 1 - k = n - (k + 1) := by omega
    have h4 : prT P E (n - k) = prT P E (n - (k + 1)) * P (n - (k + 1)) ^ (E (n - (k + 1))).toNat := by rw [h2]; rfl
    rw [h4, h3, Nat.mul_assoc, Nat.mul_comm (P (n - (k + 1)) ^ _)]
theorem prS_rev {n : Nat} {P : Nat → Nat} {E : Nat → Int} : prS n (rvN n P) (rvE n E) = prS n P E := by
  have h1 : anyB n (eBad (rvE n E)) = anyB n (eBad E) := anyB_rev (f := eBad E)
  have h2 : anyB n (fun i => rvN n P i == 0) = anyB n (fun i => P i == 0) := anyB_rev (f := fun i => P i == 0)
  have h3 : prT (rvN n P) (rvE n E) n = prT P E n := by
    have h := prT_rev (n := n) (P := P) (E := E) (k := n) (Nat.le_refl n)
    rw [Nat.sub_self] at h
    exact (Nat.mul_one _).symm.trans h
  unfold prS
  rw [h1, h2, h3]
theorem stS_rev {N G n : Nat} {P : Nat → Nat} {E : Nat → Int} : stS N G n (rvN n P) (rvE n E) = stS N G n P E := by
  have h1 : anyB n (stB N G (rvN n P)) = anyB n (stB N G P) := anyB_rev (f := stB N G P)
  unfold stS
  rw [prS_rev, h1]
/-! Tryd# A row of factors that grows -/
def facRow (P : Nat → Nat) (E : Nat → Int) : Nat → List SV
  | 0 => []
  | k + 1 => facRow P E k ++ fac (P k) (E k)
section
variable {P : Nat → Nat} {E : Nat → Int}
theorem facRow_length : ∀ {n : Nat}, (facRow P E n).length = 5 * n
  | 0 => rfl
  | n + 1 => by
    show (facRow P E n ++ fac (P n) (E n)).length = _
    rw [List.length_append, facRow_length (n := n), fac_length]
    omega
theorem facRow_get : ∀ {n i : Nat}, i < 5 * n → (facRow P E n)[i]? = some (.v (facG P E i))
  | 0, i, h => by omega
  | n + 1, i, h => by
    show (facRow P E n ++ fac (P n) (E n))[i]? = _
    by_cases hi : i < 5 * n
    · rw [List.getElem?_append_left (by rw [facRow_length]; exact hi), facRow_get hi]
    · rw [List.getElem?_append_right (by rw [facRow_length]; omega), facRow_length, ← map_facG, List.getElem?_map, List.getElem?_range (by omega), Option.map_some, show n * 5 + (i - 5 * n) = i by omega]
theorem facRow_ok (m : Nat) : ∀ n, ∀ x ∈ facRow P E n, x.ok m
  | 0, x, h => by cases h
  | n + 1, x, h => by
    rcases List.mem_append.1 (show x ∈ facRow P E n ++ fac (P n) (E n) from h) with h | h
    · exact facRow_ok m n x h
    · have h2 : ∀ x ∈ fac (P n) (E n), x.ok m := by rw [fac_okk]; trivial
      exact h2 x h
end
theorem row_okF {e n n0 : Nat} {cs : List SV} {sp : List Value} (h : ∀ x ∈ cs, x.ok n0) : ∀ b ∈ rowH e n cs sp, ∀ x ∈ b.cs, x.ok n0 := by
  intro b hb x hx
  by_cases h0 : n = 0
  · subst h0; rw [rowH_0] at hb; simp at hb
  · rw [rowH_s h0] at hb
    simp only [List.mem_singleton] at hb
    subst hb
    rcases List.mem_append.1 hx with h1 | h1
    · exact h x h1
    · obtain ⟨v, _, rfl⟩ := List.mem_map.1 h1
      trivial
theorem map_ren0 {ρ : Nat → Nat} {l : List SV} (h : ∀ x ∈ l, x.ok 0) : l.map (SV.ren ρ) = l := by
  refine (List.map_congr_left fun x hx => ?_).trans (List.map_id l)
  have h1 := h x hx
  cases x with
  | v x => rfl
  | p j o => exact absurd h1 (Nat.not_lt_zero j)
  | sl j o a b => exact absurd h1 (Nat.not_lt_zero j)
theorem map_renV {ρ : Nat → Nat} {l : List Value} : (l.map SV.v).map (SV.ren ρ) = l.map SV.v := by rw [List.map_map]; rfl
theorem facRow_own {Γ : Ctx} {H : Heap} {β : Nat → Nat} {w : World} {j t n : Nat} {sp : List Value} {P : Nat → Nat} {E : Nat → Int} (hR : Rep Γ H β w) (hb : H[j]? = some ⟨t, facRow P E n ++ sp.map SV.v⟩) : facs (some ⟨β j, 0, none⟩) n P E w :=
  facs_own hR hb fun i hi => by rw [List.getElem?_append_left (by rw [facRow_length]; exact hi), facRow_get hi]
theorem ap_fac (n : Nat) (hn : n ≤ 1000000) : apOK Tryd.prog 43 n := by
  have h1 : (Tryd.prog.info? 43).map (fun i => (i.bytes, i.size, i.zero.map fun z => z.cells.size)) = some (40, 5, some 5) := by kernel_rfl
  cases hi : Tryd.prog.info? 43 with
  | none => rw [hi] at h1; cases h1
  | some i =>
    rw [hi] at h1
    simp only [Option.map_some, Option.some.injEq, Prod.mk.injEq] at h1
    obtain ⟨h2, h3, h4⟩ := h1
    obtain ⟨z, hz, hz4⟩ := Option.map_eq_some_iff.1 h4
    exact ⟨i, z, hi, hz, by rw [hz4, h3], by rw [h2]; omega, by omega⟩
theorem sz_fac : sz Tryd.prog 43 = 5 := by kernel_rfl
theorem news_fac {H : Heap} {k t n p : Nat} {e : Int} (hn : n = 5) (hb : H[k]? = some ⟨t, fac p e⟩) : newsOf H n (.s (.sl k 0 1 1)) = some (fac p e, 1) := by
  subst hn
  have hl : (fac p e).length = 5 := fac_length
  have h8 : (fac p e).take 5 = fac p e := List.take_of_length_le (by omega)
  simp [newsOf, hb, hl, part_eq, h8]
theorem prf_nil {N G : Nat} : setAt (setAt [.v (.int .u64 0), .v (.int .u64 0), .v (.int .u64 0), .v (.int .u64 0), .v (.int .u64 0), .v (.int .u64 0), .v (.int .u64 0), .v (.int .u64 0), .v (.slice none 0 0)] 0 (nat4 N)) 4 (nat4 G) = prf N G (.v (.slice none 0 0)) := rfl
theorem prf_set {N G : Nat} {s s' : SV} : (prf N G s).set 8 s' = prf N G s' := rfl


theorem prattTurned_m (p : Pf) (hN : p.N < 2 ^ 256) (hG : p.G < 2 ^ 256) (hP : ∀ i, p.P i < 2 ^ 256) (hE : ∀ i, -9223372036854775808 ≤ p.E i ∧ p.E i < 9223372036854775808) (hn : p.n < 9223372036854775808) :
    PureM Tryd.prog 8 [.agg (prf p.N p.G (.v (.slice p.y p.n p.c)))] (fun w => facs p.y p.n p.P p.E w ∧ least w) (.s (.v (.bool true))) := by
  obtain ⟨N, G, y, n, c, P, E⟩ := p
  simp only at hN hG hP hE hn ⊢
  have haw := pawake_m.ev (V := Evo.none)
  have hst := (step_m N G y n c P E hN hG hP hE hn).ev (V := Evo.none)
  have hpr := (product_m y n c P E hP hE hn).ev (V := Evo.none)
  have hst2 := fun x c => (step_m N G x n c (rvN n P) (rvE n E) hN hG (fun _ => hP _) (fun _ => hE _) hn).ev (V := Evo.none)
  have hpr2 := fun x c => (product_m x n c (rvN n P) (rvE n E) (fun _ => hP _) (fun _ => hE _) hn).ev (V := Evo.none)
  rw [stS_rev] at hst2
  rw [prS_rev] at hpr2
  obtain ⟨a, e, hae⟩ : ∃ a e, prS n P E = (a, e) := ⟨_, _, rfl⟩
  obtain ⟨s, hs⟩ : ∃ s, stS N G n P E = s := ⟨_, rfl⟩
  rw [hae] at hpr hpr2
  rw [hs] at hst hst2
  dsimp only at hpr hpr2
  (refine pureM_of Tryd.func8 rfl (by simp only [List.length_cons, List.length_nil, List.map_cons, List.map_nil, List.nodup_cons, List.nodup_nil, List.mem_cons, Nat.reduceAdd, Nat.reduceEqDiff, or_false, not_false_eq_true, forall_eq_or_imp, forall_eq, or_self, Nat.reduceLT, Nat.reduceLeDiff, and_self, List.forall_mem_cons, List.not_mem_nil, false_implies, implies_true, and_true, true_and, vcOPb]) (by simp only [List.length_cons, List.length_nil, List.map_cons, List.map_nil, List.nodup_cons, List.nodup_nil, List.mem_cons, Nat.reduceAdd, Nat.reduceEqDiff, or_false, not_false_eq_true, forall_eq_or_imp, forall_eq, or_self, Nat.reduceLT, Nat.reduceLeDiff, and_self, List.forall_mem_cons, List.not_mem_nil, false_implies, implies_true, and_true, true_and, vcOPb]) fun w hpre => ?_; simp only [List.length_cons, List.length_nil, Tryd.ntmps8, Nat.reduceAdd, Nat.reduceSub, List.replicate_succ, List.replicate_zero, List.cons_append, List.nil_append])
  have hF := facs_kn (P0 := Tryd.prog) hpre.1
  have hF0 : Kn (ctx0 Tryd.prog w) fun _ w => facs y n P E w := hF.facs0
  have hL := (least_kn (P0 := Tryd.prog) hpre.2).least0
  have hFL : Kn (ctx0 Tryd.prog w) fun _ w => facs y n P E w ∧ least w := fun w' hw' => ⟨hF0 w' hw', hL w' hw'⟩
  have hadr : n ≠ 0 → ∃ ad, y = some ad := fun h => by
    rcases hpre.1 with h0 | ⟨ad, h0, _⟩
    · omega
    · exact ⟨ad, h0⟩
  clear hpre hN hG hP hE hae hs
  by_cases h8 : 8 < n
  · have h8' : (8 : Int) < (n : Int) := by omega
    (repeat' ((first | with_reducible (first | apply XR_append | apply XR_cons | apply XR_consG | apply XR_nil | apply XM_cons | apply XM_consG | apply XM_nil | apply cF_pure1 (by assumption) | apply cM_pure1 (by assumption) | apply cF_ev1 (by assumption) | apply cM_ev1 (by assumption)) | with_reducible (first | apply X_regRS (id := 9) | apply X_regR (id := 9) | apply X_seqX (x := .seq (.region 9 _ false) _) | apply X_seqX (x := .seq (.seq (.region 9 _ false) _) _) | apply X_regRS (id := 10) | apply X_regR (id := 10) | apply X_seqX (x := .seq (.region 10 _ false) _) | apply X_seqX (x := .seq (.seq (.region 10 _ false) _) _) | apply X_regRS (id := 13) | apply X_regR (id := 13) | apply X_seqX (x := .seq (.region 13 _ false) _) | apply X_seqX (x := .seq (.seq (.region 13 _ false) _) _)) | (with_reducible apply X_drawM (id := 8) 7 [] (.cons 7 (.cons 8 (.cons 9 (.cons 10 .nil .nil) .nil) .nil) .nil); (next => (kernel_rfl)); (next => (kernel_rfl))) | refine X_of _ ?_ | with_reducible (first | exact ⟨_, rfl⟩ | refine And.intro ?_ ?_ | intro _)) <;> try simp -implicitDefEqProofs (maxSteps := 1000000) (disch := first | exact dz1 | fail) only [vcR, vcT, Int.reduceBEq, Int.reduceBNe, Int.reduceEq, Int.reduceNe, Ab.part, Nat.reduceAdd, Nat.reduceMul, Nat.reduceLeDiff, Nat.reduceEqDiff, Nat.reduceBEq, Nat.reduceBNe, reduceCtorEq, ↓reduceIte, implies_true, forall_const, Int.reduceNeg, Int.reduceToNat, Int.reduceLT, Int.reduceLE, Int.reduceAdd, Int.reduceSub, Int.reduceMul, Int.reducePow, Nat.reducePow, true_or, Option.isNone_some, Option.isNone_none, vcXPb, Tryd.f8, List.toList_toArray, arr4_zero, nat4_set1, nat4_setL, nat4_set0, h8']))
  · have h8' : ¬ (8 : Int) < (n : Int) := by omega
    (repeat' ((first | with_reducible (first | apply XR_append | apply XR_cons | apply XR_consG | apply XR_nil | apply XM_cons | apply XM_consG | apply XM_nil | apply cF_pure1 (by assumption) | apply cM_pure1 (by assumption) | apply cF_ev1 (by assumption) | apply cM_ev1 (by assumption)) | with_reducible (first | apply X_regRS (id := 9) | apply X_regR (id := 9) | apply X_seqX (x := .seq (.region 9 _ false) _) | apply X_seqX (x := .seq (.seq (.region 9 _ false) _) _) | apply X_regRS (id := 10) | apply X_regR (id := 10) | apply X_seqX (x := .seq (.region 10 _ false) _) | apply X_seqX (x := .seq (.seq (.region 10 _ false) _) _) | apply X_regRS (id := 13) | apply X_regR (id := 13) | apply X_seqX (x := .seq (.region 13 _ false) _) | apply X_seqX (x := .seq (.seq (.region 13 _ false) _) _)) | (with_reducible apply X_drawM (id := 8) 7 [] (.cons 7 (.cons 8 (.cons 9 (.cons 10 .nil .nil) .nil) .nil) .nil); (next => (kernel_rfl)); (next => (kernel_rfl))) | refine X_of _ ?_ | with_reducible (first | exact ⟨_, rfl⟩ | refine And.intro ?_ ?_ | intro _)) <;> try simp -implicitDefEqProofs (maxSteps := 1000000) (disch := first | exact dz1 | fail) only [vcR, vcT, Int.reduceBEq, Int.reduceBNe, Int.reduceEq, Int.reduceNe, Ab.part, Nat.reduceAdd, Nat.reduceMul, Nat.reduceLeDiff, Nat.reduceEqDiff, Nat.reduceBEq, Nat.reduceBNe, reduceCtorEq, ↓reduceIte, implies_true, forall_const, Int.reduceNeg, Int.reduceToNat, Int.reduceLT, Int.reduceLE, Int.reduceAdd, Int.reduceSub, Int.reduceMul, Int.reducePow, Nat.reducePow, true_or, Option.isNone_some, Option.isNone_none, vcXPb, Tryd.f8, List.toList_toArray, arr4_zero, nat4_set1, nat4_setL, nat4_set0, h8',prfb_len,prf_nil,prf_splice]))
    have hszz : sz (ctx0 Tryd.prog w).P 43 = 5 := sz_fac
    refine X_loopR (ι := Nat × Nat × List Value) (fun k => k.1 ≤ n ∧ (k.1 ≠ 0 → k.1 ≤ k.2.1 ∧ k.2.2.length = (k.2.1 - k.1) * 5)) (fun k => n - k.1) [5, 27, 28, 29, 30, 31, 32, 33, 34, 35, 36, 37, 38, 39, 40]
      (fun k => [(5, .s (.v (.int .i64 ((n : Int) - 1 - (k.1 : Nat)))))])
      (fun k => ⟨32, prf N G (.v (.slice y n c))⟩ :: ⟨32, prf N G (rowV 2 k.1 k.2.1)⟩ :: rowH 43 k.1 (facRow (rvN n P) (rvE n E) k.1) k.2.2) (0, 0, []) ?_ (by decide) ?_ ?_
    · rintro ⟨k, c', sp⟩ ⟨hk, _⟩
      refine ⟨by simp, ?_, by simp, ?_⟩
      · simp only [List.forall_mem_cons]
        exact ⟨trivial, fun x hx => by simp at hx⟩
      · simp only [List.forall_mem_cons]
        refine ⟨by rw [prf_okk]; trivial, ?_, row_okF (facRow_ok _ _)⟩
        rw [prf_okk]
        refine rowV_ok fun h0 => ?_
        rw [rowH_s h0]
        exact Nat.lt_succ_self 2
    · refine ⟨⟨Nat.zero_le _, fun h => absurd rfl h⟩, [0, 1], ⟨by decide, rfl⟩, ?_, rfl, rfl, trivial⟩
      simp -implicitDefEqProofs (maxSteps := 1000000) (disch := first | exact dz1 | fail) only [vcR, vcT, Int.reduceBEq, Int.reduceBNe, Int.reduceEq, Int.reduceNe, Ab.part, Nat.reduceAdd, Nat.reduceMul, Nat.reduceLeDiff, Nat.reduceEqDiff, Nat.reduceBEq, Nat.reduceBNe, reduceCtorEq, ↓reduceIte, implies_true, forall_const, Int.reduceNeg, Int.reduceToNat, Int.reduceLT, Int.reduceLE, Int.reduceAdd, Int.reduceSub, Int.reduceMul, Int.reducePow, Nat.reducePow, true_or, Option.isNone_some, Option.isNone_none, vcXPb, Tryd.f8, List.toList_toArray, renS_cons,renS_nil,ren_v]
      try simp
    · rintro ⟨k, c', sp⟩ us ⟨hk, hrow⟩
      simp only at hk hrow ⊢
      by_cases hki : k < n
      · obtain ⟨ad, rfl⟩ := hadr (by omega)
        have hx : ∀ {K : TV → HE → Prop}, xext (ctx0 Tryd.prog w) (some true) 5 (ad.add ((n - 1 - k) * 5)) K = K (.agg (fac (P (n - 1 - k)) (E (n - 1 - k)))) .none := fun {K} => hF.fac (by omega)
        have ej : (n : Int) - 1 - (k : Int) = ((n - 1 - k : Nat) : Int) := by omega
        have ej2 : ((n - 1 - k : Nat) : Int) - 1 = (n : Int) - 1 - ((k + 1 : Nat) : Int) := by omega
        clear hadr hF
        rw [ej]
        by_cases h0 : k = 0
        · subst h0
          rw [rowH_0]
          rw [Nat.sub_zero] at hx ej ej2 ⊢
          (repeat' ((first | with_reducible (first | apply XR_append | apply XR_cons | apply XR_consG | apply XR_nil | apply XM_cons | apply XM_consG | apply XM_nil | apply cF_pure1 (by assumption) | apply cM_pure1 (by assumption) | apply cF_ev1 (by assumption) | apply cM_ev1 (by assumption)) | with_reducible (first | apply X_regRS (id := 9) | apply X_regR (id := 9) | apply X_seqX (x := .seq (.region 9 _ false) _) | apply X_seqX (x := .seq (.seq (.region 9 _ false) _) _) | apply X_regRS (id := 10) | apply X_regR (id := 10) | apply X_seqX (x := .seq (.region 10 _ false) _) | apply X_seqX (x := .seq (.seq (.region 10 _ false) _) _) | apply X_regRS (id := 13) | apply X_regR (id := 13) | apply X_seqX (x := .seq (.region 13 _ false) _) | apply X_seqX (x := .seq (.seq (.region 13 _ false) _) _)) | refine X_of _ ?_ | with_reducible (first | exact ⟨_, rfl⟩ | refine And.intro ?_ ?_ | intro _)) <;> try simp -implicitDefEqProofs (maxSteps := 1000000) (disch := first | exact dz1 | fail) only [vcR, vcT, Int.reduceBEq, Int.reduceBNe, Int.reduceEq, Int.reduceNe, Ab.part, Nat.reduceAdd, Nat.reduceMul, Nat.reduceLeDiff, Nat.reduceEqDiff, Nat.reduceBEq, Nat.reduceBNe, reduceCtorEq, ↓reduceIte, implies_true, forall_const, Int.reduceNeg, Int.reduceToNat, Int.reduceLT, Int.reduceLE, Int.reduceAdd, Int.reduceSub, Int.reduceMul, Int.reducePow, Nat.reducePow, true_or, Option.isNone_some, Option.isNone_none, vcXPb, Tryd.f8, List.toList_toArray, arr4_zero, nat4_set1, nat4_setL, nat4_set0, st_bs,xbs_some,hzf1,facr,hx,loopR_n,loopR_r,loopR_x]))
          refine X_drawH2 7 8 [7] rfl (by kernel_rfl) (by kernel_rfl) ?_
          simp only [List.take_succ_cons, List.take_zero, List.drop_succ_cons, List.drop_zero]
          (repeat ((first | with_reducible refine XM_cons ?_ | with_reducible refine XM_consG ?_ | with_reducible refine XM_nil ?_); try simp -implicitDefEqProofs (maxSteps := 1000000) (disch := first | exact dz1 | fail) only [vcR, vcT, Int.reduceBEq, Int.reduceBNe, Int.reduceEq, Int.reduceNe, Ab.part, Nat.reduceAdd, Nat.reduceMul, Nat.reduceLeDiff, Nat.reduceEqDiff, Nat.reduceBEq, Nat.reduceBNe, reduceCtorEq, ↓reduceIte, implies_true, forall_const, Int.reduceNeg, Int.reduceToNat, Int.reduceLT, Int.reduceLE, Int.reduceAdd, Int.reduceSub, Int.reduceMul, Int.reducePow, Nat.reducePow, true_or, Option.isNone_some, Option.isNone_none, vcXPb, Tryd.f8, List.toList_toArray, st_bs,xbs_some,hzf1,facr,hx]))
          try simp -implicitDefEqProofs (maxSteps := 1000000) (disch := first | exact dz1 | fail) only [vcR, vcT, Int.reduceBEq, Int.reduceBNe, Int.reduceEq, Int.reduceNe, Ab.part, Nat.reduceAdd, Nat.reduceMul, Nat.reduceLeDiff, Nat.reduceEqDiff, Nat.reduceBEq, Nat.reduceBNe, reduceCtorEq, ↓reduceIte, implies_true, forall_const, Int.reduceNeg, Int.reduceToNat, Int.reduceLT, Int.reduceLE, Int.reduceAdd, Int.reduceSub, Int.reduceMul, Int.reducePow, Nat.reducePow, true_or, Option.isNone_some, Option.isNone_none, vcXPb, Tryd.f8, List.toList_toArray, xMid_cons,xMid_nil,xAtM_bs,famL_cons,famL_nil,st_bs,xbs_some,hzf1,facr,hx]
          (repeat' ((first | with_reducible (first | apply XR_append | apply XR_cons | apply XR_consG | apply XR_nil | apply XM_cons | apply XM_consG | apply XM_nil | apply cF_pure1 (by assumption) | apply cM_pure1 (by assumption) | apply cF_ev1 (by assumption) | apply cM_ev1 (by assumption)) | with_reducible (first | apply X_regRS (id := 9) | apply X_regR (id := 9) | apply X_seqX (x := .seq (.region 9 _ false) _) | apply X_seqX (x := .seq (.seq (.region 9 _ false) _) _) | apply X_regRS (id := 10) | apply X_regR (id := 10) | apply X_seqX (x := .seq (.region 10 _ false) _) | apply X_seqX (x := .seq (.seq (.region 10 _ false) _) _) | apply X_regRS (id := 13) | apply X_regR (id := 13) | apply X_seqX (x := .seq (.region 13 _ false) _) | apply X_seqX (x := .seq (.seq (.region 13 _ false) _) _)) | (with_reducible apply X_drawM (id := 8) 7 [] (.cons 7 (.cons 8 (.cons 9 (.cons 10 .nil .nil) .nil) .nil) .nil); (next => (kernel_rfl)); (next => (kernel_rfl))) | refine X_of _ ?_ | with_reducible (first | exact ⟨_, rfl⟩ | refine And.intro ?_ ?_ | intro _)) <;> try simp -implicitDefEqProofs (maxSteps := 1000000) (disch := first | exact dz1 | fail) only [vcR, vcT, Int.reduceBEq, Int.reduceBNe, Int.reduceEq, Int.reduceNe, Ab.part, Nat.reduceAdd, Nat.reduceMul, Nat.reduceLeDiff, Nat.reduceEqDiff, Nat.reduceBEq, Nat.reduceBNe, reduceCtorEq, ↓reduceIte, implies_true, forall_const, Int.reduceNeg, Int.reduceToNat, Int.reduceLT, Int.reduceLE, Int.reduceAdd, Int.reduceSub, Int.reduceMul, Int.reducePow, Nat.reducePow, true_or, Option.isNone_some, Option.isNone_none, vcXPb, Tryd.f8, List.toList_toArray, arr4_zero, nat4_set1, nat4_setL, nat4_set0, st_bs,xbs_some,hzf1,facr,hx]))
          refine xappend_row (j := 2) (n := 0) (c := c') (cs := facRow (rvN n P) (rvE n E) 0) (sp := sp) (news_fac hszz rfl) (fun h => absurd rfl h) (by rw [facRow_length, hszz] <;> omega) (by rw [fac_length, hszz]) (ap_fac _ (by omega)) (by rw [fac_one]; trivial) (fun h => h) fun j' c'' sp' H' h1 h2 h3 h4 h5 h6 => ?_
          have hj0 : j' ≠ 0 ∧ j' ≠ 1 := by
            rcases h4 with ⟨hh, h⟩ | h
            · first | exact absurd rfl hh | omega
            · simp only [List.length_cons, List.length_nil, Nat.reduceAdd] at h; omega
          have hH0 := h5 0 (by simp) (by decide)
          have hH1 := h5 1 (by simp) (by decide)
          simp only [List.getElem?_cons_zero, List.getElem?_cons_succ] at hH0 hH1
          clear h4 h5 h6
          (repeat' ((first | with_reducible (first | apply XR_append | apply XR_cons | apply XR_consG | apply XR_nil | apply XM_cons | apply XM_consG | apply XM_nil | apply cF_pure1 (by assumption) | apply cM_pure1 (by assumption) | apply cF_ev1 (by assumption) | apply cM_ev1 (by assumption)) | with_reducible (first | apply X_regRS (id := 9) | apply X_regR (id := 9) | apply X_seqX (x := .seq (.region 9 _ false) _) | apply X_seqX (x := .seq (.seq (.region 9 _ false) _) _) | apply X_regRS (id := 10) | apply X_regR (id := 10) | apply X_seqX (x := .seq (.region 10 _ false) _) | apply X_seqX (x := .seq (.seq (.region 10 _ false) _) _) | apply X_regRS (id := 13) | apply X_regR (id := 13) | apply X_seqX (x := .seq (.region 13 _ false) _) | apply X_seqX (x := .seq (.seq (.region 13 _ false) _) _)) | (with_reducible apply X_drawM (id := 8) 7 [] (.cons 7 (.cons 8 (.cons 9 (.cons 10 .nil .nil) .nil) .nil) .nil); (next => (kernel_rfl)); (next => (kernel_rfl))) | refine X_of _ ?_ | with_reducible (first | exact ⟨_, rfl⟩ | refine And.intro ?_ ?_ | intro _)) <;> try simp -implicitDefEqProofs (maxSteps := 1000000) (disch := first | exact dz1 | fail) only [vcR, vcT, Int.reduceBEq, Int.reduceBNe, Int.reduceEq, Int.reduceNe, Ab.part, Nat.reduceAdd, Nat.reduceMul, Nat.reduceLeDiff, Nat.reduceEqDiff, Nat.reduceBEq, Nat.reduceBNe, reduceCtorEq, ↓reduceIte, implies_true, forall_const, Int.reduceNeg, Int.reduceToNat, Int.reduceLT, Int.reduceLE, Int.reduceAdd, Int.reduceSub, Int.reduceMul, Int.reducePow, Nat.reducePow, true_or, Option.isNone_some, Option.isNone_none, vcXPb, Tryd.f8, List.toList_toArray, arr4_zero, nat4_set1, nat4_setL, nat4_set0, hH1,prf_set,loopR_n,loopR_r,loopR_x]))
          refine ⟨(0 + 1, c'', sp'), by simp; omega, ⟨by simp; omega, fun _ => ⟨h1, by rw [hszz] at h2; exact h2⟩⟩, [0, 1, j'], ⟨by simp; omega, rfl⟩, ?_, ?_⟩
          · simp -implicitDefEqProofs (maxSteps := 1000000) (disch := first | exact dz1 | fail) only [vcR, vcT, Int.reduceBEq, Int.reduceBNe, Int.reduceEq, Int.reduceNe, Ab.part, Nat.reduceAdd, Nat.reduceMul, Nat.reduceLeDiff, Nat.reduceEqDiff, Nat.reduceBEq, Nat.reduceBNe, reduceCtorEq, ↓reduceIte, implies_true, forall_const, Int.reduceNeg, Int.reduceToNat, Int.reduceLT, Int.reduceLE, Int.reduceAdd, Int.reduceSub, Int.reduceMul, Int.reducePow, Nat.reducePow, true_or, Option.isNone_some, Option.isNone_none, vcXPb, Tryd.f8, List.toList_toArray, renS_cons,renS_nil,ren_v]
            try omega
          · simp only [rowH_s (show 0 + 1 ≠ 0 by omega), rowV_s (show 0 + 1 ≠ 0 by omega)]
            refine ⟨?_, ?_, ?_, trivial⟩
            · rw [putH_get, if_neg (by decide)]
              exact hH0
            · rw [putH_get, if_pos rfl, hH1]
              rfl
            · rw [putH_get, if_neg (by omega), h3, List.map_append, map_ren0 (facRow_ok 0 _), map_renV]
              rfl
        · obtain ⟨hkc, hsp⟩ := hrow h0
          rw [rowH_s h0]
          (repeat' ((first | with_reducible (first | apply XR_append | apply XR_cons | apply XR_consG | apply XR_nil | apply XM_cons | apply XM_consG | apply XM_nil | apply cF_pure1 (by assumption) | apply cM_pure1 (by assumption) | apply cF_ev1 (by assumption) | apply cM_ev1 (by assumption)) | with_reducible (first | apply X_regRS (id := 9) | apply X_regR (id := 9) | apply X_seqX (x := .seq (.region 9 _ false) _) | apply X_seqX (x := .seq (.seq (.region 9 _ false) _) _) | apply X_regRS (id := 10) | apply X_regR (id := 10) | apply X_seqX (x := .seq (.region 10 _ false) _) | apply X_seqX (x := .seq (.seq (.region 10 _ false) _) _) | apply X_regRS (id := 13) | apply X_regR (id := 13) | apply X_seqX (x := .seq (.region 13 _ false) _) | apply X_seqX (x := .seq (.seq (.region 13 _ false) _) _)) | refine X_of _ ?_ | with_reducible (first | exact ⟨_, rfl⟩ | refine And.intro ?_ ?_ | intro _)) <;> try simp -implicitDefEqProofs (maxSteps := 1000000) (disch := first | exact dz1 | fail) only [vcR, vcT, Int.reduceBEq, Int.reduceBNe, Int.reduceEq, Int.reduceNe, Ab.part, Nat.reduceAdd, Nat.reduceMul, Nat.reduceLeDiff, Nat.reduceEqDiff, Nat.reduceBEq, Nat.reduceBNe, reduceCtorEq, ↓reduceIte, implies_true, forall_const, Int.reduceNeg, Int.reduceToNat, Int.reduceLT, Int.reduceLE, Int.reduceAdd, Int.reduceSub, Int.reduceMul, Int.reducePow, Nat.reducePow, true_or, Option.isNone_some, Option.isNone_none, vcXPb, Tryd.f8, List.toList_toArray, arr4_zero, nat4_set1, nat4_setL, nat4_set0, st_bs,xbs_some,hzf1,facr,hx,loopR_n,loopR_r,loopR_x]))
          refine X_drawH2 7 8 [7] rfl (by kernel_rfl) (by kernel_rfl) ?_
          simp only [List.take_succ_cons, List.take_zero, List.drop_succ_cons, List.drop_zero]
          (repeat ((first | with_reducible refine XM_cons ?_ | with_reducible refine XM_consG ?_ | with_reducible refine XM_nil ?_); try simp -implicitDefEqProofs (maxSteps := 1000000) (disch := first | exact dz1 | fail) only [vcR, vcT, Int.reduceBEq, Int.reduceBNe, Int.reduceEq, Int.reduceNe, Ab.part, Nat.reduceAdd, Nat.reduceMul, Nat.reduceLeDiff, Nat.reduceEqDiff, Nat.reduceBEq, Nat.reduceBNe, reduceCtorEq, ↓reduceIte, implies_true, forall_const, Int.reduceNeg, Int.reduceToNat, Int.reduceLT, Int.reduceLE, Int.reduceAdd, Int.reduceSub, Int.reduceMul, Int.reducePow, Nat.reducePow, true_or, Option.isNone_some, Option.isNone_none, vcXPb, Tryd.f8, List.toList_toArray, st_bs,xbs_some,hzf1,facr,hx]))
          try simp -implicitDefEqProofs (maxSteps := 1000000) (disch := first | exact dz1 | fail) only [vcR, vcT, Int.reduceBEq, Int.reduceBNe, Int.reduceEq, Int.reduceNe, Ab.part, Nat.reduceAdd, Nat.reduceMul, Nat.reduceLeDiff, Nat.reduceEqDiff, Nat.reduceBEq, Nat.reduceBNe, reduceCtorEq, ↓reduceIte, implies_true, forall_const, Int.reduceNeg, Int.reduceToNat, Int.reduceLT, Int.reduceLE, Int.reduceAdd, Int.reduceSub, Int.reduceMul, Int.reducePow, Nat.reducePow, true_or, Option.isNone_some, Option.isNone_none, vcXPb, Tryd.f8, List.toList_toArray, xMid_cons,xMid_nil,xAtM_bs,famL_cons,famL_nil,st_bs,xbs_some,hzf1,facr,hx]
          (repeat' ((first | with_reducible (first | apply XR_append | apply XR_cons | apply XR_consG | apply XR_nil | apply XM_cons | apply XM_consG | apply XM_nil | apply cF_pure1 (by assumption) | apply cM_pure1 (by assumption) | apply cF_ev1 (by assumption) | apply cM_ev1 (by assumption)) | with_reducible (first | apply X_regRS (id := 9) | apply X_regR (id := 9) | apply X_seqX (x := .seq (.region 9 _ false) _) | apply X_seqX (x := .seq (.seq (.region 9 _ false) _) _) | apply X_regRS (id := 10) | apply X_regR (id := 10) | apply X_seqX (x := .seq (.region 10 _ false) _) | apply X_seqX (x := .seq (.seq (.region 10 _ false) _) _) | apply X_regRS (id := 13) | apply X_regR (id := 13) | apply X_seqX (x := .seq (.region 13 _ false) _) | apply X_seqX (x := .seq (.seq (.region 13 _ false) _) _)) | (with_reducible apply X_drawM (id := 8) 7 [] (.cons 7 (.cons 8 (.cons 9 (.cons 10 .nil .nil) .nil) .nil) .nil); (next => (kernel_rfl)); (next => (kernel_rfl))) | refine X_of _ ?_ | with_reducible (first | exact ⟨_, rfl⟩ | refine And.intro ?_ ?_ | intro _)) <;> try simp -implicitDefEqProofs (maxSteps := 1000000) (disch := first | exact dz1 | fail) only [vcR, vcT, Int.reduceBEq, Int.reduceBNe, Int.reduceEq, Int.reduceNe, Ab.part, Nat.reduceAdd, Nat.reduceMul, Nat.reduceLeDiff, Nat.reduceEqDiff, Nat.reduceBEq, Nat.reduceBNe, reduceCtorEq, ↓reduceIte, implies_true, forall_const, Int.reduceNeg, Int.reduceToNat, Int.reduceLT, Int.reduceLE, Int.reduceAdd, Int.reduceSub, Int.reduceMul, Int.reducePow, Nat.reducePow, true_or, Option.isNone_some, Option.isNone_none, vcXPb, Tryd.f8, List.toList_toArray, arr4_zero, nat4_set1, nat4_setL, nat4_set0, st_bs,xbs_some,hzf1,facr,hx]))
          refine xappend_row (j := 2) (n := k) (c := c') (cs := facRow (rvN n P) (rvE n E) k) (sp := sp) (news_fac hszz rfl) (fun _ => ⟨rfl, hkc, by rw [hszz]; exact hsp⟩) (by rw [facRow_length, hszz] <;> omega) (by rw [fac_length, hszz]) (ap_fac _ (by omega)) (by rw [fac_one]; trivial) (fun h => h) fun j' c'' sp' H' h1 h2 h3 h4 h5 h6 => ?_
          have hj0 : j' ≠ 0 ∧ j' ≠ 1 := by
            rcases h4 with ⟨hh, h⟩ | h
            · first | exact absurd rfl hh | omega
            · simp only [List.length_cons, List.length_nil, Nat.reduceAdd] at h; omega
          have hH0 := h5 0 (by simp) (by decide)
          have hH1 := h5 1 (by simp) (by decide)
          simp only [List.getElem?_cons_zero, List.getElem?_cons_succ] at hH0 hH1
          clear h4 h5 h6
          (repeat' ((first | with_reducible (first | apply XR_append | apply XR_cons | apply XR_consG | apply XR_nil | apply XM_cons | apply XM_consG | apply XM_nil | apply cF_pure1 (by assumption) | apply cM_pure1 (by assumption) | apply cF_ev1 (by assumption) | apply cM_ev1 (by assumption)) | with_reducible (first | apply X_regRS (id := 9) | apply X_regR (id := 9) | apply X_seqX (x := .seq (.region 9 _ false) _) | apply X_seqX (x := .seq (.seq (.region 9 _ false) _) _) | apply X_regRS (id := 10) | apply X_regR (id := 10) | apply X_seqX (x := .seq (.region 10 _ false) _) | apply X_seqX (x := .seq (.seq (.region 10 _ false) _) _) | apply X_regRS (id := 13) | apply X_regR (id := 13) | apply X_seqX (x := .seq (.region 13 _ false) _) | apply X_seqX (x := .seq (.seq (.region 13 _ false) _) _)) | (with_reducible apply X_drawM (id := 8) 7 [] (.cons 7 (.cons 8 (.cons 9 (.cons 10 .nil .nil) .nil) .nil) .nil); (next => (kernel_rfl)); (next => (kernel_rfl))) | refine X_of _ ?_ | with_reducible (first | exact ⟨_, rfl⟩ | refine And.intro ?_ ?_ | intro _)) <;> try simp -implicitDefEqProofs (maxSteps := 1000000) (disch := first | exact dz1 | fail) only [vcR, vcT, Int.reduceBEq, Int.reduceBNe, Int.reduceEq, Int.reduceNe, Ab.part, Nat.reduceAdd, Nat.reduceMul, Nat.reduceLeDiff, Nat.reduceEqDiff, Nat.reduceBEq, Nat.reduceBNe, reduceCtorEq, ↓reduceIte, implies_true, forall_const, Int.reduceNeg, Int.reduceToNat, Int.reduceLT, Int.reduceLE, Int.reduceAdd, Int.reduceSub, Int.reduceMul, Int.reducePow, Nat.reducePow, true_or, Option.isNone_some, Option.isNone_none, vcXPb, Tryd.f8, List.toList_toArray, arr4_zero, nat4_set1, nat4_setL, nat4_set0, hH1,prf_set,loopR_n,loopR_r,loopR_x]))
          refine ⟨(k + 1, c'', sp'), by simp; omega, ⟨by simp; omega, fun _ => ⟨h1, by rw [hszz] at h2; exact h2⟩⟩, [0, 1, j'], ⟨by simp; omega, rfl⟩, ?_, ?_⟩
          · simp -implicitDefEqProofs (maxSteps := 1000000) (disch := first | exact dz1 | fail) only [vcR, vcT, Int.reduceBEq, Int.reduceBNe, Int.reduceEq, Int.reduceNe, Ab.part, Nat.reduceAdd, Nat.reduceMul, Nat.reduceLeDiff, Nat.reduceEqDiff, Nat.reduceBEq, Nat.reduceBNe, reduceCtorEq, ↓reduceIte, implies_true, forall_const, Int.reduceNeg, Int.reduceToNat, Int.reduceLT, Int.reduceLE, Int.reduceAdd, Int.reduceSub, Int.reduceMul, Int.reducePow, Nat.reducePow, true_or, Option.isNone_some, Option.isNone_none, vcXPb, Tryd.f8, List.toList_toArray, renS_cons,renS_nil,ren_v]
            try omega
          · simp only [rowH_s (show k + 1 ≠ 0 by omega), rowV_s (show k + 1 ≠ 0 by omega)]
            refine ⟨?_, ?_, ?_, trivial⟩
            · rw [putH_get, if_neg (by decide)]
              exact hH0
            · rw [putH_get, if_pos rfl, hH1]
              rfl
            · rw [putH_get, if_neg (by omega), h3, List.map_append, map_ren0 (facRow_ok 0 _), map_renV]
              rfl
      · have : k = n := by omega
        subst this
        clear hki hk hadr hF
        have ejn : (k : Int) - 1 - (k : Int) = -1 := by omega
        rw [ejn]
        by_cases h0 : k = 0
        · subst h0
          simp only [rowH_0, rowV_0]
          have hpn := hpr2 none 0
          have hsn := hst2 none 0
          have hK0 : Kn (ctx0 Tryd.prog w) fun _ w => facs none 0 (rvN 0 P) (rvE 0 E) w := fun _ _ => .inl rfl
          have hK1 : Kn (ctx0 Tryd.prog w) fun _ w => facs none 0 (rvN 0 P) (rvE 0 E) w ∧ least w := fun w' hw' => ⟨.inl rfl, hL w' hw'⟩
          clear hpr2 hst2
          (repeat' ((first | with_reducible (first | apply XR_append | apply XR_cons | apply XR_consG | apply XR_nil | apply XM_cons | apply XM_consG | apply XM_nil | apply cF_pure1 (by assumption) | apply cM_pure1 (by assumption) | apply cF_ev1 (by assumption) | apply cM_ev1 (by assumption)) | with_reducible (first | apply X_regRS (id := 9) | apply X_regR (id := 9) | apply X_seqX (x := .seq (.region 9 _ false) _) | apply X_seqX (x := .seq (.seq (.region 9 _ false) _) _) | apply X_regRS (id := 10) | apply X_regR (id := 10) | apply X_seqX (x := .seq (.region 10 _ false) _) | apply X_seqX (x := .seq (.seq (.region 10 _ false) _) _) | apply X_regRS (id := 13) | apply X_regR (id := 13) | apply X_seqX (x := .seq (.region 13 _ false) _) | apply X_seqX (x := .seq (.seq (.region 13 _ false) _) _)) | (with_reducible apply X_drawM (id := 8) 7 [] (.cons 7 (.cons 8 (.cons 9 (.cons 10 .nil .nil) .nil) .nil) .nil); (next => (kernel_rfl)); (next => (kernel_rfl))) | refine X_of _ ?_ | with_reducible (first | exact ⟨_, rfl⟩ | refine And.intro ?_ ?_ | intro _)) <;> try simp -implicitDefEqProofs (maxSteps := 1000000) (disch := first | exact dz1 | fail) only [vcR, vcT, Int.reduceBEq, Int.reduceBNe, Int.reduceEq, Int.reduceNe, Ab.part, Nat.reduceAdd, Nat.reduceMul, Nat.reduceLeDiff, Nat.reduceEqDiff, Nat.reduceBEq, Nat.reduceBNe, reduceCtorEq, ↓reduceIte, implies_true, forall_const, Int.reduceNeg, Int.reduceToNat, Int.reduceLT, Int.reduceLE, Int.reduceAdd, Int.reduceSub, Int.reduceMul, Int.reducePow, Nat.reducePow, true_or, Option.isNone_some, Option.isNone_none, vcXPb, Tryd.f8, List.toList_toArray, arr4_zero, nat4_set1, nat4_setL, nat4_set0, loopR_n,loopR_r,loopR_x,litsEq_self,beq_self_eq_true]))
          trace_state
        · obtain ⟨hkc, hsp⟩ := hrow h0
          simp only [rowH_s h0, rowV_s h0]
          (repeat' ((first | with_reducible (first | apply XR_append | apply XR_cons | apply XR_consG | apply XR_nil | apply XM_cons | apply XM_consG | apply XM_nil | apply cF_pure1 (by assumption) | apply cM_pure1 (by assumption) | apply cF_ev1 (by assumption) | apply cM_ev1 (by assumption)) | with_reducible (first | apply X_regRS (id := 9) | apply X_regR (id := 9) | apply X_seqX (x := .seq (.region 9 _ false) _) | apply X_seqX (x := .seq (.seq (.region 9 _ false) _) _) | apply X_regRS (id := 10) | apply X_regR (id := 10) | apply X_seqX (x := .seq (.region 10 _ false) _) | apply X_seqX (x := .seq (.seq (.region 10 _ false) _) _) | apply X_regRS (id := 13) | apply X_regR (id := 13) | apply X_seqX (x := .seq (.region 13 _ false) _) | apply X_seqX (x := .seq (.seq (.region 13 _ false) _) _)) | (with_reducible apply X_drawM (id := 8) 7 [] (.cons 7 (.cons 8 (.cons 9 (.cons 10 .nil .nil) .nil) .nil) .nil); (next => (kernel_rfl)); (next => (kernel_rfl))) | refine X_of _ ?_ | with_reducible (first | exact ⟨_, rfl⟩ | refine And.intro ?_ ?_ | intro _)) <;> try simp -implicitDefEqProofs (maxSteps := 1000000) (disch := first | exact dz1 | fail) only [vcR, vcT, Int.reduceBEq, Int.reduceBNe, Int.reduceEq, Int.reduceNe, Ab.part, Nat.reduceAdd, Nat.reduceMul, Nat.reduceLeDiff, Nat.reduceEqDiff, Nat.reduceBEq, Nat.reduceBNe, reduceCtorEq, ↓reduceIte, implies_true, forall_const, Int.reduceNeg, Int.reduceToNat, Int.reduceLT, Int.reduceLE, Int.reduceAdd, Int.reduceSub, Int.reduceMul, Int.reducePow, Nat.reducePow, true_or, Option.isNone_some, Option.isNone_none, vcXPb, Tryd.f8, List.toList_toArray, arr4_zero, nat4_set1, nat4_setL, nat4_set0, loopR_n,loopR_r,loopR_x]))
          refine yF_evz (fun β' w' hR => ⟨_, hpr2 (some ⟨β' 2, 0, none⟩) c', facRow_own hR rfl⟩) rfl rfl (by kernel_rfl) ?_
          try simp -implicitDefEqProofs (maxSteps := 1000000) (disch := first | exact dz1 | fail) only [vcR, vcT, Int.reduceBEq, Int.reduceBNe, Int.reduceEq, Int.reduceNe, Ab.part, Nat.reduceAdd, Nat.reduceMul, Nat.reduceLeDiff, Nat.reduceEqDiff, Nat.reduceBEq, Nat.reduceBNe, reduceCtorEq, ↓reduceIte, implies_true, forall_const, Int.reduceNeg, Int.reduceToNat, Int.reduceLT, Int.reduceLE, Int.reduceAdd, Int.reduceSub, Int.reduceMul, Int.reducePow, Nat.reducePow, true_or, Option.isNone_some, Option.isNone_none, vcXPb, Tryd.f8, List.toList_toArray]
          (repeat' ((first | with_reducible (first | apply XR_append | apply XR_cons | apply XR_consG | apply XR_nil | apply XM_cons | apply XM_consG | apply XM_nil | apply cF_pure1 (by assumption) | apply cM_pure1 (by assumption) | apply cF_ev1 (by assumption) | apply cM_ev1 (by assumption)) | with_reducible (first | apply X_regRS (id := 9) | apply X_regR (id := 9) | apply X_seqX (x := .seq (.region 9 _ false) _) | apply X_seqX (x := .seq (.seq (.region 9 _ false) _) _) | apply X_regRS (id := 10) | apply X_regR (id := 10) | apply X_seqX (x := .seq (.region 10 _ false) _) | apply X_seqX (x := .seq (.seq (.region 10 _ false) _) _) | apply X_regRS (id := 13) | apply X_regR (id := 13) | apply X_seqX (x := .seq (.region 13 _ false) _) | apply X_seqX (x := .seq (.seq (.region 13 _ false) _) _)) | (with_reducible apply X_drawM (id := 8) 7 [] (.cons 7 (.cons 8 (.cons 9 (.cons 10 .nil .nil) .nil) .nil) .nil); (next => (kernel_rfl)); (next => (kernel_rfl))) | refine X_of _ ?_ | with_reducible (first | exact ⟨_, rfl⟩ | refine And.intro ?_ ?_ | intro _)) <;> try simp -implicitDefEqProofs (maxSteps := 1000000) (disch := first | exact dz1 | fail) only [vcR, vcT, Int.reduceBEq, Int.reduceBNe, Int.reduceEq, Int.reduceNe, Ab.part, Nat.reduceAdd, Nat.reduceMul, Nat.reduceLeDiff, Nat.reduceEqDiff, Nat.reduceBEq, Nat.reduceBNe, reduceCtorEq, ↓reduceIte, implies_true, forall_const, Int.reduceNeg, Int.reduceToNat, Int.reduceLT, Int.reduceLE, Int.reduceAdd, Int.reduceSub, Int.reduceMul, Int.reducePow, Nat.reducePow, true_or, Option.isNone_some, Option.isNone_none, vcXPb, Tryd.f8, List.toList_toArray, arr4_zero, nat4_set1, nat4_setL, nat4_set0]))
          refine yF_evz (fun β' w' hR => ⟨_, hst2 (some ⟨β' 2, 0, none⟩) c', facRow_own hR rfl, hL w' hR.fr.to⟩) rfl rfl (by kernel_rfl) ?_
          try simp -implicitDefEqProofs (maxSteps := 1000000) (disch := first | exact dz1 | fail) only [vcR, vcT, Int.reduceBEq, Int.reduceBNe, Int.reduceEq, Int.reduceNe, Ab.part, Nat.reduceAdd, Nat.reduceMul, Nat.reduceLeDiff, Nat.reduceEqDiff, Nat.reduceBEq, Nat.reduceBNe, reduceCtorEq, ↓reduceIte, implies_true, forall_const, Int.reduceNeg, Int.reduceToNat, Int.reduceLT, Int.reduceLE, Int.reduceAdd, Int.reduceSub, Int.reduceMul, Int.reducePow, Nat.reducePow, true_or, Option.isNone_some, Option.isNone_none, vcXPb, Tryd.f8, List.toList_toArray]
          (repeat' ((first | with_reducible (first | apply XR_append | apply XR_cons | apply XR_consG | apply XR_nil | apply XM_cons | apply XM_consG | apply XM_nil | apply cF_pure1 (by assumption) | apply cM_pure1 (by assumption) | apply cF_ev1 (by assumption) | apply cM_ev1 (by assumption)) | with_reducible (first | apply X_regRS (id := 9) | apply X_regR (id := 9) | apply X_seqX (x := .seq (.region 9 _ false) _) | apply X_seqX (x := .seq (.seq (.region 9 _ false) _) _) | apply X_regRS (id := 10) | apply X_regR (id := 10) | apply X_seqX (x := .seq (.region 10 _ false) _) | apply X_seqX (x := .seq (.seq (.region 10 _ false) _) _) | apply X_regRS (id := 13) | apply X_regR (id := 13) | apply X_seqX (x := .seq (.region 13 _ false) _) | apply X_seqX (x := .seq (.seq (.region 13 _ false) _) _)) | (with_reducible apply X_drawM (id := 8) 7 [] (.cons 7 (.cons 8 (.cons 9 (.cons 10 .nil .nil) .nil) .nil) .nil); (next => (kernel_rfl)); (next => (kernel_rfl))) | refine X_of _ ?_ | with_reducible (first | exact ⟨_, rfl⟩ | refine And.intro ?_ ?_ | intro _)) <;> try simp -implicitDefEqProofs (maxSteps := 1000000) (disch := first | exact dz1 | fail) only [vcR, vcT, Int.reduceBEq, Int.reduceBNe, Int.reduceEq, Int.reduceNe, Ab.part, Nat.reduceAdd, Nat.reduceMul, Nat.reduceLeDiff, Nat.reduceEqDiff, Nat.reduceBEq, Nat.reduceBNe, reduceCtorEq, ↓reduceIte, implies_true, forall_const, Int.reduceNeg, Int.reduceToNat, Int.reduceLT, Int.reduceLE, Int.reduceAdd, Int.reduceSub, Int.reduceMul, Int.reducePow, Nat.reducePow, true_or, Option.isNone_some, Option.isNone_none, vcXPb, Tryd.f8, List.toList_toArray, arr4_zero, nat4_set1, nat4_setL, nat4_set0, litsEq_self,beq_self_eq_true]))
          trace_state
end Go.Proofs.YthniflakjkbpiaaDoor
