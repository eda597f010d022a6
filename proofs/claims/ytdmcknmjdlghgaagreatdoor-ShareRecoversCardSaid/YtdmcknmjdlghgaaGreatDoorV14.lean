/-
  share: Recover.
  share: Deal, where it deals.
  What is reckoned modulo m, in the numbers modulo m.
  The laws of polynomials modulo m, in plain numbers.
  The laws of shares in plain numbers.
  A small group is made by sortitionlaw10.small; pieces of ours; sortitionlaw10.awake.
  sortitionlaw10.awake.
  As many right shares as there are coefficients recover the secret: in plain numbers.
  Rows of integers outside; rows of bools of ours.
-/
import Derived.Test.YtdmcknmjdlghgaaGreatDoorV01
import Derived.Test.YtdmcknmjdlghgaaGreatDoorV02
import Derived.Test.YtdmcknmjdlghgaaGreatDoorV03
import Derived.Test.YtdmcknmjdlghgaaGreatDoorV05
import Derived.Test.YtdmcknmjdlghgaaGreatDoorV06
import Derived.Test.YtdmcknmjdlghgaaGreatDoorV07
import Derived.Test.YtdmcknmjdlghgaaGreatDoorV09
import Derived.Test.YtdmcknmjdlghgaaGreatDoorV10
import Derived.Test.YtdmcknmjdlghgaaGreatDoorV11
import Derived.Test.YtdmcknmjdlghgaaGreatDoorV12
import Derived.Test.YtdmcknmjdlghgaaGreatDoorV13
namespace Go.Proofs.YtdmcknmjdlghgaaGreatDoor
open Go Go.Ab
set_option linter.unusedSimpArgs false
set_option linter.unusedVariables false
set_option linter.defProp false
set_option maxHeartbeats 20000000
set_option maxRecDepth 100000
section
variable {ι : Type} {T0 : List TV} {n : Nat} {V : ι → Prop} {μ : ι → Nat} {js : List Nat} {sv : ι → List (Nat × TV)} {Hs : ι → Heap} {i : ι} {Q : QX} {T : List TV} {H : Heap}
theorem loopT_r : loopT T0 n V μ js sv Hs i Q .ret T H = Q .ret T H := rfl
theorem loopT_x {j : Nat} : loopT T0 n V μ js sv Hs i Q (.exit j) T H = Q (.exit j) T H := rfl
end
section
variable {ι : Type} {T0 : List TV} {n : Nat} {V : ι → Prop} {μ : ι → Nat} {js : List Nat} {sv : ι → List (Nat × TV)} {Hs : ι → Heap} {AA : ι → World → Prop} {i : ι} {Q : QA} {T : List TV} {H : Heap} {A : World → Prop}
theorem loopTA_n : loopTA T0 n V μ js sv Hs AA i Q .normal T H A = ∃ i', μ i' < μ i ∧ AgainT T0 n V js sv Hs T H i' ∧ A = AA i' := rfl
theorem loopTA_r : loopTA T0 n V μ js sv Hs AA i Q .ret T H A = Q .ret T H A := rfl
theorem loopTA_x {j : Nat} : loopTA T0 n V μ js sv Hs AA i Q (.exit j) T H A = Q (.exit j) T H A := rfl
end
theorem mapTyI : MapTyI Tryz.prog 84 3 4 where
  m := by kernel_rfl
  k := by kernel_rfl
  kk := by kernel_rfl
theorem row_all {n k : Nat} {l : Nat → Nat} {sp : List Value} : ∀ x ∈ (nats n l ++ sp.map SV.v), x.ok k := by
  intro x hx
  rcases List.mem_append.1 hx with h | h
  · exact nats_ok k x h
  · obtain ⟨v, _, rfl⟩ := List.mem_map.1 h
    trivial
def trH11n18x8 : Tr := (.cons 3 (.cons 4 (.cons 5 (.cons 6 (.cons 7 (.cons 8 (.cons 9 .nil .nil) .nil) .nil) .nil) .nil) .nil) (.cons 4 (.cons 3 (.cons 5 (.cons 6 (.cons 7 (.cons 8 (.cons 9 .nil .nil) .nil) .nil) .nil) .nil) (.cons 5 (.cons 3 (.cons 6 (.cons 7 (.cons 8 (.cons 9 .nil .nil) .nil) .nil) .nil) .nil) .nil)) .nil))
theorem recover_e (k kx kq P Q G : Nat) (x : Option Addr) (m c : Nat) (l : Nat → Nat) (y : Option Addr) (n d : Nat) (S : Nat → Int) (A : Nat → Nat) (hP2 : P < 2 ^ 256) (hQ2 : Q < 2 ^ 256) (hG2 : G < 2 ^ 256) (hl : ∀ i, l i < 2 ^ 256) (hA : ∀ i, A i < 2 ^ 256)
    (hS : ∀ i, -9223372036854775808 ≤ S i ∧ S i ≤ 9223372036854775807) (hm : m < 9223372036854775808) (hn : n ≤ 100) :
    EvC (modEvo 135) Tryz.prog 18 [.s (.v (.pointer (some ⟨k, 0, none⟩))), .s (.v (.slice x m c)), .s (.v (.slice y n d))] (fun B w => (GK k kx kq P Q G B w ∧ oneK B w) ∧ natsAt (modEvo 135) x m l B w ∧ pcsAt (modEvo 135) y n S A B w)
      (.tup [.agg (nat4 (recV P Q G m l n S A)), .s (.v (.int .i64 (recE P Q G m l n S A)))]) := by
  obtain ⟨rv, hrv⟩ : ∃ v, recV P Q G m l n S A = v := ⟨_, rfl⟩
  obtain ⟨re, hre⟩ : ∃ v, recE P Q G m l n S A = v := ⟨_, rfl⟩
  rw [hrv, hre]
  refine evC_ofA Tryz.func18 rfl (by simp only [List.length_cons, List.length_nil, List.map_cons, List.map_nil, List.nodup_cons, List.nodup_nil, List.mem_cons, Nat.reduceAdd, Nat.reduceEqDiff, or_false, not_false_eq_true, forall_eq_or_imp, forall_eq, or_self, Nat.reduceLT, Nat.reduceLeDiff, and_self, List.forall_mem_cons, List.not_mem_nil, false_implies, implies_true, and_true, true_and, vcOHb]) (by simp only [List.length_cons, List.length_nil, List.map_cons, List.map_nil, List.nodup_cons, List.nodup_nil, List.mem_cons, Nat.reduceAdd, Nat.reduceEqDiff, or_false, not_false_eq_true, forall_eq_or_imp, forall_eq, or_self, Nat.reduceLT, Nat.reduceLeDiff, and_self, List.forall_mem_cons, List.not_mem_nil, false_implies, implies_true, and_true, true_and, vcOHb]) fun B w hpre => ?_
  simp only [List.length_cons, List.length_nil, Tryz.ntmps18, Nat.reduceAdd, Nat.reduceSub, List.replicate_succ, List.replicate_zero, List.cons_append, List.nil_append]
  have h0 := Kn.entry (P := Tryz.prog) (((isGrp_stays 135 k kx kq P Q G).and oneK_stays).and ((natsAt_stays _ x m l).and (pcsAt_stays _ y n S A))) hpre
  have hx0 := hpre.2.2
  clear hpre
  refine XA_seq (XA_of' ?_)
  (repeat' ((first | with_reducible (first | apply XR_append | apply XR_cons | apply XR_consG | apply XR_nil | apply XM_cons | apply XM_consG | apply XM_nil | apply cF_pure3 (by assumption) | apply cM_pure3 (by assumption) | apply cF_ev3 (by assumption) | apply cM_ev3 (by assumption)) | with_reducible (first | apply gRS (by with_unfolding_all rfl) | apply gR (by with_unfolding_all rfl) | apply gS (by with_unfolding_all rfl) | fail) | (with_reducible apply X_drawM (id := 8) 3 [] trH11n18x8; (next => (kernel_rfl)); (next => (kernel_rfl))) | refine X_of _ ?_ | with_reducible (first | exact ⟨_, rfl⟩ | refine And.intro ?_ ?_ | intro _)) <;> try simp -implicitDefEqProofs (maxSteps := 1000000) (disch := first | exact dz3 | fail) only [vcR, vcT, simprocAttr, Ab.part, implies_true, forall_const, vcS, vcXHb, Tryz.f18, seqA_n, trH11n18x8]))
  refine XA_seq (XA_of' ?_)
  (repeat' ((first | with_reducible (first | apply XR_append | apply XR_cons | apply XR_consG | apply XR_nil | apply XM_cons | apply XM_consG | apply XM_nil | apply cF_pure3 (by assumption) | apply cM_pure3 (by assumption) | apply cF_ev3 (by assumption) | apply cM_ev3 (by assumption)) | with_reducible (first | apply gRS (by with_unfolding_all rfl) | apply gR (by with_unfolding_all rfl) | apply gS (by with_unfolding_all rfl) | fail) | (with_reducible apply X_drawM (id := 8) 3 [] trH11n18x8; (next => (kernel_rfl)); (next => (kernel_rfl))) | refine X_of _ ?_ | with_reducible (first | exact ⟨_, rfl⟩ | refine And.intro ?_ ?_ | intro _)) <;> try simp -implicitDefEqProofs (maxSteps := 1000000) (disch := first | exact dz3 | fail) only [vcR, vcT, simprocAttr, Ab.part, implies_true, forall_const, vcS, vcXHb, Tryz.f18, seqA_n, trH11n18x8]))
  have hG : Kn (ctxE Tryz.prog (modEvo 135) w B) (GK k kx kq P Q G) := h0.left.left
  have hO : Kn (ctxE Tryz.prog (modEvo 135) w B) oneK := h0.left.right
  have hN : Kn (ctxE Tryz.prog (modEvo 135) w B) (natsAt (modEvo 135) x m l) := h0.right.left
  have hY : Kn (ctxE Tryz.prog (modEvo 135) w B) (pcsAt (modEvo 135) y n S A) := h0.right.right
  clear h0
  have hadr : n ≠ 0 → ∃ ad, y = some ad := fun h => by
    rcases hx0 with h0 | ⟨ad, h0, _⟩
    · omega
    · exact ⟨ad, h0⟩
  clear hx0
  have hz1 : slice0 Tryz.prog 83 1 = some (arr 8 fun _ => 0) := by kernel_rfl
  have hszz : sz (ctxE Tryz.prog (modEvo 135) w B).P 83 = 8 := gsz_pt
  obtain ⟨f, hf⟩ : ∃ f : Nat → Int, (fun i => rightE P Q G m l (S i) (A i)) = f := ⟨_, rfl⟩
  have hr : ∀ i, EvC (modEvo 135) Tryz.prog 16 [.s (.v (.pointer (some ⟨k, 0, none⟩))), .s (.v (.slice x m c)), .agg (pieceC (S i) (A i))] (fun B w => (GK k kx kq P Q G B w ∧ oneK B w) ∧ natsAt (modEvo 135) x m l B w) (.s (.v (.int .i64 (f i)))) := fun i => by
    rw [← hf]
    exact right_e k kx kq P Q G x m c l (S i) (A i) hP2 hQ2 hG2 hl (hA i) (hS i).1 (hS i).2
  have hfs : ∀ i, f i = 0 → 0 ≤ S i ∧ S i < 40 := fun i h => by
    rw [← hf] at h
    have h : rightE P Q G m l (S i) (A i) = 0 := h
    unfold rightE at h
    by_cases hb : r1B Q m (S i) = true
    · simp only [r1B, Bool.and_eq_true, decide_eq_true_eq] at hb
      exact ⟨hb.1.1.2, hb.1.2⟩
    · rw [if_neg hb] at h
      exact absurd h (by decide)
  have hb1 : ∀ a, (setAt [.v (.int .u64 0), .v (.int .u64 0), .v (.int .u64 0), .v (.int .u64 0), .v (.int .u64 0), .v (.int .u64 0), .v (.int .u64 0), .v (.int .u64 0)] 0 (nat4 a)).length = 8 := fun _ => rfl
  have hb2 : ∀ a b, setAt (setAt [.v (.int .u64 0), .v (.int .u64 0), .v (.int .u64 0), .v (.int .u64 0), .v (.int .u64 0), .v (.int .u64 0), .v (.int .u64 0), .v (.int .u64 0)] 0 (nat4 a)) 4 (nat4 b) = pt a b := fun _ _ => rfl
  obtain ⟨pp, hpp⟩ : ∃ pp, pl S A = pp := ⟨_, rfl⟩
  have hp0 : ∀ i, pp (2 * i) = placeN (S i) := fun i => by
    rw [← hpp]
    unfold pl
    rw [if_pos (by omega), show 2 * i / 2 = i by omega]
  have hp1 : ∀ i, pp (2 * i + 1) = A i := fun i => by
    rw [← hpp]
    unfold pl
    rw [if_neg (by omega), show (2 * i + 1) / 2 = i by omega]
  refine XA_seq (XA_of' ?_)
  (repeat' ((first | with_reducible (first | apply XR_append | apply XR_cons | apply XR_consG | apply XR_nil | apply XM_cons | apply XM_consG | apply XM_nil | apply cF_pure3 (by assumption) | apply cM_pure3 (by assumption) | apply cF_ev3 (by assumption) | apply cM_ev3 (by assumption)) | with_reducible (first | apply gRS (by with_unfolding_all rfl) | apply gR (by with_unfolding_all rfl) | apply gS (by with_unfolding_all rfl) | fail) | (with_reducible apply X_drawM (id := 8) 3 [] trH11n18x8; (next => (kernel_rfl)); (next => (kernel_rfl))) | refine X_of _ ?_ | with_reducible (first | exact ⟨_, rfl⟩ | refine And.intro ?_ ?_ | intro _)) <;> try simp -implicitDefEqProofs (maxSteps := 1000000) (disch := first | exact dz3 | fail) only [vcR, vcT, simprocAttr, Ab.part, implies_true, forall_const, vcS, vcXHb, Tryz.f18, seqA_n, trH11n18x8]))
  refine X_loopT (ι := Nat × Nat × List Value) (fun k => k.1 ≤ n ∧ (∀ j, j < k.1 → f j = 0) ∧ (k.1 ≠ 0 → k.1 ≤ k.2.1 ∧ k.2.2.length = (k.2.1 - k.1) * 8)) (fun k => n - k.1) [7, 8, 10, 11, 17, 18, 19, 20, 21, 22, 23, 24, 25, 26, 27, 28, 29, 30, 31, 32, 33, 34, 35, 36, 37, 38]
    (fun k => [(8, rowS 1 k.1 k.2.1), (17, .s (.v (.int .i64 (k.1 : Nat))))])
    (fun k => ⟨26, nat4 0⟩ :: rowH 83 k.1 (nats (2 * k.1) pp) k.2.2) (0, 0, []) ?_ (by decide) ?_ ?_
  · rintro ⟨i, c', sp⟩ ⟨hi, _, _⟩
    refine ⟨by simp, ?_, by simp, ?_⟩
    · simp only [List.forall_mem_cons]
      refine ⟨rowS_ok fun h0 => ?_, trivial, fun x hx => by simp at hx⟩
      rw [rowH_s h0]; exact Nat.lt_succ_self 1
    · simp only [List.forall_mem_cons]
      exact ⟨arr_ok _, row_okG (nats_ok _)⟩
  · refine ⟨⟨Nat.zero_le _, fun j hj => absurd hj (Nat.not_lt_zero j), fun h => absurd rfl h⟩, [0], ⟨by decide, rfl⟩, ?_, ?_⟩
    · simp -implicitDefEqProofs (maxSteps := 1000000) (disch := first | exact dz3 | fail) only [vcR, vcT, simprocAttr, Ab.part, implies_true, forall_const, vcS, vcXHb, Tryz.f18, renS_cons,renS_nil,ren_v,rowS_0]
      try simp
    · first | exact ⟨rfl, trivial⟩ | trace_state
  · rintro ⟨i, c', sp⟩ us ⟨hi, hall, hrow⟩
    simp only at hi hall hrow ⊢
    by_cases hin : i < n
    · obtain ⟨ad, rfl⟩ := hadr (by omega)
      have hx : ∀ {K : TV → HE → Prop}, xext (ctxE Tryz.prog (modEvo 135) w B) (some true) 5 (ad.add (i * 5)) K = K (.agg (pieceC (S i) (A i))) .none := fun {K} => Kn.pcs hY hin
      have hri := hr i
      clear hl hA hS hadr
      by_cases hfi : f i = 0
      · have hpl := place_c (S i) (by have := (hfs i hfi).1; omega) (by have := (hfs i hfi).2; omega)
        rw [hfi] at hri
        rw [← hp0] at hpl
        have hq1 := hp1 i
        --<
        have hall' : ∀ j, j < i + 1 → f j = 0 := fun j hj => by
          by_cases hji : j = i
          · subst hji; exact hfi
          · exact hall j (by omega)
        by_cases h0 : i = 0
        · subst h0
          rw [rowH_0]
          (repeat' ((first | with_reducible (first | apply XQ_cons | apply XQ_consG | apply XQ_nil | apply XR_append | apply XR_cons | apply XR_consG | apply XR_nil | apply cF_pure3 (by assumption) | apply cV_pure3 (by assumption) | apply cF_ev3 (by assumption) | apply cV_ev3 (by assumption)) | with_reducible (first | apply gRS (by with_unfolding_all rfl) | apply gR (by with_unfolding_all rfl) | apply gS (by with_unfolding_all rfl) | apply gSB (by with_unfolding_all rfl) | apply gB (by with_unfolding_all rfl) | fail) | (with_reducible apply X_drawC (id := 8) 7; (next => (kernel_rfl)); (next => (kernel_rfl))) | refine X_of _ ?_ | with_reducible (first | exact ⟨_, rfl⟩ | refine And.intro ?_ ?_ | intro _)) <;> try simp -implicitDefEqProofs (maxSteps := 1000000) (disch := first | exact dz3 | fail) only [vcR, vcT, simprocAttr, Ab.part, implies_true, forall_const, vcS, vcXHb, Tryz.f18, hx,st_bs,xbs_some,hz1,gone_pt,hb1,hb2,Nat.le_refl]))
          refine xappend_row (cs := nats (2 * 0) pp) (sp := sp) (gnews_pt hszz rfl) (fun h => absurd rfl h) (by rw [nats_length, hszz]) (by rw [pt_length, hszz]) (gap_pt _ (by omega)) (by rw [pt_one]; trivial) (by first | exact fun h => h | (show ¬ (83 = 135); decide)) fun j' c'' sp' H' h1 h2 h3 h4 h5 h6 => ?_
          have hj0 : j' ≠ 0 := by
            rcases h4 with ⟨h, _⟩ | h
            · exact absurd rfl h
            · rw [h]; simp
          have hH0 := h6 rfl 0 (by simp)
          clear h4 h5 h6 hri hpl hx
          (repeat' ((first | with_reducible (first | apply XQ_cons | apply XQ_consG | apply XQ_nil | apply XR_append | apply XR_cons | apply XR_consG | apply XR_nil | apply cF_pure3 (by assumption) | apply cV_pure3 (by assumption) | apply cF_ev3 (by assumption) | apply cV_ev3 (by assumption)) | with_reducible (first | apply gRS (by with_unfolding_all rfl) | apply gR (by with_unfolding_all rfl) | apply gS (by with_unfolding_all rfl) | apply gSB (by with_unfolding_all rfl) | apply gB (by with_unfolding_all rfl) | fail) | (with_reducible apply X_drawC (id := 8) 7; (next => (kernel_rfl)); (next => (kernel_rfl))) | refine X_of _ ?_ | with_reducible (first | exact ⟨_, rfl⟩ | refine And.intro ?_ ?_ | intro _)) <;> try simp -implicitDefEqProofs (maxSteps := 1000000) (disch := first | exact dz3 | fail) only [vcR, vcT, simprocAttr, Ab.part, implies_true, forall_const, vcS, vcXHb, Tryz.f18]))
          refine ⟨(0 + 1, c'', sp'), by simp; omega, ⟨⟨by simp; omega, hall', fun _ => ⟨h1, by rw [hszz] at h2; exact h2⟩⟩, [0, j'], ⟨by simp [Ne.symm hj0], rfl⟩, ?_, ⟨hH0.trans rfl, ?_, trivial⟩⟩⟩
          · have e1 : (rowS 1 (0 + 1) c'').ren (lk [0, j']) = .s (.sl j' 0 (0 + 1) c'') := by rw [ren_rowS, rowS_s (by omega)]; rfl
            simp -implicitDefEqProofs (maxSteps := 1000000) (disch := first | exact dz3 | fail) only [vcR, vcT, simprocAttr, Ab.part, implies_true, forall_const, vcS, vcXHb, Tryz.f18, renS_cons,renS_nil,ren_v,e1]
          · rw [h3, ← hq1]
            exact congrArg (fun x => some (AB.mk _ (x ++ _))) (gpts_snoc (l := pp))
        · obtain ⟨hkc, hsp⟩ := hrow h0
          rw [rowH_s h0]
          (repeat' ((first | with_reducible (first | apply XQ_cons | apply XQ_consG | apply XQ_nil | apply XR_append | apply XR_cons | apply XR_consG | apply XR_nil | apply cF_pure3 (by assumption) | apply cV_pure3 (by assumption) | apply cF_ev3 (by assumption) | apply cV_ev3 (by assumption)) | with_reducible (first | apply gRS (by with_unfolding_all rfl) | apply gR (by with_unfolding_all rfl) | apply gS (by with_unfolding_all rfl) | apply gSB (by with_unfolding_all rfl) | apply gB (by with_unfolding_all rfl) | fail) | (with_reducible apply X_drawC (id := 8) 7; (next => (kernel_rfl)); (next => (kernel_rfl))) | refine X_of _ ?_ | with_reducible (first | exact ⟨_, rfl⟩ | refine And.intro ?_ ?_ | intro _)) <;> try simp -implicitDefEqProofs (maxSteps := 1000000) (disch := first | exact dz3 | fail) only [vcR, vcT, simprocAttr, Ab.part, implies_true, forall_const, vcS, vcXHb, Tryz.f18, hx,st_bs,xbs_some,hz1,gone_pt,hb1,hb2,Nat.le_refl]))
          refine xappend_row (cs := nats (2 * i) pp) (sp := sp) (gnews_pt hszz rfl) (fun _ => ⟨rfl, hkc, by rw [hszz]; exact hsp⟩) (by rw [nats_length, hszz]; omega) (by rw [pt_length, hszz]) (gap_pt _ (by omega)) (by rw [pt_one]; trivial) (by first | exact fun h => h | (show ¬ (83 = 135); decide)) fun j' c'' sp' H' h1 h2 h3 h4 h5 h6 => ?_
          have hj0 : j' ≠ 0 := by
            rcases h4 with ⟨_, h⟩ | h
            · omega
            · rw [h]; simp
          have hH0 := h5 0 (by simp) (by decide)
          clear h4 h5 h6 hri hpl hx
          (repeat' ((first | with_reducible (first | apply XQ_cons | apply XQ_consG | apply XQ_nil | apply XR_append | apply XR_cons | apply XR_consG | apply XR_nil | apply cF_pure3 (by assumption) | apply cV_pure3 (by assumption) | apply cF_ev3 (by assumption) | apply cV_ev3 (by assumption)) | with_reducible (first | apply gRS (by with_unfolding_all rfl) | apply gR (by with_unfolding_all rfl) | apply gS (by with_unfolding_all rfl) | apply gSB (by with_unfolding_all rfl) | apply gB (by with_unfolding_all rfl) | fail) | (with_reducible apply X_drawC (id := 8) 7; (next => (kernel_rfl)); (next => (kernel_rfl))) | refine X_of _ ?_ | with_reducible (first | exact ⟨_, rfl⟩ | refine And.intro ?_ ?_ | intro _)) <;> try simp -implicitDefEqProofs (maxSteps := 1000000) (disch := first | exact dz3 | fail) only [vcR, vcT, simprocAttr, Ab.part, implies_true, forall_const, vcS, vcXHb, Tryz.f18]))
          refine ⟨(i + 1, c'', sp'), by simp; omega, ⟨⟨by simp; omega, hall', fun _ => ⟨h1, by rw [hszz] at h2; exact h2⟩⟩, [0, j'], ⟨by simp [Ne.symm hj0], rfl⟩, ?_, ⟨hH0.trans rfl, ?_, trivial⟩⟩⟩
          · have e1 : (rowS 1 (i + 1) c'').ren (lk [0, j']) = .s (.sl j' 0 (i + 1) c'') := by rw [ren_rowS, rowS_s (by omega)]; rfl
            simp -implicitDefEqProofs (maxSteps := 1000000) (disch := first | exact dz3 | fail) only [vcR, vcT, simprocAttr, Ab.part, implies_true, forall_const, vcS, vcXHb, Tryz.f18, renS_cons,renS_nil,ren_v,e1]
          · rw [h3, ← hq1]
            exact congrArg (fun x => some (AB.mk _ (x ++ _))) (gpts_snoc (l := pp))
        -->
      · have hfi' : (f i != 0) = true := by simpa using hfi
        have hbad := rcF_bad hall hfi hin
        have hre' : f i = re := by rw [← hre]; unfold recE; simp only; rw [hf, hbad, if_pos hfi]
        have hrv' : 0 = rv := by rw [← hrv]; unfold recV; simp only; rw [hf, hbad, if_pos hfi]
        --<
        by_cases h0 : i = 0
        · subst h0
          rw [rowH_0]
          (repeat' ((first | with_reducible (first | apply XQ_cons | apply XQ_consG | apply XQ_nil | apply XR_append | apply XR_cons | apply XR_consG | apply XR_nil | apply cF_pure3 (by assumption) | apply cV_pure3 (by assumption) | apply cF_ev3 (by assumption) | apply cV_ev3 (by assumption)) | with_reducible (first | apply gRS (by with_unfolding_all rfl) | apply gR (by with_unfolding_all rfl) | apply gS (by with_unfolding_all rfl) | apply gSB (by with_unfolding_all rfl) | apply gB (by with_unfolding_all rfl) | fail) | (with_reducible apply X_drawC (id := 8) 7; (next => (kernel_rfl)); (next => (kernel_rfl))) | refine X_of _ ?_ | with_reducible (first | exact ⟨_, rfl⟩ | refine And.intro ?_ ?_ | intro _)) <;> try simp -implicitDefEqProofs (maxSteps := 1000000) (disch := first | exact dz3 | fail) only [vcR, vcT, simprocAttr, Ab.part, implies_true, forall_const, vcS, vcXHb, Tryz.f18, hx,hfi',loopT_r,loopT_x,seqA_r,retA_r]))
          all_goals first | exact congrArg nat4 hrv' | exact hre' | exact ⟨congrArg nat4 hrv', hre'⟩
        · rw [rowH_s h0]
          (repeat' ((first | with_reducible (first | apply XQ_cons | apply XQ_consG | apply XQ_nil | apply XR_append | apply XR_cons | apply XR_consG | apply XR_nil | apply cF_pure3 (by assumption) | apply cV_pure3 (by assumption) | apply cF_ev3 (by assumption) | apply cV_ev3 (by assumption)) | with_reducible (first | apply gRS (by with_unfolding_all rfl) | apply gR (by with_unfolding_all rfl) | apply gS (by with_unfolding_all rfl) | apply gSB (by with_unfolding_all rfl) | apply gB (by with_unfolding_all rfl) | fail) | (with_reducible apply X_drawC (id := 8) 7; (next => (kernel_rfl)); (next => (kernel_rfl))) | refine X_of _ ?_ | with_reducible (first | exact ⟨_, rfl⟩ | refine And.intro ?_ ?_ | intro _)) <;> try simp -implicitDefEqProofs (maxSteps := 1000000) (disch := first | exact dz3 | fail) only [vcR, vcT, simprocAttr, Ab.part, implies_true, forall_const, vcS, vcXHb, Tryz.f18, hx,hfi',loopT_r,loopT_x,seqA_r,retA_r]))
          all_goals first | exact congrArg nat4 hrv' | exact hre' | exact ⟨congrArg nat4 hrv', hre'⟩
        -->
    · have : i = n := by omega
      subst this
      have hok := rcF_ok hall
      clear hin hi
      have hre' : (if (keysI S i).length < i then 13 else if i < m then 3 else WE Q (px (pl S A)) i) = re := by rw [← hre]; unfold recE; simp only; rw [hf, hok, if_neg (show ¬ ((0 : Int) ≠ 0) from fun h => h rfl)]
      have hrv' : (if (keysI S i).length < i then 0 else if i < m then 0 else atz Q (pl S A) i) = rv := by rw [← hrv]; unfold recV; simp only; rw [hf, hok, if_neg (show ¬ ((0 : Int) ≠ 0) from fun h => h rfl)]
      rw [hpp] at hre' hrv'
      by_cases h0 : i = 0
      · subst h0
        rw [rowH_0]
        (repeat' ((first | with_reducible (first | apply XR_append | apply XR_cons | apply XR_consG | apply XR_nil | apply XM_cons | apply XM_consG | apply XM_nil | apply cF_pure3 (by assumption) | apply cM_pure3 (by assumption) | apply cF_ev3 (by assumption) | apply cM_ev3 (by assumption)) | with_reducible (first | apply gRS (by with_unfolding_all rfl) | apply gR (by with_unfolding_all rfl) | apply gS (by with_unfolding_all rfl) | fail) | (with_reducible apply X_drawM (id := 8) 3 [] trH11n18x8; (next => (kernel_rfl)); (next => (kernel_rfl))) | refine X_of _ ?_ | with_reducible (first | exact ⟨_, rfl⟩ | refine And.intro ?_ ?_ | intro _)) <;> try simp -implicitDefEqProofs (maxSteps := 1000000) (disch := first | exact dz3 | fail) only [vcR, vcT, simprocAttr, Ab.part, implies_true, forall_const, vcS, vcXHb, Tryz.f18, rowS_0,loopT_r,loopT_x,seqA_n, trH11n18x8]))
        refine XA_seq (XA_reg (XAR_mkI fun b hb => ?_))
        try simp -implicitDefEqProofs (maxSteps := 1000000) (disch := first | exact dz3 | fail) only [vcR, vcT, simprocAttr, Ab.part, implies_true, forall_const, vcS, vcXHb, Tryz.f18]
        refine XAR_step [0] (steady_imap _ _) rfl (by simp <;> omega) (by simp) fun β2 w2 hR2 hA2 hK2 => ?_
        try simp -implicitDefEqProofs (maxSteps := 1000000) (disch := first | exact dz3 | fail) only [vcR, vcT, simprocAttr, Ab.part, implies_true, forall_const, vcS, vcXHb, Tryz.f18]
        clear hK2 hA2 hR2 w2 β2
        refine XAR_nil ?_
        try simp -implicitDefEqProofs (maxSteps := 1000000) (disch := first | exact dz3 | fail) only [vcR, vcT, simprocAttr, Ab.part, implies_true, forall_const, vcS, vcXHb, Tryz.f18, seqA_n]
        refine XA_seq (XA_seq (XA_X [0] (steady_imap _ _) rfl (by simp <;> omega) (by simp) fun β1 w1 hR1 hA1 hK1 => ?_))
        (repeat' ((first | with_reducible (first | apply XR_append | apply XR_cons | apply XR_consG | apply XR_nil | apply XM_cons | apply XM_consG | apply XM_nil | apply cF_pure3 (by assumption) | apply cM_pure3 (by assumption) | apply cF_ev3 (by assumption) | apply cM_ev3 (by assumption)) | with_reducible (first | apply gRS (by with_unfolding_all rfl) | apply gR (by with_unfolding_all rfl) | apply gS (by with_unfolding_all rfl) | fail) | (with_reducible apply X_drawM (id := 8) 3 [] trH11n18x8; (next => (kernel_rfl)); (next => (kernel_rfl))) | refine X_of _ ?_ | with_reducible (first | exact ⟨_, rfl⟩ | refine And.intro ?_ ?_ | intro _)) <;> try simp -implicitDefEqProofs (maxSteps := 1000000) (disch := first | exact dz3 | fail) only [vcR, vcT, simprocAttr, Ab.part, implies_true, forall_const, vcS, vcXHb, Tryz.f18, seqA_n,seqA_r,seqA_x,blockA_n,blockA_r,blockA_x,loopTA_n,loopTA_r,loopTA_x,retA_n,retA_r, trH11n18x8]))
        clear hK1 hA1 hR1 w1 β1
        refine XA_block (XA_loopT (ι := Nat) (fun j => j ≤ 0) (fun j => 0 - j) [14, 42, 43, 44, 45, 46, 47, 48, 49]
          (fun j => [(42, .s (.v (.int .i64 (j : Nat))))]) (fun _ => [⟨26, nat4 0⟩]) (fun j => IMap b (keysI S j)) 0 ?_ (by decide) ?_ rfl ?_)
        · intro j hj
          refine ⟨by simp, ?_, by simp, ?_⟩
          · simp only [List.length_cons, List.length_nil, List.map_cons, List.map_nil, List.nodup_cons, List.nodup_nil, List.mem_cons, Nat.reduceAdd, Nat.reduceEqDiff, or_false, not_false_eq_true, forall_eq_or_imp, forall_eq, or_self, Nat.reduceLT, Nat.reduceLeDiff, and_self, List.forall_mem_cons, List.not_mem_nil, false_implies, implies_true, and_true, true_and, vcOHb]
          · simp only [List.forall_mem_cons]
            exact ⟨arr_ok _, fun x hx => by simp at hx⟩
        · refine ⟨Nat.zero_le _, [0], ⟨by decide, rfl⟩, ?_, rfl, trivial⟩
          simp -implicitDefEqProofs (maxSteps := 1000000) (disch := first | exact dz3 | fail) only [vcR, vcT, simprocAttr, Ab.part, implies_true, forall_const, vcS, vcXHb, Tryz.f18, renS_cons,renS_nil,ren_v]
        · intro j us2 hj
          have : j = 0 := by omega
          subst this
          refine XA_seq (XA_X [0] (steady_imap _ _) rfl (by simp <;> omega) (by simp) fun β1 w1 hR1 hA1 hK1 => ?_)
          (repeat' ((first | with_reducible (first | apply XR_append | apply XR_cons | apply XR_consG | apply XR_nil | apply XM_cons | apply XM_consG | apply XM_nil | apply cF_pure3 (by assumption) | apply cM_pure3 (by assumption) | apply cF_ev3 (by assumption) | apply cM_ev3 (by assumption)) | with_reducible (first | apply gRS (by with_unfolding_all rfl) | apply gR (by with_unfolding_all rfl) | apply gS (by with_unfolding_all rfl) | fail) | (with_reducible apply X_drawM (id := 8) 3 [] trH11n18x8; (next => (kernel_rfl)); (next => (kernel_rfl))) | refine X_of _ ?_ | with_reducible (first | exact ⟨_, rfl⟩ | refine And.intro ?_ ?_ | intro _)) <;> try simp -implicitDefEqProofs (maxSteps := 1000000) (disch := first | exact dz3 | fail) only [vcR, vcT, simprocAttr, Ab.part, implies_true, forall_const, vcS, vcXHb, Tryz.f18, seqA_n,seqA_r,seqA_x,blockA_n,blockA_r,blockA_x,loopTA_n,loopTA_r,loopTA_x,retA_n,retA_r, trH11n18x8]))
          clear hK1 hA1 hR1 w1 β1
          refine XA_seq (XA_X [0] (steady_imap _ _) rfl (by simp <;> omega) (by simp) fun β1 w1 hR1 hA1 hK1 => ?_)
          (repeat' ((first | with_reducible (first | apply XR_append | apply XR_cons | apply XR_consG | apply XR_nil | apply XM_cons | apply XM_consG | apply XM_nil | apply cF_pure3 (by assumption) | apply cM_pure3 (by assumption) | apply cF_ev3 (by assumption) | apply cM_ev3 (by assumption)) | with_reducible (first | apply gRS (by with_unfolding_all rfl) | apply gR (by with_unfolding_all rfl) | apply gS (by with_unfolding_all rfl) | fail) | (with_reducible apply X_drawM (id := 8) 3 [] trH11n18x8; (next => (kernel_rfl)); (next => (kernel_rfl))) | refine X_of _ ?_ | with_reducible (first | exact ⟨_, rfl⟩ | refine And.intro ?_ ?_ | intro _)) <;> try simp -implicitDefEqProofs (maxSteps := 1000000) (disch := first | exact dz3 | fail) only [vcR, vcT, simprocAttr, Ab.part, implies_true, forall_const, vcS, vcXHb, Tryz.f18, seqA_n,seqA_r,seqA_x,blockA_n,blockA_r,blockA_x,loopTA_n,loopTA_r,loopTA_x,retA_n,retA_r, trH11n18x8]))
          clear hK1 hA1 hR1 w1 β1
          refine XA_seq (XA_block (XA_seq (XA_reg ?_)))
          try simp -implicitDefEqProofs (maxSteps := 1000000) (disch := first | exact dz3 | fail) only [vcR, vcT, simprocAttr, Ab.part, implies_true, forall_const, vcS, vcXHb, Tryz.f18]
          refine XAR_step [0] (steady_imap _ _) rfl (by simp <;> omega) (by simp) fun β2 w2 hR2 hA2 hK2 => ?_
          try simp -implicitDefEqProofs (maxSteps := 1000000) (disch := first | exact dz3 | fail) only [vcR, vcT, simprocAttr, Ab.part, implies_true, forall_const, vcS, vcXHb, Tryz.f18]
          clear hK2 hA2 hR2 w2 β2
          refine XAR_lenI mapTyI rfl ?_
          try simp -implicitDefEqProofs (maxSteps := 1000000) (disch := first | exact dz3 | fail) only [vcR, vcT, simprocAttr, Ab.part, implies_true, forall_const, vcS, vcXHb, Tryz.f18]
          refine XAR_step [0] (steady_imap _ _) rfl (by simp <;> omega) (by simp) fun β2 w2 hR2 hA2 hK2 => ?_
          try simp -implicitDefEqProofs (maxSteps := 1000000) (disch := first | exact dz3 | fail) only [vcR, vcT, simprocAttr, Ab.part, implies_true, forall_const, vcS, vcXHb, Tryz.f18]
          clear hK2 hA2 hR2 w2 β2
          refine XAR_step [0] (steady_imap _ _) rfl (by simp <;> omega) (by simp) fun β2 w2 hR2 hA2 hK2 => ?_
          try simp -implicitDefEqProofs (maxSteps := 1000000) (disch := first | exact dz3 | fail) only [vcR, vcT, simprocAttr, Ab.part, implies_true, forall_const, vcS, vcXHb, Tryz.f18]
          clear hK2 hA2 hR2 w2 β2
          refine XAR_step [0] (steady_imap _ _) rfl (by simp <;> omega) (by simp) fun β2 w2 hR2 hA2 hK2 => ?_
          try simp -implicitDefEqProofs (maxSteps := 1000000) (disch := first | exact dz3 | fail) only [vcR, vcT, simprocAttr, Ab.part, implies_true, forall_const, vcS, vcXHb, Tryz.f18]
          clear hK2 hA2 hR2 w2 β2
          refine XAR_step [0] (steady_imap _ _) rfl (by simp <;> omega) (by simp) fun β2 w2 hR2 hA2 hK2 => ?_
          try simp -implicitDefEqProofs (maxSteps := 1000000) (disch := first | exact dz3 | fail) only [vcR, vcT, simprocAttr, Ab.part, implies_true, forall_const, vcS, vcXHb, Tryz.f18]
          clear hK2 hA2 hR2 w2 β2
          refine XAR_nil ?_
          try simp -implicitDefEqProofs (maxSteps := 1000000) (disch := first | exact dz3 | fail) only [vcR, vcT, simprocAttr, Ab.part, implies_true, forall_const, vcS, vcXHb, Tryz.f18, seqA_n,seqA_r,seqA_x,blockA_n,blockA_r,blockA_x,loopTA_n,loopTA_r,loopTA_x,retA_n,retA_r]
          refine XA_of' ?_
          have hk0 : ¬ (keysI S 0).length < 0 := Nat.not_lt_zero _
          have hk' : ¬ ((keysI S 0).length : Int) < 0 := by omega
          rw [if_neg hk0] at hre' hrv'
          by_cases hm0 : 0 < m
          · have hm' : 0 < (m : Int) := by omega
            rw [if_pos hm0] at hre' hrv'
            have hre1 := hre'
            have hrv1 := hrv'
            clear hre' hrv' hre hrv hr hl hA hS hf
            (repeat' ((first | with_reducible (first | apply XR_append | apply XR_cons | apply XR_consG | apply XR_nil | apply XM_cons | apply XM_consG | apply XM_nil | apply cF_pure3 (by assumption) | apply cM_pure3 (by assumption) | apply cF_ev3 (by assumption) | apply cM_ev3 (by assumption)) | with_reducible (first | apply gRS (by with_unfolding_all rfl) | apply gR (by with_unfolding_all rfl) | apply gS (by with_unfolding_all rfl) | fail) | (with_reducible apply X_drawM (id := 8) 3 [] trH11n18x8; (next => (kernel_rfl)); (next => (kernel_rfl))) | refine X_of _ ?_ | with_reducible (first | exact ⟨_, rfl⟩ | refine And.intro ?_ ?_ | intro _)) <;> try simp -implicitDefEqProofs (maxSteps := 1000000) (disch := first | exact dz3 | fail) only [vcR, vcT, simprocAttr, Ab.part, implies_true, forall_const, vcS, vcXHb, Tryz.f18, hk',hm',seqA_n,seqA_r,seqA_x,blockA_n,blockA_r,blockA_x,loopTA_n,loopTA_r,loopTA_x,retA_n,retA_r, trH11n18x8]))
            all_goals first | exact congrArg nat4 hrv1 | exact hre1 | exact ⟨congrArg nat4 hrv1, hre1⟩
          have hm' : ¬ 0 < (m : Int) := by omega
          rw [if_neg hm0] at hre' hrv'
          obtain ⟨hOP, hOQ⟩ := hG.gOdd
          have hMQ : Kn (ctxE Tryz.prog (modEvo 135) w B) (isMod 135 kq Q) := hG.gmq
          have hpl2 : ∀ q, pp q < 2 ^ 256 := fun q => by
            rw [← hpp]
            unfold pl
            split
            · unfold placeN; have := (hS (q / 2)).2; omega
            · exact hA _
          have e5 := atzero_e kq Q none 0 0 pp hOQ hpl2 (by decide)
          have e6 := clip_c none 0 0 (by decide) (Nat.le_refl 0)
          have hnz : Kn (ctxE Tryz.prog (modEvo 135) w B) (natsAt (modEvo 135) none (2 * 0) pp) := fun _ _ => .inl rfl
          have e7 := gQ_e k kx kq P Q G
          rw [hre', hrv'] at e5
          clear hre' hrv' hre hrv hr hl hA hS hf hpl2 hfs hp0 hp1
          (repeat' ((first | with_reducible (first | apply XR_append | apply XR_cons | apply XR_consG | apply XR_nil | apply XM_cons | apply XM_consG | apply XM_nil | apply cF_pure3 (by assumption) | apply cM_pure3 (by assumption) | apply cF_ev3 (by assumption) | apply cM_ev3 (by assumption)) | with_reducible (first | apply gRS (by with_unfolding_all rfl) | apply gR (by with_unfolding_all rfl) | apply gS (by with_unfolding_all rfl) | fail) | (with_reducible apply X_drawM (id := 8) 3 [] trH11n18x8; (next => (kernel_rfl)); (next => (kernel_rfl))) | refine X_of _ ?_ | with_reducible (first | exact ⟨_, rfl⟩ | refine And.intro ?_ ?_ | intro _)) <;> try simp -implicitDefEqProofs (maxSteps := 1000000) (disch := first | exact dz3 | fail) only [vcR, vcT, simprocAttr, Ab.part, implies_true, forall_const, vcS, vcXHb, Tryz.f18, hk',hm',seqA_n,seqA_r,seqA_x,blockA_n,blockA_r,blockA_x,loopTA_n,loopTA_r,loopTA_x,retA_n,retA_r, trH11n18x8]))
          refine XA_of' ?_
          (repeat' ((first | with_reducible (first | apply XR_append | apply XR_cons | apply XR_consG | apply XR_nil | apply XM_cons | apply XM_consG | apply XM_nil | apply cF_pure3 (by assumption) | apply cM_pure3 (by assumption) | apply cF_ev3 (by assumption) | apply cM_ev3 (by assumption)) | with_reducible (first | apply gRS (by with_unfolding_all rfl) | apply gR (by with_unfolding_all rfl) | apply gS (by with_unfolding_all rfl) | fail) | (with_reducible apply X_drawM (id := 8) 3 [] trH11n18x8; (next => (kernel_rfl)); (next => (kernel_rfl))) | refine X_of _ ?_ | with_reducible (first | exact ⟨_, rfl⟩ | refine And.intro ?_ ?_ | intro _)) <;> try simp -implicitDefEqProofs (maxSteps := 1000000) (disch := first | exact dz3 | fail) only [vcR, vcT, simprocAttr, Ab.part, implies_true, forall_const, vcS, vcXHb, Tryz.f18, seqA_n,seqA_r,seqA_x,blockA_n,blockA_r,blockA_x,loopTA_n,loopTA_r,loopTA_x,retA_n,retA_r, trH11n18x8]))
      · rw [rowH_s h0, rowS_s h0]
        obtain ⟨ad, rfl⟩ := hadr h0
        clear hadr
        obtain ⟨hkc, hsp⟩ := hrow h0
        clear hrow
        (repeat' ((first | with_reducible (first | apply XR_append | apply XR_cons | apply XR_consG | apply XR_nil | apply XM_cons | apply XM_consG | apply XM_nil | apply cF_pure3 (by assumption) | apply cM_pure3 (by assumption) | apply cF_ev3 (by assumption) | apply cM_ev3 (by assumption)) | with_reducible (first | apply gRS (by with_unfolding_all rfl) | apply gR (by with_unfolding_all rfl) | apply gS (by with_unfolding_all rfl) | fail) | (with_reducible apply X_drawM (id := 8) 3 [] trH11n18x8; (next => (kernel_rfl)); (next => (kernel_rfl))) | refine X_of _ ?_ | with_reducible (first | exact ⟨_, rfl⟩ | refine And.intro ?_ ?_ | intro _)) <;> try simp -implicitDefEqProofs (maxSteps := 1000000) (disch := first | exact dz3 | fail) only [vcR, vcT, simprocAttr, Ab.part, implies_true, forall_const, vcS, vcXHb, Tryz.f18, loopT_r,loopT_x,seqA_n, trH11n18x8]))
        refine XA_seq (XA_reg (XAR_mkI fun b hb => ?_))
        try simp -implicitDefEqProofs (maxSteps := 1000000) (disch := first | exact dz3 | fail) only [vcR, vcT, simprocAttr, Ab.part, implies_true, forall_const, vcS, vcXHb, Tryz.f18]
        refine XAR_step [0, 1] (steady_imap _ _) rfl (by simp <;> omega) (by simp) fun β2 w2 hR2 hA2 hK2 => ?_
        try simp -implicitDefEqProofs (maxSteps := 1000000) (disch := first | exact dz3 | fail) only [vcR, vcT, simprocAttr, Ab.part, implies_true, forall_const, vcS, vcXHb, Tryz.f18]
        clear hK2 hA2 hR2 w2 β2
        refine XAR_nil ?_
        try simp -implicitDefEqProofs (maxSteps := 1000000) (disch := first | exact dz3 | fail) only [vcR, vcT, simprocAttr, Ab.part, implies_true, forall_const, vcS, vcXHb, Tryz.f18, seqA_n]
        refine XA_seq (XA_seq (XA_X [0, 1] (steady_imap _ _) rfl (by simp <;> omega) (by simp) fun β1 w1 hR1 hA1 hK1 => ?_))
        (repeat' ((first | with_reducible (first | apply XR_append | apply XR_cons | apply XR_consG | apply XR_nil | apply XM_cons | apply XM_consG | apply XM_nil | apply cF_pure3 (by assumption) | apply cM_pure3 (by assumption) | apply cF_ev3 (by assumption) | apply cM_ev3 (by assumption)) | with_reducible (first | apply gRS (by with_unfolding_all rfl) | apply gR (by with_unfolding_all rfl) | apply gS (by with_unfolding_all rfl) | fail) | (with_reducible apply X_drawM (id := 8) 3 [] trH11n18x8; (next => (kernel_rfl)); (next => (kernel_rfl))) | refine X_of _ ?_ | with_reducible (first | exact ⟨_, rfl⟩ | refine And.intro ?_ ?_ | intro _)) <;> try simp -implicitDefEqProofs (maxSteps := 1000000) (disch := first | exact dz3 | fail) only [vcR, vcT, simprocAttr, Ab.part, implies_true, forall_const, vcS, vcXHb, Tryz.f18, seqA_n,seqA_r,seqA_x,blockA_n,blockA_r,blockA_x,loopTA_n,loopTA_r,loopTA_x,retA_n,retA_r, trH11n18x8]))
        clear hK1 hA1 hR1 w1 β1
        refine XA_block (XA_loopT (ι := Nat) (fun j => j ≤ i) (fun j => i - j) [14, 42, 43, 44, 45, 46, 47, 48, 49]
          (fun j => [(42, .s (.v (.int .i64 (j : Nat))))]) (fun _ => [⟨26, nat4 0⟩, ⟨83, nats (2 * i) pp ++ List.map SV.v sp⟩]) (fun j => IMap b (keysI S j)) 0 ?_ (by decide) ?_ rfl ?_)
        · intro j hj
          refine ⟨by simp, ?_, by simp, ?_⟩
          · simp only [List.length_cons, List.length_nil, List.map_cons, List.map_nil, List.nodup_cons, List.nodup_nil, List.mem_cons, Nat.reduceAdd, Nat.reduceEqDiff, or_false, not_false_eq_true, forall_eq_or_imp, forall_eq, or_self, Nat.reduceLT, Nat.reduceLeDiff, and_self, List.forall_mem_cons, List.not_mem_nil, false_implies, implies_true, and_true, true_and, vcOHb]
          · simp only [List.forall_mem_cons]
            exact ⟨arr_ok _, row_all, fun x hx => by simp at hx⟩
        · refine ⟨Nat.zero_le _, [0, 1], ⟨by decide, rfl⟩, ?_, rfl, rfl, trivial⟩
          simp -implicitDefEqProofs (maxSteps := 1000000) (disch := first | exact dz3 | fail) only [vcR, vcT, simprocAttr, Ab.part, implies_true, forall_const, vcS, vcXHb, Tryz.f18, renS_cons,renS_nil,ren_v]
        · intro j us2 hj
          by_cases hji : j < i
          · have hSj := hS j
            refine XA_seq (XA_X [0, 1] (steady_imap _ _) rfl (by simp <;> omega) (by simp) fun β1 w1 hR1 hA1 hK1 => ?_)
            (repeat' ((first | with_reducible (first | apply XR_append | apply XR_cons | apply XR_consG | apply XR_nil | apply XM_cons | apply XM_consG | apply XM_nil | apply cF_pure3 (by assumption) | apply cM_pure3 (by assumption) | apply cF_ev3 (by assumption) | apply cM_ev3 (by assumption)) | with_reducible (first | apply gRS (by with_unfolding_all rfl) | apply gR (by with_unfolding_all rfl) | apply gS (by with_unfolding_all rfl) | fail) | (with_reducible apply X_drawM (id := 8) 3 [] trH11n18x8; (next => (kernel_rfl)); (next => (kernel_rfl))) | refine X_of _ ?_ | with_reducible (first | exact ⟨_, rfl⟩ | refine And.intro ?_ ?_ | intro _)) <;> try simp -implicitDefEqProofs (maxSteps := 1000000) (disch := first | exact dz3 | fail) only [vcR, vcT, simprocAttr, Ab.part, implies_true, forall_const, vcS, vcXHb, Tryz.f18, seqA_n,seqA_r,seqA_x,blockA_n,blockA_r,blockA_x,loopTA_n,loopTA_r,loopTA_x,retA_n,retA_r, trH11n18x8]))
            clear hK1 hA1 hR1 w1 β1
            refine XA_seq (XA_X [0, 1] (steady_imap _ _) rfl (by simp <;> omega) (by simp) fun β1 w1 hR1 hA1 hK1 => ?_)
            (repeat' ((first | with_reducible (first | apply XR_append | apply XR_cons | apply XR_consG | apply XR_nil | apply XM_cons | apply XM_consG | apply XM_nil | apply cF_pure3 (by assumption) | apply cM_pure3 (by assumption) | apply cF_ev3 (by assumption) | apply cM_ev3 (by assumption)) | with_reducible (first | apply gRS (by with_unfolding_all rfl) | apply gR (by with_unfolding_all rfl) | apply gS (by with_unfolding_all rfl) | fail) | (with_reducible apply X_drawM (id := 8) 3 [] trH11n18x8; (next => (kernel_rfl)); (next => (kernel_rfl))) | refine X_of _ ?_ | with_reducible (first | exact ⟨_, rfl⟩ | refine And.intro ?_ ?_ | intro _)) <;> try simp -implicitDefEqProofs (maxSteps := 1000000) (disch := first | exact dz3 | fail) only [vcR, vcT, simprocAttr, Ab.part, implies_true, forall_const, vcS, vcXHb, Tryz.f18, seqA_n,seqA_r,seqA_x,blockA_n,blockA_r,blockA_x,loopTA_n,loopTA_r,loopTA_x,retA_n,retA_r, trH11n18x8]))
            clear hK1 hA1 hR1 w1 β1
            refine XA_seq (XA_block ?_)
            refine XA_seq ?_
            refine XA_X [0, 1] (steady_imap _ _) rfl (by simp <;> omega) (by simp) fun β1 w1 hR1 hA1 hK1 => ?_
            have hx : ∀ {K : TV → HE → Prop}, xext ((ctxE Tryz.prog (modEvo 135) w B).after (ctxE Tryz.prog (modEvo 135) w B).ev (ctxE Tryz.prog (modEvo 135) w B).B w1 β1 [0, 1]) (some true) 5 (ad.add (j * 5)) K = K (.agg (pieceC (S j) (A j))) .none := fun {K} => Kn.pcs (hK1 _ hY) hji
            (repeat' ((first | with_reducible (first | apply XR_append | apply XR_cons | apply XR_consG | apply XR_nil | apply XM_cons | apply XM_consG | apply XM_nil | apply cF_pure3 (by assumption) | apply cM_pure3 (by assumption) | apply cF_ev3 (by assumption) | apply cM_ev3 (by assumption)) | with_reducible (first | apply gRS (by with_unfolding_all rfl) | apply gR (by with_unfolding_all rfl) | apply gS (by with_unfolding_all rfl) | fail) | (with_reducible apply X_drawM (id := 8) 3 [] trH11n18x8; (next => (kernel_rfl)); (next => (kernel_rfl))) | refine X_of _ ?_ | with_reducible (first | exact ⟨_, rfl⟩ | refine And.intro ?_ ?_ | intro _)) <;> try simp -implicitDefEqProofs (maxSteps := 1000000) (disch := first | exact dz3 | fail) only [vcR, vcT, simprocAttr, Ab.part, implies_true, forall_const, vcS, vcXHb, Tryz.f18, hx,seqA_n,seqA_r,seqA_x,blockA_n,blockA_r,blockA_x,loopTA_n,loopTA_r,loopTA_x,retA_n,retA_r, trH11n18x8]))
            clear hx
            clear hK1 hA1 hR1 w1 β1
            refine XA_reg ?_
            try simp -implicitDefEqProofs (maxSteps := 1000000) (disch := first | exact dz3 | fail) only [vcR, vcT, simprocAttr, Ab.part, implies_true, forall_const, vcS, vcXHb, Tryz.f18]
            refine XAR_step [0, 1, 2] (steady_imap _ _) rfl (by simp <;> omega) (by simp) fun β2 w2 hR2 hA2 hK2 => ?_
            try simp -implicitDefEqProofs (maxSteps := 1000000) (disch := first | exact dz3 | fail) only [vcR, vcT, simprocAttr, Ab.part, implies_true, forall_const, vcS, vcXHb, Tryz.f18]
            clear hK2 hA2 hR2 w2 β2
            refine XAR_step [0, 1, 2] (steady_imap _ _) rfl (by simp <;> omega) (by simp) fun β2 w2 hR2 hA2 hK2 => ?_
            try simp -implicitDefEqProofs (maxSteps := 1000000) (disch := first | exact dz3 | fail) only [vcR, vcT, simprocAttr, Ab.part, implies_true, forall_const, vcS, vcXHb, Tryz.f18]
            clear hK2 hA2 hR2 w2 β2
            refine XAR_step [0, 1, 2] (steady_imap _ _) rfl (by simp <;> omega) (by simp) fun β2 w2 hR2 hA2 hK2 => ?_
            try simp -implicitDefEqProofs (maxSteps := 1000000) (disch := first | exact dz3 | fail) only [vcR, vcT, simprocAttr, Ab.part, implies_true, forall_const, vcS, vcXHb, Tryz.f18]
            clear hK2 hA2 hR2 w2 β2
            refine XAR_putI mapTyI (.inl rfl) hb hSj.1 hSj.2 rfl rfl ?_
            try simp -implicitDefEqProofs (maxSteps := 1000000) (disch := first | exact dz3 | fail) only [vcR, vcT, simprocAttr, Ab.part, implies_true, forall_const, vcS, vcXHb, Tryz.f18]
            refine XAR_nil ?_
            try simp -implicitDefEqProofs (maxSteps := 1000000) (disch := first | exact dz3 | fail) only [vcR, vcT, simprocAttr, Ab.part, implies_true, forall_const, vcS, vcXHb, Tryz.f18, seqA_n,seqA_r,seqA_x,blockA_n,blockA_r,blockA_x,loopTA_n,loopTA_r,loopTA_x,retA_n,retA_r]
            refine XA_X [0, 1, 2] (steady_imap _ _) rfl (by simp <;> omega) (by simp) fun β1 w1 hR1 hA1 hK1 => ?_
            (repeat' ((first | with_reducible (first | apply XR_append | apply XR_cons | apply XR_consG | apply XR_nil | apply XM_cons | apply XM_consG | apply XM_nil | apply cF_pure3 (by assumption) | apply cM_pure3 (by assumption) | apply cF_ev3 (by assumption) | apply cM_ev3 (by assumption)) | with_reducible (first | apply gRS (by with_unfolding_all rfl) | apply gR (by with_unfolding_all rfl) | apply gS (by with_unfolding_all rfl) | fail) | (with_reducible apply X_drawM (id := 8) 3 [] trH11n18x8; (next => (kernel_rfl)); (next => (kernel_rfl))) | refine X_of _ ?_ | with_reducible (first | exact ⟨_, rfl⟩ | refine And.intro ?_ ?_ | intro _)) <;> try simp -implicitDefEqProofs (maxSteps := 1000000) (disch := first | exact dz3 | fail) only [vcR, vcT, simprocAttr, Ab.part, implies_true, forall_const, vcS, vcXHb, Tryz.f18, seqA_n,seqA_r,seqA_x,blockA_n,blockA_r,blockA_x,loopTA_n,loopTA_r,loopTA_x,retA_n,retA_r, trH11n18x8]))
            clear hK1 hA1 hR1 w1 β1
            refine ⟨j + 1, by omega, ⟨by omega, [0, 1], ⟨by decide, rfl⟩, ?_, rfl, rfl, trivial⟩, rfl⟩
            simp -implicitDefEqProofs (maxSteps := 1000000) (disch := first | exact dz3 | fail) only [vcR, vcT, simprocAttr, Ab.part, implies_true, forall_const, vcS, vcXHb, Tryz.f18, renS_cons,renS_nil,ren_v]
          · have : j = i := by omega
            subst this
            refine XA_seq (XA_X [0, 1] (steady_imap _ _) rfl (by simp <;> omega) (by simp) fun β1 w1 hR1 hA1 hK1 => ?_)
            (repeat' ((first | with_reducible (first | apply XR_append | apply XR_cons | apply XR_consG | apply XR_nil | apply XM_cons | apply XM_consG | apply XM_nil | apply cF_pure3 (by assumption) | apply cM_pure3 (by assumption) | apply cF_ev3 (by assumption) | apply cM_ev3 (by assumption)) | with_reducible (first | apply gRS (by with_unfolding_all rfl) | apply gR (by with_unfolding_all rfl) | apply gS (by with_unfolding_all rfl) | fail) | (with_reducible apply X_drawM (id := 8) 3 [] trH11n18x8; (next => (kernel_rfl)); (next => (kernel_rfl))) | refine X_of _ ?_ | with_reducible (first | exact ⟨_, rfl⟩ | refine And.intro ?_ ?_ | intro _)) <;> try simp -implicitDefEqProofs (maxSteps := 1000000) (disch := first | exact dz3 | fail) only [vcR, vcT, simprocAttr, Ab.part, implies_true, forall_const, vcS, vcXHb, Tryz.f18, seqA_n,seqA_r,seqA_x,blockA_n,blockA_r,blockA_x,loopTA_n,loopTA_r,loopTA_x,retA_n,retA_r, trH11n18x8]))
            clear hK1 hA1 hR1 w1 β1
            refine XA_seq (XA_X [0, 1] (steady_imap _ _) rfl (by simp <;> omega) (by simp) fun β1 w1 hR1 hA1 hK1 => ?_)
            (repeat' ((first | with_reducible (first | apply XR_append | apply XR_cons | apply XR_consG | apply XR_nil | apply XM_cons | apply XM_consG | apply XM_nil | apply cF_pure3 (by assumption) | apply cM_pure3 (by assumption) | apply cF_ev3 (by assumption) | apply cM_ev3 (by assumption)) | with_reducible (first | apply gRS (by with_unfolding_all rfl) | apply gR (by with_unfolding_all rfl) | apply gS (by with_unfolding_all rfl) | fail) | (with_reducible apply X_drawM (id := 8) 3 [] trH11n18x8; (next => (kernel_rfl)); (next => (kernel_rfl))) | refine X_of _ ?_ | with_reducible (first | exact ⟨_, rfl⟩ | refine And.intro ?_ ?_ | intro _)) <;> try simp -implicitDefEqProofs (maxSteps := 1000000) (disch := first | exact dz3 | fail) only [vcR, vcT, simprocAttr, Ab.part, implies_true, forall_const, vcS, vcXHb, Tryz.f18, seqA_n,seqA_r,seqA_x,blockA_n,blockA_r,blockA_x,loopTA_n,loopTA_r,loopTA_x,retA_n,retA_r, trH11n18x8]))
            clear hK1 hA1 hR1 w1 β1
            refine XA_seq (XA_block (XA_seq (XA_reg ?_)))
            try simp -implicitDefEqProofs (maxSteps := 1000000) (disch := first | exact dz3 | fail) only [vcR, vcT, simprocAttr, Ab.part, implies_true, forall_const, vcS, vcXHb, Tryz.f18]
            refine XAR_step [0, 1] (steady_imap _ _) rfl (by simp <;> omega) (by simp) fun β2 w2 hR2 hA2 hK2 => ?_
            try simp -implicitDefEqProofs (maxSteps := 1000000) (disch := first | exact dz3 | fail) only [vcR, vcT, simprocAttr, Ab.part, implies_true, forall_const, vcS, vcXHb, Tryz.f18]
            clear hK2 hA2 hR2 w2 β2
            refine XAR_lenI mapTyI rfl ?_
            try simp -implicitDefEqProofs (maxSteps := 1000000) (disch := first | exact dz3 | fail) only [vcR, vcT, simprocAttr, Ab.part, implies_true, forall_const, vcS, vcXHb, Tryz.f18]
            refine XAR_step [0, 1] (steady_imap _ _) rfl (by simp <;> omega) (by simp) fun β2 w2 hR2 hA2 hK2 => ?_
            try simp -implicitDefEqProofs (maxSteps := 1000000) (disch := first | exact dz3 | fail) only [vcR, vcT, simprocAttr, Ab.part, implies_true, forall_const, vcS, vcXHb, Tryz.f18]
            clear hK2 hA2 hR2 w2 β2
            refine XAR_step [0, 1] (steady_imap _ _) rfl (by simp <;> omega) (by simp) fun β2 w2 hR2 hA2 hK2 => ?_
            try simp -implicitDefEqProofs (maxSteps := 1000000) (disch := first | exact dz3 | fail) only [vcR, vcT, simprocAttr, Ab.part, implies_true, forall_const, vcS, vcXHb, Tryz.f18]
            clear hK2 hA2 hR2 w2 β2
            refine XAR_step [0, 1] (steady_imap _ _) rfl (by simp <;> omega) (by simp) fun β2 w2 hR2 hA2 hK2 => ?_
            try simp -implicitDefEqProofs (maxSteps := 1000000) (disch := first | exact dz3 | fail) only [vcR, vcT, simprocAttr, Ab.part, implies_true, forall_const, vcS, vcXHb, Tryz.f18]
            clear hK2 hA2 hR2 w2 β2
            refine XAR_step [0, 1] (steady_imap _ _) rfl (by simp <;> omega) (by simp) fun β2 w2 hR2 hA2 hK2 => ?_
            try simp -implicitDefEqProofs (maxSteps := 1000000) (disch := first | exact dz3 | fail) only [vcR, vcT, simprocAttr, Ab.part, implies_true, forall_const, vcS, vcXHb, Tryz.f18]
            clear hK2 hA2 hR2 w2 β2
            refine XAR_nil ?_
            try simp -implicitDefEqProofs (maxSteps := 1000000) (disch := first | exact dz3 | fail) only [vcR, vcT, simprocAttr, Ab.part, implies_true, forall_const, vcS, vcXHb, Tryz.f18, seqA_n,seqA_r,seqA_x,blockA_n,blockA_r,blockA_x,loopTA_n,loopTA_r,loopTA_x,retA_n,retA_r]
            refine XA_of' ?_
            by_cases hk0 : (keysI S j).length < j
            · have hk' : ((keysI S j).length : Int) < (j : Int) := by omega
              rw [if_pos hk0] at hre' hrv'
              have hre1 := hre'
              have hrv1 := hrv'
              clear hre' hrv' hre hrv hr hl hA hS hf
              (repeat' ((first | with_reducible (first | apply XR_append | apply XR_cons | apply XR_consG | apply XR_nil | apply XM_cons | apply XM_consG | apply XM_nil | apply cF_pure3 (by assumption) | apply cM_pure3 (by assumption) | apply cF_ev3 (by assumption) | apply cM_ev3 (by assumption)) | with_reducible (first | apply gRS (by with_unfolding_all rfl) | apply gR (by with_unfolding_all rfl) | apply gS (by with_unfolding_all rfl) | fail) | (with_reducible apply X_drawM (id := 8) 3 [] trH11n18x8; (next => (kernel_rfl)); (next => (kernel_rfl))) | refine X_of _ ?_ | with_reducible (first | exact ⟨_, rfl⟩ | refine And.intro ?_ ?_ | intro _)) <;> try simp -implicitDefEqProofs (maxSteps := 1000000) (disch := first | exact dz3 | fail) only [vcR, vcT, simprocAttr, Ab.part, implies_true, forall_const, vcS, vcXHb, Tryz.f18, hk',seqA_n,seqA_r,seqA_x,blockA_n,blockA_r,blockA_x,loopTA_n,loopTA_r,loopTA_x,retA_n,retA_r, trH11n18x8]))
              all_goals first | exact congrArg nat4 hrv1 | exact hre1 | exact ⟨congrArg nat4 hrv1, hre1⟩
            have hk' : ¬ ((keysI S j).length : Int) < (j : Int) := by omega
            rw [if_neg hk0] at hre' hrv'
            by_cases hm0 : j < m
            · have hm' : (j : Int) < (m : Int) := by omega
              rw [if_pos hm0] at hre' hrv'
              have hre1 := hre'
              have hrv1 := hrv'
              clear hre' hrv' hre hrv hr hl hA hS hf
              (repeat' ((first | with_reducible (first | apply XR_append | apply XR_cons | apply XR_consG | apply XR_nil | apply XM_cons | apply XM_consG | apply XM_nil | apply cF_pure3 (by assumption) | apply cM_pure3 (by assumption) | apply cF_ev3 (by assumption) | apply cM_ev3 (by assumption)) | with_reducible (first | apply gRS (by with_unfolding_all rfl) | apply gR (by with_unfolding_all rfl) | apply gS (by with_unfolding_all rfl) | fail) | (with_reducible apply X_drawM (id := 8) 3 [] trH11n18x8; (next => (kernel_rfl)); (next => (kernel_rfl))) | refine X_of _ ?_ | with_reducible (first | exact ⟨_, rfl⟩ | refine And.intro ?_ ?_ | intro _)) <;> try simp -implicitDefEqProofs (maxSteps := 1000000) (disch := first | exact dz3 | fail) only [vcR, vcT, simprocAttr, Ab.part, implies_true, forall_const, vcS, vcXHb, Tryz.f18, hk',hm',seqA_n,seqA_r,seqA_x,blockA_n,blockA_r,blockA_x,loopTA_n,loopTA_r,loopTA_x,retA_n,retA_r, trH11n18x8]))
              all_goals first | exact congrArg nat4 hrv1 | exact hre1 | exact ⟨congrArg nat4 hrv1, hre1⟩
            have hm' : ¬ (j : Int) < (m : Int) := by omega
            rw [if_neg hm0] at hre' hrv'
            obtain ⟨hOP, hOQ⟩ := hG.gOdd
            have hMQ : Kn (ctxE Tryz.prog (modEvo 135) w B) (isMod 135 kq Q) := hG.gmq
            have hpl2 : ∀ q, pp q < 2 ^ 256 := fun q => by
              rw [← hpp]
              unfold pl
              split
              · unfold placeN; have := (hS (q / 2)).2; omega
              · exact hA _
            have e5 := fun ad : Addr => atzero_e kq Q (some ad) j j pp hOQ hpl2 (by omega)
            have e7 := gQ_e k kx kq P Q G
            rw [hre', hrv'] at e5
            clear hre' hrv' hre hrv hr hl hA hS hf hpl2 hfs hp0 hp1
            (repeat' ((first | with_reducible (first | apply XR_append | apply XR_cons | apply XR_consG | apply XR_nil | apply XM_cons | apply XM_consG | apply XM_nil | apply cF_pure3 (by assumption) | apply cM_pure3 (by assumption) | apply cF_ev3 (by assumption) | apply cM_ev3 (by assumption)) | with_reducible (first | apply gRS (by with_unfolding_all rfl) | apply gR (by with_unfolding_all rfl) | apply gS (by with_unfolding_all rfl) | fail) | (with_reducible apply X_drawM (id := 8) 3 [] trH11n18x8; (next => (kernel_rfl)); (next => (kernel_rfl))) | refine X_of _ ?_ | with_reducible (first | exact ⟨_, rfl⟩ | refine And.intro ?_ ?_ | intro _)) <;> try simp -implicitDefEqProofs (maxSteps := 1000000) (disch := first | exact dz3 | fail) only [vcR, vcT, simprocAttr, Ab.part, implies_true, forall_const, vcS, vcXHb, Tryz.f18, hk',hm',seqA_n,seqA_r,seqA_x,blockA_n,blockA_r,blockA_x,loopTA_n,loopTA_r,loopTA_x,retA_n,retA_r, trH11n18x8]))
            refine XA_of' ?_
            (repeat' ((first | with_reducible (first | apply XR_append | apply XR_cons | apply XR_consG | apply XR_nil | apply XM_cons | apply XM_consG | apply XM_nil | apply cF_pure3 (by assumption) | apply cM_pure3 (by assumption) | apply cF_ev3 (by assumption) | apply cM_ev3 (by assumption)) | with_reducible (first | apply gRS (by with_unfolding_all rfl) | apply gR (by with_unfolding_all rfl) | apply gS (by with_unfolding_all rfl) | fail) | (with_reducible apply X_drawM (id := 8) 3 [] trH11n18x8; (next => (kernel_rfl)); (next => (kernel_rfl))) | refine X_of _ ?_ | with_reducible (first | exact ⟨_, rfl⟩ | refine And.intro ?_ ?_ | intro _)) <;> try simp -implicitDefEqProofs (maxSteps := 1000000) (disch := first | exact dz3 | fail) only [vcR, vcT, simprocAttr, Ab.part, implies_true, forall_const, vcS, vcXHb, Tryz.f18, seqA_n,seqA_r,seqA_x,blockA_n,blockA_r,blockA_x,loopTA_n,loopTA_r,loopTA_x,retA_n,retA_r, trH11n18x8]))
            refine xcall_thaw (r := .s (.sl 1 0 j j)) (by kernel_rfl) (fun β => clip_c (some ⟨β 1, 0, none⟩) j c' (by omega) hkc) (by show 1 < 2; decide) ?_
            try simp -implicitDefEqProofs (maxSteps := 1000000) (disch := first | exact dz3 | fail) only [vcR, vcT, simprocAttr, Ab.part, implies_true, forall_const, vcS, vcXHb, Tryz.f18]
            (repeat' ((first | with_reducible (first | apply XR_append | apply XR_cons | apply XR_consG | apply XR_nil | apply XM_cons | apply XM_consG | apply XM_nil | apply cF_pure3 (by assumption) | apply cM_pure3 (by assumption) | apply cF_ev3 (by assumption) | apply cM_ev3 (by assumption)) | with_reducible (first | apply gRS (by with_unfolding_all rfl) | apply gR (by with_unfolding_all rfl) | apply gS (by with_unfolding_all rfl) | fail) | (with_reducible apply X_drawM (id := 8) 3 [] trH11n18x8; (next => (kernel_rfl)); (next => (kernel_rfl))) | refine X_of _ ?_ | with_reducible (first | exact ⟨_, rfl⟩ | refine And.intro ?_ ?_ | intro _)) <;> try simp -implicitDefEqProofs (maxSteps := 1000000) (disch := first | exact dz3 | fail) only [vcR, vcT, simprocAttr, Ab.part, implies_true, forall_const, vcS, vcXHb, Tryz.f18, trH11n18x8]))
            refine yF_evz (fun β w' hR => ⟨_, e5 ⟨β 1, 0, none⟩, hMQ w' hR.fr.to, natsAt_own hR rfl (by decide)⟩) rfl rfl (by kernel_rfl) ?_
            try simp -implicitDefEqProofs (maxSteps := 1000000) (disch := first | exact dz3 | fail) only [vcR, vcT, simprocAttr, Ab.part, implies_true, forall_const, vcS, vcXHb, Tryz.f18]
            (repeat' ((first | with_reducible (first | apply XR_append | apply XR_cons | apply XR_consG | apply XR_nil | apply XM_cons | apply XM_consG | apply XM_nil | apply cF_pure3 (by assumption) | apply cM_pure3 (by assumption) | apply cF_ev3 (by assumption) | apply cM_ev3 (by assumption)) | with_reducible (first | apply gRS (by with_unfolding_all rfl) | apply gR (by with_unfolding_all rfl) | apply gS (by with_unfolding_all rfl) | fail) | (with_reducible apply X_drawM (id := 8) 3 [] trH11n18x8; (next => (kernel_rfl)); (next => (kernel_rfl))) | refine X_of _ ?_ | with_reducible (first | exact ⟨_, rfl⟩ | refine And.intro ?_ ?_ | intro _)) <;> try simp -implicitDefEqProofs (maxSteps := 1000000) (disch := first | exact dz3 | fail) only [vcR, vcT, simprocAttr, Ab.part, implies_true, forall_const, vcS, vcXHb, Tryz.f18, seqA_n,seqA_r,seqA_x,blockA_n,blockA_r,blockA_x,loopTA_n,loopTA_r,loopTA_x,retA_n,retA_r, trH11n18x8]))
def dealR (m n : Nat) (f g : Nat → Nat) (v : TV) (H : Heap) : Prop := ∃ (c1 : Nat) (sp1 : List Value) (c2 : Nat) (sp2 : List Value), (m ≤ c1 ∧ sp1.length = (c1 - m) * 4) ∧ (n ≤ c2 ∧ sp2.length = (c2 - n) * 4) ∧
  v = .tup [.s (.sl 0 0 m c1), .s (.sl 1 0 n c2), .s (.v (.int .i64 0))] ∧ H = [⟨26, nats m f ++ sp1.map .v⟩, ⟨26, nats n g ++ sp2.map .v⟩]
theorem deal_n (kg kx kq P Q G : Nat) (x : Option Addr) (m c n : Nat) (l : Nat → Nat) (hG2 : G < 2 ^ 256) (hl : ∀ i, l i < 2 ^ 256) (hm1 : 1 ≤ m) (hm : m ≤ 20) (hn1 : 1 ≤ n) (hn : n ≤ 40) (hnQ : n < Q) :
    EvN (modEvo 135) Tryz.prog 9 [.s (.v (.pointer (some ⟨kg, 0, none⟩))), .s (.v (.slice x m c)), .s (.v (.int .i64 (n : Int)))] (fun B w => GK kg kx kq P Q G B w ∧ natsAt (modEvo 135) x m l B w)
      (dealR m n (comN P G l) fun i => valN Q l m (i : Nat)) := by
  (refine evN_of Tryz.func9 rfl (by simp only [List.length_cons, List.length_nil, List.map_cons, List.map_nil, List.nodup_cons, List.nodup_nil, List.mem_cons, Nat.reduceAdd, Nat.reduceEqDiff, or_false, not_false_eq_true, forall_eq_or_imp, forall_eq, or_self, Nat.reduceLT, Nat.reduceLeDiff, and_self, List.forall_mem_cons, List.not_mem_nil, false_implies, implies_true, and_true, true_and, vcOHb]) fun B w hpre => ?_; simp only [List.length_cons, List.length_nil, Tryz.ntmps9, Nat.reduceAdd, Nat.reduceSub, List.replicate_succ, List.replicate_zero, List.cons_append, List.nil_append])
  have h0 := Kn.entry (P := Tryz.prog) ((isGrp_stays 135 kg kx kq P Q G).and (natsAt_stays _ x m l)) hpre
  have hG := h0.left
  have hN := h0.right
  obtain ⟨hOP, hOQ⟩ := hG.gOdd
  clear hpre
  have e1 := few_c (m : Int)
  have e2 := below_e kg kx kq P Q G n (by omega)
  rw [decide_eq_true hnQ] at e2
  rw [decide_eq_true (show (m : Int) ≥ 1 by omega), decide_eq_true (show (m : Int) ≤ 20 by omega), Bool.and_self] at e1
  have hw := nat_word (x := n) (by omega)
  have c1 : ¬ (n : Int) < 1 := by omega
  have c2 : ¬ (n : Int) > 40 := by omega
  have e3 := fun i (hi : i < n) => value_e kg kx kq P Q G x m c l ((i : Nat) : Int) hl (by omega) (by omega) (by omega)
  have hglt : ∀ i : Nat, valN Q l m (i : Int) < 2 ^ 256 := fun i => hrn_lt hOQ _ _ _ _
  have hszz : sz (ctxE Tryz.prog (modEvo 135) w B).P 26 = 4 := gsz_nat
  have e4 := commit_n kg kx kq P Q G x m c l hG2 hl (by omega)
  obtain ⟨f, hf⟩ : ∃ f, comN P G l = f := ⟨_, rfl⟩
  obtain ⟨g, hg⟩ : ∃ g : Nat → Nat, (fun i : Nat => valN Q l m (i : Int)) = g := ⟨_, rfl⟩
  have e3' : ∀ i, i < n → EvC (modEvo 135) Tryz.prog 11 [.s (.v (.pointer (some ⟨kg, 0, none⟩))), .s (.v (.slice x m c)), .s (.v (.int .i64 (i : Int)))] (fun B w => GK kg kx kq P Q G B w ∧ natsAt (modEvo 135) x m l B w) (.agg (nat4 (g i))) := fun i hi => by
    have h := e3 i hi
    rw [← hg]
    exact h
  have hg2 : ∀ i, g i < 2 ^ 256 := fun i => by rw [← hg]; exact hglt i
  rw [hf] at e4
  rw [hf, hg]
  clear e3 hglt hf hg hl
  (repeat' ((first | with_reducible (first | apply XR_append | apply XR_cons | apply XR_consG | apply XR_nil | apply cF_pure3 (by assumption) | apply cF_ev3 (by assumption)) | with_reducible (first | apply gRS (by with_unfolding_all rfl) | apply gR (by with_unfolding_all rfl) | apply gS (by with_unfolding_all rfl) | fail) | refine X_of _ ?_ | with_reducible (first | exact ⟨_, rfl⟩ | refine And.intro ?_ ?_ | intro _)) <;> try simp -implicitDefEqProofs (maxSteps := 1000000) (disch := first | exact dz3 | fail) only [vcR, vcT, simprocAttr, Ab.part, implies_true, forall_const, vcS, vcXHb, Tryz.f9, hw,c1,c2]))
  refine X_loopT (ι := Nat × Nat × List Value) (fun k => k.1 ≤ n ∧ (k.1 ≠ 0 → k.1 ≤ k.2.1 ∧ k.2.2.length = (k.2.1 - k.1) * 4)) (fun k => n - k.1) [7, 9, 31, 32, 33, 34, 35, 36, 37, 38, 39, 40, 41]
    (fun k => [(7, rowS 0 k.1 k.2.1), (31, .s (.v (.int .i64 (k.1 : Nat))))])
    (fun k => rowH 26 k.1 (nats k.1 g) k.2.2) (0, 0, []) ?_ (by decide) ?_ ?_
  · rintro ⟨k, c', sp⟩ ⟨hk, _⟩
    refine ⟨by simp, ?_, Nat.zero_le _, ?_⟩
    · simp only [List.forall_mem_cons]
      refine ⟨rowS_ok fun h0 => ?_, trivial, fun x hx => by simp at hx⟩
      rw [rowH_s h0]; exact Nat.zero_lt_one
    · exact row_okG (nats_ok _)
  · refine ⟨⟨Nat.zero_le _, fun h => absurd rfl h⟩, [], ⟨by decide, rfl⟩, ?_, trivial⟩
    simp -implicitDefEqProofs (maxSteps := 1000000) (disch := first | exact dz3 | fail) only [vcR, vcT, simprocAttr, Ab.part, implies_true, forall_const, vcS, vcXHb, Tryz.f9, renS_cons,renS_nil,ren_v,rowS_0]
    try simp
  · rintro ⟨k, c', sp⟩ us ⟨hk, hrow⟩
    simp only at hk hrow ⊢
    by_cases hki : k < n
    · have e3 := e3' k hki
      have hgk := hg2 k
      clear e3' hg2 e4
      by_cases h0 : k = 0
      · subst h0
        rw [rowH_0]
        have e3z := e3
        rw [show ((0 : Nat) : Int) = 0 from rfl] at e3z
        (repeat' ((first | with_reducible (first | apply XR_append | apply XR_cons | apply XR_consG | apply XR_nil | apply cF_pure3 (by assumption) | apply cF_ev3 (by assumption)) | with_reducible (first | apply gRS (by with_unfolding_all rfl) | apply gR (by with_unfolding_all rfl) | apply gS (by with_unfolding_all rfl) | apply gSB (by with_unfolding_all rfl) | apply gB (by with_unfolding_all rfl) | fail) | refine X_of _ ?_ | with_reducible (first | exact ⟨_, rfl⟩ | refine And.intro ?_ ?_ | intro _)) <;> try simp -implicitDefEqProofs (maxSteps := 1000000) (disch := first | exact dz3 | fail) only [vcR, vcT, simprocAttr, Ab.part, implies_true, forall_const, vcS, vcXHb, Tryz.f9, st_bs,xbs_some,ghz1,gone_set]))
        rw [rowS_0]
        refine xappend_nil_i (gnews_nat hszz rfl) (by decide) (gap_nat _ (by decide)) (by show ¬ (26 = 135); decide) fun tc tsp ht1 ht2 => ?_
        try simp -implicitDefEqProofs (maxSteps := 1000000) (disch := first | exact dz3 | fail) only [vcR, vcT, simprocAttr, Ab.part, implies_true, forall_const, vcS, vcXHb, Tryz.f9]
        rw [hszz] at ht2
        (repeat' ((first | with_reducible (first | apply XR_append | apply XR_cons | apply XR_consG | apply XR_nil | apply cF_pure3 (by assumption) | apply cF_ev3 (by assumption)) | with_reducible (first | apply gRS (by with_unfolding_all rfl) | apply gR (by with_unfolding_all rfl) | apply gS (by with_unfolding_all rfl) | apply gSB (by with_unfolding_all rfl) | apply gB (by with_unfolding_all rfl) | fail) | refine X_of _ ?_ | with_reducible (first | exact ⟨_, rfl⟩ | refine And.intro ?_ ?_ | intro _)) <;> try simp -implicitDefEqProofs (maxSteps := 1000000) (disch := first | exact dz3 | fail) only [vcR, vcT, simprocAttr, Ab.part, implies_true, forall_const, vcS, vcXHb, Tryz.f9]))
        refine ⟨(0 + 1, tc, tsp), by simp; omega, ⟨by simp; omega, fun _ => ⟨ht1, ht2⟩⟩, [1], ⟨by decide, rfl⟩, ?_, ?_⟩
        · have e2 : (rowS 0 (0 + 1) tc).ren (lk [1]) = .s (.sl 1 0 (0 + 1) tc) := by rw [ren_rowS, rowS_s (by omega)]; rfl
          simp -implicitDefEqProofs (maxSteps := 1000000) (disch := first | exact dz3 | fail) only [vcR, vcT, simprocAttr, Ab.part, implies_true, forall_const, vcS, vcXHb, Tryz.f9, renS_cons,renS_nil,ren_v,e2]
          try omega
        · simp only [rowH_s (show 0 + 1 ≠ 0 by omega)]
          refine ⟨?_, trivial⟩
          have h := nats_snoc (n := 0) (l := g)
          rw [nats_zero, List.nil_append] at h
          rw [← h]
          rfl
      · obtain ⟨hkc, hsp⟩ := hrow h0
        rw [rowH_s h0]
        (repeat' ((first | with_reducible (first | apply XR_append | apply XR_cons | apply XR_consG | apply XR_nil | apply cF_pure3 (by assumption) | apply cF_ev3 (by assumption)) | with_reducible (first | apply gRS (by with_unfolding_all rfl) | apply gR (by with_unfolding_all rfl) | apply gS (by with_unfolding_all rfl) | apply gSB (by with_unfolding_all rfl) | apply gB (by with_unfolding_all rfl) | fail) | refine X_of _ ?_ | with_reducible (first | exact ⟨_, rfl⟩ | refine And.intro ?_ ?_ | intro _)) <;> try simp -implicitDefEqProofs (maxSteps := 1000000) (disch := first | exact dz3 | fail) only [vcR, vcT, simprocAttr, Ab.part, implies_true, forall_const, vcS, vcXHb, Tryz.f9, st_bs,xbs_some,ghz1,gone_set]))
        refine xappend_row (cs := nats k g) (sp := sp) (gnews_nat hszz rfl) (fun _ => ⟨rfl, hkc, by rw [hszz]; exact hsp⟩) (by rw [nats_length, hszz] <;> omega) (by rw [nat4_length, hszz]) (gap_nat _ (by omega)) (by rw [nat4_one]; trivial) (by show ¬ (26 = 135); decide) fun j' c'' sp' H' h1 h2 h3 h4 h5 h6 => ?_
        clear h4 h5 h6
        (repeat' ((first | with_reducible (first | apply XR_append | apply XR_cons | apply XR_consG | apply XR_nil | apply cF_pure3 (by assumption) | apply cF_ev3 (by assumption)) | with_reducible (first | apply gRS (by with_unfolding_all rfl) | apply gR (by with_unfolding_all rfl) | apply gS (by with_unfolding_all rfl) | apply gSB (by with_unfolding_all rfl) | apply gB (by with_unfolding_all rfl) | fail) | refine X_of _ ?_ | with_reducible (first | exact ⟨_, rfl⟩ | refine And.intro ?_ ?_ | intro _)) <;> try simp -implicitDefEqProofs (maxSteps := 1000000) (disch := first | exact dz3 | fail) only [vcR, vcT, simprocAttr, Ab.part, implies_true, forall_const, vcS, vcXHb, Tryz.f9]))
        refine ⟨(k + 1, c'', sp'), by simp; omega, ⟨by simp; omega, fun _ => ⟨h1, by rw [hszz] at h2; exact h2⟩⟩, [j'], ⟨by simp, rfl⟩, ?_, ?_⟩
        · have e2 : (rowS 0 (k + 1) c'').ren (lk [j']) = .s (.sl j' 0 (k + 1) c'') := by rw [ren_rowS, rowS_s (by omega)]; rfl
          simp -implicitDefEqProofs (maxSteps := 1000000) (disch := first | exact dz3 | fail) only [vcR, vcT, simprocAttr, Ab.part, implies_true, forall_const, vcS, vcXHb, Tryz.f9, renS_cons,renS_nil,ren_v,e2]
          try omega
        · simp only [rowH_s (show k + 1 ≠ 0 by omega)]
          refine ⟨?_, trivial⟩
          rw [h3, ← nats_snoc (n := k) (l := g)]
    · have : n = k := by omega
      subst this
      have h0 : n ≠ 0 := by omega
      obtain ⟨hkc, hsp⟩ := hrow h0
      clear hki hk e3' hg2 hw c1 c2
      rw [rowH_s h0]
      (repeat' ((first | with_reducible (first | apply XR_append | apply XR_cons | apply XR_consG | apply XR_nil | apply cF_pure3 (by assumption) | apply cF_ev3 (by assumption)) | with_reducible (first | apply gRS (by with_unfolding_all rfl) | apply gR (by with_unfolding_all rfl) | apply gS (by with_unfolding_all rfl) | fail) | refine X_of _ ?_ | with_reducible (first | exact ⟨_, rfl⟩ | refine And.intro ?_ ?_ | intro _)) <;> try simp -implicitDefEqProofs (maxSteps := 1000000) (disch := first | exact dz3 | fail) only [vcR, vcT, simprocAttr, Ab.part, implies_true, forall_const, vcS, vcXHb, Tryz.f9, rowS_s h0]))
      refine xcall_evn (by kernel_rfl) (fun β w' hR => ⟨_, e4, hG w' hR.fr.to, hN w' hR.fr.to⟩) ?_
      rintro _ _ ⟨c1, sp1, hc1, rfl, rfl⟩
      have hm0 : m ≠ 0 := by omega
      rw [rowS_s hm0, rowH_s hm0]
      try simp -implicitDefEqProofs (maxSteps := 1000000) (disch := first | exact dz3 | fail) only [vcR, vcT, simprocAttr, Ab.part, implies_true, forall_const, vcS, vcXHb, Tryz.f9]
      (repeat' ((first | with_reducible (first | apply XR_append | apply XR_cons | apply XR_consG | apply XR_nil | apply cF_pure3 (by assumption) | apply cF_ev3 (by assumption)) | with_reducible (first | apply gRS (by with_unfolding_all rfl) | apply gR (by with_unfolding_all rfl) | apply gS (by with_unfolding_all rfl) | fail) | refine X_of _ ?_ | with_reducible (first | exact ⟨_, rfl⟩ | refine And.intro ?_ ?_ | intro _)) <;> try simp -implicitDefEqProofs (maxSteps := 1000000) (disch := first | exact dz3 | fail) only [vcR, vcT, simprocAttr, Ab.part, implies_true, forall_const, vcS, vcXHb, Tryz.f9]))
      refine ⟨[1, 0], _, _, ⟨c1, sp1, c', sp, hc1 hm0, ⟨hkc, hsp⟩, rfl, rfl⟩, by decide, rfl, ?_, ⟨rfl, rfl, trivial⟩, ?_⟩
      · intro x hx
        simp only [List.mem_cons, List.not_mem_nil, or_false] at hx
        rcases hx with rfl | rfl | rfl
        · exact (by show 0 < 2; decide)
        · exact (by show 1 < 2; decide)
        · trivial
      · have h1 := row_okG (e := 26) (n := m) (sp := sp1) (n0 := 0) (nats_ok (n := m) (l := f) 0)
        have h2 := row_okG (e := 26) (n := n) (sp := sp) (n0 := 0) (nats_ok (n := n) (l := g) 0)
        rw [rowH_s hm0] at h1
        rw [rowH_s h0] at h2
        intro b hb
        simp only [List.mem_cons, List.not_mem_nil, or_false] at hb
        rcases hb with rfl | rfl
        · exact h1 _ (List.mem_singleton.2 rfl)
        · exact h2 _ (List.mem_singleton.2 rfl)
def ph (m : Nat) [NeZero m] (x : Nat) : Fin m := Fin.ofNat m x
section
variable {m : Nat} [NeZero m]
theorem ph_val (x : Nat) : (ph m x).val = x % m := rfl
theorem ph_mod (x : Nat) : ph m (x % m) = ph m x := Fin.ext (Nat.mod_mod x m)
theorem ph_mul (x y : Nat) : ph m (x * y) = ph m x * ph m y := Fin.ext (by rw [Fin.val_mul, ph_val, ph_val, ph_val, ← Nat.mul_mod])
theorem ph_add (x y : Nat) : ph m (x + y) = ph m x + ph m y := Fin.ext (by rw [Fin.val_add, ph_val, ph_val, ph_val, ← Nat.add_mod])
theorem ph_eq {x y : Nat} (h : ph m x = ph m y) : x % m = y % m := congrArg Fin.val h
theorem ph_inj {x y : Nat} (h : ph m x = ph m y) (hx : x < m) (hy : y < m) : x = y := by rw [← Nat.mod_eq_of_lt hx, ← Nat.mod_eq_of_lt hy, ph_eq h]
theorem ph_0 : ph m 0 = 0 := rfl
theorem ph_1 : ph m 1 = 1 := rfl
theorem ph_self : ph m m = 0 := Fin.ext (by rw [ph_val, Nat.mod_self]; rfl)
theorem ph_msub (x y : Nat) : ph m (msub m x y) = ph m x - ph m y := by
  have h : ph m (msub m x y) + ph m y = ph m x := by
    rw [← ph_add]
    refine Fin.ext ?_
    rw [ph_val, ph_val]
    have hp : 0 < m := Nat.pos_of_ne_zero (NeZero.ne m)
    have hy := Nat.mod_lt y hp
    unfold msub
    rw [Nat.mod_add_mod, Nat.add_mod, show (x % m + (m - y % m)) % m = (x % m + (m - y % m)) % m from rfl, ← Nat.add_mod]
    have e : (x % m + (m - y % m) + y) % m = (x % m + (m - y % m) + y % m) % m := cg_add rfl (cg_mod _ _).symm
    rw [e, show x % m + (m - y % m) + y % m = x % m + m by omega, Nat.add_mod_right, Nat.mod_mod]
  rw [← h]
  grind
def Un (x : Fin m) : Prop := ∃ y, x * y = 1
theorem egc_spec (a : Nat) : ∀ (rest last s t : Nat), ph m last = ph m s * ph m a → ph m rest = ph m t * ph m a →
    (egc m last rest s t).1 = Nat.gcd last rest ∧ ph m (egc m last rest s t).1 = ph m (egc m last rest s t).2 * ph m a := by
  intro rest
  induction rest using Nat.strongRecOn with
  | ind rest ih =>
    intro last s t hl hr
    by_cases h0 : rest = 0
    · subst h0
      rw [egc_zero]
      exact ⟨(Nat.gcd_zero_right last).symm, hl⟩
    · rw [egc_step _ _ _ _ _ h0]
      have h1 : ph m (last % rest) = ph m (msub m s (last / rest * t % m)) * ph m a := by
        rw [ph_msub, ph_mod, ph_mul]
        have e : ph m last = ph m rest * ph m (last / rest) + ph m (last % rest) := by
          rw [← ph_mul, ← ph_add, Nat.div_add_mod]
        grind
      obtain ⟨g1, g2⟩ := ih _ (Nat.mod_lt _ (Nat.pos_of_ne_zero h0)) rest t _ hr h1
      refine ⟨?_, g2⟩
      rw [g1, Nat.gcd_comm rest, ← Nat.gcd_rec, Nat.gcd_comm]
theorem inv_spec (a : Nat) : ((invE m a = 0 ∧ Nat.gcd m a = 1) ∧ ph m a * ph m (inv m a) = 1) ∨ (invE m a = 11 ∧ Nat.gcd m a ≠ 1) := by
  obtain ⟨g1, g2⟩ := egc_spec (m := m) a (a % m) m 0 1 (by rw [ph_self, ph_0]; grind) (by rw [ph_mod, ph_1]; grind)
  have hg : (egc m m (a % m) 0 1).1 = Nat.gcd m a := by
    rw [g1, Nat.gcd_comm m (a % m), ← Nat.gcd_rec]
  by_cases h : (egc m m (a % m) 0 1).1 = 1
  · refine .inl ⟨⟨if_pos h, hg ▸ h⟩, ?_⟩
    have hi : inv m a = (egc m m (a % m) 0 1).2 := if_pos h
    rw [h, ph_1] at g2
    rw [hi, g2]
    grind
  · exact .inr ⟨if_neg h, hg ▸ h⟩
theorem un_gcd {a : Nat} (hm : 1 < m) (h : Un (ph m a)) : Nat.gcd m a = 1 := by
  obtain ⟨y, hy⟩ := h
  have h1 : a * y.val % m = 1 := by
    have h2 : (ph m a * y).val = (1 : Fin m).val := congrArg Fin.val hy
    rw [Fin.val_mul, ph_val] at h2
    rw [Nat.mod_mul_mod] at h2
    rw [h2]
    show 1 % m = 1
    exact Nat.mod_eq_of_lt hm
  have hd1 : Nat.gcd m a ∣ a * y.val := Nat.dvd_trans (Nat.gcd_dvd_right m a) (Nat.dvd_mul_right a y.val)
  have hd2 : Nat.gcd m a ∣ a * y.val % m := (Nat.dvd_mod_iff (Nat.gcd_dvd_left m a)).2 hd1
  rw [h1] at hd2
  exact Nat.dvd_one.1 hd2
theorem inv_0 {a : Nat} (hm : 1 < m) : invE m a = 0 ↔ Un (ph m a) := by
  rcases inv_spec (m := m) a with ⟨⟨h, _⟩, h2⟩ | ⟨h, h2⟩
  · exact ⟨fun _ => ⟨_, h2⟩, fun _ => h⟩
  · rw [h]
    exact ⟨fun h => absurd h (by decide), fun hu => absurd (un_gcd hm hu) h2⟩
theorem inv_11 {a : Nat} (h : invE m a ≠ 0) : invE m a = 11 := by
  rcases inv_spec (m := m) a with ⟨⟨h', _⟩, _⟩ | ⟨h', _⟩
  · exact absurd h' h
  · exact h'
theorem inv_mul {a : Nat} (h : invE m a = 0) : ph m a * ph m (inv m a) = 1 := by
  rcases inv_spec (m := m) a with ⟨_, h2⟩ | ⟨h', _⟩
  · exact h2
  · rw [h] at h'; cases h'
theorem Un.mul {x y : Fin m} (h : Un x) (h' : Un y) : Un (x * y) := by
  obtain ⟨a, ha⟩ := h
  obtain ⟨b, hb⟩ := h'
  exact ⟨a * b, by grind⟩
theorem Un.left {x y : Fin m} (h : Un (x * y)) : Un x := by
  obtain ⟨a, ha⟩ := h
  exact ⟨y * a, by grind⟩
theorem Un.right {x y : Fin m} (h : Un (x * y)) : Un y := by
  obtain ⟨a, ha⟩ := h
  exact ⟨x * a, by grind⟩
theorem un_one : Un (1 : Fin m) := ⟨1, by grind⟩
def vv (m : Nat) [NeZero m] (l : Nat → Nat) (i k : Nat) : Fin m := ph m (inv m (msub m (l k) (l i)))
def rr (m : Nat) [NeZero m] (l : Nat → Nat) (i k : Nat) : Fin m := ph m (l k) * vv m l i k
theorem up_fW (l : Nat → Nat) (i : Nat) : ∀ k, ph m (upN m l i k) = fW (fun _ k => ph m (l k)) i k
  | 0 => rfl
  | k + 1 => by
    show ph m (ite _ _ _) = ite _ _ _
    split
    · exact up_fW l i k
    · rw [ph_mod, ph_mul, up_fW l i k]
theorem dn_fW (l : Nat → Nat) (i : Nat) : ∀ k, ph m (dnN m l i k) = fW (fun i k => ph m (l k) - ph m (l i)) i k
  | 0 => rfl
  | k + 1 => by
    show ph m (ite _ _ _) = ite _ _ _
    split
    · exact dn_fW l i k
    · rw [ph_mod, ph_mul, dn_fW l i k, ph_msub]
theorem fW_un (r : Nat → Nat → Fin m) (i : Nat) : ∀ n, Un (fW r i n) ↔ ∀ k, k < n → k ≠ i → Un (r i k)
  | 0 => ⟨fun _ k h => absurd h (Nat.not_lt_zero k), fun _ => un_one⟩
  | n + 1 => by
    have ih := fW_un r i n
    show Un (ite _ _ _) ↔ _
    split
    · rename_i h
      rw [ih]
      exact ⟨fun H k hk hki => H k (by omega) hki, fun H k hk hki => H k (by omega) hki⟩
    · rename_i h
      refine ⟨fun H k hk hki => ?_, fun H => Un.mul (ih.2 fun k hk hki => H k (by omega) hki) (H n (by omega) h)⟩
      by_cases h2 : k = n
      · subst h2; exact H.right
      · exact ih.1 H.left k (by omega) hki
theorem fW_mul (r s : Nat → Nat → Fin m) (i : Nat) : ∀ n, fW r i n * fW s i n = fW (fun i k => r i k * s i k) i n
  | 0 => by show (1 : Fin m) * 1 = 1; grind
  | n + 1 => by
    have ih := fW_mul r s i n
    show (ite _ _ _) * (ite _ _ _) = ite _ _ _
    split
    · exact ih
    · rw [← ih]; grind
theorem fW_one {r : Nat → Nat → Fin m} {i : Nat} : ∀ n, (∀ k, k < n → k ≠ i → r i k = 1) → fW r i n = 1
  | 0, _ => rfl
  | n + 1, h => by
    have ih := fW_one n fun k hk => h k (by omega)
    show (ite _ _ _) = (1 : Fin m)
    split
    · exact ih
    · rename_i h2
      rw [ih, h n (by omega) h2]; grind
theorem wgE_0 (hm : 1 < m) (l : Nat → Nat) (n i : Nat) : wgE m l n i = 0 ↔ ∀ k, k < n → k ≠ i → invE m (msub m (l k) (l i)) = 0 := by
  unfold wgE
  rw [inv_0 hm, dn_fW, fW_un]
  refine ⟨fun H k hk hki => ?_, fun H k hk hki => ?_⟩
  · rw [inv_0 hm, ph_msub]; exact H k hk hki
  · have := H k hk hki
    rw [inv_0 hm, ph_msub] at this; exact this
theorem wgt_fW (hm : 1 < m) (l : Nat → Nat) (n i : Nat) (h : wgE m l n i = 0) : ph m (wgt m l n i) = fW (rr m l) i n := by
  have h1 := (wgE_0 hm l n i).1 h
  have h2 : ph m (dnN m l i n) * ph m (inv m (dnN m l i n)) = 1 := inv_mul h
  have h3 : ph m (dnN m l i n) * fW (vv m l) i n = 1 := by
    rw [dn_fW, fW_mul]
    refine fW_one n fun k hk hki => ?_
    have h4 := inv_mul (h1 k hk hki)
    rw [ph_msub] at h4
    exact h4
  have h5 : ph m (inv m (dnN m l i n)) = fW (vv m l) i n := by grind
  unfold wgt
  rw [ph_mod, ph_mul, up_fW, h5, fW_mul]
  rfl
theorem wE_all (l : Nat → Nat) (n : Nat) : ∀ k, (wE m l n k = 0 ↔ ∀ i, i < k → wgE m l n i = 0) ∧ (wE m l n k = 0 ∨ wE m l n k = 11)
  | 0 => ⟨⟨fun _ k h => absurd h (Nat.not_lt_zero k), fun _ => rfl⟩, .inl rfl⟩
  | k + 1 => by
    obtain ⟨ih, iv⟩ := wE_all l n k
    show (ite _ _ _ = (0 : Int) ↔ _) ∧ (ite _ _ _ = (0 : Int) ∨ ite _ _ _ = (11 : Int))
    split
    · rename_i h0
      refine ⟨⟨fun H i hi => ?_, fun H => H k (by omega)⟩, ?_⟩
      · by_cases h2 : i = k
        · subst h2; exact H
        · exact ih.1 h0 i (by omega)
      · by_cases h2 : wgE m l n k = 0
        · exact .inl h2
        · exact .inr (inv_11 h2)
    · rename_i h0
      exact ⟨⟨fun H => absurd H h0, fun H => ih.2 fun i hi => H i (by omega)⟩, .inr (iv.resolve_left h0)⟩
end
/-! Tryz# Turned about -/
theorem sm1_iff {m : Nat} (l : Nat → Nat) (a : Nat) : ∀ n, sm1 m l a n = true ↔ ∃ j, j < n ∧ msub m a (l j) = 0
  | 0 => by show false = true ↔ _; simp
  | n + 1 => by
    show (sm1 m l a n || decide (msub m a (l n) = 0)) = true ↔ _
    rw [Bool.or_eq_true, sm1_iff l a n, decide_eq_true_eq]
    constructor
    · rintro (⟨j, h1, h2⟩ | h)
      · exact ⟨j, by omega, h2⟩
      · exact ⟨n, by omega, h⟩
    · rintro ⟨j, h1, h2⟩
      by_cases h : j = n
      · subst h; exact .inr h2
      · exact .inl ⟨j, by omega, h2⟩
theorem sm_iff {m : Nat} (l : Nat → Nat) : ∀ n, sm m l n = true ↔ ∃ i, i < n ∧ ∃ j, j < i ∧ msub m (l i) (l j) = 0
  | 0 => by show false = true ↔ _; simp
  | n + 1 => by
    show (sm m l n || sm1 m l (l n) n) = true ↔ _
    rw [Bool.or_eq_true, sm_iff l n, sm1_iff]
    constructor
    · rintro (⟨i, h1, h2⟩ | h)
      · exact ⟨i, by omega, h2⟩
      · exact ⟨n, by omega, h⟩
    · rintro ⟨i, h1, h2⟩
      by_cases h : i = n
      · subst h; exact .inr h2
      · exact .inl ⟨i, by omega, h2⟩
section
variable {m : Nat} [NeZero m]
theorem sF_front {g : Nat → Fin m} : ∀ {n : Nat}, sF g (n + 1) = g 0 + sF (fun i => g (i + 1)) n
  | 0 => by show (0 : Fin m) + g 0 = g 0 + 0; grind
  | n + 1 => by
    have h := sF_front (g := g) (n := n)
    show sF g (n + 1) + g (n + 1) = g 0 + (sF (fun i => g (i + 1)) n + g (n + 1))
    rw [h]; grind
theorem sumM_ph (l : Nat → Nat) : ∀ n, ph m (sumM m l n) = sF (fun i => ph m (l i)) n
  | 0 => rfl
  | n + 1 => by show ph m ((sumM m l n + l n) % m) = _ + _; rw [ph_mod, ph_add, sumM_ph l n]
theorem sumM_m (l : Nat → Nat) : ∀ n, sumM m l n < m
  | 0 => Nat.pos_of_ne_zero (NeZero.ne m)
  | n + 1 => Nat.mod_lt _ (Nat.pos_of_ne_zero (NeZero.ne m))
theorem hrn_step (l : Nat → Nat) (n a i : Nat) : ph m (hrn m l n a (i + 1)) = ph m (hrn m l n a i) * ph m a + ph m (l (n - 1 - i)) := by
  show ph m (((0 + hrn m l n a i * a % m) % m + l (n - 1 - i)) % m) = _
  rw [ph_mod, ph_add, ph_mod, Nat.zero_add, ph_mod, ph_mul]
theorem hrn_m (l : Nat → Nat) (n a : Nat) : ∀ i, hrn m l n a i < m
  | 0 => Nat.pos_of_ne_zero (NeZero.ne m)
  | i + 1 => sumM_m _ 2
theorem hrn_ph (l : Nat → Nat) (n a : Nat) : ∀ i, i ≤ n → ph m (hrn m l n a i) = sF (fun j => ph m (l (n - i + j)) * pw (ph m a) j) i
  | 0, _ => rfl
  | i + 1, h => by
    rw [hrn_step, hrn_ph l n a i (by omega), sF_front, ← sF_mul]
    have e : sF (fun j => ph m (l (n - i + j)) * pw (ph m a) j * ph m a) i = sF (fun j => ph m (l (n - (i + 1) + (j + 1))) * pw (ph m a) (j + 1)) i := sF_congr fun j hj => by
      rw [show n - (i + 1) + (j + 1) = n - i + j by omega]
      show _ = _ * (pw (ph m a) j * ph m a)
      grind
    rw [e, show n - (i + 1) + 0 = n - 1 - i by omega]
    show _ = ph m (l (n - 1 - i)) * 1 + _
    grind
theorem hrn_all (l : Nat → Nat) (n a : Nat) : ph m (hrn m l n a n) = sF (fun j => ph m (l j) * pw (ph m a) j) n := by
  rw [hrn_ph l n a n (Nat.le_refl n)]
  exact sF_congr fun j _ => by rw [Nat.sub_self, Nat.zero_add]
theorem apart_of (hm : 1 < m) (l : Nat → Nat) (n : Nat) (h : WE m l n = 0) : (∀ i, i < n → wgE m l n i = 0) ∧ ∀ i k, i < n → k < n → i ≠ k → (ph m (l k) - ph m (l i)) * vv m l i k = 1 := by
  have h1 : wE m l n n = 0 := by
    unfold WE at h
    split at h
    · cases h
    · exact h
  have h2 := (wE_all l n n).1.1 h1
  refine ⟨h2, fun i k hi hk hik => ?_⟩
  have h3 := inv_mul ((wgE_0 hm l n i).1 (h2 i hi) k hk (Ne.symm hik))
  rw [ph_msub] at h3
  exact h3
theorem tells_law (hm : 1 < m) (p c : Nat → Nat) (n d : Nat) (hd : d ≤ n) (hp : ∀ i, i < n → py p i = hrn m c d (px p i) d) (h : WE m (px p) n = 0) : atz m p n = if d = 0 then 0 else (c 0 + 0) % m := by
  obtain ⟨h1, h2⟩ := apart_of hm (px p) n h
  rw [atz_0 h]
  refine ph_inj ?_ (sumM_m _ n) (by split; omega; exact Nat.mod_lt _ (by omega))
  rw [sumM_ph]
  have e : sF (fun i => ph m (prt m p n i)) n = sF (fun i => sF (fun j => (fun j => ph m (c j)) j * pw ((fun k => ph m (px p k)) i) j) d * fW (rr m (px p)) i n) n := sF_congr fun i hi => by
    show ph m (py p i * wgt m (px p) n i % m) = _
    rw [ph_mod, ph_mul, wgt_fW hm _ n i (h1 i hi), hp i hi, hrn_all]
  rw [e]
  refine (at_zero (X := fun k => ph m (px p k)) (v := vv m (px p)) h2 (fun j => ph m (c j)) d hd).trans ?_
  by_cases h0 : d = 0
  · rw [if_pos h0, if_pos h0]; rfl
  · rw [if_neg h0, if_neg h0, ph_mod, Nat.add_zero]
end
/-! Tryz# A share is right just if it is the polynomial's value -/
def sumE (l e : Nat → Nat) : Nat → Nat
  | 0 => 0
  | n + 1 => sumE l e n + l n * e n
theorem prd_com {P G : Nat} {l e : Nat → Nat} : ∀ n, prdN (comN P G l) e n % P = G ^ sumE l e n % P
  | 0 => rfl
  | n + 1 => by
    show prdN (comN P G l) e n * comN P G l n ^ e n % P = G ^ (sumE l e n + l n * e n) % P
    have h1 : comN P G l n ^ e n % P = G ^ (l n * e n) % P := by
      show (G ^ l n % P) ^ e n % P = _
      rw [← Nat.pow_mod, ← Nat.pow_mul]
    rw [Nat.mul_mod, prd_com n, h1, ← Nat.mul_mod, ← Nat.pow_add]
section
variable {Q : Nat} [NeZero Q]
theorem pwN_ph (a : Nat) : ∀ i, ph Q (pwN Q a i) = pw (ph Q a) i
  | 0 => ph_1
  | i + 1 => by
    show ph Q (pwN Q a i * a % Q) = pw (ph Q a) i * ph Q a
    rw [ph_mod, ph_mul, pwN_ph a i]
theorem sumE_ph (l : Nat → Nat) (a : Nat) : ∀ n, ph Q (sumE l (pwN Q a) n) = sF (fun j => ph Q (l j) * pw (ph Q a) j) n
  | 0 => ph_0
  | n + 1 => by
    show ph Q (sumE l (pwN Q a) n + l n * pwN Q a n) = sF (fun j => ph Q (l j) * pw (ph Q a) j) n + ph Q (l n) * pw (ph Q a) n
    rw [ph_add, ph_mul, pwN_ph, sumE_ph l a n]
theorem sumE_hrn (l : Nat → Nat) (a n : Nat) : sumE l (pwN Q a) n % Q = hrn Q l n a n := by
  refine ph_inj ?_ (Nat.mod_lt _ (Nat.pos_of_ne_zero (NeZero.ne Q))) (hrn_m l n a n)
  rw [ph_mod, sumE_ph, hrn_all]
theorem valN_m (l : Nat → Nat) (n : Nat) (s : Int) : valN Q l n s < Q := hrn_m l n _ n
end
section
variable {P Q : Nat}
theorem com_mul (hok : SmOk P Q) {l : Nat → Nat} {n : Nat} {s : Int} : mulS P (comN P 4 l) (pwN Q (placeN s)) n = 4 ^ valN Q l n s % P := by
  obtain ⟨h1, h2, h3, h4, h5, h6, h7⟩ := hok.gr
  have : NeZero Q := ⟨by have := h2.pos; omega⟩
  rw [mulS_prd (by omega), prd_com, ← pow_modQ (by omega) h7, sumE_hrn]
  rfl
theorem r1B_ok {n : Nat} {s : Int} (hn1 : 1 ≤ n) (hn : n ≤ 20) (h0 : 0 ≤ s) (h1 : s < 40) (h2 : placeN s < Q) : r1B Q n s = true := by
  unfold r1B
  rw [decide_eq_true hn1, decide_eq_true hn, decide_eq_true h0, decide_eq_true h1, decide_eq_true h2]
  rfl
theorem binds_law (hok : SmOk P Q) {l c : Nat → Nat} {n a : Nat} {s : Int} (hc : ∀ i, i < n → c i = comN P 4 l i) (hn1 : 1 ≤ n) (hn : n ≤ 20) (h0 : 0 ≤ s) (h1 : s < 40) (h2 : placeN s < Q) : rightE P Q 4 n c s a = if valN Q l n s = a then 0 else 40 := by
  obtain ⟨g1, g2, g3, g4, g5, g6, g7⟩ := hok.gr
  have hQ : NeZero Q := ⟨by have := g2.pos; omega⟩
  have hall : allM P Q n c = true := allM_iff.2 fun i hi => by rw [hc i hi]; exact mem_pow (by omega) g2.pos g7
  have hmul : mulS P c (pwN Q (placeN s)) n = 4 ^ valN Q l n s % P := by
    rw [← com_mul hok, mulS_prd (by omega), mulS_prd (by omega), prdN_congr fun i hi => ⟨hc i hi, rfl⟩]
  unfold rightE
  rw [if_pos (r1B_ok hn1 hn h0 h1 h2)]
  unfold r2E
  rw [if_pos (muS_ok (by omega) hall)]
  have hb : r2B P Q 4 n c s a = decide (valN Q l n s = a) := by
    unfold r2B
    rw [muV_ok (by omega) hall, hmul]
    have hv := valN_m (Q := Q) l n s
    obtain ⟨v, hv2⟩ : ∃ v, valN Q l n s = v := ⟨_, rfl⟩
    rw [hv2] at hv ⊢
    by_cases ha : a < Q
    · rw [decide_eq_true ha, Bool.true_and, few_inj (by omega) g7 hok.few ha hv]
      congr 1
      exact propext eq_comm
    · rw [decide_eq_false ha, Bool.false_and, decide_eq_false (by omega)]
  rw [hb]
  by_cases h : valN Q l n s = a
  · rw [decide_eq_true h, if_pos h]; rfl
  · rw [decide_eq_false h, if_neg h]; rfl
/-! Tryz# One coefficient -/
/-! Tryz# Turned about -/
theorem rcF_iff {f : Nat → Int} : ∀ {n}, rcF f n = 0 ↔ ∀ i, i < n → f i = 0
  | 0 => ⟨fun _ i hi => absurd hi (Nat.not_lt_zero i), fun _ => rfl⟩
  | n + 1 => by
    show (if rcF f n ≠ 0 then rcF f n else f n) = 0 ↔ _
    constructor
    · intro h i hi
      by_cases h1 : rcF f n ≠ 0
      · rw [if_pos h1] at h
        exact absurd h h1
      · rw [if_neg h1] at h
        by_cases hin : i = n
        · subst hin; exact h
        · exact rcF_iff.1 (Decidable.not_not.1 h1) i (by omega)
    · intro h
      rw [if_neg (Decidable.not_not.2 (rcF_iff.2 fun i hi => h i (by omega))), h n (by omega)]
theorem keysI_mem {S : Nat → Int} {x : Int} : ∀ {n}, x ∈ keysI S n ↔ ∃ i, i < n ∧ S i = x
  | 0 => by
    show x ∈ [] ↔ _
    simp
  | n + 1 => by
    show x ∈ insI (keysI S n) (S n) ↔ _
    unfold insI
    split
    · rename_i h
      rw [keysI_mem]
      constructor
      · rintro ⟨i, hi, h1⟩; exact ⟨i, by omega, h1⟩
      · rintro ⟨i, hi, h1⟩
        by_cases hin : i = n
        · subst hin
          rw [h1] at h
          exact keysI_mem.1 h
        · exact ⟨i, by omega, h1⟩
    · rw [List.mem_append, keysI_mem, List.mem_singleton]
      constructor
      · rintro (⟨i, hi, h1⟩ | h1)
        · exact ⟨i, by omega, h1⟩
        · exact ⟨n, by omega, h1.symm⟩
      · rintro ⟨i, hi, h1⟩
        by_cases hin : i = n
        · subst hin; exact .inr h1.symm
        · exact .inl ⟨i, by omega, h1⟩
theorem keysI_le {S : Nat → Int} : ∀ n, (keysI S n).length ≤ n
  | 0 => Nat.le_refl _
  | n + 1 => by
    have h := keysI_le (S := S) n
    show (insI (keysI S n) (S n)).length ≤ n + 1
    unfold insI
    split
    · omega
    · rw [List.length_append]; show _ + 1 ≤ _; omega
theorem keysI_lt {S : Nat → Int} : ∀ {n}, (keysI S n).length < n ↔ ∃ i j, i < j ∧ j < n ∧ S i = S j
  | 0 => by
    constructor
    · intro h; exact absurd h (Nat.not_lt_zero _)
    · rintro ⟨i, j, _, h, _⟩; omega
  | n + 1 => by
    have hle := keysI_le (S := S) n
    show (insI (keysI S n) (S n)).length < n + 1 ↔ _
    unfold insI
    split
    · rename_i h
      constructor
      · intro _
        obtain ⟨i, hi, h1⟩ := keysI_mem.1 h
        exact ⟨i, n, hi, by omega, h1⟩
      · intro _; omega
    · rename_i h
      rw [List.length_append]
      show _ + 1 < n + 1 ↔ _
      rw [Nat.succ_lt_succ_iff, keysI_lt]
      constructor
      · rintro ⟨i, j, h1, h2, h3⟩; exact ⟨i, j, h1, by omega, h3⟩
      · rintro ⟨i, j, h1, h2, h3⟩
        by_cases hjn : j = n
        · subst hjn
          exact absurd (keysI_mem.2 ⟨i, h1, h3⟩) h
        · exact ⟨i, j, h1, by omega, h3⟩
theorem px_pl {S : Nat → Int} {A : Nat → Nat} {i : Nat} : px (pl S A) i = placeN (S i) := by
  unfold px pl
  rw [if_pos (by omega), show 2 * i / 2 = i by omega]
theorem py_pl {S : Nat → Int} {A : Nat → Nat} {i : Nat} : py (pl S A) i = A i := by
  unfold py pl
  rw [if_neg (by omega), show (2 * i + 1) / 2 = i by omega]
end
section
variable {Γ : Ctx} {H : Heap} {K : TV → Heap → Prop} {P Q : Nat}
theorem yF_lsmall {z : Int} {N : Nat} (h : NewG Tryz.prog 8 [.s (.v (.int .i64 z))] gv (SmG P Q)) (hgv : Kn Γ fun _ w => gv w) (hP : Γ.P = Tryz.prog) (hev : ∀ t, ¬ Γ.ev.TM t) (hN : H.length = N)
    (hK : ∀ bx bq, K (.s (.p N 0)) (H ++ [⟨100, grpc P Q 4 (.p (N + 1) 0) (.p (N + 2) 0)⟩, ⟨135, modS P bx⟩, ⟨135, modS Q bq⟩])) : xcallF Γ H 8 [.s (.v (.int .i64 z))] K := by
  subst hN
  refine yF_newG (P := Tryz.prog) (fun β w hR => ⟨_, h, hgv w hR.fr.to⟩) hP (by kernel_rfl) hev ?_
  rintro _ H1 ⟨bx, bq, rfl, rfl⟩
  have h1 := hK bx bq
  have e : TV.ren (· + H.length) (.s (.p 0 0)) = .s (.p (0 + H.length) 0) := rfl
  rw [e, Nat.zero_add]
  have e2 : List.map (AB.ren (· + H.length)) [⟨100, grpc P Q 4 (.p 1 0) (.p 2 0)⟩, ⟨135, modS P bx⟩, ⟨135, modS Q bq⟩] = [⟨100, grpc P Q 4 (.p (H.length + 1) 0) (.p (H.length + 2) 0)⟩, ⟨135, modS P bx⟩, ⟨135, modS Q bq⟩] := by
    have e3 : 1 + H.length = H.length + 1 := by omega
    have e4 : 2 + H.length = H.length + 2 := by omega
    simp only [List.map_cons, List.map_nil, abren_mk, ren_grpc]
    simp only [SV.ren, e3, e4]
    have e5 : ∀ (ρ : Nat → Nat) (m : Nat) (b : Bool), (modS m b).map (SV.ren ρ) = modS m b := fun ρ m b => SV.rens_ok0 modS_ok
    rw [e5, e5]
  rw [e2]
  exact h1
end
theorem smQ_10 (z : Int) : 10 < smQ z := by
  unfold smQ
  split
  · decide
  · split
    · decide
    · split <;> decide
/-! Tryz# Pieces of ours -/
def pcs (n : Nat) (S : Nat → Int) (A : Nat → Nat) : List SV := (List.range (5 * n)).map fun j => .v (pcsG S A j)
theorem pcs_length {n : Nat} {S : Nat → Int} {A : Nat → Nat} : (pcs n S A).length = 5 * n := by simp [pcs]
theorem pcs_get {n i : Nat} {S : Nat → Int} {A : Nat → Nat} (h : i < 5 * n) : (pcs n S A)[i]? = some (.v (pcsG S A i)) := by
  unfold pcs
  rw [List.getElem?_map, List.getElem?_range h]
  rfl
theorem pcs_ok {n : Nat} {S : Nat → Int} {A : Nat → Nat} (m : Nat) : ∀ x ∈ pcs n S A, x.ok m := fun x hx => by
  obtain ⟨j, _, rfl⟩ := List.mem_map.1 hx
  trivial
theorem pcs_snoc {n : Nat} {S : Nat → Int} {A : Nat → Nat} : pcs n S A ++ pieceC (S n) (A n) = pcs (n + 1) S A := by
  unfold pcs
  rw [show 5 * (n + 1) = 5 * n + 5 by omega, List.range_add, List.map_append, ← map_pcsG, List.map_map]
  congr 1
  exact List.map_congr_left fun j _ => by rw [Function.comp_apply, Nat.mul_comm 5 n]
theorem pcsAt_own {Γ : Ctx} {T0 B n : Nat} {S : Nat → Int} {A : Nat → Nat} {sp : List SV} {e : Nat} {H : Heap} {β : Nat → Nat} {w : World} {j : Nat} (hR : Rep Γ H β w) (hb : H[j]? = some ⟨e, pcs n S A ++ sp⟩) (he : e ≠ T0) : pcsAt (modEvo T0) (some ⟨β j, 0, none⟩) n S A B w := by
  refine .inr ⟨_, rfl, rfl, _, _, _, hR.blk β (.refl _ _) j _ hb, .inr he, fun i hi => ?_⟩
  simp only [AB.conc, List.getElem?_toArray, List.getElem?_map, Nat.zero_add]
  rw [List.getElem?_append_left (by rw [pcs_length]; exact hi), pcs_get hi]
  rfl
theorem pcsAt_own0 {Γ : Ctx} {T0 B n : Nat} {S : Nat → Int} {A : Nat → Nat} {e : Nat} {H : Heap} {β : Nat → Nat} {w : World} {j : Nat} (hR : Rep Γ H β w) (hb : H[j]? = some ⟨e, pcs n S A⟩) (he : e ≠ T0) : pcsAt (modEvo T0) (some ⟨β j, 0, none⟩) n S A B w :=
  pcsAt_own (sp := []) hR (by rw [List.append_nil]; exact hb) he
theorem natsAt_congr {V : Evo} {x : Option Addr} {n B : Nat} {l l' : Nat → Nat} {w : World} (h : natsAt V x n l B w) (hl : ∀ i, i < n → l i = l' i) : natsAt V x n l' B w := by
  rcases h with h | ⟨ad, hx, hs, c, t, f, hk, ht, hc⟩
  · exact .inl h
  · refine .inr ⟨ad, hx, hs, c, t, f, hk, ht, fun i hi => ?_⟩
    rw [hc i hi]
    unfold natsG
    rw [hl (i / 4) (by omega)]
def twoI (a b : Int) (i : Nat) : Int := if i = 0 then a else b
theorem piece_b0 {s : Int} {a : Nat} : setAt [.v (.int .i64 s), .v (.int .u64 0), .v (.int .u64 0), .v (.int .u64 0), .v (.int .u64 0)] 1 (nat4 a) = pieceC s a := rfl
theorem piece_l0 {s : Int} : ([.v (.int .i64 s), .v (.int .u64 0), .v (.int .u64 0), .v (.int .u64 0), .v (.int .u64 0)] : List SV).length = 5 := rfl
def zpc1 : List SV := [.v (.int .i64 0), .v (.int .u64 0), .v (.int .u64 0), .v (.int .u64 0), .v (.int .u64 0)]
theorem gzpc1 : slice0 Tryz.prog 45 1 = some zpc1 := by kernel_rfl
theorem zpc1_len : zpc1.length = 5 := rfl
def zpc2 : List SV := zpc1 ++ zpc1
theorem gzpc2 : slice0 Tryz.prog 45 2 = some zpc2 := by kernel_rfl
theorem zpc2_len : zpc2.length = 10 := rfl
theorem zpc2_set (s : Int) (a : Nat) : (setAt zpc2 0 (pieceC s a)).length = 10 := rfl
theorem two_pc (s t : Int) (a b : Nat) : setAt (setAt zpc2 0 (pieceC s a)) 5 (pieceC t b) = pcs 2 (twoI s t) (two a b) := by kernel_rfl
def three (a b c : Nat) (i : Nat) : Nat := if i = 0 then a else if i = 1 then b else c
theorem gz2n : slice0 Tryz.prog 26 2 = some (arr 8 fun _ => 0) := by kernel_rfl
theorem gz3n : slice0 Tryz.prog 26 3 = some (arr 12 fun _ => 0) := by kernel_rfl
theorem two_set (a b : Nat) : setAt (setAt (arr 8 fun _ => 0) 0 (nat4 a)) 4 (nat4 b) = nats 2 (two a b) := by kernel_rfl
theorem two_len (a : Nat) : (setAt (arr 8 fun _ => 0) 0 (nat4 a)).length = 8 := rfl
theorem three_set (a b c : Nat) : setAt (setAt (setAt (arr 12 fun _ => 0) 0 (nat4 a)) 4 (nat4 b)) 8 (nat4 c) = nats 3 (three a b c) := by kernel_rfl
theorem three_len (a : Nat) : (setAt (arr 12 fun _ => 0) 0 (nat4 a)).length = 12 := rfl
theorem three_len2 (a b : Nat) : (setAt (setAt (arr 12 fun _ => 0) 0 (nat4 a)) 4 (nat4 b)).length = 12 := rfl
theorem ex_com : ∀ i, i < 2 → comN 23 4 (two 3 2) i = two 18 16 i := by decide
theorem ex_val : ∀ i, i < 3 → valN 11 (two 3 2) 2 (i : Nat) = three 5 7 9 i := by decide
theorem ex_r1 : rightE 23 11 4 2 (comN 23 4 (two 3 2)) 1 7 = 0 := by
  rw [binds_law (P := 23) (Q := 11) (sm_ok 0) (l := two 3 2) (fun i _ => rfl) (by decide) (by decide) (by decide) (by decide) (by decide)]
  decide
theorem ex_r2 : rightE 23 11 4 2 (comN 23 4 (two 3 2)) 1 8 = 40 := by
  rw [binds_law (P := 23) (Q := 11) (sm_ok 0) (l := two 3 2) (fun i _ => rfl) (by decide) (by decide) (by decide) (by decide) (by decide)]
  decide
theorem ex_right : ∀ i, i < 2 → rightE 23 11 4 2 (comN 23 4 (two 3 2)) (twoI 0 2 i) (two 5 9 i) = 0 := fun i hi => by
  have h := binds_law (P := 23) (Q := 11) (sm_ok 0) (l := two 3 2) (c := comN 23 4 (two 3 2)) (n := 2) (a := two 5 9 i) (s := twoI 0 2 i) (fun i _ => rfl) (by decide) (by decide) (by unfold twoI; split <;> decide) (by unfold twoI; split <;> decide) (by unfold twoI; split <;> decide)
  rw [h, if_pos]
  rcases i with _ | _ | i
  · decide
  · decide
  · omega
theorem ex_un : ∀ i k, i < 2 → k < 2 → k ≠ i → invE 11 (msub 11 (px (pl (twoI 0 2) (two 5 9)) k) (px (pl (twoI 0 2) (two 5 9)) i)) = 0 := fun i k hi hk hik => by
  rw [inv_0 (by decide)]
  rcases i with _ | _ | i
  · rcases k with _ | _ | k
    · exact absurd rfl hik
    · exact ⟨6, by decide⟩
    · omega
  · rcases k with _ | _ | k
    · exact ⟨5, by decide⟩
    · exact absurd rfl hik
    · omega
  · omega
theorem ex_WE : WE 11 (px (pl (twoI 0 2) (two 5 9))) 2 = 0 := by
  unfold WE
  rw [show sm 11 (px (pl (twoI 0 2) (two 5 9))) 2 = false by decide, if_neg (by decide)]
  exact (wE_all (m := 11) _ 2 2).1.2 fun i hi => (wgE_0 (by decide) _ 2 i).2 fun k hk hki => ex_un i k hi hk hki
theorem ex_rec : recE 23 11 4 2 (comN 23 4 (two 3 2)) 2 (twoI 0 2) (two 5 9) = 0 ∧ recV 23 11 4 2 (comN 23 4 (two 3 2)) 2 (twoI 0 2) (two 5 9) = 3 := by
  have hf : rcF (fun i => rightE 23 11 4 2 (comN 23 4 (two 3 2)) (twoI 0 2 i) (two 5 9 i)) 2 = 0 := rcF_iff.2 fun i hi => ex_right i hi
  have hk : ¬ (keysI (twoI 0 2) 2).length < 2 := by decide
  unfold recE recV
  simp only [hf]
  rw [if_neg (show ¬ ((0 : Int) ≠ 0) from fun h => h rfl), if_neg (show ¬ ((0 : Int) ≠ 0) from fun h => h rfl), if_neg hk, if_neg hk, if_neg (by decide), if_neg (by decide)]
  refine ⟨ex_WE, ?_⟩
  rw [tells_law (m := 11) (by decide) (pl (twoI 0 2) (two 5 9)) (two 3 2) 2 2 (Nat.le_refl 2) (fun i hi => ?_) ex_WE]
  · decide
  · rcases i with _ | _ | i
    · decide
    · decide
    · omega
theorem shawake_m : PureM Tryz.prog 6 [] gv (.s (.v (.bool true))) := by
  obtain ⟨hE, hV⟩ := ex_rec
  have hsm : NewG Tryz.prog 8 [.s (.v (.int .i64 0))] gv (SmG 23 11) := lsmall_g 0
  have hok : SmOk 23 11 := sm_ok 0
  (refine pureM_of Tryz.func6 rfl (by simp only [List.length_cons, List.length_nil, List.map_cons, List.map_nil, List.nodup_cons, List.nodup_nil, List.mem_cons, Nat.reduceAdd, Nat.reduceEqDiff, or_false, not_false_eq_true, forall_eq_or_imp, forall_eq, or_self, Nat.reduceLT, Nat.reduceLeDiff, and_self, List.forall_mem_cons, List.not_mem_nil, false_implies, implies_true, and_true, true_and, vcOHb]) (by simp only [List.length_cons, List.length_nil, List.map_cons, List.map_nil, List.nodup_cons, List.nodup_nil, List.mem_cons, Nat.reduceAdd, Nat.reduceEqDiff, or_false, not_false_eq_true, forall_eq_or_imp, forall_eq, or_self, Nat.reduceLT, Nat.reduceLeDiff, and_self, List.forall_mem_cons, List.not_mem_nil, false_implies, implies_true, and_true, true_and, vcOHb]) fun w hpre => ?_; simp only [List.length_cons, List.length_nil, Tryz.ntmps6, Nat.reduceAdd, Nat.reduceSub, List.replicate_succ, List.replicate_zero, List.cons_append, List.nil_append])
  have hgv := gv_kn (P0 := Tryz.prog) hpre
  (repeat' ((first | with_reducible (first | apply XR_cons | apply XR_consG | apply XR_nil | apply cF_pure3 (by assumption) | apply cF_ev3 (by assumption)) | with_reducible (first | apply gRS (by with_unfolding_all rfl) | apply gR (by with_unfolding_all rfl) | apply gS (by with_unfolding_all rfl) | fail) | refine X_of _ ?_ | with_reducible (first | exact ⟨_, rfl⟩ | refine And.intro ?_ ?_ | intro _)) <;> try simp -implicitDefEqProofs (maxSteps := 1000000) (disch := first | exact dz3 | fail) only [vcR, vcT, simprocAttr, Ab.part, implies_true, forall_const, vcS, vcXHb, Tryz.f6]))
  refine yF_lsmall (N := 0) hsm hgv rfl (fun _ h => h) rfl ?_
  intro bx bq
  (try (first | with_reducible refine X_regRS ?_ | with_reducible refine X_regR ?_ | (with_reducible refine X_seqX ?_; with_reducible refine X_blockX ?_; with_reducible refine X_regR ?_))); (repeat ((first | with_reducible refine XR_make ?_ | with_reducible refine XR_append ?_ | with_reducible refine XR_cons ?_ | with_reducible refine XR_consG ?_ | with_reducible refine XR_nil ?_); try simp -implicitDefEqProofs (maxSteps := 1000000) (disch := first | exact dz3 | fail) only [vcR, vcT, simprocAttr, Ab.part, implies_true, forall_const, vcS, vcXHb, Tryz.f6]))
  refine X_grp 0 1 2 [] rfl rfl rfl hok.gr.1 hok.gr.2.1 (by decide) (by simp) (by simp) (by simp) (by simp [pickH_nil]) fun β1 w1 hR1 hG hK => ?_
  have hO := gv_one hpre hR1 (L := []) (fun i hi => by simp at hi)
  clear hR1 hK hgv hpre
  simp -implicitDefEqProofs (maxSteps := 1000000) (disch := first | exact dz3 | fail) only [vcR, vcT, simprocAttr, Ab.part, implies_true, forall_const, vcS, vcXHb, Tryz.f6]
  obtain ⟨k, hk⟩ : ∃ k, β1 0 = k := ⟨_, rfl⟩
  obtain ⟨kx, hkx⟩ : ∃ k, β1 1 = k := ⟨_, rfl⟩
  obtain ⟨kq, hkq⟩ : ∃ k, β1 2 = k := ⟨_, rfl⟩
  rw [hk, hkx, hkq] at hG
  have hl2 : ∀ i, two 3 2 i < 2 ^ 256 := fun i => by unfold two; split <;> decide
  have hc2 : ∀ i, comN 23 4 (two 3 2) i < 2 ^ 256 := fun i => Nat.lt_of_lt_of_le (Nat.mod_lt _ (by decide)) (by decide)
  have e1 := fun x c => deal_n k kx kq 23 11 4 x 2 c 3 (two 3 2) (by decide) hl2 (by decide) (by decide) (by decide) (by decide) (by decide)
  have e2 := fun x c => right_e k kx kq 23 11 4 x 2 c (comN 23 4 (two 3 2)) 1 7 (by decide) (by decide) (by decide) hc2 (by decide) (by decide) (by decide)
  have e3 := fun x c => right_e k kx kq 23 11 4 x 2 c (comN 23 4 (two 3 2)) 1 8 (by decide) (by decide) (by decide) hc2 (by decide) (by decide) (by decide)
  have e4 := fun x c y d => recover_e k kx kq 23 11 4 x 2 c (comN 23 4 (two 3 2)) y 2 d (twoI 0 2) (two 5 9) (by decide) (by decide) (by decide) hc2 (fun i => by unfold two; split <;> decide) (fun i => by unfold twoI; split <;> decide) (by decide) (by decide)
  rw [ex_r1] at e2
  rw [ex_r2] at e3
  rw [hE, hV] at e4
  clear hE hV hsm hok
  (repeat' ((first | with_reducible (first | apply XR_cons | apply XR_consG | apply XR_nil | apply cF_pure3 (by assumption) | apply cF_ev3 (by assumption)) | with_reducible (first | apply gRS (by with_unfolding_all rfl) | apply gR (by with_unfolding_all rfl) | apply gS (by with_unfolding_all rfl) | fail) | refine X_of _ ?_ | with_reducible (first | exact ⟨_, rfl⟩ | refine And.intro ?_ ?_ | intro _)) <;> try simp -implicitDefEqProofs (maxSteps := 1000000) (disch := first | exact dz3 | fail) only [vcR, vcT, simprocAttr, Ab.part, implies_true, forall_const, vcS, vcXHb, Tryz.f6, st_bs,xbs_some,gz2n,two_set,two_len,hk]))
  refine xcall_evn (by kernel_rfl) (fun β w' hR => ⟨_, e1 (some ⟨β 0, 0, none⟩) 2, hG w' hR.fr.to, natsAt_own0 hR rfl (by decide)⟩) ?_
  rintro _ _ ⟨c1, sp1, c2, sp2, hc1, hc2, rfl, rfl⟩
  try simp -implicitDefEqProofs (maxSteps := 1000000) (disch := first | exact dz3 | fail) only [vcR, vcT, simprocAttr, Ab.part, implies_true, forall_const, vcS, vcXHb, Tryz.f6]
  (try (first | with_reducible refine X_regRS ?_ | with_reducible refine X_regR ?_ | (with_reducible refine X_seqX ?_; with_reducible refine X_blockX ?_; with_reducible refine X_regR ?_))); (repeat ((first | with_reducible refine XR_make ?_ | with_reducible refine XR_append ?_ | with_reducible refine XR_cons ?_ | with_reducible refine XR_consG ?_ | with_reducible refine XR_nil ?_); try simp -implicitDefEqProofs (maxSteps := 1000000) (disch := first | exact dz3 | fail) only [vcR, vcT, simprocAttr, Ab.part, implies_true, forall_const, vcS, vcXHb, Tryz.f6]))
  refine X_rebase (modEvo 135) w.heap.size [] (by decide) (by simp) rfl (.inl ⟨rfl, rfl⟩) (fun _ h => h) (by simp) fun β2 w2 hR2 => ?_
  have hG2 : Kn (((ctx0 Tryz.prog w).after (modEvo 135) w.heap.size w1 β1 []).after (modEvo 135) w.heap.size w2 β2 []) (GK k kx kq 23 11 4) := hG.after (L := []) hR2 (by simp)
  have hO2 : Kn (((ctx0 Tryz.prog w).after (modEvo 135) w.heap.size w1 β1 []).after (modEvo 135) w.heap.size w2 β2 []) oneK := hO.after (L := []) hR2 (by simp)
  have hC : Kn (((ctx0 Tryz.prog w).after (modEvo 135) w.heap.size w1 β1 []).after (modEvo 135) w.heap.size w2 β2 []) (natsAt (modEvo 135) (some ⟨β2 1, 0, none⟩) 2 (comN 23 4 (two 3 2))) := natsAt_gone (T0 := 135) (B := w.heap.size) (L := []) (j := 1) (n := 2) (l := comN 23 4 (two 3 2)) (sp := sp1.map SV.v) hR2 rfl (by simp) (by simp) (by decide)
  have hS : Kn (((ctx0 Tryz.prog w).after (modEvo 135) w.heap.size w1 β1 []).after (modEvo 135) w.heap.size w2 β2 []) (natsAt (modEvo 135) (some ⟨β2 2, 0, none⟩) 3 fun i => valN 11 (two 3 2) 2 (i : Nat)) := natsAt_gone (T0 := 135) (B := w.heap.size) (L := []) (j := 2) (n := 3) (l := fun i => valN 11 (two 3 2) 2 (i : Nat)) (sp := sp2.map SV.v) hR2 rfl (by simp) (by simp) (by decide)
  clear hR2 hG hO
  simp -implicitDefEqProofs (maxSteps := 1000000) (disch := first | exact dz3 | fail) only [vcR, vcT, simprocAttr, Ab.part, implies_true, forall_const, vcS, vcXHb, Tryz.f6]
  obtain ⟨jc, hjc⟩ : ∃ j, β2 1 = j := ⟨_, rfl⟩
  obtain ⟨js, hjs⟩ : ∃ j, β2 2 = j := ⟨_, rfl⟩
  rw [hjc] at hC
  rw [hjs] at hS
  have e2 := e2 (some ⟨jc, 0, none⟩) c1
  have e3 := e3 (some ⟨jc, 0, none⟩) c1
  have e4 := fun ad => e4 (some ⟨jc, 0, none⟩) c1 (some ad) 2
  (repeat' ((first | with_reducible (first | apply XR_cons | apply XR_consG | apply XR_nil | apply cF_pure3 (by assumption) | apply cF_ev3 (by assumption)) | with_reducible (first | apply gRS (by with_unfolding_all rfl) | apply gR (by with_unfolding_all rfl) | apply gS (by with_unfolding_all rfl) | fail) | refine X_of _ ?_ | with_reducible (first | exact ⟨_, rfl⟩ | refine And.intro ?_ ?_ | intro _)) <;> try simp -implicitDefEqProofs (maxSteps := 1000000) (disch := first | exact dz3 | fail) only [vcR, vcT, simprocAttr, Ab.part, implies_true, forall_const, vcS, vcXHb, Tryz.f6, piece_b0,piece_l0,hjc,hjs,st_bs,xbs_some,gzpc2,zpc2_len,zpc2_set,two_pc,pieceC_length,pieceC_okk,pieceC_one]))
  refine yF_evz (fun β' w' hR => ⟨_, e4 ⟨β' 0, 0, none⟩, ⟨hG2 w' hR.fr.to, hO2 w' hR.fr.to⟩, hC w' hR.fr.to, pcsAt_own0 hR rfl (by decide)⟩) rfl rfl (by kernel_rfl) ?_
  try simp -implicitDefEqProofs (maxSteps := 1000000) (disch := first | exact dz3 | fail) only [vcR, vcT, simprocAttr, Ab.part, implies_true, forall_const, vcS, vcXHb, Tryz.f6]
  (repeat' ((first | with_reducible (first | apply XR_cons | apply XR_consG | apply XR_nil | apply cF_pure3 (by assumption) | apply cF_ev3 (by assumption)) | with_reducible (first | apply gRS (by with_unfolding_all rfl) | apply gR (by with_unfolding_all rfl) | apply gS (by with_unfolding_all rfl) | fail) | refine X_of _ ?_ | with_reducible (first | exact ⟨_, rfl⟩ | refine And.intro ?_ ?_ | intro _)) <;> try simp -implicitDefEqProofs (maxSteps := 1000000) (disch := first | exact dz3 | fail) only [vcR, vcT, simprocAttr, Ab.part, implies_true, forall_const, vcS, vcXHb, Tryz.f6, st_bs,xbs_some,gz2n,two_set,two_len,gz3n,three_set,three_len,three_len2]))
  refine yF_evz (fun β' w' hR => ⟨_, nats_same (some ⟨jc, 0, none⟩) (some ⟨β' 2, 0, none⟩) 2 c1 2 (two 18 16) (fun i => by unfold two; split <;> decide) (by decide), natsAt_congr (hC w' hR.fr.to) ex_com, natsAt_own0 hR rfl (by decide)⟩) rfl rfl (by kernel_rfl) ?_
  try simp -implicitDefEqProofs (maxSteps := 1000000) (disch := first | exact dz3 | fail) only [vcR, vcT, simprocAttr, Ab.part, implies_true, forall_const, vcS, vcXHb, Tryz.f6]
  (repeat' ((first | with_reducible (first | apply XR_cons | apply XR_consG | apply XR_nil | apply cF_pure3 (by assumption) | apply cF_ev3 (by assumption)) | with_reducible (first | apply gRS (by with_unfolding_all rfl) | apply gR (by with_unfolding_all rfl) | apply gS (by with_unfolding_all rfl) | fail) | refine X_of _ ?_ | with_reducible (first | exact ⟨_, rfl⟩ | refine And.intro ?_ ?_ | intro _)) <;> try simp -implicitDefEqProofs (maxSteps := 1000000) (disch := first | exact dz3 | fail) only [vcR, vcT, simprocAttr, Ab.part, implies_true, forall_const, vcS, vcXHb, Tryz.f6, st_bs,xbs_some,gz2n,two_set,two_len,gz3n,three_set,three_len,three_len2]))
  refine yF_evz (fun β' w' hR => ⟨_, nats_same (some ⟨js, 0, none⟩) (some ⟨β' 3, 0, none⟩) 3 c2 3 (three 5 7 9) (fun i => by unfold three; split; decide; split <;> decide) (by decide), natsAt_congr (hS w' hR.fr.to) ex_val, natsAt_own0 hR rfl (by decide)⟩) rfl rfl (by kernel_rfl) ?_
  try simp -implicitDefEqProofs (maxSteps := 1000000) (disch := first | exact dz3 | fail) only [vcR, vcT, simprocAttr, Ab.part, implies_true, forall_const, vcS, vcXHb, Tryz.f6]
  (repeat' ((first | with_reducible (first | apply XR_cons | apply XR_consG | apply XR_nil | apply cF_pure3 (by assumption) | apply cF_ev3 (by assumption)) | with_reducible (first | apply gRS (by with_unfolding_all rfl) | apply gR (by with_unfolding_all rfl) | apply gS (by with_unfolding_all rfl) | fail) | refine X_of _ ?_ | with_reducible (first | exact ⟨_, rfl⟩ | refine And.intro ?_ ?_ | intro _)) <;> try simp -implicitDefEqProofs (maxSteps := 1000000) (disch := first | exact dz3 | fail) only [vcR, vcT, simprocAttr, Ab.part, implies_true, forall_const, vcS, vcXHb, Tryz.f6, litsEq_self]))
/-! Tryz# Orders of small groups are prime -/
def cop (Q : Nat) : Bool := allUp (fun d => d == 0 || Nat.gcd Q d == 1) Q
theorem sm_cop (z : Int) : cop (smQ z) = true := by
  unfold smQ
  split
  · kernel_rfl
  · split
    · kernel_rfl
    · split <;> kernel_rfl
theorem cop_of {Q d : Nat} (h : cop Q = true) (h0 : d ≠ 0) (hd : d < Q) : Nat.gcd Q d = 1 := by
  have h1 := allUp_iff h d hd
  rcases Bool.or_eq_true_iff.1 h1 with h2 | h2
  · exact absurd (beq_iff_eq.1 h2) h0
  · exact beq_iff_eq.1 h2
theorem msub_lt {m a b : Nat} (hm : 0 < m) : msub m a b < m := Nat.mod_lt _ hm
theorem msub_ne {m a b : Nat} (ha : a < m) (hb : b < m) (h : a ≠ b) : msub m a b ≠ 0 := by
  unfold msub
  rw [Nat.mod_eq_of_lt ha, Nat.mod_eq_of_lt hb]
  by_cases hab : b ≤ a
  · rw [show a + (m - b) = a - b + m by omega, Nat.add_mod_right, Nat.mod_eq_of_lt (by omega)]; omega
  · rw [Nat.mod_eq_of_lt (by omega)]; omega
theorem WE_prime {Q n : Nat} {l : Nat → Nat} (hQ : 1 < Q) (hc : cop Q = true) (hl : ∀ i, i < n → l i < Q) (hd : ∀ i j, i < n → j < n → i ≠ j → l i ≠ l j) : WE Q l n = 0 := by
  have : NeZero Q := ⟨by omega⟩
  unfold WE
  have hs : sm Q l n = false := by
    cases h : sm Q l n with
    | false => rfl
    | true =>
      obtain ⟨i, hi, j, hj, h0⟩ := (sm_iff l n).1 h
      exact absurd h0 (msub_ne (hl i hi) (hl j (by omega)) (hd i j hi (by omega) (by omega)))
  rw [hs, if_neg (by decide)]
  refine (wE_all (m := Q) l n n).1.2 fun i hi => (wgE_0 hQ l n i).2 fun k hk hki => ?_
  rcases inv_spec (m := Q) (msub Q (l k) (l i)) with ⟨⟨h, _⟩, _⟩ | ⟨_, h⟩
  · exact h
  · exact absurd (cop_of hc (msub_ne (hl k hk) (hl i hi) (hd k i hk hi hki)) (msub_lt (by omega))) h
/-! Tryz# Which slots are taken -/
def cho (S : Nat → Int) : Nat → List Nat
  | 0 => []
  | i + 1 => if 0 ≤ S i ∧ S i < 10 ∧ (S i).toNat ∉ cho S i then cho S i ++ [(S i).toNat] else cho S i
theorem cho_yes {S : Nat → Int} {i : Nat} (h : 0 ≤ S i ∧ S i < 10 ∧ (S i).toNat ∉ cho S i) : cho S (i + 1) = cho S i ++ [(S i).toNat] := if_pos h
theorem cho_no {S : Nat → Int} {i : Nat} (h : ¬ (0 ≤ S i ∧ S i < 10 ∧ (S i).toNat ∉ cho S i)) : cho S (i + 1) = cho S i := if_neg h
theorem cho_lt {S : Nat → Int} : ∀ i, ∀ x ∈ cho S i, x < 10
  | 0, x, hx => by cases hx
  | i + 1, x, hx => by
    by_cases h : 0 ≤ S i ∧ S i < 10 ∧ (S i).toNat ∉ cho S i
    · rw [cho_yes h] at hx
      rcases List.mem_append.1 hx with h1 | h1
      · exact cho_lt i x h1
      · rw [List.mem_singleton.1 h1]; omega
    · rw [cho_no h] at hx
      exact cho_lt i x hx
theorem cho_nodup {S : Nat → Int} : ∀ i, (cho S i).Nodup
  | 0 => List.nodup_nil
  | i + 1 => by
    by_cases h : 0 ≤ S i ∧ S i < 10 ∧ (S i).toNat ∉ cho S i
    · rw [cho_yes h, List.nodup_append]
      refine ⟨cho_nodup i, by simp, fun a ha b hb => ?_⟩
      rw [List.mem_singleton.1 hb]
      rintro rfl
      exact h.2.2 ha
    · rw [cho_no h]
      exact cho_nodup i
theorem cho_len {S : Nat → Int} : ∀ i, (cho S i).length ≤ i
  | 0 => Nat.le_refl 0
  | i + 1 => by
    have h1 := cho_len (S := S) i
    by_cases h : 0 ≤ S i ∧ S i < 10 ∧ (S i).toNat ∉ cho S i
    · rw [cho_yes h, List.length_append]; show _ + 1 ≤ _; omega
    · rw [cho_no h]; omega
def sOf (L : List Nat) (j : Nat) : Int := (L.getD j 0 : Nat)
def aOf (v : Nat → Nat) (L : List Nat) (j : Nat) : Nat := v (L.getD j 0)
theorem getD_snoc {L : List Nat} {a j : Nat} (h : j < L.length) : (L ++ [a]).getD j 0 = L.getD j 0 := by
  simp [List.getD_eq_getElem?_getD, List.getElem?_append_left h]
theorem getD_last {L : List Nat} {a : Nat} : (L ++ [a]).getD L.length 0 = a := by simp [List.getD_eq_getElem?_getD]
theorem getD_mem {L : List Nat} {j : Nat} (h : j < L.length) : L.getD j 0 ∈ L := by
  rw [List.getD_eq_getElem?_getD, List.getElem?_eq_getElem h]
  exact List.getElem_mem h
theorem getD_inj {L : List Nat} (hn : L.Nodup) {i j : Nat} (hi : i < L.length) (hj : j < L.length) (h : L.getD i 0 = L.getD j 0) : i = j := by
  rw [List.getD_eq_getElem?_getD, List.getElem?_eq_getElem hi, List.getD_eq_getElem?_getD, List.getElem?_eq_getElem hj] at h
  exact nodup_inj hn hi hj h
section
variable {P Q : Nat}
theorem recovers_law (hok : SmOk P Q) (hc : cop Q = true) (hQ10 : 10 < Q) {c : Nat → Nat} {m : Nat} {L : List Nat} (hm1 : 1 ≤ m) (hm : m ≤ 20) (hL : ∀ x ∈ L, x < 10) (hn : L.Nodup) :
    recE P Q 4 m (comN P 4 c) L.length (sOf L) (aOf (fun s => valN Q c m (s : Nat)) L) = (if L.length < m then 3 else 0) ∧
    recV P Q 4 m (comN P 4 c) L.length (sOf L) (aOf (fun s => valN Q c m (s : Nat)) L) = (if L.length < m then 0 else c 0 % Q) := by
  obtain ⟨g1, g2, g3, g4, g5, g6, g7⟩ := hok.gr
  have hQ : NeZero Q := ⟨by omega⟩
  have hs : ∀ i, i < L.length → 0 ≤ sOf L i ∧ sOf L i < 10 := fun i hi => by
    have := hL _ (getD_mem hi)
    unfold sOf
    omega
  have hf : rcF (fun i => rightE P Q 4 m (comN P 4 c) (sOf L i) (aOf (fun s => valN Q c m (s : Nat)) L i)) L.length = 0 := rcF_iff.2 fun i hi => by
    have h1 := hs i hi
    show rightE P Q 4 m (comN P 4 c) (sOf L i) (aOf (fun s => valN Q c m (s : Nat)) L i) = 0
    rw [binds_law hok (l := c) (fun _ _ => rfl) hm1 hm h1.1 (by omega) (by unfold placeN; omega)]
    exact if_pos rfl
  have hk : ¬ (keysI (sOf L) L.length).length < L.length := fun h => by
    obtain ⟨i, j, h1, h2, h3⟩ := keysI_lt.1 h
    have h4 : L.getD i 0 = L.getD j 0 := by
      unfold sOf at h3
      exact Int.ofNat_inj.1 h3
    have := getD_inj hn (by omega) h2 h4
    omega
  have hw : WE Q (px (pl (sOf L) (aOf (fun s => valN Q c m (s : Nat)) L))) L.length = 0 := by
    refine WE_prime g2.gt hc (fun i hi => ?_) fun i j hi hj hij => ?_
    · rw [px_pl]; unfold placeN; have := hs i hi; omega
    · rw [px_pl, px_pl]
      intro h
      refine hij (getD_inj hn hi hj ?_)
      have h1 := hs i hi
      have h2 := hs j hj
      unfold placeN sOf at h
      omega
  unfold recE recV
  simp only [hf]
  rw [if_neg (show ¬ ((0 : Int) ≠ 0) from fun h => h rfl), if_neg (show ¬ ((0 : Int) ≠ 0) from fun h => h rfl), if_neg hk, if_neg hk]
  by_cases hlm : L.length < m
  · rw [if_pos hlm, if_pos hlm, if_pos hlm, if_pos hlm]; exact ⟨rfl, rfl⟩
  · rw [if_neg hlm, if_neg hlm, if_neg hlm, if_neg hlm]
    refine ⟨hw, ?_⟩
    rw [tells_law (m := Q) g2.gt _ c L.length m (by omega) (fun i hi => ?_) hw, if_neg (by omega), Nat.add_zero]
    rw [py_pl, px_pl]
    rfl
end
def intsAt (V : Evo) (x : Option Addr) (n : Nat) (S : Nat → Int) : Nat → World → Prop := fun B w => n = 0 ∨ ∃ ad, x = some ad ∧ cellsAt V ad n (fun j => .int .i64 (S j)) B w
theorem intsAt_stays (V : Evo) (x : Option Addr) (n : Nat) (S : Nat → Int) : Stays V (intsAt V x n S) := by
  rintro B w w' (h | ⟨ad, hx, h⟩) he
  · exact .inl h
  · exact .inr ⟨ad, hx, cellsAt_stays V ad _ _ B w w' h he⟩
theorem Kn.ints {Γ : Ctx} {V : Evo} {ad : Addr} {n i : Nat} {S : Nat → Int} (h : Kn Γ (intsAt V (some ad) n S)) (hi : i < n) {q : Nat} {K : TV → HE → Prop} : xext Γ (some false) q (ad.add i) K = K (.s (.v (.int .i64 (S i)))) .none := by
  have h1 : Kn Γ (cellsAt V ad n (fun j => .int .i64 (S j))) := fun w hw => by
    rcases h w hw with h0 | ⟨ad', hx, h2⟩
    · omega
    · injection hx with hx
      subst hx
      exact h2
  exact xext_eq (Kn.cell (ad := ad) h1 (i := i) hi)
def bls (n : Nat) (b : Nat → Bool) : List SV := (List.range n).map fun j => .v (.bool (b j))
theorem bls_length {n : Nat} {b : Nat → Bool} : (bls n b).length = n := by simp [bls]
theorem bls_get {n q : Nat} {b : Nat → Bool} (h : q < n) : (bls n b)[q]? = some (.v (.bool (b q))) := by
  unfold bls
  rw [List.getElem?_map, List.getElem?_range h]
  rfl
theorem bls_ok {n : Nat} {b : Nat → Bool} (m : Nat) : ∀ x ∈ bls n b, x.ok m := fun x hx => by
  obtain ⟨j, _, rfl⟩ := List.mem_map.1 hx
  trivial
theorem bls_okk {n m : Nat} {b : Nat → Bool} : (∀ x ∈ bls n b, x.ok m) = True := eq_true (bls_ok m)
theorem bls_set {n q : Nat} {b b' : Nat → Bool} (h : q < n) (hb : ∀ j, b' j = if j = q then true else b j) : (bls n b).set q (.v (.bool true)) = bls n b' := by
  apply List.ext_getElem?
  intro j
  rw [List.getElem?_set, bls_length]
  by_cases hjq : q = j
  · subst hjq
    rw [if_pos rfl, if_pos h, bls_get h, hb, if_pos rfl]
  · rw [if_neg hjq]
    by_cases hj : j < n
    · rw [bls_get hj, bls_get hj, hb, if_neg (fun h => hjq h.symm)]
    · rw [List.getElem?_eq_none (by rw [bls_length]; omega), List.getElem?_eq_none (by rw [bls_length]; omega)]
theorem pcs_congr {n : Nat} {S S' : Nat → Int} {A A' : Nat → Nat} (h : ∀ j, j < n → S j = S' j ∧ A j = A' j) : pcs n S A = pcs n S' A' := by
  unfold pcs
  refine List.map_congr_left fun j hj => ?_
  have hj' := List.mem_range.1 hj
  unfold pcsG
  obtain ⟨h1, h2⟩ := h (j / 5) (by omega)
  rw [h1, h2]
theorem pcs_cho {L : List Nat} {v : Nat → Nat} {q : Nat} : pcs L.length (sOf L) (aOf v L) ++ pieceC (q : Nat) (v q) = pcs (L ++ [q]).length (sOf (L ++ [q])) (aOf v (L ++ [q])) := by
  have h1 : sOf (L ++ [q]) L.length = (q : Nat) := by unfold sOf; rw [getD_last]
  have h2 : aOf v (L ++ [q]) L.length = v q := by unfold aOf; rw [getD_last]
  rw [List.length_append, List.length_singleton, ← pcs_snoc, h1, h2]
  congr 1
  refine pcs_congr fun j hj => ?_
  unfold sOf aOf
  rw [getD_snoc hj]
  exact ⟨rfl, rfl⟩
theorem gap_pc (n : Nat) (hn : n ≤ 1000000) : apOK Tryz.prog 45 n := by
  have h1 : (Tryz.prog.info? 45).map (fun i => (i.bytes, i.size, i.zero.map fun z => z.cells.size)) = some (40, 5, some 5) := by kernel_rfl
  cases hi : Tryz.prog.info? 45 with
  | none => rw [hi] at h1; cases h1
  | some i =>
    rw [hi] at h1
    simp only [Option.map_some, Option.some.injEq, Prod.mk.injEq] at h1
    obtain ⟨h2, h3, h4⟩ := h1
    obtain ⟨z, hz, hz4⟩ := Option.map_eq_some_iff.1 h4
    exact ⟨i, z, hi, hz, by rw [hz4, h3], by rw [h2]; omega, by omega⟩
theorem gsz_pc : sz Tryz.prog 45 = 5 := by kernel_rfl
theorem gnews_pc {H : Heap} {k t n : Nat} {s : Int} {a : Nat} (hn : n = 5) (hb : H[k]? = some ⟨t, pieceC s a⟩) : newsOf H n (.s (.sl k 0 1 1)) = some (pieceC s a, 1) := by
  subst hn
  have hl : (pieceC s a).length = 5 := pieceC_length
  have h5 : (pieceC s a).take 5 = pieceC s a := List.take_of_length_le (by omega)
  simp [newsOf, hb, hl, part_eq, h5]
theorem gone_pc (s : Int) (a : Nat) : setAt zpc1 0 (pieceC s a) = pieceC s a := by kernel_rfl
theorem tf55_row : rowOf Tryz.prog 55 = some false := by kernel_rfl
theorem tf55_slc : slcOf Tryz.prog 55 = some 3 := by kernel_rfl
theorem tf55_arr : arrOf Tryz.prog 55 = none := by kernel_rfl
theorem tf55_isSlc : isSlc Tryz.prog 55 = true := by kernel_rfl
theorem tf56_row : rowOf Tryz.prog 56 = some false := by kernel_rfl
theorem tf56_slc : slcOf Tryz.prog 56 = some 4 := by kernel_rfl
theorem tf56_arr : arrOf Tryz.prog 56 = none := by kernel_rfl
theorem tf56_isSlc : isSlc Tryz.prog 56 = true := by kernel_rfl
set_option linter.defProp false in
def vcI := And.intro @tf55_slc (And.intro @tf55_isSlc (And.intro @tf55_arr (And.intro @tf55_row (And.intro @tf56_slc (And.intro @tf56_isSlc (And.intro @tf56_arr @tf56_row))))))
theorem gzb10 : slice0 Tryz.prog 4 10 = some (bls 10 fun _ => false) := by kernel_rfl
theorem gmk_b10 : mkOK Tryz.prog 4 10 := by
  have h1 : (Tryz.prog.info? 4).map (fun i => i.bytes) = some 1 := by kernel_rfl
  unfold mkOK
  cases hi : Tryz.prog.info? 4 with
  | none => rw [hi] at h1; cases h1
  | some i =>
    rw [hi] at h1
    simp only [Option.map_some, Option.some.injEq] at h1
    exact ⟨by rw [h1]; decide, by decide⟩
theorem mk_b10 {Γ : Ctx} {n : Nat} {K : TV → HE → Prop} {k k' : IntKind} (hP : Γ.P = Tryz.prog) (hT : ¬ Γ.ev.TM 4) (hK : K (.s (.sl n 0 10 10)) (.new ⟨4, bls 10 fun _ => false⟩)) : xmake Γ (some 4) (.s (.v (.int k 10))) (.s (.v (.int k' 10))) n K := by
  refine ⟨⟨by decide, rfl, by rw [hP]; exact gmk_b10⟩, ?_⟩
  show xnewS Γ 4 (slice0 Γ.P 4 10) n 10 K
  rw [hP, gzb10]
  exact ⟨hT, hK⟩
end Go.Proofs.YtdmcknmjdlghgaaGreatDoor
