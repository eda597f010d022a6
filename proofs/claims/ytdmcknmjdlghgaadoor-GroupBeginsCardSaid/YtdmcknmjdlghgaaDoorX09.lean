/-
  group: New, where a group is made.
  group: products of powers.
  group: Multi.
  group: Exp, Times.
  What a list proves is prime: Lucas, by the factors that the list proved.
  The laws of groups in plain numbers.
  A small group is made: what the laws share.
  Texts laid together: Fm, Fm2.
  A law's argument that is a slice of numbers, or of points: words in a row.
  A law's argument that is a slice of factors, a proof, or a slice of proofs.
  The frame of a law whose row lists packages' numbers as they are laid.
  Arguments that are factors, proofs.
-/
import Derived.WalkKit
import Derived.StillTail
import Derived.Deep.MidRow
import Derived.DeepKeys
import Derived.Deep.LoopGhost
import Derived.Deep.Quiet
import Derived.Laws.AppendOwn
import Derived.Laws.MakeOwn
import Derived.Laws.Cover3
import Derived.Laws.IdiomCopy
import Derived.Laws.CopyRow
import Derived.Laws.BitsAllLaws
import Derived.Laws.Bits128
import Derived.Lib.BitFns
import Derived.DeepKeys3
import Derived.MapKept
import Derived.Test.YtdmcknmjdlghgaaDoorProg
import Derived.Shelf.Bits.Mul64
import Derived.Shelf.Strconv.Itoa0
import Derived.Shelf.Spec.BitsCarry
import Derived.Tactics
import Derived.Tactics2
import Derived.Defers
import Derived.Laws.Pointers
import Derived.Laws.LoneSync
import Derived.RegionTactic
import Derived.RegionCalls
import Derived.ChangeAlike
import Derived.KernelRfl
import Derived.Laws.NewBlocks
import Derived.ProofKit
import Derived.Below
import Derived.ChangeSame
import Derived.OpenShut
import Derived.ChangeSlices
import Derived.Test.YtdmcknmjdlghgaaDoorRows
import Derived.ChangeVars
import Derived.JoinedOf
import Derived.LaidLaws
import Derived.LaidHandle
import Derived.Stop.Joined
import Derived.Test.YtdmcknmjdlghgaaDoorX01
import Derived.Test.YtdmcknmjdlghgaaDoorX02
import Derived.Test.YtdmcknmjdlghgaaDoorX03
import Derived.Test.YtdmcknmjdlghgaaDoorX04
import Derived.Test.YtdmcknmjdlghgaaDoorX05
import Derived.Test.YtdmcknmjdlghgaaDoorX06
import Derived.Test.YtdmcknmjdlghgaaDoorX07
import Derived.Test.YtdmcknmjdlghgaaDoorX08
namespace Go.Proofs.YtdmcknmjdlghgaaDoor
open Go Go.Ab
set_option linter.unusedSimpArgs false
set_option linter.unusedVariables false
set_option linter.defProp false
set_option maxHeartbeats 20000000
set_option maxRecDepth 100000

/-- What New hands back. -/
def NewR (P Q G : Nat) (w0 : World) (v : TV) (H : Heap) (A : World → Prop) : Prop :=
  ∃ kx kq, v = .tup [.s (.p 1 0), .s (.v (.int .i64 0))] ∧ H[1]? = some ⟨84, grpc P Q G (.v (.pointer (some ⟨kx, 0, none⟩))) (.v (.pointer (some ⟨kq, 0, none⟩)))⟩ ∧
    A = fun w => isMod 108 kx P w0.heap.size w ∧ isMod 108 kq Q w0.heap.size w ∧ kx ≠ kq
def GrpR (P Q G : Nat) (v : TV) (H : Heap) : Prop := ∃ bx bq, v = .tup [.s (.p 0 0), .s (.v (.int .i64 0))] ∧ H = [⟨84, grpc P Q G (.p 1 0) (.p 2 0)⟩, ⟨108, modS P bx⟩, ⟨108, modS Q bq⟩]
theorem grp_again {P0 : Program} {P Q G : Nat} {w w' : World} {v : TV} {H : Heap} {A : World → Prop} {β : Nat → Nat} {e : Ending} (h : NewR P Q G w v H A) (hA : A w') (hR : Rep (ctx0 P0 w) H β w') (he : ∀ β'', Agrees H.length β β'' → e = .returned (v.conc β'')) :
    ∃ v H' β', GrpR P Q G v H' ∧ (∀ b ∈ H', ∀ x ∈ b.cs, x.ok H'.length) ∧ v.ok H'.length ∧ Rep (ctx0 P0 w) H' β' w' ∧ e = .returned (v.conc β') := by
  obtain ⟨kx, kq, rfl, hH, rfl⟩ := h
  obtain ⟨⟨hP, hBx, bx, hx⟩, ⟨hQ, hBq, bq, hq⟩, hne⟩ := hA
  have h1 := hR.blk β (.refl _ _) 1 _ hH
  have hlt : 1 < H.length := (List.getElem?_eq_some_iff.1 hH).1
  have hdx : β 1 ≠ kx := fun e => by
    rw [e, hx] at h1
    injection h1 with h1
    unfold modObj AB.conc at h1
    injection h1 with _ h1 _
    exact absurd (show 108 = 84 from h1) (by decide)
  have hdq : β 1 ≠ kq := fun e => by
    rw [e, hq] at h1
    injection h1 with h1
    unfold modObj AB.conc at h1
    injection h1 with _ h1 _
    exact absurd (show 108 = 84 from h1) (by decide)
  have hB1 : w.heap.size ≤ β 1 := new_lie hR (fun _ h => h) hlt
  obtain ⟨β', hβ⟩ : ∃ β' : Nat → Nat, β' = fun j => if j = 0 then β 1 else if j = 1 then kx else kq := ⟨_, rfl⟩
  have b0 : β' 0 = β 1 := by rw [hβ]; rfl
  have b1 : β' 1 = kx := by rw [hβ]; rfl
  have b2 : β' 2 = kq := by rw [hβ]; rfl
  refine ⟨_, _, β', ⟨bx, bq, rfl, rfl⟩, ?_, ?_, ⟨⟨Nat.zero_le _, fun j hj => absurd hj (Nat.not_lt_zero j)⟩, hR.fr, fun p q hp hq hpq => ?_, fun j hj => ?_, fun j b hb h => h.elim, fun β'' h'' j b hb => ?_⟩, ?_⟩
  · intro b hb
    simp only [List.mem_cons, List.not_mem_nil, or_false] at hb
    rcases hb with rfl | rfl | rfl
    · show ∀ x ∈ grpc P Q G (.p 1 0) (.p 2 0), x.ok 3
      rw [grpc_okk]
      exact ⟨by show 1 < 3; decide, by show 2 < 3; decide⟩
    · exact fun x hx => SV.ok_mono (modS_ok x hx) (Nat.zero_le _)
    · exact fun x hx => SV.ok_mono (modS_ok x hx) (Nat.zero_le _)
  · intro x hx
    simp only [List.mem_cons, List.not_mem_nil, or_false] at hx
    rcases hx with rfl | rfl
    · show 0 < 3; decide
    · trivial
  · simp only [List.length_cons, List.length_nil] at hp hq
    rcases p with _ | _ | _ | p <;> rcases q with _ | _ | _ | q <;> first | rfl | omega | (simp only [Nat.zero_add, Nat.reduceAdd, b0, b1, b2] at hpq; exfalso; first | exact hdx hpq | exact hdq hpq | exact hne hpq | exact hdx hpq.symm | exact hdq hpq.symm | exact hne hpq.symm)
  · simp only [List.length_cons, List.length_nil] at hj
    refine .inl ?_
    rcases j with _ | _ | _ | j
    · rw [b0]; exact hB1
    · rw [b1]; exact hBx
    · rw [b2]; exact hBq
    · omega
  · rcases j with _ | _ | _ | j
    · simp only [List.getElem?_cons_zero, Option.some.injEq] at hb
      subst hb
      have e1 : β'' 1 = kx := by rw [h'' 1 (by show 1 < 3; decide), b1]
      have e2 : β'' 2 = kq := by rw [h'' 2 (by show 2 < 3; decide), b2]
      rw [b0, h1]
      simp only [AB.conc, grpc, prms, nat4, arr, List.map_append, List.map_map, List.map_cons, List.map_nil, Function.comp_def, SV.conc, e1, e2]
    · simp only [List.getElem?_cons_zero, List.getElem?_cons_succ, Option.some.injEq] at hb
      subst hb
      rw [show 0 + 1 = 1 from rfl, b1, hx, modObj_conc]
    · simp only [List.getElem?_cons_zero, List.getElem?_cons_succ, Option.some.injEq] at hb
      subst hb
      rw [show 0 + 1 + 1 = 2 from rfl, b2, hq, modObj_conc]
    · simp at hb
  · rw [he β (.refl _ _)]
    simp only [TV.conc, AV.conc, SV.conc, List.map_cons, List.map_nil, b0]

theorem grpb1 {P Q G : Nat} : (setAt [.v (.int .u64 0), .v (.int .u64 0), .v (.int .u64 0), .v (.int .u64 0), .v (.int .u64 0), .v (.int .u64 0), .v (.int .u64 0), .v (.int .u64 0), .v (.int .u64 0), .v (.int .u64 0), .v (.int .u64 0), .v (.int .u64 0), .v (.pointer none), .v (.pointer none)] 0 (prms P Q G)).length = 14 := rfl
theorem grpb2 {P Q G : Nat} {x : SV} : ((setAt [.v (.int .u64 0), .v (.int .u64 0), .v (.int .u64 0), .v (.int .u64 0), .v (.int .u64 0), .v (.int .u64 0), .v (.int .u64 0), .v (.int .u64 0), .v (.int .u64 0), .v (.int .u64 0), .v (.int .u64 0), .v (.int .u64 0), .v (.pointer none), .v (.pointer none)] 0 (prms P Q G)).set 12 x).length = 14 := rfl
theorem grpb3 {P Q G : Nat} {x y : SV} : ((setAt [.v (.int .u64 0), .v (.int .u64 0), .v (.int .u64 0), .v (.int .u64 0), .v (.int .u64 0), .v (.int .u64 0), .v (.int .u64 0), .v (.int .u64 0), .v (.int .u64 0), .v (.int .u64 0), .v (.int .u64 0), .v (.int .u64 0), .v (.pointer none), .v (.pointer none)] 0 (prms P Q G)).set 12 x).set 13 y = grpc P Q G x y := rfl


theorem gNew_good (P Q G : Nat) (x : Option Addr) (m c : Nat) (l : Nat → Pf) (hP : P < 2 ^ 256) (hQ : Q < 2 ^ 256) (hG : G < 2 ^ 256) (hl : PfOk l) (hm : m < 9223372036854775808) (he : pvS l m Q = 0) (hok : grOK P Q G) :
    NewG Tryd.prog 15 [.agg (prms P Q G), .s (.v (.slice x m c))] (fun w => prfs x m l w ∧ gv w) (GrpR P Q G) := by
  have hpv := (proves_m x m c l Q hl hm hQ).ev (V := Evo.none)
  rw [he] at hpv
  clear he hl
  obtain ⟨hOP, hOQ, c5, cq, c2, cg, hg1⟩ := hok
  have h1 := new_good P hOP
  have h2 := new_good Q hOQ
  intro w hpre
  refine (calls_of_XA (Γ := ctx0 Tryd.prog w) (A := fun _ => True) (R := NewR P Q G w) Tryd.func15 rfl (rep0 Tryd.prog w fun _ => 0) trivial (by simp only [List.length_cons, List.length_nil, List.map_cons, List.map_nil, List.nodup_cons, List.nodup_nil, List.mem_cons, Nat.reduceAdd, Nat.reduceEqDiff, or_false, not_false_eq_true, forall_eq_or_imp, forall_eq, or_self, Nat.reduceLT, Nat.reduceLeDiff, and_self, List.forall_mem_cons, List.not_mem_nil, false_implies, implies_true, and_true, true_and, vcOGb]) ?_).mono fun e w' ⟨v, H', A', β', hv, hA, hR, he⟩ => grp_again hv hA hR he
  simp only [List.length_cons, List.length_nil, Tryd.ntmps15, Nat.reduceAdd, Nat.reduceSub, List.replicate_succ, List.replicate_zero, List.cons_append, List.nil_append]
  have hFL : Kn (ctx0 Tryd.prog w) fun _ w => prfs x m l w ∧ least w := fun w' hw' => ⟨(prfs_kn (P0 := Tryd.prog) hpre.1).prfs0 w' hw', (least_kn (P0 := Tryd.prog) hpre.2.1).least0 w' hw'⟩
  refine XA_seq (XA_of' ?_)
  (repeat' ((first | with_reducible (first | apply XQ_cons | apply XQ_consG | apply XQ_nil | apply XR_cons | apply XR_consG | apply XR_nil | apply cF_pure2 (by assumption) | apply cV_pure2 (by assumption) | apply cF_ev2 (by assumption) | apply cV_ev2 (by assumption) | apply cF_pure2 (cmp_c _ _ bd2 bd2) | apply cV_pure2 (cmp_c _ _ bd2 bd2) | apply cF_ev2 (pow_e _ _ _ _ bd2 bd2 bd2) | apply cV_ev2 (pow_e _ _ _ _ bd2 bd2 bd2)) | ((with_reducible apply cF_new2 (by assumption)); (first | rintro _ _ ⟨rfl, rfl⟩ | rintro _ _ ⟨_, _, rfl, rfl⟩)) | with_reducible (first | apply X_regRS (id := 4) | apply X_regR (id := 4) | apply X_seqX (x := .seq (.region 4 _ false) _) | apply X_seqX (x := .seq (.seq (.region 4 _ false) _) _) | apply X_regRS (id := 5) | apply X_regR (id := 5) | apply X_seqX (x := .seq (.region 5 _ false) _) | apply X_seqX (x := .seq (.seq (.region 5 _ false) _) _) | apply X_regRS (id := 6) | apply X_regR (id := 6) | apply X_seqX (x := .seq (.region 6 _ false) _) | apply X_seqX (x := .seq (.seq (.region 6 _ false) _) _)) | (with_reducible apply X_drawC (id := 8) 24; (next => (kernel_rfl)); (next => (kernel_rfl))) | refine X_of _ ?_ | with_reducible (first | exact ⟨_, rfl⟩ | refine And.intro ?_ ?_ | intro _)) <;> try simp -implicitDefEqProofs (maxSteps := 1000000) (disch := first | exact dz2 | fail) only [vcR, vcT, Int.reduceBEq, Int.reduceBNe, Int.reduceEq, Int.reduceNe, Ab.part, Nat.reduceAdd, Nat.reduceMul, Nat.reduceLeDiff, Nat.reduceEqDiff, Nat.reduceBEq, Nat.reduceBNe, reduceCtorEq, ↓reduceIte, implies_true, forall_const, Int.reduceNeg, Int.reduceToNat, Int.reduceLT, Int.reduceLE, Int.reduceAdd, Int.reduceSub, Int.reduceMul, Int.reducePow, Nat.reducePow, true_or, Option.isNone_some, Option.isNone_none, vcXGb, Tryd.f15, List.toList_toArray, arr4_zero, nat4_set1, nat4_setL, nat4_set0, seqA_n,prms_splice]))
  refine XA_seq (XA_of' ?_)
  (repeat' ((first | with_reducible (first | apply XQ_cons | apply XQ_consG | apply XQ_nil | apply XR_cons | apply XR_consG | apply XR_nil | apply cF_pure2 (by assumption) | apply cV_pure2 (by assumption) | apply cF_ev2 (by assumption) | apply cV_ev2 (by assumption) | apply cF_pure2 (cmp_c _ _ bd2 bd2) | apply cV_pure2 (cmp_c _ _ bd2 bd2) | apply cF_ev2 (pow_e _ _ _ _ bd2 bd2 bd2) | apply cV_ev2 (pow_e _ _ _ _ bd2 bd2 bd2)) | ((with_reducible apply cF_new2 (by assumption)); (first | rintro _ _ ⟨rfl, rfl⟩ | rintro _ _ ⟨_, _, rfl, rfl⟩)) | with_reducible (first | apply X_regRS (id := 4) | apply X_regR (id := 4) | apply X_seqX (x := .seq (.region 4 _ false) _) | apply X_seqX (x := .seq (.seq (.region 4 _ false) _) _) | apply X_regRS (id := 5) | apply X_regR (id := 5) | apply X_seqX (x := .seq (.region 5 _ false) _) | apply X_seqX (x := .seq (.seq (.region 5 _ false) _) _) | apply X_regRS (id := 6) | apply X_regR (id := 6) | apply X_seqX (x := .seq (.region 6 _ false) _) | apply X_seqX (x := .seq (.seq (.region 6 _ false) _) _)) | (with_reducible apply X_drawC (id := 8) 24; (next => (kernel_rfl)); (next => (kernel_rfl))) | refine X_of _ ?_ | with_reducible (first | exact ⟨_, rfl⟩ | refine And.intro ?_ ?_ | intro _)) <;> try simp -implicitDefEqProofs (maxSteps := 1000000) (disch := first | exact dz2 | fail) only [vcR, vcT, Int.reduceBEq, Int.reduceBNe, Int.reduceEq, Int.reduceNe, Ab.part, Nat.reduceAdd, Nat.reduceMul, Nat.reduceLeDiff, Nat.reduceEqDiff, Nat.reduceBEq, Nat.reduceBNe, reduceCtorEq, ↓reduceIte, implies_true, forall_const, Int.reduceNeg, Int.reduceToNat, Int.reduceLT, Int.reduceLE, Int.reduceAdd, Int.reduceSub, Int.reduceMul, Int.reducePow, Nat.reducePow, true_or, Option.isNone_some, Option.isNone_none, vcXGb, Tryd.f15, List.toList_toArray, arr4_zero, nat4_set1, nat4_setL, nat4_set0, seqA_n,bne_self_eq_false]))
  refine XA_seq (XA_of' ?_)
  (repeat' ((first | with_reducible (first | apply XQ_cons | apply XQ_consG | apply XQ_nil | apply XR_cons | apply XR_consG | apply XR_nil | apply cF_pure2 (by assumption) | apply cV_pure2 (by assumption) | apply cF_ev2 (by assumption) | apply cV_ev2 (by assumption) | apply cF_pure2 (cmp_c _ _ bd2 bd2) | apply cV_pure2 (cmp_c _ _ bd2 bd2) | apply cF_ev2 (pow_e _ _ _ _ bd2 bd2 bd2) | apply cV_ev2 (pow_e _ _ _ _ bd2 bd2 bd2)) | ((with_reducible apply cF_new2 (by assumption)); (first | rintro _ _ ⟨rfl, rfl⟩ | rintro _ _ ⟨_, _, rfl, rfl⟩)) | with_reducible (first | apply X_regRS (id := 4) | apply X_regR (id := 4) | apply X_seqX (x := .seq (.region 4 _ false) _) | apply X_seqX (x := .seq (.seq (.region 4 _ false) _) _) | apply X_regRS (id := 5) | apply X_regR (id := 5) | apply X_seqX (x := .seq (.region 5 _ false) _) | apply X_seqX (x := .seq (.seq (.region 5 _ false) _) _) | apply X_regRS (id := 6) | apply X_regR (id := 6) | apply X_seqX (x := .seq (.region 6 _ false) _) | apply X_seqX (x := .seq (.seq (.region 6 _ false) _) _)) | (with_reducible apply X_drawC (id := 8) 24; (next => (kernel_rfl)); (next => (kernel_rfl))) | refine X_of _ ?_ | with_reducible (first | exact ⟨_, rfl⟩ | refine And.intro ?_ ?_ | intro _)) <;> try simp -implicitDefEqProofs (maxSteps := 1000000) (disch := first | exact dz2 | fail) only [vcR, vcT, Int.reduceBEq, Int.reduceBNe, Int.reduceEq, Int.reduceNe, Ab.part, Nat.reduceAdd, Nat.reduceMul, Nat.reduceLeDiff, Nat.reduceEqDiff, Nat.reduceBEq, Nat.reduceBNe, reduceCtorEq, ↓reduceIte, implies_true, forall_const, Int.reduceNeg, Int.reduceToNat, Int.reduceLT, Int.reduceLE, Int.reduceAdd, Int.reduceSub, Int.reduceMul, Int.reducePow, Nat.reducePow, true_or, Option.isNone_some, Option.isNone_none, vcXGb, Tryd.f15, List.toList_toArray, arr4_zero, nat4_set1, nat4_setL, nat4_set0, seqA_n]))
  refine XA_seq (XA_of' ?_)
  (repeat' ((first | with_reducible (first | apply XQ_cons | apply XQ_consG | apply XQ_nil | apply XR_cons | apply XR_consG | apply XR_nil | apply cF_pure2 (by assumption) | apply cV_pure2 (by assumption) | apply cF_ev2 (by assumption) | apply cV_ev2 (by assumption) | apply cF_pure2 (cmp_c _ _ bd2 bd2) | apply cV_pure2 (cmp_c _ _ bd2 bd2) | apply cF_ev2 (pow_e _ _ _ _ bd2 bd2 bd2) | apply cV_ev2 (pow_e _ _ _ _ bd2 bd2 bd2)) | ((with_reducible apply cF_new2 (by assumption)); (first | rintro _ _ ⟨rfl, rfl⟩ | rintro _ _ ⟨_, _, rfl, rfl⟩)) | with_reducible (first | apply X_regRS (id := 4) | apply X_regR (id := 4) | apply X_seqX (x := .seq (.region 4 _ false) _) | apply X_seqX (x := .seq (.seq (.region 4 _ false) _) _) | apply X_regRS (id := 5) | apply X_regR (id := 5) | apply X_seqX (x := .seq (.region 5 _ false) _) | apply X_seqX (x := .seq (.seq (.region 5 _ false) _) _) | apply X_regRS (id := 6) | apply X_regR (id := 6) | apply X_seqX (x := .seq (.region 6 _ false) _) | apply X_seqX (x := .seq (.seq (.region 6 _ false) _) _)) | (with_reducible apply X_drawC (id := 8) 24; (next => (kernel_rfl)); (next => (kernel_rfl))) | refine X_of _ ?_ | with_reducible (first | exact ⟨_, rfl⟩ | refine And.intro ?_ ?_ | intro _)) <;> try simp -implicitDefEqProofs (maxSteps := 1000000) (disch := first | exact dz2 | fail) only [vcR, vcT, Int.reduceBEq, Int.reduceBNe, Int.reduceEq, Int.reduceNe, Ab.part, Nat.reduceAdd, Nat.reduceMul, Nat.reduceLeDiff, Nat.reduceEqDiff, Nat.reduceBEq, Nat.reduceBNe, reduceCtorEq, ↓reduceIte, implies_true, forall_const, Int.reduceNeg, Int.reduceToNat, Int.reduceLT, Int.reduceLE, Int.reduceAdd, Int.reduceSub, Int.reduceMul, Int.reducePow, Nat.reducePow, true_or, Option.isNone_some, Option.isNone_none, vcXGb, Tryd.f15, List.toList_toArray, arr4_zero, nat4_set1, nat4_setL, nat4_set0, seqA_n]))
  refine XA_two 1 2 [0] rfl rfl hOP hOQ (by decide) (by decide) (by decide) (by simp) (by simp [pickH_cons, pickH_nil, consH_some]) fun β1 w1 hR1 hM1 hM2 hK => ?_
  have g1 : ∀ {K : TV → HE → Prop}, xext ((ctx0 Tryd.prog w).after (modEvo 108) w.heap.size w1 β1 [0]) (some true) 4 ⟨2, 0, none⟩ K = K (.agg (nat4 1)) .none := fun {K} => Kn.one1 (hK _ oneK_stays (gnat_at _ hpre.2.2.2.2))
  have g5 : ∀ {K : TV → HE → Prop}, xext ((ctx0 Tryd.prog w).after (modEvo 108) w.heap.size w1 β1 [0]) (some true) 4 ⟨0, 0, none⟩ K = K (.agg (nat4 5)) .none := fun {K} => Kn.gnat (hK _ (natsAt_stays _ _ _ _) (gnat_at _ hpre.2.2.1))
  have g2 : ∀ {K : TV → HE → Prop}, xext ((ctx0 Tryd.prog w).after (modEvo 108) w.heap.size w1 β1 [0]) (some true) 4 ⟨1, 0, none⟩ K = K (.agg (nat4 2)) .none := fun {K} => Kn.gnat (hK _ (natsAt_stays _ _ _ _) (gnat_at _ hpre.2.2.2.1))
  clear hpre hFL hK hpv h1 h2
  obtain ⟨kx, hkx⟩ : ∃ kx, β1 1 = kx := ⟨_, rfl⟩
  obtain ⟨kq, hkq⟩ : ∃ kq, β1 2 = kq := ⟨_, rfl⟩
  rw [hkx] at hM1
  rw [hkq] at hM2
  have hpw := pow_e kx P G Q hOP hG hQ
  obtain ⟨r, hr⟩ : ∃ r, G ^ Q % P = r := ⟨_, rfl⟩
  have hr2 : r < 2 ^ 256 := by rw [← hr]; exact hOP.mod_lt
  rw [hr] at hpw
  rw [hkx, hkq]
  have hrr : r = 1 := hr.symm.trans hg1
  subst hrr
  have hs : ¬ sg P 5 < 0 := by have := sg_nonneg c5; omega
  have hs2 : ¬ sg Q P ≥ 0 := by have := sg_lt0 cq; omega
  have hs3 : ¬ sg G 2 < 0 := by have := sg_nonneg c2; omega
  have hs4 : ¬ sg G P ≥ 0 := by have := sg_lt0 cg; omega
  clear hg1 hr hr2
  try simp -implicitDefEqProofs (maxSteps := 1000000) (disch := first | exact dz2 | fail) only [vcR, vcT, Int.reduceBEq, Int.reduceBNe, Int.reduceEq, Int.reduceNe, Ab.part, Nat.reduceAdd, Nat.reduceMul, Nat.reduceLeDiff, Nat.reduceEqDiff, Nat.reduceBEq, Nat.reduceBNe, reduceCtorEq, ↓reduceIte, implies_true, forall_const, Int.reduceNeg, Int.reduceToNat, Int.reduceLT, Int.reduceLE, Int.reduceAdd, Int.reduceSub, Int.reduceMul, Int.reducePow, Nat.reducePow, true_or, Option.isNone_some, Option.isNone_none, vcXGb, Tryd.f15, List.toList_toArray, hkx,hkq]
  (repeat' ((first | with_reducible (first | apply XQ_cons | apply XQ_consG | apply XQ_nil | apply XR_cons | apply XR_consG | apply XR_nil | apply cF_pure2 (by assumption) | apply cV_pure2 (by assumption) | apply cF_ev2 (by assumption) | apply cV_ev2 (by assumption) | apply cF_pure2 (cmp_c _ _ bd2 bd2) | apply cV_pure2 (cmp_c _ _ bd2 bd2)) | ((with_reducible apply cF_new2 (by assumption)); (first | rintro _ _ ⟨rfl, rfl⟩ | rintro _ _ ⟨_, _, rfl, rfl⟩)) | with_reducible (first | apply X_regRS (id := 4) | apply X_regR (id := 4) | apply X_seqX (x := .seq (.region 4 _ false) _) | apply X_seqX (x := .seq (.seq (.region 4 _ false) _) _) | apply X_regRS (id := 5) | apply X_regR (id := 5) | apply X_seqX (x := .seq (.region 5 _ false) _) | apply X_seqX (x := .seq (.seq (.region 5 _ false) _) _) | apply X_regRS (id := 6) | apply X_regR (id := 6) | apply X_seqX (x := .seq (.region 6 _ false) _) | apply X_seqX (x := .seq (.seq (.region 6 _ false) _) _) | apply X_seqX (x := .block _ (.seq (.seq (.region 4 _ false) _) _)) | apply X_blockX (b := (.seq (.seq (.region 4 _ false) _) _)) | apply X_seqX (x := .block _ (.seq (.region 4 _ false) _)) | apply X_blockX (b := (.seq (.region 4 _ false) _)) | apply X_seqX (x := .block _ (.seq (.seq (.region 5 _ false) _) _)) | apply X_blockX (b := (.seq (.seq (.region 5 _ false) _) _)) | apply X_seqX (x := .block _ (.seq (.region 5 _ false) _)) | apply X_blockX (b := (.seq (.region 5 _ false) _)) | apply X_seqX (x := .block _ (.seq (.seq (.region 6 _ false) _) _)) | apply X_blockX (b := (.seq (.seq (.region 6 _ false) _) _)) | apply X_seqX (x := .block _ (.seq (.region 6 _ false) _)) | apply X_blockX (b := (.seq (.region 6 _ false) _))) | (with_reducible apply X_drawC (id := 8) 24; (next => (kernel_rfl)); (next => (kernel_rfl))) | refine X_of _ ?_ | with_reducible (first | exact ⟨_, rfl⟩ | refine And.intro ?_ ?_ | intro _)) <;> try simp -implicitDefEqProofs (maxSteps := 1000000) (disch := first | exact dz2 | fail) only [vcR, vcT, Int.reduceBEq, Int.reduceBNe, Int.reduceEq, Int.reduceNe, Ab.part, Nat.reduceAdd, Nat.reduceMul, Nat.reduceLeDiff, Nat.reduceEqDiff, Nat.reduceBEq, Nat.reduceBNe, reduceCtorEq, ↓reduceIte, implies_true, forall_const, Int.reduceNeg, Int.reduceToNat, Int.reduceLT, Int.reduceLE, Int.reduceAdd, Int.reduceSub, Int.reduceMul, Int.reducePow, Nat.reducePow, true_or, Option.isNone_some, Option.isNone_none, vcXGb, Tryd.f15, List.toList_toArray, arr4_zero, nat4_set1, nat4_setL, nat4_set0, g5,g2,g1,bne_self_eq_false,hs,hs2,hs3,hs4,retA_n,retA_r,grpb1,grpb2,grpb3]))
  exact ⟨kx, kq, rfl, rfl, rfl⟩
end Go.Proofs.YtdmcknmjdlghgaaDoor
namespace Go.Proofs.YtdmcknmjdlghgaaDoor
open Go Go.Ab
set_option linter.unusedSimpArgs false
set_option linter.unusedVariables false
set_option linter.defProp false
set_option maxHeartbeats 20000000
set_option maxRecDepth 100000

/-- All of them are members. -/
def allM (P Q n : Nat) (a : Nat → Nat) : Bool := (List.range n).all fun i => memB P Q (a i)
theorem allM_iff {P Q n : Nat} {a : Nat → Nat} : allM P Q n a = true ↔ ∀ i, i < n → memB P Q (a i) = true := by simp [allM]
theorem allM_not {P Q n : Nat} {a : Nat → Nat} (h : allM P Q n a = false) : ∃ i, i < n ∧ memB P Q (a i) = false := by
  simpa [allM] using h
/-- The first one that is none is r; or all are, and r is -1. -/
def ixOf (P Q n : Nat) (a : Nat → Nat) (r : Int) : Prop := (∃ i, i < n ∧ memB P Q (a i) = false ∧ (∀ j, j < i → memB P Q (a j) = true) ∧ r = (i : Int)) ∨ ((∀ j, j < n → memB P Q (a j) = true) ∧ r = -1)
theorem ixOf_ex (P Q n : Nat) (a : Nat → Nat) : ∃ r, ixOf P Q n a r ∧ decide (r ≥ 0) = !allM P Q n a := by
  cases h : allM P Q n a with
  | true => exact ⟨-1, .inr ⟨allM_iff.1 h, rfl⟩, rfl⟩
  | false =>
    have hf : ∀ n, (∃ i, i < n ∧ memB P Q (a i) = false) → ∃ i, i < n ∧ memB P Q (a i) = false ∧ ∀ j, j < i → memB P Q (a j) = true := by
      intro n
      induction n with
      | zero => rintro ⟨i, hi, _⟩; omega
      | succ n ih =>
        rintro ⟨i, hi, h1⟩
        by_cases h2 : ∃ i, i < n ∧ memB P Q (a i) = false
        · obtain ⟨i, h3, h4⟩ := ih h2
          exact ⟨i, by omega, h4⟩
        · have h3 : ∀ j, j < n → memB P Q (a j) = true := fun j hj => by
            cases h4 : memB P Q (a j) with
            | true => rfl
            | false => exact absurd ⟨j, hj, h4⟩ h2
          by_cases hin : i < n
          · exact absurd ⟨i, hin, h1⟩ h2
          · have : i = n := by omega
            subst this
            exact ⟨i, by omega, h1, h3⟩
    obtain ⟨i, h1, h2, h3⟩ := hf n (allM_not h)
    exact ⟨(i : Int), .inl ⟨i, h1, h2, h3, rfl⟩, by simp⟩
/-- A product of powers. -/
def mulS (P : Nat) (a b : Nat → Nat) : Nat → Nat
  | 0 => 1
  | n + 1 => mulS P a b n * (a n ^ b n % P) % P
theorem mulS_lt {P : Nat} (h : OddM P) (a b : Nat → Nat) : ∀ n, mulS P a b n < 2 ^ 256
  | 0 => by show 1 < 2 ^ 256; decide
  | n + 1 => h.mod_lt
def muE (P Q n m : Nat) (a : Nat → Nat) : Int := if n ≠ m ∨ 40 < n then 1 else if allM P Q n a then 0 else 22
def muV (P Q n m : Nat) (a b : Nat → Nat) : Nat := if muE P Q n m a = 0 then mulS P a b n else 0
theorem gm1_e (j k kx kq P Q G a : Nat) (hP2 : P < 2 ^ 256) (hQ2 : Q < 2 ^ 256) (ha : a < 2 ^ 256) :
    EvC (modEvo 108) Tryd.prog 53 [.agg (nat4 a), .s (.v (.pointer (some ⟨j, 0, none⟩)))] (fun B w => (GK k kx kq P Q G B w ∧ oneK B w) ∧ cellAt (modEvo 108) j (.pointer (some ⟨k, 0, none⟩)) B w) (.s (.v (.bool (!memB P Q a)))) := by
  (refine evC_of Tryd.func53 rfl (by simp only [List.length_cons, List.length_nil, List.map_cons, List.map_nil, List.nodup_cons, List.nodup_nil, List.mem_cons, Nat.reduceAdd, Nat.reduceEqDiff, or_false, not_false_eq_true, forall_eq_or_imp, forall_eq, or_self, Nat.reduceLT, Nat.reduceLeDiff, and_self, List.forall_mem_cons, List.not_mem_nil, false_implies, implies_true, and_true, true_and, vcOGb]) (by simp only [List.length_cons, List.length_nil, List.map_cons, List.map_nil, List.nodup_cons, List.nodup_nil, List.mem_cons, Nat.reduceAdd, Nat.reduceEqDiff, or_false, not_false_eq_true, forall_eq_or_imp, forall_eq, or_self, Nat.reduceLT, Nat.reduceLeDiff, and_self, List.forall_mem_cons, List.not_mem_nil, false_implies, implies_true, and_true, true_and, vcOGb]) fun B w hpre => ?_; simp only [List.length_cons, List.length_nil, Tryd.ntmps53, Nat.reduceAdd, Nat.reduceSub, List.replicate_succ, List.replicate_zero, List.cons_append, List.nil_append])
  have h0 := Kn.entry (P := Tryd.prog) (((isGrp_stays 108 k kx kq P Q G).and oneK_stays).and (cellAt_stays _ j _)) hpre
  have h1 := h0.left
  have h2 := h0.right
  have hj : ∀ {K : TV → HE → Prop} {q : Nat}, xext (ctxE Tryd.prog (modEvo 108) w B) (some false) q ⟨j, 0, none⟩ K = K (.s (.v (.pointer (some ⟨k, 0, none⟩)))) .none := fun {K} => h2.cell1
  have hm := gMember_e k kx kq P Q G a hP2 hQ2 ha
  clear hpre h0 h2
  (repeat' ((first | with_reducible (first | apply cF_pure2 (by assumption) | apply cF_ev2 (by assumption)) | refine X_of _ ?_ | with_reducible (first | exact ⟨_, rfl⟩ | refine And.intro ?_ ?_ | intro _)) <;> try simp -implicitDefEqProofs (maxSteps := 1000000) (disch := first | exact dz2 | fail) only [vcR, vcT, Int.reduceBEq, Int.reduceBNe, Int.reduceEq, Int.reduceNe, Ab.part, Nat.reduceAdd, Nat.reduceMul, Nat.reduceLeDiff, Nat.reduceEqDiff, Nat.reduceBEq, Nat.reduceBNe, reduceCtorEq, ↓reduceIte, implies_true, forall_const, Int.reduceNeg, Int.reduceToNat, Int.reduceLT, Int.reduceLE, Int.reduceAdd, Int.reduceSub, Int.reduceMul, Int.reducePow, Nat.reducePow, true_or, Option.isNone_some, Option.isNone_none, vcXGb, Tryd.f53, List.toList_toArray, arr4_zero, nat4_set1, nat4_setL, nat4_set0, addr_add,hj]))


theorem gix_e (x : Option Addr) (n c : Nat) (a : Nat → Nat) (j k kx kq P Q G : Nat) (r : Int) (hr : ixOf P Q n a r) (hP2 : P < 2 ^ 256) (hQ2 : Q < 2 ^ 256) (ha : ∀ i, a i < 2 ^ 256) (hn : n < 9223372036854775808) :
    EvC (modEvo 108) Tryd.prog 84 [.s (.v (.slice x n c)), .s (.v (.func (.func 53) #[] #[.pointer (some ⟨j, 0, none⟩)]))]
      (fun B w => natsAt (modEvo 108) x n a B w ∧ (GK k kx kq P Q G B w ∧ oneK B w) ∧ cellAt (modEvo 108) j (.pointer (some ⟨k, 0, none⟩)) B w) (.s (.v (.int .i64 r))) := by
  (refine evC_of Tryd.func84 rfl (by simp only [List.length_cons, List.length_nil, List.map_cons, List.map_nil, List.nodup_cons, List.nodup_nil, List.mem_cons, Nat.reduceAdd, Nat.reduceEqDiff, or_false, not_false_eq_true, forall_eq_or_imp, forall_eq, or_self, Nat.reduceLT, Nat.reduceLeDiff, and_self, List.forall_mem_cons, List.not_mem_nil, false_implies, implies_true, and_true, true_and, vcOGb]) (by simp only [List.length_cons, List.length_nil, List.map_cons, List.map_nil, List.nodup_cons, List.nodup_nil, List.mem_cons, Nat.reduceAdd, Nat.reduceEqDiff, or_false, not_false_eq_true, forall_eq_or_imp, forall_eq, or_self, Nat.reduceLT, Nat.reduceLeDiff, and_self, List.forall_mem_cons, List.not_mem_nil, false_implies, implies_true, and_true, true_and, vcOGb]) fun B w hpre => ?_; simp only [List.length_cons, List.length_nil, Tryd.ntmps84, Nat.reduceAdd, Nat.reduceSub, List.replicate_succ, List.replicate_zero, List.cons_append, List.nil_append])
  have hN0 := hpre.1
  have h0 := Kn.entry (P := Tryd.prog) ((natsAt_stays _ x n a).and (((isGrp_stays 108 k kx kq P Q G).and oneK_stays).and (cellAt_stays _ j _))) hpre
  have hN := h0.left
  have h1 := h0.right
  clear hpre h0
  (repeat' ((first | with_reducible (first | apply cF_pure2 (by assumption) | apply cF_ev2 (by assumption)) | refine X_of _ ?_ | with_reducible (first | exact ⟨_, rfl⟩ | refine And.intro ?_ ?_ | intro _)) <;> try simp -implicitDefEqProofs (maxSteps := 1000000) (disch := first | exact dz2 | fail) only [vcR, vcT, Int.reduceBEq, Int.reduceBNe, Int.reduceEq, Int.reduceNe, Ab.part, Nat.reduceAdd, Nat.reduceMul, Nat.reduceLeDiff, Nat.reduceEqDiff, Nat.reduceBEq, Nat.reduceBNe, reduceCtorEq, ↓reduceIte, implies_true, forall_const, Int.reduceNeg, Int.reduceToNat, Int.reduceLT, Int.reduceLE, Int.reduceAdd, Int.reduceSub, Int.reduceMul, Int.reducePow, Nat.reducePow, true_or, Option.isNone_some, Option.isNone_none, vcXGb, Tryd.f84, List.toList_toArray, arr4_zero, nat4_set1, nat4_setL, nat4_set0]))
  refine X_loop (ι := Nat) (fun i => i ≤ n ∧ ∀ q, q < i → memB P Q (a q) = true) (fun i => n - i) [5, 8, 9, 10, 11, 12, 13, 14, 15, 16, 17, 18]
    (fun i => [(8, .s (.v (.int .i64 (i : Nat))))])
    (fun i => []) 0 (shape_of fun i => ?_) (by decide) ?_ ?_
  · simp only [List.length_cons, List.length_nil, List.map_cons, List.map_nil, List.nodup_cons, List.nodup_nil, List.mem_cons, Nat.reduceAdd, Nat.reduceEqDiff, or_false, not_false_eq_true, forall_eq_or_imp, forall_eq, or_self, Nat.reduceLT, Nat.reduceLeDiff, and_self, List.forall_mem_cons, List.not_mem_nil, false_implies, implies_true, and_true, true_and, vcOGb]
  · simp -implicitDefEqProofs (maxSteps := 1000000) (disch := first | exact dz2 | fail) only [vcR, vcT, Int.reduceBEq, Int.reduceBNe, Int.reduceEq, Int.reduceNe, Ab.part, Nat.reduceAdd, Nat.reduceMul, Nat.reduceLeDiff, Nat.reduceEqDiff, Nat.reduceBEq, Nat.reduceBNe, reduceCtorEq, ↓reduceIte, implies_true, forall_const, Int.reduceNeg, Int.reduceToNat, Int.reduceLT, Int.reduceLE, Int.reduceAdd, Int.reduceSub, Int.reduceMul, Int.reducePow, Nat.reducePow, true_or, Option.isNone_some, Option.isNone_none, vcXGb, Tryd.f84, List.toList_toArray, again_eq]
    first | exact ⟨⟨Nat.zero_le _, fun q hq => absurd hq (Nat.not_lt_zero q)⟩, _, rfl⟩ | (simp; done)
  · intro i us ⟨hi, hb⟩
    by_cases h : i < n
    · obtain ⟨ad, rfl⟩ : ∃ ad, x = some ad := by
        rcases hN0 with h0 | ⟨ad, h0, _⟩
        · omega
        · exact ⟨ad, h0⟩
      have hx : ∀ {K : TV → HE → Prop}, xext (ctxE Tryd.prog (modEvo 108) w B) (some true) 4 (ad.add (i * 4)) K = K (.agg (nat4 (a i))) .none := fun {K} => hN.nat h
      have hm := gm1_e j k kx kq P Q G (a i) hP2 hQ2 (ha i)
      clear hN0 ha
      cases hmb : memB P Q (a i) with
      | true =>
        rw [hmb] at hm
        clear hr
        (repeat' ((first | with_reducible (first | apply cF_pure2 (by assumption) | apply cF_ev2 (by assumption)) | refine X_of _ ?_ | with_reducible (first | exact ⟨_, rfl⟩ | refine And.intro ?_ ?_ | intro _)) <;> try simp -implicitDefEqProofs (maxSteps := 1000000) (disch := first | exact dz2 | fail) only [vcR, vcT, Int.reduceBEq, Int.reduceBNe, Int.reduceEq, Int.reduceNe, Ab.part, Nat.reduceAdd, Nat.reduceMul, Nat.reduceLeDiff, Nat.reduceEqDiff, Nat.reduceBEq, Nat.reduceBNe, reduceCtorEq, ↓reduceIte, implies_true, forall_const, Int.reduceNeg, Int.reduceToNat, Int.reduceLT, Int.reduceLE, Int.reduceAdd, Int.reduceSub, Int.reduceMul, Int.reducePow, Nat.reducePow, true_or, Option.isNone_some, Option.isNone_none, vcXGb, Tryd.f84, List.toList_toArray, arr4_zero, nat4_set1, nat4_setL, nat4_set0, hx]))
        refine ⟨i + 1, by omega, ?_⟩
        simp -implicitDefEqProofs (maxSteps := 1000000) (disch := first | exact dz2 | fail) only [vcR, vcT, Int.reduceBEq, Int.reduceBNe, Int.reduceEq, Int.reduceNe, Ab.part, Nat.reduceAdd, Nat.reduceMul, Nat.reduceLeDiff, Nat.reduceEqDiff, Nat.reduceBEq, Nat.reduceBNe, reduceCtorEq, ↓reduceIte, implies_true, forall_const, Int.reduceNeg, Int.reduceToNat, Int.reduceLT, Int.reduceLE, Int.reduceAdd, Int.reduceSub, Int.reduceMul, Int.reducePow, Nat.reducePow, true_or, Option.isNone_some, Option.isNone_none, vcXGb, Tryd.f84, List.toList_toArray, again_eq]
        refine ⟨fun q hq => ?_, _, rfl⟩
        by_cases hq2 : q < i
        · exact hb q hq2
        · have : q = i := by omega
          subst this
          exact hmb
      | false =>
        rw [hmb] at hm
        have hri : r = (i : Int) := by
          rcases hr with ⟨i', h1, h2, h3, h4⟩ | ⟨h1, _⟩
          · rw [h4]
            rcases Nat.lt_trichotomy i i' with h5 | h5 | h5
            · rw [h3 i h5] at hmb; cases hmb
            · rw [h5]
            · rw [hb i' h5] at h2; cases h2
          · rw [h1 i h] at hmb; cases hmb
        subst hri
        clear hr
        (repeat' ((first | with_reducible (first | apply cF_pure2 (by assumption) | apply cF_ev2 (by assumption)) | refine X_of _ ?_ | with_reducible (first | exact ⟨_, rfl⟩ | refine And.intro ?_ ?_ | intro _)) <;> try simp -implicitDefEqProofs (maxSteps := 1000000) (disch := first | exact dz2 | fail) only [vcR, vcT, Int.reduceBEq, Int.reduceBNe, Int.reduceEq, Int.reduceNe, Ab.part, Nat.reduceAdd, Nat.reduceMul, Nat.reduceLeDiff, Nat.reduceEqDiff, Nat.reduceBEq, Nat.reduceBNe, reduceCtorEq, ↓reduceIte, implies_true, forall_const, Int.reduceNeg, Int.reduceToNat, Int.reduceLT, Int.reduceLE, Int.reduceAdd, Int.reduceSub, Int.reduceMul, Int.reducePow, Nat.reducePow, true_or, Option.isNone_some, Option.isNone_none, vcXGb, Tryd.f84, List.toList_toArray, arr4_zero, nat4_set1, nat4_setL, nat4_set0, hx]))
    · have : i = n := by omega
      subst this
      have hri : r = -1 := by
        rcases hr with ⟨i', h1, h2, _⟩ | ⟨_, h1⟩
        · rw [hb i' h1] at h2; cases h2
        · exact h1
      subst hri
      (repeat' ((first | with_reducible (first | apply cF_pure2 (by assumption) | apply cF_ev2 (by assumption)) | refine X_of _ ?_ | with_reducible (first | exact ⟨_, rfl⟩ | refine And.intro ?_ ?_ | intro _)) <;> try simp -implicitDefEqProofs (maxSteps := 1000000) (disch := first | exact dz2 | fail) only [vcR, vcT, Int.reduceBEq, Int.reduceBNe, Int.reduceEq, Int.reduceNe, Ab.part, Nat.reduceAdd, Nat.reduceMul, Nat.reduceLeDiff, Nat.reduceEqDiff, Nat.reduceBEq, Nat.reduceBNe, reduceCtorEq, ↓reduceIte, implies_true, forall_const, Int.reduceNeg, Int.reduceToNat, Int.reduceLT, Int.reduceLE, Int.reduceAdd, Int.reduceSub, Int.reduceMul, Int.reducePow, Nat.reducePow, true_or, Option.isNone_some, Option.isNone_none, vcXGb, Tryd.f84, List.toList_toArray, arr4_zero, nat4_set1, nat4_setL, nat4_set0]))


theorem gct_e (x : Option Addr) (n c : Nat) (a : Nat → Nat) (j k kx kq P Q G : Nat) (hP2 : P < 2 ^ 256) (hQ2 : Q < 2 ^ 256) (ha : ∀ i, a i < 2 ^ 256) (hn : n < 9223372036854775808) :
    EvC (modEvo 108) Tryd.prog 52 [.s (.v (.slice x n c)), .s (.v (.func (.func 53) #[] #[.pointer (some ⟨j, 0, none⟩)]))]
      (fun B w => natsAt (modEvo 108) x n a B w ∧ (GK k kx kq P Q G B w ∧ oneK B w) ∧ cellAt (modEvo 108) j (.pointer (some ⟨k, 0, none⟩)) B w) (.s (.v (.bool (!allM P Q n a)))) := by
  obtain ⟨r, hr, hd⟩ := ixOf_ex P Q n a
  rw [← hd]
  clear hd
  (refine evC_of Tryd.func52 rfl (by simp only [List.length_cons, List.length_nil, List.map_cons, List.map_nil, List.nodup_cons, List.nodup_nil, List.mem_cons, Nat.reduceAdd, Nat.reduceEqDiff, or_false, not_false_eq_true, forall_eq_or_imp, forall_eq, or_self, Nat.reduceLT, Nat.reduceLeDiff, and_self, List.forall_mem_cons, List.not_mem_nil, false_implies, implies_true, and_true, true_and, vcOGb]) (by simp only [List.length_cons, List.length_nil, List.map_cons, List.map_nil, List.nodup_cons, List.nodup_nil, List.mem_cons, Nat.reduceAdd, Nat.reduceEqDiff, or_false, not_false_eq_true, forall_eq_or_imp, forall_eq, or_self, Nat.reduceLT, Nat.reduceLeDiff, and_self, List.forall_mem_cons, List.not_mem_nil, false_implies, implies_true, and_true, true_and, vcOGb]) fun B w hpre => ?_; simp only [List.length_cons, List.length_nil, Tryd.ntmps52, Nat.reduceAdd, Nat.reduceSub, List.replicate_succ, List.replicate_zero, List.cons_append, List.nil_append])
  have h0 := Kn.entry (P := Tryd.prog) ((natsAt_stays _ x n a).and (((isGrp_stays 108 k kx kq P Q G).and oneK_stays).and (cellAt_stays _ j _))) hpre
  have hm := gix_e x n c a j k kx kq P Q G r hr hP2 hQ2 ha hn
  clear hpre hr
  (repeat' ((first | with_reducible (first | apply cF_pure2 (by assumption) | apply cF_ev2 (by assumption)) | refine X_of _ ?_ | with_reducible (first | exact ⟨_, rfl⟩ | refine And.intro ?_ ?_ | intro _)) <;> try simp -implicitDefEqProofs (maxSteps := 1000000) (disch := first | exact dz2 | fail) only [vcR, vcT, Int.reduceBEq, Int.reduceBNe, Int.reduceEq, Int.reduceNe, Ab.part, Nat.reduceAdd, Nat.reduceMul, Nat.reduceLeDiff, Nat.reduceEqDiff, Nat.reduceBEq, Nat.reduceBNe, reduceCtorEq, ↓reduceIte, implies_true, forall_const, Int.reduceNeg, Int.reduceToNat, Int.reduceLT, Int.reduceLE, Int.reduceAdd, Int.reduceSub, Int.reduceMul, Int.reducePow, Nat.reducePow, true_or, Option.isNone_some, Option.isNone_none, vcXGb, Tryd.f52, List.toList_toArray, arr4_zero, nat4_set1, nat4_setL, nat4_set0]))


theorem gfold_e (x y : Option Addr) (n c d : Nat) (a b : Nat → Nat) (kx P : Nat) (hP : OddM P) (ha : ∀ i, a i < 2 ^ 256) (hb : ∀ i, b i < 2 ^ 256) (hn : n < 9223372036854775808) :
    EvC (modEvo 108) Tryd.prog 54 [.s (.v (.slice x n c)), .s (.v (.slice y n d)), .s (.v (.func (.func 44) #[.pointer (some ⟨kx, 0, none⟩)] #[])), .s (.v (.func (.func 32) #[.pointer (some ⟨kx, 0, none⟩)] #[]))]
      (fun B w => (natsAt (modEvo 108) x n a B w ∧ natsAt (modEvo 108) y n b B w) ∧ (isMod 108 kx P B w ∧ oneK B w)) (.agg (nat4 (mulS P a b n))) := by
  (refine evC_of Tryd.func54 rfl (by simp only [List.length_cons, List.length_nil, List.map_cons, List.map_nil, List.nodup_cons, List.nodup_nil, List.mem_cons, Nat.reduceAdd, Nat.reduceEqDiff, or_false, not_false_eq_true, forall_eq_or_imp, forall_eq, or_self, Nat.reduceLT, Nat.reduceLeDiff, and_self, List.forall_mem_cons, List.not_mem_nil, false_implies, implies_true, and_true, true_and, vcOGb]) (by simp only [List.length_cons, List.length_nil, List.map_cons, List.map_nil, List.nodup_cons, List.nodup_nil, List.mem_cons, Nat.reduceAdd, Nat.reduceEqDiff, or_false, not_false_eq_true, forall_eq_or_imp, forall_eq, or_self, Nat.reduceLT, Nat.reduceLeDiff, and_self, List.forall_mem_cons, List.not_mem_nil, false_implies, implies_true, and_true, true_and, vcOGb]) fun B w hpre => ?_; simp only [List.length_cons, List.length_nil, Tryd.ntmps54, Nat.reduceAdd, Nat.reduceSub, List.replicate_succ, List.replicate_zero, List.cons_append, List.nil_append])
  have hN0 := hpre.1
  have h0 := Kn.entry (P := Tryd.prog) (((natsAt_stays _ x n a).and (natsAt_stays _ y n b)).and ((isMod_stays 108 kx P).and oneK_stays)) hpre
  have hNx := h0.left.left
  have hNy := h0.left.right
  have hM := h0.right.left
  have h1 := h0.right.right
  have h11 : ∀ {K : TV → HE → Prop}, xext (ctxE Tryd.prog (modEvo 108) w B) (some true) 4 ⟨2, 0, none⟩ K = K (.agg (nat4 1)) .none := fun {K} => Kn.one1 h1
  clear hpre h0
  (repeat' ((first | with_reducible (first | apply XR_cons | apply XR_consG | apply XR_nil | apply XM_cons | apply XM_consG | apply XM_nil | apply cF_pure2 (by assumption) | apply cM_pure2 (by assumption) | apply cF_ev2 (by assumption) | apply cM_ev2 (by assumption)) | (with_reducible apply X_drawM (id := 5) 8 [] (.cons 8 (.cons 9 (.cons 10 .nil .nil) .nil) .nil); (next => (kernel_rfl)); (next => (kernel_rfl))) | refine X_of _ ?_ | with_reducible (first | exact ⟨_, rfl⟩ | refine And.intro ?_ ?_ | intro _)) <;> try simp -implicitDefEqProofs (maxSteps := 1000000) (disch := first | exact dz2 | fail) only [vcR, vcT, Int.reduceBEq, Int.reduceBNe, Int.reduceEq, Int.reduceNe, Ab.part, Nat.reduceAdd, Nat.reduceMul, Nat.reduceLeDiff, Nat.reduceEqDiff, Nat.reduceBEq, Nat.reduceBNe, reduceCtorEq, ↓reduceIte, implies_true, forall_const, Int.reduceNeg, Int.reduceToNat, Int.reduceLT, Int.reduceLE, Int.reduceAdd, Int.reduceSub, Int.reduceMul, Int.reducePow, Nat.reducePow, true_or, Option.isNone_some, Option.isNone_none, vcXGb, Tryd.f54, List.toList_toArray, arr4_zero, nat4_set1, nat4_setL, nat4_set0, h11]))
  refine X_loop (ι := Nat) (fun i => i ≤ n) (fun i => n - i) [10, 11, 15, 16, 17, 18, 19, 20, 21, 22, 23, 24, 25, 26, 27, 28, 29, 30]
    (fun i => [(15, .s (.v (.int .i64 (i : Nat))))])
    (fun i => [(1, nat4 (mulS P a b i))]) 0 (shape_of fun i => ?_) (by decide) ?_ ?_
  · simp only [List.length_cons, List.length_nil, List.map_cons, List.map_nil, List.nodup_cons, List.nodup_nil, List.mem_cons, Nat.reduceAdd, Nat.reduceEqDiff, or_false, not_false_eq_true, forall_eq_or_imp, forall_eq, or_self, Nat.reduceLT, Nat.reduceLeDiff, and_self, List.forall_mem_cons, List.not_mem_nil, false_implies, implies_true, and_true, true_and, vcOGb]
  · simp -implicitDefEqProofs (maxSteps := 1000000) (disch := first | exact dz2 | fail) only [vcR, vcT, Int.reduceBEq, Int.reduceBNe, Int.reduceEq, Int.reduceNe, Ab.part, Nat.reduceAdd, Nat.reduceMul, Nat.reduceLeDiff, Nat.reduceEqDiff, Nat.reduceBEq, Nat.reduceBNe, reduceCtorEq, ↓reduceIte, implies_true, forall_const, Int.reduceNeg, Int.reduceToNat, Int.reduceLT, Int.reduceLE, Int.reduceAdd, Int.reduceSub, Int.reduceMul, Int.reducePow, Nat.reducePow, true_or, Option.isNone_some, Option.isNone_none, vcXGb, Tryd.f54, List.toList_toArray, again_eq]
    try simp
    all_goals rfl
  · intro i us hi
    by_cases h : i < n
    · obtain ⟨ad, rfl⟩ : ∃ ad, x = some ad := by
        rcases hN0.1 with h0 | ⟨ad, h0, _⟩
        · omega
        · exact ⟨ad, h0⟩
      obtain ⟨ay, rfl⟩ : ∃ ad, y = some ad := by
        rcases hN0.2 with h0 | ⟨ad, h0, _⟩
        · omega
        · exact ⟨ad, h0⟩
      have hx : ∀ {K : TV → HE → Prop}, xext (ctxE Tryd.prog (modEvo 108) w B) (some true) 4 (ad.add (i * 4)) K = K (.agg (nat4 (a i))) .none := fun {K} => hNx.nat h
      have hy : ∀ {K : TV → HE → Prop}, xext (ctxE Tryd.prog (modEvo 108) w B) (some true) 4 (ay.add (i * 4)) K = K (.agg (nat4 (b i))) .none := fun {K} => hNy.nat h
      have hp := pow_e kx P (a i) (b i) hP (ha i) (hb i)
      obtain ⟨p, hpp⟩ : ∃ p, a i ^ b i % P = p := ⟨_, rfl⟩
      have hp2 : p < 2 ^ 256 := by rw [← hpp]; exact hP.mod_lt
      have hs := mulS_lt hP a b i
      have hsi : mulS P a b (i + 1) = mulS P a b i * p % P := by rw [← hpp]; rfl
      obtain ⟨s, hss⟩ : ∃ s, mulS P a b i = s := ⟨_, rfl⟩
      obtain ⟨s', hss'⟩ : ∃ s', mulS P a b (i + 1) = s' := ⟨_, rfl⟩
      rw [hpp] at hp
      rw [hss] at hs hsi ⊢
      have ht := times_e kx P s p hP hs hp2
      rw [← hsi, hss'] at ht
      clear hN0 ha hb hpp hsi
      (repeat' ((first | with_reducible (first | apply XQ_cons | apply XQ_consG | apply XQ_nil | apply XR_cons | apply XR_consG | apply XR_nil | apply cF_pure2 (by assumption) | apply cV_pure2 (by assumption) | apply cF_ev2 (by assumption) | apply cV_ev2 (by assumption)) | (with_reducible apply X_drawC (id := 5) 10; (next => (kernel_rfl)); (next => (kernel_rfl))) | refine X_of _ ?_ | with_reducible (first | exact ⟨_, rfl⟩ | refine And.intro ?_ ?_ | intro _)) <;> try simp -implicitDefEqProofs (maxSteps := 1000000) (disch := first | exact dz2 | fail) only [vcR, vcT, Int.reduceBEq, Int.reduceBNe, Int.reduceEq, Int.reduceNe, Ab.part, Nat.reduceAdd, Nat.reduceMul, Nat.reduceLeDiff, Nat.reduceEqDiff, Nat.reduceBEq, Nat.reduceBNe, reduceCtorEq, ↓reduceIte, implies_true, forall_const, Int.reduceNeg, Int.reduceToNat, Int.reduceLT, Int.reduceLE, Int.reduceAdd, Int.reduceSub, Int.reduceMul, Int.reducePow, Nat.reducePow, true_or, Option.isNone_some, Option.isNone_none, vcXGb, Tryd.f54, List.toList_toArray, arr4_zero, nat4_set1, nat4_setL, nat4_set0, hx,hy]))
      refine ⟨i + 1, by omega, ?_⟩
      simp -implicitDefEqProofs (maxSteps := 1000000) (disch := first | exact dz2 | fail) only [vcR, vcT, Int.reduceBEq, Int.reduceBNe, Int.reduceEq, Int.reduceNe, Ab.part, Nat.reduceAdd, Nat.reduceMul, Nat.reduceLeDiff, Nat.reduceEqDiff, Nat.reduceBEq, Nat.reduceBNe, reduceCtorEq, ↓reduceIte, implies_true, forall_const, Int.reduceNeg, Int.reduceToNat, Int.reduceLT, Int.reduceLE, Int.reduceAdd, Int.reduceSub, Int.reduceMul, Int.reducePow, Nat.reducePow, true_or, Option.isNone_some, Option.isNone_none, vcXGb, Tryd.f54, List.toList_toArray, again_eq,hss']
      first | exact ⟨_, rfl, rfl⟩ | exact ⟨_, rfl⟩ | rfl | trace_state
    · have : i = n := by omega
      subst this
      (repeat' ((first | with_reducible (first | apply XR_cons | apply XR_consG | apply XR_nil | apply XM_cons | apply XM_consG | apply XM_nil | apply cF_pure2 (by assumption) | apply cM_pure2 (by assumption) | apply cF_ev2 (by assumption) | apply cM_ev2 (by assumption)) | (with_reducible apply X_drawM (id := 5) 8 [] (.cons 8 (.cons 9 (.cons 10 .nil .nil) .nil) .nil); (next => (kernel_rfl)); (next => (kernel_rfl))) | refine X_of _ ?_ | with_reducible (first | exact ⟨_, rfl⟩ | refine And.intro ?_ ?_ | intro _)) <;> try simp -implicitDefEqProofs (maxSteps := 1000000) (disch := first | exact dz2 | fail) only [vcR, vcT, Int.reduceBEq, Int.reduceBNe, Int.reduceEq, Int.reduceNe, Ab.part, Nat.reduceAdd, Nat.reduceMul, Nat.reduceLeDiff, Nat.reduceEqDiff, Nat.reduceBEq, Nat.reduceBNe, reduceCtorEq, ↓reduceIte, implies_true, forall_const, Int.reduceNeg, Int.reduceToNat, Int.reduceLT, Int.reduceLE, Int.reduceAdd, Int.reduceSub, Int.reduceMul, Int.reducePow, Nat.reducePow, true_or, Option.isNone_some, Option.isNone_none, vcXGb, Tryd.f54, List.toList_toArray, arr4_zero, nat4_set1, nat4_setL, nat4_set0]))
end Go.Proofs.YtdmcknmjdlghgaaDoor
namespace Go.Proofs.YtdmcknmjdlghgaaDoor
open Go Go.Ab
set_option linter.unusedSimpArgs false
set_option linter.unusedVariables false
set_option linter.defProp false
set_option maxHeartbeats 20000000
set_option maxRecDepth 100000

theorem muE_arg {P Q n m : Nat} {a : Nat → Nat} (h : n ≠ m ∨ 40 < n) : muE P Q n m a = 1 := if_pos h
theorem muE_ok {P Q n m : Nat} {a : Nat → Nat} (h : ¬ (n ≠ m ∨ 40 < n)) : muE P Q n m a = if allM P Q n a then 0 else 22 := if_neg h


theorem gMulti_e (x y : Option Addr) (n m c d : Nat) (a b : Nat → Nat) (k kx kq P Q G : Nat) (hP2 : P < 2 ^ 256) (hQ2 : Q < 2 ^ 256) (ha : ∀ i, a i < 2 ^ 256) (hb : ∀ i, b i < 2 ^ 256) (hn : n < 9223372036854775808) (hm : m < 9223372036854775808) :
    EvC (modEvo 108) Tryd.prog 27 [.s (.v (.pointer (some ⟨k, 0, none⟩))), .s (.v (.slice x n c)), .s (.v (.slice y m d))]
      (fun B w => (natsAt (modEvo 108) x n a B w ∧ natsAt (modEvo 108) y m b B w) ∧ (GK k kx kq P Q G B w ∧ oneK B w)) (.tup [.agg (nat4 (muV P Q n m a b)), .s (.v (.int .i64 (muE P Q n m a)))]) := by
  (refine evC_of Tryd.func27 rfl (by simp only [List.length_cons, List.length_nil, List.map_cons, List.map_nil, List.nodup_cons, List.nodup_nil, List.mem_cons, Nat.reduceAdd, Nat.reduceEqDiff, or_false, not_false_eq_true, forall_eq_or_imp, forall_eq, or_self, Nat.reduceLT, Nat.reduceLeDiff, and_self, List.forall_mem_cons, List.not_mem_nil, false_implies, implies_true, and_true, true_and, vcOGb]) (by simp only [List.length_cons, List.length_nil, List.map_cons, List.map_nil, List.nodup_cons, List.nodup_nil, List.mem_cons, Nat.reduceAdd, Nat.reduceEqDiff, or_false, not_false_eq_true, forall_eq_or_imp, forall_eq, or_self, Nat.reduceLT, Nat.reduceLeDiff, and_self, List.forall_mem_cons, List.not_mem_nil, false_implies, implies_true, and_true, true_and, vcOGb]) fun B w hpre => ?_; simp only [List.length_cons, List.length_nil, Tryd.ntmps27, Nat.reduceAdd, Nat.reduceSub, List.replicate_succ, List.replicate_zero, List.cons_append, List.nil_append])
  have h0 := Kn.entry (P := Tryd.prog) (((natsAt_stays _ x n a).and (natsAt_stays _ y m b)).and ((isGrp_stays 108 k kx kq P Q G).and oneK_stays)) hpre
  clear hpre
  obtain ⟨hP, hQ⟩ := h0.right.left.gOdd
  unfold muV
  obtain ⟨e, he⟩ : ∃ e, muE P Q n m a = e := ⟨_, rfl⟩
  rw [he]
  by_cases hnm : n ≠ m ∨ 40 < n
  · rw [muE_arg hnm] at he
    subst he
    clear h0
    by_cases hnm2 : n = m
    · subst hnm2
      have h40 : 40 < n := by omega
      (repeat' ((first | with_reducible (first | apply XQ_cons | apply XQ_consG | apply XQ_nil | apply XR_cons | apply XR_consG | apply XR_nil | apply cF_pure2 (by assumption) | apply cV_pure2 (by assumption) | apply cF_ev2 (by assumption) | apply cV_ev2 (by assumption)) | with_reducible (first | apply X_regRS (id := 1) | apply X_regR (id := 1) | apply X_seqX (x := .seq (.region 1 _ false) _) | apply X_seqX (x := .seq (.seq (.region 1 _ false) _) _)) | (with_reducible apply X_drawC (id := 5) 12; (next => (kernel_rfl)); (next => (kernel_rfl))) | refine X_of _ ?_ | with_reducible (first | exact ⟨_, rfl⟩ | refine And.intro ?_ ?_ | intro _)) <;> try simp -implicitDefEqProofs (maxSteps := 1000000) (disch := first | exact dz2 | fail) only [vcR, vcT, Int.reduceBEq, Int.reduceBNe, Int.reduceEq, Int.reduceNe, Ab.part, Nat.reduceAdd, Nat.reduceMul, Nat.reduceLeDiff, Nat.reduceEqDiff, Nat.reduceBEq, Nat.reduceBNe, reduceCtorEq, ↓reduceIte, implies_true, forall_const, Int.reduceNeg, Int.reduceToNat, Int.reduceLT, Int.reduceLE, Int.reduceAdd, Int.reduceSub, Int.reduceMul, Int.reducePow, Nat.reducePow, true_or, Option.isNone_some, Option.isNone_none, vcXGb, Tryd.f27, List.toList_toArray, arr4_zero, nat4_set1, nat4_setL, nat4_set0, bne_self_eq_false]))
    · have hbn : (n != m) = true := bne_iff_ne.2 hnm2
      (repeat' ((first | with_reducible (first | apply XQ_cons | apply XQ_consG | apply XQ_nil | apply XR_cons | apply XR_consG | apply XR_nil | apply cF_pure2 (by assumption) | apply cV_pure2 (by assumption) | apply cF_ev2 (by assumption) | apply cV_ev2 (by assumption)) | with_reducible (first | apply X_regRS (id := 1) | apply X_regR (id := 1) | apply X_seqX (x := .seq (.region 1 _ false) _) | apply X_seqX (x := .seq (.seq (.region 1 _ false) _) _)) | (with_reducible apply X_drawC (id := 5) 12; (next => (kernel_rfl)); (next => (kernel_rfl))) | refine X_of _ ?_ | with_reducible (first | exact ⟨_, rfl⟩ | refine And.intro ?_ ?_ | intro _)) <;> try simp -implicitDefEqProofs (maxSteps := 1000000) (disch := first | exact dz2 | fail) only [vcR, vcT, Int.reduceBEq, Int.reduceBNe, Int.reduceEq, Int.reduceNe, Ab.part, Nat.reduceAdd, Nat.reduceMul, Nat.reduceLeDiff, Nat.reduceEqDiff, Nat.reduceBEq, Nat.reduceBNe, reduceCtorEq, ↓reduceIte, implies_true, forall_const, Int.reduceNeg, Int.reduceToNat, Int.reduceLT, Int.reduceLE, Int.reduceAdd, Int.reduceSub, Int.reduceMul, Int.reducePow, Nat.reducePow, true_or, Option.isNone_some, Option.isNone_none, vcXGb, Tryd.f27, List.toList_toArray, arr4_zero, nat4_set1, nat4_setL, nat4_set0, hbn]))
  · rw [muE_ok hnm] at he
    have hnm2 : n = m := by omega
    subst hnm2
    have h40 : n ≤ 40 := by omega
    clear hnm
    (refine X_of _ ?_; simp -implicitDefEqProofs (maxSteps := 1000000) (disch := first | exact dz2 | fail) only [vcR, vcT, Int.reduceBEq, Int.reduceBNe, Int.reduceEq, Int.reduceNe, Ab.part, Nat.reduceAdd, Nat.reduceMul, Nat.reduceLeDiff, Nat.reduceEqDiff, Nat.reduceBEq, Nat.reduceBNe, reduceCtorEq, ↓reduceIte, implies_true, forall_const, Int.reduceNeg, Int.reduceToNat, Int.reduceLT, Int.reduceLE, Int.reduceAdd, Int.reduceSub, Int.reduceMul, Int.reducePow, Nat.reducePow, true_or, Option.isNone_some, Option.isNone_none, vcXGb, Tryd.f27, List.toList_toArray, bne_self_eq_false])
    refine X_rebase (modEvo 108) B [1] (by decide) (by simp) rfl (.inl ⟨rfl, rfl⟩) (fun _ h => h) (by simp [modEvo]) fun β1 w1 hR1 => ?_
    have h1 := h0.after (L := [1]) hR1 (by simp)
    have hc : Kn ((ctxE Tryd.prog (modEvo 108) w B).after (modEvo 108) B w1 β1 [1]) (cellAt (modEvo 108) (β1 0) (.pointer (some ⟨k, 0, none⟩))) := cellsAt_gone (n := 1) (V := modEvo 108) (B := B) (g := fun _ => .pointer (some ⟨k, 0, none⟩)) (L := [1]) (j := 0) hR1 rfl (by decide) (by simp) (by simp [modEvo]) fun i hi => by
      rcases i with _ | i
      · rfl
      · omega
    clear h0 hR1
    obtain ⟨j, hj⟩ : ∃ j, β1 0 = j := ⟨_, rfl⟩
    rw [hj] at hc
    have hNx : Kn ((ctxE Tryd.prog (modEvo 108) w B).after (modEvo 108) B w1 β1 [1]) _ := h1.left.left
    have hNy : Kn ((ctxE Tryd.prog (modEvo 108) w B).after (modEvo 108) B w1 β1 [1]) _ := h1.left.right
    have hG : Kn ((ctxE Tryd.prog (modEvo 108) w B).after (modEvo 108) B w1 β1 [1]) (GK k kx kq P Q G) := h1.right.left
    have hO : Kn ((ctxE Tryd.prog (modEvo 108) w B).after (modEvo 108) B w1 β1 [1]) oneK := h1.right.right
    have hM := hG.gmx
    clear h1
    have hx : ∀ {K : TV → HE → Prop} {q : Nat}, xext ((ctxE Tryd.prog (modEvo 108) w B).after (modEvo 108) B w1 β1 [1]) (some false) q ⟨k, 12, none⟩ K = K (.s (.v (.pointer (some ⟨kx, 0, none⟩)))) .none := fun {K} => hG.gx
    have hl : ∀ {K : TV → HE → Prop} {q : Nat}, xext ((ctxE Tryd.prog (modEvo 108) w B).after (modEvo 108) B w1 β1 [1]) (some false) q ⟨j, 0, none⟩ K = K (.s (.v (.pointer (some ⟨k, 0, none⟩)))) .none := fun {K} => hc.cell1
    have hct := gct_e x n c a j k kx kq P Q G hP2 hQ2 ha hn
    have hf := gfold_e x y n c d a b kx P hP ha hb hn
    have hs := mulS_lt hP a b n
    obtain ⟨s, hss⟩ : ∃ s, mulS P a b n = s := ⟨_, rfl⟩
    rw [hss] at hf hs ⊢
    clear ha hb hss
    cases hall : allM P Q n a with
    | true =>
      rw [hall] at he hct
      subst he
      try simp -implicitDefEqProofs (maxSteps := 1000000) (disch := first | exact dz2 | fail) only [vcR, vcT, Int.reduceBEq, Int.reduceBNe, Int.reduceEq, Int.reduceNe, Ab.part, Nat.reduceAdd, Nat.reduceMul, Nat.reduceLeDiff, Nat.reduceEqDiff, Nat.reduceBEq, Nat.reduceBNe, reduceCtorEq, ↓reduceIte, implies_true, forall_const, Int.reduceNeg, Int.reduceToNat, Int.reduceLT, Int.reduceLE, Int.reduceAdd, Int.reduceSub, Int.reduceMul, Int.reducePow, Nat.reducePow, true_or, Option.isNone_some, Option.isNone_none, vcXGb, Tryd.f27, List.toList_toArray, arr4_zero,hj]
      (repeat' ((first | with_reducible (first | apply XQ_cons | apply XQ_consG | apply XQ_nil | apply XR_cons | apply XR_consG | apply XR_nil | apply cF_pure2 (by assumption) | apply cV_pure2 (by assumption) | apply cF_ev2 (by assumption) | apply cV_ev2 (by assumption)) | with_reducible (first | apply X_regRS (id := 1) | apply X_regR (id := 1) | apply X_seqX (x := .seq (.region 1 _ false) _) | apply X_seqX (x := .seq (.seq (.region 1 _ false) _) _)) | (with_reducible apply X_drawC (id := 5) 12; (next => (kernel_rfl)); (next => (kernel_rfl))) | refine X_of _ ?_ | with_reducible (first | exact ⟨_, rfl⟩ | refine And.intro ?_ ?_ | intro _)) <;> try simp -implicitDefEqProofs (maxSteps := 1000000) (disch := first | exact dz2 | fail) only [vcR, vcT, Int.reduceBEq, Int.reduceBNe, Int.reduceEq, Int.reduceNe, Ab.part, Nat.reduceAdd, Nat.reduceMul, Nat.reduceLeDiff, Nat.reduceEqDiff, Nat.reduceBEq, Nat.reduceBNe, reduceCtorEq, ↓reduceIte, implies_true, forall_const, Int.reduceNeg, Int.reduceToNat, Int.reduceLT, Int.reduceLE, Int.reduceAdd, Int.reduceSub, Int.reduceMul, Int.reducePow, Nat.reducePow, true_or, Option.isNone_some, Option.isNone_none, vcXGb, Tryd.f27, List.toList_toArray, arr4_zero, nat4_set1, nat4_setL, nat4_set0, addr_add,hx,hl,bne_self_eq_false]))
    | false =>
      rw [hall] at he hct
      subst he
      try simp -implicitDefEqProofs (maxSteps := 1000000) (disch := first | exact dz2 | fail) only [vcR, vcT, Int.reduceBEq, Int.reduceBNe, Int.reduceEq, Int.reduceNe, Ab.part, Nat.reduceAdd, Nat.reduceMul, Nat.reduceLeDiff, Nat.reduceEqDiff, Nat.reduceBEq, Nat.reduceBNe, reduceCtorEq, ↓reduceIte, implies_true, forall_const, Int.reduceNeg, Int.reduceToNat, Int.reduceLT, Int.reduceLE, Int.reduceAdd, Int.reduceSub, Int.reduceMul, Int.reducePow, Nat.reducePow, true_or, Option.isNone_some, Option.isNone_none, vcXGb, Tryd.f27, List.toList_toArray, arr4_zero,hj]
      (repeat' ((first | with_reducible (first | apply XQ_cons | apply XQ_consG | apply XQ_nil | apply XR_cons | apply XR_consG | apply XR_nil | apply cF_pure2 (by assumption) | apply cV_pure2 (by assumption) | apply cF_ev2 (by assumption) | apply cV_ev2 (by assumption)) | with_reducible (first | apply X_regRS (id := 1) | apply X_regR (id := 1) | apply X_seqX (x := .seq (.region 1 _ false) _) | apply X_seqX (x := .seq (.seq (.region 1 _ false) _) _)) | (with_reducible apply X_drawC (id := 5) 12; (next => (kernel_rfl)); (next => (kernel_rfl))) | refine X_of _ ?_ | with_reducible (first | exact ⟨_, rfl⟩ | refine And.intro ?_ ?_ | intro _)) <;> try simp -implicitDefEqProofs (maxSteps := 1000000) (disch := first | exact dz2 | fail) only [vcR, vcT, Int.reduceBEq, Int.reduceBNe, Int.reduceEq, Int.reduceNe, Ab.part, Nat.reduceAdd, Nat.reduceMul, Nat.reduceLeDiff, Nat.reduceEqDiff, Nat.reduceBEq, Nat.reduceBNe, reduceCtorEq, ↓reduceIte, implies_true, forall_const, Int.reduceNeg, Int.reduceToNat, Int.reduceLT, Int.reduceLE, Int.reduceAdd, Int.reduceSub, Int.reduceMul, Int.reducePow, Nat.reducePow, true_or, Option.isNone_some, Option.isNone_none, vcXGb, Tryd.f27, List.toList_toArray, arr4_zero, nat4_set1, nat4_setL, nat4_set0, addr_add,hx,hl,bne_self_eq_false]))
end Go.Proofs.YtdmcknmjdlghgaaDoor
namespace Go.Proofs.YtdmcknmjdlghgaaDoor
open Go Go.Ab
set_option linter.unusedSimpArgs false
set_option linter.unusedVariables false
set_option linter.defProp false
set_option maxHeartbeats 20000000
set_option maxRecDepth 100000

theorem one_nats (a : Nat) : nat4 a = nats 1 (fun _ => a) := by
  have h0 := nats_snoc (n := 0) (l := fun _ => a)
  rw [nats_zero, List.nil_append] at h0
  exact h0
theorem one_setN (a : Nat) : setAt (arr 4 fun _ => 0) 0 (nat4 a) = nats 1 (fun _ => a) := by
  rw [← one_nats]
  rfl


theorem gExp_e (k kx kq P Q G a n : Nat) (hP2 : P < 2 ^ 256) (hQ2 : Q < 2 ^ 256) (ha : a < 2 ^ 256) (hn : n < 2 ^ 256) :
    EvC (modEvo 108) Tryd.prog 24 [.s (.v (.pointer (some ⟨k, 0, none⟩))), .agg (nat4 a), .agg (nat4 n)]
      (fun B w => GK k kx kq P Q G B w ∧ oneK B w) (.tup [.agg (nat4 (muV P Q 1 1 (fun _ => a) (fun _ => n))), .s (.v (.int .i64 (muE P Q 1 1 fun _ => a)))]) := by
  have hm := fun x y => gMulti_e x y 1 1 1 1 (fun _ => a) (fun _ => n) k kx kq P Q G hP2 hQ2 (fun _ => ha) (fun _ => hn) (by decide) (by decide)
  obtain ⟨v, hv⟩ : ∃ v, muV P Q 1 1 (fun _ => a) (fun _ => n) = v := ⟨_, rfl⟩
  obtain ⟨e, he⟩ : ∃ e, muE P Q 1 1 (fun _ => a) = e := ⟨_, rfl⟩
  rw [hv, he] at hm ⊢
  clear hv he
  (refine evC_of Tryd.func24 rfl (by simp only [List.length_cons, List.length_nil, List.map_cons, List.map_nil, List.nodup_cons, List.nodup_nil, List.mem_cons, Nat.reduceAdd, Nat.reduceEqDiff, or_false, not_false_eq_true, forall_eq_or_imp, forall_eq, or_self, Nat.reduceLT, Nat.reduceLeDiff, and_self, List.forall_mem_cons, List.not_mem_nil, false_implies, implies_true, and_true, true_and, vcOGb]) (by simp only [List.length_cons, List.length_nil, List.map_cons, List.map_nil, List.nodup_cons, List.nodup_nil, List.mem_cons, Nat.reduceAdd, Nat.reduceEqDiff, or_false, not_false_eq_true, forall_eq_or_imp, forall_eq, or_self, Nat.reduceLT, Nat.reduceLeDiff, and_self, List.forall_mem_cons, List.not_mem_nil, false_implies, implies_true, and_true, true_and, vcOGb]) fun B w hpre => ?_; simp only [List.length_cons, List.length_nil, Tryd.ntmps24, Nat.reduceAdd, Nat.reduceSub, List.replicate_succ, List.replicate_zero, List.cons_append, List.nil_append])
  have h0 := Kn.entry (P := Tryd.prog) ((isGrp_stays 108 k kx kq P Q G).and oneK_stays) hpre
  clear hpre
  have hz : slice0 Tryd.prog 24 1 = some (arr 4 fun _ => 0) := by kernel_rfl
  (repeat' ((first | with_reducible (first | apply XR_cons | apply XR_consG | apply XR_nil | apply cF_pure2 (by assumption) | apply cF_ev2 (by assumption)) | with_reducible (first | apply X_regRS (id := 1) | apply X_regR (id := 1) | apply X_seqX (x := .seq (.region 1 _ false) _) | apply X_seqX (x := .seq (.seq (.region 1 _ false) _) _)) | refine X_of _ ?_ | with_reducible (first | exact ⟨_, rfl⟩ | refine And.intro ?_ ?_ | intro _)) <;> try simp -implicitDefEqProofs (maxSteps := 1000000) (disch := first | exact dz2 | fail) only [vcR, vcT, Int.reduceBEq, Int.reduceBNe, Int.reduceEq, Int.reduceNe, Ab.part, Nat.reduceAdd, Nat.reduceMul, Nat.reduceLeDiff, Nat.reduceEqDiff, Nat.reduceBEq, Nat.reduceBNe, reduceCtorEq, ↓reduceIte, implies_true, forall_const, Int.reduceNeg, Int.reduceToNat, Int.reduceLT, Int.reduceLE, Int.reduceAdd, Int.reduceSub, Int.reduceMul, Int.reducePow, Nat.reducePow, true_or, Option.isNone_some, Option.isNone_none, vcXGb, Tryd.f24, List.toList_toArray, arr4_zero, nat4_set1, nat4_setL, nat4_set0, st_bs,xbs_some,hz,one_setN]))
  refine yF_evz (fun β w' hR => ⟨_, hm (some ⟨β 3, 0, none⟩) (some ⟨β 4, 0, none⟩), ⟨natsAt_own0 hR rfl (by decide), natsAt_own0 hR rfl (by decide)⟩, h0 w' hR.fr.to⟩) rfl rfl (by kernel_rfl) ?_
  (repeat' ((first | with_reducible (first | apply XR_cons | apply XR_consG | apply XR_nil | apply cF_pure2 (by assumption) | apply cF_ev2 (by assumption)) | with_reducible (first | apply X_regRS (id := 1) | apply X_regR (id := 1) | apply X_seqX (x := .seq (.region 1 _ false) _) | apply X_seqX (x := .seq (.seq (.region 1 _ false) _) _)) | refine X_of _ ?_ | with_reducible (first | exact ⟨_, rfl⟩ | refine And.intro ?_ ?_ | intro _)) <;> try simp -implicitDefEqProofs (maxSteps := 1000000) (disch := first | exact dz2 | fail) only [vcR, vcT, Int.reduceBEq, Int.reduceBNe, Int.reduceEq, Int.reduceNe, Ab.part, Nat.reduceAdd, Nat.reduceMul, Nat.reduceLeDiff, Nat.reduceEqDiff, Nat.reduceBEq, Nat.reduceBNe, reduceCtorEq, ↓reduceIte, implies_true, forall_const, Int.reduceNeg, Int.reduceToNat, Int.reduceLT, Int.reduceLE, Int.reduceAdd, Int.reduceSub, Int.reduceMul, Int.reducePow, Nat.reducePow, true_or, Option.isNone_some, Option.isNone_none, vcXGb, Tryd.f24, List.toList_toArray, arr4_zero, nat4_set1, nat4_setL, nat4_set0]))


end Go.Proofs.YtdmcknmjdlghgaaDoor
namespace Go.Ab
set_option linter.unusedSimpArgs false
set_option linter.unusedVariables false

/-- What a step says. -/
theorem stS_ok {N G n : Nat} {P : Nat → Nat} {E : Nat → Int} (h : stS N G n P E = 0) :
    N % 2 = 1 ∧ 3 ≤ N ∧ prT P E n = N - 1 ∧ G ^ (N - 1) % N = 1 ∧ ∀ i, i < n → G ^ ((N - 1) / P i) % N ≠ 1 := by
  unfold stS at h
  split at h
  · rename_i h1; exact absurd h h1
  rename_i h1
  split at h
  · cases h
  rename_i h2
  split at h
  · cases h
  rename_i h3
  split at h
  · cases h
  rename_i h4
  have h2' : N % 2 = 1 ∧ 3 ≤ N := Classical.not_not.1 h2
  have h1' : (prS n P E).2 = 0 := Classical.not_not.1 h1
  have h5 : (prS n P E).1 = N - 1 := by
    by_cases h6 : (prS n P E).1 = N - 1
    · exact h6
    · exact absurd (.inl h6) h3
  have h6 : G ^ (N - 1) % N = 1 := by
    by_cases h7 : G ^ (N - 1) % N = 1
    · exact h7
    · exact absurd (.inr h7) h3
  refine ⟨h2'.1, h2'.2, ?_, h6, fun i hi he => ?_⟩
  · unfold prS at h1' h5
    split at h5
    · rename_i hc; rw [if_pos hc] at h1'; cases h1'
    rename_i hc
    rw [if_neg hc] at h1'
    split at h5
    · rename_i hc2; rw [if_pos hc2] at h1'; cases h1'
    rename_i hc2
    rw [if_neg hc2] at h1'
    split at h5
    · simp only at h5; omega
    rename_i hc3
    rw [if_neg hc3] at h1'
    split at h5
    · exact h5
    · rename_i hc4; rw [if_neg hc4] at h1'; cases h1'
  · exact h4 (anyB_iff.2 ⟨i, hi, by unfold stB; rw [Bool.or_eq_true, decide_eq_true_iff, decide_eq_true_iff]; exact .inr he⟩)
theorem ckU_before {l : Nat → Pf} {m : Nat} (h : ckU l (m + 1) = 0) : ckU l m = 0 ∧ ckA l m = 0 := by
  have h' : (if ckU l m ≠ 0 then ckU l m else ckA l m) = 0 := h
  split at h'
  · rename_i h1; exact absurd h' h1
  · rename_i h1; exact ⟨Classical.not_not.1 h1, h'⟩
theorem ckA_ok {l : Nat → Pf} {i : Nat} (h : ckA l i = 0) : (∀ k, k < (l i).n → knS l i ((l i).P k) = true) ∧ stS (l i).N (l i).G (l i).n (l i).P (l i).E = 0 := by
  unfold ckA at h
  split at h
  · cases h
  · rename_i h1
    refine ⟨fun k hk => ?_, h⟩
    have h2 := anyB_false.1 (Bool.not_eq_true _ ▸ h1) k hk
    simpa using h2
/-- What is proved is 2, or odd, and 3 at least. -/
theorem odd_of_known {l : Nat → Pf} : ∀ {m : Nat}, ckU l m = 0 → ∀ n, knS l m n = true → n = 2 ∨ (n % 2 = 1 ∧ 3 ≤ n)
  | 0, _, n, hn => by
    rw [knS_zero] at hn
    exact .inl (by simpa using hn)
  | m + 1, h, n, hn => by
    obtain ⟨h1, h2⟩ := ckU_before h
    rw [knS_succ, Bool.or_eq_true] at hn
    rcases hn with hn | hn
    · exact odd_of_known h1 n hn
    · have : n = (l m).N := by simpa using hn
      subst this
      obtain ⟨h5, h6, _⟩ := stS_ok (ckA_ok h2).2
      exact .inr ⟨h5, h6⟩
end Go.Ab
namespace Go.Proofs.YtdmcknmjdlghgaaDoor
open Go Go.Ab
set_option linter.unusedSimpArgs false
set_option linter.unusedVariables false
set_option maxRecDepth 100000

/-! Tryd# One power, one product -/
/-! Tryd# GroupSums -/
/-! Tryd# GroupBack -/
/-! Tryd# GroupTurned -/
/-! Tryd# GroupFew -/
/-- The powers of G, as a mask; they are told apart. -/
def maskP (P G : Nat) : Nat → Nat → Nat → Nat
  | 0, _, m => m
  | n + 1, x, m => maskP P G n (x * G % P) (m ||| (1 <<< x))
def allUp (f : Nat → Bool) : Nat → Bool
  | 0 => true
  | n + 1 => allUp f n && f n
/-- What is reckoned of a small group: its members are the powers, and no power below Q is 1. -/
def fewB (P Q G : Nat) : Bool := allUp (fun a => memB P Q a == (maskP P G Q (1 % P) 0).testBit a) P && allUp (fun i => i == 0 || decide (G ^ i % P ≠ 1)) Q
/-! Tryd# The four -/
theorem sm_few (z : Int) : fewB (smP z) (smQ z) 4 = true := by
  unfold smP smQ
  split
  · kernel_rfl
  · split
    · kernel_rfl
    · split <;> kernel_rfl
structure SmOk (P Q : Nat) : Prop where
  gr : grOK P Q 4
  few : fewB P Q 4 = true
  lt : Q < 18446744073709551616
theorem sm_ok (z : Int) : SmOk (smP z) (smQ z) := by
  refine ⟨?_, sm_few z, ?_⟩
  · unfold smP smQ
    split
    · exact ⟨⟨by decide, by decide, by decide⟩, ⟨by decide, by decide, by decide⟩, by decide, by decide, by decide, by decide, by kernel_rfl⟩
    · split
      · exact ⟨⟨by decide, by decide, by decide⟩, ⟨by decide, by decide, by decide⟩, by decide, by decide, by decide, by decide, by kernel_rfl⟩
      · split <;> exact ⟨⟨by decide, by decide, by decide⟩, ⟨by decide, by decide, by decide⟩, by decide, by decide, by decide, by decide, by kernel_rfl⟩
  · unfold smQ
    split
    · decide
    · split
      · decide
      · split <;> decide
end Go.Proofs.YtdmcknmjdlghgaaDoor
namespace Go.Proofs.YtdmcknmjdlghgaaDoor
open Go Go.Ab
set_option linter.unusedSimpArgs false
set_option linter.unusedVariables false
set_option linter.defProp false
set_option maxHeartbeats 20000000
set_option maxRecDepth 100000

theorem gv_kn {P0 : Program} {w : World} (h : gv w) : Kn (ctx0 P0 w) fun _ w => gv w := fun w' hw' => ⟨(least_kn (P0 := P0) h.1).least0 w' hw', (gnat_kn (P0 := P0) h.2.1).gnat0 w' hw', (gnat_kn (P0 := P0) h.2.2.1).gnat0 w' hw', (gnat_kn (P0 := P0) h.2.2.2).gnat0 w' hw'⟩
theorem lies_at {Γ : Ctx} {H : Heap} {β : Nat → Nat} {w : World} {h0 n Q : Nat} {H1 : Heap} (hR : Rep Γ H β w) (hL : Lies n Q H1) (hd : ∀ (j : Nat) (b : AB), H1[j]? = some b → H[j + h0]? = some (b.ren (· + h0))) :
    ∃ l, PfOk l ∧ pvS l n Q = 0 ∧ pvS l 1 Q = 20 ∧ prfs (some ⟨β h0, 0, none⟩) n l w := by
  obtain ⟨l, h1, h2, h3, h4⟩ := hL fun j => β (j + h0)
  have h5 := h4 w fun j b hb => by rw [hR.blk β (.refl _ _) _ _ (hd j b hb), AB.conc_ren]; rfl
  simp only [Nat.zero_add] at h5
  exact ⟨l, h1, h2, h3, h5⟩
theorem prfs_one {x : Option Addr} {m : Nat} {l : Nat → Pf} {w : World} (hk : 1 ≤ m) (h : prfs x m l w) : prfs x 1 l w := by
  refine ⟨?_, fun i hi => h.2 i (by omega)⟩
  rcases h.1 with h1 | ⟨ad, hx, hs, c, t, f, hb, hc⟩
  · exact .inl (by omega)
  · exact .inr ⟨ad, hx, hs, c, t, f, hb, fun i hi => hc i (by omega)⟩
section
variable {Γ : Ctx} {H A : Heap} {K : TV → Heap → Prop} {p : AB} {h0 n N P Q : Nat} {H1 : Heap}
theorem yF_small {z : Int} (h : NewG Tryd.prog 14 [.s (.v (.int .i64 z))] (fun _ => True) (SmR P Q)) (hP : Γ.P = Tryd.prog) (hev : ∀ t, ¬ Γ.ev.TM t) (hh : H.length = h0)
    (hK : ∀ n A H1, 1 ≤ n → n ≤ 5 → Lies n Q H1 → (∀ (j : Nat) (b : AB), H1[j]? = some b → A[j + h0]? = some (b.ren (· + h0))) → (∃ X, A = H ++ X) → h0 < A.length → K (.tup [.agg (prms P Q 4), .s (.sl h0 0 n n)]) A) : xcallF Γ H 14 [.s (.v (.int .i64 z))] K := by
  subst hh
  refine yF_newG (P := Tryd.prog) (fun β w hR => ⟨_, h, trivial⟩) hP (by kernel_rfl) hev ?_
  rintro _ H1 ⟨n, ⟨h1, h5⟩, rfl, hL, h0⟩
  have e : TV.ren (· + H.length) (.tup [.agg (prms P Q 4), .s (.sl 0 0 n n)]) = .tup [.agg (prms P Q 4), .s (.sl (0 + H.length) 0 n n)] := rfl
  rw [e, Nat.zero_add]
  refine hK n _ H1 h1 h5 hL (fun j b hb => ?_) ⟨_, rfl⟩ (by simp; omega)
  rw [List.getElem?_append_right (by omega), Nat.add_sub_cancel, List.getElem?_map, hb]
  rfl
theorem app_at {B : Heap} {b : AB} {j : Nat} (h : A[j]? = some b) : (A ++ B)[j]? = some b := by
  rw [List.getElem?_append_left (List.getElem?_eq_some_iff.1 h).1, h]
theorem yF_new (hL : Lies n Q H1) (hn5 : n ≤ 5) (hd : ∀ (j : Nat) (b : AB), H1[j]? = some b → A[j + h0]? = some (b.ren (· + h0))) (hN : A.length = N) (hok : grOK P Q 4) (hgv : Kn Γ fun _ w => gv w) (hP : Γ.P = Tryd.prog) (hev : ∀ t, ¬ Γ.ev.TM t)
    (hK : ∀ bx bq, K (.tup [.s (.p (N + 1) 0), .s (.v (.int .i64 0))]) (A ++ [p, ⟨84, grpc P Q 4 (.p (N + 2) 0) (.p (N + 3) 0)⟩, ⟨108, modS P bx⟩, ⟨108, modS Q bq⟩])) :
    xcallF Γ (A ++ [p]) 15 [.agg (prms P Q 4), .s (.sl h0 0 n n)] K := by
  subst hN
  refine yF_newG (P := Tryd.prog) (R := GrpR P Q 4) (fun β w hR => ?_) hP (by kernel_rfl) hev ?_
  · obtain ⟨l, h1, h2, _, h4⟩ := lies_at hR hL fun j b hb => app_at (hd j b hb)
    exact ⟨_, gNew_good P Q 4 (some ⟨β h0, 0, none⟩) n n l hok.1.lt hok.2.1.lt (by decide) h1 (by omega) h2 hok, h4, hgv w hR.fr.to⟩
  · rintro _ _ ⟨bx, bq, rfl, rfl⟩
    have h1 := hK bx bq
    have hl : (A ++ [p]).length = A.length + 1 := by simp
    rw [hl]
    have e : TV.ren (· + (A.length + 1)) (.tup [.s (.p 0 0), .s (.v (.int .i64 0))]) = .tup [.s (.p (0 + (A.length + 1)) 0), .s (.v (.int .i64 0))] := rfl
    rw [e, Nat.zero_add, List.append_assoc]
    have e2 : [p] ++ List.map (AB.ren (· + (A.length + 1))) [⟨84, grpc P Q 4 (.p 1 0) (.p 2 0)⟩, ⟨108, modS P bx⟩, ⟨108, modS Q bq⟩] = [p, ⟨84, grpc P Q 4 (.p (A.length + 2) 0) (.p (A.length + 3) 0)⟩, ⟨108, modS P bx⟩, ⟨108, modS Q bq⟩] := by
      have e3 : 1 + (A.length + 1) = A.length + 2 := by omega
      have e4 : 2 + (A.length + 1) = A.length + 3 := by omega
      simp only [List.map_cons, List.map_nil, abren_mk, ren_grpc, List.singleton_append]
      simp only [SV.ren, e3, e4]
      have e5 : ∀ (ρ : Nat → Nat) (m : Nat) (b : Bool), (modS m b).map (SV.ren ρ) = modS m b := fun ρ m b => SV.rens_ok0 modS_ok
      rw [e5, e5]
    rw [e2]
    exact h1
/-- What stands at the end of our blocks. -/
theorem end0 (hN : A.length = N) {B : Heap} : (A ++ B)[N]? = B[0]? := by subst hN; rw [List.getElem?_append_right (Nat.le_refl _), Nat.sub_self]
theorem endk (hN : A.length = N) {B : Heap} {k : Nat} : (A ++ B)[N + k]? = B[k]? := by subst hN; rw [List.getElem?_append_right (by omega), Nat.add_sub_cancel_left]
theorem end_put (hN : A.length = N) {B : Heap} {t : Nat} {cs cs' : List SV} : putH (A ++ ⟨t, cs⟩ :: B) N cs' = A ++ ⟨t, cs'⟩ :: B := by
  subst hN
  unfold putH
  induction A with
  | nil => rfl
  | cons a A ih =>
    show List.modify (a :: (A ++ ⟨t, cs⟩ :: B)) (A.length + 1) _ = _
    rw [List.modify_succ_cons]
    exact congrArg (a :: ·) ih
theorem end_len (hN : A.length = N) {B : Heap} : (A ++ B).length = N + B.length := by rw [List.length_append, hN]
end

theorem bad_ev {x : Option Addr} {n : Nat} {l : Nat → Pf} {P Q G : Nat} (hP : P < 2 ^ 256) (hQ : Q < 2 ^ 256) (hG : G < 2 ^ 256) (hl : PfOk l) (h : pvS l 1 Q = 20) : EvC Evo.none Tryd.prog 15 [.agg (prms P Q G), .s (.v (.slice x 1 n))] (fun _ w => prfs x 1 l w ∧ gv w) (.tup [.s (.v (.pointer none)), .s (.v (.int .i64 20))]) :=
  (gNew_bad1 P Q G x 1 n l hP hQ hG hl (by decide) 20 h (by decide)).ev


theorem gawake_m : PureM Tryd.prog 13 [] gv (.s (.v (.bool true))) := by
  have hsm : NewG Tryd.prog 14 [.s (.v (.int .i64 0))] (fun _ => True) (SmR 23 11) := small_g 0
  have hok : SmOk 23 11 := sm_ok 0
  (refine pureM_of Tryd.func13 rfl (by simp only [List.length_cons, List.length_nil, List.map_cons, List.map_nil, List.nodup_cons, List.nodup_nil, List.mem_cons, Nat.reduceAdd, Nat.reduceEqDiff, or_false, not_false_eq_true, forall_eq_or_imp, forall_eq, or_self, Nat.reduceLT, Nat.reduceLeDiff, and_self, List.forall_mem_cons, List.not_mem_nil, false_implies, implies_true, and_true, true_and, vcOGb]) (by simp only [List.length_cons, List.length_nil, List.map_cons, List.map_nil, List.nodup_cons, List.nodup_nil, List.mem_cons, Nat.reduceAdd, Nat.reduceEqDiff, or_false, not_false_eq_true, forall_eq_or_imp, forall_eq, or_self, Nat.reduceLT, Nat.reduceLeDiff, and_self, List.forall_mem_cons, List.not_mem_nil, false_implies, implies_true, and_true, true_and, vcOGb]) fun w hpre => ?_; simp only [List.length_cons, List.length_nil, Tryd.ntmps13, Nat.reduceAdd, Nat.reduceSub, List.replicate_succ, List.replicate_zero, List.cons_append, List.nil_append])
  have hgv := gv_kn (P0 := Tryd.prog) hpre
  (repeat' ((first | with_reducible (first | apply XR_slice | apply XR_cons | apply XR_consG | apply XR_nil | apply XM_cons | apply XM_consG | apply XM_nil | apply cF_pure2 (by assumption) | apply cM_pure2 (by assumption) | apply cF_ev2 (by assumption) | apply cM_ev2 (by assumption)) | ((with_reducible apply cF_new2 (by assumption)); (first | rintro _ _ ⟨rfl, rfl⟩ | rintro _ _ ⟨_, _, rfl, rfl⟩)) | with_reducible (first | apply X_regRS (id := 2) | apply X_regR (id := 2) | apply X_seqX (x := .seq (.region 2 _ false) _) | apply X_seqX (x := .seq (.seq (.region 2 _ false) _) _) | apply X_regRS (id := 10) | apply X_regR (id := 10) | apply X_seqX (x := .seq (.region 10 _ false) _) | apply X_seqX (x := .seq (.seq (.region 10 _ false) _) _) | apply X_regRS (id := 11) | apply X_regR (id := 11) | apply X_seqX (x := .seq (.region 11 _ false) _) | apply X_seqX (x := .seq (.seq (.region 11 _ false) _) _)) | (with_reducible apply X_drawM (id := 3) 3 [] (.cons 3 (.cons 4 (.cons 5 (.cons 6 (.cons 7 (.cons 8 .nil .nil) .nil) (.cons 7 (.cons 6 (.cons 8 .nil .nil) .nil) .nil)) (.cons 6 (.cons 5 (.cons 7 (.cons 8 .nil .nil) .nil) .nil) .nil)) .nil) .nil); (next => (kernel_rfl)); (next => (kernel_rfl))) | refine X_of _ ?_ | with_reducible (first | exact ⟨_, rfl⟩ | refine And.intro ?_ ?_ | intro _)) <;> try simp -implicitDefEqProofs (maxSteps := 1000000) (disch := first | exact dz2 | fail) only [vcR, vcT, Int.reduceBEq, Int.reduceBNe, Int.reduceEq, Int.reduceNe, Ab.part, Nat.reduceAdd, Nat.reduceMul, Nat.reduceLeDiff, Nat.reduceEqDiff, Nat.reduceBEq, Nat.reduceBNe, reduceCtorEq, ↓reduceIte, implies_true, forall_const, Int.reduceNeg, Int.reduceToNat, Int.reduceLT, Int.reduceLE, Int.reduceAdd, Int.reduceSub, Int.reduceMul, Int.reducePow, Nat.reducePow, true_or, Option.isNone_some, Option.isNone_none, vcXGb, Tryd.f13, List.toList_toArray, arr4_zero, nat4_set1, nat4_setL, nat4_set0]))
  refine yF_small (h0 := 0) hsm rfl (fun _ h => h) rfl ?_
  intro n A H1 hn1 hn5 hLi hd hA hN0
  clear hA
  obtain ⟨N, hN⟩ : ∃ N, A.length = N := ⟨_, rfl⟩
  rw [hN] at hN0
  have q0 : ∀ {B : Heap}, (A ++ B)[N]? = B[0]? := fun {B} => end0 hN
  have qs : ∀ {B : Heap} {t : Nat} {cs cs' : List SV}, putH (A ++ ⟨t, cs⟩ :: B) N cs' = A ++ ⟨t, cs'⟩ :: B := fun {B t cs cs'} => end_put hN
  try simp -implicitDefEqProofs (maxSteps := 1000000) (disch := first | exact dz2 | fail) only [vcR, vcT, Int.reduceBEq, Int.reduceBNe, Int.reduceEq, Int.reduceNe, Ab.part, Nat.reduceAdd, Nat.reduceMul, Nat.reduceLeDiff, Nat.reduceEqDiff, Nat.reduceBEq, Nat.reduceBNe, reduceCtorEq, ↓reduceIte, implies_true, forall_const, Int.reduceNeg, Int.reduceToNat, Int.reduceLT, Int.reduceLE, Int.reduceAdd, Int.reduceSub, Int.reduceMul, Int.reducePow, Nat.reducePow, true_or, Option.isNone_some, Option.isNone_none, vcXGb, Tryd.f13, List.toList_toArray, hN,q0,qs]
  (repeat' ((first | with_reducible (first | apply XR_slice | apply XR_cons | apply XR_consG | apply XR_nil | apply XM_cons | apply XM_consG | apply XM_nil | apply cF_pure2 (by assumption) | apply cM_pure2 (by assumption) | apply cF_ev2 (by assumption) | apply cM_ev2 (by assumption)) | ((with_reducible apply cF_new2 (by assumption)); (first | rintro _ _ ⟨rfl, rfl⟩ | rintro _ _ ⟨_, _, rfl, rfl⟩)) | with_reducible (first | apply X_regRS (id := 2) | apply X_regR (id := 2) | apply X_seqX (x := .seq (.region 2 _ false) _) | apply X_seqX (x := .seq (.seq (.region 2 _ false) _) _) | apply X_regRS (id := 10) | apply X_regR (id := 10) | apply X_seqX (x := .seq (.region 10 _ false) _) | apply X_seqX (x := .seq (.seq (.region 10 _ false) _) _) | apply X_regRS (id := 11) | apply X_regR (id := 11) | apply X_seqX (x := .seq (.region 11 _ false) _) | apply X_seqX (x := .seq (.seq (.region 11 _ false) _) _)) | (with_reducible apply X_drawM (id := 3) 3 [] (.cons 3 (.cons 4 (.cons 5 (.cons 6 (.cons 7 (.cons 8 .nil .nil) .nil) (.cons 7 (.cons 6 (.cons 8 .nil .nil) .nil) .nil)) (.cons 6 (.cons 5 (.cons 7 (.cons 8 .nil .nil) .nil) .nil) .nil)) .nil) .nil); (next => (kernel_rfl)); (next => (kernel_rfl))) | refine X_of _ ?_ | with_reducible (first | exact ⟨_, rfl⟩ | refine And.intro ?_ ?_ | intro _)) <;> try simp -implicitDefEqProofs (maxSteps := 1000000) (disch := first | exact dz2 | fail) only [vcR, vcT, Int.reduceBEq, Int.reduceBNe, Int.reduceEq, Int.reduceNe, Ab.part, Nat.reduceAdd, Nat.reduceMul, Nat.reduceLeDiff, Nat.reduceEqDiff, Nat.reduceBEq, Nat.reduceBNe, reduceCtorEq, ↓reduceIte, implies_true, forall_const, Int.reduceNeg, Int.reduceToNat, Int.reduceLT, Int.reduceLE, Int.reduceAdd, Int.reduceSub, Int.reduceMul, Int.reducePow, Nat.reducePow, true_or, Option.isNone_some, Option.isNone_none, vcXGb, Tryd.f13, List.toList_toArray, arr4_zero, nat4_set1, nat4_setL, nat4_set0, hN,q0,qs]))
  refine yF_new hLi hn5 hd hN hok.gr hgv rfl (fun _ h => h) ?_
  intro bx bq
  (try (first | with_reducible refine X_regRS ?_ | with_reducible refine X_regR ?_ | (with_reducible refine X_seqX ?_; with_reducible refine X_blockX ?_; with_reducible refine X_regR ?_))); (repeat ((first | with_reducible refine XR_make ?_ | with_reducible refine XR_append ?_ | with_reducible refine XR_cons ?_ | with_reducible refine XR_consG ?_ | with_reducible refine XR_nil ?_); try simp -implicitDefEqProofs (maxSteps := 1000000) (disch := first | exact dz2 | fail) only [vcR, vcT, Int.reduceBEq, Int.reduceBNe, Int.reduceEq, Int.reduceNe, Ab.part, Nat.reduceAdd, Nat.reduceMul, Nat.reduceLeDiff, Nat.reduceEqDiff, Nat.reduceBEq, Nat.reduceBNe, reduceCtorEq, ↓reduceIte, implies_true, forall_const, Int.reduceNeg, Int.reduceToNat, Int.reduceLT, Int.reduceLE, Int.reduceAdd, Int.reduceSub, Int.reduceMul, Int.reducePow, Nat.reducePow, true_or, Option.isNone_some, Option.isNone_none, vcXGb, Tryd.f13, List.toList_toArray, hN,q0,qs]))
  (repeat' ((first | with_reducible (first | apply XQ_slice | apply XQ_cons | apply XQ_consG | apply XQ_nil | apply XR_slice | apply XR_cons | apply XR_consG | apply XR_nil | apply cF_pure2 (by assumption) | apply cV_pure2 (by assumption) | apply cF_ev2 (by assumption) | apply cV_ev2 (by assumption)) | ((with_reducible apply cF_new2 (by assumption)); (first | rintro _ _ ⟨rfl, rfl⟩ | rintro _ _ ⟨_, _, rfl, rfl⟩)) | with_reducible (first | apply X_regRS (id := 2) | apply X_regR (id := 2) | apply X_seqX (x := .seq (.region 2 _ false) _) | apply X_seqX (x := .seq (.seq (.region 2 _ false) _) _) | apply X_regRS (id := 10) | apply X_regR (id := 10) | apply X_seqX (x := .seq (.region 10 _ false) _) | apply X_seqX (x := .seq (.seq (.region 10 _ false) _) _) | apply X_regRS (id := 11) | apply X_regR (id := 11) | apply X_seqX (x := .seq (.region 11 _ false) _) | apply X_seqX (x := .seq (.seq (.region 11 _ false) _) _)) | (with_reducible apply X_drawC (id := 3) 9; (next => (kernel_rfl)); (next => (kernel_rfl))) | refine X_of _ ?_ | with_reducible (first | exact ⟨_, rfl⟩ | refine And.intro ?_ ?_ | intro _)) <;> try simp -implicitDefEqProofs (maxSteps := 1000000) (disch := first | exact dz2 | fail) only [vcR, vcT, Int.reduceBEq, Int.reduceBNe, Int.reduceEq, Int.reduceNe, Ab.part, Nat.reduceAdd, Nat.reduceMul, Nat.reduceLeDiff, Nat.reduceEqDiff, Nat.reduceBEq, Nat.reduceBNe, reduceCtorEq, ↓reduceIte, implies_true, forall_const, Int.reduceNeg, Int.reduceToNat, Int.reduceLT, Int.reduceLE, Int.reduceAdd, Int.reduceSub, Int.reduceMul, Int.reducePow, Nat.reducePow, true_or, Option.isNone_some, Option.isNone_none, vcXGb, Tryd.f13, List.toList_toArray, arr4_zero, nat4_set1, nat4_setL, nat4_set0, hN,q0,qs]))
  simp only [ite_self, Nat.sub_zero]
  refine yV_evz (V := Evo.none) (fun β w' hR => by
    obtain ⟨l, h1, _, h3, h4⟩ := lies_at hR hLi fun j b hb => app_at (hd j b hb)
    exact ⟨_, bad_ev (x := some ⟨β 0, 0, none⟩) (n := n) hok.gr.1.lt hok.gr.2.1.lt (by decide) h1 h3, prfs_one hn1 h4, hgv w' hR.fr.to⟩) rfl rfl (by kernel_rfl) ?_
  (repeat ((first | with_reducible refine XQ_slice ?_ | with_reducible refine XQ_arrAt ?_ | with_reducible refine XQ_cons ?_ | with_reducible refine XQ_consG ?_ | with_reducible refine XQ_nil ?_); try simp -implicitDefEqProofs (maxSteps := 1000000) (disch := first | exact dz2 | fail) only [vcR, vcT, Int.reduceBEq, Int.reduceBNe, Int.reduceEq, Int.reduceNe, Ab.part, Nat.reduceAdd, Nat.reduceMul, Nat.reduceLeDiff, Nat.reduceEqDiff, Nat.reduceBEq, Nat.reduceBNe, reduceCtorEq, ↓reduceIte, implies_true, forall_const, Int.reduceNeg, Int.reduceToNat, Int.reduceLT, Int.reduceLE, Int.reduceAdd, Int.reduceSub, Int.reduceMul, Int.reducePow, Nat.reducePow, true_or, Option.isNone_some, Option.isNone_none, vcXGb, Tryd.f13, List.toList_toArray, hN,q0,qs]))
  (try (first | with_reducible refine X_regRS ?_ | with_reducible refine X_regR ?_ | (with_reducible refine X_seqX ?_; with_reducible refine X_blockX ?_; with_reducible refine X_regR ?_))); (repeat ((first | with_reducible refine XR_make ?_ | with_reducible refine XR_append ?_ | with_reducible refine XR_cons ?_ | with_reducible refine XR_consG ?_ | with_reducible refine XR_nil ?_); try simp -implicitDefEqProofs (maxSteps := 1000000) (disch := first | exact dz2 | fail) only [vcR, vcT, Int.reduceBEq, Int.reduceBNe, Int.reduceEq, Int.reduceNe, Ab.part, Nat.reduceAdd, Nat.reduceMul, Nat.reduceLeDiff, Nat.reduceEqDiff, Nat.reduceBEq, Nat.reduceBNe, reduceCtorEq, ↓reduceIte, implies_true, forall_const, Int.reduceNeg, Int.reduceToNat, Int.reduceLT, Int.reduceLE, Int.reduceAdd, Int.reduceSub, Int.reduceMul, Int.reducePow, Nat.reducePow, true_or, Option.isNone_some, Option.isNone_none, vcXGb, Tryd.f13, List.toList_toArray, hN,q0,qs]))
  refine X_grp (N + 1) (N + 2) (N + 3) [N] ((endk hN (k := 1)).trans rfl) ((endk hN (k := 2)).trans rfl) ((endk hN (k := 3)).trans rfl) hok.gr.1 hok.gr.2.1 (by decide) (by simp) (by simp) (fun i hi => by rw [end_len hN]; simp at hi ⊢; omega) (by simp only [pickH_cons, pickH_nil, consH_some, List.getElem?_cons_zero, q0]; simp) fun β1 w1 hR1 hG hK => ?_
  have hM0 : ¬ N + 1 = N := by omega
  have hM1 : ¬ 0 = N := by omega
  have hO := gv_one hpre hR1 (L := [N]) (fun i hi => by rw [end_len hN]; simp at hi ⊢; omega)
  clear hR1 hK hLi hd hgv hpre
  simp -implicitDefEqProofs (maxSteps := 1000000) (disch := first | exact dz2 | fail) only [vcR, vcT, Int.reduceBEq, Int.reduceBNe, Int.reduceEq, Int.reduceNe, Ab.part, Nat.reduceAdd, Nat.reduceMul, Nat.reduceLeDiff, Nat.reduceEqDiff, Nat.reduceBEq, Nat.reduceBNe, reduceCtorEq, ↓reduceIte, implies_true, forall_const, Int.reduceNeg, Int.reduceToNat, Int.reduceLT, Int.reduceLE, Int.reduceAdd, Int.reduceSub, Int.reduceMul, Int.reducePow, Nat.reducePow, true_or, Option.isNone_some, Option.isNone_none, vcXGb, Tryd.f13, List.toList_toArray, hN,q0,qs,hM0,hM1]
  obtain ⟨k, hk⟩ : ∃ k, β1 (N + 1) = k := ⟨_, rfl⟩
  obtain ⟨kx, hkx⟩ : ∃ k, β1 (N + 2) = k := ⟨_, rfl⟩
  obtain ⟨kq, hkq⟩ : ∃ k, β1 (N + 3) = k := ⟨_, rfl⟩
  rw [hk, hkx, hkq] at hG
  have c2 := gMember_e k kx kq 23 11 4 2 (by decide) (by decide) (by decide)
  have c5 := gMember_e k kx kq 23 11 4 5 (by decide) (by decide) (by decide)
  have c0 := gMember_e k kx kq 23 11 4 0 (by decide) (by decide) (by decide)
  have cb := gBase_e k kx kq 23 11 4 3 (by decide) (by decide)
  have ce := gExp_e k kx kq 23 11 4 5 2 (by decide) (by decide) (by decide) (by decide)
  rw [show memB 23 11 2 = true by kernel_rfl] at c2
  rw [show memB 23 11 5 = false by kernel_rfl] at c5
  rw [show memB 23 11 0 = false by kernel_rfl] at c0
  rw [show 4 ^ 3 % 23 = 18 by kernel_rfl] at cb
  rw [show muE 23 11 1 1 (fun _ => 5) = 22 by kernel_rfl] at ce
  obtain ⟨v, hv⟩ : ∃ v, muV 23 11 1 1 (fun _ => 5) (fun _ => 2) = v := ⟨_, rfl⟩
  rw [hv] at ce
  clear hv hok hsm hN0 hn1 hn5
  try simp -implicitDefEqProofs (maxSteps := 1000000) (disch := first | exact dz2 | fail) only [vcR, vcT, Int.reduceBEq, Int.reduceBNe, Int.reduceEq, Int.reduceNe, Ab.part, Nat.reduceAdd, Nat.reduceMul, Nat.reduceLeDiff, Nat.reduceEqDiff, Nat.reduceBEq, Nat.reduceBNe, reduceCtorEq, ↓reduceIte, implies_true, forall_const, Int.reduceNeg, Int.reduceToNat, Int.reduceLT, Int.reduceLE, Int.reduceAdd, Int.reduceSub, Int.reduceMul, Int.reducePow, Nat.reducePow, true_or, Option.isNone_some, Option.isNone_none, vcXGb, Tryd.f13, List.toList_toArray, hk,hkx,hkq]
  (repeat' ((first | with_reducible (first | apply XR_slice | apply XR_cons | apply XR_consG | apply XR_nil | apply XM_cons | apply XM_consG | apply XM_nil | apply cF_pure2 (by assumption) | apply cM_pure2 (by assumption) | apply cF_ev2 (by assumption) | apply cM_ev2 (by assumption)) | ((with_reducible apply cF_new2 (by assumption)); (first | rintro _ _ ⟨rfl, rfl⟩ | rintro _ _ ⟨_, _, rfl, rfl⟩)) | with_reducible (first | apply X_regRS (id := 2) | apply X_regR (id := 2) | apply X_seqX (x := .seq (.region 2 _ false) _) | apply X_seqX (x := .seq (.seq (.region 2 _ false) _) _) | apply X_regRS (id := 10) | apply X_regR (id := 10) | apply X_seqX (x := .seq (.region 10 _ false) _) | apply X_seqX (x := .seq (.seq (.region 10 _ false) _) _) | apply X_regRS (id := 11) | apply X_regR (id := 11) | apply X_seqX (x := .seq (.region 11 _ false) _) | apply X_seqX (x := .seq (.seq (.region 11 _ false) _) _)) | (with_reducible apply X_drawM (id := 3) 3 [] (.cons 3 (.cons 4 (.cons 5 (.cons 6 (.cons 7 (.cons 8 .nil .nil) .nil) (.cons 7 (.cons 6 (.cons 8 .nil .nil) .nil) .nil)) (.cons 6 (.cons 5 (.cons 7 (.cons 8 .nil .nil) .nil) .nil) .nil)) .nil) .nil); (next => (kernel_rfl)); (next => (kernel_rfl))) | refine X_of _ ?_ | with_reducible (first | exact ⟨_, rfl⟩ | refine And.intro ?_ ?_ | intro _)) <;> try simp -implicitDefEqProofs (maxSteps := 1000000) (disch := first | exact dz2 | fail) only [vcR, vcT, Int.reduceBEq, Int.reduceBNe, Int.reduceEq, Int.reduceNe, Ab.part, Nat.reduceAdd, Nat.reduceMul, Nat.reduceLeDiff, Nat.reduceEqDiff, Nat.reduceBEq, Nat.reduceBNe, reduceCtorEq, ↓reduceIte, implies_true, forall_const, Int.reduceNeg, Int.reduceToNat, Int.reduceLT, Int.reduceLE, Int.reduceAdd, Int.reduceSub, Int.reduceMul, Int.reducePow, Nat.reducePow, true_or, Option.isNone_some, Option.isNone_none, vcXGb, Tryd.f13, List.toList_toArray, arr4_zero, nat4_set1, nat4_setL, nat4_set0, hk,hkx,hkq]))
end Go.Proofs.YtdmcknmjdlghgaaDoor
/-
  The frame of a law: what an argument reads stays as it read; words by value, read as numbers.
-/
namespace Go.Ab
open Go Go.ChangeShapes Go.WideShapes Go.ChangeAt Go.RowKit
set_option linter.unusedSimpArgs false
set_option linter.unusedVariables false

section
variable {H : Type} {enc : TypeId × Value → H} {P : Program}

theorem trodAll_stays (hl : laidOutB P = true) {W W' : World} (hb : Below W.heap.size W W') {sp' : Nat → Bool} : ∀ {ts : List TypeId} {vs : List Value} {ds : List (DataW H)} {ps : List MemPlace},
    (∀ t ∈ ts, P.readableRec t = true ∧ t < P.types.size) → DataW.TrodAll enc P W 0 (fun _ => true) true ts vs ds ps → (∀ p ∈ ps, p.block < W.heap.size) → (∀ p ∈ ps, sp' p.block = true) →
    DataW.TrodAll enc P W' 0 sp' true ts vs ds ps
  | [], [], [], _, _, h, _, _ => h
  | _ :: _, _ :: _, _ :: _, _, hT, ⟨p, q, h1, h2, e⟩, hlt, hs =>
    ⟨p, q, WideElems.Trod_stays hl (hT _ (List.mem_cons.2 (Or.inl rfl))).1 (hT _ (List.mem_cons.2 (Or.inl rfl))).2 h1 (fun x hx => hb.same (hlt x (by rw [e]; exact List.mem_append_left _ hx))) (fun x hx => hs x (by rw [e]; exact List.mem_append_left _ hx)),
      trodAll_stays hl hb (fun t ht => hT t (List.mem_cons.2 (Or.inr ht))) h2 (fun x hx => hlt x (by rw [e]; exact List.mem_append_right _ hx)) (fun x hx => hs x (by rw [e]; exact List.mem_append_right _ hx)), e⟩

theorem post_of_below {f : Func} {s : ChangeSpec} {apart fresh handsOn again : Bool} {W W' : World} {args : Array Value} {v : Value} {ds gs : List (DataW H)} {before pa pv : List MemPlace}
    (hW : DataW.Whole enc P f.params.toList s.vars apart W args.toList ds gs before)
    (hres : ∀ (b : Nat) (sp : Nat → Bool) (hd : Bool), DataW.TrodAll enc P W' b sp hd f.resultTypes.toList (v.resultList f.resultTypes.size) (s.fn H (ds ++ gs)).results [])
    (hargs : ∀ sp : Nat → Bool, (∀ p ∈ before, sp p.block = true) → DataW.TrodAll enc P W' 0 sp true f.params.toList args.toList (s.fn H (ds ++ gs)).args pa)
    (hvars : ∀ sp : Nat → Bool, (∀ p ∈ before, sp p.block = true) → DataW.TrodVars enc P W' sp s.vars (s.fn H (ds ++ gs)).vars pv)
    (hps : before = pa ++ pv) (hb : Below W.heap.size W W')
    (hok : ∀ (j : Nat) (t : TypeId) (r : Value), f.resultTypes[j]? = some t → (v.resultList f.resultTypes.size)[j]? = some r → Value.okWide P W' .any 0 t r) :
    s.post enc P f apart fresh handsOn again W args v W' := by
  have hlt : ∀ p ∈ before, p.block < W.heap.size := fun p hp => hW.lt p hp
  have hold : ∀ p ∈ before, (fun b => decide (b < W.heap.size)) p.block = true := fun p hp => by simpa using hlt p hp
  refine ⟨ds, gs, before, [], pa, pv, hW, hres _ _ _, hargs _ hold, hvars _ hold, World.keptBut_mono (fun p hp => ⟨hp, ?_⟩) (hb.frame (· ∈ before)), fun _ => ?_⟩
  · rw [hps, List.mem_append] at hp
    exact Or.inr hp
  · obtain ⟨_, _, _, _, _, hz, hn⟩ := hW
    refine ⟨hok, _, _, ([] ++ pa) ++ pv, ⟨[] ++ pa, pv, trodAll_append (hargs _ (fun _ _ => rfl)) (hres _ _ _), hvars _ (fun _ _ => rfl), rfl, ?_, ?_⟩, ?_⟩
    · intro b off hp
      have hin : MemPlace.cell b off ∈ before := by rw [hps]; simpa using hp
      rw [hb.frozen (hlt _ hin)]
      exact hz b off hin
    · intro ha
      have := hn ha
      rw [hps] at this
      simpa using this
    · intro p hp _
      rw [hps]
      simpa using hp

theorem trodAll_len : ∀ {W : World} {b : Nat} {sp : Nat → Bool} {hd : Bool} {ts : List TypeId} {vs : List Value} {ds : List (DataW H)} {ps : List MemPlace}, DataW.TrodAll enc P W b sp hd ts vs ds ps → ds.length = ts.length ∧ vs.length = ts.length
  | _, _, _, _, [], [], [], _, _ => ⟨rfl, rfl⟩
  | _, _, _, _, _ :: _, _ :: _, _ :: _, _, ⟨p, q, h1, h2, e⟩ => by
    obtain ⟨h3, h4⟩ := trodAll_len h2
    exact ⟨by simp [h3], by simp [h4]⟩

end

/-! Tryd# Words by value, read as numbers -/
/-- The number of n words. -/
def wsum (g : Nat → Nat) : Nat → Nat
  | 0 => 0
  | n + 1 => wsum g n + g n * 2 ^ (64 * n)
theorem wsum_lt (g : Nat → Nat) (hg : ∀ i, g i < 18446744073709551616) : ∀ n, wsum g n < 2 ^ (64 * n)
  | 0 => by simp [wsum]
  | n + 1 => by
    have h := wsum_lt g hg n
    have h2 : g n * 2 ^ (64 * n) ≤ 18446744073709551615 * 2 ^ (64 * n) := Nat.mul_le_mul_right _ (by have := hg n; omega)
    rw [P_succ]
    simp only [wsum]
    omega
theorem wd_wsum (g : Nat → Nat) (hg : ∀ i, g i < 18446744073709551616) : ∀ n i, i < n → wd (wsum g n) i = g i
  | n + 1, i, h => by
    simp only [wsum]
    by_cases h1 : i = n
    · subst h1
      rw [wd_eq, Nat.mul_comm (g i), Nat.add_mul_div_left _ _ (Nat.two_pow_pos _), Nat.div_eq_of_lt (wsum_lt g hg i), Nat.zero_add, Nat.mod_eq_of_lt (hg i)]
    · rw [wd_add_high _ _ _ _ (by omega), wd_wsum g hg n i (by omega)]

section
variable {H : Type} {enc : TypeId × Value → H} {P : Program} {W : World} {base b0 : Nat} {sp : Nat → Bool} {held : Bool} {r : Reach} {t e n : Nat} {v : Value} {d : DataW H} {ps : List MemPlace}
end
end Go.Ab

/-
  A law's argument that is a slice of bytes.
-/
namespace Go.Ab
open Go Go.ChangeShapes Go.WideShapes Go.ChangeAt Go.RowKit
set_option linter.unusedSimpArgs false
set_option linter.unusedVariables false

end Go.Ab
namespace Go.Ab
open Go Go.ChangeShapes Go.WideShapes Go.ChangeAt Go.RowKit
set_option linter.unusedSimpArgs false
set_option linter.unusedVariables false

/-- A type whose values are n words. -/
def Words (P : Program) (t n : Nat) : Prop :=
  P.cellsOf t = n ∧ ∀ (H : Type) (enc : TypeId × Value → H) (W : World) (base : Nat) (sp : Nat → Bool) (held : Bool) (fuel : Nat) (cs : List Value) (x : DataW H × List MemPlace),
    DataW.trod enc P W base sp held fuel t cs = some x → cs.length = n ∧ ∀ i, i < n → ∃ z : Nat, z < 18446744073709551616 ∧ cs[i]? = some (.int .u64 (z : Int))
theorem words_array {P : Program} {t e n : Nat} (ht : P.underlying t = some (.array n e)) (he : P.underlying e = some (.int .u64)) (hc : P.cellsOf t = n) (hce : P.cellsOf e = 1) : Words P t n := by
  refine ⟨hc, fun H enc W base sp held fuel cs x hf => ?_⟩
  obtain ⟨xs, m, _, _, hl, hxl, hi⟩ := DataW.trod_array ht hf
  rw [hc] at hl
  refine ⟨hl, fun i hin => ?_⟩
  have h1 := hi i hin
  rw [hce, Nat.mul_one] at h1
  rw [List.getElem?_eq_getElem (by omega)] at h1
  obtain ⟨z, ez, _, wz⟩ := DataW.trod_int he h1
  have hb := bounds_u64 wz
  obtain ⟨z, rfl⟩ := Int.eq_ofNat_of_zero_le hb.1
  refine ⟨z, by omega, ?_⟩
  have h2 := congrArg (·[0]?) ez
  simpa [List.getElem?_take, List.getElem?_drop] using h2
end Go.Ab
namespace Go.Ab
open Go Go.ChangeShapes Go.WideShapes Go.ChangeAt Go.RowKit
set_option linter.unusedSimpArgs false
set_option linter.unusedVariables false

/-- What is told of a type's cells. -/
def Cells (P : Program) (t n : Nat) (G : World → List Value → Prop) : Prop :=
  P.cellsOf t = n ∧ ∀ (H : Type) (enc : TypeId × Value → H) (W : World) (base : Nat) (sp : Nat → Bool) (held : Bool) (fuel : Nat) (cs : List Value) (x : DataW H × List MemPlace),
    DataW.trod enc P W base sp held fuel t cs = some x → cs.length = n ∧ G W cs
def natL (p : Nat) : List Value := (List.range 4).map fun k => .int .u64 (wd p k : Int)
theorem cells_nat {P : Program} {t : Nat} (h : Words P t 4) : Cells P t 4 fun _ cs => ∃ p, p < 2 ^ 256 ∧ cs = natL p := by
  refine ⟨h.1, fun H enc W base sp held fuel cs x hx => ?_⟩
  obtain ⟨hl, hw⟩ := h.2 _ _ _ _ _ _ _ _ _ hx
  refine ⟨hl, ?_⟩
  let g : Nat → Nat := fun i => if h : i < 4 then (hw i h).choose else 0
  have hg : ∀ i, g i < 18446744073709551616 := by
    intro i
    by_cases h : i < 4
    · simp only [g, h, dite_true]; exact (hw i h).choose_spec.1
    · simp only [g, h, dite_false]; decide
  have hgc : ∀ i, i < 4 → cs[i]? = some (.int .u64 (g i : Int)) := by
    intro i h
    simp only [g, h, dite_true]; exact (hw i h).choose_spec.2
  refine ⟨wsum g 4, wsum_lt _ hg 4, List.ext_getElem? fun i => ?_⟩
  by_cases hi : i < 4
  · rw [hgc i hi]
    unfold natL
    rw [List.getElem?_map, List.getElem?_range hi, Option.map_some, wd_wsum _ hg 4 _ hi]
  · rw [List.getElem?_eq_none (by omega), List.getElem?_eq_none (by simp [natL]; omega)]
theorem cells_int {P : Program} {t : Nat} (ht : P.underlying t = some (.int .i64)) (hc : P.cellsOf t = 1) : Cells P t 1 fun _ cs => ∃ z : Int, (-9223372036854775808 ≤ z ∧ z < 9223372036854775808) ∧ cs = [.int .i64 z] := by
  refine ⟨hc, fun H enc W base sp held fuel cs x hx => ?_⟩
  obtain ⟨z, ez, _, wz⟩ := DataW.trod_int ht hx
  have hb := bounds_i64 wz
  refine ⟨by rw [ez]; rfl, z, by omega, ez⟩
/-- A struct of two, of three. -/
theorem cells_two {P : Program} {t a b : Nat} {fs : Array Field} {f g : Field} {F G : World → List Value → Prop} (ht : P.underlying t = some (.struct fs)) (hs : fs.size = 2) (h0 : fs[0]? = some f) (h1 : fs[1]? = some g) (hf : f.offset = 0) (hg : g.offset = a)
    (ha : Cells P f.type a F) (hb : Cells P g.type b G) (hc : P.cellsOf t = a + b) : Cells P t (a + b) fun W cs => ∃ u v, cs = u ++ v ∧ F W u ∧ G W v := by
  refine ⟨hc, fun H enc W base sp held fuel cs x hx => ?_⟩
  obtain ⟨xs, m, _, _, hl, hxl, hi⟩ := DataW.trod_struct ht hx
  rw [hc] at hl
  have e0 := hi 0 f h0
  have e1 := hi 1 g h1
  rw [List.getElem?_eq_getElem (by omega), hf, ha.1] at e0
  rw [List.getElem?_eq_getElem (by omega), hg, hb.1] at e1
  obtain ⟨_, k0⟩ := ha.2 _ _ _ _ _ _ _ _ _ e0
  obtain ⟨_, k1⟩ := hb.2 _ _ _ _ _ _ _ _ _ e1
  refine ⟨hl, _, _, ?_, k0, k1⟩
  rw [List.drop_zero, List.take_of_length_le (l := cs.drop a) (by rw [List.length_drop]; omega), List.take_append_drop]
theorem cells_three {P : Program} {t a b c : Nat} {fs : Array Field} {f g h : Field} {F G K : World → List Value → Prop} (ht : P.underlying t = some (.struct fs)) (hs : fs.size = 3) (h0 : fs[0]? = some f) (h1 : fs[1]? = some g) (h2 : fs[2]? = some h) (hf : f.offset = 0) (hg : g.offset = a) (hh : h.offset = a + b)
    (ha : Cells P f.type a F) (hb : Cells P g.type b G) (hk : Cells P h.type c K) (hc : P.cellsOf t = a + b + c) : Cells P t (a + b + c) fun W cs => ∃ u v z, cs = u ++ (v ++ z) ∧ F W u ∧ G W v ∧ K W z := by
  refine ⟨hc, fun H enc W base sp held fuel cs x hx => ?_⟩
  obtain ⟨xs, m, _, _, hl, hxl, hi⟩ := DataW.trod_struct ht hx
  rw [hc] at hl
  have e0 := hi 0 f h0
  have e1 := hi 1 g h1
  have e2 := hi 2 h h2
  rw [List.getElem?_eq_getElem (by omega), hf, ha.1] at e0
  rw [List.getElem?_eq_getElem (by omega), hg, hb.1] at e1
  rw [List.getElem?_eq_getElem (by omega), hh, hk.1] at e2
  obtain ⟨_, k0⟩ := ha.2 _ _ _ _ _ _ _ _ _ e0
  obtain ⟨_, k1⟩ := hb.2 _ _ _ _ _ _ _ _ _ e1
  obtain ⟨_, k2⟩ := hk.2 _ _ _ _ _ _ _ _ _ e2
  refine ⟨hl, _, _, _, ?_, k0, k1, k2⟩
  rw [List.drop_zero, List.take_of_length_le (l := cs.drop (a + b)) (by rw [List.length_drop]; omega), ← List.drop_drop, List.take_append_drop, List.take_append_drop]
/-- A slice of things of which G is told. -/
theorem cells_slice {P : Program} {t e q : Nat} {G : World → List Value → Prop} (ht : P.underlying t = some (.slice e)) (he : Cells P e q G) (hq : 0 < q) (hct : P.cellsOf t = 1) : Cells P t 1 fun W cs => ∃ (y : Option Addr) (n c : Nat), cs = [.slice y n c] ∧ n < 9223372036854775808 ∧ n ≤ c ∧
    (n = 0 ∨ ∃ ad, y = some ad ∧ ad.spot = none ∧ ∃ cc tt ff, W.heap[ad.block]? = some (.cells cc tt ff) ∧ ∀ i, i < n → ∃ l, G W l ∧ l.length = q ∧ ∀ k, k < q → cc[ad.off + (i * q + k)]? = l[k]?) := by
  refine ⟨hct, fun H enc W base sp held fuel cs x hf => ?_⟩
  rcases DataW.trod_slice ht hf with ⟨h1, _⟩ | ⟨a, len, cap, elems, rest, fu, _, h1, _, hb, hlc, hcm, hel, hi, _, _⟩
  · exact ⟨by rw [h1]; rfl, _, 0, 0, h1, by decide, Nat.le_refl _, .inl rfl⟩
  · refine ⟨by rw [h1]; rfl, some a, len, cap, h1, by simp only [maxLen] at hcm; omega, hlc, ?_⟩
    by_cases h0 : len = 0
    · exact .inl h0
    · have cell : ∀ i, i < len → ∃ l, G W l ∧ l.length = q ∧ ∀ k, k < q → W.cell? ((a.add (i * q)).add k) = l[k]? := by
        intro i hin
        have h2 := hi i hin
        rw [List.getElem?_eq_getElem (by omega), Option.bind_eq_some_iff, he.1] at h2
        obtain ⟨cs, hcs, htr⟩ := h2
        obtain ⟨hl, hG⟩ := he.2 _ _ _ _ _ _ _ _ _ htr
        refine ⟨cs, hG, hl, fun k hk => ?_⟩
        unfold World.cells? at hcs
        split at hcs
        · have h3 := mapM_some_get hcs k k (by rw [List.getElem?_range hk])
          exact h3
        · cases hcs
      obtain ⟨l0, _, hl0, hc0⟩ := cell 0 (by omega)
      have hz0 := hc0 0 hq
      rw [List.getElem?_eq_getElem (by omega)] at hz0
      have hsp := World.cell?_spot hz0
      obtain ⟨b, o, s⟩ := a
      have hs : s = none := by simpa [Addr.add] using hsp
      subst hs
      have hcl : ∃ cc t f, W.heap[b]? = some (.cells cc t f) := by
        rw [addr_add, addr_add] at hz0
        unfold World.cell? at hz0
        split at hz0
        · rename_i cc t f hk; exact ⟨cc, t, f, hk⟩
        · cases hz0
      obtain ⟨cc, tt, ff, hk⟩ := hcl
      refine .inr ⟨_, rfl, rfl, cc, tt, ff, hk, fun i hin => ?_⟩
      obtain ⟨l, hG, hl, hc⟩ := cell i hin
      refine ⟨l, hG, hl, fun k hk2 => ?_⟩
      have h3 := hc k hk2
      rw [addr_add, addr_add] at h3
      unfold World.cell? at h3
      simp only [hk] at h3
      rw [← Nat.add_assoc]
      exact h3
/-! Tryd# Factors and proofs -/
def facL (p : Nat) (e : Int) : List Value := natL p ++ [.int .i64 e]
theorem facL_get {P : Nat → Nat} {E : Nat → Int} {i k : Nat} (hk : k < 5) : (facL (P i) (E i))[k]? = some (facG P E (i * 5 + k)) := by
  unfold facL
  by_cases h : k < 4
  · rw [facG_p h, List.getElem?_append_left (by simp [natL]; omega)]
    unfold natL
    rw [List.getElem?_map, List.getElem?_range h]
    rfl
  · have : k = 4 := by omega
    subst this
    rw [facG_e, List.getElem?_append_right (by simp [natL])]
    rfl
/-- What is told of a slice of factors. -/
def FacsT (W : World) (cs : List Value) : Prop := ∃ (y : Option Addr) (n c : Nat) (P : Nat → Nat) (E : Nat → Int), cs = [.slice y n c] ∧ n < 9223372036854775808 ∧ n ≤ c ∧ (∀ i, P i < 2 ^ 256) ∧ (∀ i, -9223372036854775808 ≤ E i ∧ E i < 9223372036854775808) ∧ facs y n P E W
theorem facsT_of {W : World} {cs : List Value} (h : ∃ (y : Option Addr) (n c : Nat), cs = [.slice y n c] ∧ n < 9223372036854775808 ∧ n ≤ c ∧
    (n = 0 ∨ ∃ ad, y = some ad ∧ ad.spot = none ∧ ∃ cc tt ff, W.heap[ad.block]? = some (.cells cc tt ff) ∧ ∀ i, i < n → ∃ l, (∃ u v, l = u ++ v ∧ (∃ p, p < 2 ^ 256 ∧ u = natL p) ∧ (∃ z : Int, (-9223372036854775808 ≤ z ∧ z < 9223372036854775808) ∧ v = [.int .i64 z])) ∧ l.length = 5 ∧ ∀ k, k < 5 → cc[ad.off + (i * 5 + k)]? = l[k]?)) : FacsT W cs := by
  obtain ⟨y, n, c, hcs, hn, hc, h⟩ := h
  rcases h with h | ⟨ad, hy, hs, cc, tt, ff, hk, h⟩
  · exact ⟨y, n, c, fun _ => 0, fun _ => 0, hcs, hn, hc, fun _ => by show 0 < 2 ^ 256; decide, fun _ => by show -9223372036854775808 ≤ (0 : Int) ∧ (0 : Int) < 9223372036854775808; decide, .inl h⟩
  · have key : ∀ i, i < n → ∃ p : Nat, ∃ z : Int, p < 2 ^ 256 ∧ (-9223372036854775808 ≤ z ∧ z < 9223372036854775808) ∧ ∀ k, k < 5 → cc[ad.off + (i * 5 + k)]? = (facL p z)[k]? := by
      intro i hi
      obtain ⟨l, ⟨u, v, rfl, ⟨p, hp, rfl⟩, ⟨z, hz, rfl⟩⟩, _, hl⟩ := h i hi
      exact ⟨p, z, hp, hz, hl⟩
    refine ⟨y, n, c, fun i => if h : i < n then (key i h).choose else 0, fun i => if h : i < n then (key i h).choose_spec.choose else 0, hcs, hn, hc, fun i => ?_, fun i => ?_, .inr ⟨ad, hy, hs, cc, tt, ff, hk, fun j hj => ?_⟩⟩
    · by_cases hi : i < n
      · simp only [hi, dite_true]; exact (key i hi).choose_spec.choose_spec.1
      · simp only [hi, dite_false]; decide
    · by_cases hi : i < n
      · simp only [hi, dite_true]; exact (key i hi).choose_spec.choose_spec.2.1
      · simp only [hi, dite_false]; decide
    · have hi : j / 5 < n := by omega
      have h1 := (key (j / 5) hi).choose_spec.choose_spec.2.2 (j % 5) (by omega)
      rw [show j / 5 * 5 + j % 5 = j by omega] at h1
      rw [h1]
      have h2 := facL_get (P := fun i => if h : i < n then (key i h).choose else 0) (E := fun i => if h : i < n then (key i h).choose_spec.choose else 0) (i := j / 5) (k := j % 5) (by omega)
      rw [show j / 5 * 5 + j % 5 = j by omega] at h2
      rw [← h2]
      simp only [hi, dite_true]
def prfL (p : Pf) : List Value := natL p.N ++ (natL p.G ++ [.slice p.y p.n p.c])
theorem natL_length {p : Nat} : (natL p).length = 4 := by simp [natL]
theorem natL_get {p k : Nat} (h : k < 4) : (natL p)[k]? = some (.int .u64 (wd p k : Int)) := by
  unfold natL
  rw [List.getElem?_map, List.getElem?_range h]
  rfl
theorem prfL_get {l : Nat → Pf} {i k : Nat} (hk : k < 9) : (prfL (l i))[k]? = some (prfG l (i * 9 + k)) := by
  unfold prfL
  by_cases h : k < 4
  · rw [prfG_n h, List.getElem?_append_left (by rw [natL_length]; exact h), natL_get h]
  · rw [List.getElem?_append_right (by rw [natL_length]; omega), natL_length]
    by_cases h2 : k < 8
    · have h3 := prfG_g (l := l) (i := i) (k := k - 4) (by omega)
      rw [show i * 9 + 4 + (k - 4) = i * 9 + k by omega] at h3
      rw [h3, List.getElem?_append_left (by rw [natL_length]; omega), natL_get (by omega)]
    · have : k = 8 := by omega
      subst this
      rw [prfG_s, List.getElem?_append_right (by rw [natL_length]; omega), natL_length]
      rfl
/-- What is told of a proof. -/
structure PrfOk (W : World) (p : Pf) : Prop where
  N : p.N < 2 ^ 256
  G : p.G < 2 ^ 256
  P : ∀ k, p.P k < 2 ^ 256
  E : ∀ k, -9223372036854775808 ≤ p.E k ∧ p.E k < 9223372036854775808
  n : p.n < 9223372036854775808
  c : p.n ≤ p.c
  f : facs p.y p.n p.P p.E W
def PrfT (W : World) (cs : List Value) : Prop := ∃ p, PrfOk W p ∧ cs = prfL p
theorem prfT_of {W : World} {cs : List Value} (h : ∃ u v z, cs = u ++ (v ++ z) ∧ (∃ p, p < 2 ^ 256 ∧ u = natL p) ∧ (∃ p, p < 2 ^ 256 ∧ v = natL p) ∧ FacsT W z) : PrfT W cs := by
  obtain ⟨u, v, z, rfl, ⟨N, hN, rfl⟩, ⟨G, hG, rfl⟩, y, n, c, P, E, rfl, hn, hc, hP, hE, hf⟩ := h
  exact ⟨⟨N, G, y, n, c, P, E⟩, ⟨hN, hG, hP, hE, hn, hc, hf⟩, rfl⟩
def pf0 : Pf := ⟨0, 0, none, 0, 0, fun _ => 0, fun _ => 0⟩
theorem pf0_ok (W : World) : PrfOk W pf0 := ⟨by show 0 < 2 ^ 256; decide, by show 0 < 2 ^ 256; decide, fun _ => by show 0 < 2 ^ 256; decide, fun _ => by show -9223372036854775808 ≤ (0 : Int) ∧ (0 : Int) < 9223372036854775808; decide, by show 0 < 9223372036854775808; decide, Nat.le_refl _, .inl rfl⟩
/-- What is told of a slice of proofs. -/
def PrfsT (W : World) (cs : List Value) : Prop := ∃ (y : Option Addr) (m c : Nat) (l : Nat → Pf), cs = [.slice y m c] ∧ m < 9223372036854775808 ∧ m ≤ c ∧ PfOk l ∧ prfs y m l W
theorem prfsT_of {W : World} {cs : List Value} (h : ∃ (y : Option Addr) (n c : Nat), cs = [.slice y n c] ∧ n < 9223372036854775808 ∧ n ≤ c ∧
    (n = 0 ∨ ∃ ad, y = some ad ∧ ad.spot = none ∧ ∃ cc tt ff, W.heap[ad.block]? = some (.cells cc tt ff) ∧ ∀ i, i < n → ∃ l, PrfT W l ∧ l.length = 9 ∧ ∀ k, k < 9 → cc[ad.off + (i * 9 + k)]? = l[k]?)) : PrfsT W cs := by
  obtain ⟨y, n, c, hcs, hn, hc, h⟩ := h
  rcases h with h | ⟨ad, hy, hs, cc, tt, ff, hk, h⟩
  · exact ⟨y, n, c, fun _ => pf0, hcs, hn, hc, ⟨fun _ => (pf0_ok W).N, fun _ => (pf0_ok W).G, fun _ => (pf0_ok W).P, fun _ => (pf0_ok W).E, fun _ => (pf0_ok W).n⟩, .inl h, fun i hi => by omega⟩
  · have key : ∀ i, ∃ p : Pf, PrfOk W p ∧ (i < n → ∀ k, k < 9 → cc[ad.off + (i * 9 + k)]? = (prfL p)[k]?) := by
      intro i
      by_cases hi : i < n
      · obtain ⟨l, ⟨p, hp, rfl⟩, _, hl⟩ := h i hi
        exact ⟨p, hp, fun _ => hl⟩
      · exact ⟨pf0, pf0_ok W, fun h => absurd h hi⟩
    have ok := fun i => (key i).choose_spec.1
    refine ⟨y, n, c, fun i => (key i).choose, hcs, hn, hc, ⟨fun i => (ok i).N, fun i => (ok i).G, fun i => (ok i).P, fun i => (ok i).E, fun i => (ok i).n⟩, .inr ⟨ad, hy, hs, cc, tt, ff, hk, fun j hj => ?_⟩, fun i _ => (ok i).f⟩
    have h1 := (key (j / 9)).choose_spec.2 (by omega) (j % 9) (by omega)
    rw [show j / 9 * 9 + j % 9 = j by omega] at h1
    rw [h1]
    have h2 := prfL_get (l := fun i => (key i).choose) (i := j / 9) (k := j % 9) (by omega)
    rw [show j / 9 * 9 + j % 9 = j by omega] at h2
    exact h2
end Go.Ab
namespace Go.Proofs.YtdmcknmjdlghgaaDoor
open Go Go.Ab Go.ChangeShapes Go.WideShapes Go.ChangeAt Go.RowKit
set_option linter.unusedSimpArgs false
set_option linter.unusedVariables false

theorem glob0 : Tryd.prog.globalNamed "sortition/group.low" = some 0 := by kernel_rfl
theorem glob1 : Tryd.prog.globalNamed "sortition/group.two" = some 1 := by kernel_rfl
theorem glob2 : Tryd.prog.globalNamed "sortition/group.one" = some 2 := by kernel_rfl
theorem glob3 : Tryd.prog.globalNamed "sortition/pratt.least" = some 3 := by kernel_rfl
theorem globT0 : (Tryd.prog.globals[0]?).map (·.type) = some 24 := by kernel_rfl
theorem globT1 : (Tryd.prog.globals[1]?).map (·.type) = some 24 := by kernel_rfl
theorem globT2 : (Tryd.prog.globals[2]?).map (·.type) = some 24 := by kernel_rfl
theorem globT3 : (Tryd.prog.globals[3]?).map (·.type) = some 24 := by kernel_rfl
set_option maxRecDepth 100000 in
theorem gnat_of_laid {n : String} {g v : Nat} {z : Int} {r : List (String × DataW Unit)} {W : World} {ps : List MemPlace} (hn : Tryd.prog.globalNamed n = some g) (hT : (Tryd.prog.globals[g]?).map (·.type) = some 24)
    (hv0 : natsG (fun _ => v) 0 = .int .u64 z) (hv1 : natsG (fun _ => v) 1 = .int .u64 0) (hv2 : natsG (fun _ => v) 2 = .int .u64 0) (hv3 : natsG (fun _ => v) 3 = .int .u64 0)
    (h : DataW.LaidVars Tryd.prog W ((n, .agg [.lit (.int .u64 z), .lit (.int .u64 0), .lit (.int .u64 0), .lit (.int .u64 0)]) :: r) ps) : gnat g v W ∧ ∃ q, DataW.LaidVars Tryd.prog W r q := by
  obtain ⟨g', t, cs, fuel, p, q, hg, ht, hc, htr, hr, _⟩ := h
  refine ⟨?_, q, hr⟩
  obtain rfl := Option.some.inj (hn.symm.trans hg)
  obtain rfl := Option.some.inj (hT.symm.trans ht)
  obtain ⟨xs, m, _, hx, hl, hxl, hi⟩ := DataW.trod_array tf24_u htr
  have hce : Tryd.prog.cellsOf 22 = 1 := by kernel_rfl
  have hc4 : Tryd.prog.cellsOf 24 = 4 := by kernel_rfl
  rw [hc4] at hl
  injection hx with hx _
  have hx' : ([.lit (.int .u64 z), .lit (.int .u64 0), .lit (.int .u64 0), .lit (.int .u64 0)] : List (DataW Unit)) = xs.map (·.1) := by
    have h1 : (DataW.agg [.lit (.int .u64 z), .lit (.int .u64 0), .lit (.int .u64 0), .lit (.int .u64 0)] : DataW Unit) = .agg (xs.map (·.1)) := hx
    injection h1
  have cell : ∀ i, i < 4 → ∀ y : Int, ([.lit (.int .u64 z), .lit (.int .u64 0), .lit (.int .u64 0), .lit (.int .u64 0)] : List (DataW Unit))[i]? = some (.lit (.int .u64 y)) → cs[i]? = some (.int .u64 y) := by
    intro i h4 y hy
    have h1 := hi i h4
    rw [List.getElem?_eq_getElem (by omega), hce, Nat.mul_one] at h1
    obtain ⟨n, hn, hxn, _⟩ := DataW.trod_int (by kernel_rfl : Tryd.prog.underlying 22 = some (.int .u64)) h1
    rw [hx', List.getElem?_map, List.getElem?_eq_getElem (by omega), Option.map_some, hxn] at hy
    injection hy with hy
    injection hy with hy
    injection hy with _ hy
    subst hy
    have h2 := congrArg (·[0]?) hn
    simpa [List.getElem?_take, List.getElem?_drop] using h2
  unfold World.var? at hc
  rw [hn, Option.bind_some] at hc
  split at hc
  · rename_i c t f hk
    injection hc with hc
    subst hc
    refine ⟨_, _, _, hk, fun i h4 => ?_⟩
    rcases i with _ | _ | _ | _ | i
    · rw [hv0]; exact cell 0 h4 z rfl
    · rw [hv1]; exact cell 1 h4 0 rfl
    · rw [hv2]; exact cell 2 h4 0 rfl
    · rw [hv3]; exact cell 3 h4 0 rfl
    · omega
  · cases hc
theorem gv_of_laid {W : World} (h : laidMetH Tryd.prog Rows.groupFewRow.laid W) : gv W := by
  have h' : laidMet Tryd.prog [("sortition/pratt.least", Rows.laid_sortition_pratt_least), ("sortition/group.one", Rows.laid_sortition_group_one), ("sortition/group.two", Rows.laid_sortition_group_two), ("sortition/group.low", Rows.laid_sortition_group_low)] W := h
  obtain ⟨ps, h1, _⟩ := h'
  obtain ⟨g3, q1, h2⟩ := gnat_of_laid (v := 2) (z := 2) glob3 globT3 rfl rfl rfl rfl h1
  obtain ⟨g2, q2, h3⟩ := gnat_of_laid (v := 1) (z := 1) glob2 globT2 rfl rfl rfl rfl h2
  obtain ⟨g1, q3, h4⟩ := gnat_of_laid (v := 2) (z := 2) glob1 globT1 rfl rfl rfl rfl h3
  obtain ⟨g0, q4, h5⟩ := gnat_of_laid (v := 5) (z := 5) glob0 globT0 rfl rfl rfl rfl h4
  exact ⟨g3, g0, g1, g2⟩
/-- A world in which they lie so. -/
noncomputable def laidWorld (os : Os) : World :=
  let w0 := World.holding Tryd.prog os ⟨#[], #[], []⟩
  { w0 with heap := (((w0.heap.modify 0 fun
      | .cells _ t frozen => .cells #[.int .u64 5, .int .u64 0, .int .u64 0, .int .u64 0] t frozen
      | o => o).modify 1 fun
      | .cells _ t frozen => .cells #[.int .u64 2, .int .u64 0, .int .u64 0, .int .u64 0] t frozen
      | o => o).modify 2 fun
      | .cells _ t frozen => .cells #[.int .u64 1, .int .u64 0, .int .u64 0, .int .u64 0] t frozen
      | o => o).modify 3 fun
      | .cells _ t frozen => .cells #[.int .u64 2, .int .u64 0, .int .u64 0, .int .u64 0] t frozen
      | o => o }
theorem law_lifted2 {H : Type} {enc : TypeId × Value → H} {C : Checked} {os : Os} {f : FuncId} {fn : Func} {s : ChangeSpec} {fresh handsOn again : Bool} {tb : TypeId} {X : World → Array Value → Prop} (hX : ∀ (w w' : World) (args : Array Value), w.heap = w'.heap → X w args → X w' args)
    (own : ownKnob C.prog.godebug = none) (started : os.Started) (noInit : C.prog.inits.idxOf? f = none) (hfn : C.prog.funcs[f]? = some fn) (hl : laidOutB C.prog = true)
    (witness : ∃ (w : World) (tape : Tape) (i : Input), w.os = os ∧ (w.forCall tape i).Shaped C.prog ∧ i.vars = [] ∧ Input.okWide C.prog (w.forCall tape i) .any w.heap.size f i ∧
      ((s.pre enc C.prog fn [] false (w.forCall tape i).memory i.args ∧ X (w.forCall tape i).memory i.args) ∧ sizedMet enc C.prog fn (OpenSpec.ofChange s) false (w.forCall tape i).memory i.args) ∧ ({} : Assume).holds C.prog (lone (Frame.enter C.prog f i.args .normal) [] (w.forCall tape i)))
    (hv : s.vars = []) (hs : ∀ ds : List (DataW H), ds.length = fn.params.toList.length → s.fn H ds = { results := [.lit (.bool true)], args := ds })
    (hrt : fn.resultTypes = #[tb]) (htb : C.prog.underlying tb = some .bool)
    (hp : ∀ t ∈ fn.params.toList, C.prog.readableRec t = true ∧ t < C.prog.types.size)
    (walk : ∀ (W : World) (base : Nat) (args : Array Value) (ds : List (DataW H)) (ps : List MemPlace),
      (∀ (j : Nat) t v, fn.params[j]? = some t → args[j]? = some v → Value.okWide C.prog W .any base t v) → DataW.TrodAll enc C.prog W 0 (fun _ => true) true fn.params.toList args.toList ds ps →
      X W args → Calls C.prog f args W fun e W' => e = .returned (.bool true) ∧ Below W.heap.size W W') :
    ReturnsInHanded {} C os f .any (fun w args => (s.pre enc C.prog fn [] false w args ∧ X w args) ∧ sizedMet enc C.prog fn (OpenSpec.ofChange s) false w args) (s.post enc C.prog fn false fresh handsOn again) := by
  refine returnsInHanded_of_change_and hX own started noInit hfn witness ?_
  intro W base args ds gs before hval hW _ _ hXX _
  have hW' := hW
  have hlt : ∀ x ∈ before, x.block < W.heap.size := fun x hx => hW.lt x hx
  obtain ⟨p, q, hA, hV, rfl, hfz, hnd⟩ := hW
  rw [hv] at hV
  obtain ⟨rfl, rfl⟩ := trodVars_none hV
  simp only [List.append_nil] at hW' hlt hfz
  refine (walk W base args ds p hval hA hXX).mono fun e W' ⟨he, hb⟩ => ⟨_, he, ?_⟩
  have hfn' := hs ds (trodAll_len hA).1
  refine post_of_below (pa := p) (pv := []) hW' (fun b sp hd => ?_) (fun sp hsp => ?_) (fun sp _ => ?_) (by simp) hb ?_
  · rw [List.append_nil, hfn', hrt]
    exact trodAll_mk1 (shut_bool htb true)
  · rw [List.append_nil, hfn']
    exact trodAll_stays hl hb hp hA hlt hsp
  · rw [List.append_nil, hfn', hv]
    rfl
  · exact ok_one hrt rfl (okWide_bool_mk htb true)
end Go.Proofs.YtdmcknmjdlghgaaDoor
namespace Go.Proofs.YtdmcknmjdlghgaaDoor
open Go Go.Ab Go.ChangeShapes Go.WideShapes Go.ChangeAt Go.RowKit
set_option linter.unusedSimpArgs false
set_option linter.unusedVariables false
set_option maxRecDepth 100000

theorem wordsNat : Words Tryd.prog 24 4 := words_array tf24_u (by kernel_rfl : Tryd.prog.underlying 22 = some (.int .u64)) (by kernel_rfl) (by kernel_rfl)
theorem facU : ∃ fs f g, Tryd.prog.underlying 78 = some (.struct fs) ∧ fs.size = 2 ∧ fs[0]? = some f ∧ fs[1]? = some g ∧ f.offset = 0 ∧ g.offset = 4 ∧ f.type = 24 ∧ g.type = 3 := by
  have h1 : (Tryd.prog.underlying 78).map (fun d => match d with | .struct fs => (fs.size, fs[0]?.map (fun f => (f.type, f.offset)), fs[1]?.map (fun f => (f.type, f.offset))) | _ => (0, none, none)) = some (2, some (24, 0), some (3, 4)) := by kernel_rfl
  obtain ⟨d, hd, h2⟩ := Option.map_eq_some_iff.1 h1
  cases d with
  | struct fs =>
    simp only [Prod.mk.injEq] at h2
    obtain ⟨hs, h3, h4⟩ := h2
    obtain ⟨f, hf, h5⟩ := Option.map_eq_some_iff.1 h3
    obtain ⟨g, hg, h6⟩ := Option.map_eq_some_iff.1 h4
    simp only [Prod.mk.injEq] at h5 h6
    exact ⟨fs, f, g, hd, hs, hf, hg, h5.2, h6.2, h5.1, h6.1⟩
  | _ => simp at h2
theorem prfU : ∃ fs f g k, Tryd.prog.underlying 43 = some (.struct fs) ∧ fs.size = 3 ∧ fs[0]? = some f ∧ fs[1]? = some g ∧ fs[2]? = some k ∧ f.offset = 0 ∧ g.offset = 4 ∧ k.offset = 4 + 4 ∧ f.type = 24 ∧ g.type = 24 ∧ k.type = 41 := by
  have h1 : (Tryd.prog.underlying 43).map (fun d => match d with | .struct fs => (fs.size, fs[0]?.map (fun f => (f.type, f.offset)), fs[1]?.map (fun f => (f.type, f.offset)), fs[2]?.map (fun f => (f.type, f.offset))) | _ => (0, none, none, none)) = some (3, some (24, 0), some (24, 4), some (41, 4 + 4)) := by kernel_rfl
  obtain ⟨d, hd, h2⟩ := Option.map_eq_some_iff.1 h1
  cases d with
  | struct fs =>
    simp only [Prod.mk.injEq] at h2
    obtain ⟨hs, h3, h4, h7⟩ := h2
    obtain ⟨f, hf, h5⟩ := Option.map_eq_some_iff.1 h3
    obtain ⟨g, hg, h6⟩ := Option.map_eq_some_iff.1 h4
    obtain ⟨k, hk, h8⟩ := Option.map_eq_some_iff.1 h7
    simp only [Prod.mk.injEq] at h5 h6 h8
    exact ⟨fs, f, g, k, hd, hs, hf, hg, hk, h5.2, h6.2, h8.2, h5.1, h6.1, h8.1⟩
  | _ => simp at h2
theorem slcF : Tryd.prog.underlying 41 = some (.slice 78) := by kernel_rfl
theorem slcP : Tryd.prog.underlying 28 = some (.slice 43) := by kernel_rfl
theorem cellsFacs : Cells Tryd.prog 41 1 FacsT := by
  obtain ⟨fs, f, g, hd, hs, hf, hg, o1, o2, t1, t2⟩ := facU
  have h := cells_two hd hs hf hg o1 o2 (by rw [t1]; exact cells_nat wordsNat) (by rw [t2]; exact cells_int (by kernel_rfl) (by kernel_rfl)) (by kernel_rfl : Tryd.prog.cellsOf 78 = 4 + 1)
  have h2 := cells_slice slcF h (by decide) (by kernel_rfl)
  exact ⟨h2.1, fun H enc W base sp held fuel cs x hx => ⟨(h2.2 H enc W base sp held fuel cs x hx).1, facsT_of (h2.2 H enc W base sp held fuel cs x hx).2⟩⟩
theorem cellsPrf : Cells Tryd.prog 43 9 PrfT := by
  obtain ⟨fs, f, g, k, hd, hs, hf, hg, hk, o1, o2, o3, t1, t2, t3⟩ := prfU
  have h2 := cells_three hd hs hf hg hk o1 o2 o3 (by rw [t1]; exact cells_nat wordsNat) (by rw [t2]; exact cells_nat wordsNat) (by rw [t3]; exact cellsFacs) (by kernel_rfl : Tryd.prog.cellsOf 43 = 4 + 4 + 1)
  exact ⟨h2.1, fun H enc W base sp held fuel cs x hx => ⟨(h2.2 H enc W base sp held fuel cs x hx).1, prfT_of (h2.2 H enc W base sp held fuel cs x hx).2⟩⟩
theorem cellsPrfs : Cells Tryd.prog 28 1 PrfsT := by
  have h2 := cells_slice slcP cellsPrf (by decide) (by kernel_rfl)
  exact ⟨h2.1, fun H enc W base sp held fuel cs x hx => ⟨(h2.2 H enc W base sp held fuel cs x hx).1, prfsT_of (h2.2 H enc W base sp held fuel cs x hx).2⟩⟩
section
variable {H : Type} {enc : TypeId × Value → H} {W : World} {base b0 : Nat} {sp : Nat → Bool} {held : Bool} {r : Reach} {v : Value} {d : DataW H} {ps : List MemPlace}
theorem open_prfs (hval : Value.okWide Tryd.prog W r b0 28 v) (hd : DataW.Trod enc Tryd.prog W base sp held 28 v d ps) :
    ∃ (x : Option Addr) (n c : Nat) (l : Nat → Pf), v = .slice x n c ∧ n < 9223372036854775808 ∧ n ≤ c ∧ PfOk l ∧ prfs x n l W := by
  obtain ⟨x, n, c, rfl⟩ := okWide_slice slcP hval
  obtain ⟨fuel, hf⟩ := hd
  obtain ⟨y, m, k, l, he, h1, h2, h3, h4⟩ := (cellsPrfs.2 _ _ _ _ _ _ _ _ _ hf).2
  have he' : [Value.slice x n c] = [Value.slice y m k] := he
  injection he' with he' _
  injection he' with e1 e2 e3
  subst e1; subst e2; subst e3
  exact ⟨x, n, c, l, rfl, h1, h2, h3, h4⟩
end
theorem prmU : ∃ fs f g k, Tryd.prog.underlying 27 = some (.struct fs) ∧ fs.size = 3 ∧ fs[0]? = some f ∧ fs[1]? = some g ∧ fs[2]? = some k ∧ f.offset = 0 ∧ g.offset = 4 ∧ k.offset = 4 + 4 ∧ f.type = 24 ∧ g.type = 24 ∧ k.type = 24 := by
  have h1 : (Tryd.prog.underlying 27).map (fun d => match d with | .struct fs => (fs.size, fs[0]?.map (fun f => (f.type, f.offset)), fs[1]?.map (fun f => (f.type, f.offset)), fs[2]?.map (fun f => (f.type, f.offset))) | _ => (0, none, none, none)) = some (3, some (24, 0), some (24, 4), some (24, 4 + 4)) := by kernel_rfl
  obtain ⟨d, hd, h2⟩ := Option.map_eq_some_iff.1 h1
  cases d with
  | struct fs =>
    simp only [Prod.mk.injEq] at h2
    obtain ⟨hs, h3, h4, h7⟩ := h2
    obtain ⟨f, hf, h5⟩ := Option.map_eq_some_iff.1 h3
    obtain ⟨g, hg, h6⟩ := Option.map_eq_some_iff.1 h4
    obtain ⟨k, hk, h8⟩ := Option.map_eq_some_iff.1 h7
    simp only [Prod.mk.injEq] at h5 h6 h8
    exact ⟨fs, f, g, k, hd, hs, hf, hg, hk, h5.2, h6.2, h8.2, h5.1, h6.1, h8.1⟩
  | _ => simp at h2
def prmL (P Q G : Nat) : List Value := natL P ++ (natL Q ++ natL G)
theorem cellsPrm : Cells Tryd.prog 27 12 fun _ cs => ∃ P Q G, P < 2 ^ 256 ∧ Q < 2 ^ 256 ∧ G < 2 ^ 256 ∧ cs = prmL P Q G := by
  obtain ⟨fs, f, g, k, hd, hs, hf, hg, hk, o1, o2, o3, t1, t2, t3⟩ := prmU
  have h2 := cells_three hd hs hf hg hk o1 o2 o3 (by rw [t1]; exact cells_nat wordsNat) (by rw [t2]; exact cells_nat wordsNat) (by rw [t3]; exact cells_nat wordsNat) (by kernel_rfl : Tryd.prog.cellsOf 27 = 4 + 4 + 4)
  refine ⟨h2.1, fun H enc W base sp held fuel cs x hx => ⟨(h2.2 H enc W base sp held fuel cs x hx).1, ?_⟩⟩
  obtain ⟨u, v, z, rfl, ⟨P, hP, rfl⟩, ⟨Q, hQ, rfl⟩, ⟨G, hG, rfl⟩⟩ := (h2.2 H enc W base sp held fuel cs x hx).2
  exact ⟨P, Q, G, hP, hQ, hG, rfl⟩
theorem prmL_conc (P Q G : Nat) (β : Nat → Nat) : (TV.agg (prms P Q G)).conc β = .agg (prmL P Q G).toArray := by
  simp [conc_agg, prms, prmL, nat4, arr, natL, Function.comp_def, SV.conc]
theorem open_prms {H : Type} {enc : TypeId × Value → H} {W : World} {base b0 : Nat} {sp : Nat → Bool} {held : Bool} {r : Reach} {v : Value} {d : DataW H} {ps : List MemPlace} (hval : Value.okWide Tryd.prog W r b0 27 v) (hd : DataW.Trod enc Tryd.prog W base sp held 27 v d ps) :
    ∃ P Q G : Nat, P < 2 ^ 256 ∧ Q < 2 ^ 256 ∧ G < 2 ^ 256 ∧ ∀ β, v = (TV.agg (prms P Q G)).conc β := by
  obtain ⟨fs, f, g, k, hu, _⟩ := prmU
  obtain ⟨cs, rfl, _⟩ := okWide_struct hu hval
  obtain ⟨fuel, hf⟩ := hd
  obtain ⟨P, Q, G, hP, hQ, hG, he⟩ := (cellsPrm.2 _ _ _ _ _ _ _ _ _ hf).2
  refine ⟨P, Q, G, hP, hQ, hG, fun β => ?_⟩
  rw [prmL_conc]
  have he' : cs.toList = prmL P Q G := he
  rw [← he', Array.toArray_toList]
end Go.Proofs.YtdmcknmjdlghgaaDoor
