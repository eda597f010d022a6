/-
  share: Right.
  group: New, where a group is made.
  A small group is made: what the laws share.
  sortitionlaw10.small; sortitionref03.Nats, where rows are alike.
  What values count for, as it is reckoned.
  modq: what a value counts for.
  modq: what values count for.
  modq: the value at 0.
  Pieces that are handed in; functions beside which something is said of the world.
  Points in rows; what is read of a piece.
-/
import Derived.Test.YtdmcknmjdlghgaaGreatDoorV01
import Derived.Test.YtdmcknmjdlghgaaGreatDoorV02
import Derived.Test.YtdmcknmjdlghgaaGreatDoorV03
import Derived.Test.YtdmcknmjdlghgaaGreatDoorV04
import Derived.Test.YtdmcknmjdlghgaaGreatDoorV05
import Derived.Test.YtdmcknmjdlghgaaGreatDoorV06
import Derived.Test.YtdmcknmjdlghgaaGreatDoorV07
import Derived.Test.YtdmcknmjdlghgaaGreatDoorV09
import Derived.Test.YtdmcknmjdlghgaaGreatDoorV10
import Derived.Test.YtdmcknmjdlghgaaGreatDoorV11
import Derived.Test.YtdmcknmjdlghgaaGreatDoorV12
namespace Go.Proofs.YtdmcknmjdlghgaaGreatDoor
open Go Go.Ab
set_option linter.unusedSimpArgs false
set_option linter.unusedVariables false
set_option linter.defProp false
set_option maxHeartbeats 20000000
set_option maxRecDepth 100000
def rightE (P Q G n : Nat) (l : Nat → Nat) (s : Int) (a : Nat) : Int := if r1B Q n s then r2E P Q G n l s a else 1
theorem right_e (k kx kq P Q G : Nat) (x : Option Addr) (n c : Nat) (l : Nat → Nat) (s : Int) (a : Nat) (hP2 : P < 2 ^ 256) (hQ2 : Q < 2 ^ 256) (hG2 : G < 2 ^ 256) (hl : ∀ i, l i < 2 ^ 256) (ha : a < 2 ^ 256) (hs1 : -9223372036854775808 ≤ s) (hs2 : s ≤ 9223372036854775807) :
    EvC (modEvo 135) Tryz.prog 16 [.s (.v (.pointer (some ⟨k, 0, none⟩))), .s (.v (.slice x n c)), .agg (pieceC s a)] (fun B w => (GK k kx kq P Q G B w ∧ oneK B w) ∧ natsAt (modEvo 135) x n l B w)
      (.s (.v (.int .i64 (rightE P Q G n l s a)))) := by
  refine evC_of Tryz.func16 rfl (by
    intro y hy
    simp only [List.mem_cons, List.not_mem_nil, or_false] at hy
    rcases hy with rfl | rfl | rfl
    · trivial
    · trivial
    · show ∀ z ∈ pieceC s a, z.ok 0
      rw [pieceC_okk]
      trivial) (by trivial) fun B w hpre => ?_
  simp only [List.length_cons, List.length_nil, Tryz.ntmps16, Nat.reduceAdd, Nat.reduceSub, List.replicate_succ, List.replicate_zero, List.cons_append, List.nil_append]
  have h0 := Kn.entry (P := Tryz.prog) (((isGrp_stays 135 k kx kq P Q G).and oneK_stays).and (natsAt_stays _ x n l)) hpre
  clear hpre
  (refine X_of _ ?_; simp -implicitDefEqProofs (maxSteps := 1000000) (disch := first | exact dz3 | fail) only [vcR, vcT, simprocAttr, Ab.part, implies_true, forall_const, vcS, vcXHb, Tryz.f16])
  refine X_rebase (modEvo 135) B [] (by decide) (by simp) rfl (.inl ⟨rfl, rfl⟩) (fun _ h => h) (by simp) fun β1 w1 hR1 => ?_
  have h1 := h0.after (L := []) hR1 (by simp)
  have hb : Kn ((ctxE Tryz.prog (modEvo 135) w B).after (modEvo 135) B w1 β1 []) (boxesAt (β1 0) (β1 1) (β1 2) k x n c s a) := by
    have k1 := cellsAt_gone (n := 1) (V := modEvo 135) (B := B) (g := fun _ => .pointer (some ⟨k, 0, none⟩)) (L := []) (j := 0) hR1 rfl (by decide) (by simp) (by simp [modEvo]) fun i hi => by
      rcases i with _ | i
      · rfl
      · omega
    have k2 := cellsAt_gone (n := 1) (V := modEvo 135) (B := B) (g := fun _ => .slice x n c) (L := []) (j := 1) hR1 rfl (by decide) (by simp) (by simp [modEvo]) fun i hi => by
      rcases i with _ | i
      · rfl
      · omega
    have k3 := cellsAt_gone (n := 5) (V := modEvo 135) (B := B) (g := pieceG s a) (L := []) (j := 2) hR1 rfl (by decide) (by simp) (by simp [modEvo]) fun i hi => by
      rcases i with _ | _ | _ | _ | _ | i
      all_goals first | rfl | omega
    exact fun w' hw' => ⟨k1 w' hw', k2 w' hw', k3 w' hw'⟩
  clear h0 hR1
  obtain ⟨jg, hjg⟩ : ∃ j, β1 0 = j := ⟨_, rfl⟩
  obtain ⟨jc, hjc⟩ : ∃ j, β1 1 = j := ⟨_, rfl⟩
  obtain ⟨jp, hjp⟩ : ∃ j, β1 2 = j := ⟨_, rfl⟩
  rw [hjg, hjc, hjp] at hb
  have hG : Kn ((ctxE Tryz.prog (modEvo 135) w B).after (modEvo 135) B w1 β1 []) (GK k kx kq P Q G) := h1.left.left
  have hO : Kn ((ctxE Tryz.prog (modEvo 135) w B).after (modEvo 135) B w1 β1 []) oneK := h1.left.right
  have hN : Kn ((ctxE Tryz.prog (modEvo 135) w B).after (modEvo 135) B w1 β1 []) (natsAt (modEvo 135) x n l) := h1.right
  clear h1
  try simp -implicitDefEqProofs (maxSteps := 1000000) (disch := first | exact dz3 | fail) only [vcR, vcT, simprocAttr, Ab.part, implies_true, forall_const, vcS, vcXHb, Tryz.f16, hjg,hjc,hjp]
  have hz : slice0 Tryz.prog 77 2 = some [.v .nilFunc, .v .nilFunc] := by kernel_rfl
  have hz2 : ∀ u v : SV, setAt (setAt [.v .nilFunc, .v .nilFunc] 0 [u]) 1 [v] = [u, v] := fun u v => rfl
  have hz3 : ∀ u : SV, (setAt [.v .nilFunc, .v .nilFunc] 0 [u]).length = 2 := fun u => rfl
  obtain ⟨cs, hcs⟩ : ∃ cs, List.map (SV.fz [] β1) (pieceC s a) = cs := ⟨_, rfl⟩
  rw [hcs]
  clear hcs
  have e1 := right1_e jg jc jp k kx kq P Q G x n c s a hs1 hs2
  have hE : rightE P Q G n l s a = if r1B Q n s then r2E P Q G n l s a else 1 := rfl
  obtain ⟨r, hr⟩ : ∃ r, rightE P Q G n l s a = r := ⟨_, rfl⟩
  rw [hr] at hE ⊢
  clear hr
  have e2 : r1B Q n s = true → EvC (modEvo 135) Tryz.prog 35 [.s (.v (.pointer (some ⟨jg, 0, none⟩))), .s (.v (.pointer (some ⟨jc, 0, none⟩))), .s (.v (.pointer (some ⟨jp, 0, none⟩)))] (fun B w => (GK k kx kq P Q G B w ∧ oneK B w) ∧ boxesAt jg jc jp k x n c s a B w ∧ natsAt (modEvo 135) x n l B w)
      (.s (.v (.int .i64 (r2E P Q G n l s a)))) := fun h => by
    unfold r1B at h
    simp only [Bool.and_eq_true, decide_eq_true_eq] at h
    exact right2_e jg jc jp k kx kq P Q G x n c l s a hP2 hQ2 hG2 hl ha h.1.1.1.1 h.1.1.1.2 h.1.1.2 h.1.2
  clear hl
  (repeat' ((first | with_reducible (first | apply cF_pure3 (by assumption) | apply cF_ev3 (by assumption)) | refine X_of _ ?_ | with_reducible (first | exact ⟨_, rfl⟩ | refine And.intro ?_ ?_ | intro _)) <;> try simp -implicitDefEqProofs (maxSteps := 1000000) (disch := first | exact dz3 | fail) only [vcR, vcT, simprocAttr, Ab.part, implies_true, forall_const, vcS, vcXHb, Tryz.f16, st_bs,xbs_some,hz,hz2,hz3]))
  refine X_loop (ι := Nat) (fun i => i ≤ 2 ∧ (1 ≤ i → r1B Q n s = true) ∧ (2 ≤ i → r2E P Q G n l s a = 0)) (fun i => 2 - i) [6, 8, 9, 14, 15, 16, 17, 18, 19, 20, 21, 22, 23]
    (fun i => [(14, .s (.v (.int .i64 (i : Nat))))])
    (fun i => []) 0 (shape_of fun i => ?_) (by decide) ?_ ?_
  · simp only [List.length_cons, List.length_nil, List.map_cons, List.map_nil, List.nodup_cons, List.nodup_nil, List.mem_cons, Nat.reduceAdd, Nat.reduceEqDiff, or_false, not_false_eq_true, forall_eq_or_imp, forall_eq, or_self, Nat.reduceLT, Nat.reduceLeDiff, and_self, List.forall_mem_cons, List.not_mem_nil, false_implies, implies_true, and_true, true_and, vcOHb]
  · simp -implicitDefEqProofs (maxSteps := 1000000) (disch := first | exact dz3 | fail) only [vcR, vcT, simprocAttr, Ab.part, implies_true, forall_const, vcS, vcXHb, Tryz.f16, again_eq]
    first | exact ⟨_, rfl⟩ | exact ⟨⟨by omega, fun h => absurd h (by decide), fun h => absurd h (by decide)⟩, _, rfl⟩ | (simp; done)
  · intro i us ⟨hi, hi1, hi2⟩
    rcases i with _ | _ | i
    · cases h1 : r1B Q n s with
      | true =>
        rw [h1] at e1
        clear e2
        (repeat' ((first | with_reducible (first | apply cF_pure3 (by assumption) | apply cF_ev3 (by assumption)) | refine X_of _ ?_ | with_reducible (first | exact ⟨_, rfl⟩ | refine And.intro ?_ ?_ | intro _)) <;> try simp -implicitDefEqProofs (maxSteps := 1000000) (disch := first | exact dz3 | fail) only [vcR, vcT, simprocAttr, Ab.part, implies_true, forall_const, vcS, vcXHb, Tryz.f16]))
        refine ⟨1, by omega, ?_⟩
        simp -implicitDefEqProofs (maxSteps := 1000000) (disch := first | exact dz3 | fail) only [vcR, vcT, simprocAttr, Ab.part, implies_true, forall_const, vcS, vcXHb, Tryz.f16, again_eq,h1]
        first | exact ⟨_, rfl⟩ | (simp; done)
      | false =>
        rw [h1] at e1 hE
        rw [if_neg (by decide)] at hE
        clear e2
        (repeat' ((first | with_reducible (first | apply cF_pure3 (by assumption) | apply cF_ev3 (by assumption)) | refine X_of _ ?_ | with_reducible (first | exact ⟨_, rfl⟩ | refine And.intro ?_ ?_ | intro _)) <;> try simp -implicitDefEqProofs (maxSteps := 1000000) (disch := first | exact dz3 | fail) only [vcR, vcT, simprocAttr, Ab.part, implies_true, forall_const, vcS, vcXHb, Tryz.f16]))
        exact hE.symm
    · have h1 := hi1 (by omega)
      have e3 := e2 h1
      rw [h1, if_pos rfl] at hE
      rw [← hE] at e3
      clear e1 e2
      by_cases r0 : r = 0
      · subst r0
        (repeat' ((first | with_reducible (first | apply cF_pure3 (by assumption) | apply cF_ev3 (by assumption)) | refine X_of _ ?_ | with_reducible (first | exact ⟨_, rfl⟩ | refine And.intro ?_ ?_ | intro _)) <;> try simp -implicitDefEqProofs (maxSteps := 1000000) (disch := first | exact dz3 | fail) only [vcR, vcT, simprocAttr, Ab.part, implies_true, forall_const, vcS, vcXHb, Tryz.f16]))
        refine ⟨2, by omega, ?_⟩
        simp -implicitDefEqProofs (maxSteps := 1000000) (disch := first | exact dz3 | fail) only [vcR, vcT, simprocAttr, Ab.part, implies_true, forall_const, vcS, vcXHb, Tryz.f16, again_eq,h1]
        first | exact ⟨hE.symm, _, rfl⟩ | exact ⟨⟨h1, hE.symm⟩, _, rfl⟩ | (simp; done)
      · have hd : (r != 0) = true := bne_iff_ne.2 r0
        (repeat' ((first | with_reducible (first | apply cF_pure3 (by assumption) | apply cF_ev3 (by assumption)) | refine X_of _ ?_ | with_reducible (first | exact ⟨_, rfl⟩ | refine And.intro ?_ ?_ | intro _)) <;> try simp -implicitDefEqProofs (maxSteps := 1000000) (disch := first | exact dz3 | fail) only [vcR, vcT, simprocAttr, Ab.part, implies_true, forall_const, vcS, vcXHb, Tryz.f16, hd]))
    · have : i = 0 := by omega
      subst this
      have h1 := hi1 (by omega)
      have h2 := hi2 (by omega)
      rw [h1, if_pos rfl, h2] at hE
      clear e1 e2
      (repeat' ((first | with_reducible (first | apply cF_pure3 (by assumption) | apply cF_ev3 (by assumption)) | refine X_of _ ?_ | with_reducible (first | exact ⟨_, rfl⟩ | refine And.intro ?_ ?_ | intro _)) <;> try simp -implicitDefEqProofs (maxSteps := 1000000) (disch := first | exact dz3 | fail) only [vcR, vcT, simprocAttr, Ab.part, implies_true, forall_const, vcS, vcXHb, Tryz.f16]))
      exact hE.symm
def NewR (P Q G : Nat) (w0 : World) (v : TV) (H : Heap) (A : World → Prop) : Prop :=
  ∃ kx kq, v = .tup [.s (.p 1 0), .s (.v (.int .i64 0))] ∧ H[1]? = some ⟨100, grpc P Q G (.v (.pointer (some ⟨kx, 0, none⟩))) (.v (.pointer (some ⟨kq, 0, none⟩)))⟩ ∧
    A = fun w => isMod 135 kx P w0.heap.size w ∧ isMod 135 kq Q w0.heap.size w ∧ kx ≠ kq
def GrpR (P Q G : Nat) (v : TV) (H : Heap) : Prop := ∃ bx bq, v = .tup [.s (.p 0 0), .s (.v (.int .i64 0))] ∧ H = [⟨100, grpc P Q G (.p 1 0) (.p 2 0)⟩, ⟨135, modS P bx⟩, ⟨135, modS Q bq⟩]
theorem grp_again {P0 : Program} {P Q G : Nat} {w w' : World} {v : TV} {H : Heap} {A : World → Prop} {β : Nat → Nat} {e : Ending} (h : NewR P Q G w v H A) (hA : A w') (hR : Rep (ctx0 P0 w) H β w') (he : ∀ β'', Agrees H.length β β'' → e = .returned (v.conc β'')) :
    ∃ v H' β', GrpR P Q G v H' ∧ (∀ b ∈ H', ∀ x ∈ b.cs, x.ok H'.length) ∧ v.ok H'.length ∧ Rep (ctx0 P0 w) H' β' w' ∧ e = .returned (v.conc β') := by
  obtain ⟨kx, kq, rfl, hH, rfl⟩ := h
  obtain ⟨⟨hP, hBx, bx, hx⟩, ⟨hQ, hBq, bq, hq⟩, hne⟩ := hA
  have h1 := hR.blk β (.refl _ _) 1 _ hH
  have hlt : 1 < H.length := (List.getElem?_eq_some_iff.1 hH).1
  have hdx : β 1 ≠ kx := fun e => by
    rw [e, hx] at h1
    injection h1 with h1
    unfold modObj AB.conc at h1
    injection h1 with _ h1 _
    exact absurd (show 135 = 100 from h1) (by decide)
  have hdq : β 1 ≠ kq := fun e => by
    rw [e, hq] at h1
    injection h1 with h1
    unfold modObj AB.conc at h1
    injection h1 with _ h1 _
    exact absurd (show 135 = 100 from h1) (by decide)
  have hB1 : w.heap.size ≤ β 1 := new_lie hR (fun _ h => h) hlt
  obtain ⟨β', hβ⟩ : ∃ β' : Nat → Nat, β' = fun j => if j = 0 then β 1 else if j = 1 then kx else kq := ⟨_, rfl⟩
  have b0 : β' 0 = β 1 := by rw [hβ]; rfl
  have b1 : β' 1 = kx := by rw [hβ]; rfl
  have b2 : β' 2 = kq := by rw [hβ]; rfl
  refine ⟨_, _, β', ⟨bx, bq, rfl, rfl⟩, ?_, ?_, ⟨⟨Nat.zero_le _, fun j hj => absurd hj (Nat.not_lt_zero j)⟩, hR.fr, fun p q hp hq hpq => ?_, fun j hj => ?_, fun j b hb h => h.elim, fun β'' h'' j b hb => ?_⟩, ?_⟩
  · intro b hb
    simp only [List.mem_cons, List.not_mem_nil, or_false] at hb
    rcases hb with rfl | rfl | rfl
    · show ∀ x ∈ grpc P Q G (.p 1 0) (.p 2 0), x.ok 3
      rw [grpc_okk]
      exact ⟨by show 1 < 3; decide, by show 2 < 3; decide⟩
    · exact fun x hx => SV.ok_mono (modS_ok x hx) (Nat.zero_le _)
    · exact fun x hx => SV.ok_mono (modS_ok x hx) (Nat.zero_le _)
  · intro x hx
    simp only [List.mem_cons, List.not_mem_nil, or_false] at hx
    rcases hx with rfl | rfl
    · show 0 < 3; decide
    · trivial
  · simp only [List.length_cons, List.length_nil] at hp hq
    rcases p with _ | _ | _ | p <;> rcases q with _ | _ | _ | q <;> first | rfl | omega | (simp only [Nat.zero_add, Nat.reduceAdd, b0, b1, b2] at hpq; exfalso; first | exact hdx hpq | exact hdq hpq | exact hne hpq | exact hdx hpq.symm | exact hdq hpq.symm | exact hne hpq.symm)
  · simp only [List.length_cons, List.length_nil] at hj
    refine .inl ?_
    rcases j with _ | _ | _ | j
    · rw [b0]; exact hB1
    · rw [b1]; exact hBx
    · rw [b2]; exact hBq
    · omega
  · rcases j with _ | _ | _ | j
    · simp only [List.getElem?_cons_zero, Option.some.injEq] at hb
      subst hb
      have e1 : β'' 1 = kx := by rw [h'' 1 (by show 1 < 3; decide), b1]
      have e2 : β'' 2 = kq := by rw [h'' 2 (by show 2 < 3; decide), b2]
      rw [b0, h1]
      simp only [AB.conc, grpc, prms, nat4, arr, List.map_append, List.map_map, List.map_cons, List.map_nil, Function.comp_def, SV.conc, e1, e2]
    · simp only [List.getElem?_cons_zero, List.getElem?_cons_succ, Option.some.injEq] at hb
      subst hb
      rw [show 0 + 1 = 1 from rfl, b1, hx, modObj_conc]
    · simp only [List.getElem?_cons_zero, List.getElem?_cons_succ, Option.some.injEq] at hb
      subst hb
      rw [show 0 + 1 + 1 = 2 from rfl, b2, hq, modObj_conc]
    · simp at hb
  · rw [he β (.refl _ _)]
    simp only [TV.conc, AV.conc, SV.conc, List.map_cons, List.map_nil, b0]
theorem grpb1 {P Q G : Nat} : (setAt [.v (.int .u64 0), .v (.int .u64 0), .v (.int .u64 0), .v (.int .u64 0), .v (.int .u64 0), .v (.int .u64 0), .v (.int .u64 0), .v (.int .u64 0), .v (.int .u64 0), .v (.int .u64 0), .v (.int .u64 0), .v (.int .u64 0), .v (.pointer none), .v (.pointer none)] 0 (prms P Q G)).length = 14 := rfl
theorem grpb2 {P Q G : Nat} {x : SV} : ((setAt [.v (.int .u64 0), .v (.int .u64 0), .v (.int .u64 0), .v (.int .u64 0), .v (.int .u64 0), .v (.int .u64 0), .v (.int .u64 0), .v (.int .u64 0), .v (.int .u64 0), .v (.int .u64 0), .v (.int .u64 0), .v (.int .u64 0), .v (.pointer none), .v (.pointer none)] 0 (prms P Q G)).set 12 x).length = 14 := rfl
theorem grpb3 {P Q G : Nat} {x y : SV} : ((setAt [.v (.int .u64 0), .v (.int .u64 0), .v (.int .u64 0), .v (.int .u64 0), .v (.int .u64 0), .v (.int .u64 0), .v (.int .u64 0), .v (.int .u64 0), .v (.int .u64 0), .v (.int .u64 0), .v (.int .u64 0), .v (.int .u64 0), .v (.pointer none), .v (.pointer none)] 0 (prms P Q G)).set 12 x).set 13 y = grpc P Q G x y := rfl
theorem gNew_good (P Q G : Nat) (x : Option Addr) (m c : Nat) (l : Nat → Pf) (hP : P < 2 ^ 256) (hQ : Q < 2 ^ 256) (hG : G < 2 ^ 256) (hl : PfOk l) (hm : m < 9223372036854775808) (he : pvS l m Q = 0) (hok : grOK P Q G) :
    NewG Tryz.prog 23 [.agg (prms P Q G), .s (.v (.slice x m c))] (fun w => prfs x m l w ∧ gv w) (GrpR P Q G) := by
  have hpv := (proves_m x m c l Q hl hm hQ).ev (V := Evo.none)
  rw [he] at hpv
  clear he hl
  obtain ⟨hOP, hOQ, c5, cq, c2, cg, hg1⟩ := hok
  have h1 := new_good P hOP
  have h2 := new_good Q hOQ
  intro w hpre
  refine (calls_of_XA (Γ := ctx0 Tryz.prog w) (A := fun _ => True) (R := NewR P Q G w) Tryz.func23 rfl (rep0 Tryz.prog w fun _ => 0) trivial (by simp only [List.length_cons, List.length_nil, List.map_cons, List.map_nil, List.nodup_cons, List.nodup_nil, List.mem_cons, Nat.reduceAdd, Nat.reduceEqDiff, or_false, not_false_eq_true, forall_eq_or_imp, forall_eq, or_self, Nat.reduceLT, Nat.reduceLeDiff, and_self, List.forall_mem_cons, List.not_mem_nil, false_implies, implies_true, and_true, true_and, vcOGb]) ?_).mono fun e w' ⟨v, H', A', β', hv, hA, hR, he⟩ => grp_again hv hA hR he
  simp only [List.length_cons, List.length_nil, Tryz.ntmps23, Nat.reduceAdd, Nat.reduceSub, List.replicate_succ, List.replicate_zero, List.cons_append, List.nil_append]
  have hFL : Kn (ctx0 Tryz.prog w) fun _ w => prfs x m l w ∧ least w := fun w' hw' => ⟨(prfs_kn (P0 := Tryz.prog) hpre.1).prfs0 w' hw', (least_kn (P0 := Tryz.prog) hpre.2.1).least0 w' hw'⟩
  refine XA_seq (XA_of' ?_)
  (repeat' ((first | with_reducible (first | apply XQ_cons | apply XQ_consG | apply XQ_nil | apply XR_cons | apply XR_consG | apply XR_nil | apply cF_pure2 (by assumption) | apply cV_pure2 (by assumption) | apply cF_ev2 (by assumption) | apply cV_ev2 (by assumption) | apply cF_pure2 (cmp_c _ _ bd2 bd2) | apply cV_pure2 (cmp_c _ _ bd2 bd2) | apply cF_ev2 (pow_e _ _ _ _ bd2 bd2 bd2) | apply cV_ev2 (pow_e _ _ _ _ bd2 bd2 bd2)) | ((with_reducible apply cF_new2 (by assumption)); (first | rintro _ _ ⟨rfl, rfl⟩ | rintro _ _ ⟨_, _, rfl, rfl⟩)) | with_reducible (first | apply gRS (by with_unfolding_all rfl) | apply gR (by with_unfolding_all rfl) | apply gS (by with_unfolding_all rfl) | fail) | (with_reducible apply X_drawC (id := 8) 24; (next => (kernel_rfl)); (next => (kernel_rfl))) | refine X_of _ ?_ | with_reducible (first | exact ⟨_, rfl⟩ | refine And.intro ?_ ?_ | intro _)) <;> try simp -implicitDefEqProofs (maxSteps := 1000000) (disch := first | exact dz2 | fail) only [vcR, vcT, simprocAttr, Ab.part, implies_true, forall_const, vcS, vcXGb, Tryz.f23, seqA_n,prms_splice]))
  refine XA_seq (XA_of' ?_)
  (repeat' ((first | with_reducible (first | apply XQ_cons | apply XQ_consG | apply XQ_nil | apply XR_cons | apply XR_consG | apply XR_nil | apply cF_pure2 (by assumption) | apply cV_pure2 (by assumption) | apply cF_ev2 (by assumption) | apply cV_ev2 (by assumption) | apply cF_pure2 (cmp_c _ _ bd2 bd2) | apply cV_pure2 (cmp_c _ _ bd2 bd2) | apply cF_ev2 (pow_e _ _ _ _ bd2 bd2 bd2) | apply cV_ev2 (pow_e _ _ _ _ bd2 bd2 bd2)) | ((with_reducible apply cF_new2 (by assumption)); (first | rintro _ _ ⟨rfl, rfl⟩ | rintro _ _ ⟨_, _, rfl, rfl⟩)) | with_reducible (first | apply gRS (by with_unfolding_all rfl) | apply gR (by with_unfolding_all rfl) | apply gS (by with_unfolding_all rfl) | fail) | (with_reducible apply X_drawC (id := 8) 24; (next => (kernel_rfl)); (next => (kernel_rfl))) | refine X_of _ ?_ | with_reducible (first | exact ⟨_, rfl⟩ | refine And.intro ?_ ?_ | intro _)) <;> try simp -implicitDefEqProofs (maxSteps := 1000000) (disch := first | exact dz2 | fail) only [vcR, vcT, simprocAttr, Ab.part, implies_true, forall_const, vcS, vcXGb, Tryz.f23, seqA_n,bne_self_eq_false]))
  refine XA_seq (XA_of' ?_)
  (repeat' ((first | with_reducible (first | apply XQ_cons | apply XQ_consG | apply XQ_nil | apply XR_cons | apply XR_consG | apply XR_nil | apply cF_pure2 (by assumption) | apply cV_pure2 (by assumption) | apply cF_ev2 (by assumption) | apply cV_ev2 (by assumption) | apply cF_pure2 (cmp_c _ _ bd2 bd2) | apply cV_pure2 (cmp_c _ _ bd2 bd2) | apply cF_ev2 (pow_e _ _ _ _ bd2 bd2 bd2) | apply cV_ev2 (pow_e _ _ _ _ bd2 bd2 bd2)) | ((with_reducible apply cF_new2 (by assumption)); (first | rintro _ _ ⟨rfl, rfl⟩ | rintro _ _ ⟨_, _, rfl, rfl⟩)) | with_reducible (first | apply gRS (by with_unfolding_all rfl) | apply gR (by with_unfolding_all rfl) | apply gS (by with_unfolding_all rfl) | fail) | (with_reducible apply X_drawC (id := 8) 24; (next => (kernel_rfl)); (next => (kernel_rfl))) | refine X_of _ ?_ | with_reducible (first | exact ⟨_, rfl⟩ | refine And.intro ?_ ?_ | intro _)) <;> try simp -implicitDefEqProofs (maxSteps := 1000000) (disch := first | exact dz2 | fail) only [vcR, vcT, simprocAttr, Ab.part, implies_true, forall_const, vcS, vcXGb, Tryz.f23, seqA_n]))
  refine XA_seq (XA_of' ?_)
  (repeat' ((first | with_reducible (first | apply XQ_cons | apply XQ_consG | apply XQ_nil | apply XR_cons | apply XR_consG | apply XR_nil | apply cF_pure2 (by assumption) | apply cV_pure2 (by assumption) | apply cF_ev2 (by assumption) | apply cV_ev2 (by assumption) | apply cF_pure2 (cmp_c _ _ bd2 bd2) | apply cV_pure2 (cmp_c _ _ bd2 bd2) | apply cF_ev2 (pow_e _ _ _ _ bd2 bd2 bd2) | apply cV_ev2 (pow_e _ _ _ _ bd2 bd2 bd2)) | ((with_reducible apply cF_new2 (by assumption)); (first | rintro _ _ ⟨rfl, rfl⟩ | rintro _ _ ⟨_, _, rfl, rfl⟩)) | with_reducible (first | apply gRS (by with_unfolding_all rfl) | apply gR (by with_unfolding_all rfl) | apply gS (by with_unfolding_all rfl) | fail) | (with_reducible apply X_drawC (id := 8) 24; (next => (kernel_rfl)); (next => (kernel_rfl))) | refine X_of _ ?_ | with_reducible (first | exact ⟨_, rfl⟩ | refine And.intro ?_ ?_ | intro _)) <;> try simp -implicitDefEqProofs (maxSteps := 1000000) (disch := first | exact dz2 | fail) only [vcR, vcT, simprocAttr, Ab.part, implies_true, forall_const, vcS, vcXGb, Tryz.f23, seqA_n]))
  refine XA_two 1 2 [0] rfl rfl hOP hOQ (by decide) (by decide) (by decide) (by simp) (by simp [pickH_cons, pickH_nil, consH_some]) fun β1 w1 hR1 hM1 hM2 hK => ?_
  have g1 : ∀ {K : TV → HE → Prop}, xext ((ctx0 Tryz.prog w).after (modEvo 135) w.heap.size w1 β1 [0]) (some true) 4 ⟨2, 0, none⟩ K = K (.agg (nat4 1)) .none := fun {K} => Kn.one1 (hK _ oneK_stays (gnat_at _ hpre.2.2.2.2))
  have g5 : ∀ {K : TV → HE → Prop}, xext ((ctx0 Tryz.prog w).after (modEvo 135) w.heap.size w1 β1 [0]) (some true) 4 ⟨0, 0, none⟩ K = K (.agg (nat4 5)) .none := fun {K} => Kn.gnat (hK _ (natsAt_stays _ _ _ _) (gnat_at _ hpre.2.2.1))
  have g2 : ∀ {K : TV → HE → Prop}, xext ((ctx0 Tryz.prog w).after (modEvo 135) w.heap.size w1 β1 [0]) (some true) 4 ⟨1, 0, none⟩ K = K (.agg (nat4 2)) .none := fun {K} => Kn.gnat (hK _ (natsAt_stays _ _ _ _) (gnat_at _ hpre.2.2.2.1))
  clear hpre hFL hK hpv h1 h2
  obtain ⟨kx, hkx⟩ : ∃ kx, β1 1 = kx := ⟨_, rfl⟩
  obtain ⟨kq, hkq⟩ : ∃ kq, β1 2 = kq := ⟨_, rfl⟩
  rw [hkx] at hM1
  rw [hkq] at hM2
  have hpw := pow_e kx P G Q hOP hG hQ
  obtain ⟨r, hr⟩ : ∃ r, G ^ Q % P = r := ⟨_, rfl⟩
  have hr2 : r < 2 ^ 256 := by rw [← hr]; exact hOP.mod_lt
  rw [hr] at hpw
  rw [hkx, hkq]
  have hrr : r = 1 := hr.symm.trans hg1
  subst hrr
  have hs : ¬ sg P 5 < 0 := by have := sg_nonneg c5; omega
  have hs2 : ¬ sg Q P ≥ 0 := by have := sg_lt0 cq; omega
  have hs3 : ¬ sg G 2 < 0 := by have := sg_nonneg c2; omega
  have hs4 : ¬ sg G P ≥ 0 := by have := sg_lt0 cg; omega
  clear hg1 hr hr2
  try simp -implicitDefEqProofs (maxSteps := 1000000) (disch := first | exact dz2 | fail) only [vcR, vcT, simprocAttr, Ab.part, implies_true, forall_const, vcS, vcXGb, Tryz.f23, hkx,hkq]
  (repeat' ((first | with_reducible (first | apply XQ_cons | apply XQ_consG | apply XQ_nil | apply XR_cons | apply XR_consG | apply XR_nil | apply cF_pure2 (by assumption) | apply cV_pure2 (by assumption) | apply cF_ev2 (by assumption) | apply cV_ev2 (by assumption) | apply cF_pure2 (cmp_c _ _ bd2 bd2) | apply cV_pure2 (cmp_c _ _ bd2 bd2)) | ((with_reducible apply cF_new2 (by assumption)); (first | rintro _ _ ⟨rfl, rfl⟩ | rintro _ _ ⟨_, _, rfl, rfl⟩)) | with_reducible (first | apply gRS (by with_unfolding_all rfl) | apply gR (by with_unfolding_all rfl) | apply gS (by with_unfolding_all rfl) | apply gSB (by with_unfolding_all rfl) | apply gB (by with_unfolding_all rfl) | fail) | (with_reducible apply X_drawC (id := 8) 24; (next => (kernel_rfl)); (next => (kernel_rfl))) | refine X_of _ ?_ | with_reducible (first | exact ⟨_, rfl⟩ | refine And.intro ?_ ?_ | intro _)) <;> try simp -implicitDefEqProofs (maxSteps := 1000000) (disch := first | exact dz2 | fail) only [vcR, vcT, simprocAttr, Ab.part, implies_true, forall_const, vcS, vcXGb, Tryz.f23, g5,g2,g1,bne_self_eq_false,hs,hs2,hs3,hs4,retA_n,retA_r,grpb1,grpb2,grpb3]))
  exact ⟨kx, kq, rfl, rfl, rfl⟩
theorem gv_kn {P0 : Program} {w : World} (h : gv w) : Kn (ctx0 P0 w) fun _ w => gv w := fun w' hw' => ⟨(least_kn (P0 := P0) h.1).least0 w' hw', (gnat_kn (P0 := P0) h.2.1).gnat0 w' hw', (gnat_kn (P0 := P0) h.2.2.1).gnat0 w' hw', (gnat_kn (P0 := P0) h.2.2.2).gnat0 w' hw'⟩
theorem lies_at {Γ : Ctx} {H : Heap} {β : Nat → Nat} {w : World} {h0 n Q : Nat} {H1 : Heap} (hR : Rep Γ H β w) (hL : Lies n Q H1) (hd : ∀ (j : Nat) (b : AB), H1[j]? = some b → H[j + h0]? = some (b.ren (· + h0))) :
    ∃ l, PfOk l ∧ pvS l n Q = 0 ∧ pvS l 1 Q = 20 ∧ prfs (some ⟨β h0, 0, none⟩) n l w := by
  obtain ⟨l, h1, h2, h3, h4⟩ := hL fun j => β (j + h0)
  have h5 := h4 w fun j b hb => by rw [hR.blk β (.refl _ _) _ _ (hd j b hb), AB.conc_ren]; rfl
  simp only [Nat.zero_add] at h5
  exact ⟨l, h1, h2, h3, h5⟩
section
variable {Γ : Ctx} {H A : Heap} {K : TV → Heap → Prop} {p : AB} {h0 n N P Q : Nat} {H1 : Heap}
theorem yF_small {z : Int} (h : NewG Tryz.prog 7 [.s (.v (.int .i64 z))] (fun _ => True) (SmR P Q)) (hP : Γ.P = Tryz.prog) (hev : ∀ t, ¬ Γ.ev.TM t) (hh : H.length = h0)
    (hK : ∀ n A H1, 1 ≤ n → n ≤ 5 → Lies n Q H1 → (∀ (j : Nat) (b : AB), H1[j]? = some b → A[j + h0]? = some (b.ren (· + h0))) → (∃ X, A = H ++ X) → h0 < A.length → K (.tup [.agg (prms P Q 4), .s (.sl h0 0 n n)]) A) : xcallF Γ H 7 [.s (.v (.int .i64 z))] K := by
  subst hh
  refine yF_newG (P := Tryz.prog) (fun β w hR => ⟨_, h, trivial⟩) hP (by kernel_rfl) hev ?_
  rintro _ H1 ⟨n, ⟨h1, h5⟩, rfl, hL, h0⟩
  have e : TV.ren (· + H.length) (.tup [.agg (prms P Q 4), .s (.sl 0 0 n n)]) = .tup [.agg (prms P Q 4), .s (.sl (0 + H.length) 0 n n)] := rfl
  rw [e, Nat.zero_add]
  refine hK n _ H1 h1 h5 hL (fun j b hb => ?_) ⟨_, rfl⟩ (by simp; omega)
  rw [List.getElem?_append_right (by omega), Nat.add_sub_cancel, List.getElem?_map, hb]
  rfl
theorem app_at {B : Heap} {b : AB} {j : Nat} (h : A[j]? = some b) : (A ++ B)[j]? = some b := by
  rw [List.getElem?_append_left (List.getElem?_eq_some_iff.1 h).1, h]
theorem yF_new (hL : Lies n Q H1) (hn5 : n ≤ 5) (hd : ∀ (j : Nat) (b : AB), H1[j]? = some b → A[j + h0]? = some (b.ren (· + h0))) (hN : A.length = N) (hok : grOK P Q 4) (hgv : Kn Γ fun _ w => gv w) (hP : Γ.P = Tryz.prog) (hev : ∀ t, ¬ Γ.ev.TM t)
    (hK : ∀ bx bq, K (.tup [.s (.p (N + 1) 0), .s (.v (.int .i64 0))]) (A ++ [p, ⟨100, grpc P Q 4 (.p (N + 2) 0) (.p (N + 3) 0)⟩, ⟨135, modS P bx⟩, ⟨135, modS Q bq⟩])) :
    xcallF Γ (A ++ [p]) 23 [.agg (prms P Q 4), .s (.sl h0 0 n n)] K := by
  subst hN
  refine yF_newG (P := Tryz.prog) (R := GrpR P Q 4) (fun β w hR => ?_) hP (by kernel_rfl) hev ?_
  · obtain ⟨l, h1, h2, _, h4⟩ := lies_at hR hL fun j b hb => app_at (hd j b hb)
    exact ⟨_, gNew_good P Q 4 (some ⟨β h0, 0, none⟩) n n l hok.1.lt hok.2.1.lt (by decide) h1 (by omega) h2 hok, h4, hgv w hR.fr.to⟩
  · rintro _ _ ⟨bx, bq, rfl, rfl⟩
    have h1 := hK bx bq
    have hl : (A ++ [p]).length = A.length + 1 := by simp
    rw [hl]
    have e : TV.ren (· + (A.length + 1)) (.tup [.s (.p 0 0), .s (.v (.int .i64 0))]) = .tup [.s (.p (0 + (A.length + 1)) 0), .s (.v (.int .i64 0))] := rfl
    rw [e, Nat.zero_add, List.append_assoc]
    have e2 : [p] ++ List.map (AB.ren (· + (A.length + 1))) [⟨100, grpc P Q 4 (.p 1 0) (.p 2 0)⟩, ⟨135, modS P bx⟩, ⟨135, modS Q bq⟩] = [p, ⟨100, grpc P Q 4 (.p (A.length + 2) 0) (.p (A.length + 3) 0)⟩, ⟨135, modS P bx⟩, ⟨135, modS Q bq⟩] := by
      have e3 : 1 + (A.length + 1) = A.length + 2 := by omega
      have e4 : 2 + (A.length + 1) = A.length + 3 := by omega
      simp only [List.map_cons, List.map_nil, abren_mk, ren_grpc, List.singleton_append]
      simp only [SV.ren, e3, e4]
      have e5 : ∀ (ρ : Nat → Nat) (m : Nat) (b : Bool), (modS m b).map (SV.ren ρ) = modS m b := fun ρ m b => SV.rens_ok0 modS_ok
      rw [e5, e5]
    rw [e2]
    exact h1
theorem end0 (hN : A.length = N) {B : Heap} : (A ++ B)[N]? = B[0]? := by subst hN; rw [List.getElem?_append_right (Nat.le_refl _), Nat.sub_self]
theorem endk (hN : A.length = N) {B : Heap} {k : Nat} : (A ++ B)[N + k]? = B[k]? := by subst hN; rw [List.getElem?_append_right (by omega), Nat.add_sub_cancel_left]
theorem end_put (hN : A.length = N) {B : Heap} {t : Nat} {cs cs' : List SV} : putH (A ++ ⟨t, cs⟩ :: B) N cs' = A ++ ⟨t, cs'⟩ :: B := by
  subst hN
  unfold putH
  induction A with
  | nil => rfl
  | cons a A ih =>
    show List.modify (a :: (A ++ ⟨t, cs⟩ :: B)) (A.length + 1) _ = _
    rw [List.modify_succ_cons]
    exact congrArg (a :: ·) ih
theorem end_len (hN : A.length = N) {B : Heap} : (A ++ B).length = N + B.length := by rw [List.length_append, hN]
end
def SmG (P Q : Nat) (v : TV) (H : Heap) : Prop := ∃ bx bq, v = .s (.p 0 0) ∧ H = [⟨100, grpc P Q 4 (.p 1 0) (.p 2 0)⟩, ⟨135, modS P bx⟩, ⟨135, modS Q bq⟩]
theorem lsmall_g (z : Int) : NewG Tryz.prog 8 [.s (.v (.int .i64 z))] gv (SmG (smP z) (smQ z)) := by
  have hsm := small_g z
  have hok := sm_ok z
  obtain ⟨P, hP⟩ : ∃ P, smP z = P := ⟨_, rfl⟩
  obtain ⟨Q, hQ⟩ : ∃ Q, smQ z = Q := ⟨_, rfl⟩
  rw [hP, hQ] at hsm hok ⊢
  clear hP hQ
  refine newG_of Tryz.func8 rfl (by simp only [List.length_cons, List.length_nil, List.map_cons, List.map_nil, List.nodup_cons, List.nodup_nil, List.mem_cons, Nat.reduceAdd, Nat.reduceEqDiff, or_false, not_false_eq_true, forall_eq_or_imp, forall_eq, or_self, Nat.reduceLT, Nat.reduceLeDiff, and_self, List.forall_mem_cons, List.not_mem_nil, false_implies, implies_true, and_true, true_and, vcOHb]) fun w hpre => ?_
  simp only [List.length_cons, List.length_nil, Tryz.ntmps8, Nat.reduceAdd, Nat.reduceSub, List.replicate_succ, List.replicate_zero, List.cons_append, List.nil_append]
  have hgv := gv_kn (P0 := Tryz.prog) hpre
  (repeat' ((first | with_reducible (first | apply XR_cons | apply XR_consG | apply XR_nil | apply cF_pure3 (by assumption) | apply cF_ev3 (by assumption)) | ((with_reducible apply cF_new3 (by assumption)); (first | rintro _ _ ⟨rfl, rfl⟩ | rintro _ _ ⟨_, _, rfl, rfl⟩)) | with_reducible (first | apply gRS (by with_unfolding_all rfl) | apply gR (by with_unfolding_all rfl) | apply gS (by with_unfolding_all rfl) | fail) | refine X_of _ ?_ | with_reducible (first | exact ⟨_, rfl⟩ | refine And.intro ?_ ?_ | intro _)) <;> try simp -implicitDefEqProofs (maxSteps := 1000000) (disch := first | exact dz3 | fail) only [vcR, vcT, simprocAttr, Ab.part, implies_true, forall_const, vcS, vcXHb, Tryz.f8]))
  refine yF_small (h0 := 0) hsm rfl (fun _ h => h) rfl ?_
  intro n0 A H1 hn1 hn5 hLi hd hA hN0
  clear hA
  obtain ⟨N, hN⟩ : ∃ N, A.length = N := ⟨_, rfl⟩
  rw [hN] at hN0
  have q0 : ∀ {B : Heap}, (A ++ B)[N]? = B[0]? := fun {B} => end0 hN
  have qs : ∀ {B : Heap} {t : Nat} {cs cs' : List SV}, putH (A ++ ⟨t, cs⟩ :: B) N cs' = A ++ ⟨t, cs'⟩ :: B := fun {B t cs cs'} => end_put hN
  try simp -implicitDefEqProofs (maxSteps := 1000000) (disch := first | exact dz3 | fail) only [vcR, vcT, simprocAttr, Ab.part, implies_true, forall_const, vcS, vcXHb, Tryz.f8, hN,q0,qs]
  (repeat' ((first | with_reducible (first | apply XR_cons | apply XR_consG | apply XR_nil | apply cF_pure3 (by assumption) | apply cF_ev3 (by assumption)) | ((with_reducible apply cF_new3 (by assumption)); (first | rintro _ _ ⟨rfl, rfl⟩ | rintro _ _ ⟨_, _, rfl, rfl⟩)) | with_reducible (first | apply gRS (by with_unfolding_all rfl) | apply gR (by with_unfolding_all rfl) | apply gS (by with_unfolding_all rfl) | fail) | refine X_of _ ?_ | with_reducible (first | exact ⟨_, rfl⟩ | refine And.intro ?_ ?_ | intro _)) <;> try simp -implicitDefEqProofs (maxSteps := 1000000) (disch := first | exact dz3 | fail) only [vcR, vcT, simprocAttr, Ab.part, implies_true, forall_const, vcS, vcXHb, Tryz.f8, hN,q0,qs]))
  refine yF_new hLi hn5 hd hN hok.gr hgv rfl (fun _ h => h) ?_
  intro bx bq
  (try (first | with_reducible refine X_regRS ?_ | with_reducible refine X_regR ?_ | (with_reducible refine X_seqX ?_; with_reducible refine X_blockX ?_; with_reducible refine X_regR ?_))); (repeat ((first | with_reducible refine XR_make ?_ | with_reducible refine XR_append ?_ | with_reducible refine XR_cons ?_ | with_reducible refine XR_consG ?_ | with_reducible refine XR_nil ?_); try simp -implicitDefEqProofs (maxSteps := 1000000) (disch := first | exact dz3 | fail) only [vcR, vcT, simprocAttr, Ab.part, implies_true, forall_const, vcS, vcXHb, Tryz.f8, hN,q0,qs]))
  (repeat' ((first | with_reducible (first | apply XR_cons | apply XR_consG | apply XR_nil | apply cF_pure3 (by assumption) | apply cF_ev3 (by assumption)) | ((with_reducible apply cF_new3 (by assumption)); (first | rintro _ _ ⟨rfl, rfl⟩ | rintro _ _ ⟨_, _, rfl, rfl⟩)) | with_reducible (first | apply gRS (by with_unfolding_all rfl) | apply gR (by with_unfolding_all rfl) | apply gS (by with_unfolding_all rfl) | fail) | refine X_of _ ?_ | with_reducible (first | exact ⟨_, rfl⟩ | refine And.intro ?_ ?_ | intro _)) <;> try simp -implicitDefEqProofs (maxSteps := 1000000) (disch := first | exact dz3 | fail) only [vcR, vcT, simprocAttr, Ab.part, implies_true, forall_const, vcS, vcXHb, Tryz.f8, hN,q0,qs]))
  refine ⟨[N + 1, N + 2, N + 3], .s (.p 0 0), [⟨100, grpc P Q 4 (.p 1 0) (.p 2 0)⟩, ⟨135, modS P bx⟩, ⟨135, modS Q bq⟩], ⟨bx, bq, rfl, rfl⟩, by simp, rfl, by show 0 < 3; decide, ⟨(endk hN (k := 1)).trans ?_, (endk hN (k := 2)).trans ?_, (endk hN (k := 3)).trans ?_, trivial⟩, ?_⟩
  · rfl
  · show some (⟨135, modS P bx⟩ : AB) = some (AB.ren _ ⟨135, modS P bx⟩)
    rw [abren_mk, SV.rens_ok0 modS_ok]
  · show some (⟨135, modS Q bq⟩ : AB) = some (AB.ren _ ⟨135, modS Q bq⟩)
    rw [abren_mk, SV.rens_ok0 modS_ok]
  · intro b hb
    simp only [List.mem_cons, List.not_mem_nil, or_false] at hb
    rcases hb with rfl | rfl | rfl
    · show ∀ x ∈ grpc P Q 4 (.p 1 0) (.p 2 0), x.ok 3
      rw [grpc_okk]
      exact ⟨by show 1 < 3; decide, by show 2 < 3; decide⟩
    · exact fun x hx => SV.ok_mono (modS_ok x hx) (Nat.zero_le _)
    · exact fun x hx => SV.ok_mono (modS_ok x hx) (Nat.zero_le _)
theorem nats_same (x y : Option Addr) (n c d : Nat) (l : Nat → Nat) (hl : ∀ i, l i < 2 ^ 256) (hn : n < 9223372036854775808) :
    EvC (modEvo 135) Tryz.prog 13 [.s (.v (.slice x n c)), .s (.v (.slice y n d))] (fun B w => natsAt (modEvo 135) x n l B w ∧ natsAt (modEvo 135) y n l B w) (.s (.v (.bool true))) := by
  (refine evC_of Tryz.func13 rfl (by simp only [List.length_cons, List.length_nil, List.map_cons, List.map_nil, List.nodup_cons, List.nodup_nil, List.mem_cons, Nat.reduceAdd, Nat.reduceEqDiff, or_false, not_false_eq_true, forall_eq_or_imp, forall_eq, or_self, Nat.reduceLT, Nat.reduceLeDiff, and_self, List.forall_mem_cons, List.not_mem_nil, false_implies, implies_true, and_true, true_and, vcOHb]) (by simp only [List.length_cons, List.length_nil, List.map_cons, List.map_nil, List.nodup_cons, List.nodup_nil, List.mem_cons, Nat.reduceAdd, Nat.reduceEqDiff, or_false, not_false_eq_true, forall_eq_or_imp, forall_eq, or_self, Nat.reduceLT, Nat.reduceLeDiff, and_self, List.forall_mem_cons, List.not_mem_nil, false_implies, implies_true, and_true, true_and, vcOHb]) fun B w hpre => ?_; simp only [List.length_cons, List.length_nil, Tryz.ntmps13, Nat.reduceAdd, Nat.reduceSub, List.replicate_succ, List.replicate_zero, List.cons_append, List.nil_append])
  have hN0 := hpre
  have h0 := Kn.entry (P := Tryz.prog) ((natsAt_stays _ x n l).and (natsAt_stays _ y n l)) hpre
  have hNx := h0.left
  have hNy := h0.right
  clear hpre h0
  (repeat' ((first | with_reducible (first | apply XQ_cons | apply XQ_consG | apply XQ_nil | apply XR_cons | apply XR_consG | apply XR_nil | apply cF_pure3 (by assumption) | apply cV_pure3 (by assumption) | apply cF_ev3 (by assumption) | apply cV_ev3 (by assumption)) | ((with_reducible apply cF_new3 (by assumption)); (first | rintro _ _ ⟨rfl, rfl⟩ | rintro _ _ ⟨_, _, rfl, rfl⟩)) | (with_reducible apply X_drawC (id := 6) 9; (next => (kernel_rfl)); (next => (kernel_rfl))) | refine X_of _ ?_ | with_reducible (first | exact ⟨_, rfl⟩ | refine And.intro ?_ ?_ | intro _)) <;> try simp -implicitDefEqProofs (maxSteps := 1000000) (disch := first | exact dz3 | fail) only [vcR, vcT, simprocAttr, Ab.part, implies_true, forall_const, vcS, vcXHb, Tryz.f13, bne_self_eq_false]))
  refine X_loop (ι := Nat) (fun i => i ≤ n) (fun i => n - i) [5, 11, 12, 13, 14, 15, 16, 17, 18, 19, 20, 21, 22, 23, 24, 25]
    (fun i => [(5, .s (.v (.int .i64 (i : Nat))))])
    (fun i => []) 0 (shape_of fun i => ?_) (by decide) ?_ ?_
  · simp only [List.length_cons, List.length_nil, List.map_cons, List.map_nil, List.nodup_cons, List.nodup_nil, List.mem_cons, Nat.reduceAdd, Nat.reduceEqDiff, or_false, not_false_eq_true, forall_eq_or_imp, forall_eq, or_self, Nat.reduceLT, Nat.reduceLeDiff, and_self, List.forall_mem_cons, List.not_mem_nil, false_implies, implies_true, and_true, true_and, vcOHb]
  · simp -implicitDefEqProofs (maxSteps := 1000000) (disch := first | exact dz3 | fail) only [vcR, vcT, simprocAttr, Ab.part, implies_true, forall_const, vcS, vcXHb, Tryz.f13, again_eq]
    first | exact ⟨_, rfl⟩ | (simp; done)
  · intro i us hi
    by_cases h : i < n
    · obtain ⟨ad, rfl⟩ : ∃ ad, x = some ad := by
        rcases hN0.1 with h0 | ⟨ad, h0, _⟩
        · omega
        · exact ⟨ad, h0⟩
      obtain ⟨ay, rfl⟩ : ∃ ad, y = some ad := by
        rcases hN0.2 with h0 | ⟨ad, h0, _⟩
        · omega
        · exact ⟨ad, h0⟩
      have hx : ∀ {K : TV → HE → Prop}, xext (ctxE Tryz.prog (modEvo 135) w B) (some true) 4 (ad.add (i * 4)) K = K (.agg (nat4 (l i))) .none := fun {K} => hNx.nat h
      have hy : ∀ {K : TV → HE → Prop}, xext (ctxE Tryz.prog (modEvo 135) w B) (some true) 4 (ay.add (i * 4)) K = K (.agg (nat4 (l i))) .none := fun {K} => hNy.nat h
      clear hN0 hl
      (repeat' ((first | with_reducible (first | apply XQ_cons | apply XQ_consG | apply XQ_nil | apply XR_cons | apply XR_consG | apply XR_nil | apply cF_pure3 (by assumption) | apply cV_pure3 (by assumption) | apply cF_ev3 (by assumption) | apply cV_ev3 (by assumption)) | ((with_reducible apply cF_new3 (by assumption)); (first | rintro _ _ ⟨rfl, rfl⟩ | rintro _ _ ⟨_, _, rfl, rfl⟩)) | (with_reducible apply X_drawC (id := 6) 9; (next => (kernel_rfl)); (next => (kernel_rfl))) | refine X_of _ ?_ | with_reducible (first | exact ⟨_, rfl⟩ | refine And.intro ?_ ?_ | intro _)) <;> try simp -implicitDefEqProofs (maxSteps := 1000000) (disch := first | exact dz3 | fail) only [vcR, vcT, simprocAttr, Ab.part, implies_true, forall_const, vcS, vcXHb, Tryz.f13, hx,hy,litsEq_self]))
      refine ⟨i + 1, by omega, ?_⟩
      simp -implicitDefEqProofs (maxSteps := 1000000) (disch := first | exact dz3 | fail) only [vcR, vcT, simprocAttr, Ab.part, implies_true, forall_const, vcS, vcXHb, Tryz.f13, again_eq]
      first | exact ⟨_, rfl⟩ | (simp; done)
    · have : i = n := by omega
      subst this
      (repeat' ((first | with_reducible (first | apply XQ_cons | apply XQ_consG | apply XQ_nil | apply XR_cons | apply XR_consG | apply XR_nil | apply cF_pure3 (by assumption) | apply cV_pure3 (by assumption) | apply cF_ev3 (by assumption) | apply cV_ev3 (by assumption)) | ((with_reducible apply cF_new3 (by assumption)); (first | rintro _ _ ⟨rfl, rfl⟩ | rintro _ _ ⟨_, _, rfl, rfl⟩)) | (with_reducible apply X_drawC (id := 6) 9; (next => (kernel_rfl)); (next => (kernel_rfl))) | refine X_of _ ?_ | with_reducible (first | exact ⟨_, rfl⟩ | refine And.intro ?_ ?_ | intro _)) <;> try simp -implicitDefEqProofs (maxSteps := 1000000) (disch := first | exact dz3 | fail) only [vcR, vcT, simprocAttr, Ab.part, implies_true, forall_const, vcS, vcXHb, Tryz.f13]))
def sm1 (m : Nat) (l : Nat → Nat) (a : Nat) : Nat → Bool
  | 0 => false
  | n + 1 => sm1 m l a n || decide (msub m a (l n) = 0)
def sm (m : Nat) (l : Nat → Nat) : Nat → Bool
  | 0 => false
  | n + 1 => sm m l n || sm1 m l (l n) n
theorem sm1_mono {m : Nat} {l : Nat → Nat} {a i : Nat} (h : sm1 m l a i = true) : ∀ n, i ≤ n → sm1 m l a n = true := by
  intro n
  induction n with
  | zero => intro hi; rwa [show i = 0 by omega] at h
  | succ n ih =>
    intro hi
    by_cases h1 : i = n + 1
    · rwa [← h1]
    · show (_ || _) = true
      rw [ih (by omega), Bool.true_or]
theorem sm_mono {m : Nat} {l : Nat → Nat} {i : Nat} (h : sm m l i = true) : ∀ n, i ≤ n → sm m l n = true := by
  intro n
  induction n with
  | zero => intro hi; rwa [show i = 0 by omega] at h
  | succ n ih =>
    intro hi
    by_cases h1 : i = n + 1
    · rwa [← h1]
    · show (_ || _) = true
      rw [ih (by omega), Bool.true_or]
theorem sm_hit {m : Nat} {l : Nat → Nat} {i j n : Nat} (hj : j < i) (hi : i < n) (h : msub m (l i) (l j) = 0) : sm m l n = true := by
  refine sm_mono (i := i + 1) ?_ n (by omega)
  have h1 : sm1 m l (l i) i = true := sm1_mono (i := j + 1) (by show (_ || _) = true; rw [h]; simp) i (by omega)
  show (_ || _) = true
  rw [h1, Bool.or_true]
def upN (m : Nat) (l : Nat → Nat) (i : Nat) : Nat → Nat
  | 0 => 1
  | k + 1 => if k = i then upN m l i k else upN m l i k * l k % m
def dnN (m : Nat) (l : Nat → Nat) (i : Nat) : Nat → Nat
  | 0 => 1
  | k + 1 => if k = i then dnN m l i k else dnN m l i k * msub m (l k) (l i) % m
theorem upN_same {m : Nat} {l : Nat → Nat} {i : Nat} : upN m l i (i + 1) = upN m l i i := if_pos rfl
theorem dnN_same {m : Nat} {l : Nat → Nat} {i : Nat} : dnN m l i (i + 1) = dnN m l i i := if_pos rfl
theorem upN_other {m : Nat} {l : Nat → Nat} {i k : Nat} (h : k ≠ i) : upN m l i (k + 1) = upN m l i k * l k % m := if_neg h
theorem dnN_other {m : Nat} {l : Nat → Nat} {i k : Nat} (h : k ≠ i) : dnN m l i (k + 1) = dnN m l i k * msub m (l k) (l i) % m := if_neg h
theorem upN_lt {m : Nat} (h : OddM m) (l : Nat → Nat) (i : Nat) : ∀ k, upN m l i k < 2 ^ 256
  | 0 => by show 1 < 2 ^ 256; decide
  | k + 1 => by
    show ite _ _ _ < _
    split
    · exact upN_lt h l i k
    · exact h.mod_lt
theorem dnN_lt {m : Nat} (h : OddM m) (l : Nat → Nat) (i : Nat) : ∀ k, dnN m l i k < 2 ^ 256
  | 0 => by show 1 < 2 ^ 256; decide
  | k + 1 => by
    show ite _ _ _ < _
    split
    · exact dnN_lt h l i k
    · exact h.mod_lt
def wgt (m : Nat) (l : Nat → Nat) (n i : Nat) : Nat := upN m l i n * inv m (dnN m l i n) % m
def wgE (m : Nat) (l : Nat → Nat) (n i : Nat) : Int := invE m (dnN m l i n)
theorem wgt_lt {m : Nat} (h : OddM m) (l : Nat → Nat) (n i : Nat) : wgt m l n i < 2 ^ 256 := h.mod_lt
def wE (m : Nat) (l : Nat → Nat) (n : Nat) : Nat → Int
  | 0 => 0
  | k + 1 => if wE m l n k = 0 then wgE m l n k else wE m l n k
theorem wE_stuck {m n i : Nat} {l : Nat → Nat} (h : wE m l n i ≠ 0) : ∀ k, i ≤ k → wE m l n k = wE m l n i := by
  intro k
  induction k with
  | zero => intro hi; rw [show i = 0 by omega]
  | succ k ih =>
    intro hi
    by_cases h1 : i = k + 1
    · rw [h1]
    · have := ih (by omega)
      show ite _ _ _ = _
      rw [this, if_neg h]
def WE (m : Nat) (l : Nat → Nat) (n : Nat) : Int := if sm m l n then 13 else wE m l n n
def wOut (t : TypeId) (m : Nat) (l : Nat → Nat) (n : Nat) (v : TV) (H : Heap) : Prop :=
  (WE m l n ≠ 0 ∧ v = .tup [.s (.v (.slice none 0 0)), .s (.v (.int .i64 (WE m l n)))] ∧ H = []) ∨
  (WE m l n = 0 ∧ ∃ (c : Nat) (sp : List Value), (n ≠ 0 → n ≤ c ∧ sp.length = (c - n) * 4) ∧ v = .tup [.s (rowV 0 n c), .s (.v (.int .i64 0))] ∧ H = rowH t n (nats n (wgt m l n)) sp)
theorem ok_two {a b : SV} {n : Nat} (ha : a.ok n) (hb : b.ok n) : TV.ok n (.tup [.s a, .s b]) := by
  intro x hx
  simp only [List.mem_cons, List.not_mem_nil, or_false] at hx
  rcases hx with rfl | rfl
  · exact ha
  · exact hb
theorem gives_err {t : TypeId} {m : Nat} {l : Nat → Nat} {n : Nat} {e : Int} {H : Heap} (h : WE m l n = e) (he : e ≠ 0) : Gives (wOut t m l n) (.tup [.s (.v (.slice none 0 0)), .s (.v (.int .i64 e))]) H :=
  ⟨[], .tup [.s (.v (.slice none 0 0)), .s (.v (.int .i64 e))], [], .inl ⟨by rw [h]; exact he, by rw [h], rfl⟩, List.nodup_nil, rfl, ok_two trivial trivial, trivial, fun b hb => by simp at hb⟩
theorem gives_ok {t : TypeId} {m : Nat} {l : Nat → Nat} {n j c : Nat} {sp : List Value} {H : Heap} (h : WE m l n = 0) (hc : n ≠ 0 → n ≤ c ∧ sp.length = (c - n) * 4) (hH : n ≠ 0 → H[j]? = some ⟨t, nats n (wgt m l n) ++ sp.map .v⟩) :
    Gives (wOut t m l n) (.tup [.s (rowV j n c), .s (.v (.int .i64 0))]) H := by
  by_cases h0 : n = 0
  · subst h0
    exact ⟨[], .tup [.s (.v (.slice none 0 0)), .s (.v (.int .i64 0))], [], .inr ⟨h, c, sp, hc, rfl, rfl⟩, List.nodup_nil, rfl, ok_two trivial trivial, trivial, fun b hb => by simp at hb⟩
  · refine ⟨[j], .tup [.s (rowV 0 n c), .s (.v (.int .i64 0))], [⟨t, nats n (wgt m l n) ++ sp.map .v⟩], .inr ⟨h, c, sp, hc, rfl, (rowH_s h0).symm⟩, by simp, ?_, ok_two (rowV_ok fun _ => Nat.zero_lt_one) trivial, ⟨hH h0, trivial⟩, ?_⟩
    · rw [rowV_s h0, rowV_s h0]
      rfl
    · intro b hb x hx
      simp only [List.mem_cons, List.not_mem_nil, or_false] at hb
      subst hb
      rcases List.mem_append.1 hx with hx | hx
      · exact nats_ok 0 x hx
      · exact vals_ok x hx
def px (l : Nat → Nat) (i : Nat) : Nat := l (2 * i)
def py (l : Nat → Nat) (i : Nat) : Nat := l (2 * i + 1)
theorem sumM_0 {m : Nat} {l : Nat → Nat} : sumM m l 0 = 0 := rfl
def prt (m : Nat) (l : Nat → Nat) (n i : Nat) : Nat := py l i * wgt m (px l) n i % m
def atz (m : Nat) (l : Nat → Nat) (n : Nat) : Nat := if WE m (px l) n = 0 then sumM m (prt m l n) n else 0
theorem atz_0 {m : Nat} {l : Nat → Nat} {n : Nat} (h : WE m (px l) n = 0) : atz m l n = sumM m (prt m l n) n := if_pos h
theorem atz_e {m : Nat} {l : Nat → Nat} {n : Nat} (h : WE m (px l) n ≠ 0) : atz m l n = 0 := if_neg h
theorem weight_e (kb m : Nat) (x : Option Addr) (n c : Nat) (l : Nat → Nat) (i : Nat) (hG : OddM m) (hl : ∀ i, l i < 2 ^ 256) (hn : n < 9223372036854775808) (hi : i < n) :
    EvC (modEvo 135) Tryz.prog 76 [.s (.v (.pointer (some ⟨kb, 0, none⟩))), .s (.v (.slice x n c)), .s (.v (.int .i64 (i : Int)))] (fun B w => isMod 135 kb m B w ∧ natsAt (modEvo 135) x n l B w)
      (.tup [.agg (nat4 (wgt m l n i)), .s (.v (.int .i64 (wgE m l n i)))]) := by
  obtain ⟨W, hW⟩ : ∃ W, wgt m l n i = W := ⟨_, rfl⟩
  obtain ⟨E, hE⟩ : ∃ E, wgE m l n i = E := ⟨_, rfl⟩
  rw [hW, hE]
  (refine evC_of Tryz.func76 rfl (by simp only [List.length_cons, List.length_nil, List.map_cons, List.map_nil, List.nodup_cons, List.nodup_nil, List.mem_cons, Nat.reduceAdd, Nat.reduceEqDiff, or_false, not_false_eq_true, forall_eq_or_imp, forall_eq, or_self, Nat.reduceLT, Nat.reduceLeDiff, and_self, List.forall_mem_cons, List.not_mem_nil, false_implies, implies_true, and_true, true_and, vcOAb25]) (by simp only [List.length_cons, List.length_nil, List.map_cons, List.map_nil, List.nodup_cons, List.nodup_nil, List.mem_cons, Nat.reduceAdd, Nat.reduceEqDiff, or_false, not_false_eq_true, forall_eq_or_imp, forall_eq, or_self, Nat.reduceLT, Nat.reduceLeDiff, and_self, List.forall_mem_cons, List.not_mem_nil, false_implies, implies_true, and_true, true_and, vcOAb25]) fun B w hpre => ?_; simp only [List.length_cons, List.length_nil, Tryz.ntmps76, Nat.reduceAdd, Nat.reduceSub, List.replicate_succ, List.replicate_zero, List.cons_append, List.nil_append])
  have hM : Kn (ctxE Tryz.prog (modEvo 135) w B) (isMod 135 kb m) := Kn.entry (isMod_stays _ kb m) hpre.1
  have hN : Kn (ctxE Tryz.prog (modEvo 135) w B) (natsAt (modEvo 135) x n l) := Kn.entry (natsAt_stays _ x n l) hpre.2
  obtain ⟨ad, rfl⟩ : ∃ ad, x = some ad := by
    rcases hpre.2 with h0 | ⟨ad, h0, _⟩
    · omega
    · exact ⟨ad, h0⟩
  clear hpre
  have hxi : ∀ {K : TV → HE → Prop}, xext (ctxE Tryz.prog (modEvo 135) w B) (some true) 4 (ad.add (i * 4)) K = K (.agg (nat4 (l i))) .none := fun {K} => hN.nat hi
  (repeat' ((first | with_reducible (first | apply XQ_cons | apply XQ_consG | apply XQ_nil | apply XR_cons | apply XR_consG | apply XR_nil | apply cF_pure (by assumption) | apply cV_pure (by assumption) | apply cF_ev (by assumption) | apply cV_ev (by assumption) | apply cF_ev (minus_e _ _ _ _ bd bd bd) | apply cV_ev (minus_e _ _ _ _ bd bd bd) | apply cF_ev (times_e _ _ _ _ bd bd bd) | apply cV_ev (times_e _ _ _ _ bd bd bd)) | with_reducible (first | apply gRS (by with_unfolding_all rfl) | apply gR (by with_unfolding_all rfl) | apply gS (by with_unfolding_all rfl) | fail) | (with_reducible apply X_drawC (id := 6) 14; (next => (kernel_rfl)); (next => (kernel_rfl))) | refine X_of _ ?_ | with_reducible (first | exact ⟨_, rfl⟩ | refine And.intro ?_ ?_ | intro _)) <;> try simp -implicitDefEqProofs (maxSteps := 1000000) (disch := first | exact dz | fail) only [vcR, vcT, simprocAttr, Ab.part, implies_true, forall_const, vcS, vcXAb25, Tryz.f76]))
  refine X_loop (ι := Nat) (fun k => k ≤ n) (fun k => n - k) [10, 11, 18, 19, 20, 21, 22, 23, 24, 25, 26, 27, 28, 29, 30, 31, 32, 33, 34, 35, 36, 37, 38, 39, 40]
    (fun k => [(18, .s (.v (.int .i64 (k : Nat))))])
    (fun k => [(1, nat4 (upN m l i k)), (2, nat4 (dnN m l i k))]) 0 (shape_of fun k => ?_) (by decide) ?_ ?_
  · simp only [List.length_cons, List.length_nil, List.map_cons, List.map_nil, List.nodup_cons, List.nodup_nil, List.mem_cons, Nat.reduceAdd, Nat.reduceEqDiff, or_false, not_false_eq_true, forall_eq_or_imp, forall_eq, or_self, Nat.reduceLT, Nat.reduceLeDiff, and_self, List.forall_mem_cons, List.not_mem_nil, false_implies, implies_true, and_true, true_and, vcOAb25]
  · simp -implicitDefEqProofs (maxSteps := 1000000) (disch := first | exact dz | fail) only [vcR, vcT, simprocAttr, Ab.part, implies_true, forall_const, vcS, vcXAb25, Tryz.f76, again_eq]
    try simp
    exact ⟨rfl, rfl⟩
  · intro k us hk
    have hu := upN_lt hG l i k
    have hd := dnN_lt hG l i k
    by_cases h : k < n
    · have hx : ∀ {K : TV → HE → Prop}, xext (ctxE Tryz.prog (modEvo 135) w B) (some true) 4 (ad.add (k * 4)) K = K (.agg (nat4 (l k))) .none := fun {K} => hN.nat h
      have hlk := hl k
      have hli := hl i
      have hms : msub m (l k) (l i) < 2 ^ 256 := OddM.msub_lt hG
      clear hl
      by_cases hki : k = i
      · subst hki
        have hne : (k != k) = false := bne_self_eq_false k
        (repeat' ((first | with_reducible (first | apply XQ_cons | apply XQ_consG | apply XQ_nil | apply XR_cons | apply XR_consG | apply XR_nil | apply cF_pure (by assumption) | apply cV_pure (by assumption) | apply cF_ev (by assumption) | apply cV_ev (by assumption) | apply cF_ev (minus_e _ _ _ _ bd bd bd) | apply cV_ev (minus_e _ _ _ _ bd bd bd) | apply cF_ev (times_e _ _ _ _ bd bd bd) | apply cV_ev (times_e _ _ _ _ bd bd bd)) | with_reducible (first | apply gRS (by with_unfolding_all rfl) | apply gR (by with_unfolding_all rfl) | apply gS (by with_unfolding_all rfl) | fail) | (with_reducible apply X_drawC (id := 6) 14; (next => (kernel_rfl)); (next => (kernel_rfl))) | refine X_of _ ?_ | with_reducible (first | exact ⟨_, rfl⟩ | refine And.intro ?_ ?_ | intro _)) <;> try simp -implicitDefEqProofs (maxSteps := 1000000) (disch := first | exact dz | fail) only [vcR, vcT, simprocAttr, Ab.part, implies_true, forall_const, vcS, vcXAb25, Tryz.f76, hx,hne]))
        refine ⟨k + 1, by omega, ?_⟩
        simp -implicitDefEqProofs (maxSteps := 1000000) (disch := first | exact dz | fail) only [vcR, vcT, simprocAttr, Ab.part, implies_true, forall_const, vcS, vcXAb25, Tryz.f76, again_eq,upN_same,dnN_same]
        first | exact ⟨_, rfl, rfl⟩ | exact ⟨_, rfl⟩ | rfl | trace_state
      · have hne : (k != i) = true := bne_iff_ne.2 hki
        have hu1 := upN_other (m := m) (l := l) hki
        have hd1 := dnN_other (m := m) (l := l) hki
        (repeat' ((first | with_reducible (first | apply XQ_cons | apply XQ_consG | apply XQ_nil | apply XR_cons | apply XR_consG | apply XR_nil | apply cF_pure (by assumption) | apply cV_pure (by assumption) | apply cF_ev (by assumption) | apply cV_ev (by assumption) | apply cF_ev (minus_e _ _ _ _ bd bd bd) | apply cV_ev (minus_e _ _ _ _ bd bd bd) | apply cF_ev (times_e _ _ _ _ bd bd bd) | apply cV_ev (times_e _ _ _ _ bd bd bd)) | with_reducible (first | apply gRS (by with_unfolding_all rfl) | apply gR (by with_unfolding_all rfl) | apply gS (by with_unfolding_all rfl) | fail) | (with_reducible apply X_drawC (id := 6) 14; (next => (kernel_rfl)); (next => (kernel_rfl))) | refine X_of _ ?_ | with_reducible (first | exact ⟨_, rfl⟩ | refine And.intro ?_ ?_ | intro _)) <;> try simp -implicitDefEqProofs (maxSteps := 1000000) (disch := first | exact dz | fail) only [vcR, vcT, simprocAttr, Ab.part, implies_true, forall_const, vcS, vcXAb25, Tryz.f76, hx,hxi,hne]))
        refine ⟨k + 1, by omega, ?_⟩
        simp -implicitDefEqProofs (maxSteps := 1000000) (disch := first | exact dz | fail) only [vcR, vcT, simprocAttr, Ab.part, implies_true, forall_const, vcS, vcXAb25, Tryz.f76, again_eq,hu1,hd1]
        first | exact ⟨_, rfl, rfl⟩ | exact ⟨_, rfl⟩ | rfl | trace_state
    · have : k = n := by omega
      subst this
      clear hl hxi
      have hinv := inverse_e kb m (dnN m l i k) hG hd
      unfold wgt at hW
      unfold wgE at hE
      have hil : inv m (dnN m l i k) < 2 ^ 256 := OddM.inv_lt hG
      (repeat' ((first | with_reducible (first | apply XQ_cons | apply XQ_consG | apply XQ_nil | apply XR_cons | apply XR_consG | apply XR_nil | apply cF_pure (by assumption) | apply cV_pure (by assumption) | apply cF_ev (by assumption) | apply cV_ev (by assumption) | apply cF_ev (minus_e _ _ _ _ bd bd bd) | apply cV_ev (minus_e _ _ _ _ bd bd bd) | apply cF_ev (times_e _ _ _ _ bd bd bd) | apply cV_ev (times_e _ _ _ _ bd bd bd)) | with_reducible (first | apply gRS (by with_unfolding_all rfl) | apply gR (by with_unfolding_all rfl) | apply gS (by with_unfolding_all rfl) | fail) | (with_reducible apply X_drawC (id := 6) 14; (next => (kernel_rfl)); (next => (kernel_rfl))) | refine X_of _ ?_ | with_reducible (first | exact ⟨_, rfl⟩ | refine And.intro ?_ ?_ | intro _)) <;> try simp -implicitDefEqProofs (maxSteps := 1000000) (disch := first | exact dz | fail) only [vcR, vcT, simprocAttr, Ab.part, implies_true, forall_const, vcS, vcXAb25, Tryz.f76]))
      · rw [hW]
      · exact hE
theorem ap_nat (n : Nat) (hn : n ≤ 1000000) : apOK Tryz.prog 26 n := by
  have h1 : (Tryz.prog.info? 26).map (fun i => (i.bytes, i.size, i.zero.map fun z => z.cells.size)) = some (32, 4, some 4) := by kernel_rfl
  cases hi : Tryz.prog.info? 26 with
  | none => rw [hi] at h1; cases h1
  | some i =>
    rw [hi] at h1
    simp only [Option.map_some, Option.some.injEq, Prod.mk.injEq] at h1
    obtain ⟨h2, h3, h4⟩ := h1
    obtain ⟨z, hz, hz4⟩ := Option.map_eq_some_iff.1 h4
    exact ⟨i, z, hi, hz, by rw [hz4, h3], by rw [h2]; omega, by omega⟩
theorem sz_nat : sz Tryz.prog 26 = 4 := by kernel_rfl
theorem news_nat {H : Heap} {k t a n : Nat} (hn : n = 4) (hb : H[k]? = some ⟨t, nat4 a⟩) : newsOf H n (.s (.sl k 0 1 1)) = some (nat4 a, 1) := by
  subst hn
  have hl : (nat4 a).length = 4 := nat4_length
  have h4 : (nat4 a).take 4 = nat4 a := List.take_of_length_le (by omega)
  simp [newsOf, hb, hl, part_eq, h4]
theorem one_set (a : Nat) : setAt (nat4 0) 0 (nat4 a) = nat4 a := rfl
theorem xslice_pre {arr : Option (Nat × TypeId)} {e : TypeId} {sz : TypeId → Nat} {ad : Addr} {n c i : Nat} {k : IntKind} {K : TV → Prop} (h : i ≤ c) :
    xslice arr (some e) sz (.s (.v (.slice (some ad) n c))) none (some (.s (.v (.int k (i : Int))))) K = K (.s (.v (.slice (some ad) i c))) := by
  have hb : bnd n (some (.s (.v (.int k (i : Int))))) = some i := by rw [bnd_int (by omega)]; rfl
  rw [xslice_v, hb, bnd_none, xslB_some]
  have e1 : (if c = 0 then some ad else Option.map (fun x => x.add (0 * sz e)) (some ad)) = some ad := by
    split
    · rfl
    · rw [Nat.zero_mul, Option.map_some]; exact congrArg some (by cases ad; rfl)
  rw [e1, Nat.sub_zero, Nat.sub_zero]
  exact propext ⟨fun h => h.2, fun h' => ⟨⟨Nat.zero_le _, h⟩, h'⟩⟩
theorem weights_n (kb m : Nat) (x : Option Addr) (n c : Nat) (l : Nat → Nat) (hG : OddM m) (hl : ∀ i, l i < 2 ^ 256) (hn : n ≤ 100) (hc : n ≤ c) :
    EvN (modEvo 135) Tryz.prog 61 [.s (.v (.pointer (some ⟨kb, 0, none⟩))), .s (.v (.slice x n c))] (fun B w => isMod 135 kb m B w ∧ natsAt (modEvo 135) x n l B w)
      (wOut 26 m l n) := by
  (refine evN_of Tryz.func61 rfl (by simp only [List.length_cons, List.length_nil, List.map_cons, List.map_nil, List.nodup_cons, List.nodup_nil, List.mem_cons, Nat.reduceAdd, Nat.reduceEqDiff, or_false, not_false_eq_true, forall_eq_or_imp, forall_eq, or_self, Nat.reduceLT, Nat.reduceLeDiff, and_self, List.forall_mem_cons, List.not_mem_nil, false_implies, implies_true, and_true, true_and, vcOAb25]) fun B w hpre => ?_; simp only [List.length_cons, List.length_nil, Tryz.ntmps61, Nat.reduceAdd, Nat.reduceSub, List.replicate_succ, List.replicate_zero, List.cons_append, List.nil_append])
  have hM : Kn (ctxE Tryz.prog (modEvo 135) w B) (isMod 135 kb m) := Kn.entry (isMod_stays _ kb m) hpre.1
  have hN : Kn (ctxE Tryz.prog (modEvo 135) w B) (natsAt (modEvo 135) x n l) := Kn.entry (natsAt_stays _ x n l) hpre.2
  have hx0 := hpre.2
  clear hpre
  have hz1 : slice0 Tryz.prog 26 1 = some (arr 4 fun _ => 0) := by kernel_rfl
  have hadr : n ≠ 0 → ∃ ad, x = some ad := fun h => by
    rcases hx0 with h0 | ⟨ad, h0, _⟩
    · omega
    · exact ⟨ad, h0⟩
  clear hx0
  (repeat' ((first | with_reducible (first | apply XR_append | apply XR_slice | apply XR_cons | apply XR_consG | apply XR_nil | apply cF_pure (by assumption) | apply cF_ev (by assumption) | apply cF_ev (minus_e _ _ _ _ bd bd bd)) | with_reducible (first | apply gRS (by with_unfolding_all rfl) | apply gR (by with_unfolding_all rfl) | apply gS (by with_unfolding_all rfl) | fail) | refine X_of _ ?_ | with_reducible (first | exact ⟨_, rfl⟩ | refine And.intro ?_ ?_ | intro _)) <;> try simp -implicitDefEqProofs (maxSteps := 1000000) (disch := first | exact dz | fail) only [vcR, vcT, simprocAttr, Ab.part, implies_true, forall_const, vcS, vcXAb25, Tryz.f61]))
  refine X_loop (ι := Nat) (fun i => i ≤ n ∧ sm m l i = false) (fun i => n - i) [6, 7, 9, 16, 17, 18, 19, 20, 21, 22, 23, 24, 25, 26, 27, 28, 29, 30, 31, 32, 33, 34, 35, 36]
    (fun i => [(16, .s (.v (.int .i64 (i : Nat))))])
    (fun i => []) 0 (shape_of fun i => ?_) (by decide) ?_ ?_
  · simp only [List.length_cons, List.length_nil, List.map_cons, List.map_nil, List.nodup_cons, List.nodup_nil, List.mem_cons, Nat.reduceAdd, Nat.reduceEqDiff, or_false, not_false_eq_true, forall_eq_or_imp, forall_eq, or_self, Nat.reduceLT, Nat.reduceLeDiff, and_self, List.forall_mem_cons, List.not_mem_nil, false_implies, implies_true, and_true, true_and, vcOAb25]
  · simp -implicitDefEqProofs (maxSteps := 1000000) (disch := first | exact dz | fail) only [vcR, vcT, simprocAttr, Ab.part, implies_true, forall_const, vcS, vcXAb25, Tryz.f61, again_eq]
    try simp
    all_goals rfl
  · intro i us ⟨hi, hsm⟩
    by_cases h : i < n
    · obtain ⟨ad, rfl⟩ := hadr (by omega)
      have hx : ∀ {K : TV → HE → Prop}, xext (ctxE Tryz.prog (modEvo 135) w B) (some true) 4 (ad.add (i * 4)) K = K (.agg (nat4 (l i))) .none := fun {K} => hN.nat h
      have hli := hl i
      have hpre : ∀ {arr : Option (Nat × TypeId)} {e : TypeId} {sz : TypeId → Nat} {k : IntKind} {K : TV → Prop}, xslice arr (some e) sz (.s (.v (.slice (some ad) n c))) none (some (.s (.v (.int k (i : Int))))) K = K (.s (.v (.slice (some ad) i c))) := xslice_pre (by omega)
      (repeat' ((first | with_reducible (first | apply XR_append | apply XR_slice | apply XR_cons | apply XR_consG | apply XR_nil | apply cF_pure (by assumption) | apply cF_ev (by assumption) | apply cF_ev (minus_e _ _ _ _ bd bd bd)) | with_reducible (first | apply gRS (by with_unfolding_all rfl) | apply gR (by with_unfolding_all rfl) | apply gS (by with_unfolding_all rfl) | fail) | refine X_of _ ?_ | with_reducible (first | exact ⟨_, rfl⟩ | refine And.intro ?_ ?_ | intro _)) <;> try simp -implicitDefEqProofs (maxSteps := 1000000) (disch := first | exact dz | fail) only [vcR, vcT, simprocAttr, Ab.part, implies_true, forall_const, vcS, vcXAb25, Tryz.f61, hx,hpre]))
      refine X_loop (ι := Nat) (fun j => j ≤ i ∧ sm1 m l (l i) j = false) (fun j => i - j) [9, 25, 26, 27, 28, 29, 30, 31, 32, 33, 34, 35]
        (fun j => [(25, .s (.v (.int .i64 (j : Nat))))])
        (fun j => []) 0 (shape_of fun j => ?_) (by decide) ?_ ?_
      · simp only [List.length_cons, List.length_nil, List.map_cons, List.map_nil, List.nodup_cons, List.nodup_nil, List.mem_cons, Nat.reduceAdd, Nat.reduceEqDiff, or_false, not_false_eq_true, forall_eq_or_imp, forall_eq, or_self, Nat.reduceLT, Nat.reduceLeDiff, and_self, List.forall_mem_cons, List.not_mem_nil, false_implies, implies_true, and_true, true_and, vcOAb25]
      · simp -implicitDefEqProofs (maxSteps := 1000000) (disch := first | exact dz | fail) only [vcR, vcT, simprocAttr, Ab.part, implies_true, forall_const, vcS, vcXAb25, Tryz.f61, again_eq]
        try simp
        all_goals rfl
      · intro j us' ⟨hj, hs1⟩
        by_cases hji : j < i
        · have hx' : ∀ {K : TV → HE → Prop}, xext (ctxE Tryz.prog (modEvo 135) w B) (some true) 4 (ad.add (j * 4)) K = K (.agg (nat4 (l j))) .none := fun {K} => hN.nat (by omega)
          have hlj := hl j
          have hmm : msub m (l i) (l j) < 2 ^ 256 := OddM.msub_lt hG
          clear hl hx hpre
          by_cases h0 : msub m (l i) (l j) = 0
          · have e0 : litsEq (lits 4 (wd (msub m (l i) (l j)))) (lits 4 (wd 0)) = true := by rw [h0]; exact litsEq_self _
            have hW : WE m l n = 13 := by unfold WE; rw [sm_hit hji h h0]; rfl
            (repeat' ((first | with_reducible (first | apply XR_append | apply XR_slice | apply XR_cons | apply XR_consG | apply XR_nil | apply cF_pure (by assumption) | apply cF_ev (by assumption) | apply cF_ev (minus_e _ _ _ _ bd bd bd)) | with_reducible (first | apply gRS (by with_unfolding_all rfl) | apply gR (by with_unfolding_all rfl) | apply gS (by with_unfolding_all rfl) | fail) | refine X_of _ ?_ | with_reducible (first | exact ⟨_, rfl⟩ | refine And.intro ?_ ?_ | intro _)) <;> try simp -implicitDefEqProofs (maxSteps := 1000000) (disch := first | exact dz | fail) only [vcR, vcT, simprocAttr, Ab.part, implies_true, forall_const, vcS, vcXAb25, Tryz.f61, hx',e0]))
            exact gives_err hW (by decide)
          · have e0 : litsEq (lits 4 (wd (msub m (l i) (l j)))) (lits 4 (wd 0)) = false := by rw [litsEq_nat4 hmm (by decide)]; simp [h0]
            (repeat' ((first | with_reducible (first | apply XR_append | apply XR_slice | apply XR_cons | apply XR_consG | apply XR_nil | apply cF_pure (by assumption) | apply cF_ev (by assumption) | apply cF_ev (minus_e _ _ _ _ bd bd bd)) | with_reducible (first | apply gRS (by with_unfolding_all rfl) | apply gR (by with_unfolding_all rfl) | apply gS (by with_unfolding_all rfl) | fail) | refine X_of _ ?_ | with_reducible (first | exact ⟨_, rfl⟩ | refine And.intro ?_ ?_ | intro _)) <;> try simp -implicitDefEqProofs (maxSteps := 1000000) (disch := first | exact dz | fail) only [vcR, vcT, simprocAttr, Ab.part, implies_true, forall_const, vcS, vcXAb25, Tryz.f61, hx',e0]))
            refine ⟨j + 1, by omega, ?_⟩
            have hs2 : sm1 m l (l i) (j + 1) = false := by show (_ || _) = false; rw [hs1]; simp [h0]
            simp -implicitDefEqProofs (maxSteps := 1000000) (disch := first | exact dz | fail) only [vcR, vcT, simprocAttr, Ab.part, implies_true, forall_const, vcS, vcXAb25, Tryz.f61, again_eq]
            exact ⟨hs2, _, rfl⟩
        · have : j = i := by omega
          subst this
          (repeat' ((first | with_reducible (first | apply XR_append | apply XR_slice | apply XR_cons | apply XR_consG | apply XR_nil | apply cF_pure (by assumption) | apply cF_ev (by assumption) | apply cF_ev (minus_e _ _ _ _ bd bd bd)) | with_reducible (first | apply gRS (by with_unfolding_all rfl) | apply gR (by with_unfolding_all rfl) | apply gS (by with_unfolding_all rfl) | fail) | refine X_of _ ?_ | with_reducible (first | exact ⟨_, rfl⟩ | refine And.intro ?_ ?_ | intro _)) <;> try simp -implicitDefEqProofs (maxSteps := 1000000) (disch := first | exact dz | fail) only [vcR, vcT, simprocAttr, Ab.part, implies_true, forall_const, vcS, vcXAb25, Tryz.f61]))
          refine ⟨j + 1, by omega, ?_⟩
          have hs2 : sm m l (j + 1) = false := by show (_ || _) = false; rw [hsm, hs1]; rfl
          simp -implicitDefEqProofs (maxSteps := 1000000) (disch := first | exact dz | fail) only [vcR, vcT, simprocAttr, Ab.part, implies_true, forall_const, vcS, vcXAb25, Tryz.f61, again_eq]
          exact ⟨hs2, _, rfl⟩
    · have : i = n := by omega
      subst this
      clear h hi
      (repeat' ((first | with_reducible (first | apply XR_append | apply XR_slice | apply XR_cons | apply XR_consG | apply XR_nil | apply cF_pure (by assumption) | apply cF_ev (by assumption) | apply cF_ev (minus_e _ _ _ _ bd bd bd)) | with_reducible (first | apply gRS (by with_unfolding_all rfl) | apply gR (by with_unfolding_all rfl) | apply gS (by with_unfolding_all rfl) | fail) | refine X_of _ ?_ | with_reducible (first | exact ⟨_, rfl⟩ | refine And.intro ?_ ?_ | intro _)) <;> try simp -implicitDefEqProofs (maxSteps := 1000000) (disch := first | exact dz | fail) only [vcR, vcT, simprocAttr, Ab.part, implies_true, forall_const, vcS, vcXAb25, Tryz.f61]))
      refine X_loopT (ι := Nat × Nat × List Value) (fun k => k.1 ≤ i ∧ wE m l i k.1 = 0 ∧ (k.1 ≠ 0 → k.1 ≤ k.2.1 ∧ k.2.2.length = (k.2.1 - k.1) * 4)) (fun k => i - k.1) [10, 11, 12, 13, 39, 40, 41, 42, 43, 44, 45, 46, 47, 48, 49, 50, 51, 52, 53, 54, 55, 56]
        (fun k => [(10, rowS 0 k.1 k.2.1), (39, .s (.v (.int .i64 (k.1 : Nat))))])
        (fun k => rowH 26 k.1 (nats k.1 (wgt m l i)) k.2.2) (0, 0, []) ?_ (by decide) ?_ ?_
      · rintro ⟨k, c', sp⟩ ⟨hk, _, _⟩
        refine ⟨by simp, ?_, Nat.zero_le _, ?_⟩
        · simp only [List.forall_mem_cons]
          refine ⟨rowS_ok fun h0 => ?_, trivial, fun x hx => by simp at hx⟩
          rw [rowH_s h0]; exact Nat.zero_lt_one
        · intro b hb x hx
          simp only at hb
          by_cases h0 : k = 0
          · subst h0; rw [rowH_0] at hb; simp at hb
          · rw [rowH_s h0] at hb
            simp only [List.mem_cons, List.not_mem_nil, or_false] at hb
            subst hb
            rcases List.mem_append.1 hx with hx | hx
            · exact nats_ok _ x hx
            · exact vals_ok x hx
      · refine ⟨⟨Nat.zero_le _, rfl, fun h => absurd rfl h⟩, [], ⟨by decide, rfl⟩, ?_, trivial⟩
        simp -implicitDefEqProofs (maxSteps := 1000000) (disch := first | exact dz | fail) only [vcR, vcT, simprocAttr, Ab.part, implies_true, forall_const, vcS, vcXAb25, Tryz.f61, renS_cons,renS_nil,ren_v,rowS_0]
      · rintro ⟨k, c', sp⟩ us ⟨hk, hE, hrow⟩
        simp only at hk hE hrow ⊢
        by_cases hki : k < i
        · obtain ⟨ad, rfl⟩ := hadr (by omega)
          have hw := weight_e kb m (some ad) i c l k hG hl (by omega) hki
          have hszz : sz (ctxE Tryz.prog (modEvo 135) w B).P 26 = 4 := sz_nat
          have hE' : wE m l i (k + 1) = wgE m l i k := if_pos hE
          have hwl : wgt m l i k < 2 ^ 256 := OddM.mod_lt hG
          clear hadr hl
          by_cases hek : wgE m l i k = 0
          · have hne : (wgE m l i k == 0) = true := by rw [hek]; rfl
            rw [hek] at hw hE'
            by_cases h0 : k = 0
            · subst h0
              rw [rowH_0]
              rw [show ((0 : Nat) : Int) = 0 from rfl] at hw
              (repeat' ((first | with_reducible (first | apply XR_append | apply XR_slice | apply XR_cons | apply XR_consG | apply XR_nil | apply cF_pure (by assumption) | apply cF_ev (by assumption) | apply cF_ev (minus_e _ _ _ _ bd bd bd)) | with_reducible (first | apply gRS (by with_unfolding_all rfl) | apply gR (by with_unfolding_all rfl) | apply gS (by with_unfolding_all rfl) | fail) | refine X_of _ ?_ | with_reducible (first | exact ⟨_, rfl⟩ | refine And.intro ?_ ?_ | intro _)) <;> try simp -implicitDefEqProofs (maxSteps := 1000000) (disch := first | exact dz | fail) only [vcR, vcT, simprocAttr, Ab.part, implies_true, forall_const, vcS, vcXAb25, Tryz.f61, st_bs,xbs_some,hz1,one_set]))
              refine xappend_row (cs := nats 0 (wgt m l i)) (sp := sp) (news_nat hszz rfl) (fun h => absurd rfl h) (by rw [nats_length, Nat.zero_mul]) (by rw [nat4_length, hszz]) (ap_nat _ (by omega)) (by rw [nat4_one]; trivial) (by show ¬ (26 = 135); decide) fun j' c'' sp' H' h1 h2 h3 h4 h5 h6 => ?_
              clear h4 h5 h6
              (repeat' ((first | with_reducible (first | apply XR_append | apply XR_slice | apply XR_cons | apply XR_consG | apply XR_nil | apply cF_pure (by assumption) | apply cF_ev (by assumption) | apply cF_ev (minus_e _ _ _ _ bd bd bd)) | with_reducible (first | apply gRS (by with_unfolding_all rfl) | apply gR (by with_unfolding_all rfl) | apply gS (by with_unfolding_all rfl) | fail) | refine X_of _ ?_ | with_reducible (first | exact ⟨_, rfl⟩ | refine And.intro ?_ ?_ | intro _)) <;> try simp -implicitDefEqProofs (maxSteps := 1000000) (disch := first | exact dz | fail) only [vcR, vcT, simprocAttr, Ab.part, implies_true, forall_const, vcS, vcXAb25, Tryz.f61]))
              refine ⟨(0 + 1, c'', sp'), by simp; omega, ⟨by simp; omega, hE', fun _ => ⟨h1, by rw [hszz] at h2; exact h2⟩⟩, [j'], ⟨by simp, rfl⟩, ?_, ⟨?_, trivial⟩⟩
              · have e1 : (rowS 0 (0 + 1) c'').ren (lk [j']) = .s (.sl j' 0 (0 + 1) c'') := by rw [ren_rowS, rowS_s (by omega)]; rfl
                simp -implicitDefEqProofs (maxSteps := 1000000) (disch := first | exact dz | fail) only [vcR, vcT, simprocAttr, Ab.part, implies_true, forall_const, vcS, vcXAb25, Tryz.f61, renS_cons,renS_nil,ren_v,e1]
              · rw [h3, nats_snoc]
            · obtain ⟨hkc, hsp⟩ := hrow h0
              rw [rowH_s h0]
              (repeat' ((first | with_reducible (first | apply XR_append | apply XR_slice | apply XR_cons | apply XR_consG | apply XR_nil | apply cF_pure (by assumption) | apply cF_ev (by assumption) | apply cF_ev (minus_e _ _ _ _ bd bd bd)) | with_reducible (first | apply gRS (by with_unfolding_all rfl) | apply gR (by with_unfolding_all rfl) | apply gS (by with_unfolding_all rfl) | fail) | refine X_of _ ?_ | with_reducible (first | exact ⟨_, rfl⟩ | refine And.intro ?_ ?_ | intro _)) <;> try simp -implicitDefEqProofs (maxSteps := 1000000) (disch := first | exact dz | fail) only [vcR, vcT, simprocAttr, Ab.part, implies_true, forall_const, vcS, vcXAb25, Tryz.f61, st_bs,xbs_some,hz1,one_set]))
              refine xappend_row (cs := nats k (wgt m l i)) (sp := sp) (news_nat hszz rfl) (fun _ => ⟨rfl, hkc, by rw [hszz]; exact hsp⟩) (by rw [nats_length, hszz, Nat.mul_comm]) (by rw [nat4_length, hszz]) (ap_nat _ (by omega)) (by rw [nat4_one]; trivial) (by show ¬ (26 = 135); decide) fun j' c'' sp' H' h1 h2 h3 h4 h5 h6 => ?_
              clear h4 h5 h6
              (repeat' ((first | with_reducible (first | apply XR_append | apply XR_slice | apply XR_cons | apply XR_consG | apply XR_nil | apply cF_pure (by assumption) | apply cF_ev (by assumption) | apply cF_ev (minus_e _ _ _ _ bd bd bd)) | with_reducible (first | apply gRS (by with_unfolding_all rfl) | apply gR (by with_unfolding_all rfl) | apply gS (by with_unfolding_all rfl) | fail) | refine X_of _ ?_ | with_reducible (first | exact ⟨_, rfl⟩ | refine And.intro ?_ ?_ | intro _)) <;> try simp -implicitDefEqProofs (maxSteps := 1000000) (disch := first | exact dz | fail) only [vcR, vcT, simprocAttr, Ab.part, implies_true, forall_const, vcS, vcXAb25, Tryz.f61]))
              refine ⟨(k + 1, c'', sp'), by simp; omega, ⟨by simp; omega, hE', fun _ => ⟨h1, by rw [hszz] at h2; exact h2⟩⟩, [j'], ⟨by simp, rfl⟩, ?_, ⟨?_, trivial⟩⟩
              · have e1 : (rowS 0 (k + 1) c'').ren (lk [j']) = .s (.sl j' 0 (k + 1) c'') := by rw [ren_rowS, rowS_s (by omega)]; rfl
                simp -implicitDefEqProofs (maxSteps := 1000000) (disch := first | exact dz | fail) only [vcR, vcT, simprocAttr, Ab.part, implies_true, forall_const, vcS, vcXAb25, Tryz.f61, renS_cons,renS_nil,ren_v,e1]
              · rw [h3, nats_snoc]
          · have hne : (wgE m l i k != 0) = true := by simp [hek]
            have hW : WE m l i = wgE m l i k := by
              unfold WE
              rw [hsm, wE_stuck (i := k + 1) (by rw [hE']; exact hek) i (by omega), hE']
              rfl
            by_cases h0 : k = 0
            · subst h0
              rw [rowH_0]
              rw [show ((0 : Nat) : Int) = 0 from rfl] at hw
              (repeat' ((first | with_reducible (first | apply XR_append | apply XR_slice | apply XR_cons | apply XR_consG | apply XR_nil | apply cF_pure (by assumption) | apply cF_ev (by assumption) | apply cF_ev (minus_e _ _ _ _ bd bd bd)) | with_reducible (first | apply gRS (by with_unfolding_all rfl) | apply gR (by with_unfolding_all rfl) | apply gS (by with_unfolding_all rfl) | fail) | refine X_of _ ?_ | with_reducible (first | exact ⟨_, rfl⟩ | refine And.intro ?_ ?_ | intro _)) <;> try simp -implicitDefEqProofs (maxSteps := 1000000) (disch := first | exact dz | fail) only [vcR, vcT, simprocAttr, Ab.part, implies_true, forall_const, vcS, vcXAb25, Tryz.f61, hne]))
              exact gives_err hW hek
            · rw [rowH_s h0]
              (repeat' ((first | with_reducible (first | apply XR_append | apply XR_slice | apply XR_cons | apply XR_consG | apply XR_nil | apply cF_pure (by assumption) | apply cF_ev (by assumption) | apply cF_ev (minus_e _ _ _ _ bd bd bd)) | with_reducible (first | apply gRS (by with_unfolding_all rfl) | apply gR (by with_unfolding_all rfl) | apply gS (by with_unfolding_all rfl) | fail) | refine X_of _ ?_ | with_reducible (first | exact ⟨_, rfl⟩ | refine And.intro ?_ ?_ | intro _)) <;> try simp -implicitDefEqProofs (maxSteps := 1000000) (disch := first | exact dz | fail) only [vcR, vcT, simprocAttr, Ab.part, implies_true, forall_const, vcS, vcXAb25, Tryz.f61, hne]))
              exact gives_err hW hek
        · have : k = i := by omega
          subst this
          have hW : WE m l k = 0 := by
            unfold WE
            rw [hsm, hE]
            rfl
          clear hadr hN hl
          by_cases h0 : k = 0
          · subst h0
            rw [rowH_0]
            (repeat' ((first | with_reducible (first | apply XR_append | apply XR_slice | apply XR_cons | apply XR_consG | apply XR_nil | apply cF_pure (by assumption) | apply cF_ev (by assumption) | apply cF_ev (minus_e _ _ _ _ bd bd bd)) | with_reducible (first | apply gRS (by with_unfolding_all rfl) | apply gR (by with_unfolding_all rfl) | apply gS (by with_unfolding_all rfl) | fail) | refine X_of _ ?_ | with_reducible (first | exact ⟨_, rfl⟩ | refine And.intro ?_ ?_ | intro _)) <;> try simp -implicitDefEqProofs (maxSteps := 1000000) (disch := first | exact dz | fail) only [vcR, vcT, simprocAttr, Ab.part, implies_true, forall_const, vcS, vcXAb25, Tryz.f61, rowS_0]))
            exact gives_ok (j := 0) (c := 0) (sp := []) hW (fun h => absurd rfl h) (fun h => absurd rfl h)
          · rw [rowH_s h0]
            (repeat' ((first | with_reducible (first | apply XR_append | apply XR_slice | apply XR_cons | apply XR_consG | apply XR_nil | apply cF_pure (by assumption) | apply cF_ev (by assumption) | apply cF_ev (minus_e _ _ _ _ bd bd bd)) | with_reducible (first | apply gRS (by with_unfolding_all rfl) | apply gR (by with_unfolding_all rfl) | apply gS (by with_unfolding_all rfl) | fail) | refine X_of _ ?_ | with_reducible (first | exact ⟨_, rfl⟩ | refine And.intro ?_ ?_ | intro _)) <;> try simp -implicitDefEqProofs (maxSteps := 1000000) (disch := first | exact dz | fail) only [vcR, vcT, simprocAttr, Ab.part, implies_true, forall_const, vcS, vcXAb25, Tryz.f61, rowS_s h0]))
            have hg := gives_ok (j := 0) (H := [⟨26, nats k (wgt m l k) ++ sp.map .v⟩]) hW hrow fun _ => rfl
            rw [rowV_s h0] at hg
            exact hg
theorem row_ok {e n n0 : Nat} {cs : List SV} {sp : List Value} (h : ∀ x ∈ cs, x.ok n0) : ∀ b ∈ rowH e n cs sp, ∀ x ∈ b.cs, x.ok n0 := by
  intro b hb x hx
  by_cases h0 : n = 0
  · subst h0; rw [rowH_0] at hb; simp at hb
  · rw [rowH_s h0] at hb
    simp only [List.mem_cons, List.not_mem_nil, or_false] at hb
    subst hb
    rcases List.mem_append.1 hx with hx | hx
    · exact h x hx
    · exact vals_ok x hx
theorem atzero_e (kb m : Nat) (x : Option Addr) (n c : Nat) (l : Nat → Nat) (hG : OddM m) (hl : ∀ i, l i < 2 ^ 256) (hn : n ≤ 100) :
    EvC (modEvo 135) Tryz.prog 38 [.s (.v (.pointer (some ⟨kb, 0, none⟩))), .s (.v (.slice x n c))] (fun B w => isMod 135 kb m B w ∧ natsAt (modEvo 135) x (2 * n) l B w)
      (.tup [.agg (nat4 (atz m l n)), .s (.v (.int .i64 (WE m (px l) n)))]) := by
  (refine evC_of Tryz.func38 rfl (by simp only [List.length_cons, List.length_nil, List.map_cons, List.map_nil, List.nodup_cons, List.nodup_nil, List.mem_cons, Nat.reduceAdd, Nat.reduceEqDiff, or_false, not_false_eq_true, forall_eq_or_imp, forall_eq, or_self, Nat.reduceLT, Nat.reduceLeDiff, and_self, List.forall_mem_cons, List.not_mem_nil, false_implies, implies_true, and_true, true_and, vcOAb25]) (by simp only [List.length_cons, List.length_nil, List.map_cons, List.map_nil, List.nodup_cons, List.nodup_nil, List.mem_cons, Nat.reduceAdd, Nat.reduceEqDiff, or_false, not_false_eq_true, forall_eq_or_imp, forall_eq, or_self, Nat.reduceLT, Nat.reduceLeDiff, and_self, List.forall_mem_cons, List.not_mem_nil, false_implies, implies_true, and_true, true_and, vcOAb25]) fun B w hpre => ?_; simp only [List.length_cons, List.length_nil, Tryz.ntmps38, Nat.reduceAdd, Nat.reduceSub, List.replicate_succ, List.replicate_zero, List.cons_append, List.nil_append])
  have hM : Kn (ctxE Tryz.prog (modEvo 135) w B) (isMod 135 kb m) := Kn.entry (isMod_stays _ kb m) hpre.1
  have hN : Kn (ctxE Tryz.prog (modEvo 135) w B) (natsAt (modEvo 135) x (2 * n) l) := Kn.entry (natsAt_stays _ x (2 * n) l) hpre.2
  have hx0 := hpre.2
  clear hpre
  have hz1 : slice0 Tryz.prog 26 1 = some (arr 4 fun _ => 0) := by kernel_rfl
  have hszz : sz (ctxE Tryz.prog (modEvo 135) w B).P 26 = 4 := sz_nat
  have hadr : n ≠ 0 → ∃ ad, x = some ad := fun h => by
    rcases hx0 with h0 | ⟨ad, h0, _⟩
    · omega
    · exact ⟨ad, h0⟩
  clear hx0
  (repeat' ((first | with_reducible (first | apply XQ_cons | apply XQ_consG | apply XQ_nil | apply XR_append | apply XR_cons | apply XR_consG | apply XR_nil | apply cF_pure (by assumption) | apply cV_pure (by assumption) | apply cF_ev (by assumption) | apply cV_ev (by assumption) | apply cF_ev (times_e _ _ _ _ bd bd bd) | apply cV_ev (times_e _ _ _ _ bd bd bd)) | with_reducible (first | apply gRS (by with_unfolding_all rfl) | apply gR (by with_unfolding_all rfl) | apply gS (by with_unfolding_all rfl) | fail) | (with_reducible apply X_drawC (id := 13) 9; (next => (kernel_rfl)); (next => (kernel_rfl))) | refine X_of _ ?_ | with_reducible (first | exact ⟨_, rfl⟩ | refine And.intro ?_ ?_ | intro _)) <;> try simp -implicitDefEqProofs (maxSteps := 1000000) (disch := first | exact dz | fail) only [vcR, vcT, simprocAttr, Ab.part, implies_true, forall_const, vcS, vcXAb25, Tryz.f38]))
  refine X_loopT (ι := Nat × Nat × List Value) (fun k => k.1 ≤ n ∧ (k.1 ≠ 0 → k.1 ≤ k.2.1 ∧ k.2.2.length = (k.2.1 - k.1) * 4)) (fun k => n - k.1) [6, 9, 16, 17, 18, 19, 20, 21, 22, 23, 24, 25]
    (fun k => [(6, rowS 1 k.1 k.2.1), (16, .s (.v (.int .i64 (k.1 : Nat))))])
    (fun k => ⟨26, nat4 0⟩ :: rowH 26 k.1 (nats k.1 (px l)) k.2.2) (0, 0, []) ?_ (by decide) ?_ ?_
  · rintro ⟨k, c', sp⟩ ⟨hk, _⟩
    refine ⟨by simp, ?_, by simp, ?_⟩
    · simp only [List.forall_mem_cons]
      refine ⟨rowS_ok fun h0 => ?_, trivial, fun x hx => by simp at hx⟩
      rw [rowH_s h0]; exact Nat.lt_succ_self 1
    · simp only [List.forall_mem_cons]
      exact ⟨arr_ok _, row_ok (nats_ok _)⟩
  · refine ⟨⟨Nat.zero_le _, fun h => absurd rfl h⟩, [0], ⟨by decide, rfl⟩, ?_, rfl, trivial⟩
    simp -implicitDefEqProofs (maxSteps := 1000000) (disch := first | exact dz | fail) only [vcR, vcT, simprocAttr, Ab.part, implies_true, forall_const, vcS, vcXAb25, Tryz.f38, renS_cons,renS_nil,ren_v,rowS_0]
  · rintro ⟨k, c', sp⟩ us ⟨hk, hrow⟩
    simp only at hk hrow ⊢
    by_cases hki : k < n
    · obtain ⟨ad, rfl⟩ := hadr (by omega)
      have hx : ∀ {K : TV → HE → Prop}, xext (ctxE Tryz.prog (modEvo 135) w B) (some true) 8 (ad.add (k * 8)) K = K (.agg (pt (l (2 * k)) (l (2 * k + 1)))) .none := fun {K} => hN.pt hki
      clear hadr hl
      by_cases h0 : k = 0
      · subst h0
        rw [rowH_0]
        (repeat' ((first | with_reducible (first | apply XQ_cons | apply XQ_consG | apply XQ_nil | apply XR_append | apply XR_cons | apply XR_consG | apply XR_nil | apply cF_pure (by assumption) | apply cV_pure (by assumption) | apply cF_ev (by assumption) | apply cV_ev (by assumption) | apply cF_ev (times_e _ _ _ _ bd bd bd) | apply cV_ev (times_e _ _ _ _ bd bd bd)) | with_reducible (first | apply gRS (by with_unfolding_all rfl) | apply gR (by with_unfolding_all rfl) | apply gS (by with_unfolding_all rfl) | fail) | (with_reducible apply X_drawC (id := 13) 9; (next => (kernel_rfl)); (next => (kernel_rfl))) | refine X_of _ ?_ | with_reducible (first | exact ⟨_, rfl⟩ | refine And.intro ?_ ?_ | intro _)) <;> try simp -implicitDefEqProofs (maxSteps := 1000000) (disch := first | exact dz | fail) only [vcR, vcT, simprocAttr, Ab.part, implies_true, forall_const, vcS, vcXAb25, Tryz.f38, st_bs,xbs_some,hz1,one_set,hx]))
        refine xappend_row (cs := nats 0 (px l)) (sp := sp) (news_nat hszz rfl) (fun h => absurd rfl h) (by rw [nats_length, Nat.zero_mul]) (by rw [nat4_length, hszz]) (ap_nat _ (by omega)) (by rw [nat4_one]; trivial) (by first | exact fun h => h | (show ¬ (26 = 135); decide)) fun j' c'' sp' H' h1 h2 h3 h4 h5 h6 => ?_
        have hj0 : j' ≠ 0 := by
          rcases h4 with ⟨h, _⟩ | h
          · exact absurd rfl h
          · rw [h]; simp
        have hH0 := h5 0 (by simp) (by decide)
        clear h4 h5 h6
        (repeat' ((first | with_reducible (first | apply XQ_cons | apply XQ_consG | apply XQ_nil | apply XR_append | apply XR_cons | apply XR_consG | apply XR_nil | apply cF_pure (by assumption) | apply cV_pure (by assumption) | apply cF_ev (by assumption) | apply cV_ev (by assumption) | apply cF_ev (times_e _ _ _ _ bd bd bd) | apply cV_ev (times_e _ _ _ _ bd bd bd)) | with_reducible (first | apply gRS (by with_unfolding_all rfl) | apply gR (by with_unfolding_all rfl) | apply gS (by with_unfolding_all rfl) | fail) | (with_reducible apply X_drawC (id := 13) 9; (next => (kernel_rfl)); (next => (kernel_rfl))) | refine X_of _ ?_ | with_reducible (first | exact ⟨_, rfl⟩ | refine And.intro ?_ ?_ | intro _)) <;> try simp -implicitDefEqProofs (maxSteps := 1000000) (disch := first | exact dz | fail) only [vcR, vcT, simprocAttr, Ab.part, implies_true, forall_const, vcS, vcXAb25, Tryz.f38]))
        refine ⟨(0 + 1, c'', sp'), by simp; omega, ⟨by simp; omega, fun _ => ⟨h1, by rw [hszz] at h2; exact h2⟩⟩, [0, j'], ⟨by simp [Ne.symm hj0], rfl⟩, ?_, ⟨hH0.trans rfl, ?_, trivial⟩⟩
        · have e1 : (rowS 1 (0 + 1) c'').ren (lk [0, j']) = .s (.sl j' 0 (0 + 1) c'') := by rw [ren_rowS, rowS_s (by omega)]; rfl
          simp -implicitDefEqProofs (maxSteps := 1000000) (disch := first | exact dz | fail) only [vcR, vcT, simprocAttr, Ab.part, implies_true, forall_const, vcS, vcXAb25, Tryz.f38, renS_cons,renS_nil,ren_v,e1]
        · rw [h3]
          exact congrArg (fun x => some (AB.mk _ (x ++ _))) (nats_snoc (l := px l))
      · obtain ⟨hkc, hsp⟩ := hrow h0
        rw [rowH_s h0]
        (repeat' ((first | with_reducible (first | apply XQ_cons | apply XQ_consG | apply XQ_nil | apply XR_append | apply XR_cons | apply XR_consG | apply XR_nil | apply cF_pure (by assumption) | apply cV_pure (by assumption) | apply cF_ev (by assumption) | apply cV_ev (by assumption) | apply cF_ev (times_e _ _ _ _ bd bd bd) | apply cV_ev (times_e _ _ _ _ bd bd bd)) | with_reducible (first | apply gRS (by with_unfolding_all rfl) | apply gR (by with_unfolding_all rfl) | apply gS (by with_unfolding_all rfl) | fail) | (with_reducible apply X_drawC (id := 13) 9; (next => (kernel_rfl)); (next => (kernel_rfl))) | refine X_of _ ?_ | with_reducible (first | exact ⟨_, rfl⟩ | refine And.intro ?_ ?_ | intro _)) <;> try simp -implicitDefEqProofs (maxSteps := 1000000) (disch := first | exact dz | fail) only [vcR, vcT, simprocAttr, Ab.part, implies_true, forall_const, vcS, vcXAb25, Tryz.f38, st_bs,xbs_some,hz1,one_set,hx]))
        refine xappend_row (cs := nats k (px l)) (sp := sp) (news_nat hszz rfl) (fun _ => ⟨rfl, hkc, by rw [hszz]; exact hsp⟩) (by rw [nats_length, hszz, Nat.mul_comm]) (by rw [nat4_length, hszz]) (ap_nat _ (by omega)) (by rw [nat4_one]; trivial) (by first | exact fun h => h | (show ¬ (26 = 135); decide)) fun j' c'' sp' H' h1 h2 h3 h4 h5 h6 => ?_
        have hj0 : j' ≠ 0 := by
          rcases h4 with ⟨_, h⟩ | h
          · omega
          · rw [h]; simp
        have hH0 := h5 0 (by simp) (by decide)
        clear h4 h5 h6
        (repeat' ((first | with_reducible (first | apply XQ_cons | apply XQ_consG | apply XQ_nil | apply XR_append | apply XR_cons | apply XR_consG | apply XR_nil | apply cF_pure (by assumption) | apply cV_pure (by assumption) | apply cF_ev (by assumption) | apply cV_ev (by assumption) | apply cF_ev (times_e _ _ _ _ bd bd bd) | apply cV_ev (times_e _ _ _ _ bd bd bd)) | with_reducible (first | apply gRS (by with_unfolding_all rfl) | apply gR (by with_unfolding_all rfl) | apply gS (by with_unfolding_all rfl) | fail) | (with_reducible apply X_drawC (id := 13) 9; (next => (kernel_rfl)); (next => (kernel_rfl))) | refine X_of _ ?_ | with_reducible (first | exact ⟨_, rfl⟩ | refine And.intro ?_ ?_ | intro _)) <;> try simp -implicitDefEqProofs (maxSteps := 1000000) (disch := first | exact dz | fail) only [vcR, vcT, simprocAttr, Ab.part, implies_true, forall_const, vcS, vcXAb25, Tryz.f38]))
        refine ⟨(k + 1, c'', sp'), by simp; omega, ⟨by simp; omega, fun _ => ⟨h1, by rw [hszz] at h2; exact h2⟩⟩, [0, j'], ⟨by simp [Ne.symm hj0], rfl⟩, ?_, ⟨hH0.trans rfl, ?_, trivial⟩⟩
        · have e1 : (rowS 1 (k + 1) c'').ren (lk [0, j']) = .s (.sl j' 0 (k + 1) c'') := by rw [ren_rowS, rowS_s (by omega)]; rfl
          simp -implicitDefEqProofs (maxSteps := 1000000) (disch := first | exact dz | fail) only [vcR, vcT, simprocAttr, Ab.part, implies_true, forall_const, vcS, vcXAb25, Tryz.f38, renS_cons,renS_nil,ren_v,e1]
        · rw [h3]
          exact congrArg (fun x => some (AB.mk _ (x ++ _))) (nats_snoc (l := px l))
    · have : n = k := by omega
      subst this
      clear hki hk
      by_cases h0 : n = 0
      · subst h0
        rw [rowH_0]
        have hWE : WE m (px l) 0 = 0 := rfl
        have hA : atz m l 0 = 0 := by rw [atz_0 hWE]; rfl
        clear hrow hN hadr
        (repeat' ((first | with_reducible (first | apply XQ_cons | apply XQ_consG | apply XQ_nil | apply XR_append | apply XR_cons | apply XR_consG | apply XR_nil | apply cF_pure (by assumption) | apply cV_pure (by assumption) | apply cF_ev (by assumption) | apply cV_ev (by assumption) | apply cF_ev (times_e _ _ _ _ bd bd bd) | apply cV_ev (times_e _ _ _ _ bd bd bd)) | with_reducible (first | apply gRS (by with_unfolding_all rfl) | apply gR (by with_unfolding_all rfl) | apply gS (by with_unfolding_all rfl) | fail) | (with_reducible apply X_drawC (id := 13) 9; (next => (kernel_rfl)); (next => (kernel_rfl))) | refine X_of _ ?_ | with_reducible (first | exact ⟨_, rfl⟩ | refine And.intro ?_ ?_ | intro _)) <;> try simp -implicitDefEqProofs (maxSteps := 1000000) (disch := first | exact dz | fail) only [vcR, vcT, simprocAttr, Ab.part, implies_true, forall_const, vcS, vcXAb25, Tryz.f38, rowS_0]))
        refine xcall_evn (by kernel_rfl) (fun β w' hR => ⟨_, weights_n kb m none 0 0 (px l) hG (fun i => hl _) (by decide) (Nat.le_refl 0), hM w' hR.fr.to, .inl rfl⟩) fun v H' hv => ?_
        rcases hv with ⟨hne, rfl, rfl⟩ | ⟨hz, c2, sp2, hc2, rfl, rfl⟩
        · exact absurd rfl hne
        · rw [rowV_0, rowH_0, hA, hWE]
          have hS := sum_e kb m none 0 0 (fun _ => 0) hG (fun _ => by decide) (by decide)
          have hN0 : Kn (ctxE Tryz.prog (modEvo 135) w B) (natsAt (modEvo 135) none 0 fun _ => 0) := fun _ _ => .inl rfl
          (repeat' ((first | with_reducible (first | apply XQ_cons | apply XQ_consG | apply XQ_nil | apply XR_append | apply XR_cons | apply XR_consG | apply XR_nil | apply cF_pure (by assumption) | apply cV_pure (by assumption) | apply cF_ev (by assumption) | apply cV_ev (by assumption) | apply cF_ev (times_e _ _ _ _ bd bd bd) | apply cV_ev (times_e _ _ _ _ bd bd bd)) | with_reducible (first | apply gRS (by with_unfolding_all rfl) | apply gR (by with_unfolding_all rfl) | apply gS (by with_unfolding_all rfl) | fail) | (with_reducible apply X_drawC (id := 13) 9; (next => (kernel_rfl)); (next => (kernel_rfl))) | refine X_of _ ?_ | with_reducible (first | exact ⟨_, rfl⟩ | refine And.intro ?_ ?_ | intro _)) <;> try simp -implicitDefEqProofs (maxSteps := 1000000) (disch := first | exact dz | fail) only [vcR, vcT, simprocAttr, Ab.part, implies_true, forall_const, vcS, vcXAb25, Tryz.f38, List.append_nil]))
          refine X_loop (ι := Unit) (fun _ => True) (fun _ => 0) [12, 13, 38, 39, 40, 41, 42, 43, 44, 45, 46, 47, 48, 49, 50, 51, 52, 53, 54]
            (fun _ => [(38, .s (.v (.int .i64 0)))])
            (fun _ => []) () (shape_of fun _ => ?_) (by decide) ?_ ?_
          · simp only [List.length_cons, List.length_nil, List.map_cons, List.map_nil, List.nodup_cons, List.nodup_nil, List.mem_cons, Nat.reduceAdd, Nat.reduceEqDiff, or_false, not_false_eq_true, forall_eq_or_imp, forall_eq, or_self, Nat.reduceLT, Nat.reduceLeDiff, and_self, List.forall_mem_cons, List.not_mem_nil, false_implies, implies_true, and_true, true_and, vcOAb25]
          · simp -implicitDefEqProofs (maxSteps := 1000000) (disch := first | exact dz | fail) only [vcR, vcT, simprocAttr, Ab.part, implies_true, forall_const, vcS, vcXAb25, Tryz.f38, again_eq]
            try simp
          · intro _ us _
            (repeat' ((first | with_reducible (first | apply XQ_cons | apply XQ_consG | apply XQ_nil | apply XR_append | apply XR_cons | apply XR_consG | apply XR_nil | apply cF_pure (by assumption) | apply cV_pure (by assumption) | apply cF_ev (by assumption) | apply cV_ev (by assumption) | apply cF_ev (times_e _ _ _ _ bd bd bd) | apply cV_ev (times_e _ _ _ _ bd bd bd)) | with_reducible (first | apply gRS (by with_unfolding_all rfl) | apply gR (by with_unfolding_all rfl) | apply gS (by with_unfolding_all rfl) | fail) | (with_reducible apply X_drawC (id := 13) 9; (next => (kernel_rfl)); (next => (kernel_rfl))) | refine X_of _ ?_ | with_reducible (first | exact ⟨_, rfl⟩ | refine And.intro ?_ ?_ | intro _)) <;> try simp -implicitDefEqProofs (maxSteps := 1000000) (disch := first | exact dz | fail) only [vcR, vcT, simprocAttr, Ab.part, implies_true, forall_const, vcS, vcXAb25, Tryz.f38, sumM_0]))
      · obtain ⟨hkc, hsp⟩ := hrow h0
        obtain ⟨ad, rfl⟩ := hadr h0
        clear hrow hadr
        rw [rowH_s h0]
        (repeat' ((first | with_reducible (first | apply XQ_cons | apply XQ_consG | apply XQ_nil | apply XR_append | apply XR_cons | apply XR_consG | apply XR_nil | apply cF_pure (by assumption) | apply cV_pure (by assumption) | apply cF_ev (by assumption) | apply cV_ev (by assumption) | apply cF_ev (times_e _ _ _ _ bd bd bd) | apply cV_ev (times_e _ _ _ _ bd bd bd)) | with_reducible (first | apply gRS (by with_unfolding_all rfl) | apply gR (by with_unfolding_all rfl) | apply gS (by with_unfolding_all rfl) | fail) | (with_reducible apply X_drawC (id := 13) 9; (next => (kernel_rfl)); (next => (kernel_rfl))) | refine X_of _ ?_ | with_reducible (first | exact ⟨_, rfl⟩ | refine And.intro ?_ ?_ | intro _)) <;> try simp -implicitDefEqProofs (maxSteps := 1000000) (disch := first | exact dz | fail) only [vcR, vcT, simprocAttr, Ab.part, implies_true, forall_const, vcS, vcXAb25, Tryz.f38, rowS_s h0]))
        refine xcall_evn (by kernel_rfl) (fun β w' hR => ⟨_, weights_n kb m (some ⟨β 1, 0, none⟩) n c' (px l) hG (fun i => hl _) hn hkc, hM w' hR.fr.to, natsAt_own hR rfl (by decide)⟩) fun v H' hv => ?_
        rcases hv with ⟨hne, rfl, rfl⟩ | ⟨hz, c2, sp2, hc2, rfl, rfl⟩
        · have hb : (WE m (px l) n != 0) = true := by simp [hne]
          have hA := atz_e hne
          rw [hA]
          (repeat' ((first | with_reducible (first | apply XQ_cons | apply XQ_consG | apply XQ_nil | apply XR_append | apply XR_cons | apply XR_consG | apply XR_nil | apply cF_pure (by assumption) | apply cV_pure (by assumption) | apply cF_ev (by assumption) | apply cV_ev (by assumption) | apply cF_ev (times_e _ _ _ _ bd bd bd) | apply cV_ev (times_e _ _ _ _ bd bd bd)) | with_reducible (first | apply gRS (by with_unfolding_all rfl) | apply gR (by with_unfolding_all rfl) | apply gS (by with_unfolding_all rfl) | fail) | (with_reducible apply X_drawC (id := 13) 9; (next => (kernel_rfl)); (next => (kernel_rfl))) | refine X_of _ ?_ | with_reducible (first | exact ⟨_, rfl⟩ | refine And.intro ?_ ?_ | intro _)) <;> try simp -implicitDefEqProofs (maxSteps := 1000000) (disch := first | exact dz | fail) only [vcR, vcT, simprocAttr, Ab.part, implies_true, forall_const, vcS, vcXAb25, Tryz.f38, List.append_nil,hb]))
        · have hA := atz_0 hz
          rw [hA, hz]
          rw [rowV_s h0, rowH_s h0]
          (repeat' ((first | with_reducible (first | apply XQ_cons | apply XQ_consG | apply XQ_nil | apply XR_append | apply XR_cons | apply XR_consG | apply XR_nil | apply cF_pure (by assumption) | apply cV_pure (by assumption) | apply cF_ev (by assumption) | apply cV_ev (by assumption) | apply cF_ev (times_e _ _ _ _ bd bd bd) | apply cV_ev (times_e _ _ _ _ bd bd bd)) | with_reducible (first | apply gRS (by with_unfolding_all rfl) | apply gR (by with_unfolding_all rfl) | apply gS (by with_unfolding_all rfl) | fail) | (with_reducible apply X_drawC (id := 13) 9; (next => (kernel_rfl)); (next => (kernel_rfl))) | refine X_of _ ?_ | with_reducible (first | exact ⟨_, rfl⟩ | refine And.intro ?_ ?_ | intro _)) <;> try simp -implicitDefEqProofs (maxSteps := 1000000) (disch := first | exact dz | fail) only [vcR, vcT, simprocAttr, Ab.part, implies_true, forall_const, vcS, vcXAb25, Tryz.f38]))
          rw [XL_eq]
          refine X_rebase (modEvo 135) B [0] (by decide) (by simp) rfl (.inl ⟨rfl, rfl⟩) (fun _ h => h) (by
            intro i hi b hb
            simp only [List.mem_cons, List.not_mem_nil, or_false] at hi
            subst hi
            injection hb with hb
            subst hb
            show ¬ (26 = 135)
            decide) fun β w1 hR => ?_
          rw [← XL_eq]
          have hM1 : Kn ((ctxE Tryz.prog (modEvo 135) w B).after (modEvo 135) B w1 β [0]) (isMod 135 kb m) := hM.after (L := [0]) hR (by simp)
          have hN1 : Kn ((ctxE Tryz.prog (modEvo 135) w B).after (modEvo 135) B w1 β [0]) (natsAt (modEvo 135) (some ad) (2 * n) l) := hN.after (L := [0]) hR (by simp)
          have hW1 : Kn ((ctxE Tryz.prog (modEvo 135) w B).after (modEvo 135) B w1 β [0]) (natsAt (modEvo 135) (some ⟨β 2, 0, none⟩) n (wgt m (px l) n)) := natsAt_gone hR rfl (by simp) (by simp) (by decide)
          clear hR hN hkc hsp hc2 hszz
          have hszz : sz ((ctxE Tryz.prog (modEvo 135) w B).after (modEvo 135) B w1 β [0]).P 26 = 4 := sz_nat
          simp -implicitDefEqProofs (maxSteps := 1000000) (disch := first | exact dz | fail) only [vcR, vcT, simprocAttr, Ab.part, implies_true, forall_const, vcS, vcXAb25, Tryz.f38]
          refine X_loopT (ι := Nat × Nat × List Value) (fun k => k.1 ≤ n ∧ (k.1 ≠ 0 → k.1 ≤ k.2.1 ∧ k.2.2.length = (k.2.1 - k.1) * 4)) (fun k => n - k.1) [7, 12, 13, 38, 39, 40, 41, 42, 43, 44, 45, 46, 47, 48, 49, 50, 51, 52, 53, 54]
            (fun k => [(7, rowS 1 k.1 k.2.1), (38, .s (.v (.int .i64 (k.1 : Nat))))])
            (fun k => ⟨26, nat4 0⟩ :: rowH 26 k.1 (nats k.1 (prt m l n)) k.2.2) (0, 0, []) ?_ (by decide) ?_ ?_
          · rintro ⟨k, c', sp⟩ ⟨hk, _⟩
            refine ⟨by simp, ?_, by simp, ?_⟩
            · simp only [List.forall_mem_cons]
              refine ⟨rowS_ok fun h0 => ?_, trivial, fun x hx => by simp at hx⟩
              rw [rowH_s h0]; exact Nat.lt_succ_self 1
            · simp only [List.forall_mem_cons]
              exact ⟨arr_ok _, row_ok (nats_ok _)⟩
          · refine ⟨⟨Nat.zero_le _, fun h => absurd rfl h⟩, [0], ⟨by decide, rfl⟩, ?_, rfl, trivial⟩
            simp -implicitDefEqProofs (maxSteps := 1000000) (disch := first | exact dz | fail) only [vcR, vcT, simprocAttr, Ab.part, implies_true, forall_const, vcS, vcXAb25, Tryz.f38, renS_cons,renS_nil,ren_v,rowS_0]
          · rintro ⟨k, c3, sp⟩ us ⟨hk, hrow⟩
            simp only at hk hrow ⊢
            by_cases hki : k < n
            · have hx : ∀ {K : TV → HE → Prop}, xext ((ctxE Tryz.prog (modEvo 135) w B).after (modEvo 135) B w1 β [0]) (some true) 8 (ad.add (k * 8)) K = K (.agg (pt (l (2 * k)) (l (2 * k + 1)))) .none := fun {K} => hN1.pt hki
              have hx' : ∀ {K : TV → HE → Prop}, xext ((ctxE Tryz.prog (modEvo 135) w B).after (modEvo 135) B w1 β [0]) (some true) 4 ((⟨β 2, 0, none⟩ : Addr).add (k * 4)) K = K (.agg (nat4 (wgt m (px l) n k))) .none := fun {K} => hW1.nat hki
              have hly := hl (2 * k + 1)
              have hwl := wgt_lt hG (px l) n k
              clear hl
              by_cases h1 : k = 0
              · subst h1
                rw [rowH_0]
                (repeat' ((first | with_reducible (first | apply XQ_cons | apply XQ_consG | apply XQ_nil | apply XR_append | apply XR_cons | apply XR_consG | apply XR_nil | apply cF_pure (by assumption) | apply cV_pure (by assumption) | apply cF_ev (by assumption) | apply cV_ev (by assumption) | apply cF_ev (times_e _ _ _ _ bd bd bd) | apply cV_ev (times_e _ _ _ _ bd bd bd)) | with_reducible (first | apply gRS (by with_unfolding_all rfl) | apply gR (by with_unfolding_all rfl) | apply gS (by with_unfolding_all rfl) | fail) | (with_reducible apply X_drawC (id := 13) 9; (next => (kernel_rfl)); (next => (kernel_rfl))) | refine X_of _ ?_ | with_reducible (first | exact ⟨_, rfl⟩ | refine And.intro ?_ ?_ | intro _)) <;> try simp -implicitDefEqProofs (maxSteps := 1000000) (disch := first | exact dz | fail) only [vcR, vcT, simprocAttr, Ab.part, implies_true, forall_const, vcS, vcXAb25, Tryz.f38, st_bs,xbs_some,hz1,one_set,hx,hx']))
                refine xappend_row (cs := nats 0 (prt m l n)) (sp := sp) (news_nat hszz rfl) (fun h => absurd rfl h) (by rw [nats_length, Nat.zero_mul]) (by rw [nat4_length, hszz]) (ap_nat _ (by omega)) (by rw [nat4_one]; trivial) (by first | exact fun h => h | (show ¬ (26 = 135); decide)) fun j' c'' sp' H' h1 h2 h3 h4 h5 h6 => ?_
                have hj0 : j' ≠ 0 := by
                  rcases h4 with ⟨h, _⟩ | h
                  · exact absurd rfl h
                  · rw [h]; simp
                have hH0 := h5 0 (by simp) (by decide)
                clear h4 h5 h6
                (repeat' ((first | with_reducible (first | apply XQ_cons | apply XQ_consG | apply XQ_nil | apply XR_append | apply XR_cons | apply XR_consG | apply XR_nil | apply cF_pure (by assumption) | apply cV_pure (by assumption) | apply cF_ev (by assumption) | apply cV_ev (by assumption) | apply cF_ev (times_e _ _ _ _ bd bd bd) | apply cV_ev (times_e _ _ _ _ bd bd bd)) | with_reducible (first | apply gRS (by with_unfolding_all rfl) | apply gR (by with_unfolding_all rfl) | apply gS (by with_unfolding_all rfl) | fail) | (with_reducible apply X_drawC (id := 13) 9; (next => (kernel_rfl)); (next => (kernel_rfl))) | refine X_of _ ?_ | with_reducible (first | exact ⟨_, rfl⟩ | refine And.intro ?_ ?_ | intro _)) <;> try simp -implicitDefEqProofs (maxSteps := 1000000) (disch := first | exact dz | fail) only [vcR, vcT, simprocAttr, Ab.part, implies_true, forall_const, vcS, vcXAb25, Tryz.f38]))
                refine ⟨(0 + 1, c'', sp'), by simp; omega, ⟨by simp; omega, fun _ => ⟨h1, by rw [hszz] at h2; exact h2⟩⟩, [0, j'], ⟨by simp [Ne.symm hj0], rfl⟩, ?_, ⟨hH0.trans rfl, ?_, trivial⟩⟩
                · have e1 : (rowS 1 (0 + 1) c'').ren (lk [0, j']) = .s (.sl j' 0 (0 + 1) c'') := by rw [ren_rowS, rowS_s (by omega)]; rfl
                  simp -implicitDefEqProofs (maxSteps := 1000000) (disch := first | exact dz | fail) only [vcR, vcT, simprocAttr, Ab.part, implies_true, forall_const, vcS, vcXAb25, Tryz.f38, renS_cons,renS_nil,ren_v,e1]
                · rw [h3]
                  exact congrArg (fun x => some (AB.mk _ (x ++ _))) (nats_snoc (l := prt m l n))
              · obtain ⟨hkc, hsp⟩ := hrow h1
                rw [rowH_s h1]
                (repeat' ((first | with_reducible (first | apply XQ_cons | apply XQ_consG | apply XQ_nil | apply XR_append | apply XR_cons | apply XR_consG | apply XR_nil | apply cF_pure (by assumption) | apply cV_pure (by assumption) | apply cF_ev (by assumption) | apply cV_ev (by assumption) | apply cF_ev (times_e _ _ _ _ bd bd bd) | apply cV_ev (times_e _ _ _ _ bd bd bd)) | with_reducible (first | apply gRS (by with_unfolding_all rfl) | apply gR (by with_unfolding_all rfl) | apply gS (by with_unfolding_all rfl) | fail) | (with_reducible apply X_drawC (id := 13) 9; (next => (kernel_rfl)); (next => (kernel_rfl))) | refine X_of _ ?_ | with_reducible (first | exact ⟨_, rfl⟩ | refine And.intro ?_ ?_ | intro _)) <;> try simp -implicitDefEqProofs (maxSteps := 1000000) (disch := first | exact dz | fail) only [vcR, vcT, simprocAttr, Ab.part, implies_true, forall_const, vcS, vcXAb25, Tryz.f38, st_bs,xbs_some,hz1,one_set,hx,hx']))
                refine xappend_row (cs := nats k (prt m l n)) (sp := sp) (news_nat hszz rfl) (fun _ => ⟨rfl, hkc, by rw [hszz]; exact hsp⟩) (by rw [nats_length, hszz, Nat.mul_comm]) (by rw [nat4_length, hszz]) (ap_nat _ (by omega)) (by rw [nat4_one]; trivial) (by first | exact fun h => h | (show ¬ (26 = 135); decide)) fun j' c'' sp' H' h1 h2 h3 h4 h5 h6 => ?_
                have hj0 : j' ≠ 0 := by
                  rcases h4 with ⟨_, h⟩ | h
                  · omega
                  · rw [h]; simp
                have hH0 := h5 0 (by simp) (by decide)
                clear h4 h5 h6
                (repeat' ((first | with_reducible (first | apply XQ_cons | apply XQ_consG | apply XQ_nil | apply XR_append | apply XR_cons | apply XR_consG | apply XR_nil | apply cF_pure (by assumption) | apply cV_pure (by assumption) | apply cF_ev (by assumption) | apply cV_ev (by assumption) | apply cF_ev (times_e _ _ _ _ bd bd bd) | apply cV_ev (times_e _ _ _ _ bd bd bd)) | with_reducible (first | apply gRS (by with_unfolding_all rfl) | apply gR (by with_unfolding_all rfl) | apply gS (by with_unfolding_all rfl) | fail) | (with_reducible apply X_drawC (id := 13) 9; (next => (kernel_rfl)); (next => (kernel_rfl))) | refine X_of _ ?_ | with_reducible (first | exact ⟨_, rfl⟩ | refine And.intro ?_ ?_ | intro _)) <;> try simp -implicitDefEqProofs (maxSteps := 1000000) (disch := first | exact dz | fail) only [vcR, vcT, simprocAttr, Ab.part, implies_true, forall_const, vcS, vcXAb25, Tryz.f38]))
                refine ⟨(k + 1, c'', sp'), by simp; omega, ⟨by simp; omega, fun _ => ⟨h1, by rw [hszz] at h2; exact h2⟩⟩, [0, j'], ⟨by simp [Ne.symm hj0], rfl⟩, ?_, ⟨hH0.trans rfl, ?_, trivial⟩⟩
                · have e1 : (rowS 1 (k + 1) c'').ren (lk [0, j']) = .s (.sl j' 0 (k + 1) c'') := by rw [ren_rowS, rowS_s (by omega)]; rfl
                  simp -implicitDefEqProofs (maxSteps := 1000000) (disch := first | exact dz | fail) only [vcR, vcT, simprocAttr, Ab.part, implies_true, forall_const, vcS, vcXAb25, Tryz.f38, renS_cons,renS_nil,ren_v,e1]
                · rw [h3]
                  exact congrArg (fun x => some (AB.mk _ (x ++ _))) (nats_snoc (l := prt m l n))
            · have : n = k := by omega
              subst this
              rw [rowH_s h0]
              clear hM1 hN1 hW1 hl
              (repeat' ((first | with_reducible (first | apply XQ_cons | apply XQ_consG | apply XQ_nil | apply XR_append | apply XR_cons | apply XR_consG | apply XR_nil | apply cF_pure (by assumption) | apply cV_pure (by assumption) | apply cF_ev (by assumption) | apply cV_ev (by assumption) | apply cF_ev (times_e _ _ _ _ bd bd bd) | apply cV_ev (times_e _ _ _ _ bd bd bd)) | with_reducible (first | apply gRS (by with_unfolding_all rfl) | apply gR (by with_unfolding_all rfl) | apply gS (by with_unfolding_all rfl) | fail) | (with_reducible apply X_drawC (id := 13) 9; (next => (kernel_rfl)); (next => (kernel_rfl))) | refine X_of _ ?_ | with_reducible (first | exact ⟨_, rfl⟩ | refine And.intro ?_ ?_ | intro _)) <;> try simp -implicitDefEqProofs (maxSteps := 1000000) (disch := first | exact dz | fail) only [vcR, vcT, simprocAttr, Ab.part, implies_true, forall_const, vcS, vcXAb25, Tryz.f38, rowS_s h0]))
              refine yF_evz (fun β' w' hR => ⟨_, sum_e kb m (some ⟨β' 1, 0, none⟩) n c3 (prt m l n) hG (fun _ => OddM.mod_lt hG) (by omega), hM w' hR.fr.to, natsAt_own hR rfl (by decide)⟩) rfl rfl (by kernel_rfl) ?_
              simp -implicitDefEqProofs (maxSteps := 1000000) (disch := first | exact dz | fail) only [vcR, vcT, simprocAttr, Ab.part, implies_true, forall_const, vcS, vcXAb25, Tryz.f38]
              (repeat' ((first | with_reducible (first | apply XQ_cons | apply XQ_consG | apply XQ_nil | apply XR_append | apply XR_cons | apply XR_consG | apply XR_nil | apply cF_pure (by assumption) | apply cV_pure (by assumption) | apply cF_ev (by assumption) | apply cV_ev (by assumption) | apply cF_ev (times_e _ _ _ _ bd bd bd) | apply cV_ev (times_e _ _ _ _ bd bd bd)) | with_reducible (first | apply gRS (by with_unfolding_all rfl) | apply gR (by with_unfolding_all rfl) | apply gS (by with_unfolding_all rfl) | fail) | (with_reducible apply X_drawC (id := 13) 9; (next => (kernel_rfl)); (next => (kernel_rfl))) | refine X_of _ ?_ | with_reducible (first | exact ⟨_, rfl⟩ | refine And.intro ?_ ?_ | intro _)) <;> try simp -implicitDefEqProofs (maxSteps := 1000000) (disch := first | exact dz | fail) only [vcR, vcT, simprocAttr, Ab.part, implies_true, forall_const, vcS, vcXAb25, Tryz.f38]))
theorem evC_ofA {V : Evo} {P : Program} {f : FuncId} {fn : Func} {c : Code} {args : List TV} {pre : Nat → World → Prop} {r : TV} (hf : P.funcs[f]? = some fn) (hb : fn.body = some c) (ha : ∀ x ∈ args, x.ok 0) (hr : r.ok 0)
    (h : ∀ B w, pre B w → XA (ctxE P V w B) (fun _ => True) c (args ++ List.replicate (fn.ntmps - args.length) undefT) [] (retA P fn.results.toList fun v _ _ => v = r)) : EvC V P f args pre r := by
  intro B w hp
  refine (calls_of_XA (Γ := ctxE P V w B) hf hb (repE P V w B fun _ => 0) trivial ha (h B w hp)).mono ?_
  rintro e w' ⟨v, H', A', β', rfl, _, hR, he⟩
  refine ⟨fun β'' => ?_, ext_of_repE hR⟩
  rw [he β' (.refl _ _)]
  rw [TV.conc_ok hr (β := β'') (β' := β') (fun j hj => absurd hj (Nat.not_lt_zero j))]
def pcsG (S : Nat → Int) (A : Nat → Nat) (j : Nat) : Value := if j % 5 = 0 then .int .i64 (S (j / 5)) else .int .u64 (wd (A (j / 5)) (j % 5 - 1) : Int)
def pcsAt (V : Evo) (x : Option Addr) (n : Nat) (S : Nat → Int) (A : Nat → Nat) : Nat → World → Prop := fun B w => n = 0 ∨ ∃ ad, x = some ad ∧ cellsAt V ad (5 * n) (pcsG S A) B w
theorem pcsAt_stays (V : Evo) (x : Option Addr) (n : Nat) (S : Nat → Int) (A : Nat → Nat) : Stays V (pcsAt V x n S A) := by
  rintro B w w' (h | ⟨ad, hx, h⟩) he
  · exact .inl h
  · exact .inr ⟨ad, hx, cellsAt_stays V ad _ _ B w w' h he⟩
theorem pcsG_s {S : Nat → Int} {A : Nat → Nat} {i : Nat} : pcsG S A (i * 5) = .int .i64 (S i) := by
  unfold pcsG
  rw [if_pos (by omega), show i * 5 / 5 = i by omega]
theorem pcsG_w {S : Nat → Int} {A : Nat → Nat} {i k : Nat} (hk : k < 4) : pcsG S A (i * 5 + (k + 1)) = .int .u64 (wd (A i) k : Int) := by
  unfold pcsG
  rw [if_neg (by omega), show (i * 5 + (k + 1)) / 5 = i by omega, show (i * 5 + (k + 1)) % 5 - 1 = k by omega]
theorem map_pcsG {S : Nat → Int} {A : Nat → Nat} {i : Nat} : ((List.range 5).map fun j => SV.v (pcsG S A (i * 5 + j))) = pieceC (S i) (A i) := by
  show [SV.v (pcsG S A (i * 5 + 0)), SV.v (pcsG S A (i * 5 + 1)), SV.v (pcsG S A (i * 5 + 2)), SV.v (pcsG S A (i * 5 + 3)), SV.v (pcsG S A (i * 5 + 4))] = _
  rw [Nat.add_zero, pcsG_s, pcsG_w (k := 0) (by decide), pcsG_w (k := 1) (by decide), pcsG_w (k := 2) (by decide), pcsG_w (k := 3) (by decide)]
  rfl
theorem Kn.pcs {Γ : Ctx} {V : Evo} {ad : Addr} {n i : Nat} {S : Nat → Int} {A : Nat → Nat} (h : Kn Γ (pcsAt V (some ad) n S A)) (hi : i < n) {K : TV → HE → Prop} : xext Γ (some true) 5 (ad.add (i * 5)) K = K (.agg (pieceC (S i) (A i))) .none := by
  have h1 : Kn Γ (cellsAt V ad (5 * n) (pcsG S A)) := fun w hw => by
    rcases h w hw with h0 | ⟨ad', hx, h2⟩
    · omega
    · injection hx with hx
      subst hx
      exact h2
  rw [xext_cells h1 (by omega), map_pcsG]
def rcF (f : Nat → Int) : Nat → Int
  | 0 => 0
  | i + 1 => if rcF f i ≠ 0 then rcF f i else f i
def keysI (S : Nat → Int) : Nat → List Int
  | 0 => []
  | i + 1 => insI (keysI S i) (S i)
def pl (S : Nat → Int) (A : Nat → Nat) (j : Nat) : Nat := if j % 2 = 0 then placeN (S (j / 2)) else A (j / 2)
def recE (P Q G m : Nat) (l : Nat → Nat) (n : Nat) (S : Nat → Int) (A : Nat → Nat) : Int :=
  let e := rcF (fun i => rightE P Q G m l (S i) (A i)) n
  if e ≠ 0 then e else if (keysI S n).length < n then 13 else if n < m then 3 else WE Q (px (pl S A)) n
def recV (P Q G m : Nat) (l : Nat → Nat) (n : Nat) (S : Nat → Int) (A : Nat → Nat) : Nat :=
  let e := rcF (fun i => rightE P Q G m l (S i) (A i)) n
  if e ≠ 0 then 0 else if (keysI S n).length < n then 0 else if n < m then 0 else atz Q (pl S A) n
theorem gap_pt (n : Nat) (hn : n ≤ 1000000) : apOK Tryz.prog 83 n := by
  have h1 : (Tryz.prog.info? 83).map (fun i => (i.bytes, i.size, i.zero.map fun z => z.cells.size)) = some (64, 8, some 8) := by kernel_rfl
  cases hi : Tryz.prog.info? 83 with
  | none => rw [hi] at h1; cases h1
  | some i =>
    rw [hi] at h1
    simp only [Option.map_some, Option.some.injEq, Prod.mk.injEq] at h1
    obtain ⟨h2, h3, h4⟩ := h1
    obtain ⟨z, hz, hz4⟩ := Option.map_eq_some_iff.1 h4
    exact ⟨i, z, hi, hz, by rw [hz4, h3], by rw [h2]; omega, by omega⟩
theorem gsz_pt : sz Tryz.prog 83 = 8 := by kernel_rfl
theorem gnews_pt {H : Heap} {k t a b n : Nat} (hn : n = 8) (hb : H[k]? = some ⟨t, pt a b⟩) : newsOf H n (.s (.sl k 0 1 1)) = some (pt a b, 1) := by
  subst hn
  have hl : (pt a b).length = 8 := pt_length
  have h8 : (pt a b).take 8 = pt a b := List.take_of_length_le (by omega)
  simp [newsOf, hb, hl, part_eq, h8]
theorem gpts_snoc {k : Nat} {l : Nat → Nat} : nats (2 * k) l ++ pt (l (2 * k)) (l (2 * k + 1)) = nats (2 * (k + 1)) l := by
  unfold pt
  rw [← List.append_assoc, nats_snoc, nats_snoc]
  rfl
theorem gone_pt (a b : Nat) : setAt (arr 8 fun _ => 0) 0 (pt a b) = pt a b := rfl
theorem rcF_ok {f : Nat → Int} : ∀ {n}, (∀ j, j < n → f j = 0) → rcF f n = 0
  | 0, _ => rfl
  | n + 1, h => by
    show (if rcF f n ≠ 0 then rcF f n else f n) = 0
    rw [rcF_ok fun j hj => h j (by omega), if_neg (by decide)]
    exact h n (by omega)
theorem rcF_bad {f : Nat → Int} {i : Nat} (h0 : ∀ j, j < i → f j = 0) (h : f i ≠ 0) : ∀ {n}, i < n → rcF f n = f i
  | 0, hi => absurd hi (Nat.not_lt_zero i)
  | n + 1, hi => by
    show (if rcF f n ≠ 0 then rcF f n else f n) = f i
    by_cases hin : i = n
    · subst hin
      rw [rcF_ok h0, if_neg (by decide)]
    · rw [rcF_bad h0 h (by omega), if_pos h]
end Go.Proofs.YtdmcknmjdlghgaaGreatDoor
