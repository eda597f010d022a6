/-
  share: Commit; sortitionref03.Nats, where rows are alike.
  share: powers.
  share: the two questions of Right.
  pratt: is a proof one, if its factors are prime?
  pratt: what a list proves.
  pratt: is a list one, and what it proves.
  group: New.
  The laws of groups in plain numbers.
  share: the second question of Right.
-/
import Derived.Test.YtdmcknmjdlghgaaGreatDoorV01
import Derived.Test.YtdmcknmjdlghgaaGreatDoorV02
import Derived.Test.YtdmcknmjdlghgaaGreatDoorV03
import Derived.Test.YtdmcknmjdlghgaaGreatDoorV04
import Derived.Test.YtdmcknmjdlghgaaGreatDoorV05
import Derived.Test.YtdmcknmjdlghgaaGreatDoorV06
import Derived.Test.YtdmcknmjdlghgaaGreatDoorV07
import Derived.Test.YtdmcknmjdlghgaaGreatDoorV09
import Derived.Test.YtdmcknmjdlghgaaGreatDoorV11
namespace Go.Proofs.YtdmcknmjdlghgaaGreatDoor
open Go Go.Ab
set_option linter.unusedSimpArgs false
set_option linter.unusedVariables false
set_option linter.defProp false
set_option maxHeartbeats 20000000
set_option maxRecDepth 100000
def comN (P G : Nat) (l : Nat → Nat) : Nat → Nat := fun i => G ^ l i % P
theorem gives_row0 {f : Nat → Nat} {H' : Heap} : Gives (rowR 0 f) (.s (.v (.slice none 0 0))) H' :=
  ⟨[], rowS 0 0 0, rowH 26 0 (nats 0 f) [], ⟨0, [], fun h => absurd rfl h, rfl, rfl⟩, by decide, rfl, trivial, trivial, fun b hb => by rw [rowH_0] at hb; cases hb⟩
theorem gives_row {n c j : Nat} {f : Nat → Nat} {sp : List Value} {H' : Heap} (h0 : n ≠ 0) (hc : n ≤ c ∧ sp.length = (c - n) * 4) (hb : H'[j]? = some ⟨26, nats n f ++ sp.map SV.v⟩) : Gives (rowR n f) (.s (.sl j 0 n c)) H' := by
  refine ⟨[j], rowS 0 n c, rowH 26 n (nats n f) sp, ⟨c, sp, fun _ => hc, rfl, rfl⟩, by simp, by rw [ren_rowS, rowS_s h0]; rfl, ?_, ?_, row_okG (nats_ok _)⟩
  · exact rowS_ok fun _ => by rw [rowH_s h0]; exact Nat.zero_lt_one
  · rw [rowH_s h0]
    exact ⟨hb, trivial⟩
theorem commit_n (kg kx kq P Q G : Nat) (x : Option Addr) (n c : Nat) (l : Nat → Nat) (hG2 : G < 2 ^ 256) (hl : ∀ i, l i < 2 ^ 256) (hn : n ≤ 1000) :
    EvN (modEvo 135) Tryz.prog 12 [.s (.v (.pointer (some ⟨kg, 0, none⟩))), .s (.v (.slice x n c))] (fun B w => GK kg kx kq P Q G B w ∧ natsAt (modEvo 135) x n l B w) (rowR n (comN P G l)) := by
  (refine evN_of Tryz.func12 rfl (by simp only [List.length_cons, List.length_nil, List.map_cons, List.map_nil, List.nodup_cons, List.nodup_nil, List.mem_cons, Nat.reduceAdd, Nat.reduceEqDiff, or_false, not_false_eq_true, forall_eq_or_imp, forall_eq, or_self, Nat.reduceLT, Nat.reduceLeDiff, and_self, List.forall_mem_cons, List.not_mem_nil, false_implies, implies_true, and_true, true_and, vcOHb]) fun B w hpre => ?_; simp only [List.length_cons, List.length_nil, Tryz.ntmps12, Nat.reduceAdd, Nat.reduceSub, List.replicate_succ, List.replicate_zero, List.cons_append, List.nil_append])
  have h0 := Kn.entry (P := Tryz.prog) ((isGrp_stays 135 kg kx kq P Q G).and (natsAt_stays _ x n l)) hpre
  have hG := h0.left
  have hN := h0.right
  have hx0 := hpre.2
  obtain ⟨hOP, hOQ⟩ := hG.gOdd
  clear hpre h0
  obtain ⟨f, hf⟩ : ∃ f, comN P G l = f := ⟨_, rfl⟩
  have hadr : n ≠ 0 → ∃ ad, x = some ad := fun h => by
    rcases hx0 with h0 | ⟨ad, h0, _⟩
    · omega
    · exact ⟨ad, h0⟩
  clear hx0
  have hszz : sz (ctxE Tryz.prog (modEvo 135) w B).P 26 = 4 := gsz_nat
  rw [hf]
  (repeat' ((first | with_reducible (first | apply XR_append | apply XR_cons | apply XR_consG | apply XR_nil | apply cF_pure3 (by assumption) | apply cF_ev3 (by assumption)) | with_reducible (first | apply gRS (by with_unfolding_all rfl) | apply gR (by with_unfolding_all rfl) | apply gS (by with_unfolding_all rfl) | fail) | refine X_of _ ?_ | with_reducible (first | exact ⟨_, rfl⟩ | refine And.intro ?_ ?_ | intro _)) <;> try simp -implicitDefEqProofs (maxSteps := 1000000) (disch := first | exact dz3 | fail) only [vcR, vcT, simprocAttr, Ab.part, implies_true, forall_const, vcS, vcXHb, Tryz.f12]))
  refine X_loopT (ι := Nat × Nat × List Value) (fun k => k.1 ≤ n ∧ (k.1 ≠ 0 → k.1 ≤ k.2.1 ∧ k.2.2.length = (k.2.1 - k.1) * 4)) (fun k => n - k.1) [5, 6, 7, 10, 11, 12, 13, 14, 15, 16, 17, 18, 19, 20]
    (fun k => [(5, rowS 0 k.1 k.2.1), (10, .s (.v (.int .i64 (k.1 : Nat))))])
    (fun k => rowH 26 k.1 (nats k.1 f) k.2.2) (0, 0, []) ?_ (by decide) ?_ ?_
  · rintro ⟨k, c', sp⟩ ⟨hk, _⟩
    refine ⟨by simp, ?_, Nat.zero_le _, ?_⟩
    · simp only [List.forall_mem_cons]
      refine ⟨rowS_ok fun h0 => ?_, trivial, fun x hx => by simp at hx⟩
      rw [rowH_s h0]; exact Nat.zero_lt_one
    · exact row_okG (nats_ok _)
  · refine ⟨⟨Nat.zero_le _, fun h => absurd rfl h⟩, [], ⟨by decide, rfl⟩, ?_, trivial⟩
    simp -implicitDefEqProofs (maxSteps := 1000000) (disch := first | exact dz3 | fail) only [vcR, vcT, simprocAttr, Ab.part, implies_true, forall_const, vcS, vcXHb, Tryz.f12, renS_cons,renS_nil,ren_v,rowS_0]
    try simp
  · rintro ⟨k, c', sp⟩ us ⟨hk, hrow⟩
    simp only at hk hrow ⊢
    by_cases hki : k < n
    · obtain ⟨ad, rfl⟩ := hadr (by omega)
      have hx : ∀ {K : TV → HE → Prop}, xext (ctxE Tryz.prog (modEvo 135) w B) (some true) 4 (ad.add (k * 4)) K = K (.agg (nat4 (l k))) .none := fun {K} => hN.nat hki
      have e1 := gBase_e kg kx kq P Q G (l k) hG2 (hl k)
      have hfk : G ^ l k % P = f k := by rw [← hf]; rfl
      rw [hfk] at e1
      have hlk := hl k
      have hfk2 : f k < 2 ^ 256 := by rw [← hfk]; exact hOP.mod_lt
      clear hl hadr hf hfk
      by_cases h0 : k = 0
      · subst h0
        rw [rowH_0]
        (repeat' ((first | with_reducible (first | apply XR_append | apply XR_cons | apply XR_consG | apply XR_nil | apply cF_pure3 (by assumption) | apply cF_ev3 (by assumption)) | with_reducible (first | apply gRS (by with_unfolding_all rfl) | apply gR (by with_unfolding_all rfl) | apply gS (by with_unfolding_all rfl) | apply gSB (by with_unfolding_all rfl) | apply gB (by with_unfolding_all rfl) | fail) | refine X_of _ ?_ | with_reducible (first | exact ⟨_, rfl⟩ | refine And.intro ?_ ?_ | intro _)) <;> try simp -implicitDefEqProofs (maxSteps := 1000000) (disch := first | exact dz3 | fail) only [vcR, vcT, simprocAttr, Ab.part, implies_true, forall_const, vcS, vcXHb, Tryz.f12, st_bs,xbs_some,ghz1,gone_set,hx]))
        rw [rowS_0]
        refine xappend_nil_i (gnews_nat hszz rfl) (by decide) (gap_nat _ (by decide)) (by show ¬ (26 = 135); decide) fun tc tsp ht1 ht2 => ?_
        try simp -implicitDefEqProofs (maxSteps := 1000000) (disch := first | exact dz3 | fail) only [vcR, vcT, simprocAttr, Ab.part, implies_true, forall_const, vcS, vcXHb, Tryz.f12]
        rw [hszz] at ht2
        (repeat' ((first | with_reducible (first | apply XR_append | apply XR_cons | apply XR_consG | apply XR_nil | apply cF_pure3 (by assumption) | apply cF_ev3 (by assumption)) | with_reducible (first | apply gRS (by with_unfolding_all rfl) | apply gR (by with_unfolding_all rfl) | apply gS (by with_unfolding_all rfl) | apply gSB (by with_unfolding_all rfl) | apply gB (by with_unfolding_all rfl) | fail) | refine X_of _ ?_ | with_reducible (first | exact ⟨_, rfl⟩ | refine And.intro ?_ ?_ | intro _)) <;> try simp -implicitDefEqProofs (maxSteps := 1000000) (disch := first | exact dz3 | fail) only [vcR, vcT, simprocAttr, Ab.part, implies_true, forall_const, vcS, vcXHb, Tryz.f12]))
        refine ⟨(0 + 1, tc, tsp), by simp; omega, ⟨by simp; omega, fun _ => ⟨ht1, ht2⟩⟩, [2], ⟨by decide, rfl⟩, ?_, ?_⟩
        · have e2 : (rowS 0 (0 + 1) tc).ren (lk [2]) = .s (.sl 2 0 (0 + 1) tc) := by rw [ren_rowS, rowS_s (by omega)]; rfl
          simp -implicitDefEqProofs (maxSteps := 1000000) (disch := first | exact dz3 | fail) only [vcR, vcT, simprocAttr, Ab.part, implies_true, forall_const, vcS, vcXHb, Tryz.f12, renS_cons,renS_nil,ren_v,e2]
          try omega
        · simp only [rowH_s (show 0 + 1 ≠ 0 by omega)]
          refine ⟨?_, trivial⟩
          have h := nats_snoc (n := 0) (l := f)
          rw [nats_zero, List.nil_append] at h
          rw [← h]
          rfl
      · obtain ⟨hkc, hsp⟩ := hrow h0
        rw [rowH_s h0]
        (repeat' ((first | with_reducible (first | apply XR_append | apply XR_cons | apply XR_consG | apply XR_nil | apply cF_pure3 (by assumption) | apply cF_ev3 (by assumption)) | with_reducible (first | apply gRS (by with_unfolding_all rfl) | apply gR (by with_unfolding_all rfl) | apply gS (by with_unfolding_all rfl) | apply gSB (by with_unfolding_all rfl) | apply gB (by with_unfolding_all rfl) | fail) | refine X_of _ ?_ | with_reducible (first | exact ⟨_, rfl⟩ | refine And.intro ?_ ?_ | intro _)) <;> try simp -implicitDefEqProofs (maxSteps := 1000000) (disch := first | exact dz3 | fail) only [vcR, vcT, simprocAttr, Ab.part, implies_true, forall_const, vcS, vcXHb, Tryz.f12, st_bs,xbs_some,ghz1,gone_set,hx]))
        refine xappend_row (cs := nats k f) (sp := sp) (gnews_nat hszz rfl) (fun _ => ⟨rfl, hkc, by rw [hszz]; exact hsp⟩) (by rw [nats_length, hszz] <;> omega) (by rw [nat4_length, hszz]) (gap_nat _ (by omega)) (by rw [nat4_one]; trivial) (by show ¬ (26 = 135); decide) fun j' c'' sp' H' h1 h2 h3 h4 h5 h6 => ?_
        clear h4 h5 h6
        (repeat' ((first | with_reducible (first | apply XR_append | apply XR_cons | apply XR_consG | apply XR_nil | apply cF_pure3 (by assumption) | apply cF_ev3 (by assumption)) | with_reducible (first | apply gRS (by with_unfolding_all rfl) | apply gR (by with_unfolding_all rfl) | apply gS (by with_unfolding_all rfl) | apply gSB (by with_unfolding_all rfl) | apply gB (by with_unfolding_all rfl) | fail) | refine X_of _ ?_ | with_reducible (first | exact ⟨_, rfl⟩ | refine And.intro ?_ ?_ | intro _)) <;> try simp -implicitDefEqProofs (maxSteps := 1000000) (disch := first | exact dz3 | fail) only [vcR, vcT, simprocAttr, Ab.part, implies_true, forall_const, vcS, vcXHb, Tryz.f12]))
        refine ⟨(k + 1, c'', sp'), by simp; omega, ⟨by simp; omega, fun _ => ⟨h1, by rw [hszz] at h2; exact h2⟩⟩, [j'], ⟨by simp, rfl⟩, ?_, ?_⟩
        · have e2 : (rowS 0 (k + 1) c'').ren (lk [j']) = .s (.sl j' 0 (k + 1) c'') := by rw [ren_rowS, rowS_s (by omega)]; rfl
          simp -implicitDefEqProofs (maxSteps := 1000000) (disch := first | exact dz3 | fail) only [vcR, vcT, simprocAttr, Ab.part, implies_true, forall_const, vcS, vcXHb, Tryz.f12, renS_cons,renS_nil,ren_v,e2]
          try omega
        · simp only [rowH_s (show k + 1 ≠ 0 by omega)]
          refine ⟨?_, trivial⟩
          rw [h3, ← nats_snoc (n := k) (l := f)]
    · have : n = k := by omega
      subst this
      clear hki hk hadr hl
      by_cases h0 : n = 0
      · subst h0
        rw [rowH_0]
        (repeat' ((first | with_reducible (first | apply XR_append | apply XR_cons | apply XR_consG | apply XR_nil | apply cF_pure3 (by assumption) | apply cF_ev3 (by assumption)) | with_reducible (first | apply gRS (by with_unfolding_all rfl) | apply gR (by with_unfolding_all rfl) | apply gS (by with_unfolding_all rfl) | fail) | refine X_of _ ?_ | with_reducible (first | exact ⟨_, rfl⟩ | refine And.intro ?_ ?_ | intro _)) <;> try simp -implicitDefEqProofs (maxSteps := 1000000) (disch := first | exact dz3 | fail) only [vcR, vcT, simprocAttr, Ab.part, implies_true, forall_const, vcS, vcXHb, Tryz.f12, rowS_0]))
        exact gives_row0
      · rw [rowH_s h0]
        (repeat' ((first | with_reducible (first | apply XR_append | apply XR_cons | apply XR_consG | apply XR_nil | apply cF_pure3 (by assumption) | apply cF_ev3 (by assumption)) | with_reducible (first | apply gRS (by with_unfolding_all rfl) | apply gR (by with_unfolding_all rfl) | apply gS (by with_unfolding_all rfl) | fail) | refine X_of _ ?_ | with_reducible (first | exact ⟨_, rfl⟩ | refine And.intro ?_ ?_ | intro _)) <;> try simp -implicitDefEqProofs (maxSteps := 1000000) (disch := first | exact dz3 | fail) only [vcR, vcT, simprocAttr, Ab.part, implies_true, forall_const, vcS, vcXHb, Tryz.f12, rowS_s h0]))
        exact gives_row h0 (hrow h0) rfl
def pwN (Q a : Nat) : Nat → Nat
  | 0 => 1
  | i + 1 => pwN Q a i * a % Q
theorem pwN_lt {Q a : Nat} (h : OddM Q) : ∀ i, pwN Q a i < 2 ^ 256
  | 0 => by show 1 < 2 ^ 256; decide
  | i + 1 => h.mod_lt
def pwS (t c : Nat) : TV := if t = 0 then .s (.sl 1 0 1 1) else .s (.sl 2 0 (t + 1) c)
def pwH (t : Nat) (f : Nat → Nat) (sp : List Value) : Heap := if t = 0 then [] else [⟨26, nats (t + 1) f ++ sp.map .v⟩]
theorem pwS_0 {c : Nat} : pwS 0 c = .s (.sl 1 0 1 1) := rfl
theorem pwS_s {t c : Nat} (h : t ≠ 0) : pwS t c = .s (.sl 2 0 (t + 1) c) := if_neg h
theorem pwH_0 {f : Nat → Nat} {sp : List Value} : pwH 0 f sp = [] := rfl
theorem pwH_s {t : Nat} {f : Nat → Nat} {sp : List Value} (h : t ≠ 0) : pwH t f sp = [⟨26, nats (t + 1) f ++ sp.map .v⟩] := if_neg h
theorem nats_1 {f : Nat → Nat} : nats 1 f = nat4 (f 0) := by
  have h := nats_snoc (n := 0) (l := f)
  rw [nats_zero, List.nil_append] at h
  exact h.symm
def trH4n37x3 : Tr := (.cons 2 (.cons 3 (.cons 4 (.cons 5 (.cons 6 (.cons 7 (.cons 8 (.cons 9 (.cons 10 (.cons 11 (.cons 12 (.cons 13 .nil .nil) .nil) .nil) .nil) .nil) (.cons 9 (.cons 8 (.cons 10 (.cons 11 (.cons 12 (.cons 13 .nil .nil) .nil) .nil) .nil) .nil) .nil)) (.cons 9 (.cons 7 (.cons 8 (.cons 10 (.cons 11 (.cons 12 (.cons 13 .nil .nil) .nil) .nil) .nil) .nil) .nil) .nil)) (.cons 9 (.cons 6 (.cons 7 (.cons 8 (.cons 10 (.cons 11 (.cons 12 (.cons 13 .nil .nil) .nil) .nil) .nil) .nil) .nil) .nil) .nil)) (.cons 9 (.cons 5 (.cons 6 (.cons 7 (.cons 8 (.cons 10 (.cons 11 (.cons 12 (.cons 13 .nil .nil) .nil) .nil) .nil) .nil) .nil) .nil) .nil) .nil)) (.cons 9 (.cons 4 (.cons 5 (.cons 6 (.cons 7 (.cons 8 (.cons 10 (.cons 11 (.cons 12 (.cons 13 .nil .nil) .nil) .nil) .nil) .nil) .nil) .nil) .nil) .nil) .nil)) (.cons 4 (.cons 3 (.cons 5 (.cons 6 (.cons 7 (.cons 8 (.cons 9 (.cons 10 (.cons 11 (.cons 12 (.cons 13 .nil .nil) .nil) .nil) .nil) .nil) (.cons 9 (.cons 8 (.cons 10 (.cons 11 (.cons 12 (.cons 13 .nil .nil) .nil) .nil) .nil) .nil) .nil)) (.cons 9 (.cons 7 (.cons 8 (.cons 10 (.cons 11 (.cons 12 (.cons 13 .nil .nil) .nil) .nil) .nil) .nil) .nil) .nil)) (.cons 9 (.cons 6 (.cons 7 (.cons 8 (.cons 10 (.cons 11 (.cons 12 (.cons 13 .nil .nil) .nil) .nil) .nil) .nil) .nil) .nil) .nil)) (.cons 9 (.cons 5 (.cons 6 (.cons 7 (.cons 8 (.cons 10 (.cons 11 (.cons 12 (.cons 13 .nil .nil) .nil) .nil) .nil) .nil) .nil) .nil) .nil) .nil)) (.cons 5 (.cons 3 (.cons 6 (.cons 7 (.cons 8 (.cons 9 (.cons 10 (.cons 11 (.cons 12 (.cons 13 .nil .nil) .nil) .nil) .nil) .nil) (.cons 9 (.cons 8 (.cons 10 (.cons 11 (.cons 12 (.cons 13 .nil .nil) .nil) .nil) .nil) .nil) .nil)) (.cons 9 (.cons 7 (.cons 8 (.cons 10 (.cons 11 (.cons 12 (.cons 13 .nil .nil) .nil) .nil) .nil) .nil) .nil) .nil)) (.cons 9 (.cons 6 (.cons 7 (.cons 8 (.cons 10 (.cons 11 (.cons 12 (.cons 13 .nil .nil) .nil) .nil) .nil) .nil) .nil) .nil) .nil)) (.cons 6 (.cons 3 (.cons 7 (.cons 8 (.cons 9 (.cons 10 (.cons 11 (.cons 12 (.cons 13 .nil .nil) .nil) .nil) .nil) .nil) (.cons 9 (.cons 8 (.cons 10 (.cons 11 (.cons 12 (.cons 13 .nil .nil) .nil) .nil) .nil) .nil) .nil)) (.cons 9 (.cons 7 (.cons 8 (.cons 10 (.cons 11 (.cons 12 (.cons 13 .nil .nil) .nil) .nil) .nil) .nil) .nil) .nil)) (.cons 9 (.cons 3 (.cons 7 (.cons 8 (.cons 10 (.cons 11 (.cons 12 (.cons 13 .nil .nil) .nil) .nil) .nil) .nil) .nil) .nil) .nil)) (.cons 9 (.cons 3 (.cons 6 (.cons 7 (.cons 8 (.cons 10 (.cons 11 (.cons 12 (.cons 13 .nil .nil) .nil) .nil) .nil) .nil) .nil) .nil) (.cons 6 (.cons 3 (.cons 7 (.cons 8 (.cons 10 (.cons 11 (.cons 12 (.cons 13 .nil .nil) .nil) .nil) .nil) .nil) .nil) .nil) .nil)) .nil))) (.cons 9 (.cons 3 (.cons 5 (.cons 6 (.cons 7 (.cons 8 (.cons 10 (.cons 11 (.cons 12 (.cons 13 .nil .nil) .nil) .nil) .nil) .nil) .nil) .nil) .nil) (.cons 5 (.cons 3 (.cons 6 (.cons 7 (.cons 8 (.cons 10 (.cons 11 (.cons 12 (.cons 13 .nil .nil) .nil) .nil) .nil) .nil) .nil) .nil) (.cons 6 (.cons 3 (.cons 7 (.cons 8 (.cons 10 (.cons 11 (.cons 12 (.cons 13 .nil .nil) .nil) .nil) .nil) .nil) .nil) .nil) .nil)) .nil)) .nil))) (.cons 9 (.cons 3 (.cons 4 (.cons 5 (.cons 6 (.cons 7 (.cons 8 (.cons 10 (.cons 11 (.cons 12 (.cons 13 .nil .nil) .nil) .nil) .nil) .nil) .nil) .nil) .nil) .nil) (.cons 4 (.cons 3 (.cons 5 (.cons 6 (.cons 7 (.cons 8 (.cons 10 (.cons 11 (.cons 12 (.cons 13 .nil .nil) .nil) .nil) .nil) .nil) .nil) .nil) .nil) (.cons 5 (.cons 3 (.cons 6 (.cons 7 (.cons 8 (.cons 10 (.cons 11 (.cons 12 (.cons 13 .nil .nil) .nil) .nil) .nil) .nil) .nil) .nil) (.cons 6 (.cons 3 (.cons 7 (.cons 8 (.cons 10 (.cons 11 (.cons 12 (.cons 13 .nil .nil) .nil) .nil) .nil) .nil) .nil) .nil) .nil)) .nil)) .nil)) .nil))) (.cons 3 (.cons 2 (.cons 4 (.cons 5 (.cons 6 (.cons 7 (.cons 8 (.cons 9 (.cons 10 (.cons 11 (.cons 12 (.cons 13 .nil .nil) .nil) .nil) .nil) .nil) (.cons 9 (.cons 8 (.cons 10 (.cons 11 (.cons 12 (.cons 13 .nil .nil) .nil) .nil) .nil) .nil) .nil)) (.cons 9 (.cons 7 (.cons 8 (.cons 10 (.cons 11 (.cons 12 (.cons 13 .nil .nil) .nil) .nil) .nil) .nil) .nil) .nil)) (.cons 9 (.cons 6 (.cons 7 (.cons 8 (.cons 10 (.cons 11 (.cons 12 (.cons 13 .nil .nil) .nil) .nil) .nil) .nil) .nil) .nil) .nil)) (.cons 9 (.cons 5 (.cons 6 (.cons 7 (.cons 8 (.cons 10 (.cons 11 (.cons 12 (.cons 13 .nil .nil) .nil) .nil) .nil) .nil) .nil) .nil) .nil) .nil)) (.cons 9 (.cons 4 (.cons 5 (.cons 6 (.cons 7 (.cons 8 (.cons 10 (.cons 11 (.cons 12 (.cons 13 .nil .nil) .nil) .nil) .nil) .nil) .nil) .nil) .nil) .nil) .nil)) (.cons 4 (.cons 2 (.cons 5 (.cons 6 (.cons 7 (.cons 8 (.cons 9 (.cons 10 (.cons 11 (.cons 12 (.cons 13 .nil .nil) .nil) .nil) .nil) .nil) (.cons 9 (.cons 8 (.cons 10 (.cons 11 (.cons 12 (.cons 13 .nil .nil) .nil) .nil) .nil) .nil) .nil)) (.cons 9 (.cons 7 (.cons 8 (.cons 10 (.cons 11 (.cons 12 (.cons 13 .nil .nil) .nil) .nil) .nil) .nil) .nil) .nil)) (.cons 9 (.cons 6 (.cons 7 (.cons 8 (.cons 10 (.cons 11 (.cons 12 (.cons 13 .nil .nil) .nil) .nil) .nil) .nil) .nil) .nil) .nil)) (.cons 9 (.cons 5 (.cons 6 (.cons 7 (.cons 8 (.cons 10 (.cons 11 (.cons 12 (.cons 13 .nil .nil) .nil) .nil) .nil) .nil) .nil) .nil) .nil) .nil)) (.cons 5 (.cons 2 (.cons 6 (.cons 7 (.cons 8 (.cons 9 (.cons 10 (.cons 11 (.cons 12 (.cons 13 .nil .nil) .nil) .nil) .nil) .nil) (.cons 9 (.cons 8 (.cons 10 (.cons 11 (.cons 12 (.cons 13 .nil .nil) .nil) .nil) .nil) .nil) .nil)) (.cons 9 (.cons 7 (.cons 8 (.cons 10 (.cons 11 (.cons 12 (.cons 13 .nil .nil) .nil) .nil) .nil) .nil) .nil) .nil)) (.cons 9 (.cons 6 (.cons 7 (.cons 8 (.cons 10 (.cons 11 (.cons 12 (.cons 13 .nil .nil) .nil) .nil) .nil) .nil) .nil) .nil) .nil)) (.cons 6 (.cons 2 (.cons 7 (.cons 8 (.cons 9 (.cons 10 (.cons 11 (.cons 12 (.cons 13 .nil .nil) .nil) .nil) .nil) .nil) (.cons 9 (.cons 8 (.cons 10 (.cons 11 (.cons 12 (.cons 13 .nil .nil) .nil) .nil) .nil) .nil) .nil)) (.cons 9 (.cons 7 (.cons 8 (.cons 10 (.cons 11 (.cons 12 (.cons 13 .nil .nil) .nil) .nil) .nil) .nil) .nil) .nil)) (.cons 7 (.cons 2 (.cons 8 (.cons 9 (.cons 10 (.cons 11 (.cons 12 (.cons 13 .nil .nil) .nil) .nil) .nil) .nil) (.cons 9 (.cons 8 (.cons 10 (.cons 11 (.cons 12 (.cons 13 .nil .nil) .nil) .nil) .nil) .nil) .nil)) (.cons 8 (.cons 2 (.cons 9 (.cons 10 (.cons 11 (.cons 12 (.cons 13 .nil .nil) .nil) .nil) .nil) .nil) (.cons 9 (.cons 2 (.cons 10 (.cons 11 (.cons 12 (.cons 13 .nil .nil) .nil) .nil) .nil) .nil) .nil)) (.cons 9 (.cons 2 (.cons 8 (.cons 10 (.cons 11 (.cons 12 (.cons 13 .nil .nil) .nil) .nil) .nil) .nil) (.cons 8 (.cons 2 (.cons 10 (.cons 11 (.cons 12 (.cons 13 .nil .nil) .nil) .nil) .nil) .nil) .nil)) .nil))) (.cons 9 (.cons 2 (.cons 7 (.cons 8 (.cons 10 (.cons 11 (.cons 12 (.cons 13 .nil .nil) .nil) .nil) .nil) .nil) .nil) (.cons 7 (.cons 2 (.cons 8 (.cons 10 (.cons 11 (.cons 12 (.cons 13 .nil .nil) .nil) .nil) .nil) .nil) (.cons 8 (.cons 2 (.cons 10 (.cons 11 (.cons 12 (.cons 13 .nil .nil) .nil) .nil) .nil) .nil) .nil)) .nil)) .nil))) (.cons 9 (.cons 2 (.cons 6 (.cons 7 (.cons 8 (.cons 10 (.cons 11 (.cons 12 (.cons 13 .nil .nil) .nil) .nil) .nil) .nil) .nil) .nil) (.cons 6 (.cons 2 (.cons 7 (.cons 8 (.cons 10 (.cons 11 (.cons 12 (.cons 13 .nil .nil) .nil) .nil) .nil) .nil) .nil) (.cons 7 (.cons 2 (.cons 8 (.cons 10 (.cons 11 (.cons 12 (.cons 13 .nil .nil) .nil) .nil) .nil) .nil) (.cons 8 (.cons 2 (.cons 10 (.cons 11 (.cons 12 (.cons 13 .nil .nil) .nil) .nil) .nil) .nil) .nil)) .nil)) .nil)) .nil))) (.cons 9 (.cons 2 (.cons 5 (.cons 6 (.cons 7 (.cons 8 (.cons 10 (.cons 11 (.cons 12 (.cons 13 .nil .nil) .nil) .nil) .nil) .nil) .nil) .nil) .nil) (.cons 5 (.cons 2 (.cons 6 (.cons 7 (.cons 8 (.cons 10 (.cons 11 (.cons 12 (.cons 13 .nil .nil) .nil) .nil) .nil) .nil) .nil) .nil) .nil) .nil)) .nil))) .nil)) .nil))
theorem powers_n (kg kx kq P Q G a n : Nat) (ha : a < 2 ^ 256) (hn1 : 1 ≤ n) (hn : n ≤ 1000) :
    EvN (modEvo 135) Tryz.prog 37 [.s (.v (.pointer (some ⟨kg, 0, none⟩))), .agg (nat4 a), .s (.v (.int .i64 (n : Int)))] (fun B w => GK kg kx kq P Q G B w) (rowR n (pwN Q a)) := by
  (refine evN_of Tryz.func37 rfl (by simp only [List.length_cons, List.length_nil, List.map_cons, List.map_nil, List.nodup_cons, List.nodup_nil, List.mem_cons, Nat.reduceAdd, Nat.reduceEqDiff, or_false, not_false_eq_true, forall_eq_or_imp, forall_eq, or_self, Nat.reduceLT, Nat.reduceLeDiff, and_self, List.forall_mem_cons, List.not_mem_nil, false_implies, implies_true, and_true, true_and, vcOHb]) fun B w hpre => ?_; simp only [List.length_cons, List.length_nil, Tryz.ntmps37, Nat.reduceAdd, Nat.reduceSub, List.replicate_succ, List.replicate_zero, List.cons_append, List.nil_append])
  have hG := Kn.entry (P := Tryz.prog) (isGrp_stays 135 kg kx kq P Q G) hpre
  obtain ⟨hOP, hOQ⟩ := hG.gOdd
  have hMQ : Kn (ctxE Tryz.prog (modEvo 135) w B) (isMod 135 kq Q) := hG.gmq
  have e1 := gQ_e kg kx kq P Q G
  clear hpre
  have hft : ∀ i, pwN Q a (i + 1) = pwN Q a i * a % Q := fun i => rfl
  have hlt := fun i => pwN_lt (a := a) hOQ i
  have hf0 : pwN Q a 0 = 1 := rfl
  obtain ⟨f, hf⟩ : ∃ f, pwN Q a = f := ⟨_, rfl⟩
  rw [hf] at hf0 hft hlt ⊢
  clear hf
  have hszz : sz (ctxE Tryz.prog (modEvo 135) w B).P 26 = 4 := gsz_nat
  (repeat' ((first | with_reducible (first | apply XR_append | apply XR_cons | apply XR_consG | apply XR_nil | apply XM_cons | apply XM_consG | apply XM_nil | apply cF_pure3 (by assumption) | apply cM_pure3 (by assumption) | apply cF_ev3 (by assumption) | apply cM_ev3 (by assumption) | apply cF_ev3 (times_e _ _ _ _ bd3 bd3 bd3) | apply cM_ev3 (times_e _ _ _ _ bd3 bd3 bd3)) | (with_reducible apply X_drawM (id := 3) 2 [] trH4n37x3; (next => (kernel_rfl)); (next => (kernel_rfl))) | refine X_of _ ?_ | with_reducible (first | exact ⟨_, rfl⟩ | refine And.intro ?_ ?_ | intro _)) <;> try simp -implicitDefEqProofs (maxSteps := 1000000) (disch := first | exact dz3 | fail) only [vcR, vcT, simprocAttr, Ab.part, implies_true, forall_const, vcS, vcXHb, Tryz.f37, st_bs,xbs_some,ghz1,gone_set, trH4n37x3]))
  refine X_loopT (ι := Nat × Nat × List Value) (fun k => k.1 + 1 ≤ n ∧ (k.1 ≠ 0 → k.1 + 1 ≤ k.2.1 ∧ k.2.2.length = (k.2.1 - (k.1 + 1)) * 4)) (fun k => n - k.1) [7, 10, 11, 12, 13, 14, 15, 16, 17, 18, 19, 20, 21, 22, 23, 24, 25, 26]
    (fun k => [(7, pwS k.1 k.2.1)])
    (fun k => ⟨26, nat4 a⟩ :: ⟨26, nat4 1⟩ :: pwH k.1 f k.2.2) (0, 1, []) ?_ (by decide) ?_ ?_
  · rintro ⟨t, c', sp⟩ ⟨ht, _⟩
    refine ⟨by simp, ?_, by simp, ?_⟩
    · simp only [List.forall_mem_cons]
      refine ⟨?_, fun x hx => by simp at hx⟩
      by_cases h0 : t = 0
      · subst h0; rw [pwS_0, pwH_0]; exact Nat.lt_succ_self 1
      · rw [pwS_s h0, pwH_s h0]; exact Nat.lt_succ_self 2
    · simp only [List.forall_mem_cons]
      refine ⟨arr_ok _, arr_ok _, ?_⟩
      by_cases h0 : t = 0
      · subst h0; rw [pwH_0]; intro b hb; cases hb
      · rw [pwH_s h0, ← rowH_s (e := 26) (n := t + 1) (by omega)]
        exact row_okG (nats_ok _)
  · refine ⟨⟨hn1, fun h => absurd rfl h⟩, [0, 1], ⟨by decide, rfl⟩, ?_, rfl, rfl, trivial⟩
    simp -implicitDefEqProofs (maxSteps := 1000000) (disch := first | exact dz3 | fail) only [vcR, vcT, simprocAttr, Ab.part, implies_true, forall_const, vcS, vcXHb, Tryz.f37, renS_cons,renS_nil,ren_v,pwS_0]
    try rfl
  · rintro ⟨t, c', sp⟩ us ⟨ht, hrow⟩
    simp only at ht hrow ⊢
    by_cases hki : t + 1 < n
    · have e2 := times_e kq Q (f t) a hOQ (hlt _) ha
      rw [← hft] at e2
      have hb1 := hlt t
      have hb2 := hlt (t + 1)
      by_cases h0 : t = 0
      · subst h0
        rw [pwH_0]
        rw [hf0] at e2 hb1
        have h1n : (1 : Int) < (n : Int) := by omega
        clear hft hlt
        (repeat' ((first | with_reducible (first | apply XQ_cons | apply XQ_consG | apply XQ_nil | apply XR_append | apply XR_cons | apply XR_consG | apply XR_nil | apply cF_pure3 (by assumption) | apply cV_pure3 (by assumption) | apply cF_ev3 (by assumption) | apply cV_ev3 (by assumption) | apply cF_ev3 (times_e _ _ _ _ bd3 bd3 bd3) | apply cV_ev3 (times_e _ _ _ _ bd3 bd3 bd3)) | (with_reducible apply X_drawC (id := 3) 11; (next => (kernel_rfl)); (next => (kernel_rfl))) | refine X_of _ ?_ | with_reducible (first | exact ⟨_, rfl⟩ | refine And.intro ?_ ?_ | intro _)) <;> try simp -implicitDefEqProofs (maxSteps := 1000000) (disch := first | exact dz3 | fail) only [vcR, vcT, simprocAttr, Ab.part, implies_true, forall_const, vcS, vcXHb, Tryz.f37, st_bs,xbs_some,ghz1,gone_set,pwS_0,h1n]))
        refine xappend_row2 (j := 1) (n := 1) (c := 1) (cs := nat4 1) (sp := []) (gnews_nat hszz rfl) (by decide) (by rfl) (by decide) rfl (by rw [nat4_length, hszz]) (by rw [nat4_length, hszz]) (gap_nat _ (by decide)) (by rw [nat4_one]; trivial) (by show ¬ (26 = 135); decide) (fun tsp ht1 ht2 => by omega) fun tc tsp ht1 ht2 => ?_
        try simp -implicitDefEqProofs (maxSteps := 1000000) (disch := first | exact dz3 | fail) only [vcR, vcT, simprocAttr, Ab.part, implies_true, forall_const, vcS, vcXHb, Tryz.f37]
        rw [hszz] at ht2
        (repeat' ((first | with_reducible (first | apply XQ_cons | apply XQ_consG | apply XQ_nil | apply XR_append | apply XR_cons | apply XR_consG | apply XR_nil | apply cF_pure3 (by assumption) | apply cV_pure3 (by assumption) | apply cF_ev3 (by assumption) | apply cV_ev3 (by assumption) | apply cF_ev3 (times_e _ _ _ _ bd3 bd3 bd3) | apply cV_ev3 (times_e _ _ _ _ bd3 bd3 bd3)) | (with_reducible apply X_drawC (id := 3) 11; (next => (kernel_rfl)); (next => (kernel_rfl))) | refine X_of _ ?_ | with_reducible (first | exact ⟨_, rfl⟩ | refine And.intro ?_ ?_ | intro _)) <;> try simp -implicitDefEqProofs (maxSteps := 1000000) (disch := first | exact dz3 | fail) only [vcR, vcT, simprocAttr, Ab.part, implies_true, forall_const, vcS, vcXHb, Tryz.f37, st_bs,xbs_some,ghz1,gone_set]))
        refine ⟨(0 + 1, tc, tsp), by simp; omega, ⟨by simp; omega, fun _ => ⟨ht1, ht2⟩⟩, [0, 1, 3], ⟨by decide, rfl⟩, ?_, ?_⟩
        · have e3 : (pwS (0 + 1) tc).ren (lk [0, 1, 3]) = .s (.sl 3 0 (1 + 1) tc) := by rw [pwS_s (by omega)]; rfl
          simp -implicitDefEqProofs (maxSteps := 1000000) (disch := first | exact dz3 | fail) only [vcR, vcT, simprocAttr, Ab.part, implies_true, forall_const, vcS, vcXHb, Tryz.f37, renS_cons,renS_nil,ren_v,e3]
          try omega
        · simp only [pwH_s (show 0 + 1 ≠ 0 by omega)]
          refine ⟨rfl, rfl, ?_, trivial⟩
          rw [← nats_snoc (n := 0 + 1) (l := f), show nats (0 + 1) f = nat4 1 by rw [show 0 + 1 = 1 from rfl, nats_1, hf0]]
          rfl
      · obtain ⟨hkc, hsp⟩ := hrow h0
        rw [pwH_s h0]
        have htn : ((t : Int) + 1) < (n : Int) := by omega
        have hpt : Ab.part (nats (t + 1) f ++ sp.map SV.v) (t * 4) 4 = nat4 (f t) := nats_part (by omega)
        unfold Ab.part at hpt
        have hlen : t * 4 + 4 ≤ (nats (t + 1) f ++ List.map SV.v sp).length := by rw [List.length_append, nats_length]; omega
        have ht1 : t + 1 - 1 = t := by omega
        clear hft hlt hf0
        (repeat' ((first | with_reducible (first | apply XQ_cons | apply XQ_consG | apply XQ_nil | apply XR_append | apply XR_cons | apply XR_consG | apply XR_nil | apply cF_pure3 (by assumption) | apply cV_pure3 (by assumption) | apply cF_ev3 (by assumption) | apply cV_ev3 (by assumption) | apply cF_ev3 (times_e _ _ _ _ bd3 bd3 bd3) | apply cV_ev3 (times_e _ _ _ _ bd3 bd3 bd3)) | (with_reducible apply X_drawC (id := 3) 11; (next => (kernel_rfl)); (next => (kernel_rfl))) | refine X_of _ ?_ | with_reducible (first | exact ⟨_, rfl⟩ | refine And.intro ?_ ?_ | intro _)) <;> try simp -implicitDefEqProofs (maxSteps := 1000000) (disch := first | exact dz3 | fail) only [vcR, vcT, simprocAttr, Ab.part, implies_true, forall_const, vcS, vcXHb, Tryz.f37, st_bs,xbs_some,ghz1,gone_set,pwS_s h0,hpt,hlen,htn,ht1]))
        rw [← rowS_s (j := 2) (n := t + 1) (c := c') (by omega)]
        refine xappend_row (cs := nats (t + 1) f) (sp := sp) (gnews_nat hszz rfl) (fun _ => ⟨rfl, hkc, by rw [hszz]; exact hsp⟩) (by rw [nats_length, hszz] <;> omega) (by rw [nat4_length, hszz]) (gap_nat _ (by omega)) (by rw [nat4_one]; trivial) (by show ¬ (26 = 135); decide) fun j' c'' sp' H' h1 h2 h3 h4 h5 h6 => ?_
        have hj0 : j' ≠ 0 ∧ j' ≠ 1 := by
          rcases h4 with ⟨_, h⟩ | h
          · omega
          · simp only [List.length_cons, List.length_nil, Nat.reduceAdd] at h; omega
        have hH0 := h5 0 (by simp) (by decide)
        have hH1 := h5 1 (by simp) (by decide)
        clear h4 h5 h6
        (repeat' ((first | with_reducible (first | apply XR_append | apply XR_cons | apply XR_consG | apply XR_nil | apply XM_cons | apply XM_consG | apply XM_nil | apply cF_pure3 (by assumption) | apply cM_pure3 (by assumption) | apply cF_ev3 (by assumption) | apply cM_ev3 (by assumption) | apply cF_ev3 (times_e _ _ _ _ bd3 bd3 bd3) | apply cM_ev3 (times_e _ _ _ _ bd3 bd3 bd3)) | (with_reducible apply X_drawM (id := 3) 2 [] trH4n37x3; (next => (kernel_rfl)); (next => (kernel_rfl))) | refine X_of _ ?_ | with_reducible (first | exact ⟨_, rfl⟩ | refine And.intro ?_ ?_ | intro _)) <;> try simp -implicitDefEqProofs (maxSteps := 1000000) (disch := first | exact dz3 | fail) only [vcR, vcT, simprocAttr, Ab.part, implies_true, forall_const, vcS, vcXHb, Tryz.f37, trH4n37x3]))
        refine ⟨(t + 1, c'', sp'), by simp; omega, ⟨by simp; omega, fun _ => ⟨h1, by rw [hszz] at h2; exact h2⟩⟩, [0, 1, j'], ⟨by simp; omega, rfl⟩, ?_, ?_⟩
        · have e3 : (pwS (t + 1) c'').ren (lk [0, 1, j']) = .s (.sl j' 0 (t + 1 + 1) c'') := by rw [pwS_s (by omega)]; rfl
          simp -implicitDefEqProofs (maxSteps := 1000000) (disch := first | exact dz3 | fail) only [vcR, vcT, simprocAttr, Ab.part, implies_true, forall_const, vcS, vcXHb, Tryz.f37, renS_cons,renS_nil,ren_v,e3]
          try omega
        · simp only [pwH_s (show t + 1 ≠ 0 by omega)]
          refine ⟨hH0.trans rfl, hH1.trans rfl, ?_, trivial⟩
          rw [h3, ← nats_snoc (n := t + 1) (l := f)]
    · have hnt : n = t + 1 := by omega
      subst hnt
      clear hki hft hlt
      by_cases h0 : t = 0
      · subst h0
        rw [pwH_0]
        (repeat' ((first | with_reducible (first | apply XR_append | apply XR_cons | apply XR_consG | apply XR_nil | apply XM_cons | apply XM_consG | apply XM_nil | apply cF_pure3 (by assumption) | apply cM_pure3 (by assumption) | apply cF_ev3 (by assumption) | apply cM_ev3 (by assumption) | apply cF_ev3 (times_e _ _ _ _ bd3 bd3 bd3) | apply cM_ev3 (times_e _ _ _ _ bd3 bd3 bd3)) | (with_reducible apply X_drawM (id := 3) 2 [] trH4n37x3; (next => (kernel_rfl)); (next => (kernel_rfl))) | refine X_of _ ?_ | with_reducible (first | exact ⟨_, rfl⟩ | refine And.intro ?_ ?_ | intro _)) <;> try simp -implicitDefEqProofs (maxSteps := 1000000) (disch := first | exact dz3 | fail) only [vcR, vcT, simprocAttr, Ab.part, implies_true, forall_const, vcS, vcXHb, Tryz.f37, pwS_0, trH4n37x3]))
        refine gives_row (n := 0 + 1) (c := 1) (j := 1) (sp := []) (by decide) ⟨by decide, rfl⟩ ?_
        rw [show nats (0 + 1) f = nat4 1 by rw [show 0 + 1 = 1 from rfl, nats_1, hf0]]
        rfl
      · rw [pwH_s h0]
        (repeat' ((first | with_reducible (first | apply XR_append | apply XR_cons | apply XR_consG | apply XR_nil | apply XM_cons | apply XM_consG | apply XM_nil | apply cF_pure3 (by assumption) | apply cM_pure3 (by assumption) | apply cF_ev3 (by assumption) | apply cM_ev3 (by assumption) | apply cF_ev3 (times_e _ _ _ _ bd3 bd3 bd3) | apply cM_ev3 (times_e _ _ _ _ bd3 bd3 bd3)) | (with_reducible apply X_drawM (id := 3) 2 [] trH4n37x3; (next => (kernel_rfl)); (next => (kernel_rfl))) | refine X_of _ ?_ | with_reducible (first | exact ⟨_, rfl⟩ | refine And.intro ?_ ?_ | intro _)) <;> try simp -implicitDefEqProofs (maxSteps := 1000000) (disch := first | exact dz3 | fail) only [vcR, vcT, simprocAttr, Ab.part, implies_true, forall_const, vcS, vcXHb, Tryz.f37, pwS_s h0, trH4n37x3]))
        exact gives_row (by omega) (hrow h0) rfl
def pieceG (s : Int) (a : Nat) (j : Nat) : Value := if j = 0 then .int .i64 s else .int .u64 (wd a (j - 1) : Int)
def r1B (Q n : Nat) (s : Int) : Bool := decide (1 ≤ n) && decide (n ≤ 20) && decide (0 ≤ s) && decide (s < 40) && decide (placeN s < Q)
def boxesAt (jg jc jp k : Nat) (x : Option Addr) (n c : Nat) (s : Int) (a : Nat) : Nat → World → Prop := fun B w =>
  cellAt (modEvo 135) jg (.pointer (some ⟨k, 0, none⟩)) B w ∧ cellAt (modEvo 135) jc (.slice x n c) B w ∧ cellsAt (modEvo 135) ⟨jp, 0, none⟩ 5 (pieceG s a) B w
theorem boxesAt_stays (jg jc jp k : Nat) (x : Option Addr) (n c : Nat) (s : Int) (a : Nat) : Stays (modEvo 135) (boxesAt jg jc jp k x n c s a) := (cellAt_stays _ _ _).and ((cellAt_stays _ _ _).and (cellsAt_stays _ _ _ _))
section
variable {Γ : Ctx} {jg jc jp k : Nat} {x : Option Addr} {n c : Nat} {s : Int} {a : Nat} {K : TV → HE → Prop}
theorem Kn.bxg (h : Kn Γ (boxesAt jg jc jp k x n c s a)) {q : Nat} : xext Γ (some false) q ⟨jg, 0, none⟩ K = K (.s (.v (.pointer (some ⟨k, 0, none⟩)))) .none := Kn.cell1 (fun w hw => (h w hw).1)
theorem Kn.bxc (h : Kn Γ (boxesAt jg jc jp k x n c s a)) {q : Nat} : xext Γ (some false) q ⟨jc, 0, none⟩ K = K (.s (.v (.slice x n c))) .none := Kn.cell1 (fun w hw => (h w hw).2.1)
theorem Kn.bxs (h : Kn Γ (boxesAt jg jc jp k x n c s a)) {q : Nat} : xext Γ (some false) q ⟨jp, 0, none⟩ K = K (.s (.v (.int .i64 s))) .none := by
  have h1 := Kn.cell (ad := ⟨jp, 0, none⟩) (fun w hw => (h w hw).2.2) (i := 0) (by decide)
  rw [addr_add] at h1
  exact xext_eq h1
theorem Kn.bxa (h : Kn Γ (boxesAt jg jc jp k x n c s a)) : xext Γ (some true) 4 ⟨jp, 1, none⟩ K = K (.agg (nat4 a)) .none := by
  have h1 := xext_cells (K := K) (fun w hw => (h w hw).2.2) (k := 1) (q := 4) (by decide)
  rw [addr_add] at h1
  exact h1
end
theorem right1_e (jg jc jp k kx kq P Q G : Nat) (x : Option Addr) (n c : Nat) (s : Int) (a : Nat) (hs1 : -9223372036854775808 ≤ s) (hs2 : s ≤ 9223372036854775807) :
    EvC (modEvo 135) Tryz.prog 34 [.s (.v (.pointer (some ⟨jc, 0, none⟩))), .s (.v (.pointer (some ⟨jp, 0, none⟩))), .s (.v (.pointer (some ⟨jg, 0, none⟩)))] (fun B w => GK k kx kq P Q G B w ∧ boxesAt jg jc jp k x n c s a B w)
      (.s (.v (.int .i64 (if r1B Q n s then 0 else 1)))) := by
  (refine evC_of Tryz.func34 rfl (by simp only [List.length_cons, List.length_nil, List.map_cons, List.map_nil, List.nodup_cons, List.nodup_nil, List.mem_cons, Nat.reduceAdd, Nat.reduceEqDiff, or_false, not_false_eq_true, forall_eq_or_imp, forall_eq, or_self, Nat.reduceLT, Nat.reduceLeDiff, and_self, List.forall_mem_cons, List.not_mem_nil, false_implies, implies_true, and_true, true_and, vcOHb]) (by simp only [List.length_cons, List.length_nil, List.map_cons, List.map_nil, List.nodup_cons, List.nodup_nil, List.mem_cons, Nat.reduceAdd, Nat.reduceEqDiff, or_false, not_false_eq_true, forall_eq_or_imp, forall_eq, or_self, Nat.reduceLT, Nat.reduceLeDiff, and_self, List.forall_mem_cons, List.not_mem_nil, false_implies, implies_true, and_true, true_and, vcOHb]) fun B w hpre => ?_; simp only [List.length_cons, List.length_nil, Tryz.ntmps34, Nat.reduceAdd, Nat.reduceSub, List.replicate_succ, List.replicate_zero, List.cons_append, List.nil_append])
  have h0 := Kn.entry (P := Tryz.prog) ((isGrp_stays 135 k kx kq P Q G).and (boxesAt_stays jg jc jp k x n c s a)) hpre
  have hG := h0.left
  have hb := h0.right
  have g1 : ∀ {K : TV → HE → Prop} {q : Nat}, xext (ctxE Tryz.prog (modEvo 135) w B) (some false) q ⟨jg, 0, none⟩ K = K (.s (.v (.pointer (some ⟨k, 0, none⟩)))) .none := fun {K} => Kn.bxg hb
  have g2 : ∀ {K : TV → HE → Prop} {q : Nat}, xext (ctxE Tryz.prog (modEvo 135) w B) (some false) q ⟨jc, 0, none⟩ K = K (.s (.v (.slice x n c))) .none := fun {K} => Kn.bxc hb
  have g3 : ∀ {K : TV → HE → Prop} {q : Nat}, xext (ctxE Tryz.prog (modEvo 135) w B) (some false) q ⟨jp, 0, none⟩ K = K (.s (.v (.int .i64 s))) .none := fun {K} => Kn.bxs hb
  clear hpre h0 hb
  have e1 := few_c (n : Int)
  have hE : r1B Q n s = (decide (1 ≤ n) && decide (n ≤ 20) && decide (0 ≤ s) && decide (s < 40) && decide (placeN s < Q)) := rfl
  obtain ⟨r, hr⟩ : ∃ r, r1B Q n s = r := ⟨_, rfl⟩
  rw [hr] at hE ⊢
  clear hr
  by_cases c1 : 1 ≤ n ∧ n ≤ 20
  · rw [decide_eq_true c1.1, decide_eq_true c1.2, Bool.true_and, Bool.true_and] at hE
    rw [decide_eq_true (show (n : Int) ≥ 1 by omega), decide_eq_true (show (n : Int) ≤ 20 by omega), Bool.and_self] at e1
    by_cases c2 : s < 0
    · rw [decide_eq_false (show ¬ 0 ≤ s by omega), Bool.false_and, Bool.false_and] at hE
      subst hE
      (repeat' ((first | with_reducible (first | apply XQ_cons | apply XQ_consG | apply XQ_nil | apply XR_cons | apply XR_consG | apply XR_nil | apply cF_pure3 (by assumption) | apply cV_pure3 (by assumption) | apply cF_ev3 (by assumption) | apply cV_ev3 (by assumption)) | (with_reducible apply X_drawC (id := 1) 22; (next => (kernel_rfl)); (next => (kernel_rfl))) | refine X_of _ ?_ | with_reducible (first | exact ⟨_, rfl⟩ | refine And.intro ?_ ?_ | intro _)) <;> try simp -implicitDefEqProofs (maxSteps := 1000000) (disch := first | exact dz3 | fail) only [vcR, vcT, simprocAttr, Ab.part, implies_true, forall_const, vcS, vcXHb, Tryz.f34, g1,g2,g3,c2,addr_add]))
      all_goals rfl
    · by_cases c3 : s < 40
      · rw [decide_eq_true (show 0 ≤ s by omega), decide_eq_true c3, Bool.true_and, Bool.true_and] at hE
        have c4 : ¬ s ≥ 40 := by omega
        have e2 := place_c s (by omega) (by omega)
        have e3 := below_e k kx kq P Q G (placeN s) (by unfold placeN; omega)
        rw [← hE] at e3
        clear hE
        obtain ⟨p, hp⟩ : ∃ p, placeN s = p := ⟨_, rfl⟩
        rw [hp] at e2 e3
        cases r with
        | true =>
          (repeat' ((first | with_reducible (first | apply XQ_cons | apply XQ_consG | apply XQ_nil | apply XR_cons | apply XR_consG | apply XR_nil | apply cF_pure3 (by assumption) | apply cV_pure3 (by assumption) | apply cF_ev3 (by assumption) | apply cV_ev3 (by assumption)) | (with_reducible apply X_drawC (id := 1) 22; (next => (kernel_rfl)); (next => (kernel_rfl))) | refine X_of _ ?_ | with_reducible (first | exact ⟨_, rfl⟩ | refine And.intro ?_ ?_ | intro _)) <;> try simp -implicitDefEqProofs (maxSteps := 1000000) (disch := first | exact dz3 | fail) only [vcR, vcT, simprocAttr, Ab.part, implies_true, forall_const, vcS, vcXHb, Tryz.f34, g1,g2,g3,c2,c4,addr_add]))
          all_goals rfl
        | false =>
          (repeat' ((first | with_reducible (first | apply XQ_cons | apply XQ_consG | apply XQ_nil | apply XR_cons | apply XR_consG | apply XR_nil | apply cF_pure3 (by assumption) | apply cV_pure3 (by assumption) | apply cF_ev3 (by assumption) | apply cV_ev3 (by assumption)) | (with_reducible apply X_drawC (id := 1) 22; (next => (kernel_rfl)); (next => (kernel_rfl))) | refine X_of _ ?_ | with_reducible (first | exact ⟨_, rfl⟩ | refine And.intro ?_ ?_ | intro _)) <;> try simp -implicitDefEqProofs (maxSteps := 1000000) (disch := first | exact dz3 | fail) only [vcR, vcT, simprocAttr, Ab.part, implies_true, forall_const, vcS, vcXHb, Tryz.f34, g1,g2,g3,c2,c4,addr_add]))
          all_goals rfl
      · rw [decide_eq_true (show 0 ≤ s by omega), decide_eq_false c3, Bool.true_and, Bool.false_and] at hE
        subst hE
        have c4 : s ≥ 40 := by omega
        (repeat' ((first | with_reducible (first | apply XQ_cons | apply XQ_consG | apply XQ_nil | apply XR_cons | apply XR_consG | apply XR_nil | apply cF_pure3 (by assumption) | apply cV_pure3 (by assumption) | apply cF_ev3 (by assumption) | apply cV_ev3 (by assumption)) | (with_reducible apply X_drawC (id := 1) 22; (next => (kernel_rfl)); (next => (kernel_rfl))) | refine X_of _ ?_ | with_reducible (first | exact ⟨_, rfl⟩ | refine And.intro ?_ ?_ | intro _)) <;> try simp -implicitDefEqProofs (maxSteps := 1000000) (disch := first | exact dz3 | fail) only [vcR, vcT, simprocAttr, Ab.part, implies_true, forall_const, vcS, vcXHb, Tryz.f34, g1,g2,g3,c2,c4,addr_add]))
        all_goals rfl
  · have hf : (decide ((n : Int) ≥ 1) && decide ((n : Int) ≤ 20)) = false := by
      cases h : (decide ((n : Int) ≥ 1) && decide ((n : Int) ≤ 20)) with
      | false => rfl
      | true =>
        obtain ⟨h1, h2⟩ := Bool.and_eq_true_iff.1 h
        have h3 := of_decide_eq_true h1
        have h4 := of_decide_eq_true h2
        exact absurd ⟨by omega, by omega⟩ c1
    have hf2 : (decide (1 ≤ n) && decide (n ≤ 20)) = false := by
      cases h : (decide (1 ≤ n) && decide (n ≤ 20)) with
      | false => rfl
      | true =>
        obtain ⟨h1, h2⟩ := Bool.and_eq_true_iff.1 h
        exact absurd ⟨of_decide_eq_true h1, of_decide_eq_true h2⟩ c1
    rw [hf] at e1
    rw [hf2, Bool.false_and, Bool.false_and, Bool.false_and] at hE
    subst hE
    (repeat' ((first | with_reducible (first | apply XQ_cons | apply XQ_consG | apply XQ_nil | apply XR_cons | apply XR_consG | apply XR_nil | apply cF_pure3 (by assumption) | apply cV_pure3 (by assumption) | apply cF_ev3 (by assumption) | apply cV_ev3 (by assumption)) | (with_reducible apply X_drawC (id := 1) 22; (next => (kernel_rfl)); (next => (kernel_rfl))) | refine X_of _ ?_ | with_reducible (first | exact ⟨_, rfl⟩ | refine And.intro ?_ ?_ | intro _)) <;> try simp -implicitDefEqProofs (maxSteps := 1000000) (disch := first | exact dz3 | fail) only [vcR, vcT, simprocAttr, Ab.part, implies_true, forall_const, vcS, vcXHb, Tryz.f34, g1,g2,g3,addr_add]))
    all_goals rfl
theorem odd_iff {N : Nat} (hN : N < 2 ^ 256) : OddM N ↔ (N % 2 = 1 ∧ 3 ≤ N) := ⟨fun h => ⟨h.odd, by have := h.gt; have := h.odd; omega⟩, fun h => ⟨hN, h.1, by omega⟩⟩
theorem sg_nlt0 {a b : Nat} (h : ¬ a < b) : ¬ sg a b < 0 := by
  unfold sg
  rw [if_neg h]
  split <;> decide
theorem step_m (N G : Nat) (x : Option Addr) (n c : Nat) (P : Nat → Nat) (E : Nat → Int) (hN : N < 2 ^ 256) (hG : G < 2 ^ 256) (hP : ∀ i, P i < 2 ^ 256) (hE : ∀ i, -9223372036854775808 ≤ E i ∧ E i < 9223372036854775808) (hn : n < 9223372036854775808) :
    PureM Tryz.prog 82 [.agg (prf N G (.v (.slice x n c)))] (fun w => facs x n P E w ∧ least w) (.s (.v (.int .i64 (stS N G n P E)))) := by
  have hpr := (product_m x n c P E hP hE hn).ev (V := Evo.none)
  have hpl := prS_lt (n := n) (P := P) (E := E) hP
  obtain ⟨a, e, hae⟩ : ∃ a e, prS n P E = (a, e) := ⟨_, _, rfl⟩
  rw [hae] at hpr hpl
  dsimp only at hpr
  have ha : a < 2 ^ 256 := hpl
  clear hpl
  obtain ⟨r, hr⟩ : ∃ r, stS N G n P E = r := ⟨_, rfl⟩
  rw [hr]
  (refine pureM_of Tryz.func82 rfl (by simp only [List.length_cons, List.length_nil, List.map_cons, List.map_nil, List.nodup_cons, List.nodup_nil, List.mem_cons, Nat.reduceAdd, Nat.reduceEqDiff, or_false, not_false_eq_true, forall_eq_or_imp, forall_eq, or_self, Nat.reduceLT, Nat.reduceLeDiff, and_self, List.forall_mem_cons, List.not_mem_nil, false_implies, implies_true, and_true, true_and, vcOPb]) (by simp only [List.length_cons, List.length_nil, List.map_cons, List.map_nil, List.nodup_cons, List.nodup_nil, List.mem_cons, Nat.reduceAdd, Nat.reduceEqDiff, or_false, not_false_eq_true, forall_eq_or_imp, forall_eq, or_self, Nat.reduceLT, Nat.reduceLeDiff, and_self, List.forall_mem_cons, List.not_mem_nil, false_implies, implies_true, and_true, true_and, vcOPb]) fun w hpre => ?_; simp only [List.length_cons, List.length_nil, Tryz.ntmps82, Nat.reduceAdd, Nat.reduceSub, List.replicate_succ, List.replicate_zero, List.cons_append, List.nil_append])
  have hF0 : Kn (ctx0 Tryz.prog w) fun _ w => facs x n P E w := (facs_kn hpre.1).facs0
  have hadr : n ≠ 0 → ∃ ad, x = some ad := fun h => by
    rcases hpre.1 with h0 | ⟨ad, h0, _⟩
    · omega
    · exact ⟨ad, h0⟩
  by_cases he : e ≠ 0
  · have he' : (e != 0) = true := by simpa using he
    rw [stS_e hae he] at hr
    subst hr
    clear hpre
    (repeat' ((first | with_reducible (first | apply XQ_cons | apply XQ_consG | apply XQ_nil | apply XR_cons | apply XR_consG | apply XR_nil | apply cF_pure1 (by assumption) | apply cV_pure1 (by assumption) | apply cF_ev1 (by assumption) | apply cV_ev1 (by assumption) | apply cF_pure1 (cmp_c _ _ bd1 bd1) | apply cV_pure1 (cmp_c _ _ bd1 bd1) | apply cF_pure1 (div_c _ _ bd1 bd1 bd1) | apply cV_pure1 (div_c _ _ bd1 bd1 bd1) | apply cF_ev1 (pow_e _ _ _ _ bd1 bd1 bd1) | apply cV_ev1 (pow_e _ _ _ _ bd1 bd1 bd1)) | ((with_reducible apply cF_new1 (by assumption)); (first | rintro _ _ ⟨rfl, rfl⟩ | rintro _ _ ⟨_, _, rfl, rfl⟩)) | with_reducible (first | apply gRS (by with_unfolding_all rfl) | apply gR (by with_unfolding_all rfl) | apply gS (by with_unfolding_all rfl) | fail) | (with_reducible apply X_drawC (id := 7) 16; (next => (kernel_rfl)); (next => (kernel_rfl))) | (with_reducible apply X_drawC (id := 15) 7; (next => (kernel_rfl)); (next => (kernel_rfl))) | refine X_of _ ?_ | with_reducible (first | exact ⟨_, rfl⟩ | refine And.intro ?_ ?_ | intro _)) <;> try simp -implicitDefEqProofs (maxSteps := 1000000) (disch := first | exact dz1 | fail) only [vcR, vcT, simprocAttr, Ab.part, implies_true, forall_const, vcS, vcXPb, Tryz.f82, he']))
  · have he0 : e = 0 := Classical.not_not.1 he
    subst he0
    by_cases hO : OddM N
    · have h3 := hO.gt
      have hsub := sub_c N 1 (N - 1) 0 hN (by decide) (by omega) (by omega)
      have hnew := new_good N hO
      have hO' := (odd_iff hN).1 hO
      have hl1 : litsEq (lits 4 (wd a)) (lits 4 (wd (N - 1))) = decide (a = N - 1) := litsEq_nat4 ha (by omega)
      obtain ⟨M1, hNM⟩ : ∃ M1, N - 1 = M1 := ⟨_, rfl⟩
      rw [hNM] at hsub hl1
      have hM1l : M1 < 2 ^ 256 := by omega
      have hl2 : litsEq (lits 4 (wd (G ^ M1 % N))) (lits 4 (wd 1)) = decide (G ^ M1 % N = 1) := litsEq_nat4 hO.mod_lt (by decide)
      by_cases ha1 : a = M1
      · rw [decide_eq_true ha1] at hl1
        by_cases hR1 : G ^ M1 % N = 1
        · rw [decide_eq_true hR1] at hl2
          (repeat' ((first | ((refine X_modM 4 [0, 1, 2, 3] rfl (by decide) (by decide) ?_ ?_ ?_ ?_); (next => (with_reducible assumption)); (next => (simp)); (next => (simp [pickH_cons, pickH_nil, consH_some])); (intro β1 w1 hM1 hK1); (have hN0 := hK1 _ (facsAt_stays _ x n P E) (facs_at _ hpre.1)); (have hN1 := hK1 _ (natsAt_stays _ _ _ _) (least_at _ hpre.2))) | with_reducible (first | apply XQ_cons | apply XQ_consG | apply XQ_nil | apply XR_cons | apply XR_consG | apply XR_nil | apply cF_pure1 (by assumption) | apply cV_pure1 (by assumption) | apply cF_ev1 (by assumption) | apply cV_ev1 (by assumption) | apply cF_pure1 (cmp_c _ _ bd1 bd1) | apply cV_pure1 (cmp_c _ _ bd1 bd1) | apply cF_pure1 (div_c _ _ bd1 bd1 bd1) | apply cV_pure1 (div_c _ _ bd1 bd1 bd1) | apply cF_ev1 (pow_e _ _ _ _ bd1 bd1 bd1) | apply cV_ev1 (pow_e _ _ _ _ bd1 bd1 bd1)) | ((with_reducible apply cF_new1 (by assumption)); (first | rintro _ _ ⟨rfl, rfl⟩ | rintro _ _ ⟨_, _, rfl, rfl⟩)) | with_reducible (first | apply gRS (by with_unfolding_all rfl) | apply gR (by with_unfolding_all rfl) | apply gS (by with_unfolding_all rfl) | fail) | (with_reducible apply X_drawC (id := 7) 16; (next => (kernel_rfl)); (next => (kernel_rfl))) | (with_reducible apply X_drawC (id := 15) 7; (next => (kernel_rfl)); (next => (kernel_rfl))) | refine X_of _ ?_ | with_reducible (first | exact ⟨_, rfl⟩ | refine And.intro ?_ ?_ | intro _)) <;> try simp -implicitDefEqProofs (maxSteps := 1000000) (disch := first | exact dz1 | fail) only [vcR, vcT, simprocAttr, Ab.part, implies_true, forall_const, vcS, vcXPb, Tryz.f82, hl1,hl2,bne_self_eq_false]))
          refine X_loop (ι := Nat) (fun i => i ≤ n ∧ ∀ j, j < i → stB N G P j = false) (fun i => n - i) [11, 12, 13, 14, 57, 58, 59, 60, 61, 62, 63, 64, 65, 66, 67, 68, 69, 70, 71, 72, 73, 74, 75, 76, 77, 78, 79, 80, 81]
            (fun i => [(57, .s (.v (.int .i64 (i : Nat))))])
            (fun i => []) 0 (shape_of fun i => ?_) (by decide) ?_ ?_
          · simp only [List.length_cons, List.length_nil, List.map_cons, List.map_nil, List.nodup_cons, List.nodup_nil, List.mem_cons, Nat.reduceAdd, Nat.reduceEqDiff, or_false, not_false_eq_true, forall_eq_or_imp, forall_eq, or_self, Nat.reduceLT, Nat.reduceLeDiff, and_self, List.forall_mem_cons, List.not_mem_nil, false_implies, implies_true, and_true, true_and, vcOPb]
          · simp -implicitDefEqProofs (maxSteps := 1000000) (disch := first | exact dz1 | fail) only [vcR, vcT, simprocAttr, Ab.part, implies_true, forall_const, vcS, vcXPb, Tryz.f82, again_eq]
            exact ⟨_, rfl⟩
          · intro i us ⟨hi, hb⟩
            by_cases h : i < n
            · obtain ⟨ad, rfl⟩ := hadr (by omega)
              have hx : ∀ {K : TV → HE → Prop}, xext ((ctx0 Tryz.prog w).after (modEvo 135) w.heap.size w1 β1 [0, 1, 2, 3]) (some true) 5 (ad.add (i * 5)) K = K (.agg (fac (P i) (E i))) .none := fun {K} => hN0.fac h
              have hg : ∀ {K : TV → HE → Prop}, xext ((ctx0 Tryz.prog w).after (modEvo 135) w.heap.size w1 β1 [0, 1, 2, 3]) (some true) 4 ⟨3, 0, none⟩ K = K (.agg (nat4 2)) .none := fun {K} => hN1.least
              have hPi := hP i
              clear hpre hP hE hadr hpr hF0 hsub
              by_cases hp2 : P i < 2
              · have hs := sg_lt0 hp2
                rw [stS_b hae hO' (by rw [hNM]; exact ha1) (by rw [hNM]; exact hR1) h (stB_lt hp2)] at hr
                subst hr
                (repeat' ((first | with_reducible (first | apply XQ_cons | apply XQ_consG | apply XQ_nil | apply XR_cons | apply XR_consG | apply XR_nil | apply cF_pure1 (by assumption) | apply cV_pure1 (by assumption) | apply cF_ev1 (by assumption) | apply cV_ev1 (by assumption) | apply cF_pure1 (cmp_c _ _ bd1 bd1) | apply cV_pure1 (cmp_c _ _ bd1 bd1) | apply cF_pure1 (div_c _ _ bd1 bd1 bd1) | apply cV_pure1 (div_c _ _ bd1 bd1 bd1) | apply cF_ev1 (pow_e _ _ _ _ bd1 bd1 bd1) | apply cV_ev1 (pow_e _ _ _ _ bd1 bd1 bd1)) | ((with_reducible apply cF_new1 (by assumption)); (first | rintro _ _ ⟨rfl, rfl⟩ | rintro _ _ ⟨_, _, rfl, rfl⟩)) | with_reducible (first | apply gRS (by with_unfolding_all rfl) | apply gR (by with_unfolding_all rfl) | apply gS (by with_unfolding_all rfl) | fail) | (with_reducible apply X_drawC (id := 7) 16; (next => (kernel_rfl)); (next => (kernel_rfl))) | (with_reducible apply X_drawC (id := 15) 7; (next => (kernel_rfl)); (next => (kernel_rfl))) | refine X_of _ ?_ | with_reducible (first | exact ⟨_, rfl⟩ | refine And.intro ?_ ?_ | intro _)) <;> try simp -implicitDefEqProofs (maxSteps := 1000000) (disch := first | exact dz1 | fail) only [vcR, vcT, simprocAttr, Ab.part, implies_true, forall_const, vcS, vcXPb, Tryz.f82, hx,hg,hs]))
              · have hs := sg_nlt0 hp2
                have hq : M1 / P i < 2 ^ 256 := Nat.lt_of_le_of_lt (Nat.div_le_self _ _) hM1l
                have hp0 : 0 < P i := by omega
                have hl3 : litsEq (lits 4 (wd (G ^ (M1 / P i) % N))) (lits 4 (wd 1)) = decide (G ^ (M1 / P i) % N = 1) := litsEq_nat4 hO.mod_lt (by decide)
                have hsb := stB_eq (N := N) (G := G) hp2
                rw [hNM] at hsb
                by_cases hg1 : G ^ (M1 / P i) % N = 1
                · rw [decide_eq_true hg1] at hl3 hsb
                  rw [stS_b hae hO' (by rw [hNM]; exact ha1) (by rw [hNM]; exact hR1) h hsb] at hr
                  subst hr
                  (repeat' ((first | with_reducible (first | apply XQ_cons | apply XQ_consG | apply XQ_nil | apply XR_cons | apply XR_consG | apply XR_nil | apply cF_pure1 (by assumption) | apply cV_pure1 (by assumption) | apply cF_ev1 (by assumption) | apply cV_ev1 (by assumption) | apply cF_pure1 (cmp_c _ _ bd1 bd1) | apply cV_pure1 (cmp_c _ _ bd1 bd1) | apply cF_pure1 (div_c _ _ bd1 bd1 bd1) | apply cV_pure1 (div_c _ _ bd1 bd1 bd1) | apply cF_ev1 (pow_e _ _ _ _ bd1 bd1 bd1) | apply cV_ev1 (pow_e _ _ _ _ bd1 bd1 bd1)) | ((with_reducible apply cF_new1 (by assumption)); (first | rintro _ _ ⟨rfl, rfl⟩ | rintro _ _ ⟨_, _, rfl, rfl⟩)) | with_reducible (first | apply gRS (by with_unfolding_all rfl) | apply gR (by with_unfolding_all rfl) | apply gS (by with_unfolding_all rfl) | fail) | (with_reducible apply X_drawC (id := 7) 16; (next => (kernel_rfl)); (next => (kernel_rfl))) | (with_reducible apply X_drawC (id := 15) 7; (next => (kernel_rfl)); (next => (kernel_rfl))) | refine X_of _ ?_ | with_reducible (first | exact ⟨_, rfl⟩ | refine And.intro ?_ ?_ | intro _)) <;> try simp -implicitDefEqProofs (maxSteps := 1000000) (disch := first | exact dz1 | fail) only [vcR, vcT, simprocAttr, Ab.part, implies_true, forall_const, vcS, vcXPb, Tryz.f82, hx,hg,hs,hl3]))
                · rw [decide_eq_false hg1] at hl3 hsb
                  have hb' : ∀ j, j < i + 1 → stB N G P j = false := fun j hj => by
                    by_cases hji : j = i
                    · subst hji; exact hsb
                    · exact hb j (by omega)
                  clear hr hb hsb
                  (repeat' ((first | with_reducible (first | apply XQ_cons | apply XQ_consG | apply XQ_nil | apply XR_cons | apply XR_consG | apply XR_nil | apply cF_pure1 (by assumption) | apply cV_pure1 (by assumption) | apply cF_ev1 (by assumption) | apply cV_ev1 (by assumption) | apply cF_pure1 (cmp_c _ _ bd1 bd1) | apply cV_pure1 (cmp_c _ _ bd1 bd1) | apply cF_pure1 (div_c _ _ bd1 bd1 bd1) | apply cV_pure1 (div_c _ _ bd1 bd1 bd1) | apply cF_ev1 (pow_e _ _ _ _ bd1 bd1 bd1) | apply cV_ev1 (pow_e _ _ _ _ bd1 bd1 bd1)) | ((with_reducible apply cF_new1 (by assumption)); (first | rintro _ _ ⟨rfl, rfl⟩ | rintro _ _ ⟨_, _, rfl, rfl⟩)) | with_reducible (first | apply gRS (by with_unfolding_all rfl) | apply gR (by with_unfolding_all rfl) | apply gS (by with_unfolding_all rfl) | fail) | (with_reducible apply X_drawC (id := 7) 16; (next => (kernel_rfl)); (next => (kernel_rfl))) | (with_reducible apply X_drawC (id := 15) 7; (next => (kernel_rfl)); (next => (kernel_rfl))) | refine X_of _ ?_ | with_reducible (first | exact ⟨_, rfl⟩ | refine And.intro ?_ ?_ | intro _)) <;> try simp -implicitDefEqProofs (maxSteps := 1000000) (disch := first | exact dz1 | fail) only [vcR, vcT, simprocAttr, Ab.part, implies_true, forall_const, vcS, vcXPb, Tryz.f82, hx,hg,hs,hl3]))
                  refine ⟨i + 1, by omega, ?_⟩
                  simp -implicitDefEqProofs (maxSteps := 1000000) (disch := first | exact dz1 | fail) only [vcR, vcT, simprocAttr, Ab.part, implies_true, forall_const, vcS, vcXPb, Tryz.f82, again_eq]
                  exact ⟨hb', _, rfl⟩
            · have : i = n := by omega
              subst this
              rw [stS_o hae hO' (by rw [hNM]; exact ha1) (by rw [hNM]; exact hR1) hb] at hr
              subst hr
              (repeat' ((first | with_reducible (first | apply XQ_cons | apply XQ_consG | apply XQ_nil | apply XR_cons | apply XR_consG | apply XR_nil | apply cF_pure1 (by assumption) | apply cV_pure1 (by assumption) | apply cF_ev1 (by assumption) | apply cV_ev1 (by assumption) | apply cF_pure1 (cmp_c _ _ bd1 bd1) | apply cV_pure1 (cmp_c _ _ bd1 bd1) | apply cF_pure1 (div_c _ _ bd1 bd1 bd1) | apply cV_pure1 (div_c _ _ bd1 bd1 bd1) | apply cF_ev1 (pow_e _ _ _ _ bd1 bd1 bd1) | apply cV_ev1 (pow_e _ _ _ _ bd1 bd1 bd1)) | ((with_reducible apply cF_new1 (by assumption)); (first | rintro _ _ ⟨rfl, rfl⟩ | rintro _ _ ⟨_, _, rfl, rfl⟩)) | with_reducible (first | apply gRS (by with_unfolding_all rfl) | apply gR (by with_unfolding_all rfl) | apply gS (by with_unfolding_all rfl) | fail) | (with_reducible apply X_drawC (id := 7) 16; (next => (kernel_rfl)); (next => (kernel_rfl))) | (with_reducible apply X_drawC (id := 15) 7; (next => (kernel_rfl)); (next => (kernel_rfl))) | refine X_of _ ?_ | with_reducible (first | exact ⟨_, rfl⟩ | refine And.intro ?_ ?_ | intro _)) <;> try simp -implicitDefEqProofs (maxSteps := 1000000) (disch := first | exact dz1 | fail) only [vcR, vcT, simprocAttr, Ab.part, implies_true, forall_const, vcS, vcXPb, Tryz.f82]))
        · rw [decide_eq_false hR1] at hl2
          rw [stS_p hae hO' (.inr (by rw [hNM]; exact hR1))] at hr
          subst hr
          (repeat' ((first | ((refine X_modM 4 [0, 1, 2, 3] rfl (by decide) (by decide) ?_ ?_ ?_ ?_); (next => (with_reducible assumption)); (next => (simp)); (next => (simp [pickH_cons, pickH_nil, consH_some])); (intro β1 w1 hM1 hK1); (have hN0 := hK1 _ (facsAt_stays _ x n P E) (facs_at _ hpre.1))) | with_reducible (first | apply XQ_cons | apply XQ_consG | apply XQ_nil | apply XR_cons | apply XR_consG | apply XR_nil | apply cF_pure1 (by assumption) | apply cV_pure1 (by assumption) | apply cF_ev1 (by assumption) | apply cV_ev1 (by assumption) | apply cF_pure1 (cmp_c _ _ bd1 bd1) | apply cV_pure1 (cmp_c _ _ bd1 bd1) | apply cF_pure1 (div_c _ _ bd1 bd1 bd1) | apply cV_pure1 (div_c _ _ bd1 bd1 bd1) | apply cF_ev1 (pow_e _ _ _ _ bd1 bd1 bd1) | apply cV_ev1 (pow_e _ _ _ _ bd1 bd1 bd1)) | ((with_reducible apply cF_new1 (by assumption)); (first | rintro _ _ ⟨rfl, rfl⟩ | rintro _ _ ⟨_, _, rfl, rfl⟩)) | with_reducible (first | apply gRS (by with_unfolding_all rfl) | apply gR (by with_unfolding_all rfl) | apply gS (by with_unfolding_all rfl) | fail) | (with_reducible apply X_drawC (id := 7) 16; (next => (kernel_rfl)); (next => (kernel_rfl))) | (with_reducible apply X_drawC (id := 15) 7; (next => (kernel_rfl)); (next => (kernel_rfl))) | refine X_of _ ?_ | with_reducible (first | exact ⟨_, rfl⟩ | refine And.intro ?_ ?_ | intro _)) <;> try simp -implicitDefEqProofs (maxSteps := 1000000) (disch := first | exact dz1 | fail) only [vcR, vcT, simprocAttr, Ab.part, implies_true, forall_const, vcS, vcXPb, Tryz.f82, hl1,hl2,bne_self_eq_false]))
      · rw [decide_eq_false ha1] at hl1
        rw [stS_p hae hO' (.inl (by rw [hNM]; exact ha1))] at hr
        subst hr
        (repeat' ((first | ((refine X_modM 4 [0, 1, 2, 3] rfl (by decide) (by decide) ?_ ?_ ?_ ?_); (next => (with_reducible assumption)); (next => (simp)); (next => (simp [pickH_cons, pickH_nil, consH_some])); (intro β1 w1 hM1 hK1); (have hN0 := hK1 _ (facsAt_stays _ x n P E) (facs_at _ hpre.1))) | with_reducible (first | apply XQ_cons | apply XQ_consG | apply XQ_nil | apply XR_cons | apply XR_consG | apply XR_nil | apply cF_pure1 (by assumption) | apply cV_pure1 (by assumption) | apply cF_ev1 (by assumption) | apply cV_ev1 (by assumption) | apply cF_pure1 (cmp_c _ _ bd1 bd1) | apply cV_pure1 (cmp_c _ _ bd1 bd1) | apply cF_pure1 (div_c _ _ bd1 bd1 bd1) | apply cV_pure1 (div_c _ _ bd1 bd1 bd1) | apply cF_ev1 (pow_e _ _ _ _ bd1 bd1 bd1) | apply cV_ev1 (pow_e _ _ _ _ bd1 bd1 bd1)) | ((with_reducible apply cF_new1 (by assumption)); (first | rintro _ _ ⟨rfl, rfl⟩ | rintro _ _ ⟨_, _, rfl, rfl⟩)) | with_reducible (first | apply gRS (by with_unfolding_all rfl) | apply gR (by with_unfolding_all rfl) | apply gS (by with_unfolding_all rfl) | fail) | (with_reducible apply X_drawC (id := 7) 16; (next => (kernel_rfl)); (next => (kernel_rfl))) | (with_reducible apply X_drawC (id := 15) 7; (next => (kernel_rfl)); (next => (kernel_rfl))) | refine X_of _ ?_ | with_reducible (first | exact ⟨_, rfl⟩ | refine And.intro ?_ ?_ | intro _)) <;> try simp -implicitDefEqProofs (maxSteps := 1000000) (disch := first | exact dz1 | fail) only [vcR, vcT, simprocAttr, Ab.part, implies_true, forall_const, vcS, vcXPb, Tryz.f82, hl1,bne_self_eq_false]))
    · have hnew := new_bad N hN hO
      rw [stS_m hae (fun h => hO ((odd_iff hN).2 h))] at hr
      subst hr
      clear hpre
      obtain ⟨M1, bo, hM1, hsub⟩ : ∃ M1 bo, M1 < 2 ^ 256 ∧ PureC Tryz.prog 89 [.agg (nat4 N), .agg (nat4 1)] (.tup [.agg (nat4 M1), .s (.v (.int .u64 (bo : Int)))]) := by
        by_cases h0 : N = 0
        · exact ⟨2 ^ 256 - 1, 1, by omega, sub_c N 1 (2 ^ 256 - 1) 1 hN (by decide) (by omega) (by omega)⟩
        · exact ⟨N - 1, 0, by omega, sub_c N 1 (N - 1) 0 hN (by decide) (by omega) (by omega)⟩
      have hc : (chk N != 0) = true := by
        rcases chk_bad hN hO with h | h <;> rw [h] <;> rfl
      (repeat' ((first | with_reducible (first | apply XQ_cons | apply XQ_consG | apply XQ_nil | apply XR_cons | apply XR_consG | apply XR_nil | apply cF_pure1 (by assumption) | apply cV_pure1 (by assumption) | apply cF_ev1 (by assumption) | apply cV_ev1 (by assumption) | apply cF_pure1 (cmp_c _ _ bd1 bd1) | apply cV_pure1 (cmp_c _ _ bd1 bd1) | apply cF_pure1 (div_c _ _ bd1 bd1 bd1) | apply cV_pure1 (div_c _ _ bd1 bd1 bd1) | apply cF_ev1 (pow_e _ _ _ _ bd1 bd1 bd1) | apply cV_ev1 (pow_e _ _ _ _ bd1 bd1 bd1)) | ((with_reducible apply cF_new1 (by assumption)); (first | rintro _ _ ⟨rfl, rfl⟩ | rintro _ _ ⟨_, _, rfl, rfl⟩)) | with_reducible (first | apply gRS (by with_unfolding_all rfl) | apply gR (by with_unfolding_all rfl) | apply gS (by with_unfolding_all rfl) | fail) | (with_reducible apply X_drawC (id := 7) 16; (next => (kernel_rfl)); (next => (kernel_rfl))) | (with_reducible apply X_drawC (id := 15) 7; (next => (kernel_rfl)); (next => (kernel_rfl))) | refine X_of _ ?_ | with_reducible (first | exact ⟨_, rfl⟩ | refine And.intro ?_ ?_ | intro _)) <;> try simp -implicitDefEqProofs (maxSteps := 1000000) (disch := first | exact dz1 | fail) only [vcR, vcT, simprocAttr, Ab.part, implies_true, forall_const, vcS, vcXPb, Tryz.f82, hc,bne_self_eq_false]))
theorem seqA_n {K : KA} {Q : QA} {T : List TV} {H : Heap} {A : World → Prop} : seqA K Q .normal T H A = K T H A := rfl
theorem seqA_r {K : KA} {Q : QA} {T : List TV} {H : Heap} {A : World → Prop} : seqA K Q .ret T H A = Q .ret T H A := rfl
theorem seqA_x {K : KA} {Q : QA} {T : List TV} {H : Heap} {A : World → Prop} {i : Nat} : seqA K Q (.exit i) T H A = Q (.exit i) T H A := rfl
theorem blockA_n {id : Nat} {Q : QA} {T : List TV} {H : Heap} {A : World → Prop} : blockA id Q .normal T H A = Q .normal T H A := rfl
theorem blockA_r {id : Nat} {Q : QA} {T : List TV} {H : Heap} {A : World → Prop} : blockA id Q .ret T H A = Q .ret T H A := rfl
theorem blockA_x {id i : Nat} {Q : QA} {T : List TV} {H : Heap} {A : World → Prop} : blockA id Q (.exit i) T H A = if i = id then Q .normal T H A else Q (.exit i) T H A := rfl
theorem retA_n {P : Program} {rs : List ResultVar} {R : TV → Heap → (World → Prop) → Prop} {T : List TV} {H : Heap} {A : World → Prop} : retA P rs R .normal T H A = retV (resAll P T H rs) fun v => R v H A := rfl
theorem retA_r {P : Program} {rs : List ResultVar} {R : TV → Heap → (World → Prop) → Prop} {T : List TV} {H : Heap} {A : World → Prop} : retA P rs R .ret T H A = retV (resAll P T H rs) fun v => R v H A := rfl
section
variable {ι : Type} {T0 : List TV} {H0 : Heap} {V : ι → Prop} {μ : ι → Nat} {js : List Nat} {sv : ι → List (Nat × TV)} {hv : ι → List (Nat × List SV)} {AA : ι → World → Prop} {i : ι} {Q : QA} {T : List TV} {H : Heap} {A : World → Prop}
theorem loopA_n : loopA T0 H0 V μ js sv hv AA i Q .normal T H A = ∃ i', μ i' < μ i ∧ Again T0 H0 V js sv hv T H i' ∧ A = AA i' := rfl
theorem loopA_r : loopA T0 H0 V μ js sv hv AA i Q .ret T H A = Q .ret T H A := rfl
theorem loopA_x {j : Nat} : loopA T0 H0 V μ js sv hv AA i Q (.exit j) T H A = Q (.exit j) T H A := rfl
end
def CkR (w : World) (l : Nat → Pf) (m : Nat) (v : TV) (A : World → Prop) : Prop :=
  ∃ b p, w.heap.size ≤ b ∧ v = .tup [.s (.v (.map (some b))), .s (.v (.int .i64 (ckS l m)))] ∧ A = MapAt b p ∧ (ckS l m = 0 → p = knS l m)
theorem XAR_A {Γ : Ctx} {A A' : World → Prop} {ops : Array Oper} {l : List Oper} {T : List TV} {H : Heap} {K : KA} (h : A = A') (hx : XAR Γ A' ops l T H K) : XAR Γ A ops l T H K := by rw [h]; exact hx
theorem mapS {b i N G n c : Nat} {l : Nat → Pf} {y : Option Addr} {P : Nat → Nat} {E : Nat → Int} (h : l i = ⟨N, G, y, n, c, P, E⟩) : MapAt b (fun q => knS l i q || q == N) = MapAt b (knS l (i + 1)) := by
  congr 1
  funext q
  rw [knS_succ, h]
theorem map0 (b : Nat) (l : Nat → Pf) : MapAt b (fun i => (fun _ => false) i || i == 2) = MapAt b (knS l 0) := by
  congr 1
  funext i
  rw [knS_zero, Bool.false_or]
theorem check_c (x : Option Addr) (m c : Nat) (l : Nat → Pf) (hl : PfOk l) (hm : m < 9223372036854775808) (w : World) (hp : prfs x m l w) (h2 : least w) :
    Calls Tryz.prog 66 ([TV.s (.v (.slice x m c))].map (TV.conc fun _ => 0)).toArray w fun e w' => ∃ v H' A' β', CkR w l m v A' ∧ A' w' ∧ Rep (ctx0 Tryz.prog w) H' β' w' ∧ ∀ β'', Agrees H'.length β' β'' → e = .returned (v.conc β'') := by
  refine calls_of_XA (Γ := ctx0 Tryz.prog w) (A := fun _ => True) (R := fun v H A => CkR w l m v A) Tryz.func66 rfl (rep0 Tryz.prog w fun _ => 0) trivial (by simp only [List.length_cons, List.length_nil, List.map_cons, List.map_nil, List.nodup_cons, List.nodup_nil, List.mem_cons, Nat.reduceAdd, Nat.reduceEqDiff, or_false, not_false_eq_true, forall_eq_or_imp, forall_eq, or_self, Nat.reduceLT, Nat.reduceLeDiff, and_self, List.forall_mem_cons, List.not_mem_nil, false_implies, implies_true, and_true, true_and, vcOPb]) ?_
  simp only [List.length_cons, List.length_nil, Tryz.ntmps66, Nat.reduceAdd, Nat.reduceSub, List.replicate_succ, List.replicate_zero, List.cons_append, List.nil_append]
  have hP0 := prfs_kn (P0 := Tryz.prog) hp
  have hL0 := least_kn (P0 := Tryz.prog) h2
  have hadr : m ≠ 0 → ∃ ad, x = some ad := fun h => by
    rcases hp.1 with h0 | ⟨ad, h0, _⟩
    · omega
    · exact ⟨ad, h0⟩
  clear hp h2
  refine XA_seq (XA_X [] steady_true rfl (by simp) (by simp) fun β1 w1 hR1 hA1 hK1 => ?_)
  (repeat' ((first | with_reducible (first | apply cF_pure1 (by assumption) | apply cF_ev1 (by assumption)) | refine X_of _ ?_ | with_reducible (first | exact ⟨_, rfl⟩ | refine And.intro ?_ ?_ | intro _)) <;> try simp -implicitDefEqProofs (maxSteps := 1000000) (disch := first | exact dz1 | fail) only [vcR, vcT, simprocAttr, Ab.part, implies_true, forall_const, vcS, vcXPb, Tryz.f66, seqA_n]))
  clear hR1 hA1 hK1 β1 w1
  refine XA_seq (XA_reg (XAR_mk fun b hb => ?_))
  try simp -implicitDefEqProofs (maxSteps := 1000000) (disch := first | exact dz1 | fail) only [vcR, vcT, simprocAttr, Ab.part, implies_true, forall_const, vcS, vcXPb, Tryz.f66]
  refine XAR_step [] (steady_map _ _) rfl (by simp) (by simp) fun β2 w2 hR2 hA2 hK2 => ?_
  have hg : ∀ {K : TV → HE → Prop}, xext ((ctx0 Tryz.prog w).after (ctx0 Tryz.prog w).ev (ctx0 Tryz.prog w).B w2 β2 []) (some true) 4 ⟨3, 0, none⟩ K = K (.agg (nat4 2)) .none := fun {K} => (hK2 _ hL0).least
  try simp -implicitDefEqProofs (maxSteps := 1000000) (disch := first | exact dz1 | fail) only [vcR, vcT, simprocAttr, Ab.part, implies_true, forall_const, vcS, vcXPb, Tryz.f66, hg]
  clear hg hR2 hA2 hK2 β2 w2
  refine XAR_put mapTy (.inr rfl) hb (n := 2) (z := 0) (by decide) rfl rfl rfl ?_
  refine XAR_A (map0 b l) ?_
  try simp -implicitDefEqProofs (maxSteps := 1000000) (disch := first | exact dz1 | fail) only [vcR, vcT, simprocAttr, Ab.part, implies_true, forall_const, vcS, vcXPb, Tryz.f66]
  refine XAR_step [] (steady_map _ _) rfl (by simp) (by simp) fun β2 w2 hR2 hA2 hK2 => ?_
  try simp -implicitDefEqProofs (maxSteps := 1000000) (disch := first | exact dz1 | fail) only [vcR, vcT, simprocAttr, Ab.part, implies_true, forall_const, vcS, vcXPb, Tryz.f66]
  clear hK2 hA2 hR2 w2 β2
  refine XAR_step [] (steady_map _ _) rfl (by simp) (by simp) fun β2 w2 hR2 hA2 hK2 => ?_
  try simp -implicitDefEqProofs (maxSteps := 1000000) (disch := first | exact dz1 | fail) only [vcR, vcT, simprocAttr, Ab.part, implies_true, forall_const, vcS, vcXPb, Tryz.f66]
  clear hK2 hA2 hR2 w2 β2
  refine XAR_nil ?_
  try simp -implicitDefEqProofs (maxSteps := 1000000) (disch := first | exact dz1 | fail) only [vcR, vcT, simprocAttr, Ab.part, implies_true, forall_const, vcS, vcXPb, Tryz.f66, seqA_n]
  by_cases h40 : 40 < m
  · have h40' : (40 : Int) < (m : Int) := by omega
    refine XA_seq (XA_X [] (steady_map _ _) rfl (by simp) (by simp) fun β1 w1 hR1 hA1 hK1 => ?_)
    (repeat' ((first | with_reducible (first | apply cF_pure1 (by assumption) | apply cF_ev1 (by assumption)) | refine X_of _ ?_ | with_reducible (first | exact ⟨_, rfl⟩ | refine And.intro ?_ ?_ | intro _)) <;> try simp -implicitDefEqProofs (maxSteps := 1000000) (disch := first | exact dz1 | fail) only [vcR, vcT, simprocAttr, Ab.part, implies_true, forall_const, vcS, vcXPb, Tryz.f66, seqA_n,seqA_r,seqA_x,blockA_n,blockA_r,blockA_x,loopA_n,loopA_r,loopA_x,retA_n,retA_r,h40']))
    exact ⟨b, _, hb, by rw [ckS_long h40], rfl, fun h => by rw [ckS_long h40] at h; cases h⟩
  · have h40' : ¬ (40 : Int) < (m : Int) := by omega
    refine XA_seq (XA_X [] (steady_map _ _) rfl (by simp) (by simp) fun β1 w1 hR1 hA1 hK1 => ?_)
    (repeat' ((first | with_reducible (first | apply cF_pure1 (by assumption) | apply cF_ev1 (by assumption)) | refine X_of _ ?_ | with_reducible (first | exact ⟨_, rfl⟩ | refine And.intro ?_ ?_ | intro _)) <;> try simp -implicitDefEqProofs (maxSteps := 1000000) (disch := first | exact dz1 | fail) only [vcR, vcT, simprocAttr, Ab.part, implies_true, forall_const, vcS, vcXPb, Tryz.f66, seqA_n,seqA_r,seqA_x,blockA_n,blockA_r,blockA_x,loopA_n,loopA_r,loopA_x,retA_n,retA_r,h40']))
    clear hK1 hA1 hR1 w1 β1
    refine XA_seq (XA_seq (XA_X [] (steady_map _ _) rfl (by simp) (by simp) fun β1 w1 hR1 hA1 hK1 => ?_))
    (repeat' ((first | with_reducible (first | apply cF_pure1 (by assumption) | apply cF_ev1 (by assumption)) | refine X_of _ ?_ | with_reducible (first | exact ⟨_, rfl⟩ | refine And.intro ?_ ?_ | intro _)) <;> try simp -implicitDefEqProofs (maxSteps := 1000000) (disch := first | exact dz1 | fail) only [vcR, vcT, simprocAttr, Ab.part, implies_true, forall_const, vcS, vcXPb, Tryz.f66, seqA_n,seqA_r,seqA_x,blockA_n,blockA_r,blockA_x,loopA_n,loopA_r,loopA_x,retA_n,retA_r]))
    clear hK1 hA1 hR1 w1 β1
    refine XA_block (XA_loop (ι := Nat) (fun i => i ≤ m ∧ ckU l i = 0) (fun i => m - i) [5, 6, 7, 8, 9, 19, 20, 21, 22, 23, 24, 25, 26, 27, 28, 29, 30, 31, 32, 33, 34, 35, 36, 37, 38, 39, 40, 41, 42, 43, 44, 45, 46, 47, 48, 49]
      (fun i => [(19, .s (.v (.int .i64 (i : Nat))))]) (fun i => []) (fun i => MapAt b (knS l i)) 0 (shape_of fun i => ?_) (by decide) ?_ rfl ?_)
    · simp only [List.length_cons, List.length_nil, List.map_cons, List.map_nil, List.nodup_cons, List.nodup_nil, List.mem_cons, Nat.reduceAdd, Nat.reduceEqDiff, or_false, not_false_eq_true, forall_eq_or_imp, forall_eq, or_self, Nat.reduceLT, Nat.reduceLeDiff, and_self, List.forall_mem_cons, List.not_mem_nil, false_implies, implies_true, and_true, true_and, vcOPb]
    · simp -implicitDefEqProofs (maxSteps := 1000000) (disch := first | exact dz1 | fail) only [vcR, vcT, simprocAttr, Ab.part, implies_true, forall_const, vcS, vcXPb, Tryz.f66, again_eq]
      exact ⟨rfl, _, rfl⟩
    · intro i us ⟨hi, hU⟩
      try simp -implicitDefEqProofs (maxSteps := 1000000) (disch := first | exact dz1 | fail) only [vcR, vcT, simprocAttr, Ab.part, implies_true, forall_const, vcS, vcXPb, Tryz.f66]
      by_cases h : i < m
      · obtain ⟨ad, rfl⟩ := hadr (by omega)
        refine XA_seq (XA_X [] (steady_map _ _) rfl (by simp) (by simp) fun β1 w1 hR1 hA1 hK1 => ?_)
        (repeat' ((first | with_reducible (first | apply cF_pure1 (by assumption) | apply cF_ev1 (by assumption)) | refine X_of _ ?_ | with_reducible (first | exact ⟨_, rfl⟩ | refine And.intro ?_ ?_ | intro _)) <;> try simp -implicitDefEqProofs (maxSteps := 1000000) (disch := first | exact dz1 | fail) only [vcR, vcT, simprocAttr, Ab.part, implies_true, forall_const, vcS, vcXPb, Tryz.f66, seqA_n,seqA_r,seqA_x,blockA_n,blockA_r,blockA_x,loopA_n,loopA_r,loopA_x,retA_n,retA_r]))
        clear hK1 hA1 hR1 w1 β1
        obtain ⟨p, hli⟩ : ∃ p, l i = p := ⟨_, rfl⟩
        obtain ⟨N, G, y, n, c', P, E⟩ := p
        have hNl : N < 2 ^ 256 := by have := hl.N i; rwa [hli] at this
        have hGl : G < 2 ^ 256 := by have := hl.G i; rwa [hli] at this
        have hPl : ∀ k, P k < 2 ^ 256 := fun k => by have := hl.P i k; rwa [hli] at this
        have hEl : ∀ k, -9223372036854775808 ≤ E k ∧ E k < 9223372036854775808 := fun k => by have := hl.E i k; rwa [hli] at this
        have hnl : n < 9223372036854775808 := by have := hl.n i; rwa [hli] at this
        have hF0 : Kn (ctx0 Tryz.prog w) (facsAt Evo.none y n P E) := by have := hP0.prfF h; rwa [hli] at this
        have hady : n ≠ 0 → ∃ ad, y = some ad := fun h => by
          rcases hF0 _ (FrP.now _) with h0 | ⟨ad, h0, _⟩
          · exact absurd h0 h
          · exact ⟨ad, h0⟩
        refine XA_seq (XA_X [] (steady_map _ _) rfl (by simp) (by simp) fun β1 w1 hR1 hA1 hK1 => ?_)
        (repeat' ((first | with_reducible (first | apply cF_pure1 (by assumption) | apply cF_ev1 (by assumption)) | refine X_of _ ?_ | with_reducible (first | exact ⟨_, rfl⟩ | refine And.intro ?_ ?_ | intro _)) <;> try simp -implicitDefEqProofs (maxSteps := 1000000) (disch := first | exact dz1 | fail) only [vcR, vcT, simprocAttr, Ab.part, implies_true, forall_const, vcS, vcXPb, Tryz.f66, seqA_n,seqA_r,seqA_x,blockA_n,blockA_r,blockA_x,loopA_n,loopA_r,loopA_x,retA_n,retA_r]))
        clear hK1 hA1 hR1 w1 β1
        refine XA_seq (XA_block ?_)
        refine XA_seq ?_
        refine (XA_X [] (steady_map _ _) rfl (by simp) (by simp) fun β1 w1 hR1 hA1 hK1 => ?_)
        have hx : ∀ {K : TV → HE → Prop}, xext ((ctx0 Tryz.prog w).after (ctx0 Tryz.prog w).ev (ctx0 Tryz.prog w).B w1 β1 []) (some true) 9 (ad.add (i * 9)) K = K (.agg (prf N G (.v (.slice y n c')))) .none := fun {K} => by rw [(hK1 _ hP0).prf h, hli]
        (repeat' ((first | with_reducible (first | apply cF_pure1 (by assumption) | apply cF_ev1 (by assumption)) | refine X_of _ ?_ | with_reducible (first | exact ⟨_, rfl⟩ | refine And.intro ?_ ?_ | intro _)) <;> try simp -implicitDefEqProofs (maxSteps := 1000000) (disch := first | exact dz1 | fail) only [vcR, vcT, simprocAttr, Ab.part, implies_true, forall_const, vcS, vcXPb, Tryz.f66, seqA_n,seqA_r,seqA_x,blockA_n,blockA_r,blockA_x,loopA_n,loopA_r,loopA_x,retA_n,retA_r,hx]))
        clear hx
        clear hK1 hA1 hR1 w1 β1
        refine XA_seq ?_
        refine XA_seq ?_
        refine XA_X [0] (steady_map _ _) rfl (by simp) (by simp) fun β1 w1 hR1 hA1 hK1 => ?_
        (repeat' ((first | with_reducible (first | apply cF_pure1 (by assumption) | apply cF_ev1 (by assumption)) | refine X_of _ ?_ | with_reducible (first | exact ⟨_, rfl⟩ | refine And.intro ?_ ?_ | intro _)) <;> try simp -implicitDefEqProofs (maxSteps := 1000000) (disch := first | exact dz1 | fail) only [vcR, vcT, simprocAttr, Ab.part, implies_true, forall_const, vcS, vcXPb, Tryz.f66, seqA_n,seqA_r,seqA_x,blockA_n,blockA_r,blockA_x,loopA_n,loopA_r,loopA_x,retA_n,retA_r]))
        clear hK1 hA1 hR1 w1 β1
        refine XA_X [0] (steady_map _ _) rfl (by simp) (by simp) fun β1 w1 hR1 hA1 hK1 => ?_
        have hF1 := hK1 _ hF0
        (repeat' ((first | with_reducible (first | apply cF_pure1 (by assumption) | apply cF_ev1 (by assumption)) | refine X_of _ ?_ | with_reducible (first | exact ⟨_, rfl⟩ | refine And.intro ?_ ?_ | intro _)) <;> try simp -implicitDefEqProofs (maxSteps := 1000000) (disch := first | exact dz1 | fail) only [vcR, vcT, simprocAttr, Ab.part, implies_true, forall_const, vcS, vcXPb, Tryz.f66, seqA_n,seqA_r,seqA_x,blockA_n,blockA_r,blockA_x,loopA_n,loopA_r,loopA_x,retA_n,retA_r]))
        refine X_loop (ι := Nat) (fun k => k ≤ n ∧ ∀ j, j < k → knS l i (P j) = true) (fun k => n - k) [8, 27, 28, 29, 30, 31, 32, 33, 34, 35, 36, 37]
          (fun k => [(27, .s (.v (.int .i64 (k : Nat))))])
          (fun k => []) 0 (shape_of fun k => ?_) (by decide) ?_ ?_
        · simp only [List.length_cons, List.length_nil, List.map_cons, List.map_nil, List.nodup_cons, List.nodup_nil, List.mem_cons, Nat.reduceAdd, Nat.reduceEqDiff, or_false, not_false_eq_true, forall_eq_or_imp, forall_eq, or_self, Nat.reduceLT, Nat.reduceLeDiff, and_self, List.forall_mem_cons, List.not_mem_nil, false_implies, implies_true, and_true, true_and, vcOPb]
        · simp -implicitDefEqProofs (maxSteps := 1000000) (disch := first | exact dz1 | fail) only [vcR, vcT, simprocAttr, Ab.part, implies_true, forall_const, vcS, vcXPb, Tryz.f66, again_eq]
          exact ⟨_, rfl⟩
        · intro k us2 ⟨hk, hkn⟩
          by_cases hkk : k < n
          · obtain ⟨ad2, rfl⟩ := hady (by omega)
            have hx : ∀ {K : TV → HE → Prop}, xext ((ctx0 Tryz.prog w).after (ctx0 Tryz.prog w).ev (ctx0 Tryz.prog w).B w1 β1 [0]) (some true) 5 (ad2.add (k * 5)) K = K (.agg (fac (P k) (E k))) .none := fun {K} => hF1.fac hkk
            have hhas := (has_m b (P k) (knS l i) (hPl k)).ev (V := Evo.none)
            cases hz : knS l i (P k) with
            | false =>
              rw [hz] at hhas
              (repeat' ((first | with_reducible (first | apply cF_pure1 (by assumption) | apply cF_ev1 (by assumption)) | refine X_of _ ?_ | with_reducible (first | exact ⟨_, rfl⟩ | refine And.intro ?_ ?_ | intro _)) <;> try simp -implicitDefEqProofs (maxSteps := 1000000) (disch := first | exact dz1 | fail) only [vcR, vcT, simprocAttr, Ab.part, implies_true, forall_const, vcS, vcXPb, Tryz.f66, seqA_n,seqA_r,seqA_x,blockA_n,blockA_r,blockA_x,loopA_n,loopA_r,loopA_x,retA_n,retA_r,hx]))
              have hck : ckA l i = 20 := ckA_un (k := k) (by rw [hli]; exact hkk) (by rw [hli]; exact hz)
              have hcs : ckS l m = 20 := by rw [ckS_short h40, ckU_stop h hU (by rw [hck]; decide), hck]
              exact ⟨b, _, hb, by rw [hcs], rfl, fun h => by rw [hcs] at h; cases h⟩
            | true =>
              rw [hz] at hhas
              (repeat' ((first | with_reducible (first | apply cF_pure1 (by assumption) | apply cF_ev1 (by assumption)) | refine X_of _ ?_ | with_reducible (first | exact ⟨_, rfl⟩ | refine And.intro ?_ ?_ | intro _)) <;> try simp -implicitDefEqProofs (maxSteps := 1000000) (disch := first | exact dz1 | fail) only [vcR, vcT, simprocAttr, Ab.part, implies_true, forall_const, vcS, vcXPb, Tryz.f66, seqA_n,seqA_r,seqA_x,blockA_n,blockA_r,blockA_x,loopA_n,loopA_r,loopA_x,retA_n,retA_r,hx]))
              refine ⟨k + 1, by omega, ?_⟩
              simp -implicitDefEqProofs (maxSteps := 1000000) (disch := first | exact dz1 | fail) only [vcR, vcT, simprocAttr, Ab.part, implies_true, forall_const, vcS, vcXPb, Tryz.f66, again_eq]
              refine ⟨fun j hj => ?_, _, rfl⟩
              by_cases hjk : j = k
              · subst hjk; exact hz
              · exact hkn j (by omega)
          · have : k = n := by omega
            subst this
            (repeat' ((first | with_reducible (first | apply cF_pure1 (by assumption) | apply cF_ev1 (by assumption)) | refine X_of _ ?_ | with_reducible (first | exact ⟨_, rfl⟩ | refine And.intro ?_ ?_ | intro _)) <;> try simp -implicitDefEqProofs (maxSteps := 1000000) (disch := first | exact dz1 | fail) only [vcR, vcT, simprocAttr, Ab.part, implies_true, forall_const, vcS, vcXPb, Tryz.f66, seqA_n,seqA_r,seqA_x,blockA_n,blockA_r,blockA_x,loopA_n,loopA_r,loopA_x,retA_n,retA_r]))
            have hst := (step_m N G y k c' P E hNl hGl hPl hEl hnl).ev (V := Evo.none)
            obtain ⟨e, he⟩ : ∃ e, stS N G k P E = e := ⟨_, rfl⟩
            have hck : ckA l i = e := by
              rw [ckA_st (by rw [hli]; exact hkn), hli]
              exact he
            rw [he] at hst
            clear hF1
            clear hK1 hA1 hR1 w1 β1
            by_cases he0 : e = 0
            · subst he0
              refine XA_seq (XA_X [0] (steady_map _ _) rfl (by simp) (by simp) fun β1 w1 hR1 hA1 hK1 => ?_)
              have hFL : Kn ((ctx0 Tryz.prog w).after (ctx0 Tryz.prog w).ev (ctx0 Tryz.prog w).B w1 β1 [0]) (fun _ w => facs y k P E w ∧ least w) := fun w' hw' => ⟨facs_of (hK1 _ hF0 w' hw'), least_of (hK1 _ hL0 w' hw')⟩
              (repeat' ((first | with_reducible (first | apply cF_pure1 (by assumption) | apply cF_ev1 (by assumption)) | refine X_of _ ?_ | with_reducible (first | exact ⟨_, rfl⟩ | refine And.intro ?_ ?_ | intro _)) <;> try simp -implicitDefEqProofs (maxSteps := 1000000) (disch := first | exact dz1 | fail) only [vcR, vcT, simprocAttr, Ab.part, implies_true, forall_const, vcS, vcXPb, Tryz.f66, seqA_n,seqA_r,seqA_x,blockA_n,blockA_r,blockA_x,loopA_n,loopA_r,loopA_x,retA_n,retA_r,bne_self_eq_false]))
              clear hFL hst
              clear hK1 hA1 hR1 w1 β1
              refine XA_reg ?_
              try simp -implicitDefEqProofs (maxSteps := 1000000) (disch := first | exact dz1 | fail) only [vcR, vcT, simprocAttr, Ab.part, implies_true, forall_const, vcS, vcXPb, Tryz.f66]
              refine XAR_step [0] (steady_map _ _) rfl (by simp) (by simp) fun β2 w2 hR2 hA2 hK2 => ?_
              try simp -implicitDefEqProofs (maxSteps := 1000000) (disch := first | exact dz1 | fail) only [vcR, vcT, simprocAttr, Ab.part, implies_true, forall_const, vcS, vcXPb, Tryz.f66]
              refine XAR_step [0] (steady_map _ _) rfl (by simp) (by simp) fun β2 w2 hR2 hA2 hK2 => ?_
              try simp -implicitDefEqProofs (maxSteps := 1000000) (disch := first | exact dz1 | fail) only [vcR, vcT, simprocAttr, Ab.part, implies_true, forall_const, vcS, vcXPb, Tryz.f66]
              refine XAR_step [0] (steady_map _ _) rfl (by simp) (by simp) fun β2 w2 hR2 hA2 hK2 => ?_
              try simp -implicitDefEqProofs (maxSteps := 1000000) (disch := first | exact dz1 | fail) only [vcR, vcT, simprocAttr, Ab.part, implies_true, forall_const, vcS, vcXPb, Tryz.f66]
              refine XAR_step [0] (steady_map _ _) rfl (by simp) (by simp) fun β2 w2 hR2 hA2 hK2 => ?_
              try simp -implicitDefEqProofs (maxSteps := 1000000) (disch := first | exact dz1 | fail) only [vcR, vcT, simprocAttr, Ab.part, implies_true, forall_const, vcS, vcXPb, Tryz.f66]
              refine XAR_step [0] (steady_map _ _) rfl (by simp) (by simp) fun β2 w2 hR2 hA2 hK2 => ?_
              try simp -implicitDefEqProofs (maxSteps := 1000000) (disch := first | exact dz1 | fail) only [vcR, vcT, simprocAttr, Ab.part, implies_true, forall_const, vcS, vcXPb, Tryz.f66]
              refine XAR_put mapTy (.inl rfl) hb (n := N) (z := (i : Int) + 1) hNl rfl rfl rfl ?_
              refine XAR_A (A' := MapAt b (knS l (i + 1))) (mapS hli) ?_
              try simp -implicitDefEqProofs (maxSteps := 1000000) (disch := first | exact dz1 | fail) only [vcR, vcT, simprocAttr, Ab.part, implies_true, forall_const, vcS, vcXPb, Tryz.f66]
              refine XAR_nil ?_
              try simp -implicitDefEqProofs (maxSteps := 1000000) (disch := first | exact dz1 | fail) only [vcR, vcT, simprocAttr, Ab.part, implies_true, forall_const, vcS, vcXPb, Tryz.f66, seqA_n,seqA_r,seqA_x,blockA_n,blockA_r,blockA_x,loopA_n,loopA_r,loopA_x,retA_n,retA_r]
              refine XA_X [0] (steady_map _ _) rfl (by simp) (by simp) fun β1 w1 hR1 hA1 hK1 => ?_
              (repeat' ((first | with_reducible (first | apply cF_pure1 (by assumption) | apply cF_ev1 (by assumption)) | refine X_of _ ?_ | with_reducible (first | exact ⟨_, rfl⟩ | refine And.intro ?_ ?_ | intro _)) <;> try simp -implicitDefEqProofs (maxSteps := 1000000) (disch := first | exact dz1 | fail) only [vcR, vcT, simprocAttr, Ab.part, implies_true, forall_const, vcS, vcXPb, Tryz.f66, seqA_n,seqA_r,seqA_x,blockA_n,blockA_r,blockA_x,loopA_n,loopA_r,loopA_x,retA_n,retA_r]))
              refine ⟨i + 1, by omega, ?_, rfl⟩
              simp -implicitDefEqProofs (maxSteps := 1000000) (disch := first | exact dz1 | fail) only [vcR, vcT, simprocAttr, Ab.part, implies_true, forall_const, vcS, vcXPb, Tryz.f66, again_eq]
              exact ⟨ckU_go hU hck, _, rfl⟩
            · have he' : (e != 0) = true := by simpa using he0
              refine XA_seq (XA_X [0] (steady_map _ _) rfl (by simp) (by simp) fun β1 w1 hR1 hA1 hK1 => ?_)
              have hFL : Kn ((ctx0 Tryz.prog w).after (ctx0 Tryz.prog w).ev (ctx0 Tryz.prog w).B w1 β1 [0]) (fun _ w => facs y k P E w ∧ least w) := fun w' hw' => ⟨facs_of (hK1 _ hF0 w' hw'), least_of (hK1 _ hL0 w' hw')⟩
              (repeat' ((first | with_reducible (first | apply cF_pure1 (by assumption) | apply cF_ev1 (by assumption)) | refine X_of _ ?_ | with_reducible (first | exact ⟨_, rfl⟩ | refine And.intro ?_ ?_ | intro _)) <;> try simp -implicitDefEqProofs (maxSteps := 1000000) (disch := first | exact dz1 | fail) only [vcR, vcT, simprocAttr, Ab.part, implies_true, forall_const, vcS, vcXPb, Tryz.f66, seqA_n,seqA_r,seqA_x,blockA_n,blockA_r,blockA_x,loopA_n,loopA_r,loopA_x,retA_n,retA_r,he']))
              have hcs : ckS l m = e := by rw [ckS_short h40, ckU_stop h hU (by rw [hck]; exact he0), hck]
              exact ⟨b, _, hb, by rw [hcs], rfl, fun h => absurd (hcs ▸ h) he0⟩
      · have : i = m := by omega
        subst this
        refine XA_X [] (steady_map _ _) rfl (by simp) (by simp) fun β1 w1 hR1 hA1 hK1 => ?_
        (repeat' ((first | with_reducible (first | apply cF_pure1 (by assumption) | apply cF_ev1 (by assumption)) | refine X_of _ ?_ | with_reducible (first | exact ⟨_, rfl⟩ | refine And.intro ?_ ?_ | intro _)) <;> try simp -implicitDefEqProofs (maxSteps := 1000000) (disch := first | exact dz1 | fail) only [vcR, vcT, simprocAttr, Ab.part, implies_true, forall_const, vcS, vcXPb, Tryz.f66, seqA_n,seqA_r,seqA_x,blockA_n,blockA_r,blockA_x,loopA_n,loopA_r,loopA_x,retA_n,retA_r]))
        clear hK1 hA1 hR1 w1 β1
        refine XA_X [] (steady_map _ _) rfl (by simp) (by simp) fun β1 w1 hR1 hA1 hK1 => ?_
        (repeat' ((first | with_reducible (first | apply cF_pure1 (by assumption) | apply cF_ev1 (by assumption)) | refine X_of _ ?_ | with_reducible (first | exact ⟨_, rfl⟩ | refine And.intro ?_ ?_ | intro _)) <;> try simp -implicitDefEqProofs (maxSteps := 1000000) (disch := first | exact dz1 | fail) only [vcR, vcT, simprocAttr, Ab.part, implies_true, forall_const, vcS, vcXPb, Tryz.f66, seqA_n,seqA_r,seqA_x,blockA_n,blockA_r,blockA_x,loopA_n,loopA_r,loopA_x,retA_n,retA_r]))
        exact ⟨b, _, hb, by rw [ckS_short h40, hU], rfl, fun _ => rfl⟩
def CkV (l : Nat → Pf) (m : Nat) (v : TV) (A : World → Prop) : Prop :=
  ∃ b p, v = .tup [.s (.v (.map (some b))), .s (.v (.int .i64 (ckS l m)))] ∧ A = MapAt b p ∧ (ckS l m = 0 → p = knS l m)
theorem check_in {Γ : Ctx} {x : Option Addr} {m c : Nat} {l : Nat → Pf} (hl : PfOk l) (hm : m < 9223372036854775808) (hP : Γ.P = Tryz.prog) (h1 : Kn Γ fun _ w => prfs x m l w) (h2 : Kn Γ fun _ w => least w) {H : Heap} :
    ∀ β w, Rep Γ H β w → True → Calls Γ.P 66 ([TV.s (.v (.slice x m c))].map (TV.conc β)).toArray w fun e w' => ∃ v A', CkV l m v A' ∧ A' w' ∧ (∀ β', e = .returned (v.conc β')) ∧ Ext Γ.ev Γ.B w w' := by
  intro β w hR _
  have h := check_c x m c l hl hm w (h1 w hR.fr.to) (h2 w hR.fr.to)
  rw [hP]
  refine h.mono ?_
  rintro e w' ⟨v, H', A', β', ⟨b, p, hb, rfl, hA, hk⟩, hA', hR', he⟩
  refine ⟨_, A', ⟨b, p, rfl, hA, hk⟩, hA', fun β'' => ?_, Ext.of_below (below_of_rep0 hR')⟩
  rw [he β' (.refl _ _)]
  rfl
theorem proves_m (x : Option Addr) (m c : Nat) (l : Nat → Pf) (n : Nat) (hl : PfOk l) (hm : m < 9223372036854775808) (hn : n < 2 ^ 256) :
    PureM Tryz.prog 46 [.s (.v (.slice x m c)), .agg (nat4 n)] (fun w => prfs x m l w ∧ least w) (.s (.v (.int .i64 (pvS l m n)))) := by
  obtain ⟨r, hr⟩ : ∃ r, pvS l m n = r := ⟨_, rfl⟩
  rw [hr]
  refine pureM_ofA Tryz.func46 rfl (by simp only [List.length_cons, List.length_nil, List.map_cons, List.map_nil, List.nodup_cons, List.nodup_nil, List.mem_cons, Nat.reduceAdd, Nat.reduceEqDiff, or_false, not_false_eq_true, forall_eq_or_imp, forall_eq, or_self, Nat.reduceLT, Nat.reduceLeDiff, and_self, List.forall_mem_cons, List.not_mem_nil, false_implies, implies_true, and_true, true_and, vcOPb]) (by simp only [List.length_cons, List.length_nil, List.map_cons, List.map_nil, List.nodup_cons, List.nodup_nil, List.mem_cons, Nat.reduceAdd, Nat.reduceEqDiff, or_false, not_false_eq_true, forall_eq_or_imp, forall_eq, or_self, Nat.reduceLT, Nat.reduceLeDiff, and_self, List.forall_mem_cons, List.not_mem_nil, false_implies, implies_true, and_true, true_and, vcOPb]) fun w hpre => ?_
  simp only [List.length_cons, List.length_nil, Tryz.ntmps46, Nat.reduceAdd, Nat.reduceSub, List.replicate_succ, List.replicate_zero, List.cons_append, List.nil_append]
  have h1 := (prfs_kn (P0 := Tryz.prog) hpre.1).prfs0
  have h2 := (least_kn (P0 := Tryz.prog) hpre.2).least0
  clear hpre
  refine XA_seq (XA_X [] steady_true rfl (by simp) (by simp) fun β1 w1 hR1 hA1 hK1 => ?_)
  (repeat' ((first | with_reducible (first | apply XR_cons | apply XR_consG | apply XR_nil | apply cF_pure1 (by assumption) | apply cF_ev1 (by assumption)) | with_reducible (first | apply gRS (by with_unfolding_all rfl) | apply gR (by with_unfolding_all rfl) | apply gS (by with_unfolding_all rfl) | fail) | refine X_of _ ?_ | with_reducible (first | exact ⟨_, rfl⟩ | refine And.intro ?_ ?_ | intro _)) <;> try simp -implicitDefEqProofs (maxSteps := 1000000) (disch := first | exact dz1 | fail) only [vcR, vcT, simprocAttr, Ab.part, implies_true, forall_const, vcS, vcXPb, Tryz.f46, seqA_n]))
  clear hR1 hA1 hK1 β1 w1
  refine XA_seq (XA_reg ?_)
  refine XAR_step [0] steady_true rfl (by simp) (by simp) fun β2 w2 hR2 hA2 hK2 => ?_
  try simp -implicitDefEqProofs (maxSteps := 1000000) (disch := first | exact dz1 | fail) only [vcR, vcT, simprocAttr, Ab.part, implies_true, forall_const, vcS, vcXPb, Tryz.f46]
  clear hK2 hA2 hR2 w2 β2
  refine XAR_call rfl rfl (by kernel_rfl) (check_in hl hm rfl h1 h2) ?_
  rintro _ _ ⟨b, p, rfl, rfl, hk⟩
  try simp -implicitDefEqProofs (maxSteps := 1000000) (disch := first | exact dz1 | fail) only [vcR, vcT, simprocAttr, Ab.part, implies_true, forall_const, vcS, vcXPb, Tryz.f46]
  iterate 5 (refine XAR_step [0] (steady_map _ _) rfl (by simp) (by simp) fun β2 w2 hR2 hA2 hK2 => ?_; try simp -implicitDefEqProofs (maxSteps := 1000000) (disch := first | exact dz1 | fail) only [vcR, vcT, simprocAttr, Ab.part, implies_true, forall_const, vcS, vcXPb, Tryz.f46]; clear hK2 hA2 hR2 w2 β2)
  refine XAR_nil ?_
  try simp -implicitDefEqProofs (maxSteps := 1000000) (disch := first | exact dz1 | fail) only [vcR, vcT, simprocAttr, Ab.part, implies_true, forall_const, vcS, vcXPb, Tryz.f46, seqA_n]
  refine XA_X [0] (steady_map _ _) rfl (by simp) (by simp) fun β1 w1 hR1 hA1 hK1 => ?_
  have hhas := (has_m b n p hn).ev (V := Evo.none)
  by_cases hc : ckS l m = 0
  · have hp := hk hc
    subst hp
    have hr' : (if knS l m n then 0 else 20) = r := by
      rw [← hr]
      unfold pvS
      rw [if_neg (show ¬ ckS l m ≠ 0 from fun h => h hc)]
    rw [hc]
    cases hz : knS l m n with
    | true =>
      rw [hz] at hhas hr'
      have hr'' : r = 0 := hr'.symm
      subst hr''
      (repeat' ((first | with_reducible (first | apply XR_cons | apply XR_consG | apply XR_nil | apply cF_pure1 (by assumption) | apply cF_ev1 (by assumption)) | with_reducible (first | apply gRS (by with_unfolding_all rfl) | apply gR (by with_unfolding_all rfl) | apply gS (by with_unfolding_all rfl) | fail) | refine X_of _ ?_ | with_reducible (first | exact ⟨_, rfl⟩ | refine And.intro ?_ ?_ | intro _)) <;> try simp -implicitDefEqProofs (maxSteps := 1000000) (disch := first | exact dz1 | fail) only [vcR, vcT, simprocAttr, Ab.part, implies_true, forall_const, vcS, vcXPb, Tryz.f46, retA_n,retA_r,beq_self_eq_true]))
    | false =>
      rw [hz] at hhas hr'
      have hr'' : r = 20 := hr'.symm
      subst hr''
      (repeat' ((first | with_reducible (first | apply XR_cons | apply XR_consG | apply XR_nil | apply cF_pure1 (by assumption) | apply cF_ev1 (by assumption)) | with_reducible (first | apply gRS (by with_unfolding_all rfl) | apply gR (by with_unfolding_all rfl) | apply gS (by with_unfolding_all rfl) | fail) | refine X_of _ ?_ | with_reducible (first | exact ⟨_, rfl⟩ | refine And.intro ?_ ?_ | intro _)) <;> try simp -implicitDefEqProofs (maxSteps := 1000000) (disch := first | exact dz1 | fail) only [vcR, vcT, simprocAttr, Ab.part, implies_true, forall_const, vcS, vcXPb, Tryz.f46, retA_n,retA_r,beq_self_eq_true]))
  · have hc' : (ckS l m == 0) = false := by rw [beq_eq_false_iff_ne]; exact hc
    have hr' : ckS l m = r := by
      rw [← hr]
      unfold pvS
      rw [if_pos hc]
    rw [hr'] at hc' ⊢
    (repeat' ((first | with_reducible (first | apply XR_cons | apply XR_consG | apply XR_nil | apply cF_pure1 (by assumption) | apply cF_ev1 (by assumption)) | with_reducible (first | apply gRS (by with_unfolding_all rfl) | apply gR (by with_unfolding_all rfl) | apply gS (by with_unfolding_all rfl) | fail) | refine X_of _ ?_ | with_reducible (first | exact ⟨_, rfl⟩ | refine And.intro ?_ ?_ | intro _)) <;> try simp -implicitDefEqProofs (maxSteps := 1000000) (disch := first | exact dz1 | fail) only [vcR, vcT, simprocAttr, Ab.part, implies_true, forall_const, vcS, vcXPb, Tryz.f46, retA_n,retA_r,hc']))
def gv (w : World) : Prop := least w ∧ gnat 0 5 w ∧ gnat 1 2 w ∧ gnat 2 1 w
def grOK (P Q G : Nat) : Prop := OddM P ∧ OddM Q ∧ 5 ≤ P ∧ Q < P ∧ 2 ≤ G ∧ G < P ∧ G ^ Q % P = 1
theorem XA_of' {Γ : Ctx} {A : World → Prop} {c : Code} {T : List TV} {H : Heap} {Q : QA} (h : X Γ c T H fun e T H => Q e T H fun _ => True) : XA Γ A c T H Q := XA_of h fun _ _ _ h => h
theorem gv_one {P0 : Program} {w w1 : World} {H : Heap} {β : Nat → Nat} {L : List Nat} (h : gv w) (hR : Rep (ctx0 P0 w) H β w1) (hlt : ∀ i ∈ L, i < H.length) : Kn ((ctx0 P0 w).after (modEvo 135) w.heap.size w1 β L) oneK := kn_law hR hlt oneK_stays (gnat_at _ h.2.2.2)
theorem mem_of {P Q a : Nat} (hQ : 0 < Q) (ha : a < P) (h : a ^ Q % P = 1) : memB P Q a = true := by
  have h0 : a ≠ 0 := by
    rintro rfl
    rw [Nat.zero_pow hQ, Nat.zero_mod] at h
    cases h
  unfold memB
  rw [decide_eq_true h0, decide_eq_true ha, decide_eq_true h]
  rfl
theorem one_pow_mod {P n : Nat} (hP : 1 < P) : 1 ^ n % P = 1 := by rw [Nat.one_pow, Nat.mod_eq_of_lt hP]
theorem powQ {P Q a n : Nat} (hP : 1 < P) (h : a ^ Q % P = 1) : (a ^ n % P) ^ Q % P = 1 := by
  rw [← Nat.pow_mod, ← Nat.pow_mul, Nat.mul_comm, Nat.pow_mul, Nat.pow_mod, h, one_pow_mod hP]
theorem mem_pow {P Q a n : Nat} (hP : 1 < P) (hQ : 0 < Q) (h : a ^ Q % P = 1) : memB P Q (a ^ n % P) = true := mem_of hQ (Nat.mod_lt _ (by omega)) (powQ hP h)
theorem pow_modQ {P Q G x : Nat} (hP : 1 < P) (h : G ^ Q % P = 1) : G ^ (x % Q) % P = G ^ x % P := by
  have h1 : x = Q * (x / Q) + x % Q := (Nat.div_add_mod x Q).symm
  have h2 : G ^ x % P = G ^ (Q * (x / Q) + x % Q) % P := by rw [← h1]
  rw [h2, Nat.pow_add, Nat.mul_mod, Nat.pow_mul, Nat.pow_mod (G ^ Q), h, one_pow_mod hP, Nat.one_mul, Nat.mod_mod]
/-! Tryz# One power, one product -/
/-! Tryz# GroupSums -/
/-! Tryz# GroupBack -/
/-! Tryz# GroupTurned -/
def prdN (a b : Nat → Nat) : Nat → Nat
  | 0 => 1
  | n + 1 => prdN a b n * a n ^ b n
theorem mulS_prd {P : Nat} (hP : 1 < P) (a b : Nat → Nat) : ∀ n, mulS P a b n = prdN a b n % P
  | 0 => (Nat.mod_eq_of_lt hP).symm
  | n + 1 => by
    show mulS P a b n * (a n ^ b n % P) % P = prdN a b n * a n ^ b n % P
    rw [mulS_prd hP a b n, ← Nat.mul_mod]
theorem prdN_congr {a b a' b' : Nat → Nat} : ∀ {n}, (∀ i, i < n → a i = a' i ∧ b i = b' i) → prdN a b n = prdN a' b' n
  | 0, _ => rfl
  | n + 1, h => by
    show prdN a b n * a n ^ b n = prdN a' b' n * a' n ^ b' n
    rw [prdN_congr fun i hi => h i (by omega), (h n (by omega)).1, (h n (by omega)).2]
theorem muS_ok {P Q n : Nat} {a : Nat → Nat} (hn : n ≤ 40) (h : allM P Q n a = true) : muE P Q n n a = 0 := by rw [muE_ok (by omega), h]; rfl
theorem muV_ok {P Q n : Nat} {a b : Nat → Nat} (hn : n ≤ 40) (h : allM P Q n a = true) : muV P Q n n a b = mulS P a b n := by unfold muV; rw [muS_ok hn h]; rfl
/-! Tryz# GroupFew -/
def maskP (P G : Nat) : Nat → Nat → Nat → Nat
  | 0, _, m => m
  | n + 1, x, m => maskP P G n (x * G % P) (m ||| (1 <<< x))
def allUp (f : Nat → Bool) : Nat → Bool
  | 0 => true
  | n + 1 => allUp f n && f n
theorem allUp_iff {f : Nat → Bool} : ∀ {n}, allUp f n = true → ∀ i, i < n → f i = true
  | 0, _, i, hi => absurd hi (Nat.not_lt_zero i)
  | n + 1, h, i, hi => by
    obtain ⟨h1, h2⟩ := Bool.and_eq_true_iff.1 h
    by_cases h3 : i < n
    · exact allUp_iff h1 i h3
    · have : i = n := by omega
      subst this
      exact h2
def fewB (P Q G : Nat) : Bool := allUp (fun a => memB P Q a == (maskP P G Q (1 % P) 0).testBit a) P && allUp (fun i => i == 0 || decide (G ^ i % P ≠ 1)) Q
theorem few_inj1 {P Q G : Nat} (hP : 1 < P) (hg : G ^ Q % P = 1) (h : fewB P Q G = true) {i j : Nat} (hij : i ≤ j) (hj : j < Q) (he : G ^ i % P = G ^ j % P) : i = j := by
  obtain ⟨h1, h2⟩ := Bool.and_eq_true_iff.1 h
  have h3 : G ^ (j - i) % P = 1 := by
    have h4 : G ^ (Q - i + j) % P = G ^ (j - i) % P := by
      rw [show Q - i + j = Q + (j - i) by omega, Nat.pow_add, Nat.mul_mod, hg, Nat.one_mul, Nat.mod_mod]
    rw [← h4, Nat.pow_add, Nat.mul_mod, ← he, ← Nat.mul_mod, ← Nat.pow_add, show Q - i + i = Q by omega, hg]
  have h5 := allUp_iff h2 (j - i) (by omega)
  rcases Bool.or_eq_true_iff.1 h5 with h6 | h6
  · have := beq_iff_eq.1 h6
    omega
  · exact absurd h3 (of_decide_eq_true h6)
theorem few_inj {P Q G : Nat} (hP : 1 < P) (hg : G ^ Q % P = 1) (h : fewB P Q G = true) {i j : Nat} (hi : i < Q) (hj : j < Q) : decide (G ^ i % P = G ^ j % P) = decide (i = j) := by
  by_cases hij : i = j
  · rw [decide_eq_true hij, hij, decide_eq_true rfl]
  · rw [decide_eq_false hij, decide_eq_false fun he => hij ?_]
    rcases Nat.le_total i j with h1 | h1
    · exact few_inj1 hP hg h h1 hj he
    · exact (few_inj1 hP hg h h1 hi he.symm).symm
/-! Tryz# The four -/
theorem sm_few (z : Int) : fewB (smP z) (smQ z) 4 = true := by
  unfold smP smQ
  split
  · kernel_rfl
  · split
    · kernel_rfl
    · split <;> kernel_rfl
structure SmOk (P Q : Nat) : Prop where
  gr : grOK P Q 4
  few : fewB P Q 4 = true
  lt : Q < 18446744073709551616
theorem sm_ok (z : Int) : SmOk (smP z) (smQ z) := by
  refine ⟨?_, sm_few z, ?_⟩
  · unfold smP smQ
    split
    · exact ⟨⟨by decide, by decide, by decide⟩, ⟨by decide, by decide, by decide⟩, by decide, by decide, by decide, by decide, by kernel_rfl⟩
    · split
      · exact ⟨⟨by decide, by decide, by decide⟩, ⟨by decide, by decide, by decide⟩, by decide, by decide, by decide, by decide, by kernel_rfl⟩
      · split <;> exact ⟨⟨by decide, by decide, by decide⟩, ⟨by decide, by decide, by decide⟩, by decide, by decide, by decide, by decide, by kernel_rfl⟩
  · unfold smQ
    split
    · decide
    · split
      · decide
      · split <;> decide
theorem muV_lt2 {P : Nat} (h : OddM P) (Q n m : Nat) (a b : Nat → Nat) : muV P Q n m a b < 2 ^ 256 := by
  unfold muV
  split
  · exact mulS_lt h a b n
  · decide
def r2B (P Q G n : Nat) (l : Nat → Nat) (s : Int) (a : Nat) : Bool := decide (a < Q) && decide (G ^ a % P = muV P Q n n l (pwN Q (placeN s)))
def r2E (P Q G n : Nat) (l : Nat → Nat) (s : Int) (a : Nat) : Int := if muE P Q n n l = 0 then (if r2B P Q G n l s a then 0 else 40) else muE P Q n n l
def trH7n35x2 : Tr := (.cons 6 (.cons 7 (.cons 8 (.cons 9 (.cons 10 (.cons 11 (.cons 12 (.cons 13 (.cons 14 (.cons 15 (.cons 16 .nil .nil) .nil) .nil) .nil) (.cons 13 (.cons 12 (.cons 14 (.cons 15 (.cons 16 .nil .nil) .nil) .nil) .nil) .nil)) (.cons 13 (.cons 11 (.cons 12 (.cons 14 (.cons 15 (.cons 16 .nil .nil) .nil) .nil) .nil) .nil) .nil)) (.cons 13 (.cons 10 (.cons 11 (.cons 12 (.cons 14 (.cons 15 (.cons 16 .nil .nil) .nil) .nil) .nil) .nil) .nil) .nil)) (.cons 10 (.cons 9 (.cons 11 (.cons 12 (.cons 13 (.cons 14 (.cons 15 (.cons 16 .nil .nil) .nil) .nil) .nil) (.cons 13 (.cons 12 (.cons 14 (.cons 15 (.cons 16 .nil .nil) .nil) .nil) .nil) .nil)) (.cons 13 (.cons 11 (.cons 12 (.cons 14 (.cons 15 (.cons 16 .nil .nil) .nil) .nil) .nil) .nil) .nil)) (.cons 11 (.cons 9 (.cons 12 (.cons 13 (.cons 14 (.cons 15 (.cons 16 .nil .nil) .nil) .nil) .nil) (.cons 13 (.cons 12 (.cons 14 (.cons 15 (.cons 16 .nil .nil) .nil) .nil) .nil) .nil)) (.cons 13 (.cons 9 (.cons 12 (.cons 14 (.cons 15 (.cons 16 .nil .nil) .nil) .nil) .nil) .nil) .nil)) (.cons 13 (.cons 9 (.cons 11 (.cons 12 (.cons 14 (.cons 15 (.cons 16 .nil .nil) .nil) .nil) .nil) .nil) (.cons 11 (.cons 9 (.cons 12 (.cons 14 (.cons 15 (.cons 16 .nil .nil) .nil) .nil) .nil) .nil) .nil)) .nil))) (.cons 13 (.cons 9 (.cons 10 (.cons 11 (.cons 12 (.cons 14 (.cons 15 (.cons 16 .nil .nil) .nil) .nil) .nil) .nil) .nil) (.cons 10 (.cons 9 (.cons 11 (.cons 12 (.cons 14 (.cons 15 (.cons 16 .nil .nil) .nil) .nil) .nil) .nil) (.cons 11 (.cons 9 (.cons 12 (.cons 14 (.cons 15 (.cons 16 .nil .nil) .nil) .nil) .nil) .nil) .nil)) .nil)) .nil))) .nil) .nil) .nil)
def trH7n35x1 : Tr := (.cons 5 (.cons 6 (.cons 7 (.cons 8 (.cons 9 (.cons 10 (.cons 11 (.cons 12 (.cons 13 (.cons 14 (.cons 15 .nil .nil) .nil) .nil) (.cons 13 (.cons 12 (.cons 14 (.cons 15 .nil .nil) .nil) (.cons 14 (.cons 12 (.cons 15 .nil .nil) .nil) .nil)) .nil)) (.cons 12 (.cons 11 (.cons 13 (.cons 14 (.cons 15 .nil .nil) .nil) .nil) (.cons 13 (.cons 11 (.cons 14 (.cons 15 .nil .nil) .nil) .nil) .nil)) (.cons 13 (.cons 11 (.cons 12 (.cons 14 (.cons 15 .nil .nil) .nil) (.cons 14 (.cons 12 (.cons 15 .nil .nil) .nil) .nil)) (.cons 12 (.cons 11 (.cons 14 (.cons 15 .nil .nil) .nil) .nil) .nil)) .nil))) (.cons 13 (.cons 10 (.cons 11 (.cons 12 (.cons 14 (.cons 15 .nil .nil) .nil) (.cons 14 (.cons 12 (.cons 15 .nil .nil) .nil) .nil)) (.cons 12 (.cons 11 (.cons 14 (.cons 15 .nil .nil) .nil) .nil) .nil)) .nil) .nil)) (.cons 13 (.cons 9 (.cons 10 (.cons 11 (.cons 12 (.cons 14 (.cons 15 .nil .nil) .nil) (.cons 14 (.cons 12 (.cons 15 .nil .nil) .nil) .nil)) (.cons 12 (.cons 11 (.cons 14 (.cons 15 .nil .nil) .nil) .nil) .nil)) .nil) .nil) .nil)) (.cons 13 (.cons 8 (.cons 9 (.cons 10 (.cons 11 (.cons 12 (.cons 14 (.cons 15 .nil .nil) .nil) (.cons 14 (.cons 12 (.cons 15 .nil .nil) .nil) .nil)) (.cons 12 (.cons 11 (.cons 14 (.cons 15 .nil .nil) .nil) .nil) .nil)) .nil) .nil) .nil) .nil)) (.cons 13 (.cons 7 (.cons 8 (.cons 9 (.cons 10 (.cons 11 (.cons 12 (.cons 14 (.cons 15 .nil .nil) .nil) (.cons 14 (.cons 12 (.cons 15 .nil .nil) .nil) .nil)) (.cons 12 (.cons 11 (.cons 14 (.cons 15 .nil .nil) .nil) .nil) .nil)) .nil) .nil) .nil) .nil) .nil)) (.cons 13 (.cons 6 (.cons 7 (.cons 8 (.cons 9 (.cons 10 (.cons 11 (.cons 12 (.cons 14 (.cons 15 .nil .nil) .nil) (.cons 14 (.cons 12 (.cons 15 .nil .nil) .nil) .nil)) (.cons 12 (.cons 11 (.cons 14 (.cons 15 .nil .nil) .nil) .nil) .nil)) .nil) .nil) .nil) .nil) .nil) .nil)) (.cons 6 (.cons 5 (.cons 7 (.cons 8 (.cons 9 (.cons 10 (.cons 11 (.cons 12 (.cons 13 (.cons 14 (.cons 15 .nil .nil) .nil) .nil) (.cons 13 (.cons 12 (.cons 14 (.cons 15 .nil .nil) .nil) (.cons 14 (.cons 12 (.cons 15 .nil .nil) .nil) .nil)) .nil)) (.cons 12 (.cons 11 (.cons 13 (.cons 14 (.cons 15 .nil .nil) .nil) .nil) (.cons 13 (.cons 11 (.cons 14 (.cons 15 .nil .nil) .nil) .nil) .nil)) (.cons 13 (.cons 11 (.cons 12 (.cons 14 (.cons 15 .nil .nil) .nil) (.cons 14 (.cons 12 (.cons 15 .nil .nil) .nil) .nil)) (.cons 12 (.cons 11 (.cons 14 (.cons 15 .nil .nil) .nil) .nil) .nil)) .nil))) (.cons 13 (.cons 10 (.cons 11 (.cons 12 (.cons 14 (.cons 15 .nil .nil) .nil) (.cons 14 (.cons 12 (.cons 15 .nil .nil) .nil) .nil)) (.cons 12 (.cons 11 (.cons 14 (.cons 15 .nil .nil) .nil) .nil) .nil)) .nil) .nil)) (.cons 13 (.cons 9 (.cons 10 (.cons 11 (.cons 12 (.cons 14 (.cons 15 .nil .nil) .nil) (.cons 14 (.cons 12 (.cons 15 .nil .nil) .nil) .nil)) (.cons 12 (.cons 11 (.cons 14 (.cons 15 .nil .nil) .nil) .nil) .nil)) .nil) .nil) .nil)) (.cons 13 (.cons 8 (.cons 9 (.cons 10 (.cons 11 (.cons 12 (.cons 14 (.cons 15 .nil .nil) .nil) (.cons 14 (.cons 12 (.cons 15 .nil .nil) .nil) .nil)) (.cons 12 (.cons 11 (.cons 14 (.cons 15 .nil .nil) .nil) .nil) .nil)) .nil) .nil) .nil) .nil)) (.cons 13 (.cons 7 (.cons 8 (.cons 9 (.cons 10 (.cons 11 (.cons 12 (.cons 14 (.cons 15 .nil .nil) .nil) (.cons 14 (.cons 12 (.cons 15 .nil .nil) .nil) .nil)) (.cons 12 (.cons 11 (.cons 14 (.cons 15 .nil .nil) .nil) .nil) .nil)) .nil) .nil) .nil) .nil) .nil)) (.cons 7 (.cons 5 (.cons 8 (.cons 9 (.cons 10 (.cons 11 (.cons 12 (.cons 13 (.cons 14 (.cons 15 .nil .nil) .nil) .nil) (.cons 13 (.cons 12 (.cons 14 (.cons 15 .nil .nil) .nil) (.cons 14 (.cons 12 (.cons 15 .nil .nil) .nil) .nil)) .nil)) (.cons 12 (.cons 11 (.cons 13 (.cons 14 (.cons 15 .nil .nil) .nil) .nil) (.cons 13 (.cons 11 (.cons 14 (.cons 15 .nil .nil) .nil) .nil) .nil)) (.cons 13 (.cons 11 (.cons 12 (.cons 14 (.cons 15 .nil .nil) .nil) (.cons 14 (.cons 12 (.cons 15 .nil .nil) .nil) .nil)) (.cons 12 (.cons 11 (.cons 14 (.cons 15 .nil .nil) .nil) .nil) .nil)) .nil))) (.cons 13 (.cons 10 (.cons 11 (.cons 12 (.cons 14 (.cons 15 .nil .nil) .nil) (.cons 14 (.cons 12 (.cons 15 .nil .nil) .nil) .nil)) (.cons 12 (.cons 11 (.cons 14 (.cons 15 .nil .nil) .nil) .nil) .nil)) .nil) .nil)) (.cons 13 (.cons 9 (.cons 10 (.cons 11 (.cons 12 (.cons 14 (.cons 15 .nil .nil) .nil) (.cons 14 (.cons 12 (.cons 15 .nil .nil) .nil) .nil)) (.cons 12 (.cons 11 (.cons 14 (.cons 15 .nil .nil) .nil) .nil) .nil)) .nil) .nil) .nil)) (.cons 13 (.cons 8 (.cons 9 (.cons 10 (.cons 11 (.cons 12 (.cons 14 (.cons 15 .nil .nil) .nil) (.cons 14 (.cons 12 (.cons 15 .nil .nil) .nil) .nil)) (.cons 12 (.cons 11 (.cons 14 (.cons 15 .nil .nil) .nil) .nil) .nil)) .nil) .nil) .nil) .nil)) (.cons 13 (.cons 5 (.cons 8 (.cons 9 (.cons 10 (.cons 11 (.cons 12 (.cons 14 (.cons 15 .nil .nil) .nil) .nil) .nil) .nil) .nil) .nil) .nil) .nil)) .nil)) .nil))
theorem right2_e (jg jc jp k kx kq P Q G : Nat) (x : Option Addr) (n c : Nat) (l : Nat → Nat) (s : Int) (a : Nat) (hP2 : P < 2 ^ 256) (hQ2 : Q < 2 ^ 256) (hG2 : G < 2 ^ 256) (hl : ∀ i, l i < 2 ^ 256) (ha : a < 2 ^ 256) (hn1 : 1 ≤ n) (hn : n ≤ 20) (hs0 : 0 ≤ s) (hs1 : s < 40) :
    EvC (modEvo 135) Tryz.prog 35 [.s (.v (.pointer (some ⟨jg, 0, none⟩))), .s (.v (.pointer (some ⟨jc, 0, none⟩))), .s (.v (.pointer (some ⟨jp, 0, none⟩)))] (fun B w => (GK k kx kq P Q G B w ∧ oneK B w) ∧ boxesAt jg jc jp k x n c s a B w ∧ natsAt (modEvo 135) x n l B w)
      (.s (.v (.int .i64 (r2E P Q G n l s a)))) := by
  (refine evC_of Tryz.func35 rfl (by simp only [List.length_cons, List.length_nil, List.map_cons, List.map_nil, List.nodup_cons, List.nodup_nil, List.mem_cons, Nat.reduceAdd, Nat.reduceEqDiff, or_false, not_false_eq_true, forall_eq_or_imp, forall_eq, or_self, Nat.reduceLT, Nat.reduceLeDiff, and_self, List.forall_mem_cons, List.not_mem_nil, false_implies, implies_true, and_true, true_and, vcOHb]) (by simp only [List.length_cons, List.length_nil, List.map_cons, List.map_nil, List.nodup_cons, List.nodup_nil, List.mem_cons, Nat.reduceAdd, Nat.reduceEqDiff, or_false, not_false_eq_true, forall_eq_or_imp, forall_eq, or_self, Nat.reduceLT, Nat.reduceLeDiff, and_self, List.forall_mem_cons, List.not_mem_nil, false_implies, implies_true, and_true, true_and, vcOHb]) fun B w hpre => ?_; simp only [List.length_cons, List.length_nil, Tryz.ntmps35, Nat.reduceAdd, Nat.reduceSub, List.replicate_succ, List.replicate_zero, List.cons_append, List.nil_append])
  have h0 := Kn.entry (P := Tryz.prog) (((isGrp_stays 135 k kx kq P Q G).and oneK_stays).and ((boxesAt_stays jg jc jp k x n c s a).and (natsAt_stays _ x n l))) hpre
  have hG := h0.left.left
  have hO := h0.left.right
  have hb := h0.right.left
  have hN := h0.right.right
  obtain ⟨hOP, hOQ⟩ := hG.gOdd
  have g1 : ∀ {K : TV → HE → Prop} {q : Nat}, xext (ctxE Tryz.prog (modEvo 135) w B) (some false) q ⟨jg, 0, none⟩ K = K (.s (.v (.pointer (some ⟨k, 0, none⟩)))) .none := fun {K} => Kn.bxg hb
  have g2 : ∀ {K : TV → HE → Prop} {q : Nat}, xext (ctxE Tryz.prog (modEvo 135) w B) (some false) q ⟨jc, 0, none⟩ K = K (.s (.v (.slice x n c))) .none := fun {K} => Kn.bxc hb
  have g3 : ∀ {K : TV → HE → Prop} {q : Nat}, xext (ctxE Tryz.prog (modEvo 135) w B) (some false) q ⟨jp, 0, none⟩ K = K (.s (.v (.int .i64 s))) .none := fun {K} => Kn.bxs hb
  have g4 : ∀ {K : TV → HE → Prop}, xext (ctxE Tryz.prog (modEvo 135) w B) (some true) 4 ⟨jp, 1, none⟩ K = K (.agg (nat4 a)) .none := fun {K} => Kn.bxa hb
  clear hpre h0 hb
  have hp2 : placeN s < 2 ^ 256 := by unfold placeN; omega
  have e1 := place_c s (by omega) (by omega)
  have e2 := powers_n k kx kq P Q G (placeN s) n hp2 hn1 (by omega)
  have e3 := fun y d => gMulti_e x y n n c d l (pwN Q (placeN s)) k kx kq P Q G hP2 hQ2 hl (pwN_lt hOQ) (by omega) (by omega)
  have e4 := below_e k kx kq P Q G a ha
  have e5 := gBase_e k kx kq P Q G a hG2 ha
  have b1 := muV_lt2 hOP Q n n l (pwN Q (placeN s))
  have b2 : G ^ a % P < 2 ^ 256 := hOP.mod_lt
  have hE : r2E P Q G n l s a = if muE P Q n n l = 0 then (if decide (a < Q) && decide (G ^ a % P = muV P Q n n l (pwN Q (placeN s))) then 0 else 40) else muE P Q n n l := rfl
  obtain ⟨r, hr⟩ : ∃ r, r2E P Q G n l s a = r := ⟨_, rfl⟩
  rw [hr] at hE ⊢
  clear hr
  obtain ⟨v, hv⟩ : ∃ v, muV P Q n n l (pwN Q (placeN s)) = v := ⟨_, rfl⟩
  obtain ⟨e, he⟩ : ∃ e, muE P Q n n l = e := ⟨_, rfl⟩
  obtain ⟨u, hu⟩ : ∃ u, G ^ a % P = u := ⟨_, rfl⟩
  obtain ⟨f, hf⟩ : ∃ f, pwN Q (placeN s) = f := ⟨_, rfl⟩
  obtain ⟨p, hp⟩ : ∃ p, placeN s = p := ⟨_, rfl⟩
  simp only [hv, he] at e3 b1 hE
  simp only [hf] at e3
  rw [hu] at e5 b2 hE
  rw [hf] at e2
  rw [hp] at e1 e2 hp2
  clear hv he hu hf hp hl hOP hOQ
  have hn0 : n ≠ 0 := by omega
  (repeat' ((first | with_reducible (first | apply XR_cons | apply XR_consG | apply XR_nil | apply XM_cons | apply XM_consG | apply XM_nil | apply cF_pure3 (by assumption) | apply cM_pure3 (by assumption) | apply cF_ev3 (by assumption) | apply cM_ev3 (by assumption)) | (with_reducible apply X_drawM (id := 2) 6 [] trH7n35x2; (next => (kernel_rfl)); (next => (kernel_rfl))) | refine X_of _ ?_ | with_reducible (first | exact ⟨_, rfl⟩ | refine And.intro ?_ ?_ | intro _)) <;> try simp -implicitDefEqProofs (maxSteps := 1000000) (disch := first | exact dz3 | fail) only [vcR, vcT, simprocAttr, Ab.part, implies_true, forall_const, vcS, vcXHb, Tryz.f35, g1,g2,g3,addr_add, trH7n35x2]))
  (refine X_drawC2 8 [] (.cons 8 (.cons 9 (.cons 10 (.cons 11 (.cons 12 (.cons 13 (.cons 14 (.cons 15 .nil .nil) .nil) .nil) (.cons 13 (.cons 12 (.cons 14 (.cons 15 .nil .nil) .nil) (.cons 14 (.cons 12 (.cons 15 .nil .nil) .nil) .nil)) .nil)) (.cons 12 (.cons 11 (.cons 13 (.cons 14 (.cons 15 .nil .nil) .nil) .nil) (.cons 13 (.cons 11 (.cons 14 (.cons 15 .nil .nil) .nil) .nil) .nil)) (.cons 13 (.cons 11 (.cons 12 (.cons 14 (.cons 15 .nil .nil) .nil) (.cons 14 (.cons 12 (.cons 15 .nil .nil) .nil) .nil)) (.cons 12 (.cons 11 (.cons 14 (.cons 15 .nil .nil) .nil) .nil) .nil)) .nil))) (.cons 13 (.cons 10 (.cons 11 (.cons 12 (.cons 14 (.cons 15 .nil .nil) .nil) (.cons 14 (.cons 12 (.cons 15 .nil .nil) .nil) .nil)) (.cons 12 (.cons 11 (.cons 14 (.cons 15 .nil .nil) .nil) .nil) .nil)) .nil) .nil)) (.cons 13 (.cons 9 (.cons 10 (.cons 11 (.cons 12 (.cons 14 (.cons 15 .nil .nil) .nil) (.cons 14 (.cons 12 (.cons 15 .nil .nil) .nil) .nil)) (.cons 12 (.cons 11 (.cons 14 (.cons 15 .nil .nil) .nil) .nil) .nil)) .nil) .nil) .nil)) (.cons 13 (.cons 8 (.cons 9 (.cons 10 (.cons 11 (.cons 12 (.cons 14 (.cons 15 .nil .nil) .nil) (.cons 14 (.cons 12 (.cons 15 .nil .nil) .nil) .nil)) (.cons 12 (.cons 11 (.cons 14 (.cons 15 .nil .nil) .nil) .nil) .nil)) .nil) .nil) .nil) .nil)) (by kernel_rfl) (by kernel_rfl) ?_; simp only [List.take_succ_cons, List.take_zero])
  (repeat ((first | with_reducible refine XW_slice ?_ | with_reducible refine XW_cons ?_ | with_reducible refine XW_consG ?_ | with_reducible refine XW_nil ?_); try simp -implicitDefEqProofs (maxSteps := 1000000) (disch := first | exact dz3 | fail) only [vcR, vcT, simprocAttr, Ab.part, implies_true, forall_const, vcS, vcXHb, Tryz.f35, g1,g2,g3,addr_add]))
  refine cM_pure3 e1 ?_
  (repeat ((first | with_reducible refine XW_slice ?_ | with_reducible refine XW_cons ?_ | with_reducible refine XW_consG ?_ | with_reducible refine XW_nil ?_); try simp -implicitDefEqProofs (maxSteps := 1000000) (disch := first | exact dz3 | fail) only [vcR, vcT, simprocAttr, Ab.part, implies_true, forall_const, vcS, vcXHb, Tryz.f35, g1,g2,g3,addr_add]))
  have hp1 : ∀ {H : Heap} {K : TV → Heap → Prop}, (∀ (c1 : Nat) (sp1 : List Value), n ≤ c1 → sp1.length = (c1 - n) * 4 → K (.s (.sl H.length 0 n c1)) (H ++ [⟨26, nats n f ++ sp1.map SV.v⟩])) →
      xcallF (ctxE Tryz.prog (modEvo 135) w B) H 37 [.s (.v (.pointer (some ⟨k, 0, none⟩))), .agg (nat4 p), .s (.v (.int .i64 (n : Int)))] K := by
    intro H K hk
    refine xcall_evn (by kernel_rfl) (fun β w' hR => ⟨_, e2, hG w' hR.fr.to⟩) ?_
    rintro _ _ ⟨c1, sp1, hc1, rfl, rfl⟩
    have h2 := hk c1 sp1 (hc1 hn0).1 (hc1 hn0).2
    rw [ren_rowS, rowS_s hn0, rowH_s hn0, Nat.zero_add]
    exact h2
  have hm1 : ∀ {H : Heap} {K : TV → Heap → Prop} {j c1 : Nat} {sp1 : List Value}, H[j]? = some ⟨26, nats n f ++ sp1.map SV.v⟩ → K (.tup [.agg (nat4 v), .s (.v (.int .i64 e))]) H →
      xcallF (ctxE Tryz.prog (modEvo 135) w B) H 36 [.s (.v (.pointer (some ⟨k, 0, none⟩))), .s (.v (.slice x n c)), .s (.sl j 0 n c1)] K := by
    intro H K j c1 sp1 hj hk
    exact yF_evz (fun β w' hR => ⟨_, e3 (some ⟨β j, 0, none⟩) c1, ⟨hN w' hR.fr.to, natsAt_own hR hj (by decide)⟩, hG w' hR.fr.to, hO w' hR.fr.to⟩) rfl rfl (by kernel_rfl) hk
  repeat' (first
    | ((with_reducible apply xTrC_cons); rfl)
    | ((with_reducible refine hp1 ?_); intro c1 sp1 hc1 hs1)
    | ((with_reducible apply hm1); rfl)
    | simp -implicitDefEqProofs (maxSteps := 1000000) (disch := first | exact dz3 | fail) only [vcR, vcT, simprocAttr, Ab.part, implies_true, forall_const, vcS, vcXHb, Tryz.f35, xTrC_end,xTrC_last,g1,g2,g3,addr_add])
  clear hp1 hm1 e1 e2 e3
  all_goals
    by_cases e0 : e = 0
    · subst e0
      rw [if_pos rfl] at hE
      cases hq : decide (a < Q) with
      | false =>
        rw [hq] at e4 hE
        rw [Bool.false_and, if_neg (by decide)] at hE
        subst hE
        (repeat' ((first | with_reducible (first | apply XQ_cons | apply XQ_consG | apply XQ_nil | apply XR_cons | apply XR_consG | apply XR_nil | apply XM_cons | apply XM_consG | apply XM_nil | apply cF_pure3 (by assumption) | apply cV_pure3 (by assumption) | apply cM_pure3 (by assumption) | apply cF_ev3 (by assumption) | apply cV_ev3 (by assumption) | apply cM_ev3 (by assumption)) | (with_reducible apply X_drawM (id := 1) 5 [] trH7n35x1; (next => (kernel_rfl)); (next => (kernel_rfl))) | (with_reducible apply X_drawC (id := 2) 17; (next => (kernel_rfl)); (next => (kernel_rfl))) | refine X_of _ ?_ | with_reducible (first | exact ⟨_, rfl⟩ | refine And.intro ?_ ?_ | intro _)) <;> try simp -implicitDefEqProofs (maxSteps := 1000000) (disch := first | exact dz3 | fail) only [vcR, vcT, simprocAttr, Ab.part, implies_true, forall_const, vcS, vcXHb, Tryz.f35, g1,g2,g3,g4,addr_add,bne_self_eq_false,beq_self_eq_true, trH7n35x1]))
      | true =>
        rw [hq] at e4 hE
        rw [Bool.true_and] at hE
        by_cases huv : u = v
        · subst huv
          rw [decide_eq_true rfl, if_pos rfl] at hE
          subst hE
          (repeat' ((first | with_reducible (first | apply XQ_cons | apply XQ_consG | apply XQ_nil | apply XR_cons | apply XR_consG | apply XR_nil | apply XM_cons | apply XM_consG | apply XM_nil | apply cF_pure3 (by assumption) | apply cV_pure3 (by assumption) | apply cM_pure3 (by assumption) | apply cF_ev3 (by assumption) | apply cV_ev3 (by assumption) | apply cM_ev3 (by assumption)) | (with_reducible apply X_drawM (id := 1) 5 [] trH7n35x1; (next => (kernel_rfl)); (next => (kernel_rfl))) | (with_reducible apply X_drawC (id := 2) 17; (next => (kernel_rfl)); (next => (kernel_rfl))) | refine X_of _ ?_ | with_reducible (first | exact ⟨_, rfl⟩ | refine And.intro ?_ ?_ | intro _)) <;> try simp -implicitDefEqProofs (maxSteps := 1000000) (disch := first | exact dz3 | fail) only [vcR, vcT, simprocAttr, Ab.part, implies_true, forall_const, vcS, vcXHb, Tryz.f35, g1,g2,g3,g4,addr_add,bne_self_eq_false,beq_self_eq_true,litsEq_self, trH7n35x1]))
        · rw [decide_eq_false huv, if_neg (by decide)] at hE
          subst hE
          have hd : decide (u = v) = false := decide_eq_false huv
          (repeat' ((first | with_reducible (first | apply XQ_cons | apply XQ_consG | apply XQ_nil | apply XR_cons | apply XR_consG | apply XR_nil | apply XM_cons | apply XM_consG | apply XM_nil | apply cF_pure3 (by assumption) | apply cV_pure3 (by assumption) | apply cM_pure3 (by assumption) | apply cF_ev3 (by assumption) | apply cV_ev3 (by assumption) | apply cM_ev3 (by assumption)) | (with_reducible apply X_drawM (id := 1) 5 [] trH7n35x1; (next => (kernel_rfl)); (next => (kernel_rfl))) | (with_reducible apply X_drawC (id := 2) 17; (next => (kernel_rfl)); (next => (kernel_rfl))) | refine X_of _ ?_ | with_reducible (first | exact ⟨_, rfl⟩ | refine And.intro ?_ ?_ | intro _)) <;> try simp -implicitDefEqProofs (maxSteps := 1000000) (disch := first | exact dz3 | fail) only [vcR, vcT, simprocAttr, Ab.part, implies_true, forall_const, vcS, vcXHb, Tryz.f35, g1,g2,g3,g4,addr_add,bne_self_eq_false,beq_self_eq_true,hd, trH7n35x1]))
    · rw [if_neg e0] at hE
      subst hE
      have hd : (r == 0) = false := beq_false_of_ne e0
      (repeat' ((first | with_reducible (first | apply XQ_cons | apply XQ_consG | apply XQ_nil | apply XR_cons | apply XR_consG | apply XR_nil | apply XM_cons | apply XM_consG | apply XM_nil | apply cF_pure3 (by assumption) | apply cV_pure3 (by assumption) | apply cM_pure3 (by assumption) | apply cF_ev3 (by assumption) | apply cV_ev3 (by assumption) | apply cM_ev3 (by assumption)) | (with_reducible apply X_drawM (id := 1) 5 [] trH7n35x1; (next => (kernel_rfl)); (next => (kernel_rfl))) | (with_reducible apply X_drawC (id := 2) 17; (next => (kernel_rfl)); (next => (kernel_rfl))) | refine X_of _ ?_ | with_reducible (first | exact ⟨_, rfl⟩ | refine And.intro ?_ ?_ | intro _)) <;> try simp -implicitDefEqProofs (maxSteps := 1000000) (disch := first | exact dz3 | fail) only [vcR, vcT, simprocAttr, Ab.part, implies_true, forall_const, vcS, vcXHb, Tryz.f35, g1,g2,g3,g4,addr_add,hd, trH7n35x1]))
end Go.Proofs.YtdmcknmjdlghgaaGreatDoor
