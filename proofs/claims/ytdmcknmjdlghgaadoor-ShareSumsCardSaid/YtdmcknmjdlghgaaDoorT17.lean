/-
  share: Deal, where it deals.
  What is reckoned modulo m, in the numbers modulo m.
  The laws of polynomials modulo m, in plain numbers.
  The laws of shares in plain numbers.
  A small group is made by sortitionlaw10.small; pieces of ours; sortitionlaw10.awake.
  sortitionlaw10.awake.
-/
import Derived.Test.YtdmcknmjdlghgaaDoorT01
import Derived.Test.YtdmcknmjdlghgaaDoorT02
import Derived.Test.YtdmcknmjdlghgaaDoorT03
import Derived.Test.YtdmcknmjdlghgaaDoorT05
import Derived.Test.YtdmcknmjdlghgaaDoorT06
import Derived.Test.YtdmcknmjdlghgaaDoorT07
import Derived.Test.YtdmcknmjdlghgaaDoorT08
import Derived.Test.YtdmcknmjdlghgaaDoorT10
import Derived.Test.YtdmcknmjdlghgaaDoorT11
import Derived.Test.YtdmcknmjdlghgaaDoorT12
import Derived.Test.YtdmcknmjdlghgaaDoorT14
import Derived.Test.YtdmcknmjdlghgaaDoorT15
import Derived.Test.YtdmcknmjdlghgaaDoorT16
namespace Go.Proofs.YtdmcknmjdlghgaaDoor
open Go Go.Ab
set_option linter.unusedSimpArgs false
set_option linter.unusedVariables false
set_option linter.defProp false
set_option maxHeartbeats 20000000
set_option maxRecDepth 100000
def dealR (m n : Nat) (f g : Nat → Nat) (v : TV) (H : Heap) : Prop := ∃ (c1 : Nat) (sp1 : List Value) (c2 : Nat) (sp2 : List Value), (m ≤ c1 ∧ sp1.length = (c1 - m) * 4) ∧ (n ≤ c2 ∧ sp2.length = (c2 - n) * 4) ∧
  v = .tup [.s (.sl 0 0 m c1), .s (.sl 1 0 n c2), .s (.v (.int .i64 0))] ∧ H = [⟨24, nats m f ++ sp1.map .v⟩, ⟨24, nats n g ++ sp2.map .v⟩]
theorem deal_n (kg kx kq P Q G : Nat) (x : Option Addr) (m c n : Nat) (l : Nat → Nat) (hG2 : G < 2 ^ 256) (hl : ∀ i, l i < 2 ^ 256) (hm1 : 1 ≤ m) (hm : m ≤ 20) (hn1 : 1 ≤ n) (hn : n ≤ 40) (hnQ : n < Q) :
    EvN (modEvo 108) Tryd.prog 39 [.s (.v (.pointer (some ⟨kg, 0, none⟩))), .s (.v (.slice x m c)), .s (.v (.int .i64 (n : Int)))] (fun B w => GK kg kx kq P Q G B w ∧ natsAt (modEvo 108) x m l B w)
      (dealR m n (comN P G l) fun i => valN Q l m (i : Nat)) := by
  (refine evN_of Tryd.func39 rfl (by simp only [List.length_cons, List.length_nil, List.map_cons, List.map_nil, List.nodup_cons, List.nodup_nil, List.mem_cons, Nat.reduceAdd, Nat.reduceEqDiff, or_false, not_false_eq_true, forall_eq_or_imp, forall_eq, or_self, Nat.reduceLT, Nat.reduceLeDiff, and_self, List.forall_mem_cons, List.not_mem_nil, false_implies, implies_true, and_true, true_and, vcOHb]) fun B w hpre => ?_; simp only [List.length_cons, List.length_nil, Tryd.ntmps39, Nat.reduceAdd, Nat.reduceSub, List.replicate_succ, List.replicate_zero, List.cons_append, List.nil_append])
  have h0 := Kn.entry (P := Tryd.prog) ((isGrp_stays 108 kg kx kq P Q G).and (natsAt_stays _ x m l)) hpre
  have hG := h0.left
  have hN := h0.right
  obtain ⟨hOP, hOQ⟩ := hG.gOdd
  clear hpre
  have e1 := few_c (m : Int)
  have e2 := below_e kg kx kq P Q G n (by omega)
  rw [decide_eq_true hnQ] at e2
  rw [decide_eq_true (show (m : Int) ≥ 1 by omega), decide_eq_true (show (m : Int) ≤ 20 by omega), Bool.and_self] at e1
  have hw := nat_word (x := n) (by omega)
  have c1 : ¬ (n : Int) < 1 := by omega
  have c2 : ¬ (n : Int) > 40 := by omega
  have e3 := fun i (hi : i < n) => value_e kg kx kq P Q G x m c l ((i : Nat) : Int) hl (by omega) (by omega) (by omega)
  have hglt : ∀ i : Nat, valN Q l m (i : Int) < 2 ^ 256 := fun i => hrn_lt hOQ _ _ _ _
  have hszz : sz (ctxE Tryd.prog (modEvo 108) w B).P 24 = 4 := gsz_nat
  have e4 := commit_n kg kx kq P Q G x m c l hG2 hl (by omega)
  obtain ⟨f, hf⟩ : ∃ f, comN P G l = f := ⟨_, rfl⟩
  obtain ⟨g, hg⟩ : ∃ g : Nat → Nat, (fun i : Nat => valN Q l m (i : Int)) = g := ⟨_, rfl⟩
  have e3' : ∀ i, i < n → EvC (modEvo 108) Tryd.prog 37 [.s (.v (.pointer (some ⟨kg, 0, none⟩))), .s (.v (.slice x m c)), .s (.v (.int .i64 (i : Int)))] (fun B w => GK kg kx kq P Q G B w ∧ natsAt (modEvo 108) x m l B w) (.agg (nat4 (g i))) := fun i hi => by
    have h := e3 i hi
    rw [← hg]
    exact h
  have hg2 : ∀ i, g i < 2 ^ 256 := fun i => by rw [← hg]; exact hglt i
  rw [hf] at e4
  rw [hf, hg]
  clear e3 hglt hf hg hl
  (repeat' ((first | with_reducible (first | apply XR_append | apply XR_cons | apply XR_consG | apply XR_nil | apply cF_pure3 (by assumption) | apply cF_ev3 (by assumption)) | with_reducible (first | apply gRS (by with_unfolding_all rfl) | apply gR (by with_unfolding_all rfl) | apply gS (by with_unfolding_all rfl) | fail) | refine X_of _ ?_ | with_reducible (first | exact ⟨_, rfl⟩ | refine And.intro ?_ ?_ | intro _)) <;> try simp -implicitDefEqProofs (maxSteps := 1000000) (disch := first | exact dz3 | fail) only [vcR, vcT, simprocAttr, Ab.part, implies_true, forall_const, true_or, Option.isNone_some, Option.isNone_none, vcXHb, Tryd.f39, List.toList_toArray, arr4_zero, nat4_set1, nat4_setL, nat4_set0, hw,c1,c2]))
  refine X_loopT (ι := Nat × Nat × List Value) (fun k => k.1 ≤ n ∧ (k.1 ≠ 0 → k.1 ≤ k.2.1 ∧ k.2.2.length = (k.2.1 - k.1) * 4)) (fun k => n - k.1) [7, 9, 31, 32, 33, 34, 35, 36, 37, 38, 39, 40, 41]
    (fun k => [(7, rowS 0 k.1 k.2.1), (31, .s (.v (.int .i64 (k.1 : Nat))))])
    (fun k => rowH 24 k.1 (nats k.1 g) k.2.2) (0, 0, []) ?_ (by decide) ?_ ?_
  · rintro ⟨k, c', sp⟩ ⟨hk, _⟩
    refine ⟨by simp, ?_, Nat.zero_le _, ?_⟩
    · simp only [List.forall_mem_cons]
      refine ⟨rowS_ok fun h0 => ?_, trivial, fun x hx => by simp at hx⟩
      rw [rowH_s h0]; exact Nat.zero_lt_one
    · exact row_okG (nats_ok _)
  · refine ⟨⟨Nat.zero_le _, fun h => absurd rfl h⟩, [], ⟨by decide, rfl⟩, ?_, trivial⟩
    simp -implicitDefEqProofs (maxSteps := 1000000) (disch := first | exact dz3 | fail) only [vcR, vcT, simprocAttr, Ab.part, implies_true, forall_const, true_or, Option.isNone_some, Option.isNone_none, vcXHb, Tryd.f39, List.toList_toArray, renS_cons,renS_nil,ren_v,rowS_0]
    try simp
  · rintro ⟨k, c', sp⟩ us ⟨hk, hrow⟩
    simp only at hk hrow ⊢
    by_cases hki : k < n
    · have e3 := e3' k hki
      have hgk := hg2 k
      clear e3' hg2 e4
      by_cases h0 : k = 0
      · subst h0
        rw [rowH_0]
        have e3z := e3
        rw [show ((0 : Nat) : Int) = 0 from rfl] at e3z
        (repeat' ((first | with_reducible (first | apply XR_append | apply XR_cons | apply XR_consG | apply XR_nil | apply cF_pure3 (by assumption) | apply cF_ev3 (by assumption)) | with_reducible (first | apply gRS (by with_unfolding_all rfl) | apply gR (by with_unfolding_all rfl) | apply gS (by with_unfolding_all rfl) | apply gSB (by with_unfolding_all rfl) | apply gB (by with_unfolding_all rfl) | fail) | refine X_of _ ?_ | with_reducible (first | exact ⟨_, rfl⟩ | refine And.intro ?_ ?_ | intro _)) <;> try simp -implicitDefEqProofs (maxSteps := 1000000) (disch := first | exact dz3 | fail) only [vcR, vcT, simprocAttr, Ab.part, implies_true, forall_const, true_or, Option.isNone_some, Option.isNone_none, vcXHb, Tryd.f39, List.toList_toArray, arr4_zero, nat4_set1, nat4_setL, nat4_set0, st_bs,xbs_some,ghz1,gone_set]))
        rw [rowS_0]
        refine xappend_nil_i (gnews_nat hszz rfl) (by decide) (gap_nat _ (by decide)) (by show ¬ (24 = 108); decide) fun tc tsp ht1 ht2 => ?_
        try simp -implicitDefEqProofs (maxSteps := 1000000) (disch := first | exact dz3 | fail) only [vcR, vcT, simprocAttr, Ab.part, implies_true, forall_const, true_or, Option.isNone_some, Option.isNone_none, vcXHb, Tryd.f39, List.toList_toArray]
        rw [hszz] at ht2
        (repeat' ((first | with_reducible (first | apply XR_append | apply XR_cons | apply XR_consG | apply XR_nil | apply cF_pure3 (by assumption) | apply cF_ev3 (by assumption)) | with_reducible (first | apply gRS (by with_unfolding_all rfl) | apply gR (by with_unfolding_all rfl) | apply gS (by with_unfolding_all rfl) | apply gSB (by with_unfolding_all rfl) | apply gB (by with_unfolding_all rfl) | fail) | refine X_of _ ?_ | with_reducible (first | exact ⟨_, rfl⟩ | refine And.intro ?_ ?_ | intro _)) <;> try simp -implicitDefEqProofs (maxSteps := 1000000) (disch := first | exact dz3 | fail) only [vcR, vcT, simprocAttr, Ab.part, implies_true, forall_const, true_or, Option.isNone_some, Option.isNone_none, vcXHb, Tryd.f39, List.toList_toArray, arr4_zero, nat4_set1, nat4_setL, nat4_set0]))
        refine ⟨(0 + 1, tc, tsp), by simp; omega, ⟨by simp; omega, fun _ => ⟨ht1, ht2⟩⟩, [1], ⟨by decide, rfl⟩, ?_, ?_⟩
        · have e2 : (rowS 0 (0 + 1) tc).ren (lk [1]) = .s (.sl 1 0 (0 + 1) tc) := by rw [ren_rowS, rowS_s (by omega)]; rfl
          simp -implicitDefEqProofs (maxSteps := 1000000) (disch := first | exact dz3 | fail) only [vcR, vcT, simprocAttr, Ab.part, implies_true, forall_const, true_or, Option.isNone_some, Option.isNone_none, vcXHb, Tryd.f39, List.toList_toArray, renS_cons,renS_nil,ren_v,e2]
          try omega
        · simp only [rowH_s (show 0 + 1 ≠ 0 by omega)]
          refine ⟨?_, trivial⟩
          have h := nats_snoc (n := 0) (l := g)
          rw [nats_zero, List.nil_append] at h
          rw [← h]
          rfl
      · obtain ⟨hkc, hsp⟩ := hrow h0
        rw [rowH_s h0]
        (repeat' ((first | with_reducible (first | apply XR_append | apply XR_cons | apply XR_consG | apply XR_nil | apply cF_pure3 (by assumption) | apply cF_ev3 (by assumption)) | with_reducible (first | apply gRS (by with_unfolding_all rfl) | apply gR (by with_unfolding_all rfl) | apply gS (by with_unfolding_all rfl) | apply gSB (by with_unfolding_all rfl) | apply gB (by with_unfolding_all rfl) | fail) | refine X_of _ ?_ | with_reducible (first | exact ⟨_, rfl⟩ | refine And.intro ?_ ?_ | intro _)) <;> try simp -implicitDefEqProofs (maxSteps := 1000000) (disch := first | exact dz3 | fail) only [vcR, vcT, simprocAttr, Ab.part, implies_true, forall_const, true_or, Option.isNone_some, Option.isNone_none, vcXHb, Tryd.f39, List.toList_toArray, arr4_zero, nat4_set1, nat4_setL, nat4_set0, st_bs,xbs_some,ghz1,gone_set]))
        refine xappend_row (cs := nats k g) (sp := sp) (gnews_nat hszz rfl) (fun _ => ⟨rfl, hkc, by rw [hszz]; exact hsp⟩) (by rw [nats_length, hszz] <;> omega) (by rw [nat4_length, hszz]) (gap_nat _ (by omega)) (by rw [nat4_one]; trivial) (by show ¬ (24 = 108); decide) fun j' c'' sp' H' h1 h2 h3 h4 h5 h6 => ?_
        clear h4 h5 h6
        (repeat' ((first | with_reducible (first | apply XR_append | apply XR_cons | apply XR_consG | apply XR_nil | apply cF_pure3 (by assumption) | apply cF_ev3 (by assumption)) | with_reducible (first | apply gRS (by with_unfolding_all rfl) | apply gR (by with_unfolding_all rfl) | apply gS (by with_unfolding_all rfl) | apply gSB (by with_unfolding_all rfl) | apply gB (by with_unfolding_all rfl) | fail) | refine X_of _ ?_ | with_reducible (first | exact ⟨_, rfl⟩ | refine And.intro ?_ ?_ | intro _)) <;> try simp -implicitDefEqProofs (maxSteps := 1000000) (disch := first | exact dz3 | fail) only [vcR, vcT, simprocAttr, Ab.part, implies_true, forall_const, true_or, Option.isNone_some, Option.isNone_none, vcXHb, Tryd.f39, List.toList_toArray, arr4_zero, nat4_set1, nat4_setL, nat4_set0]))
        refine ⟨(k + 1, c'', sp'), by simp; omega, ⟨by simp; omega, fun _ => ⟨h1, by rw [hszz] at h2; exact h2⟩⟩, [j'], ⟨by simp, rfl⟩, ?_, ?_⟩
        · have e2 : (rowS 0 (k + 1) c'').ren (lk [j']) = .s (.sl j' 0 (k + 1) c'') := by rw [ren_rowS, rowS_s (by omega)]; rfl
          simp -implicitDefEqProofs (maxSteps := 1000000) (disch := first | exact dz3 | fail) only [vcR, vcT, simprocAttr, Ab.part, implies_true, forall_const, true_or, Option.isNone_some, Option.isNone_none, vcXHb, Tryd.f39, List.toList_toArray, renS_cons,renS_nil,ren_v,e2]
          try omega
        · simp only [rowH_s (show k + 1 ≠ 0 by omega)]
          refine ⟨?_, trivial⟩
          rw [h3, ← nats_snoc (n := k) (l := g)]
    · have : n = k := by omega
      subst this
      have h0 : n ≠ 0 := by omega
      obtain ⟨hkc, hsp⟩ := hrow h0
      clear hki hk e3' hg2 hw c1 c2
      rw [rowH_s h0]
      (repeat' ((first | with_reducible (first | apply XR_append | apply XR_cons | apply XR_consG | apply XR_nil | apply cF_pure3 (by assumption) | apply cF_ev3 (by assumption)) | with_reducible (first | apply gRS (by with_unfolding_all rfl) | apply gR (by with_unfolding_all rfl) | apply gS (by with_unfolding_all rfl) | fail) | refine X_of _ ?_ | with_reducible (first | exact ⟨_, rfl⟩ | refine And.intro ?_ ?_ | intro _)) <;> try simp -implicitDefEqProofs (maxSteps := 1000000) (disch := first | exact dz3 | fail) only [vcR, vcT, simprocAttr, Ab.part, implies_true, forall_const, true_or, Option.isNone_some, Option.isNone_none, vcXHb, Tryd.f39, List.toList_toArray, arr4_zero, nat4_set1, nat4_setL, nat4_set0, rowS_s h0]))
      refine xcall_evn (by kernel_rfl) (fun β w' hR => ⟨_, e4, hG w' hR.fr.to, hN w' hR.fr.to⟩) ?_
      rintro _ _ ⟨c1, sp1, hc1, rfl, rfl⟩
      have hm0 : m ≠ 0 := by omega
      rw [rowS_s hm0, rowH_s hm0]
      try simp -implicitDefEqProofs (maxSteps := 1000000) (disch := first | exact dz3 | fail) only [vcR, vcT, simprocAttr, Ab.part, implies_true, forall_const, true_or, Option.isNone_some, Option.isNone_none, vcXHb, Tryd.f39, List.toList_toArray]
      (repeat' ((first | with_reducible (first | apply XR_append | apply XR_cons | apply XR_consG | apply XR_nil | apply cF_pure3 (by assumption) | apply cF_ev3 (by assumption)) | with_reducible (first | apply gRS (by with_unfolding_all rfl) | apply gR (by with_unfolding_all rfl) | apply gS (by with_unfolding_all rfl) | fail) | refine X_of _ ?_ | with_reducible (first | exact ⟨_, rfl⟩ | refine And.intro ?_ ?_ | intro _)) <;> try simp -implicitDefEqProofs (maxSteps := 1000000) (disch := first | exact dz3 | fail) only [vcR, vcT, simprocAttr, Ab.part, implies_true, forall_const, true_or, Option.isNone_some, Option.isNone_none, vcXHb, Tryd.f39, List.toList_toArray, arr4_zero, nat4_set1, nat4_setL, nat4_set0]))
      refine ⟨[1, 0], _, _, ⟨c1, sp1, c', sp, hc1 hm0, ⟨hkc, hsp⟩, rfl, rfl⟩, by decide, rfl, ?_, ⟨rfl, rfl, trivial⟩, ?_⟩
      · intro x hx
        simp only [List.mem_cons, List.not_mem_nil, or_false] at hx
        rcases hx with rfl | rfl | rfl
        · exact (by show 0 < 2; decide)
        · exact (by show 1 < 2; decide)
        · trivial
      · have h1 := row_okG (e := 24) (n := m) (sp := sp1) (n0 := 0) (nats_ok (n := m) (l := f) 0)
        have h2 := row_okG (e := 24) (n := n) (sp := sp) (n0 := 0) (nats_ok (n := n) (l := g) 0)
        rw [rowH_s hm0] at h1
        rw [rowH_s h0] at h2
        intro b hb
        simp only [List.mem_cons, List.not_mem_nil, or_false] at hb
        rcases hb with rfl | rfl
        · exact h1 _ (List.mem_singleton.2 rfl)
        · exact h2 _ (List.mem_singleton.2 rfl)
def ph (m : Nat) [NeZero m] (x : Nat) : Fin m := Fin.ofNat m x
section
variable {m : Nat} [NeZero m]
theorem ph_val (x : Nat) : (ph m x).val = x % m := rfl
theorem ph_mod (x : Nat) : ph m (x % m) = ph m x := Fin.ext (Nat.mod_mod x m)
theorem ph_mul (x y : Nat) : ph m (x * y) = ph m x * ph m y := Fin.ext (by rw [Fin.val_mul, ph_val, ph_val, ph_val, ← Nat.mul_mod])
theorem ph_add (x y : Nat) : ph m (x + y) = ph m x + ph m y := Fin.ext (by rw [Fin.val_add, ph_val, ph_val, ph_val, ← Nat.add_mod])
theorem ph_eq {x y : Nat} (h : ph m x = ph m y) : x % m = y % m := congrArg Fin.val h
theorem ph_inj {x y : Nat} (h : ph m x = ph m y) (hx : x < m) (hy : y < m) : x = y := by rw [← Nat.mod_eq_of_lt hx, ← Nat.mod_eq_of_lt hy, ph_eq h]
theorem ph_0 : ph m 0 = 0 := rfl
theorem ph_1 : ph m 1 = 1 := rfl
theorem ph_self : ph m m = 0 := Fin.ext (by rw [ph_val, Nat.mod_self]; rfl)
theorem ph_msub (x y : Nat) : ph m (msub m x y) = ph m x - ph m y := by
  have h : ph m (msub m x y) + ph m y = ph m x := by
    rw [← ph_add]
    refine Fin.ext ?_
    rw [ph_val, ph_val]
    have hp : 0 < m := Nat.pos_of_ne_zero (NeZero.ne m)
    have hy := Nat.mod_lt y hp
    unfold msub
    rw [Nat.mod_add_mod, Nat.add_mod, show (x % m + (m - y % m)) % m = (x % m + (m - y % m)) % m from rfl, ← Nat.add_mod]
    have e : (x % m + (m - y % m) + y) % m = (x % m + (m - y % m) + y % m) % m := cg_add rfl (cg_mod _ _).symm
    rw [e, show x % m + (m - y % m) + y % m = x % m + m by omega, Nat.add_mod_right, Nat.mod_mod]
  rw [← h]
  grind
def Un (x : Fin m) : Prop := ∃ y, x * y = 1
theorem egc_spec (a : Nat) : ∀ (rest last s t : Nat), ph m last = ph m s * ph m a → ph m rest = ph m t * ph m a →
    (egc m last rest s t).1 = Nat.gcd last rest ∧ ph m (egc m last rest s t).1 = ph m (egc m last rest s t).2 * ph m a := by
  intro rest
  induction rest using Nat.strongRecOn with
  | ind rest ih =>
    intro last s t hl hr
    by_cases h0 : rest = 0
    · subst h0
      rw [egc_zero]
      exact ⟨(Nat.gcd_zero_right last).symm, hl⟩
    · rw [egc_step _ _ _ _ _ h0]
      have h1 : ph m (last % rest) = ph m (msub m s (last / rest * t % m)) * ph m a := by
        rw [ph_msub, ph_mod, ph_mul]
        have e : ph m last = ph m rest * ph m (last / rest) + ph m (last % rest) := by
          rw [← ph_mul, ← ph_add, Nat.div_add_mod]
        grind
      obtain ⟨g1, g2⟩ := ih _ (Nat.mod_lt _ (Nat.pos_of_ne_zero h0)) rest t _ hr h1
      refine ⟨?_, g2⟩
      rw [g1, Nat.gcd_comm rest, ← Nat.gcd_rec, Nat.gcd_comm]
theorem inv_spec (a : Nat) : ((invE m a = 0 ∧ Nat.gcd m a = 1) ∧ ph m a * ph m (inv m a) = 1) ∨ (invE m a = 11 ∧ Nat.gcd m a ≠ 1) := by
  obtain ⟨g1, g2⟩ := egc_spec (m := m) a (a % m) m 0 1 (by rw [ph_self, ph_0]; grind) (by rw [ph_mod, ph_1]; grind)
  have hg : (egc m m (a % m) 0 1).1 = Nat.gcd m a := by
    rw [g1, Nat.gcd_comm m (a % m), ← Nat.gcd_rec]
  by_cases h : (egc m m (a % m) 0 1).1 = 1
  · refine .inl ⟨⟨if_pos h, hg ▸ h⟩, ?_⟩
    have hi : inv m a = (egc m m (a % m) 0 1).2 := if_pos h
    rw [h, ph_1] at g2
    rw [hi, g2]
    grind
  · exact .inr ⟨if_neg h, hg ▸ h⟩
theorem un_gcd {a : Nat} (hm : 1 < m) (h : Un (ph m a)) : Nat.gcd m a = 1 := by
  obtain ⟨y, hy⟩ := h
  have h1 : a * y.val % m = 1 := by
    have h2 : (ph m a * y).val = (1 : Fin m).val := congrArg Fin.val hy
    rw [Fin.val_mul, ph_val] at h2
    rw [Nat.mod_mul_mod] at h2
    rw [h2]
    show 1 % m = 1
    exact Nat.mod_eq_of_lt hm
  have hd1 : Nat.gcd m a ∣ a * y.val := Nat.dvd_trans (Nat.gcd_dvd_right m a) (Nat.dvd_mul_right a y.val)
  have hd2 : Nat.gcd m a ∣ a * y.val % m := (Nat.dvd_mod_iff (Nat.gcd_dvd_left m a)).2 hd1
  rw [h1] at hd2
  exact Nat.dvd_one.1 hd2
theorem inv_0 {a : Nat} (hm : 1 < m) : invE m a = 0 ↔ Un (ph m a) := by
  rcases inv_spec (m := m) a with ⟨⟨h, _⟩, h2⟩ | ⟨h, h2⟩
  · exact ⟨fun _ => ⟨_, h2⟩, fun _ => h⟩
  · rw [h]
    exact ⟨fun h => absurd h (by decide), fun hu => absurd (un_gcd hm hu) h2⟩
theorem inv_11 {a : Nat} (h : invE m a ≠ 0) : invE m a = 11 := by
  rcases inv_spec (m := m) a with ⟨⟨h', _⟩, _⟩ | ⟨h', _⟩
  · exact absurd h' h
  · exact h'
theorem inv_mul {a : Nat} (h : invE m a = 0) : ph m a * ph m (inv m a) = 1 := by
  rcases inv_spec (m := m) a with ⟨_, h2⟩ | ⟨h', _⟩
  · exact h2
  · rw [h] at h'; cases h'
theorem Un.mul {x y : Fin m} (h : Un x) (h' : Un y) : Un (x * y) := by
  obtain ⟨a, ha⟩ := h
  obtain ⟨b, hb⟩ := h'
  exact ⟨a * b, by grind⟩
theorem Un.left {x y : Fin m} (h : Un (x * y)) : Un x := by
  obtain ⟨a, ha⟩ := h
  exact ⟨y * a, by grind⟩
theorem Un.right {x y : Fin m} (h : Un (x * y)) : Un y := by
  obtain ⟨a, ha⟩ := h
  exact ⟨x * a, by grind⟩
theorem un_one : Un (1 : Fin m) := ⟨1, by grind⟩
def vv (m : Nat) [NeZero m] (l : Nat → Nat) (i k : Nat) : Fin m := ph m (inv m (msub m (l k) (l i)))
def rr (m : Nat) [NeZero m] (l : Nat → Nat) (i k : Nat) : Fin m := ph m (l k) * vv m l i k
theorem up_fW (l : Nat → Nat) (i : Nat) : ∀ k, ph m (upN m l i k) = fW (fun _ k => ph m (l k)) i k
  | 0 => rfl
  | k + 1 => by
    show ph m (ite _ _ _) = ite _ _ _
    split
    · exact up_fW l i k
    · rw [ph_mod, ph_mul, up_fW l i k]
theorem dn_fW (l : Nat → Nat) (i : Nat) : ∀ k, ph m (dnN m l i k) = fW (fun i k => ph m (l k) - ph m (l i)) i k
  | 0 => rfl
  | k + 1 => by
    show ph m (ite _ _ _) = ite _ _ _
    split
    · exact dn_fW l i k
    · rw [ph_mod, ph_mul, dn_fW l i k, ph_msub]
theorem fW_un (r : Nat → Nat → Fin m) (i : Nat) : ∀ n, Un (fW r i n) ↔ ∀ k, k < n → k ≠ i → Un (r i k)
  | 0 => ⟨fun _ k h => absurd h (Nat.not_lt_zero k), fun _ => un_one⟩
  | n + 1 => by
    have ih := fW_un r i n
    show Un (ite _ _ _) ↔ _
    split
    · rename_i h
      rw [ih]
      exact ⟨fun H k hk hki => H k (by omega) hki, fun H k hk hki => H k (by omega) hki⟩
    · rename_i h
      refine ⟨fun H k hk hki => ?_, fun H => Un.mul (ih.2 fun k hk hki => H k (by omega) hki) (H n (by omega) h)⟩
      by_cases h2 : k = n
      · subst h2; exact H.right
      · exact ih.1 H.left k (by omega) hki
theorem fW_mul (r s : Nat → Nat → Fin m) (i : Nat) : ∀ n, fW r i n * fW s i n = fW (fun i k => r i k * s i k) i n
  | 0 => by show (1 : Fin m) * 1 = 1; grind
  | n + 1 => by
    have ih := fW_mul r s i n
    show (ite _ _ _) * (ite _ _ _) = ite _ _ _
    split
    · exact ih
    · rw [← ih]; grind
theorem fW_one {r : Nat → Nat → Fin m} {i : Nat} : ∀ n, (∀ k, k < n → k ≠ i → r i k = 1) → fW r i n = 1
  | 0, _ => rfl
  | n + 1, h => by
    have ih := fW_one n fun k hk => h k (by omega)
    show (ite _ _ _) = (1 : Fin m)
    split
    · exact ih
    · rename_i h2
      rw [ih, h n (by omega) h2]; grind
theorem wgE_0 (hm : 1 < m) (l : Nat → Nat) (n i : Nat) : wgE m l n i = 0 ↔ ∀ k, k < n → k ≠ i → invE m (msub m (l k) (l i)) = 0 := by
  unfold wgE
  rw [inv_0 hm, dn_fW, fW_un]
  refine ⟨fun H k hk hki => ?_, fun H k hk hki => ?_⟩
  · rw [inv_0 hm, ph_msub]; exact H k hk hki
  · have := H k hk hki
    rw [inv_0 hm, ph_msub] at this; exact this
theorem wgt_fW (hm : 1 < m) (l : Nat → Nat) (n i : Nat) (h : wgE m l n i = 0) : ph m (wgt m l n i) = fW (rr m l) i n := by
  have h1 := (wgE_0 hm l n i).1 h
  have h2 : ph m (dnN m l i n) * ph m (inv m (dnN m l i n)) = 1 := inv_mul h
  have h3 : ph m (dnN m l i n) * fW (vv m l) i n = 1 := by
    rw [dn_fW, fW_mul]
    refine fW_one n fun k hk hki => ?_
    have h4 := inv_mul (h1 k hk hki)
    rw [ph_msub] at h4
    exact h4
  have h5 : ph m (inv m (dnN m l i n)) = fW (vv m l) i n := by grind
  unfold wgt
  rw [ph_mod, ph_mul, up_fW, h5, fW_mul]
  rfl
theorem wE_all (l : Nat → Nat) (n : Nat) : ∀ k, (wE m l n k = 0 ↔ ∀ i, i < k → wgE m l n i = 0) ∧ (wE m l n k = 0 ∨ wE m l n k = 11)
  | 0 => ⟨⟨fun _ k h => absurd h (Nat.not_lt_zero k), fun _ => rfl⟩, .inl rfl⟩
  | k + 1 => by
    obtain ⟨ih, iv⟩ := wE_all l n k
    show (ite _ _ _ = (0 : Int) ↔ _) ∧ (ite _ _ _ = (0 : Int) ∨ ite _ _ _ = (11 : Int))
    split
    · rename_i h0
      refine ⟨⟨fun H i hi => ?_, fun H => H k (by omega)⟩, ?_⟩
      · by_cases h2 : i = k
        · subst h2; exact H
        · exact ih.1 h0 i (by omega)
      · by_cases h2 : wgE m l n k = 0
        · exact .inl h2
        · exact .inr (inv_11 h2)
    · rename_i h0
      exact ⟨⟨fun H => absurd H h0, fun H => ih.2 fun i hi => H i (by omega)⟩, .inr (iv.resolve_left h0)⟩
end
/-! Tryd# Turned about -/
theorem msub_0 {m : Nat} (hm : 0 < m) (a b : Nat) : msub m a b = 0 ↔ msub m b a = 0 := by
  have ha := Nat.mod_lt a hm
  have hb := Nat.mod_lt b hm
  have key : ∀ x y : Nat, x < m → y < m → ((x + (m - y)) % m = 0 ↔ x = y) := fun x y hx hy => by
    by_cases h : y ≤ x
    · rw [show x + (m - y) = x - y + m by omega, Nat.add_mod_right, Nat.mod_eq_of_lt (by omega)]; omega
    · rw [Nat.mod_eq_of_lt (by omega)]; omega
  unfold msub
  rw [key _ _ ha hb, key _ _ hb ha]
  exact eq_comm
theorem sm1_iff {m : Nat} (l : Nat → Nat) (a : Nat) : ∀ n, sm1 m l a n = true ↔ ∃ j, j < n ∧ msub m a (l j) = 0
  | 0 => by show false = true ↔ _; simp
  | n + 1 => by
    show (sm1 m l a n || decide (msub m a (l n) = 0)) = true ↔ _
    rw [Bool.or_eq_true, sm1_iff l a n, decide_eq_true_eq]
    constructor
    · rintro (⟨j, h1, h2⟩ | h)
      · exact ⟨j, by omega, h2⟩
      · exact ⟨n, by omega, h⟩
    · rintro ⟨j, h1, h2⟩
      by_cases h : j = n
      · subst h; exact .inr h2
      · exact .inl ⟨j, by omega, h2⟩
theorem sm_iff {m : Nat} (l : Nat → Nat) : ∀ n, sm m l n = true ↔ ∃ i, i < n ∧ ∃ j, j < i ∧ msub m (l i) (l j) = 0
  | 0 => by show false = true ↔ _; simp
  | n + 1 => by
    show (sm m l n || sm1 m l (l n) n) = true ↔ _
    rw [Bool.or_eq_true, sm_iff l n, sm1_iff]
    constructor
    · rintro (⟨i, h1, h2⟩ | h)
      · exact ⟨i, by omega, h2⟩
      · exact ⟨n, by omega, h⟩
    · rintro ⟨i, h1, h2⟩
      by_cases h : i = n
      · subst h; exact .inr h2
      · exact .inl ⟨i, by omega, h2⟩
theorem sm_turn {m : Nat} (hm : 0 < m) (l l' : Nat → Nat) (n : Nat) (h : ∀ i, i < n → l' i = l (n - 1 - i)) : sm m l n = true → sm m l' n = true := by
  rw [sm_iff, sm_iff]
  rintro ⟨i, hi, j, hj, h0⟩
  refine ⟨n - 1 - j, by omega, n - 1 - i, by omega, ?_⟩
  rw [h _ (by omega), h _ (by omega), show n - 1 - (n - 1 - j) = j by omega, show n - 1 - (n - 1 - i) = i by omega]
  exact (msub_0 hm _ _).1 h0
section
variable {m : Nat} [NeZero m]
theorem sF_front {g : Nat → Fin m} : ∀ {n : Nat}, sF g (n + 1) = g 0 + sF (fun i => g (i + 1)) n
  | 0 => by show (0 : Fin m) + g 0 = g 0 + 0; grind
  | n + 1 => by
    have h := sF_front (g := g) (n := n)
    show sF g (n + 1) + g (n + 1) = g 0 + (sF (fun i => g (i + 1)) n + g (n + 1))
    rw [h]; grind
theorem sumM_ph (l : Nat → Nat) : ∀ n, ph m (sumM m l n) = sF (fun i => ph m (l i)) n
  | 0 => rfl
  | n + 1 => by show ph m ((sumM m l n + l n) % m) = _ + _; rw [ph_mod, ph_add, sumM_ph l n]
theorem sumM_m (l : Nat → Nat) : ∀ n, sumM m l n < m
  | 0 => Nat.pos_of_ne_zero (NeZero.ne m)
  | n + 1 => Nat.mod_lt _ (Nat.pos_of_ne_zero (NeZero.ne m))
theorem hrn_step (l : Nat → Nat) (n a i : Nat) : ph m (hrn m l n a (i + 1)) = ph m (hrn m l n a i) * ph m a + ph m (l (n - 1 - i)) := by
  show ph m (((0 + hrn m l n a i * a % m) % m + l (n - 1 - i)) % m) = _
  rw [ph_mod, ph_add, ph_mod, Nat.zero_add, ph_mod, ph_mul]
theorem hrn_m (l : Nat → Nat) (n a : Nat) : ∀ i, hrn m l n a i < m
  | 0 => Nat.pos_of_ne_zero (NeZero.ne m)
  | i + 1 => sumM_m _ 2
theorem hrn_ph (l : Nat → Nat) (n a : Nat) : ∀ i, i ≤ n → ph m (hrn m l n a i) = sF (fun j => ph m (l (n - i + j)) * pw (ph m a) j) i
  | 0, _ => rfl
  | i + 1, h => by
    rw [hrn_step, hrn_ph l n a i (by omega), sF_front, ← sF_mul]
    have e : sF (fun j => ph m (l (n - i + j)) * pw (ph m a) j * ph m a) i = sF (fun j => ph m (l (n - (i + 1) + (j + 1))) * pw (ph m a) (j + 1)) i := sF_congr fun j hj => by
      rw [show n - (i + 1) + (j + 1) = n - i + j by omega]
      show _ = _ * (pw (ph m a) j * ph m a)
      grind
    rw [e, show n - (i + 1) + 0 = n - 1 - i by omega]
    show _ = ph m (l (n - 1 - i)) * 1 + _
    grind
theorem hrn_all (l : Nat → Nat) (n a : Nat) : ph m (hrn m l n a n) = sF (fun j => ph m (l j) * pw (ph m a) j) n := by
  rw [hrn_ph l n a n (Nat.le_refl n)]
  exact sF_congr fun j _ => by rw [Nat.sub_self, Nat.zero_add]
theorem apart_of (hm : 1 < m) (l : Nat → Nat) (n : Nat) (h : WE m l n = 0) : (∀ i, i < n → wgE m l n i = 0) ∧ ∀ i k, i < n → k < n → i ≠ k → (ph m (l k) - ph m (l i)) * vv m l i k = 1 := by
  have h1 : wE m l n n = 0 := by
    unfold WE at h
    split at h
    · cases h
    · exact h
  have h2 := (wE_all l n n).1.1 h1
  refine ⟨h2, fun i k hi hk hik => ?_⟩
  have h3 := inv_mul ((wgE_0 hm l n i).1 (h2 i hi) k hk (Ne.symm hik))
  rw [ph_msub] at h3
  exact h3
theorem tells_law (hm : 1 < m) (p c : Nat → Nat) (n d : Nat) (hd : d ≤ n) (hp : ∀ i, i < n → py p i = hrn m c d (px p i) d) (h : WE m (px p) n = 0) : atz m p n = if d = 0 then 0 else (c 0 + 0) % m := by
  obtain ⟨h1, h2⟩ := apart_of hm (px p) n h
  rw [atz_0 h]
  refine ph_inj ?_ (sumM_m _ n) (by split; omega; exact Nat.mod_lt _ (by omega))
  rw [sumM_ph]
  have e : sF (fun i => ph m (prt m p n i)) n = sF (fun i => sF (fun j => (fun j => ph m (c j)) j * pw ((fun k => ph m (px p k)) i) j) d * fW (rr m (px p)) i n) n := sF_congr fun i hi => by
    show ph m (py p i * wgt m (px p) n i % m) = _
    rw [ph_mod, ph_mul, wgt_fW hm _ n i (h1 i hi), hp i hi, hrn_all]
  rw [e]
  refine (at_zero (X := fun k => ph m (px p k)) (v := vv m (px p)) h2 (fun j => ph m (c j)) d hd).trans ?_
  by_cases h0 : d = 0
  · rw [if_pos h0, if_pos h0]; rfl
  · rw [if_neg h0, if_neg h0, ph_mod, Nat.add_zero]
theorem wE_turn (hm : 1 < m) (l l' : Nat → Nat) (n : Nat) (h : ∀ i, i < n → l' i = l (n - 1 - i)) : wE m l n n = 0 → wE m l' n n = 0 := by
  rw [(wE_all l n n).1, (wE_all l' n n).1]
  intro H i hi
  rw [wgE_0 hm]
  intro k hk hki
  rw [h i hi, h k hk]
  exact (wgE_0 hm l n _).1 (H (n - 1 - i) (by omega)) (n - 1 - k) (by omega) (by omega)
theorem WE_turn (hm : 1 < m) (l l' : Nat → Nat) (n : Nat) (h : ∀ i, i < n → l' i = l (n - 1 - i)) : WE m l' n = WE m l n := by
  have h' : ∀ i, i < n → l i = l' (n - 1 - i) := fun i hi => by rw [h _ (by omega), show n - 1 - (n - 1 - i) = i by omega]
  have h1 := sm_turn (m := m) (by omega) l l' n h
  have h2 := sm_turn (m := m) (by omega) l' l n h'
  have hs : sm m l' n = sm m l n := by
    cases hA : sm m l n with
    | true => exact h1 hA
    | false =>
      cases hB : sm m l' n with
      | true => rw [h2 hB] at hA; exact hA
      | false => rfl
  have hw : wE m l' n n = wE m l n n := by
    have a1 := wE_turn (m := m) hm l l' n h
    have a2 := wE_turn (m := m) hm l' l n h'
    rcases (wE_all (m := m) l n n).2 with e | e
    · rw [e]; exact a1 e
    · rcases (wE_all (m := m) l' n n).2 with e' | e'
      · have := a2 e'; rw [e] at this; cases this
      · rw [e, e']
  unfold WE
  rw [hs, hw]
theorem atz_turn (hm : 1 < m) (p p' : Nat → Nat) (n : Nat) (hx : ∀ i, i < n → px p' i = px p (n - 1 - i)) (hy : ∀ i, i < n → py p' i = py p (n - 1 - i)) : atz m p' n = atz m p n := by
  have hW := WE_turn hm (px p) (px p') n hx
  by_cases h : WE m (px p) n = 0
  · have h' := hW.trans h
    obtain ⟨h1, _⟩ := apart_of hm (px p) n h
    obtain ⟨h1', _⟩ := apart_of hm (px p') n h'
    rw [atz_0 h, atz_0 h']
    refine ph_inj ?_ (sumM_m _ n) (sumM_m _ n)
    rw [sumM_ph, sumM_ph]
    have e : sF (fun i => ph m (prt m p n i)) n = sF (fun i => (fun i => ph m (py p i)) i * fW (rr m (px p)) i n) n := sF_congr fun i hi => by
      show ph m (py p i * wgt m (px p) n i % m) = _
      rw [ph_mod, ph_mul, wgt_fW hm _ n i (h1 i hi)]
    rw [e, ← turned]
    refine sF_congr fun i hi => ?_
    show ph m (py p' i * wgt m (px p') n i % m) = _
    rw [ph_mod, ph_mul, wgt_fW hm _ n i (h1' i hi), hy i hi]
    have e2 : ∀ k, k ≤ n → fW (rr m (px p')) i k = fW (fun i k => rr m (px p) (n - 1 - i) (n - 1 - k)) i k := by
      intro k
      induction k with
      | zero => intro _; rfl
      | succ k ih =>
        intro hk
        show ite _ _ _ = ite _ _ _
        rw [ih (by omega)]
        split
        · rfl
        · unfold rr vv
          rw [hx i hi, hx k (by omega)]
    rw [e2 n (Nat.le_refl n)]
  · rw [atz_e h, atz_e (by rw [hW]; exact h)]
end
/-! Tryd# A share is right just if it is the polynomial's value -/
def sumE (l e : Nat → Nat) : Nat → Nat
  | 0 => 0
  | n + 1 => sumE l e n + l n * e n
theorem prd_com {P G : Nat} {l e : Nat → Nat} : ∀ n, prdN (comN P G l) e n % P = G ^ sumE l e n % P
  | 0 => rfl
  | n + 1 => by
    show prdN (comN P G l) e n * comN P G l n ^ e n % P = G ^ (sumE l e n + l n * e n) % P
    have h1 : comN P G l n ^ e n % P = G ^ (l n * e n) % P := by
      show (G ^ l n % P) ^ e n % P = _
      rw [← Nat.pow_mod, ← Nat.pow_mul]
    rw [Nat.mul_mod, prd_com n, h1, ← Nat.mul_mod, ← Nat.pow_add]
section
variable {Q : Nat} [NeZero Q]
theorem pwN_ph (a : Nat) : ∀ i, ph Q (pwN Q a i) = pw (ph Q a) i
  | 0 => ph_1
  | i + 1 => by
    show ph Q (pwN Q a i * a % Q) = pw (ph Q a) i * ph Q a
    rw [ph_mod, ph_mul, pwN_ph a i]
theorem sumE_ph (l : Nat → Nat) (a : Nat) : ∀ n, ph Q (sumE l (pwN Q a) n) = sF (fun j => ph Q (l j) * pw (ph Q a) j) n
  | 0 => ph_0
  | n + 1 => by
    show ph Q (sumE l (pwN Q a) n + l n * pwN Q a n) = sF (fun j => ph Q (l j) * pw (ph Q a) j) n + ph Q (l n) * pw (ph Q a) n
    rw [ph_add, ph_mul, pwN_ph, sumE_ph l a n]
theorem sumE_hrn (l : Nat → Nat) (a n : Nat) : sumE l (pwN Q a) n % Q = hrn Q l n a n := by
  refine ph_inj ?_ (Nat.mod_lt _ (Nat.pos_of_ne_zero (NeZero.ne Q))) (hrn_m l n a n)
  rw [ph_mod, sumE_ph, hrn_all]
theorem valN_m (l : Nat → Nat) (n : Nat) (s : Int) : valN Q l n s < Q := hrn_m l n _ n
theorem valN_add (a b : Nat → Nat) (n : Nat) (s : Int) : valN Q (fun i => a i + b i) n s = (valN Q a n s + valN Q b n s) % Q := by
  unfold valN
  refine ph_inj ?_ (hrn_m _ n _ n) (Nat.mod_lt _ (Nat.pos_of_ne_zero (NeZero.ne Q)))
  rw [ph_mod, ph_add, hrn_all, hrn_all, hrn_all, ← sF_add]
  exact sF_congr fun i _ => by rw [ph_add]; grind
theorem valN_one (l : Nat → Nat) (s : Int) : valN Q l 1 s = l 0 % Q := by
  unfold valN
  refine ph_inj ?_ (hrn_m _ 1 _ 1) (Nat.mod_lt _ (Nat.pos_of_ne_zero (NeZero.ne Q)))
  rw [ph_mod, hrn_all]
  show (0 : Fin Q) + ph Q (l 0) * 1 = _
  grind
end
section
variable {P Q : Nat}
theorem com_mul (hok : SmOk P Q) {l : Nat → Nat} {n : Nat} {s : Int} : mulS P (comN P 4 l) (pwN Q (placeN s)) n = 4 ^ valN Q l n s % P := by
  obtain ⟨h1, h2, h3, h4, h5, h6, h7⟩ := hok.gr
  have : NeZero Q := ⟨by have := h2.pos; omega⟩
  rw [mulS_prd (by omega), prd_com, ← pow_modQ (by omega) h7, sumE_hrn]
  rfl
theorem r1B_ok {n : Nat} {s : Int} (hn1 : 1 ≤ n) (hn : n ≤ 20) (h0 : 0 ≤ s) (h1 : s < 40) (h2 : placeN s < Q) : r1B Q n s = true := by
  unfold r1B
  rw [decide_eq_true hn1, decide_eq_true hn, decide_eq_true h0, decide_eq_true h1, decide_eq_true h2]
  rfl
theorem binds_law (hok : SmOk P Q) {l c : Nat → Nat} {n a : Nat} {s : Int} (hc : ∀ i, i < n → c i = comN P 4 l i) (hn1 : 1 ≤ n) (hn : n ≤ 20) (h0 : 0 ≤ s) (h1 : s < 40) (h2 : placeN s < Q) : rightE P Q 4 n c s a = if valN Q l n s = a then 0 else 40 := by
  obtain ⟨g1, g2, g3, g4, g5, g6, g7⟩ := hok.gr
  have hQ : NeZero Q := ⟨by have := g2.pos; omega⟩
  have hall : allM P Q n c = true := allM_iff.2 fun i hi => by rw [hc i hi]; exact mem_pow (by omega) g2.pos g7
  have hmul : mulS P c (pwN Q (placeN s)) n = 4 ^ valN Q l n s % P := by
    rw [← com_mul hok, mulS_prd (by omega), mulS_prd (by omega), prdN_congr fun i hi => ⟨hc i hi, rfl⟩]
  unfold rightE
  rw [if_pos (r1B_ok hn1 hn h0 h1 h2)]
  unfold r2E
  rw [if_pos (muS_ok (by omega) hall)]
  have hb : r2B P Q 4 n c s a = decide (valN Q l n s = a) := by
    unfold r2B
    rw [muV_ok (by omega) hall, hmul]
    have hv := valN_m (Q := Q) l n s
    obtain ⟨v, hv2⟩ : ∃ v, valN Q l n s = v := ⟨_, rfl⟩
    rw [hv2] at hv ⊢
    by_cases ha : a < Q
    · rw [decide_eq_true ha, Bool.true_and, few_inj (by omega) g7 hok.few ha hv]
      congr 1
      exact propext eq_comm
    · rw [decide_eq_false ha, Bool.false_and, decide_eq_false (by omega)]
  rw [hb]
  by_cases h : valN Q l n s = a
  · rw [decide_eq_true h, if_pos h]; rfl
  · rw [decide_eq_false h, if_neg h]; rfl
/-! Tryd# One coefficient -/
theorem WE1 {m : Nat} (hm : 1 < m) (l : Nat → Nat) : WE m l 1 = 0 := by
  have : NeZero m := ⟨by omega⟩
  have h1 : sm m l 1 = false := rfl
  have h2 : wgE m l 1 0 = 0 := (wgE_0 hm l 1 0).2 fun k hk hk0 => by omega
  unfold WE
  rw [h1, if_neg (by decide)]
  show (if wE m l 1 0 = 0 then wgE m l 1 0 else wE m l 1 0) = 0
  rw [if_pos (show wE m l 1 0 = 0 from rfl), h2]
theorem keysI_1 {S : Nat → Int} : keysI S 1 = [S 0] := rfl
theorem flat_law (hok : SmOk P Q) {c A : Nat → Nat} {S : Nat → Int} {x : Nat} (hc : c 0 = 4 ^ x % P) (hA : A 0 = x % Q) (h0 : 0 ≤ S 0) (h1 : S 0 < 40) (h2 : placeN (S 0) < Q) :
    recE P Q 4 1 c 1 S A = 0 ∧ recV P Q 4 1 c 1 S A = x % Q := by
  obtain ⟨g1, g2, g3, g4, g5, g6, g7⟩ := hok.gr
  have hQ : NeZero Q := ⟨by have := g2.pos; omega⟩
  have hr : rightE P Q 4 1 c (S 0) (A 0) = 0 := by
    rw [binds_law hok (l := fun _ => x) (fun i hi => by rw [show i = 0 by omega, hc]; rfl) (by decide) (by decide) h0 h1 h2, if_pos (by rw [valN_one, hA])]
  have hf : rcF (fun i => rightE P Q 4 1 c (S i) (A i)) 1 = 0 := hr
  have hw := WE1 (m := Q) g2.gt (px (pl S A))
  unfold recE recV
  simp only [hf]
  rw [if_neg (show ¬ ((0 : Int) ≠ 0) from fun h => h rfl), if_neg (show ¬ ((0 : Int) ≠ 0) from fun h => h rfl), keysI_1, if_neg (show ¬ [S 0].length < 1 by simp), if_neg (show ¬ [S 0].length < 1 by simp), if_neg (show ¬ 1 < 1 by omega), if_neg (show ¬ 1 < 1 by omega)]
  refine ⟨hw, ?_⟩
  have h3 : py (pl S A) 0 = A 0 := rfl
  have ht := tells_law (m := Q) g2.gt (pl S A) (fun _ => x) 1 1 (Nat.le_refl _) (fun i hi => by
    rw [show i = 0 by omega, h3, hA]
    exact (valN_one (Q := Q) (fun _ => x) 0).symm.trans (by
      unfold valN
      refine ph_inj ?_ (hrn_m _ 1 _ 1) (hrn_m _ 1 _ 1)
      rw [hrn_all, hrn_all]
      rfl)) hw
  rw [ht, if_neg (by decide), Nat.add_zero]
/-! Tryd# Turned about -/
theorem rcF_iff {f : Nat → Int} : ∀ {n}, rcF f n = 0 ↔ ∀ i, i < n → f i = 0
  | 0 => ⟨fun _ i hi => absurd hi (Nat.not_lt_zero i), fun _ => rfl⟩
  | n + 1 => by
    show (if rcF f n ≠ 0 then rcF f n else f n) = 0 ↔ _
    constructor
    · intro h i hi
      by_cases h1 : rcF f n ≠ 0
      · rw [if_pos h1] at h
        exact absurd h h1
      · rw [if_neg h1] at h
        by_cases hin : i = n
        · subst hin; exact h
        · exact rcF_iff.1 (Decidable.not_not.1 h1) i (by omega)
    · intro h
      rw [if_neg (Decidable.not_not.2 (rcF_iff.2 fun i hi => h i (by omega))), h n (by omega)]
theorem keysI_mem {S : Nat → Int} {x : Int} : ∀ {n}, x ∈ keysI S n ↔ ∃ i, i < n ∧ S i = x
  | 0 => by
    show x ∈ [] ↔ _
    simp
  | n + 1 => by
    show x ∈ insI (keysI S n) (S n) ↔ _
    unfold insI
    split
    · rename_i h
      rw [keysI_mem]
      constructor
      · rintro ⟨i, hi, h1⟩; exact ⟨i, by omega, h1⟩
      · rintro ⟨i, hi, h1⟩
        by_cases hin : i = n
        · subst hin
          rw [h1] at h
          exact keysI_mem.1 h
        · exact ⟨i, by omega, h1⟩
    · rw [List.mem_append, keysI_mem, List.mem_singleton]
      constructor
      · rintro (⟨i, hi, h1⟩ | h1)
        · exact ⟨i, by omega, h1⟩
        · exact ⟨n, by omega, h1.symm⟩
      · rintro ⟨i, hi, h1⟩
        by_cases hin : i = n
        · subst hin; exact .inr h1.symm
        · exact .inl ⟨i, by omega, h1⟩
theorem keysI_le {S : Nat → Int} : ∀ n, (keysI S n).length ≤ n
  | 0 => Nat.le_refl _
  | n + 1 => by
    have h := keysI_le (S := S) n
    show (insI (keysI S n) (S n)).length ≤ n + 1
    unfold insI
    split
    · omega
    · rw [List.length_append]; show _ + 1 ≤ _; omega
theorem keysI_lt {S : Nat → Int} : ∀ {n}, (keysI S n).length < n ↔ ∃ i j, i < j ∧ j < n ∧ S i = S j
  | 0 => by
    constructor
    · intro h; exact absurd h (Nat.not_lt_zero _)
    · rintro ⟨i, j, _, h, _⟩; omega
  | n + 1 => by
    have hle := keysI_le (S := S) n
    show (insI (keysI S n) (S n)).length < n + 1 ↔ _
    unfold insI
    split
    · rename_i h
      constructor
      · intro _
        obtain ⟨i, hi, h1⟩ := keysI_mem.1 h
        exact ⟨i, n, hi, by omega, h1⟩
      · intro _; omega
    · rename_i h
      rw [List.length_append]
      show _ + 1 < n + 1 ↔ _
      rw [Nat.succ_lt_succ_iff, keysI_lt]
      constructor
      · rintro ⟨i, j, h1, h2, h3⟩; exact ⟨i, j, h1, by omega, h3⟩
      · rintro ⟨i, j, h1, h2, h3⟩
        by_cases hjn : j = n
        · subst hjn
          exact absurd (keysI_mem.2 ⟨i, h1, h3⟩) h
        · exact ⟨i, j, h1, by omega, h3⟩
theorem keysI_turn {S S' : Nat → Int} {n : Nat} (h : ∀ i, i < n → S' i = S (n - 1 - i)) : (keysI S' n).length < n ↔ (keysI S n).length < n := by
  rw [keysI_lt, keysI_lt]
  constructor
  · rintro ⟨i, j, h1, h2, h3⟩
    refine ⟨n - 1 - j, n - 1 - i, by omega, by omega, ?_⟩
    rw [← h i (by omega), ← h j h2, h3]
  · rintro ⟨i, j, h1, h2, h3⟩
    refine ⟨n - 1 - j, n - 1 - i, by omega, by omega, ?_⟩
    rw [h _ (by omega), h _ (by omega), show n - 1 - (n - 1 - j) = j by omega, show n - 1 - (n - 1 - i) = i by omega, h3]
theorem px_pl {S : Nat → Int} {A : Nat → Nat} {i : Nat} : px (pl S A) i = placeN (S i) := by
  unfold px pl
  rw [if_pos (by omega), show 2 * i / 2 = i by omega]
theorem py_pl {S : Nat → Int} {A : Nat → Nat} {i : Nat} : py (pl S A) i = A i := by
  unfold py pl
  rw [if_neg (by omega), show (2 * i + 1) / 2 = i by omega]
theorem turned_law (hm : 1 < Q) {m n : Nat} {c A A' : Nat → Nat} {S S' : Nat → Int} (hS : ∀ i, i < n → S' i = S (n - 1 - i)) (hA : ∀ i, i < n → A' i = A (n - 1 - i)) :
    recV P Q 4 m c n S' A' = recV P Q 4 m c n S A ∧ (recE P Q 4 m c n S' A' = 0 ↔ recE P Q 4 m c n S A = 0) := by
  have hQ : NeZero Q := ⟨by omega⟩
  obtain ⟨f, hf⟩ : ∃ f : Nat → Int, (fun i => rightE P Q 4 m c (S i) (A i)) = f := ⟨_, rfl⟩
  obtain ⟨f', hf'⟩ : ∃ f : Nat → Int, (fun i => rightE P Q 4 m c (S' i) (A' i)) = f := ⟨_, rfl⟩
  have hff : ∀ i, i < n → f' i = f (n - 1 - i) := fun i hi => by
    rw [← hf, ← hf']
    show rightE P Q 4 m c (S' i) (A' i) = _
    rw [hS i hi, hA i hi]
  have h1 : rcF f' n = 0 ↔ rcF f n = 0 := by
    rw [rcF_iff, rcF_iff]
    constructor
    · intro h i hi
      have := h (n - 1 - i) (by omega)
      rwa [hff _ (by omega), show n - 1 - (n - 1 - i) = i by omega] at this
    · intro h i hi
      rw [hff i hi]; exact h _ (by omega)
  have h2 := keysI_turn hS
  have h3 : WE Q (px (pl S' A')) n = WE Q (px (pl S A)) n := WE_turn hm _ _ n fun i hi => by rw [px_pl, px_pl, hS i hi]
  have h4 : atz Q (pl S' A') n = atz Q (pl S A) n := atz_turn hm _ _ n (fun i hi => by rw [px_pl, px_pl, hS i hi]) (fun i hi => by rw [py_pl, py_pl, hA i hi])
  unfold recE recV
  simp only [hf, hf', h3, h4]
  by_cases hr : rcF f n = 0
  · have hr' := h1.2 hr
    rw [hr, hr']
    by_cases hk : (keysI S n).length < n
    · have hk' := h2.2 hk
      simp [hk, hk']
    · have hk' : ¬ (keysI S' n).length < n := fun h => hk (h2.1 h)
      simp [hk, hk']
  · have hr' : ¬ rcF f' n = 0 := fun h => hr (h1.1 h)
    simp [hr, hr']
end
section
variable {Γ : Ctx} {H : Heap} {K : TV → Heap → Prop} {P Q : Nat}
theorem yF_lsmall {z : Int} {N : Nat} (h : NewG Tryd.prog 34 [.s (.v (.int .i64 z))] gv (SmG P Q)) (hgv : Kn Γ fun _ w => gv w) (hP : Γ.P = Tryd.prog) (hev : ∀ t, ¬ Γ.ev.TM t) (hN : H.length = N)
    (hK : ∀ bx bq, K (.s (.p N 0)) (H ++ [⟨84, grpc P Q 4 (.p (N + 1) 0) (.p (N + 2) 0)⟩, ⟨108, modS P bx⟩, ⟨108, modS Q bq⟩])) : xcallF Γ H 34 [.s (.v (.int .i64 z))] K := by
  subst hN
  refine yF_newG (P := Tryd.prog) (fun β w hR => ⟨_, h, hgv w hR.fr.to⟩) hP (by kernel_rfl) hev ?_
  rintro _ H1 ⟨bx, bq, rfl, rfl⟩
  have h1 := hK bx bq
  have e : TV.ren (· + H.length) (.s (.p 0 0)) = .s (.p (0 + H.length) 0) := rfl
  rw [e, Nat.zero_add]
  have e2 : List.map (AB.ren (· + H.length)) [⟨84, grpc P Q 4 (.p 1 0) (.p 2 0)⟩, ⟨108, modS P bx⟩, ⟨108, modS Q bq⟩] = [⟨84, grpc P Q 4 (.p (H.length + 1) 0) (.p (H.length + 2) 0)⟩, ⟨108, modS P bx⟩, ⟨108, modS Q bq⟩] := by
    have e3 : 1 + H.length = H.length + 1 := by omega
    have e4 : 2 + H.length = H.length + 2 := by omega
    simp only [List.map_cons, List.map_nil, abren_mk, ren_grpc]
    simp only [SV.ren, e3, e4]
    have e5 : ∀ (ρ : Nat → Nat) (m : Nat) (b : Bool), (modS m b).map (SV.ren ρ) = modS m b := fun ρ m b => SV.rens_ok0 modS_ok
    rw [e5, e5]
  rw [e2]
  exact h1
end
theorem smQ_10 (z : Int) : 10 < smQ z := by
  unfold smQ
  split
  · decide
  · split
    · decide
    · split <;> decide
/-! Tryd# Pieces of ours -/
def pcs (n : Nat) (S : Nat → Int) (A : Nat → Nat) : List SV := (List.range (5 * n)).map fun j => .v (pcsG S A j)
theorem pcs_length {n : Nat} {S : Nat → Int} {A : Nat → Nat} : (pcs n S A).length = 5 * n := by simp [pcs]
theorem pcs_get {n i : Nat} {S : Nat → Int} {A : Nat → Nat} (h : i < 5 * n) : (pcs n S A)[i]? = some (.v (pcsG S A i)) := by
  unfold pcs
  rw [List.getElem?_map, List.getElem?_range h]
  rfl
theorem pcs_ok {n : Nat} {S : Nat → Int} {A : Nat → Nat} (m : Nat) : ∀ x ∈ pcs n S A, x.ok m := fun x hx => by
  obtain ⟨j, _, rfl⟩ := List.mem_map.1 hx
  trivial
theorem pcs_snoc {n : Nat} {S : Nat → Int} {A : Nat → Nat} : pcs n S A ++ pieceC (S n) (A n) = pcs (n + 1) S A := by
  unfold pcs
  rw [show 5 * (n + 1) = 5 * n + 5 by omega, List.range_add, List.map_append, ← map_pcsG, List.map_map]
  congr 1
  exact List.map_congr_left fun j _ => by rw [Function.comp_apply, Nat.mul_comm 5 n]
theorem pcsAt_own {Γ : Ctx} {T0 B n : Nat} {S : Nat → Int} {A : Nat → Nat} {sp : List SV} {e : Nat} {H : Heap} {β : Nat → Nat} {w : World} {j : Nat} (hR : Rep Γ H β w) (hb : H[j]? = some ⟨e, pcs n S A ++ sp⟩) (he : e ≠ T0) : pcsAt (modEvo T0) (some ⟨β j, 0, none⟩) n S A B w := by
  refine .inr ⟨_, rfl, rfl, _, _, _, hR.blk β (.refl _ _) j _ hb, .inr he, fun i hi => ?_⟩
  simp only [AB.conc, List.getElem?_toArray, List.getElem?_map, Nat.zero_add]
  rw [List.getElem?_append_left (by rw [pcs_length]; exact hi), pcs_get hi]
  rfl
theorem pcsAt_own0 {Γ : Ctx} {T0 B n : Nat} {S : Nat → Int} {A : Nat → Nat} {e : Nat} {H : Heap} {β : Nat → Nat} {w : World} {j : Nat} (hR : Rep Γ H β w) (hb : H[j]? = some ⟨e, pcs n S A⟩) (he : e ≠ T0) : pcsAt (modEvo T0) (some ⟨β j, 0, none⟩) n S A B w :=
  pcsAt_own (sp := []) hR (by rw [List.append_nil]; exact hb) he
theorem natsAt_congr {V : Evo} {x : Option Addr} {n B : Nat} {l l' : Nat → Nat} {w : World} (h : natsAt V x n l B w) (hl : ∀ i, i < n → l i = l' i) : natsAt V x n l' B w := by
  rcases h with h | ⟨ad, hx, hs, c, t, f, hk, ht, hc⟩
  · exact .inl h
  · refine .inr ⟨ad, hx, hs, c, t, f, hk, ht, fun i hi => ?_⟩
    rw [hc i hi]
    unfold natsG
    rw [hl (i / 4) (by omega)]
def twoI (a b : Int) (i : Nat) : Int := if i = 0 then a else b
theorem piece_b0 {s : Int} {a : Nat} : setAt [.v (.int .i64 s), .v (.int .u64 0), .v (.int .u64 0), .v (.int .u64 0), .v (.int .u64 0)] 1 (nat4 a) = pieceC s a := rfl
theorem piece_l0 {s : Int} : ([.v (.int .i64 s), .v (.int .u64 0), .v (.int .u64 0), .v (.int .u64 0), .v (.int .u64 0)] : List SV).length = 5 := rfl
def zpc1 : List SV := [.v (.int .i64 0), .v (.int .u64 0), .v (.int .u64 0), .v (.int .u64 0), .v (.int .u64 0)]
theorem gzpc1 : slice0 Tryd.prog 64 1 = some zpc1 := by kernel_rfl
theorem zpc1_len : zpc1.length = 5 := rfl
theorem one_pc (s : Int) (a : Nat) : setAt zpc1 0 (pieceC s a) = pcs 1 (fun _ => s) (fun _ => a) := by kernel_rfl
def zpc2 : List SV := zpc1 ++ zpc1
theorem gzpc2 : slice0 Tryd.prog 64 2 = some zpc2 := by kernel_rfl
theorem zpc2_len : zpc2.length = 10 := rfl
theorem zpc2_set (s : Int) (a : Nat) : (setAt zpc2 0 (pieceC s a)).length = 10 := rfl
theorem two_pc (s t : Int) (a b : Nat) : setAt (setAt zpc2 0 (pieceC s a)) 5 (pieceC t b) = pcs 2 (twoI s t) (two a b) := by kernel_rfl
def three (a b c : Nat) (i : Nat) : Nat := if i = 0 then a else if i = 1 then b else c
theorem gz2n : slice0 Tryd.prog 24 2 = some (arr 8 fun _ => 0) := by kernel_rfl
theorem gz3n : slice0 Tryd.prog 24 3 = some (arr 12 fun _ => 0) := by kernel_rfl
theorem two_set (a b : Nat) : setAt (setAt (arr 8 fun _ => 0) 0 (nat4 a)) 4 (nat4 b) = nats 2 (two a b) := by kernel_rfl
theorem two_len (a : Nat) : (setAt (arr 8 fun _ => 0) 0 (nat4 a)).length = 8 := rfl
theorem three_set (a b c : Nat) : setAt (setAt (setAt (arr 12 fun _ => 0) 0 (nat4 a)) 4 (nat4 b)) 8 (nat4 c) = nats 3 (three a b c) := by kernel_rfl
theorem three_len (a : Nat) : (setAt (arr 12 fun _ => 0) 0 (nat4 a)).length = 12 := rfl
theorem three_len2 (a b : Nat) : (setAt (setAt (arr 12 fun _ => 0) 0 (nat4 a)) 4 (nat4 b)).length = 12 := rfl
theorem ex_com : ∀ i, i < 2 → comN 23 4 (two 3 2) i = two 18 16 i := by decide
theorem ex_val : ∀ i, i < 3 → valN 11 (two 3 2) 2 (i : Nat) = three 5 7 9 i := by decide
theorem ex_r1 : rightE 23 11 4 2 (comN 23 4 (two 3 2)) 1 7 = 0 := by
  rw [binds_law (P := 23) (Q := 11) (sm_ok 0) (l := two 3 2) (fun i _ => rfl) (by decide) (by decide) (by decide) (by decide) (by decide)]
  decide
theorem ex_r2 : rightE 23 11 4 2 (comN 23 4 (two 3 2)) 1 8 = 40 := by
  rw [binds_law (P := 23) (Q := 11) (sm_ok 0) (l := two 3 2) (fun i _ => rfl) (by decide) (by decide) (by decide) (by decide) (by decide)]
  decide
theorem ex_right : ∀ i, i < 2 → rightE 23 11 4 2 (comN 23 4 (two 3 2)) (twoI 0 2 i) (two 5 9 i) = 0 := fun i hi => by
  have h := binds_law (P := 23) (Q := 11) (sm_ok 0) (l := two 3 2) (c := comN 23 4 (two 3 2)) (n := 2) (a := two 5 9 i) (s := twoI 0 2 i) (fun i _ => rfl) (by decide) (by decide) (by unfold twoI; split <;> decide) (by unfold twoI; split <;> decide) (by unfold twoI; split <;> decide)
  rw [h, if_pos]
  rcases i with _ | _ | i
  · decide
  · decide
  · omega
theorem ex_un : ∀ i k, i < 2 → k < 2 → k ≠ i → invE 11 (msub 11 (px (pl (twoI 0 2) (two 5 9)) k) (px (pl (twoI 0 2) (two 5 9)) i)) = 0 := fun i k hi hk hik => by
  rw [inv_0 (by decide)]
  rcases i with _ | _ | i
  · rcases k with _ | _ | k
    · exact absurd rfl hik
    · exact ⟨6, by decide⟩
    · omega
  · rcases k with _ | _ | k
    · exact ⟨5, by decide⟩
    · exact absurd rfl hik
    · omega
  · omega
theorem ex_WE : WE 11 (px (pl (twoI 0 2) (two 5 9))) 2 = 0 := by
  unfold WE
  rw [show sm 11 (px (pl (twoI 0 2) (two 5 9))) 2 = false by decide, if_neg (by decide)]
  exact (wE_all (m := 11) _ 2 2).1.2 fun i hi => (wgE_0 (by decide) _ 2 i).2 fun k hk hki => ex_un i k hi hk hki
theorem ex_rec : recE 23 11 4 2 (comN 23 4 (two 3 2)) 2 (twoI 0 2) (two 5 9) = 0 ∧ recV 23 11 4 2 (comN 23 4 (two 3 2)) 2 (twoI 0 2) (two 5 9) = 3 := by
  have hf : rcF (fun i => rightE 23 11 4 2 (comN 23 4 (two 3 2)) (twoI 0 2 i) (two 5 9 i)) 2 = 0 := rcF_iff.2 fun i hi => ex_right i hi
  have hk : ¬ (keysI (twoI 0 2) 2).length < 2 := by decide
  unfold recE recV
  simp only [hf]
  rw [if_neg (show ¬ ((0 : Int) ≠ 0) from fun h => h rfl), if_neg (show ¬ ((0 : Int) ≠ 0) from fun h => h rfl), if_neg hk, if_neg hk, if_neg (by decide), if_neg (by decide)]
  refine ⟨ex_WE, ?_⟩
  rw [tells_law (m := 11) (by decide) (pl (twoI 0 2) (two 5 9)) (two 3 2) 2 2 (Nat.le_refl 2) (fun i hi => ?_) ex_WE]
  · decide
  · rcases i with _ | _ | i
    · decide
    · decide
    · omega
theorem shawake_m : PureM Tryd.prog 33 [] gv (.s (.v (.bool true))) := by
  obtain ⟨hE, hV⟩ := ex_rec
  have hsm : NewG Tryd.prog 34 [.s (.v (.int .i64 0))] gv (SmG 23 11) := lsmall_g 0
  have hok : SmOk 23 11 := sm_ok 0
  (refine pureM_of Tryd.func33 rfl (by simp only [List.length_cons, List.length_nil, List.map_cons, List.map_nil, List.nodup_cons, List.nodup_nil, List.mem_cons, Nat.reduceAdd, Nat.reduceEqDiff, or_false, not_false_eq_true, forall_eq_or_imp, forall_eq, or_self, Nat.reduceLT, Nat.reduceLeDiff, and_self, List.forall_mem_cons, List.not_mem_nil, false_implies, implies_true, and_true, true_and, vcOHb]) (by simp only [List.length_cons, List.length_nil, List.map_cons, List.map_nil, List.nodup_cons, List.nodup_nil, List.mem_cons, Nat.reduceAdd, Nat.reduceEqDiff, or_false, not_false_eq_true, forall_eq_or_imp, forall_eq, or_self, Nat.reduceLT, Nat.reduceLeDiff, and_self, List.forall_mem_cons, List.not_mem_nil, false_implies, implies_true, and_true, true_and, vcOHb]) fun w hpre => ?_; simp only [List.length_cons, List.length_nil, Tryd.ntmps33, Nat.reduceAdd, Nat.reduceSub, List.replicate_succ, List.replicate_zero, List.cons_append, List.nil_append])
  have hgv := gv_kn (P0 := Tryd.prog) hpre
  (repeat' ((first | with_reducible (first | apply XR_cons | apply XR_consG | apply XR_nil | apply cF_pure3 (by assumption) | apply cF_ev3 (by assumption)) | with_reducible (first | apply gRS (by with_unfolding_all rfl) | apply gR (by with_unfolding_all rfl) | apply gS (by with_unfolding_all rfl) | fail) | refine X_of _ ?_ | with_reducible (first | exact ⟨_, rfl⟩ | refine And.intro ?_ ?_ | intro _)) <;> try simp -implicitDefEqProofs (maxSteps := 1000000) (disch := first | exact dz3 | fail) only [vcR, vcT, simprocAttr, Ab.part, implies_true, forall_const, true_or, Option.isNone_some, Option.isNone_none, vcXHb, Tryd.f33, List.toList_toArray, arr4_zero, nat4_set1, nat4_setL, nat4_set0]))
  refine yF_lsmall (N := 0) hsm hgv rfl (fun _ h => h) rfl ?_
  intro bx bq
  (try (first | with_reducible refine X_regRS ?_ | with_reducible refine X_regR ?_ | (with_reducible refine X_seqX ?_; with_reducible refine X_blockX ?_; with_reducible refine X_regR ?_))); (repeat ((first | with_reducible refine XR_make ?_ | with_reducible refine XR_append ?_ | with_reducible refine XR_cons ?_ | with_reducible refine XR_consG ?_ | with_reducible refine XR_nil ?_); try simp -implicitDefEqProofs (maxSteps := 1000000) (disch := first | exact dz3 | fail) only [vcR, vcT, simprocAttr, Ab.part, implies_true, forall_const, true_or, Option.isNone_some, Option.isNone_none, vcXHb, Tryd.f33, List.toList_toArray]))
  refine X_grp 0 1 2 [] rfl rfl rfl hok.gr.1 hok.gr.2.1 (by decide) (by simp) (by simp) (by simp) (by simp [pickH_nil]) fun β1 w1 hR1 hG hK => ?_
  have hO := gv_one hpre hR1 (L := []) (fun i hi => by simp at hi)
  clear hR1 hK hgv hpre
  simp -implicitDefEqProofs (maxSteps := 1000000) (disch := first | exact dz3 | fail) only [vcR, vcT, simprocAttr, Ab.part, implies_true, forall_const, true_or, Option.isNone_some, Option.isNone_none, vcXHb, Tryd.f33, List.toList_toArray]
  obtain ⟨k, hk⟩ : ∃ k, β1 0 = k := ⟨_, rfl⟩
  obtain ⟨kx, hkx⟩ : ∃ k, β1 1 = k := ⟨_, rfl⟩
  obtain ⟨kq, hkq⟩ : ∃ k, β1 2 = k := ⟨_, rfl⟩
  rw [hk, hkx, hkq] at hG
  have hl2 : ∀ i, two 3 2 i < 2 ^ 256 := fun i => by unfold two; split <;> decide
  have hc2 : ∀ i, comN 23 4 (two 3 2) i < 2 ^ 256 := fun i => Nat.lt_of_lt_of_le (Nat.mod_lt _ (by decide)) (by decide)
  have e1 := fun x c => deal_n k kx kq 23 11 4 x 2 c 3 (two 3 2) (by decide) hl2 (by decide) (by decide) (by decide) (by decide) (by decide)
  have e2 := fun x c => right_e k kx kq 23 11 4 x 2 c (comN 23 4 (two 3 2)) 1 7 (by decide) (by decide) (by decide) hc2 (by decide) (by decide) (by decide)
  have e3 := fun x c => right_e k kx kq 23 11 4 x 2 c (comN 23 4 (two 3 2)) 1 8 (by decide) (by decide) (by decide) hc2 (by decide) (by decide) (by decide)
  have e4 := fun x c y d => recover_e k kx kq 23 11 4 x 2 c (comN 23 4 (two 3 2)) y 2 d (twoI 0 2) (two 5 9) (by decide) (by decide) (by decide) hc2 (fun i => by unfold two; split <;> decide) (fun i => by unfold twoI; split <;> decide) (by decide) (by decide)
  rw [ex_r1] at e2
  rw [ex_r2] at e3
  rw [hE, hV] at e4
  clear hE hV hsm hok
  (repeat' ((first | with_reducible (first | apply XR_cons | apply XR_consG | apply XR_nil | apply cF_pure3 (by assumption) | apply cF_ev3 (by assumption)) | with_reducible (first | apply gRS (by with_unfolding_all rfl) | apply gR (by with_unfolding_all rfl) | apply gS (by with_unfolding_all rfl) | fail) | refine X_of _ ?_ | with_reducible (first | exact ⟨_, rfl⟩ | refine And.intro ?_ ?_ | intro _)) <;> try simp -implicitDefEqProofs (maxSteps := 1000000) (disch := first | exact dz3 | fail) only [vcR, vcT, simprocAttr, Ab.part, implies_true, forall_const, true_or, Option.isNone_some, Option.isNone_none, vcXHb, Tryd.f33, List.toList_toArray, arr4_zero, nat4_set1, nat4_setL, nat4_set0, st_bs,xbs_some,gz2n,two_set,two_len,hk]))
  refine xcall_evn (by kernel_rfl) (fun β w' hR => ⟨_, e1 (some ⟨β 0, 0, none⟩) 2, hG w' hR.fr.to, natsAt_own0 hR rfl (by decide)⟩) ?_
  rintro _ _ ⟨c1, sp1, c2, sp2, hc1, hc2, rfl, rfl⟩
  try simp -implicitDefEqProofs (maxSteps := 1000000) (disch := first | exact dz3 | fail) only [vcR, vcT, simprocAttr, Ab.part, implies_true, forall_const, true_or, Option.isNone_some, Option.isNone_none, vcXHb, Tryd.f33, List.toList_toArray]
  (try (first | with_reducible refine X_regRS ?_ | with_reducible refine X_regR ?_ | (with_reducible refine X_seqX ?_; with_reducible refine X_blockX ?_; with_reducible refine X_regR ?_))); (repeat ((first | with_reducible refine XR_make ?_ | with_reducible refine XR_append ?_ | with_reducible refine XR_cons ?_ | with_reducible refine XR_consG ?_ | with_reducible refine XR_nil ?_); try simp -implicitDefEqProofs (maxSteps := 1000000) (disch := first | exact dz3 | fail) only [vcR, vcT, simprocAttr, Ab.part, implies_true, forall_const, true_or, Option.isNone_some, Option.isNone_none, vcXHb, Tryd.f33, List.toList_toArray]))
  refine X_rebase (modEvo 108) w.heap.size [] (by decide) (by simp) rfl (.inl ⟨rfl, rfl⟩) (fun _ h => h) (by simp) fun β2 w2 hR2 => ?_
  have hG2 : Kn (((ctx0 Tryd.prog w).after (modEvo 108) w.heap.size w1 β1 []).after (modEvo 108) w.heap.size w2 β2 []) (GK k kx kq 23 11 4) := hG.after (L := []) hR2 (by simp)
  have hO2 : Kn (((ctx0 Tryd.prog w).after (modEvo 108) w.heap.size w1 β1 []).after (modEvo 108) w.heap.size w2 β2 []) oneK := hO.after (L := []) hR2 (by simp)
  have hC : Kn (((ctx0 Tryd.prog w).after (modEvo 108) w.heap.size w1 β1 []).after (modEvo 108) w.heap.size w2 β2 []) (natsAt (modEvo 108) (some ⟨β2 1, 0, none⟩) 2 (comN 23 4 (two 3 2))) := natsAt_gone (T0 := 108) (B := w.heap.size) (L := []) (j := 1) (n := 2) (l := comN 23 4 (two 3 2)) (sp := sp1.map SV.v) hR2 rfl (by simp) (by simp) (by decide)
  have hS : Kn (((ctx0 Tryd.prog w).after (modEvo 108) w.heap.size w1 β1 []).after (modEvo 108) w.heap.size w2 β2 []) (natsAt (modEvo 108) (some ⟨β2 2, 0, none⟩) 3 fun i => valN 11 (two 3 2) 2 (i : Nat)) := natsAt_gone (T0 := 108) (B := w.heap.size) (L := []) (j := 2) (n := 3) (l := fun i => valN 11 (two 3 2) 2 (i : Nat)) (sp := sp2.map SV.v) hR2 rfl (by simp) (by simp) (by decide)
  clear hR2 hG hO
  simp -implicitDefEqProofs (maxSteps := 1000000) (disch := first | exact dz3 | fail) only [vcR, vcT, simprocAttr, Ab.part, implies_true, forall_const, true_or, Option.isNone_some, Option.isNone_none, vcXHb, Tryd.f33, List.toList_toArray]
  obtain ⟨jc, hjc⟩ : ∃ j, β2 1 = j := ⟨_, rfl⟩
  obtain ⟨js, hjs⟩ : ∃ j, β2 2 = j := ⟨_, rfl⟩
  rw [hjc] at hC
  rw [hjs] at hS
  have e2 := e2 (some ⟨jc, 0, none⟩) c1
  have e3 := e3 (some ⟨jc, 0, none⟩) c1
  have e4 := fun ad => e4 (some ⟨jc, 0, none⟩) c1 (some ad) 2
  (repeat' ((first | with_reducible (first | apply XR_cons | apply XR_consG | apply XR_nil | apply cF_pure3 (by assumption) | apply cF_ev3 (by assumption)) | with_reducible (first | apply gRS (by with_unfolding_all rfl) | apply gR (by with_unfolding_all rfl) | apply gS (by with_unfolding_all rfl) | fail) | refine X_of _ ?_ | with_reducible (first | exact ⟨_, rfl⟩ | refine And.intro ?_ ?_ | intro _)) <;> try simp -implicitDefEqProofs (maxSteps := 1000000) (disch := first | exact dz3 | fail) only [vcR, vcT, simprocAttr, Ab.part, implies_true, forall_const, true_or, Option.isNone_some, Option.isNone_none, vcXHb, Tryd.f33, List.toList_toArray, arr4_zero, nat4_set1, nat4_setL, nat4_set0, piece_b0,piece_l0,hjc,hjs,st_bs,xbs_some,gzpc2,zpc2_len,zpc2_set,two_pc,pieceC_length,pieceC_okk,pieceC_one]))
  refine yF_evz (fun β' w' hR => ⟨_, e4 ⟨β' 0, 0, none⟩, ⟨hG2 w' hR.fr.to, hO2 w' hR.fr.to⟩, hC w' hR.fr.to, pcsAt_own0 hR rfl (by decide)⟩) rfl rfl (by kernel_rfl) ?_
  try simp -implicitDefEqProofs (maxSteps := 1000000) (disch := first | exact dz3 | fail) only [vcR, vcT, simprocAttr, Ab.part, implies_true, forall_const, true_or, Option.isNone_some, Option.isNone_none, vcXHb, Tryd.f33, List.toList_toArray]
  (repeat' ((first | with_reducible (first | apply XR_cons | apply XR_consG | apply XR_nil | apply cF_pure3 (by assumption) | apply cF_ev3 (by assumption)) | with_reducible (first | apply gRS (by with_unfolding_all rfl) | apply gR (by with_unfolding_all rfl) | apply gS (by with_unfolding_all rfl) | fail) | refine X_of _ ?_ | with_reducible (first | exact ⟨_, rfl⟩ | refine And.intro ?_ ?_ | intro _)) <;> try simp -implicitDefEqProofs (maxSteps := 1000000) (disch := first | exact dz3 | fail) only [vcR, vcT, simprocAttr, Ab.part, implies_true, forall_const, true_or, Option.isNone_some, Option.isNone_none, vcXHb, Tryd.f33, List.toList_toArray, arr4_zero, nat4_set1, nat4_setL, nat4_set0, st_bs,xbs_some,gz2n,two_set,two_len,gz3n,three_set,three_len,three_len2]))
  refine yF_evz (fun β' w' hR => ⟨_, nats_same (some ⟨jc, 0, none⟩) (some ⟨β' 2, 0, none⟩) 2 c1 2 (two 18 16) (fun i => by unfold two; split <;> decide) (by decide), natsAt_congr (hC w' hR.fr.to) ex_com, natsAt_own0 hR rfl (by decide)⟩) rfl rfl (by kernel_rfl) ?_
  try simp -implicitDefEqProofs (maxSteps := 1000000) (disch := first | exact dz3 | fail) only [vcR, vcT, simprocAttr, Ab.part, implies_true, forall_const, true_or, Option.isNone_some, Option.isNone_none, vcXHb, Tryd.f33, List.toList_toArray]
  (repeat' ((first | with_reducible (first | apply XR_cons | apply XR_consG | apply XR_nil | apply cF_pure3 (by assumption) | apply cF_ev3 (by assumption)) | with_reducible (first | apply gRS (by with_unfolding_all rfl) | apply gR (by with_unfolding_all rfl) | apply gS (by with_unfolding_all rfl) | fail) | refine X_of _ ?_ | with_reducible (first | exact ⟨_, rfl⟩ | refine And.intro ?_ ?_ | intro _)) <;> try simp -implicitDefEqProofs (maxSteps := 1000000) (disch := first | exact dz3 | fail) only [vcR, vcT, simprocAttr, Ab.part, implies_true, forall_const, true_or, Option.isNone_some, Option.isNone_none, vcXHb, Tryd.f33, List.toList_toArray, arr4_zero, nat4_set1, nat4_setL, nat4_set0, st_bs,xbs_some,gz2n,two_set,two_len,gz3n,three_set,three_len,three_len2]))
  refine yF_evz (fun β' w' hR => ⟨_, nats_same (some ⟨js, 0, none⟩) (some ⟨β' 3, 0, none⟩) 3 c2 3 (three 5 7 9) (fun i => by unfold three; split; decide; split <;> decide) (by decide), natsAt_congr (hS w' hR.fr.to) ex_val, natsAt_own0 hR rfl (by decide)⟩) rfl rfl (by kernel_rfl) ?_
  try simp -implicitDefEqProofs (maxSteps := 1000000) (disch := first | exact dz3 | fail) only [vcR, vcT, simprocAttr, Ab.part, implies_true, forall_const, true_or, Option.isNone_some, Option.isNone_none, vcXHb, Tryd.f33, List.toList_toArray]
  (repeat' ((first | with_reducible (first | apply XR_cons | apply XR_consG | apply XR_nil | apply cF_pure3 (by assumption) | apply cF_ev3 (by assumption)) | with_reducible (first | apply gRS (by with_unfolding_all rfl) | apply gR (by with_unfolding_all rfl) | apply gS (by with_unfolding_all rfl) | fail) | refine X_of _ ?_ | with_reducible (first | exact ⟨_, rfl⟩ | refine And.intro ?_ ?_ | intro _)) <;> try simp -implicitDefEqProofs (maxSteps := 1000000) (disch := first | exact dz3 | fail) only [vcR, vcT, simprocAttr, Ab.part, implies_true, forall_const, true_or, Option.isNone_some, Option.isNone_none, vcXHb, Tryd.f33, List.toList_toArray, arr4_zero, nat4_set1, nat4_setL, nat4_set0, litsEq_self]))
end Go.Proofs.YtdmcknmjdlghgaaDoor
