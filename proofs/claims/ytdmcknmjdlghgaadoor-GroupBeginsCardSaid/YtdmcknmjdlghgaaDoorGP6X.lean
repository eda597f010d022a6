/-
  GroupBegins: whatever the input, the law returns true, and its arguments read as they did; the listed variable is laid by the program's text: the card ties it.
-/
import Derived.Test.YtdmcknmjdlghgaaDoorCards
import Derived.Test.YtdmcknmjdlghgaaDoorTie
import Derived.SevenTiedAt
import Derived.Test.YtdmcknmjdlghgaaDoorX01
import Derived.Test.YtdmcknmjdlghgaaDoorX02
import Derived.Test.YtdmcknmjdlghgaaDoorX03
import Derived.Test.YtdmcknmjdlghgaaDoorX08
import Derived.Test.YtdmcknmjdlghgaaDoorX09
import Derived.Test.YtdmcknmjdlghgaaDoorX17
namespace Go.Proofs.YtdmcknmjdlghgaaDoor
open Go Go.Ab Go.ChangeShapes Go.WideShapes Go.ChangeAt Go.RowKit
set_option linter.unusedSimpArgs false
set_option linter.unusedVariables false

theorem groupBegins_own : ownKnob Tryd.prog.godebug = none := by kernel_rfl
theorem groupBegins_laidOut : laidOutB Tryd.prog = true := by kernel_rfl
theorem groupBegins_met (os : Os) : laidMetH Tryd.prog Rows.groupBeginsRow.laid ((laidWorld os).forCall (fun _ _ => 0) ⟨#[], #[.agg #[.int .u64 0, .int .u64 0, .int .u64 0, .int .u64 0, .int .u64 0, .int .u64 0, .int .u64 0, .int .u64 0, .int .u64 0, .int .u64 0, .int .u64 0, .int .u64 0], .slice none 0 0], []⟩).memory :=
  (laidMet_of_run' 8 (by kernel_rfl) (by kernel_rfl) : laidMet Tryd.prog Rows.groupBeginsRow.laid _)

set_option maxRecDepth 100000 in
theorem groupBegins_lifted (os : Os) (started : os.Started) (H : Type) (enc : TypeId × Value → H) :
    ReturnsInHanded {} Tryd.checked os 4 .any (fun w args => (Rows.groupBeginsSpec.pre enc Tryd.prog Tryd.f4 [] false w args ∧ laidMetH Tryd.prog Rows.groupBeginsRow.laid w) ∧ sizedMet enc Tryd.prog Tryd.f4 (OpenSpec.ofChange Rows.groupBeginsSpec) false w args) (Rows.groupBeginsSpec.post enc Tryd.prog Tryd.f4 false true false false) := by
  refine law_lifted2 (C := Tryd.checked) (tb := 4) (X := fun w _ => laidMetH Tryd.prog Rows.groupBeginsRow.laid w) (fun _ _ _ hh h => h.of_heap hh) groupBegins_own started (by kernel_rfl) Tryd.func4 groupBegins_laidOut
    (ChangeSpec.witness_at (enc := enc) (C := Tryd.checked) (os := os) (X := fun w _ => laidMetH Tryd.prog Rows.groupBeginsRow.laid w) false (laidWorld os) #[.agg #[.int .u64 0, .int .u64 0, .int .u64 0, .int .u64 0, .int .u64 0, .int .u64 0, .int .u64 0, .int .u64 0, .int .u64 0, .int .u64 0, .int .u64 0, .int .u64 0], .slice none 0 0] 8 rfl (by kernel_rfl) (by kernel_rfl) (by kernel_rfl) (by kernel_rfl) (by kernel_rfl) (groupBegins_met os))
    rfl (fun ds h => ?_) rfl (by kernel_rfl) ?_ ?_
  · rw [Tryd.params4] at h
    rcases ds with _ | ⟨x1, _ | ⟨x2, ds⟩⟩ <;> first | rfl | (simp at h; done) | (simp at h; subst h; rfl)
  · rw [Tryd.params4]
    simp only [List.mem_cons, List.not_mem_nil, or_false, forall_eq_or_imp, forall_eq]
    exact ⟨⟨by kernel_rfl, of_decide_eq_true (by kernel_rfl)⟩, ⟨by kernel_rfl, of_decide_eq_true (by kernel_rfl)⟩⟩
  · intro W base args ds ps hval0 hA0 hX
    have hL : gv W := gv_of_laid hX
    have hval : ∀ (j : Nat) t v, Tryd.f4.params[j]? = some t → args[j]? = some v → Value.okWide Tryd.prog W .any base t v := hval0
    have hA : DataW.TrodAll enc Tryd.prog W 0 (fun _ => true) true Tryd.f4.params.toList args.toList ds ps := hA0
    clear hval0 hA0
    rw [Tryd.params4] at hA hval
    obtain ⟨v0, v1, d0, d1, p0, p1, rfl, rfl, rfl, h0, h1⟩ := trodAll_two hA
    obtain ⟨P0, Q0, G0, r0, s0, t0, e0⟩ := open_prms (hval 0 27 v0 rfl rfl) h0
    have q0 := e0 (fun _ => 0)
    obtain ⟨x1, n1, c1, l1, q1, b1, z1, s1, m1⟩ := open_prfs (hval 1 28 v1 rfl rfl) h1
    have hx := groupBegins_m P0 Q0 G0 r0 s0 t0 x1 n1 c1 l1 s1 b1 W ⟨m1, hL⟩
    subst q0 q1
    exact hx.mono fun e w' ⟨h1, h2⟩ => ⟨h1 (fun _ => 0), h2⟩

theorem groupBegins_row : Rows.GroupBeginsSaid :=
  OpenClaim.holds_of_wide 4 Tryd.f4 rfl rfl rfl rfl rfl rfl rfl ⟨rfl, rfl, rfl, rfl, rfl⟩ rfl rfl rfl rfl rfl (by kernel_rfl) Tryd.func4 (by kernel_rfl)
    (of_decide_eq_true (by kernel_rfl)) (by unfold Func.isWrapper; first | (rw [if_pos (by decide +kernel)]; kernel_rfl) | (rw [if_neg (by decide +kernel)]; exact ⟨rfl, rfl⟩))
    (fun os started H enc _ => groupBegins_lifted os started H enc)
theorem groupBegins_holds : Rows.GroupBeginsCardSaid :=
  Claim7.holds_tied_plain_at .later [] [.data, .data, .data, .data] true (true, "3c0b510613646d09c25269a38b34d414a5ed09da696e5a61886c415979359f8c") false
    groupBegins_row (fun _ h => by cases h) (by kernel_rfl) (fun _ h => by cases h) groupBegins_row_tie rfl ⟨rfl, rfl⟩ (by kernel_rfl) rfl
    (fun f fn hf hfn => by
      obtain rfl : f = 4 := Option.some.inj ((show Tryd.prog.funcNamed "sortition/sortitionlaw05.GroupBegins" = some 4 by kernel_rfl).symm.trans hf) |>.symm
      obtain rfl : fn = Tryd.f4 := (Option.some.inj (Tryd.func4.symm.trans hfn)).symm
      exact ⟨by kernel_rfl, fun j t ht => by
        rw [Tryd.params4] at ht
        rcases j with _ | j
        · have h3 : t = 27 := by simpa using ht.symm
          subst h3
          exact (show Tryd.prog.wantsStandIn 27 = false by kernel_rfl)
        · rcases j with _ | j
          · have h3 : t = 28 := by simpa using ht.symm
            subst h3
            exact (show Tryd.prog.wantsStandIn 28 = false by kernel_rfl)
          · simp at ht⟩)
    (by kernel_rfl)
end Go.Proofs.YtdmcknmjdlghgaaDoor
