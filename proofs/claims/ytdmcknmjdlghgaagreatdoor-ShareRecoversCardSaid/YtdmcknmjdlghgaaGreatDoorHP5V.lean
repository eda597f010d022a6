/-
  ShareRecovers: whatever the input, the law returns true, and its arguments read as they did; the listed variable is laid by the program's text: the card ties it.
-/
import Derived.Test.YtdmcknmjdlghgaaGreatDoorCards
import Derived.Test.YtdmcknmjdlghgaaGreatDoorTie
import Derived.SevenTiedAt
import Derived.Test.YtdmcknmjdlghgaaGreatDoorV01
import Derived.Test.YtdmcknmjdlghgaaGreatDoorV02
import Derived.Test.YtdmcknmjdlghgaaGreatDoorV03
import Derived.Test.YtdmcknmjdlghgaaGreatDoorV05
import Derived.Test.YtdmcknmjdlghgaaGreatDoorV06
import Derived.Test.YtdmcknmjdlghgaaGreatDoorV07
import Derived.Test.YtdmcknmjdlghgaaGreatDoorV08
import Derived.Test.YtdmcknmjdlghgaaGreatDoorV12
import Derived.Test.YtdmcknmjdlghgaaGreatDoorV15
namespace Go.Proofs.YtdmcknmjdlghgaaGreatDoor
open Go Go.Ab Go.ChangeShapes Go.WideShapes Go.ChangeAt Go.RowKit
set_option linter.unusedSimpArgs false
set_option linter.unusedVariables false
theorem shareRecovers_own : ownKnob Tryz.prog.godebug = none := by kernel_rfl
theorem shareRecovers_laidOut : laidOutB Tryz.prog = true := by kernel_rfl
theorem shareRecovers_met (os : Os) : laidMetH Tryz.prog Rows.shareRecoversRow.laid ((laidWorld os).forCall (fun _ _ => 0) ⟨#[], #[.int .i64 0, .slice none 0 0, .slice none 0 0], []⟩).memory :=
  (laidMet_of_run' 8 (by kernel_rfl) (by kernel_rfl) : laidMet Tryz.prog Rows.shareRecoversRow.laid _)
set_option maxRecDepth 100000 in
theorem shareRecovers_lifted (os : Os) (started : os.Started) (H : Type) (enc : TypeId × Value → H) :
    ReturnsInHanded {} Tryz.checked os 5 .any (fun w args => (Rows.shareRecoversSpec.pre enc Tryz.prog Tryz.f5 [] false w args ∧ laidMetH Tryz.prog Rows.shareRecoversRow.laid w) ∧ sizedMet enc Tryz.prog Tryz.f5 (OpenSpec.ofChange Rows.shareRecoversSpec) false w args) (Rows.shareRecoversSpec.post enc Tryz.prog Tryz.f5 false true false false) := by
  refine law_lifted2 (C := Tryz.checked) (tb := 4) (X := fun w _ => laidMetH Tryz.prog Rows.shareRecoversRow.laid w) (fun _ _ _ hh h => h.of_heap hh) shareRecovers_own started (by kernel_rfl) Tryz.func5 shareRecovers_laidOut
    (ChangeSpec.witness_at (enc := enc) (C := Tryz.checked) (os := os) (X := fun w _ => laidMetH Tryz.prog Rows.shareRecoversRow.laid w) false (laidWorld os) #[.int .i64 0, .slice none 0 0, .slice none 0 0] 8 rfl (by kernel_rfl) (by kernel_rfl) (by kernel_rfl) (by kernel_rfl) (by kernel_rfl) (shareRecovers_met os))
    rfl (fun ds h => ?_) rfl (by kernel_rfl) ?_ ?_
  · rw [Tryz.params5] at h
    rcases ds with _ | ⟨x1, _ | ⟨x2, _ | ⟨x3, ds⟩⟩⟩ <;> first | rfl | (simp at h; done) | (simp at h; subst h; rfl)
  · rw [Tryz.params5]
    simp only [List.mem_cons, List.not_mem_nil, or_false, forall_eq_or_imp, forall_eq]
    exact ⟨⟨by kernel_rfl, of_decide_eq_true (by kernel_rfl)⟩, ⟨by kernel_rfl, of_decide_eq_true (by kernel_rfl)⟩, ⟨by kernel_rfl, of_decide_eq_true (by kernel_rfl)⟩⟩
  · intro W base args ds ps hval0 hA0 hX
    have hL : gv W := gv_of_laid hX
    have hval : ∀ (j : Nat) t v, Tryz.f5.params[j]? = some t → args[j]? = some v → Value.okWide Tryz.prog W .any base t v := hval0
    have hA : DataW.TrodAll enc Tryz.prog W 0 (fun _ => true) true Tryz.f5.params.toList args.toList ds ps := hA0
    clear hval0 hA0
    rw [Tryz.params5] at hA hval
    obtain ⟨v0, v1, v2, d0, d1, d2, p0, p1, p2, rfl, rfl, rfl, h0, h1, h2⟩ := trodAll_three hA
    obtain ⟨a0, q0, rfl, rfl, w0⟩ := open_int (by kernel_rfl : Tryz.prog.underlying 3 = some (.int .i64)) (hval 0 3 v0 rfl rfl) h0
    have b0 := bounds_i64 w0
    obtain ⟨x1, n1, c1, l1, q1, s1, d1, b1, m1⟩ := open_row (q := 1) (V := modEvo 135) (by kernel_rfl : Tryz.prog.underlying 22 = some (.slice 26)) (words_array tf26_u (by kernel_rfl : Tryz.prog.underlying 24 = some (.int .u64)) (by kernel_rfl) (by kernel_rfl)) (by decide) (hval 1 22 v1 rfl rfl) h1
    rw [Nat.one_mul] at m1
    obtain ⟨x2, n2, c2, S2, q2, b2, z2, s2, m2⟩ := open_ints (hval 2 55 v2 rfl rfl) h2
    have hx := shareRecovers_m a0 b0 x1 n1 c1 l1 (by first | assumption | omega) (by first | assumption | omega) (by first | assumption | omega)  x2 n2 c2 S2 s2 b2 z2 W ⟨m1, m2, hL⟩
    subst q0 q1 q2
    exact hx.mono fun e w' ⟨h1, h2⟩ => ⟨h1 (fun _ => 0), h2⟩
theorem shareRecovers_row : Rows.ShareRecoversSaid :=
  OpenClaim.holds_of_wide 5 Tryz.f5 rfl rfl rfl rfl rfl rfl rfl ⟨rfl, rfl, rfl, rfl, rfl⟩ rfl rfl rfl rfl rfl (by kernel_rfl) Tryz.func5 (by kernel_rfl)
    (of_decide_eq_true (by kernel_rfl)) (by unfold Func.isWrapper; first | (rw [if_pos (by decide +kernel)]; kernel_rfl) | (rw [if_neg (by decide +kernel)]; exact ⟨rfl, rfl⟩))
    (fun os started H enc _ => shareRecovers_lifted os started H enc)
theorem shareRecovers_holds : Rows.ShareRecoversCardSaid :=
  Claim7.holds_tied_plain_at .later [] [.data, .data, .data, .data] true (true, "4d1337ab7b952341866a422bd73a48d691f1b4b6bec4bd6cabaf6666d0e431b4") false
    shareRecovers_row (fun _ h => by cases h) (by kernel_rfl) (fun _ h => by cases h) shareRecovers_row_tie rfl ⟨rfl, rfl⟩ (by kernel_rfl) rfl
    (fun f fn hf hfn => by
      obtain rfl : f = 5 := Option.some.inj ((show Tryz.prog.funcNamed "sortition/sortitionlaw10.ShareRecovers" = some 5 by kernel_rfl).symm.trans hf) |>.symm
      obtain rfl : fn = Tryz.f5 := (Option.some.inj (Tryz.func5.symm.trans hfn)).symm
      exact ⟨by kernel_rfl, fun j t ht => by
        rw [Tryz.params5] at ht
        rcases j with _ | j
        · have h3 : t = 3 := by simpa using ht.symm
          subst h3
          exact (show Tryz.prog.wantsStandIn 3 = false by kernel_rfl)
        · rcases j with _ | j
          · have h3 : t = 22 := by simpa using ht.symm
            subst h3
            exact (show Tryz.prog.wantsStandIn 22 = false by kernel_rfl)
          · rcases j with _ | j
            · have h3 : t = 55 := by simpa using ht.symm
              subst h3
              exact (show Tryz.prog.wantsStandIn 55 = false by kernel_rfl)
            · simp at ht⟩)
    (by kernel_rfl)
end Go.Proofs.YtdmcknmjdlghgaaGreatDoor
