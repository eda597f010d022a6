/- ModqWeights: whatever the input, the law returns true, and its arguments read as they did. No condition. -/
import Derived.Test.YthniflakjkbpiaaRows
import Derived.Test.YthniflakjkbpiaaQW3
import Derived.Test.YthniflakjkbpiaaKF
import Derived.Test.YthniflakjkbpiaaFm4
namespace Go.Proofs.Ythniflakjkbpiaa
open Go Go.Ab Go.ChangeShapes Go.WideShapes Go.ChangeAt Go.RowKit
set_option linter.unusedSimpArgs false
set_option linter.unusedVariables false

theorem modqWeights_own : ownKnob Try.prog.godebug = none := by kernel_rfl
theorem modqWeights_laidOut : laidOutB Try.prog = true := by kernel_rfl

set_option maxRecDepth 100000 in
theorem modqWeights_lifted (os : Os) (started : os.Started) (H : Type) (enc : TypeId × Value → H) :
    ReturnsInHanded {} Try.checked os 13 .any (Rows.modqWeightsSpec.pre6 enc Try.prog Try.f13 Rows.modqWeightsRow.domain false) (Rows.modqWeightsSpec.post enc Try.prog Try.f13 false true false false) := by
  refine law_lifted (C := Try.checked) (tb := 4) modqWeights_own started (by kernel_rfl) Try.func13 modqWeights_laidOut
    (ChangeSpec.witness6 (enc := enc) (C := Try.checked) false ⟨#[], #[.agg #[.int .u64 0, .int .u64 0, .int .u64 0, .int .u64 0], .slice none 0 0], []⟩ 8 (by kernel_rfl) (by kernel_rfl) (by kernel_rfl) (by kernel_rfl))
    rfl (fun ds h => ?_) rfl (by kernel_rfl) ?_ ?_
  · rw [Try.params13] at h
    rcases ds with _ | ⟨x1, _ | ⟨x2, ds⟩⟩ <;> first | rfl | (simp at h; done) | (simp at h; subst h; rfl)
  · rw [Try.params13]
    simp only [List.mem_cons, List.not_mem_nil, or_false, forall_eq_or_imp, forall_eq]
    exact ⟨⟨by kernel_rfl, of_decide_eq_true (by kernel_rfl)⟩, ⟨by kernel_rfl, of_decide_eq_true (by kernel_rfl)⟩⟩
  · intro W base args ds ps hval0 hA0 _ _
    have hval : ∀ (j : Nat) t v, Try.f13.params[j]? = some t → args[j]? = some v → Value.okWide Try.prog W .any base t v := hval0
    have hA : DataW.TrodAll enc Try.prog W 0 (fun _ => true) true Try.f13.params.toList args.toList ds ps := hA0
    clear hval0 hA0
    rw [Try.params13] at hA hval
    obtain ⟨v0, v1, d0, d1, p0, p1, rfl, rfl, rfl, h0, h1⟩ := trodAll_two hA
    obtain ⟨a0, s0, e0⟩ := open_words tf24_u (by kernel_rfl : Try.prog.underlying 22 = some (.int .u64)) (by kernel_rfl) (by kernel_rfl) (hval 0 24 v0 rfl rfl) h0
    have s0' : a0 < 2 ^ 256 := s0
    clear s0
    have q0 := e0 (fun _ => 0)
    obtain ⟨x1, n1, c1, l1, q1, s1, d1, b1, m1⟩ := open_row (q := 2) (V := modEvo 78) (by kernel_rfl : Try.prog.underlying 51 = some (.slice 53)) words_pt (by decide) (hval 1 51 v1 rfl rfl) h1
    have hx := modqWeights_c a0 x1 n1 c1 l1 (by first | assumption | omega) (by first | assumption | omega) (by first | assumption | omega) (by first | assumption | omega) W m1
    subst q0 q1
    exact hx.mono fun e w' ⟨h1, h2⟩ => ⟨h1 (fun _ => 0), h2⟩

theorem modqWeights_holds : Rows.ModqWeightsSaid :=
  OpenClaim.holds_of_wide 13 Try.f13 rfl rfl rfl rfl rfl rfl rfl ⟨rfl, rfl, rfl, rfl, rfl⟩ rfl rfl rfl rfl rfl (by kernel_rfl) Try.func13 (by kernel_rfl)
    (of_decide_eq_true (by kernel_rfl)) (by unfold Func.isWrapper; first | (rw [if_pos (by decide +kernel)]; kernel_rfl) | (rw [if_neg (by decide +kernel)]; exact ⟨rfl, rfl⟩))
    (fun os started H enc _ => modqWeights_lifted os started H enc)

end Go.Proofs.Ythniflakjkbpiaa
