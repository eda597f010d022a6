/- ModqSums: whatever the input, the law returns true, and its arguments read as they did. No condition. -/
import Derived.Test.YthniflakjkbpiaaRows
import Derived.Test.YthniflakjkbpiaaQW6
import Derived.Test.YthniflakjkbpiaaKF
import Derived.Test.YthniflakjkbpiaaFm3
import Derived.Test.YthniflakjkbpiaaFm5
namespace Go.Proofs.Ythniflakjkbpiaa
open Go Go.Ab Go.ChangeShapes Go.WideShapes Go.ChangeAt Go.RowKit
set_option linter.unusedSimpArgs false
set_option linter.unusedVariables false

theorem modqSums_own : ownKnob Try.prog.godebug = none := by kernel_rfl
theorem modqSums_laidOut : laidOutB Try.prog = true := by kernel_rfl

set_option maxRecDepth 100000 in
theorem modqSums_lifted (os : Os) (started : os.Started) (H : Type) (enc : TypeId × Value → H) :
    ReturnsInHanded {} Try.checked os 16 .any (Rows.modqSumsSpec.pre6 enc Try.prog Try.f16 Rows.modqSumsRow.domain false) (Rows.modqSumsSpec.post enc Try.prog Try.f16 false true false false) := by
  refine law_lifted (C := Try.checked) (tb := 4) modqSums_own started (by kernel_rfl) Try.func16 modqSums_laidOut
    (ChangeSpec.witness6 (enc := enc) (C := Try.checked) false ⟨#[], #[.agg #[.int .u64 0, .int .u64 0, .int .u64 0, .int .u64 0], .slice none 0 0, .slice none 0 0, .agg #[.int .u64 0, .int .u64 0, .int .u64 0, .int .u64 0], .agg #[.int .u64 0, .int .u64 0, .int .u64 0, .int .u64 0]], []⟩ 8 (by kernel_rfl) (by kernel_rfl) (by kernel_rfl) (by kernel_rfl))
    rfl (fun ds h => ?_) rfl (by kernel_rfl) ?_ ?_
  · rw [Try.params16] at h
    rcases ds with _ | ⟨x1, _ | ⟨x2, _ | ⟨x3, _ | ⟨x4, _ | ⟨x5, ds⟩⟩⟩⟩⟩ <;> first | rfl | (simp at h; done) | (simp at h; subst h; rfl)
  · rw [Try.params16]
    simp only [List.mem_cons, List.not_mem_nil, or_false, forall_eq_or_imp, forall_eq]
    exact ⟨⟨by kernel_rfl, of_decide_eq_true (by kernel_rfl)⟩, ⟨by kernel_rfl, of_decide_eq_true (by kernel_rfl)⟩, ⟨by kernel_rfl, of_decide_eq_true (by kernel_rfl)⟩, ⟨by kernel_rfl, of_decide_eq_true (by kernel_rfl)⟩, ⟨by kernel_rfl, of_decide_eq_true (by kernel_rfl)⟩⟩
  · intro W base args ds ps hval0 hA0 _ _
    have hval : ∀ (j : Nat) t v, Try.f16.params[j]? = some t → args[j]? = some v → Value.okWide Try.prog W .any base t v := hval0
    have hA : DataW.TrodAll enc Try.prog W 0 (fun _ => true) true Try.f16.params.toList args.toList ds ps := hA0
    clear hval0 hA0
    rw [Try.params16] at hA hval
    obtain ⟨v0, v1, v2, v3, v4, d0, d1, d2, d3, d4, p0, p1, p2, p3, p4, rfl, rfl, rfl, h0, h1, h2, h3, h4⟩ := trodAll_five hA
    obtain ⟨a0, s0, e0⟩ := open_words tf24_u (by kernel_rfl : Try.prog.underlying 22 = some (.int .u64)) (by kernel_rfl) (by kernel_rfl) (hval 0 24 v0 rfl rfl) h0
    have s0' : a0 < 2 ^ 256 := s0
    clear s0
    have q0 := e0 (fun _ => 0)
    obtain ⟨x1, n1, c1, l1, q1, s1, d1, b1, m1⟩ := open_row (q := 1) (V := modEvo 78) (by kernel_rfl : Try.prog.underlying 40 = some (.slice 24)) (words_array tf24_u (by kernel_rfl : Try.prog.underlying 22 = some (.int .u64)) (by kernel_rfl) (by kernel_rfl)) (by decide) (hval 1 40 v1 rfl rfl) h1
    rw [Nat.one_mul] at m1
    obtain ⟨x2, n2, c2, l2, q2, s2, d2, b2, m2⟩ := open_row (q := 1) (V := modEvo 78) (by kernel_rfl : Try.prog.underlying 40 = some (.slice 24)) (words_array tf24_u (by kernel_rfl : Try.prog.underlying 22 = some (.int .u64)) (by kernel_rfl) (by kernel_rfl)) (by decide) (hval 2 40 v2 rfl rfl) h2
    rw [Nat.one_mul] at m2
    obtain ⟨a3, s3, e3⟩ := open_words tf24_u (by kernel_rfl : Try.prog.underlying 22 = some (.int .u64)) (by kernel_rfl) (by kernel_rfl) (hval 3 24 v3 rfl rfl) h3
    have s3' : a3 < 2 ^ 256 := s3
    clear s3
    have q3 := e3 (fun _ => 0)
    obtain ⟨a4, s4, e4⟩ := open_words tf24_u (by kernel_rfl : Try.prog.underlying 22 = some (.int .u64)) (by kernel_rfl) (by kernel_rfl) (hval 4 24 v4 rfl rfl) h4
    have s4' : a4 < 2 ^ 256 := s4
    clear s4
    have q4 := e4 (fun _ => 0)
    have hx := modqSums_c a0 x1 n1 c1 l1 x2 n2 c2 l2 a3 a4 (by first | assumption | omega) (by first | assumption | omega) (by first | assumption | omega) (by first | assumption | omega) (by first | assumption | omega) (by first | assumption | omega) (by first | assumption | omega) (by first | assumption | omega) (by first | assumption | omega) W ⟨m1, m2⟩
    subst q0 q1 q2 q3 q4
    exact hx.mono fun e w' ⟨h1, h2⟩ => ⟨h1 (fun _ => 0), h2⟩

theorem modqSums_holds : Rows.ModqSumsSaid :=
  OpenClaim.holds_of_wide 16 Try.f16 rfl rfl rfl rfl rfl rfl rfl ⟨rfl, rfl, rfl, rfl, rfl⟩ rfl rfl rfl rfl rfl (by kernel_rfl) Try.func16 (by kernel_rfl)
    (of_decide_eq_true (by kernel_rfl)) (by unfold Func.isWrapper; first | (rw [if_pos (by decide +kernel)]; kernel_rfl) | (rw [if_neg (by decide +kernel)]; exact ⟨rfl, rfl⟩))
    (fun os started H enc _ => modqSums_lifted os started H enc)

end Go.Proofs.Ythniflakjkbpiaa
