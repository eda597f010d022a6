/- MontPowersThrough: whatever the input, the law returns true, and its arguments read as they did. No condition. -/
import Derived.Test.YthniflakjkbpiaaRows
import Derived.Test.YthniflakjkbpiaaMW8
import Derived.Test.YthniflakjkbpiaaKF
namespace Go.Proofs.Ythniflakjkbpiaa
open Go Go.Ab Go.ChangeShapes Go.WideShapes Go.ChangeAt Go.RowKit
set_option linter.unusedSimpArgs false
set_option linter.unusedVariables false

theorem montPowersThrough_own : ownKnob Try.prog.godebug = none := by kernel_rfl
theorem montPowersThrough_laidOut : laidOutB Try.prog = true := by kernel_rfl

set_option maxRecDepth 100000 in
theorem montPowersThrough_lifted (os : Os) (started : os.Started) (H : Type) (enc : TypeId × Value → H) :
    ReturnsInHanded {} Try.checked os 5 .any (Rows.montPowersThroughSpec.pre6 enc Try.prog Try.f5 Rows.montPowersThroughRow.domain false) (Rows.montPowersThroughSpec.post enc Try.prog Try.f5 false true false false) := by
  refine law_lifted (C := Try.checked) (tb := 4) montPowersThrough_own started (by kernel_rfl) Try.func5 montPowersThrough_laidOut
    (ChangeSpec.witness6 (enc := enc) (C := Try.checked) false ⟨#[], #[.agg #[.int .u64 0, .int .u64 0, .int .u64 0, .int .u64 0], .agg #[.int .u64 0, .int .u64 0, .int .u64 0, .int .u64 0], .int .u64 0, .int .u64 0], []⟩ 8 (by kernel_rfl) (by kernel_rfl) (by kernel_rfl) (by kernel_rfl))
    rfl (fun ds h => ?_) rfl (by kernel_rfl) ?_ ?_
  · rw [Try.params5] at h
    rcases ds with _ | ⟨x1, _ | ⟨x2, _ | ⟨x3, _ | ⟨x4, ds⟩⟩⟩⟩ <;> first | rfl | (simp at h; done) | (simp at h; subst h; rfl)
  · rw [Try.params5]
    simp only [List.mem_cons, List.not_mem_nil, or_false, forall_eq_or_imp, forall_eq]
    exact ⟨⟨by kernel_rfl, of_decide_eq_true (by kernel_rfl)⟩, ⟨by kernel_rfl, of_decide_eq_true (by kernel_rfl)⟩, ⟨by kernel_rfl, of_decide_eq_true (by kernel_rfl)⟩, ⟨by kernel_rfl, of_decide_eq_true (by kernel_rfl)⟩⟩
  · intro W base args ds ps hval0 hA0 _ _
    have hval : ∀ (j : Nat) t v, Try.f5.params[j]? = some t → args[j]? = some v → Value.okWide Try.prog W .any base t v := hval0
    have hA : DataW.TrodAll enc Try.prog W 0 (fun _ => true) true Try.f5.params.toList args.toList ds ps := hA0
    clear hval0 hA0
    rw [Try.params5] at hA hval
    obtain ⟨v0, v1, v2, v3, d0, d1, d2, d3, p0, p1, p2, p3, rfl, rfl, rfl, h0, h1, h2, h3⟩ := trodAll_four hA
    obtain ⟨a0, s0, e0⟩ := open_words tf24_u (by kernel_rfl : Try.prog.underlying 22 = some (.int .u64)) (by kernel_rfl) (by kernel_rfl) (hval 0 24 v0 rfl rfl) h0
    have s0' : a0 < 2 ^ 256 := s0
    clear s0
    have q0 := e0 (fun _ => 0)
    obtain ⟨a1, s1, e1⟩ := open_words tf24_u (by kernel_rfl : Try.prog.underlying 22 = some (.int .u64)) (by kernel_rfl) (by kernel_rfl) (hval 1 24 v1 rfl rfl) h1
    have s1' : a1 < 2 ^ 256 := s1
    clear s1
    have q1 := e1 (fun _ => 0)
    obtain ⟨z2, q2, rfl, rfl, w2⟩ := open_int (by kernel_rfl : Try.prog.underlying 22 = some (.int .u64)) (hval 2 22 v2 rfl rfl) h2
    have b2 := bounds_u64 w2
    obtain ⟨a2, rfl⟩ := Int.eq_ofNat_of_zero_le b2.1
    obtain ⟨z3, q3, rfl, rfl, w3⟩ := open_int (by kernel_rfl : Try.prog.underlying 22 = some (.int .u64)) (hval 3 22 v3 rfl rfl) h3
    have b3 := bounds_u64 w3
    obtain ⟨a3, rfl⟩ := Int.eq_ofNat_of_zero_le b3.1
    have hc : PureC Try.prog 5 [.agg (nat4 a0), .agg (nat4 a1), .s (.v (.int .u64 (a2 : Int))), .s (.v (.int .u64 (a3 : Int)))] (.s (.v (.bool true))) := by
      apply montPowersThrough_c <;> first | assumption | omega
    have hx := hc (fun _ => 0) W
    clear hc
    subst q0 q1 q2 q3
    exact hx.mono fun e w' ⟨h1, h2⟩ => ⟨h1 (fun _ => 0), h2⟩

theorem montPowersThrough_holds : Rows.MontPowersThroughSaid :=
  OpenClaim.holds_of_wide 5 Try.f5 rfl rfl rfl rfl rfl rfl rfl ⟨rfl, rfl, rfl, rfl, rfl⟩ rfl rfl rfl rfl rfl (by kernel_rfl) Try.func5 (by kernel_rfl)
    (of_decide_eq_true (by kernel_rfl)) (by unfold Func.isWrapper; first | (rw [if_pos (by decide +kernel)]; kernel_rfl) | (rw [if_neg (by decide +kernel)]; exact ⟨rfl, rfl⟩))
    (fun os started H enc _ => montPowersThrough_lifted os started H enc)

end Go.Proofs.Ythniflakjkbpiaa
