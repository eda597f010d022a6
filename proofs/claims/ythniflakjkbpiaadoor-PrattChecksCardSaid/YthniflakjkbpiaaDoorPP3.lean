/- PrattChecks: whatever the input, the law returns true, and its arguments read as they did; the listed variable is laid by the program's text: the card ties it. -/
import Derived.Test.YthniflakjkbpiaaDoorCards
import Derived.Test.YthniflakjkbpiaaDoorTie
import Derived.SevenTiedAt
import Derived.Test.YthniflakjkbpiaaDoorPW3
import Derived.Test.YthniflakjkbpiaaDoorFm8
namespace Go.Proofs.YthniflakjkbpiaaDoor
open Go Go.Ab Go.ChangeShapes Go.WideShapes Go.ChangeAt Go.RowKit
set_option linter.unusedSimpArgs false
set_option linter.unusedVariables false

theorem prattChecks_own : ownKnob Tryd.prog.godebug = none := by kernel_rfl
theorem prattChecks_laidOut : laidOutB Tryd.prog = true := by kernel_rfl
theorem prattChecks_met (os : Os) : laidMetH Tryd.prog Rows.prattChecksRow.laid ((laidWorld os).forCall (fun _ _ => 0) ⟨#[], #[.slice none 0 0, .agg #[.int .u64 0, .int .u64 0, .int .u64 0, .int .u64 0]], []⟩).memory :=
  (laidMet_of_run' 8 (by kernel_rfl) (by kernel_rfl) : laidMet Tryd.prog Rows.prattChecksRow.laid _)

set_option maxRecDepth 100000 in
theorem prattChecks_lifted (os : Os) (started : os.Started) (H : Type) (enc : TypeId × Value → H) :
    ReturnsInHanded {} Tryd.checked os 5 .any (fun w args => (Rows.prattChecksSpec.pre enc Tryd.prog Tryd.f5 [] false w args ∧ laidMetH Tryd.prog Rows.prattChecksRow.laid w) ∧ sizedMet enc Tryd.prog Tryd.f5 (OpenSpec.ofChange Rows.prattChecksSpec) false w args) (Rows.prattChecksSpec.post enc Tryd.prog Tryd.f5 false true false false) := by
  refine law_lifted2 (C := Tryd.checked) (tb := 4) (X := fun w _ => laidMetH Tryd.prog Rows.prattChecksRow.laid w) (fun _ _ _ hh h => h.of_heap hh) prattChecks_own started (by kernel_rfl) Tryd.func5 prattChecks_laidOut
    (ChangeSpec.witness_at (enc := enc) (C := Tryd.checked) (os := os) (X := fun w _ => laidMetH Tryd.prog Rows.prattChecksRow.laid w) false (laidWorld os) #[.slice none 0 0, .agg #[.int .u64 0, .int .u64 0, .int .u64 0, .int .u64 0]] 8 rfl (by kernel_rfl) (by kernel_rfl) (by kernel_rfl) (by kernel_rfl) (by kernel_rfl) (prattChecks_met os))
    rfl (fun ds h => ?_) rfl (by kernel_rfl) ?_ ?_
  · rw [Tryd.params5] at h
    rcases ds with _ | ⟨x1, _ | ⟨x2, ds⟩⟩ <;> first | rfl | (simp at h; done) | (simp at h; subst h; rfl)
  · rw [Tryd.params5]
    simp only [List.mem_cons, List.not_mem_nil, or_false, forall_eq_or_imp, forall_eq]
    exact ⟨⟨by kernel_rfl, of_decide_eq_true (by kernel_rfl)⟩, ⟨by kernel_rfl, of_decide_eq_true (by kernel_rfl)⟩⟩
  · intro W base args ds ps hval0 hA0 hX
    have hL : least W := least_of_laid hX
    have hval : ∀ (j : Nat) t v, Tryd.f5.params[j]? = some t → args[j]? = some v → Value.okWide Tryd.prog W .any base t v := hval0
    have hA : DataW.TrodAll enc Tryd.prog W 0 (fun _ => true) true Tryd.f5.params.toList args.toList ds ps := hA0
    clear hval0 hA0
    rw [Tryd.params5] at hA hval
    obtain ⟨v0, v1, d0, d1, p0, p1, rfl, rfl, rfl, h0, h1⟩ := trodAll_two hA
    obtain ⟨x0, n0, c0, l0, q0, b0, z0, s0, m0⟩ := open_prfs (hval 0 34 v0 rfl rfl) h0
    obtain ⟨a1, s1, e1⟩ := open_words tf26_u (by kernel_rfl : Tryd.prog.underlying 24 = some (.int .u64)) (by kernel_rfl) (by kernel_rfl) (hval 1 26 v1 rfl rfl) h1
    have s1' : a1 < 2 ^ 256 := s1
    clear s1
    have q1 := e1 (fun _ => 0)
    have hx := prattChecks_m x0 n0 c0 l0 s0 b0 a1 s1' W ⟨m0, hL⟩
    subst q0 q1
    exact hx.mono fun e w' ⟨h1, h2⟩ => ⟨h1 (fun _ => 0), h2⟩

theorem prattChecks_row : Rows.PrattChecksSaid :=
  OpenClaim.holds_of_wide 5 Tryd.f5 rfl rfl rfl rfl rfl rfl rfl ⟨rfl, rfl, rfl, rfl, rfl⟩ rfl rfl rfl rfl rfl (by kernel_rfl) Tryd.func5 (by kernel_rfl)
    (of_decide_eq_true (by kernel_rfl)) (by unfold Func.isWrapper; first | (rw [if_pos (by decide +kernel)]; kernel_rfl) | (rw [if_neg (by decide +kernel)]; exact ⟨rfl, rfl⟩))
    (fun os started H enc _ => prattChecks_lifted os started H enc)
theorem prattChecks_holds : Rows.PrattChecksCardSaid :=
  Claim7.holds_tied_plain_at .later [] [.data] true (true, "d6fd0221c7607638c6de01627ed1fcc30b73d6402be09b7e20b559a491633f88") false
    prattChecks_row (fun _ h => by cases h) (by kernel_rfl) (fun _ h => by cases h) prattChecks_row_tie rfl ⟨rfl, rfl⟩ (by kernel_rfl) rfl
    (fun f fn hf hfn => by
      obtain rfl : f = 5 := Option.some.inj ((show Tryd.prog.funcNamed "sortition/sortitionlaw04.PrattChecks" = some 5 by kernel_rfl).symm.trans hf) |>.symm
      obtain rfl : fn = Tryd.f5 := (Option.some.inj (Tryd.func5.symm.trans hfn)).symm
      exact ⟨by kernel_rfl, fun j t ht => by
        rw [Tryd.params5] at ht
        rcases j with _ | j
        · have h3 : t = 34 := by simpa using ht.symm
          subst h3
          exact (show Tryd.prog.wantsStandIn 34 = false by kernel_rfl)
        · rcases j with _ | j
          · have h3 : t = 26 := by simpa using ht.symm
            subst h3
            exact (show Tryd.prog.wantsStandIn 26 = false by kernel_rfl)
          · simp at ht⟩)
    (by kernel_rfl)
end Go.Proofs.YthniflakjkbpiaaDoor
