/- PrattTurned: whatever the input, the law returns true, and its arguments read as they did; the listed variable is laid by the program's text: the card ties it. -/
import Derived.Test.YthniflakjkbpiaaDoorCards
import Derived.Test.YthniflakjkbpiaaDoorTie
import Derived.SevenTiedAt
import Derived.Test.YthniflakjkbpiaaDoorPW7
import Derived.Test.YthniflakjkbpiaaDoorFm8
namespace Go.Proofs.YthniflakjkbpiaaDoor
open Go Go.Ab Go.ChangeShapes Go.WideShapes Go.ChangeAt Go.RowKit
set_option linter.unusedSimpArgs false
set_option linter.unusedVariables false

theorem prattTurned_own : ownKnob Tryd.prog.godebug = none := by kernel_rfl
theorem prattTurned_laidOut : laidOutB Tryd.prog = true := by kernel_rfl
theorem prattTurned_met (os : Os) : laidMetH Tryd.prog Rows.prattTurnedRow.laid ((laidWorld os).forCall (fun _ _ => 0) ⟨#[], #[.agg #[.int .u64 0, .int .u64 0, .int .u64 0, .int .u64 0, .int .u64 0, .int .u64 0, .int .u64 0, .int .u64 0, .slice none 0 0]], []⟩).memory :=
  (laidMet_of_run' 8 (by kernel_rfl) (by kernel_rfl) : laidMet Tryd.prog Rows.prattTurnedRow.laid _)

set_option maxRecDepth 100000 in
theorem prattTurned_lifted (os : Os) (started : os.Started) (H : Type) (enc : TypeId × Value → H) :
    ReturnsInHanded {} Tryd.checked os 8 .any (fun w args => (Rows.prattTurnedSpec.pre enc Tryd.prog Tryd.f8 [] false w args ∧ laidMetH Tryd.prog Rows.prattTurnedRow.laid w) ∧ sizedMet enc Tryd.prog Tryd.f8 (OpenSpec.ofChange Rows.prattTurnedSpec) false w args) (Rows.prattTurnedSpec.post enc Tryd.prog Tryd.f8 false true false false) := by
  refine law_lifted2 (C := Tryd.checked) (tb := 4) (X := fun w _ => laidMetH Tryd.prog Rows.prattTurnedRow.laid w) (fun _ _ _ hh h => h.of_heap hh) prattTurned_own started (by kernel_rfl) Tryd.func8 prattTurned_laidOut
    (ChangeSpec.witness_at (enc := enc) (C := Tryd.checked) (os := os) (X := fun w _ => laidMetH Tryd.prog Rows.prattTurnedRow.laid w) false (laidWorld os) #[.agg #[.int .u64 0, .int .u64 0, .int .u64 0, .int .u64 0, .int .u64 0, .int .u64 0, .int .u64 0, .int .u64 0, .slice none 0 0]] 8 rfl (by kernel_rfl) (by kernel_rfl) (by kernel_rfl) (by kernel_rfl) (by kernel_rfl) (prattTurned_met os))
    rfl (fun ds h => ?_) rfl (by kernel_rfl) ?_ ?_
  · rw [Tryd.params8] at h
    rcases ds with _ | ⟨x1, ds⟩ <;> first | rfl | (simp at h; done) | (simp at h; subst h; rfl)
  · rw [Tryd.params8]
    simp only [List.mem_cons, List.not_mem_nil, or_false, forall_eq_or_imp, forall_eq]
    exact ⟨by kernel_rfl, of_decide_eq_true (by kernel_rfl)⟩
  · intro W base args ds ps hval0 hA0 hX
    have hL : least W := least_of_laid hX
    have hval : ∀ (j : Nat) t v, Tryd.f8.params[j]? = some t → args[j]? = some v → Value.okWide Tryd.prog W .any base t v := hval0
    have hA : DataW.TrodAll enc Tryd.prog W 0 (fun _ => true) true Tryd.f8.params.toList args.toList ds ps := hA0
    clear hval0 hA0
    rw [Tryd.params8] at hA hval
    obtain ⟨v0, d0, rfl, rfl, h0⟩ := trodAll_one hA
    obtain ⟨y0, s0, e0⟩ := open_prf (hval 0 32 v0 rfl rfl) h0
    have q0 := e0 (fun _ => 0)
    have m0 := s0.f
    have hx := prattTurned_m y0 s0.N s0.G s0.P s0.E s0.n W ⟨m0, hL⟩
    subst q0
    exact hx.mono fun e w' ⟨h1, h2⟩ => ⟨h1 (fun _ => 0), h2⟩

theorem prattTurned_row : Rows.PrattTurnedSaid :=
  OpenClaim.holds_of_wide 8 Tryd.f8 rfl rfl rfl rfl rfl rfl rfl ⟨rfl, rfl, rfl, rfl, rfl⟩ rfl rfl rfl rfl rfl (by kernel_rfl) Tryd.func8 (by kernel_rfl)
    (of_decide_eq_true (by kernel_rfl)) (by unfold Func.isWrapper; first | (rw [if_pos (by decide +kernel)]; kernel_rfl) | (rw [if_neg (by decide +kernel)]; exact ⟨rfl, rfl⟩))
    (fun os started H enc _ => prattTurned_lifted os started H enc)
theorem prattTurned_holds : Rows.PrattTurnedCardSaid :=
  Claim7.holds_tied_plain_at .later [] [.data] true (true, "d6fd0221c7607638c6de01627ed1fcc30b73d6402be09b7e20b559a491633f88") false
    prattTurned_row (fun _ h => by cases h) (by kernel_rfl) (fun _ h => by cases h) prattTurned_row_tie rfl ⟨rfl, rfl⟩ (by kernel_rfl) rfl
    (fun f fn hf hfn => by
      obtain rfl : f = 8 := Option.some.inj ((show Tryd.prog.funcNamed "sortition/sortitionlaw04.PrattTurned" = some 8 by kernel_rfl).symm.trans hf) |>.symm
      obtain rfl : fn = Tryd.f8 := (Option.some.inj (Tryd.func8.symm.trans hfn)).symm
      exact ⟨by kernel_rfl, fun j t ht => by
        rw [Tryd.params8] at ht
        rcases j with _ | j
        · have h3 : t = 32 := by simpa using ht.symm
          subst h3
          exact (show Tryd.prog.wantsStandIn 32 = false by kernel_rfl)
        · simp at ht⟩)
    (by kernel_rfl)
end Go.Proofs.YthniflakjkbpiaaDoor
