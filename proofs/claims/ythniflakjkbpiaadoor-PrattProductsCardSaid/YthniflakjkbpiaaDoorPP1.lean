/- PrattProducts: whatever the input, the law returns true, and its arguments read as they did; the listed variable is laid by the program's text: the card ties it. -/
import Derived.Test.YthniflakjkbpiaaDoorCards
import Derived.Test.YthniflakjkbpiaaDoorTie
import Derived.SevenTiedAt
import Derived.Test.YthniflakjkbpiaaDoorPW1
import Derived.Test.YthniflakjkbpiaaDoorFm8
namespace Go.Proofs.YthniflakjkbpiaaDoor
open Go Go.Ab Go.ChangeShapes Go.WideShapes Go.ChangeAt Go.RowKit
set_option linter.unusedSimpArgs false
set_option linter.unusedVariables false

theorem prattProducts_own : ownKnob Tryd.prog.godebug = none := by kernel_rfl
theorem prattProducts_laidOut : laidOutB Tryd.prog = true := by kernel_rfl
theorem prattProducts_met (os : Os) : laidMetH Tryd.prog Rows.prattProductsRow.laid ((laidWorld os).forCall (fun _ _ => 0) ⟨#[], #[.slice none 0 0], []⟩).memory :=
  (laidMet_of_run' 8 (by kernel_rfl) (by kernel_rfl) : laidMet Tryd.prog Rows.prattProductsRow.laid _)

set_option maxRecDepth 100000 in
theorem prattProducts_lifted (os : Os) (started : os.Started) (H : Type) (enc : TypeId × Value → H) :
    ReturnsInHanded {} Tryd.checked os 3 .any (fun w args => (Rows.prattProductsSpec.pre enc Tryd.prog Tryd.f3 [] false w args ∧ laidMetH Tryd.prog Rows.prattProductsRow.laid w) ∧ sizedMet enc Tryd.prog Tryd.f3 (OpenSpec.ofChange Rows.prattProductsSpec) false w args) (Rows.prattProductsSpec.post enc Tryd.prog Tryd.f3 false true false false) := by
  refine law_lifted2 (C := Tryd.checked) (tb := 4) (X := fun w _ => laidMetH Tryd.prog Rows.prattProductsRow.laid w) (fun _ _ _ hh h => h.of_heap hh) prattProducts_own started (by kernel_rfl) Tryd.func3 prattProducts_laidOut
    (ChangeSpec.witness_at (enc := enc) (C := Tryd.checked) (os := os) (X := fun w _ => laidMetH Tryd.prog Rows.prattProductsRow.laid w) false (laidWorld os) #[.slice none 0 0] 8 rfl (by kernel_rfl) (by kernel_rfl) (by kernel_rfl) (by kernel_rfl) (by kernel_rfl) (prattProducts_met os))
    rfl (fun ds h => ?_) rfl (by kernel_rfl) ?_ ?_
  · rw [Tryd.params3] at h
    rcases ds with _ | ⟨x1, ds⟩ <;> first | rfl | (simp at h; done) | (simp at h; subst h; rfl)
  · rw [Tryd.params3]
    simp only [List.mem_cons, List.not_mem_nil, or_false, forall_eq_or_imp, forall_eq]
    exact ⟨by kernel_rfl, of_decide_eq_true (by kernel_rfl)⟩
  · intro W base args ds ps hval0 hA0 hX
    have hL : least W := least_of_laid hX
    have hval : ∀ (j : Nat) t v, Tryd.f3.params[j]? = some t → args[j]? = some v → Value.okWide Tryd.prog W .any base t v := hval0
    have hA : DataW.TrodAll enc Tryd.prog W 0 (fun _ => true) true Tryd.f3.params.toList args.toList ds ps := hA0
    clear hval0 hA0
    rw [Tryd.params3] at hA hval
    obtain ⟨v0, d0, rfl, rfl, h0⟩ := trodAll_one hA
    obtain ⟨x0, n0, c0, P0, E0, q0, b0, z0, s0, t0, m0⟩ := open_facs (hval 0 22 v0 rfl rfl) h0
    have hx := prattProducts_m x0 n0 c0 P0 E0 s0 t0 b0 W ⟨m0, hL⟩
    subst q0
    exact hx.mono fun e w' ⟨h1, h2⟩ => ⟨h1 (fun _ => 0), h2⟩

theorem prattProducts_row : Rows.PrattProductsSaid :=
  OpenClaim.holds_of_wide 3 Tryd.f3 rfl rfl rfl rfl rfl rfl rfl ⟨rfl, rfl, rfl, rfl, rfl⟩ rfl rfl rfl rfl rfl (by kernel_rfl) Tryd.func3 (by kernel_rfl)
    (of_decide_eq_true (by kernel_rfl)) (by unfold Func.isWrapper; first | (rw [if_pos (by decide +kernel)]; kernel_rfl) | (rw [if_neg (by decide +kernel)]; exact ⟨rfl, rfl⟩))
    (fun os started H enc _ => prattProducts_lifted os started H enc)
theorem prattProducts_holds : Rows.PrattProductsCardSaid :=
  Claim7.holds_tied_plain_at .later [] [.data] true (true, "d6fd0221c7607638c6de01627ed1fcc30b73d6402be09b7e20b559a491633f88") false
    prattProducts_row (fun _ h => by cases h) (by kernel_rfl) (fun _ h => by cases h) prattProducts_row_tie rfl ⟨rfl, rfl⟩ (by kernel_rfl) rfl
    (fun f fn hf hfn => by
      obtain rfl : f = 3 := Option.some.inj ((show Tryd.prog.funcNamed "sortition/sortitionlaw04.PrattProducts" = some 3 by kernel_rfl).symm.trans hf) |>.symm
      obtain rfl : fn = Tryd.f3 := (Option.some.inj (Tryd.func3.symm.trans hfn)).symm
      exact ⟨by kernel_rfl, fun j t ht => by
        rw [Tryd.params3] at ht
        rcases j with _ | j
        · have h3 : t = 22 := by simpa using ht.symm
          subst h3
          exact (show Tryd.prog.wantsStandIn 22 = false by kernel_rfl)
        · simp at ht⟩)
    (by kernel_rfl)
end Go.Proofs.YthniflakjkbpiaaDoor
