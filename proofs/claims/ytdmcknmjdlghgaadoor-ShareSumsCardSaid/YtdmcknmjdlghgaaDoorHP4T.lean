/-
 ShareSums: whatever the input, the law returns true, and its arguments read as they did; the listed variable is laid by the program's text: the card ties it.
-/
import Derived.Test.YtdmcknmjdlghgaaDoorCards
import Derived.Test.YtdmcknmjdlghgaaDoorTie
import Derived.SevenTiedAt
import Derived.Test.YtdmcknmjdlghgaaDoorT01
import Derived.Test.YtdmcknmjdlghgaaDoorT02
import Derived.Test.YtdmcknmjdlghgaaDoorT03
import Derived.Test.YtdmcknmjdlghgaaDoorT05
import Derived.Test.YtdmcknmjdlghgaaDoorT06
import Derived.Test.YtdmcknmjdlghgaaDoorT07
import Derived.Test.YtdmcknmjdlghgaaDoorT08
import Derived.Test.YtdmcknmjdlghgaaDoorT15
import Derived.Test.YtdmcknmjdlghgaaDoorT19
import Derived.Test.YtdmcknmjdlghgaaDoorT23
namespace Go.Proofs.YtdmcknmjdlghgaaDoor
open Go Go.Ab Go.ChangeShapes Go.WideShapes Go.ChangeAt Go.RowKit
set_option linter.unusedSimpArgs false
set_option linter.unusedVariables false
theorem shareSums_own : ownKnob Tryd.prog.godebug = none := by kernel_rfl
theorem shareSums_laidOut : laidOutB Tryd.prog = true := by kernel_rfl
theorem shareSums_met (os : Os) : laidMetH Tryd.prog Rows.shareSumsRow.laid ((laidWorld os).forCall (fun _ _ => 0) ⟨#[], #[.int .i64 0, .slice none 0 0, .slice none 0 0, .int .i64 0], []⟩).memory :=
 (laidMet_of_run' 8 (by kernel_rfl) (by kernel_rfl) : laidMet Tryd.prog Rows.shareSumsRow.laid _)
set_option maxRecDepth 100000 in
theorem shareSums_lifted (os : Os) (started : os.Started) (H : Type) (enc : TypeId × Value → H) :
  ReturnsInHanded {} Tryd.checked os 12 .any (fun w args => (Rows.shareSumsSpec.pre enc Tryd.prog Tryd.f12 [] false w args ∧ laidMetH Tryd.prog Rows.shareSumsRow.laid w) ∧ sizedMet enc Tryd.prog Tryd.f12 (OpenSpec.ofChange Rows.shareSumsSpec) false w args) (Rows.shareSumsSpec.post enc Tryd.prog Tryd.f12 false true false false) := by
 refine law_lifted2 (C := Tryd.checked) (tb := 4) (X := fun w _ => laidMetH Tryd.prog Rows.shareSumsRow.laid w) (fun _ _ _ hh h => h.of_heap hh) shareSums_own started (by kernel_rfl) Tryd.func12 shareSums_laidOut
  (ChangeSpec.witness_at (enc := enc) (C := Tryd.checked) (os := os) (X := fun w _ => laidMetH Tryd.prog Rows.shareSumsRow.laid w) false (laidWorld os) #[.int .i64 0, .slice none 0 0, .slice none 0 0, .int .i64 0] 8 rfl (by kernel_rfl) (by kernel_rfl) (by kernel_rfl) (by kernel_rfl) (by kernel_rfl) (shareSums_met os))
  rfl (fun ds h => ?_) rfl (by kernel_rfl) ?_ ?_
 ·rw [Tryd.params12] at h
  rcases ds with _ | ⟨x1, _ | ⟨x2, _ | ⟨x3, _ | ⟨x4, ds⟩⟩⟩⟩ <;> first | rfl | (simp at h; done) | (simp at h; subst h; rfl)
 ·rw [Tryd.params12]
  simp only [List.mem_cons, List.not_mem_nil, or_false, forall_eq_or_imp, forall_eq]
  exact ⟨⟨by kernel_rfl, of_decide_eq_true (by kernel_rfl)⟩, ⟨by kernel_rfl, of_decide_eq_true (by kernel_rfl)⟩, ⟨by kernel_rfl, of_decide_eq_true (by kernel_rfl)⟩, ⟨by kernel_rfl, of_decide_eq_true (by kernel_rfl)⟩⟩
 ·intro W base args ds ps hval0 hA0 hX
  have hL : gv W := gv_of_laid hX
  have hval : ∀ (j : Nat) t v, Tryd.f12.params[j]? = some t → args[j]? = some v → Value.okWide Tryd.prog W .any base t v := hval0
  have hA : DataW.TrodAll enc Tryd.prog W 0 (fun _ => true) true Tryd.f12.params.toList args.toList ds ps := hA0
  clear hval0 hA0
  rw [Tryd.params12] at hA hval
  obtain ⟨v0, v1, v2, v3, d0, d1, d2, d3, p0, p1, p2, p3, rfl, rfl, rfl, h0, h1, h2, h3⟩ := trodAll_four hA
  obtain ⟨a0, q0, rfl, rfl, w0⟩ := open_int (by kernel_rfl : Tryd.prog.underlying 3 = some (.int .i64)) (hval 0 3 v0 rfl rfl) h0
  have b0 := bounds_i64 w0
  obtain ⟨x1, n1, c1, l1, q1, s1, d1, b1, m1⟩ := open_row (q := 1) (V := modEvo 108) (by kernel_rfl : Tryd.prog.underlying 50 = some (.slice 24)) (words_array tf24_u (by kernel_rfl : Tryd.prog.underlying 22 = some (.int .u64)) (by kernel_rfl) (by kernel_rfl)) (by decide) (hval 1 50 v1 rfl rfl) h1
  rw [Nat.one_mul] at m1
  obtain ⟨x2, n2, c2, l2, q2, s2, d2, b2, m2⟩ := open_row (q := 1) (V := modEvo 108) (by kernel_rfl : Tryd.prog.underlying 50 = some (.slice 24)) (words_array tf24_u (by kernel_rfl : Tryd.prog.underlying 22 = some (.int .u64)) (by kernel_rfl) (by kernel_rfl)) (by decide) (hval 2 50 v2 rfl rfl) h2
  rw [Nat.one_mul] at m2
  obtain ⟨a3, q3, rfl, rfl, w3⟩ := open_int (by kernel_rfl : Tryd.prog.underlying 3 = some (.int .i64)) (hval 3 3 v3 rfl rfl) h3
  have b3 := bounds_i64 w3
  have hx := shareSums_m a0 b0 x1 n1 c1 l1 (by first | assumption | omega) (by first | assumption | omega) (by first | assumption | omega)  x2 n2 c2 l2 (by first | assumption | omega) (by first | assumption | omega) (by first | assumption | omega)  a3 b3 W ⟨m1, m2, hL⟩
  subst q0 q1 q2 q3
  exact hx.mono fun e w' ⟨h1, h2⟩ => ⟨h1 (fun _ => 0), h2⟩
theorem shareSums_row : Rows.ShareSumsSaid :=
 OpenClaim.holds_of_wide 12 Tryd.f12 rfl rfl rfl rfl rfl rfl rfl ⟨rfl, rfl, rfl, rfl, rfl⟩ rfl rfl rfl rfl rfl (by kernel_rfl) Tryd.func12 (by kernel_rfl)
  (of_decide_eq_true (by kernel_rfl)) (by unfold Func.isWrapper; first | (rw [if_pos (by decide +kernel)]; kernel_rfl) | (rw [if_neg (by decide +kernel)]; exact ⟨rfl, rfl⟩))
  (fun os started H enc _ => shareSums_lifted os started H enc)
theorem shareSums_holds : Rows.ShareSumsCardSaid :=
 Claim7.holds_tied_plain_at .later [] [.data, .data, .data, .data] true (true, "3c0b510613646d09c25269a38b34d414a5ed09da696e5a61886c415979359f8c") false
  shareSums_row (fun _ h => by cases h) (by kernel_rfl) (fun _ h => by cases h) shareSums_row_tie rfl ⟨rfl, rfl⟩ (by kernel_rfl) rfl
  (fun f fn hf hfn => by
   obtain rfl : f = 12 := Option.some.inj ((show Tryd.prog.funcNamed "sortition/sortitionlaw10.ShareSums" = some 12 by kernel_rfl).symm.trans hf) |>.symm
   obtain rfl : fn = Tryd.f12 := (Option.some.inj (Tryd.func12.symm.trans hfn)).symm
   exact ⟨by kernel_rfl, fun j t ht => by
    rw [Tryd.params12] at ht
    rcases j with _ | j
    ·have h3 : t = 3 := by simpa using ht.symm
     subst h3
     exact (show Tryd.prog.wantsStandIn 3 = false by kernel_rfl)
    ·rcases j with _ | j
     ·have h3 : t = 50 := by simpa using ht.symm
      subst h3
      exact (show Tryd.prog.wantsStandIn 50 = false by kernel_rfl)
     ·rcases j with _ | j
      ·have h3 : t = 50 := by simpa using ht.symm
       subst h3
       exact (show Tryd.prog.wantsStandIn 50 = false by kernel_rfl)
      ·rcases j with _ | j
       ·have h3 : t = 3 := by simpa using ht.symm
        subst h3
        exact (show Tryd.prog.wantsStandIn 3 = false by kernel_rfl)
       ·simp at ht⟩)
  (by kernel_rfl)
end Go.Proofs.YtdmcknmjdlghgaaDoor
