/-
  ShareFlat: whatever the input, the law returns true, and its arguments read as they did; the listed variable is laid by the program's text: the card ties it.
-/
import Derived.Test.YtdmcknmjdlghgaaDoorCards
import Derived.Test.YtdmcknmjdlghgaaDoorTie
import Derived.SevenTiedAt
import Derived.Test.YtdmcknmjdlghgaaDoorT01
import Derived.Test.YtdmcknmjdlghgaaDoorT02
import Derived.Test.YtdmcknmjdlghgaaDoorT03
import Derived.Test.YtdmcknmjdlghgaaDoorT06
import Derived.Test.YtdmcknmjdlghgaaDoorT07
import Derived.Test.YtdmcknmjdlghgaaDoorT08
import Derived.Test.YtdmcknmjdlghgaaDoorT15
import Derived.Test.YtdmcknmjdlghgaaDoorT18
import Derived.Test.YtdmcknmjdlghgaaDoorT19
namespace Go.Proofs.YtdmcknmjdlghgaaDoor
open Go Go.Ab Go.ChangeShapes Go.WideShapes Go.ChangeAt Go.RowKit
set_option linter.unusedSimpArgs false
set_option linter.unusedVariables false
theorem shareFlat_own : ownKnob Tryd.prog.godebug = none := by kernel_rfl
theorem shareFlat_laidOut : laidOutB Tryd.prog = true := by kernel_rfl
theorem shareFlat_met (os : Os) : laidMetH Tryd.prog Rows.shareFlatRow.laid ((laidWorld os).forCall (fun _ _ => 0) ⟨#[], #[.int .i64 0, .agg #[.int .u64 0, .int .u64 0, .int .u64 0, .int .u64 0], .int .i64 0], []⟩).memory :=
  (laidMet_of_run' 8 (by kernel_rfl) (by kernel_rfl) : laidMet Tryd.prog Rows.shareFlatRow.laid _)
set_option maxRecDepth 100000 in
theorem shareFlat_lifted (os : Os) (started : os.Started) (H : Type) (enc : TypeId × Value → H) :
    ReturnsInHanded {} Tryd.checked os 11 .any (fun w args => (Rows.shareFlatSpec.pre enc Tryd.prog Tryd.f11 [] false w args ∧ laidMetH Tryd.prog Rows.shareFlatRow.laid w) ∧ sizedMet enc Tryd.prog Tryd.f11 (OpenSpec.ofChange Rows.shareFlatSpec) false w args) (Rows.shareFlatSpec.post enc Tryd.prog Tryd.f11 false true false false) := by
  refine law_lifted2 (C := Tryd.checked) (tb := 4) (X := fun w _ => laidMetH Tryd.prog Rows.shareFlatRow.laid w) (fun _ _ _ hh h => h.of_heap hh) shareFlat_own started (by kernel_rfl) Tryd.func11 shareFlat_laidOut
    (ChangeSpec.witness_at (enc := enc) (C := Tryd.checked) (os := os) (X := fun w _ => laidMetH Tryd.prog Rows.shareFlatRow.laid w) false (laidWorld os) #[.int .i64 0, .agg #[.int .u64 0, .int .u64 0, .int .u64 0, .int .u64 0], .int .i64 0] 8 rfl (by kernel_rfl) (by kernel_rfl) (by kernel_rfl) (by kernel_rfl) (by kernel_rfl) (shareFlat_met os))
    rfl (fun ds h => ?_) rfl (by kernel_rfl) ?_ ?_
  · rw [Tryd.params11] at h
    rcases ds with _ | ⟨x1, _ | ⟨x2, _ | ⟨x3, ds⟩⟩⟩ <;> first | rfl | (simp at h; done) | (simp at h; subst h; rfl)
  · rw [Tryd.params11]
    simp only [List.mem_cons, List.not_mem_nil, or_false, forall_eq_or_imp, forall_eq]
    exact ⟨⟨by kernel_rfl, of_decide_eq_true (by kernel_rfl)⟩, ⟨by kernel_rfl, of_decide_eq_true (by kernel_rfl)⟩, ⟨by kernel_rfl, of_decide_eq_true (by kernel_rfl)⟩⟩
  · intro W base args ds ps hval0 hA0 hX
    have hL : gv W := gv_of_laid hX
    have hval : ∀ (j : Nat) t v, Tryd.f11.params[j]? = some t → args[j]? = some v → Value.okWide Tryd.prog W .any base t v := hval0
    have hA : DataW.TrodAll enc Tryd.prog W 0 (fun _ => true) true Tryd.f11.params.toList args.toList ds ps := hA0
    clear hval0 hA0
    rw [Tryd.params11] at hA hval
    obtain ⟨v0, v1, v2, d0, d1, d2, p0, p1, p2, rfl, rfl, rfl, h0, h1, h2⟩ := trodAll_three hA
    obtain ⟨a0, q0, rfl, rfl, w0⟩ := open_int (by kernel_rfl : Tryd.prog.underlying 3 = some (.int .i64)) (hval 0 3 v0 rfl rfl) h0
    have b0 := bounds_i64 w0
    obtain ⟨a1, s1, e1⟩ := open_words tf24_u (by kernel_rfl : Tryd.prog.underlying 22 = some (.int .u64)) (by kernel_rfl) (by kernel_rfl) (hval 1 24 v1 rfl rfl) h1
    have s1' : a1 < 2 ^ 256 := s1
    clear s1
    have q1 := e1 (fun _ => 0)
    obtain ⟨a2, q2, rfl, rfl, w2⟩ := open_int (by kernel_rfl : Tryd.prog.underlying 3 = some (.int .i64)) (hval 2 3 v2 rfl rfl) h2
    have b2 := bounds_i64 w2
    have hx := shareFlat_m a0 b0 a1 s1' a2 b2 W hL
    subst q0 q1 q2
    exact hx.mono fun e w' ⟨h1, h2⟩ => ⟨h1 (fun _ => 0), h2⟩
theorem shareFlat_row : Rows.ShareFlatSaid :=
  OpenClaim.holds_of_wide 11 Tryd.f11 rfl rfl rfl rfl rfl rfl rfl ⟨rfl, rfl, rfl, rfl, rfl⟩ rfl rfl rfl rfl rfl (by kernel_rfl) Tryd.func11 (by kernel_rfl)
    (of_decide_eq_true (by kernel_rfl)) (by unfold Func.isWrapper; first | (rw [if_pos (by decide +kernel)]; kernel_rfl) | (rw [if_neg (by decide +kernel)]; exact ⟨rfl, rfl⟩))
    (fun os started H enc _ => shareFlat_lifted os started H enc)
theorem shareFlat_holds : Rows.ShareFlatCardSaid :=
  Claim7.holds_tied_plain_at .later [] [.data, .data, .data, .data] true (true, "3c0b510613646d09c25269a38b34d414a5ed09da696e5a61886c415979359f8c") false
    shareFlat_row (fun _ h => by cases h) (by kernel_rfl) (fun _ h => by cases h) shareFlat_row_tie rfl ⟨rfl, rfl⟩ (by kernel_rfl) rfl
    (fun f fn hf hfn => by
      obtain rfl : f = 11 := Option.some.inj ((show Tryd.prog.funcNamed "sortition/sortitionlaw10.ShareFlat" = some 11 by kernel_rfl).symm.trans hf) |>.symm
      obtain rfl : fn = Tryd.f11 := (Option.some.inj (Tryd.func11.symm.trans hfn)).symm
      exact ⟨by kernel_rfl, fun j t ht => by
        rw [Tryd.params11] at ht
        rcases j with _ | j
        · have h3 : t = 3 := by simpa using ht.symm
          subst h3
          exact (show Tryd.prog.wantsStandIn 3 = false by kernel_rfl)
        · rcases j with _ | j
          · have h3 : t = 24 := by simpa using ht.symm
            subst h3
            exact (show Tryd.prog.wantsStandIn 24 = false by kernel_rfl)
          · rcases j with _ | j
            · have h3 : t = 3 := by simpa using ht.symm
              subst h3
              exact (show Tryd.prog.wantsStandIn 3 = false by kernel_rfl)
            · simp at ht⟩)
    (by kernel_rfl)
end Go.Proofs.YtdmcknmjdlghgaaDoor
