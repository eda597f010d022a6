/- Names: the numbers of package api are those of the document: the law returns true. No condition. -/
import Derived.Test.YtmipfmjeppodmaaRows
import Derived.Test.YtmipfmjeppodmaaNW
import Derived.Test.YtmipfmjeppodmaaFm
namespace Go.Proofs.Ytmipfmjeppodmaa
open Go Go.Ab Go.ChangeShapes Go.WideShapes Go.ChangeAt Go.RowKit
set_option linter.unusedSimpArgs false
set_option linter.unusedVariables false

theorem names_own : ownKnob Try.prog.godebug = none := by kernel_rfl
theorem names_laidOut : laidOutB Try.prog = true := by kernel_rfl

set_option maxRecDepth 100000 in
theorem names_lifted (os : Os) (started : os.Started) (H : Type) (enc : TypeId × Value → H) :
    ReturnsInHanded {} Try.checked os 3 .any (Rows.namesSpec.pre6 enc Try.prog Try.f3 Rows.namesRow.domain false) (Rows.namesSpec.post enc Try.prog Try.f3 false true false false) := by
  refine law_lifted (C := Try.checked) (tb := 4) names_own started (by kernel_rfl) Try.func3 names_laidOut
    (ChangeSpec.witness6 (enc := enc) (C := Try.checked) false ⟨#[], #[], []⟩ 8 (by kernel_rfl) (by kernel_rfl) (by kernel_rfl) (by kernel_rfl))
    rfl (fun ds h => ?_) rfl (by kernel_rfl) ?_ ?_
  · rw [Try.params3] at h
    rcases ds with _ | ⟨x, ds⟩ <;> first | rfl | (simp at h; done)
  · rw [Try.params3]
    intro t ht
    cases ht
  · intro W base args ds ps _ hA0 _ _
    have hA : DataW.TrodAll enc Try.prog W 0 (fun _ => true) true Try.f3.params.toList args.toList ds ps := hA0
    rw [Try.params3] at hA
    have hl := (trodAll_len hA).2
    have ha : args = #[] := by
      cases args with
      | mk l => cases l with
        | nil => rfl
        | cons a l => simp at hl
    subst ha
    exact (names_c (fun _ => 0) W).mono fun e w' ⟨h1, h2⟩ => ⟨h1 (fun _ => 0), h2⟩

theorem names_holds : Rows.NamesSaid :=
  OpenClaim.holds_of_wide 3 Try.f3 rfl rfl rfl rfl rfl rfl rfl ⟨rfl, rfl, rfl, rfl, rfl⟩ rfl rfl rfl rfl rfl (by kernel_rfl) Try.func3 (by kernel_rfl)
    (of_decide_eq_true (by kernel_rfl)) (by unfold Func.isWrapper; first | (rw [if_pos (by decide +kernel)]; kernel_rfl) | (rw [if_neg (by decide +kernel)]; exact ⟨rfl, rfl⟩))
    (fun os started H enc _ => names_lifted os started H enc)

end Go.Proofs.Ytmipfmjeppodmaa
