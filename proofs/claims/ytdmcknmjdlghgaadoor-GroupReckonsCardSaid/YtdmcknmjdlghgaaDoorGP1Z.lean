/-
  GroupReckons: whatever the input, the law returns true, and its arguments read as they did; the listed variable is laid by the program's text: the card ties it.
-/
import Derived.WalkKit
import Derived.StillTail
import Derived.Deep.MidRow
import Derived.DeepKeys
import Derived.Deep.LoopGhost
import Derived.Deep.Quiet
import Derived.Laws.AppendOwn
import Derived.Laws.MakeOwn
import Derived.Laws.Cover3
import Derived.Laws.IdiomCopy
import Derived.Laws.CopyRow
import Derived.Laws.BitsAllLaws
import Derived.Laws.Bits128
import Derived.Lib.BitFns
import Derived.DeepKeys3
import Derived.MapKept
import Derived.Test.YtdmcknmjdlghgaaDoorProg
import Derived.Shelf.Bits.Mul64
import Derived.Shelf.Strconv.Itoa0
import Derived.Shelf.Spec.BitsCarry
import Derived.Tactics
import Derived.Tactics2
import Derived.Defers
import Derived.Laws.Pointers
import Derived.Laws.LoneSync
import Derived.RegionTactic
import Derived.RegionCalls
import Derived.ChangeAlike
import Derived.KernelRfl
import Derived.Laws.NewBlocks
import Derived.ProofKit
import Derived.Below
import Derived.ChangeSame
import Derived.OpenShut
import Derived.ChangeSlices
import Derived.Test.YtdmcknmjdlghgaaDoorRows
import Derived.ChangeVars
import Derived.JoinedOf
import Derived.LaidLaws
import Derived.LaidHandle
import Derived.Stop.Joined
import Derived.Test.YtdmcknmjdlghgaaDoorCards
import Derived.Test.YtdmcknmjdlghgaaDoorTie
import Derived.SevenTiedAt
import Derived.Test.YtdmcknmjdlghgaaDoorZ01
import Derived.Test.YtdmcknmjdlghgaaDoorZ02
import Derived.Test.YtdmcknmjdlghgaaDoorZ03
import Derived.Test.YtdmcknmjdlghgaaDoorZ04
import Derived.Test.YtdmcknmjdlghgaaDoorZ09
import Derived.Test.YtdmcknmjdlghgaaDoorZ17
namespace Go.Proofs.YtdmcknmjdlghgaaDoor
open Go Go.Ab Go.ChangeShapes Go.WideShapes Go.ChangeAt Go.RowKit
set_option linter.unusedSimpArgs false
set_option linter.unusedVariables false

theorem groupReckons_own : ownKnob Tryd.prog.godebug = none := by kernel_rfl
theorem groupReckons_laidOut : laidOutB Tryd.prog = true := by kernel_rfl
theorem groupReckons_met (os : Os) : laidMetH Tryd.prog Rows.groupReckonsRow.laid ((laidWorld os).forCall (fun _ _ => 0) ⟨#[], #[.int .i64 0, .agg #[.int .u64 0, .int .u64 0, .int .u64 0, .int .u64 0], .agg #[.int .u64 0, .int .u64 0, .int .u64 0, .int .u64 0], .agg #[.int .u64 0, .int .u64 0, .int .u64 0, .int .u64 0], .slice none 0 0, .slice none 0 0], []⟩).memory :=
  (laidMet_of_run' 8 (by kernel_rfl) (by kernel_rfl) : laidMet Tryd.prog Rows.groupReckonsRow.laid _)

set_option maxRecDepth 100000 in
theorem groupReckons_lifted (os : Os) (started : os.Started) (H : Type) (enc : TypeId × Value → H) :
    ReturnsInHanded {} Tryd.checked os 5 .any (fun w args => (Rows.groupReckonsSpec.pre enc Tryd.prog Tryd.f5 [] false w args ∧ laidMetH Tryd.prog Rows.groupReckonsRow.laid w) ∧ sizedMet enc Tryd.prog Tryd.f5 (OpenSpec.ofChange Rows.groupReckonsSpec) false w args) (Rows.groupReckonsSpec.post enc Tryd.prog Tryd.f5 false true false false) := by
  refine law_lifted2 (C := Tryd.checked) (tb := 4) (X := fun w _ => laidMetH Tryd.prog Rows.groupReckonsRow.laid w) (fun _ _ _ hh h => h.of_heap hh) groupReckons_own started (by kernel_rfl) Tryd.func5 groupReckons_laidOut
    (ChangeSpec.witness_at (enc := enc) (C := Tryd.checked) (os := os) (X := fun w _ => laidMetH Tryd.prog Rows.groupReckonsRow.laid w) false (laidWorld os) #[.int .i64 0, .agg #[.int .u64 0, .int .u64 0, .int .u64 0, .int .u64 0], .agg #[.int .u64 0, .int .u64 0, .int .u64 0, .int .u64 0], .agg #[.int .u64 0, .int .u64 0, .int .u64 0, .int .u64 0], .slice none 0 0, .slice none 0 0] 8 rfl (by kernel_rfl) (by kernel_rfl) (by kernel_rfl) (by kernel_rfl) (by kernel_rfl) (groupReckons_met os))
    rfl (fun ds h => ?_) rfl (by kernel_rfl) ?_ ?_
  · rw [Tryd.params5] at h
    rcases ds with _ | ⟨x1, _ | ⟨x2, _ | ⟨x3, _ | ⟨x4, _ | ⟨x5, _ | ⟨x6, ds⟩⟩⟩⟩⟩⟩ <;> first | rfl | (simp at h; done) | (simp at h; subst h; rfl)
  · rw [Tryd.params5]
    simp only [List.mem_cons, List.not_mem_nil, or_false, forall_eq_or_imp, forall_eq]
    exact ⟨⟨by kernel_rfl, of_decide_eq_true (by kernel_rfl)⟩, ⟨by kernel_rfl, of_decide_eq_true (by kernel_rfl)⟩, ⟨by kernel_rfl, of_decide_eq_true (by kernel_rfl)⟩, ⟨by kernel_rfl, of_decide_eq_true (by kernel_rfl)⟩, ⟨by kernel_rfl, of_decide_eq_true (by kernel_rfl)⟩, ⟨by kernel_rfl, of_decide_eq_true (by kernel_rfl)⟩⟩
  · intro W base args ds ps hval0 hA0 hX
    have hL : gv W := gv_of_laid hX
    have hval : ∀ (j : Nat) t v, Tryd.f5.params[j]? = some t → args[j]? = some v → Value.okWide Tryd.prog W .any base t v := hval0
    have hA : DataW.TrodAll enc Tryd.prog W 0 (fun _ => true) true Tryd.f5.params.toList args.toList ds ps := hA0
    clear hval0 hA0
    rw [Tryd.params5] at hA hval
    obtain ⟨v0, v1, v2, v3, v4, v5, d0, d1, d2, d3, d4, d5, p0, p1, p2, p3, p4, p5, rfl, rfl, rfl, h0, h1, h2, h3, h4, h5⟩ := trodAll_six hA
    obtain ⟨a0, q0, rfl, rfl, w0⟩ := open_int (by kernel_rfl : Tryd.prog.underlying 3 = some (.int .i64)) (hval 0 3 v0 rfl rfl) h0
    have b0 := bounds_i64 w0
    obtain ⟨a1, s1, e1⟩ := open_words tf24_u (by kernel_rfl : Tryd.prog.underlying 22 = some (.int .u64)) (by kernel_rfl) (by kernel_rfl) (hval 1 24 v1 rfl rfl) h1
    have s1' : a1 < 2 ^ 256 := s1
    clear s1
    have q1 := e1 (fun _ => 0)
    obtain ⟨a2, s2, e2⟩ := open_words tf24_u (by kernel_rfl : Tryd.prog.underlying 22 = some (.int .u64)) (by kernel_rfl) (by kernel_rfl) (hval 2 24 v2 rfl rfl) h2
    have s2' : a2 < 2 ^ 256 := s2
    clear s2
    have q2 := e2 (fun _ => 0)
    obtain ⟨a3, s3, e3⟩ := open_words tf24_u (by kernel_rfl : Tryd.prog.underlying 22 = some (.int .u64)) (by kernel_rfl) (by kernel_rfl) (hval 3 24 v3 rfl rfl) h3
    have s3' : a3 < 2 ^ 256 := s3
    clear s3
    have q3 := e3 (fun _ => 0)
    obtain ⟨x4, n4, c4, l4, q4, s4, d4, b4, m4⟩ := open_row (q := 1) (V := modEvo 108) (by kernel_rfl : Tryd.prog.underlying 50 = some (.slice 24)) (words_array tf24_u (by kernel_rfl : Tryd.prog.underlying 22 = some (.int .u64)) (by kernel_rfl) (by kernel_rfl)) (by decide) (hval 4 50 v4 rfl rfl) h4
    rw [Nat.one_mul] at m4
    obtain ⟨x5, n5, c5, l5, q5, s5, d5, b5, m5⟩ := open_row (q := 1) (V := modEvo 108) (by kernel_rfl : Tryd.prog.underlying 50 = some (.slice 24)) (words_array tf24_u (by kernel_rfl : Tryd.prog.underlying 22 = some (.int .u64)) (by kernel_rfl) (by kernel_rfl)) (by decide) (hval 5 50 v5 rfl rfl) h5
    rw [Nat.one_mul] at m5
    have hx := groupReckons_m a0 b0 a1 s1' a2 s2' a3 s3' x4 n4 c4 l4 (by first | assumption | omega) (by first | assumption | omega) (by first | assumption | omega)  x5 n5 c5 l5 (by first | assumption | omega) (by first | assumption | omega) (by first | assumption | omega)  W ⟨m4, m5, hL⟩
    subst q0 q1 q2 q3 q4 q5
    exact hx.mono fun e w' ⟨h1, h2⟩ => ⟨h1 (fun _ => 0), h2⟩

theorem groupReckons_row : Rows.GroupReckonsSaid :=
  OpenClaim.holds_of_wide 5 Tryd.f5 rfl rfl rfl rfl rfl rfl rfl ⟨rfl, rfl, rfl, rfl, rfl⟩ rfl rfl rfl rfl rfl (by kernel_rfl) Tryd.func5 (by kernel_rfl)
    (of_decide_eq_true (by kernel_rfl)) (by unfold Func.isWrapper; first | (rw [if_pos (by decide +kernel)]; kernel_rfl) | (rw [if_neg (by decide +kernel)]; exact ⟨rfl, rfl⟩))
    (fun os started H enc _ => groupReckons_lifted os started H enc)
theorem groupReckons_holds : Rows.GroupReckonsCardSaid :=
  Claim7.holds_tied_plain_at .later [] [.data, .data, .data, .data] true (true, "3c0b510613646d09c25269a38b34d414a5ed09da696e5a61886c415979359f8c") false
    groupReckons_row (fun _ h => by cases h) (by kernel_rfl) (fun _ h => by cases h) groupReckons_row_tie rfl ⟨rfl, rfl⟩ (by kernel_rfl) rfl
    (fun f fn hf hfn => by
      obtain rfl : f = 5 := Option.some.inj ((show Tryd.prog.funcNamed "sortition/sortitionlaw05.GroupReckons" = some 5 by kernel_rfl).symm.trans hf) |>.symm
      obtain rfl : fn = Tryd.f5 := (Option.some.inj (Tryd.func5.symm.trans hfn)).symm
      exact ⟨by kernel_rfl, fun j t ht => by
        rw [Tryd.params5] at ht
        rcases j with _ | j
        · have h3 : t = 3 := by simpa using ht.symm
          subst h3
          exact (show Tryd.prog.wantsStandIn 3 = false by kernel_rfl)
        · rcases j with _ | j
          · have h3 : t = 24 := by simpa using ht.symm
            subst h3
            exact (show Tryd.prog.wantsStandIn 24 = false by kernel_rfl)
          · rcases j with _ | j
            · have h3 : t = 24 := by simpa using ht.symm
              subst h3
              exact (show Tryd.prog.wantsStandIn 24 = false by kernel_rfl)
            · rcases j with _ | j
              · have h3 : t = 24 := by simpa using ht.symm
                subst h3
                exact (show Tryd.prog.wantsStandIn 24 = false by kernel_rfl)
              · rcases j with _ | j
                · have h3 : t = 50 := by simpa using ht.symm
                  subst h3
                  exact (show Tryd.prog.wantsStandIn 50 = false by kernel_rfl)
                · rcases j with _ | j
                  · have h3 : t = 50 := by simpa using ht.symm
                    subst h3
                    exact (show Tryd.prog.wantsStandIn 50 = false by kernel_rfl)
                  · simp at ht⟩)
    (by kernel_rfl)
end Go.Proofs.YtdmcknmjdlghgaaDoor
