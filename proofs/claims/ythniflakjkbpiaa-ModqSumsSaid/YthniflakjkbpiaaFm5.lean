/-
  Five parameters.
-/
import Derived.Test.YthniflakjkbpiaaFm3
namespace Go.Ab
open Go Go.ChangeShapes
set_option linter.unusedSimpArgs false
set_option linter.unusedVariables false
theorem trodAll_five {H : Type} {enc : TypeId × Value → H} {P : Program} {w : World} {base : Nat} {spare : Nat → Bool} {held : Bool} {t0 t1 t2 t3 t4 : TypeId} {args : Array Value} {ds : List (DataW H)} {ps : List MemPlace}
    (h : DataW.TrodAll enc P w base spare held [t0, t1, t2, t3, t4] args.toList ds ps) :
    ∃ v0 v1 v2 v3 v4 d0 d1 d2 d3 d4 p0 p1 p2 p3 p4, args = #[v0, v1, v2, v3, v4] ∧ ds = [d0, d1, d2, d3, d4] ∧ ps = p0 ++ p1 ++ p2 ++ p3 ++ p4 ∧ DataW.Trod enc P w base spare held t0 v0 d0 p0 ∧ DataW.Trod enc P w base spare held t1 v1 d1 p1 ∧
      DataW.Trod enc P w base spare held t2 v2 d2 p2 ∧ DataW.Trod enc P w base spare held t3 v3 d3 p3 ∧ DataW.Trod enc P w base spare held t4 v4 d4 p4 := by
  obtain ⟨a0, b0, c0, e0, g0, i0, hargs, rfl, rfl, k0, r0⟩ := trodAll_cons h
  obtain ⟨a1, b1, c1, e1, g1, i1, rfl, rfl, rfl, k1, r1⟩ := trodAll_cons r0
  obtain ⟨a2, b2, c2, e2, g2, i2, rfl, rfl, rfl, k2, r2⟩ := trodAll_cons r1
  obtain ⟨a3, b3, c3, e3, g3, i3, rfl, rfl, rfl, k3, r3⟩ := trodAll_cons r2
  obtain ⟨a4, b4, c4, e4, g4, i4, rfl, rfl, rfl, k4, r4⟩ := trodAll_cons r3
  obtain ⟨rfl, rfl, rfl⟩ := trodAll_nil r4
  exact ⟨a0, a1, a2, a3, a4, c0, c1, c2, c3, c4, g0, g1, g2, g3, g4, by cases args; simp_all, rfl, by simp, k0, k1, k2, k3, k4⟩
end Go.Ab
