/-
  A Mod of ours is let go: what was known stays known.
-/
import Derived.Test.YthniflakjkbpiaaDoorAb23
import Derived.Test.YthniflakjkbpiaaDoorKM
namespace Go.Ab
open Go Go.RowKit
set_option linter.unusedSimpArgs false
set_option linter.unusedVariables false

theorem kn_law {P : Program} {w0 w : World} {H : Heap} {β : Nat → Nat} {L : List Nat} {V : Evo} {p : Nat → World → Prop} (hR : Rep (ctx0 P w0) H β w) (hlt : ∀ i ∈ L, i < H.length) (hs : Stays V p) (hp : p w0.heap.size w0) :
    Kn ((ctx0 P w0).after V w0.heap.size w β L) p := by
  intro w' h
  obtain ⟨h1, h2, h3, h4, h5⟩ := FrP.back hR hlt (.inr (Nat.le_refl _)) h
  exact hs _ w0 w' hp ⟨h1, h2, h3, h4, fun k hk => .inl (by
    rcases h5 k hk with h6 | h6 | ⟨_, _, _, _, _, h6⟩
    · exact h6.elim
    · exact h6
    · exact h6.elim)⟩
theorem X_modM {P : Program} {w0 : World} {c : Code} {T : List TV} {H : Heap} {Q : QX} {T0 m : Nat} {bb : Bool} (j : Nat) (L : List Nat) (hb : H[j]? = some ⟨T0, modS m bb⟩) (hL : L.Nodup) (hLj : j ∉ L) (hG : OddM m) (hlt : ∀ i ∈ L, i < H.length)
    (hLT : ∀ b ∈ pickH H L, b.t ≠ T0)
    (h : ∀ β w, Kn ((ctx0 P w0).after (modEvo T0) w0.heap.size w β L) (isMod T0 (β j) m) → (∀ p, Stays (modEvo T0) p → p w0.heap.size w0 → Kn ((ctx0 P w0).after (modEvo T0) w0.heap.size w β L) p) →
      X ((ctx0 P w0).after (modEvo T0) w0.heap.size w β L) c (T.map (TV.fz L β)) (fzH L β H L) Q) : X (ctx0 P w0) c T H Q := by
  refine X_rebase (modEvo T0) w0.heap.size L hL hlt rfl (.inr (Nat.le_refl _)) (fun _ h => h.elim) (fun i hi b hb => ?_) fun β w hR => h β w ?_ fun p hs hp => kn_law hR hlt hs hp
  · refine hLT b ?_
    clear h hLT hL hLj hlt
    induction L with
    | nil => cases hi
    | cons i' r ih =>
      rw [pickH_cons]
      rcases List.mem_cons.1 hi with h1 | h1
      · subst h1; rw [hb, consH_some]; exact List.mem_cons_self ..
      · have h2 := ih h1
        cases h3 : H[i']? with
        | none => exact h2
        | some b' => exact List.mem_cons_of_mem _ h2
  · exact isMod_gone hR hb hLj hlt hG (new_lie hR (fun _ h => h) (List.getElem?_eq_some_iff.1 hb).1)
/-- Four numbers. -/
def four (a b c d : Nat) (i : Nat) : Nat := if i = 0 then a else if i = 1 then b else if i = 2 then c else d
end Go.Ab
