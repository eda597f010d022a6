/-
  A row of ours is handed on: what it is told of is its place.
-/
import Derived.Test.YthniflakjkbpiaaDoorNa
import Derived.Test.YthniflakjkbpiaaDoorAb22
namespace Go.Ab
open Go Go.RowKit
set_option linter.unusedSimpArgs false
set_option linter.unusedVariables false

section
variable {Γ : Ctx} {P : Program} {V : Evo} {H : Heap} {M : List Nat} {f : FuncId} {args : List TV} {r : TV} {K : TV → Heap → Prop} {KV : TV → Prop}
theorem calz (h : ∀ β w, Rep Γ H β w → ∃ pre, EvC Γ.ev Γ.P f (args.map (TV.fz [] β)) pre r ∧ pre Γ.B w) : CalP Γ H f args r := by
  intro β w hR
  obtain ⟨pre, h1, h2⟩ := h β w hR
  have e : args.map (TV.conc β) = (args.map (TV.fz [] β)).map (TV.conc fun _ => 0) := by
    rw [List.map_map]
    exact List.map_congr_left fun x _ => (TV.fz_conc (fun i j h => by simp at h) x).symm
  rw [e]
  exact (h1 Γ.B w h2).mono fun _ _ ⟨he, hx⟩ => ⟨fun β' _ => he β', hx⟩
theorem yF_evz (h : ∀ β w, Rep Γ H β w → ∃ pre, EvC V P f (args.map (TV.fz [] β)) pre r ∧ pre Γ.B w) (hP : Γ.P = P) (hV : Γ.ev = V) (hc : callable P f = true) (hK : K r H) : xcallF Γ H f args K := by
  subst hP; subst hV; exact xcall_pure hc (calz h) hK
theorem yV_evz (h : ∀ β w, Rep Γ H β w → ∃ pre, EvC V P f (args.map (TV.fz [] β)) pre r ∧ pre Γ.B w) (hP : Γ.P = P) (hV : Γ.ev = V) (hc : callable P f = true) (hK : KV r) : xcallV Γ H f args KV := by
  subst hP; subst hV; exact xcallV_pure hc (calz h) hK
end
/-- A row of ours, where it lies. -/
theorem natsAt_own {Γ : Ctx} {T0 B n : Nat} {l : Nat → Nat} {sp : List SV} {e : Nat} {H : Heap} {β : Nat → Nat} {w : World} {j : Nat} (hR : Rep Γ H β w) (hb : H[j]? = some ⟨e, nats n l ++ sp⟩) (he : e ≠ T0) : natsAt (modEvo T0) (some ⟨β j, 0, none⟩) n l B w := by
  refine .inr ⟨_, rfl, rfl, _, _, _, hR.blk β (.refl _ _) j _ hb, .inr he, fun i hi => ?_⟩
  simp only [AB.conc, List.getElem?_toArray, List.getElem?_map, Nat.zero_add]
  rw [List.getElem?_append_left (by rw [nats_length]; exact hi), nats_get hi]
  rfl
theorem natsAt_own0 {Γ : Ctx} {T0 B n : Nat} {l : Nat → Nat} {e : Nat} {H : Heap} {β : Nat → Nat} {w : World} {j : Nat} (hR : Rep Γ H β w) (hb : H[j]? = some ⟨e, nats n l⟩) (he : e ≠ T0) : natsAt (modEvo T0) (some ⟨β j, 0, none⟩) n l B w :=
  natsAt_own (sp := []) hR (by rw [List.append_nil]; exact hb) he
/-- Two numbers. -/
def two (a b : Nat) (i : Nat) : Nat := if i = 0 then a else b
theorem nats_two (a b : Nat) : nat4 a ++ nat4 b = nats 2 (two a b) := by
  have h1 := nats_snoc (n := 1) (l := two a b)
  have h0 := nats_snoc (n := 0) (l := two a b)
  rw [nats_zero, List.nil_append] at h0
  rw [← h1, ← h0]
  rfl
theorem two_set (a b : Nat) : setAt (setAt (arr 8 fun _ => 0) 0 (nat4 a)) 4 (nat4 b) = nats 2 (two a b) := by
  rw [← nats_two]
  rfl
theorem two_len (a : Nat) : (setAt (arr 8 fun _ => 0) 0 (nat4 a)).length = 8 := rfl
end Go.Ab
