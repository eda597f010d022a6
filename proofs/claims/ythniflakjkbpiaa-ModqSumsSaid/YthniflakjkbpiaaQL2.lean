/-
  Rows of points that grow.
-/
import Derived.Test.YthniflakjkbpiaaQL
namespace Go.Proofs.Ythniflakjkbpiaa
open Go Go.Ab
set_option linter.unusedSimpArgs false
set_option linter.unusedVariables false

theorem ap_pt (n : Nat) (hn : n ≤ 1000000) : apOK Try.prog 53 n := by
  have h1 : (Try.prog.info? 53).map (fun i => (i.bytes, i.size, i.zero.map fun z => z.cells.size)) = some (64, 8, some 8) := by kernel_rfl
  cases hi : Try.prog.info? 53 with
  | none => rw [hi] at h1; cases h1
  | some i =>
    rw [hi] at h1
    simp only [Option.map_some, Option.some.injEq, Prod.mk.injEq] at h1
    obtain ⟨h2, h3, h4⟩ := h1
    obtain ⟨z, hz, hz4⟩ := Option.map_eq_some_iff.1 h4
    exact ⟨i, z, hi, hz, by rw [hz4, h3], by rw [h2]; omega, by omega⟩
theorem sz_pt : sz Try.prog 53 = 8 := by kernel_rfl
theorem news_pt {H : Heap} {k t a b n : Nat} (hn : n = 8) (hb : H[k]? = some ⟨t, pt a b⟩) : newsOf H n (.s (.sl k 0 1 1)) = some (pt a b, 1) := by
  subst hn
  have hl : (pt a b).length = 8 := pt_length
  have h8 : (pt a b).take 8 = pt a b := List.take_of_length_le (by omega)
  simp [newsOf, hb, hl, part_eq, h8]
theorem pts_snoc {k : Nat} {l : Nat → Nat} : nats (2 * k) l ++ pt (l (2 * k)) (l (2 * k + 1)) = nats (2 * (k + 1)) l := by
  unfold pt
  rw [← List.append_assoc, nats_snoc, nats_snoc]
  rfl
theorem one_pt (a b : Nat) : setAt (arr 8 fun _ => 0) 0 (pt a b) = pt a b := rfl
end Go.Proofs.Ythniflakjkbpiaa
