/-
  Points are eight words.
-/
import Derived.Test.YthniflakjkbpiaaFm3
import Derived.Test.YthniflakjkbpiaaQ0
namespace Go.Proofs.Ythniflakjkbpiaa
open Go Go.Ab
set_option linter.unusedSimpArgs false
set_option linter.unusedVariables false
theorem words_nat : Words Try.prog 24 4 := words_array tf24_u (by kernel_rfl : Try.prog.underlying 22 = some (.int .u64)) (by kernel_rfl) (by kernel_rfl)
theorem words_pt : Words Try.prog 53 (4 + 4) := by
  have h1 : (Try.prog.underlying 53).map (fun d => match d with | .struct fs => (fs.size, fs[0]?.map (fun f => (f.type, f.offset)), fs[1]?.map (fun f => (f.type, f.offset))) | _ => (0, none, none)) = some (2, some (24, 0), some (24, 4)) := by kernel_rfl
  obtain ⟨d, hd, h2⟩ := Option.map_eq_some_iff.1 h1
  cases d with
  | struct fs =>
    simp only [Prod.mk.injEq] at h2
    obtain ⟨hs, h3, h4⟩ := h2
    obtain ⟨f, hf, h5⟩ := Option.map_eq_some_iff.1 h3
    obtain ⟨g, hg, h6⟩ := Option.map_eq_some_iff.1 h4
    simp only [Prod.mk.injEq] at h5 h6
    exact words_two hd hs hf hg h5.2 h6.2 (by rw [h5.1]; exact words_nat) (by rw [h6.1]; exact words_nat) (by kernel_rfl)
  | _ => simp at h2
end Go.Proofs.Ythniflakjkbpiaa
