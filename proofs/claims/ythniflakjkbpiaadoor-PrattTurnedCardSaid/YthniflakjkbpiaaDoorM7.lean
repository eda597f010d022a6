/-
  Package mont's statements: their code.
-/
import Derived.Test.YthniflakjkbpiaaDoorAb26
import Derived.Test.YthniflakjkbpiaaDoorM6b
import Derived.Test.YthniflakjkbpiaaDoorKM
import Derived.Test.YthniflakjkbpiaaDoorKR
namespace Go.Proofs.YthniflakjkbpiaaDoor
open Go Go.Ab
set_option linter.unusedSimpArgs false
set_option linter.unusedVariables false
set_option linter.defProp false
set_option maxHeartbeats 20000000
set_option maxRecDepth 100000

theorem OddM.msub_lt {m x y : Nat} (h : OddM m) : msub m x y < 2 ^ 256 := h.mod_lt
theorem odd13 : OddM 13 := ⟨by decide, by decide, by decide⟩

end Go.Proofs.YthniflakjkbpiaaDoor
