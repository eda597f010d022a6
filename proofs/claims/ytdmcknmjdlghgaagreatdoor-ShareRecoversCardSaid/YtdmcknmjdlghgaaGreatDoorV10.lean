/-
  What sortitionref02's functions say: modulo an odd number.
-/
import Derived.Test.YtdmcknmjdlghgaaGreatDoorV01
import Derived.Test.YtdmcknmjdlghgaaGreatDoorV02
import Derived.Test.YtdmcknmjdlghgaaGreatDoorV05
namespace Go.Proofs.YtdmcknmjdlghgaaGreatDoor
open Go Go.Ab
set_option linter.unusedSimpArgs false
set_option linter.unusedVariables false
set_option linter.defProp false
set_option maxHeartbeats 20000000
set_option maxRecDepth 100000
def msub (m x y : Nat) : Nat := (x % m + (m - y % m)) % m
end Go.Proofs.YtdmcknmjdlghgaaGreatDoor
