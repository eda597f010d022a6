/-
  No cell of these rows narrows 'for every input' (looked for: loops, veiled, ifaces, maps, wideKeys, modest, calm, conditions, laid).
  DERIVED. THE GIVEN ROWS OF THIS SEAT. 9 by the template 'for every input the law returns true; each argument reads behind the call as it read before'; 0 by the template 'total and deterministic' (their statements: YtpikjhpbldocnaaTotals.lean).
  GIVEN WITH THE SEED: the statements are not yours to turn. If you find one false, say at which input.
  Laid BY PROGRAM, IN A SANDBOX (cutbox-rows.mjs): the forced cells as the released guide's own fill.sh prints them over the translation 10d9c5d9e950e959… (all of the seat's roots in one cut). By AI agents, Wed Nov 11 2026. No macro, syntax, notation, axiom, sorry.
-/
import Derived.Test.YtpikjhpbldocnaaChecked
import GoSem.Claim
import GoSem.ClaimJoined
import GoSem.ClaimMapViews
import Derived.JoinedTies
import Derived.KernelRfl
namespace Go.Proofs.Ytpikjhpbldocnaa
/- THE CELL 'sum', in the pinned program and in every row, IS THE sha256 OF THE DUMP (.gsa) THAT YtpikjhpbldocnaaProg.lean LOADS. Nothing in Lean hashes anything: it is a label: what it is worth is what the hold of that sum in a sandbox is worth. -/
noncomputable def Try.pinned : Pinned := { name := "ytpikjhpbldocnaa", sum := "10d9c5d9e950e95966de31b2b892cbc96e19cbc68dc21e9a8efeb1af05f5ffb0", checked := Try.checked }
namespace Rows
def none {H : Type} : Left H := { results := [], args := [] }

/-- 'sortitionlaw01.LimbBits': WHATEVER THE INPUT: true; the input reads as it did. -/
def limbBitsSpec : ChangeSpec := { name := "limbBits", fn := fun _ => fun
  | [d1, d2, d3] => { results := [.lit (.bool true)], args := [d1, d2, d3] }
  | _ => none }
def limbBitsRow : OpenClaim := { program := "ytpikjhpbldocnaa", sum := "10d9c5d9e950e95966de31b2b892cbc96e19cbc68dc21e9a8efeb1af05f5ffb0", func := "sortition/sortitionlaw01.LimbBits", spec := "limbBits", inPlace := ["math/bits.Add64", "math/bits.Sub64"], apart := false }
def LimbBitsSaid : Prop := limbBitsRow.holds Try.pinned (OpenSpec.ofChange limbBitsSpec)

/-- ITS FALSE NEIGHBOUR: 'it returns false'. Refute it at one input. -/
def limbBitsWrong : ChangeSpec := { name := "limbBits", fn := fun _ => fun
  | [d1, d2, d3] => { results := [.lit (.bool false)], args := [d1, d2, d3] }
  | _ => none }
def LimbBitsWrongFalsely : Prop := limbBitsRow.holds Try.pinned (OpenSpec.ofChange limbBitsWrong)

/-- 'sortitionlaw01.LimbBack': WHATEVER THE INPUT: true; the input reads as it did. -/
def limbBackSpec : ChangeSpec := { name := "limbBack", fn := fun _ => fun
  | [d1, d2] => { results := [.lit (.bool true)], args := [d1, d2] }
  | _ => none }
def limbBackRow : OpenClaim := { program := "ytpikjhpbldocnaa", sum := "10d9c5d9e950e95966de31b2b892cbc96e19cbc68dc21e9a8efeb1af05f5ffb0", func := "sortition/sortitionlaw01.LimbBack", spec := "limbBack", inPlace := ["math/bits.Add64", "math/bits.Sub64"], apart := false }
def LimbBackSaid : Prop := limbBackRow.holds Try.pinned (OpenSpec.ofChange limbBackSpec)

/-- ITS FALSE NEIGHBOUR: 'it returns false'. Refute it at one input. -/
def limbBackWrong : ChangeSpec := { name := "limbBack", fn := fun _ => fun
  | [d1, d2] => { results := [.lit (.bool false)], args := [d1, d2] }
  | _ => none }
def LimbBackWrongFalsely : Prop := limbBackRow.holds Try.pinned (OpenSpec.ofChange limbBackWrong)

/-- 'sortitionlaw01.LimbMoved': WHATEVER THE INPUT: true; the input reads as it did. -/
def limbMovedSpec : ChangeSpec := { name := "limbMoved", fn := fun _ => fun
  | [d1, d2] => { results := [.lit (.bool true)], args := [d1, d2] }
  | _ => none }
def limbMovedRow : OpenClaim := { program := "ytpikjhpbldocnaa", sum := "10d9c5d9e950e95966de31b2b892cbc96e19cbc68dc21e9a8efeb1af05f5ffb0", func := "sortition/sortitionlaw01.LimbMoved", spec := "limbMoved", inPlace := ["math/bits.Add64", "math/bits.Sub64"], apart := false }
def LimbMovedSaid : Prop := limbMovedRow.holds Try.pinned (OpenSpec.ofChange limbMovedSpec)

/-- ITS FALSE NEIGHBOUR: 'it returns false'. Refute it at one input. -/
def limbMovedWrong : ChangeSpec := { name := "limbMoved", fn := fun _ => fun
  | [d1, d2] => { results := [.lit (.bool false)], args := [d1, d2] }
  | _ => none }
def LimbMovedWrongFalsely : Prop := limbMovedRow.holds Try.pinned (OpenSpec.ofChange limbMovedWrong)

/-- 'sortitionlaw01.LimbLong': WHATEVER THE INPUT: true; the input reads as it did. -/
def limbLongSpec : ChangeSpec := { name := "limbLong", fn := fun _ => fun
  | [d] => { results := [.lit (.bool true)], args := [d] }
  | _ => none }
def limbLongRow : OpenClaim := { program := "ytpikjhpbldocnaa", sum := "10d9c5d9e950e95966de31b2b892cbc96e19cbc68dc21e9a8efeb1af05f5ffb0", func := "sortition/sortitionlaw01.LimbLong", spec := "limbLong", inPlace := ["math/bits.Add64", "math/bits.Sub64"], apart := false }
def LimbLongSaid : Prop := limbLongRow.holds Try.pinned (OpenSpec.ofChange limbLongSpec)

/-- ITS FALSE NEIGHBOUR: 'it returns false'. Refute it at one input. -/
def limbLongWrong : ChangeSpec := { name := "limbLong", fn := fun _ => fun
  | [d] => { results := [.lit (.bool false)], args := [d] }
  | _ => none }
def LimbLongWrongFalsely : Prop := limbLongRow.holds Try.pinned (OpenSpec.ofChange limbLongWrong)

/-- 'sortitionlaw01.LimbOrder': WHATEVER THE INPUT: true; the input reads as it did. -/
def limbOrderSpec : ChangeSpec := { name := "limbOrder", fn := fun _ => fun
  | [d1, d2, d3] => { results := [.lit (.bool true)], args := [d1, d2, d3] }
  | _ => none }
def limbOrderRow : OpenClaim := { program := "ytpikjhpbldocnaa", sum := "10d9c5d9e950e95966de31b2b892cbc96e19cbc68dc21e9a8efeb1af05f5ffb0", func := "sortition/sortitionlaw01.LimbOrder", spec := "limbOrder", inPlace := ["math/bits.Add64", "math/bits.Sub64"], apart := false }
def LimbOrderSaid : Prop := limbOrderRow.holds Try.pinned (OpenSpec.ofChange limbOrderSpec)

/-- ITS FALSE NEIGHBOUR: 'it returns false'. Refute it at one input. -/
def limbOrderWrong : ChangeSpec := { name := "limbOrder", fn := fun _ => fun
  | [d1, d2, d3] => { results := [.lit (.bool false)], args := [d1, d2, d3] }
  | _ => none }
def LimbOrderWrongFalsely : Prop := limbOrderRow.holds Try.pinned (OpenSpec.ofChange limbOrderWrong)

/-- 'sortitionlaw01.LimbDivides': WHATEVER THE INPUT: true; the input reads as it did. -/
def limbDividesSpec : ChangeSpec := { name := "limbDivides", fn := fun _ => fun
  | [d1, d2, d3] => { results := [.lit (.bool true)], args := [d1, d2, d3] }
  | _ => none }
def limbDividesRow : OpenClaim := { program := "ytpikjhpbldocnaa", sum := "10d9c5d9e950e95966de31b2b892cbc96e19cbc68dc21e9a8efeb1af05f5ffb0", func := "sortition/sortitionlaw01.LimbDivides", spec := "limbDivides", inPlace := ["math/bits.Add64", "math/bits.Sub64"], apart := false }
def LimbDividesSaid : Prop := limbDividesRow.holds Try.pinned (OpenSpec.ofChange limbDividesSpec)

/-- ITS FALSE NEIGHBOUR: 'it returns false'. Refute it at one input. -/
def limbDividesWrong : ChangeSpec := { name := "limbDivides", fn := fun _ => fun
  | [d1, d2, d3] => { results := [.lit (.bool false)], args := [d1, d2, d3] }
  | _ => none }
def LimbDividesWrongFalsely : Prop := limbDividesRow.holds Try.pinned (OpenSpec.ofChange limbDividesWrong)

/-- 'sortitionlaw01.LimbBytes': WHATEVER THE INPUT: true; the input reads as it did. -/
def limbBytesSpec : ChangeSpec := { name := "limbBytes", fn := fun _ => fun
  | [d1, d2] => { results := [.lit (.bool true)], args := [d1, d2] }
  | _ => none }
def limbBytesRow : OpenClaim := { program := "ytpikjhpbldocnaa", sum := "10d9c5d9e950e95966de31b2b892cbc96e19cbc68dc21e9a8efeb1af05f5ffb0", func := "sortition/sortitionlaw01.LimbBytes", spec := "limbBytes", inPlace := ["math/bits.Add64", "math/bits.Sub64"], apart := false }
def LimbBytesSaid : Prop := limbBytesRow.holds Try.pinned (OpenSpec.ofChange limbBytesSpec)

/-- ITS FALSE NEIGHBOUR: 'it returns false'. Refute it at one input. -/
def limbBytesWrong : ChangeSpec := { name := "limbBytes", fn := fun _ => fun
  | [d1, d2] => { results := [.lit (.bool false)], args := [d1, d2] }
  | _ => none }
def LimbBytesWrongFalsely : Prop := limbBytesRow.holds Try.pinned (OpenSpec.ofChange limbBytesWrong)

/-- 'sortitionlaw01.LimbReckons': WHATEVER THE INPUT: true; the input reads as it did. -/
def limbReckonsSpec : ChangeSpec := { name := "limbReckons", fn := fun _ => fun
  | [d1, d2, d3] => { results := [.lit (.bool true)], args := [d1, d2, d3] }
  | _ => none }
def limbReckonsRow : OpenClaim := { program := "ytpikjhpbldocnaa", sum := "10d9c5d9e950e95966de31b2b892cbc96e19cbc68dc21e9a8efeb1af05f5ffb0", func := "sortition/sortitionlaw01.LimbReckons", spec := "limbReckons", inPlace := ["math/bits.Add64", "math/bits.Sub64"], apart := false }
def LimbReckonsSaid : Prop := limbReckonsRow.holds Try.pinned (OpenSpec.ofChange limbReckonsSpec)

/-- ITS FALSE NEIGHBOUR: 'it returns false'. Refute it at one input. -/
def limbReckonsWrong : ChangeSpec := { name := "limbReckons", fn := fun _ => fun
  | [d1, d2, d3] => { results := [.lit (.bool false)], args := [d1, d2, d3] }
  | _ => none }
def LimbReckonsWrongFalsely : Prop := limbReckonsRow.holds Try.pinned (OpenSpec.ofChange limbReckonsWrong)

/-- 'sortitionlaw01.LimbThrough': WHATEVER THE INPUT: true; the input reads as it did. -/
def limbThroughSpec : ChangeSpec := { name := "limbThrough", fn := fun _ => fun
  | [d1, d2, d3] => { results := [.lit (.bool true)], args := [d1, d2, d3] }
  | _ => none }
def limbThroughRow : OpenClaim := { program := "ytpikjhpbldocnaa", sum := "10d9c5d9e950e95966de31b2b892cbc96e19cbc68dc21e9a8efeb1af05f5ffb0", func := "sortition/sortitionlaw01.LimbThrough", spec := "limbThrough", inPlace := ["math/bits.Add64", "math/bits.Sub64"], apart := false }
def LimbThroughSaid : Prop := limbThroughRow.holds Try.pinned (OpenSpec.ofChange limbThroughSpec)

/-- ITS FALSE NEIGHBOUR: 'it returns false'. Refute it at one input. -/
def limbThroughWrong : ChangeSpec := { name := "limbThrough", fn := fun _ => fun
  | [d1, d2, d3] => { results := [.lit (.bool false)], args := [d1, d2, d3] }
  | _ => none }
def LimbThroughWrongFalsely : Prop := limbThroughRow.holds Try.pinned (OpenSpec.ofChange limbThroughWrong)

/- THE SECOND FORM. 'bulk': how many values and letters a reading holds, each counted each time it is reached (what is shared counts as often as it is met; a slice's spare places count too). A statement '..UptoSaid' is the law's where the arguments, and the package variables that the reading takes, are together of bulk at most 1048576: NARROWER than '..Said'. Prove '..Said' where nothing that the law and all that it calls make is longer than what came in: it says more and counts as full. Else prove '..UptoSaid'. A law counts once. -/
mutual
def uptoBulk {H : Type} : DataW H → Nat
  | .lit (.string bytes) => bytes.length + 1
  | .lit _ => 1
  | .nil => 1
  | .ptr d => uptoBulk d + 1
  | .slice elems spare => uptoBulkAll elems + uptoBulkAll spare + 1
  | .agg parts => uptoBulkAll parts + 1
  | .iface _ d => uptoBulk d + 1
  | .map entries => uptoBulkEntries entries + 1
  | .held _ => 1
def uptoBulkAll {H : Type} : List (DataW H) → Nat
  | [] => 0
  | d :: r => uptoBulk d + uptoBulkAll r
def uptoBulkEntries {H : Type} : List (Lit × DataW H) → Nat
  | [] => 0
  | x :: r => uptoBulkEntry x + uptoBulkEntries r
def uptoBulkEntry {H : Type} : Lit × DataW H → Nat
  | (.string bytes, d) => bytes.length + uptoBulk d + 1
  | (_, d) => uptoBulk d + 1
 end
def uptoSmall : (H : Type) → List (DataW H) → Bool := fun _ ds => decide (uptoBulkAll ds ≤ 1048576)
def OpenSpec.upto (s : _root_.Go.ChangeSpec) : _root_.Go.OpenSpec := { _root_.Go.OpenSpec.ofChange s with cond := some uptoSmall }

/-- 'sortitionlaw01.LimbBits', WHERE WHAT IT READS IS OF BULK AT MOST 1048576: true; the input reads as it did. -/
def limbBitsUptoRow : OpenClaim := { program := "ytpikjhpbldocnaa", sum := "10d9c5d9e950e95966de31b2b892cbc96e19cbc68dc21e9a8efeb1af05f5ffb0", func := "sortition/sortitionlaw01.LimbBits", spec := "limbBits", inPlace := ["math/bits.Add64", "math/bits.Sub64"], apart := false, narrowed := true }
def LimbBitsUptoSaid : Prop := limbBitsUptoRow.holds Try.pinned (OpenSpec.upto limbBitsSpec)

/-- 'sortitionlaw01.LimbBack', WHERE WHAT IT READS IS OF BULK AT MOST 1048576: true; the input reads as it did. -/
def limbBackUptoRow : OpenClaim := { program := "ytpikjhpbldocnaa", sum := "10d9c5d9e950e95966de31b2b892cbc96e19cbc68dc21e9a8efeb1af05f5ffb0", func := "sortition/sortitionlaw01.LimbBack", spec := "limbBack", inPlace := ["math/bits.Add64", "math/bits.Sub64"], apart := false, narrowed := true }
def LimbBackUptoSaid : Prop := limbBackUptoRow.holds Try.pinned (OpenSpec.upto limbBackSpec)

/-- 'sortitionlaw01.LimbMoved', WHERE WHAT IT READS IS OF BULK AT MOST 1048576: true; the input reads as it did. -/
def limbMovedUptoRow : OpenClaim := { program := "ytpikjhpbldocnaa", sum := "10d9c5d9e950e95966de31b2b892cbc96e19cbc68dc21e9a8efeb1af05f5ffb0", func := "sortition/sortitionlaw01.LimbMoved", spec := "limbMoved", inPlace := ["math/bits.Add64", "math/bits.Sub64"], apart := false, narrowed := true }
def LimbMovedUptoSaid : Prop := limbMovedUptoRow.holds Try.pinned (OpenSpec.upto limbMovedSpec)

/-- 'sortitionlaw01.LimbLong', WHERE WHAT IT READS IS OF BULK AT MOST 1048576: true; the input reads as it did. -/
def limbLongUptoRow : OpenClaim := { program := "ytpikjhpbldocnaa", sum := "10d9c5d9e950e95966de31b2b892cbc96e19cbc68dc21e9a8efeb1af05f5ffb0", func := "sortition/sortitionlaw01.LimbLong", spec := "limbLong", inPlace := ["math/bits.Add64", "math/bits.Sub64"], apart := false, narrowed := true }
def LimbLongUptoSaid : Prop := limbLongUptoRow.holds Try.pinned (OpenSpec.upto limbLongSpec)

/-- 'sortitionlaw01.LimbOrder', WHERE WHAT IT READS IS OF BULK AT MOST 1048576: true; the input reads as it did. -/
def limbOrderUptoRow : OpenClaim := { program := "ytpikjhpbldocnaa", sum := "10d9c5d9e950e95966de31b2b892cbc96e19cbc68dc21e9a8efeb1af05f5ffb0", func := "sortition/sortitionlaw01.LimbOrder", spec := "limbOrder", inPlace := ["math/bits.Add64", "math/bits.Sub64"], apart := false, narrowed := true }
def LimbOrderUptoSaid : Prop := limbOrderUptoRow.holds Try.pinned (OpenSpec.upto limbOrderSpec)

/-- 'sortitionlaw01.LimbDivides', WHERE WHAT IT READS IS OF BULK AT MOST 1048576: true; the input reads as it did. -/
def limbDividesUptoRow : OpenClaim := { program := "ytpikjhpbldocnaa", sum := "10d9c5d9e950e95966de31b2b892cbc96e19cbc68dc21e9a8efeb1af05f5ffb0", func := "sortition/sortitionlaw01.LimbDivides", spec := "limbDivides", inPlace := ["math/bits.Add64", "math/bits.Sub64"], apart := false, narrowed := true }
def LimbDividesUptoSaid : Prop := limbDividesUptoRow.holds Try.pinned (OpenSpec.upto limbDividesSpec)

/-- 'sortitionlaw01.LimbBytes', WHERE WHAT IT READS IS OF BULK AT MOST 1048576: true; the input reads as it did. -/
def limbBytesUptoRow : OpenClaim := { program := "ytpikjhpbldocnaa", sum := "10d9c5d9e950e95966de31b2b892cbc96e19cbc68dc21e9a8efeb1af05f5ffb0", func := "sortition/sortitionlaw01.LimbBytes", spec := "limbBytes", inPlace := ["math/bits.Add64", "math/bits.Sub64"], apart := false, narrowed := true }
def LimbBytesUptoSaid : Prop := limbBytesUptoRow.holds Try.pinned (OpenSpec.upto limbBytesSpec)

/-- 'sortitionlaw01.LimbReckons', WHERE WHAT IT READS IS OF BULK AT MOST 1048576: true; the input reads as it did. -/
def limbReckonsUptoRow : OpenClaim := { program := "ytpikjhpbldocnaa", sum := "10d9c5d9e950e95966de31b2b892cbc96e19cbc68dc21e9a8efeb1af05f5ffb0", func := "sortition/sortitionlaw01.LimbReckons", spec := "limbReckons", inPlace := ["math/bits.Add64", "math/bits.Sub64"], apart := false, narrowed := true }
def LimbReckonsUptoSaid : Prop := limbReckonsUptoRow.holds Try.pinned (OpenSpec.upto limbReckonsSpec)

/-- 'sortitionlaw01.LimbThrough', WHERE WHAT IT READS IS OF BULK AT MOST 1048576: true; the input reads as it did. -/
def limbThroughUptoRow : OpenClaim := { program := "ytpikjhpbldocnaa", sum := "10d9c5d9e950e95966de31b2b892cbc96e19cbc68dc21e9a8efeb1af05f5ffb0", func := "sortition/sortitionlaw01.LimbThrough", spec := "limbThrough", inPlace := ["math/bits.Add64", "math/bits.Sub64"], apart := false, narrowed := true }
def LimbThroughUptoSaid : Prop := limbThroughUptoRow.holds Try.pinned (OpenSpec.upto limbThroughSpec)

end Rows
end Go.Proofs.Ytpikjhpbldocnaa
