/-
  NARROWER THAN 'FOR EVERY INPUT', by the rows' own cells (each row's printed sentence says how): PrattProducts: laid · PrattSteps: laid · PrattChecks: laid · PrattPrime: laid · PrattMore: laid · PrattTurned: laid · PrattOdd: laid.
  DERIVED. THE GIVEN ROWS OF THIS SEAT. 7 by the template 'for every input the law returns true; each argument reads behind the call as it read before'; 0 by the template 'total and deterministic' (their statements: YthniflakjkbpiaaDoorTotals.lean).
  GIVEN WITH THE SEED: the statements are not yours to turn. If you find one false, say at which input.
  Laid BY PROGRAM, IN A SANDBOX (cutbox-rows.mjs): the forced cells as the released guide's own fill.sh prints them over the translation 17190261d7145c42… (all of the seat's roots in one cut). By AI agents, Wed Nov 11 2026. No macro, syntax, notation, axiom, sorry.
-/
import Derived.Test.YthniflakjkbpiaaDoorChecked
import GoSem.Claim
import GoSem.ClaimJoined
import GoSem.ClaimMapViews
import Derived.JoinedTies
import Derived.KernelRfl
namespace Go.Proofs.YthniflakjkbpiaaDoor
/- THE CELL 'sum', in the pinned program and in every row, IS THE sha256 OF THE DUMP (.gsa) THAT YthniflakjkbpiaaDoorProg.lean LOADS. Nothing in Lean hashes anything: it is a label: what it is worth is what the hold of that sum in a sandbox is worth. -/
noncomputable def Tryd.pinned : Pinned := { name := "ythniflakjkbpiaadoor", sum := "17190261d7145c428fd6769f4aad6fa0ed22afc28f9d248c80c1410351a24894", checked := Tryd.checked }
namespace Rows
def none {H : Type} : Left H := { results := [], args := [] }

/- WHAT THE LISTED PACKAGE-LEVEL VARIABLES READ AS WHEN THE CALL BEGINS. Each datum BY PROGRAM (the guide's laid-datum.mjs) off the statement by which the dump's own 'gosem.cut.vars' lays the variable. In a bare row this is a premise. The card (YthniflakjkbpiaaDoorCards.lean) ties it to the program's text. -/
def laid_sortition_pratt_least {H : Type} : DataW H := .agg [.lit (.int .u64 2), .lit (.int .u64 0), .lit (.int .u64 0), .lit (.int .u64 0)]

/-- 'sortitionlaw04.PrattProducts': WHATEVER THE INPUT: true; the input reads as it did. -/
def prattProductsSpec : ChangeSpec := { name := "prattProducts", fn := fun _ => fun
  | [d] => { results := [.lit (.bool true)], args := [d] }
  | _ => none }
def prattProductsRow : OpenClaim := { program := "ythniflakjkbpiaadoor", sum := "17190261d7145c428fd6769f4aad6fa0ed22afc28f9d248c80c1410351a24894", func := "sortition/sortitionlaw04.PrattProducts", spec := "prattProducts", inPlace := ["math/bits.Add64", "math/bits.Sub64", "sync/atomic.LoadUint32", "(*internal/sync.Mutex).Lock", "internal/race.Disable", "sync/atomic.CompareAndSwapInt32", "internal/race.Enable", "internal/race.Acquire", "(*internal/sync.Mutex).lockSlow", "internal/sync.runtime_canSpin", "internal/sync.runtime_doSpin", "internal/sync.throw", "internal/sync.runtime_nanotime", "internal/sync.runtime_SemacquireMutex", "sync/atomic.AddInt32", "(*internal/sync.Mutex).Unlock", "internal/race.ReleaseMerge", "(*internal/sync.Mutex).unlockSlow", "internal/sync.fatal", "internal/sync.runtime_Semrelease", "sync/atomic.StoreUint32"], unfollowed := true, recurses := true, named := ["sortition/pratt.least"], plainKeys := false, apart := false, laid := [("sortition/pratt.least", laid_sortition_pratt_least)] }
def PrattProductsSaid : Prop := prattProductsRow.holds Tryd.pinned (OpenSpec.ofChange prattProductsSpec)

/-- ITS FALSE NEIGHBOUR: 'it returns false'. Refute it at one input. -/
def prattProductsWrong : ChangeSpec := { name := "prattProducts", fn := fun _ => fun
  | [d] => { results := [.lit (.bool false)], args := [d] }
  | _ => none }
def PrattProductsWrongFalsely : Prop := prattProductsRow.holds Tryd.pinned (OpenSpec.ofChange prattProductsWrong)

/-- 'sortitionlaw04.PrattSteps': WHATEVER THE INPUT: true; the input reads as it did. -/
def prattStepsSpec : ChangeSpec := { name := "prattSteps", fn := fun _ => fun
  | [d] => { results := [.lit (.bool true)], args := [d] }
  | _ => none }
def prattStepsRow : OpenClaim := { program := "ythniflakjkbpiaadoor", sum := "17190261d7145c428fd6769f4aad6fa0ed22afc28f9d248c80c1410351a24894", func := "sortition/sortitionlaw04.PrattSteps", spec := "prattSteps", inPlace := ["math/bits.Add64", "math/bits.Sub64", "sync/atomic.LoadUint32", "(*internal/sync.Mutex).Lock", "internal/race.Disable", "sync/atomic.CompareAndSwapInt32", "internal/race.Enable", "internal/race.Acquire", "(*internal/sync.Mutex).lockSlow", "internal/sync.runtime_canSpin", "internal/sync.runtime_doSpin", "internal/sync.throw", "internal/sync.runtime_nanotime", "internal/sync.runtime_SemacquireMutex", "sync/atomic.AddInt32", "(*internal/sync.Mutex).Unlock", "internal/race.ReleaseMerge", "(*internal/sync.Mutex).unlockSlow", "internal/sync.fatal", "internal/sync.runtime_Semrelease", "sync/atomic.StoreUint32"], unfollowed := true, recurses := true, named := ["sortition/pratt.least"], plainKeys := false, apart := false, laid := [("sortition/pratt.least", laid_sortition_pratt_least)] }
def PrattStepsSaid : Prop := prattStepsRow.holds Tryd.pinned (OpenSpec.ofChange prattStepsSpec)

/-- ITS FALSE NEIGHBOUR: 'it returns false'. Refute it at one input. -/
def prattStepsWrong : ChangeSpec := { name := "prattSteps", fn := fun _ => fun
  | [d] => { results := [.lit (.bool false)], args := [d] }
  | _ => none }
def PrattStepsWrongFalsely : Prop := prattStepsRow.holds Tryd.pinned (OpenSpec.ofChange prattStepsWrong)

/-- 'sortitionlaw04.PrattChecks': WHATEVER THE INPUT: true; the input reads as it did. -/
def prattChecksSpec : ChangeSpec := { name := "prattChecks", fn := fun _ => fun
  | [d1, d2] => { results := [.lit (.bool true)], args := [d1, d2] }
  | _ => none }
def prattChecksRow : OpenClaim := { program := "ythniflakjkbpiaadoor", sum := "17190261d7145c428fd6769f4aad6fa0ed22afc28f9d248c80c1410351a24894", func := "sortition/sortitionlaw04.PrattChecks", spec := "prattChecks", inPlace := ["math/bits.Add64", "math/bits.Sub64", "sync/atomic.LoadUint32", "(*internal/sync.Mutex).Lock", "internal/race.Disable", "sync/atomic.CompareAndSwapInt32", "internal/race.Enable", "internal/race.Acquire", "(*internal/sync.Mutex).lockSlow", "internal/sync.runtime_canSpin", "internal/sync.runtime_doSpin", "internal/sync.throw", "internal/sync.runtime_nanotime", "internal/sync.runtime_SemacquireMutex", "sync/atomic.AddInt32", "(*internal/sync.Mutex).Unlock", "internal/race.ReleaseMerge", "(*internal/sync.Mutex).unlockSlow", "internal/sync.fatal", "internal/sync.runtime_Semrelease", "sync/atomic.StoreUint32"], unfollowed := true, recurses := true, named := ["sortition/pratt.least"], plainKeys := false, apart := false, laid := [("sortition/pratt.least", laid_sortition_pratt_least)] }
def PrattChecksSaid : Prop := prattChecksRow.holds Tryd.pinned (OpenSpec.ofChange prattChecksSpec)

/-- ITS FALSE NEIGHBOUR: 'it returns false'. Refute it at one input. -/
def prattChecksWrong : ChangeSpec := { name := "prattChecks", fn := fun _ => fun
  | [d1, d2] => { results := [.lit (.bool false)], args := [d1, d2] }
  | _ => none }
def PrattChecksWrongFalsely : Prop := prattChecksRow.holds Tryd.pinned (OpenSpec.ofChange prattChecksWrong)

/-- 'sortitionlaw04.PrattPrime': WHATEVER THE INPUT: true; the input reads as it did. -/
def prattPrimeSpec : ChangeSpec := { name := "prattPrime", fn := fun _ => fun
  | [d1, d2] => { results := [.lit (.bool true)], args := [d1, d2] }
  | _ => none }
def prattPrimeRow : OpenClaim := { program := "ythniflakjkbpiaadoor", sum := "17190261d7145c428fd6769f4aad6fa0ed22afc28f9d248c80c1410351a24894", func := "sortition/sortitionlaw04.PrattPrime", spec := "prattPrime", inPlace := ["math/bits.Add64", "math/bits.Sub64", "sync/atomic.LoadUint32", "(*internal/sync.Mutex).Lock", "internal/race.Disable", "sync/atomic.CompareAndSwapInt32", "internal/race.Enable", "internal/race.Acquire", "(*internal/sync.Mutex).lockSlow", "internal/sync.runtime_canSpin", "internal/sync.runtime_doSpin", "internal/sync.throw", "internal/sync.runtime_nanotime", "internal/sync.runtime_SemacquireMutex", "sync/atomic.AddInt32", "(*internal/sync.Mutex).Unlock", "internal/race.ReleaseMerge", "(*internal/sync.Mutex).unlockSlow", "internal/sync.fatal", "internal/sync.runtime_Semrelease", "sync/atomic.StoreUint32"], unfollowed := true, recurses := true, named := ["sortition/pratt.least"], plainKeys := false, apart := false, laid := [("sortition/pratt.least", laid_sortition_pratt_least)] }
def PrattPrimeSaid : Prop := prattPrimeRow.holds Tryd.pinned (OpenSpec.ofChange prattPrimeSpec)

/-- ITS FALSE NEIGHBOUR: 'it returns false'. Refute it at one input. -/
def prattPrimeWrong : ChangeSpec := { name := "prattPrime", fn := fun _ => fun
  | [d1, d2] => { results := [.lit (.bool false)], args := [d1, d2] }
  | _ => none }
def PrattPrimeWrongFalsely : Prop := prattPrimeRow.holds Tryd.pinned (OpenSpec.ofChange prattPrimeWrong)

/-- 'sortitionlaw04.PrattMore': WHATEVER THE INPUT: true; the input reads as it did. -/
def prattMoreSpec : ChangeSpec := { name := "prattMore", fn := fun _ => fun
  | [d1, d2, d3] => { results := [.lit (.bool true)], args := [d1, d2, d3] }
  | _ => none }
def prattMoreRow : OpenClaim := { program := "ythniflakjkbpiaadoor", sum := "17190261d7145c428fd6769f4aad6fa0ed22afc28f9d248c80c1410351a24894", func := "sortition/sortitionlaw04.PrattMore", spec := "prattMore", inPlace := ["math/bits.Add64", "math/bits.Sub64", "sync/atomic.LoadUint32", "(*internal/sync.Mutex).Lock", "internal/race.Disable", "sync/atomic.CompareAndSwapInt32", "internal/race.Enable", "internal/race.Acquire", "(*internal/sync.Mutex).lockSlow", "internal/sync.runtime_canSpin", "internal/sync.runtime_doSpin", "internal/sync.throw", "internal/sync.runtime_nanotime", "internal/sync.runtime_SemacquireMutex", "sync/atomic.AddInt32", "(*internal/sync.Mutex).Unlock", "internal/race.ReleaseMerge", "(*internal/sync.Mutex).unlockSlow", "internal/sync.fatal", "internal/sync.runtime_Semrelease", "sync/atomic.StoreUint32"], unfollowed := true, recurses := true, named := ["sortition/pratt.least"], plainKeys := false, apart := false, laid := [("sortition/pratt.least", laid_sortition_pratt_least)] }
def PrattMoreSaid : Prop := prattMoreRow.holds Tryd.pinned (OpenSpec.ofChange prattMoreSpec)

/-- ITS FALSE NEIGHBOUR: 'it returns false'. Refute it at one input. -/
def prattMoreWrong : ChangeSpec := { name := "prattMore", fn := fun _ => fun
  | [d1, d2, d3] => { results := [.lit (.bool false)], args := [d1, d2, d3] }
  | _ => none }
def PrattMoreWrongFalsely : Prop := prattMoreRow.holds Tryd.pinned (OpenSpec.ofChange prattMoreWrong)

/-- 'sortitionlaw04.PrattTurned': WHATEVER THE INPUT: true; the input reads as it did. -/
def prattTurnedSpec : ChangeSpec := { name := "prattTurned", fn := fun _ => fun
  | [d] => { results := [.lit (.bool true)], args := [d] }
  | _ => none }
def prattTurnedRow : OpenClaim := { program := "ythniflakjkbpiaadoor", sum := "17190261d7145c428fd6769f4aad6fa0ed22afc28f9d248c80c1410351a24894", func := "sortition/sortitionlaw04.PrattTurned", spec := "prattTurned", inPlace := ["math/bits.Add64", "math/bits.Sub64", "sync/atomic.LoadUint32", "(*internal/sync.Mutex).Lock", "internal/race.Disable", "sync/atomic.CompareAndSwapInt32", "internal/race.Enable", "internal/race.Acquire", "(*internal/sync.Mutex).lockSlow", "internal/sync.runtime_canSpin", "internal/sync.runtime_doSpin", "internal/sync.throw", "internal/sync.runtime_nanotime", "internal/sync.runtime_SemacquireMutex", "sync/atomic.AddInt32", "(*internal/sync.Mutex).Unlock", "internal/race.ReleaseMerge", "(*internal/sync.Mutex).unlockSlow", "internal/sync.fatal", "internal/sync.runtime_Semrelease", "sync/atomic.StoreUint32"], unfollowed := true, recurses := true, named := ["sortition/pratt.least"], plainKeys := false, apart := false, laid := [("sortition/pratt.least", laid_sortition_pratt_least)] }
def PrattTurnedSaid : Prop := prattTurnedRow.holds Tryd.pinned (OpenSpec.ofChange prattTurnedSpec)

/-- ITS FALSE NEIGHBOUR: 'it returns false'. Refute it at one input. -/
def prattTurnedWrong : ChangeSpec := { name := "prattTurned", fn := fun _ => fun
  | [d] => { results := [.lit (.bool false)], args := [d] }
  | _ => none }
def PrattTurnedWrongFalsely : Prop := prattTurnedRow.holds Tryd.pinned (OpenSpec.ofChange prattTurnedWrong)

/-- 'sortitionlaw04.PrattOdd': WHATEVER THE INPUT: true; the input reads as it did. -/
def prattOddSpec : ChangeSpec := { name := "prattOdd", fn := fun _ => fun
  | [d1, d2] => { results := [.lit (.bool true)], args := [d1, d2] }
  | _ => none }
def prattOddRow : OpenClaim := { program := "ythniflakjkbpiaadoor", sum := "17190261d7145c428fd6769f4aad6fa0ed22afc28f9d248c80c1410351a24894", func := "sortition/sortitionlaw04.PrattOdd", spec := "prattOdd", inPlace := ["math/bits.Add64", "math/bits.Sub64", "sync/atomic.LoadUint32", "(*internal/sync.Mutex).Lock", "internal/race.Disable", "sync/atomic.CompareAndSwapInt32", "internal/race.Enable", "internal/race.Acquire", "(*internal/sync.Mutex).lockSlow", "internal/sync.runtime_canSpin", "internal/sync.runtime_doSpin", "internal/sync.throw", "internal/sync.runtime_nanotime", "internal/sync.runtime_SemacquireMutex", "sync/atomic.AddInt32", "(*internal/sync.Mutex).Unlock", "internal/race.ReleaseMerge", "(*internal/sync.Mutex).unlockSlow", "internal/sync.fatal", "internal/sync.runtime_Semrelease", "sync/atomic.StoreUint32"], unfollowed := true, recurses := true, named := ["sortition/pratt.least"], plainKeys := false, apart := false, laid := [("sortition/pratt.least", laid_sortition_pratt_least)] }
def PrattOddSaid : Prop := prattOddRow.holds Tryd.pinned (OpenSpec.ofChange prattOddSpec)

/-- ITS FALSE NEIGHBOUR: 'it returns false'. Refute it at one input. -/
def prattOddWrong : ChangeSpec := { name := "prattOdd", fn := fun _ => fun
  | [d1, d2] => { results := [.lit (.bool false)], args := [d1, d2] }
  | _ => none }
def PrattOddWrongFalsely : Prop := prattOddRow.holds Tryd.pinned (OpenSpec.ofChange prattOddWrong)

/- THE SECOND FORM. 'bulk': how many values and letters a reading holds, each counted each time it is reached (what is shared counts as often as it is met; a slice's spare places count too). A statement '..UptoSaid' is the law's where the arguments, and the package variables that the reading takes, are together of bulk at most 1048576: NARROWER than '..Said'. Prove '..Said' where nothing that the law and all that it calls make is longer than what came in: it says more and counts as full. Else prove '..UptoSaid'. A law counts once. -/
mutual
def uptoBulk {H : Type} : DataW H → Nat
  | .lit (.string bytes) => bytes.length + 1
  | .lit _ => 1
  | .nil => 1
  | .ptr d => uptoBulk d + 1
  | .slice elems spare => uptoBulkAll elems + uptoBulkAll spare + 1
  | .agg parts => uptoBulkAll parts + 1
  | .iface _ d => uptoBulk d + 1
  | .map entries => uptoBulkEntries entries + 1
  | .held _ => 1
def uptoBulkAll {H : Type} : List (DataW H) → Nat
  | [] => 0
  | d :: r => uptoBulk d + uptoBulkAll r
def uptoBulkEntries {H : Type} : List (Lit × DataW H) → Nat
  | [] => 0
  | x :: r => uptoBulkEntry x + uptoBulkEntries r
def uptoBulkEntry {H : Type} : Lit × DataW H → Nat
  | (.string bytes, d) => bytes.length + uptoBulk d + 1
  | (_, d) => uptoBulk d + 1
 end
def uptoSmall : (H : Type) → List (DataW H) → Bool := fun _ ds => decide (uptoBulkAll ds ≤ 1048576)
def OpenSpec.upto (s : _root_.Go.ChangeSpec) : _root_.Go.OpenSpec := { _root_.Go.OpenSpec.ofChange s with cond := some uptoSmall }

/-- 'sortitionlaw04.PrattProducts', WHERE WHAT IT READS IS OF BULK AT MOST 1048576: true; the input reads as it did. -/
def prattProductsUptoRow : OpenClaim := { program := "ythniflakjkbpiaadoor", sum := "17190261d7145c428fd6769f4aad6fa0ed22afc28f9d248c80c1410351a24894", func := "sortition/sortitionlaw04.PrattProducts", spec := "prattProducts", inPlace := ["math/bits.Add64", "math/bits.Sub64", "sync/atomic.LoadUint32", "(*internal/sync.Mutex).Lock", "internal/race.Disable", "sync/atomic.CompareAndSwapInt32", "internal/race.Enable", "internal/race.Acquire", "(*internal/sync.Mutex).lockSlow", "internal/sync.runtime_canSpin", "internal/sync.runtime_doSpin", "internal/sync.throw", "internal/sync.runtime_nanotime", "internal/sync.runtime_SemacquireMutex", "sync/atomic.AddInt32", "(*internal/sync.Mutex).Unlock", "internal/race.ReleaseMerge", "(*internal/sync.Mutex).unlockSlow", "internal/sync.fatal", "internal/sync.runtime_Semrelease", "sync/atomic.StoreUint32"], unfollowed := true, recurses := true, named := ["sortition/pratt.least"], plainKeys := false, apart := false, laid := [("sortition/pratt.least", laid_sortition_pratt_least)], narrowed := true }
def PrattProductsUptoSaid : Prop := prattProductsUptoRow.holds Tryd.pinned (OpenSpec.upto prattProductsSpec)

/-- 'sortitionlaw04.PrattSteps', WHERE WHAT IT READS IS OF BULK AT MOST 1048576: true; the input reads as it did. -/
def prattStepsUptoRow : OpenClaim := { program := "ythniflakjkbpiaadoor", sum := "17190261d7145c428fd6769f4aad6fa0ed22afc28f9d248c80c1410351a24894", func := "sortition/sortitionlaw04.PrattSteps", spec := "prattSteps", inPlace := ["math/bits.Add64", "math/bits.Sub64", "sync/atomic.LoadUint32", "(*internal/sync.Mutex).Lock", "internal/race.Disable", "sync/atomic.CompareAndSwapInt32", "internal/race.Enable", "internal/race.Acquire", "(*internal/sync.Mutex).lockSlow", "internal/sync.runtime_canSpin", "internal/sync.runtime_doSpin", "internal/sync.throw", "internal/sync.runtime_nanotime", "internal/sync.runtime_SemacquireMutex", "sync/atomic.AddInt32", "(*internal/sync.Mutex).Unlock", "internal/race.ReleaseMerge", "(*internal/sync.Mutex).unlockSlow", "internal/sync.fatal", "internal/sync.runtime_Semrelease", "sync/atomic.StoreUint32"], unfollowed := true, recurses := true, named := ["sortition/pratt.least"], plainKeys := false, apart := false, laid := [("sortition/pratt.least", laid_sortition_pratt_least)], narrowed := true }
def PrattStepsUptoSaid : Prop := prattStepsUptoRow.holds Tryd.pinned (OpenSpec.upto prattStepsSpec)

/-- 'sortitionlaw04.PrattChecks', WHERE WHAT IT READS IS OF BULK AT MOST 1048576: true; the input reads as it did. -/
def prattChecksUptoRow : OpenClaim := { program := "ythniflakjkbpiaadoor", sum := "17190261d7145c428fd6769f4aad6fa0ed22afc28f9d248c80c1410351a24894", func := "sortition/sortitionlaw04.PrattChecks", spec := "prattChecks", inPlace := ["math/bits.Add64", "math/bits.Sub64", "sync/atomic.LoadUint32", "(*internal/sync.Mutex).Lock", "internal/race.Disable", "sync/atomic.CompareAndSwapInt32", "internal/race.Enable", "internal/race.Acquire", "(*internal/sync.Mutex).lockSlow", "internal/sync.runtime_canSpin", "internal/sync.runtime_doSpin", "internal/sync.throw", "internal/sync.runtime_nanotime", "internal/sync.runtime_SemacquireMutex", "sync/atomic.AddInt32", "(*internal/sync.Mutex).Unlock", "internal/race.ReleaseMerge", "(*internal/sync.Mutex).unlockSlow", "internal/sync.fatal", "internal/sync.runtime_Semrelease", "sync/atomic.StoreUint32"], unfollowed := true, recurses := true, named := ["sortition/pratt.least"], plainKeys := false, apart := false, laid := [("sortition/pratt.least", laid_sortition_pratt_least)], narrowed := true }
def PrattChecksUptoSaid : Prop := prattChecksUptoRow.holds Tryd.pinned (OpenSpec.upto prattChecksSpec)

/-- 'sortitionlaw04.PrattPrime', WHERE WHAT IT READS IS OF BULK AT MOST 1048576: true; the input reads as it did. -/
def prattPrimeUptoRow : OpenClaim := { program := "ythniflakjkbpiaadoor", sum := "17190261d7145c428fd6769f4aad6fa0ed22afc28f9d248c80c1410351a24894", func := "sortition/sortitionlaw04.PrattPrime", spec := "prattPrime", inPlace := ["math/bits.Add64", "math/bits.Sub64", "sync/atomic.LoadUint32", "(*internal/sync.Mutex).Lock", "internal/race.Disable", "sync/atomic.CompareAndSwapInt32", "internal/race.Enable", "internal/race.Acquire", "(*internal/sync.Mutex).lockSlow", "internal/sync.runtime_canSpin", "internal/sync.runtime_doSpin", "internal/sync.throw", "internal/sync.runtime_nanotime", "internal/sync.runtime_SemacquireMutex", "sync/atomic.AddInt32", "(*internal/sync.Mutex).Unlock", "internal/race.ReleaseMerge", "(*internal/sync.Mutex).unlockSlow", "internal/sync.fatal", "internal/sync.runtime_Semrelease", "sync/atomic.StoreUint32"], unfollowed := true, recurses := true, named := ["sortition/pratt.least"], plainKeys := false, apart := false, laid := [("sortition/pratt.least", laid_sortition_pratt_least)], narrowed := true }
def PrattPrimeUptoSaid : Prop := prattPrimeUptoRow.holds Tryd.pinned (OpenSpec.upto prattPrimeSpec)

/-- 'sortitionlaw04.PrattMore', WHERE WHAT IT READS IS OF BULK AT MOST 1048576: true; the input reads as it did. -/
def prattMoreUptoRow : OpenClaim := { program := "ythniflakjkbpiaadoor", sum := "17190261d7145c428fd6769f4aad6fa0ed22afc28f9d248c80c1410351a24894", func := "sortition/sortitionlaw04.PrattMore", spec := "prattMore", inPlace := ["math/bits.Add64", "math/bits.Sub64", "sync/atomic.LoadUint32", "(*internal/sync.Mutex).Lock", "internal/race.Disable", "sync/atomic.CompareAndSwapInt32", "internal/race.Enable", "internal/race.Acquire", "(*internal/sync.Mutex).lockSlow", "internal/sync.runtime_canSpin", "internal/sync.runtime_doSpin", "internal/sync.throw", "internal/sync.runtime_nanotime", "internal/sync.runtime_SemacquireMutex", "sync/atomic.AddInt32", "(*internal/sync.Mutex).Unlock", "internal/race.ReleaseMerge", "(*internal/sync.Mutex).unlockSlow", "internal/sync.fatal", "internal/sync.runtime_Semrelease", "sync/atomic.StoreUint32"], unfollowed := true, recurses := true, named := ["sortition/pratt.least"], plainKeys := false, apart := false, laid := [("sortition/pratt.least", laid_sortition_pratt_least)], narrowed := true }
def PrattMoreUptoSaid : Prop := prattMoreUptoRow.holds Tryd.pinned (OpenSpec.upto prattMoreSpec)

/-- 'sortitionlaw04.PrattTurned', WHERE WHAT IT READS IS OF BULK AT MOST 1048576: true; the input reads as it did. -/
def prattTurnedUptoRow : OpenClaim := { program := "ythniflakjkbpiaadoor", sum := "17190261d7145c428fd6769f4aad6fa0ed22afc28f9d248c80c1410351a24894", func := "sortition/sortitionlaw04.PrattTurned", spec := "prattTurned", inPlace := ["math/bits.Add64", "math/bits.Sub64", "sync/atomic.LoadUint32", "(*internal/sync.Mutex).Lock", "internal/race.Disable", "sync/atomic.CompareAndSwapInt32", "internal/race.Enable", "internal/race.Acquire", "(*internal/sync.Mutex).lockSlow", "internal/sync.runtime_canSpin", "internal/sync.runtime_doSpin", "internal/sync.throw", "internal/sync.runtime_nanotime", "internal/sync.runtime_SemacquireMutex", "sync/atomic.AddInt32", "(*internal/sync.Mutex).Unlock", "internal/race.ReleaseMerge", "(*internal/sync.Mutex).unlockSlow", "internal/sync.fatal", "internal/sync.runtime_Semrelease", "sync/atomic.StoreUint32"], unfollowed := true, recurses := true, named := ["sortition/pratt.least"], plainKeys := false, apart := false, laid := [("sortition/pratt.least", laid_sortition_pratt_least)], narrowed := true }
def PrattTurnedUptoSaid : Prop := prattTurnedUptoRow.holds Tryd.pinned (OpenSpec.upto prattTurnedSpec)

/-- 'sortitionlaw04.PrattOdd', WHERE WHAT IT READS IS OF BULK AT MOST 1048576: true; the input reads as it did. -/
def prattOddUptoRow : OpenClaim := { program := "ythniflakjkbpiaadoor", sum := "17190261d7145c428fd6769f4aad6fa0ed22afc28f9d248c80c1410351a24894", func := "sortition/sortitionlaw04.PrattOdd", spec := "prattOdd", inPlace := ["math/bits.Add64", "math/bits.Sub64", "sync/atomic.LoadUint32", "(*internal/sync.Mutex).Lock", "internal/race.Disable", "sync/atomic.CompareAndSwapInt32", "internal/race.Enable", "internal/race.Acquire", "(*internal/sync.Mutex).lockSlow", "internal/sync.runtime_canSpin", "internal/sync.runtime_doSpin", "internal/sync.throw", "internal/sync.runtime_nanotime", "internal/sync.runtime_SemacquireMutex", "sync/atomic.AddInt32", "(*internal/sync.Mutex).Unlock", "internal/race.ReleaseMerge", "(*internal/sync.Mutex).unlockSlow", "internal/sync.fatal", "internal/sync.runtime_Semrelease", "sync/atomic.StoreUint32"], unfollowed := true, recurses := true, named := ["sortition/pratt.least"], plainKeys := false, apart := false, laid := [("sortition/pratt.least", laid_sortition_pratt_least)], narrowed := true }
def PrattOddUptoSaid : Prop := prattOddUptoRow.holds Tryd.pinned (OpenSpec.upto prattOddSpec)

end Rows
end Go.Proofs.YthniflakjkbpiaaDoor
