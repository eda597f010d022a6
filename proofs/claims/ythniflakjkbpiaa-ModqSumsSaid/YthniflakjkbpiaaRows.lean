/-
  No cell of these rows narrows 'for every input' (looked for: loops, veiled, ifaces, maps, wideKeys, modest, calm, conditions, laid).
  DERIVED. THE GIVEN ROWS OF THIS SEAT. 17 by the template 'for every input the law returns true; each argument reads behind the call as it read before'; 0 by the template 'total and deterministic' (their statements: YthniflakjkbpiaaTotals.lean).
  GIVEN WITH THE SEED: the statements are not yours to turn. If you find one false, say at which input.
  Laid BY PROGRAM, IN A SANDBOX (cutbox-rows.mjs): the forced cells as the released guide's own fill.sh prints them over the translation f2399deb30211036… (all of the seat's roots in one cut). By AI agents, Wed Nov 11 2026. No macro, syntax, notation, axiom, sorry.
-/
import Derived.Test.YthniflakjkbpiaaChecked
import GoSem.Claim
import GoSem.ClaimJoined
import GoSem.ClaimMapViews
import Derived.JoinedTies
import Derived.KernelRfl
namespace Go.Proofs.Ythniflakjkbpiaa
/- THE CELL 'sum', in the pinned program and in every row, IS THE sha256 OF THE DUMP (.gsa) THAT YthniflakjkbpiaaProg.lean LOADS. Nothing in Lean hashes anything: it is a label: what it is worth is what the hold of that sum in a sandbox is worth. -/
noncomputable def Try.pinned : Pinned := { name := "ythniflakjkbpiaa", sum := "f2399deb30211036a466fcede40490c22a69995a88d2afe6399689d232fb1802", checked := Try.checked }
namespace Rows
def none {H : Type} : Left H := { results := [], args := [] }

/-- 'sortitionlaw02.MontImages': WHATEVER THE INPUT: true; the input reads as it did. -/
def montImagesSpec : ChangeSpec := { name := "montImages", fn := fun _ => fun
  | [d1, d2, d3] => { results := [.lit (.bool true)], args := [d1, d2, d3] }
  | _ => none }
def montImagesRow : OpenClaim := { program := "ythniflakjkbpiaa", sum := "f2399deb30211036a466fcede40490c22a69995a88d2afe6399689d232fb1802", func := "sortition/sortitionlaw02.MontImages", spec := "montImages", inPlace := ["math/bits.Sub64", "math/bits.Add64", "sync/atomic.LoadUint32", "(*internal/sync.Mutex).Lock", "internal/race.Disable", "sync/atomic.CompareAndSwapInt32", "internal/race.Enable", "internal/race.Acquire", "(*internal/sync.Mutex).lockSlow", "internal/sync.runtime_canSpin", "internal/sync.runtime_doSpin", "internal/sync.throw", "internal/sync.runtime_nanotime", "internal/sync.runtime_SemacquireMutex", "sync/atomic.AddInt32", "(*internal/sync.Mutex).Unlock", "internal/race.ReleaseMerge", "(*internal/sync.Mutex).unlockSlow", "internal/sync.fatal", "internal/sync.runtime_Semrelease", "sync/atomic.StoreUint32"], unfollowed := true, recurses := true, apart := false }
def MontImagesSaid : Prop := montImagesRow.holds Try.pinned (OpenSpec.ofChange montImagesSpec)

/-- ITS FALSE NEIGHBOUR: 'it returns false'. Refute it at one input. -/
def montImagesWrong : ChangeSpec := { name := "montImages", fn := fun _ => fun
  | [d1, d2, d3] => { results := [.lit (.bool false)], args := [d1, d2, d3] }
  | _ => none }
def MontImagesWrongFalsely : Prop := montImagesRow.holds Try.pinned (OpenSpec.ofChange montImagesWrong)

/-- 'sortitionlaw02.MontPowers': WHATEVER THE INPUT: true; the input reads as it did. -/
def montPowersSpec : ChangeSpec := { name := "montPowers", fn := fun _ => fun
  | [d1, d2, d3] => { results := [.lit (.bool true)], args := [d1, d2, d3] }
  | _ => none }
def montPowersRow : OpenClaim := { program := "ythniflakjkbpiaa", sum := "f2399deb30211036a466fcede40490c22a69995a88d2afe6399689d232fb1802", func := "sortition/sortitionlaw02.MontPowers", spec := "montPowers", inPlace := ["math/bits.Sub64", "math/bits.Add64", "sync/atomic.LoadUint32", "(*internal/sync.Mutex).Lock", "internal/race.Disable", "sync/atomic.CompareAndSwapInt32", "internal/race.Enable", "internal/race.Acquire", "(*internal/sync.Mutex).lockSlow", "internal/sync.runtime_canSpin", "internal/sync.runtime_doSpin", "internal/sync.throw", "internal/sync.runtime_nanotime", "internal/sync.runtime_SemacquireMutex", "sync/atomic.AddInt32", "(*internal/sync.Mutex).Unlock", "internal/race.ReleaseMerge", "(*internal/sync.Mutex).unlockSlow", "internal/sync.fatal", "internal/sync.runtime_Semrelease", "sync/atomic.StoreUint32"], unfollowed := true, recurses := true, apart := false }
def MontPowersSaid : Prop := montPowersRow.holds Try.pinned (OpenSpec.ofChange montPowersSpec)

/-- ITS FALSE NEIGHBOUR: 'it returns false'. Refute it at one input. -/
def montPowersWrong : ChangeSpec := { name := "montPowers", fn := fun _ => fun
  | [d1, d2, d3] => { results := [.lit (.bool false)], args := [d1, d2, d3] }
  | _ => none }
def MontPowersWrongFalsely : Prop := montPowersRow.holds Try.pinned (OpenSpec.ofChange montPowersWrong)

/-- 'sortitionlaw02.MontPowersThrough': WHATEVER THE INPUT: true; the input reads as it did. -/
def montPowersThroughSpec : ChangeSpec := { name := "montPowersThrough", fn := fun _ => fun
  | [d1, d2, d3, d4] => { results := [.lit (.bool true)], args := [d1, d2, d3, d4] }
  | _ => none }
def montPowersThroughRow : OpenClaim := { program := "ythniflakjkbpiaa", sum := "f2399deb30211036a466fcede40490c22a69995a88d2afe6399689d232fb1802", func := "sortition/sortitionlaw02.MontPowersThrough", spec := "montPowersThrough", inPlace := ["math/bits.Sub64", "math/bits.Add64", "sync/atomic.LoadUint32", "(*internal/sync.Mutex).Lock", "internal/race.Disable", "sync/atomic.CompareAndSwapInt32", "internal/race.Enable", "internal/race.Acquire", "(*internal/sync.Mutex).lockSlow", "internal/sync.runtime_canSpin", "internal/sync.runtime_doSpin", "internal/sync.throw", "internal/sync.runtime_nanotime", "internal/sync.runtime_SemacquireMutex", "sync/atomic.AddInt32", "(*internal/sync.Mutex).Unlock", "internal/race.ReleaseMerge", "(*internal/sync.Mutex).unlockSlow", "internal/sync.fatal", "internal/sync.runtime_Semrelease", "sync/atomic.StoreUint32"], unfollowed := true, recurses := true, apart := false }
def MontPowersThroughSaid : Prop := montPowersThroughRow.holds Try.pinned (OpenSpec.ofChange montPowersThroughSpec)

/-- ITS FALSE NEIGHBOUR: 'it returns false'. Refute it at one input. -/
def montPowersThroughWrong : ChangeSpec := { name := "montPowersThrough", fn := fun _ => fun
  | [d1, d2, d3, d4] => { results := [.lit (.bool false)], args := [d1, d2, d3, d4] }
  | _ => none }
def MontPowersThroughWrongFalsely : Prop := montPowersThroughRow.holds Try.pinned (OpenSpec.ofChange montPowersThroughWrong)

/-- 'sortitionlaw02.MontBegins': WHATEVER THE INPUT: true; the input reads as it did. -/
def montBeginsSpec : ChangeSpec := { name := "montBegins", fn := fun _ => fun
  | [d] => { results := [.lit (.bool true)], args := [d] }
  | _ => none }
def montBeginsRow : OpenClaim := { program := "ythniflakjkbpiaa", sum := "f2399deb30211036a466fcede40490c22a69995a88d2afe6399689d232fb1802", func := "sortition/sortitionlaw02.MontBegins", spec := "montBegins", inPlace := ["math/bits.Sub64", "math/bits.Add64", "sync/atomic.LoadUint32", "(*internal/sync.Mutex).Lock", "internal/race.Disable", "sync/atomic.CompareAndSwapInt32", "internal/race.Enable", "internal/race.Acquire", "(*internal/sync.Mutex).lockSlow", "internal/sync.runtime_canSpin", "internal/sync.runtime_doSpin", "internal/sync.throw", "internal/sync.runtime_nanotime", "internal/sync.runtime_SemacquireMutex", "sync/atomic.AddInt32", "(*internal/sync.Mutex).Unlock", "internal/race.ReleaseMerge", "(*internal/sync.Mutex).unlockSlow", "internal/sync.fatal", "internal/sync.runtime_Semrelease", "sync/atomic.StoreUint32"], unfollowed := true, recurses := true, apart := false }
def MontBeginsSaid : Prop := montBeginsRow.holds Try.pinned (OpenSpec.ofChange montBeginsSpec)

/-- ITS FALSE NEIGHBOUR: 'it returns false'. Refute it at one input. -/
def montBeginsWrong : ChangeSpec := { name := "montBegins", fn := fun _ => fun
  | [d] => { results := [.lit (.bool false)], args := [d] }
  | _ => none }
def MontBeginsWrongFalsely : Prop := montBeginsRow.holds Try.pinned (OpenSpec.ofChange montBeginsWrong)

/-- 'sortitionlaw02.MontBack': WHATEVER THE INPUT: true; the input reads as it did. -/
def montBackSpec : ChangeSpec := { name := "montBack", fn := fun _ => fun
  | [d1, d2, d3] => { results := [.lit (.bool true)], args := [d1, d2, d3] }
  | _ => none }
def montBackRow : OpenClaim := { program := "ythniflakjkbpiaa", sum := "f2399deb30211036a466fcede40490c22a69995a88d2afe6399689d232fb1802", func := "sortition/sortitionlaw02.MontBack", spec := "montBack", inPlace := ["math/bits.Sub64", "math/bits.Add64", "sync/atomic.LoadUint32", "(*internal/sync.Mutex).Lock", "internal/race.Disable", "sync/atomic.CompareAndSwapInt32", "internal/race.Enable", "internal/race.Acquire", "(*internal/sync.Mutex).lockSlow", "internal/sync.runtime_canSpin", "internal/sync.runtime_doSpin", "internal/sync.throw", "internal/sync.runtime_nanotime", "internal/sync.runtime_SemacquireMutex", "sync/atomic.AddInt32", "(*internal/sync.Mutex).Unlock", "internal/race.ReleaseMerge", "(*internal/sync.Mutex).unlockSlow", "internal/sync.fatal", "internal/sync.runtime_Semrelease", "sync/atomic.StoreUint32"], unfollowed := true, recurses := true, apart := false }
def MontBackSaid : Prop := montBackRow.holds Try.pinned (OpenSpec.ofChange montBackSpec)

/-- ITS FALSE NEIGHBOUR: 'it returns false'. Refute it at one input. -/
def montBackWrong : ChangeSpec := { name := "montBack", fn := fun _ => fun
  | [d1, d2, d3] => { results := [.lit (.bool false)], args := [d1, d2, d3] }
  | _ => none }
def MontBackWrongFalsely : Prop := montBackRow.holds Try.pinned (OpenSpec.ofChange montBackWrong)

/-- 'sortitionlaw02.MontRing': WHATEVER THE INPUT: true; the input reads as it did. -/
def montRingSpec : ChangeSpec := { name := "montRing", fn := fun _ => fun
  | [d1, d2, d3, d4] => { results := [.lit (.bool true)], args := [d1, d2, d3, d4] }
  | _ => none }
def montRingRow : OpenClaim := { program := "ythniflakjkbpiaa", sum := "f2399deb30211036a466fcede40490c22a69995a88d2afe6399689d232fb1802", func := "sortition/sortitionlaw02.MontRing", spec := "montRing", inPlace := ["math/bits.Sub64", "math/bits.Add64", "sync/atomic.LoadUint32", "(*internal/sync.Mutex).Lock", "internal/race.Disable", "sync/atomic.CompareAndSwapInt32", "internal/race.Enable", "internal/race.Acquire", "(*internal/sync.Mutex).lockSlow", "internal/sync.runtime_canSpin", "internal/sync.runtime_doSpin", "internal/sync.throw", "internal/sync.runtime_nanotime", "internal/sync.runtime_SemacquireMutex", "sync/atomic.AddInt32", "(*internal/sync.Mutex).Unlock", "internal/race.ReleaseMerge", "(*internal/sync.Mutex).unlockSlow", "internal/sync.fatal", "internal/sync.runtime_Semrelease", "sync/atomic.StoreUint32"], unfollowed := true, recurses := true, apart := false }
def MontRingSaid : Prop := montRingRow.holds Try.pinned (OpenSpec.ofChange montRingSpec)

/-- ITS FALSE NEIGHBOUR: 'it returns false'. Refute it at one input. -/
def montRingWrong : ChangeSpec := { name := "montRing", fn := fun _ => fun
  | [d1, d2, d3, d4] => { results := [.lit (.bool false)], args := [d1, d2, d3, d4] }
  | _ => none }
def MontRingWrongFalsely : Prop := montRingRow.holds Try.pinned (OpenSpec.ofChange montRingWrong)

/-- 'sortitionlaw02.MontReckons': WHATEVER THE INPUT: true; the input reads as it did. -/
def montReckonsSpec : ChangeSpec := { name := "montReckons", fn := fun _ => fun
  | [d1, d2, d3] => { results := [.lit (.bool true)], args := [d1, d2, d3] }
  | _ => none }
def montReckonsRow : OpenClaim := { program := "ythniflakjkbpiaa", sum := "f2399deb30211036a466fcede40490c22a69995a88d2afe6399689d232fb1802", func := "sortition/sortitionlaw02.MontReckons", spec := "montReckons", inPlace := ["math/bits.Sub64", "math/bits.Add64", "sync/atomic.LoadUint32", "(*internal/sync.Mutex).Lock", "internal/race.Disable", "sync/atomic.CompareAndSwapInt32", "internal/race.Enable", "internal/race.Acquire", "(*internal/sync.Mutex).lockSlow", "internal/sync.runtime_canSpin", "internal/sync.runtime_doSpin", "internal/sync.throw", "internal/sync.runtime_nanotime", "internal/sync.runtime_SemacquireMutex", "sync/atomic.AddInt32", "(*internal/sync.Mutex).Unlock", "internal/race.ReleaseMerge", "(*internal/sync.Mutex).unlockSlow", "internal/sync.fatal", "internal/sync.runtime_Semrelease", "sync/atomic.StoreUint32"], unfollowed := true, recurses := true, apart := false }
def MontReckonsSaid : Prop := montReckonsRow.holds Try.pinned (OpenSpec.ofChange montReckonsSpec)

/-- ITS FALSE NEIGHBOUR: 'it returns false'. Refute it at one input. -/
def montReckonsWrong : ChangeSpec := { name := "montReckons", fn := fun _ => fun
  | [d1, d2, d3] => { results := [.lit (.bool false)], args := [d1, d2, d3] }
  | _ => none }
def MontReckonsWrongFalsely : Prop := montReckonsRow.holds Try.pinned (OpenSpec.ofChange montReckonsWrong)

/-- 'sortitionlaw02.MontSigns': WHATEVER THE INPUT: true; the input reads as it did. -/
def montSignsSpec : ChangeSpec := { name := "montSigns", fn := fun _ => fun
  | [d1, d2, d3] => { results := [.lit (.bool true)], args := [d1, d2, d3] }
  | _ => none }
def montSignsRow : OpenClaim := { program := "ythniflakjkbpiaa", sum := "f2399deb30211036a466fcede40490c22a69995a88d2afe6399689d232fb1802", func := "sortition/sortitionlaw02.MontSigns", spec := "montSigns", inPlace := ["math/bits.Sub64", "math/bits.Add64", "sync/atomic.LoadUint32", "(*internal/sync.Mutex).Lock", "internal/race.Disable", "sync/atomic.CompareAndSwapInt32", "internal/race.Enable", "internal/race.Acquire", "(*internal/sync.Mutex).lockSlow", "internal/sync.runtime_canSpin", "internal/sync.runtime_doSpin", "internal/sync.throw", "internal/sync.runtime_nanotime", "internal/sync.runtime_SemacquireMutex", "sync/atomic.AddInt32", "(*internal/sync.Mutex).Unlock", "internal/race.ReleaseMerge", "(*internal/sync.Mutex).unlockSlow", "internal/sync.fatal", "internal/sync.runtime_Semrelease", "sync/atomic.StoreUint32"], unfollowed := true, recurses := true, apart := false }
def MontSignsSaid : Prop := montSignsRow.holds Try.pinned (OpenSpec.ofChange montSignsSpec)

/-- ITS FALSE NEIGHBOUR: 'it returns false'. Refute it at one input. -/
def montSignsWrong : ChangeSpec := { name := "montSigns", fn := fun _ => fun
  | [d1, d2, d3] => { results := [.lit (.bool false)], args := [d1, d2, d3] }
  | _ => none }
def MontSignsWrongFalsely : Prop := montSignsRow.holds Try.pinned (OpenSpec.ofChange montSignsWrong)

/-- 'sortitionlaw03.ModqInverse': WHATEVER THE INPUT: true; the input reads as it did. -/
def modqInverseSpec : ChangeSpec := { name := "modqInverse", fn := fun _ => fun
  | [d1, d2, d3] => { results := [.lit (.bool true)], args := [d1, d2, d3] }
  | _ => none }
def modqInverseRow : OpenClaim := { program := "ythniflakjkbpiaa", sum := "f2399deb30211036a466fcede40490c22a69995a88d2afe6399689d232fb1802", func := "sortition/sortitionlaw03.ModqInverse", spec := "modqInverse", inPlace := ["math/bits.Sub64", "math/bits.Add64", "sync/atomic.LoadUint32", "(*internal/sync.Mutex).Lock", "internal/race.Disable", "sync/atomic.CompareAndSwapInt32", "internal/race.Enable", "internal/race.Acquire", "(*internal/sync.Mutex).lockSlow", "internal/sync.runtime_canSpin", "internal/sync.runtime_doSpin", "internal/sync.throw", "internal/sync.runtime_nanotime", "internal/sync.runtime_SemacquireMutex", "sync/atomic.AddInt32", "(*internal/sync.Mutex).Unlock", "internal/race.ReleaseMerge", "(*internal/sync.Mutex).unlockSlow", "internal/sync.fatal", "internal/sync.runtime_Semrelease", "sync/atomic.StoreUint32"], unfollowed := true, recurses := true, apart := false }
def ModqInverseSaid : Prop := modqInverseRow.holds Try.pinned (OpenSpec.ofChange modqInverseSpec)

/-- ITS FALSE NEIGHBOUR: 'it returns false'. Refute it at one input. -/
def modqInverseWrong : ChangeSpec := { name := "modqInverse", fn := fun _ => fun
  | [d1, d2, d3] => { results := [.lit (.bool false)], args := [d1, d2, d3] }
  | _ => none }
def ModqInverseWrongFalsely : Prop := modqInverseRow.holds Try.pinned (OpenSpec.ofChange modqInverseWrong)

/-- 'sortitionlaw03.ModqValues': WHATEVER THE INPUT: true; the input reads as it did. -/
def modqValuesSpec : ChangeSpec := { name := "modqValues", fn := fun _ => fun
  | [d1, d2, d3] => { results := [.lit (.bool true)], args := [d1, d2, d3] }
  | _ => none }
def modqValuesRow : OpenClaim := { program := "ythniflakjkbpiaa", sum := "f2399deb30211036a466fcede40490c22a69995a88d2afe6399689d232fb1802", func := "sortition/sortitionlaw03.ModqValues", spec := "modqValues", inPlace := ["math/bits.Sub64", "math/bits.Add64", "sync/atomic.LoadUint32", "(*internal/sync.Mutex).Lock", "internal/race.Disable", "sync/atomic.CompareAndSwapInt32", "internal/race.Enable", "internal/race.Acquire", "(*internal/sync.Mutex).lockSlow", "internal/sync.runtime_canSpin", "internal/sync.runtime_doSpin", "internal/sync.throw", "internal/sync.runtime_nanotime", "internal/sync.runtime_SemacquireMutex", "sync/atomic.AddInt32", "(*internal/sync.Mutex).Unlock", "internal/race.ReleaseMerge", "(*internal/sync.Mutex).unlockSlow", "internal/sync.fatal", "internal/sync.runtime_Semrelease", "sync/atomic.StoreUint32"], unfollowed := true, recurses := true, apart := false }
def ModqValuesSaid : Prop := modqValuesRow.holds Try.pinned (OpenSpec.ofChange modqValuesSpec)

/-- ITS FALSE NEIGHBOUR: 'it returns false'. Refute it at one input. -/
def modqValuesWrong : ChangeSpec := { name := "modqValues", fn := fun _ => fun
  | [d1, d2, d3] => { results := [.lit (.bool false)], args := [d1, d2, d3] }
  | _ => none }
def ModqValuesWrongFalsely : Prop := modqValuesRow.holds Try.pinned (OpenSpec.ofChange modqValuesWrong)

/-- 'sortitionlaw03.ModqWeights': WHATEVER THE INPUT: true; the input reads as it did. -/
def modqWeightsSpec : ChangeSpec := { name := "modqWeights", fn := fun _ => fun
  | [d1, d2] => { results := [.lit (.bool true)], args := [d1, d2] }
  | _ => none }
def modqWeightsRow : OpenClaim := { program := "ythniflakjkbpiaa", sum := "f2399deb30211036a466fcede40490c22a69995a88d2afe6399689d232fb1802", func := "sortition/sortitionlaw03.ModqWeights", spec := "modqWeights", inPlace := ["math/bits.Sub64", "math/bits.Add64", "sync/atomic.LoadUint32", "(*internal/sync.Mutex).Lock", "internal/race.Disable", "sync/atomic.CompareAndSwapInt32", "internal/race.Enable", "internal/race.Acquire", "(*internal/sync.Mutex).lockSlow", "internal/sync.runtime_canSpin", "internal/sync.runtime_doSpin", "internal/sync.throw", "internal/sync.runtime_nanotime", "internal/sync.runtime_SemacquireMutex", "sync/atomic.AddInt32", "(*internal/sync.Mutex).Unlock", "internal/race.ReleaseMerge", "(*internal/sync.Mutex).unlockSlow", "internal/sync.fatal", "internal/sync.runtime_Semrelease", "sync/atomic.StoreUint32"], unfollowed := true, recurses := true, apart := false }
def ModqWeightsSaid : Prop := modqWeightsRow.holds Try.pinned (OpenSpec.ofChange modqWeightsSpec)

/-- ITS FALSE NEIGHBOUR: 'it returns false'. Refute it at one input. -/
def modqWeightsWrong : ChangeSpec := { name := "modqWeights", fn := fun _ => fun
  | [d1, d2] => { results := [.lit (.bool false)], args := [d1, d2] }
  | _ => none }
def ModqWeightsWrongFalsely : Prop := modqWeightsRow.holds Try.pinned (OpenSpec.ofChange modqWeightsWrong)

/-- 'sortitionlaw03.ModqOne': WHATEVER THE INPUT: true; the input reads as it did. -/
def modqOneSpec : ChangeSpec := { name := "modqOne", fn := fun _ => fun
  | [d1, d2] => { results := [.lit (.bool true)], args := [d1, d2] }
  | _ => none }
def modqOneRow : OpenClaim := { program := "ythniflakjkbpiaa", sum := "f2399deb30211036a466fcede40490c22a69995a88d2afe6399689d232fb1802", func := "sortition/sortitionlaw03.ModqOne", spec := "modqOne", inPlace := ["math/bits.Sub64", "math/bits.Add64", "sync/atomic.LoadUint32", "(*internal/sync.Mutex).Lock", "internal/race.Disable", "sync/atomic.CompareAndSwapInt32", "internal/race.Enable", "internal/race.Acquire", "(*internal/sync.Mutex).lockSlow", "internal/sync.runtime_canSpin", "internal/sync.runtime_doSpin", "internal/sync.throw", "internal/sync.runtime_nanotime", "internal/sync.runtime_SemacquireMutex", "sync/atomic.AddInt32", "(*internal/sync.Mutex).Unlock", "internal/race.ReleaseMerge", "(*internal/sync.Mutex).unlockSlow", "internal/sync.fatal", "internal/sync.runtime_Semrelease", "sync/atomic.StoreUint32"], unfollowed := true, recurses := true, apart := false }
def ModqOneSaid : Prop := modqOneRow.holds Try.pinned (OpenSpec.ofChange modqOneSpec)

/-- ITS FALSE NEIGHBOUR: 'it returns false'. Refute it at one input. -/
def modqOneWrong : ChangeSpec := { name := "modqOne", fn := fun _ => fun
  | [d1, d2] => { results := [.lit (.bool false)], args := [d1, d2] }
  | _ => none }
def ModqOneWrongFalsely : Prop := modqOneRow.holds Try.pinned (OpenSpec.ofChange modqOneWrong)

/-- 'sortitionlaw03.ModqTells': WHATEVER THE INPUT: true; the input reads as it did. -/
def modqTellsSpec : ChangeSpec := { name := "modqTells", fn := fun _ => fun
  | [d1, d2, d3] => { results := [.lit (.bool true)], args := [d1, d2, d3] }
  | _ => none }
def modqTellsRow : OpenClaim := { program := "ythniflakjkbpiaa", sum := "f2399deb30211036a466fcede40490c22a69995a88d2afe6399689d232fb1802", func := "sortition/sortitionlaw03.ModqTells", spec := "modqTells", inPlace := ["math/bits.Sub64", "math/bits.Add64", "sync/atomic.LoadUint32", "(*internal/sync.Mutex).Lock", "internal/race.Disable", "sync/atomic.CompareAndSwapInt32", "internal/race.Enable", "internal/race.Acquire", "(*internal/sync.Mutex).lockSlow", "internal/sync.runtime_canSpin", "internal/sync.runtime_doSpin", "internal/sync.throw", "internal/sync.runtime_nanotime", "internal/sync.runtime_SemacquireMutex", "sync/atomic.AddInt32", "(*internal/sync.Mutex).Unlock", "internal/race.ReleaseMerge", "(*internal/sync.Mutex).unlockSlow", "internal/sync.fatal", "internal/sync.runtime_Semrelease", "sync/atomic.StoreUint32"], unfollowed := true, recurses := true, apart := false }
def ModqTellsSaid : Prop := modqTellsRow.holds Try.pinned (OpenSpec.ofChange modqTellsSpec)

/-- ITS FALSE NEIGHBOUR: 'it returns false'. Refute it at one input. -/
def modqTellsWrong : ChangeSpec := { name := "modqTells", fn := fun _ => fun
  | [d1, d2, d3] => { results := [.lit (.bool false)], args := [d1, d2, d3] }
  | _ => none }
def ModqTellsWrongFalsely : Prop := modqTellsRow.holds Try.pinned (OpenSpec.ofChange modqTellsWrong)

/-- 'sortitionlaw03.ModqSums': WHATEVER THE INPUT: true; the input reads as it did. -/
def modqSumsSpec : ChangeSpec := { name := "modqSums", fn := fun _ => fun
  | [d1, d2, d3, d4, d5] => { results := [.lit (.bool true)], args := [d1, d2, d3, d4, d5] }
  | _ => none }
def modqSumsRow : OpenClaim := { program := "ythniflakjkbpiaa", sum := "f2399deb30211036a466fcede40490c22a69995a88d2afe6399689d232fb1802", func := "sortition/sortitionlaw03.ModqSums", spec := "modqSums", inPlace := ["math/bits.Sub64", "math/bits.Add64", "sync/atomic.LoadUint32", "(*internal/sync.Mutex).Lock", "internal/race.Disable", "sync/atomic.CompareAndSwapInt32", "internal/race.Enable", "internal/race.Acquire", "(*internal/sync.Mutex).lockSlow", "internal/sync.runtime_canSpin", "internal/sync.runtime_doSpin", "internal/sync.throw", "internal/sync.runtime_nanotime", "internal/sync.runtime_SemacquireMutex", "sync/atomic.AddInt32", "(*internal/sync.Mutex).Unlock", "internal/race.ReleaseMerge", "(*internal/sync.Mutex).unlockSlow", "internal/sync.fatal", "internal/sync.runtime_Semrelease", "sync/atomic.StoreUint32"], unfollowed := true, recurses := true, apart := false }
def ModqSumsSaid : Prop := modqSumsRow.holds Try.pinned (OpenSpec.ofChange modqSumsSpec)

/-- ITS FALSE NEIGHBOUR: 'it returns false'. Refute it at one input. -/
def modqSumsWrong : ChangeSpec := { name := "modqSums", fn := fun _ => fun
  | [d1, d2, d3, d4, d5] => { results := [.lit (.bool false)], args := [d1, d2, d3, d4, d5] }
  | _ => none }
def ModqSumsWrongFalsely : Prop := modqSumsRow.holds Try.pinned (OpenSpec.ofChange modqSumsWrong)

/-- 'sortitionlaw03.ModqOnes': WHATEVER THE INPUT: true; the input reads as it did. -/
def modqOnesSpec : ChangeSpec := { name := "modqOnes", fn := fun _ => fun
  | [d1, d2] => { results := [.lit (.bool true)], args := [d1, d2] }
  | _ => none }
def modqOnesRow : OpenClaim := { program := "ythniflakjkbpiaa", sum := "f2399deb30211036a466fcede40490c22a69995a88d2afe6399689d232fb1802", func := "sortition/sortitionlaw03.ModqOnes", spec := "modqOnes", inPlace := ["math/bits.Sub64", "math/bits.Add64", "sync/atomic.LoadUint32", "(*internal/sync.Mutex).Lock", "internal/race.Disable", "sync/atomic.CompareAndSwapInt32", "internal/race.Enable", "internal/race.Acquire", "(*internal/sync.Mutex).lockSlow", "internal/sync.runtime_canSpin", "internal/sync.runtime_doSpin", "internal/sync.throw", "internal/sync.runtime_nanotime", "internal/sync.runtime_SemacquireMutex", "sync/atomic.AddInt32", "(*internal/sync.Mutex).Unlock", "internal/race.ReleaseMerge", "(*internal/sync.Mutex).unlockSlow", "internal/sync.fatal", "internal/sync.runtime_Semrelease", "sync/atomic.StoreUint32"], unfollowed := true, recurses := true, apart := false }
def ModqOnesSaid : Prop := modqOnesRow.holds Try.pinned (OpenSpec.ofChange modqOnesSpec)

/-- ITS FALSE NEIGHBOUR: 'it returns false'. Refute it at one input. -/
def modqOnesWrong : ChangeSpec := { name := "modqOnes", fn := fun _ => fun
  | [d1, d2] => { results := [.lit (.bool false)], args := [d1, d2] }
  | _ => none }
def ModqOnesWrongFalsely : Prop := modqOnesRow.holds Try.pinned (OpenSpec.ofChange modqOnesWrong)

/-- 'sortitionlaw03.ModqTurned': WHATEVER THE INPUT: true; the input reads as it did. -/
def modqTurnedSpec : ChangeSpec := { name := "modqTurned", fn := fun _ => fun
  | [d1, d2] => { results := [.lit (.bool true)], args := [d1, d2] }
  | _ => none }
def modqTurnedRow : OpenClaim := { program := "ythniflakjkbpiaa", sum := "f2399deb30211036a466fcede40490c22a69995a88d2afe6399689d232fb1802", func := "sortition/sortitionlaw03.ModqTurned", spec := "modqTurned", inPlace := ["math/bits.Sub64", "math/bits.Add64", "sync/atomic.LoadUint32", "(*internal/sync.Mutex).Lock", "internal/race.Disable", "sync/atomic.CompareAndSwapInt32", "internal/race.Enable", "internal/race.Acquire", "(*internal/sync.Mutex).lockSlow", "internal/sync.runtime_canSpin", "internal/sync.runtime_doSpin", "internal/sync.throw", "internal/sync.runtime_nanotime", "internal/sync.runtime_SemacquireMutex", "sync/atomic.AddInt32", "(*internal/sync.Mutex).Unlock", "internal/race.ReleaseMerge", "(*internal/sync.Mutex).unlockSlow", "internal/sync.fatal", "internal/sync.runtime_Semrelease", "sync/atomic.StoreUint32"], unfollowed := true, recurses := true, apart := false }
def ModqTurnedSaid : Prop := modqTurnedRow.holds Try.pinned (OpenSpec.ofChange modqTurnedSpec)

/-- ITS FALSE NEIGHBOUR: 'it returns false'. Refute it at one input. -/
def modqTurnedWrong : ChangeSpec := { name := "modqTurned", fn := fun _ => fun
  | [d1, d2] => { results := [.lit (.bool false)], args := [d1, d2] }
  | _ => none }
def ModqTurnedWrongFalsely : Prop := modqTurnedRow.holds Try.pinned (OpenSpec.ofChange modqTurnedWrong)

/-- 'sortitionlaw03.ModqFirst': WHATEVER THE INPUT: true; the input reads as it did. -/
def modqFirstSpec : ChangeSpec := { name := "modqFirst", fn := fun _ => fun
  | [d1, d2, d3] => { results := [.lit (.bool true)], args := [d1, d2, d3] }
  | _ => none }
def modqFirstRow : OpenClaim := { program := "ythniflakjkbpiaa", sum := "f2399deb30211036a466fcede40490c22a69995a88d2afe6399689d232fb1802", func := "sortition/sortitionlaw03.ModqFirst", spec := "modqFirst", inPlace := ["math/bits.Sub64", "math/bits.Add64", "sync/atomic.LoadUint32", "(*internal/sync.Mutex).Lock", "internal/race.Disable", "sync/atomic.CompareAndSwapInt32", "internal/race.Enable", "internal/race.Acquire", "(*internal/sync.Mutex).lockSlow", "internal/sync.runtime_canSpin", "internal/sync.runtime_doSpin", "internal/sync.throw", "internal/sync.runtime_nanotime", "internal/sync.runtime_SemacquireMutex", "sync/atomic.AddInt32", "(*internal/sync.Mutex).Unlock", "internal/race.ReleaseMerge", "(*internal/sync.Mutex).unlockSlow", "internal/sync.fatal", "internal/sync.runtime_Semrelease", "sync/atomic.StoreUint32"], unfollowed := true, recurses := true, apart := false }
def ModqFirstSaid : Prop := modqFirstRow.holds Try.pinned (OpenSpec.ofChange modqFirstSpec)

/-- ITS FALSE NEIGHBOUR: 'it returns false'. Refute it at one input. -/
def modqFirstWrong : ChangeSpec := { name := "modqFirst", fn := fun _ => fun
  | [d1, d2, d3] => { results := [.lit (.bool false)], args := [d1, d2, d3] }
  | _ => none }
def ModqFirstWrongFalsely : Prop := modqFirstRow.holds Try.pinned (OpenSpec.ofChange modqFirstWrong)

/- THE SECOND FORM. 'bulk': how many values and letters a reading holds, each counted each time it is reached (what is shared counts as often as it is met; a slice's spare places count too). A statement '..UptoSaid' is the law's where the arguments, and the package variables that the reading takes, are together of bulk at most 1048576: NARROWER than '..Said'. Prove '..Said' where nothing that the law and all that it calls make is longer than what came in: it says more and counts as full. Else prove '..UptoSaid'. A law counts once. -/
mutual
def uptoBulk {H : Type} : DataW H → Nat
  | .lit (.string bytes) => bytes.length + 1
  | .lit _ => 1
  | .nil => 1
  | .ptr d => uptoBulk d + 1
  | .slice elems spare => uptoBulkAll elems + uptoBulkAll spare + 1
  | .agg parts => uptoBulkAll parts + 1
  | .iface _ d => uptoBulk d + 1
  | .map entries => uptoBulkEntries entries + 1
  | .held _ => 1
def uptoBulkAll {H : Type} : List (DataW H) → Nat
  | [] => 0
  | d :: r => uptoBulk d + uptoBulkAll r
def uptoBulkEntries {H : Type} : List (Lit × DataW H) → Nat
  | [] => 0
  | x :: r => uptoBulkEntry x + uptoBulkEntries r
def uptoBulkEntry {H : Type} : Lit × DataW H → Nat
  | (.string bytes, d) => bytes.length + uptoBulk d + 1
  | (_, d) => uptoBulk d + 1
 end
def uptoSmall : (H : Type) → List (DataW H) → Bool := fun _ ds => decide (uptoBulkAll ds ≤ 1048576)
def OpenSpec.upto (s : _root_.Go.ChangeSpec) : _root_.Go.OpenSpec := { _root_.Go.OpenSpec.ofChange s with cond := some uptoSmall }

/-- 'sortitionlaw02.MontImages', WHERE WHAT IT READS IS OF BULK AT MOST 1048576: true; the input reads as it did. -/
def montImagesUptoRow : OpenClaim := { program := "ythniflakjkbpiaa", sum := "f2399deb30211036a466fcede40490c22a69995a88d2afe6399689d232fb1802", func := "sortition/sortitionlaw02.MontImages", spec := "montImages", inPlace := ["math/bits.Sub64", "math/bits.Add64", "sync/atomic.LoadUint32", "(*internal/sync.Mutex).Lock", "internal/race.Disable", "sync/atomic.CompareAndSwapInt32", "internal/race.Enable", "internal/race.Acquire", "(*internal/sync.Mutex).lockSlow", "internal/sync.runtime_canSpin", "internal/sync.runtime_doSpin", "internal/sync.throw", "internal/sync.runtime_nanotime", "internal/sync.runtime_SemacquireMutex", "sync/atomic.AddInt32", "(*internal/sync.Mutex).Unlock", "internal/race.ReleaseMerge", "(*internal/sync.Mutex).unlockSlow", "internal/sync.fatal", "internal/sync.runtime_Semrelease", "sync/atomic.StoreUint32"], unfollowed := true, recurses := true, apart := false, narrowed := true }
def MontImagesUptoSaid : Prop := montImagesUptoRow.holds Try.pinned (OpenSpec.upto montImagesSpec)

/-- 'sortitionlaw02.MontPowers', WHERE WHAT IT READS IS OF BULK AT MOST 1048576: true; the input reads as it did. -/
def montPowersUptoRow : OpenClaim := { program := "ythniflakjkbpiaa", sum := "f2399deb30211036a466fcede40490c22a69995a88d2afe6399689d232fb1802", func := "sortition/sortitionlaw02.MontPowers", spec := "montPowers", inPlace := ["math/bits.Sub64", "math/bits.Add64", "sync/atomic.LoadUint32", "(*internal/sync.Mutex).Lock", "internal/race.Disable", "sync/atomic.CompareAndSwapInt32", "internal/race.Enable", "internal/race.Acquire", "(*internal/sync.Mutex).lockSlow", "internal/sync.runtime_canSpin", "internal/sync.runtime_doSpin", "internal/sync.throw", "internal/sync.runtime_nanotime", "internal/sync.runtime_SemacquireMutex", "sync/atomic.AddInt32", "(*internal/sync.Mutex).Unlock", "internal/race.ReleaseMerge", "(*internal/sync.Mutex).unlockSlow", "internal/sync.fatal", "internal/sync.runtime_Semrelease", "sync/atomic.StoreUint32"], unfollowed := true, recurses := true, apart := false, narrowed := true }
def MontPowersUptoSaid : Prop := montPowersUptoRow.holds Try.pinned (OpenSpec.upto montPowersSpec)

/-- 'sortitionlaw02.MontPowersThrough', WHERE WHAT IT READS IS OF BULK AT MOST 1048576: true; the input reads as it did. -/
def montPowersThroughUptoRow : OpenClaim := { program := "ythniflakjkbpiaa", sum := "f2399deb30211036a466fcede40490c22a69995a88d2afe6399689d232fb1802", func := "sortition/sortitionlaw02.MontPowersThrough", spec := "montPowersThrough", inPlace := ["math/bits.Sub64", "math/bits.Add64", "sync/atomic.LoadUint32", "(*internal/sync.Mutex).Lock", "internal/race.Disable", "sync/atomic.CompareAndSwapInt32", "internal/race.Enable", "internal/race.Acquire", "(*internal/sync.Mutex).lockSlow", "internal/sync.runtime_canSpin", "internal/sync.runtime_doSpin", "internal/sync.throw", "internal/sync.runtime_nanotime", "internal/sync.runtime_SemacquireMutex", "sync/atomic.AddInt32", "(*internal/sync.Mutex).Unlock", "internal/race.ReleaseMerge", "(*internal/sync.Mutex).unlockSlow", "internal/sync.fatal", "internal/sync.runtime_Semrelease", "sync/atomic.StoreUint32"], unfollowed := true, recurses := true, apart := false, narrowed := true }
def MontPowersThroughUptoSaid : Prop := montPowersThroughUptoRow.holds Try.pinned (OpenSpec.upto montPowersThroughSpec)

/-- 'sortitionlaw02.MontBegins', WHERE WHAT IT READS IS OF BULK AT MOST 1048576: true; the input reads as it did. -/
def montBeginsUptoRow : OpenClaim := { program := "ythniflakjkbpiaa", sum := "f2399deb30211036a466fcede40490c22a69995a88d2afe6399689d232fb1802", func := "sortition/sortitionlaw02.MontBegins", spec := "montBegins", inPlace := ["math/bits.Sub64", "math/bits.Add64", "sync/atomic.LoadUint32", "(*internal/sync.Mutex).Lock", "internal/race.Disable", "sync/atomic.CompareAndSwapInt32", "internal/race.Enable", "internal/race.Acquire", "(*internal/sync.Mutex).lockSlow", "internal/sync.runtime_canSpin", "internal/sync.runtime_doSpin", "internal/sync.throw", "internal/sync.runtime_nanotime", "internal/sync.runtime_SemacquireMutex", "sync/atomic.AddInt32", "(*internal/sync.Mutex).Unlock", "internal/race.ReleaseMerge", "(*internal/sync.Mutex).unlockSlow", "internal/sync.fatal", "internal/sync.runtime_Semrelease", "sync/atomic.StoreUint32"], unfollowed := true, recurses := true, apart := false, narrowed := true }
def MontBeginsUptoSaid : Prop := montBeginsUptoRow.holds Try.pinned (OpenSpec.upto montBeginsSpec)

/-- 'sortitionlaw02.MontBack', WHERE WHAT IT READS IS OF BULK AT MOST 1048576: true; the input reads as it did. -/
def montBackUptoRow : OpenClaim := { program := "ythniflakjkbpiaa", sum := "f2399deb30211036a466fcede40490c22a69995a88d2afe6399689d232fb1802", func := "sortition/sortitionlaw02.MontBack", spec := "montBack", inPlace := ["math/bits.Sub64", "math/bits.Add64", "sync/atomic.LoadUint32", "(*internal/sync.Mutex).Lock", "internal/race.Disable", "sync/atomic.CompareAndSwapInt32", "internal/race.Enable", "internal/race.Acquire", "(*internal/sync.Mutex).lockSlow", "internal/sync.runtime_canSpin", "internal/sync.runtime_doSpin", "internal/sync.throw", "internal/sync.runtime_nanotime", "internal/sync.runtime_SemacquireMutex", "sync/atomic.AddInt32", "(*internal/sync.Mutex).Unlock", "internal/race.ReleaseMerge", "(*internal/sync.Mutex).unlockSlow", "internal/sync.fatal", "internal/sync.runtime_Semrelease", "sync/atomic.StoreUint32"], unfollowed := true, recurses := true, apart := false, narrowed := true }
def MontBackUptoSaid : Prop := montBackUptoRow.holds Try.pinned (OpenSpec.upto montBackSpec)

/-- 'sortitionlaw02.MontRing', WHERE WHAT IT READS IS OF BULK AT MOST 1048576: true; the input reads as it did. -/
def montRingUptoRow : OpenClaim := { program := "ythniflakjkbpiaa", sum := "f2399deb30211036a466fcede40490c22a69995a88d2afe6399689d232fb1802", func := "sortition/sortitionlaw02.MontRing", spec := "montRing", inPlace := ["math/bits.Sub64", "math/bits.Add64", "sync/atomic.LoadUint32", "(*internal/sync.Mutex).Lock", "internal/race.Disable", "sync/atomic.CompareAndSwapInt32", "internal/race.Enable", "internal/race.Acquire", "(*internal/sync.Mutex).lockSlow", "internal/sync.runtime_canSpin", "internal/sync.runtime_doSpin", "internal/sync.throw", "internal/sync.runtime_nanotime", "internal/sync.runtime_SemacquireMutex", "sync/atomic.AddInt32", "(*internal/sync.Mutex).Unlock", "internal/race.ReleaseMerge", "(*internal/sync.Mutex).unlockSlow", "internal/sync.fatal", "internal/sync.runtime_Semrelease", "sync/atomic.StoreUint32"], unfollowed := true, recurses := true, apart := false, narrowed := true }
def MontRingUptoSaid : Prop := montRingUptoRow.holds Try.pinned (OpenSpec.upto montRingSpec)

/-- 'sortitionlaw02.MontReckons', WHERE WHAT IT READS IS OF BULK AT MOST 1048576: true; the input reads as it did. -/
def montReckonsUptoRow : OpenClaim := { program := "ythniflakjkbpiaa", sum := "f2399deb30211036a466fcede40490c22a69995a88d2afe6399689d232fb1802", func := "sortition/sortitionlaw02.MontReckons", spec := "montReckons", inPlace := ["math/bits.Sub64", "math/bits.Add64", "sync/atomic.LoadUint32", "(*internal/sync.Mutex).Lock", "internal/race.Disable", "sync/atomic.CompareAndSwapInt32", "internal/race.Enable", "internal/race.Acquire", "(*internal/sync.Mutex).lockSlow", "internal/sync.runtime_canSpin", "internal/sync.runtime_doSpin", "internal/sync.throw", "internal/sync.runtime_nanotime", "internal/sync.runtime_SemacquireMutex", "sync/atomic.AddInt32", "(*internal/sync.Mutex).Unlock", "internal/race.ReleaseMerge", "(*internal/sync.Mutex).unlockSlow", "internal/sync.fatal", "internal/sync.runtime_Semrelease", "sync/atomic.StoreUint32"], unfollowed := true, recurses := true, apart := false, narrowed := true }
def MontReckonsUptoSaid : Prop := montReckonsUptoRow.holds Try.pinned (OpenSpec.upto montReckonsSpec)

/-- 'sortitionlaw02.MontSigns', WHERE WHAT IT READS IS OF BULK AT MOST 1048576: true; the input reads as it did. -/
def montSignsUptoRow : OpenClaim := { program := "ythniflakjkbpiaa", sum := "f2399deb30211036a466fcede40490c22a69995a88d2afe6399689d232fb1802", func := "sortition/sortitionlaw02.MontSigns", spec := "montSigns", inPlace := ["math/bits.Sub64", "math/bits.Add64", "sync/atomic.LoadUint32", "(*internal/sync.Mutex).Lock", "internal/race.Disable", "sync/atomic.CompareAndSwapInt32", "internal/race.Enable", "internal/race.Acquire", "(*internal/sync.Mutex).lockSlow", "internal/sync.runtime_canSpin", "internal/sync.runtime_doSpin", "internal/sync.throw", "internal/sync.runtime_nanotime", "internal/sync.runtime_SemacquireMutex", "sync/atomic.AddInt32", "(*internal/sync.Mutex).Unlock", "internal/race.ReleaseMerge", "(*internal/sync.Mutex).unlockSlow", "internal/sync.fatal", "internal/sync.runtime_Semrelease", "sync/atomic.StoreUint32"], unfollowed := true, recurses := true, apart := false, narrowed := true }
def MontSignsUptoSaid : Prop := montSignsUptoRow.holds Try.pinned (OpenSpec.upto montSignsSpec)

/-- 'sortitionlaw03.ModqInverse', WHERE WHAT IT READS IS OF BULK AT MOST 1048576: true; the input reads as it did. -/
def modqInverseUptoRow : OpenClaim := { program := "ythniflakjkbpiaa", sum := "f2399deb30211036a466fcede40490c22a69995a88d2afe6399689d232fb1802", func := "sortition/sortitionlaw03.ModqInverse", spec := "modqInverse", inPlace := ["math/bits.Sub64", "math/bits.Add64", "sync/atomic.LoadUint32", "(*internal/sync.Mutex).Lock", "internal/race.Disable", "sync/atomic.CompareAndSwapInt32", "internal/race.Enable", "internal/race.Acquire", "(*internal/sync.Mutex).lockSlow", "internal/sync.runtime_canSpin", "internal/sync.runtime_doSpin", "internal/sync.throw", "internal/sync.runtime_nanotime", "internal/sync.runtime_SemacquireMutex", "sync/atomic.AddInt32", "(*internal/sync.Mutex).Unlock", "internal/race.ReleaseMerge", "(*internal/sync.Mutex).unlockSlow", "internal/sync.fatal", "internal/sync.runtime_Semrelease", "sync/atomic.StoreUint32"], unfollowed := true, recurses := true, apart := false, narrowed := true }
def ModqInverseUptoSaid : Prop := modqInverseUptoRow.holds Try.pinned (OpenSpec.upto modqInverseSpec)

/-- 'sortitionlaw03.ModqValues', WHERE WHAT IT READS IS OF BULK AT MOST 1048576: true; the input reads as it did. -/
def modqValuesUptoRow : OpenClaim := { program := "ythniflakjkbpiaa", sum := "f2399deb30211036a466fcede40490c22a69995a88d2afe6399689d232fb1802", func := "sortition/sortitionlaw03.ModqValues", spec := "modqValues", inPlace := ["math/bits.Sub64", "math/bits.Add64", "sync/atomic.LoadUint32", "(*internal/sync.Mutex).Lock", "internal/race.Disable", "sync/atomic.CompareAndSwapInt32", "internal/race.Enable", "internal/race.Acquire", "(*internal/sync.Mutex).lockSlow", "internal/sync.runtime_canSpin", "internal/sync.runtime_doSpin", "internal/sync.throw", "internal/sync.runtime_nanotime", "internal/sync.runtime_SemacquireMutex", "sync/atomic.AddInt32", "(*internal/sync.Mutex).Unlock", "internal/race.ReleaseMerge", "(*internal/sync.Mutex).unlockSlow", "internal/sync.fatal", "internal/sync.runtime_Semrelease", "sync/atomic.StoreUint32"], unfollowed := true, recurses := true, apart := false, narrowed := true }
def ModqValuesUptoSaid : Prop := modqValuesUptoRow.holds Try.pinned (OpenSpec.upto modqValuesSpec)

/-- 'sortitionlaw03.ModqWeights', WHERE WHAT IT READS IS OF BULK AT MOST 1048576: true; the input reads as it did. -/
def modqWeightsUptoRow : OpenClaim := { program := "ythniflakjkbpiaa", sum := "f2399deb30211036a466fcede40490c22a69995a88d2afe6399689d232fb1802", func := "sortition/sortitionlaw03.ModqWeights", spec := "modqWeights", inPlace := ["math/bits.Sub64", "math/bits.Add64", "sync/atomic.LoadUint32", "(*internal/sync.Mutex).Lock", "internal/race.Disable", "sync/atomic.CompareAndSwapInt32", "internal/race.Enable", "internal/race.Acquire", "(*internal/sync.Mutex).lockSlow", "internal/sync.runtime_canSpin", "internal/sync.runtime_doSpin", "internal/sync.throw", "internal/sync.runtime_nanotime", "internal/sync.runtime_SemacquireMutex", "sync/atomic.AddInt32", "(*internal/sync.Mutex).Unlock", "internal/race.ReleaseMerge", "(*internal/sync.Mutex).unlockSlow", "internal/sync.fatal", "internal/sync.runtime_Semrelease", "sync/atomic.StoreUint32"], unfollowed := true, recurses := true, apart := false, narrowed := true }
def ModqWeightsUptoSaid : Prop := modqWeightsUptoRow.holds Try.pinned (OpenSpec.upto modqWeightsSpec)

/-- 'sortitionlaw03.ModqOne', WHERE WHAT IT READS IS OF BULK AT MOST 1048576: true; the input reads as it did. -/
def modqOneUptoRow : OpenClaim := { program := "ythniflakjkbpiaa", sum := "f2399deb30211036a466fcede40490c22a69995a88d2afe6399689d232fb1802", func := "sortition/sortitionlaw03.ModqOne", spec := "modqOne", inPlace := ["math/bits.Sub64", "math/bits.Add64", "sync/atomic.LoadUint32", "(*internal/sync.Mutex).Lock", "internal/race.Disable", "sync/atomic.CompareAndSwapInt32", "internal/race.Enable", "internal/race.Acquire", "(*internal/sync.Mutex).lockSlow", "internal/sync.runtime_canSpin", "internal/sync.runtime_doSpin", "internal/sync.throw", "internal/sync.runtime_nanotime", "internal/sync.runtime_SemacquireMutex", "sync/atomic.AddInt32", "(*internal/sync.Mutex).Unlock", "internal/race.ReleaseMerge", "(*internal/sync.Mutex).unlockSlow", "internal/sync.fatal", "internal/sync.runtime_Semrelease", "sync/atomic.StoreUint32"], unfollowed := true, recurses := true, apart := false, narrowed := true }
def ModqOneUptoSaid : Prop := modqOneUptoRow.holds Try.pinned (OpenSpec.upto modqOneSpec)

/-- 'sortitionlaw03.ModqTells', WHERE WHAT IT READS IS OF BULK AT MOST 1048576: true; the input reads as it did. -/
def modqTellsUptoRow : OpenClaim := { program := "ythniflakjkbpiaa", sum := "f2399deb30211036a466fcede40490c22a69995a88d2afe6399689d232fb1802", func := "sortition/sortitionlaw03.ModqTells", spec := "modqTells", inPlace := ["math/bits.Sub64", "math/bits.Add64", "sync/atomic.LoadUint32", "(*internal/sync.Mutex).Lock", "internal/race.Disable", "sync/atomic.CompareAndSwapInt32", "internal/race.Enable", "internal/race.Acquire", "(*internal/sync.Mutex).lockSlow", "internal/sync.runtime_canSpin", "internal/sync.runtime_doSpin", "internal/sync.throw", "internal/sync.runtime_nanotime", "internal/sync.runtime_SemacquireMutex", "sync/atomic.AddInt32", "(*internal/sync.Mutex).Unlock", "internal/race.ReleaseMerge", "(*internal/sync.Mutex).unlockSlow", "internal/sync.fatal", "internal/sync.runtime_Semrelease", "sync/atomic.StoreUint32"], unfollowed := true, recurses := true, apart := false, narrowed := true }
def ModqTellsUptoSaid : Prop := modqTellsUptoRow.holds Try.pinned (OpenSpec.upto modqTellsSpec)

/-- 'sortitionlaw03.ModqSums', WHERE WHAT IT READS IS OF BULK AT MOST 1048576: true; the input reads as it did. -/
def modqSumsUptoRow : OpenClaim := { program := "ythniflakjkbpiaa", sum := "f2399deb30211036a466fcede40490c22a69995a88d2afe6399689d232fb1802", func := "sortition/sortitionlaw03.ModqSums", spec := "modqSums", inPlace := ["math/bits.Sub64", "math/bits.Add64", "sync/atomic.LoadUint32", "(*internal/sync.Mutex).Lock", "internal/race.Disable", "sync/atomic.CompareAndSwapInt32", "internal/race.Enable", "internal/race.Acquire", "(*internal/sync.Mutex).lockSlow", "internal/sync.runtime_canSpin", "internal/sync.runtime_doSpin", "internal/sync.throw", "internal/sync.runtime_nanotime", "internal/sync.runtime_SemacquireMutex", "sync/atomic.AddInt32", "(*internal/sync.Mutex).Unlock", "internal/race.ReleaseMerge", "(*internal/sync.Mutex).unlockSlow", "internal/sync.fatal", "internal/sync.runtime_Semrelease", "sync/atomic.StoreUint32"], unfollowed := true, recurses := true, apart := false, narrowed := true }
def ModqSumsUptoSaid : Prop := modqSumsUptoRow.holds Try.pinned (OpenSpec.upto modqSumsSpec)

/-- 'sortitionlaw03.ModqOnes', WHERE WHAT IT READS IS OF BULK AT MOST 1048576: true; the input reads as it did. -/
def modqOnesUptoRow : OpenClaim := { program := "ythniflakjkbpiaa", sum := "f2399deb30211036a466fcede40490c22a69995a88d2afe6399689d232fb1802", func := "sortition/sortitionlaw03.ModqOnes", spec := "modqOnes", inPlace := ["math/bits.Sub64", "math/bits.Add64", "sync/atomic.LoadUint32", "(*internal/sync.Mutex).Lock", "internal/race.Disable", "sync/atomic.CompareAndSwapInt32", "internal/race.Enable", "internal/race.Acquire", "(*internal/sync.Mutex).lockSlow", "internal/sync.runtime_canSpin", "internal/sync.runtime_doSpin", "internal/sync.throw", "internal/sync.runtime_nanotime", "internal/sync.runtime_SemacquireMutex", "sync/atomic.AddInt32", "(*internal/sync.Mutex).Unlock", "internal/race.ReleaseMerge", "(*internal/sync.Mutex).unlockSlow", "internal/sync.fatal", "internal/sync.runtime_Semrelease", "sync/atomic.StoreUint32"], unfollowed := true, recurses := true, apart := false, narrowed := true }
def ModqOnesUptoSaid : Prop := modqOnesUptoRow.holds Try.pinned (OpenSpec.upto modqOnesSpec)

/-- 'sortitionlaw03.ModqTurned', WHERE WHAT IT READS IS OF BULK AT MOST 1048576: true; the input reads as it did. -/
def modqTurnedUptoRow : OpenClaim := { program := "ythniflakjkbpiaa", sum := "f2399deb30211036a466fcede40490c22a69995a88d2afe6399689d232fb1802", func := "sortition/sortitionlaw03.ModqTurned", spec := "modqTurned", inPlace := ["math/bits.Sub64", "math/bits.Add64", "sync/atomic.LoadUint32", "(*internal/sync.Mutex).Lock", "internal/race.Disable", "sync/atomic.CompareAndSwapInt32", "internal/race.Enable", "internal/race.Acquire", "(*internal/sync.Mutex).lockSlow", "internal/sync.runtime_canSpin", "internal/sync.runtime_doSpin", "internal/sync.throw", "internal/sync.runtime_nanotime", "internal/sync.runtime_SemacquireMutex", "sync/atomic.AddInt32", "(*internal/sync.Mutex).Unlock", "internal/race.ReleaseMerge", "(*internal/sync.Mutex).unlockSlow", "internal/sync.fatal", "internal/sync.runtime_Semrelease", "sync/atomic.StoreUint32"], unfollowed := true, recurses := true, apart := false, narrowed := true }
def ModqTurnedUptoSaid : Prop := modqTurnedUptoRow.holds Try.pinned (OpenSpec.upto modqTurnedSpec)

/-- 'sortitionlaw03.ModqFirst', WHERE WHAT IT READS IS OF BULK AT MOST 1048576: true; the input reads as it did. -/
def modqFirstUptoRow : OpenClaim := { program := "ythniflakjkbpiaa", sum := "f2399deb30211036a466fcede40490c22a69995a88d2afe6399689d232fb1802", func := "sortition/sortitionlaw03.ModqFirst", spec := "modqFirst", inPlace := ["math/bits.Sub64", "math/bits.Add64", "sync/atomic.LoadUint32", "(*internal/sync.Mutex).Lock", "internal/race.Disable", "sync/atomic.CompareAndSwapInt32", "internal/race.Enable", "internal/race.Acquire", "(*internal/sync.Mutex).lockSlow", "internal/sync.runtime_canSpin", "internal/sync.runtime_doSpin", "internal/sync.throw", "internal/sync.runtime_nanotime", "internal/sync.runtime_SemacquireMutex", "sync/atomic.AddInt32", "(*internal/sync.Mutex).Unlock", "internal/race.ReleaseMerge", "(*internal/sync.Mutex).unlockSlow", "internal/sync.fatal", "internal/sync.runtime_Semrelease", "sync/atomic.StoreUint32"], unfollowed := true, recurses := true, apart := false, narrowed := true }
def ModqFirstUptoSaid : Prop := modqFirstUptoRow.holds Try.pinned (OpenSpec.upto modqFirstSpec)

end Rows
end Go.Proofs.Ythniflakjkbpiaa
