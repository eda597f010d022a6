/-
  NARROWER THAN 'FOR EVERY INPUT', by the rows' own cells (each row's printed sentence says how): GroupFew: laid · GroupBegins: laid · GroupReckons: laid · GroupBack: laid · GroupTurned: laid · GroupSums: laid · ShareBinds: laid · ShareTurned: laid · ShareFlat: laid · ShareSums: laid.
  DERIVED. THE GIVEN ROWS OF THIS SEAT. 10 by the template 'for every input the law returns true; each argument reads behind the call as it read before'; 0 by the template 'total and deterministic' (their statements: YtdmcknmjdlghgaaDoorTotals.lean).
  GIVEN WITH THE SEED: the statements are not yours to turn. If you find one false, say at which input.
  Laid BY PROGRAM, IN A SANDBOX (cutbox-rows.mjs): the forced cells as the released guide's own fill.sh prints them over the translation 7d7c7d8f3d15547b… (all of the seat's roots in one cut). By AI agents, Wed Nov 11 2026. No macro, syntax, notation, axiom, sorry.
-/
import Derived.Test.YtdmcknmjdlghgaaDoorChecked
import GoSem.Claim
import GoSem.ClaimJoined
import GoSem.ClaimMapViews
import Derived.JoinedTies
import Derived.KernelRfl
namespace Go.Proofs.YtdmcknmjdlghgaaDoor
/- THE CELL 'sum', in the pinned program and in every row, IS THE sha256 OF THE DUMP (.gsa) THAT YtdmcknmjdlghgaaDoorProg.lean LOADS. Nothing in Lean hashes anything: it is a label: what it is worth is what the hold of that sum in a sandbox is worth. -/
noncomputable def Tryd.pinned : Pinned := { name := "ytdmcknmjdlghgaadoor", sum := "7d7c7d8f3d15547b738b8ef868681296af4f17cfaabfacda196d16166f3e1f03", checked := Tryd.checked }
namespace Rows
def none {H : Type} : Left H := { results := [], args := [] }

/- WHAT THE LISTED PACKAGE-LEVEL VARIABLES READ AS WHEN THE CALL BEGINS. Each datum BY PROGRAM (the guide's laid-datum.mjs) off the statement by which the dump's own 'gosem.cut.vars' lays the variable. In a bare row this is a premise. The card (YtdmcknmjdlghgaaDoorCards.lean) ties it to the program's text. -/
def laid_sortition_pratt_least {H : Type} : DataW H := .agg [.lit (.int .u64 2), .lit (.int .u64 0), .lit (.int .u64 0), .lit (.int .u64 0)]
def laid_sortition_group_one {H : Type} : DataW H := .agg [.lit (.int .u64 1), .lit (.int .u64 0), .lit (.int .u64 0), .lit (.int .u64 0)]
def laid_sortition_group_two {H : Type} : DataW H := .agg [.lit (.int .u64 2), .lit (.int .u64 0), .lit (.int .u64 0), .lit (.int .u64 0)]
def laid_sortition_group_low {H : Type} : DataW H := .agg [.lit (.int .u64 5), .lit (.int .u64 0), .lit (.int .u64 0), .lit (.int .u64 0)]

/-- 'sortitionlaw05.GroupFew': WHATEVER THE INPUT: true; the input reads as it did. -/
def groupFewSpec : ChangeSpec := { name := "groupFew", fn := fun _ => fun
  | [d1, d2, d3, d4] => { results := [.lit (.bool true)], args := [d1, d2, d3, d4] }
  | _ => none }
def groupFewRow : OpenClaim := { program := "ytdmcknmjdlghgaadoor", sum := "7d7c7d8f3d15547b738b8ef868681296af4f17cfaabfacda196d16166f3e1f03", func := "sortition/sortitionlaw05.GroupFew", spec := "groupFew", inPlace := ["math/bits.Add64", "math/bits.Sub64", "sync/atomic.LoadUint32", "(*internal/sync.Mutex).Lock", "internal/race.Disable", "sync/atomic.CompareAndSwapInt32", "internal/race.Enable", "internal/race.Acquire", "(*internal/sync.Mutex).lockSlow", "internal/sync.runtime_canSpin", "internal/sync.runtime_doSpin", "internal/sync.throw", "internal/sync.runtime_nanotime", "internal/sync.runtime_SemacquireMutex", "sync/atomic.AddInt32", "(*internal/sync.Mutex).Unlock", "internal/race.ReleaseMerge", "(*internal/sync.Mutex).unlockSlow", "internal/sync.fatal", "internal/sync.runtime_Semrelease", "sync/atomic.StoreUint32"], unfollowed := true, recurses := true, named := ["sortition/group.low", "sortition/group.two", "sortition/group.one", "sortition/pratt.least"], plainKeys := false, apart := false, laid := [("sortition/pratt.least", laid_sortition_pratt_least), ("sortition/group.one", laid_sortition_group_one), ("sortition/group.two", laid_sortition_group_two), ("sortition/group.low", laid_sortition_group_low)] }
def GroupFewSaid : Prop := groupFewRow.holds Tryd.pinned (OpenSpec.ofChange groupFewSpec)

/-- ITS FALSE NEIGHBOUR: 'it returns false'. Refute it at one input. -/
def groupFewWrong : ChangeSpec := { name := "groupFew", fn := fun _ => fun
  | [d1, d2, d3, d4] => { results := [.lit (.bool false)], args := [d1, d2, d3, d4] }
  | _ => none }
def GroupFewWrongFalsely : Prop := groupFewRow.holds Tryd.pinned (OpenSpec.ofChange groupFewWrong)

/-- 'sortitionlaw05.GroupBegins': WHATEVER THE INPUT: true; the input reads as it did. -/
def groupBeginsSpec : ChangeSpec := { name := "groupBegins", fn := fun _ => fun
  | [d1, d2] => { results := [.lit (.bool true)], args := [d1, d2] }
  | _ => none }
def groupBeginsRow : OpenClaim := { program := "ytdmcknmjdlghgaadoor", sum := "7d7c7d8f3d15547b738b8ef868681296af4f17cfaabfacda196d16166f3e1f03", func := "sortition/sortitionlaw05.GroupBegins", spec := "groupBegins", inPlace := ["math/bits.Add64", "math/bits.Sub64", "sync/atomic.LoadUint32", "(*internal/sync.Mutex).Lock", "internal/race.Disable", "sync/atomic.CompareAndSwapInt32", "internal/race.Enable", "internal/race.Acquire", "(*internal/sync.Mutex).lockSlow", "internal/sync.runtime_canSpin", "internal/sync.runtime_doSpin", "internal/sync.throw", "internal/sync.runtime_nanotime", "internal/sync.runtime_SemacquireMutex", "sync/atomic.AddInt32", "(*internal/sync.Mutex).Unlock", "internal/race.ReleaseMerge", "(*internal/sync.Mutex).unlockSlow", "internal/sync.fatal", "internal/sync.runtime_Semrelease", "sync/atomic.StoreUint32"], unfollowed := true, recurses := true, named := ["sortition/group.low", "sortition/group.two", "sortition/group.one", "sortition/pratt.least"], plainKeys := false, apart := false, laid := [("sortition/pratt.least", laid_sortition_pratt_least), ("sortition/group.one", laid_sortition_group_one), ("sortition/group.two", laid_sortition_group_two), ("sortition/group.low", laid_sortition_group_low)] }
def GroupBeginsSaid : Prop := groupBeginsRow.holds Tryd.pinned (OpenSpec.ofChange groupBeginsSpec)

/-- ITS FALSE NEIGHBOUR: 'it returns false'. Refute it at one input. -/
def groupBeginsWrong : ChangeSpec := { name := "groupBegins", fn := fun _ => fun
  | [d1, d2] => { results := [.lit (.bool false)], args := [d1, d2] }
  | _ => none }
def GroupBeginsWrongFalsely : Prop := groupBeginsRow.holds Tryd.pinned (OpenSpec.ofChange groupBeginsWrong)

/-- 'sortitionlaw05.GroupReckons': WHATEVER THE INPUT: true; the input reads as it did. -/
def groupReckonsSpec : ChangeSpec := { name := "groupReckons", fn := fun _ => fun
  | [d1, d2, d3, d4, d5, d6] => { results := [.lit (.bool true)], args := [d1, d2, d3, d4, d5, d6] }
  | _ => none }
def groupReckonsRow : OpenClaim := { program := "ytdmcknmjdlghgaadoor", sum := "7d7c7d8f3d15547b738b8ef868681296af4f17cfaabfacda196d16166f3e1f03", func := "sortition/sortitionlaw05.GroupReckons", spec := "groupReckons", inPlace := ["math/bits.Add64", "math/bits.Sub64", "sync/atomic.LoadUint32", "(*internal/sync.Mutex).Lock", "internal/race.Disable", "sync/atomic.CompareAndSwapInt32", "internal/race.Enable", "internal/race.Acquire", "(*internal/sync.Mutex).lockSlow", "internal/sync.runtime_canSpin", "internal/sync.runtime_doSpin", "internal/sync.throw", "internal/sync.runtime_nanotime", "internal/sync.runtime_SemacquireMutex", "sync/atomic.AddInt32", "(*internal/sync.Mutex).Unlock", "internal/race.ReleaseMerge", "(*internal/sync.Mutex).unlockSlow", "internal/sync.fatal", "internal/sync.runtime_Semrelease", "sync/atomic.StoreUint32"], unfollowed := true, recurses := true, named := ["sortition/group.low", "sortition/group.two", "sortition/group.one", "sortition/pratt.least"], plainKeys := false, apart := false, laid := [("sortition/pratt.least", laid_sortition_pratt_least), ("sortition/group.one", laid_sortition_group_one), ("sortition/group.two", laid_sortition_group_two), ("sortition/group.low", laid_sortition_group_low)] }
def GroupReckonsSaid : Prop := groupReckonsRow.holds Tryd.pinned (OpenSpec.ofChange groupReckonsSpec)

/-- ITS FALSE NEIGHBOUR: 'it returns false'. Refute it at one input. -/
def groupReckonsWrong : ChangeSpec := { name := "groupReckons", fn := fun _ => fun
  | [d1, d2, d3, d4, d5, d6] => { results := [.lit (.bool false)], args := [d1, d2, d3, d4, d5, d6] }
  | _ => none }
def GroupReckonsWrongFalsely : Prop := groupReckonsRow.holds Tryd.pinned (OpenSpec.ofChange groupReckonsWrong)

/-- 'sortitionlaw05.GroupBack': WHATEVER THE INPUT: true; the input reads as it did. -/
def groupBackSpec : ChangeSpec := { name := "groupBack", fn := fun _ => fun
  | [d1, d2] => { results := [.lit (.bool true)], args := [d1, d2] }
  | _ => none }
def groupBackRow : OpenClaim := { program := "ytdmcknmjdlghgaadoor", sum := "7d7c7d8f3d15547b738b8ef868681296af4f17cfaabfacda196d16166f3e1f03", func := "sortition/sortitionlaw05.GroupBack", spec := "groupBack", inPlace := ["math/bits.Add64", "math/bits.Sub64", "sync/atomic.LoadUint32", "(*internal/sync.Mutex).Lock", "internal/race.Disable", "sync/atomic.CompareAndSwapInt32", "internal/race.Enable", "internal/race.Acquire", "(*internal/sync.Mutex).lockSlow", "internal/sync.runtime_canSpin", "internal/sync.runtime_doSpin", "internal/sync.throw", "internal/sync.runtime_nanotime", "internal/sync.runtime_SemacquireMutex", "sync/atomic.AddInt32", "(*internal/sync.Mutex).Unlock", "internal/race.ReleaseMerge", "(*internal/sync.Mutex).unlockSlow", "internal/sync.fatal", "internal/sync.runtime_Semrelease", "sync/atomic.StoreUint32"], unfollowed := true, recurses := true, named := ["sortition/group.low", "sortition/group.two", "sortition/group.one", "sortition/pratt.least"], plainKeys := false, apart := false, laid := [("sortition/pratt.least", laid_sortition_pratt_least), ("sortition/group.one", laid_sortition_group_one), ("sortition/group.two", laid_sortition_group_two), ("sortition/group.low", laid_sortition_group_low)] }
def GroupBackSaid : Prop := groupBackRow.holds Tryd.pinned (OpenSpec.ofChange groupBackSpec)

/-- ITS FALSE NEIGHBOUR: 'it returns false'. Refute it at one input. -/
def groupBackWrong : ChangeSpec := { name := "groupBack", fn := fun _ => fun
  | [d1, d2] => { results := [.lit (.bool false)], args := [d1, d2] }
  | _ => none }
def GroupBackWrongFalsely : Prop := groupBackRow.holds Tryd.pinned (OpenSpec.ofChange groupBackWrong)

/-- 'sortitionlaw05.GroupTurned': WHATEVER THE INPUT: true; the input reads as it did. -/
def groupTurnedSpec : ChangeSpec := { name := "groupTurned", fn := fun _ => fun
  | [d1, d2, d3, d4] => { results := [.lit (.bool true)], args := [d1, d2, d3, d4] }
  | _ => none }
def groupTurnedRow : OpenClaim := { program := "ytdmcknmjdlghgaadoor", sum := "7d7c7d8f3d15547b738b8ef868681296af4f17cfaabfacda196d16166f3e1f03", func := "sortition/sortitionlaw05.GroupTurned", spec := "groupTurned", inPlace := ["math/bits.Add64", "math/bits.Sub64", "sync/atomic.LoadUint32", "(*internal/sync.Mutex).Lock", "internal/race.Disable", "sync/atomic.CompareAndSwapInt32", "internal/race.Enable", "internal/race.Acquire", "(*internal/sync.Mutex).lockSlow", "internal/sync.runtime_canSpin", "internal/sync.runtime_doSpin", "internal/sync.throw", "internal/sync.runtime_nanotime", "internal/sync.runtime_SemacquireMutex", "sync/atomic.AddInt32", "(*internal/sync.Mutex).Unlock", "internal/race.ReleaseMerge", "(*internal/sync.Mutex).unlockSlow", "internal/sync.fatal", "internal/sync.runtime_Semrelease", "sync/atomic.StoreUint32"], unfollowed := true, recurses := true, named := ["sortition/group.low", "sortition/group.two", "sortition/group.one", "sortition/pratt.least"], plainKeys := false, apart := false, laid := [("sortition/pratt.least", laid_sortition_pratt_least), ("sortition/group.one", laid_sortition_group_one), ("sortition/group.two", laid_sortition_group_two), ("sortition/group.low", laid_sortition_group_low)] }
def GroupTurnedSaid : Prop := groupTurnedRow.holds Tryd.pinned (OpenSpec.ofChange groupTurnedSpec)

/-- ITS FALSE NEIGHBOUR: 'it returns false'. Refute it at one input. -/
def groupTurnedWrong : ChangeSpec := { name := "groupTurned", fn := fun _ => fun
  | [d1, d2, d3, d4] => { results := [.lit (.bool false)], args := [d1, d2, d3, d4] }
  | _ => none }
def GroupTurnedWrongFalsely : Prop := groupTurnedRow.holds Tryd.pinned (OpenSpec.ofChange groupTurnedWrong)

/-- 'sortitionlaw05.GroupSums': WHATEVER THE INPUT: true; the input reads as it did. -/
def groupSumsSpec : ChangeSpec := { name := "groupSums", fn := fun _ => fun
  | [d1, d2, d3] => { results := [.lit (.bool true)], args := [d1, d2, d3] }
  | _ => none }
def groupSumsRow : OpenClaim := { program := "ytdmcknmjdlghgaadoor", sum := "7d7c7d8f3d15547b738b8ef868681296af4f17cfaabfacda196d16166f3e1f03", func := "sortition/sortitionlaw05.GroupSums", spec := "groupSums", inPlace := ["math/bits.Add64", "math/bits.Sub64", "sync/atomic.LoadUint32", "(*internal/sync.Mutex).Lock", "internal/race.Disable", "sync/atomic.CompareAndSwapInt32", "internal/race.Enable", "internal/race.Acquire", "(*internal/sync.Mutex).lockSlow", "internal/sync.runtime_canSpin", "internal/sync.runtime_doSpin", "internal/sync.throw", "internal/sync.runtime_nanotime", "internal/sync.runtime_SemacquireMutex", "sync/atomic.AddInt32", "(*internal/sync.Mutex).Unlock", "internal/race.ReleaseMerge", "(*internal/sync.Mutex).unlockSlow", "internal/sync.fatal", "internal/sync.runtime_Semrelease", "sync/atomic.StoreUint32"], unfollowed := true, recurses := true, named := ["sortition/group.low", "sortition/group.two", "sortition/group.one", "sortition/pratt.least"], plainKeys := false, apart := false, laid := [("sortition/pratt.least", laid_sortition_pratt_least), ("sortition/group.one", laid_sortition_group_one), ("sortition/group.two", laid_sortition_group_two), ("sortition/group.low", laid_sortition_group_low)] }
def GroupSumsSaid : Prop := groupSumsRow.holds Tryd.pinned (OpenSpec.ofChange groupSumsSpec)

/-- ITS FALSE NEIGHBOUR: 'it returns false'. Refute it at one input. -/
def groupSumsWrong : ChangeSpec := { name := "groupSums", fn := fun _ => fun
  | [d1, d2, d3] => { results := [.lit (.bool false)], args := [d1, d2, d3] }
  | _ => none }
def GroupSumsWrongFalsely : Prop := groupSumsRow.holds Tryd.pinned (OpenSpec.ofChange groupSumsWrong)

/-- 'sortitionlaw10.ShareBinds': WHATEVER THE INPUT: true; the input reads as it did. -/
def shareBindsSpec : ChangeSpec := { name := "shareBinds", fn := fun _ => fun
  | [d1, d2, d3] => { results := [.lit (.bool true)], args := [d1, d2, d3] }
  | _ => none }
def shareBindsRow : OpenClaim := { program := "ytdmcknmjdlghgaadoor", sum := "7d7c7d8f3d15547b738b8ef868681296af4f17cfaabfacda196d16166f3e1f03", func := "sortition/sortitionlaw10.ShareBinds", spec := "shareBinds", inPlace := ["math/bits.Add64", "math/bits.Sub64", "sync/atomic.LoadUint32", "(*internal/sync.Mutex).Lock", "internal/race.Disable", "sync/atomic.CompareAndSwapInt32", "internal/race.Enable", "internal/race.Acquire", "(*internal/sync.Mutex).lockSlow", "internal/sync.runtime_canSpin", "internal/sync.runtime_doSpin", "internal/sync.throw", "internal/sync.runtime_nanotime", "internal/sync.runtime_SemacquireMutex", "sync/atomic.AddInt32", "(*internal/sync.Mutex).Unlock", "internal/race.ReleaseMerge", "(*internal/sync.Mutex).unlockSlow", "internal/sync.fatal", "internal/sync.runtime_Semrelease", "sync/atomic.StoreUint32"], unfollowed := true, recurses := true, named := ["sortition/group.low", "sortition/group.two", "sortition/group.one", "sortition/pratt.least"], plainKeys := false, apart := false, laid := [("sortition/pratt.least", laid_sortition_pratt_least), ("sortition/group.one", laid_sortition_group_one), ("sortition/group.two", laid_sortition_group_two), ("sortition/group.low", laid_sortition_group_low)] }
def ShareBindsSaid : Prop := shareBindsRow.holds Tryd.pinned (OpenSpec.ofChange shareBindsSpec)

/-- ITS FALSE NEIGHBOUR: 'it returns false'. Refute it at one input. -/
def shareBindsWrong : ChangeSpec := { name := "shareBinds", fn := fun _ => fun
  | [d1, d2, d3] => { results := [.lit (.bool false)], args := [d1, d2, d3] }
  | _ => none }
def ShareBindsWrongFalsely : Prop := shareBindsRow.holds Tryd.pinned (OpenSpec.ofChange shareBindsWrong)

/-- 'sortitionlaw10.ShareTurned': WHATEVER THE INPUT: true; the input reads as it did. -/
def shareTurnedSpec : ChangeSpec := { name := "shareTurned", fn := fun _ => fun
  | [d1, d2, d3] => { results := [.lit (.bool true)], args := [d1, d2, d3] }
  | _ => none }
def shareTurnedRow : OpenClaim := { program := "ytdmcknmjdlghgaadoor", sum := "7d7c7d8f3d15547b738b8ef868681296af4f17cfaabfacda196d16166f3e1f03", func := "sortition/sortitionlaw10.ShareTurned", spec := "shareTurned", inPlace := ["math/bits.Add64", "math/bits.Sub64", "sync/atomic.LoadUint32", "(*internal/sync.Mutex).Lock", "internal/race.Disable", "sync/atomic.CompareAndSwapInt32", "internal/race.Enable", "internal/race.Acquire", "(*internal/sync.Mutex).lockSlow", "internal/sync.runtime_canSpin", "internal/sync.runtime_doSpin", "internal/sync.throw", "internal/sync.runtime_nanotime", "internal/sync.runtime_SemacquireMutex", "sync/atomic.AddInt32", "(*internal/sync.Mutex).Unlock", "internal/race.ReleaseMerge", "(*internal/sync.Mutex).unlockSlow", "internal/sync.fatal", "internal/sync.runtime_Semrelease", "sync/atomic.StoreUint32"], unfollowed := true, recurses := true, named := ["sortition/group.low", "sortition/group.two", "sortition/group.one", "sortition/pratt.least"], plainKeys := false, apart := false, laid := [("sortition/pratt.least", laid_sortition_pratt_least), ("sortition/group.one", laid_sortition_group_one), ("sortition/group.two", laid_sortition_group_two), ("sortition/group.low", laid_sortition_group_low)] }
def ShareTurnedSaid : Prop := shareTurnedRow.holds Tryd.pinned (OpenSpec.ofChange shareTurnedSpec)

/-- ITS FALSE NEIGHBOUR: 'it returns false'. Refute it at one input. -/
def shareTurnedWrong : ChangeSpec := { name := "shareTurned", fn := fun _ => fun
  | [d1, d2, d3] => { results := [.lit (.bool false)], args := [d1, d2, d3] }
  | _ => none }
def ShareTurnedWrongFalsely : Prop := shareTurnedRow.holds Tryd.pinned (OpenSpec.ofChange shareTurnedWrong)

/-- 'sortitionlaw10.ShareFlat': WHATEVER THE INPUT: true; the input reads as it did. -/
def shareFlatSpec : ChangeSpec := { name := "shareFlat", fn := fun _ => fun
  | [d1, d2, d3] => { results := [.lit (.bool true)], args := [d1, d2, d3] }
  | _ => none }
def shareFlatRow : OpenClaim := { program := "ytdmcknmjdlghgaadoor", sum := "7d7c7d8f3d15547b738b8ef868681296af4f17cfaabfacda196d16166f3e1f03", func := "sortition/sortitionlaw10.ShareFlat", spec := "shareFlat", inPlace := ["math/bits.Add64", "math/bits.Sub64", "sync/atomic.LoadUint32", "(*internal/sync.Mutex).Lock", "internal/race.Disable", "sync/atomic.CompareAndSwapInt32", "internal/race.Enable", "internal/race.Acquire", "(*internal/sync.Mutex).lockSlow", "internal/sync.runtime_canSpin", "internal/sync.runtime_doSpin", "internal/sync.throw", "internal/sync.runtime_nanotime", "internal/sync.runtime_SemacquireMutex", "sync/atomic.AddInt32", "(*internal/sync.Mutex).Unlock", "internal/race.ReleaseMerge", "(*internal/sync.Mutex).unlockSlow", "internal/sync.fatal", "internal/sync.runtime_Semrelease", "sync/atomic.StoreUint32"], unfollowed := true, recurses := true, named := ["sortition/group.low", "sortition/group.two", "sortition/group.one", "sortition/pratt.least"], plainKeys := false, apart := false, laid := [("sortition/pratt.least", laid_sortition_pratt_least), ("sortition/group.one", laid_sortition_group_one), ("sortition/group.two", laid_sortition_group_two), ("sortition/group.low", laid_sortition_group_low)] }
def ShareFlatSaid : Prop := shareFlatRow.holds Tryd.pinned (OpenSpec.ofChange shareFlatSpec)

/-- ITS FALSE NEIGHBOUR: 'it returns false'. Refute it at one input. -/
def shareFlatWrong : ChangeSpec := { name := "shareFlat", fn := fun _ => fun
  | [d1, d2, d3] => { results := [.lit (.bool false)], args := [d1, d2, d3] }
  | _ => none }
def ShareFlatWrongFalsely : Prop := shareFlatRow.holds Tryd.pinned (OpenSpec.ofChange shareFlatWrong)

/-- 'sortitionlaw10.ShareSums': WHATEVER THE INPUT: true; the input reads as it did. -/
def shareSumsSpec : ChangeSpec := { name := "shareSums", fn := fun _ => fun
  | [d1, d2, d3, d4] => { results := [.lit (.bool true)], args := [d1, d2, d3, d4] }
  | _ => none }
def shareSumsRow : OpenClaim := { program := "ytdmcknmjdlghgaadoor", sum := "7d7c7d8f3d15547b738b8ef868681296af4f17cfaabfacda196d16166f3e1f03", func := "sortition/sortitionlaw10.ShareSums", spec := "shareSums", inPlace := ["math/bits.Add64", "math/bits.Sub64", "sync/atomic.LoadUint32", "(*internal/sync.Mutex).Lock", "internal/race.Disable", "sync/atomic.CompareAndSwapInt32", "internal/race.Enable", "internal/race.Acquire", "(*internal/sync.Mutex).lockSlow", "internal/sync.runtime_canSpin", "internal/sync.runtime_doSpin", "internal/sync.throw", "internal/sync.runtime_nanotime", "internal/sync.runtime_SemacquireMutex", "sync/atomic.AddInt32", "(*internal/sync.Mutex).Unlock", "internal/race.ReleaseMerge", "(*internal/sync.Mutex).unlockSlow", "internal/sync.fatal", "internal/sync.runtime_Semrelease", "sync/atomic.StoreUint32"], unfollowed := true, recurses := true, named := ["sortition/group.low", "sortition/group.two", "sortition/group.one", "sortition/pratt.least"], plainKeys := false, apart := false, laid := [("sortition/pratt.least", laid_sortition_pratt_least), ("sortition/group.one", laid_sortition_group_one), ("sortition/group.two", laid_sortition_group_two), ("sortition/group.low", laid_sortition_group_low)] }
def ShareSumsSaid : Prop := shareSumsRow.holds Tryd.pinned (OpenSpec.ofChange shareSumsSpec)

/-- ITS FALSE NEIGHBOUR: 'it returns false'. Refute it at one input. -/
def shareSumsWrong : ChangeSpec := { name := "shareSums", fn := fun _ => fun
  | [d1, d2, d3, d4] => { results := [.lit (.bool false)], args := [d1, d2, d3, d4] }
  | _ => none }
def ShareSumsWrongFalsely : Prop := shareSumsRow.holds Tryd.pinned (OpenSpec.ofChange shareSumsWrong)

/- THE SECOND FORM. 'bulk': how many values and letters a reading holds, each counted each time it is reached (what is shared counts as often as it is met; a slice's spare places count too). A statement '..UptoSaid' is the law's where the arguments, and the package variables that the reading takes, are together of bulk at most 1048576: NARROWER than '..Said'. Prove '..Said' where nothing that the law and all that it calls make is longer than what came in: it says more and counts as full. Else prove '..UptoSaid'. A law counts once. -/
mutual
def uptoBulk {H : Type} : DataW H → Nat
  | .lit (.string bytes) => bytes.length + 1
  | .lit _ => 1
  | .nil => 1
  | .ptr d => uptoBulk d + 1
  | .slice elems spare => uptoBulkAll elems + uptoBulkAll spare + 1
  | .agg parts => uptoBulkAll parts + 1
  | .iface _ d => uptoBulk d + 1
  | .map entries => uptoBulkEntries entries + 1
  | .held _ => 1
def uptoBulkAll {H : Type} : List (DataW H) → Nat
  | [] => 0
  | d :: r => uptoBulk d + uptoBulkAll r
def uptoBulkEntries {H : Type} : List (Lit × DataW H) → Nat
  | [] => 0
  | x :: r => uptoBulkEntry x + uptoBulkEntries r
def uptoBulkEntry {H : Type} : Lit × DataW H → Nat
  | (.string bytes, d) => bytes.length + uptoBulk d + 1
  | (_, d) => uptoBulk d + 1
 end
def uptoSmall : (H : Type) → List (DataW H) → Bool := fun _ ds => decide (uptoBulkAll ds ≤ 1048576)
def OpenSpec.upto (s : _root_.Go.ChangeSpec) : _root_.Go.OpenSpec := { _root_.Go.OpenSpec.ofChange s with cond := some uptoSmall }

/-- 'sortitionlaw05.GroupFew', WHERE WHAT IT READS IS OF BULK AT MOST 1048576: true; the input reads as it did. -/
def groupFewUptoRow : OpenClaim := { program := "ytdmcknmjdlghgaadoor", sum := "7d7c7d8f3d15547b738b8ef868681296af4f17cfaabfacda196d16166f3e1f03", func := "sortition/sortitionlaw05.GroupFew", spec := "groupFew", inPlace := ["math/bits.Add64", "math/bits.Sub64", "sync/atomic.LoadUint32", "(*internal/sync.Mutex).Lock", "internal/race.Disable", "sync/atomic.CompareAndSwapInt32", "internal/race.Enable", "internal/race.Acquire", "(*internal/sync.Mutex).lockSlow", "internal/sync.runtime_canSpin", "internal/sync.runtime_doSpin", "internal/sync.throw", "internal/sync.runtime_nanotime", "internal/sync.runtime_SemacquireMutex", "sync/atomic.AddInt32", "(*internal/sync.Mutex).Unlock", "internal/race.ReleaseMerge", "(*internal/sync.Mutex).unlockSlow", "internal/sync.fatal", "internal/sync.runtime_Semrelease", "sync/atomic.StoreUint32"], unfollowed := true, recurses := true, named := ["sortition/group.low", "sortition/group.two", "sortition/group.one", "sortition/pratt.least"], plainKeys := false, apart := false, laid := [("sortition/pratt.least", laid_sortition_pratt_least), ("sortition/group.one", laid_sortition_group_one), ("sortition/group.two", laid_sortition_group_two), ("sortition/group.low", laid_sortition_group_low)], narrowed := true }
def GroupFewUptoSaid : Prop := groupFewUptoRow.holds Tryd.pinned (OpenSpec.upto groupFewSpec)

/-- 'sortitionlaw05.GroupBegins', WHERE WHAT IT READS IS OF BULK AT MOST 1048576: true; the input reads as it did. -/
def groupBeginsUptoRow : OpenClaim := { program := "ytdmcknmjdlghgaadoor", sum := "7d7c7d8f3d15547b738b8ef868681296af4f17cfaabfacda196d16166f3e1f03", func := "sortition/sortitionlaw05.GroupBegins", spec := "groupBegins", inPlace := ["math/bits.Add64", "math/bits.Sub64", "sync/atomic.LoadUint32", "(*internal/sync.Mutex).Lock", "internal/race.Disable", "sync/atomic.CompareAndSwapInt32", "internal/race.Enable", "internal/race.Acquire", "(*internal/sync.Mutex).lockSlow", "internal/sync.runtime_canSpin", "internal/sync.runtime_doSpin", "internal/sync.throw", "internal/sync.runtime_nanotime", "internal/sync.runtime_SemacquireMutex", "sync/atomic.AddInt32", "(*internal/sync.Mutex).Unlock", "internal/race.ReleaseMerge", "(*internal/sync.Mutex).unlockSlow", "internal/sync.fatal", "internal/sync.runtime_Semrelease", "sync/atomic.StoreUint32"], unfollowed := true, recurses := true, named := ["sortition/group.low", "sortition/group.two", "sortition/group.one", "sortition/pratt.least"], plainKeys := false, apart := false, laid := [("sortition/pratt.least", laid_sortition_pratt_least), ("sortition/group.one", laid_sortition_group_one), ("sortition/group.two", laid_sortition_group_two), ("sortition/group.low", laid_sortition_group_low)], narrowed := true }
def GroupBeginsUptoSaid : Prop := groupBeginsUptoRow.holds Tryd.pinned (OpenSpec.upto groupBeginsSpec)

/-- 'sortitionlaw05.GroupReckons', WHERE WHAT IT READS IS OF BULK AT MOST 1048576: true; the input reads as it did. -/
def groupReckonsUptoRow : OpenClaim := { program := "ytdmcknmjdlghgaadoor", sum := "7d7c7d8f3d15547b738b8ef868681296af4f17cfaabfacda196d16166f3e1f03", func := "sortition/sortitionlaw05.GroupReckons", spec := "groupReckons", inPlace := ["math/bits.Add64", "math/bits.Sub64", "sync/atomic.LoadUint32", "(*internal/sync.Mutex).Lock", "internal/race.Disable", "sync/atomic.CompareAndSwapInt32", "internal/race.Enable", "internal/race.Acquire", "(*internal/sync.Mutex).lockSlow", "internal/sync.runtime_canSpin", "internal/sync.runtime_doSpin", "internal/sync.throw", "internal/sync.runtime_nanotime", "internal/sync.runtime_SemacquireMutex", "sync/atomic.AddInt32", "(*internal/sync.Mutex).Unlock", "internal/race.ReleaseMerge", "(*internal/sync.Mutex).unlockSlow", "internal/sync.fatal", "internal/sync.runtime_Semrelease", "sync/atomic.StoreUint32"], unfollowed := true, recurses := true, named := ["sortition/group.low", "sortition/group.two", "sortition/group.one", "sortition/pratt.least"], plainKeys := false, apart := false, laid := [("sortition/pratt.least", laid_sortition_pratt_least), ("sortition/group.one", laid_sortition_group_one), ("sortition/group.two", laid_sortition_group_two), ("sortition/group.low", laid_sortition_group_low)], narrowed := true }
def GroupReckonsUptoSaid : Prop := groupReckonsUptoRow.holds Tryd.pinned (OpenSpec.upto groupReckonsSpec)

/-- 'sortitionlaw05.GroupBack', WHERE WHAT IT READS IS OF BULK AT MOST 1048576: true; the input reads as it did. -/
def groupBackUptoRow : OpenClaim := { program := "ytdmcknmjdlghgaadoor", sum := "7d7c7d8f3d15547b738b8ef868681296af4f17cfaabfacda196d16166f3e1f03", func := "sortition/sortitionlaw05.GroupBack", spec := "groupBack", inPlace := ["math/bits.Add64", "math/bits.Sub64", "sync/atomic.LoadUint32", "(*internal/sync.Mutex).Lock", "internal/race.Disable", "sync/atomic.CompareAndSwapInt32", "internal/race.Enable", "internal/race.Acquire", "(*internal/sync.Mutex).lockSlow", "internal/sync.runtime_canSpin", "internal/sync.runtime_doSpin", "internal/sync.throw", "internal/sync.runtime_nanotime", "internal/sync.runtime_SemacquireMutex", "sync/atomic.AddInt32", "(*internal/sync.Mutex).Unlock", "internal/race.ReleaseMerge", "(*internal/sync.Mutex).unlockSlow", "internal/sync.fatal", "internal/sync.runtime_Semrelease", "sync/atomic.StoreUint32"], unfollowed := true, recurses := true, named := ["sortition/group.low", "sortition/group.two", "sortition/group.one", "sortition/pratt.least"], plainKeys := false, apart := false, laid := [("sortition/pratt.least", laid_sortition_pratt_least), ("sortition/group.one", laid_sortition_group_one), ("sortition/group.two", laid_sortition_group_two), ("sortition/group.low", laid_sortition_group_low)], narrowed := true }
def GroupBackUptoSaid : Prop := groupBackUptoRow.holds Tryd.pinned (OpenSpec.upto groupBackSpec)

/-- 'sortitionlaw05.GroupTurned', WHERE WHAT IT READS IS OF BULK AT MOST 1048576: true; the input reads as it did. -/
def groupTurnedUptoRow : OpenClaim := { program := "ytdmcknmjdlghgaadoor", sum := "7d7c7d8f3d15547b738b8ef868681296af4f17cfaabfacda196d16166f3e1f03", func := "sortition/sortitionlaw05.GroupTurned", spec := "groupTurned", inPlace := ["math/bits.Add64", "math/bits.Sub64", "sync/atomic.LoadUint32", "(*internal/sync.Mutex).Lock", "internal/race.Disable", "sync/atomic.CompareAndSwapInt32", "internal/race.Enable", "internal/race.Acquire", "(*internal/sync.Mutex).lockSlow", "internal/sync.runtime_canSpin", "internal/sync.runtime_doSpin", "internal/sync.throw", "internal/sync.runtime_nanotime", "internal/sync.runtime_SemacquireMutex", "sync/atomic.AddInt32", "(*internal/sync.Mutex).Unlock", "internal/race.ReleaseMerge", "(*internal/sync.Mutex).unlockSlow", "internal/sync.fatal", "internal/sync.runtime_Semrelease", "sync/atomic.StoreUint32"], unfollowed := true, recurses := true, named := ["sortition/group.low", "sortition/group.two", "sortition/group.one", "sortition/pratt.least"], plainKeys := false, apart := false, laid := [("sortition/pratt.least", laid_sortition_pratt_least), ("sortition/group.one", laid_sortition_group_one), ("sortition/group.two", laid_sortition_group_two), ("sortition/group.low", laid_sortition_group_low)], narrowed := true }
def GroupTurnedUptoSaid : Prop := groupTurnedUptoRow.holds Tryd.pinned (OpenSpec.upto groupTurnedSpec)

/-- 'sortitionlaw05.GroupSums', WHERE WHAT IT READS IS OF BULK AT MOST 1048576: true; the input reads as it did. -/
def groupSumsUptoRow : OpenClaim := { program := "ytdmcknmjdlghgaadoor", sum := "7d7c7d8f3d15547b738b8ef868681296af4f17cfaabfacda196d16166f3e1f03", func := "sortition/sortitionlaw05.GroupSums", spec := "groupSums", inPlace := ["math/bits.Add64", "math/bits.Sub64", "sync/atomic.LoadUint32", "(*internal/sync.Mutex).Lock", "internal/race.Disable", "sync/atomic.CompareAndSwapInt32", "internal/race.Enable", "internal/race.Acquire", "(*internal/sync.Mutex).lockSlow", "internal/sync.runtime_canSpin", "internal/sync.runtime_doSpin", "internal/sync.throw", "internal/sync.runtime_nanotime", "internal/sync.runtime_SemacquireMutex", "sync/atomic.AddInt32", "(*internal/sync.Mutex).Unlock", "internal/race.ReleaseMerge", "(*internal/sync.Mutex).unlockSlow", "internal/sync.fatal", "internal/sync.runtime_Semrelease", "sync/atomic.StoreUint32"], unfollowed := true, recurses := true, named := ["sortition/group.low", "sortition/group.two", "sortition/group.one", "sortition/pratt.least"], plainKeys := false, apart := false, laid := [("sortition/pratt.least", laid_sortition_pratt_least), ("sortition/group.one", laid_sortition_group_one), ("sortition/group.two", laid_sortition_group_two), ("sortition/group.low", laid_sortition_group_low)], narrowed := true }
def GroupSumsUptoSaid : Prop := groupSumsUptoRow.holds Tryd.pinned (OpenSpec.upto groupSumsSpec)

/-- 'sortitionlaw10.ShareBinds', WHERE WHAT IT READS IS OF BULK AT MOST 1048576: true; the input reads as it did. -/
def shareBindsUptoRow : OpenClaim := { program := "ytdmcknmjdlghgaadoor", sum := "7d7c7d8f3d15547b738b8ef868681296af4f17cfaabfacda196d16166f3e1f03", func := "sortition/sortitionlaw10.ShareBinds", spec := "shareBinds", inPlace := ["math/bits.Add64", "math/bits.Sub64", "sync/atomic.LoadUint32", "(*internal/sync.Mutex).Lock", "internal/race.Disable", "sync/atomic.CompareAndSwapInt32", "internal/race.Enable", "internal/race.Acquire", "(*internal/sync.Mutex).lockSlow", "internal/sync.runtime_canSpin", "internal/sync.runtime_doSpin", "internal/sync.throw", "internal/sync.runtime_nanotime", "internal/sync.runtime_SemacquireMutex", "sync/atomic.AddInt32", "(*internal/sync.Mutex).Unlock", "internal/race.ReleaseMerge", "(*internal/sync.Mutex).unlockSlow", "internal/sync.fatal", "internal/sync.runtime_Semrelease", "sync/atomic.StoreUint32"], unfollowed := true, recurses := true, named := ["sortition/group.low", "sortition/group.two", "sortition/group.one", "sortition/pratt.least"], plainKeys := false, apart := false, laid := [("sortition/pratt.least", laid_sortition_pratt_least), ("sortition/group.one", laid_sortition_group_one), ("sortition/group.two", laid_sortition_group_two), ("sortition/group.low", laid_sortition_group_low)], narrowed := true }
def ShareBindsUptoSaid : Prop := shareBindsUptoRow.holds Tryd.pinned (OpenSpec.upto shareBindsSpec)

/-- 'sortitionlaw10.ShareTurned', WHERE WHAT IT READS IS OF BULK AT MOST 1048576: true; the input reads as it did. -/
def shareTurnedUptoRow : OpenClaim := { program := "ytdmcknmjdlghgaadoor", sum := "7d7c7d8f3d15547b738b8ef868681296af4f17cfaabfacda196d16166f3e1f03", func := "sortition/sortitionlaw10.ShareTurned", spec := "shareTurned", inPlace := ["math/bits.Add64", "math/bits.Sub64", "sync/atomic.LoadUint32", "(*internal/sync.Mutex).Lock", "internal/race.Disable", "sync/atomic.CompareAndSwapInt32", "internal/race.Enable", "internal/race.Acquire", "(*internal/sync.Mutex).lockSlow", "internal/sync.runtime_canSpin", "internal/sync.runtime_doSpin", "internal/sync.throw", "internal/sync.runtime_nanotime", "internal/sync.runtime_SemacquireMutex", "sync/atomic.AddInt32", "(*internal/sync.Mutex).Unlock", "internal/race.ReleaseMerge", "(*internal/sync.Mutex).unlockSlow", "internal/sync.fatal", "internal/sync.runtime_Semrelease", "sync/atomic.StoreUint32"], unfollowed := true, recurses := true, named := ["sortition/group.low", "sortition/group.two", "sortition/group.one", "sortition/pratt.least"], plainKeys := false, apart := false, laid := [("sortition/pratt.least", laid_sortition_pratt_least), ("sortition/group.one", laid_sortition_group_one), ("sortition/group.two", laid_sortition_group_two), ("sortition/group.low", laid_sortition_group_low)], narrowed := true }
def ShareTurnedUptoSaid : Prop := shareTurnedUptoRow.holds Tryd.pinned (OpenSpec.upto shareTurnedSpec)

/-- 'sortitionlaw10.ShareFlat', WHERE WHAT IT READS IS OF BULK AT MOST 1048576: true; the input reads as it did. -/
def shareFlatUptoRow : OpenClaim := { program := "ytdmcknmjdlghgaadoor", sum := "7d7c7d8f3d15547b738b8ef868681296af4f17cfaabfacda196d16166f3e1f03", func := "sortition/sortitionlaw10.ShareFlat", spec := "shareFlat", inPlace := ["math/bits.Add64", "math/bits.Sub64", "sync/atomic.LoadUint32", "(*internal/sync.Mutex).Lock", "internal/race.Disable", "sync/atomic.CompareAndSwapInt32", "internal/race.Enable", "internal/race.Acquire", "(*internal/sync.Mutex).lockSlow", "internal/sync.runtime_canSpin", "internal/sync.runtime_doSpin", "internal/sync.throw", "internal/sync.runtime_nanotime", "internal/sync.runtime_SemacquireMutex", "sync/atomic.AddInt32", "(*internal/sync.Mutex).Unlock", "internal/race.ReleaseMerge", "(*internal/sync.Mutex).unlockSlow", "internal/sync.fatal", "internal/sync.runtime_Semrelease", "sync/atomic.StoreUint32"], unfollowed := true, recurses := true, named := ["sortition/group.low", "sortition/group.two", "sortition/group.one", "sortition/pratt.least"], plainKeys := false, apart := false, laid := [("sortition/pratt.least", laid_sortition_pratt_least), ("sortition/group.one", laid_sortition_group_one), ("sortition/group.two", laid_sortition_group_two), ("sortition/group.low", laid_sortition_group_low)], narrowed := true }
def ShareFlatUptoSaid : Prop := shareFlatUptoRow.holds Tryd.pinned (OpenSpec.upto shareFlatSpec)

/-- 'sortitionlaw10.ShareSums', WHERE WHAT IT READS IS OF BULK AT MOST 1048576: true; the input reads as it did. -/
def shareSumsUptoRow : OpenClaim := { program := "ytdmcknmjdlghgaadoor", sum := "7d7c7d8f3d15547b738b8ef868681296af4f17cfaabfacda196d16166f3e1f03", func := "sortition/sortitionlaw10.ShareSums", spec := "shareSums", inPlace := ["math/bits.Add64", "math/bits.Sub64", "sync/atomic.LoadUint32", "(*internal/sync.Mutex).Lock", "internal/race.Disable", "sync/atomic.CompareAndSwapInt32", "internal/race.Enable", "internal/race.Acquire", "(*internal/sync.Mutex).lockSlow", "internal/sync.runtime_canSpin", "internal/sync.runtime_doSpin", "internal/sync.throw", "internal/sync.runtime_nanotime", "internal/sync.runtime_SemacquireMutex", "sync/atomic.AddInt32", "(*internal/sync.Mutex).Unlock", "internal/race.ReleaseMerge", "(*internal/sync.Mutex).unlockSlow", "internal/sync.fatal", "internal/sync.runtime_Semrelease", "sync/atomic.StoreUint32"], unfollowed := true, recurses := true, named := ["sortition/group.low", "sortition/group.two", "sortition/group.one", "sortition/pratt.least"], plainKeys := false, apart := false, laid := [("sortition/pratt.least", laid_sortition_pratt_least), ("sortition/group.one", laid_sortition_group_one), ("sortition/group.two", laid_sortition_group_two), ("sortition/group.low", laid_sortition_group_low)], narrowed := true }
def ShareSumsUptoSaid : Prop := shareSumsUptoRow.holds Tryd.pinned (OpenSpec.upto shareSumsSpec)

end Rows
end Go.Proofs.YtdmcknmjdlghgaaDoor
