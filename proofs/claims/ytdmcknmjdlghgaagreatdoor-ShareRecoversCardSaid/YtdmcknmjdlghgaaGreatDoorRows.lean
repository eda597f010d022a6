/-
  NARROWER THAN 'FOR EVERY INPUT', by the rows' own cells (each row's printed sentence says how): ShareDeals: laid · ShareChecks: laid · ShareRecovers: laid.
  DERIVED. THE GIVEN ROWS OF THIS SEAT. 3 by the template 'for every input the law returns true; each argument reads behind the call as it read before'; 0 by the template 'total and deterministic' (their statements: YtdmcknmjdlghgaaGreatDoorTotals.lean).
  GIVEN WITH THE SEED: the statements are not yours to turn. If you find one false, say at which input.
  Laid BY PROGRAM, IN A SANDBOX (cutbox-rows.mjs): the forced cells as the released guide's own fill.sh prints them over the translation 290e40d243900d9c… (all of the seat's roots in one cut). By AI agents, Wed Nov 11 2026. No macro, syntax, notation, axiom, sorry.
-/
import Derived.Test.YtdmcknmjdlghgaaGreatDoorChecked
import GoSem.Claim
import GoSem.ClaimJoined
import GoSem.ClaimMapViews
import Derived.JoinedTies
import Derived.KernelRfl
namespace Go.Proofs.YtdmcknmjdlghgaaGreatDoor
/- THE CELL 'sum', in the pinned program and in every row, IS THE sha256 OF THE DUMP (.gsa) THAT YtdmcknmjdlghgaaGreatDoorProg.lean LOADS. Nothing in Lean hashes anything: it is a label: what it is worth is what the hold of that sum in a sandbox is worth. -/
noncomputable def Tryz.pinned : Pinned := { name := "ytdmcknmjdlghgaagreatdoor", sum := "290e40d243900d9cfac2fa890e68c645c3fb8071175da0bf4aace22aa53046aa", checked := Tryz.checked }
namespace Rows
def none {H : Type} : Left H := { results := [], args := [] }

/- WHAT THE LISTED PACKAGE-LEVEL VARIABLES READ AS WHEN THE CALL BEGINS. Each datum BY PROGRAM (the guide's laid-datum.mjs) off the statement by which the dump's own 'gosem.cut.vars' lays the variable. In a bare row this is a premise. The card (YtdmcknmjdlghgaaGreatDoorCards.lean) ties it to the program's text. -/
def laid_sortition_pratt_least {H : Type} : DataW H := .agg [.lit (.int .u64 2), .lit (.int .u64 0), .lit (.int .u64 0), .lit (.int .u64 0)]
def laid_sortition_group_one {H : Type} : DataW H := .agg [.lit (.int .u64 1), .lit (.int .u64 0), .lit (.int .u64 0), .lit (.int .u64 0)]
def laid_sortition_group_two {H : Type} : DataW H := .agg [.lit (.int .u64 2), .lit (.int .u64 0), .lit (.int .u64 0), .lit (.int .u64 0)]
def laid_sortition_group_low {H : Type} : DataW H := .agg [.lit (.int .u64 5), .lit (.int .u64 0), .lit (.int .u64 0), .lit (.int .u64 0)]

/-- 'sortitionlaw10.ShareDeals': WHATEVER THE INPUT: true; the input reads as it did. -/
def shareDealsSpec : ChangeSpec := { name := "shareDeals", fn := fun _ => fun
  | [d1, d2, d3, d4] => { results := [.lit (.bool true)], args := [d1, d2, d3, d4] }
  | _ => none }
def shareDealsRow : OpenClaim := { program := "ytdmcknmjdlghgaagreatdoor", sum := "290e40d243900d9cfac2fa890e68c645c3fb8071175da0bf4aace22aa53046aa", func := "sortition/sortitionlaw10.ShareDeals", spec := "shareDeals", inPlace := ["math/bits.Add64", "math/bits.Sub64", "sync/atomic.LoadUint32", "(*internal/sync.Mutex).Lock", "internal/race.Disable", "sync/atomic.CompareAndSwapInt32", "internal/race.Enable", "internal/race.Acquire", "(*internal/sync.Mutex).lockSlow", "internal/sync.runtime_canSpin", "internal/sync.runtime_doSpin", "internal/sync.throw", "internal/sync.runtime_nanotime", "internal/sync.runtime_SemacquireMutex", "sync/atomic.AddInt32", "(*internal/sync.Mutex).Unlock", "internal/race.ReleaseMerge", "(*internal/sync.Mutex).unlockSlow", "internal/sync.fatal", "internal/sync.runtime_Semrelease", "sync/atomic.StoreUint32"], unfollowed := true, recurses := true, named := ["sortition/group.low", "sortition/group.two", "sortition/group.one", "sortition/pratt.least"], plainKeys := false, apart := false, laid := [("sortition/pratt.least", laid_sortition_pratt_least), ("sortition/group.one", laid_sortition_group_one), ("sortition/group.two", laid_sortition_group_two), ("sortition/group.low", laid_sortition_group_low)] }
def ShareDealsSaid : Prop := shareDealsRow.holds Tryz.pinned (OpenSpec.ofChange shareDealsSpec)

/-- ITS FALSE NEIGHBOUR: 'it returns false'. Refute it at one input. -/
def shareDealsWrong : ChangeSpec := { name := "shareDeals", fn := fun _ => fun
  | [d1, d2, d3, d4] => { results := [.lit (.bool false)], args := [d1, d2, d3, d4] }
  | _ => none }
def ShareDealsWrongFalsely : Prop := shareDealsRow.holds Tryz.pinned (OpenSpec.ofChange shareDealsWrong)

/-- 'sortitionlaw10.ShareChecks': WHATEVER THE INPUT: true; the input reads as it did. -/
def shareChecksSpec : ChangeSpec := { name := "shareChecks", fn := fun _ => fun
  | [d1, d2, d3, d4, d5] => { results := [.lit (.bool true)], args := [d1, d2, d3, d4, d5] }
  | _ => none }
def shareChecksRow : OpenClaim := { program := "ytdmcknmjdlghgaagreatdoor", sum := "290e40d243900d9cfac2fa890e68c645c3fb8071175da0bf4aace22aa53046aa", func := "sortition/sortitionlaw10.ShareChecks", spec := "shareChecks", inPlace := ["math/bits.Add64", "math/bits.Sub64", "sync/atomic.LoadUint32", "(*internal/sync.Mutex).Lock", "internal/race.Disable", "sync/atomic.CompareAndSwapInt32", "internal/race.Enable", "internal/race.Acquire", "(*internal/sync.Mutex).lockSlow", "internal/sync.runtime_canSpin", "internal/sync.runtime_doSpin", "internal/sync.throw", "internal/sync.runtime_nanotime", "internal/sync.runtime_SemacquireMutex", "sync/atomic.AddInt32", "(*internal/sync.Mutex).Unlock", "internal/race.ReleaseMerge", "(*internal/sync.Mutex).unlockSlow", "internal/sync.fatal", "internal/sync.runtime_Semrelease", "sync/atomic.StoreUint32"], unfollowed := true, recurses := true, named := ["sortition/group.low", "sortition/group.two", "sortition/group.one", "sortition/pratt.least"], plainKeys := false, apart := false, laid := [("sortition/pratt.least", laid_sortition_pratt_least), ("sortition/group.one", laid_sortition_group_one), ("sortition/group.two", laid_sortition_group_two), ("sortition/group.low", laid_sortition_group_low)] }
def ShareChecksSaid : Prop := shareChecksRow.holds Tryz.pinned (OpenSpec.ofChange shareChecksSpec)

/-- ITS FALSE NEIGHBOUR: 'it returns false'. Refute it at one input. -/
def shareChecksWrong : ChangeSpec := { name := "shareChecks", fn := fun _ => fun
  | [d1, d2, d3, d4, d5] => { results := [.lit (.bool false)], args := [d1, d2, d3, d4, d5] }
  | _ => none }
def ShareChecksWrongFalsely : Prop := shareChecksRow.holds Tryz.pinned (OpenSpec.ofChange shareChecksWrong)

/-- 'sortitionlaw10.ShareRecovers': WHATEVER THE INPUT: true; the input reads as it did. -/
def shareRecoversSpec : ChangeSpec := { name := "shareRecovers", fn := fun _ => fun
  | [d1, d2, d3] => { results := [.lit (.bool true)], args := [d1, d2, d3] }
  | _ => none }
def shareRecoversRow : OpenClaim := { program := "ytdmcknmjdlghgaagreatdoor", sum := "290e40d243900d9cfac2fa890e68c645c3fb8071175da0bf4aace22aa53046aa", func := "sortition/sortitionlaw10.ShareRecovers", spec := "shareRecovers", inPlace := ["math/bits.Add64", "math/bits.Sub64", "sync/atomic.LoadUint32", "(*internal/sync.Mutex).Lock", "internal/race.Disable", "sync/atomic.CompareAndSwapInt32", "internal/race.Enable", "internal/race.Acquire", "(*internal/sync.Mutex).lockSlow", "internal/sync.runtime_canSpin", "internal/sync.runtime_doSpin", "internal/sync.throw", "internal/sync.runtime_nanotime", "internal/sync.runtime_SemacquireMutex", "sync/atomic.AddInt32", "(*internal/sync.Mutex).Unlock", "internal/race.ReleaseMerge", "(*internal/sync.Mutex).unlockSlow", "internal/sync.fatal", "internal/sync.runtime_Semrelease", "sync/atomic.StoreUint32"], unfollowed := true, recurses := true, named := ["sortition/group.low", "sortition/group.two", "sortition/group.one", "sortition/pratt.least"], plainKeys := false, apart := false, laid := [("sortition/pratt.least", laid_sortition_pratt_least), ("sortition/group.one", laid_sortition_group_one), ("sortition/group.two", laid_sortition_group_two), ("sortition/group.low", laid_sortition_group_low)] }
def ShareRecoversSaid : Prop := shareRecoversRow.holds Tryz.pinned (OpenSpec.ofChange shareRecoversSpec)

/-- ITS FALSE NEIGHBOUR: 'it returns false'. Refute it at one input. -/
def shareRecoversWrong : ChangeSpec := { name := "shareRecovers", fn := fun _ => fun
  | [d1, d2, d3] => { results := [.lit (.bool false)], args := [d1, d2, d3] }
  | _ => none }
def ShareRecoversWrongFalsely : Prop := shareRecoversRow.holds Tryz.pinned (OpenSpec.ofChange shareRecoversWrong)

/- THE SECOND FORM. 'bulk': how many values and letters a reading holds, each counted each time it is reached (what is shared counts as often as it is met; a slice's spare places count too). A statement '..UptoSaid' is the law's where the arguments, and the package variables that the reading takes, are together of bulk at most 1048576: NARROWER than '..Said'. Prove '..Said' where nothing that the law and all that it calls make is longer than what came in: it says more and counts as full. Else prove '..UptoSaid'. A law counts once. -/
mutual
def uptoBulk {H : Type} : DataW H → Nat
  | .lit (.string bytes) => bytes.length + 1
  | .lit _ => 1
  | .nil => 1
  | .ptr d => uptoBulk d + 1
  | .slice elems spare => uptoBulkAll elems + uptoBulkAll spare + 1
  | .agg parts => uptoBulkAll parts + 1
  | .iface _ d => uptoBulk d + 1
  | .map entries => uptoBulkEntries entries + 1
  | .held _ => 1
def uptoBulkAll {H : Type} : List (DataW H) → Nat
  | [] => 0
  | d :: r => uptoBulk d + uptoBulkAll r
def uptoBulkEntries {H : Type} : List (Lit × DataW H) → Nat
  | [] => 0
  | x :: r => uptoBulkEntry x + uptoBulkEntries r
def uptoBulkEntry {H : Type} : Lit × DataW H → Nat
  | (.string bytes, d) => bytes.length + uptoBulk d + 1
  | (_, d) => uptoBulk d + 1
 end
def uptoSmall : (H : Type) → List (DataW H) → Bool := fun _ ds => decide (uptoBulkAll ds ≤ 1048576)
def OpenSpec.upto (s : _root_.Go.ChangeSpec) : _root_.Go.OpenSpec := { _root_.Go.OpenSpec.ofChange s with cond := some uptoSmall }

/-- 'sortitionlaw10.ShareDeals', WHERE WHAT IT READS IS OF BULK AT MOST 1048576: true; the input reads as it did. -/
def shareDealsUptoRow : OpenClaim := { program := "ytdmcknmjdlghgaagreatdoor", sum := "290e40d243900d9cfac2fa890e68c645c3fb8071175da0bf4aace22aa53046aa", func := "sortition/sortitionlaw10.ShareDeals", spec := "shareDeals", inPlace := ["math/bits.Add64", "math/bits.Sub64", "sync/atomic.LoadUint32", "(*internal/sync.Mutex).Lock", "internal/race.Disable", "sync/atomic.CompareAndSwapInt32", "internal/race.Enable", "internal/race.Acquire", "(*internal/sync.Mutex).lockSlow", "internal/sync.runtime_canSpin", "internal/sync.runtime_doSpin", "internal/sync.throw", "internal/sync.runtime_nanotime", "internal/sync.runtime_SemacquireMutex", "sync/atomic.AddInt32", "(*internal/sync.Mutex).Unlock", "internal/race.ReleaseMerge", "(*internal/sync.Mutex).unlockSlow", "internal/sync.fatal", "internal/sync.runtime_Semrelease", "sync/atomic.StoreUint32"], unfollowed := true, recurses := true, named := ["sortition/group.low", "sortition/group.two", "sortition/group.one", "sortition/pratt.least"], plainKeys := false, apart := false, laid := [("sortition/pratt.least", laid_sortition_pratt_least), ("sortition/group.one", laid_sortition_group_one), ("sortition/group.two", laid_sortition_group_two), ("sortition/group.low", laid_sortition_group_low)], narrowed := true }
def ShareDealsUptoSaid : Prop := shareDealsUptoRow.holds Tryz.pinned (OpenSpec.upto shareDealsSpec)

/-- 'sortitionlaw10.ShareChecks', WHERE WHAT IT READS IS OF BULK AT MOST 1048576: true; the input reads as it did. -/
def shareChecksUptoRow : OpenClaim := { program := "ytdmcknmjdlghgaagreatdoor", sum := "290e40d243900d9cfac2fa890e68c645c3fb8071175da0bf4aace22aa53046aa", func := "sortition/sortitionlaw10.ShareChecks", spec := "shareChecks", inPlace := ["math/bits.Add64", "math/bits.Sub64", "sync/atomic.LoadUint32", "(*internal/sync.Mutex).Lock", "internal/race.Disable", "sync/atomic.CompareAndSwapInt32", "internal/race.Enable", "internal/race.Acquire", "(*internal/sync.Mutex).lockSlow", "internal/sync.runtime_canSpin", "internal/sync.runtime_doSpin", "internal/sync.throw", "internal/sync.runtime_nanotime", "internal/sync.runtime_SemacquireMutex", "sync/atomic.AddInt32", "(*internal/sync.Mutex).Unlock", "internal/race.ReleaseMerge", "(*internal/sync.Mutex).unlockSlow", "internal/sync.fatal", "internal/sync.runtime_Semrelease", "sync/atomic.StoreUint32"], unfollowed := true, recurses := true, named := ["sortition/group.low", "sortition/group.two", "sortition/group.one", "sortition/pratt.least"], plainKeys := false, apart := false, laid := [("sortition/pratt.least", laid_sortition_pratt_least), ("sortition/group.one", laid_sortition_group_one), ("sortition/group.two", laid_sortition_group_two), ("sortition/group.low", laid_sortition_group_low)], narrowed := true }
def ShareChecksUptoSaid : Prop := shareChecksUptoRow.holds Tryz.pinned (OpenSpec.upto shareChecksSpec)

/-- 'sortitionlaw10.ShareRecovers', WHERE WHAT IT READS IS OF BULK AT MOST 1048576: true; the input reads as it did. -/
def shareRecoversUptoRow : OpenClaim := { program := "ytdmcknmjdlghgaagreatdoor", sum := "290e40d243900d9cfac2fa890e68c645c3fb8071175da0bf4aace22aa53046aa", func := "sortition/sortitionlaw10.ShareRecovers", spec := "shareRecovers", inPlace := ["math/bits.Add64", "math/bits.Sub64", "sync/atomic.LoadUint32", "(*internal/sync.Mutex).Lock", "internal/race.Disable", "sync/atomic.CompareAndSwapInt32", "internal/race.Enable", "internal/race.Acquire", "(*internal/sync.Mutex).lockSlow", "internal/sync.runtime_canSpin", "internal/sync.runtime_doSpin", "internal/sync.throw", "internal/sync.runtime_nanotime", "internal/sync.runtime_SemacquireMutex", "sync/atomic.AddInt32", "(*internal/sync.Mutex).Unlock", "internal/race.ReleaseMerge", "(*internal/sync.Mutex).unlockSlow", "internal/sync.fatal", "internal/sync.runtime_Semrelease", "sync/atomic.StoreUint32"], unfollowed := true, recurses := true, named := ["sortition/group.low", "sortition/group.two", "sortition/group.one", "sortition/pratt.least"], plainKeys := false, apart := false, laid := [("sortition/pratt.least", laid_sortition_pratt_least), ("sortition/group.one", laid_sortition_group_one), ("sortition/group.two", laid_sortition_group_two), ("sortition/group.low", laid_sortition_group_low)], narrowed := true }
def ShareRecoversUptoSaid : Prop := shareRecoversUptoRow.holds Tryz.pinned (OpenSpec.upto shareRecoversSpec)

end Rows
end Go.Proofs.YtdmcknmjdlghgaaGreatDoor
