/-
  No cell of these rows narrows 'for every input' (looked for: loops, veiled, ifaces, maps, wideKeys, modest, calm, conditions, laid).
  DERIVED. THE GIVEN ROWS OF THIS SEAT. 6 by the template 'for every input the law returns true; each argument reads behind the call as it read before'; 0 by the template 'total and deterministic' (their statements: YtlfdlhgbppahgaaGreatTotals.lean).
  GIVEN WITH THE SEED: the statements are not yours to turn. If you find one false, say at which input.
  Laid BY PROGRAM, IN A SANDBOX (cutbox-rows.mjs): the forced cells as the released guide's own fill.sh prints them over the translation 63463f5708050843… (all of the seat's roots in one cut). By AI agents, Wed Nov 11 2026. No macro, syntax, notation, axiom, sorry.
-/
import Derived.Test.YtlfdlhgbppahgaaGreatChecked
import GoSem.Claim
import GoSem.ClaimJoined
import GoSem.ClaimMapViews
import Derived.JoinedTies
import Derived.KernelRfl
namespace Go.Proofs.YtlfdlhgbppahgaaGreat
/- THE CELL 'sum', in the pinned program and in every row, IS THE sha256 OF THE DUMP (.gsa) THAT YtlfdlhgbppahgaaGreatProg.lean LOADS. Nothing in Lean hashes anything: it is a label: what it is worth is what the hold of that sum in a sandbox is worth. -/
noncomputable def Tryz.pinned : Pinned := { name := "ytlfdlhgbppahgaagreat", sum := "63463f57080508433514003b851bd2e2eca81c7d30a7ce096672dee083537fe7", checked := Tryz.checked }
namespace Rows
def none {H : Type} : Left H := { results := [], args := [] }

/-- 'crosswaylaw21.MintThreshold': WHATEVER THE INPUT: true; the input reads as it did. -/
def mintThresholdSpec : ChangeSpec := { name := "mintThreshold", fn := fun _ => fun
  | [d1, d2] => { results := [.lit (.bool true)], args := [d1, d2] }
  | _ => none }
def mintThresholdRow : OpenClaim := { program := "ytlfdlhgbppahgaagreat", sum := "63463f57080508433514003b851bd2e2eca81c7d30a7ce096672dee083537fe7", func := "crossway/crosswaylaw21.MintThreshold", spec := "mintThreshold", inPlace := ["sync/atomic.AddInt64", "sync/atomic.LoadUint32", "(*internal/sync.Mutex).Lock", "internal/race.Disable", "sync/atomic.CompareAndSwapInt32", "internal/race.Enable", "internal/race.Acquire", "(*internal/sync.Mutex).lockSlow", "internal/sync.runtime_canSpin", "internal/sync.runtime_doSpin", "internal/sync.throw", "internal/sync.runtime_nanotime", "internal/sync.runtime_SemacquireMutex", "sync/atomic.AddInt32", "(*internal/sync.Mutex).Unlock", "internal/race.ReleaseMerge", "(*internal/sync.Mutex).unlockSlow", "internal/sync.fatal", "internal/sync.runtime_Semrelease", "sync/atomic.StoreUint32", "internal/bytealg.IndexByteString", "sync/atomic.LoadInt64"], unfollowed := true, recurses := true, apart := false }
def MintThresholdSaid : Prop := mintThresholdRow.holds Tryz.pinned (OpenSpec.ofChange mintThresholdSpec)

/-- ITS FALSE NEIGHBOUR: 'it returns false'. Refute it at one input. -/
def mintThresholdWrong : ChangeSpec := { name := "mintThreshold", fn := fun _ => fun
  | [d1, d2] => { results := [.lit (.bool false)], args := [d1, d2] }
  | _ => none }
def MintThresholdWrongFalsely : Prop := mintThresholdRow.holds Tryz.pinned (OpenSpec.ofChange mintThresholdWrong)

/-- 'crosswaylaw21.MintChecks': WHATEVER THE INPUT: true; the input reads as it did. -/
def mintChecksSpec : ChangeSpec := { name := "mintChecks", fn := fun _ => fun
  | [d1, d2, d3] => { results := [.lit (.bool true)], args := [d1, d2, d3] }
  | _ => none }
def mintChecksRow : OpenClaim := { program := "ytlfdlhgbppahgaagreat", sum := "63463f57080508433514003b851bd2e2eca81c7d30a7ce096672dee083537fe7", func := "crossway/crosswaylaw21.MintChecks", spec := "mintChecks", inPlace := ["sync/atomic.AddInt64", "sync/atomic.LoadUint32", "(*internal/sync.Mutex).Lock", "internal/race.Disable", "sync/atomic.CompareAndSwapInt32", "internal/race.Enable", "internal/race.Acquire", "(*internal/sync.Mutex).lockSlow", "internal/sync.runtime_canSpin", "internal/sync.runtime_doSpin", "internal/sync.throw", "internal/sync.runtime_nanotime", "internal/sync.runtime_SemacquireMutex", "sync/atomic.AddInt32", "(*internal/sync.Mutex).Unlock", "internal/race.ReleaseMerge", "(*internal/sync.Mutex).unlockSlow", "internal/sync.fatal", "internal/sync.runtime_Semrelease", "sync/atomic.StoreUint32", "internal/bytealg.IndexByteString", "sync/atomic.LoadInt64"], unfollowed := true, recurses := true, apart := false }
def MintChecksSaid : Prop := mintChecksRow.holds Tryz.pinned (OpenSpec.ofChange mintChecksSpec)

/-- ITS FALSE NEIGHBOUR: 'it returns false'. Refute it at one input. -/
def mintChecksWrong : ChangeSpec := { name := "mintChecks", fn := fun _ => fun
  | [d1, d2, d3] => { results := [.lit (.bool false)], args := [d1, d2, d3] }
  | _ => none }
def MintChecksWrongFalsely : Prop := mintChecksRow.holds Tryz.pinned (OpenSpec.ofChange mintChecksWrong)

/-- 'crosswaylaw21.MintCounts': WHATEVER THE INPUT: true; the input reads as it did. -/
def mintCountsSpec : ChangeSpec := { name := "mintCounts", fn := fun _ => fun
  | [d1, d2] => { results := [.lit (.bool true)], args := [d1, d2] }
  | _ => none }
def mintCountsRow : OpenClaim := { program := "ytlfdlhgbppahgaagreat", sum := "63463f57080508433514003b851bd2e2eca81c7d30a7ce096672dee083537fe7", func := "crossway/crosswaylaw21.MintCounts", spec := "mintCounts", inPlace := ["sync/atomic.AddInt64", "sync/atomic.LoadUint32", "(*internal/sync.Mutex).Lock", "internal/race.Disable", "sync/atomic.CompareAndSwapInt32", "internal/race.Enable", "internal/race.Acquire", "(*internal/sync.Mutex).lockSlow", "internal/sync.runtime_canSpin", "internal/sync.runtime_doSpin", "internal/sync.throw", "internal/sync.runtime_nanotime", "internal/sync.runtime_SemacquireMutex", "sync/atomic.AddInt32", "(*internal/sync.Mutex).Unlock", "internal/race.ReleaseMerge", "(*internal/sync.Mutex).unlockSlow", "internal/sync.fatal", "internal/sync.runtime_Semrelease", "sync/atomic.StoreUint32", "internal/bytealg.IndexByteString", "sync/atomic.LoadInt64"], unfollowed := true, recurses := true, apart := false }
def MintCountsSaid : Prop := mintCountsRow.holds Tryz.pinned (OpenSpec.ofChange mintCountsSpec)

/-- ITS FALSE NEIGHBOUR: 'it returns false'. Refute it at one input. -/
def mintCountsWrong : ChangeSpec := { name := "mintCounts", fn := fun _ => fun
  | [d1, d2] => { results := [.lit (.bool false)], args := [d1, d2] }
  | _ => none }
def MintCountsWrongFalsely : Prop := mintCountsRow.holds Tryz.pinned (OpenSpec.ofChange mintCountsWrong)

/-- 'crosswaylaw21.MintTokens': WHATEVER THE INPUT: true; the input reads as it did. -/
def mintTokensSpec : ChangeSpec := { name := "mintTokens", fn := fun _ => fun
  | [d1, d2, d3, d4, d5, d6] => { results := [.lit (.bool true)], args := [d1, d2, d3, d4, d5, d6] }
  | _ => none }
def mintTokensRow : OpenClaim := { program := "ytlfdlhgbppahgaagreat", sum := "63463f57080508433514003b851bd2e2eca81c7d30a7ce096672dee083537fe7", func := "crossway/crosswaylaw21.MintTokens", spec := "mintTokens", inPlace := ["sync/atomic.AddInt64", "sync/atomic.LoadUint32", "(*internal/sync.Mutex).Lock", "internal/race.Disable", "sync/atomic.CompareAndSwapInt32", "internal/race.Enable", "internal/race.Acquire", "(*internal/sync.Mutex).lockSlow", "internal/sync.runtime_canSpin", "internal/sync.runtime_doSpin", "internal/sync.throw", "internal/sync.runtime_nanotime", "internal/sync.runtime_SemacquireMutex", "sync/atomic.AddInt32", "(*internal/sync.Mutex).Unlock", "internal/race.ReleaseMerge", "(*internal/sync.Mutex).unlockSlow", "internal/sync.fatal", "internal/sync.runtime_Semrelease", "sync/atomic.StoreUint32", "internal/bytealg.IndexByteString", "sync/atomic.LoadInt64"], unfollowed := true, recurses := true, apart := false }
def MintTokensSaid : Prop := mintTokensRow.holds Tryz.pinned (OpenSpec.ofChange mintTokensSpec)

/-- ITS FALSE NEIGHBOUR: 'it returns false'. Refute it at one input. -/
def mintTokensWrong : ChangeSpec := { name := "mintTokens", fn := fun _ => fun
  | [d1, d2, d3, d4, d5, d6] => { results := [.lit (.bool false)], args := [d1, d2, d3, d4, d5, d6] }
  | _ => none }
def MintTokensWrongFalsely : Prop := mintTokensRow.holds Tryz.pinned (OpenSpec.ofChange mintTokensWrong)

/-- 'crosswaylaw21.MintNewest': WHATEVER THE INPUT: true; the input reads as it did. -/
def mintNewestSpec : ChangeSpec := { name := "mintNewest", fn := fun _ => fun
  | [d1, d2, d3] => { results := [.lit (.bool true)], args := [d1, d2, d3] }
  | _ => none }
def mintNewestRow : OpenClaim := { program := "ytlfdlhgbppahgaagreat", sum := "63463f57080508433514003b851bd2e2eca81c7d30a7ce096672dee083537fe7", func := "crossway/crosswaylaw21.MintNewest", spec := "mintNewest", inPlace := ["sync/atomic.AddInt64", "sync/atomic.LoadUint32", "(*internal/sync.Mutex).Lock", "internal/race.Disable", "sync/atomic.CompareAndSwapInt32", "internal/race.Enable", "internal/race.Acquire", "(*internal/sync.Mutex).lockSlow", "internal/sync.runtime_canSpin", "internal/sync.runtime_doSpin", "internal/sync.throw", "internal/sync.runtime_nanotime", "internal/sync.runtime_SemacquireMutex", "sync/atomic.AddInt32", "(*internal/sync.Mutex).Unlock", "internal/race.ReleaseMerge", "(*internal/sync.Mutex).unlockSlow", "internal/sync.fatal", "internal/sync.runtime_Semrelease", "sync/atomic.StoreUint32", "internal/bytealg.IndexByteString", "sync/atomic.LoadInt64"], unfollowed := true, recurses := true, apart := false }
def MintNewestSaid : Prop := mintNewestRow.holds Tryz.pinned (OpenSpec.ofChange mintNewestSpec)

/-- ITS FALSE NEIGHBOUR: 'it returns false'. Refute it at one input. -/
def mintNewestWrong : ChangeSpec := { name := "mintNewest", fn := fun _ => fun
  | [d1, d2, d3] => { results := [.lit (.bool false)], args := [d1, d2, d3] }
  | _ => none }
def MintNewestWrongFalsely : Prop := mintNewestRow.holds Tryz.pinned (OpenSpec.ofChange mintNewestWrong)

/-- 'crosswaylaw21.MintCalls': WHATEVER THE INPUT: true; the input reads as it did. -/
def mintCallsSpec : ChangeSpec := { name := "mintCalls", fn := fun _ => fun
  | [d1, d2, d3] => { results := [.lit (.bool true)], args := [d1, d2, d3] }
  | _ => none }
def mintCallsRow : OpenClaim := { program := "ytlfdlhgbppahgaagreat", sum := "63463f57080508433514003b851bd2e2eca81c7d30a7ce096672dee083537fe7", func := "crossway/crosswaylaw21.MintCalls", spec := "mintCalls", inPlace := ["sync/atomic.AddInt64", "sync/atomic.LoadUint32", "(*internal/sync.Mutex).Lock", "internal/race.Disable", "sync/atomic.CompareAndSwapInt32", "internal/race.Enable", "internal/race.Acquire", "(*internal/sync.Mutex).lockSlow", "internal/sync.runtime_canSpin", "internal/sync.runtime_doSpin", "internal/sync.throw", "internal/sync.runtime_nanotime", "internal/sync.runtime_SemacquireMutex", "sync/atomic.AddInt32", "(*internal/sync.Mutex).Unlock", "internal/race.ReleaseMerge", "(*internal/sync.Mutex).unlockSlow", "internal/sync.fatal", "internal/sync.runtime_Semrelease", "sync/atomic.StoreUint32", "internal/bytealg.IndexByteString", "sync/atomic.LoadInt64"], unfollowed := true, recurses := true, apart := false }
def MintCallsSaid : Prop := mintCallsRow.holds Tryz.pinned (OpenSpec.ofChange mintCallsSpec)

/-- ITS FALSE NEIGHBOUR: 'it returns false'. Refute it at one input. -/
def mintCallsWrong : ChangeSpec := { name := "mintCalls", fn := fun _ => fun
  | [d1, d2, d3] => { results := [.lit (.bool false)], args := [d1, d2, d3] }
  | _ => none }
def MintCallsWrongFalsely : Prop := mintCallsRow.holds Tryz.pinned (OpenSpec.ofChange mintCallsWrong)

/- THE SECOND FORM. 'bulk': how many values and letters a reading holds, each counted each time it is reached (what is shared counts as often as it is met; a slice's spare places count too). A statement '..UptoSaid' is the law's where the arguments, and the package variables that the reading takes, are together of bulk at most 1048576: NARROWER than '..Said'. Prove '..Said' where nothing that the law and all that it calls make is longer than what came in: it says more and counts as full. Else prove '..UptoSaid'. A law counts once. -/
mutual
def uptoBulk {H : Type} : DataW H → Nat
  | .lit (.string bytes) => bytes.length + 1
  | .lit _ => 1
  | .nil => 1
  | .ptr d => uptoBulk d + 1
  | .slice elems spare => uptoBulkAll elems + uptoBulkAll spare + 1
  | .agg parts => uptoBulkAll parts + 1
  | .iface _ d => uptoBulk d + 1
  | .map entries => uptoBulkEntries entries + 1
  | .held _ => 1
def uptoBulkAll {H : Type} : List (DataW H) → Nat
  | [] => 0
  | d :: r => uptoBulk d + uptoBulkAll r
def uptoBulkEntries {H : Type} : List (Lit × DataW H) → Nat
  | [] => 0
  | x :: r => uptoBulkEntry x + uptoBulkEntries r
def uptoBulkEntry {H : Type} : Lit × DataW H → Nat
  | (.string bytes, d) => bytes.length + uptoBulk d + 1
  | (_, d) => uptoBulk d + 1
 end
def uptoSmall : (H : Type) → List (DataW H) → Bool := fun _ ds => decide (uptoBulkAll ds ≤ 1048576)
def OpenSpec.upto (s : _root_.Go.ChangeSpec) : _root_.Go.OpenSpec := { _root_.Go.OpenSpec.ofChange s with cond := some uptoSmall }

/-- 'crosswaylaw21.MintThreshold', WHERE WHAT IT READS IS OF BULK AT MOST 1048576: true; the input reads as it did. -/
def mintThresholdUptoRow : OpenClaim := { program := "ytlfdlhgbppahgaagreat", sum := "63463f57080508433514003b851bd2e2eca81c7d30a7ce096672dee083537fe7", func := "crossway/crosswaylaw21.MintThreshold", spec := "mintThreshold", inPlace := ["sync/atomic.AddInt64", "sync/atomic.LoadUint32", "(*internal/sync.Mutex).Lock", "internal/race.Disable", "sync/atomic.CompareAndSwapInt32", "internal/race.Enable", "internal/race.Acquire", "(*internal/sync.Mutex).lockSlow", "internal/sync.runtime_canSpin", "internal/sync.runtime_doSpin", "internal/sync.throw", "internal/sync.runtime_nanotime", "internal/sync.runtime_SemacquireMutex", "sync/atomic.AddInt32", "(*internal/sync.Mutex).Unlock", "internal/race.ReleaseMerge", "(*internal/sync.Mutex).unlockSlow", "internal/sync.fatal", "internal/sync.runtime_Semrelease", "sync/atomic.StoreUint32", "internal/bytealg.IndexByteString", "sync/atomic.LoadInt64"], unfollowed := true, recurses := true, apart := false, narrowed := true }
def MintThresholdUptoSaid : Prop := mintThresholdUptoRow.holds Tryz.pinned (OpenSpec.upto mintThresholdSpec)

/-- 'crosswaylaw21.MintChecks', WHERE WHAT IT READS IS OF BULK AT MOST 1048576: true; the input reads as it did. -/
def mintChecksUptoRow : OpenClaim := { program := "ytlfdlhgbppahgaagreat", sum := "63463f57080508433514003b851bd2e2eca81c7d30a7ce096672dee083537fe7", func := "crossway/crosswaylaw21.MintChecks", spec := "mintChecks", inPlace := ["sync/atomic.AddInt64", "sync/atomic.LoadUint32", "(*internal/sync.Mutex).Lock", "internal/race.Disable", "sync/atomic.CompareAndSwapInt32", "internal/race.Enable", "internal/race.Acquire", "(*internal/sync.Mutex).lockSlow", "internal/sync.runtime_canSpin", "internal/sync.runtime_doSpin", "internal/sync.throw", "internal/sync.runtime_nanotime", "internal/sync.runtime_SemacquireMutex", "sync/atomic.AddInt32", "(*internal/sync.Mutex).Unlock", "internal/race.ReleaseMerge", "(*internal/sync.Mutex).unlockSlow", "internal/sync.fatal", "internal/sync.runtime_Semrelease", "sync/atomic.StoreUint32", "internal/bytealg.IndexByteString", "sync/atomic.LoadInt64"], unfollowed := true, recurses := true, apart := false, narrowed := true }
def MintChecksUptoSaid : Prop := mintChecksUptoRow.holds Tryz.pinned (OpenSpec.upto mintChecksSpec)

/-- 'crosswaylaw21.MintCounts', WHERE WHAT IT READS IS OF BULK AT MOST 1048576: true; the input reads as it did. -/
def mintCountsUptoRow : OpenClaim := { program := "ytlfdlhgbppahgaagreat", sum := "63463f57080508433514003b851bd2e2eca81c7d30a7ce096672dee083537fe7", func := "crossway/crosswaylaw21.MintCounts", spec := "mintCounts", inPlace := ["sync/atomic.AddInt64", "sync/atomic.LoadUint32", "(*internal/sync.Mutex).Lock", "internal/race.Disable", "sync/atomic.CompareAndSwapInt32", "internal/race.Enable", "internal/race.Acquire", "(*internal/sync.Mutex).lockSlow", "internal/sync.runtime_canSpin", "internal/sync.runtime_doSpin", "internal/sync.throw", "internal/sync.runtime_nanotime", "internal/sync.runtime_SemacquireMutex", "sync/atomic.AddInt32", "(*internal/sync.Mutex).Unlock", "internal/race.ReleaseMerge", "(*internal/sync.Mutex).unlockSlow", "internal/sync.fatal", "internal/sync.runtime_Semrelease", "sync/atomic.StoreUint32", "internal/bytealg.IndexByteString", "sync/atomic.LoadInt64"], unfollowed := true, recurses := true, apart := false, narrowed := true }
def MintCountsUptoSaid : Prop := mintCountsUptoRow.holds Tryz.pinned (OpenSpec.upto mintCountsSpec)

/-- 'crosswaylaw21.MintTokens', WHERE WHAT IT READS IS OF BULK AT MOST 1048576: true; the input reads as it did. -/
def mintTokensUptoRow : OpenClaim := { program := "ytlfdlhgbppahgaagreat", sum := "63463f57080508433514003b851bd2e2eca81c7d30a7ce096672dee083537fe7", func := "crossway/crosswaylaw21.MintTokens", spec := "mintTokens", inPlace := ["sync/atomic.AddInt64", "sync/atomic.LoadUint32", "(*internal/sync.Mutex).Lock", "internal/race.Disable", "sync/atomic.CompareAndSwapInt32", "internal/race.Enable", "internal/race.Acquire", "(*internal/sync.Mutex).lockSlow", "internal/sync.runtime_canSpin", "internal/sync.runtime_doSpin", "internal/sync.throw", "internal/sync.runtime_nanotime", "internal/sync.runtime_SemacquireMutex", "sync/atomic.AddInt32", "(*internal/sync.Mutex).Unlock", "internal/race.ReleaseMerge", "(*internal/sync.Mutex).unlockSlow", "internal/sync.fatal", "internal/sync.runtime_Semrelease", "sync/atomic.StoreUint32", "internal/bytealg.IndexByteString", "sync/atomic.LoadInt64"], unfollowed := true, recurses := true, apart := false, narrowed := true }
def MintTokensUptoSaid : Prop := mintTokensUptoRow.holds Tryz.pinned (OpenSpec.upto mintTokensSpec)

/-- 'crosswaylaw21.MintNewest', WHERE WHAT IT READS IS OF BULK AT MOST 1048576: true; the input reads as it did. -/
def mintNewestUptoRow : OpenClaim := { program := "ytlfdlhgbppahgaagreat", sum := "63463f57080508433514003b851bd2e2eca81c7d30a7ce096672dee083537fe7", func := "crossway/crosswaylaw21.MintNewest", spec := "mintNewest", inPlace := ["sync/atomic.AddInt64", "sync/atomic.LoadUint32", "(*internal/sync.Mutex).Lock", "internal/race.Disable", "sync/atomic.CompareAndSwapInt32", "internal/race.Enable", "internal/race.Acquire", "(*internal/sync.Mutex).lockSlow", "internal/sync.runtime_canSpin", "internal/sync.runtime_doSpin", "internal/sync.throw", "internal/sync.runtime_nanotime", "internal/sync.runtime_SemacquireMutex", "sync/atomic.AddInt32", "(*internal/sync.Mutex).Unlock", "internal/race.ReleaseMerge", "(*internal/sync.Mutex).unlockSlow", "internal/sync.fatal", "internal/sync.runtime_Semrelease", "sync/atomic.StoreUint32", "internal/bytealg.IndexByteString", "sync/atomic.LoadInt64"], unfollowed := true, recurses := true, apart := false, narrowed := true }
def MintNewestUptoSaid : Prop := mintNewestUptoRow.holds Tryz.pinned (OpenSpec.upto mintNewestSpec)

/-- 'crosswaylaw21.MintCalls', WHERE WHAT IT READS IS OF BULK AT MOST 1048576: true; the input reads as it did. -/
def mintCallsUptoRow : OpenClaim := { program := "ytlfdlhgbppahgaagreat", sum := "63463f57080508433514003b851bd2e2eca81c7d30a7ce096672dee083537fe7", func := "crossway/crosswaylaw21.MintCalls", spec := "mintCalls", inPlace := ["sync/atomic.AddInt64", "sync/atomic.LoadUint32", "(*internal/sync.Mutex).Lock", "internal/race.Disable", "sync/atomic.CompareAndSwapInt32", "internal/race.Enable", "internal/race.Acquire", "(*internal/sync.Mutex).lockSlow", "internal/sync.runtime_canSpin", "internal/sync.runtime_doSpin", "internal/sync.throw", "internal/sync.runtime_nanotime", "internal/sync.runtime_SemacquireMutex", "sync/atomic.AddInt32", "(*internal/sync.Mutex).Unlock", "internal/race.ReleaseMerge", "(*internal/sync.Mutex).unlockSlow", "internal/sync.fatal", "internal/sync.runtime_Semrelease", "sync/atomic.StoreUint32", "internal/bytealg.IndexByteString", "sync/atomic.LoadInt64"], unfollowed := true, recurses := true, apart := false, narrowed := true }
def MintCallsUptoSaid : Prop := mintCallsUptoRow.holds Tryz.pinned (OpenSpec.upto mintCallsSpec)

end Rows
end Go.Proofs.YtlfdlhgbppahgaaGreat
