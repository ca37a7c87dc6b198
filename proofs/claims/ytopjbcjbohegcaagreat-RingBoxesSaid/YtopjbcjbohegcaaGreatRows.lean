/-
  No cell of these rows narrows 'for every input' (looked for: loops, veiled, ifaces, maps, wideKeys, modest, calm, conditions, laid).
  DERIVED. THE GIVEN ROWS OF THIS SEAT. 7 by the template 'for every input the law returns true; each argument reads behind the call as it read before'; 0 by the template 'total and deterministic' (their statements: YtopjbcjbohegcaaGreatTotals.lean).
  GIVEN WITH THE SEED: the statements are not yours to turn. If you find one false, say at which input.
  Laid BY PROGRAM, IN A SANDBOX (cutbox-rows.mjs): the forced cells as the released guide's own fill.sh prints them over the translation 933f6f644c3b5223… (all of the seat's roots in one cut). By AI agents, Wed Nov 11 2026. No macro, syntax, notation, axiom, sorry.
-/
import Derived.Test.YtopjbcjbohegcaaGreatChecked
import GoSem.Claim
import GoSem.ClaimJoined
import GoSem.ClaimMapViews
import Derived.JoinedTies
import Derived.KernelRfl
namespace Go.Proofs.YtopjbcjbohegcaaGreat
/- THE CELL 'sum', in the pinned program and in every row, IS THE sha256 OF THE DUMP (.gsa) THAT YtopjbcjbohegcaaGreatProg.lean LOADS. Nothing in Lean hashes anything: it is a label: what it is worth is what the hold of that sum in a sandbox is worth. -/
noncomputable def Tryz.pinned : Pinned := { name := "ytopjbcjbohegcaagreat", sum := "933f6f644c3b522316328355b9e38cea98fc7a1c53747685da9782b3a01080fc", checked := Tryz.checked }
namespace Rows
def none {H : Type} : Left H := { results := [], args := [] }

/-- 'crosswaylaw07.GcmSeals': WHATEVER THE INPUT: true; the input reads as it did. -/
def gcmSealsSpec : ChangeSpec := { name := "gcmSeals", fn := fun _ => fun
  | [d1, d2, d3, d4] => { results := [.lit (.bool true)], args := [d1, d2, d3, d4] }
  | _ => none }
def gcmSealsRow : OpenClaim := { program := "ytopjbcjbohegcaagreat", sum := "933f6f644c3b522316328355b9e38cea98fc7a1c53747685da9782b3a01080fc", func := "crossway/crosswaylaw07.GcmSeals", spec := "gcmSeals", inPlace := ["sync/atomic.AddInt64", "sync/atomic.LoadUint32", "(*internal/sync.Mutex).Lock", "internal/race.Disable", "sync/atomic.CompareAndSwapInt32", "internal/race.Enable", "internal/race.Acquire", "(*internal/sync.Mutex).lockSlow", "internal/sync.runtime_canSpin", "internal/sync.runtime_doSpin", "internal/sync.throw", "internal/sync.runtime_nanotime", "internal/sync.runtime_SemacquireMutex", "sync/atomic.AddInt32", "(*internal/sync.Mutex).Unlock", "internal/race.ReleaseMerge", "(*internal/sync.Mutex).unlockSlow", "internal/sync.fatal", "internal/sync.runtime_Semrelease", "sync/atomic.StoreUint32", "sync/atomic.LoadInt64"], unfollowed := true, recurses := true, apart := false }
def GcmSealsSaid : Prop := gcmSealsRow.holds Tryz.pinned (OpenSpec.ofChange gcmSealsSpec)

/-- ITS FALSE NEIGHBOUR: 'it returns false'. Refute it at one input. -/
def gcmSealsWrong : ChangeSpec := { name := "gcmSeals", fn := fun _ => fun
  | [d1, d2, d3, d4] => { results := [.lit (.bool false)], args := [d1, d2, d3, d4] }
  | _ => none }
def GcmSealsWrongFalsely : Prop := gcmSealsRow.holds Tryz.pinned (OpenSpec.ofChange gcmSealsWrong)

/-- 'crosswaylaw07.GcmOpens': WHATEVER THE INPUT: true; the input reads as it did. -/
def gcmOpensSpec : ChangeSpec := { name := "gcmOpens", fn := fun _ => fun
  | [d1, d2, d3, d4, d5] => { results := [.lit (.bool true)], args := [d1, d2, d3, d4, d5] }
  | _ => none }
def gcmOpensRow : OpenClaim := { program := "ytopjbcjbohegcaagreat", sum := "933f6f644c3b522316328355b9e38cea98fc7a1c53747685da9782b3a01080fc", func := "crossway/crosswaylaw07.GcmOpens", spec := "gcmOpens", inPlace := ["sync/atomic.AddInt64", "sync/atomic.LoadUint32", "(*internal/sync.Mutex).Lock", "internal/race.Disable", "sync/atomic.CompareAndSwapInt32", "internal/race.Enable", "internal/race.Acquire", "(*internal/sync.Mutex).lockSlow", "internal/sync.runtime_canSpin", "internal/sync.runtime_doSpin", "internal/sync.throw", "internal/sync.runtime_nanotime", "internal/sync.runtime_SemacquireMutex", "sync/atomic.AddInt32", "(*internal/sync.Mutex).Unlock", "internal/race.ReleaseMerge", "(*internal/sync.Mutex).unlockSlow", "internal/sync.fatal", "internal/sync.runtime_Semrelease", "sync/atomic.StoreUint32", "sync/atomic.LoadInt64"], unfollowed := true, recurses := true, apart := false }
def GcmOpensSaid : Prop := gcmOpensRow.holds Tryz.pinned (OpenSpec.ofChange gcmOpensSpec)

/-- ITS FALSE NEIGHBOUR: 'it returns false'. Refute it at one input. -/
def gcmOpensWrong : ChangeSpec := { name := "gcmOpens", fn := fun _ => fun
  | [d1, d2, d3, d4, d5] => { results := [.lit (.bool false)], args := [d1, d2, d3, d4, d5] }
  | _ => none }
def GcmOpensWrongFalsely : Prop := gcmOpensRow.holds Tryz.pinned (OpenSpec.ofChange gcmOpensWrong)

/-- 'crosswaylaw07.GcmBack': WHATEVER THE INPUT: true; the input reads as it did. -/
def gcmBackSpec : ChangeSpec := { name := "gcmBack", fn := fun _ => fun
  | [d1, d2, d3, d4, d5, d6] => { results := [.lit (.bool true)], args := [d1, d2, d3, d4, d5, d6] }
  | _ => none }
def gcmBackRow : OpenClaim := { program := "ytopjbcjbohegcaagreat", sum := "933f6f644c3b522316328355b9e38cea98fc7a1c53747685da9782b3a01080fc", func := "crossway/crosswaylaw07.GcmBack", spec := "gcmBack", inPlace := ["sync/atomic.AddInt64", "sync/atomic.LoadUint32", "(*internal/sync.Mutex).Lock", "internal/race.Disable", "sync/atomic.CompareAndSwapInt32", "internal/race.Enable", "internal/race.Acquire", "(*internal/sync.Mutex).lockSlow", "internal/sync.runtime_canSpin", "internal/sync.runtime_doSpin", "internal/sync.throw", "internal/sync.runtime_nanotime", "internal/sync.runtime_SemacquireMutex", "sync/atomic.AddInt32", "(*internal/sync.Mutex).Unlock", "internal/race.ReleaseMerge", "(*internal/sync.Mutex).unlockSlow", "internal/sync.fatal", "internal/sync.runtime_Semrelease", "sync/atomic.StoreUint32", "sync/atomic.LoadInt64"], unfollowed := true, recurses := true, apart := false }
def GcmBackSaid : Prop := gcmBackRow.holds Tryz.pinned (OpenSpec.ofChange gcmBackSpec)

/-- ITS FALSE NEIGHBOUR: 'it returns false'. Refute it at one input. -/
def gcmBackWrong : ChangeSpec := { name := "gcmBack", fn := fun _ => fun
  | [d1, d2, d3, d4, d5, d6] => { results := [.lit (.bool false)], args := [d1, d2, d3, d4, d5, d6] }
  | _ => none }
def GcmBackWrongFalsely : Prop := gcmBackRow.holds Tryz.pinned (OpenSpec.ofChange gcmBackWrong)

/-- 'crosswaylaw18.SlotCalls': WHATEVER THE INPUT: true; the input reads as it did. -/
def slotCallsSpec : ChangeSpec := { name := "slotCalls", fn := fun _ => fun
  | [d] => { results := [.lit (.bool true)], args := [d] }
  | _ => none }
def slotCallsRow : OpenClaim := { program := "ytopjbcjbohegcaagreat", sum := "933f6f644c3b522316328355b9e38cea98fc7a1c53747685da9782b3a01080fc", func := "crossway/crosswaylaw18.SlotCalls", spec := "slotCalls", inPlace := ["sync/atomic.AddInt64", "sync/atomic.LoadUint32", "(*internal/sync.Mutex).Lock", "internal/race.Disable", "sync/atomic.CompareAndSwapInt32", "internal/race.Enable", "internal/race.Acquire", "(*internal/sync.Mutex).lockSlow", "internal/sync.runtime_canSpin", "internal/sync.runtime_doSpin", "internal/sync.throw", "internal/sync.runtime_nanotime", "internal/sync.runtime_SemacquireMutex", "sync/atomic.AddInt32", "(*internal/sync.Mutex).Unlock", "internal/race.ReleaseMerge", "(*internal/sync.Mutex).unlockSlow", "internal/sync.fatal", "internal/sync.runtime_Semrelease", "sync/atomic.StoreUint32"], unfollowed := true, recurses := true, apart := false }
def SlotCallsSaid : Prop := slotCallsRow.holds Tryz.pinned (OpenSpec.ofChange slotCallsSpec)

/-- ITS FALSE NEIGHBOUR: 'it returns false'. Refute it at one input. -/
def slotCallsWrong : ChangeSpec := { name := "slotCalls", fn := fun _ => fun
  | [d] => { results := [.lit (.bool false)], args := [d] }
  | _ => none }
def SlotCallsWrongFalsely : Prop := slotCallsRow.holds Tryz.pinned (OpenSpec.ofChange slotCallsWrong)

/-- 'crosswaylaw18.SlotShows': WHATEVER THE INPUT: true; the input reads as it did. -/
def slotShowsSpec : ChangeSpec := { name := "slotShows", fn := fun _ => fun
  | [d1, d2, d3] => { results := [.lit (.bool true)], args := [d1, d2, d3] }
  | _ => none }
def slotShowsRow : OpenClaim := { program := "ytopjbcjbohegcaagreat", sum := "933f6f644c3b522316328355b9e38cea98fc7a1c53747685da9782b3a01080fc", func := "crossway/crosswaylaw18.SlotShows", spec := "slotShows", inPlace := ["sync/atomic.AddInt64", "sync/atomic.LoadUint32", "(*internal/sync.Mutex).Lock", "internal/race.Disable", "sync/atomic.CompareAndSwapInt32", "internal/race.Enable", "internal/race.Acquire", "(*internal/sync.Mutex).lockSlow", "internal/sync.runtime_canSpin", "internal/sync.runtime_doSpin", "internal/sync.throw", "internal/sync.runtime_nanotime", "internal/sync.runtime_SemacquireMutex", "sync/atomic.AddInt32", "(*internal/sync.Mutex).Unlock", "internal/race.ReleaseMerge", "(*internal/sync.Mutex).unlockSlow", "internal/sync.fatal", "internal/sync.runtime_Semrelease", "sync/atomic.StoreUint32"], unfollowed := true, recurses := true, apart := false }
def SlotShowsSaid : Prop := slotShowsRow.holds Tryz.pinned (OpenSpec.ofChange slotShowsSpec)

/-- ITS FALSE NEIGHBOUR: 'it returns false'. Refute it at one input. -/
def slotShowsWrong : ChangeSpec := { name := "slotShows", fn := fun _ => fun
  | [d1, d2, d3] => { results := [.lit (.bool false)], args := [d1, d2, d3] }
  | _ => none }
def SlotShowsWrongFalsely : Prop := slotShowsRow.holds Tryz.pinned (OpenSpec.ofChange slotShowsWrong)

/-- 'crosswaylaw18.SlotIds': WHATEVER THE INPUT: true; the input reads as it did. -/
def slotIdsSpec : ChangeSpec := { name := "slotIds", fn := fun _ => fun
  | [d1, d2, d3, d4, d5, d6] => { results := [.lit (.bool true)], args := [d1, d2, d3, d4, d5, d6] }
  | _ => none }
def slotIdsRow : OpenClaim := { program := "ytopjbcjbohegcaagreat", sum := "933f6f644c3b522316328355b9e38cea98fc7a1c53747685da9782b3a01080fc", func := "crossway/crosswaylaw18.SlotIds", spec := "slotIds", inPlace := ["sync/atomic.AddInt64", "sync/atomic.LoadUint32", "(*internal/sync.Mutex).Lock", "internal/race.Disable", "sync/atomic.CompareAndSwapInt32", "internal/race.Enable", "internal/race.Acquire", "(*internal/sync.Mutex).lockSlow", "internal/sync.runtime_canSpin", "internal/sync.runtime_doSpin", "internal/sync.throw", "internal/sync.runtime_nanotime", "internal/sync.runtime_SemacquireMutex", "sync/atomic.AddInt32", "(*internal/sync.Mutex).Unlock", "internal/race.ReleaseMerge", "(*internal/sync.Mutex).unlockSlow", "internal/sync.fatal", "internal/sync.runtime_Semrelease", "sync/atomic.StoreUint32"], unfollowed := true, recurses := true, apart := false }
def SlotIdsSaid : Prop := slotIdsRow.holds Tryz.pinned (OpenSpec.ofChange slotIdsSpec)

/-- ITS FALSE NEIGHBOUR: 'it returns false'. Refute it at one input. -/
def slotIdsWrong : ChangeSpec := { name := "slotIds", fn := fun _ => fun
  | [d1, d2, d3, d4, d5, d6] => { results := [.lit (.bool false)], args := [d1, d2, d3, d4, d5, d6] }
  | _ => none }
def SlotIdsWrongFalsely : Prop := slotIdsRow.holds Tryz.pinned (OpenSpec.ofChange slotIdsWrong)

/-- 'crosswaylaw19.RingBoxes': WHATEVER THE INPUT: true; the input reads as it did. -/
def ringBoxesSpec : ChangeSpec := { name := "ringBoxes", fn := fun _ => fun
  | [d1, d2, d3, d4, d5] => { results := [.lit (.bool true)], args := [d1, d2, d3, d4, d5] }
  | _ => none }
def ringBoxesRow : OpenClaim := { program := "ytopjbcjbohegcaagreat", sum := "933f6f644c3b522316328355b9e38cea98fc7a1c53747685da9782b3a01080fc", func := "crossway/crosswaylaw19.RingBoxes", spec := "ringBoxes", inPlace := ["sync/atomic.AddInt64", "sync/atomic.LoadUint32", "(*internal/sync.Mutex).Lock", "internal/race.Disable", "sync/atomic.CompareAndSwapInt32", "internal/race.Enable", "internal/race.Acquire", "(*internal/sync.Mutex).lockSlow", "internal/sync.runtime_canSpin", "internal/sync.runtime_doSpin", "internal/sync.throw", "internal/sync.runtime_nanotime", "internal/sync.runtime_SemacquireMutex", "sync/atomic.AddInt32", "(*internal/sync.Mutex).Unlock", "internal/race.ReleaseMerge", "(*internal/sync.Mutex).unlockSlow", "internal/sync.fatal", "internal/sync.runtime_Semrelease", "sync/atomic.StoreUint32"], unfollowed := true, recurses := true, apart := false }
def RingBoxesSaid : Prop := ringBoxesRow.holds Tryz.pinned (OpenSpec.ofChange ringBoxesSpec)

/-- ITS FALSE NEIGHBOUR: 'it returns false'. Refute it at one input. -/
def ringBoxesWrong : ChangeSpec := { name := "ringBoxes", fn := fun _ => fun
  | [d1, d2, d3, d4, d5] => { results := [.lit (.bool false)], args := [d1, d2, d3, d4, d5] }
  | _ => none }
def RingBoxesWrongFalsely : Prop := ringBoxesRow.holds Tryz.pinned (OpenSpec.ofChange ringBoxesWrong)

/- THE SECOND FORM. 'bulk': how many values and letters a reading holds, each counted each time it is reached (what is shared counts as often as it is met; a slice's spare places count too). A statement '..UptoSaid' is the law's where the arguments, and the package variables that the reading takes, are together of bulk at most 1048576: NARROWER than '..Said'. Prove '..Said' where nothing that the law and all that it calls make is longer than what came in: it says more and counts as full. Else prove '..UptoSaid'. A law counts once. -/
mutual
def uptoBulk {H : Type} : DataW H → Nat
  | .lit (.string bytes) => bytes.length + 1
  | .lit _ => 1
  | .nil => 1
  | .ptr d => uptoBulk d + 1
  | .slice elems spare => uptoBulkAll elems + uptoBulkAll spare + 1
  | .agg parts => uptoBulkAll parts + 1
  | .iface _ d => uptoBulk d + 1
  | .map entries => uptoBulkEntries entries + 1
  | .held _ => 1
def uptoBulkAll {H : Type} : List (DataW H) → Nat
  | [] => 0
  | d :: r => uptoBulk d + uptoBulkAll r
def uptoBulkEntries {H : Type} : List (Lit × DataW H) → Nat
  | [] => 0
  | x :: r => uptoBulkEntry x + uptoBulkEntries r
def uptoBulkEntry {H : Type} : Lit × DataW H → Nat
  | (.string bytes, d) => bytes.length + uptoBulk d + 1
  | (_, d) => uptoBulk d + 1
 end
def uptoSmall : (H : Type) → List (DataW H) → Bool := fun _ ds => decide (uptoBulkAll ds ≤ 1048576)
def OpenSpec.upto (s : _root_.Go.ChangeSpec) : _root_.Go.OpenSpec := { _root_.Go.OpenSpec.ofChange s with cond := some uptoSmall }

/-- 'crosswaylaw07.GcmSeals', WHERE WHAT IT READS IS OF BULK AT MOST 1048576: true; the input reads as it did. -/
def gcmSealsUptoRow : OpenClaim := { program := "ytopjbcjbohegcaagreat", sum := "933f6f644c3b522316328355b9e38cea98fc7a1c53747685da9782b3a01080fc", func := "crossway/crosswaylaw07.GcmSeals", spec := "gcmSeals", inPlace := ["sync/atomic.AddInt64", "sync/atomic.LoadUint32", "(*internal/sync.Mutex).Lock", "internal/race.Disable", "sync/atomic.CompareAndSwapInt32", "internal/race.Enable", "internal/race.Acquire", "(*internal/sync.Mutex).lockSlow", "internal/sync.runtime_canSpin", "internal/sync.runtime_doSpin", "internal/sync.throw", "internal/sync.runtime_nanotime", "internal/sync.runtime_SemacquireMutex", "sync/atomic.AddInt32", "(*internal/sync.Mutex).Unlock", "internal/race.ReleaseMerge", "(*internal/sync.Mutex).unlockSlow", "internal/sync.fatal", "internal/sync.runtime_Semrelease", "sync/atomic.StoreUint32", "sync/atomic.LoadInt64"], unfollowed := true, recurses := true, apart := false, narrowed := true }
def GcmSealsUptoSaid : Prop := gcmSealsUptoRow.holds Tryz.pinned (OpenSpec.upto gcmSealsSpec)

/-- 'crosswaylaw07.GcmOpens', WHERE WHAT IT READS IS OF BULK AT MOST 1048576: true; the input reads as it did. -/
def gcmOpensUptoRow : OpenClaim := { program := "ytopjbcjbohegcaagreat", sum := "933f6f644c3b522316328355b9e38cea98fc7a1c53747685da9782b3a01080fc", func := "crossway/crosswaylaw07.GcmOpens", spec := "gcmOpens", inPlace := ["sync/atomic.AddInt64", "sync/atomic.LoadUint32", "(*internal/sync.Mutex).Lock", "internal/race.Disable", "sync/atomic.CompareAndSwapInt32", "internal/race.Enable", "internal/race.Acquire", "(*internal/sync.Mutex).lockSlow", "internal/sync.runtime_canSpin", "internal/sync.runtime_doSpin", "internal/sync.throw", "internal/sync.runtime_nanotime", "internal/sync.runtime_SemacquireMutex", "sync/atomic.AddInt32", "(*internal/sync.Mutex).Unlock", "internal/race.ReleaseMerge", "(*internal/sync.Mutex).unlockSlow", "internal/sync.fatal", "internal/sync.runtime_Semrelease", "sync/atomic.StoreUint32", "sync/atomic.LoadInt64"], unfollowed := true, recurses := true, apart := false, narrowed := true }
def GcmOpensUptoSaid : Prop := gcmOpensUptoRow.holds Tryz.pinned (OpenSpec.upto gcmOpensSpec)

/-- 'crosswaylaw07.GcmBack', WHERE WHAT IT READS IS OF BULK AT MOST 1048576: true; the input reads as it did. -/
def gcmBackUptoRow : OpenClaim := { program := "ytopjbcjbohegcaagreat", sum := "933f6f644c3b522316328355b9e38cea98fc7a1c53747685da9782b3a01080fc", func := "crossway/crosswaylaw07.GcmBack", spec := "gcmBack", inPlace := ["sync/atomic.AddInt64", "sync/atomic.LoadUint32", "(*internal/sync.Mutex).Lock", "internal/race.Disable", "sync/atomic.CompareAndSwapInt32", "internal/race.Enable", "internal/race.Acquire", "(*internal/sync.Mutex).lockSlow", "internal/sync.runtime_canSpin", "internal/sync.runtime_doSpin", "internal/sync.throw", "internal/sync.runtime_nanotime", "internal/sync.runtime_SemacquireMutex", "sync/atomic.AddInt32", "(*internal/sync.Mutex).Unlock", "internal/race.ReleaseMerge", "(*internal/sync.Mutex).unlockSlow", "internal/sync.fatal", "internal/sync.runtime_Semrelease", "sync/atomic.StoreUint32", "sync/atomic.LoadInt64"], unfollowed := true, recurses := true, apart := false, narrowed := true }
def GcmBackUptoSaid : Prop := gcmBackUptoRow.holds Tryz.pinned (OpenSpec.upto gcmBackSpec)

/-- 'crosswaylaw18.SlotCalls', WHERE WHAT IT READS IS OF BULK AT MOST 1048576: true; the input reads as it did. -/
def slotCallsUptoRow : OpenClaim := { program := "ytopjbcjbohegcaagreat", sum := "933f6f644c3b522316328355b9e38cea98fc7a1c53747685da9782b3a01080fc", func := "crossway/crosswaylaw18.SlotCalls", spec := "slotCalls", inPlace := ["sync/atomic.AddInt64", "sync/atomic.LoadUint32", "(*internal/sync.Mutex).Lock", "internal/race.Disable", "sync/atomic.CompareAndSwapInt32", "internal/race.Enable", "internal/race.Acquire", "(*internal/sync.Mutex).lockSlow", "internal/sync.runtime_canSpin", "internal/sync.runtime_doSpin", "internal/sync.throw", "internal/sync.runtime_nanotime", "internal/sync.runtime_SemacquireMutex", "sync/atomic.AddInt32", "(*internal/sync.Mutex).Unlock", "internal/race.ReleaseMerge", "(*internal/sync.Mutex).unlockSlow", "internal/sync.fatal", "internal/sync.runtime_Semrelease", "sync/atomic.StoreUint32"], unfollowed := true, recurses := true, apart := false, narrowed := true }
def SlotCallsUptoSaid : Prop := slotCallsUptoRow.holds Tryz.pinned (OpenSpec.upto slotCallsSpec)

/-- 'crosswaylaw18.SlotShows', WHERE WHAT IT READS IS OF BULK AT MOST 1048576: true; the input reads as it did. -/
def slotShowsUptoRow : OpenClaim := { program := "ytopjbcjbohegcaagreat", sum := "933f6f644c3b522316328355b9e38cea98fc7a1c53747685da9782b3a01080fc", func := "crossway/crosswaylaw18.SlotShows", spec := "slotShows", inPlace := ["sync/atomic.AddInt64", "sync/atomic.LoadUint32", "(*internal/sync.Mutex).Lock", "internal/race.Disable", "sync/atomic.CompareAndSwapInt32", "internal/race.Enable", "internal/race.Acquire", "(*internal/sync.Mutex).lockSlow", "internal/sync.runtime_canSpin", "internal/sync.runtime_doSpin", "internal/sync.throw", "internal/sync.runtime_nanotime", "internal/sync.runtime_SemacquireMutex", "sync/atomic.AddInt32", "(*internal/sync.Mutex).Unlock", "internal/race.ReleaseMerge", "(*internal/sync.Mutex).unlockSlow", "internal/sync.fatal", "internal/sync.runtime_Semrelease", "sync/atomic.StoreUint32"], unfollowed := true, recurses := true, apart := false, narrowed := true }
def SlotShowsUptoSaid : Prop := slotShowsUptoRow.holds Tryz.pinned (OpenSpec.upto slotShowsSpec)

/-- 'crosswaylaw18.SlotIds', WHERE WHAT IT READS IS OF BULK AT MOST 1048576: true; the input reads as it did. -/
def slotIdsUptoRow : OpenClaim := { program := "ytopjbcjbohegcaagreat", sum := "933f6f644c3b522316328355b9e38cea98fc7a1c53747685da9782b3a01080fc", func := "crossway/crosswaylaw18.SlotIds", spec := "slotIds", inPlace := ["sync/atomic.AddInt64", "sync/atomic.LoadUint32", "(*internal/sync.Mutex).Lock", "internal/race.Disable", "sync/atomic.CompareAndSwapInt32", "internal/race.Enable", "internal/race.Acquire", "(*internal/sync.Mutex).lockSlow", "internal/sync.runtime_canSpin", "internal/sync.runtime_doSpin", "internal/sync.throw", "internal/sync.runtime_nanotime", "internal/sync.runtime_SemacquireMutex", "sync/atomic.AddInt32", "(*internal/sync.Mutex).Unlock", "internal/race.ReleaseMerge", "(*internal/sync.Mutex).unlockSlow", "internal/sync.fatal", "internal/sync.runtime_Semrelease", "sync/atomic.StoreUint32"], unfollowed := true, recurses := true, apart := false, narrowed := true }
def SlotIdsUptoSaid : Prop := slotIdsUptoRow.holds Tryz.pinned (OpenSpec.upto slotIdsSpec)

/-- 'crosswaylaw19.RingBoxes', WHERE WHAT IT READS IS OF BULK AT MOST 1048576: true; the input reads as it did. -/
def ringBoxesUptoRow : OpenClaim := { program := "ytopjbcjbohegcaagreat", sum := "933f6f644c3b522316328355b9e38cea98fc7a1c53747685da9782b3a01080fc", func := "crossway/crosswaylaw19.RingBoxes", spec := "ringBoxes", inPlace := ["sync/atomic.AddInt64", "sync/atomic.LoadUint32", "(*internal/sync.Mutex).Lock", "internal/race.Disable", "sync/atomic.CompareAndSwapInt32", "internal/race.Enable", "internal/race.Acquire", "(*internal/sync.Mutex).lockSlow", "internal/sync.runtime_canSpin", "internal/sync.runtime_doSpin", "internal/sync.throw", "internal/sync.runtime_nanotime", "internal/sync.runtime_SemacquireMutex", "sync/atomic.AddInt32", "(*internal/sync.Mutex).Unlock", "internal/race.ReleaseMerge", "(*internal/sync.Mutex).unlockSlow", "internal/sync.fatal", "internal/sync.runtime_Semrelease", "sync/atomic.StoreUint32"], unfollowed := true, recurses := true, apart := false, narrowed := true }
def RingBoxesUptoSaid : Prop := ringBoxesUptoRow.holds Tryz.pinned (OpenSpec.upto ringBoxesSpec)

end Rows
end Go.Proofs.YtopjbcjbohegcaaGreat
