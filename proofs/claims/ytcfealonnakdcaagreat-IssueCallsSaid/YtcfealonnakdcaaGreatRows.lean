/-
  No cell of these rows narrows 'for every input' (looked for: loops, veiled, ifaces, maps, wideKeys, modest, calm, conditions, laid).
  DERIVED. THE GIVEN ROWS OF THIS SEAT. 20 by the template 'for every input the law returns true; each argument reads behind the call as it read before'; 0 by the template 'total and deterministic' (their statements: YtcfealonnakdcaaGreatTotals.lean).
  GIVEN WITH THE SEED: the statements are not yours to turn. If you find one false, say at which input.
  Laid BY PROGRAM, IN A SANDBOX (cutbox-rows.mjs): the forced cells as the released guide's own fill.sh prints them over the translation 16fca8df848ad7e6… (all of the seat's roots in one cut). By AI agents, Wed Nov 11 2026. No macro, syntax, notation, axiom, sorry.
-/
import Derived.Test.YtcfealonnakdcaaGreatChecked
import GoSem.Claim
import GoSem.ClaimJoined
import GoSem.ClaimMapViews
import Derived.JoinedTies
import Derived.KernelRfl
namespace Go.Proofs.YtcfealonnakdcaaGreat
/- THE CELL 'sum', in the pinned program and in every row, IS THE sha256 OF THE DUMP (.gsa) THAT YtcfealonnakdcaaGreatProg.lean LOADS. Nothing in Lean hashes anything: it is a label: what it is worth is what the hold of that sum in a sandbox is worth. -/
noncomputable def Tryz.pinned : Pinned := { name := "ytcfealonnakdcaagreat", sum := "16fca8df848ad7e6b60f0375b2862fe26fce8a276c336b5072833de8ac16d14e", checked := Tryz.checked }
namespace Rows
def none {H : Type} : Left H := { results := [], args := [] }

/-- 'crosswaylaw28.IssueCalls': WHATEVER THE INPUT: true; the input reads as it did. -/
def issueCallsSpec : ChangeSpec := { name := "issueCalls", fn := fun _ => fun
  | [d1, d2, d3, d4, d5, d6, d7] => { results := [.lit (.bool true)], args := [d1, d2, d3, d4, d5, d6, d7] }
  | _ => none }
def issueCallsRow : OpenClaim := { program := "ytcfealonnakdcaagreat", sum := "16fca8df848ad7e6b60f0375b2862fe26fce8a276c336b5072833de8ac16d14e", func := "crossway/crosswaylaw28.IssueCalls", spec := "issueCalls", inPlace := ["sync/atomic.AddInt64", "sync/atomic.LoadUint32", "(*internal/sync.Mutex).Lock", "internal/race.Disable", "sync/atomic.CompareAndSwapInt32", "internal/race.Enable", "internal/race.Acquire", "(*internal/sync.Mutex).lockSlow", "internal/sync.runtime_canSpin", "internal/sync.runtime_doSpin", "internal/sync.throw", "internal/sync.runtime_nanotime", "internal/sync.runtime_SemacquireMutex", "sync/atomic.AddInt32", "(*internal/sync.Mutex).Unlock", "internal/race.ReleaseMerge", "(*internal/sync.Mutex).unlockSlow", "internal/sync.fatal", "internal/sync.runtime_Semrelease", "sync/atomic.StoreUint32", "maps.clone"], unfollowed := true, recurses := true, apart := false }
def IssueCallsSaid : Prop := issueCallsRow.holds Tryz.pinned (OpenSpec.ofChange issueCallsSpec)

/-- ITS FALSE NEIGHBOUR: 'it returns false'. Refute it at one input. -/
def issueCallsWrong : ChangeSpec := { name := "issueCalls", fn := fun _ => fun
  | [d1, d2, d3, d4, d5, d6, d7] => { results := [.lit (.bool false)], args := [d1, d2, d3, d4, d5, d6, d7] }
  | _ => none }
def IssueCallsWrongFalsely : Prop := issueCallsRow.holds Tryz.pinned (OpenSpec.ofChange issueCallsWrong)

/-- 'crosswaylaw28.IssueRoom': WHATEVER THE INPUT: true; the input reads as it did. -/
def issueRoomSpec : ChangeSpec := { name := "issueRoom", fn := fun _ => fun
  | [d1, d2, d3, d4, d5, d6] => { results := [.lit (.bool true)], args := [d1, d2, d3, d4, d5, d6] }
  | _ => none }
def issueRoomRow : OpenClaim := { program := "ytcfealonnakdcaagreat", sum := "16fca8df848ad7e6b60f0375b2862fe26fce8a276c336b5072833de8ac16d14e", func := "crossway/crosswaylaw28.IssueRoom", spec := "issueRoom", inPlace := ["sync/atomic.AddInt64", "sync/atomic.LoadUint32", "(*internal/sync.Mutex).Lock", "internal/race.Disable", "sync/atomic.CompareAndSwapInt32", "internal/race.Enable", "internal/race.Acquire", "(*internal/sync.Mutex).lockSlow", "internal/sync.runtime_canSpin", "internal/sync.runtime_doSpin", "internal/sync.throw", "internal/sync.runtime_nanotime", "internal/sync.runtime_SemacquireMutex", "sync/atomic.AddInt32", "(*internal/sync.Mutex).Unlock", "internal/race.ReleaseMerge", "(*internal/sync.Mutex).unlockSlow", "internal/sync.fatal", "internal/sync.runtime_Semrelease", "sync/atomic.StoreUint32", "maps.clone"], unfollowed := true, recurses := true, apart := false }
def IssueRoomSaid : Prop := issueRoomRow.holds Tryz.pinned (OpenSpec.ofChange issueRoomSpec)

/-- ITS FALSE NEIGHBOUR: 'it returns false'. Refute it at one input. -/
def issueRoomWrong : ChangeSpec := { name := "issueRoom", fn := fun _ => fun
  | [d1, d2, d3, d4, d5, d6] => { results := [.lit (.bool false)], args := [d1, d2, d3, d4, d5, d6] }
  | _ => none }
def IssueRoomWrongFalsely : Prop := issueRoomRow.holds Tryz.pinned (OpenSpec.ofChange issueRoomWrong)

/-- 'crosswaylaw28.IssueApart': WHATEVER THE INPUT: true; the input reads as it did. -/
def issueApartSpec : ChangeSpec := { name := "issueApart", fn := fun _ => fun
  | [d1, d2, d3, d4, d5, d6] => { results := [.lit (.bool true)], args := [d1, d2, d3, d4, d5, d6] }
  | _ => none }
def issueApartRow : OpenClaim := { program := "ytcfealonnakdcaagreat", sum := "16fca8df848ad7e6b60f0375b2862fe26fce8a276c336b5072833de8ac16d14e", func := "crossway/crosswaylaw28.IssueApart", spec := "issueApart", inPlace := ["sync/atomic.AddInt64", "sync/atomic.LoadUint32", "(*internal/sync.Mutex).Lock", "internal/race.Disable", "sync/atomic.CompareAndSwapInt32", "internal/race.Enable", "internal/race.Acquire", "(*internal/sync.Mutex).lockSlow", "internal/sync.runtime_canSpin", "internal/sync.runtime_doSpin", "internal/sync.throw", "internal/sync.runtime_nanotime", "internal/sync.runtime_SemacquireMutex", "sync/atomic.AddInt32", "(*internal/sync.Mutex).Unlock", "internal/race.ReleaseMerge", "(*internal/sync.Mutex).unlockSlow", "internal/sync.fatal", "internal/sync.runtime_Semrelease", "sync/atomic.StoreUint32", "maps.clone"], unfollowed := true, recurses := true, apart := false }
def IssueApartSaid : Prop := issueApartRow.holds Tryz.pinned (OpenSpec.ofChange issueApartSpec)

/-- ITS FALSE NEIGHBOUR: 'it returns false'. Refute it at one input. -/
def issueApartWrong : ChangeSpec := { name := "issueApart", fn := fun _ => fun
  | [d1, d2, d3, d4, d5, d6] => { results := [.lit (.bool false)], args := [d1, d2, d3, d4, d5, d6] }
  | _ => none }
def IssueApartWrongFalsely : Prop := issueApartRow.holds Tryz.pinned (OpenSpec.ofChange issueApartWrong)

/-- 'crosswaylaw28.IssueOnce': WHATEVER THE INPUT: true; the input reads as it did. -/
def issueOnceSpec : ChangeSpec := { name := "issueOnce", fn := fun _ => fun
  | [d1, d2, d3, d4, d5] => { results := [.lit (.bool true)], args := [d1, d2, d3, d4, d5] }
  | _ => none }
def issueOnceRow : OpenClaim := { program := "ytcfealonnakdcaagreat", sum := "16fca8df848ad7e6b60f0375b2862fe26fce8a276c336b5072833de8ac16d14e", func := "crossway/crosswaylaw28.IssueOnce", spec := "issueOnce", inPlace := ["sync/atomic.AddInt64", "sync/atomic.LoadUint32", "(*internal/sync.Mutex).Lock", "internal/race.Disable", "sync/atomic.CompareAndSwapInt32", "internal/race.Enable", "internal/race.Acquire", "(*internal/sync.Mutex).lockSlow", "internal/sync.runtime_canSpin", "internal/sync.runtime_doSpin", "internal/sync.throw", "internal/sync.runtime_nanotime", "internal/sync.runtime_SemacquireMutex", "sync/atomic.AddInt32", "(*internal/sync.Mutex).Unlock", "internal/race.ReleaseMerge", "(*internal/sync.Mutex).unlockSlow", "internal/sync.fatal", "internal/sync.runtime_Semrelease", "sync/atomic.StoreUint32", "maps.clone"], unfollowed := true, recurses := true, apart := false }
def IssueOnceSaid : Prop := issueOnceRow.holds Tryz.pinned (OpenSpec.ofChange issueOnceSpec)

/-- ITS FALSE NEIGHBOUR: 'it returns false'. Refute it at one input. -/
def issueOnceWrong : ChangeSpec := { name := "issueOnce", fn := fun _ => fun
  | [d1, d2, d3, d4, d5] => { results := [.lit (.bool false)], args := [d1, d2, d3, d4, d5] }
  | _ => none }
def IssueOnceWrongFalsely : Prop := issueOnceRow.holds Tryz.pinned (OpenSpec.ofChange issueOnceWrong)

/-- 'crosswaylaw12.StampMakes': WHATEVER THE INPUT: true; the input reads as it did. -/
def stampMakesSpec : ChangeSpec := { name := "stampMakes", fn := fun _ => fun
  | [d1, d2, d3, d4] => { results := [.lit (.bool true)], args := [d1, d2, d3, d4] }
  | _ => none }
def stampMakesRow : OpenClaim := { program := "ytcfealonnakdcaagreat", sum := "16fca8df848ad7e6b60f0375b2862fe26fce8a276c336b5072833de8ac16d14e", func := "crossway/crosswaylaw12.StampMakes", spec := "stampMakes", inPlace := ["internal/bytealg.IndexByteString", "sync/atomic.AddInt64", "sync/atomic.LoadUint32", "(*internal/sync.Mutex).Lock", "internal/race.Disable", "sync/atomic.CompareAndSwapInt32", "internal/race.Enable", "internal/race.Acquire", "(*internal/sync.Mutex).lockSlow", "internal/sync.runtime_canSpin", "internal/sync.runtime_doSpin", "internal/sync.throw", "internal/sync.runtime_nanotime", "internal/sync.runtime_SemacquireMutex", "sync/atomic.AddInt32", "(*internal/sync.Mutex).Unlock", "internal/race.ReleaseMerge", "(*internal/sync.Mutex).unlockSlow", "internal/sync.fatal", "internal/sync.runtime_Semrelease", "sync/atomic.StoreUint32"], unfollowed := true, recurses := true, apart := false }
def StampMakesSaid : Prop := stampMakesRow.holds Tryz.pinned (OpenSpec.ofChange stampMakesSpec)

/-- ITS FALSE NEIGHBOUR: 'it returns false'. Refute it at one input. -/
def stampMakesWrong : ChangeSpec := { name := "stampMakes", fn := fun _ => fun
  | [d1, d2, d3, d4] => { results := [.lit (.bool false)], args := [d1, d2, d3, d4] }
  | _ => none }
def StampMakesWrongFalsely : Prop := stampMakesRow.holds Tryz.pinned (OpenSpec.ofChange stampMakesWrong)

/-- 'crosswaylaw12.StampParses': WHATEVER THE INPUT: true; the input reads as it did. -/
def stampParsesSpec : ChangeSpec := { name := "stampParses", fn := fun _ => fun
  | [d1, d2] => { results := [.lit (.bool true)], args := [d1, d2] }
  | _ => none }
def stampParsesRow : OpenClaim := { program := "ytcfealonnakdcaagreat", sum := "16fca8df848ad7e6b60f0375b2862fe26fce8a276c336b5072833de8ac16d14e", func := "crossway/crosswaylaw12.StampParses", spec := "stampParses", inPlace := ["internal/bytealg.IndexByteString", "sync/atomic.AddInt64", "sync/atomic.LoadUint32", "(*internal/sync.Mutex).Lock", "internal/race.Disable", "sync/atomic.CompareAndSwapInt32", "internal/race.Enable", "internal/race.Acquire", "(*internal/sync.Mutex).lockSlow", "internal/sync.runtime_canSpin", "internal/sync.runtime_doSpin", "internal/sync.throw", "internal/sync.runtime_nanotime", "internal/sync.runtime_SemacquireMutex", "sync/atomic.AddInt32", "(*internal/sync.Mutex).Unlock", "internal/race.ReleaseMerge", "(*internal/sync.Mutex).unlockSlow", "internal/sync.fatal", "internal/sync.runtime_Semrelease", "sync/atomic.StoreUint32"], unfollowed := true, recurses := true, apart := false }
def StampParsesSaid : Prop := stampParsesRow.holds Tryz.pinned (OpenSpec.ofChange stampParsesSpec)

/-- ITS FALSE NEIGHBOUR: 'it returns false'. Refute it at one input. -/
def stampParsesWrong : ChangeSpec := { name := "stampParses", fn := fun _ => fun
  | [d1, d2] => { results := [.lit (.bool false)], args := [d1, d2] }
  | _ => none }
def StampParsesWrongFalsely : Prop := stampParsesRow.holds Tryz.pinned (OpenSpec.ofChange stampParsesWrong)

/-- 'crosswaylaw12.StampEnds': WHATEVER THE INPUT: true; the input reads as it did. -/
def stampEndsSpec : ChangeSpec := { name := "stampEnds", fn := fun _ => fun
  | [d1, d2, d3, d4, d5] => { results := [.lit (.bool true)], args := [d1, d2, d3, d4, d5] }
  | _ => none }
def stampEndsRow : OpenClaim := { program := "ytcfealonnakdcaagreat", sum := "16fca8df848ad7e6b60f0375b2862fe26fce8a276c336b5072833de8ac16d14e", func := "crossway/crosswaylaw12.StampEnds", spec := "stampEnds", inPlace := ["internal/bytealg.IndexByteString", "sync/atomic.AddInt64", "sync/atomic.LoadUint32", "(*internal/sync.Mutex).Lock", "internal/race.Disable", "sync/atomic.CompareAndSwapInt32", "internal/race.Enable", "internal/race.Acquire", "(*internal/sync.Mutex).lockSlow", "internal/sync.runtime_canSpin", "internal/sync.runtime_doSpin", "internal/sync.throw", "internal/sync.runtime_nanotime", "internal/sync.runtime_SemacquireMutex", "sync/atomic.AddInt32", "(*internal/sync.Mutex).Unlock", "internal/race.ReleaseMerge", "(*internal/sync.Mutex).unlockSlow", "internal/sync.fatal", "internal/sync.runtime_Semrelease", "sync/atomic.StoreUint32"], unfollowed := true, recurses := true, apart := false }
def StampEndsSaid : Prop := stampEndsRow.holds Tryz.pinned (OpenSpec.ofChange stampEndsSpec)

/-- ITS FALSE NEIGHBOUR: 'it returns false'. Refute it at one input. -/
def stampEndsWrong : ChangeSpec := { name := "stampEnds", fn := fun _ => fun
  | [d1, d2, d3, d4, d5] => { results := [.lit (.bool false)], args := [d1, d2, d3, d4, d5] }
  | _ => none }
def StampEndsWrongFalsely : Prop := stampEndsRow.holds Tryz.pinned (OpenSpec.ofChange stampEndsWrong)

/-- 'crosswaylaw20.TokenTexts': WHATEVER THE INPUT: true; the input reads as it did. -/
def tokenTextsSpec : ChangeSpec := { name := "tokenTexts", fn := fun _ => fun
  | [d1, d2, d3] => { results := [.lit (.bool true)], args := [d1, d2, d3] }
  | _ => none }
def tokenTextsRow : OpenClaim := { program := "ytcfealonnakdcaagreat", sum := "16fca8df848ad7e6b60f0375b2862fe26fce8a276c336b5072833de8ac16d14e", func := "crossway/crosswaylaw20.TokenTexts", spec := "tokenTexts", inPlace := ["sync/atomic.AddInt64", "sync/atomic.LoadUint32", "(*internal/sync.Mutex).Lock", "internal/race.Disable", "sync/atomic.CompareAndSwapInt32", "internal/race.Enable", "internal/race.Acquire", "(*internal/sync.Mutex).lockSlow", "internal/sync.runtime_canSpin", "internal/sync.runtime_doSpin", "internal/sync.throw", "internal/sync.runtime_nanotime", "internal/sync.runtime_SemacquireMutex", "sync/atomic.AddInt32", "(*internal/sync.Mutex).Unlock", "internal/race.ReleaseMerge", "(*internal/sync.Mutex).unlockSlow", "internal/sync.fatal", "internal/sync.runtime_Semrelease", "sync/atomic.StoreUint32"], unfollowed := true, recurses := true, apart := false }
def TokenTextsSaid : Prop := tokenTextsRow.holds Tryz.pinned (OpenSpec.ofChange tokenTextsSpec)

/-- ITS FALSE NEIGHBOUR: 'it returns false'. Refute it at one input. -/
def tokenTextsWrong : ChangeSpec := { name := "tokenTexts", fn := fun _ => fun
  | [d1, d2, d3] => { results := [.lit (.bool false)], args := [d1, d2, d3] }
  | _ => none }
def TokenTextsWrongFalsely : Prop := tokenTextsRow.holds Tryz.pinned (OpenSpec.ofChange tokenTextsWrong)

/-- 'crosswaylaw20.TokenSeals': WHATEVER THE INPUT: true; the input reads as it did. -/
def tokenSealsSpec : ChangeSpec := { name := "tokenSeals", fn := fun _ => fun
  | [d1, d2, d3, d4, d5] => { results := [.lit (.bool true)], args := [d1, d2, d3, d4, d5] }
  | _ => none }
def tokenSealsRow : OpenClaim := { program := "ytcfealonnakdcaagreat", sum := "16fca8df848ad7e6b60f0375b2862fe26fce8a276c336b5072833de8ac16d14e", func := "crossway/crosswaylaw20.TokenSeals", spec := "tokenSeals", inPlace := ["sync/atomic.AddInt64", "sync/atomic.LoadUint32", "(*internal/sync.Mutex).Lock", "internal/race.Disable", "sync/atomic.CompareAndSwapInt32", "internal/race.Enable", "internal/race.Acquire", "(*internal/sync.Mutex).lockSlow", "internal/sync.runtime_canSpin", "internal/sync.runtime_doSpin", "internal/sync.throw", "internal/sync.runtime_nanotime", "internal/sync.runtime_SemacquireMutex", "sync/atomic.AddInt32", "(*internal/sync.Mutex).Unlock", "internal/race.ReleaseMerge", "(*internal/sync.Mutex).unlockSlow", "internal/sync.fatal", "internal/sync.runtime_Semrelease", "sync/atomic.StoreUint32"], unfollowed := true, recurses := true, apart := false }
def TokenSealsSaid : Prop := tokenSealsRow.holds Tryz.pinned (OpenSpec.ofChange tokenSealsSpec)

/-- ITS FALSE NEIGHBOUR: 'it returns false'. Refute it at one input. -/
def tokenSealsWrong : ChangeSpec := { name := "tokenSeals", fn := fun _ => fun
  | [d1, d2, d3, d4, d5] => { results := [.lit (.bool false)], args := [d1, d2, d3, d4, d5] }
  | _ => none }
def TokenSealsWrongFalsely : Prop := tokenSealsRow.holds Tryz.pinned (OpenSpec.ofChange tokenSealsWrong)

/-- 'crosswaylaw20.TokenOpens': WHATEVER THE INPUT: true; the input reads as it did. -/
def tokenOpensSpec : ChangeSpec := { name := "tokenOpens", fn := fun _ => fun
  | [d1, d2, d3, d4] => { results := [.lit (.bool true)], args := [d1, d2, d3, d4] }
  | _ => none }
def tokenOpensRow : OpenClaim := { program := "ytcfealonnakdcaagreat", sum := "16fca8df848ad7e6b60f0375b2862fe26fce8a276c336b5072833de8ac16d14e", func := "crossway/crosswaylaw20.TokenOpens", spec := "tokenOpens", inPlace := ["sync/atomic.AddInt64", "sync/atomic.LoadUint32", "(*internal/sync.Mutex).Lock", "internal/race.Disable", "sync/atomic.CompareAndSwapInt32", "internal/race.Enable", "internal/race.Acquire", "(*internal/sync.Mutex).lockSlow", "internal/sync.runtime_canSpin", "internal/sync.runtime_doSpin", "internal/sync.throw", "internal/sync.runtime_nanotime", "internal/sync.runtime_SemacquireMutex", "sync/atomic.AddInt32", "(*internal/sync.Mutex).Unlock", "internal/race.ReleaseMerge", "(*internal/sync.Mutex).unlockSlow", "internal/sync.fatal", "internal/sync.runtime_Semrelease", "sync/atomic.StoreUint32"], unfollowed := true, recurses := true, apart := false }
def TokenOpensSaid : Prop := tokenOpensRow.holds Tryz.pinned (OpenSpec.ofChange tokenOpensSpec)

/-- ITS FALSE NEIGHBOUR: 'it returns false'. Refute it at one input. -/
def tokenOpensWrong : ChangeSpec := { name := "tokenOpens", fn := fun _ => fun
  | [d1, d2, d3, d4] => { results := [.lit (.bool false)], args := [d1, d2, d3, d4] }
  | _ => none }
def TokenOpensWrongFalsely : Prop := tokenOpensRow.holds Tryz.pinned (OpenSpec.ofChange tokenOpensWrong)

/-- 'crosswaylaw20.TokenApart': WHATEVER THE INPUT: true; the input reads as it did. -/
def tokenApartSpec : ChangeSpec := { name := "tokenApart", fn := fun _ => fun
  | [d1, d2, d3, d4, d5, d6, d7] => { results := [.lit (.bool true)], args := [d1, d2, d3, d4, d5, d6, d7] }
  | _ => none }
def tokenApartRow : OpenClaim := { program := "ytcfealonnakdcaagreat", sum := "16fca8df848ad7e6b60f0375b2862fe26fce8a276c336b5072833de8ac16d14e", func := "crossway/crosswaylaw20.TokenApart", spec := "tokenApart", inPlace := ["sync/atomic.AddInt64", "sync/atomic.LoadUint32", "(*internal/sync.Mutex).Lock", "internal/race.Disable", "sync/atomic.CompareAndSwapInt32", "internal/race.Enable", "internal/race.Acquire", "(*internal/sync.Mutex).lockSlow", "internal/sync.runtime_canSpin", "internal/sync.runtime_doSpin", "internal/sync.throw", "internal/sync.runtime_nanotime", "internal/sync.runtime_SemacquireMutex", "sync/atomic.AddInt32", "(*internal/sync.Mutex).Unlock", "internal/race.ReleaseMerge", "(*internal/sync.Mutex).unlockSlow", "internal/sync.fatal", "internal/sync.runtime_Semrelease", "sync/atomic.StoreUint32"], unfollowed := true, recurses := true, apart := false }
def TokenApartSaid : Prop := tokenApartRow.holds Tryz.pinned (OpenSpec.ofChange tokenApartSpec)

/-- ITS FALSE NEIGHBOUR: 'it returns false'. Refute it at one input. -/
def tokenApartWrong : ChangeSpec := { name := "tokenApart", fn := fun _ => fun
  | [d1, d2, d3, d4, d5, d6, d7] => { results := [.lit (.bool false)], args := [d1, d2, d3, d4, d5, d6, d7] }
  | _ => none }
def TokenApartWrongFalsely : Prop := tokenApartRow.holds Tryz.pinned (OpenSpec.ofChange tokenApartWrong)

/-- 'crosswaylaw20.TokenKeys': WHATEVER THE INPUT: true; the input reads as it did. -/
def tokenKeysSpec : ChangeSpec := { name := "tokenKeys", fn := fun _ => fun
  | [d1, d2, d3, d4, d5, d6] => { results := [.lit (.bool true)], args := [d1, d2, d3, d4, d5, d6] }
  | _ => none }
def tokenKeysRow : OpenClaim := { program := "ytcfealonnakdcaagreat", sum := "16fca8df848ad7e6b60f0375b2862fe26fce8a276c336b5072833de8ac16d14e", func := "crossway/crosswaylaw20.TokenKeys", spec := "tokenKeys", inPlace := ["sync/atomic.AddInt64", "sync/atomic.LoadUint32", "(*internal/sync.Mutex).Lock", "internal/race.Disable", "sync/atomic.CompareAndSwapInt32", "internal/race.Enable", "internal/race.Acquire", "(*internal/sync.Mutex).lockSlow", "internal/sync.runtime_canSpin", "internal/sync.runtime_doSpin", "internal/sync.throw", "internal/sync.runtime_nanotime", "internal/sync.runtime_SemacquireMutex", "sync/atomic.AddInt32", "(*internal/sync.Mutex).Unlock", "internal/race.ReleaseMerge", "(*internal/sync.Mutex).unlockSlow", "internal/sync.fatal", "internal/sync.runtime_Semrelease", "sync/atomic.StoreUint32"], unfollowed := true, recurses := true, apart := false }
def TokenKeysSaid : Prop := tokenKeysRow.holds Tryz.pinned (OpenSpec.ofChange tokenKeysSpec)

/-- ITS FALSE NEIGHBOUR: 'it returns false'. Refute it at one input. -/
def tokenKeysWrong : ChangeSpec := { name := "tokenKeys", fn := fun _ => fun
  | [d1, d2, d3, d4, d5, d6] => { results := [.lit (.bool false)], args := [d1, d2, d3, d4, d5, d6] }
  | _ => none }
def TokenKeysWrongFalsely : Prop := tokenKeysRow.holds Tryz.pinned (OpenSpec.ofChange tokenKeysWrong)

/-- 'crosswaylaw20.TokenBack': WHATEVER THE INPUT: true; the input reads as it did. -/
def tokenBackSpec : ChangeSpec := { name := "tokenBack", fn := fun _ => fun
  | [d1, d2, d3, d4, d5, d6] => { results := [.lit (.bool true)], args := [d1, d2, d3, d4, d5, d6] }
  | _ => none }
def tokenBackRow : OpenClaim := { program := "ytcfealonnakdcaagreat", sum := "16fca8df848ad7e6b60f0375b2862fe26fce8a276c336b5072833de8ac16d14e", func := "crossway/crosswaylaw20.TokenBack", spec := "tokenBack", inPlace := ["sync/atomic.AddInt64", "sync/atomic.LoadUint32", "(*internal/sync.Mutex).Lock", "internal/race.Disable", "sync/atomic.CompareAndSwapInt32", "internal/race.Enable", "internal/race.Acquire", "(*internal/sync.Mutex).lockSlow", "internal/sync.runtime_canSpin", "internal/sync.runtime_doSpin", "internal/sync.throw", "internal/sync.runtime_nanotime", "internal/sync.runtime_SemacquireMutex", "sync/atomic.AddInt32", "(*internal/sync.Mutex).Unlock", "internal/race.ReleaseMerge", "(*internal/sync.Mutex).unlockSlow", "internal/sync.fatal", "internal/sync.runtime_Semrelease", "sync/atomic.StoreUint32"], unfollowed := true, recurses := true, apart := false }
def TokenBackSaid : Prop := tokenBackRow.holds Tryz.pinned (OpenSpec.ofChange tokenBackSpec)

/-- ITS FALSE NEIGHBOUR: 'it returns false'. Refute it at one input. -/
def tokenBackWrong : ChangeSpec := { name := "tokenBack", fn := fun _ => fun
  | [d1, d2, d3, d4, d5, d6] => { results := [.lit (.bool false)], args := [d1, d2, d3, d4, d5, d6] }
  | _ => none }
def TokenBackWrongFalsely : Prop := tokenBackRow.holds Tryz.pinned (OpenSpec.ofChange tokenBackWrong)

/-- 'crosswaylaw12.StampBack': WHATEVER THE INPUT: true; the input reads as it did. -/
def stampBackSpec : ChangeSpec := { name := "stampBack", fn := fun _ => fun
  | [d1, d2, d3, d4, d5, d6] => { results := [.lit (.bool true)], args := [d1, d2, d3, d4, d5, d6] }
  | _ => none }
def stampBackRow : OpenClaim := { program := "ytcfealonnakdcaagreat", sum := "16fca8df848ad7e6b60f0375b2862fe26fce8a276c336b5072833de8ac16d14e", func := "crossway/crosswaylaw12.StampBack", spec := "stampBack", inPlace := ["internal/bytealg.IndexByteString", "sync/atomic.AddInt64", "sync/atomic.LoadUint32", "(*internal/sync.Mutex).Lock", "internal/race.Disable", "sync/atomic.CompareAndSwapInt32", "internal/race.Enable", "internal/race.Acquire", "(*internal/sync.Mutex).lockSlow", "internal/sync.runtime_canSpin", "internal/sync.runtime_doSpin", "internal/sync.throw", "internal/sync.runtime_nanotime", "internal/sync.runtime_SemacquireMutex", "sync/atomic.AddInt32", "(*internal/sync.Mutex).Unlock", "internal/race.ReleaseMerge", "(*internal/sync.Mutex).unlockSlow", "internal/sync.fatal", "internal/sync.runtime_Semrelease", "sync/atomic.StoreUint32"], unfollowed := true, recurses := true, apart := false }
def StampBackSaid : Prop := stampBackRow.holds Tryz.pinned (OpenSpec.ofChange stampBackSpec)

/-- ITS FALSE NEIGHBOUR: 'it returns false'. Refute it at one input. -/
def stampBackWrong : ChangeSpec := { name := "stampBack", fn := fun _ => fun
  | [d1, d2, d3, d4, d5, d6] => { results := [.lit (.bool false)], args := [d1, d2, d3, d4, d5, d6] }
  | _ => none }
def StampBackWrongFalsely : Prop := stampBackRow.holds Tryz.pinned (OpenSpec.ofChange stampBackWrong)

/-- 'crosswaylaw21.MintThreshold': WHATEVER THE INPUT: true; the input reads as it did. -/
def mintThresholdSpec : ChangeSpec := { name := "mintThreshold", fn := fun _ => fun
  | [d1, d2] => { results := [.lit (.bool true)], args := [d1, d2] }
  | _ => none }
def mintThresholdRow : OpenClaim := { program := "ytcfealonnakdcaagreat", sum := "16fca8df848ad7e6b60f0375b2862fe26fce8a276c336b5072833de8ac16d14e", func := "crossway/crosswaylaw21.MintThreshold", spec := "mintThreshold", inPlace := ["sync/atomic.AddInt64", "sync/atomic.LoadUint32", "(*internal/sync.Mutex).Lock", "internal/race.Disable", "sync/atomic.CompareAndSwapInt32", "internal/race.Enable", "internal/race.Acquire", "(*internal/sync.Mutex).lockSlow", "internal/sync.runtime_canSpin", "internal/sync.runtime_doSpin", "internal/sync.throw", "internal/sync.runtime_nanotime", "internal/sync.runtime_SemacquireMutex", "sync/atomic.AddInt32", "(*internal/sync.Mutex).Unlock", "internal/race.ReleaseMerge", "(*internal/sync.Mutex).unlockSlow", "internal/sync.fatal", "internal/sync.runtime_Semrelease", "sync/atomic.StoreUint32", "internal/bytealg.IndexByteString", "sync/atomic.LoadInt64"], unfollowed := true, recurses := true, apart := false }
def MintThresholdSaid : Prop := mintThresholdRow.holds Tryz.pinned (OpenSpec.ofChange mintThresholdSpec)

/-- ITS FALSE NEIGHBOUR: 'it returns false'. Refute it at one input. -/
def mintThresholdWrong : ChangeSpec := { name := "mintThreshold", fn := fun _ => fun
  | [d1, d2] => { results := [.lit (.bool false)], args := [d1, d2] }
  | _ => none }
def MintThresholdWrongFalsely : Prop := mintThresholdRow.holds Tryz.pinned (OpenSpec.ofChange mintThresholdWrong)

/-- 'crosswaylaw21.MintChecks': WHATEVER THE INPUT: true; the input reads as it did. -/
def mintChecksSpec : ChangeSpec := { name := "mintChecks", fn := fun _ => fun
  | [d1, d2, d3] => { results := [.lit (.bool true)], args := [d1, d2, d3] }
  | _ => none }
def mintChecksRow : OpenClaim := { program := "ytcfealonnakdcaagreat", sum := "16fca8df848ad7e6b60f0375b2862fe26fce8a276c336b5072833de8ac16d14e", func := "crossway/crosswaylaw21.MintChecks", spec := "mintChecks", inPlace := ["sync/atomic.AddInt64", "sync/atomic.LoadUint32", "(*internal/sync.Mutex).Lock", "internal/race.Disable", "sync/atomic.CompareAndSwapInt32", "internal/race.Enable", "internal/race.Acquire", "(*internal/sync.Mutex).lockSlow", "internal/sync.runtime_canSpin", "internal/sync.runtime_doSpin", "internal/sync.throw", "internal/sync.runtime_nanotime", "internal/sync.runtime_SemacquireMutex", "sync/atomic.AddInt32", "(*internal/sync.Mutex).Unlock", "internal/race.ReleaseMerge", "(*internal/sync.Mutex).unlockSlow", "internal/sync.fatal", "internal/sync.runtime_Semrelease", "sync/atomic.StoreUint32", "internal/bytealg.IndexByteString", "sync/atomic.LoadInt64"], unfollowed := true, recurses := true, apart := false }
def MintChecksSaid : Prop := mintChecksRow.holds Tryz.pinned (OpenSpec.ofChange mintChecksSpec)

/-- ITS FALSE NEIGHBOUR: 'it returns false'. Refute it at one input. -/
def mintChecksWrong : ChangeSpec := { name := "mintChecks", fn := fun _ => fun
  | [d1, d2, d3] => { results := [.lit (.bool false)], args := [d1, d2, d3] }
  | _ => none }
def MintChecksWrongFalsely : Prop := mintChecksRow.holds Tryz.pinned (OpenSpec.ofChange mintChecksWrong)

/-- 'crosswaylaw21.MintCounts': WHATEVER THE INPUT: true; the input reads as it did. -/
def mintCountsSpec : ChangeSpec := { name := "mintCounts", fn := fun _ => fun
  | [d1, d2] => { results := [.lit (.bool true)], args := [d1, d2] }
  | _ => none }
def mintCountsRow : OpenClaim := { program := "ytcfealonnakdcaagreat", sum := "16fca8df848ad7e6b60f0375b2862fe26fce8a276c336b5072833de8ac16d14e", func := "crossway/crosswaylaw21.MintCounts", spec := "mintCounts", inPlace := ["sync/atomic.AddInt64", "sync/atomic.LoadUint32", "(*internal/sync.Mutex).Lock", "internal/race.Disable", "sync/atomic.CompareAndSwapInt32", "internal/race.Enable", "internal/race.Acquire", "(*internal/sync.Mutex).lockSlow", "internal/sync.runtime_canSpin", "internal/sync.runtime_doSpin", "internal/sync.throw", "internal/sync.runtime_nanotime", "internal/sync.runtime_SemacquireMutex", "sync/atomic.AddInt32", "(*internal/sync.Mutex).Unlock", "internal/race.ReleaseMerge", "(*internal/sync.Mutex).unlockSlow", "internal/sync.fatal", "internal/sync.runtime_Semrelease", "sync/atomic.StoreUint32", "internal/bytealg.IndexByteString", "sync/atomic.LoadInt64"], unfollowed := true, recurses := true, apart := false }
def MintCountsSaid : Prop := mintCountsRow.holds Tryz.pinned (OpenSpec.ofChange mintCountsSpec)

/-- ITS FALSE NEIGHBOUR: 'it returns false'. Refute it at one input. -/
def mintCountsWrong : ChangeSpec := { name := "mintCounts", fn := fun _ => fun
  | [d1, d2] => { results := [.lit (.bool false)], args := [d1, d2] }
  | _ => none }
def MintCountsWrongFalsely : Prop := mintCountsRow.holds Tryz.pinned (OpenSpec.ofChange mintCountsWrong)

/-- 'crosswaylaw21.MintTokens': WHATEVER THE INPUT: true; the input reads as it did. -/
def mintTokensSpec : ChangeSpec := { name := "mintTokens", fn := fun _ => fun
  | [d1, d2, d3, d4, d5, d6] => { results := [.lit (.bool true)], args := [d1, d2, d3, d4, d5, d6] }
  | _ => none }
def mintTokensRow : OpenClaim := { program := "ytcfealonnakdcaagreat", sum := "16fca8df848ad7e6b60f0375b2862fe26fce8a276c336b5072833de8ac16d14e", func := "crossway/crosswaylaw21.MintTokens", spec := "mintTokens", inPlace := ["sync/atomic.AddInt64", "sync/atomic.LoadUint32", "(*internal/sync.Mutex).Lock", "internal/race.Disable", "sync/atomic.CompareAndSwapInt32", "internal/race.Enable", "internal/race.Acquire", "(*internal/sync.Mutex).lockSlow", "internal/sync.runtime_canSpin", "internal/sync.runtime_doSpin", "internal/sync.throw", "internal/sync.runtime_nanotime", "internal/sync.runtime_SemacquireMutex", "sync/atomic.AddInt32", "(*internal/sync.Mutex).Unlock", "internal/race.ReleaseMerge", "(*internal/sync.Mutex).unlockSlow", "internal/sync.fatal", "internal/sync.runtime_Semrelease", "sync/atomic.StoreUint32", "internal/bytealg.IndexByteString", "sync/atomic.LoadInt64"], unfollowed := true, recurses := true, apart := false }
def MintTokensSaid : Prop := mintTokensRow.holds Tryz.pinned (OpenSpec.ofChange mintTokensSpec)

/-- ITS FALSE NEIGHBOUR: 'it returns false'. Refute it at one input. -/
def mintTokensWrong : ChangeSpec := { name := "mintTokens", fn := fun _ => fun
  | [d1, d2, d3, d4, d5, d6] => { results := [.lit (.bool false)], args := [d1, d2, d3, d4, d5, d6] }
  | _ => none }
def MintTokensWrongFalsely : Prop := mintTokensRow.holds Tryz.pinned (OpenSpec.ofChange mintTokensWrong)

/-- 'crosswaylaw21.MintNewest': WHATEVER THE INPUT: true; the input reads as it did. -/
def mintNewestSpec : ChangeSpec := { name := "mintNewest", fn := fun _ => fun
  | [d1, d2, d3] => { results := [.lit (.bool true)], args := [d1, d2, d3] }
  | _ => none }
def mintNewestRow : OpenClaim := { program := "ytcfealonnakdcaagreat", sum := "16fca8df848ad7e6b60f0375b2862fe26fce8a276c336b5072833de8ac16d14e", func := "crossway/crosswaylaw21.MintNewest", spec := "mintNewest", inPlace := ["sync/atomic.AddInt64", "sync/atomic.LoadUint32", "(*internal/sync.Mutex).Lock", "internal/race.Disable", "sync/atomic.CompareAndSwapInt32", "internal/race.Enable", "internal/race.Acquire", "(*internal/sync.Mutex).lockSlow", "internal/sync.runtime_canSpin", "internal/sync.runtime_doSpin", "internal/sync.throw", "internal/sync.runtime_nanotime", "internal/sync.runtime_SemacquireMutex", "sync/atomic.AddInt32", "(*internal/sync.Mutex).Unlock", "internal/race.ReleaseMerge", "(*internal/sync.Mutex).unlockSlow", "internal/sync.fatal", "internal/sync.runtime_Semrelease", "sync/atomic.StoreUint32", "internal/bytealg.IndexByteString", "sync/atomic.LoadInt64"], unfollowed := true, recurses := true, apart := false }
def MintNewestSaid : Prop := mintNewestRow.holds Tryz.pinned (OpenSpec.ofChange mintNewestSpec)

/-- ITS FALSE NEIGHBOUR: 'it returns false'. Refute it at one input. -/
def mintNewestWrong : ChangeSpec := { name := "mintNewest", fn := fun _ => fun
  | [d1, d2, d3] => { results := [.lit (.bool false)], args := [d1, d2, d3] }
  | _ => none }
def MintNewestWrongFalsely : Prop := mintNewestRow.holds Tryz.pinned (OpenSpec.ofChange mintNewestWrong)

/-- 'crosswaylaw21.MintCalls': WHATEVER THE INPUT: true; the input reads as it did. -/
def mintCallsSpec : ChangeSpec := { name := "mintCalls", fn := fun _ => fun
  | [d1, d2, d3] => { results := [.lit (.bool true)], args := [d1, d2, d3] }
  | _ => none }
def mintCallsRow : OpenClaim := { program := "ytcfealonnakdcaagreat", sum := "16fca8df848ad7e6b60f0375b2862fe26fce8a276c336b5072833de8ac16d14e", func := "crossway/crosswaylaw21.MintCalls", spec := "mintCalls", inPlace := ["sync/atomic.AddInt64", "sync/atomic.LoadUint32", "(*internal/sync.Mutex).Lock", "internal/race.Disable", "sync/atomic.CompareAndSwapInt32", "internal/race.Enable", "internal/race.Acquire", "(*internal/sync.Mutex).lockSlow", "internal/sync.runtime_canSpin", "internal/sync.runtime_doSpin", "internal/sync.throw", "internal/sync.runtime_nanotime", "internal/sync.runtime_SemacquireMutex", "sync/atomic.AddInt32", "(*internal/sync.Mutex).Unlock", "internal/race.ReleaseMerge", "(*internal/sync.Mutex).unlockSlow", "internal/sync.fatal", "internal/sync.runtime_Semrelease", "sync/atomic.StoreUint32", "internal/bytealg.IndexByteString", "sync/atomic.LoadInt64"], unfollowed := true, recurses := true, apart := false }
def MintCallsSaid : Prop := mintCallsRow.holds Tryz.pinned (OpenSpec.ofChange mintCallsSpec)

/-- ITS FALSE NEIGHBOUR: 'it returns false'. Refute it at one input. -/
def mintCallsWrong : ChangeSpec := { name := "mintCalls", fn := fun _ => fun
  | [d1, d2, d3] => { results := [.lit (.bool false)], args := [d1, d2, d3] }
  | _ => none }
def MintCallsWrongFalsely : Prop := mintCallsRow.holds Tryz.pinned (OpenSpec.ofChange mintCallsWrong)

/- THE SECOND FORM. 'bulk': how many values and letters a reading holds, each counted each time it is reached (what is shared counts as often as it is met; a slice's spare places count too). A statement '..UptoSaid' is the law's where the arguments, and the package variables that the reading takes, are together of bulk at most 1048576: NARROWER than '..Said'. Prove '..Said' where nothing that the law and all that it calls make is longer than what came in: it says more and counts as full. Else prove '..UptoSaid'. A law counts once. -/
mutual
def uptoBulk {H : Type} : DataW H → Nat
  | .lit (.string bytes) => bytes.length + 1
  | .lit _ => 1
  | .nil => 1
  | .ptr d => uptoBulk d + 1
  | .slice elems spare => uptoBulkAll elems + uptoBulkAll spare + 1
  | .agg parts => uptoBulkAll parts + 1
  | .iface _ d => uptoBulk d + 1
  | .map entries => uptoBulkEntries entries + 1
  | .held _ => 1
def uptoBulkAll {H : Type} : List (DataW H) → Nat
  | [] => 0
  | d :: r => uptoBulk d + uptoBulkAll r
def uptoBulkEntries {H : Type} : List (Lit × DataW H) → Nat
  | [] => 0
  | x :: r => uptoBulkEntry x + uptoBulkEntries r
def uptoBulkEntry {H : Type} : Lit × DataW H → Nat
  | (.string bytes, d) => bytes.length + uptoBulk d + 1
  | (_, d) => uptoBulk d + 1
 end
def uptoSmall : (H : Type) → List (DataW H) → Bool := fun _ ds => decide (uptoBulkAll ds ≤ 1048576)
def OpenSpec.upto (s : _root_.Go.ChangeSpec) : _root_.Go.OpenSpec := { _root_.Go.OpenSpec.ofChange s with cond := some uptoSmall }

/-- 'crosswaylaw28.IssueCalls', WHERE WHAT IT READS IS OF BULK AT MOST 1048576: true; the input reads as it did. -/
def issueCallsUptoRow : OpenClaim := { program := "ytcfealonnakdcaagreat", sum := "16fca8df848ad7e6b60f0375b2862fe26fce8a276c336b5072833de8ac16d14e", func := "crossway/crosswaylaw28.IssueCalls", spec := "issueCalls", inPlace := ["sync/atomic.AddInt64", "sync/atomic.LoadUint32", "(*internal/sync.Mutex).Lock", "internal/race.Disable", "sync/atomic.CompareAndSwapInt32", "internal/race.Enable", "internal/race.Acquire", "(*internal/sync.Mutex).lockSlow", "internal/sync.runtime_canSpin", "internal/sync.runtime_doSpin", "internal/sync.throw", "internal/sync.runtime_nanotime", "internal/sync.runtime_SemacquireMutex", "sync/atomic.AddInt32", "(*internal/sync.Mutex).Unlock", "internal/race.ReleaseMerge", "(*internal/sync.Mutex).unlockSlow", "internal/sync.fatal", "internal/sync.runtime_Semrelease", "sync/atomic.StoreUint32", "maps.clone"], unfollowed := true, recurses := true, apart := false, narrowed := true }
def IssueCallsUptoSaid : Prop := issueCallsUptoRow.holds Tryz.pinned (OpenSpec.upto issueCallsSpec)

/-- 'crosswaylaw28.IssueRoom', WHERE WHAT IT READS IS OF BULK AT MOST 1048576: true; the input reads as it did. -/
def issueRoomUptoRow : OpenClaim := { program := "ytcfealonnakdcaagreat", sum := "16fca8df848ad7e6b60f0375b2862fe26fce8a276c336b5072833de8ac16d14e", func := "crossway/crosswaylaw28.IssueRoom", spec := "issueRoom", inPlace := ["sync/atomic.AddInt64", "sync/atomic.LoadUint32", "(*internal/sync.Mutex).Lock", "internal/race.Disable", "sync/atomic.CompareAndSwapInt32", "internal/race.Enable", "internal/race.Acquire", "(*internal/sync.Mutex).lockSlow", "internal/sync.runtime_canSpin", "internal/sync.runtime_doSpin", "internal/sync.throw", "internal/sync.runtime_nanotime", "internal/sync.runtime_SemacquireMutex", "sync/atomic.AddInt32", "(*internal/sync.Mutex).Unlock", "internal/race.ReleaseMerge", "(*internal/sync.Mutex).unlockSlow", "internal/sync.fatal", "internal/sync.runtime_Semrelease", "sync/atomic.StoreUint32", "maps.clone"], unfollowed := true, recurses := true, apart := false, narrowed := true }
def IssueRoomUptoSaid : Prop := issueRoomUptoRow.holds Tryz.pinned (OpenSpec.upto issueRoomSpec)

/-- 'crosswaylaw28.IssueApart', WHERE WHAT IT READS IS OF BULK AT MOST 1048576: true; the input reads as it did. -/
def issueApartUptoRow : OpenClaim := { program := "ytcfealonnakdcaagreat", sum := "16fca8df848ad7e6b60f0375b2862fe26fce8a276c336b5072833de8ac16d14e", func := "crossway/crosswaylaw28.IssueApart", spec := "issueApart", inPlace := ["sync/atomic.AddInt64", "sync/atomic.LoadUint32", "(*internal/sync.Mutex).Lock", "internal/race.Disable", "sync/atomic.CompareAndSwapInt32", "internal/race.Enable", "internal/race.Acquire", "(*internal/sync.Mutex).lockSlow", "internal/sync.runtime_canSpin", "internal/sync.runtime_doSpin", "internal/sync.throw", "internal/sync.runtime_nanotime", "internal/sync.runtime_SemacquireMutex", "sync/atomic.AddInt32", "(*internal/sync.Mutex).Unlock", "internal/race.ReleaseMerge", "(*internal/sync.Mutex).unlockSlow", "internal/sync.fatal", "internal/sync.runtime_Semrelease", "sync/atomic.StoreUint32", "maps.clone"], unfollowed := true, recurses := true, apart := false, narrowed := true }
def IssueApartUptoSaid : Prop := issueApartUptoRow.holds Tryz.pinned (OpenSpec.upto issueApartSpec)

/-- 'crosswaylaw28.IssueOnce', WHERE WHAT IT READS IS OF BULK AT MOST 1048576: true; the input reads as it did. -/
def issueOnceUptoRow : OpenClaim := { program := "ytcfealonnakdcaagreat", sum := "16fca8df848ad7e6b60f0375b2862fe26fce8a276c336b5072833de8ac16d14e", func := "crossway/crosswaylaw28.IssueOnce", spec := "issueOnce", inPlace := ["sync/atomic.AddInt64", "sync/atomic.LoadUint32", "(*internal/sync.Mutex).Lock", "internal/race.Disable", "sync/atomic.CompareAndSwapInt32", "internal/race.Enable", "internal/race.Acquire", "(*internal/sync.Mutex).lockSlow", "internal/sync.runtime_canSpin", "internal/sync.runtime_doSpin", "internal/sync.throw", "internal/sync.runtime_nanotime", "internal/sync.runtime_SemacquireMutex", "sync/atomic.AddInt32", "(*internal/sync.Mutex).Unlock", "internal/race.ReleaseMerge", "(*internal/sync.Mutex).unlockSlow", "internal/sync.fatal", "internal/sync.runtime_Semrelease", "sync/atomic.StoreUint32", "maps.clone"], unfollowed := true, recurses := true, apart := false, narrowed := true }
def IssueOnceUptoSaid : Prop := issueOnceUptoRow.holds Tryz.pinned (OpenSpec.upto issueOnceSpec)

/-- 'crosswaylaw12.StampMakes', WHERE WHAT IT READS IS OF BULK AT MOST 1048576: true; the input reads as it did. -/
def stampMakesUptoRow : OpenClaim := { program := "ytcfealonnakdcaagreat", sum := "16fca8df848ad7e6b60f0375b2862fe26fce8a276c336b5072833de8ac16d14e", func := "crossway/crosswaylaw12.StampMakes", spec := "stampMakes", inPlace := ["internal/bytealg.IndexByteString", "sync/atomic.AddInt64", "sync/atomic.LoadUint32", "(*internal/sync.Mutex).Lock", "internal/race.Disable", "sync/atomic.CompareAndSwapInt32", "internal/race.Enable", "internal/race.Acquire", "(*internal/sync.Mutex).lockSlow", "internal/sync.runtime_canSpin", "internal/sync.runtime_doSpin", "internal/sync.throw", "internal/sync.runtime_nanotime", "internal/sync.runtime_SemacquireMutex", "sync/atomic.AddInt32", "(*internal/sync.Mutex).Unlock", "internal/race.ReleaseMerge", "(*internal/sync.Mutex).unlockSlow", "internal/sync.fatal", "internal/sync.runtime_Semrelease", "sync/atomic.StoreUint32"], unfollowed := true, recurses := true, apart := false, narrowed := true }
def StampMakesUptoSaid : Prop := stampMakesUptoRow.holds Tryz.pinned (OpenSpec.upto stampMakesSpec)

/-- 'crosswaylaw12.StampParses', WHERE WHAT IT READS IS OF BULK AT MOST 1048576: true; the input reads as it did. -/
def stampParsesUptoRow : OpenClaim := { program := "ytcfealonnakdcaagreat", sum := "16fca8df848ad7e6b60f0375b2862fe26fce8a276c336b5072833de8ac16d14e", func := "crossway/crosswaylaw12.StampParses", spec := "stampParses", inPlace := ["internal/bytealg.IndexByteString", "sync/atomic.AddInt64", "sync/atomic.LoadUint32", "(*internal/sync.Mutex).Lock", "internal/race.Disable", "sync/atomic.CompareAndSwapInt32", "internal/race.Enable", "internal/race.Acquire", "(*internal/sync.Mutex).lockSlow", "internal/sync.runtime_canSpin", "internal/sync.runtime_doSpin", "internal/sync.throw", "internal/sync.runtime_nanotime", "internal/sync.runtime_SemacquireMutex", "sync/atomic.AddInt32", "(*internal/sync.Mutex).Unlock", "internal/race.ReleaseMerge", "(*internal/sync.Mutex).unlockSlow", "internal/sync.fatal", "internal/sync.runtime_Semrelease", "sync/atomic.StoreUint32"], unfollowed := true, recurses := true, apart := false, narrowed := true }
def StampParsesUptoSaid : Prop := stampParsesUptoRow.holds Tryz.pinned (OpenSpec.upto stampParsesSpec)

/-- 'crosswaylaw12.StampEnds', WHERE WHAT IT READS IS OF BULK AT MOST 1048576: true; the input reads as it did. -/
def stampEndsUptoRow : OpenClaim := { program := "ytcfealonnakdcaagreat", sum := "16fca8df848ad7e6b60f0375b2862fe26fce8a276c336b5072833de8ac16d14e", func := "crossway/crosswaylaw12.StampEnds", spec := "stampEnds", inPlace := ["internal/bytealg.IndexByteString", "sync/atomic.AddInt64", "sync/atomic.LoadUint32", "(*internal/sync.Mutex).Lock", "internal/race.Disable", "sync/atomic.CompareAndSwapInt32", "internal/race.Enable", "internal/race.Acquire", "(*internal/sync.Mutex).lockSlow", "internal/sync.runtime_canSpin", "internal/sync.runtime_doSpin", "internal/sync.throw", "internal/sync.runtime_nanotime", "internal/sync.runtime_SemacquireMutex", "sync/atomic.AddInt32", "(*internal/sync.Mutex).Unlock", "internal/race.ReleaseMerge", "(*internal/sync.Mutex).unlockSlow", "internal/sync.fatal", "internal/sync.runtime_Semrelease", "sync/atomic.StoreUint32"], unfollowed := true, recurses := true, apart := false, narrowed := true }
def StampEndsUptoSaid : Prop := stampEndsUptoRow.holds Tryz.pinned (OpenSpec.upto stampEndsSpec)

/-- 'crosswaylaw20.TokenTexts', WHERE WHAT IT READS IS OF BULK AT MOST 1048576: true; the input reads as it did. -/
def tokenTextsUptoRow : OpenClaim := { program := "ytcfealonnakdcaagreat", sum := "16fca8df848ad7e6b60f0375b2862fe26fce8a276c336b5072833de8ac16d14e", func := "crossway/crosswaylaw20.TokenTexts", spec := "tokenTexts", inPlace := ["sync/atomic.AddInt64", "sync/atomic.LoadUint32", "(*internal/sync.Mutex).Lock", "internal/race.Disable", "sync/atomic.CompareAndSwapInt32", "internal/race.Enable", "internal/race.Acquire", "(*internal/sync.Mutex).lockSlow", "internal/sync.runtime_canSpin", "internal/sync.runtime_doSpin", "internal/sync.throw", "internal/sync.runtime_nanotime", "internal/sync.runtime_SemacquireMutex", "sync/atomic.AddInt32", "(*internal/sync.Mutex).Unlock", "internal/race.ReleaseMerge", "(*internal/sync.Mutex).unlockSlow", "internal/sync.fatal", "internal/sync.runtime_Semrelease", "sync/atomic.StoreUint32"], unfollowed := true, recurses := true, apart := false, narrowed := true }
def TokenTextsUptoSaid : Prop := tokenTextsUptoRow.holds Tryz.pinned (OpenSpec.upto tokenTextsSpec)

/-- 'crosswaylaw20.TokenSeals', WHERE WHAT IT READS IS OF BULK AT MOST 1048576: true; the input reads as it did. -/
def tokenSealsUptoRow : OpenClaim := { program := "ytcfealonnakdcaagreat", sum := "16fca8df848ad7e6b60f0375b2862fe26fce8a276c336b5072833de8ac16d14e", func := "crossway/crosswaylaw20.TokenSeals", spec := "tokenSeals", inPlace := ["sync/atomic.AddInt64", "sync/atomic.LoadUint32", "(*internal/sync.Mutex).Lock", "internal/race.Disable", "sync/atomic.CompareAndSwapInt32", "internal/race.Enable", "internal/race.Acquire", "(*internal/sync.Mutex).lockSlow", "internal/sync.runtime_canSpin", "internal/sync.runtime_doSpin", "internal/sync.throw", "internal/sync.runtime_nanotime", "internal/sync.runtime_SemacquireMutex", "sync/atomic.AddInt32", "(*internal/sync.Mutex).Unlock", "internal/race.ReleaseMerge", "(*internal/sync.Mutex).unlockSlow", "internal/sync.fatal", "internal/sync.runtime_Semrelease", "sync/atomic.StoreUint32"], unfollowed := true, recurses := true, apart := false, narrowed := true }
def TokenSealsUptoSaid : Prop := tokenSealsUptoRow.holds Tryz.pinned (OpenSpec.upto tokenSealsSpec)

/-- 'crosswaylaw20.TokenOpens', WHERE WHAT IT READS IS OF BULK AT MOST 1048576: true; the input reads as it did. -/
def tokenOpensUptoRow : OpenClaim := { program := "ytcfealonnakdcaagreat", sum := "16fca8df848ad7e6b60f0375b2862fe26fce8a276c336b5072833de8ac16d14e", func := "crossway/crosswaylaw20.TokenOpens", spec := "tokenOpens", inPlace := ["sync/atomic.AddInt64", "sync/atomic.LoadUint32", "(*internal/sync.Mutex).Lock", "internal/race.Disable", "sync/atomic.CompareAndSwapInt32", "internal/race.Enable", "internal/race.Acquire", "(*internal/sync.Mutex).lockSlow", "internal/sync.runtime_canSpin", "internal/sync.runtime_doSpin", "internal/sync.throw", "internal/sync.runtime_nanotime", "internal/sync.runtime_SemacquireMutex", "sync/atomic.AddInt32", "(*internal/sync.Mutex).Unlock", "internal/race.ReleaseMerge", "(*internal/sync.Mutex).unlockSlow", "internal/sync.fatal", "internal/sync.runtime_Semrelease", "sync/atomic.StoreUint32"], unfollowed := true, recurses := true, apart := false, narrowed := true }
def TokenOpensUptoSaid : Prop := tokenOpensUptoRow.holds Tryz.pinned (OpenSpec.upto tokenOpensSpec)

/-- 'crosswaylaw20.TokenApart', WHERE WHAT IT READS IS OF BULK AT MOST 1048576: true; the input reads as it did. -/
def tokenApartUptoRow : OpenClaim := { program := "ytcfealonnakdcaagreat", sum := "16fca8df848ad7e6b60f0375b2862fe26fce8a276c336b5072833de8ac16d14e", func := "crossway/crosswaylaw20.TokenApart", spec := "tokenApart", inPlace := ["sync/atomic.AddInt64", "sync/atomic.LoadUint32", "(*internal/sync.Mutex).Lock", "internal/race.Disable", "sync/atomic.CompareAndSwapInt32", "internal/race.Enable", "internal/race.Acquire", "(*internal/sync.Mutex).lockSlow", "internal/sync.runtime_canSpin", "internal/sync.runtime_doSpin", "internal/sync.throw", "internal/sync.runtime_nanotime", "internal/sync.runtime_SemacquireMutex", "sync/atomic.AddInt32", "(*internal/sync.Mutex).Unlock", "internal/race.ReleaseMerge", "(*internal/sync.Mutex).unlockSlow", "internal/sync.fatal", "internal/sync.runtime_Semrelease", "sync/atomic.StoreUint32"], unfollowed := true, recurses := true, apart := false, narrowed := true }
def TokenApartUptoSaid : Prop := tokenApartUptoRow.holds Tryz.pinned (OpenSpec.upto tokenApartSpec)

/-- 'crosswaylaw20.TokenKeys', WHERE WHAT IT READS IS OF BULK AT MOST 1048576: true; the input reads as it did. -/
def tokenKeysUptoRow : OpenClaim := { program := "ytcfealonnakdcaagreat", sum := "16fca8df848ad7e6b60f0375b2862fe26fce8a276c336b5072833de8ac16d14e", func := "crossway/crosswaylaw20.TokenKeys", spec := "tokenKeys", inPlace := ["sync/atomic.AddInt64", "sync/atomic.LoadUint32", "(*internal/sync.Mutex).Lock", "internal/race.Disable", "sync/atomic.CompareAndSwapInt32", "internal/race.Enable", "internal/race.Acquire", "(*internal/sync.Mutex).lockSlow", "internal/sync.runtime_canSpin", "internal/sync.runtime_doSpin", "internal/sync.throw", "internal/sync.runtime_nanotime", "internal/sync.runtime_SemacquireMutex", "sync/atomic.AddInt32", "(*internal/sync.Mutex).Unlock", "internal/race.ReleaseMerge", "(*internal/sync.Mutex).unlockSlow", "internal/sync.fatal", "internal/sync.runtime_Semrelease", "sync/atomic.StoreUint32"], unfollowed := true, recurses := true, apart := false, narrowed := true }
def TokenKeysUptoSaid : Prop := tokenKeysUptoRow.holds Tryz.pinned (OpenSpec.upto tokenKeysSpec)

/-- 'crosswaylaw20.TokenBack', WHERE WHAT IT READS IS OF BULK AT MOST 1048576: true; the input reads as it did. -/
def tokenBackUptoRow : OpenClaim := { program := "ytcfealonnakdcaagreat", sum := "16fca8df848ad7e6b60f0375b2862fe26fce8a276c336b5072833de8ac16d14e", func := "crossway/crosswaylaw20.TokenBack", spec := "tokenBack", inPlace := ["sync/atomic.AddInt64", "sync/atomic.LoadUint32", "(*internal/sync.Mutex).Lock", "internal/race.Disable", "sync/atomic.CompareAndSwapInt32", "internal/race.Enable", "internal/race.Acquire", "(*internal/sync.Mutex).lockSlow", "internal/sync.runtime_canSpin", "internal/sync.runtime_doSpin", "internal/sync.throw", "internal/sync.runtime_nanotime", "internal/sync.runtime_SemacquireMutex", "sync/atomic.AddInt32", "(*internal/sync.Mutex).Unlock", "internal/race.ReleaseMerge", "(*internal/sync.Mutex).unlockSlow", "internal/sync.fatal", "internal/sync.runtime_Semrelease", "sync/atomic.StoreUint32"], unfollowed := true, recurses := true, apart := false, narrowed := true }
def TokenBackUptoSaid : Prop := tokenBackUptoRow.holds Tryz.pinned (OpenSpec.upto tokenBackSpec)

/-- 'crosswaylaw12.StampBack', WHERE WHAT IT READS IS OF BULK AT MOST 1048576: true; the input reads as it did. -/
def stampBackUptoRow : OpenClaim := { program := "ytcfealonnakdcaagreat", sum := "16fca8df848ad7e6b60f0375b2862fe26fce8a276c336b5072833de8ac16d14e", func := "crossway/crosswaylaw12.StampBack", spec := "stampBack", inPlace := ["internal/bytealg.IndexByteString", "sync/atomic.AddInt64", "sync/atomic.LoadUint32", "(*internal/sync.Mutex).Lock", "internal/race.Disable", "sync/atomic.CompareAndSwapInt32", "internal/race.Enable", "internal/race.Acquire", "(*internal/sync.Mutex).lockSlow", "internal/sync.runtime_canSpin", "internal/sync.runtime_doSpin", "internal/sync.throw", "internal/sync.runtime_nanotime", "internal/sync.runtime_SemacquireMutex", "sync/atomic.AddInt32", "(*internal/sync.Mutex).Unlock", "internal/race.ReleaseMerge", "(*internal/sync.Mutex).unlockSlow", "internal/sync.fatal", "internal/sync.runtime_Semrelease", "sync/atomic.StoreUint32"], unfollowed := true, recurses := true, apart := false, narrowed := true }
def StampBackUptoSaid : Prop := stampBackUptoRow.holds Tryz.pinned (OpenSpec.upto stampBackSpec)

/-- 'crosswaylaw21.MintThreshold', WHERE WHAT IT READS IS OF BULK AT MOST 1048576: true; the input reads as it did. -/
def mintThresholdUptoRow : OpenClaim := { program := "ytcfealonnakdcaagreat", sum := "16fca8df848ad7e6b60f0375b2862fe26fce8a276c336b5072833de8ac16d14e", func := "crossway/crosswaylaw21.MintThreshold", spec := "mintThreshold", inPlace := ["sync/atomic.AddInt64", "sync/atomic.LoadUint32", "(*internal/sync.Mutex).Lock", "internal/race.Disable", "sync/atomic.CompareAndSwapInt32", "internal/race.Enable", "internal/race.Acquire", "(*internal/sync.Mutex).lockSlow", "internal/sync.runtime_canSpin", "internal/sync.runtime_doSpin", "internal/sync.throw", "internal/sync.runtime_nanotime", "internal/sync.runtime_SemacquireMutex", "sync/atomic.AddInt32", "(*internal/sync.Mutex).Unlock", "internal/race.ReleaseMerge", "(*internal/sync.Mutex).unlockSlow", "internal/sync.fatal", "internal/sync.runtime_Semrelease", "sync/atomic.StoreUint32", "internal/bytealg.IndexByteString", "sync/atomic.LoadInt64"], unfollowed := true, recurses := true, apart := false, narrowed := true }
def MintThresholdUptoSaid : Prop := mintThresholdUptoRow.holds Tryz.pinned (OpenSpec.upto mintThresholdSpec)

/-- 'crosswaylaw21.MintChecks', WHERE WHAT IT READS IS OF BULK AT MOST 1048576: true; the input reads as it did. -/
def mintChecksUptoRow : OpenClaim := { program := "ytcfealonnakdcaagreat", sum := "16fca8df848ad7e6b60f0375b2862fe26fce8a276c336b5072833de8ac16d14e", func := "crossway/crosswaylaw21.MintChecks", spec := "mintChecks", inPlace := ["sync/atomic.AddInt64", "sync/atomic.LoadUint32", "(*internal/sync.Mutex).Lock", "internal/race.Disable", "sync/atomic.CompareAndSwapInt32", "internal/race.Enable", "internal/race.Acquire", "(*internal/sync.Mutex).lockSlow", "internal/sync.runtime_canSpin", "internal/sync.runtime_doSpin", "internal/sync.throw", "internal/sync.runtime_nanotime", "internal/sync.runtime_SemacquireMutex", "sync/atomic.AddInt32", "(*internal/sync.Mutex).Unlock", "internal/race.ReleaseMerge", "(*internal/sync.Mutex).unlockSlow", "internal/sync.fatal", "internal/sync.runtime_Semrelease", "sync/atomic.StoreUint32", "internal/bytealg.IndexByteString", "sync/atomic.LoadInt64"], unfollowed := true, recurses := true, apart := false, narrowed := true }
def MintChecksUptoSaid : Prop := mintChecksUptoRow.holds Tryz.pinned (OpenSpec.upto mintChecksSpec)

/-- 'crosswaylaw21.MintCounts', WHERE WHAT IT READS IS OF BULK AT MOST 1048576: true; the input reads as it did. -/
def mintCountsUptoRow : OpenClaim := { program := "ytcfealonnakdcaagreat", sum := "16fca8df848ad7e6b60f0375b2862fe26fce8a276c336b5072833de8ac16d14e", func := "crossway/crosswaylaw21.MintCounts", spec := "mintCounts", inPlace := ["sync/atomic.AddInt64", "sync/atomic.LoadUint32", "(*internal/sync.Mutex).Lock", "internal/race.Disable", "sync/atomic.CompareAndSwapInt32", "internal/race.Enable", "internal/race.Acquire", "(*internal/sync.Mutex).lockSlow", "internal/sync.runtime_canSpin", "internal/sync.runtime_doSpin", "internal/sync.throw", "internal/sync.runtime_nanotime", "internal/sync.runtime_SemacquireMutex", "sync/atomic.AddInt32", "(*internal/sync.Mutex).Unlock", "internal/race.ReleaseMerge", "(*internal/sync.Mutex).unlockSlow", "internal/sync.fatal", "internal/sync.runtime_Semrelease", "sync/atomic.StoreUint32", "internal/bytealg.IndexByteString", "sync/atomic.LoadInt64"], unfollowed := true, recurses := true, apart := false, narrowed := true }
def MintCountsUptoSaid : Prop := mintCountsUptoRow.holds Tryz.pinned (OpenSpec.upto mintCountsSpec)

/-- 'crosswaylaw21.MintTokens', WHERE WHAT IT READS IS OF BULK AT MOST 1048576: true; the input reads as it did. -/
def mintTokensUptoRow : OpenClaim := { program := "ytcfealonnakdcaagreat", sum := "16fca8df848ad7e6b60f0375b2862fe26fce8a276c336b5072833de8ac16d14e", func := "crossway/crosswaylaw21.MintTokens", spec := "mintTokens", inPlace := ["sync/atomic.AddInt64", "sync/atomic.LoadUint32", "(*internal/sync.Mutex).Lock", "internal/race.Disable", "sync/atomic.CompareAndSwapInt32", "internal/race.Enable", "internal/race.Acquire", "(*internal/sync.Mutex).lockSlow", "internal/sync.runtime_canSpin", "internal/sync.runtime_doSpin", "internal/sync.throw", "internal/sync.runtime_nanotime", "internal/sync.runtime_SemacquireMutex", "sync/atomic.AddInt32", "(*internal/sync.Mutex).Unlock", "internal/race.ReleaseMerge", "(*internal/sync.Mutex).unlockSlow", "internal/sync.fatal", "internal/sync.runtime_Semrelease", "sync/atomic.StoreUint32", "internal/bytealg.IndexByteString", "sync/atomic.LoadInt64"], unfollowed := true, recurses := true, apart := false, narrowed := true }
def MintTokensUptoSaid : Prop := mintTokensUptoRow.holds Tryz.pinned (OpenSpec.upto mintTokensSpec)

/-- 'crosswaylaw21.MintNewest', WHERE WHAT IT READS IS OF BULK AT MOST 1048576: true; the input reads as it did. -/
def mintNewestUptoRow : OpenClaim := { program := "ytcfealonnakdcaagreat", sum := "16fca8df848ad7e6b60f0375b2862fe26fce8a276c336b5072833de8ac16d14e", func := "crossway/crosswaylaw21.MintNewest", spec := "mintNewest", inPlace := ["sync/atomic.AddInt64", "sync/atomic.LoadUint32", "(*internal/sync.Mutex).Lock", "internal/race.Disable", "sync/atomic.CompareAndSwapInt32", "internal/race.Enable", "internal/race.Acquire", "(*internal/sync.Mutex).lockSlow", "internal/sync.runtime_canSpin", "internal/sync.runtime_doSpin", "internal/sync.throw", "internal/sync.runtime_nanotime", "internal/sync.runtime_SemacquireMutex", "sync/atomic.AddInt32", "(*internal/sync.Mutex).Unlock", "internal/race.ReleaseMerge", "(*internal/sync.Mutex).unlockSlow", "internal/sync.fatal", "internal/sync.runtime_Semrelease", "sync/atomic.StoreUint32", "internal/bytealg.IndexByteString", "sync/atomic.LoadInt64"], unfollowed := true, recurses := true, apart := false, narrowed := true }
def MintNewestUptoSaid : Prop := mintNewestUptoRow.holds Tryz.pinned (OpenSpec.upto mintNewestSpec)

/-- 'crosswaylaw21.MintCalls', WHERE WHAT IT READS IS OF BULK AT MOST 1048576: true; the input reads as it did. -/
def mintCallsUptoRow : OpenClaim := { program := "ytcfealonnakdcaagreat", sum := "16fca8df848ad7e6b60f0375b2862fe26fce8a276c336b5072833de8ac16d14e", func := "crossway/crosswaylaw21.MintCalls", spec := "mintCalls", inPlace := ["sync/atomic.AddInt64", "sync/atomic.LoadUint32", "(*internal/sync.Mutex).Lock", "internal/race.Disable", "sync/atomic.CompareAndSwapInt32", "internal/race.Enable", "internal/race.Acquire", "(*internal/sync.Mutex).lockSlow", "internal/sync.runtime_canSpin", "internal/sync.runtime_doSpin", "internal/sync.throw", "internal/sync.runtime_nanotime", "internal/sync.runtime_SemacquireMutex", "sync/atomic.AddInt32", "(*internal/sync.Mutex).Unlock", "internal/race.ReleaseMerge", "(*internal/sync.Mutex).unlockSlow", "internal/sync.fatal", "internal/sync.runtime_Semrelease", "sync/atomic.StoreUint32", "internal/bytealg.IndexByteString", "sync/atomic.LoadInt64"], unfollowed := true, recurses := true, apart := false, narrowed := true }
def MintCallsUptoSaid : Prop := mintCallsUptoRow.holds Tryz.pinned (OpenSpec.upto mintCallsSpec)

end Rows
end Go.Proofs.YtcfealonnakdcaaGreat
