/- A part of a proof of a given law of this program: lemmas, printed forms of its functions, contracts. It has no conditions of its own. -/
import Derived.Test.YtlnohlefimgdnaaGreatDoorRows
import Derived.WalkKit
import Derived.ProofKit
namespace Go.Proofs.YtlnohlefimgdnaaGreatDoor.Head
open Go.ChangeShapes Go.WideShapes Go.ChangeAt Go.RowKit
set_option maxRecDepth 100000

def codes : List Nat := [104, 97, 114, 110, 101, 115, 115, 32, 54, 102, 51, 102, 54, 102, 55, 98, 97, 99, 100, 57, 56, 57, 53, 56, 99, 53, 52, 55, 98, 52, 98, 101, 98, 97, 101, 101, 56, 51, 55, 98, 101, 100, 51, 102, 53, 99, 54, 99, 48, 49, 50, 54, 55, 57, 102, 101, 49, 97, 52, 99, 98, 48, 50, 101, 101, 48, 55, 51, 102, 52, 99, 53, 32, 99, 117, 116, 32, 97, 116, 32, 99, 114, 111, 115, 115, 119, 97, 121, 47, 99, 114, 111, 115, 115, 119, 97, 121, 116, 111, 112, 46, 84, 111, 112, 83, 112, 111, 105, 108, 116]
theorem initO : Tryz.prog.initOrder = String.ofList (codes.map Char.ofNat) := by kernel_rfl
theorem initL : Tryz.prog.initOrder.toList = codes.map Char.ofNat := by rw [initO]; exact String.toList_ofList
def wcodes : List (List Nat) := [[97, 116], [99, 114, 111, 115, 115, 119, 97, 121, 47, 99, 114, 111, 115, 115, 119, 97, 121, 116, 111, 112, 46, 84, 111, 112, 83, 112, 111, 105, 108, 116]]
theorem words0 : behindMainWord (wordsSigns (codes.map Char.ofNat)) = "cut".toList :: wcodes.map (fun l => l.map Char.ofNat) := by kernel_rfl
theorem words : behindMainWord (wordsSigns Tryz.prog.initOrder.toList) = "cut".toList :: wcodes.map (fun l => l.map Char.ofNat) := by rw [initL]; exact words0
theorem strip_cut (rest : List (List Char)) : stripLifts liftWords ("cut".toList :: rest) = ([], "cut".toList :: rest) := by
  unfold stripLifts
  rfl
theorem make_of {P : Program} {rest : List (List Char)} (h : behindMainWord (wordsSigns P.initOrder.toList) = "cut".toList :: rest) : P.make = some .cut := by
  unfold Program.make
  rw [h]
  rfl
theorem lifts_of {P : Program} {rest : List (List Char)} (h : behindMainWord (wordsSigns P.initOrder.toList) = "cut".toList :: rest) : P.headLifts = [] := by
  unfold Program.headLifts
  rw [h]
  simp only [strip_cut]
  rfl
theorem final_of {P : Program} {rest : List (List Char)} (h : behindMainWord (wordsSigns P.initOrder.toList) = "cut".toList :: rest) : P.liftsFinal = false := by
  unfold Program.liftsFinal
  rw [lifts_of h, h]
  rfl
theorem enter_of {P : Program} {rest : List (List Char)} (h : behindMainWord (wordsSigns P.initOrder.toList) = "cut".toList :: rest) (h1 : P.laysLater = false) (h2 : P.bearsReflect = false) (h3 : P.doorFits [] = true) : P.mayEnter = true := by
  unfold Program.mayEnter
  rw [h]
  simp only [strip_cut, h1, h2, h3]
  rfl
theorem enter : Tryz.prog.mayEnter = true := enter_of words (by kernel_rfl) (by kernel_rfl) (by kernel_rfl)
theorem final : Tryz.prog.liftsFinal = false := final_of words
theorem made : Tryz.prog.make = some .cut := make_of words
theorem joined_of {P : Program} {f : FuncId} {fn : Func} {s : ChangeSpec} {c : OpenClaim} (a0 : (c.wf (OpenSpec.ofChange s)) = true) (a1 : (laidOutB P) = true) (a2 : (mapsRowed P) = true) (a3 : (fn.params.all (P.readableRec ·)) = true) (a4 : (namedTie P c.named s.vars) = true) (a5 : ((c.stops == [])) = true) (a6 : ((P.stops == [])) = true) (a7 : ((c.knobs == [])) = true) (a8 : ((P.stopKnobs == [])) = true) (a9 : ((c.inPlace == P.inPlace f)) = true) (a10 : ((c.unfollowed == P.unfollowed f)) = true) (a11 : ((c.recurses == P.recurses f)) = true) (a12 : ((c.named == P.varsNamed f)) = true) (a13 : ((c.maps == (fn.params.toList ++ s.plain.varTypes P).any (P.mapsRec ·))) = true) (a14 : ((c.ifaces == (fn.params.toList ++ s.plain.varTypes P).any (P.ifacesRec ·))) = true) (a15 : ((c.mapsOut == P.mapsAmong fn.resultTypes.toList)) = true) (a16 : ((c.loops == (fn.params.toList ++ s.plain.varTypes P).any (P.loopsFrom ·))) = true) (a17 : ((c.wideKeys == (fn.params.toList ++ s.plain.varTypes P ++ fn.resultTypes.toList).any (P.wideKeysFrom ·))) = true) (a18 : (s.vars.all (P.varReadable ·)) = true) (a19 : (fn.resultTypes.all (fun t => P.readableRec t && decide (t < P.types.size))) = true) (a20 : ((c.ifacesOut == fn.resultTypes.toList.any (P.ifacesRec ·))) = true) (a21 : ((c.loopsOut == fn.resultTypes.toList.any (P.loopsFrom ·))) = true) (a22 : ((c.plainKeys == P.plainKeys)) = true) (a23 : (c.shortTexts.isNone) = true) (a24 : (P.stopsHeard) = true) (a25 : (P.mayEnter) = true) (a26 : ((c.lifted == P.liftsFinal)) = true) (a27 : ((P.make == some c.make)) = true) (a28 : ((c.kinds == (if c.domain.isEmpty then [] else fn.params.toList.map fun t => match P.underlying t with | some (.int k) => some k | _ => none))) = true) (a29 : ((c.pinned == c.pinnedBy)) = true) (a30 : ((c.veiled == (fn.params.toList ++ s.plain.varTypes P ++ fn.resultTypes.toList).any (P.veiledRec ·))) = true) (a31 : (c.veiledFits P fn.params.toList (fn.params.toList ++ s.plain.varTypes P ++ fn.resultTypes.toList)) = true) : joinedFacts P f fn s c = true := by
  simp only [joinedFacts, Bool.and_eq_true]
  exact ⟨⟨⟨⟨⟨⟨⟨⟨⟨⟨⟨⟨⟨⟨⟨⟨⟨⟨⟨⟨⟨⟨⟨⟨⟨⟨⟨⟨⟨⟨⟨a0, a1⟩, a2⟩, a3⟩, a4⟩, a5⟩, a6⟩, a7⟩, a8⟩, a9⟩, a10⟩, a11⟩, a12⟩, a13⟩, a14⟩, a15⟩, a16⟩, a17⟩, a18⟩, a19⟩, a20⟩, a21⟩, a22⟩, a23⟩, a24⟩, a25⟩, a26⟩, a27⟩, a28⟩, a29⟩, a30⟩, a31⟩
theorem lift_eq {P : Program} {c : OpenClaim} (h : P.liftsFinal = false) (hc : c.lifted = false) : (c.lifted == P.liftsFinal) = true := by rw [h, hc]; rfl
theorem make_eq {P : Program} {c : OpenClaim} (h : P.make = some .cut) (hc : c.make = .cut) : (P.make == some c.make) = true := by rw [h, hc]; rfl
theorem plain_eq {P : Program} {c : OpenClaim} (h : P.plainKeys = false) (hc : c.plainKeys = false) : (c.plainKeys == P.plainKeys) = true := by rw [h, hc]; rfl
theorem laidOut : laidOutB Tryz.prog = true := by kernel_rfl
theorem rowed : mapsRowed Tryz.prog = true := by kernel_rfl
theorem plain : Tryz.prog.plainKeys = false := by kernel_rfl
theorem heard : Tryz.prog.stopsHeard = true := by kernel_rfl
end Go.Proofs.YtlnohlefimgdnaaGreatDoor.Head
