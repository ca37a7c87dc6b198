/- A part of a proof of a given law of this program: lemmas, printed forms of its functions, contracts. It has no conditions of its own. -/
import Derived.Test.YtlphgbgfnjhhcaaCTables
import Derived.ProofKit
import Derived.OpenShut
namespace Go.Sh
open Go Go.Fw Go.Proofs
open Go.ChangeShapes Go.WideShapes Go.ChangeAt Go.RowKit

/-- A slice of bytes that came in, as a row of bytes. -/
theorem row_of {w : World} {a : Option Addr} {len cap : Nat} {zs : List Int} (h : (a = none ∧ len = 0 ∧ cap = 0 ∧ zs = []) ∨
    ∃ x, a = some x ∧ len ≤ cap ∧ cap ≤ maxLen ∧ zs.length = cap ∧ (∀ i, i < zs.length → w.cell? (x.add i) = some (.int .u8 (zs.getD i 0))) ∧ ∀ n ∈ zs, (Lit.int .u8 n).wf = true) :
    ∃ xs : List UInt8, xs.length = len ∧ Row w a (xs.map vb) := by
  rcases h with ⟨rfl, rfl, rfl, rfl⟩ | ⟨x, rfl, hl, hm, hz, hc, hw⟩
  · exact ⟨[], rfl, Row.nil _ _⟩
  · by_cases h0 : zs.length = 0
    · exact ⟨[], by simp; omega, Row.nil _ _⟩
    · have hsp : x.spot = none := by
        have := hc 0 (by omega)
        unfold World.cell? at this
        have e : x.add 0 = x := rfl
        rw [e] at this
        split at this
        · split at this
          · cases this
          · rename_i h; simpa using h
        · cases this
      obtain ⟨b, o, sp⟩ := x
      simp only at hsp
      subst hsp
      refine ⟨(zs.take len).map fun n => UInt8.ofNat n.toNat, by simp; omega, .inr ⟨b, o, rfl, fun j v hj => ?_⟩⟩
      simp only [List.map_map, List.getElem?_map, List.getElem?_take] at hj
      split at hj
      · rename_i hjl
        have hjz : j < zs.length := by omega
        rw [List.getElem?_eq_getElem hjz] at hj
        have h1 := hc j hjz
        rw [add_mk] at h1
        have h2 : zs.getD j 0 = zs[j] := by rw [List.getD_eq_getElem?_getD, List.getElem?_eq_getElem hjz]; rfl
        have h3 := hw zs[j] (List.getElem_mem hjz)
        have h4 : 0 ≤ zs[j] ∧ zs[j] < 256 := by simp [Lit.wf, IntKind.min, IntKind.max, IntKind.bits, IntKind.signed] at h3; omega
        have h5 : vb (UInt8.ofNat zs[j].toNat) = .int .u8 zs[j] := by
          have : ((UInt8.ofNat zs[j].toNat).toNat : Int) = zs[j] := by simp; omega
          rw [vb, this]
        rw [h1, h2]
        simp only [Option.map_some, Function.comp] at hj
        rw [h5] at hj
        exact hj
      · cases hj
end Go.Sh
