/- A part of a proof of a given law of this program: lemmas, printed forms of its functions, contracts. It has no conditions of its own. -/
import Derived.Test.YtopjbcjbohegcaaGreatMFw3
import Derived.Test.YtopjbcjbohegcaaGreatMH
import Derived.Test.YtopjbcjbohegcaaGreatMC

section
namespace Go.Sh
open Go Go.Fw Go.Proofs
set_option maxRecDepth 100000
set_option linter.unusedVariables false
theorem rowKeep {w w' : World} {p : Option Addr} {xs : List UInt8} {L : List Nat} (h : Row w p (xs.map vb)) (hf : Fr L w w') (hn : 0 < xs.length → ∀ z ∈ blks p, z ∉ L) : Row w' p (xs.map vb) := by
  by_cases hx : xs.length = 0
  · have : xs = [] := List.length_eq_zero_iff.1 hx
    subst this; exact Row.nil _ _
  · exact Row.cells_fr h hf (hn (by omega))
def RdAt (w : World) (b : Nat) (err : Int) (rest : List UInt8) : Prop :=
  ∃ f p c, Blk w b 2 f ∧ f 0 = .int .i64 err ∧ f 1 = .slice p rest.length c ∧ rest.length ≤ c ∧ Row w p (rest.map vb) ∧ (0 < rest.length → ∀ z ∈ blks p, z < b)
theorem RdAt.lt {w : World} {b : Nat} {err : Int} {rest : List UInt8} (h : RdAt w b err rest) : b < w.heap.size := by obtain ⟨f, p, c, hB, _⟩ := h; exact hB.lt
theorem RdAt.fr {w w' : World} {b : Nat} {err : Int} {rest : List UInt8} {L : List Nat} (h : RdAt w b err rest) (hf : Fr L w w') (hL : ∀ z ∈ L, b < z) : RdAt w' b err rest := by
  obtain ⟨f, p, c, hB, h0, h1, hc, hR, hn⟩ := h
  exact ⟨f, p, c, hB.fr hf (fun hb => by have := hL b hb; omega), h0, h1, hc, rowKeep hR hf (fun h0 z hz hz' => by have := hL z hz'; have := hn h0 z hz; omega), hn⟩
theorem RdAt.fr0 {w w' : World} {b : Nat} {err : Int} {rest : List UInt8} (h : RdAt w b err rest) (hf : Fr [] w w') : RdAt w' b err rest := h.fr hf (by simp)
section
variable {w : World} {b : Nat} {err : Int} {rest : List UInt8}
end
end Go.Sh
end

section
namespace Go.Sh
open Go Go.Fw Go.Proofs
set_option maxRecDepth 100000
set_option linter.unusedVariables false
theorem PuMax {n m : Int} : Pu Tryz.prog (Builtin.max_ #[T_int, T_int] T_int #[.int .i64 n, .int .i64 m]) (.int .i64 (max n m)) := by
  have e : Pu Tryz.prog (Builtin.max_ #[T_int, T_int] T_int #[.int .i64 n, .int .i64 m]) (.int .i64 (if m > n then m else n)) := by unfold Pu; kernel_rfl
  have : (if m > n then m else n) = max n m := by split <;> omega
  rwa [this] at e
section
variable {w : World} {b : Nat} {err : Int} {rest : List UInt8}
end
end Go.Sh
end
