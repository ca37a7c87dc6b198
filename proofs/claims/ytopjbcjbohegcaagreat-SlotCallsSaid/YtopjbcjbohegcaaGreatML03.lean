/- A part of a proof of a given law of this program: lemmas, printed forms of its functions, contracts. It has no conditions of its own. -/
import Derived.Test.YtopjbcjbohegcaaGreatMA
import Derived.Test.YtopjbcjbohegcaaGreatMFw

section
namespace Go.Sh
open Go Go.Fw Go.Proofs
set_option maxRecDepth 100000
set_option linter.unusedVariables false
theorem Row.old {a w w' : World} {p : Option Addr} {xs : List UInt8} {b : Nat} (h0 : Row a p (xs.map vb)) (h : Row w p (xs.map vb)) (hf : Fr [b] w w') (hb : a.heap.size ≤ b) : Row w' p (xs.map vb) := by
  by_cases hx : xs.length = 0
  · have : xs = [] := List.length_eq_zero_iff.1 hx
    subst this; exact Row.nil _ _
  · exact Row.fr_lt h hf fun hk => by have := Row.blk_lt h0 (by omega) _ hk; omega
end Go.Sh
end
