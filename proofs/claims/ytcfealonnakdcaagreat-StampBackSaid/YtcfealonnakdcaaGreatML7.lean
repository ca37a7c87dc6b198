/- A part of a proof of a given law of this program: lemmas, printed forms of its functions, contracts. It has no conditions of its own. -/
import Derived.Test.YtcfealonnakdcaaGreatMB
import Derived.Test.YtcfealonnakdcaaGreatMC
import Derived.Test.YtcfealonnakdcaaGreatMR
import Derived.Test.YtcfealonnakdcaaGreatMA

section
namespace Go.Sh
open Go Go.Fw Go.Proofs
set_option maxRecDepth 100000
set_option linter.unusedVariables false
def z12 : List UInt8 := List.replicate 12 0
section
variable {w : World} {K : Value → World → Prop}
theorem frThr {w1 w2 : World} {lo hi : Nat} (f : Fr [] w w1) (h : Fr (rg lo hi) w1 w2) (hlo : w.heap.size ≤ lo) : Fr [] w w2 := f.trans h fun x hx => .inr (Nat.le_trans hlo (mem_rg.1 hx).1)
theorem OB.sp {p : Option Addr} {l c : Nat} {xs : List UInt8} {lo lo0 hi : Nat} (h : OB w p l c xs lo0) (h1 : hi ≤ lo0) : Go.Sh.sp lo hi p xs := .inr fun k hk => .inr (Nat.le_trans h1 (h.2.2 k hk))
theorem rowNil (w : World) : Row w none (([] : List UInt8).map vb) := .inl rfl
end
end Go.Sh
end
