/- A part of a proof of a given law of this program: lemmas, printed forms of its functions, contracts. It has no conditions of its own. -/
import Derived.Test.YtlphgbgfnjhhcaaCField
namespace Go.Sh
open Go Go.Fw Go.Proofs
set_option maxRecDepth 100000
set_option linter.unusedVariables false

def unaff (s : UInt8) : UInt8 := rot s 1 ^^^ rot s 3 ^^^ rot s 6 ^^^ 5
theorem unsign (a : UInt8) : ginv (unaff (gsign a)) = a := by
  have := all8 (p := fun a => ginv (unaff (gsign a)) == a) (by kernel_rfl) a
  simpa using this
theorem gsign_inj {a b : UInt8} (h : gsign a = gsign b) : a = b := by rw [← unsign a, h, unsign b]
end Go.Sh
