/- A part of a proof of a given law of this program: lemmas, printed forms of its functions, contracts. It has no conditions of its own. -/
import Derived.Test.YtopjbcjbohegcaaGreatMH
import Derived.Test.YtopjbcjbohegcaaGreatML03
import Derived.Test.YtopjbcjbohegcaaGreatML06
import Derived.Test.YtopjbcjbohegcaaGreatMA

section
namespace Go.Sh
open Go Go.Fw Go.Proofs
set_option maxRecDepth 100000
set_option linter.unusedVariables false
theorem _root_.Go.Fw.Fr.at {a b c : World} {k : Nat} (h : Fr [] a b) (f : Fr [k] b c) (hk : a.heap.size ≤ k) : Fr [] a c := h.trans f (fun z hz => .inr (by simp at hz; omega))
section
variable {c lo hi : Nat} {key : List UInt8} {d : Int}
def OR (w : World) (q : Option Addr) (l c : Nat) (xs : List UInt8) (lo : Nat) : Prop := Row w q (xs.map vb) ∧ l = xs.length ∧ l ≤ c ∧ ∀ z ∈ blks q, lo ≤ z
theorem OR.fr {w w' : World} {q : Option Addr} {l c : Nat} {xs : List UInt8} {lo k : Nat} (h : OR w q l c xs lo) (f : Fr [k] w w') (hk : k < lo) : OR w' q l c xs lo := ⟨Row.cells_fr h.1 f (fun z hz => by have := h.2.2.2 z hz; simp; omega), h.2⟩
theorem OR.fr0 {w w' : World} {q : Option Addr} {l c : Nat} {xs : List UInt8} {lo : Nat} (h : OR w q l c xs lo) (f : Fr [] w w') : OR w' q l c xs lo := ⟨Row.cells_fr h.1 f (fun z hz => by simp), h.2⟩
theorem OR.nil (w : World) (lo : Nat) : OR w none 0 0 [] lo := ⟨Row.nil _ _, rfl, Nat.le_refl _, by simp [blks]⟩
theorem OB.or {w : World} {q : Option Addr} {l c : Nat} {xs : List UInt8} {lo : Nat} (h : OB w q l c xs lo) : OR w q l c xs lo := ⟨h.row, h.2.1, h.cap, h.2.2⟩
end
end Go.Sh
end

section
namespace Go.Sh
open Go Go.Fw Go.Proofs
set_option maxRecDepth 100000
set_option linter.unusedVariables false
def OI (w : World) (p : Option Addr) (l c : Nat) (xs : List Int) (lo : Nat) : Prop := OwnS w p l c (xs.map vi) ∧ l = xs.length ∧ ∀ k ∈ blks p, lo ≤ k
theorem OI.row {w : World} {p : Option Addr} {l c : Nat} {xs : List Int} {lo : Nat} (h : OI w p l c xs lo) : Row w p (xs.map vi) := h.1.row
theorem OI.fr {w w' : World} {p : Option Addr} {l c : Nat} {xs : List Int} {lo : Nat} {L : List Nat} (h : OI w p l c xs lo) (hf : Fr L w w') (hl : ∀ k ∈ blks p, k ∉ L) : OI w' p l c xs lo := ⟨h.1.fr hf hl, h.2⟩
theorem OI.fr0 {w w' : World} {p : Option Addr} {l c : Nat} {xs : List Int} {lo : Nat} (h : OI w p l c xs lo) (hf : Fr [] w w') : OI w' p l c xs lo := h.fr hf (by simp)
theorem OI.fr_sep {w w' : World} {p : Option Addr} {l c : Nat} {xs : List Int} {lo b : Nat} (h : OI w p l c xs lo) (hf : Fr [b] w w') (hl : b < lo) : OI w' p l c xs lo :=
  h.fr hf fun k hk => by have := h.2.2 k hk; simp; omega
theorem OI.mono {w : World} {p : Option Addr} {l c : Nat} {xs : List Int} {lo lo' : Nat} (h : OI w p l c xs lo) (h1 : lo' ≤ lo) : OI w p l c xs lo' := ⟨h.1, h.2.1, fun k hk => Nat.le_trans h1 (h.2.2 k hk)⟩
theorem OI.news {a w w' : World} {p : Option Addr} {l c : Nat} {xs : List Int} {lo : Nat} (h : OI w p l c xs lo) (h1 : Fr [] a w) (h2 : Fr (blks p) w w') (h3 : a.heap.size ≤ lo) : Fr [] a w' := h1.trans h2 fun z hz => .inr (Nat.le_trans h3 (h.2.2 z hz))
end Go.Sh
end

section
namespace Go.Sh
open Go Go.Fw Go.Proofs
set_option maxRecDepth 100000
set_option linter.unusedVariables false
def ints (xs : List UInt8) : List Int := xs.map fun x => (x.toNat : Int)
end Go.Sh
end
