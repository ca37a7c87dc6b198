/- A part of a proof of a given law of this program: lemmas, printed forms of its functions, contracts. It has no conditions of its own. -/
import Derived.Test.YtlphgbgfnjhhcaaFw6
namespace Go.Fw
open Go
section
variable {P : Program} {t : TypeId} {x y : Operand}
theorem Pu.shl {k k' : IntKind} {a s : Int} (h0 : 0 ≤ s) : Pu P (do eqGuard .shl t x y (.int k a) (.int k' s); binOp .shl t (.int k a) (.int k' s) : Sem Value) (.int k (k.wrap (a * 2 ^ min s.toNat k.bits))) := by
  show res P (Op.shift .shl k a k' s) = _
  unfold Op.shift
  rw [if_neg (by omega)]
  rfl
theorem Pu.shr {k k' : IntKind} {a s : Int} (h0 : 0 ≤ s) : Pu P (do eqGuard .shr t x y (.int k a) (.int k' s); binOp .shr t (.int k a) (.int k' s) : Sem Value) (.int k (a.fdiv (2 ^ min s.toNat k.bits))) := by
  show res P (Op.shift .shr k a k' s) = _
  unfold Op.shift
  rw [if_neg (by omega)]
  rfl
theorem Pu.quo {k : IntKind} {a b : Int} (h0 : b ≠ 0) : Pu P (do eqGuard .quo t x y (.int k a) (.int k b); binOp .quo t (.int k a) (.int k b) : Sem Value) (.int k (k.wrap (a.tdiv b))) := by
  show res P (if k ≠ k then stuck "BinOp: operands of different kinds" else Op.intDiv .quo k a b) = _
  rw [if_neg (by simp)]
  unfold Op.intDiv
  rw [if_neg h0]
  rfl
theorem Pu.rem {k : IntKind} {a b : Int} (h0 : b ≠ 0) : Pu P (do eqGuard .rem t x y (.int k a) (.int k b); binOp .rem t (.int k a) (.int k b) : Sem Value) (.int k (a.tmod b)) := by
  show res P (if k ≠ k then stuck "BinOp: operands of different kinds" else Op.intDiv .rem k a b) = _
  rw [if_neg (by simp)]
  unfold Op.intDiv
  rw [if_neg h0]
  rfl
/-- A pointer against nil. -/
theorem Ef.ptrNil {p : Option Addr} {w : World} {e : TypeId} (ht : P.underlying t = some (.pointer e)) : Ef P (do eqGuard .eql t x y (.pointer p) (.pointer none); binOp .eql t (.pointer p) (.pointer none) : Sem Value) w (.bool p.isNone) w := by
  have h : res P (do eqGuard .eql t x y (.pointer p) (.pointer none); binOp .eql t (.pointer p) (.pointer none) : Sem Value) = some (.bool p.isNone) := by
    cases p with
    | none =>
      show res P ((Op.equalIn Op.maxDepth t (.pointer none) (.pointer none)).bind fun b => pure (Value.bool b)) = _
      rw [res_bind]
      have : res P (Op.equalIn Op.maxDepth t (.pointer none) (.pointer none)) = some true := by
        show res P ((underlying t).bind _) = _
        rw [res_bind, res_underlying ht]
        rfl
      rw [this]
      rfl
    | some a =>
      show res P ((Op.equalIn Op.maxDepth t (.pointer (some a)) (.pointer none)).bind fun b => pure (Value.bool b)) = _
      rw [res_bind]
      have : res P (Op.equalIn Op.maxDepth t (.pointer (some a)) (.pointer none)) = some false := by
        show res P ((underlying t).bind _) = _
        rw [res_bind, res_underlying ht]
        rfl
      rw [this]
      rfl
  exact run_of_res h w
theorem Ef.sliceNil {p : Option Addr} {l c : Nat} {w : World} {e : TypeId} (ht : P.underlying t = some (.slice e)) : Ef P (do eqGuard .eql t x y (.slice p l c) (.slice none 0 0); binOp .eql t (.slice p l c) (.slice none 0 0) : Sem Value) w (.bool p.isNone) w := by
  have h : res P (do eqGuard .eql t x y (.slice p l c) (.slice none 0 0); binOp .eql t (.slice p l c) (.slice none 0 0) : Sem Value) = some (.bool p.isNone) := by
    show res P ((Op.equalIn Op.maxDepth t (.slice p l c) (.slice none 0 0)).bind fun b => pure (Value.bool b)) = _
    rw [res_bind]
    have : res P (Op.equalIn Op.maxDepth t (.slice p l c) (.slice none 0 0)) = some p.isNone := by
      show res P ((underlying t).bind _) = _
      rw [res_bind, res_underlying ht]
      cases p <;> cases l <;> cases c <;> rfl
    rw [this]
    rfl
  exact run_of_res h w
theorem Ef.strEq {a b : ByteArray} {w : World} : Ef P (do eqGuard .eql t x y (.string a) (.string b); binOp .eql t (.string a) (.string b) : Sem Value) w (.bool (a.toList == b.toList)) w := by
  refine run_of_res ?_ w
  show res P (Op.stringOp .eql a b) = _
  rfl
theorem Ef.strNe {a b : ByteArray} {w : World} : Ef P (do eqGuard .neq t x y (.string a) (.string b); binOp .neq t (.string a) (.string b) : Sem Value) w (.bool (!(a.toList == b.toList))) w := by
  refine run_of_res ?_ w
  show res P (Op.stringOp .neq a b) = _
  rfl
end

/-! ### Atomics -/
/-- What the model has in a function's place. -/
def stands (P : Program) (f : FuncId) (e : Array Value → Sem Value) : Prop := ∀ args w, (callFunc f args).run P w = ((e args).run P w).andThen fun v w' => .ok (.value v) w'
theorem callF_value {P : Program} {f : FuncId} {args : Array Value} {w w' : World} {v : Value} {K : Value → World → Prop} (h : (callFunc f args).run P w = .ok (.value v) w') (hk : K v w') : callF P f args w K :=
  callF_in (.inr ⟨v, w', h, hk⟩)
end Go.Fw
