/- A part of a proof of a given law of this program: lemmas, printed forms of its functions, contracts. It has no conditions of its own. -/
import Derived.Test.YtlphgbgfnjhhcaaFw3
import Derived.Test.YtlphgbgfnjhhcaaProg
namespace Go.Sh
open Go Go.Fw Go.Proofs
set_option maxRecDepth 100000
set_option linter.unusedVariables false

/-! ### slices.Clone[[]byte,byte]: function 107 -/

def slices_Clone_byte_byte (p0 : Option Addr) (l0 : Nat) (c0 : Nat) (w : World) (Q : Value → World → Prop) : Prop :=
  ∃ (b4 : Bool) (w1 : World), Ef Try.prog (do eqGuard .eql 50 (.tmp 3) (.const (.slice none 0 0)) (.slice p0 l0 c0) (.slice none 0 0); binOp .eql 50 (.slice p0 l0 c0) (.slice none 0 0) : Sem Value) w (.bool b4) w1 ∧
  cond b4
  (Q (.slice none 0 0) w1)
  (∃ (p5 : Option Addr) (l5 : Nat) (c5 : Nat) (w2 : World), Ef Try.prog (Instr.buildSlice 50 0 #[]) w1 (.slice p5 l5 c5) w2 ∧
    ∃ (p7 : Option Addr) (l7 : Nat) (c7 : Nat) (w3 : World), Ef Try.prog (Builtin.append_ #[50, 50] 50 #[.slice p5 l5 c5, .slice p0 l0 c0]) w2 (.slice p7 l7 c7) w3 ∧
    Q (.slice p7 l7 c7) w3)

def slices_Clone_byte_byte_tt : Nat → List (Nat × TypeId) := fun _ => []

theorem slices_Clone_byte_byte_call (p0 : Option Addr) (l0 : Nat) (c0 : Nat) (w : World) (Q : Value → World → Prop) (h : slices_Clone_byte_byte p0 l0 c0 w Q) : callF Try.prog 107 #[.slice p0 l0 c0] w Q :=
  callF_of (fun _ _ => by kernel_rfl) (callK_of_sw slices_Clone_byte_byte_tt Try.func107 rfl (by kernel_rfl) (show sw Try.prog none 8 slices_Clone_byte_byte_tt _ 0 (endK Try.prog [.tmp 2] Q) ⟨regs [.slice p0 l0 c0], []⟩ w from
    Eq.mp (by kernel_rfl : slices_Clone_byte_byte p0 l0 c0 w Q = sw Try.prog none 8 slices_Clone_byte_byte_tt (Try.f107.body.getD .skip) 0 (endK Try.prog [.tmp 2] Q) ⟨regs [.slice p0 l0 c0], []⟩ w) h))


/-! ### slices.Concat[[]byte,byte]: function 149 -/

def slices_Concat_byte_byte_j1 (p0 : Option Addr) (l0 : Nat) (c0 : Nat) (p2 : Option Addr) (l2 : Nat) (c2 : Nat) (n3 : Int) (w : World) (Q : Value → World → Prop) : Prop :=
  callF Try.prog 165 #[.slice none 0 0, .int .i64 n3] w fun r24 w1 =>
  ∃ (p24 : Option Addr) (l24 : Nat) (c24 : Nat), r24 = .slice p24 l24 c24 ∧
  LoopS [.slice p2 l2 c2, .slice p24 l24 c24, .slice p0 l0 c0, .int .i64 ((l0 : Nat) : Int), .int .i64 0] w1 fun I2 μ2 us2 _ wl2 =>
  ∃ (p2_1 : Option Addr) (l2_1 : Nat) (c2_1 : Nat) (p6 : Option Addr) (l6 : Nat) (c6 : Nat) (p25 : Option Addr) (l25 : Nat) (c25 : Nat) (n26 : Int) (n27 : Int), us2 = [.slice p2_1 l2_1 c2_1, .slice p6 l6 c6, .slice p25 l25 c25, .int .i64 n26, .int .i64 n27] ∧
  cond (decide (n27 < n26))
  (∃ (a29 : Addr), IxA Try.prog 68 (.slice p25 l25 c25) (.int .i64 n27) a29 ∧
    ∃ (p30 : Option Addr) (l30 : Nat) (c30 : Nat), Ld Try.prog 50 (.pointer (some a29)) wl2 (.slice p30 l30 c30) ∧
    ∃ (p33 : Option Addr) (l33 : Nat) (c33 : Nat) (w2 : World), Ef Try.prog (Builtin.append_ #[50, 50] 50 #[.slice p6 l6 c6, .slice p30 l30 c30]) wl2 (.slice p33 l33 c33) w2 ∧
    goesOn [] [] I2 μ2 us2 [.slice p2_1 l2_1 c2_1, .slice p33 l33 c33, .slice p25 l25 c25, .int .i64 n26, .int .i64 (IntKind.i64.wrap (n27 + 1))] wl2 w2)
  (Q (.slice p6 l6 c6) wl2)

def slices_Concat_byte_byte (p0 : Option Addr) (l0 : Nat) (c0 : Nat) (w : World) (Q : Value → World → Prop) : Prop :=
  LoopS [.slice p0 l0 c0, .slice none 0 0, .int .i64 0, .slice p0 l0 c0, .int .i64 ((l0 : Nat) : Int), .int .i64 0] w fun I1 μ1 us1 _ wl1 =>
  ∃ (p0_1 : Option Addr) (l0_1 : Nat) (c0_1 : Nat) (p2 : Option Addr) (l2 : Nat) (c2 : Nat) (n3 : Int) (p9 : Option Addr) (l9 : Nat) (c9 : Nat) (n10 : Int) (n11 : Int), us1 = [.slice p0_1 l0_1 c0_1, .slice p2 l2 c2, .int .i64 n3, .slice p9 l9 c9, .int .i64 n10, .int .i64 n11] ∧
  cond (decide (n11 < n10))
  (∃ (a13 : Addr), IxA Try.prog 68 (.slice p9 l9 c9) (.int .i64 n11) a13 ∧
    ∃ (p14 : Option Addr) (l14 : Nat) (c14 : Nat), Ld Try.prog 50 (.pointer (some a13)) wl1 (.slice p14 l14 c14) ∧
    cond (decide ((IntKind.i64.wrap (n3 + ((l14 : Nat) : Int))) < 0))
    (∃ (v21 : Value) (w1 : World), Ef Try.prog (Instr.makeInterface 9 (.string (⟨#[108, 101, 110, 32, 111, 117, 116, 32, 111, 102, 32, 114, 97, 110, 103, 101]⟩ : ByteArray))) wl1 (v21) w1 ∧
      False)
    (goesOn [] [] I1 μ1 us1 [.slice p0_1 l0_1 c0_1, .slice p2 l2 c2, .int .i64 (IntKind.i64.wrap (n3 + ((l14 : Nat) : Int))), .slice p9 l9 c9, .int .i64 n10, .int .i64 (IntKind.i64.wrap (n11 + 1))] wl1 wl1))
  (slices_Concat_byte_byte_j1 p0_1 l0_1 c0_1 p2 l2 c2 n3 wl1 Q)

def slices_Concat_byte_byte_tt : Nat → List (Nat × TypeId) := fun n => match n with | 0 => [(0, 68), (2, 50), (3, 3), (9, 68), (10, 3), (11, 3)] | 2 => [(2, 50), (6, 50), (25, 68), (26, 3), (27, 3)] | _ => []

theorem slices_Concat_byte_byte_call (p0 : Option Addr) (l0 : Nat) (c0 : Nat) (w : World) (Q : Value → World → Prop) (h : slices_Concat_byte_byte p0 l0 c0 w Q) : callF Try.prog 149 #[.slice p0 l0 c0] w Q :=
  callF_of (fun _ _ => by kernel_rfl) (callK_of_sw slices_Concat_byte_byte_tt Try.func149 rfl (by kernel_rfl) (show sw Try.prog none 36 slices_Concat_byte_byte_tt _ 0 (endK Try.prog [.tmp 2] Q) ⟨regs [.slice p0 l0 c0], []⟩ w from
    Eq.mp (by kernel_rfl : slices_Concat_byte_byte p0 l0 c0 w Q = sw Try.prog none 36 slices_Concat_byte_byte_tt (Try.f149.body.getD .skip) 0 (endK Try.prog [.tmp 2] Q) ⟨regs [.slice p0 l0 c0], []⟩ w) h))


/-! ### slices.ContainsFunc[[][]byte,[]byte]: function 158 -/

def slices_ContainsFunc_byte_byte (p0 : Option Addr) (l0 : Nat) (c0 : Nat) (v1 : Value) (w : World) (Q : Value → World → Prop) : Prop :=
  callF Try.prog 168 #[.slice p0 l0 c0, v1] w fun r7 w1 =>
  ∃ (n7 : Int), r7 = .int .i64 n7 ∧
  Q (.bool (decide (n7 ≥ 0))) w1

def slices_ContainsFunc_byte_byte_tt : Nat → List (Nat × TypeId) := fun _ => []

theorem slices_ContainsFunc_byte_byte_call (p0 : Option Addr) (l0 : Nat) (c0 : Nat) (v1 : Value) (w : World) (Q : Value → World → Prop) (h : slices_ContainsFunc_byte_byte p0 l0 c0 v1 w Q) : callF Try.prog 158 #[.slice p0 l0 c0, v1] w Q :=
  callF_of (fun _ _ => by kernel_rfl) (callK_of_sw slices_ContainsFunc_byte_byte_tt Try.func158 rfl (by kernel_rfl) (show sw Try.prog none 9 slices_ContainsFunc_byte_byte_tt _ 0 (endK Try.prog [.tmp 4] Q) ⟨regs [.slice p0 l0 c0, v1], []⟩ w from
    Eq.mp (by kernel_rfl : slices_ContainsFunc_byte_byte p0 l0 c0 v1 w Q = sw Try.prog none 9 slices_ContainsFunc_byte_byte_tt (Try.f158.body.getD .skip) 0 (endK Try.prog [.tmp 4] Q) ⟨regs [.slice p0 l0 c0, v1], []⟩ w) h))


/-! ### slices.Grow[[]byte,byte]: function 165 -/

def slices_Grow_byte_byte_j1 (p0 : Option Addr) (l0 : Nat) (c0 : Nat) (n1 : Int) (p4 : Option Addr) (l4 : Nat) (c4 : Nat) (w : World) (Q : Value → World → Prop) : Prop :=
  ∃ (n10 : Int), Pu Try.prog (Builtin.cap_ #[50] 3 #[.slice p0 l0 c0]) (.int .i64 n10) ∧
  cond (decide ((IntKind.i64.wrap (n1 - (IntKind.i64.wrap (n10 - ((l0 : Nat) : Int))))) > 0))
  (∃ (n19 : Int), Pu Try.prog (Builtin.cap_ #[50] 3 #[.slice p0 l0 c0]) (.int .i64 n19) ∧
    ∃ (p20 : Option Addr) (l20 : Nat) (c20 : Nat), Pu Try.prog (Instr.sliceAt 50 (.slice p0 l0 c0) none (some (.int .i64 n19)) none) (.slice p20 l20 c20) ∧
    ∃ (p22 : Option Addr) (l22 : Nat) (c22 : Nat) (w1 : World), Ef Try.prog (Builtin.append_ #[50, 3] 50 #[.slice p20 l20 c20, .int .i64 (IntKind.i64.wrap (n1 - (IntKind.i64.wrap (n10 - ((l0 : Nat) : Int)))))]) w (.slice p22 l22 c22) w1 ∧
    ∃ (p25 : Option Addr) (l25 : Nat) (c25 : Nat), Pu Try.prog (Instr.sliceAt 50 (.slice p22 l22 c22) none (some (.int .i64 ((l0 : Nat) : Int))) none) (.slice p25 l25 c25) ∧
    Q (.slice p25 l25 c25) w1)
  (Q (.slice p0 l0 c0) w)

def slices_Grow_byte_byte (p0 : Option Addr) (l0 : Nat) (c0 : Nat) (n1 : Int) (w : World) (Q : Value → World → Prop) : Prop :=
  cond (decide (n1 < 0))
  (∃ (v7 : Value) (w1 : World), Ef Try.prog (Instr.makeInterface 9 (.string (⟨#[99, 97, 110, 110, 111, 116, 32, 98, 101, 32, 110, 101, 103, 97, 116, 105, 118, 101]⟩ : ByteArray))) w (v7) w1 ∧
    False)
  (slices_Grow_byte_byte_j1 p0 l0 c0 n1 none 0 0 w Q)

def slices_Grow_byte_byte_tt : Nat → List (Nat × TypeId) := fun _ => []

theorem slices_Grow_byte_byte_call (p0 : Option Addr) (l0 : Nat) (c0 : Nat) (n1 : Int) (w : World) (Q : Value → World → Prop) (h : slices_Grow_byte_byte p0 l0 c0 n1 w Q) : callF Try.prog 165 #[.slice p0 l0 c0, .int .i64 n1] w Q :=
  callF_of (fun _ _ => by kernel_rfl) (callK_of_sw slices_Grow_byte_byte_tt Try.func165 rfl (by kernel_rfl) (show sw Try.prog none 27 slices_Grow_byte_byte_tt _ 0 (endK Try.prog [.tmp 4] Q) ⟨regs [.slice p0 l0 c0, .int .i64 n1], []⟩ w from
    Eq.mp (by kernel_rfl : slices_Grow_byte_byte p0 l0 c0 n1 w Q = sw Try.prog none 27 slices_Grow_byte_byte_tt (Try.f165.body.getD .skip) 0 (endK Try.prog [.tmp 4] Q) ⟨regs [.slice p0 l0 c0, .int .i64 n1], []⟩ w) h))


/-! ### slices.IndexFunc[[][]byte,[]byte]: function 168 -/

def slices_IndexFunc_byte_byte (p0 : Option Addr) (l0 : Nat) (c0 : Nat) (v1 : Value) (w : World) (Q : Value → World → Prop) : Prop :=
  LoopS [.slice p0 l0 c0, v1, .int .i64 0, .int .i64 ((l0 : Nat) : Int), .int .i64 0] w fun I1 μ1 us1 _ wl1 =>
  ∃ (p0_1 : Option Addr) (l0_1 : Nat) (c0_1 : Nat) (v1_1 : Value) (n4 : Int) (n7 : Int) (n8 : Int), us1 = [.slice p0_1 l0_1 c0_1, v1_1, .int .i64 n4, .int .i64 n7, .int .i64 n8] ∧
  cond (decide (n8 < n7))
  (∃ (a14 : Addr), IxA Try.prog 68 (.slice p0_1 l0_1 c0_1) (.int .i64 n8) a14 ∧
    ∃ (p15 : Option Addr) (l15 : Nat) (c15 : Nat), Ld Try.prog 50 (.pointer (some a14)) wl1 (.slice p15 l15 c15) ∧
    callV Try.prog (v1_1) [.slice p15 l15 c15] wl1 fun r16 w1 =>
    ∃ (b16 : Bool), r16 = .bool b16 ∧
    cond b16
    (Q (.int .i64 n8) w1)
    (goesOn [] [] I1 μ1 us1 [.slice p0_1 l0_1 c0_1, v1_1, .int .i64 n4, .int .i64 n7, .int .i64 (IntKind.i64.wrap (n8 + 1))] wl1 w1))
  (Q (.int .i64 (-1)) wl1)

def slices_IndexFunc_byte_byte_tt : Nat → List (Nat × TypeId) := fun n => match n with | 0 => [(0, 68), (1, 78), (4, 3), (7, 3), (8, 3)] | _ => []

theorem slices_IndexFunc_byte_byte_call (p0 : Option Addr) (l0 : Nat) (c0 : Nat) (v1 : Value) (w : World) (Q : Value → World → Prop) (h : slices_IndexFunc_byte_byte p0 l0 c0 v1 w Q) : callF Try.prog 168 #[.slice p0 l0 c0, v1] w Q :=
  callF_of (fun _ _ => by kernel_rfl) (callK_of_sw slices_IndexFunc_byte_byte_tt Try.func168 rfl (by kernel_rfl) (show sw Try.prog none 19 slices_IndexFunc_byte_byte_tt _ 0 (endK Try.prog [.tmp 4] Q) ⟨regs [.slice p0 l0 c0, v1], []⟩ w from
    Eq.mp (by kernel_rfl : slices_IndexFunc_byte_byte p0 l0 c0 v1 w Q = sw Try.prog none 19 slices_IndexFunc_byte_byte_tt (Try.f168.body.getD .skip) 0 (endK Try.prog [.tmp 4] Q) ⟨regs [.slice p0 l0 c0, v1], []⟩ w) h))

end Go.Sh
