/- A part of a proof of a given law of this program: lemmas, printed forms of its functions, contracts. It has no conditions of its own. -/
import Derived.Test.YtcfealonnakdcaaGreatProg
import Derived.Test.YtcfealonnakdcaaGreatMFw
import Derived.Test.YtcfealonnakdcaaGreatMFw3

section
namespace Go.Sh
open Go Go.Fw Go.Proofs
set_option maxRecDepth 100000
set_option linter.unusedVariables false
def poly_Of (p0 : Option Addr) (l0 : Nat) (c0 : Nat) (w : World) (Q : Value → World → Prop) : Prop :=
  ∃ z2, Pu Tryz.prog (zeroValue 339) z2 ∧
  New z2.cells 339 w fun k2 w1 =>
  cond (((l0 : Nat) : Int) != 16)
  (∃ w2, Sto Tryz.prog 339 (.pointer (some (⟨k2, 0, none⟩ : Addr))) (.agg #[.int .u64 0, .int .u64 0]) w1 w2 ∧
    ∃ a2 v2, (.pointer (some (⟨k2, 0, none⟩ : Addr)) : Value) = .pointer (some a2) ∧ (loadVar 339 a2).run Tryz.prog w2 = .ok v2 w2 ∧
    Q (.tuple #[v2, .int .i64 11]) w2)
  (∃ p14 l14 c14, Pu Tryz.prog (Instr.sliceAt 25 (.slice p0 l0 c0) none (some (.int .i64 8)) none) (.slice p14 l14 c14) ∧
    callF Tryz.prog 205 #[.slice p14 l14 c14] w1 fun r15 w3 =>
    ∃ n15 n15_1, r15 = .tuple #[.int .u64 n15, .int .i64 n15_1] ∧
    ∃ p20 l20 c20, Pu Tryz.prog (Instr.sliceAt 25 (.slice p0 l0 c0) (some (.int .i64 8)) none none) (.slice p20 l20 c20) ∧
    callF Tryz.prog 205 #[.slice p20 l20 c20] w3 fun r21 w4 =>
    ∃ n21 n21_1, r21 = .tuple #[.int .u64 n21, .int .i64 n21_1] ∧
    ∃ w5, Sto Tryz.prog 339 (.pointer (some (⟨k2, 0, none⟩ : Addr))) (.agg #[.int .u64 n15, .int .u64 n21]) w4 w5 ∧
    ∃ a2_1 v2_1, (.pointer (some (⟨k2, 0, none⟩ : Addr)) : Value) = .pointer (some a2_1) ∧ (loadVar 339 a2_1).run Tryz.prog w5 = .ok v2_1 w5 ∧
    Q (.tuple #[v2_1, .int .i64 0]) w5)
def poly_Of_tt : Nat → List (Nat × TypeId) := fun _ => []
theorem poly_Of_call (p0 : Option Addr) (l0 : Nat) (c0 : Nat) (w : World) (Q : Value → World → Prop) (h : poly_Of p0 l0 c0 w Q) : callF Tryz.prog 243 #[.slice p0 l0 c0] w Q :=
  callBy poly_Of_tt Tryz.func243 h (fun _ _ => by kernel_rfl) (by kernel_rfl) (by kernel_rfl) (by kernel_rfl)
def poly_Elem_Bytes (n0 : Int) (n0_1 : Int) (w : World) (Q : Value → World → Prop) : Prop :=
  New #[.int .u64 n0, .int .u64 n0_1] 339 w fun k1 w1 =>
  ∃ n9, Ld Tryz.prog 88 (.pointer (some ((⟨k1, 0, none⟩ : Addr).add 0))) w1 (.int .u64 n9) ∧
  callF Tryz.prog 204 #[.int .u64 n9, .int .i64 8] w1 fun r10 w2 =>
  ∃ p10 l10 c10 n10, r10 = .tuple #[.slice p10 l10 c10, .int .i64 n10] ∧
  ∃ n15, Ld Tryz.prog 88 (.pointer (some ((⟨k1, 0, none⟩ : Addr).add 1))) w2 (.int .u64 n15) ∧
  callF Tryz.prog 204 #[.int .u64 n15, .int .i64 8] w2 fun r16 w3 =>
  ∃ p16 l16 c16 n16, r16 = .tuple #[.slice p16 l16 c16, .int .i64 n16] ∧
  ∃ p21 l21 c21 w4, Ef Tryz.prog (Instr.buildSlice 45 2 #[(0, .slice p10 l10 c10), (1, .slice p16 l16 c16)]) w3 (.slice p21 l21 c21) w4 ∧
  callF Tryz.prog 112 #[.slice p21 l21 c21] w4 fun r22 w5 =>
  ∃ p22 l22 c22, r22 = .slice p22 l22 c22 ∧
  Q (.slice p22 l22 c22) w5
def poly_Elem_Bytes_tt : Nat → List (Nat × TypeId) := fun _ => []
theorem poly_Elem_Bytes_call (n0 : Int) (n0_1 : Int) (w : World) (Q : Value → World → Prop) (h : poly_Elem_Bytes n0 n0_1 w Q) : callF Tryz.prog 278 #[.agg #[.int .u64 n0, .int .u64 n0_1]] w Q :=
  callBy poly_Elem_Bytes_tt Tryz.func278 h (fun _ _ => by kernel_rfl) (by kernel_rfl) (by kernel_rfl) (by kernel_rfl)
def poly_Sum_j1 (a2 : Addr) (a3 : Addr) (w : World) (Q : Value → World → Prop) : Prop :=
  ∃ n16 n16_1, Ld Tryz.prog 339 (.pointer (some a3)) w (.agg #[.int .u64 n16, .int .u64 n16_1]) ∧
  ∃ w1, Sto Tryz.prog 339 (.pointer (some a2)) (.agg #[.int .u64 n16, .int .u64 n16_1]) w w1 ∧
  ∃ a2_1 v2, (.pointer (some a2) : Value) = .pointer (some a2_1) ∧ (loadVar 339 a2_1).run Tryz.prog w1 = .ok v2 w1 ∧
  Q (v2) w1
def poly_Sum (p0 : Option Addr) (l0 : Nat) (c0 : Nat) (w : World) (Q : Value → World → Prop) : Prop :=
  ∃ z2, Pu Tryz.prog (zeroValue 339) z2 ∧
  New z2.cells 339 w fun k2 w1 =>
  ∃ z3, Pu Tryz.prog (zeroValue 339) z3 ∧
  New z3.cells 339 w1 fun k3 w2 =>
  LoopS [.pointer (some (⟨k2, 0, none⟩ : Addr)), .pointer (some (⟨k3, 0, none⟩ : Addr)), .slice p0 l0 c0, .int .i64 ((l0 : Nat) : Int), .int .i64 0] w2 fun I1 μ1 us1 _ wl1 =>
  ∃ a2 a3 p6 l6 c6 n7 n8, us1 = [.pointer (some a2), .pointer (some a3), .slice p6 l6 c6, .int .i64 n7, .int .i64 n8] ∧
  cond (decide (n8 < n7))
  (∃ a10, IxA Tryz.prog 388 (.slice p6 l6 c6) (.int .i64 n8) a10 ∧
    ∃ n11 n11_1, Ld Tryz.prog 339 (.pointer (some a10)) wl1 (.agg #[.int .u64 n11, .int .u64 n11_1]) ∧
    ∃ z5, Pu Tryz.prog (zeroValue 339) z5 ∧
    New z5.cells 339 wl1 fun k5 w3 =>
    ∃ w4, Sto Tryz.prog 339 (.pointer (some (⟨k5, 0, none⟩ : Addr))) (.agg #[.int .u64 n11, .int .u64 n11_1]) w3 w4 ∧
    ∃ n12 n12_1, Ld Tryz.prog 339 (.pointer (some a3)) w4 (.agg #[.int .u64 n12, .int .u64 n12_1]) ∧
    ∃ n13 n13_1, Ld Tryz.prog 339 (.pointer (some (⟨k5, 0, none⟩ : Addr))) w4 (.agg #[.int .u64 n13, .int .u64 n13_1]) ∧
    callF Tryz.prog 319 #[.agg #[.int .u64 n12, .int .u64 n12_1], .agg #[.int .u64 n13, .int .u64 n13_1]] w4 fun r14 w5 =>
    ∃ n14 n14_1, r14 = .agg #[.int .u64 n14, .int .u64 n14_1] ∧
    ∃ w6, Sto Tryz.prog 339 (.pointer (some a3)) (.agg #[.int .u64 n14, .int .u64 n14_1]) w5 w6 ∧
    goesOn [] [] I1 μ1 us1 [.pointer (some a2), .pointer (some a3), .slice p6 l6 c6, .int .i64 n7, .int .i64 (IntKind.i64.wrap (n8 + 1))] wl1 w6)
  (poly_Sum_j1 a2 a3 wl1 Q)
def poly_Sum_tt : Nat → List (Nat × TypeId) := fun n => match n with | 0 => [(2, 1000000), (3, 1000000), (6, 388), (7, 3), (8, 3)] | _ => []
theorem poly_Sum_call (p0 : Option Addr) (l0 : Nat) (c0 : Nat) (w : World) (Q : Value → World → Prop) (h : poly_Sum p0 l0 c0 w Q) : callF Tryz.prog 304 #[.slice p0 l0 c0] w Q :=
  callBy poly_Sum_tt Tryz.func304 h (fun _ _ => by kernel_rfl) (by kernel_rfl) (by kernel_rfl) (by kernel_rfl)
def poly_Elem_plus (n0 : Int) (n0_1 : Int) (n1 : Int) (n1_1 : Int) (w : World) (Q : Value → World → Prop) : Prop :=
  New #[.int .u64 n0, .int .u64 n0_1] 339 w fun k2 w1 =>
  New #[.int .u64 n1, .int .u64 n1_1] 339 w1 fun k3 w2 =>
  ∃ z4, Pu Tryz.prog (zeroValue 339) z4 ∧
  New z4.cells 339 w2 fun k4 w3 =>
  ∃ n6, Ld Tryz.prog 88 (.pointer (some ((⟨k2, 0, none⟩ : Addr).add 0))) w3 (.int .u64 n6) ∧
  ∃ n8, Ld Tryz.prog 88 (.pointer (some ((⟨k3, 0, none⟩ : Addr).add 0))) w3 (.int .u64 n8) ∧
  ∃ n11, Ld Tryz.prog 88 (.pointer (some ((⟨k2, 0, none⟩ : Addr).add 1))) w3 (.int .u64 n11) ∧
  ∃ n13, Ld Tryz.prog 88 (.pointer (some ((⟨k3, 0, none⟩ : Addr).add 1))) w3 (.int .u64 n13) ∧
  ∃ w4, Sto Tryz.prog 339 (.pointer (some (⟨k4, 0, none⟩ : Addr))) (.agg #[.int .u64 (ixor .u64 n6 n8), .int .u64 (ixor .u64 n11 n13)]) w3 w4 ∧
  ∃ a4 v4, (.pointer (some (⟨k4, 0, none⟩ : Addr)) : Value) = .pointer (some a4) ∧ (loadVar 339 a4).run Tryz.prog w4 = .ok v4 w4 ∧
  Q (v4) w4
def poly_Elem_plus_tt : Nat → List (Nat × TypeId) := fun _ => []
theorem poly_Elem_plus_call (n0 : Int) (n0_1 : Int) (n1 : Int) (n1_1 : Int) (w : World) (Q : Value → World → Prop) (h : poly_Elem_plus n0 n0_1 n1 n1_1 w Q) : callF Tryz.prog 319 #[.agg #[.int .u64 n0, .int .u64 n0_1], .agg #[.int .u64 n1, .int .u64 n1_1]] w Q :=
  callBy poly_Elem_plus_tt Tryz.func319 h (fun _ _ => by kernel_rfl) (by kernel_rfl) (by kernel_rfl) (by kernel_rfl)
def poly_Elem_Next_j1 (a2 : Addr) (a3 : Addr) (w : World) (Q : Value → World → Prop) : Prop :=
  ∃ n23 n23_1, Ld Tryz.prog 339 (.pointer (some a3)) w (.agg #[.int .u64 n23, .int .u64 n23_1]) ∧
  ∃ w1, Sto Tryz.prog 339 (.pointer (some a2)) (.agg #[.int .u64 n23, .int .u64 n23_1]) w w1 ∧
  ∃ a2_1 v2, (.pointer (some a2) : Value) = .pointer (some a2_1) ∧ (loadVar 339 a2_1).run Tryz.prog w1 = .ok v2 w1 ∧
  Q (v2) w1
def poly_Elem_Next (n0 : Int) (n0_1 : Int) (w : World) (Q : Value → World → Prop) : Prop :=
  New #[.int .u64 n0, .int .u64 n0_1] 339 w fun k1 w1 =>
  ∃ z2, Pu Tryz.prog (zeroValue 339) z2 ∧
  New z2.cells 339 w1 fun k2 w2 =>
  ∃ n5, Ld Tryz.prog 88 (.pointer (some ((⟨k1, 0, none⟩ : Addr).add 0))) w2 (.int .u64 n5) ∧
  ∃ n8, Ld Tryz.prog 88 (.pointer (some ((⟨k1, 0, none⟩ : Addr).add 1))) w2 (.int .u64 n8) ∧
  ∃ n11, Ld Tryz.prog 88 (.pointer (some ((⟨k1, 0, none⟩ : Addr).add 0))) w2 (.int .u64 n11) ∧
  ∃ z3, Pu Tryz.prog (zeroValue 339) z3 ∧
  New z3.cells 339 w2 fun k3 w3 =>
  ∃ w4, Sto Tryz.prog 339 (.pointer (some (⟨k3, 0, none⟩ : Addr))) (.agg #[.int .u64 (Int.fdiv n5 (2 ^ 1)), .int .u64 (ior .u64 (Int.fdiv n8 (2 ^ 1)) (IntKind.u64.wrap (n11 * 2 ^ 63)))]) w3 w4 ∧
  ∃ n16, Ld Tryz.prog 88 (.pointer (some ((⟨k1, 0, none⟩ : Addr).add 1))) w4 (.int .u64 n16) ∧
  cond ((iand .u64 n16 1) != 0)
  (∃ n20, Ld Tryz.prog 88 (.pointer (some ((⟨k3, 0, none⟩ : Addr).add 0))) w4 (.int .u64 n20) ∧
    ∃ w5, Sto Tryz.prog 88 (.pointer (some ((⟨k3, 0, none⟩ : Addr).add 0))) (.int .u64 (ixor .u64 n20 16212958658533785600)) w4 w5 ∧
    poly_Elem_Next_j1 (⟨k2, 0, none⟩ : Addr) (⟨k3, 0, none⟩ : Addr) w5 Q)
  (poly_Elem_Next_j1 (⟨k2, 0, none⟩ : Addr) (⟨k3, 0, none⟩ : Addr) w4 Q)
def poly_Elem_Next_tt : Nat → List (Nat × TypeId) := fun _ => []
theorem poly_Elem_Next_call (n0 : Int) (n0_1 : Int) (w : World) (Q : Value → World → Prop) (h : poly_Elem_Next n0 n0_1 w Q) : callF Tryz.prog 339 #[.agg #[.int .u64 n0, .int .u64 n0_1]] w Q :=
  callBy poly_Elem_Next_tt Tryz.func339 h (fun _ _ => by kernel_rfl) (by kernel_rfl) (by kernel_rfl) (by kernel_rfl)
end Go.Sh
end

section
namespace Go.Sh
open Go Go.Fw Go.Proofs
set_option maxRecDepth 100000
set_option linter.unusedVariables false
def ghash_New (p0 : Option Addr) (l0 : Nat) (c0 : Nat) (w : World) (Q : Value → World → Prop) : Prop :=
  callF Tryz.prog 243 #[.slice p0 l0 c0] w fun r8 w1 =>
  ∃ n8 n8_1 n8_2, r8 = .tuple #[.agg #[.int .u64 n8, .int .u64 n8_1], .int .i64 n8_2] ∧
  ∃ z4, Pu Tryz.prog (zeroValue 339) z4 ∧
  New z4.cells 339 w1 fun k4 w2 =>
  ∃ w3, Sto Tryz.prog 339 (.pointer (some (⟨k4, 0, none⟩ : Addr))) (.agg #[.int .u64 n8, .int .u64 n8_1]) w2 w3 ∧
  cond (n8_2 != 0)
  (Q (.tuple #[.pointer none, .int .i64 n8_2]) w3)
  (∃ n14 n14_1, Ld Tryz.prog 339 (.pointer (some (⟨k4, 0, none⟩ : Addr))) w3 (.agg #[.int .u64 n14, .int .u64 n14_1]) ∧
    New #[.int .u64 n14, .int .u64 n14_1, .int .u32 0, .int .i32 0, .int .u32 0, .int .i64 0, .int .u64 0, .int .u64 0, .int .u64 0, .int .u64 0, .int .u64 0, .int .u64 0, .int .u64 0, .int .u64 0, .int .u64 0, .int .u64 0, .int .u64 0, .int .u64 0, .int .u64 0, .int .u64 0, .int .u64 0, .int .u64 0, .int .u64 0, .int .u64 0, .int .u64 0, .int .u64 0, .int .u64 0, .int .u64 0, .int .u64 0, .int .u64 0, .int .u64 0, .int .u64 0, .int .u64 0, .int .u64 0, .int .u64 0, .int .u64 0, .int .u64 0, .int .u64 0, .int .u64 0, .int .u64 0, .int .u64 0, .int .u64 0, .int .u64 0, .int .u64 0, .int .u64 0, .int .u64 0, .int .u64 0, .int .u64 0, .int .u64 0, .int .u64 0, .int .u64 0, .int .u64 0, .int .u64 0, .int .u64 0, .int .u64 0, .int .u64 0, .int .u64 0, .int .u64 0, .int .u64 0, .int .u64 0, .int .u64 0, .int .u64 0, .int .u64 0, .int .u64 0, .int .u64 0, .int .u64 0, .int .u64 0, .int .u64 0, .int .u64 0, .int .u64 0, .int .u64 0, .int .u64 0, .int .u64 0, .int .u64 0, .int .u64 0, .int .u64 0, .int .u64 0, .int .u64 0, .int .u64 0, .int .u64 0, .int .u64 0, .int .u64 0, .int .u64 0, .int .u64 0, .int .u64 0, .int .u64 0, .int .u64 0, .int .u64 0, .int .u64 0, .int .u64 0, .int .u64 0, .int .u64 0, .int .u64 0, .int .u64 0, .int .u64 0, .int .u64 0, .int .u64 0, .int .u64 0, .int .u64 0, .int .u64 0, .int .u64 0, .int .u64 0, .int .u64 0, .int .u64 0, .int .u64 0, .int .u64 0, .int .u64 0, .int .u64 0, .int .u64 0, .int .u64 0, .int .u64 0, .int .u64 0, .int .u64 0, .int .u64 0, .int .u64 0, .int .u64 0, .int .u64 0, .int .u64 0, .int .u64 0, .int .u64 0, .int .u64 0, .int .u64 0, .int .u64 0, .int .u64 0, .int .u64 0, .int .u64 0, .int .u64 0, .int .u64 0, .int .u64 0, .int .u64 0, .int .u64 0, .int .u64 0, .int .u64 0, .int .u64 0, .int .u64 0, .int .u64 0, .int .u64 0, .int .u64 0, .int .u64 0, .int .u64 0, .int .u64 0, .int .u64 0, .int .u64 0, .int .u64 0, .int .u64 0, .int .u64 0, .int .u64 0, .int .u64 0, .int .u64 0, .int .u64 0, .int .u64 0, .int .u64 0, .int .u64 0, .int .u64 0, .int .u64 0, .int .u64 0, .int .u64 0, .int .u64 0, .int .u64 0, .int .u64 0, .int .u64 0, .int .u64 0, .int .u64 0, .int .u64 0, .int .u64 0, .int .u64 0, .int .u64 0, .int .u64 0, .int .u64 0, .int .u64 0, .int .u64 0, .int .u64 0, .int .u64 0, .int .u64 0, .int .u64 0, .int .u64 0, .int .u64 0, .int .u64 0, .int .u64 0, .int .u64 0, .int .u64 0, .int .u64 0, .int .u64 0, .int .u64 0, .int .u64 0, .int .u64 0, .int .u64 0, .int .u64 0, .int .u64 0, .int .u64 0, .int .u64 0, .int .u64 0, .int .u64 0, .int .u64 0, .int .u64 0, .int .u64 0, .int .u64 0, .int .u64 0, .int .u64 0, .int .u64 0, .int .u64 0, .int .u64 0, .int .u64 0, .int .u64 0, .int .u64 0, .int .u64 0, .int .u64 0, .int .u64 0, .int .u64 0, .int .u64 0, .int .u64 0, .int .u64 0, .int .u64 0, .int .u64 0, .int .u64 0, .int .u64 0, .int .u64 0, .int .u64 0, .int .u64 0, .int .u64 0, .int .u64 0, .int .u64 0, .int .u64 0, .int .u64 0, .int .u64 0, .int .u64 0, .int .u64 0, .int .u64 0, .int .u64 0, .int .u64 0, .int .u64 0, .int .u64 0, .int .u64 0, .int .u64 0, .int .u64 0, .int .u64 0, .int .u64 0, .int .u64 0, .int .u64 0, .int .u64 0, .int .u64 0, .int .u64 0, .int .u64 0, .int .u64 0, .int .u64 0, .int .u64 0, .int .u64 0, .int .u64 0, .int .u64 0, .int .u64 0, .int .u64 0, .int .u64 0, .int .u64 0, .int .u64 0, .int .u64 0, .int .u64 0, .int .u64 0, .int .u64 0, .int .u64 0, .int .u64 0, .int .u64 0, .int .u64 0, .int .u64 0, .int .u64 0, .int .u64 0, .int .u64 0, .int .u64 0, .int .u64 0, .int .u64 0, .int .u64 0, .int .u64 0, .int .u64 0, .int .u64 0, .int .u64 0, .int .u64 0, .int .u64 0, .int .u64 0, .int .u64 0, .int .u64 0, .int .u64 0, .int .u64 0, .int .u64 0, .int .u64 0, .int .u64 0, .int .u64 0, .int .u64 0, .int .u64 0, .int .u64 0, .int .u64 0, .int .u64 0, .int .u64 0, .int .u64 0, .int .u64 0, .int .u64 0, .int .u64 0, .int .u64 0, .int .u64 0, .int .u64 0, .int .u64 0, .int .u64 0, .int .u64 0, .int .u64 0, .int .u64 0, .int .u64 0, .int .u64 0, .int .u64 0, .int .u64 0, .int .u64 0, .int .u64 0, .int .u64 0, .int .u64 0, .int .u64 0, .int .u64 0, .int .u64 0, .int .u64 0, .int .u64 0, .int .u64 0, .int .u64 0, .int .u64 0, .int .u64 0, .int .u64 0, .int .u64 0, .int .u64 0, .int .u64 0, .int .u64 0, .int .u64 0, .int .u64 0, .int .u64 0, .int .u64 0, .int .u64 0, .int .u64 0, .int .u64 0, .int .u64 0, .int .u64 0, .int .u64 0, .int .u64 0, .int .u64 0, .int .u64 0, .int .u64 0, .int .u64 0, .int .u64 0, .int .u64 0, .int .u64 0, .int .u64 0, .int .u64 0, .int .u64 0, .int .u64 0, .int .u64 0, .int .u64 0, .int .u64 0, .int .u64 0, .int .u64 0, .int .u64 0, .int .u64 0, .int .u64 0, .int .u64 0, .int .u64 0, .int .u64 0, .int .u64 0, .int .u64 0, .int .u64 0, .int .u64 0, .int .u64 0, .int .u64 0, .int .u64 0, .int .u64 0, .int .u64 0, .int .u64 0, .int .u64 0, .int .u64 0, .int .u64 0, .int .u64 0, .int .u64 0, .int .u64 0, .int .u64 0, .int .u64 0, .int .u64 0, .int .u64 0, .int .u64 0, .int .u64 0, .int .u64 0, .int .u64 0, .int .u64 0, .int .u64 0, .int .u64 0, .int .u64 0, .int .u64 0, .int .u64 0, .int .u64 0, .int .u64 0, .int .u64 0, .int .u64 0, .int .u64 0, .int .u64 0, .int .u64 0, .int .u64 0, .int .u64 0, .int .u64 0, .int .u64 0, .int .u64 0, .int .u64 0, .int .u64 0, .int .u64 0, .int .u64 0, .int .u64 0, .int .u64 0, .int .u64 0, .int .u64 0, .int .u64 0, .int .u64 0, .int .u64 0, .int .u64 0, .int .u64 0, .int .u64 0, .int .u64 0, .int .u64 0, .int .u64 0, .int .u64 0, .int .u64 0, .int .u64 0, .int .u64 0, .int .u64 0, .int .u64 0, .int .u64 0, .int .u64 0, .int .u64 0, .int .u64 0, .int .u64 0, .int .u64 0, .int .u64 0, .int .u64 0, .int .u64 0, .int .u64 0, .int .u64 0, .int .u64 0, .int .u64 0, .int .u64 0, .int .u64 0, .int .u64 0, .int .u64 0, .int .u64 0, .int .u64 0, .int .u64 0, .int .u64 0, .int .u64 0, .int .u64 0, .int .u64 0, .int .u64 0, .int .u64 0, .int .u64 0, .int .u64 0, .int .u64 0, .int .u64 0, .int .u64 0, .int .u64 0, .int .u64 0, .int .u64 0, .int .u64 0, .int .u64 0, .int .u64 0, .int .u64 0, .int .u64 0, .int .u64 0, .int .u64 0, .int .u64 0, .int .u64 0, .int .u64 0, .int .u64 0, .int .u64 0, .int .u64 0, .int .u64 0, .int .u64 0, .int .u64 0, .int .u64 0, .int .u64 0, .int .u64 0, .int .u64 0, .int .u64 0, .int .u64 0, .int .u64 0, .int .u64 0, .int .u64 0, .int .u64 0, .int .u64 0, .int .u64 0, .int .u64 0, .int .u64 0, .int .u64 0, .int .u64 0, .int .u64 0, .int .u64 0, .int .u64 0, .int .u64 0, .int .u64 0, .int .u64 0, .int .u64 0, .int .u64 0, .int .u64 0, .int .u64 0, .int .u64 0, .int .u64 0, .int .u64 0, .int .u64 0, .int .u64 0, .int .u64 0, .int .u64 0, .int .u64 0, .int .u64 0, .int .u64 0, .int .u64 0, .int .u64 0, .int .u64 0, .int .u64 0, .int .u64 0, .int .u64 0, .int .u64 0, .int .u64 0, .int .u64 0, .int .u64 0, .int .u64 0, .int .u64 0, .int .u64 0, .int .u64 0, .int .u64 0, .int .u64 0, .int .u64 0, .int .u64 0, .int .u64 0, .int .u64 0, .int .u64 0, .int .u64 0, .int .u64 0, .int .u64 0, .int .u64 0, .int .u64 0, .int .u64 0, .int .u64 0, .int .u64 0, .int .u64 0, .int .u64 0, .int .u64 0, .int .u64 0, .int .u64 0, .int .u64 0, .int .u64 0, .int .u64 0, .int .u64 0, .int .u64 0, .int .u64 0, .int .u64 0, .int .u64 0, .int .u64 0, .int .u64 0, .int .u64 0, .int .u64 0, .int .u64 0, .int .u64 0, .int .u64 0, .int .u64 0, .int .u64 0, .int .u64 0, .int .u64 0, .int .u64 0, .int .u64 0, .int .u64 0, .int .u64 0, .int .u64 0, .int .u64 0, .int .u64 0, .int .u64 0, .int .u64 0, .int .u64 0, .int .u64 0, .int .u64 0, .int .u64 0, .int .u64 0, .int .u64 0, .int .u64 0, .int .u64 0, .int .u64 0, .int .u64 0, .int .u64 0, .int .u64 0, .int .u64 0, .int .u64 0, .int .u64 0, .int .u64 0, .int .u64 0, .int .u64 0, .int .u64 0, .int .u64 0, .int .u64 0, .int .u64 0, .int .u64 0, .int .u64 0, .int .u64 0, .int .u64 0, .int .u64 0, .int .u64 0, .int .u64 0, .int .u64 0, .int .u64 0, .int .u64 0, .int .u64 0, .int .u64 0, .int .u64 0, .int .u64 0, .int .u64 0, .int .u64 0, .int .u64 0, .int .u64 0, .int .u64 0, .int .u64 0, .int .u64 0, .int .u64 0, .int .u64 0, .int .u64 0, .int .u64 0, .int .u64 0, .int .u64 0, .int .u64 0, .int .u64 0, .int .u64 0, .int .u64 0, .int .u64 0, .int .u64 0, .int .u64 0, .int .u64 0, .int .u64 0, .int .u64 0, .int .u64 0, .int .u64 0, .int .u64 0, .int .u64 0, .int .u64 0, .int .u64 0, .int .u64 0, .int .u64 0, .int .u64 0, .int .u64 0, .int .u64 0, .int .u64 0, .int .u64 0, .int .u64 0, .int .u64 0, .int .u64 0, .int .u64 0, .int .u64 0, .int .u64 0, .int .u64 0, .int .u64 0, .int .u64 0, .int .u64 0, .int .u64 0, .int .u64 0, .int .u64 0, .int .u64 0, .int .u64 0, .int .u64 0, .int .u64 0, .int .u64 0, .int .u64 0, .int .u64 0, .int .u64 0, .int .u64 0, .int .u64 0, .int .u64 0, .int .u64 0, .int .u64 0, .int .u64 0, .int .u64 0, .int .u64 0, .int .u64 0, .int .u64 0, .int .u64 0, .int .u64 0, .int .u64 0, .int .u64 0, .int .u64 0, .int .u64 0, .int .u64 0, .int .u64 0, .int .u64 0, .int .u64 0, .int .u64 0, .int .u64 0, .int .u64 0, .int .u64 0, .int .u64 0, .int .u64 0, .int .u64 0, .int .u64 0, .int .u64 0, .int .u64 0, .int .u64 0, .int .u64 0, .int .u64 0, .int .u64 0, .int .u64 0, .int .u64 0, .int .u64 0, .int .u64 0, .int .u64 0, .int .u64 0, .int .u64 0, .int .u64 0, .int .u64 0, .int .u64 0, .int .u64 0, .int .u64 0, .int .u64 0, .int .u64 0, .int .u64 0, .int .u64 0, .int .u64 0, .int .u64 0, .int .u64 0, .int .u64 0, .int .u64 0, .int .u64 0, .int .u64 0, .int .u64 0, .int .u64 0, .int .u64 0, .int .u64 0, .int .u64 0, .int .u64 0, .int .u64 0, .int .u64 0, .int .u64 0, .int .u64 0, .int .u64 0, .int .u64 0, .int .u64 0, .int .u64 0, .int .u64 0, .int .u64 0, .int .u64 0, .int .u64 0, .int .u64 0, .int .u64 0, .int .u64 0, .int .u64 0, .int .u64 0, .int .u64 0, .int .u64 0, .int .u64 0, .int .u64 0, .int .u64 0, .int .u64 0, .int .u64 0, .int .u64 0, .int .u64 0, .int .u64 0, .int .u64 0, .int .u64 0, .int .u64 0, .int .u64 0, .int .u64 0, .int .u64 0, .int .u64 0, .int .u64 0, .int .u64 0, .int .u64 0, .int .u64 0, .int .u64 0, .int .u64 0, .int .u64 0, .int .u64 0, .int .u64 0, .int .u64 0, .int .u64 0, .int .u64 0, .int .u64 0, .int .u64 0, .int .u64 0, .int .u64 0, .int .u64 0, .int .u64 0, .int .u64 0, .int .u64 0, .int .u64 0, .int .u64 0, .int .u64 0, .int .u64 0, .int .u64 0, .int .u64 0, .int .u64 0, .int .u64 0, .int .u64 0, .int .u64 0, .int .u64 0, .int .u64 0, .int .u64 0, .int .u64 0, .int .u64 0, .int .u64 0, .int .u64 0, .int .u64 0, .int .u64 0, .int .u64 0, .int .u64 0, .int .u64 0, .int .u64 0, .int .u64 0, .int .u64 0, .int .u64 0, .int .u64 0, .int .u64 0, .int .u64 0, .int .u64 0, .int .u64 0, .int .u64 0, .int .u64 0, .int .u64 0, .int .u64 0, .int .u64 0, .int .u64 0, .int .u64 0, .int .u64 0, .int .u64 0, .int .u64 0, .int .u64 0, .int .u64 0, .int .u64 0, .int .u64 0, .int .u64 0, .int .u64 0, .int .u64 0, .int .u64 0, .int .u64 0, .int .u64 0, .int .u64 0, .int .u64 0, .int .u64 0, .int .u64 0, .int .u64 0, .int .u64 0, .int .u64 0, .int .u64 0, .int .u64 0, .int .u64 0, .int .u64 0, .int .u64 0, .int .u64 0, .int .u64 0, .int .u64 0, .int .u64 0, .int .u64 0, .int .u64 0, .int .u64 0, .int .u64 0, .int .u64 0, .int .u64 0, .int .u64 0, .int .u64 0, .int .u64 0, .int .u64 0, .int .u64 0, .int .u64 0, .int .u64 0, .int .u64 0, .int .u64 0, .int .u64 0, .int .u64 0, .int .u64 0, .int .u64 0, .int .u64 0, .int .u64 0, .int .u64 0, .int .u64 0, .int .u64 0, .int .u64 0, .int .u64 0, .int .u64 0, .int .u64 0, .int .u64 0, .int .u64 0, .int .u64 0, .int .u64 0, .int .u64 0, .int .u64 0, .int .u64 0, .int .u64 0, .int .u64 0, .int .u64 0, .int .u64 0, .int .u64 0, .int .u64 0, .int .u64 0, .int .u64 0, .int .u64 0, .int .u64 0, .int .u64 0, .int .u64 0, .int .u64 0, .int .u64 0, .int .u64 0, .int .u64 0, .int .u64 0, .int .u64 0, .int .u64 0, .int .u64 0, .int .u64 0, .int .u64 0, .int .u64 0, .int .u64 0, .int .u64 0, .int .u64 0, .int .u64 0, .int .u64 0, .int .u64 0, .int .u64 0, .int .u64 0, .int .u64 0, .int .u64 0, .int .u64 0, .int .u64 0, .int .u64 0, .int .u64 0, .int .u64 0, .int .u64 0, .int .u64 0, .int .u64 0, .int .u64 0, .int .u64 0, .int .u64 0, .int .u64 0, .int .u64 0, .int .u64 0, .int .u64 0, .int .u64 0, .int .u64 0, .int .u64 0, .int .u64 0, .int .u64 0, .int .u64 0, .int .u64 0, .int .u64 0, .int .u64 0, .int .u64 0, .int .u64 0, .int .u64 0, .int .u64 0, .int .u64 0, .int .u64 0, .int .u64 0, .int .u64 0, .int .u64 0, .int .u64 0, .int .u64 0, .int .u64 0, .int .u64 0, .int .u64 0, .int .u64 0, .int .u64 0, .int .u64 0, .int .u64 0, .int .u64 0, .int .u64 0, .int .u64 0, .int .u64 0, .int .u64 0, .int .u64 0, .int .u64 0, .int .u64 0, .int .u64 0, .int .u64 0, .int .u64 0, .int .u64 0, .int .u64 0, .int .u64 0, .int .u64 0, .int .u64 0, .int .u64 0, .int .u64 0, .int .u64 0, .int .u64 0, .int .u64 0, .int .u64 0, .int .u64 0, .int .u64 0, .int .u64 0, .int .u64 0, .int .u64 0, .int .u64 0, .int .u64 0, .int .u64 0, .int .u64 0, .int .u64 0, .int .u64 0, .int .u64 0, .int .u64 0, .int .u64 0, .int .u64 0, .int .u64 0, .int .u64 0, .int .u64 0, .int .u64 0, .int .u64 0, .int .u64 0, .int .u64 0, .int .u64 0, .int .u64 0, .int .u64 0, .int .u64 0, .int .u64 0, .int .u64 0, .int .u64 0, .int .u64 0, .int .u64 0, .int .u64 0, .int .u64 0, .int .u64 0, .int .u64 0, .int .u64 0, .int .u64 0, .int .u64 0, .int .u64 0, .int .u64 0, .int .u64 0, .int .u64 0, .int .u64 0, .int .u64 0, .int .u64 0, .int .u64 0, .int .u64 0, .int .u64 0, .int .u64 0, .int .u64 0] 355 w3 fun k16 w4 =>
    Q (.tuple #[.pointer (some (⟨k16, 0, none⟩ : Addr)), .int .i64 0]) w4)
def ghash_New_tt : Nat → List (Nat × TypeId) := fun _ => []
theorem ghash_New_call (p0 : Option Addr) (l0 : Nat) (c0 : Nat) (w : World) (Q : Value → World → Prop) (h : ghash_New p0 l0 c0 w Q) : callF Tryz.prog 193 #[.slice p0 l0 c0] w Q :=
  callBy ghash_New_tt Tryz.func193 h (fun _ _ => by kernel_rfl) (by kernel_rfl) (by kernel_rfl) (by kernel_rfl)
def ghash_Hash_Sum (p0 : Option Addr) (p1 : Option Addr) (l1 : Nat) (c1 : Nat) (p2 : Option Addr) (l2 : Nat) (c2 : Nat) (w : World) (Q : Value → World → Prop) : Prop :=
  callF Tryz.prog 275 #[.slice p1 l1 c1] w fun r9 w1 =>
  ∃ p9 l9 c9, r9 = .slice p9 l9 c9 ∧
  callF Tryz.prog 275 #[.slice p2 l2 c2] w1 fun r11 w2 =>
  ∃ p11 l11 c11, r11 = .slice p11 l11 c11 ∧
  callF Tryz.prog 276 #[.slice p1 l1 c1, .slice p2 l2 c2] w2 fun r14 w3 =>
  ∃ n14 n14_1, r14 = .agg #[.int .u64 n14, .int .u64 n14_1] ∧
  ∃ p15 l15 c15 w4, Ef Tryz.prog (Instr.buildSlice 388 1 #[(0, .agg #[.int .u64 n14, .int .u64 n14_1])]) w3 (.slice p15 l15 c15) w4 ∧
  ∃ p16 l16 c16 w5, Ef Tryz.prog (Instr.buildSlice 408 3 #[(0, .slice p9 l9 c9), (1, .slice p11 l11 c11), (2, .slice p15 l15 c15)]) w4 (.slice p16 l16 c16) w5 ∧
  callF Tryz.prog 274 #[.slice p16 l16 c16] w5 fun r17 w6 =>
  ∃ p17 l17 c17, r17 = .slice p17 l17 c17 ∧
  callF Tryz.prog 277 #[.pointer p0, .agg #[.int .u64 0, .int .u64 0], .slice p17 l17 c17] w6 fun r21 w7 =>
  ∃ n21 n21_1, r21 = .agg #[.int .u64 n21, .int .u64 n21_1] ∧
  callF Tryz.prog 278 #[.agg #[.int .u64 n21, .int .u64 n21_1]] w7 fun r22 w8 =>
  ∃ p22 l22 c22, r22 = .slice p22 l22 c22 ∧
  ∃ p23 l23 c23 w9, Ef Tryz.prog (Instr.buildSlice 45 1 #[(0, .slice p22 l22 c22)]) w8 (.slice p23 l23 c23) w9 ∧
  callF Tryz.prog 112 #[.slice p23 l23 c23] w9 fun r24 w10 =>
  ∃ p24 l24 c24, r24 = .slice p24 l24 c24 ∧
  Q (.slice p24 l24 c24) w10
def ghash_Hash_Sum_tt : Nat → List (Nat × TypeId) := fun _ => []
theorem ghash_Hash_Sum_call (p0 : Option Addr) (p1 : Option Addr) (l1 : Nat) (c1 : Nat) (p2 : Option Addr) (l2 : Nat) (c2 : Nat) (w : World) (Q : Value → World → Prop) (h : ghash_Hash_Sum p0 p1 l1 c1 p2 l2 c2 w Q) : callF Tryz.prog 250 #[.pointer p0, .slice p1 l1 c1, .slice p2 l2 c2] w Q :=
  callBy ghash_Hash_Sum_tt Tryz.func250 h (fun _ _ => by kernel_rfl) (by kernel_rfl) (by kernel_rfl) (by kernel_rfl)
noncomputable def ghash_Blocks_rf (i : Nat) : Array Tmp × Code × Code := (rfs (Tryz.f275.body.getD .skip)).getD i (#[], .skip, .skip)
def ghash_Blocks (p0 : Option Addr) (l0 : Nat) (c0 : Nat) (w : World) (Q : Value → World → Prop) : Prop :=
  ∃ z3, Pu Tryz.prog (zeroValue 388) z3 ∧
  New z3.cells 388 w fun k3 w1 =>
  callF Tryz.prog 302 #[.slice p0 l0 c0, .int .i64 16] w1 fun r9 w2 =>
  ∃ v9, r9 = v9 ∧
  RangeF Tryz.prog (v9) #[.slice p0 l0 c0, .tuple #[], .slice none 0 0, .pointer (some (⟨k3, 0, none⟩ : Addr)), .tuple #[], .tuple #[], .tuple #[], .tuple #[], .slice p0 l0 c0, v9, .tuple #[], .tuple #[], .tuple #[], .tuple #[], .tuple #[], .tuple #[], .tuple #[], .tuple #[], .tuple #[], .tuple #[], .tuple #[], .tuple #[], .tuple #[], .tuple #[]] (ghash_Blocks_rf 0) w2 (fun krf w4 =>
    ∃ p23 l23 c23, Ld Tryz.prog 388 (.pointer (some (⟨k3, 0, none⟩ : Addr))) w4 (.slice p23 l23 c23) ∧
    ∃ w5, Tk Tryz.prog krf w4 w5 ∧
    Q (.slice p23 l23 c23) w5) (fun krf w4 =>
    ∃ w6, Tk Tryz.prog krf w4 w6 ∧
    Q (.slice none 0 0) w6)
def ghash_Blocks_tt : Nat → List (Nat × TypeId) := fun _ => []
theorem ghash_Blocks_call (p0 : Option Addr) (l0 : Nat) (c0 : Nat) (w : World) (Q : Value → World → Prop) (h : ghash_Blocks p0 l0 c0 w Q) : callF Tryz.prog 275 #[.slice p0 l0 c0] w Q :=
  callBy ghash_Blocks_tt Tryz.func275 h (fun _ _ => by kernel_rfl) (by kernel_rfl) (by kernel_rfl) (by kernel_rfl)
def ghash_Blocks_y0 (a3 : Addr) (p10 : Option Addr) (l10 : Nat) (c10 : Nat) (l : Nat) (w : World) (Q : Value → World → Prop) : Prop :=
  BegR Tryz.prog l w fun w1 =>
  ∃ z5, Pu Tryz.prog (zeroValue 22) z5 ∧
  New z5.cells 22 w1 fun k5 w2 =>
  ∃ p11 l11 c11, Pu Tryz.prog (Instr.sliceAt 22 (.pointer (some (⟨k5, 0, none⟩ : Addr))) none none none) (.slice p11 l11 c11) ∧
  ∃ n13 w3, Ef Tryz.prog (Builtin.copy_ #[25, 25] 3 #[.slice p11 l11 c11, .slice p10 l10 c10]) w2 (.int .i64 n13) w3 ∧
  ∃ p15 l15 c15, Pu Tryz.prog (Instr.sliceAt 22 (.pointer (some (⟨k5, 0, none⟩ : Addr))) none none none) (.slice p15 l15 c15) ∧
  callF Tryz.prog 243 #[.slice p15 l15 c15] w3 fun r16 w4 =>
  ∃ n16 n16_1 n16_2, r16 = .tuple #[.agg #[.int .u64 n16, .int .u64 n16_1], .int .i64 n16_2] ∧
  ∃ z6, Pu Tryz.prog (zeroValue 339) z6 ∧
  New z6.cells 339 w4 fun k6 w5 =>
  ∃ w6, Sto Tryz.prog 339 (.pointer (some (⟨k6, 0, none⟩ : Addr))) (.agg #[.int .u64 n16, .int .u64 n16_1]) w5 w6 ∧
  ∃ p19 l19 c19, Ld Tryz.prog 388 (.pointer (some a3)) w6 (.slice p19 l19 c19) ∧
  ∃ n20 n20_1, Ld Tryz.prog 339 (.pointer (some (⟨k6, 0, none⟩ : Addr))) w6 (.agg #[.int .u64 n20, .int .u64 n20_1]) ∧
  ∃ p21 l21 c21 w7, Ef Tryz.prog (Instr.buildSlice 388 1 #[(0, .agg #[.int .u64 n20, .int .u64 n20_1])]) w6 (.slice p21 l21 c21) w7 ∧
  ∃ p22 l22 c22 w8, Ef Tryz.prog (Builtin.append_ #[388, 388] 388 #[.slice p19 l19 c19, .slice p21 l21 c21]) w7 (.slice p22 l22 c22) w8 ∧
  ∃ w9, Sto Tryz.prog 388 (.pointer (some a3)) (.slice p22 l22 c22) w8 w9 ∧
  EndR Tryz.prog l none true w9 Q
def ghash_Blocks_y0_t1 : Nat → List (Nat × TypeId) := fun _ => []
def ghash_Blocks_y0_t2 : Nat → List (Nat × TypeId) := fun _ => []
theorem ghash_Blocks_y0_call (a3 : Addr) (p10 : Option Addr) (l10 : Nat) (c10 : Nat) {x0 x1 x2 x4 x5 x6 x7 x8 x9 x10 x11 x12 x13 x14 x15 x16 x17 x18 x19 x20 x21 x22 x23 : Value} {l df : Nat} {fn : FuncId} {w : World} {Q : Value → World → Prop} (h : LpAt w l (rec0 fn #[x0, x1, x2, .pointer (some a3), x4, x5, x6, x7, x8, x9, x10, x11, x12, x13, x14, x15, x16, x17, x18, x19, x20, x21, x22, x23] (ghash_Blocks_rf 0).1 (ghash_Blocks_rf 0).2.1 (ghash_Blocks_rf 0).2.2 df)) (hq : ghash_Blocks_y0 a3 p10 l10 c10 l w Q) : callV Tryz.prog (.func (.yield l) #[] #[]) [.slice p10 l10 c10] w Q := by
  have e : ghash_Blocks_y0 a3 p10 l10 c10 l w Q = sw Tryz.prog (some l) 24 ghash_Blocks_y0_t1 (ghash_Blocks_rf 0).2.1 0 (begK Tryz.prog l 24 ghash_Blocks_y0_t2 (ghash_Blocks_rf 0).2.2 Q) ⟨regs [x0, x1, x2, .pointer (some a3), x4, x5, x6, x7, x8, x9, .slice p10 l10 c10, x11, x12, x13, x14, x15, x16, x17, x18, x19, x20, x21, x22, x23], []⟩ w := by kernel_rfl
  have h2 := round_of_sw (f := fn) ghash_Blocks_y0_t1 ghash_Blocks_y0_t2 (nt := 24) (by kernel_rfl) (Eq.mp e hq)
  refine yield_r h ?_ ?_ h2
  · kernel_rfl
  · kernel_rfl
def ghash_lengths (p0 : Option Addr) (l0 : Nat) (c0 : Nat) (p1 : Option Addr) (l1 : Nat) (c1 : Nat) (w : World) (Q : Value → World → Prop) : Prop :=
  ∃ z4, Pu Tryz.prog (zeroValue 339) z4 ∧
  New z4.cells 339 w fun k4 w1 =>
  ∃ w2, Sto Tryz.prog 339 (.pointer (some (⟨k4, 0, none⟩ : Addr))) (.agg #[.int .u64 (IntKind.u64.wrap ((IntKind.u64.wrap ((l0 : Nat) : Int)) * 8)), .int .u64 (IntKind.u64.wrap ((IntKind.u64.wrap ((l1 : Nat) : Int)) * 8))]) w1 w2 ∧
  ∃ a4 v4, (.pointer (some (⟨k4, 0, none⟩ : Addr)) : Value) = .pointer (some a4) ∧ (loadVar 339 a4).run Tryz.prog w2 = .ok v4 w2 ∧
  Q (v4) w2
def ghash_lengths_tt : Nat → List (Nat × TypeId) := fun _ => []
theorem ghash_lengths_call (p0 : Option Addr) (l0 : Nat) (c0 : Nat) (p1 : Option Addr) (l1 : Nat) (c1 : Nat) (w : World) (Q : Value → World → Prop) (h : ghash_lengths p0 l0 c0 p1 l1 c1 w Q) : callF Tryz.prog 276 #[.slice p0 l0 c0, .slice p1 l1 c1] w Q :=
  callBy ghash_lengths_tt Tryz.func276 h (fun _ _ => by kernel_rfl) (by kernel_rfl) (by kernel_rfl) (by kernel_rfl)
def ghash_Hash_Fold_j1 (a4 : Addr) (a6 : Addr) (w : World) (Q : Value → World → Prop) : Prop :=
  ∃ n22 n22_1, Ld Tryz.prog 339 (.pointer (some a4)) w (.agg #[.int .u64 n22, .int .u64 n22_1]) ∧
  ∃ w1, Sto Tryz.prog 339 (.pointer (some a6)) (.agg #[.int .u64 n22, .int .u64 n22_1]) w w1 ∧
  ∃ a6_1 v6, (.pointer (some a6) : Value) = .pointer (some a6_1) ∧ (loadVar 339 a6_1).run Tryz.prog w1 = .ok v6 w1 ∧
  Q (v6) w1
def ghash_Hash_Fold (p0 : Option Addr) (n1 : Int) (n1_1 : Int) (p2 : Option Addr) (l2 : Nat) (c2 : Nat) (w : World) (Q : Value → World → Prop) : Prop :=
  New #[.int .u64 n1, .int .u64 n1_1] 339 w fun k4 w1 =>
  ∃ z6, Pu Tryz.prog (zeroValue 339) z6 ∧
  New z6.cells 339 w1 fun k6 w2 =>
  LoopS [.pointer p0, .pointer (some (⟨k4, 0, none⟩ : Addr)), .pointer (some (⟨k6, 0, none⟩ : Addr)), .slice p2 l2 c2, .int .i64 ((l2 : Nat) : Int), .int .i64 0] w2 fun I1 μ1 us1 _ wl1 =>
  ∃ p0_1 a4 a6 p9 l9 c9 n10 n11, us1 = [.pointer p0_1, .pointer (some a4), .pointer (some a6), .slice p9 l9 c9, .int .i64 n10, .int .i64 n11] ∧
  cond (decide (n11 < n10))
  (∃ a13, IxA Tryz.prog 388 (.slice p9 l9 c9) (.int .i64 n11) a13 ∧
    ∃ n14 n14_1, Ld Tryz.prog 339 (.pointer (some a13)) wl1 (.agg #[.int .u64 n14, .int .u64 n14_1]) ∧
    ∃ z8, Pu Tryz.prog (zeroValue 339) z8 ∧
    New z8.cells 339 wl1 fun k8 w3 =>
    ∃ w4, Sto Tryz.prog 339 (.pointer (some (⟨k8, 0, none⟩ : Addr))) (.agg #[.int .u64 n14, .int .u64 n14_1]) w3 w4 ∧
    ∃ n16 n16_1, Ld Tryz.prog 339 (.pointer (some a4)) w4 (.agg #[.int .u64 n16, .int .u64 n16_1]) ∧
    ∃ n17 n17_1, Ld Tryz.prog 339 (.pointer (some (⟨k8, 0, none⟩ : Addr))) w4 (.agg #[.int .u64 n17, .int .u64 n17_1]) ∧
    ∃ p18 l18 c18 w5, Ef Tryz.prog (Instr.buildSlice 388 2 #[(0, .agg #[.int .u64 n16, .int .u64 n16_1]), (1, .agg #[.int .u64 n17, .int .u64 n17_1])]) w4 (.slice p18 l18 c18) w5 ∧
    callF Tryz.prog 304 #[.slice p18 l18 c18] w5 fun r19 w6 =>
    ∃ n19 n19_1, r19 = .agg #[.int .u64 n19, .int .u64 n19_1] ∧
    callF Tryz.prog 303 #[.pointer p0_1, .agg #[.int .u64 n19, .int .u64 n19_1]] w6 fun r20 w7 =>
    ∃ n20 n20_1, r20 = .agg #[.int .u64 n20, .int .u64 n20_1] ∧
    ∃ w8, Sto Tryz.prog 339 (.pointer (some a4)) (.agg #[.int .u64 n20, .int .u64 n20_1]) w7 w8 ∧
    goesOn [] [] I1 μ1 us1 [.pointer p0_1, .pointer (some a4), .pointer (some a6), .slice p9 l9 c9, .int .i64 n10, .int .i64 (IntKind.i64.wrap (n11 + 1))] wl1 w8)
  (ghash_Hash_Fold_j1 a4 a6 wl1 Q)
def ghash_Hash_Fold_tt : Nat → List (Nat × TypeId) := fun n => match n with | 0 => [(0, 285), (4, 1000000), (6, 1000000), (9, 388), (10, 3), (11, 3)] | _ => []
theorem ghash_Hash_Fold_call (p0 : Option Addr) (n1 : Int) (n1_1 : Int) (p2 : Option Addr) (l2 : Nat) (c2 : Nat) (w : World) (Q : Value → World → Prop) (h : ghash_Hash_Fold p0 n1 n1_1 p2 l2 c2 w Q) : callF Tryz.prog 277 #[.pointer p0, .agg #[.int .u64 n1, .int .u64 n1_1], .slice p2 l2 c2] w Q :=
  callBy ghash_Hash_Fold_tt Tryz.func277 h (fun _ _ => by kernel_rfl) (by kernel_rfl) (by kernel_rfl) (by kernel_rfl)
def ghash_Hash_Times_j1 (I1 : Inv) (μ1 : Meas) (us1 : List Value) (wl1 : World) (p0 : Option Addr) (a3 : Addr) (a4 : Addr) (a5 : Addr) (n6 : Int) (n7 : Int) (n15 : Int) (w : World) (Q : Value → World → Prop) : Prop :=
  ∃ (S10 : World → Prop),
  Drw w fun w1 =>
  ∃ n33, Pu Tryz.prog (do eqGuard .shr 88 (.tmp 31) (.tmp 32) (.int .u64 n7) (.int .i64 (IntKind.i64.wrap (4 * (IntKind.i64.wrap (15 - (Int.tmod n6 16)))))); binOp .shr 88 (.int .u64 n7) (.int .i64 (IntKind.i64.wrap (4 * (IntKind.i64.wrap (15 - (Int.tmod n6 16)))))) : Sem Value) (.int .u64 n33) ∧
  ∃ a35, p0 = some a35 ∧
  ∃ a37, IxA Tryz.prog 353 (.pointer (some (a35.add 6))) (.int .i64 n6) a37 ∧
  ∃ a38, IxA Tryz.prog 352 (.pointer (some a37)) (.int .u64 (iand .u64 n33 15)) a38 ∧
  ∃ n28 n28_1, HLd Tryz.prog S10 339 (.pointer (some a5)) w1 (.agg #[.int .u64 n28, .int .u64 n28_1]) ∧
  ∃ n39 n39_1, Ld Tryz.prog 339 (.pointer (some a38)) w1 (.agg #[.int .u64 n39, .int .u64 n39_1]) ∧
  (w1 = w1 ∨ S10 w1) ∧
  ∃ p40 l40 c40 w2, Ef Tryz.prog (Instr.buildSlice 388 2 #[(0, .agg #[.int .u64 n28, .int .u64 n28_1]), (1, .agg #[.int .u64 n39, .int .u64 n39_1])]) w1 (.slice p40 l40 c40) w2 ∧
  callF Tryz.prog 304 #[.slice p40 l40 c40] w2 fun r41 w3 =>
  ∃ n41 n41_1, r41 = .agg #[.int .u64 n41, .int .u64 n41_1] ∧
  ∃ w4, Sto Tryz.prog 339 (.pointer (some a5)) (.agg #[.int .u64 n41, .int .u64 n41_1]) w3 w4 ∧
  goesOn [] [] I1 μ1 us1 [.pointer p0, .pointer (some a3), .pointer (some a4), .pointer (some a5), .int .i64 (IntKind.i64.wrap (n15 + 1))] wl1 w4
def ghash_Hash_Times_j2 (a4 : Addr) (a5 : Addr) (w : World) (Q : Value → World → Prop) : Prop :=
  ∃ n43 n43_1, Ld Tryz.prog 339 (.pointer (some a5)) w (.agg #[.int .u64 n43, .int .u64 n43_1]) ∧
  ∃ w1, Sto Tryz.prog 339 (.pointer (some a4)) (.agg #[.int .u64 n43, .int .u64 n43_1]) w w1 ∧
  ∃ a4_1 v4, (.pointer (some a4) : Value) = .pointer (some a4_1) ∧ (loadVar 339 a4_1).run Tryz.prog w1 = .ok v4 w1 ∧
  Q (v4) w1
def ghash_Hash_Times (p0 : Option Addr) (n1 : Int) (n1_1 : Int) (w : World) (Q : Value → World → Prop) : Prop :=
  New #[.int .u64 n1, .int .u64 n1_1] 339 w fun k3 w1 =>
  ∃ z4, Pu Tryz.prog (zeroValue 339) z4 ∧
  New z4.cells 339 w1 fun k4 w2 =>
  ∃ a10, p0 = some a10 ∧
  callF Tryz.prog 293 #[.pointer (some (a10.add 2)), .func (.func 318) #[.pointer p0] #[]] w2 fun r14 w3 =>
  r14 = .tuple #[] ∧
  ∃ z5, Pu Tryz.prog (zeroValue 339) z5 ∧
  New z5.cells 339 w3 fun k5 w4 =>
  LoopS [.pointer p0, .pointer (some (⟨k3, 0, none⟩ : Addr)), .pointer (some (⟨k4, 0, none⟩ : Addr)), .pointer (some (⟨k5, 0, none⟩ : Addr)), .int .i64 0] w4 fun I1 μ1 us1 _ wl1 =>
  ∃ p0_1 a3 a4 a5 n15, us1 = [.pointer p0_1, .pointer (some a3), .pointer (some a4), .pointer (some a5), .int .i64 n15] ∧
  cond (decide (n15 < 32))
  (∃ n19, Ld Tryz.prog 88 (.pointer (some (a3.add 0))) wl1 (.int .u64 n19) ∧
    cond (decide (n15 ≥ 16))
    (∃ n23, Ld Tryz.prog 88 (.pointer (some (a3.add 1))) wl1 (.int .u64 n23) ∧
      ghash_Hash_Times_j1 I1 μ1 us1 wl1 p0_1 a3 a4 a5 n15 n23 n15 wl1 Q)
    (ghash_Hash_Times_j1 I1 μ1 us1 wl1 p0_1 a3 a4 a5 n15 n19 n15 wl1 Q))
  (ghash_Hash_Times_j2 a4 a5 wl1 Q)
def ghash_Hash_Times_tt : Nat → List (Nat × TypeId) := fun n => match n with | 0 => [(0, 285), (3, 1000000), (4, 1000000), (5, 1000000), (15, 3)] | _ => []
theorem ghash_Hash_Times_call (p0 : Option Addr) (n1 : Int) (n1_1 : Int) (w : World) (Q : Value → World → Prop) (h : ghash_Hash_Times p0 n1 n1_1 w Q) : callF Tryz.prog 303 #[.pointer p0, .agg #[.int .u64 n1, .int .u64 n1_1]] w Q :=
  callBy ghash_Hash_Times_tt Tryz.func303 h (fun _ _ => by kernel_rfl) (by kernel_rfl) (by kernel_rfl) (by kernel_rfl)
def ghash_Hash_make (p0 : Option Addr) (w : World) (Q : Value → World → Prop) : Prop :=
  ∃ a5, p0 = some a5 ∧
  callF Tryz.prog 163 #[.pointer (some (a5.add 5)), .int .i64 1] w fun r7 w1 =>
  ∃ n7, r7 = .int .i64 n7 ∧
  ∃ a9, p0 = some a9 ∧
  ∃ n11 n11_1, Ld Tryz.prog 339 (.pointer (some (a9.add 0))) w1 (.agg #[.int .u64 n11, .int .u64 n11_1]) ∧
  ∃ z2, Pu Tryz.prog (zeroValue 339) z2 ∧
  New z2.cells 339 w1 fun k2 w2 =>
  ∃ w3, Sto Tryz.prog 339 (.pointer (some (⟨k2, 0, none⟩ : Addr))) (.agg #[.int .u64 n11, .int .u64 n11_1]) w2 w3 ∧
  LoopS [.pointer p0, .pointer (some (⟨k2, 0, none⟩ : Addr)), .int .i64 0] w3 fun I1 μ1 us1 _ wl1 =>
  ∃ p0_1 a2 n12, us1 = [.pointer p0_1, .pointer (some a2), .int .i64 n12] ∧
  cond (decide (n12 < 32))
  (Drw wl1 fun w4 =>
    ∃ a17, p0_1 = some a17 ∧
    ∃ a19, IxA Tryz.prog 353 (.pointer (some (a17.add 6))) (.int .i64 n12) a19 ∧
    ∃ n20 n20_1, Ld Tryz.prog 339 (.pointer (some a2)) w4 (.agg #[.int .u64 n20, .int .u64 n20_1]) ∧
    callF Tryz.prog 331 #[.pointer (some a19), .agg #[.int .u64 n20, .int .u64 n20_1]] w4 fun r21 w5 =>
    ∃ n21 n21_1, r21 = .agg #[.int .u64 n21, .int .u64 n21_1] ∧
    ∃ w6, Sto Tryz.prog 339 (.pointer (some a2)) (.agg #[.int .u64 n21, .int .u64 n21_1]) w5 w6 ∧
    goesOn [] [] I1 μ1 us1 [.pointer p0_1, .pointer (some a2), .int .i64 (IntKind.i64.wrap (n12 + 1))] wl1 w6)
  (Q (.tuple #[]) wl1)
def ghash_Hash_make_tt : Nat → List (Nat × TypeId) := fun n => match n with | 0 => [(0, 285), (2, 1000000), (12, 3)] | _ => []
theorem ghash_Hash_make_call (p0 : Option Addr) (w : World) (Q : Value → World → Prop) (h : ghash_Hash_make p0 w Q) : callF Tryz.prog 318 #[.pointer p0] w Q :=
  callBy ghash_Hash_make_tt Tryz.func318 h (fun _ _ => by kernel_rfl) (by kernel_rfl) (by kernel_rfl) (by kernel_rfl)
def ghash_row_fill_j1 (a3 : Addr) (a4 : Addr) (w : World) (Q : Value → World → Prop) : Prop :=
  ∃ n48 n48_1, Ld Tryz.prog 339 (.pointer (some a3)) w (.agg #[.int .u64 n48, .int .u64 n48_1]) ∧
  ∃ w1, Sto Tryz.prog 339 (.pointer (some a4)) (.agg #[.int .u64 n48, .int .u64 n48_1]) w w1 ∧
  ∃ a4_1 v4, (.pointer (some a4) : Value) = .pointer (some a4_1) ∧ (loadVar 339 a4_1).run Tryz.prog w1 = .ok v4 w1 ∧
  Q (v4) w1
def ghash_row_fill_j2 (p0 : Option Addr) (a3 : Addr) (a4 : Addr) (w : World) (Q : Value → World → Prop) : Prop :=
  LoopS [.pointer p0, .pointer (some a3), .pointer (some a4), .int .i64 0] w fun I2 μ2 us2 _ wl2 =>
  ∃ p0_1 a3_1 a4_1 n19, us2 = [.pointer p0_1, .pointer (some a3_1), .pointer (some a4_1), .int .i64 n19] ∧
  cond (decide (n19 < 16))
  (cond ((iand .i64 n19 (IntKind.i64.wrap (0 - n19))) != n19)
    (∃ (S11 : World → Prop),
      Drw wl2 fun w1 =>
      ∃ a33, p0_1 = some a33 ∧
      ∃ a34, IxA Tryz.prog 352 (.pointer (some a33)) (.int .i64 (iand .i64 n19 (IntKind.i64.wrap (0 - n19)))) a34 ∧
      ∃ a40, p0_1 = some a40 ∧
      ∃ a41, IxA Tryz.prog 352 (.pointer (some a40)) (.int .i64 (IntKind.i64.wrap (n19 - (iand .i64 n19 (IntKind.i64.wrap (0 - n19)))))) a41 ∧
      ∃ a45, p0_1 = some a45 ∧
      ∃ n35 n35_1, HLd Tryz.prog S11 339 (.pointer (some a34)) w1 (.agg #[.int .u64 n35, .int .u64 n35_1]) ∧
      ∃ n42 n42_1, Ld Tryz.prog 339 (.pointer (some a41)) w1 (.agg #[.int .u64 n42, .int .u64 n42_1]) ∧
      (w1 = w1 ∨ S11 w1) ∧
      ∃ p43 l43 c43 w2, Ef Tryz.prog (Instr.buildSlice 388 2 #[(0, .agg #[.int .u64 n35, .int .u64 n35_1]), (1, .agg #[.int .u64 n42, .int .u64 n42_1])]) w1 (.slice p43 l43 c43) w2 ∧
      callF Tryz.prog 304 #[.slice p43 l43 c43] w2 fun r44 w3 =>
      ∃ n44 n44_1, r44 = .agg #[.int .u64 n44, .int .u64 n44_1] ∧
      ∃ a46, IxA Tryz.prog 352 (.pointer (some a45)) (.int .i64 n19) a46 ∧
      ∃ w4, Sto Tryz.prog 339 (.pointer (some a46)) (.agg #[.int .u64 n44, .int .u64 n44_1]) w3 w4 ∧
      goesOn [] [] I2 μ2 us2 [.pointer p0_1, .pointer (some a3_1), .pointer (some a4_1), .int .i64 (IntKind.i64.wrap (n19 + 1))] wl2 w4)
    (goesOn [] [] I2 μ2 us2 [.pointer p0_1, .pointer (some a3_1), .pointer (some a4_1), .int .i64 (IntKind.i64.wrap (n19 + 1))] wl2 wl2))
  (ghash_row_fill_j1 a3_1 a4_1 wl2 Q)
def ghash_row_fill (p0 : Option Addr) (n1 : Int) (n1_1 : Int) (w : World) (Q : Value → World → Prop) : Prop :=
  New #[.int .u64 n1, .int .u64 n1_1] 339 w fun k3 w1 =>
  ∃ z4, Pu Tryz.prog (zeroValue 339) z4 ∧
  New z4.cells 339 w1 fun k4 w2 =>
  LoopS [.pointer p0, .pointer (some (⟨k3, 0, none⟩ : Addr)), .pointer (some (⟨k4, 0, none⟩ : Addr)), .int .i64 8] w2 fun I1 μ1 us1 _ wl1 =>
  ∃ p0_1 a3 a4 n5, us1 = [.pointer p0_1, .pointer (some a3), .pointer (some a4), .int .i64 n5] ∧
  cond (decide (n5 > 0))
  (Drw wl1 fun w3 =>
    ∃ a15, p0_1 = some a15 ∧
    ∃ n14 n14_1, Ld Tryz.prog 339 (.pointer (some a3)) w3 (.agg #[.int .u64 n14, .int .u64 n14_1]) ∧
    ∃ a16, IxA Tryz.prog 352 (.pointer (some a15)) (.int .i64 n5) a16 ∧
    ∃ w4, Sto Tryz.prog 339 (.pointer (some a16)) (.agg #[.int .u64 n14, .int .u64 n14_1]) w3 w4 ∧
    ∃ n17 n17_1, Ld Tryz.prog 339 (.pointer (some a3)) w4 (.agg #[.int .u64 n17, .int .u64 n17_1]) ∧
    callF Tryz.prog 339 #[.agg #[.int .u64 n17, .int .u64 n17_1]] w4 fun r18 w5 =>
    ∃ n18 n18_1, r18 = .agg #[.int .u64 n18, .int .u64 n18_1] ∧
    ∃ w6, Sto Tryz.prog 339 (.pointer (some a3)) (.agg #[.int .u64 n18, .int .u64 n18_1]) w5 w6 ∧
    goesOn [] [] I1 μ1 us1 [.pointer p0_1, .pointer (some a3), .pointer (some a4), .int .i64 (Int.fdiv n5 (2 ^ 1))] wl1 w6)
  (ghash_row_fill_j2 p0_1 a3 a4 wl1 Q)
def ghash_row_fill_tt : Nat → List (Nat × TypeId) := fun n => match n with | 0 => [(0, 431), (3, 1000000), (4, 1000000), (5, 3)] | 2 => [(0, 431), (3, 1000000), (4, 1000000), (19, 3)] | _ => []
theorem ghash_row_fill_call (p0 : Option Addr) (n1 : Int) (n1_1 : Int) (w : World) (Q : Value → World → Prop) (h : ghash_row_fill p0 n1 n1_1 w Q) : callF Tryz.prog 331 #[.pointer p0, .agg #[.int .u64 n1, .int .u64 n1_1]] w Q :=
  callBy ghash_row_fill_tt Tryz.func331 h (fun _ _ => by kernel_rfl) (by kernel_rfl) (by kernel_rfl) (by kernel_rfl)
end Go.Sh
end

section
namespace Go.Sh
open Go Go.Fw Go.Proofs
set_option maxRecDepth 100000
set_option linter.unusedVariables false
def gcm_New (p0 : Option Addr) (l0 : Nat) (c0 : Nat) (w : World) (Q : Value → World → Prop) : Prop :=
  callF Tryz.prog 191 #[.slice p0 l0 c0] w fun r12 w1 =>
  ∃ p12 n12, r12 = .tuple #[.pointer p12, .int .i64 n12] ∧
  cond (n12 != 0)
  (Q (.tuple #[.pointer none, .int .i64 n12]) w1)
  (∃ p20 l20 c20 w2, Ef Tryz.prog (Instr.makeSlice 25 (.int .i64 16) (.int .i64 16)) w1 (.slice p20 l20 c20) w2 ∧
    callF Tryz.prog 192 #[.pointer p12, .slice p20 l20 c20] w2 fun r21 w3 =>
    ∃ p21 l21 c21 n21, r21 = .tuple #[.slice p21 l21 c21, .int .i64 n21] ∧
    callF Tryz.prog 193 #[.slice p21 l21 c21] w3 fun r26 w4 =>
    ∃ p26 n26, r26 = .tuple #[.pointer p26, .int .i64 n26] ∧
    callF Tryz.prog 102 #[.slice p0 l0 c0] w4 fun r30 w5 =>
    ∃ p30 l30 c30, r30 = .slice p30 l30 c30 ∧
    New #[.slice p30 l30 c30, .pointer p12, .pointer p26, .int .i64 0] 289 w5 fun k34 w6 =>
    Q (.tuple #[.pointer (some (⟨k34, 0, none⟩ : Addr)), .int .i64 0]) w6)
def gcm_New_tt : Nat → List (Nat × TypeId) := fun _ => []
theorem gcm_New_call (p0 : Option Addr) (l0 : Nat) (c0 : Nat) (w : World) (Q : Value → World → Prop) (h : gcm_New p0 l0 c0 w Q) : callF Tryz.prog 121 #[.slice p0 l0 c0] w Q :=
  callBy gcm_New_tt Tryz.func121 h (fun _ _ => by kernel_rfl) (by kernel_rfl) (by kernel_rfl) (by kernel_rfl)
def gcm_Box_Seal (p0 : Option Addr) (p1 : Option Addr) (l1 : Nat) (c1 : Nat) (p2 : Option Addr) (l2 : Nat) (c2 : Nat) (p3 : Option Addr) (l3 : Nat) (c3 : Nat) (w : World) (Q : Value → World → Prop) : Prop :=
  ∃ p17 l17 c17 w1, Ef Tryz.prog (Instr.buildSlice 45 2 #[(0, .slice p2 l2 c2), (1, .slice p3 l3 c3)]) w (.slice p17 l17 c17) w1 ∧
  callF Tryz.prog 195 #[.slice p1 l1 c1, .slice p17 l17 c17] w1 fun r18 w2 =>
  ∃ n18, r18 = .int .i64 n18 ∧
  cond (n18 != 0)
  (Q (.tuple #[.slice none 0 0, .int .i64 n18]) w2)
  (callF Tryz.prog 196 #[.pointer p0, .slice p1 l1 c1, .slice p2 l2 c2] w2 fun r25 w3 =>
    ∃ p25 l25 c25, r25 = .slice p25 l25 c25 ∧
    callF Tryz.prog 197 #[.pointer p0, .slice p1 l1 c1, .slice p25 l25 c25, .slice p3 l3 c3] w3 fun r31 w4 =>
    ∃ p31 l31 c31 n31, r31 = .tuple #[.slice p31 l31 c31, .int .i64 n31] ∧
    ∃ p36 l36 c36 w5, Ef Tryz.prog (Instr.buildSlice 45 2 #[(0, .slice p25 l25 c25), (1, .slice p31 l31 c31)]) w4 (.slice p36 l36 c36) w5 ∧
    callF Tryz.prog 112 #[.slice p36 l36 c36] w5 fun r37 w6 =>
    ∃ p37 l37 c37, r37 = .slice p37 l37 c37 ∧
    Q (.tuple #[.slice p37 l37 c37, .int .i64 0]) w6)
def gcm_Box_Seal_tt : Nat → List (Nat × TypeId) := fun _ => []
theorem gcm_Box_Seal_call (p0 : Option Addr) (p1 : Option Addr) (l1 : Nat) (c1 : Nat) (p2 : Option Addr) (l2 : Nat) (c2 : Nat) (p3 : Option Addr) (l3 : Nat) (c3 : Nat) (w : World) (Q : Value → World → Prop) (h : gcm_Box_Seal p0 p1 l1 c1 p2 l2 c2 p3 l3 c3 w Q) : callF Tryz.prog 126 #[.pointer p0, .slice p1 l1 c1, .slice p2 l2 c2, .slice p3 l3 c3] w Q :=
  callBy gcm_Box_Seal_tt Tryz.func126 h (fun _ _ => by kernel_rfl) (by kernel_rfl) (by kernel_rfl) (by kernel_rfl)
def gcm_check (p0 : Option Addr) (l0 : Nat) (c0 : Nat) (p1 : Option Addr) (l1 : Nat) (c1 : Nat) (w : World) (Q : Value → World → Prop) : Prop :=
  cond (((l0 : Nat) : Int) != 12)
  (Q (.int .i64 11) w)
  (callF Tryz.prog 245 #[.slice p1 l1 c1, .func (.func 244) #[] #[]] w fun r12 w1 =>
    ∃ b12, r12 = .bool b12 ∧
    cond b12
    (Q (.int .i64 11) w1)
    (Q (.int .i64 0) w1))
def gcm_check_tt : Nat → List (Nat × TypeId) := fun _ => []
theorem gcm_check_call (p0 : Option Addr) (l0 : Nat) (c0 : Nat) (p1 : Option Addr) (l1 : Nat) (c1 : Nat) (w : World) (Q : Value → World → Prop) (h : gcm_check p0 l0 c0 p1 l1 c1 w Q) : callF Tryz.prog 195 #[.slice p0 l0 c0, .slice p1 l1 c1] w Q :=
  callBy gcm_check_tt Tryz.func195 h (fun _ _ => by kernel_rfl) (by kernel_rfl) (by kernel_rfl) (by kernel_rfl)
def gcm_Box_turn (p0 : Option Addr) (p1 : Option Addr) (l1 : Nat) (c1 : Nat) (p2 : Option Addr) (l2 : Nat) (c2 : Nat) (w : World) (Q : Value → World → Prop) : Prop :=
  callF Tryz.prog 247 #[.slice p1 l1 c1] w fun r13 w1 =>
  ∃ p13 l13 c13, r13 = .slice p13 l13 c13 ∧
  callF Tryz.prog 246 #[.slice p13 l13 c13] w1 fun r14 w2 =>
  ∃ p14 l14 c14 n14, r14 = .tuple #[.slice p14 l14 c14, .int .i64 n14] ∧
  ∃ a19, p0 = some a19 ∧
  ∃ p21 l21 c21, Ld Tryz.prog 25 (.pointer (some (a19.add 0))) w2 (.slice p21 l21 c21) ∧
  callF Tryz.prog 248 #[.slice p21 l21 c21, .slice p14 l14 c14, .slice p2 l2 c2] w2 fun r24 w3 =>
  ∃ p24 l24 c24 n24, r24 = .tuple #[.slice p24 l24 c24, .int .i64 n24] ∧
  Q (.slice p24 l24 c24) w3
def gcm_Box_turn_tt : Nat → List (Nat × TypeId) := fun _ => []
theorem gcm_Box_turn_call (p0 : Option Addr) (p1 : Option Addr) (l1 : Nat) (c1 : Nat) (p2 : Option Addr) (l2 : Nat) (c2 : Nat) (w : World) (Q : Value → World → Prop) (h : gcm_Box_turn p0 p1 l1 c1 p2 l2 c2 w Q) : callF Tryz.prog 196 #[.pointer p0, .slice p1 l1 c1, .slice p2 l2 c2] w Q :=
  callBy gcm_Box_turn_tt Tryz.func196 h (fun _ _ => by kernel_rfl) (by kernel_rfl) (by kernel_rfl) (by kernel_rfl)
def gcm_Box_Tag (p0 : Option Addr) (p1 : Option Addr) (l1 : Nat) (c1 : Nat) (p2 : Option Addr) (l2 : Nat) (c2 : Nat) (p3 : Option Addr) (l3 : Nat) (c3 : Nat) (w : World) (Q : Value → World → Prop) : Prop :=
  ∃ p16 l16 c16 w1, Ef Tryz.prog (Instr.buildSlice 45 2 #[(0, .slice p2 l2 c2), (1, .slice p3 l3 c3)]) w (.slice p16 l16 c16) w1 ∧
  callF Tryz.prog 195 #[.slice p1 l1 c1, .slice p16 l16 c16] w1 fun r17 w2 =>
  ∃ n17, r17 = .int .i64 n17 ∧
  cond (n17 != 0)
  (Q (.tuple #[.slice none 0 0, .int .i64 n17]) w2)
  (∃ (S4 : World → Prop),
    Drw w2 fun w3 =>
    ∃ a23, p0 = some a23 ∧
    ∃ p25, HLd Tryz.prog S4 279 (.pointer (some (a23.add 1))) w3 (.pointer p25) ∧
    callF Tryz.prog 247 #[.slice p1 l1 c1] w3 fun r27 w4 =>
    ∃ p27 l27 c27, r27 = .slice p27 l27 c27 ∧
    (w4 = w3 ∨ S4 w4) ∧
    callF Tryz.prog 192 #[.pointer p25, .slice p27 l27 c27] w4 fun r28 w5 =>
    ∃ p28 l28 c28 n28, r28 = .tuple #[.slice p28 l28 c28, .int .i64 n28] ∧
    ∃ a32, p0 = some a32 ∧
    ∃ p34, Ld Tryz.prog 285 (.pointer (some (a32.add 2))) w5 (.pointer p34) ∧
    callF Tryz.prog 250 #[.pointer p34, .slice p3 l3 c3, .slice p2 l2 c2] w5 fun r37 w6 =>
    ∃ p37 l37 c37, r37 = .slice p37 l37 c37 ∧
    callF Tryz.prog 249 #[.slice p37 l37 c37, .slice p28 l28 c28] w6 fun r39 w7 =>
    ∃ p39 l39 c39 n39, r39 = .tuple #[.slice p39 l39 c39, .int .i64 n39] ∧
    Q (.tuple #[.slice p39 l39 c39, .int .i64 n39]) w7)
def gcm_Box_Tag_tt : Nat → List (Nat × TypeId) := fun _ => []
theorem gcm_Box_Tag_call (p0 : Option Addr) (p1 : Option Addr) (l1 : Nat) (c1 : Nat) (p2 : Option Addr) (l2 : Nat) (c2 : Nat) (p3 : Option Addr) (l3 : Nat) (c3 : Nat) (w : World) (Q : Value → World → Prop) (h : gcm_Box_Tag p0 p1 l1 c1 p2 l2 c2 p3 l3 c3 w Q) : callF Tryz.prog 197 #[.pointer p0, .slice p1 l1 c1, .slice p2 l2 c2, .slice p3 l3 c3] w Q :=
  callBy gcm_Box_Tag_tt Tryz.func197 h (fun _ _ => by kernel_rfl) (by kernel_rfl) (by kernel_rfl) (by kernel_rfl)
def gcm_check_c1 (p0 : Option Addr) (l0 : Nat) (c0 : Nat) (w : World) (Q : Value → World → Prop) : Prop :=
  Q (.bool (decide (((l0 : Nat) : Int) > 65535))) w
def gcm_check_c1_tt : Nat → List (Nat × TypeId) := fun _ => []
theorem gcm_check_c1_call (p0 : Option Addr) (l0 : Nat) (c0 : Nat) (w : World) (Q : Value → World → Prop) (h : gcm_check_c1 p0 l0 c0 w Q) : callF Tryz.prog 244 #[.slice p0 l0 c0] w Q :=
  callBy gcm_check_c1_tt Tryz.func244 h (fun _ _ => by kernel_rfl) (by kernel_rfl) (by kernel_rfl) (by kernel_rfl)
def gcm_first (p0 : Option Addr) (l0 : Nat) (c0 : Nat) (w : World) (Q : Value → World → Prop) : Prop :=
  callF Tryz.prog 204 #[.int .u64 1, .int .i64 4] w fun r6 w1 =>
  ∃ p6 l6 c6 n6, r6 = .tuple #[.slice p6 l6 c6, .int .i64 n6] ∧
  ∃ p11 l11 c11 w2, Ef Tryz.prog (Instr.buildSlice 45 2 #[(0, .slice p0 l0 c0), (1, .slice p6 l6 c6)]) w1 (.slice p11 l11 c11) w2 ∧
  callF Tryz.prog 112 #[.slice p11 l11 c11] w2 fun r12 w3 =>
  ∃ p12 l12 c12, r12 = .slice p12 l12 c12 ∧
  Q (.slice p12 l12 c12) w3
def gcm_first_tt : Nat → List (Nat × TypeId) := fun _ => []
theorem gcm_first_call (p0 : Option Addr) (l0 : Nat) (c0 : Nat) (w : World) (Q : Value → World → Prop) (h : gcm_first p0 l0 c0 w Q) : callF Tryz.prog 247 #[.slice p0 l0 c0] w Q :=
  callBy gcm_first_tt Tryz.func247 h (fun _ _ => by kernel_rfl) (by kernel_rfl) (by kernel_rfl) (by kernel_rfl)
end Go.Sh
end
