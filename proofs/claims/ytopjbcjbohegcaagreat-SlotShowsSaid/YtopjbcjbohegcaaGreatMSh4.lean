/- A part of a proof of a given law of this program: lemmas, printed forms of its functions, contracts. It has no conditions of its own. -/
import Derived.Test.YtopjbcjbohegcaaGreatProg
import Derived.Test.YtopjbcjbohegcaaGreatMFw

section
namespace Go.Sh
open Go Go.Fw Go.Proofs
set_option maxRecDepth 100000
set_option linter.unusedVariables false

def mode_Config_Size (cs0 : Array Value) (w : World) (Q : Value → World → Prop) : Prop :=
  New cs0 50 w fun k1 w1 =>
  ∃ (cs3 : Array Value), Ld Tryz.prog 50 (.pointer (some (⟨k1, 0, none⟩ : Addr))) w1 (.agg cs3) ∧
  callF Tryz.prog 74 #[.agg cs3] w1 fun r4 w2 =>
  ∃ (b4 : Bool), r4 = .bool b4 ∧
  cond (!b4)
  (Q (.int .i64 0) w2)
  (∃ (cs6 : Array Value), Ld Tryz.prog 50 (.pointer (some (⟨k1, 0, none⟩ : Addr))) w2 (.agg cs6) ∧
    callF Tryz.prog 123 #[.agg cs6] w2 fun r7 w3 =>
    ∃ (n7 : Int), r7 = .int .i64 n7 ∧
    Q (.int .i64 (IntKind.i64.wrap (1 + n7))) w3)
def mode_Config_Size_tt : Nat → List (Nat × TypeId) := fun _ => []
theorem mode_Config_Size_call (cs0 : Array Value) (w : World) (Q : Value → World → Prop) (h : mode_Config_Size cs0 w Q) : callF Tryz.prog 71 #[.agg cs0] w Q :=
  callF_of (fun _ _ => by kernel_rfl) (callK_of_sw mode_Config_Size_tt Tryz.func71 rfl (by kernel_rfl) (show sw Tryz.prog none 9 mode_Config_Size_tt _ 0 (endK Tryz.prog [.tmp 2] Q) ⟨regs [.agg cs0], []⟩ w from
    Eq.mp (by kernel_rfl : mode_Config_Size cs0 w Q = sw Tryz.prog none 9 mode_Config_Size_tt (Tryz.f71.body.getD .skip) 0 (endK Tryz.prog [.tmp 2] Q) ⟨regs [.agg cs0], []⟩ w) h))

def mode_Config_Right_j1 (a1 : Addr) (b2 : Bool) (w : World) (Q : Value → World → Prop) : Prop :=
  ∃ (n25 : Int), Ld Tryz.prog 3 (.pointer (some (a1.add 0))) w (.int .i64 n25) ∧
  cond (n25 == 0)
  (∃ (cs29 : Array Value), Ld Tryz.prog 42 (.pointer (some (a1.add 3))) w (.agg cs29) ∧
    ∃ (b31 : Bool) (w1 : World), Ef Tryz.prog (do eqGuard .eql 42 (.tmp 29) (.tmp 30) (.agg cs29) (.agg #[.int .u8 0, .int .u8 0, .int .u8 0, .int .u8 0, .int .u8 0, .int .u8 0, .int .u8 0, .int .u8 0, .int .u8 0, .int .u8 0, .int .u8 0, .int .u8 0, .int .u8 0, .int .u8 0, .int .u8 0, .int .u8 0]); binOp .eql 42 (.agg cs29) (.agg #[.int .u8 0, .int .u8 0, .int .u8 0, .int .u8 0, .int .u8 0, .int .u8 0, .int .u8 0, .int .u8 0, .int .u8 0, .int .u8 0, .int .u8 0, .int .u8 0, .int .u8 0, .int .u8 0, .int .u8 0, .int .u8 0]) : Sem Value) w (.bool b31) w1 ∧
    Q (.bool b31) w1)
  (cond (n25 == 1)
    (∃ (cs34 : Array Value), Ld Tryz.prog 50 (.pointer (some a1)) w (.agg cs34) ∧
      callF Tryz.prog 123 #[.agg cs34] w fun r35 w2 =>
      ∃ (n35 : Int), r35 = .int .i64 n35 ∧
      Q (.bool (n35 == 16)) w2)
    (Q (.bool true) w))
def mode_Config_Right (cs0 : Array Value) (w : World) (Q : Value → World → Prop) : Prop :=
  New cs0 50 w fun k1 w1 =>
  ∃ (n4 : Int), Ld Tryz.prog 3 (.pointer (some ((⟨k1, 0, none⟩ : Addr).add 0))) w1 (.int .i64 n4) ∧
  callF Tryz.prog 124 #[.int .i64 n4, .int .i64 0, .int .i64 2] w1 fun r5 w2 =>
  ∃ (b5 : Bool), r5 = .bool b5 ∧
  cond (!b5)
  (Q (.bool false) w2)
  (∃ (n9 : Int), Ld Tryz.prog 3 (.pointer (some ((⟨k1, 0, none⟩ : Addr).add 1))) w2 (.int .i64 n9) ∧
    callF Tryz.prog 124 #[.int .i64 n9, .int .i64 1, .int .i64 15] w2 fun r10 w3 =>
    ∃ (b10 : Bool), r10 = .bool b10 ∧
    cond (!b10)
    (Q (.bool false) w3)
    (∃ (n15 : Int), Ld Tryz.prog 3 (.pointer (some ((⟨k1, 0, none⟩ : Addr).add 2))) w3 (.int .i64 n15) ∧
      callF Tryz.prog 124 #[.int .i64 n15, .int .i64 4, .int .i64 18] w3 fun r16 w4 =>
      ∃ (b16 : Bool), r16 = .bool b16 ∧
      cond (!b16)
      (Q (.bool false) w4)
      (∃ (cs20 : Array Value), Ld Tryz.prog 50 (.pointer (some (⟨k1, 0, none⟩ : Addr))) w4 (.agg cs20) ∧
        callF Tryz.prog 123 #[.agg cs20] w4 fun r21 w5 =>
        ∃ (n21 : Int), r21 = .int .i64 n21 ∧
        cond (decide (n21 > 19))
        (Q (.bool false) w5)
        (mode_Config_Right_j1 (⟨k1, 0, none⟩ : Addr) false w5 Q))))
def mode_Config_Right_tt : Nat → List (Nat × TypeId) := fun _ => []
theorem mode_Config_Right_call (cs0 : Array Value) (w : World) (Q : Value → World → Prop) (h : mode_Config_Right cs0 w Q) : callF Tryz.prog 74 #[.agg cs0] w Q :=
  callF_of (fun _ _ => by kernel_rfl) (callK_of_sw mode_Config_Right_tt Tryz.func74 rfl (by kernel_rfl) (show sw Tryz.prog none 37 mode_Config_Right_tt _ 0 (endK Tryz.prog [.tmp 2] Q) ⟨regs [.agg cs0], []⟩ w from
    Eq.mp (by kernel_rfl : mode_Config_Right cs0 w Q = sw Tryz.prog none 37 mode_Config_Right_tt (Tryz.f74.body.getD .skip) 0 (endK Tryz.prog [.tmp 2] Q) ⟨regs [.agg cs0], []⟩ w) h))

def mode_Config_Turn (cs0 : Array Value) (p1 : Option Addr) (l1 : Nat) (c1 : Nat) (w : World) (Q : Value → World → Prop) : Prop :=
  New cs0 50 w fun k2 w1 =>
  ∃ (cs6 : Array Value), Ld Tryz.prog 50 (.pointer (some (⟨k2, 0, none⟩ : Addr))) w1 (.agg cs6) ∧
  callF Tryz.prog 125 #[.agg cs6, .agg #[.func (.func 42) #[] #[], .func (.func 126) #[] #[]], .slice p1 l1 c1] w1 fun r9 w2 =>
  ∃ (p9 : Option Addr) (l9 : Nat) (c9 : Nat) (n9 : Int), r9 = .tuple #[.slice p9 l9 c9, .int .i64 n9] ∧
  Q (.tuple #[.slice p9 l9 c9, .int .i64 n9]) w2
def mode_Config_Turn_tt : Nat → List (Nat × TypeId) := fun _ => []
theorem mode_Config_Turn_call (cs0 : Array Value) (p1 : Option Addr) (l1 : Nat) (c1 : Nat) (w : World) (Q : Value → World → Prop) (h : mode_Config_Turn cs0 p1 l1 c1 w Q) : callF Tryz.prog 75 #[.agg cs0, .slice p1 l1 c1] w Q :=
  callF_of (fun _ _ => by kernel_rfl) (callK_of_sw mode_Config_Turn_tt Tryz.func75 rfl (by kernel_rfl) (show sw Tryz.prog none 12 mode_Config_Turn_tt _ 0 (endK Tryz.prog [.tmp 4, .tmp 5] Q) ⟨regs [.agg cs0, .slice p1 l1 c1], []⟩ w from
    Eq.mp (by kernel_rfl : mode_Config_Turn cs0 p1 l1 c1 w Q = sw Tryz.prog none 12 mode_Config_Turn_tt (Tryz.f75.body.getD .skip) 0 (endK Tryz.prog [.tmp 4, .tmp 5] Q) ⟨regs [.agg cs0, .slice p1 l1 c1], []⟩ w) h))

def mode_Config_Back (cs0 : Array Value) (p1 : Option Addr) (l1 : Nat) (c1 : Nat) (w : World) (Q : Value → World → Prop) : Prop :=
  New cs0 50 w fun k2 w1 =>
  ∃ (cs6 : Array Value), Ld Tryz.prog 50 (.pointer (some (⟨k2, 0, none⟩ : Addr))) w1 (.agg cs6) ∧
  callF Tryz.prog 125 #[.agg cs6, .agg #[.func (.func 152) #[] #[], .func (.func 153) #[] #[]], .slice p1 l1 c1] w1 fun r9 w2 =>
  ∃ (p9 : Option Addr) (l9 : Nat) (c9 : Nat) (n9 : Int), r9 = .tuple #[.slice p9 l9 c9, .int .i64 n9] ∧
  Q (.tuple #[.slice p9 l9 c9, .int .i64 n9]) w2
def mode_Config_Back_tt : Nat → List (Nat × TypeId) := fun _ => []
theorem mode_Config_Back_call (cs0 : Array Value) (p1 : Option Addr) (l1 : Nat) (c1 : Nat) (w : World) (Q : Value → World → Prop) (h : mode_Config_Back cs0 p1 l1 c1 w Q) : callF Tryz.prog 120 #[.agg cs0, .slice p1 l1 c1] w Q :=
  callF_of (fun _ _ => by kernel_rfl) (callK_of_sw mode_Config_Back_tt Tryz.func120 rfl (by kernel_rfl) (show sw Tryz.prog none 12 mode_Config_Back_tt _ 0 (endK Tryz.prog [.tmp 4, .tmp 5] Q) ⟨regs [.agg cs0, .slice p1 l1 c1], []⟩ w from
    Eq.mp (by kernel_rfl : mode_Config_Back cs0 p1 l1 c1 w Q = sw Tryz.prog none 12 mode_Config_Back_tt (Tryz.f120.body.getD .skip) 0 (endK Tryz.prog [.tmp 4, .tmp 5] Q) ⟨regs [.agg cs0, .slice p1 l1 c1], []⟩ w) h))

def mode_Config_both (cs0 : Array Value) (w : World) (Q : Value → World → Prop) : Prop :=
  New cs0 50 w fun k1 w1 =>
  ∃ (n4 : Int), Ld Tryz.prog 3 (.pointer (some ((⟨k1, 0, none⟩ : Addr).add 1))) w1 (.int .i64 n4) ∧
  ∃ (n6 : Int), Ld Tryz.prog 3 (.pointer (some ((⟨k1, 0, none⟩ : Addr).add 2))) w1 (.int .i64 n6) ∧
  Q (.int .i64 (IntKind.i64.wrap (n4 + n6))) w1
def mode_Config_both_tt : Nat → List (Nat × TypeId) := fun _ => []
theorem mode_Config_both_call (cs0 : Array Value) (w : World) (Q : Value → World → Prop) (h : mode_Config_both cs0 w Q) : callF Tryz.prog 123 #[.agg cs0] w Q :=
  callF_of (fun _ _ => by kernel_rfl) (callK_of_sw mode_Config_both_tt Tryz.func123 rfl (by kernel_rfl) (show sw Tryz.prog none 8 mode_Config_both_tt _ 0 (endK Tryz.prog [.tmp 2] Q) ⟨regs [.agg cs0], []⟩ w from
    Eq.mp (by kernel_rfl : mode_Config_both cs0 w Q = sw Tryz.prog none 8 mode_Config_both_tt (Tryz.f123.body.getD .skip) 0 (endK Tryz.prog [.tmp 2] Q) ⟨regs [.agg cs0], []⟩ w) h))

def mode_within (n0 : Int) (n1 : Int) (n2 : Int) (w : World) (Q : Value → World → Prop) : Prop :=
  cond (decide (n0 ≥ n1))
  (Q (.bool (decide (n0 ≤ n2))) w)
  (Q (.bool false) w)
def mode_within_tt : Nat → List (Nat × TypeId) := fun _ => []
theorem mode_within_call (n0 : Int) (n1 : Int) (n2 : Int) (w : World) (Q : Value → World → Prop) (h : mode_within n0 n1 n2 w Q) : callF Tryz.prog 124 #[.int .i64 n0, .int .i64 n1, .int .i64 n2] w Q :=
  callF_of (fun _ _ => by kernel_rfl) (callK_of_sw mode_within_tt Tryz.func124 rfl (by kernel_rfl) (show sw Tryz.prog none 15 mode_within_tt _ 0 (endK Tryz.prog [.tmp 6] Q) ⟨regs [.int .i64 n0, .int .i64 n1, .int .i64 n2], []⟩ w from
    Eq.mp (by kernel_rfl : mode_within n0 n1 n2 w Q = sw Tryz.prog none 15 mode_within_tt (Tryz.f124.body.getD .skip) 0 (endK Tryz.prog [.tmp 6] Q) ⟨regs [.int .i64 n0, .int .i64 n1, .int .i64 n2], []⟩ w) h))

def mode_Config_by_j1 (p2 : Option Addr) (l2 : Nat) (c2 : Nat) (a3 : Addr) (a4 : Addr) (p6 : Option Addr) (l6 : Nat) (c6 : Nat) (n7 : Int) (w : World) (Q : Value → World → Prop) : Prop :=
  ∃ (p29 : Option Addr) (l29 : Nat) (c29 : Nat), Pu Tryz.prog (Instr.sliceAt 42 (.pointer (some (a3.add 3))) none none none) (.slice p29 l29 c29) ∧
  callF Tryz.prog 41 #[.slice p29 l29 c29] w fun r30 w1 =>
  ∃ (p30 : Option Addr) (n30 : Int), r30 = .tuple #[.pointer p30, .int .i64 n30] ∧
  ∃ (n34 : Int), Ld Tryz.prog 3 (.pointer (some (a3.add 0))) w1 (.int .i64 n34) ∧
  cond (n34 == 1)
  (∃ (v37 : Value), Ld Tryz.prog 206 (.pointer (some (a4.add 0))) w1 (v37) ∧
    callV Tryz.prog (v37) [.pointer p30, .slice p2 l2 c2] w1 fun r40 w2 =>
    ∃ (p40 : Option Addr) (l40 : Nat) (c40 : Nat) (n40 : Int), r40 = .tuple #[.slice p40 l40 c40, .int .i64 n40] ∧
    Q (.tuple #[.slice p40 l40 c40, .int .i64 n40]) w2)
  (∃ (v44 : Value), Ld Tryz.prog 206 (.pointer (some (a4.add 1))) w1 (v44) ∧
    callV Tryz.prog (v44) [.pointer p30, .slice p2 l2 c2] w1 fun r47 w3 =>
    ∃ (p47 : Option Addr) (l47 : Nat) (c47 : Nat) (n47 : Int), r47 = .tuple #[.slice p47 l47 c47, .int .i64 n47] ∧
    Q (.tuple #[.slice p47 l47 c47, .int .i64 n47]) w3)
def mode_Config_by (cs0 : Array Value) (v1 : Value) (v1_1 : Value) (p2 : Option Addr) (l2 : Nat) (c2 : Nat) (w : World) (Q : Value → World → Prop) : Prop :=
  New cs0 50 w fun k3 w1 =>
  New #[v1, v1_1] 208 w1 fun k4 w2 =>
  ∃ (cs11 : Array Value), Ld Tryz.prog 50 (.pointer (some (⟨k3, 0, none⟩ : Addr))) w2 (.agg cs11) ∧
  callF Tryz.prog 74 #[.agg cs11] w2 fun r12 w3 =>
  ∃ (b12 : Bool), r12 = .bool b12 ∧
  cond (!b12)
  (Q (.tuple #[.slice none 0 0, .int .i64 19]) w3)
  (∃ (cs17 : Array Value), Ld Tryz.prog 50 (.pointer (some (⟨k3, 0, none⟩ : Addr))) w3 (.agg cs17) ∧
    callF Tryz.prog 123 #[.agg cs17] w3 fun r18 w4 =>
    ∃ (n18 : Int), r18 = .int .i64 n18 ∧
    cond (((l2 : Nat) : Int) != n18)
    (Q (.tuple #[.slice none 0 0, .int .i64 11]) w4)
    (∃ (n22 : Int), Ld Tryz.prog 3 (.pointer (some ((⟨k3, 0, none⟩ : Addr).add 0))) w4 (.int .i64 n22) ∧
      cond (n22 == 0)
      (∃ (p25 : Option Addr) (l25 : Nat) (c25 : Nat) (w5 : World), Ef Tryz.prog (Instr.buildSlice 85 1 #[(0, .slice p2 l2 c2)]) w4 (.slice p25 l25 c25) w5 ∧
        callF Tryz.prog 47 #[.slice p25 l25 c25] w5 fun r26 w6 =>
        ∃ (p26 : Option Addr) (l26 : Nat) (c26 : Nat), r26 = .slice p26 l26 c26 ∧
        Q (.tuple #[.slice p26 l26 c26, .int .i64 0]) w6)
      (mode_Config_by_j1 p2 l2 c2 (⟨k3, 0, none⟩ : Addr) (⟨k4, 0, none⟩ : Addr) none 0 0 0 w4 Q)))
def mode_Config_by_tt : Nat → List (Nat × TypeId) := fun _ => []
theorem mode_Config_by_call (cs0 : Array Value) (v1 : Value) (v1_1 : Value) (p2 : Option Addr) (l2 : Nat) (c2 : Nat) (w : World) (Q : Value → World → Prop) (h : mode_Config_by cs0 v1 v1_1 p2 l2 c2 w Q) : callF Tryz.prog 125 #[.agg cs0, .agg #[v1, v1_1], .slice p2 l2 c2] w Q :=
  callF_of (fun _ _ => by kernel_rfl) (callK_of_sw mode_Config_by_tt Tryz.func125 rfl (by kernel_rfl) (show sw Tryz.prog none 50 mode_Config_by_tt _ 0 (endK Tryz.prog [.tmp 6, .tmp 7] Q) ⟨regs [.agg cs0, .agg #[v1, v1_1], .slice p2 l2 c2], []⟩ w from
    Eq.mp (by kernel_rfl : mode_Config_by cs0 v1 v1_1 p2 l2 c2 w Q = sw Tryz.prog none 50 mode_Config_by_tt (Tryz.f125.body.getD .skip) 0 (endK Tryz.prog [.tmp 6, .tmp 7] Q) ⟨regs [.agg cs0, .agg #[v1, v1_1], .slice p2 l2 c2], []⟩ w) h))
end Go.Sh
end

section
namespace Go.Sh
open Go Go.Fw Go.Proofs
set_option maxRecDepth 100000
set_option linter.unusedVariables false

def law16_Of (cs0 : Array Value) (w : World) (Q : Value → World → Prop) : Prop :=
  New cs0 50 w fun k1 w1 =>
  ∃ (z2 : Value), Pu Tryz.prog (zeroValue 44) z2 ∧
  New z2.cells 44 w1 fun k2 w2 =>
  ∃ (n4 : Int), Ld Tryz.prog 3 (.pointer (some ((⟨k1, 0, none⟩ : Addr).add 0))) w2 (.int .i64 n4) ∧
  ∃ (n6 : Int), Ld Tryz.prog 3 (.pointer (some ((⟨k1, 0, none⟩ : Addr).add 1))) w2 (.int .i64 n6) ∧
  ∃ (n8 : Int), Ld Tryz.prog 3 (.pointer (some ((⟨k1, 0, none⟩ : Addr).add 2))) w2 (.int .i64 n8) ∧
  ∃ (cs10 : Array Value), Ld Tryz.prog 42 (.pointer (some ((⟨k1, 0, none⟩ : Addr).add 3))) w2 (.agg cs10) ∧
  ∃ (cs11 : Array Value), Pu Tryz.prog (Instr.build 44 #[(0, .int .i64 n4), (1, .int .i64 n6), (2, .int .i64 n8), (3, .agg cs10)]) (.agg cs11) ∧
  ∃ (w3 : World), Sto Tryz.prog 44 (.pointer (some (⟨k2, 0, none⟩ : Addr))) (.agg cs11) w2 w3 ∧
  ∃ (a2 : Addr) (v2 : Value), (.pointer (some (⟨k2, 0, none⟩ : Addr)) : Value) = .pointer (some a2) ∧ (loadVar 44 a2).run Tryz.prog w3 = .ok v2 w3 ∧
  Q (v2) w3
def law16_Of_tt : Nat → List (Nat × TypeId) := fun _ => []
theorem law16_Of_call (cs0 : Array Value) (w : World) (Q : Value → World → Prop) (h : law16_Of cs0 w Q) : callF Tryz.prog 64 #[.agg cs0] w Q :=
  callF_of (fun _ _ => by kernel_rfl) (callK_of_sw law16_Of_tt Tryz.func64 rfl (by kernel_rfl) (show sw Tryz.prog none 12 law16_Of_tt _ 0 (endK Tryz.prog [.cell 2 44] Q) ⟨regs [.agg cs0], []⟩ w from
    Eq.mp (by kernel_rfl : law16_Of cs0 w Q = sw Tryz.prog none 12 law16_Of_tt (Tryz.f64.body.getD .skip) 0 (endK Tryz.prog [.cell 2 44] Q) ⟨regs [.agg cs0], []⟩ w) h))
end Go.Sh
end

section
namespace Go.Sh
open Go Go.Fw Go.Proofs
set_option maxRecDepth 100000
set_option linter.unusedVariables false

def ref16_Size (cs0 : Array Value) (w : World) (Q : Value → World → Prop) : Prop :=
  New cs0 44 w fun k1 w1 =>
  ∃ (cs3 : Array Value), Ld Tryz.prog 44 (.pointer (some (⟨k1, 0, none⟩ : Addr))) w1 (.agg cs3) ∧
  callF Tryz.prog 118 #[.agg cs3] w1 fun r4 w2 =>
  ∃ (b4 : Bool), r4 = .bool b4 ∧
  cond (!b4)
  (Q (.int .i64 0) w2)
  (∃ (n7 : Int), Ld Tryz.prog 3 (.pointer (some ((⟨k1, 0, none⟩ : Addr).add 1))) w2 (.int .i64 n7) ∧
    ∃ (n10 : Int), Ld Tryz.prog 3 (.pointer (some ((⟨k1, 0, none⟩ : Addr).add 2))) w2 (.int .i64 n10) ∧
    Q (.int .i64 (IntKind.i64.wrap ((IntKind.i64.wrap (1 + n7)) + n10))) w2)
def ref16_Size_tt : Nat → List (Nat × TypeId) := fun _ => []
theorem ref16_Size_call (cs0 : Array Value) (w : World) (Q : Value → World → Prop) (h : ref16_Size cs0 w Q) : callF Tryz.prog 72 #[.agg cs0] w Q :=
  callF_of (fun _ _ => by kernel_rfl) (callK_of_sw ref16_Size_tt Tryz.func72 rfl (by kernel_rfl) (show sw Tryz.prog none 12 ref16_Size_tt _ 0 (endK Tryz.prog [.tmp 2] Q) ⟨regs [.agg cs0], []⟩ w from
    Eq.mp (by kernel_rfl : ref16_Size cs0 w Q = sw Tryz.prog none 12 ref16_Size_tt (Tryz.f72.body.getD .skip) 0 (endK Tryz.prog [.tmp 2] Q) ⟨regs [.agg cs0], []⟩ w) h))

def ref16_Right_j1 (a1 : Addr) (b2 : Bool) (w : World) (Q : Value → World → Prop) : Prop :=
  ∃ (n51 : Int), Ld Tryz.prog 3 (.pointer (some (a1.add 0))) w (.int .i64 n51) ∧
  cond (n51 != 0)
  (Q (.bool true) w)
  (∃ (cs55 : Array Value), Ld Tryz.prog 42 (.pointer (some (a1.add 3))) w (.agg cs55) ∧
    ∃ (b57 : Bool) (w1 : World), Ef Tryz.prog (do eqGuard .eql 42 (.tmp 55) (.tmp 56) (.agg cs55) (.agg #[.int .u8 0, .int .u8 0, .int .u8 0, .int .u8 0, .int .u8 0, .int .u8 0, .int .u8 0, .int .u8 0, .int .u8 0, .int .u8 0, .int .u8 0, .int .u8 0, .int .u8 0, .int .u8 0, .int .u8 0, .int .u8 0]); binOp .eql 42 (.agg cs55) (.agg #[.int .u8 0, .int .u8 0, .int .u8 0, .int .u8 0, .int .u8 0, .int .u8 0, .int .u8 0, .int .u8 0, .int .u8 0, .int .u8 0, .int .u8 0, .int .u8 0, .int .u8 0, .int .u8 0, .int .u8 0, .int .u8 0]) : Sem Value) w (.bool b57) w1 ∧
    Q (.bool b57) w1)
def ref16_Right_j2 (a1 : Addr) (b2 : Bool) (w : World) (Q : Value → World → Prop) : Prop :=
  ∃ (n40 : Int), Ld Tryz.prog 3 (.pointer (some (a1.add 0))) w (.int .i64 n40) ∧
  cond (n40 == 1)
  (∃ (n44 : Int), Ld Tryz.prog 3 (.pointer (some (a1.add 1))) w (.int .i64 n44) ∧
    ∃ (n46 : Int), Ld Tryz.prog 3 (.pointer (some (a1.add 2))) w (.int .i64 n46) ∧
    cond ((IntKind.i64.wrap (n44 + n46)) != 16)
    (Q (.bool false) w)
    (ref16_Right_j1 a1 b2 w Q))
  (ref16_Right_j1 a1 b2 w Q)
def ref16_Right (cs0 : Array Value) (w : World) (Q : Value → World → Prop) : Prop :=
  New cs0 44 w fun k1 w1 =>
  ∃ (n4 : Int), Ld Tryz.prog 3 (.pointer (some ((⟨k1, 0, none⟩ : Addr).add 0))) w1 (.int .i64 n4) ∧
  cond (decide (n4 < 0))
  (Q (.bool false) w1)
  (∃ (n8 : Int), Ld Tryz.prog 3 (.pointer (some ((⟨k1, 0, none⟩ : Addr).add 0))) w1 (.int .i64 n8) ∧
    cond (decide (n8 > 2))
    (Q (.bool false) w1)
    (∃ (n13 : Int), Ld Tryz.prog 3 (.pointer (some ((⟨k1, 0, none⟩ : Addr).add 1))) w1 (.int .i64 n13) ∧
      cond (decide (n13 < 1))
      (Q (.bool false) w1)
      (∃ (n18 : Int), Ld Tryz.prog 3 (.pointer (some ((⟨k1, 0, none⟩ : Addr).add 1))) w1 (.int .i64 n18) ∧
        cond (decide (n18 > 15))
        (Q (.bool false) w1)
        (∃ (n23 : Int), Ld Tryz.prog 3 (.pointer (some ((⟨k1, 0, none⟩ : Addr).add 2))) w1 (.int .i64 n23) ∧
          cond (decide (n23 < 4))
          (Q (.bool false) w1)
          (∃ (n28 : Int), Ld Tryz.prog 3 (.pointer (some ((⟨k1, 0, none⟩ : Addr).add 2))) w1 (.int .i64 n28) ∧
            cond (decide (n28 > 18))
            (Q (.bool false) w1)
            (∃ (n33 : Int), Ld Tryz.prog 3 (.pointer (some ((⟨k1, 0, none⟩ : Addr).add 1))) w1 (.int .i64 n33) ∧
              ∃ (n35 : Int), Ld Tryz.prog 3 (.pointer (some ((⟨k1, 0, none⟩ : Addr).add 2))) w1 (.int .i64 n35) ∧
              cond (decide ((IntKind.i64.wrap (n33 + n35)) > 19))
              (Q (.bool false) w1)
              (ref16_Right_j2 (⟨k1, 0, none⟩ : Addr) false w1 Q)))))))
def ref16_Right_tt : Nat → List (Nat × TypeId) := fun _ => []
theorem ref16_Right_call (cs0 : Array Value) (w : World) (Q : Value → World → Prop) (h : ref16_Right cs0 w Q) : callF Tryz.prog 118 #[.agg cs0] w Q :=
  callF_of (fun _ _ => by kernel_rfl) (callK_of_sw ref16_Right_tt Tryz.func118 rfl (by kernel_rfl) (show sw Tryz.prog none 59 ref16_Right_tt _ 0 (endK Tryz.prog [.tmp 2] Q) ⟨regs [.agg cs0], []⟩ w from
    Eq.mp (by kernel_rfl : ref16_Right cs0 w Q = sw Tryz.prog none 59 ref16_Right_tt (Tryz.f118.body.getD .skip) 0 (endK Tryz.prog [.tmp 2] Q) ⟨regs [.agg cs0], []⟩ w) h))

def ref16_Back (cs0 : Array Value) (p1 : Option Addr) (l1 : Nat) (c1 : Nat) (w : World) (Q : Value → World → Prop) : Prop :=
  New cs0 44 w fun k2 w1 =>
  ∃ (cs6 : Array Value), Ld Tryz.prog 44 (.pointer (some (⟨k2, 0, none⟩ : Addr))) w1 (.agg cs6) ∧
  ∃ (p8 : Option Addr) (l8 : Nat) (c8 : Nat) (w2 : World), Ef Tryz.prog (Instr.buildSlice 132 4 #[(0, .int .i64 4), (1, .int .i64 3), (2, .int .i64 2), (3, .int .i64 1)]) w1 (.slice p8 l8 c8) w2 ∧
  callF Tryz.prog 154 #[.agg cs6, .slice p1 l1 c1, .slice p8 l8 c8] w2 fun r9 w3 =>
  ∃ (p9 : Option Addr) (l9 : Nat) (c9 : Nat) (n9 : Int), r9 = .tuple #[.slice p9 l9 c9, .int .i64 n9] ∧
  Q (.tuple #[.slice p9 l9 c9, .int .i64 n9]) w3
def ref16_Back_tt : Nat → List (Nat × TypeId) := fun _ => []
theorem ref16_Back_call (cs0 : Array Value) (p1 : Option Addr) (l1 : Nat) (c1 : Nat) (w : World) (Q : Value → World → Prop) (h : ref16_Back cs0 p1 l1 c1 w Q) : callF Tryz.prog 122 #[.agg cs0, .slice p1 l1 c1] w Q :=
  callF_of (fun _ _ => by kernel_rfl) (callK_of_sw ref16_Back_tt Tryz.func122 rfl (by kernel_rfl) (show sw Tryz.prog none 12 ref16_Back_tt _ 0 (endK Tryz.prog [.tmp 4, .tmp 5] Q) ⟨regs [.agg cs0, .slice p1 l1 c1], []⟩ w from
    Eq.mp (by kernel_rfl : ref16_Back cs0 p1 l1 c1 w Q = sw Tryz.prog none 12 ref16_Back_tt (Tryz.f122.body.getD .skip) 0 (endK Tryz.prog [.tmp 4, .tmp 5] Q) ⟨regs [.agg cs0, .slice p1 l1 c1], []⟩ w) h))

def ref16_turn (cs0 : Array Value) (p1 : Option Addr) (l1 : Nat) (c1 : Nat) (p2 : Option Addr) (l2 : Nat) (c2 : Nat) (w : World) (Q : Value → World → Prop) : Prop :=
  New cs0 44 w fun k3 w1 =>
  ∃ (cs8 : Array Value), Ld Tryz.prog 44 (.pointer (some (⟨k3, 0, none⟩ : Addr))) w1 (.agg cs8) ∧
  callF Tryz.prog 118 #[.agg cs8] w1 fun r9 w2 =>
  ∃ (b9 : Bool), r9 = .bool b9 ∧
  cond (!b9)
  (Q (.tuple #[.slice none 0 0, .int .i64 19]) w2)
  (∃ (n14 : Int), Ld Tryz.prog 3 (.pointer (some ((⟨k3, 0, none⟩ : Addr).add 1))) w2 (.int .i64 n14) ∧
    ∃ (n16 : Int), Ld Tryz.prog 3 (.pointer (some ((⟨k3, 0, none⟩ : Addr).add 2))) w2 (.int .i64 n16) ∧
    cond (((l1 : Nat) : Int) != (IntKind.i64.wrap (n14 + n16)))
    (Q (.tuple #[.slice none 0 0, .int .i64 11]) w2)
    (∃ (n20 : Int), Ld Tryz.prog 3 (.pointer (some ((⟨k3, 0, none⟩ : Addr).add 0))) w2 (.int .i64 n20) ∧
      cond (n20 == 0)
      (∃ (p22 : Option Addr) (l22 : Nat) (c22 : Nat) (w3 : World), Ef Tryz.prog (Instr.buildSlice 22 0 #[]) w2 (.slice p22 l22 c22) w3 ∧
        ∃ (p24 : Option Addr) (l24 : Nat) (c24 : Nat) (w4 : World), Ef Tryz.prog (Builtin.append_ #[22, 22] 22 #[.slice p22 l22 c22, .slice p1 l1 c1]) w3 (.slice p24 l24 c24) w4 ∧
        Q (.tuple #[.slice p24 l24 c24, .int .i64 0]) w4)
      (∃ (n26 : Int), Ld Tryz.prog 3 (.pointer (some ((⟨k3, 0, none⟩ : Addr).add 0))) w2 (.int .i64 n26) ∧
        cond (n26 == 2)
        (∃ (p29 : Option Addr) (l29 : Nat) (c29 : Nat), Pu Tryz.prog (Instr.sliceAt 42 (.pointer (some ((⟨k3, 0, none⟩ : Addr).add 3))) none none none) (.slice p29 l29 c29) ∧
          callF Tryz.prog 167 #[.slice p29 l29 c29, .slice p1 l1 c1, .slice p2 l2 c2] w2 fun r32 w5 =>
          ∃ (p32 : Option Addr) (l32 : Nat) (c32 : Nat) (n32 : Int), r32 = .tuple #[.slice p32 l32 c32, .int .i64 n32] ∧
          Q (.tuple #[.slice p32 l32 c32, .int .i64 n32]) w5)
        (∃ (a36 : Addr), IxA Tryz.prog 132 (.slice p2 l2 c2) (.int .i64 0) a36 ∧
          ∃ (n37 : Int), Ld Tryz.prog 3 (.pointer (some a36)) w2 (.int .i64 n37) ∧
          cond (n37 == 1)
          (∃ (p40 : Option Addr) (l40 : Nat) (c40 : Nat), Pu Tryz.prog (Instr.sliceAt 42 (.pointer (some ((⟨k3, 0, none⟩ : Addr).add 3))) none none none) (.slice p40 l40 c40) ∧
            callF Tryz.prog 55 #[.slice p40 l40 c40, .slice p1 l1 c1] w2 fun r42 w6 =>
            ∃ (p42 : Option Addr) (l42 : Nat) (c42 : Nat), r42 = .slice p42 l42 c42 ∧
            Q (.tuple #[.slice p42 l42 c42, .int .i64 0]) w6)
          (∃ (p44 : Option Addr) (l44 : Nat) (c44 : Nat), Pu Tryz.prog (Instr.sliceAt 42 (.pointer (some ((⟨k3, 0, none⟩ : Addr).add 3))) none none none) (.slice p44 l44 c44) ∧
            callF Tryz.prog 168 #[.slice p44 l44 c44, .slice p1 l1 c1] w2 fun r46 w7 =>
            ∃ (p46 : Option Addr) (l46 : Nat) (c46 : Nat), r46 = .slice p46 l46 c46 ∧
            Q (.tuple #[.slice p46 l46 c46, .int .i64 0]) w7)))))
def ref16_turn_tt : Nat → List (Nat × TypeId) := fun _ => []
theorem ref16_turn_call (cs0 : Array Value) (p1 : Option Addr) (l1 : Nat) (c1 : Nat) (p2 : Option Addr) (l2 : Nat) (c2 : Nat) (w : World) (Q : Value → World → Prop) (h : ref16_turn cs0 p1 l1 c1 p2 l2 c2 w Q) : callF Tryz.prog 154 #[.agg cs0, .slice p1 l1 c1, .slice p2 l2 c2] w Q :=
  callF_of (fun _ _ => by kernel_rfl) (callK_of_sw ref16_turn_tt Tryz.func154 rfl (by kernel_rfl) (show sw Tryz.prog none 47 ref16_turn_tt _ 0 (endK Tryz.prog [.tmp 6, .tmp 7] Q) ⟨regs [.agg cs0, .slice p1 l1 c1, .slice p2 l2 c2], []⟩ w from
    Eq.mp (by kernel_rfl : ref16_turn cs0 p1 l1 c1 p2 l2 c2 w Q = sw Tryz.prog none 47 ref16_turn_tt (Tryz.f154.body.getD .skip) 0 (endK Tryz.prog [.tmp 6, .tmp 7] Q) ⟨regs [.agg cs0, .slice p1 l1 c1, .slice p2 l2 c2], []⟩ w) h))
end Go.Sh
end
