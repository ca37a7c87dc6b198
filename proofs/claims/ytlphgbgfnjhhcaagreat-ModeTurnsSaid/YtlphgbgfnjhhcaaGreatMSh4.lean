/- A part of a proof of a given law of this program: lemmas, printed forms of its functions, contracts. It has no conditions of its own. -/
import Derived.Test.YtlphgbgfnjhhcaaGreatProg
import Derived.Test.YtlphgbgfnjhhcaaGreatMFw

section
namespace Go.Sh
open Go Go.Fw Go.Proofs
set_option maxRecDepth 100000
set_option linter.unusedVariables false

def scan_Read (p0 : Option Addr) (l0 : Nat) (c0 : Nat) (w : World) (Q : Value → World → Prop) : Prop :=
  New #[.int .i64 0, .slice p0 l0 c0] 79 w fun k5 w1 =>
  Q (.pointer (some (⟨k5, 0, none⟩ : Addr))) w1
def scan_Read_tt : Nat → List (Nat × TypeId) := fun _ => []
theorem scan_Read_call (p0 : Option Addr) (l0 : Nat) (c0 : Nat) (w : World) (Q : Value → World → Prop) (h : scan_Read p0 l0 c0 w Q) : callF Tryz.prog 37 #[.slice p0 l0 c0] w Q :=
  callF_of (fun _ _ => by kernel_rfl) (callK_of_sw scan_Read_tt Tryz.func37 rfl (by kernel_rfl) (show sw Tryz.prog none 6 scan_Read_tt _ 0 (endK Tryz.prog [.tmp 2] Q) ⟨regs [.slice p0 l0 c0], []⟩ w from
    Eq.mp (by kernel_rfl : scan_Read p0 l0 c0 w Q = sw Tryz.prog none 6 scan_Read_tt (Tryz.f37.body.getD .skip) 0 (endK Tryz.prog [.tmp 2] Q) ⟨regs [.slice p0 l0 c0], []⟩ w) h))

def scan_Reader_Num (p0 : Option Addr) (n1 : Int) (w : World) (Q : Value → World → Prop) : Prop :=
  Drw w fun w1 =>
  ∃ (a8 : Addr), p0 = some a8 ∧
  callF Tryz.prog 51 #[.pointer p0, .int .i64 n1, .int .i64 8] w1 fun r12 w2 =>
  ∃ (n12 : Int), r12 = .int .i64 n12 ∧
  callF Tryz.prog 50 #[.pointer (some (a8.add 0)), .int .i64 n12] w2 fun r13 w3 =>
  ∃ (b13 : Bool), r13 = .bool b13 ∧
  cond b13
  (Q (.int .u64 0) w3)
  (callF Tryz.prog 53 #[.pointer p0, .int .i64 n1] w3 fun r17 w4 =>
    ∃ (p17 : Option Addr) (l17 : Nat) (c17 : Nat), r17 = .slice p17 l17 c17 ∧
    callF Tryz.prog 52 #[.slice p17 l17 c17] w4 fun r18 w5 =>
    ∃ (n18 : Int) (n18_1 : Int), r18 = .tuple #[.int .u64 n18, .int .i64 n18_1] ∧
    Q (.int .u64 n18) w5)
def scan_Reader_Num_tt : Nat → List (Nat × TypeId) := fun _ => []
theorem scan_Reader_Num_call (p0 : Option Addr) (n1 : Int) (w : World) (Q : Value → World → Prop) (h : scan_Reader_Num p0 n1 w Q) : callF Tryz.prog 38 #[.pointer p0, .int .i64 n1] w Q :=
  callF_of (fun _ _ => by kernel_rfl) (callK_of_sw scan_Reader_Num_tt Tryz.func38 rfl (by kernel_rfl) (show sw Tryz.prog none 22 scan_Reader_Num_tt _ 0 (endK Tryz.prog [.tmp 4] Q) ⟨regs [.pointer p0, .int .i64 n1], []⟩ w from
    Eq.mp (by kernel_rfl : scan_Reader_Num p0 n1 w Q = sw Tryz.prog none 22 scan_Reader_Num_tt (Tryz.f38.body.getD .skip) 0 (endK Tryz.prog [.tmp 4] Q) ⟨regs [.pointer p0, .int .i64 n1], []⟩ w) h))

def scan_Reader_Bytes (p0 : Option Addr) (n1 : Int) (w : World) (Q : Value → World → Prop) : Prop :=
  Drw w fun w1 =>
  ∃ (a6 : Addr), p0 = some a6 ∧
  ∃ (n11 : Int), Pu Tryz.prog (Builtin.max_ #[3, 3] 3 #[.int .i64 n1, .int .i64 0]) (.int .i64 n11) ∧
  callF Tryz.prog 51 #[.pointer p0, .int .i64 n1, .int .i64 n11] w1 fun r12 w2 =>
  ∃ (n12 : Int), r12 = .int .i64 n12 ∧
  callF Tryz.prog 50 #[.pointer (some (a6.add 0)), .int .i64 n12] w2 fun r13 w3 =>
  ∃ (b13 : Bool), r13 = .bool b13 ∧
  cond b13
  (Q (.slice none 0 0) w3)
  (callF Tryz.prog 53 #[.pointer p0, .int .i64 n1] w3 fun r16 w4 =>
    ∃ (p16 : Option Addr) (l16 : Nat) (c16 : Nat), r16 = .slice p16 l16 c16 ∧
    Q (.slice p16 l16 c16) w4)
def scan_Reader_Bytes_tt : Nat → List (Nat × TypeId) := fun _ => []
theorem scan_Reader_Bytes_call (p0 : Option Addr) (n1 : Int) (w : World) (Q : Value → World → Prop) (h : scan_Reader_Bytes p0 n1 w Q) : callF Tryz.prog 39 #[.pointer p0, .int .i64 n1] w Q :=
  callF_of (fun _ _ => by kernel_rfl) (callK_of_sw scan_Reader_Bytes_tt Tryz.func39 rfl (by kernel_rfl) (show sw Tryz.prog none 17 scan_Reader_Bytes_tt _ 0 (endK Tryz.prog [.tmp 4] Q) ⟨regs [.pointer p0, .int .i64 n1], []⟩ w from
    Eq.mp (by kernel_rfl : scan_Reader_Bytes p0 n1 w Q = sw Tryz.prog none 17 scan_Reader_Bytes_tt (Tryz.f39.body.getD .skip) 0 (endK Tryz.prog [.tmp 4] Q) ⟨regs [.pointer p0, .int .i64 n1], []⟩ w) h))

def scan_Reader_End_j1 (p0 : Option Addr) (n2 : Int) (w : World) (Q : Value → World → Prop) : Prop :=
  ∃ (a14 : Addr), p0 = some a14 ∧
  ∃ (n17 : Int), Ld Tryz.prog 28 (.pointer (some ((a14.add 0).add 0))) w (.int .i64 n17) ∧
  Q (.int .i64 n17) w
def scan_Reader_End (p0 : Option Addr) (w : World) (Q : Value → World → Prop) : Prop :=
  ∃ (a4 : Addr), p0 = some a4 ∧
  ∃ (p6 : Option Addr) (l6 : Nat) (c6 : Nat), Ld Tryz.prog 25 (.pointer (some (a4.add 1))) w (.slice p6 l6 c6) ∧
  cond (decide (((l6 : Nat) : Int) > 0))
  (∃ (a10 : Addr), p0 = some a10 ∧
    callF Tryz.prog 50 #[.pointer (some (a10.add 0)), .int .i64 10] w fun r12 w1 =>
    ∃ (b12 : Bool), r12 = .bool b12 ∧
    scan_Reader_End_j1 p0 0 w1 Q)
  (scan_Reader_End_j1 p0 0 w Q)
def scan_Reader_End_tt : Nat → List (Nat × TypeId) := fun _ => []
theorem scan_Reader_End_call (p0 : Option Addr) (w : World) (Q : Value → World → Prop) (h : scan_Reader_End p0 w Q) : callF Tryz.prog 40 #[.pointer p0] w Q :=
  callF_of (fun _ _ => by kernel_rfl) (callK_of_sw scan_Reader_End_tt Tryz.func40 rfl (by kernel_rfl) (show sw Tryz.prog none 18 scan_Reader_End_tt _ 0 (endK Tryz.prog [.tmp 2] Q) ⟨regs [.pointer p0], []⟩ w from
    Eq.mp (by kernel_rfl : scan_Reader_End p0 w Q = sw Tryz.prog none 18 scan_Reader_End_tt (Tryz.f40.body.getD .skip) 0 (endK Tryz.prog [.tmp 2] Q) ⟨regs [.pointer p0], []⟩ w) h))

def scan_fault_fail_j1 (p0 : Option Addr) (b4 : Bool) (w : World) (Q : Value → World → Prop) : Prop :=
  ∃ (a15 : Addr), p0 = some a15 ∧
  ∃ (n17 : Int), Ld Tryz.prog 28 (.pointer (some (a15.add 0))) w (.int .i64 n17) ∧
  Q (.bool (n17 != 0)) w
def scan_fault_fail (p0 : Option Addr) (n1 : Int) (w : World) (Q : Value → World → Prop) : Prop :=
  ∃ (a6 : Addr), p0 = some a6 ∧
  ∃ (n8 : Int), Ld Tryz.prog 28 (.pointer (some (a6.add 0))) w (.int .i64 n8) ∧
  cond (n8 == 0)
  (∃ (a12 : Addr), p0 = some a12 ∧
    ∃ (w1 : World), Sto Tryz.prog 28 (.pointer (some (a12.add 0))) (.int .i64 n1) w w1 ∧
    scan_fault_fail_j1 p0 false w1 Q)
  (scan_fault_fail_j1 p0 false w Q)
def scan_fault_fail_tt : Nat → List (Nat × TypeId) := fun _ => []
theorem scan_fault_fail_call (p0 : Option Addr) (n1 : Int) (w : World) (Q : Value → World → Prop) (h : scan_fault_fail p0 n1 w Q) : callF Tryz.prog 50 #[.pointer p0, .int .i64 n1] w Q :=
  callF_of (fun _ _ => by kernel_rfl) (callK_of_sw scan_fault_fail_tt Tryz.func50 rfl (by kernel_rfl) (show sw Tryz.prog none 19 scan_fault_fail_tt _ 0 (endK Tryz.prog [.tmp 4] Q) ⟨regs [.pointer p0, .int .i64 n1], []⟩ w from
    Eq.mp (by kernel_rfl : scan_fault_fail p0 n1 w Q = sw Tryz.prog none 19 scan_fault_fail_tt (Tryz.f50.body.getD .skip) 0 (endK Tryz.prog [.tmp 4] Q) ⟨regs [.pointer p0, .int .i64 n1], []⟩ w) h))

def scan_Reader_check_j1 (p0 : Option Addr) (n1 : Int) (n6 : Int) (b7 : Bool) (w : World) (Q : Value → World → Prop) : Prop :=
  cond b7
  (Q (.int .i64 11) w)
  (∃ (a18 : Addr), p0 = some a18 ∧
    ∃ (p20 : Option Addr) (l20 : Nat) (c20 : Nat), Ld Tryz.prog 25 (.pointer (some (a18.add 1))) w (.slice p20 l20 c20) ∧
    cond (decide (n1 > ((l20 : Nat) : Int)))
    (Q (.int .i64 12) w)
    (Q (.int .i64 0) w))
def scan_Reader_check (p0 : Option Addr) (n1 : Int) (n2 : Int) (w : World) (Q : Value → World → Prop) : Prop :=
  cond (decide (n1 < 0))
  (scan_Reader_check_j1 p0 n1 0 true w Q)
  (scan_Reader_check_j1 p0 n1 0 (decide (n1 > n2)) w Q)
def scan_Reader_check_tt : Nat → List (Nat × TypeId) := fun _ => []
theorem scan_Reader_check_call (p0 : Option Addr) (n1 : Int) (n2 : Int) (w : World) (Q : Value → World → Prop) (h : scan_Reader_check p0 n1 n2 w Q) : callF Tryz.prog 51 #[.pointer p0, .int .i64 n1, .int .i64 n2] w Q :=
  callF_of (fun _ _ => by kernel_rfl) (callK_of_sw scan_Reader_check_tt Tryz.func51 rfl (by kernel_rfl) (show sw Tryz.prog none 23 scan_Reader_check_tt _ 0 (endK Tryz.prog [.tmp 6] Q) ⟨regs [.pointer p0, .int .i64 n1, .int .i64 n2], []⟩ w from
    Eq.mp (by kernel_rfl : scan_Reader_check p0 n1 n2 w Q = sw Tryz.prog none 23 scan_Reader_check_tt (Tryz.f51.body.getD .skip) 0 (endK Tryz.prog [.tmp 6] Q) ⟨regs [.pointer p0, .int .i64 n1, .int .i64 n2], []⟩ w) h))

def scan_Reader_cut (p0 : Option Addr) (n1 : Int) (w : World) (Q : Value → World → Prop) : Prop :=
  ∃ (a7 : Addr), p0 = some a7 ∧
  ∃ (p9 : Option Addr) (l9 : Nat) (c9 : Nat), Ld Tryz.prog 25 (.pointer (some (a7.add 1))) w (.slice p9 l9 c9) ∧
  ∃ (p11 : Option Addr) (l11 : Nat) (c11 : Nat), Pu Tryz.prog (Instr.sliceAt 25 (.slice p9 l9 c9) none (some (.int .i64 n1)) none) (.slice p11 l11 c11) ∧
  callF Tryz.prog 68 #[.slice p11 l11 c11] w fun r12 w1 =>
  ∃ (p12 : Option Addr) (l12 : Nat) (c12 : Nat), r12 = .slice p12 l12 c12 ∧
  ∃ (a15 : Addr), p0 = some a15 ∧
  ∃ (p17 : Option Addr) (l17 : Nat) (c17 : Nat), Ld Tryz.prog 25 (.pointer (some (a15.add 1))) w1 (.slice p17 l17 c17) ∧
  ∃ (p19 : Option Addr) (l19 : Nat) (c19 : Nat), Pu Tryz.prog (Instr.sliceAt 25 (.slice p17 l17 c17) (some (.int .i64 n1)) none none) (.slice p19 l19 c19) ∧
  ∃ (a20 : Addr), p0 = some a20 ∧
  ∃ (w2 : World), Sto Tryz.prog 25 (.pointer (some (a20.add 1))) (.slice p19 l19 c19) w1 w2 ∧
  Q (.slice p12 l12 c12) w2
def scan_Reader_cut_tt : Nat → List (Nat × TypeId) := fun _ => []
theorem scan_Reader_cut_call (p0 : Option Addr) (n1 : Int) (w : World) (Q : Value → World → Prop) (h : scan_Reader_cut p0 n1 w Q) : callF Tryz.prog 53 #[.pointer p0, .int .i64 n1] w Q :=
  callF_of (fun _ _ => by kernel_rfl) (callK_of_sw scan_Reader_cut_tt Tryz.func53 rfl (by kernel_rfl) (show sw Tryz.prog none 23 scan_Reader_cut_tt _ 0 (endK Tryz.prog [.tmp 4] Q) ⟨regs [.pointer p0, .int .i64 n1], []⟩ w from
    Eq.mp (by kernel_rfl : scan_Reader_cut p0 n1 w Q = sw Tryz.prog none 23 scan_Reader_cut_tt (Tryz.f53.body.getD .skip) 0 (endK Tryz.prog [.tmp 4] Q) ⟨regs [.pointer p0, .int .i64 n1], []⟩ w) h))
end Go.Sh
end

section
namespace Go.Sh
open Go Go.Fw Go.Proofs
set_option maxRecDepth 100000
set_option linter.unusedVariables false

def mode_Read_j1 (a2 : Addr) (n3 : Int) (a5 : Addr) (w : World) (Q : Value → World → Prop) : Prop :=
  ∃ (cs43 : Array Value), Ld Tryz.prog 24 (.pointer (some a5)) w (.agg cs43) ∧
  ∃ (w1 : World), Sto Tryz.prog 24 (.pointer (some a2)) (.agg cs43) w w1 ∧
  ∃ (a2_1 : Addr) (v2 : Value), (.pointer (some a2) : Value) = .pointer (some a2_1) ∧ (loadVar 24 a2_1).run Tryz.prog w1 = .ok v2 w1 ∧
  Q (.tuple #[v2, .int .i64 0]) w1
def mode_Read_j2 (a2 : Addr) (n3 : Int) (a5 : Addr) (b41 : Bool) (w : World) (Q : Value → World → Prop) : Prop :=
  cond b41
  (∃ (w1 : World), Sto Tryz.prog 24 (.pointer (some a2)) (.agg #[.int .i64 0, .int .i64 0, .int .i64 0, .int .u8 0, .int .u8 0, .int .u8 0, .int .u8 0, .int .u8 0, .int .u8 0, .int .u8 0, .int .u8 0, .int .u8 0, .int .u8 0, .int .u8 0, .int .u8 0, .int .u8 0, .int .u8 0, .int .u8 0, .int .u8 0]) w w1 ∧
    ∃ (a2_1 : Addr) (v2 : Value), (.pointer (some a2) : Value) = .pointer (some a2_1) ∧ (loadVar 24 a2_1).run Tryz.prog w1 = .ok v2 w1 ∧
    Q (.tuple #[v2, .int .i64 10]) w1)
  (mode_Read_j1 a2 n3 a5 w Q)
def mode_Read (p0 : Option Addr) (l0 : Nat) (c0 : Nat) (w : World) (Q : Value → World → Prop) : Prop :=
  ∃ (z2 : Value), Pu Tryz.prog (zeroValue 24) z2 ∧
  New z2.cells 24 w fun k2 w1 =>
  cond (decide (((l0 : Nat) : Int) < 20))
  (∃ (w2 : World), Sto Tryz.prog 24 (.pointer (some (⟨k2, 0, none⟩ : Addr))) (.agg #[.int .i64 0, .int .i64 0, .int .i64 0, .int .u8 0, .int .u8 0, .int .u8 0, .int .u8 0, .int .u8 0, .int .u8 0, .int .u8 0, .int .u8 0, .int .u8 0, .int .u8 0, .int .u8 0, .int .u8 0, .int .u8 0, .int .u8 0, .int .u8 0, .int .u8 0]) w1 w2 ∧
    ∃ (a2 : Addr) (v2 : Value), (.pointer (some (⟨k2, 0, none⟩ : Addr)) : Value) = .pointer (some a2) ∧ (loadVar 24 a2).run Tryz.prog w2 = .ok v2 w2 ∧
    Q (.tuple #[v2, .int .i64 12]) w2)
  (callF Tryz.prog 37 #[.slice p0 l0 c0] w1 fun r12 w3 =>
    ∃ (p12 : Option Addr), r12 = .pointer p12 ∧
    callF Tryz.prog 38 #[.pointer p12, .int .i64 1] w3 fun r14 w4 =>
    ∃ (n14 : Int), r14 = .int .u64 n14 ∧
    callF Tryz.prog 38 #[.pointer p12, .int .i64 1] w4 fun r17 w5 =>
    ∃ (n17 : Int), r17 = .int .u64 n17 ∧
    callF Tryz.prog 38 #[.pointer p12, .int .i64 1] w5 fun r20 w6 =>
    ∃ (n20 : Int), r20 = .int .u64 n20 ∧
    ∃ (z5 : Value), Pu Tryz.prog (zeroValue 24) z5 ∧
    New z5.cells 24 w6 fun k5 w7 =>
    ∃ (w8 : World), Sto Tryz.prog 24 (.pointer (some (⟨k5, 0, none⟩ : Addr))) (.agg #[.int .i64 (IntKind.i64.wrap n14), .int .i64 (IntKind.i64.wrap n17), .int .i64 (IntKind.i64.wrap n20), .int .u8 0, .int .u8 0, .int .u8 0, .int .u8 0, .int .u8 0, .int .u8 0, .int .u8 0, .int .u8 0, .int .u8 0, .int .u8 0, .int .u8 0, .int .u8 0, .int .u8 0, .int .u8 0, .int .u8 0, .int .u8 0]) w7 w8 ∧
    callF Tryz.prog 38 #[.pointer p12, .int .i64 1] w8 fun r24 w9 =>
    ∃ (n24 : Int), r24 = .int .u64 n24 ∧
    Drw w9 fun w10 =>
    ∃ (p26 : Option Addr) (l26 : Nat) (c26 : Nat), Pu Tryz.prog (Instr.sliceAt 22 (.pointer (some ((⟨k5, 0, none⟩ : Addr).add 3))) none none none) (.slice p26 l26 c26) ∧
    callF Tryz.prog 39 #[.pointer p12, .int .i64 16] w10 fun r28 w11 =>
    ∃ (p28 : Option Addr) (l28 : Nat) (c28 : Nat), r28 = .slice p28 l28 c28 ∧
    ∃ (n29 : Int) (w12 : World), Ef Tryz.prog (Builtin.copy_ #[25, 25] 3 #[.slice p26 l26 c26, .slice p28 l28 c28]) w11 (.int .i64 n29) w12 ∧
    callF Tryz.prog 40 #[.pointer p12] w12 fun r31 w13 =>
    ∃ (n31 : Int), r31 = .int .i64 n31 ∧
    cond (n31 != 0)
    (mode_Read_j2 (⟨k2, 0, none⟩ : Addr) 0 (⟨k5, 0, none⟩ : Addr) true w13 Q)
    (cond (n24 != 0)
      (mode_Read_j2 (⟨k2, 0, none⟩ : Addr) 0 (⟨k5, 0, none⟩ : Addr) true w13 Q)
      (∃ (cs38 : Array Value), Ld Tryz.prog 24 (.pointer (some (⟨k5, 0, none⟩ : Addr))) w13 (.agg cs38) ∧
        callF Tryz.prog 25 #[.agg cs38] w13 fun r39 w14 =>
        ∃ (b39 : Bool), r39 = .bool b39 ∧
        mode_Read_j2 (⟨k2, 0, none⟩ : Addr) 0 (⟨k5, 0, none⟩ : Addr) (!b39) w14 Q)))
def mode_Read_tt : Nat → List (Nat × TypeId) := fun _ => []
theorem mode_Read_call (p0 : Option Addr) (l0 : Nat) (c0 : Nat) (w : World) (Q : Value → World → Prop) (h : mode_Read p0 l0 c0 w Q) : callF Tryz.prog 23 #[.slice p0 l0 c0] w Q :=
  callF_of (fun _ _ => by kernel_rfl) (callK_of_sw mode_Read_tt Tryz.func23 rfl (by kernel_rfl) (show sw Tryz.prog none 44 mode_Read_tt _ 0 (endK Tryz.prog [.cell 2 24, .tmp 3] Q) ⟨regs [.slice p0 l0 c0], []⟩ w from
    Eq.mp (by kernel_rfl : mode_Read p0 l0 c0 w Q = sw Tryz.prog none 44 mode_Read_tt (Tryz.f23.body.getD .skip) 0 (endK Tryz.prog [.cell 2 24, .tmp 3] Q) ⟨regs [.slice p0 l0 c0], []⟩ w) h))

def mode_Config_Right_j1 (a1 : Addr) (b2 : Bool) (w : World) (Q : Value → World → Prop) : Prop :=
  ∃ (n25 : Int), Ld Tryz.prog 3 (.pointer (some (a1.add 0))) w (.int .i64 n25) ∧
  cond (n25 == 0)
  (∃ (cs29 : Array Value), Ld Tryz.prog 22 (.pointer (some (a1.add 3))) w (.agg cs29) ∧
    ∃ (b31 : Bool) (w1 : World), Ef Tryz.prog (do eqGuard .eql 22 (.tmp 29) (.tmp 30) (.agg cs29) (.agg #[.int .u8 0, .int .u8 0, .int .u8 0, .int .u8 0, .int .u8 0, .int .u8 0, .int .u8 0, .int .u8 0, .int .u8 0, .int .u8 0, .int .u8 0, .int .u8 0, .int .u8 0, .int .u8 0, .int .u8 0, .int .u8 0]); binOp .eql 22 (.agg cs29) (.agg #[.int .u8 0, .int .u8 0, .int .u8 0, .int .u8 0, .int .u8 0, .int .u8 0, .int .u8 0, .int .u8 0, .int .u8 0, .int .u8 0, .int .u8 0, .int .u8 0, .int .u8 0, .int .u8 0, .int .u8 0, .int .u8 0]) : Sem Value) w (.bool b31) w1 ∧
    Q (.bool b31) w1)
  (cond (n25 == 1)
    (∃ (cs34 : Array Value), Ld Tryz.prog 24 (.pointer (some a1)) w (.agg cs34) ∧
      callF Tryz.prog 42 #[.agg cs34] w fun r35 w2 =>
      ∃ (n35 : Int), r35 = .int .i64 n35 ∧
      Q (.bool (n35 == 16)) w2)
    (Q (.bool true) w))
def mode_Config_Right (cs0 : Array Value) (w : World) (Q : Value → World → Prop) : Prop :=
  New cs0 24 w fun k1 w1 =>
  ∃ (n4 : Int), Ld Tryz.prog 3 (.pointer (some ((⟨k1, 0, none⟩ : Addr).add 0))) w1 (.int .i64 n4) ∧
  callF Tryz.prog 41 #[.int .i64 n4, .int .i64 0, .int .i64 2] w1 fun r5 w2 =>
  ∃ (b5 : Bool), r5 = .bool b5 ∧
  cond (!b5)
  (Q (.bool false) w2)
  (∃ (n9 : Int), Ld Tryz.prog 3 (.pointer (some ((⟨k1, 0, none⟩ : Addr).add 1))) w2 (.int .i64 n9) ∧
    callF Tryz.prog 41 #[.int .i64 n9, .int .i64 1, .int .i64 15] w2 fun r10 w3 =>
    ∃ (b10 : Bool), r10 = .bool b10 ∧
    cond (!b10)
    (Q (.bool false) w3)
    (∃ (n15 : Int), Ld Tryz.prog 3 (.pointer (some ((⟨k1, 0, none⟩ : Addr).add 2))) w3 (.int .i64 n15) ∧
      callF Tryz.prog 41 #[.int .i64 n15, .int .i64 4, .int .i64 18] w3 fun r16 w4 =>
      ∃ (b16 : Bool), r16 = .bool b16 ∧
      cond (!b16)
      (Q (.bool false) w4)
      (∃ (cs20 : Array Value), Ld Tryz.prog 24 (.pointer (some (⟨k1, 0, none⟩ : Addr))) w4 (.agg cs20) ∧
        callF Tryz.prog 42 #[.agg cs20] w4 fun r21 w5 =>
        ∃ (n21 : Int), r21 = .int .i64 n21 ∧
        cond (decide (n21 > 19))
        (Q (.bool false) w5)
        (mode_Config_Right_j1 (⟨k1, 0, none⟩ : Addr) false w5 Q))))
def mode_Config_Right_tt : Nat → List (Nat × TypeId) := fun _ => []
theorem mode_Config_Right_call (cs0 : Array Value) (w : World) (Q : Value → World → Prop) (h : mode_Config_Right cs0 w Q) : callF Tryz.prog 25 #[.agg cs0] w Q :=
  callF_of (fun _ _ => by kernel_rfl) (callK_of_sw mode_Config_Right_tt Tryz.func25 rfl (by kernel_rfl) (show sw Tryz.prog none 37 mode_Config_Right_tt _ 0 (endK Tryz.prog [.tmp 2] Q) ⟨regs [.agg cs0], []⟩ w from
    Eq.mp (by kernel_rfl : mode_Config_Right cs0 w Q = sw Tryz.prog none 37 mode_Config_Right_tt (Tryz.f25.body.getD .skip) 0 (endK Tryz.prog [.tmp 2] Q) ⟨regs [.agg cs0], []⟩ w) h))

def mode_Config_Size (cs0 : Array Value) (w : World) (Q : Value → World → Prop) : Prop :=
  New cs0 24 w fun k1 w1 =>
  ∃ (cs3 : Array Value), Ld Tryz.prog 24 (.pointer (some (⟨k1, 0, none⟩ : Addr))) w1 (.agg cs3) ∧
  callF Tryz.prog 25 #[.agg cs3] w1 fun r4 w2 =>
  ∃ (b4 : Bool), r4 = .bool b4 ∧
  cond (!b4)
  (Q (.int .i64 0) w2)
  (∃ (cs6 : Array Value), Ld Tryz.prog 24 (.pointer (some (⟨k1, 0, none⟩ : Addr))) w2 (.agg cs6) ∧
    callF Tryz.prog 42 #[.agg cs6] w2 fun r7 w3 =>
    ∃ (n7 : Int), r7 = .int .i64 n7 ∧
    Q (.int .i64 (IntKind.i64.wrap (1 + n7))) w3)
def mode_Config_Size_tt : Nat → List (Nat × TypeId) := fun _ => []
theorem mode_Config_Size_call (cs0 : Array Value) (w : World) (Q : Value → World → Prop) (h : mode_Config_Size cs0 w Q) : callF Tryz.prog 27 #[.agg cs0] w Q :=
  callF_of (fun _ _ => by kernel_rfl) (callK_of_sw mode_Config_Size_tt Tryz.func27 rfl (by kernel_rfl) (show sw Tryz.prog none 9 mode_Config_Size_tt _ 0 (endK Tryz.prog [.tmp 2] Q) ⟨regs [.agg cs0], []⟩ w from
    Eq.mp (by kernel_rfl : mode_Config_Size cs0 w Q = sw Tryz.prog none 9 mode_Config_Size_tt (Tryz.f27.body.getD .skip) 0 (endK Tryz.prog [.tmp 2] Q) ⟨regs [.agg cs0], []⟩ w) h))

def mode_Config_Bytes (cs0 : Array Value) (w : World) (Q : Value → World → Prop) : Prop :=
  New cs0 24 w fun k1 w1 =>
  ∃ (cs3 : Array Value), Ld Tryz.prog 24 (.pointer (some (⟨k1, 0, none⟩ : Addr))) w1 (.agg cs3) ∧
  callF Tryz.prog 25 #[.agg cs3] w1 fun r4 w2 =>
  ∃ (b4 : Bool), r4 = .bool b4 ∧
  cond (!b4)
  (Q (.slice none 0 0) w2)
  (∃ (S3 : World → Prop),
    Drw w2 fun w3 =>
    ∃ (p17 : Option Addr) (l17 : Nat) (c17 : Nat), Pu Tryz.prog (Instr.sliceAt 22 (.pointer (some ((⟨k1, 0, none⟩ : Addr).add 3))) none none none) (.slice p17 l17 c17) ∧
    ∃ (n7 : Int), HLd Tryz.prog S3 3 (.pointer (some ((⟨k1, 0, none⟩ : Addr).add 0))) w3 (.int .i64 n7) ∧
    ∃ (n10 : Int), HLd Tryz.prog S3 3 (.pointer (some ((⟨k1, 0, none⟩ : Addr).add 1))) w3 (.int .i64 n10) ∧
    ∃ (n13 : Int), Ld Tryz.prog 3 (.pointer (some ((⟨k1, 0, none⟩ : Addr).add 2))) w3 (.int .i64 n13) ∧
    (w3 = w3 ∨ S3 w3) ∧
    ∃ (p15 : Option Addr) (l15 : Nat) (c15 : Nat) (w4 : World), Ef Tryz.prog (Instr.buildSlice 25 4 #[(0, .int .u8 (IntKind.u8.wrap n7)), (1, .int .u8 (IntKind.u8.wrap n10)), (2, .int .u8 (IntKind.u8.wrap n13)), (3, .int .u8 0)]) w3 (.slice p15 l15 c15) w4 ∧
    ∃ (p18 : Option Addr) (l18 : Nat) (c18 : Nat) (w5 : World), Ef Tryz.prog (Instr.buildSlice 75 2 #[(0, .slice p15 l15 c15), (1, .slice p17 l17 c17)]) w4 (.slice p18 l18 c18) w5 ∧
    callF Tryz.prog 35 #[.slice p18 l18 c18] w5 fun r19 w6 =>
    ∃ (p19 : Option Addr) (l19 : Nat) (c19 : Nat), r19 = .slice p19 l19 c19 ∧
    Q (.slice p19 l19 c19) w6)
def mode_Config_Bytes_tt : Nat → List (Nat × TypeId) := fun _ => []
theorem mode_Config_Bytes_call (cs0 : Array Value) (w : World) (Q : Value → World → Prop) (h : mode_Config_Bytes cs0 w Q) : callF Tryz.prog 29 #[.agg cs0] w Q :=
  callF_of (fun _ _ => by kernel_rfl) (callK_of_sw mode_Config_Bytes_tt Tryz.func29 rfl (by kernel_rfl) (show sw Tryz.prog none 20 mode_Config_Bytes_tt _ 0 (endK Tryz.prog [.tmp 2] Q) ⟨regs [.agg cs0], []⟩ w from
    Eq.mp (by kernel_rfl : mode_Config_Bytes cs0 w Q = sw Tryz.prog none 20 mode_Config_Bytes_tt (Tryz.f29.body.getD .skip) 0 (endK Tryz.prog [.tmp 2] Q) ⟨regs [.agg cs0], []⟩ w) h))

def mode_Config_Turn (cs0 : Array Value) (p1 : Option Addr) (l1 : Nat) (c1 : Nat) (w : World) (Q : Value → World → Prop) : Prop :=
  New cs0 24 w fun k2 w1 =>
  ∃ (cs6 : Array Value), Ld Tryz.prog 24 (.pointer (some (⟨k2, 0, none⟩ : Addr))) w1 (.agg cs6) ∧
  callF Tryz.prog 43 #[.agg cs6, .agg #[.func (.func 44) #[] #[], .func (.func 45) #[] #[]], .slice p1 l1 c1] w1 fun r9 w2 =>
  ∃ (p9 : Option Addr) (l9 : Nat) (c9 : Nat) (n9 : Int), r9 = .tuple #[.slice p9 l9 c9, .int .i64 n9] ∧
  Q (.tuple #[.slice p9 l9 c9, .int .i64 n9]) w2
def mode_Config_Turn_tt : Nat → List (Nat × TypeId) := fun _ => []
theorem mode_Config_Turn_call (cs0 : Array Value) (p1 : Option Addr) (l1 : Nat) (c1 : Nat) (w : World) (Q : Value → World → Prop) (h : mode_Config_Turn cs0 p1 l1 c1 w Q) : callF Tryz.prog 31 #[.agg cs0, .slice p1 l1 c1] w Q :=
  callF_of (fun _ _ => by kernel_rfl) (callK_of_sw mode_Config_Turn_tt Tryz.func31 rfl (by kernel_rfl) (show sw Tryz.prog none 12 mode_Config_Turn_tt _ 0 (endK Tryz.prog [.tmp 4, .tmp 5] Q) ⟨regs [.agg cs0, .slice p1 l1 c1], []⟩ w from
    Eq.mp (by kernel_rfl : mode_Config_Turn cs0 p1 l1 c1 w Q = sw Tryz.prog none 12 mode_Config_Turn_tt (Tryz.f31.body.getD .skip) 0 (endK Tryz.prog [.tmp 4, .tmp 5] Q) ⟨regs [.agg cs0, .slice p1 l1 c1], []⟩ w) h))

def mode_Config_Back (cs0 : Array Value) (p1 : Option Addr) (l1 : Nat) (c1 : Nat) (w : World) (Q : Value → World → Prop) : Prop :=
  New cs0 24 w fun k2 w1 =>
  ∃ (cs6 : Array Value), Ld Tryz.prog 24 (.pointer (some (⟨k2, 0, none⟩ : Addr))) w1 (.agg cs6) ∧
  callF Tryz.prog 43 #[.agg cs6, .agg #[.func (.func 47) #[] #[], .func (.func 48) #[] #[]], .slice p1 l1 c1] w1 fun r9 w2 =>
  ∃ (p9 : Option Addr) (l9 : Nat) (c9 : Nat) (n9 : Int), r9 = .tuple #[.slice p9 l9 c9, .int .i64 n9] ∧
  Q (.tuple #[.slice p9 l9 c9, .int .i64 n9]) w2
def mode_Config_Back_tt : Nat → List (Nat × TypeId) := fun _ => []
theorem mode_Config_Back_call (cs0 : Array Value) (p1 : Option Addr) (l1 : Nat) (c1 : Nat) (w : World) (Q : Value → World → Prop) (h : mode_Config_Back cs0 p1 l1 c1 w Q) : callF Tryz.prog 33 #[.agg cs0, .slice p1 l1 c1] w Q :=
  callF_of (fun _ _ => by kernel_rfl) (callK_of_sw mode_Config_Back_tt Tryz.func33 rfl (by kernel_rfl) (show sw Tryz.prog none 12 mode_Config_Back_tt _ 0 (endK Tryz.prog [.tmp 4, .tmp 5] Q) ⟨regs [.agg cs0, .slice p1 l1 c1], []⟩ w from
    Eq.mp (by kernel_rfl : mode_Config_Back cs0 p1 l1 c1 w Q = sw Tryz.prog none 12 mode_Config_Back_tt (Tryz.f33.body.getD .skip) 0 (endK Tryz.prog [.tmp 4, .tmp 5] Q) ⟨regs [.agg cs0, .slice p1 l1 c1], []⟩ w) h))

def mode_within (n0 : Int) (n1 : Int) (n2 : Int) (w : World) (Q : Value → World → Prop) : Prop :=
  cond (decide (n0 ≥ n1))
  (Q (.bool (decide (n0 ≤ n2))) w)
  (Q (.bool false) w)
def mode_within_tt : Nat → List (Nat × TypeId) := fun _ => []
theorem mode_within_call (n0 : Int) (n1 : Int) (n2 : Int) (w : World) (Q : Value → World → Prop) (h : mode_within n0 n1 n2 w Q) : callF Tryz.prog 41 #[.int .i64 n0, .int .i64 n1, .int .i64 n2] w Q :=
  callF_of (fun _ _ => by kernel_rfl) (callK_of_sw mode_within_tt Tryz.func41 rfl (by kernel_rfl) (show sw Tryz.prog none 15 mode_within_tt _ 0 (endK Tryz.prog [.tmp 6] Q) ⟨regs [.int .i64 n0, .int .i64 n1, .int .i64 n2], []⟩ w from
    Eq.mp (by kernel_rfl : mode_within n0 n1 n2 w Q = sw Tryz.prog none 15 mode_within_tt (Tryz.f41.body.getD .skip) 0 (endK Tryz.prog [.tmp 6] Q) ⟨regs [.int .i64 n0, .int .i64 n1, .int .i64 n2], []⟩ w) h))

def mode_Config_both (cs0 : Array Value) (w : World) (Q : Value → World → Prop) : Prop :=
  New cs0 24 w fun k1 w1 =>
  ∃ (n4 : Int), Ld Tryz.prog 3 (.pointer (some ((⟨k1, 0, none⟩ : Addr).add 1))) w1 (.int .i64 n4) ∧
  ∃ (n6 : Int), Ld Tryz.prog 3 (.pointer (some ((⟨k1, 0, none⟩ : Addr).add 2))) w1 (.int .i64 n6) ∧
  Q (.int .i64 (IntKind.i64.wrap (n4 + n6))) w1
def mode_Config_both_tt : Nat → List (Nat × TypeId) := fun _ => []
theorem mode_Config_both_call (cs0 : Array Value) (w : World) (Q : Value → World → Prop) (h : mode_Config_both cs0 w Q) : callF Tryz.prog 42 #[.agg cs0] w Q :=
  callF_of (fun _ _ => by kernel_rfl) (callK_of_sw mode_Config_both_tt Tryz.func42 rfl (by kernel_rfl) (show sw Tryz.prog none 8 mode_Config_both_tt _ 0 (endK Tryz.prog [.tmp 2] Q) ⟨regs [.agg cs0], []⟩ w from
    Eq.mp (by kernel_rfl : mode_Config_both cs0 w Q = sw Tryz.prog none 8 mode_Config_both_tt (Tryz.f42.body.getD .skip) 0 (endK Tryz.prog [.tmp 2] Q) ⟨regs [.agg cs0], []⟩ w) h))

def mode_Config_by_j1 (p2 : Option Addr) (l2 : Nat) (c2 : Nat) (a3 : Addr) (a4 : Addr) (p6 : Option Addr) (l6 : Nat) (c6 : Nat) (n7 : Int) (w : World) (Q : Value → World → Prop) : Prop :=
  ∃ (p29 : Option Addr) (l29 : Nat) (c29 : Nat), Pu Tryz.prog (Instr.sliceAt 22 (.pointer (some (a3.add 3))) none none none) (.slice p29 l29 c29) ∧
  callF Tryz.prog 54 #[.slice p29 l29 c29] w fun r30 w1 =>
  ∃ (p30 : Option Addr) (n30 : Int), r30 = .tuple #[.pointer p30, .int .i64 n30] ∧
  ∃ (n34 : Int), Ld Tryz.prog 3 (.pointer (some (a3.add 0))) w1 (.int .i64 n34) ∧
  cond (n34 == 1)
  (∃ (v37 : Value), Ld Tryz.prog 69 (.pointer (some (a4.add 0))) w1 (v37) ∧
    callV Tryz.prog (v37) [.pointer p30, .slice p2 l2 c2] w1 fun r40 w2 =>
    ∃ (p40 : Option Addr) (l40 : Nat) (c40 : Nat) (n40 : Int), r40 = .tuple #[.slice p40 l40 c40, .int .i64 n40] ∧
    Q (.tuple #[.slice p40 l40 c40, .int .i64 n40]) w2)
  (∃ (v44 : Value), Ld Tryz.prog 69 (.pointer (some (a4.add 1))) w1 (v44) ∧
    callV Tryz.prog (v44) [.pointer p30, .slice p2 l2 c2] w1 fun r47 w3 =>
    ∃ (p47 : Option Addr) (l47 : Nat) (c47 : Nat) (n47 : Int), r47 = .tuple #[.slice p47 l47 c47, .int .i64 n47] ∧
    Q (.tuple #[.slice p47 l47 c47, .int .i64 n47]) w3)
def mode_Config_by (cs0 : Array Value) (v1 : Value) (v1_1 : Value) (p2 : Option Addr) (l2 : Nat) (c2 : Nat) (w : World) (Q : Value → World → Prop) : Prop :=
  New cs0 24 w fun k3 w1 =>
  New #[v1, v1_1] 72 w1 fun k4 w2 =>
  ∃ (cs11 : Array Value), Ld Tryz.prog 24 (.pointer (some (⟨k3, 0, none⟩ : Addr))) w2 (.agg cs11) ∧
  callF Tryz.prog 25 #[.agg cs11] w2 fun r12 w3 =>
  ∃ (b12 : Bool), r12 = .bool b12 ∧
  cond (!b12)
  (Q (.tuple #[.slice none 0 0, .int .i64 19]) w3)
  (∃ (cs17 : Array Value), Ld Tryz.prog 24 (.pointer (some (⟨k3, 0, none⟩ : Addr))) w3 (.agg cs17) ∧
    callF Tryz.prog 42 #[.agg cs17] w3 fun r18 w4 =>
    ∃ (n18 : Int), r18 = .int .i64 n18 ∧
    cond (((l2 : Nat) : Int) != n18)
    (Q (.tuple #[.slice none 0 0, .int .i64 11]) w4)
    (∃ (n22 : Int), Ld Tryz.prog 3 (.pointer (some ((⟨k3, 0, none⟩ : Addr).add 0))) w4 (.int .i64 n22) ∧
      cond (n22 == 0)
      (∃ (p25 : Option Addr) (l25 : Nat) (c25 : Nat) (w5 : World), Ef Tryz.prog (Instr.buildSlice 75 1 #[(0, .slice p2 l2 c2)]) w4 (.slice p25 l25 c25) w5 ∧
        callF Tryz.prog 35 #[.slice p25 l25 c25] w5 fun r26 w6 =>
        ∃ (p26 : Option Addr) (l26 : Nat) (c26 : Nat), r26 = .slice p26 l26 c26 ∧
        Q (.tuple #[.slice p26 l26 c26, .int .i64 0]) w6)
      (mode_Config_by_j1 p2 l2 c2 (⟨k3, 0, none⟩ : Addr) (⟨k4, 0, none⟩ : Addr) none 0 0 0 w4 Q)))
def mode_Config_by_tt : Nat → List (Nat × TypeId) := fun _ => []
theorem mode_Config_by_call (cs0 : Array Value) (v1 : Value) (v1_1 : Value) (p2 : Option Addr) (l2 : Nat) (c2 : Nat) (w : World) (Q : Value → World → Prop) (h : mode_Config_by cs0 v1 v1_1 p2 l2 c2 w Q) : callF Tryz.prog 43 #[.agg cs0, .agg #[v1, v1_1], .slice p2 l2 c2] w Q :=
  callF_of (fun _ _ => by kernel_rfl) (callK_of_sw mode_Config_by_tt Tryz.func43 rfl (by kernel_rfl) (show sw Tryz.prog none 50 mode_Config_by_tt _ 0 (endK Tryz.prog [.tmp 6, .tmp 7] Q) ⟨regs [.agg cs0, .agg #[v1, v1_1], .slice p2 l2 c2], []⟩ w from
    Eq.mp (by kernel_rfl : mode_Config_by cs0 v1 v1_1 p2 l2 c2 w Q = sw Tryz.prog none 50 mode_Config_by_tt (Tryz.f43.body.getD .skip) 0 (endK Tryz.prog [.tmp 6, .tmp 7] Q) ⟨regs [.agg cs0, .agg #[v1, v1_1], .slice p2 l2 c2], []⟩ w) h))
end Go.Sh
end

section
namespace Go.Sh
open Go Go.Fw Go.Proofs
set_option maxRecDepth 100000
set_option linter.unusedVariables false

def law16_ModeAnswers (cs0 : Array Value) (p1 : Option Addr) (l1 : Nat) (c1 : Nat) (w : World) (Q : Value → World → Prop) : Prop :=
  New cs0 24 w fun k2 w1 =>
  callF Tryz.prog 22 #[] w1 fun r10 w2 =>
  ∃ (b10 : Bool), r10 = .bool b10 ∧
  cond (!b10)
  (Q (.bool false) w2)
  (cond (decide (((l1 : Nat) : Int) > 300))
    (Q (.bool true) w2)
    (callF Tryz.prog 8 #[.slice p1 l1 c1] w2 fun r16 w3 =>
      ∃ (p16 : Option Addr) (l16 : Nat) (c16 : Nat), r16 = .slice p16 l16 c16 ∧
      callF Tryz.prog 23 #[.slice p16 l16 c16] w3 fun r19 w4 =>
      ∃ (cs19 : Array Value) (n19 : Int), r19 = .tuple #[.agg cs19, .int .i64 n19] ∧
      ∃ (z6 : Value), Pu Tryz.prog (zeroValue 24) z6 ∧
      New z6.cells 24 w4 fun k6 w5 =>
      ∃ (w6 : World), Sto Tryz.prog 24 (.pointer (some (⟨k6, 0, none⟩ : Addr))) (.agg cs19) w5 w6 ∧
      callF Tryz.prog 24 #[.slice p1 l1 c1] w6 fun r24 w7 =>
      ∃ (cs24 : Array Value) (n24 : Int), r24 = .tuple #[.agg cs24, .int .i64 n24] ∧
      ∃ (z8 : Value), Pu Tryz.prog (zeroValue 32) z8 ∧
      New z8.cells 32 w7 fun k8 w8 =>
      ∃ (w9 : World), Sto Tryz.prog 32 (.pointer (some (⟨k8, 0, none⟩ : Addr))) (.agg cs24) w8 w9 ∧
      ∃ (S8 : World → Prop),
      Drw w9 fun w10 =>
      ∃ (cs27 : Array Value), HLd Tryz.prog S8 24 (.pointer (some (⟨k2, 0, none⟩ : Addr))) w10 (.agg cs27) ∧
      ∃ (cs29 : Array Value), HLd Tryz.prog S8 24 (.pointer (some (⟨k2, 0, none⟩ : Addr))) w10 (.agg cs29) ∧
      callF Tryz.prog 25 #[.agg cs27] w10 fun r28 w11 =>
      ∃ (b28 : Bool), r28 = .bool b28 ∧
      (w11 = w10 ∨ S8 w11) ∧
      callF Tryz.prog 11 #[.agg cs29] w11 fun r30 w12 =>
      ∃ (cs30 : Array Value), r30 = .agg cs30 ∧
      (w12 = w11 ∨ S8 w12) ∧
      callF Tryz.prog 26 #[.agg cs30] w12 fun r31 w13 =>
      ∃ (b31 : Bool), r31 = .bool b31 ∧
      (w13 = w12 ∨ S8 w13) ∧
      cond (b28 == b31)
      (∃ (cs34 : Array Value), HLd Tryz.prog S8 24 (.pointer (some (⟨k2, 0, none⟩ : Addr))) w13 (.agg cs34) ∧
        ∃ (cs36 : Array Value), HLd Tryz.prog S8 24 (.pointer (some (⟨k2, 0, none⟩ : Addr))) w13 (.agg cs36) ∧
        callF Tryz.prog 27 #[.agg cs34] w13 fun r35 w14 =>
        ∃ (n35 : Int), r35 = .int .i64 n35 ∧
        (w14 = w13 ∨ S8 w14) ∧
        callF Tryz.prog 11 #[.agg cs36] w14 fun r37 w15 =>
        ∃ (cs37 : Array Value), r37 = .agg cs37 ∧
        (w15 = w14 ∨ S8 w15) ∧
        callF Tryz.prog 28 #[.agg cs37] w15 fun r38 w16 =>
        ∃ (n38 : Int), r38 = .int .i64 n38 ∧
        (w16 = w15 ∨ S8 w16) ∧
        cond (n35 == n38)
        (∃ (cs42 : Array Value), HLd Tryz.prog S8 24 (.pointer (some (⟨k2, 0, none⟩ : Addr))) w16 (.agg cs42) ∧
          ∃ (cs44 : Array Value), HLd Tryz.prog S8 24 (.pointer (some (⟨k2, 0, none⟩ : Addr))) w16 (.agg cs44) ∧
          callF Tryz.prog 29 #[.agg cs42] w16 fun r43 w17 =>
          ∃ (p43 : Option Addr) (l43 : Nat) (c43 : Nat), r43 = .slice p43 l43 c43 ∧
          (w17 = w16 ∨ S8 w17) ∧
          callF Tryz.prog 11 #[.agg cs44] w17 fun r45 w18 =>
          ∃ (cs45 : Array Value), r45 = .agg cs45 ∧
          (w18 = w17 ∨ S8 w18) ∧
          callF Tryz.prog 30 #[.agg cs45] w18 fun r46 w19 =>
          ∃ (p46 : Option Addr) (l46 : Nat) (c46 : Nat), r46 = .slice p46 l46 c46 ∧
          (w19 = w18 ∨ S8 w19) ∧
          callF Tryz.prog 14 #[.slice p43 l43 c43, .slice p46 l46 c46] w19 fun r47 w20 =>
          ∃ (b47 : Bool), r47 = .bool b47 ∧
          (w20 = w19 ∨ S8 w20) ∧
          cond b47
          (∃ (cs50 : Array Value), HLd Tryz.prog S8 24 (.pointer (some (⟨k6, 0, none⟩ : Addr))) w20 (.agg cs50) ∧
            ∃ (cs52 : Array Value), HLd Tryz.prog S8 32 (.pointer (some (⟨k8, 0, none⟩ : Addr))) w20 (.agg cs52) ∧
            callF Tryz.prog 11 #[.agg cs50] w20 fun r51 w21 =>
            ∃ (cs51 : Array Value), r51 = .agg cs51 ∧
            (w21 = w20 ∨ S8 w21) ∧
            ∃ (b53 : Bool) (w22 : World), Ef Tryz.prog (do eqGuard .eql 32 (.tmp 51) (.tmp 52) (.agg cs51) (.agg cs52); binOp .eql 32 (.agg cs51) (.agg cs52) : Sem Value) w21 (.bool b53) w22 ∧
            cond b53
            (cond (n19 == n24)
              (callF Tryz.prog 14 #[.slice p16 l16 c16, .slice p1 l1 c1] w22 fun r63 w23 =>
                ∃ (b63 : Bool), r63 = .bool b63 ∧
                Q (.bool b63) w23)
              (Q (.bool false) w22))
            (Q (.bool false) w22))
          (Q (.bool false) w20))
        (Q (.bool false) w16))
      (Q (.bool false) w13)))
def law16_ModeAnswers_tt : Nat → List (Nat × TypeId) := fun _ => []
theorem law16_ModeAnswers_call (cs0 : Array Value) (p1 : Option Addr) (l1 : Nat) (c1 : Nat) (w : World) (Q : Value → World → Prop) (h : law16_ModeAnswers cs0 p1 l1 c1 w Q) : callF Tryz.prog 5 #[.agg cs0, .slice p1 l1 c1] w Q :=
  callF_of (fun _ _ => by kernel_rfl) (callK_of_sw law16_ModeAnswers_tt Tryz.func5 rfl (by kernel_rfl) (show sw Tryz.prog none 65 law16_ModeAnswers_tt _ 0 (endK Tryz.prog [.tmp 4] Q) ⟨regs [.agg cs0, .slice p1 l1 c1], []⟩ w from
    Eq.mp (by kernel_rfl : law16_ModeAnswers cs0 p1 l1 c1 w Q = sw Tryz.prog none 65 law16_ModeAnswers_tt (Tryz.f5.body.getD .skip) 0 (endK Tryz.prog [.tmp 4] Q) ⟨regs [.agg cs0, .slice p1 l1 c1], []⟩ w) h))

def law16_ModeTurns (cs0 : Array Value) (p1 : Option Addr) (l1 : Nat) (c1 : Nat) (w : World) (Q : Value → World → Prop) : Prop :=
  New cs0 24 w fun k2 w1 =>
  callF Tryz.prog 22 #[] w1 fun r14 w2 =>
  ∃ (b14 : Bool), r14 = .bool b14 ∧
  cond (!b14)
  (Q (.bool false) w2)
  (cond (decide (((l1 : Nat) : Int) > 100))
    (Q (.bool true) w2)
    (callF Tryz.prog 8 #[.slice p1 l1 c1] w2 fun r20 w3 =>
      ∃ (p20 : Option Addr) (l20 : Nat) (c20 : Nat), r20 = .slice p20 l20 c20 ∧
      ∃ (cs22 : Array Value), Ld Tryz.prog 24 (.pointer (some (⟨k2, 0, none⟩ : Addr))) w3 (.agg cs22) ∧
      callF Tryz.prog 31 #[.agg cs22, .slice p20 l20 c20] w3 fun r24 w4 =>
      ∃ (p24 : Option Addr) (l24 : Nat) (c24 : Nat) (n24 : Int), r24 = .tuple #[.slice p24 l24 c24, .int .i64 n24] ∧
      ∃ (cs28 : Array Value), Ld Tryz.prog 24 (.pointer (some (⟨k2, 0, none⟩ : Addr))) w4 (.agg cs28) ∧
      callF Tryz.prog 11 #[.agg cs28] w4 fun r29 w5 =>
      ∃ (cs29 : Array Value), r29 = .agg cs29 ∧
      callF Tryz.prog 32 #[.agg cs29, .slice p1 l1 c1] w5 fun r31 w6 =>
      ∃ (p31 : Option Addr) (l31 : Nat) (c31 : Nat) (n31 : Int), r31 = .tuple #[.slice p31 l31 c31, .int .i64 n31] ∧
      ∃ (cs35 : Array Value), Ld Tryz.prog 24 (.pointer (some (⟨k2, 0, none⟩ : Addr))) w6 (.agg cs35) ∧
      callF Tryz.prog 33 #[.agg cs35, .slice p20 l20 c20] w6 fun r37 w7 =>
      ∃ (p37 : Option Addr) (l37 : Nat) (c37 : Nat) (n37 : Int), r37 = .tuple #[.slice p37 l37 c37, .int .i64 n37] ∧
      ∃ (cs41 : Array Value), Ld Tryz.prog 24 (.pointer (some (⟨k2, 0, none⟩ : Addr))) w7 (.agg cs41) ∧
      callF Tryz.prog 11 #[.agg cs41] w7 fun r42 w8 =>
      ∃ (cs42 : Array Value), r42 = .agg cs42 ∧
      callF Tryz.prog 34 #[.agg cs42, .slice p1 l1 c1] w8 fun r44 w9 =>
      ∃ (p44 : Option Addr) (l44 : Nat) (c44 : Nat) (n44 : Int), r44 = .tuple #[.slice p44 l44 c44, .int .i64 n44] ∧
      cond (n24 == n31)
      (callF Tryz.prog 14 #[.slice p24 l24 c24, .slice p31 l31 c31] w9 fun r53 w10 =>
        ∃ (b53 : Bool), r53 = .bool b53 ∧
        cond b53
        (cond (n37 == n44)
          (callF Tryz.prog 14 #[.slice p37 l37 c37, .slice p44 l44 c44] w10 fun r63 w11 =>
            ∃ (b63 : Bool), r63 = .bool b63 ∧
            cond b63
            (callF Tryz.prog 14 #[.slice p20 l20 c20, .slice p1 l1 c1] w11 fun r68 w12 =>
              ∃ (b68 : Bool), r68 = .bool b68 ∧
              Q (.bool b68) w12)
            (Q (.bool false) w11))
          (Q (.bool false) w10))
        (Q (.bool false) w10))
      (Q (.bool false) w9)))
def law16_ModeTurns_tt : Nat → List (Nat × TypeId) := fun _ => []
theorem law16_ModeTurns_call (cs0 : Array Value) (p1 : Option Addr) (l1 : Nat) (c1 : Nat) (w : World) (Q : Value → World → Prop) (h : law16_ModeTurns cs0 p1 l1 c1 w Q) : callF Tryz.prog 6 #[.agg cs0, .slice p1 l1 c1] w Q :=
  callF_of (fun _ _ => by kernel_rfl) (callK_of_sw law16_ModeTurns_tt Tryz.func6 rfl (by kernel_rfl) (show sw Tryz.prog none 70 law16_ModeTurns_tt _ 0 (endK Tryz.prog [.tmp 4] Q) ⟨regs [.agg cs0, .slice p1 l1 c1], []⟩ w from
    Eq.mp (by kernel_rfl : law16_ModeTurns cs0 p1 l1 c1 w Q = sw Tryz.prog none 70 law16_ModeTurns_tt (Tryz.f6.body.getD .skip) 0 (endK Tryz.prog [.tmp 4] Q) ⟨regs [.agg cs0, .slice p1 l1 c1], []⟩ w) h))

def law16_Of (cs0 : Array Value) (w : World) (Q : Value → World → Prop) : Prop :=
  New cs0 24 w fun k1 w1 =>
  ∃ (z2 : Value), Pu Tryz.prog (zeroValue 32) z2 ∧
  New z2.cells 32 w1 fun k2 w2 =>
  ∃ (n4 : Int), Ld Tryz.prog 3 (.pointer (some ((⟨k1, 0, none⟩ : Addr).add 0))) w2 (.int .i64 n4) ∧
  ∃ (n6 : Int), Ld Tryz.prog 3 (.pointer (some ((⟨k1, 0, none⟩ : Addr).add 1))) w2 (.int .i64 n6) ∧
  ∃ (n8 : Int), Ld Tryz.prog 3 (.pointer (some ((⟨k1, 0, none⟩ : Addr).add 2))) w2 (.int .i64 n8) ∧
  ∃ (cs10 : Array Value), Ld Tryz.prog 22 (.pointer (some ((⟨k1, 0, none⟩ : Addr).add 3))) w2 (.agg cs10) ∧
  ∃ (cs11 : Array Value), Pu Tryz.prog (Instr.build 32 #[(0, .int .i64 n4), (1, .int .i64 n6), (2, .int .i64 n8), (3, .agg cs10)]) (.agg cs11) ∧
  ∃ (w3 : World), Sto Tryz.prog 32 (.pointer (some (⟨k2, 0, none⟩ : Addr))) (.agg cs11) w2 w3 ∧
  ∃ (a2 : Addr) (v2 : Value), (.pointer (some (⟨k2, 0, none⟩ : Addr)) : Value) = .pointer (some a2) ∧ (loadVar 32 a2).run Tryz.prog w3 = .ok v2 w3 ∧
  Q (v2) w3
def law16_Of_tt : Nat → List (Nat × TypeId) := fun _ => []
theorem law16_Of_call (cs0 : Array Value) (w : World) (Q : Value → World → Prop) (h : law16_Of cs0 w Q) : callF Tryz.prog 11 #[.agg cs0] w Q :=
  callF_of (fun _ _ => by kernel_rfl) (callK_of_sw law16_Of_tt Tryz.func11 rfl (by kernel_rfl) (show sw Tryz.prog none 12 law16_Of_tt _ 0 (endK Tryz.prog [.cell 2 32] Q) ⟨regs [.agg cs0], []⟩ w from
    Eq.mp (by kernel_rfl : law16_Of cs0 w Q = sw Tryz.prog none 12 law16_Of_tt (Tryz.f11.body.getD .skip) 0 (endK Tryz.prog [.cell 2 32] Q) ⟨regs [.agg cs0], []⟩ w) h))

def law16_alive  (w : World) (Q : Value → World → Prop) : Prop :=
  ∃ (z1 : Value), Pu Tryz.prog (zeroValue 24) z1 ∧
  New z1.cells 24 w fun k1 w1 =>
  ∃ (w2 : World), Sto Tryz.prog 24 (.pointer (some (⟨k1, 0, none⟩ : Addr))) (.agg #[.int .i64 0, .int .i64 3, .int .i64 4, .int .u8 0, .int .u8 0, .int .u8 0, .int .u8 0, .int .u8 0, .int .u8 0, .int .u8 0, .int .u8 0, .int .u8 0, .int .u8 0, .int .u8 0, .int .u8 0, .int .u8 0, .int .u8 0, .int .u8 0, .int .u8 0]) w1 w2 ∧
  ∃ (cs21 : Array Value), Pu Tryz.prog (Instr.build 24 #[(0, .int .i64 2), (1, .int .i64 3), (2, .int .i64 4), (3, .agg #[.int .u8 1, .int .u8 0, .int .u8 0, .int .u8 0, .int .u8 0, .int .u8 0, .int .u8 0, .int .u8 0, .int .u8 0, .int .u8 0, .int .u8 0, .int .u8 0, .int .u8 0, .int .u8 0, .int .u8 0, .int .u8 0])]) (.agg cs21) ∧
  ∃ (z2 : Value), Pu Tryz.prog (zeroValue 24) z2 ∧
  New z2.cells 24 w2 fun k2 w3 =>
  ∃ (w4 : World), Sto Tryz.prog 24 (.pointer (some (⟨k2, 0, none⟩ : Addr))) (.agg cs21) w3 w4 ∧
  ∃ (z3 : Value), Pu Tryz.prog (zeroValue 24) z3 ∧
  New z3.cells 24 w4 fun k3 w5 =>
  ∃ (w6 : World), Sto Tryz.prog 24 (.pointer (some (⟨k3, 0, none⟩ : Addr))) (.agg #[.int .i64 1, .int .i64 3, .int .i64 4, .int .u8 0, .int .u8 0, .int .u8 0, .int .u8 0, .int .u8 0, .int .u8 0, .int .u8 0, .int .u8 0, .int .u8 0, .int .u8 0, .int .u8 0, .int .u8 0, .int .u8 0, .int .u8 0, .int .u8 0, .int .u8 0]) w5 w6 ∧
  ∃ (p23 : Option Addr) (l23 : Nat) (c23 : Nat) (w7 : World), Ef Tryz.prog (Instr.buildSlice 25 7 #[(0, .int .u8 1), (1, .int .u8 2), (2, .int .u8 3), (3, .int .u8 4), (4, .int .u8 5), (5, .int .u8 6), (6, .int .u8 7)]) w6 (.slice p23 l23 c23) w7 ∧
  ∃ (cs25 : Array Value), Ld Tryz.prog 24 (.pointer (some (⟨k1, 0, none⟩ : Addr))) w7 (.agg cs25) ∧
  callF Tryz.prog 31 #[.agg cs25, .slice p23 l23 c23] w7 fun r27 w8 =>
  ∃ (p27 : Option Addr) (l27 : Nat) (c27 : Nat) (n27 : Int), r27 = .tuple #[.slice p27 l27 c27, .int .i64 n27] ∧
  ∃ (cs31 : Array Value), Ld Tryz.prog 24 (.pointer (some (⟨k2, 0, none⟩ : Addr))) w8 (.agg cs31) ∧
  callF Tryz.prog 31 #[.agg cs31, .slice p23 l23 c23] w8 fun r33 w9 =>
  ∃ (p33 : Option Addr) (l33 : Nat) (c33 : Nat) (n33 : Int), r33 = .tuple #[.slice p33 l33 c33, .int .i64 n33] ∧
  ∃ (cs37 : Array Value), Ld Tryz.prog 24 (.pointer (some (⟨k2, 0, none⟩ : Addr))) w9 (.agg cs37) ∧
  callF Tryz.prog 33 #[.agg cs37, .slice p33 l33 c33] w9 fun r39 w10 =>
  ∃ (p39 : Option Addr) (l39 : Nat) (c39 : Nat) (n39 : Int), r39 = .tuple #[.slice p39 l39 c39, .int .i64 n39] ∧
  ∃ (cs43 : Array Value), Ld Tryz.prog 24 (.pointer (some (⟨k3, 0, none⟩ : Addr))) w10 (.agg cs43) ∧
  callF Tryz.prog 31 #[.agg cs43, .slice p23 l23 c23] w10 fun r45 w11 =>
  ∃ (p45 : Option Addr) (l45 : Nat) (c45 : Nat) (n45 : Int), r45 = .tuple #[.slice p45 l45 c45, .int .i64 n45] ∧
  ∃ (cs49 : Array Value), Ld Tryz.prog 24 (.pointer (some (⟨k2, 0, none⟩ : Addr))) w11 (.agg cs49) ∧
  callF Tryz.prog 31 #[.agg cs49, .slice none 0 0] w11 fun r50 w12 =>
  ∃ (p50 : Option Addr) (l50 : Nat) (c50 : Nat) (n50 : Int), r50 = .tuple #[.slice p50 l50 c50, .int .i64 n50] ∧
  ∃ (cs54 : Array Value), Ld Tryz.prog 24 (.pointer (some (⟨k2, 0, none⟩ : Addr))) w12 (.agg cs54) ∧
  callF Tryz.prog 29 #[.agg cs54] w12 fun r55 w13 =>
  ∃ (p55 : Option Addr) (l55 : Nat) (c55 : Nat), r55 = .slice p55 l55 c55 ∧
  callF Tryz.prog 23 #[.slice p55 l55 c55] w13 fun r56 w14 =>
  ∃ (cs56 : Array Value) (n56 : Int), r56 = .tuple #[.agg cs56, .int .i64 n56] ∧
  ∃ (z15 : Value), Pu Tryz.prog (zeroValue 24) z15 ∧
  New z15.cells 24 w14 fun k15 w15 =>
  ∃ (w16 : World), Sto Tryz.prog 24 (.pointer (some (⟨k15, 0, none⟩ : Addr))) (.agg cs56) w15 w16 ∧
  callF Tryz.prog 23 #[.slice none 0 0] w16 fun r60 w17 =>
  ∃ (cs60 : Array Value) (n60 : Int), r60 = .tuple #[.agg cs60, .int .i64 n60] ∧
  ∃ (z17 : Value), Pu Tryz.prog (zeroValue 24) z17 ∧
  New z17.cells 24 w17 fun k17 w18 =>
  ∃ (w19 : World), Sto Tryz.prog 24 (.pointer (some (⟨k17, 0, none⟩ : Addr))) (.agg cs60) w18 w19 ∧
  ∃ (cs63 : Array Value), Ld Tryz.prog 24 (.pointer (some (⟨k1, 0, none⟩ : Addr))) w19 (.agg cs63) ∧
  callF Tryz.prog 25 #[.agg cs63] w19 fun r64 w20 =>
  ∃ (b64 : Bool), r64 = .bool b64 ∧
  cond b64
  (∃ (cs66 : Array Value), Ld Tryz.prog 24 (.pointer (some (⟨k3, 0, none⟩ : Addr))) w20 (.agg cs66) ∧
    callF Tryz.prog 25 #[.agg cs66] w20 fun r67 w21 =>
    ∃ (b67 : Bool), r67 = .bool b67 ∧
    cond (!b67)
    (∃ (cs71 : Array Value), Ld Tryz.prog 24 (.pointer (some (⟨k1, 0, none⟩ : Addr))) w21 (.agg cs71) ∧
      callF Tryz.prog 27 #[.agg cs71] w21 fun r72 w22 =>
      ∃ (n72 : Int), r72 = .int .i64 n72 ∧
      cond (n72 == 8)
      (cond (n27 == 0)
        (cond (n33 == 0)
          (cond (n39 == 0)
            (cond (n45 == 19)
              (cond (n50 == 11)
                (cond (n56 == 0)
                  (cond (n60 == 12)
                    (callF Tryz.prog 14 #[.slice p27 l27 c27, .slice p23 l23 c23] w22 fun r106 w23 =>
                      ∃ (b106 : Bool), r106 = .bool b106 ∧
                      cond b106
                      (callF Tryz.prog 14 #[.slice p33 l33 c33, .slice p23 l23 c23] w23 fun r111 w24 =>
                        ∃ (b111 : Bool), r111 = .bool b111 ∧
                        cond (!b111)
                        (callF Tryz.prog 14 #[.slice p39 l39 c39, .slice p23 l23 c23] w24 fun r117 w25 =>
                          ∃ (b117 : Bool), r117 = .bool b117 ∧
                          cond b117
                          (∃ (cs120 : Array Value), Ld Tryz.prog 24 (.pointer (some (⟨k15, 0, none⟩ : Addr))) w25 (.agg cs120) ∧
                            ∃ (cs121 : Array Value), Ld Tryz.prog 24 (.pointer (some (⟨k2, 0, none⟩ : Addr))) w25 (.agg cs121) ∧
                            ∃ (b122 : Bool) (w26 : World), Ef Tryz.prog (do eqGuard .eql 24 (.tmp 120) (.tmp 121) (.agg cs120) (.agg cs121); binOp .eql 24 (.agg cs120) (.agg cs121) : Sem Value) w25 (.bool b122) w26 ∧
                            cond b122
                            (∃ (cs125 : Array Value), Ld Tryz.prog 24 (.pointer (some (⟨k2, 0, none⟩ : Addr))) w26 (.agg cs125) ∧
                              callF Tryz.prog 29 #[.agg cs125] w26 fun r126 w27 =>
                              ∃ (p126 : Option Addr) (l126 : Nat) (c126 : Nat), r126 = .slice p126 l126 c126 ∧
                              Q (.bool (((l126 : Nat) : Int) == 20)) w27)
                            (Q (.bool false) w26))
                          (Q (.bool false) w25))
                        (Q (.bool false) w24))
                      (Q (.bool false) w23))
                    (Q (.bool false) w22))
                  (Q (.bool false) w22))
                (Q (.bool false) w22))
              (Q (.bool false) w22))
            (Q (.bool false) w22))
          (Q (.bool false) w22))
        (Q (.bool false) w22))
      (Q (.bool false) w22))
    (Q (.bool false) w21))
  (Q (.bool false) w20)
def law16_alive_tt : Nat → List (Nat × TypeId) := fun _ => []
theorem law16_alive_call  (w : World) (Q : Value → World → Prop) (h : law16_alive  w Q) : callF Tryz.prog 22 #[] w Q :=
  callF_of (fun _ _ => by kernel_rfl) (callK_of_sw law16_alive_tt Tryz.func22 rfl (by kernel_rfl) (show sw Tryz.prog none 130 law16_alive_tt _ 0 (endK Tryz.prog [.tmp 0] Q) ⟨regs [], []⟩ w from
    Eq.mp (by kernel_rfl : law16_alive  w Q = sw Tryz.prog none 130 law16_alive_tt (Tryz.f22.body.getD .skip) 0 (endK Tryz.prog [.tmp 0] Q) ⟨regs [], []⟩ w) h))
end Go.Sh
end

section
namespace Go.Sh
open Go Go.Fw Go.Proofs
set_option maxRecDepth 100000
set_option linter.unusedVariables false

def ref16_Read_j1 (a2 : Addr) (n3 : Int) (a4 : Addr) (w : World) (Q : Value → World → Prop) : Prop :=
  ∃ (cs50 : Array Value), Ld Tryz.prog 32 (.pointer (some a4)) w (.agg cs50) ∧
  ∃ (w1 : World), Sto Tryz.prog 32 (.pointer (some a2)) (.agg cs50) w w1 ∧
  ∃ (a2_1 : Addr) (v2 : Value), (.pointer (some a2) : Value) = .pointer (some a2_1) ∧ (loadVar 32 a2_1).run Tryz.prog w1 = .ok v2 w1 ∧
  Q (.tuple #[v2, .int .i64 0]) w1
def ref16_Read_j2 (a2 : Addr) (n3 : Int) (a4 : Addr) (b48 : Bool) (w : World) (Q : Value → World → Prop) : Prop :=
  cond b48
  (∃ (w1 : World), Sto Tryz.prog 32 (.pointer (some a2)) (.agg #[.int .i64 0, .int .i64 0, .int .i64 0, .int .u8 0, .int .u8 0, .int .u8 0, .int .u8 0, .int .u8 0, .int .u8 0, .int .u8 0, .int .u8 0, .int .u8 0, .int .u8 0, .int .u8 0, .int .u8 0, .int .u8 0, .int .u8 0, .int .u8 0, .int .u8 0]) w w1 ∧
    ∃ (a2_1 : Addr) (v2 : Value), (.pointer (some a2) : Value) = .pointer (some a2_1) ∧ (loadVar 32 a2_1).run Tryz.prog w1 = .ok v2 w1 ∧
    Q (.tuple #[v2, .int .i64 10]) w1)
  (ref16_Read_j1 a2 n3 a4 w Q)
def ref16_Read_j3 (p0 : Option Addr) (l0 : Nat) (c0 : Nat) (a2 : Addr) (n3 : Int) (a4 : Addr) (w : World) (Q : Value → World → Prop) : Prop :=
  cond (decide (((l0 : Nat) : Int) > 20))
  (ref16_Read_j2 a2 n3 a4 true w Q)
  (∃ (a40 : Addr), IxA Tryz.prog 25 (.slice p0 l0 c0) (.int .i64 3) a40 ∧
    ∃ (n41 : Int), Ld Tryz.prog 5 (.pointer (some a40)) w (.int .u8 n41) ∧
    cond (n41 != 0)
    (ref16_Read_j2 a2 n3 a4 true w Q)
    (∃ (cs45 : Array Value), Ld Tryz.prog 32 (.pointer (some a4)) w (.agg cs45) ∧
      callF Tryz.prog 26 #[.agg cs45] w fun r46 w1 =>
      ∃ (b46 : Bool), r46 = .bool b46 ∧
      ref16_Read_j2 a2 n3 a4 (!b46) w1 Q))
def ref16_Read (p0 : Option Addr) (l0 : Nat) (c0 : Nat) (w : World) (Q : Value → World → Prop) : Prop :=
  ∃ (z2 : Value), Pu Tryz.prog (zeroValue 32) z2 ∧
  New z2.cells 32 w fun k2 w1 =>
  cond (decide (((l0 : Nat) : Int) < 20))
  (∃ (w2 : World), Sto Tryz.prog 32 (.pointer (some (⟨k2, 0, none⟩ : Addr))) (.agg #[.int .i64 0, .int .i64 0, .int .i64 0, .int .u8 0, .int .u8 0, .int .u8 0, .int .u8 0, .int .u8 0, .int .u8 0, .int .u8 0, .int .u8 0, .int .u8 0, .int .u8 0, .int .u8 0, .int .u8 0, .int .u8 0, .int .u8 0, .int .u8 0, .int .u8 0]) w1 w2 ∧
    ∃ (a2 : Addr) (v2 : Value), (.pointer (some (⟨k2, 0, none⟩ : Addr)) : Value) = .pointer (some a2) ∧ (loadVar 32 a2).run Tryz.prog w2 = .ok v2 w2 ∧
    Q (.tuple #[v2, .int .i64 12]) w2)
  (∃ (S3 : World → Prop),
    Drw w1 fun w3 =>
    ∃ (a11 : Addr), IxA Tryz.prog 25 (.slice p0 l0 c0) (.int .i64 0) a11 ∧
    ∃ (a15 : Addr), IxA Tryz.prog 25 (.slice p0 l0 c0) (.int .i64 1) a15 ∧
    ∃ (a19 : Addr), IxA Tryz.prog 25 (.slice p0 l0 c0) (.int .i64 2) a19 ∧
    ∃ (n12 : Int), HLd Tryz.prog S3 5 (.pointer (some a11)) w3 (.int .u8 n12) ∧
    ∃ (n16 : Int), HLd Tryz.prog S3 5 (.pointer (some a15)) w3 (.int .u8 n16) ∧
    ∃ (n20 : Int), HLd Tryz.prog S3 5 (.pointer (some a19)) w3 (.int .u8 n20) ∧
    ∃ (z4 : Value), Pu Tryz.prog (zeroValue 32) z4 ∧
    New z4.cells 32 w3 fun k4 w4 =>
    (w4 = w3 ∨ S3 w4) ∧
    ∃ (w5 : World), Sto Tryz.prog 32 (.pointer (some (⟨k4, 0, none⟩ : Addr))) (.agg #[.int .i64 (IntKind.i64.wrap n12), .int .i64 (IntKind.i64.wrap n16), .int .i64 (IntKind.i64.wrap n20), .int .u8 0, .int .u8 0, .int .u8 0, .int .u8 0, .int .u8 0, .int .u8 0, .int .u8 0, .int .u8 0, .int .u8 0, .int .u8 0, .int .u8 0, .int .u8 0, .int .u8 0, .int .u8 0, .int .u8 0, .int .u8 0]) w4 w5 ∧
    LoopS [.slice p0 l0 c0, .pointer (some (⟨k2, 0, none⟩ : Addr)), .int .i64 0, .pointer (some (⟨k4, 0, none⟩ : Addr)), .int .i64 0] w5 fun I1 μ1 us1 _ wl1 =>
    ∃ (p0_1 : Option Addr) (l0_1 : Nat) (c0_1 : Nat) (a2_1 : Addr) (n3 : Int) (a4 : Addr) (n5 : Int), us1 = [.slice p0_1 l0_1 c0_1, .pointer (some a2_1), .int .i64 n3, .pointer (some a4), .int .i64 n5] ∧
    cond (decide (n5 < 16))
    (∃ (a31 : Addr), IxA Tryz.prog 25 (.slice p0_1 l0_1 c0_1) (.int .i64 (IntKind.i64.wrap (4 + n5))) a31 ∧
      ∃ (n32 : Int), Ld Tryz.prog 5 (.pointer (some a31)) wl1 (.int .u8 n32) ∧
      ∃ (a34 : Addr), IxA Tryz.prog 22 (.pointer (some (a4.add 3))) (.int .i64 n5) a34 ∧
      ∃ (w6 : World), Sto Tryz.prog 5 (.pointer (some a34)) (.int .u8 n32) wl1 w6 ∧
      goesOn [] [] I1 μ1 us1 [.slice p0_1 l0_1 c0_1, .pointer (some a2_1), .int .i64 n3, .pointer (some a4), .int .i64 (IntKind.i64.wrap (n5 + 1))] wl1 w6)
    (ref16_Read_j3 p0_1 l0_1 c0_1 a2_1 n3 a4 wl1 Q))
def ref16_Read_tt : Nat → List (Nat × TypeId) := fun n => match n with | 0 => [(0, 25), (2, 1000000), (3, 28), (4, 1000000), (5, 3)] | _ => []
theorem ref16_Read_call (p0 : Option Addr) (l0 : Nat) (c0 : Nat) (w : World) (Q : Value → World → Prop) (h : ref16_Read p0 l0 c0 w Q) : callF Tryz.prog 24 #[.slice p0 l0 c0] w Q :=
  callF_of (fun _ _ => by kernel_rfl) (callK_of_sw ref16_Read_tt Tryz.func24 rfl (by kernel_rfl) (show sw Tryz.prog none 51 ref16_Read_tt _ 0 (endK Tryz.prog [.cell 2 32, .tmp 3] Q) ⟨regs [.slice p0 l0 c0], []⟩ w from
    Eq.mp (by kernel_rfl : ref16_Read p0 l0 c0 w Q = sw Tryz.prog none 51 ref16_Read_tt (Tryz.f24.body.getD .skip) 0 (endK Tryz.prog [.cell 2 32, .tmp 3] Q) ⟨regs [.slice p0 l0 c0], []⟩ w) h))

def ref16_Right_j1 (a1 : Addr) (b2 : Bool) (w : World) (Q : Value → World → Prop) : Prop :=
  ∃ (n51 : Int), Ld Tryz.prog 3 (.pointer (some (a1.add 0))) w (.int .i64 n51) ∧
  cond (n51 != 0)
  (Q (.bool true) w)
  (∃ (cs55 : Array Value), Ld Tryz.prog 22 (.pointer (some (a1.add 3))) w (.agg cs55) ∧
    ∃ (b57 : Bool) (w1 : World), Ef Tryz.prog (do eqGuard .eql 22 (.tmp 55) (.tmp 56) (.agg cs55) (.agg #[.int .u8 0, .int .u8 0, .int .u8 0, .int .u8 0, .int .u8 0, .int .u8 0, .int .u8 0, .int .u8 0, .int .u8 0, .int .u8 0, .int .u8 0, .int .u8 0, .int .u8 0, .int .u8 0, .int .u8 0, .int .u8 0]); binOp .eql 22 (.agg cs55) (.agg #[.int .u8 0, .int .u8 0, .int .u8 0, .int .u8 0, .int .u8 0, .int .u8 0, .int .u8 0, .int .u8 0, .int .u8 0, .int .u8 0, .int .u8 0, .int .u8 0, .int .u8 0, .int .u8 0, .int .u8 0, .int .u8 0]) : Sem Value) w (.bool b57) w1 ∧
    Q (.bool b57) w1)
def ref16_Right_j2 (a1 : Addr) (b2 : Bool) (w : World) (Q : Value → World → Prop) : Prop :=
  ∃ (n40 : Int), Ld Tryz.prog 3 (.pointer (some (a1.add 0))) w (.int .i64 n40) ∧
  cond (n40 == 1)
  (∃ (n44 : Int), Ld Tryz.prog 3 (.pointer (some (a1.add 1))) w (.int .i64 n44) ∧
    ∃ (n46 : Int), Ld Tryz.prog 3 (.pointer (some (a1.add 2))) w (.int .i64 n46) ∧
    cond ((IntKind.i64.wrap (n44 + n46)) != 16)
    (Q (.bool false) w)
    (ref16_Right_j1 a1 b2 w Q))
  (ref16_Right_j1 a1 b2 w Q)
def ref16_Right (cs0 : Array Value) (w : World) (Q : Value → World → Prop) : Prop :=
  New cs0 32 w fun k1 w1 =>
  ∃ (n4 : Int), Ld Tryz.prog 3 (.pointer (some ((⟨k1, 0, none⟩ : Addr).add 0))) w1 (.int .i64 n4) ∧
  cond (decide (n4 < 0))
  (Q (.bool false) w1)
  (∃ (n8 : Int), Ld Tryz.prog 3 (.pointer (some ((⟨k1, 0, none⟩ : Addr).add 0))) w1 (.int .i64 n8) ∧
    cond (decide (n8 > 2))
    (Q (.bool false) w1)
    (∃ (n13 : Int), Ld Tryz.prog 3 (.pointer (some ((⟨k1, 0, none⟩ : Addr).add 1))) w1 (.int .i64 n13) ∧
      cond (decide (n13 < 1))
      (Q (.bool false) w1)
      (∃ (n18 : Int), Ld Tryz.prog 3 (.pointer (some ((⟨k1, 0, none⟩ : Addr).add 1))) w1 (.int .i64 n18) ∧
        cond (decide (n18 > 15))
        (Q (.bool false) w1)
        (∃ (n23 : Int), Ld Tryz.prog 3 (.pointer (some ((⟨k1, 0, none⟩ : Addr).add 2))) w1 (.int .i64 n23) ∧
          cond (decide (n23 < 4))
          (Q (.bool false) w1)
          (∃ (n28 : Int), Ld Tryz.prog 3 (.pointer (some ((⟨k1, 0, none⟩ : Addr).add 2))) w1 (.int .i64 n28) ∧
            cond (decide (n28 > 18))
            (Q (.bool false) w1)
            (∃ (n33 : Int), Ld Tryz.prog 3 (.pointer (some ((⟨k1, 0, none⟩ : Addr).add 1))) w1 (.int .i64 n33) ∧
              ∃ (n35 : Int), Ld Tryz.prog 3 (.pointer (some ((⟨k1, 0, none⟩ : Addr).add 2))) w1 (.int .i64 n35) ∧
              cond (decide ((IntKind.i64.wrap (n33 + n35)) > 19))
              (Q (.bool false) w1)
              (ref16_Right_j2 (⟨k1, 0, none⟩ : Addr) false w1 Q)))))))
def ref16_Right_tt : Nat → List (Nat × TypeId) := fun _ => []
theorem ref16_Right_call (cs0 : Array Value) (w : World) (Q : Value → World → Prop) (h : ref16_Right cs0 w Q) : callF Tryz.prog 26 #[.agg cs0] w Q :=
  callF_of (fun _ _ => by kernel_rfl) (callK_of_sw ref16_Right_tt Tryz.func26 rfl (by kernel_rfl) (show sw Tryz.prog none 59 ref16_Right_tt _ 0 (endK Tryz.prog [.tmp 2] Q) ⟨regs [.agg cs0], []⟩ w from
    Eq.mp (by kernel_rfl : ref16_Right cs0 w Q = sw Tryz.prog none 59 ref16_Right_tt (Tryz.f26.body.getD .skip) 0 (endK Tryz.prog [.tmp 2] Q) ⟨regs [.agg cs0], []⟩ w) h))

def ref16_Size (cs0 : Array Value) (w : World) (Q : Value → World → Prop) : Prop :=
  New cs0 32 w fun k1 w1 =>
  ∃ (cs3 : Array Value), Ld Tryz.prog 32 (.pointer (some (⟨k1, 0, none⟩ : Addr))) w1 (.agg cs3) ∧
  callF Tryz.prog 26 #[.agg cs3] w1 fun r4 w2 =>
  ∃ (b4 : Bool), r4 = .bool b4 ∧
  cond (!b4)
  (Q (.int .i64 0) w2)
  (∃ (n7 : Int), Ld Tryz.prog 3 (.pointer (some ((⟨k1, 0, none⟩ : Addr).add 1))) w2 (.int .i64 n7) ∧
    ∃ (n10 : Int), Ld Tryz.prog 3 (.pointer (some ((⟨k1, 0, none⟩ : Addr).add 2))) w2 (.int .i64 n10) ∧
    Q (.int .i64 (IntKind.i64.wrap ((IntKind.i64.wrap (1 + n7)) + n10))) w2)
def ref16_Size_tt : Nat → List (Nat × TypeId) := fun _ => []
theorem ref16_Size_call (cs0 : Array Value) (w : World) (Q : Value → World → Prop) (h : ref16_Size cs0 w Q) : callF Tryz.prog 28 #[.agg cs0] w Q :=
  callF_of (fun _ _ => by kernel_rfl) (callK_of_sw ref16_Size_tt Tryz.func28 rfl (by kernel_rfl) (show sw Tryz.prog none 12 ref16_Size_tt _ 0 (endK Tryz.prog [.tmp 2] Q) ⟨regs [.agg cs0], []⟩ w from
    Eq.mp (by kernel_rfl : ref16_Size cs0 w Q = sw Tryz.prog none 12 ref16_Size_tt (Tryz.f28.body.getD .skip) 0 (endK Tryz.prog [.tmp 2] Q) ⟨regs [.agg cs0], []⟩ w) h))

def ref16_Bytes (cs0 : Array Value) (w : World) (Q : Value → World → Prop) : Prop :=
  New cs0 32 w fun k1 w1 =>
  ∃ (cs3 : Array Value), Ld Tryz.prog 32 (.pointer (some (⟨k1, 0, none⟩ : Addr))) w1 (.agg cs3) ∧
  callF Tryz.prog 26 #[.agg cs3] w1 fun r4 w2 =>
  ∃ (b4 : Bool), r4 = .bool b4 ∧
  cond (!b4)
  (Q (.slice none 0 0) w2)
  (∃ (S3 : World → Prop),
    Drw w2 fun w3 =>
    ∃ (p17 : Option Addr) (l17 : Nat) (c17 : Nat), Pu Tryz.prog (Instr.sliceAt 22 (.pointer (some ((⟨k1, 0, none⟩ : Addr).add 3))) none none none) (.slice p17 l17 c17) ∧
    ∃ (n7 : Int), HLd Tryz.prog S3 3 (.pointer (some ((⟨k1, 0, none⟩ : Addr).add 0))) w3 (.int .i64 n7) ∧
    ∃ (n10 : Int), HLd Tryz.prog S3 3 (.pointer (some ((⟨k1, 0, none⟩ : Addr).add 1))) w3 (.int .i64 n10) ∧
    ∃ (n13 : Int), Ld Tryz.prog 3 (.pointer (some ((⟨k1, 0, none⟩ : Addr).add 2))) w3 (.int .i64 n13) ∧
    (w3 = w3 ∨ S3 w3) ∧
    ∃ (p15 : Option Addr) (l15 : Nat) (c15 : Nat) (w4 : World), Ef Tryz.prog (Instr.buildSlice 25 4 #[(0, .int .u8 (IntKind.u8.wrap n7)), (1, .int .u8 (IntKind.u8.wrap n10)), (2, .int .u8 (IntKind.u8.wrap n13)), (3, .int .u8 0)]) w3 (.slice p15 l15 c15) w4 ∧
    ∃ (p18 : Option Addr) (l18 : Nat) (c18 : Nat) (w5 : World), Ef Tryz.prog (Builtin.append_ #[25, 25] 25 #[.slice p15 l15 c15, .slice p17 l17 c17]) w4 (.slice p18 l18 c18) w5 ∧
    Q (.slice p18 l18 c18) w5)
def ref16_Bytes_tt : Nat → List (Nat × TypeId) := fun _ => []
theorem ref16_Bytes_call (cs0 : Array Value) (w : World) (Q : Value → World → Prop) (h : ref16_Bytes cs0 w Q) : callF Tryz.prog 30 #[.agg cs0] w Q :=
  callF_of (fun _ _ => by kernel_rfl) (callK_of_sw ref16_Bytes_tt Tryz.func30 rfl (by kernel_rfl) (show sw Tryz.prog none 19 ref16_Bytes_tt _ 0 (endK Tryz.prog [.tmp 2] Q) ⟨regs [.agg cs0], []⟩ w from
    Eq.mp (by kernel_rfl : ref16_Bytes cs0 w Q = sw Tryz.prog none 19 ref16_Bytes_tt (Tryz.f30.body.getD .skip) 0 (endK Tryz.prog [.tmp 2] Q) ⟨regs [.agg cs0], []⟩ w) h))

def ref16_Turn (cs0 : Array Value) (p1 : Option Addr) (l1 : Nat) (c1 : Nat) (w : World) (Q : Value → World → Prop) : Prop :=
  New cs0 32 w fun k2 w1 =>
  ∃ (cs6 : Array Value), Ld Tryz.prog 32 (.pointer (some (⟨k2, 0, none⟩ : Addr))) w1 (.agg cs6) ∧
  ∃ (p8 : Option Addr) (l8 : Nat) (c8 : Nat) (w2 : World), Ef Tryz.prog (Instr.buildSlice 74 4 #[(0, .int .i64 1), (1, .int .i64 2), (2, .int .i64 3), (3, .int .i64 4)]) w1 (.slice p8 l8 c8) w2 ∧
  callF Tryz.prog 46 #[.agg cs6, .slice p1 l1 c1, .slice p8 l8 c8] w2 fun r9 w3 =>
  ∃ (p9 : Option Addr) (l9 : Nat) (c9 : Nat) (n9 : Int), r9 = .tuple #[.slice p9 l9 c9, .int .i64 n9] ∧
  Q (.tuple #[.slice p9 l9 c9, .int .i64 n9]) w3
def ref16_Turn_tt : Nat → List (Nat × TypeId) := fun _ => []
theorem ref16_Turn_call (cs0 : Array Value) (p1 : Option Addr) (l1 : Nat) (c1 : Nat) (w : World) (Q : Value → World → Prop) (h : ref16_Turn cs0 p1 l1 c1 w Q) : callF Tryz.prog 32 #[.agg cs0, .slice p1 l1 c1] w Q :=
  callF_of (fun _ _ => by kernel_rfl) (callK_of_sw ref16_Turn_tt Tryz.func32 rfl (by kernel_rfl) (show sw Tryz.prog none 12 ref16_Turn_tt _ 0 (endK Tryz.prog [.tmp 4, .tmp 5] Q) ⟨regs [.agg cs0, .slice p1 l1 c1], []⟩ w from
    Eq.mp (by kernel_rfl : ref16_Turn cs0 p1 l1 c1 w Q = sw Tryz.prog none 12 ref16_Turn_tt (Tryz.f32.body.getD .skip) 0 (endK Tryz.prog [.tmp 4, .tmp 5] Q) ⟨regs [.agg cs0, .slice p1 l1 c1], []⟩ w) h))

def ref16_Back (cs0 : Array Value) (p1 : Option Addr) (l1 : Nat) (c1 : Nat) (w : World) (Q : Value → World → Prop) : Prop :=
  New cs0 32 w fun k2 w1 =>
  ∃ (cs6 : Array Value), Ld Tryz.prog 32 (.pointer (some (⟨k2, 0, none⟩ : Addr))) w1 (.agg cs6) ∧
  ∃ (p8 : Option Addr) (l8 : Nat) (c8 : Nat) (w2 : World), Ef Tryz.prog (Instr.buildSlice 74 4 #[(0, .int .i64 4), (1, .int .i64 3), (2, .int .i64 2), (3, .int .i64 1)]) w1 (.slice p8 l8 c8) w2 ∧
  callF Tryz.prog 46 #[.agg cs6, .slice p1 l1 c1, .slice p8 l8 c8] w2 fun r9 w3 =>
  ∃ (p9 : Option Addr) (l9 : Nat) (c9 : Nat) (n9 : Int), r9 = .tuple #[.slice p9 l9 c9, .int .i64 n9] ∧
  Q (.tuple #[.slice p9 l9 c9, .int .i64 n9]) w3
def ref16_Back_tt : Nat → List (Nat × TypeId) := fun _ => []
theorem ref16_Back_call (cs0 : Array Value) (p1 : Option Addr) (l1 : Nat) (c1 : Nat) (w : World) (Q : Value → World → Prop) (h : ref16_Back cs0 p1 l1 c1 w Q) : callF Tryz.prog 34 #[.agg cs0, .slice p1 l1 c1] w Q :=
  callF_of (fun _ _ => by kernel_rfl) (callK_of_sw ref16_Back_tt Tryz.func34 rfl (by kernel_rfl) (show sw Tryz.prog none 12 ref16_Back_tt _ 0 (endK Tryz.prog [.tmp 4, .tmp 5] Q) ⟨regs [.agg cs0, .slice p1 l1 c1], []⟩ w from
    Eq.mp (by kernel_rfl : ref16_Back cs0 p1 l1 c1 w Q = sw Tryz.prog none 12 ref16_Back_tt (Tryz.f34.body.getD .skip) 0 (endK Tryz.prog [.tmp 4, .tmp 5] Q) ⟨regs [.agg cs0, .slice p1 l1 c1], []⟩ w) h))

def ref16_turn (cs0 : Array Value) (p1 : Option Addr) (l1 : Nat) (c1 : Nat) (p2 : Option Addr) (l2 : Nat) (c2 : Nat) (w : World) (Q : Value → World → Prop) : Prop :=
  New cs0 32 w fun k3 w1 =>
  ∃ (cs8 : Array Value), Ld Tryz.prog 32 (.pointer (some (⟨k3, 0, none⟩ : Addr))) w1 (.agg cs8) ∧
  callF Tryz.prog 26 #[.agg cs8] w1 fun r9 w2 =>
  ∃ (b9 : Bool), r9 = .bool b9 ∧
  cond (!b9)
  (Q (.tuple #[.slice none 0 0, .int .i64 19]) w2)
  (∃ (n14 : Int), Ld Tryz.prog 3 (.pointer (some ((⟨k3, 0, none⟩ : Addr).add 1))) w2 (.int .i64 n14) ∧
    ∃ (n16 : Int), Ld Tryz.prog 3 (.pointer (some ((⟨k3, 0, none⟩ : Addr).add 2))) w2 (.int .i64 n16) ∧
    cond (((l1 : Nat) : Int) != (IntKind.i64.wrap (n14 + n16)))
    (Q (.tuple #[.slice none 0 0, .int .i64 11]) w2)
    (∃ (n20 : Int), Ld Tryz.prog 3 (.pointer (some ((⟨k3, 0, none⟩ : Addr).add 0))) w2 (.int .i64 n20) ∧
      cond (n20 == 0)
      (∃ (p22 : Option Addr) (l22 : Nat) (c22 : Nat) (w3 : World), Ef Tryz.prog (Instr.buildSlice 25 0 #[]) w2 (.slice p22 l22 c22) w3 ∧
        ∃ (p24 : Option Addr) (l24 : Nat) (c24 : Nat) (w4 : World), Ef Tryz.prog (Builtin.append_ #[25, 25] 25 #[.slice p22 l22 c22, .slice p1 l1 c1]) w3 (.slice p24 l24 c24) w4 ∧
        Q (.tuple #[.slice p24 l24 c24, .int .i64 0]) w4)
      (∃ (n26 : Int), Ld Tryz.prog 3 (.pointer (some ((⟨k3, 0, none⟩ : Addr).add 0))) w2 (.int .i64 n26) ∧
        cond (n26 == 2)
        (∃ (p29 : Option Addr) (l29 : Nat) (c29 : Nat), Pu Tryz.prog (Instr.sliceAt 22 (.pointer (some ((⟨k3, 0, none⟩ : Addr).add 3))) none none none) (.slice p29 l29 c29) ∧
          callF Tryz.prog 63 #[.slice p29 l29 c29, .slice p1 l1 c1, .slice p2 l2 c2] w2 fun r32 w5 =>
          ∃ (p32 : Option Addr) (l32 : Nat) (c32 : Nat) (n32 : Int), r32 = .tuple #[.slice p32 l32 c32, .int .i64 n32] ∧
          Q (.tuple #[.slice p32 l32 c32, .int .i64 n32]) w5)
        (∃ (a36 : Addr), IxA Tryz.prog 74 (.slice p2 l2 c2) (.int .i64 0) a36 ∧
          ∃ (n37 : Int), Ld Tryz.prog 3 (.pointer (some a36)) w2 (.int .i64 n37) ∧
          cond (n37 == 1)
          (∃ (p40 : Option Addr) (l40 : Nat) (c40 : Nat), Pu Tryz.prog (Instr.sliceAt 22 (.pointer (some ((⟨k3, 0, none⟩ : Addr).add 3))) none none none) (.slice p40 l40 c40) ∧
            callF Tryz.prog 64 #[.slice p40 l40 c40, .slice p1 l1 c1] w2 fun r42 w6 =>
            ∃ (p42 : Option Addr) (l42 : Nat) (c42 : Nat), r42 = .slice p42 l42 c42 ∧
            Q (.tuple #[.slice p42 l42 c42, .int .i64 0]) w6)
          (∃ (p44 : Option Addr) (l44 : Nat) (c44 : Nat), Pu Tryz.prog (Instr.sliceAt 22 (.pointer (some ((⟨k3, 0, none⟩ : Addr).add 3))) none none none) (.slice p44 l44 c44) ∧
            callF Tryz.prog 65 #[.slice p44 l44 c44, .slice p1 l1 c1] w2 fun r46 w7 =>
            ∃ (p46 : Option Addr) (l46 : Nat) (c46 : Nat), r46 = .slice p46 l46 c46 ∧
            Q (.tuple #[.slice p46 l46 c46, .int .i64 0]) w7)))))
def ref16_turn_tt : Nat → List (Nat × TypeId) := fun _ => []
theorem ref16_turn_call (cs0 : Array Value) (p1 : Option Addr) (l1 : Nat) (c1 : Nat) (p2 : Option Addr) (l2 : Nat) (c2 : Nat) (w : World) (Q : Value → World → Prop) (h : ref16_turn cs0 p1 l1 c1 p2 l2 c2 w Q) : callF Tryz.prog 46 #[.agg cs0, .slice p1 l1 c1, .slice p2 l2 c2] w Q :=
  callF_of (fun _ _ => by kernel_rfl) (callK_of_sw ref16_turn_tt Tryz.func46 rfl (by kernel_rfl) (show sw Tryz.prog none 47 ref16_turn_tt _ 0 (endK Tryz.prog [.tmp 6, .tmp 7] Q) ⟨regs [.agg cs0, .slice p1 l1 c1, .slice p2 l2 c2], []⟩ w from
    Eq.mp (by kernel_rfl : ref16_turn cs0 p1 l1 c1 p2 l2 c2 w Q = sw Tryz.prog none 47 ref16_turn_tt (Tryz.f46.body.getD .skip) 0 (endK Tryz.prog [.tmp 6, .tmp 7] Q) ⟨regs [.agg cs0, .slice p1 l1 c1, .slice p2 l2 c2], []⟩ w) h))
end Go.Sh
end
