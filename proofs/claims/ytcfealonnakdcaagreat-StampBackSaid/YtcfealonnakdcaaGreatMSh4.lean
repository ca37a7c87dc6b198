/- A part of a proof of a given law of this program: lemmas, printed forms of its functions, contracts. It has no conditions of its own. -/
import Derived.Test.YtcfealonnakdcaaGreatProg
import Derived.Test.YtcfealonnakdcaaGreatMFw

section
namespace Go.Sh
open Go Go.Fw Go.Proofs
set_option maxRecDepth 100000
set_option linter.unusedVariables false
def scan_Write  (w : World) (Q : Value → World → Prop) : Prop :=
  New #[.int .i64 0, .slice none 0 0] 290 w fun k2 w1 =>
  Q (.pointer (some (⟨k2, 0, none⟩ : Addr))) w1
def scan_Write_tt : Nat → List (Nat × TypeId) := fun _ => []
theorem scan_Write_call  (w : World) (Q : Value → World → Prop) (h : scan_Write  w Q) : callF Tryz.prog 122 #[] w Q :=
  callBy scan_Write_tt Tryz.func122 h (fun _ _ => by kernel_rfl) (by kernel_rfl) (by kernel_rfl) (by kernel_rfl)
def scan_Writer_Short (p0 : Option Addr) (p1 : Option Addr) (l1 : Nat) (c1 : Nat) (w : World) (Q : Value → World → Prop) : Prop :=
  cond (decide (((l1 : Nat) : Int) > 255))
  (callF Tryz.prog 194 #[.pointer p0, .slice none 0 0, .int .i64 15] w fun r9 w1 =>
    ∃ p9, r9 = .pointer p9 ∧
    Q (.pointer p9) w1)
  (callF Tryz.prog 140 #[.pointer p0, .int .u64 (IntKind.u64.wrap ((l1 : Nat) : Int)), .int .i64 1] w fun r14 w2 =>
    ∃ p14, r14 = .pointer p14 ∧
    ∃ p16 l16 c16 w3, Ef Tryz.prog (Instr.buildSlice 45 1 #[(0, .slice p1 l1 c1)]) w2 (.slice p16 l16 c16) w3 ∧
    callF Tryz.prog 124 #[.pointer p14, .slice p16 l16 c16] w3 fun r17 w4 =>
    ∃ p17, r17 = .pointer p17 ∧
    Q (.pointer p17) w4)
def scan_Writer_Short_tt : Nat → List (Nat × TypeId) := fun _ => []
theorem scan_Writer_Short_call (p0 : Option Addr) (p1 : Option Addr) (l1 : Nat) (c1 : Nat) (w : World) (Q : Value → World → Prop) (h : scan_Writer_Short p0 p1 l1 c1 w Q) : callF Tryz.prog 123 #[.pointer p0, .slice p1 l1 c1] w Q :=
  callBy scan_Writer_Short_tt Tryz.func123 h (fun _ _ => by kernel_rfl) (by kernel_rfl) (by kernel_rfl) (by kernel_rfl)
def scan_Writer_Bytes (p0 : Option Addr) (p1 : Option Addr) (l1 : Nat) (c1 : Nat) (w : World) (Q : Value → World → Prop) : Prop :=
  callF Tryz.prog 112 #[.slice p1 l1 c1] w fun r7 w1 =>
  ∃ p7 l7 c7, r7 = .slice p7 l7 c7 ∧
  callF Tryz.prog 194 #[.pointer p0, .slice p7 l7 c7, .int .i64 0] w1 fun r8 w2 =>
  ∃ p8, r8 = .pointer p8 ∧
  Q (.pointer p8) w2
def scan_Writer_Bytes_tt : Nat → List (Nat × TypeId) := fun _ => []
theorem scan_Writer_Bytes_call (p0 : Option Addr) (p1 : Option Addr) (l1 : Nat) (c1 : Nat) (w : World) (Q : Value → World → Prop) (h : scan_Writer_Bytes p0 p1 l1 c1 w Q) : callF Tryz.prog 124 #[.pointer p0, .slice p1 l1 c1] w Q :=
  callBy scan_Writer_Bytes_tt Tryz.func124 h (fun _ _ => by kernel_rfl) (by kernel_rfl) (by kernel_rfl) (by kernel_rfl)
def scan_Writer_Done (p0 : Option Addr) (w : World) (Q : Value → World → Prop) : Prop :=
  ∃ a5, p0 = some a5 ∧
  ∃ n8, Ld Tryz.prog 33 (.pointer (some ((a5.add 0).add 0))) w (.int .i64 n8) ∧
  cond (n8 != 0)
  (Drw w fun w1 =>
    ∃ a11, p0 = some a11 ∧
    ∃ n14, Ld Tryz.prog 33 (.pointer (some ((a11.add 0).add 0))) w1 (.int .i64 n14) ∧
    Q (.tuple #[.slice none 0 0, .int .i64 n14]) w1)
  (∃ a16, p0 = some a16 ∧
    ∃ p18 l18 c18, Ld Tryz.prog 25 (.pointer (some (a16.add 1))) w (.slice p18 l18 c18) ∧
    callF Tryz.prog 102 #[.slice p18 l18 c18] w fun r19 w2 =>
    ∃ p19 l19 c19, r19 = .slice p19 l19 c19 ∧
    Q (.tuple #[.slice p19 l19 c19, .int .i64 0]) w2)
def scan_Writer_Done_tt : Nat → List (Nat × TypeId) := fun _ => []
theorem scan_Writer_Done_call (p0 : Option Addr) (w : World) (Q : Value → World → Prop) (h : scan_Writer_Done p0 w Q) : callF Tryz.prog 125 #[.pointer p0] w Q :=
  callBy scan_Writer_Done_tt Tryz.func125 h (fun _ _ => by kernel_rfl) (by kernel_rfl) (by kernel_rfl) (by kernel_rfl)
def scan_Read (p0 : Option Addr) (l0 : Nat) (c0 : Nat) (w : World) (Q : Value → World → Prop) : Prop :=
  New #[.int .i64 0, .slice p0 l0 c0] 253 w fun k5 w1 =>
  Q (.pointer (some (⟨k5, 0, none⟩ : Addr))) w1
def scan_Read_tt : Nat → List (Nat × TypeId) := fun _ => []
theorem scan_Read_call (p0 : Option Addr) (l0 : Nat) (c0 : Nat) (w : World) (Q : Value → World → Prop) (h : scan_Read p0 l0 c0 w Q) : callF Tryz.prog 129 #[.slice p0 l0 c0] w Q :=
  callBy scan_Read_tt Tryz.func129 h (fun _ _ => by kernel_rfl) (by kernel_rfl) (by kernel_rfl) (by kernel_rfl)
def scan_Reader_Bytes (p0 : Option Addr) (n1 : Int) (w : World) (Q : Value → World → Prop) : Prop :=
  Drw w fun w1 =>
  ∃ a6, p0 = some a6 ∧
  ∃ n11, Pu Tryz.prog (Builtin.max_ #[3, 3] 3 #[.int .i64 n1, .int .i64 0]) (.int .i64 n11) ∧
  callF Tryz.prog 201 #[.pointer p0, .int .i64 n1, .int .i64 n11] w1 fun r12 w2 =>
  ∃ n12, r12 = .int .i64 n12 ∧
  callF Tryz.prog 200 #[.pointer (some (a6.add 0)), .int .i64 n12] w2 fun r13 w3 =>
  ∃ b13, r13 = .bool b13 ∧
  cond b13
  (Q (.slice none 0 0) w3)
  (callF Tryz.prog 202 #[.pointer p0, .int .i64 n1] w3 fun r16 w4 =>
    ∃ p16 l16 c16, r16 = .slice p16 l16 c16 ∧
    Q (.slice p16 l16 c16) w4)
def scan_Reader_Bytes_tt : Nat → List (Nat × TypeId) := fun _ => []
theorem scan_Reader_Bytes_call (p0 : Option Addr) (n1 : Int) (w : World) (Q : Value → World → Prop) (h : scan_Reader_Bytes p0 n1 w Q) : callF Tryz.prog 130 #[.pointer p0, .int .i64 n1] w Q :=
  callBy scan_Reader_Bytes_tt Tryz.func130 h (fun _ _ => by kernel_rfl) (by kernel_rfl) (by kernel_rfl) (by kernel_rfl)
def scan_Reader_Rest (p0 : Option Addr) (w : World) (Q : Value → World → Prop) : Prop :=
  ∃ a5, p0 = some a5 ∧
  ∃ p7 l7 c7, Ld Tryz.prog 25 (.pointer (some (a5.add 1))) w (.slice p7 l7 c7) ∧
  callF Tryz.prog 130 #[.pointer p0, .int .i64 ((l7 : Nat) : Int)] w fun r9 w1 =>
  ∃ p9 l9 c9, r9 = .slice p9 l9 c9 ∧
  Q (.slice p9 l9 c9) w1
def scan_Reader_Rest_tt : Nat → List (Nat × TypeId) := fun _ => []
theorem scan_Reader_Rest_call (p0 : Option Addr) (w : World) (Q : Value → World → Prop) (h : scan_Reader_Rest p0 w Q) : callF Tryz.prog 131 #[.pointer p0] w Q :=
  callBy scan_Reader_Rest_tt Tryz.func131 h (fun _ _ => by kernel_rfl) (by kernel_rfl) (by kernel_rfl) (by kernel_rfl)
def scan_Writer_Num (p0 : Option Addr) (n1 : Int) (n2 : Int) (w : World) (Q : Value → World → Prop) : Prop :=
  callF Tryz.prog 204 #[.int .u64 n1, .int .i64 n2] w fun r10 w1 =>
  ∃ p10 l10 c10 n10, r10 = .tuple #[.slice p10 l10 c10, .int .i64 n10] ∧
  callF Tryz.prog 194 #[.pointer p0, .slice p10 l10 c10, .int .i64 n10] w1 fun r13 w2 =>
  ∃ p13, r13 = .pointer p13 ∧
  Q (.pointer p13) w2
def scan_Writer_Num_tt : Nat → List (Nat × TypeId) := fun _ => []
theorem scan_Writer_Num_call (p0 : Option Addr) (n1 : Int) (n2 : Int) (w : World) (Q : Value → World → Prop) (h : scan_Writer_Num p0 n1 n2 w Q) : callF Tryz.prog 140 #[.pointer p0, .int .u64 n1, .int .i64 n2] w Q :=
  callBy scan_Writer_Num_tt Tryz.func140 h (fun _ _ => by kernel_rfl) (by kernel_rfl) (by kernel_rfl) (by kernel_rfl)
def scan_Reader_Num (p0 : Option Addr) (n1 : Int) (w : World) (Q : Value → World → Prop) : Prop :=
  Drw w fun w1 =>
  ∃ a8, p0 = some a8 ∧
  callF Tryz.prog 201 #[.pointer p0, .int .i64 n1, .int .i64 8] w1 fun r12 w2 =>
  ∃ n12, r12 = .int .i64 n12 ∧
  callF Tryz.prog 200 #[.pointer (some (a8.add 0)), .int .i64 n12] w2 fun r13 w3 =>
  ∃ b13, r13 = .bool b13 ∧
  cond b13
  (Q (.int .u64 0) w3)
  (callF Tryz.prog 202 #[.pointer p0, .int .i64 n1] w3 fun r17 w4 =>
    ∃ p17 l17 c17, r17 = .slice p17 l17 c17 ∧
    callF Tryz.prog 205 #[.slice p17 l17 c17] w4 fun r18 w5 =>
    ∃ n18 n18_1, r18 = .tuple #[.int .u64 n18, .int .i64 n18_1] ∧
    Q (.int .u64 n18) w5)
def scan_Reader_Num_tt : Nat → List (Nat × TypeId) := fun _ => []
theorem scan_Reader_Num_call (p0 : Option Addr) (n1 : Int) (w : World) (Q : Value → World → Prop) (h : scan_Reader_Num p0 n1 w Q) : callF Tryz.prog 142 #[.pointer p0, .int .i64 n1] w Q :=
  callBy scan_Reader_Num_tt Tryz.func142 h (fun _ _ => by kernel_rfl) (by kernel_rfl) (by kernel_rfl) (by kernel_rfl)
def scan_Reader_Short (p0 : Option Addr) (w : World) (Q : Value → World → Prop) : Prop :=
  New #[.pointer p0] 215 w fun k1 w1 =>
  ∃ p3, Ld Tryz.prog 215 (.pointer (some (⟨k1, 0, none⟩ : Addr))) w1 (.pointer p3) ∧
  callF Tryz.prog 206 #[.pointer p3, .func (.func 207) #[] #[.pointer (some (⟨k1, 0, none⟩ : Addr))]] w1 fun r5 w2 =>
  ∃ p5 l5 c5, r5 = .slice p5 l5 c5 ∧
  Q (.slice p5 l5 c5) w2
def scan_Reader_Short_tt : Nat → List (Nat × TypeId) := fun _ => []
theorem scan_Reader_Short_call (p0 : Option Addr) (w : World) (Q : Value → World → Prop) (h : scan_Reader_Short p0 w Q) : callF Tryz.prog 143 #[.pointer p0] w Q :=
  callBy scan_Reader_Short_tt Tryz.func143 h (fun _ _ => by kernel_rfl) (by kernel_rfl) (by kernel_rfl) (by kernel_rfl)
def scan_fault_Err (p0 : Option Addr) (w : World) (Q : Value → World → Prop) : Prop :=
  ∃ a4, p0 = some a4 ∧
  ∃ n6, Ld Tryz.prog 33 (.pointer (some (a4.add 0))) w (.int .i64 n6) ∧
  Q (.int .i64 n6) w
def scan_fault_Err_tt : Nat → List (Nat × TypeId) := fun _ => []
theorem scan_fault_Err_call (p0 : Option Addr) (w : World) (Q : Value → World → Prop) (h : scan_fault_Err p0 w Q) : callF Tryz.prog 161 #[.pointer p0] w Q :=
  callBy scan_fault_Err_tt Tryz.func161 h (fun _ _ => by kernel_rfl) (by kernel_rfl) (by kernel_rfl) (by kernel_rfl)
def scan_Writer_put (p0 : Option Addr) (p1 : Option Addr) (l1 : Nat) (c1 : Nat) (n2 : Int) (w : World) (Q : Value → World → Prop) : Prop :=
  ∃ a8, p0 = some a8 ∧
  callF Tryz.prog 200 #[.pointer (some (a8.add 0)), .int .i64 n2] w fun r11 w1 =>
  ∃ b11, r11 = .bool b11 ∧
  cond (!b11)
  (∃ a15, p0 = some a15 ∧
    ∃ p17 l17 c17, Ld Tryz.prog 25 (.pointer (some (a15.add 1))) w1 (.slice p17 l17 c17) ∧
    ∃ p19 l19 c19 w2, Ef Tryz.prog (Builtin.append_ #[25, 25] 25 #[.slice p17 l17 c17, .slice p1 l1 c1]) w1 (.slice p19 l19 c19) w2 ∧
    ∃ a20, p0 = some a20 ∧
    ∃ w3, Sto Tryz.prog 25 (.pointer (some (a20.add 1))) (.slice p19 l19 c19) w2 w3 ∧
    Q (.pointer p0) w3)
  (Q (.pointer p0) w1)
def scan_Writer_put_tt : Nat → List (Nat × TypeId) := fun _ => []
theorem scan_Writer_put_call (p0 : Option Addr) (p1 : Option Addr) (l1 : Nat) (c1 : Nat) (n2 : Int) (w : World) (Q : Value → World → Prop) (h : scan_Writer_put p0 p1 l1 c1 n2 w Q) : callF Tryz.prog 194 #[.pointer p0, .slice p1 l1 c1, .int .i64 n2] w Q :=
  callBy scan_Writer_put_tt Tryz.func194 h (fun _ _ => by kernel_rfl) (by kernel_rfl) (by kernel_rfl) (by kernel_rfl)
def scan_fault_fail_j1 (p0 : Option Addr) (b4 : Bool) (w : World) (Q : Value → World → Prop) : Prop :=
  ∃ a15, p0 = some a15 ∧
  ∃ n17, Ld Tryz.prog 33 (.pointer (some (a15.add 0))) w (.int .i64 n17) ∧
  Q (.bool (n17 != 0)) w
def scan_fault_fail (p0 : Option Addr) (n1 : Int) (w : World) (Q : Value → World → Prop) : Prop :=
  ∃ a6, p0 = some a6 ∧
  ∃ n8, Ld Tryz.prog 33 (.pointer (some (a6.add 0))) w (.int .i64 n8) ∧
  cond (n8 == 0)
  (∃ a12, p0 = some a12 ∧
    ∃ w1, Sto Tryz.prog 33 (.pointer (some (a12.add 0))) (.int .i64 n1) w w1 ∧
    scan_fault_fail_j1 p0 false w1 Q)
  (scan_fault_fail_j1 p0 false w Q)
def scan_fault_fail_tt : Nat → List (Nat × TypeId) := fun _ => []
theorem scan_fault_fail_call (p0 : Option Addr) (n1 : Int) (w : World) (Q : Value → World → Prop) (h : scan_fault_fail p0 n1 w Q) : callF Tryz.prog 200 #[.pointer p0, .int .i64 n1] w Q :=
  callBy scan_fault_fail_tt Tryz.func200 h (fun _ _ => by kernel_rfl) (by kernel_rfl) (by kernel_rfl) (by kernel_rfl)
def scan_Reader_check_j1 (p0 : Option Addr) (n1 : Int) (n6 : Int) (b7 : Bool) (w : World) (Q : Value → World → Prop) : Prop :=
  cond b7
  (Q (.int .i64 11) w)
  (∃ a18, p0 = some a18 ∧
    ∃ p20 l20 c20, Ld Tryz.prog 25 (.pointer (some (a18.add 1))) w (.slice p20 l20 c20) ∧
    cond (decide (n1 > ((l20 : Nat) : Int)))
    (Q (.int .i64 12) w)
    (Q (.int .i64 0) w))
def scan_Reader_check (p0 : Option Addr) (n1 : Int) (n2 : Int) (w : World) (Q : Value → World → Prop) : Prop :=
  cond (decide (n1 < 0))
  (scan_Reader_check_j1 p0 n1 0 true w Q)
  (scan_Reader_check_j1 p0 n1 0 (decide (n1 > n2)) w Q)
def scan_Reader_check_tt : Nat → List (Nat × TypeId) := fun _ => []
theorem scan_Reader_check_call (p0 : Option Addr) (n1 : Int) (n2 : Int) (w : World) (Q : Value → World → Prop) (h : scan_Reader_check p0 n1 n2 w Q) : callF Tryz.prog 201 #[.pointer p0, .int .i64 n1, .int .i64 n2] w Q :=
  callBy scan_Reader_check_tt Tryz.func201 h (fun _ _ => by kernel_rfl) (by kernel_rfl) (by kernel_rfl) (by kernel_rfl)
def scan_Reader_cut (p0 : Option Addr) (n1 : Int) (w : World) (Q : Value → World → Prop) : Prop :=
  ∃ a7, p0 = some a7 ∧
  ∃ p9 l9 c9, Ld Tryz.prog 25 (.pointer (some (a7.add 1))) w (.slice p9 l9 c9) ∧
  ∃ p11 l11 c11, Pu Tryz.prog (Instr.sliceAt 25 (.slice p9 l9 c9) none (some (.int .i64 n1)) none) (.slice p11 l11 c11) ∧
  callF Tryz.prog 102 #[.slice p11 l11 c11] w fun r12 w1 =>
  ∃ p12 l12 c12, r12 = .slice p12 l12 c12 ∧
  ∃ a15, p0 = some a15 ∧
  ∃ p17 l17 c17, Ld Tryz.prog 25 (.pointer (some (a15.add 1))) w1 (.slice p17 l17 c17) ∧
  ∃ p19 l19 c19, Pu Tryz.prog (Instr.sliceAt 25 (.slice p17 l17 c17) (some (.int .i64 n1)) none none) (.slice p19 l19 c19) ∧
  ∃ a20, p0 = some a20 ∧
  ∃ w2, Sto Tryz.prog 25 (.pointer (some (a20.add 1))) (.slice p19 l19 c19) w1 w2 ∧
  Q (.slice p12 l12 c12) w2
def scan_Reader_cut_tt : Nat → List (Nat × TypeId) := fun _ => []
theorem scan_Reader_cut_call (p0 : Option Addr) (n1 : Int) (w : World) (Q : Value → World → Prop) (h : scan_Reader_cut p0 n1 w Q) : callF Tryz.prog 202 #[.pointer p0, .int .i64 n1] w Q :=
  callBy scan_Reader_cut_tt Tryz.func202 h (fun _ _ => by kernel_rfl) (by kernel_rfl) (by kernel_rfl) (by kernel_rfl)
def scan_Reader_counted_j1 (p0 : Option Addr) (p4 : Option Addr) (l4 : Nat) (c4 : Nat) (p5 : Option Addr) (l5 : Nat) (c5 : Nat) (n6 : Int) (w : World) (Q : Value → World → Prop) : Prop :=
  ∃ a26, p0 = some a26 ∧
  ∃ n29, Ld Tryz.prog 33 (.pointer (some ((a26.add 0).add 0))) w (.int .i64 n29) ∧
  cond (n29 != 0)
  (∃ a33, p0 = some a33 ∧
    ∃ w1, Sto Tryz.prog 25 (.pointer (some (a33.add 1))) (.slice p5 l5 c5) w w1 ∧
    Q (.slice none 0 0) w1)
  (callF Tryz.prog 202 #[.pointer p0, .int .i64 (IntKind.i64.wrap n6)] w fun r38 w2 =>
    ∃ p38 l38 c38, r38 = .slice p38 l38 c38 ∧
    Q (.slice p38 l38 c38) w2)
def scan_Reader_counted (p0 : Option Addr) (v1 : Value) (w : World) (Q : Value → World → Prop) : Prop :=
  ∃ a8, p0 = some a8 ∧
  ∃ p10 l10 c10, Ld Tryz.prog 25 (.pointer (some (a8.add 1))) w (.slice p10 l10 c10) ∧
  callV Tryz.prog (v1) [] w fun r12 w1 =>
  ∃ n12, r12 = .int .u64 n12 ∧
  ∃ a15, p0 = some a15 ∧
  ∃ p17 l17 c17, Ld Tryz.prog 25 (.pointer (some (a15.add 1))) w1 (.slice p17 l17 c17) ∧
  cond (decide (n12 > (IntKind.u64.wrap ((l17 : Nat) : Int))))
  (∃ a22, p0 = some a22 ∧
    callF Tryz.prog 200 #[.pointer (some (a22.add 0)), .int .i64 12] w1 fun r24 w2 =>
    ∃ b24, r24 = .bool b24 ∧
    scan_Reader_counted_j1 p0 none 0 0 p10 l10 c10 n12 w2 Q)
  (scan_Reader_counted_j1 p0 none 0 0 p10 l10 c10 n12 w1 Q)
def scan_Reader_counted_tt : Nat → List (Nat × TypeId) := fun _ => []
theorem scan_Reader_counted_call (p0 : Option Addr) (v1 : Value) (w : World) (Q : Value → World → Prop) (h : scan_Reader_counted p0 v1 w Q) : callF Tryz.prog 206 #[.pointer p0, v1] w Q :=
  callBy scan_Reader_counted_tt Tryz.func206 h (fun _ _ => by kernel_rfl) (by kernel_rfl) (by kernel_rfl) (by kernel_rfl)
def scan_Reader_Short_c1 (p0 : Option Addr) (w : World) (Q : Value → World → Prop) : Prop :=
  ∃ p2, Ld Tryz.prog 215 (.pointer p0) w (.pointer p2) ∧
  callF Tryz.prog 142 #[.pointer p2, .int .i64 1] w fun r3 w1 =>
  ∃ n3, r3 = .int .u64 n3 ∧
  Q (.int .u64 n3) w1
def scan_Reader_Short_c1_tt : Nat → List (Nat × TypeId) := fun _ => []
theorem scan_Reader_Short_c1_call (p0 : Option Addr) (w : World) (Q : Value → World → Prop) (h : scan_Reader_Short_c1 p0 w Q) : callF Tryz.prog 207 #[.pointer p0] w Q :=
  callBy scan_Reader_Short_c1_tt Tryz.func207 h (fun _ _ => by kernel_rfl) (by kernel_rfl) (by kernel_rfl) (by kernel_rfl)
end Go.Sh
end
