/- A part of a proof of a given law of this program: lemmas, printed forms of its functions, contracts. It has no conditions of its own. -/
import Derived.Test.YtlphgbgfnjhhcaaProg
import Derived.Test.YtlphgbgfnjhhcaaMFw

section
namespace Go.Sh
open Go Go.Fw Go.Proofs
set_option maxRecDepth 100000
set_option linter.unusedVariables false

/-! ### crossway/scan.Read: function 137 -/

def scan_Read (p0 : Option Addr) (l0 : Nat) (c0 : Nat) (w : World) (Q : Value → World → Prop) : Prop :=
  New #[.int .i64 0, .slice p0 l0 c0] 209 w fun k5 w1 =>
  Q (.pointer (some (⟨k5, 0, none⟩ : Addr))) w1

def scan_Read_tt : Nat → List (Nat × TypeId) := fun _ => []

theorem scan_Read_call (p0 : Option Addr) (l0 : Nat) (c0 : Nat) (w : World) (Q : Value → World → Prop) (h : scan_Read p0 l0 c0 w Q) : callF Try.prog 137 #[.slice p0 l0 c0] w Q :=
  callF_of (fun _ _ => by kernel_rfl) (callK_of_sw scan_Read_tt Try.func137 rfl (by kernel_rfl) (show sw Try.prog none 6 scan_Read_tt _ 0 (endK Try.prog [.tmp 2] Q) ⟨regs [.slice p0 l0 c0], []⟩ w from
    Eq.mp (by kernel_rfl : scan_Read p0 l0 c0 w Q = sw Try.prog none 6 scan_Read_tt (Try.f137.body.getD .skip) 0 (endK Try.prog [.tmp 2] Q) ⟨regs [.slice p0 l0 c0], []⟩ w) h))


/-! ### (*crossway/scan.Reader).Num: function 138 -/

def scan_Reader_Num (p0 : Option Addr) (n1 : Int) (w : World) (Q : Value → World → Prop) : Prop :=
  Drw w fun w1 =>
  ∃ (a8 : Addr), p0 = some a8 ∧
  callF Try.prog 160 #[.pointer p0, .int .i64 n1, .int .i64 8] w1 fun r12 w2 =>
  ∃ (n12 : Int), r12 = .int .i64 n12 ∧
  callF Try.prog 159 #[.pointer (some (a8.add 0)), .int .i64 n12] w2 fun r13 w3 =>
  ∃ (b13 : Bool), r13 = .bool b13 ∧
  cond b13
  (Q (.int .u64 0) w3)
  (callF Try.prog 161 #[.pointer p0, .int .i64 n1] w3 fun r17 w4 =>
    ∃ (p17 : Option Addr) (l17 : Nat) (c17 : Nat), r17 = .slice p17 l17 c17 ∧
    callF Try.prog 122 #[.slice p17 l17 c17] w4 fun r18 w5 =>
    ∃ (n18 : Int) (n18_1 : Int), r18 = .tuple #[.int .u64 n18, .int .i64 n18_1] ∧
    Q (.int .u64 n18) w5)

def scan_Reader_Num_tt : Nat → List (Nat × TypeId) := fun _ => []

theorem scan_Reader_Num_call (p0 : Option Addr) (n1 : Int) (w : World) (Q : Value → World → Prop) (h : scan_Reader_Num p0 n1 w Q) : callF Try.prog 138 #[.pointer p0, .int .i64 n1] w Q :=
  callF_of (fun _ _ => by kernel_rfl) (callK_of_sw scan_Reader_Num_tt Try.func138 rfl (by kernel_rfl) (show sw Try.prog none 22 scan_Reader_Num_tt _ 0 (endK Try.prog [.tmp 4] Q) ⟨regs [.pointer p0, .int .i64 n1], []⟩ w from
    Eq.mp (by kernel_rfl : scan_Reader_Num p0 n1 w Q = sw Try.prog none 22 scan_Reader_Num_tt (Try.f138.body.getD .skip) 0 (endK Try.prog [.tmp 4] Q) ⟨regs [.pointer p0, .int .i64 n1], []⟩ w) h))


/-! ### (*crossway/scan.Reader).Bytes: function 139 -/

def scan_Reader_Bytes (p0 : Option Addr) (n1 : Int) (w : World) (Q : Value → World → Prop) : Prop :=
  Drw w fun w1 =>
  ∃ (a6 : Addr), p0 = some a6 ∧
  ∃ (n11 : Int), Pu Try.prog (Builtin.max_ #[3, 3] 3 #[.int .i64 n1, .int .i64 0]) (.int .i64 n11) ∧
  callF Try.prog 160 #[.pointer p0, .int .i64 n1, .int .i64 n11] w1 fun r12 w2 =>
  ∃ (n12 : Int), r12 = .int .i64 n12 ∧
  callF Try.prog 159 #[.pointer (some (a6.add 0)), .int .i64 n12] w2 fun r13 w3 =>
  ∃ (b13 : Bool), r13 = .bool b13 ∧
  cond b13
  (Q (.slice none 0 0) w3)
  (callF Try.prog 161 #[.pointer p0, .int .i64 n1] w3 fun r16 w4 =>
    ∃ (p16 : Option Addr) (l16 : Nat) (c16 : Nat), r16 = .slice p16 l16 c16 ∧
    Q (.slice p16 l16 c16) w4)

def scan_Reader_Bytes_tt : Nat → List (Nat × TypeId) := fun _ => []

theorem scan_Reader_Bytes_call (p0 : Option Addr) (n1 : Int) (w : World) (Q : Value → World → Prop) (h : scan_Reader_Bytes p0 n1 w Q) : callF Try.prog 139 #[.pointer p0, .int .i64 n1] w Q :=
  callF_of (fun _ _ => by kernel_rfl) (callK_of_sw scan_Reader_Bytes_tt Try.func139 rfl (by kernel_rfl) (show sw Try.prog none 17 scan_Reader_Bytes_tt _ 0 (endK Try.prog [.tmp 4] Q) ⟨regs [.pointer p0, .int .i64 n1], []⟩ w from
    Eq.mp (by kernel_rfl : scan_Reader_Bytes p0 n1 w Q = sw Try.prog none 17 scan_Reader_Bytes_tt (Try.f139.body.getD .skip) 0 (endK Try.prog [.tmp 4] Q) ⟨regs [.pointer p0, .int .i64 n1], []⟩ w) h))


/-! ### (*crossway/scan.Reader).End: function 140 -/

def scan_Reader_End_j1 (p0 : Option Addr) (n2 : Int) (w : World) (Q : Value → World → Prop) : Prop :=
  ∃ (a14 : Addr), p0 = some a14 ∧
  ∃ (n17 : Int), Ld Try.prog 32 (.pointer (some ((a14.add 0).add 0))) w (.int .i64 n17) ∧
  Q (.int .i64 n17) w

def scan_Reader_End (p0 : Option Addr) (w : World) (Q : Value → World → Prop) : Prop :=
  ∃ (a4 : Addr), p0 = some a4 ∧
  ∃ (p6 : Option Addr) (l6 : Nat) (c6 : Nat), Ld Try.prog 50 (.pointer (some (a4.add 1))) w (.slice p6 l6 c6) ∧
  cond (decide (((l6 : Nat) : Int) > 0))
  (∃ (a10 : Addr), p0 = some a10 ∧
    callF Try.prog 159 #[.pointer (some (a10.add 0)), .int .i64 10] w fun r12 w1 =>
    ∃ (b12 : Bool), r12 = .bool b12 ∧
    scan_Reader_End_j1 p0 0 w1 Q)
  (scan_Reader_End_j1 p0 0 w Q)

def scan_Reader_End_tt : Nat → List (Nat × TypeId) := fun _ => []

theorem scan_Reader_End_call (p0 : Option Addr) (w : World) (Q : Value → World → Prop) (h : scan_Reader_End p0 w Q) : callF Try.prog 140 #[.pointer p0] w Q :=
  callF_of (fun _ _ => by kernel_rfl) (callK_of_sw scan_Reader_End_tt Try.func140 rfl (by kernel_rfl) (show sw Try.prog none 18 scan_Reader_End_tt _ 0 (endK Try.prog [.tmp 2] Q) ⟨regs [.pointer p0], []⟩ w from
    Eq.mp (by kernel_rfl : scan_Reader_End p0 w Q = sw Try.prog none 18 scan_Reader_End_tt (Try.f140.body.getD .skip) 0 (endK Try.prog [.tmp 2] Q) ⟨regs [.pointer p0], []⟩ w) h))


/-! ### (*crossway/scan.fault).fail: function 159 -/

def scan_fault_fail_j1 (p0 : Option Addr) (b4 : Bool) (w : World) (Q : Value → World → Prop) : Prop :=
  ∃ (a15 : Addr), p0 = some a15 ∧
  ∃ (n17 : Int), Ld Try.prog 32 (.pointer (some (a15.add 0))) w (.int .i64 n17) ∧
  Q (.bool (n17 != 0)) w

def scan_fault_fail (p0 : Option Addr) (n1 : Int) (w : World) (Q : Value → World → Prop) : Prop :=
  ∃ (a6 : Addr), p0 = some a6 ∧
  ∃ (n8 : Int), Ld Try.prog 32 (.pointer (some (a6.add 0))) w (.int .i64 n8) ∧
  cond (n8 == 0)
  (∃ (a12 : Addr), p0 = some a12 ∧
    ∃ (w1 : World), Sto Try.prog 32 (.pointer (some (a12.add 0))) (.int .i64 n1) w w1 ∧
    scan_fault_fail_j1 p0 false w1 Q)
  (scan_fault_fail_j1 p0 false w Q)

def scan_fault_fail_tt : Nat → List (Nat × TypeId) := fun _ => []

theorem scan_fault_fail_call (p0 : Option Addr) (n1 : Int) (w : World) (Q : Value → World → Prop) (h : scan_fault_fail p0 n1 w Q) : callF Try.prog 159 #[.pointer p0, .int .i64 n1] w Q :=
  callF_of (fun _ _ => by kernel_rfl) (callK_of_sw scan_fault_fail_tt Try.func159 rfl (by kernel_rfl) (show sw Try.prog none 19 scan_fault_fail_tt _ 0 (endK Try.prog [.tmp 4] Q) ⟨regs [.pointer p0, .int .i64 n1], []⟩ w from
    Eq.mp (by kernel_rfl : scan_fault_fail p0 n1 w Q = sw Try.prog none 19 scan_fault_fail_tt (Try.f159.body.getD .skip) 0 (endK Try.prog [.tmp 4] Q) ⟨regs [.pointer p0, .int .i64 n1], []⟩ w) h))


/-! ### (*crossway/scan.Reader).check: function 160 -/

def scan_Reader_check_j1 (p0 : Option Addr) (n1 : Int) (n6 : Int) (b7 : Bool) (w : World) (Q : Value → World → Prop) : Prop :=
  cond b7
  (Q (.int .i64 11) w)
  (∃ (a18 : Addr), p0 = some a18 ∧
    ∃ (p20 : Option Addr) (l20 : Nat) (c20 : Nat), Ld Try.prog 50 (.pointer (some (a18.add 1))) w (.slice p20 l20 c20) ∧
    cond (decide (n1 > ((l20 : Nat) : Int)))
    (Q (.int .i64 12) w)
    (Q (.int .i64 0) w))

def scan_Reader_check (p0 : Option Addr) (n1 : Int) (n2 : Int) (w : World) (Q : Value → World → Prop) : Prop :=
  cond (decide (n1 < 0))
  (scan_Reader_check_j1 p0 n1 0 true w Q)
  (scan_Reader_check_j1 p0 n1 0 (decide (n1 > n2)) w Q)

def scan_Reader_check_tt : Nat → List (Nat × TypeId) := fun _ => []

theorem scan_Reader_check_call (p0 : Option Addr) (n1 : Int) (n2 : Int) (w : World) (Q : Value → World → Prop) (h : scan_Reader_check p0 n1 n2 w Q) : callF Try.prog 160 #[.pointer p0, .int .i64 n1, .int .i64 n2] w Q :=
  callF_of (fun _ _ => by kernel_rfl) (callK_of_sw scan_Reader_check_tt Try.func160 rfl (by kernel_rfl) (show sw Try.prog none 23 scan_Reader_check_tt _ 0 (endK Try.prog [.tmp 6] Q) ⟨regs [.pointer p0, .int .i64 n1, .int .i64 n2], []⟩ w from
    Eq.mp (by kernel_rfl : scan_Reader_check p0 n1 n2 w Q = sw Try.prog none 23 scan_Reader_check_tt (Try.f160.body.getD .skip) 0 (endK Try.prog [.tmp 6] Q) ⟨regs [.pointer p0, .int .i64 n1, .int .i64 n2], []⟩ w) h))


/-! ### (*crossway/scan.Reader).cut: function 161 -/

def scan_Reader_cut (p0 : Option Addr) (n1 : Int) (w : World) (Q : Value → World → Prop) : Prop :=
  ∃ (a7 : Addr), p0 = some a7 ∧
  ∃ (p9 : Option Addr) (l9 : Nat) (c9 : Nat), Ld Try.prog 50 (.pointer (some (a7.add 1))) w (.slice p9 l9 c9) ∧
  ∃ (p11 : Option Addr) (l11 : Nat) (c11 : Nat), Pu Try.prog (Instr.sliceAt 50 (.slice p9 l9 c9) none (some (.int .i64 n1)) none) (.slice p11 l11 c11) ∧
  callF Try.prog 107 #[.slice p11 l11 c11] w fun r12 w1 =>
  ∃ (p12 : Option Addr) (l12 : Nat) (c12 : Nat), r12 = .slice p12 l12 c12 ∧
  ∃ (a15 : Addr), p0 = some a15 ∧
  ∃ (p17 : Option Addr) (l17 : Nat) (c17 : Nat), Ld Try.prog 50 (.pointer (some (a15.add 1))) w1 (.slice p17 l17 c17) ∧
  ∃ (p19 : Option Addr) (l19 : Nat) (c19 : Nat), Pu Try.prog (Instr.sliceAt 50 (.slice p17 l17 c17) (some (.int .i64 n1)) none none) (.slice p19 l19 c19) ∧
  ∃ (a20 : Addr), p0 = some a20 ∧
  ∃ (w2 : World), Sto Try.prog 50 (.pointer (some (a20.add 1))) (.slice p19 l19 c19) w1 w2 ∧
  Q (.slice p12 l12 c12) w2

def scan_Reader_cut_tt : Nat → List (Nat × TypeId) := fun _ => []

theorem scan_Reader_cut_call (p0 : Option Addr) (n1 : Int) (w : World) (Q : Value → World → Prop) (h : scan_Reader_cut p0 n1 w Q) : callF Try.prog 161 #[.pointer p0, .int .i64 n1] w Q :=
  callF_of (fun _ _ => by kernel_rfl) (callK_of_sw scan_Reader_cut_tt Try.func161 rfl (by kernel_rfl) (show sw Try.prog none 23 scan_Reader_cut_tt _ 0 (endK Try.prog [.tmp 4] Q) ⟨regs [.pointer p0, .int .i64 n1], []⟩ w from
    Eq.mp (by kernel_rfl : scan_Reader_cut p0 n1 w Q = sw Try.prog none 23 scan_Reader_cut_tt (Try.f161.body.getD .skip) 0 (endK Try.prog [.tmp 4] Q) ⟨regs [.pointer p0, .int .i64 n1], []⟩ w) h))

end Go.Sh
end

section
namespace Go.Sh
open Go Go.Fw Go.Proofs
set_option maxRecDepth 100000
set_option linter.unusedVariables false

/-! ### (crossway/mode.Config).Right: function 88 -/

def mode_Config_Right_j1 (a1 : Addr) (b2 : Bool) (w : World) (Q : Value → World → Prop) : Prop :=
  ∃ (n25 : Int), Ld Try.prog 3 (.pointer (some (a1.add 0))) w (.int .i64 n25) ∧
  cond (n25 == 0)
  (∃ (cs29 : Array Value), Ld Try.prog 100 (.pointer (some (a1.add 3))) w (.agg cs29) ∧
    ∃ (b31 : Bool) (w1 : World), Ef Try.prog (do eqGuard .eql 100 (.tmp 29) (.tmp 30) (.agg cs29) (.agg #[.int .u8 0, .int .u8 0, .int .u8 0, .int .u8 0, .int .u8 0, .int .u8 0, .int .u8 0, .int .u8 0, .int .u8 0, .int .u8 0, .int .u8 0, .int .u8 0, .int .u8 0, .int .u8 0, .int .u8 0, .int .u8 0]); binOp .eql 100 (.agg cs29) (.agg #[.int .u8 0, .int .u8 0, .int .u8 0, .int .u8 0, .int .u8 0, .int .u8 0, .int .u8 0, .int .u8 0, .int .u8 0, .int .u8 0, .int .u8 0, .int .u8 0, .int .u8 0, .int .u8 0, .int .u8 0, .int .u8 0]) : Sem Value) w (.bool b31) w1 ∧
    Q (.bool b31) w1)
  (cond (n25 == 1)
    (∃ (cs34 : Array Value), Ld Try.prog 102 (.pointer (some a1)) w (.agg cs34) ∧
      callF Try.prog 135 #[.agg cs34] w fun r35 w2 =>
      ∃ (n35 : Int), r35 = .int .i64 n35 ∧
      Q (.bool (n35 == 16)) w2)
    (Q (.bool true) w))

def mode_Config_Right (cs0 : Array Value) (w : World) (Q : Value → World → Prop) : Prop :=
  New cs0 102 w fun k1 w1 =>
  ∃ (n4 : Int), Ld Try.prog 3 (.pointer (some ((⟨k1, 0, none⟩ : Addr).add 0))) w1 (.int .i64 n4) ∧
  callF Try.prog 134 #[.int .i64 n4, .int .i64 0, .int .i64 2] w1 fun r5 w2 =>
  ∃ (b5 : Bool), r5 = .bool b5 ∧
  cond (!b5)
  (Q (.bool false) w2)
  (∃ (n9 : Int), Ld Try.prog 3 (.pointer (some ((⟨k1, 0, none⟩ : Addr).add 1))) w2 (.int .i64 n9) ∧
    callF Try.prog 134 #[.int .i64 n9, .int .i64 1, .int .i64 15] w2 fun r10 w3 =>
    ∃ (b10 : Bool), r10 = .bool b10 ∧
    cond (!b10)
    (Q (.bool false) w3)
    (∃ (n15 : Int), Ld Try.prog 3 (.pointer (some ((⟨k1, 0, none⟩ : Addr).add 2))) w3 (.int .i64 n15) ∧
      callF Try.prog 134 #[.int .i64 n15, .int .i64 4, .int .i64 18] w3 fun r16 w4 =>
      ∃ (b16 : Bool), r16 = .bool b16 ∧
      cond (!b16)
      (Q (.bool false) w4)
      (∃ (cs20 : Array Value), Ld Try.prog 102 (.pointer (some (⟨k1, 0, none⟩ : Addr))) w4 (.agg cs20) ∧
        callF Try.prog 135 #[.agg cs20] w4 fun r21 w5 =>
        ∃ (n21 : Int), r21 = .int .i64 n21 ∧
        cond (decide (n21 > 19))
        (Q (.bool false) w5)
        (mode_Config_Right_j1 (⟨k1, 0, none⟩ : Addr) false w5 Q))))

def mode_Config_Right_tt : Nat → List (Nat × TypeId) := fun _ => []

theorem mode_Config_Right_call (cs0 : Array Value) (w : World) (Q : Value → World → Prop) (h : mode_Config_Right cs0 w Q) : callF Try.prog 88 #[.agg cs0] w Q :=
  callF_of (fun _ _ => by kernel_rfl) (callK_of_sw mode_Config_Right_tt Try.func88 rfl (by kernel_rfl) (show sw Try.prog none 37 mode_Config_Right_tt _ 0 (endK Try.prog [.tmp 2] Q) ⟨regs [.agg cs0], []⟩ w from
    Eq.mp (by kernel_rfl : mode_Config_Right cs0 w Q = sw Try.prog none 37 mode_Config_Right_tt (Try.f88.body.getD .skip) 0 (endK Try.prog [.tmp 2] Q) ⟨regs [.agg cs0], []⟩ w) h))


/-! ### (crossway/mode.Config).Size: function 89 -/

def mode_Config_Size (cs0 : Array Value) (w : World) (Q : Value → World → Prop) : Prop :=
  New cs0 102 w fun k1 w1 =>
  ∃ (cs3 : Array Value), Ld Try.prog 102 (.pointer (some (⟨k1, 0, none⟩ : Addr))) w1 (.agg cs3) ∧
  callF Try.prog 88 #[.agg cs3] w1 fun r4 w2 =>
  ∃ (b4 : Bool), r4 = .bool b4 ∧
  cond (!b4)
  (Q (.int .i64 0) w2)
  (∃ (cs6 : Array Value), Ld Try.prog 102 (.pointer (some (⟨k1, 0, none⟩ : Addr))) w2 (.agg cs6) ∧
    callF Try.prog 135 #[.agg cs6] w2 fun r7 w3 =>
    ∃ (n7 : Int), r7 = .int .i64 n7 ∧
    Q (.int .i64 (IntKind.i64.wrap (1 + n7))) w3)

def mode_Config_Size_tt : Nat → List (Nat × TypeId) := fun _ => []

theorem mode_Config_Size_call (cs0 : Array Value) (w : World) (Q : Value → World → Prop) (h : mode_Config_Size cs0 w Q) : callF Try.prog 89 #[.agg cs0] w Q :=
  callF_of (fun _ _ => by kernel_rfl) (callK_of_sw mode_Config_Size_tt Try.func89 rfl (by kernel_rfl) (show sw Try.prog none 9 mode_Config_Size_tt _ 0 (endK Try.prog [.tmp 2] Q) ⟨regs [.agg cs0], []⟩ w from
    Eq.mp (by kernel_rfl : mode_Config_Size cs0 w Q = sw Try.prog none 9 mode_Config_Size_tt (Try.f89.body.getD .skip) 0 (endK Try.prog [.tmp 2] Q) ⟨regs [.agg cs0], []⟩ w) h))


/-! ### (crossway/mode.Config).Bytes: function 96 -/

def mode_Config_Bytes (cs0 : Array Value) (w : World) (Q : Value → World → Prop) : Prop :=
  New cs0 102 w fun k1 w1 =>
  ∃ (cs3 : Array Value), Ld Try.prog 102 (.pointer (some (⟨k1, 0, none⟩ : Addr))) w1 (.agg cs3) ∧
  callF Try.prog 88 #[.agg cs3] w1 fun r4 w2 =>
  ∃ (b4 : Bool), r4 = .bool b4 ∧
  cond (!b4)
  (Q (.slice none 0 0) w2)
  (∃ (S3 : World → Prop),
    Drw w2 fun w3 =>
    ∃ (p17 : Option Addr) (l17 : Nat) (c17 : Nat), Pu Try.prog (Instr.sliceAt 100 (.pointer (some ((⟨k1, 0, none⟩ : Addr).add 3))) none none none) (.slice p17 l17 c17) ∧
    ∃ (n7 : Int), HLd Try.prog S3 3 (.pointer (some ((⟨k1, 0, none⟩ : Addr).add 0))) w3 (.int .i64 n7) ∧
    ∃ (n10 : Int), HLd Try.prog S3 3 (.pointer (some ((⟨k1, 0, none⟩ : Addr).add 1))) w3 (.int .i64 n10) ∧
    ∃ (n13 : Int), Ld Try.prog 3 (.pointer (some ((⟨k1, 0, none⟩ : Addr).add 2))) w3 (.int .i64 n13) ∧
    (w3 = w3 ∨ S3 w3) ∧
    ∃ (p15 : Option Addr) (l15 : Nat) (c15 : Nat) (w4 : World), Ef Try.prog (Instr.buildSlice 50 4 #[(0, .int .u8 (IntKind.u8.wrap n7)), (1, .int .u8 (IntKind.u8.wrap n10)), (2, .int .u8 (IntKind.u8.wrap n13)), (3, .int .u8 0)]) w3 (.slice p15 l15 c15) w4 ∧
    ∃ (p18 : Option Addr) (l18 : Nat) (c18 : Nat) (w5 : World), Ef Try.prog (Instr.buildSlice 68 2 #[(0, .slice p15 l15 c15), (1, .slice p17 l17 c17)]) w4 (.slice p18 l18 c18) w5 ∧
    callF Try.prog 124 #[.slice p18 l18 c18] w5 fun r19 w6 =>
    ∃ (p19 : Option Addr) (l19 : Nat) (c19 : Nat), r19 = .slice p19 l19 c19 ∧
    Q (.slice p19 l19 c19) w6)

def mode_Config_Bytes_tt : Nat → List (Nat × TypeId) := fun _ => []

theorem mode_Config_Bytes_call (cs0 : Array Value) (w : World) (Q : Value → World → Prop) (h : mode_Config_Bytes cs0 w Q) : callF Try.prog 96 #[.agg cs0] w Q :=
  callF_of (fun _ _ => by kernel_rfl) (callK_of_sw mode_Config_Bytes_tt Try.func96 rfl (by kernel_rfl) (show sw Try.prog none 20 mode_Config_Bytes_tt _ 0 (endK Try.prog [.tmp 2] Q) ⟨regs [.agg cs0], []⟩ w from
    Eq.mp (by kernel_rfl : mode_Config_Bytes cs0 w Q = sw Try.prog none 20 mode_Config_Bytes_tt (Try.f96.body.getD .skip) 0 (endK Try.prog [.tmp 2] Q) ⟨regs [.agg cs0], []⟩ w) h))


/-! ### crossway/mode.Read: function 97 -/

def mode_Read_j1 (a2 : Addr) (n3 : Int) (a5 : Addr) (w : World) (Q : Value → World → Prop) : Prop :=
  ∃ (cs43 : Array Value), Ld Try.prog 102 (.pointer (some a5)) w (.agg cs43) ∧
  ∃ (w1 : World), Sto Try.prog 102 (.pointer (some a2)) (.agg cs43) w w1 ∧
  ∃ (a2_1 : Addr) (v2 : Value), (.pointer (some a2) : Value) = .pointer (some a2_1) ∧ (loadVar 102 a2_1).run Try.prog w1 = .ok v2 w1 ∧
  Q (.tuple #[v2, .int .i64 0]) w1

def mode_Read_j2 (a2 : Addr) (n3 : Int) (a5 : Addr) (b41 : Bool) (w : World) (Q : Value → World → Prop) : Prop :=
  cond b41
  (∃ (w1 : World), Sto Try.prog 102 (.pointer (some a2)) (.agg #[.int .i64 0, .int .i64 0, .int .i64 0, .int .u8 0, .int .u8 0, .int .u8 0, .int .u8 0, .int .u8 0, .int .u8 0, .int .u8 0, .int .u8 0, .int .u8 0, .int .u8 0, .int .u8 0, .int .u8 0, .int .u8 0, .int .u8 0, .int .u8 0, .int .u8 0]) w w1 ∧
    ∃ (a2_1 : Addr) (v2 : Value), (.pointer (some a2) : Value) = .pointer (some a2_1) ∧ (loadVar 102 a2_1).run Try.prog w1 = .ok v2 w1 ∧
    Q (.tuple #[v2, .int .i64 10]) w1)
  (mode_Read_j1 a2 n3 a5 w Q)

def mode_Read (p0 : Option Addr) (l0 : Nat) (c0 : Nat) (w : World) (Q : Value → World → Prop) : Prop :=
  ∃ (z2 : Value), Pu Try.prog (zeroValue 102) z2 ∧
  New z2.cells 102 w fun k2 w1 =>
  cond (decide (((l0 : Nat) : Int) < 20))
  (∃ (w2 : World), Sto Try.prog 102 (.pointer (some (⟨k2, 0, none⟩ : Addr))) (.agg #[.int .i64 0, .int .i64 0, .int .i64 0, .int .u8 0, .int .u8 0, .int .u8 0, .int .u8 0, .int .u8 0, .int .u8 0, .int .u8 0, .int .u8 0, .int .u8 0, .int .u8 0, .int .u8 0, .int .u8 0, .int .u8 0, .int .u8 0, .int .u8 0, .int .u8 0]) w1 w2 ∧
    ∃ (a2 : Addr) (v2 : Value), (.pointer (some (⟨k2, 0, none⟩ : Addr)) : Value) = .pointer (some a2) ∧ (loadVar 102 a2).run Try.prog w2 = .ok v2 w2 ∧
    Q (.tuple #[v2, .int .i64 12]) w2)
  (callF Try.prog 137 #[.slice p0 l0 c0] w1 fun r12 w3 =>
    ∃ (p12 : Option Addr), r12 = .pointer p12 ∧
    callF Try.prog 138 #[.pointer p12, .int .i64 1] w3 fun r14 w4 =>
    ∃ (n14 : Int), r14 = .int .u64 n14 ∧
    callF Try.prog 138 #[.pointer p12, .int .i64 1] w4 fun r17 w5 =>
    ∃ (n17 : Int), r17 = .int .u64 n17 ∧
    callF Try.prog 138 #[.pointer p12, .int .i64 1] w5 fun r20 w6 =>
    ∃ (n20 : Int), r20 = .int .u64 n20 ∧
    ∃ (z5 : Value), Pu Try.prog (zeroValue 102) z5 ∧
    New z5.cells 102 w6 fun k5 w7 =>
    ∃ (w8 : World), Sto Try.prog 102 (.pointer (some (⟨k5, 0, none⟩ : Addr))) (.agg #[.int .i64 (IntKind.i64.wrap n14), .int .i64 (IntKind.i64.wrap n17), .int .i64 (IntKind.i64.wrap n20), .int .u8 0, .int .u8 0, .int .u8 0, .int .u8 0, .int .u8 0, .int .u8 0, .int .u8 0, .int .u8 0, .int .u8 0, .int .u8 0, .int .u8 0, .int .u8 0, .int .u8 0, .int .u8 0, .int .u8 0, .int .u8 0]) w7 w8 ∧
    callF Try.prog 138 #[.pointer p12, .int .i64 1] w8 fun r24 w9 =>
    ∃ (n24 : Int), r24 = .int .u64 n24 ∧
    Drw w9 fun w10 =>
    ∃ (p26 : Option Addr) (l26 : Nat) (c26 : Nat), Pu Try.prog (Instr.sliceAt 100 (.pointer (some ((⟨k5, 0, none⟩ : Addr).add 3))) none none none) (.slice p26 l26 c26) ∧
    callF Try.prog 139 #[.pointer p12, .int .i64 16] w10 fun r28 w11 =>
    ∃ (p28 : Option Addr) (l28 : Nat) (c28 : Nat), r28 = .slice p28 l28 c28 ∧
    ∃ (n29 : Int) (w12 : World), Ef Try.prog (Builtin.copy_ #[50, 50] 3 #[.slice p26 l26 c26, .slice p28 l28 c28]) w11 (.int .i64 n29) w12 ∧
    callF Try.prog 140 #[.pointer p12] w12 fun r31 w13 =>
    ∃ (n31 : Int), r31 = .int .i64 n31 ∧
    cond (n31 != 0)
    (mode_Read_j2 (⟨k2, 0, none⟩ : Addr) 0 (⟨k5, 0, none⟩ : Addr) true w13 Q)
    (cond (n24 != 0)
      (mode_Read_j2 (⟨k2, 0, none⟩ : Addr) 0 (⟨k5, 0, none⟩ : Addr) true w13 Q)
      (∃ (cs38 : Array Value), Ld Try.prog 102 (.pointer (some (⟨k5, 0, none⟩ : Addr))) w13 (.agg cs38) ∧
        callF Try.prog 88 #[.agg cs38] w13 fun r39 w14 =>
        ∃ (b39 : Bool), r39 = .bool b39 ∧
        mode_Read_j2 (⟨k2, 0, none⟩ : Addr) 0 (⟨k5, 0, none⟩ : Addr) (!b39) w14 Q)))

def mode_Read_tt : Nat → List (Nat × TypeId) := fun _ => []

theorem mode_Read_call (p0 : Option Addr) (l0 : Nat) (c0 : Nat) (w : World) (Q : Value → World → Prop) (h : mode_Read p0 l0 c0 w Q) : callF Try.prog 97 #[.slice p0 l0 c0] w Q :=
  callF_of (fun _ _ => by kernel_rfl) (callK_of_sw mode_Read_tt Try.func97 rfl (by kernel_rfl) (show sw Try.prog none 44 mode_Read_tt _ 0 (endK Try.prog [.cell 2 102, .tmp 3] Q) ⟨regs [.slice p0 l0 c0], []⟩ w from
    Eq.mp (by kernel_rfl : mode_Read p0 l0 c0 w Q = sw Try.prog none 44 mode_Read_tt (Try.f97.body.getD .skip) 0 (endK Try.prog [.cell 2 102, .tmp 3] Q) ⟨regs [.slice p0 l0 c0], []⟩ w) h))


/-! ### (crossway/mode.Config).Turn: function 98 -/

def mode_Config_Turn (cs0 : Array Value) (p1 : Option Addr) (l1 : Nat) (c1 : Nat) (w : World) (Q : Value → World → Prop) : Prop :=
  New cs0 102 w fun k2 w1 =>
  ∃ (cs6 : Array Value), Ld Try.prog 102 (.pointer (some (⟨k2, 0, none⟩ : Addr))) w1 (.agg cs6) ∧
  callF Try.prog 141 #[.agg cs6, .agg #[.func (.func 63) #[] #[], .func (.func 79) #[] #[]], .slice p1 l1 c1] w1 fun r9 w2 =>
  ∃ (p9 : Option Addr) (l9 : Nat) (c9 : Nat) (n9 : Int), r9 = .tuple #[.slice p9 l9 c9, .int .i64 n9] ∧
  Q (.tuple #[.slice p9 l9 c9, .int .i64 n9]) w2

def mode_Config_Turn_tt : Nat → List (Nat × TypeId) := fun _ => []

theorem mode_Config_Turn_call (cs0 : Array Value) (p1 : Option Addr) (l1 : Nat) (c1 : Nat) (w : World) (Q : Value → World → Prop) (h : mode_Config_Turn cs0 p1 l1 c1 w Q) : callF Try.prog 98 #[.agg cs0, .slice p1 l1 c1] w Q :=
  callF_of (fun _ _ => by kernel_rfl) (callK_of_sw mode_Config_Turn_tt Try.func98 rfl (by kernel_rfl) (show sw Try.prog none 12 mode_Config_Turn_tt _ 0 (endK Try.prog [.tmp 4, .tmp 5] Q) ⟨regs [.agg cs0, .slice p1 l1 c1], []⟩ w from
    Eq.mp (by kernel_rfl : mode_Config_Turn cs0 p1 l1 c1 w Q = sw Try.prog none 12 mode_Config_Turn_tt (Try.f98.body.getD .skip) 0 (endK Try.prog [.tmp 4, .tmp 5] Q) ⟨regs [.agg cs0, .slice p1 l1 c1], []⟩ w) h))


/-! ### (crossway/mode.Config).Back: function 99 -/

def mode_Config_Back (cs0 : Array Value) (p1 : Option Addr) (l1 : Nat) (c1 : Nat) (w : World) (Q : Value → World → Prop) : Prop :=
  New cs0 102 w fun k2 w1 =>
  ∃ (cs6 : Array Value), Ld Try.prog 102 (.pointer (some (⟨k2, 0, none⟩ : Addr))) w1 (.agg cs6) ∧
  callF Try.prog 141 #[.agg cs6, .agg #[.func (.func 67) #[] #[], .func (.func 81) #[] #[]], .slice p1 l1 c1] w1 fun r9 w2 =>
  ∃ (p9 : Option Addr) (l9 : Nat) (c9 : Nat) (n9 : Int), r9 = .tuple #[.slice p9 l9 c9, .int .i64 n9] ∧
  Q (.tuple #[.slice p9 l9 c9, .int .i64 n9]) w2

def mode_Config_Back_tt : Nat → List (Nat × TypeId) := fun _ => []

theorem mode_Config_Back_call (cs0 : Array Value) (p1 : Option Addr) (l1 : Nat) (c1 : Nat) (w : World) (Q : Value → World → Prop) (h : mode_Config_Back cs0 p1 l1 c1 w Q) : callF Try.prog 99 #[.agg cs0, .slice p1 l1 c1] w Q :=
  callF_of (fun _ _ => by kernel_rfl) (callK_of_sw mode_Config_Back_tt Try.func99 rfl (by kernel_rfl) (show sw Try.prog none 12 mode_Config_Back_tt _ 0 (endK Try.prog [.tmp 4, .tmp 5] Q) ⟨regs [.agg cs0, .slice p1 l1 c1], []⟩ w from
    Eq.mp (by kernel_rfl : mode_Config_Back cs0 p1 l1 c1 w Q = sw Try.prog none 12 mode_Config_Back_tt (Try.f99.body.getD .skip) 0 (endK Try.prog [.tmp 4, .tmp 5] Q) ⟨regs [.agg cs0, .slice p1 l1 c1], []⟩ w) h))


/-! ### crossway/mode.within: function 134 -/

def mode_within (n0 : Int) (n1 : Int) (n2 : Int) (w : World) (Q : Value → World → Prop) : Prop :=
  cond (decide (n0 ≥ n1))
  (Q (.bool (decide (n0 ≤ n2))) w)
  (Q (.bool false) w)

def mode_within_tt : Nat → List (Nat × TypeId) := fun _ => []

theorem mode_within_call (n0 : Int) (n1 : Int) (n2 : Int) (w : World) (Q : Value → World → Prop) (h : mode_within n0 n1 n2 w Q) : callF Try.prog 134 #[.int .i64 n0, .int .i64 n1, .int .i64 n2] w Q :=
  callF_of (fun _ _ => by kernel_rfl) (callK_of_sw mode_within_tt Try.func134 rfl (by kernel_rfl) (show sw Try.prog none 15 mode_within_tt _ 0 (endK Try.prog [.tmp 6] Q) ⟨regs [.int .i64 n0, .int .i64 n1, .int .i64 n2], []⟩ w from
    Eq.mp (by kernel_rfl : mode_within n0 n1 n2 w Q = sw Try.prog none 15 mode_within_tt (Try.f134.body.getD .skip) 0 (endK Try.prog [.tmp 6] Q) ⟨regs [.int .i64 n0, .int .i64 n1, .int .i64 n2], []⟩ w) h))


/-! ### (crossway/mode.Config).both: function 135 -/

def mode_Config_both (cs0 : Array Value) (w : World) (Q : Value → World → Prop) : Prop :=
  New cs0 102 w fun k1 w1 =>
  ∃ (n4 : Int), Ld Try.prog 3 (.pointer (some ((⟨k1, 0, none⟩ : Addr).add 1))) w1 (.int .i64 n4) ∧
  ∃ (n6 : Int), Ld Try.prog 3 (.pointer (some ((⟨k1, 0, none⟩ : Addr).add 2))) w1 (.int .i64 n6) ∧
  Q (.int .i64 (IntKind.i64.wrap (n4 + n6))) w1

def mode_Config_both_tt : Nat → List (Nat × TypeId) := fun _ => []

theorem mode_Config_both_call (cs0 : Array Value) (w : World) (Q : Value → World → Prop) (h : mode_Config_both cs0 w Q) : callF Try.prog 135 #[.agg cs0] w Q :=
  callF_of (fun _ _ => by kernel_rfl) (callK_of_sw mode_Config_both_tt Try.func135 rfl (by kernel_rfl) (show sw Try.prog none 8 mode_Config_both_tt _ 0 (endK Try.prog [.tmp 2] Q) ⟨regs [.agg cs0], []⟩ w from
    Eq.mp (by kernel_rfl : mode_Config_both cs0 w Q = sw Try.prog none 8 mode_Config_both_tt (Try.f135.body.getD .skip) 0 (endK Try.prog [.tmp 2] Q) ⟨regs [.agg cs0], []⟩ w) h))


/-! ### (crossway/mode.Config).by: function 141 -/

def mode_Config_by_j1 (p2 : Option Addr) (l2 : Nat) (c2 : Nat) (a3 : Addr) (a4 : Addr) (p6 : Option Addr) (l6 : Nat) (c6 : Nat) (n7 : Int) (w : World) (Q : Value → World → Prop) : Prop :=
  ∃ (p29 : Option Addr) (l29 : Nat) (c29 : Nat), Pu Try.prog (Instr.sliceAt 100 (.pointer (some (a3.add 3))) none none none) (.slice p29 l29 c29) ∧
  callF Try.prog 58 #[.slice p29 l29 c29] w fun r30 w1 =>
  ∃ (p30 : Option Addr) (n30 : Int), r30 = .tuple #[.pointer p30, .int .i64 n30] ∧
  ∃ (n34 : Int), Ld Try.prog 3 (.pointer (some (a3.add 0))) w1 (.int .i64 n34) ∧
  cond (n34 == 1)
  (∃ (v37 : Value), Ld Try.prog 89 (.pointer (some (a4.add 0))) w1 (v37) ∧
    callV Try.prog (v37) [.pointer p30, .slice p2 l2 c2] w1 fun r40 w2 =>
    ∃ (p40 : Option Addr) (l40 : Nat) (c40 : Nat) (n40 : Int), r40 = .tuple #[.slice p40 l40 c40, .int .i64 n40] ∧
    Q (.tuple #[.slice p40 l40 c40, .int .i64 n40]) w2)
  (∃ (v44 : Value), Ld Try.prog 89 (.pointer (some (a4.add 1))) w1 (v44) ∧
    callV Try.prog (v44) [.pointer p30, .slice p2 l2 c2] w1 fun r47 w3 =>
    ∃ (p47 : Option Addr) (l47 : Nat) (c47 : Nat) (n47 : Int), r47 = .tuple #[.slice p47 l47 c47, .int .i64 n47] ∧
    Q (.tuple #[.slice p47 l47 c47, .int .i64 n47]) w3)

def mode_Config_by (cs0 : Array Value) (v1 : Value) (v1_1 : Value) (p2 : Option Addr) (l2 : Nat) (c2 : Nat) (w : World) (Q : Value → World → Prop) : Prop :=
  New cs0 102 w fun k3 w1 =>
  New #[v1, v1_1] 192 w1 fun k4 w2 =>
  ∃ (cs11 : Array Value), Ld Try.prog 102 (.pointer (some (⟨k3, 0, none⟩ : Addr))) w2 (.agg cs11) ∧
  callF Try.prog 88 #[.agg cs11] w2 fun r12 w3 =>
  ∃ (b12 : Bool), r12 = .bool b12 ∧
  cond (!b12)
  (Q (.tuple #[.slice none 0 0, .int .i64 19]) w3)
  (∃ (cs17 : Array Value), Ld Try.prog 102 (.pointer (some (⟨k3, 0, none⟩ : Addr))) w3 (.agg cs17) ∧
    callF Try.prog 135 #[.agg cs17] w3 fun r18 w4 =>
    ∃ (n18 : Int), r18 = .int .i64 n18 ∧
    cond (((l2 : Nat) : Int) != n18)
    (Q (.tuple #[.slice none 0 0, .int .i64 11]) w4)
    (∃ (n22 : Int), Ld Try.prog 3 (.pointer (some ((⟨k3, 0, none⟩ : Addr).add 0))) w4 (.int .i64 n22) ∧
      cond (n22 == 0)
      (∃ (p25 : Option Addr) (l25 : Nat) (c25 : Nat) (w5 : World), Ef Try.prog (Instr.buildSlice 68 1 #[(0, .slice p2 l2 c2)]) w4 (.slice p25 l25 c25) w5 ∧
        callF Try.prog 124 #[.slice p25 l25 c25] w5 fun r26 w6 =>
        ∃ (p26 : Option Addr) (l26 : Nat) (c26 : Nat), r26 = .slice p26 l26 c26 ∧
        Q (.tuple #[.slice p26 l26 c26, .int .i64 0]) w6)
      (mode_Config_by_j1 p2 l2 c2 (⟨k3, 0, none⟩ : Addr) (⟨k4, 0, none⟩ : Addr) none 0 0 0 w4 Q)))

def mode_Config_by_tt : Nat → List (Nat × TypeId) := fun _ => []

theorem mode_Config_by_call (cs0 : Array Value) (v1 : Value) (v1_1 : Value) (p2 : Option Addr) (l2 : Nat) (c2 : Nat) (w : World) (Q : Value → World → Prop) (h : mode_Config_by cs0 v1 v1_1 p2 l2 c2 w Q) : callF Try.prog 141 #[.agg cs0, .agg #[v1, v1_1], .slice p2 l2 c2] w Q :=
  callF_of (fun _ _ => by kernel_rfl) (callK_of_sw mode_Config_by_tt Try.func141 rfl (by kernel_rfl) (show sw Try.prog none 50 mode_Config_by_tt _ 0 (endK Try.prog [.tmp 6, .tmp 7] Q) ⟨regs [.agg cs0, .agg #[v1, v1_1], .slice p2 l2 c2], []⟩ w from
    Eq.mp (by kernel_rfl : mode_Config_by cs0 v1 v1_1 p2 l2 c2 w Q = sw Try.prog none 50 mode_Config_by_tt (Try.f141.body.getD .skip) 0 (endK Try.prog [.tmp 6, .tmp 7] Q) ⟨regs [.agg cs0, .agg #[v1, v1_1], .slice p2 l2 c2], []⟩ w) h))

end Go.Sh
end

section
namespace Go.Sh
open Go Go.Fw Go.Proofs
set_option maxRecDepth 100000
set_option linter.unusedVariables false

/-! ### crossway/crosswaylaw16.ModeBack: function 27 -/

def law16_ModeBack_j1 (p1 : Option Addr) (l1 : Nat) (c1 : Nat) (p2 : Option Addr) (l2 : Nat) (c2 : Nat) (a5 : Addr) (b10 : Bool) (w : World) (Q : Value → World → Prop) : Prop :=
  ∃ (cs121 : Array Value), Ld Try.prog 102 (.pointer (some a5)) w (.agg cs121) ∧
  callF Try.prog 98 #[.agg cs121, .slice p1 l1 c1] w fun r123 w1 =>
  ∃ (p123 : Option Addr) (l123 : Nat) (c123 : Nat) (n123 : Int), r123 = .tuple #[.slice p123 l123 c123, .int .i64 n123] ∧
  ∃ (cs127 : Array Value), Ld Try.prog 102 (.pointer (some a5)) w1 (.agg cs127) ∧
  callF Try.prog 99 #[.agg cs127, .slice p123 l123 c123] w1 fun r129 w2 =>
  ∃ (p129 : Option Addr) (l129 : Nat) (c129 : Nat) (n129 : Int), r129 = .tuple #[.slice p129 l129 c129, .int .i64 n129] ∧
  ∃ (cs133 : Array Value), Ld Try.prog 102 (.pointer (some a5)) w2 (.agg cs133) ∧
  callF Try.prog 99 #[.agg cs133, .slice p1 l1 c1] w2 fun r135 w3 =>
  ∃ (p135 : Option Addr) (l135 : Nat) (c135 : Nat) (n135 : Int), r135 = .tuple #[.slice p135 l135 c135, .int .i64 n135] ∧
  ∃ (cs139 : Array Value), Ld Try.prog 102 (.pointer (some a5)) w3 (.agg cs139) ∧
  callF Try.prog 98 #[.agg cs139, .slice p135 l135 c135] w3 fun r141 w4 =>
  ∃ (p141 : Option Addr) (l141 : Nat) (c141 : Nat) (n141 : Int), r141 = .tuple #[.slice p141 l141 c141, .int .i64 n141] ∧
  ∃ (cs145 : Array Value), Ld Try.prog 102 (.pointer (some a5)) w4 (.agg cs145) ∧
  callF Try.prog 98 #[.agg cs145, .slice p2 l2 c2] w4 fun r147 w5 =>
  ∃ (p147 : Option Addr) (l147 : Nat) (c147 : Nat) (n147 : Int), r147 = .tuple #[.slice p147 l147 c147, .int .i64 n147] ∧
  cond (n123 == 0)
  (cond (n129 == 0)
    (cond (n135 == 0)
      (cond (n141 == 0)
        (cond (n147 == 0)
          (callF Try.prog 65 #[.slice p129 l129 c129, .slice p1 l1 c1] w5 fun r171 w6 =>
            ∃ (b171 : Bool), r171 = .bool b171 ∧
            cond b171
            (callF Try.prog 65 #[.slice p141 l141 c141, .slice p1 l1 c1] w6 fun r176 w7 =>
              ∃ (b176 : Bool), r176 = .bool b176 ∧
              cond b176
              (cond (((l123 : Nat) : Int) == ((l1 : Nat) : Int))
                (callF Try.prog 65 #[.slice p147 l147 c147, .slice p123 l123 c123] w7 fun r188 w8 =>
                  ∃ (b188 : Bool), r188 = .bool b188 ∧
                  callF Try.prog 65 #[.slice p2 l2 c2, .slice p1 l1 c1] w8 fun r191 w9 =>
                  ∃ (b191 : Bool), r191 = .bool b191 ∧
                  Q (.bool (b188 == b191)) w9)
                (Q (.bool false) w7))
              (Q (.bool false) w7))
            (Q (.bool false) w6))
          (Q (.bool false) w5))
        (Q (.bool false) w5))
      (Q (.bool false) w5))
    (Q (.bool false) w5))
  (Q (.bool false) w5)

def law16_ModeBack_j2 (p1 : Option Addr) (l1 : Nat) (c1 : Nat) (p2 : Option Addr) (l2 : Nat) (c2 : Nat) (a5 : Addr) (b10 : Bool) (w : World) (Q : Value → World → Prop) : Prop :=
  ∃ (n108 : Int), Ld Try.prog 3 (.pointer (some (a5.add 1))) w (.int .i64 n108) ∧
  ∃ (n110 : Int), Ld Try.prog 3 (.pointer (some (a5.add 2))) w (.int .i64 n110) ∧
  cond (((l1 : Nat) : Int) != (IntKind.i64.wrap (n108 + n110)))
  (Q (.bool true) w)
  (cond (((l2 : Nat) : Int) != ((l1 : Nat) : Int))
    (Q (.bool true) w)
    (law16_ModeBack_j1 p1 l1 c1 p2 l2 c2 a5 b10 w Q))

def law16_ModeBack_j3 (p1 : Option Addr) (l1 : Nat) (c1 : Nat) (p2 : Option Addr) (l2 : Nat) (c2 : Nat) (n3 : Int) (n4 : Int) (a5 : Addr) (b10 : Bool) (p11 : Option Addr) (l11 : Nat) (c11 : Nat) (b76 : Bool) (w : World) (Q : Value → World → Prop) : Prop :=
  cond b76
  (∃ (a79 : Addr), IxA Try.prog 50 (.slice p11 l11 c11) (.int .i64 n3) a79 ∧
    ∃ (n80 : Int), Ld Try.prog 5 (.pointer (some a79)) w (.int .u8 n80) ∧
    ∃ (a83 : Addr), IxA Try.prog 50 (.slice p11 l11 c11) (.int .i64 n3) a83 ∧
    ∃ (w1 : World), Sto Try.prog 5 (.pointer (some a83)) (.int .u8 (ixor .u8 n80 n4)) w w1 ∧
    callF Try.prog 97 #[.slice p11 l11 c11] w1 fun r86 w2 =>
    ∃ (cs86 : Array Value) (n86 : Int), r86 = .tuple #[.agg cs86, .int .i64 n86] ∧
    ∃ (z14 : Value), Pu Try.prog (zeroValue 102) z14 ∧
    New z14.cells 102 w2 fun k14 w3 =>
    ∃ (w4 : World), Sto Try.prog 102 (.pointer (some (⟨k14, 0, none⟩ : Addr))) (.agg cs86) w3 w4 ∧
    cond (n86 == 0)
    (∃ (cs92 : Array Value), Ld Try.prog 102 (.pointer (some (⟨k14, 0, none⟩ : Addr))) w4 (.agg cs92) ∧
      ∃ (cs93 : Array Value), Ld Try.prog 102 (.pointer (some a5)) w4 (.agg cs93) ∧
      ∃ (b94 : Bool) (w5 : World), Ef Try.prog (do eqGuard .eql 102 (.tmp 92) (.tmp 93) (.agg cs92) (.agg cs93); binOp .eql 102 (.agg cs92) (.agg cs93) : Sem Value) w4 (.bool b94) w5 ∧
      cond b94
      (Q (.bool false) w5)
      (cond (n86 == 0)
        (∃ (cs100 : Array Value), Ld Try.prog 102 (.pointer (some (⟨k14, 0, none⟩ : Addr))) w5 (.agg cs100) ∧
          callF Try.prog 88 #[.agg cs100] w5 fun r101 w6 =>
          ∃ (b101 : Bool), r101 = .bool b101 ∧
          cond (!b101)
          (Q (.bool false) w6)
          (law16_ModeBack_j2 p1 l1 c1 p2 l2 c2 a5 b10 w6 Q))
        (law16_ModeBack_j2 p1 l1 c1 p2 l2 c2 a5 b10 w5 Q)))
    (cond (n86 == 0)
      (∃ (cs100_1 : Array Value), Ld Try.prog 102 (.pointer (some (⟨k14, 0, none⟩ : Addr))) w4 (.agg cs100_1) ∧
        callF Try.prog 88 #[.agg cs100_1] w4 fun r101_1 w7 =>
        ∃ (b101_1 : Bool), r101_1 = .bool b101_1 ∧
        cond (!b101_1)
        (Q (.bool false) w7)
        (law16_ModeBack_j2 p1 l1 c1 p2 l2 c2 a5 b10 w7 Q))
      (law16_ModeBack_j2 p1 l1 c1 p2 l2 c2 a5 b10 w4 Q)))
  (law16_ModeBack_j2 p1 l1 c1 p2 l2 c2 a5 b10 w Q)

def law16_ModeBack_j4 (p1 : Option Addr) (l1 : Nat) (c1 : Nat) (p2 : Option Addr) (l2 : Nat) (c2 : Nat) (n3 : Int) (n4 : Int) (a5 : Addr) (b10 : Bool) (p11 : Option Addr) (l11 : Nat) (c11 : Nat) (w : World) (Q : Value → World → Prop) : Prop :=
  cond (decide (n3 ≥ 0))
  (cond (decide (n3 < ((l11 : Nat) : Int)))
    (law16_ModeBack_j3 p1 l1 c1 p2 l2 c2 n3 n4 a5 b10 p11 l11 c11 (n4 != 0) w Q)
    (law16_ModeBack_j3 p1 l1 c1 p2 l2 c2 n3 n4 a5 b10 p11 l11 c11 false w Q))
  (law16_ModeBack_j3 p1 l1 c1 p2 l2 c2 n3 n4 a5 b10 p11 l11 c11 false w Q)

def law16_ModeBack (cs0 : Array Value) (p1 : Option Addr) (l1 : Nat) (c1 : Nat) (p2 : Option Addr) (l2 : Nat) (c2 : Nat) (n3 : Int) (n4 : Int) (w : World) (Q : Value → World → Prop) : Prop :=
  New cs0 102 w fun k5 w1 =>
  callF Try.prog 95 #[] w1 fun r26 w2 =>
  ∃ (b26 : Bool), r26 = .bool b26 ∧
  cond (!b26)
  (Q (.bool false) w2)
  (∃ (cs28 : Array Value), Ld Try.prog 102 (.pointer (some (⟨k5, 0, none⟩ : Addr))) w2 (.agg cs28) ∧
    callF Try.prog 88 #[.agg cs28] w2 fun r29 w3 =>
    ∃ (b29 : Bool), r29 = .bool b29 ∧
    cond (!b29)
    (∃ (cs31 : Array Value), Ld Try.prog 102 (.pointer (some (⟨k5, 0, none⟩ : Addr))) w3 (.agg cs31) ∧
      callF Try.prog 96 #[.agg cs31] w3 fun r32 w4 =>
      ∃ (p32 : Option Addr) (l32 : Nat) (c32 : Nat), r32 = .slice p32 l32 c32 ∧
      cond (((l32 : Nat) : Int) == 0)
      (∃ (cs36 : Array Value), Ld Try.prog 102 (.pointer (some (⟨k5, 0, none⟩ : Addr))) w4 (.agg cs36) ∧
        callF Try.prog 89 #[.agg cs36] w4 fun r37 w5 =>
        ∃ (n37 : Int), r37 = .int .i64 n37 ∧
        Q (.bool (n37 == 0)) w5)
      (Q (.bool false) w4))
    (∃ (cs40 : Array Value), Ld Try.prog 102 (.pointer (some (⟨k5, 0, none⟩ : Addr))) w3 (.agg cs40) ∧
      callF Try.prog 96 #[.agg cs40] w3 fun r41 w6 =>
      ∃ (p41 : Option Addr) (l41 : Nat) (c41 : Nat), r41 = .slice p41 l41 c41 ∧
      callF Try.prog 97 #[.slice p41 l41 c41] w6 fun r44 w7 =>
      ∃ (cs44 : Array Value) (n44 : Int), r44 = .tuple #[.agg cs44, .int .i64 n44] ∧
      ∃ (z12 : Value), Pu Try.prog (zeroValue 102) z12 ∧
      New z12.cells 102 w7 fun k12 w8 =>
      ∃ (w9 : World), Sto Try.prog 102 (.pointer (some (⟨k12, 0, none⟩ : Addr))) (.agg cs44) w8 w9 ∧
      ∃ (S7 : World → Prop),
      Drw w9 fun w10 =>
      cond (n44 != 0)
      (Q (.bool false) w10)
      (∃ (cs50 : Array Value), HLd Try.prog S7 102 (.pointer (some (⟨k12, 0, none⟩ : Addr))) w10 (.agg cs50) ∧
        ∃ (cs51 : Array Value), Ld Try.prog 102 (.pointer (some (⟨k5, 0, none⟩ : Addr))) w10 (.agg cs51) ∧
        (w10 = w10 ∨ S7 w10) ∧
        ∃ (b52 : Bool) (w11 : World), Ef Try.prog (do eqGuard .neq 102 (.tmp 50) (.tmp 51) (.agg cs50) (.agg cs51); binOp .neq 102 (.agg cs50) (.agg cs51) : Sem Value) w10 (.bool b52) w11 ∧
        (w11 = w10 ∨ S7 w11) ∧
        cond b52
        (Q (.bool false) w11)
        (∃ (cs55 : Array Value), HLd Try.prog S7 102 (.pointer (some (⟨k5, 0, none⟩ : Addr))) w11 (.agg cs55) ∧
          ∃ (n58 : Int), HLd Try.prog S7 3 (.pointer (some ((⟨k5, 0, none⟩ : Addr).add 1))) w11 (.int .i64 n58) ∧
          ∃ (n60 : Int), HLd Try.prog S7 3 (.pointer (some ((⟨k5, 0, none⟩ : Addr).add 2))) w11 (.int .i64 n60) ∧
          callF Try.prog 89 #[.agg cs55] w11 fun r56 w12 =>
          ∃ (n56 : Int), r56 = .int .i64 n56 ∧
          (w12 = w11 ∨ S7 w12) ∧
          cond (n56 != (IntKind.i64.wrap ((IntKind.i64.wrap (n58 + n60)) + 1)))
          (Q (.bool false) w12)
          (law16_ModeBack_j4 p1 l1 c1 p2 l2 c2 n3 n4 (⟨k5, 0, none⟩ : Addr) false p41 l41 c41 w12 Q)))))

def law16_ModeBack_tt : Nat → List (Nat × TypeId) := fun _ => []

theorem law16_ModeBack_call (cs0 : Array Value) (p1 : Option Addr) (l1 : Nat) (c1 : Nat) (p2 : Option Addr) (l2 : Nat) (c2 : Nat) (n3 : Int) (n4 : Int) (w : World) (Q : Value → World → Prop) (h : law16_ModeBack cs0 p1 l1 c1 p2 l2 c2 n3 n4 w Q) : callF Try.prog 27 #[.agg cs0, .slice p1 l1 c1, .slice p2 l2 c2, .int .i64 n3, .int .u8 n4] w Q :=
  callF_of (fun _ _ => by kernel_rfl) (callK_of_sw law16_ModeBack_tt Try.func27 rfl (by kernel_rfl) (show sw Try.prog none 194 law16_ModeBack_tt _ 0 (endK Try.prog [.tmp 10] Q) ⟨regs [.agg cs0, .slice p1 l1 c1, .slice p2 l2 c2, .int .i64 n3, .int .u8 n4], []⟩ w from
    Eq.mp (by kernel_rfl : law16_ModeBack cs0 p1 l1 c1 p2 l2 c2 n3 n4 w Q = sw Try.prog none 194 law16_ModeBack_tt (Try.f27.body.getD .skip) 0 (endK Try.prog [.tmp 10] Q) ⟨regs [.agg cs0, .slice p1 l1 c1, .slice p2 l2 c2, .int .i64 n3, .int .u8 n4], []⟩ w) h))


/-! ### crossway/crosswaylaw16.ModeSizes: function 28 -/

def law16_ModeSizes_j1 (p1 : Option Addr) (l1 : Nat) (c1 : Nat) (a2 : Addr) (b4 : Bool) (p5 : Option Addr) (l5 : Nat) (c5 : Nat) (n6 : Int) (p7 : Option Addr) (l7 : Nat) (c7 : Nat) (n8 : Int) (w : World) (Q : Value → World → Prop) : Prop :=
  ∃ (cs50 : Array Value), Ld Try.prog 102 (.pointer (some a2)) w (.agg cs50) ∧
  callF Try.prog 89 #[.agg cs50] w fun r51 w1 =>
  ∃ (n51 : Int), r51 = .int .i64 n51 ∧
  cond (((l1 : Nat) : Int) != (IntKind.i64.wrap (n51 - 1)))
  (cond (n6 == 11)
    (cond (n8 == 11)
      (Q (.bool ((IntKind.i64.wrap (((l5 : Nat) : Int) + ((l7 : Nat) : Int))) == 0)) w1)
      (Q (.bool false) w1))
    (Q (.bool false) w1))
  (cond (n6 == 0)
    (cond (n8 == 0)
      (cond (((l5 : Nat) : Int) == ((l1 : Nat) : Int))
        (cond (((l7 : Nat) : Int) == ((l1 : Nat) : Int))
          (∃ (n90 : Int), Ld Try.prog 3 (.pointer (some (a2.add 0))) w1 (.int .i64 n90) ∧
            cond (n90 != 0)
            (Q (.bool true) w1)
            (callF Try.prog 65 #[.slice p5 l5 c5, .slice p1 l1 c1] w1 fun r95 w2 =>
              ∃ (b95 : Bool), r95 = .bool b95 ∧
              cond b95
              (callF Try.prog 65 #[.slice p7 l7 c7, .slice p1 l1 c1] w2 fun r99 w3 =>
                ∃ (b99 : Bool), r99 = .bool b99 ∧
                Q (.bool b99) w3)
              (Q (.bool false) w2)))
          (Q (.bool false) w1))
        (Q (.bool false) w1))
      (Q (.bool false) w1))
    (Q (.bool false) w1))

def law16_ModeSizes (cs0 : Array Value) (p1 : Option Addr) (l1 : Nat) (c1 : Nat) (w : World) (Q : Value → World → Prop) : Prop :=
  New cs0 102 w fun k2 w1 =>
  callF Try.prog 95 #[] w1 fun r9 w2 =>
  ∃ (b9 : Bool), r9 = .bool b9 ∧
  cond (!b9)
  (Q (.bool false) w2)
  (cond (decide (((l1 : Nat) : Int) > 100))
    (Q (.bool true) w2)
    (∃ (cs15 : Array Value), Ld Try.prog 102 (.pointer (some (⟨k2, 0, none⟩ : Addr))) w2 (.agg cs15) ∧
      callF Try.prog 98 #[.agg cs15, .slice p1 l1 c1] w2 fun r17 w3 =>
      ∃ (p17 : Option Addr) (l17 : Nat) (c17 : Nat) (n17 : Int), r17 = .tuple #[.slice p17 l17 c17, .int .i64 n17] ∧
      ∃ (cs21 : Array Value), Ld Try.prog 102 (.pointer (some (⟨k2, 0, none⟩ : Addr))) w3 (.agg cs21) ∧
      callF Try.prog 99 #[.agg cs21, .slice p1 l1 c1] w3 fun r23 w4 =>
      ∃ (p23 : Option Addr) (l23 : Nat) (c23 : Nat) (n23 : Int), r23 = .tuple #[.slice p23 l23 c23, .int .i64 n23] ∧
      ∃ (cs26 : Array Value), Ld Try.prog 102 (.pointer (some (⟨k2, 0, none⟩ : Addr))) w4 (.agg cs26) ∧
      callF Try.prog 88 #[.agg cs26] w4 fun r27 w5 =>
      ∃ (b27 : Bool), r27 = .bool b27 ∧
      cond (!b27)
      (cond (n17 == 19)
        (cond (n23 == 19)
          (∃ (cs36 : Array Value), Ld Try.prog 102 (.pointer (some (⟨k2, 0, none⟩ : Addr))) w5 (.agg cs36) ∧
            callF Try.prog 89 #[.agg cs36] w5 fun r37 w6 =>
            ∃ (n37 : Int), r37 = .int .i64 n37 ∧
            Q (.bool (n37 == 0)) w6)
          (Q (.bool false) w5))
        (Q (.bool false) w5))
      (∃ (cs40 : Array Value), Ld Try.prog 102 (.pointer (some (⟨k2, 0, none⟩ : Addr))) w5 (.agg cs40) ∧
        callF Try.prog 89 #[.agg cs40] w5 fun r41 w7 =>
        ∃ (n41 : Int), r41 = .int .i64 n41 ∧
        cond (decide (n41 < 6))
        (Q (.bool false) w7)
        (∃ (cs44 : Array Value), Ld Try.prog 102 (.pointer (some (⟨k2, 0, none⟩ : Addr))) w7 (.agg cs44) ∧
          callF Try.prog 89 #[.agg cs44] w7 fun r45 w8 =>
          ∃ (n45 : Int), r45 = .int .i64 n45 ∧
          cond (decide (n45 > 20))
          (Q (.bool false) w8)
          (law16_ModeSizes_j1 p1 l1 c1 (⟨k2, 0, none⟩ : Addr) false p17 l17 c17 n17 p23 l23 c23 n23 w8 Q)))))

def law16_ModeSizes_tt : Nat → List (Nat × TypeId) := fun _ => []

theorem law16_ModeSizes_call (cs0 : Array Value) (p1 : Option Addr) (l1 : Nat) (c1 : Nat) (w : World) (Q : Value → World → Prop) (h : law16_ModeSizes cs0 p1 l1 c1 w Q) : callF Try.prog 28 #[.agg cs0, .slice p1 l1 c1] w Q :=
  callF_of (fun _ _ => by kernel_rfl) (callK_of_sw law16_ModeSizes_tt Try.func28 rfl (by kernel_rfl) (show sw Try.prog none 103 law16_ModeSizes_tt _ 0 (endK Try.prog [.tmp 4] Q) ⟨regs [.agg cs0, .slice p1 l1 c1], []⟩ w from
    Eq.mp (by kernel_rfl : law16_ModeSizes cs0 p1 l1 c1 w Q = sw Try.prog none 103 law16_ModeSizes_tt (Try.f28.body.getD .skip) 0 (endK Try.prog [.tmp 4] Q) ⟨regs [.agg cs0, .slice p1 l1 c1], []⟩ w) h))


/-! ### crossway/crosswaylaw16.alive: function 95 -/

def law16_alive  (w : World) (Q : Value → World → Prop) : Prop :=
  ∃ (z1 : Value), Pu Try.prog (zeroValue 102) z1 ∧
  New z1.cells 102 w fun k1 w1 =>
  ∃ (w2 : World), Sto Try.prog 102 (.pointer (some (⟨k1, 0, none⟩ : Addr))) (.agg #[.int .i64 0, .int .i64 3, .int .i64 4, .int .u8 0, .int .u8 0, .int .u8 0, .int .u8 0, .int .u8 0, .int .u8 0, .int .u8 0, .int .u8 0, .int .u8 0, .int .u8 0, .int .u8 0, .int .u8 0, .int .u8 0, .int .u8 0, .int .u8 0, .int .u8 0]) w1 w2 ∧
  ∃ (cs21 : Array Value), Pu Try.prog (Instr.build 102 #[(0, .int .i64 2), (1, .int .i64 3), (2, .int .i64 4), (3, .agg #[.int .u8 1, .int .u8 0, .int .u8 0, .int .u8 0, .int .u8 0, .int .u8 0, .int .u8 0, .int .u8 0, .int .u8 0, .int .u8 0, .int .u8 0, .int .u8 0, .int .u8 0, .int .u8 0, .int .u8 0, .int .u8 0])]) (.agg cs21) ∧
  ∃ (z2 : Value), Pu Try.prog (zeroValue 102) z2 ∧
  New z2.cells 102 w2 fun k2 w3 =>
  ∃ (w4 : World), Sto Try.prog 102 (.pointer (some (⟨k2, 0, none⟩ : Addr))) (.agg cs21) w3 w4 ∧
  ∃ (z3 : Value), Pu Try.prog (zeroValue 102) z3 ∧
  New z3.cells 102 w4 fun k3 w5 =>
  ∃ (w6 : World), Sto Try.prog 102 (.pointer (some (⟨k3, 0, none⟩ : Addr))) (.agg #[.int .i64 1, .int .i64 3, .int .i64 4, .int .u8 0, .int .u8 0, .int .u8 0, .int .u8 0, .int .u8 0, .int .u8 0, .int .u8 0, .int .u8 0, .int .u8 0, .int .u8 0, .int .u8 0, .int .u8 0, .int .u8 0, .int .u8 0, .int .u8 0, .int .u8 0]) w5 w6 ∧
  ∃ (p23 : Option Addr) (l23 : Nat) (c23 : Nat) (w7 : World), Ef Try.prog (Instr.buildSlice 50 7 #[(0, .int .u8 1), (1, .int .u8 2), (2, .int .u8 3), (3, .int .u8 4), (4, .int .u8 5), (5, .int .u8 6), (6, .int .u8 7)]) w6 (.slice p23 l23 c23) w7 ∧
  ∃ (cs25 : Array Value), Ld Try.prog 102 (.pointer (some (⟨k1, 0, none⟩ : Addr))) w7 (.agg cs25) ∧
  callF Try.prog 98 #[.agg cs25, .slice p23 l23 c23] w7 fun r27 w8 =>
  ∃ (p27 : Option Addr) (l27 : Nat) (c27 : Nat) (n27 : Int), r27 = .tuple #[.slice p27 l27 c27, .int .i64 n27] ∧
  ∃ (cs31 : Array Value), Ld Try.prog 102 (.pointer (some (⟨k2, 0, none⟩ : Addr))) w8 (.agg cs31) ∧
  callF Try.prog 98 #[.agg cs31, .slice p23 l23 c23] w8 fun r33 w9 =>
  ∃ (p33 : Option Addr) (l33 : Nat) (c33 : Nat) (n33 : Int), r33 = .tuple #[.slice p33 l33 c33, .int .i64 n33] ∧
  ∃ (cs37 : Array Value), Ld Try.prog 102 (.pointer (some (⟨k2, 0, none⟩ : Addr))) w9 (.agg cs37) ∧
  callF Try.prog 99 #[.agg cs37, .slice p33 l33 c33] w9 fun r39 w10 =>
  ∃ (p39 : Option Addr) (l39 : Nat) (c39 : Nat) (n39 : Int), r39 = .tuple #[.slice p39 l39 c39, .int .i64 n39] ∧
  ∃ (cs43 : Array Value), Ld Try.prog 102 (.pointer (some (⟨k3, 0, none⟩ : Addr))) w10 (.agg cs43) ∧
  callF Try.prog 98 #[.agg cs43, .slice p23 l23 c23] w10 fun r45 w11 =>
  ∃ (p45 : Option Addr) (l45 : Nat) (c45 : Nat) (n45 : Int), r45 = .tuple #[.slice p45 l45 c45, .int .i64 n45] ∧
  ∃ (cs49 : Array Value), Ld Try.prog 102 (.pointer (some (⟨k2, 0, none⟩ : Addr))) w11 (.agg cs49) ∧
  callF Try.prog 98 #[.agg cs49, .slice none 0 0] w11 fun r50 w12 =>
  ∃ (p50 : Option Addr) (l50 : Nat) (c50 : Nat) (n50 : Int), r50 = .tuple #[.slice p50 l50 c50, .int .i64 n50] ∧
  ∃ (cs54 : Array Value), Ld Try.prog 102 (.pointer (some (⟨k2, 0, none⟩ : Addr))) w12 (.agg cs54) ∧
  callF Try.prog 96 #[.agg cs54] w12 fun r55 w13 =>
  ∃ (p55 : Option Addr) (l55 : Nat) (c55 : Nat), r55 = .slice p55 l55 c55 ∧
  callF Try.prog 97 #[.slice p55 l55 c55] w13 fun r56 w14 =>
  ∃ (cs56 : Array Value) (n56 : Int), r56 = .tuple #[.agg cs56, .int .i64 n56] ∧
  ∃ (z15 : Value), Pu Try.prog (zeroValue 102) z15 ∧
  New z15.cells 102 w14 fun k15 w15 =>
  ∃ (w16 : World), Sto Try.prog 102 (.pointer (some (⟨k15, 0, none⟩ : Addr))) (.agg cs56) w15 w16 ∧
  callF Try.prog 97 #[.slice none 0 0] w16 fun r60 w17 =>
  ∃ (cs60 : Array Value) (n60 : Int), r60 = .tuple #[.agg cs60, .int .i64 n60] ∧
  ∃ (z17 : Value), Pu Try.prog (zeroValue 102) z17 ∧
  New z17.cells 102 w17 fun k17 w18 =>
  ∃ (w19 : World), Sto Try.prog 102 (.pointer (some (⟨k17, 0, none⟩ : Addr))) (.agg cs60) w18 w19 ∧
  ∃ (cs63 : Array Value), Ld Try.prog 102 (.pointer (some (⟨k1, 0, none⟩ : Addr))) w19 (.agg cs63) ∧
  callF Try.prog 88 #[.agg cs63] w19 fun r64 w20 =>
  ∃ (b64 : Bool), r64 = .bool b64 ∧
  cond b64
  (∃ (cs66 : Array Value), Ld Try.prog 102 (.pointer (some (⟨k3, 0, none⟩ : Addr))) w20 (.agg cs66) ∧
    callF Try.prog 88 #[.agg cs66] w20 fun r67 w21 =>
    ∃ (b67 : Bool), r67 = .bool b67 ∧
    cond (!b67)
    (∃ (cs71 : Array Value), Ld Try.prog 102 (.pointer (some (⟨k1, 0, none⟩ : Addr))) w21 (.agg cs71) ∧
      callF Try.prog 89 #[.agg cs71] w21 fun r72 w22 =>
      ∃ (n72 : Int), r72 = .int .i64 n72 ∧
      cond (n72 == 8)
      (cond (n27 == 0)
        (cond (n33 == 0)
          (cond (n39 == 0)
            (cond (n45 == 19)
              (cond (n50 == 11)
                (cond (n56 == 0)
                  (cond (n60 == 12)
                    (callF Try.prog 65 #[.slice p27 l27 c27, .slice p23 l23 c23] w22 fun r106 w23 =>
                      ∃ (b106 : Bool), r106 = .bool b106 ∧
                      cond b106
                      (callF Try.prog 65 #[.slice p33 l33 c33, .slice p23 l23 c23] w23 fun r111 w24 =>
                        ∃ (b111 : Bool), r111 = .bool b111 ∧
                        cond (!b111)
                        (callF Try.prog 65 #[.slice p39 l39 c39, .slice p23 l23 c23] w24 fun r117 w25 =>
                          ∃ (b117 : Bool), r117 = .bool b117 ∧
                          cond b117
                          (∃ (cs120 : Array Value), Ld Try.prog 102 (.pointer (some (⟨k15, 0, none⟩ : Addr))) w25 (.agg cs120) ∧
                            ∃ (cs121 : Array Value), Ld Try.prog 102 (.pointer (some (⟨k2, 0, none⟩ : Addr))) w25 (.agg cs121) ∧
                            ∃ (b122 : Bool) (w26 : World), Ef Try.prog (do eqGuard .eql 102 (.tmp 120) (.tmp 121) (.agg cs120) (.agg cs121); binOp .eql 102 (.agg cs120) (.agg cs121) : Sem Value) w25 (.bool b122) w26 ∧
                            cond b122
                            (∃ (cs125 : Array Value), Ld Try.prog 102 (.pointer (some (⟨k2, 0, none⟩ : Addr))) w26 (.agg cs125) ∧
                              callF Try.prog 96 #[.agg cs125] w26 fun r126 w27 =>
                              ∃ (p126 : Option Addr) (l126 : Nat) (c126 : Nat), r126 = .slice p126 l126 c126 ∧
                              Q (.bool (((l126 : Nat) : Int) == 20)) w27)
                            (Q (.bool false) w26))
                          (Q (.bool false) w25))
                        (Q (.bool false) w24))
                      (Q (.bool false) w23))
                    (Q (.bool false) w22))
                  (Q (.bool false) w22))
                (Q (.bool false) w22))
              (Q (.bool false) w22))
            (Q (.bool false) w22))
          (Q (.bool false) w22))
        (Q (.bool false) w22))
      (Q (.bool false) w22))
    (Q (.bool false) w21))
  (Q (.bool false) w20)

def law16_alive_tt : Nat → List (Nat × TypeId) := fun _ => []

theorem law16_alive_call  (w : World) (Q : Value → World → Prop) (h : law16_alive  w Q) : callF Try.prog 95 #[] w Q :=
  callF_of (fun _ _ => by kernel_rfl) (callK_of_sw law16_alive_tt Try.func95 rfl (by kernel_rfl) (show sw Try.prog none 130 law16_alive_tt _ 0 (endK Try.prog [.tmp 0] Q) ⟨regs [], []⟩ w from
    Eq.mp (by kernel_rfl : law16_alive  w Q = sw Try.prog none 130 law16_alive_tt (Try.f95.body.getD .skip) 0 (endK Try.prog [.tmp 0] Q) ⟨regs [], []⟩ w) h))

end Go.Sh
end
