/- A part of a proof of a given law of this program: lemmas, printed forms of its functions, contracts. It has no conditions of its own. -/
import Derived.Test.YtopjbcjbohegcaaGreatProg
import Derived.Test.YtopjbcjbohegcaaGreatMFw

section
namespace Go.Sh
open Go Go.Fw Go.Proofs
set_option maxRecDepth 100000
set_option linter.unusedVariables false

def ring_New  (w : World) (Q : Value → World → Prop) : Prop :=
  New #[.slice none 0 0] 136 w fun k2 w1 =>
  Q (.pointer (some (⟨k2, 0, none⟩ : Addr))) w1
def ring_New_tt : Nat → List (Nat × TypeId) := fun _ => []
theorem ring_New_call  (w : World) (Q : Value → World → Prop) (h : ring_New  w Q) : callF Tryz.prog 37 #[] w Q :=
  callF_of (fun _ _ => by kernel_rfl) (callK_of_sw ring_New_tt Tryz.func37 rfl (by kernel_rfl) (show sw Tryz.prog none 3 ring_New_tt _ 0 (endK Tryz.prog [.tmp 0] Q) ⟨regs [], []⟩ w from
    Eq.mp (by kernel_rfl : ring_New  w Q = sw Tryz.prog none 3 ring_New_tt (Tryz.f37.body.getD .skip) 0 (endK Tryz.prog [.tmp 0] Q) ⟨regs [], []⟩ w) h))

def ring_Ring_Box (p0 : Option Addr) (n1 : Int) (w : World) (Q : Value → World → Prop) : Prop :=
  callF Tryz.prog 85 #[.pointer p0, .int .i64 n1] w fun r11 w1 =>
  ∃ (p11 : Option Addr) (n11 : Int) (p11_1 : Option Addr) (l11 : Nat) (c11 : Nat) (b11 : Bool), r11 = .tuple #[.agg #[.pointer p11, .int .i64 n11, .slice p11_1 l11 c11], .bool b11] ∧
  ∃ (z6 : Value), Pu Tryz.prog (zeroValue 138) z6 ∧
  New z6.cells 138 w1 fun k6 w2 =>
  ∃ (w3 : World), Sto Tryz.prog 138 (.pointer (some (⟨k6, 0, none⟩ : Addr))) (.agg #[.pointer p11, .int .i64 n11, .slice p11_1 l11 c11]) w2 w3 ∧
  ∃ (p15 : Option Addr), Ld Tryz.prog 25 (.pointer (some ((⟨k6, 0, none⟩ : Addr).add 0))) w3 (.pointer p15) ∧
  Q (.tuple #[.pointer p15, .bool b11]) w3
def ring_Ring_Box_tt : Nat → List (Nat × TypeId) := fun _ => []
theorem ring_Ring_Box_call (p0 : Option Addr) (n1 : Int) (w : World) (Q : Value → World → Prop) (h : ring_Ring_Box p0 n1 w Q) : callF Tryz.prog 39 #[.pointer p0, .int .i64 n1] w Q :=
  callF_of (fun _ _ => by kernel_rfl) (callK_of_sw ring_Ring_Box_tt Tryz.func39 rfl (by kernel_rfl) (show sw Tryz.prog none 17 ring_Ring_Box_tt _ 0 (endK Tryz.prog [.tmp 4, .tmp 5] Q) ⟨regs [.pointer p0, .int .i64 n1], []⟩ w from
    Eq.mp (by kernel_rfl : ring_Ring_Box p0 n1 w Q = sw Tryz.prog none 17 ring_Ring_Box_tt (Tryz.f39.body.getD .skip) 0 (endK Tryz.prog [.tmp 4, .tmp 5] Q) ⟨regs [.pointer p0, .int .i64 n1], []⟩ w) h))

def ring_Ring_Key (p0 : Option Addr) (n1 : Int) (w : World) (Q : Value → World → Prop) : Prop :=
  callF Tryz.prog 85 #[.pointer p0, .int .i64 n1] w fun r11 w1 =>
  ∃ (p11 : Option Addr) (n11 : Int) (p11_1 : Option Addr) (l11 : Nat) (c11 : Nat) (b11 : Bool), r11 = .tuple #[.agg #[.pointer p11, .int .i64 n11, .slice p11_1 l11 c11], .bool b11] ∧
  ∃ (z6 : Value), Pu Tryz.prog (zeroValue 138) z6 ∧
  New z6.cells 138 w1 fun k6 w2 =>
  ∃ (w3 : World), Sto Tryz.prog 138 (.pointer (some (⟨k6, 0, none⟩ : Addr))) (.agg #[.pointer p11, .int .i64 n11, .slice p11_1 l11 c11]) w2 w3 ∧
  ∃ (p15 : Option Addr) (l15 : Nat) (c15 : Nat), Ld Tryz.prog 22 (.pointer (some ((⟨k6, 0, none⟩ : Addr).add 2))) w3 (.slice p15 l15 c15) ∧
  callF Tryz.prog 44 #[.slice p15 l15 c15] w3 fun r16 w4 =>
  ∃ (p16 : Option Addr) (l16 : Nat) (c16 : Nat), r16 = .slice p16 l16 c16 ∧
  Q (.tuple #[.slice p16 l16 c16, .bool b11]) w4
def ring_Ring_Key_tt : Nat → List (Nat × TypeId) := fun _ => []
theorem ring_Ring_Key_call (p0 : Option Addr) (n1 : Int) (w : World) (Q : Value → World → Prop) (h : ring_Ring_Key p0 n1 w Q) : callF Tryz.prog 40 #[.pointer p0, .int .i64 n1] w Q :=
  callF_of (fun _ _ => by kernel_rfl) (callK_of_sw ring_Ring_Key_tt Tryz.func40 rfl (by kernel_rfl) (show sw Tryz.prog none 18 ring_Ring_Key_tt _ 0 (endK Tryz.prog [.tmp 4, .tmp 5] Q) ⟨regs [.pointer p0, .int .i64 n1], []⟩ w from
    Eq.mp (by kernel_rfl : ring_Ring_Key p0 n1 w Q = sw Tryz.prog none 18 ring_Ring_Key_tt (Tryz.f40.body.getD .skip) 0 (endK Tryz.prog [.tmp 4, .tmp 5] Q) ⟨regs [.pointer p0, .int .i64 n1], []⟩ w) h))

def ring_Ring_Install_j1 (p0 : Option Addr) (n1 : Int) (p2 : Option Addr) (l2 : Nat) (c2 : Nat) (n6 : Int) (p7 : Option Addr) (w : World) (Q : Value → World → Prop) : Prop :=
  ∃ (S8 : World → Prop),
  Drw w fun w1 =>
  ∃ (a39 : Addr), p0 = some a39 ∧
  ∃ (p41 : Option Addr) (l41 : Nat) (c41 : Nat), HLd Tryz.prog S8 134 (.pointer (some (a39.add 0))) w1 (.slice p41 l41 c41) ∧
  callF Tryz.prog 44 #[.slice p2 l2 c2] w1 fun r45 w2 =>
  ∃ (p45 : Option Addr) (l45 : Nat) (c45 : Nat), r45 = .slice p45 l45 c45 ∧
  (w2 = w1 ∨ S8 w2) ∧
  ∃ (p47 : Option Addr) (l47 : Nat) (c47 : Nat) (w3 : World), Ef Tryz.prog (Instr.buildSlice 134 1 #[(0, .agg #[.pointer p7, .int .i64 n1, .slice p45 l45 c45])]) w2 (.slice p47 l47 c47) w3 ∧
  (w3 = w2 ∨ S8 w3) ∧
  ∃ (p48 : Option Addr) (l48 : Nat) (c48 : Nat) (w4 : World), Ef Tryz.prog (Builtin.append_ #[134, 134] 134 #[.slice p41 l41 c41, .slice p47 l47 c47]) w3 (.slice p48 l48 c48) w4 ∧
  ∃ (a49 : Addr), p0 = some a49 ∧
  ∃ (w5 : World), Sto Tryz.prog 134 (.pointer (some (a49.add 0))) (.slice p48 l48 c48) w4 w5 ∧
  Q (.int .i64 0) w5
def ring_Ring_Install_j2 (p0 : Option Addr) (n1 : Int) (p2 : Option Addr) (l2 : Nat) (c2 : Nat) (n6 : Int) (p7 : Option Addr) (b14 : Bool) (w : World) (Q : Value → World → Prop) : Prop :=
  cond b14
  (Q (.int .i64 11) w)
  (callF Tryz.prog 127 #[.pointer p0, .int .i64 n1] w fun r28 w1 =>
    ∃ (n28 : Int), r28 = .int .i64 n28 ∧
    cond (decide (n28 ≥ 0))
    (Q (.int .i64 16) w1)
    (∃ (a32 : Addr), p0 = some a32 ∧
      ∃ (p34 : Option Addr) (l34 : Nat) (c34 : Nat), Ld Tryz.prog 134 (.pointer (some (a32.add 0))) w1 (.slice p34 l34 c34) ∧
      cond (decide (((l34 : Nat) : Int) ≥ 16))
      (Q (.int .i64 18) w1)
      (ring_Ring_Install_j1 p0 n1 p2 l2 c2 n6 p7 w1 Q)))
def ring_Ring_Install (p0 : Option Addr) (n1 : Int) (p2 : Option Addr) (l2 : Nat) (c2 : Nat) (w : World) (Q : Value → World → Prop) : Prop :=
  callF Tryz.prog 12 #[.slice p2 l2 c2] w fun r11 w1 =>
  ∃ (p11 : Option Addr) (n11 : Int), r11 = .tuple #[.pointer p11, .int .i64 n11] ∧
  cond (decide (n1 < 0))
  (ring_Ring_Install_j2 p0 n1 p2 l2 c2 0 p11 true w1 Q)
  (cond (decide (n1 > 127))
    (ring_Ring_Install_j2 p0 n1 p2 l2 c2 0 p11 true w1 Q)
    (ring_Ring_Install_j2 p0 n1 p2 l2 c2 0 p11 (n11 != 0) w1 Q))
def ring_Ring_Install_tt : Nat → List (Nat × TypeId) := fun _ => []
theorem ring_Ring_Install_call (p0 : Option Addr) (n1 : Int) (p2 : Option Addr) (l2 : Nat) (c2 : Nat) (w : World) (Q : Value → World → Prop) (h : ring_Ring_Install p0 n1 p2 l2 c2 w Q) : callF Tryz.prog 77 #[.pointer p0, .int .i64 n1, .slice p2 l2 c2] w Q :=
  callF_of (fun _ _ => by kernel_rfl) (callK_of_sw ring_Ring_Install_tt Tryz.func77 rfl (by kernel_rfl) (show sw Tryz.prog none 51 ring_Ring_Install_tt _ 0 (endK Tryz.prog [.tmp 6] Q) ⟨regs [.pointer p0, .int .i64 n1, .slice p2 l2 c2], []⟩ w from
    Eq.mp (by kernel_rfl : ring_Ring_Install p0 n1 p2 l2 c2 w Q = sw Tryz.prog none 51 ring_Ring_Install_tt (Tryz.f77.body.getD .skip) 0 (endK Tryz.prog [.tmp 6] Q) ⟨regs [.pointer p0, .int .i64 n1, .slice p2 l2 c2], []⟩ w) h))

def ring_Ring_Newest (p0 : Option Addr) (w : World) (Q : Value → World → Prop) : Prop :=
  ∃ (a5 : Addr), p0 = some a5 ∧
  ∃ (p7 : Option Addr) (l7 : Nat) (c7 : Nat), Ld Tryz.prog 134 (.pointer (some (a5.add 0))) w (.slice p7 l7 c7) ∧
  cond (((l7 : Nat) : Int) == 0)
  (Q (.tuple #[.int .i64 0, .bool false]) w)
  (∃ (S3 : World → Prop),
    Drw w fun w1 =>
    ∃ (a11 : Addr), p0 = some a11 ∧
    ∃ (a15 : Addr), p0 = some a15 ∧
    ∃ (p13 : Option Addr) (l13 : Nat) (c13 : Nat), HLd Tryz.prog S3 134 (.pointer (some (a11.add 0))) w1 (.slice p13 l13 c13) ∧
    ∃ (p17 : Option Addr) (l17 : Nat) (c17 : Nat), Ld Tryz.prog 134 (.pointer (some (a15.add 0))) w1 (.slice p17 l17 c17) ∧
    (w1 = w1 ∨ S3 w1) ∧
    ∃ (a20 : Addr), IxA Tryz.prog 134 (.slice p13 l13 c13) (.int .i64 (IntKind.i64.wrap (((l17 : Nat) : Int) - 1))) a20 ∧
    ∃ (n22 : Int), Ld Tryz.prog 3 (.pointer (some (a20.add 1))) w1 (.int .i64 n22) ∧
    Q (.tuple #[.int .i64 n22, .bool true]) w1)
def ring_Ring_Newest_tt : Nat → List (Nat × TypeId) := fun _ => []
theorem ring_Ring_Newest_call (p0 : Option Addr) (w : World) (Q : Value → World → Prop) (h : ring_Ring_Newest p0 w Q) : callF Tryz.prog 78 #[.pointer p0] w Q :=
  callF_of (fun _ _ => by kernel_rfl) (callK_of_sw ring_Ring_Newest_tt Tryz.func78 rfl (by kernel_rfl) (show sw Tryz.prog none 23 ring_Ring_Newest_tt _ 0 (endK Tryz.prog [.tmp 2, .tmp 3] Q) ⟨regs [.pointer p0], []⟩ w from
    Eq.mp (by kernel_rfl : ring_Ring_Newest p0 w Q = sw Tryz.prog none 23 ring_Ring_Newest_tt (Tryz.f78.body.getD .skip) 0 (endK Tryz.prog [.tmp 2, .tmp 3] Q) ⟨regs [.pointer p0], []⟩ w) h))

def ring_Ring_Clone (p0 : Option Addr) (w : World) (Q : Value → World → Prop) : Prop :=
  ∃ (a4 : Addr), p0 = some a4 ∧
  ∃ (p6 : Option Addr) (l6 : Nat) (c6 : Nat), Ld Tryz.prog 134 (.pointer (some (a4.add 0))) w (.slice p6 l6 c6) ∧
  callF Tryz.prog 128 #[.slice p6 l6 c6] w fun r7 w1 =>
  ∃ (p7 : Option Addr) (l7 : Nat) (c7 : Nat), r7 = .slice p7 l7 c7 ∧
  New #[.slice p7 l7 c7] 136 w1 fun k9 w2 =>
  Q (.pointer (some (⟨k9, 0, none⟩ : Addr))) w2
def ring_Ring_Clone_tt : Nat → List (Nat × TypeId) := fun _ => []
theorem ring_Ring_Clone_call (p0 : Option Addr) (w : World) (Q : Value → World → Prop) (h : ring_Ring_Clone p0 w Q) : callF Tryz.prog 79 #[.pointer p0] w Q :=
  callF_of (fun _ _ => by kernel_rfl) (callK_of_sw ring_Ring_Clone_tt Tryz.func79 rfl (by kernel_rfl) (show sw Tryz.prog none 10 ring_Ring_Clone_tt _ 0 (endK Tryz.prog [.tmp 2] Q) ⟨regs [.pointer p0], []⟩ w from
    Eq.mp (by kernel_rfl : ring_Ring_Clone p0 w Q = sw Tryz.prog none 10 ring_Ring_Clone_tt (Tryz.f79.body.getD .skip) 0 (endK Tryz.prog [.tmp 2] Q) ⟨regs [.pointer p0], []⟩ w) h))

def ring_Ring_Retire_j1 (p0 : Option Addr) (n4 : Int) (n5 : Int) (w : World) (Q : Value → World → Prop) : Prop :=
  ∃ (a21 : Addr), p0 = some a21 ∧
  ∃ (p23 : Option Addr) (l23 : Nat) (c23 : Nat), Ld Tryz.prog 134 (.pointer (some (a21.add 0))) w (.slice p23 l23 c23) ∧
  callF Tryz.prog 129 #[.slice p23 l23 c23, .int .i64 n5, .int .i64 (IntKind.i64.wrap (n5 + 1))] w fun r27 w1 =>
  ∃ (p27 : Option Addr) (l27 : Nat) (c27 : Nat), r27 = .slice p27 l27 c27 ∧
  ∃ (a28 : Addr), p0 = some a28 ∧
  ∃ (w2 : World), Sto Tryz.prog 134 (.pointer (some (a28.add 0))) (.slice p27 l27 c27) w1 w2 ∧
  Q (.int .i64 0) w2
def ring_Ring_Retire_j2 (p0 : Option Addr) (n4 : Int) (n5 : Int) (b9 : Bool) (w : World) (Q : Value → World → Prop) : Prop :=
  cond b9
  (Q (.int .i64 11) w)
  (cond (decide (n5 < 0))
    (Q (.int .i64 17) w)
    (ring_Ring_Retire_j1 p0 n4 n5 w Q))
def ring_Ring_Retire (p0 : Option Addr) (n1 : Int) (w : World) (Q : Value → World → Prop) : Prop :=
  callF Tryz.prog 127 #[.pointer p0, .int .i64 n1] w fun r8 w1 =>
  ∃ (n8 : Int), r8 = .int .i64 n8 ∧
  cond (decide (n1 < 0))
  (ring_Ring_Retire_j2 p0 0 n8 true w1 Q)
  (ring_Ring_Retire_j2 p0 0 n8 (decide (n1 > 127)) w1 Q)
def ring_Ring_Retire_tt : Nat → List (Nat × TypeId) := fun _ => []
theorem ring_Ring_Retire_call (p0 : Option Addr) (n1 : Int) (w : World) (Q : Value → World → Prop) (h : ring_Ring_Retire p0 n1 w Q) : callF Tryz.prog 80 #[.pointer p0, .int .i64 n1] w Q :=
  callF_of (fun _ _ => by kernel_rfl) (callK_of_sw ring_Ring_Retire_tt Tryz.func80 rfl (by kernel_rfl) (show sw Tryz.prog none 30 ring_Ring_Retire_tt _ 0 (endK Tryz.prog [.tmp 4] Q) ⟨regs [.pointer p0, .int .i64 n1], []⟩ w from
    Eq.mp (by kernel_rfl : ring_Ring_Retire p0 n1 w Q = sw Tryz.prog none 30 ring_Ring_Retire_tt (Tryz.f80.body.getD .skip) 0 (endK Tryz.prog [.tmp 4] Q) ⟨regs [.pointer p0, .int .i64 n1], []⟩ w) h))

def ring_Ring_Seqs (p0 : Option Addr) (w : World) (Q : Value → World → Prop) : Prop :=
  ∃ (a7 : Addr), p0 = some a7 ∧
  ∃ (p9 : Option Addr) (l9 : Nat) (c9 : Nat), Ld Tryz.prog 134 (.pointer (some (a7.add 0))) w (.slice p9 l9 c9) ∧
  LoopS [.slice none 0 0, .slice none 0 0, .slice p9 l9 c9, .int .i64 ((l9 : Nat) : Int), .int .i64 0] w fun I1 μ1 us1 _ wl1 =>
  ∃ (p2 : Option Addr) (l2 : Nat) (c2 : Nat) (p3 : Option Addr) (l3 : Nat) (c3 : Nat) (p9_1 : Option Addr) (l9_1 : Nat) (c9_1 : Nat) (n10 : Int) (n11 : Int), us1 = [.slice p2 l2 c2, .slice p3 l3 c3, .slice p9_1 l9_1 c9_1, .int .i64 n10, .int .i64 n11] ∧
  cond (decide (n11 < n10))
  (∃ (a13 : Addr), IxA Tryz.prog 134 (.slice p9_1 l9_1 c9_1) (.int .i64 n11) a13 ∧
    ∃ (p14 : Option Addr) (n14 : Int) (p14_1 : Option Addr) (l14 : Nat) (c14 : Nat), Ld Tryz.prog 138 (.pointer (some a13)) wl1 (.agg #[.pointer p14, .int .i64 n14, .slice p14_1 l14 c14]) ∧
    ∃ (z5 : Value), Pu Tryz.prog (zeroValue 138) z5 ∧
    New z5.cells 138 wl1 fun k5 w1 =>
    ∃ (w2 : World), Sto Tryz.prog 138 (.pointer (some (⟨k5, 0, none⟩ : Addr))) (.agg #[.pointer p14, .int .i64 n14, .slice p14_1 l14 c14]) w1 w2 ∧
    ∃ (n17 : Int), Ld Tryz.prog 3 (.pointer (some ((⟨k5, 0, none⟩ : Addr).add 1))) w2 (.int .i64 n17) ∧
    ∃ (p18 : Option Addr) (l18 : Nat) (c18 : Nat) (w3 : World), Ef Tryz.prog (Instr.buildSlice 132 1 #[(0, .int .i64 n17)]) w2 (.slice p18 l18 c18) w3 ∧
    ∃ (p19 : Option Addr) (l19 : Nat) (c19 : Nat) (w4 : World), Ef Tryz.prog (Builtin.append_ #[132, 132] 132 #[.slice p3 l3 c3, .slice p18 l18 c18]) w3 (.slice p19 l19 c19) w4 ∧
    goesOn [] [] I1 μ1 us1 [.slice p2 l2 c2, .slice p19 l19 c19, .slice p9_1 l9_1 c9_1, .int .i64 n10, .int .i64 (IntKind.i64.wrap (n11 + 1))] wl1 w4)
  (Q (.slice p3 l3 c3) wl1)
def ring_Ring_Seqs_tt : Nat → List (Nat × TypeId) := fun n => match n with | 0 => [(2, 132), (3, 132), (9, 134), (10, 3), (11, 3)] | _ => []
theorem ring_Ring_Seqs_call (p0 : Option Addr) (w : World) (Q : Value → World → Prop) (h : ring_Ring_Seqs p0 w Q) : callF Tryz.prog 82 #[.pointer p0] w Q :=
  callF_of (fun _ _ => by kernel_rfl) (callK_of_sw ring_Ring_Seqs_tt Tryz.func82 rfl (by kernel_rfl) (show sw Tryz.prog none 22 ring_Ring_Seqs_tt _ 0 (endK Tryz.prog [.tmp 2] Q) ⟨regs [.pointer p0], []⟩ w from
    Eq.mp (by kernel_rfl : ring_Ring_Seqs p0 w Q = sw Tryz.prog none 22 ring_Ring_Seqs_tt (Tryz.f82.body.getD .skip) 0 (endK Tryz.prog [.tmp 2] Q) ⟨regs [.pointer p0], []⟩ w) h))

def ring_Ring_of (p0 : Option Addr) (n1 : Int) (w : World) (Q : Value → World → Prop) : Prop :=
  ∃ (z4 : Value), Pu Tryz.prog (zeroValue 138) z4 ∧
  New z4.cells 138 w fun k4 w1 =>
  callF Tryz.prog 127 #[.pointer p0, .int .i64 n1] w1 fun r9 w2 =>
  ∃ (n9 : Int), r9 = .int .i64 n9 ∧
  cond (decide (n9 ≥ 0))
  (∃ (a13 : Addr), p0 = some a13 ∧
    ∃ (p15 : Option Addr) (l15 : Nat) (c15 : Nat), Ld Tryz.prog 134 (.pointer (some (a13.add 0))) w2 (.slice p15 l15 c15) ∧
    ∃ (a17 : Addr), IxA Tryz.prog 134 (.slice p15 l15 c15) (.int .i64 n9) a17 ∧
    ∃ (p18 : Option Addr) (n18 : Int) (p18_1 : Option Addr) (l18 : Nat) (c18 : Nat), Ld Tryz.prog 138 (.pointer (some a17)) w2 (.agg #[.pointer p18, .int .i64 n18, .slice p18_1 l18 c18]) ∧
    ∃ (w3 : World), Sto Tryz.prog 138 (.pointer (some (⟨k4, 0, none⟩ : Addr))) (.agg #[.pointer p18, .int .i64 n18, .slice p18_1 l18 c18]) w2 w3 ∧
    ∃ (a4 : Addr) (v4 : Value), (.pointer (some (⟨k4, 0, none⟩ : Addr)) : Value) = .pointer (some a4) ∧ (loadVar 138 a4).run Tryz.prog w3 = .ok v4 w3 ∧
    Q (.tuple #[v4, .bool true]) w3)
  (∃ (w4 : World), Sto Tryz.prog 138 (.pointer (some (⟨k4, 0, none⟩ : Addr))) (.agg #[.pointer none, .int .i64 0, .slice none 0 0]) w2 w4 ∧
    ∃ (a4_1 : Addr) (v4_1 : Value), (.pointer (some (⟨k4, 0, none⟩ : Addr)) : Value) = .pointer (some a4_1) ∧ (loadVar 138 a4_1).run Tryz.prog w4 = .ok v4_1 w4 ∧
    Q (.tuple #[v4_1, .bool false]) w4)
def ring_Ring_of_tt : Nat → List (Nat × TypeId) := fun _ => []
theorem ring_Ring_of_call (p0 : Option Addr) (n1 : Int) (w : World) (Q : Value → World → Prop) (h : ring_Ring_of p0 n1 w Q) : callF Tryz.prog 85 #[.pointer p0, .int .i64 n1] w Q :=
  callF_of (fun _ _ => by kernel_rfl) (callK_of_sw ring_Ring_of_tt Tryz.func85 rfl (by kernel_rfl) (show sw Tryz.prog none 20 ring_Ring_of_tt _ 0 (endK Tryz.prog [.cell 4 138, .tmp 5] Q) ⟨regs [.pointer p0, .int .i64 n1], []⟩ w from
    Eq.mp (by kernel_rfl : ring_Ring_of p0 n1 w Q = sw Tryz.prog none 20 ring_Ring_of_tt (Tryz.f85.body.getD .skip) 0 (endK Tryz.prog [.cell 4 138, .tmp 5] Q) ⟨regs [.pointer p0, .int .i64 n1], []⟩ w) h))

def ring_Ring_find (p0 : Option Addr) (n1 : Int) (w : World) (Q : Value → World → Prop) : Prop :=
  New #[.int .i64 n1] 3 w fun k3 w1 =>
  ∃ (a6 : Addr), p0 = some a6 ∧
  ∃ (p8 : Option Addr) (l8 : Nat) (c8 : Nat), Ld Tryz.prog 134 (.pointer (some (a6.add 0))) w1 (.slice p8 l8 c8) ∧
  callF Tryz.prog 156 #[.slice p8 l8 c8, .func (.func 157) #[] #[.pointer (some (⟨k3, 0, none⟩ : Addr))]] w1 fun r10 w2 =>
  ∃ (n10 : Int), r10 = .int .i64 n10 ∧
  Q (.int .i64 n10) w2
def ring_Ring_find_tt : Nat → List (Nat × TypeId) := fun _ => []
theorem ring_Ring_find_call (p0 : Option Addr) (n1 : Int) (w : World) (Q : Value → World → Prop) (h : ring_Ring_find p0 n1 w Q) : callF Tryz.prog 127 #[.pointer p0, .int .i64 n1] w Q :=
  callF_of (fun _ _ => by kernel_rfl) (callK_of_sw ring_Ring_find_tt Tryz.func127 rfl (by kernel_rfl) (show sw Tryz.prog none 11 ring_Ring_find_tt _ 0 (endK Tryz.prog [.tmp 4] Q) ⟨regs [.pointer p0, .int .i64 n1], []⟩ w from
    Eq.mp (by kernel_rfl : ring_Ring_find p0 n1 w Q = sw Tryz.prog none 11 ring_Ring_find_tt (Tryz.f127.body.getD .skip) 0 (endK Tryz.prog [.tmp 4] Q) ⟨regs [.pointer p0, .int .i64 n1], []⟩ w) h))

def ring_Ring_find_c1 (p0 : Option Addr) (n0 : Int) (p0_1 : Option Addr) (l0 : Nat) (c0 : Nat) (p1 : Option Addr) (w : World) (Q : Value → World → Prop) : Prop :=
  New #[.pointer p0, .int .i64 n0, .slice p0_1 l0 c0] 138 w fun k2 w1 =>
  ∃ (n5 : Int), Ld Tryz.prog 3 (.pointer (some ((⟨k2, 0, none⟩ : Addr).add 1))) w1 (.int .i64 n5) ∧
  ∃ (n6 : Int), Ld Tryz.prog 3 (.pointer p1) w1 (.int .i64 n6) ∧
  Q (.bool (n5 == n6)) w1
def ring_Ring_find_c1_tt : Nat → List (Nat × TypeId) := fun _ => []
theorem ring_Ring_find_c1_call (p0 : Option Addr) (n0 : Int) (p0_1 : Option Addr) (l0 : Nat) (c0 : Nat) (p1 : Option Addr) (w : World) (Q : Value → World → Prop) (h : ring_Ring_find_c1 p0 n0 p0_1 l0 c0 p1 w Q) : callF Tryz.prog 157 #[.agg #[.pointer p0, .int .i64 n0, .slice p0_1 l0 c0], .pointer p1] w Q :=
  callF_of (fun _ _ => by kernel_rfl) (callK_of_sw ring_Ring_find_c1_tt Tryz.func157 rfl (by kernel_rfl) (show sw Tryz.prog none 8 ring_Ring_find_c1_tt _ 0 (endK Tryz.prog [.tmp 3] Q) ⟨regs [.agg #[.pointer p0, .int .i64 n0, .slice p0_1 l0 c0], .pointer p1], []⟩ w from
    Eq.mp (by kernel_rfl : ring_Ring_find_c1 p0 n0 p0_1 l0 c0 p1 w Q = sw Tryz.prog none 8 ring_Ring_find_c1_tt (Tryz.f157.body.getD .skip) 0 (endK Tryz.prog [.tmp 3] Q) ⟨regs [.agg #[.pointer p0, .int .i64 n0, .slice p0_1 l0 c0], .pointer p1], []⟩ w) h))
end Go.Sh
end

section
namespace Go.Sh
open Go Go.Fw Go.Proofs
set_option maxRecDepth 100000
set_option linter.unusedVariables false

def ref19_Ring_Install_j1 (p0 : Option Addr) (n1 : Int) (p2 : Option Addr) (l2 : Nat) (c2 : Nat) (n6 : Int) (w : World) (Q : Value → World → Prop) : Prop :=
  callF Tryz.prog 130 #[.pointer p0, .int .i64 n1] w fun r20 w1 =>
  ∃ (n20 : Int), r20 = .int .i64 n20 ∧
  cond (decide (n20 ≥ 0))
  (Q (.int .i64 16) w1)
  (∃ (a23 : Addr), p0 = some a23 ∧
    ∃ (p25 : Option Addr) (l25 : Nat) (c25 : Nat), Ld Tryz.prog 74 (.pointer (some (a23.add 0))) w1 (.slice p25 l25 c25) ∧
    cond (((l25 : Nat) : Int) == 16)
    (Q (.int .i64 18) w1)
    (∃ (S7 : World → Prop),
      Drw w1 fun w2 =>
      ∃ (a30 : Addr), p0 = some a30 ∧
      ∃ (p32 : Option Addr) (l32 : Nat) (c32 : Nat), HLd Tryz.prog S7 74 (.pointer (some (a30.add 0))) w2 (.slice p32 l32 c32) ∧
      ∃ (p34 : Option Addr) (l34 : Nat) (c34 : Nat) (w3 : World), Ef Tryz.prog (Instr.buildSlice 22 0 #[]) w2 (.slice p34 l34 c34) w3 ∧
      (w3 = w2 ∨ S7 w3) ∧
      ∃ (p36 : Option Addr) (l36 : Nat) (c36 : Nat) (w4 : World), Ef Tryz.prog (Builtin.append_ #[22, 22] 22 #[.slice p34 l34 c34, .slice p2 l2 c2]) w3 (.slice p36 l36 c36) w4 ∧
      (w4 = w3 ∨ S7 w4) ∧
      ∃ (p38 : Option Addr) (l38 : Nat) (c38 : Nat) (w5 : World), Ef Tryz.prog (Instr.buildSlice 74 1 #[(0, .agg #[.int .i64 n1, .slice p36 l36 c36])]) w4 (.slice p38 l38 c38) w5 ∧
      (w5 = w4 ∨ S7 w5) ∧
      ∃ (p39 : Option Addr) (l39 : Nat) (c39 : Nat) (w6 : World), Ef Tryz.prog (Builtin.append_ #[74, 74] 74 #[.slice p32 l32 c32, .slice p38 l38 c38]) w5 (.slice p39 l39 c39) w6 ∧
      ∃ (a40 : Addr), p0 = some a40 ∧
      ∃ (w7 : World), Sto Tryz.prog 74 (.pointer (some (a40.add 0))) (.slice p39 l39 c39) w6 w7 ∧
      Q (.int .i64 0) w7))
def ref19_Ring_Install (p0 : Option Addr) (n1 : Int) (p2 : Option Addr) (l2 : Nat) (c2 : Nat) (w : World) (Q : Value → World → Prop) : Prop :=
  cond (decide (n1 < 0))
  (Q (.int .i64 11) w)
  (cond (decide (n1 > 127))
    (Q (.int .i64 11) w)
    (cond (((l2 : Nat) : Int) != 16)
      (Q (.int .i64 11) w)
      (ref19_Ring_Install_j1 p0 n1 p2 l2 c2 0 w Q)))
def ref19_Ring_Install_tt : Nat → List (Nat × TypeId) := fun _ => []
theorem ref19_Ring_Install_call (p0 : Option Addr) (n1 : Int) (p2 : Option Addr) (l2 : Nat) (c2 : Nat) (w : World) (Q : Value → World → Prop) (h : ref19_Ring_Install p0 n1 p2 l2 c2 w Q) : callF Tryz.prog 83 #[.pointer p0, .int .i64 n1, .slice p2 l2 c2] w Q :=
  callF_of (fun _ _ => by kernel_rfl) (callK_of_sw ref19_Ring_Install_tt Tryz.func83 rfl (by kernel_rfl) (show sw Tryz.prog none 42 ref19_Ring_Install_tt _ 0 (endK Tryz.prog [.tmp 6] Q) ⟨regs [.pointer p0, .int .i64 n1, .slice p2 l2 c2], []⟩ w from
    Eq.mp (by kernel_rfl : ref19_Ring_Install p0 n1 p2 l2 c2 w Q = sw Tryz.prog none 42 ref19_Ring_Install_tt (Tryz.f83.body.getD .skip) 0 (endK Tryz.prog [.tmp 6] Q) ⟨regs [.pointer p0, .int .i64 n1, .slice p2 l2 c2], []⟩ w) h))

def ref19_Ring_Retire_j1 (p0 : Option Addr) (n1 : Int) (n4 : Int) (w : World) (Q : Value → World → Prop) : Prop :=
  callF Tryz.prog 130 #[.pointer p0, .int .i64 n1] w fun r14 w1 =>
  ∃ (n14 : Int), r14 = .int .i64 n14 ∧
  cond (decide (n14 < 0))
  (Q (.int .i64 17) w1)
  (∃ (S6 : World → Prop),
    Drw w1 fun w2 =>
    ∃ (a20 : Addr), p0 = some a20 ∧
    ∃ (a27 : Addr), p0 = some a27 ∧
    ∃ (p22 : Option Addr) (l22 : Nat) (c22 : Nat), HLd Tryz.prog S6 74 (.pointer (some (a20.add 0))) w2 (.slice p22 l22 c22) ∧
    ∃ (p24 : Option Addr) (l24 : Nat) (c24 : Nat), Pu Tryz.prog (Instr.sliceAt 74 (.slice p22 l22 c22) none (some (.int .i64 n14)) none) (.slice p24 l24 c24) ∧
    ∃ (p29 : Option Addr) (l29 : Nat) (c29 : Nat), HLd Tryz.prog S6 74 (.pointer (some (a27.add 0))) w2 (.slice p29 l29 c29) ∧
    ∃ (p32 : Option Addr) (l32 : Nat) (c32 : Nat), Pu Tryz.prog (Instr.sliceAt 74 (.slice p29 l29 c29) (some (.int .i64 (IntKind.i64.wrap (n14 + 1)))) none none) (.slice p32 l32 c32) ∧
    ∃ (p18 : Option Addr) (l18 : Nat) (c18 : Nat) (w3 : World), Ef Tryz.prog (Instr.buildSlice 74 0 #[]) w2 (.slice p18 l18 c18) w3 ∧
    (w3 = w2 ∨ S6 w3) ∧
    ∃ (p25 : Option Addr) (l25 : Nat) (c25 : Nat) (w4 : World), Ef Tryz.prog (Builtin.append_ #[74, 74] 74 #[.slice p18 l18 c18, .slice p24 l24 c24]) w3 (.slice p25 l25 c25) w4 ∧
    (w4 = w3 ∨ S6 w4) ∧
    ∃ (p33 : Option Addr) (l33 : Nat) (c33 : Nat) (w5 : World), Ef Tryz.prog (Builtin.append_ #[74, 74] 74 #[.slice p25 l25 c25, .slice p32 l32 c32]) w4 (.slice p33 l33 c33) w5 ∧
    ∃ (a34 : Addr), p0 = some a34 ∧
    ∃ (w6 : World), Sto Tryz.prog 74 (.pointer (some (a34.add 0))) (.slice p33 l33 c33) w5 w6 ∧
    Q (.int .i64 0) w6)
def ref19_Ring_Retire (p0 : Option Addr) (n1 : Int) (w : World) (Q : Value → World → Prop) : Prop :=
  cond (decide (n1 < 0))
  (Q (.int .i64 11) w)
  (cond (decide (n1 > 127))
    (Q (.int .i64 11) w)
    (ref19_Ring_Retire_j1 p0 n1 0 w Q))
def ref19_Ring_Retire_tt : Nat → List (Nat × TypeId) := fun _ => []
theorem ref19_Ring_Retire_call (p0 : Option Addr) (n1 : Int) (w : World) (Q : Value → World → Prop) (h : ref19_Ring_Retire p0 n1 w Q) : callF Tryz.prog 84 #[.pointer p0, .int .i64 n1] w Q :=
  callF_of (fun _ _ => by kernel_rfl) (callK_of_sw ref19_Ring_Retire_tt Tryz.func84 rfl (by kernel_rfl) (show sw Tryz.prog none 36 ref19_Ring_Retire_tt _ 0 (endK Tryz.prog [.tmp 4] Q) ⟨regs [.pointer p0, .int .i64 n1], []⟩ w from
    Eq.mp (by kernel_rfl : ref19_Ring_Retire p0 n1 w Q = sw Tryz.prog none 36 ref19_Ring_Retire_tt (Tryz.f84.body.getD .skip) 0 (endK Tryz.prog [.tmp 4] Q) ⟨regs [.pointer p0, .int .i64 n1], []⟩ w) h))

def ref19_Ring_Find (p0 : Option Addr) (n1 : Int) (w : World) (Q : Value → World → Prop) : Prop :=
  LoopS [.pointer p0, .int .i64 n1, .int .i64 0, .int .i64 0] w fun I1 μ1 us1 _ wl1 =>
  ∃ (p0_1 : Option Addr) (n1_1 : Int) (n4 : Int) (n5 : Int), us1 = [.pointer p0_1, .int .i64 n1_1, .int .i64 n4, .int .i64 n5] ∧
  ∃ (a8 : Addr), p0_1 = some a8 ∧
  ∃ (p10 : Option Addr) (l10 : Nat) (c10 : Nat), Ld Tryz.prog 74 (.pointer (some (a8.add 0))) wl1 (.slice p10 l10 c10) ∧
  cond (decide (n5 < ((l10 : Nat) : Int)))
  (∃ (a16 : Addr), p0_1 = some a16 ∧
    ∃ (p18 : Option Addr) (l18 : Nat) (c18 : Nat), Ld Tryz.prog 74 (.pointer (some (a16.add 0))) wl1 (.slice p18 l18 c18) ∧
    ∃ (a20 : Addr), IxA Tryz.prog 74 (.slice p18 l18 c18) (.int .i64 n5) a20 ∧
    ∃ (n22 : Int), Ld Tryz.prog 3 (.pointer (some (a20.add 0))) wl1 (.int .i64 n22) ∧
    cond (n22 == n1_1)
    (Q (.int .i64 n5) wl1)
    (goesOn [] [] I1 μ1 us1 [.pointer p0_1, .int .i64 n1_1, .int .i64 n4, .int .i64 (IntKind.i64.wrap (n5 + 1))] wl1 wl1))
  (Q (.int .i64 (-1)) wl1)
def ref19_Ring_Find_tt : Nat → List (Nat × TypeId) := fun n => match n with | 0 => [(0, 73), (1, 3), (4, 3), (5, 3)] | _ => []
theorem ref19_Ring_Find_call (p0 : Option Addr) (n1 : Int) (w : World) (Q : Value → World → Prop) (h : ref19_Ring_Find p0 n1 w Q) : callF Tryz.prog 130 #[.pointer p0, .int .i64 n1] w Q :=
  callF_of (fun _ _ => by kernel_rfl) (callK_of_sw ref19_Ring_Find_tt Tryz.func130 rfl (by kernel_rfl) (show sw Tryz.prog none 26 ref19_Ring_Find_tt _ 0 (endK Tryz.prog [.tmp 4] Q) ⟨regs [.pointer p0, .int .i64 n1], []⟩ w from
    Eq.mp (by kernel_rfl : ref19_Ring_Find p0 n1 w Q = sw Tryz.prog none 26 ref19_Ring_Find_tt (Tryz.f130.body.getD .skip) 0 (endK Tryz.prog [.tmp 4] Q) ⟨regs [.pointer p0, .int .i64 n1], []⟩ w) h))
end Go.Sh
end

section
namespace Go.Sh
open Go Go.Fw Go.Proofs
set_option maxRecDepth 100000
set_option linter.unusedVariables false

def law19_RingBoxes_j1 (n2 : Int) (p4 : Option Addr) (l4 : Nat) (c4 : Nat) (b10 : Bool) (p11 : Option Addr) (p18 : Option Addr) (l18 : Nat) (c18 : Nat) (p19 : Option Addr) (l19 : Nat) (c19 : Nat) (p23 : Option Addr) (w : World) (Q : Value → World → Prop) : Prop :=
  callF Tryz.prog 40 #[.pointer p11, .int .i64 n2] w fun r145 w1 =>
  ∃ (p145 : Option Addr) (l145 : Nat) (c145 : Nat) (b145 : Bool), r145 = .tuple #[.slice p145 l145 c145, .bool b145] ∧
  callF Tryz.prog 21 #[.pointer p23, .slice p18 l18 c18, .slice p19 l19 c19, .slice p4 l4 c4] w1 fun r153 w2 =>
  ∃ (p153 : Option Addr) (l153 : Nat) (c153 : Nat) (n153 : Int), r153 = .tuple #[.slice p153 l153 c153, .int .i64 n153] ∧
  callF Tryz.prog 20 #[.slice p145 l145 c145, .slice p18 l18 c18, .slice p19 l19 c19, .slice p4 l4 c4] w2 fun r161 w3 =>
  ∃ (p161 : Option Addr) (l161 : Nat) (c161 : Nat) (n161 : Int), r161 = .tuple #[.slice p161 l161 c161, .int .i64 n161] ∧
  cond (n153 == n161)
  (callF Tryz.prog 18 #[.slice p153 l153 c153, .slice p161 l161 c161] w3 fun r170 w4 =>
    ∃ (b170 : Bool), r170 = .bool b170 ∧
    Q (.bool b170) w4)
  (Q (.bool false) w3)
def law19_RingBoxes_j2 (n2 : Int) (p4 : Option Addr) (l4 : Nat) (c4 : Nat) (b10 : Bool) (p11 : Option Addr) (p18 : Option Addr) (l18 : Nat) (c18 : Nat) (p19 : Option Addr) (l19 : Nat) (c19 : Nat) (p23 : Option Addr) (b24 : Bool) (b135 : Bool) (w : World) (Q : Value → World → Prop) : Prop :=
  cond b135
  (cond (!b24)
    (∃ (b140 : Bool) (w1 : World), Ef Tryz.prog (do eqGuard .eql 25 (.tmp 139) (.const (.pointer none)) (.pointer p23) (.pointer none); binOp .eql 25 (.pointer p23) (.pointer none) : Sem Value) w (.bool b140) w1 ∧
      Q (.bool b140) w1)
    (Q (.bool false) w))
  (law19_RingBoxes_j1 n2 p4 l4 c4 b10 p11 p18 l18 c18 p19 l19 c19 p23 w Q)
def law19_RingBoxes_j3 (n2 : Int) (p4 : Option Addr) (l4 : Nat) (c4 : Nat) (b10 : Bool) (p11 : Option Addr) (p18 : Option Addr) (l18 : Nat) (c18 : Nat) (p19 : Option Addr) (l19 : Nat) (c19 : Nat) (w : World) (Q : Value → World → Prop) : Prop :=
  callF Tryz.prog 39 #[.pointer p11, .int .i64 n2] w fun r127 w1 =>
  ∃ (p127 : Option Addr) (b127 : Bool), r127 = .tuple #[.pointer p127, .bool b127] ∧
  cond (!b127)
  (law19_RingBoxes_j2 n2 p4 l4 c4 b10 p11 p18 l18 c18 p19 l19 c19 p127 b127 true w1 Q)
  (∃ (b134 : Bool) (w2 : World), Ef Tryz.prog (do eqGuard .eql 25 (.tmp 133) (.const (.pointer none)) (.pointer p127) (.pointer none); binOp .eql 25 (.pointer p127) (.pointer none) : Sem Value) w1 (.bool b134) w2 ∧
    law19_RingBoxes_j2 n2 p4 l4 c4 b10 p11 p18 l18 c18 p19 l19 c19 p127 b127 b134 w2 Q)
def law19_RingBoxes_j4 (n2 : Int) (p3 : Option Addr) (l3 : Nat) (c3 : Nat) (p4 : Option Addr) (l4 : Nat) (c4 : Nat) (b10 : Bool) (p11 : Option Addr) (p14 : Option Addr) (p16 : Option Addr) (l16 : Nat) (c16 : Nat) (w : World) (Q : Value → World → Prop) : Prop :=
  ∃ (p95 : Option Addr) (l95 : Nat) (c95 : Nat) (w1 : World), Ef Tryz.prog (Instr.makeSlice 22 (.int .i64 12) (.int .i64 12)) w (.slice p95 l95 c95) w1 ∧
  callF Tryz.prog 14 #[.pointer p14, .slice p95 l95 c95, .slice p3 l3 c3, .slice p4 l4 c4] w1 fun r101 w2 =>
  ∃ (p101 : Option Addr) (l101 : Nat) (c101 : Nat) (n101 : Int), r101 = .tuple #[.slice p101 l101 c101, .int .i64 n101] ∧
  callF Tryz.prog 15 #[.slice p16 l16 c16, .slice p95 l95 c95, .slice p3 l3 c3, .slice p4 l4 c4] w2 fun r109 w3 =>
  ∃ (p109 : Option Addr) (l109 : Nat) (c109 : Nat) (n109 : Int), r109 = .tuple #[.slice p109 l109 c109, .int .i64 n109] ∧
  cond (n101 != 0)
  (Q (.bool false) w3)
  (cond (n109 != 0)
    (Q (.bool false) w3)
    (callF Tryz.prog 18 #[.slice p101 l101 c101, .slice p109 l109 c109] w3 fun r121 w4 =>
      ∃ (b121 : Bool), r121 = .bool b121 ∧
      cond (!b121)
      (Q (.bool false) w4)
      (law19_RingBoxes_j3 n2 p4 l4 c4 b10 p11 p95 l95 c95 p101 l101 c101 w4 Q)))
def law19_RingBoxes_j5 (n2 : Int) (p3 : Option Addr) (l3 : Nat) (c3 : Nat) (p4 : Option Addr) (l4 : Nat) (c4 : Nat) (b10 : Bool) (p11 : Option Addr) (p14 : Option Addr) (b15 : Bool) (p16 : Option Addr) (l16 : Nat) (c16 : Nat) (b17 : Bool) (b84 : Bool) (w : World) (Q : Value → World → Prop) : Prop :=
  cond b84
  (cond (!b15)
    (cond (!b17)
      (∃ (b93 : Bool) (w1 : World), Ef Tryz.prog (do eqGuard .eql 25 (.tmp 92) (.const (.pointer none)) (.pointer p14) (.pointer none); binOp .eql 25 (.pointer p14) (.pointer none) : Sem Value) w (.bool b93) w1 ∧
        Q (.bool b93) w1)
      (Q (.bool false) w))
    (Q (.bool false) w))
  (law19_RingBoxes_j4 n2 p3 l3 c3 p4 l4 c4 b10 p11 p14 p16 l16 c16 w Q)
def law19_RingBoxes_j6 (n1 : Int) (n2 : Int) (p3 : Option Addr) (l3 : Nat) (c3 : Nat) (p4 : Option Addr) (l4 : Nat) (c4 : Nat) (b10 : Bool) (p11 : Option Addr) (w : World) (Q : Value → World → Prop) : Prop :=
  callF Tryz.prog 39 #[.pointer p11, .int .i64 n1] w fun r66 w1 =>
  ∃ (p66 : Option Addr) (b66 : Bool), r66 = .tuple #[.pointer p66, .bool b66] ∧
  callF Tryz.prog 40 #[.pointer p11, .int .i64 n1] w1 fun r72 w2 =>
  ∃ (p72 : Option Addr) (l72 : Nat) (c72 : Nat) (b72 : Bool), r72 = .tuple #[.slice p72 l72 c72, .bool b72] ∧
  cond (!b66)
  (law19_RingBoxes_j5 n2 p3 l3 c3 p4 l4 c4 b10 p11 p66 b66 p72 l72 c72 b72 true w2 Q)
  (cond (!b72)
    (law19_RingBoxes_j5 n2 p3 l3 c3 p4 l4 c4 b10 p11 p66 b66 p72 l72 c72 b72 true w2 Q)
    (∃ (b83 : Bool) (w3 : World), Ef Tryz.prog (do eqGuard .eql 25 (.tmp 82) (.const (.pointer none)) (.pointer p66) (.pointer none); binOp .eql 25 (.pointer p66) (.pointer none) : Sem Value) w2 (.bool b83) w3 ∧
      law19_RingBoxes_j5 n2 p3 l3 c3 p4 l4 c4 b10 p11 p66 b66 p72 l72 c72 b72 b83 w3 Q))
def law19_RingBoxes_j7 (p0 : Option Addr) (l0 : Nat) (c0 : Nat) (n1 : Int) (n2 : Int) (p3 : Option Addr) (l3 : Nat) (c3 : Nat) (p4 : Option Addr) (l4 : Nat) (c4 : Nat) (b10 : Bool) (w : World) (Q : Value → World → Prop) : Prop :=
  callF Tryz.prog 37 #[] w fun r45 w1 =>
  ∃ (p45 : Option Addr), r45 = .pointer p45 ∧
  New #[.slice none 0 0] 76 w1 fun k47 w2 =>
  ∃ (b49 : Bool) (w3 : World), Ef Tryz.prog (do eqGuard .eql 71 (.tmp 48) (.const (.pointer none)) (.pointer p45) (.pointer none); binOp .eql 71 (.pointer p45) (.pointer none) : Sem Value) w2 (.bool b49) w3 ∧
  cond b49
  (Q (.bool false) w3)
  (LoopS [.slice p0 l0 c0, .int .i64 n1, .int .i64 n2, .slice p3 l3 c3, .slice p4 l4 c4, .bool b10, .pointer p45, .pointer (some (⟨k47, 0, none⟩ : Addr)), .int .i64 0] w3 fun I1 μ1 us1 _ wl1 =>
    ∃ (p0_1 : Option Addr) (l0_1 : Nat) (c0_1 : Nat) (n1_1 : Int) (n2_1 : Int) (p3_1 : Option Addr) (l3_1 : Nat) (c3_1 : Nat) (p4_1 : Option Addr) (l4_1 : Nat) (c4_1 : Nat) (b10_1 : Bool) (p11 : Option Addr) (a12 : Addr) (n13 : Int), us1 = [.slice p0_1 l0_1 c0_1, .int .i64 n1_1, .int .i64 n2_1, .slice p3_1 l3_1 c3_1, .slice p4_1 l4_1 c4_1, .bool b10_1, .pointer p11, .pointer (some a12), .int .i64 n13] ∧
    cond (decide (n13 < ((l0_1 : Nat) : Int)))
    (∃ (a60 : Addr), IxA Tryz.prog 69 (.slice p0_1 l0_1 c0_1) (.int .i64 n13) a60 ∧
      ∃ (n61 : Int) (n61_1 : Int) (p61 : Option Addr) (l61 : Nat) (c61 : Nat), Ld Tryz.prog 79 (.pointer (some a60)) wl1 (.agg #[.int .i64 n61, .int .i64 n61_1, .slice p61 l61 c61]) ∧
      callF Tryz.prog 38 #[.pointer p11, .pointer (some a12), .agg #[.int .i64 n61, .int .i64 n61_1, .slice p61 l61 c61]] wl1 fun r62 w4 =>
      ∃ (b62 : Bool), r62 = .bool b62 ∧
      goesOn [] [] I1 μ1 us1 [.slice p0_1 l0_1 c0_1, .int .i64 n1_1, .int .i64 n2_1, .slice p3_1 l3_1 c3_1, .slice p4_1 l4_1 c4_1, .bool b10_1, .pointer p11, .pointer (some a12), .int .i64 (IntKind.i64.wrap (n13 + 1))] wl1 w4)
    (law19_RingBoxes_j6 n1_1 n2_1 p3_1 l3_1 c3_1 p4_1 l4_1 c4_1 b10_1 p11 wl1 Q))
def law19_RingBoxes (p0 : Option Addr) (l0 : Nat) (c0 : Nat) (n1 : Int) (n2 : Int) (p3 : Option Addr) (l3 : Nat) (c3 : Nat) (p4 : Option Addr) (l4 : Nat) (c4 : Nat) (w : World) (Q : Value → World → Prop) : Prop :=
  callF Tryz.prog 35 #[] w fun r31 w1 =>
  ∃ (b31 : Bool), r31 = .bool b31 ∧
  cond (!b31)
  (Q (.bool false) w1)
  (callF Tryz.prog 36 #[.slice p0 l0 c0] w1 fun r34 w2 =>
    ∃ (b34 : Bool), r34 = .bool b34 ∧
    cond b34
    (Q (.bool true) w2)
    (cond (decide (((l3 : Nat) : Int) > 60))
      (Q (.bool true) w2)
      (cond (decide (((l4 : Nat) : Int) > 60))
        (Q (.bool true) w2)
        (law19_RingBoxes_j7 p0 l0 c0 n1 n2 p3 l3 c3 p4 l4 c4 false w2 Q))))
def law19_RingBoxes_tt : Nat → List (Nat × TypeId) := fun n => match n with | 0 => [(0, 69), (1, 3), (2, 3), (3, 22), (4, 22), (10, 4), (11, 71), (12, 1000000), (13, 3)] | _ => []
theorem law19_RingBoxes_call (p0 : Option Addr) (l0 : Nat) (c0 : Nat) (n1 : Int) (n2 : Int) (p3 : Option Addr) (l3 : Nat) (c3 : Nat) (p4 : Option Addr) (l4 : Nat) (c4 : Nat) (w : World) (Q : Value → World → Prop) (h : law19_RingBoxes p0 l0 c0 n1 n2 p3 l3 c3 p4 l4 c4 w Q) : callF Tryz.prog 9 #[.slice p0 l0 c0, .int .i64 n1, .int .i64 n2, .slice p3 l3 c3, .slice p4 l4 c4] w Q :=
  callF_of (fun _ _ => by kernel_rfl) (callK_of_sw law19_RingBoxes_tt Tryz.func9 rfl (by kernel_rfl) (show sw Tryz.prog none 172 law19_RingBoxes_tt _ 0 (endK Tryz.prog [.tmp 10] Q) ⟨regs [.slice p0 l0 c0, .int .i64 n1, .int .i64 n2, .slice p3 l3 c3, .slice p4 l4 c4], []⟩ w from
    Eq.mp (by kernel_rfl : law19_RingBoxes p0 l0 c0 n1 n2 p3 l3 c3 p4 l4 c4 w Q = sw Tryz.prog none 172 law19_RingBoxes_tt (Tryz.f9.body.getD .skip) 0 (endK Tryz.prog [.tmp 10] Q) ⟨regs [.slice p0 l0 c0, .int .i64 n1, .int .i64 n2, .slice p3 l3 c3, .slice p4 l4 c4], []⟩ w) h))

def law19_alive_j1 (b0 : Bool) (p1 : Option Addr) (n3 : Int) (n4 : Int) (n5 : Int) (n6 : Int) (n7 : Int) (n8 : Int) (b9 : Bool) (p10 : Option Addr) (n11 : Int) (n12 : Int) (n13 : Int) (b14 : Bool) (b18 : Bool) (p19 : Option Addr) (l19 : Nat) (c19 : Nat) (b20 : Bool) (w : World) (Q : Value → World → Prop) : Prop :=
  callF Tryz.prog 78 #[.pointer p10] w fun r85 w1 =>
  ∃ (n85 : Int) (b85 : Bool), r85 = .tuple #[.int .i64 n85, .bool b85] ∧
  cond (n3 == 0)
  (cond (n4 == 0)
    (cond (n5 == 16)
      (cond (n6 == 11)
        (cond (n7 == 0)
          (cond b9
            (cond (n8 == 5)
              (cond (n11 == 0)
                (cond (n12 == 17)
                  (cond b14
                    (cond (n13 == 7)
                      (cond (!b18)
                        (cond b20
                          (cond (((l19 : Nat) : Int) == 16)
                            (callF Tryz.prog 82 #[.pointer p1] w1 fun r142 w2 =>
                              ∃ (p142 : Option Addr) (l142 : Nat) (c142 : Nat), r142 = .slice p142 l142 c142 ∧
                              ∃ (p143 : Option Addr) (l143 : Nat) (c143 : Nat) (w3 : World), Ef Tryz.prog (Instr.buildSlice 132 2 #[(0, .int .i64 3), (1, .int .i64 7)]) w2 (.slice p143 l143 c143) w3 ∧
                              callF Tryz.prog 81 #[.slice p142 l142 c142, .slice p143 l143 c143] w3 fun r144 w4 =>
                              ∃ (b144 : Bool), r144 = .bool b144 ∧
                              cond b144
                              (Q (.bool (n85 == 5)) w4)
                              (Q (.bool false) w4))
                            (Q (.bool false) w1))
                          (Q (.bool false) w1))
                        (Q (.bool false) w1))
                      (Q (.bool false) w1))
                    (Q (.bool false) w1))
                  (Q (.bool false) w1))
                (Q (.bool false) w1))
              (Q (.bool false) w1))
            (Q (.bool false) w1))
          (Q (.bool false) w1))
        (Q (.bool false) w1))
      (Q (.bool false) w1))
    (Q (.bool false) w1))
  (Q (.bool false) w1)
def law19_alive  (w : World) (Q : Value → World → Prop) : Prop :=
  callF Tryz.prog 37 #[] w fun r23 w1 =>
  ∃ (p23 : Option Addr), r23 = .pointer p23 ∧
  ∃ (b25 : Bool) (w2 : World), Ef Tryz.prog (do eqGuard .eql 71 (.tmp 24) (.const (.pointer none)) (.pointer p23) (.pointer none); binOp .eql 71 (.pointer p23) (.pointer none) : Sem Value) w1 (.bool b25) w2 ∧
  cond b25
  (Q (.bool false) w2)
  (∃ (p26 : Option Addr) (l26 : Nat) (c26 : Nat) (w3 : World), Ef Tryz.prog (Instr.makeSlice 22 (.int .i64 16) (.int .i64 16)) w2 (.slice p26 l26 c26) w3 ∧
    callF Tryz.prog 77 #[.pointer p23, .int .i64 3, .slice p26 l26 c26] w3 fun r29 w4 =>
    ∃ (n29 : Int), r29 = .int .i64 n29 ∧
    callF Tryz.prog 77 #[.pointer p23, .int .i64 7, .slice p26 l26 c26] w4 fun r32 w5 =>
    ∃ (n32 : Int), r32 = .int .i64 n32 ∧
    callF Tryz.prog 77 #[.pointer p23, .int .i64 7, .slice p26 l26 c26] w5 fun r35 w6 =>
    ∃ (n35 : Int), r35 = .int .i64 n35 ∧
    callF Tryz.prog 77 #[.pointer p23, .int .i64 128, .slice p26 l26 c26] w6 fun r38 w7 =>
    ∃ (n38 : Int), r38 = .int .i64 n38 ∧
    callF Tryz.prog 77 #[.pointer p23, .int .i64 5, .slice p26 l26 c26] w7 fun r41 w8 =>
    ∃ (n41 : Int), r41 = .int .i64 n41 ∧
    callF Tryz.prog 78 #[.pointer p23] w8 fun r44 w9 =>
    ∃ (n44 : Int) (b44 : Bool), r44 = .tuple #[.int .i64 n44, .bool b44] ∧
    callF Tryz.prog 79 #[.pointer p23] w9 fun r48 w10 =>
    ∃ (p48 : Option Addr), r48 = .pointer p48 ∧
    callF Tryz.prog 80 #[.pointer p23, .int .i64 5] w10 fun r50 w11 =>
    ∃ (n50 : Int), r50 = .int .i64 n50 ∧
    callF Tryz.prog 80 #[.pointer p23, .int .i64 5] w11 fun r52 w12 =>
    ∃ (n52 : Int), r52 = .int .i64 n52 ∧
    callF Tryz.prog 78 #[.pointer p23] w12 fun r55 w13 =>
    ∃ (n55 : Int) (b55 : Bool), r55 = .tuple #[.int .i64 n55, .bool b55] ∧
    callF Tryz.prog 39 #[.pointer p23, .int .i64 3] w13 fun r60 w14 =>
    ∃ (p60 : Option Addr) (b60 : Bool), r60 = .tuple #[.pointer p60, .bool b60] ∧
    callF Tryz.prog 39 #[.pointer p23, .int .i64 5] w14 fun r65 w15 =>
    ∃ (p65 : Option Addr) (b65 : Bool), r65 = .tuple #[.pointer p65, .bool b65] ∧
    callF Tryz.prog 40 #[.pointer p23, .int .i64 7] w15 fun r70 w16 =>
    ∃ (p70 : Option Addr) (l70 : Nat) (c70 : Nat) (b70 : Bool), r70 = .tuple #[.slice p70 l70 c70, .bool b70] ∧
    ∃ (b74 : Bool) (w17 : World), Ef Tryz.prog (do eqGuard .eql 71 (.tmp 73) (.const (.pointer none)) (.pointer p48) (.pointer none); binOp .eql 71 (.pointer p48) (.pointer none) : Sem Value) w16 (.bool b74) w17 ∧
    cond b74
    (Q (.bool false) w17)
    (∃ (b77 : Bool) (w18 : World), Ef Tryz.prog (do eqGuard .eql 25 (.tmp 76) (.const (.pointer none)) (.pointer p60) (.pointer none); binOp .eql 25 (.pointer p60) (.pointer none) : Sem Value) w17 (.bool b77) w18 ∧
      cond b77
      (Q (.bool false) w18)
      (cond (!b60)
        (Q (.bool false) w18)
        (law19_alive_j1 false p23 n29 n32 n35 n38 n41 n44 b44 p48 n50 n52 n55 b55 b65 p70 l70 c70 b70 w18 Q))))
def law19_alive_tt : Nat → List (Nat × TypeId) := fun _ => []
theorem law19_alive_call  (w : World) (Q : Value → World → Prop) (h : law19_alive  w Q) : callF Tryz.prog 35 #[] w Q :=
  callF_of (fun _ _ => by kernel_rfl) (callK_of_sw law19_alive_tt Tryz.func35 rfl (by kernel_rfl) (show sw Tryz.prog none 150 law19_alive_tt _ 0 (endK Tryz.prog [.tmp 0] Q) ⟨regs [], []⟩ w from
    Eq.mp (by kernel_rfl : law19_alive  w Q = sw Tryz.prog none 150 law19_alive_tt (Tryz.f35.body.getD .skip) 0 (endK Tryz.prog [.tmp 0] Q) ⟨regs [], []⟩ w) h))

def law19_Great (p0 : Option Addr) (l0 : Nat) (c0 : Nat) (w : World) (Q : Value → World → Prop) : Prop :=
  cond (decide (((l0 : Nat) : Int) > 60))
  (Q (.bool true) w)
  (LoopS [.slice p0 l0 c0, .bool false, .int .i64 0] w fun I1 μ1 us1 _ wl1 =>
    ∃ (p0_1 : Option Addr) (l0_1 : Nat) (c0_1 : Nat) (b2 : Bool) (n3 : Int), us1 = [.slice p0_1 l0_1 c0_1, .bool b2, .int .i64 n3] ∧
    cond (decide (n3 < ((l0_1 : Nat) : Int)))
    (∃ (a15 : Addr), IxA Tryz.prog 69 (.slice p0_1 l0_1 c0_1) (.int .i64 n3) a15 ∧
      ∃ (p17 : Option Addr) (l17 : Nat) (c17 : Nat), Ld Tryz.prog 22 (.pointer (some (a15.add 2))) wl1 (.slice p17 l17 c17) ∧
      cond (decide (((l17 : Nat) : Int) > 100))
      (Q (.bool true) wl1)
      (goesOn [] [] I1 μ1 us1 [.slice p0_1 l0_1 c0_1, .bool b2, .int .i64 (IntKind.i64.wrap (n3 + 1))] wl1 wl1))
    (Q (.bool false) wl1))
def law19_Great_tt : Nat → List (Nat × TypeId) := fun n => match n with | 0 => [(0, 69), (2, 4), (3, 3)] | _ => []
theorem law19_Great_call (p0 : Option Addr) (l0 : Nat) (c0 : Nat) (w : World) (Q : Value → World → Prop) (h : law19_Great p0 l0 c0 w Q) : callF Tryz.prog 36 #[.slice p0 l0 c0] w Q :=
  callF_of (fun _ _ => by kernel_rfl) (callK_of_sw law19_Great_tt Tryz.func36 rfl (by kernel_rfl) (show sw Tryz.prog none 20 law19_Great_tt _ 0 (endK Tryz.prog [.tmp 2] Q) ⟨regs [.slice p0 l0 c0], []⟩ w from
    Eq.mp (by kernel_rfl : law19_Great p0 l0 c0 w Q = sw Tryz.prog none 20 law19_Great_tt (Tryz.f36.body.getD .skip) 0 (endK Tryz.prog [.tmp 2] Q) ⟨regs [.slice p0 l0 c0], []⟩ w) h))

def law19_Do_j1 (b6 : Bool) (p7 : Option Addr) (l7 : Nat) (c7 : Nat) (b8 : Bool) (w : World) (Q : Value → World → Prop) : Prop :=
  LoopS [.bool b6, .slice p7 l7 c7, .bool b8, .int .i64 0] w fun I1 μ1 us1 _ wl1 =>
  ∃ (b6_1 : Bool) (p7_1 : Option Addr) (l7_1 : Nat) (c7_1 : Nat) (b8_1 : Bool) (n9 : Int), us1 = [.bool b6_1, .slice p7_1 l7_1 c7_1, .bool b8_1, .int .i64 n9] ∧
  cond (decide (n9 < ((l7_1 : Nat) : Int)))
  (∃ (a48 : Addr), IxA Tryz.prog 22 (.slice p7_1 l7_1 c7_1) (.int .i64 n9) a48 ∧
    ∃ (n49 : Int), Ld Tryz.prog 5 (.pointer (some a48)) wl1 (.int .u8 n49) ∧
    ∃ (a51 : Addr), IxA Tryz.prog 22 (.slice p7_1 l7_1 c7_1) (.int .i64 n9) a51 ∧
    ∃ (w1 : World), Sto Tryz.prog 5 (.pointer (some a51)) (.int .u8 (IntKind.u8.wrap (n49 + 1))) wl1 w1 ∧
    goesOn [] [] I1 μ1 us1 [.bool b6_1, .slice p7_1 l7_1 c7_1, .bool b8_1, .int .i64 (IntKind.i64.wrap (n9 + 1))] wl1 w1)
  (Q (.bool b8_1) wl1)
def law19_Do (p0 : Option Addr) (p1 : Option Addr) (n2 : Int) (n2_1 : Int) (p2 : Option Addr) (l2 : Nat) (c2 : Nat) (w : World) (Q : Value → World → Prop) : Prop :=
  New #[.int .i64 n2, .int .i64 n2_1, .slice p2 l2 c2] 79 w fun k5 w1 =>
  ∃ (p11 : Option Addr) (l11 : Nat) (c11 : Nat), Ld Tryz.prog 22 (.pointer (some ((⟨k5, 0, none⟩ : Addr).add 2))) w1 (.slice p11 l11 c11) ∧
  callF Tryz.prog 13 #[.slice p11 l11 c11] w1 fun r12 w2 =>
  ∃ (p12 : Option Addr) (l12 : Nat) (c12 : Nat), r12 = .slice p12 l12 c12 ∧
  ∃ (n14 : Int), Ld Tryz.prog 3 (.pointer (some ((⟨k5, 0, none⟩ : Addr).add 0))) w2 (.int .i64 n14) ∧
  cond (n14 == 0)
  (∃ (S5 : World → Prop),
    Drw w2 fun w3 =>
    ∃ (n19 : Int), HLd Tryz.prog S5 3 (.pointer (some ((⟨k5, 0, none⟩ : Addr).add 1))) w3 (.int .i64 n19) ∧
    ∃ (n24 : Int), HLd Tryz.prog S5 3 (.pointer (some ((⟨k5, 0, none⟩ : Addr).add 1))) w3 (.int .i64 n24) ∧
    ∃ (p26 : Option Addr) (l26 : Nat) (c26 : Nat), HLd Tryz.prog S5 22 (.pointer (some ((⟨k5, 0, none⟩ : Addr).add 2))) w3 (.slice p26 l26 c26) ∧
    callF Tryz.prog 77 #[.pointer p0, .int .i64 n19, .slice p12 l12 c12] w3 fun r21 w4 =>
    ∃ (n21 : Int), r21 = .int .i64 n21 ∧
    (w4 = w3 ∨ S5 w4) ∧
    callF Tryz.prog 83 #[.pointer p1, .int .i64 n24, .slice p26 l26 c26] w4 fun r27 w5 =>
    ∃ (n27 : Int), r27 = .int .i64 n27 ∧
    law19_Do_j1 false p12 l12 c12 (n21 == n27) w5 Q)
  (cond (n14 == 1)
    (∃ (S7 : World → Prop),
      Drw w2 fun w6 =>
      ∃ (n33 : Int), HLd Tryz.prog S7 3 (.pointer (some ((⟨k5, 0, none⟩ : Addr).add 1))) w6 (.int .i64 n33) ∧
      ∃ (n37 : Int), HLd Tryz.prog S7 3 (.pointer (some ((⟨k5, 0, none⟩ : Addr).add 1))) w6 (.int .i64 n37) ∧
      callF Tryz.prog 80 #[.pointer p0, .int .i64 n33] w6 fun r34 w7 =>
      ∃ (n34 : Int), r34 = .int .i64 n34 ∧
      (w7 = w6 ∨ S7 w7) ∧
      callF Tryz.prog 84 #[.pointer p1, .int .i64 n37] w7 fun r38 w8 =>
      ∃ (n38 : Int), r38 = .int .i64 n38 ∧
      law19_Do_j1 false p12 l12 c12 (n34 == n38) w8 Q)
    (law19_Do_j1 false p12 l12 c12 true w2 Q))
def law19_Do_tt : Nat → List (Nat × TypeId) := fun n => match n with | 1 => [(6, 4), (7, 22), (8, 4), (9, 3)] | _ => []
theorem law19_Do_call (p0 : Option Addr) (p1 : Option Addr) (n2 : Int) (n2_1 : Int) (p2 : Option Addr) (l2 : Nat) (c2 : Nat) (w : World) (Q : Value → World → Prop) (h : law19_Do p0 p1 n2 n2_1 p2 l2 c2 w Q) : callF Tryz.prog 38 #[.pointer p0, .pointer p1, .agg #[.int .i64 n2, .int .i64 n2_1, .slice p2 l2 c2]] w Q :=
  callF_of (fun _ _ => by kernel_rfl) (callK_of_sw law19_Do_tt Tryz.func38 rfl (by kernel_rfl) (show sw Tryz.prog none 53 law19_Do_tt _ 0 (endK Tryz.prog [.tmp 6] Q) ⟨regs [.pointer p0, .pointer p1, .agg #[.int .i64 n2, .int .i64 n2_1, .slice p2 l2 c2]], []⟩ w from
    Eq.mp (by kernel_rfl : law19_Do p0 p1 n2 n2_1 p2 l2 c2 w Q = sw Tryz.prog none 53 law19_Do_tt (Tryz.f38.body.getD .skip) 0 (endK Tryz.prog [.tmp 6] Q) ⟨regs [.pointer p0, .pointer p1, .agg #[.int .i64 n2, .int .i64 n2_1, .slice p2 l2 c2]], []⟩ w) h))
end Go.Sh
end
