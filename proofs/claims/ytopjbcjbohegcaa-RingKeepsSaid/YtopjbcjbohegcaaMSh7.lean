/- A part of a proof of a given law of this program: lemmas, printed forms of its functions, contracts. It has no conditions of its own. -/
import Derived.Test.YtopjbcjbohegcaaProg
import Derived.Test.YtopjbcjbohegcaaMFw

section
namespace Go.Sh
open Go Go.Fw Go.Proofs
set_option maxRecDepth 100000
set_option linter.unusedVariables false

def ring_New  (w : World) (Q : Value → World → Prop) : Prop :=
  New #[.slice none 0 0] 81 w fun k2 w1 =>
  Q (.pointer (some (⟨k2, 0, none⟩ : Addr))) w1
def ring_New_tt : Nat → List (Nat × TypeId) := fun _ => []
theorem ring_New_call  (w : World) (Q : Value → World → Prop) (h : ring_New  w Q) : callF Try.prog 11 #[] w Q :=
  callF_of (fun _ _ => by kernel_rfl) (callK_of_sw ring_New_tt Try.func11 rfl (by kernel_rfl) (show sw Try.prog none 3 ring_New_tt _ 0 (endK Try.prog [.tmp 0] Q) ⟨regs [], []⟩ w from
    Eq.mp (by kernel_rfl : ring_New  w Q = sw Try.prog none 3 ring_New_tt (Try.f11.body.getD .skip) 0 (endK Try.prog [.tmp 0] Q) ⟨regs [], []⟩ w) h))

def ring_Ring_Key (p0 : Option Addr) (n1 : Int) (w : World) (Q : Value → World → Prop) : Prop :=
  callF Try.prog 44 #[.pointer p0, .int .i64 n1] w fun r11 w1 =>
  ∃ (p11 : Option Addr) (n11 : Int) (p11_1 : Option Addr) (l11 : Nat) (c11 : Nat) (b11 : Bool), r11 = .tuple #[.agg #[.pointer p11, .int .i64 n11, .slice p11_1 l11 c11], .bool b11] ∧
  ∃ (z6 : Value), Pu Try.prog (zeroValue 86) z6 ∧
  New z6.cells 86 w1 fun k6 w2 =>
  ∃ (w3 : World), Sto Try.prog 86 (.pointer (some (⟨k6, 0, none⟩ : Addr))) (.agg #[.pointer p11, .int .i64 n11, .slice p11_1 l11 c11]) w2 w3 ∧
  ∃ (p15 : Option Addr) (l15 : Nat) (c15 : Nat), Ld Try.prog 23 (.pointer (some ((⟨k6, 0, none⟩ : Addr).add 2))) w3 (.slice p15 l15 c15) ∧
  callF Try.prog 45 #[.slice p15 l15 c15] w3 fun r16 w4 =>
  ∃ (p16 : Option Addr) (l16 : Nat) (c16 : Nat), r16 = .slice p16 l16 c16 ∧
  Q (.tuple #[.slice p16 l16 c16, .bool b11]) w4
def ring_Ring_Key_tt : Nat → List (Nat × TypeId) := fun _ => []
theorem ring_Ring_Key_call (p0 : Option Addr) (n1 : Int) (w : World) (Q : Value → World → Prop) (h : ring_Ring_Key p0 n1 w Q) : callF Try.prog 14 #[.pointer p0, .int .i64 n1] w Q :=
  callF_of (fun _ _ => by kernel_rfl) (callK_of_sw ring_Ring_Key_tt Try.func14 rfl (by kernel_rfl) (show sw Try.prog none 18 ring_Ring_Key_tt _ 0 (endK Try.prog [.tmp 4, .tmp 5] Q) ⟨regs [.pointer p0, .int .i64 n1], []⟩ w from
    Eq.mp (by kernel_rfl : ring_Ring_Key p0 n1 w Q = sw Try.prog none 18 ring_Ring_Key_tt (Try.f14.body.getD .skip) 0 (endK Try.prog [.tmp 4, .tmp 5] Q) ⟨regs [.pointer p0, .int .i64 n1], []⟩ w) h))

def ring_Ring_Box (p0 : Option Addr) (n1 : Int) (w : World) (Q : Value → World → Prop) : Prop :=
  callF Try.prog 44 #[.pointer p0, .int .i64 n1] w fun r11 w1 =>
  ∃ (p11 : Option Addr) (n11 : Int) (p11_1 : Option Addr) (l11 : Nat) (c11 : Nat) (b11 : Bool), r11 = .tuple #[.agg #[.pointer p11, .int .i64 n11, .slice p11_1 l11 c11], .bool b11] ∧
  ∃ (z6 : Value), Pu Try.prog (zeroValue 86) z6 ∧
  New z6.cells 86 w1 fun k6 w2 =>
  ∃ (w3 : World), Sto Try.prog 86 (.pointer (some (⟨k6, 0, none⟩ : Addr))) (.agg #[.pointer p11, .int .i64 n11, .slice p11_1 l11 c11]) w2 w3 ∧
  ∃ (p15 : Option Addr), Ld Try.prog 38 (.pointer (some ((⟨k6, 0, none⟩ : Addr).add 0))) w3 (.pointer p15) ∧
  Q (.tuple #[.pointer p15, .bool b11]) w3
def ring_Ring_Box_tt : Nat → List (Nat × TypeId) := fun _ => []
theorem ring_Ring_Box_call (p0 : Option Addr) (n1 : Int) (w : World) (Q : Value → World → Prop) (h : ring_Ring_Box p0 n1 w Q) : callF Try.prog 15 #[.pointer p0, .int .i64 n1] w Q :=
  callF_of (fun _ _ => by kernel_rfl) (callK_of_sw ring_Ring_Box_tt Try.func15 rfl (by kernel_rfl) (show sw Try.prog none 17 ring_Ring_Box_tt _ 0 (endK Try.prog [.tmp 4, .tmp 5] Q) ⟨regs [.pointer p0, .int .i64 n1], []⟩ w from
    Eq.mp (by kernel_rfl : ring_Ring_Box p0 n1 w Q = sw Try.prog none 17 ring_Ring_Box_tt (Try.f15.body.getD .skip) 0 (endK Try.prog [.tmp 4, .tmp 5] Q) ⟨regs [.pointer p0, .int .i64 n1], []⟩ w) h))

def ring_Ring_Clone (p0 : Option Addr) (w : World) (Q : Value → World → Prop) : Prop :=
  ∃ (a4 : Addr), p0 = some a4 ∧
  ∃ (p6 : Option Addr) (l6 : Nat) (c6 : Nat), Ld Try.prog 79 (.pointer (some (a4.add 0))) w (.slice p6 l6 c6) ∧
  callF Try.prog 46 #[.slice p6 l6 c6] w fun r7 w1 =>
  ∃ (p7 : Option Addr) (l7 : Nat) (c7 : Nat), r7 = .slice p7 l7 c7 ∧
  New #[.slice p7 l7 c7] 81 w1 fun k9 w2 =>
  Q (.pointer (some (⟨k9, 0, none⟩ : Addr))) w2
def ring_Ring_Clone_tt : Nat → List (Nat × TypeId) := fun _ => []
theorem ring_Ring_Clone_call (p0 : Option Addr) (w : World) (Q : Value → World → Prop) (h : ring_Ring_Clone p0 w Q) : callF Try.prog 17 #[.pointer p0] w Q :=
  callF_of (fun _ _ => by kernel_rfl) (callK_of_sw ring_Ring_Clone_tt Try.func17 rfl (by kernel_rfl) (show sw Try.prog none 10 ring_Ring_Clone_tt _ 0 (endK Try.prog [.tmp 2] Q) ⟨regs [.pointer p0], []⟩ w from
    Eq.mp (by kernel_rfl : ring_Ring_Clone p0 w Q = sw Try.prog none 10 ring_Ring_Clone_tt (Try.f17.body.getD .skip) 0 (endK Try.prog [.tmp 2] Q) ⟨regs [.pointer p0], []⟩ w) h))

def ring_Ring_Seqs (p0 : Option Addr) (w : World) (Q : Value → World → Prop) : Prop :=
  ∃ (a7 : Addr), p0 = some a7 ∧
  ∃ (p9 : Option Addr) (l9 : Nat) (c9 : Nat), Ld Try.prog 79 (.pointer (some (a7.add 0))) w (.slice p9 l9 c9) ∧
  LoopS [.slice none 0 0, .slice none 0 0, .slice p9 l9 c9, .int .i64 ((l9 : Nat) : Int), .int .i64 0] w fun I1 μ1 us1 _ wl1 =>
  ∃ (p2 : Option Addr) (l2 : Nat) (c2 : Nat) (p3 : Option Addr) (l3 : Nat) (c3 : Nat) (p9_1 : Option Addr) (l9_1 : Nat) (c9_1 : Nat) (n10 : Int) (n11 : Int), us1 = [.slice p2 l2 c2, .slice p3 l3 c3, .slice p9_1 l9_1 c9_1, .int .i64 n10, .int .i64 n11] ∧
  cond (decide (n11 < n10))
  (∃ (a13 : Addr), IxA Try.prog 79 (.slice p9_1 l9_1 c9_1) (.int .i64 n11) a13 ∧
    ∃ (p14 : Option Addr) (n14 : Int) (p14_1 : Option Addr) (l14 : Nat) (c14 : Nat), Ld Try.prog 86 (.pointer (some a13)) wl1 (.agg #[.pointer p14, .int .i64 n14, .slice p14_1 l14 c14]) ∧
    ∃ (z5 : Value), Pu Try.prog (zeroValue 86) z5 ∧
    New z5.cells 86 wl1 fun k5 w1 =>
    ∃ (w2 : World), Sto Try.prog 86 (.pointer (some (⟨k5, 0, none⟩ : Addr))) (.agg #[.pointer p14, .int .i64 n14, .slice p14_1 l14 c14]) w1 w2 ∧
    ∃ (n17 : Int), Ld Try.prog 3 (.pointer (some ((⟨k5, 0, none⟩ : Addr).add 1))) w2 (.int .i64 n17) ∧
    ∃ (p18 : Option Addr) (l18 : Nat) (c18 : Nat) (w3 : World), Ef Try.prog (Instr.buildSlice 44 1 #[(0, .int .i64 n17)]) w2 (.slice p18 l18 c18) w3 ∧
    ∃ (p19 : Option Addr) (l19 : Nat) (c19 : Nat) (w4 : World), Ef Try.prog (Builtin.append_ #[44, 44] 44 #[.slice p3 l3 c3, .slice p18 l18 c18]) w3 (.slice p19 l19 c19) w4 ∧
    goesOn [] [] I1 μ1 us1 [.slice p2 l2 c2, .slice p19 l19 c19, .slice p9_1 l9_1 c9_1, .int .i64 n10, .int .i64 (IntKind.i64.wrap (n11 + 1))] wl1 w4)
  (Q (.slice p3 l3 c3) wl1)
def ring_Ring_Seqs_tt : Nat → List (Nat × TypeId) := fun n => match n with | 0 => [(2, 44), (3, 44), (9, 79), (10, 3), (11, 3)] | _ => []
theorem ring_Ring_Seqs_call (p0 : Option Addr) (w : World) (Q : Value → World → Prop) (h : ring_Ring_Seqs p0 w Q) : callF Try.prog 19 #[.pointer p0] w Q :=
  callF_of (fun _ _ => by kernel_rfl) (callK_of_sw ring_Ring_Seqs_tt Try.func19 rfl (by kernel_rfl) (show sw Try.prog none 22 ring_Ring_Seqs_tt _ 0 (endK Try.prog [.tmp 2] Q) ⟨regs [.pointer p0], []⟩ w from
    Eq.mp (by kernel_rfl : ring_Ring_Seqs p0 w Q = sw Try.prog none 22 ring_Ring_Seqs_tt (Try.f19.body.getD .skip) 0 (endK Try.prog [.tmp 2] Q) ⟨regs [.pointer p0], []⟩ w) h))

def ring_Ring_Newest (p0 : Option Addr) (w : World) (Q : Value → World → Prop) : Prop :=
  ∃ (a5 : Addr), p0 = some a5 ∧
  ∃ (p7 : Option Addr) (l7 : Nat) (c7 : Nat), Ld Try.prog 79 (.pointer (some (a5.add 0))) w (.slice p7 l7 c7) ∧
  cond (((l7 : Nat) : Int) == 0)
  (Q (.tuple #[.int .i64 0, .bool false]) w)
  (∃ (S3 : World → Prop),
    Drw w fun w1 =>
    ∃ (a11 : Addr), p0 = some a11 ∧
    ∃ (a15 : Addr), p0 = some a15 ∧
    ∃ (p13 : Option Addr) (l13 : Nat) (c13 : Nat), HLd Try.prog S3 79 (.pointer (some (a11.add 0))) w1 (.slice p13 l13 c13) ∧
    ∃ (p17 : Option Addr) (l17 : Nat) (c17 : Nat), Ld Try.prog 79 (.pointer (some (a15.add 0))) w1 (.slice p17 l17 c17) ∧
    (w1 = w1 ∨ S3 w1) ∧
    ∃ (a20 : Addr), IxA Try.prog 79 (.slice p13 l13 c13) (.int .i64 (IntKind.i64.wrap (((l17 : Nat) : Int) - 1))) a20 ∧
    ∃ (n22 : Int), Ld Try.prog 3 (.pointer (some (a20.add 1))) w1 (.int .i64 n22) ∧
    Q (.tuple #[.int .i64 n22, .bool true]) w1)
def ring_Ring_Newest_tt : Nat → List (Nat × TypeId) := fun _ => []
theorem ring_Ring_Newest_call (p0 : Option Addr) (w : World) (Q : Value → World → Prop) (h : ring_Ring_Newest p0 w Q) : callF Try.prog 20 #[.pointer p0] w Q :=
  callF_of (fun _ _ => by kernel_rfl) (callK_of_sw ring_Ring_Newest_tt Try.func20 rfl (by kernel_rfl) (show sw Try.prog none 23 ring_Ring_Newest_tt _ 0 (endK Try.prog [.tmp 2, .tmp 3] Q) ⟨regs [.pointer p0], []⟩ w from
    Eq.mp (by kernel_rfl : ring_Ring_Newest p0 w Q = sw Try.prog none 23 ring_Ring_Newest_tt (Try.f20.body.getD .skip) 0 (endK Try.prog [.tmp 2, .tmp 3] Q) ⟨regs [.pointer p0], []⟩ w) h))

def ring_Ring_Install_j1 (p0 : Option Addr) (n1 : Int) (p2 : Option Addr) (l2 : Nat) (c2 : Nat) (n6 : Int) (p7 : Option Addr) (w : World) (Q : Value → World → Prop) : Prop :=
  ∃ (S8 : World → Prop),
  Drw w fun w1 =>
  ∃ (a39 : Addr), p0 = some a39 ∧
  ∃ (p41 : Option Addr) (l41 : Nat) (c41 : Nat), HLd Try.prog S8 79 (.pointer (some (a39.add 0))) w1 (.slice p41 l41 c41) ∧
  callF Try.prog 45 #[.slice p2 l2 c2] w1 fun r45 w2 =>
  ∃ (p45 : Option Addr) (l45 : Nat) (c45 : Nat), r45 = .slice p45 l45 c45 ∧
  (w2 = w1 ∨ S8 w2) ∧
  ∃ (p47 : Option Addr) (l47 : Nat) (c47 : Nat) (w3 : World), Ef Try.prog (Instr.buildSlice 79 1 #[(0, .agg #[.pointer p7, .int .i64 n1, .slice p45 l45 c45])]) w2 (.slice p47 l47 c47) w3 ∧
  (w3 = w2 ∨ S8 w3) ∧
  ∃ (p48 : Option Addr) (l48 : Nat) (c48 : Nat) (w4 : World), Ef Try.prog (Builtin.append_ #[79, 79] 79 #[.slice p41 l41 c41, .slice p47 l47 c47]) w3 (.slice p48 l48 c48) w4 ∧
  ∃ (a49 : Addr), p0 = some a49 ∧
  ∃ (w5 : World), Sto Try.prog 79 (.pointer (some (a49.add 0))) (.slice p48 l48 c48) w4 w5 ∧
  Q (.int .i64 0) w5
def ring_Ring_Install_j2 (p0 : Option Addr) (n1 : Int) (p2 : Option Addr) (l2 : Nat) (c2 : Nat) (n6 : Int) (p7 : Option Addr) (b14 : Bool) (w : World) (Q : Value → World → Prop) : Prop :=
  cond b14
  (Q (.int .i64 11) w)
  (callF Try.prog 47 #[.pointer p0, .int .i64 n1] w fun r28 w1 =>
    ∃ (n28 : Int), r28 = .int .i64 n28 ∧
    cond (decide (n28 ≥ 0))
    (Q (.int .i64 16) w1)
    (∃ (a32 : Addr), p0 = some a32 ∧
      ∃ (p34 : Option Addr) (l34 : Nat) (c34 : Nat), Ld Try.prog 79 (.pointer (some (a32.add 0))) w1 (.slice p34 l34 c34) ∧
      cond (decide (((l34 : Nat) : Int) ≥ 16))
      (Q (.int .i64 18) w1)
      (ring_Ring_Install_j1 p0 n1 p2 l2 c2 n6 p7 w1 Q)))
def ring_Ring_Install (p0 : Option Addr) (n1 : Int) (p2 : Option Addr) (l2 : Nat) (c2 : Nat) (w : World) (Q : Value → World → Prop) : Prop :=
  callF Try.prog 26 #[.slice p2 l2 c2] w fun r11 w1 =>
  ∃ (p11 : Option Addr) (n11 : Int), r11 = .tuple #[.pointer p11, .int .i64 n11] ∧
  cond (decide (n1 < 0))
  (ring_Ring_Install_j2 p0 n1 p2 l2 c2 0 p11 true w1 Q)
  (cond (decide (n1 > 127))
    (ring_Ring_Install_j2 p0 n1 p2 l2 c2 0 p11 true w1 Q)
    (ring_Ring_Install_j2 p0 n1 p2 l2 c2 0 p11 (n11 != 0) w1 Q))
def ring_Ring_Install_tt : Nat → List (Nat × TypeId) := fun _ => []
theorem ring_Ring_Install_call (p0 : Option Addr) (n1 : Int) (p2 : Option Addr) (l2 : Nat) (c2 : Nat) (w : World) (Q : Value → World → Prop) (h : ring_Ring_Install p0 n1 p2 l2 c2 w Q) : callF Try.prog 21 #[.pointer p0, .int .i64 n1, .slice p2 l2 c2] w Q :=
  callF_of (fun _ _ => by kernel_rfl) (callK_of_sw ring_Ring_Install_tt Try.func21 rfl (by kernel_rfl) (show sw Try.prog none 51 ring_Ring_Install_tt _ 0 (endK Try.prog [.tmp 6] Q) ⟨regs [.pointer p0, .int .i64 n1, .slice p2 l2 c2], []⟩ w from
    Eq.mp (by kernel_rfl : ring_Ring_Install p0 n1 p2 l2 c2 w Q = sw Try.prog none 51 ring_Ring_Install_tt (Try.f21.body.getD .skip) 0 (endK Try.prog [.tmp 6] Q) ⟨regs [.pointer p0, .int .i64 n1, .slice p2 l2 c2], []⟩ w) h))

def ring_Ring_Retire_j1 (p0 : Option Addr) (n4 : Int) (n5 : Int) (w : World) (Q : Value → World → Prop) : Prop :=
  ∃ (a21 : Addr), p0 = some a21 ∧
  ∃ (p23 : Option Addr) (l23 : Nat) (c23 : Nat), Ld Try.prog 79 (.pointer (some (a21.add 0))) w (.slice p23 l23 c23) ∧
  callF Try.prog 48 #[.slice p23 l23 c23, .int .i64 n5, .int .i64 (IntKind.i64.wrap (n5 + 1))] w fun r27 w1 =>
  ∃ (p27 : Option Addr) (l27 : Nat) (c27 : Nat), r27 = .slice p27 l27 c27 ∧
  ∃ (a28 : Addr), p0 = some a28 ∧
  ∃ (w2 : World), Sto Try.prog 79 (.pointer (some (a28.add 0))) (.slice p27 l27 c27) w1 w2 ∧
  Q (.int .i64 0) w2
def ring_Ring_Retire_j2 (p0 : Option Addr) (n4 : Int) (n5 : Int) (b9 : Bool) (w : World) (Q : Value → World → Prop) : Prop :=
  cond b9
  (Q (.int .i64 11) w)
  (cond (decide (n5 < 0))
    (Q (.int .i64 17) w)
    (ring_Ring_Retire_j1 p0 n4 n5 w Q))
def ring_Ring_Retire (p0 : Option Addr) (n1 : Int) (w : World) (Q : Value → World → Prop) : Prop :=
  callF Try.prog 47 #[.pointer p0, .int .i64 n1] w fun r8 w1 =>
  ∃ (n8 : Int), r8 = .int .i64 n8 ∧
  cond (decide (n1 < 0))
  (ring_Ring_Retire_j2 p0 0 n8 true w1 Q)
  (ring_Ring_Retire_j2 p0 0 n8 (decide (n1 > 127)) w1 Q)
def ring_Ring_Retire_tt : Nat → List (Nat × TypeId) := fun _ => []
theorem ring_Ring_Retire_call (p0 : Option Addr) (n1 : Int) (w : World) (Q : Value → World → Prop) (h : ring_Ring_Retire p0 n1 w Q) : callF Try.prog 22 #[.pointer p0, .int .i64 n1] w Q :=
  callF_of (fun _ _ => by kernel_rfl) (callK_of_sw ring_Ring_Retire_tt Try.func22 rfl (by kernel_rfl) (show sw Try.prog none 30 ring_Ring_Retire_tt _ 0 (endK Try.prog [.tmp 4] Q) ⟨regs [.pointer p0, .int .i64 n1], []⟩ w from
    Eq.mp (by kernel_rfl : ring_Ring_Retire p0 n1 w Q = sw Try.prog none 30 ring_Ring_Retire_tt (Try.f22.body.getD .skip) 0 (endK Try.prog [.tmp 4] Q) ⟨regs [.pointer p0, .int .i64 n1], []⟩ w) h))

def ring_Ring_of (p0 : Option Addr) (n1 : Int) (w : World) (Q : Value → World → Prop) : Prop :=
  ∃ (z4 : Value), Pu Try.prog (zeroValue 86) z4 ∧
  New z4.cells 86 w fun k4 w1 =>
  callF Try.prog 47 #[.pointer p0, .int .i64 n1] w1 fun r9 w2 =>
  ∃ (n9 : Int), r9 = .int .i64 n9 ∧
  cond (decide (n9 ≥ 0))
  (∃ (a13 : Addr), p0 = some a13 ∧
    ∃ (p15 : Option Addr) (l15 : Nat) (c15 : Nat), Ld Try.prog 79 (.pointer (some (a13.add 0))) w2 (.slice p15 l15 c15) ∧
    ∃ (a17 : Addr), IxA Try.prog 79 (.slice p15 l15 c15) (.int .i64 n9) a17 ∧
    ∃ (p18 : Option Addr) (n18 : Int) (p18_1 : Option Addr) (l18 : Nat) (c18 : Nat), Ld Try.prog 86 (.pointer (some a17)) w2 (.agg #[.pointer p18, .int .i64 n18, .slice p18_1 l18 c18]) ∧
    ∃ (w3 : World), Sto Try.prog 86 (.pointer (some (⟨k4, 0, none⟩ : Addr))) (.agg #[.pointer p18, .int .i64 n18, .slice p18_1 l18 c18]) w2 w3 ∧
    ∃ (a4 : Addr) (v4 : Value), (.pointer (some (⟨k4, 0, none⟩ : Addr)) : Value) = .pointer (some a4) ∧ (loadVar 86 a4).run Try.prog w3 = .ok v4 w3 ∧
    Q (.tuple #[v4, .bool true]) w3)
  (∃ (w4 : World), Sto Try.prog 86 (.pointer (some (⟨k4, 0, none⟩ : Addr))) (.agg #[.pointer none, .int .i64 0, .slice none 0 0]) w2 w4 ∧
    ∃ (a4_1 : Addr) (v4_1 : Value), (.pointer (some (⟨k4, 0, none⟩ : Addr)) : Value) = .pointer (some a4_1) ∧ (loadVar 86 a4_1).run Try.prog w4 = .ok v4_1 w4 ∧
    Q (.tuple #[v4_1, .bool false]) w4)
def ring_Ring_of_tt : Nat → List (Nat × TypeId) := fun _ => []
theorem ring_Ring_of_call (p0 : Option Addr) (n1 : Int) (w : World) (Q : Value → World → Prop) (h : ring_Ring_of p0 n1 w Q) : callF Try.prog 44 #[.pointer p0, .int .i64 n1] w Q :=
  callF_of (fun _ _ => by kernel_rfl) (callK_of_sw ring_Ring_of_tt Try.func44 rfl (by kernel_rfl) (show sw Try.prog none 20 ring_Ring_of_tt _ 0 (endK Try.prog [.cell 4 86, .tmp 5] Q) ⟨regs [.pointer p0, .int .i64 n1], []⟩ w from
    Eq.mp (by kernel_rfl : ring_Ring_of p0 n1 w Q = sw Try.prog none 20 ring_Ring_of_tt (Try.f44.body.getD .skip) 0 (endK Try.prog [.cell 4 86, .tmp 5] Q) ⟨regs [.pointer p0, .int .i64 n1], []⟩ w) h))

def ring_Ring_find (p0 : Option Addr) (n1 : Int) (w : World) (Q : Value → World → Prop) : Prop :=
  New #[.int .i64 n1] 3 w fun k3 w1 =>
  ∃ (a6 : Addr), p0 = some a6 ∧
  ∃ (p8 : Option Addr) (l8 : Nat) (c8 : Nat), Ld Try.prog 79 (.pointer (some (a6.add 0))) w1 (.slice p8 l8 c8) ∧
  callF Try.prog 68 #[.slice p8 l8 c8, .func (.func 69) #[] #[.pointer (some (⟨k3, 0, none⟩ : Addr))]] w1 fun r10 w2 =>
  ∃ (n10 : Int), r10 = .int .i64 n10 ∧
  Q (.int .i64 n10) w2
def ring_Ring_find_tt : Nat → List (Nat × TypeId) := fun _ => []
theorem ring_Ring_find_call (p0 : Option Addr) (n1 : Int) (w : World) (Q : Value → World → Prop) (h : ring_Ring_find p0 n1 w Q) : callF Try.prog 47 #[.pointer p0, .int .i64 n1] w Q :=
  callF_of (fun _ _ => by kernel_rfl) (callK_of_sw ring_Ring_find_tt Try.func47 rfl (by kernel_rfl) (show sw Try.prog none 11 ring_Ring_find_tt _ 0 (endK Try.prog [.tmp 4] Q) ⟨regs [.pointer p0, .int .i64 n1], []⟩ w from
    Eq.mp (by kernel_rfl : ring_Ring_find p0 n1 w Q = sw Try.prog none 11 ring_Ring_find_tt (Try.f47.body.getD .skip) 0 (endK Try.prog [.tmp 4] Q) ⟨regs [.pointer p0, .int .i64 n1], []⟩ w) h))

def ring_Ring_find_c1 (p0 : Option Addr) (n0 : Int) (p0_1 : Option Addr) (l0 : Nat) (c0 : Nat) (p1 : Option Addr) (w : World) (Q : Value → World → Prop) : Prop :=
  New #[.pointer p0, .int .i64 n0, .slice p0_1 l0 c0] 86 w fun k2 w1 =>
  ∃ (n5 : Int), Ld Try.prog 3 (.pointer (some ((⟨k2, 0, none⟩ : Addr).add 1))) w1 (.int .i64 n5) ∧
  ∃ (n6 : Int), Ld Try.prog 3 (.pointer p1) w1 (.int .i64 n6) ∧
  Q (.bool (n5 == n6)) w1
def ring_Ring_find_c1_tt : Nat → List (Nat × TypeId) := fun _ => []
theorem ring_Ring_find_c1_call (p0 : Option Addr) (n0 : Int) (p0_1 : Option Addr) (l0 : Nat) (c0 : Nat) (p1 : Option Addr) (w : World) (Q : Value → World → Prop) (h : ring_Ring_find_c1 p0 n0 p0_1 l0 c0 p1 w Q) : callF Try.prog 69 #[.agg #[.pointer p0, .int .i64 n0, .slice p0_1 l0 c0], .pointer p1] w Q :=
  callF_of (fun _ _ => by kernel_rfl) (callK_of_sw ring_Ring_find_c1_tt Try.func69 rfl (by kernel_rfl) (show sw Try.prog none 8 ring_Ring_find_c1_tt _ 0 (endK Try.prog [.tmp 3] Q) ⟨regs [.agg #[.pointer p0, .int .i64 n0, .slice p0_1 l0 c0], .pointer p1], []⟩ w from
    Eq.mp (by kernel_rfl : ring_Ring_find_c1 p0 n0 p0_1 l0 c0 p1 w Q = sw Try.prog none 8 ring_Ring_find_c1_tt (Try.f69.body.getD .skip) 0 (endK Try.prog [.tmp 3] Q) ⟨regs [.agg #[.pointer p0, .int .i64 n0, .slice p0_1 l0 c0], .pointer p1], []⟩ w) h))
end Go.Sh
end

section
namespace Go.Sh
open Go Go.Fw Go.Proofs
set_option maxRecDepth 100000
set_option linter.unusedVariables false

def ref19_Ring_Find (p0 : Option Addr) (n1 : Int) (w : World) (Q : Value → World → Prop) : Prop :=
  LoopS [.pointer p0, .int .i64 n1, .int .i64 0, .int .i64 0] w fun I1 μ1 us1 _ wl1 =>
  ∃ (p0_1 : Option Addr) (n1_1 : Int) (n4 : Int) (n5 : Int), us1 = [.pointer p0_1, .int .i64 n1_1, .int .i64 n4, .int .i64 n5] ∧
  ∃ (a8 : Addr), p0_1 = some a8 ∧
  ∃ (p10 : Option Addr) (l10 : Nat) (c10 : Nat), Ld Try.prog 31 (.pointer (some (a8.add 0))) wl1 (.slice p10 l10 c10) ∧
  cond (decide (n5 < ((l10 : Nat) : Int)))
  (∃ (a16 : Addr), p0_1 = some a16 ∧
    ∃ (p18 : Option Addr) (l18 : Nat) (c18 : Nat), Ld Try.prog 31 (.pointer (some (a16.add 0))) wl1 (.slice p18 l18 c18) ∧
    ∃ (a20 : Addr), IxA Try.prog 31 (.slice p18 l18 c18) (.int .i64 n5) a20 ∧
    ∃ (n22 : Int), Ld Try.prog 3 (.pointer (some (a20.add 0))) wl1 (.int .i64 n22) ∧
    cond (n22 == n1_1)
    (Q (.int .i64 n5) wl1)
    (goesOn [] [] I1 μ1 us1 [.pointer p0_1, .int .i64 n1_1, .int .i64 n4, .int .i64 (IntKind.i64.wrap (n5 + 1))] wl1 wl1))
  (Q (.int .i64 (-1)) wl1)
def ref19_Ring_Find_tt : Nat → List (Nat × TypeId) := fun n => match n with | 0 => [(0, 30), (1, 3), (4, 3), (5, 3)] | _ => []
theorem ref19_Ring_Find_call (p0 : Option Addr) (n1 : Int) (w : World) (Q : Value → World → Prop) (h : ref19_Ring_Find p0 n1 w Q) : callF Try.prog 16 #[.pointer p0, .int .i64 n1] w Q :=
  callF_of (fun _ _ => by kernel_rfl) (callK_of_sw ref19_Ring_Find_tt Try.func16 rfl (by kernel_rfl) (show sw Try.prog none 26 ref19_Ring_Find_tt _ 0 (endK Try.prog [.tmp 4] Q) ⟨regs [.pointer p0, .int .i64 n1], []⟩ w from
    Eq.mp (by kernel_rfl : ref19_Ring_Find p0 n1 w Q = sw Try.prog none 26 ref19_Ring_Find_tt (Try.f16.body.getD .skip) 0 (endK Try.prog [.tmp 4] Q) ⟨regs [.pointer p0, .int .i64 n1], []⟩ w) h))

def ref19_Ring_Copy (p0 : Option Addr) (w : World) (Q : Value → World → Prop) : Prop :=
  ∃ (p3 : Option Addr) (l3 : Nat) (c3 : Nat) (w1 : World), Ef Try.prog (Instr.buildSlice 31 0 #[]) w (.slice p3 l3 c3) w1 ∧
  ∃ (a5 : Addr), p0 = some a5 ∧
  ∃ (p7 : Option Addr) (l7 : Nat) (c7 : Nat), Ld Try.prog 31 (.pointer (some (a5.add 0))) w1 (.slice p7 l7 c7) ∧
  ∃ (p8 : Option Addr) (l8 : Nat) (c8 : Nat) (w2 : World), Ef Try.prog (Builtin.append_ #[31, 31] 31 #[.slice p3 l3 c3, .slice p7 l7 c7]) w1 (.slice p8 l8 c8) w2 ∧
  New #[.slice p8 l8 c8] 33 w2 fun k10 w3 =>
  Q (.pointer (some (⟨k10, 0, none⟩ : Addr))) w3
def ref19_Ring_Copy_tt : Nat → List (Nat × TypeId) := fun _ => []
theorem ref19_Ring_Copy_call (p0 : Option Addr) (w : World) (Q : Value → World → Prop) (h : ref19_Ring_Copy p0 w Q) : callF Try.prog 18 #[.pointer p0] w Q :=
  callF_of (fun _ _ => by kernel_rfl) (callK_of_sw ref19_Ring_Copy_tt Try.func18 rfl (by kernel_rfl) (show sw Try.prog none 11 ref19_Ring_Copy_tt _ 0 (endK Try.prog [.tmp 2] Q) ⟨regs [.pointer p0], []⟩ w from
    Eq.mp (by kernel_rfl : ref19_Ring_Copy p0 w Q = sw Try.prog none 11 ref19_Ring_Copy_tt (Try.f18.body.getD .skip) 0 (endK Try.prog [.tmp 2] Q) ⟨regs [.pointer p0], []⟩ w) h))

def ref19_Ring_Install_j1 (p0 : Option Addr) (n1 : Int) (p2 : Option Addr) (l2 : Nat) (c2 : Nat) (n6 : Int) (w : World) (Q : Value → World → Prop) : Prop :=
  callF Try.prog 16 #[.pointer p0, .int .i64 n1] w fun r20 w1 =>
  ∃ (n20 : Int), r20 = .int .i64 n20 ∧
  cond (decide (n20 ≥ 0))
  (Q (.int .i64 16) w1)
  (∃ (a23 : Addr), p0 = some a23 ∧
    ∃ (p25 : Option Addr) (l25 : Nat) (c25 : Nat), Ld Try.prog 31 (.pointer (some (a23.add 0))) w1 (.slice p25 l25 c25) ∧
    cond (((l25 : Nat) : Int) == 16)
    (Q (.int .i64 18) w1)
    (∃ (S7 : World → Prop),
      Drw w1 fun w2 =>
      ∃ (a30 : Addr), p0 = some a30 ∧
      ∃ (p32 : Option Addr) (l32 : Nat) (c32 : Nat), HLd Try.prog S7 31 (.pointer (some (a30.add 0))) w2 (.slice p32 l32 c32) ∧
      ∃ (p34 : Option Addr) (l34 : Nat) (c34 : Nat) (w3 : World), Ef Try.prog (Instr.buildSlice 23 0 #[]) w2 (.slice p34 l34 c34) w3 ∧
      (w3 = w2 ∨ S7 w3) ∧
      ∃ (p36 : Option Addr) (l36 : Nat) (c36 : Nat) (w4 : World), Ef Try.prog (Builtin.append_ #[23, 23] 23 #[.slice p34 l34 c34, .slice p2 l2 c2]) w3 (.slice p36 l36 c36) w4 ∧
      (w4 = w3 ∨ S7 w4) ∧
      ∃ (p38 : Option Addr) (l38 : Nat) (c38 : Nat) (w5 : World), Ef Try.prog (Instr.buildSlice 31 1 #[(0, .agg #[.int .i64 n1, .slice p36 l36 c36])]) w4 (.slice p38 l38 c38) w5 ∧
      (w5 = w4 ∨ S7 w5) ∧
      ∃ (p39 : Option Addr) (l39 : Nat) (c39 : Nat) (w6 : World), Ef Try.prog (Builtin.append_ #[31, 31] 31 #[.slice p32 l32 c32, .slice p38 l38 c38]) w5 (.slice p39 l39 c39) w6 ∧
      ∃ (a40 : Addr), p0 = some a40 ∧
      ∃ (w7 : World), Sto Try.prog 31 (.pointer (some (a40.add 0))) (.slice p39 l39 c39) w6 w7 ∧
      Q (.int .i64 0) w7))
def ref19_Ring_Install (p0 : Option Addr) (n1 : Int) (p2 : Option Addr) (l2 : Nat) (c2 : Nat) (w : World) (Q : Value → World → Prop) : Prop :=
  cond (decide (n1 < 0))
  (Q (.int .i64 11) w)
  (cond (decide (n1 > 127))
    (Q (.int .i64 11) w)
    (cond (((l2 : Nat) : Int) != 16)
      (Q (.int .i64 11) w)
      (ref19_Ring_Install_j1 p0 n1 p2 l2 c2 0 w Q)))
def ref19_Ring_Install_tt : Nat → List (Nat × TypeId) := fun _ => []
theorem ref19_Ring_Install_call (p0 : Option Addr) (n1 : Int) (p2 : Option Addr) (l2 : Nat) (c2 : Nat) (w : World) (Q : Value → World → Prop) (h : ref19_Ring_Install p0 n1 p2 l2 c2 w Q) : callF Try.prog 42 #[.pointer p0, .int .i64 n1, .slice p2 l2 c2] w Q :=
  callF_of (fun _ _ => by kernel_rfl) (callK_of_sw ref19_Ring_Install_tt Try.func42 rfl (by kernel_rfl) (show sw Try.prog none 42 ref19_Ring_Install_tt _ 0 (endK Try.prog [.tmp 6] Q) ⟨regs [.pointer p0, .int .i64 n1, .slice p2 l2 c2], []⟩ w from
    Eq.mp (by kernel_rfl : ref19_Ring_Install p0 n1 p2 l2 c2 w Q = sw Try.prog none 42 ref19_Ring_Install_tt (Try.f42.body.getD .skip) 0 (endK Try.prog [.tmp 6] Q) ⟨regs [.pointer p0, .int .i64 n1, .slice p2 l2 c2], []⟩ w) h))

def ref19_Ring_Retire_j1 (p0 : Option Addr) (n1 : Int) (n4 : Int) (w : World) (Q : Value → World → Prop) : Prop :=
  callF Try.prog 16 #[.pointer p0, .int .i64 n1] w fun r14 w1 =>
  ∃ (n14 : Int), r14 = .int .i64 n14 ∧
  cond (decide (n14 < 0))
  (Q (.int .i64 17) w1)
  (∃ (S6 : World → Prop),
    Drw w1 fun w2 =>
    ∃ (a20 : Addr), p0 = some a20 ∧
    ∃ (a27 : Addr), p0 = some a27 ∧
    ∃ (p22 : Option Addr) (l22 : Nat) (c22 : Nat), HLd Try.prog S6 31 (.pointer (some (a20.add 0))) w2 (.slice p22 l22 c22) ∧
    ∃ (p24 : Option Addr) (l24 : Nat) (c24 : Nat), Pu Try.prog (Instr.sliceAt 31 (.slice p22 l22 c22) none (some (.int .i64 n14)) none) (.slice p24 l24 c24) ∧
    ∃ (p29 : Option Addr) (l29 : Nat) (c29 : Nat), HLd Try.prog S6 31 (.pointer (some (a27.add 0))) w2 (.slice p29 l29 c29) ∧
    ∃ (p32 : Option Addr) (l32 : Nat) (c32 : Nat), Pu Try.prog (Instr.sliceAt 31 (.slice p29 l29 c29) (some (.int .i64 (IntKind.i64.wrap (n14 + 1)))) none none) (.slice p32 l32 c32) ∧
    ∃ (p18 : Option Addr) (l18 : Nat) (c18 : Nat) (w3 : World), Ef Try.prog (Instr.buildSlice 31 0 #[]) w2 (.slice p18 l18 c18) w3 ∧
    (w3 = w2 ∨ S6 w3) ∧
    ∃ (p25 : Option Addr) (l25 : Nat) (c25 : Nat) (w4 : World), Ef Try.prog (Builtin.append_ #[31, 31] 31 #[.slice p18 l18 c18, .slice p24 l24 c24]) w3 (.slice p25 l25 c25) w4 ∧
    (w4 = w3 ∨ S6 w4) ∧
    ∃ (p33 : Option Addr) (l33 : Nat) (c33 : Nat) (w5 : World), Ef Try.prog (Builtin.append_ #[31, 31] 31 #[.slice p25 l25 c25, .slice p32 l32 c32]) w4 (.slice p33 l33 c33) w5 ∧
    ∃ (a34 : Addr), p0 = some a34 ∧
    ∃ (w6 : World), Sto Try.prog 31 (.pointer (some (a34.add 0))) (.slice p33 l33 c33) w5 w6 ∧
    Q (.int .i64 0) w6)
def ref19_Ring_Retire (p0 : Option Addr) (n1 : Int) (w : World) (Q : Value → World → Prop) : Prop :=
  cond (decide (n1 < 0))
  (Q (.int .i64 11) w)
  (cond (decide (n1 > 127))
    (Q (.int .i64 11) w)
    (ref19_Ring_Retire_j1 p0 n1 0 w Q))
def ref19_Ring_Retire_tt : Nat → List (Nat × TypeId) := fun _ => []
theorem ref19_Ring_Retire_call (p0 : Option Addr) (n1 : Int) (w : World) (Q : Value → World → Prop) (h : ref19_Ring_Retire p0 n1 w Q) : callF Try.prog 43 #[.pointer p0, .int .i64 n1] w Q :=
  callF_of (fun _ _ => by kernel_rfl) (callK_of_sw ref19_Ring_Retire_tt Try.func43 rfl (by kernel_rfl) (show sw Try.prog none 36 ref19_Ring_Retire_tt _ 0 (endK Try.prog [.tmp 4] Q) ⟨regs [.pointer p0, .int .i64 n1], []⟩ w from
    Eq.mp (by kernel_rfl : ref19_Ring_Retire p0 n1 w Q = sw Try.prog none 36 ref19_Ring_Retire_tt (Try.f43.body.getD .skip) 0 (endK Try.prog [.tmp 4] Q) ⟨regs [.pointer p0, .int .i64 n1], []⟩ w) h))
end Go.Sh
end

section
namespace Go.Sh
open Go Go.Fw Go.Proofs
set_option maxRecDepth 100000
set_option linter.unusedVariables false

def law19_RingCalls_j1 (a5 : Addr) (b6 : Bool) (p7 : Option Addr) (a8 : Addr) (w : World) (Q : Value → World → Prop) : Prop :=
  callF Try.prog 17 #[.pointer p7] w fun r88 w1 =>
  ∃ (p88 : Option Addr), r88 = .pointer p88 ∧
  ∃ (S19 : World → Prop),
  Drw w1 fun w2 =>
  ∃ (b90 : Bool) (w3 : World), Ef Try.prog (do eqGuard .neq 28 (.tmp 89) (.const (.pointer none)) (.pointer p88) (.pointer none); binOp .neq 28 (.pointer p88) (.pointer none) : Sem Value) w2 (.bool b90) w3 ∧
  (w3 = w2 ∨ S19 w3) ∧
  cond b90
  (callF Try.prog 13 #[.pointer p88, .pointer (some a8)] w3 fun r94 w4 =>
    ∃ (b94 : Bool), r94 = .bool b94 ∧
    (w4 = w3 ∨ S19 w4) ∧
    cond b94
    (∃ (n100 : Int) (n100_1 : Int) (p100 : Option Addr) (l100 : Nat) (c100 : Nat), HLd Try.prog S19 25 (.pointer (some a5)) w4 (.agg #[.int .i64 n100, .int .i64 n100_1, .slice p100 l100 c100]) ∧
      callF Try.prog 18 #[.pointer (some a8)] w4 fun r99 w5 =>
      ∃ (p99 : Option Addr), r99 = .pointer p99 ∧
      (w5 = w4 ∨ S19 w5) ∧
      callF Try.prog 12 #[.pointer p88, .pointer p99, .agg #[.int .i64 n100, .int .i64 n100_1, .slice p100 l100 c100]] w5 fun r101 w6 =>
      ∃ (b101 : Bool), r101 = .bool b101 ∧
      cond b101
      (callF Try.prog 13 #[.pointer p7, .pointer (some a8)] w6 fun r106 w7 =>
        ∃ (b106 : Bool), r106 = .bool b106 ∧
        Q (.bool b106) w7)
      (Q (.bool false) w6))
    (Q (.bool false) w4))
  (Q (.bool false) w3)
def law19_RingCalls_j2 (n1 : Int) (a5 : Addr) (b6 : Bool) (p7 : Option Addr) (a8 : Addr) (w : World) (Q : Value → World → Prop) : Prop :=
  callF Try.prog 14 #[.pointer p7, .int .i64 n1] w fun r52 w1 =>
  ∃ (p52 : Option Addr) (l52 : Nat) (c52 : Nat) (b52 : Bool), r52 = .tuple #[.slice p52 l52 c52, .bool b52] ∧
  callF Try.prog 15 #[.pointer p7, .int .i64 n1] w1 fun r58 w2 =>
  ∃ (p58 : Option Addr) (b58 : Bool), r58 = .tuple #[.pointer p58, .bool b58] ∧
  callF Try.prog 16 #[.pointer (some a8), .int .i64 n1] w2 fun r63 w3 =>
  ∃ (n63 : Int), r63 = .int .i64 n63 ∧
  cond (!((decide (n63 ≥ 0)) == b52))
  (Q (.bool false) w3)
  (cond (!(b52 == b58))
    (Q (.bool false) w3)
    (∃ (b74 : Bool) (w4 : World), Ef Try.prog (do eqGuard .neq 38 (.tmp 73) (.const (.pointer none)) (.pointer p58) (.pointer none); binOp .neq 38 (.pointer p58) (.pointer none) : Sem Value) w3 (.bool b74) w4 ∧
      cond (!(b74 == b58))
      (Q (.bool false) w4)
      (cond (!b52)
        (cond (((l52 : Nat) : Int) != 0)
          (Q (.bool false) w4)
          (law19_RingCalls_j1 a5 b6 p7 a8 w4 Q))
        (law19_RingCalls_j1 a5 b6 p7 a8 w4 Q))))
def law19_RingCalls_j3 (p0 : Option Addr) (l0 : Nat) (c0 : Nat) (n1 : Int) (a5 : Addr) (b6 : Bool) (w : World) (Q : Value → World → Prop) : Prop :=
  callF Try.prog 11 #[] w fun r24 w1 =>
  ∃ (p24 : Option Addr), r24 = .pointer p24 ∧
  New #[.slice none 0 0] 33 w1 fun k26 w2 =>
  ∃ (b28 : Bool) (w3 : World), Ef Try.prog (do eqGuard .eql 28 (.tmp 27) (.const (.pointer none)) (.pointer p24) (.pointer none); binOp .eql 28 (.pointer p24) (.pointer none) : Sem Value) w2 (.bool b28) w3 ∧
  cond b28
  (Q (.bool false) w3)
  (LoopS [.slice p0 l0 c0, .int .i64 n1, .pointer (some a5), .bool b6, .pointer p24, .pointer (some (⟨k26, 0, none⟩ : Addr)), .int .i64 0] w3 fun I1 μ1 us1 _ wl1 =>
    ∃ (p0_1 : Option Addr) (l0_1 : Nat) (c0_1 : Nat) (n1_1 : Int) (a5_1 : Addr) (b6_1 : Bool) (p7 : Option Addr) (a8 : Addr) (n9 : Int), us1 = [.slice p0_1 l0_1 c0_1, .int .i64 n1_1, .pointer (some a5_1), .bool b6_1, .pointer p7, .pointer (some a8), .int .i64 n9] ∧
    cond (decide (n9 < ((l0_1 : Nat) : Int)))
    (∃ (a39 : Addr), IxA Try.prog 22 (.slice p0_1 l0_1 c0_1) (.int .i64 n9) a39 ∧
      ∃ (n40 : Int) (n40_1 : Int) (p40 : Option Addr) (l40 : Nat) (c40 : Nat), Ld Try.prog 25 (.pointer (some a39)) wl1 (.agg #[.int .i64 n40, .int .i64 n40_1, .slice p40 l40 c40]) ∧
      callF Try.prog 12 #[.pointer p7, .pointer (some a8), .agg #[.int .i64 n40, .int .i64 n40_1, .slice p40 l40 c40]] wl1 fun r41 w4 =>
      ∃ (b41 : Bool), r41 = .bool b41 ∧
      cond (!b41)
      (Q (.bool false) w4)
      (callF Try.prog 13 #[.pointer p7, .pointer (some a8)] w4 fun r46 w5 =>
        ∃ (b46 : Bool), r46 = .bool b46 ∧
        cond (!b46)
        (Q (.bool false) w5)
        (goesOn [] [] I1 μ1 us1 [.slice p0_1 l0_1 c0_1, .int .i64 n1_1, .pointer (some a5_1), .bool b6_1, .pointer p7, .pointer (some a8), .int .i64 (IntKind.i64.wrap (n9 + 1))] wl1 w5)))
    (law19_RingCalls_j2 n1_1 a5_1 b6_1 p7 a8 wl1 Q))
def law19_RingCalls (p0 : Option Addr) (l0 : Nat) (c0 : Nat) (n1 : Int) (n2 : Int) (n2_1 : Int) (p2 : Option Addr) (l2 : Nat) (c2 : Nat) (w : World) (Q : Value → World → Prop) : Prop :=
  New #[.int .i64 n2, .int .i64 n2_1, .slice p2 l2 c2] 25 w fun k5 w1 =>
  callF Try.prog 9 #[] w1 fun r15 w2 =>
  ∃ (b15 : Bool), r15 = .bool b15 ∧
  cond (!b15)
  (Q (.bool false) w2)
  (callF Try.prog 10 #[.slice p0 l0 c0] w2 fun r18 w3 =>
    ∃ (b18 : Bool), r18 = .bool b18 ∧
    cond b18
    (Q (.bool true) w3)
    (∃ (n20 : Int) (n20_1 : Int) (p20 : Option Addr) (l20 : Nat) (c20 : Nat), Ld Try.prog 25 (.pointer (some (⟨k5, 0, none⟩ : Addr))) w3 (.agg #[.int .i64 n20, .int .i64 n20_1, .slice p20 l20 c20]) ∧
      ∃ (p21 : Option Addr) (l21 : Nat) (c21 : Nat) (w4 : World), Ef Try.prog (Instr.buildSlice 22 1 #[(0, .agg #[.int .i64 n20, .int .i64 n20_1, .slice p20 l20 c20])]) w3 (.slice p21 l21 c21) w4 ∧
      callF Try.prog 10 #[.slice p21 l21 c21] w4 fun r22 w5 =>
      ∃ (b22 : Bool), r22 = .bool b22 ∧
      cond b22
      (Q (.bool true) w5)
      (law19_RingCalls_j3 p0 l0 c0 n1 (⟨k5, 0, none⟩ : Addr) false w5 Q)))
def law19_RingCalls_tt : Nat → List (Nat × TypeId) := fun n => match n with | 0 => [(0, 22), (1, 3), (5, 1000000), (6, 4), (7, 28), (8, 1000000), (9, 3)] | _ => []
theorem law19_RingCalls_call (p0 : Option Addr) (l0 : Nat) (c0 : Nat) (n1 : Int) (n2 : Int) (n2_1 : Int) (p2 : Option Addr) (l2 : Nat) (c2 : Nat) (w : World) (Q : Value → World → Prop) (h : law19_RingCalls p0 l0 c0 n1 n2 n2_1 p2 l2 c2 w Q) : callF Try.prog 3 #[.slice p0 l0 c0, .int .i64 n1, .agg #[.int .i64 n2, .int .i64 n2_1, .slice p2 l2 c2]] w Q :=
  callF_of (fun _ _ => by kernel_rfl) (callK_of_sw law19_RingCalls_tt Try.func3 rfl (by kernel_rfl) (show sw Try.prog none 108 law19_RingCalls_tt _ 0 (endK Try.prog [.tmp 6] Q) ⟨regs [.slice p0 l0 c0, .int .i64 n1, .agg #[.int .i64 n2, .int .i64 n2_1, .slice p2 l2 c2]], []⟩ w from
    Eq.mp (by kernel_rfl : law19_RingCalls p0 l0 c0 n1 n2 n2_1 p2 l2 c2 w Q = sw Try.prog none 108 law19_RingCalls_tt (Try.f3.body.getD .skip) 0 (endK Try.prog [.tmp 6] Q) ⟨regs [.slice p0 l0 c0, .int .i64 n1, .agg #[.int .i64 n2, .int .i64 n2_1, .slice p2 l2 c2]], []⟩ w) h))

def law19_RingKeeps_j1 (b4 : Bool) (p5 : Option Addr) (p7 : Option Addr) (l7 : Nat) (c7 : Nat) (n8 : Int) (b9 : Bool) (w : World) (Q : Value → World → Prop) : Prop :=
  callF Try.prog 20 #[.pointer p5] w fun r87 w1 =>
  ∃ (n87 : Int) (b87 : Bool), r87 = .tuple #[.int .i64 n87, .bool b87] ∧
  callF Try.prog 19 #[.pointer p5] w1 fun r91 w2 =>
  ∃ (p91 : Option Addr) (l91 : Nat) (c91 : Nat), r91 = .slice p91 l91 c91 ∧
  callF Try.prog 23 #[.slice p91 l91 c91, .slice p7 l7 c7] w2 fun r93 w3 =>
  ∃ (b93 : Bool), r93 = .bool b93 ∧
  cond b93
  (cond (n87 == n8)
    (cond (b87 == b9)
      (Q (.bool (decide (((l7 : Nat) : Int) ≤ 16))) w3)
      (Q (.bool false) w3))
    (Q (.bool false) w3))
  (Q (.bool false) w3)
def law19_RingKeeps_j2 (a3 : Addr) (b4 : Bool) (p5 : Option Addr) (w : World) (Q : Value → World → Prop) : Prop :=
  callF Try.prog 19 #[.pointer p5] w fun r42 w1 =>
  ∃ (p42 : Option Addr) (l42 : Nat) (c42 : Nat), r42 = .slice p42 l42 c42 ∧
  callF Try.prog 20 #[.pointer p5] w1 fun r45 w2 =>
  ∃ (n45 : Int) (b45 : Bool), r45 = .tuple #[.int .i64 n45, .bool b45] ∧
  ∃ (n50 : Int), Ld Try.prog 3 (.pointer (some (a3.add 1))) w2 (.int .i64 n50) ∧
  ∃ (p52 : Option Addr) (l52 : Nat) (c52 : Nat), Ld Try.prog 23 (.pointer (some (a3.add 2))) w2 (.slice p52 l52 c52) ∧
  callF Try.prog 21 #[.pointer p5, .int .i64 n50, .slice p52 l52 c52] w2 fun r53 w3 =>
  ∃ (n53 : Int), r53 = .int .i64 n53 ∧
  cond (n53 == 0)
  (callF Try.prog 20 #[.pointer p5] w3 fun r58 w4 =>
    ∃ (n58 : Int) (b58 : Bool), r58 = .tuple #[.int .i64 n58, .bool b58] ∧
    cond (!b58)
    (Q (.bool false) w4)
    (∃ (n66 : Int), Ld Try.prog 3 (.pointer (some (a3.add 1))) w4 (.int .i64 n66) ∧
      cond (n58 != n66)
      (Q (.bool false) w4)
      (callF Try.prog 19 #[.pointer p5] w4 fun r71 w5 =>
        ∃ (p71 : Option Addr) (l71 : Nat) (c71 : Nat), r71 = .slice p71 l71 c71 ∧
        cond (((l71 : Nat) : Int) != (IntKind.i64.wrap (((l42 : Nat) : Int) + 1)))
        (Q (.bool false) w5)
        (∃ (n81 : Int), Ld Try.prog 3 (.pointer (some (a3.add 1))) w5 (.int .i64 n81) ∧
          callF Try.prog 22 #[.pointer p5, .int .i64 n81] w5 fun r82 w6 =>
          ∃ (n82 : Int), r82 = .int .i64 n82 ∧
          cond (n82 != 0)
          (Q (.bool false) w6)
          (law19_RingKeeps_j1 b4 p5 p42 l42 c42 n45 b45 w6 Q)))))
  (law19_RingKeeps_j1 b4 p5 p42 l42 c42 n45 b45 w3 Q)
def law19_RingKeeps_j3 (p0 : Option Addr) (l0 : Nat) (c0 : Nat) (a3 : Addr) (b4 : Bool) (w : World) (Q : Value → World → Prop) : Prop :=
  callF Try.prog 11 #[] w fun r24 w1 =>
  ∃ (p24 : Option Addr), r24 = .pointer p24 ∧
  ∃ (b26 : Bool) (w2 : World), Ef Try.prog (do eqGuard .eql 28 (.tmp 25) (.const (.pointer none)) (.pointer p24) (.pointer none); binOp .eql 28 (.pointer p24) (.pointer none) : Sem Value) w1 (.bool b26) w2 ∧
  cond b26
  (Q (.bool false) w2)
  (LoopS [.slice p0 l0 c0, .pointer (some a3), .bool b4, .pointer p24, .int .i64 0] w2 fun I1 μ1 us1 _ wl1 =>
    ∃ (p0_1 : Option Addr) (l0_1 : Nat) (c0_1 : Nat) (a3_1 : Addr) (b4_1 : Bool) (p5 : Option Addr) (n6 : Int), us1 = [.slice p0_1 l0_1 c0_1, .pointer (some a3_1), .bool b4_1, .pointer p5, .int .i64 n6] ∧
    cond (decide (n6 < ((l0_1 : Nat) : Int)))
    (New #[.slice none 0 0] 33 wl1 fun k35 w3 =>
      ∃ (a38 : Addr), IxA Try.prog 22 (.slice p0_1 l0_1 c0_1) (.int .i64 n6) a38 ∧
      ∃ (n39 : Int) (n39_1 : Int) (p39 : Option Addr) (l39 : Nat) (c39 : Nat), Ld Try.prog 25 (.pointer (some a38)) w3 (.agg #[.int .i64 n39, .int .i64 n39_1, .slice p39 l39 c39]) ∧
      callF Try.prog 12 #[.pointer p5, .pointer (some (⟨k35, 0, none⟩ : Addr)), .agg #[.int .i64 n39, .int .i64 n39_1, .slice p39 l39 c39]] w3 fun r40 w4 =>
      ∃ (b40 : Bool), r40 = .bool b40 ∧
      goesOn [] [] I1 μ1 us1 [.slice p0_1 l0_1 c0_1, .pointer (some a3_1), .bool b4_1, .pointer p5, .int .i64 (IntKind.i64.wrap (n6 + 1))] wl1 w4)
    (law19_RingKeeps_j2 a3_1 b4_1 p5 wl1 Q))
def law19_RingKeeps (p0 : Option Addr) (l0 : Nat) (c0 : Nat) (n1 : Int) (n1_1 : Int) (p1 : Option Addr) (l1 : Nat) (c1 : Nat) (w : World) (Q : Value → World → Prop) : Prop :=
  New #[.int .i64 n1, .int .i64 n1_1, .slice p1 l1 c1] 25 w fun k3 w1 =>
  callF Try.prog 9 #[] w1 fun r15 w2 =>
  ∃ (b15 : Bool), r15 = .bool b15 ∧
  cond (!b15)
  (Q (.bool false) w2)
  (callF Try.prog 10 #[.slice p0 l0 c0] w2 fun r18 w3 =>
    ∃ (b18 : Bool), r18 = .bool b18 ∧
    cond b18
    (Q (.bool true) w3)
    (∃ (n20 : Int) (n20_1 : Int) (p20 : Option Addr) (l20 : Nat) (c20 : Nat), Ld Try.prog 25 (.pointer (some (⟨k3, 0, none⟩ : Addr))) w3 (.agg #[.int .i64 n20, .int .i64 n20_1, .slice p20 l20 c20]) ∧
      ∃ (p21 : Option Addr) (l21 : Nat) (c21 : Nat) (w4 : World), Ef Try.prog (Instr.buildSlice 22 1 #[(0, .agg #[.int .i64 n20, .int .i64 n20_1, .slice p20 l20 c20])]) w3 (.slice p21 l21 c21) w4 ∧
      callF Try.prog 10 #[.slice p21 l21 c21] w4 fun r22 w5 =>
      ∃ (b22 : Bool), r22 = .bool b22 ∧
      cond b22
      (Q (.bool true) w5)
      (law19_RingKeeps_j3 p0 l0 c0 (⟨k3, 0, none⟩ : Addr) false w5 Q)))
def law19_RingKeeps_tt : Nat → List (Nat × TypeId) := fun n => match n with | 0 => [(0, 22), (3, 1000000), (4, 4), (5, 28), (6, 3)] | _ => []
theorem law19_RingKeeps_call (p0 : Option Addr) (l0 : Nat) (c0 : Nat) (n1 : Int) (n1_1 : Int) (p1 : Option Addr) (l1 : Nat) (c1 : Nat) (w : World) (Q : Value → World → Prop) (h : law19_RingKeeps p0 l0 c0 n1 n1_1 p1 l1 c1 w Q) : callF Try.prog 4 #[.slice p0 l0 c0, .agg #[.int .i64 n1, .int .i64 n1_1, .slice p1 l1 c1]] w Q :=
  callF_of (fun _ _ => by kernel_rfl) (callK_of_sw law19_RingKeeps_tt Try.func4 rfl (by kernel_rfl) (show sw Try.prog none 109 law19_RingKeeps_tt _ 0 (endK Try.prog [.tmp 4] Q) ⟨regs [.slice p0 l0 c0, .agg #[.int .i64 n1, .int .i64 n1_1, .slice p1 l1 c1]], []⟩ w from
    Eq.mp (by kernel_rfl : law19_RingKeeps p0 l0 c0 n1 n1_1 p1 l1 c1 w Q = sw Try.prog none 109 law19_RingKeeps_tt (Try.f4.body.getD .skip) 0 (endK Try.prog [.tmp 4] Q) ⟨regs [.slice p0 l0 c0, .agg #[.int .i64 n1, .int .i64 n1_1, .slice p1 l1 c1]], []⟩ w) h))

def law19_RingNewest_j1 (I2 : Inv) (μ2 : Meas) (us2 : List Value) (wl2 : World) (b2 : Bool) (p3 : Option Addr) (p5 : Option Addr) (l5 : Nat) (c5 : Nat) (n6 : Int) (b7 : Bool) (a8 : Addr) (n9 : Int) (w : World) (Q : Value → World → Prop) : Prop :=
  ∃ (a71 : Addr), IxA Try.prog 44 (.slice p5 l5 c5) (.int .i64 n9) a71 ∧
  ∃ (n72 : Int), Ld Try.prog 3 (.pointer (some a71)) w (.int .i64 n72) ∧
  ∃ (a73 : Addr), IxA Try.prog 53 (.pointer (some a8)) (.int .i64 n72) a73 ∧
  ∃ (w1 : World), Sto Try.prog 4 (.pointer (some a73)) (.bool true) w w1 ∧
  ∃ (a78 : Addr), IxA Try.prog 44 (.slice p5 l5 c5) (.int .i64 n9) a78 ∧
  ∃ (n79 : Int), Ld Try.prog 3 (.pointer (some a78)) w1 (.int .i64 n79) ∧
  callF Try.prog 14 #[.pointer p3, .int .i64 n79] w1 fun r80 w2 =>
  ∃ (p80 : Option Addr) (l80 : Nat) (c80 : Nat) (b80 : Bool), r80 = .tuple #[.slice p80 l80 c80, .bool b80] ∧
  ∃ (a87 : Addr), IxA Try.prog 44 (.slice p5 l5 c5) (.int .i64 n9) a87 ∧
  ∃ (n88 : Int), Ld Try.prog 3 (.pointer (some a87)) w2 (.int .i64 n88) ∧
  callF Try.prog 15 #[.pointer p3, .int .i64 n88] w2 fun r89 w3 =>
  ∃ (p89 : Option Addr) (b89 : Bool), r89 = .tuple #[.pointer p89, .bool b89] ∧
  cond (!b80)
  (Q (.bool false) w3)
  (cond (!b89)
    (Q (.bool false) w3)
    (∃ (b100 : Bool) (w4 : World), Ef Try.prog (do eqGuard .eql 38 (.tmp 99) (.const (.pointer none)) (.pointer p89) (.pointer none); binOp .eql 38 (.pointer p89) (.pointer none) : Sem Value) w3 (.bool b100) w4 ∧
      cond b100
      (Q (.bool false) w4)
      (cond (((l80 : Nat) : Int) != 16)
        (Q (.bool false) w4)
        (goesOn [] [] I2 μ2 us2 [.bool b2, .pointer p3, .slice p5 l5 c5, .int .i64 n6, .bool b7, .pointer (some a8), .int .i64 (IntKind.i64.wrap (n9 + 1))] wl2 w4))))
def law19_RingNewest_j2 (b2 : Bool) (p5 : Option Addr) (l5 : Nat) (c5 : Nat) (n6 : Int) (b7 : Bool) (w : World) (Q : Value → World → Prop) : Prop :=
  cond (decide (((l5 : Nat) : Int) ≤ 16))
  (cond (b7 == (decide (((l5 : Nat) : Int) > 0)))
    (cond (!b7)
      (Q (.bool true) w)
      (∃ (a126 : Addr), IxA Try.prog 44 (.slice p5 l5 c5) (.int .i64 (IntKind.i64.wrap (((l5 : Nat) : Int) - 1))) a126 ∧
        ∃ (n127 : Int), Ld Try.prog 3 (.pointer (some a126)) w (.int .i64 n127) ∧
        Q (.bool (n6 == n127)) w))
    (Q (.bool false) w))
  (Q (.bool false) w)
def law19_RingNewest_j3 (b2 : Bool) (p3 : Option Addr) (w : World) (Q : Value → World → Prop) : Prop :=
  callF Try.prog 19 #[.pointer p3] w fun r36 w1 =>
  ∃ (p36 : Option Addr) (l36 : Nat) (c36 : Nat), r36 = .slice p36 l36 c36 ∧
  callF Try.prog 20 #[.pointer p3] w1 fun r39 w2 =>
  ∃ (n39 : Int) (b39 : Bool), r39 = .tuple #[.int .i64 n39, .bool b39] ∧
  ∃ (z8 : Value), Pu Try.prog (zeroValue 53) z8 ∧
  New z8.cells 53 w2 fun k8 w3 =>
  ∃ (w4 : World), Sto Try.prog 53 (.pointer (some (⟨k8, 0, none⟩ : Addr))) (.agg #[.bool false, .bool false, .bool false, .bool false, .bool false, .bool false, .bool false, .bool false, .bool false, .bool false, .bool false, .bool false, .bool false, .bool false, .bool false, .bool false, .bool false, .bool false, .bool false, .bool false, .bool false, .bool false, .bool false, .bool false, .bool false, .bool false, .bool false, .bool false, .bool false, .bool false, .bool false, .bool false, .bool false, .bool false, .bool false, .bool false, .bool false, .bool false, .bool false, .bool false, .bool false, .bool false, .bool false, .bool false, .bool false, .bool false, .bool false, .bool false, .bool false, .bool false, .bool false, .bool false, .bool false, .bool false, .bool false, .bool false, .bool false, .bool false, .bool false, .bool false, .bool false, .bool false, .bool false, .bool false, .bool false, .bool false, .bool false, .bool false, .bool false, .bool false, .bool false, .bool false, .bool false, .bool false, .bool false, .bool false, .bool false, .bool false, .bool false, .bool false, .bool false, .bool false, .bool false, .bool false, .bool false, .bool false, .bool false, .bool false, .bool false, .bool false, .bool false, .bool false, .bool false, .bool false, .bool false, .bool false, .bool false, .bool false, .bool false, .bool false, .bool false, .bool false, .bool false, .bool false, .bool false, .bool false, .bool false, .bool false, .bool false, .bool false, .bool false, .bool false, .bool false, .bool false, .bool false, .bool false, .bool false, .bool false, .bool false, .bool false, .bool false, .bool false, .bool false, .bool false, .bool false, .bool false, .bool false, .bool false]) w3 w4 ∧
  LoopS [.bool b2, .pointer p3, .slice p36 l36 c36, .int .i64 n39, .bool b39, .pointer (some (⟨k8, 0, none⟩ : Addr)), .int .i64 0] w4 fun I2 μ2 us2 _ wl2 =>
  ∃ (b2_1 : Bool) (p3_1 : Option Addr) (p5 : Option Addr) (l5 : Nat) (c5 : Nat) (n6 : Int) (b7 : Bool) (a8 : Addr) (n9 : Int), us2 = [.bool b2_1, .pointer p3_1, .slice p5 l5 c5, .int .i64 n6, .bool b7, .pointer (some a8), .int .i64 n9] ∧
  cond (decide (n9 < ((l5 : Nat) : Int)))
  (∃ (a51 : Addr), IxA Try.prog 44 (.slice p5 l5 c5) (.int .i64 n9) a51 ∧
    ∃ (n52 : Int), Ld Try.prog 3 (.pointer (some a51)) wl2 (.int .i64 n52) ∧
    cond (decide (n52 < 0))
    (Q (.bool false) wl2)
    (∃ (a57 : Addr), IxA Try.prog 44 (.slice p5 l5 c5) (.int .i64 n9) a57 ∧
      ∃ (n58 : Int), Ld Try.prog 3 (.pointer (some a57)) wl2 (.int .i64 n58) ∧
      cond (decide (n58 > 127))
      (Q (.bool false) wl2)
      (∃ (a64 : Addr), IxA Try.prog 44 (.slice p5 l5 c5) (.int .i64 n9) a64 ∧
        ∃ (n65 : Int), Ld Try.prog 3 (.pointer (some a64)) wl2 (.int .i64 n65) ∧
        ∃ (a66 : Addr), IxA Try.prog 53 (.pointer (some a8)) (.int .i64 n65) a66 ∧
        ∃ (b67 : Bool), Ld Try.prog 4 (.pointer (some a66)) wl2 (.bool b67) ∧
        cond b67
        (Q (.bool false) wl2)
        (law19_RingNewest_j1 I2 μ2 us2 wl2 b2_1 p3_1 p5 l5 c5 n6 b7 a8 n9 wl2 Q))))
  (law19_RingNewest_j2 b2_1 p5 l5 c5 n6 b7 wl2 Q)
def law19_RingNewest (p0 : Option Addr) (l0 : Nat) (c0 : Nat) (w : World) (Q : Value → World → Prop) : Prop :=
  callF Try.prog 9 #[] w fun r14 w1 =>
  ∃ (b14 : Bool), r14 = .bool b14 ∧
  cond (!b14)
  (Q (.bool false) w1)
  (callF Try.prog 10 #[.slice p0 l0 c0] w1 fun r17 w2 =>
    ∃ (b17 : Bool), r17 = .bool b17 ∧
    cond b17
    (Q (.bool true) w2)
    (callF Try.prog 11 #[] w2 fun r18 w3 =>
      ∃ (p18 : Option Addr), r18 = .pointer p18 ∧
      ∃ (b20 : Bool) (w4 : World), Ef Try.prog (do eqGuard .eql 28 (.tmp 19) (.const (.pointer none)) (.pointer p18) (.pointer none); binOp .eql 28 (.pointer p18) (.pointer none) : Sem Value) w3 (.bool b20) w4 ∧
      cond b20
      (Q (.bool false) w4)
      (LoopS [.slice p0 l0 c0, .bool false, .pointer p18, .int .i64 0] w4 fun I1 μ1 us1 _ wl1 =>
        ∃ (p0_1 : Option Addr) (l0_1 : Nat) (c0_1 : Nat) (b2 : Bool) (p3 : Option Addr) (n4 : Int), us1 = [.slice p0_1 l0_1 c0_1, .bool b2, .pointer p3, .int .i64 n4] ∧
        cond (decide (n4 < ((l0_1 : Nat) : Int)))
        (New #[.slice none 0 0] 33 wl1 fun k29 w5 =>
          ∃ (a32 : Addr), IxA Try.prog 22 (.slice p0_1 l0_1 c0_1) (.int .i64 n4) a32 ∧
          ∃ (n33 : Int) (n33_1 : Int) (p33 : Option Addr) (l33 : Nat) (c33 : Nat), Ld Try.prog 25 (.pointer (some a32)) w5 (.agg #[.int .i64 n33, .int .i64 n33_1, .slice p33 l33 c33]) ∧
          callF Try.prog 12 #[.pointer p3, .pointer (some (⟨k29, 0, none⟩ : Addr)), .agg #[.int .i64 n33, .int .i64 n33_1, .slice p33 l33 c33]] w5 fun r34 w6 =>
          ∃ (b34 : Bool), r34 = .bool b34 ∧
          goesOn [] [] I1 μ1 us1 [.slice p0_1 l0_1 c0_1, .bool b2, .pointer p3, .int .i64 (IntKind.i64.wrap (n4 + 1))] wl1 w6)
        (law19_RingNewest_j3 b2 p3 wl1 Q))))
def law19_RingNewest_tt : Nat → List (Nat × TypeId) := fun n => match n with | 0 => [(0, 22), (2, 4), (3, 28), (4, 3)] | 2 => [(2, 4), (3, 28), (5, 44), (6, 3), (7, 4), (8, 1000000), (9, 3)] | _ => []
theorem law19_RingNewest_call (p0 : Option Addr) (l0 : Nat) (c0 : Nat) (w : World) (Q : Value → World → Prop) (h : law19_RingNewest p0 l0 c0 w Q) : callF Try.prog 5 #[.slice p0 l0 c0] w Q :=
  callF_of (fun _ _ => by kernel_rfl) (callK_of_sw law19_RingNewest_tt Try.func5 rfl (by kernel_rfl) (show sw Try.prog none 131 law19_RingNewest_tt _ 0 (endK Try.prog [.tmp 2] Q) ⟨regs [.slice p0 l0 c0], []⟩ w from
    Eq.mp (by kernel_rfl : law19_RingNewest p0 l0 c0 w Q = sw Try.prog none 131 law19_RingNewest_tt (Try.f5.body.getD .skip) 0 (endK Try.prog [.tmp 2] Q) ⟨regs [.slice p0 l0 c0], []⟩ w) h))

def law19_alive_j1 (b0 : Bool) (p1 : Option Addr) (n3 : Int) (n4 : Int) (n5 : Int) (n6 : Int) (n7 : Int) (n8 : Int) (b9 : Bool) (p10 : Option Addr) (n11 : Int) (n12 : Int) (n13 : Int) (b14 : Bool) (b18 : Bool) (p19 : Option Addr) (l19 : Nat) (c19 : Nat) (b20 : Bool) (w : World) (Q : Value → World → Prop) : Prop :=
  callF Try.prog 20 #[.pointer p10] w fun r85 w1 =>
  ∃ (n85 : Int) (b85 : Bool), r85 = .tuple #[.int .i64 n85, .bool b85] ∧
  cond (n3 == 0)
  (cond (n4 == 0)
    (cond (n5 == 16)
      (cond (n6 == 11)
        (cond (n7 == 0)
          (cond b9
            (cond (n8 == 5)
              (cond (n11 == 0)
                (cond (n12 == 17)
                  (cond b14
                    (cond (n13 == 7)
                      (cond (!b18)
                        (cond b20
                          (cond (((l19 : Nat) : Int) == 16)
                            (callF Try.prog 19 #[.pointer p1] w1 fun r142 w2 =>
                              ∃ (p142 : Option Addr) (l142 : Nat) (c142 : Nat), r142 = .slice p142 l142 c142 ∧
                              ∃ (p143 : Option Addr) (l143 : Nat) (c143 : Nat) (w3 : World), Ef Try.prog (Instr.buildSlice 44 2 #[(0, .int .i64 3), (1, .int .i64 7)]) w2 (.slice p143 l143 c143) w3 ∧
                              callF Try.prog 23 #[.slice p142 l142 c142, .slice p143 l143 c143] w3 fun r144 w4 =>
                              ∃ (b144 : Bool), r144 = .bool b144 ∧
                              cond b144
                              (Q (.bool (n85 == 5)) w4)
                              (Q (.bool false) w4))
                            (Q (.bool false) w1))
                          (Q (.bool false) w1))
                        (Q (.bool false) w1))
                      (Q (.bool false) w1))
                    (Q (.bool false) w1))
                  (Q (.bool false) w1))
                (Q (.bool false) w1))
              (Q (.bool false) w1))
            (Q (.bool false) w1))
          (Q (.bool false) w1))
        (Q (.bool false) w1))
      (Q (.bool false) w1))
    (Q (.bool false) w1))
  (Q (.bool false) w1)
def law19_alive  (w : World) (Q : Value → World → Prop) : Prop :=
  callF Try.prog 11 #[] w fun r23 w1 =>
  ∃ (p23 : Option Addr), r23 = .pointer p23 ∧
  ∃ (b25 : Bool) (w2 : World), Ef Try.prog (do eqGuard .eql 28 (.tmp 24) (.const (.pointer none)) (.pointer p23) (.pointer none); binOp .eql 28 (.pointer p23) (.pointer none) : Sem Value) w1 (.bool b25) w2 ∧
  cond b25
  (Q (.bool false) w2)
  (∃ (p26 : Option Addr) (l26 : Nat) (c26 : Nat) (w3 : World), Ef Try.prog (Instr.makeSlice 23 (.int .i64 16) (.int .i64 16)) w2 (.slice p26 l26 c26) w3 ∧
    callF Try.prog 21 #[.pointer p23, .int .i64 3, .slice p26 l26 c26] w3 fun r29 w4 =>
    ∃ (n29 : Int), r29 = .int .i64 n29 ∧
    callF Try.prog 21 #[.pointer p23, .int .i64 7, .slice p26 l26 c26] w4 fun r32 w5 =>
    ∃ (n32 : Int), r32 = .int .i64 n32 ∧
    callF Try.prog 21 #[.pointer p23, .int .i64 7, .slice p26 l26 c26] w5 fun r35 w6 =>
    ∃ (n35 : Int), r35 = .int .i64 n35 ∧
    callF Try.prog 21 #[.pointer p23, .int .i64 128, .slice p26 l26 c26] w6 fun r38 w7 =>
    ∃ (n38 : Int), r38 = .int .i64 n38 ∧
    callF Try.prog 21 #[.pointer p23, .int .i64 5, .slice p26 l26 c26] w7 fun r41 w8 =>
    ∃ (n41 : Int), r41 = .int .i64 n41 ∧
    callF Try.prog 20 #[.pointer p23] w8 fun r44 w9 =>
    ∃ (n44 : Int) (b44 : Bool), r44 = .tuple #[.int .i64 n44, .bool b44] ∧
    callF Try.prog 17 #[.pointer p23] w9 fun r48 w10 =>
    ∃ (p48 : Option Addr), r48 = .pointer p48 ∧
    callF Try.prog 22 #[.pointer p23, .int .i64 5] w10 fun r50 w11 =>
    ∃ (n50 : Int), r50 = .int .i64 n50 ∧
    callF Try.prog 22 #[.pointer p23, .int .i64 5] w11 fun r52 w12 =>
    ∃ (n52 : Int), r52 = .int .i64 n52 ∧
    callF Try.prog 20 #[.pointer p23] w12 fun r55 w13 =>
    ∃ (n55 : Int) (b55 : Bool), r55 = .tuple #[.int .i64 n55, .bool b55] ∧
    callF Try.prog 15 #[.pointer p23, .int .i64 3] w13 fun r60 w14 =>
    ∃ (p60 : Option Addr) (b60 : Bool), r60 = .tuple #[.pointer p60, .bool b60] ∧
    callF Try.prog 15 #[.pointer p23, .int .i64 5] w14 fun r65 w15 =>
    ∃ (p65 : Option Addr) (b65 : Bool), r65 = .tuple #[.pointer p65, .bool b65] ∧
    callF Try.prog 14 #[.pointer p23, .int .i64 7] w15 fun r70 w16 =>
    ∃ (p70 : Option Addr) (l70 : Nat) (c70 : Nat) (b70 : Bool), r70 = .tuple #[.slice p70 l70 c70, .bool b70] ∧
    ∃ (b74 : Bool) (w17 : World), Ef Try.prog (do eqGuard .eql 28 (.tmp 73) (.const (.pointer none)) (.pointer p48) (.pointer none); binOp .eql 28 (.pointer p48) (.pointer none) : Sem Value) w16 (.bool b74) w17 ∧
    cond b74
    (Q (.bool false) w17)
    (∃ (b77 : Bool) (w18 : World), Ef Try.prog (do eqGuard .eql 38 (.tmp 76) (.const (.pointer none)) (.pointer p60) (.pointer none); binOp .eql 38 (.pointer p60) (.pointer none) : Sem Value) w17 (.bool b77) w18 ∧
      cond b77
      (Q (.bool false) w18)
      (cond (!b60)
        (Q (.bool false) w18)
        (law19_alive_j1 false p23 n29 n32 n35 n38 n41 n44 b44 p48 n50 n52 n55 b55 b65 p70 l70 c70 b70 w18 Q))))
def law19_alive_tt : Nat → List (Nat × TypeId) := fun _ => []
theorem law19_alive_call  (w : World) (Q : Value → World → Prop) (h : law19_alive  w Q) : callF Try.prog 9 #[] w Q :=
  callF_of (fun _ _ => by kernel_rfl) (callK_of_sw law19_alive_tt Try.func9 rfl (by kernel_rfl) (show sw Try.prog none 150 law19_alive_tt _ 0 (endK Try.prog [.tmp 0] Q) ⟨regs [], []⟩ w from
    Eq.mp (by kernel_rfl : law19_alive  w Q = sw Try.prog none 150 law19_alive_tt (Try.f9.body.getD .skip) 0 (endK Try.prog [.tmp 0] Q) ⟨regs [], []⟩ w) h))

def law19_Great (p0 : Option Addr) (l0 : Nat) (c0 : Nat) (w : World) (Q : Value → World → Prop) : Prop :=
  cond (decide (((l0 : Nat) : Int) > 60))
  (Q (.bool true) w)
  (LoopS [.slice p0 l0 c0, .bool false, .int .i64 0] w fun I1 μ1 us1 _ wl1 =>
    ∃ (p0_1 : Option Addr) (l0_1 : Nat) (c0_1 : Nat) (b2 : Bool) (n3 : Int), us1 = [.slice p0_1 l0_1 c0_1, .bool b2, .int .i64 n3] ∧
    cond (decide (n3 < ((l0_1 : Nat) : Int)))
    (∃ (a15 : Addr), IxA Try.prog 22 (.slice p0_1 l0_1 c0_1) (.int .i64 n3) a15 ∧
      ∃ (p17 : Option Addr) (l17 : Nat) (c17 : Nat), Ld Try.prog 23 (.pointer (some (a15.add 2))) wl1 (.slice p17 l17 c17) ∧
      cond (decide (((l17 : Nat) : Int) > 100))
      (Q (.bool true) wl1)
      (goesOn [] [] I1 μ1 us1 [.slice p0_1 l0_1 c0_1, .bool b2, .int .i64 (IntKind.i64.wrap (n3 + 1))] wl1 wl1))
    (Q (.bool false) wl1))
def law19_Great_tt : Nat → List (Nat × TypeId) := fun n => match n with | 0 => [(0, 22), (2, 4), (3, 3)] | _ => []
theorem law19_Great_call (p0 : Option Addr) (l0 : Nat) (c0 : Nat) (w : World) (Q : Value → World → Prop) (h : law19_Great p0 l0 c0 w Q) : callF Try.prog 10 #[.slice p0 l0 c0] w Q :=
  callF_of (fun _ _ => by kernel_rfl) (callK_of_sw law19_Great_tt Try.func10 rfl (by kernel_rfl) (show sw Try.prog none 20 law19_Great_tt _ 0 (endK Try.prog [.tmp 2] Q) ⟨regs [.slice p0 l0 c0], []⟩ w from
    Eq.mp (by kernel_rfl : law19_Great p0 l0 c0 w Q = sw Try.prog none 20 law19_Great_tt (Try.f10.body.getD .skip) 0 (endK Try.prog [.tmp 2] Q) ⟨regs [.slice p0 l0 c0], []⟩ w) h))

def law19_Do_j1 (b6 : Bool) (p7 : Option Addr) (l7 : Nat) (c7 : Nat) (b8 : Bool) (w : World) (Q : Value → World → Prop) : Prop :=
  LoopS [.bool b6, .slice p7 l7 c7, .bool b8, .int .i64 0] w fun I1 μ1 us1 _ wl1 =>
  ∃ (b6_1 : Bool) (p7_1 : Option Addr) (l7_1 : Nat) (c7_1 : Nat) (b8_1 : Bool) (n9 : Int), us1 = [.bool b6_1, .slice p7_1 l7_1 c7_1, .bool b8_1, .int .i64 n9] ∧
  cond (decide (n9 < ((l7_1 : Nat) : Int)))
  (∃ (a48 : Addr), IxA Try.prog 23 (.slice p7_1 l7_1 c7_1) (.int .i64 n9) a48 ∧
    ∃ (n49 : Int), Ld Try.prog 5 (.pointer (some a48)) wl1 (.int .u8 n49) ∧
    ∃ (a51 : Addr), IxA Try.prog 23 (.slice p7_1 l7_1 c7_1) (.int .i64 n9) a51 ∧
    ∃ (w1 : World), Sto Try.prog 5 (.pointer (some a51)) (.int .u8 (IntKind.u8.wrap (n49 + 1))) wl1 w1 ∧
    goesOn [] [] I1 μ1 us1 [.bool b6_1, .slice p7_1 l7_1 c7_1, .bool b8_1, .int .i64 (IntKind.i64.wrap (n9 + 1))] wl1 w1)
  (Q (.bool b8_1) wl1)
def law19_Do (p0 : Option Addr) (p1 : Option Addr) (n2 : Int) (n2_1 : Int) (p2 : Option Addr) (l2 : Nat) (c2 : Nat) (w : World) (Q : Value → World → Prop) : Prop :=
  New #[.int .i64 n2, .int .i64 n2_1, .slice p2 l2 c2] 25 w fun k5 w1 =>
  ∃ (p11 : Option Addr) (l11 : Nat) (c11 : Nat), Ld Try.prog 23 (.pointer (some ((⟨k5, 0, none⟩ : Addr).add 2))) w1 (.slice p11 l11 c11) ∧
  callF Try.prog 41 #[.slice p11 l11 c11] w1 fun r12 w2 =>
  ∃ (p12 : Option Addr) (l12 : Nat) (c12 : Nat), r12 = .slice p12 l12 c12 ∧
  ∃ (n14 : Int), Ld Try.prog 3 (.pointer (some ((⟨k5, 0, none⟩ : Addr).add 0))) w2 (.int .i64 n14) ∧
  cond (n14 == 0)
  (∃ (S5 : World → Prop),
    Drw w2 fun w3 =>
    ∃ (n19 : Int), HLd Try.prog S5 3 (.pointer (some ((⟨k5, 0, none⟩ : Addr).add 1))) w3 (.int .i64 n19) ∧
    ∃ (n24 : Int), HLd Try.prog S5 3 (.pointer (some ((⟨k5, 0, none⟩ : Addr).add 1))) w3 (.int .i64 n24) ∧
    ∃ (p26 : Option Addr) (l26 : Nat) (c26 : Nat), HLd Try.prog S5 23 (.pointer (some ((⟨k5, 0, none⟩ : Addr).add 2))) w3 (.slice p26 l26 c26) ∧
    callF Try.prog 21 #[.pointer p0, .int .i64 n19, .slice p12 l12 c12] w3 fun r21 w4 =>
    ∃ (n21 : Int), r21 = .int .i64 n21 ∧
    (w4 = w3 ∨ S5 w4) ∧
    callF Try.prog 42 #[.pointer p1, .int .i64 n24, .slice p26 l26 c26] w4 fun r27 w5 =>
    ∃ (n27 : Int), r27 = .int .i64 n27 ∧
    law19_Do_j1 false p12 l12 c12 (n21 == n27) w5 Q)
  (cond (n14 == 1)
    (∃ (S7 : World → Prop),
      Drw w2 fun w6 =>
      ∃ (n33 : Int), HLd Try.prog S7 3 (.pointer (some ((⟨k5, 0, none⟩ : Addr).add 1))) w6 (.int .i64 n33) ∧
      ∃ (n37 : Int), HLd Try.prog S7 3 (.pointer (some ((⟨k5, 0, none⟩ : Addr).add 1))) w6 (.int .i64 n37) ∧
      callF Try.prog 22 #[.pointer p0, .int .i64 n33] w6 fun r34 w7 =>
      ∃ (n34 : Int), r34 = .int .i64 n34 ∧
      (w7 = w6 ∨ S7 w7) ∧
      callF Try.prog 43 #[.pointer p1, .int .i64 n37] w7 fun r38 w8 =>
      ∃ (n38 : Int), r38 = .int .i64 n38 ∧
      law19_Do_j1 false p12 l12 c12 (n34 == n38) w8 Q)
    (law19_Do_j1 false p12 l12 c12 true w2 Q))
def law19_Do_tt : Nat → List (Nat × TypeId) := fun n => match n with | 1 => [(6, 4), (7, 23), (8, 4), (9, 3)] | _ => []
theorem law19_Do_call (p0 : Option Addr) (p1 : Option Addr) (n2 : Int) (n2_1 : Int) (p2 : Option Addr) (l2 : Nat) (c2 : Nat) (w : World) (Q : Value → World → Prop) (h : law19_Do p0 p1 n2 n2_1 p2 l2 c2 w Q) : callF Try.prog 12 #[.pointer p0, .pointer p1, .agg #[.int .i64 n2, .int .i64 n2_1, .slice p2 l2 c2]] w Q :=
  callF_of (fun _ _ => by kernel_rfl) (callK_of_sw law19_Do_tt Try.func12 rfl (by kernel_rfl) (show sw Try.prog none 53 law19_Do_tt _ 0 (endK Try.prog [.tmp 6] Q) ⟨regs [.pointer p0, .pointer p1, .agg #[.int .i64 n2, .int .i64 n2_1, .slice p2 l2 c2]], []⟩ w from
    Eq.mp (by kernel_rfl : law19_Do p0 p1 n2 n2_1 p2 l2 c2 w Q = sw Try.prog none 53 law19_Do_tt (Try.f12.body.getD .skip) 0 (endK Try.prog [.tmp 6] Q) ⟨regs [.pointer p0, .pointer p1, .agg #[.int .i64 n2, .int .i64 n2_1, .slice p2 l2 c2]], []⟩ w) h))

def law19_Agree_j1 (p0 : Option Addr) (b4 : Bool) (p5 : Option Addr) (l5 : Nat) (c5 : Nat) (w : World) (Q : Value → World → Prop) : Prop :=
  callF Try.prog 19 #[.pointer p0] w fun r95 w1 =>
  ∃ (p95 : Option Addr) (l95 : Nat) (c95 : Nat), r95 = .slice p95 l95 c95 ∧
  callF Try.prog 23 #[.slice p95 l95 c95, .slice p5 l5 c5] w1 fun r97 w2 =>
  ∃ (b97 : Bool), r97 = .bool b97 ∧
  Q (.bool b97) w2
def law19_Agree_j2 (p0 : Option Addr) (b4 : Bool) (p5 : Option Addr) (l5 : Nat) (c5 : Nat) (w : World) (Q : Value → World → Prop) : Prop :=
  callF Try.prog 20 #[.pointer p0] w fun r62 w1 =>
  ∃ (n62 : Int) (b62 : Bool), r62 = .tuple #[.int .i64 n62, .bool b62] ∧
  cond (((l5 : Nat) : Int) == 0)
  (cond b62
    (Q (.bool false) w1)
    (cond (n62 != 0)
      (Q (.bool false) w1)
      (cond (decide (((l5 : Nat) : Int) > 0))
        (cond (!b62)
          (Q (.bool false) w1)
          (∃ (a88 : Addr), IxA Try.prog 44 (.slice p5 l5 c5) (.int .i64 (IntKind.i64.wrap (((l5 : Nat) : Int) - 1))) a88 ∧
            ∃ (n89 : Int), Ld Try.prog 3 (.pointer (some a88)) w1 (.int .i64 n89) ∧
            cond (n62 != n89)
            (Q (.bool false) w1)
            (law19_Agree_j1 p0 b4 p5 l5 c5 w1 Q)))
        (law19_Agree_j1 p0 b4 p5 l5 c5 w1 Q))))
  (cond (decide (((l5 : Nat) : Int) > 0))
    (cond (!b62)
      (Q (.bool false) w1)
      (∃ (a88_1 : Addr), IxA Try.prog 44 (.slice p5 l5 c5) (.int .i64 (IntKind.i64.wrap (((l5 : Nat) : Int) - 1))) a88_1 ∧
        ∃ (n89_1 : Int), Ld Try.prog 3 (.pointer (some a88_1)) w1 (.int .i64 n89_1) ∧
        cond (n62 != n89_1)
        (Q (.bool false) w1)
        (law19_Agree_j1 p0 b4 p5 l5 c5 w1 Q)))
    (law19_Agree_j1 p0 b4 p5 l5 c5 w1 Q))
def law19_Agree (p0 : Option Addr) (p1 : Option Addr) (w : World) (Q : Value → World → Prop) : Prop :=
  ∃ (p11 : Option Addr) (l11 : Nat) (c11 : Nat) (w1 : World), Ef Try.prog (Instr.buildSlice 44 0 #[]) w (.slice p11 l11 c11) w1 ∧
  LoopS [.pointer p0, .pointer p1, .bool false, .slice p11 l11 c11, .int .i64 0] w1 fun I1 μ1 us1 _ wl1 =>
  ∃ (p0_1 : Option Addr) (p1_1 : Option Addr) (b4 : Bool) (p5 : Option Addr) (l5 : Nat) (c5 : Nat) (n6 : Int), us1 = [.pointer p0_1, .pointer p1_1, .bool b4, .slice p5 l5 c5, .int .i64 n6] ∧
  ∃ (a14 : Addr), p1_1 = some a14 ∧
  ∃ (p16 : Option Addr) (l16 : Nat) (c16 : Nat), Ld Try.prog 31 (.pointer (some (a14.add 0))) wl1 (.slice p16 l16 c16) ∧
  cond (decide (n6 < ((l16 : Nat) : Int)))
  (∃ (a23 : Addr), p1_1 = some a23 ∧
    ∃ (p25 : Option Addr) (l25 : Nat) (c25 : Nat), Ld Try.prog 31 (.pointer (some (a23.add 0))) wl1 (.slice p25 l25 c25) ∧
    ∃ (a27 : Addr), IxA Try.prog 31 (.slice p25 l25 c25) (.int .i64 n6) a27 ∧
    ∃ (n29 : Int), Ld Try.prog 3 (.pointer (some (a27.add 0))) wl1 (.int .i64 n29) ∧
    ∃ (p30 : Option Addr) (l30 : Nat) (c30 : Nat) (w2 : World), Ef Try.prog (Instr.buildSlice 44 1 #[(0, .int .i64 n29)]) wl1 (.slice p30 l30 c30) w2 ∧
    ∃ (p31 : Option Addr) (l31 : Nat) (c31 : Nat) (w3 : World), Ef Try.prog (Builtin.append_ #[44, 44] 44 #[.slice p5 l5 c5, .slice p30 l30 c30]) w2 (.slice p31 l31 c31) w3 ∧
    ∃ (a35 : Addr), p1_1 = some a35 ∧
    ∃ (p37 : Option Addr) (l37 : Nat) (c37 : Nat), Ld Try.prog 31 (.pointer (some (a35.add 0))) w3 (.slice p37 l37 c37) ∧
    ∃ (a39 : Addr), IxA Try.prog 31 (.slice p37 l37 c37) (.int .i64 n6) a39 ∧
    ∃ (n41 : Int), Ld Try.prog 3 (.pointer (some (a39.add 0))) w3 (.int .i64 n41) ∧
    callF Try.prog 14 #[.pointer p0_1, .int .i64 n41] w3 fun r42 w4 =>
    ∃ (p42 : Option Addr) (l42 : Nat) (c42 : Nat) (b42 : Bool), r42 = .tuple #[.slice p42 l42 c42, .bool b42] ∧
    cond (!b42)
    (Q (.bool false) w4)
    (∃ (a50 : Addr), p1_1 = some a50 ∧
      ∃ (p52 : Option Addr) (l52 : Nat) (c52 : Nat), Ld Try.prog 31 (.pointer (some (a50.add 0))) w4 (.slice p52 l52 c52) ∧
      ∃ (a54 : Addr), IxA Try.prog 31 (.slice p52 l52 c52) (.int .i64 n6) a54 ∧
      ∃ (p56 : Option Addr) (l56 : Nat) (c56 : Nat), Ld Try.prog 23 (.pointer (some (a54.add 1))) w4 (.slice p56 l56 c56) ∧
      callF Try.prog 29 #[.slice p42 l42 c42, .slice p56 l56 c56] w4 fun r57 w5 =>
      ∃ (b57 : Bool), r57 = .bool b57 ∧
      cond (!b57)
      (Q (.bool false) w5)
      (goesOn [] [] I1 μ1 us1 [.pointer p0_1, .pointer p1_1, .bool b4, .slice p31 l31 c31, .int .i64 (IntKind.i64.wrap (n6 + 1))] wl1 w5)))
  (law19_Agree_j2 p0_1 b4 p5 l5 c5 wl1 Q)
def law19_Agree_tt : Nat → List (Nat × TypeId) := fun n => match n with | 0 => [(0, 28), (1, 30), (4, 4), (5, 44), (6, 3)] | _ => []
theorem law19_Agree_call (p0 : Option Addr) (p1 : Option Addr) (w : World) (Q : Value → World → Prop) (h : law19_Agree p0 p1 w Q) : callF Try.prog 13 #[.pointer p0, .pointer p1] w Q :=
  callF_of (fun _ _ => by kernel_rfl) (callK_of_sw law19_Agree_tt Try.func13 rfl (by kernel_rfl) (show sw Try.prog none 98 law19_Agree_tt _ 0 (endK Try.prog [.tmp 4] Q) ⟨regs [.pointer p0, .pointer p1], []⟩ w from
    Eq.mp (by kernel_rfl : law19_Agree p0 p1 w Q = sw Try.prog none 98 law19_Agree_tt (Try.f13.body.getD .skip) 0 (endK Try.prog [.tmp 4] Q) ⟨regs [.pointer p0, .pointer p1], []⟩ w) h))
end Go.Sh
end
