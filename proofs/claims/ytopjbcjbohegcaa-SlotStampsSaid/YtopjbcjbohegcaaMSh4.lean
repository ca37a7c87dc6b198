/- A part of a proof of a given law of this program: lemmas, printed forms of its functions, contracts. It has no conditions of its own. -/
import Derived.Test.YtopjbcjbohegcaaProg
import Derived.Test.YtopjbcjbohegcaaMFw

section
namespace Go.Sh
open Go Go.Fw Go.Proofs
set_option maxRecDepth 100000
set_option linter.unusedVariables false

def mode_Config_Size (cs0 : Array Value) (w : World) (Q : Value → World → Prop) : Prop :=
  New cs0 67 w fun k1 w1 =>
  ∃ (cs3 : Array Value), Ld Try.prog 67 (.pointer (some (⟨k1, 0, none⟩ : Addr))) w1 (.agg cs3) ∧
  callF Try.prog 64 #[.agg cs3] w1 fun r4 w2 =>
  ∃ (b4 : Bool), r4 = .bool b4 ∧
  cond (!b4)
  (Q (.int .i64 0) w2)
  (∃ (cs6 : Array Value), Ld Try.prog 67 (.pointer (some (⟨k1, 0, none⟩ : Addr))) w2 (.agg cs6) ∧
    callF Try.prog 67 #[.agg cs6] w2 fun r7 w3 =>
    ∃ (n7 : Int), r7 = .int .i64 n7 ∧
    Q (.int .i64 (IntKind.i64.wrap (1 + n7))) w3)
def mode_Config_Size_tt : Nat → List (Nat × TypeId) := fun _ => []
theorem mode_Config_Size_call (cs0 : Array Value) (w : World) (Q : Value → World → Prop) (h : mode_Config_Size cs0 w Q) : callF Try.prog 39 #[.agg cs0] w Q :=
  callF_of (fun _ _ => by kernel_rfl) (callK_of_sw mode_Config_Size_tt Try.func39 rfl (by kernel_rfl) (show sw Try.prog none 9 mode_Config_Size_tt _ 0 (endK Try.prog [.tmp 2] Q) ⟨regs [.agg cs0], []⟩ w from
    Eq.mp (by kernel_rfl : mode_Config_Size cs0 w Q = sw Try.prog none 9 mode_Config_Size_tt (Try.f39.body.getD .skip) 0 (endK Try.prog [.tmp 2] Q) ⟨regs [.agg cs0], []⟩ w) h))

def mode_Config_Right_j1 (a1 : Addr) (b2 : Bool) (w : World) (Q : Value → World → Prop) : Prop :=
  ∃ (n25 : Int), Ld Try.prog 3 (.pointer (some (a1.add 0))) w (.int .i64 n25) ∧
  cond (n25 == 0)
  (∃ (cs29 : Array Value), Ld Try.prog 65 (.pointer (some (a1.add 3))) w (.agg cs29) ∧
    ∃ (b31 : Bool) (w1 : World), Ef Try.prog (do eqGuard .eql 65 (.tmp 29) (.tmp 30) (.agg cs29) (.agg #[.int .u8 0, .int .u8 0, .int .u8 0, .int .u8 0, .int .u8 0, .int .u8 0, .int .u8 0, .int .u8 0, .int .u8 0, .int .u8 0, .int .u8 0, .int .u8 0, .int .u8 0, .int .u8 0, .int .u8 0, .int .u8 0]); binOp .eql 65 (.agg cs29) (.agg #[.int .u8 0, .int .u8 0, .int .u8 0, .int .u8 0, .int .u8 0, .int .u8 0, .int .u8 0, .int .u8 0, .int .u8 0, .int .u8 0, .int .u8 0, .int .u8 0, .int .u8 0, .int .u8 0, .int .u8 0, .int .u8 0]) : Sem Value) w (.bool b31) w1 ∧
    Q (.bool b31) w1)
  (cond (n25 == 1)
    (∃ (cs34 : Array Value), Ld Try.prog 67 (.pointer (some a1)) w (.agg cs34) ∧
      callF Try.prog 67 #[.agg cs34] w fun r35 w2 =>
      ∃ (n35 : Int), r35 = .int .i64 n35 ∧
      Q (.bool (n35 == 16)) w2)
    (Q (.bool true) w))
def mode_Config_Right (cs0 : Array Value) (w : World) (Q : Value → World → Prop) : Prop :=
  New cs0 67 w fun k1 w1 =>
  ∃ (n4 : Int), Ld Try.prog 3 (.pointer (some ((⟨k1, 0, none⟩ : Addr).add 0))) w1 (.int .i64 n4) ∧
  callF Try.prog 94 #[.int .i64 n4, .int .i64 0, .int .i64 2] w1 fun r5 w2 =>
  ∃ (b5 : Bool), r5 = .bool b5 ∧
  cond (!b5)
  (Q (.bool false) w2)
  (∃ (n9 : Int), Ld Try.prog 3 (.pointer (some ((⟨k1, 0, none⟩ : Addr).add 1))) w2 (.int .i64 n9) ∧
    callF Try.prog 94 #[.int .i64 n9, .int .i64 1, .int .i64 15] w2 fun r10 w3 =>
    ∃ (b10 : Bool), r10 = .bool b10 ∧
    cond (!b10)
    (Q (.bool false) w3)
    (∃ (n15 : Int), Ld Try.prog 3 (.pointer (some ((⟨k1, 0, none⟩ : Addr).add 2))) w3 (.int .i64 n15) ∧
      callF Try.prog 94 #[.int .i64 n15, .int .i64 4, .int .i64 18] w3 fun r16 w4 =>
      ∃ (b16 : Bool), r16 = .bool b16 ∧
      cond (!b16)
      (Q (.bool false) w4)
      (∃ (cs20 : Array Value), Ld Try.prog 67 (.pointer (some (⟨k1, 0, none⟩ : Addr))) w4 (.agg cs20) ∧
        callF Try.prog 67 #[.agg cs20] w4 fun r21 w5 =>
        ∃ (n21 : Int), r21 = .int .i64 n21 ∧
        cond (decide (n21 > 19))
        (Q (.bool false) w5)
        (mode_Config_Right_j1 (⟨k1, 0, none⟩ : Addr) false w5 Q))))
def mode_Config_Right_tt : Nat → List (Nat × TypeId) := fun _ => []
theorem mode_Config_Right_call (cs0 : Array Value) (w : World) (Q : Value → World → Prop) (h : mode_Config_Right cs0 w Q) : callF Try.prog 64 #[.agg cs0] w Q :=
  callF_of (fun _ _ => by kernel_rfl) (callK_of_sw mode_Config_Right_tt Try.func64 rfl (by kernel_rfl) (show sw Try.prog none 37 mode_Config_Right_tt _ 0 (endK Try.prog [.tmp 2] Q) ⟨regs [.agg cs0], []⟩ w from
    Eq.mp (by kernel_rfl : mode_Config_Right cs0 w Q = sw Try.prog none 37 mode_Config_Right_tt (Try.f64.body.getD .skip) 0 (endK Try.prog [.tmp 2] Q) ⟨regs [.agg cs0], []⟩ w) h))

def mode_Config_both (cs0 : Array Value) (w : World) (Q : Value → World → Prop) : Prop :=
  New cs0 67 w fun k1 w1 =>
  ∃ (n4 : Int), Ld Try.prog 3 (.pointer (some ((⟨k1, 0, none⟩ : Addr).add 1))) w1 (.int .i64 n4) ∧
  ∃ (n6 : Int), Ld Try.prog 3 (.pointer (some ((⟨k1, 0, none⟩ : Addr).add 2))) w1 (.int .i64 n6) ∧
  Q (.int .i64 (IntKind.i64.wrap (n4 + n6))) w1
def mode_Config_both_tt : Nat → List (Nat × TypeId) := fun _ => []
theorem mode_Config_both_call (cs0 : Array Value) (w : World) (Q : Value → World → Prop) (h : mode_Config_both cs0 w Q) : callF Try.prog 67 #[.agg cs0] w Q :=
  callF_of (fun _ _ => by kernel_rfl) (callK_of_sw mode_Config_both_tt Try.func67 rfl (by kernel_rfl) (show sw Try.prog none 8 mode_Config_both_tt _ 0 (endK Try.prog [.tmp 2] Q) ⟨regs [.agg cs0], []⟩ w from
    Eq.mp (by kernel_rfl : mode_Config_both cs0 w Q = sw Try.prog none 8 mode_Config_both_tt (Try.f67.body.getD .skip) 0 (endK Try.prog [.tmp 2] Q) ⟨regs [.agg cs0], []⟩ w) h))

def mode_within (n0 : Int) (n1 : Int) (n2 : Int) (w : World) (Q : Value → World → Prop) : Prop :=
  cond (decide (n0 ≥ n1))
  (Q (.bool (decide (n0 ≤ n2))) w)
  (Q (.bool false) w)
def mode_within_tt : Nat → List (Nat × TypeId) := fun _ => []
theorem mode_within_call (n0 : Int) (n1 : Int) (n2 : Int) (w : World) (Q : Value → World → Prop) (h : mode_within n0 n1 n2 w Q) : callF Try.prog 94 #[.int .i64 n0, .int .i64 n1, .int .i64 n2] w Q :=
  callF_of (fun _ _ => by kernel_rfl) (callK_of_sw mode_within_tt Try.func94 rfl (by kernel_rfl) (show sw Try.prog none 15 mode_within_tt _ 0 (endK Try.prog [.tmp 6] Q) ⟨regs [.int .i64 n0, .int .i64 n1, .int .i64 n2], []⟩ w from
    Eq.mp (by kernel_rfl : mode_within n0 n1 n2 w Q = sw Try.prog none 15 mode_within_tt (Try.f94.body.getD .skip) 0 (endK Try.prog [.tmp 6] Q) ⟨regs [.int .i64 n0, .int .i64 n1, .int .i64 n2], []⟩ w) h))

def mode_Config_Back (cs0 : Array Value) (p1 : Option Addr) (l1 : Nat) (c1 : Nat) (w : World) (Q : Value → World → Prop) : Prop :=
  New cs0 67 w fun k2 w1 =>
  ∃ (cs6 : Array Value), Ld Try.prog 67 (.pointer (some (⟨k2, 0, none⟩ : Addr))) w1 (.agg cs6) ∧
  callF Try.prog 109 #[.agg cs6, .agg #[.func (.func 110) #[] #[], .func (.func 111) #[] #[]], .slice p1 l1 c1] w1 fun r9 w2 =>
  ∃ (p9 : Option Addr) (l9 : Nat) (c9 : Nat) (n9 : Int), r9 = .tuple #[.slice p9 l9 c9, .int .i64 n9] ∧
  Q (.tuple #[.slice p9 l9 c9, .int .i64 n9]) w2
def mode_Config_Back_tt : Nat → List (Nat × TypeId) := fun _ => []
theorem mode_Config_Back_call (cs0 : Array Value) (p1 : Option Addr) (l1 : Nat) (c1 : Nat) (w : World) (Q : Value → World → Prop) (h : mode_Config_Back cs0 p1 l1 c1 w Q) : callF Try.prog 96 #[.agg cs0, .slice p1 l1 c1] w Q :=
  callF_of (fun _ _ => by kernel_rfl) (callK_of_sw mode_Config_Back_tt Try.func96 rfl (by kernel_rfl) (show sw Try.prog none 12 mode_Config_Back_tt _ 0 (endK Try.prog [.tmp 4, .tmp 5] Q) ⟨regs [.agg cs0, .slice p1 l1 c1], []⟩ w from
    Eq.mp (by kernel_rfl : mode_Config_Back cs0 p1 l1 c1 w Q = sw Try.prog none 12 mode_Config_Back_tt (Try.f96.body.getD .skip) 0 (endK Try.prog [.tmp 4, .tmp 5] Q) ⟨regs [.agg cs0, .slice p1 l1 c1], []⟩ w) h))

def mode_Config_by_j1 (p2 : Option Addr) (l2 : Nat) (c2 : Nat) (a3 : Addr) (a4 : Addr) (p6 : Option Addr) (l6 : Nat) (c6 : Nat) (n7 : Int) (w : World) (Q : Value → World → Prop) : Prop :=
  ∃ (p29 : Option Addr) (l29 : Nat) (c29 : Nat), Pu Try.prog (Instr.sliceAt 65 (.pointer (some (a3.add 3))) none none none) (.slice p29 l29 c29) ∧
  callF Try.prog 49 #[.slice p29 l29 c29] w fun r30 w1 =>
  ∃ (p30 : Option Addr) (n30 : Int), r30 = .tuple #[.pointer p30, .int .i64 n30] ∧
  ∃ (n34 : Int), Ld Try.prog 3 (.pointer (some (a3.add 0))) w1 (.int .i64 n34) ∧
  cond (n34 == 1)
  (∃ (v37 : Value), Ld Try.prog 203 (.pointer (some (a4.add 0))) w1 (v37) ∧
    callV Try.prog (v37) [.pointer p30, .slice p2 l2 c2] w1 fun r40 w2 =>
    ∃ (p40 : Option Addr) (l40 : Nat) (c40 : Nat) (n40 : Int), r40 = .tuple #[.slice p40 l40 c40, .int .i64 n40] ∧
    Q (.tuple #[.slice p40 l40 c40, .int .i64 n40]) w2)
  (∃ (v44 : Value), Ld Try.prog 203 (.pointer (some (a4.add 1))) w1 (v44) ∧
    callV Try.prog (v44) [.pointer p30, .slice p2 l2 c2] w1 fun r47 w3 =>
    ∃ (p47 : Option Addr) (l47 : Nat) (c47 : Nat) (n47 : Int), r47 = .tuple #[.slice p47 l47 c47, .int .i64 n47] ∧
    Q (.tuple #[.slice p47 l47 c47, .int .i64 n47]) w3)
def mode_Config_by (cs0 : Array Value) (v1 : Value) (v1_1 : Value) (p2 : Option Addr) (l2 : Nat) (c2 : Nat) (w : World) (Q : Value → World → Prop) : Prop :=
  New cs0 67 w fun k3 w1 =>
  New #[v1, v1_1] 205 w1 fun k4 w2 =>
  ∃ (cs11 : Array Value), Ld Try.prog 67 (.pointer (some (⟨k3, 0, none⟩ : Addr))) w2 (.agg cs11) ∧
  callF Try.prog 64 #[.agg cs11] w2 fun r12 w3 =>
  ∃ (b12 : Bool), r12 = .bool b12 ∧
  cond (!b12)
  (Q (.tuple #[.slice none 0 0, .int .i64 19]) w3)
  (∃ (cs17 : Array Value), Ld Try.prog 67 (.pointer (some (⟨k3, 0, none⟩ : Addr))) w3 (.agg cs17) ∧
    callF Try.prog 67 #[.agg cs17] w3 fun r18 w4 =>
    ∃ (n18 : Int), r18 = .int .i64 n18 ∧
    cond (((l2 : Nat) : Int) != n18)
    (Q (.tuple #[.slice none 0 0, .int .i64 11]) w4)
    (∃ (n22 : Int), Ld Try.prog 3 (.pointer (some ((⟨k3, 0, none⟩ : Addr).add 0))) w4 (.int .i64 n22) ∧
      cond (n22 == 0)
      (∃ (p25 : Option Addr) (l25 : Nat) (c25 : Nat) (w5 : World), Ef Try.prog (Instr.buildSlice 91 1 #[(0, .slice p2 l2 c2)]) w4 (.slice p25 l25 c25) w5 ∧
        callF Try.prog 54 #[.slice p25 l25 c25] w5 fun r26 w6 =>
        ∃ (p26 : Option Addr) (l26 : Nat) (c26 : Nat), r26 = .slice p26 l26 c26 ∧
        Q (.tuple #[.slice p26 l26 c26, .int .i64 0]) w6)
      (mode_Config_by_j1 p2 l2 c2 (⟨k3, 0, none⟩ : Addr) (⟨k4, 0, none⟩ : Addr) none 0 0 0 w4 Q)))
def mode_Config_by_tt : Nat → List (Nat × TypeId) := fun _ => []
theorem mode_Config_by_call (cs0 : Array Value) (v1 : Value) (v1_1 : Value) (p2 : Option Addr) (l2 : Nat) (c2 : Nat) (w : World) (Q : Value → World → Prop) (h : mode_Config_by cs0 v1 v1_1 p2 l2 c2 w Q) : callF Try.prog 109 #[.agg cs0, .agg #[v1, v1_1], .slice p2 l2 c2] w Q :=
  callF_of (fun _ _ => by kernel_rfl) (callK_of_sw mode_Config_by_tt Try.func109 rfl (by kernel_rfl) (show sw Try.prog none 50 mode_Config_by_tt _ 0 (endK Try.prog [.tmp 6, .tmp 7] Q) ⟨regs [.agg cs0, .agg #[v1, v1_1], .slice p2 l2 c2], []⟩ w from
    Eq.mp (by kernel_rfl : mode_Config_by cs0 v1 v1_1 p2 l2 c2 w Q = sw Try.prog none 50 mode_Config_by_tt (Try.f109.body.getD .skip) 0 (endK Try.prog [.tmp 6, .tmp 7] Q) ⟨regs [.agg cs0, .agg #[v1, v1_1], .slice p2 l2 c2], []⟩ w) h))
end Go.Sh
end
