/- A part of a proof of a given law of this program: lemmas, printed forms of its functions, contracts. It has no conditions of its own. -/
import Derived.Test.YtopjbcjbohegcaaGreatProg
import Derived.Test.YtopjbcjbohegcaaGreatMFw
import Derived.Test.YtopjbcjbohegcaaGreatMFw3

section
namespace Go.Sh
open Go Go.Fw Go.Proofs
set_option maxRecDepth 100000
set_option linter.unusedVariables false

def slot_New  (w : World) (Q : Value → World → Prop) : Prop :=
  New #[.int .i64 0, .int .i64 0, .int .i64 0, .int .u8 0, .int .u8 0, .int .u8 0, .int .u8 0, .int .u8 0, .int .u8 0, .int .u8 0, .int .u8 0, .int .u8 0, .int .u8 0, .int .u8 0, .int .u8 0, .int .u8 0, .int .u8 0, .int .u8 0, .int .u8 0, .int .i64 0, .int .i64 0, .int .i64 0, .int .i64 0, .int .u8 0, .int .u8 0, .int .u8 0, .int .u8 0, .int .u8 0, .int .u8 0, .int .u8 0, .int .u8 0, .int .u8 0, .int .u8 0, .int .u8 0, .int .u8 0, .int .u8 0, .int .u8 0, .int .u8 0, .int .u8 0, .int .i64 0, .int .i64 0, .int .i64 0, .int .i64 0, .int .u8 0, .int .u8 0, .int .u8 0, .int .u8 0, .int .u8 0, .int .u8 0, .int .u8 0, .int .u8 0, .int .u8 0, .int .u8 0, .int .u8 0, .int .u8 0, .int .u8 0, .int .u8 0, .int .u8 0, .int .u8 0, .int .i64 0, .int .i64 0] 117 w fun k2 w1 =>
  Q (.pointer (some (⟨k2, 0, none⟩ : Addr))) w1
def slot_New_tt : Nat → List (Nat × TypeId) := fun _ => []
theorem slot_New_call  (w : World) (Q : Value → World → Prop) (h : slot_New  w Q) : callF Tryz.prog 23 #[] w Q :=
  callF_of (fun _ _ => by kernel_rfl) (callK_of_sw slot_New_tt Tryz.func23 rfl (by kernel_rfl) (show sw Tryz.prog none 3 slot_New_tt _ 0 (endK Tryz.prog [.tmp 0] Q) ⟨regs [], []⟩ w from
    Eq.mp (by kernel_rfl : slot_New  w Q = sw Tryz.prog none 3 slot_New_tt (Tryz.f23.body.getD .skip) 0 (endK Tryz.prog [.tmp 0] Q) ⟨regs [], []⟩ w) h))

def slot_Slots_Clone (p0 : Option Addr) (w : World) (Q : Value → World → Prop) : Prop :=
  ∃ (a5 : Addr), p0 = some a5 ∧
  ∃ (cs6 : Array Value), Ld Tryz.prog 117 (.pointer (some a5)) w (.agg cs6) ∧
  ∃ (z3 : Value), Pu Tryz.prog (zeroValue 117) z3 ∧
  New z3.cells 117 w fun k3 w1 =>
  ∃ (w2 : World), Sto Tryz.prog 117 (.pointer (some (⟨k3, 0, none⟩ : Addr))) (.agg cs6) w1 w2 ∧
  Q (.pointer (some (⟨k3, 0, none⟩ : Addr))) w2
def slot_Slots_Clone_tt : Nat → List (Nat × TypeId) := fun _ => []
theorem slot_Slots_Clone_call (p0 : Option Addr) (w : World) (Q : Value → World → Prop) (h : slot_Slots_Clone p0 w Q) : callF Tryz.prog 26 #[.pointer p0] w Q :=
  callF_of (fun _ _ => by kernel_rfl) (callK_of_sw slot_Slots_Clone_tt Tryz.func26 rfl (by kernel_rfl) (show sw Tryz.prog none 7 slot_Slots_Clone_tt _ 0 (endK Tryz.prog [.tmp 2] Q) ⟨regs [.pointer p0], []⟩ w from
    Eq.mp (by kernel_rfl : slot_Slots_Clone p0 w Q = sw Tryz.prog none 7 slot_Slots_Clone_tt (Tryz.f26.body.getD .skip) 0 (endK Tryz.prog [.tmp 2] Q) ⟨regs [.pointer p0], []⟩ w) h))

def slot_Slots_Show (p0 : Option Addr) (p1 : Option Addr) (l1 : Nat) (c1 : Nat) (w : World) (Q : Value → World → Prop) : Prop :=
  ∃ (z4 : Value), Pu Tryz.prog (zeroValue 56) z4 ∧
  New z4.cells 56 w fun k4 w1 =>
  cond (((l1 : Nat) : Int) == 0)
  (∃ (w2 : World), Sto Tryz.prog 56 (.pointer (some (⟨k4, 0, none⟩ : Addr))) (.agg #[.int .i64 0, .slice none 0 0, .slice none 0 0]) w1 w2 ∧
    ∃ (a4 : Addr) (v4 : Value), (.pointer (some (⟨k4, 0, none⟩ : Addr)) : Value) = .pointer (some a4) ∧ (loadVar 56 a4).run Tryz.prog w2 = .ok v4 w2 ∧
    Q (.tuple #[v4, .int .i64 12]) w2)
  (∃ (a15 : Addr), IxA Tryz.prog 22 (.slice p1 l1 c1) (.int .i64 0) a15 ∧
    ∃ (n16 : Int), Ld Tryz.prog 5 (.pointer (some a15)) w1 (.int .u8 n16) ∧
    callF Tryz.prog 67 #[.int .u8 n16] w1 fun r17 w3 =>
    ∃ (n17 : Int), r17 = .int .i64 n17 ∧
    callF Tryz.prog 32 #[.pointer p0, .int .i64 n17] w3 fun r18 w4 =>
    ∃ (cs18 : Array Value) (b18 : Bool), r18 = .tuple #[.agg cs18, .bool b18] ∧
    ∃ (z6 : Value), Pu Tryz.prog (zeroValue 50) z6 ∧
    New z6.cells 50 w4 fun k6 w5 =>
    ∃ (w6 : World), Sto Tryz.prog 50 (.pointer (some (⟨k6, 0, none⟩ : Addr))) (.agg cs18) w5 w6 ∧
    cond (!b18)
    (∃ (w7 : World), Sto Tryz.prog 56 (.pointer (some (⟨k4, 0, none⟩ : Addr))) (.agg #[.int .i64 0, .slice none 0 0, .slice none 0 0]) w6 w7 ∧
      ∃ (a4_1 : Addr) (v4_1 : Value), (.pointer (some (⟨k4, 0, none⟩ : Addr)) : Value) = .pointer (some a4_1) ∧ (loadVar 56 a4_1).run Tryz.prog w7 = .ok v4_1 w7 ∧
      Q (.tuple #[v4_1, .int .i64 17]) w7)
    (∃ (cs24 : Array Value), Ld Tryz.prog 50 (.pointer (some (⟨k6, 0, none⟩ : Addr))) w6 (.agg cs24) ∧
      callF Tryz.prog 68 #[.agg cs24, .slice p1 l1 c1] w6 fun r26 w8 =>
      ∃ (n26 : Int) (p26 : Option Addr) (l26 : Nat) (c26 : Nat) (p26_1 : Option Addr) (l26_1 : Nat) (c26_1 : Nat) (n26_1 : Int), r26 = .tuple #[.agg #[.int .i64 n26, .slice p26 l26 c26, .slice p26_1 l26_1 c26_1], .int .i64 n26_1] ∧
      ∃ (w9 : World), Sto Tryz.prog 56 (.pointer (some (⟨k4, 0, none⟩ : Addr))) (.agg #[.int .i64 n26, .slice p26 l26 c26, .slice p26_1 l26_1 c26_1]) w8 w9 ∧
      ∃ (a4_2 : Addr) (v4_2 : Value), (.pointer (some (⟨k4, 0, none⟩ : Addr)) : Value) = .pointer (some a4_2) ∧ (loadVar 56 a4_2).run Tryz.prog w9 = .ok v4_2 w9 ∧
      Q (.tuple #[v4_2, .int .i64 n26_1]) w9))
def slot_Slots_Show_tt : Nat → List (Nat × TypeId) := fun _ => []
theorem slot_Slots_Show_call (p0 : Option Addr) (p1 : Option Addr) (l1 : Nat) (c1 : Nat) (w : World) (Q : Value → World → Prop) (h : slot_Slots_Show p0 p1 l1 c1 w Q) : callF Tryz.prog 27 #[.pointer p0, .slice p1 l1 c1] w Q :=
  callF_of (fun _ _ => by kernel_rfl) (callK_of_sw slot_Slots_Show_tt Tryz.func27 rfl (by kernel_rfl) (show sw Tryz.prog none 29 slot_Slots_Show_tt _ 0 (endK Tryz.prog [.cell 4 56, .tmp 5] Q) ⟨regs [.pointer p0, .slice p1 l1 c1], []⟩ w from
    Eq.mp (by kernel_rfl : slot_Slots_Show p0 p1 l1 c1 w Q = sw Tryz.prog none 29 slot_Slots_Show_tt (Tryz.f27.body.getD .skip) 0 (endK Tryz.prog [.cell 4 56, .tmp 5] Q) ⟨regs [.pointer p0, .slice p1 l1 c1], []⟩ w) h))

def slot_Slots_Short_j1 (a4 : Addr) (n5 : Int) (p6 : Option Addr) (l6 : Nat) (c6 : Nat) (a7 : Addr) (w : World) (Q : Value → World → Prop) : Prop :=
  ∃ (S9 : World → Prop),
  Drw w fun w1 =>
  ∃ (cs35 : Array Value), HLd Tryz.prog S9 50 (.pointer (some a7)) w1 (.agg cs35) ∧
  ∃ (cs37 : Array Value), Ld Tryz.prog 50 (.pointer (some a7)) w1 (.agg cs37) ∧
  (w1 = w1 ∨ S9 w1) ∧
  callF Tryz.prog 71 #[.agg cs37] w1 fun r38 w2 =>
  ∃ (n38 : Int), r38 = .int .i64 n38 ∧
  (w2 = w1 ∨ S9 w2) ∧
  ∃ (p39 : Option Addr) (l39 : Nat) (c39 : Nat), Pu Tryz.prog (Instr.sliceAt 22 (.slice p6 l6 c6) none (some (.int .i64 n38)) none) (.slice p39 l39 c39) ∧
  callF Tryz.prog 68 #[.agg cs35, .slice p39 l39 c39] w2 fun r40 w3 =>
  ∃ (n40 : Int) (p40 : Option Addr) (l40 : Nat) (c40 : Nat) (p40_1 : Option Addr) (l40_1 : Nat) (c40_1 : Nat) (n40_1 : Int), r40 = .tuple #[.agg #[.int .i64 n40, .slice p40 l40 c40, .slice p40_1 l40_1 c40_1], .int .i64 n40_1] ∧
  ∃ (w4 : World), Sto Tryz.prog 56 (.pointer (some a4)) (.agg #[.int .i64 n40, .slice p40 l40 c40, .slice p40_1 l40_1 c40_1]) w3 w4 ∧
  ∃ (a4_1 : Addr) (v4 : Value), (.pointer (some a4) : Value) = .pointer (some a4_1) ∧ (loadVar 56 a4_1).run Tryz.prog w4 = .ok v4 w4 ∧
  Q (.tuple #[v4, .int .i64 n40_1]) w4
def slot_Slots_Short (p0 : Option Addr) (p1 : Option Addr) (l1 : Nat) (c1 : Nat) (w : World) (Q : Value → World → Prop) : Prop :=
  ∃ (z4 : Value), Pu Tryz.prog (zeroValue 56) z4 ∧
  New z4.cells 56 w fun k4 w1 =>
  cond (decide (((l1 : Nat) : Int) < 2))
  (∃ (w2 : World), Sto Tryz.prog 56 (.pointer (some (⟨k4, 0, none⟩ : Addr))) (.agg #[.int .i64 0, .slice none 0 0, .slice none 0 0]) w1 w2 ∧
    ∃ (a4 : Addr) (v4 : Value), (.pointer (some (⟨k4, 0, none⟩ : Addr)) : Value) = .pointer (some a4) ∧ (loadVar 56 a4).run Tryz.prog w2 = .ok v4 w2 ∧
    Q (.tuple #[v4, .int .i64 12]) w2)
  (∃ (p14 : Option Addr) (l14 : Nat) (c14 : Nat), Pu Tryz.prog (Instr.sliceAt 22 (.slice p1 l1 c1) (some (.int .i64 1)) none none) (.slice p14 l14 c14) ∧
    ∃ (a18 : Addr), IxA Tryz.prog 22 (.slice p14 l14 c14) (.int .i64 0) a18 ∧
    ∃ (n19 : Int), Ld Tryz.prog 5 (.pointer (some a18)) w1 (.int .u8 n19) ∧
    callF Tryz.prog 67 #[.int .u8 n19] w1 fun r20 w3 =>
    ∃ (n20 : Int), r20 = .int .i64 n20 ∧
    callF Tryz.prog 32 #[.pointer p0, .int .i64 n20] w3 fun r21 w4 =>
    ∃ (cs21 : Array Value) (b21 : Bool), r21 = .tuple #[.agg cs21, .bool b21] ∧
    ∃ (z7 : Value), Pu Tryz.prog (zeroValue 50) z7 ∧
    New z7.cells 50 w4 fun k7 w5 =>
    ∃ (w6 : World), Sto Tryz.prog 50 (.pointer (some (⟨k7, 0, none⟩ : Addr))) (.agg cs21) w5 w6 ∧
    cond (!b21)
    (∃ (w7 : World), Sto Tryz.prog 56 (.pointer (some (⟨k4, 0, none⟩ : Addr))) (.agg #[.int .i64 0, .slice none 0 0, .slice none 0 0]) w6 w7 ∧
      ∃ (a4_1 : Addr) (v4_1 : Value), (.pointer (some (⟨k4, 0, none⟩ : Addr)) : Value) = .pointer (some a4_1) ∧ (loadVar 56 a4_1).run Tryz.prog w7 = .ok v4_1 w7 ∧
      Q (.tuple #[v4_1, .int .i64 17]) w7)
    (∃ (cs31 : Array Value), Ld Tryz.prog 50 (.pointer (some (⟨k7, 0, none⟩ : Addr))) w6 (.agg cs31) ∧
      callF Tryz.prog 71 #[.agg cs31] w6 fun r32 w8 =>
      ∃ (n32 : Int), r32 = .int .i64 n32 ∧
      cond (decide (((l14 : Nat) : Int) < n32))
      (∃ (w9 : World), Sto Tryz.prog 56 (.pointer (some (⟨k4, 0, none⟩ : Addr))) (.agg #[.int .i64 0, .slice none 0 0, .slice none 0 0]) w8 w9 ∧
        ∃ (a4_2 : Addr) (v4_2 : Value), (.pointer (some (⟨k4, 0, none⟩ : Addr)) : Value) = .pointer (some a4_2) ∧ (loadVar 56 a4_2).run Tryz.prog w9 = .ok v4_2 w9 ∧
        Q (.tuple #[v4_2, .int .i64 12]) w9)
      (slot_Slots_Short_j1 (⟨k4, 0, none⟩ : Addr) 0 p14 l14 c14 (⟨k7, 0, none⟩ : Addr) w8 Q)))
def slot_Slots_Short_tt : Nat → List (Nat × TypeId) := fun _ => []
theorem slot_Slots_Short_call (p0 : Option Addr) (p1 : Option Addr) (l1 : Nat) (c1 : Nat) (w : World) (Q : Value → World → Prop) (h : slot_Slots_Short p0 p1 l1 c1 w Q) : callF Tryz.prog 29 #[.pointer p0, .slice p1 l1 c1] w Q :=
  callF_of (fun _ _ => by kernel_rfl) (callK_of_sw slot_Slots_Short_tt Tryz.func29 rfl (by kernel_rfl) (show sw Tryz.prog none 43 slot_Slots_Short_tt _ 0 (endK Tryz.prog [.cell 4 56, .tmp 5] Q) ⟨regs [.pointer p0, .slice p1 l1 c1], []⟩ w from
    Eq.mp (by kernel_rfl : slot_Slots_Short p0 p1 l1 c1 w Q = sw Tryz.prog none 43 slot_Slots_Short_tt (Tryz.f29.body.getD .skip) 0 (endK Tryz.prog [.cell 4 56, .tmp 5] Q) ⟨regs [.pointer p0, .slice p1 l1 c1], []⟩ w) h))

def slot_Slots_Of_j1 (a4 : Addr) (b5 : Bool) (p6 : Option Addr) (w : World) (Q : Value → World → Prop) : Prop :=
  ∃ (a21 : Addr), p6 = some a21 ∧
  ∃ (cs23 : Array Value), Ld Tryz.prog 50 (.pointer (some (a21.add 0))) w (.agg cs23) ∧
  ∃ (w1 : World), Sto Tryz.prog 50 (.pointer (some a4)) (.agg cs23) w w1 ∧
  ∃ (a4_1 : Addr) (v4 : Value), (.pointer (some a4) : Value) = .pointer (some a4_1) ∧ (loadVar 50 a4_1).run Tryz.prog w1 = .ok v4 w1 ∧
  Q (.tuple #[v4, .bool true]) w1
def slot_Slots_Of_j2 (a4 : Addr) (b5 : Bool) (p6 : Option Addr) (b18 : Bool) (w : World) (Q : Value → World → Prop) : Prop :=
  cond b18
  (∃ (w1 : World), Sto Tryz.prog 50 (.pointer (some a4)) (.agg #[.int .i64 0, .int .i64 0, .int .i64 0, .int .u8 0, .int .u8 0, .int .u8 0, .int .u8 0, .int .u8 0, .int .u8 0, .int .u8 0, .int .u8 0, .int .u8 0, .int .u8 0, .int .u8 0, .int .u8 0, .int .u8 0, .int .u8 0, .int .u8 0, .int .u8 0]) w w1 ∧
    ∃ (a4_1 : Addr) (v4 : Value), (.pointer (some a4) : Value) = .pointer (some a4_1) ∧ (loadVar 50 a4_1).run Tryz.prog w1 = .ok v4 w1 ∧
    Q (.tuple #[v4, .bool false]) w1)
  (slot_Slots_Of_j1 a4 b5 p6 w Q)
def slot_Slots_Of (p0 : Option Addr) (n1 : Int) (w : World) (Q : Value → World → Prop) : Prop :=
  ∃ (z4 : Value), Pu Tryz.prog (zeroValue 50) z4 ∧
  New z4.cells 50 w fun k4 w1 =>
  callF Tryz.prog 73 #[.pointer p0, .int .i64 n1] w1 fun r9 w2 =>
  ∃ (p9 : Option Addr), r9 = .pointer p9 ∧
  ∃ (b11 : Bool) (w3 : World), Ef Tryz.prog (do eqGuard .eql 125 (.tmp 10) (.const (.pointer none)) (.pointer p9) (.pointer none); binOp .eql 125 (.pointer p9) (.pointer none) : Sem Value) w2 (.bool b11) w3 ∧
  cond b11
  (slot_Slots_Of_j2 (⟨k4, 0, none⟩ : Addr) false p9 true w3 Q)
  (∃ (a14 : Addr), p9 = some a14 ∧
    ∃ (n16 : Int), Ld Tryz.prog 2 (.pointer (some (a14.add 19))) w3 (.int .i64 n16) ∧
    slot_Slots_Of_j2 (⟨k4, 0, none⟩ : Addr) false p9 (n16 == 0) w3 Q)
def slot_Slots_Of_tt : Nat → List (Nat × TypeId) := fun _ => []
theorem slot_Slots_Of_call (p0 : Option Addr) (n1 : Int) (w : World) (Q : Value → World → Prop) (h : slot_Slots_Of p0 n1 w Q) : callF Tryz.prog 32 #[.pointer p0, .int .i64 n1] w Q :=
  callF_of (fun _ _ => by kernel_rfl) (callK_of_sw slot_Slots_Of_tt Tryz.func32 rfl (by kernel_rfl) (show sw Tryz.prog none 24 slot_Slots_Of_tt _ 0 (endK Tryz.prog [.cell 4 50, .tmp 5] Q) ⟨regs [.pointer p0, .int .i64 n1], []⟩ w from
    Eq.mp (by kernel_rfl : slot_Slots_Of p0 n1 w Q = sw Tryz.prog none 24 slot_Slots_Of_tt (Tryz.f32.body.getD .skip) 0 (endK Tryz.prog [.cell 4 50, .tmp 5] Q) ⟨regs [.pointer p0, .int .i64 n1], []⟩ w) h))

def slot_Slots_Stamp (p0 : Option Addr) (n1 : Int) (w : World) (Q : Value → World → Prop) : Prop :=
  callF Tryz.prog 73 #[.pointer p0, .int .i64 n1] w fun r8 w1 =>
  ∃ (p8 : Option Addr), r8 = .pointer p8 ∧
  ∃ (b10 : Bool) (w2 : World), Ef Tryz.prog (do eqGuard .neq 125 (.tmp 9) (.const (.pointer none)) (.pointer p8) (.pointer none); binOp .neq 125 (.pointer p8) (.pointer none) : Sem Value) w1 (.bool b10) w2 ∧
  cond b10
  (∃ (a12 : Addr), p8 = some a12 ∧
    ∃ (n14 : Int), Ld Tryz.prog 2 (.pointer (some (a12.add 19))) w2 (.int .i64 n14) ∧
    Q (.int .i64 n14) w2)
  (Q (.int .i64 0) w2)
def slot_Slots_Stamp_tt : Nat → List (Nat × TypeId) := fun _ => []
theorem slot_Slots_Stamp_call (p0 : Option Addr) (n1 : Int) (w : World) (Q : Value → World → Prop) (h : slot_Slots_Stamp p0 n1 w Q) : callF Tryz.prog 33 #[.pointer p0, .int .i64 n1] w Q :=
  callF_of (fun _ _ => by kernel_rfl) (callK_of_sw slot_Slots_Stamp_tt Tryz.func33 rfl (by kernel_rfl) (show sw Tryz.prog none 15 slot_Slots_Stamp_tt _ 0 (endK Tryz.prog [.tmp 4] Q) ⟨regs [.pointer p0, .int .i64 n1], []⟩ w from
    Eq.mp (by kernel_rfl : slot_Slots_Stamp p0 n1 w Q = sw Tryz.prog none 15 slot_Slots_Stamp_tt (Tryz.f33.body.getD .skip) 0 (endK Tryz.prog [.tmp 4] Q) ⟨regs [.pointer p0, .int .i64 n1], []⟩ w) h))

def slot_Slots_Install_j1 (p0 : Option Addr) (a5 : Addr) (n6 : Int) (p7 : Option Addr) (w : World) (Q : Value → World → Prop) : Prop :=
  ∃ (a25 : Addr), p0 = some a25 ∧
  ∃ (n27 : Int), Ld Tryz.prog 2 (.pointer (some (a25.add 60))) w (.int .i64 n27) ∧
  ∃ (a29 : Addr), p0 = some a29 ∧
  ∃ (w1 : World), Sto Tryz.prog 2 (.pointer (some (a29.add 60))) (.int .i64 (IntKind.i64.wrap (n27 + 1))) w w1 ∧
  ∃ (S9 : World → Prop),
  Drw w1 fun w2 =>
  ∃ (a34 : Addr), p0 = some a34 ∧
  ∃ (cs32 : Array Value), HLd Tryz.prog S9 50 (.pointer (some a5)) w2 (.agg cs32) ∧
  ∃ (n36 : Int), Ld Tryz.prog 2 (.pointer (some (a34.add 60))) w2 (.int .i64 n36) ∧
  (w2 = w2 ∨ S9 w2) ∧
  ∃ (cs37 : Array Value), Pu Tryz.prog (Instr.build 114 #[(0, .agg cs32), (1, .int .i64 n36)]) (.agg cs37) ∧
  ∃ (a38 : Addr), p7 = some a38 ∧
  ∃ (w3 : World), Sto Tryz.prog 114 (.pointer (some a38)) (.agg cs37) w2 w3 ∧
  Q (.int .i64 0) w3
def slot_Slots_Install (p0 : Option Addr) (n1 : Int) (cs2 : Array Value) (w : World) (Q : Value → World → Prop) : Prop :=
  New cs2 50 w fun k5 w1 =>
  callF Tryz.prog 73 #[.pointer p0, .int .i64 n1] w1 fun r10 w2 =>
  ∃ (p10 : Option Addr), r10 = .pointer p10 ∧
  ∃ (b13 : Bool) (w3 : World), Ef Tryz.prog (do eqGuard .eql 125 (.tmp 12) (.const (.pointer none)) (.pointer p10) (.pointer none); binOp .eql 125 (.pointer p10) (.pointer none) : Sem Value) w2 (.bool b13) w3 ∧
  cond b13
  (Q (.int .i64 11) w3)
  (∃ (cs15 : Array Value), Ld Tryz.prog 50 (.pointer (some (⟨k5, 0, none⟩ : Addr))) w3 (.agg cs15) ∧
    callF Tryz.prog 74 #[.agg cs15] w3 fun r16 w4 =>
    ∃ (b16 : Bool), r16 = .bool b16 ∧
    cond (!b16)
    (Q (.int .i64 10) w4)
    (∃ (a20 : Addr), p10 = some a20 ∧
      ∃ (n22 : Int), Ld Tryz.prog 2 (.pointer (some (a20.add 19))) w4 (.int .i64 n22) ∧
      cond (n22 != 0)
      (Q (.int .i64 16) w4)
      (slot_Slots_Install_j1 p0 (⟨k5, 0, none⟩ : Addr) 0 p10 w4 Q)))
def slot_Slots_Install_tt : Nat → List (Nat × TypeId) := fun _ => []
theorem slot_Slots_Install_call (p0 : Option Addr) (n1 : Int) (cs2 : Array Value) (w : World) (Q : Value → World → Prop) (h : slot_Slots_Install p0 n1 cs2 w Q) : callF Tryz.prog 60 #[.pointer p0, .int .i64 n1, .agg cs2] w Q :=
  callF_of (fun _ _ => by kernel_rfl) (callK_of_sw slot_Slots_Install_tt Tryz.func60 rfl (by kernel_rfl) (show sw Tryz.prog none 39 slot_Slots_Install_tt _ 0 (endK Tryz.prog [.tmp 6] Q) ⟨regs [.pointer p0, .int .i64 n1, .agg cs2], []⟩ w from
    Eq.mp (by kernel_rfl : slot_Slots_Install p0 n1 cs2 w Q = sw Tryz.prog none 39 slot_Slots_Install_tt (Tryz.f60.body.getD .skip) 0 (endK Tryz.prog [.tmp 6] Q) ⟨regs [.pointer p0, .int .i64 n1, .agg cs2], []⟩ w) h))

def slot_Slots_All (p0 : Option Addr) (w : World) (Q : Value → World → Prop) : Prop :=
  New #[.pointer p0] 39 w fun k1 w1 =>
  Q (.func (.func 117) #[] #[.pointer (some (⟨k1, 0, none⟩ : Addr))]) w1
def slot_Slots_All_tt : Nat → List (Nat × TypeId) := fun _ => []
theorem slot_Slots_All_call (p0 : Option Addr) (w : World) (Q : Value → World → Prop) (h : slot_Slots_All p0 w Q) : callF Tryz.prog 61 #[.pointer p0] w Q :=
  callF_of (fun _ _ => by kernel_rfl) (callK_of_sw slot_Slots_All_tt Tryz.func61 rfl (by kernel_rfl) (show sw Tryz.prog none 4 slot_Slots_All_tt _ 0 (endK Tryz.prog [.tmp 2] Q) ⟨regs [.pointer p0], []⟩ w from
    Eq.mp (by kernel_rfl : slot_Slots_All p0 w Q = sw Tryz.prog none 4 slot_Slots_All_tt (Tryz.f61.body.getD .skip) 0 (endK Tryz.prog [.tmp 2] Q) ⟨regs [.pointer p0], []⟩ w) h))

def slot_Slots_Retire_j1 (n4 : Int) (p5 : Option Addr) (w : World) (Q : Value → World → Prop) : Prop :=
  ∃ (a20 : Addr), p5 = some a20 ∧
  ∃ (w1 : World), Sto Tryz.prog 114 (.pointer (some a20)) (.agg #[.int .i64 0, .int .i64 0, .int .i64 0, .int .u8 0, .int .u8 0, .int .u8 0, .int .u8 0, .int .u8 0, .int .u8 0, .int .u8 0, .int .u8 0, .int .u8 0, .int .u8 0, .int .u8 0, .int .u8 0, .int .u8 0, .int .u8 0, .int .u8 0, .int .u8 0, .int .i64 0]) w w1 ∧
  Q (.int .i64 0) w1
def slot_Slots_Retire (p0 : Option Addr) (n1 : Int) (w : World) (Q : Value → World → Prop) : Prop :=
  callF Tryz.prog 73 #[.pointer p0, .int .i64 n1] w fun r8 w1 =>
  ∃ (p8 : Option Addr), r8 = .pointer p8 ∧
  ∃ (b11 : Bool) (w2 : World), Ef Tryz.prog (do eqGuard .eql 125 (.tmp 10) (.const (.pointer none)) (.pointer p8) (.pointer none); binOp .eql 125 (.pointer p8) (.pointer none) : Sem Value) w1 (.bool b11) w2 ∧
  cond b11
  (Q (.int .i64 11) w2)
  (∃ (a14 : Addr), p8 = some a14 ∧
    ∃ (cs15 : Array Value), Ld Tryz.prog 114 (.pointer (some a14)) w2 (.agg cs15) ∧
    ∃ (b17 : Bool) (w3 : World), Ef Tryz.prog (do eqGuard .eql 114 (.tmp 15) (.tmp 16) (.agg cs15) (.agg #[.int .i64 0, .int .i64 0, .int .i64 0, .int .u8 0, .int .u8 0, .int .u8 0, .int .u8 0, .int .u8 0, .int .u8 0, .int .u8 0, .int .u8 0, .int .u8 0, .int .u8 0, .int .u8 0, .int .u8 0, .int .u8 0, .int .u8 0, .int .u8 0, .int .u8 0, .int .i64 0]); binOp .eql 114 (.agg cs15) (.agg #[.int .i64 0, .int .i64 0, .int .i64 0, .int .u8 0, .int .u8 0, .int .u8 0, .int .u8 0, .int .u8 0, .int .u8 0, .int .u8 0, .int .u8 0, .int .u8 0, .int .u8 0, .int .u8 0, .int .u8 0, .int .u8 0, .int .u8 0, .int .u8 0, .int .u8 0, .int .i64 0]) : Sem Value) w2 (.bool b17) w3 ∧
    cond b17
    (Q (.int .i64 17) w3)
    (slot_Slots_Retire_j1 0 p8 w3 Q))
def slot_Slots_Retire_tt : Nat → List (Nat × TypeId) := fun _ => []
theorem slot_Slots_Retire_call (p0 : Option Addr) (n1 : Int) (w : World) (Q : Value → World → Prop) (h : slot_Slots_Retire p0 n1 w Q) : callF Tryz.prog 62 #[.pointer p0, .int .i64 n1] w Q :=
  callF_of (fun _ _ => by kernel_rfl) (callK_of_sw slot_Slots_Retire_tt Tryz.func62 rfl (by kernel_rfl) (show sw Tryz.prog none 21 slot_Slots_Retire_tt _ 0 (endK Tryz.prog [.tmp 4] Q) ⟨regs [.pointer p0, .int .i64 n1], []⟩ w from
    Eq.mp (by kernel_rfl : slot_Slots_Retire p0 n1 w Q = sw Tryz.prog none 21 slot_Slots_Retire_tt (Tryz.f62.body.getD .skip) 0 (endK Tryz.prog [.tmp 4] Q) ⟨regs [.pointer p0, .int .i64 n1], []⟩ w) h))

def slot_Slots_at_j1 (p0 : Option Addr) (n1 : Int) (p4 : Option Addr) (w : World) (Q : Value → World → Prop) : Prop :=
  ∃ (a13 : Addr), p0 = some a13 ∧
  ∃ (a15 : Addr), IxA Tryz.prog 115 (.pointer (some (a13.add 0))) (.int .i64 n1) a15 ∧
  Q (.pointer (some a15)) w
def slot_Slots_at (p0 : Option Addr) (n1 : Int) (w : World) (Q : Value → World → Prop) : Prop :=
  cond (decide (n1 < 0))
  (Q (.pointer none) w)
  (cond (decide (n1 ≥ 3))
    (Q (.pointer none) w)
    (slot_Slots_at_j1 p0 n1 none w Q))
def slot_Slots_at_tt : Nat → List (Nat × TypeId) := fun _ => []
theorem slot_Slots_at_call (p0 : Option Addr) (n1 : Int) (w : World) (Q : Value → World → Prop) (h : slot_Slots_at p0 n1 w Q) : callF Tryz.prog 73 #[.pointer p0, .int .i64 n1] w Q :=
  callF_of (fun _ _ => by kernel_rfl) (callK_of_sw slot_Slots_at_tt Tryz.func73 rfl (by kernel_rfl) (show sw Tryz.prog none 16 slot_Slots_at_tt _ 0 (endK Tryz.prog [.tmp 4] Q) ⟨regs [.pointer p0, .int .i64 n1], []⟩ w from
    Eq.mp (by kernel_rfl : slot_Slots_at p0 n1 w Q = sw Tryz.prog none 16 slot_Slots_at_tt (Tryz.f73.body.getD .skip) 0 (endK Tryz.prog [.tmp 4] Q) ⟨regs [.pointer p0, .int .i64 n1], []⟩ w) h))

def slot_Slots_All_c1 (v0 : Value) (p1 : Option Addr) (w : World) (Q : Value → World → Prop) : Prop :=
  ∃ (p5 : Option Addr), Ld Tryz.prog 39 (.pointer p1) w (.pointer p5) ∧
  ∃ (a6 : Addr), p5 = some a6 ∧
  ∃ (cs8 : Array Value), Ld Tryz.prog 115 (.pointer (some (a6.add 0))) w (.agg cs8) ∧
  LoopS [v0, .agg cs8, .int .i64 0] w fun I1 μ1 us1 _ wl1 =>
  ∃ (v0_1 : Value) (cs8_1 : Array Value) (n9 : Int), us1 = [v0_1, .agg cs8_1, .int .i64 n9] ∧
  cond (decide (n9 < 3))
  (∃ (cs12 : Array Value), Pu Tryz.prog (Instr.index 115 (.agg cs8_1) (.int .i64 n9)) (.agg cs12) ∧
    ∃ (z4 : Value), Pu Tryz.prog (zeroValue 114) z4 ∧
    New z4.cells 114 wl1 fun k4 w1 =>
    ∃ (w2 : World), Sto Tryz.prog 114 (.pointer (some (⟨k4, 0, none⟩ : Addr))) (.agg cs12) w1 w2 ∧
    ∃ (n14 : Int), Ld Tryz.prog 2 (.pointer (some ((⟨k4, 0, none⟩ : Addr).add 19))) w2 (.int .i64 n14) ∧
    cond (n14 != 0)
    (∃ (cs20 : Array Value), Ld Tryz.prog 50 (.pointer (some ((⟨k4, 0, none⟩ : Addr).add 0))) w2 (.agg cs20) ∧
      callV Tryz.prog (v0_1) [.int .i64 n9, .agg cs20] w2 fun r21 w3 =>
      ∃ (b21 : Bool), r21 = .bool b21 ∧
      cond (!b21)
      (Q (.tuple #[]) w3)
      (goesOn [] [] I1 μ1 us1 [v0_1, .agg cs8_1, .int .i64 (IntKind.i64.wrap (n9 + 1))] wl1 w3))
    (goesOn [] [] I1 μ1 us1 [v0_1, .agg cs8_1, .int .i64 (IntKind.i64.wrap (n9 + 1))] wl1 w2))
  (Q (.tuple #[]) wl1)
def slot_Slots_All_c1_tt : Nat → List (Nat × TypeId) := fun n => match n with | 0 => [(0, 200), (8, 115), (9, 3)] | _ => []
theorem slot_Slots_All_c1_call (v0 : Value) (p1 : Option Addr) (w : World) (Q : Value → World → Prop) (h : slot_Slots_All_c1 v0 p1 w Q) : callF Tryz.prog 117 #[v0, .pointer p1] w Q :=
  callF_of (fun _ _ => by kernel_rfl) (callK_of_sw slot_Slots_All_c1_tt Tryz.func117 rfl (by kernel_rfl) (show sw Tryz.prog none 25 slot_Slots_All_c1_tt _ 0 (endK Tryz.prog [] Q) ⟨regs [v0, .pointer p1], []⟩ w from
    Eq.mp (by kernel_rfl : slot_Slots_All_c1 v0 p1 w Q = sw Tryz.prog none 25 slot_Slots_All_c1_tt (Tryz.f117.body.getD .skip) 0 (endK Tryz.prog [] Q) ⟨regs [v0, .pointer p1], []⟩ w) h))
end Go.Sh
end

section
namespace Go.Sh
open Go Go.Fw Go.Proofs
set_option maxRecDepth 100000
set_option linter.unusedVariables false

def ref18_Slots_Show (p0 : Option Addr) (p1 : Option Addr) (l1 : Nat) (c1 : Nat) (w : World) (Q : Value → World → Prop) : Prop :=
  ∃ (z4 : Value), Pu Tryz.prog (zeroValue 59) z4 ∧
  New z4.cells 59 w fun k4 w1 =>
  cond (((l1 : Nat) : Int) == 0)
  (∃ (w2 : World), Sto Tryz.prog 59 (.pointer (some (⟨k4, 0, none⟩ : Addr))) (.agg #[.int .i64 0, .slice none 0 0, .slice none 0 0]) w1 w2 ∧
    ∃ (a4 : Addr) (v4 : Value), (.pointer (some (⟨k4, 0, none⟩ : Addr)) : Value) = .pointer (some a4) ∧ (loadVar 59 a4).run Tryz.prog w2 = .ok v4 w2 ∧
    Q (.tuple #[v4, .int .i64 12]) w2)
  (∃ (a12 : Addr), IxA Tryz.prog 22 (.slice p1 l1 c1) (.int .i64 0) a12 ∧
    ∃ (n13 : Int), Ld Tryz.prog 5 (.pointer (some a12)) w1 (.int .u8 n13) ∧
    callF Tryz.prog 69 #[.int .u8 n13] w1 fun r14 w3 =>
    ∃ (n14 : Int), r14 = .int .i64 n14 ∧
    callF Tryz.prog 66 #[.pointer p0, .int .i64 n14] w3 fun r17 w4 =>
    ∃ (b17 : Bool), r17 = .bool b17 ∧
    cond (!b17)
    (∃ (w5 : World), Sto Tryz.prog 59 (.pointer (some (⟨k4, 0, none⟩ : Addr))) (.agg #[.int .i64 0, .slice none 0 0, .slice none 0 0]) w4 w5 ∧
      ∃ (a4_1 : Addr) (v4_1 : Value), (.pointer (some (⟨k4, 0, none⟩ : Addr)) : Value) = .pointer (some a4_1) ∧ (loadVar 59 a4_1).run Tryz.prog w5 = .ok v4_1 w5 ∧
      Q (.tuple #[v4_1, .int .i64 17]) w5)
    (∃ (a22 : Addr), p0 = some a22 ∧
      ∃ (a24 : Addr), IxA Tryz.prog 45 (.pointer (some (a22.add 0))) (.int .i64 n14) a24 ∧
      ∃ (cs25 : Array Value), Ld Tryz.prog 44 (.pointer (some a24)) w4 (.agg cs25) ∧
      callF Tryz.prog 70 #[.agg cs25, .slice p1 l1 c1] w4 fun r27 w6 =>
      ∃ (n27 : Int) (p27 : Option Addr) (l27 : Nat) (c27 : Nat) (p27_1 : Option Addr) (l27_1 : Nat) (c27_1 : Nat) (n27_1 : Int), r27 = .tuple #[.agg #[.int .i64 n27, .slice p27 l27 c27, .slice p27_1 l27_1 c27_1], .int .i64 n27_1] ∧
      ∃ (w7 : World), Sto Tryz.prog 59 (.pointer (some (⟨k4, 0, none⟩ : Addr))) (.agg #[.int .i64 n27, .slice p27 l27 c27, .slice p27_1 l27_1 c27_1]) w6 w7 ∧
      ∃ (a4_2 : Addr) (v4_2 : Value), (.pointer (some (⟨k4, 0, none⟩ : Addr)) : Value) = .pointer (some a4_2) ∧ (loadVar 59 a4_2).run Tryz.prog w7 = .ok v4_2 w7 ∧
      Q (.tuple #[v4_2, .int .i64 n27_1]) w7))
def ref18_Slots_Show_tt : Nat → List (Nat × TypeId) := fun _ => []
theorem ref18_Slots_Show_call (p0 : Option Addr) (p1 : Option Addr) (l1 : Nat) (c1 : Nat) (w : World) (Q : Value → World → Prop) (h : ref18_Slots_Show p0 p1 l1 c1 w Q) : callF Tryz.prog 28 #[.pointer p0, .slice p1 l1 c1] w Q :=
  callF_of (fun _ _ => by kernel_rfl) (callK_of_sw ref18_Slots_Show_tt Tryz.func28 rfl (by kernel_rfl) (show sw Tryz.prog none 30 ref18_Slots_Show_tt _ 0 (endK Tryz.prog [.cell 4 59, .tmp 5] Q) ⟨regs [.pointer p0, .slice p1 l1 c1], []⟩ w from
    Eq.mp (by kernel_rfl : ref18_Slots_Show p0 p1 l1 c1 w Q = sw Tryz.prog none 30 ref18_Slots_Show_tt (Tryz.f28.body.getD .skip) 0 (endK Tryz.prog [.cell 4 59, .tmp 5] Q) ⟨regs [.pointer p0, .slice p1 l1 c1], []⟩ w) h))

def ref18_Slots_Short (p0 : Option Addr) (p1 : Option Addr) (l1 : Nat) (c1 : Nat) (w : World) (Q : Value → World → Prop) : Prop :=
  ∃ (z4 : Value), Pu Tryz.prog (zeroValue 59) z4 ∧
  New z4.cells 59 w fun k4 w1 =>
  cond (decide (((l1 : Nat) : Int) < 2))
  (∃ (w2 : World), Sto Tryz.prog 59 (.pointer (some (⟨k4, 0, none⟩ : Addr))) (.agg #[.int .i64 0, .slice none 0 0, .slice none 0 0]) w1 w2 ∧
    ∃ (a4 : Addr) (v4 : Value), (.pointer (some (⟨k4, 0, none⟩ : Addr)) : Value) = .pointer (some a4) ∧ (loadVar 59 a4).run Tryz.prog w2 = .ok v4 w2 ∧
    Q (.tuple #[v4, .int .i64 12]) w2)
  (∃ (a13 : Addr), IxA Tryz.prog 22 (.slice p1 l1 c1) (.int .i64 1) a13 ∧
    ∃ (n14 : Int), Ld Tryz.prog 5 (.pointer (some a13)) w1 (.int .u8 n14) ∧
    callF Tryz.prog 69 #[.int .u8 n14] w1 fun r15 w3 =>
    ∃ (n15 : Int), r15 = .int .i64 n15 ∧
    callF Tryz.prog 66 #[.pointer p0, .int .i64 n15] w3 fun r18 w4 =>
    ∃ (b18 : Bool), r18 = .bool b18 ∧
    cond (!b18)
    (∃ (w5 : World), Sto Tryz.prog 59 (.pointer (some (⟨k4, 0, none⟩ : Addr))) (.agg #[.int .i64 0, .slice none 0 0, .slice none 0 0]) w4 w5 ∧
      ∃ (a4_1 : Addr) (v4_1 : Value), (.pointer (some (⟨k4, 0, none⟩ : Addr)) : Value) = .pointer (some a4_1) ∧ (loadVar 59 a4_1).run Tryz.prog w5 = .ok v4_1 w5 ∧
      Q (.tuple #[v4_1, .int .i64 17]) w5)
    (∃ (a23 : Addr), p0 = some a23 ∧
      ∃ (a25 : Addr), IxA Tryz.prog 45 (.pointer (some (a23.add 0))) (.int .i64 n15) a25 ∧
      ∃ (cs26 : Array Value), Ld Tryz.prog 44 (.pointer (some a25)) w4 (.agg cs26) ∧
      callF Tryz.prog 72 #[.agg cs26] w4 fun r27 w6 =>
      ∃ (n27 : Int), r27 = .int .i64 n27 ∧
      cond (decide ((IntKind.i64.wrap (((l1 : Nat) : Int) - 1)) < n27))
      (∃ (w7 : World), Sto Tryz.prog 59 (.pointer (some (⟨k4, 0, none⟩ : Addr))) (.agg #[.int .i64 0, .slice none 0 0, .slice none 0 0]) w6 w7 ∧
        ∃ (a4_2 : Addr) (v4_2 : Value), (.pointer (some (⟨k4, 0, none⟩ : Addr)) : Value) = .pointer (some a4_2) ∧ (loadVar 59 a4_2).run Tryz.prog w7 = .ok v4_2 w7 ∧
        Q (.tuple #[v4_2, .int .i64 12]) w7)
      (∃ (p38 : Option Addr) (l38 : Nat) (c38 : Nat), Pu Tryz.prog (Instr.sliceAt 22 (.slice p1 l1 c1) (some (.int .i64 1)) (some (.int .i64 (IntKind.i64.wrap (n27 + 1)))) none) (.slice p38 l38 c38) ∧
        callF Tryz.prog 28 #[.pointer p0, .slice p38 l38 c38] w6 fun r39 w8 =>
        ∃ (n39 : Int) (p39 : Option Addr) (l39 : Nat) (c39 : Nat) (p39_1 : Option Addr) (l39_1 : Nat) (c39_1 : Nat) (n39_1 : Int), r39 = .tuple #[.agg #[.int .i64 n39, .slice p39 l39 c39, .slice p39_1 l39_1 c39_1], .int .i64 n39_1] ∧
        ∃ (w9 : World), Sto Tryz.prog 59 (.pointer (some (⟨k4, 0, none⟩ : Addr))) (.agg #[.int .i64 n39, .slice p39 l39 c39, .slice p39_1 l39_1 c39_1]) w8 w9 ∧
        ∃ (a4_3 : Addr) (v4_3 : Value), (.pointer (some (⟨k4, 0, none⟩ : Addr)) : Value) = .pointer (some a4_3) ∧ (loadVar 59 a4_3).run Tryz.prog w9 = .ok v4_3 w9 ∧
        Q (.tuple #[v4_3, .int .i64 n39_1]) w9)))
def ref18_Slots_Short_tt : Nat → List (Nat × TypeId) := fun _ => []
theorem ref18_Slots_Short_call (p0 : Option Addr) (p1 : Option Addr) (l1 : Nat) (c1 : Nat) (w : World) (Q : Value → World → Prop) (h : ref18_Slots_Short p0 p1 l1 c1 w Q) : callF Tryz.prog 30 #[.pointer p0, .slice p1 l1 c1] w Q :=
  callF_of (fun _ _ => by kernel_rfl) (callK_of_sw ref18_Slots_Short_tt Tryz.func30 rfl (by kernel_rfl) (show sw Tryz.prog none 42 ref18_Slots_Short_tt _ 0 (endK Tryz.prog [.cell 4 59, .tmp 5] Q) ⟨regs [.pointer p0, .slice p1 l1 c1], []⟩ w from
    Eq.mp (by kernel_rfl : ref18_Slots_Short p0 p1 l1 c1 w Q = sw Tryz.prog none 42 ref18_Slots_Short_tt (Tryz.f30.body.getD .skip) 0 (endK Tryz.prog [.cell 4 59, .tmp 5] Q) ⟨regs [.pointer p0, .slice p1 l1 c1], []⟩ w) h))

def ref18_Slots_Install_j1 (p0 : Option Addr) (n1 : Int) (a5 : Addr) (n6 : Int) (w : World) (Q : Value → World → Prop) : Prop :=
  ∃ (cs13 : Array Value), Ld Tryz.prog 44 (.pointer (some a5)) w (.agg cs13) ∧
  callF Tryz.prog 118 #[.agg cs13] w fun r14 w1 =>
  ∃ (b14 : Bool), r14 = .bool b14 ∧
  cond (!b14)
  (Q (.int .i64 10) w1)
  (∃ (a18 : Addr), p0 = some a18 ∧
    ∃ (a20 : Addr), IxA Tryz.prog 46 (.pointer (some (a18.add 57))) (.int .i64 n1) a20 ∧
    ∃ (n21 : Int), Ld Tryz.prog 2 (.pointer (some a20)) w1 (.int .i64 n21) ∧
    cond (decide (n21 > 0))
    (Q (.int .i64 16) w1)
    (∃ (a24 : Addr), p0 = some a24 ∧
      ∃ (n26 : Int), Ld Tryz.prog 2 (.pointer (some (a24.add 60))) w1 (.int .i64 n26) ∧
      ∃ (a28 : Addr), p0 = some a28 ∧
      ∃ (w2 : World), Sto Tryz.prog 2 (.pointer (some (a28.add 60))) (.int .i64 (IntKind.i64.wrap (n26 + 1))) w1 w2 ∧
      Drw w2 fun w3 =>
      ∃ (a33 : Addr), p0 = some a33 ∧
      ∃ (cs32 : Array Value), Ld Tryz.prog 44 (.pointer (some a5)) w3 (.agg cs32) ∧
      ∃ (a35 : Addr), IxA Tryz.prog 45 (.pointer (some (a33.add 0))) (.int .i64 n1) a35 ∧
      ∃ (w4 : World), Sto Tryz.prog 44 (.pointer (some a35)) (.agg cs32) w3 w4 ∧
      Drw w4 fun w5 =>
      ∃ (a39 : Addr), p0 = some a39 ∧
      ∃ (a42 : Addr), p0 = some a42 ∧
      ∃ (n41 : Int), Ld Tryz.prog 2 (.pointer (some (a39.add 60))) w5 (.int .i64 n41) ∧
      ∃ (a44 : Addr), IxA Tryz.prog 46 (.pointer (some (a42.add 57))) (.int .i64 n1) a44 ∧
      ∃ (w6 : World), Sto Tryz.prog 2 (.pointer (some a44)) (.int .i64 n41) w5 w6 ∧
      Q (.int .i64 0) w6))
def ref18_Slots_Install (p0 : Option Addr) (n1 : Int) (cs2 : Array Value) (w : World) (Q : Value → World → Prop) : Prop :=
  New cs2 44 w fun k5 w1 =>
  cond (decide (n1 < 0))
  (Q (.int .i64 11) w1)
  (cond (decide (n1 > 2))
    (Q (.int .i64 11) w1)
    (ref18_Slots_Install_j1 p0 n1 (⟨k5, 0, none⟩ : Addr) 0 w1 Q))
def ref18_Slots_Install_tt : Nat → List (Nat × TypeId) := fun _ => []
theorem ref18_Slots_Install_call (p0 : Option Addr) (n1 : Int) (cs2 : Array Value) (w : World) (Q : Value → World → Prop) (h : ref18_Slots_Install p0 n1 cs2 w Q) : callF Tryz.prog 63 #[.pointer p0, .int .i64 n1, .agg cs2] w Q :=
  callF_of (fun _ _ => by kernel_rfl) (callK_of_sw ref18_Slots_Install_tt Tryz.func63 rfl (by kernel_rfl) (show sw Tryz.prog none 45 ref18_Slots_Install_tt _ 0 (endK Tryz.prog [.tmp 6] Q) ⟨regs [.pointer p0, .int .i64 n1, .agg cs2], []⟩ w from
    Eq.mp (by kernel_rfl : ref18_Slots_Install p0 n1 cs2 w Q = sw Tryz.prog none 45 ref18_Slots_Install_tt (Tryz.f63.body.getD .skip) 0 (endK Tryz.prog [.tmp 6] Q) ⟨regs [.pointer p0, .int .i64 n1, .agg cs2], []⟩ w) h))

def ref18_Slots_Retire_j1 (p0 : Option Addr) (n1 : Int) (n4 : Int) (w : World) (Q : Value → World → Prop) : Prop :=
  ∃ (a13 : Addr), p0 = some a13 ∧
  ∃ (a15 : Addr), IxA Tryz.prog 46 (.pointer (some (a13.add 57))) (.int .i64 n1) a15 ∧
  ∃ (n16 : Int), Ld Tryz.prog 2 (.pointer (some a15)) w (.int .i64 n16) ∧
  cond (n16 == 0)
  (Q (.int .i64 17) w)
  (∃ (a21 : Addr), p0 = some a21 ∧
    ∃ (a23 : Addr), IxA Tryz.prog 45 (.pointer (some (a21.add 0))) (.int .i64 n1) a23 ∧
    ∃ (w1 : World), Sto Tryz.prog 44 (.pointer (some a23)) (.agg #[.int .i64 0, .int .i64 0, .int .i64 0, .int .u8 0, .int .u8 0, .int .u8 0, .int .u8 0, .int .u8 0, .int .u8 0, .int .u8 0, .int .u8 0, .int .u8 0, .int .u8 0, .int .u8 0, .int .u8 0, .int .u8 0, .int .u8 0, .int .u8 0, .int .u8 0]) w w1 ∧
    ∃ (a26 : Addr), p0 = some a26 ∧
    ∃ (a28 : Addr), IxA Tryz.prog 46 (.pointer (some (a26.add 57))) (.int .i64 n1) a28 ∧
    ∃ (w2 : World), Sto Tryz.prog 2 (.pointer (some a28)) (.int .i64 0) w1 w2 ∧
    Q (.int .i64 0) w2)
def ref18_Slots_Retire (p0 : Option Addr) (n1 : Int) (w : World) (Q : Value → World → Prop) : Prop :=
  cond (decide (n1 < 0))
  (Q (.int .i64 11) w)
  (cond (decide (n1 > 2))
    (Q (.int .i64 11) w)
    (ref18_Slots_Retire_j1 p0 n1 0 w Q))
def ref18_Slots_Retire_tt : Nat → List (Nat × TypeId) := fun _ => []
theorem ref18_Slots_Retire_call (p0 : Option Addr) (n1 : Int) (w : World) (Q : Value → World → Prop) (h : ref18_Slots_Retire p0 n1 w Q) : callF Tryz.prog 65 #[.pointer p0, .int .i64 n1] w Q :=
  callF_of (fun _ _ => by kernel_rfl) (callK_of_sw ref18_Slots_Retire_tt Tryz.func65 rfl (by kernel_rfl) (show sw Tryz.prog none 29 ref18_Slots_Retire_tt _ 0 (endK Tryz.prog [.tmp 4] Q) ⟨regs [.pointer p0, .int .i64 n1], []⟩ w from
    Eq.mp (by kernel_rfl : ref18_Slots_Retire p0 n1 w Q = sw Tryz.prog none 29 ref18_Slots_Retire_tt (Tryz.f65.body.getD .skip) 0 (endK Tryz.prog [.tmp 4] Q) ⟨regs [.pointer p0, .int .i64 n1], []⟩ w) h))

def ref18_Slots_Has (p0 : Option Addr) (n1 : Int) (w : World) (Q : Value → World → Prop) : Prop :=
  cond (decide (n1 ≥ 0))
  (cond (decide (n1 < 3))
    (∃ (a14 : Addr), p0 = some a14 ∧
      ∃ (a16 : Addr), IxA Tryz.prog 46 (.pointer (some (a14.add 57))) (.int .i64 n1) a16 ∧
      ∃ (n17 : Int), Ld Tryz.prog 2 (.pointer (some a16)) w (.int .i64 n17) ∧
      Q (.bool (decide (n17 > 0))) w)
    (Q (.bool false) w))
  (Q (.bool false) w)
def ref18_Slots_Has_tt : Nat → List (Nat × TypeId) := fun _ => []
theorem ref18_Slots_Has_call (p0 : Option Addr) (n1 : Int) (w : World) (Q : Value → World → Prop) (h : ref18_Slots_Has p0 n1 w Q) : callF Tryz.prog 66 #[.pointer p0, .int .i64 n1] w Q :=
  callF_of (fun _ _ => by kernel_rfl) (callK_of_sw ref18_Slots_Has_tt Tryz.func66 rfl (by kernel_rfl) (show sw Tryz.prog none 20 ref18_Slots_Has_tt _ 0 (endK Tryz.prog [.tmp 4] Q) ⟨regs [.pointer p0, .int .i64 n1], []⟩ w from
    Eq.mp (by kernel_rfl : ref18_Slots_Has p0 n1 w Q = sw Tryz.prog none 20 ref18_Slots_Has_tt (Tryz.f66.body.getD .skip) 0 (endK Tryz.prog [.tmp 4] Q) ⟨regs [.pointer p0, .int .i64 n1], []⟩ w) h))
end Go.Sh
end

section
namespace Go.Sh
open Go Go.Fw Go.Proofs
set_option maxRecDepth 100000
set_option linter.unusedVariables false

def law18_SlotCalls (p0 : Option Addr) (l0 : Nat) (c0 : Nat) (w : World) (Q : Value → World → Prop) : Prop :=
  callF Tryz.prog 22 #[] w fun r6 w1 =>
  ∃ (b6 : Bool), r6 = .bool b6 ∧
  cond (!b6)
  (Q (.bool false) w1)
  (cond (decide (((l0 : Nat) : Int) > 100))
    (Q (.bool true) w1)
    (callF Tryz.prog 23 #[] w1 fun r11 w2 =>
      ∃ (p11 : Option Addr), r11 = .pointer p11 ∧
      New #[.int .i64 0, .int .i64 0, .int .i64 0, .int .u8 0, .int .u8 0, .int .u8 0, .int .u8 0, .int .u8 0, .int .u8 0, .int .u8 0, .int .u8 0, .int .u8 0, .int .u8 0, .int .u8 0, .int .u8 0, .int .u8 0, .int .u8 0, .int .u8 0, .int .u8 0, .int .i64 0, .int .i64 0, .int .i64 0, .int .u8 0, .int .u8 0, .int .u8 0, .int .u8 0, .int .u8 0, .int .u8 0, .int .u8 0, .int .u8 0, .int .u8 0, .int .u8 0, .int .u8 0, .int .u8 0, .int .u8 0, .int .u8 0, .int .u8 0, .int .u8 0, .int .i64 0, .int .i64 0, .int .i64 0, .int .u8 0, .int .u8 0, .int .u8 0, .int .u8 0, .int .u8 0, .int .u8 0, .int .u8 0, .int .u8 0, .int .u8 0, .int .u8 0, .int .u8 0, .int .u8 0, .int .u8 0, .int .u8 0, .int .u8 0, .int .u8 0, .int .i64 0, .int .i64 0, .int .i64 0, .int .i64 0] 48 w2 fun k13 w3 =>
      ∃ (b15 : Bool) (w4 : World), Ef Tryz.prog (do eqGuard .eql 39 (.tmp 14) (.const (.pointer none)) (.pointer p11) (.pointer none); binOp .eql 39 (.pointer p11) (.pointer none) : Sem Value) w3 (.bool b15) w4 ∧
      cond b15
      (Q (.bool false) w4)
      (LoopS [.slice p0 l0 c0, .bool false, .pointer p11, .pointer (some (⟨k13, 0, none⟩ : Addr)), .int .i64 0] w4 fun I1 μ1 us1 _ wl1 =>
        ∃ (p0_1 : Option Addr) (l0_1 : Nat) (c0_1 : Nat) (b2 : Bool) (p3 : Option Addr) (a4 : Addr) (n5 : Int), us1 = [.slice p0_1 l0_1 c0_1, .bool b2, .pointer p3, .pointer (some a4), .int .i64 n5] ∧
        cond (decide (n5 < ((l0_1 : Nat) : Int)))
        (∃ (a26 : Addr), IxA Tryz.prog 38 (.slice p0_1 l0_1 c0_1) (.int .i64 n5) a26 ∧
          ∃ (cs27 : Array Value), Ld Tryz.prog 52 (.pointer (some a26)) wl1 (.agg cs27) ∧
          callF Tryz.prog 24 #[.pointer p3, .pointer (some a4), .agg cs27] wl1 fun r28 w5 =>
          ∃ (b28 : Bool), r28 = .bool b28 ∧
          cond (!b28)
          (Q (.bool false) w5)
          (callF Tryz.prog 25 #[.pointer p3, .pointer (some a4)] w5 fun r33 w6 =>
            ∃ (b33 : Bool), r33 = .bool b33 ∧
            cond (!b33)
            (Q (.bool false) w6)
            (goesOn [] [] I1 μ1 us1 [.slice p0_1 l0_1 c0_1, .bool b2, .pointer p3, .pointer (some a4), .int .i64 (IntKind.i64.wrap (n5 + 1))] wl1 w6)))
        (Q (.bool true) wl1))))
def law18_SlotCalls_tt : Nat → List (Nat × TypeId) := fun n => match n with | 0 => [(0, 38), (2, 4), (3, 39), (4, 1000000), (5, 3)] | _ => []
theorem law18_SlotCalls_call (p0 : Option Addr) (l0 : Nat) (c0 : Nat) (w : World) (Q : Value → World → Prop) (h : law18_SlotCalls p0 l0 c0 w Q) : callF Tryz.prog 6 #[.slice p0 l0 c0] w Q :=
  callF_of (fun _ _ => by kernel_rfl) (callK_of_sw law18_SlotCalls_tt Tryz.func6 rfl (by kernel_rfl) (show sw Tryz.prog none 36 law18_SlotCalls_tt _ 0 (endK Tryz.prog [.tmp 2] Q) ⟨regs [.slice p0 l0 c0], []⟩ w from
    Eq.mp (by kernel_rfl : law18_SlotCalls p0 l0 c0 w Q = sw Tryz.prog none 36 law18_SlotCalls_tt (Tryz.f6.body.getD .skip) 0 (endK Tryz.prog [.tmp 2] Q) ⟨regs [.slice p0 l0 c0], []⟩ w) h))

def law18_SlotShows_j1 (p1 : Option Addr) (l1 : Nat) (c1 : Nat) (a5 : Addr) (b6 : Bool) (p7 : Option Addr) (a8 : Addr) (w : World) (Q : Value → World → Prop) : Prop :=
  callF Tryz.prog 26 #[.pointer p7] w fun r49 w1 =>
  ∃ (p49 : Option Addr), r49 = .pointer p49 ∧
  ∃ (b51 : Bool) (w2 : World), Ef Tryz.prog (do eqGuard .eql 39 (.tmp 50) (.const (.pointer none)) (.pointer p49) (.pointer none); binOp .eql 39 (.pointer p49) (.pointer none) : Sem Value) w1 (.bool b51) w2 ∧
  cond b51
  (Q (.bool false) w2)
  (New #[.int .i64 0, .int .i64 0, .int .i64 0, .int .u8 0, .int .u8 0, .int .u8 0, .int .u8 0, .int .u8 0, .int .u8 0, .int .u8 0, .int .u8 0, .int .u8 0, .int .u8 0, .int .u8 0, .int .u8 0, .int .u8 0, .int .u8 0, .int .u8 0, .int .u8 0, .int .i64 0, .int .i64 0, .int .i64 0, .int .u8 0, .int .u8 0, .int .u8 0, .int .u8 0, .int .u8 0, .int .u8 0, .int .u8 0, .int .u8 0, .int .u8 0, .int .u8 0, .int .u8 0, .int .u8 0, .int .u8 0, .int .u8 0, .int .u8 0, .int .u8 0, .int .i64 0, .int .i64 0, .int .i64 0, .int .u8 0, .int .u8 0, .int .u8 0, .int .u8 0, .int .u8 0, .int .u8 0, .int .u8 0, .int .u8 0, .int .u8 0, .int .u8 0, .int .u8 0, .int .u8 0, .int .u8 0, .int .u8 0, .int .u8 0, .int .u8 0, .int .i64 0, .int .i64 0, .int .i64 0, .int .i64 0] 48 w2 fun k54 w3 =>
    ∃ (cs55 : Array Value), Ld Tryz.prog 52 (.pointer (some a5)) w3 (.agg cs55) ∧
    callF Tryz.prog 24 #[.pointer p49, .pointer (some (⟨k54, 0, none⟩ : Addr)), .agg cs55] w3 fun r56 w4 =>
    ∃ (b56 : Bool), r56 = .bool b56 ∧
    callF Tryz.prog 13 #[.slice p1 l1 c1] w4 fun r58 w5 =>
    ∃ (p58 : Option Addr) (l58 : Nat) (c58 : Nat), r58 = .slice p58 l58 c58 ∧
    callF Tryz.prog 27 #[.pointer p7, .slice p58 l58 c58] w5 fun r62 w6 =>
    ∃ (n62 : Int) (p62 : Option Addr) (l62 : Nat) (c62 : Nat) (p62_1 : Option Addr) (l62_1 : Nat) (c62_1 : Nat) (n62_1 : Int), r62 = .tuple #[.agg #[.int .i64 n62, .slice p62 l62 c62, .slice p62_1 l62_1 c62_1], .int .i64 n62_1] ∧
    ∃ (z12 : Value), Pu Tryz.prog (zeroValue 56) z12 ∧
    New z12.cells 56 w6 fun k12 w7 =>
    ∃ (w8 : World), Sto Tryz.prog 56 (.pointer (some (⟨k12, 0, none⟩ : Addr))) (.agg #[.int .i64 n62, .slice p62 l62 c62, .slice p62_1 l62_1 c62_1]) w7 w8 ∧
    callF Tryz.prog 28 #[.pointer (some a8), .slice p1 l1 c1] w8 fun r68 w9 =>
    ∃ (n68 : Int) (p68 : Option Addr) (l68 : Nat) (c68 : Nat) (p68_1 : Option Addr) (l68_1 : Nat) (c68_1 : Nat) (n68_1 : Int), r68 = .tuple #[.agg #[.int .i64 n68, .slice p68 l68 c68, .slice p68_1 l68_1 c68_1], .int .i64 n68_1] ∧
    ∃ (z14 : Value), Pu Tryz.prog (zeroValue 59) z14 ∧
    New z14.cells 59 w9 fun k14 w10 =>
    ∃ (w11 : World), Sto Tryz.prog 59 (.pointer (some (⟨k14, 0, none⟩ : Addr))) (.agg #[.int .i64 n68, .slice p68 l68 c68, .slice p68_1 l68_1 c68_1]) w10 w11 ∧
    callF Tryz.prog 29 #[.pointer p7, .slice p58 l58 c58] w11 fun r74 w12 =>
    ∃ (n74 : Int) (p74 : Option Addr) (l74 : Nat) (c74 : Nat) (p74_1 : Option Addr) (l74_1 : Nat) (c74_1 : Nat) (n74_1 : Int), r74 = .tuple #[.agg #[.int .i64 n74, .slice p74 l74 c74, .slice p74_1 l74_1 c74_1], .int .i64 n74_1] ∧
    ∃ (z16 : Value), Pu Tryz.prog (zeroValue 56) z16 ∧
    New z16.cells 56 w12 fun k16 w13 =>
    ∃ (w14 : World), Sto Tryz.prog 56 (.pointer (some (⟨k16, 0, none⟩ : Addr))) (.agg #[.int .i64 n74, .slice p74 l74 c74, .slice p74_1 l74_1 c74_1]) w13 w14 ∧
    callF Tryz.prog 30 #[.pointer (some a8), .slice p1 l1 c1] w14 fun r80 w15 =>
    ∃ (n80 : Int) (p80 : Option Addr) (l80 : Nat) (c80 : Nat) (p80_1 : Option Addr) (l80_1 : Nat) (c80_1 : Nat) (n80_1 : Int), r80 = .tuple #[.agg #[.int .i64 n80, .slice p80 l80 c80, .slice p80_1 l80_1 c80_1], .int .i64 n80_1] ∧
    ∃ (z18 : Value), Pu Tryz.prog (zeroValue 59) z18 ∧
    New z18.cells 59 w15 fun k18 w16 =>
    ∃ (w17 : World), Sto Tryz.prog 59 (.pointer (some (⟨k18, 0, none⟩ : Addr))) (.agg #[.int .i64 n80, .slice p80 l80 c80, .slice p80_1 l80_1 c80_1]) w16 w17 ∧
    cond (n62_1 == n68_1)
    (∃ (n87 : Int) (p87 : Option Addr) (l87 : Nat) (c87 : Nat) (p87_1 : Option Addr) (l87_1 : Nat) (c87_1 : Nat), Ld Tryz.prog 56 (.pointer (some (⟨k12, 0, none⟩ : Addr))) w17 (.agg #[.int .i64 n87, .slice p87 l87 c87, .slice p87_1 l87_1 c87_1]) ∧
      ∃ (n88 : Int) (p88 : Option Addr) (l88 : Nat) (c88 : Nat) (p88_1 : Option Addr) (l88_1 : Nat) (c88_1 : Nat), Ld Tryz.prog 59 (.pointer (some (⟨k14, 0, none⟩ : Addr))) w17 (.agg #[.int .i64 n88, .slice p88 l88 c88, .slice p88_1 l88_1 c88_1]) ∧
      callF Tryz.prog 31 #[.agg #[.int .i64 n87, .slice p87 l87 c87, .slice p87_1 l87_1 c87_1], .agg #[.int .i64 n88, .slice p88 l88 c88, .slice p88_1 l88_1 c88_1]] w17 fun r89 w18 =>
      ∃ (b89 : Bool), r89 = .bool b89 ∧
      cond b89
      (cond (n74_1 == n80_1)
        (∃ (n97 : Int) (p97 : Option Addr) (l97 : Nat) (c97 : Nat) (p97_1 : Option Addr) (l97_1 : Nat) (c97_1 : Nat), Ld Tryz.prog 56 (.pointer (some (⟨k16, 0, none⟩ : Addr))) w18 (.agg #[.int .i64 n97, .slice p97 l97 c97, .slice p97_1 l97_1 c97_1]) ∧
          ∃ (n98 : Int) (p98 : Option Addr) (l98 : Nat) (c98 : Nat) (p98_1 : Option Addr) (l98_1 : Nat) (c98_1 : Nat), Ld Tryz.prog 59 (.pointer (some (⟨k18, 0, none⟩ : Addr))) w18 (.agg #[.int .i64 n98, .slice p98 l98 c98, .slice p98_1 l98_1 c98_1]) ∧
          callF Tryz.prog 31 #[.agg #[.int .i64 n97, .slice p97 l97 c97, .slice p97_1 l97_1 c97_1], .agg #[.int .i64 n98, .slice p98 l98 c98, .slice p98_1 l98_1 c98_1]] w18 fun r99 w19 =>
          ∃ (b99 : Bool), r99 = .bool b99 ∧
          cond b99
          (callF Tryz.prog 18 #[.slice p58 l58 c58, .slice p1 l1 c1] w19 fun r104 w20 =>
            ∃ (b104 : Bool), r104 = .bool b104 ∧
            cond b104
            (callF Tryz.prog 25 #[.pointer p7, .pointer (some a8)] w20 fun r109 w21 =>
              ∃ (b109 : Bool), r109 = .bool b109 ∧
              Q (.bool b109) w21)
            (Q (.bool false) w20))
          (Q (.bool false) w19))
        (Q (.bool false) w18))
      (Q (.bool false) w18))
    (Q (.bool false) w17))
def law18_SlotShows_j2 (p0 : Option Addr) (l0 : Nat) (c0 : Nat) (p1 : Option Addr) (l1 : Nat) (c1 : Nat) (a5 : Addr) (b6 : Bool) (w : World) (Q : Value → World → Prop) : Prop :=
  callF Tryz.prog 23 #[] w fun r30 w1 =>
  ∃ (p30 : Option Addr), r30 = .pointer p30 ∧
  New #[.int .i64 0, .int .i64 0, .int .i64 0, .int .u8 0, .int .u8 0, .int .u8 0, .int .u8 0, .int .u8 0, .int .u8 0, .int .u8 0, .int .u8 0, .int .u8 0, .int .u8 0, .int .u8 0, .int .u8 0, .int .u8 0, .int .u8 0, .int .u8 0, .int .u8 0, .int .i64 0, .int .i64 0, .int .i64 0, .int .u8 0, .int .u8 0, .int .u8 0, .int .u8 0, .int .u8 0, .int .u8 0, .int .u8 0, .int .u8 0, .int .u8 0, .int .u8 0, .int .u8 0, .int .u8 0, .int .u8 0, .int .u8 0, .int .u8 0, .int .u8 0, .int .i64 0, .int .i64 0, .int .i64 0, .int .u8 0, .int .u8 0, .int .u8 0, .int .u8 0, .int .u8 0, .int .u8 0, .int .u8 0, .int .u8 0, .int .u8 0, .int .u8 0, .int .u8 0, .int .u8 0, .int .u8 0, .int .u8 0, .int .u8 0, .int .u8 0, .int .i64 0, .int .i64 0, .int .i64 0, .int .i64 0] 48 w1 fun k32 w2 =>
  ∃ (b34 : Bool) (w3 : World), Ef Tryz.prog (do eqGuard .eql 39 (.tmp 33) (.const (.pointer none)) (.pointer p30) (.pointer none); binOp .eql 39 (.pointer p30) (.pointer none) : Sem Value) w2 (.bool b34) w3 ∧
  cond b34
  (Q (.bool false) w3)
  (LoopS [.slice p0 l0 c0, .slice p1 l1 c1, .pointer (some a5), .bool b6, .pointer p30, .pointer (some (⟨k32, 0, none⟩ : Addr)), .int .i64 0] w3 fun I1 μ1 us1 _ wl1 =>
    ∃ (p0_1 : Option Addr) (l0_1 : Nat) (c0_1 : Nat) (p1_1 : Option Addr) (l1_1 : Nat) (c1_1 : Nat) (a5_1 : Addr) (b6_1 : Bool) (p7 : Option Addr) (a8 : Addr) (n9 : Int), us1 = [.slice p0_1 l0_1 c0_1, .slice p1_1 l1_1 c1_1, .pointer (some a5_1), .bool b6_1, .pointer p7, .pointer (some a8), .int .i64 n9] ∧
    cond (decide (n9 < ((l0_1 : Nat) : Int)))
    (∃ (a45 : Addr), IxA Tryz.prog 38 (.slice p0_1 l0_1 c0_1) (.int .i64 n9) a45 ∧
      ∃ (cs46 : Array Value), Ld Tryz.prog 52 (.pointer (some a45)) wl1 (.agg cs46) ∧
      callF Tryz.prog 24 #[.pointer p7, .pointer (some a8), .agg cs46] wl1 fun r47 w4 =>
      ∃ (b47 : Bool), r47 = .bool b47 ∧
      goesOn [] [] I1 μ1 us1 [.slice p0_1 l0_1 c0_1, .slice p1_1 l1_1 c1_1, .pointer (some a5_1), .bool b6_1, .pointer p7, .pointer (some a8), .int .i64 (IntKind.i64.wrap (n9 + 1))] wl1 w4)
    (law18_SlotShows_j1 p1_1 l1_1 c1_1 a5_1 b6_1 p7 a8 wl1 Q))
def law18_SlotShows (p0 : Option Addr) (l0 : Nat) (c0 : Nat) (p1 : Option Addr) (l1 : Nat) (c1 : Nat) (cs2 : Array Value) (w : World) (Q : Value → World → Prop) : Prop :=
  New cs2 52 w fun k5 w1 =>
  callF Tryz.prog 22 #[] w1 fun r20 w2 =>
  ∃ (b20 : Bool), r20 = .bool b20 ∧
  cond (!b20)
  (Q (.bool false) w2)
  (cond (decide (((l0 : Nat) : Int) > 100))
    (Q (.bool true) w2)
    (cond (decide (((l1 : Nat) : Int) > 300))
      (Q (.bool true) w2)
      (law18_SlotShows_j2 p0 l0 c0 p1 l1 c1 (⟨k5, 0, none⟩ : Addr) false w2 Q)))
def law18_SlotShows_tt : Nat → List (Nat × TypeId) := fun n => match n with | 0 => [(0, 38), (1, 22), (5, 1000000), (6, 4), (7, 39), (8, 1000000), (9, 3)] | _ => []
theorem law18_SlotShows_call (p0 : Option Addr) (l0 : Nat) (c0 : Nat) (p1 : Option Addr) (l1 : Nat) (c1 : Nat) (cs2 : Array Value) (w : World) (Q : Value → World → Prop) (h : law18_SlotShows p0 l0 c0 p1 l1 c1 cs2 w Q) : callF Tryz.prog 7 #[.slice p0 l0 c0, .slice p1 l1 c1, .agg cs2] w Q :=
  callF_of (fun _ _ => by kernel_rfl) (callK_of_sw law18_SlotShows_tt Tryz.func7 rfl (by kernel_rfl) (show sw Tryz.prog none 111 law18_SlotShows_tt _ 0 (endK Tryz.prog [.tmp 6] Q) ⟨regs [.slice p0 l0 c0, .slice p1 l1 c1, .agg cs2], []⟩ w from
    Eq.mp (by kernel_rfl : law18_SlotShows p0 l0 c0 p1 l1 c1 cs2 w Q = sw Tryz.prog none 111 law18_SlotShows_tt (Tryz.f7.body.getD .skip) 0 (endK Tryz.prog [.tmp 6] Q) ⟨regs [.slice p0 l0 c0, .slice p1 l1 c1, .agg cs2], []⟩ w) h))

def law18_SlotIds_j1 (n1 : Int) (p2 : Option Addr) (l2 : Nat) (c2 : Nat) (p3 : Option Addr) (l3 : Nat) (c3 : Nat) (p4 : Option Addr) (l4 : Nat) (c4 : Nat) (n5 : Int) (b12 : Bool) (p13 : Option Addr) (w : World) (Q : Value → World → Prop) : Prop :=
  callF Tryz.prog 32 #[.pointer p13, .int .i64 n1] w fun r63 w1 =>
  ∃ (cs63 : Array Value) (b63 : Bool), r63 = .tuple #[.agg cs63, .bool b63] ∧
  ∃ (z15 : Value), Pu Tryz.prog (zeroValue 50) z15 ∧
  New z15.cells 50 w1 fun k15 w2 =>
  ∃ (w3 : World), Sto Tryz.prog 50 (.pointer (some (⟨k15, 0, none⟩ : Addr))) (.agg cs63) w2 w3 ∧
  cond (!b63)
  (callF Tryz.prog 33 #[.pointer p13, .int .i64 n1] w3 fun r70 w4 =>
    ∃ (n70 : Int), r70 = .int .i64 n70 ∧
    Q (.bool (n70 == 0)) w4)
  (∃ (cs73 : Array Value), Ld Tryz.prog 50 (.pointer (some (⟨k15, 0, none⟩ : Addr))) w3 (.agg cs73) ∧
    callF Tryz.prog 34 #[.agg cs73, .int .i64 n1, .slice p2 l2 c2, .slice p3 l3 c3] w3 fun r77 w5 =>
    ∃ (p77 : Option Addr) (l77 : Nat) (c77 : Nat) (n77 : Int), r77 = .tuple #[.slice p77 l77 c77, .int .i64 n77] ∧
    cond (n77 != 0)
    (Q (.bool (n77 == 11)) w5)
    (callF Tryz.prog 27 #[.pointer p13, .slice p77 l77 c77] w5 fun r87 w6 =>
      ∃ (n87 : Int) (p87 : Option Addr) (l87 : Nat) (c87 : Nat) (p87_1 : Option Addr) (l87_1 : Nat) (c87_1 : Nat) (n87_1 : Int), r87 = .tuple #[.agg #[.int .i64 n87, .slice p87 l87 c87, .slice p87_1 l87_1 c87_1], .int .i64 n87_1] ∧
      ∃ (z19 : Value), Pu Tryz.prog (zeroValue 56) z19 ∧
      New z19.cells 56 w6 fun k19 w7 =>
      ∃ (w8 : World), Sto Tryz.prog 56 (.pointer (some (⟨k19, 0, none⟩ : Addr))) (.agg #[.int .i64 n87, .slice p87 l87 c87, .slice p87_1 l87_1 c87_1]) w7 w8 ∧
      ∃ (p93 : Option Addr) (l93 : Nat) (c93 : Nat) (w9 : World), Ef Tryz.prog (Instr.buildSlice 22 1 #[(0, .int .u8 n5)]) w8 (.slice p93 l93 c93) w9 ∧
      ∃ (p95 : Option Addr) (l95 : Nat) (c95 : Nat) (w10 : World), Ef Tryz.prog (Builtin.append_ #[22, 22] 22 #[.slice p93 l93 c93, .slice p77 l77 c77]) w9 (.slice p95 l95 c95) w10 ∧
      ∃ (p97 : Option Addr) (l97 : Nat) (c97 : Nat) (w11 : World), Ef Tryz.prog (Builtin.append_ #[22, 22] 22 #[.slice p95 l95 c95, .slice p4 l4 c4]) w10 (.slice p97 l97 c97) w11 ∧
      callF Tryz.prog 29 #[.pointer p13, .slice p97 l97 c97] w11 fun r98 w12 =>
      ∃ (n98 : Int) (p98 : Option Addr) (l98 : Nat) (c98 : Nat) (p98_1 : Option Addr) (l98_1 : Nat) (c98_1 : Nat) (n98_1 : Int), r98 = .tuple #[.agg #[.int .i64 n98, .slice p98 l98 c98, .slice p98_1 l98_1 c98_1], .int .i64 n98_1] ∧
      ∃ (z21 : Value), Pu Tryz.prog (zeroValue 56) z21 ∧
      New z21.cells 56 w12 fun k21 w13 =>
      ∃ (w14 : World), Sto Tryz.prog 56 (.pointer (some (⟨k21, 0, none⟩ : Addr))) (.agg #[.int .i64 n98, .slice p98 l98 c98, .slice p98_1 l98_1 c98_1]) w13 w14 ∧
      cond (n87_1 == 0)
      (cond (n98_1 == 0)
        (∃ (n109 : Int), Ld Tryz.prog 3 (.pointer (some ((⟨k19, 0, none⟩ : Addr).add 0))) w14 (.int .i64 n109) ∧
          cond (n109 == n1)
          (∃ (p115 : Option Addr) (l115 : Nat) (c115 : Nat), Ld Tryz.prog 22 (.pointer (some ((⟨k19, 0, none⟩ : Addr).add 1))) w14 (.slice p115 l115 c115) ∧
            callF Tryz.prog 18 #[.slice p115 l115 c115, .slice p2 l2 c2] w14 fun r117 w15 =>
            ∃ (b117 : Bool), r117 = .bool b117 ∧
            cond b117
            (∃ (p121 : Option Addr) (l121 : Nat) (c121 : Nat), Ld Tryz.prog 22 (.pointer (some ((⟨k19, 0, none⟩ : Addr).add 2))) w15 (.slice p121 l121 c121) ∧
              callF Tryz.prog 18 #[.slice p121 l121 c121, .slice p3 l3 c3] w15 fun r123 w16 =>
              ∃ (b123 : Bool), r123 = .bool b123 ∧
              cond b123
              (∃ (n127 : Int), Ld Tryz.prog 3 (.pointer (some ((⟨k21, 0, none⟩ : Addr).add 0))) w16 (.int .i64 n127) ∧
                cond (n127 == n1)
                (∃ (p133 : Option Addr) (l133 : Nat) (c133 : Nat), Ld Tryz.prog 22 (.pointer (some ((⟨k21, 0, none⟩ : Addr).add 1))) w16 (.slice p133 l133 c133) ∧
                  callF Tryz.prog 18 #[.slice p133 l133 c133, .slice p2 l2 c2] w16 fun r135 w17 =>
                  ∃ (b135 : Bool), r135 = .bool b135 ∧
                  cond b135
                  (∃ (p139 : Option Addr) (l139 : Nat) (c139 : Nat), Ld Tryz.prog 22 (.pointer (some ((⟨k21, 0, none⟩ : Addr).add 2))) w17 (.slice p139 l139 c139) ∧
                    callF Tryz.prog 18 #[.slice p139 l139 c139, .slice p3 l3 c3] w17 fun r141 w18 =>
                    ∃ (b141 : Bool), r141 = .bool b141 ∧
                    Q (.bool b141) w18)
                  (Q (.bool false) w17))
                (Q (.bool false) w16))
              (Q (.bool false) w16))
            (Q (.bool false) w15))
          (Q (.bool false) w14))
        (Q (.bool false) w14))
      (Q (.bool false) w14)))
def law18_SlotIds_j2 (p0 : Option Addr) (l0 : Nat) (c0 : Nat) (n1 : Int) (p2 : Option Addr) (l2 : Nat) (c2 : Nat) (p3 : Option Addr) (l3 : Nat) (c3 : Nat) (p4 : Option Addr) (l4 : Nat) (c4 : Nat) (n5 : Int) (b12 : Bool) (w : World) (Q : Value → World → Prop) : Prop :=
  callF Tryz.prog 23 #[] w fun r43 w1 =>
  ∃ (p43 : Option Addr), r43 = .pointer p43 ∧
  ∃ (b45 : Bool) (w2 : World), Ef Tryz.prog (do eqGuard .eql 39 (.tmp 44) (.const (.pointer none)) (.pointer p43) (.pointer none); binOp .eql 39 (.pointer p43) (.pointer none) : Sem Value) w1 (.bool b45) w2 ∧
  cond b45
  (Q (.bool false) w2)
  (LoopS [.slice p0 l0 c0, .int .i64 n1, .slice p2 l2 c2, .slice p3 l3 c3, .slice p4 l4 c4, .int .u8 n5, .bool b12, .pointer p43, .int .i64 0] w2 fun I1 μ1 us1 _ wl1 =>
    ∃ (p0_1 : Option Addr) (l0_1 : Nat) (c0_1 : Nat) (n1_1 : Int) (p2_1 : Option Addr) (l2_1 : Nat) (c2_1 : Nat) (p3_1 : Option Addr) (l3_1 : Nat) (c3_1 : Nat) (p4_1 : Option Addr) (l4_1 : Nat) (c4_1 : Nat) (n5_1 : Int) (b12_1 : Bool) (p13 : Option Addr) (n14 : Int), us1 = [.slice p0_1 l0_1 c0_1, .int .i64 n1_1, .slice p2_1 l2_1 c2_1, .slice p3_1 l3_1 c3_1, .slice p4_1 l4_1 c4_1, .int .u8 n5_1, .bool b12_1, .pointer p13, .int .i64 n14] ∧
    cond (decide (n14 < ((l0_1 : Nat) : Int)))
    (New #[.int .i64 0, .int .i64 0, .int .i64 0, .int .u8 0, .int .u8 0, .int .u8 0, .int .u8 0, .int .u8 0, .int .u8 0, .int .u8 0, .int .u8 0, .int .u8 0, .int .u8 0, .int .u8 0, .int .u8 0, .int .u8 0, .int .u8 0, .int .u8 0, .int .u8 0, .int .i64 0, .int .i64 0, .int .i64 0, .int .u8 0, .int .u8 0, .int .u8 0, .int .u8 0, .int .u8 0, .int .u8 0, .int .u8 0, .int .u8 0, .int .u8 0, .int .u8 0, .int .u8 0, .int .u8 0, .int .u8 0, .int .u8 0, .int .u8 0, .int .u8 0, .int .i64 0, .int .i64 0, .int .i64 0, .int .u8 0, .int .u8 0, .int .u8 0, .int .u8 0, .int .u8 0, .int .u8 0, .int .u8 0, .int .u8 0, .int .u8 0, .int .u8 0, .int .u8 0, .int .u8 0, .int .u8 0, .int .u8 0, .int .u8 0, .int .u8 0, .int .i64 0, .int .i64 0, .int .i64 0, .int .i64 0] 48 wl1 fun k54 w3 =>
      ∃ (a57 : Addr), IxA Tryz.prog 38 (.slice p0_1 l0_1 c0_1) (.int .i64 n14) a57 ∧
      ∃ (cs58 : Array Value), Ld Tryz.prog 52 (.pointer (some a57)) w3 (.agg cs58) ∧
      callF Tryz.prog 24 #[.pointer p13, .pointer (some (⟨k54, 0, none⟩ : Addr)), .agg cs58] w3 fun r59 w4 =>
      ∃ (b59 : Bool), r59 = .bool b59 ∧
      goesOn [] [] I1 μ1 us1 [.slice p0_1 l0_1 c0_1, .int .i64 n1_1, .slice p2_1 l2_1 c2_1, .slice p3_1 l3_1 c3_1, .slice p4_1 l4_1 c4_1, .int .u8 n5_1, .bool b12_1, .pointer p13, .int .i64 (IntKind.i64.wrap (n14 + 1))] wl1 w4)
    (law18_SlotIds_j1 n1_1 p2_1 l2_1 c2_1 p3_1 l3_1 c3_1 p4_1 l4_1 c4_1 n5_1 b12_1 p13 wl1 Q))
def law18_SlotIds (p0 : Option Addr) (l0 : Nat) (c0 : Nat) (n1 : Int) (p2 : Option Addr) (l2 : Nat) (c2 : Nat) (p3 : Option Addr) (l3 : Nat) (c3 : Nat) (p4 : Option Addr) (l4 : Nat) (c4 : Nat) (n5 : Int) (w : World) (Q : Value → World → Prop) : Prop :=
  callF Tryz.prog 22 #[] w fun r23 w1 =>
  ∃ (b23 : Bool), r23 = .bool b23 ∧
  cond (!b23)
  (Q (.bool false) w1)
  (cond (decide (((l0 : Nat) : Int) > 100))
    (Q (.bool true) w1)
    (cond (decide (((l4 : Nat) : Int) > 300))
      (Q (.bool true) w1)
      (cond (decide (((l2 : Nat) : Int) > 100))
        (Q (.bool true) w1)
        (cond (decide (((l3 : Nat) : Int) > 100))
          (Q (.bool true) w1)
          (law18_SlotIds_j2 p0 l0 c0 n1 p2 l2 c2 p3 l3 c3 p4 l4 c4 n5 false w1 Q)))))
def law18_SlotIds_tt : Nat → List (Nat × TypeId) := fun n => match n with | 0 => [(0, 38), (1, 3), (2, 22), (3, 22), (4, 22), (5, 5), (12, 4), (13, 39), (14, 3)] | _ => []
theorem law18_SlotIds_call (p0 : Option Addr) (l0 : Nat) (c0 : Nat) (n1 : Int) (p2 : Option Addr) (l2 : Nat) (c2 : Nat) (p3 : Option Addr) (l3 : Nat) (c3 : Nat) (p4 : Option Addr) (l4 : Nat) (c4 : Nat) (n5 : Int) (w : World) (Q : Value → World → Prop) (h : law18_SlotIds p0 l0 c0 n1 p2 l2 c2 p3 l3 c3 p4 l4 c4 n5 w Q) : callF Tryz.prog 8 #[.slice p0 l0 c0, .int .i64 n1, .slice p2 l2 c2, .slice p3 l3 c3, .slice p4 l4 c4, .int .u8 n5] w Q :=
  callF_of (fun _ _ => by kernel_rfl) (callK_of_sw law18_SlotIds_tt Tryz.func8 rfl (by kernel_rfl) (show sw Tryz.prog none 143 law18_SlotIds_tt _ 0 (endK Tryz.prog [.tmp 12] Q) ⟨regs [.slice p0 l0 c0, .int .i64 n1, .slice p2 l2 c2, .slice p3 l3 c3, .slice p4 l4 c4, .int .u8 n5], []⟩ w from
    Eq.mp (by kernel_rfl : law18_SlotIds p0 l0 c0 n1 p2 l2 c2 p3 l3 c3 p4 l4 c4 n5 w Q = sw Tryz.prog none 143 law18_SlotIds_tt (Tryz.f8.body.getD .skip) 0 (endK Tryz.prog [.tmp 12] Q) ⟨regs [.slice p0 l0 c0, .int .i64 n1, .slice p2 l2 c2, .slice p3 l3 c3, .slice p4 l4 c4, .int .u8 n5], []⟩ w) h))

noncomputable def law18_alive_rf (i : Nat) : Array Tmp × Code × Code := (rfs (Tryz.f22.body.getD .skip)).getD i (#[], .skip, .skip)
def law18_alive_j1 (a0 : Addr) (p1 : Option Addr) (a2 : Addr) (n3 : Int) (n4 : Int) (n5 : Int) (n6 : Int) (p7 : Option Addr) (l7 : Nat) (c7 : Nat) (a8 : Addr) (n9 : Int) (a10 : Addr) (n11 : Int) (a12 : Addr) (b13 : Bool) (a14 : Addr) (km : Nat) (w : World) (Q : Value → World → Prop) : Prop :=
  callF Tryz.prog 26 #[.pointer p1] w fun r75 w1 =>
  ∃ (p75 : Option Addr), r75 = .pointer p75 ∧
  callF Tryz.prog 62 #[.pointer p1, .int .i64 1] w1 fun r77 w2 =>
  ∃ (n77 : Int), r77 = .int .i64 n77 ∧
  callF Tryz.prog 62 #[.pointer p1, .int .i64 1] w2 fun r79 w3 =>
  ∃ (n79 : Int), r79 = .int .i64 n79 ∧
  callF Tryz.prog 27 #[.pointer p1, .slice p7 l7 c7] w3 fun r83 w4 =>
  ∃ (n83 : Int) (p83 : Option Addr) (l83 : Nat) (c83 : Nat) (p83_1 : Option Addr) (l83_1 : Nat) (c83_1 : Nat) (n83_1 : Int), r83 = .tuple #[.agg #[.int .i64 n83, .slice p83 l83 c83, .slice p83_1 l83_1 c83_1], .int .i64 n83_1] ∧
  ∃ (z20 : Value), Pu Tryz.prog (zeroValue 56) z20 ∧
  New z20.cells 56 w4 fun k20 w5 =>
  ∃ (w6 : World), Sto Tryz.prog 56 (.pointer (some (⟨k20, 0, none⟩ : Addr))) (.agg #[.int .i64 n83, .slice p83 l83 c83, .slice p83_1 l83_1 c83_1]) w5 w6 ∧
  ∃ (b87 : Bool) (w7 : World), Ef Tryz.prog (do eqGuard .neq 39 (.tmp 86) (.const (.pointer none)) (.pointer p75) (.pointer none); binOp .neq 39 (.pointer p75) (.pointer none) : Sem Value) w6 (.bool b87) w7 ∧
  cond b87
  (cond (n3 == 0)
    (cond (n4 == 16)
      (cond (n5 == 11)
        (cond (n6 == 10)
          (cond (n9 == 0)
            (cond (n11 == 0)
              (cond b13
                (∃ (cs116 : Array Value), Ld Tryz.prog 50 (.pointer (some a12)) w7 (.agg cs116) ∧
                  ∃ (cs117 : Array Value), Ld Tryz.prog 50 (.pointer (some a2)) w7 (.agg cs117) ∧
                  ∃ (b118 : Bool) (w8 : World), Ef Tryz.prog (do eqGuard .eql 50 (.tmp 116) (.tmp 117) (.agg cs116) (.agg cs117); binOp .eql 50 (.agg cs116) (.agg cs117) : Sem Value) w7 (.bool b118) w8 ∧
                  cond b118
                  (∃ (n121 : Int), Ld Tryz.prog 3 (.pointer (some a14)) w8 (.int .i64 n121) ∧
                    cond (n121 == 1)
                    (cond (n77 == 0)
                      (cond (n79 == 17)
                        (cond (n83_1 == 17)
                          (∃ (n138 : Int), Ld Tryz.prog 3 (.pointer (some (a8.add 0))) w8 (.int .i64 n138) ∧
                            cond (n138 == 1)
                            (∃ (p143 : Option Addr) (l143 : Nat) (c143 : Nat), Ld Tryz.prog 22 (.pointer (some (a10.add 1))) w8 (.slice p143 l143 c143) ∧
                              ∃ (p144 : Option Addr) (l144 : Nat) (c144 : Nat) (w9 : World), Ef Tryz.prog (Instr.buildSlice 22 3 #[(0, .int .u8 1), (1, .int .u8 2), (2, .int .u8 3)]) w8 (.slice p144 l144 c144) w9 ∧
                              callF Tryz.prog 18 #[.slice p143 l143 c143, .slice p144 l144 c144] w9 fun r145 w10 =>
                              ∃ (b145 : Bool), r145 = .bool b145 ∧
                              cond b145
                              (callF Tryz.prog 33 #[.pointer p75, .int .i64 1] w10 fun r149 w11 =>
                                ∃ (n149 : Int), r149 = .int .i64 n149 ∧
                                cond (n149 == 1)
                                (callF Tryz.prog 33 #[.pointer p1, .int .i64 1] w11 fun r154 w12 =>
                                  ∃ (n154 : Int), r154 = .int .i64 n154 ∧
                                  ∃ (w13 : World), Sto Tryz.prog 4 (.pointer (some a0)) (.bool (n154 == 0)) w12 w13 ∧
                                  ∃ (w14 : World), Tk Tryz.prog km w13 w14 ∧
                                  ∃ (a0_1 : Addr) (v0 : Value), (.pointer (some a0) : Value) = .pointer (some a0_1) ∧ (loadVar 4 a0_1).run Tryz.prog w14 = .ok v0 w14 ∧
                                  Q (v0) w14)
                                (∃ (w15 : World), Sto Tryz.prog 4 (.pointer (some a0)) (.bool false) w11 w15 ∧
                                  ∃ (w16 : World), Tk Tryz.prog km w15 w16 ∧
                                  ∃ (a0_2 : Addr) (v0_1 : Value), (.pointer (some a0) : Value) = .pointer (some a0_2) ∧ (loadVar 4 a0_2).run Tryz.prog w16 = .ok v0_1 w16 ∧
                                  Q (v0_1) w16))
                              (∃ (w17 : World), Sto Tryz.prog 4 (.pointer (some a0)) (.bool false) w10 w17 ∧
                                ∃ (w18 : World), Tk Tryz.prog km w17 w18 ∧
                                ∃ (a0_3 : Addr) (v0_2 : Value), (.pointer (some a0) : Value) = .pointer (some a0_3) ∧ (loadVar 4 a0_3).run Tryz.prog w18 = .ok v0_2 w18 ∧
                                Q (v0_2) w18))
                            (∃ (w19 : World), Sto Tryz.prog 4 (.pointer (some a0)) (.bool false) w8 w19 ∧
                              ∃ (w20 : World), Tk Tryz.prog km w19 w20 ∧
                              ∃ (a0_4 : Addr) (v0_3 : Value), (.pointer (some a0) : Value) = .pointer (some a0_4) ∧ (loadVar 4 a0_4).run Tryz.prog w20 = .ok v0_3 w20 ∧
                              Q (v0_3) w20))
                          (∃ (w21 : World), Sto Tryz.prog 4 (.pointer (some a0)) (.bool false) w8 w21 ∧
                            ∃ (w22 : World), Tk Tryz.prog km w21 w22 ∧
                            ∃ (a0_5 : Addr) (v0_4 : Value), (.pointer (some a0) : Value) = .pointer (some a0_5) ∧ (loadVar 4 a0_5).run Tryz.prog w22 = .ok v0_4 w22 ∧
                            Q (v0_4) w22))
                        (∃ (w23 : World), Sto Tryz.prog 4 (.pointer (some a0)) (.bool false) w8 w23 ∧
                          ∃ (w24 : World), Tk Tryz.prog km w23 w24 ∧
                          ∃ (a0_6 : Addr) (v0_5 : Value), (.pointer (some a0) : Value) = .pointer (some a0_6) ∧ (loadVar 4 a0_6).run Tryz.prog w24 = .ok v0_5 w24 ∧
                          Q (v0_5) w24))
                      (∃ (w25 : World), Sto Tryz.prog 4 (.pointer (some a0)) (.bool false) w8 w25 ∧
                        ∃ (w26 : World), Tk Tryz.prog km w25 w26 ∧
                        ∃ (a0_7 : Addr) (v0_6 : Value), (.pointer (some a0) : Value) = .pointer (some a0_7) ∧ (loadVar 4 a0_7).run Tryz.prog w26 = .ok v0_6 w26 ∧
                        Q (v0_6) w26))
                    (∃ (w27 : World), Sto Tryz.prog 4 (.pointer (some a0)) (.bool false) w8 w27 ∧
                      ∃ (w28 : World), Tk Tryz.prog km w27 w28 ∧
                      ∃ (a0_8 : Addr) (v0_7 : Value), (.pointer (some a0) : Value) = .pointer (some a0_8) ∧ (loadVar 4 a0_8).run Tryz.prog w28 = .ok v0_7 w28 ∧
                      Q (v0_7) w28))
                  (∃ (w29 : World), Sto Tryz.prog 4 (.pointer (some a0)) (.bool false) w8 w29 ∧
                    ∃ (w30 : World), Tk Tryz.prog km w29 w30 ∧
                    ∃ (a0_9 : Addr) (v0_8 : Value), (.pointer (some a0) : Value) = .pointer (some a0_9) ∧ (loadVar 4 a0_9).run Tryz.prog w30 = .ok v0_8 w30 ∧
                    Q (v0_8) w30))
                (∃ (w31 : World), Sto Tryz.prog 4 (.pointer (some a0)) (.bool false) w7 w31 ∧
                  ∃ (w32 : World), Tk Tryz.prog km w31 w32 ∧
                  ∃ (a0_10 : Addr) (v0_9 : Value), (.pointer (some a0) : Value) = .pointer (some a0_10) ∧ (loadVar 4 a0_10).run Tryz.prog w32 = .ok v0_9 w32 ∧
                  Q (v0_9) w32))
              (∃ (w33 : World), Sto Tryz.prog 4 (.pointer (some a0)) (.bool false) w7 w33 ∧
                ∃ (w34 : World), Tk Tryz.prog km w33 w34 ∧
                ∃ (a0_11 : Addr) (v0_10 : Value), (.pointer (some a0) : Value) = .pointer (some a0_11) ∧ (loadVar 4 a0_11).run Tryz.prog w34 = .ok v0_10 w34 ∧
                Q (v0_10) w34))
            (∃ (w35 : World), Sto Tryz.prog 4 (.pointer (some a0)) (.bool false) w7 w35 ∧
              ∃ (w36 : World), Tk Tryz.prog km w35 w36 ∧
              ∃ (a0_12 : Addr) (v0_11 : Value), (.pointer (some a0) : Value) = .pointer (some a0_12) ∧ (loadVar 4 a0_12).run Tryz.prog w36 = .ok v0_11 w36 ∧
              Q (v0_11) w36))
          (∃ (w37 : World), Sto Tryz.prog 4 (.pointer (some a0)) (.bool false) w7 w37 ∧
            ∃ (w38 : World), Tk Tryz.prog km w37 w38 ∧
            ∃ (a0_13 : Addr) (v0_12 : Value), (.pointer (some a0) : Value) = .pointer (some a0_13) ∧ (loadVar 4 a0_13).run Tryz.prog w38 = .ok v0_12 w38 ∧
            Q (v0_12) w38))
        (∃ (w39 : World), Sto Tryz.prog 4 (.pointer (some a0)) (.bool false) w7 w39 ∧
          ∃ (w40 : World), Tk Tryz.prog km w39 w40 ∧
          ∃ (a0_14 : Addr) (v0_13 : Value), (.pointer (some a0) : Value) = .pointer (some a0_14) ∧ (loadVar 4 a0_14).run Tryz.prog w40 = .ok v0_13 w40 ∧
          Q (v0_13) w40))
      (∃ (w41 : World), Sto Tryz.prog 4 (.pointer (some a0)) (.bool false) w7 w41 ∧
        ∃ (w42 : World), Tk Tryz.prog km w41 w42 ∧
        ∃ (a0_15 : Addr) (v0_14 : Value), (.pointer (some a0) : Value) = .pointer (some a0_15) ∧ (loadVar 4 a0_15).run Tryz.prog w42 = .ok v0_14 w42 ∧
        Q (v0_14) w42))
    (∃ (w43 : World), Sto Tryz.prog 4 (.pointer (some a0)) (.bool false) w7 w43 ∧
      ∃ (w44 : World), Tk Tryz.prog km w43 w44 ∧
      ∃ (a0_16 : Addr) (v0_15 : Value), (.pointer (some a0) : Value) = .pointer (some a0_16) ∧ (loadVar 4 a0_16).run Tryz.prog w44 = .ok v0_15 w44 ∧
      Q (v0_15) w44))
  (∃ (w45 : World), Sto Tryz.prog 4 (.pointer (some a0)) (.bool false) w7 w45 ∧
    ∃ (w46 : World), Tk Tryz.prog km w45 w46 ∧
    ∃ (a0_17 : Addr) (v0_16 : Value), (.pointer (some a0) : Value) = .pointer (some a0_17) ∧ (loadVar 4 a0_17).run Tryz.prog w46 = .ok v0_16 w46 ∧
    Q (v0_16) w46)
def law18_alive  (w : World) (Q : Value → World → Prop) : Prop :=
  ∃ (z0 : Value), Pu Tryz.prog (zeroValue 4) z0 ∧
  New z0.cells 4 w fun k0 w1 =>
  callF Tryz.prog 23 #[] w1 fun r22 w2 =>
  ∃ (p22 : Option Addr), r22 = .pointer p22 ∧
  ∃ (b24 : Bool) (w3 : World), Ef Tryz.prog (do eqGuard .eql 39 (.tmp 23) (.const (.pointer none)) (.pointer p22) (.pointer none); binOp .eql 39 (.pointer p22) (.pointer none) : Sem Value) w2 (.bool b24) w3 ∧
  cond b24
  (∃ (w4 : World), Sto Tryz.prog 4 (.pointer (some (⟨k0, 0, none⟩ : Addr))) (.bool false) w3 w4 ∧
    ∃ (a0 : Addr) (v0 : Value), (.pointer (some (⟨k0, 0, none⟩ : Addr)) : Value) = .pointer (some a0) ∧ (loadVar 4 a0).run Tryz.prog w4 = .ok v0 w4 ∧
    Q (v0) w4)
  (∃ (z2 : Value), Pu Tryz.prog (zeroValue 50) z2 ∧
    New z2.cells 50 w3 fun k2 w5 =>
    ∃ (w6 : World), Sto Tryz.prog 50 (.pointer (some (⟨k2, 0, none⟩ : Addr))) (.agg #[.int .i64 0, .int .i64 3, .int .i64 4, .int .u8 0, .int .u8 0, .int .u8 0, .int .u8 0, .int .u8 0, .int .u8 0, .int .u8 0, .int .u8 0, .int .u8 0, .int .u8 0, .int .u8 0, .int .u8 0, .int .u8 0, .int .u8 0, .int .u8 0, .int .u8 0]) w5 w6 ∧
    ∃ (cs27 : Array Value), Ld Tryz.prog 50 (.pointer (some (⟨k2, 0, none⟩ : Addr))) w6 (.agg cs27) ∧
    callF Tryz.prog 60 #[.pointer p22, .int .i64 1, .agg cs27] w6 fun r28 w7 =>
    ∃ (n28 : Int), r28 = .int .i64 n28 ∧
    ∃ (cs30 : Array Value), Ld Tryz.prog 50 (.pointer (some (⟨k2, 0, none⟩ : Addr))) w7 (.agg cs30) ∧
    callF Tryz.prog 60 #[.pointer p22, .int .i64 1, .agg cs30] w7 fun r31 w8 =>
    ∃ (n31 : Int), r31 = .int .i64 n31 ∧
    ∃ (cs33 : Array Value), Ld Tryz.prog 50 (.pointer (some (⟨k2, 0, none⟩ : Addr))) w8 (.agg cs33) ∧
    callF Tryz.prog 60 #[.pointer p22, .int .i64 3, .agg cs33] w8 fun r34 w9 =>
    ∃ (n34 : Int), r34 = .int .i64 n34 ∧
    callF Tryz.prog 60 #[.pointer p22, .int .i64 2, .agg #[.int .i64 0, .int .i64 0, .int .i64 0, .int .u8 0, .int .u8 0, .int .u8 0, .int .u8 0, .int .u8 0, .int .u8 0, .int .u8 0, .int .u8 0, .int .u8 0, .int .u8 0, .int .u8 0, .int .u8 0, .int .u8 0, .int .u8 0, .int .u8 0, .int .u8 0]] w9 fun r37 w10 =>
    ∃ (n37 : Int), r37 = .int .i64 n37 ∧
    ∃ (p38 : Option Addr) (l38 : Nat) (c38 : Nat) (w11 : World), Ef Tryz.prog (Instr.buildSlice 22 8 #[(0, .int .u8 71), (1, .int .u8 1), (2, .int .u8 2), (3, .int .u8 3), (4, .int .u8 4), (5, .int .u8 5), (6, .int .u8 6), (7, .int .u8 7)]) w10 (.slice p38 l38 c38) w11 ∧
    callF Tryz.prog 27 #[.pointer p22, .slice p38 l38 c38] w11 fun r42 w12 =>
    ∃ (n42 : Int) (p42 : Option Addr) (l42 : Nat) (c42 : Nat) (p42_1 : Option Addr) (l42_1 : Nat) (c42_1 : Nat) (n42_1 : Int), r42 = .tuple #[.agg #[.int .i64 n42, .slice p42 l42 c42, .slice p42_1 l42_1 c42_1], .int .i64 n42_1] ∧
    ∃ (z8 : Value), Pu Tryz.prog (zeroValue 56) z8 ∧
    New z8.cells 56 w12 fun k8 w13 =>
    ∃ (w14 : World), Sto Tryz.prog 56 (.pointer (some (⟨k8, 0, none⟩ : Addr))) (.agg #[.int .i64 n42, .slice p42 l42 c42, .slice p42_1 l42_1 c42_1]) w13 w14 ∧
    ∃ (p47 : Option Addr) (l47 : Nat) (c47 : Nat) (w15 : World), Ef Tryz.prog (Instr.buildSlice 22 1 #[(0, .int .u8 64)]) w14 (.slice p47 l47 c47) w15 ∧
    callF Tryz.prog 13 #[.slice p38 l38 c38] w15 fun r49 w16 =>
    ∃ (p49 : Option Addr) (l49 : Nat) (c49 : Nat), r49 = .slice p49 l49 c49 ∧
    ∃ (p50 : Option Addr) (l50 : Nat) (c50 : Nat) (w17 : World), Ef Tryz.prog (Instr.buildSlice 22 1 #[(0, .int .u8 9)]) w16 (.slice p50 l50 c50) w17 ∧
    ∃ (p51 : Option Addr) (l51 : Nat) (c51 : Nat) (w18 : World), Ef Tryz.prog (Builtin.append_ #[22, 22] 22 #[.slice p49 l49 c49, .slice p50 l50 c50]) w17 (.slice p51 l51 c51) w18 ∧
    ∃ (p52 : Option Addr) (l52 : Nat) (c52 : Nat) (w19 : World), Ef Tryz.prog (Builtin.append_ #[22, 22] 22 #[.slice p47 l47 c47, .slice p51 l51 c51]) w18 (.slice p52 l52 c52) w19 ∧
    callF Tryz.prog 29 #[.pointer p22, .slice p52 l52 c52] w19 fun r53 w20 =>
    ∃ (n53 : Int) (p53 : Option Addr) (l53 : Nat) (c53 : Nat) (p53_1 : Option Addr) (l53_1 : Nat) (c53_1 : Nat) (n53_1 : Int), r53 = .tuple #[.agg #[.int .i64 n53, .slice p53 l53 c53, .slice p53_1 l53_1 c53_1], .int .i64 n53_1] ∧
    ∃ (z10 : Value), Pu Tryz.prog (zeroValue 56) z10 ∧
    New z10.cells 56 w20 fun k10 w21 =>
    ∃ (w22 : World), Sto Tryz.prog 56 (.pointer (some (⟨k10, 0, none⟩ : Addr))) (.agg #[.int .i64 n53, .slice p53 l53 c53, .slice p53_1 l53_1 c53_1]) w21 w22 ∧
    callF Tryz.prog 32 #[.pointer p22, .int .i64 1] w22 fun r58 w23 =>
    ∃ (cs58 : Array Value) (b58 : Bool), r58 = .tuple #[.agg cs58, .bool b58] ∧
    ∃ (z12 : Value), Pu Tryz.prog (zeroValue 50) z12 ∧
    New z12.cells 50 w23 fun k12 w24 =>
    ∃ (w25 : World), Sto Tryz.prog 50 (.pointer (some (⟨k12, 0, none⟩ : Addr))) (.agg cs58) w24 w25 ∧
    ∃ (z14 : Value), Pu Tryz.prog (zeroValue 3) z14 ∧
    New z14.cells 3 w25 fun k14 w26 =>
    ∃ (w27 : World), Sto Tryz.prog 3 (.pointer (some (⟨k14, 0, none⟩ : Addr))) (.int .i64 0) w26 w27 ∧
    callF Tryz.prog 61 #[.pointer p22] w27 fun r62 w28 =>
    ∃ (v62 : Value), r62 = v62 ∧
    RangeF Tryz.prog (v62) #[.pointer (some (⟨k0, 0, none⟩ : Addr)), .pointer p22, .pointer (some (⟨k2, 0, none⟩ : Addr)), .int .i64 n28, .int .i64 n31, .int .i64 n34, .int .i64 n37, .slice p38 l38 c38, .pointer (some (⟨k8, 0, none⟩ : Addr)), .int .i64 n42_1, .pointer (some (⟨k10, 0, none⟩ : Addr)), .int .i64 n53_1, .pointer (some (⟨k12, 0, none⟩ : Addr)), .bool b58, .pointer (some (⟨k14, 0, none⟩ : Addr)), .tuple #[], .tuple #[], .tuple #[], .tuple #[], .tuple #[], .tuple #[], .tuple #[], .pointer p22, .pointer p22, .bool b24, .agg #[.int .i64 0, .int .i64 3, .int .i64 4, .int .u8 0, .int .u8 0, .int .u8 0, .int .u8 0, .int .u8 0, .int .u8 0, .int .u8 0, .int .u8 0, .int .u8 0, .int .u8 0, .int .u8 0, .int .u8 0, .int .u8 0, .int .u8 0, .int .u8 0, .int .u8 0], .pointer p22, .agg cs27, .int .i64 n28, .pointer p22, .agg cs30, .int .i64 n31, .pointer p22, .agg cs33, .int .i64 n34, .pointer p22, .agg #[.int .i64 0, .int .i64 0, .int .i64 0, .int .u8 0, .int .u8 0, .int .u8 0, .int .u8 0, .int .u8 0, .int .u8 0, .int .u8 0, .int .u8 0, .int .u8 0, .int .u8 0, .int .u8 0, .int .u8 0, .int .u8 0, .int .u8 0, .int .u8 0, .int .u8 0], .int .i64 n37, .slice p38 l38 c38, .tuple #[.agg #[.int .i64 n42, .slice p42 l42 c42, .slice p42_1 l42_1 c42_1], .int .i64 n42_1], .pointer p22, .slice p38 l38 c38, .tuple #[.agg #[.int .i64 n42, .slice p42 l42 c42, .slice p42_1 l42_1 c42_1], .int .i64 n42_1], .agg #[.int .i64 n42, .slice p42 l42 c42, .slice p42_1 l42_1 c42_1], .int .i64 n42_1, .tuple #[.agg #[.int .i64 n53, .slice p53 l53 c53, .slice p53_1 l53_1 c53_1], .int .i64 n53_1], .pointer p22, .slice p47 l47 c47, .slice p38 l38 c38, .slice p49 l49 c49, .slice p50 l50 c50, .slice p51 l51 c51, .slice p52 l52 c52, .tuple #[.agg #[.int .i64 n53, .slice p53 l53 c53, .slice p53_1 l53_1 c53_1], .int .i64 n53_1], .agg #[.int .i64 n53, .slice p53 l53 c53, .slice p53_1 l53_1 c53_1], .int .i64 n53_1, .tuple #[.agg cs58, .bool b58], .pointer p22, .tuple #[.agg cs58, .bool b58], .agg cs58, .bool b58, .pointer p22, v62, .tuple #[], .tuple #[], .tuple #[], .tuple #[], .tuple #[], .tuple #[], .tuple #[], .tuple #[], .tuple #[], .tuple #[], .tuple #[], .tuple #[], .tuple #[], .tuple #[], .tuple #[], .tuple #[], .tuple #[], .tuple #[], .tuple #[], .tuple #[], .tuple #[], .tuple #[], .tuple #[], .tuple #[], .tuple #[], .tuple #[], .tuple #[], .tuple #[], .tuple #[], .tuple #[], .tuple #[], .tuple #[], .tuple #[], .tuple #[], .tuple #[], .tuple #[], .tuple #[], .tuple #[], .tuple #[], .tuple #[], .tuple #[], .tuple #[], .tuple #[], .tuple #[], .tuple #[], .tuple #[], .tuple #[], .tuple #[], .tuple #[], .tuple #[], .tuple #[], .tuple #[], .tuple #[], .tuple #[], .tuple #[], .tuple #[], .tuple #[], .tuple #[], .tuple #[], .tuple #[], .tuple #[], .tuple #[], .tuple #[], .tuple #[], .tuple #[], .tuple #[], .tuple #[], .tuple #[], .tuple #[], .tuple #[], .tuple #[], .tuple #[], .tuple #[], .tuple #[], .tuple #[], .tuple #[], .tuple #[], .tuple #[], .tuple #[], .tuple #[], .tuple #[], .tuple #[], .tuple #[], .tuple #[], .tuple #[], .tuple #[], .tuple #[], .tuple #[], .tuple #[], .tuple #[], .tuple #[], .tuple #[], .tuple #[], .tuple #[]] (law18_alive_rf 0) w28 (fun krf w30 =>
      law18_alive_j1 (⟨k0, 0, none⟩ : Addr) p22 (⟨k2, 0, none⟩ : Addr) n28 n31 n34 n37 p38 l38 c38 (⟨k8, 0, none⟩ : Addr) n42_1 (⟨k10, 0, none⟩ : Addr) n53_1 (⟨k12, 0, none⟩ : Addr) b58 (⟨k14, 0, none⟩ : Addr) krf w30 Q) (fun krf w30 =>
      ∃ (w31 : World), Tk Tryz.prog krf w30 w31 ∧
      ∃ (a0_1 : Addr) (v0_1 : Value), (.pointer (some (⟨k0, 0, none⟩ : Addr)) : Value) = .pointer (some a0_1) ∧ (loadVar 4 a0_1).run Tryz.prog w31 = .ok v0_1 w31 ∧
      Q (v0_1) w31))
def law18_alive_tt : Nat → List (Nat × TypeId) := fun _ => []
theorem law18_alive_call  (w : World) (Q : Value → World → Prop) (h : law18_alive  w Q) : callF Tryz.prog 22 #[] w Q :=
  callF_of (fun _ _ => by kernel_rfl) (callK_of_sw law18_alive_tt Tryz.func22 rfl (by kernel_rfl) (show sw Tryz.prog none 157 law18_alive_tt _ 0 (endK Tryz.prog [.cell 0 4] Q) ⟨regs [], []⟩ w from
    Eq.mp (by kernel_rfl : law18_alive  w Q = sw Tryz.prog none 157 law18_alive_tt (Tryz.f22.body.getD .skip) 0 (endK Tryz.prog [.cell 0 4] Q) ⟨regs [], []⟩ w) h))
def law18_alive_y0_j1 (l : Nat) (a14 : Addr) (w : World) (Q : Value → World → Prop) : Prop :=
  ∃ (n72 : Int), Ld Tryz.prog 3 (.pointer (some a14)) w (.int .i64 n72) ∧
  ∃ (w1 : World), Sto Tryz.prog 3 (.pointer (some a14)) (.int .i64 (IntKind.i64.wrap (n72 + 1))) w w1 ∧
  EndR Tryz.prog l none true w1 Q
def law18_alive_y0_j2 (l : Nat) (a0 : Addr) (a14 : Addr) (b71 : Bool) (w : World) (Q : Value → World → Prop) : Prop :=
  cond b71
  (∃ (w1 : World), Sto Tryz.prog 4 (.pointer (some a0)) (.bool false) w w1 ∧
    EndR Tryz.prog l (some .ret) false w1 Q)
  (law18_alive_y0_j1 l a14 w Q)
def law18_alive_y0 (a0 : Addr) (a2 : Addr) (a14 : Addr) (n63 : Int) (cs64 : Array Value) (l : Nat) (w : World) (Q : Value → World → Prop) : Prop :=
  ∃ (z16 : Value), Pu Tryz.prog (zeroValue 50) z16 ∧
  New z16.cells 50 w fun k16 w1 =>
  ∃ (w2 : World), Sto Tryz.prog 50 (.pointer (some (⟨k16, 0, none⟩ : Addr))) (.agg cs64) w1 w2 ∧
  BegR Tryz.prog l w2 fun w3 =>
  cond (n63 != 1)
  (law18_alive_y0_j2 l a0 a14 true w3 Q)
  (∃ (cs68 : Array Value), Ld Tryz.prog 50 (.pointer (some (⟨k16, 0, none⟩ : Addr))) w3 (.agg cs68) ∧
    ∃ (cs69 : Array Value), Ld Tryz.prog 50 (.pointer (some a2)) w3 (.agg cs69) ∧
    ∃ (b70 : Bool) (w4 : World), Ef Tryz.prog (do eqGuard .neq 50 (.tmp 68) (.tmp 69) (.agg cs68) (.agg cs69); binOp .neq 50 (.agg cs68) (.agg cs69) : Sem Value) w3 (.bool b70) w4 ∧
    law18_alive_y0_j2 l a0 a14 b70 w4 Q)
def law18_alive_y0_t1 : Nat → List (Nat × TypeId) := fun _ => []
def law18_alive_y0_t2 : Nat → List (Nat × TypeId) := fun _ => []
theorem law18_alive_y0_call (a0 : Addr) (a2 : Addr) (a14 : Addr) (n63 : Int) (cs64 : Array Value) {x1 x3 x4 x5 x6 x7 x8 x9 x10 x11 x12 x13 x15 x16 x17 x18 x19 x20 x21 x22 x23 x24 x25 x26 x27 x28 x29 x30 x31 x32 x33 x34 x35 x36 x37 x38 x39 x40 x41 x42 x43 x44 x45 x46 x47 x48 x49 x50 x51 x52 x53 x54 x55 x56 x57 x58 x59 x60 x61 x62 x63 x64 x65 x66 x67 x68 x69 x70 x71 x72 x73 x74 x75 x76 x77 x78 x79 x80 x81 x82 x83 x84 x85 x86 x87 x88 x89 x90 x91 x92 x93 x94 x95 x96 x97 x98 x99 x100 x101 x102 x103 x104 x105 x106 x107 x108 x109 x110 x111 x112 x113 x114 x115 x116 x117 x118 x119 x120 x121 x122 x123 x124 x125 x126 x127 x128 x129 x130 x131 x132 x133 x134 x135 x136 x137 x138 x139 x140 x141 x142 x143 x144 x145 x146 x147 x148 x149 x150 x151 x152 x153 x154 x155 x156 : Value} {l df : Nat} {fn : FuncId} {w : World} {Q : Value → World → Prop} (h : LpAt w l (rec0 fn #[.pointer (some a0), x1, .pointer (some a2), x3, x4, x5, x6, x7, x8, x9, x10, x11, x12, x13, .pointer (some a14), x15, x16, x17, x18, x19, x20, x21, x22, x23, x24, x25, x26, x27, x28, x29, x30, x31, x32, x33, x34, x35, x36, x37, x38, x39, x40, x41, x42, x43, x44, x45, x46, x47, x48, x49, x50, x51, x52, x53, x54, x55, x56, x57, x58, x59, x60, x61, x62, x63, x64, x65, x66, x67, x68, x69, x70, x71, x72, x73, x74, x75, x76, x77, x78, x79, x80, x81, x82, x83, x84, x85, x86, x87, x88, x89, x90, x91, x92, x93, x94, x95, x96, x97, x98, x99, x100, x101, x102, x103, x104, x105, x106, x107, x108, x109, x110, x111, x112, x113, x114, x115, x116, x117, x118, x119, x120, x121, x122, x123, x124, x125, x126, x127, x128, x129, x130, x131, x132, x133, x134, x135, x136, x137, x138, x139, x140, x141, x142, x143, x144, x145, x146, x147, x148, x149, x150, x151, x152, x153, x154, x155, x156] (law18_alive_rf 0).1 (law18_alive_rf 0).2.1 (law18_alive_rf 0).2.2 df)) (hq : law18_alive_y0 a0 a2 a14 n63 cs64 l w Q) : callV Tryz.prog (.func (.yield l) #[] #[]) [.int .i64 n63, .agg cs64] w Q := by
  have e : law18_alive_y0 a0 a2 a14 n63 cs64 l w Q = sw Tryz.prog (some l) 157 law18_alive_y0_t1 (law18_alive_rf 0).2.1 0 (begK Tryz.prog l 157 law18_alive_y0_t2 (law18_alive_rf 0).2.2 Q) ⟨regs [.pointer (some a0), x1, .pointer (some a2), x3, x4, x5, x6, x7, x8, x9, x10, x11, x12, x13, .pointer (some a14), x15, x16, x17, x18, x19, x20, x21, x22, x23, x24, x25, x26, x27, x28, x29, x30, x31, x32, x33, x34, x35, x36, x37, x38, x39, x40, x41, x42, x43, x44, x45, x46, x47, x48, x49, x50, x51, x52, x53, x54, x55, x56, x57, x58, x59, x60, x61, x62, .int .i64 n63, .agg cs64, x65, x66, x67, x68, x69, x70, x71, x72, x73, x74, x75, x76, x77, x78, x79, x80, x81, x82, x83, x84, x85, x86, x87, x88, x89, x90, x91, x92, x93, x94, x95, x96, x97, x98, x99, x100, x101, x102, x103, x104, x105, x106, x107, x108, x109, x110, x111, x112, x113, x114, x115, x116, x117, x118, x119, x120, x121, x122, x123, x124, x125, x126, x127, x128, x129, x130, x131, x132, x133, x134, x135, x136, x137, x138, x139, x140, x141, x142, x143, x144, x145, x146, x147, x148, x149, x150, x151, x152, x153, x154, x155, x156], []⟩ w := by kernel_rfl
  have h2 := round_of_sw (f := fn) law18_alive_y0_t1 law18_alive_y0_t2 (nt := 157) (by kernel_rfl) (Eq.mp e hq)
  refine yield_r h ?_ ?_ h2
  · kernel_rfl
  · kernel_rfl

def law18_Do (p0 : Option Addr) (p1 : Option Addr) (cs2 : Array Value) (w : World) (Q : Value → World → Prop) : Prop :=
  New cs2 52 w fun k5 w1 =>
  ∃ (n8 : Int), Ld Tryz.prog 3 (.pointer (some ((⟨k5, 0, none⟩ : Addr).add 0))) w1 (.int .i64 n8) ∧
  cond (n8 == 0)
  (∃ (S3 : World → Prop),
    Drw w1 fun w2 =>
    ∃ (n13 : Int), HLd Tryz.prog S3 3 (.pointer (some ((⟨k5, 0, none⟩ : Addr).add 1))) w2 (.int .i64 n13) ∧
    ∃ (cs15 : Array Value), HLd Tryz.prog S3 50 (.pointer (some ((⟨k5, 0, none⟩ : Addr).add 2))) w2 (.agg cs15) ∧
    ∃ (n19 : Int), HLd Tryz.prog S3 3 (.pointer (some ((⟨k5, 0, none⟩ : Addr).add 1))) w2 (.int .i64 n19) ∧
    ∃ (cs21 : Array Value), HLd Tryz.prog S3 50 (.pointer (some ((⟨k5, 0, none⟩ : Addr).add 2))) w2 (.agg cs21) ∧
    callF Tryz.prog 60 #[.pointer p0, .int .i64 n13, .agg cs15] w2 fun r16 w3 =>
    ∃ (n16 : Int), r16 = .int .i64 n16 ∧
    (w3 = w2 ∨ S3 w3) ∧
    callF Tryz.prog 64 #[.agg cs21] w3 fun r22 w4 =>
    ∃ (cs22 : Array Value), r22 = .agg cs22 ∧
    (w4 = w3 ∨ S3 w4) ∧
    callF Tryz.prog 63 #[.pointer p1, .int .i64 n19, .agg cs22] w4 fun r23 w5 =>
    ∃ (n23 : Int), r23 = .int .i64 n23 ∧
    Q (.bool (n16 == n23)) w5)
  (cond (n8 == 1)
    (∃ (S5 : World → Prop),
      Drw w1 fun w6 =>
      ∃ (n29 : Int), HLd Tryz.prog S5 3 (.pointer (some ((⟨k5, 0, none⟩ : Addr).add 1))) w6 (.int .i64 n29) ∧
      ∃ (n33 : Int), HLd Tryz.prog S5 3 (.pointer (some ((⟨k5, 0, none⟩ : Addr).add 1))) w6 (.int .i64 n33) ∧
      callF Tryz.prog 62 #[.pointer p0, .int .i64 n29] w6 fun r30 w7 =>
      ∃ (n30 : Int), r30 = .int .i64 n30 ∧
      (w7 = w6 ∨ S5 w7) ∧
      callF Tryz.prog 65 #[.pointer p1, .int .i64 n33] w7 fun r34 w8 =>
      ∃ (n34 : Int), r34 = .int .i64 n34 ∧
      Q (.bool (n30 == n34)) w8)
    (Q (.bool true) w1))
def law18_Do_tt : Nat → List (Nat × TypeId) := fun _ => []
theorem law18_Do_call (p0 : Option Addr) (p1 : Option Addr) (cs2 : Array Value) (w : World) (Q : Value → World → Prop) (h : law18_Do p0 p1 cs2 w Q) : callF Tryz.prog 24 #[.pointer p0, .pointer p1, .agg cs2] w Q :=
  callF_of (fun _ _ => by kernel_rfl) (callK_of_sw law18_Do_tt Tryz.func24 rfl (by kernel_rfl) (show sw Tryz.prog none 36 law18_Do_tt _ 0 (endK Tryz.prog [.tmp 6] Q) ⟨regs [.pointer p0, .pointer p1, .agg cs2], []⟩ w from
    Eq.mp (by kernel_rfl : law18_Do p0 p1 cs2 w Q = sw Tryz.prog none 36 law18_Do_tt (Tryz.f24.body.getD .skip) 0 (endK Tryz.prog [.tmp 6] Q) ⟨regs [.pointer p0, .pointer p1, .agg cs2], []⟩ w) h))

noncomputable def law18_Agree_rf (i : Nat) : Array Tmp × Code × Code := (rfs (Tryz.f25.body.getD .skip)).getD i (#[], .skip, .skip)
def law18_Agree_j1 (a4 : Addr) (a9 : Addr) (km : Nat) (w : World) (Q : Value → World → Prop) : Prop :=
  ∃ (n103 : Int), Ld Tryz.prog 3 (.pointer (some a9)) w (.int .i64 n103) ∧
  ∃ (w1 : World), Sto Tryz.prog 4 (.pointer (some a4)) (.bool (n103 == 0)) w w1 ∧
  ∃ (w2 : World), Tk Tryz.prog km w1 w2 ∧
  ∃ (a4_1 : Addr) (v4 : Value), (.pointer (some a4) : Value) = .pointer (some a4_1) ∧ (loadVar 4 a4_1).run Tryz.prog w2 = .ok v4 w2 ∧
  Q (v4) w2
def law18_Agree_j2 (a3 : Addr) (a4 : Addr) (a9 : Addr) (km : Nat) (w : World) (Q : Value → World → Prop) : Prop :=
  LoopS [.pointer (some a3), .pointer (some a4), .pointer (some a9), .int .i64 0] w fun I2 μ2 us2 r_2 wl2 =>
  ∃ (a3_1 : Addr) (a4_1 : Addr) (a9_1 : Addr) (n12 : Int), us2 = [.pointer (some a3_1), .pointer (some a4_1), .pointer (some a9_1), .int .i64 n12] ∧
  cond (decide (n12 < 3))
  (∃ (p98 : Option Addr), Ld Tryz.prog 41 (.pointer (some a3_1)) wl2 (.pointer p98) ∧
    callF Tryz.prog 66 #[.pointer p98, .int .i64 n12] wl2 fun r100 w1 =>
    ∃ (b100 : Bool), r100 = .bool b100 ∧
    cond b100
    (∃ (n101 : Int), Ld Tryz.prog 3 (.pointer (some a9_1)) w1 (.int .i64 n101) ∧
      ∃ (w2 : World), Sto Tryz.prog 3 (.pointer (some a9_1)) (.int .i64 (IntKind.i64.wrap (n101 - 1))) w1 w2 ∧
      goesOn [{ target := .collected km, args := #[] }] [{ target := .collected km, args := #[] }] I2 μ2 us2 [.pointer (some a3_1), .pointer (some a4_1), .pointer (some a9_1), .int .i64 (IntKind.i64.wrap (n12 + 1))] wl2 w2)
    (goesOn [{ target := .collected km, args := #[] }] [{ target := .collected km, args := #[] }] I2 μ2 us2 [.pointer (some a3_1), .pointer (some a4_1), .pointer (some a9_1), .int .i64 (IntKind.i64.wrap (n12 + 1))] wl2 w1))
  (law18_Agree_j1 a4_1 a9_1 km wl2 Q)
def law18_Agree (p0 : Option Addr) (p1 : Option Addr) (w : World) (Q : Value → World → Prop) : Prop :=
  New #[.pointer p1] 41 w fun k3 w1 =>
  ∃ (z4 : Value), Pu Tryz.prog (zeroValue 4) z4 ∧
  New z4.cells 4 w1 fun k4 w2 =>
  LoopS [.pointer p0, .pointer (some (⟨k3, 0, none⟩ : Addr)), .pointer (some (⟨k4, 0, none⟩ : Addr)), .int .i64 (-1)] w2 fun I1 μ1 us1 r_1 wl1 =>
  ∃ (p0_1 : Option Addr) (a3 : Addr) (a4 : Addr) (n5 : Int), us1 = [.pointer p0_1, .pointer (some a3), .pointer (some a4), .int .i64 n5] ∧
  cond (decide (n5 ≤ 3))
  (callF Tryz.prog 32 #[.pointer p0_1, .int .i64 n5] wl1 fun r20 w3 =>
    ∃ (cs20 : Array Value) (b20 : Bool), r20 = .tuple #[.agg cs20, .bool b20] ∧
    ∃ (z6 : Value), Pu Tryz.prog (zeroValue 50) z6 ∧
    New z6.cells 50 w3 fun k6 w4 =>
    ∃ (w5 : World), Sto Tryz.prog 50 (.pointer (some (⟨k6, 0, none⟩ : Addr))) (.agg cs20) w4 w5 ∧
    ∃ (p24 : Option Addr), Ld Tryz.prog 41 (.pointer (some a3)) w5 (.pointer p24) ∧
    callF Tryz.prog 66 #[.pointer p24, .int .i64 n5] w5 fun r26 w6 =>
    ∃ (b26 : Bool), r26 = .bool b26 ∧
    cond (!(b20 == b26))
    (∃ (w7 : World), Sto Tryz.prog 4 (.pointer (some a4)) (.bool false) w6 w7 ∧
      ∃ (a4_1 : Addr) (v4 : Value), (.pointer (some a4) : Value) = .pointer (some a4_1) ∧ (loadVar 4 a4_1).run Tryz.prog w7 = .ok v4 w7 ∧
      Q (v4) w7)
    (∃ (S7 : World → Prop),
      Drw w6 fun w8 =>
      cond b20
      (∃ (cs30 : Array Value), HLd Tryz.prog S7 50 (.pointer (some (⟨k6, 0, none⟩ : Addr))) w8 (.agg cs30) ∧
        ∃ (p32 : Option Addr), HLd Tryz.prog S7 41 (.pointer (some a3)) w8 (.pointer p32) ∧
        ∃ (a34 : Addr), p32 = some a34 ∧
        ∃ (a36 : Addr), IxA Tryz.prog 45 (.pointer (some (a34.add 0))) (.int .i64 n5) a36 ∧
        ∃ (cs37 : Array Value), HLd Tryz.prog S7 44 (.pointer (some a36)) w8 (.agg cs37) ∧
        callF Tryz.prog 64 #[.agg cs30] w8 fun r31 w9 =>
        ∃ (cs31 : Array Value), r31 = .agg cs31 ∧
        (w9 = w8 ∨ S7 w9) ∧
        ∃ (b38 : Bool) (w10 : World), Ef Tryz.prog (do eqGuard .neq 44 (.tmp 31) (.tmp 37) (.agg cs31) (.agg cs37); binOp .neq 44 (.agg cs31) (.agg cs37) : Sem Value) w9 (.bool b38) w10 ∧
        (w10 = w9 ∨ S7 w10) ∧
        cond b38
        (∃ (w11 : World), Sto Tryz.prog 4 (.pointer (some a4)) (.bool false) w10 w11 ∧
          ∃ (a4_2 : Addr) (v4_1 : Value), (.pointer (some a4) : Value) = .pointer (some a4_2) ∧ (loadVar 4 a4_2).run Tryz.prog w11 = .ok v4_1 w11 ∧
          Q (v4_1) w11)
        (∃ (p43 : Option Addr), HLd Tryz.prog S7 41 (.pointer (some a3)) w10 (.pointer p43) ∧
          ∃ (a45 : Addr), p43 = some a45 ∧
          ∃ (a47 : Addr), IxA Tryz.prog 46 (.pointer (some (a45.add 57))) (.int .i64 n5) a47 ∧
          ∃ (n48 : Int), HLd Tryz.prog S7 2 (.pointer (some a47)) w10 (.int .i64 n48) ∧
          callF Tryz.prog 33 #[.pointer p0_1, .int .i64 n5] w10 fun r42 w12 =>
          ∃ (n42 : Int), r42 = .int .i64 n42 ∧
          (w12 = w10 ∨ S7 w12) ∧
          cond (n42 != n48)
          (∃ (w13 : World), Sto Tryz.prog 4 (.pointer (some a4)) (.bool false) w12 w13 ∧
            ∃ (a4_3 : Addr) (v4_2 : Value), (.pointer (some a4) : Value) = .pointer (some a4_3) ∧ (loadVar 4 a4_3).run Tryz.prog w13 = .ok v4_2 w13 ∧
            Q (v4_2) w13)
          (cond (!b20)
            (∃ (cs56 : Array Value), Ld Tryz.prog 50 (.pointer (some (⟨k6, 0, none⟩ : Addr))) w12 (.agg cs56) ∧
              ∃ (b58 : Bool) (w14 : World), Ef Tryz.prog (do eqGuard .neq 50 (.tmp 56) (.tmp 57) (.agg cs56) (.agg #[.int .i64 0, .int .i64 0, .int .i64 0, .int .u8 0, .int .u8 0, .int .u8 0, .int .u8 0, .int .u8 0, .int .u8 0, .int .u8 0, .int .u8 0, .int .u8 0, .int .u8 0, .int .u8 0, .int .u8 0, .int .u8 0, .int .u8 0, .int .u8 0, .int .u8 0]); binOp .neq 50 (.agg cs56) (.agg #[.int .i64 0, .int .i64 0, .int .i64 0, .int .u8 0, .int .u8 0, .int .u8 0, .int .u8 0, .int .u8 0, .int .u8 0, .int .u8 0, .int .u8 0, .int .u8 0, .int .u8 0, .int .u8 0, .int .u8 0, .int .u8 0, .int .u8 0, .int .u8 0, .int .u8 0]) : Sem Value) w12 (.bool b58) w14 ∧
              cond b58
              (∃ (w15 : World), Sto Tryz.prog 4 (.pointer (some a4)) (.bool false) w14 w15 ∧
                ∃ (a4_4 : Addr) (v4_3 : Value), (.pointer (some a4) : Value) = .pointer (some a4_4) ∧ (loadVar 4 a4_4).run Tryz.prog w15 = .ok v4_3 w15 ∧
                Q (v4_3) w15)
              (callF Tryz.prog 33 #[.pointer p0_1, .int .i64 n5] w14 fun r62 w16 =>
                ∃ (n62 : Int), r62 = .int .i64 n62 ∧
                cond (n62 != 0)
                (∃ (w17 : World), Sto Tryz.prog 4 (.pointer (some a4)) (.bool false) w16 w17 ∧
                  ∃ (a4_5 : Addr) (v4_4 : Value), (.pointer (some a4) : Value) = .pointer (some a4_5) ∧ (loadVar 4 a4_5).run Tryz.prog w17 = .ok v4_4 w17 ∧
                  Q (v4_4) w17)
                (goesOn [] [] I1 μ1 us1 [.pointer p0_1, .pointer (some a3), .pointer (some a4), .int .i64 (IntKind.i64.wrap (n5 + 1))] wl1 w16)))
            (goesOn [] [] I1 μ1 us1 [.pointer p0_1, .pointer (some a3), .pointer (some a4), .int .i64 (IntKind.i64.wrap (n5 + 1))] wl1 w12))))
      (cond (!b20)
        (∃ (cs56_1 : Array Value), Ld Tryz.prog 50 (.pointer (some (⟨k6, 0, none⟩ : Addr))) w8 (.agg cs56_1) ∧
          ∃ (b58_1 : Bool) (w18 : World), Ef Tryz.prog (do eqGuard .neq 50 (.tmp 56) (.tmp 57) (.agg cs56_1) (.agg #[.int .i64 0, .int .i64 0, .int .i64 0, .int .u8 0, .int .u8 0, .int .u8 0, .int .u8 0, .int .u8 0, .int .u8 0, .int .u8 0, .int .u8 0, .int .u8 0, .int .u8 0, .int .u8 0, .int .u8 0, .int .u8 0, .int .u8 0, .int .u8 0, .int .u8 0]); binOp .neq 50 (.agg cs56_1) (.agg #[.int .i64 0, .int .i64 0, .int .i64 0, .int .u8 0, .int .u8 0, .int .u8 0, .int .u8 0, .int .u8 0, .int .u8 0, .int .u8 0, .int .u8 0, .int .u8 0, .int .u8 0, .int .u8 0, .int .u8 0, .int .u8 0, .int .u8 0, .int .u8 0, .int .u8 0]) : Sem Value) w8 (.bool b58_1) w18 ∧
          cond b58_1
          (∃ (w19 : World), Sto Tryz.prog 4 (.pointer (some a4)) (.bool false) w18 w19 ∧
            ∃ (a4_6 : Addr) (v4_5 : Value), (.pointer (some a4) : Value) = .pointer (some a4_6) ∧ (loadVar 4 a4_6).run Tryz.prog w19 = .ok v4_5 w19 ∧
            Q (v4_5) w19)
          (callF Tryz.prog 33 #[.pointer p0_1, .int .i64 n5] w18 fun r62_1 w20 =>
            ∃ (n62_1 : Int), r62_1 = .int .i64 n62_1 ∧
            cond (n62_1 != 0)
            (∃ (w21 : World), Sto Tryz.prog 4 (.pointer (some a4)) (.bool false) w20 w21 ∧
              ∃ (a4_7 : Addr) (v4_6 : Value), (.pointer (some a4) : Value) = .pointer (some a4_7) ∧ (loadVar 4 a4_7).run Tryz.prog w21 = .ok v4_6 w21 ∧
              Q (v4_6) w21)
            (goesOn [] [] I1 μ1 us1 [.pointer p0_1, .pointer (some a3), .pointer (some a4), .int .i64 (IntKind.i64.wrap (n5 + 1))] wl1 w20)))
        (goesOn [] [] I1 μ1 us1 [.pointer p0_1, .pointer (some a3), .pointer (some a4), .int .i64 (IntKind.i64.wrap (n5 + 1))] wl1 w8))))
  (∃ (z8 : Value), Pu Tryz.prog (zeroValue 3) z8 ∧
    New z8.cells 3 wl1 fun k8 w22 =>
    ∃ (w23 : World), Sto Tryz.prog 3 (.pointer (some (⟨k8, 0, none⟩ : Addr))) (.int .i64 (-1)) w22 w23 ∧
    ∃ (z9 : Value), Pu Tryz.prog (zeroValue 3) z9 ∧
    New z9.cells 3 w23 fun k9 w24 =>
    ∃ (w25 : World), Sto Tryz.prog 3 (.pointer (some (⟨k9, 0, none⟩ : Addr))) (.int .i64 0) w24 w25 ∧
    callF Tryz.prog 61 #[.pointer p0_1] w25 fun r68 w26 =>
    ∃ (v68 : Value), r68 = v68 ∧
    RangeF Tryz.prog (v68) #[.pointer p0_1, r_1 1, r_1 2, .pointer (some a3), .pointer (some a4), .int .i64 n5, r_1 6, r_1 7, .pointer (some (⟨k8, 0, none⟩ : Addr)), .pointer (some (⟨k9, 0, none⟩ : Addr)), r_1 10, r_1 11, r_1 12, .int .i64 n5, .bool (decide (n5 ≤ 3)), r_1 15, r_1 16, r_1 17, r_1 18, r_1 19, r_1 20, r_1 21, r_1 22, r_1 23, r_1 24, r_1 25, r_1 26, r_1 27, r_1 28, r_1 29, r_1 30, r_1 31, r_1 32, r_1 33, r_1 34, r_1 35, r_1 36, r_1 37, r_1 38, r_1 39, r_1 40, r_1 41, r_1 42, r_1 43, r_1 44, r_1 45, r_1 46, r_1 47, r_1 48, r_1 49, r_1 50, r_1 51, r_1 52, r_1 53, r_1 54, r_1 55, r_1 56, r_1 57, r_1 58, r_1 59, r_1 60, r_1 61, r_1 62, r_1 63, r_1 64, r_1 65, r_1 66, .pointer p0_1, v68, r_1 69, r_1 70, r_1 71, r_1 72, r_1 73, r_1 74, r_1 75, r_1 76, r_1 77, r_1 78, r_1 79, r_1 80, r_1 81, r_1 82, r_1 83, r_1 84, r_1 85, r_1 86, r_1 87, r_1 88, r_1 89, r_1 90, r_1 91, r_1 92, r_1 93, r_1 94, r_1 95, r_1 96, r_1 97, r_1 98, r_1 99, r_1 100, r_1 101, r_1 102, r_1 103, r_1 104] (law18_Agree_rf 0) w26 (fun krf w28 =>
      law18_Agree_j2 a3 a4 (⟨k9, 0, none⟩ : Addr) krf w28 Q) (fun krf w28 =>
      ∃ (w29 : World), Tk Tryz.prog krf w28 w29 ∧
      ∃ (a4_8 : Addr) (v4_7 : Value), (.pointer (some a4) : Value) = .pointer (some a4_8) ∧ (loadVar 4 a4_8).run Tryz.prog w29 = .ok v4_7 w29 ∧
      Q (v4_7) w29))
def law18_Agree_tt : Nat → List (Nat × TypeId) := fun n => match n with | 0 => [(0, 39), (3, 1000000), (4, 1000000), (5, 3)] | 4 => [(3, 1000000), (4, 1000000), (9, 1000000), (12, 3)] | _ => []
theorem law18_Agree_call (p0 : Option Addr) (p1 : Option Addr) (w : World) (Q : Value → World → Prop) (h : law18_Agree p0 p1 w Q) : callF Tryz.prog 25 #[.pointer p0, .pointer p1] w Q :=
  callF_of (fun _ _ => by kernel_rfl) (callK_of_sw law18_Agree_tt Tryz.func25 rfl (by kernel_rfl) (show sw Tryz.prog none 105 law18_Agree_tt _ 0 (endK Tryz.prog [.cell 4 4] Q) ⟨regs [.pointer p0, .pointer p1], []⟩ w from
    Eq.mp (by kernel_rfl : law18_Agree p0 p1 w Q = sw Tryz.prog none 105 law18_Agree_tt (Tryz.f25.body.getD .skip) 0 (endK Tryz.prog [.cell 4 4] Q) ⟨regs [.pointer p0, .pointer p1], []⟩ w) h))
def law18_Agree_y0_j1 (l : Nat) (a8 : Addr) (a9 : Addr) (n10 : Int) (w : World) (Q : Value → World → Prop) : Prop :=
  ∃ (w1 : World), Sto Tryz.prog 3 (.pointer (some a8)) (.int .i64 n10) w w1 ∧
  ∃ (n92 : Int), Ld Tryz.prog 3 (.pointer (some a9)) w1 (.int .i64 n92) ∧
  ∃ (w2 : World), Sto Tryz.prog 3 (.pointer (some a9)) (.int .i64 (IntKind.i64.wrap (n92 + 1))) w1 w2 ∧
  EndR Tryz.prog l none true w2 Q
def law18_Agree_y0_j2 (l : Nat) (a4 : Addr) (a8 : Addr) (a9 : Addr) (n10 : Int) (b90 : Bool) (w : World) (Q : Value → World → Prop) : Prop :=
  cond b90
  (∃ (w1 : World), Sto Tryz.prog 4 (.pointer (some a4)) (.bool false) w w1 ∧
    EndR Tryz.prog l (some .ret) false w1 Q)
  (law18_Agree_y0_j1 l a8 a9 n10 w Q)
def law18_Agree_y0 (a3 : Addr) (a4 : Addr) (a8 : Addr) (a9 : Addr) (n69 : Int) (cs70 : Array Value) (l : Nat) (w : World) (Q : Value → World → Prop) : Prop :=
  ∃ (z11 : Value), Pu Tryz.prog (zeroValue 50) z11 ∧
  New z11.cells 50 w fun k11 w1 =>
  ∃ (w2 : World), Sto Tryz.prog 50 (.pointer (some (⟨k11, 0, none⟩ : Addr))) (.agg cs70) w1 w2 ∧
  BegR Tryz.prog l w2 fun w3 =>
  ∃ (S14 : World → Prop),
  Drw w3 fun w4 =>
  ∃ (n72 : Int), Ld Tryz.prog 3 (.pointer (some a8)) w4 (.int .i64 n72) ∧
  (w4 = w4 ∨ S14 w4) ∧
  cond (decide (n69 ≤ n72))
  (law18_Agree_y0_j2 l a4 a8 a9 n69 true w4 Q)
  (∃ (p75 : Option Addr), Ld Tryz.prog 41 (.pointer (some a3)) w4 (.pointer p75) ∧
    (w4 = w4 ∨ S14 w4) ∧
    callF Tryz.prog 66 #[.pointer p75, .int .i64 n69] w4 fun r77 w5 =>
    ∃ (b77 : Bool), r77 = .bool b77 ∧
    (w5 = w4 ∨ S14 w5) ∧
    cond (!b77)
    (law18_Agree_y0_j2 l a4 a8 a9 n69 true w5 Q)
    (∃ (cs81 : Array Value), HLd Tryz.prog S14 50 (.pointer (some (⟨k11, 0, none⟩ : Addr))) w5 (.agg cs81) ∧
      ∃ (p83 : Option Addr), HLd Tryz.prog S14 41 (.pointer (some a3)) w5 (.pointer p83) ∧
      ∃ (a85 : Addr), p83 = some a85 ∧
      ∃ (a87 : Addr), IxA Tryz.prog 45 (.pointer (some (a85.add 0))) (.int .i64 n69) a87 ∧
      ∃ (cs88 : Array Value), HLd Tryz.prog S14 44 (.pointer (some a87)) w5 (.agg cs88) ∧
      callF Tryz.prog 64 #[.agg cs81] w5 fun r82 w6 =>
      ∃ (cs82 : Array Value), r82 = .agg cs82 ∧
      (w6 = w5 ∨ S14 w6) ∧
      ∃ (b89 : Bool) (w7 : World), Ef Tryz.prog (do eqGuard .neq 44 (.tmp 82) (.tmp 88) (.agg cs82) (.agg cs88); binOp .neq 44 (.agg cs82) (.agg cs88) : Sem Value) w6 (.bool b89) w7 ∧
      law18_Agree_y0_j2 l a4 a8 a9 n69 b89 w7 Q))
def law18_Agree_y0_t1 : Nat → List (Nat × TypeId) := fun _ => []
def law18_Agree_y0_t2 : Nat → List (Nat × TypeId) := fun _ => []
theorem law18_Agree_y0_call (a3 : Addr) (a4 : Addr) (a8 : Addr) (a9 : Addr) (n69 : Int) (cs70 : Array Value) {x0 x1 x2 x5 x6 x7 x10 x11 x12 x13 x14 x15 x16 x17 x18 x19 x20 x21 x22 x23 x24 x25 x26 x27 x28 x29 x30 x31 x32 x33 x34 x35 x36 x37 x38 x39 x40 x41 x42 x43 x44 x45 x46 x47 x48 x49 x50 x51 x52 x53 x54 x55 x56 x57 x58 x59 x60 x61 x62 x63 x64 x65 x66 x67 x68 x69 x70 x71 x72 x73 x74 x75 x76 x77 x78 x79 x80 x81 x82 x83 x84 x85 x86 x87 x88 x89 x90 x91 x92 x93 x94 x95 x96 x97 x98 x99 x100 x101 x102 x103 x104 : Value} {l df : Nat} {fn : FuncId} {w : World} {Q : Value → World → Prop} (h : LpAt w l (rec0 fn #[x0, x1, x2, .pointer (some a3), .pointer (some a4), x5, x6, x7, .pointer (some a8), .pointer (some a9), x10, x11, x12, x13, x14, x15, x16, x17, x18, x19, x20, x21, x22, x23, x24, x25, x26, x27, x28, x29, x30, x31, x32, x33, x34, x35, x36, x37, x38, x39, x40, x41, x42, x43, x44, x45, x46, x47, x48, x49, x50, x51, x52, x53, x54, x55, x56, x57, x58, x59, x60, x61, x62, x63, x64, x65, x66, x67, x68, x69, x70, x71, x72, x73, x74, x75, x76, x77, x78, x79, x80, x81, x82, x83, x84, x85, x86, x87, x88, x89, x90, x91, x92, x93, x94, x95, x96, x97, x98, x99, x100, x101, x102, x103, x104] (law18_Agree_rf 0).1 (law18_Agree_rf 0).2.1 (law18_Agree_rf 0).2.2 df)) (hq : law18_Agree_y0 a3 a4 a8 a9 n69 cs70 l w Q) : callV Tryz.prog (.func (.yield l) #[] #[]) [.int .i64 n69, .agg cs70] w Q := by
  have e : law18_Agree_y0 a3 a4 a8 a9 n69 cs70 l w Q = sw Tryz.prog (some l) 105 law18_Agree_y0_t1 (law18_Agree_rf 0).2.1 0 (begK Tryz.prog l 105 law18_Agree_y0_t2 (law18_Agree_rf 0).2.2 Q) ⟨regs [x0, x1, x2, .pointer (some a3), .pointer (some a4), x5, x6, x7, .pointer (some a8), .pointer (some a9), x10, x11, x12, x13, x14, x15, x16, x17, x18, x19, x20, x21, x22, x23, x24, x25, x26, x27, x28, x29, x30, x31, x32, x33, x34, x35, x36, x37, x38, x39, x40, x41, x42, x43, x44, x45, x46, x47, x48, x49, x50, x51, x52, x53, x54, x55, x56, x57, x58, x59, x60, x61, x62, x63, x64, x65, x66, x67, x68, .int .i64 n69, .agg cs70, x71, x72, x73, x74, x75, x76, x77, x78, x79, x80, x81, x82, x83, x84, x85, x86, x87, x88, x89, x90, x91, x92, x93, x94, x95, x96, x97, x98, x99, x100, x101, x102, x103, x104], []⟩ w := by kernel_rfl
  have h2 := round_of_sw (f := fn) law18_Agree_y0_t1 law18_Agree_y0_t2 (nt := 105) (by kernel_rfl) (Eq.mp e hq)
  refine yield_r h ?_ ?_ h2
  · kernel_rfl
  · kernel_rfl
end Go.Sh
end
