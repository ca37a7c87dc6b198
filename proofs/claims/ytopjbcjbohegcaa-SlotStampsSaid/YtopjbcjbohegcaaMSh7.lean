/- A part of a proof of a given law of this program: lemmas, printed forms of its functions, contracts. It has no conditions of its own. -/
import Derived.Test.YtopjbcjbohegcaaProg
import Derived.Test.YtopjbcjbohegcaaMFw
import Derived.Test.YtopjbcjbohegcaaMFw3

section
namespace Go.Sh
open Go Go.Fw Go.Proofs
set_option maxRecDepth 100000
set_option linter.unusedVariables false

def slot_New  (w : World) (Q : Value → World → Prop) : Prop :=
  New #[.int .i64 0, .int .i64 0, .int .i64 0, .int .u8 0, .int .u8 0, .int .u8 0, .int .u8 0, .int .u8 0, .int .u8 0, .int .u8 0, .int .u8 0, .int .u8 0, .int .u8 0, .int .u8 0, .int .u8 0, .int .u8 0, .int .u8 0, .int .u8 0, .int .u8 0, .int .i64 0, .int .i64 0, .int .i64 0, .int .i64 0, .int .u8 0, .int .u8 0, .int .u8 0, .int .u8 0, .int .u8 0, .int .u8 0, .int .u8 0, .int .u8 0, .int .u8 0, .int .u8 0, .int .u8 0, .int .u8 0, .int .u8 0, .int .u8 0, .int .u8 0, .int .u8 0, .int .i64 0, .int .i64 0, .int .i64 0, .int .i64 0, .int .u8 0, .int .u8 0, .int .u8 0, .int .u8 0, .int .u8 0, .int .u8 0, .int .u8 0, .int .u8 0, .int .u8 0, .int .u8 0, .int .u8 0, .int .u8 0, .int .u8 0, .int .u8 0, .int .u8 0, .int .u8 0, .int .i64 0, .int .i64 0] 118 w fun k2 w1 =>
  Q (.pointer (some (⟨k2, 0, none⟩ : Addr))) w1
def slot_New_tt : Nat → List (Nat × TypeId) := fun _ => []
theorem slot_New_call  (w : World) (Q : Value → World → Prop) (h : slot_New  w Q) : callF Try.prog 33 #[] w Q :=
  callF_of (fun _ _ => by kernel_rfl) (callK_of_sw slot_New_tt Try.func33 rfl (by kernel_rfl) (show sw Try.prog none 3 slot_New_tt _ 0 (endK Try.prog [.tmp 0] Q) ⟨regs [], []⟩ w from
    Eq.mp (by kernel_rfl : slot_New  w Q = sw Try.prog none 3 slot_New_tt (Try.f33.body.getD .skip) 0 (endK Try.prog [.tmp 0] Q) ⟨regs [], []⟩ w) h))

def slot_Slots_Install_j1 (p0 : Option Addr) (a5 : Addr) (n6 : Int) (p7 : Option Addr) (w : World) (Q : Value → World → Prop) : Prop :=
  ∃ (a25 : Addr), p0 = some a25 ∧
  ∃ (n27 : Int), Ld Try.prog 2 (.pointer (some (a25.add 60))) w (.int .i64 n27) ∧
  ∃ (a29 : Addr), p0 = some a29 ∧
  ∃ (w1 : World), Sto Try.prog 2 (.pointer (some (a29.add 60))) (.int .i64 (IntKind.i64.wrap (n27 + 1))) w w1 ∧
  ∃ (S9 : World → Prop),
  Drw w1 fun w2 =>
  ∃ (a34 : Addr), p0 = some a34 ∧
  ∃ (cs32 : Array Value), HLd Try.prog S9 67 (.pointer (some a5)) w2 (.agg cs32) ∧
  ∃ (n36 : Int), Ld Try.prog 2 (.pointer (some (a34.add 60))) w2 (.int .i64 n36) ∧
  (w2 = w2 ∨ S9 w2) ∧
  ∃ (cs37 : Array Value), Pu Try.prog (Instr.build 115 #[(0, .agg cs32), (1, .int .i64 n36)]) (.agg cs37) ∧
  ∃ (a38 : Addr), p7 = some a38 ∧
  ∃ (w3 : World), Sto Try.prog 115 (.pointer (some a38)) (.agg cs37) w2 w3 ∧
  Q (.int .i64 0) w3
def slot_Slots_Install (p0 : Option Addr) (n1 : Int) (cs2 : Array Value) (w : World) (Q : Value → World → Prop) : Prop :=
  New cs2 67 w fun k5 w1 =>
  callF Try.prog 63 #[.pointer p0, .int .i64 n1] w1 fun r10 w2 =>
  ∃ (p10 : Option Addr), r10 = .pointer p10 ∧
  ∃ (b13 : Bool) (w3 : World), Ef Try.prog (do eqGuard .eql 119 (.tmp 12) (.const (.pointer none)) (.pointer p10) (.pointer none); binOp .eql 119 (.pointer p10) (.pointer none) : Sem Value) w2 (.bool b13) w3 ∧
  cond b13
  (Q (.int .i64 11) w3)
  (∃ (cs15 : Array Value), Ld Try.prog 67 (.pointer (some (⟨k5, 0, none⟩ : Addr))) w3 (.agg cs15) ∧
    callF Try.prog 64 #[.agg cs15] w3 fun r16 w4 =>
    ∃ (b16 : Bool), r16 = .bool b16 ∧
    cond (!b16)
    (Q (.int .i64 10) w4)
    (∃ (a20 : Addr), p10 = some a20 ∧
      ∃ (n22 : Int), Ld Try.prog 2 (.pointer (some (a20.add 19))) w4 (.int .i64 n22) ∧
      cond (n22 != 0)
      (Q (.int .i64 16) w4)
      (slot_Slots_Install_j1 p0 (⟨k5, 0, none⟩ : Addr) 0 p10 w4 Q)))
def slot_Slots_Install_tt : Nat → List (Nat × TypeId) := fun _ => []
theorem slot_Slots_Install_call (p0 : Option Addr) (n1 : Int) (cs2 : Array Value) (w : World) (Q : Value → World → Prop) (h : slot_Slots_Install p0 n1 cs2 w Q) : callF Try.prog 34 #[.pointer p0, .int .i64 n1, .agg cs2] w Q :=
  callF_of (fun _ _ => by kernel_rfl) (callK_of_sw slot_Slots_Install_tt Try.func34 rfl (by kernel_rfl) (show sw Try.prog none 39 slot_Slots_Install_tt _ 0 (endK Try.prog [.tmp 6] Q) ⟨regs [.pointer p0, .int .i64 n1, .agg cs2], []⟩ w from
    Eq.mp (by kernel_rfl : slot_Slots_Install p0 n1 cs2 w Q = sw Try.prog none 39 slot_Slots_Install_tt (Try.f34.body.getD .skip) 0 (endK Try.prog [.tmp 6] Q) ⟨regs [.pointer p0, .int .i64 n1, .agg cs2], []⟩ w) h))

def slot_Slots_Stamp (p0 : Option Addr) (n1 : Int) (w : World) (Q : Value → World → Prop) : Prop :=
  callF Try.prog 63 #[.pointer p0, .int .i64 n1] w fun r8 w1 =>
  ∃ (p8 : Option Addr), r8 = .pointer p8 ∧
  ∃ (b10 : Bool) (w2 : World), Ef Try.prog (do eqGuard .neq 119 (.tmp 9) (.const (.pointer none)) (.pointer p8) (.pointer none); binOp .neq 119 (.pointer p8) (.pointer none) : Sem Value) w1 (.bool b10) w2 ∧
  cond b10
  (∃ (a12 : Addr), p8 = some a12 ∧
    ∃ (n14 : Int), Ld Try.prog 2 (.pointer (some (a12.add 19))) w2 (.int .i64 n14) ∧
    Q (.int .i64 n14) w2)
  (Q (.int .i64 0) w2)
def slot_Slots_Stamp_tt : Nat → List (Nat × TypeId) := fun _ => []
theorem slot_Slots_Stamp_call (p0 : Option Addr) (n1 : Int) (w : World) (Q : Value → World → Prop) (h : slot_Slots_Stamp p0 n1 w Q) : callF Try.prog 35 #[.pointer p0, .int .i64 n1] w Q :=
  callF_of (fun _ _ => by kernel_rfl) (callK_of_sw slot_Slots_Stamp_tt Try.func35 rfl (by kernel_rfl) (show sw Try.prog none 15 slot_Slots_Stamp_tt _ 0 (endK Try.prog [.tmp 4] Q) ⟨regs [.pointer p0, .int .i64 n1], []⟩ w from
    Eq.mp (by kernel_rfl : slot_Slots_Stamp p0 n1 w Q = sw Try.prog none 15 slot_Slots_Stamp_tt (Try.f35.body.getD .skip) 0 (endK Try.prog [.tmp 4] Q) ⟨regs [.pointer p0, .int .i64 n1], []⟩ w) h))

def slot_Slots_Retire_j1 (n4 : Int) (p5 : Option Addr) (w : World) (Q : Value → World → Prop) : Prop :=
  ∃ (a20 : Addr), p5 = some a20 ∧
  ∃ (w1 : World), Sto Try.prog 115 (.pointer (some a20)) (.agg #[.int .i64 0, .int .i64 0, .int .i64 0, .int .u8 0, .int .u8 0, .int .u8 0, .int .u8 0, .int .u8 0, .int .u8 0, .int .u8 0, .int .u8 0, .int .u8 0, .int .u8 0, .int .u8 0, .int .u8 0, .int .u8 0, .int .u8 0, .int .u8 0, .int .u8 0, .int .i64 0]) w w1 ∧
  Q (.int .i64 0) w1
def slot_Slots_Retire (p0 : Option Addr) (n1 : Int) (w : World) (Q : Value → World → Prop) : Prop :=
  callF Try.prog 63 #[.pointer p0, .int .i64 n1] w fun r8 w1 =>
  ∃ (p8 : Option Addr), r8 = .pointer p8 ∧
  ∃ (b11 : Bool) (w2 : World), Ef Try.prog (do eqGuard .eql 119 (.tmp 10) (.const (.pointer none)) (.pointer p8) (.pointer none); binOp .eql 119 (.pointer p8) (.pointer none) : Sem Value) w1 (.bool b11) w2 ∧
  cond b11
  (Q (.int .i64 11) w2)
  (∃ (a14 : Addr), p8 = some a14 ∧
    ∃ (cs15 : Array Value), Ld Try.prog 115 (.pointer (some a14)) w2 (.agg cs15) ∧
    ∃ (b17 : Bool) (w3 : World), Ef Try.prog (do eqGuard .eql 115 (.tmp 15) (.tmp 16) (.agg cs15) (.agg #[.int .i64 0, .int .i64 0, .int .i64 0, .int .u8 0, .int .u8 0, .int .u8 0, .int .u8 0, .int .u8 0, .int .u8 0, .int .u8 0, .int .u8 0, .int .u8 0, .int .u8 0, .int .u8 0, .int .u8 0, .int .u8 0, .int .u8 0, .int .u8 0, .int .u8 0, .int .i64 0]); binOp .eql 115 (.agg cs15) (.agg #[.int .i64 0, .int .i64 0, .int .i64 0, .int .u8 0, .int .u8 0, .int .u8 0, .int .u8 0, .int .u8 0, .int .u8 0, .int .u8 0, .int .u8 0, .int .u8 0, .int .u8 0, .int .u8 0, .int .u8 0, .int .u8 0, .int .u8 0, .int .u8 0, .int .u8 0, .int .i64 0]) : Sem Value) w2 (.bool b17) w3 ∧
    cond b17
    (Q (.int .i64 17) w3)
    (slot_Slots_Retire_j1 0 p8 w3 Q))
def slot_Slots_Retire_tt : Nat → List (Nat × TypeId) := fun _ => []
theorem slot_Slots_Retire_call (p0 : Option Addr) (n1 : Int) (w : World) (Q : Value → World → Prop) (h : slot_Slots_Retire p0 n1 w Q) : callF Try.prog 36 #[.pointer p0, .int .i64 n1] w Q :=
  callF_of (fun _ _ => by kernel_rfl) (callK_of_sw slot_Slots_Retire_tt Try.func36 rfl (by kernel_rfl) (show sw Try.prog none 21 slot_Slots_Retire_tt _ 0 (endK Try.prog [.tmp 4] Q) ⟨regs [.pointer p0, .int .i64 n1], []⟩ w from
    Eq.mp (by kernel_rfl : slot_Slots_Retire p0 n1 w Q = sw Try.prog none 21 slot_Slots_Retire_tt (Try.f36.body.getD .skip) 0 (endK Try.prog [.tmp 4] Q) ⟨regs [.pointer p0, .int .i64 n1], []⟩ w) h))

def slot_Slots_Short_j1 (a4 : Addr) (n5 : Int) (p6 : Option Addr) (l6 : Nat) (c6 : Nat) (a7 : Addr) (w : World) (Q : Value → World → Prop) : Prop :=
  ∃ (S9 : World → Prop),
  Drw w fun w1 =>
  ∃ (cs35 : Array Value), HLd Try.prog S9 67 (.pointer (some a7)) w1 (.agg cs35) ∧
  ∃ (cs37 : Array Value), Ld Try.prog 67 (.pointer (some a7)) w1 (.agg cs37) ∧
  (w1 = w1 ∨ S9 w1) ∧
  callF Try.prog 39 #[.agg cs37] w1 fun r38 w2 =>
  ∃ (n38 : Int), r38 = .int .i64 n38 ∧
  (w2 = w1 ∨ S9 w2) ∧
  ∃ (p39 : Option Addr) (l39 : Nat) (c39 : Nat), Pu Try.prog (Instr.sliceAt 23 (.slice p6 l6 c6) none (some (.int .i64 n38)) none) (.slice p39 l39 c39) ∧
  callF Try.prog 66 #[.agg cs35, .slice p39 l39 c39] w2 fun r40 w3 =>
  ∃ (n40 : Int) (p40 : Option Addr) (l40 : Nat) (c40 : Nat) (p40_1 : Option Addr) (l40_1 : Nat) (c40_1 : Nat) (n40_1 : Int), r40 = .tuple #[.agg #[.int .i64 n40, .slice p40 l40 c40, .slice p40_1 l40_1 c40_1], .int .i64 n40_1] ∧
  ∃ (w4 : World), Sto Try.prog 73 (.pointer (some a4)) (.agg #[.int .i64 n40, .slice p40 l40 c40, .slice p40_1 l40_1 c40_1]) w3 w4 ∧
  ∃ (a4_1 : Addr) (v4 : Value), (.pointer (some a4) : Value) = .pointer (some a4_1) ∧ (loadVar 73 a4_1).run Try.prog w4 = .ok v4 w4 ∧
  Q (.tuple #[v4, .int .i64 n40_1]) w4
def slot_Slots_Short (p0 : Option Addr) (p1 : Option Addr) (l1 : Nat) (c1 : Nat) (w : World) (Q : Value → World → Prop) : Prop :=
  ∃ (z4 : Value), Pu Try.prog (zeroValue 73) z4 ∧
  New z4.cells 73 w fun k4 w1 =>
  cond (decide (((l1 : Nat) : Int) < 2))
  (∃ (w2 : World), Sto Try.prog 73 (.pointer (some (⟨k4, 0, none⟩ : Addr))) (.agg #[.int .i64 0, .slice none 0 0, .slice none 0 0]) w1 w2 ∧
    ∃ (a4 : Addr) (v4 : Value), (.pointer (some (⟨k4, 0, none⟩ : Addr)) : Value) = .pointer (some a4) ∧ (loadVar 73 a4).run Try.prog w2 = .ok v4 w2 ∧
    Q (.tuple #[v4, .int .i64 12]) w2)
  (∃ (p14 : Option Addr) (l14 : Nat) (c14 : Nat), Pu Try.prog (Instr.sliceAt 23 (.slice p1 l1 c1) (some (.int .i64 1)) none none) (.slice p14 l14 c14) ∧
    ∃ (a18 : Addr), IxA Try.prog 23 (.slice p14 l14 c14) (.int .i64 0) a18 ∧
    ∃ (n19 : Int), Ld Try.prog 5 (.pointer (some a18)) w1 (.int .u8 n19) ∧
    callF Try.prog 65 #[.int .u8 n19] w1 fun r20 w3 =>
    ∃ (n20 : Int), r20 = .int .i64 n20 ∧
    callF Try.prog 38 #[.pointer p0, .int .i64 n20] w3 fun r21 w4 =>
    ∃ (cs21 : Array Value) (b21 : Bool), r21 = .tuple #[.agg cs21, .bool b21] ∧
    ∃ (z7 : Value), Pu Try.prog (zeroValue 67) z7 ∧
    New z7.cells 67 w4 fun k7 w5 =>
    ∃ (w6 : World), Sto Try.prog 67 (.pointer (some (⟨k7, 0, none⟩ : Addr))) (.agg cs21) w5 w6 ∧
    cond (!b21)
    (∃ (w7 : World), Sto Try.prog 73 (.pointer (some (⟨k4, 0, none⟩ : Addr))) (.agg #[.int .i64 0, .slice none 0 0, .slice none 0 0]) w6 w7 ∧
      ∃ (a4_1 : Addr) (v4_1 : Value), (.pointer (some (⟨k4, 0, none⟩ : Addr)) : Value) = .pointer (some a4_1) ∧ (loadVar 73 a4_1).run Try.prog w7 = .ok v4_1 w7 ∧
      Q (.tuple #[v4_1, .int .i64 17]) w7)
    (∃ (cs31 : Array Value), Ld Try.prog 67 (.pointer (some (⟨k7, 0, none⟩ : Addr))) w6 (.agg cs31) ∧
      callF Try.prog 39 #[.agg cs31] w6 fun r32 w8 =>
      ∃ (n32 : Int), r32 = .int .i64 n32 ∧
      cond (decide (((l14 : Nat) : Int) < n32))
      (∃ (w9 : World), Sto Try.prog 73 (.pointer (some (⟨k4, 0, none⟩ : Addr))) (.agg #[.int .i64 0, .slice none 0 0, .slice none 0 0]) w8 w9 ∧
        ∃ (a4_2 : Addr) (v4_2 : Value), (.pointer (some (⟨k4, 0, none⟩ : Addr)) : Value) = .pointer (some a4_2) ∧ (loadVar 73 a4_2).run Try.prog w9 = .ok v4_2 w9 ∧
        Q (.tuple #[v4_2, .int .i64 12]) w9)
      (slot_Slots_Short_j1 (⟨k4, 0, none⟩ : Addr) 0 p14 l14 c14 (⟨k7, 0, none⟩ : Addr) w8 Q)))
def slot_Slots_Short_tt : Nat → List (Nat × TypeId) := fun _ => []
theorem slot_Slots_Short_call (p0 : Option Addr) (p1 : Option Addr) (l1 : Nat) (c1 : Nat) (w : World) (Q : Value → World → Prop) (h : slot_Slots_Short p0 p1 l1 c1 w Q) : callF Try.prog 37 #[.pointer p0, .slice p1 l1 c1] w Q :=
  callF_of (fun _ _ => by kernel_rfl) (callK_of_sw slot_Slots_Short_tt Try.func37 rfl (by kernel_rfl) (show sw Try.prog none 43 slot_Slots_Short_tt _ 0 (endK Try.prog [.cell 4 73, .tmp 5] Q) ⟨regs [.pointer p0, .slice p1 l1 c1], []⟩ w from
    Eq.mp (by kernel_rfl : slot_Slots_Short p0 p1 l1 c1 w Q = sw Try.prog none 43 slot_Slots_Short_tt (Try.f37.body.getD .skip) 0 (endK Try.prog [.cell 4 73, .tmp 5] Q) ⟨regs [.pointer p0, .slice p1 l1 c1], []⟩ w) h))

def slot_Slots_Of_j1 (a4 : Addr) (b5 : Bool) (p6 : Option Addr) (w : World) (Q : Value → World → Prop) : Prop :=
  ∃ (a21 : Addr), p6 = some a21 ∧
  ∃ (cs23 : Array Value), Ld Try.prog 67 (.pointer (some (a21.add 0))) w (.agg cs23) ∧
  ∃ (w1 : World), Sto Try.prog 67 (.pointer (some a4)) (.agg cs23) w w1 ∧
  ∃ (a4_1 : Addr) (v4 : Value), (.pointer (some a4) : Value) = .pointer (some a4_1) ∧ (loadVar 67 a4_1).run Try.prog w1 = .ok v4 w1 ∧
  Q (.tuple #[v4, .bool true]) w1
def slot_Slots_Of_j2 (a4 : Addr) (b5 : Bool) (p6 : Option Addr) (b18 : Bool) (w : World) (Q : Value → World → Prop) : Prop :=
  cond b18
  (∃ (w1 : World), Sto Try.prog 67 (.pointer (some a4)) (.agg #[.int .i64 0, .int .i64 0, .int .i64 0, .int .u8 0, .int .u8 0, .int .u8 0, .int .u8 0, .int .u8 0, .int .u8 0, .int .u8 0, .int .u8 0, .int .u8 0, .int .u8 0, .int .u8 0, .int .u8 0, .int .u8 0, .int .u8 0, .int .u8 0, .int .u8 0]) w w1 ∧
    ∃ (a4_1 : Addr) (v4 : Value), (.pointer (some a4) : Value) = .pointer (some a4_1) ∧ (loadVar 67 a4_1).run Try.prog w1 = .ok v4 w1 ∧
    Q (.tuple #[v4, .bool false]) w1)
  (slot_Slots_Of_j1 a4 b5 p6 w Q)
def slot_Slots_Of (p0 : Option Addr) (n1 : Int) (w : World) (Q : Value → World → Prop) : Prop :=
  ∃ (z4 : Value), Pu Try.prog (zeroValue 67) z4 ∧
  New z4.cells 67 w fun k4 w1 =>
  callF Try.prog 63 #[.pointer p0, .int .i64 n1] w1 fun r9 w2 =>
  ∃ (p9 : Option Addr), r9 = .pointer p9 ∧
  ∃ (b11 : Bool) (w3 : World), Ef Try.prog (do eqGuard .eql 119 (.tmp 10) (.const (.pointer none)) (.pointer p9) (.pointer none); binOp .eql 119 (.pointer p9) (.pointer none) : Sem Value) w2 (.bool b11) w3 ∧
  cond b11
  (slot_Slots_Of_j2 (⟨k4, 0, none⟩ : Addr) false p9 true w3 Q)
  (∃ (a14 : Addr), p9 = some a14 ∧
    ∃ (n16 : Int), Ld Try.prog 2 (.pointer (some (a14.add 19))) w3 (.int .i64 n16) ∧
    slot_Slots_Of_j2 (⟨k4, 0, none⟩ : Addr) false p9 (n16 == 0) w3 Q)
def slot_Slots_Of_tt : Nat → List (Nat × TypeId) := fun _ => []
theorem slot_Slots_Of_call (p0 : Option Addr) (n1 : Int) (w : World) (Q : Value → World → Prop) (h : slot_Slots_Of p0 n1 w Q) : callF Try.prog 38 #[.pointer p0, .int .i64 n1] w Q :=
  callF_of (fun _ _ => by kernel_rfl) (callK_of_sw slot_Slots_Of_tt Try.func38 rfl (by kernel_rfl) (show sw Try.prog none 24 slot_Slots_Of_tt _ 0 (endK Try.prog [.cell 4 67, .tmp 5] Q) ⟨regs [.pointer p0, .int .i64 n1], []⟩ w from
    Eq.mp (by kernel_rfl : slot_Slots_Of p0 n1 w Q = sw Try.prog none 24 slot_Slots_Of_tt (Try.f38.body.getD .skip) 0 (endK Try.prog [.cell 4 67, .tmp 5] Q) ⟨regs [.pointer p0, .int .i64 n1], []⟩ w) h))

def slot_Slots_Show (p0 : Option Addr) (p1 : Option Addr) (l1 : Nat) (c1 : Nat) (w : World) (Q : Value → World → Prop) : Prop :=
  ∃ (z4 : Value), Pu Try.prog (zeroValue 73) z4 ∧
  New z4.cells 73 w fun k4 w1 =>
  cond (((l1 : Nat) : Int) == 0)
  (∃ (w2 : World), Sto Try.prog 73 (.pointer (some (⟨k4, 0, none⟩ : Addr))) (.agg #[.int .i64 0, .slice none 0 0, .slice none 0 0]) w1 w2 ∧
    ∃ (a4 : Addr) (v4 : Value), (.pointer (some (⟨k4, 0, none⟩ : Addr)) : Value) = .pointer (some a4) ∧ (loadVar 73 a4).run Try.prog w2 = .ok v4 w2 ∧
    Q (.tuple #[v4, .int .i64 12]) w2)
  (∃ (a15 : Addr), IxA Try.prog 23 (.slice p1 l1 c1) (.int .i64 0) a15 ∧
    ∃ (n16 : Int), Ld Try.prog 5 (.pointer (some a15)) w1 (.int .u8 n16) ∧
    callF Try.prog 65 #[.int .u8 n16] w1 fun r17 w3 =>
    ∃ (n17 : Int), r17 = .int .i64 n17 ∧
    callF Try.prog 38 #[.pointer p0, .int .i64 n17] w3 fun r18 w4 =>
    ∃ (cs18 : Array Value) (b18 : Bool), r18 = .tuple #[.agg cs18, .bool b18] ∧
    ∃ (z6 : Value), Pu Try.prog (zeroValue 67) z6 ∧
    New z6.cells 67 w4 fun k6 w5 =>
    ∃ (w6 : World), Sto Try.prog 67 (.pointer (some (⟨k6, 0, none⟩ : Addr))) (.agg cs18) w5 w6 ∧
    cond (!b18)
    (∃ (w7 : World), Sto Try.prog 73 (.pointer (some (⟨k4, 0, none⟩ : Addr))) (.agg #[.int .i64 0, .slice none 0 0, .slice none 0 0]) w6 w7 ∧
      ∃ (a4_1 : Addr) (v4_1 : Value), (.pointer (some (⟨k4, 0, none⟩ : Addr)) : Value) = .pointer (some a4_1) ∧ (loadVar 73 a4_1).run Try.prog w7 = .ok v4_1 w7 ∧
      Q (.tuple #[v4_1, .int .i64 17]) w7)
    (∃ (cs24 : Array Value), Ld Try.prog 67 (.pointer (some (⟨k6, 0, none⟩ : Addr))) w6 (.agg cs24) ∧
      callF Try.prog 66 #[.agg cs24, .slice p1 l1 c1] w6 fun r26 w8 =>
      ∃ (n26 : Int) (p26 : Option Addr) (l26 : Nat) (c26 : Nat) (p26_1 : Option Addr) (l26_1 : Nat) (c26_1 : Nat) (n26_1 : Int), r26 = .tuple #[.agg #[.int .i64 n26, .slice p26 l26 c26, .slice p26_1 l26_1 c26_1], .int .i64 n26_1] ∧
      ∃ (w9 : World), Sto Try.prog 73 (.pointer (some (⟨k4, 0, none⟩ : Addr))) (.agg #[.int .i64 n26, .slice p26 l26 c26, .slice p26_1 l26_1 c26_1]) w8 w9 ∧
      ∃ (a4_2 : Addr) (v4_2 : Value), (.pointer (some (⟨k4, 0, none⟩ : Addr)) : Value) = .pointer (some a4_2) ∧ (loadVar 73 a4_2).run Try.prog w9 = .ok v4_2 w9 ∧
      Q (.tuple #[v4_2, .int .i64 n26_1]) w9))
def slot_Slots_Show_tt : Nat → List (Nat × TypeId) := fun _ => []
theorem slot_Slots_Show_call (p0 : Option Addr) (p1 : Option Addr) (l1 : Nat) (c1 : Nat) (w : World) (Q : Value → World → Prop) (h : slot_Slots_Show p0 p1 l1 c1 w Q) : callF Try.prog 40 #[.pointer p0, .slice p1 l1 c1] w Q :=
  callF_of (fun _ _ => by kernel_rfl) (callK_of_sw slot_Slots_Show_tt Try.func40 rfl (by kernel_rfl) (show sw Try.prog none 29 slot_Slots_Show_tt _ 0 (endK Try.prog [.cell 4 73, .tmp 5] Q) ⟨regs [.pointer p0, .slice p1 l1 c1], []⟩ w from
    Eq.mp (by kernel_rfl : slot_Slots_Show p0 p1 l1 c1 w Q = sw Try.prog none 29 slot_Slots_Show_tt (Try.f40.body.getD .skip) 0 (endK Try.prog [.cell 4 73, .tmp 5] Q) ⟨regs [.pointer p0, .slice p1 l1 c1], []⟩ w) h))

def slot_Slots_All (p0 : Option Addr) (w : World) (Q : Value → World → Prop) : Prop :=
  New #[.pointer p0] 63 w fun k1 w1 =>
  Q (.func (.func 93) #[] #[.pointer (some (⟨k1, 0, none⟩ : Addr))]) w1
def slot_Slots_All_tt : Nat → List (Nat × TypeId) := fun _ => []
theorem slot_Slots_All_call (p0 : Option Addr) (w : World) (Q : Value → World → Prop) (h : slot_Slots_All p0 w Q) : callF Try.prog 61 #[.pointer p0] w Q :=
  callF_of (fun _ _ => by kernel_rfl) (callK_of_sw slot_Slots_All_tt Try.func61 rfl (by kernel_rfl) (show sw Try.prog none 4 slot_Slots_All_tt _ 0 (endK Try.prog [.tmp 2] Q) ⟨regs [.pointer p0], []⟩ w from
    Eq.mp (by kernel_rfl : slot_Slots_All p0 w Q = sw Try.prog none 4 slot_Slots_All_tt (Try.f61.body.getD .skip) 0 (endK Try.prog [.tmp 2] Q) ⟨regs [.pointer p0], []⟩ w) h))

def slot_Slots_Clone (p0 : Option Addr) (w : World) (Q : Value → World → Prop) : Prop :=
  ∃ (a5 : Addr), p0 = some a5 ∧
  ∃ (cs6 : Array Value), Ld Try.prog 118 (.pointer (some a5)) w (.agg cs6) ∧
  ∃ (z3 : Value), Pu Try.prog (zeroValue 118) z3 ∧
  New z3.cells 118 w fun k3 w1 =>
  ∃ (w2 : World), Sto Try.prog 118 (.pointer (some (⟨k3, 0, none⟩ : Addr))) (.agg cs6) w1 w2 ∧
  Q (.pointer (some (⟨k3, 0, none⟩ : Addr))) w2
def slot_Slots_Clone_tt : Nat → List (Nat × TypeId) := fun _ => []
theorem slot_Slots_Clone_call (p0 : Option Addr) (w : World) (Q : Value → World → Prop) (h : slot_Slots_Clone p0 w Q) : callF Try.prog 62 #[.pointer p0] w Q :=
  callF_of (fun _ _ => by kernel_rfl) (callK_of_sw slot_Slots_Clone_tt Try.func62 rfl (by kernel_rfl) (show sw Try.prog none 7 slot_Slots_Clone_tt _ 0 (endK Try.prog [.tmp 2] Q) ⟨regs [.pointer p0], []⟩ w from
    Eq.mp (by kernel_rfl : slot_Slots_Clone p0 w Q = sw Try.prog none 7 slot_Slots_Clone_tt (Try.f62.body.getD .skip) 0 (endK Try.prog [.tmp 2] Q) ⟨regs [.pointer p0], []⟩ w) h))

def slot_Slots_at_j1 (p0 : Option Addr) (n1 : Int) (p4 : Option Addr) (w : World) (Q : Value → World → Prop) : Prop :=
  ∃ (a13 : Addr), p0 = some a13 ∧
  ∃ (a15 : Addr), IxA Try.prog 116 (.pointer (some (a13.add 0))) (.int .i64 n1) a15 ∧
  Q (.pointer (some a15)) w
def slot_Slots_at (p0 : Option Addr) (n1 : Int) (w : World) (Q : Value → World → Prop) : Prop :=
  cond (decide (n1 < 0))
  (Q (.pointer none) w)
  (cond (decide (n1 ≥ 3))
    (Q (.pointer none) w)
    (slot_Slots_at_j1 p0 n1 none w Q))
def slot_Slots_at_tt : Nat → List (Nat × TypeId) := fun _ => []
theorem slot_Slots_at_call (p0 : Option Addr) (n1 : Int) (w : World) (Q : Value → World → Prop) (h : slot_Slots_at p0 n1 w Q) : callF Try.prog 63 #[.pointer p0, .int .i64 n1] w Q :=
  callF_of (fun _ _ => by kernel_rfl) (callK_of_sw slot_Slots_at_tt Try.func63 rfl (by kernel_rfl) (show sw Try.prog none 16 slot_Slots_at_tt _ 0 (endK Try.prog [.tmp 4] Q) ⟨regs [.pointer p0, .int .i64 n1], []⟩ w from
    Eq.mp (by kernel_rfl : slot_Slots_at p0 n1 w Q = sw Try.prog none 16 slot_Slots_at_tt (Try.f63.body.getD .skip) 0 (endK Try.prog [.tmp 4] Q) ⟨regs [.pointer p0, .int .i64 n1], []⟩ w) h))

def slot_Slots_All_c1 (v0 : Value) (p1 : Option Addr) (w : World) (Q : Value → World → Prop) : Prop :=
  ∃ (p5 : Option Addr), Ld Try.prog 63 (.pointer p1) w (.pointer p5) ∧
  ∃ (a6 : Addr), p5 = some a6 ∧
  ∃ (cs8 : Array Value), Ld Try.prog 116 (.pointer (some (a6.add 0))) w (.agg cs8) ∧
  LoopS [v0, .agg cs8, .int .i64 0] w fun I1 μ1 us1 _ wl1 =>
  ∃ (v0_1 : Value) (cs8_1 : Array Value) (n9 : Int), us1 = [v0_1, .agg cs8_1, .int .i64 n9] ∧
  cond (decide (n9 < 3))
  (∃ (cs12 : Array Value), Pu Try.prog (Instr.index 116 (.agg cs8_1) (.int .i64 n9)) (.agg cs12) ∧
    ∃ (z4 : Value), Pu Try.prog (zeroValue 115) z4 ∧
    New z4.cells 115 wl1 fun k4 w1 =>
    ∃ (w2 : World), Sto Try.prog 115 (.pointer (some (⟨k4, 0, none⟩ : Addr))) (.agg cs12) w1 w2 ∧
    ∃ (n14 : Int), Ld Try.prog 2 (.pointer (some ((⟨k4, 0, none⟩ : Addr).add 19))) w2 (.int .i64 n14) ∧
    cond (n14 != 0)
    (∃ (cs20 : Array Value), Ld Try.prog 67 (.pointer (some ((⟨k4, 0, none⟩ : Addr).add 0))) w2 (.agg cs20) ∧
      callV Try.prog (v0_1) [.int .i64 n9, .agg cs20] w2 fun r21 w3 =>
      ∃ (b21 : Bool), r21 = .bool b21 ∧
      cond (!b21)
      (Q (.tuple #[]) w3)
      (goesOn [] [] I1 μ1 us1 [v0_1, .agg cs8_1, .int .i64 (IntKind.i64.wrap (n9 + 1))] wl1 w3))
    (goesOn [] [] I1 μ1 us1 [v0_1, .agg cs8_1, .int .i64 (IntKind.i64.wrap (n9 + 1))] wl1 w2))
  (Q (.tuple #[]) wl1)
def slot_Slots_All_c1_tt : Nat → List (Nat × TypeId) := fun n => match n with | 0 => [(0, 176), (8, 116), (9, 3)] | _ => []
theorem slot_Slots_All_c1_call (v0 : Value) (p1 : Option Addr) (w : World) (Q : Value → World → Prop) (h : slot_Slots_All_c1 v0 p1 w Q) : callF Try.prog 93 #[v0, .pointer p1] w Q :=
  callF_of (fun _ _ => by kernel_rfl) (callK_of_sw slot_Slots_All_c1_tt Try.func93 rfl (by kernel_rfl) (show sw Try.prog none 25 slot_Slots_All_c1_tt _ 0 (endK Try.prog [] Q) ⟨regs [v0, .pointer p1], []⟩ w from
    Eq.mp (by kernel_rfl : slot_Slots_All_c1 v0 p1 w Q = sw Try.prog none 25 slot_Slots_All_c1_tt (Try.f93.body.getD .skip) 0 (endK Try.prog [] Q) ⟨regs [v0, .pointer p1], []⟩ w) h))
end Go.Sh
end

section
namespace Go.Sh
open Go Go.Fw Go.Proofs
set_option maxRecDepth 100000
set_option linter.unusedVariables false

def law18_SlotStamps_j1 (p1 : Option Addr) (l1 : Nat) (c1 : Nat) (b4 : Bool) (p5 : Option Addr) (a9 : Addr) (a11 : Addr) (w : World) (Q : Value → World → Prop) : Prop :=
  ∃ (cs110 : Array Value), Ld Try.prog 67 (.pointer (some a11)) w (.agg cs110) ∧
  callF Try.prog 39 #[.agg cs110] w fun r111 w1 =>
  ∃ (n111 : Int), r111 = .int .i64 n111 ∧
  ∃ (p113 : Option Addr) (l113 : Nat) (c113 : Nat), Pu Try.prog (Instr.sliceAt 23 (.slice p1 l1 c1) (some (.int .i64 1)) (some (.int .i64 (IntKind.i64.wrap (1 + n111)))) none) (.slice p113 l113 c113) ∧
  callF Try.prog 40 #[.pointer p5, .slice p113 l113 c113] w1 fun r114 w2 =>
  ∃ (n114 : Int) (p114 : Option Addr) (l114 : Nat) (c114 : Nat) (p114_1 : Option Addr) (l114_1 : Nat) (c114_1 : Nat) (n114_1 : Int), r114 = .tuple #[.agg #[.int .i64 n114, .slice p114 l114 c114, .slice p114_1 l114_1 c114_1], .int .i64 n114_1] ∧
  ∃ (z13 : Value), Pu Try.prog (zeroValue 73) z13 ∧
  New z13.cells 73 w2 fun k13 w3 =>
  ∃ (w4 : World), Sto Try.prog 73 (.pointer (some (⟨k13, 0, none⟩ : Addr))) (.agg #[.int .i64 n114, .slice p114 l114 c114, .slice p114_1 l114_1 c114_1]) w3 w4 ∧
  cond (n114_1 == 0)
  (∃ (n121 : Int), Ld Try.prog 3 (.pointer (some ((⟨k13, 0, none⟩ : Addr).add 0))) w4 (.int .i64 n121) ∧
    ∃ (n123 : Int), Ld Try.prog 3 (.pointer (some (a9.add 0))) w4 (.int .i64 n123) ∧
    cond (n121 == n123)
    (∃ (p128 : Option Addr) (l128 : Nat) (c128 : Nat), Ld Try.prog 23 (.pointer (some ((⟨k13, 0, none⟩ : Addr).add 1))) w4 (.slice p128 l128 c128) ∧
      ∃ (p130 : Option Addr) (l130 : Nat) (c130 : Nat), Ld Try.prog 23 (.pointer (some (a9.add 1))) w4 (.slice p130 l130 c130) ∧
      callF Try.prog 29 #[.slice p128 l128 c128, .slice p130 l130 c130] w4 fun r131 w5 =>
      ∃ (b131 : Bool), r131 = .bool b131 ∧
      cond b131
      (∃ (p135 : Option Addr) (l135 : Nat) (c135 : Nat), Ld Try.prog 23 (.pointer (some ((⟨k13, 0, none⟩ : Addr).add 2))) w5 (.slice p135 l135 c135) ∧
        ∃ (p137 : Option Addr) (l137 : Nat) (c137 : Nat), Ld Try.prog 23 (.pointer (some (a9.add 2))) w5 (.slice p137 l137 c137) ∧
        callF Try.prog 29 #[.slice p135 l135 c135, .slice p137 l137 c137] w5 fun r138 w6 =>
        ∃ (b138 : Bool), r138 = .bool b138 ∧
        Q (.bool b138) w6)
      (Q (.bool false) w5))
    (Q (.bool false) w4))
  (Q (.bool false) w4)
def law18_SlotStamps_j2 (p1 : Option Addr) (l1 : Nat) (c1 : Nat) (b4 : Bool) (p5 : Option Addr) (w : World) (Q : Value → World → Prop) : Prop :=
  callF Try.prog 37 #[.pointer p5, .slice p1 l1 c1] w fun r76 w1 =>
  ∃ (n76 : Int) (p76 : Option Addr) (l76 : Nat) (c76 : Nat) (p76_1 : Option Addr) (l76_1 : Nat) (c76_1 : Nat) (n76_1 : Int), r76 = .tuple #[.agg #[.int .i64 n76, .slice p76 l76 c76, .slice p76_1 l76_1 c76_1], .int .i64 n76_1] ∧
  ∃ (z9 : Value), Pu Try.prog (zeroValue 73) z9 ∧
  New z9.cells 73 w1 fun k9 w2 =>
  ∃ (w3 : World), Sto Try.prog 73 (.pointer (some (⟨k9, 0, none⟩ : Addr))) (.agg #[.int .i64 n76, .slice p76 l76 c76, .slice p76_1 l76_1 c76_1]) w2 w3 ∧
  cond (n76_1 != 0)
  (∃ (p82 : Option Addr) (l82 : Nat) (c82 : Nat), Ld Try.prog 23 (.pointer (some ((⟨k9, 0, none⟩ : Addr).add 1))) w3 (.slice p82 l82 c82) ∧
    cond (((l82 : Nat) : Int) == 0)
    (∃ (n87 : Int), Ld Try.prog 3 (.pointer (some ((⟨k9, 0, none⟩ : Addr).add 0))) w3 (.int .i64 n87) ∧
      Q (.bool (n87 == 0)) w3)
    (Q (.bool false) w3))
  (∃ (n93 : Int), Ld Try.prog 3 (.pointer (some ((⟨k9, 0, none⟩ : Addr).add 0))) w3 (.int .i64 n93) ∧
    callF Try.prog 38 #[.pointer p5, .int .i64 n93] w3 fun r94 w4 =>
    ∃ (cs94 : Array Value) (b94 : Bool), r94 = .tuple #[.agg cs94, .bool b94] ∧
    ∃ (z11 : Value), Pu Try.prog (zeroValue 67) z11 ∧
    New z11.cells 67 w4 fun k11 w5 =>
    ∃ (w6 : World), Sto Try.prog 67 (.pointer (some (⟨k11, 0, none⟩ : Addr))) (.agg cs94) w5 w6 ∧
    cond (!b94)
    (Q (.bool false) w6)
    (∃ (cs102 : Array Value), Ld Try.prog 67 (.pointer (some (⟨k11, 0, none⟩ : Addr))) w6 (.agg cs102) ∧
      callF Try.prog 39 #[.agg cs102] w6 fun r103 w7 =>
      ∃ (n103 : Int), r103 = .int .i64 n103 ∧
      cond (decide (((l1 : Nat) : Int) < (IntKind.i64.wrap (1 + n103))))
      (Q (.bool false) w7)
      (law18_SlotStamps_j1 p1 l1 c1 b4 p5 (⟨k9, 0, none⟩ : Addr) (⟨k11, 0, none⟩ : Addr) w7 Q)))
def law18_SlotStamps_j3 (p0 : Option Addr) (l0 : Nat) (c0 : Nat) (p1 : Option Addr) (l1 : Nat) (c1 : Nat) (b4 : Bool) (w : World) (Q : Value → World → Prop) : Prop :=
  callF Try.prog 33 #[] w fun r25 w1 =>
  ∃ (p25 : Option Addr), r25 = .pointer p25 ∧
  ∃ (b27 : Bool) (w2 : World), Ef Try.prog (do eqGuard .eql 63 (.tmp 26) (.const (.pointer none)) (.pointer p25) (.pointer none); binOp .eql 63 (.pointer p25) (.pointer none) : Sem Value) w1 (.bool b27) w2 ∧
  cond b27
  (Q (.bool false) w2)
  (LoopS [.slice p0 l0 c0, .slice p1 l1 c1, .bool b4, .pointer p25, .int .i64 0, .int .i64 0] w2 fun I1 μ1 us1 _ wl1 =>
    ∃ (p0_1 : Option Addr) (l0_1 : Nat) (c0_1 : Nat) (p1_1 : Option Addr) (l1_1 : Nat) (c1_1 : Nat) (b4_1 : Bool) (p5 : Option Addr) (n6 : Int) (n7 : Int), us1 = [.slice p0_1 l0_1 c0_1, .slice p1_1 l1_1 c1_1, .bool b4_1, .pointer p5, .int .i64 n6, .int .i64 n7] ∧
    cond (decide (n7 < ((l0_1 : Nat) : Int)))
    (∃ (a36 : Addr), IxA Try.prog 62 (.slice p0_1 l0_1 c0_1) (.int .i64 n7) a36 ∧
      ∃ (cs37 : Array Value), Ld Try.prog 69 (.pointer (some a36)) wl1 (.agg cs37) ∧
      ∃ (z8 : Value), Pu Try.prog (zeroValue 69) z8 ∧
      New z8.cells 69 wl1 fun k8 w3 =>
      ∃ (w4 : World), Sto Try.prog 69 (.pointer (some (⟨k8, 0, none⟩ : Addr))) (.agg cs37) w3 w4 ∧
      ∃ (n39 : Int), Ld Try.prog 3 (.pointer (some ((⟨k8, 0, none⟩ : Addr).add 0))) w4 (.int .i64 n39) ∧
      cond (n39 == 0)
      (∃ (n44 : Int), Ld Try.prog 3 (.pointer (some ((⟨k8, 0, none⟩ : Addr).add 1))) w4 (.int .i64 n44) ∧
        ∃ (cs46 : Array Value), Ld Try.prog 67 (.pointer (some ((⟨k8, 0, none⟩ : Addr).add 2))) w4 (.agg cs46) ∧
        callF Try.prog 34 #[.pointer p5, .int .i64 n44, .agg cs46] w4 fun r47 w5 =>
        ∃ (n47 : Int), r47 = .int .i64 n47 ∧
        cond (n47 == 0)
        (∃ (n51 : Int), Ld Try.prog 3 (.pointer (some ((⟨k8, 0, none⟩ : Addr).add 1))) w5 (.int .i64 n51) ∧
          callF Try.prog 35 #[.pointer p5, .int .i64 n51] w5 fun r52 w6 =>
          ∃ (n52 : Int), r52 = .int .i64 n52 ∧
          cond (decide (n52 ≤ n6))
          (Q (.bool false) w6)
          (∃ (n57 : Int), Ld Try.prog 3 (.pointer (some ((⟨k8, 0, none⟩ : Addr).add 1))) w6 (.int .i64 n57) ∧
            callF Try.prog 35 #[.pointer p5, .int .i64 n57] w6 fun r58 w7 =>
            ∃ (n58 : Int), r58 = .int .i64 n58 ∧
            goesOn [] [] I1 μ1 us1 [.slice p0_1 l0_1 c0_1, .slice p1_1 l1_1 c1_1, .bool b4_1, .pointer p5, .int .i64 n58, .int .i64 (IntKind.i64.wrap (n7 + 1))] wl1 w7))
        (goesOn [] [] I1 μ1 us1 [.slice p0_1 l0_1 c0_1, .slice p1_1 l1_1 c1_1, .bool b4_1, .pointer p5, .int .i64 n6, .int .i64 (IntKind.i64.wrap (n7 + 1))] wl1 w5))
      (cond (n39 == 1)
        (∃ (n63 : Int), Ld Try.prog 3 (.pointer (some ((⟨k8, 0, none⟩ : Addr).add 1))) w4 (.int .i64 n63) ∧
          callF Try.prog 36 #[.pointer p5, .int .i64 n63] w4 fun r64 w8 =>
          ∃ (n64 : Int), r64 = .int .i64 n64 ∧
          cond (n64 == 0)
          (∃ (n69 : Int), Ld Try.prog 3 (.pointer (some ((⟨k8, 0, none⟩ : Addr).add 1))) w8 (.int .i64 n69) ∧
            callF Try.prog 35 #[.pointer p5, .int .i64 n69] w8 fun r70 w9 =>
            ∃ (n70 : Int), r70 = .int .i64 n70 ∧
            cond (n70 != 0)
            (Q (.bool false) w9)
            (goesOn [] [] I1 μ1 us1 [.slice p0_1 l0_1 c0_1, .slice p1_1 l1_1 c1_1, .bool b4_1, .pointer p5, .int .i64 n6, .int .i64 (IntKind.i64.wrap (n7 + 1))] wl1 w9))
          (goesOn [] [] I1 μ1 us1 [.slice p0_1 l0_1 c0_1, .slice p1_1 l1_1 c1_1, .bool b4_1, .pointer p5, .int .i64 n6, .int .i64 (IntKind.i64.wrap (n7 + 1))] wl1 w8))
        (goesOn [] [] I1 μ1 us1 [.slice p0_1 l0_1 c0_1, .slice p1_1 l1_1 c1_1, .bool b4_1, .pointer p5, .int .i64 n6, .int .i64 (IntKind.i64.wrap (n7 + 1))] wl1 w4)))
    (law18_SlotStamps_j2 p1_1 l1_1 c1_1 b4_1 p5 wl1 Q))
def law18_SlotStamps (p0 : Option Addr) (l0 : Nat) (c0 : Nat) (p1 : Option Addr) (l1 : Nat) (c1 : Nat) (w : World) (Q : Value → World → Prop) : Prop :=
  callF Try.prog 32 #[] w fun r15 w1 =>
  ∃ (b15 : Bool), r15 = .bool b15 ∧
  cond (!b15)
  (Q (.bool false) w1)
  (cond (decide (((l0 : Nat) : Int) > 100))
    (Q (.bool true) w1)
    (cond (decide (((l1 : Nat) : Int) > 300))
      (Q (.bool true) w1)
      (law18_SlotStamps_j3 p0 l0 c0 p1 l1 c1 false w1 Q)))
def law18_SlotStamps_tt : Nat → List (Nat × TypeId) := fun n => match n with | 0 => [(0, 62), (1, 23), (4, 4), (5, 63), (6, 2), (7, 3)] | _ => []
theorem law18_SlotStamps_call (p0 : Option Addr) (l0 : Nat) (c0 : Nat) (p1 : Option Addr) (l1 : Nat) (c1 : Nat) (w : World) (Q : Value → World → Prop) (h : law18_SlotStamps p0 l0 c0 p1 l1 c1 w Q) : callF Try.prog 8 #[.slice p0 l0 c0, .slice p1 l1 c1] w Q :=
  callF_of (fun _ _ => by kernel_rfl) (callK_of_sw law18_SlotStamps_tt Try.func8 rfl (by kernel_rfl) (show sw Try.prog none 140 law18_SlotStamps_tt _ 0 (endK Try.prog [.tmp 4] Q) ⟨regs [.slice p0 l0 c0, .slice p1 l1 c1], []⟩ w from
    Eq.mp (by kernel_rfl : law18_SlotStamps p0 l0 c0 p1 l1 c1 w Q = sw Try.prog none 140 law18_SlotStamps_tt (Try.f8.body.getD .skip) 0 (endK Try.prog [.tmp 4] Q) ⟨regs [.slice p0 l0 c0, .slice p1 l1 c1], []⟩ w) h))

noncomputable def law18_alive_rf (i : Nat) : Array Tmp × Code × Code := (rfs (Try.f32.body.getD .skip)).getD i (#[], .skip, .skip)
def law18_alive_j1 (a0 : Addr) (p1 : Option Addr) (a2 : Addr) (n3 : Int) (n4 : Int) (n5 : Int) (n6 : Int) (p7 : Option Addr) (l7 : Nat) (c7 : Nat) (a8 : Addr) (n9 : Int) (a10 : Addr) (n11 : Int) (a12 : Addr) (b13 : Bool) (a14 : Addr) (km : Nat) (w : World) (Q : Value → World → Prop) : Prop :=
  callF Try.prog 62 #[.pointer p1] w fun r75 w1 =>
  ∃ (p75 : Option Addr), r75 = .pointer p75 ∧
  callF Try.prog 36 #[.pointer p1, .int .i64 1] w1 fun r77 w2 =>
  ∃ (n77 : Int), r77 = .int .i64 n77 ∧
  callF Try.prog 36 #[.pointer p1, .int .i64 1] w2 fun r79 w3 =>
  ∃ (n79 : Int), r79 = .int .i64 n79 ∧
  callF Try.prog 40 #[.pointer p1, .slice p7 l7 c7] w3 fun r83 w4 =>
  ∃ (n83 : Int) (p83 : Option Addr) (l83 : Nat) (c83 : Nat) (p83_1 : Option Addr) (l83_1 : Nat) (c83_1 : Nat) (n83_1 : Int), r83 = .tuple #[.agg #[.int .i64 n83, .slice p83 l83 c83, .slice p83_1 l83_1 c83_1], .int .i64 n83_1] ∧
  ∃ (z20 : Value), Pu Try.prog (zeroValue 73) z20 ∧
  New z20.cells 73 w4 fun k20 w5 =>
  ∃ (w6 : World), Sto Try.prog 73 (.pointer (some (⟨k20, 0, none⟩ : Addr))) (.agg #[.int .i64 n83, .slice p83 l83 c83, .slice p83_1 l83_1 c83_1]) w5 w6 ∧
  ∃ (b87 : Bool) (w7 : World), Ef Try.prog (do eqGuard .neq 63 (.tmp 86) (.const (.pointer none)) (.pointer p75) (.pointer none); binOp .neq 63 (.pointer p75) (.pointer none) : Sem Value) w6 (.bool b87) w7 ∧
  cond b87
  (cond (n3 == 0)
    (cond (n4 == 16)
      (cond (n5 == 11)
        (cond (n6 == 10)
          (cond (n9 == 0)
            (cond (n11 == 0)
              (cond b13
                (∃ (cs116 : Array Value), Ld Try.prog 67 (.pointer (some a12)) w7 (.agg cs116) ∧
                  ∃ (cs117 : Array Value), Ld Try.prog 67 (.pointer (some a2)) w7 (.agg cs117) ∧
                  ∃ (b118 : Bool) (w8 : World), Ef Try.prog (do eqGuard .eql 67 (.tmp 116) (.tmp 117) (.agg cs116) (.agg cs117); binOp .eql 67 (.agg cs116) (.agg cs117) : Sem Value) w7 (.bool b118) w8 ∧
                  cond b118
                  (∃ (n121 : Int), Ld Try.prog 3 (.pointer (some a14)) w8 (.int .i64 n121) ∧
                    cond (n121 == 1)
                    (cond (n77 == 0)
                      (cond (n79 == 17)
                        (cond (n83_1 == 17)
                          (∃ (n138 : Int), Ld Try.prog 3 (.pointer (some (a8.add 0))) w8 (.int .i64 n138) ∧
                            cond (n138 == 1)
                            (∃ (p143 : Option Addr) (l143 : Nat) (c143 : Nat), Ld Try.prog 23 (.pointer (some (a10.add 1))) w8 (.slice p143 l143 c143) ∧
                              ∃ (p144 : Option Addr) (l144 : Nat) (c144 : Nat) (w9 : World), Ef Try.prog (Instr.buildSlice 23 3 #[(0, .int .u8 1), (1, .int .u8 2), (2, .int .u8 3)]) w8 (.slice p144 l144 c144) w9 ∧
                              callF Try.prog 29 #[.slice p143 l143 c143, .slice p144 l144 c144] w9 fun r145 w10 =>
                              ∃ (b145 : Bool), r145 = .bool b145 ∧
                              cond b145
                              (callF Try.prog 35 #[.pointer p75, .int .i64 1] w10 fun r149 w11 =>
                                ∃ (n149 : Int), r149 = .int .i64 n149 ∧
                                cond (n149 == 1)
                                (callF Try.prog 35 #[.pointer p1, .int .i64 1] w11 fun r154 w12 =>
                                  ∃ (n154 : Int), r154 = .int .i64 n154 ∧
                                  ∃ (w13 : World), Sto Try.prog 4 (.pointer (some a0)) (.bool (n154 == 0)) w12 w13 ∧
                                  ∃ (w14 : World), Tk Try.prog km w13 w14 ∧
                                  ∃ (a0_1 : Addr) (v0 : Value), (.pointer (some a0) : Value) = .pointer (some a0_1) ∧ (loadVar 4 a0_1).run Try.prog w14 = .ok v0 w14 ∧
                                  Q (v0) w14)
                                (∃ (w15 : World), Sto Try.prog 4 (.pointer (some a0)) (.bool false) w11 w15 ∧
                                  ∃ (w16 : World), Tk Try.prog km w15 w16 ∧
                                  ∃ (a0_2 : Addr) (v0_1 : Value), (.pointer (some a0) : Value) = .pointer (some a0_2) ∧ (loadVar 4 a0_2).run Try.prog w16 = .ok v0_1 w16 ∧
                                  Q (v0_1) w16))
                              (∃ (w17 : World), Sto Try.prog 4 (.pointer (some a0)) (.bool false) w10 w17 ∧
                                ∃ (w18 : World), Tk Try.prog km w17 w18 ∧
                                ∃ (a0_3 : Addr) (v0_2 : Value), (.pointer (some a0) : Value) = .pointer (some a0_3) ∧ (loadVar 4 a0_3).run Try.prog w18 = .ok v0_2 w18 ∧
                                Q (v0_2) w18))
                            (∃ (w19 : World), Sto Try.prog 4 (.pointer (some a0)) (.bool false) w8 w19 ∧
                              ∃ (w20 : World), Tk Try.prog km w19 w20 ∧
                              ∃ (a0_4 : Addr) (v0_3 : Value), (.pointer (some a0) : Value) = .pointer (some a0_4) ∧ (loadVar 4 a0_4).run Try.prog w20 = .ok v0_3 w20 ∧
                              Q (v0_3) w20))
                          (∃ (w21 : World), Sto Try.prog 4 (.pointer (some a0)) (.bool false) w8 w21 ∧
                            ∃ (w22 : World), Tk Try.prog km w21 w22 ∧
                            ∃ (a0_5 : Addr) (v0_4 : Value), (.pointer (some a0) : Value) = .pointer (some a0_5) ∧ (loadVar 4 a0_5).run Try.prog w22 = .ok v0_4 w22 ∧
                            Q (v0_4) w22))
                        (∃ (w23 : World), Sto Try.prog 4 (.pointer (some a0)) (.bool false) w8 w23 ∧
                          ∃ (w24 : World), Tk Try.prog km w23 w24 ∧
                          ∃ (a0_6 : Addr) (v0_5 : Value), (.pointer (some a0) : Value) = .pointer (some a0_6) ∧ (loadVar 4 a0_6).run Try.prog w24 = .ok v0_5 w24 ∧
                          Q (v0_5) w24))
                      (∃ (w25 : World), Sto Try.prog 4 (.pointer (some a0)) (.bool false) w8 w25 ∧
                        ∃ (w26 : World), Tk Try.prog km w25 w26 ∧
                        ∃ (a0_7 : Addr) (v0_6 : Value), (.pointer (some a0) : Value) = .pointer (some a0_7) ∧ (loadVar 4 a0_7).run Try.prog w26 = .ok v0_6 w26 ∧
                        Q (v0_6) w26))
                    (∃ (w27 : World), Sto Try.prog 4 (.pointer (some a0)) (.bool false) w8 w27 ∧
                      ∃ (w28 : World), Tk Try.prog km w27 w28 ∧
                      ∃ (a0_8 : Addr) (v0_7 : Value), (.pointer (some a0) : Value) = .pointer (some a0_8) ∧ (loadVar 4 a0_8).run Try.prog w28 = .ok v0_7 w28 ∧
                      Q (v0_7) w28))
                  (∃ (w29 : World), Sto Try.prog 4 (.pointer (some a0)) (.bool false) w8 w29 ∧
                    ∃ (w30 : World), Tk Try.prog km w29 w30 ∧
                    ∃ (a0_9 : Addr) (v0_8 : Value), (.pointer (some a0) : Value) = .pointer (some a0_9) ∧ (loadVar 4 a0_9).run Try.prog w30 = .ok v0_8 w30 ∧
                    Q (v0_8) w30))
                (∃ (w31 : World), Sto Try.prog 4 (.pointer (some a0)) (.bool false) w7 w31 ∧
                  ∃ (w32 : World), Tk Try.prog km w31 w32 ∧
                  ∃ (a0_10 : Addr) (v0_9 : Value), (.pointer (some a0) : Value) = .pointer (some a0_10) ∧ (loadVar 4 a0_10).run Try.prog w32 = .ok v0_9 w32 ∧
                  Q (v0_9) w32))
              (∃ (w33 : World), Sto Try.prog 4 (.pointer (some a0)) (.bool false) w7 w33 ∧
                ∃ (w34 : World), Tk Try.prog km w33 w34 ∧
                ∃ (a0_11 : Addr) (v0_10 : Value), (.pointer (some a0) : Value) = .pointer (some a0_11) ∧ (loadVar 4 a0_11).run Try.prog w34 = .ok v0_10 w34 ∧
                Q (v0_10) w34))
            (∃ (w35 : World), Sto Try.prog 4 (.pointer (some a0)) (.bool false) w7 w35 ∧
              ∃ (w36 : World), Tk Try.prog km w35 w36 ∧
              ∃ (a0_12 : Addr) (v0_11 : Value), (.pointer (some a0) : Value) = .pointer (some a0_12) ∧ (loadVar 4 a0_12).run Try.prog w36 = .ok v0_11 w36 ∧
              Q (v0_11) w36))
          (∃ (w37 : World), Sto Try.prog 4 (.pointer (some a0)) (.bool false) w7 w37 ∧
            ∃ (w38 : World), Tk Try.prog km w37 w38 ∧
            ∃ (a0_13 : Addr) (v0_12 : Value), (.pointer (some a0) : Value) = .pointer (some a0_13) ∧ (loadVar 4 a0_13).run Try.prog w38 = .ok v0_12 w38 ∧
            Q (v0_12) w38))
        (∃ (w39 : World), Sto Try.prog 4 (.pointer (some a0)) (.bool false) w7 w39 ∧
          ∃ (w40 : World), Tk Try.prog km w39 w40 ∧
          ∃ (a0_14 : Addr) (v0_13 : Value), (.pointer (some a0) : Value) = .pointer (some a0_14) ∧ (loadVar 4 a0_14).run Try.prog w40 = .ok v0_13 w40 ∧
          Q (v0_13) w40))
      (∃ (w41 : World), Sto Try.prog 4 (.pointer (some a0)) (.bool false) w7 w41 ∧
        ∃ (w42 : World), Tk Try.prog km w41 w42 ∧
        ∃ (a0_15 : Addr) (v0_14 : Value), (.pointer (some a0) : Value) = .pointer (some a0_15) ∧ (loadVar 4 a0_15).run Try.prog w42 = .ok v0_14 w42 ∧
        Q (v0_14) w42))
    (∃ (w43 : World), Sto Try.prog 4 (.pointer (some a0)) (.bool false) w7 w43 ∧
      ∃ (w44 : World), Tk Try.prog km w43 w44 ∧
      ∃ (a0_16 : Addr) (v0_15 : Value), (.pointer (some a0) : Value) = .pointer (some a0_16) ∧ (loadVar 4 a0_16).run Try.prog w44 = .ok v0_15 w44 ∧
      Q (v0_15) w44))
  (∃ (w45 : World), Sto Try.prog 4 (.pointer (some a0)) (.bool false) w7 w45 ∧
    ∃ (w46 : World), Tk Try.prog km w45 w46 ∧
    ∃ (a0_17 : Addr) (v0_16 : Value), (.pointer (some a0) : Value) = .pointer (some a0_17) ∧ (loadVar 4 a0_17).run Try.prog w46 = .ok v0_16 w46 ∧
    Q (v0_16) w46)
def law18_alive  (w : World) (Q : Value → World → Prop) : Prop :=
  ∃ (z0 : Value), Pu Try.prog (zeroValue 4) z0 ∧
  New z0.cells 4 w fun k0 w1 =>
  callF Try.prog 33 #[] w1 fun r22 w2 =>
  ∃ (p22 : Option Addr), r22 = .pointer p22 ∧
  ∃ (b24 : Bool) (w3 : World), Ef Try.prog (do eqGuard .eql 63 (.tmp 23) (.const (.pointer none)) (.pointer p22) (.pointer none); binOp .eql 63 (.pointer p22) (.pointer none) : Sem Value) w2 (.bool b24) w3 ∧
  cond b24
  (∃ (w4 : World), Sto Try.prog 4 (.pointer (some (⟨k0, 0, none⟩ : Addr))) (.bool false) w3 w4 ∧
    ∃ (a0 : Addr) (v0 : Value), (.pointer (some (⟨k0, 0, none⟩ : Addr)) : Value) = .pointer (some a0) ∧ (loadVar 4 a0).run Try.prog w4 = .ok v0 w4 ∧
    Q (v0) w4)
  (∃ (z2 : Value), Pu Try.prog (zeroValue 67) z2 ∧
    New z2.cells 67 w3 fun k2 w5 =>
    ∃ (w6 : World), Sto Try.prog 67 (.pointer (some (⟨k2, 0, none⟩ : Addr))) (.agg #[.int .i64 0, .int .i64 3, .int .i64 4, .int .u8 0, .int .u8 0, .int .u8 0, .int .u8 0, .int .u8 0, .int .u8 0, .int .u8 0, .int .u8 0, .int .u8 0, .int .u8 0, .int .u8 0, .int .u8 0, .int .u8 0, .int .u8 0, .int .u8 0, .int .u8 0]) w5 w6 ∧
    ∃ (cs27 : Array Value), Ld Try.prog 67 (.pointer (some (⟨k2, 0, none⟩ : Addr))) w6 (.agg cs27) ∧
    callF Try.prog 34 #[.pointer p22, .int .i64 1, .agg cs27] w6 fun r28 w7 =>
    ∃ (n28 : Int), r28 = .int .i64 n28 ∧
    ∃ (cs30 : Array Value), Ld Try.prog 67 (.pointer (some (⟨k2, 0, none⟩ : Addr))) w7 (.agg cs30) ∧
    callF Try.prog 34 #[.pointer p22, .int .i64 1, .agg cs30] w7 fun r31 w8 =>
    ∃ (n31 : Int), r31 = .int .i64 n31 ∧
    ∃ (cs33 : Array Value), Ld Try.prog 67 (.pointer (some (⟨k2, 0, none⟩ : Addr))) w8 (.agg cs33) ∧
    callF Try.prog 34 #[.pointer p22, .int .i64 3, .agg cs33] w8 fun r34 w9 =>
    ∃ (n34 : Int), r34 = .int .i64 n34 ∧
    callF Try.prog 34 #[.pointer p22, .int .i64 2, .agg #[.int .i64 0, .int .i64 0, .int .i64 0, .int .u8 0, .int .u8 0, .int .u8 0, .int .u8 0, .int .u8 0, .int .u8 0, .int .u8 0, .int .u8 0, .int .u8 0, .int .u8 0, .int .u8 0, .int .u8 0, .int .u8 0, .int .u8 0, .int .u8 0, .int .u8 0]] w9 fun r37 w10 =>
    ∃ (n37 : Int), r37 = .int .i64 n37 ∧
    ∃ (p38 : Option Addr) (l38 : Nat) (c38 : Nat) (w11 : World), Ef Try.prog (Instr.buildSlice 23 8 #[(0, .int .u8 71), (1, .int .u8 1), (2, .int .u8 2), (3, .int .u8 3), (4, .int .u8 4), (5, .int .u8 5), (6, .int .u8 6), (7, .int .u8 7)]) w10 (.slice p38 l38 c38) w11 ∧
    callF Try.prog 40 #[.pointer p22, .slice p38 l38 c38] w11 fun r42 w12 =>
    ∃ (n42 : Int) (p42 : Option Addr) (l42 : Nat) (c42 : Nat) (p42_1 : Option Addr) (l42_1 : Nat) (c42_1 : Nat) (n42_1 : Int), r42 = .tuple #[.agg #[.int .i64 n42, .slice p42 l42 c42, .slice p42_1 l42_1 c42_1], .int .i64 n42_1] ∧
    ∃ (z8 : Value), Pu Try.prog (zeroValue 73) z8 ∧
    New z8.cells 73 w12 fun k8 w13 =>
    ∃ (w14 : World), Sto Try.prog 73 (.pointer (some (⟨k8, 0, none⟩ : Addr))) (.agg #[.int .i64 n42, .slice p42 l42 c42, .slice p42_1 l42_1 c42_1]) w13 w14 ∧
    ∃ (p47 : Option Addr) (l47 : Nat) (c47 : Nat) (w15 : World), Ef Try.prog (Instr.buildSlice 23 1 #[(0, .int .u8 64)]) w14 (.slice p47 l47 c47) w15 ∧
    callF Try.prog 41 #[.slice p38 l38 c38] w15 fun r49 w16 =>
    ∃ (p49 : Option Addr) (l49 : Nat) (c49 : Nat), r49 = .slice p49 l49 c49 ∧
    ∃ (p50 : Option Addr) (l50 : Nat) (c50 : Nat) (w17 : World), Ef Try.prog (Instr.buildSlice 23 1 #[(0, .int .u8 9)]) w16 (.slice p50 l50 c50) w17 ∧
    ∃ (p51 : Option Addr) (l51 : Nat) (c51 : Nat) (w18 : World), Ef Try.prog (Builtin.append_ #[23, 23] 23 #[.slice p49 l49 c49, .slice p50 l50 c50]) w17 (.slice p51 l51 c51) w18 ∧
    ∃ (p52 : Option Addr) (l52 : Nat) (c52 : Nat) (w19 : World), Ef Try.prog (Builtin.append_ #[23, 23] 23 #[.slice p47 l47 c47, .slice p51 l51 c51]) w18 (.slice p52 l52 c52) w19 ∧
    callF Try.prog 37 #[.pointer p22, .slice p52 l52 c52] w19 fun r53 w20 =>
    ∃ (n53 : Int) (p53 : Option Addr) (l53 : Nat) (c53 : Nat) (p53_1 : Option Addr) (l53_1 : Nat) (c53_1 : Nat) (n53_1 : Int), r53 = .tuple #[.agg #[.int .i64 n53, .slice p53 l53 c53, .slice p53_1 l53_1 c53_1], .int .i64 n53_1] ∧
    ∃ (z10 : Value), Pu Try.prog (zeroValue 73) z10 ∧
    New z10.cells 73 w20 fun k10 w21 =>
    ∃ (w22 : World), Sto Try.prog 73 (.pointer (some (⟨k10, 0, none⟩ : Addr))) (.agg #[.int .i64 n53, .slice p53 l53 c53, .slice p53_1 l53_1 c53_1]) w21 w22 ∧
    callF Try.prog 38 #[.pointer p22, .int .i64 1] w22 fun r58 w23 =>
    ∃ (cs58 : Array Value) (b58 : Bool), r58 = .tuple #[.agg cs58, .bool b58] ∧
    ∃ (z12 : Value), Pu Try.prog (zeroValue 67) z12 ∧
    New z12.cells 67 w23 fun k12 w24 =>
    ∃ (w25 : World), Sto Try.prog 67 (.pointer (some (⟨k12, 0, none⟩ : Addr))) (.agg cs58) w24 w25 ∧
    ∃ (z14 : Value), Pu Try.prog (zeroValue 3) z14 ∧
    New z14.cells 3 w25 fun k14 w26 =>
    ∃ (w27 : World), Sto Try.prog 3 (.pointer (some (⟨k14, 0, none⟩ : Addr))) (.int .i64 0) w26 w27 ∧
    callF Try.prog 61 #[.pointer p22] w27 fun r62 w28 =>
    ∃ (v62 : Value), r62 = v62 ∧
    RangeF Try.prog (v62) #[.pointer (some (⟨k0, 0, none⟩ : Addr)), .pointer p22, .pointer (some (⟨k2, 0, none⟩ : Addr)), .int .i64 n28, .int .i64 n31, .int .i64 n34, .int .i64 n37, .slice p38 l38 c38, .pointer (some (⟨k8, 0, none⟩ : Addr)), .int .i64 n42_1, .pointer (some (⟨k10, 0, none⟩ : Addr)), .int .i64 n53_1, .pointer (some (⟨k12, 0, none⟩ : Addr)), .bool b58, .pointer (some (⟨k14, 0, none⟩ : Addr)), .tuple #[], .tuple #[], .tuple #[], .tuple #[], .tuple #[], .tuple #[], .tuple #[], .pointer p22, .pointer p22, .bool b24, .agg #[.int .i64 0, .int .i64 3, .int .i64 4, .int .u8 0, .int .u8 0, .int .u8 0, .int .u8 0, .int .u8 0, .int .u8 0, .int .u8 0, .int .u8 0, .int .u8 0, .int .u8 0, .int .u8 0, .int .u8 0, .int .u8 0, .int .u8 0, .int .u8 0, .int .u8 0], .pointer p22, .agg cs27, .int .i64 n28, .pointer p22, .agg cs30, .int .i64 n31, .pointer p22, .agg cs33, .int .i64 n34, .pointer p22, .agg #[.int .i64 0, .int .i64 0, .int .i64 0, .int .u8 0, .int .u8 0, .int .u8 0, .int .u8 0, .int .u8 0, .int .u8 0, .int .u8 0, .int .u8 0, .int .u8 0, .int .u8 0, .int .u8 0, .int .u8 0, .int .u8 0, .int .u8 0, .int .u8 0, .int .u8 0], .int .i64 n37, .slice p38 l38 c38, .tuple #[.agg #[.int .i64 n42, .slice p42 l42 c42, .slice p42_1 l42_1 c42_1], .int .i64 n42_1], .pointer p22, .slice p38 l38 c38, .tuple #[.agg #[.int .i64 n42, .slice p42 l42 c42, .slice p42_1 l42_1 c42_1], .int .i64 n42_1], .agg #[.int .i64 n42, .slice p42 l42 c42, .slice p42_1 l42_1 c42_1], .int .i64 n42_1, .tuple #[.agg #[.int .i64 n53, .slice p53 l53 c53, .slice p53_1 l53_1 c53_1], .int .i64 n53_1], .pointer p22, .slice p47 l47 c47, .slice p38 l38 c38, .slice p49 l49 c49, .slice p50 l50 c50, .slice p51 l51 c51, .slice p52 l52 c52, .tuple #[.agg #[.int .i64 n53, .slice p53 l53 c53, .slice p53_1 l53_1 c53_1], .int .i64 n53_1], .agg #[.int .i64 n53, .slice p53 l53 c53, .slice p53_1 l53_1 c53_1], .int .i64 n53_1, .tuple #[.agg cs58, .bool b58], .pointer p22, .tuple #[.agg cs58, .bool b58], .agg cs58, .bool b58, .pointer p22, v62, .tuple #[], .tuple #[], .tuple #[], .tuple #[], .tuple #[], .tuple #[], .tuple #[], .tuple #[], .tuple #[], .tuple #[], .tuple #[], .tuple #[], .tuple #[], .tuple #[], .tuple #[], .tuple #[], .tuple #[], .tuple #[], .tuple #[], .tuple #[], .tuple #[], .tuple #[], .tuple #[], .tuple #[], .tuple #[], .tuple #[], .tuple #[], .tuple #[], .tuple #[], .tuple #[], .tuple #[], .tuple #[], .tuple #[], .tuple #[], .tuple #[], .tuple #[], .tuple #[], .tuple #[], .tuple #[], .tuple #[], .tuple #[], .tuple #[], .tuple #[], .tuple #[], .tuple #[], .tuple #[], .tuple #[], .tuple #[], .tuple #[], .tuple #[], .tuple #[], .tuple #[], .tuple #[], .tuple #[], .tuple #[], .tuple #[], .tuple #[], .tuple #[], .tuple #[], .tuple #[], .tuple #[], .tuple #[], .tuple #[], .tuple #[], .tuple #[], .tuple #[], .tuple #[], .tuple #[], .tuple #[], .tuple #[], .tuple #[], .tuple #[], .tuple #[], .tuple #[], .tuple #[], .tuple #[], .tuple #[], .tuple #[], .tuple #[], .tuple #[], .tuple #[], .tuple #[], .tuple #[], .tuple #[], .tuple #[], .tuple #[], .tuple #[], .tuple #[], .tuple #[], .tuple #[], .tuple #[], .tuple #[], .tuple #[], .tuple #[]] (law18_alive_rf 0) w28 (fun krf w30 =>
      law18_alive_j1 (⟨k0, 0, none⟩ : Addr) p22 (⟨k2, 0, none⟩ : Addr) n28 n31 n34 n37 p38 l38 c38 (⟨k8, 0, none⟩ : Addr) n42_1 (⟨k10, 0, none⟩ : Addr) n53_1 (⟨k12, 0, none⟩ : Addr) b58 (⟨k14, 0, none⟩ : Addr) krf w30 Q) (fun krf w30 =>
      ∃ (w31 : World), Tk Try.prog krf w30 w31 ∧
      ∃ (a0_1 : Addr) (v0_1 : Value), (.pointer (some (⟨k0, 0, none⟩ : Addr)) : Value) = .pointer (some a0_1) ∧ (loadVar 4 a0_1).run Try.prog w31 = .ok v0_1 w31 ∧
      Q (v0_1) w31))
def law18_alive_tt : Nat → List (Nat × TypeId) := fun _ => []
theorem law18_alive_call  (w : World) (Q : Value → World → Prop) (h : law18_alive  w Q) : callF Try.prog 32 #[] w Q :=
  callF_of (fun _ _ => by kernel_rfl) (callK_of_sw law18_alive_tt Try.func32 rfl (by kernel_rfl) (show sw Try.prog none 157 law18_alive_tt _ 0 (endK Try.prog [.cell 0 4] Q) ⟨regs [], []⟩ w from
    Eq.mp (by kernel_rfl : law18_alive  w Q = sw Try.prog none 157 law18_alive_tt (Try.f32.body.getD .skip) 0 (endK Try.prog [.cell 0 4] Q) ⟨regs [], []⟩ w) h))
def law18_alive_y0_j1 (l : Nat) (a14 : Addr) (w : World) (Q : Value → World → Prop) : Prop :=
  ∃ (n72 : Int), Ld Try.prog 3 (.pointer (some a14)) w (.int .i64 n72) ∧
  ∃ (w1 : World), Sto Try.prog 3 (.pointer (some a14)) (.int .i64 (IntKind.i64.wrap (n72 + 1))) w w1 ∧
  EndR Try.prog l none true w1 Q
def law18_alive_y0_j2 (l : Nat) (a0 : Addr) (a14 : Addr) (b71 : Bool) (w : World) (Q : Value → World → Prop) : Prop :=
  cond b71
  (∃ (w1 : World), Sto Try.prog 4 (.pointer (some a0)) (.bool false) w w1 ∧
    EndR Try.prog l (some .ret) false w1 Q)
  (law18_alive_y0_j1 l a14 w Q)
def law18_alive_y0 (a0 : Addr) (a2 : Addr) (a14 : Addr) (n63 : Int) (cs64 : Array Value) (l : Nat) (w : World) (Q : Value → World → Prop) : Prop :=
  ∃ (z16 : Value), Pu Try.prog (zeroValue 67) z16 ∧
  New z16.cells 67 w fun k16 w1 =>
  ∃ (w2 : World), Sto Try.prog 67 (.pointer (some (⟨k16, 0, none⟩ : Addr))) (.agg cs64) w1 w2 ∧
  BegR Try.prog l w2 fun w3 =>
  cond (n63 != 1)
  (law18_alive_y0_j2 l a0 a14 true w3 Q)
  (∃ (cs68 : Array Value), Ld Try.prog 67 (.pointer (some (⟨k16, 0, none⟩ : Addr))) w3 (.agg cs68) ∧
    ∃ (cs69 : Array Value), Ld Try.prog 67 (.pointer (some a2)) w3 (.agg cs69) ∧
    ∃ (b70 : Bool) (w4 : World), Ef Try.prog (do eqGuard .neq 67 (.tmp 68) (.tmp 69) (.agg cs68) (.agg cs69); binOp .neq 67 (.agg cs68) (.agg cs69) : Sem Value) w3 (.bool b70) w4 ∧
    law18_alive_y0_j2 l a0 a14 b70 w4 Q)
def law18_alive_y0_t1 : Nat → List (Nat × TypeId) := fun _ => []
def law18_alive_y0_t2 : Nat → List (Nat × TypeId) := fun _ => []
theorem law18_alive_y0_call (a0 : Addr) (a2 : Addr) (a14 : Addr) (n63 : Int) (cs64 : Array Value) {x1 x3 x4 x5 x6 x7 x8 x9 x10 x11 x12 x13 x15 x16 x17 x18 x19 x20 x21 x22 x23 x24 x25 x26 x27 x28 x29 x30 x31 x32 x33 x34 x35 x36 x37 x38 x39 x40 x41 x42 x43 x44 x45 x46 x47 x48 x49 x50 x51 x52 x53 x54 x55 x56 x57 x58 x59 x60 x61 x62 x63 x64 x65 x66 x67 x68 x69 x70 x71 x72 x73 x74 x75 x76 x77 x78 x79 x80 x81 x82 x83 x84 x85 x86 x87 x88 x89 x90 x91 x92 x93 x94 x95 x96 x97 x98 x99 x100 x101 x102 x103 x104 x105 x106 x107 x108 x109 x110 x111 x112 x113 x114 x115 x116 x117 x118 x119 x120 x121 x122 x123 x124 x125 x126 x127 x128 x129 x130 x131 x132 x133 x134 x135 x136 x137 x138 x139 x140 x141 x142 x143 x144 x145 x146 x147 x148 x149 x150 x151 x152 x153 x154 x155 x156 : Value} {l df : Nat} {fn : FuncId} {w : World} {Q : Value → World → Prop} (h : LpAt w l (rec0 fn #[.pointer (some a0), x1, .pointer (some a2), x3, x4, x5, x6, x7, x8, x9, x10, x11, x12, x13, .pointer (some a14), x15, x16, x17, x18, x19, x20, x21, x22, x23, x24, x25, x26, x27, x28, x29, x30, x31, x32, x33, x34, x35, x36, x37, x38, x39, x40, x41, x42, x43, x44, x45, x46, x47, x48, x49, x50, x51, x52, x53, x54, x55, x56, x57, x58, x59, x60, x61, x62, x63, x64, x65, x66, x67, x68, x69, x70, x71, x72, x73, x74, x75, x76, x77, x78, x79, x80, x81, x82, x83, x84, x85, x86, x87, x88, x89, x90, x91, x92, x93, x94, x95, x96, x97, x98, x99, x100, x101, x102, x103, x104, x105, x106, x107, x108, x109, x110, x111, x112, x113, x114, x115, x116, x117, x118, x119, x120, x121, x122, x123, x124, x125, x126, x127, x128, x129, x130, x131, x132, x133, x134, x135, x136, x137, x138, x139, x140, x141, x142, x143, x144, x145, x146, x147, x148, x149, x150, x151, x152, x153, x154, x155, x156] (law18_alive_rf 0).1 (law18_alive_rf 0).2.1 (law18_alive_rf 0).2.2 df)) (hq : law18_alive_y0 a0 a2 a14 n63 cs64 l w Q) : callV Try.prog (.func (.yield l) #[] #[]) [.int .i64 n63, .agg cs64] w Q := by
  have e : law18_alive_y0 a0 a2 a14 n63 cs64 l w Q = sw Try.prog (some l) 157 law18_alive_y0_t1 (law18_alive_rf 0).2.1 0 (begK Try.prog l 157 law18_alive_y0_t2 (law18_alive_rf 0).2.2 Q) ⟨regs [.pointer (some a0), x1, .pointer (some a2), x3, x4, x5, x6, x7, x8, x9, x10, x11, x12, x13, .pointer (some a14), x15, x16, x17, x18, x19, x20, x21, x22, x23, x24, x25, x26, x27, x28, x29, x30, x31, x32, x33, x34, x35, x36, x37, x38, x39, x40, x41, x42, x43, x44, x45, x46, x47, x48, x49, x50, x51, x52, x53, x54, x55, x56, x57, x58, x59, x60, x61, x62, .int .i64 n63, .agg cs64, x65, x66, x67, x68, x69, x70, x71, x72, x73, x74, x75, x76, x77, x78, x79, x80, x81, x82, x83, x84, x85, x86, x87, x88, x89, x90, x91, x92, x93, x94, x95, x96, x97, x98, x99, x100, x101, x102, x103, x104, x105, x106, x107, x108, x109, x110, x111, x112, x113, x114, x115, x116, x117, x118, x119, x120, x121, x122, x123, x124, x125, x126, x127, x128, x129, x130, x131, x132, x133, x134, x135, x136, x137, x138, x139, x140, x141, x142, x143, x144, x145, x146, x147, x148, x149, x150, x151, x152, x153, x154, x155, x156], []⟩ w := by kernel_rfl
  have h2 := round_of_sw (f := fn) law18_alive_y0_t1 law18_alive_y0_t2 (nt := 157) (by kernel_rfl) (Eq.mp e hq)
  refine yield_r h ?_ ?_ h2
  · kernel_rfl
  · kernel_rfl
end Go.Sh
end
