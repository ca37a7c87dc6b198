/- A part of a proof of a given law of this program: lemmas, printed forms of its functions, contracts. It has no conditions of its own. -/
import Derived.Test.YtopjbcjbohegcaaProg
import Derived.Test.YtopjbcjbohegcaaMFw

section
namespace Go.Sh
open Go Go.Fw Go.Proofs
set_option maxRecDepth 100000
set_option linter.unusedVariables false

def halves_Cut (p0 : Option Addr) (l0 : Nat) (c0 : Nat) (w : World) (Q : Value → World → Prop) : Prop :=
  callF Try.prog 136 #[.int .i64 ((l0 : Nat) : Int), .slice none 0 0] w fun r9 w1 =>
  ∃ (b9 : Bool), r9 = .bool b9 ∧
  cond (!b9)
  (Q (.tuple #[.slice none 0 0, .slice none 0 0, .int .i64 11]) w1)
  (callF Try.prog 138 #[.int .i64 ((l0 : Nat) : Int)] w1 fun r14 w2 =>
    ∃ (n14 : Int), r14 = .int .i64 n14 ∧
    ∃ (p15 : Option Addr) (l15 : Nat) (c15 : Nat), Pu Try.prog (Instr.sliceAt 23 (.slice p0 l0 c0) none (some (.int .i64 n14)) none) (.slice p15 l15 c15) ∧
    callF Try.prog 137 #[.slice p15 l15 c15, .int .i64 ((l0 : Nat) : Int), .bool true] w2 fun r17 w3 =>
    ∃ (p17 : Option Addr) (l17 : Nat) (c17 : Nat) (n17 : Int), r17 = .tuple #[.slice p17 l17 c17, .int .i64 n17] ∧
    callF Try.prog 138 #[.int .i64 ((l0 : Nat) : Int)] w3 fun r24 w4 =>
    ∃ (n24 : Int), r24 = .int .i64 n24 ∧
    ∃ (p26 : Option Addr) (l26 : Nat) (c26 : Nat), Pu Try.prog (Instr.sliceAt 23 (.slice p0 l0 c0) (some (.int .i64 (IntKind.i64.wrap (((l0 : Nat) : Int) - n24)))) none none) (.slice p26 l26 c26) ∧
    callF Try.prog 137 #[.slice p26 l26 c26, .int .i64 ((l0 : Nat) : Int), .bool false] w4 fun r28 w5 =>
    ∃ (p28 : Option Addr) (l28 : Nat) (c28 : Nat) (n28 : Int), r28 = .tuple #[.slice p28 l28 c28, .int .i64 n28] ∧
    Q (.tuple #[.slice p17 l17 c17, .slice p28 l28 c28, .int .i64 0]) w5)
def halves_Cut_tt : Nat → List (Nat × TypeId) := fun _ => []
theorem halves_Cut_call (p0 : Option Addr) (l0 : Nat) (c0 : Nat) (w : World) (Q : Value → World → Prop) (h : halves_Cut p0 l0 c0 w Q) : callF Try.prog 125 #[.slice p0 l0 c0] w Q :=
  callF_of (fun _ _ => by kernel_rfl) (callK_of_sw halves_Cut_tt Try.func125 rfl (by kernel_rfl) (show sw Try.prog none 33 halves_Cut_tt _ 0 (endK Try.prog [.tmp 2, .tmp 3, .tmp 4] Q) ⟨regs [.slice p0 l0 c0], []⟩ w from
    Eq.mp (by kernel_rfl : halves_Cut p0 l0 c0 w Q = sw Try.prog none 33 halves_Cut_tt (Try.f125.body.getD .skip) 0 (endK Try.prog [.tmp 2, .tmp 3, .tmp 4] Q) ⟨regs [.slice p0 l0 c0], []⟩ w) h))

def halves_Join_j1 (p0 : Option Addr) (l0 : Nat) (c0 : Nat) (p1 : Option Addr) (l1 : Nat) (c1 : Nat) (n2 : Int) (p6 : Option Addr) (l6 : Nat) (c6 : Nat) (n7 : Int) (w : World) (Q : Value → World → Prop) : Prop :=
  cond ((Int.tmod n2 2) == 0)
  (∃ (p51 : Option Addr) (l51 : Nat) (c51 : Nat) (w1 : World), Ef Try.prog (Instr.buildSlice 91 2 #[(0, .slice p0 l0 c0), (1, .slice p1 l1 c1)]) w (.slice p51 l51 c51) w1 ∧
    callF Try.prog 54 #[.slice p51 l51 c51] w1 fun r52 w2 =>
    ∃ (p52 : Option Addr) (l52 : Nat) (c52 : Nat), r52 = .slice p52 l52 c52 ∧
    Q (.tuple #[.slice p52 l52 c52, .int .i64 0]) w2)
  (∃ (p55 : Option Addr) (l55 : Nat) (c55 : Nat), Pu Try.prog (Instr.sliceAt 23 (.slice p1 l1 c1) (some (.int .i64 1)) none none) (.slice p55 l55 c55) ∧
    ∃ (p56 : Option Addr) (l56 : Nat) (c56 : Nat) (w3 : World), Ef Try.prog (Instr.buildSlice 91 2 #[(0, .slice p0 l0 c0), (1, .slice p55 l55 c55)]) w (.slice p56 l56 c56) w3 ∧
    callF Try.prog 54 #[.slice p56 l56 c56] w3 fun r57 w4 =>
    ∃ (p57 : Option Addr) (l57 : Nat) (c57 : Nat), r57 = .slice p57 l57 c57 ∧
    ∃ (S12 : World → Prop),
    Drw w4 fun w5 =>
    ∃ (a62 : Addr), IxA Try.prog 23 (.slice p57 l57 c57) (.int .i64 (IntKind.i64.wrap (((l0 : Nat) : Int) - 1))) a62 ∧
    ∃ (a65 : Addr), IxA Try.prog 23 (.slice p1 l1 c1) (.int .i64 0) a65 ∧
    ∃ (n63 : Int), HLd Try.prog S12 5 (.pointer (some a62)) w5 (.int .u8 n63) ∧
    ∃ (n66 : Int), Ld Try.prog 5 (.pointer (some a65)) w5 (.int .u8 n66) ∧
    (w5 = w5 ∨ S12 w5) ∧
    ∃ (a68 : Addr), IxA Try.prog 23 (.slice p57 l57 c57) (.int .i64 (IntKind.i64.wrap (((l0 : Nat) : Int) - 1))) a68 ∧
    ∃ (w6 : World), Sto Try.prog 5 (.pointer (some a68)) (.int .u8 (ior .u8 n63 n66)) w5 w6 ∧
    Q (.tuple #[.slice p57 l57 c57, .int .i64 0]) w6)
def halves_Join (p0 : Option Addr) (l0 : Nat) (c0 : Nat) (p1 : Option Addr) (l1 : Nat) (c1 : Nat) (n2 : Int) (w : World) (Q : Value → World → Prop) : Prop :=
  ∃ (p16 : Option Addr) (l16 : Nat) (c16 : Nat) (w1 : World), Ef Try.prog (Instr.buildSlice 91 2 #[(0, .slice p0 l0 c0), (1, .slice p1 l1 c1)]) w (.slice p16 l16 c16) w1 ∧
  callF Try.prog 136 #[.int .i64 n2, .slice p16 l16 c16] w1 fun r17 w2 =>
  ∃ (b17 : Bool), r17 = .bool b17 ∧
  cond (!b17)
  (Q (.tuple #[.slice none 0 0, .int .i64 11]) w2)
  (∃ (m19 : Option Nat) (w3 : World), Ef Try.prog (Instr.makeMap 227 none) w2 (.map m19) w3 ∧
    ∃ (w4 : World), EfU Try.prog (Instr.mapUpdate 227 (.map m19) (.bool true) (.slice p0 l0 c0)) w3 w4 ∧
    ∃ (w5 : World), EfU Try.prog (Instr.mapUpdate 227 (.map m19) (.bool false) (.slice p1 l1 c1)) w4 w5 ∧
    ∃ (a23 : Addr) (w6 : World), Ef Try.prog (Instr.range 227 (.map m19)) w5 (.pointer (some a23)) w6 ∧
    LoopS [.slice p0 l0 c0, .slice p1 l1 c1, .int .i64 n2, .slice none 0 0, .int .i64 0, .pointer (some a23)] w6 fun I1 μ1 us1 _ wl1 =>
    ∃ (p0_1 : Option Addr) (l0_1 : Nat) (c0_1 : Nat) (p1_1 : Option Addr) (l1_1 : Nat) (c1_1 : Nat) (n2_1 : Int) (p6 : Option Addr) (l6 : Nat) (c6 : Nat) (n7 : Int) (a23_1 : Addr), us1 = [.slice p0_1 l0_1 c0_1, .slice p1_1 l1_1 c1_1, .int .i64 n2_1, .slice p6 l6 c6, .int .i64 n7, .pointer (some a23_1)] ∧
    ∃ (b24 : Bool) (r24 : List Value) (w7 : World), Ef Try.prog (Instr.next (.pointer (some a23_1)) false 0) wl1 (.tuple ⟨.bool b24 :: r24⟩) w7 ∧
    cond b24
    (∃ (k26 : Value) (v26 : Value) (w8 : World), Ef Try.prog (Instr.entry (.pointer (some a23_1))) w7 (.tuple #[k26, v26]) w8 ∧
      callF Try.prog 140 #[v26, .int .i64 n2_1, k26] w8 fun r33 w9 =>
      ∃ (p33 : Option Addr) (n33 : Int), r33 = .tuple #[.pointer p33, .int .u8 n33] ∧
      ∃ (b37 : Bool) (w10 : World), Ef Try.prog (do eqGuard .neq 228 (.tmp 36) (.const (.pointer none)) (.pointer p33) (.pointer none); binOp .neq 228 (.pointer p33) (.pointer none) : Sem Value) w9 (.bool b37) w10 ∧
      cond b37
      (∃ (a40 : Addr), p33 = some a40 ∧
        ∃ (n41 : Int), Ld Try.prog 5 (.pointer (some a40)) w10 (.int .u8 n41) ∧
        cond ((iand .u8 n41 n33) != 0)
        (Q (.tuple #[.slice none 0 0, .int .i64 10]) w10)
        (goesOn [] [] I1 μ1 us1 [.slice p0_1 l0_1 c0_1, .slice p1_1 l1_1 c1_1, .int .i64 n2_1, .slice p6 l6 c6, .int .i64 n7, .pointer (some a23_1)] wl1 w10))
      (goesOn [] [] I1 μ1 us1 [.slice p0_1 l0_1 c0_1, .slice p1_1 l1_1 c1_1, .int .i64 n2_1, .slice p6 l6 c6, .int .i64 n7, .pointer (some a23_1)] wl1 w10))
    (halves_Join_j1 p0_1 l0_1 c0_1 p1_1 l1_1 c1_1 n2_1 p6 l6 c6 n7 w7 Q))
def halves_Join_tt : Nat → List (Nat × TypeId) := fun n => match n with | 0 => [(0, 23), (1, 23), (2, 3), (6, 23), (7, 48), (23, 1000000)] | _ => []
theorem halves_Join_call (p0 : Option Addr) (l0 : Nat) (c0 : Nat) (p1 : Option Addr) (l1 : Nat) (c1 : Nat) (n2 : Int) (w : World) (Q : Value → World → Prop) (h : halves_Join p0 l0 c0 p1 l1 c1 n2 w Q) : callF Try.prog 127 #[.slice p0 l0 c0, .slice p1 l1 c1, .int .i64 n2] w Q :=
  callF_of (fun _ _ => by kernel_rfl) (callK_of_sw halves_Join_tt Try.func127 rfl (by kernel_rfl) (show sw Try.prog none 70 halves_Join_tt _ 0 (endK Try.prog [.tmp 6, .tmp 7] Q) ⟨regs [.slice p0 l0 c0, .slice p1 l1 c1, .int .i64 n2], []⟩ w from
    Eq.mp (by kernel_rfl : halves_Join p0 l0 c0 p1 l1 c1 n2 w Q = sw Try.prog none 70 halves_Join_tt (Try.f127.body.getD .skip) 0 (endK Try.prog [.tmp 6, .tmp 7] Q) ⟨regs [.slice p0 l0 c0, .slice p1 l1 c1, .int .i64 n2], []⟩ w) h))

def halves_fits (n0 : Int) (p1 : Option Addr) (l1 : Nat) (c1 : Nat) (w : World) (Q : Value → World → Prop) : Prop :=
  New #[.int .i64 n0] 3 w fun k2 w1 =>
  ∃ (n7 : Int), Ld Try.prog 3 (.pointer (some (⟨k2, 0, none⟩ : Addr))) w1 (.int .i64 n7) ∧
  cond (decide (n7 ≥ 2))
  (∃ (n10 : Int), Ld Try.prog 3 (.pointer (some (⟨k2, 0, none⟩ : Addr))) w1 (.int .i64 n10) ∧
    cond (decide (n10 ≤ 28))
    (callF Try.prog 81 #[.slice p1 l1 c1, .func (.func 145) #[] #[.pointer (some (⟨k2, 0, none⟩ : Addr))]] w1 fun r16 w2 =>
      ∃ (b16 : Bool), r16 = .bool b16 ∧
      Q (.bool (!b16)) w2)
    (Q (.bool false) w1))
  (Q (.bool false) w1)
def halves_fits_tt : Nat → List (Nat × TypeId) := fun _ => []
theorem halves_fits_call (n0 : Int) (p1 : Option Addr) (l1 : Nat) (c1 : Nat) (w : World) (Q : Value → World → Prop) (h : halves_fits n0 p1 l1 c1 w Q) : callF Try.prog 136 #[.int .i64 n0, .slice p1 l1 c1] w Q :=
  callF_of (fun _ _ => by kernel_rfl) (callK_of_sw halves_fits_tt Try.func136 rfl (by kernel_rfl) (show sw Try.prog none 19 halves_fits_tt _ 0 (endK Try.prog [.tmp 4] Q) ⟨regs [.int .i64 n0, .slice p1 l1 c1], []⟩ w from
    Eq.mp (by kernel_rfl : halves_fits n0 p1 l1 c1 w Q = sw Try.prog none 19 halves_fits_tt (Try.f136.body.getD .skip) 0 (endK Try.prog [.tmp 4] Q) ⟨regs [.int .i64 n0, .slice p1 l1 c1], []⟩ w) h))

def halves_Trim (p0 : Option Addr) (l0 : Nat) (c0 : Nat) (n1 : Int) (b2 : Bool) (w : World) (Q : Value → World → Prop) : Prop :=
  ∃ (p13 : Option Addr) (l13 : Nat) (c13 : Nat) (w1 : World), Ef Try.prog (Instr.buildSlice 91 1 #[(0, .slice p0 l0 c0)]) w (.slice p13 l13 c13) w1 ∧
  callF Try.prog 136 #[.int .i64 n1, .slice p13 l13 c13] w1 fun r14 w2 =>
  ∃ (b14 : Bool), r14 = .bool b14 ∧
  cond (!b14)
  (Q (.tuple #[.slice none 0 0, .int .i64 11]) w2)
  (callF Try.prog 45 #[.slice p0 l0 c0] w2 fun r17 w3 =>
    ∃ (p17 : Option Addr) (l17 : Nat) (c17 : Nat), r17 = .slice p17 l17 c17 ∧
    callF Try.prog 140 #[.slice p17 l17 c17, .int .i64 n1, .bool b2] w3 fun r22 w4 =>
    ∃ (p22 : Option Addr) (n22 : Int), r22 = .tuple #[.pointer p22, .int .u8 n22] ∧
    ∃ (b26 : Bool) (w5 : World), Ef Try.prog (do eqGuard .neq 228 (.tmp 25) (.const (.pointer none)) (.pointer p22) (.pointer none); binOp .neq 228 (.pointer p22) (.pointer none) : Sem Value) w4 (.bool b26) w5 ∧
    cond b26
    (∃ (a28 : Addr), p22 = some a28 ∧
      ∃ (n29 : Int), Ld Try.prog 5 (.pointer (some a28)) w5 (.int .u8 n29) ∧
      ∃ (a32 : Addr), p22 = some a32 ∧
      ∃ (w6 : World), Sto Try.prog 5 (.pointer (some a32)) (.int .u8 (iandNot .u8 n29 n22)) w5 w6 ∧
      Q (.tuple #[.slice p17 l17 c17, .int .i64 0]) w6)
    (Q (.tuple #[.slice p17 l17 c17, .int .i64 0]) w5))
def halves_Trim_tt : Nat → List (Nat × TypeId) := fun _ => []
theorem halves_Trim_call (p0 : Option Addr) (l0 : Nat) (c0 : Nat) (n1 : Int) (b2 : Bool) (w : World) (Q : Value → World → Prop) (h : halves_Trim p0 l0 c0 n1 b2 w Q) : callF Try.prog 137 #[.slice p0 l0 c0, .int .i64 n1, .bool b2] w Q :=
  callF_of (fun _ _ => by kernel_rfl) (callK_of_sw halves_Trim_tt Try.func137 rfl (by kernel_rfl) (show sw Try.prog none 34 halves_Trim_tt _ 0 (endK Try.prog [.tmp 6, .tmp 7] Q) ⟨regs [.slice p0 l0 c0, .int .i64 n1, .bool b2], []⟩ w from
    Eq.mp (by kernel_rfl : halves_Trim p0 l0 c0 n1 b2 w Q = sw Try.prog none 34 halves_Trim_tt (Try.f137.body.getD .skip) 0 (endK Try.prog [.tmp 6, .tmp 7] Q) ⟨regs [.slice p0 l0 c0, .int .i64 n1, .bool b2], []⟩ w) h))

def halves_Size (n0 : Int) (w : World) (Q : Value → World → Prop) : Prop :=
  cond (decide (n0 < 1))
  (Q (.int .i64 0) w)
  (Q (.int .i64 (IntKind.i64.wrap (n0 - (IntKind.i64.wrap (Int.tdiv n0 2))))) w)
def halves_Size_tt : Nat → List (Nat × TypeId) := fun _ => []
theorem halves_Size_call (n0 : Int) (w : World) (Q : Value → World → Prop) (h : halves_Size n0 w Q) : callF Try.prog 138 #[.int .i64 n0] w Q :=
  callF_of (fun _ _ => by kernel_rfl) (callK_of_sw halves_Size_tt Try.func138 rfl (by kernel_rfl) (show sw Try.prog none 9 halves_Size_tt _ 0 (endK Try.prog [.tmp 2] Q) ⟨regs [.int .i64 n0], []⟩ w from
    Eq.mp (by kernel_rfl : halves_Size n0 w Q = sw Try.prog none 9 halves_Size_tt (Try.f138.body.getD .skip) 0 (endK Try.prog [.tmp 2] Q) ⟨regs [.int .i64 n0], []⟩ w) h))

def halves_odd (p0 : Option Addr) (l0 : Nat) (c0 : Nat) (n1 : Int) (b2 : Bool) (w : World) (Q : Value → World → Prop) : Prop :=
  cond ((Int.tmod n1 2) == 0)
  (Q (.tuple #[.pointer none, .int .u8 0]) w)
  (cond b2
    (∃ (a18 : Addr), IxA Try.prog 23 (.slice p0 l0 c0) (.int .i64 (IntKind.i64.wrap (((l0 : Nat) : Int) - 1))) a18 ∧
      Q (.tuple #[.pointer (some a18), .int .u8 15]) w)
    (∃ (a20 : Addr), IxA Try.prog 23 (.slice p0 l0 c0) (.int .i64 0) a20 ∧
      Q (.tuple #[.pointer (some a20), .int .u8 240]) w))
def halves_odd_tt : Nat → List (Nat × TypeId) := fun _ => []
theorem halves_odd_call (p0 : Option Addr) (l0 : Nat) (c0 : Nat) (n1 : Int) (b2 : Bool) (w : World) (Q : Value → World → Prop) (h : halves_odd p0 l0 c0 n1 b2 w Q) : callF Try.prog 140 #[.slice p0 l0 c0, .int .i64 n1, .bool b2] w Q :=
  callF_of (fun _ _ => by kernel_rfl) (callK_of_sw halves_odd_tt Try.func140 rfl (by kernel_rfl) (show sw Try.prog none 21 halves_odd_tt _ 0 (endK Try.prog [.tmp 6, .tmp 7] Q) ⟨regs [.slice p0 l0 c0, .int .i64 n1, .bool b2], []⟩ w from
    Eq.mp (by kernel_rfl : halves_odd p0 l0 c0 n1 b2 w Q = sw Try.prog none 21 halves_odd_tt (Try.f140.body.getD .skip) 0 (endK Try.prog [.tmp 6, .tmp 7] Q) ⟨regs [.slice p0 l0 c0, .int .i64 n1, .bool b2], []⟩ w) h))

def halves_fits_c1 (p0 : Option Addr) (l0 : Nat) (c0 : Nat) (p1 : Option Addr) (w : World) (Q : Value → World → Prop) : Prop :=
  ∃ (n6 : Int), Ld Try.prog 3 (.pointer p1) w (.int .i64 n6) ∧
  callF Try.prog 138 #[.int .i64 n6] w fun r7 w1 =>
  ∃ (n7 : Int), r7 = .int .i64 n7 ∧
  Q (.bool (((l0 : Nat) : Int) != n7)) w1
def halves_fits_c1_tt : Nat → List (Nat × TypeId) := fun _ => []
theorem halves_fits_c1_call (p0 : Option Addr) (l0 : Nat) (c0 : Nat) (p1 : Option Addr) (w : World) (Q : Value → World → Prop) (h : halves_fits_c1 p0 l0 c0 p1 w Q) : callF Try.prog 145 #[.slice p0 l0 c0, .pointer p1] w Q :=
  callF_of (fun _ _ => by kernel_rfl) (callK_of_sw halves_fits_c1_tt Try.func145 rfl (by kernel_rfl) (show sw Try.prog none 9 halves_fits_c1_tt _ 0 (endK Try.prog [.tmp 3] Q) ⟨regs [.slice p0 l0 c0, .pointer p1], []⟩ w from
    Eq.mp (by kernel_rfl : halves_fits_c1 p0 l0 c0 p1 w Q = sw Try.prog none 9 halves_fits_c1_tt (Try.f145.body.getD .skip) 0 (endK Try.prog [.tmp 3] Q) ⟨regs [.slice p0 l0 c0, .pointer p1], []⟩ w) h))

def halves_Block_j1 (p0 : Option Addr) (l0 : Nat) (c0 : Nat) (n1 : Int) (n2 : Int) (p6 : Option Addr) (l6 : Nat) (c6 : Nat) (n7 : Int) (w : World) (Q : Value → World → Prop) : Prop :=
  ∃ (p25 : Option Addr) (l25 : Nat) (c25 : Nat) (w1 : World), Ef Try.prog (Instr.makeSlice 23 (.int .i64 (IntKind.i64.wrap (14 - ((l0 : Nat) : Int)))) (.int .i64 (IntKind.i64.wrap (14 - ((l0 : Nat) : Int))))) w (.slice p25 l25 c25) w1 ∧
  ∃ (p30 : Option Addr) (l30 : Nat) (c30 : Nat) (w2 : World), Ef Try.prog (Instr.buildSlice 23 2 #[(0, .int .u8 (IntKind.u8.wrap n1)), (1, .int .u8 (IntKind.u8.wrap n2))]) w1 (.slice p30 l30 c30) w2 ∧
  ∃ (p31 : Option Addr) (l31 : Nat) (c31 : Nat) (w3 : World), Ef Try.prog (Instr.buildSlice 91 3 #[(0, .slice p0 l0 c0), (1, .slice p25 l25 c25), (2, .slice p30 l30 c30)]) w2 (.slice p31 l31 c31) w3 ∧
  callF Try.prog 54 #[.slice p31 l31 c31] w3 fun r32 w4 =>
  ∃ (p32 : Option Addr) (l32 : Nat) (c32 : Nat), r32 = .slice p32 l32 c32 ∧
  Q (.tuple #[.slice p32 l32 c32, .int .i64 0]) w4
def halves_Block (p0 : Option Addr) (l0 : Nat) (c0 : Nat) (n1 : Int) (n2 : Int) (w : World) (Q : Value → World → Prop) : Prop :=
  ∃ (p10 : Option Addr) (l10 : Nat) (c10 : Nat) (w1 : World), Ef Try.prog (Instr.buildSlice 91 1 #[(0, .slice p0 l0 c0)]) w (.slice p10 l10 c10) w1 ∧
  callF Try.prog 136 #[.int .i64 n1, .slice p10 l10 c10] w1 fun r11 w2 =>
  ∃ (b11 : Bool), r11 = .bool b11 ∧
  cond (!b11)
  (Q (.tuple #[.slice none 0 0, .int .i64 11]) w2)
  (cond (decide (n2 < 0))
    (Q (.tuple #[.slice none 0 0, .int .i64 11]) w2)
    (cond (decide (n2 > 255))
      (Q (.tuple #[.slice none 0 0, .int .i64 11]) w2)
      (halves_Block_j1 p0 l0 c0 n1 n2 none 0 0 0 w2 Q)))
def halves_Block_tt : Nat → List (Nat × TypeId) := fun _ => []
theorem halves_Block_call (p0 : Option Addr) (l0 : Nat) (c0 : Nat) (n1 : Int) (n2 : Int) (w : World) (Q : Value → World → Prop) (h : halves_Block p0 l0 c0 n1 n2 w Q) : callF Try.prog 146 #[.slice p0 l0 c0, .int .i64 n1, .int .i64 n2] w Q :=
  callF_of (fun _ _ => by kernel_rfl) (callK_of_sw halves_Block_tt Try.func146 rfl (by kernel_rfl) (show sw Try.prog none 33 halves_Block_tt _ 0 (endK Try.prog [.tmp 6, .tmp 7] Q) ⟨regs [.slice p0 l0 c0, .int .i64 n1, .int .i64 n2], []⟩ w from
    Eq.mp (by kernel_rfl : halves_Block p0 l0 c0 n1 n2 w Q = sw Try.prog none 33 halves_Block_tt (Try.f146.body.getD .skip) 0 (endK Try.prog [.tmp 6, .tmp 7] Q) ⟨regs [.slice p0 l0 c0, .int .i64 n1, .int .i64 n2], []⟩ w) h))
end Go.Sh
end

section
namespace Go.Sh
open Go Go.Fw Go.Proofs
set_option maxRecDepth 100000
set_option linter.unusedVariables false

def feist_Unmix (p0 : Option Addr) (p1 : Option Addr) (l1 : Nat) (c1 : Nat) (w : World) (Q : Value → World → Prop) : Prop :=
  ∃ (p8 : Option Addr) (l8 : Nat) (c8 : Nat) (w1 : World), Ef Try.prog (Instr.buildSlice 44 4 #[(0, .int .i64 4), (1, .int .i64 3), (2, .int .i64 2), (3, .int .i64 1)]) w (.slice p8 l8 c8) w1 ∧
  callF Try.prog 119 #[.pointer p0, .slice p1 l1 c1, .slice p8 l8 c8] w1 fun r9 w2 =>
  ∃ (p9 : Option Addr) (l9 : Nat) (c9 : Nat) (n9 : Int), r9 = .tuple #[.slice p9 l9 c9, .int .i64 n9] ∧
  Q (.tuple #[.slice p9 l9 c9, .int .i64 n9]) w2
def feist_Unmix_tt : Nat → List (Nat × TypeId) := fun _ => []
theorem feist_Unmix_call (p0 : Option Addr) (p1 : Option Addr) (l1 : Nat) (c1 : Nat) (w : World) (Q : Value → World → Prop) (h : feist_Unmix p0 p1 l1 c1 w Q) : callF Try.prog 111 #[.pointer p0, .slice p1 l1 c1] w Q :=
  callF_of (fun _ _ => by kernel_rfl) (callK_of_sw feist_Unmix_tt Try.func111 rfl (by kernel_rfl) (show sw Try.prog none 12 feist_Unmix_tt _ 0 (endK Try.prog [.tmp 4, .tmp 5] Q) ⟨regs [.pointer p0, .slice p1 l1 c1], []⟩ w from
    Eq.mp (by kernel_rfl : feist_Unmix p0 p1 l1 c1 w Q = sw Try.prog none 12 feist_Unmix_tt (Try.f111.body.getD .skip) 0 (endK Try.prog [.tmp 4, .tmp 5] Q) ⟨regs [.pointer p0, .slice p1 l1 c1], []⟩ w) h))

def feist_Passes_j1 (p6 : Option Addr) (l6 : Nat) (c6 : Nat) (n7 : Int) (a11 : Addr) (w : World) (Q : Value → World → Prop) : Prop :=
  ∃ (p43 : Option Addr) (l43 : Nat) (c43 : Nat), Ld Try.prog 23 (.pointer (some (a11.add 0))) w (.slice p43 l43 c43) ∧
  ∃ (p45 : Option Addr) (l45 : Nat) (c45 : Nat), Ld Try.prog 23 (.pointer (some (a11.add 1))) w (.slice p45 l45 c45) ∧
  ∃ (n47 : Int), Ld Try.prog 3 (.pointer (some (a11.add 2))) w (.int .i64 n47) ∧
  callF Try.prog 127 #[.slice p43 l43 c43, .slice p45 l45 c45, .int .i64 n47] w fun r48 w1 =>
  ∃ (p48 : Option Addr) (l48 : Nat) (c48 : Nat) (n48 : Int), r48 = .tuple #[.slice p48 l48 c48, .int .i64 n48] ∧
  Q (.tuple #[.slice p48 l48 c48, .int .i64 n48]) w1
def feist_Passes (p0 : Option Addr) (p1 : Option Addr) (l1 : Nat) (c1 : Nat) (p2 : Option Addr) (l2 : Nat) (c2 : Nat) (w : World) (Q : Value → World → Prop) : Prop :=
  callF Try.prog 125 #[.slice p1 l1 c1] w fun r17 w1 =>
  ∃ (p17 : Option Addr) (l17 : Nat) (c17 : Nat) (p17_1 : Option Addr) (l17_1 : Nat) (c17_1 : Nat) (n17 : Int), r17 = .tuple #[.slice p17 l17 c17, .slice p17_1 l17_1 c17_1, .int .i64 n17] ∧
  cond (n17 != 0)
  (Q (.tuple #[.slice none 0 0, .int .i64 n17]) w1)
  (∃ (z11 : Value), Pu Try.prog (zeroValue 213) z11 ∧
    New z11.cells 213 w1 fun k11 w2 =>
    ∃ (w3 : World), Sto Try.prog 213 (.pointer (some (⟨k11, 0, none⟩ : Addr))) (.agg #[.slice p17 l17 c17, .slice p17_1 l17_1 c17_1, .int .i64 ((l1 : Nat) : Int)]) w2 w3 ∧
    LoopS [.pointer p0, .slice none 0 0, .int .i64 0, .pointer (some (⟨k11, 0, none⟩ : Addr)), .slice p2 l2 c2, .int .i64 ((l2 : Nat) : Int), .int .i64 0] w3 fun I1 μ1 us1 _ wl1 =>
    ∃ (p0_1 : Option Addr) (p6 : Option Addr) (l6 : Nat) (c6 : Nat) (n7 : Int) (a11 : Addr) (p29 : Option Addr) (l29 : Nat) (c29 : Nat) (n30 : Int) (n31 : Int), us1 = [.pointer p0_1, .slice p6 l6 c6, .int .i64 n7, .pointer (some a11), .slice p29 l29 c29, .int .i64 n30, .int .i64 n31] ∧
    cond (decide (n31 < n30))
    (∃ (a33 : Addr), IxA Try.prog 44 (.slice p29 l29 c29) (.int .i64 n31) a33 ∧
      ∃ (n34 : Int), Ld Try.prog 3 (.pointer (some a33)) wl1 (.int .i64 n34) ∧
      callF Try.prog 126 #[.pointer (some a11), .pointer p0_1, .int .i64 n34] wl1 fun r37 w4 =>
      ∃ (n37 : Int), r37 = .int .i64 n37 ∧
      cond (n37 != 0)
      (Q (.tuple #[.slice none 0 0, .int .i64 n37]) w4)
      (goesOn [] [] I1 μ1 us1 [.pointer p0_1, .slice p6 l6 c6, .int .i64 n7, .pointer (some a11), .slice p29 l29 c29, .int .i64 n30, .int .i64 (IntKind.i64.wrap (n31 + 1))] wl1 w4))
    (feist_Passes_j1 p6 l6 c6 n7 a11 wl1 Q))
def feist_Passes_tt : Nat → List (Nat × TypeId) := fun n => match n with | 0 => [(0, 92), (6, 23), (7, 48), (11, 1000000), (29, 44), (30, 3), (31, 3)] | _ => []
theorem feist_Passes_call (p0 : Option Addr) (p1 : Option Addr) (l1 : Nat) (c1 : Nat) (p2 : Option Addr) (l2 : Nat) (c2 : Nat) (w : World) (Q : Value → World → Prop) (h : feist_Passes p0 p1 l1 c1 p2 l2 c2 w Q) : callF Try.prog 119 #[.pointer p0, .slice p1 l1 c1, .slice p2 l2 c2] w Q :=
  callF_of (fun _ _ => by kernel_rfl) (callK_of_sw feist_Passes_tt Try.func119 rfl (by kernel_rfl) (show sw Try.prog none 51 feist_Passes_tt _ 0 (endK Try.prog [.tmp 6, .tmp 7] Q) ⟨regs [.pointer p0, .slice p1 l1 c1, .slice p2 l2 c2], []⟩ w from
    Eq.mp (by kernel_rfl : feist_Passes p0 p1 l1 c1 p2 l2 c2 w Q = sw Try.prog none 51 feist_Passes_tt (Try.f119.body.getD .skip) 0 (endK Try.prog [.tmp 6, .tmp 7] Q) ⟨regs [.pointer p0, .slice p1 l1 c1, .slice p2 l2 c2], []⟩ w) h))

def feist_pair_pass (p0 : Option Addr) (p1 : Option Addr) (n2 : Int) (w : World) (Q : Value → World → Prop) : Prop :=
  cond ((Int.tmod n2 2) == 0)
  (∃ (S2 : World → Prop),
    Drw w fun w1 =>
    ∃ (a13 : Addr), p0 = some a13 ∧
    ∃ (a17 : Addr), p0 = some a17 ∧
    ∃ (a21 : Addr), p0 = some a21 ∧
    ∃ (p14 : Option Addr) (l14 : Nat) (c14 : Nat) (p14_1 : Option Addr) (l14_1 : Nat) (c14_1 : Nat) (n14 : Int), HLd Try.prog S2 213 (.pointer (some a13)) w1 (.agg #[.slice p14 l14 c14, .slice p14_1 l14_1 c14_1, .int .i64 n14]) ∧
    ∃ (p19 : Option Addr) (l19 : Nat) (c19 : Nat), HLd Try.prog S2 23 (.pointer (some (a17.add 1))) w1 (.slice p19 l19 c19) ∧
    ∃ (p23 : Option Addr) (l23 : Nat) (c23 : Nat), Ld Try.prog 23 (.pointer (some (a21.add 0))) w1 (.slice p23 l23 c23) ∧
    (w1 = w1 ∨ S2 w1) ∧
    callF Try.prog 139 #[.agg #[.slice p14 l14 c14, .slice p14_1 l14_1 c14_1, .int .i64 n14], .pointer p1, .slice p19 l19 c19, .slice p23 l23 c23, .int .i64 n2, .bool true] w1 fun r25 w2 =>
    ∃ (p25 : Option Addr) (l25 : Nat) (c25 : Nat) (n25 : Int), r25 = .tuple #[.slice p25 l25 c25, .int .i64 n25] ∧
    ∃ (a28 : Addr), p0 = some a28 ∧
    ∃ (w3 : World), Sto Try.prog 23 (.pointer (some (a28.add 0))) (.slice p25 l25 c25) w2 w3 ∧
    Q (.int .i64 n25) w3)
  (∃ (S3 : World → Prop),
    Drw w fun w4 =>
    ∃ (a33 : Addr), p0 = some a33 ∧
    ∃ (a37 : Addr), p0 = some a37 ∧
    ∃ (a41 : Addr), p0 = some a41 ∧
    ∃ (p34 : Option Addr) (l34 : Nat) (c34 : Nat) (p34_1 : Option Addr) (l34_1 : Nat) (c34_1 : Nat) (n34 : Int), HLd Try.prog S3 213 (.pointer (some a33)) w4 (.agg #[.slice p34 l34 c34, .slice p34_1 l34_1 c34_1, .int .i64 n34]) ∧
    ∃ (p39 : Option Addr) (l39 : Nat) (c39 : Nat), HLd Try.prog S3 23 (.pointer (some (a37.add 0))) w4 (.slice p39 l39 c39) ∧
    ∃ (p43 : Option Addr) (l43 : Nat) (c43 : Nat), Ld Try.prog 23 (.pointer (some (a41.add 1))) w4 (.slice p43 l43 c43) ∧
    (w4 = w4 ∨ S3 w4) ∧
    callF Try.prog 139 #[.agg #[.slice p34 l34 c34, .slice p34_1 l34_1 c34_1, .int .i64 n34], .pointer p1, .slice p39 l39 c39, .slice p43 l43 c43, .int .i64 n2, .bool false] w4 fun r45 w5 =>
    ∃ (p45 : Option Addr) (l45 : Nat) (c45 : Nat) (n45 : Int), r45 = .tuple #[.slice p45 l45 c45, .int .i64 n45] ∧
    ∃ (a48 : Addr), p0 = some a48 ∧
    ∃ (w6 : World), Sto Try.prog 23 (.pointer (some (a48.add 1))) (.slice p45 l45 c45) w5 w6 ∧
    Q (.int .i64 n45) w6)
def feist_pair_pass_tt : Nat → List (Nat × TypeId) := fun _ => []
theorem feist_pair_pass_call (p0 : Option Addr) (p1 : Option Addr) (n2 : Int) (w : World) (Q : Value → World → Prop) (h : feist_pair_pass p0 p1 n2 w Q) : callF Try.prog 126 #[.pointer p0, .pointer p1, .int .i64 n2] w Q :=
  callF_of (fun _ _ => by kernel_rfl) (callK_of_sw feist_pair_pass_tt Try.func126 rfl (by kernel_rfl) (show sw Try.prog none 51 feist_pair_pass_tt _ 0 (endK Try.prog [.tmp 6] Q) ⟨regs [.pointer p0, .pointer p1, .int .i64 n2], []⟩ w from
    Eq.mp (by kernel_rfl : feist_pair_pass p0 p1 n2 w Q = sw Try.prog none 51 feist_pair_pass_tt (Try.f126.body.getD .skip) 0 (endK Try.prog [.tmp 6] Q) ⟨regs [.pointer p0, .pointer p1, .int .i64 n2], []⟩ w) h))

def feist_pair_onto_j1 (p1 : Option Addr) (p3 : Option Addr) (l3 : Nat) (c3 : Nat) (b5 : Bool) (a6 : Addr) (p12 : Option Addr) (l12 : Nat) (c12 : Nat) (n13 : Int) (p14 : Option Addr) (l14 : Nat) (c14 : Nat) (w : World) (Q : Value → World → Prop) : Prop :=
  callF Try.prog 50 #[.pointer p1, .slice p14 l14 c14] w fun r40 w1 =>
  ∃ (p40 : Option Addr) (l40 : Nat) (c40 : Nat) (n40 : Int), r40 = .tuple #[.slice p40 l40 c40, .int .i64 n40] ∧
  ∃ (p47 : Option Addr) (l47 : Nat) (c47 : Nat), Pu Try.prog (Instr.sliceAt 23 (.slice p40 l40 c40) none (some (.int .i64 ((l3 : Nat) : Int))) none) (.slice p47 l47 c47) ∧
  callF Try.prog 56 #[.slice p47 l47 c47, .slice p3 l3 c3] w1 fun r49 w2 =>
  ∃ (p49 : Option Addr) (l49 : Nat) (c49 : Nat) (n49 : Int), r49 = .tuple #[.slice p49 l49 c49, .int .i64 n49] ∧
  ∃ (n54 : Int), Ld Try.prog 3 (.pointer (some (a6.add 2))) w2 (.int .i64 n54) ∧
  callF Try.prog 137 #[.slice p49 l49 c49, .int .i64 n54, .bool b5] w2 fun r56 w3 =>
  ∃ (p56 : Option Addr) (l56 : Nat) (c56 : Nat) (n56 : Int), r56 = .tuple #[.slice p56 l56 c56, .int .i64 n56] ∧
  Q (.tuple #[.slice p56 l56 c56, .int .i64 n56]) w3
def feist_pair_onto (p0 : Option Addr) (l0 : Nat) (c0 : Nat) (p0_1 : Option Addr) (l0_1 : Nat) (c0_1 : Nat) (n0 : Int) (p1 : Option Addr) (p2 : Option Addr) (l2 : Nat) (c2 : Nat) (p3 : Option Addr) (l3 : Nat) (c3 : Nat) (n4 : Int) (b5 : Bool) (w : World) (Q : Value → World → Prop) : Prop :=
  New #[.slice p0 l0 c0, .slice p0_1 l0_1 c0_1, .int .i64 n0] 213 w fun k6 w1 =>
  ∃ (n23 : Int), Ld Try.prog 3 (.pointer (some ((⟨k6, 0, none⟩ : Addr).add 2))) w1 (.int .i64 n23) ∧
  callF Try.prog 146 #[.slice p2 l2 c2, .int .i64 n23, .int .i64 n4] w1 fun r25 w2 =>
  ∃ (p25 : Option Addr) (l25 : Nat) (c25 : Nat) (n25 : Int), r25 = .tuple #[.slice p25 l25 c25, .int .i64 n25] ∧
  cond (n25 != 0)
  (Q (.tuple #[.slice none 0 0, .int .i64 11]) w2)
  (cond (((l3 : Nat) : Int) != ((l2 : Nat) : Int))
    (Q (.tuple #[.slice none 0 0, .int .i64 11]) w2)
    (feist_pair_onto_j1 p1 p3 l3 c3 b5 (⟨k6, 0, none⟩ : Addr) none 0 0 0 p25 l25 c25 w2 Q))
def feist_pair_onto_tt : Nat → List (Nat × TypeId) := fun _ => []
theorem feist_pair_onto_call (p0 : Option Addr) (l0 : Nat) (c0 : Nat) (p0_1 : Option Addr) (l0_1 : Nat) (c0_1 : Nat) (n0 : Int) (p1 : Option Addr) (p2 : Option Addr) (l2 : Nat) (c2 : Nat) (p3 : Option Addr) (l3 : Nat) (c3 : Nat) (n4 : Int) (b5 : Bool) (w : World) (Q : Value → World → Prop) (h : feist_pair_onto p0 l0 c0 p0_1 l0_1 c0_1 n0 p1 p2 l2 c2 p3 l3 c3 n4 b5 w Q) : callF Try.prog 139 #[.agg #[.slice p0 l0 c0, .slice p0_1 l0_1 c0_1, .int .i64 n0], .pointer p1, .slice p2 l2 c2, .slice p3 l3 c3, .int .i64 n4, .bool b5] w Q :=
  callF_of (fun _ _ => by kernel_rfl) (callK_of_sw feist_pair_onto_tt Try.func139 rfl (by kernel_rfl) (show sw Try.prog none 59 feist_pair_onto_tt _ 0 (endK Try.prog [.tmp 12, .tmp 13] Q) ⟨regs [.agg #[.slice p0 l0 c0, .slice p0_1 l0_1 c0_1, .int .i64 n0], .pointer p1, .slice p2 l2 c2, .slice p3 l3 c3, .int .i64 n4, .bool b5], []⟩ w from
    Eq.mp (by kernel_rfl : feist_pair_onto p0 l0 c0 p0_1 l0_1 c0_1 n0 p1 p2 l2 c2 p3 l3 c3 n4 b5 w Q = sw Try.prog none 59 feist_pair_onto_tt (Try.f139.body.getD .skip) 0 (endK Try.prog [.tmp 12, .tmp 13] Q) ⟨regs [.agg #[.slice p0 l0 c0, .slice p0_1 l0_1 c0_1, .int .i64 n0], .pointer p1, .slice p2 l2 c2, .slice p3 l3 c3, .int .i64 n4, .bool b5], []⟩ w) h))
end Go.Sh
end
