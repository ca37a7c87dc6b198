/- A part of a proof of a given law of this program: lemmas, printed forms of its functions, contracts. It has no conditions of its own. -/
import Derived.Test.YtopjbcjbohegcaaGreatProg
import Derived.Test.YtopjbcjbohegcaaGreatMFw

section
namespace Go.Sh
open Go Go.Fw Go.Proofs
set_option maxRecDepth 100000
set_option linter.unusedVariables false

def halves_Cut (p0 : Option Addr) (l0 : Nat) (c0 : Nat) (w : World) (Q : Value → World → Prop) : Prop :=
  callF Tryz.prog 181 #[.int .i64 ((l0 : Nat) : Int), .slice none 0 0] w fun r9 w1 =>
  ∃ (b9 : Bool), r9 = .bool b9 ∧
  cond (!b9)
  (Q (.tuple #[.slice none 0 0, .slice none 0 0, .int .i64 11]) w1)
  (callF Tryz.prog 183 #[.int .i64 ((l0 : Nat) : Int)] w1 fun r14 w2 =>
    ∃ (n14 : Int), r14 = .int .i64 n14 ∧
    ∃ (p15 : Option Addr) (l15 : Nat) (c15 : Nat), Pu Tryz.prog (Instr.sliceAt 22 (.slice p0 l0 c0) none (some (.int .i64 n14)) none) (.slice p15 l15 c15) ∧
    callF Tryz.prog 182 #[.slice p15 l15 c15, .int .i64 ((l0 : Nat) : Int), .bool true] w2 fun r17 w3 =>
    ∃ (p17 : Option Addr) (l17 : Nat) (c17 : Nat) (n17 : Int), r17 = .tuple #[.slice p17 l17 c17, .int .i64 n17] ∧
    callF Tryz.prog 183 #[.int .i64 ((l0 : Nat) : Int)] w3 fun r24 w4 =>
    ∃ (n24 : Int), r24 = .int .i64 n24 ∧
    ∃ (p26 : Option Addr) (l26 : Nat) (c26 : Nat), Pu Tryz.prog (Instr.sliceAt 22 (.slice p0 l0 c0) (some (.int .i64 (IntKind.i64.wrap (((l0 : Nat) : Int) - n24)))) none none) (.slice p26 l26 c26) ∧
    callF Tryz.prog 182 #[.slice p26 l26 c26, .int .i64 ((l0 : Nat) : Int), .bool false] w4 fun r28 w5 =>
    ∃ (p28 : Option Addr) (l28 : Nat) (c28 : Nat) (n28 : Int), r28 = .tuple #[.slice p28 l28 c28, .int .i64 n28] ∧
    Q (.tuple #[.slice p17 l17 c17, .slice p28 l28 c28, .int .i64 0]) w5)
def halves_Cut_tt : Nat → List (Nat × TypeId) := fun _ => []
theorem halves_Cut_call (p0 : Option Addr) (l0 : Nat) (c0 : Nat) (w : World) (Q : Value → World → Prop) (h : halves_Cut p0 l0 c0 w Q) : callF Tryz.prog 169 #[.slice p0 l0 c0] w Q :=
  callF_of (fun _ _ => by kernel_rfl) (callK_of_sw halves_Cut_tt Tryz.func169 rfl (by kernel_rfl) (show sw Tryz.prog none 33 halves_Cut_tt _ 0 (endK Tryz.prog [.tmp 2, .tmp 3, .tmp 4] Q) ⟨regs [.slice p0 l0 c0], []⟩ w from
    Eq.mp (by kernel_rfl : halves_Cut p0 l0 c0 w Q = sw Tryz.prog none 33 halves_Cut_tt (Tryz.f169.body.getD .skip) 0 (endK Tryz.prog [.tmp 2, .tmp 3, .tmp 4] Q) ⟨regs [.slice p0 l0 c0], []⟩ w) h))

def halves_Join_j1 (p0 : Option Addr) (l0 : Nat) (c0 : Nat) (p1 : Option Addr) (l1 : Nat) (c1 : Nat) (n2 : Int) (p6 : Option Addr) (l6 : Nat) (c6 : Nat) (n7 : Int) (w : World) (Q : Value → World → Prop) : Prop :=
  cond ((Int.tmod n2 2) == 0)
  (∃ (p51 : Option Addr) (l51 : Nat) (c51 : Nat) (w1 : World), Ef Tryz.prog (Instr.buildSlice 85 2 #[(0, .slice p0 l0 c0), (1, .slice p1 l1 c1)]) w (.slice p51 l51 c51) w1 ∧
    callF Tryz.prog 47 #[.slice p51 l51 c51] w1 fun r52 w2 =>
    ∃ (p52 : Option Addr) (l52 : Nat) (c52 : Nat), r52 = .slice p52 l52 c52 ∧
    Q (.tuple #[.slice p52 l52 c52, .int .i64 0]) w2)
  (∃ (p55 : Option Addr) (l55 : Nat) (c55 : Nat), Pu Tryz.prog (Instr.sliceAt 22 (.slice p1 l1 c1) (some (.int .i64 1)) none none) (.slice p55 l55 c55) ∧
    ∃ (p56 : Option Addr) (l56 : Nat) (c56 : Nat) (w3 : World), Ef Tryz.prog (Instr.buildSlice 85 2 #[(0, .slice p0 l0 c0), (1, .slice p55 l55 c55)]) w (.slice p56 l56 c56) w3 ∧
    callF Tryz.prog 47 #[.slice p56 l56 c56] w3 fun r57 w4 =>
    ∃ (p57 : Option Addr) (l57 : Nat) (c57 : Nat), r57 = .slice p57 l57 c57 ∧
    ∃ (S12 : World → Prop),
    Drw w4 fun w5 =>
    ∃ (a62 : Addr), IxA Tryz.prog 22 (.slice p57 l57 c57) (.int .i64 (IntKind.i64.wrap (((l0 : Nat) : Int) - 1))) a62 ∧
    ∃ (a65 : Addr), IxA Tryz.prog 22 (.slice p1 l1 c1) (.int .i64 0) a65 ∧
    ∃ (n63 : Int), HLd Tryz.prog S12 5 (.pointer (some a62)) w5 (.int .u8 n63) ∧
    ∃ (n66 : Int), Ld Tryz.prog 5 (.pointer (some a65)) w5 (.int .u8 n66) ∧
    (w5 = w5 ∨ S12 w5) ∧
    ∃ (a68 : Addr), IxA Tryz.prog 22 (.slice p57 l57 c57) (.int .i64 (IntKind.i64.wrap (((l0 : Nat) : Int) - 1))) a68 ∧
    ∃ (w6 : World), Sto Tryz.prog 5 (.pointer (some a68)) (.int .u8 (ior .u8 n63 n66)) w5 w6 ∧
    Q (.tuple #[.slice p57 l57 c57, .int .i64 0]) w6)
def halves_Join (p0 : Option Addr) (l0 : Nat) (c0 : Nat) (p1 : Option Addr) (l1 : Nat) (c1 : Nat) (n2 : Int) (w : World) (Q : Value → World → Prop) : Prop :=
  ∃ (p16 : Option Addr) (l16 : Nat) (c16 : Nat) (w1 : World), Ef Tryz.prog (Instr.buildSlice 85 2 #[(0, .slice p0 l0 c0), (1, .slice p1 l1 c1)]) w (.slice p16 l16 c16) w1 ∧
  callF Tryz.prog 181 #[.int .i64 n2, .slice p16 l16 c16] w1 fun r17 w2 =>
  ∃ (b17 : Bool), r17 = .bool b17 ∧
  cond (!b17)
  (Q (.tuple #[.slice none 0 0, .int .i64 11]) w2)
  (∃ (m19 : Option Nat) (w3 : World), Ef Tryz.prog (Instr.makeMap 260 none) w2 (.map m19) w3 ∧
    ∃ (w4 : World), EfU Tryz.prog (Instr.mapUpdate 260 (.map m19) (.bool true) (.slice p0 l0 c0)) w3 w4 ∧
    ∃ (w5 : World), EfU Tryz.prog (Instr.mapUpdate 260 (.map m19) (.bool false) (.slice p1 l1 c1)) w4 w5 ∧
    ∃ (a23 : Addr) (w6 : World), Ef Tryz.prog (Instr.range 260 (.map m19)) w5 (.pointer (some a23)) w6 ∧
    LoopS [.slice p0 l0 c0, .slice p1 l1 c1, .int .i64 n2, .slice none 0 0, .int .i64 0, .pointer (some a23)] w6 fun I1 μ1 us1 _ wl1 =>
    ∃ (p0_1 : Option Addr) (l0_1 : Nat) (c0_1 : Nat) (p1_1 : Option Addr) (l1_1 : Nat) (c1_1 : Nat) (n2_1 : Int) (p6 : Option Addr) (l6 : Nat) (c6 : Nat) (n7 : Int) (a23_1 : Addr), us1 = [.slice p0_1 l0_1 c0_1, .slice p1_1 l1_1 c1_1, .int .i64 n2_1, .slice p6 l6 c6, .int .i64 n7, .pointer (some a23_1)] ∧
    ∃ (b24 : Bool) (r24 : List Value) (w7 : World), Ef Tryz.prog (Instr.next (.pointer (some a23_1)) false 0) wl1 (.tuple ⟨.bool b24 :: r24⟩) w7 ∧
    cond b24
    (∃ (k26 : Value) (v26 : Value) (w8 : World), Ef Tryz.prog (Instr.entry (.pointer (some a23_1))) w7 (.tuple #[k26, v26]) w8 ∧
      callF Tryz.prog 185 #[v26, .int .i64 n2_1, k26] w8 fun r33 w9 =>
      ∃ (p33 : Option Addr) (n33 : Int), r33 = .tuple #[.pointer p33, .int .u8 n33] ∧
      ∃ (b37 : Bool) (w10 : World), Ef Tryz.prog (do eqGuard .neq 261 (.tmp 36) (.const (.pointer none)) (.pointer p33) (.pointer none); binOp .neq 261 (.pointer p33) (.pointer none) : Sem Value) w9 (.bool b37) w10 ∧
      cond b37
      (∃ (a40 : Addr), p33 = some a40 ∧
        ∃ (n41 : Int), Ld Tryz.prog 5 (.pointer (some a40)) w10 (.int .u8 n41) ∧
        cond ((iand .u8 n41 n33) != 0)
        (Q (.tuple #[.slice none 0 0, .int .i64 10]) w10)
        (goesOn [] [] I1 μ1 us1 [.slice p0_1 l0_1 c0_1, .slice p1_1 l1_1 c1_1, .int .i64 n2_1, .slice p6 l6 c6, .int .i64 n7, .pointer (some a23_1)] wl1 w10))
      (goesOn [] [] I1 μ1 us1 [.slice p0_1 l0_1 c0_1, .slice p1_1 l1_1 c1_1, .int .i64 n2_1, .slice p6 l6 c6, .int .i64 n7, .pointer (some a23_1)] wl1 w10))
    (halves_Join_j1 p0_1 l0_1 c0_1 p1_1 l1_1 c1_1 n2_1 p6 l6 c6 n7 w7 Q))
def halves_Join_tt : Nat → List (Nat × TypeId) := fun n => match n with | 0 => [(0, 22), (1, 22), (2, 3), (6, 22), (7, 26), (23, 1000000)] | _ => []
theorem halves_Join_call (p0 : Option Addr) (l0 : Nat) (c0 : Nat) (p1 : Option Addr) (l1 : Nat) (c1 : Nat) (n2 : Int) (w : World) (Q : Value → World → Prop) (h : halves_Join p0 l0 c0 p1 l1 c1 n2 w Q) : callF Tryz.prog 171 #[.slice p0 l0 c0, .slice p1 l1 c1, .int .i64 n2] w Q :=
  callF_of (fun _ _ => by kernel_rfl) (callK_of_sw halves_Join_tt Tryz.func171 rfl (by kernel_rfl) (show sw Tryz.prog none 70 halves_Join_tt _ 0 (endK Tryz.prog [.tmp 6, .tmp 7] Q) ⟨regs [.slice p0 l0 c0, .slice p1 l1 c1, .int .i64 n2], []⟩ w from
    Eq.mp (by kernel_rfl : halves_Join p0 l0 c0 p1 l1 c1 n2 w Q = sw Tryz.prog none 70 halves_Join_tt (Tryz.f171.body.getD .skip) 0 (endK Tryz.prog [.tmp 6, .tmp 7] Q) ⟨regs [.slice p0 l0 c0, .slice p1 l1 c1, .int .i64 n2], []⟩ w) h))

def halves_fits (n0 : Int) (p1 : Option Addr) (l1 : Nat) (c1 : Nat) (w : World) (Q : Value → World → Prop) : Prop :=
  New #[.int .i64 n0] 3 w fun k2 w1 =>
  ∃ (n7 : Int), Ld Tryz.prog 3 (.pointer (some (⟨k2, 0, none⟩ : Addr))) w1 (.int .i64 n7) ∧
  cond (decide (n7 ≥ 2))
  (∃ (n10 : Int), Ld Tryz.prog 3 (.pointer (some (⟨k2, 0, none⟩ : Addr))) w1 (.int .i64 n10) ∧
    cond (decide (n10 ≤ 28))
    (callF Tryz.prog 97 #[.slice p1 l1 c1, .func (.func 198) #[] #[.pointer (some (⟨k2, 0, none⟩ : Addr))]] w1 fun r16 w2 =>
      ∃ (b16 : Bool), r16 = .bool b16 ∧
      Q (.bool (!b16)) w2)
    (Q (.bool false) w1))
  (Q (.bool false) w1)
def halves_fits_tt : Nat → List (Nat × TypeId) := fun _ => []
theorem halves_fits_call (n0 : Int) (p1 : Option Addr) (l1 : Nat) (c1 : Nat) (w : World) (Q : Value → World → Prop) (h : halves_fits n0 p1 l1 c1 w Q) : callF Tryz.prog 181 #[.int .i64 n0, .slice p1 l1 c1] w Q :=
  callF_of (fun _ _ => by kernel_rfl) (callK_of_sw halves_fits_tt Tryz.func181 rfl (by kernel_rfl) (show sw Tryz.prog none 19 halves_fits_tt _ 0 (endK Tryz.prog [.tmp 4] Q) ⟨regs [.int .i64 n0, .slice p1 l1 c1], []⟩ w from
    Eq.mp (by kernel_rfl : halves_fits n0 p1 l1 c1 w Q = sw Tryz.prog none 19 halves_fits_tt (Tryz.f181.body.getD .skip) 0 (endK Tryz.prog [.tmp 4] Q) ⟨regs [.int .i64 n0, .slice p1 l1 c1], []⟩ w) h))

def halves_Trim (p0 : Option Addr) (l0 : Nat) (c0 : Nat) (n1 : Int) (b2 : Bool) (w : World) (Q : Value → World → Prop) : Prop :=
  ∃ (p13 : Option Addr) (l13 : Nat) (c13 : Nat) (w1 : World), Ef Tryz.prog (Instr.buildSlice 85 1 #[(0, .slice p0 l0 c0)]) w (.slice p13 l13 c13) w1 ∧
  callF Tryz.prog 181 #[.int .i64 n1, .slice p13 l13 c13] w1 fun r14 w2 =>
  ∃ (b14 : Bool), r14 = .bool b14 ∧
  cond (!b14)
  (Q (.tuple #[.slice none 0 0, .int .i64 11]) w2)
  (callF Tryz.prog 44 #[.slice p0 l0 c0] w2 fun r17 w3 =>
    ∃ (p17 : Option Addr) (l17 : Nat) (c17 : Nat), r17 = .slice p17 l17 c17 ∧
    callF Tryz.prog 185 #[.slice p17 l17 c17, .int .i64 n1, .bool b2] w3 fun r22 w4 =>
    ∃ (p22 : Option Addr) (n22 : Int), r22 = .tuple #[.pointer p22, .int .u8 n22] ∧
    ∃ (b26 : Bool) (w5 : World), Ef Tryz.prog (do eqGuard .neq 261 (.tmp 25) (.const (.pointer none)) (.pointer p22) (.pointer none); binOp .neq 261 (.pointer p22) (.pointer none) : Sem Value) w4 (.bool b26) w5 ∧
    cond b26
    (∃ (a28 : Addr), p22 = some a28 ∧
      ∃ (n29 : Int), Ld Tryz.prog 5 (.pointer (some a28)) w5 (.int .u8 n29) ∧
      ∃ (a32 : Addr), p22 = some a32 ∧
      ∃ (w6 : World), Sto Tryz.prog 5 (.pointer (some a32)) (.int .u8 (iandNot .u8 n29 n22)) w5 w6 ∧
      Q (.tuple #[.slice p17 l17 c17, .int .i64 0]) w6)
    (Q (.tuple #[.slice p17 l17 c17, .int .i64 0]) w5))
def halves_Trim_tt : Nat → List (Nat × TypeId) := fun _ => []
theorem halves_Trim_call (p0 : Option Addr) (l0 : Nat) (c0 : Nat) (n1 : Int) (b2 : Bool) (w : World) (Q : Value → World → Prop) (h : halves_Trim p0 l0 c0 n1 b2 w Q) : callF Tryz.prog 182 #[.slice p0 l0 c0, .int .i64 n1, .bool b2] w Q :=
  callF_of (fun _ _ => by kernel_rfl) (callK_of_sw halves_Trim_tt Tryz.func182 rfl (by kernel_rfl) (show sw Tryz.prog none 34 halves_Trim_tt _ 0 (endK Tryz.prog [.tmp 6, .tmp 7] Q) ⟨regs [.slice p0 l0 c0, .int .i64 n1, .bool b2], []⟩ w from
    Eq.mp (by kernel_rfl : halves_Trim p0 l0 c0 n1 b2 w Q = sw Tryz.prog none 34 halves_Trim_tt (Tryz.f182.body.getD .skip) 0 (endK Tryz.prog [.tmp 6, .tmp 7] Q) ⟨regs [.slice p0 l0 c0, .int .i64 n1, .bool b2], []⟩ w) h))

def halves_Size (n0 : Int) (w : World) (Q : Value → World → Prop) : Prop :=
  cond (decide (n0 < 1))
  (Q (.int .i64 0) w)
  (Q (.int .i64 (IntKind.i64.wrap (n0 - (IntKind.i64.wrap (Int.tdiv n0 2))))) w)
def halves_Size_tt : Nat → List (Nat × TypeId) := fun _ => []
theorem halves_Size_call (n0 : Int) (w : World) (Q : Value → World → Prop) (h : halves_Size n0 w Q) : callF Tryz.prog 183 #[.int .i64 n0] w Q :=
  callF_of (fun _ _ => by kernel_rfl) (callK_of_sw halves_Size_tt Tryz.func183 rfl (by kernel_rfl) (show sw Tryz.prog none 9 halves_Size_tt _ 0 (endK Tryz.prog [.tmp 2] Q) ⟨regs [.int .i64 n0], []⟩ w from
    Eq.mp (by kernel_rfl : halves_Size n0 w Q = sw Tryz.prog none 9 halves_Size_tt (Tryz.f183.body.getD .skip) 0 (endK Tryz.prog [.tmp 2] Q) ⟨regs [.int .i64 n0], []⟩ w) h))

def halves_odd (p0 : Option Addr) (l0 : Nat) (c0 : Nat) (n1 : Int) (b2 : Bool) (w : World) (Q : Value → World → Prop) : Prop :=
  cond ((Int.tmod n1 2) == 0)
  (Q (.tuple #[.pointer none, .int .u8 0]) w)
  (cond b2
    (∃ (a18 : Addr), IxA Tryz.prog 22 (.slice p0 l0 c0) (.int .i64 (IntKind.i64.wrap (((l0 : Nat) : Int) - 1))) a18 ∧
      Q (.tuple #[.pointer (some a18), .int .u8 15]) w)
    (∃ (a20 : Addr), IxA Tryz.prog 22 (.slice p0 l0 c0) (.int .i64 0) a20 ∧
      Q (.tuple #[.pointer (some a20), .int .u8 240]) w))
def halves_odd_tt : Nat → List (Nat × TypeId) := fun _ => []
theorem halves_odd_call (p0 : Option Addr) (l0 : Nat) (c0 : Nat) (n1 : Int) (b2 : Bool) (w : World) (Q : Value → World → Prop) (h : halves_odd p0 l0 c0 n1 b2 w Q) : callF Tryz.prog 185 #[.slice p0 l0 c0, .int .i64 n1, .bool b2] w Q :=
  callF_of (fun _ _ => by kernel_rfl) (callK_of_sw halves_odd_tt Tryz.func185 rfl (by kernel_rfl) (show sw Tryz.prog none 21 halves_odd_tt _ 0 (endK Tryz.prog [.tmp 6, .tmp 7] Q) ⟨regs [.slice p0 l0 c0, .int .i64 n1, .bool b2], []⟩ w from
    Eq.mp (by kernel_rfl : halves_odd p0 l0 c0 n1 b2 w Q = sw Tryz.prog none 21 halves_odd_tt (Tryz.f185.body.getD .skip) 0 (endK Tryz.prog [.tmp 6, .tmp 7] Q) ⟨regs [.slice p0 l0 c0, .int .i64 n1, .bool b2], []⟩ w) h))

def halves_fits_c1 (p0 : Option Addr) (l0 : Nat) (c0 : Nat) (p1 : Option Addr) (w : World) (Q : Value → World → Prop) : Prop :=
  ∃ (n6 : Int), Ld Tryz.prog 3 (.pointer p1) w (.int .i64 n6) ∧
  callF Tryz.prog 183 #[.int .i64 n6] w fun r7 w1 =>
  ∃ (n7 : Int), r7 = .int .i64 n7 ∧
  Q (.bool (((l0 : Nat) : Int) != n7)) w1
def halves_fits_c1_tt : Nat → List (Nat × TypeId) := fun _ => []
theorem halves_fits_c1_call (p0 : Option Addr) (l0 : Nat) (c0 : Nat) (p1 : Option Addr) (w : World) (Q : Value → World → Prop) (h : halves_fits_c1 p0 l0 c0 p1 w Q) : callF Tryz.prog 198 #[.slice p0 l0 c0, .pointer p1] w Q :=
  callF_of (fun _ _ => by kernel_rfl) (callK_of_sw halves_fits_c1_tt Tryz.func198 rfl (by kernel_rfl) (show sw Tryz.prog none 9 halves_fits_c1_tt _ 0 (endK Tryz.prog [.tmp 3] Q) ⟨regs [.slice p0 l0 c0, .pointer p1], []⟩ w from
    Eq.mp (by kernel_rfl : halves_fits_c1 p0 l0 c0 p1 w Q = sw Tryz.prog none 9 halves_fits_c1_tt (Tryz.f198.body.getD .skip) 0 (endK Tryz.prog [.tmp 3] Q) ⟨regs [.slice p0 l0 c0, .pointer p1], []⟩ w) h))

def halves_Block_j1 (p0 : Option Addr) (l0 : Nat) (c0 : Nat) (n1 : Int) (n2 : Int) (p6 : Option Addr) (l6 : Nat) (c6 : Nat) (n7 : Int) (w : World) (Q : Value → World → Prop) : Prop :=
  ∃ (p25 : Option Addr) (l25 : Nat) (c25 : Nat) (w1 : World), Ef Tryz.prog (Instr.makeSlice 22 (.int .i64 (IntKind.i64.wrap (14 - ((l0 : Nat) : Int)))) (.int .i64 (IntKind.i64.wrap (14 - ((l0 : Nat) : Int))))) w (.slice p25 l25 c25) w1 ∧
  ∃ (p30 : Option Addr) (l30 : Nat) (c30 : Nat) (w2 : World), Ef Tryz.prog (Instr.buildSlice 22 2 #[(0, .int .u8 (IntKind.u8.wrap n1)), (1, .int .u8 (IntKind.u8.wrap n2))]) w1 (.slice p30 l30 c30) w2 ∧
  ∃ (p31 : Option Addr) (l31 : Nat) (c31 : Nat) (w3 : World), Ef Tryz.prog (Instr.buildSlice 85 3 #[(0, .slice p0 l0 c0), (1, .slice p25 l25 c25), (2, .slice p30 l30 c30)]) w2 (.slice p31 l31 c31) w3 ∧
  callF Tryz.prog 47 #[.slice p31 l31 c31] w3 fun r32 w4 =>
  ∃ (p32 : Option Addr) (l32 : Nat) (c32 : Nat), r32 = .slice p32 l32 c32 ∧
  Q (.tuple #[.slice p32 l32 c32, .int .i64 0]) w4
def halves_Block (p0 : Option Addr) (l0 : Nat) (c0 : Nat) (n1 : Int) (n2 : Int) (w : World) (Q : Value → World → Prop) : Prop :=
  ∃ (p10 : Option Addr) (l10 : Nat) (c10 : Nat) (w1 : World), Ef Tryz.prog (Instr.buildSlice 85 1 #[(0, .slice p0 l0 c0)]) w (.slice p10 l10 c10) w1 ∧
  callF Tryz.prog 181 #[.int .i64 n1, .slice p10 l10 c10] w1 fun r11 w2 =>
  ∃ (b11 : Bool), r11 = .bool b11 ∧
  cond (!b11)
  (Q (.tuple #[.slice none 0 0, .int .i64 11]) w2)
  (cond (decide (n2 < 0))
    (Q (.tuple #[.slice none 0 0, .int .i64 11]) w2)
    (cond (decide (n2 > 255))
      (Q (.tuple #[.slice none 0 0, .int .i64 11]) w2)
      (halves_Block_j1 p0 l0 c0 n1 n2 none 0 0 0 w2 Q)))
def halves_Block_tt : Nat → List (Nat × TypeId) := fun _ => []
theorem halves_Block_call (p0 : Option Addr) (l0 : Nat) (c0 : Nat) (n1 : Int) (n2 : Int) (w : World) (Q : Value → World → Prop) (h : halves_Block p0 l0 c0 n1 n2 w Q) : callF Tryz.prog 199 #[.slice p0 l0 c0, .int .i64 n1, .int .i64 n2] w Q :=
  callF_of (fun _ _ => by kernel_rfl) (callK_of_sw halves_Block_tt Tryz.func199 rfl (by kernel_rfl) (show sw Tryz.prog none 33 halves_Block_tt _ 0 (endK Tryz.prog [.tmp 6, .tmp 7] Q) ⟨regs [.slice p0 l0 c0, .int .i64 n1, .int .i64 n2], []⟩ w from
    Eq.mp (by kernel_rfl : halves_Block p0 l0 c0 n1 n2 w Q = sw Tryz.prog none 33 halves_Block_tt (Tryz.f199.body.getD .skip) 0 (endK Tryz.prog [.tmp 6, .tmp 7] Q) ⟨regs [.slice p0 l0 c0, .int .i64 n1, .int .i64 n2], []⟩ w) h))
end Go.Sh
end

section
namespace Go.Sh
open Go Go.Fw Go.Proofs
set_option maxRecDepth 100000
set_option linter.unusedVariables false

def feist_Mix (p0 : Option Addr) (p1 : Option Addr) (l1 : Nat) (c1 : Nat) (w : World) (Q : Value → World → Prop) : Prop :=
  ∃ (p8 : Option Addr) (l8 : Nat) (c8 : Nat) (w1 : World), Ef Tryz.prog (Instr.buildSlice 132 4 #[(0, .int .i64 1), (1, .int .i64 2), (2, .int .i64 3), (3, .int .i64 4)]) w (.slice p8 l8 c8) w1 ∧
  callF Tryz.prog 155 #[.pointer p0, .slice p1 l1 c1, .slice p8 l8 c8] w1 fun r9 w2 =>
  ∃ (p9 : Option Addr) (l9 : Nat) (c9 : Nat) (n9 : Int), r9 = .tuple #[.slice p9 l9 c9, .int .i64 n9] ∧
  Q (.tuple #[.slice p9 l9 c9, .int .i64 n9]) w2
def feist_Mix_tt : Nat → List (Nat × TypeId) := fun _ => []
theorem feist_Mix_call (p0 : Option Addr) (p1 : Option Addr) (l1 : Nat) (c1 : Nat) (w : World) (Q : Value → World → Prop) (h : feist_Mix p0 p1 l1 c1 w Q) : callF Tryz.prog 126 #[.pointer p0, .slice p1 l1 c1] w Q :=
  callF_of (fun _ _ => by kernel_rfl) (callK_of_sw feist_Mix_tt Tryz.func126 rfl (by kernel_rfl) (show sw Tryz.prog none 12 feist_Mix_tt _ 0 (endK Tryz.prog [.tmp 4, .tmp 5] Q) ⟨regs [.pointer p0, .slice p1 l1 c1], []⟩ w from
    Eq.mp (by kernel_rfl : feist_Mix p0 p1 l1 c1 w Q = sw Tryz.prog none 12 feist_Mix_tt (Tryz.f126.body.getD .skip) 0 (endK Tryz.prog [.tmp 4, .tmp 5] Q) ⟨regs [.pointer p0, .slice p1 l1 c1], []⟩ w) h))

def feist_Unmix (p0 : Option Addr) (p1 : Option Addr) (l1 : Nat) (c1 : Nat) (w : World) (Q : Value → World → Prop) : Prop :=
  ∃ (p8 : Option Addr) (l8 : Nat) (c8 : Nat) (w1 : World), Ef Tryz.prog (Instr.buildSlice 132 4 #[(0, .int .i64 4), (1, .int .i64 3), (2, .int .i64 2), (3, .int .i64 1)]) w (.slice p8 l8 c8) w1 ∧
  callF Tryz.prog 155 #[.pointer p0, .slice p1 l1 c1, .slice p8 l8 c8] w1 fun r9 w2 =>
  ∃ (p9 : Option Addr) (l9 : Nat) (c9 : Nat) (n9 : Int), r9 = .tuple #[.slice p9 l9 c9, .int .i64 n9] ∧
  Q (.tuple #[.slice p9 l9 c9, .int .i64 n9]) w2
def feist_Unmix_tt : Nat → List (Nat × TypeId) := fun _ => []
theorem feist_Unmix_call (p0 : Option Addr) (p1 : Option Addr) (l1 : Nat) (c1 : Nat) (w : World) (Q : Value → World → Prop) (h : feist_Unmix p0 p1 l1 c1 w Q) : callF Tryz.prog 153 #[.pointer p0, .slice p1 l1 c1] w Q :=
  callF_of (fun _ _ => by kernel_rfl) (callK_of_sw feist_Unmix_tt Tryz.func153 rfl (by kernel_rfl) (show sw Tryz.prog none 12 feist_Unmix_tt _ 0 (endK Tryz.prog [.tmp 4, .tmp 5] Q) ⟨regs [.pointer p0, .slice p1 l1 c1], []⟩ w from
    Eq.mp (by kernel_rfl : feist_Unmix p0 p1 l1 c1 w Q = sw Tryz.prog none 12 feist_Unmix_tt (Tryz.f153.body.getD .skip) 0 (endK Tryz.prog [.tmp 4, .tmp 5] Q) ⟨regs [.pointer p0, .slice p1 l1 c1], []⟩ w) h))

def feist_Passes_j1 (p6 : Option Addr) (l6 : Nat) (c6 : Nat) (n7 : Int) (a11 : Addr) (w : World) (Q : Value → World → Prop) : Prop :=
  ∃ (p43 : Option Addr) (l43 : Nat) (c43 : Nat), Ld Tryz.prog 22 (.pointer (some (a11.add 0))) w (.slice p43 l43 c43) ∧
  ∃ (p45 : Option Addr) (l45 : Nat) (c45 : Nat), Ld Tryz.prog 22 (.pointer (some (a11.add 1))) w (.slice p45 l45 c45) ∧
  ∃ (n47 : Int), Ld Tryz.prog 3 (.pointer (some (a11.add 2))) w (.int .i64 n47) ∧
  callF Tryz.prog 171 #[.slice p43 l43 c43, .slice p45 l45 c45, .int .i64 n47] w fun r48 w1 =>
  ∃ (p48 : Option Addr) (l48 : Nat) (c48 : Nat) (n48 : Int), r48 = .tuple #[.slice p48 l48 c48, .int .i64 n48] ∧
  Q (.tuple #[.slice p48 l48 c48, .int .i64 n48]) w1
def feist_Passes (p0 : Option Addr) (p1 : Option Addr) (l1 : Nat) (c1 : Nat) (p2 : Option Addr) (l2 : Nat) (c2 : Nat) (w : World) (Q : Value → World → Prop) : Prop :=
  callF Tryz.prog 169 #[.slice p1 l1 c1] w fun r17 w1 =>
  ∃ (p17 : Option Addr) (l17 : Nat) (c17 : Nat) (p17_1 : Option Addr) (l17_1 : Nat) (c17_1 : Nat) (n17 : Int), r17 = .tuple #[.slice p17 l17 c17, .slice p17_1 l17_1 c17_1, .int .i64 n17] ∧
  cond (n17 != 0)
  (Q (.tuple #[.slice none 0 0, .int .i64 n17]) w1)
  (∃ (z11 : Value), Pu Tryz.prog (zeroValue 252) z11 ∧
    New z11.cells 252 w1 fun k11 w2 =>
    ∃ (w3 : World), Sto Tryz.prog 252 (.pointer (some (⟨k11, 0, none⟩ : Addr))) (.agg #[.slice p17 l17 c17, .slice p17_1 l17_1 c17_1, .int .i64 ((l1 : Nat) : Int)]) w2 w3 ∧
    LoopS [.pointer p0, .slice none 0 0, .int .i64 0, .pointer (some (⟨k11, 0, none⟩ : Addr)), .slice p2 l2 c2, .int .i64 ((l2 : Nat) : Int), .int .i64 0] w3 fun I1 μ1 us1 _ wl1 =>
    ∃ (p0_1 : Option Addr) (p6 : Option Addr) (l6 : Nat) (c6 : Nat) (n7 : Int) (a11 : Addr) (p29 : Option Addr) (l29 : Nat) (c29 : Nat) (n30 : Int) (n31 : Int), us1 = [.pointer p0_1, .slice p6 l6 c6, .int .i64 n7, .pointer (some a11), .slice p29 l29 c29, .int .i64 n30, .int .i64 n31] ∧
    cond (decide (n31 < n30))
    (∃ (a33 : Addr), IxA Tryz.prog 132 (.slice p29 l29 c29) (.int .i64 n31) a33 ∧
      ∃ (n34 : Int), Ld Tryz.prog 3 (.pointer (some a33)) wl1 (.int .i64 n34) ∧
      callF Tryz.prog 170 #[.pointer (some a11), .pointer p0_1, .int .i64 n34] wl1 fun r37 w4 =>
      ∃ (n37 : Int), r37 = .int .i64 n37 ∧
      cond (n37 != 0)
      (Q (.tuple #[.slice none 0 0, .int .i64 n37]) w4)
      (goesOn [] [] I1 μ1 us1 [.pointer p0_1, .slice p6 l6 c6, .int .i64 n7, .pointer (some a11), .slice p29 l29 c29, .int .i64 n30, .int .i64 (IntKind.i64.wrap (n31 + 1))] wl1 w4))
    (feist_Passes_j1 p6 l6 c6 n7 a11 wl1 Q))
def feist_Passes_tt : Nat → List (Nat × TypeId) := fun n => match n with | 0 => [(0, 86), (6, 22), (7, 26), (11, 1000000), (29, 132), (30, 3), (31, 3)] | _ => []
theorem feist_Passes_call (p0 : Option Addr) (p1 : Option Addr) (l1 : Nat) (c1 : Nat) (p2 : Option Addr) (l2 : Nat) (c2 : Nat) (w : World) (Q : Value → World → Prop) (h : feist_Passes p0 p1 l1 c1 p2 l2 c2 w Q) : callF Tryz.prog 155 #[.pointer p0, .slice p1 l1 c1, .slice p2 l2 c2] w Q :=
  callF_of (fun _ _ => by kernel_rfl) (callK_of_sw feist_Passes_tt Tryz.func155 rfl (by kernel_rfl) (show sw Tryz.prog none 51 feist_Passes_tt _ 0 (endK Tryz.prog [.tmp 6, .tmp 7] Q) ⟨regs [.pointer p0, .slice p1 l1 c1, .slice p2 l2 c2], []⟩ w from
    Eq.mp (by kernel_rfl : feist_Passes p0 p1 l1 c1 p2 l2 c2 w Q = sw Tryz.prog none 51 feist_Passes_tt (Tryz.f155.body.getD .skip) 0 (endK Tryz.prog [.tmp 6, .tmp 7] Q) ⟨regs [.pointer p0, .slice p1 l1 c1, .slice p2 l2 c2], []⟩ w) h))

def feist_pair_pass (p0 : Option Addr) (p1 : Option Addr) (n2 : Int) (w : World) (Q : Value → World → Prop) : Prop :=
  cond ((Int.tmod n2 2) == 0)
  (∃ (S2 : World → Prop),
    Drw w fun w1 =>
    ∃ (a13 : Addr), p0 = some a13 ∧
    ∃ (a17 : Addr), p0 = some a17 ∧
    ∃ (a21 : Addr), p0 = some a21 ∧
    ∃ (p14 : Option Addr) (l14 : Nat) (c14 : Nat) (p14_1 : Option Addr) (l14_1 : Nat) (c14_1 : Nat) (n14 : Int), HLd Tryz.prog S2 252 (.pointer (some a13)) w1 (.agg #[.slice p14 l14 c14, .slice p14_1 l14_1 c14_1, .int .i64 n14]) ∧
    ∃ (p19 : Option Addr) (l19 : Nat) (c19 : Nat), HLd Tryz.prog S2 22 (.pointer (some (a17.add 1))) w1 (.slice p19 l19 c19) ∧
    ∃ (p23 : Option Addr) (l23 : Nat) (c23 : Nat), Ld Tryz.prog 22 (.pointer (some (a21.add 0))) w1 (.slice p23 l23 c23) ∧
    (w1 = w1 ∨ S2 w1) ∧
    callF Tryz.prog 184 #[.agg #[.slice p14 l14 c14, .slice p14_1 l14_1 c14_1, .int .i64 n14], .pointer p1, .slice p19 l19 c19, .slice p23 l23 c23, .int .i64 n2, .bool true] w1 fun r25 w2 =>
    ∃ (p25 : Option Addr) (l25 : Nat) (c25 : Nat) (n25 : Int), r25 = .tuple #[.slice p25 l25 c25, .int .i64 n25] ∧
    ∃ (a28 : Addr), p0 = some a28 ∧
    ∃ (w3 : World), Sto Tryz.prog 22 (.pointer (some (a28.add 0))) (.slice p25 l25 c25) w2 w3 ∧
    Q (.int .i64 n25) w3)
  (∃ (S3 : World → Prop),
    Drw w fun w4 =>
    ∃ (a33 : Addr), p0 = some a33 ∧
    ∃ (a37 : Addr), p0 = some a37 ∧
    ∃ (a41 : Addr), p0 = some a41 ∧
    ∃ (p34 : Option Addr) (l34 : Nat) (c34 : Nat) (p34_1 : Option Addr) (l34_1 : Nat) (c34_1 : Nat) (n34 : Int), HLd Tryz.prog S3 252 (.pointer (some a33)) w4 (.agg #[.slice p34 l34 c34, .slice p34_1 l34_1 c34_1, .int .i64 n34]) ∧
    ∃ (p39 : Option Addr) (l39 : Nat) (c39 : Nat), HLd Tryz.prog S3 22 (.pointer (some (a37.add 0))) w4 (.slice p39 l39 c39) ∧
    ∃ (p43 : Option Addr) (l43 : Nat) (c43 : Nat), Ld Tryz.prog 22 (.pointer (some (a41.add 1))) w4 (.slice p43 l43 c43) ∧
    (w4 = w4 ∨ S3 w4) ∧
    callF Tryz.prog 184 #[.agg #[.slice p34 l34 c34, .slice p34_1 l34_1 c34_1, .int .i64 n34], .pointer p1, .slice p39 l39 c39, .slice p43 l43 c43, .int .i64 n2, .bool false] w4 fun r45 w5 =>
    ∃ (p45 : Option Addr) (l45 : Nat) (c45 : Nat) (n45 : Int), r45 = .tuple #[.slice p45 l45 c45, .int .i64 n45] ∧
    ∃ (a48 : Addr), p0 = some a48 ∧
    ∃ (w6 : World), Sto Tryz.prog 22 (.pointer (some (a48.add 1))) (.slice p45 l45 c45) w5 w6 ∧
    Q (.int .i64 n45) w6)
def feist_pair_pass_tt : Nat → List (Nat × TypeId) := fun _ => []
theorem feist_pair_pass_call (p0 : Option Addr) (p1 : Option Addr) (n2 : Int) (w : World) (Q : Value → World → Prop) (h : feist_pair_pass p0 p1 n2 w Q) : callF Tryz.prog 170 #[.pointer p0, .pointer p1, .int .i64 n2] w Q :=
  callF_of (fun _ _ => by kernel_rfl) (callK_of_sw feist_pair_pass_tt Tryz.func170 rfl (by kernel_rfl) (show sw Tryz.prog none 51 feist_pair_pass_tt _ 0 (endK Tryz.prog [.tmp 6] Q) ⟨regs [.pointer p0, .pointer p1, .int .i64 n2], []⟩ w from
    Eq.mp (by kernel_rfl : feist_pair_pass p0 p1 n2 w Q = sw Tryz.prog none 51 feist_pair_pass_tt (Tryz.f170.body.getD .skip) 0 (endK Tryz.prog [.tmp 6] Q) ⟨regs [.pointer p0, .pointer p1, .int .i64 n2], []⟩ w) h))

def feist_pair_onto_j1 (p1 : Option Addr) (p3 : Option Addr) (l3 : Nat) (c3 : Nat) (b5 : Bool) (a6 : Addr) (p12 : Option Addr) (l12 : Nat) (c12 : Nat) (n13 : Int) (p14 : Option Addr) (l14 : Nat) (c14 : Nat) (w : World) (Q : Value → World → Prop) : Prop :=
  callF Tryz.prog 42 #[.pointer p1, .slice p14 l14 c14] w fun r40 w1 =>
  ∃ (p40 : Option Addr) (l40 : Nat) (c40 : Nat) (n40 : Int), r40 = .tuple #[.slice p40 l40 c40, .int .i64 n40] ∧
  ∃ (p47 : Option Addr) (l47 : Nat) (c47 : Nat), Pu Tryz.prog (Instr.sliceAt 22 (.slice p40 l40 c40) none (some (.int .i64 ((l3 : Nat) : Int))) none) (.slice p47 l47 c47) ∧
  callF Tryz.prog 53 #[.slice p47 l47 c47, .slice p3 l3 c3] w1 fun r49 w2 =>
  ∃ (p49 : Option Addr) (l49 : Nat) (c49 : Nat) (n49 : Int), r49 = .tuple #[.slice p49 l49 c49, .int .i64 n49] ∧
  ∃ (n54 : Int), Ld Tryz.prog 3 (.pointer (some (a6.add 2))) w2 (.int .i64 n54) ∧
  callF Tryz.prog 182 #[.slice p49 l49 c49, .int .i64 n54, .bool b5] w2 fun r56 w3 =>
  ∃ (p56 : Option Addr) (l56 : Nat) (c56 : Nat) (n56 : Int), r56 = .tuple #[.slice p56 l56 c56, .int .i64 n56] ∧
  Q (.tuple #[.slice p56 l56 c56, .int .i64 n56]) w3
def feist_pair_onto (p0 : Option Addr) (l0 : Nat) (c0 : Nat) (p0_1 : Option Addr) (l0_1 : Nat) (c0_1 : Nat) (n0 : Int) (p1 : Option Addr) (p2 : Option Addr) (l2 : Nat) (c2 : Nat) (p3 : Option Addr) (l3 : Nat) (c3 : Nat) (n4 : Int) (b5 : Bool) (w : World) (Q : Value → World → Prop) : Prop :=
  New #[.slice p0 l0 c0, .slice p0_1 l0_1 c0_1, .int .i64 n0] 252 w fun k6 w1 =>
  ∃ (n23 : Int), Ld Tryz.prog 3 (.pointer (some ((⟨k6, 0, none⟩ : Addr).add 2))) w1 (.int .i64 n23) ∧
  callF Tryz.prog 199 #[.slice p2 l2 c2, .int .i64 n23, .int .i64 n4] w1 fun r25 w2 =>
  ∃ (p25 : Option Addr) (l25 : Nat) (c25 : Nat) (n25 : Int), r25 = .tuple #[.slice p25 l25 c25, .int .i64 n25] ∧
  cond (n25 != 0)
  (Q (.tuple #[.slice none 0 0, .int .i64 11]) w2)
  (cond (((l3 : Nat) : Int) != ((l2 : Nat) : Int))
    (Q (.tuple #[.slice none 0 0, .int .i64 11]) w2)
    (feist_pair_onto_j1 p1 p3 l3 c3 b5 (⟨k6, 0, none⟩ : Addr) none 0 0 0 p25 l25 c25 w2 Q))
def feist_pair_onto_tt : Nat → List (Nat × TypeId) := fun _ => []
theorem feist_pair_onto_call (p0 : Option Addr) (l0 : Nat) (c0 : Nat) (p0_1 : Option Addr) (l0_1 : Nat) (c0_1 : Nat) (n0 : Int) (p1 : Option Addr) (p2 : Option Addr) (l2 : Nat) (c2 : Nat) (p3 : Option Addr) (l3 : Nat) (c3 : Nat) (n4 : Int) (b5 : Bool) (w : World) (Q : Value → World → Prop) (h : feist_pair_onto p0 l0 c0 p0_1 l0_1 c0_1 n0 p1 p2 l2 c2 p3 l3 c3 n4 b5 w Q) : callF Tryz.prog 184 #[.agg #[.slice p0 l0 c0, .slice p0_1 l0_1 c0_1, .int .i64 n0], .pointer p1, .slice p2 l2 c2, .slice p3 l3 c3, .int .i64 n4, .bool b5] w Q :=
  callF_of (fun _ _ => by kernel_rfl) (callK_of_sw feist_pair_onto_tt Tryz.func184 rfl (by kernel_rfl) (show sw Tryz.prog none 59 feist_pair_onto_tt _ 0 (endK Tryz.prog [.tmp 12, .tmp 13] Q) ⟨regs [.agg #[.slice p0 l0 c0, .slice p0_1 l0_1 c0_1, .int .i64 n0], .pointer p1, .slice p2 l2 c2, .slice p3 l3 c3, .int .i64 n4, .bool b5], []⟩ w from
    Eq.mp (by kernel_rfl : feist_pair_onto p0 l0 c0 p0_1 l0_1 c0_1 n0 p1 p2 l2 c2 p3 l3 c3 n4 b5 w Q = sw Tryz.prog none 59 feist_pair_onto_tt (Tryz.f184.body.getD .skip) 0 (endK Tryz.prog [.tmp 12, .tmp 13] Q) ⟨regs [.agg #[.slice p0 l0 c0, .slice p0_1 l0_1 c0_1, .int .i64 n0], .pointer p1, .slice p2 l2 c2, .slice p3 l3 c3, .int .i64 n4, .bool b5], []⟩ w) h))
end Go.Sh
end

section
namespace Go.Sh
open Go Go.Fw Go.Proofs
set_option maxRecDepth 100000
set_option linter.unusedVariables false

def ref14_Cut_j1 (p2 : Option Addr) (l2 : Nat) (c2 : Nat) (p3 : Option Addr) (l3 : Nat) (c3 : Nat) (n4 : Int) (p7 : Option Addr) (l7 : Nat) (c7 : Nat) (p8 : Option Addr) (l8 : Nat) (c8 : Nat) (w : World) (Q : Value → World → Prop) : Prop :=
  callF Tryz.prog 195 #[.slice p7 l7 c7] w fun r39 w1 =>
  ∃ (p39 : Option Addr) (l39 : Nat) (c39 : Nat), r39 = .slice p39 l39 c39 ∧
  callF Tryz.prog 195 #[.slice p8 l8 c8] w1 fun r41 w2 =>
  ∃ (p41 : Option Addr) (l41 : Nat) (c41 : Nat), r41 = .slice p41 l41 c41 ∧
  Q (.tuple #[.slice p39 l39 c39, .slice p41 l41 c41, .int .i64 0]) w2
def ref14_Cut_j2 (p0 : Option Addr) (l0 : Nat) (c0 : Nat) (p2 : Option Addr) (l2 : Nat) (c2 : Nat) (p3 : Option Addr) (l3 : Nat) (c3 : Nat) (n4 : Int) (n5 : Int) (w : World) (Q : Value → World → Prop) : Prop :=
  callF Tryz.prog 194 #[.slice p0 l0 c0] w fun r18 w1 =>
  ∃ (p18 : Option Addr) (l18 : Nat) (c18 : Nat), r18 = .slice p18 l18 c18 ∧
  ∃ (p19 : Option Addr) (l19 : Nat) (c19 : Nat) (w2 : World), Ef Tryz.prog (Instr.buildSlice 22 0 #[]) w1 (.slice p19 l19 c19) w2 ∧
  ∃ (p22 : Option Addr) (l22 : Nat) (c22 : Nat), Pu Tryz.prog (Instr.sliceAt 22 (.slice p18 l18 c18) none (some (.int .i64 n5)) none) (.slice p22 l22 c22) ∧
  ∃ (p23 : Option Addr) (l23 : Nat) (c23 : Nat) (w3 : World), Ef Tryz.prog (Builtin.append_ #[22, 22] 22 #[.slice p19 l19 c19, .slice p22 l22 c22]) w2 (.slice p23 l23 c23) w3 ∧
  ∃ (p24 : Option Addr) (l24 : Nat) (c24 : Nat) (w4 : World), Ef Tryz.prog (Instr.buildSlice 22 0 #[]) w3 (.slice p24 l24 c24) w4 ∧
  ∃ (p27 : Option Addr) (l27 : Nat) (c27 : Nat), Pu Tryz.prog (Instr.sliceAt 22 (.slice p18 l18 c18) (some (.int .i64 n5)) none none) (.slice p27 l27 c27) ∧
  ∃ (p28 : Option Addr) (l28 : Nat) (c28 : Nat) (w5 : World), Ef Tryz.prog (Builtin.append_ #[22, 22] 22 #[.slice p24 l24 c24, .slice p27 l27 c27]) w4 (.slice p28 l28 c28) w5 ∧
  cond ((Int.tmod n5 2) == 1)
  (∃ (p33 : Option Addr) (l33 : Nat) (c33 : Nat) (w6 : World), Ef Tryz.prog (Instr.buildSlice 22 1 #[(0, .int .u8 0)]) w5 (.slice p33 l33 c33) w6 ∧
    ∃ (p34 : Option Addr) (l34 : Nat) (c34 : Nat) (w7 : World), Ef Tryz.prog (Builtin.append_ #[22, 22] 22 #[.slice p23 l23 c23, .slice p33 l33 c33]) w6 (.slice p34 l34 c34) w7 ∧
    ∃ (p35 : Option Addr) (l35 : Nat) (c35 : Nat) (w8 : World), Ef Tryz.prog (Instr.buildSlice 22 1 #[(0, .int .u8 0)]) w7 (.slice p35 l35 c35) w8 ∧
    ∃ (p37 : Option Addr) (l37 : Nat) (c37 : Nat) (w9 : World), Ef Tryz.prog (Builtin.append_ #[22, 22] 22 #[.slice p35 l35 c35, .slice p28 l28 c28]) w8 (.slice p37 l37 c37) w9 ∧
    ref14_Cut_j1 p2 l2 c2 p3 l3 c3 n4 p34 l34 c34 p37 l37 c37 w9 Q)
  (ref14_Cut_j1 p2 l2 c2 p3 l3 c3 n4 p23 l23 c23 p28 l28 c28 w5 Q)
def ref14_Cut (p0 : Option Addr) (l0 : Nat) (c0 : Nat) (w : World) (Q : Value → World → Prop) : Prop :=
  cond (decide (((l0 : Nat) : Int) < 2))
  (Q (.tuple #[.slice none 0 0, .slice none 0 0, .int .i64 11]) w)
  (cond (decide (((l0 : Nat) : Int) > 28))
    (Q (.tuple #[.slice none 0 0, .slice none 0 0, .int .i64 11]) w)
    (ref14_Cut_j2 p0 l0 c0 none 0 0 none 0 0 0 ((l0 : Nat) : Int) w Q))
def ref14_Cut_tt : Nat → List (Nat × TypeId) := fun _ => []
theorem ref14_Cut_call (p0 : Option Addr) (l0 : Nat) (c0 : Nat) (w : World) (Q : Value → World → Prop) (h : ref14_Cut p0 l0 c0 w Q) : callF Tryz.prog 177 #[.slice p0 l0 c0] w Q :=
  callF_of (fun _ _ => by kernel_rfl) (callK_of_sw ref14_Cut_tt Tryz.func177 rfl (by kernel_rfl) (show sw Tryz.prog none 42 ref14_Cut_tt _ 0 (endK Tryz.prog [.tmp 2, .tmp 3, .tmp 4] Q) ⟨regs [.slice p0 l0 c0], []⟩ w from
    Eq.mp (by kernel_rfl : ref14_Cut p0 l0 c0 w Q = sw Tryz.prog none 42 ref14_Cut_tt (Tryz.f177.body.getD .skip) 0 (endK Tryz.prog [.tmp 2, .tmp 3, .tmp 4] Q) ⟨regs [.slice p0 l0 c0], []⟩ w) h))

def ref14_Join_j1 (n2 : Int) (p6 : Option Addr) (l6 : Nat) (c6 : Nat) (n7 : Int) (p8 : Option Addr) (l8 : Nat) (c8 : Nat) (p9 : Option Addr) (l9 : Nat) (c9 : Nat) (w : World) (Q : Value → World → Prop) : Prop :=
  ∃ (p43 : Option Addr) (l43 : Nat) (c43 : Nat), Pu Tryz.prog (Instr.sliceAt 22 (.slice p8 l8 c8) none (some (.int .i64 n2)) (some (.int .i64 n2))) (.slice p43 l43 c43) ∧
  ∃ (p45 : Option Addr) (l45 : Nat) (c45 : Nat) (w1 : World), Ef Tryz.prog (Builtin.append_ #[22, 22] 22 #[.slice p43 l43 c43, .slice p9 l9 c9]) w (.slice p45 l45 c45) w1 ∧
  callF Tryz.prog 195 #[.slice p45 l45 c45] w1 fun r46 w2 =>
  ∃ (p46 : Option Addr) (l46 : Nat) (c46 : Nat), r46 = .slice p46 l46 c46 ∧
  Q (.tuple #[.slice p46 l46 c46, .int .i64 0]) w2
def ref14_Join_j2 (p0 : Option Addr) (l0 : Nat) (c0 : Nat) (p1 : Option Addr) (l1 : Nat) (c1 : Nat) (n2 : Int) (p6 : Option Addr) (l6 : Nat) (c6 : Nat) (n7 : Int) (w : World) (Q : Value → World → Prop) : Prop :=
  callF Tryz.prog 194 #[.slice p0 l0 c0] w fun r21 w1 =>
  ∃ (p21 : Option Addr) (l21 : Nat) (c21 : Nat), r21 = .slice p21 l21 c21 ∧
  callF Tryz.prog 194 #[.slice p1 l1 c1] w1 fun r23 w2 =>
  ∃ (p23 : Option Addr) (l23 : Nat) (c23 : Nat), r23 = .slice p23 l23 c23 ∧
  cond ((Int.tmod n2 2) == 1)
  (∃ (a29 : Addr), IxA Tryz.prog 22 (.slice p21 l21 c21) (.int .i64 n2) a29 ∧
    ∃ (n30 : Int), Ld Tryz.prog 5 (.pointer (some a29)) w2 (.int .u8 n30) ∧
    cond (n30 != 0)
    (Q (.tuple #[.slice none 0 0, .int .i64 10]) w2)
    (∃ (a34 : Addr), IxA Tryz.prog 22 (.slice p23 l23 c23) (.int .i64 0) a34 ∧
      ∃ (n35 : Int), Ld Tryz.prog 5 (.pointer (some a34)) w2 (.int .u8 n35) ∧
      cond (n35 != 0)
      (Q (.tuple #[.slice none 0 0, .int .i64 10]) w2)
      (∃ (p39 : Option Addr) (l39 : Nat) (c39 : Nat), Pu Tryz.prog (Instr.sliceAt 22 (.slice p23 l23 c23) (some (.int .i64 1)) none none) (.slice p39 l39 c39) ∧
        ref14_Join_j1 n2 p6 l6 c6 n7 p21 l21 c21 p39 l39 c39 w2 Q)))
  (ref14_Join_j1 n2 p6 l6 c6 n7 p21 l21 c21 p23 l23 c23 w2 Q)
def ref14_Join (p0 : Option Addr) (l0 : Nat) (c0 : Nat) (p1 : Option Addr) (l1 : Nat) (c1 : Nat) (n2 : Int) (w : World) (Q : Value → World → Prop) : Prop :=
  callF Tryz.prog 197 #[.slice p0 l0 c0, .int .i64 n2] w fun r12 w1 =>
  ∃ (b12 : Bool), r12 = .bool b12 ∧
  cond (!b12)
  (Q (.tuple #[.slice none 0 0, .int .i64 11]) w1)
  (callF Tryz.prog 197 #[.slice p1 l1 c1, .int .i64 n2] w1 fun r17 w2 =>
    ∃ (b17 : Bool), r17 = .bool b17 ∧
    cond (!b17)
    (Q (.tuple #[.slice none 0 0, .int .i64 11]) w2)
    (ref14_Join_j2 p0 l0 c0 p1 l1 c1 n2 none 0 0 0 w2 Q))
def ref14_Join_tt : Nat → List (Nat × TypeId) := fun _ => []
theorem ref14_Join_call (p0 : Option Addr) (l0 : Nat) (c0 : Nat) (p1 : Option Addr) (l1 : Nat) (c1 : Nat) (n2 : Int) (w : World) (Q : Value → World → Prop) (h : ref14_Join p0 l0 c0 p1 l1 c1 n2 w Q) : callF Tryz.prog 179 #[.slice p0 l0 c0, .slice p1 l1 c1, .int .i64 n2] w Q :=
  callF_of (fun _ _ => by kernel_rfl) (callK_of_sw ref14_Join_tt Tryz.func179 rfl (by kernel_rfl) (show sw Tryz.prog none 47 ref14_Join_tt _ 0 (endK Tryz.prog [.tmp 6, .tmp 7] Q) ⟨regs [.slice p0 l0 c0, .slice p1 l1 c1, .int .i64 n2], []⟩ w from
    Eq.mp (by kernel_rfl : ref14_Join p0 l0 c0 p1 l1 c1 n2 w Q = sw Tryz.prog none 47 ref14_Join_tt (Tryz.f179.body.getD .skip) 0 (endK Tryz.prog [.tmp 6, .tmp 7] Q) ⟨regs [.slice p0 l0 c0, .slice p1 l1 c1, .int .i64 n2], []⟩ w) h))

def ref14_Fours (p0 : Option Addr) (l0 : Nat) (c0 : Nat) (w : World) (Q : Value → World → Prop) : Prop :=
  ∃ (p5 : Option Addr) (l5 : Nat) (c5 : Nat) (w1 : World), Ef Tryz.prog (Instr.buildSlice 22 0 #[]) w (.slice p5 l5 c5) w1 ∧
  LoopS [.slice p0 l0 c0, .slice none 0 0, .slice p5 l5 c5, .int .i64 0] w1 fun I1 μ1 us1 _ wl1 =>
  ∃ (p0_1 : Option Addr) (l0_1 : Nat) (c0_1 : Nat) (p2 : Option Addr) (l2 : Nat) (c2 : Nat) (p3 : Option Addr) (l3 : Nat) (c3 : Nat) (n4 : Int), us1 = [.slice p0_1 l0_1 c0_1, .slice p2 l2 c2, .slice p3 l3 c3, .int .i64 n4] ∧
  cond (decide (n4 < ((l0_1 : Nat) : Int)))
  (∃ (S5 : World → Prop),
    Drw wl1 fun w2 =>
    ∃ (a15 : Addr), IxA Tryz.prog 22 (.slice p0_1 l0_1 c0_1) (.int .i64 n4) a15 ∧
    ∃ (a20 : Addr), IxA Tryz.prog 22 (.slice p0_1 l0_1 c0_1) (.int .i64 n4) a20 ∧
    ∃ (n16 : Int), HLd Tryz.prog S5 5 (.pointer (some a15)) w2 (.int .u8 n16) ∧
    ∃ (n21 : Int), Ld Tryz.prog 5 (.pointer (some a20)) w2 (.int .u8 n21) ∧
    (w2 = w2 ∨ S5 w2) ∧
    ∃ (p23 : Option Addr) (l23 : Nat) (c23 : Nat) (w3 : World), Ef Tryz.prog (Instr.buildSlice 22 2 #[(0, .int .u8 (IntKind.u8.wrap (Int.tdiv n16 16))), (1, .int .u8 (Int.tmod n21 16))]) w2 (.slice p23 l23 c23) w3 ∧
    ∃ (p24 : Option Addr) (l24 : Nat) (c24 : Nat) (w4 : World), Ef Tryz.prog (Builtin.append_ #[22, 22] 22 #[.slice p3 l3 c3, .slice p23 l23 c23]) w3 (.slice p24 l24 c24) w4 ∧
    goesOn [] [] I1 μ1 us1 [.slice p0_1 l0_1 c0_1, .slice p2 l2 c2, .slice p24 l24 c24, .int .i64 (IntKind.i64.wrap (n4 + 1))] wl1 w4)
  (Q (.slice p3 l3 c3) wl1)
def ref14_Fours_tt : Nat → List (Nat × TypeId) := fun n => match n with | 0 => [(0, 22), (2, 22), (3, 22), (4, 3)] | _ => []
theorem ref14_Fours_call (p0 : Option Addr) (l0 : Nat) (c0 : Nat) (w : World) (Q : Value → World → Prop) (h : ref14_Fours p0 l0 c0 w Q) : callF Tryz.prog 194 #[.slice p0 l0 c0] w Q :=
  callF_of (fun _ _ => by kernel_rfl) (callK_of_sw ref14_Fours_tt Tryz.func194 rfl (by kernel_rfl) (show sw Tryz.prog none 26 ref14_Fours_tt _ 0 (endK Tryz.prog [.tmp 2] Q) ⟨regs [.slice p0 l0 c0], []⟩ w from
    Eq.mp (by kernel_rfl : ref14_Fours p0 l0 c0 w Q = sw Tryz.prog none 26 ref14_Fours_tt (Tryz.f194.body.getD .skip) 0 (endK Tryz.prog [.tmp 2] Q) ⟨regs [.slice p0 l0 c0], []⟩ w) h))

def ref14_Bytes (p0 : Option Addr) (l0 : Nat) (c0 : Nat) (w : World) (Q : Value → World → Prop) : Prop :=
  ∃ (p5 : Option Addr) (l5 : Nat) (c5 : Nat) (w1 : World), Ef Tryz.prog (Instr.buildSlice 22 0 #[]) w (.slice p5 l5 c5) w1 ∧
  LoopS [.slice p0 l0 c0, .slice none 0 0, .slice p5 l5 c5, .int .i64 0] w1 fun I1 μ1 us1 _ wl1 =>
  ∃ (p0_1 : Option Addr) (l0_1 : Nat) (c0_1 : Nat) (p2 : Option Addr) (l2 : Nat) (c2 : Nat) (p3 : Option Addr) (l3 : Nat) (c3 : Nat) (n4 : Int), us1 = [.slice p0_1 l0_1 c0_1, .slice p2 l2 c2, .slice p3 l3 c3, .int .i64 n4] ∧
  cond (decide (n4 < ((l0_1 : Nat) : Int)))
  (∃ (S5 : World → Prop),
    Drw wl1 fun w2 =>
    ∃ (a15 : Addr), IxA Tryz.prog 22 (.slice p0_1 l0_1 c0_1) (.int .i64 n4) a15 ∧
    ∃ (a21 : Addr), IxA Tryz.prog 22 (.slice p0_1 l0_1 c0_1) (.int .i64 (IntKind.i64.wrap (n4 + 1))) a21 ∧
    ∃ (n16 : Int), HLd Tryz.prog S5 5 (.pointer (some a15)) w2 (.int .u8 n16) ∧
    ∃ (n22 : Int), Ld Tryz.prog 5 (.pointer (some a21)) w2 (.int .u8 n22) ∧
    (w2 = w2 ∨ S5 w2) ∧
    ∃ (p24 : Option Addr) (l24 : Nat) (c24 : Nat) (w3 : World), Ef Tryz.prog (Instr.buildSlice 22 1 #[(0, .int .u8 (IntKind.u8.wrap ((IntKind.u8.wrap (n16 * 16)) + n22)))]) w2 (.slice p24 l24 c24) w3 ∧
    ∃ (p25 : Option Addr) (l25 : Nat) (c25 : Nat) (w4 : World), Ef Tryz.prog (Builtin.append_ #[22, 22] 22 #[.slice p3 l3 c3, .slice p24 l24 c24]) w3 (.slice p25 l25 c25) w4 ∧
    goesOn [] [] I1 μ1 us1 [.slice p0_1 l0_1 c0_1, .slice p2 l2 c2, .slice p25 l25 c25, .int .i64 (IntKind.i64.wrap (n4 + 2))] wl1 w4)
  (Q (.slice p3 l3 c3) wl1)
def ref14_Bytes_tt : Nat → List (Nat × TypeId) := fun n => match n with | 0 => [(0, 22), (2, 22), (3, 22), (4, 3)] | _ => []
theorem ref14_Bytes_call (p0 : Option Addr) (l0 : Nat) (c0 : Nat) (w : World) (Q : Value → World → Prop) (h : ref14_Bytes p0 l0 c0 w Q) : callF Tryz.prog 195 #[.slice p0 l0 c0] w Q :=
  callF_of (fun _ _ => by kernel_rfl) (callK_of_sw ref14_Bytes_tt Tryz.func195 rfl (by kernel_rfl) (show sw Tryz.prog none 27 ref14_Bytes_tt _ 0 (endK Tryz.prog [.tmp 2] Q) ⟨regs [.slice p0 l0 c0], []⟩ w from
    Eq.mp (by kernel_rfl : ref14_Bytes p0 l0 c0 w Q = sw Tryz.prog none 27 ref14_Bytes_tt (Tryz.f195.body.getD .skip) 0 (endK Tryz.prog [.tmp 2] Q) ⟨regs [.slice p0 l0 c0], []⟩ w) h))

def ref14_fit (p0 : Option Addr) (l0 : Nat) (c0 : Nat) (n1 : Int) (w : World) (Q : Value → World → Prop) : Prop :=
  cond (decide (n1 ≥ 2))
  (cond (decide (n1 ≤ 28))
    (callF Tryz.prog 206 #[.int .i64 n1] w fun r15 w1 =>
      ∃ (n15 : Int), r15 = .int .i64 n15 ∧
      Q (.bool (((l0 : Nat) : Int) == n15)) w1)
    (Q (.bool false) w))
  (Q (.bool false) w)
def ref14_fit_tt : Nat → List (Nat × TypeId) := fun _ => []
theorem ref14_fit_call (p0 : Option Addr) (l0 : Nat) (c0 : Nat) (n1 : Int) (w : World) (Q : Value → World → Prop) (h : ref14_fit p0 l0 c0 n1 w Q) : callF Tryz.prog 197 #[.slice p0 l0 c0, .int .i64 n1] w Q :=
  callF_of (fun _ _ => by kernel_rfl) (callK_of_sw ref14_fit_tt Tryz.func197 rfl (by kernel_rfl) (show sw Tryz.prog none 18 ref14_fit_tt _ 0 (endK Tryz.prog [.tmp 4] Q) ⟨regs [.slice p0 l0 c0, .int .i64 n1], []⟩ w from
    Eq.mp (by kernel_rfl : ref14_fit p0 l0 c0 n1 w Q = sw Tryz.prog none 18 ref14_fit_tt (Tryz.f197.body.getD .skip) 0 (endK Tryz.prog [.tmp 4] Q) ⟨regs [.slice p0 l0 c0, .int .i64 n1], []⟩ w) h))

def ref14_Block_j1 (n1 : Int) (n2 : Int) (p6 : Option Addr) (l6 : Nat) (c6 : Nat) (n7 : Int) (p8 : Option Addr) (l8 : Nat) (c8 : Nat) (w : World) (Q : Value → World → Prop) : Prop :=
  ∃ (p35 : Option Addr) (l35 : Nat) (c35 : Nat) (w1 : World), Ef Tryz.prog (Instr.buildSlice 22 2 #[(0, .int .u8 (IntKind.u8.wrap n1)), (1, .int .u8 (IntKind.u8.wrap n2))]) w (.slice p35 l35 c35) w1 ∧
  ∃ (p36 : Option Addr) (l36 : Nat) (c36 : Nat) (w2 : World), Ef Tryz.prog (Builtin.append_ #[22, 22] 22 #[.slice p8 l8 c8, .slice p35 l35 c35]) w1 (.slice p36 l36 c36) w2 ∧
  Q (.tuple #[.slice p36 l36 c36, .int .i64 0]) w2
def ref14_Block_j2 (p0 : Option Addr) (l0 : Nat) (c0 : Nat) (n1 : Int) (n2 : Int) (p6 : Option Addr) (l6 : Nat) (c6 : Nat) (n7 : Int) (w : World) (Q : Value → World → Prop) : Prop :=
  ∃ (p21 : Option Addr) (l21 : Nat) (c21 : Nat) (w1 : World), Ef Tryz.prog (Instr.buildSlice 22 0 #[]) w (.slice p21 l21 c21) w1 ∧
  ∃ (p23 : Option Addr) (l23 : Nat) (c23 : Nat) (w2 : World), Ef Tryz.prog (Builtin.append_ #[22, 22] 22 #[.slice p21 l21 c21, .slice p0 l0 c0]) w1 (.slice p23 l23 c23) w2 ∧
  LoopS [.int .i64 n1, .int .i64 n2, .slice p6 l6 c6, .int .i64 n7, .slice p23 l23 c23] w2 fun I1 μ1 us1 _ wl1 =>
  ∃ (n1_1 : Int) (n2_1 : Int) (p6_1 : Option Addr) (l6_1 : Nat) (c6_1 : Nat) (n7_1 : Int) (p8 : Option Addr) (l8 : Nat) (c8 : Nat), us1 = [.int .i64 n1_1, .int .i64 n2_1, .slice p6_1 l6_1 c6_1, .int .i64 n7_1, .slice p8 l8 c8] ∧
  cond (decide (((l8 : Nat) : Int) < 14))
  (∃ (p28 : Option Addr) (l28 : Nat) (c28 : Nat) (w3 : World), Ef Tryz.prog (Instr.buildSlice 22 1 #[(0, .int .u8 0)]) wl1 (.slice p28 l28 c28) w3 ∧
    ∃ (p29 : Option Addr) (l29 : Nat) (c29 : Nat) (w4 : World), Ef Tryz.prog (Builtin.append_ #[22, 22] 22 #[.slice p8 l8 c8, .slice p28 l28 c28]) w3 (.slice p29 l29 c29) w4 ∧
    goesOn [] [] I1 μ1 us1 [.int .i64 n1_1, .int .i64 n2_1, .slice p6_1 l6_1 c6_1, .int .i64 n7_1, .slice p29 l29 c29] wl1 w4)
  (ref14_Block_j1 n1_1 n2_1 p6_1 l6_1 c6_1 n7_1 p8 l8 c8 wl1 Q)
def ref14_Block (p0 : Option Addr) (l0 : Nat) (c0 : Nat) (n1 : Int) (n2 : Int) (w : World) (Q : Value → World → Prop) : Prop :=
  callF Tryz.prog 197 #[.slice p0 l0 c0, .int .i64 n1] w fun r11 w1 =>
  ∃ (b11 : Bool), r11 = .bool b11 ∧
  cond (!b11)
  (Q (.tuple #[.slice none 0 0, .int .i64 11]) w1)
  (cond (decide (n2 < 0))
    (Q (.tuple #[.slice none 0 0, .int .i64 11]) w1)
    (cond (decide (n2 > 255))
      (Q (.tuple #[.slice none 0 0, .int .i64 11]) w1)
      (ref14_Block_j2 p0 l0 c0 n1 n2 none 0 0 0 w1 Q)))
def ref14_Block_tt : Nat → List (Nat × TypeId) := fun n => match n with | 0 => [(1, 3), (2, 3), (6, 22), (7, 26), (8, 22)] | _ => []
theorem ref14_Block_call (p0 : Option Addr) (l0 : Nat) (c0 : Nat) (n1 : Int) (n2 : Int) (w : World) (Q : Value → World → Prop) (h : ref14_Block p0 l0 c0 n1 n2 w Q) : callF Tryz.prog 204 #[.slice p0 l0 c0, .int .i64 n1, .int .i64 n2] w Q :=
  callF_of (fun _ _ => by kernel_rfl) (callK_of_sw ref14_Block_tt Tryz.func204 rfl (by kernel_rfl) (show sw Tryz.prog none 37 ref14_Block_tt _ 0 (endK Tryz.prog [.tmp 6, .tmp 7] Q) ⟨regs [.slice p0 l0 c0, .int .i64 n1, .int .i64 n2], []⟩ w from
    Eq.mp (by kernel_rfl : ref14_Block p0 l0 c0 n1 n2 w Q = sw Tryz.prog none 37 ref14_Block_tt (Tryz.f204.body.getD .skip) 0 (endK Tryz.prog [.tmp 6, .tmp 7] Q) ⟨regs [.slice p0 l0 c0, .int .i64 n1, .int .i64 n2], []⟩ w) h))

def ref14_Trim_j1 (p6 : Option Addr) (l6 : Nat) (c6 : Nat) (n7 : Int) (p8 : Option Addr) (l8 : Nat) (c8 : Nat) (b30 : Bool) (w : World) (Q : Value → World → Prop) : Prop :=
  cond b30
  (∃ (a32 : Addr), IxA Tryz.prog 22 (.slice p8 l8 c8) (.int .i64 0) a32 ∧
    ∃ (w1 : World), Sto Tryz.prog 5 (.pointer (some a32)) (.int .u8 0) w w1 ∧
    callF Tryz.prog 195 #[.slice p8 l8 c8] w1 fun r34 w2 =>
    ∃ (p34 : Option Addr) (l34 : Nat) (c34 : Nat), r34 = .slice p34 l34 c34 ∧
    Q (.tuple #[.slice p34 l34 c34, .int .i64 0]) w2)
  (callF Tryz.prog 195 #[.slice p8 l8 c8] w fun r34_1 w3 =>
    ∃ (p34_1 : Option Addr) (l34_1 : Nat) (c34_1 : Nat), r34_1 = .slice p34_1 l34_1 c34_1 ∧
    Q (.tuple #[.slice p34_1 l34_1 c34_1, .int .i64 0]) w3)
def ref14_Trim_j2 (n1 : Int) (b2 : Bool) (p6 : Option Addr) (l6 : Nat) (c6 : Nat) (n7 : Int) (p8 : Option Addr) (l8 : Nat) (c8 : Nat) (w : World) (Q : Value → World → Prop) : Prop :=
  cond ((Int.tmod n1 2) == 1)
  (ref14_Trim_j1 p6 l6 c6 n7 p8 l8 c8 (!b2) w Q)
  (ref14_Trim_j1 p6 l6 c6 n7 p8 l8 c8 false w Q)
def ref14_Trim_j3 (n1 : Int) (b2 : Bool) (p6 : Option Addr) (l6 : Nat) (c6 : Nat) (n7 : Int) (p8 : Option Addr) (l8 : Nat) (c8 : Nat) (b20 : Bool) (w : World) (Q : Value → World → Prop) : Prop :=
  cond b20
  (∃ (a23 : Addr), IxA Tryz.prog 22 (.slice p8 l8 c8) (.int .i64 n1) a23 ∧
    ∃ (w1 : World), Sto Tryz.prog 5 (.pointer (some a23)) (.int .u8 0) w w1 ∧
    ref14_Trim_j2 n1 b2 p6 l6 c6 n7 p8 l8 c8 w1 Q)
  (ref14_Trim_j2 n1 b2 p6 l6 c6 n7 p8 l8 c8 w Q)
def ref14_Trim (p0 : Option Addr) (l0 : Nat) (c0 : Nat) (n1 : Int) (b2 : Bool) (w : World) (Q : Value → World → Prop) : Prop :=
  callF Tryz.prog 197 #[.slice p0 l0 c0, .int .i64 n1] w fun r11 w1 =>
  ∃ (b11 : Bool), r11 = .bool b11 ∧
  cond (!b11)
  (Q (.tuple #[.slice none 0 0, .int .i64 11]) w1)
  (callF Tryz.prog 194 #[.slice p0 l0 c0] w1 fun r14 w2 =>
    ∃ (p14 : Option Addr) (l14 : Nat) (c14 : Nat), r14 = .slice p14 l14 c14 ∧
    cond ((Int.tmod n1 2) == 1)
    (ref14_Trim_j3 n1 b2 none 0 0 0 p14 l14 c14 b2 w2 Q)
    (ref14_Trim_j3 n1 b2 none 0 0 0 p14 l14 c14 false w2 Q))
def ref14_Trim_tt : Nat → List (Nat × TypeId) := fun _ => []
theorem ref14_Trim_call (p0 : Option Addr) (l0 : Nat) (c0 : Nat) (n1 : Int) (b2 : Bool) (w : World) (Q : Value → World → Prop) (h : ref14_Trim p0 l0 c0 n1 b2 w Q) : callF Tryz.prog 205 #[.slice p0 l0 c0, .int .i64 n1, .bool b2] w Q :=
  callF_of (fun _ _ => by kernel_rfl) (callK_of_sw ref14_Trim_tt Tryz.func205 rfl (by kernel_rfl) (show sw Tryz.prog none 35 ref14_Trim_tt _ 0 (endK Tryz.prog [.tmp 6, .tmp 7] Q) ⟨regs [.slice p0 l0 c0, .int .i64 n1, .bool b2], []⟩ w from
    Eq.mp (by kernel_rfl : ref14_Trim p0 l0 c0 n1 b2 w Q = sw Tryz.prog none 35 ref14_Trim_tt (Tryz.f205.body.getD .skip) 0 (endK Tryz.prog [.tmp 6, .tmp 7] Q) ⟨regs [.slice p0 l0 c0, .int .i64 n1, .bool b2], []⟩ w) h))

def ref14_Size (n0 : Int) (w : World) (Q : Value → World → Prop) : Prop :=
  cond (decide (n0 < 1))
  (Q (.int .i64 0) w)
  (Q (.int .i64 (IntKind.i64.wrap ((IntKind.i64.wrap (Int.tdiv n0 2)) + (Int.tmod n0 2)))) w)
def ref14_Size_tt : Nat → List (Nat × TypeId) := fun _ => []
theorem ref14_Size_call (n0 : Int) (w : World) (Q : Value → World → Prop) (h : ref14_Size n0 w Q) : callF Tryz.prog 206 #[.int .i64 n0] w Q :=
  callF_of (fun _ _ => by kernel_rfl) (callK_of_sw ref14_Size_tt Tryz.func206 rfl (by kernel_rfl) (show sw Tryz.prog none 10 ref14_Size_tt _ 0 (endK Tryz.prog [.tmp 2] Q) ⟨regs [.int .i64 n0], []⟩ w from
    Eq.mp (by kernel_rfl : ref14_Size n0 w Q = sw Tryz.prog none 10 ref14_Size_tt (Tryz.f206.body.getD .skip) 0 (endK Tryz.prog [.tmp 2] Q) ⟨regs [.int .i64 n0], []⟩ w) h))
end Go.Sh
end

section
namespace Go.Sh
open Go Go.Fw Go.Proofs
set_option maxRecDepth 100000
set_option linter.unusedVariables false

def ref15_Passes_j1 (I1 : Inv) (μ1 : Meas) (us1 : List Value) (wl1 : World) (p0 : Option Addr) (l0 : Nat) (c0 : Nat) (p1 : Option Addr) (l1 : Nat) (c1 : Nat) (p2 : Option Addr) (l2 : Nat) (c2 : Nat) (p6 : Option Addr) (l6 : Nat) (c6 : Nat) (n7 : Int) (p8 : Option Addr) (l8 : Nat) (c8 : Nat) (p9 : Option Addr) (l9 : Nat) (c9 : Nat) (n10 : Int) (n11 : Int) (w : World) (Q : Value → World → Prop) : Prop :=
  ∃ (a36 : Addr), IxA Tryz.prog 132 (.slice p2 l2 c2) (.int .i64 n11) a36 ∧
  ∃ (n37 : Int), Ld Tryz.prog 3 (.pointer (some a36)) w (.int .i64 n37) ∧
  callF Tryz.prog 178 #[.slice p0 l0 c0, .slice p8 l8 c8, .slice p9 l9 c9, .int .i64 ((l1 : Nat) : Int), .int .i64 n37] w fun r38 w1 =>
  ∃ (p38 : Option Addr) (l38 : Nat) (c38 : Nat) (p38_1 : Option Addr) (l38_1 : Nat) (c38_1 : Nat) (n38 : Int), r38 = .tuple #[.slice p38 l38 c38, .slice p38_1 l38_1 c38_1, .int .i64 n38] ∧
  goesOn [] [] I1 μ1 us1 [.slice p0 l0 c0, .slice p1 l1 c1, .slice p2 l2 c2, .slice p6 l6 c6, .int .i64 n7, .slice p38 l38 c38, .slice p38_1 l38_1 c38_1, .int .i64 n38, .int .i64 (IntKind.i64.wrap (n11 + 1))] wl1 w1
def ref15_Passes_j2 (p1 : Option Addr) (l1 : Nat) (c1 : Nat) (p6 : Option Addr) (l6 : Nat) (c6 : Nat) (n7 : Int) (p8 : Option Addr) (l8 : Nat) (c8 : Nat) (p9 : Option Addr) (l9 : Nat) (c9 : Nat) (n10 : Int) (w : World) (Q : Value → World → Prop) : Prop :=
  cond (n10 != 0)
  (Q (.tuple #[.slice none 0 0, .int .i64 n10]) w)
  (callF Tryz.prog 179 #[.slice p8 l8 c8, .slice p9 l9 c9, .int .i64 ((l1 : Nat) : Int)] w fun r49 w1 =>
    ∃ (p49 : Option Addr) (l49 : Nat) (c49 : Nat) (n49 : Int), r49 = .tuple #[.slice p49 l49 c49, .int .i64 n49] ∧
    Q (.tuple #[.slice p49 l49 c49, .int .i64 n49]) w1)
def ref15_Passes (p0 : Option Addr) (l0 : Nat) (c0 : Nat) (p1 : Option Addr) (l1 : Nat) (c1 : Nat) (p2 : Option Addr) (l2 : Nat) (c2 : Nat) (w : World) (Q : Value → World → Prop) : Prop :=
  callF Tryz.prog 177 #[.slice p1 l1 c1] w fun r14 w1 =>
  ∃ (p14 : Option Addr) (l14 : Nat) (c14 : Nat) (p14_1 : Option Addr) (l14_1 : Nat) (c14_1 : Nat) (n14 : Int), r14 = .tuple #[.slice p14 l14 c14, .slice p14_1 l14_1 c14_1, .int .i64 n14] ∧
  LoopS [.slice p0 l0 c0, .slice p1 l1 c1, .slice p2 l2 c2, .slice none 0 0, .int .i64 0, .slice p14 l14 c14, .slice p14_1 l14_1 c14_1, .int .i64 n14, .int .i64 0] w1 fun I1 μ1 us1 _ wl1 =>
  ∃ (p0_1 : Option Addr) (l0_1 : Nat) (c0_1 : Nat) (p1_1 : Option Addr) (l1_1 : Nat) (c1_1 : Nat) (p2_1 : Option Addr) (l2_1 : Nat) (c2_1 : Nat) (p6 : Option Addr) (l6 : Nat) (c6 : Nat) (n7 : Int) (p8 : Option Addr) (l8 : Nat) (c8 : Nat) (p9 : Option Addr) (l9 : Nat) (c9 : Nat) (n10 : Int) (n11 : Int), us1 = [.slice p0_1 l0_1 c0_1, .slice p1_1 l1_1 c1_1, .slice p2_1 l2_1 c2_1, .slice p6 l6 c6, .int .i64 n7, .slice p8 l8 c8, .slice p9 l9 c9, .int .i64 n10, .int .i64 n11] ∧
  cond (decide (n11 < ((l2_1 : Nat) : Int)))
  (cond (n10 == 0)
    (ref15_Passes_j1 I1 μ1 us1 wl1 p0_1 l0_1 c0_1 p1_1 l1_1 c1_1 p2_1 l2_1 c2_1 p6 l6 c6 n7 p8 l8 c8 p9 l9 c9 n10 n11 wl1 Q)
    (ref15_Passes_j2 p1_1 l1_1 c1_1 p6 l6 c6 n7 p8 l8 c8 p9 l9 c9 n10 wl1 Q))
  (ref15_Passes_j2 p1_1 l1_1 c1_1 p6 l6 c6 n7 p8 l8 c8 p9 l9 c9 n10 wl1 Q)
def ref15_Passes_tt : Nat → List (Nat × TypeId) := fun n => match n with | 0 => [(0, 22), (1, 22), (2, 132), (6, 22), (7, 26), (8, 22), (9, 22), (10, 26), (11, 3)] | _ => []
theorem ref15_Passes_call (p0 : Option Addr) (l0 : Nat) (c0 : Nat) (p1 : Option Addr) (l1 : Nat) (c1 : Nat) (p2 : Option Addr) (l2 : Nat) (c2 : Nat) (w : World) (Q : Value → World → Prop) (h : ref15_Passes p0 l0 c0 p1 l1 c1 p2 l2 c2 w Q) : callF Tryz.prog 167 #[.slice p0 l0 c0, .slice p1 l1 c1, .slice p2 l2 c2] w Q :=
  callF_of (fun _ _ => by kernel_rfl) (callK_of_sw ref15_Passes_tt Tryz.func167 rfl (by kernel_rfl) (show sw Tryz.prog none 52 ref15_Passes_tt _ 0 (endK Tryz.prog [.tmp 6, .tmp 7] Q) ⟨regs [.slice p0 l0 c0, .slice p1 l1 c1, .slice p2 l2 c2], []⟩ w from
    Eq.mp (by kernel_rfl : ref15_Passes p0 l0 c0 p1 l1 c1 p2 l2 c2 w Q = sw Tryz.prog none 52 ref15_Passes_tt (Tryz.f167.body.getD .skip) 0 (endK Tryz.prog [.tmp 6, .tmp 7] Q) ⟨regs [.slice p0 l0 c0, .slice p1 l1 c1, .slice p2 l2 c2], []⟩ w) h))

def ref15_Pass (p0 : Option Addr) (l0 : Nat) (c0 : Nat) (p1 : Option Addr) (l1 : Nat) (c1 : Nat) (p2 : Option Addr) (l2 : Nat) (c2 : Nat) (n3 : Int) (n4 : Int) (w : World) (Q : Value → World → Prop) : Prop :=
  cond ((Int.tmod n4 2) == 0)
  (callF Tryz.prog 196 #[.slice p0 l0 c0, .slice p2 l2 c2, .slice p1 l1 c1, .int .i64 n3, .int .i64 n4, .bool true] w fun r26 w1 =>
    ∃ (p26 : Option Addr) (l26 : Nat) (c26 : Nat) (n26 : Int), r26 = .tuple #[.slice p26 l26 c26, .int .i64 n26] ∧
    cond (n26 != 0)
    (Q (.tuple #[.slice none 0 0, .slice none 0 0, .int .i64 n26]) w1)
    (∃ (p33 : Option Addr) (l33 : Nat) (c33 : Nat) (w2 : World), Ef Tryz.prog (Instr.buildSlice 22 0 #[]) w1 (.slice p33 l33 c33) w2 ∧
      ∃ (p35 : Option Addr) (l35 : Nat) (c35 : Nat) (w3 : World), Ef Tryz.prog (Builtin.append_ #[22, 22] 22 #[.slice p33 l33 c33, .slice p2 l2 c2]) w2 (.slice p35 l35 c35) w3 ∧
      Q (.tuple #[.slice p26 l26 c26, .slice p35 l35 c35, .int .i64 n26]) w3))
  (callF Tryz.prog 196 #[.slice p0 l0 c0, .slice p1 l1 c1, .slice p2 l2 c2, .int .i64 n3, .int .i64 n4, .bool false] w fun r43 w4 =>
    ∃ (p43 : Option Addr) (l43 : Nat) (c43 : Nat) (n43 : Int), r43 = .tuple #[.slice p43 l43 c43, .int .i64 n43] ∧
    cond (n43 != 0)
    (Q (.tuple #[.slice none 0 0, .slice none 0 0, .int .i64 n43]) w4)
    (∃ (p49 : Option Addr) (l49 : Nat) (c49 : Nat) (w5 : World), Ef Tryz.prog (Instr.buildSlice 22 0 #[]) w4 (.slice p49 l49 c49) w5 ∧
      ∃ (p51 : Option Addr) (l51 : Nat) (c51 : Nat) (w6 : World), Ef Tryz.prog (Builtin.append_ #[22, 22] 22 #[.slice p49 l49 c49, .slice p1 l1 c1]) w5 (.slice p51 l51 c51) w6 ∧
      Q (.tuple #[.slice p51 l51 c51, .slice p43 l43 c43, .int .i64 n43]) w6))
def ref15_Pass_tt : Nat → List (Nat × TypeId) := fun _ => []
theorem ref15_Pass_call (p0 : Option Addr) (l0 : Nat) (c0 : Nat) (p1 : Option Addr) (l1 : Nat) (c1 : Nat) (p2 : Option Addr) (l2 : Nat) (c2 : Nat) (n3 : Int) (n4 : Int) (w : World) (Q : Value → World → Prop) (h : ref15_Pass p0 l0 c0 p1 l1 c1 p2 l2 c2 n3 n4 w Q) : callF Tryz.prog 178 #[.slice p0 l0 c0, .slice p1 l1 c1, .slice p2 l2 c2, .int .i64 n3, .int .i64 n4] w Q :=
  callF_of (fun _ _ => by kernel_rfl) (callK_of_sw ref15_Pass_tt Tryz.func178 rfl (by kernel_rfl) (show sw Tryz.prog none 54 ref15_Pass_tt _ 0 (endK Tryz.prog [.tmp 10, .tmp 11, .tmp 12] Q) ⟨regs [.slice p0 l0 c0, .slice p1 l1 c1, .slice p2 l2 c2, .int .i64 n3, .int .i64 n4], []⟩ w from
    Eq.mp (by kernel_rfl : ref15_Pass p0 l0 c0 p1 l1 c1 p2 l2 c2 n3 n4 w Q = sw Tryz.prog none 54 ref15_Pass_tt (Tryz.f178.body.getD .skip) 0 (endK Tryz.prog [.tmp 10, .tmp 11, .tmp 12] Q) ⟨regs [.slice p0 l0 c0, .slice p1 l1 c1, .slice p2 l2 c2, .int .i64 n3, .int .i64 n4], []⟩ w) h))

def ref15_onto_j1 (n3 : Int) (b5 : Bool) (p12 : Option Addr) (l12 : Nat) (c12 : Nat) (n13 : Int) (p17 : Option Addr) (l17 : Nat) (c17 : Nat) (w : World) (Q : Value → World → Prop) : Prop :=
  callF Tryz.prog 205 #[.slice p17 l17 c17, .int .i64 n3, .bool b5] w fun r60 w1 =>
  ∃ (p60 : Option Addr) (l60 : Nat) (c60 : Nat) (n60 : Int), r60 = .tuple #[.slice p60 l60 c60, .int .i64 n60] ∧
  Q (.tuple #[.slice p60 l60 c60, .int .i64 n60]) w1
def ref15_onto_j2 (p0 : Option Addr) (l0 : Nat) (c0 : Nat) (p2 : Option Addr) (l2 : Nat) (c2 : Nat) (n3 : Int) (b5 : Bool) (p12 : Option Addr) (l12 : Nat) (c12 : Nat) (n13 : Int) (p14 : Option Addr) (l14 : Nat) (c14 : Nat) (w : World) (Q : Value → World → Prop) : Prop :=
  callF Tryz.prog 55 #[.slice p0 l0 c0, .slice p14 l14 c14] w fun r37 w1 =>
  ∃ (p37 : Option Addr) (l37 : Nat) (c37 : Nat), r37 = .slice p37 l37 c37 ∧
  ∃ (p38 : Option Addr) (l38 : Nat) (c38 : Nat) (w2 : World), Ef Tryz.prog (Instr.buildSlice 22 0 #[]) w1 (.slice p38 l38 c38) w2 ∧
  LoopS [.slice p2 l2 c2, .int .i64 n3, .bool b5, .slice p12 l12 c12, .int .i64 n13, .slice p37 l37 c37, .slice p38 l38 c38, .int .i64 0] w2 fun I1 μ1 us1 _ wl1 =>
  ∃ (p2_1 : Option Addr) (l2_1 : Nat) (c2_1 : Nat) (n3_1 : Int) (b5_1 : Bool) (p12_1 : Option Addr) (l12_1 : Nat) (c12_1 : Nat) (n13_1 : Int) (p16 : Option Addr) (l16 : Nat) (c16 : Nat) (p17 : Option Addr) (l17 : Nat) (c17 : Nat) (n18 : Int), us1 = [.slice p2_1 l2_1 c2_1, .int .i64 n3_1, .bool b5_1, .slice p12_1 l12_1 c12_1, .int .i64 n13_1, .slice p16 l16 c16, .slice p17 l17 c17, .int .i64 n18] ∧
  cond (decide (n18 < ((l2_1 : Nat) : Int)))
  (∃ (S9 : World → Prop),
    Drw wl1 fun w3 =>
    ∃ (a48 : Addr), IxA Tryz.prog 22 (.slice p2_1 l2_1 c2_1) (.int .i64 n18) a48 ∧
    ∃ (a52 : Addr), IxA Tryz.prog 22 (.slice p16 l16 c16) (.int .i64 n18) a52 ∧
    ∃ (n49 : Int), HLd Tryz.prog S9 5 (.pointer (some a48)) w3 (.int .u8 n49) ∧
    ∃ (n53 : Int), Ld Tryz.prog 5 (.pointer (some a52)) w3 (.int .u8 n53) ∧
    (w3 = w3 ∨ S9 w3) ∧
    ∃ (p55 : Option Addr) (l55 : Nat) (c55 : Nat) (w4 : World), Ef Tryz.prog (Instr.buildSlice 22 1 #[(0, .int .u8 (ixor .u8 n49 n53))]) w3 (.slice p55 l55 c55) w4 ∧
    ∃ (p56 : Option Addr) (l56 : Nat) (c56 : Nat) (w5 : World), Ef Tryz.prog (Builtin.append_ #[22, 22] 22 #[.slice p17 l17 c17, .slice p55 l55 c55]) w4 (.slice p56 l56 c56) w5 ∧
    goesOn [] [] I1 μ1 us1 [.slice p2_1 l2_1 c2_1, .int .i64 n3_1, .bool b5_1, .slice p12_1 l12_1 c12_1, .int .i64 n13_1, .slice p16 l16 c16, .slice p56 l56 c56, .int .i64 (IntKind.i64.wrap (n18 + 1))] wl1 w5)
  (ref15_onto_j1 n3_1 b5_1 p12_1 l12_1 c12_1 n13_1 p17 l17 c17 wl1 Q)
def ref15_onto (p0 : Option Addr) (l0 : Nat) (c0 : Nat) (p1 : Option Addr) (l1 : Nat) (c1 : Nat) (p2 : Option Addr) (l2 : Nat) (c2 : Nat) (n3 : Int) (n4 : Int) (b5 : Bool) (w : World) (Q : Value → World → Prop) : Prop :=
  callF Tryz.prog 204 #[.slice p1 l1 c1, .int .i64 n3, .int .i64 n4] w fun r23 w1 =>
  ∃ (p23 : Option Addr) (l23 : Nat) (c23 : Nat) (n23 : Int), r23 = .tuple #[.slice p23 l23 c23, .int .i64 n23] ∧
  cond (n23 != 0)
  (Q (.tuple #[.slice none 0 0, .int .i64 11]) w1)
  (cond (((l2 : Nat) : Int) != ((l1 : Nat) : Int))
    (Q (.tuple #[.slice none 0 0, .int .i64 11]) w1)
    (ref15_onto_j2 p0 l0 c0 p2 l2 c2 n3 b5 none 0 0 0 p23 l23 c23 w1 Q))
def ref15_onto_tt : Nat → List (Nat × TypeId) := fun n => match n with | 0 => [(2, 22), (3, 3), (5, 4), (12, 22), (13, 26), (16, 22), (17, 22), (18, 3)] | _ => []
theorem ref15_onto_call (p0 : Option Addr) (l0 : Nat) (c0 : Nat) (p1 : Option Addr) (l1 : Nat) (c1 : Nat) (p2 : Option Addr) (l2 : Nat) (c2 : Nat) (n3 : Int) (n4 : Int) (b5 : Bool) (w : World) (Q : Value → World → Prop) (h : ref15_onto p0 l0 c0 p1 l1 c1 p2 l2 c2 n3 n4 b5 w Q) : callF Tryz.prog 196 #[.slice p0 l0 c0, .slice p1 l1 c1, .slice p2 l2 c2, .int .i64 n3, .int .i64 n4, .bool b5] w Q :=
  callF_of (fun _ _ => by kernel_rfl) (callK_of_sw ref15_onto_tt Tryz.func196 rfl (by kernel_rfl) (show sw Tryz.prog none 63 ref15_onto_tt _ 0 (endK Tryz.prog [.tmp 12, .tmp 13] Q) ⟨regs [.slice p0 l0 c0, .slice p1 l1 c1, .slice p2 l2 c2, .int .i64 n3, .int .i64 n4, .bool b5], []⟩ w from
    Eq.mp (by kernel_rfl : ref15_onto p0 l0 c0 p1 l1 c1 p2 l2 c2 n3 n4 b5 w Q = sw Tryz.prog none 63 ref15_onto_tt (Tryz.f196.body.getD .skip) 0 (endK Tryz.prog [.tmp 12, .tmp 13] Q) ⟨regs [.slice p0 l0 c0, .slice p1 l1 c1, .slice p2 l2 c2, .int .i64 n3, .int .i64 n4, .bool b5], []⟩ w) h))
end Go.Sh
end
