/- A part of a proof of a given law of this program: lemmas, printed forms of its functions, contracts. It has no conditions of its own. -/
import Derived.Test.YtopjbcjbohegcaaGreatProg
import Derived.Test.YtopjbcjbohegcaaGreatMFw

section
namespace Go.Sh
open Go Go.Fw Go.Proofs
set_option maxRecDepth 100000
set_option linter.unusedVariables false

def codec_Make_j1 (n1 : Int) (p2 : Option Addr) (l2 : Nat) (c2 : Nat) (p3 : Option Addr) (l3 : Nat) (c3 : Nat) (a4 : Addr) (p8 : Option Addr) (l8 : Nat) (c8 : Nat) (n9 : Int) (w : World) (Q : Value → World → Prop) : Prop :=
  ∃ (S5 : World → Prop),
  Drw w fun w1 =>
  ∃ (cs38 : Array Value), HLd Tryz.prog S5 50 (.pointer (some a4)) w1 (.agg cs38) ∧
  ∃ (p41 : Option Addr) (l41 : Nat) (c41 : Nat) (w2 : World), Ef Tryz.prog (Instr.buildSlice 85 2 #[(0, .slice p2 l2 c2), (1, .slice p3 l3 c3)]) w1 (.slice p41 l41 c41) w2 ∧
  (w2 = w1 ∨ S5 w2) ∧
  callF Tryz.prog 47 #[.slice p41 l41 c41] w2 fun r42 w3 =>
  ∃ (p42 : Option Addr) (l42 : Nat) (c42 : Nat), r42 = .slice p42 l42 c42 ∧
  (w3 = w2 ∨ S5 w3) ∧
  callF Tryz.prog 75 #[.agg cs38, .slice p42 l42 c42] w3 fun r43 w4 =>
  ∃ (p43 : Option Addr) (l43 : Nat) (c43 : Nat) (n43 : Int), r43 = .tuple #[.slice p43 l43 c43, .int .i64 n43] ∧
  cond (n43 != 0)
  (Q (.tuple #[.slice none 0 0, .int .i64 n43]) w4)
  (callF Tryz.prog 76 #[.int .i64 n1, .slice p43 l43 c43] w4 fun r51 w5 =>
    ∃ (p51 : Option Addr) (l51 : Nat) (c51 : Nat), r51 = .slice p51 l51 c51 ∧
    Q (.tuple #[.slice p51 l51 c51, .int .i64 0]) w5)
def codec_Make (cs0 : Array Value) (n1 : Int) (p2 : Option Addr) (l2 : Nat) (c2 : Nat) (p3 : Option Addr) (l3 : Nat) (c3 : Nat) (w : World) (Q : Value → World → Prop) : Prop :=
  New cs0 50 w fun k4 w1 =>
  ∃ (cs13 : Array Value), Ld Tryz.prog 50 (.pointer (some (⟨k4, 0, none⟩ : Addr))) w1 (.agg cs13) ∧
  callF Tryz.prog 74 #[.agg cs13] w1 fun r14 w2 =>
  ∃ (b14 : Bool), r14 = .bool b14 ∧
  cond (!b14)
  (Q (.tuple #[.slice none 0 0, .int .i64 19]) w2)
  (cond (decide (n1 < 0))
    (Q (.tuple #[.slice none 0 0, .int .i64 11]) w2)
    (cond (decide (n1 ≥ 3))
      (Q (.tuple #[.slice none 0 0, .int .i64 11]) w2)
      (∃ (n27 : Int), Ld Tryz.prog 3 (.pointer (some ((⟨k4, 0, none⟩ : Addr).add 1))) w2 (.int .i64 n27) ∧
        cond (((l2 : Nat) : Int) != n27)
        (Q (.tuple #[.slice none 0 0, .int .i64 11]) w2)
        (∃ (n34 : Int), Ld Tryz.prog 3 (.pointer (some ((⟨k4, 0, none⟩ : Addr).add 2))) w2 (.int .i64 n34) ∧
          cond (((l3 : Nat) : Int) != n34)
          (Q (.tuple #[.slice none 0 0, .int .i64 11]) w2)
          (codec_Make_j1 n1 p2 l2 c2 p3 l3 c3 (⟨k4, 0, none⟩ : Addr) none 0 0 0 w2 Q)))))
def codec_Make_tt : Nat → List (Nat × TypeId) := fun _ => []
theorem codec_Make_call (cs0 : Array Value) (n1 : Int) (p2 : Option Addr) (l2 : Nat) (c2 : Nat) (p3 : Option Addr) (l3 : Nat) (c3 : Nat) (w : World) (Q : Value → World → Prop) (h : codec_Make cs0 n1 p2 l2 c2 p3 l3 c3 w Q) : callF Tryz.prog 34 #[.agg cs0, .int .i64 n1, .slice p2 l2 c2, .slice p3 l3 c3] w Q :=
  callF_of (fun _ _ => by kernel_rfl) (callK_of_sw codec_Make_tt Tryz.func34 rfl (by kernel_rfl) (show sw Tryz.prog none 52 codec_Make_tt _ 0 (endK Tryz.prog [.tmp 8, .tmp 9] Q) ⟨regs [.agg cs0, .int .i64 n1, .slice p2 l2 c2, .slice p3 l3 c3], []⟩ w from
    Eq.mp (by kernel_rfl : codec_Make cs0 n1 p2 l2 c2 p3 l3 c3 w Q = sw Tryz.prog none 52 codec_Make_tt (Tryz.f34.body.getD .skip) 0 (endK Tryz.prog [.tmp 8, .tmp 9] Q) ⟨regs [.agg cs0, .int .i64 n1, .slice p2 l2 c2, .slice p3 l3 c3], []⟩ w) h))

def codec_Point (n0 : Int) (w : World) (Q : Value → World → Prop) : Prop :=
  Q (.int .i64 (IntKind.i64.wrap (Int.fdiv n0 (2 ^ 6)))) w
def codec_Point_tt : Nat → List (Nat × TypeId) := fun _ => []
theorem codec_Point_call (n0 : Int) (w : World) (Q : Value → World → Prop) (h : codec_Point n0 w Q) : callF Tryz.prog 67 #[.int .u8 n0] w Q :=
  callF_of (fun _ _ => by kernel_rfl) (callK_of_sw codec_Point_tt Tryz.func67 rfl (by kernel_rfl) (show sw Tryz.prog none 6 codec_Point_tt _ 0 (endK Tryz.prog [.tmp 2] Q) ⟨regs [.int .u8 n0], []⟩ w from
    Eq.mp (by kernel_rfl : codec_Point n0 w Q = sw Tryz.prog none 6 codec_Point_tt (Tryz.f67.body.getD .skip) 0 (endK Tryz.prog [.tmp 2] Q) ⟨regs [.int .u8 n0], []⟩ w) h))

def codec_Back_j1 (a4 : Addr) (n5 : Int) (w : World) (Q : Value → World → Prop) : Prop :=
  ∃ (a4_1 : Addr) (v4 : Value), (.pointer (some a4) : Value) = .pointer (some a4_1) ∧ (loadVar 56 a4_1).run Tryz.prog w = .ok v4 w ∧
  Q (.tuple #[v4, .int .i64 n5]) w
def codec_Back_j2 (p1 : Option Addr) (l1 : Nat) (c1 : Nat) (a2 : Addr) (a4 : Addr) (n5 : Int) (w : World) (Q : Value → World → Prop) : Prop :=
  Drw w fun w1 =>
  ∃ (p32 : Option Addr) (l32 : Nat) (c32 : Nat), Pu Tryz.prog (Instr.sliceAt 22 (.slice p1 l1 c1) (some (.int .i64 1)) none none) (.slice p32 l32 c32) ∧
  ∃ (cs30 : Array Value), Ld Tryz.prog 50 (.pointer (some a2)) w1 (.agg cs30) ∧
  callF Tryz.prog 120 #[.agg cs30, .slice p32 l32 c32] w1 fun r33 w2 =>
  ∃ (p33 : Option Addr) (l33 : Nat) (c33 : Nat) (n33 : Int), r33 = .tuple #[.slice p33 l33 c33, .int .i64 n33] ∧
  cond (n33 != 0)
  (∃ (w3 : World), Sto Tryz.prog 56 (.pointer (some a4)) (.agg #[.int .i64 0, .slice none 0 0, .slice none 0 0]) w2 w3 ∧
    ∃ (a4_1 : Addr) (v4 : Value), (.pointer (some a4) : Value) = .pointer (some a4_1) ∧ (loadVar 56 a4_1).run Tryz.prog w3 = .ok v4 w3 ∧
    Q (.tuple #[v4, .int .i64 n33]) w3)
  (∃ (S10 : World → Prop),
    Drw w2 fun w4 =>
    ∃ (a41 : Addr), IxA Tryz.prog 22 (.slice p1 l1 c1) (.int .i64 0) a41 ∧
    ∃ (n42 : Int), HLd Tryz.prog S10 5 (.pointer (some a41)) w4 (.int .u8 n42) ∧
    ∃ (n46 : Int), HLd Tryz.prog S10 3 (.pointer (some (a2.add 1))) w4 (.int .i64 n46) ∧
    ∃ (p47 : Option Addr) (l47 : Nat) (c47 : Nat), Pu Tryz.prog (Instr.sliceAt 22 (.slice p33 l33 c33) none (some (.int .i64 n46)) none) (.slice p47 l47 c47) ∧
    ∃ (n52 : Int), HLd Tryz.prog S10 3 (.pointer (some (a2.add 1))) w4 (.int .i64 n52) ∧
    ∃ (p53 : Option Addr) (l53 : Nat) (c53 : Nat), Pu Tryz.prog (Instr.sliceAt 22 (.slice p33 l33 c33) (some (.int .i64 n52)) none none) (.slice p53 l53 c53) ∧
    (callF Tryz.prog 67 #[.int .u8 n42] w4 fun r43 w5 =>
      ∃ (n43 : Int), r43 = .int .i64 n43 ∧
      (w5 = w4 ∨ S10 w5) ∧
      (∃ (p48 : Option Addr) (l48 : Nat) (c48 : Nat) (w6 : World), Ef Tryz.prog (Instr.buildSlice 85 1 #[(0, .slice p47 l47 c47)]) w5 (.slice p48 l48 c48) w6 ∧
        (w6 = w5 ∨ S10 w6) ∧
        (callF Tryz.prog 47 #[.slice p48 l48 c48] w6 fun r49 w7 =>
          ∃ (p49 : Option Addr) (l49 : Nat) (c49 : Nat), r49 = .slice p49 l49 c49 ∧
          (w7 = w6 ∨ S10 w7) ∧
          ∃ (p54 : Option Addr) (l54 : Nat) (c54 : Nat) (w8 : World), Ef Tryz.prog (Instr.buildSlice 85 1 #[(0, .slice p53 l53 c53)]) w7 (.slice p54 l54 c54) w8 ∧
          (w8 = w7 ∨ S10 w8) ∧
          callF Tryz.prog 47 #[.slice p54 l54 c54] w8 fun r55 w9 =>
          ∃ (p55 : Option Addr) (l55 : Nat) (c55 : Nat), r55 = .slice p55 l55 c55 ∧
          ∃ (w10 : World), Sto Tryz.prog 56 (.pointer (some a4)) (.agg #[.int .i64 n43, .slice p49 l49 c49, .slice p55 l55 c55]) w9 w10 ∧
          codec_Back_j1 a4 0 w10 Q) ∧
        (∃ (p54_1 : Option Addr) (l54_1 : Nat) (c54_1 : Nat) (w11 : World), Ef Tryz.prog (Instr.buildSlice 85 1 #[(0, .slice p53 l53 c53)]) w6 (.slice p54_1 l54_1 c54_1) w11 ∧
          (w11 = w6 ∨ S10 w11) ∧
          callF Tryz.prog 47 #[.slice p48 l48 c48] w11 fun r49_1 w12 =>
          ∃ (p49_1 : Option Addr) (l49_1 : Nat) (c49_1 : Nat), r49_1 = .slice p49_1 l49_1 c49_1 ∧
          (w12 = w11 ∨ S10 w12) ∧
          callF Tryz.prog 47 #[.slice p54_1 l54_1 c54_1] w12 fun r55_1 w13 =>
          ∃ (p55_1 : Option Addr) (l55_1 : Nat) (c55_1 : Nat), r55_1 = .slice p55_1 l55_1 c55_1 ∧
          ∃ (w14 : World), Sto Tryz.prog 56 (.pointer (some a4)) (.agg #[.int .i64 n43, .slice p49_1 l49_1 c49_1, .slice p55_1 l55_1 c55_1]) w13 w14 ∧
          codec_Back_j1 a4 0 w14 Q)) ∧
      (∃ (p54_2 : Option Addr) (l54_2 : Nat) (c54_2 : Nat) (w15 : World), Ef Tryz.prog (Instr.buildSlice 85 1 #[(0, .slice p53 l53 c53)]) w5 (.slice p54_2 l54_2 c54_2) w15 ∧
        (w15 = w5 ∨ S10 w15) ∧
        ∃ (p48_1 : Option Addr) (l48_1 : Nat) (c48_1 : Nat) (w16 : World), Ef Tryz.prog (Instr.buildSlice 85 1 #[(0, .slice p47 l47 c47)]) w15 (.slice p48_1 l48_1 c48_1) w16 ∧
        (w16 = w15 ∨ S10 w16) ∧
        callF Tryz.prog 47 #[.slice p48_1 l48_1 c48_1] w16 fun r49_2 w17 =>
        ∃ (p49_2 : Option Addr) (l49_2 : Nat) (c49_2 : Nat), r49_2 = .slice p49_2 l49_2 c49_2 ∧
        (w17 = w16 ∨ S10 w17) ∧
        callF Tryz.prog 47 #[.slice p54_2 l54_2 c54_2] w17 fun r55_2 w18 =>
        ∃ (p55_2 : Option Addr) (l55_2 : Nat) (c55_2 : Nat), r55_2 = .slice p55_2 l55_2 c55_2 ∧
        ∃ (w19 : World), Sto Tryz.prog 56 (.pointer (some a4)) (.agg #[.int .i64 n43, .slice p49_2 l49_2 c49_2, .slice p55_2 l55_2 c55_2]) w18 w19 ∧
        codec_Back_j1 a4 0 w19 Q)) ∧
    (∃ (p48_2 : Option Addr) (l48_2 : Nat) (c48_2 : Nat) (w20 : World), Ef Tryz.prog (Instr.buildSlice 85 1 #[(0, .slice p47 l47 c47)]) w4 (.slice p48_2 l48_2 c48_2) w20 ∧
      (w20 = w4 ∨ S10 w20) ∧
      (callF Tryz.prog 67 #[.int .u8 n42] w20 fun r43_1 w21 =>
        ∃ (n43_1 : Int), r43_1 = .int .i64 n43_1 ∧
        (w21 = w20 ∨ S10 w21) ∧
        (callF Tryz.prog 47 #[.slice p48_2 l48_2 c48_2] w21 fun r49_3 w22 =>
          ∃ (p49_3 : Option Addr) (l49_3 : Nat) (c49_3 : Nat), r49_3 = .slice p49_3 l49_3 c49_3 ∧
          (w22 = w21 ∨ S10 w22) ∧
          ∃ (p54_3 : Option Addr) (l54_3 : Nat) (c54_3 : Nat) (w23 : World), Ef Tryz.prog (Instr.buildSlice 85 1 #[(0, .slice p53 l53 c53)]) w22 (.slice p54_3 l54_3 c54_3) w23 ∧
          (w23 = w22 ∨ S10 w23) ∧
          callF Tryz.prog 47 #[.slice p54_3 l54_3 c54_3] w23 fun r55_3 w24 =>
          ∃ (p55_3 : Option Addr) (l55_3 : Nat) (c55_3 : Nat), r55_3 = .slice p55_3 l55_3 c55_3 ∧
          ∃ (w25 : World), Sto Tryz.prog 56 (.pointer (some a4)) (.agg #[.int .i64 n43_1, .slice p49_3 l49_3 c49_3, .slice p55_3 l55_3 c55_3]) w24 w25 ∧
          codec_Back_j1 a4 0 w25 Q) ∧
        (∃ (p54_4 : Option Addr) (l54_4 : Nat) (c54_4 : Nat) (w26 : World), Ef Tryz.prog (Instr.buildSlice 85 1 #[(0, .slice p53 l53 c53)]) w21 (.slice p54_4 l54_4 c54_4) w26 ∧
          (w26 = w21 ∨ S10 w26) ∧
          callF Tryz.prog 47 #[.slice p48_2 l48_2 c48_2] w26 fun r49_4 w27 =>
          ∃ (p49_4 : Option Addr) (l49_4 : Nat) (c49_4 : Nat), r49_4 = .slice p49_4 l49_4 c49_4 ∧
          (w27 = w26 ∨ S10 w27) ∧
          callF Tryz.prog 47 #[.slice p54_4 l54_4 c54_4] w27 fun r55_4 w28 =>
          ∃ (p55_4 : Option Addr) (l55_4 : Nat) (c55_4 : Nat), r55_4 = .slice p55_4 l55_4 c55_4 ∧
          ∃ (w29 : World), Sto Tryz.prog 56 (.pointer (some a4)) (.agg #[.int .i64 n43_1, .slice p49_4 l49_4 c49_4, .slice p55_4 l55_4 c55_4]) w28 w29 ∧
          codec_Back_j1 a4 0 w29 Q)) ∧
      (∃ (p54_5 : Option Addr) (l54_5 : Nat) (c54_5 : Nat) (w30 : World), Ef Tryz.prog (Instr.buildSlice 85 1 #[(0, .slice p53 l53 c53)]) w20 (.slice p54_5 l54_5 c54_5) w30 ∧
        (w30 = w20 ∨ S10 w30) ∧
        callF Tryz.prog 67 #[.int .u8 n42] w30 fun r43_2 w31 =>
        ∃ (n43_2 : Int), r43_2 = .int .i64 n43_2 ∧
        (w31 = w30 ∨ S10 w31) ∧
        callF Tryz.prog 47 #[.slice p48_2 l48_2 c48_2] w31 fun r49_5 w32 =>
        ∃ (p49_5 : Option Addr) (l49_5 : Nat) (c49_5 : Nat), r49_5 = .slice p49_5 l49_5 c49_5 ∧
        (w32 = w31 ∨ S10 w32) ∧
        callF Tryz.prog 47 #[.slice p54_5 l54_5 c54_5] w32 fun r55_5 w33 =>
        ∃ (p55_5 : Option Addr) (l55_5 : Nat) (c55_5 : Nat), r55_5 = .slice p55_5 l55_5 c55_5 ∧
        ∃ (w34 : World), Sto Tryz.prog 56 (.pointer (some a4)) (.agg #[.int .i64 n43_2, .slice p49_5 l49_5 c49_5, .slice p55_5 l55_5 c55_5]) w33 w34 ∧
        codec_Back_j1 a4 0 w34 Q)) ∧
    (∃ (p54_6 : Option Addr) (l54_6 : Nat) (c54_6 : Nat) (w35 : World), Ef Tryz.prog (Instr.buildSlice 85 1 #[(0, .slice p53 l53 c53)]) w4 (.slice p54_6 l54_6 c54_6) w35 ∧
      (w35 = w4 ∨ S10 w35) ∧
      (callF Tryz.prog 67 #[.int .u8 n42] w35 fun r43_3 w36 =>
        ∃ (n43_3 : Int), r43_3 = .int .i64 n43_3 ∧
        (w36 = w35 ∨ S10 w36) ∧
        ∃ (p48_3 : Option Addr) (l48_3 : Nat) (c48_3 : Nat) (w37 : World), Ef Tryz.prog (Instr.buildSlice 85 1 #[(0, .slice p47 l47 c47)]) w36 (.slice p48_3 l48_3 c48_3) w37 ∧
        (w37 = w36 ∨ S10 w37) ∧
        callF Tryz.prog 47 #[.slice p48_3 l48_3 c48_3] w37 fun r49_6 w38 =>
        ∃ (p49_6 : Option Addr) (l49_6 : Nat) (c49_6 : Nat), r49_6 = .slice p49_6 l49_6 c49_6 ∧
        (w38 = w37 ∨ S10 w38) ∧
        callF Tryz.prog 47 #[.slice p54_6 l54_6 c54_6] w38 fun r55_6 w39 =>
        ∃ (p55_6 : Option Addr) (l55_6 : Nat) (c55_6 : Nat), r55_6 = .slice p55_6 l55_6 c55_6 ∧
        ∃ (w40 : World), Sto Tryz.prog 56 (.pointer (some a4)) (.agg #[.int .i64 n43_3, .slice p49_6 l49_6 c49_6, .slice p55_6 l55_6 c55_6]) w39 w40 ∧
        codec_Back_j1 a4 0 w40 Q) ∧
      (∃ (p48_4 : Option Addr) (l48_4 : Nat) (c48_4 : Nat) (w41 : World), Ef Tryz.prog (Instr.buildSlice 85 1 #[(0, .slice p47 l47 c47)]) w35 (.slice p48_4 l48_4 c48_4) w41 ∧
        (w41 = w35 ∨ S10 w41) ∧
        callF Tryz.prog 67 #[.int .u8 n42] w41 fun r43_4 w42 =>
        ∃ (n43_4 : Int), r43_4 = .int .i64 n43_4 ∧
        (w42 = w41 ∨ S10 w42) ∧
        callF Tryz.prog 47 #[.slice p48_4 l48_4 c48_4] w42 fun r49_7 w43 =>
        ∃ (p49_7 : Option Addr) (l49_7 : Nat) (c49_7 : Nat), r49_7 = .slice p49_7 l49_7 c49_7 ∧
        (w43 = w42 ∨ S10 w43) ∧
        callF Tryz.prog 47 #[.slice p54_6 l54_6 c54_6] w43 fun r55_7 w44 =>
        ∃ (p55_7 : Option Addr) (l55_7 : Nat) (c55_7 : Nat), r55_7 = .slice p55_7 l55_7 c55_7 ∧
        ∃ (w45 : World), Sto Tryz.prog 56 (.pointer (some a4)) (.agg #[.int .i64 n43_4, .slice p49_7 l49_7 c49_7, .slice p55_7 l55_7 c55_7]) w44 w45 ∧
        codec_Back_j1 a4 0 w45 Q)))
def codec_Back (cs0 : Array Value) (p1 : Option Addr) (l1 : Nat) (c1 : Nat) (w : World) (Q : Value → World → Prop) : Prop :=
  New cs0 50 w fun k2 w1 =>
  ∃ (z4 : Value), Pu Tryz.prog (zeroValue 56) z4 ∧
  New z4.cells 56 w1 fun k4 w2 =>
  ∃ (cs9 : Array Value), Ld Tryz.prog 50 (.pointer (some (⟨k2, 0, none⟩ : Addr))) w2 (.agg cs9) ∧
  callF Tryz.prog 74 #[.agg cs9] w2 fun r10 w3 =>
  ∃ (b10 : Bool), r10 = .bool b10 ∧
  cond (!b10)
  (∃ (w4 : World), Sto Tryz.prog 56 (.pointer (some (⟨k4, 0, none⟩ : Addr))) (.agg #[.int .i64 0, .slice none 0 0, .slice none 0 0]) w3 w4 ∧
    ∃ (a4 : Addr) (v4 : Value), (.pointer (some (⟨k4, 0, none⟩ : Addr)) : Value) = .pointer (some a4) ∧ (loadVar 56 a4).run Tryz.prog w4 = .ok v4 w4 ∧
    Q (.tuple #[v4, .int .i64 19]) w4)
  (∃ (cs16 : Array Value), Ld Tryz.prog 50 (.pointer (some (⟨k2, 0, none⟩ : Addr))) w3 (.agg cs16) ∧
    callF Tryz.prog 71 #[.agg cs16] w3 fun r17 w5 =>
    ∃ (n17 : Int), r17 = .int .i64 n17 ∧
    cond (((l1 : Nat) : Int) != n17)
    (∃ (w6 : World), Sto Tryz.prog 56 (.pointer (some (⟨k4, 0, none⟩ : Addr))) (.agg #[.int .i64 0, .slice none 0 0, .slice none 0 0]) w5 w6 ∧
      ∃ (a4_1 : Addr) (v4_1 : Value), (.pointer (some (⟨k4, 0, none⟩ : Addr)) : Value) = .pointer (some a4_1) ∧ (loadVar 56 a4_1).run Tryz.prog w6 = .ok v4_1 w6 ∧
      Q (.tuple #[v4_1, .int .i64 11]) w6)
    (∃ (a22 : Addr), IxA Tryz.prog 22 (.slice p1 l1 c1) (.int .i64 0) a22 ∧
      ∃ (n23 : Int), Ld Tryz.prog 5 (.pointer (some a22)) w5 (.int .u8 n23) ∧
      callF Tryz.prog 119 #[.int .u8 n23] w5 fun r24 w7 =>
      ∃ (n24 : Int), r24 = .int .i64 n24 ∧
      cond (n24 != ((l1 : Nat) : Int))
      (∃ (w8 : World), Sto Tryz.prog 56 (.pointer (some (⟨k4, 0, none⟩ : Addr))) (.agg #[.int .i64 0, .slice none 0 0, .slice none 0 0]) w7 w8 ∧
        ∃ (a4_2 : Addr) (v4_2 : Value), (.pointer (some (⟨k4, 0, none⟩ : Addr)) : Value) = .pointer (some a4_2) ∧ (loadVar 56 a4_2).run Tryz.prog w8 = .ok v4_2 w8 ∧
        Q (.tuple #[v4_2, .int .i64 10]) w8)
      (codec_Back_j2 p1 l1 c1 (⟨k2, 0, none⟩ : Addr) (⟨k4, 0, none⟩ : Addr) 0 w7 Q)))
def codec_Back_tt : Nat → List (Nat × TypeId) := fun _ => []
theorem codec_Back_call (cs0 : Array Value) (p1 : Option Addr) (l1 : Nat) (c1 : Nat) (w : World) (Q : Value → World → Prop) (h : codec_Back cs0 p1 l1 c1 w Q) : callF Tryz.prog 68 #[.agg cs0, .slice p1 l1 c1] w Q :=
  callF_of (fun _ _ => by kernel_rfl) (callK_of_sw codec_Back_tt Tryz.func68 rfl (by kernel_rfl) (show sw Tryz.prog none 57 codec_Back_tt _ 0 (endK Tryz.prog [.cell 4 56, .tmp 5] Q) ⟨regs [.agg cs0, .slice p1 l1 c1], []⟩ w from
    Eq.mp (by kernel_rfl : codec_Back cs0 p1 l1 c1 w Q = sw Tryz.prog none 57 codec_Back_tt (Tryz.f68.body.getD .skip) 0 (endK Tryz.prog [.cell 4 56, .tmp 5] Q) ⟨regs [.agg cs0, .slice p1 l1 c1], []⟩ w) h))

def codec_id (n0 : Int) (p1 : Option Addr) (l1 : Nat) (c1 : Nat) (w : World) (Q : Value → World → Prop) : Prop :=
  ∃ (p11 : Option Addr) (l11 : Nat) (c11 : Nat) (w1 : World), Ef Tryz.prog (Instr.buildSlice 22 1 #[(0, .int .u8 (IntKind.u8.wrap (ior .i64 (IntKind.i64.wrap (n0 * 2 ^ 6)) ((l1 : Nat) : Int))))]) w (.slice p11 l11 c11) w1 ∧
  ∃ (p13 : Option Addr) (l13 : Nat) (c13 : Nat) (w2 : World), Ef Tryz.prog (Instr.buildSlice 85 2 #[(0, .slice p11 l11 c11), (1, .slice p1 l1 c1)]) w1 (.slice p13 l13 c13) w2 ∧
  callF Tryz.prog 47 #[.slice p13 l13 c13] w2 fun r14 w3 =>
  ∃ (p14 : Option Addr) (l14 : Nat) (c14 : Nat), r14 = .slice p14 l14 c14 ∧
  Q (.slice p14 l14 c14) w3
def codec_id_tt : Nat → List (Nat × TypeId) := fun _ => []
theorem codec_id_call (n0 : Int) (p1 : Option Addr) (l1 : Nat) (c1 : Nat) (w : World) (Q : Value → World → Prop) (h : codec_id n0 p1 l1 c1 w Q) : callF Tryz.prog 76 #[.int .i64 n0, .slice p1 l1 c1] w Q :=
  callF_of (fun _ _ => by kernel_rfl) (callK_of_sw codec_id_tt Tryz.func76 rfl (by kernel_rfl) (show sw Tryz.prog none 15 codec_id_tt _ 0 (endK Tryz.prog [.tmp 4] Q) ⟨regs [.int .i64 n0, .slice p1 l1 c1], []⟩ w from
    Eq.mp (by kernel_rfl : codec_id n0 p1 l1 c1 w Q = sw Tryz.prog none 15 codec_id_tt (Tryz.f76.body.getD .skip) 0 (endK Tryz.prog [.tmp 4] Q) ⟨regs [.int .i64 n0, .slice p1 l1 c1], []⟩ w) h))

def codec_Told (n0 : Int) (w : World) (Q : Value → World → Prop) : Prop :=
  Q (.int .i64 (IntKind.i64.wrap ((IntKind.i64.wrap (iand .u8 n0 63)) + 1))) w
def codec_Told_tt : Nat → List (Nat × TypeId) := fun _ => []
theorem codec_Told_call (n0 : Int) (w : World) (Q : Value → World → Prop) (h : codec_Told n0 w Q) : callF Tryz.prog 119 #[.int .u8 n0] w Q :=
  callF_of (fun _ _ => by kernel_rfl) (callK_of_sw codec_Told_tt Tryz.func119 rfl (by kernel_rfl) (show sw Tryz.prog none 7 codec_Told_tt _ 0 (endK Tryz.prog [.tmp 2] Q) ⟨regs [.int .u8 n0], []⟩ w from
    Eq.mp (by kernel_rfl : codec_Told n0 w Q = sw Tryz.prog none 7 codec_Told_tt (Tryz.f119.body.getD .skip) 0 (endK Tryz.prog [.tmp 2] Q) ⟨regs [.int .u8 n0], []⟩ w) h))
end Go.Sh
end

section
namespace Go.Sh
open Go Go.Fw Go.Proofs
set_option maxRecDepth 100000
set_option linter.unusedVariables false

def law17_Same (n0 : Int) (p0 : Option Addr) (l0 : Nat) (c0 : Nat) (p0_1 : Option Addr) (l0_1 : Nat) (c0_1 : Nat) (n1 : Int) (p1 : Option Addr) (l1 : Nat) (c1 : Nat) (p1_1 : Option Addr) (l1_1 : Nat) (c1_1 : Nat) (w : World) (Q : Value → World → Prop) : Prop :=
  New #[.int .i64 n0, .slice p0 l0 c0, .slice p0_1 l0_1 c0_1] 56 w fun k2 w1 =>
  New #[.int .i64 n1, .slice p1 l1 c1, .slice p1_1 l1_1 c1_1] 59 w1 fun k3 w2 =>
  ∃ (n6 : Int), Ld Tryz.prog 3 (.pointer (some ((⟨k2, 0, none⟩ : Addr).add 0))) w2 (.int .i64 n6) ∧
  ∃ (n8 : Int), Ld Tryz.prog 3 (.pointer (some ((⟨k3, 0, none⟩ : Addr).add 0))) w2 (.int .i64 n8) ∧
  cond (n6 == n8)
  (∃ (p12 : Option Addr) (l12 : Nat) (c12 : Nat), Ld Tryz.prog 22 (.pointer (some ((⟨k2, 0, none⟩ : Addr).add 1))) w2 (.slice p12 l12 c12) ∧
    ∃ (p14 : Option Addr) (l14 : Nat) (c14 : Nat), Ld Tryz.prog 22 (.pointer (some ((⟨k3, 0, none⟩ : Addr).add 1))) w2 (.slice p14 l14 c14) ∧
    callF Tryz.prog 18 #[.slice p12 l12 c12, .slice p14 l14 c14] w2 fun r15 w3 =>
    ∃ (b15 : Bool), r15 = .bool b15 ∧
    cond b15
    (∃ (p19 : Option Addr) (l19 : Nat) (c19 : Nat), Ld Tryz.prog 22 (.pointer (some ((⟨k2, 0, none⟩ : Addr).add 2))) w3 (.slice p19 l19 c19) ∧
      ∃ (p21 : Option Addr) (l21 : Nat) (c21 : Nat), Ld Tryz.prog 22 (.pointer (some ((⟨k3, 0, none⟩ : Addr).add 2))) w3 (.slice p21 l21 c21) ∧
      callF Tryz.prog 18 #[.slice p19 l19 c19, .slice p21 l21 c21] w3 fun r22 w4 =>
      ∃ (b22 : Bool), r22 = .bool b22 ∧
      Q (.bool b22) w4)
    (Q (.bool false) w3))
  (Q (.bool false) w2)
def law17_Same_tt : Nat → List (Nat × TypeId) := fun _ => []
theorem law17_Same_call (n0 : Int) (p0 : Option Addr) (l0 : Nat) (c0 : Nat) (p0_1 : Option Addr) (l0_1 : Nat) (c0_1 : Nat) (n1 : Int) (p1 : Option Addr) (l1 : Nat) (c1 : Nat) (p1_1 : Option Addr) (l1_1 : Nat) (c1_1 : Nat) (w : World) (Q : Value → World → Prop) (h : law17_Same n0 p0 l0 c0 p0_1 l0_1 c0_1 n1 p1 l1 c1 p1_1 l1_1 c1_1 w Q) : callF Tryz.prog 31 #[.agg #[.int .i64 n0, .slice p0 l0 c0, .slice p0_1 l0_1 c0_1], .agg #[.int .i64 n1, .slice p1 l1 c1, .slice p1_1 l1_1 c1_1]] w Q :=
  callF_of (fun _ _ => by kernel_rfl) (callK_of_sw law17_Same_tt Tryz.func31 rfl (by kernel_rfl) (show sw Tryz.prog none 24 law17_Same_tt _ 0 (endK Tryz.prog [.tmp 4] Q) ⟨regs [.agg #[.int .i64 n0, .slice p0 l0 c0, .slice p0_1 l0_1 c0_1], .agg #[.int .i64 n1, .slice p1 l1 c1, .slice p1_1 l1_1 c1_1]], []⟩ w from
    Eq.mp (by kernel_rfl : law17_Same n0 p0 l0 c0 p0_1 l0_1 c0_1 n1 p1 l1 c1 p1_1 l1_1 c1_1 w Q = sw Tryz.prog none 24 law17_Same_tt (Tryz.f31.body.getD .skip) 0 (endK Tryz.prog [.tmp 4] Q) ⟨regs [.agg #[.int .i64 n0, .slice p0 l0 c0, .slice p0_1 l0_1 c0_1], .agg #[.int .i64 n1, .slice p1 l1 c1, .slice p1_1 l1_1 c1_1]], []⟩ w) h))
end Go.Sh
end

section
namespace Go.Sh
open Go Go.Fw Go.Proofs
set_option maxRecDepth 100000
set_option linter.unusedVariables false

def ref17_Point (n0 : Int) (w : World) (Q : Value → World → Prop) : Prop :=
  Q (.int .i64 (IntKind.i64.wrap (Int.tdiv (IntKind.i64.wrap n0) 64))) w
def ref17_Point_tt : Nat → List (Nat × TypeId) := fun _ => []
theorem ref17_Point_call (n0 : Int) (w : World) (Q : Value → World → Prop) (h : ref17_Point n0 w Q) : callF Tryz.prog 69 #[.int .u8 n0] w Q :=
  callF_of (fun _ _ => by kernel_rfl) (callK_of_sw ref17_Point_tt Tryz.func69 rfl (by kernel_rfl) (show sw Tryz.prog none 6 ref17_Point_tt _ 0 (endK Tryz.prog [.tmp 2] Q) ⟨regs [.int .u8 n0], []⟩ w from
    Eq.mp (by kernel_rfl : ref17_Point n0 w Q = sw Tryz.prog none 6 ref17_Point_tt (Tryz.f69.body.getD .skip) 0 (endK Tryz.prog [.tmp 2] Q) ⟨regs [.int .u8 n0], []⟩ w) h))

def ref17_Back (cs0 : Array Value) (p1 : Option Addr) (l1 : Nat) (c1 : Nat) (w : World) (Q : Value → World → Prop) : Prop :=
  New cs0 44 w fun k2 w1 =>
  ∃ (z4 : Value), Pu Tryz.prog (zeroValue 59) z4 ∧
  New z4.cells 59 w1 fun k4 w2 =>
  ∃ (cs8 : Array Value), Ld Tryz.prog 44 (.pointer (some (⟨k2, 0, none⟩ : Addr))) w2 (.agg cs8) ∧
  callF Tryz.prog 118 #[.agg cs8] w2 fun r9 w3 =>
  ∃ (b9 : Bool), r9 = .bool b9 ∧
  cond (!b9)
  (∃ (w4 : World), Sto Tryz.prog 59 (.pointer (some (⟨k4, 0, none⟩ : Addr))) (.agg #[.int .i64 0, .slice none 0 0, .slice none 0 0]) w3 w4 ∧
    ∃ (a4 : Addr) (v4 : Value), (.pointer (some (⟨k4, 0, none⟩ : Addr)) : Value) = .pointer (some a4) ∧ (loadVar 59 a4).run Tryz.prog w4 = .ok v4 w4 ∧
    Q (.tuple #[v4, .int .i64 19]) w4)
  (∃ (cs14 : Array Value), Ld Tryz.prog 44 (.pointer (some (⟨k2, 0, none⟩ : Addr))) w3 (.agg cs14) ∧
    callF Tryz.prog 72 #[.agg cs14] w3 fun r15 w5 =>
    ∃ (n15 : Int), r15 = .int .i64 n15 ∧
    cond (((l1 : Nat) : Int) != n15)
    (∃ (w6 : World), Sto Tryz.prog 59 (.pointer (some (⟨k4, 0, none⟩ : Addr))) (.agg #[.int .i64 0, .slice none 0 0, .slice none 0 0]) w5 w6 ∧
      ∃ (a4_1 : Addr) (v4_1 : Value), (.pointer (some (⟨k4, 0, none⟩ : Addr)) : Value) = .pointer (some a4_1) ∧ (loadVar 59 a4_1).run Tryz.prog w6 = .ok v4_1 w6 ∧
      Q (.tuple #[v4_1, .int .i64 11]) w6)
    (∃ (a19 : Addr), IxA Tryz.prog 22 (.slice p1 l1 c1) (.int .i64 0) a19 ∧
      ∃ (n20 : Int), Ld Tryz.prog 5 (.pointer (some a19)) w5 (.int .u8 n20) ∧
      callF Tryz.prog 121 #[.int .u8 n20] w5 fun r21 w7 =>
      ∃ (n21 : Int), r21 = .int .i64 n21 ∧
      cond (n21 != ((l1 : Nat) : Int))
      (∃ (w8 : World), Sto Tryz.prog 59 (.pointer (some (⟨k4, 0, none⟩ : Addr))) (.agg #[.int .i64 0, .slice none 0 0, .slice none 0 0]) w7 w8 ∧
        ∃ (a4_2 : Addr) (v4_2 : Value), (.pointer (some (⟨k4, 0, none⟩ : Addr)) : Value) = .pointer (some a4_2) ∧ (loadVar 59 a4_2).run Tryz.prog w8 = .ok v4_2 w8 ∧
        Q (.tuple #[v4_2, .int .i64 10]) w8)
      (Drw w7 fun w9 =>
        ∃ (p29 : Option Addr) (l29 : Nat) (c29 : Nat), Pu Tryz.prog (Instr.sliceAt 22 (.slice p1 l1 c1) (some (.int .i64 1)) none none) (.slice p29 l29 c29) ∧
        ∃ (cs27 : Array Value), Ld Tryz.prog 44 (.pointer (some (⟨k2, 0, none⟩ : Addr))) w9 (.agg cs27) ∧
        callF Tryz.prog 122 #[.agg cs27, .slice p29 l29 c29] w9 fun r30 w10 =>
        ∃ (p30 : Option Addr) (l30 : Nat) (c30 : Nat) (n30 : Int), r30 = .tuple #[.slice p30 l30 c30, .int .i64 n30] ∧
        ∃ (S8 : World → Prop),
        Drw w10 fun w11 =>
        ∃ (a34 : Addr), IxA Tryz.prog 22 (.slice p1 l1 c1) (.int .i64 0) a34 ∧
        ∃ (n35 : Int), HLd Tryz.prog S8 5 (.pointer (some a34)) w11 (.int .u8 n35) ∧
        ∃ (n39 : Int), HLd Tryz.prog S8 3 (.pointer (some ((⟨k2, 0, none⟩ : Addr).add 1))) w11 (.int .i64 n39) ∧
        ∃ (p40 : Option Addr) (l40 : Nat) (c40 : Nat), Pu Tryz.prog (Instr.sliceAt 22 (.slice p30 l30 c30) none (some (.int .i64 n39)) none) (.slice p40 l40 c40) ∧
        ∃ (n43 : Int), HLd Tryz.prog S8 3 (.pointer (some ((⟨k2, 0, none⟩ : Addr).add 1))) w11 (.int .i64 n43) ∧
        ∃ (p44 : Option Addr) (l44 : Nat) (c44 : Nat), Pu Tryz.prog (Instr.sliceAt 22 (.slice p30 l30 c30) (some (.int .i64 n43)) none none) (.slice p44 l44 c44) ∧
        callF Tryz.prog 69 #[.int .u8 n35] w11 fun r36 w12 =>
        ∃ (n36 : Int), r36 = .int .i64 n36 ∧
        (w12 = w11 ∨ S8 w12) ∧
        ∃ (w13 : World), Sto Tryz.prog 59 (.pointer (some (⟨k4, 0, none⟩ : Addr))) (.agg #[.int .i64 n36, .slice p40 l40 c40, .slice p44 l44 c44]) w12 w13 ∧
        ∃ (a4_3 : Addr) (v4_3 : Value), (.pointer (some (⟨k4, 0, none⟩ : Addr)) : Value) = .pointer (some a4_3) ∧ (loadVar 59 a4_3).run Tryz.prog w13 = .ok v4_3 w13 ∧
        Q (.tuple #[v4_3, .int .i64 0]) w13)))
def ref17_Back_tt : Nat → List (Nat × TypeId) := fun _ => []
theorem ref17_Back_call (cs0 : Array Value) (p1 : Option Addr) (l1 : Nat) (c1 : Nat) (w : World) (Q : Value → World → Prop) (h : ref17_Back cs0 p1 l1 c1 w Q) : callF Tryz.prog 70 #[.agg cs0, .slice p1 l1 c1] w Q :=
  callF_of (fun _ _ => by kernel_rfl) (callK_of_sw ref17_Back_tt Tryz.func70 rfl (by kernel_rfl) (show sw Tryz.prog none 46 ref17_Back_tt _ 0 (endK Tryz.prog [.cell 4 59, .tmp 5] Q) ⟨regs [.agg cs0, .slice p1 l1 c1], []⟩ w from
    Eq.mp (by kernel_rfl : ref17_Back cs0 p1 l1 c1 w Q = sw Tryz.prog none 46 ref17_Back_tt (Tryz.f70.body.getD .skip) 0 (endK Tryz.prog [.cell 4 59, .tmp 5] Q) ⟨regs [.agg cs0, .slice p1 l1 c1], []⟩ w) h))

def ref17_Told (n0 : Int) (w : World) (Q : Value → World → Prop) : Prop :=
  Q (.int .i64 (IntKind.i64.wrap ((Int.tmod (IntKind.i64.wrap n0) 64) + 1))) w
def ref17_Told_tt : Nat → List (Nat × TypeId) := fun _ => []
theorem ref17_Told_call (n0 : Int) (w : World) (Q : Value → World → Prop) (h : ref17_Told n0 w Q) : callF Tryz.prog 121 #[.int .u8 n0] w Q :=
  callF_of (fun _ _ => by kernel_rfl) (callK_of_sw ref17_Told_tt Tryz.func121 rfl (by kernel_rfl) (show sw Tryz.prog none 7 ref17_Told_tt _ 0 (endK Tryz.prog [.tmp 2] Q) ⟨regs [.int .u8 n0], []⟩ w from
    Eq.mp (by kernel_rfl : ref17_Told n0 w Q = sw Tryz.prog none 7 ref17_Told_tt (Tryz.f121.body.getD .skip) 0 (endK Tryz.prog [.tmp 2] Q) ⟨regs [.int .u8 n0], []⟩ w) h))
end Go.Sh
end
