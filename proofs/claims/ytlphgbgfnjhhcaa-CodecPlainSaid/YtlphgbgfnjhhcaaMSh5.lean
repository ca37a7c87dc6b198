/- A part of a proof of a given law of this program: lemmas, printed forms of its functions, contracts. It has no conditions of its own. -/
import Derived.Test.YtlphgbgfnjhhcaaProg
import Derived.Test.YtlphgbgfnjhhcaaMFw

section
namespace Go.Sh
open Go Go.Fw Go.Proofs
set_option maxRecDepth 100000
set_option linter.unusedVariables false

def codec_Make_j1 (n1 : Int) (p2 : Option Addr) (l2 : Nat) (c2 : Nat) (p3 : Option Addr) (l3 : Nat) (c3 : Nat) (a4 : Addr) (p8 : Option Addr) (l8 : Nat) (c8 : Nat) (n9 : Int) (w : World) (Q : Value → World → Prop) : Prop :=
  ∃ (S5 : World → Prop),
  Drw w fun w1 =>
  ∃ (cs38 : Array Value), HLd Try.prog S5 102 (.pointer (some a4)) w1 (.agg cs38) ∧
  ∃ (p41 : Option Addr) (l41 : Nat) (c41 : Nat) (w2 : World), Ef Try.prog (Instr.buildSlice 68 2 #[(0, .slice p2 l2 c2), (1, .slice p3 l3 c3)]) w1 (.slice p41 l41 c41) w2 ∧
  (w2 = w1 ∨ S5 w2) ∧
  callF Try.prog 124 #[.slice p41 l41 c41] w2 fun r42 w3 =>
  ∃ (p42 : Option Addr) (l42 : Nat) (c42 : Nat), r42 = .slice p42 l42 c42 ∧
  (w3 = w2 ∨ S5 w3) ∧
  callF Try.prog 98 #[.agg cs38, .slice p42 l42 c42] w3 fun r43 w4 =>
  ∃ (p43 : Option Addr) (l43 : Nat) (c43 : Nat) (n43 : Int), r43 = .tuple #[.slice p43 l43 c43, .int .i64 n43] ∧
  cond (n43 != 0)
  (Q (.tuple #[.slice none 0 0, .int .i64 n43]) w4)
  (callF Try.prog 136 #[.int .i64 n1, .slice p43 l43 c43] w4 fun r51 w5 =>
    ∃ (p51 : Option Addr) (l51 : Nat) (c51 : Nat), r51 = .slice p51 l51 c51 ∧
    Q (.tuple #[.slice p51 l51 c51, .int .i64 0]) w5)
def codec_Make (cs0 : Array Value) (n1 : Int) (p2 : Option Addr) (l2 : Nat) (c2 : Nat) (p3 : Option Addr) (l3 : Nat) (c3 : Nat) (w : World) (Q : Value → World → Prop) : Prop :=
  New cs0 102 w fun k4 w1 =>
  ∃ (cs13 : Array Value), Ld Try.prog 102 (.pointer (some (⟨k4, 0, none⟩ : Addr))) w1 (.agg cs13) ∧
  callF Try.prog 88 #[.agg cs13] w1 fun r14 w2 =>
  ∃ (b14 : Bool), r14 = .bool b14 ∧
  cond (!b14)
  (Q (.tuple #[.slice none 0 0, .int .i64 19]) w2)
  (cond (decide (n1 < 0))
    (Q (.tuple #[.slice none 0 0, .int .i64 11]) w2)
    (cond (decide (n1 ≥ 3))
      (Q (.tuple #[.slice none 0 0, .int .i64 11]) w2)
      (∃ (n27 : Int), Ld Try.prog 3 (.pointer (some ((⟨k4, 0, none⟩ : Addr).add 1))) w2 (.int .i64 n27) ∧
        cond (((l2 : Nat) : Int) != n27)
        (Q (.tuple #[.slice none 0 0, .int .i64 11]) w2)
        (∃ (n34 : Int), Ld Try.prog 3 (.pointer (some ((⟨k4, 0, none⟩ : Addr).add 2))) w2 (.int .i64 n34) ∧
          cond (((l3 : Nat) : Int) != n34)
          (Q (.tuple #[.slice none 0 0, .int .i64 11]) w2)
          (codec_Make_j1 n1 p2 l2 c2 p3 l3 c3 (⟨k4, 0, none⟩ : Addr) none 0 0 0 w2 Q)))))
def codec_Make_tt : Nat → List (Nat × TypeId) := fun _ => []
theorem codec_Make_call (cs0 : Array Value) (n1 : Int) (p2 : Option Addr) (l2 : Nat) (c2 : Nat) (p3 : Option Addr) (l3 : Nat) (c3 : Nat) (w : World) (Q : Value → World → Prop) (h : codec_Make cs0 n1 p2 l2 c2 p3 l3 c3 w Q) : callF Try.prog 90 #[.agg cs0, .int .i64 n1, .slice p2 l2 c2, .slice p3 l3 c3] w Q :=
  callF_of (fun _ _ => by kernel_rfl) (callK_of_sw codec_Make_tt Try.func90 rfl (by kernel_rfl) (show sw Try.prog none 52 codec_Make_tt _ 0 (endK Try.prog [.tmp 8, .tmp 9] Q) ⟨regs [.agg cs0, .int .i64 n1, .slice p2 l2 c2, .slice p3 l3 c3], []⟩ w from
    Eq.mp (by kernel_rfl : codec_Make cs0 n1 p2 l2 c2 p3 l3 c3 w Q = sw Try.prog none 52 codec_Make_tt (Try.f90.body.getD .skip) 0 (endK Try.prog [.tmp 8, .tmp 9] Q) ⟨regs [.agg cs0, .int .i64 n1, .slice p2 l2 c2, .slice p3 l3 c3], []⟩ w) h))

def codec_Back_j1 (a4 : Addr) (n5 : Int) (w : World) (Q : Value → World → Prop) : Prop :=
  ∃ (a4_1 : Addr) (v4 : Value), (.pointer (some a4) : Value) = .pointer (some a4_1) ∧ (loadVar 105 a4_1).run Try.prog w = .ok v4 w ∧
  Q (.tuple #[v4, .int .i64 n5]) w
def codec_Back_j2 (p1 : Option Addr) (l1 : Nat) (c1 : Nat) (a2 : Addr) (a4 : Addr) (n5 : Int) (w : World) (Q : Value → World → Prop) : Prop :=
  Drw w fun w1 =>
  ∃ (p32 : Option Addr) (l32 : Nat) (c32 : Nat), Pu Try.prog (Instr.sliceAt 50 (.slice p1 l1 c1) (some (.int .i64 1)) none none) (.slice p32 l32 c32) ∧
  ∃ (cs30 : Array Value), Ld Try.prog 102 (.pointer (some a2)) w1 (.agg cs30) ∧
  callF Try.prog 99 #[.agg cs30, .slice p32 l32 c32] w1 fun r33 w2 =>
  ∃ (p33 : Option Addr) (l33 : Nat) (c33 : Nat) (n33 : Int), r33 = .tuple #[.slice p33 l33 c33, .int .i64 n33] ∧
  cond (n33 != 0)
  (∃ (w3 : World), Sto Try.prog 105 (.pointer (some a4)) (.agg #[.int .i64 0, .slice none 0 0, .slice none 0 0]) w2 w3 ∧
    ∃ (a4_1 : Addr) (v4 : Value), (.pointer (some a4) : Value) = .pointer (some a4_1) ∧ (loadVar 105 a4_1).run Try.prog w3 = .ok v4 w3 ∧
    Q (.tuple #[v4, .int .i64 n33]) w3)
  (∃ (S10 : World → Prop),
    Drw w2 fun w4 =>
    ∃ (a41 : Addr), IxA Try.prog 50 (.slice p1 l1 c1) (.int .i64 0) a41 ∧
    ∃ (n42 : Int), HLd Try.prog S10 5 (.pointer (some a41)) w4 (.int .u8 n42) ∧
    ∃ (n46 : Int), HLd Try.prog S10 3 (.pointer (some (a2.add 1))) w4 (.int .i64 n46) ∧
    ∃ (p47 : Option Addr) (l47 : Nat) (c47 : Nat), Pu Try.prog (Instr.sliceAt 50 (.slice p33 l33 c33) none (some (.int .i64 n46)) none) (.slice p47 l47 c47) ∧
    ∃ (n52 : Int), HLd Try.prog S10 3 (.pointer (some (a2.add 1))) w4 (.int .i64 n52) ∧
    ∃ (p53 : Option Addr) (l53 : Nat) (c53 : Nat), Pu Try.prog (Instr.sliceAt 50 (.slice p33 l33 c33) (some (.int .i64 n52)) none none) (.slice p53 l53 c53) ∧
    (callF Try.prog 92 #[.int .u8 n42] w4 fun r43 w5 =>
      ∃ (n43 : Int), r43 = .int .i64 n43 ∧
      (w5 = w4 ∨ S10 w5) ∧
      (∃ (p48 : Option Addr) (l48 : Nat) (c48 : Nat) (w6 : World), Ef Try.prog (Instr.buildSlice 68 1 #[(0, .slice p47 l47 c47)]) w5 (.slice p48 l48 c48) w6 ∧
        (w6 = w5 ∨ S10 w6) ∧
        (callF Try.prog 124 #[.slice p48 l48 c48] w6 fun r49 w7 =>
          ∃ (p49 : Option Addr) (l49 : Nat) (c49 : Nat), r49 = .slice p49 l49 c49 ∧
          (w7 = w6 ∨ S10 w7) ∧
          ∃ (p54 : Option Addr) (l54 : Nat) (c54 : Nat) (w8 : World), Ef Try.prog (Instr.buildSlice 68 1 #[(0, .slice p53 l53 c53)]) w7 (.slice p54 l54 c54) w8 ∧
          (w8 = w7 ∨ S10 w8) ∧
          callF Try.prog 124 #[.slice p54 l54 c54] w8 fun r55 w9 =>
          ∃ (p55 : Option Addr) (l55 : Nat) (c55 : Nat), r55 = .slice p55 l55 c55 ∧
          ∃ (w10 : World), Sto Try.prog 105 (.pointer (some a4)) (.agg #[.int .i64 n43, .slice p49 l49 c49, .slice p55 l55 c55]) w9 w10 ∧
          codec_Back_j1 a4 0 w10 Q) ∧
        (∃ (p54_1 : Option Addr) (l54_1 : Nat) (c54_1 : Nat) (w11 : World), Ef Try.prog (Instr.buildSlice 68 1 #[(0, .slice p53 l53 c53)]) w6 (.slice p54_1 l54_1 c54_1) w11 ∧
          (w11 = w6 ∨ S10 w11) ∧
          callF Try.prog 124 #[.slice p48 l48 c48] w11 fun r49_1 w12 =>
          ∃ (p49_1 : Option Addr) (l49_1 : Nat) (c49_1 : Nat), r49_1 = .slice p49_1 l49_1 c49_1 ∧
          (w12 = w11 ∨ S10 w12) ∧
          callF Try.prog 124 #[.slice p54_1 l54_1 c54_1] w12 fun r55_1 w13 =>
          ∃ (p55_1 : Option Addr) (l55_1 : Nat) (c55_1 : Nat), r55_1 = .slice p55_1 l55_1 c55_1 ∧
          ∃ (w14 : World), Sto Try.prog 105 (.pointer (some a4)) (.agg #[.int .i64 n43, .slice p49_1 l49_1 c49_1, .slice p55_1 l55_1 c55_1]) w13 w14 ∧
          codec_Back_j1 a4 0 w14 Q)) ∧
      (∃ (p54_2 : Option Addr) (l54_2 : Nat) (c54_2 : Nat) (w15 : World), Ef Try.prog (Instr.buildSlice 68 1 #[(0, .slice p53 l53 c53)]) w5 (.slice p54_2 l54_2 c54_2) w15 ∧
        (w15 = w5 ∨ S10 w15) ∧
        ∃ (p48_1 : Option Addr) (l48_1 : Nat) (c48_1 : Nat) (w16 : World), Ef Try.prog (Instr.buildSlice 68 1 #[(0, .slice p47 l47 c47)]) w15 (.slice p48_1 l48_1 c48_1) w16 ∧
        (w16 = w15 ∨ S10 w16) ∧
        callF Try.prog 124 #[.slice p48_1 l48_1 c48_1] w16 fun r49_2 w17 =>
        ∃ (p49_2 : Option Addr) (l49_2 : Nat) (c49_2 : Nat), r49_2 = .slice p49_2 l49_2 c49_2 ∧
        (w17 = w16 ∨ S10 w17) ∧
        callF Try.prog 124 #[.slice p54_2 l54_2 c54_2] w17 fun r55_2 w18 =>
        ∃ (p55_2 : Option Addr) (l55_2 : Nat) (c55_2 : Nat), r55_2 = .slice p55_2 l55_2 c55_2 ∧
        ∃ (w19 : World), Sto Try.prog 105 (.pointer (some a4)) (.agg #[.int .i64 n43, .slice p49_2 l49_2 c49_2, .slice p55_2 l55_2 c55_2]) w18 w19 ∧
        codec_Back_j1 a4 0 w19 Q)) ∧
    (∃ (p48_2 : Option Addr) (l48_2 : Nat) (c48_2 : Nat) (w20 : World), Ef Try.prog (Instr.buildSlice 68 1 #[(0, .slice p47 l47 c47)]) w4 (.slice p48_2 l48_2 c48_2) w20 ∧
      (w20 = w4 ∨ S10 w20) ∧
      (callF Try.prog 92 #[.int .u8 n42] w20 fun r43_1 w21 =>
        ∃ (n43_1 : Int), r43_1 = .int .i64 n43_1 ∧
        (w21 = w20 ∨ S10 w21) ∧
        (callF Try.prog 124 #[.slice p48_2 l48_2 c48_2] w21 fun r49_3 w22 =>
          ∃ (p49_3 : Option Addr) (l49_3 : Nat) (c49_3 : Nat), r49_3 = .slice p49_3 l49_3 c49_3 ∧
          (w22 = w21 ∨ S10 w22) ∧
          ∃ (p54_3 : Option Addr) (l54_3 : Nat) (c54_3 : Nat) (w23 : World), Ef Try.prog (Instr.buildSlice 68 1 #[(0, .slice p53 l53 c53)]) w22 (.slice p54_3 l54_3 c54_3) w23 ∧
          (w23 = w22 ∨ S10 w23) ∧
          callF Try.prog 124 #[.slice p54_3 l54_3 c54_3] w23 fun r55_3 w24 =>
          ∃ (p55_3 : Option Addr) (l55_3 : Nat) (c55_3 : Nat), r55_3 = .slice p55_3 l55_3 c55_3 ∧
          ∃ (w25 : World), Sto Try.prog 105 (.pointer (some a4)) (.agg #[.int .i64 n43_1, .slice p49_3 l49_3 c49_3, .slice p55_3 l55_3 c55_3]) w24 w25 ∧
          codec_Back_j1 a4 0 w25 Q) ∧
        (∃ (p54_4 : Option Addr) (l54_4 : Nat) (c54_4 : Nat) (w26 : World), Ef Try.prog (Instr.buildSlice 68 1 #[(0, .slice p53 l53 c53)]) w21 (.slice p54_4 l54_4 c54_4) w26 ∧
          (w26 = w21 ∨ S10 w26) ∧
          callF Try.prog 124 #[.slice p48_2 l48_2 c48_2] w26 fun r49_4 w27 =>
          ∃ (p49_4 : Option Addr) (l49_4 : Nat) (c49_4 : Nat), r49_4 = .slice p49_4 l49_4 c49_4 ∧
          (w27 = w26 ∨ S10 w27) ∧
          callF Try.prog 124 #[.slice p54_4 l54_4 c54_4] w27 fun r55_4 w28 =>
          ∃ (p55_4 : Option Addr) (l55_4 : Nat) (c55_4 : Nat), r55_4 = .slice p55_4 l55_4 c55_4 ∧
          ∃ (w29 : World), Sto Try.prog 105 (.pointer (some a4)) (.agg #[.int .i64 n43_1, .slice p49_4 l49_4 c49_4, .slice p55_4 l55_4 c55_4]) w28 w29 ∧
          codec_Back_j1 a4 0 w29 Q)) ∧
      (∃ (p54_5 : Option Addr) (l54_5 : Nat) (c54_5 : Nat) (w30 : World), Ef Try.prog (Instr.buildSlice 68 1 #[(0, .slice p53 l53 c53)]) w20 (.slice p54_5 l54_5 c54_5) w30 ∧
        (w30 = w20 ∨ S10 w30) ∧
        callF Try.prog 92 #[.int .u8 n42] w30 fun r43_2 w31 =>
        ∃ (n43_2 : Int), r43_2 = .int .i64 n43_2 ∧
        (w31 = w30 ∨ S10 w31) ∧
        callF Try.prog 124 #[.slice p48_2 l48_2 c48_2] w31 fun r49_5 w32 =>
        ∃ (p49_5 : Option Addr) (l49_5 : Nat) (c49_5 : Nat), r49_5 = .slice p49_5 l49_5 c49_5 ∧
        (w32 = w31 ∨ S10 w32) ∧
        callF Try.prog 124 #[.slice p54_5 l54_5 c54_5] w32 fun r55_5 w33 =>
        ∃ (p55_5 : Option Addr) (l55_5 : Nat) (c55_5 : Nat), r55_5 = .slice p55_5 l55_5 c55_5 ∧
        ∃ (w34 : World), Sto Try.prog 105 (.pointer (some a4)) (.agg #[.int .i64 n43_2, .slice p49_5 l49_5 c49_5, .slice p55_5 l55_5 c55_5]) w33 w34 ∧
        codec_Back_j1 a4 0 w34 Q)) ∧
    (∃ (p54_6 : Option Addr) (l54_6 : Nat) (c54_6 : Nat) (w35 : World), Ef Try.prog (Instr.buildSlice 68 1 #[(0, .slice p53 l53 c53)]) w4 (.slice p54_6 l54_6 c54_6) w35 ∧
      (w35 = w4 ∨ S10 w35) ∧
      (callF Try.prog 92 #[.int .u8 n42] w35 fun r43_3 w36 =>
        ∃ (n43_3 : Int), r43_3 = .int .i64 n43_3 ∧
        (w36 = w35 ∨ S10 w36) ∧
        ∃ (p48_3 : Option Addr) (l48_3 : Nat) (c48_3 : Nat) (w37 : World), Ef Try.prog (Instr.buildSlice 68 1 #[(0, .slice p47 l47 c47)]) w36 (.slice p48_3 l48_3 c48_3) w37 ∧
        (w37 = w36 ∨ S10 w37) ∧
        callF Try.prog 124 #[.slice p48_3 l48_3 c48_3] w37 fun r49_6 w38 =>
        ∃ (p49_6 : Option Addr) (l49_6 : Nat) (c49_6 : Nat), r49_6 = .slice p49_6 l49_6 c49_6 ∧
        (w38 = w37 ∨ S10 w38) ∧
        callF Try.prog 124 #[.slice p54_6 l54_6 c54_6] w38 fun r55_6 w39 =>
        ∃ (p55_6 : Option Addr) (l55_6 : Nat) (c55_6 : Nat), r55_6 = .slice p55_6 l55_6 c55_6 ∧
        ∃ (w40 : World), Sto Try.prog 105 (.pointer (some a4)) (.agg #[.int .i64 n43_3, .slice p49_6 l49_6 c49_6, .slice p55_6 l55_6 c55_6]) w39 w40 ∧
        codec_Back_j1 a4 0 w40 Q) ∧
      (∃ (p48_4 : Option Addr) (l48_4 : Nat) (c48_4 : Nat) (w41 : World), Ef Try.prog (Instr.buildSlice 68 1 #[(0, .slice p47 l47 c47)]) w35 (.slice p48_4 l48_4 c48_4) w41 ∧
        (w41 = w35 ∨ S10 w41) ∧
        callF Try.prog 92 #[.int .u8 n42] w41 fun r43_4 w42 =>
        ∃ (n43_4 : Int), r43_4 = .int .i64 n43_4 ∧
        (w42 = w41 ∨ S10 w42) ∧
        callF Try.prog 124 #[.slice p48_4 l48_4 c48_4] w42 fun r49_7 w43 =>
        ∃ (p49_7 : Option Addr) (l49_7 : Nat) (c49_7 : Nat), r49_7 = .slice p49_7 l49_7 c49_7 ∧
        (w43 = w42 ∨ S10 w43) ∧
        callF Try.prog 124 #[.slice p54_6 l54_6 c54_6] w43 fun r55_7 w44 =>
        ∃ (p55_7 : Option Addr) (l55_7 : Nat) (c55_7 : Nat), r55_7 = .slice p55_7 l55_7 c55_7 ∧
        ∃ (w45 : World), Sto Try.prog 105 (.pointer (some a4)) (.agg #[.int .i64 n43_4, .slice p49_7 l49_7 c49_7, .slice p55_7 l55_7 c55_7]) w44 w45 ∧
        codec_Back_j1 a4 0 w45 Q)))
def codec_Back (cs0 : Array Value) (p1 : Option Addr) (l1 : Nat) (c1 : Nat) (w : World) (Q : Value → World → Prop) : Prop :=
  New cs0 102 w fun k2 w1 =>
  ∃ (z4 : Value), Pu Try.prog (zeroValue 105) z4 ∧
  New z4.cells 105 w1 fun k4 w2 =>
  ∃ (cs9 : Array Value), Ld Try.prog 102 (.pointer (some (⟨k2, 0, none⟩ : Addr))) w2 (.agg cs9) ∧
  callF Try.prog 88 #[.agg cs9] w2 fun r10 w3 =>
  ∃ (b10 : Bool), r10 = .bool b10 ∧
  cond (!b10)
  (∃ (w4 : World), Sto Try.prog 105 (.pointer (some (⟨k4, 0, none⟩ : Addr))) (.agg #[.int .i64 0, .slice none 0 0, .slice none 0 0]) w3 w4 ∧
    ∃ (a4 : Addr) (v4 : Value), (.pointer (some (⟨k4, 0, none⟩ : Addr)) : Value) = .pointer (some a4) ∧ (loadVar 105 a4).run Try.prog w4 = .ok v4 w4 ∧
    Q (.tuple #[v4, .int .i64 19]) w4)
  (∃ (cs16 : Array Value), Ld Try.prog 102 (.pointer (some (⟨k2, 0, none⟩ : Addr))) w3 (.agg cs16) ∧
    callF Try.prog 89 #[.agg cs16] w3 fun r17 w5 =>
    ∃ (n17 : Int), r17 = .int .i64 n17 ∧
    cond (((l1 : Nat) : Int) != n17)
    (∃ (w6 : World), Sto Try.prog 105 (.pointer (some (⟨k4, 0, none⟩ : Addr))) (.agg #[.int .i64 0, .slice none 0 0, .slice none 0 0]) w5 w6 ∧
      ∃ (a4_1 : Addr) (v4_1 : Value), (.pointer (some (⟨k4, 0, none⟩ : Addr)) : Value) = .pointer (some a4_1) ∧ (loadVar 105 a4_1).run Try.prog w6 = .ok v4_1 w6 ∧
      Q (.tuple #[v4_1, .int .i64 11]) w6)
    (∃ (a22 : Addr), IxA Try.prog 50 (.slice p1 l1 c1) (.int .i64 0) a22 ∧
      ∃ (n23 : Int), Ld Try.prog 5 (.pointer (some a22)) w5 (.int .u8 n23) ∧
      callF Try.prog 93 #[.int .u8 n23] w5 fun r24 w7 =>
      ∃ (n24 : Int), r24 = .int .i64 n24 ∧
      cond (n24 != ((l1 : Nat) : Int))
      (∃ (w8 : World), Sto Try.prog 105 (.pointer (some (⟨k4, 0, none⟩ : Addr))) (.agg #[.int .i64 0, .slice none 0 0, .slice none 0 0]) w7 w8 ∧
        ∃ (a4_2 : Addr) (v4_2 : Value), (.pointer (some (⟨k4, 0, none⟩ : Addr)) : Value) = .pointer (some a4_2) ∧ (loadVar 105 a4_2).run Try.prog w8 = .ok v4_2 w8 ∧
        Q (.tuple #[v4_2, .int .i64 10]) w8)
      (codec_Back_j2 p1 l1 c1 (⟨k2, 0, none⟩ : Addr) (⟨k4, 0, none⟩ : Addr) 0 w7 Q)))
def codec_Back_tt : Nat → List (Nat × TypeId) := fun _ => []
theorem codec_Back_call (cs0 : Array Value) (p1 : Option Addr) (l1 : Nat) (c1 : Nat) (w : World) (Q : Value → World → Prop) (h : codec_Back cs0 p1 l1 c1 w Q) : callF Try.prog 91 #[.agg cs0, .slice p1 l1 c1] w Q :=
  callF_of (fun _ _ => by kernel_rfl) (callK_of_sw codec_Back_tt Try.func91 rfl (by kernel_rfl) (show sw Try.prog none 57 codec_Back_tt _ 0 (endK Try.prog [.cell 4 105, .tmp 5] Q) ⟨regs [.agg cs0, .slice p1 l1 c1], []⟩ w from
    Eq.mp (by kernel_rfl : codec_Back cs0 p1 l1 c1 w Q = sw Try.prog none 57 codec_Back_tt (Try.f91.body.getD .skip) 0 (endK Try.prog [.cell 4 105, .tmp 5] Q) ⟨regs [.agg cs0, .slice p1 l1 c1], []⟩ w) h))

def codec_Point (n0 : Int) (w : World) (Q : Value → World → Prop) : Prop :=
  Q (.int .i64 (IntKind.i64.wrap (Int.fdiv n0 (2 ^ 6)))) w
def codec_Point_tt : Nat → List (Nat × TypeId) := fun _ => []
theorem codec_Point_call (n0 : Int) (w : World) (Q : Value → World → Prop) (h : codec_Point n0 w Q) : callF Try.prog 92 #[.int .u8 n0] w Q :=
  callF_of (fun _ _ => by kernel_rfl) (callK_of_sw codec_Point_tt Try.func92 rfl (by kernel_rfl) (show sw Try.prog none 6 codec_Point_tt _ 0 (endK Try.prog [.tmp 2] Q) ⟨regs [.int .u8 n0], []⟩ w from
    Eq.mp (by kernel_rfl : codec_Point n0 w Q = sw Try.prog none 6 codec_Point_tt (Try.f92.body.getD .skip) 0 (endK Try.prog [.tmp 2] Q) ⟨regs [.int .u8 n0], []⟩ w) h))

def codec_Told (n0 : Int) (w : World) (Q : Value → World → Prop) : Prop :=
  Q (.int .i64 (IntKind.i64.wrap ((IntKind.i64.wrap (iand .u8 n0 63)) + 1))) w
def codec_Told_tt : Nat → List (Nat × TypeId) := fun _ => []
theorem codec_Told_call (n0 : Int) (w : World) (Q : Value → World → Prop) (h : codec_Told n0 w Q) : callF Try.prog 93 #[.int .u8 n0] w Q :=
  callF_of (fun _ _ => by kernel_rfl) (callK_of_sw codec_Told_tt Try.func93 rfl (by kernel_rfl) (show sw Try.prog none 7 codec_Told_tt _ 0 (endK Try.prog [.tmp 2] Q) ⟨regs [.int .u8 n0], []⟩ w from
    Eq.mp (by kernel_rfl : codec_Told n0 w Q = sw Try.prog none 7 codec_Told_tt (Try.f93.body.getD .skip) 0 (endK Try.prog [.tmp 2] Q) ⟨regs [.int .u8 n0], []⟩ w) h))

def codec_Plain (n0 : Int) (p1 : Option Addr) (l1 : Nat) (c1 : Nat) (w : World) (Q : Value → World → Prop) : Prop :=
  cond (decide (n0 < 0))
  (Q (.tuple #[.slice none 0 0, .int .i64 11]) w)
  (cond (decide (n0 > 3))
    (Q (.tuple #[.slice none 0 0, .int .i64 11]) w)
    (cond (decide (((l1 : Nat) : Int) > 19))
      (Q (.tuple #[.slice none 0 0, .int .i64 11]) w)
      (callF Try.prog 136 #[.int .i64 n0, .slice p1 l1 c1] w fun r19 w1 =>
        ∃ (p19 : Option Addr) (l19 : Nat) (c19 : Nat), r19 = .slice p19 l19 c19 ∧
        Q (.tuple #[.slice p19 l19 c19, .int .i64 0]) w1)))
def codec_Plain_tt : Nat → List (Nat × TypeId) := fun _ => []
theorem codec_Plain_call (n0 : Int) (p1 : Option Addr) (l1 : Nat) (c1 : Nat) (w : World) (Q : Value → World → Prop) (h : codec_Plain n0 p1 l1 c1 w Q) : callF Try.prog 94 #[.int .i64 n0, .slice p1 l1 c1] w Q :=
  callF_of (fun _ _ => by kernel_rfl) (callK_of_sw codec_Plain_tt Try.func94 rfl (by kernel_rfl) (show sw Try.prog none 20 codec_Plain_tt _ 0 (endK Try.prog [.tmp 4, .tmp 5] Q) ⟨regs [.int .i64 n0, .slice p1 l1 c1], []⟩ w from
    Eq.mp (by kernel_rfl : codec_Plain n0 p1 l1 c1 w Q = sw Try.prog none 20 codec_Plain_tt (Try.f94.body.getD .skip) 0 (endK Try.prog [.tmp 4, .tmp 5] Q) ⟨regs [.int .i64 n0, .slice p1 l1 c1], []⟩ w) h))

def codec_id (n0 : Int) (p1 : Option Addr) (l1 : Nat) (c1 : Nat) (w : World) (Q : Value → World → Prop) : Prop :=
  ∃ (p11 : Option Addr) (l11 : Nat) (c11 : Nat) (w1 : World), Ef Try.prog (Instr.buildSlice 50 1 #[(0, .int .u8 (IntKind.u8.wrap (ior .i64 (IntKind.i64.wrap (n0 * 2 ^ 6)) ((l1 : Nat) : Int))))]) w (.slice p11 l11 c11) w1 ∧
  ∃ (p13 : Option Addr) (l13 : Nat) (c13 : Nat) (w2 : World), Ef Try.prog (Instr.buildSlice 68 2 #[(0, .slice p11 l11 c11), (1, .slice p1 l1 c1)]) w1 (.slice p13 l13 c13) w2 ∧
  callF Try.prog 124 #[.slice p13 l13 c13] w2 fun r14 w3 =>
  ∃ (p14 : Option Addr) (l14 : Nat) (c14 : Nat), r14 = .slice p14 l14 c14 ∧
  Q (.slice p14 l14 c14) w3
def codec_id_tt : Nat → List (Nat × TypeId) := fun _ => []
theorem codec_id_call (n0 : Int) (p1 : Option Addr) (l1 : Nat) (c1 : Nat) (w : World) (Q : Value → World → Prop) (h : codec_id n0 p1 l1 c1 w Q) : callF Try.prog 136 #[.int .i64 n0, .slice p1 l1 c1] w Q :=
  callF_of (fun _ _ => by kernel_rfl) (callK_of_sw codec_id_tt Try.func136 rfl (by kernel_rfl) (show sw Try.prog none 15 codec_id_tt _ 0 (endK Try.prog [.tmp 4] Q) ⟨regs [.int .i64 n0, .slice p1 l1 c1], []⟩ w from
    Eq.mp (by kernel_rfl : codec_id n0 p1 l1 c1 w Q = sw Try.prog none 15 codec_id_tt (Try.f136.body.getD .skip) 0 (endK Try.prog [.tmp 4] Q) ⟨regs [.int .i64 n0, .slice p1 l1 c1], []⟩ w) h))
end Go.Sh
end

section
namespace Go.Sh
open Go Go.Fw Go.Proofs
set_option maxRecDepth 100000
set_option linter.unusedVariables false

def law17_CodecBack_j1 (p4 : Option Addr) (l4 : Nat) (c4 : Nat) (a5 : Addr) (b10 : Bool) (w : World) (Q : Value → World → Prop) : Prop :=
  ∃ (cs142 : Array Value), Ld Try.prog 102 (.pointer (some a5)) w (.agg cs142) ∧
  callF Try.prog 91 #[.agg cs142, .slice p4 l4 c4] w fun r144 w1 =>
  ∃ (n144 : Int) (p144 : Option Addr) (l144 : Nat) (c144 : Nat) (p144_1 : Option Addr) (l144_1 : Nat) (c144_1 : Nat) (n144_1 : Int), r144 = .tuple #[.agg #[.int .i64 n144, .slice p144 l144 c144, .slice p144_1 l144_1 c144_1], .int .i64 n144_1] ∧
  ∃ (z15 : Value), Pu Try.prog (zeroValue 105) z15 ∧
  New z15.cells 105 w1 fun k15 w2 =>
  ∃ (w3 : World), Sto Try.prog 105 (.pointer (some (⟨k15, 0, none⟩ : Addr))) (.agg #[.int .i64 n144, .slice p144 l144 c144, .slice p144_1 l144_1 c144_1]) w2 w3 ∧
  ∃ (cs148 : Array Value), Ld Try.prog 102 (.pointer (some a5)) w3 (.agg cs148) ∧
  ∃ (n150 : Int), Ld Try.prog 3 (.pointer (some ((⟨k15, 0, none⟩ : Addr).add 0))) w3 (.int .i64 n150) ∧
  ∃ (p152 : Option Addr) (l152 : Nat) (c152 : Nat), Ld Try.prog 50 (.pointer (some ((⟨k15, 0, none⟩ : Addr).add 1))) w3 (.slice p152 l152 c152) ∧
  ∃ (p154 : Option Addr) (l154 : Nat) (c154 : Nat), Ld Try.prog 50 (.pointer (some ((⟨k15, 0, none⟩ : Addr).add 2))) w3 (.slice p154 l154 c154) ∧
  callF Try.prog 90 #[.agg cs148, .int .i64 n150, .slice p152 l152 c152, .slice p154 l154 c154] w3 fun r155 w4 =>
  ∃ (p155 : Option Addr) (l155 : Nat) (c155 : Nat) (n155 : Int), r155 = .tuple #[.slice p155 l155 c155, .int .i64 n155] ∧
  cond (n144_1 == 0)
  (cond (n155 == 0)
    (callF Try.prog 65 #[.slice p155 l155 c155, .slice p4 l4 c4] w4 fun r167 w5 =>
      ∃ (b167 : Bool), r167 = .bool b167 ∧
      Q (.bool b167) w5)
    (Q (.bool false) w4))
  (Q (.bool false) w4)
def law17_CodecBack_j2 (p4 : Option Addr) (l4 : Nat) (c4 : Nat) (a5 : Addr) (b10 : Bool) (w : World) (Q : Value → World → Prop) : Prop :=
  ∃ (cs117 : Array Value), Ld Try.prog 102 (.pointer (some a5)) w (.agg cs117) ∧
  callF Try.prog 89 #[.agg cs117] w fun r118 w1 =>
  ∃ (n118 : Int), r118 = .int .i64 n118 ∧
  cond (((l4 : Nat) : Int) != n118)
  (Q (.bool true) w1)
  (cond (((l4 : Nat) : Int) == 0)
    (Q (.bool true) w1)
    (∃ (a127 : Addr), IxA Try.prog 50 (.slice p4 l4 c4) (.int .i64 0) a127 ∧
      ∃ (n128 : Int), Ld Try.prog 5 (.pointer (some a127)) w1 (.int .u8 n128) ∧
      callF Try.prog 93 #[.int .u8 n128] w1 fun r129 w2 =>
      ∃ (n129 : Int), r129 = .int .i64 n129 ∧
      cond (n129 != ((l4 : Nat) : Int))
      (Q (.bool true) w2)
      (∃ (a136 : Addr), IxA Try.prog 50 (.slice p4 l4 c4) (.int .i64 0) a136 ∧
        ∃ (n137 : Int), Ld Try.prog 5 (.pointer (some a136)) w2 (.int .u8 n137) ∧
        callF Try.prog 92 #[.int .u8 n137] w2 fun r138 w3 =>
        ∃ (n138 : Int), r138 = .int .i64 n138 ∧
        cond (n138 == 3)
        (Q (.bool true) w3)
        (law17_CodecBack_j1 p4 l4 c4 a5 b10 w3 Q))))
def law17_CodecBack_j3 (n1 : Int) (p2 : Option Addr) (l2 : Nat) (c2 : Nat) (p3 : Option Addr) (l3 : Nat) (c3 : Nat) (p4 : Option Addr) (l4 : Nat) (c4 : Nat) (a5 : Addr) (b10 : Bool) (b46 : Bool) (w : World) (Q : Value → World → Prop) : Prop :=
  cond b46
  (∃ (cs48 : Array Value), Ld Try.prog 102 (.pointer (some a5)) w (.agg cs48) ∧
    callF Try.prog 90 #[.agg cs48, .int .i64 n1, .slice p2 l2 c2, .slice p3 l3 c3] w fun r52 w1 =>
    ∃ (p52 : Option Addr) (l52 : Nat) (c52 : Nat) (n52 : Int), r52 = .tuple #[.slice p52 l52 c52, .int .i64 n52] ∧
    ∃ (cs56 : Array Value), Ld Try.prog 102 (.pointer (some a5)) w1 (.agg cs56) ∧
    callF Try.prog 91 #[.agg cs56, .slice p52 l52 c52] w1 fun r58 w2 =>
    ∃ (n58 : Int) (p58 : Option Addr) (l58 : Nat) (c58 : Nat) (p58_1 : Option Addr) (l58_1 : Nat) (c58_1 : Nat) (n58_1 : Int), r58 = .tuple #[.agg #[.int .i64 n58, .slice p58 l58 c58, .slice p58_1 l58_1 c58_1], .int .i64 n58_1] ∧
    ∃ (z13 : Value), Pu Try.prog (zeroValue 105) z13 ∧
    New z13.cells 105 w2 fun k13 w3 =>
    ∃ (w4 : World), Sto Try.prog 105 (.pointer (some (⟨k13, 0, none⟩ : Addr))) (.agg #[.int .i64 n58, .slice p58 l58 c58, .slice p58_1 l58_1 c58_1]) w3 w4 ∧
    cond (n52 != 0)
    (Q (.bool false) w4)
    (cond (n58_1 != 0)
      (Q (.bool false) w4)
      (∃ (n71 : Int), Ld Try.prog 3 (.pointer (some (a5.add 1))) w4 (.int .i64 n71) ∧
        ∃ (n74 : Int), Ld Try.prog 3 (.pointer (some (a5.add 2))) w4 (.int .i64 n74) ∧
        cond (((l52 : Nat) : Int) != (IntKind.i64.wrap ((IntKind.i64.wrap (1 + n71)) + n74)))
        (Q (.bool false) w4)
        (∃ (a80 : Addr), IxA Try.prog 50 (.slice p52 l52 c52) (.int .i64 0) a80 ∧
          ∃ (n81 : Int), Ld Try.prog 5 (.pointer (some a80)) w4 (.int .u8 n81) ∧
          callF Try.prog 92 #[.int .u8 n81] w4 fun r82 w5 =>
          ∃ (n82 : Int), r82 = .int .i64 n82 ∧
          cond (n82 != n1)
          (Q (.bool false) w5)
          (∃ (a88 : Addr), IxA Try.prog 50 (.slice p52 l52 c52) (.int .i64 0) a88 ∧
            ∃ (n89 : Int), Ld Try.prog 5 (.pointer (some a88)) w5 (.int .u8 n89) ∧
            callF Try.prog 93 #[.int .u8 n89] w5 fun r90 w6 =>
            ∃ (n90 : Int), r90 = .int .i64 n90 ∧
            cond (n90 != ((l52 : Nat) : Int))
            (Q (.bool false) w6)
            (∃ (n97 : Int), Ld Try.prog 3 (.pointer (some ((⟨k13, 0, none⟩ : Addr).add 0))) w6 (.int .i64 n97) ∧
              cond (n97 != n1)
              (Q (.bool false) w6)
              (∃ (p103 : Option Addr) (l103 : Nat) (c103 : Nat), Ld Try.prog 50 (.pointer (some ((⟨k13, 0, none⟩ : Addr).add 1))) w6 (.slice p103 l103 c103) ∧
                callF Try.prog 65 #[.slice p103 l103 c103, .slice p2 l2 c2] w6 fun r105 w7 =>
                ∃ (b105 : Bool), r105 = .bool b105 ∧
                cond (!b105)
                (Q (.bool false) w7)
                (∃ (p110 : Option Addr) (l110 : Nat) (c110 : Nat), Ld Try.prog 50 (.pointer (some ((⟨k13, 0, none⟩ : Addr).add 2))) w7 (.slice p110 l110 c110) ∧
                  callF Try.prog 65 #[.slice p110 l110 c110, .slice p3 l3 c3] w7 fun r112 w8 =>
                  ∃ (b112 : Bool), r112 = .bool b112 ∧
                  cond (!b112)
                  (Q (.bool false) w8)
                  (law17_CodecBack_j2 p4 l4 c4 a5 b10 w8 Q)))))))))
  (law17_CodecBack_j2 p4 l4 c4 a5 b10 w Q)
def law17_CodecBack (cs0 : Array Value) (n1 : Int) (p2 : Option Addr) (l2 : Nat) (c2 : Nat) (p3 : Option Addr) (l3 : Nat) (c3 : Nat) (p4 : Option Addr) (l4 : Nat) (c4 : Nat) (w : World) (Q : Value → World → Prop) : Prop :=
  New cs0 102 w fun k5 w1 =>
  callF Try.prog 87 #[] w1 fun r19 w2 =>
  ∃ (b19 : Bool), r19 = .bool b19 ∧
  cond (!b19)
  (Q (.bool false) w2)
  (∃ (cs21 : Array Value), Ld Try.prog 102 (.pointer (some (⟨k5, 0, none⟩ : Addr))) w2 (.agg cs21) ∧
    callF Try.prog 88 #[.agg cs21] w2 fun r22 w3 =>
    ∃ (b22 : Bool), r22 = .bool b22 ∧
    cond (!b22)
    (∃ (cs24 : Array Value), Ld Try.prog 102 (.pointer (some (⟨k5, 0, none⟩ : Addr))) w3 (.agg cs24) ∧
      callF Try.prog 89 #[.agg cs24] w3 fun r25 w4 =>
      ∃ (n25 : Int), r25 = .int .i64 n25 ∧
      Q (.bool (n25 == 0)) w4)
    (∃ (n30 : Int), Ld Try.prog 3 (.pointer (some ((⟨k5, 0, none⟩ : Addr).add 1))) w3 (.int .i64 n30) ∧
      cond (((l2 : Nat) : Int) == n30)
      (∃ (n36 : Int), Ld Try.prog 3 (.pointer (some ((⟨k5, 0, none⟩ : Addr).add 2))) w3 (.int .i64 n36) ∧
        cond (((l3 : Nat) : Int) == n36)
        (cond (decide (n1 ≥ 0))
          (law17_CodecBack_j3 n1 p2 l2 c2 p3 l3 c3 p4 l4 c4 (⟨k5, 0, none⟩ : Addr) false (decide (n1 ≤ 2)) w3 Q)
          (law17_CodecBack_j3 n1 p2 l2 c2 p3 l3 c3 p4 l4 c4 (⟨k5, 0, none⟩ : Addr) false false w3 Q))
        (law17_CodecBack_j3 n1 p2 l2 c2 p3 l3 c3 p4 l4 c4 (⟨k5, 0, none⟩ : Addr) false false w3 Q))
      (law17_CodecBack_j3 n1 p2 l2 c2 p3 l3 c3 p4 l4 c4 (⟨k5, 0, none⟩ : Addr) false false w3 Q)))
def law17_CodecBack_tt : Nat → List (Nat × TypeId) := fun _ => []
theorem law17_CodecBack_call (cs0 : Array Value) (n1 : Int) (p2 : Option Addr) (l2 : Nat) (c2 : Nat) (p3 : Option Addr) (l3 : Nat) (c3 : Nat) (p4 : Option Addr) (l4 : Nat) (c4 : Nat) (w : World) (Q : Value → World → Prop) (h : law17_CodecBack cs0 n1 p2 l2 c2 p3 l3 c3 p4 l4 c4 w Q) : callF Try.prog 24 #[.agg cs0, .int .i64 n1, .slice p2 l2 c2, .slice p3 l3 c3, .slice p4 l4 c4] w Q :=
  callF_of (fun _ _ => by kernel_rfl) (callK_of_sw law17_CodecBack_tt Try.func24 rfl (by kernel_rfl) (show sw Try.prog none 169 law17_CodecBack_tt _ 0 (endK Try.prog [.tmp 10] Q) ⟨regs [.agg cs0, .int .i64 n1, .slice p2 l2 c2, .slice p3 l3 c3, .slice p4 l4 c4], []⟩ w from
    Eq.mp (by kernel_rfl : law17_CodecBack cs0 n1 p2 l2 c2 p3 l3 c3 p4 l4 c4 w Q = sw Try.prog none 169 law17_CodecBack_tt (Try.f24.body.getD .skip) 0 (endK Try.prog [.tmp 10] Q) ⟨regs [.agg cs0, .int .i64 n1, .slice p2 l2 c2, .slice p3 l3 c3, .slice p4 l4 c4], []⟩ w) h))

def law17_CodecApart_j1 (b14 : Bool) (p15 : Option Addr) (l15 : Nat) (c15 : Nat) (p17 : Option Addr) (l17 : Nat) (c17 : Nat) (b19 : Bool) (w : World) (Q : Value → World → Prop) : Prop :=
  callF Try.prog 65 #[.slice p15 l15 c15, .slice p17 l17 c17] w fun r67 w1 =>
  ∃ (b67 : Bool), r67 = .bool b67 ∧
  Q (.bool (b67 == b19)) w1
def law17_CodecApart_j2 (n1 : Int) (n2 : Int) (p3 : Option Addr) (l3 : Nat) (c3 : Nat) (p4 : Option Addr) (l4 : Nat) (c4 : Nat) (p5 : Option Addr) (l5 : Nat) (c5 : Nat) (p6 : Option Addr) (l6 : Nat) (c6 : Nat) (b14 : Bool) (p15 : Option Addr) (l15 : Nat) (c15 : Nat) (p17 : Option Addr) (l17 : Nat) (c17 : Nat) (w : World) (Q : Value → World → Prop) : Prop :=
  cond (n1 == n2)
  (callF Try.prog 65 #[.slice p3 l3 c3, .slice p5 l5 c5] w fun r58 w1 =>
    ∃ (b58 : Bool), r58 = .bool b58 ∧
    cond b58
    (callF Try.prog 65 #[.slice p4 l4 c4, .slice p6 l6 c6] w1 fun r63 w2 =>
      ∃ (b63 : Bool), r63 = .bool b63 ∧
      law17_CodecApart_j1 b14 p15 l15 c15 p17 l17 c17 b63 w2 Q)
    (law17_CodecApart_j1 b14 p15 l15 c15 p17 l17 c17 false w1 Q))
  (law17_CodecApart_j1 b14 p15 l15 c15 p17 l17 c17 false w Q)
def law17_CodecApart_j3 (n1 : Int) (n2 : Int) (p3 : Option Addr) (l3 : Nat) (c3 : Nat) (p4 : Option Addr) (l4 : Nat) (c4 : Nat) (p5 : Option Addr) (l5 : Nat) (c5 : Nat) (p6 : Option Addr) (l6 : Nat) (c6 : Nat) (b14 : Bool) (p15 : Option Addr) (l15 : Nat) (c15 : Nat) (p17 : Option Addr) (l17 : Nat) (c17 : Nat) (b43 : Bool) (w : World) (Q : Value → World → Prop) : Prop :=
  cond b43
  (cond (((l15 : Nat) : Int) == 0)
    (Q (.bool true) w)
    (Q (.bool (((l17 : Nat) : Int) == 0)) w))
  (law17_CodecApart_j2 n1 n2 p3 l3 c3 p4 l4 c4 p5 l5 c5 p6 l6 c6 b14 p15 l15 c15 p17 l17 c17 w Q)
def law17_CodecApart (cs0 : Array Value) (n1 : Int) (n2 : Int) (p3 : Option Addr) (l3 : Nat) (c3 : Nat) (p4 : Option Addr) (l4 : Nat) (c4 : Nat) (p5 : Option Addr) (l5 : Nat) (c5 : Nat) (p6 : Option Addr) (l6 : Nat) (c6 : Nat) (w : World) (Q : Value → World → Prop) : Prop :=
  New cs0 102 w fun k7 w1 =>
  callF Try.prog 87 #[] w1 fun r20 w2 =>
  ∃ (b20 : Bool), r20 = .bool b20 ∧
  cond (!b20)
  (Q (.bool false) w2)
  (∃ (cs23 : Array Value), Ld Try.prog 102 (.pointer (some (⟨k7, 0, none⟩ : Addr))) w2 (.agg cs23) ∧
    callF Try.prog 90 #[.agg cs23, .int .i64 n1, .slice p3 l3 c3, .slice p4 l4 c4] w2 fun r27 w3 =>
    ∃ (p27 : Option Addr) (l27 : Nat) (c27 : Nat) (n27 : Int), r27 = .tuple #[.slice p27 l27 c27, .int .i64 n27] ∧
    ∃ (cs31 : Array Value), Ld Try.prog 102 (.pointer (some (⟨k7, 0, none⟩ : Addr))) w3 (.agg cs31) ∧
    callF Try.prog 90 #[.agg cs31, .int .i64 n2, .slice p5 l5 c5, .slice p6 l6 c6] w3 fun r35 w4 =>
    ∃ (p35 : Option Addr) (l35 : Nat) (c35 : Nat) (n35 : Int), r35 = .tuple #[.slice p35 l35 c35, .int .i64 n35] ∧
    cond (n27 != 0)
    (law17_CodecApart_j3 n1 n2 p3 l3 c3 p4 l4 c4 p5 l5 c5 p6 l6 c6 false p27 l27 c27 p35 l35 c35 true w4 Q)
    (law17_CodecApart_j3 n1 n2 p3 l3 c3 p4 l4 c4 p5 l5 c5 p6 l6 c6 false p27 l27 c27 p35 l35 c35 (n35 != 0) w4 Q))
def law17_CodecApart_tt : Nat → List (Nat × TypeId) := fun _ => []
theorem law17_CodecApart_call (cs0 : Array Value) (n1 : Int) (n2 : Int) (p3 : Option Addr) (l3 : Nat) (c3 : Nat) (p4 : Option Addr) (l4 : Nat) (c4 : Nat) (p5 : Option Addr) (l5 : Nat) (c5 : Nat) (p6 : Option Addr) (l6 : Nat) (c6 : Nat) (w : World) (Q : Value → World → Prop) (h : law17_CodecApart cs0 n1 n2 p3 l3 c3 p4 l4 c4 p5 l5 c5 p6 l6 c6 w Q) : callF Try.prog 25 #[.agg cs0, .int .i64 n1, .int .i64 n2, .slice p3 l3 c3, .slice p4 l4 c4, .slice p5 l5 c5, .slice p6 l6 c6] w Q :=
  callF_of (fun _ _ => by kernel_rfl) (callK_of_sw law17_CodecApart_tt Try.func25 rfl (by kernel_rfl) (show sw Try.prog none 70 law17_CodecApart_tt _ 0 (endK Try.prog [.tmp 14] Q) ⟨regs [.agg cs0, .int .i64 n1, .int .i64 n2, .slice p3 l3 c3, .slice p4 l4 c4, .slice p5 l5 c5, .slice p6 l6 c6], []⟩ w from
    Eq.mp (by kernel_rfl : law17_CodecApart cs0 n1 n2 p3 l3 c3 p4 l4 c4 p5 l5 c5 p6 l6 c6 w Q = sw Try.prog none 70 law17_CodecApart_tt (Try.f25.body.getD .skip) 0 (endK Try.prog [.tmp 14] Q) ⟨regs [.agg cs0, .int .i64 n1, .int .i64 n2, .slice p3 l3 c3, .slice p4 l4 c4, .slice p5 l5 c5, .slice p6 l6 c6], []⟩ w) h))

def law17_CodecPlain_j1 (n0 : Int) (p1 : Option Addr) (l1 : Nat) (c1 : Nat) (a5 : Addr) (b6 : Bool) (a9 : Addr) (n10 : Int) (w : World) (Q : Value → World → Prop) : Prop :=
  ∃ (S13 : World → Prop),
  Drw w fun w1 =>
  cond (n10 == 0)
  (∃ (n96 : Int), Ld Try.prog 3 (.pointer (some (a9.add 0))) w1 (.int .i64 n96) ∧
    (w1 = w1 ∨ S13 w1) ∧
    cond (n96 == n0)
    (∃ (n102 : Int), Ld Try.prog 3 (.pointer (some (a5.add 0))) w1 (.int .i64 n102) ∧
      (w1 = w1 ∨ S13 w1) ∧
      cond (n102 != 0)
      (Q (.bool true) w1)
      (∃ (p106 : Option Addr) (l106 : Nat) (c106 : Nat), HLd Try.prog S13 50 (.pointer (some (a9.add 1))) w1 (.slice p106 l106 c106) ∧
        ∃ (n109 : Int), Ld Try.prog 3 (.pointer (some (a5.add 1))) w1 (.int .i64 n109) ∧
        (w1 = w1 ∨ S13 w1) ∧
        ∃ (p110 : Option Addr) (l110 : Nat) (c110 : Nat), Pu Try.prog (Instr.sliceAt 50 (.slice p1 l1 c1) none (some (.int .i64 n109)) none) (.slice p110 l110 c110) ∧
        callF Try.prog 65 #[.slice p106 l106 c106, .slice p110 l110 c110] w1 fun r111 w2 =>
        ∃ (b111 : Bool), r111 = .bool b111 ∧
        (w2 = w1 ∨ S13 w2) ∧
        cond b111
        (∃ (p114 : Option Addr) (l114 : Nat) (c114 : Nat), HLd Try.prog S13 50 (.pointer (some (a9.add 2))) w2 (.slice p114 l114 c114) ∧
          ∃ (n117 : Int), Ld Try.prog 3 (.pointer (some (a5.add 1))) w2 (.int .i64 n117) ∧
          (w2 = w2 ∨ S13 w2) ∧
          ∃ (p118 : Option Addr) (l118 : Nat) (c118 : Nat), Pu Try.prog (Instr.sliceAt 50 (.slice p1 l1 c1) (some (.int .i64 n117)) none none) (.slice p118 l118 c118) ∧
          callF Try.prog 65 #[.slice p114 l114 c114, .slice p118 l118 c118] w2 fun r119 w3 =>
          ∃ (b119 : Bool), r119 = .bool b119 ∧
          Q (.bool b119) w3)
        (Q (.bool false) w2)))
    (Q (.bool false) w1))
  (Q (.bool false) w1)
def law17_CodecPlain_j2 (n0 : Int) (p1 : Option Addr) (l1 : Nat) (c1 : Nat) (a5 : Addr) (b6 : Bool) (a9 : Addr) (n10 : Int) (b89 : Bool) (w : World) (Q : Value → World → Prop) : Prop :=
  cond b89
  (Q (.bool (n10 != 0)) w)
  (law17_CodecPlain_j1 n0 p1 l1 c1 a5 b6 a9 n10 w Q)
def law17_CodecPlain_j3 (n0 : Int) (p1 : Option Addr) (l1 : Nat) (c1 : Nat) (a5 : Addr) (b6 : Bool) (p7 : Option Addr) (l7 : Nat) (c7 : Nat) (w : World) (Q : Value → World → Prop) : Prop :=
  ∃ (cs75 : Array Value), Ld Try.prog 102 (.pointer (some a5)) w (.agg cs75) ∧
  callF Try.prog 91 #[.agg cs75, .slice p7 l7 c7] w fun r77 w1 =>
  ∃ (n77 : Int) (p77 : Option Addr) (l77 : Nat) (c77 : Nat) (p77_1 : Option Addr) (l77_1 : Nat) (c77_1 : Nat) (n77_1 : Int), r77 = .tuple #[.agg #[.int .i64 n77, .slice p77 l77 c77, .slice p77_1 l77_1 c77_1], .int .i64 n77_1] ∧
  ∃ (z9 : Value), Pu Try.prog (zeroValue 105) z9 ∧
  New z9.cells 105 w1 fun k9 w2 =>
  ∃ (w3 : World), Sto Try.prog 105 (.pointer (some (⟨k9, 0, none⟩ : Addr))) (.agg #[.int .i64 n77, .slice p77 l77 c77, .slice p77_1 l77_1 c77_1]) w2 w3 ∧
  ∃ (cs80 : Array Value), Ld Try.prog 102 (.pointer (some a5)) w3 (.agg cs80) ∧
  callF Try.prog 88 #[.agg cs80] w3 fun r81 w4 =>
  ∃ (b81 : Bool), r81 = .bool b81 ∧
  cond (!b81)
  (law17_CodecPlain_j2 n0 p1 l1 c1 a5 b6 (⟨k9, 0, none⟩ : Addr) n77_1 true w4 Q)
  (∃ (cs86 : Array Value), Ld Try.prog 102 (.pointer (some a5)) w4 (.agg cs86) ∧
    callF Try.prog 89 #[.agg cs86] w4 fun r87 w5 =>
    ∃ (n87 : Int), r87 = .int .i64 n87 ∧
    law17_CodecPlain_j2 n0 p1 l1 c1 a5 b6 (⟨k9, 0, none⟩ : Addr) n77_1 (((l7 : Nat) : Int) != n87) w5 Q)
def law17_CodecPlain_j4 (n0 : Int) (p1 : Option Addr) (l1 : Nat) (c1 : Nat) (a5 : Addr) (b6 : Bool) (p7 : Option Addr) (l7 : Nat) (c7 : Nat) (n8 : Int) (w : World) (Q : Value → World → Prop) : Prop :=
  cond (n8 != 0)
  (Q (.bool false) w)
  (cond (((l7 : Nat) : Int) != (IntKind.i64.wrap (((l1 : Nat) : Int) + 1)))
    (Q (.bool false) w)
    (∃ (a52 : Addr), IxA Try.prog 50 (.slice p7 l7 c7) (.int .i64 0) a52 ∧
      ∃ (n53 : Int), Ld Try.prog 5 (.pointer (some a52)) w (.int .u8 n53) ∧
      callF Try.prog 92 #[.int .u8 n53] w fun r54 w1 =>
      ∃ (n54 : Int), r54 = .int .i64 n54 ∧
      cond (n54 != n0)
      (Q (.bool false) w1)
      (∃ (a60 : Addr), IxA Try.prog 50 (.slice p7 l7 c7) (.int .i64 0) a60 ∧
        ∃ (n61 : Int), Ld Try.prog 5 (.pointer (some a60)) w1 (.int .u8 n61) ∧
        callF Try.prog 93 #[.int .u8 n61] w1 fun r62 w2 =>
        ∃ (n62 : Int), r62 = .int .i64 n62 ∧
        cond (n62 != ((l7 : Nat) : Int))
        (Q (.bool false) w2)
        (∃ (p69 : Option Addr) (l69 : Nat) (c69 : Nat), Pu Try.prog (Instr.sliceAt 50 (.slice p7 l7 c7) (some (.int .i64 1)) none none) (.slice p69 l69 c69) ∧
          callF Try.prog 65 #[.slice p69 l69 c69, .slice p1 l1 c1] w2 fun r71 w3 =>
          ∃ (b71 : Bool), r71 = .bool b71 ∧
          cond (!b71)
          (Q (.bool false) w3)
          (law17_CodecPlain_j3 n0 p1 l1 c1 a5 b6 p7 l7 c7 w3 Q)))))
def law17_CodecPlain_j5 (n0 : Int) (p1 : Option Addr) (l1 : Nat) (c1 : Nat) (a5 : Addr) (b6 : Bool) (p7 : Option Addr) (l7 : Nat) (c7 : Nat) (n8 : Int) (b32 : Bool) (w : World) (Q : Value → World → Prop) : Prop :=
  cond b32
  (cond (n8 == 11)
    (Q (.bool (((l7 : Nat) : Int) == 0)) w)
    (Q (.bool false) w))
  (law17_CodecPlain_j4 n0 p1 l1 c1 a5 b6 p7 l7 c7 n8 w Q)
def law17_CodecPlain (n0 : Int) (p1 : Option Addr) (l1 : Nat) (c1 : Nat) (cs2 : Array Value) (w : World) (Q : Value → World → Prop) : Prop :=
  New cs2 102 w fun k5 w1 =>
  callF Try.prog 87 #[] w1 fun r11 w2 =>
  ∃ (b11 : Bool), r11 = .bool b11 ∧
  cond (!b11)
  (Q (.bool false) w2)
  (cond (decide (((l1 : Nat) : Int) > 100))
    (Q (.bool true) w2)
    (callF Try.prog 94 #[.int .i64 n0, .slice p1 l1 c1] w2 fun r19 w3 =>
      ∃ (p19 : Option Addr) (l19 : Nat) (c19 : Nat) (n19 : Int), r19 = .tuple #[.slice p19 l19 c19, .int .i64 n19] ∧
      cond (decide (n0 < 0))
      (law17_CodecPlain_j5 n0 p1 l1 c1 (⟨k5, 0, none⟩ : Addr) false p19 l19 c19 n19 true w3 Q)
      (cond (decide (n0 > 3))
        (law17_CodecPlain_j5 n0 p1 l1 c1 (⟨k5, 0, none⟩ : Addr) false p19 l19 c19 n19 true w3 Q)
        (law17_CodecPlain_j5 n0 p1 l1 c1 (⟨k5, 0, none⟩ : Addr) false p19 l19 c19 n19 (decide (((l1 : Nat) : Int) > 19)) w3 Q))))
def law17_CodecPlain_tt : Nat → List (Nat × TypeId) := fun _ => []
theorem law17_CodecPlain_call (n0 : Int) (p1 : Option Addr) (l1 : Nat) (c1 : Nat) (cs2 : Array Value) (w : World) (Q : Value → World → Prop) (h : law17_CodecPlain n0 p1 l1 c1 cs2 w Q) : callF Try.prog 26 #[.int .i64 n0, .slice p1 l1 c1, .agg cs2] w Q :=
  callF_of (fun _ _ => by kernel_rfl) (callK_of_sw law17_CodecPlain_tt Try.func26 rfl (by kernel_rfl) (show sw Try.prog none 123 law17_CodecPlain_tt _ 0 (endK Try.prog [.tmp 6] Q) ⟨regs [.int .i64 n0, .slice p1 l1 c1, .agg cs2], []⟩ w from
    Eq.mp (by kernel_rfl : law17_CodecPlain n0 p1 l1 c1 cs2 w Q = sw Try.prog none 123 law17_CodecPlain_tt (Try.f26.body.getD .skip) 0 (endK Try.prog [.tmp 6] Q) ⟨regs [.int .i64 n0, .slice p1 l1 c1, .agg cs2], []⟩ w) h))

def law17_alive  (w : World) (Q : Value → World → Prop) : Prop :=
  ∃ (z1 : Value), Pu Try.prog (zeroValue 102) z1 ∧
  New z1.cells 102 w fun k1 w1 =>
  ∃ (w2 : World), Sto Try.prog 102 (.pointer (some (⟨k1, 0, none⟩ : Addr))) (.agg #[.int .i64 0, .int .i64 3, .int .i64 4, .int .u8 0, .int .u8 0, .int .u8 0, .int .u8 0, .int .u8 0, .int .u8 0, .int .u8 0, .int .u8 0, .int .u8 0, .int .u8 0, .int .u8 0, .int .u8 0, .int .u8 0, .int .u8 0, .int .u8 0, .int .u8 0]) w1 w2 ∧
  ∃ (p17 : Option Addr) (l17 : Nat) (c17 : Nat) (w3 : World), Ef Try.prog (Instr.buildSlice 50 3 #[(0, .int .u8 1), (1, .int .u8 2), (2, .int .u8 3)]) w2 (.slice p17 l17 c17) w3 ∧
  ∃ (p18 : Option Addr) (l18 : Nat) (c18 : Nat) (w4 : World), Ef Try.prog (Instr.buildSlice 50 4 #[(0, .int .u8 4), (1, .int .u8 5), (2, .int .u8 6), (3, .int .u8 7)]) w3 (.slice p18 l18 c18) w4 ∧
  ∃ (cs20 : Array Value), Ld Try.prog 102 (.pointer (some (⟨k1, 0, none⟩ : Addr))) w4 (.agg cs20) ∧
  callF Try.prog 90 #[.agg cs20, .int .i64 1, .slice p17 l17 c17, .slice p18 l18 c18] w4 fun r23 w5 =>
  ∃ (p23 : Option Addr) (l23 : Nat) (c23 : Nat) (n23 : Int), r23 = .tuple #[.slice p23 l23 c23, .int .i64 n23] ∧
  ∃ (cs27 : Array Value), Ld Try.prog 102 (.pointer (some (⟨k1, 0, none⟩ : Addr))) w5 (.agg cs27) ∧
  callF Try.prog 91 #[.agg cs27, .slice p23 l23 c23] w5 fun r29 w6 =>
  ∃ (n29 : Int) (p29 : Option Addr) (l29 : Nat) (c29 : Nat) (p29_1 : Option Addr) (l29_1 : Nat) (c29_1 : Nat) (n29_1 : Int), r29 = .tuple #[.agg #[.int .i64 n29, .slice p29 l29 c29, .slice p29_1 l29_1 c29_1], .int .i64 n29_1] ∧
  ∃ (z6 : Value), Pu Try.prog (zeroValue 105) z6 ∧
  New z6.cells 105 w6 fun k6 w7 =>
  ∃ (w8 : World), Sto Try.prog 105 (.pointer (some (⟨k6, 0, none⟩ : Addr))) (.agg #[.int .i64 n29, .slice p29 l29 c29, .slice p29_1 l29_1 c29_1]) w7 w8 ∧
  ∃ (cs33 : Array Value), Ld Try.prog 102 (.pointer (some (⟨k1, 0, none⟩ : Addr))) w8 (.agg cs33) ∧
  ∃ (p34 : Option Addr) (l34 : Nat) (c34 : Nat) (w9 : World), Ef Try.prog (Instr.buildSlice 50 8 #[(0, .int .u8 70), (1, .int .u8 1), (2, .int .u8 2), (3, .int .u8 3), (4, .int .u8 4), (5, .int .u8 5), (6, .int .u8 6), (7, .int .u8 7)]) w8 (.slice p34 l34 c34) w9 ∧
  callF Try.prog 91 #[.agg cs33, .slice p34 l34 c34] w9 fun r35 w10 =>
  ∃ (n35 : Int) (p35 : Option Addr) (l35 : Nat) (c35 : Nat) (p35_1 : Option Addr) (l35_1 : Nat) (c35_1 : Nat) (n35_1 : Int), r35 = .tuple #[.agg #[.int .i64 n35, .slice p35 l35 c35, .slice p35_1 l35_1 c35_1], .int .i64 n35_1] ∧
  ∃ (z8 : Value), Pu Try.prog (zeroValue 105) z8 ∧
  New z8.cells 105 w10 fun k8 w11 =>
  ∃ (w12 : World), Sto Try.prog 105 (.pointer (some (⟨k8, 0, none⟩ : Addr))) (.agg #[.int .i64 n35, .slice p35 l35 c35, .slice p35_1 l35_1 c35_1]) w11 w12 ∧
  ∃ (cs39 : Array Value), Ld Try.prog 102 (.pointer (some (⟨k1, 0, none⟩ : Addr))) w12 (.agg cs39) ∧
  callF Try.prog 90 #[.agg cs39, .int .i64 3, .slice p17 l17 c17, .slice p18 l18 c18] w12 fun r42 w13 =>
  ∃ (p42 : Option Addr) (l42 : Nat) (c42 : Nat) (n42 : Int), r42 = .tuple #[.slice p42 l42 c42, .int .i64 n42] ∧
  callF Try.prog 91 #[.agg #[.int .i64 0, .int .i64 0, .int .i64 0, .int .u8 0, .int .u8 0, .int .u8 0, .int .u8 0, .int .u8 0, .int .u8 0, .int .u8 0, .int .u8 0, .int .u8 0, .int .u8 0, .int .u8 0, .int .u8 0, .int .u8 0, .int .u8 0, .int .u8 0, .int .u8 0], .slice p23 l23 c23] w13 fun r48 w14 =>
  ∃ (n48 : Int) (p48 : Option Addr) (l48 : Nat) (c48 : Nat) (p48_1 : Option Addr) (l48_1 : Nat) (c48_1 : Nat) (n48_1 : Int), r48 = .tuple #[.agg #[.int .i64 n48, .slice p48 l48 c48, .slice p48_1 l48_1 c48_1], .int .i64 n48_1] ∧
  ∃ (z12 : Value), Pu Try.prog (zeroValue 105) z12 ∧
  New z12.cells 105 w14 fun k12 w15 =>
  ∃ (w16 : World), Sto Try.prog 105 (.pointer (some (⟨k12, 0, none⟩ : Addr))) (.agg #[.int .i64 n48, .slice p48 l48 c48, .slice p48_1 l48_1 c48_1]) w15 w16 ∧
  callF Try.prog 94 #[.int .i64 3, .slice p18 l18 c18] w16 fun r53 w17 =>
  ∃ (p53 : Option Addr) (l53 : Nat) (c53 : Nat) (n53 : Int), r53 = .tuple #[.slice p53 l53 c53, .int .i64 n53] ∧
  cond (n23 == 0)
  (cond (n29_1 == 0)
    (cond (n35_1 == 10)
      (cond (n42 == 11)
        (cond (n48_1 == 19)
          (cond (n53 == 0)
            (∃ (p80 : Option Addr) (l80 : Nat) (c80 : Nat) (w18 : World), Ef Try.prog (Instr.buildSlice 50 8 #[(0, .int .u8 71), (1, .int .u8 1), (2, .int .u8 2), (3, .int .u8 3), (4, .int .u8 4), (5, .int .u8 5), (6, .int .u8 6), (7, .int .u8 7)]) w17 (.slice p80 l80 c80) w18 ∧
              callF Try.prog 65 #[.slice p23 l23 c23, .slice p80 l80 c80] w18 fun r81 w19 =>
              ∃ (b81 : Bool), r81 = .bool b81 ∧
              cond b81
              (∃ (n85 : Int), Ld Try.prog 3 (.pointer (some ((⟨k6, 0, none⟩ : Addr).add 0))) w19 (.int .i64 n85) ∧
                cond (n85 == 1)
                (∃ (p90 : Option Addr) (l90 : Nat) (c90 : Nat), Ld Try.prog 50 (.pointer (some ((⟨k6, 0, none⟩ : Addr).add 1))) w19 (.slice p90 l90 c90) ∧
                  callF Try.prog 65 #[.slice p90 l90 c90, .slice p17 l17 c17] w19 fun r92 w20 =>
                  ∃ (b92 : Bool), r92 = .bool b92 ∧
                  cond b92
                  (∃ (p96 : Option Addr) (l96 : Nat) (c96 : Nat), Ld Try.prog 50 (.pointer (some ((⟨k6, 0, none⟩ : Addr).add 2))) w20 (.slice p96 l96 c96) ∧
                    callF Try.prog 65 #[.slice p96 l96 c96, .slice p18 l18 c18] w20 fun r98 w21 =>
                    ∃ (b98 : Bool), r98 = .bool b98 ∧
                    cond b98
                    (∃ (p102 : Option Addr) (l102 : Nat) (c102 : Nat) (w22 : World), Ef Try.prog (Instr.buildSlice 50 5 #[(0, .int .u8 196), (1, .int .u8 4), (2, .int .u8 5), (3, .int .u8 6), (4, .int .u8 7)]) w21 (.slice p102 l102 c102) w22 ∧
                      callF Try.prog 65 #[.slice p53 l53 c53, .slice p102 l102 c102] w22 fun r103 w23 =>
                      ∃ (b103 : Bool), r103 = .bool b103 ∧
                      cond b103
                      (callF Try.prog 92 #[.int .u8 128] w23 fun r106 w24 =>
                        ∃ (n106 : Int), r106 = .int .i64 n106 ∧
                        cond (n106 == 2)
                        (callF Try.prog 93 #[.int .u8 71] w24 fun r110 w25 =>
                          ∃ (n110 : Int), r110 = .int .i64 n110 ∧
                          Q (.bool (n110 == 8)) w25)
                        (Q (.bool false) w24))
                      (Q (.bool false) w23))
                    (Q (.bool false) w21))
                  (Q (.bool false) w20))
                (Q (.bool false) w19))
              (Q (.bool false) w19))
            (Q (.bool false) w17))
          (Q (.bool false) w17))
        (Q (.bool false) w17))
      (Q (.bool false) w17))
    (Q (.bool false) w17))
  (Q (.bool false) w17)
def law17_alive_tt : Nat → List (Nat × TypeId) := fun _ => []
theorem law17_alive_call  (w : World) (Q : Value → World → Prop) (h : law17_alive  w Q) : callF Try.prog 87 #[] w Q :=
  callF_of (fun _ _ => by kernel_rfl) (callK_of_sw law17_alive_tt Try.func87 rfl (by kernel_rfl) (show sw Try.prog none 113 law17_alive_tt _ 0 (endK Try.prog [.tmp 0] Q) ⟨regs [], []⟩ w from
    Eq.mp (by kernel_rfl : law17_alive  w Q = sw Try.prog none 113 law17_alive_tt (Try.f87.body.getD .skip) 0 (endK Try.prog [.tmp 0] Q) ⟨regs [], []⟩ w) h))
end Go.Sh
end
