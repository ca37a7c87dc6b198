/- A part of a proof of a given law of this program: lemmas, printed forms of its functions, contracts. It has no conditions of its own. -/
import Derived.Test.YtcfealonnakdcaaGreatProg
import Derived.Shelf.SlMaps.Clone
import Derived.WalkKit
import Derived.Test.YtcfealonnakdcaaGreatMW0
import Derived.Test.YtcfealonnakdcaaGreatMW1
import Derived.Test.YtcfealonnakdcaaGreatMS0

section
namespace Go.Sh
open Go Go.Fw Go.Proofs
set_option maxRecDepth 100000
set_option linter.unusedVariables false
def codec_Back_j1 (a4 : Addr) (n5 : Int) (w : World) (Q : Value → World → Prop) : Prop :=
  ∃ a4_1 v4, (.pointer (some a4) : Value) = .pointer (some a4_1) ∧ (loadVar 55 a4_1).run Tryz.prog w = .ok v4 w ∧
  Q (.tuple #[v4, .int .i64 n5]) w
def codec_Back_j2 (p1 : Option Addr) (l1 : Nat) (c1 : Nat) (a2 : Addr) (a4 : Addr) (n5 : Int) (w : World) (Q : Value → World → Prop) : Prop :=
  Drw w fun w1 =>
  ∃ p32 l32 c32, Pu Tryz.prog (Instr.sliceAt 25 (.slice p1 l1 c1) (some (.int .i64 1)) none none) (.slice p32 l32 c32) ∧
  ∃ (cs30 : Array Value), Ld Tryz.prog 24 (.pointer (some a2)) w1 (.agg cs30) ∧
  callF Tryz.prog 111 #[.agg cs30, .slice p32 l32 c32] w1 fun r33 w2 =>
  ∃ p33 l33 c33 n33, r33 = .tuple #[.slice p33 l33 c33, .int .i64 n33] ∧
  cond (n33 != 0)
  (∃ w3, Sto Tryz.prog 55 (.pointer (some a4)) (.agg #[.int .i64 0, .slice none 0 0, .slice none 0 0]) w2 w3 ∧
    ∃ a4_1 v4, (.pointer (some a4) : Value) = .pointer (some a4_1) ∧ (loadVar 55 a4_1).run Tryz.prog w3 = .ok v4 w3 ∧
    Q (.tuple #[v4, .int .i64 n33]) w3)
  (∃ (S10 : World → Prop),
    Drw w2 fun w4 =>
    ∃ a41, IxA Tryz.prog 25 (.slice p1 l1 c1) (.int .i64 0) a41 ∧
    ∃ n42, HLd Tryz.prog S10 5 (.pointer (some a41)) w4 (.int .u8 n42) ∧
    ∃ n46, HLd Tryz.prog S10 3 (.pointer (some (a2.add 1))) w4 (.int .i64 n46) ∧
    ∃ p47 l47 c47, Pu Tryz.prog (Instr.sliceAt 25 (.slice p33 l33 c33) none (some (.int .i64 n46)) none) (.slice p47 l47 c47) ∧
    ∃ n52, HLd Tryz.prog S10 3 (.pointer (some (a2.add 1))) w4 (.int .i64 n52) ∧
    ∃ p53 l53 c53, Pu Tryz.prog (Instr.sliceAt 25 (.slice p33 l33 c33) (some (.int .i64 n52)) none none) (.slice p53 l53 c53) ∧
    (callF Tryz.prog 42 #[.int .u8 n42] w4 fun r43 w5 =>
      ∃ n43, r43 = .int .i64 n43 ∧
      (w5 = w4 ∨ S10 w5) ∧
      (∃ p48 l48 c48 w6, Ef Tryz.prog (Instr.buildSlice 45 1 #[(0, .slice p47 l47 c47)]) w5 (.slice p48 l48 c48) w6 ∧
        (w6 = w5 ∨ S10 w6) ∧
        (callF Tryz.prog 112 #[.slice p48 l48 c48] w6 fun r49 w7 =>
          ∃ p49 l49 c49, r49 = .slice p49 l49 c49 ∧
          (w7 = w6 ∨ S10 w7) ∧
          ∃ p54 l54 c54 w8, Ef Tryz.prog (Instr.buildSlice 45 1 #[(0, .slice p53 l53 c53)]) w7 (.slice p54 l54 c54) w8 ∧
          (w8 = w7 ∨ S10 w8) ∧
          callF Tryz.prog 112 #[.slice p54 l54 c54] w8 fun r55 w9 =>
          ∃ p55 l55 c55, r55 = .slice p55 l55 c55 ∧
          ∃ w10, Sto Tryz.prog 55 (.pointer (some a4)) (.agg #[.int .i64 n43, .slice p49 l49 c49, .slice p55 l55 c55]) w9 w10 ∧
          codec_Back_j1 a4 0 w10 Q) ∧
        (∃ p54_1 l54_1 c54_1 w11, Ef Tryz.prog (Instr.buildSlice 45 1 #[(0, .slice p53 l53 c53)]) w6 (.slice p54_1 l54_1 c54_1) w11 ∧
          (w11 = w6 ∨ S10 w11) ∧
          callF Tryz.prog 112 #[.slice p48 l48 c48] w11 fun r49_1 w12 =>
          ∃ p49_1 l49_1 c49_1, r49_1 = .slice p49_1 l49_1 c49_1 ∧
          (w12 = w11 ∨ S10 w12) ∧
          callF Tryz.prog 112 #[.slice p54_1 l54_1 c54_1] w12 fun r55_1 w13 =>
          ∃ p55_1 l55_1 c55_1, r55_1 = .slice p55_1 l55_1 c55_1 ∧
          ∃ w14, Sto Tryz.prog 55 (.pointer (some a4)) (.agg #[.int .i64 n43, .slice p49_1 l49_1 c49_1, .slice p55_1 l55_1 c55_1]) w13 w14 ∧
          codec_Back_j1 a4 0 w14 Q)) ∧
      (∃ p54_2 l54_2 c54_2 w15, Ef Tryz.prog (Instr.buildSlice 45 1 #[(0, .slice p53 l53 c53)]) w5 (.slice p54_2 l54_2 c54_2) w15 ∧
        (w15 = w5 ∨ S10 w15) ∧
        ∃ p48_1 l48_1 c48_1 w16, Ef Tryz.prog (Instr.buildSlice 45 1 #[(0, .slice p47 l47 c47)]) w15 (.slice p48_1 l48_1 c48_1) w16 ∧
        (w16 = w15 ∨ S10 w16) ∧
        callF Tryz.prog 112 #[.slice p48_1 l48_1 c48_1] w16 fun r49_2 w17 =>
        ∃ p49_2 l49_2 c49_2, r49_2 = .slice p49_2 l49_2 c49_2 ∧
        (w17 = w16 ∨ S10 w17) ∧
        callF Tryz.prog 112 #[.slice p54_2 l54_2 c54_2] w17 fun r55_2 w18 =>
        ∃ p55_2 l55_2 c55_2, r55_2 = .slice p55_2 l55_2 c55_2 ∧
        ∃ w19, Sto Tryz.prog 55 (.pointer (some a4)) (.agg #[.int .i64 n43, .slice p49_2 l49_2 c49_2, .slice p55_2 l55_2 c55_2]) w18 w19 ∧
        codec_Back_j1 a4 0 w19 Q)) ∧
    (∃ p48_2 l48_2 c48_2 w20, Ef Tryz.prog (Instr.buildSlice 45 1 #[(0, .slice p47 l47 c47)]) w4 (.slice p48_2 l48_2 c48_2) w20 ∧
      (w20 = w4 ∨ S10 w20) ∧
      (callF Tryz.prog 42 #[.int .u8 n42] w20 fun r43_1 w21 =>
        ∃ n43_1, r43_1 = .int .i64 n43_1 ∧
        (w21 = w20 ∨ S10 w21) ∧
        (callF Tryz.prog 112 #[.slice p48_2 l48_2 c48_2] w21 fun r49_3 w22 =>
          ∃ p49_3 l49_3 c49_3, r49_3 = .slice p49_3 l49_3 c49_3 ∧
          (w22 = w21 ∨ S10 w22) ∧
          ∃ p54_3 l54_3 c54_3 w23, Ef Tryz.prog (Instr.buildSlice 45 1 #[(0, .slice p53 l53 c53)]) w22 (.slice p54_3 l54_3 c54_3) w23 ∧
          (w23 = w22 ∨ S10 w23) ∧
          callF Tryz.prog 112 #[.slice p54_3 l54_3 c54_3] w23 fun r55_3 w24 =>
          ∃ p55_3 l55_3 c55_3, r55_3 = .slice p55_3 l55_3 c55_3 ∧
          ∃ w25, Sto Tryz.prog 55 (.pointer (some a4)) (.agg #[.int .i64 n43_1, .slice p49_3 l49_3 c49_3, .slice p55_3 l55_3 c55_3]) w24 w25 ∧
          codec_Back_j1 a4 0 w25 Q) ∧
        (∃ p54_4 l54_4 c54_4 w26, Ef Tryz.prog (Instr.buildSlice 45 1 #[(0, .slice p53 l53 c53)]) w21 (.slice p54_4 l54_4 c54_4) w26 ∧
          (w26 = w21 ∨ S10 w26) ∧
          callF Tryz.prog 112 #[.slice p48_2 l48_2 c48_2] w26 fun r49_4 w27 =>
          ∃ p49_4 l49_4 c49_4, r49_4 = .slice p49_4 l49_4 c49_4 ∧
          (w27 = w26 ∨ S10 w27) ∧
          callF Tryz.prog 112 #[.slice p54_4 l54_4 c54_4] w27 fun r55_4 w28 =>
          ∃ p55_4 l55_4 c55_4, r55_4 = .slice p55_4 l55_4 c55_4 ∧
          ∃ w29, Sto Tryz.prog 55 (.pointer (some a4)) (.agg #[.int .i64 n43_1, .slice p49_4 l49_4 c49_4, .slice p55_4 l55_4 c55_4]) w28 w29 ∧
          codec_Back_j1 a4 0 w29 Q)) ∧
      (∃ p54_5 l54_5 c54_5 w30, Ef Tryz.prog (Instr.buildSlice 45 1 #[(0, .slice p53 l53 c53)]) w20 (.slice p54_5 l54_5 c54_5) w30 ∧
        (w30 = w20 ∨ S10 w30) ∧
        callF Tryz.prog 42 #[.int .u8 n42] w30 fun r43_2 w31 =>
        ∃ n43_2, r43_2 = .int .i64 n43_2 ∧
        (w31 = w30 ∨ S10 w31) ∧
        callF Tryz.prog 112 #[.slice p48_2 l48_2 c48_2] w31 fun r49_5 w32 =>
        ∃ p49_5 l49_5 c49_5, r49_5 = .slice p49_5 l49_5 c49_5 ∧
        (w32 = w31 ∨ S10 w32) ∧
        callF Tryz.prog 112 #[.slice p54_5 l54_5 c54_5] w32 fun r55_5 w33 =>
        ∃ p55_5 l55_5 c55_5, r55_5 = .slice p55_5 l55_5 c55_5 ∧
        ∃ w34, Sto Tryz.prog 55 (.pointer (some a4)) (.agg #[.int .i64 n43_2, .slice p49_5 l49_5 c49_5, .slice p55_5 l55_5 c55_5]) w33 w34 ∧
        codec_Back_j1 a4 0 w34 Q)) ∧
    (∃ p54_6 l54_6 c54_6 w35, Ef Tryz.prog (Instr.buildSlice 45 1 #[(0, .slice p53 l53 c53)]) w4 (.slice p54_6 l54_6 c54_6) w35 ∧
      (w35 = w4 ∨ S10 w35) ∧
      (callF Tryz.prog 42 #[.int .u8 n42] w35 fun r43_3 w36 =>
        ∃ n43_3, r43_3 = .int .i64 n43_3 ∧
        (w36 = w35 ∨ S10 w36) ∧
        ∃ p48_3 l48_3 c48_3 w37, Ef Tryz.prog (Instr.buildSlice 45 1 #[(0, .slice p47 l47 c47)]) w36 (.slice p48_3 l48_3 c48_3) w37 ∧
        (w37 = w36 ∨ S10 w37) ∧
        callF Tryz.prog 112 #[.slice p48_3 l48_3 c48_3] w37 fun r49_6 w38 =>
        ∃ p49_6 l49_6 c49_6, r49_6 = .slice p49_6 l49_6 c49_6 ∧
        (w38 = w37 ∨ S10 w38) ∧
        callF Tryz.prog 112 #[.slice p54_6 l54_6 c54_6] w38 fun r55_6 w39 =>
        ∃ p55_6 l55_6 c55_6, r55_6 = .slice p55_6 l55_6 c55_6 ∧
        ∃ w40, Sto Tryz.prog 55 (.pointer (some a4)) (.agg #[.int .i64 n43_3, .slice p49_6 l49_6 c49_6, .slice p55_6 l55_6 c55_6]) w39 w40 ∧
        codec_Back_j1 a4 0 w40 Q) ∧
      (∃ p48_4 l48_4 c48_4 w41, Ef Tryz.prog (Instr.buildSlice 45 1 #[(0, .slice p47 l47 c47)]) w35 (.slice p48_4 l48_4 c48_4) w41 ∧
        (w41 = w35 ∨ S10 w41) ∧
        callF Tryz.prog 42 #[.int .u8 n42] w41 fun r43_4 w42 =>
        ∃ n43_4, r43_4 = .int .i64 n43_4 ∧
        (w42 = w41 ∨ S10 w42) ∧
        callF Tryz.prog 112 #[.slice p48_4 l48_4 c48_4] w42 fun r49_7 w43 =>
        ∃ p49_7 l49_7 c49_7, r49_7 = .slice p49_7 l49_7 c49_7 ∧
        (w43 = w42 ∨ S10 w43) ∧
        callF Tryz.prog 112 #[.slice p54_6 l54_6 c54_6] w43 fun r55_7 w44 =>
        ∃ p55_7 l55_7 c55_7, r55_7 = .slice p55_7 l55_7 c55_7 ∧
        ∃ w45, Sto Tryz.prog 55 (.pointer (some a4)) (.agg #[.int .i64 n43_4, .slice p49_7 l49_7 c49_7, .slice p55_7 l55_7 c55_7]) w44 w45 ∧
        codec_Back_j1 a4 0 w45 Q)))
def codec_Back (cs0 : Array Value) (p1 : Option Addr) (l1 : Nat) (c1 : Nat) (w : World) (Q : Value → World → Prop) : Prop :=
  New cs0 24 w fun k2 w1 =>
  ∃ z4, Pu Tryz.prog (zeroValue 55) z4 ∧
  New z4.cells 55 w1 fun k4 w2 =>
  ∃ (cs9 : Array Value), Ld Tryz.prog 24 (.pointer (some (⟨k2, 0, none⟩ : Addr))) w2 (.agg cs9) ∧
  callF Tryz.prog 101 #[.agg cs9] w2 fun r10 w3 =>
  ∃ b10, r10 = .bool b10 ∧
  cond (!b10)
  (∃ w4, Sto Tryz.prog 55 (.pointer (some (⟨k4, 0, none⟩ : Addr))) (.agg #[.int .i64 0, .slice none 0 0, .slice none 0 0]) w3 w4 ∧
    ∃ a4 v4, (.pointer (some (⟨k4, 0, none⟩ : Addr)) : Value) = .pointer (some a4) ∧ (loadVar 55 a4).run Tryz.prog w4 = .ok v4 w4 ∧
    Q (.tuple #[v4, .int .i64 19]) w4)
  (∃ (cs16 : Array Value), Ld Tryz.prog 24 (.pointer (some (⟨k2, 0, none⟩ : Addr))) w3 (.agg cs16) ∧
    callF Tryz.prog 41 #[.agg cs16] w3 fun r17 w5 =>
    ∃ n17, r17 = .int .i64 n17 ∧
    cond (((l1 : Nat) : Int) != n17)
    (∃ w6, Sto Tryz.prog 55 (.pointer (some (⟨k4, 0, none⟩ : Addr))) (.agg #[.int .i64 0, .slice none 0 0, .slice none 0 0]) w5 w6 ∧
      ∃ a4_1 v4_1, (.pointer (some (⟨k4, 0, none⟩ : Addr)) : Value) = .pointer (some a4_1) ∧ (loadVar 55 a4_1).run Tryz.prog w6 = .ok v4_1 w6 ∧
      Q (.tuple #[v4_1, .int .i64 11]) w6)
    (∃ a22, IxA Tryz.prog 25 (.slice p1 l1 c1) (.int .i64 0) a22 ∧
      ∃ n23, Ld Tryz.prog 5 (.pointer (some a22)) w5 (.int .u8 n23) ∧
      callF Tryz.prog 43 #[.int .u8 n23] w5 fun r24 w7 =>
      ∃ n24, r24 = .int .i64 n24 ∧
      cond (n24 != ((l1 : Nat) : Int))
      (∃ w8, Sto Tryz.prog 55 (.pointer (some (⟨k4, 0, none⟩ : Addr))) (.agg #[.int .i64 0, .slice none 0 0, .slice none 0 0]) w7 w8 ∧
        ∃ a4_2 v4_2, (.pointer (some (⟨k4, 0, none⟩ : Addr)) : Value) = .pointer (some a4_2) ∧ (loadVar 55 a4_2).run Tryz.prog w8 = .ok v4_2 w8 ∧
        Q (.tuple #[v4_2, .int .i64 10]) w8)
      (codec_Back_j2 p1 l1 c1 (⟨k2, 0, none⟩ : Addr) (⟨k4, 0, none⟩ : Addr) 0 w7 Q)))
def codec_Back_tt : Nat → List (Nat × TypeId) := fun _ => []
theorem codec_Back_call (cs0 : Array Value) (p1 : Option Addr) (l1 : Nat) (c1 : Nat) (w : World) (Q : Value → World → Prop) (h : codec_Back cs0 p1 l1 c1 w Q) : callF Tryz.prog 37 #[.agg cs0, .slice p1 l1 c1] w Q :=
  callBy codec_Back_tt Tryz.func37 h (fun _ _ => by kernel_rfl) (by kernel_rfl) (by kernel_rfl) (by kernel_rfl)
def codec_Point (n0 : Int) (w : World) (Q : Value → World → Prop) : Prop :=
  Q (.int .i64 (IntKind.i64.wrap (Int.fdiv n0 (2 ^ 6)))) w
def codec_Point_tt : Nat → List (Nat × TypeId) := fun _ => []
theorem codec_Point_call (n0 : Int) (w : World) (Q : Value → World → Prop) (h : codec_Point n0 w Q) : callF Tryz.prog 42 #[.int .u8 n0] w Q :=
  callBy codec_Point_tt Tryz.func42 h (fun _ _ => by kernel_rfl) (by kernel_rfl) (by kernel_rfl) (by kernel_rfl)
def codec_Told (n0 : Int) (w : World) (Q : Value → World → Prop) : Prop :=
  Q (.int .i64 (IntKind.i64.wrap ((IntKind.i64.wrap (iand .u8 n0 63)) + 1))) w
def codec_Told_tt : Nat → List (Nat × TypeId) := fun _ => []
theorem codec_Told_call (n0 : Int) (w : World) (Q : Value → World → Prop) (h : codec_Told n0 w Q) : callF Tryz.prog 43 #[.int .u8 n0] w Q :=
  callBy codec_Told_tt Tryz.func43 h (fun _ _ => by kernel_rfl) (by kernel_rfl) (by kernel_rfl) (by kernel_rfl)
def codec_Make_j1 (n1 : Int) (p2 : Option Addr) (l2 : Nat) (c2 : Nat) (p3 : Option Addr) (l3 : Nat) (c3 : Nat) (a4 : Addr) (p8 : Option Addr) (l8 : Nat) (c8 : Nat) (n9 : Int) (w : World) (Q : Value → World → Prop) : Prop :=
  ∃ (S5 : World → Prop),
  Drw w fun w1 =>
  ∃ (cs38 : Array Value), HLd Tryz.prog S5 24 (.pointer (some a4)) w1 (.agg cs38) ∧
  ∃ p41 l41 c41 w2, Ef Tryz.prog (Instr.buildSlice 45 2 #[(0, .slice p2 l2 c2), (1, .slice p3 l3 c3)]) w1 (.slice p41 l41 c41) w2 ∧
  (w2 = w1 ∨ S5 w2) ∧
  callF Tryz.prog 112 #[.slice p41 l41 c41] w2 fun r42 w3 =>
  ∃ p42 l42 c42, r42 = .slice p42 l42 c42 ∧
  (w3 = w2 ∨ S5 w3) ∧
  callF Tryz.prog 183 #[.agg cs38, .slice p42 l42 c42] w3 fun r43 w4 =>
  ∃ p43 l43 c43 n43, r43 = .tuple #[.slice p43 l43 c43, .int .i64 n43] ∧
  cond (n43 != 0)
  (Q (.tuple #[.slice none 0 0, .int .i64 n43]) w4)
  (callF Tryz.prog 184 #[.int .i64 n1, .slice p43 l43 c43] w4 fun r51 w5 =>
    ∃ p51 l51 c51, r51 = .slice p51 l51 c51 ∧
    Q (.tuple #[.slice p51 l51 c51, .int .i64 0]) w5)
def codec_Make (cs0 : Array Value) (n1 : Int) (p2 : Option Addr) (l2 : Nat) (c2 : Nat) (p3 : Option Addr) (l3 : Nat) (c3 : Nat) (w : World) (Q : Value → World → Prop) : Prop :=
  New cs0 24 w fun k4 w1 =>
  ∃ (cs13 : Array Value), Ld Tryz.prog 24 (.pointer (some (⟨k4, 0, none⟩ : Addr))) w1 (.agg cs13) ∧
  callF Tryz.prog 101 #[.agg cs13] w1 fun r14 w2 =>
  ∃ b14, r14 = .bool b14 ∧
  cond (!b14)
  (Q (.tuple #[.slice none 0 0, .int .i64 19]) w2)
  (cond (decide (n1 < 0))
    (Q (.tuple #[.slice none 0 0, .int .i64 11]) w2)
    (cond (decide (n1 ≥ 3))
      (Q (.tuple #[.slice none 0 0, .int .i64 11]) w2)
      (∃ n27, Ld Tryz.prog 3 (.pointer (some ((⟨k4, 0, none⟩ : Addr).add 1))) w2 (.int .i64 n27) ∧
        cond (((l2 : Nat) : Int) != n27)
        (Q (.tuple #[.slice none 0 0, .int .i64 11]) w2)
        (∃ n34, Ld Tryz.prog 3 (.pointer (some ((⟨k4, 0, none⟩ : Addr).add 2))) w2 (.int .i64 n34) ∧
          cond (((l3 : Nat) : Int) != n34)
          (Q (.tuple #[.slice none 0 0, .int .i64 11]) w2)
          (codec_Make_j1 n1 p2 l2 c2 p3 l3 c3 (⟨k4, 0, none⟩ : Addr) none 0 0 0 w2 Q)))))
def codec_Make_tt : Nat → List (Nat × TypeId) := fun _ => []
theorem codec_Make_call (cs0 : Array Value) (n1 : Int) (p2 : Option Addr) (l2 : Nat) (c2 : Nat) (p3 : Option Addr) (l3 : Nat) (c3 : Nat) (w : World) (Q : Value → World → Prop) (h : codec_Make cs0 n1 p2 l2 c2 p3 l3 c3 w Q) : callF Tryz.prog 110 #[.agg cs0, .int .i64 n1, .slice p2 l2 c2, .slice p3 l3 c3] w Q :=
  callBy codec_Make_tt Tryz.func110 h (fun _ _ => by kernel_rfl) (by kernel_rfl) (by kernel_rfl) (by kernel_rfl)
def codec_id (n0 : Int) (p1 : Option Addr) (l1 : Nat) (c1 : Nat) (w : World) (Q : Value → World → Prop) : Prop :=
  ∃ p11 l11 c11 w1, Ef Tryz.prog (Instr.buildSlice 25 1 #[(0, .int .u8 (IntKind.u8.wrap (ior .i64 (IntKind.i64.wrap (n0 * 2 ^ 6)) ((l1 : Nat) : Int))))]) w (.slice p11 l11 c11) w1 ∧
  ∃ p13 l13 c13 w2, Ef Tryz.prog (Instr.buildSlice 45 2 #[(0, .slice p11 l11 c11), (1, .slice p1 l1 c1)]) w1 (.slice p13 l13 c13) w2 ∧
  callF Tryz.prog 112 #[.slice p13 l13 c13] w2 fun r14 w3 =>
  ∃ p14 l14 c14, r14 = .slice p14 l14 c14 ∧
  Q (.slice p14 l14 c14) w3
def codec_id_tt : Nat → List (Nat × TypeId) := fun _ => []
theorem codec_id_call (n0 : Int) (p1 : Option Addr) (l1 : Nat) (c1 : Nat) (w : World) (Q : Value → World → Prop) (h : codec_id n0 p1 l1 c1 w Q) : callF Tryz.prog 184 #[.int .i64 n0, .slice p1 l1 c1] w Q :=
  callBy codec_id_tt Tryz.func184 h (fun _ _ => by kernel_rfl) (by kernel_rfl) (by kernel_rfl) (by kernel_rfl)
end Go.Sh
end

section
namespace Go.Sh
open Go Go.Fw Go.Proofs Go.RowKit
set_option maxRecDepth 100000
set_option maxHeartbeats 2000000
theorem maps_Clone_calls (b : Nat) (es : Array MapEntry) (clock : Nat) (w : World) (hb : w.heap[b]? = some (.map es clock)) :
    Calls Tryz.prog 106 #[.map (some b)] w fun e w' => e = .returned (.map (some w.heap.size)) ∧ w' = w.alloc (.map es clock) := by
  have hq := fun w => run_eql_map_nil_sl (P := Tryz.prog) w 64 _ _ (some b) Tryz.underlying64
  go_enter Tryz.func106, Tryz.ntmps106
  go_wp2
  rw [run_callFunc_extern Tryz.func181 (by kernel_rfl) (by kernel_rfl) (by kernel_rfl) (e := Extern.MapsClone.clone) (by kernel_rfl), run_maps_clone_sl w 64 hb]
  simp only [Result.andThen]
  rw [Oper.upon_value]
  go_wp2
  rw [run_typeAssert_map_sl _ 64 20 _ _ _ Tryz.underlying64]
  simp only [Result.andThen]
  rw [Oper.upon_value]
  go_wp2
  go_ret
  exact ⟨rfl, rfl⟩
theorem maps_Clone_c {b : Nat} {ks : List (List UInt8)} {w : World} (hM : SMap w b ks) {K : Value → World → Prop} (h : ∀ w', Fr [] w w' → SMap w' w.heap.size ks → w'.heap.size = w.heap.size + 1 → K (.map (some w.heap.size)) w') :
    callF Tryz.prog 106 #[.map (some b)] w K := by
  obtain ⟨es, c, hM, he⟩ := hM
  refine callF_of (fun _ _ => by kernel_rfl) ((maps_Clone_calls b es c w hM).mono fun e w' hw => ?_)
  obtain ⟨h1, h2⟩ := hw
  subst h2
  refine ⟨_, h1, h _ (Fr.alloc _ _) ⟨es, c, ?_, he⟩ (by simp)⟩
  show (w.heap.push _)[w.heap.size]? = _
  simp
end Go.Sh
end

section
namespace Go.Sh
open Go Go.Fw Go.Proofs
set_option maxRecDepth 100000
set_option linter.unusedVariables false
def law28_IssueRoom_j1 (n3 : Int) (p4 : Option Addr) (l4 : Nat) (c4 : Nat) (n5 : Int) (a6 : Addr) (b12 : Bool) (p13 : Option Addr) (w : World) (Q : Value → World → Prop) : Prop :=
  ∃ n58, Ld Tryz.prog 3 (.pointer (some (a6.add 2))) w (.int .i64 n58) ∧
  cond (decide (((l4 : Nat) : Int) < n58))
  (callF Tryz.prog 36 #[.pointer p13, .slice p4 l4 c4] w fun r63 w1 =>
    ∃ p63 l63 c63 n63 n63_1, r63 = .tuple #[.slice p63 l63 c63, .int .i64 n63, .int .i64 n63_1] ∧
    cond (n63_1 == 21)
    (callF Tryz.prog 31 #[.pointer p13] w1 fun r71 w2 =>
      ∃ n71, r71 = .int .i64 n71 ∧
      Q (.bool (n71 == 0)) w2)
    (Q (.bool false) w1))
  (LoopS [.int .i64 n3, .slice p4 l4 c4, .pointer (some a6), .bool b12, .pointer p13, .int .i64 (IntKind.i64.wrap ((IntKind.i64.wrap (Int.tmod n5 40)) + 1)), .int .i64 0] w fun I1 μ1 us1 _ wl1 =>
    ∃ n3_1 p4_1 l4_1 c4_1 a6_1 b12_1 p13_1 n18 n19, us1 = [.int .i64 n3_1, .slice p4_1 l4_1 c4_1, .pointer (some a6_1), .bool b12_1, .pointer p13_1, .int .i64 n18, .int .i64 n19] ∧
    cond (decide (n19 < n18))
    (callF Tryz.prog 36 #[.pointer p13_1, .slice p4_1 l4_1 c4_1] wl1 fun r86 w3 =>
      ∃ p86 l86 c86 n86 n86_1, r86 = .tuple #[.slice p86 l86 c86, .int .i64 n86, .int .i64 n86_1] ∧
      cond (decide (n19 ≥ n3_1))
      (cond (n86_1 != 18)
        (Q (.bool false) w3)
        (cond (((l86 : Nat) : Int) != 0)
          (Q (.bool false) w3)
          (callF Tryz.prog 31 #[.pointer p13_1] w3 fun r102 w4 =>
            ∃ n102, r102 = .int .i64 n102 ∧
            cond (n102 != n3_1)
            (Q (.bool false) w4)
            (goesOn [] [] I1 μ1 us1 [.int .i64 n3_1, .slice p4_1 l4_1 c4_1, .pointer (some a6_1), .bool b12_1, .pointer p13_1, .int .i64 n18, .int .i64 (IntKind.i64.wrap (n19 + 1))] wl1 w4))))
      (∃ (cs107 : Array Value), Ld Tryz.prog 24 (.pointer (some a6_1)) w3 (.agg cs107) ∧
        callF Tryz.prog 37 #[.agg cs107, .slice p86 l86 c86] w3 fun r109 w5 =>
        ∃ n109 p109 l109 c109 p109_1 l109_1 c109_1 n109_1, r109 = .tuple #[.agg #[.int .i64 n109, .slice p109 l109 c109, .slice p109_1 l109_1 c109_1], .int .i64 n109_1] ∧
        ∃ z23, Pu Tryz.prog (zeroValue 55) z23 ∧
        New z23.cells 55 w5 fun k23 w6 =>
        ∃ w7, Sto Tryz.prog 55 (.pointer (some (⟨k23, 0, none⟩ : Addr))) (.agg #[.int .i64 n109, .slice p109 l109 c109, .slice p109_1 l109_1 c109_1]) w6 w7 ∧
        ∃ (S20 : World → Prop),
        Drw w7 fun w8 =>
        cond (n86_1 != 0)
        (Q (.bool false) w8)
        (cond (n109_1 != 0)
          (Q (.bool false) w8)
          (∃ p120 l120 c120, HLd Tryz.prog S20 25 (.pointer (some ((⟨k23, 0, none⟩ : Addr).add 2))) w8 (.slice p120 l120 c120) ∧
            ∃ n123, Ld Tryz.prog 3 (.pointer (some (a6_1.add 2))) w8 (.int .i64 n123) ∧
            (w8 = w8 ∨ S20 w8) ∧
            cond (((l120 : Nat) : Int) != n123)
            (Q (.bool false) w8)
            (∃ p128 l128 c128, HLd Tryz.prog S20 25 (.pointer (some ((⟨k23, 0, none⟩ : Addr).add 2))) w8 (.slice p128 l128 c128) ∧
              ∃ n130, HLd Tryz.prog S20 3 (.pointer (some (a6_1.add 2))) w8 (.int .i64 n130) ∧
              ∃ a132, IxA Tryz.prog 25 (.slice p128 l128 c128) (.int .i64 (IntKind.i64.wrap (n130 - 1))) a132 ∧
              ∃ n133, HLd Tryz.prog S20 5 (.pointer (some a132)) w8 (.int .u8 n133) ∧
              ∃ n136, Ld Tryz.prog 3 (.pointer (some (a6_1.add 2))) w8 (.int .i64 n136) ∧
              (w8 = w8 ∨ S20 w8) ∧
              ∃ a138, IxA Tryz.prog 25 (.slice p4_1 l4_1 c4_1) (.int .i64 (IntKind.i64.wrap (n136 - 1))) a138 ∧
              ∃ n139, Ld Tryz.prog 5 (.pointer (some a138)) w8 (.int .u8 n139) ∧
              (w8 = w8 ∨ S20 w8) ∧
              cond (n133 != (IntKind.u8.wrap (n139 + (IntKind.u8.wrap n19))))
              (Q (.bool false) w8)
              (callF Tryz.prog 31 #[.pointer p13_1] w8 fun r147 w9 =>
                ∃ n147, r147 = .int .i64 n147 ∧
                cond (n147 != (IntKind.i64.wrap (n19 + 1)))
                (Q (.bool false) w9)
                (goesOn [] [] I1 μ1 us1 [.int .i64 n3_1, .slice p4_1 l4_1 c4_1, .pointer (some a6_1), .bool b12_1, .pointer p13_1, .int .i64 n18, .int .i64 (IntKind.i64.wrap (n19 + 1))] wl1 w9)))))))
    (Q (.bool true) wl1))
def law28_IssueRoom_j2 (n3 : Int) (p4 : Option Addr) (l4 : Nat) (c4 : Nat) (n5 : Int) (a6 : Addr) (b12 : Bool) (p13 : Option Addr) (n14 : Int) (b48 : Bool) (w : World) (Q : Value → World → Prop) : Prop :=
  cond b48
  (∃ b50 w1, Ef Tryz.prog (do eqGuard .eql 32 (.tmp 49) (.const (.pointer none)) (.pointer p13) (.pointer none); binOp .eql 32 (.pointer p13) (.pointer none) : Sem Value) w (.bool b50) w1 ∧
    cond b50
    (Q (.bool (n14 != 0)) w1)
    (Q (.bool false) w1))
  (law28_IssueRoom_j1 n3 p4 l4 c4 n5 a6 b12 p13 w Q)
def law28_IssueRoom_j3 (n1 : Int) (p2 : Option Addr) (l2 : Nat) (c2 : Nat) (n3 : Int) (p4 : Option Addr) (l4 : Nat) (c4 : Nat) (n5 : Int) (a6 : Addr) (b12 : Bool) (w : World) (Q : Value → World → Prop) : Prop :=
  ∃ (cs36 : Array Value), Ld Tryz.prog 24 (.pointer (some a6)) w (.agg cs36) ∧
  callF Tryz.prog 26 #[.agg cs36, .int .i64 n1, .slice p2 l2 c2, .int .i64 n3] w fun r40 w1 =>
  ∃ p40 n40, r40 = .tuple #[.pointer p40, .int .i64 n40] ∧
  cond (n40 != 0)
  (law28_IssueRoom_j2 n3 p4 l4 c4 n5 a6 b12 p40 n40 true w1 Q)
  (∃ b47 w2, Ef Tryz.prog (do eqGuard .eql 32 (.tmp 46) (.const (.pointer none)) (.pointer p40) (.pointer none); binOp .eql 32 (.pointer p40) (.pointer none) : Sem Value) w1 (.bool b47) w2 ∧
    law28_IssueRoom_j2 n3 p4 l4 c4 n5 a6 b12 p40 n40 b47 w2 Q)
def law28_IssueRoom (cs0 : Array Value) (n1 : Int) (p2 : Option Addr) (l2 : Nat) (c2 : Nat) (n3 : Int) (p4 : Option Addr) (l4 : Nat) (c4 : Nat) (n5 : Int) (w : World) (Q : Value → World → Prop) : Prop :=
  New cs0 24 w fun k6 w1 =>
  callF Tryz.prog 23 #[] w1 fun r25 w2 =>
  ∃ b25, r25 = .bool b25 ∧
  cond (!b25)
  (Q (.bool false) w2)
  (cond (decide (((l2 : Nat) : Int) > 100))
    (Q (.bool true) w2)
    (cond (decide (((l4 : Nat) : Int) > 100))
      (Q (.bool true) w2)
      (law28_IssueRoom_j3 n1 p2 l2 c2 n3 p4 l4 c4 n5 (⟨k6, 0, none⟩ : Addr) false w2 Q)))
def law28_IssueRoom_tt : Nat → List (Nat × TypeId) := fun n => match n with | 0 => [(3, 3), (4, 25), (6, 1000000), (12, 4), (13, 32), (18, 3), (19, 3)] | _ => []
theorem law28_IssueRoom_call (cs0 : Array Value) (n1 : Int) (p2 : Option Addr) (l2 : Nat) (c2 : Nat) (n3 : Int) (p4 : Option Addr) (l4 : Nat) (c4 : Nat) (n5 : Int) (w : World) (Q : Value → World → Prop) (h : law28_IssueRoom cs0 n1 p2 l2 c2 n3 p4 l4 c4 n5 w Q) : callF Tryz.prog 4 #[.agg cs0, .int .i64 n1, .slice p2 l2 c2, .int .i64 n3, .slice p4 l4 c4, .int .u8 n5] w Q :=
  callBy law28_IssueRoom_tt Tryz.func4 h (fun _ _ => by kernel_rfl) (by kernel_rfl) (by kernel_rfl) (by kernel_rfl)
def law28_IssueApart_j1 (I1 : Inv) (μ1 : Meas) (us1 : List Value) (wl1 : World) (p5 : Option Addr) (l5 : Nat) (c5 : Nat) (b12 : Bool) (p13 : Option Addr) (p15 : Option Addr) (n17 : Int) (p18 : Option Addr) (l18 : Nat) (c18 : Nat) (n20 : Int) (p21 : Option Addr) (l21 : Nat) (c21 : Nat) (w : World) (Q : Value → World → Prop) : Prop :=
  cond (n20 == 0)
  (callF Tryz.prog 33 #[.slice p18 l18 c18, .slice p21 l21 c21] w fun r118 w1 =>
    ∃ b118, r118 = .bool b118 ∧
    cond b118
    (Q (.bool false) w1)
    (callF Tryz.prog 34 #[.pointer p13, .slice p21 l21 c21] w1 fun r122 w2 =>
      ∃ b122, r122 = .bool b122 ∧
      cond b122
      (Q (.bool false) w2)
      (callF Tryz.prog 34 #[.pointer p15, .slice p18 l18 c18] w2 fun r127 w3 =>
        ∃ b127, r127 = .bool b127 ∧
        cond b127
        (Q (.bool false) w3)
        (callF Tryz.prog 34 #[.pointer p13, .slice p18 l18 c18] w3 fun r132 w4 =>
          ∃ b132, r132 = .bool b132 ∧
          cond (!b132)
          (Q (.bool false) w4)
          (callF Tryz.prog 34 #[.pointer p15, .slice p21 l21 c21] w4 fun r138 w5 =>
            ∃ b138, r138 = .bool b138 ∧
            cond (!b138)
            (Q (.bool false) w5)
            (goesOn [] [] I1 μ1 us1 [.slice p5 l5 c5, .bool b12, .pointer p13, .pointer p15, .int .i64 (IntKind.i64.wrap (n17 + 1))] wl1 w5))))))
  (goesOn [] [] I1 μ1 us1 [.slice p5 l5 c5, .bool b12, .pointer p13, .pointer p15, .int .i64 (IntKind.i64.wrap (n17 + 1))] wl1 w)
def law28_IssueApart_j2 (b12 : Bool) (p13 : Option Addr) (p15 : Option Addr) (w : World) (Q : Value → World → Prop) : Prop :=
  callF Tryz.prog 31 #[.pointer p13] w fun r143 w1 =>
  ∃ n143, r143 = .int .i64 n143 ∧
  callF Tryz.prog 31 #[.pointer p15] w1 fun r145 w2 =>
  ∃ n145, r145 = .int .i64 n145 ∧
  Q (.bool (n143 == n145)) w2
def law28_IssueApart_j3 (p5 : Option Addr) (l5 : Nat) (c5 : Nat) (b12 : Bool) (p13 : Option Addr) (p15 : Option Addr) (w : World) (Q : Value → World → Prop) : Prop :=
  LoopS [.slice p5 l5 c5, .bool b12, .pointer p13, .pointer p15, .int .i64 0] w fun I1 μ1 us1 _ wl1 =>
  ∃ p5_1 l5_1 c5_1 b12_1 p13_1 p15_1 n17, us1 = [.slice p5_1 l5_1 c5_1, .bool b12_1, .pointer p13_1, .pointer p15_1, .int .i64 n17] ∧
  cond (decide (n17 < ((l5_1 : Nat) : Int)))
  (∃ a89, IxA Tryz.prog 45 (.slice p5_1 l5_1 c5_1) (.int .i64 n17) a89 ∧
    ∃ p90 l90 c90, Ld Tryz.prog 25 (.pointer (some a89)) wl1 (.slice p90 l90 c90) ∧
    callF Tryz.prog 36 #[.pointer p13_1, .slice p90 l90 c90] wl1 fun r91 w1 =>
    ∃ p91 l91 c91 n91 n91_1, r91 = .tuple #[.slice p91 l91 c91, .int .i64 n91, .int .i64 n91_1] ∧
    ∃ a99, IxA Tryz.prog 45 (.slice p5_1 l5_1 c5_1) (.int .i64 n17) a99 ∧
    ∃ p100 l100 c100, Ld Tryz.prog 25 (.pointer (some a99)) w1 (.slice p100 l100 c100) ∧
    callF Tryz.prog 36 #[.pointer p15_1, .slice p100 l100 c100] w1 fun r101 w2 =>
    ∃ p101 l101 c101 n101 n101_1, r101 = .tuple #[.slice p101 l101 c101, .int .i64 n101, .int .i64 n101_1] ∧
    cond (n91_1 != n101_1)
    (Q (.bool false) w2)
    (cond (n91 != n101)
      (Q (.bool false) w2)
      (law28_IssueApart_j1 I1 μ1 us1 wl1 p5_1 l5_1 c5_1 b12_1 p13_1 p15_1 n17 p91 l91 c91 n91_1 p101 l101 c101 w2 Q)))
  (law28_IssueApart_j2 b12_1 p13_1 p15_1 wl1 Q)
def law28_IssueApart_j4 (p5 : Option Addr) (l5 : Nat) (c5 : Nat) (b12 : Bool) (p13 : Option Addr) (n14 : Int) (p15 : Option Addr) (n16 : Int) (b72 : Bool) (w : World) (Q : Value → World → Prop) : Prop :=
  cond b72
  (cond (n14 != 0)
    (Q (.bool true) w)
    (Q (.bool (n16 != 0)) w))
  (law28_IssueApart_j3 p5 l5 c5 b12 p13 p15 w Q)
def law28_IssueApart_j5 (n1 : Int) (n2 : Int) (p3 : Option Addr) (l3 : Nat) (c3 : Nat) (p4 : Option Addr) (l4 : Nat) (c4 : Nat) (p5 : Option Addr) (l5 : Nat) (c5 : Nat) (a6 : Addr) (b12 : Bool) (w : World) (Q : Value → World → Prop) : Prop :=
  ∃ (cs54 : Array Value), Ld Tryz.prog 24 (.pointer (some a6)) w (.agg cs54) ∧
  callF Tryz.prog 26 #[.agg cs54, .int .i64 n1, .slice p3 l3 c3, .int .i64 100] w fun r57 w1 =>
  ∃ p57 n57, r57 = .tuple #[.pointer p57, .int .i64 n57] ∧
  ∃ (cs61 : Array Value), Ld Tryz.prog 24 (.pointer (some a6)) w1 (.agg cs61) ∧
  callF Tryz.prog 26 #[.agg cs61, .int .i64 n2, .slice p4 l4 c4, .int .i64 100] w1 fun r64 w2 =>
  ∃ p64 n64, r64 = .tuple #[.pointer p64, .int .i64 n64] ∧
  ∃ b68 w3, Ef Tryz.prog (do eqGuard .eql 32 (.tmp 67) (.const (.pointer none)) (.pointer p57) (.pointer none); binOp .eql 32 (.pointer p57) (.pointer none) : Sem Value) w2 (.bool b68) w3 ∧
  cond b68
  (law28_IssueApart_j4 p5 l5 c5 b12 p57 n57 p64 n64 true w3 Q)
  (∃ b71 w4, Ef Tryz.prog (do eqGuard .eql 32 (.tmp 70) (.const (.pointer none)) (.pointer p64) (.pointer none); binOp .eql 32 (.pointer p64) (.pointer none) : Sem Value) w3 (.bool b71) w4 ∧
    law28_IssueApart_j4 p5 l5 c5 b12 p57 n57 p64 n64 b71 w4 Q)
def law28_IssueApart (cs0 : Array Value) (n1 : Int) (n2 : Int) (p3 : Option Addr) (l3 : Nat) (c3 : Nat) (p4 : Option Addr) (l4 : Nat) (c4 : Nat) (p5 : Option Addr) (l5 : Nat) (c5 : Nat) (w : World) (Q : Value → World → Prop) : Prop :=
  New cs0 24 w fun k6 w1 =>
  callF Tryz.prog 23 #[] w1 fun r24 w2 =>
  ∃ b24, r24 = .bool b24 ∧
  cond (!b24)
  (Q (.bool false) w2)
  (callF Tryz.prog 38 #[.slice p5 l5 c5, .int .i64 1000] w2 fun r27 w3 =>
    ∃ b27, r27 = .bool b27 ∧
    cond b27
    (Q (.bool true) w3)
    (cond (decide (((l5 : Nat) : Int) > 20))
      (Q (.bool true) w3)
      (cond (decide (((l3 : Nat) : Int) > 100))
        (Q (.bool true) w3)
        (cond (decide (((l4 : Nat) : Int) > 100))
          (Q (.bool true) w3)
          (cond (n1 == n2)
            (callF Tryz.prog 33 #[.slice p3 l3 c3, .slice p4 l4 c4] w3 fun r50 w4 =>
              ∃ b50, r50 = .bool b50 ∧
              cond b50
              (Q (.bool true) w4)
              (law28_IssueApart_j5 n1 n2 p3 l3 c3 p4 l4 c4 p5 l5 c5 (⟨k6, 0, none⟩ : Addr) false w4 Q))
            (law28_IssueApart_j5 n1 n2 p3 l3 c3 p4 l4 c4 p5 l5 c5 (⟨k6, 0, none⟩ : Addr) false w3 Q))))))
def law28_IssueApart_tt : Nat → List (Nat × TypeId) := fun n => match n with | 0 => [(5, 45), (12, 4), (13, 32), (15, 32), (17, 3)] | _ => []
theorem law28_IssueApart_call (cs0 : Array Value) (n1 : Int) (n2 : Int) (p3 : Option Addr) (l3 : Nat) (c3 : Nat) (p4 : Option Addr) (l4 : Nat) (c4 : Nat) (p5 : Option Addr) (l5 : Nat) (c5 : Nat) (w : World) (Q : Value → World → Prop) (h : law28_IssueApart cs0 n1 n2 p3 l3 c3 p4 l4 c4 p5 l5 c5 w Q) : callF Tryz.prog 5 #[.agg cs0, .int .i64 n1, .int .i64 n2, .slice p3 l3 c3, .slice p4 l4 c4, .slice p5 l5 c5] w Q :=
  callBy law28_IssueApart_tt Tryz.func5 h (fun _ _ => by kernel_rfl) (by kernel_rfl) (by kernel_rfl) (by kernel_rfl)
def law28_alive_j1 (b0 : Bool) (p1 : Option Addr) (w : World) (Q : Value → World → Prop) : Prop :=
  ∃ p47 l47 c47 w1, Ef Tryz.prog (Instr.buildSlice 25 3 #[(0, .int .u8 0), (1, .int .u8 0), (2, .int .u8 1)]) w (.slice p47 l47 c47) w1 ∧
  callF Tryz.prog 36 #[.pointer p1, .slice p47 l47 c47] w1 fun r48 w2 =>
  ∃ p48 l48 c48 n48 n48_1, r48 = .tuple #[.slice p48 l48 c48, .int .i64 n48, .int .i64 n48_1] ∧
  ∃ p54 l54 c54 w3, Ef Tryz.prog (Instr.buildSlice 25 5 #[(0, .int .u8 0), (1, .int .u8 0), (2, .int .u8 0), (3, .int .u8 1), (4, .int .u8 7)]) w2 (.slice p54 l54 c54) w3 ∧
  callF Tryz.prog 36 #[.pointer p1, .slice p54 l54 c54] w3 fun r55 w4 =>
  ∃ p55 l55 c55 n55 n55_1, r55 = .tuple #[.slice p55 l55 c55, .int .i64 n55, .int .i64 n55_1] ∧
  callF Tryz.prog 32 #[.pointer p1] w4 fun r60 w5 =>
  ∃ p60, r60 = .pointer p60 ∧
  ∃ p63 l63 c63 w6, Ef Tryz.prog (Instr.buildSlice 25 4 #[(0, .int .u8 0), (1, .int .u8 0), (2, .int .u8 0), (3, .int .u8 1)]) w5 (.slice p63 l63 c63) w6 ∧
  callF Tryz.prog 36 #[.pointer p1, .slice p63 l63 c63] w6 fun r64 w7 =>
  ∃ p64 l64 c64 n64 n64_1, r64 = .tuple #[.slice p64 l64 c64, .int .i64 n64, .int .i64 n64_1] ∧
  ∃ p70 l70 c70 w8, Ef Tryz.prog (Instr.buildSlice 25 4 #[(0, .int .u8 0), (1, .int .u8 0), (2, .int .u8 0), (3, .int .u8 1)]) w7 (.slice p70 l70 c70) w8 ∧
  callF Tryz.prog 36 #[.pointer p1, .slice p70 l70 c70] w8 fun r71 w9 =>
  ∃ p71 l71 c71 n71 n71_1, r71 = .tuple #[.slice p71 l71 c71, .int .i64 n71, .int .i64 n71_1] ∧
  callF Tryz.prog 29 #[.pointer p1] w9 fun r77 w10 =>
  ∃ n77 p77 l77 c77, r77 = .tuple #[.int .i64 n77, .slice p77 l77 c77] ∧
  callF Tryz.prog 34 #[.pointer p1, .slice p55 l55 c55] w10 fun r82 w11 =>
  ∃ b82, r82 = .bool b82 ∧
  ∃ p85 l85 c85 w12, Ef Tryz.prog (Instr.buildSlice 25 1 #[(0, .int .u8 8)]) w11 (.slice p85 l85 c85) w12 ∧
  callF Tryz.prog 100 #[.pointer p1, .agg #[.int .i64 0, .int .i64 1, .int .i64 4, .int .u8 0, .int .u8 0, .int .u8 0, .int .u8 0, .int .u8 0, .int .u8 0, .int .u8 0, .int .u8 0, .int .u8 0, .int .u8 0, .int .u8 0, .int .u8 0, .int .u8 0, .int .u8 0, .int .u8 0, .int .u8 0], .int .i64 0, .slice p85 l85 c85] w12 fun r86 w13 =>
  ∃ n86, r86 = .int .i64 n86 ∧
  callF Tryz.prog 100 #[.pointer p1, .agg #[.int .i64 0, .int .i64 1, .int .i64 4, .int .u8 0, .int .u8 0, .int .u8 0, .int .u8 0, .int .u8 0, .int .u8 0, .int .u8 0, .int .u8 0, .int .u8 0, .int .u8 0, .int .u8 0, .int .u8 0, .int .u8 0, .int .u8 0, .int .u8 0, .int .u8 0], .int .i64 0, .slice none 0 0] w13 fun r89 w14 =>
  ∃ n89, r89 = .int .i64 n89 ∧
  ∃ b91 w15, Ef Tryz.prog (do eqGuard .neq 32 (.tmp 90) (.const (.pointer none)) (.pointer p60) (.pointer none); binOp .neq 32 (.pointer p60) (.pointer none) : Sem Value) w14 (.bool b91) w15 ∧
  cond b91
  (cond (n48_1 == 21)
    (cond (n55_1 == 0)
      (cond (n55 == 4)
        (cond (n64_1 == 0)
          (cond (n71_1 == 18)
            (cond (n86 == 0)
              (cond (n89 == 11)
                (∃ p122 l122 c122 w16, Ef Tryz.prog (Instr.buildSlice 25 6 #[(0, .int .u8 133), (1, .int .u8 9), (2, .int .u8 0), (3, .int .u8 0), (4, .int .u8 0), (5, .int .u8 1)]) w15 (.slice p122 l122 c122) w16 ∧
                  callF Tryz.prog 33 #[.slice p55 l55 c55, .slice p122 l122 c122] w16 fun r123 w17 =>
                  ∃ b123, r123 = .bool b123 ∧
                  cond b123
                  (∃ p127 l127 c127 w18, Ef Tryz.prog (Instr.buildSlice 25 6 #[(0, .int .u8 133), (1, .int .u8 9), (2, .int .u8 0), (3, .int .u8 0), (4, .int .u8 0), (5, .int .u8 2)]) w17 (.slice p127 l127 c127) w18 ∧
                    callF Tryz.prog 33 #[.slice p64 l64 c64, .slice p127 l127 c127] w18 fun r128 w19 =>
                    ∃ b128, r128 = .bool b128 ∧
                    cond b128
                    (cond (n77 == 2)
                      (∃ p136 l136 c136 w20, Ef Tryz.prog (Instr.buildSlice 25 1 #[(0, .int .u8 9)]) w19 (.slice p136 l136 c136) w20 ∧
                        callF Tryz.prog 33 #[.slice p77 l77 c77, .slice p136 l136 c136] w20 fun r137 w21 =>
                        ∃ b137, r137 = .bool b137 ∧
                        cond b137
                        (cond b82
                          (callF Tryz.prog 34 #[.pointer p1, .slice p55 l55 c55] w21 fun r145 w22 =>
                            ∃ b145, r145 = .bool b145 ∧
                            cond (!b145)
                            (callF Tryz.prog 31 #[.pointer p1] w22 fun r150 w23 =>
                              ∃ n150, r150 = .int .i64 n150 ∧
                              cond (n150 == 0)
                              (callF Tryz.prog 31 #[.pointer p60] w23 fun r155 w24 =>
                                ∃ n155, r155 = .int .i64 n155 ∧
                                cond (n155 == 1)
                                (callF Tryz.prog 34 #[.pointer p60, .slice p55 l55 c55] w24 fun r161 w25 =>
                                  ∃ b161, r161 = .bool b161 ∧
                                  cond b161
                                  (callF Tryz.prog 34 #[.pointer p60, .slice p64 l64 c64] w25 fun r166 w26 =>
                                    ∃ b166, r166 = .bool b166 ∧
                                    Q (.bool (!b166)) w26)
                                  (Q (.bool false) w25))
                                (Q (.bool false) w24))
                              (Q (.bool false) w23))
                            (Q (.bool false) w22))
                          (Q (.bool false) w21))
                        (Q (.bool false) w21))
                      (Q (.bool false) w19))
                    (Q (.bool false) w19))
                  (Q (.bool false) w17))
                (Q (.bool false) w15))
              (Q (.bool false) w15))
            (Q (.bool false) w15))
          (Q (.bool false) w15))
        (Q (.bool false) w15))
      (Q (.bool false) w15))
    (Q (.bool false) w15))
  (Q (.bool false) w15)
def law28_alive  (w : World) (Q : Value → World → Prop) : Prop :=
  ∃ p25 l25 c25 w1, Ef Tryz.prog (Instr.buildSlice 25 1 #[(0, .int .u8 9)]) w (.slice p25 l25 c25) w1 ∧
  callF Tryz.prog 26 #[.agg #[.int .i64 0, .int .i64 1, .int .i64 4, .int .u8 0, .int .u8 0, .int .u8 0, .int .u8 0, .int .u8 0, .int .u8 0, .int .u8 0, .int .u8 0, .int .u8 0, .int .u8 0, .int .u8 0, .int .u8 0, .int .u8 0, .int .u8 0, .int .u8 0, .int .u8 0], .int .i64 2, .slice p25 l25 c25, .int .i64 2] w1 fun r26 w2 =>
  ∃ p26 n26, r26 = .tuple #[.pointer p26, .int .i64 n26] ∧
  ∃ p31 l31 c31 w3, Ef Tryz.prog (Instr.buildSlice 25 1 #[(0, .int .u8 9)]) w2 (.slice p31 l31 c31) w3 ∧
  callF Tryz.prog 26 #[.agg #[.int .i64 0, .int .i64 0, .int .i64 0, .int .u8 0, .int .u8 0, .int .u8 0, .int .u8 0, .int .u8 0, .int .u8 0, .int .u8 0, .int .u8 0, .int .u8 0, .int .u8 0, .int .u8 0, .int .u8 0, .int .u8 0, .int .u8 0, .int .u8 0, .int .u8 0], .int .i64 2, .slice p31 l31 c31, .int .i64 2] w3 fun r32 w4 =>
  ∃ p32 n32, r32 = .tuple #[.pointer p32, .int .i64 n32] ∧
  ∃ b36 w5, Ef Tryz.prog (do eqGuard .eql 32 (.tmp 35) (.const (.pointer none)) (.pointer p26) (.pointer none); binOp .eql 32 (.pointer p26) (.pointer none) : Sem Value) w4 (.bool b36) w5 ∧
  cond b36
  (Q (.bool false) w5)
  (cond (n26 != 0)
    (Q (.bool false) w5)
    (cond (n32 != 10)
      (Q (.bool false) w5)
      (law28_alive_j1 false p26 w5 Q)))
def law28_alive_tt : Nat → List (Nat × TypeId) := fun _ => []
theorem law28_alive_call  (w : World) (Q : Value → World → Prop) (h : law28_alive  w Q) : callF Tryz.prog 23 #[] w Q :=
  callBy law28_alive_tt Tryz.func23 h (fun _ _ => by kernel_rfl) (by kernel_rfl) (by kernel_rfl) (by kernel_rfl)
end Go.Sh
end
