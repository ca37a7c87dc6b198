/- A part of a proof of a given law of this program: lemmas, printed forms of its functions, contracts. It has no conditions of its own. -/
import Derived.Test.YtcfealonnakdcaaGreatProg
import Derived.Shelf.SlMaps.Clone
import Derived.WalkKit
import Derived.Test.YtcfealonnakdcaaGreatMW0
import Derived.Test.YtcfealonnakdcaaGreatMW1
import Derived.Test.YtcfealonnakdcaaGreatMS0

section
namespace Go.Sh
open Go Go.Fw Go.Proofs
set_option maxRecDepth 100000
set_option linter.unusedVariables false
def codec_Back_j1 (a4 : Addr) (n5 : Int) (w : World) (Q : Value → World → Prop) : Prop :=
  ∃ a4_1 v4, (.pointer (some a4) : Value) = .pointer (some a4_1) ∧ (loadVar 55 a4_1).run Tryz.prog w = .ok v4 w ∧
  Q (.tuple #[v4, .int .i64 n5]) w
def codec_Back_j2 (p1 : Option Addr) (l1 : Nat) (c1 : Nat) (a2 : Addr) (a4 : Addr) (n5 : Int) (w : World) (Q : Value → World → Prop) : Prop :=
  Drw w fun w1 =>
  ∃ p32 l32 c32, Pu Tryz.prog (Instr.sliceAt 25 (.slice p1 l1 c1) (some (.int .i64 1)) none none) (.slice p32 l32 c32) ∧
  ∃ (cs30 : Array Value), Ld Tryz.prog 24 (.pointer (some a2)) w1 (.agg cs30) ∧
  callF Tryz.prog 111 #[.agg cs30, .slice p32 l32 c32] w1 fun r33 w2 =>
  ∃ p33 l33 c33 n33, r33 = .tuple #[.slice p33 l33 c33, .int .i64 n33] ∧
  cond (n33 != 0)
  (∃ w3, Sto Tryz.prog 55 (.pointer (some a4)) (.agg #[.int .i64 0, .slice none 0 0, .slice none 0 0]) w2 w3 ∧
    ∃ a4_1 v4, (.pointer (some a4) : Value) = .pointer (some a4_1) ∧ (loadVar 55 a4_1).run Tryz.prog w3 = .ok v4 w3 ∧
    Q (.tuple #[v4, .int .i64 n33]) w3)
  (∃ (S10 : World → Prop),
    Drw w2 fun w4 =>
    ∃ a41, IxA Tryz.prog 25 (.slice p1 l1 c1) (.int .i64 0) a41 ∧
    ∃ n42, HLd Tryz.prog S10 5 (.pointer (some a41)) w4 (.int .u8 n42) ∧
    ∃ n46, HLd Tryz.prog S10 3 (.pointer (some (a2.add 1))) w4 (.int .i64 n46) ∧
    ∃ p47 l47 c47, Pu Tryz.prog (Instr.sliceAt 25 (.slice p33 l33 c33) none (some (.int .i64 n46)) none) (.slice p47 l47 c47) ∧
    ∃ n52, HLd Tryz.prog S10 3 (.pointer (some (a2.add 1))) w4 (.int .i64 n52) ∧
    ∃ p53 l53 c53, Pu Tryz.prog (Instr.sliceAt 25 (.slice p33 l33 c33) (some (.int .i64 n52)) none none) (.slice p53 l53 c53) ∧
    (callF Tryz.prog 42 #[.int .u8 n42] w4 fun r43 w5 =>
      ∃ n43, r43 = .int .i64 n43 ∧
      (w5 = w4 ∨ S10 w5) ∧
      (∃ p48 l48 c48 w6, Ef Tryz.prog (Instr.buildSlice 45 1 #[(0, .slice p47 l47 c47)]) w5 (.slice p48 l48 c48) w6 ∧
        (w6 = w5 ∨ S10 w6) ∧
        (callF Tryz.prog 112 #[.slice p48 l48 c48] w6 fun r49 w7 =>
          ∃ p49 l49 c49, r49 = .slice p49 l49 c49 ∧
          (w7 = w6 ∨ S10 w7) ∧
          ∃ p54 l54 c54 w8, Ef Tryz.prog (Instr.buildSlice 45 1 #[(0, .slice p53 l53 c53)]) w7 (.slice p54 l54 c54) w8 ∧
          (w8 = w7 ∨ S10 w8) ∧
          callF Tryz.prog 112 #[.slice p54 l54 c54] w8 fun r55 w9 =>
          ∃ p55 l55 c55, r55 = .slice p55 l55 c55 ∧
          ∃ w10, Sto Tryz.prog 55 (.pointer (some a4)) (.agg #[.int .i64 n43, .slice p49 l49 c49, .slice p55 l55 c55]) w9 w10 ∧
          codec_Back_j1 a4 0 w10 Q) ∧
        (∃ p54_1 l54_1 c54_1 w11, Ef Tryz.prog (Instr.buildSlice 45 1 #[(0, .slice p53 l53 c53)]) w6 (.slice p54_1 l54_1 c54_1) w11 ∧
          (w11 = w6 ∨ S10 w11) ∧
          callF Tryz.prog 112 #[.slice p48 l48 c48] w11 fun r49_1 w12 =>
          ∃ p49_1 l49_1 c49_1, r49_1 = .slice p49_1 l49_1 c49_1 ∧
          (w12 = w11 ∨ S10 w12) ∧
          callF Tryz.prog 112 #[.slice p54_1 l54_1 c54_1] w12 fun r55_1 w13 =>
          ∃ p55_1 l55_1 c55_1, r55_1 = .slice p55_1 l55_1 c55_1 ∧
          ∃ w14, Sto Tryz.prog 55 (.pointer (some a4)) (.agg #[.int .i64 n43, .slice p49_1 l49_1 c49_1, .slice p55_1 l55_1 c55_1]) w13 w14 ∧
          codec_Back_j1 a4 0 w14 Q)) ∧
      (∃ p54_2 l54_2 c54_2 w15, Ef Tryz.prog (Instr.buildSlice 45 1 #[(0, .slice p53 l53 c53)]) w5 (.slice p54_2 l54_2 c54_2) w15 ∧
        (w15 = w5 ∨ S10 w15) ∧
        ∃ p48_1 l48_1 c48_1 w16, Ef Tryz.prog (Instr.buildSlice 45 1 #[(0, .slice p47 l47 c47)]) w15 (.slice p48_1 l48_1 c48_1) w16 ∧
        (w16 = w15 ∨ S10 w16) ∧
        callF Tryz.prog 112 #[.slice p48_1 l48_1 c48_1] w16 fun r49_2 w17 =>
        ∃ p49_2 l49_2 c49_2, r49_2 = .slice p49_2 l49_2 c49_2 ∧
        (w17 = w16 ∨ S10 w17) ∧
        callF Tryz.prog 112 #[.slice p54_2 l54_2 c54_2] w17 fun r55_2 w18 =>
        ∃ p55_2 l55_2 c55_2, r55_2 = .slice p55_2 l55_2 c55_2 ∧
        ∃ w19, Sto Tryz.prog 55 (.pointer (some a4)) (.agg #[.int .i64 n43, .slice p49_2 l49_2 c49_2, .slice p55_2 l55_2 c55_2]) w18 w19 ∧
        codec_Back_j1 a4 0 w19 Q)) ∧
    (∃ p48_2 l48_2 c48_2 w20, Ef Tryz.prog (Instr.buildSlice 45 1 #[(0, .slice p47 l47 c47)]) w4 (.slice p48_2 l48_2 c48_2) w20 ∧
      (w20 = w4 ∨ S10 w20) ∧
      (callF Tryz.prog 42 #[.int .u8 n42] w20 fun r43_1 w21 =>
        ∃ n43_1, r43_1 = .int .i64 n43_1 ∧
        (w21 = w20 ∨ S10 w21) ∧
        (callF Tryz.prog 112 #[.slice p48_2 l48_2 c48_2] w21 fun r49_3 w22 =>
          ∃ p49_3 l49_3 c49_3, r49_3 = .slice p49_3 l49_3 c49_3 ∧
          (w22 = w21 ∨ S10 w22) ∧
          ∃ p54_3 l54_3 c54_3 w23, Ef Tryz.prog (Instr.buildSlice 45 1 #[(0, .slice p53 l53 c53)]) w22 (.slice p54_3 l54_3 c54_3) w23 ∧
          (w23 = w22 ∨ S10 w23) ∧
          callF Tryz.prog 112 #[.slice p54_3 l54_3 c54_3] w23 fun r55_3 w24 =>
          ∃ p55_3 l55_3 c55_3, r55_3 = .slice p55_3 l55_3 c55_3 ∧
          ∃ w25, Sto Tryz.prog 55 (.pointer (some a4)) (.agg #[.int .i64 n43_1, .slice p49_3 l49_3 c49_3, .slice p55_3 l55_3 c55_3]) w24 w25 ∧
          codec_Back_j1 a4 0 w25 Q) ∧
        (∃ p54_4 l54_4 c54_4 w26, Ef Tryz.prog (Instr.buildSlice 45 1 #[(0, .slice p53 l53 c53)]) w21 (.slice p54_4 l54_4 c54_4) w26 ∧
          (w26 = w21 ∨ S10 w26) ∧
          callF Tryz.prog 112 #[.slice p48_2 l48_2 c48_2] w26 fun r49_4 w27 =>
          ∃ p49_4 l49_4 c49_4, r49_4 = .slice p49_4 l49_4 c49_4 ∧
          (w27 = w26 ∨ S10 w27) ∧
          callF Tryz.prog 112 #[.slice p54_4 l54_4 c54_4] w27 fun r55_4 w28 =>
          ∃ p55_4 l55_4 c55_4, r55_4 = .slice p55_4 l55_4 c55_4 ∧
          ∃ w29, Sto Tryz.prog 55 (.pointer (some a4)) (.agg #[.int .i64 n43_1, .slice p49_4 l49_4 c49_4, .slice p55_4 l55_4 c55_4]) w28 w29 ∧
          codec_Back_j1 a4 0 w29 Q)) ∧
      (∃ p54_5 l54_5 c54_5 w30, Ef Tryz.prog (Instr.buildSlice 45 1 #[(0, .slice p53 l53 c53)]) w20 (.slice p54_5 l54_5 c54_5) w30 ∧
        (w30 = w20 ∨ S10 w30) ∧
        callF Tryz.prog 42 #[.int .u8 n42] w30 fun r43_2 w31 =>
        ∃ n43_2, r43_2 = .int .i64 n43_2 ∧
        (w31 = w30 ∨ S10 w31) ∧
        callF Tryz.prog 112 #[.slice p48_2 l48_2 c48_2] w31 fun r49_5 w32 =>
        ∃ p49_5 l49_5 c49_5, r49_5 = .slice p49_5 l49_5 c49_5 ∧
        (w32 = w31 ∨ S10 w32) ∧
        callF Tryz.prog 112 #[.slice p54_5 l54_5 c54_5] w32 fun r55_5 w33 =>
        ∃ p55_5 l55_5 c55_5, r55_5 = .slice p55_5 l55_5 c55_5 ∧
        ∃ w34, Sto Tryz.prog 55 (.pointer (some a4)) (.agg #[.int .i64 n43_2, .slice p49_5 l49_5 c49_5, .slice p55_5 l55_5 c55_5]) w33 w34 ∧
        codec_Back_j1 a4 0 w34 Q)) ∧
    (∃ p54_6 l54_6 c54_6 w35, Ef Tryz.prog (Instr.buildSlice 45 1 #[(0, .slice p53 l53 c53)]) w4 (.slice p54_6 l54_6 c54_6) w35 ∧
      (w35 = w4 ∨ S10 w35) ∧
      (callF Tryz.prog 42 #[.int .u8 n42] w35 fun r43_3 w36 =>
        ∃ n43_3, r43_3 = .int .i64 n43_3 ∧
        (w36 = w35 ∨ S10 w36) ∧
        ∃ p48_3 l48_3 c48_3 w37, Ef Tryz.prog (Instr.buildSlice 45 1 #[(0, .slice p47 l47 c47)]) w36 (.slice p48_3 l48_3 c48_3) w37 ∧
        (w37 = w36 ∨ S10 w37) ∧
        callF Tryz.prog 112 #[.slice p48_3 l48_3 c48_3] w37 fun r49_6 w38 =>
        ∃ p49_6 l49_6 c49_6, r49_6 = .slice p49_6 l49_6 c49_6 ∧
        (w38 = w37 ∨ S10 w38) ∧
        callF Tryz.prog 112 #[.slice p54_6 l54_6 c54_6] w38 fun r55_6 w39 =>
        ∃ p55_6 l55_6 c55_6, r55_6 = .slice p55_6 l55_6 c55_6 ∧
        ∃ w40, Sto Tryz.prog 55 (.pointer (some a4)) (.agg #[.int .i64 n43_3, .slice p49_6 l49_6 c49_6, .slice p55_6 l55_6 c55_6]) w39 w40 ∧
        codec_Back_j1 a4 0 w40 Q) ∧
      (∃ p48_4 l48_4 c48_4 w41, Ef Tryz.prog (Instr.buildSlice 45 1 #[(0, .slice p47 l47 c47)]) w35 (.slice p48_4 l48_4 c48_4) w41 ∧
        (w41 = w35 ∨ S10 w41) ∧
        callF Tryz.prog 42 #[.int .u8 n42] w41 fun r43_4 w42 =>
        ∃ n43_4, r43_4 = .int .i64 n43_4 ∧
        (w42 = w41 ∨ S10 w42) ∧
        callF Tryz.prog 112 #[.slice p48_4 l48_4 c48_4] w42 fun r49_7 w43 =>
        ∃ p49_7 l49_7 c49_7, r49_7 = .slice p49_7 l49_7 c49_7 ∧
        (w43 = w42 ∨ S10 w43) ∧
        callF Tryz.prog 112 #[.slice p54_6 l54_6 c54_6] w43 fun r55_7 w44 =>
        ∃ p55_7 l55_7 c55_7, r55_7 = .slice p55_7 l55_7 c55_7 ∧
        ∃ w45, Sto Tryz.prog 55 (.pointer (some a4)) (.agg #[.int .i64 n43_4, .slice p49_7 l49_7 c49_7, .slice p55_7 l55_7 c55_7]) w44 w45 ∧
        codec_Back_j1 a4 0 w45 Q)))
def codec_Back (cs0 : Array Value) (p1 : Option Addr) (l1 : Nat) (c1 : Nat) (w : World) (Q : Value → World → Prop) : Prop :=
  New cs0 24 w fun k2 w1 =>
  ∃ z4, Pu Tryz.prog (zeroValue 55) z4 ∧
  New z4.cells 55 w1 fun k4 w2 =>
  ∃ (cs9 : Array Value), Ld Tryz.prog 24 (.pointer (some (⟨k2, 0, none⟩ : Addr))) w2 (.agg cs9) ∧
  callF Tryz.prog 101 #[.agg cs9] w2 fun r10 w3 =>
  ∃ b10, r10 = .bool b10 ∧
  cond (!b10)
  (∃ w4, Sto Tryz.prog 55 (.pointer (some (⟨k4, 0, none⟩ : Addr))) (.agg #[.int .i64 0, .slice none 0 0, .slice none 0 0]) w3 w4 ∧
    ∃ a4 v4, (.pointer (some (⟨k4, 0, none⟩ : Addr)) : Value) = .pointer (some a4) ∧ (loadVar 55 a4).run Tryz.prog w4 = .ok v4 w4 ∧
    Q (.tuple #[v4, .int .i64 19]) w4)
  (∃ (cs16 : Array Value), Ld Tryz.prog 24 (.pointer (some (⟨k2, 0, none⟩ : Addr))) w3 (.agg cs16) ∧
    callF Tryz.prog 41 #[.agg cs16] w3 fun r17 w5 =>
    ∃ n17, r17 = .int .i64 n17 ∧
    cond (((l1 : Nat) : Int) != n17)
    (∃ w6, Sto Tryz.prog 55 (.pointer (some (⟨k4, 0, none⟩ : Addr))) (.agg #[.int .i64 0, .slice none 0 0, .slice none 0 0]) w5 w6 ∧
      ∃ a4_1 v4_1, (.pointer (some (⟨k4, 0, none⟩ : Addr)) : Value) = .pointer (some a4_1) ∧ (loadVar 55 a4_1).run Tryz.prog w6 = .ok v4_1 w6 ∧
      Q (.tuple #[v4_1, .int .i64 11]) w6)
    (∃ a22, IxA Tryz.prog 25 (.slice p1 l1 c1) (.int .i64 0) a22 ∧
      ∃ n23, Ld Tryz.prog 5 (.pointer (some a22)) w5 (.int .u8 n23) ∧
      callF Tryz.prog 43 #[.int .u8 n23] w5 fun r24 w7 =>
      ∃ n24, r24 = .int .i64 n24 ∧
      cond (n24 != ((l1 : Nat) : Int))
      (∃ w8, Sto Tryz.prog 55 (.pointer (some (⟨k4, 0, none⟩ : Addr))) (.agg #[.int .i64 0, .slice none 0 0, .slice none 0 0]) w7 w8 ∧
        ∃ a4_2 v4_2, (.pointer (some (⟨k4, 0, none⟩ : Addr)) : Value) = .pointer (some a4_2) ∧ (loadVar 55 a4_2).run Tryz.prog w8 = .ok v4_2 w8 ∧
        Q (.tuple #[v4_2, .int .i64 10]) w8)
      (codec_Back_j2 p1 l1 c1 (⟨k2, 0, none⟩ : Addr) (⟨k4, 0, none⟩ : Addr) 0 w7 Q)))
def codec_Back_tt : Nat → List (Nat × TypeId) := fun _ => []
theorem codec_Back_call (cs0 : Array Value) (p1 : Option Addr) (l1 : Nat) (c1 : Nat) (w : World) (Q : Value → World → Prop) (h : codec_Back cs0 p1 l1 c1 w Q) : callF Tryz.prog 37 #[.agg cs0, .slice p1 l1 c1] w Q :=
  callBy codec_Back_tt Tryz.func37 h (fun _ _ => by kernel_rfl) (by kernel_rfl) (by kernel_rfl) (by kernel_rfl)
def codec_Point (n0 : Int) (w : World) (Q : Value → World → Prop) : Prop :=
  Q (.int .i64 (IntKind.i64.wrap (Int.fdiv n0 (2 ^ 6)))) w
def codec_Point_tt : Nat → List (Nat × TypeId) := fun _ => []
theorem codec_Point_call (n0 : Int) (w : World) (Q : Value → World → Prop) (h : codec_Point n0 w Q) : callF Tryz.prog 42 #[.int .u8 n0] w Q :=
  callBy codec_Point_tt Tryz.func42 h (fun _ _ => by kernel_rfl) (by kernel_rfl) (by kernel_rfl) (by kernel_rfl)
def codec_Told (n0 : Int) (w : World) (Q : Value → World → Prop) : Prop :=
  Q (.int .i64 (IntKind.i64.wrap ((IntKind.i64.wrap (iand .u8 n0 63)) + 1))) w
def codec_Told_tt : Nat → List (Nat × TypeId) := fun _ => []
theorem codec_Told_call (n0 : Int) (w : World) (Q : Value → World → Prop) (h : codec_Told n0 w Q) : callF Tryz.prog 43 #[.int .u8 n0] w Q :=
  callBy codec_Told_tt Tryz.func43 h (fun _ _ => by kernel_rfl) (by kernel_rfl) (by kernel_rfl) (by kernel_rfl)
def codec_Make_j1 (n1 : Int) (p2 : Option Addr) (l2 : Nat) (c2 : Nat) (p3 : Option Addr) (l3 : Nat) (c3 : Nat) (a4 : Addr) (p8 : Option Addr) (l8 : Nat) (c8 : Nat) (n9 : Int) (w : World) (Q : Value → World → Prop) : Prop :=
  ∃ (S5 : World → Prop),
  Drw w fun w1 =>
  ∃ (cs38 : Array Value), HLd Tryz.prog S5 24 (.pointer (some a4)) w1 (.agg cs38) ∧
  ∃ p41 l41 c41 w2, Ef Tryz.prog (Instr.buildSlice 45 2 #[(0, .slice p2 l2 c2), (1, .slice p3 l3 c3)]) w1 (.slice p41 l41 c41) w2 ∧
  (w2 = w1 ∨ S5 w2) ∧
  callF Tryz.prog 112 #[.slice p41 l41 c41] w2 fun r42 w3 =>
  ∃ p42 l42 c42, r42 = .slice p42 l42 c42 ∧
  (w3 = w2 ∨ S5 w3) ∧
  callF Tryz.prog 183 #[.agg cs38, .slice p42 l42 c42] w3 fun r43 w4 =>
  ∃ p43 l43 c43 n43, r43 = .tuple #[.slice p43 l43 c43, .int .i64 n43] ∧
  cond (n43 != 0)
  (Q (.tuple #[.slice none 0 0, .int .i64 n43]) w4)
  (callF Tryz.prog 184 #[.int .i64 n1, .slice p43 l43 c43] w4 fun r51 w5 =>
    ∃ p51 l51 c51, r51 = .slice p51 l51 c51 ∧
    Q (.tuple #[.slice p51 l51 c51, .int .i64 0]) w5)
def codec_Make (cs0 : Array Value) (n1 : Int) (p2 : Option Addr) (l2 : Nat) (c2 : Nat) (p3 : Option Addr) (l3 : Nat) (c3 : Nat) (w : World) (Q : Value → World → Prop) : Prop :=
  New cs0 24 w fun k4 w1 =>
  ∃ (cs13 : Array Value), Ld Tryz.prog 24 (.pointer (some (⟨k4, 0, none⟩ : Addr))) w1 (.agg cs13) ∧
  callF Tryz.prog 101 #[.agg cs13] w1 fun r14 w2 =>
  ∃ b14, r14 = .bool b14 ∧
  cond (!b14)
  (Q (.tuple #[.slice none 0 0, .int .i64 19]) w2)
  (cond (decide (n1 < 0))
    (Q (.tuple #[.slice none 0 0, .int .i64 11]) w2)
    (cond (decide (n1 ≥ 3))
      (Q (.tuple #[.slice none 0 0, .int .i64 11]) w2)
      (∃ n27, Ld Tryz.prog 3 (.pointer (some ((⟨k4, 0, none⟩ : Addr).add 1))) w2 (.int .i64 n27) ∧
        cond (((l2 : Nat) : Int) != n27)
        (Q (.tuple #[.slice none 0 0, .int .i64 11]) w2)
        (∃ n34, Ld Tryz.prog 3 (.pointer (some ((⟨k4, 0, none⟩ : Addr).add 2))) w2 (.int .i64 n34) ∧
          cond (((l3 : Nat) : Int) != n34)
          (Q (.tuple #[.slice none 0 0, .int .i64 11]) w2)
          (codec_Make_j1 n1 p2 l2 c2 p3 l3 c3 (⟨k4, 0, none⟩ : Addr) none 0 0 0 w2 Q)))))
def codec_Make_tt : Nat → List (Nat × TypeId) := fun _ => []
theorem codec_Make_call (cs0 : Array Value) (n1 : Int) (p2 : Option Addr) (l2 : Nat) (c2 : Nat) (p3 : Option Addr) (l3 : Nat) (c3 : Nat) (w : World) (Q : Value → World → Prop) (h : codec_Make cs0 n1 p2 l2 c2 p3 l3 c3 w Q) : callF Tryz.prog 110 #[.agg cs0, .int .i64 n1, .slice p2 l2 c2, .slice p3 l3 c3] w Q :=
  callBy codec_Make_tt Tryz.func110 h (fun _ _ => by kernel_rfl) (by kernel_rfl) (by kernel_rfl) (by kernel_rfl)
def codec_id (n0 : Int) (p1 : Option Addr) (l1 : Nat) (c1 : Nat) (w : World) (Q : Value → World → Prop) : Prop :=
  ∃ p11 l11 c11 w1, Ef Tryz.prog (Instr.buildSlice 25 1 #[(0, .int .u8 (IntKind.u8.wrap (ior .i64 (IntKind.i64.wrap (n0 * 2 ^ 6)) ((l1 : Nat) : Int))))]) w (.slice p11 l11 c11) w1 ∧
  ∃ p13 l13 c13 w2, Ef Tryz.prog (Instr.buildSlice 45 2 #[(0, .slice p11 l11 c11), (1, .slice p1 l1 c1)]) w1 (.slice p13 l13 c13) w2 ∧
  callF Tryz.prog 112 #[.slice p13 l13 c13] w2 fun r14 w3 =>
  ∃ p14 l14 c14, r14 = .slice p14 l14 c14 ∧
  Q (.slice p14 l14 c14) w3
def codec_id_tt : Nat → List (Nat × TypeId) := fun _ => []
theorem codec_id_call (n0 : Int) (p1 : Option Addr) (l1 : Nat) (c1 : Nat) (w : World) (Q : Value → World → Prop) (h : codec_id n0 p1 l1 c1 w Q) : callF Tryz.prog 184 #[.int .i64 n0, .slice p1 l1 c1] w Q :=
  callBy codec_id_tt Tryz.func184 h (fun _ _ => by kernel_rfl) (by kernel_rfl) (by kernel_rfl) (by kernel_rfl)
end Go.Sh
end

section
namespace Go.Sh
open Go Go.Fw Go.Proofs
set_option maxRecDepth 100000
set_option linter.unusedVariables false
def slot_New  (w : World) (Q : Value → World → Prop) : Prop :=
  New #[.int .i64 0, .int .i64 0, .int .i64 0, .int .u8 0, .int .u8 0, .int .u8 0, .int .u8 0, .int .u8 0, .int .u8 0, .int .u8 0, .int .u8 0, .int .u8 0, .int .u8 0, .int .u8 0, .int .u8 0, .int .u8 0, .int .u8 0, .int .u8 0, .int .u8 0, .int .i64 0, .int .i64 0, .int .i64 0, .int .i64 0, .int .u8 0, .int .u8 0, .int .u8 0, .int .u8 0, .int .u8 0, .int .u8 0, .int .u8 0, .int .u8 0, .int .u8 0, .int .u8 0, .int .u8 0, .int .u8 0, .int .u8 0, .int .u8 0, .int .u8 0, .int .u8 0, .int .i64 0, .int .i64 0, .int .i64 0, .int .i64 0, .int .u8 0, .int .u8 0, .int .u8 0, .int .u8 0, .int .u8 0, .int .u8 0, .int .u8 0, .int .u8 0, .int .u8 0, .int .u8 0, .int .u8 0, .int .u8 0, .int .u8 0, .int .u8 0, .int .u8 0, .int .u8 0, .int .i64 0, .int .i64 0] 195 w fun k2 w1 =>
  Q (.pointer (some (⟨k2, 0, none⟩ : Addr))) w1
def slot_New_tt : Nat → List (Nat × TypeId) := fun _ => []
theorem slot_New_call  (w : World) (Q : Value → World → Prop) (h : slot_New  w Q) : callF Tryz.prog 39 #[] w Q :=
  callBy slot_New_tt Tryz.func39 h (fun _ _ => by kernel_rfl) (by kernel_rfl) (by kernel_rfl) (by kernel_rfl)
def slot_Slots_Install_j1 (p0 : Option Addr) (a5 : Addr) (n6 : Int) (p7 : Option Addr) (w : World) (Q : Value → World → Prop) : Prop :=
  ∃ a25, p0 = some a25 ∧
  ∃ n27, Ld Tryz.prog 2 (.pointer (some (a25.add 60))) w (.int .i64 n27) ∧
  ∃ a29, p0 = some a29 ∧
  ∃ w1, Sto Tryz.prog 2 (.pointer (some (a29.add 60))) (.int .i64 (IntKind.i64.wrap (n27 + 1))) w w1 ∧
  ∃ (S9 : World → Prop),
  Drw w1 fun w2 =>
  ∃ a34, p0 = some a34 ∧
  ∃ (cs32 : Array Value), HLd Tryz.prog S9 24 (.pointer (some a5)) w2 (.agg cs32) ∧
  ∃ n36, Ld Tryz.prog 2 (.pointer (some (a34.add 60))) w2 (.int .i64 n36) ∧
  (w2 = w2 ∨ S9 w2) ∧
  ∃ (cs37 : Array Value), Pu Tryz.prog (Instr.build 192 #[(0, .agg cs32), (1, .int .i64 n36)]) (.agg cs37) ∧
  ∃ a38, p7 = some a38 ∧
  ∃ w3, Sto Tryz.prog 192 (.pointer (some a38)) (.agg cs37) w2 w3 ∧
  Q (.int .i64 0) w3
def slot_Slots_Install (p0 : Option Addr) (n1 : Int) (cs2 : Array Value) (w : World) (Q : Value → World → Prop) : Prop :=
  New cs2 24 w fun k5 w1 =>
  callF Tryz.prog 113 #[.pointer p0, .int .i64 n1] w1 fun r10 w2 =>
  ∃ p10, r10 = .pointer p10 ∧
  ∃ b13 w3, Ef Tryz.prog (do eqGuard .eql 196 (.tmp 12) (.const (.pointer none)) (.pointer p10) (.pointer none); binOp .eql 196 (.pointer p10) (.pointer none) : Sem Value) w2 (.bool b13) w3 ∧
  cond b13
  (Q (.int .i64 11) w3)
  (∃ (cs15 : Array Value), Ld Tryz.prog 24 (.pointer (some (⟨k5, 0, none⟩ : Addr))) w3 (.agg cs15) ∧
    callF Tryz.prog 101 #[.agg cs15] w3 fun r16 w4 =>
    ∃ b16, r16 = .bool b16 ∧
    cond (!b16)
    (Q (.int .i64 10) w4)
    (∃ a20, p10 = some a20 ∧
      ∃ n22, Ld Tryz.prog 2 (.pointer (some (a20.add 19))) w4 (.int .i64 n22) ∧
      cond (n22 != 0)
      (Q (.int .i64 16) w4)
      (slot_Slots_Install_j1 p0 (⟨k5, 0, none⟩ : Addr) 0 p10 w4 Q)))
def slot_Slots_Install_tt : Nat → List (Nat × TypeId) := fun _ => []
theorem slot_Slots_Install_call (p0 : Option Addr) (n1 : Int) (cs2 : Array Value) (w : World) (Q : Value → World → Prop) (h : slot_Slots_Install p0 n1 cs2 w Q) : callF Tryz.prog 40 #[.pointer p0, .int .i64 n1, .agg cs2] w Q :=
  callBy slot_Slots_Install_tt Tryz.func40 h (fun _ _ => by kernel_rfl) (by kernel_rfl) (by kernel_rfl) (by kernel_rfl)
def slot_Slots_Show (p0 : Option Addr) (p1 : Option Addr) (l1 : Nat) (c1 : Nat) (w : World) (Q : Value → World → Prop) : Prop :=
  ∃ z4, Pu Tryz.prog (zeroValue 55) z4 ∧
  New z4.cells 55 w fun k4 w1 =>
  cond (((l1 : Nat) : Int) == 0)
  (∃ w2, Sto Tryz.prog 55 (.pointer (some (⟨k4, 0, none⟩ : Addr))) (.agg #[.int .i64 0, .slice none 0 0, .slice none 0 0]) w1 w2 ∧
    ∃ a4 v4, (.pointer (some (⟨k4, 0, none⟩ : Addr)) : Value) = .pointer (some a4) ∧ (loadVar 55 a4).run Tryz.prog w2 = .ok v4 w2 ∧
    Q (.tuple #[v4, .int .i64 12]) w2)
  (∃ a15, IxA Tryz.prog 25 (.slice p1 l1 c1) (.int .i64 0) a15 ∧
    ∃ n16, Ld Tryz.prog 5 (.pointer (some a15)) w1 (.int .u8 n16) ∧
    callF Tryz.prog 42 #[.int .u8 n16] w1 fun r17 w3 =>
    ∃ n17, r17 = .int .i64 n17 ∧
    callF Tryz.prog 115 #[.pointer p0, .int .i64 n17] w3 fun r18 w4 =>
    ∃ (cs18 : Array Value) (b18 : Bool), r18 = .tuple #[.agg cs18, .bool b18] ∧
    ∃ z6, Pu Tryz.prog (zeroValue 24) z6 ∧
    New z6.cells 24 w4 fun k6 w5 =>
    ∃ w6, Sto Tryz.prog 24 (.pointer (some (⟨k6, 0, none⟩ : Addr))) (.agg cs18) w5 w6 ∧
    cond (!b18)
    (∃ w7, Sto Tryz.prog 55 (.pointer (some (⟨k4, 0, none⟩ : Addr))) (.agg #[.int .i64 0, .slice none 0 0, .slice none 0 0]) w6 w7 ∧
      ∃ a4_1 v4_1, (.pointer (some (⟨k4, 0, none⟩ : Addr)) : Value) = .pointer (some a4_1) ∧ (loadVar 55 a4_1).run Tryz.prog w7 = .ok v4_1 w7 ∧
      Q (.tuple #[v4_1, .int .i64 17]) w7)
    (∃ (cs24 : Array Value), Ld Tryz.prog 24 (.pointer (some (⟨k6, 0, none⟩ : Addr))) w6 (.agg cs24) ∧
      callF Tryz.prog 37 #[.agg cs24, .slice p1 l1 c1] w6 fun r26 w8 =>
      ∃ n26 p26 l26 c26 p26_1 l26_1 c26_1 n26_1, r26 = .tuple #[.agg #[.int .i64 n26, .slice p26 l26 c26, .slice p26_1 l26_1 c26_1], .int .i64 n26_1] ∧
      ∃ w9, Sto Tryz.prog 55 (.pointer (some (⟨k4, 0, none⟩ : Addr))) (.agg #[.int .i64 n26, .slice p26 l26 c26, .slice p26_1 l26_1 c26_1]) w8 w9 ∧
      ∃ a4_2 v4_2, (.pointer (some (⟨k4, 0, none⟩ : Addr)) : Value) = .pointer (some a4_2) ∧ (loadVar 55 a4_2).run Tryz.prog w9 = .ok v4_2 w9 ∧
      Q (.tuple #[v4_2, .int .i64 n26_1]) w9))
def slot_Slots_Show_tt : Nat → List (Nat × TypeId) := fun _ => []
theorem slot_Slots_Show_call (p0 : Option Addr) (p1 : Option Addr) (l1 : Nat) (c1 : Nat) (w : World) (Q : Value → World → Prop) (h : slot_Slots_Show p0 p1 l1 c1 w Q) : callF Tryz.prog 44 #[.pointer p0, .slice p1 l1 c1] w Q :=
  callBy slot_Slots_Show_tt Tryz.func44 h (fun _ _ => by kernel_rfl) (by kernel_rfl) (by kernel_rfl) (by kernel_rfl)
def slot_Slots_Short_j1 (a4 : Addr) (n5 : Int) (p6 : Option Addr) (l6 : Nat) (c6 : Nat) (a7 : Addr) (w : World) (Q : Value → World → Prop) : Prop :=
  ∃ (S9 : World → Prop),
  Drw w fun w1 =>
  ∃ (cs35 : Array Value), HLd Tryz.prog S9 24 (.pointer (some a7)) w1 (.agg cs35) ∧
  ∃ (cs37 : Array Value), Ld Tryz.prog 24 (.pointer (some a7)) w1 (.agg cs37) ∧
  (w1 = w1 ∨ S9 w1) ∧
  callF Tryz.prog 41 #[.agg cs37] w1 fun r38 w2 =>
  ∃ n38, r38 = .int .i64 n38 ∧
  (w2 = w1 ∨ S9 w2) ∧
  ∃ p39 l39 c39, Pu Tryz.prog (Instr.sliceAt 25 (.slice p6 l6 c6) none (some (.int .i64 n38)) none) (.slice p39 l39 c39) ∧
  callF Tryz.prog 37 #[.agg cs35, .slice p39 l39 c39] w2 fun r40 w3 =>
  ∃ n40 p40 l40 c40 p40_1 l40_1 c40_1 n40_1, r40 = .tuple #[.agg #[.int .i64 n40, .slice p40 l40 c40, .slice p40_1 l40_1 c40_1], .int .i64 n40_1] ∧
  ∃ w4, Sto Tryz.prog 55 (.pointer (some a4)) (.agg #[.int .i64 n40, .slice p40 l40 c40, .slice p40_1 l40_1 c40_1]) w3 w4 ∧
  ∃ a4_1 v4, (.pointer (some a4) : Value) = .pointer (some a4_1) ∧ (loadVar 55 a4_1).run Tryz.prog w4 = .ok v4 w4 ∧
  Q (.tuple #[v4, .int .i64 n40_1]) w4
def slot_Slots_Short (p0 : Option Addr) (p1 : Option Addr) (l1 : Nat) (c1 : Nat) (w : World) (Q : Value → World → Prop) : Prop :=
  ∃ z4, Pu Tryz.prog (zeroValue 55) z4 ∧
  New z4.cells 55 w fun k4 w1 =>
  cond (decide (((l1 : Nat) : Int) < 2))
  (∃ w2, Sto Tryz.prog 55 (.pointer (some (⟨k4, 0, none⟩ : Addr))) (.agg #[.int .i64 0, .slice none 0 0, .slice none 0 0]) w1 w2 ∧
    ∃ a4 v4, (.pointer (some (⟨k4, 0, none⟩ : Addr)) : Value) = .pointer (some a4) ∧ (loadVar 55 a4).run Tryz.prog w2 = .ok v4 w2 ∧
    Q (.tuple #[v4, .int .i64 12]) w2)
  (∃ p14 l14 c14, Pu Tryz.prog (Instr.sliceAt 25 (.slice p1 l1 c1) (some (.int .i64 1)) none none) (.slice p14 l14 c14) ∧
    ∃ a18, IxA Tryz.prog 25 (.slice p14 l14 c14) (.int .i64 0) a18 ∧
    ∃ n19, Ld Tryz.prog 5 (.pointer (some a18)) w1 (.int .u8 n19) ∧
    callF Tryz.prog 42 #[.int .u8 n19] w1 fun r20 w3 =>
    ∃ n20, r20 = .int .i64 n20 ∧
    callF Tryz.prog 115 #[.pointer p0, .int .i64 n20] w3 fun r21 w4 =>
    ∃ (cs21 : Array Value) (b21 : Bool), r21 = .tuple #[.agg cs21, .bool b21] ∧
    ∃ z7, Pu Tryz.prog (zeroValue 24) z7 ∧
    New z7.cells 24 w4 fun k7 w5 =>
    ∃ w6, Sto Tryz.prog 24 (.pointer (some (⟨k7, 0, none⟩ : Addr))) (.agg cs21) w5 w6 ∧
    cond (!b21)
    (∃ w7, Sto Tryz.prog 55 (.pointer (some (⟨k4, 0, none⟩ : Addr))) (.agg #[.int .i64 0, .slice none 0 0, .slice none 0 0]) w6 w7 ∧
      ∃ a4_1 v4_1, (.pointer (some (⟨k4, 0, none⟩ : Addr)) : Value) = .pointer (some a4_1) ∧ (loadVar 55 a4_1).run Tryz.prog w7 = .ok v4_1 w7 ∧
      Q (.tuple #[v4_1, .int .i64 17]) w7)
    (∃ (cs31 : Array Value), Ld Tryz.prog 24 (.pointer (some (⟨k7, 0, none⟩ : Addr))) w6 (.agg cs31) ∧
      callF Tryz.prog 41 #[.agg cs31] w6 fun r32 w8 =>
      ∃ n32, r32 = .int .i64 n32 ∧
      cond (decide (((l14 : Nat) : Int) < n32))
      (∃ w9, Sto Tryz.prog 55 (.pointer (some (⟨k4, 0, none⟩ : Addr))) (.agg #[.int .i64 0, .slice none 0 0, .slice none 0 0]) w8 w9 ∧
        ∃ a4_2 v4_2, (.pointer (some (⟨k4, 0, none⟩ : Addr)) : Value) = .pointer (some a4_2) ∧ (loadVar 55 a4_2).run Tryz.prog w9 = .ok v4_2 w9 ∧
        Q (.tuple #[v4_2, .int .i64 12]) w9)
      (slot_Slots_Short_j1 (⟨k4, 0, none⟩ : Addr) 0 p14 l14 c14 (⟨k7, 0, none⟩ : Addr) w8 Q)))
def slot_Slots_Short_tt : Nat → List (Nat × TypeId) := fun _ => []
theorem slot_Slots_Short_call (p0 : Option Addr) (p1 : Option Addr) (l1 : Nat) (c1 : Nat) (w : World) (Q : Value → World → Prop) (h : slot_Slots_Short p0 p1 l1 c1 w Q) : callF Tryz.prog 45 #[.pointer p0, .slice p1 l1 c1] w Q :=
  callBy slot_Slots_Short_tt Tryz.func45 h (fun _ _ => by kernel_rfl) (by kernel_rfl) (by kernel_rfl) (by kernel_rfl)
def slot_Slots_at_j1 (p0 : Option Addr) (n1 : Int) (p4 : Option Addr) (w : World) (Q : Value → World → Prop) : Prop :=
  ∃ a13, p0 = some a13 ∧
  ∃ a15, IxA Tryz.prog 193 (.pointer (some (a13.add 0))) (.int .i64 n1) a15 ∧
  Q (.pointer (some a15)) w
def slot_Slots_at (p0 : Option Addr) (n1 : Int) (w : World) (Q : Value → World → Prop) : Prop :=
  cond (decide (n1 < 0))
  (Q (.pointer none) w)
  (cond (decide (n1 ≥ 3))
    (Q (.pointer none) w)
    (slot_Slots_at_j1 p0 n1 none w Q))
def slot_Slots_at_tt : Nat → List (Nat × TypeId) := fun _ => []
theorem slot_Slots_at_call (p0 : Option Addr) (n1 : Int) (w : World) (Q : Value → World → Prop) (h : slot_Slots_at p0 n1 w Q) : callF Tryz.prog 113 #[.pointer p0, .int .i64 n1] w Q :=
  callBy slot_Slots_at_tt Tryz.func113 h (fun _ _ => by kernel_rfl) (by kernel_rfl) (by kernel_rfl) (by kernel_rfl)
def slot_Slots_Of_j1 (a4 : Addr) (b5 : Bool) (p6 : Option Addr) (w : World) (Q : Value → World → Prop) : Prop :=
  ∃ a21, p6 = some a21 ∧
  ∃ (cs23 : Array Value), Ld Tryz.prog 24 (.pointer (some (a21.add 0))) w (.agg cs23) ∧
  ∃ w1, Sto Tryz.prog 24 (.pointer (some a4)) (.agg cs23) w w1 ∧
  ∃ a4_1 v4, (.pointer (some a4) : Value) = .pointer (some a4_1) ∧ (loadVar 24 a4_1).run Tryz.prog w1 = .ok v4 w1 ∧
  Q (.tuple #[v4, .bool true]) w1
def slot_Slots_Of_j2 (a4 : Addr) (b5 : Bool) (p6 : Option Addr) (b18 : Bool) (w : World) (Q : Value → World → Prop) : Prop :=
  cond b18
  (∃ w1, Sto Tryz.prog 24 (.pointer (some a4)) (.agg #[.int .i64 0, .int .i64 0, .int .i64 0, .int .u8 0, .int .u8 0, .int .u8 0, .int .u8 0, .int .u8 0, .int .u8 0, .int .u8 0, .int .u8 0, .int .u8 0, .int .u8 0, .int .u8 0, .int .u8 0, .int .u8 0, .int .u8 0, .int .u8 0, .int .u8 0]) w w1 ∧
    ∃ a4_1 v4, (.pointer (some a4) : Value) = .pointer (some a4_1) ∧ (loadVar 24 a4_1).run Tryz.prog w1 = .ok v4 w1 ∧
    Q (.tuple #[v4, .bool false]) w1)
  (slot_Slots_Of_j1 a4 b5 p6 w Q)
def slot_Slots_Of (p0 : Option Addr) (n1 : Int) (w : World) (Q : Value → World → Prop) : Prop :=
  ∃ z4, Pu Tryz.prog (zeroValue 24) z4 ∧
  New z4.cells 24 w fun k4 w1 =>
  callF Tryz.prog 113 #[.pointer p0, .int .i64 n1] w1 fun r9 w2 =>
  ∃ p9, r9 = .pointer p9 ∧
  ∃ b11 w3, Ef Tryz.prog (do eqGuard .eql 196 (.tmp 10) (.const (.pointer none)) (.pointer p9) (.pointer none); binOp .eql 196 (.pointer p9) (.pointer none) : Sem Value) w2 (.bool b11) w3 ∧
  cond b11
  (slot_Slots_Of_j2 (⟨k4, 0, none⟩ : Addr) false p9 true w3 Q)
  (∃ a14, p9 = some a14 ∧
    ∃ n16, Ld Tryz.prog 2 (.pointer (some (a14.add 19))) w3 (.int .i64 n16) ∧
    slot_Slots_Of_j2 (⟨k4, 0, none⟩ : Addr) false p9 (n16 == 0) w3 Q)
def slot_Slots_Of_tt : Nat → List (Nat × TypeId) := fun _ => []
theorem slot_Slots_Of_call (p0 : Option Addr) (n1 : Int) (w : World) (Q : Value → World → Prop) (h : slot_Slots_Of p0 n1 w Q) : callF Tryz.prog 115 #[.pointer p0, .int .i64 n1] w Q :=
  callBy slot_Slots_Of_tt Tryz.func115 h (fun _ _ => by kernel_rfl) (by kernel_rfl) (by kernel_rfl) (by kernel_rfl)
end Go.Sh
end

section
namespace Go.Sh
open Go Go.Fw Go.Proofs Go.RowKit
set_option maxRecDepth 100000
set_option maxHeartbeats 2000000
theorem maps_Clone_calls (b : Nat) (es : Array MapEntry) (clock : Nat) (w : World) (hb : w.heap[b]? = some (.map es clock)) :
    Calls Tryz.prog 106 #[.map (some b)] w fun e w' => e = .returned (.map (some w.heap.size)) ∧ w' = w.alloc (.map es clock) := by
  have hq := fun w => run_eql_map_nil_sl (P := Tryz.prog) w 64 _ _ (some b) Tryz.underlying64
  go_enter Tryz.func106, Tryz.ntmps106
  go_wp2
  rw [run_callFunc_extern Tryz.func181 (by kernel_rfl) (by kernel_rfl) (by kernel_rfl) (e := Extern.MapsClone.clone) (by kernel_rfl), run_maps_clone_sl w 64 hb]
  simp only [Result.andThen]
  rw [Oper.upon_value]
  go_wp2
  rw [run_typeAssert_map_sl _ 64 20 _ _ _ Tryz.underlying64]
  simp only [Result.andThen]
  rw [Oper.upon_value]
  go_wp2
  go_ret
  exact ⟨rfl, rfl⟩
theorem maps_Clone_c {b : Nat} {ks : List (List UInt8)} {w : World} (hM : SMap w b ks) {K : Value → World → Prop} (h : ∀ w', Fr [] w w' → SMap w' w.heap.size ks → w'.heap.size = w.heap.size + 1 → K (.map (some w.heap.size)) w') :
    callF Tryz.prog 106 #[.map (some b)] w K := by
  obtain ⟨es, c, hM, he⟩ := hM
  refine callF_of (fun _ _ => by kernel_rfl) ((maps_Clone_calls b es c w hM).mono fun e w' hw => ?_)
  obtain ⟨h1, h2⟩ := hw
  subst h2
  refine ⟨_, h1, h _ (Fr.alloc _ _) ⟨es, c, ?_, he⟩ (by simp)⟩
  show (w.heap.push _)[w.heap.size]? = _
  simp
end Go.Sh
end

section
namespace Go.Sh
open Go Go.Fw Go.Proofs
set_option maxRecDepth 100000
set_option linter.unusedVariables false
def law28_IssueOnce_j1 (I1 : Inv) (μ1 : Meas) (us1 : List Value) (wl1 : World) (n1 : Int) (p2 : Option Addr) (l2 : Nat) (c2 : Nat) (p3 : Option Addr) (l3 : Nat) (c3 : Nat) (p4 : Option Addr) (l4 : Nat) (c4 : Nat) (a5 : Addr) (b10 : Bool) (p11 : Option Addr) (p13 : Option Addr) (m14 : Option Nat) (n15 : Int) (p16 : Option Addr) (l16 : Nat) (c16 : Nat) (w : World) (Q : Value → World → Prop) : Prop :=
  ∃ s153 w1, Ef Tryz.prog (convert 25 9 (.slice p16 l16 c16)) w (.string s153) w1 ∧
  ∃ w2, EfU Tryz.prog (Instr.mapUpdate 64 (.map m14) (.string s153) (.bool true)) w1 w2 ∧
  callF Tryz.prog 44 #[.pointer p13, .slice p16 l16 c16] w2 fun r157 w3 =>
  ∃ n157 p157 l157 c157 p157_1 l157_1 c157_1 n157_1, r157 = .tuple #[.agg #[.int .i64 n157, .slice p157 l157 c157, .slice p157_1 l157_1 c157_1], .int .i64 n157_1] ∧
  ∃ z19, Pu Tryz.prog (zeroValue 55) z19 ∧
  New z19.cells 55 w3 fun k19 w4 =>
  ∃ w5, Sto Tryz.prog 55 (.pointer (some (⟨k19, 0, none⟩ : Addr))) (.agg #[.int .i64 n157, .slice p157 l157 c157, .slice p157_1 l157_1 c157_1]) w4 w5 ∧
  ∃ p162 l162 c162 w6, Ef Tryz.prog (Instr.buildSlice 25 1 #[(0, .int .u8 64)]) w5 (.slice p162 l162 c162) w6 ∧
  ∃ p164 l164 c164 w7, Ef Tryz.prog (Builtin.append_ #[25, 25] 25 #[.slice p162 l162 c162, .slice p16 l16 c16]) w6 (.slice p164 l164 c164) w7 ∧
  ∃ p166 l166 c166 w8, Ef Tryz.prog (Builtin.append_ #[25, 25] 25 #[.slice p164 l164 c164, .slice p4 l4 c4]) w7 (.slice p166 l166 c166) w8 ∧
  callF Tryz.prog 45 #[.pointer p13, .slice p166 l166 c166] w8 fun r167 w9 =>
  ∃ n167 p167 l167 c167 p167_1 l167_1 c167_1 n167_1, r167 = .tuple #[.agg #[.int .i64 n167, .slice p167 l167 c167, .slice p167_1 l167_1 c167_1], .int .i64 n167_1] ∧
  ∃ z21, Pu Tryz.prog (zeroValue 55) z21 ∧
  New z21.cells 55 w9 fun k21 w10 =>
  ∃ w11, Sto Tryz.prog 55 (.pointer (some (⟨k21, 0, none⟩ : Addr))) (.agg #[.int .i64 n167, .slice p167 l167 c167, .slice p167_1 l167_1 c167_1]) w10 w11 ∧
  cond (n157_1 != 0)
  (Q (.bool false) w11)
  (cond (n167_1 != 0)
    (Q (.bool false) w11)
    (∃ p178 l178 c178, Ld Tryz.prog 25 (.pointer (some ((⟨k19, 0, none⟩ : Addr).add 1))) w11 (.slice p178 l178 c178) ∧
      callF Tryz.prog 33 #[.slice p178 l178 c178, .slice p2 l2 c2] w11 fun r180 w12 =>
      ∃ b180, r180 = .bool b180 ∧
      cond (!b180)
      (Q (.bool false) w12)
      (∃ p185 l185 c185, Ld Tryz.prog 25 (.pointer (some ((⟨k21, 0, none⟩ : Addr).add 1))) w12 (.slice p185 l185 c185) ∧
        callF Tryz.prog 33 #[.slice p185 l185 c185, .slice p2 l2 c2] w12 fun r187 w13 =>
        ∃ b187, r187 = .bool b187 ∧
        cond (!b187)
        (Q (.bool false) w13)
        (∃ p192 l192 c192, Ld Tryz.prog 25 (.pointer (some ((⟨k19, 0, none⟩ : Addr).add 2))) w13 (.slice p192 l192 c192) ∧
          ∃ p194 l194 c194, Ld Tryz.prog 25 (.pointer (some ((⟨k21, 0, none⟩ : Addr).add 2))) w13 (.slice p194 l194 c194) ∧
          callF Tryz.prog 33 #[.slice p192 l192 c192, .slice p194 l194 c194] w13 fun r195 w14 =>
          ∃ b195, r195 = .bool b195 ∧
          cond (!b195)
          (Q (.bool false) w14)
          (goesOn [] [] I1 μ1 us1 [.int .i64 n1, .slice p2 l2 c2, .slice p3 l3 c3, .slice p4 l4 c4, .pointer (some a5), .bool b10, .pointer p11, .pointer p13, .map m14, .int .i64 (IntKind.i64.wrap (n15 + 1))] wl1 w14)))))
def law28_IssueOnce_j2 (b10 : Bool) (p11 : Option Addr) (m14 : Option Nat) (w : World) (Q : Value → World → Prop) : Prop :=
  callF Tryz.prog 31 #[.pointer p11] w fun r199 w1 =>
  ∃ n199, r199 = .int .i64 n199 ∧
  ∃ n201 w2, Ef Tryz.prog (Builtin.len_ #[64] 3 #[.map m14]) w1 (.int .i64 n201) w2 ∧
  Q (.bool (n199 == n201)) w2
def law28_IssueOnce_j3 (n1 : Int) (p2 : Option Addr) (l2 : Nat) (c2 : Nat) (p3 : Option Addr) (l3 : Nat) (c3 : Nat) (p4 : Option Addr) (l4 : Nat) (c4 : Nat) (a5 : Addr) (b10 : Bool) (p11 : Option Addr) (p13 : Option Addr) (w : World) (Q : Value → World → Prop) : Prop :=
  ∃ (cs68 : Array Value), Ld Tryz.prog 24 (.pointer (some a5)) w (.agg cs68) ∧
  callF Tryz.prog 40 #[.pointer p13, .int .i64 n1, .agg cs68] w fun r69 w1 =>
  ∃ n69, r69 = .int .i64 n69 ∧
  cond (n69 != 0)
  (Q (.bool false) w1)
  (∃ (m71 : Option Nat) (w2 : World), Ef Tryz.prog (Instr.makeMap 64 none) w1 (.map m71) w2 ∧
    LoopS [.int .i64 n1, .slice p2 l2 c2, .slice p3 l3 c3, .slice p4 l4 c4, .pointer (some a5), .bool b10, .pointer p11, .pointer p13, .map m71, .int .i64 0] w2 fun I1 μ1 us1 _ wl1 =>
    ∃ (n1_1 : Int) (p2_1 : Option Addr) (l2_1 : Nat) (c2_1 : Nat) (p3_1 : Option Addr) (l3_1 : Nat) (c3_1 : Nat) (p4_1 : Option Addr) (l4_1 : Nat) (c4_1 : Nat) (a5_1 : Addr) (b10_1 : Bool) (p11_1 : Option Addr) (p13_1 : Option Addr) (m14 : Option Nat) (n15 : Int), us1 = [.int .i64 n1_1, .slice p2_1 l2_1 c2_1, .slice p3_1 l3_1 c3_1, .slice p4_1 l4_1 c4_1, .pointer (some a5_1), .bool b10_1, .pointer p11_1, .pointer p13_1, .map m14, .int .i64 n15] ∧
    cond (decide (n15 < ((l3_1 : Nat) : Int)))
    (∃ a82, IxA Tryz.prog 45 (.slice p3_1 l3_1 c3_1) (.int .i64 n15) a82 ∧
      ∃ p83 l83 c83, Ld Tryz.prog 25 (.pointer (some a82)) wl1 (.slice p83 l83 c83) ∧
      callF Tryz.prog 36 #[.pointer p11_1, .slice p83 l83 c83] wl1 fun r84 w3 =>
      ∃ p84 l84 c84 n84 n84_1, r84 = .tuple #[.slice p84 l84 c84, .int .i64 n84, .int .i64 n84_1] ∧
      ∃ (S16 : World → Prop),
      Drw w3 fun w4 =>
      ∃ a90, IxA Tryz.prog 45 (.slice p3_1 l3_1 c3_1) (.int .i64 n15) a90 ∧
      ∃ p91 l91 c91, HLd Tryz.prog S16 25 (.pointer (some a90)) w4 (.slice p91 l91 c91) ∧
      ∃ n94, Ld Tryz.prog 3 (.pointer (some (a5_1.add 2))) w4 (.int .i64 n94) ∧
      (w4 = w4 ∨ S16 w4) ∧
      cond (decide (((l91 : Nat) : Int) < n94))
      (cond (n84_1 != 21)
        (Q (.bool false) w4)
        (cond (n84 != 0)
          (Q (.bool false) w4)
          (cond (((l84 : Nat) : Int) != 0)
            (Q (.bool false) w4)
            (goesOn [] [] I1 μ1 us1 [.int .i64 n1_1, .slice p2_1 l2_1 c2_1, .slice p3_1 l3_1 c3_1, .slice p4_1 l4_1 c4_1, .pointer (some a5_1), .bool b10_1, .pointer p11_1, .pointer p13_1, .map m14, .int .i64 (IntKind.i64.wrap (n15 + 1))] wl1 w4))))
      (cond (n84_1 != 0)
        (Q (.bool false) w4)
        (∃ n112, Ld Tryz.prog 3 (.pointer (some (a5_1.add 2))) w4 (.int .i64 n112) ∧
          cond (n84 != n112)
          (Q (.bool false) w4)
          (∃ (cs118 : Array Value), Ld Tryz.prog 24 (.pointer (some a5_1)) w4 (.agg cs118) ∧
            callF Tryz.prog 41 #[.agg cs118] w4 fun r119 w5 =>
            ∃ n119, r119 = .int .i64 n119 ∧
            cond (((l84 : Nat) : Int) != n119)
            (Q (.bool false) w5)
            (∃ s125 w6, Ef Tryz.prog (convert 25 9 (.slice p84 l84 c84)) w5 (.string s125) w6 ∧
              ∃ b126 w7, Ef Tryz.prog (Instr.lookup 64 (.map m14) (.string s125) false) w6 (.bool b126) w7 ∧
              cond b126
              (Q (.bool false) w7)
              (∃ a130, IxA Tryz.prog 25 (.slice p84 l84 c84) (.int .i64 0) a130 ∧
                ∃ n131, Ld Tryz.prog 5 (.pointer (some a130)) w7 (.int .u8 n131) ∧
                callF Tryz.prog 42 #[.int .u8 n131] w7 fun r132 w8 =>
                ∃ n132, r132 = .int .i64 n132 ∧
                cond (n132 != n1_1)
                (Q (.bool false) w8)
                (∃ a138, IxA Tryz.prog 25 (.slice p84 l84 c84) (.int .i64 0) a138 ∧
                  ∃ n139, Ld Tryz.prog 5 (.pointer (some a138)) w8 (.int .u8 n139) ∧
                  callF Tryz.prog 43 #[.int .u8 n139] w8 fun r140 w9 =>
                  ∃ n140, r140 = .int .i64 n140 ∧
                  cond (n140 != ((l84 : Nat) : Int))
                  (Q (.bool false) w9)
                  (callF Tryz.prog 34 #[.pointer p11_1, .slice p84 l84 c84] w9 fun r148 w10 =>
                    ∃ b148, r148 = .bool b148 ∧
                    cond (!b148)
                    (Q (.bool false) w10)
                    (law28_IssueOnce_j1 I1 μ1 us1 wl1 n1_1 p2_1 l2_1 c2_1 p3_1 l3_1 c3_1 p4_1 l4_1 c4_1 a5_1 b10_1 p11_1 p13_1 m14 n15 p84 l84 c84 w10 Q)))))))))
    (law28_IssueOnce_j2 b10_1 p11_1 m14 wl1 Q))
def law28_IssueOnce_j4 (n1 : Int) (p2 : Option Addr) (l2 : Nat) (c2 : Nat) (p3 : Option Addr) (l3 : Nat) (c3 : Nat) (p4 : Option Addr) (l4 : Nat) (c4 : Nat) (a5 : Addr) (b10 : Bool) (p11 : Option Addr) (n12 : Int) (p13 : Option Addr) (b59 : Bool) (w : World) (Q : Value → World → Prop) : Prop :=
  cond b59
  (∃ b61 w1, Ef Tryz.prog (do eqGuard .eql 32 (.tmp 60) (.const (.pointer none)) (.pointer p11) (.pointer none); binOp .eql 32 (.pointer p11) (.pointer none) : Sem Value) w (.bool b61) w1 ∧
    cond b61
    (Q (.bool (n12 != 0)) w1)
    (Q (.bool false) w1))
  (law28_IssueOnce_j3 n1 p2 l2 c2 p3 l3 c3 p4 l4 c4 a5 b10 p11 p13 w Q)
def law28_IssueOnce_j5 (n1 : Int) (p2 : Option Addr) (l2 : Nat) (c2 : Nat) (p3 : Option Addr) (l3 : Nat) (c3 : Nat) (p4 : Option Addr) (l4 : Nat) (c4 : Nat) (a5 : Addr) (b10 : Bool) (w : World) (Q : Value → World → Prop) : Prop :=
  ∃ (cs43 : Array Value), Ld Tryz.prog 24 (.pointer (some a5)) w (.agg cs43) ∧
  callF Tryz.prog 26 #[.agg cs43, .int .i64 n1, .slice p2 l2 c2, .int .i64 65536] w fun r46 w1 =>
  ∃ p46 n46, r46 = .tuple #[.pointer p46, .int .i64 n46] ∧
  callF Tryz.prog 39 #[] w1 fun r49 w2 =>
  ∃ p49, r49 = .pointer p49 ∧
  cond (n46 != 0)
  (law28_IssueOnce_j4 n1 p2 l2 c2 p3 l3 c3 p4 l4 c4 a5 b10 p46 n46 p49 true w2 Q)
  (∃ b54 w3, Ef Tryz.prog (do eqGuard .eql 32 (.tmp 53) (.const (.pointer none)) (.pointer p46) (.pointer none); binOp .eql 32 (.pointer p46) (.pointer none) : Sem Value) w2 (.bool b54) w3 ∧
    cond b54
    (law28_IssueOnce_j4 n1 p2 l2 c2 p3 l3 c3 p4 l4 c4 a5 b10 p46 n46 p49 true w3 Q)
    (∃ b58 w4, Ef Tryz.prog (do eqGuard .eql 61 (.tmp 57) (.const (.pointer none)) (.pointer p49) (.pointer none); binOp .eql 61 (.pointer p49) (.pointer none) : Sem Value) w3 (.bool b58) w4 ∧
      law28_IssueOnce_j4 n1 p2 l2 c2 p3 l3 c3 p4 l4 c4 a5 b10 p46 n46 p49 b58 w4 Q))
def law28_IssueOnce (cs0 : Array Value) (n1 : Int) (p2 : Option Addr) (l2 : Nat) (c2 : Nat) (p3 : Option Addr) (l3 : Nat) (c3 : Nat) (p4 : Option Addr) (l4 : Nat) (c4 : Nat) (w : World) (Q : Value → World → Prop) : Prop :=
  New cs0 24 w fun k5 w1 =>
  callF Tryz.prog 23 #[] w1 fun r23 w2 =>
  ∃ b23, r23 = .bool b23 ∧
  cond (!b23)
  (Q (.bool false) w2)
  (callF Tryz.prog 38 #[.slice p3 l3 c3, .int .i64 1000] w2 fun r26 w3 =>
    ∃ b26, r26 = .bool b26 ∧
    cond b26
    (Q (.bool true) w3)
    (cond (decide (((l3 : Nat) : Int) > 60))
      (Q (.bool true) w3)
      (cond (decide (((l2 : Nat) : Int) > 100))
        (Q (.bool true) w3)
        (cond (decide (((l4 : Nat) : Int) > 100))
          (Q (.bool true) w3)
          (law28_IssueOnce_j5 n1 p2 l2 c2 p3 l3 c3 p4 l4 c4 (⟨k5, 0, none⟩ : Addr) false w3 Q)))))
def law28_IssueOnce_tt : Nat → List (Nat × TypeId) := fun n => match n with | 0 => [(1, 3), (2, 25), (3, 45), (4, 25), (5, 1000000), (10, 4), (11, 32), (13, 61), (14, 64), (15, 3)] | _ => []
theorem law28_IssueOnce_call (cs0 : Array Value) (n1 : Int) (p2 : Option Addr) (l2 : Nat) (c2 : Nat) (p3 : Option Addr) (l3 : Nat) (c3 : Nat) (p4 : Option Addr) (l4 : Nat) (c4 : Nat) (w : World) (Q : Value → World → Prop) (h : law28_IssueOnce cs0 n1 p2 l2 c2 p3 l3 c3 p4 l4 c4 w Q) : callF Tryz.prog 6 #[.agg cs0, .int .i64 n1, .slice p2 l2 c2, .slice p3 l3 c3, .slice p4 l4 c4] w Q :=
  callBy law28_IssueOnce_tt Tryz.func6 h (fun _ _ => by kernel_rfl) (by kernel_rfl) (by kernel_rfl) (by kernel_rfl)
def law28_alive_j1 (b0 : Bool) (p1 : Option Addr) (w : World) (Q : Value → World → Prop) : Prop :=
  ∃ p47 l47 c47 w1, Ef Tryz.prog (Instr.buildSlice 25 3 #[(0, .int .u8 0), (1, .int .u8 0), (2, .int .u8 1)]) w (.slice p47 l47 c47) w1 ∧
  callF Tryz.prog 36 #[.pointer p1, .slice p47 l47 c47] w1 fun r48 w2 =>
  ∃ p48 l48 c48 n48 n48_1, r48 = .tuple #[.slice p48 l48 c48, .int .i64 n48, .int .i64 n48_1] ∧
  ∃ p54 l54 c54 w3, Ef Tryz.prog (Instr.buildSlice 25 5 #[(0, .int .u8 0), (1, .int .u8 0), (2, .int .u8 0), (3, .int .u8 1), (4, .int .u8 7)]) w2 (.slice p54 l54 c54) w3 ∧
  callF Tryz.prog 36 #[.pointer p1, .slice p54 l54 c54] w3 fun r55 w4 =>
  ∃ p55 l55 c55 n55 n55_1, r55 = .tuple #[.slice p55 l55 c55, .int .i64 n55, .int .i64 n55_1] ∧
  callF Tryz.prog 32 #[.pointer p1] w4 fun r60 w5 =>
  ∃ p60, r60 = .pointer p60 ∧
  ∃ p63 l63 c63 w6, Ef Tryz.prog (Instr.buildSlice 25 4 #[(0, .int .u8 0), (1, .int .u8 0), (2, .int .u8 0), (3, .int .u8 1)]) w5 (.slice p63 l63 c63) w6 ∧
  callF Tryz.prog 36 #[.pointer p1, .slice p63 l63 c63] w6 fun r64 w7 =>
  ∃ p64 l64 c64 n64 n64_1, r64 = .tuple #[.slice p64 l64 c64, .int .i64 n64, .int .i64 n64_1] ∧
  ∃ p70 l70 c70 w8, Ef Tryz.prog (Instr.buildSlice 25 4 #[(0, .int .u8 0), (1, .int .u8 0), (2, .int .u8 0), (3, .int .u8 1)]) w7 (.slice p70 l70 c70) w8 ∧
  callF Tryz.prog 36 #[.pointer p1, .slice p70 l70 c70] w8 fun r71 w9 =>
  ∃ p71 l71 c71 n71 n71_1, r71 = .tuple #[.slice p71 l71 c71, .int .i64 n71, .int .i64 n71_1] ∧
  callF Tryz.prog 29 #[.pointer p1] w9 fun r77 w10 =>
  ∃ n77 p77 l77 c77, r77 = .tuple #[.int .i64 n77, .slice p77 l77 c77] ∧
  callF Tryz.prog 34 #[.pointer p1, .slice p55 l55 c55] w10 fun r82 w11 =>
  ∃ b82, r82 = .bool b82 ∧
  ∃ p85 l85 c85 w12, Ef Tryz.prog (Instr.buildSlice 25 1 #[(0, .int .u8 8)]) w11 (.slice p85 l85 c85) w12 ∧
  callF Tryz.prog 100 #[.pointer p1, .agg #[.int .i64 0, .int .i64 1, .int .i64 4, .int .u8 0, .int .u8 0, .int .u8 0, .int .u8 0, .int .u8 0, .int .u8 0, .int .u8 0, .int .u8 0, .int .u8 0, .int .u8 0, .int .u8 0, .int .u8 0, .int .u8 0, .int .u8 0, .int .u8 0, .int .u8 0], .int .i64 0, .slice p85 l85 c85] w12 fun r86 w13 =>
  ∃ n86, r86 = .int .i64 n86 ∧
  callF Tryz.prog 100 #[.pointer p1, .agg #[.int .i64 0, .int .i64 1, .int .i64 4, .int .u8 0, .int .u8 0, .int .u8 0, .int .u8 0, .int .u8 0, .int .u8 0, .int .u8 0, .int .u8 0, .int .u8 0, .int .u8 0, .int .u8 0, .int .u8 0, .int .u8 0, .int .u8 0, .int .u8 0, .int .u8 0], .int .i64 0, .slice none 0 0] w13 fun r89 w14 =>
  ∃ n89, r89 = .int .i64 n89 ∧
  ∃ b91 w15, Ef Tryz.prog (do eqGuard .neq 32 (.tmp 90) (.const (.pointer none)) (.pointer p60) (.pointer none); binOp .neq 32 (.pointer p60) (.pointer none) : Sem Value) w14 (.bool b91) w15 ∧
  cond b91
  (cond (n48_1 == 21)
    (cond (n55_1 == 0)
      (cond (n55 == 4)
        (cond (n64_1 == 0)
          (cond (n71_1 == 18)
            (cond (n86 == 0)
              (cond (n89 == 11)
                (∃ p122 l122 c122 w16, Ef Tryz.prog (Instr.buildSlice 25 6 #[(0, .int .u8 133), (1, .int .u8 9), (2, .int .u8 0), (3, .int .u8 0), (4, .int .u8 0), (5, .int .u8 1)]) w15 (.slice p122 l122 c122) w16 ∧
                  callF Tryz.prog 33 #[.slice p55 l55 c55, .slice p122 l122 c122] w16 fun r123 w17 =>
                  ∃ b123, r123 = .bool b123 ∧
                  cond b123
                  (∃ p127 l127 c127 w18, Ef Tryz.prog (Instr.buildSlice 25 6 #[(0, .int .u8 133), (1, .int .u8 9), (2, .int .u8 0), (3, .int .u8 0), (4, .int .u8 0), (5, .int .u8 2)]) w17 (.slice p127 l127 c127) w18 ∧
                    callF Tryz.prog 33 #[.slice p64 l64 c64, .slice p127 l127 c127] w18 fun r128 w19 =>
                    ∃ b128, r128 = .bool b128 ∧
                    cond b128
                    (cond (n77 == 2)
                      (∃ p136 l136 c136 w20, Ef Tryz.prog (Instr.buildSlice 25 1 #[(0, .int .u8 9)]) w19 (.slice p136 l136 c136) w20 ∧
                        callF Tryz.prog 33 #[.slice p77 l77 c77, .slice p136 l136 c136] w20 fun r137 w21 =>
                        ∃ b137, r137 = .bool b137 ∧
                        cond b137
                        (cond b82
                          (callF Tryz.prog 34 #[.pointer p1, .slice p55 l55 c55] w21 fun r145 w22 =>
                            ∃ b145, r145 = .bool b145 ∧
                            cond (!b145)
                            (callF Tryz.prog 31 #[.pointer p1] w22 fun r150 w23 =>
                              ∃ n150, r150 = .int .i64 n150 ∧
                              cond (n150 == 0)
                              (callF Tryz.prog 31 #[.pointer p60] w23 fun r155 w24 =>
                                ∃ n155, r155 = .int .i64 n155 ∧
                                cond (n155 == 1)
                                (callF Tryz.prog 34 #[.pointer p60, .slice p55 l55 c55] w24 fun r161 w25 =>
                                  ∃ b161, r161 = .bool b161 ∧
                                  cond b161
                                  (callF Tryz.prog 34 #[.pointer p60, .slice p64 l64 c64] w25 fun r166 w26 =>
                                    ∃ b166, r166 = .bool b166 ∧
                                    Q (.bool (!b166)) w26)
                                  (Q (.bool false) w25))
                                (Q (.bool false) w24))
                              (Q (.bool false) w23))
                            (Q (.bool false) w22))
                          (Q (.bool false) w21))
                        (Q (.bool false) w21))
                      (Q (.bool false) w19))
                    (Q (.bool false) w19))
                  (Q (.bool false) w17))
                (Q (.bool false) w15))
              (Q (.bool false) w15))
            (Q (.bool false) w15))
          (Q (.bool false) w15))
        (Q (.bool false) w15))
      (Q (.bool false) w15))
    (Q (.bool false) w15))
  (Q (.bool false) w15)
def law28_alive  (w : World) (Q : Value → World → Prop) : Prop :=
  ∃ p25 l25 c25 w1, Ef Tryz.prog (Instr.buildSlice 25 1 #[(0, .int .u8 9)]) w (.slice p25 l25 c25) w1 ∧
  callF Tryz.prog 26 #[.agg #[.int .i64 0, .int .i64 1, .int .i64 4, .int .u8 0, .int .u8 0, .int .u8 0, .int .u8 0, .int .u8 0, .int .u8 0, .int .u8 0, .int .u8 0, .int .u8 0, .int .u8 0, .int .u8 0, .int .u8 0, .int .u8 0, .int .u8 0, .int .u8 0, .int .u8 0], .int .i64 2, .slice p25 l25 c25, .int .i64 2] w1 fun r26 w2 =>
  ∃ p26 n26, r26 = .tuple #[.pointer p26, .int .i64 n26] ∧
  ∃ p31 l31 c31 w3, Ef Tryz.prog (Instr.buildSlice 25 1 #[(0, .int .u8 9)]) w2 (.slice p31 l31 c31) w3 ∧
  callF Tryz.prog 26 #[.agg #[.int .i64 0, .int .i64 0, .int .i64 0, .int .u8 0, .int .u8 0, .int .u8 0, .int .u8 0, .int .u8 0, .int .u8 0, .int .u8 0, .int .u8 0, .int .u8 0, .int .u8 0, .int .u8 0, .int .u8 0, .int .u8 0, .int .u8 0, .int .u8 0, .int .u8 0], .int .i64 2, .slice p31 l31 c31, .int .i64 2] w3 fun r32 w4 =>
  ∃ p32 n32, r32 = .tuple #[.pointer p32, .int .i64 n32] ∧
  ∃ b36 w5, Ef Tryz.prog (do eqGuard .eql 32 (.tmp 35) (.const (.pointer none)) (.pointer p26) (.pointer none); binOp .eql 32 (.pointer p26) (.pointer none) : Sem Value) w4 (.bool b36) w5 ∧
  cond b36
  (Q (.bool false) w5)
  (cond (n26 != 0)
    (Q (.bool false) w5)
    (cond (n32 != 10)
      (Q (.bool false) w5)
      (law28_alive_j1 false p26 w5 Q)))
def law28_alive_tt : Nat → List (Nat × TypeId) := fun _ => []
theorem law28_alive_call  (w : World) (Q : Value → World → Prop) (h : law28_alive  w Q) : callF Tryz.prog 23 #[] w Q :=
  callBy law28_alive_tt Tryz.func23 h (fun _ _ => by kernel_rfl) (by kernel_rfl) (by kernel_rfl) (by kernel_rfl)
end Go.Sh
end
