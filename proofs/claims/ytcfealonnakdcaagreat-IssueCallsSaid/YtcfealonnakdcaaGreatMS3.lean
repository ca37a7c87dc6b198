/- A part of a proof of a given law of this program: lemmas, printed forms of its functions, contracts. It has no conditions of its own. -/
import Derived.Test.YtcfealonnakdcaaGreatProg
import Derived.Shelf.SlMaps.Clone
import Derived.WalkKit
import Derived.Test.YtcfealonnakdcaaGreatMW0
import Derived.Test.YtcfealonnakdcaaGreatMW1
import Derived.Test.YtcfealonnakdcaaGreatMS0

section
namespace Go.Sh
open Go Go.Fw Go.Proofs
set_option maxRecDepth 100000
set_option linter.unusedVariables false
def ref16_Right_j1 (a1 : Addr) (b2 : Bool) (w : World) (Q : Value → World → Prop) : Prop :=
  ∃ n51, Ld Tryz.prog 3 (.pointer (some (a1.add 0))) w (.int .i64 n51) ∧
  cond (n51 != 0)
  (Q (.bool true) w)
  (∃ (cs55 : Array Value), Ld Tryz.prog 22 (.pointer (some (a1.add 3))) w (.agg cs55) ∧
    ∃ b57 w1, Ef Tryz.prog (do eqGuard .eql 22 (.tmp 55) (.tmp 56) (.agg cs55) (.agg #[.int .u8 0, .int .u8 0, .int .u8 0, .int .u8 0, .int .u8 0, .int .u8 0, .int .u8 0, .int .u8 0, .int .u8 0, .int .u8 0, .int .u8 0, .int .u8 0, .int .u8 0, .int .u8 0, .int .u8 0, .int .u8 0]); binOp .eql 22 (.agg cs55) (.agg #[.int .u8 0, .int .u8 0, .int .u8 0, .int .u8 0, .int .u8 0, .int .u8 0, .int .u8 0, .int .u8 0, .int .u8 0, .int .u8 0, .int .u8 0, .int .u8 0, .int .u8 0, .int .u8 0, .int .u8 0, .int .u8 0]) : Sem Value) w (.bool b57) w1 ∧
    Q (.bool b57) w1)
def ref16_Right_j2 (a1 : Addr) (b2 : Bool) (w : World) (Q : Value → World → Prop) : Prop :=
  ∃ n40, Ld Tryz.prog 3 (.pointer (some (a1.add 0))) w (.int .i64 n40) ∧
  cond (n40 == 1)
  (∃ n44, Ld Tryz.prog 3 (.pointer (some (a1.add 1))) w (.int .i64 n44) ∧
    ∃ n46, Ld Tryz.prog 3 (.pointer (some (a1.add 2))) w (.int .i64 n46) ∧
    cond ((IntKind.i64.wrap (n44 + n46)) != 16)
    (Q (.bool false) w)
    (ref16_Right_j1 a1 b2 w Q))
  (ref16_Right_j1 a1 b2 w Q)
def ref16_Right (cs0 : Array Value) (w : World) (Q : Value → World → Prop) : Prop :=
  New cs0 39 w fun k1 w1 =>
  ∃ n4, Ld Tryz.prog 3 (.pointer (some ((⟨k1, 0, none⟩ : Addr).add 0))) w1 (.int .i64 n4) ∧
  cond (decide (n4 < 0))
  (Q (.bool false) w1)
  (∃ n8, Ld Tryz.prog 3 (.pointer (some ((⟨k1, 0, none⟩ : Addr).add 0))) w1 (.int .i64 n8) ∧
    cond (decide (n8 > 2))
    (Q (.bool false) w1)
    (∃ n13, Ld Tryz.prog 3 (.pointer (some ((⟨k1, 0, none⟩ : Addr).add 1))) w1 (.int .i64 n13) ∧
      cond (decide (n13 < 1))
      (Q (.bool false) w1)
      (∃ n18, Ld Tryz.prog 3 (.pointer (some ((⟨k1, 0, none⟩ : Addr).add 1))) w1 (.int .i64 n18) ∧
        cond (decide (n18 > 15))
        (Q (.bool false) w1)
        (∃ n23, Ld Tryz.prog 3 (.pointer (some ((⟨k1, 0, none⟩ : Addr).add 2))) w1 (.int .i64 n23) ∧
          cond (decide (n23 < 4))
          (Q (.bool false) w1)
          (∃ n28, Ld Tryz.prog 3 (.pointer (some ((⟨k1, 0, none⟩ : Addr).add 2))) w1 (.int .i64 n28) ∧
            cond (decide (n28 > 18))
            (Q (.bool false) w1)
            (∃ n33, Ld Tryz.prog 3 (.pointer (some ((⟨k1, 0, none⟩ : Addr).add 1))) w1 (.int .i64 n33) ∧
              ∃ n35, Ld Tryz.prog 3 (.pointer (some ((⟨k1, 0, none⟩ : Addr).add 2))) w1 (.int .i64 n35) ∧
              cond (decide ((IntKind.i64.wrap (n33 + n35)) > 19))
              (Q (.bool false) w1)
              (ref16_Right_j2 (⟨k1, 0, none⟩ : Addr) false w1 Q)))))))
def ref16_Right_tt : Nat → List (Nat × TypeId) := fun _ => []
theorem ref16_Right_call (cs0 : Array Value) (w : World) (Q : Value → World → Prop) (h : ref16_Right cs0 w Q) : callF Tryz.prog 179 #[.agg cs0] w Q :=
  callBy ref16_Right_tt Tryz.func179 h (fun _ _ => by kernel_rfl) (by kernel_rfl) (by kernel_rfl) (by kernel_rfl)
def ref16_Turn (cs0 : Array Value) (p1 : Option Addr) (l1 : Nat) (c1 : Nat) (w : World) (Q : Value → World → Prop) : Prop :=
  New cs0 39 w fun k2 w1 =>
  ∃ (cs6 : Array Value), Ld Tryz.prog 39 (.pointer (some (⟨k2, 0, none⟩ : Addr))) w1 (.agg cs6) ∧
  ∃ p8 l8 c8 w2, Ef Tryz.prog (Instr.buildSlice 312 4 #[(0, .int .i64 1), (1, .int .i64 2), (2, .int .i64 3), (3, .int .i64 4)]) w1 (.slice p8 l8 c8) w2 ∧
  callF Tryz.prog 263 #[.agg cs6, .slice p1 l1 c1, .slice p8 l8 c8] w2 fun r9 w3 =>
  ∃ p9 l9 c9 n9, r9 = .tuple #[.slice p9 l9 c9, .int .i64 n9] ∧
  Q (.tuple #[.slice p9 l9 c9, .int .i64 n9]) w3
def ref16_Turn_tt : Nat → List (Nat × TypeId) := fun _ => []
theorem ref16_Turn_call (cs0 : Array Value) (p1 : Option Addr) (l1 : Nat) (c1 : Nat) (w : World) (Q : Value → World → Prop) (h : ref16_Turn cs0 p1 l1 c1 w Q) : callF Tryz.prog 227 #[.agg cs0, .slice p1 l1 c1] w Q :=
  callBy ref16_Turn_tt Tryz.func227 h (fun _ _ => by kernel_rfl) (by kernel_rfl) (by kernel_rfl) (by kernel_rfl)
def ref16_turn (cs0 : Array Value) (p1 : Option Addr) (l1 : Nat) (c1 : Nat) (p2 : Option Addr) (l2 : Nat) (c2 : Nat) (w : World) (Q : Value → World → Prop) : Prop :=
  New cs0 39 w fun k3 w1 =>
  ∃ (cs8 : Array Value), Ld Tryz.prog 39 (.pointer (some (⟨k3, 0, none⟩ : Addr))) w1 (.agg cs8) ∧
  callF Tryz.prog 179 #[.agg cs8] w1 fun r9 w2 =>
  ∃ b9, r9 = .bool b9 ∧
  cond (!b9)
  (Q (.tuple #[.slice none 0 0, .int .i64 19]) w2)
  (∃ n14, Ld Tryz.prog 3 (.pointer (some ((⟨k3, 0, none⟩ : Addr).add 1))) w2 (.int .i64 n14) ∧
    ∃ n16, Ld Tryz.prog 3 (.pointer (some ((⟨k3, 0, none⟩ : Addr).add 2))) w2 (.int .i64 n16) ∧
    cond (((l1 : Nat) : Int) != (IntKind.i64.wrap (n14 + n16)))
    (Q (.tuple #[.slice none 0 0, .int .i64 11]) w2)
    (∃ n20, Ld Tryz.prog 3 (.pointer (some ((⟨k3, 0, none⟩ : Addr).add 0))) w2 (.int .i64 n20) ∧
      cond (n20 == 0)
      (∃ p22 l22 c22 w3, Ef Tryz.prog (Instr.buildSlice 25 0 #[]) w2 (.slice p22 l22 c22) w3 ∧
        ∃ p24 l24 c24 w4, Ef Tryz.prog (Builtin.append_ #[25, 25] 25 #[.slice p22 l22 c22, .slice p1 l1 c1]) w3 (.slice p24 l24 c24) w4 ∧
        Q (.tuple #[.slice p24 l24 c24, .int .i64 0]) w4)
      (∃ n26, Ld Tryz.prog 3 (.pointer (some ((⟨k3, 0, none⟩ : Addr).add 0))) w2 (.int .i64 n26) ∧
        cond (n26 == 2)
        (∃ p29 l29 c29, Pu Tryz.prog (Instr.sliceAt 22 (.pointer (some ((⟨k3, 0, none⟩ : Addr).add 3))) none none none) (.slice p29 l29 c29) ∧
          callF Tryz.prog 291 #[.slice p29 l29 c29, .slice p1 l1 c1, .slice p2 l2 c2] w2 fun r32 w5 =>
          ∃ p32 l32 c32 n32, r32 = .tuple #[.slice p32 l32 c32, .int .i64 n32] ∧
          Q (.tuple #[.slice p32 l32 c32, .int .i64 n32]) w5)
        (∃ a36, IxA Tryz.prog 312 (.slice p2 l2 c2) (.int .i64 0) a36 ∧
          ∃ n37, Ld Tryz.prog 3 (.pointer (some a36)) w2 (.int .i64 n37) ∧
          cond (n37 == 1)
          (∃ p40 l40 c40, Pu Tryz.prog (Instr.sliceAt 22 (.pointer (some ((⟨k3, 0, none⟩ : Addr).add 3))) none none none) (.slice p40 l40 c40) ∧
            callF Tryz.prog 221 #[.slice p40 l40 c40, .slice p1 l1 c1] w2 fun r42 w6 =>
            ∃ p42 l42 c42, r42 = .slice p42 l42 c42 ∧
            Q (.tuple #[.slice p42 l42 c42, .int .i64 0]) w6)
          (∃ p44 l44 c44, Pu Tryz.prog (Instr.sliceAt 22 (.pointer (some ((⟨k3, 0, none⟩ : Addr).add 3))) none none none) (.slice p44 l44 c44) ∧
            callF Tryz.prog 292 #[.slice p44 l44 c44, .slice p1 l1 c1] w2 fun r46 w7 =>
            ∃ p46 l46 c46, r46 = .slice p46 l46 c46 ∧
            Q (.tuple #[.slice p46 l46 c46, .int .i64 0]) w7)))))
def ref16_turn_tt : Nat → List (Nat × TypeId) := fun _ => []
theorem ref16_turn_call (cs0 : Array Value) (p1 : Option Addr) (l1 : Nat) (c1 : Nat) (p2 : Option Addr) (l2 : Nat) (c2 : Nat) (w : World) (Q : Value → World → Prop) (h : ref16_turn cs0 p1 l1 c1 p2 l2 c2 w Q) : callF Tryz.prog 263 #[.agg cs0, .slice p1 l1 c1, .slice p2 l2 c2] w Q :=
  callBy ref16_turn_tt Tryz.func263 h (fun _ _ => by kernel_rfl) (by kernel_rfl) (by kernel_rfl) (by kernel_rfl)
end Go.Sh
end

section
namespace Go.Sh
open Go Go.Fw Go.Proofs
set_option maxRecDepth 100000
set_option linter.unusedVariables false
def codec_Back_j1 (a4 : Addr) (n5 : Int) (w : World) (Q : Value → World → Prop) : Prop :=
  ∃ a4_1 v4, (.pointer (some a4) : Value) = .pointer (some a4_1) ∧ (loadVar 55 a4_1).run Tryz.prog w = .ok v4 w ∧
  Q (.tuple #[v4, .int .i64 n5]) w
def codec_Back_j2 (p1 : Option Addr) (l1 : Nat) (c1 : Nat) (a2 : Addr) (a4 : Addr) (n5 : Int) (w : World) (Q : Value → World → Prop) : Prop :=
  Drw w fun w1 =>
  ∃ p32 l32 c32, Pu Tryz.prog (Instr.sliceAt 25 (.slice p1 l1 c1) (some (.int .i64 1)) none none) (.slice p32 l32 c32) ∧
  ∃ (cs30 : Array Value), Ld Tryz.prog 24 (.pointer (some a2)) w1 (.agg cs30) ∧
  callF Tryz.prog 111 #[.agg cs30, .slice p32 l32 c32] w1 fun r33 w2 =>
  ∃ p33 l33 c33 n33, r33 = .tuple #[.slice p33 l33 c33, .int .i64 n33] ∧
  cond (n33 != 0)
  (∃ w3, Sto Tryz.prog 55 (.pointer (some a4)) (.agg #[.int .i64 0, .slice none 0 0, .slice none 0 0]) w2 w3 ∧
    ∃ a4_1 v4, (.pointer (some a4) : Value) = .pointer (some a4_1) ∧ (loadVar 55 a4_1).run Tryz.prog w3 = .ok v4 w3 ∧
    Q (.tuple #[v4, .int .i64 n33]) w3)
  (∃ (S10 : World → Prop),
    Drw w2 fun w4 =>
    ∃ a41, IxA Tryz.prog 25 (.slice p1 l1 c1) (.int .i64 0) a41 ∧
    ∃ n42, HLd Tryz.prog S10 5 (.pointer (some a41)) w4 (.int .u8 n42) ∧
    ∃ n46, HLd Tryz.prog S10 3 (.pointer (some (a2.add 1))) w4 (.int .i64 n46) ∧
    ∃ p47 l47 c47, Pu Tryz.prog (Instr.sliceAt 25 (.slice p33 l33 c33) none (some (.int .i64 n46)) none) (.slice p47 l47 c47) ∧
    ∃ n52, HLd Tryz.prog S10 3 (.pointer (some (a2.add 1))) w4 (.int .i64 n52) ∧
    ∃ p53 l53 c53, Pu Tryz.prog (Instr.sliceAt 25 (.slice p33 l33 c33) (some (.int .i64 n52)) none none) (.slice p53 l53 c53) ∧
    (callF Tryz.prog 42 #[.int .u8 n42] w4 fun r43 w5 =>
      ∃ n43, r43 = .int .i64 n43 ∧
      (w5 = w4 ∨ S10 w5) ∧
      (∃ p48 l48 c48 w6, Ef Tryz.prog (Instr.buildSlice 45 1 #[(0, .slice p47 l47 c47)]) w5 (.slice p48 l48 c48) w6 ∧
        (w6 = w5 ∨ S10 w6) ∧
        (callF Tryz.prog 112 #[.slice p48 l48 c48] w6 fun r49 w7 =>
          ∃ p49 l49 c49, r49 = .slice p49 l49 c49 ∧
          (w7 = w6 ∨ S10 w7) ∧
          ∃ p54 l54 c54 w8, Ef Tryz.prog (Instr.buildSlice 45 1 #[(0, .slice p53 l53 c53)]) w7 (.slice p54 l54 c54) w8 ∧
          (w8 = w7 ∨ S10 w8) ∧
          callF Tryz.prog 112 #[.slice p54 l54 c54] w8 fun r55 w9 =>
          ∃ p55 l55 c55, r55 = .slice p55 l55 c55 ∧
          ∃ w10, Sto Tryz.prog 55 (.pointer (some a4)) (.agg #[.int .i64 n43, .slice p49 l49 c49, .slice p55 l55 c55]) w9 w10 ∧
          codec_Back_j1 a4 0 w10 Q) ∧
        (∃ p54_1 l54_1 c54_1 w11, Ef Tryz.prog (Instr.buildSlice 45 1 #[(0, .slice p53 l53 c53)]) w6 (.slice p54_1 l54_1 c54_1) w11 ∧
          (w11 = w6 ∨ S10 w11) ∧
          callF Tryz.prog 112 #[.slice p48 l48 c48] w11 fun r49_1 w12 =>
          ∃ p49_1 l49_1 c49_1, r49_1 = .slice p49_1 l49_1 c49_1 ∧
          (w12 = w11 ∨ S10 w12) ∧
          callF Tryz.prog 112 #[.slice p54_1 l54_1 c54_1] w12 fun r55_1 w13 =>
          ∃ p55_1 l55_1 c55_1, r55_1 = .slice p55_1 l55_1 c55_1 ∧
          ∃ w14, Sto Tryz.prog 55 (.pointer (some a4)) (.agg #[.int .i64 n43, .slice p49_1 l49_1 c49_1, .slice p55_1 l55_1 c55_1]) w13 w14 ∧
          codec_Back_j1 a4 0 w14 Q)) ∧
      (∃ p54_2 l54_2 c54_2 w15, Ef Tryz.prog (Instr.buildSlice 45 1 #[(0, .slice p53 l53 c53)]) w5 (.slice p54_2 l54_2 c54_2) w15 ∧
        (w15 = w5 ∨ S10 w15) ∧
        ∃ p48_1 l48_1 c48_1 w16, Ef Tryz.prog (Instr.buildSlice 45 1 #[(0, .slice p47 l47 c47)]) w15 (.slice p48_1 l48_1 c48_1) w16 ∧
        (w16 = w15 ∨ S10 w16) ∧
        callF Tryz.prog 112 #[.slice p48_1 l48_1 c48_1] w16 fun r49_2 w17 =>
        ∃ p49_2 l49_2 c49_2, r49_2 = .slice p49_2 l49_2 c49_2 ∧
        (w17 = w16 ∨ S10 w17) ∧
        callF Tryz.prog 112 #[.slice p54_2 l54_2 c54_2] w17 fun r55_2 w18 =>
        ∃ p55_2 l55_2 c55_2, r55_2 = .slice p55_2 l55_2 c55_2 ∧
        ∃ w19, Sto Tryz.prog 55 (.pointer (some a4)) (.agg #[.int .i64 n43, .slice p49_2 l49_2 c49_2, .slice p55_2 l55_2 c55_2]) w18 w19 ∧
        codec_Back_j1 a4 0 w19 Q)) ∧
    (∃ p48_2 l48_2 c48_2 w20, Ef Tryz.prog (Instr.buildSlice 45 1 #[(0, .slice p47 l47 c47)]) w4 (.slice p48_2 l48_2 c48_2) w20 ∧
      (w20 = w4 ∨ S10 w20) ∧
      (callF Tryz.prog 42 #[.int .u8 n42] w20 fun r43_1 w21 =>
        ∃ n43_1, r43_1 = .int .i64 n43_1 ∧
        (w21 = w20 ∨ S10 w21) ∧
        (callF Tryz.prog 112 #[.slice p48_2 l48_2 c48_2] w21 fun r49_3 w22 =>
          ∃ p49_3 l49_3 c49_3, r49_3 = .slice p49_3 l49_3 c49_3 ∧
          (w22 = w21 ∨ S10 w22) ∧
          ∃ p54_3 l54_3 c54_3 w23, Ef Tryz.prog (Instr.buildSlice 45 1 #[(0, .slice p53 l53 c53)]) w22 (.slice p54_3 l54_3 c54_3) w23 ∧
          (w23 = w22 ∨ S10 w23) ∧
          callF Tryz.prog 112 #[.slice p54_3 l54_3 c54_3] w23 fun r55_3 w24 =>
          ∃ p55_3 l55_3 c55_3, r55_3 = .slice p55_3 l55_3 c55_3 ∧
          ∃ w25, Sto Tryz.prog 55 (.pointer (some a4)) (.agg #[.int .i64 n43_1, .slice p49_3 l49_3 c49_3, .slice p55_3 l55_3 c55_3]) w24 w25 ∧
          codec_Back_j1 a4 0 w25 Q) ∧
        (∃ p54_4 l54_4 c54_4 w26, Ef Tryz.prog (Instr.buildSlice 45 1 #[(0, .slice p53 l53 c53)]) w21 (.slice p54_4 l54_4 c54_4) w26 ∧
          (w26 = w21 ∨ S10 w26) ∧
          callF Tryz.prog 112 #[.slice p48_2 l48_2 c48_2] w26 fun r49_4 w27 =>
          ∃ p49_4 l49_4 c49_4, r49_4 = .slice p49_4 l49_4 c49_4 ∧
          (w27 = w26 ∨ S10 w27) ∧
          callF Tryz.prog 112 #[.slice p54_4 l54_4 c54_4] w27 fun r55_4 w28 =>
          ∃ p55_4 l55_4 c55_4, r55_4 = .slice p55_4 l55_4 c55_4 ∧
          ∃ w29, Sto Tryz.prog 55 (.pointer (some a4)) (.agg #[.int .i64 n43_1, .slice p49_4 l49_4 c49_4, .slice p55_4 l55_4 c55_4]) w28 w29 ∧
          codec_Back_j1 a4 0 w29 Q)) ∧
      (∃ p54_5 l54_5 c54_5 w30, Ef Tryz.prog (Instr.buildSlice 45 1 #[(0, .slice p53 l53 c53)]) w20 (.slice p54_5 l54_5 c54_5) w30 ∧
        (w30 = w20 ∨ S10 w30) ∧
        callF Tryz.prog 42 #[.int .u8 n42] w30 fun r43_2 w31 =>
        ∃ n43_2, r43_2 = .int .i64 n43_2 ∧
        (w31 = w30 ∨ S10 w31) ∧
        callF Tryz.prog 112 #[.slice p48_2 l48_2 c48_2] w31 fun r49_5 w32 =>
        ∃ p49_5 l49_5 c49_5, r49_5 = .slice p49_5 l49_5 c49_5 ∧
        (w32 = w31 ∨ S10 w32) ∧
        callF Tryz.prog 112 #[.slice p54_5 l54_5 c54_5] w32 fun r55_5 w33 =>
        ∃ p55_5 l55_5 c55_5, r55_5 = .slice p55_5 l55_5 c55_5 ∧
        ∃ w34, Sto Tryz.prog 55 (.pointer (some a4)) (.agg #[.int .i64 n43_2, .slice p49_5 l49_5 c49_5, .slice p55_5 l55_5 c55_5]) w33 w34 ∧
        codec_Back_j1 a4 0 w34 Q)) ∧
    (∃ p54_6 l54_6 c54_6 w35, Ef Tryz.prog (Instr.buildSlice 45 1 #[(0, .slice p53 l53 c53)]) w4 (.slice p54_6 l54_6 c54_6) w35 ∧
      (w35 = w4 ∨ S10 w35) ∧
      (callF Tryz.prog 42 #[.int .u8 n42] w35 fun r43_3 w36 =>
        ∃ n43_3, r43_3 = .int .i64 n43_3 ∧
        (w36 = w35 ∨ S10 w36) ∧
        ∃ p48_3 l48_3 c48_3 w37, Ef Tryz.prog (Instr.buildSlice 45 1 #[(0, .slice p47 l47 c47)]) w36 (.slice p48_3 l48_3 c48_3) w37 ∧
        (w37 = w36 ∨ S10 w37) ∧
        callF Tryz.prog 112 #[.slice p48_3 l48_3 c48_3] w37 fun r49_6 w38 =>
        ∃ p49_6 l49_6 c49_6, r49_6 = .slice p49_6 l49_6 c49_6 ∧
        (w38 = w37 ∨ S10 w38) ∧
        callF Tryz.prog 112 #[.slice p54_6 l54_6 c54_6] w38 fun r55_6 w39 =>
        ∃ p55_6 l55_6 c55_6, r55_6 = .slice p55_6 l55_6 c55_6 ∧
        ∃ w40, Sto Tryz.prog 55 (.pointer (some a4)) (.agg #[.int .i64 n43_3, .slice p49_6 l49_6 c49_6, .slice p55_6 l55_6 c55_6]) w39 w40 ∧
        codec_Back_j1 a4 0 w40 Q) ∧
      (∃ p48_4 l48_4 c48_4 w41, Ef Tryz.prog (Instr.buildSlice 45 1 #[(0, .slice p47 l47 c47)]) w35 (.slice p48_4 l48_4 c48_4) w41 ∧
        (w41 = w35 ∨ S10 w41) ∧
        callF Tryz.prog 42 #[.int .u8 n42] w41 fun r43_4 w42 =>
        ∃ n43_4, r43_4 = .int .i64 n43_4 ∧
        (w42 = w41 ∨ S10 w42) ∧
        callF Tryz.prog 112 #[.slice p48_4 l48_4 c48_4] w42 fun r49_7 w43 =>
        ∃ p49_7 l49_7 c49_7, r49_7 = .slice p49_7 l49_7 c49_7 ∧
        (w43 = w42 ∨ S10 w43) ∧
        callF Tryz.prog 112 #[.slice p54_6 l54_6 c54_6] w43 fun r55_7 w44 =>
        ∃ p55_7 l55_7 c55_7, r55_7 = .slice p55_7 l55_7 c55_7 ∧
        ∃ w45, Sto Tryz.prog 55 (.pointer (some a4)) (.agg #[.int .i64 n43_4, .slice p49_7 l49_7 c49_7, .slice p55_7 l55_7 c55_7]) w44 w45 ∧
        codec_Back_j1 a4 0 w45 Q)))
def codec_Back (cs0 : Array Value) (p1 : Option Addr) (l1 : Nat) (c1 : Nat) (w : World) (Q : Value → World → Prop) : Prop :=
  New cs0 24 w fun k2 w1 =>
  ∃ z4, Pu Tryz.prog (zeroValue 55) z4 ∧
  New z4.cells 55 w1 fun k4 w2 =>
  ∃ (cs9 : Array Value), Ld Tryz.prog 24 (.pointer (some (⟨k2, 0, none⟩ : Addr))) w2 (.agg cs9) ∧
  callF Tryz.prog 101 #[.agg cs9] w2 fun r10 w3 =>
  ∃ b10, r10 = .bool b10 ∧
  cond (!b10)
  (∃ w4, Sto Tryz.prog 55 (.pointer (some (⟨k4, 0, none⟩ : Addr))) (.agg #[.int .i64 0, .slice none 0 0, .slice none 0 0]) w3 w4 ∧
    ∃ a4 v4, (.pointer (some (⟨k4, 0, none⟩ : Addr)) : Value) = .pointer (some a4) ∧ (loadVar 55 a4).run Tryz.prog w4 = .ok v4 w4 ∧
    Q (.tuple #[v4, .int .i64 19]) w4)
  (∃ (cs16 : Array Value), Ld Tryz.prog 24 (.pointer (some (⟨k2, 0, none⟩ : Addr))) w3 (.agg cs16) ∧
    callF Tryz.prog 41 #[.agg cs16] w3 fun r17 w5 =>
    ∃ n17, r17 = .int .i64 n17 ∧
    cond (((l1 : Nat) : Int) != n17)
    (∃ w6, Sto Tryz.prog 55 (.pointer (some (⟨k4, 0, none⟩ : Addr))) (.agg #[.int .i64 0, .slice none 0 0, .slice none 0 0]) w5 w6 ∧
      ∃ a4_1 v4_1, (.pointer (some (⟨k4, 0, none⟩ : Addr)) : Value) = .pointer (some a4_1) ∧ (loadVar 55 a4_1).run Tryz.prog w6 = .ok v4_1 w6 ∧
      Q (.tuple #[v4_1, .int .i64 11]) w6)
    (∃ a22, IxA Tryz.prog 25 (.slice p1 l1 c1) (.int .i64 0) a22 ∧
      ∃ n23, Ld Tryz.prog 5 (.pointer (some a22)) w5 (.int .u8 n23) ∧
      callF Tryz.prog 43 #[.int .u8 n23] w5 fun r24 w7 =>
      ∃ n24, r24 = .int .i64 n24 ∧
      cond (n24 != ((l1 : Nat) : Int))
      (∃ w8, Sto Tryz.prog 55 (.pointer (some (⟨k4, 0, none⟩ : Addr))) (.agg #[.int .i64 0, .slice none 0 0, .slice none 0 0]) w7 w8 ∧
        ∃ a4_2 v4_2, (.pointer (some (⟨k4, 0, none⟩ : Addr)) : Value) = .pointer (some a4_2) ∧ (loadVar 55 a4_2).run Tryz.prog w8 = .ok v4_2 w8 ∧
        Q (.tuple #[v4_2, .int .i64 10]) w8)
      (codec_Back_j2 p1 l1 c1 (⟨k2, 0, none⟩ : Addr) (⟨k4, 0, none⟩ : Addr) 0 w7 Q)))
def codec_Back_tt : Nat → List (Nat × TypeId) := fun _ => []
theorem codec_Back_call (cs0 : Array Value) (p1 : Option Addr) (l1 : Nat) (c1 : Nat) (w : World) (Q : Value → World → Prop) (h : codec_Back cs0 p1 l1 c1 w Q) : callF Tryz.prog 37 #[.agg cs0, .slice p1 l1 c1] w Q :=
  callBy codec_Back_tt Tryz.func37 h (fun _ _ => by kernel_rfl) (by kernel_rfl) (by kernel_rfl) (by kernel_rfl)
def codec_Point (n0 : Int) (w : World) (Q : Value → World → Prop) : Prop :=
  Q (.int .i64 (IntKind.i64.wrap (Int.fdiv n0 (2 ^ 6)))) w
def codec_Point_tt : Nat → List (Nat × TypeId) := fun _ => []
theorem codec_Point_call (n0 : Int) (w : World) (Q : Value → World → Prop) (h : codec_Point n0 w Q) : callF Tryz.prog 42 #[.int .u8 n0] w Q :=
  callBy codec_Point_tt Tryz.func42 h (fun _ _ => by kernel_rfl) (by kernel_rfl) (by kernel_rfl) (by kernel_rfl)
def codec_Told (n0 : Int) (w : World) (Q : Value → World → Prop) : Prop :=
  Q (.int .i64 (IntKind.i64.wrap ((IntKind.i64.wrap (iand .u8 n0 63)) + 1))) w
def codec_Told_tt : Nat → List (Nat × TypeId) := fun _ => []
theorem codec_Told_call (n0 : Int) (w : World) (Q : Value → World → Prop) (h : codec_Told n0 w Q) : callF Tryz.prog 43 #[.int .u8 n0] w Q :=
  callBy codec_Told_tt Tryz.func43 h (fun _ _ => by kernel_rfl) (by kernel_rfl) (by kernel_rfl) (by kernel_rfl)
def codec_Make_j1 (n1 : Int) (p2 : Option Addr) (l2 : Nat) (c2 : Nat) (p3 : Option Addr) (l3 : Nat) (c3 : Nat) (a4 : Addr) (p8 : Option Addr) (l8 : Nat) (c8 : Nat) (n9 : Int) (w : World) (Q : Value → World → Prop) : Prop :=
  ∃ (S5 : World → Prop),
  Drw w fun w1 =>
  ∃ (cs38 : Array Value), HLd Tryz.prog S5 24 (.pointer (some a4)) w1 (.agg cs38) ∧
  ∃ p41 l41 c41 w2, Ef Tryz.prog (Instr.buildSlice 45 2 #[(0, .slice p2 l2 c2), (1, .slice p3 l3 c3)]) w1 (.slice p41 l41 c41) w2 ∧
  (w2 = w1 ∨ S5 w2) ∧
  callF Tryz.prog 112 #[.slice p41 l41 c41] w2 fun r42 w3 =>
  ∃ p42 l42 c42, r42 = .slice p42 l42 c42 ∧
  (w3 = w2 ∨ S5 w3) ∧
  callF Tryz.prog 183 #[.agg cs38, .slice p42 l42 c42] w3 fun r43 w4 =>
  ∃ p43 l43 c43 n43, r43 = .tuple #[.slice p43 l43 c43, .int .i64 n43] ∧
  cond (n43 != 0)
  (Q (.tuple #[.slice none 0 0, .int .i64 n43]) w4)
  (callF Tryz.prog 184 #[.int .i64 n1, .slice p43 l43 c43] w4 fun r51 w5 =>
    ∃ p51 l51 c51, r51 = .slice p51 l51 c51 ∧
    Q (.tuple #[.slice p51 l51 c51, .int .i64 0]) w5)
def codec_Make (cs0 : Array Value) (n1 : Int) (p2 : Option Addr) (l2 : Nat) (c2 : Nat) (p3 : Option Addr) (l3 : Nat) (c3 : Nat) (w : World) (Q : Value → World → Prop) : Prop :=
  New cs0 24 w fun k4 w1 =>
  ∃ (cs13 : Array Value), Ld Tryz.prog 24 (.pointer (some (⟨k4, 0, none⟩ : Addr))) w1 (.agg cs13) ∧
  callF Tryz.prog 101 #[.agg cs13] w1 fun r14 w2 =>
  ∃ b14, r14 = .bool b14 ∧
  cond (!b14)
  (Q (.tuple #[.slice none 0 0, .int .i64 19]) w2)
  (cond (decide (n1 < 0))
    (Q (.tuple #[.slice none 0 0, .int .i64 11]) w2)
    (cond (decide (n1 ≥ 3))
      (Q (.tuple #[.slice none 0 0, .int .i64 11]) w2)
      (∃ n27, Ld Tryz.prog 3 (.pointer (some ((⟨k4, 0, none⟩ : Addr).add 1))) w2 (.int .i64 n27) ∧
        cond (((l2 : Nat) : Int) != n27)
        (Q (.tuple #[.slice none 0 0, .int .i64 11]) w2)
        (∃ n34, Ld Tryz.prog 3 (.pointer (some ((⟨k4, 0, none⟩ : Addr).add 2))) w2 (.int .i64 n34) ∧
          cond (((l3 : Nat) : Int) != n34)
          (Q (.tuple #[.slice none 0 0, .int .i64 11]) w2)
          (codec_Make_j1 n1 p2 l2 c2 p3 l3 c3 (⟨k4, 0, none⟩ : Addr) none 0 0 0 w2 Q)))))
def codec_Make_tt : Nat → List (Nat × TypeId) := fun _ => []
theorem codec_Make_call (cs0 : Array Value) (n1 : Int) (p2 : Option Addr) (l2 : Nat) (c2 : Nat) (p3 : Option Addr) (l3 : Nat) (c3 : Nat) (w : World) (Q : Value → World → Prop) (h : codec_Make cs0 n1 p2 l2 c2 p3 l3 c3 w Q) : callF Tryz.prog 110 #[.agg cs0, .int .i64 n1, .slice p2 l2 c2, .slice p3 l3 c3] w Q :=
  callBy codec_Make_tt Tryz.func110 h (fun _ _ => by kernel_rfl) (by kernel_rfl) (by kernel_rfl) (by kernel_rfl)
def codec_id (n0 : Int) (p1 : Option Addr) (l1 : Nat) (c1 : Nat) (w : World) (Q : Value → World → Prop) : Prop :=
  ∃ p11 l11 c11 w1, Ef Tryz.prog (Instr.buildSlice 25 1 #[(0, .int .u8 (IntKind.u8.wrap (ior .i64 (IntKind.i64.wrap (n0 * 2 ^ 6)) ((l1 : Nat) : Int))))]) w (.slice p11 l11 c11) w1 ∧
  ∃ p13 l13 c13 w2, Ef Tryz.prog (Instr.buildSlice 45 2 #[(0, .slice p11 l11 c11), (1, .slice p1 l1 c1)]) w1 (.slice p13 l13 c13) w2 ∧
  callF Tryz.prog 112 #[.slice p13 l13 c13] w2 fun r14 w3 =>
  ∃ p14 l14 c14, r14 = .slice p14 l14 c14 ∧
  Q (.slice p14 l14 c14) w3
def codec_id_tt : Nat → List (Nat × TypeId) := fun _ => []
theorem codec_id_call (n0 : Int) (p1 : Option Addr) (l1 : Nat) (c1 : Nat) (w : World) (Q : Value → World → Prop) (h : codec_id n0 p1 l1 c1 w Q) : callF Tryz.prog 184 #[.int .i64 n0, .slice p1 l1 c1] w Q :=
  callBy codec_id_tt Tryz.func184 h (fun _ _ => by kernel_rfl) (by kernel_rfl) (by kernel_rfl) (by kernel_rfl)
end Go.Sh
end

section
namespace Go.Sh
open Go Go.Fw Go.Proofs
set_option maxRecDepth 100000
set_option linter.unusedVariables false
def ref17_Make_j1 (n1 : Int) (p2 : Option Addr) (l2 : Nat) (c2 : Nat) (p3 : Option Addr) (l3 : Nat) (c3 : Nat) (a4 : Addr) (p8 : Option Addr) (l8 : Nat) (c8 : Nat) (n9 : Int) (w : World) (Q : Value → World → Prop) : Prop :=
  ∃ (S5 : World → Prop),
  Drw w fun w1 =>
  ∃ (cs36 : Array Value), HLd Tryz.prog S5 39 (.pointer (some a4)) w1 (.agg cs36) ∧
  ∃ p37 l37 c37 w2, Ef Tryz.prog (Instr.buildSlice 25 0 #[]) w1 (.slice p37 l37 c37) w2 ∧
  (w2 = w1 ∨ S5 w2) ∧
  ∃ p39 l39 c39 w3, Ef Tryz.prog (Builtin.append_ #[25, 25] 25 #[.slice p37 l37 c37, .slice p2 l2 c2]) w2 (.slice p39 l39 c39) w3 ∧
  (w3 = w2 ∨ S5 w3) ∧
  ∃ p41 l41 c41 w4, Ef Tryz.prog (Builtin.append_ #[25, 25] 25 #[.slice p39 l39 c39, .slice p3 l3 c3]) w3 (.slice p41 l41 c41) w4 ∧
  (w4 = w3 ∨ S5 w4) ∧
  callF Tryz.prog 227 #[.agg cs36, .slice p41 l41 c41] w4 fun r42 w5 =>
  ∃ p42 l42 c42 n42, r42 = .tuple #[.slice p42 l42 c42, .int .i64 n42] ∧
  ∃ p51 l51 c51 w6, Ef Tryz.prog (Instr.buildSlice 25 1 #[(0, .int .u8 (IntKind.u8.wrap (IntKind.i64.wrap ((IntKind.i64.wrap (64 * n1)) + ((l42 : Nat) : Int)))))]) w5 (.slice p51 l51 c51) w6 ∧
  ∃ p53 l53 c53 w7, Ef Tryz.prog (Builtin.append_ #[25, 25] 25 #[.slice p51 l51 c51, .slice p42 l42 c42]) w6 (.slice p53 l53 c53) w7 ∧
  Q (.tuple #[.slice p53 l53 c53, .int .i64 0]) w7
def ref17_Make (cs0 : Array Value) (n1 : Int) (p2 : Option Addr) (l2 : Nat) (c2 : Nat) (p3 : Option Addr) (l3 : Nat) (c3 : Nat) (w : World) (Q : Value → World → Prop) : Prop :=
  New cs0 39 w fun k4 w1 =>
  ∃ (cs12 : Array Value), Ld Tryz.prog 39 (.pointer (some (⟨k4, 0, none⟩ : Addr))) w1 (.agg cs12) ∧
  callF Tryz.prog 179 #[.agg cs12] w1 fun r13 w2 =>
  ∃ b13, r13 = .bool b13 ∧
  cond (!b13)
  (Q (.tuple #[.slice none 0 0, .int .i64 19]) w2)
  (cond (decide (n1 < 0))
    (Q (.tuple #[.slice none 0 0, .int .i64 11]) w2)
    (cond (decide (n1 > 2))
      (Q (.tuple #[.slice none 0 0, .int .i64 11]) w2)
      (∃ n25, Ld Tryz.prog 3 (.pointer (some ((⟨k4, 0, none⟩ : Addr).add 1))) w2 (.int .i64 n25) ∧
        cond (((l2 : Nat) : Int) != n25)
        (Q (.tuple #[.slice none 0 0, .int .i64 11]) w2)
        (∃ n32, Ld Tryz.prog 3 (.pointer (some ((⟨k4, 0, none⟩ : Addr).add 2))) w2 (.int .i64 n32) ∧
          cond (((l3 : Nat) : Int) != n32)
          (Q (.tuple #[.slice none 0 0, .int .i64 11]) w2)
          (ref17_Make_j1 n1 p2 l2 c2 p3 l3 c3 (⟨k4, 0, none⟩ : Addr) none 0 0 0 w2 Q)))))
def ref17_Make_tt : Nat → List (Nat × TypeId) := fun _ => []
theorem ref17_Make_call (cs0 : Array Value) (n1 : Int) (p2 : Option Addr) (l2 : Nat) (c2 : Nat) (p3 : Option Addr) (l3 : Nat) (c3 : Nat) (w : World) (Q : Value → World → Prop) (h : ref17_Make cs0 n1 p2 l2 c2 p3 l3 c3 w Q) : callF Tryz.prog 180 #[.agg cs0, .int .i64 n1, .slice p2 l2 c2, .slice p3 l3 c3] w Q :=
  callBy ref17_Make_tt Tryz.func180 h (fun _ _ => by kernel_rfl) (by kernel_rfl) (by kernel_rfl) (by kernel_rfl)
end Go.Sh
end

section
namespace Go.Sh
open Go Go.Fw Go.Proofs Go.RowKit
set_option maxRecDepth 100000
set_option maxHeartbeats 2000000
theorem maps_Clone_calls (b : Nat) (es : Array MapEntry) (clock : Nat) (w : World) (hb : w.heap[b]? = some (.map es clock)) :
    Calls Tryz.prog 106 #[.map (some b)] w fun e w' => e = .returned (.map (some w.heap.size)) ∧ w' = w.alloc (.map es clock) := by
  have hq := fun w => run_eql_map_nil_sl (P := Tryz.prog) w 64 _ _ (some b) Tryz.underlying64
  go_enter Tryz.func106, Tryz.ntmps106
  go_wp2
  rw [run_callFunc_extern Tryz.func181 (by kernel_rfl) (by kernel_rfl) (by kernel_rfl) (e := Extern.MapsClone.clone) (by kernel_rfl), run_maps_clone_sl w 64 hb]
  simp only [Result.andThen]
  rw [Oper.upon_value]
  go_wp2
  rw [run_typeAssert_map_sl _ 64 20 _ _ _ Tryz.underlying64]
  simp only [Result.andThen]
  rw [Oper.upon_value]
  go_wp2
  go_ret
  exact ⟨rfl, rfl⟩
theorem maps_Clone_c {b : Nat} {ks : List (List UInt8)} {w : World} (hM : SMap w b ks) {K : Value → World → Prop} (h : ∀ w', Fr [] w w' → SMap w' w.heap.size ks → w'.heap.size = w.heap.size + 1 → K (.map (some w.heap.size)) w') :
    callF Tryz.prog 106 #[.map (some b)] w K := by
  obtain ⟨es, c, hM, he⟩ := hM
  refine callF_of (fun _ _ => by kernel_rfl) ((maps_Clone_calls b es c w hM).mono fun e w' hw => ?_)
  obtain ⟨h1, h2⟩ := hw
  subst h2
  refine ⟨_, h1, h _ (Fr.alloc _ _) ⟨es, c, ?_, he⟩ (by simp)⟩
  show (w.heap.push _)[w.heap.size]? = _
  simp
end Go.Sh
end

section
namespace Go.Sh
open Go Go.Fw Go.Proofs
set_option maxRecDepth 100000
set_option linter.unusedVariables false
def law28_IssueCalls_j1 (a12 : Addr) (b14 : Bool) (p16 : Option Addr) (p18 : Option Addr) (p26 : Option Addr) (w : World) (Q : Value → World → Prop) : Prop :=
  ∃ p207 l207 c207, Ld Tryz.prog 25 (.pointer (some (a12.add 22))) w (.slice p207 l207 c207) ∧
  callF Tryz.prog 36 #[.pointer p26, .slice p207 l207 c207] w fun r208 w1 =>
  ∃ p208 l208 c208 n208 n208_1, r208 = .tuple #[.slice p208 l208 c208, .int .i64 n208, .int .i64 n208_1] ∧
  ∃ (S32 : World → Prop),
  Drw w1 fun w2 =>
  ∃ a212, p18 = some a212 ∧
  ∃ p214 l214 c214, HLd Tryz.prog S32 45 (.pointer (some (a212.add 23))) w2 (.slice p214 l214 c214) ∧
  callF Tryz.prog 31 #[.pointer p16] w2 fun r210 w3 =>
  ∃ n210, r210 = .int .i64 n210 ∧
  (w3 = w2 ∨ S32 w3) ∧
  cond (n210 == ((l214 : Nat) : Int))
  (∃ (cs220 : Array Value), Ld Tryz.prog 28 (.pointer (some a12)) w3 (.agg cs220) ∧
    callF Tryz.prog 30 #[.pointer p16, .pointer p18, .agg cs220] w3 fun r221 w4 =>
    ∃ b221, r221 = .bool b221 ∧
    Q (.bool b221) w4)
  (Q (.bool false) w3)
def law28_IssueCalls_j2 (a12 : Addr) (b14 : Bool) (p16 : Option Addr) (p18 : Option Addr) (p26 : Option Addr) (w : World) (Q : Value → World → Prop) : Prop :=
  LoopS [.pointer (some a12), .bool b14, .pointer p16, .pointer p18, .pointer p26, .int .i64 0] w fun I3 μ3 us3 _ wl3 =>
  ∃ a12_1 b14_1 p16_1 p18_1 p26_1 n27, us3 = [.pointer (some a12_1), .bool b14_1, .pointer p16_1, .pointer p18_1, .pointer p26_1, .int .i64 n27] ∧
  ∃ a176, p18_1 = some a176 ∧
  ∃ p178 l178 c178, Ld Tryz.prog 45 (.pointer (some (a176.add 23))) wl3 (.slice p178 l178 c178) ∧
  cond (decide (n27 < ((l178 : Nat) : Int)))
  (∃ a185, p18_1 = some a185 ∧
    ∃ p187 l187 c187, Ld Tryz.prog 45 (.pointer (some (a185.add 23))) wl3 (.slice p187 l187 c187) ∧
    ∃ a189, IxA Tryz.prog 45 (.slice p187 l187 c187) (.int .i64 n27) a189 ∧
    ∃ p190 l190 c190, Ld Tryz.prog 25 (.pointer (some a189)) wl3 (.slice p190 l190 c190) ∧
    callF Tryz.prog 34 #[.pointer p16_1, .slice p190 l190 c190] wl3 fun r191 w1 =>
    ∃ b191, r191 = .bool b191 ∧
    cond (!b191)
    (Q (.bool false) w1)
    (∃ a196, p18_1 = some a196 ∧
      ∃ p198 l198 c198, Ld Tryz.prog 45 (.pointer (some (a196.add 23))) w1 (.slice p198 l198 c198) ∧
      ∃ a200, IxA Tryz.prog 45 (.slice p198 l198 c198) (.int .i64 n27) a200 ∧
      ∃ p201 l201 c201, Ld Tryz.prog 25 (.pointer (some a200)) w1 (.slice p201 l201 c201) ∧
      callF Tryz.prog 34 #[.pointer p26_1, .slice p201 l201 c201] w1 fun r202 w2 =>
      ∃ b202, r202 = .bool b202 ∧
      cond (!b202)
      (Q (.bool false) w2)
      (goesOn [] [] I3 μ3 us3 [.pointer (some a12_1), .bool b14_1, .pointer p16_1, .pointer p18_1, .pointer p26_1, .int .i64 (IntKind.i64.wrap (n27 + 1))] wl3 w2)))
  (law28_IssueCalls_j1 a12_1 b14_1 p16_1 p18_1 p26_1 wl3 Q)
def law28_IssueCalls_j3 (p6 : Option Addr) (l6 : Nat) (c6 : Nat) (a12 : Addr) (b14 : Bool) (p16 : Option Addr) (p18 : Option Addr) (w : World) (Q : Value → World → Prop) : Prop :=
  callF Tryz.prog 29 #[.pointer p16] w fun r134 w1 =>
  ∃ n134 p134 l134 c134, r134 = .tuple #[.int .i64 n134, .slice p134 l134 c134] ∧
  callF Tryz.prog 32 #[.pointer p16] w1 fun r138 w2 =>
  ∃ p138, r138 = .pointer p138 ∧
  ∃ a141, p18 = some a141 ∧
  ∃ n143, Ld Tryz.prog 3 (.pointer (some (a141.add 19))) w2 (.int .i64 n143) ∧
  cond (n134 != n143)
  (Q (.bool false) w2)
  (∃ a148, p18 = some a148 ∧
    ∃ p150 l150 c150, Ld Tryz.prog 25 (.pointer (some (a148.add 20))) w2 (.slice p150 l150 c150) ∧
    callF Tryz.prog 33 #[.slice p134 l134 c134, .slice p150 l150 c150] w2 fun r151 w3 =>
    ∃ b151, r151 = .bool b151 ∧
    cond (!b151)
    (Q (.bool false) w3)
    (callF Tryz.prog 34 #[.pointer p16, .slice p6 l6 c6] w3 fun r157 w4 =>
      ∃ b157, r157 = .bool b157 ∧
      callF Tryz.prog 35 #[.pointer p18, .slice p6 l6 c6] w4 fun r160 w5 =>
      ∃ b160, r160 = .bool b160 ∧
      cond (!(b157 == b160))
      (Q (.bool false) w5)
      (∃ b165 w6, Ef Tryz.prog (do eqGuard .eql 32 (.tmp 164) (.const (.pointer none)) (.pointer p138) (.pointer none); binOp .eql 32 (.pointer p138) (.pointer none) : Sem Value) w5 (.bool b165) w6 ∧
        cond b165
        (Q (.bool false) w6)
        (callF Tryz.prog 31 #[.pointer p138] w6 fun r169 w7 =>
          ∃ n169, r169 = .int .i64 n169 ∧
          callF Tryz.prog 31 #[.pointer p16] w7 fun r171 w8 =>
          ∃ n171, r171 = .int .i64 n171 ∧
          cond (n169 != n171)
          (Q (.bool false) w8)
          (law28_IssueCalls_j2 a12 b14 p16 p18 p138 w8 Q)))))
def law28_IssueCalls_j4 (p4 : Option Addr) (l4 : Nat) (c4 : Nat) (p6 : Option Addr) (l6 : Nat) (c6 : Nat) (a12 : Addr) (b14 : Bool) (p16 : Option Addr) (p18 : Option Addr) (w : World) (Q : Value → World → Prop) : Prop :=
  LoopS [.slice p4 l4 c4, .slice p6 l6 c6, .pointer (some a12), .bool b14, .pointer p16, .pointer p18, .int .i64 0] w fun I2 μ2 us2 _ wl2 =>
  ∃ p4_1 l4_1 c4_1 p6_1 l6_1 c6_1 a12_1 b14_1 p16_1 p18_1 n21, us2 = [.slice p4_1 l4_1 c4_1, .slice p6_1 l6_1 c6_1, .pointer (some a12_1), .bool b14_1, .pointer p16_1, .pointer p18_1, .int .i64 n21] ∧
  cond (decide (n21 < ((l4_1 : Nat) : Int)))
  (callF Tryz.prog 29 #[.pointer p16_1] wl2 fun r102 w1 =>
    ∃ n102 p102 l102 c102, r102 = .tuple #[.int .i64 n102, .slice p102 l102 c102] ∧
    ∃ (S20 : World → Prop),
    Drw w1 fun w2 =>
    ∃ a109, IxA Tryz.prog 26 (.slice p4_1 l4_1 c4_1) (.int .i64 n21) a109 ∧
    ∃ (cs110 : Array Value), Ld Tryz.prog 28 (.pointer (some a109)) w2 (.agg cs110) ∧
    (w2 = w2 ∨ S20 w2) ∧
    callF Tryz.prog 30 #[.pointer p16_1, .pointer p18_1, .agg cs110] w2 fun r111 w3 =>
    ∃ b111, r111 = .bool b111 ∧
    (w3 = w2 ∨ S20 w3) ∧
    ∃ (S1006 : World → Prop),
    (∀ v, S1006 v → S20 v) ∧
    cond (!b111)
    (Q (.bool false) w3)
    (∃ a117, p18_1 = some a117 ∧
      ∃ p119 l119 c119, HLd Tryz.prog S1006 45 (.pointer (some (a117.add 23))) w3 (.slice p119 l119 c119) ∧
      callF Tryz.prog 31 #[.pointer p16_1] w3 fun r115 w4 =>
      ∃ n115, r115 = .int .i64 n115 ∧
      (w4 = w3 ∨ S1006 w4) ∧
      cond (n115 != ((l119 : Nat) : Int))
      (Q (.bool false) w4)
      (cond (decide (n102 < 0))
        (Q (.bool false) w4)
        (cond (((l102 : Nat) : Int) == 0)
          (Q (.bool false) w4)
          (goesOn [] [] I2 μ2 us2 [.slice p4_1 l4_1 c4_1, .slice p6_1 l6_1 c6_1, .pointer (some a12_1), .bool b14_1, .pointer p16_1, .pointer p18_1, .int .i64 (IntKind.i64.wrap (n21 + 1))] wl2 w4)))))
  (law28_IssueCalls_j3 p6_1 l6_1 c6_1 a12_1 b14_1 p16_1 p18_1 wl2 Q)
def law28_IssueCalls_j5 (p4 : Option Addr) (l4 : Nat) (c4 : Nat) (p6 : Option Addr) (l6 : Nat) (c6 : Nat) (a12 : Addr) (b14 : Bool) (p15 : Option Addr) (l15 : Nat) (c15 : Nat) (p16 : Option Addr) (p18 : Option Addr) (w : World) (Q : Value → World → Prop) : Prop :=
  LoopS [.slice p4 l4 c4, .slice p6 l6 c6, .pointer (some a12), .bool b14, .slice p15 l15 c15, .pointer p16, .pointer p18, .int .i64 0] w fun I1 μ1 us1 _ wl1 =>
  ∃ p4_1 l4_1 c4_1 p6_1 l6_1 c6_1 a12_1 b14_1 p15_1 l15_1 c15_1 p16_1 p18_1 n20, us1 = [.slice p4_1 l4_1 c4_1, .slice p6_1 l6_1 c6_1, .pointer (some a12_1), .bool b14_1, .slice p15_1 l15_1 c15_1, .pointer p16_1, .pointer p18_1, .int .i64 n20] ∧
  cond (decide (n20 < ((l15_1 : Nat) : Int)))
  (∃ a90, IxA Tryz.prog 25 (.slice p15_1 l15_1 c15_1) (.int .i64 n20) a90 ∧
    ∃ n91, Ld Tryz.prog 5 (.pointer (some a90)) wl1 (.int .u8 n91) ∧
    ∃ a93, IxA Tryz.prog 25 (.slice p15_1 l15_1 c15_1) (.int .i64 n20) a93 ∧
    ∃ w1, Sto Tryz.prog 5 (.pointer (some a93)) (.int .u8 (IntKind.u8.wrap (n91 + 1))) wl1 w1 ∧
    goesOn [] [] I1 μ1 us1 [.slice p4_1 l4_1 c4_1, .slice p6_1 l6_1 c6_1, .pointer (some a12_1), .bool b14_1, .slice p15_1 l15_1 c15_1, .pointer p16_1, .pointer p18_1, .int .i64 (IntKind.i64.wrap (n20 + 1))] wl1 w1)
  (law28_IssueCalls_j4 p4_1 l4_1 c4_1 p6_1 l6_1 c6_1 a12_1 b14_1 p16_1 p18_1 wl1 Q)
def law28_IssueCalls_j6 (p4 : Option Addr) (l4 : Nat) (c4 : Nat) (p6 : Option Addr) (l6 : Nat) (c6 : Nat) (a12 : Addr) (b14 : Bool) (p15 : Option Addr) (l15 : Nat) (c15 : Nat) (p16 : Option Addr) (p18 : Option Addr) (w : World) (Q : Value → World → Prop) : Prop :=
  ∃ b77 w1, Ef Tryz.prog (do eqGuard .eql 32 (.tmp 76) (.const (.pointer none)) (.pointer p16) (.pointer none); binOp .eql 32 (.pointer p16) (.pointer none) : Sem Value) w (.bool b77) w1 ∧
  cond b77
  (Q (.bool true) w1)
  (∃ b80 w2, Ef Tryz.prog (do eqGuard .eql 36 (.tmp 79) (.const (.pointer none)) (.pointer p18) (.pointer none); binOp .eql 36 (.pointer p18) (.pointer none) : Sem Value) w1 (.bool b80) w2 ∧
    cond b80
    (Q (.bool true) w2)
    (law28_IssueCalls_j5 p4 l4 c4 p6 l6 c6 a12 b14 p15 l15 c15 p16 p18 w2 Q))
def law28_IssueCalls_j7 (n1 : Int) (p2 : Option Addr) (l2 : Nat) (c2 : Nat) (n3 : Int) (p4 : Option Addr) (l4 : Nat) (c4 : Nat) (p6 : Option Addr) (l6 : Nat) (c6 : Nat) (a7 : Addr) (a12 : Addr) (b14 : Bool) (w : World) (Q : Value → World → Prop) : Prop :=
  callF Tryz.prog 25 #[.slice p2 l2 c2] w fun r48 w1 =>
  ∃ p48 l48 c48, r48 = .slice p48 l48 c48 ∧
  ∃ (cs50 : Array Value), Ld Tryz.prog 24 (.pointer (some a7)) w1 (.agg cs50) ∧
  callF Tryz.prog 26 #[.agg cs50, .int .i64 n1, .slice p48 l48 c48, .int .i64 n3] w1 fun r54 w2 =>
  ∃ p54 n54, r54 = .tuple #[.pointer p54, .int .i64 n54] ∧
  ∃ (cs58 : Array Value), Ld Tryz.prog 24 (.pointer (some a7)) w2 (.agg cs58) ∧
  callF Tryz.prog 28 #[.agg cs58] w2 fun r59 w3 =>
  ∃ (cs59 : Array Value), r59 = .agg cs59 ∧
  callF Tryz.prog 27 #[.agg cs59, .int .i64 n1, .slice p2 l2 c2, .int .i64 n3] w3 fun r63 w4 =>
  ∃ p63 n63, r63 = .tuple #[.pointer p63, .int .i64 n63] ∧
  cond (n54 != n63)
  (Q (.bool false) w4)
  (∃ b71 w5, Ef Tryz.prog (do eqGuard .eql 32 (.tmp 70) (.const (.pointer none)) (.pointer p54) (.pointer none); binOp .eql 32 (.pointer p54) (.pointer none) : Sem Value) w4 (.bool b71) w5 ∧
    ∃ b73 w6, Ef Tryz.prog (do eqGuard .eql 36 (.tmp 72) (.const (.pointer none)) (.pointer p63) (.pointer none); binOp .eql 36 (.pointer p63) (.pointer none) : Sem Value) w5 (.bool b73) w6 ∧
    cond (!(b71 == b73))
    (Q (.bool false) w6)
    (law28_IssueCalls_j6 p4 l4 c4 p6 l6 c6 a12 b14 p48 l48 c48 p54 p63 w6 Q))
def law28_IssueCalls (cs0 : Array Value) (n1 : Int) (p2 : Option Addr) (l2 : Nat) (c2 : Nat) (n3 : Int) (p4 : Option Addr) (l4 : Nat) (c4 : Nat) (cs5 : Array Value) (p6 : Option Addr) (l6 : Nat) (c6 : Nat) (w : World) (Q : Value → World → Prop) : Prop :=
  New cs0 24 w fun k7 w1 =>
  New cs5 28 w1 fun k12 w2 =>
  callF Tryz.prog 23 #[] w2 fun r28 w3 =>
  ∃ b28, r28 = .bool b28 ∧
  cond (!b28)
  (Q (.bool false) w3)
  (callF Tryz.prog 24 #[.slice p4 l4 c4] w3 fun r31 w4 =>
    ∃ b31, r31 = .bool b31 ∧
    cond b31
    (Q (.bool true) w4)
    (∃ (cs33 : Array Value), Ld Tryz.prog 28 (.pointer (some (⟨k12, 0, none⟩ : Addr))) w4 (.agg cs33) ∧
      ∃ p34 l34 c34 w5, Ef Tryz.prog (Instr.buildSlice 26 1 #[(0, .agg cs33)]) w4 (.slice p34 l34 c34) w5 ∧
      callF Tryz.prog 24 #[.slice p34 l34 c34] w5 fun r35 w6 =>
      ∃ b35, r35 = .bool b35 ∧
      cond b35
      (Q (.bool true) w6)
      (cond (decide (((l2 : Nat) : Int) > 100))
        (Q (.bool true) w6)
        (cond (decide (((l6 : Nat) : Int) > 100))
          (Q (.bool true) w6)
          (law28_IssueCalls_j7 n1 p2 l2 c2 n3 p4 l4 c4 p6 l6 c6 (⟨k7, 0, none⟩ : Addr) (⟨k12, 0, none⟩ : Addr) false w6 Q)))))
def law28_IssueCalls_tt : Nat → List (Nat × TypeId) := fun n => match n with | 0 => [(4, 26), (6, 25), (12, 1000000), (14, 4), (15, 25), (16, 32), (18, 36), (20, 3)] | 2 => [(4, 26), (6, 25), (12, 1000000), (14, 4), (16, 32), (18, 36), (21, 3)] | 4 => [(12, 1000000), (14, 4), (16, 32), (18, 36), (26, 32), (27, 3)] | _ => []
theorem law28_IssueCalls_call (cs0 : Array Value) (n1 : Int) (p2 : Option Addr) (l2 : Nat) (c2 : Nat) (n3 : Int) (p4 : Option Addr) (l4 : Nat) (c4 : Nat) (cs5 : Array Value) (p6 : Option Addr) (l6 : Nat) (c6 : Nat) (w : World) (Q : Value → World → Prop) (h : law28_IssueCalls cs0 n1 p2 l2 c2 n3 p4 l4 c4 cs5 p6 l6 c6 w Q) : callF Tryz.prog 3 #[.agg cs0, .int .i64 n1, .slice p2 l2 c2, .int .i64 n3, .slice p4 l4 c4, .agg cs5, .slice p6 l6 c6] w Q :=
  callBy law28_IssueCalls_tt Tryz.func3 h (fun _ _ => by kernel_rfl) (by kernel_rfl) (by kernel_rfl) (by kernel_rfl)
def law28_alive_j1 (b0 : Bool) (p1 : Option Addr) (w : World) (Q : Value → World → Prop) : Prop :=
  ∃ p47 l47 c47 w1, Ef Tryz.prog (Instr.buildSlice 25 3 #[(0, .int .u8 0), (1, .int .u8 0), (2, .int .u8 1)]) w (.slice p47 l47 c47) w1 ∧
  callF Tryz.prog 36 #[.pointer p1, .slice p47 l47 c47] w1 fun r48 w2 =>
  ∃ p48 l48 c48 n48 n48_1, r48 = .tuple #[.slice p48 l48 c48, .int .i64 n48, .int .i64 n48_1] ∧
  ∃ p54 l54 c54 w3, Ef Tryz.prog (Instr.buildSlice 25 5 #[(0, .int .u8 0), (1, .int .u8 0), (2, .int .u8 0), (3, .int .u8 1), (4, .int .u8 7)]) w2 (.slice p54 l54 c54) w3 ∧
  callF Tryz.prog 36 #[.pointer p1, .slice p54 l54 c54] w3 fun r55 w4 =>
  ∃ p55 l55 c55 n55 n55_1, r55 = .tuple #[.slice p55 l55 c55, .int .i64 n55, .int .i64 n55_1] ∧
  callF Tryz.prog 32 #[.pointer p1] w4 fun r60 w5 =>
  ∃ p60, r60 = .pointer p60 ∧
  ∃ p63 l63 c63 w6, Ef Tryz.prog (Instr.buildSlice 25 4 #[(0, .int .u8 0), (1, .int .u8 0), (2, .int .u8 0), (3, .int .u8 1)]) w5 (.slice p63 l63 c63) w6 ∧
  callF Tryz.prog 36 #[.pointer p1, .slice p63 l63 c63] w6 fun r64 w7 =>
  ∃ p64 l64 c64 n64 n64_1, r64 = .tuple #[.slice p64 l64 c64, .int .i64 n64, .int .i64 n64_1] ∧
  ∃ p70 l70 c70 w8, Ef Tryz.prog (Instr.buildSlice 25 4 #[(0, .int .u8 0), (1, .int .u8 0), (2, .int .u8 0), (3, .int .u8 1)]) w7 (.slice p70 l70 c70) w8 ∧
  callF Tryz.prog 36 #[.pointer p1, .slice p70 l70 c70] w8 fun r71 w9 =>
  ∃ p71 l71 c71 n71 n71_1, r71 = .tuple #[.slice p71 l71 c71, .int .i64 n71, .int .i64 n71_1] ∧
  callF Tryz.prog 29 #[.pointer p1] w9 fun r77 w10 =>
  ∃ n77 p77 l77 c77, r77 = .tuple #[.int .i64 n77, .slice p77 l77 c77] ∧
  callF Tryz.prog 34 #[.pointer p1, .slice p55 l55 c55] w10 fun r82 w11 =>
  ∃ b82, r82 = .bool b82 ∧
  ∃ p85 l85 c85 w12, Ef Tryz.prog (Instr.buildSlice 25 1 #[(0, .int .u8 8)]) w11 (.slice p85 l85 c85) w12 ∧
  callF Tryz.prog 100 #[.pointer p1, .agg #[.int .i64 0, .int .i64 1, .int .i64 4, .int .u8 0, .int .u8 0, .int .u8 0, .int .u8 0, .int .u8 0, .int .u8 0, .int .u8 0, .int .u8 0, .int .u8 0, .int .u8 0, .int .u8 0, .int .u8 0, .int .u8 0, .int .u8 0, .int .u8 0, .int .u8 0], .int .i64 0, .slice p85 l85 c85] w12 fun r86 w13 =>
  ∃ n86, r86 = .int .i64 n86 ∧
  callF Tryz.prog 100 #[.pointer p1, .agg #[.int .i64 0, .int .i64 1, .int .i64 4, .int .u8 0, .int .u8 0, .int .u8 0, .int .u8 0, .int .u8 0, .int .u8 0, .int .u8 0, .int .u8 0, .int .u8 0, .int .u8 0, .int .u8 0, .int .u8 0, .int .u8 0, .int .u8 0, .int .u8 0, .int .u8 0], .int .i64 0, .slice none 0 0] w13 fun r89 w14 =>
  ∃ n89, r89 = .int .i64 n89 ∧
  ∃ b91 w15, Ef Tryz.prog (do eqGuard .neq 32 (.tmp 90) (.const (.pointer none)) (.pointer p60) (.pointer none); binOp .neq 32 (.pointer p60) (.pointer none) : Sem Value) w14 (.bool b91) w15 ∧
  cond b91
  (cond (n48_1 == 21)
    (cond (n55_1 == 0)
      (cond (n55 == 4)
        (cond (n64_1 == 0)
          (cond (n71_1 == 18)
            (cond (n86 == 0)
              (cond (n89 == 11)
                (∃ p122 l122 c122 w16, Ef Tryz.prog (Instr.buildSlice 25 6 #[(0, .int .u8 133), (1, .int .u8 9), (2, .int .u8 0), (3, .int .u8 0), (4, .int .u8 0), (5, .int .u8 1)]) w15 (.slice p122 l122 c122) w16 ∧
                  callF Tryz.prog 33 #[.slice p55 l55 c55, .slice p122 l122 c122] w16 fun r123 w17 =>
                  ∃ b123, r123 = .bool b123 ∧
                  cond b123
                  (∃ p127 l127 c127 w18, Ef Tryz.prog (Instr.buildSlice 25 6 #[(0, .int .u8 133), (1, .int .u8 9), (2, .int .u8 0), (3, .int .u8 0), (4, .int .u8 0), (5, .int .u8 2)]) w17 (.slice p127 l127 c127) w18 ∧
                    callF Tryz.prog 33 #[.slice p64 l64 c64, .slice p127 l127 c127] w18 fun r128 w19 =>
                    ∃ b128, r128 = .bool b128 ∧
                    cond b128
                    (cond (n77 == 2)
                      (∃ p136 l136 c136 w20, Ef Tryz.prog (Instr.buildSlice 25 1 #[(0, .int .u8 9)]) w19 (.slice p136 l136 c136) w20 ∧
                        callF Tryz.prog 33 #[.slice p77 l77 c77, .slice p136 l136 c136] w20 fun r137 w21 =>
                        ∃ b137, r137 = .bool b137 ∧
                        cond b137
                        (cond b82
                          (callF Tryz.prog 34 #[.pointer p1, .slice p55 l55 c55] w21 fun r145 w22 =>
                            ∃ b145, r145 = .bool b145 ∧
                            cond (!b145)
                            (callF Tryz.prog 31 #[.pointer p1] w22 fun r150 w23 =>
                              ∃ n150, r150 = .int .i64 n150 ∧
                              cond (n150 == 0)
                              (callF Tryz.prog 31 #[.pointer p60] w23 fun r155 w24 =>
                                ∃ n155, r155 = .int .i64 n155 ∧
                                cond (n155 == 1)
                                (callF Tryz.prog 34 #[.pointer p60, .slice p55 l55 c55] w24 fun r161 w25 =>
                                  ∃ b161, r161 = .bool b161 ∧
                                  cond b161
                                  (callF Tryz.prog 34 #[.pointer p60, .slice p64 l64 c64] w25 fun r166 w26 =>
                                    ∃ b166, r166 = .bool b166 ∧
                                    Q (.bool (!b166)) w26)
                                  (Q (.bool false) w25))
                                (Q (.bool false) w24))
                              (Q (.bool false) w23))
                            (Q (.bool false) w22))
                          (Q (.bool false) w21))
                        (Q (.bool false) w21))
                      (Q (.bool false) w19))
                    (Q (.bool false) w19))
                  (Q (.bool false) w17))
                (Q (.bool false) w15))
              (Q (.bool false) w15))
            (Q (.bool false) w15))
          (Q (.bool false) w15))
        (Q (.bool false) w15))
      (Q (.bool false) w15))
    (Q (.bool false) w15))
  (Q (.bool false) w15)
def law28_alive  (w : World) (Q : Value → World → Prop) : Prop :=
  ∃ p25 l25 c25 w1, Ef Tryz.prog (Instr.buildSlice 25 1 #[(0, .int .u8 9)]) w (.slice p25 l25 c25) w1 ∧
  callF Tryz.prog 26 #[.agg #[.int .i64 0, .int .i64 1, .int .i64 4, .int .u8 0, .int .u8 0, .int .u8 0, .int .u8 0, .int .u8 0, .int .u8 0, .int .u8 0, .int .u8 0, .int .u8 0, .int .u8 0, .int .u8 0, .int .u8 0, .int .u8 0, .int .u8 0, .int .u8 0, .int .u8 0], .int .i64 2, .slice p25 l25 c25, .int .i64 2] w1 fun r26 w2 =>
  ∃ p26 n26, r26 = .tuple #[.pointer p26, .int .i64 n26] ∧
  ∃ p31 l31 c31 w3, Ef Tryz.prog (Instr.buildSlice 25 1 #[(0, .int .u8 9)]) w2 (.slice p31 l31 c31) w3 ∧
  callF Tryz.prog 26 #[.agg #[.int .i64 0, .int .i64 0, .int .i64 0, .int .u8 0, .int .u8 0, .int .u8 0, .int .u8 0, .int .u8 0, .int .u8 0, .int .u8 0, .int .u8 0, .int .u8 0, .int .u8 0, .int .u8 0, .int .u8 0, .int .u8 0, .int .u8 0, .int .u8 0, .int .u8 0], .int .i64 2, .slice p31 l31 c31, .int .i64 2] w3 fun r32 w4 =>
  ∃ p32 n32, r32 = .tuple #[.pointer p32, .int .i64 n32] ∧
  ∃ b36 w5, Ef Tryz.prog (do eqGuard .eql 32 (.tmp 35) (.const (.pointer none)) (.pointer p26) (.pointer none); binOp .eql 32 (.pointer p26) (.pointer none) : Sem Value) w4 (.bool b36) w5 ∧
  cond b36
  (Q (.bool false) w5)
  (cond (n26 != 0)
    (Q (.bool false) w5)
    (cond (n32 != 10)
      (Q (.bool false) w5)
      (law28_alive_j1 false p26 w5 Q)))
def law28_alive_tt : Nat → List (Nat × TypeId) := fun _ => []
theorem law28_alive_call  (w : World) (Q : Value → World → Prop) (h : law28_alive  w Q) : callF Tryz.prog 23 #[] w Q :=
  callBy law28_alive_tt Tryz.func23 h (fun _ _ => by kernel_rfl) (by kernel_rfl) (by kernel_rfl) (by kernel_rfl)
def law28_great (p0 : Option Addr) (l0 : Nat) (c0 : Nat) (w : World) (Q : Value → World → Prop) : Prop :=
  cond (decide (((l0 : Nat) : Int) > 60))
  (Q (.bool true) w)
  (LoopS [.slice p0 l0 c0, .bool false, .int .i64 0] w fun I1 μ1 us1 _ wl1 =>
    ∃ p0_1 l0_1 c0_1 b2 n3, us1 = [.slice p0_1 l0_1 c0_1, .bool b2, .int .i64 n3] ∧
    cond (decide (n3 < ((l0_1 : Nat) : Int)))
    (∃ a15, IxA Tryz.prog 26 (.slice p0_1 l0_1 c0_1) (.int .i64 n3) a15 ∧
      ∃ p17 l17 c17, Ld Tryz.prog 25 (.pointer (some (a15.add 21))) wl1 (.slice p17 l17 c17) ∧
      cond (decide (((l17 : Nat) : Int) > 100))
      (Q (.bool true) wl1)
      (∃ a23, IxA Tryz.prog 26 (.slice p0_1 l0_1 c0_1) (.int .i64 n3) a23 ∧
        ∃ p25 l25 c25, Ld Tryz.prog 25 (.pointer (some (a23.add 22))) wl1 (.slice p25 l25 c25) ∧
        cond (decide (((l25 : Nat) : Int) > 100))
        (Q (.bool true) wl1)
        (goesOn [] [] I1 μ1 us1 [.slice p0_1 l0_1 c0_1, .bool b2, .int .i64 (IntKind.i64.wrap (n3 + 1))] wl1 wl1)))
    (Q (.bool false) wl1))
def law28_great_tt : Nat → List (Nat × TypeId) := fun n => match n with | 0 => [(0, 26), (2, 4), (3, 3)] | _ => []
theorem law28_great_call (p0 : Option Addr) (l0 : Nat) (c0 : Nat) (w : World) (Q : Value → World → Prop) (h : law28_great p0 l0 c0 w Q) : callF Tryz.prog 24 #[.slice p0 l0 c0] w Q :=
  callBy law28_great_tt Tryz.func24 h (fun _ _ => by kernel_rfl) (by kernel_rfl) (by kernel_rfl) (by kernel_rfl)
def law28_Do (p0 : Option Addr) (p1 : Option Addr) (cs2 : Array Value) (w : World) (Q : Value → World → Prop) : Prop :=
  New cs2 28 w fun k5 w1 =>
  ∃ n14, Ld Tryz.prog 3 (.pointer (some ((⟨k5, 0, none⟩ : Addr).add 0))) w1 (.int .i64 n14) ∧
  cond (n14 == 0)
  (∃ p20 l20 c20, Ld Tryz.prog 25 (.pointer (some ((⟨k5, 0, none⟩ : Addr).add 22))) w1 (.slice p20 l20 c20) ∧
    callF Tryz.prog 25 #[.slice p20 l20 c20] w1 fun r21 w2 =>
    ∃ p21 l21 c21, r21 = .slice p21 l21 c21 ∧
    callF Tryz.prog 36 #[.pointer p0, .slice p21 l21 c21] w2 fun r22 w3 =>
    ∃ p22 l22 c22 n22 n22_1, r22 = .tuple #[.slice p22 l22 c22, .int .i64 n22, .int .i64 n22_1] ∧
    ∃ p29 l29 c29, Ld Tryz.prog 25 (.pointer (some ((⟨k5, 0, none⟩ : Addr).add 22))) w3 (.slice p29 l29 c29) ∧
    callF Tryz.prog 104 #[.pointer p1, .slice p29 l29 c29] w3 fun r30 w4 =>
    ∃ p30 l30 c30 n30 n30_1, r30 = .tuple #[.slice p30 l30 c30, .int .i64 n30, .int .i64 n30_1] ∧
    callF Tryz.prog 33 #[.slice p22 l22 c22, .slice p30 l30 c30] w4 fun r36 w5 =>
    ∃ b36, r36 = .bool b36 ∧
    cond b36
    (cond (n22 == n30)
      (Q (.bool (n22_1 == n30_1)) w5)
      (Q (.bool false) w5))
    (Q (.bool false) w5))
  (cond (n14 == 1)
    (∃ (S7 : World → Prop),
      Drw w1 fun w6 =>
      ∃ (cs51 : Array Value), HLd Tryz.prog S7 24 (.pointer (some ((⟨k5, 0, none⟩ : Addr).add 2))) w6 (.agg cs51) ∧
      ∃ n53, HLd Tryz.prog S7 3 (.pointer (some ((⟨k5, 0, none⟩ : Addr).add 1))) w6 (.int .i64 n53) ∧
      ∃ p55 l55 c55, HLd Tryz.prog S7 25 (.pointer (some ((⟨k5, 0, none⟩ : Addr).add 21))) w6 (.slice p55 l55 c55) ∧
      ∃ (cs60 : Array Value), HLd Tryz.prog S7 24 (.pointer (some ((⟨k5, 0, none⟩ : Addr).add 2))) w6 (.agg cs60) ∧
      ∃ n63, HLd Tryz.prog S7 3 (.pointer (some ((⟨k5, 0, none⟩ : Addr).add 1))) w6 (.int .i64 n63) ∧
      ∃ p65 l65 c65, HLd Tryz.prog S7 25 (.pointer (some ((⟨k5, 0, none⟩ : Addr).add 21))) w6 (.slice p65 l65 c65) ∧
      callF Tryz.prog 25 #[.slice p55 l55 c55] w6 fun r56 w7 =>
      ∃ p56 l56 c56, r56 = .slice p56 l56 c56 ∧
      (w7 = w6 ∨ S7 w7) ∧
      callF Tryz.prog 100 #[.pointer p0, .agg cs51, .int .i64 n53, .slice p56 l56 c56] w7 fun r57 w8 =>
      ∃ n57, r57 = .int .i64 n57 ∧
      (w8 = w7 ∨ S7 w8) ∧
      callF Tryz.prog 28 #[.agg cs60] w8 fun r61 w9 =>
      ∃ (cs61 : Array Value), r61 = .agg cs61 ∧
      (w9 = w8 ∨ S7 w9) ∧
      callF Tryz.prog 105 #[.pointer p1, .agg cs61, .int .i64 n63, .slice p65 l65 c65] w9 fun r66 w10 =>
      ∃ n66, r66 = .int .i64 n66 ∧
      Q (.bool (n57 == n66)) w10)
    (Q (.bool true) w1))
def law28_Do_tt : Nat → List (Nat × TypeId) := fun _ => []
theorem law28_Do_call (p0 : Option Addr) (p1 : Option Addr) (cs2 : Array Value) (w : World) (Q : Value → World → Prop) (h : law28_Do p0 p1 cs2 w Q) : callF Tryz.prog 30 #[.pointer p0, .pointer p1, .agg cs2] w Q :=
  callBy law28_Do_tt Tryz.func30 h (fun _ _ => by kernel_rfl) (by kernel_rfl) (by kernel_rfl) (by kernel_rfl)
end Go.Sh
end

section
namespace Go.Sh
open Go Go.Fw Go.Proofs
set_option maxRecDepth 100000
set_option linter.unusedVariables false
def ref28_New (cs0 : Array Value) (n1 : Int) (p2 : Option Addr) (l2 : Nat) (c2 : Nat) (n3 : Int) (w : World) (Q : Value → World → Prop) : Prop :=
  New cs0 39 w fun k4 w1 =>
  ∃ (cs11 : Array Value), Ld Tryz.prog 39 (.pointer (some (⟨k4, 0, none⟩ : Addr))) w1 (.agg cs11) ∧
  callF Tryz.prog 103 #[.agg cs11, .int .i64 n1, .slice p2 l2 c2, .int .i64 n3] w1 fun r15 w2 =>
  ∃ n15, r15 = .int .i64 n15 ∧
  cond (n15 != 0)
  (Q (.tuple #[.pointer none, .int .i64 n15]) w2)
  (∃ (S4 : World → Prop),
    Drw w2 fun w3 =>
    ∃ (cs19 : Array Value), HLd Tryz.prog S4 39 (.pointer (some (⟨k4, 0, none⟩ : Addr))) w3 (.agg cs19) ∧
    ∃ p21 l21 c21 w4, Ef Tryz.prog (Instr.buildSlice 25 0 #[]) w3 (.slice p21 l21 c21) w4 ∧
    (w4 = w3 ∨ S4 w4) ∧
    ∃ p23 l23 c23 w5, Ef Tryz.prog (Builtin.append_ #[25, 25] 25 #[.slice p21 l21 c21, .slice p2 l2 c2]) w4 (.slice p23 l23 c23) w5 ∧
    (w5 = w4 ∨ S4 w5) ∧
    ∃ (cs25 : Array Value), Pu Tryz.prog (Instr.build 47 #[(0, .agg cs19), (1, .int .i64 n1), (2, .slice p23 l23 c23), (3, .int .i64 n3)]) (.agg cs25) ∧
    New cs25 47 w5 fun k26 w6 =>
    Q (.tuple #[.pointer (some (⟨k26, 0, none⟩ : Addr)), .int .i64 0]) w6)
def ref28_New_tt : Nat → List (Nat × TypeId) := fun _ => []
theorem ref28_New_call (cs0 : Array Value) (n1 : Int) (p2 : Option Addr) (l2 : Nat) (c2 : Nat) (n3 : Int) (w : World) (Q : Value → World → Prop) (h : ref28_New cs0 n1 p2 l2 c2 n3 w Q) : callF Tryz.prog 27 #[.agg cs0, .int .i64 n1, .slice p2 l2 c2, .int .i64 n3] w Q :=
  callBy ref28_New_tt Tryz.func27 h (fun _ _ => by kernel_rfl) (by kernel_rfl) (by kernel_rfl) (by kernel_rfl)
def ref28_Issuer_Mine (p0 : Option Addr) (p1 : Option Addr) (l1 : Nat) (c1 : Nat) (w : World) (Q : Value → World → Prop) : Prop :=
  ∃ a6, p0 = some a6 ∧
  ∃ p8 l8 c8, Ld Tryz.prog 45 (.pointer (some (a6.add 23))) w (.slice p8 l8 c8) ∧
  callF Tryz.prog 108 #[.slice p8 l8 c8, .slice p1 l1 c1] w fun r10 w1 =>
  ∃ b10, r10 = .bool b10 ∧
  Q (.bool b10) w1
def ref28_Issuer_Mine_tt : Nat → List (Nat × TypeId) := fun _ => []
theorem ref28_Issuer_Mine_call (p0 : Option Addr) (p1 : Option Addr) (l1 : Nat) (c1 : Nat) (w : World) (Q : Value → World → Prop) (h : ref28_Issuer_Mine p0 p1 l1 c1 w Q) : callF Tryz.prog 35 #[.pointer p0, .slice p1 l1 c1] w Q :=
  callBy ref28_Issuer_Mine_tt Tryz.func35 h (fun _ _ => by kernel_rfl) (by kernel_rfl) (by kernel_rfl) (by kernel_rfl)
def ref28_check (cs0 : Array Value) (n1 : Int) (p2 : Option Addr) (l2 : Nat) (c2 : Nat) (n3 : Int) (w : World) (Q : Value → World → Prop) : Prop :=
  New cs0 39 w fun k4 w1 =>
  ∃ (cs9 : Array Value), Ld Tryz.prog 39 (.pointer (some (⟨k4, 0, none⟩ : Addr))) w1 (.agg cs9) ∧
  callF Tryz.prog 179 #[.agg cs9] w1 fun r10 w2 =>
  ∃ b10, r10 = .bool b10 ∧
  cond (!b10)
  (Q (.int .i64 10) w2)
  (cond (decide (n1 < 0))
    (Q (.int .i64 11) w2)
    (cond (decide (n1 > 2))
      (Q (.int .i64 11) w2)
      (∃ n22, Ld Tryz.prog 3 (.pointer (some ((⟨k4, 0, none⟩ : Addr).add 1))) w2 (.int .i64 n22) ∧
        cond (((l2 : Nat) : Int) != n22)
        (Q (.int .i64 11) w2)
        (cond (decide (n3 < 1))
          (Q (.int .i64 11) w2)
          (cond (decide (n3 > 65536))
            (Q (.int .i64 11) w2)
            (Q (.int .i64 0) w2))))))
def ref28_check_tt : Nat → List (Nat × TypeId) := fun _ => []
theorem ref28_check_call (cs0 : Array Value) (n1 : Int) (p2 : Option Addr) (l2 : Nat) (c2 : Nat) (n3 : Int) (w : World) (Q : Value → World → Prop) (h : ref28_check cs0 n1 p2 l2 c2 n3 w Q) : callF Tryz.prog 103 #[.agg cs0, .int .i64 n1, .slice p2 l2 c2, .int .i64 n3] w Q :=
  callBy ref28_check_tt Tryz.func103 h (fun _ _ => by kernel_rfl) (by kernel_rfl) (by kernel_rfl) (by kernel_rfl)
def ref28_Issuer_Next_j1 (p0 : Option Addr) (p4 : Option Addr) (l4 : Nat) (c4 : Nat) (n5 : Int) (n6 : Int) (p7 : Option Addr) (l7 : Nat) (c7 : Nat) (w : World) (Q : Value → World → Prop) : Prop :=
  ∃ (S12 : World → Prop),
  Drw w fun w1 =>
  ∃ a64, p0 = some a64 ∧
  ∃ a68, p0 = some a68 ∧
  ∃ a72, p0 = some a72 ∧
  ∃ (cs66 : Array Value), HLd Tryz.prog S12 39 (.pointer (some (a64.add 0))) w1 (.agg cs66) ∧
  ∃ n70, HLd Tryz.prog S12 3 (.pointer (some (a68.add 19))) w1 (.int .i64 n70) ∧
  ∃ p74 l74 c74, Ld Tryz.prog 25 (.pointer (some (a72.add 20))) w1 (.slice p74 l74 c74) ∧
  (w1 = w1 ∨ S12 w1) ∧
  callF Tryz.prog 180 #[.agg cs66, .int .i64 n70, .slice p74 l74 c74, .slice p7 l7 c7] w1 fun r76 w2 =>
  ∃ p76 l76 c76 n76, r76 = .tuple #[.slice p76 l76 c76, .int .i64 n76] ∧
  ∃ a81, p0 = some a81 ∧
  ∃ p83 l83 c83, Ld Tryz.prog 45 (.pointer (some (a81.add 22))) w2 (.slice p83 l83 c83) ∧
  ∃ p85 l85 c85 w3, Ef Tryz.prog (Instr.buildSlice 45 1 #[(0, .slice p7 l7 c7)]) w2 (.slice p85 l85 c85) w3 ∧
  ∃ p86 l86 c86 w4, Ef Tryz.prog (Builtin.append_ #[45, 45] 45 #[.slice p83 l83 c83, .slice p85 l85 c85]) w3 (.slice p86 l86 c86) w4 ∧
  ∃ a87, p0 = some a87 ∧
  ∃ w5, Sto Tryz.prog 45 (.pointer (some (a87.add 22))) (.slice p86 l86 c86) w4 w5 ∧
  ∃ a91, p0 = some a91 ∧
  ∃ p93 l93 c93, Ld Tryz.prog 45 (.pointer (some (a91.add 23))) w5 (.slice p93 l93 c93) ∧
  ∃ p95 l95 c95 w6, Ef Tryz.prog (Instr.buildSlice 45 1 #[(0, .slice p76 l76 c76)]) w5 (.slice p95 l95 c95) w6 ∧
  ∃ p96 l96 c96 w7, Ef Tryz.prog (Builtin.append_ #[45, 45] 45 #[.slice p93 l93 c93, .slice p95 l95 c95]) w6 (.slice p96 l96 c96) w7 ∧
  ∃ a97, p0 = some a97 ∧
  ∃ w8, Sto Tryz.prog 45 (.pointer (some (a97.add 23))) (.slice p96 l96 c96) w7 w8 ∧
  ∃ (S15 : World → Prop),
  Drw w8 fun w9 =>
  ∃ a103, p0 = some a103 ∧
  ∃ n106, HLd Tryz.prog S15 3 (.pointer (some ((a103.add 0).add 2))) w9 (.int .i64 n106) ∧
  ∃ p99 l99 c99 w10, Ef Tryz.prog (Instr.buildSlice 25 0 #[]) w9 (.slice p99 l99 c99) w10 ∧
  (w10 = w9 ∨ S15 w10) ∧
  ∃ p101 l101 c101 w11, Ef Tryz.prog (Builtin.append_ #[25, 25] 25 #[.slice p99 l99 c99, .slice p76 l76 c76]) w10 (.slice p101 l101 c101) w11 ∧
  (w11 = w10 ∨ S15 w11) ∧
  Q (.tuple #[.slice p101 l101 c101, .int .i64 n106, .int .i64 n76]) w11
def ref28_Issuer_Next (p0 : Option Addr) (p1 : Option Addr) (l1 : Nat) (c1 : Nat) (w : World) (Q : Value → World → Prop) : Prop :=
  ∃ (S1 : World → Prop),
  Drw w fun w1 =>
  ∃ a12, p0 = some a12 ∧
  ∃ a17, p0 = some a17 ∧
  ∃ p14 l14 c14, HLd Tryz.prog S1 45 (.pointer (some (a12.add 23))) w1 (.slice p14 l14 c14) ∧
  ∃ n19, Ld Tryz.prog 3 (.pointer (some (a17.add 21))) w1 (.int .i64 n19) ∧
  (w1 = w1 ∨ S1 w1) ∧
  cond (decide (((l14 : Nat) : Int) ≥ n19))
  (Q (.tuple #[.slice none 0 0, .int .i64 0, .int .i64 18]) w1)
  (∃ a24, p0 = some a24 ∧
    ∃ n27, Ld Tryz.prog 3 (.pointer (some ((a24.add 0).add 2))) w1 (.int .i64 n27) ∧
    cond (decide (((l1 : Nat) : Int) < n27))
    (Q (.tuple #[.slice none 0 0, .int .i64 0, .int .i64 21]) w1)
    (∃ p29 l29 c29 w2, Ef Tryz.prog (Instr.buildSlice 25 0 #[]) w1 (.slice p29 l29 c29) w2 ∧
      ∃ a32, p0 = some a32 ∧
      ∃ n35, Ld Tryz.prog 3 (.pointer (some ((a32.add 0).add 2))) w2 (.int .i64 n35) ∧
      ∃ p36 l36 c36, Pu Tryz.prog (Instr.sliceAt 25 (.slice p1 l1 c1) none (some (.int .i64 n35)) none) (.slice p36 l36 c36) ∧
      ∃ p37 l37 c37 w3, Ef Tryz.prog (Builtin.append_ #[25, 25] 25 #[.slice p29 l29 c29, .slice p36 l36 c36]) w2 (.slice p37 l37 c37) w3 ∧
      LoopS [.pointer p0, .slice none 0 0, .int .i64 0, .int .i64 0, .slice p37 l37 c37] w3 fun I1 μ1 us1 _ wl1 =>
      ∃ p0_1 p4 l4 c4 n5 n6 p7 l7 c7, us1 = [.pointer p0_1, .slice p4 l4 c4, .int .i64 n5, .int .i64 n6, .slice p7 l7 c7] ∧
      ∃ a39, p0_1 = some a39 ∧
      ∃ p41 l41 c41, Ld Tryz.prog 45 (.pointer (some (a39.add 22))) wl1 (.slice p41 l41 c41) ∧
      callF Tryz.prog 108 #[.slice p41 l41 c41, .slice p7 l7 c7] wl1 fun r43 w4 =>
      ∃ b43, r43 = .bool b43 ∧
      cond b43
      (LoopS [.pointer p0_1, .slice p4 l4 c4, .int .i64 n5, .int .i64 n6, .slice p7 l7 c7, .int .i64 (IntKind.i64.wrap (((l7 : Nat) : Int) - 1))] w4 fun I2 μ2 us2 _ wl2 =>
        ∃ p0_2 p4_1 l4_1 c4_1 n5_1 n6_1 p7_1 l7_1 c7_1 n8, us2 = [.pointer p0_2, .slice p4_1 l4_1 c4_1, .int .i64 n5_1, .int .i64 n6_1, .slice p7_1 l7_1 c7_1, .int .i64 n8] ∧
        cond (decide (n8 ≥ 0))
        (∃ a53, IxA Tryz.prog 25 (.slice p7_1 l7_1 c7_1) (.int .i64 n8) a53 ∧
          ∃ n54, Ld Tryz.prog 5 (.pointer (some a53)) wl2 (.int .u8 n54) ∧
          ∃ a56, IxA Tryz.prog 25 (.slice p7_1 l7_1 c7_1) (.int .i64 n8) a56 ∧
          ∃ w5, Sto Tryz.prog 5 (.pointer (some a56)) (.int .u8 (IntKind.u8.wrap (n54 + 1))) wl2 w5 ∧
          ∃ a59, IxA Tryz.prog 25 (.slice p7_1 l7_1 c7_1) (.int .i64 n8) a59 ∧
          ∃ n60, Ld Tryz.prog 5 (.pointer (some a59)) w5 (.int .u8 n60) ∧
          cond (n60 != 0)
          (goesOn [] [] I1 μ1 us1 [.pointer p0_2, .slice p4_1 l4_1 c4_1, .int .i64 n5_1, .int .i64 n6_1, .slice p7_1 l7_1 c7_1] wl1 w5)
          (goesOn [] [] I2 μ2 us2 [.pointer p0_2, .slice p4_1 l4_1 c4_1, .int .i64 n5_1, .int .i64 n6_1, .slice p7_1 l7_1 c7_1, .int .i64 (IntKind.i64.wrap (n8 - 1))] wl2 w5))
        (goesOn [] [] I1 μ1 us1 [.pointer p0_2, .slice p4_1 l4_1 c4_1, .int .i64 n5_1, .int .i64 n6_1, .slice p7_1 l7_1 c7_1] wl1 wl2))
      (ref28_Issuer_Next_j1 p0_1 p4 l4 c4 n5 n6 p7 l7 c7 w4 Q)))
def ref28_Issuer_Next_tt : Nat → List (Nat × TypeId) := fun n => match n with | 0 => [(0, 36), (4, 25), (5, 3), (6, 33), (7, 25)] | 2 => [(0, 36), (4, 25), (5, 3), (6, 33), (7, 25), (8, 3)] | _ => []
theorem ref28_Issuer_Next_call (p0 : Option Addr) (p1 : Option Addr) (l1 : Nat) (c1 : Nat) (w : World) (Q : Value → World → Prop) (h : ref28_Issuer_Next p0 p1 l1 c1 w Q) : callF Tryz.prog 104 #[.pointer p0, .slice p1 l1 c1] w Q :=
  callBy ref28_Issuer_Next_tt Tryz.func104 h (fun _ _ => by kernel_rfl) (by kernel_rfl) (by kernel_rfl) (by kernel_rfl)
def ref28_Issuer_Renew (p0 : Option Addr) (cs1 : Array Value) (n2 : Int) (p3 : Option Addr) (l3 : Nat) (c3 : Nat) (w : World) (Q : Value → World → Prop) : Prop :=
  New cs1 39 w fun k5 w1 =>
  ∃ (S1 : World → Prop),
  Drw w1 fun w2 =>
  ∃ a16, p0 = some a16 ∧
  ∃ (cs12 : Array Value), HLd Tryz.prog S1 39 (.pointer (some (⟨k5, 0, none⟩ : Addr))) w2 (.agg cs12) ∧
  ∃ n18, Ld Tryz.prog 3 (.pointer (some (a16.add 21))) w2 (.int .i64 n18) ∧
  (w2 = w2 ∨ S1 w2) ∧
  callF Tryz.prog 27 #[.agg cs12, .int .i64 n2, .slice p3 l3 c3, .int .i64 n18] w2 fun r19 w3 =>
  ∃ p19 n19, r19 = .tuple #[.pointer p19, .int .i64 n19] ∧
  cond (n19 != 0)
  (Q (.int .i64 n19) w3)
  (∃ a27, p19 = some a27 ∧
    ∃ (cs28 : Array Value), Ld Tryz.prog 47 (.pointer (some a27)) w3 (.agg cs28) ∧
    ∃ a29, p0 = some a29 ∧
    ∃ w4, Sto Tryz.prog 47 (.pointer (some a29)) (.agg cs28) w3 w4 ∧
    Q (.int .i64 0) w4)
def ref28_Issuer_Renew_tt : Nat → List (Nat × TypeId) := fun _ => []
theorem ref28_Issuer_Renew_call (p0 : Option Addr) (cs1 : Array Value) (n2 : Int) (p3 : Option Addr) (l3 : Nat) (c3 : Nat) (w : World) (Q : Value → World → Prop) (h : ref28_Issuer_Renew p0 cs1 n2 p3 l3 c3 w Q) : callF Tryz.prog 105 #[.pointer p0, .agg cs1, .int .i64 n2, .slice p3 l3 c3] w Q :=
  callBy ref28_Issuer_Renew_tt Tryz.func105 h (fun _ _ => by kernel_rfl) (by kernel_rfl) (by kernel_rfl) (by kernel_rfl)
def ref28_has_j1 (I1 : Inv) (μ1 : Meas) (us1 : List Value) (wl1 : World) (p0 : Option Addr) (l0 : Nat) (c0 : Nat) (p1 : Option Addr) (l1 : Nat) (c1 : Nat) (b4 : Bool) (n5 : Int) (b19 : Bool) (w : World) (Q : Value → World → Prop) : Prop :=
  cond b19
  (Q (.bool true) w)
  (goesOn [] [] I1 μ1 us1 [.slice p0 l0 c0, .slice p1 l1 c1, .bool b4, .int .i64 (IntKind.i64.wrap (n5 + 1))] wl1 w)
def ref28_has (p0 : Option Addr) (l0 : Nat) (c0 : Nat) (p1 : Option Addr) (l1 : Nat) (c1 : Nat) (w : World) (Q : Value → World → Prop) : Prop :=
  LoopS [.slice p0 l0 c0, .slice p1 l1 c1, .bool false, .int .i64 0] w fun I1 μ1 us1 _ wl1 =>
  ∃ p0_1 l0_1 c0_1 p1_1 l1_1 c1_1 b4 n5, us1 = [.slice p0_1 l0_1 c0_1, .slice p1_1 l1_1 c1_1, .bool b4, .int .i64 n5] ∧
  cond (decide (n5 < ((l0_1 : Nat) : Int)))
  (∃ (S4 : World → Prop),
    Drw wl1 fun w1 =>
    ∃ a14, IxA Tryz.prog 45 (.slice p0_1 l0_1 c0_1) (.int .i64 n5) a14 ∧
    ∃ p15 l15 c15, HLd Tryz.prog S4 25 (.pointer (some a14)) w1 (.slice p15 l15 c15) ∧
    (∃ s16 w2, Ef Tryz.prog (convert 25 9 (.slice p15 l15 c15)) w1 (.string s16) w2 ∧
      ∃ s18 w3, Ef Tryz.prog (convert 25 9 (.slice p1_1 l1_1 c1_1)) w2 (.string s18) w3 ∧
      (w3 = w2 ∨ S4 w3) ∧
      ∃ b19 w4, Ef Tryz.prog (do eqGuard .eql 9 (.tmp 16) (.tmp 18) (.string s16) (.string s18); binOp .eql 9 (.string s16) (.string s18) : Sem Value) w3 (.bool b19) w4 ∧
      ref28_has_j1 I1 μ1 us1 wl1 p0_1 l0_1 c0_1 p1_1 l1_1 c1_1 b4 n5 b19 w4 Q) ∧
    (∃ s18_1 w5, Ef Tryz.prog (convert 25 9 (.slice p1_1 l1_1 c1_1)) w1 (.string s18_1) w5 ∧
      (w5 = w1 ∨ S4 w5) ∧
      ∃ s16_1 w6, Ef Tryz.prog (convert 25 9 (.slice p15 l15 c15)) w5 (.string s16_1) w6 ∧
      ∃ b19_1 w7, Ef Tryz.prog (do eqGuard .eql 9 (.tmp 16) (.tmp 18) (.string s16_1) (.string s18_1); binOp .eql 9 (.string s16_1) (.string s18_1) : Sem Value) w6 (.bool b19_1) w7 ∧
      ref28_has_j1 I1 μ1 us1 wl1 p0_1 l0_1 c0_1 p1_1 l1_1 c1_1 b4 n5 b19_1 w7 Q))
  (Q (.bool false) wl1)
def ref28_has_tt : Nat → List (Nat × TypeId) := fun n => match n with | 0 => [(0, 45), (1, 25), (4, 4), (5, 3)] | _ => []
theorem ref28_has_call (p0 : Option Addr) (l0 : Nat) (c0 : Nat) (p1 : Option Addr) (l1 : Nat) (c1 : Nat) (w : World) (Q : Value → World → Prop) (h : ref28_has p0 l0 c0 p1 l1 c1 w Q) : callF Tryz.prog 108 #[.slice p0 l0 c0, .slice p1 l1 c1] w Q :=
  callBy ref28_has_tt Tryz.func108 h (fun _ _ => by kernel_rfl) (by kernel_rfl) (by kernel_rfl) (by kernel_rfl)
end Go.Sh
end
