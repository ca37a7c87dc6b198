/- A part of a proof of a given law of this program: lemmas, printed forms of its functions, contracts. It has no conditions of its own. -/
import Derived.Test.YtopjbcjbohegcaaProg
import Derived.Test.YtopjbcjbohegcaaMFw

section
namespace Go.Sh
open Go Go.Fw Go.Proofs
set_option maxRecDepth 100000
set_option linter.unusedVariables false

def law07_GcmTurns_j1 (p1 : Option Addr) (l1 : Nat) (c1 : Nat) (p2 : Option Addr) (l2 : Nat) (c2 : Nat) (p4 : Option Addr) (l4 : Nat) (c4 : Nat) (b10 : Bool) (p11 : Option Addr) (p13 : Option Addr) (l13 : Nat) (c13 : Nat) (w : World) (Q : Value → World → Prop) : Prop :=
  ∃ (p122 : Option Addr) (l122 : Nat) (c122 : Nat), Pu Try.prog (Instr.sliceAt 23 (.slice p13 l13 c13) none (some (.int .i64 ((l2 : Nat) : Int))) none) (.slice p122 l122 c122) ∧
  callF Try.prog 28 #[.pointer p11, .slice p1 l1 c1, .slice p122 l122 c122, .slice p4 l4 c4] w fun r124 w1 =>
  ∃ (p124 : Option Addr) (l124 : Nat) (c124 : Nat) (n124 : Int), r124 = .tuple #[.slice p124 l124 c124, .int .i64 n124] ∧
  cond (n124 == 0)
  (∃ (p134 : Option Addr) (l134 : Nat) (c134 : Nat), Pu Try.prog (Instr.sliceAt 23 (.slice p13 l13 c13) (some (.int .i64 ((l2 : Nat) : Int))) none none) (.slice p134 l134 c134) ∧
    callF Try.prog 29 #[.slice p124 l124 c124, .slice p134 l134 c134] w1 fun r135 w2 =>
    ∃ (b135 : Bool), r135 = .bool b135 ∧
    Q (.bool b135) w2)
  (Q (.bool false) w1)
def law07_GcmTurns_j2 (p1 : Option Addr) (l1 : Nat) (c1 : Nat) (p2 : Option Addr) (l2 : Nat) (c2 : Nat) (p3 : Option Addr) (l3 : Nat) (c3 : Nat) (p4 : Option Addr) (l4 : Nat) (c4 : Nat) (b10 : Bool) (p11 : Option Addr) (p13 : Option Addr) (l13 : Nat) (c13 : Nat) (p15 : Option Addr) (l15 : Nat) (c15 : Nat) (w : World) (Q : Value → World → Prop) : Prop :=
  LoopS [.slice p1 l1 c1, .slice p2 l2 c2, .slice p3 l3 c3, .slice p4 l4 c4, .bool b10, .pointer p11, .slice p13 l13 c13, .slice p15 l15 c15, .int .i64 0] w fun I1 μ1 us1 _ wl1 =>
  ∃ (p1_1 : Option Addr) (l1_1 : Nat) (c1_1 : Nat) (p2_1 : Option Addr) (l2_1 : Nat) (c2_1 : Nat) (p3_1 : Option Addr) (l3_1 : Nat) (c3_1 : Nat) (p4_1 : Option Addr) (l4_1 : Nat) (c4_1 : Nat) (b10_1 : Bool) (p11_1 : Option Addr) (p13_1 : Option Addr) (l13_1 : Nat) (c13_1 : Nat) (p15_1 : Option Addr) (l15_1 : Nat) (c15_1 : Nat) (n17 : Int), us1 = [.slice p1_1 l1_1 c1_1, .slice p2_1 l2_1 c2_1, .slice p3_1 l3_1 c3_1, .slice p4_1 l4_1 c4_1, .bool b10_1, .pointer p11_1, .slice p13_1 l13_1 c13_1, .slice p15_1 l15_1 c15_1, .int .i64 n17] ∧
  cond (decide (n17 < ((l2_1 : Nat) : Int)))
  (∃ (S15 : World → Prop),
    Drw wl1 fun w1 =>
    ∃ (a99 : Addr), IxA Try.prog 23 (.slice p13_1 l13_1 c13_1) (.int .i64 n17) a99 ∧
    ∃ (a103 : Addr), IxA Try.prog 23 (.slice p15_1 l15_1 c15_1) (.int .i64 n17) a103 ∧
    ∃ (a108 : Addr), IxA Try.prog 23 (.slice p2_1 l2_1 c2_1) (.int .i64 n17) a108 ∧
    ∃ (a112 : Addr), IxA Try.prog 23 (.slice p3_1 l3_1 c3_1) (.int .i64 n17) a112 ∧
    ∃ (n100 : Int), HLd Try.prog S15 5 (.pointer (some a99)) w1 (.int .u8 n100) ∧
    ∃ (n104 : Int), HLd Try.prog S15 5 (.pointer (some a103)) w1 (.int .u8 n104) ∧
    ∃ (n109 : Int), HLd Try.prog S15 5 (.pointer (some a108)) w1 (.int .u8 n109) ∧
    ∃ (n113 : Int), Ld Try.prog 5 (.pointer (some a112)) w1 (.int .u8 n113) ∧
    (w1 = w1 ∨ S15 w1) ∧
    cond ((ixor .u8 n100 n104) != (ixor .u8 n109 n113))
    (Q (.bool false) w1)
    (goesOn [] [] I1 μ1 us1 [.slice p1_1 l1_1 c1_1, .slice p2_1 l2_1 c2_1, .slice p3_1 l3_1 c3_1, .slice p4_1 l4_1 c4_1, .bool b10_1, .pointer p11_1, .slice p13_1 l13_1 c13_1, .slice p15_1 l15_1 c15_1, .int .i64 (IntKind.i64.wrap (n17 + 1))] wl1 w1))
  (law07_GcmTurns_j1 p1_1 l1_1 c1_1 p2_1 l2_1 c2_1 p4_1 l4_1 c4_1 b10_1 p11_1 p13_1 l13_1 c13_1 wl1 Q)
def law07_GcmTurns_j3 (p1 : Option Addr) (l1 : Nat) (c1 : Nat) (p2 : Option Addr) (l2 : Nat) (c2 : Nat) (p3 : Option Addr) (l3 : Nat) (c3 : Nat) (p4 : Option Addr) (l4 : Nat) (c4 : Nat) (b10 : Bool) (p11 : Option Addr) (w : World) (Q : Value → World → Prop) : Prop :=
  callF Try.prog 27 #[.pointer p11, .slice p1 l1 c1, .slice p2 l2 c2, .slice p4 l4 c4] w fun r60 w1 =>
  ∃ (p60 : Option Addr) (l60 : Nat) (c60 : Nat) (n60 : Int), r60 = .tuple #[.slice p60 l60 c60, .int .i64 n60] ∧
  callF Try.prog 27 #[.pointer p11, .slice p1 l1 c1, .slice p3 l3 c3, .slice none 0 0] w1 fun r67 w2 =>
  ∃ (p67 : Option Addr) (l67 : Nat) (c67 : Nat) (n67 : Int), r67 = .tuple #[.slice p67 l67 c67, .int .i64 n67] ∧
  cond (n60 != 0)
  (Q (.bool false) w2)
  (cond (n67 != 0)
    (Q (.bool false) w2)
    (cond (((l60 : Nat) : Int) != (IntKind.i64.wrap (((l2 : Nat) : Int) + 16)))
      (Q (.bool false) w2)
      (cond (((l67 : Nat) : Int) != ((l60 : Nat) : Int))
        (Q (.bool false) w2)
        (law07_GcmTurns_j2 p1 l1 c1 p2 l2 c2 p3 l3 c3 p4 l4 c4 b10 p11 p60 l60 c60 p67 l67 c67 w2 Q))))
def law07_GcmTurns_j4 (p0 : Option Addr) (l0 : Nat) (c0 : Nat) (p1 : Option Addr) (l1 : Nat) (c1 : Nat) (p2 : Option Addr) (l2 : Nat) (c2 : Nat) (p3 : Option Addr) (l3 : Nat) (c3 : Nat) (p4 : Option Addr) (l4 : Nat) (c4 : Nat) (b10 : Bool) (w : World) (Q : Value → World → Prop) : Prop :=
  callF Try.prog 26 #[.slice p0 l0 c0] w fun r46 w1 =>
  ∃ (p46 : Option Addr) (n46 : Int), r46 = .tuple #[.pointer p46, .int .i64 n46] ∧
  ∃ (b50 : Bool) (w2 : World), Ef Try.prog (do eqGuard .eql 38 (.tmp 49) (.const (.pointer none)) (.pointer p46) (.pointer none); binOp .eql 38 (.pointer p46) (.pointer none) : Sem Value) w1 (.bool b50) w2 ∧
  cond b50
  (Q (.bool false) w2)
  (cond (n46 != 0)
    (Q (.bool false) w2)
    (law07_GcmTurns_j3 p1 l1 c1 p2 l2 c2 p3 l3 c3 p4 l4 c4 b10 p46 w2 Q))
def law07_GcmTurns (p0 : Option Addr) (l0 : Nat) (c0 : Nat) (p1 : Option Addr) (l1 : Nat) (c1 : Nat) (p2 : Option Addr) (l2 : Nat) (c2 : Nat) (p3 : Option Addr) (l3 : Nat) (c3 : Nat) (p4 : Option Addr) (l4 : Nat) (c4 : Nat) (w : World) (Q : Value → World → Prop) : Prop :=
  callF Try.prog 24 #[] w fun r20 w1 =>
  ∃ (b20 : Bool), r20 = .bool b20 ∧
  cond (!b20)
  (Q (.bool false) w1)
  (∃ (p25 : Option Addr) (l25 : Nat) (c25 : Nat) (w2 : World), Ef Try.prog (Instr.buildSlice 91 3 #[(0, .slice p2 l2 c2), (1, .slice p3 l3 c3), (2, .slice p4 l4 c4)]) w1 (.slice p25 l25 c25) w2 ∧
    callF Try.prog 25 #[.slice p25 l25 c25] w2 fun r26 w3 =>
    ∃ (b26 : Bool), r26 = .bool b26 ∧
    cond b26
    (Q (.bool true) w3)
    (cond (((l0 : Nat) : Int) != 16)
      (Q (.bool true) w3)
      (cond (((l1 : Nat) : Int) != 12)
        (Q (.bool true) w3)
        (cond (((l2 : Nat) : Int) != ((l3 : Nat) : Int))
          (Q (.bool true) w3)
          (law07_GcmTurns_j4 p0 l0 c0 p1 l1 c1 p2 l2 c2 p3 l3 c3 p4 l4 c4 false w3 Q)))))
def law07_GcmTurns_tt : Nat → List (Nat × TypeId) := fun n => match n with | 0 => [(1, 23), (2, 23), (3, 23), (4, 23), (10, 4), (11, 38), (13, 23), (15, 23), (17, 3)] | _ => []
theorem law07_GcmTurns_call (p0 : Option Addr) (l0 : Nat) (c0 : Nat) (p1 : Option Addr) (l1 : Nat) (c1 : Nat) (p2 : Option Addr) (l2 : Nat) (c2 : Nat) (p3 : Option Addr) (l3 : Nat) (c3 : Nat) (p4 : Option Addr) (l4 : Nat) (c4 : Nat) (w : World) (Q : Value → World → Prop) (h : law07_GcmTurns p0 l0 c0 p1 l1 c1 p2 l2 c2 p3 l3 c3 p4 l4 c4 w Q) : callF Try.prog 6 #[.slice p0 l0 c0, .slice p1 l1 c1, .slice p2 l2 c2, .slice p3 l3 c3, .slice p4 l4 c4] w Q :=
  callF_of (fun _ _ => by kernel_rfl) (callK_of_sw law07_GcmTurns_tt Try.func6 rfl (by kernel_rfl) (show sw Try.prog none 137 law07_GcmTurns_tt _ 0 (endK Try.prog [.tmp 10] Q) ⟨regs [.slice p0 l0 c0, .slice p1 l1 c1, .slice p2 l2 c2, .slice p3 l3 c3, .slice p4 l4 c4], []⟩ w from
    Eq.mp (by kernel_rfl : law07_GcmTurns p0 l0 c0 p1 l1 c1 p2 l2 c2 p3 l3 c3 p4 l4 c4 w Q = sw Try.prog none 137 law07_GcmTurns_tt (Try.f6.body.getD .skip) 0 (endK Try.prog [.tmp 10] Q) ⟨regs [.slice p0 l0 c0, .slice p1 l1 c1, .slice p2 l2 c2, .slice p3 l3 c3, .slice p4 l4 c4], []⟩ w) h))

def law07_GcmParts_j1 (p1 : Option Addr) (l1 : Nat) (c1 : Nat) (p3 : Option Addr) (l3 : Nat) (c3 : Nat) (p4 : Option Addr) (l4 : Nat) (c4 : Nat) (b10 : Bool) (p11 : Option Addr) (p13 : Option Addr) (l13 : Nat) (c13 : Nat) (w : World) (Q : Value → World → Prop) : Prop :=
  callF Try.prog 31 #[.pointer p11, .slice p1 l1 c1, .slice p4 l4 c4, .slice p3 l3 c3] w fun r138 w1 =>
  ∃ (p138 : Option Addr) (l138 : Nat) (c138 : Nat) (n138 : Int), r138 = .tuple #[.slice p138 l138 c138, .int .i64 n138] ∧
  callF Try.prog 31 #[.pointer p11, .slice p1 l1 c1, .slice p13 l13 c13, .slice p3 l3 c3] w1 fun r146 w2 =>
  ∃ (p146 : Option Addr) (l146 : Nat) (c146 : Nat) (n146 : Int), r146 = .tuple #[.slice p146 l146 c146, .int .i64 n146] ∧
  callF Try.prog 31 #[.pointer p11, .slice p1 l1 c1, .slice p4 l4 c4, .slice p3 l3 c3] w2 fun r154 w3 =>
  ∃ (p154 : Option Addr) (l154 : Nat) (c154 : Nat) (n154 : Int), r154 = .tuple #[.slice p154 l154 c154, .int .i64 n154] ∧
  cond (n146 == 0)
  (cond (n138 == n154)
    (cond (n138 == 0)
      (callF Try.prog 30 #[.pointer p11] w3 fun r169 w4 =>
        ∃ (n169 : Int), r169 = .int .i64 n169 ∧
        cond (n169 == 0)
        (Q (.bool true) w4)
        (cond (n138 == 13)
          (callF Try.prog 30 #[.pointer p11] w4 fun r177 w5 =>
            ∃ (n177 : Int), r177 = .int .i64 n177 ∧
            Q (.bool (n177 == 2)) w5)
          (Q (.bool false) w4)))
      (cond (n138 == 13)
        (callF Try.prog 30 #[.pointer p11] w3 fun r177_1 w6 =>
          ∃ (n177_1 : Int), r177_1 = .int .i64 n177_1 ∧
          Q (.bool (n177_1 == 2)) w6)
        (Q (.bool false) w3)))
    (Q (.bool false) w3))
  (Q (.bool false) w3)
def law07_GcmParts_j2 (p1 : Option Addr) (l1 : Nat) (c1 : Nat) (p2 : Option Addr) (l2 : Nat) (c2 : Nat) (p3 : Option Addr) (l3 : Nat) (c3 : Nat) (p4 : Option Addr) (l4 : Nat) (c4 : Nat) (b10 : Bool) (p11 : Option Addr) (p13 : Option Addr) (l13 : Nat) (c13 : Nat) (w : World) (Q : Value → World → Prop) : Prop :=
  ∃ (p84 : Option Addr) (l84 : Nat) (c84 : Nat), Pu Try.prog (Instr.sliceAt 23 (.slice p13 l13 c13) none (some (.int .i64 ((l2 : Nat) : Int))) none) (.slice p84 l84 c84) ∧
  callF Try.prog 28 #[.pointer p11, .slice p1 l1 c1, .slice p84 l84 c84, .slice p3 l3 c3] w fun r86 w1 =>
  ∃ (p86 : Option Addr) (l86 : Nat) (c86 : Nat) (n86 : Int), r86 = .tuple #[.slice p86 l86 c86, .int .i64 n86] ∧
  callF Try.prog 27 #[.pointer p11, .slice p1 l1 c1, .slice none 0 0, .slice p3 l3 c3] w1 fun r93 w2 =>
  ∃ (p93 : Option Addr) (l93 : Nat) (c93 : Nat) (n93 : Int), r93 = .tuple #[.slice p93 l93 c93, .int .i64 n93] ∧
  callF Try.prog 28 #[.pointer p11, .slice p1 l1 c1, .slice none 0 0, .slice p3 l3 c3] w2 fun r100 w3 =>
  ∃ (p100 : Option Addr) (l100 : Nat) (c100 : Nat) (n100 : Int), r100 = .tuple #[.slice p100 l100 c100, .int .i64 n100] ∧
  cond (n86 != 0)
  (Q (.bool false) w3)
  (cond (n93 != 0)
    (Q (.bool false) w3)
    (cond (n100 != 0)
      (Q (.bool false) w3)
      (∃ (p118 : Option Addr) (l118 : Nat) (c118 : Nat), Pu Try.prog (Instr.sliceAt 23 (.slice p13 l13 c13) (some (.int .i64 ((l2 : Nat) : Int))) none none) (.slice p118 l118 c118) ∧
        callF Try.prog 29 #[.slice p86 l86 c86, .slice p118 l118 c118] w3 fun r119 w4 =>
        ∃ (b119 : Bool), r119 = .bool b119 ∧
        cond (!b119)
        (Q (.bool false) w4)
        (callF Try.prog 29 #[.slice p93 l93 c93, .slice p100 l100 c100] w4 fun r125 w5 =>
          ∃ (b125 : Bool), r125 = .bool b125 ∧
          cond (!b125)
          (Q (.bool false) w5)
          (callF Try.prog 30 #[.pointer p11] w5 fun r130 w6 =>
            ∃ (n130 : Int), r130 = .int .i64 n130 ∧
            cond (n130 != 0)
            (Q (.bool false) w6)
            (law07_GcmParts_j1 p1 l1 c1 p3 l3 c3 p4 l4 c4 b10 p11 p13 l13 c13 w6 Q))))))
def law07_GcmParts_j3 (p1 : Option Addr) (l1 : Nat) (c1 : Nat) (p2 : Option Addr) (l2 : Nat) (c2 : Nat) (p3 : Option Addr) (l3 : Nat) (c3 : Nat) (p4 : Option Addr) (l4 : Nat) (c4 : Nat) (b10 : Bool) (p11 : Option Addr) (w : World) (Q : Value → World → Prop) : Prop :=
  callF Try.prog 27 #[.pointer p11, .slice p1 l1 c1, .slice p2 l2 c2, .slice p3 l3 c3] w fun r65 w1 =>
  ∃ (p65 : Option Addr) (l65 : Nat) (c65 : Nat) (n65 : Int), r65 = .tuple #[.slice p65 l65 c65, .int .i64 n65] ∧
  cond (n65 != 0)
  (Q (.bool false) w1)
  (cond (((l65 : Nat) : Int) != (IntKind.i64.wrap (((l2 : Nat) : Int) + 16)))
    (Q (.bool false) w1)
    (law07_GcmParts_j2 p1 l1 c1 p2 l2 c2 p3 l3 c3 p4 l4 c4 b10 p11 p65 l65 c65 w1 Q))
def law07_GcmParts_j4 (p0 : Option Addr) (l0 : Nat) (c0 : Nat) (p1 : Option Addr) (l1 : Nat) (c1 : Nat) (p2 : Option Addr) (l2 : Nat) (c2 : Nat) (p3 : Option Addr) (l3 : Nat) (c3 : Nat) (p4 : Option Addr) (l4 : Nat) (c4 : Nat) (b10 : Bool) (w : World) (Q : Value → World → Prop) : Prop :=
  callF Try.prog 26 #[.slice p0 l0 c0] w fun r51 w1 =>
  ∃ (p51 : Option Addr) (n51 : Int), r51 = .tuple #[.pointer p51, .int .i64 n51] ∧
  ∃ (b55 : Bool) (w2 : World), Ef Try.prog (do eqGuard .eql 38 (.tmp 54) (.const (.pointer none)) (.pointer p51) (.pointer none); binOp .eql 38 (.pointer p51) (.pointer none) : Sem Value) w1 (.bool b55) w2 ∧
  cond b55
  (Q (.bool false) w2)
  (cond (n51 != 0)
    (Q (.bool false) w2)
    (law07_GcmParts_j3 p1 l1 c1 p2 l2 c2 p3 l3 c3 p4 l4 c4 b10 p51 w2 Q))
def law07_GcmParts (p0 : Option Addr) (l0 : Nat) (c0 : Nat) (p1 : Option Addr) (l1 : Nat) (c1 : Nat) (p2 : Option Addr) (l2 : Nat) (c2 : Nat) (p3 : Option Addr) (l3 : Nat) (c3 : Nat) (p4 : Option Addr) (l4 : Nat) (c4 : Nat) (w : World) (Q : Value → World → Prop) : Prop :=
  callF Try.prog 24 #[] w fun r27 w1 =>
  ∃ (b27 : Bool), r27 = .bool b27 ∧
  cond (!b27)
  (Q (.bool false) w1)
  (∃ (p32 : Option Addr) (l32 : Nat) (c32 : Nat) (w2 : World), Ef Try.prog (Instr.buildSlice 91 3 #[(0, .slice p2 l2 c2), (1, .slice p3 l3 c3), (2, .slice p4 l4 c4)]) w1 (.slice p32 l32 c32) w2 ∧
    callF Try.prog 25 #[.slice p32 l32 c32] w2 fun r33 w3 =>
    ∃ (b33 : Bool), r33 = .bool b33 ∧
    cond b33
    (Q (.bool true) w3)
    (cond (((l0 : Nat) : Int) != 16)
      (Q (.bool true) w3)
      (cond (((l1 : Nat) : Int) != 12)
        (Q (.bool true) w3)
        (cond (decide (((l4 : Nat) : Int) < 16))
          (Q (.bool true) w3)
          (law07_GcmParts_j4 p0 l0 c0 p1 l1 c1 p2 l2 c2 p3 l3 c3 p4 l4 c4 false w3 Q)))))
def law07_GcmParts_tt : Nat → List (Nat × TypeId) := fun _ => []
theorem law07_GcmParts_call (p0 : Option Addr) (l0 : Nat) (c0 : Nat) (p1 : Option Addr) (l1 : Nat) (c1 : Nat) (p2 : Option Addr) (l2 : Nat) (c2 : Nat) (p3 : Option Addr) (l3 : Nat) (c3 : Nat) (p4 : Option Addr) (l4 : Nat) (c4 : Nat) (w : World) (Q : Value → World → Prop) (h : law07_GcmParts p0 l0 c0 p1 l1 c1 p2 l2 c2 p3 l3 c3 p4 l4 c4 w Q) : callF Try.prog 7 #[.slice p0 l0 c0, .slice p1 l1 c1, .slice p2 l2 c2, .slice p3 l3 c3, .slice p4 l4 c4] w Q :=
  callF_of (fun _ _ => by kernel_rfl) (callK_of_sw law07_GcmParts_tt Try.func7 rfl (by kernel_rfl) (show sw Try.prog none 182 law07_GcmParts_tt _ 0 (endK Try.prog [.tmp 10] Q) ⟨regs [.slice p0 l0 c0, .slice p1 l1 c1, .slice p2 l2 c2, .slice p3 l3 c3, .slice p4 l4 c4], []⟩ w from
    Eq.mp (by kernel_rfl : law07_GcmParts p0 l0 c0 p1 l1 c1 p2 l2 c2 p3 l3 c3 p4 l4 c4 w Q = sw Try.prog none 182 law07_GcmParts_tt (Try.f7.body.getD .skip) 0 (endK Try.prog [.tmp 10] Q) ⟨regs [.slice p0 l0 c0, .slice p1 l1 c1, .slice p2 l2 c2, .slice p3 l3 c3, .slice p4 l4 c4], []⟩ w) h))

def law07_alive_j1 (b0 : Bool) (p1 : Option Addr) (w : World) (Q : Value → World → Prop) : Prop :=
  ∃ (p38 : Option Addr) (l38 : Nat) (c38 : Nat) (w1 : World), Ef Try.prog (Instr.makeSlice 23 (.int .i64 12) (.int .i64 12)) w (.slice p38 l38 c38) w1 ∧
  ∃ (p42 : Option Addr) (l42 : Nat) (c42 : Nat) (w2 : World), Ef Try.prog (Instr.makeSlice 23 (.int .i64 16) (.int .i64 16)) w1 (.slice p42 l42 c42) w2 ∧
  callF Try.prog 27 #[.pointer p1, .slice p38 l38 c38, .slice p42 l42 c42, .slice none 0 0] w2 fun r43 w3 =>
  ∃ (p43 : Option Addr) (l43 : Nat) (c43 : Nat) (n43 : Int), r43 = .tuple #[.slice p43 l43 c43, .int .i64 n43] ∧
  callF Try.prog 31 #[.pointer p1, .slice p38 l38 c38, .slice p43 l43 c43, .slice none 0 0] w3 fun r50 w4 =>
  ∃ (p50 : Option Addr) (l50 : Nat) (c50 : Nat) (n50 : Int), r50 = .tuple #[.slice p50 l50 c50, .int .i64 n50] ∧
  ∃ (p57 : Option Addr) (l57 : Nat) (c57 : Nat) (w5 : World), Ef Try.prog (Instr.buildSlice 23 1 #[(0, .int .u8 1)]) w4 (.slice p57 l57 c57) w5 ∧
  callF Try.prog 31 #[.pointer p1, .slice p38 l38 c38, .slice p43 l43 c43, .slice p57 l57 c57] w5 fun r58 w6 =>
  ∃ (p58 : Option Addr) (l58 : Nat) (c58 : Nat) (n58 : Int), r58 = .tuple #[.slice p58 l58 c58, .int .i64 n58] ∧
  ∃ (n67 : Int), Pu Try.prog (Builtin.min_ #[3, 3] 3 #[.int .i64 ((l43 : Nat) : Int), .int .i64 15]) (.int .i64 n67) ∧
  ∃ (p68 : Option Addr) (l68 : Nat) (c68 : Nat), Pu Try.prog (Instr.sliceAt 23 (.slice p43 l43 c43) none (some (.int .i64 n67)) none) (.slice p68 l68 c68) ∧
  callF Try.prog 31 #[.pointer p1, .slice p38 l38 c38, .slice p68 l68 c68, .slice none 0 0] w6 fun r69 w7 =>
  ∃ (p69 : Option Addr) (l69 : Nat) (c69 : Nat) (n69 : Int), r69 = .tuple #[.slice p69 l69 c69, .int .i64 n69] ∧
  callF Try.prog 27 #[.pointer p1, .slice none 0 0, .slice none 0 0, .slice none 0 0] w7 fun r74 w8 =>
  ∃ (p74 : Option Addr) (l74 : Nat) (c74 : Nat) (n74 : Int), r74 = .tuple #[.slice p74 l74 c74, .int .i64 n74] ∧
  ∃ (p77 : Option Addr) (l77 : Nat) (c77 : Nat) (w9 : World), Ef Try.prog (Instr.buildSlice 23 32 #[(0, .int .u8 3), (1, .int .u8 136), (2, .int .u8 218), (3, .int .u8 206), (4, .int .u8 96), (5, .int .u8 182), (6, .int .u8 163), (7, .int .u8 146), (8, .int .u8 243), (9, .int .u8 40), (10, .int .u8 194), (11, .int .u8 185), (12, .int .u8 113), (13, .int .u8 178), (14, .int .u8 254), (15, .int .u8 120), (16, .int .u8 171), (17, .int .u8 110), (18, .int .u8 71), (19, .int .u8 212), (20, .int .u8 44), (21, .int .u8 236), (22, .int .u8 19), (23, .int .u8 189), (24, .int .u8 245), (25, .int .u8 58), (26, .int .u8 103), (27, .int .u8 178), (28, .int .u8 18), (29, .int .u8 87), (30, .int .u8 189), (31, .int .u8 223)]) w8 (.slice p77 l77 c77) w9 ∧
  ∃ (p82 : Option Addr) (l82 : Nat) (c82 : Nat), Pu Try.prog (Instr.sliceAt 23 (.slice p77 l77 c77) none (some (.int .i64 16)) none) (.slice p82 l82 c82) ∧
  callF Try.prog 28 #[.pointer p1, .slice p38 l38 c38, .slice p82 l82 c82, .slice none 0 0] w9 fun r83 w10 =>
  ∃ (p83 : Option Addr) (l83 : Nat) (c83 : Nat) (n83 : Int), r83 = .tuple #[.slice p83 l83 c83, .int .i64 n83] ∧
  cond (n43 == 0)
  (cond (n50 == 0)
    (cond (n58 == 13)
      (cond (n69 == 12)
        (cond (n74 == 11)
          (cond (n83 == 0)
            (callF Try.prog 29 #[.slice p43 l43 c43, .slice p77 l77 c77] w10 fun r111 w11 =>
              ∃ (b111 : Bool), r111 = .bool b111 ∧
              cond b111
              (∃ (p115 : Option Addr) (l115 : Nat) (c115 : Nat) (w12 : World), Ef Try.prog (Instr.makeSlice 23 (.int .i64 16) (.int .i64 16)) w11 (.slice p115 l115 c115) w12 ∧
                callF Try.prog 29 #[.slice p50 l50 c50, .slice p115 l115 c115] w12 fun r116 w13 =>
                ∃ (b116 : Bool), r116 = .bool b116 ∧
                cond b116
                (∃ (p121 : Option Addr) (l121 : Nat) (c121 : Nat), Pu Try.prog (Instr.sliceAt 23 (.slice p77 l77 c77) (some (.int .i64 16)) none none) (.slice p121 l121 c121) ∧
                  callF Try.prog 29 #[.slice p83 l83 c83, .slice p121 l121 c121] w13 fun r122 w14 =>
                  ∃ (b122 : Bool), r122 = .bool b122 ∧
                  cond b122
                  (callF Try.prog 30 #[.pointer p1] w14 fun r126 w15 =>
                    ∃ (n126 : Int), r126 = .int .i64 n126 ∧
                    Q (.bool (n126 == 1)) w15)
                  (Q (.bool false) w14))
                (Q (.bool false) w13))
              (Q (.bool false) w11))
            (Q (.bool false) w10))
          (Q (.bool false) w10))
        (Q (.bool false) w10))
      (Q (.bool false) w10))
    (Q (.bool false) w10))
  (Q (.bool false) w10)
def law07_alive  (w : World) (Q : Value → World → Prop) : Prop :=
  ∃ (p20 : Option Addr) (l20 : Nat) (c20 : Nat) (w1 : World), Ef Try.prog (Instr.makeSlice 23 (.int .i64 16) (.int .i64 16)) w (.slice p20 l20 c20) w1 ∧
  callF Try.prog 26 #[.slice p20 l20 c20] w1 fun r21 w2 =>
  ∃ (p21 : Option Addr) (n21 : Int), r21 = .tuple #[.pointer p21, .int .i64 n21] ∧
  callF Try.prog 26 #[.slice none 0 0] w2 fun r25 w3 =>
  ∃ (p25 : Option Addr) (n25 : Int), r25 = .tuple #[.pointer p25, .int .i64 n25] ∧
  ∃ (b29 : Bool) (w4 : World), Ef Try.prog (do eqGuard .eql 38 (.tmp 28) (.const (.pointer none)) (.pointer p21) (.pointer none); binOp .eql 38 (.pointer p21) (.pointer none) : Sem Value) w3 (.bool b29) w4 ∧
  cond b29
  (Q (.bool false) w4)
  (cond (n21 != 0)
    (Q (.bool false) w4)
    (cond (n25 != 11)
      (Q (.bool false) w4)
      (law07_alive_j1 false p21 w4 Q)))
def law07_alive_tt : Nat → List (Nat × TypeId) := fun _ => []
theorem law07_alive_call  (w : World) (Q : Value → World → Prop) (h : law07_alive  w Q) : callF Try.prog 24 #[] w Q :=
  callF_of (fun _ _ => by kernel_rfl) (callK_of_sw law07_alive_tt Try.func24 rfl (by kernel_rfl) (show sw Try.prog none 129 law07_alive_tt _ 0 (endK Try.prog [.tmp 0] Q) ⟨regs [], []⟩ w from
    Eq.mp (by kernel_rfl : law07_alive  w Q = sw Try.prog none 129 law07_alive_tt (Try.f24.body.getD .skip) 0 (endK Try.prog [.tmp 0] Q) ⟨regs [], []⟩ w) h))

def law07_great (p0 : Option Addr) (l0 : Nat) (c0 : Nat) (w : World) (Q : Value → World → Prop) : Prop :=
  LoopS [.slice p0 l0 c0, .bool false, .int .i64 0] w fun I1 μ1 us1 _ wl1 =>
  ∃ (p0_1 : Option Addr) (l0_1 : Nat) (c0_1 : Nat) (b2 : Bool) (n3 : Int), us1 = [.slice p0_1 l0_1 c0_1, .bool b2, .int .i64 n3] ∧
  cond (decide (n3 < ((l0_1 : Nat) : Int)))
  (∃ (a12 : Addr), IxA Try.prog 91 (.slice p0_1 l0_1 c0_1) (.int .i64 n3) a12 ∧
    ∃ (p13 : Option Addr) (l13 : Nat) (c13 : Nat), Ld Try.prog 23 (.pointer (some a12)) wl1 (.slice p13 l13 c13) ∧
    cond (decide (((l13 : Nat) : Int) > 200))
    (Q (.bool true) wl1)
    (goesOn [] [] I1 μ1 us1 [.slice p0_1 l0_1 c0_1, .bool b2, .int .i64 (IntKind.i64.wrap (n3 + 1))] wl1 wl1))
  (Q (.bool false) wl1)
def law07_great_tt : Nat → List (Nat × TypeId) := fun n => match n with | 0 => [(0, 91), (2, 4), (3, 3)] | _ => []
theorem law07_great_call (p0 : Option Addr) (l0 : Nat) (c0 : Nat) (w : World) (Q : Value → World → Prop) (h : law07_great p0 l0 c0 w Q) : callF Try.prog 25 #[.slice p0 l0 c0] w Q :=
  callF_of (fun _ _ => by kernel_rfl) (callK_of_sw law07_great_tt Try.func25 rfl (by kernel_rfl) (show sw Try.prog none 16 law07_great_tt _ 0 (endK Try.prog [.tmp 2] Q) ⟨regs [.slice p0 l0 c0], []⟩ w from
    Eq.mp (by kernel_rfl : law07_great p0 l0 c0 w Q = sw Try.prog none 16 law07_great_tt (Try.f25.body.getD .skip) 0 (endK Try.prog [.tmp 2] Q) ⟨regs [.slice p0 l0 c0], []⟩ w) h))
end Go.Sh
end
