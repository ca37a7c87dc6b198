/- A part of a proof of a given law of this program: lemmas, printed forms of its functions, contracts. It has no conditions of its own. -/
import Derived.Test.YtlphgbgfnjhhcaaFw3
import Derived.Test.YtlphgbgfnjhhcaaProg
namespace Go.Sh
open Go Go.Fw Go.Proofs
set_option maxRecDepth 100000
set_option linter.unusedVariables false

/-! ### crossway/crosswaylaw02.FieldAnswers: function 6 -/

def law02_FieldAnswers (n0 : Int) (n1 : Int) (n2 : Int) (w : World) (Q : Value → World → Prop) : Prop :=
  callF Try.prog 41 #[] w fun r7 w1 =>
  ∃ (b7 : Bool), r7 = .bool b7 ∧
  cond (!b7)
  (Q (.bool false) w1)
  (callF Try.prog 42 #[.int .u8 n0, .int .u8 n1] w1 fun r11 w2 =>
    ∃ (n11 : Int), r11 = .int .u8 n11 ∧
    callF Try.prog 43 #[.int .u8 n0, .int .u8 n1] w2 fun r14 w3 =>
    ∃ (n14 : Int), r14 = .int .u8 n14 ∧
    cond (n11 == n14)
    (callF Try.prog 44 #[.int .u8 n0] w3 fun r18 w4 =>
      ∃ (n18 : Int), r18 = .int .u8 n18 ∧
      callF Try.prog 45 #[.int .u8 n0] w4 fun r20 w5 =>
      ∃ (n20 : Int), r20 = .int .u8 n20 ∧
      cond (n18 == n20)
      (callF Try.prog 46 #[.int .u8 n0, .int .u64 n2] w5 fun r26 w6 =>
        ∃ (n26 : Int), r26 = .int .u8 n26 ∧
        callF Try.prog 47 #[.int .u8 n0, .int .u64 n2] w6 fun r29 w7 =>
        ∃ (n29 : Int), r29 = .int .u8 n29 ∧
        Q (.bool (n26 == n29)) w7)
      (Q (.bool false) w5))
    (Q (.bool false) w3))

def law02_FieldAnswers_tt : Nat → List (Nat × TypeId) := fun _ => []

theorem law02_FieldAnswers_call (n0 : Int) (n1 : Int) (n2 : Int) (w : World) (Q : Value → World → Prop) (h : law02_FieldAnswers n0 n1 n2 w Q) : callF Try.prog 6 #[.int .u8 n0, .int .u8 n1, .int .u64 n2] w Q :=
  callF_of (fun _ _ => by kernel_rfl) (callK_of_sw law02_FieldAnswers_tt Try.func6 rfl (by kernel_rfl) (show sw Try.prog none 32 law02_FieldAnswers_tt _ 0 (endK Try.prog [.tmp 6] Q) ⟨regs [.int .u8 n0, .int .u8 n1, .int .u64 n2], []⟩ w from
    Eq.mp (by kernel_rfl : law02_FieldAnswers n0 n1 n2 w Q = sw Try.prog none 32 law02_FieldAnswers_tt (Try.f6.body.getD .skip) 0 (endK Try.prog [.tmp 6] Q) ⟨regs [.int .u8 n0, .int .u8 n1, .int .u64 n2], []⟩ w) h))


/-! ### crossway/crosswaylaw02.FieldTables: function 7 -/

def law02_FieldTables_j1 (I2 : Inv) (μ2 : Meas) (us2 : List Value) (wl2 : World) (p0 : Option Addr) (l0 : Nat) (c0 : Nat) (p1 : Option Addr) (l1 : Nat) (c1 : Nat) (n2 : Int) (b6 : Bool) (p8 : Option Addr) (n10 : Int) (b12 : Bool) (w : World) (Q : Value → World → Prop) : Prop :=
  cond (!b12)
  (Q (.bool false) w)
  (callF Try.prog 49 #[.pointer p8] w fun r116 w1 =>
    ∃ (n116 : Int), r116 = .int .i64 n116 ∧
    cond (n116 != 1)
    (Q (.bool false) w1)
    (goesOn [] [] I2 μ2 us2 [.slice p0 l0 c0, .slice p1 l1 c1, .int .i64 n2, .bool b6, .pointer p8, .int .i64 (IntKind.i64.wrap (n10 + 1))] wl2 w1))

def law02_FieldTables_j2 (I2 : Inv) (μ2 : Meas) (us2 : List Value) (wl2 : World) (p0 : Option Addr) (l0 : Nat) (c0 : Nat) (p1 : Option Addr) (l1 : Nat) (c1 : Nat) (n2 : Int) (b6 : Bool) (p8 : Option Addr) (n10 : Int) (n11 : Int) (b12 : Bool) (n13 : Int) (n14 : Int) (b93 : Bool) (w : World) (Q : Value → World → Prop) : Prop :=
  cond b93
  (cond (n14 == 11)
    (law02_FieldTables_j1 I2 μ2 us2 wl2 p0 l0 c0 p1 l1 c1 n2 b6 p8 n10 (n13 == 0) w Q)
    (law02_FieldTables_j1 I2 μ2 us2 wl2 p0 l0 c0 p1 l1 c1 n2 b6 p8 n10 false w Q))
  (cond (n14 == 0)
    (∃ (a106 : Addr), IxA Try.prog 50 (.slice p0 l0 c0) (.int .i64 n2) a106 ∧
      ∃ (n107 : Int), Ld Try.prog 5 (.pointer (some a106)) w (.int .u8 n107) ∧
      callF Try.prog 43 #[.int .u8 n107, .int .u8 n11] w fun r109 w1 =>
      ∃ (n109 : Int), r109 = .int .u8 n109 ∧
      law02_FieldTables_j1 I2 μ2 us2 wl2 p0 l0 c0 p1 l1 c1 n2 b6 p8 n10 (n13 == n109) w1 Q)
    (law02_FieldTables_j1 I2 μ2 us2 wl2 p0 l0 c0 p1 l1 c1 n2 b6 p8 n10 false w Q))

def law02_FieldTables_j3 (p0 : Option Addr) (l0 : Nat) (c0 : Nat) (p1 : Option Addr) (l1 : Nat) (c1 : Nat) (n2 : Int) (b6 : Bool) (p8 : Option Addr) (w : World) (Q : Value → World → Prop) : Prop :=
  LoopS [.slice p0 l0 c0, .slice p1 l1 c1, .int .i64 n2, .bool b6, .pointer p8, .int .i64 0] w fun I2 μ2 us2 _ wl2 =>
  ∃ (p0_1 : Option Addr) (l0_1 : Nat) (c0_1 : Nat) (p1_1 : Option Addr) (l1_1 : Nat) (c1_1 : Nat) (n2_1 : Int) (b6_1 : Bool) (p8_1 : Option Addr) (n10 : Int), us2 = [.slice p0_1 l0_1 c0_1, .slice p1_1 l1_1 c1_1, .int .i64 n2_1, .bool b6_1, .pointer p8_1, .int .i64 n10] ∧
  cond (decide (n10 < ((l1_1 : Nat) : Int)))
  (∃ (a57 : Addr), IxA Try.prog 50 (.slice p1_1 l1_1 c1_1) (.int .i64 n10) a57 ∧
    ∃ (n58 : Int), Ld Try.prog 5 (.pointer (some a57)) wl2 (.int .u8 n58) ∧
    cond ((Int.tmod n10 3) == 0)
    (callF Try.prog 50 #[.pointer p8_1, .int .u8 n58] wl2 fun r65 w1 =>
      ∃ (n65 : Int), r65 = .int .u8 n65 ∧
      callF Try.prog 51 #[.int .u8 n58] w1 fun r67 w2 =>
      ∃ (n67 : Int), r67 = .int .u8 n67 ∧
      law02_FieldTables_j1 I2 μ2 us2 wl2 p0_1 l0_1 c0_1 p1_1 l1_1 c1_1 n2_1 b6_1 p8_1 n10 (n65 == n67) w2 Q)
    (cond ((Int.tmod n10 3) == 1)
      (callF Try.prog 52 #[.pointer p8_1, .int .u8 n58] wl2 fun r73 w3 =>
        ∃ (n73 : Int), r73 = .int .u8 n73 ∧
        callF Try.prog 53 #[.int .u8 n58] w3 fun r75 w4 =>
        ∃ (n75 : Int), r75 = .int .u8 n75 ∧
        law02_FieldTables_j1 I2 μ2 us2 wl2 p0_1 l0_1 c0_1 p1_1 l1_1 c1_1 n2_1 b6_1 p8_1 n10 (n73 == n75) w4 Q)
      (cond ((Int.tmod n10 3) == 2)
        (callF Try.prog 54 #[.pointer p8_1, .int .i64 n2_1, .int .u8 n58] wl2 fun r83 w5 =>
          ∃ (n83 : Int) (n83_1 : Int), r83 = .tuple #[.int .u8 n83, .int .i64 n83_1] ∧
          cond (decide (n2_1 < 0))
          (law02_FieldTables_j2 I2 μ2 us2 wl2 p0_1 l0_1 c0_1 p1_1 l1_1 c1_1 n2_1 b6_1 p8_1 n10 n58 true n83 n83_1 true w5 Q)
          (law02_FieldTables_j2 I2 μ2 us2 wl2 p0_1 l0_1 c0_1 p1_1 l1_1 c1_1 n2_1 b6_1 p8_1 n10 n58 true n83 n83_1 (decide (n2_1 ≥ ((l0_1 : Nat) : Int))) w5 Q))
        (law02_FieldTables_j1 I2 μ2 us2 wl2 p0_1 l0_1 c0_1 p1_1 l1_1 c1_1 n2_1 b6_1 p8_1 n10 true wl2 Q))))
  (Q (.bool true) wl2)

def law02_FieldTables_j4 (p0 : Option Addr) (l0 : Nat) (c0 : Nat) (p1 : Option Addr) (l1 : Nat) (c1 : Nat) (n2 : Int) (b6 : Bool) (p7 : Option Addr) (l7 : Nat) (c7 : Nat) (p8 : Option Addr) (w : World) (Q : Value → World → Prop) : Prop :=
  LoopS [.slice p0 l0 c0, .slice p1 l1 c1, .int .i64 n2, .bool b6, .slice p7 l7 c7, .pointer p8, .int .i64 0] w fun I1 μ1 us1 _ wl1 =>
  ∃ (p0_1 : Option Addr) (l0_1 : Nat) (c0_1 : Nat) (p1_1 : Option Addr) (l1_1 : Nat) (c1_1 : Nat) (n2_1 : Int) (b6_1 : Bool) (p7_1 : Option Addr) (l7_1 : Nat) (c7_1 : Nat) (p8_1 : Option Addr) (n9 : Int), us1 = [.slice p0_1 l0_1 c0_1, .slice p1_1 l1_1 c1_1, .int .i64 n2_1, .bool b6_1, .slice p7_1 l7_1 c7_1, .pointer p8_1, .int .i64 n9] ∧
  cond (decide (n9 < ((l7_1 : Nat) : Int)))
  (∃ (a45 : Addr), IxA Try.prog 50 (.slice p7_1 l7_1 c7_1) (.int .i64 n9) a45 ∧
    ∃ (n46 : Int), Ld Try.prog 5 (.pointer (some a45)) wl1 (.int .u8 n46) ∧
    ∃ (a48 : Addr), IxA Try.prog 50 (.slice p7_1 l7_1 c7_1) (.int .i64 n9) a48 ∧
    ∃ (w1 : World), Sto Try.prog 5 (.pointer (some a48)) (.int .u8 (IntKind.u8.wrap (n46 + 1))) wl1 w1 ∧
    goesOn [] [] I1 μ1 us1 [.slice p0_1 l0_1 c0_1, .slice p1_1 l1_1 c1_1, .int .i64 n2_1, .bool b6_1, .slice p7_1 l7_1 c7_1, .pointer p8_1, .int .i64 (IntKind.i64.wrap (n9 + 1))] wl1 w1)
  (law02_FieldTables_j3 p0_1 l0_1 c0_1 p1_1 l1_1 c1_1 n2_1 b6_1 p8_1 wl1 Q)

def law02_FieldTables_j5 (p0 : Option Addr) (l0 : Nat) (c0 : Nat) (p1 : Option Addr) (l1 : Nat) (c1 : Nat) (n2 : Int) (b6 : Bool) (w : World) (Q : Value → World → Prop) : Prop :=
  ∃ (p25 : Option Addr) (l25 : Nat) (c25 : Nat) (w1 : World), Ef Try.prog (Instr.buildSlice 50 0 #[]) w (.slice p25 l25 c25) w1 ∧
  ∃ (p27 : Option Addr) (l27 : Nat) (c27 : Nat) (w2 : World), Ef Try.prog (Builtin.append_ #[50, 50] 50 #[.slice p25 l25 c25, .slice p0 l0 c0]) w1 (.slice p27 l27 c27) w2 ∧
  callF Try.prog 48 #[.slice p27 l27 c27] w2 fun r29 w3 =>
  ∃ (p29 : Option Addr), r29 = .pointer p29 ∧
  ∃ (b31 : Bool) (w4 : World), Ef Try.prog (do eqGuard .eql 51 (.tmp 30) (.const (.pointer none)) (.pointer p29) (.pointer none); binOp .eql 51 (.pointer p29) (.pointer none) : Sem Value) w3 (.bool b31) w4 ∧
  cond b31
  (Q (.bool false) w4)
  (callF Try.prog 49 #[.pointer p29] w4 fun r34 w5 =>
    ∃ (n34 : Int), r34 = .int .i64 n34 ∧
    cond (n34 != 0)
    (Q (.bool false) w5)
    (law02_FieldTables_j4 p0 l0 c0 p1 l1 c1 n2 b6 p27 l27 c27 p29 w5 Q))

def law02_FieldTables (p0 : Option Addr) (l0 : Nat) (c0 : Nat) (p1 : Option Addr) (l1 : Nat) (c1 : Nat) (n2 : Int) (w : World) (Q : Value → World → Prop) : Prop :=
  callF Try.prog 41 #[] w fun r15 w1 =>
  ∃ (b15 : Bool), r15 = .bool b15 ∧
  cond (!b15)
  (Q (.bool false) w1)
  (cond (decide (((l0 : Nat) : Int) > 8))
    (Q (.bool true) w1)
    (cond (decide (((l1 : Nat) : Int) > 60))
      (Q (.bool true) w1)
      (law02_FieldTables_j5 p0 l0 c0 p1 l1 c1 n2 false w1 Q)))

def law02_FieldTables_tt : Nat → List (Nat × TypeId) := fun n => match n with | 0 => [(0, 50), (1, 50), (2, 3), (6, 4), (7, 50), (8, 51), (9, 3)] | 2 => [(0, 50), (1, 50), (2, 3), (6, 4), (8, 51), (10, 3)] | _ => []

theorem law02_FieldTables_call (p0 : Option Addr) (l0 : Nat) (c0 : Nat) (p1 : Option Addr) (l1 : Nat) (c1 : Nat) (n2 : Int) (w : World) (Q : Value → World → Prop) (h : law02_FieldTables p0 l0 c0 p1 l1 c1 n2 w Q) : callF Try.prog 7 #[.slice p0 l0 c0, .slice p1 l1 c1, .int .i64 n2] w Q :=
  callF_of (fun _ _ => by kernel_rfl) (callK_of_sw law02_FieldTables_tt Try.func7 rfl (by kernel_rfl) (show sw Try.prog none 119 law02_FieldTables_tt _ 0 (endK Try.prog [.tmp 6] Q) ⟨regs [.slice p0 l0 c0, .slice p1 l1 c1, .int .i64 n2], []⟩ w from
    Eq.mp (by kernel_rfl : law02_FieldTables p0 l0 c0 p1 l1 c1 n2 w Q = sw Try.prog none 119 law02_FieldTables_tt (Try.f7.body.getD .skip) 0 (endK Try.prog [.tmp 6] Q) ⟨regs [.slice p0 l0 c0, .slice p1 l1 c1, .int .i64 n2], []⟩ w) h))


/-! ### crossway/crosswaylaw02.FieldLaws: function 8 -/

def law02_FieldLaws_j1 (n0 : Int) (b6 : Bool) (w : World) (Q : Value → World → Prop) : Prop :=
  cond (n0 == 0)
  (Q (.bool true) w)
  (callF Try.prog 44 #[.int .u8 n0] w fun r81 w1 =>
    ∃ (n81 : Int), r81 = .int .u8 n81 ∧
    callF Try.prog 42 #[.int .u8 n0, .int .u8 n81] w1 fun r82 w2 =>
    ∃ (n82 : Int), r82 = .int .u8 n82 ∧
    cond (n82 == 1)
    (callF Try.prog 46 #[.int .u8 n0, .int .u64 255] w2 fun r86 w3 =>
      ∃ (n86 : Int), r86 = .int .u8 n86 ∧
      cond (n86 == 1)
      (callF Try.prog 44 #[.int .u8 n0] w3 fun r91 w4 =>
        ∃ (n91 : Int), r91 = .int .u8 n91 ∧
        callF Try.prog 46 #[.int .u8 n0, .int .u64 254] w4 fun r93 w5 =>
        ∃ (n93 : Int), r93 = .int .u8 n93 ∧
        Q (.bool (n91 == n93)) w5)
      (Q (.bool false) w3))
    (Q (.bool false) w2))

def law02_FieldLaws_j2 (n0 : Int) (n1 : Int) (b6 : Bool) (w : World) (Q : Value → World → Prop) : Prop :=
  callF Try.prog 42 #[.int .u8 n0, .int .u8 1] w fun r47 w1 =>
  ∃ (n47 : Int), r47 = .int .u8 n47 ∧
  cond (n47 != n0)
  (Q (.bool false) w1)
  (∃ (p54 : Option Addr) (l54 : Nat) (c54 : Nat) (w2 : World), Ef Try.prog (Instr.buildSlice 50 3 #[(0, .int .u8 n0), (1, .int .u8 n1), (2, .int .u8 n0)]) w1 (.slice p54 l54 c54) w2 ∧
    callF Try.prog 55 #[.slice p54 l54 c54] w2 fun r55 w3 =>
    ∃ (n55 : Int), r55 = .int .u8 n55 ∧
    cond (n55 != n1)
    (Q (.bool false) w3)
    (callF Try.prog 55 #[.slice none 0 0] w3 fun r60 w4 =>
      ∃ (n60 : Int), r60 = .int .u8 n60 ∧
      cond (n60 != 0)
      (Q (.bool false) w4)
      (callF Try.prog 42 #[.int .u8 n0, .int .u8 n1] w4 fun r66 w5 =>
        ∃ (n66 : Int), r66 = .int .u8 n66 ∧
        cond (n0 == 0)
        (cond (!((n66 == 0) == true))
          (Q (.bool false) w5)
          (law02_FieldLaws_j1 n0 b6 w5 Q))
        (cond (!((n66 == 0) == (n1 == 0)))
          (Q (.bool false) w5)
          (law02_FieldLaws_j1 n0 b6 w5 Q)))))

def law02_FieldLaws (n0 : Int) (n1 : Int) (n2 : Int) (w : World) (Q : Value → World → Prop) : Prop :=
  callF Try.prog 41 #[] w fun r7 w1 =>
  ∃ (b7 : Bool), r7 = .bool b7 ∧
  cond (!b7)
  (Q (.bool false) w1)
  (callF Try.prog 42 #[.int .u8 n0, .int .u8 n1] w1 fun r11 w2 =>
    ∃ (n11 : Int), r11 = .int .u8 n11 ∧
    callF Try.prog 42 #[.int .u8 n1, .int .u8 n0] w2 fun r14 w3 =>
    ∃ (n14 : Int), r14 = .int .u8 n14 ∧
    cond (n11 != n14)
    (Q (.bool false) w3)
    (callF Try.prog 42 #[.int .u8 n0, .int .u8 n1] w3 fun r19 w4 =>
      ∃ (n19 : Int), r19 = .int .u8 n19 ∧
      callF Try.prog 42 #[.int .u8 n19, .int .u8 n2] w4 fun r21 w5 =>
      ∃ (n21 : Int), r21 = .int .u8 n21 ∧
      callF Try.prog 42 #[.int .u8 n1, .int .u8 n2] w5 fun r25 w6 =>
      ∃ (n25 : Int), r25 = .int .u8 n25 ∧
      callF Try.prog 42 #[.int .u8 n0, .int .u8 n25] w6 fun r26 w7 =>
      ∃ (n26 : Int), r26 = .int .u8 n26 ∧
      cond (n21 != n26)
      (Q (.bool false) w7)
      (∃ (p33 : Option Addr) (l33 : Nat) (c33 : Nat) (w8 : World), Ef Try.prog (Instr.buildSlice 50 2 #[(0, .int .u8 n1), (1, .int .u8 n2)]) w7 (.slice p33 l33 c33) w8 ∧
        callF Try.prog 55 #[.slice p33 l33 c33] w8 fun r34 w9 =>
        ∃ (n34 : Int), r34 = .int .u8 n34 ∧
        callF Try.prog 42 #[.int .u8 n0, .int .u8 n34] w9 fun r35 w10 =>
        ∃ (n35 : Int), r35 = .int .u8 n35 ∧
        callF Try.prog 42 #[.int .u8 n0, .int .u8 n1] w10 fun r38 w11 =>
        ∃ (n38 : Int), r38 = .int .u8 n38 ∧
        callF Try.prog 42 #[.int .u8 n0, .int .u8 n2] w11 fun r41 w12 =>
        ∃ (n41 : Int), r41 = .int .u8 n41 ∧
        ∃ (p42 : Option Addr) (l42 : Nat) (c42 : Nat) (w13 : World), Ef Try.prog (Instr.buildSlice 50 2 #[(0, .int .u8 n38), (1, .int .u8 n41)]) w12 (.slice p42 l42 c42) w13 ∧
        callF Try.prog 55 #[.slice p42 l42 c42] w13 fun r43 w14 =>
        ∃ (n43 : Int), r43 = .int .u8 n43 ∧
        cond (n35 != n43)
        (Q (.bool false) w14)
        (law02_FieldLaws_j2 n0 n1 false w14 Q))))

def law02_FieldLaws_tt : Nat → List (Nat × TypeId) := fun _ => []

theorem law02_FieldLaws_call (n0 : Int) (n1 : Int) (n2 : Int) (w : World) (Q : Value → World → Prop) (h : law02_FieldLaws n0 n1 n2 w Q) : callF Try.prog 8 #[.int .u8 n0, .int .u8 n1, .int .u8 n2] w Q :=
  callF_of (fun _ _ => by kernel_rfl) (callK_of_sw law02_FieldLaws_tt Try.func8 rfl (by kernel_rfl) (show sw Try.prog none 97 law02_FieldLaws_tt _ 0 (endK Try.prog [.tmp 6] Q) ⟨regs [.int .u8 n0, .int .u8 n1, .int .u8 n2], []⟩ w from
    Eq.mp (by kernel_rfl : law02_FieldLaws n0 n1 n2 w Q = sw Try.prog none 97 law02_FieldLaws_tt (Try.f8.body.getD .skip) 0 (endK Try.prog [.tmp 6] Q) ⟨regs [.int .u8 n0, .int .u8 n1, .int .u8 n2], []⟩ w) h))


/-! ### crossway/crosswaylaw02.FieldSigns: function 9 -/

def law02_FieldSigns (n0 : Int) (n1 : Int) (w : World) (Q : Value → World → Prop) : Prop :=
  callF Try.prog 41 #[] w fun r7 w1 =>
  ∃ (b7 : Bool), r7 = .bool b7 ∧
  cond (!b7)
  (Q (.bool false) w1)
  (callF Try.prog 48 #[.slice none 0 0] w1 fun r9 w2 =>
    ∃ (p9 : Option Addr), r9 = .pointer p9 ∧
    ∃ (b11 : Bool) (w3 : World), Ef Try.prog (do eqGuard .eql 51 (.tmp 10) (.const (.pointer none)) (.pointer p9) (.pointer none); binOp .eql 51 (.pointer p9) (.pointer none) : Sem Value) w2 (.bool b11) w3 ∧
    cond b11
    (Q (.bool false) w3)
    (callF Try.prog 50 #[.pointer p9, .int .u8 n0] w3 fun r14 w4 =>
      ∃ (n14 : Int), r14 = .int .u8 n14 ∧
      callF Try.prog 50 #[.pointer p9, .int .u8 n1] w4 fun r18 w5 =>
      ∃ (n18 : Int), r18 = .int .u8 n18 ∧
      cond ((n14 == n18) == (n0 == n1))
      (callF Try.prog 52 #[.pointer p9, .int .u8 n14] w5 fun r27 w6 =>
        ∃ (n27 : Int), r27 = .int .u8 n27 ∧
        cond (n27 == n0)
        (callF Try.prog 52 #[.pointer p9, .int .u8 n0] w6 fun r35 w7 =>
          ∃ (n35 : Int), r35 = .int .u8 n35 ∧
          callF Try.prog 50 #[.pointer p9, .int .u8 n35] w7 fun r36 w8 =>
          ∃ (n36 : Int), r36 = .int .u8 n36 ∧
          cond (n36 == n0)
          (cond (n14 != n0)
            (cond (n14 != (IntKind.u8.wrap (255 - n0)))
              (callF Try.prog 48 #[.slice none 0 0] w8 fun r52 w9 =>
                ∃ (p52 : Option Addr), r52 = .pointer p52 ∧
                callF Try.prog 50 #[.pointer p52, .int .u8 n0] w9 fun r54 w10 =>
                ∃ (n54 : Int), r54 = .int .u8 n54 ∧
                Q (.bool (n54 == n14)) w10)
              (Q (.bool false) w8))
            (Q (.bool false) w8))
          (Q (.bool false) w8))
        (Q (.bool false) w6))
      (Q (.bool false) w5)))

def law02_FieldSigns_tt : Nat → List (Nat × TypeId) := fun _ => []

theorem law02_FieldSigns_call (n0 : Int) (n1 : Int) (w : World) (Q : Value → World → Prop) (h : law02_FieldSigns n0 n1 w Q) : callF Try.prog 9 #[.int .u8 n0, .int .u8 n1] w Q :=
  callF_of (fun _ _ => by kernel_rfl) (callK_of_sw law02_FieldSigns_tt Try.func9 rfl (by kernel_rfl) (show sw Try.prog none 58 law02_FieldSigns_tt _ 0 (endK Try.prog [.tmp 4] Q) ⟨regs [.int .u8 n0, .int .u8 n1], []⟩ w from
    Eq.mp (by kernel_rfl : law02_FieldSigns n0 n1 w Q = sw Try.prog none 58 law02_FieldSigns_tt (Try.f9.body.getD .skip) 0 (endK Try.prog [.tmp 4] Q) ⟨regs [.int .u8 n0, .int .u8 n1], []⟩ w) h))


/-! ### crossway/crosswaylaw02.FieldPowers: function 10 -/

def law02_FieldPowers_j1 (n0 : Int) (n1 : Int) (b6 : Bool) (w : World) (Q : Value → World → Prop) : Prop :=
  cond (n0 == 0)
  (Q (.bool true) w)
  (callF Try.prog 46 #[.int .u8 n0, .int .u64 (IntKind.u64.wrap ((IntKind.u64.wrap n1) + 255))] w fun r62 w1 =>
    ∃ (n62 : Int), r62 = .int .u8 n62 ∧
    callF Try.prog 46 #[.int .u8 n0, .int .u64 (IntKind.u64.wrap n1)] w1 fun r66 w2 =>
    ∃ (n66 : Int), r66 = .int .u8 n66 ∧
    Q (.bool (n62 == n66)) w2)

def law02_FieldPowers (n0 : Int) (n1 : Int) (n2 : Int) (w : World) (Q : Value → World → Prop) : Prop :=
  callF Try.prog 41 #[] w fun r8 w1 =>
  ∃ (b8 : Bool), r8 = .bool b8 ∧
  cond (!b8)
  (Q (.bool false) w1)
  (callF Try.prog 46 #[.int .u8 n0, .int .u64 (IntKind.u64.wrap n1)] w1 fun r13 w2 =>
    ∃ (n13 : Int), r13 = .int .u8 n13 ∧
    callF Try.prog 46 #[.int .u8 n0, .int .u64 (IntKind.u64.wrap n2)] w2 fun r17 w3 =>
    ∃ (n17 : Int), r17 = .int .u8 n17 ∧
    callF Try.prog 42 #[.int .u8 n13, .int .u8 n17] w3 fun r18 w4 =>
    ∃ (n18 : Int), r18 = .int .u8 n18 ∧
    callF Try.prog 46 #[.int .u8 n0, .int .u64 (IntKind.u64.wrap ((IntKind.u64.wrap n1) + (IntKind.u64.wrap n2)))] w4 fun r26 w5 =>
    ∃ (n26 : Int), r26 = .int .u8 n26 ∧
    cond (n18 != n26)
    (Q (.bool false) w5)
    (callF Try.prog 46 #[.int .u8 n0, .int .u64 1] w5 fun r30 w6 =>
      ∃ (n30 : Int), r30 = .int .u8 n30 ∧
      cond (n30 != n0)
      (Q (.bool false) w6)
      (callF Try.prog 46 #[.int .u8 n0, .int .u64 (IntKind.u64.wrap (Int.tmod n1 999))] w6 fun r39 w7 =>
        ∃ (n39 : Int), r39 = .int .u8 n39 ∧
        callF Try.prog 46 #[.int .u8 n39, .int .u64 (IntKind.u64.wrap (Int.tmod n2 999))] w7 fun r43 w8 =>
        ∃ (n43 : Int), r43 = .int .u8 n43 ∧
        callF Try.prog 46 #[.int .u8 n0, .int .u64 (IntKind.u64.wrap ((IntKind.u64.wrap (Int.tmod n1 999)) * (IntKind.u64.wrap (Int.tmod n2 999))))] w8 fun r52 w9 =>
        ∃ (n52 : Int), r52 = .int .u8 n52 ∧
        cond (n43 != n52)
        (Q (.bool false) w9)
        (law02_FieldPowers_j1 n0 n1 false w9 Q))))

def law02_FieldPowers_tt : Nat → List (Nat × TypeId) := fun _ => []

theorem law02_FieldPowers_call (n0 : Int) (n1 : Int) (n2 : Int) (w : World) (Q : Value → World → Prop) (h : law02_FieldPowers n0 n1 n2 w Q) : callF Try.prog 10 #[.int .u8 n0, .int .u32 n1, .int .u32 n2] w Q :=
  callF_of (fun _ _ => by kernel_rfl) (callK_of_sw law02_FieldPowers_tt Try.func10 rfl (by kernel_rfl) (show sw Try.prog none 69 law02_FieldPowers_tt _ 0 (endK Try.prog [.tmp 6] Q) ⟨regs [.int .u8 n0, .int .u32 n1, .int .u32 n2], []⟩ w from
    Eq.mp (by kernel_rfl : law02_FieldPowers n0 n1 n2 w Q = sw Try.prog none 69 law02_FieldPowers_tt (Try.f10.body.getD .skip) 0 (endK Try.prog [.tmp 6] Q) ⟨regs [.int .u8 n0, .int .u32 n1, .int .u32 n2], []⟩ w) h))


/-! ### crossway/crosswaylaw02.alive: function 41 -/

def law02_alive_j1 (b0 : Bool) (p1 : Option Addr) (w : World) (Q : Value → World → Prop) : Prop :=
  callF Try.prog 50 #[.pointer p1, .int .u8 83] w fun r18 w1 =>
  ∃ (n18 : Int), r18 = .int .u8 n18 ∧
  callF Try.prog 52 #[.pointer p1, .int .u8 237] w1 fun r20 w2 =>
  ∃ (n20 : Int), r20 = .int .u8 n20 ∧
  callF Try.prog 54 #[.pointer p1, .int .i64 1, .int .u8 128] w2 fun r23 w3 =>
  ∃ (n23 : Int) (n23_1 : Int), r23 = .tuple #[.int .u8 n23, .int .i64 n23_1] ∧
  callF Try.prog 54 #[.pointer p1, .int .i64 2, .int .u8 1] w3 fun r28 w4 =>
  ∃ (n28 : Int) (n28_1 : Int), r28 = .tuple #[.int .u8 n28, .int .i64 n28_1] ∧
  callF Try.prog 42 #[.int .u8 87, .int .u8 131] w4 fun r31 w5 =>
  ∃ (n31 : Int), r31 = .int .u8 n31 ∧
  cond (n31 == 193)
  (callF Try.prog 44 #[.int .u8 0] w5 fun r34 w6 =>
    ∃ (n34 : Int), r34 = .int .u8 n34 ∧
    cond (n34 == 0)
    (callF Try.prog 44 #[.int .u8 83] w6 fun r38 w7 =>
      ∃ (n38 : Int), r38 = .int .u8 n38 ∧
      callF Try.prog 42 #[.int .u8 n38, .int .u8 83] w7 fun r39 w8 =>
      ∃ (n39 : Int), r39 = .int .u8 n39 ∧
      cond (n39 == 1)
      (callF Try.prog 46 #[.int .u8 2, .int .u64 8] w8 fun r43 w9 =>
        ∃ (n43 : Int), r43 = .int .u8 n43 ∧
        cond (n43 == 27)
        (∃ (p47 : Option Addr) (l47 : Nat) (c47 : Nat) (w10 : World), Ef Try.prog (Instr.buildSlice 50 4 #[(0, .int .u8 1), (1, .int .u8 2), (2, .int .u8 4), (3, .int .u8 1)]) w9 (.slice p47 l47 c47) w10 ∧
          callF Try.prog 55 #[.slice p47 l47 c47] w10 fun r48 w11 =>
          ∃ (n48 : Int), r48 = .int .u8 n48 ∧
          cond (n48 == 6)
          (cond (n18 == 237)
            (cond (n20 == 83)
              (cond (n23_1 == 0)
                (cond (n23 == 155)
                  (cond (n28_1 == 11)
                    (callF Try.prog 49 #[.pointer p1] w11 fun r73 w12 =>
                      ∃ (n73 : Int), r73 = .int .i64 n73 ∧
                      Q (.bool (n73 == 1)) w12)
                    (Q (.bool false) w11))
                  (Q (.bool false) w11))
                (Q (.bool false) w11))
              (Q (.bool false) w11))
            (Q (.bool false) w11))
          (Q (.bool false) w11))
        (Q (.bool false) w9))
      (Q (.bool false) w8))
    (Q (.bool false) w6))
  (Q (.bool false) w5)

def law02_alive  (w : World) (Q : Value → World → Prop) : Prop :=
  ∃ (p8 : Option Addr) (l8 : Nat) (c8 : Nat) (w1 : World), Ef Try.prog (Instr.buildSlice 50 2 #[(0, .int .u8 2), (1, .int .u8 3)]) w (.slice p8 l8 c8) w1 ∧
  callF Try.prog 48 #[.slice p8 l8 c8] w1 fun r9 w2 =>
  ∃ (p9 : Option Addr), r9 = .pointer p9 ∧
  ∃ (b11 : Bool) (w3 : World), Ef Try.prog (do eqGuard .eql 51 (.tmp 10) (.const (.pointer none)) (.pointer p9) (.pointer none); binOp .eql 51 (.pointer p9) (.pointer none) : Sem Value) w2 (.bool b11) w3 ∧
  cond b11
  (Q (.bool false) w3)
  (callF Try.prog 49 #[.pointer p9] w3 fun r14 w4 =>
    ∃ (n14 : Int), r14 = .int .i64 n14 ∧
    cond (n14 != 0)
    (Q (.bool false) w4)
    (law02_alive_j1 false p9 w4 Q))

def law02_alive_tt : Nat → List (Nat × TypeId) := fun _ => []

theorem law02_alive_call  (w : World) (Q : Value → World → Prop) (h : law02_alive  w Q) : callF Try.prog 41 #[] w Q :=
  callF_of (fun _ _ => by kernel_rfl) (callK_of_sw law02_alive_tt Try.func41 rfl (by kernel_rfl) (show sw Try.prog none 76 law02_alive_tt _ 0 (endK Try.prog [.tmp 0] Q) ⟨regs [], []⟩ w from
    Eq.mp (by kernel_rfl : law02_alive  w Q = sw Try.prog none 76 law02_alive_tt (Try.f41.body.getD .skip) 0 (endK Try.prog [.tmp 0] Q) ⟨regs [], []⟩ w) h))

end Go.Sh
