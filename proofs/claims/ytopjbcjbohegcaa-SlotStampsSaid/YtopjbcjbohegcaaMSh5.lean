/- A part of a proof of a given law of this program: lemmas, printed forms of its functions, contracts. It has no conditions of its own. -/
import Derived.Test.YtopjbcjbohegcaaProg
import Derived.Test.YtopjbcjbohegcaaMFw

section
namespace Go.Sh
open Go Go.Fw Go.Proofs
set_option maxRecDepth 100000
set_option linter.unusedVariables false

def codec_Point (n0 : Int) (w : World) (Q : Value → World → Prop) : Prop :=
  Q (.int .i64 (IntKind.i64.wrap (Int.fdiv n0 (2 ^ 6)))) w
def codec_Point_tt : Nat → List (Nat × TypeId) := fun _ => []
theorem codec_Point_call (n0 : Int) (w : World) (Q : Value → World → Prop) (h : codec_Point n0 w Q) : callF Try.prog 65 #[.int .u8 n0] w Q :=
  callF_of (fun _ _ => by kernel_rfl) (callK_of_sw codec_Point_tt Try.func65 rfl (by kernel_rfl) (show sw Try.prog none 6 codec_Point_tt _ 0 (endK Try.prog [.tmp 2] Q) ⟨regs [.int .u8 n0], []⟩ w from
    Eq.mp (by kernel_rfl : codec_Point n0 w Q = sw Try.prog none 6 codec_Point_tt (Try.f65.body.getD .skip) 0 (endK Try.prog [.tmp 2] Q) ⟨regs [.int .u8 n0], []⟩ w) h))

def codec_Back_j1 (a4 : Addr) (n5 : Int) (w : World) (Q : Value → World → Prop) : Prop :=
  ∃ (a4_1 : Addr) (v4 : Value), (.pointer (some a4) : Value) = .pointer (some a4_1) ∧ (loadVar 73 a4_1).run Try.prog w = .ok v4 w ∧
  Q (.tuple #[v4, .int .i64 n5]) w
def codec_Back_j2 (p1 : Option Addr) (l1 : Nat) (c1 : Nat) (a2 : Addr) (a4 : Addr) (n5 : Int) (w : World) (Q : Value → World → Prop) : Prop :=
  Drw w fun w1 =>
  ∃ (p32 : Option Addr) (l32 : Nat) (c32 : Nat), Pu Try.prog (Instr.sliceAt 23 (.slice p1 l1 c1) (some (.int .i64 1)) none none) (.slice p32 l32 c32) ∧
  ∃ (cs30 : Array Value), Ld Try.prog 67 (.pointer (some a2)) w1 (.agg cs30) ∧
  callF Try.prog 96 #[.agg cs30, .slice p32 l32 c32] w1 fun r33 w2 =>
  ∃ (p33 : Option Addr) (l33 : Nat) (c33 : Nat) (n33 : Int), r33 = .tuple #[.slice p33 l33 c33, .int .i64 n33] ∧
  cond (n33 != 0)
  (∃ (w3 : World), Sto Try.prog 73 (.pointer (some a4)) (.agg #[.int .i64 0, .slice none 0 0, .slice none 0 0]) w2 w3 ∧
    ∃ (a4_1 : Addr) (v4 : Value), (.pointer (some a4) : Value) = .pointer (some a4_1) ∧ (loadVar 73 a4_1).run Try.prog w3 = .ok v4 w3 ∧
    Q (.tuple #[v4, .int .i64 n33]) w3)
  (∃ (S10 : World → Prop),
    Drw w2 fun w4 =>
    ∃ (a41 : Addr), IxA Try.prog 23 (.slice p1 l1 c1) (.int .i64 0) a41 ∧
    ∃ (n42 : Int), HLd Try.prog S10 5 (.pointer (some a41)) w4 (.int .u8 n42) ∧
    ∃ (n46 : Int), HLd Try.prog S10 3 (.pointer (some (a2.add 1))) w4 (.int .i64 n46) ∧
    ∃ (p47 : Option Addr) (l47 : Nat) (c47 : Nat), Pu Try.prog (Instr.sliceAt 23 (.slice p33 l33 c33) none (some (.int .i64 n46)) none) (.slice p47 l47 c47) ∧
    ∃ (n52 : Int), HLd Try.prog S10 3 (.pointer (some (a2.add 1))) w4 (.int .i64 n52) ∧
    ∃ (p53 : Option Addr) (l53 : Nat) (c53 : Nat), Pu Try.prog (Instr.sliceAt 23 (.slice p33 l33 c33) (some (.int .i64 n52)) none none) (.slice p53 l53 c53) ∧
    (callF Try.prog 65 #[.int .u8 n42] w4 fun r43 w5 =>
      ∃ (n43 : Int), r43 = .int .i64 n43 ∧
      (w5 = w4 ∨ S10 w5) ∧
      (∃ (p48 : Option Addr) (l48 : Nat) (c48 : Nat) (w6 : World), Ef Try.prog (Instr.buildSlice 91 1 #[(0, .slice p47 l47 c47)]) w5 (.slice p48 l48 c48) w6 ∧
        (w6 = w5 ∨ S10 w6) ∧
        (callF Try.prog 54 #[.slice p48 l48 c48] w6 fun r49 w7 =>
          ∃ (p49 : Option Addr) (l49 : Nat) (c49 : Nat), r49 = .slice p49 l49 c49 ∧
          (w7 = w6 ∨ S10 w7) ∧
          ∃ (p54 : Option Addr) (l54 : Nat) (c54 : Nat) (w8 : World), Ef Try.prog (Instr.buildSlice 91 1 #[(0, .slice p53 l53 c53)]) w7 (.slice p54 l54 c54) w8 ∧
          (w8 = w7 ∨ S10 w8) ∧
          callF Try.prog 54 #[.slice p54 l54 c54] w8 fun r55 w9 =>
          ∃ (p55 : Option Addr) (l55 : Nat) (c55 : Nat), r55 = .slice p55 l55 c55 ∧
          ∃ (w10 : World), Sto Try.prog 73 (.pointer (some a4)) (.agg #[.int .i64 n43, .slice p49 l49 c49, .slice p55 l55 c55]) w9 w10 ∧
          codec_Back_j1 a4 0 w10 Q) ∧
        (∃ (p54_1 : Option Addr) (l54_1 : Nat) (c54_1 : Nat) (w11 : World), Ef Try.prog (Instr.buildSlice 91 1 #[(0, .slice p53 l53 c53)]) w6 (.slice p54_1 l54_1 c54_1) w11 ∧
          (w11 = w6 ∨ S10 w11) ∧
          callF Try.prog 54 #[.slice p48 l48 c48] w11 fun r49_1 w12 =>
          ∃ (p49_1 : Option Addr) (l49_1 : Nat) (c49_1 : Nat), r49_1 = .slice p49_1 l49_1 c49_1 ∧
          (w12 = w11 ∨ S10 w12) ∧
          callF Try.prog 54 #[.slice p54_1 l54_1 c54_1] w12 fun r55_1 w13 =>
          ∃ (p55_1 : Option Addr) (l55_1 : Nat) (c55_1 : Nat), r55_1 = .slice p55_1 l55_1 c55_1 ∧
          ∃ (w14 : World), Sto Try.prog 73 (.pointer (some a4)) (.agg #[.int .i64 n43, .slice p49_1 l49_1 c49_1, .slice p55_1 l55_1 c55_1]) w13 w14 ∧
          codec_Back_j1 a4 0 w14 Q)) ∧
      (∃ (p54_2 : Option Addr) (l54_2 : Nat) (c54_2 : Nat) (w15 : World), Ef Try.prog (Instr.buildSlice 91 1 #[(0, .slice p53 l53 c53)]) w5 (.slice p54_2 l54_2 c54_2) w15 ∧
        (w15 = w5 ∨ S10 w15) ∧
        ∃ (p48_1 : Option Addr) (l48_1 : Nat) (c48_1 : Nat) (w16 : World), Ef Try.prog (Instr.buildSlice 91 1 #[(0, .slice p47 l47 c47)]) w15 (.slice p48_1 l48_1 c48_1) w16 ∧
        (w16 = w15 ∨ S10 w16) ∧
        callF Try.prog 54 #[.slice p48_1 l48_1 c48_1] w16 fun r49_2 w17 =>
        ∃ (p49_2 : Option Addr) (l49_2 : Nat) (c49_2 : Nat), r49_2 = .slice p49_2 l49_2 c49_2 ∧
        (w17 = w16 ∨ S10 w17) ∧
        callF Try.prog 54 #[.slice p54_2 l54_2 c54_2] w17 fun r55_2 w18 =>
        ∃ (p55_2 : Option Addr) (l55_2 : Nat) (c55_2 : Nat), r55_2 = .slice p55_2 l55_2 c55_2 ∧
        ∃ (w19 : World), Sto Try.prog 73 (.pointer (some a4)) (.agg #[.int .i64 n43, .slice p49_2 l49_2 c49_2, .slice p55_2 l55_2 c55_2]) w18 w19 ∧
        codec_Back_j1 a4 0 w19 Q)) ∧
    (∃ (p48_2 : Option Addr) (l48_2 : Nat) (c48_2 : Nat) (w20 : World), Ef Try.prog (Instr.buildSlice 91 1 #[(0, .slice p47 l47 c47)]) w4 (.slice p48_2 l48_2 c48_2) w20 ∧
      (w20 = w4 ∨ S10 w20) ∧
      (callF Try.prog 65 #[.int .u8 n42] w20 fun r43_1 w21 =>
        ∃ (n43_1 : Int), r43_1 = .int .i64 n43_1 ∧
        (w21 = w20 ∨ S10 w21) ∧
        (callF Try.prog 54 #[.slice p48_2 l48_2 c48_2] w21 fun r49_3 w22 =>
          ∃ (p49_3 : Option Addr) (l49_3 : Nat) (c49_3 : Nat), r49_3 = .slice p49_3 l49_3 c49_3 ∧
          (w22 = w21 ∨ S10 w22) ∧
          ∃ (p54_3 : Option Addr) (l54_3 : Nat) (c54_3 : Nat) (w23 : World), Ef Try.prog (Instr.buildSlice 91 1 #[(0, .slice p53 l53 c53)]) w22 (.slice p54_3 l54_3 c54_3) w23 ∧
          (w23 = w22 ∨ S10 w23) ∧
          callF Try.prog 54 #[.slice p54_3 l54_3 c54_3] w23 fun r55_3 w24 =>
          ∃ (p55_3 : Option Addr) (l55_3 : Nat) (c55_3 : Nat), r55_3 = .slice p55_3 l55_3 c55_3 ∧
          ∃ (w25 : World), Sto Try.prog 73 (.pointer (some a4)) (.agg #[.int .i64 n43_1, .slice p49_3 l49_3 c49_3, .slice p55_3 l55_3 c55_3]) w24 w25 ∧
          codec_Back_j1 a4 0 w25 Q) ∧
        (∃ (p54_4 : Option Addr) (l54_4 : Nat) (c54_4 : Nat) (w26 : World), Ef Try.prog (Instr.buildSlice 91 1 #[(0, .slice p53 l53 c53)]) w21 (.slice p54_4 l54_4 c54_4) w26 ∧
          (w26 = w21 ∨ S10 w26) ∧
          callF Try.prog 54 #[.slice p48_2 l48_2 c48_2] w26 fun r49_4 w27 =>
          ∃ (p49_4 : Option Addr) (l49_4 : Nat) (c49_4 : Nat), r49_4 = .slice p49_4 l49_4 c49_4 ∧
          (w27 = w26 ∨ S10 w27) ∧
          callF Try.prog 54 #[.slice p54_4 l54_4 c54_4] w27 fun r55_4 w28 =>
          ∃ (p55_4 : Option Addr) (l55_4 : Nat) (c55_4 : Nat), r55_4 = .slice p55_4 l55_4 c55_4 ∧
          ∃ (w29 : World), Sto Try.prog 73 (.pointer (some a4)) (.agg #[.int .i64 n43_1, .slice p49_4 l49_4 c49_4, .slice p55_4 l55_4 c55_4]) w28 w29 ∧
          codec_Back_j1 a4 0 w29 Q)) ∧
      (∃ (p54_5 : Option Addr) (l54_5 : Nat) (c54_5 : Nat) (w30 : World), Ef Try.prog (Instr.buildSlice 91 1 #[(0, .slice p53 l53 c53)]) w20 (.slice p54_5 l54_5 c54_5) w30 ∧
        (w30 = w20 ∨ S10 w30) ∧
        callF Try.prog 65 #[.int .u8 n42] w30 fun r43_2 w31 =>
        ∃ (n43_2 : Int), r43_2 = .int .i64 n43_2 ∧
        (w31 = w30 ∨ S10 w31) ∧
        callF Try.prog 54 #[.slice p48_2 l48_2 c48_2] w31 fun r49_5 w32 =>
        ∃ (p49_5 : Option Addr) (l49_5 : Nat) (c49_5 : Nat), r49_5 = .slice p49_5 l49_5 c49_5 ∧
        (w32 = w31 ∨ S10 w32) ∧
        callF Try.prog 54 #[.slice p54_5 l54_5 c54_5] w32 fun r55_5 w33 =>
        ∃ (p55_5 : Option Addr) (l55_5 : Nat) (c55_5 : Nat), r55_5 = .slice p55_5 l55_5 c55_5 ∧
        ∃ (w34 : World), Sto Try.prog 73 (.pointer (some a4)) (.agg #[.int .i64 n43_2, .slice p49_5 l49_5 c49_5, .slice p55_5 l55_5 c55_5]) w33 w34 ∧
        codec_Back_j1 a4 0 w34 Q)) ∧
    (∃ (p54_6 : Option Addr) (l54_6 : Nat) (c54_6 : Nat) (w35 : World), Ef Try.prog (Instr.buildSlice 91 1 #[(0, .slice p53 l53 c53)]) w4 (.slice p54_6 l54_6 c54_6) w35 ∧
      (w35 = w4 ∨ S10 w35) ∧
      (callF Try.prog 65 #[.int .u8 n42] w35 fun r43_3 w36 =>
        ∃ (n43_3 : Int), r43_3 = .int .i64 n43_3 ∧
        (w36 = w35 ∨ S10 w36) ∧
        ∃ (p48_3 : Option Addr) (l48_3 : Nat) (c48_3 : Nat) (w37 : World), Ef Try.prog (Instr.buildSlice 91 1 #[(0, .slice p47 l47 c47)]) w36 (.slice p48_3 l48_3 c48_3) w37 ∧
        (w37 = w36 ∨ S10 w37) ∧
        callF Try.prog 54 #[.slice p48_3 l48_3 c48_3] w37 fun r49_6 w38 =>
        ∃ (p49_6 : Option Addr) (l49_6 : Nat) (c49_6 : Nat), r49_6 = .slice p49_6 l49_6 c49_6 ∧
        (w38 = w37 ∨ S10 w38) ∧
        callF Try.prog 54 #[.slice p54_6 l54_6 c54_6] w38 fun r55_6 w39 =>
        ∃ (p55_6 : Option Addr) (l55_6 : Nat) (c55_6 : Nat), r55_6 = .slice p55_6 l55_6 c55_6 ∧
        ∃ (w40 : World), Sto Try.prog 73 (.pointer (some a4)) (.agg #[.int .i64 n43_3, .slice p49_6 l49_6 c49_6, .slice p55_6 l55_6 c55_6]) w39 w40 ∧
        codec_Back_j1 a4 0 w40 Q) ∧
      (∃ (p48_4 : Option Addr) (l48_4 : Nat) (c48_4 : Nat) (w41 : World), Ef Try.prog (Instr.buildSlice 91 1 #[(0, .slice p47 l47 c47)]) w35 (.slice p48_4 l48_4 c48_4) w41 ∧
        (w41 = w35 ∨ S10 w41) ∧
        callF Try.prog 65 #[.int .u8 n42] w41 fun r43_4 w42 =>
        ∃ (n43_4 : Int), r43_4 = .int .i64 n43_4 ∧
        (w42 = w41 ∨ S10 w42) ∧
        callF Try.prog 54 #[.slice p48_4 l48_4 c48_4] w42 fun r49_7 w43 =>
        ∃ (p49_7 : Option Addr) (l49_7 : Nat) (c49_7 : Nat), r49_7 = .slice p49_7 l49_7 c49_7 ∧
        (w43 = w42 ∨ S10 w43) ∧
        callF Try.prog 54 #[.slice p54_6 l54_6 c54_6] w43 fun r55_7 w44 =>
        ∃ (p55_7 : Option Addr) (l55_7 : Nat) (c55_7 : Nat), r55_7 = .slice p55_7 l55_7 c55_7 ∧
        ∃ (w45 : World), Sto Try.prog 73 (.pointer (some a4)) (.agg #[.int .i64 n43_4, .slice p49_7 l49_7 c49_7, .slice p55_7 l55_7 c55_7]) w44 w45 ∧
        codec_Back_j1 a4 0 w45 Q)))
def codec_Back (cs0 : Array Value) (p1 : Option Addr) (l1 : Nat) (c1 : Nat) (w : World) (Q : Value → World → Prop) : Prop :=
  New cs0 67 w fun k2 w1 =>
  ∃ (z4 : Value), Pu Try.prog (zeroValue 73) z4 ∧
  New z4.cells 73 w1 fun k4 w2 =>
  ∃ (cs9 : Array Value), Ld Try.prog 67 (.pointer (some (⟨k2, 0, none⟩ : Addr))) w2 (.agg cs9) ∧
  callF Try.prog 64 #[.agg cs9] w2 fun r10 w3 =>
  ∃ (b10 : Bool), r10 = .bool b10 ∧
  cond (!b10)
  (∃ (w4 : World), Sto Try.prog 73 (.pointer (some (⟨k4, 0, none⟩ : Addr))) (.agg #[.int .i64 0, .slice none 0 0, .slice none 0 0]) w3 w4 ∧
    ∃ (a4 : Addr) (v4 : Value), (.pointer (some (⟨k4, 0, none⟩ : Addr)) : Value) = .pointer (some a4) ∧ (loadVar 73 a4).run Try.prog w4 = .ok v4 w4 ∧
    Q (.tuple #[v4, .int .i64 19]) w4)
  (∃ (cs16 : Array Value), Ld Try.prog 67 (.pointer (some (⟨k2, 0, none⟩ : Addr))) w3 (.agg cs16) ∧
    callF Try.prog 39 #[.agg cs16] w3 fun r17 w5 =>
    ∃ (n17 : Int), r17 = .int .i64 n17 ∧
    cond (((l1 : Nat) : Int) != n17)
    (∃ (w6 : World), Sto Try.prog 73 (.pointer (some (⟨k4, 0, none⟩ : Addr))) (.agg #[.int .i64 0, .slice none 0 0, .slice none 0 0]) w5 w6 ∧
      ∃ (a4_1 : Addr) (v4_1 : Value), (.pointer (some (⟨k4, 0, none⟩ : Addr)) : Value) = .pointer (some a4_1) ∧ (loadVar 73 a4_1).run Try.prog w6 = .ok v4_1 w6 ∧
      Q (.tuple #[v4_1, .int .i64 11]) w6)
    (∃ (a22 : Addr), IxA Try.prog 23 (.slice p1 l1 c1) (.int .i64 0) a22 ∧
      ∃ (n23 : Int), Ld Try.prog 5 (.pointer (some a22)) w5 (.int .u8 n23) ∧
      callF Try.prog 95 #[.int .u8 n23] w5 fun r24 w7 =>
      ∃ (n24 : Int), r24 = .int .i64 n24 ∧
      cond (n24 != ((l1 : Nat) : Int))
      (∃ (w8 : World), Sto Try.prog 73 (.pointer (some (⟨k4, 0, none⟩ : Addr))) (.agg #[.int .i64 0, .slice none 0 0, .slice none 0 0]) w7 w8 ∧
        ∃ (a4_2 : Addr) (v4_2 : Value), (.pointer (some (⟨k4, 0, none⟩ : Addr)) : Value) = .pointer (some a4_2) ∧ (loadVar 73 a4_2).run Try.prog w8 = .ok v4_2 w8 ∧
        Q (.tuple #[v4_2, .int .i64 10]) w8)
      (codec_Back_j2 p1 l1 c1 (⟨k2, 0, none⟩ : Addr) (⟨k4, 0, none⟩ : Addr) 0 w7 Q)))
def codec_Back_tt : Nat → List (Nat × TypeId) := fun _ => []
theorem codec_Back_call (cs0 : Array Value) (p1 : Option Addr) (l1 : Nat) (c1 : Nat) (w : World) (Q : Value → World → Prop) (h : codec_Back cs0 p1 l1 c1 w Q) : callF Try.prog 66 #[.agg cs0, .slice p1 l1 c1] w Q :=
  callF_of (fun _ _ => by kernel_rfl) (callK_of_sw codec_Back_tt Try.func66 rfl (by kernel_rfl) (show sw Try.prog none 57 codec_Back_tt _ 0 (endK Try.prog [.cell 4 73, .tmp 5] Q) ⟨regs [.agg cs0, .slice p1 l1 c1], []⟩ w from
    Eq.mp (by kernel_rfl : codec_Back cs0 p1 l1 c1 w Q = sw Try.prog none 57 codec_Back_tt (Try.f66.body.getD .skip) 0 (endK Try.prog [.cell 4 73, .tmp 5] Q) ⟨regs [.agg cs0, .slice p1 l1 c1], []⟩ w) h))

def codec_Told (n0 : Int) (w : World) (Q : Value → World → Prop) : Prop :=
  Q (.int .i64 (IntKind.i64.wrap ((IntKind.i64.wrap (iand .u8 n0 63)) + 1))) w
def codec_Told_tt : Nat → List (Nat × TypeId) := fun _ => []
theorem codec_Told_call (n0 : Int) (w : World) (Q : Value → World → Prop) (h : codec_Told n0 w Q) : callF Try.prog 95 #[.int .u8 n0] w Q :=
  callF_of (fun _ _ => by kernel_rfl) (callK_of_sw codec_Told_tt Try.func95 rfl (by kernel_rfl) (show sw Try.prog none 7 codec_Told_tt _ 0 (endK Try.prog [.tmp 2] Q) ⟨regs [.int .u8 n0], []⟩ w from
    Eq.mp (by kernel_rfl : codec_Told n0 w Q = sw Try.prog none 7 codec_Told_tt (Try.f95.body.getD .skip) 0 (endK Try.prog [.tmp 2] Q) ⟨regs [.int .u8 n0], []⟩ w) h))
end Go.Sh
end
