/- A part of a proof of a given law of this program: lemmas, printed forms of its functions, contracts. It has no conditions of its own. -/
import Derived.Test.YtcfealonnakdcaaGreatProg
import Derived.Test.YtcfealonnakdcaaGreatMW0

section
namespace Go.Sh
open Go Go.Fw Go.Proofs
set_option maxRecDepth 100000
set_option linter.unusedVariables false
def halves_Cut (p0 : Option Addr) (l0 : Nat) (c0 : Nat) (w : World) (Q : Value → World → Prop) : Prop :=
  callF Tryz.prog 295 #[.int .i64 ((l0 : Nat) : Int), .slice none 0 0] w fun r9 w1 =>
  ∃ b9, r9 = .bool b9 ∧
  cond (!b9)
  (Q (.tuple #[.slice none 0 0, .slice none 0 0, .int .i64 11]) w1)
  (callF Tryz.prog 297 #[.int .i64 ((l0 : Nat) : Int)] w1 fun r14 w2 =>
    ∃ n14, r14 = .int .i64 n14 ∧
    ∃ p15 l15 c15, Pu Tryz.prog (Instr.sliceAt 25 (.slice p0 l0 c0) none (some (.int .i64 n14)) none) (.slice p15 l15 c15) ∧
    callF Tryz.prog 296 #[.slice p15 l15 c15, .int .i64 ((l0 : Nat) : Int), .bool true] w2 fun r17 w3 =>
    ∃ p17 l17 c17 n17, r17 = .tuple #[.slice p17 l17 c17, .int .i64 n17] ∧
    callF Tryz.prog 297 #[.int .i64 ((l0 : Nat) : Int)] w3 fun r24 w4 =>
    ∃ n24, r24 = .int .i64 n24 ∧
    ∃ p26 l26 c26, Pu Tryz.prog (Instr.sliceAt 25 (.slice p0 l0 c0) (some (.int .i64 (IntKind.i64.wrap (((l0 : Nat) : Int) - n24)))) none none) (.slice p26 l26 c26) ∧
    callF Tryz.prog 296 #[.slice p26 l26 c26, .int .i64 ((l0 : Nat) : Int), .bool false] w4 fun r28 w5 =>
    ∃ p28 l28 c28 n28, r28 = .tuple #[.slice p28 l28 c28, .int .i64 n28] ∧
    Q (.tuple #[.slice p17 l17 c17, .slice p28 l28 c28, .int .i64 0]) w5)
def halves_Cut_tt : Nat → List (Nat × TypeId) := fun _ => []
theorem halves_Cut_call (p0 : Option Addr) (l0 : Nat) (c0 : Nat) (w : World) (Q : Value → World → Prop) (h : halves_Cut p0 l0 c0 w Q) : callF Tryz.prog 266 #[.slice p0 l0 c0] w Q :=
  callBy halves_Cut_tt Tryz.func266 h (fun _ _ => by kernel_rfl) (by kernel_rfl) (by kernel_rfl) (by kernel_rfl)
def halves_Join_j1 (p0 : Option Addr) (l0 : Nat) (c0 : Nat) (p1 : Option Addr) (l1 : Nat) (c1 : Nat) (n2 : Int) (p6 : Option Addr) (l6 : Nat) (c6 : Nat) (n7 : Int) (w : World) (Q : Value → World → Prop) : Prop :=
  cond ((Int.tmod n2 2) == 0)
  (∃ p51 l51 c51 w1, Ef Tryz.prog (Instr.buildSlice 45 2 #[(0, .slice p0 l0 c0), (1, .slice p1 l1 c1)]) w (.slice p51 l51 c51) w1 ∧
    callF Tryz.prog 112 #[.slice p51 l51 c51] w1 fun r52 w2 =>
    ∃ p52 l52 c52, r52 = .slice p52 l52 c52 ∧
    Q (.tuple #[.slice p52 l52 c52, .int .i64 0]) w2)
  (∃ p55 l55 c55, Pu Tryz.prog (Instr.sliceAt 25 (.slice p1 l1 c1) (some (.int .i64 1)) none none) (.slice p55 l55 c55) ∧
    ∃ p56 l56 c56 w3, Ef Tryz.prog (Instr.buildSlice 45 2 #[(0, .slice p0 l0 c0), (1, .slice p55 l55 c55)]) w (.slice p56 l56 c56) w3 ∧
    callF Tryz.prog 112 #[.slice p56 l56 c56] w3 fun r57 w4 =>
    ∃ p57 l57 c57, r57 = .slice p57 l57 c57 ∧
    ∃ (S12 : World → Prop),
    Drw w4 fun w5 =>
    ∃ a62, IxA Tryz.prog 25 (.slice p57 l57 c57) (.int .i64 (IntKind.i64.wrap (((l0 : Nat) : Int) - 1))) a62 ∧
    ∃ a65, IxA Tryz.prog 25 (.slice p1 l1 c1) (.int .i64 0) a65 ∧
    ∃ n63, HLd Tryz.prog S12 5 (.pointer (some a62)) w5 (.int .u8 n63) ∧
    ∃ n66, Ld Tryz.prog 5 (.pointer (some a65)) w5 (.int .u8 n66) ∧
    (w5 = w5 ∨ S12 w5) ∧
    ∃ a68, IxA Tryz.prog 25 (.slice p57 l57 c57) (.int .i64 (IntKind.i64.wrap (((l0 : Nat) : Int) - 1))) a68 ∧
    ∃ w6, Sto Tryz.prog 5 (.pointer (some a68)) (.int .u8 (ior .u8 n63 n66)) w5 w6 ∧
    Q (.tuple #[.slice p57 l57 c57, .int .i64 0]) w6)
def halves_Join (p0 : Option Addr) (l0 : Nat) (c0 : Nat) (p1 : Option Addr) (l1 : Nat) (c1 : Nat) (n2 : Int) (w : World) (Q : Value → World → Prop) : Prop :=
  ∃ p16 l16 c16 w1, Ef Tryz.prog (Instr.buildSlice 45 2 #[(0, .slice p0 l0 c0), (1, .slice p1 l1 c1)]) w (.slice p16 l16 c16) w1 ∧
  callF Tryz.prog 295 #[.int .i64 n2, .slice p16 l16 c16] w1 fun r17 w2 =>
  ∃ b17, r17 = .bool b17 ∧
  cond (!b17)
  (Q (.tuple #[.slice none 0 0, .int .i64 11]) w2)
  (∃ (m19 : Option Nat) (w3 : World), Ef Tryz.prog (Instr.makeMap 404 none) w2 (.map m19) w3 ∧
    ∃ w4, EfU Tryz.prog (Instr.mapUpdate 404 (.map m19) (.bool true) (.slice p0 l0 c0)) w3 w4 ∧
    ∃ w5, EfU Tryz.prog (Instr.mapUpdate 404 (.map m19) (.bool false) (.slice p1 l1 c1)) w4 w5 ∧
    ∃ a23 w6, Ef Tryz.prog (Instr.range 404 (.map m19)) w5 (.pointer (some a23)) w6 ∧
    LoopS [.slice p0 l0 c0, .slice p1 l1 c1, .int .i64 n2, .slice none 0 0, .int .i64 0, .pointer (some a23)] w6 fun I1 μ1 us1 _ wl1 =>
    ∃ p0_1 l0_1 c0_1 p1_1 l1_1 c1_1 n2_1 p6 l6 c6 n7 a23_1, us1 = [.slice p0_1 l0_1 c0_1, .slice p1_1 l1_1 c1_1, .int .i64 n2_1, .slice p6 l6 c6, .int .i64 n7, .pointer (some a23_1)] ∧
    ∃ (b24 : Bool) (r24 : List Value) (w7 : World), Ef Tryz.prog (Instr.next (.pointer (some a23_1)) false 0) wl1 (.tuple ⟨.bool b24 :: r24⟩) w7 ∧
    cond b24
    (∃ k26 v26 w8, Ef Tryz.prog (Instr.entry (.pointer (some a23_1))) w7 (.tuple #[k26, v26]) w8 ∧
      callF Tryz.prog 299 #[v26, .int .i64 n2_1, k26] w8 fun r33 w9 =>
      ∃ p33 n33, r33 = .tuple #[.pointer p33, .int .u8 n33] ∧
      ∃ b37 w10, Ef Tryz.prog (do eqGuard .neq 405 (.tmp 36) (.const (.pointer none)) (.pointer p33) (.pointer none); binOp .neq 405 (.pointer p33) (.pointer none) : Sem Value) w9 (.bool b37) w10 ∧
      cond b37
      (∃ a40, p33 = some a40 ∧
        ∃ n41, Ld Tryz.prog 5 (.pointer (some a40)) w10 (.int .u8 n41) ∧
        cond ((iand .u8 n41 n33) != 0)
        (Q (.tuple #[.slice none 0 0, .int .i64 10]) w10)
        (goesOn [] [] I1 μ1 us1 [.slice p0_1 l0_1 c0_1, .slice p1_1 l1_1 c1_1, .int .i64 n2_1, .slice p6 l6 c6, .int .i64 n7, .pointer (some a23_1)] wl1 w10))
      (goesOn [] [] I1 μ1 us1 [.slice p0_1 l0_1 c0_1, .slice p1_1 l1_1 c1_1, .int .i64 n2_1, .slice p6 l6 c6, .int .i64 n7, .pointer (some a23_1)] wl1 w10))
    (halves_Join_j1 p0_1 l0_1 c0_1 p1_1 l1_1 c1_1 n2_1 p6 l6 c6 n7 w7 Q))
def halves_Join_tt : Nat → List (Nat × TypeId) := fun n => match n with | 0 => [(0, 25), (1, 25), (2, 3), (6, 25), (7, 33), (23, 1000000)] | _ => []
theorem halves_Join_call (p0 : Option Addr) (l0 : Nat) (c0 : Nat) (p1 : Option Addr) (l1 : Nat) (c1 : Nat) (n2 : Int) (w : World) (Q : Value → World → Prop) (h : halves_Join p0 l0 c0 p1 l1 c1 n2 w Q) : callF Tryz.prog 268 #[.slice p0 l0 c0, .slice p1 l1 c1, .int .i64 n2] w Q :=
  callBy halves_Join_tt Tryz.func268 h (fun _ _ => by kernel_rfl) (by kernel_rfl) (by kernel_rfl) (by kernel_rfl)
def halves_fits (n0 : Int) (p1 : Option Addr) (l1 : Nat) (c1 : Nat) (w : World) (Q : Value → World → Prop) : Prop :=
  New #[.int .i64 n0] 3 w fun k2 w1 =>
  ∃ n7, Ld Tryz.prog 3 (.pointer (some (⟨k2, 0, none⟩ : Addr))) w1 (.int .i64 n7) ∧
  cond (decide (n7 ≥ 2))
  (∃ n10, Ld Tryz.prog 3 (.pointer (some (⟨k2, 0, none⟩ : Addr))) w1 (.int .i64 n10) ∧
    cond (decide (n10 ≤ 28))
    (callF Tryz.prog 245 #[.slice p1 l1 c1, .func (.func 314) #[] #[.pointer (some (⟨k2, 0, none⟩ : Addr))]] w1 fun r16 w2 =>
      ∃ b16, r16 = .bool b16 ∧
      Q (.bool (!b16)) w2)
    (Q (.bool false) w1))
  (Q (.bool false) w1)
def halves_fits_tt : Nat → List (Nat × TypeId) := fun _ => []
theorem halves_fits_call (n0 : Int) (p1 : Option Addr) (l1 : Nat) (c1 : Nat) (w : World) (Q : Value → World → Prop) (h : halves_fits n0 p1 l1 c1 w Q) : callF Tryz.prog 295 #[.int .i64 n0, .slice p1 l1 c1] w Q :=
  callBy halves_fits_tt Tryz.func295 h (fun _ _ => by kernel_rfl) (by kernel_rfl) (by kernel_rfl) (by kernel_rfl)
def halves_Trim (p0 : Option Addr) (l0 : Nat) (c0 : Nat) (n1 : Int) (b2 : Bool) (w : World) (Q : Value → World → Prop) : Prop :=
  ∃ p13 l13 c13 w1, Ef Tryz.prog (Instr.buildSlice 45 1 #[(0, .slice p0 l0 c0)]) w (.slice p13 l13 c13) w1 ∧
  callF Tryz.prog 295 #[.int .i64 n1, .slice p13 l13 c13] w1 fun r14 w2 =>
  ∃ b14, r14 = .bool b14 ∧
  cond (!b14)
  (Q (.tuple #[.slice none 0 0, .int .i64 11]) w2)
  (callF Tryz.prog 102 #[.slice p0 l0 c0] w2 fun r17 w3 =>
    ∃ p17 l17 c17, r17 = .slice p17 l17 c17 ∧
    callF Tryz.prog 299 #[.slice p17 l17 c17, .int .i64 n1, .bool b2] w3 fun r22 w4 =>
    ∃ p22 n22, r22 = .tuple #[.pointer p22, .int .u8 n22] ∧
    ∃ b26 w5, Ef Tryz.prog (do eqGuard .neq 405 (.tmp 25) (.const (.pointer none)) (.pointer p22) (.pointer none); binOp .neq 405 (.pointer p22) (.pointer none) : Sem Value) w4 (.bool b26) w5 ∧
    cond b26
    (∃ a28, p22 = some a28 ∧
      ∃ n29, Ld Tryz.prog 5 (.pointer (some a28)) w5 (.int .u8 n29) ∧
      ∃ a32, p22 = some a32 ∧
      ∃ w6, Sto Tryz.prog 5 (.pointer (some a32)) (.int .u8 (iandNot .u8 n29 n22)) w5 w6 ∧
      Q (.tuple #[.slice p17 l17 c17, .int .i64 0]) w6)
    (Q (.tuple #[.slice p17 l17 c17, .int .i64 0]) w5))
def halves_Trim_tt : Nat → List (Nat × TypeId) := fun _ => []
theorem halves_Trim_call (p0 : Option Addr) (l0 : Nat) (c0 : Nat) (n1 : Int) (b2 : Bool) (w : World) (Q : Value → World → Prop) (h : halves_Trim p0 l0 c0 n1 b2 w Q) : callF Tryz.prog 296 #[.slice p0 l0 c0, .int .i64 n1, .bool b2] w Q :=
  callBy halves_Trim_tt Tryz.func296 h (fun _ _ => by kernel_rfl) (by kernel_rfl) (by kernel_rfl) (by kernel_rfl)
def halves_Size (n0 : Int) (w : World) (Q : Value → World → Prop) : Prop :=
  cond (decide (n0 < 1))
  (Q (.int .i64 0) w)
  (Q (.int .i64 (IntKind.i64.wrap (n0 - (IntKind.i64.wrap (Int.tdiv n0 2))))) w)
def halves_Size_tt : Nat → List (Nat × TypeId) := fun _ => []
theorem halves_Size_call (n0 : Int) (w : World) (Q : Value → World → Prop) (h : halves_Size n0 w Q) : callF Tryz.prog 297 #[.int .i64 n0] w Q :=
  callBy halves_Size_tt Tryz.func297 h (fun _ _ => by kernel_rfl) (by kernel_rfl) (by kernel_rfl) (by kernel_rfl)
def halves_odd (p0 : Option Addr) (l0 : Nat) (c0 : Nat) (n1 : Int) (b2 : Bool) (w : World) (Q : Value → World → Prop) : Prop :=
  cond ((Int.tmod n1 2) == 0)
  (Q (.tuple #[.pointer none, .int .u8 0]) w)
  (cond b2
    (∃ a18, IxA Tryz.prog 25 (.slice p0 l0 c0) (.int .i64 (IntKind.i64.wrap (((l0 : Nat) : Int) - 1))) a18 ∧
      Q (.tuple #[.pointer (some a18), .int .u8 15]) w)
    (∃ a20, IxA Tryz.prog 25 (.slice p0 l0 c0) (.int .i64 0) a20 ∧
      Q (.tuple #[.pointer (some a20), .int .u8 240]) w))
def halves_odd_tt : Nat → List (Nat × TypeId) := fun _ => []
theorem halves_odd_call (p0 : Option Addr) (l0 : Nat) (c0 : Nat) (n1 : Int) (b2 : Bool) (w : World) (Q : Value → World → Prop) (h : halves_odd p0 l0 c0 n1 b2 w Q) : callF Tryz.prog 299 #[.slice p0 l0 c0, .int .i64 n1, .bool b2] w Q :=
  callBy halves_odd_tt Tryz.func299 h (fun _ _ => by kernel_rfl) (by kernel_rfl) (by kernel_rfl) (by kernel_rfl)
def halves_fits_c1 (p0 : Option Addr) (l0 : Nat) (c0 : Nat) (p1 : Option Addr) (w : World) (Q : Value → World → Prop) : Prop :=
  ∃ n6, Ld Tryz.prog 3 (.pointer p1) w (.int .i64 n6) ∧
  callF Tryz.prog 297 #[.int .i64 n6] w fun r7 w1 =>
  ∃ n7, r7 = .int .i64 n7 ∧
  Q (.bool (((l0 : Nat) : Int) != n7)) w1
def halves_fits_c1_tt : Nat → List (Nat × TypeId) := fun _ => []
theorem halves_fits_c1_call (p0 : Option Addr) (l0 : Nat) (c0 : Nat) (p1 : Option Addr) (w : World) (Q : Value → World → Prop) (h : halves_fits_c1 p0 l0 c0 p1 w Q) : callF Tryz.prog 314 #[.slice p0 l0 c0, .pointer p1] w Q :=
  callBy halves_fits_c1_tt Tryz.func314 h (fun _ _ => by kernel_rfl) (by kernel_rfl) (by kernel_rfl) (by kernel_rfl)
def halves_Block_j1 (p0 : Option Addr) (l0 : Nat) (c0 : Nat) (n1 : Int) (n2 : Int) (p6 : Option Addr) (l6 : Nat) (c6 : Nat) (n7 : Int) (w : World) (Q : Value → World → Prop) : Prop :=
  ∃ p25 l25 c25 w1, Ef Tryz.prog (Instr.makeSlice 25 (.int .i64 (IntKind.i64.wrap (14 - ((l0 : Nat) : Int)))) (.int .i64 (IntKind.i64.wrap (14 - ((l0 : Nat) : Int))))) w (.slice p25 l25 c25) w1 ∧
  ∃ p30 l30 c30 w2, Ef Tryz.prog (Instr.buildSlice 25 2 #[(0, .int .u8 (IntKind.u8.wrap n1)), (1, .int .u8 (IntKind.u8.wrap n2))]) w1 (.slice p30 l30 c30) w2 ∧
  ∃ p31 l31 c31 w3, Ef Tryz.prog (Instr.buildSlice 45 3 #[(0, .slice p0 l0 c0), (1, .slice p25 l25 c25), (2, .slice p30 l30 c30)]) w2 (.slice p31 l31 c31) w3 ∧
  callF Tryz.prog 112 #[.slice p31 l31 c31] w3 fun r32 w4 =>
  ∃ p32 l32 c32, r32 = .slice p32 l32 c32 ∧
  Q (.tuple #[.slice p32 l32 c32, .int .i64 0]) w4
def halves_Block (p0 : Option Addr) (l0 : Nat) (c0 : Nat) (n1 : Int) (n2 : Int) (w : World) (Q : Value → World → Prop) : Prop :=
  ∃ p10 l10 c10 w1, Ef Tryz.prog (Instr.buildSlice 45 1 #[(0, .slice p0 l0 c0)]) w (.slice p10 l10 c10) w1 ∧
  callF Tryz.prog 295 #[.int .i64 n1, .slice p10 l10 c10] w1 fun r11 w2 =>
  ∃ b11, r11 = .bool b11 ∧
  cond (!b11)
  (Q (.tuple #[.slice none 0 0, .int .i64 11]) w2)
  (cond (decide (n2 < 0))
    (Q (.tuple #[.slice none 0 0, .int .i64 11]) w2)
    (cond (decide (n2 > 255))
      (Q (.tuple #[.slice none 0 0, .int .i64 11]) w2)
      (halves_Block_j1 p0 l0 c0 n1 n2 none 0 0 0 w2 Q)))
def halves_Block_tt : Nat → List (Nat × TypeId) := fun _ => []
theorem halves_Block_call (p0 : Option Addr) (l0 : Nat) (c0 : Nat) (n1 : Int) (n2 : Int) (w : World) (Q : Value → World → Prop) (h : halves_Block p0 l0 c0 n1 n2 w Q) : callF Tryz.prog 315 #[.slice p0 l0 c0, .int .i64 n1, .int .i64 n2] w Q :=
  callBy halves_Block_tt Tryz.func315 h (fun _ _ => by kernel_rfl) (by kernel_rfl) (by kernel_rfl) (by kernel_rfl)
end Go.Sh
end

section
namespace Go.Sh
open Go Go.Fw Go.Proofs
set_option maxRecDepth 100000
set_option linter.unusedVariables false
def feist_Unmix (p0 : Option Addr) (p1 : Option Addr) (l1 : Nat) (c1 : Nat) (w : World) (Q : Value → World → Prop) : Prop :=
  ∃ p8 l8 c8 w1, Ef Tryz.prog (Instr.buildSlice 312 4 #[(0, .int .i64 4), (1, .int .i64 3), (2, .int .i64 2), (3, .int .i64 1)]) w (.slice p8 l8 c8) w1 ∧
  callF Tryz.prog 236 #[.pointer p0, .slice p1 l1 c1, .slice p8 l8 c8] w1 fun r9 w2 =>
  ∃ p9 l9 c9 n9, r9 = .tuple #[.slice p9 l9 c9, .int .i64 n9] ∧
  Q (.tuple #[.slice p9 l9 c9, .int .i64 n9]) w2
def feist_Unmix_tt : Nat → List (Nat × TypeId) := fun _ => []
theorem feist_Unmix_call (p0 : Option Addr) (p1 : Option Addr) (l1 : Nat) (c1 : Nat) (w : World) (Q : Value → World → Prop) (h : feist_Unmix p0 p1 l1 c1 w Q) : callF Tryz.prog 187 #[.pointer p0, .slice p1 l1 c1] w Q :=
  callBy feist_Unmix_tt Tryz.func187 h (fun _ _ => by kernel_rfl) (by kernel_rfl) (by kernel_rfl) (by kernel_rfl)
def feist_Mix (p0 : Option Addr) (p1 : Option Addr) (l1 : Nat) (c1 : Nat) (w : World) (Q : Value → World → Prop) : Prop :=
  ∃ p8 l8 c8 w1, Ef Tryz.prog (Instr.buildSlice 312 4 #[(0, .int .i64 1), (1, .int .i64 2), (2, .int .i64 3), (3, .int .i64 4)]) w (.slice p8 l8 c8) w1 ∧
  callF Tryz.prog 236 #[.pointer p0, .slice p1 l1 c1, .slice p8 l8 c8] w1 fun r9 w2 =>
  ∃ p9 l9 c9 n9, r9 = .tuple #[.slice p9 l9 c9, .int .i64 n9] ∧
  Q (.tuple #[.slice p9 l9 c9, .int .i64 n9]) w2
def feist_Mix_tt : Nat → List (Nat × TypeId) := fun _ => []
theorem feist_Mix_call (p0 : Option Addr) (p1 : Option Addr) (l1 : Nat) (c1 : Nat) (w : World) (Q : Value → World → Prop) (h : feist_Mix p0 p1 l1 c1 w Q) : callF Tryz.prog 229 #[.pointer p0, .slice p1 l1 c1] w Q :=
  callBy feist_Mix_tt Tryz.func229 h (fun _ _ => by kernel_rfl) (by kernel_rfl) (by kernel_rfl) (by kernel_rfl)
def feist_Passes_j1 (p6 : Option Addr) (l6 : Nat) (c6 : Nat) (n7 : Int) (a11 : Addr) (w : World) (Q : Value → World → Prop) : Prop :=
  ∃ p43 l43 c43, Ld Tryz.prog 25 (.pointer (some (a11.add 0))) w (.slice p43 l43 c43) ∧
  ∃ p45 l45 c45, Ld Tryz.prog 25 (.pointer (some (a11.add 1))) w (.slice p45 l45 c45) ∧
  ∃ n47, Ld Tryz.prog 3 (.pointer (some (a11.add 2))) w (.int .i64 n47) ∧
  callF Tryz.prog 268 #[.slice p43 l43 c43, .slice p45 l45 c45, .int .i64 n47] w fun r48 w1 =>
  ∃ p48 l48 c48 n48, r48 = .tuple #[.slice p48 l48 c48, .int .i64 n48] ∧
  Q (.tuple #[.slice p48 l48 c48, .int .i64 n48]) w1
def feist_Passes (p0 : Option Addr) (p1 : Option Addr) (l1 : Nat) (c1 : Nat) (p2 : Option Addr) (l2 : Nat) (c2 : Nat) (w : World) (Q : Value → World → Prop) : Prop :=
  callF Tryz.prog 266 #[.slice p1 l1 c1] w fun r17 w1 =>
  ∃ p17 l17 c17 p17_1 l17_1 c17_1 n17, r17 = .tuple #[.slice p17 l17 c17, .slice p17_1 l17_1 c17_1, .int .i64 n17] ∧
  cond (n17 != 0)
  (Q (.tuple #[.slice none 0 0, .int .i64 n17]) w1)
  (∃ z11, Pu Tryz.prog (zeroValue 382) z11 ∧
    New z11.cells 382 w1 fun k11 w2 =>
    ∃ w3, Sto Tryz.prog 382 (.pointer (some (⟨k11, 0, none⟩ : Addr))) (.agg #[.slice p17 l17 c17, .slice p17_1 l17_1 c17_1, .int .i64 ((l1 : Nat) : Int)]) w2 w3 ∧
    LoopS [.pointer p0, .slice none 0 0, .int .i64 0, .pointer (some (⟨k11, 0, none⟩ : Addr)), .slice p2 l2 c2, .int .i64 ((l2 : Nat) : Int), .int .i64 0] w3 fun I1 μ1 us1 _ wl1 =>
    ∃ p0_1 p6 l6 c6 n7 a11 p29 l29 c29 n30 n31, us1 = [.pointer p0_1, .slice p6 l6 c6, .int .i64 n7, .pointer (some a11), .slice p29 l29 c29, .int .i64 n30, .int .i64 n31] ∧
    cond (decide (n31 < n30))
    (∃ a33, IxA Tryz.prog 312 (.slice p29 l29 c29) (.int .i64 n31) a33 ∧
      ∃ n34, Ld Tryz.prog 3 (.pointer (some a33)) wl1 (.int .i64 n34) ∧
      callF Tryz.prog 267 #[.pointer (some a11), .pointer p0_1, .int .i64 n34] wl1 fun r37 w4 =>
      ∃ n37, r37 = .int .i64 n37 ∧
      cond (n37 != 0)
      (Q (.tuple #[.slice none 0 0, .int .i64 n37]) w4)
      (goesOn [] [] I1 μ1 us1 [.pointer p0_1, .slice p6 l6 c6, .int .i64 n7, .pointer (some a11), .slice p29 l29 c29, .int .i64 n30, .int .i64 (IntKind.i64.wrap (n31 + 1))] wl1 w4))
    (feist_Passes_j1 p6 l6 c6 n7 a11 wl1 Q))
def feist_Passes_tt : Nat → List (Nat × TypeId) := fun n => match n with | 0 => [(0, 279), (6, 25), (7, 33), (11, 1000000), (29, 312), (30, 3), (31, 3)] | _ => []
theorem feist_Passes_call (p0 : Option Addr) (p1 : Option Addr) (l1 : Nat) (c1 : Nat) (p2 : Option Addr) (l2 : Nat) (c2 : Nat) (w : World) (Q : Value → World → Prop) (h : feist_Passes p0 p1 l1 c1 p2 l2 c2 w Q) : callF Tryz.prog 236 #[.pointer p0, .slice p1 l1 c1, .slice p2 l2 c2] w Q :=
  callBy feist_Passes_tt Tryz.func236 h (fun _ _ => by kernel_rfl) (by kernel_rfl) (by kernel_rfl) (by kernel_rfl)
def feist_pair_pass (p0 : Option Addr) (p1 : Option Addr) (n2 : Int) (w : World) (Q : Value → World → Prop) : Prop :=
  cond ((Int.tmod n2 2) == 0)
  (∃ (S2 : World → Prop),
    Drw w fun w1 =>
    ∃ a13, p0 = some a13 ∧
    ∃ a17, p0 = some a17 ∧
    ∃ a21, p0 = some a21 ∧
    ∃ p14 l14 c14 p14_1 l14_1 c14_1 n14, HLd Tryz.prog S2 382 (.pointer (some a13)) w1 (.agg #[.slice p14 l14 c14, .slice p14_1 l14_1 c14_1, .int .i64 n14]) ∧
    ∃ p19 l19 c19, HLd Tryz.prog S2 25 (.pointer (some (a17.add 1))) w1 (.slice p19 l19 c19) ∧
    ∃ p23 l23 c23, Ld Tryz.prog 25 (.pointer (some (a21.add 0))) w1 (.slice p23 l23 c23) ∧
    (w1 = w1 ∨ S2 w1) ∧
    callF Tryz.prog 298 #[.agg #[.slice p14 l14 c14, .slice p14_1 l14_1 c14_1, .int .i64 n14], .pointer p1, .slice p19 l19 c19, .slice p23 l23 c23, .int .i64 n2, .bool true] w1 fun r25 w2 =>
    ∃ p25 l25 c25 n25, r25 = .tuple #[.slice p25 l25 c25, .int .i64 n25] ∧
    ∃ a28, p0 = some a28 ∧
    ∃ w3, Sto Tryz.prog 25 (.pointer (some (a28.add 0))) (.slice p25 l25 c25) w2 w3 ∧
    Q (.int .i64 n25) w3)
  (∃ (S3 : World → Prop),
    Drw w fun w4 =>
    ∃ a33, p0 = some a33 ∧
    ∃ a37, p0 = some a37 ∧
    ∃ a41, p0 = some a41 ∧
    ∃ p34 l34 c34 p34_1 l34_1 c34_1 n34, HLd Tryz.prog S3 382 (.pointer (some a33)) w4 (.agg #[.slice p34 l34 c34, .slice p34_1 l34_1 c34_1, .int .i64 n34]) ∧
    ∃ p39 l39 c39, HLd Tryz.prog S3 25 (.pointer (some (a37.add 0))) w4 (.slice p39 l39 c39) ∧
    ∃ p43 l43 c43, Ld Tryz.prog 25 (.pointer (some (a41.add 1))) w4 (.slice p43 l43 c43) ∧
    (w4 = w4 ∨ S3 w4) ∧
    callF Tryz.prog 298 #[.agg #[.slice p34 l34 c34, .slice p34_1 l34_1 c34_1, .int .i64 n34], .pointer p1, .slice p39 l39 c39, .slice p43 l43 c43, .int .i64 n2, .bool false] w4 fun r45 w5 =>
    ∃ p45 l45 c45 n45, r45 = .tuple #[.slice p45 l45 c45, .int .i64 n45] ∧
    ∃ a48, p0 = some a48 ∧
    ∃ w6, Sto Tryz.prog 25 (.pointer (some (a48.add 1))) (.slice p45 l45 c45) w5 w6 ∧
    Q (.int .i64 n45) w6)
def feist_pair_pass_tt : Nat → List (Nat × TypeId) := fun _ => []
theorem feist_pair_pass_call (p0 : Option Addr) (p1 : Option Addr) (n2 : Int) (w : World) (Q : Value → World → Prop) (h : feist_pair_pass p0 p1 n2 w Q) : callF Tryz.prog 267 #[.pointer p0, .pointer p1, .int .i64 n2] w Q :=
  callBy feist_pair_pass_tt Tryz.func267 h (fun _ _ => by kernel_rfl) (by kernel_rfl) (by kernel_rfl) (by kernel_rfl)
def feist_pair_onto_j1 (p1 : Option Addr) (p3 : Option Addr) (l3 : Nat) (c3 : Nat) (b5 : Bool) (a6 : Addr) (p12 : Option Addr) (l12 : Nat) (c12 : Nat) (n13 : Int) (p14 : Option Addr) (l14 : Nat) (c14 : Nat) (w : World) (Q : Value → World → Prop) : Prop :=
  callF Tryz.prog 192 #[.pointer p1, .slice p14 l14 c14] w fun r40 w1 =>
  ∃ p40 l40 c40 n40, r40 = .tuple #[.slice p40 l40 c40, .int .i64 n40] ∧
  ∃ p47 l47 c47, Pu Tryz.prog (Instr.sliceAt 25 (.slice p40 l40 c40) none (some (.int .i64 ((l3 : Nat) : Int))) none) (.slice p47 l47 c47) ∧
  callF Tryz.prog 249 #[.slice p47 l47 c47, .slice p3 l3 c3] w1 fun r49 w2 =>
  ∃ p49 l49 c49 n49, r49 = .tuple #[.slice p49 l49 c49, .int .i64 n49] ∧
  ∃ n54, Ld Tryz.prog 3 (.pointer (some (a6.add 2))) w2 (.int .i64 n54) ∧
  callF Tryz.prog 296 #[.slice p49 l49 c49, .int .i64 n54, .bool b5] w2 fun r56 w3 =>
  ∃ p56 l56 c56 n56, r56 = .tuple #[.slice p56 l56 c56, .int .i64 n56] ∧
  Q (.tuple #[.slice p56 l56 c56, .int .i64 n56]) w3
def feist_pair_onto (p0 : Option Addr) (l0 : Nat) (c0 : Nat) (p0_1 : Option Addr) (l0_1 : Nat) (c0_1 : Nat) (n0 : Int) (p1 : Option Addr) (p2 : Option Addr) (l2 : Nat) (c2 : Nat) (p3 : Option Addr) (l3 : Nat) (c3 : Nat) (n4 : Int) (b5 : Bool) (w : World) (Q : Value → World → Prop) : Prop :=
  New #[.slice p0 l0 c0, .slice p0_1 l0_1 c0_1, .int .i64 n0] 382 w fun k6 w1 =>
  ∃ n23, Ld Tryz.prog 3 (.pointer (some ((⟨k6, 0, none⟩ : Addr).add 2))) w1 (.int .i64 n23) ∧
  callF Tryz.prog 315 #[.slice p2 l2 c2, .int .i64 n23, .int .i64 n4] w1 fun r25 w2 =>
  ∃ p25 l25 c25 n25, r25 = .tuple #[.slice p25 l25 c25, .int .i64 n25] ∧
  cond (n25 != 0)
  (Q (.tuple #[.slice none 0 0, .int .i64 11]) w2)
  (cond (((l3 : Nat) : Int) != ((l2 : Nat) : Int))
    (Q (.tuple #[.slice none 0 0, .int .i64 11]) w2)
    (feist_pair_onto_j1 p1 p3 l3 c3 b5 (⟨k6, 0, none⟩ : Addr) none 0 0 0 p25 l25 c25 w2 Q))
def feist_pair_onto_tt : Nat → List (Nat × TypeId) := fun _ => []
theorem feist_pair_onto_call (p0 : Option Addr) (l0 : Nat) (c0 : Nat) (p0_1 : Option Addr) (l0_1 : Nat) (c0_1 : Nat) (n0 : Int) (p1 : Option Addr) (p2 : Option Addr) (l2 : Nat) (c2 : Nat) (p3 : Option Addr) (l3 : Nat) (c3 : Nat) (n4 : Int) (b5 : Bool) (w : World) (Q : Value → World → Prop) (h : feist_pair_onto p0 l0 c0 p0_1 l0_1 c0_1 n0 p1 p2 l2 c2 p3 l3 c3 n4 b5 w Q) : callF Tryz.prog 298 #[.agg #[.slice p0 l0 c0, .slice p0_1 l0_1 c0_1, .int .i64 n0], .pointer p1, .slice p2 l2 c2, .slice p3 l3 c3, .int .i64 n4, .bool b5] w Q :=
  callBy feist_pair_onto_tt Tryz.func298 h (fun _ _ => by kernel_rfl) (by kernel_rfl) (by kernel_rfl) (by kernel_rfl)
end Go.Sh
end

section
namespace Go.Sh
open Go Go.Fw Go.Proofs
set_option maxRecDepth 100000
set_option linter.unusedVariables false
def mode_Config_Size (cs0 : Array Value) (w : World) (Q : Value → World → Prop) : Prop :=
  New cs0 24 w fun k1 w1 =>
  ∃ (cs3 : Array Value), Ld Tryz.prog 24 (.pointer (some (⟨k1, 0, none⟩ : Addr))) w1 (.agg cs3) ∧
  callF Tryz.prog 101 #[.agg cs3] w1 fun r4 w2 =>
  ∃ b4, r4 = .bool b4 ∧
  cond (!b4)
  (Q (.int .i64 0) w2)
  (∃ (cs6 : Array Value), Ld Tryz.prog 24 (.pointer (some (⟨k1, 0, none⟩ : Addr))) w2 (.agg cs6) ∧
    callF Tryz.prog 114 #[.agg cs6] w2 fun r7 w3 =>
    ∃ n7, r7 = .int .i64 n7 ∧
    Q (.int .i64 (IntKind.i64.wrap (1 + n7))) w3)
def mode_Config_Size_tt : Nat → List (Nat × TypeId) := fun _ => []
theorem mode_Config_Size_call (cs0 : Array Value) (w : World) (Q : Value → World → Prop) (h : mode_Config_Size cs0 w Q) : callF Tryz.prog 41 #[.agg cs0] w Q :=
  callBy mode_Config_Size_tt Tryz.func41 h (fun _ _ => by kernel_rfl) (by kernel_rfl) (by kernel_rfl) (by kernel_rfl)
def mode_Config_Right_j1 (a1 : Addr) (b2 : Bool) (w : World) (Q : Value → World → Prop) : Prop :=
  ∃ n25, Ld Tryz.prog 3 (.pointer (some (a1.add 0))) w (.int .i64 n25) ∧
  cond (n25 == 0)
  (∃ (cs29 : Array Value), Ld Tryz.prog 22 (.pointer (some (a1.add 3))) w (.agg cs29) ∧
    ∃ b31 w1, Ef Tryz.prog (do eqGuard .eql 22 (.tmp 29) (.tmp 30) (.agg cs29) (.agg #[.int .u8 0, .int .u8 0, .int .u8 0, .int .u8 0, .int .u8 0, .int .u8 0, .int .u8 0, .int .u8 0, .int .u8 0, .int .u8 0, .int .u8 0, .int .u8 0, .int .u8 0, .int .u8 0, .int .u8 0, .int .u8 0]); binOp .eql 22 (.agg cs29) (.agg #[.int .u8 0, .int .u8 0, .int .u8 0, .int .u8 0, .int .u8 0, .int .u8 0, .int .u8 0, .int .u8 0, .int .u8 0, .int .u8 0, .int .u8 0, .int .u8 0, .int .u8 0, .int .u8 0, .int .u8 0, .int .u8 0]) : Sem Value) w (.bool b31) w1 ∧
    Q (.bool b31) w1)
  (cond (n25 == 1)
    (∃ (cs34 : Array Value), Ld Tryz.prog 24 (.pointer (some a1)) w (.agg cs34) ∧
      callF Tryz.prog 114 #[.agg cs34] w fun r35 w2 =>
      ∃ n35, r35 = .int .i64 n35 ∧
      Q (.bool (n35 == 16)) w2)
    (Q (.bool true) w))
def mode_Config_Right (cs0 : Array Value) (w : World) (Q : Value → World → Prop) : Prop :=
  New cs0 24 w fun k1 w1 =>
  ∃ n4, Ld Tryz.prog 3 (.pointer (some ((⟨k1, 0, none⟩ : Addr).add 0))) w1 (.int .i64 n4) ∧
  callF Tryz.prog 178 #[.int .i64 n4, .int .i64 0, .int .i64 2] w1 fun r5 w2 =>
  ∃ b5, r5 = .bool b5 ∧
  cond (!b5)
  (Q (.bool false) w2)
  (∃ n9, Ld Tryz.prog 3 (.pointer (some ((⟨k1, 0, none⟩ : Addr).add 1))) w2 (.int .i64 n9) ∧
    callF Tryz.prog 178 #[.int .i64 n9, .int .i64 1, .int .i64 15] w2 fun r10 w3 =>
    ∃ b10, r10 = .bool b10 ∧
    cond (!b10)
    (Q (.bool false) w3)
    (∃ n15, Ld Tryz.prog 3 (.pointer (some ((⟨k1, 0, none⟩ : Addr).add 2))) w3 (.int .i64 n15) ∧
      callF Tryz.prog 178 #[.int .i64 n15, .int .i64 4, .int .i64 18] w3 fun r16 w4 =>
      ∃ b16, r16 = .bool b16 ∧
      cond (!b16)
      (Q (.bool false) w4)
      (∃ (cs20 : Array Value), Ld Tryz.prog 24 (.pointer (some (⟨k1, 0, none⟩ : Addr))) w4 (.agg cs20) ∧
        callF Tryz.prog 114 #[.agg cs20] w4 fun r21 w5 =>
        ∃ n21, r21 = .int .i64 n21 ∧
        cond (decide (n21 > 19))
        (Q (.bool false) w5)
        (mode_Config_Right_j1 (⟨k1, 0, none⟩ : Addr) false w5 Q))))
def mode_Config_Right_tt : Nat → List (Nat × TypeId) := fun _ => []
theorem mode_Config_Right_call (cs0 : Array Value) (w : World) (Q : Value → World → Prop) (h : mode_Config_Right cs0 w Q) : callF Tryz.prog 101 #[.agg cs0] w Q :=
  callBy mode_Config_Right_tt Tryz.func101 h (fun _ _ => by kernel_rfl) (by kernel_rfl) (by kernel_rfl) (by kernel_rfl)
def mode_Config_Back (cs0 : Array Value) (p1 : Option Addr) (l1 : Nat) (c1 : Nat) (w : World) (Q : Value → World → Prop) : Prop :=
  New cs0 24 w fun k2 w1 =>
  ∃ (cs6 : Array Value), Ld Tryz.prog 24 (.pointer (some (⟨k2, 0, none⟩ : Addr))) w1 (.agg cs6) ∧
  callF Tryz.prog 185 #[.agg cs6, .agg #[.func (.func 186) #[] #[], .func (.func 187) #[] #[]], .slice p1 l1 c1] w1 fun r9 w2 =>
  ∃ p9 l9 c9 n9, r9 = .tuple #[.slice p9 l9 c9, .int .i64 n9] ∧
  Q (.tuple #[.slice p9 l9 c9, .int .i64 n9]) w2
def mode_Config_Back_tt : Nat → List (Nat × TypeId) := fun _ => []
theorem mode_Config_Back_call (cs0 : Array Value) (p1 : Option Addr) (l1 : Nat) (c1 : Nat) (w : World) (Q : Value → World → Prop) (h : mode_Config_Back cs0 p1 l1 c1 w Q) : callF Tryz.prog 111 #[.agg cs0, .slice p1 l1 c1] w Q :=
  callBy mode_Config_Back_tt Tryz.func111 h (fun _ _ => by kernel_rfl) (by kernel_rfl) (by kernel_rfl) (by kernel_rfl)
def mode_Config_both (cs0 : Array Value) (w : World) (Q : Value → World → Prop) : Prop :=
  New cs0 24 w fun k1 w1 =>
  ∃ n4, Ld Tryz.prog 3 (.pointer (some ((⟨k1, 0, none⟩ : Addr).add 1))) w1 (.int .i64 n4) ∧
  ∃ n6, Ld Tryz.prog 3 (.pointer (some ((⟨k1, 0, none⟩ : Addr).add 2))) w1 (.int .i64 n6) ∧
  Q (.int .i64 (IntKind.i64.wrap (n4 + n6))) w1
def mode_Config_both_tt : Nat → List (Nat × TypeId) := fun _ => []
theorem mode_Config_both_call (cs0 : Array Value) (w : World) (Q : Value → World → Prop) (h : mode_Config_both cs0 w Q) : callF Tryz.prog 114 #[.agg cs0] w Q :=
  callBy mode_Config_both_tt Tryz.func114 h (fun _ _ => by kernel_rfl) (by kernel_rfl) (by kernel_rfl) (by kernel_rfl)
def mode_within (n0 : Int) (n1 : Int) (n2 : Int) (w : World) (Q : Value → World → Prop) : Prop :=
  cond (decide (n0 ≥ n1))
  (Q (.bool (decide (n0 ≤ n2))) w)
  (Q (.bool false) w)
def mode_within_tt : Nat → List (Nat × TypeId) := fun _ => []
theorem mode_within_call (n0 : Int) (n1 : Int) (n2 : Int) (w : World) (Q : Value → World → Prop) (h : mode_within n0 n1 n2 w Q) : callF Tryz.prog 178 #[.int .i64 n0, .int .i64 n1, .int .i64 n2] w Q :=
  callBy mode_within_tt Tryz.func178 h (fun _ _ => by kernel_rfl) (by kernel_rfl) (by kernel_rfl) (by kernel_rfl)
def mode_Config_Turn (cs0 : Array Value) (p1 : Option Addr) (l1 : Nat) (c1 : Nat) (w : World) (Q : Value → World → Prop) : Prop :=
  New cs0 24 w fun k2 w1 =>
  ∃ (cs6 : Array Value), Ld Tryz.prog 24 (.pointer (some (⟨k2, 0, none⟩ : Addr))) w1 (.agg cs6) ∧
  callF Tryz.prog 185 #[.agg cs6, .agg #[.func (.func 192) #[] #[], .func (.func 229) #[] #[]], .slice p1 l1 c1] w1 fun r9 w2 =>
  ∃ p9 l9 c9 n9, r9 = .tuple #[.slice p9 l9 c9, .int .i64 n9] ∧
  Q (.tuple #[.slice p9 l9 c9, .int .i64 n9]) w2
def mode_Config_Turn_tt : Nat → List (Nat × TypeId) := fun _ => []
theorem mode_Config_Turn_call (cs0 : Array Value) (p1 : Option Addr) (l1 : Nat) (c1 : Nat) (w : World) (Q : Value → World → Prop) (h : mode_Config_Turn cs0 p1 l1 c1 w Q) : callF Tryz.prog 183 #[.agg cs0, .slice p1 l1 c1] w Q :=
  callBy mode_Config_Turn_tt Tryz.func183 h (fun _ _ => by kernel_rfl) (by kernel_rfl) (by kernel_rfl) (by kernel_rfl)
def mode_Config_by_j1 (p2 : Option Addr) (l2 : Nat) (c2 : Nat) (a3 : Addr) (a4 : Addr) (p6 : Option Addr) (l6 : Nat) (c6 : Nat) (n7 : Int) (w : World) (Q : Value → World → Prop) : Prop :=
  ∃ p29 l29 c29, Pu Tryz.prog (Instr.sliceAt 22 (.pointer (some (a3.add 3))) none none none) (.slice p29 l29 c29) ∧
  callF Tryz.prog 191 #[.slice p29 l29 c29] w fun r30 w1 =>
  ∃ p30 n30, r30 = .tuple #[.pointer p30, .int .i64 n30] ∧
  ∃ n34, Ld Tryz.prog 3 (.pointer (some (a3.add 0))) w1 (.int .i64 n34) ∧
  cond (n34 == 1)
  (∃ v37, Ld Tryz.prog 278 (.pointer (some (a4.add 0))) w1 (v37) ∧
    callV Tryz.prog (v37) [.pointer p30, .slice p2 l2 c2] w1 fun r40 w2 =>
    ∃ p40 l40 c40 n40, r40 = .tuple #[.slice p40 l40 c40, .int .i64 n40] ∧
    Q (.tuple #[.slice p40 l40 c40, .int .i64 n40]) w2)
  (∃ v44, Ld Tryz.prog 278 (.pointer (some (a4.add 1))) w1 (v44) ∧
    callV Tryz.prog (v44) [.pointer p30, .slice p2 l2 c2] w1 fun r47 w3 =>
    ∃ p47 l47 c47 n47, r47 = .tuple #[.slice p47 l47 c47, .int .i64 n47] ∧
    Q (.tuple #[.slice p47 l47 c47, .int .i64 n47]) w3)
def mode_Config_by (cs0 : Array Value) (v1 : Value) (v1_1 : Value) (p2 : Option Addr) (l2 : Nat) (c2 : Nat) (w : World) (Q : Value → World → Prop) : Prop :=
  New cs0 24 w fun k3 w1 =>
  New #[v1, v1_1] 281 w1 fun k4 w2 =>
  ∃ (cs11 : Array Value), Ld Tryz.prog 24 (.pointer (some (⟨k3, 0, none⟩ : Addr))) w2 (.agg cs11) ∧
  callF Tryz.prog 101 #[.agg cs11] w2 fun r12 w3 =>
  ∃ b12, r12 = .bool b12 ∧
  cond (!b12)
  (Q (.tuple #[.slice none 0 0, .int .i64 19]) w3)
  (∃ (cs17 : Array Value), Ld Tryz.prog 24 (.pointer (some (⟨k3, 0, none⟩ : Addr))) w3 (.agg cs17) ∧
    callF Tryz.prog 114 #[.agg cs17] w3 fun r18 w4 =>
    ∃ n18, r18 = .int .i64 n18 ∧
    cond (((l2 : Nat) : Int) != n18)
    (Q (.tuple #[.slice none 0 0, .int .i64 11]) w4)
    (∃ n22, Ld Tryz.prog 3 (.pointer (some ((⟨k3, 0, none⟩ : Addr).add 0))) w4 (.int .i64 n22) ∧
      cond (n22 == 0)
      (∃ p25 l25 c25 w5, Ef Tryz.prog (Instr.buildSlice 45 1 #[(0, .slice p2 l2 c2)]) w4 (.slice p25 l25 c25) w5 ∧
        callF Tryz.prog 112 #[.slice p25 l25 c25] w5 fun r26 w6 =>
        ∃ p26 l26 c26, r26 = .slice p26 l26 c26 ∧
        Q (.tuple #[.slice p26 l26 c26, .int .i64 0]) w6)
      (mode_Config_by_j1 p2 l2 c2 (⟨k3, 0, none⟩ : Addr) (⟨k4, 0, none⟩ : Addr) none 0 0 0 w4 Q)))
def mode_Config_by_tt : Nat → List (Nat × TypeId) := fun _ => []
theorem mode_Config_by_call (cs0 : Array Value) (v1 : Value) (v1_1 : Value) (p2 : Option Addr) (l2 : Nat) (c2 : Nat) (w : World) (Q : Value → World → Prop) (h : mode_Config_by cs0 v1 v1_1 p2 l2 c2 w Q) : callF Tryz.prog 185 #[.agg cs0, .agg #[v1, v1_1], .slice p2 l2 c2] w Q :=
  callBy mode_Config_by_tt Tryz.func185 h (fun _ _ => by kernel_rfl) (by kernel_rfl) (by kernel_rfl) (by kernel_rfl)
end Go.Sh
end

section
namespace Go.Sh
open Go Go.Fw Go.Proofs
set_option maxRecDepth 100000
set_option linter.unusedVariables false
def ref14_Cut_j1 (p2 : Option Addr) (l2 : Nat) (c2 : Nat) (p3 : Option Addr) (l3 : Nat) (c3 : Nat) (n4 : Int) (p7 : Option Addr) (l7 : Nat) (c7 : Nat) (p8 : Option Addr) (l8 : Nat) (c8 : Nat) (w : World) (Q : Value → World → Prop) : Prop :=
  callF Tryz.prog 321 #[.slice p7 l7 c7] w fun r39 w1 =>
  ∃ p39 l39 c39, r39 = .slice p39 l39 c39 ∧
  callF Tryz.prog 321 #[.slice p8 l8 c8] w1 fun r41 w2 =>
  ∃ p41 l41 c41, r41 = .slice p41 l41 c41 ∧
  Q (.tuple #[.slice p39 l39 c39, .slice p41 l41 c41, .int .i64 0]) w2
def ref14_Cut_j2 (p0 : Option Addr) (l0 : Nat) (c0 : Nat) (p2 : Option Addr) (l2 : Nat) (c2 : Nat) (p3 : Option Addr) (l3 : Nat) (c3 : Nat) (n4 : Int) (n5 : Int) (w : World) (Q : Value → World → Prop) : Prop :=
  callF Tryz.prog 320 #[.slice p0 l0 c0] w fun r18 w1 =>
  ∃ p18 l18 c18, r18 = .slice p18 l18 c18 ∧
  ∃ p19 l19 c19 w2, Ef Tryz.prog (Instr.buildSlice 25 0 #[]) w1 (.slice p19 l19 c19) w2 ∧
  ∃ p22 l22 c22, Pu Tryz.prog (Instr.sliceAt 25 (.slice p18 l18 c18) none (some (.int .i64 n5)) none) (.slice p22 l22 c22) ∧
  ∃ p23 l23 c23 w3, Ef Tryz.prog (Builtin.append_ #[25, 25] 25 #[.slice p19 l19 c19, .slice p22 l22 c22]) w2 (.slice p23 l23 c23) w3 ∧
  ∃ p24 l24 c24 w4, Ef Tryz.prog (Instr.buildSlice 25 0 #[]) w3 (.slice p24 l24 c24) w4 ∧
  ∃ p27 l27 c27, Pu Tryz.prog (Instr.sliceAt 25 (.slice p18 l18 c18) (some (.int .i64 n5)) none none) (.slice p27 l27 c27) ∧
  ∃ p28 l28 c28 w5, Ef Tryz.prog (Builtin.append_ #[25, 25] 25 #[.slice p24 l24 c24, .slice p27 l27 c27]) w4 (.slice p28 l28 c28) w5 ∧
  cond ((Int.tmod n5 2) == 1)
  (∃ p33 l33 c33 w6, Ef Tryz.prog (Instr.buildSlice 25 1 #[(0, .int .u8 0)]) w5 (.slice p33 l33 c33) w6 ∧
    ∃ p34 l34 c34 w7, Ef Tryz.prog (Builtin.append_ #[25, 25] 25 #[.slice p23 l23 c23, .slice p33 l33 c33]) w6 (.slice p34 l34 c34) w7 ∧
    ∃ p35 l35 c35 w8, Ef Tryz.prog (Instr.buildSlice 25 1 #[(0, .int .u8 0)]) w7 (.slice p35 l35 c35) w8 ∧
    ∃ p37 l37 c37 w9, Ef Tryz.prog (Builtin.append_ #[25, 25] 25 #[.slice p35 l35 c35, .slice p28 l28 c28]) w8 (.slice p37 l37 c37) w9 ∧
    ref14_Cut_j1 p2 l2 c2 p3 l3 c3 n4 p34 l34 c34 p37 l37 c37 w9 Q)
  (ref14_Cut_j1 p2 l2 c2 p3 l3 c3 n4 p23 l23 c23 p28 l28 c28 w5 Q)
def ref14_Cut (p0 : Option Addr) (l0 : Nat) (c0 : Nat) (w : World) (Q : Value → World → Prop) : Prop :=
  cond (decide (((l0 : Nat) : Int) < 2))
  (Q (.tuple #[.slice none 0 0, .slice none 0 0, .int .i64 11]) w)
  (cond (decide (((l0 : Nat) : Int) > 28))
    (Q (.tuple #[.slice none 0 0, .slice none 0 0, .int .i64 11]) w)
    (ref14_Cut_j2 p0 l0 c0 none 0 0 none 0 0 0 ((l0 : Nat) : Int) w Q))
def ref14_Cut_tt : Nat → List (Nat × TypeId) := fun _ => []
theorem ref14_Cut_call (p0 : Option Addr) (l0 : Nat) (c0 : Nat) (w : World) (Q : Value → World → Prop) (h : ref14_Cut p0 l0 c0 w Q) : callF Tryz.prog 307 #[.slice p0 l0 c0] w Q :=
  callBy ref14_Cut_tt Tryz.func307 h (fun _ _ => by kernel_rfl) (by kernel_rfl) (by kernel_rfl) (by kernel_rfl)
def ref14_Join_j1 (n2 : Int) (p6 : Option Addr) (l6 : Nat) (c6 : Nat) (n7 : Int) (p8 : Option Addr) (l8 : Nat) (c8 : Nat) (p9 : Option Addr) (l9 : Nat) (c9 : Nat) (w : World) (Q : Value → World → Prop) : Prop :=
  ∃ p43 l43 c43, Pu Tryz.prog (Instr.sliceAt 25 (.slice p8 l8 c8) none (some (.int .i64 n2)) (some (.int .i64 n2))) (.slice p43 l43 c43) ∧
  ∃ p45 l45 c45 w1, Ef Tryz.prog (Builtin.append_ #[25, 25] 25 #[.slice p43 l43 c43, .slice p9 l9 c9]) w (.slice p45 l45 c45) w1 ∧
  callF Tryz.prog 321 #[.slice p45 l45 c45] w1 fun r46 w2 =>
  ∃ p46 l46 c46, r46 = .slice p46 l46 c46 ∧
  Q (.tuple #[.slice p46 l46 c46, .int .i64 0]) w2
def ref14_Join_j2 (p0 : Option Addr) (l0 : Nat) (c0 : Nat) (p1 : Option Addr) (l1 : Nat) (c1 : Nat) (n2 : Int) (p6 : Option Addr) (l6 : Nat) (c6 : Nat) (n7 : Int) (w : World) (Q : Value → World → Prop) : Prop :=
  callF Tryz.prog 320 #[.slice p0 l0 c0] w fun r21 w1 =>
  ∃ p21 l21 c21, r21 = .slice p21 l21 c21 ∧
  callF Tryz.prog 320 #[.slice p1 l1 c1] w1 fun r23 w2 =>
  ∃ p23 l23 c23, r23 = .slice p23 l23 c23 ∧
  cond ((Int.tmod n2 2) == 1)
  (∃ a29, IxA Tryz.prog 25 (.slice p21 l21 c21) (.int .i64 n2) a29 ∧
    ∃ n30, Ld Tryz.prog 5 (.pointer (some a29)) w2 (.int .u8 n30) ∧
    cond (n30 != 0)
    (Q (.tuple #[.slice none 0 0, .int .i64 10]) w2)
    (∃ a34, IxA Tryz.prog 25 (.slice p23 l23 c23) (.int .i64 0) a34 ∧
      ∃ n35, Ld Tryz.prog 5 (.pointer (some a34)) w2 (.int .u8 n35) ∧
      cond (n35 != 0)
      (Q (.tuple #[.slice none 0 0, .int .i64 10]) w2)
      (∃ p39 l39 c39, Pu Tryz.prog (Instr.sliceAt 25 (.slice p23 l23 c23) (some (.int .i64 1)) none none) (.slice p39 l39 c39) ∧
        ref14_Join_j1 n2 p6 l6 c6 n7 p21 l21 c21 p39 l39 c39 w2 Q)))
  (ref14_Join_j1 n2 p6 l6 c6 n7 p21 l21 c21 p23 l23 c23 w2 Q)
def ref14_Join (p0 : Option Addr) (l0 : Nat) (c0 : Nat) (p1 : Option Addr) (l1 : Nat) (c1 : Nat) (n2 : Int) (w : World) (Q : Value → World → Prop) : Prop :=
  callF Tryz.prog 323 #[.slice p0 l0 c0, .int .i64 n2] w fun r12 w1 =>
  ∃ b12, r12 = .bool b12 ∧
  cond (!b12)
  (Q (.tuple #[.slice none 0 0, .int .i64 11]) w1)
  (callF Tryz.prog 323 #[.slice p1 l1 c1, .int .i64 n2] w1 fun r17 w2 =>
    ∃ b17, r17 = .bool b17 ∧
    cond (!b17)
    (Q (.tuple #[.slice none 0 0, .int .i64 11]) w2)
    (ref14_Join_j2 p0 l0 c0 p1 l1 c1 n2 none 0 0 0 w2 Q))
def ref14_Join_tt : Nat → List (Nat × TypeId) := fun _ => []
theorem ref14_Join_call (p0 : Option Addr) (l0 : Nat) (c0 : Nat) (p1 : Option Addr) (l1 : Nat) (c1 : Nat) (n2 : Int) (w : World) (Q : Value → World → Prop) (h : ref14_Join p0 l0 c0 p1 l1 c1 n2 w Q) : callF Tryz.prog 309 #[.slice p0 l0 c0, .slice p1 l1 c1, .int .i64 n2] w Q :=
  callBy ref14_Join_tt Tryz.func309 h (fun _ _ => by kernel_rfl) (by kernel_rfl) (by kernel_rfl) (by kernel_rfl)
def ref14_Fours (p0 : Option Addr) (l0 : Nat) (c0 : Nat) (w : World) (Q : Value → World → Prop) : Prop :=
  ∃ p5 l5 c5 w1, Ef Tryz.prog (Instr.buildSlice 25 0 #[]) w (.slice p5 l5 c5) w1 ∧
  LoopS [.slice p0 l0 c0, .slice none 0 0, .slice p5 l5 c5, .int .i64 0] w1 fun I1 μ1 us1 _ wl1 =>
  ∃ p0_1 l0_1 c0_1 p2 l2 c2 p3 l3 c3 n4, us1 = [.slice p0_1 l0_1 c0_1, .slice p2 l2 c2, .slice p3 l3 c3, .int .i64 n4] ∧
  cond (decide (n4 < ((l0_1 : Nat) : Int)))
  (∃ (S5 : World → Prop),
    Drw wl1 fun w2 =>
    ∃ a15, IxA Tryz.prog 25 (.slice p0_1 l0_1 c0_1) (.int .i64 n4) a15 ∧
    ∃ a20, IxA Tryz.prog 25 (.slice p0_1 l0_1 c0_1) (.int .i64 n4) a20 ∧
    ∃ n16, HLd Tryz.prog S5 5 (.pointer (some a15)) w2 (.int .u8 n16) ∧
    ∃ n21, Ld Tryz.prog 5 (.pointer (some a20)) w2 (.int .u8 n21) ∧
    (w2 = w2 ∨ S5 w2) ∧
    ∃ p23 l23 c23 w3, Ef Tryz.prog (Instr.buildSlice 25 2 #[(0, .int .u8 (IntKind.u8.wrap (Int.tdiv n16 16))), (1, .int .u8 (Int.tmod n21 16))]) w2 (.slice p23 l23 c23) w3 ∧
    ∃ p24 l24 c24 w4, Ef Tryz.prog (Builtin.append_ #[25, 25] 25 #[.slice p3 l3 c3, .slice p23 l23 c23]) w3 (.slice p24 l24 c24) w4 ∧
    goesOn [] [] I1 μ1 us1 [.slice p0_1 l0_1 c0_1, .slice p2 l2 c2, .slice p24 l24 c24, .int .i64 (IntKind.i64.wrap (n4 + 1))] wl1 w4)
  (Q (.slice p3 l3 c3) wl1)
def ref14_Fours_tt : Nat → List (Nat × TypeId) := fun n => match n with | 0 => [(0, 25), (2, 25), (3, 25), (4, 3)] | _ => []
theorem ref14_Fours_call (p0 : Option Addr) (l0 : Nat) (c0 : Nat) (w : World) (Q : Value → World → Prop) (h : ref14_Fours p0 l0 c0 w Q) : callF Tryz.prog 320 #[.slice p0 l0 c0] w Q :=
  callBy ref14_Fours_tt Tryz.func320 h (fun _ _ => by kernel_rfl) (by kernel_rfl) (by kernel_rfl) (by kernel_rfl)
def ref14_Bytes (p0 : Option Addr) (l0 : Nat) (c0 : Nat) (w : World) (Q : Value → World → Prop) : Prop :=
  ∃ p5 l5 c5 w1, Ef Tryz.prog (Instr.buildSlice 25 0 #[]) w (.slice p5 l5 c5) w1 ∧
  LoopS [.slice p0 l0 c0, .slice none 0 0, .slice p5 l5 c5, .int .i64 0] w1 fun I1 μ1 us1 _ wl1 =>
  ∃ p0_1 l0_1 c0_1 p2 l2 c2 p3 l3 c3 n4, us1 = [.slice p0_1 l0_1 c0_1, .slice p2 l2 c2, .slice p3 l3 c3, .int .i64 n4] ∧
  cond (decide (n4 < ((l0_1 : Nat) : Int)))
  (∃ (S5 : World → Prop),
    Drw wl1 fun w2 =>
    ∃ a15, IxA Tryz.prog 25 (.slice p0_1 l0_1 c0_1) (.int .i64 n4) a15 ∧
    ∃ a21, IxA Tryz.prog 25 (.slice p0_1 l0_1 c0_1) (.int .i64 (IntKind.i64.wrap (n4 + 1))) a21 ∧
    ∃ n16, HLd Tryz.prog S5 5 (.pointer (some a15)) w2 (.int .u8 n16) ∧
    ∃ n22, Ld Tryz.prog 5 (.pointer (some a21)) w2 (.int .u8 n22) ∧
    (w2 = w2 ∨ S5 w2) ∧
    ∃ p24 l24 c24 w3, Ef Tryz.prog (Instr.buildSlice 25 1 #[(0, .int .u8 (IntKind.u8.wrap ((IntKind.u8.wrap (n16 * 16)) + n22)))]) w2 (.slice p24 l24 c24) w3 ∧
    ∃ p25 l25 c25 w4, Ef Tryz.prog (Builtin.append_ #[25, 25] 25 #[.slice p3 l3 c3, .slice p24 l24 c24]) w3 (.slice p25 l25 c25) w4 ∧
    goesOn [] [] I1 μ1 us1 [.slice p0_1 l0_1 c0_1, .slice p2 l2 c2, .slice p25 l25 c25, .int .i64 (IntKind.i64.wrap (n4 + 2))] wl1 w4)
  (Q (.slice p3 l3 c3) wl1)
def ref14_Bytes_tt : Nat → List (Nat × TypeId) := fun n => match n with | 0 => [(0, 25), (2, 25), (3, 25), (4, 3)] | _ => []
theorem ref14_Bytes_call (p0 : Option Addr) (l0 : Nat) (c0 : Nat) (w : World) (Q : Value → World → Prop) (h : ref14_Bytes p0 l0 c0 w Q) : callF Tryz.prog 321 #[.slice p0 l0 c0] w Q :=
  callBy ref14_Bytes_tt Tryz.func321 h (fun _ _ => by kernel_rfl) (by kernel_rfl) (by kernel_rfl) (by kernel_rfl)
def ref14_fit (p0 : Option Addr) (l0 : Nat) (c0 : Nat) (n1 : Int) (w : World) (Q : Value → World → Prop) : Prop :=
  cond (decide (n1 ≥ 2))
  (cond (decide (n1 ≤ 28))
    (callF Tryz.prog 334 #[.int .i64 n1] w fun r15 w1 =>
      ∃ n15, r15 = .int .i64 n15 ∧
      Q (.bool (((l0 : Nat) : Int) == n15)) w1)
    (Q (.bool false) w))
  (Q (.bool false) w)
def ref14_fit_tt : Nat → List (Nat × TypeId) := fun _ => []
theorem ref14_fit_call (p0 : Option Addr) (l0 : Nat) (c0 : Nat) (n1 : Int) (w : World) (Q : Value → World → Prop) (h : ref14_fit p0 l0 c0 n1 w Q) : callF Tryz.prog 323 #[.slice p0 l0 c0, .int .i64 n1] w Q :=
  callBy ref14_fit_tt Tryz.func323 h (fun _ _ => by kernel_rfl) (by kernel_rfl) (by kernel_rfl) (by kernel_rfl)
def ref14_Block_j1 (n1 : Int) (n2 : Int) (p6 : Option Addr) (l6 : Nat) (c6 : Nat) (n7 : Int) (p8 : Option Addr) (l8 : Nat) (c8 : Nat) (w : World) (Q : Value → World → Prop) : Prop :=
  ∃ p35 l35 c35 w1, Ef Tryz.prog (Instr.buildSlice 25 2 #[(0, .int .u8 (IntKind.u8.wrap n1)), (1, .int .u8 (IntKind.u8.wrap n2))]) w (.slice p35 l35 c35) w1 ∧
  ∃ p36 l36 c36 w2, Ef Tryz.prog (Builtin.append_ #[25, 25] 25 #[.slice p8 l8 c8, .slice p35 l35 c35]) w1 (.slice p36 l36 c36) w2 ∧
  Q (.tuple #[.slice p36 l36 c36, .int .i64 0]) w2
def ref14_Block_j2 (p0 : Option Addr) (l0 : Nat) (c0 : Nat) (n1 : Int) (n2 : Int) (p6 : Option Addr) (l6 : Nat) (c6 : Nat) (n7 : Int) (w : World) (Q : Value → World → Prop) : Prop :=
  ∃ p21 l21 c21 w1, Ef Tryz.prog (Instr.buildSlice 25 0 #[]) w (.slice p21 l21 c21) w1 ∧
  ∃ p23 l23 c23 w2, Ef Tryz.prog (Builtin.append_ #[25, 25] 25 #[.slice p21 l21 c21, .slice p0 l0 c0]) w1 (.slice p23 l23 c23) w2 ∧
  LoopS [.int .i64 n1, .int .i64 n2, .slice p6 l6 c6, .int .i64 n7, .slice p23 l23 c23] w2 fun I1 μ1 us1 _ wl1 =>
  ∃ n1_1 n2_1 p6_1 l6_1 c6_1 n7_1 p8 l8 c8, us1 = [.int .i64 n1_1, .int .i64 n2_1, .slice p6_1 l6_1 c6_1, .int .i64 n7_1, .slice p8 l8 c8] ∧
  cond (decide (((l8 : Nat) : Int) < 14))
  (∃ p28 l28 c28 w3, Ef Tryz.prog (Instr.buildSlice 25 1 #[(0, .int .u8 0)]) wl1 (.slice p28 l28 c28) w3 ∧
    ∃ p29 l29 c29 w4, Ef Tryz.prog (Builtin.append_ #[25, 25] 25 #[.slice p8 l8 c8, .slice p28 l28 c28]) w3 (.slice p29 l29 c29) w4 ∧
    goesOn [] [] I1 μ1 us1 [.int .i64 n1_1, .int .i64 n2_1, .slice p6_1 l6_1 c6_1, .int .i64 n7_1, .slice p29 l29 c29] wl1 w4)
  (ref14_Block_j1 n1_1 n2_1 p6_1 l6_1 c6_1 n7_1 p8 l8 c8 wl1 Q)
def ref14_Block (p0 : Option Addr) (l0 : Nat) (c0 : Nat) (n1 : Int) (n2 : Int) (w : World) (Q : Value → World → Prop) : Prop :=
  callF Tryz.prog 323 #[.slice p0 l0 c0, .int .i64 n1] w fun r11 w1 =>
  ∃ b11, r11 = .bool b11 ∧
  cond (!b11)
  (Q (.tuple #[.slice none 0 0, .int .i64 11]) w1)
  (cond (decide (n2 < 0))
    (Q (.tuple #[.slice none 0 0, .int .i64 11]) w1)
    (cond (decide (n2 > 255))
      (Q (.tuple #[.slice none 0 0, .int .i64 11]) w1)
      (ref14_Block_j2 p0 l0 c0 n1 n2 none 0 0 0 w1 Q)))
def ref14_Block_tt : Nat → List (Nat × TypeId) := fun n => match n with | 0 => [(1, 3), (2, 3), (6, 25), (7, 33), (8, 25)] | _ => []
theorem ref14_Block_call (p0 : Option Addr) (l0 : Nat) (c0 : Nat) (n1 : Int) (n2 : Int) (w : World) (Q : Value → World → Prop) (h : ref14_Block p0 l0 c0 n1 n2 w Q) : callF Tryz.prog 332 #[.slice p0 l0 c0, .int .i64 n1, .int .i64 n2] w Q :=
  callBy ref14_Block_tt Tryz.func332 h (fun _ _ => by kernel_rfl) (by kernel_rfl) (by kernel_rfl) (by kernel_rfl)
def ref14_Trim_j1 (p6 : Option Addr) (l6 : Nat) (c6 : Nat) (n7 : Int) (p8 : Option Addr) (l8 : Nat) (c8 : Nat) (b30 : Bool) (w : World) (Q : Value → World → Prop) : Prop :=
  cond b30
  (∃ a32, IxA Tryz.prog 25 (.slice p8 l8 c8) (.int .i64 0) a32 ∧
    ∃ w1, Sto Tryz.prog 5 (.pointer (some a32)) (.int .u8 0) w w1 ∧
    callF Tryz.prog 321 #[.slice p8 l8 c8] w1 fun r34 w2 =>
    ∃ p34 l34 c34, r34 = .slice p34 l34 c34 ∧
    Q (.tuple #[.slice p34 l34 c34, .int .i64 0]) w2)
  (callF Tryz.prog 321 #[.slice p8 l8 c8] w fun r34_1 w3 =>
    ∃ p34_1 l34_1 c34_1, r34_1 = .slice p34_1 l34_1 c34_1 ∧
    Q (.tuple #[.slice p34_1 l34_1 c34_1, .int .i64 0]) w3)
def ref14_Trim_j2 (n1 : Int) (b2 : Bool) (p6 : Option Addr) (l6 : Nat) (c6 : Nat) (n7 : Int) (p8 : Option Addr) (l8 : Nat) (c8 : Nat) (w : World) (Q : Value → World → Prop) : Prop :=
  cond ((Int.tmod n1 2) == 1)
  (ref14_Trim_j1 p6 l6 c6 n7 p8 l8 c8 (!b2) w Q)
  (ref14_Trim_j1 p6 l6 c6 n7 p8 l8 c8 false w Q)
def ref14_Trim_j3 (n1 : Int) (b2 : Bool) (p6 : Option Addr) (l6 : Nat) (c6 : Nat) (n7 : Int) (p8 : Option Addr) (l8 : Nat) (c8 : Nat) (b20 : Bool) (w : World) (Q : Value → World → Prop) : Prop :=
  cond b20
  (∃ a23, IxA Tryz.prog 25 (.slice p8 l8 c8) (.int .i64 n1) a23 ∧
    ∃ w1, Sto Tryz.prog 5 (.pointer (some a23)) (.int .u8 0) w w1 ∧
    ref14_Trim_j2 n1 b2 p6 l6 c6 n7 p8 l8 c8 w1 Q)
  (ref14_Trim_j2 n1 b2 p6 l6 c6 n7 p8 l8 c8 w Q)
def ref14_Trim (p0 : Option Addr) (l0 : Nat) (c0 : Nat) (n1 : Int) (b2 : Bool) (w : World) (Q : Value → World → Prop) : Prop :=
  callF Tryz.prog 323 #[.slice p0 l0 c0, .int .i64 n1] w fun r11 w1 =>
  ∃ b11, r11 = .bool b11 ∧
  cond (!b11)
  (Q (.tuple #[.slice none 0 0, .int .i64 11]) w1)
  (callF Tryz.prog 320 #[.slice p0 l0 c0] w1 fun r14 w2 =>
    ∃ p14 l14 c14, r14 = .slice p14 l14 c14 ∧
    cond ((Int.tmod n1 2) == 1)
    (ref14_Trim_j3 n1 b2 none 0 0 0 p14 l14 c14 b2 w2 Q)
    (ref14_Trim_j3 n1 b2 none 0 0 0 p14 l14 c14 false w2 Q))
def ref14_Trim_tt : Nat → List (Nat × TypeId) := fun _ => []
theorem ref14_Trim_call (p0 : Option Addr) (l0 : Nat) (c0 : Nat) (n1 : Int) (b2 : Bool) (w : World) (Q : Value → World → Prop) (h : ref14_Trim p0 l0 c0 n1 b2 w Q) : callF Tryz.prog 333 #[.slice p0 l0 c0, .int .i64 n1, .bool b2] w Q :=
  callBy ref14_Trim_tt Tryz.func333 h (fun _ _ => by kernel_rfl) (by kernel_rfl) (by kernel_rfl) (by kernel_rfl)
def ref14_Size (n0 : Int) (w : World) (Q : Value → World → Prop) : Prop :=
  cond (decide (n0 < 1))
  (Q (.int .i64 0) w)
  (Q (.int .i64 (IntKind.i64.wrap ((IntKind.i64.wrap (Int.tdiv n0 2)) + (Int.tmod n0 2)))) w)
def ref14_Size_tt : Nat → List (Nat × TypeId) := fun _ => []
theorem ref14_Size_call (n0 : Int) (w : World) (Q : Value → World → Prop) (h : ref14_Size n0 w Q) : callF Tryz.prog 334 #[.int .i64 n0] w Q :=
  callBy ref14_Size_tt Tryz.func334 h (fun _ _ => by kernel_rfl) (by kernel_rfl) (by kernel_rfl) (by kernel_rfl)
end Go.Sh
end

section
namespace Go.Sh
open Go Go.Fw Go.Proofs
set_option maxRecDepth 100000
set_option linter.unusedVariables false
def ref15_Passes_j1 (I1 : Inv) (μ1 : Meas) (us1 : List Value) (wl1 : World) (p0 : Option Addr) (l0 : Nat) (c0 : Nat) (p1 : Option Addr) (l1 : Nat) (c1 : Nat) (p2 : Option Addr) (l2 : Nat) (c2 : Nat) (p6 : Option Addr) (l6 : Nat) (c6 : Nat) (n7 : Int) (p8 : Option Addr) (l8 : Nat) (c8 : Nat) (p9 : Option Addr) (l9 : Nat) (c9 : Nat) (n10 : Int) (n11 : Int) (w : World) (Q : Value → World → Prop) : Prop :=
  ∃ a36, IxA Tryz.prog 312 (.slice p2 l2 c2) (.int .i64 n11) a36 ∧
  ∃ n37, Ld Tryz.prog 3 (.pointer (some a36)) w (.int .i64 n37) ∧
  callF Tryz.prog 308 #[.slice p0 l0 c0, .slice p8 l8 c8, .slice p9 l9 c9, .int .i64 ((l1 : Nat) : Int), .int .i64 n37] w fun r38 w1 =>
  ∃ p38 l38 c38 p38_1 l38_1 c38_1 n38, r38 = .tuple #[.slice p38 l38 c38, .slice p38_1 l38_1 c38_1, .int .i64 n38] ∧
  goesOn [] [] I1 μ1 us1 [.slice p0 l0 c0, .slice p1 l1 c1, .slice p2 l2 c2, .slice p6 l6 c6, .int .i64 n7, .slice p38 l38 c38, .slice p38_1 l38_1 c38_1, .int .i64 n38, .int .i64 (IntKind.i64.wrap (n11 + 1))] wl1 w1
def ref15_Passes_j2 (p1 : Option Addr) (l1 : Nat) (c1 : Nat) (p6 : Option Addr) (l6 : Nat) (c6 : Nat) (n7 : Int) (p8 : Option Addr) (l8 : Nat) (c8 : Nat) (p9 : Option Addr) (l9 : Nat) (c9 : Nat) (n10 : Int) (w : World) (Q : Value → World → Prop) : Prop :=
  cond (n10 != 0)
  (Q (.tuple #[.slice none 0 0, .int .i64 n10]) w)
  (callF Tryz.prog 309 #[.slice p8 l8 c8, .slice p9 l9 c9, .int .i64 ((l1 : Nat) : Int)] w fun r49 w1 =>
    ∃ p49 l49 c49 n49, r49 = .tuple #[.slice p49 l49 c49, .int .i64 n49] ∧
    Q (.tuple #[.slice p49 l49 c49, .int .i64 n49]) w1)
def ref15_Passes (p0 : Option Addr) (l0 : Nat) (c0 : Nat) (p1 : Option Addr) (l1 : Nat) (c1 : Nat) (p2 : Option Addr) (l2 : Nat) (c2 : Nat) (w : World) (Q : Value → World → Prop) : Prop :=
  callF Tryz.prog 307 #[.slice p1 l1 c1] w fun r14 w1 =>
  ∃ p14 l14 c14 p14_1 l14_1 c14_1 n14, r14 = .tuple #[.slice p14 l14 c14, .slice p14_1 l14_1 c14_1, .int .i64 n14] ∧
  LoopS [.slice p0 l0 c0, .slice p1 l1 c1, .slice p2 l2 c2, .slice none 0 0, .int .i64 0, .slice p14 l14 c14, .slice p14_1 l14_1 c14_1, .int .i64 n14, .int .i64 0] w1 fun I1 μ1 us1 _ wl1 =>
  ∃ p0_1 l0_1 c0_1 p1_1 l1_1 c1_1 p2_1 l2_1 c2_1 p6 l6 c6 n7 p8 l8 c8 p9 l9 c9 n10 n11, us1 = [.slice p0_1 l0_1 c0_1, .slice p1_1 l1_1 c1_1, .slice p2_1 l2_1 c2_1, .slice p6 l6 c6, .int .i64 n7, .slice p8 l8 c8, .slice p9 l9 c9, .int .i64 n10, .int .i64 n11] ∧
  cond (decide (n11 < ((l2_1 : Nat) : Int)))
  (cond (n10 == 0)
    (ref15_Passes_j1 I1 μ1 us1 wl1 p0_1 l0_1 c0_1 p1_1 l1_1 c1_1 p2_1 l2_1 c2_1 p6 l6 c6 n7 p8 l8 c8 p9 l9 c9 n10 n11 wl1 Q)
    (ref15_Passes_j2 p1_1 l1_1 c1_1 p6 l6 c6 n7 p8 l8 c8 p9 l9 c9 n10 wl1 Q))
  (ref15_Passes_j2 p1_1 l1_1 c1_1 p6 l6 c6 n7 p8 l8 c8 p9 l9 c9 n10 wl1 Q)
def ref15_Passes_tt : Nat → List (Nat × TypeId) := fun n => match n with | 0 => [(0, 25), (1, 25), (2, 312), (6, 25), (7, 33), (8, 25), (9, 25), (10, 33), (11, 3)] | _ => []
theorem ref15_Passes_call (p0 : Option Addr) (l0 : Nat) (c0 : Nat) (p1 : Option Addr) (l1 : Nat) (c1 : Nat) (p2 : Option Addr) (l2 : Nat) (c2 : Nat) (w : World) (Q : Value → World → Prop) (h : ref15_Passes p0 l0 c0 p1 l1 c1 p2 l2 c2 w Q) : callF Tryz.prog 291 #[.slice p0 l0 c0, .slice p1 l1 c1, .slice p2 l2 c2] w Q :=
  callBy ref15_Passes_tt Tryz.func291 h (fun _ _ => by kernel_rfl) (by kernel_rfl) (by kernel_rfl) (by kernel_rfl)
def ref15_Pass (p0 : Option Addr) (l0 : Nat) (c0 : Nat) (p1 : Option Addr) (l1 : Nat) (c1 : Nat) (p2 : Option Addr) (l2 : Nat) (c2 : Nat) (n3 : Int) (n4 : Int) (w : World) (Q : Value → World → Prop) : Prop :=
  cond ((Int.tmod n4 2) == 0)
  (callF Tryz.prog 322 #[.slice p0 l0 c0, .slice p2 l2 c2, .slice p1 l1 c1, .int .i64 n3, .int .i64 n4, .bool true] w fun r26 w1 =>
    ∃ p26 l26 c26 n26, r26 = .tuple #[.slice p26 l26 c26, .int .i64 n26] ∧
    cond (n26 != 0)
    (Q (.tuple #[.slice none 0 0, .slice none 0 0, .int .i64 n26]) w1)
    (∃ p33 l33 c33 w2, Ef Tryz.prog (Instr.buildSlice 25 0 #[]) w1 (.slice p33 l33 c33) w2 ∧
      ∃ p35 l35 c35 w3, Ef Tryz.prog (Builtin.append_ #[25, 25] 25 #[.slice p33 l33 c33, .slice p2 l2 c2]) w2 (.slice p35 l35 c35) w3 ∧
      Q (.tuple #[.slice p26 l26 c26, .slice p35 l35 c35, .int .i64 n26]) w3))
  (callF Tryz.prog 322 #[.slice p0 l0 c0, .slice p1 l1 c1, .slice p2 l2 c2, .int .i64 n3, .int .i64 n4, .bool false] w fun r43 w4 =>
    ∃ p43 l43 c43 n43, r43 = .tuple #[.slice p43 l43 c43, .int .i64 n43] ∧
    cond (n43 != 0)
    (Q (.tuple #[.slice none 0 0, .slice none 0 0, .int .i64 n43]) w4)
    (∃ p49 l49 c49 w5, Ef Tryz.prog (Instr.buildSlice 25 0 #[]) w4 (.slice p49 l49 c49) w5 ∧
      ∃ p51 l51 c51 w6, Ef Tryz.prog (Builtin.append_ #[25, 25] 25 #[.slice p49 l49 c49, .slice p1 l1 c1]) w5 (.slice p51 l51 c51) w6 ∧
      Q (.tuple #[.slice p51 l51 c51, .slice p43 l43 c43, .int .i64 n43]) w6))
def ref15_Pass_tt : Nat → List (Nat × TypeId) := fun _ => []
theorem ref15_Pass_call (p0 : Option Addr) (l0 : Nat) (c0 : Nat) (p1 : Option Addr) (l1 : Nat) (c1 : Nat) (p2 : Option Addr) (l2 : Nat) (c2 : Nat) (n3 : Int) (n4 : Int) (w : World) (Q : Value → World → Prop) (h : ref15_Pass p0 l0 c0 p1 l1 c1 p2 l2 c2 n3 n4 w Q) : callF Tryz.prog 308 #[.slice p0 l0 c0, .slice p1 l1 c1, .slice p2 l2 c2, .int .i64 n3, .int .i64 n4] w Q :=
  callBy ref15_Pass_tt Tryz.func308 h (fun _ _ => by kernel_rfl) (by kernel_rfl) (by kernel_rfl) (by kernel_rfl)
def ref15_onto_j1 (n3 : Int) (b5 : Bool) (p12 : Option Addr) (l12 : Nat) (c12 : Nat) (n13 : Int) (p17 : Option Addr) (l17 : Nat) (c17 : Nat) (w : World) (Q : Value → World → Prop) : Prop :=
  callF Tryz.prog 333 #[.slice p17 l17 c17, .int .i64 n3, .bool b5] w fun r60 w1 =>
  ∃ p60 l60 c60 n60, r60 = .tuple #[.slice p60 l60 c60, .int .i64 n60] ∧
  Q (.tuple #[.slice p60 l60 c60, .int .i64 n60]) w1
def ref15_onto_j2 (p0 : Option Addr) (l0 : Nat) (c0 : Nat) (p2 : Option Addr) (l2 : Nat) (c2 : Nat) (n3 : Int) (b5 : Bool) (p12 : Option Addr) (l12 : Nat) (c12 : Nat) (n13 : Int) (p14 : Option Addr) (l14 : Nat) (c14 : Nat) (w : World) (Q : Value → World → Prop) : Prop :=
  callF Tryz.prog 221 #[.slice p0 l0 c0, .slice p14 l14 c14] w fun r37 w1 =>
  ∃ p37 l37 c37, r37 = .slice p37 l37 c37 ∧
  ∃ p38 l38 c38 w2, Ef Tryz.prog (Instr.buildSlice 25 0 #[]) w1 (.slice p38 l38 c38) w2 ∧
  LoopS [.slice p2 l2 c2, .int .i64 n3, .bool b5, .slice p12 l12 c12, .int .i64 n13, .slice p37 l37 c37, .slice p38 l38 c38, .int .i64 0] w2 fun I1 μ1 us1 _ wl1 =>
  ∃ p2_1 l2_1 c2_1 n3_1 b5_1 p12_1 l12_1 c12_1 n13_1 p16 l16 c16 p17 l17 c17 n18, us1 = [.slice p2_1 l2_1 c2_1, .int .i64 n3_1, .bool b5_1, .slice p12_1 l12_1 c12_1, .int .i64 n13_1, .slice p16 l16 c16, .slice p17 l17 c17, .int .i64 n18] ∧
  cond (decide (n18 < ((l2_1 : Nat) : Int)))
  (∃ (S9 : World → Prop),
    Drw wl1 fun w3 =>
    ∃ a48, IxA Tryz.prog 25 (.slice p2_1 l2_1 c2_1) (.int .i64 n18) a48 ∧
    ∃ a52, IxA Tryz.prog 25 (.slice p16 l16 c16) (.int .i64 n18) a52 ∧
    ∃ n49, HLd Tryz.prog S9 5 (.pointer (some a48)) w3 (.int .u8 n49) ∧
    ∃ n53, Ld Tryz.prog 5 (.pointer (some a52)) w3 (.int .u8 n53) ∧
    (w3 = w3 ∨ S9 w3) ∧
    ∃ p55 l55 c55 w4, Ef Tryz.prog (Instr.buildSlice 25 1 #[(0, .int .u8 (ixor .u8 n49 n53))]) w3 (.slice p55 l55 c55) w4 ∧
    ∃ p56 l56 c56 w5, Ef Tryz.prog (Builtin.append_ #[25, 25] 25 #[.slice p17 l17 c17, .slice p55 l55 c55]) w4 (.slice p56 l56 c56) w5 ∧
    goesOn [] [] I1 μ1 us1 [.slice p2_1 l2_1 c2_1, .int .i64 n3_1, .bool b5_1, .slice p12_1 l12_1 c12_1, .int .i64 n13_1, .slice p16 l16 c16, .slice p56 l56 c56, .int .i64 (IntKind.i64.wrap (n18 + 1))] wl1 w5)
  (ref15_onto_j1 n3_1 b5_1 p12_1 l12_1 c12_1 n13_1 p17 l17 c17 wl1 Q)
def ref15_onto (p0 : Option Addr) (l0 : Nat) (c0 : Nat) (p1 : Option Addr) (l1 : Nat) (c1 : Nat) (p2 : Option Addr) (l2 : Nat) (c2 : Nat) (n3 : Int) (n4 : Int) (b5 : Bool) (w : World) (Q : Value → World → Prop) : Prop :=
  callF Tryz.prog 332 #[.slice p1 l1 c1, .int .i64 n3, .int .i64 n4] w fun r23 w1 =>
  ∃ p23 l23 c23 n23, r23 = .tuple #[.slice p23 l23 c23, .int .i64 n23] ∧
  cond (n23 != 0)
  (Q (.tuple #[.slice none 0 0, .int .i64 11]) w1)
  (cond (((l2 : Nat) : Int) != ((l1 : Nat) : Int))
    (Q (.tuple #[.slice none 0 0, .int .i64 11]) w1)
    (ref15_onto_j2 p0 l0 c0 p2 l2 c2 n3 b5 none 0 0 0 p23 l23 c23 w1 Q))
def ref15_onto_tt : Nat → List (Nat × TypeId) := fun n => match n with | 0 => [(2, 25), (3, 3), (5, 4), (12, 25), (13, 33), (16, 25), (17, 25), (18, 3)] | _ => []
theorem ref15_onto_call (p0 : Option Addr) (l0 : Nat) (c0 : Nat) (p1 : Option Addr) (l1 : Nat) (c1 : Nat) (p2 : Option Addr) (l2 : Nat) (c2 : Nat) (n3 : Int) (n4 : Int) (b5 : Bool) (w : World) (Q : Value → World → Prop) (h : ref15_onto p0 l0 c0 p1 l1 c1 p2 l2 c2 n3 n4 b5 w Q) : callF Tryz.prog 322 #[.slice p0 l0 c0, .slice p1 l1 c1, .slice p2 l2 c2, .int .i64 n3, .int .i64 n4, .bool b5] w Q :=
  callBy ref15_onto_tt Tryz.func322 h (fun _ _ => by kernel_rfl) (by kernel_rfl) (by kernel_rfl) (by kernel_rfl)
end Go.Sh
end

section
namespace Go.Sh
open Go Go.Fw Go.Proofs
set_option maxRecDepth 100000
set_option linter.unusedVariables false
def law16_Of (cs0 : Array Value) (w : World) (Q : Value → World → Prop) : Prop :=
  New cs0 24 w fun k1 w1 =>
  ∃ z2, Pu Tryz.prog (zeroValue 39) z2 ∧
  New z2.cells 39 w1 fun k2 w2 =>
  ∃ n4, Ld Tryz.prog 3 (.pointer (some ((⟨k1, 0, none⟩ : Addr).add 0))) w2 (.int .i64 n4) ∧
  ∃ n6, Ld Tryz.prog 3 (.pointer (some ((⟨k1, 0, none⟩ : Addr).add 1))) w2 (.int .i64 n6) ∧
  ∃ n8, Ld Tryz.prog 3 (.pointer (some ((⟨k1, 0, none⟩ : Addr).add 2))) w2 (.int .i64 n8) ∧
  ∃ (cs10 : Array Value), Ld Tryz.prog 22 (.pointer (some ((⟨k1, 0, none⟩ : Addr).add 3))) w2 (.agg cs10) ∧
  ∃ (cs11 : Array Value), Pu Tryz.prog (Instr.build 39 #[(0, .int .i64 n4), (1, .int .i64 n6), (2, .int .i64 n8), (3, .agg cs10)]) (.agg cs11) ∧
  ∃ w3, Sto Tryz.prog 39 (.pointer (some (⟨k2, 0, none⟩ : Addr))) (.agg cs11) w2 w3 ∧
  ∃ a2 v2, (.pointer (some (⟨k2, 0, none⟩ : Addr)) : Value) = .pointer (some a2) ∧ (loadVar 39 a2).run Tryz.prog w3 = .ok v2 w3 ∧
  Q (v2) w3
def law16_Of_tt : Nat → List (Nat × TypeId) := fun _ => []
theorem law16_Of_call (cs0 : Array Value) (w : World) (Q : Value → World → Prop) (h : law16_Of cs0 w Q) : callF Tryz.prog 28 #[.agg cs0] w Q :=
  callBy law16_Of_tt Tryz.func28 h (fun _ _ => by kernel_rfl) (by kernel_rfl) (by kernel_rfl) (by kernel_rfl)
end Go.Sh
end
