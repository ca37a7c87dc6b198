/- A part of a proof of a given law of this program: lemmas, printed forms of its functions, contracts. It has no conditions of its own. -/
import Derived.Test.YtcfealonnakdcaaGreatProg
import Derived.Test.YtcfealonnakdcaaGreatMFw

section
namespace Go.Sh
open Go Go.Fw Go.Proofs
set_option maxRecDepth 100000
set_option linter.unusedVariables false
def ref01_Unhex_j1 (I1 : Inv) (μ1 : Meas) (us1 : List Value) (wl1 : World) (s0 : ByteArray) (p2 : Option Addr) (l2 : Nat) (c2 : Nat) (n3 : Int) (p4 : Option Addr) (l4 : Nat) (c4 : Nat) (n5 : Int) (n6 : Int) (n7 : Int) (w : World) (Q : Value → World → Prop) : Prop :=
  ∃ p40 l40 c40 w1, Ef Tryz.prog (Instr.buildSlice 25 1 #[(0, .int .u8 (IntKind.u8.wrap (IntKind.i64.wrap ((IntKind.i64.wrap (16 * n6)) + n7))))]) w (.slice p40 l40 c40) w1 ∧
  ∃ p41 l41 c41 w2, Ef Tryz.prog (Builtin.append_ #[25, 25] 25 #[.slice p4 l4 c4, .slice p40 l40 c40]) w1 (.slice p41 l41 c41) w2 ∧
  goesOn [] [] I1 μ1 us1 [.string s0, .slice p2 l2 c2, .int .i64 n3, .slice p41 l41 c41, .int .i64 (IntKind.i64.wrap (n5 + 2))] wl1 w2
def ref01_Unhex (s0 : ByteArray) (w : World) (Q : Value → World → Prop) : Prop :=
  cond ((Int.tmod ((s0.size : Nat) : Int) 2) == 1)
  (Q (.tuple #[.slice none 0 0, .int .i64 10]) w)
  (∃ p12 l12 c12 w1, Ef Tryz.prog (Instr.buildSlice 25 0 #[]) w (.slice p12 l12 c12) w1 ∧
    LoopS [.string s0, .slice none 0 0, .int .i64 0, .slice p12 l12 c12, .int .i64 0] w1 fun I1 μ1 us1 _ wl1 =>
    ∃ s0_1 p2 l2 c2 n3 p4 l4 c4 n5, us1 = [.string s0_1, .slice p2 l2 c2, .int .i64 n3, .slice p4 l4 c4, .int .i64 n5] ∧
    cond (decide (n5 < ((s0_1.size : Nat) : Int)))
    (∃ n21, Pu Tryz.prog (Instr.index 9 (.string s0_1) (.int .i64 n5)) (.int .u8 n21) ∧
      callF Tryz.prog 189 #[.int .u8 n21] wl1 fun r22 w2 =>
      ∃ n22, r22 = .int .i64 n22 ∧
      ∃ n26, Pu Tryz.prog (Instr.index 9 (.string s0_1) (.int .i64 (IntKind.i64.wrap (n5 + 1)))) (.int .u8 n26) ∧
      callF Tryz.prog 189 #[.int .u8 n26] w2 fun r27 w3 =>
      ∃ n27, r27 = .int .i64 n27 ∧
      cond (decide (n22 < 0))
      (Q (.tuple #[.slice none 0 0, .int .i64 10]) w3)
      (cond (decide (n27 < 0))
        (Q (.tuple #[.slice none 0 0, .int .i64 10]) w3)
        (ref01_Unhex_j1 I1 μ1 us1 wl1 s0_1 p2 l2 c2 n3 p4 l4 c4 n5 n22 n27 w3 Q)))
    (Q (.tuple #[.slice p4 l4 c4, .int .i64 0]) wl1))
def ref01_Unhex_tt : Nat → List (Nat × TypeId) := fun n => match n with | 0 => [(0, 9), (2, 25), (3, 33), (4, 25), (5, 3)] | _ => []
theorem ref01_Unhex_call (s0 : ByteArray) (w : World) (Q : Value → World → Prop) (h : ref01_Unhex s0 w Q) : callF Tryz.prog 116 #[.string s0] w Q :=
  callBy ref01_Unhex_tt Tryz.func116 h (fun _ _ => by kernel_rfl) (by kernel_rfl) (by kernel_rfl) (by kernel_rfl)
def ref01_digit (n0 : Int) (w : World) (Q : Value → World → Prop) : Prop :=
  LoopS [.int .u8 n0, .int .i64 0, .int .i64 0] w fun I1 μ1 us1 _ wl1 =>
  ∃ n0_1 n2 n3, us1 = [.int .u8 n0_1, .int .i64 n2, .int .i64 n3] ∧
  cond (decide (n3 < 16))
  (∃ n9, Pu Tryz.prog (Instr.index 9 (.string (⟨#[48, 49, 50, 51, 52, 53, 54, 55, 56, 57, 97, 98, 99, 100, 101, 102]⟩ : ByteArray)) (.int .i64 n3)) (.int .u8 n9) ∧
    cond (n9 == n0_1)
    (Q (.int .i64 n3) wl1)
    (goesOn [] [] I1 μ1 us1 [.int .u8 n0_1, .int .i64 n2, .int .i64 (IntKind.i64.wrap (n3 + 1))] wl1 wl1))
  (Q (.int .i64 (-1)) wl1)
def ref01_digit_tt : Nat → List (Nat × TypeId) := fun n => match n with | 0 => [(0, 5), (2, 3), (3, 3)] | _ => []
theorem ref01_digit_call (n0 : Int) (w : World) (Q : Value → World → Prop) (h : ref01_digit n0 w Q) : callF Tryz.prog 189 #[.int .u8 n0] w Q :=
  callBy ref01_digit_tt Tryz.func189 h (fun _ _ => by kernel_rfl) (by kernel_rfl) (by kernel_rfl) (by kernel_rfl)
end Go.Sh
end
