/- A part of a proof of a given law of this program: lemmas, printed forms of its functions, contracts. It has no conditions of its own. -/
import Derived.Test.YtlphgbgfnjhhcaaFw3
import Derived.Test.YtlphgbgfnjhhcaaProg
namespace Go.Sh
open Go Go.Fw Go.Proofs
set_option maxRecDepth 100000
set_option linter.unusedVariables false

/-! ### crossway/crosswayref02.Mul: function 43 -/

def ref02_Mul_j1 (n4 : Int) (n5 : Int) (w : World) (Q : Value → World → Prop) : Prop :=
  LoopS [.int .u8 n4, .int .i64 n5, .int .i64 14] w fun I2 μ2 us2 _ wl2 =>
  ∃ (n4_1 : Int) (n5_1 : Int) (n7 : Int), us2 = [.int .u8 n4_1, .int .i64 n5_1, .int .i64 n7] ∧
  cond (decide (n7 ≥ 8))
  (∃ (n35 : Int), Pu Try.prog (do eqGuard .shl 3 (.const (.int .i64 1)) (.tmp 34) (.int .i64 1) (.int .u64 (IntKind.u64.wrap n7)); binOp .shl 3 (.int .i64 1) (.int .u64 (IntKind.u64.wrap n7)) : Sem Value) (.int .i64 n35) ∧
    ∃ (n36 : Int), Pu Try.prog (do eqGuard .quo 3 (.tmp 32) (.tmp 35) (.int .i64 n5_1) (.int .i64 n35); binOp .quo 3 (.int .i64 n5_1) (.int .i64 n35) : Sem Value) (.int .i64 n36) ∧
    cond ((Int.tmod n36 2) == 1)
    (∃ (n43 : Int), Pu Try.prog (do eqGuard .shl 3 (.const (.int .i64 1)) (.tmp 42) (.int .i64 1) (.int .u64 (IntKind.u64.wrap (IntKind.i64.wrap (n7 - 8)))); binOp .shl 3 (.int .i64 1) (.int .u64 (IntKind.u64.wrap (IntKind.i64.wrap (n7 - 8)))) : Sem Value) (.int .i64 n43) ∧
      goesOn [] [] I2 μ2 us2 [.int .u8 n4_1, .int .i64 (ixor .i64 n5_1 (IntKind.i64.wrap (283 * n43))), .int .i64 (IntKind.i64.wrap (n7 - 1))] wl2 wl2)
    (goesOn [] [] I2 μ2 us2 [.int .u8 n4_1, .int .i64 n5_1, .int .i64 (IntKind.i64.wrap (n7 - 1))] wl2 wl2))
  (Q (.int .u8 (IntKind.u8.wrap n5_1)) wl2)

def ref02_Mul (n0 : Int) (n1 : Int) (w : World) (Q : Value → World → Prop) : Prop :=
  LoopS [.int .u8 n0, .int .u8 n1, .int .u8 0, .int .i64 0, .int .i64 0] w fun I1 μ1 us1 _ wl1 =>
  ∃ (n0_1 : Int) (n1_1 : Int) (n4 : Int) (n5 : Int) (n6 : Int), us1 = [.int .u8 n0_1, .int .u8 n1_1, .int .u8 n4, .int .i64 n5, .int .i64 n6] ∧
  cond (decide (n6 < 8))
  (∃ (n16 : Int), Pu Try.prog (do eqGuard .shl 3 (.const (.int .i64 1)) (.tmp 15) (.int .i64 1) (.int .u64 (IntKind.u64.wrap n6)); binOp .shl 3 (.int .i64 1) (.int .u64 (IntKind.u64.wrap n6)) : Sem Value) (.int .i64 n16) ∧
    ∃ (n17 : Int), Pu Try.prog (do eqGuard .quo 3 (.tmp 13) (.tmp 16) (.int .i64 (IntKind.i64.wrap n1_1)) (.int .i64 n16); binOp .quo 3 (.int .i64 (IntKind.i64.wrap n1_1)) (.int .i64 n16) : Sem Value) (.int .i64 n17) ∧
    cond ((Int.tmod n17 2) == 1)
    (∃ (n25 : Int), Pu Try.prog (do eqGuard .shl 3 (.const (.int .i64 1)) (.tmp 24) (.int .i64 1) (.int .u64 (IntKind.u64.wrap n6)); binOp .shl 3 (.int .i64 1) (.int .u64 (IntKind.u64.wrap n6)) : Sem Value) (.int .i64 n25) ∧
      goesOn [] [] I1 μ1 us1 [.int .u8 n0_1, .int .u8 n1_1, .int .u8 n4, .int .i64 (ixor .i64 n5 (IntKind.i64.wrap ((IntKind.i64.wrap n0_1) * n25))), .int .i64 (IntKind.i64.wrap (n6 + 1))] wl1 wl1)
    (goesOn [] [] I1 μ1 us1 [.int .u8 n0_1, .int .u8 n1_1, .int .u8 n4, .int .i64 n5, .int .i64 (IntKind.i64.wrap (n6 + 1))] wl1 wl1))
  (ref02_Mul_j1 n4 n5 wl1 Q)

def ref02_Mul_tt : Nat → List (Nat × TypeId) := fun n => match n with | 0 => [(0, 5), (1, 5), (4, 5), (5, 3), (6, 3)] | 2 => [(4, 5), (5, 3), (7, 3)] | _ => []

theorem ref02_Mul_call (n0 : Int) (n1 : Int) (w : World) (Q : Value → World → Prop) (h : ref02_Mul n0 n1 w Q) : callF Try.prog 43 #[.int .u8 n0, .int .u8 n1] w Q :=
  callF_of (fun _ _ => by kernel_rfl) (callK_of_sw ref02_Mul_tt Try.func43 rfl (by kernel_rfl) (show sw Try.prog none 48 ref02_Mul_tt _ 0 (endK Try.prog [.tmp 4] Q) ⟨regs [.int .u8 n0, .int .u8 n1], []⟩ w from
    Eq.mp (by kernel_rfl : ref02_Mul n0 n1 w Q = sw Try.prog none 48 ref02_Mul_tt (Try.f43.body.getD .skip) 0 (endK Try.prog [.tmp 4] Q) ⟨regs [.int .u8 n0, .int .u8 n1], []⟩ w) h))


/-! ### crossway/crosswayref02.Inv: function 45 -/

def ref02_Inv (n0 : Int) (w : World) (Q : Value → World → Prop) : Prop :=
  LoopS [.int .u8 n0, .int .u8 0, .int .i64 0] w fun I1 μ1 us1 _ wl1 =>
  ∃ (n0_1 : Int) (n2 : Int) (n3 : Int), us1 = [.int .u8 n0_1, .int .u8 n2, .int .i64 n3] ∧
  cond (decide (n3 < 256))
  (callF Try.prog 43 #[.int .u8 n0_1, .int .u8 (IntKind.u8.wrap n3)] wl1 fun r11 w1 =>
    ∃ (n11 : Int), r11 = .int .u8 n11 ∧
    cond (n11 == 1)
    (Q (.int .u8 (IntKind.u8.wrap n3)) w1)
    (goesOn [] [] I1 μ1 us1 [.int .u8 n0_1, .int .u8 n2, .int .i64 (IntKind.i64.wrap (n3 + 1))] wl1 w1))
  (Q (.int .u8 0) wl1)

def ref02_Inv_tt : Nat → List (Nat × TypeId) := fun n => match n with | 0 => [(0, 5), (2, 5), (3, 3)] | _ => []

theorem ref02_Inv_call (n0 : Int) (w : World) (Q : Value → World → Prop) (h : ref02_Inv n0 w Q) : callF Try.prog 45 #[.int .u8 n0] w Q :=
  callF_of (fun _ _ => by kernel_rfl) (callK_of_sw ref02_Inv_tt Try.func45 rfl (by kernel_rfl) (show sw Try.prog none 15 ref02_Inv_tt _ 0 (endK Try.prog [.tmp 2] Q) ⟨regs [.int .u8 n0], []⟩ w from
    Eq.mp (by kernel_rfl : ref02_Inv n0 w Q = sw Try.prog none 15 ref02_Inv_tt (Try.f45.body.getD .skip) 0 (endK Try.prog [.tmp 2] Q) ⟨regs [.int .u8 n0], []⟩ w) h))


/-! ### crossway/crosswayref02.Pow: function 47 -/

def ref02_Pow (n0 : Int) (n1 : Int) (w : World) (Q : Value → World → Prop) : Prop :=
  cond (n1 == 0)
  (Q (.int .u8 1) w)
  (cond (n0 == 0)
    (Q (.int .u8 0) w)
    (LoopS [.int .u8 n0, .int .u64 n1, .int .u8 0, .int .u8 1, .int .u64 0] w fun I1 μ1 us1 _ wl1 =>
      ∃ (n0_1 : Int) (n1_1 : Int) (n4 : Int) (n5 : Int) (n6 : Int), us1 = [.int .u8 n0_1, .int .u64 n1_1, .int .u8 n4, .int .u8 n5, .int .u64 n6] ∧
      cond (decide (n6 < (Int.tmod n1_1 255)))
      (callF Try.prog 43 #[.int .u8 n5, .int .u8 n0_1] wl1 fun r19 w1 =>
        ∃ (n19 : Int), r19 = .int .u8 n19 ∧
        goesOn [] [] I1 μ1 us1 [.int .u8 n0_1, .int .u64 n1_1, .int .u8 n4, .int .u8 n19, .int .u64 (IntKind.u64.wrap (n6 + 1))] wl1 w1)
      (Q (.int .u8 n5) wl1)))

def ref02_Pow_tt : Nat → List (Nat × TypeId) := fun n => match n with | 0 => [(0, 5), (1, 45), (4, 5), (5, 5), (6, 45)] | _ => []

theorem ref02_Pow_call (n0 : Int) (n1 : Int) (w : World) (Q : Value → World → Prop) (h : ref02_Pow n0 n1 w Q) : callF Try.prog 47 #[.int .u8 n0, .int .u64 n1] w Q :=
  callF_of (fun _ _ => by kernel_rfl) (callK_of_sw ref02_Pow_tt Try.func47 rfl (by kernel_rfl) (show sw Try.prog none 21 ref02_Pow_tt _ 0 (endK Try.prog [.tmp 4] Q) ⟨regs [.int .u8 n0, .int .u64 n1], []⟩ w from
    Eq.mp (by kernel_rfl : ref02_Pow n0 n1 w Q = sw Try.prog none 21 ref02_Pow_tt (Try.f47.body.getD .skip) 0 (endK Try.prog [.tmp 4] Q) ⟨regs [.int .u8 n0, .int .u64 n1], []⟩ w) h))


/-! ### crossway/crosswayref02.Sub: function 51 -/

def ref02_Sub (n0 : Int) (w : World) (Q : Value → World → Prop) : Prop :=
  callF Try.prog 45 #[.int .u8 n0] w fun r4 w1 =>
  ∃ (n4 : Int), r4 = .int .u8 n4 ∧
  callF Try.prog 109 #[.int .u8 n4] w1 fun r5 w2 =>
  ∃ (n5 : Int), r5 = .int .u8 n5 ∧
  Q (.int .u8 n5) w2

def ref02_Sub_tt : Nat → List (Nat × TypeId) := fun _ => []

theorem ref02_Sub_call (n0 : Int) (w : World) (Q : Value → World → Prop) (h : ref02_Sub n0 w Q) : callF Try.prog 51 #[.int .u8 n0] w Q :=
  callF_of (fun _ _ => by kernel_rfl) (callK_of_sw ref02_Sub_tt Try.func51 rfl (by kernel_rfl) (show sw Try.prog none 6 ref02_Sub_tt _ 0 (endK Try.prog [.tmp 2] Q) ⟨regs [.int .u8 n0], []⟩ w from
    Eq.mp (by kernel_rfl : ref02_Sub n0 w Q = sw Try.prog none 6 ref02_Sub_tt (Try.f51.body.getD .skip) 0 (endK Try.prog [.tmp 2] Q) ⟨regs [.int .u8 n0], []⟩ w) h))


/-! ### crossway/crosswayref02.Unsub: function 53 -/

def ref02_Unsub (n0 : Int) (w : World) (Q : Value → World → Prop) : Prop :=
  LoopS [.int .u8 n0, .int .u8 0, .int .i64 0] w fun I1 μ1 us1 _ wl1 =>
  ∃ (n0_1 : Int) (n2 : Int) (n3 : Int), us1 = [.int .u8 n0_1, .int .u8 n2, .int .i64 n3] ∧
  cond (decide (n3 < 256))
  (callF Try.prog 51 #[.int .u8 (IntKind.u8.wrap n3)] wl1 fun r10 w1 =>
    ∃ (n10 : Int), r10 = .int .u8 n10 ∧
    cond (n10 == n0_1)
    (Q (.int .u8 (IntKind.u8.wrap n3)) w1)
    (goesOn [] [] I1 μ1 us1 [.int .u8 n0_1, .int .u8 n2, .int .i64 (IntKind.i64.wrap (n3 + 1))] wl1 w1))
  (Q (.int .u8 0) wl1)

def ref02_Unsub_tt : Nat → List (Nat × TypeId) := fun n => match n with | 0 => [(0, 5), (2, 5), (3, 3)] | _ => []

theorem ref02_Unsub_call (n0 : Int) (w : World) (Q : Value → World → Prop) (h : ref02_Unsub n0 w Q) : callF Try.prog 53 #[.int .u8 n0] w Q :=
  callF_of (fun _ _ => by kernel_rfl) (callK_of_sw ref02_Unsub_tt Try.func53 rfl (by kernel_rfl) (show sw Try.prog none 15 ref02_Unsub_tt _ 0 (endK Try.prog [.tmp 2] Q) ⟨regs [.int .u8 n0], []⟩ w from
    Eq.mp (by kernel_rfl : ref02_Unsub n0 w Q = sw Try.prog none 15 ref02_Unsub_tt (Try.f53.body.getD .skip) 0 (endK Try.prog [.tmp 2] Q) ⟨regs [.int .u8 n0], []⟩ w) h))


/-! ### crossway/crosswayref02.Sign: function 109 -/

def ref02_Sign_j1 (I1 : Inv) (μ1 : Meas) (us1 : List Value) (wl1 : World) (n2 : Int) (n3 : Int) (n4 : Int) (n5 : Int) (n6 : Int) (w : World) (Q : Value → World → Prop) : Prop :=
  ∃ (n47 : Int), Pu Try.prog (do eqGuard .shl 3 (.const (.int .i64 1)) (.tmp 46) (.int .i64 1) (.int .u64 (IntKind.u64.wrap n5)); binOp .shl 3 (.int .i64 1) (.int .u64 (IntKind.u64.wrap n5)) : Sem Value) (.int .i64 n47) ∧
  goesOn [] [] I1 μ1 us1 [.int .u8 n2, .int .i64 n3, .int .i64 (IntKind.i64.wrap (n4 + (IntKind.i64.wrap ((Int.tmod n6 2) * n47)))), .int .i64 (IntKind.i64.wrap (n5 + 1))] wl1 w

def ref02_Sign (n0 : Int) (w : World) (Q : Value → World → Prop) : Prop :=
  LoopS [.int .u8 0, .int .i64 (IntKind.i64.wrap n0), .int .i64 0, .int .i64 0] w fun I1 μ1 us1 _ wl1 =>
  ∃ (n2 : Int) (n3 : Int) (n4 : Int) (n5 : Int), us1 = [.int .u8 n2, .int .i64 n3, .int .i64 n4, .int .i64 n5] ∧
  cond (decide (n5 < 8))
  (∃ (n16 : Int), Pu Try.prog (do eqGuard .shl 3 (.const (.int .i64 1)) (.tmp 15) (.int .i64 1) (.int .u64 (IntKind.u64.wrap n5)); binOp .shl 3 (.int .i64 1) (.int .u64 (IntKind.u64.wrap n5)) : Sem Value) (.int .i64 n16) ∧
    ∃ (n17 : Int), Pu Try.prog (do eqGuard .quo 3 (.const (.int .i64 99)) (.tmp 16) (.int .i64 99) (.int .i64 n16); binOp .quo 3 (.int .i64 99) (.int .i64 n16) : Sem Value) (.int .i64 n17) ∧
    ∃ (n23 : Int), Pu Try.prog (do eqGuard .shl 3 (.const (.int .i64 1)) (.tmp 22) (.int .i64 1) (.int .u64 (IntKind.u64.wrap n5)); binOp .shl 3 (.int .i64 1) (.int .u64 (IntKind.u64.wrap n5)) : Sem Value) (.int .i64 n23) ∧
    ∃ (n24 : Int), Pu Try.prog (do eqGuard .quo 3 (.tmp 20) (.tmp 23) (.int .i64 n3) (.int .i64 n23); binOp .quo 3 (.int .i64 n3) (.int .i64 n23) : Sem Value) (.int .i64 n24) ∧
    LoopS [.int .u8 n2, .int .i64 n3, .int .i64 n4, .int .i64 n5, .int .i64 (IntKind.i64.wrap ((Int.tmod n17 2) + (Int.tmod n24 2))), .int .i64 4] wl1 fun I2 μ2 us2 _ wl2 =>
    ∃ (n2_1 : Int) (n3_1 : Int) (n4_1 : Int) (n5_1 : Int) (n6 : Int) (n7 : Int), us2 = [.int .u8 n2_1, .int .i64 n3_1, .int .i64 n4_1, .int .i64 n5_1, .int .i64 n6, .int .i64 n7] ∧
    cond (decide (n7 < 8))
    (∃ (n38 : Int), Pu Try.prog (do eqGuard .shl 3 (.const (.int .i64 1)) (.tmp 37) (.int .i64 1) (.int .u64 (IntKind.u64.wrap (Int.tmod (IntKind.i64.wrap (n5_1 + n7)) 8))); binOp .shl 3 (.int .i64 1) (.int .u64 (IntKind.u64.wrap (Int.tmod (IntKind.i64.wrap (n5_1 + n7)) 8))) : Sem Value) (.int .i64 n38) ∧
      ∃ (n39 : Int), Pu Try.prog (do eqGuard .quo 3 (.tmp 32) (.tmp 38) (.int .i64 n3_1) (.int .i64 n38); binOp .quo 3 (.int .i64 n3_1) (.int .i64 n38) : Sem Value) (.int .i64 n39) ∧
      goesOn [] [] I2 μ2 us2 [.int .u8 n2_1, .int .i64 n3_1, .int .i64 n4_1, .int .i64 n5_1, .int .i64 (IntKind.i64.wrap (n6 + (Int.tmod n39 2))), .int .i64 (IntKind.i64.wrap (n7 + 1))] wl2 wl2)
    (ref02_Sign_j1 I1 μ1 us1 wl1 n2_1 n3_1 n4_1 n5_1 n6 wl2 Q))
  (Q (.int .u8 (IntKind.u8.wrap n4)) wl1)

def ref02_Sign_tt : Nat → List (Nat × TypeId) := fun n => match n with | 0 => [(2, 5), (3, 3), (4, 3), (5, 3)] | 2 => [(2, 5), (3, 3), (4, 3), (5, 3), (6, 3), (7, 3)] | _ => []

theorem ref02_Sign_call (n0 : Int) (w : World) (Q : Value → World → Prop) (h : ref02_Sign n0 w Q) : callF Try.prog 109 #[.int .u8 n0] w Q :=
  callF_of (fun _ _ => by kernel_rfl) (callK_of_sw ref02_Sign_tt Try.func109 rfl (by kernel_rfl) (show sw Try.prog none 52 ref02_Sign_tt _ 0 (endK Try.prog [.tmp 2] Q) ⟨regs [.int .u8 n0], []⟩ w from
    Eq.mp (by kernel_rfl : ref02_Sign n0 w Q = sw Try.prog none 52 ref02_Sign_tt (Try.f109.body.getD .skip) 0 (endK Try.prog [.tmp 2] Q) ⟨regs [.int .u8 n0], []⟩ w) h))

end Go.Sh
