/- A part of a proof of a given law of this program: lemmas, printed forms of its functions, contracts. It has no conditions of its own. -/
import Derived.Test.YtlphgbgfnjhhcaaFw3
import Derived.Test.YtlphgbgfnjhhcaaProg
namespace Go.Sh
open Go Go.Fw Go.Proofs
set_option maxRecDepth 100000
set_option linter.unusedVariables false

/-! ### crossway/field.Mul: function 42 -/

def field_Mul (n0 : Int) (n1 : Int) (w : World) (Q : Value → World → Prop) : Prop :=
  LoopS [.int .u8 n0, .int .u8 n1, .int .u8 0, .int .u8 0] w fun I1 μ1 us1 _ wl1 =>
  ∃ (n0_1 : Int) (n1_1 : Int) (n4 : Int) (n5 : Int), us1 = [.int .u8 n0_1, .int .u8 n1_1, .int .u8 n4, .int .u8 n5] ∧
  cond (n1_1 != 0)
  (cond ((iand .u8 n1_1 1) != 0)
    (callF Try.prog 106 #[.int .u8 n0_1] wl1 fun r17 w1 =>
      ∃ (n17 : Int), r17 = .int .u8 n17 ∧
      goesOn [] [] I1 μ1 us1 [.int .u8 n17, .int .u8 (Int.fdiv n1_1 (2 ^ 1)), .int .u8 n4, .int .u8 (ixor .u8 n5 n0_1)] wl1 w1)
    (callF Try.prog 106 #[.int .u8 n0_1] wl1 fun r17_1 w2 =>
      ∃ (n17_1 : Int), r17_1 = .int .u8 n17_1 ∧
      goesOn [] [] I1 μ1 us1 [.int .u8 n17_1, .int .u8 (Int.fdiv n1_1 (2 ^ 1)), .int .u8 n4, .int .u8 n5] wl1 w2))
  (Q (.int .u8 n5) wl1)

def field_Mul_tt : Nat → List (Nat × TypeId) := fun n => match n with | 0 => [(0, 5), (1, 5), (4, 5), (5, 5)] | _ => []

theorem field_Mul_call (n0 : Int) (n1 : Int) (w : World) (Q : Value → World → Prop) (h : field_Mul n0 n1 w Q) : callF Try.prog 42 #[.int .u8 n0, .int .u8 n1] w Q :=
  callF_of (fun _ _ => by kernel_rfl) (callK_of_sw field_Mul_tt Try.func42 rfl (by kernel_rfl) (show sw Try.prog none 19 field_Mul_tt _ 0 (endK Try.prog [.tmp 4] Q) ⟨regs [.int .u8 n0, .int .u8 n1], []⟩ w from
    Eq.mp (by kernel_rfl : field_Mul n0 n1 w Q = sw Try.prog none 19 field_Mul_tt (Try.f42.body.getD .skip) 0 (endK Try.prog [.tmp 4] Q) ⟨regs [.int .u8 n0, .int .u8 n1], []⟩ w) h))


/-! ### crossway/field.Inv: function 44 -/

def field_Inv (n0 : Int) (w : World) (Q : Value → World → Prop) : Prop :=
  callF Try.prog 46 #[.int .u8 n0, .int .u64 254] w fun r4 w1 =>
  ∃ (n4 : Int), r4 = .int .u8 n4 ∧
  Q (.int .u8 n4) w1

def field_Inv_tt : Nat → List (Nat × TypeId) := fun _ => []

theorem field_Inv_call (n0 : Int) (w : World) (Q : Value → World → Prop) (h : field_Inv n0 w Q) : callF Try.prog 44 #[.int .u8 n0] w Q :=
  callF_of (fun _ _ => by kernel_rfl) (callK_of_sw field_Inv_tt Try.func44 rfl (by kernel_rfl) (show sw Try.prog none 5 field_Inv_tt _ 0 (endK Try.prog [.tmp 2] Q) ⟨regs [.int .u8 n0], []⟩ w from
    Eq.mp (by kernel_rfl : field_Inv n0 w Q = sw Try.prog none 5 field_Inv_tt (Try.f44.body.getD .skip) 0 (endK Try.prog [.tmp 2] Q) ⟨regs [.int .u8 n0], []⟩ w) h))


/-! ### crossway/field.Pow: function 46 -/

def field_Pow (n0 : Int) (n1 : Int) (w : World) (Q : Value → World → Prop) : Prop :=
  LoopS [.int .u8 n0, .int .u64 n1, .int .u8 0, .int .u8 1] w fun I1 μ1 us1 _ wl1 =>
  ∃ (n0_1 : Int) (n1_1 : Int) (n4 : Int) (n5 : Int), us1 = [.int .u8 n0_1, .int .u64 n1_1, .int .u8 n4, .int .u8 n5] ∧
  cond (n1_1 != 0)
  (cond ((iand .u64 n1_1 1) != 0)
    (callF Try.prog 42 #[.int .u8 n5, .int .u8 n0_1] wl1 fun r15 w1 =>
      ∃ (n15 : Int), r15 = .int .u8 n15 ∧
      callF Try.prog 42 #[.int .u8 n0_1, .int .u8 n0_1] w1 fun r18 w2 =>
      ∃ (n18 : Int), r18 = .int .u8 n18 ∧
      goesOn [] [] I1 μ1 us1 [.int .u8 n18, .int .u64 (Int.fdiv n1_1 (2 ^ 1)), .int .u8 n4, .int .u8 n15] wl1 w2)
    (callF Try.prog 42 #[.int .u8 n0_1, .int .u8 n0_1] wl1 fun r18_1 w3 =>
      ∃ (n18_1 : Int), r18_1 = .int .u8 n18_1 ∧
      goesOn [] [] I1 μ1 us1 [.int .u8 n18_1, .int .u64 (Int.fdiv n1_1 (2 ^ 1)), .int .u8 n4, .int .u8 n5] wl1 w3))
  (Q (.int .u8 n5) wl1)

def field_Pow_tt : Nat → List (Nat × TypeId) := fun n => match n with | 0 => [(0, 5), (1, 45), (4, 5), (5, 5)] | _ => []

theorem field_Pow_call (n0 : Int) (n1 : Int) (w : World) (Q : Value → World → Prop) (h : field_Pow n0 n1 w Q) : callF Try.prog 46 #[.int .u8 n0, .int .u64 n1] w Q :=
  callF_of (fun _ _ => by kernel_rfl) (callK_of_sw field_Pow_tt Try.func46 rfl (by kernel_rfl) (show sw Try.prog none 20 field_Pow_tt _ 0 (endK Try.prog [.tmp 4] Q) ⟨regs [.int .u8 n0, .int .u64 n1], []⟩ w from
    Eq.mp (by kernel_rfl : field_Pow n0 n1 w Q = sw Try.prog none 20 field_Pow_tt (Try.f46.body.getD .skip) 0 (endK Try.prog [.tmp 4] Q) ⟨regs [.int .u8 n0, .int .u64 n1], []⟩ w) h))


/-! ### crossway/field.New: function 48 -/

def field_New (p0 : Option Addr) (l0 : Nat) (c0 : Nat) (w : World) (Q : Value → World → Prop) : Prop :=
  callF Try.prog 107 #[.slice p0 l0 c0] w fun r4 w1 =>
  ∃ (p4 : Option Addr) (l4 : Nat) (c4 : Nat), r4 = .slice p4 l4 c4 ∧
  New #[.slice p4 l4 c4, .int .u32 0, .int .i32 0, .int .u32 0, .int .i64 0, .int .u8 0, .int .u8 0, .int .u8 0, .int .u8 0, .int .u8 0, .int .u8 0, .int .u8 0, .int .u8 0, .int .u8 0, .int .u8 0, .int .u8 0, .int .u8 0, .int .u8 0, .int .u8 0, .int .u8 0, .int .u8 0, .int .u8 0, .int .u8 0, .int .u8 0, .int .u8 0, .int .u8 0, .int .u8 0, .int .u8 0, .int .u8 0, .int .u8 0, .int .u8 0, .int .u8 0, .int .u8 0, .int .u8 0, .int .u8 0, .int .u8 0, .int .u8 0, .int .u8 0, .int .u8 0, .int .u8 0, .int .u8 0, .int .u8 0, .int .u8 0, .int .u8 0, .int .u8 0, .int .u8 0, .int .u8 0, .int .u8 0, .int .u8 0, .int .u8 0, .int .u8 0, .int .u8 0, .int .u8 0, .int .u8 0, .int .u8 0, .int .u8 0, .int .u8 0, .int .u8 0, .int .u8 0, .int .u8 0, .int .u8 0, .int .u8 0, .int .u8 0, .int .u8 0, .int .u8 0, .int .u8 0, .int .u8 0, .int .u8 0, .int .u8 0, .int .u8 0, .int .u8 0, .int .u8 0, .int .u8 0, .int .u8 0, .int .u8 0, .int .u8 0, .int .u8 0, .int .u8 0, .int .u8 0, .int .u8 0, .int .u8 0, .int .u8 0, .int .u8 0, .int .u8 0, .int .u8 0, .int .u8 0, .int .u8 0, .int .u8 0, .int .u8 0, .int .u8 0, .int .u8 0, .int .u8 0, .int .u8 0, .int .u8 0, .int .u8 0, .int .u8 0, .int .u8 0, .int .u8 0, .int .u8 0, .int .u8 0, .int .u8 0, .int .u8 0, .int .u8 0, .int .u8 0, .int .u8 0, .int .u8 0, .int .u8 0, .int .u8 0, .int .u8 0, .int .u8 0, .int .u8 0, .int .u8 0, .int .u8 0, .int .u8 0, .int .u8 0, .int .u8 0, .int .u8 0, .int .u8 0, .int .u8 0, .int .u8 0, .int .u8 0, .int .u8 0, .int .u8 0, .int .u8 0, .int .u8 0, .int .u8 0, .int .u8 0, .int .u8 0, .int .u8 0, .int .u8 0, .int .u8 0, .int .u8 0, .int .u8 0, .int .u8 0, .int .u8 0, .int .u8 0, .int .u8 0, .int .u8 0, .int .u8 0, .int .u8 0, .int .u8 0, .int .u8 0, .int .u8 0, .int .u8 0, .int .u8 0, .int .u8 0, .int .u8 0, .int .u8 0, .int .u8 0, .int .u8 0, .int .u8 0, .int .u8 0, .int .u8 0, .int .u8 0, .int .u8 0, .int .u8 0, .int .u8 0, .int .u8 0, .int .u8 0, .int .u8 0, .int .u8 0, .int .u8 0, .int .u8 0, .int .u8 0, .int .u8 0, .int .u8 0, .int .u8 0, .int .u8 0, .int .u8 0, .int .u8 0, .int .u8 0, .int .u8 0, .int .u8 0, .int .u8 0, .int .u8 0, .int .u8 0, .int .u8 0, .int .u8 0, .int .u8 0, .int .u8 0, .int .u8 0, .int .u8 0, .int .u8 0, .int .u8 0, .int .u8 0, .int .u8 0, .int .u8 0, .int .u8 0, .int .u8 0, .int .u8 0, .int .u8 0, .int .u8 0, .int .u8 0, .int .u8 0, .int .u8 0, .int .u8 0, .int .u8 0, .int .u8 0, .int .u8 0, .int .u8 0, .int .u8 0, .int .u8 0, .int .u8 0, .int .u8 0, .int .u8 0, .int .u8 0, .int .u8 0, .int .u8 0, .int .u8 0, .int .u8 0, .int .u8 0, .int .u8 0, .int .u8 0, .int .u8 0, .int .u8 0, .int .u8 0, .int .u8 0, .int .u8 0, .int .u8 0, .int .u8 0, .int .u8 0, .int .u8 0, .int .u8 0, .int .u8 0, .int .u8 0, .int .u8 0, .int .u8 0, .int .u8 0, .int .u8 0, .int .u8 0, .int .u8 0, .int .u8 0, .int .u8 0, .int .u8 0, .int .u8 0, .int .u8 0, .int .u8 0, .int .u8 0, .int .u8 0, .int .u8 0, .int .u8 0, .int .u8 0, .int .u8 0, .int .u8 0, .int .u8 0, .int .u8 0, .int .u8 0, .int .u8 0, .int .u8 0, .int .u8 0, .int .u8 0, .int .u8 0, .int .u8 0, .int .u8 0, .int .u8 0, .int .u8 0, .int .u8 0, .int .u8 0, .int .u8 0, .int .u8 0, .int .u8 0, .int .u8 0, .int .u8 0, .int .u8 0, .int .u8 0, .int .u8 0, .int .u8 0, .int .u8 0, .int .u8 0, .int .u8 0, .int .u8 0, .int .u8 0, .int .u8 0, .int .u8 0, .int .u8 0, .int .u8 0, .int .u8 0, .int .u8 0, .int .u8 0, .int .u8 0, .int .u8 0, .int .u8 0, .int .u8 0, .int .u8 0, .int .u8 0, .int .u8 0, .int .u8 0, .int .u8 0, .int .u8 0, .int .u8 0, .int .u8 0, .int .u8 0, .int .u8 0, .int .u8 0, .int .u8 0, .int .u8 0, .int .u8 0, .int .u8 0, .int .u8 0, .int .u8 0, .int .u8 0, .int .u8 0, .int .u8 0, .int .u8 0, .int .u8 0, .int .u8 0, .int .u8 0, .int .u8 0, .int .u8 0, .int .u8 0, .int .u8 0, .int .u8 0, .int .u8 0, .int .u8 0, .int .u8 0, .int .u8 0, .int .u8 0, .int .u8 0, .int .u8 0, .int .u8 0, .int .u8 0, .int .u8 0, .int .u8 0, .int .u8 0, .int .u8 0, .int .u8 0, .int .u8 0, .int .u8 0, .int .u8 0, .int .u8 0, .int .u8 0, .int .u8 0, .int .u8 0, .int .u8 0, .int .u8 0, .int .u8 0, .int .u8 0, .int .u8 0, .int .u8 0, .int .u8 0, .int .u8 0, .int .u8 0, .int .u8 0, .int .u8 0, .int .u8 0, .int .u8 0, .int .u8 0, .int .u8 0, .int .u8 0, .int .u8 0, .int .u8 0, .int .u8 0, .int .u8 0, .int .u8 0, .int .u8 0, .int .u8 0, .int .u8 0, .int .u8 0, .int .u8 0, .int .u8 0, .int .u8 0, .int .u8 0, .int .u8 0, .int .u8 0, .int .u8 0, .int .u8 0, .int .u8 0, .int .u8 0, .int .u8 0, .int .u8 0, .int .u8 0, .int .u8 0, .int .u8 0, .int .u8 0, .int .u8 0, .int .u8 0, .int .u8 0, .int .u8 0, .int .u8 0, .int .u8 0, .int .u8 0, .int .u8 0, .int .u8 0, .int .u8 0, .int .u8 0, .int .u8 0, .int .u8 0, .int .u8 0, .int .u8 0, .int .u8 0, .int .u8 0, .int .u8 0, .int .u8 0, .int .u8 0, .int .u8 0, .int .u8 0, .int .u8 0, .int .u8 0, .int .u8 0, .int .u8 0, .int .u8 0, .int .u8 0, .int .u8 0, .int .u8 0, .int .u8 0, .int .u8 0, .int .u8 0, .int .u8 0, .int .u8 0, .int .u8 0, .int .u8 0, .int .u8 0, .int .u8 0, .int .u8 0, .int .u8 0, .int .u8 0, .int .u8 0, .int .u8 0, .int .u8 0, .int .u8 0, .int .u8 0, .int .u8 0, .int .u8 0, .int .u8 0, .int .u8 0, .int .u8 0, .int .u8 0, .int .u8 0, .int .u8 0, .int .u8 0, .int .u8 0, .int .u8 0, .int .u8 0, .int .u8 0, .int .u8 0, .int .u8 0, .int .u8 0, .int .u8 0, .int .u8 0, .int .u8 0, .int .u8 0, .int .u8 0, .int .u8 0, .int .u8 0, .int .u8 0, .int .u8 0, .int .u8 0, .int .u8 0, .int .u8 0, .int .u8 0, .int .u8 0, .int .u8 0, .int .u8 0, .int .u8 0, .int .u8 0, .int .u8 0, .int .u8 0, .int .u8 0, .int .u8 0, .int .u8 0, .int .u8 0, .int .u8 0, .int .u8 0, .int .u8 0, .int .u8 0, .int .u8 0, .int .u8 0, .int .u8 0, .int .u8 0, .int .u8 0, .int .u8 0, .int .u8 0, .int .u8 0, .int .u8 0, .int .u8 0, .int .u8 0, .int .u8 0, .int .u8 0, .int .u8 0, .int .u8 0, .int .u8 0, .int .u8 0, .int .u8 0, .int .u8 0, .int .u8 0, .int .u8 0, .int .u8 0, .int .u8 0, .int .u8 0, .int .u8 0, .int .u8 0, .int .u8 0, .int .u8 0, .int .u8 0, .int .u8 0, .int .u8 0, .int .u8 0, .int .u8 0, .int .u8 0, .int .u8 0, .int .u8 0, .int .u8 0, .int .u8 0, .int .u8 0, .int .u8 0, .int .u8 0, .int .u8 0, .int .u8 0, .int .u8 0, .int .u8 0, .int .u8 0, .int .u8 0, .int .u8 0, .int .u8 0, .int .u8 0, .int .u8 0, .int .u8 0, .slice none 0 0] 149 w1 fun k6 w2 =>
  Q (.pointer (some (⟨k6, 0, none⟩ : Addr))) w2

def field_New_tt : Nat → List (Nat × TypeId) := fun _ => []

theorem field_New_call (p0 : Option Addr) (l0 : Nat) (c0 : Nat) (w : World) (Q : Value → World → Prop) (h : field_New p0 l0 c0 w Q) : callF Try.prog 48 #[.slice p0 l0 c0] w Q :=
  callF_of (fun _ _ => by kernel_rfl) (callK_of_sw field_New_tt Try.func48 rfl (by kernel_rfl) (show sw Try.prog none 7 field_New_tt _ 0 (endK Try.prog [.tmp 2] Q) ⟨regs [.slice p0 l0 c0], []⟩ w from
    Eq.mp (by kernel_rfl : field_New p0 l0 c0 w Q = sw Try.prog none 7 field_New_tt (Try.f48.body.getD .skip) 0 (endK Try.prog [.tmp 2] Q) ⟨regs [.slice p0 l0 c0], []⟩ w) h))


/-! ### (*crossway/field.Tables).Made: function 49 -/

def field_Tables_Made (p0 : Option Addr) (w : World) (Q : Value → World → Prop) : Prop :=
  ∃ (a4 : Addr), p0 = some a4 ∧
  callF Try.prog 103 #[.pointer (some (a4.add 4))] w fun r6 w1 =>
  ∃ (n6 : Int), r6 = .int .i64 n6 ∧
  Q (.int .i64 n6) w1

def field_Tables_Made_tt : Nat → List (Nat × TypeId) := fun _ => []

theorem field_Tables_Made_call (p0 : Option Addr) (w : World) (Q : Value → World → Prop) (h : field_Tables_Made p0 w Q) : callF Try.prog 49 #[.pointer p0] w Q :=
  callF_of (fun _ _ => by kernel_rfl) (callK_of_sw field_Tables_Made_tt Try.func49 rfl (by kernel_rfl) (show sw Try.prog none 7 field_Tables_Made_tt _ 0 (endK Try.prog [.tmp 2] Q) ⟨regs [.pointer p0], []⟩ w from
    Eq.mp (by kernel_rfl : field_Tables_Made p0 w Q = sw Try.prog none 7 field_Tables_Made_tt (Try.f49.body.getD .skip) 0 (endK Try.prog [.tmp 2] Q) ⟨regs [.pointer p0], []⟩ w) h))


/-! ### (*crossway/field.Tables).Sub: function 50 -/

def field_Tables_Sub (p0 : Option Addr) (n1 : Int) (w : World) (Q : Value → World → Prop) : Prop :=
  callF Try.prog 108 #[.pointer p0] w fun r6 w1 =>
  ∃ (p6 : Option Addr), r6 = .pointer p6 ∧
  ∃ (a8 : Addr), p6 = some a8 ∧
  ∃ (a10 : Addr), IxA Try.prog 146 (.pointer (some (a8.add 5))) (.int .u8 n1) a10 ∧
  ∃ (n11 : Int), Ld Try.prog 5 (.pointer (some a10)) w1 (.int .u8 n11) ∧
  Q (.int .u8 n11) w1

def field_Tables_Sub_tt : Nat → List (Nat × TypeId) := fun _ => []

theorem field_Tables_Sub_call (p0 : Option Addr) (n1 : Int) (w : World) (Q : Value → World → Prop) (h : field_Tables_Sub p0 n1 w Q) : callF Try.prog 50 #[.pointer p0, .int .u8 n1] w Q :=
  callF_of (fun _ _ => by kernel_rfl) (callK_of_sw field_Tables_Sub_tt Try.func50 rfl (by kernel_rfl) (show sw Try.prog none 12 field_Tables_Sub_tt _ 0 (endK Try.prog [.tmp 4] Q) ⟨regs [.pointer p0, .int .u8 n1], []⟩ w from
    Eq.mp (by kernel_rfl : field_Tables_Sub p0 n1 w Q = sw Try.prog none 12 field_Tables_Sub_tt (Try.f50.body.getD .skip) 0 (endK Try.prog [.tmp 4] Q) ⟨regs [.pointer p0, .int .u8 n1], []⟩ w) h))


/-! ### (*crossway/field.Tables).Unsub: function 52 -/

def field_Tables_Unsub (p0 : Option Addr) (n1 : Int) (w : World) (Q : Value → World → Prop) : Prop :=
  callF Try.prog 108 #[.pointer p0] w fun r6 w1 =>
  ∃ (p6 : Option Addr), r6 = .pointer p6 ∧
  ∃ (a8 : Addr), p6 = some a8 ∧
  ∃ (a10 : Addr), IxA Try.prog 146 (.pointer (some (a8.add 261))) (.int .u8 n1) a10 ∧
  ∃ (n11 : Int), Ld Try.prog 5 (.pointer (some a10)) w1 (.int .u8 n11) ∧
  Q (.int .u8 n11) w1

def field_Tables_Unsub_tt : Nat → List (Nat × TypeId) := fun _ => []

theorem field_Tables_Unsub_call (p0 : Option Addr) (n1 : Int) (w : World) (Q : Value → World → Prop) (h : field_Tables_Unsub p0 n1 w Q) : callF Try.prog 52 #[.pointer p0, .int .u8 n1] w Q :=
  callF_of (fun _ _ => by kernel_rfl) (callK_of_sw field_Tables_Unsub_tt Try.func52 rfl (by kernel_rfl) (show sw Try.prog none 12 field_Tables_Unsub_tt _ 0 (endK Try.prog [.tmp 4] Q) ⟨regs [.pointer p0, .int .u8 n1], []⟩ w from
    Eq.mp (by kernel_rfl : field_Tables_Unsub p0 n1 w Q = sw Try.prog none 12 field_Tables_Unsub_tt (Try.f52.body.getD .skip) 0 (endK Try.prog [.tmp 4] Q) ⟨regs [.pointer p0, .int .u8 n1], []⟩ w) h))


/-! ### (*crossway/field.Tables).Times: function 54 -/

def field_Tables_Times_j1 (p0 : Option Addr) (n1 : Int) (n2 : Int) (n6 : Int) (n7 : Int) (w : World) (Q : Value → World → Prop) : Prop :=
  ∃ (a22 : Addr), p0 = some a22 ∧
  ∃ (p24 : Option Addr) (l24 : Nat) (c24 : Nat), Ld Try.prog 147 (.pointer (some (a22.add 517))) w (.slice p24 l24 c24) ∧
  ∃ (a27 : Addr), IxA Try.prog 147 (.slice p24 l24 c24) (.int .i64 n1) a27 ∧
  ∃ (a28 : Addr), IxA Try.prog 146 (.pointer (some a27)) (.int .u8 n2) a28 ∧
  ∃ (n29 : Int), Ld Try.prog 5 (.pointer (some a28)) w (.int .u8 n29) ∧
  Q (.tuple #[.int .u8 n29, .int .i64 0]) w

def field_Tables_Times (p0 : Option Addr) (n1 : Int) (n2 : Int) (w : World) (Q : Value → World → Prop) : Prop :=
  callF Try.prog 108 #[.pointer p0] w fun r9 w1 =>
  ∃ (p9 : Option Addr), r9 = .pointer p9 ∧
  cond (decide (n1 < 0))
  (Q (.tuple #[.int .u8 0, .int .i64 11]) w1)
  (∃ (a15 : Addr), p0 = some a15 ∧
    ∃ (p17 : Option Addr) (l17 : Nat) (c17 : Nat), Ld Try.prog 147 (.pointer (some (a15.add 517))) w1 (.slice p17 l17 c17) ∧
    cond (decide (n1 ≥ ((l17 : Nat) : Int)))
    (Q (.tuple #[.int .u8 0, .int .i64 11]) w1)
    (field_Tables_Times_j1 p0 n1 n2 0 0 w1 Q))

def field_Tables_Times_tt : Nat → List (Nat × TypeId) := fun _ => []

theorem field_Tables_Times_call (p0 : Option Addr) (n1 : Int) (n2 : Int) (w : World) (Q : Value → World → Prop) (h : field_Tables_Times p0 n1 n2 w Q) : callF Try.prog 54 #[.pointer p0, .int .i64 n1, .int .u8 n2] w Q :=
  callF_of (fun _ _ => by kernel_rfl) (callK_of_sw field_Tables_Times_tt Try.func54 rfl (by kernel_rfl) (show sw Try.prog none 30 field_Tables_Times_tt _ 0 (endK Try.prog [.tmp 6, .tmp 7] Q) ⟨regs [.pointer p0, .int .i64 n1, .int .u8 n2], []⟩ w from
    Eq.mp (by kernel_rfl : field_Tables_Times p0 n1 n2 w Q = sw Try.prog none 30 field_Tables_Times_tt (Try.f54.body.getD .skip) 0 (endK Try.prog [.tmp 6, .tmp 7] Q) ⟨regs [.pointer p0, .int .i64 n1, .int .u8 n2], []⟩ w) h))


/-! ### crossway/field.Sum: function 55 -/

def field_Sum (p0 : Option Addr) (l0 : Nat) (c0 : Nat) (w : World) (Q : Value → World → Prop) : Prop :=
  LoopS [.int .u8 0, .int .u8 0, .slice p0 l0 c0, .int .i64 ((l0 : Nat) : Int), .int .i64 0] w fun I1 μ1 us1 _ wl1 =>
  ∃ (n2 : Int) (n3 : Int) (p6 : Option Addr) (l6 : Nat) (c6 : Nat) (n7 : Int) (n8 : Int), us1 = [.int .u8 n2, .int .u8 n3, .slice p6 l6 c6, .int .i64 n7, .int .i64 n8] ∧
  cond (decide (n8 < n7))
  (∃ (a10 : Addr), IxA Try.prog 50 (.slice p6 l6 c6) (.int .i64 n8) a10 ∧
    ∃ (n11 : Int), Ld Try.prog 5 (.pointer (some a10)) wl1 (.int .u8 n11) ∧
    goesOn [] [] I1 μ1 us1 [.int .u8 n2, .int .u8 (ixor .u8 n3 n11), .slice p6 l6 c6, .int .i64 n7, .int .i64 (IntKind.i64.wrap (n8 + 1))] wl1 wl1)
  (Q (.int .u8 n3) wl1)

def field_Sum_tt : Nat → List (Nat × TypeId) := fun n => match n with | 0 => [(2, 5), (3, 5), (6, 50), (7, 3), (8, 3)] | _ => []

theorem field_Sum_call (p0 : Option Addr) (l0 : Nat) (c0 : Nat) (w : World) (Q : Value → World → Prop) (h : field_Sum p0 l0 c0 w Q) : callF Try.prog 55 #[.slice p0 l0 c0] w Q :=
  callF_of (fun _ _ => by kernel_rfl) (callK_of_sw field_Sum_tt Try.func55 rfl (by kernel_rfl) (show sw Try.prog none 17 field_Sum_tt _ 0 (endK Try.prog [.tmp 2] Q) ⟨regs [.slice p0 l0 c0], []⟩ w from
    Eq.mp (by kernel_rfl : field_Sum p0 l0 c0 w Q = sw Try.prog none 17 field_Sum_tt (Try.f55.body.getD .skip) 0 (endK Try.prog [.tmp 2] Q) ⟨regs [.slice p0 l0 c0], []⟩ w) h))


/-! ### crossway/field.double: function 106 -/

def field_double (n0 : Int) (w : World) (Q : Value → World → Prop) : Prop :=
  cond ((iand .u8 n0 128) != 0)
  (Q (.int .u8 (ixor .u8 (IntKind.u8.wrap (n0 * 2 ^ 1)) 27)) w)
  (Q (.int .u8 (IntKind.u8.wrap (n0 * 2 ^ 1))) w)

def field_double_tt : Nat → List (Nat × TypeId) := fun _ => []

theorem field_double_call (n0 : Int) (w : World) (Q : Value → World → Prop) (h : field_double n0 w Q) : callF Try.prog 106 #[.int .u8 n0] w Q :=
  callF_of (fun _ _ => by kernel_rfl) (callK_of_sw field_double_tt Try.func106 rfl (by kernel_rfl) (show sw Try.prog none 11 field_double_tt _ 0 (endK Try.prog [.tmp 2] Q) ⟨regs [.int .u8 n0], []⟩ w from
    Eq.mp (by kernel_rfl : field_double n0 w Q = sw Try.prog none 11 field_double_tt (Try.f106.body.getD .skip) 0 (endK Try.prog [.tmp 2] Q) ⟨regs [.int .u8 n0], []⟩ w) h))


/-! ### (*crossway/field.Tables).ready: function 108 -/

def field_Tables_ready (p0 : Option Addr) (w : World) (Q : Value → World → Prop) : Prop :=
  ∃ (a4 : Addr), p0 = some a4 ∧
  callF Try.prog 146 #[.pointer (some (a4.add 1)), .func (.func 147) #[.pointer p0] #[]] w fun r8 w1 =>
  r8 = .tuple #[] ∧
  Q (.pointer p0) w1

def field_Tables_ready_tt : Nat → List (Nat × TypeId) := fun _ => []

theorem field_Tables_ready_call (p0 : Option Addr) (w : World) (Q : Value → World → Prop) (h : field_Tables_ready p0 w Q) : callF Try.prog 108 #[.pointer p0] w Q :=
  callF_of (fun _ _ => by kernel_rfl) (callK_of_sw field_Tables_ready_tt Try.func108 rfl (by kernel_rfl) (show sw Try.prog none 10 field_Tables_ready_tt _ 0 (endK Try.prog [.tmp 2] Q) ⟨regs [.pointer p0], []⟩ w from
    Eq.mp (by kernel_rfl : field_Tables_ready p0 w Q = sw Try.prog none 10 field_Tables_ready_tt (Try.f108.body.getD .skip) 0 (endK Try.prog [.tmp 2] Q) ⟨regs [.pointer p0], []⟩ w) h))


/-! ### (*crossway/field.Tables).make: function 147 -/

def field_Tables_make (p0 : Option Addr) (w : World) (Q : Value → World → Prop) : Prop :=
  ∃ (a7 : Addr), p0 = some a7 ∧
  callF Try.prog 101 #[.pointer (some (a7.add 4)), .int .i64 1] w fun r9 w1 =>
  ∃ (n9 : Int), r9 = .int .i64 n9 ∧
  ∃ (a12 : Addr), p0 = some a12 ∧
  ∃ (p14 : Option Addr) (l14 : Nat) (c14 : Nat), Ld Try.prog 50 (.pointer (some (a12.add 0))) w1 (.slice p14 l14 c14) ∧
  ∃ (p16 : Option Addr) (l16 : Nat) (c16 : Nat) (w2 : World), Ef Try.prog (Instr.makeSlice 147 (.int .i64 ((l14 : Nat) : Int)) (.int .i64 ((l14 : Nat) : Int))) w1 (.slice p16 l16 c16) w2 ∧
  ∃ (a17 : Addr), p0 = some a17 ∧
  ∃ (w3 : World), Sto Try.prog 147 (.pointer (some (a17.add 517))) (.slice p16 l16 c16) w2 w3 ∧
  LoopS [.pointer p0, .int .i64 0] w3 fun I1 μ1 us1 _ wl1 =>
  ∃ (p0_1 : Option Addr) (n19 : Int), us1 = [.pointer p0_1, .int .i64 n19] ∧
  cond (decide (n19 < 256))
  (callF Try.prog 164 #[.int .u8 (IntKind.u8.wrap n19)] wl1 fun r24 w4 =>
    ∃ (n24 : Int), r24 = .int .u8 n24 ∧
    ∃ (a28 : Addr), p0_1 = some a28 ∧
    ∃ (a30 : Addr), IxA Try.prog 146 (.pointer (some (a28.add 5))) (.int .i64 n19) a30 ∧
    ∃ (w5 : World), Sto Try.prog 5 (.pointer (some a30)) (.int .u8 n24) w4 w5 ∧
    ∃ (a35 : Addr), p0_1 = some a35 ∧
    ∃ (a37 : Addr), IxA Try.prog 146 (.pointer (some (a35.add 261))) (.int .u8 n24) a37 ∧
    ∃ (w6 : World), Sto Try.prog 5 (.pointer (some a37)) (.int .u8 (IntKind.u8.wrap n19)) w5 w6 ∧
    ∃ (a39 : Addr), p0_1 = some a39 ∧
    ∃ (p41 : Option Addr) (l41 : Nat) (c41 : Nat), Ld Try.prog 50 (.pointer (some (a39.add 0))) w6 (.slice p41 l41 c41) ∧
    LoopS [.pointer p0_1, .int .i64 n19, .int .i64 n19, .slice p41 l41 c41, .int .i64 ((l41 : Nat) : Int), .int .i64 0] w6 fun I2 μ2 us2 _ wl2 =>
    ∃ (p0_2 : Option Addr) (n2 : Int) (n19_1 : Int) (p41_1 : Option Addr) (l41_1 : Nat) (c41_1 : Nat) (n42 : Int) (n43 : Int), us2 = [.pointer p0_2, .int .i64 n2, .int .i64 n19_1, .slice p41_1 l41_1 c41_1, .int .i64 n42, .int .i64 n43] ∧
    cond (decide (n43 < n42))
    (∃ (a46 : Addr), IxA Try.prog 50 (.slice p41_1 l41_1 c41_1) (.int .i64 n43) a46 ∧
      ∃ (n47 : Int), Ld Try.prog 5 (.pointer (some a46)) wl2 (.int .u8 n47) ∧
      ∃ (S11 : World → Prop),
      Drw wl2 fun w7 =>
      ∃ (a49 : Addr), p0_2 = some a49 ∧
      ∃ (p51 : Option Addr) (l51 : Nat) (c51 : Nat), HLd Try.prog S11 147 (.pointer (some (a49.add 517))) w7 (.slice p51 l51 c51) ∧
      ∃ (a58 : Addr), IxA Try.prog 147 (.slice p51 l51 c51) (.int .i64 n43) a58 ∧
      callF Try.prog 42 #[.int .u8 (IntKind.u8.wrap n2), .int .u8 n47] w7 fun r57 w8 =>
      ∃ (n57 : Int), r57 = .int .u8 n57 ∧
      (w8 = w7 ∨ S11 w8) ∧
      ∃ (a59 : Addr), IxA Try.prog 146 (.pointer (some a58)) (.int .i64 n2) a59 ∧
      ∃ (w9 : World), Sto Try.prog 5 (.pointer (some a59)) (.int .u8 n57) w8 w9 ∧
      goesOn [] [] I2 μ2 us2 [.pointer p0_2, .int .i64 n2, .int .i64 n19_1, .slice p41_1 l41_1 c41_1, .int .i64 n42, .int .i64 (IntKind.i64.wrap (n43 + 1))] wl2 w9)
    (goesOn [] [] I1 μ1 us1 [.pointer p0_2, .int .i64 (IntKind.i64.wrap (n19_1 + 1))] wl1 wl2))
  (Q (.tuple #[]) wl1)

def field_Tables_make_tt : Nat → List (Nat × TypeId) := fun n => match n with | 0 => [(0, 51), (19, 3)] | 2 => [(0, 51), (2, 3), (19, 3), (41, 50), (42, 3), (43, 3)] | _ => []

theorem field_Tables_make_call (p0 : Option Addr) (w : World) (Q : Value → World → Prop) (h : field_Tables_make p0 w Q) : callF Try.prog 147 #[.pointer p0] w Q :=
  callF_of (fun _ _ => by kernel_rfl) (callK_of_sw field_Tables_make_tt Try.func147 rfl (by kernel_rfl) (show sw Try.prog none 62 field_Tables_make_tt _ 0 (endK Try.prog [] Q) ⟨regs [.pointer p0], []⟩ w from
    Eq.mp (by kernel_rfl : field_Tables_make p0 w Q = sw Try.prog none 62 field_Tables_make_tt (Try.f147.body.getD .skip) 0 (endK Try.prog [] Q) ⟨regs [.pointer p0], []⟩ w) h))


/-! ### crossway/field.sign: function 164 -/

def field_sign (n0 : Int) (w : World) (Q : Value → World → Prop) : Prop :=
  callF Try.prog 44 #[.int .u8 n0] w fun r5 w1 =>
  ∃ (n5 : Int), r5 = .int .u8 n5 ∧
  callF Try.prog 173 #[.int .u8 n5, .int .i64 1] w1 fun r8 w2 =>
  ∃ (n8 : Int), r8 = .int .u8 n8 ∧
  callF Try.prog 173 #[.int .u8 n5, .int .i64 2] w2 fun r10 w3 =>
  ∃ (n10 : Int), r10 = .int .u8 n10 ∧
  callF Try.prog 173 #[.int .u8 n5, .int .i64 3] w3 fun r12 w4 =>
  ∃ (n12 : Int), r12 = .int .u8 n12 ∧
  callF Try.prog 173 #[.int .u8 n5, .int .i64 4] w4 fun r14 w5 =>
  ∃ (n14 : Int), r14 = .int .u8 n14 ∧
  ∃ (p15 : Option Addr) (l15 : Nat) (c15 : Nat) (w6 : World), Ef Try.prog (Instr.buildSlice 50 6 #[(0, .int .u8 n5), (1, .int .u8 n8), (2, .int .u8 n10), (3, .int .u8 n12), (4, .int .u8 n14), (5, .int .u8 99)]) w5 (.slice p15 l15 c15) w6 ∧
  callF Try.prog 55 #[.slice p15 l15 c15] w6 fun r16 w7 =>
  ∃ (n16 : Int), r16 = .int .u8 n16 ∧
  Q (.int .u8 n16) w7

def field_sign_tt : Nat → List (Nat × TypeId) := fun _ => []

theorem field_sign_call (n0 : Int) (w : World) (Q : Value → World → Prop) (h : field_sign n0 w Q) : callF Try.prog 164 #[.int .u8 n0] w Q :=
  callF_of (fun _ _ => by kernel_rfl) (callK_of_sw field_sign_tt Try.func164 rfl (by kernel_rfl) (show sw Try.prog none 17 field_sign_tt _ 0 (endK Try.prog [.tmp 2] Q) ⟨regs [.int .u8 n0], []⟩ w from
    Eq.mp (by kernel_rfl : field_sign n0 w Q = sw Try.prog none 17 field_sign_tt (Try.f164.body.getD .skip) 0 (endK Try.prog [.tmp 2] Q) ⟨regs [.int .u8 n0], []⟩ w) h))


/-! ### crossway/field.turned: function 173 -/

def field_turned (n0 : Int) (n1 : Int) (w : World) (Q : Value → World → Prop) : Prop :=
  Drw w fun w1 =>
  ∃ (n7 : Int), Pu Try.prog (do eqGuard .shl 5 (.tmp 5) (.tmp 6) (.int .u8 n0) (.int .i64 n1); binOp .shl 5 (.int .u8 n0) (.int .i64 n1) : Sem Value) (.int .u8 n7) ∧
  ∃ (n11 : Int), Pu Try.prog (do eqGuard .shr 5 (.tmp 8) (.tmp 10) (.int .u8 n0) (.int .i64 (IntKind.i64.wrap (8 - n1))); binOp .shr 5 (.int .u8 n0) (.int .i64 (IntKind.i64.wrap (8 - n1))) : Sem Value) (.int .u8 n11) ∧
  Q (.int .u8 (ior .u8 n7 n11)) w1

def field_turned_tt : Nat → List (Nat × TypeId) := fun _ => []

theorem field_turned_call (n0 : Int) (n1 : Int) (w : World) (Q : Value → World → Prop) (h : field_turned n0 n1 w Q) : callF Try.prog 173 #[.int .u8 n0, .int .i64 n1] w Q :=
  callF_of (fun _ _ => by kernel_rfl) (callK_of_sw field_turned_tt Try.func173 rfl (by kernel_rfl) (show sw Try.prog none 13 field_turned_tt _ 0 (endK Try.prog [.tmp 4] Q) ⟨regs [.int .u8 n0, .int .i64 n1], []⟩ w from
    Eq.mp (by kernel_rfl : field_turned n0 n1 w Q = sw Try.prog none 13 field_turned_tt (Try.f173.body.getD .skip) 0 (endK Try.prog [.tmp 4] Q) ⟨regs [.int .u8 n0, .int .i64 n1], []⟩ w) h))

end Go.Sh
