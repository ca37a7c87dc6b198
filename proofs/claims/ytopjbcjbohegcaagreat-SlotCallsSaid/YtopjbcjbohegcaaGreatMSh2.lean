/- A part of a proof of a given law of this program: lemmas, printed forms of its functions, contracts. It has no conditions of its own. -/
import Derived.Test.YtopjbcjbohegcaaGreatProg
import Derived.Test.YtopjbcjbohegcaaGreatMFw

section
namespace Go.Sh
open Go Go.Fw Go.Proofs
set_option maxRecDepth 100000
set_option linter.unusedVariables false

def octet_Join (p0 : Option Addr) (l0 : Nat) (c0 : Nat) (w : World) (Q : Value → World → Prop) : Prop :=
  callF Tryz.prog 100 #[.slice p0 l0 c0] w fun r4 w1 =>
  ∃ (p4 : Option Addr) (l4 : Nat) (c4 : Nat), r4 = .slice p4 l4 c4 ∧
  Q (.slice p4 l4 c4) w1
def octet_Join_tt : Nat → List (Nat × TypeId) := fun _ => []
theorem octet_Join_call (p0 : Option Addr) (l0 : Nat) (c0 : Nat) (w : World) (Q : Value → World → Prop) (h : octet_Join p0 l0 c0 w Q) : callF Tryz.prog 47 #[.slice p0 l0 c0] w Q :=
  callF_of (fun _ _ => by kernel_rfl) (callK_of_sw octet_Join_tt Tryz.func47 rfl (by kernel_rfl) (show sw Tryz.prog none 5 octet_Join_tt _ 0 (endK Tryz.prog [.tmp 2] Q) ⟨regs [.slice p0 l0 c0], []⟩ w from
    Eq.mp (by kernel_rfl : octet_Join p0 l0 c0 w Q = sw Tryz.prog none 5 octet_Join_tt (Tryz.f47.body.getD .skip) 0 (endK Tryz.prog [.tmp 2] Q) ⟨regs [.slice p0 l0 c0], []⟩ w) h))

def octet_Xor (p0 : Option Addr) (l0 : Nat) (c0 : Nat) (p1 : Option Addr) (l1 : Nat) (c1 : Nat) (w : World) (Q : Value → World → Prop) : Prop :=
  cond (((l0 : Nat) : Int) != ((l1 : Nat) : Int))
  (Q (.tuple #[.slice none 0 0, .int .i64 11]) w)
  (∃ (p15 : Option Addr) (l15 : Nat) (c15 : Nat) (w1 : World), Ef Tryz.prog (Instr.makeSlice 22 (.int .i64 ((l0 : Nat) : Int)) (.int .i64 ((l0 : Nat) : Int))) w (.slice p15 l15 c15) w1 ∧
    LoopS [.slice p0 l0 c0, .slice p1 l1 c1, .slice none 0 0, .int .i64 0, .slice p15 l15 c15, .int .i64 ((l15 : Nat) : Int), .int .i64 0] w1 fun I1 μ1 us1 _ wl1 =>
    ∃ (p0_1 : Option Addr) (l0_1 : Nat) (c0_1 : Nat) (p1_1 : Option Addr) (l1_1 : Nat) (c1_1 : Nat) (p4 : Option Addr) (l4 : Nat) (c4 : Nat) (n5 : Int) (p6 : Option Addr) (l6 : Nat) (c6 : Nat) (n17 : Int) (n18 : Int), us1 = [.slice p0_1 l0_1 c0_1, .slice p1_1 l1_1 c1_1, .slice p4 l4 c4, .int .i64 n5, .slice p6 l6 c6, .int .i64 n17, .int .i64 n18] ∧
    cond (decide (n18 < n17))
    (∃ (S7 : World → Prop),
      Drw wl1 fun w2 =>
      ∃ (a25 : Addr), IxA Tryz.prog 22 (.slice p0_1 l0_1 c0_1) (.int .i64 n18) a25 ∧
      ∃ (a29 : Addr), IxA Tryz.prog 22 (.slice p1_1 l1_1 c1_1) (.int .i64 n18) a29 ∧
      ∃ (n26 : Int), HLd Tryz.prog S7 5 (.pointer (some a25)) w2 (.int .u8 n26) ∧
      ∃ (n30 : Int), Ld Tryz.prog 5 (.pointer (some a29)) w2 (.int .u8 n30) ∧
      (w2 = w2 ∨ S7 w2) ∧
      ∃ (a32 : Addr), IxA Tryz.prog 22 (.slice p6 l6 c6) (.int .i64 n18) a32 ∧
      ∃ (w3 : World), Sto Tryz.prog 5 (.pointer (some a32)) (.int .u8 (ixor .u8 n26 n30)) w2 w3 ∧
      goesOn [] [] I1 μ1 us1 [.slice p0_1 l0_1 c0_1, .slice p1_1 l1_1 c1_1, .slice p4 l4 c4, .int .i64 n5, .slice p6 l6 c6, .int .i64 n17, .int .i64 (IntKind.i64.wrap (n18 + 1))] wl1 w3)
    (Q (.tuple #[.slice p6 l6 c6, .int .i64 0]) wl1))
def octet_Xor_tt : Nat → List (Nat × TypeId) := fun n => match n with | 0 => [(0, 22), (1, 22), (4, 22), (5, 26), (6, 22), (17, 3), (18, 3)] | _ => []
theorem octet_Xor_call (p0 : Option Addr) (l0 : Nat) (c0 : Nat) (p1 : Option Addr) (l1 : Nat) (c1 : Nat) (w : World) (Q : Value → World → Prop) (h : octet_Xor p0 l0 c0 p1 l1 c1 w Q) : callF Tryz.prog 53 #[.slice p0 l0 c0, .slice p1 l1 c1] w Q :=
  callF_of (fun _ _ => by kernel_rfl) (callK_of_sw octet_Xor_tt Tryz.func53 rfl (by kernel_rfl) (show sw Tryz.prog none 35 octet_Xor_tt _ 0 (endK Tryz.prog [.tmp 4, .tmp 5] Q) ⟨regs [.slice p0 l0 c0, .slice p1 l1 c1], []⟩ w from
    Eq.mp (by kernel_rfl : octet_Xor p0 l0 c0 p1 l1 c1 w Q = sw Tryz.prog none 35 octet_Xor_tt (Tryz.f53.body.getD .skip) 0 (endK Tryz.prog [.tmp 4, .tmp 5] Q) ⟨regs [.slice p0 l0 c0, .slice p1 l1 c1], []⟩ w) h))
end Go.Sh
end
