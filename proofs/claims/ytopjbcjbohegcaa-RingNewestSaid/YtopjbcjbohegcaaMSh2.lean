/- A part of a proof of a given law of this program: lemmas, printed forms of its functions, contracts. It has no conditions of its own. -/
import Derived.Test.YtopjbcjbohegcaaProg
import Derived.Test.YtopjbcjbohegcaaMFw

section
namespace Go.Sh
open Go Go.Fw Go.Proofs
set_option maxRecDepth 100000
set_option linter.unusedVariables false

def octet_Num (p0 : Option Addr) (l0 : Nat) (c0 : Nat) (w : World) (Q : Value → World → Prop) : Prop :=
  cond (decide (((l0 : Nat) : Int) > 8))
  (Q (.tuple #[.int .u64 0, .int .i64 11]) w)
  (LoopS [.int .u64 0, .int .i64 0, .int .u64 0, .slice p0 l0 c0, .int .i64 ((l0 : Nat) : Int), .int .i64 0] w fun I1 μ1 us1 _ wl1 =>
    ∃ (n2 : Int) (n3 : Int) (n4 : Int) (p10 : Option Addr) (l10 : Nat) (c10 : Nat) (n11 : Int) (n12 : Int), us1 = [.int .u64 n2, .int .i64 n3, .int .u64 n4, .slice p10 l10 c10, .int .i64 n11, .int .i64 n12] ∧
    cond (decide (n12 < n11))
    (∃ (a14 : Addr), IxA Try.prog 23 (.slice p10 l10 c10) (.int .i64 n12) a14 ∧
      ∃ (n15 : Int), Ld Try.prog 5 (.pointer (some a14)) wl1 (.int .u8 n15) ∧
      goesOn [] [] I1 μ1 us1 [.int .u64 n2, .int .i64 n3, .int .u64 (ior .u64 (IntKind.u64.wrap (n4 * 2 ^ 8)) (IntKind.u64.wrap n15)), .slice p10 l10 c10, .int .i64 n11, .int .i64 (IntKind.i64.wrap (n12 + 1))] wl1 wl1)
    (Q (.tuple #[.int .u64 n4, .int .i64 0]) wl1))
def octet_Num_tt : Nat → List (Nat × TypeId) := fun n => match n with | 0 => [(2, 143), (3, 48), (4, 143), (10, 23), (11, 3), (12, 3)] | _ => []
theorem octet_Num_call (p0 : Option Addr) (l0 : Nat) (c0 : Nat) (w : World) (Q : Value → World → Prop) (h : octet_Num p0 l0 c0 w Q) : callF Try.prog 100 #[.slice p0 l0 c0] w Q :=
  callF_of (fun _ _ => by kernel_rfl) (callK_of_sw octet_Num_tt Try.func100 rfl (by kernel_rfl) (show sw Try.prog none 23 octet_Num_tt _ 0 (endK Try.prog [.tmp 2, .tmp 3] Q) ⟨regs [.slice p0 l0 c0], []⟩ w from
    Eq.mp (by kernel_rfl : octet_Num p0 l0 c0 w Q = sw Try.prog none 23 octet_Num_tt (Try.f100.body.getD .skip) 0 (endK Try.prog [.tmp 2, .tmp 3] Q) ⟨regs [.slice p0 l0 c0], []⟩ w) h))
end Go.Sh
end
