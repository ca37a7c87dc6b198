/- A part of a proof of a given law of this program: lemmas, printed forms of its functions, contracts. It has no conditions of its own. -/
import Derived.Test.YtopjbcjbohegcaaProg
import Derived.Test.YtopjbcjbohegcaaMFw

section
namespace Go.Sh
open Go Go.Fw Go.Proofs
set_option maxRecDepth 100000
set_option linter.unusedVariables false

def octet_Join (p0 : Option Addr) (l0 : Nat) (c0 : Nat) (w : World) (Q : Value → World → Prop) : Prop :=
  callF Try.prog 84 #[.slice p0 l0 c0] w fun r4 w1 =>
  ∃ (p4 : Option Addr) (l4 : Nat) (c4 : Nat), r4 = .slice p4 l4 c4 ∧
  Q (.slice p4 l4 c4) w1
def octet_Join_tt : Nat → List (Nat × TypeId) := fun _ => []
theorem octet_Join_call (p0 : Option Addr) (l0 : Nat) (c0 : Nat) (w : World) (Q : Value → World → Prop) (h : octet_Join p0 l0 c0 w Q) : callF Try.prog 54 #[.slice p0 l0 c0] w Q :=
  callF_of (fun _ _ => by kernel_rfl) (callK_of_sw octet_Join_tt Try.func54 rfl (by kernel_rfl) (show sw Try.prog none 5 octet_Join_tt _ 0 (endK Try.prog [.tmp 2] Q) ⟨regs [.slice p0 l0 c0], []⟩ w from
    Eq.mp (by kernel_rfl : octet_Join p0 l0 c0 w Q = sw Try.prog none 5 octet_Join_tt (Try.f54.body.getD .skip) 0 (endK Try.prog [.tmp 2] Q) ⟨regs [.slice p0 l0 c0], []⟩ w) h))

def octet_Xor (p0 : Option Addr) (l0 : Nat) (c0 : Nat) (p1 : Option Addr) (l1 : Nat) (c1 : Nat) (w : World) (Q : Value → World → Prop) : Prop :=
  cond (((l0 : Nat) : Int) != ((l1 : Nat) : Int))
  (Q (.tuple #[.slice none 0 0, .int .i64 11]) w)
  (∃ (p15 : Option Addr) (l15 : Nat) (c15 : Nat) (w1 : World), Ef Try.prog (Instr.makeSlice 23 (.int .i64 ((l0 : Nat) : Int)) (.int .i64 ((l0 : Nat) : Int))) w (.slice p15 l15 c15) w1 ∧
    LoopS [.slice p0 l0 c0, .slice p1 l1 c1, .slice none 0 0, .int .i64 0, .slice p15 l15 c15, .int .i64 ((l15 : Nat) : Int), .int .i64 0] w1 fun I1 μ1 us1 _ wl1 =>
    ∃ (p0_1 : Option Addr) (l0_1 : Nat) (c0_1 : Nat) (p1_1 : Option Addr) (l1_1 : Nat) (c1_1 : Nat) (p4 : Option Addr) (l4 : Nat) (c4 : Nat) (n5 : Int) (p6 : Option Addr) (l6 : Nat) (c6 : Nat) (n17 : Int) (n18 : Int), us1 = [.slice p0_1 l0_1 c0_1, .slice p1_1 l1_1 c1_1, .slice p4 l4 c4, .int .i64 n5, .slice p6 l6 c6, .int .i64 n17, .int .i64 n18] ∧
    cond (decide (n18 < n17))
    (∃ (S7 : World → Prop),
      Drw wl1 fun w2 =>
      ∃ (a25 : Addr), IxA Try.prog 23 (.slice p0_1 l0_1 c0_1) (.int .i64 n18) a25 ∧
      ∃ (a29 : Addr), IxA Try.prog 23 (.slice p1_1 l1_1 c1_1) (.int .i64 n18) a29 ∧
      ∃ (n26 : Int), HLd Try.prog S7 5 (.pointer (some a25)) w2 (.int .u8 n26) ∧
      ∃ (n30 : Int), Ld Try.prog 5 (.pointer (some a29)) w2 (.int .u8 n30) ∧
      (w2 = w2 ∨ S7 w2) ∧
      ∃ (a32 : Addr), IxA Try.prog 23 (.slice p6 l6 c6) (.int .i64 n18) a32 ∧
      ∃ (w3 : World), Sto Try.prog 5 (.pointer (some a32)) (.int .u8 (ixor .u8 n26 n30)) w2 w3 ∧
      goesOn [] [] I1 μ1 us1 [.slice p0_1 l0_1 c0_1, .slice p1_1 l1_1 c1_1, .slice p4 l4 c4, .int .i64 n5, .slice p6 l6 c6, .int .i64 n17, .int .i64 (IntKind.i64.wrap (n18 + 1))] wl1 w3)
    (Q (.tuple #[.slice p6 l6 c6, .int .i64 0]) wl1))
def octet_Xor_tt : Nat → List (Nat × TypeId) := fun n => match n with | 0 => [(0, 23), (1, 23), (4, 23), (5, 48), (6, 23), (17, 3), (18, 3)] | _ => []
theorem octet_Xor_call (p0 : Option Addr) (l0 : Nat) (c0 : Nat) (p1 : Option Addr) (l1 : Nat) (c1 : Nat) (w : World) (Q : Value → World → Prop) (h : octet_Xor p0 l0 c0 p1 l1 c1 w Q) : callF Try.prog 56 #[.slice p0 l0 c0, .slice p1 l1 c1] w Q :=
  callF_of (fun _ _ => by kernel_rfl) (callK_of_sw octet_Xor_tt Try.func56 rfl (by kernel_rfl) (show sw Try.prog none 35 octet_Xor_tt _ 0 (endK Try.prog [.tmp 4, .tmp 5] Q) ⟨regs [.slice p0 l0 c0, .slice p1 l1 c1], []⟩ w from
    Eq.mp (by kernel_rfl : octet_Xor p0 l0 c0 p1 l1 c1 w Q = sw Try.prog none 35 octet_Xor_tt (Try.f56.body.getD .skip) 0 (endK Try.prog [.tmp 4, .tmp 5] Q) ⟨regs [.slice p0 l0 c0, .slice p1 l1 c1], []⟩ w) h))

def octet_Equal (p0 : Option Addr) (l0 : Nat) (c0 : Nat) (p1 : Option Addr) (l1 : Nat) (c1 : Nat) (w : World) (Q : Value → World → Prop) : Prop :=
  cond (((l0 : Nat) : Int) != ((l1 : Nat) : Int))
  (Q (.bool false) w)
  (LoopS [.slice p0 l0 c0, .slice p1 l1 c1, .bool false, .int .u8 0, .int .i64 ((l0 : Nat) : Int), .int .i64 0] w fun I1 μ1 us1 _ wl1 =>
    ∃ (p0_1 : Option Addr) (l0_1 : Nat) (c0_1 : Nat) (p1_1 : Option Addr) (l1_1 : Nat) (c1_1 : Nat) (b4 : Bool) (n5 : Int) (n13 : Int) (n14 : Int), us1 = [.slice p0_1 l0_1 c0_1, .slice p1_1 l1_1 c1_1, .bool b4, .int .u8 n5, .int .i64 n13, .int .i64 n14] ∧
    cond (decide (n14 < n13))
    (∃ (S7 : World → Prop),
      Drw wl1 fun w1 =>
      ∃ (a20 : Addr), IxA Try.prog 23 (.slice p0_1 l0_1 c0_1) (.int .i64 n14) a20 ∧
      ∃ (a24 : Addr), IxA Try.prog 23 (.slice p1_1 l1_1 c1_1) (.int .i64 n14) a24 ∧
      ∃ (n21 : Int), HLd Try.prog S7 5 (.pointer (some a20)) w1 (.int .u8 n21) ∧
      ∃ (n25 : Int), Ld Try.prog 5 (.pointer (some a24)) w1 (.int .u8 n25) ∧
      (w1 = w1 ∨ S7 w1) ∧
      goesOn [] [] I1 μ1 us1 [.slice p0_1 l0_1 c0_1, .slice p1_1 l1_1 c1_1, .bool b4, .int .u8 (ior .u8 n5 (ixor .u8 n21 n25)), .int .i64 n13, .int .i64 (IntKind.i64.wrap (n14 + 1))] wl1 w1)
    (Q (.bool (n5 == 0)) wl1))
def octet_Equal_tt : Nat → List (Nat × TypeId) := fun n => match n with | 0 => [(0, 23), (1, 23), (4, 4), (5, 5), (13, 3), (14, 3)] | _ => []
theorem octet_Equal_call (p0 : Option Addr) (l0 : Nat) (c0 : Nat) (p1 : Option Addr) (l1 : Nat) (c1 : Nat) (w : World) (Q : Value → World → Prop) (h : octet_Equal p0 l0 c0 p1 l1 c1 w Q) : callF Try.prog 59 #[.slice p0 l0 c0, .slice p1 l1 c1] w Q :=
  callF_of (fun _ _ => by kernel_rfl) (callK_of_sw octet_Equal_tt Try.func59 rfl (by kernel_rfl) (show sw Try.prog none 31 octet_Equal_tt _ 0 (endK Try.prog [.tmp 4] Q) ⟨regs [.slice p0 l0 c0, .slice p1 l1 c1], []⟩ w from
    Eq.mp (by kernel_rfl : octet_Equal p0 l0 c0 p1 l1 c1 w Q = sw Try.prog none 31 octet_Equal_tt (Try.f59.body.getD .skip) 0 (endK Try.prog [.tmp 4] Q) ⟨regs [.slice p0 l0 c0, .slice p1 l1 c1], []⟩ w) h))

def octet_Put_j1 (n0 : Int) (n1 : Int) (p4 : Option Addr) (l4 : Nat) (c4 : Nat) (n5 : Int) (w : World) (Q : Value → World → Prop) : Prop :=
  ∃ (p26 : Option Addr) (l26 : Nat) (c26 : Nat) (w1 : World), Ef Try.prog (Instr.makeSlice 23 (.int .i64 0) (.int .i64 n1)) w (.slice p26 l26 c26) w1 ∧
  LoopS [.int .u64 n0, .slice p4 l4 c4, .int .i64 n5, .slice p26 l26 c26, .int .i64 (IntKind.i64.wrap (n1 - 1))] w1 fun I1 μ1 us1 _ wl1 =>
  ∃ (n0_1 : Int) (p4_1 : Option Addr) (l4_1 : Nat) (c4_1 : Nat) (n5_1 : Int) (p6 : Option Addr) (l6 : Nat) (c6 : Nat) (n7 : Int), us1 = [.int .u64 n0_1, .slice p4_1 l4_1 c4_1, .int .i64 n5_1, .slice p6 l6 c6, .int .i64 n7] ∧
  cond (decide (n7 ≥ 0))
  (∃ (n37 : Int), Pu Try.prog (do eqGuard .shr 143 (.tmp 34) (.tmp 36) (.int .u64 n0_1) (.int .i64 (IntKind.i64.wrap (8 * n7))); binOp .shr 143 (.int .u64 n0_1) (.int .i64 (IntKind.i64.wrap (8 * n7))) : Sem Value) (.int .u64 n37) ∧
    ∃ (p39 : Option Addr) (l39 : Nat) (c39 : Nat) (w2 : World), Ef Try.prog (Instr.buildSlice 23 1 #[(0, .int .u8 (IntKind.u8.wrap n37))]) wl1 (.slice p39 l39 c39) w2 ∧
    ∃ (p40 : Option Addr) (l40 : Nat) (c40 : Nat) (w3 : World), Ef Try.prog (Builtin.append_ #[23, 23] 23 #[.slice p6 l6 c6, .slice p39 l39 c39]) w2 (.slice p40 l40 c40) w3 ∧
    goesOn [] [] I1 μ1 us1 [.int .u64 n0_1, .slice p4_1 l4_1 c4_1, .int .i64 n5_1, .slice p40 l40 c40, .int .i64 (IntKind.i64.wrap (n7 - 1))] wl1 w3)
  (Q (.tuple #[.slice p6 l6 c6, .int .i64 0]) wl1)
def octet_Put (n0 : Int) (n1 : Int) (w : World) (Q : Value → World → Prop) : Prop :=
  cond (decide (n1 < 0))
  (Q (.tuple #[.slice none 0 0, .int .i64 11]) w)
  (cond (decide (n1 > 8))
    (Q (.tuple #[.slice none 0 0, .int .i64 11]) w)
    (cond (decide (n1 < 8))
      (∃ (n21 : Int), Pu Try.prog (do eqGuard .shr 143 (.tmp 18) (.tmp 20) (.int .u64 n0) (.int .i64 (IntKind.i64.wrap (8 * n1))); binOp .shr 143 (.int .u64 n0) (.int .i64 (IntKind.i64.wrap (8 * n1))) : Sem Value) (.int .u64 n21) ∧
        cond (n21 != 0)
        (Q (.tuple #[.slice none 0 0, .int .i64 11]) w)
        (octet_Put_j1 n0 n1 none 0 0 0 w Q))
      (octet_Put_j1 n0 n1 none 0 0 0 w Q)))
def octet_Put_tt : Nat → List (Nat × TypeId) := fun n => match n with | 0 => [(0, 143), (4, 23), (5, 48), (6, 23), (7, 3)] | _ => []
theorem octet_Put_call (n0 : Int) (n1 : Int) (w : World) (Q : Value → World → Prop) (h : octet_Put n0 n1 w Q) : callF Try.prog 85 #[.int .u64 n0, .int .i64 n1] w Q :=
  callF_of (fun _ _ => by kernel_rfl) (callK_of_sw octet_Put_tt Try.func85 rfl (by kernel_rfl) (show sw Try.prog none 42 octet_Put_tt _ 0 (endK Try.prog [.tmp 4, .tmp 5] Q) ⟨regs [.int .u64 n0, .int .i64 n1], []⟩ w from
    Eq.mp (by kernel_rfl : octet_Put n0 n1 w Q = sw Try.prog none 42 octet_Put_tt (Try.f85.body.getD .skip) 0 (endK Try.prog [.tmp 4, .tmp 5] Q) ⟨regs [.int .u64 n0, .int .i64 n1], []⟩ w) h))

def octet_Num (p0 : Option Addr) (l0 : Nat) (c0 : Nat) (w : World) (Q : Value → World → Prop) : Prop :=
  cond (decide (((l0 : Nat) : Int) > 8))
  (Q (.tuple #[.int .u64 0, .int .i64 11]) w)
  (LoopS [.int .u64 0, .int .i64 0, .int .u64 0, .slice p0 l0 c0, .int .i64 ((l0 : Nat) : Int), .int .i64 0] w fun I1 μ1 us1 _ wl1 =>
    ∃ (n2 : Int) (n3 : Int) (n4 : Int) (p10 : Option Addr) (l10 : Nat) (c10 : Nat) (n11 : Int) (n12 : Int), us1 = [.int .u64 n2, .int .i64 n3, .int .u64 n4, .slice p10 l10 c10, .int .i64 n11, .int .i64 n12] ∧
    cond (decide (n12 < n11))
    (∃ (a14 : Addr), IxA Try.prog 23 (.slice p10 l10 c10) (.int .i64 n12) a14 ∧
      ∃ (n15 : Int), Ld Try.prog 5 (.pointer (some a14)) wl1 (.int .u8 n15) ∧
      goesOn [] [] I1 μ1 us1 [.int .u64 n2, .int .i64 n3, .int .u64 (ior .u64 (IntKind.u64.wrap (n4 * 2 ^ 8)) (IntKind.u64.wrap n15)), .slice p10 l10 c10, .int .i64 n11, .int .i64 (IntKind.i64.wrap (n12 + 1))] wl1 wl1)
    (Q (.tuple #[.int .u64 n4, .int .i64 0]) wl1))
def octet_Num_tt : Nat → List (Nat × TypeId) := fun n => match n with | 0 => [(2, 143), (3, 48), (4, 143), (10, 23), (11, 3), (12, 3)] | _ => []
theorem octet_Num_call (p0 : Option Addr) (l0 : Nat) (c0 : Nat) (w : World) (Q : Value → World → Prop) (h : octet_Num p0 l0 c0 w Q) : callF Try.prog 100 #[.slice p0 l0 c0] w Q :=
  callF_of (fun _ _ => by kernel_rfl) (callK_of_sw octet_Num_tt Try.func100 rfl (by kernel_rfl) (show sw Try.prog none 23 octet_Num_tt _ 0 (endK Try.prog [.tmp 2, .tmp 3] Q) ⟨regs [.slice p0 l0 c0], []⟩ w from
    Eq.mp (by kernel_rfl : octet_Num p0 l0 c0 w Q = sw Try.prog none 23 octet_Num_tt (Try.f100.body.getD .skip) 0 (endK Try.prog [.tmp 2, .tmp 3] Q) ⟨regs [.slice p0 l0 c0], []⟩ w) h))
end Go.Sh
end

section
namespace Go.Sh
open Go Go.Fw Go.Proofs
set_option maxRecDepth 100000
set_option linter.unusedVariables false

def count_Next (p0 : Option Addr) (l0 : Nat) (c0 : Nat) (w : World) (Q : Value → World → Prop) : Prop :=
  callF Try.prog 102 #[.slice p0 l0 c0, .int .u64 1] w fun r5 w1 =>
  ∃ (p5 : Option Addr) (l5 : Nat) (c5 : Nat) (n5 : Int), r5 = .tuple #[.slice p5 l5 c5, .int .i64 n5] ∧
  Q (.tuple #[.slice p5 l5 c5, .int .i64 n5]) w1
def count_Next_tt : Nat → List (Nat × TypeId) := fun _ => []
theorem count_Next_call (p0 : Option Addr) (l0 : Nat) (c0 : Nat) (w : World) (Q : Value → World → Prop) (h : count_Next p0 l0 c0 w Q) : callF Try.prog 82 #[.slice p0 l0 c0] w Q :=
  callF_of (fun _ _ => by kernel_rfl) (callK_of_sw count_Next_tt Try.func82 rfl (by kernel_rfl) (show sw Try.prog none 8 count_Next_tt _ 0 (endK Try.prog [.tmp 2, .tmp 3] Q) ⟨regs [.slice p0 l0 c0], []⟩ w from
    Eq.mp (by kernel_rfl : count_Next p0 l0 c0 w Q = sw Try.prog none 8 count_Next_tt (Try.f82.body.getD .skip) 0 (endK Try.prog [.tmp 2, .tmp 3] Q) ⟨regs [.slice p0 l0 c0], []⟩ w) h))

def count_Turn (p0 : Option Addr) (l0 : Nat) (c0 : Nat) (p1 : Option Addr) (l1 : Nat) (c1 : Nat) (p2 : Option Addr) (l2 : Nat) (c2 : Nat) (w : World) (Q : Value → World → Prop) : Prop :=
  callF Try.prog 103 #[.slice p0 l0 c0, .slice p1 l1 c1, .int .i64 ((l2 : Nat) : Int)] w fun r15 w1 =>
  ∃ (p15 : Option Addr) (l15 : Nat) (c15 : Nat) (n15 : Int), r15 = .tuple #[.slice p15 l15 c15, .int .i64 n15] ∧
  cond (n15 != 0)
  (Q (.tuple #[.slice none 0 0, .int .i64 n15]) w1)
  (callF Try.prog 56 #[.slice p15 l15 c15, .slice p2 l2 c2] w1 fun r23 w2 =>
    ∃ (p23 : Option Addr) (l23 : Nat) (c23 : Nat) (n23 : Int), r23 = .tuple #[.slice p23 l23 c23, .int .i64 n23] ∧
    Q (.tuple #[.slice p23 l23 c23, .int .i64 n23]) w2)
def count_Turn_tt : Nat → List (Nat × TypeId) := fun _ => []
theorem count_Turn_call (p0 : Option Addr) (l0 : Nat) (c0 : Nat) (p1 : Option Addr) (l1 : Nat) (c1 : Nat) (p2 : Option Addr) (l2 : Nat) (c2 : Nat) (w : World) (Q : Value → World → Prop) (h : count_Turn p0 l0 c0 p1 l1 c1 p2 l2 c2 w Q) : callF Try.prog 83 #[.slice p0 l0 c0, .slice p1 l1 c1, .slice p2 l2 c2] w Q :=
  callF_of (fun _ _ => by kernel_rfl) (callK_of_sw count_Turn_tt Try.func83 rfl (by kernel_rfl) (show sw Try.prog none 26 count_Turn_tt _ 0 (endK Try.prog [.tmp 6, .tmp 7] Q) ⟨regs [.slice p0 l0 c0, .slice p1 l1 c1, .slice p2 l2 c2], []⟩ w from
    Eq.mp (by kernel_rfl : count_Turn p0 l0 c0 p1 l1 c1 p2 l2 c2 w Q = sw Try.prog none 26 count_Turn_tt (Try.f83.body.getD .skip) 0 (endK Try.prog [.tmp 6, .tmp 7] Q) ⟨regs [.slice p0 l0 c0, .slice p1 l1 c1, .slice p2 l2 c2], []⟩ w) h))

def count_After (p0 : Option Addr) (l0 : Nat) (c0 : Nat) (n1 : Int) (w : World) (Q : Value → World → Prop) : Prop :=
  cond (((l0 : Nat) : Int) != 16)
  (Q (.tuple #[.slice none 0 0, .int .i64 11]) w)
  (∃ (p15 : Option Addr) (l15 : Nat) (c15 : Nat), Pu Try.prog (Instr.sliceAt 23 (.slice p0 l0 c0) (some (.int .i64 12)) none none) (.slice p15 l15 c15) ∧
    callF Try.prog 100 #[.slice p15 l15 c15] w fun r16 w1 =>
    ∃ (n16 : Int) (n16_1 : Int), r16 = .tuple #[.int .u64 n16, .int .i64 n16_1] ∧
    callF Try.prog 85 #[.int .u64 (IntKind.u64.wrap (IntKind.u32.wrap (IntKind.u64.wrap (n16 + n1)))), .int .i64 4] w1 fun r25 w2 =>
    ∃ (p25 : Option Addr) (l25 : Nat) (c25 : Nat) (n25 : Int), r25 = .tuple #[.slice p25 l25 c25, .int .i64 n25] ∧
    ∃ (p29 : Option Addr) (l29 : Nat) (c29 : Nat), Pu Try.prog (Instr.sliceAt 23 (.slice p0 l0 c0) none (some (.int .i64 12)) none) (.slice p29 l29 c29) ∧
    ∃ (p31 : Option Addr) (l31 : Nat) (c31 : Nat) (w3 : World), Ef Try.prog (Instr.buildSlice 91 2 #[(0, .slice p29 l29 c29), (1, .slice p25 l25 c25)]) w2 (.slice p31 l31 c31) w3 ∧
    callF Try.prog 54 #[.slice p31 l31 c31] w3 fun r32 w4 =>
    ∃ (p32 : Option Addr) (l32 : Nat) (c32 : Nat), r32 = .slice p32 l32 c32 ∧
    Q (.tuple #[.slice p32 l32 c32, .int .i64 0]) w4)
def count_After_tt : Nat → List (Nat × TypeId) := fun _ => []
theorem count_After_call (p0 : Option Addr) (l0 : Nat) (c0 : Nat) (n1 : Int) (w : World) (Q : Value → World → Prop) (h : count_After p0 l0 c0 n1 w Q) : callF Try.prog 102 #[.slice p0 l0 c0, .int .u64 n1] w Q :=
  callF_of (fun _ _ => by kernel_rfl) (callK_of_sw count_After_tt Try.func102 rfl (by kernel_rfl) (show sw Try.prog none 33 count_After_tt _ 0 (endK Try.prog [.tmp 4, .tmp 5] Q) ⟨regs [.slice p0 l0 c0, .int .u64 n1], []⟩ w from
    Eq.mp (by kernel_rfl : count_After p0 l0 c0 n1 w Q = sw Try.prog none 33 count_After_tt (Try.f102.body.getD .skip) 0 (endK Try.prog [.tmp 4, .tmp 5] Q) ⟨regs [.slice p0 l0 c0, .int .u64 n1], []⟩ w) h))

def count_Stream_j1 (p1 : Option Addr) (l1 : Nat) (c1 : Nat) (n2 : Int) (p6 : Option Addr) (l6 : Nat) (c6 : Nat) (n7 : Int) (p8 : Option Addr) (w : World) (Q : Value → World → Prop) : Prop :=
  LoopS [.slice p1 l1 c1, .int .i64 n2, .slice p6 l6 c6, .int .i64 n7, .pointer p8, .slice none 0 0] w fun I1 μ1 us1 _ wl1 =>
  ∃ (p1_1 : Option Addr) (l1_1 : Nat) (c1_1 : Nat) (n2_1 : Int) (p6_1 : Option Addr) (l6_1 : Nat) (c6_1 : Nat) (n7_1 : Int) (p8_1 : Option Addr) (p10 : Option Addr) (l10 : Nat) (c10 : Nat), us1 = [.slice p1_1 l1_1 c1_1, .int .i64 n2_1, .slice p6_1 l6_1 c6_1, .int .i64 n7_1, .pointer p8_1, .slice p10 l10 c10] ∧
  cond (decide (((l10 : Nat) : Int) < n2_1))
  (callF Try.prog 50 #[.pointer p8_1, .slice p1_1 l1_1 c1_1] wl1 fun r40 w1 =>
    ∃ (p40 : Option Addr) (l40 : Nat) (c40 : Nat) (n40 : Int), r40 = .tuple #[.slice p40 l40 c40, .int .i64 n40] ∧
    ∃ (p45 : Option Addr) (l45 : Nat) (c45 : Nat) (w2 : World), Ef Try.prog (Builtin.append_ #[23, 23] 23 #[.slice p10 l10 c10, .slice p40 l40 c40]) w1 (.slice p45 l45 c45) w2 ∧
    callF Try.prog 82 #[.slice p1_1 l1_1 c1_1] w2 fun r48 w3 =>
    ∃ (p48 : Option Addr) (l48 : Nat) (c48 : Nat) (n48 : Int), r48 = .tuple #[.slice p48 l48 c48, .int .i64 n48] ∧
    goesOn [] [] I1 μ1 us1 [.slice p48 l48 c48, .int .i64 n2_1, .slice p6_1 l6_1 c6_1, .int .i64 n7_1, .pointer p8_1, .slice p45 l45 c45] wl1 w3)
  (∃ (p54 : Option Addr) (l54 : Nat) (c54 : Nat), Pu Try.prog (Instr.sliceAt 23 (.slice p10 l10 c10) none (some (.int .i64 n2_1)) (some (.int .i64 n2_1))) (.slice p54 l54 c54) ∧
    Q (.tuple #[.slice p54 l54 c54, .int .i64 0]) wl1)
def count_Stream (p0 : Option Addr) (l0 : Nat) (c0 : Nat) (p1 : Option Addr) (l1 : Nat) (c1 : Nat) (n2 : Int) (w : World) (Q : Value → World → Prop) : Prop :=
  callF Try.prog 49 #[.slice p0 l0 c0] w fun r15 w1 =>
  ∃ (p15 : Option Addr) (n15 : Int), r15 = .tuple #[.pointer p15, .int .i64 n15] ∧
  cond (n15 != 0)
  (Q (.tuple #[.slice none 0 0, .int .i64 11]) w1)
  (cond (((l1 : Nat) : Int) != 16)
    (Q (.tuple #[.slice none 0 0, .int .i64 11]) w1)
    (cond (decide (n2 < 0))
      (Q (.tuple #[.slice none 0 0, .int .i64 11]) w1)
      (cond (decide (n2 > 65535))
        (Q (.tuple #[.slice none 0 0, .int .i64 11]) w1)
        (count_Stream_j1 p1 l1 c1 n2 none 0 0 0 p15 w1 Q))))
def count_Stream_tt : Nat → List (Nat × TypeId) := fun n => match n with | 0 => [(1, 23), (2, 3), (6, 23), (7, 48), (8, 92), (10, 23)] | _ => []
theorem count_Stream_call (p0 : Option Addr) (l0 : Nat) (c0 : Nat) (p1 : Option Addr) (l1 : Nat) (c1 : Nat) (n2 : Int) (w : World) (Q : Value → World → Prop) (h : count_Stream p0 l0 c0 p1 l1 c1 n2 w Q) : callF Try.prog 103 #[.slice p0 l0 c0, .slice p1 l1 c1, .int .i64 n2] w Q :=
  callF_of (fun _ _ => by kernel_rfl) (callK_of_sw count_Stream_tt Try.func103 rfl (by kernel_rfl) (show sw Try.prog none 55 count_Stream_tt _ 0 (endK Try.prog [.tmp 6, .tmp 7] Q) ⟨regs [.slice p0 l0 c0, .slice p1 l1 c1, .int .i64 n2], []⟩ w from
    Eq.mp (by kernel_rfl : count_Stream p0 l0 c0 p1 l1 c1 n2 w Q = sw Try.prog none 55 count_Stream_tt (Try.f103.body.getD .skip) 0 (endK Try.prog [.tmp 6, .tmp 7] Q) ⟨regs [.slice p0 l0 c0, .slice p1 l1 c1, .int .i64 n2], []⟩ w) h))
end Go.Sh
end
