/- A part of a proof of a given law of this program: lemmas, printed forms of its functions, contracts. It has no conditions of its own. -/
import Derived.Test.YtlphgbgfnjhhcaaProg
import Derived.Test.YtlphgbgfnjhhcaaMFw

section
namespace Go.Sh
open Go Go.Fw Go.Proofs
set_option maxRecDepth 100000
set_option linter.unusedVariables false

/-! ### crossway/octet.Num: function 122 -/

def octet_Num (p0 : Option Addr) (l0 : Nat) (c0 : Nat) (w : World) (Q : Value → World → Prop) : Prop :=
  cond (decide (((l0 : Nat) : Int) > 8))
  (Q (.tuple #[.int .u64 0, .int .i64 11]) w)
  (LoopS [.int .u64 0, .int .i64 0, .int .u64 0, .slice p0 l0 c0, .int .i64 ((l0 : Nat) : Int), .int .i64 0] w fun I1 μ1 us1 _ wl1 =>
    ∃ (n2 : Int) (n3 : Int) (n4 : Int) (p10 : Option Addr) (l10 : Nat) (c10 : Nat) (n11 : Int) (n12 : Int), us1 = [.int .u64 n2, .int .i64 n3, .int .u64 n4, .slice p10 l10 c10, .int .i64 n11, .int .i64 n12] ∧
    cond (decide (n12 < n11))
    (∃ (a14 : Addr), IxA Try.prog 50 (.slice p10 l10 c10) (.int .i64 n12) a14 ∧
      ∃ (n15 : Int), Ld Try.prog 5 (.pointer (some a14)) wl1 (.int .u8 n15) ∧
      goesOn [] [] I1 μ1 us1 [.int .u64 n2, .int .i64 n3, .int .u64 (ior .u64 (IntKind.u64.wrap (n4 * 2 ^ 8)) (IntKind.u64.wrap n15)), .slice p10 l10 c10, .int .i64 n11, .int .i64 (IntKind.i64.wrap (n12 + 1))] wl1 wl1)
    (Q (.tuple #[.int .u64 n4, .int .i64 0]) wl1))

def octet_Num_tt : Nat → List (Nat × TypeId) := fun n => match n with | 0 => [(2, 45), (3, 32), (4, 45), (10, 50), (11, 3), (12, 3)] | _ => []

theorem octet_Num_call (p0 : Option Addr) (l0 : Nat) (c0 : Nat) (w : World) (Q : Value → World → Prop) (h : octet_Num p0 l0 c0 w Q) : callF Try.prog 122 #[.slice p0 l0 c0] w Q :=
  callF_of (fun _ _ => by kernel_rfl) (callK_of_sw octet_Num_tt Try.func122 rfl (by kernel_rfl) (show sw Try.prog none 23 octet_Num_tt _ 0 (endK Try.prog [.tmp 2, .tmp 3] Q) ⟨regs [.slice p0 l0 c0], []⟩ w from
    Eq.mp (by kernel_rfl : octet_Num p0 l0 c0 w Q = sw Try.prog none 23 octet_Num_tt (Try.f122.body.getD .skip) 0 (endK Try.prog [.tmp 2, .tmp 3] Q) ⟨regs [.slice p0 l0 c0], []⟩ w) h))


/-! ### crossway/octet.Put: function 123 -/

def octet_Put_j1 (n0 : Int) (n1 : Int) (p4 : Option Addr) (l4 : Nat) (c4 : Nat) (n5 : Int) (w : World) (Q : Value → World → Prop) : Prop :=
  ∃ (p26 : Option Addr) (l26 : Nat) (c26 : Nat) (w1 : World), Ef Try.prog (Instr.makeSlice 50 (.int .i64 0) (.int .i64 n1)) w (.slice p26 l26 c26) w1 ∧
  LoopS [.int .u64 n0, .slice p4 l4 c4, .int .i64 n5, .slice p26 l26 c26, .int .i64 (IntKind.i64.wrap (n1 - 1))] w1 fun I1 μ1 us1 _ wl1 =>
  ∃ (n0_1 : Int) (p4_1 : Option Addr) (l4_1 : Nat) (c4_1 : Nat) (n5_1 : Int) (p6 : Option Addr) (l6 : Nat) (c6 : Nat) (n7 : Int), us1 = [.int .u64 n0_1, .slice p4_1 l4_1 c4_1, .int .i64 n5_1, .slice p6 l6 c6, .int .i64 n7] ∧
  cond (decide (n7 ≥ 0))
  (∃ (n37 : Int), Pu Try.prog (do eqGuard .shr 45 (.tmp 34) (.tmp 36) (.int .u64 n0_1) (.int .i64 (IntKind.i64.wrap (8 * n7))); binOp .shr 45 (.int .u64 n0_1) (.int .i64 (IntKind.i64.wrap (8 * n7))) : Sem Value) (.int .u64 n37) ∧
    ∃ (p39 : Option Addr) (l39 : Nat) (c39 : Nat) (w2 : World), Ef Try.prog (Instr.buildSlice 50 1 #[(0, .int .u8 (IntKind.u8.wrap n37))]) wl1 (.slice p39 l39 c39) w2 ∧
    ∃ (p40 : Option Addr) (l40 : Nat) (c40 : Nat) (w3 : World), Ef Try.prog (Builtin.append_ #[50, 50] 50 #[.slice p6 l6 c6, .slice p39 l39 c39]) w2 (.slice p40 l40 c40) w3 ∧
    goesOn [] [] I1 μ1 us1 [.int .u64 n0_1, .slice p4_1 l4_1 c4_1, .int .i64 n5_1, .slice p40 l40 c40, .int .i64 (IntKind.i64.wrap (n7 - 1))] wl1 w3)
  (Q (.tuple #[.slice p6 l6 c6, .int .i64 0]) wl1)

def octet_Put (n0 : Int) (n1 : Int) (w : World) (Q : Value → World → Prop) : Prop :=
  cond (decide (n1 < 0))
  (Q (.tuple #[.slice none 0 0, .int .i64 11]) w)
  (cond (decide (n1 > 8))
    (Q (.tuple #[.slice none 0 0, .int .i64 11]) w)
    (cond (decide (n1 < 8))
      (∃ (n21 : Int), Pu Try.prog (do eqGuard .shr 45 (.tmp 18) (.tmp 20) (.int .u64 n0) (.int .i64 (IntKind.i64.wrap (8 * n1))); binOp .shr 45 (.int .u64 n0) (.int .i64 (IntKind.i64.wrap (8 * n1))) : Sem Value) (.int .u64 n21) ∧
        cond (n21 != 0)
        (Q (.tuple #[.slice none 0 0, .int .i64 11]) w)
        (octet_Put_j1 n0 n1 none 0 0 0 w Q))
      (octet_Put_j1 n0 n1 none 0 0 0 w Q)))

def octet_Put_tt : Nat → List (Nat × TypeId) := fun n => match n with | 0 => [(0, 45), (4, 50), (5, 32), (6, 50), (7, 3)] | _ => []

theorem octet_Put_call (n0 : Int) (n1 : Int) (w : World) (Q : Value → World → Prop) (h : octet_Put n0 n1 w Q) : callF Try.prog 123 #[.int .u64 n0, .int .i64 n1] w Q :=
  callF_of (fun _ _ => by kernel_rfl) (callK_of_sw octet_Put_tt Try.func123 rfl (by kernel_rfl) (show sw Try.prog none 42 octet_Put_tt _ 0 (endK Try.prog [.tmp 4, .tmp 5] Q) ⟨regs [.int .u64 n0, .int .i64 n1], []⟩ w from
    Eq.mp (by kernel_rfl : octet_Put n0 n1 w Q = sw Try.prog none 42 octet_Put_tt (Try.f123.body.getD .skip) 0 (endK Try.prog [.tmp 4, .tmp 5] Q) ⟨regs [.int .u64 n0, .int .i64 n1], []⟩ w) h))


/-! ### crossway/octet.Join: function 124 -/

def octet_Join (p0 : Option Addr) (l0 : Nat) (c0 : Nat) (w : World) (Q : Value → World → Prop) : Prop :=
  callF Try.prog 149 #[.slice p0 l0 c0] w fun r4 w1 =>
  ∃ (p4 : Option Addr) (l4 : Nat) (c4 : Nat), r4 = .slice p4 l4 c4 ∧
  Q (.slice p4 l4 c4) w1

def octet_Join_tt : Nat → List (Nat × TypeId) := fun _ => []

theorem octet_Join_call (p0 : Option Addr) (l0 : Nat) (c0 : Nat) (w : World) (Q : Value → World → Prop) (h : octet_Join p0 l0 c0 w Q) : callF Try.prog 124 #[.slice p0 l0 c0] w Q :=
  callF_of (fun _ _ => by kernel_rfl) (callK_of_sw octet_Join_tt Try.func124 rfl (by kernel_rfl) (show sw Try.prog none 5 octet_Join_tt _ 0 (endK Try.prog [.tmp 2] Q) ⟨regs [.slice p0 l0 c0], []⟩ w from
    Eq.mp (by kernel_rfl : octet_Join p0 l0 c0 w Q = sw Try.prog none 5 octet_Join_tt (Try.f124.body.getD .skip) 0 (endK Try.prog [.tmp 2] Q) ⟨regs [.slice p0 l0 c0], []⟩ w) h))


/-! ### crossway/octet.Xor: function 125 -/

def octet_Xor (p0 : Option Addr) (l0 : Nat) (c0 : Nat) (p1 : Option Addr) (l1 : Nat) (c1 : Nat) (w : World) (Q : Value → World → Prop) : Prop :=
  cond (((l0 : Nat) : Int) != ((l1 : Nat) : Int))
  (Q (.tuple #[.slice none 0 0, .int .i64 11]) w)
  (∃ (p15 : Option Addr) (l15 : Nat) (c15 : Nat) (w1 : World), Ef Try.prog (Instr.makeSlice 50 (.int .i64 ((l0 : Nat) : Int)) (.int .i64 ((l0 : Nat) : Int))) w (.slice p15 l15 c15) w1 ∧
    LoopS [.slice p0 l0 c0, .slice p1 l1 c1, .slice none 0 0, .int .i64 0, .slice p15 l15 c15, .int .i64 ((l15 : Nat) : Int), .int .i64 0] w1 fun I1 μ1 us1 _ wl1 =>
    ∃ (p0_1 : Option Addr) (l0_1 : Nat) (c0_1 : Nat) (p1_1 : Option Addr) (l1_1 : Nat) (c1_1 : Nat) (p4 : Option Addr) (l4 : Nat) (c4 : Nat) (n5 : Int) (p6 : Option Addr) (l6 : Nat) (c6 : Nat) (n17 : Int) (n18 : Int), us1 = [.slice p0_1 l0_1 c0_1, .slice p1_1 l1_1 c1_1, .slice p4 l4 c4, .int .i64 n5, .slice p6 l6 c6, .int .i64 n17, .int .i64 n18] ∧
    cond (decide (n18 < n17))
    (∃ (S7 : World → Prop),
      Drw wl1 fun w2 =>
      ∃ (a25 : Addr), IxA Try.prog 50 (.slice p0_1 l0_1 c0_1) (.int .i64 n18) a25 ∧
      ∃ (a29 : Addr), IxA Try.prog 50 (.slice p1_1 l1_1 c1_1) (.int .i64 n18) a29 ∧
      ∃ (n26 : Int), HLd Try.prog S7 5 (.pointer (some a25)) w2 (.int .u8 n26) ∧
      ∃ (n30 : Int), Ld Try.prog 5 (.pointer (some a29)) w2 (.int .u8 n30) ∧
      (w2 = w2 ∨ S7 w2) ∧
      ∃ (a32 : Addr), IxA Try.prog 50 (.slice p6 l6 c6) (.int .i64 n18) a32 ∧
      ∃ (w3 : World), Sto Try.prog 5 (.pointer (some a32)) (.int .u8 (ixor .u8 n26 n30)) w2 w3 ∧
      goesOn [] [] I1 μ1 us1 [.slice p0_1 l0_1 c0_1, .slice p1_1 l1_1 c1_1, .slice p4 l4 c4, .int .i64 n5, .slice p6 l6 c6, .int .i64 n17, .int .i64 (IntKind.i64.wrap (n18 + 1))] wl1 w3)
    (Q (.tuple #[.slice p6 l6 c6, .int .i64 0]) wl1))

def octet_Xor_tt : Nat → List (Nat × TypeId) := fun n => match n with | 0 => [(0, 50), (1, 50), (4, 50), (5, 32), (6, 50), (17, 3), (18, 3)] | _ => []

theorem octet_Xor_call (p0 : Option Addr) (l0 : Nat) (c0 : Nat) (p1 : Option Addr) (l1 : Nat) (c1 : Nat) (w : World) (Q : Value → World → Prop) (h : octet_Xor p0 l0 c0 p1 l1 c1 w Q) : callF Try.prog 125 #[.slice p0 l0 c0, .slice p1 l1 c1] w Q :=
  callF_of (fun _ _ => by kernel_rfl) (callK_of_sw octet_Xor_tt Try.func125 rfl (by kernel_rfl) (show sw Try.prog none 35 octet_Xor_tt _ 0 (endK Try.prog [.tmp 4, .tmp 5] Q) ⟨regs [.slice p0 l0 c0, .slice p1 l1 c1], []⟩ w from
    Eq.mp (by kernel_rfl : octet_Xor p0 l0 c0 p1 l1 c1 w Q = sw Try.prog none 35 octet_Xor_tt (Try.f125.body.getD .skip) 0 (endK Try.prog [.tmp 4, .tmp 5] Q) ⟨regs [.slice p0 l0 c0, .slice p1 l1 c1], []⟩ w) h))

end Go.Sh
end

section
namespace Go.Sh
open Go Go.Fw Go.Proofs
set_option maxRecDepth 100000
set_option linter.unusedVariables false

/-! ### crossway/count.Next: function 71 -/

def count_Next (p0 : Option Addr) (l0 : Nat) (c0 : Nat) (w : World) (Q : Value → World → Prop) : Prop :=
  callF Try.prog 72 #[.slice p0 l0 c0, .int .u64 1] w fun r5 w1 =>
  ∃ (p5 : Option Addr) (l5 : Nat) (c5 : Nat) (n5 : Int), r5 = .tuple #[.slice p5 l5 c5, .int .i64 n5] ∧
  Q (.tuple #[.slice p5 l5 c5, .int .i64 n5]) w1

def count_Next_tt : Nat → List (Nat × TypeId) := fun _ => []

theorem count_Next_call (p0 : Option Addr) (l0 : Nat) (c0 : Nat) (w : World) (Q : Value → World → Prop) (h : count_Next p0 l0 c0 w Q) : callF Try.prog 71 #[.slice p0 l0 c0] w Q :=
  callF_of (fun _ _ => by kernel_rfl) (callK_of_sw count_Next_tt Try.func71 rfl (by kernel_rfl) (show sw Try.prog none 8 count_Next_tt _ 0 (endK Try.prog [.tmp 2, .tmp 3] Q) ⟨regs [.slice p0 l0 c0], []⟩ w from
    Eq.mp (by kernel_rfl : count_Next p0 l0 c0 w Q = sw Try.prog none 8 count_Next_tt (Try.f71.body.getD .skip) 0 (endK Try.prog [.tmp 2, .tmp 3] Q) ⟨regs [.slice p0 l0 c0], []⟩ w) h))


/-! ### crossway/count.After: function 72 -/

def count_After (p0 : Option Addr) (l0 : Nat) (c0 : Nat) (n1 : Int) (w : World) (Q : Value → World → Prop) : Prop :=
  cond (((l0 : Nat) : Int) != 16)
  (Q (.tuple #[.slice none 0 0, .int .i64 11]) w)
  (∃ (p15 : Option Addr) (l15 : Nat) (c15 : Nat), Pu Try.prog (Instr.sliceAt 50 (.slice p0 l0 c0) (some (.int .i64 12)) none none) (.slice p15 l15 c15) ∧
    callF Try.prog 122 #[.slice p15 l15 c15] w fun r16 w1 =>
    ∃ (n16 : Int) (n16_1 : Int), r16 = .tuple #[.int .u64 n16, .int .i64 n16_1] ∧
    callF Try.prog 123 #[.int .u64 (IntKind.u64.wrap (IntKind.u32.wrap (IntKind.u64.wrap (n16 + n1)))), .int .i64 4] w1 fun r25 w2 =>
    ∃ (p25 : Option Addr) (l25 : Nat) (c25 : Nat) (n25 : Int), r25 = .tuple #[.slice p25 l25 c25, .int .i64 n25] ∧
    ∃ (p29 : Option Addr) (l29 : Nat) (c29 : Nat), Pu Try.prog (Instr.sliceAt 50 (.slice p0 l0 c0) none (some (.int .i64 12)) none) (.slice p29 l29 c29) ∧
    ∃ (p31 : Option Addr) (l31 : Nat) (c31 : Nat) (w3 : World), Ef Try.prog (Instr.buildSlice 68 2 #[(0, .slice p29 l29 c29), (1, .slice p25 l25 c25)]) w2 (.slice p31 l31 c31) w3 ∧
    callF Try.prog 124 #[.slice p31 l31 c31] w3 fun r32 w4 =>
    ∃ (p32 : Option Addr) (l32 : Nat) (c32 : Nat), r32 = .slice p32 l32 c32 ∧
    Q (.tuple #[.slice p32 l32 c32, .int .i64 0]) w4)

def count_After_tt : Nat → List (Nat × TypeId) := fun _ => []

theorem count_After_call (p0 : Option Addr) (l0 : Nat) (c0 : Nat) (n1 : Int) (w : World) (Q : Value → World → Prop) (h : count_After p0 l0 c0 n1 w Q) : callF Try.prog 72 #[.slice p0 l0 c0, .int .u64 n1] w Q :=
  callF_of (fun _ _ => by kernel_rfl) (callK_of_sw count_After_tt Try.func72 rfl (by kernel_rfl) (show sw Try.prog none 33 count_After_tt _ 0 (endK Try.prog [.tmp 4, .tmp 5] Q) ⟨regs [.slice p0 l0 c0, .int .u64 n1], []⟩ w from
    Eq.mp (by kernel_rfl : count_After p0 l0 c0 n1 w Q = sw Try.prog none 33 count_After_tt (Try.f72.body.getD .skip) 0 (endK Try.prog [.tmp 4, .tmp 5] Q) ⟨regs [.slice p0 l0 c0, .int .u64 n1], []⟩ w) h))


/-! ### crossway/count.Turn: function 74 -/

def count_Turn (p0 : Option Addr) (l0 : Nat) (c0 : Nat) (p1 : Option Addr) (l1 : Nat) (c1 : Nat) (p2 : Option Addr) (l2 : Nat) (c2 : Nat) (w : World) (Q : Value → World → Prop) : Prop :=
  callF Try.prog 76 #[.slice p0 l0 c0, .slice p1 l1 c1, .int .i64 ((l2 : Nat) : Int)] w fun r15 w1 =>
  ∃ (p15 : Option Addr) (l15 : Nat) (c15 : Nat) (n15 : Int), r15 = .tuple #[.slice p15 l15 c15, .int .i64 n15] ∧
  cond (n15 != 0)
  (Q (.tuple #[.slice none 0 0, .int .i64 n15]) w1)
  (callF Try.prog 125 #[.slice p15 l15 c15, .slice p2 l2 c2] w1 fun r23 w2 =>
    ∃ (p23 : Option Addr) (l23 : Nat) (c23 : Nat) (n23 : Int), r23 = .tuple #[.slice p23 l23 c23, .int .i64 n23] ∧
    Q (.tuple #[.slice p23 l23 c23, .int .i64 n23]) w2)

def count_Turn_tt : Nat → List (Nat × TypeId) := fun _ => []

theorem count_Turn_call (p0 : Option Addr) (l0 : Nat) (c0 : Nat) (p1 : Option Addr) (l1 : Nat) (c1 : Nat) (p2 : Option Addr) (l2 : Nat) (c2 : Nat) (w : World) (Q : Value → World → Prop) (h : count_Turn p0 l0 c0 p1 l1 c1 p2 l2 c2 w Q) : callF Try.prog 74 #[.slice p0 l0 c0, .slice p1 l1 c1, .slice p2 l2 c2] w Q :=
  callF_of (fun _ _ => by kernel_rfl) (callK_of_sw count_Turn_tt Try.func74 rfl (by kernel_rfl) (show sw Try.prog none 26 count_Turn_tt _ 0 (endK Try.prog [.tmp 6, .tmp 7] Q) ⟨regs [.slice p0 l0 c0, .slice p1 l1 c1, .slice p2 l2 c2], []⟩ w from
    Eq.mp (by kernel_rfl : count_Turn p0 l0 c0 p1 l1 c1 p2 l2 c2 w Q = sw Try.prog none 26 count_Turn_tt (Try.f74.body.getD .skip) 0 (endK Try.prog [.tmp 6, .tmp 7] Q) ⟨regs [.slice p0 l0 c0, .slice p1 l1 c1, .slice p2 l2 c2], []⟩ w) h))


/-! ### crossway/count.Stream: function 76 -/

def count_Stream_j1 (p1 : Option Addr) (l1 : Nat) (c1 : Nat) (n2 : Int) (p6 : Option Addr) (l6 : Nat) (c6 : Nat) (n7 : Int) (p8 : Option Addr) (w : World) (Q : Value → World → Prop) : Prop :=
  LoopS [.slice p1 l1 c1, .int .i64 n2, .slice p6 l6 c6, .int .i64 n7, .pointer p8, .slice none 0 0] w fun I1 μ1 us1 _ wl1 =>
  ∃ (p1_1 : Option Addr) (l1_1 : Nat) (c1_1 : Nat) (n2_1 : Int) (p6_1 : Option Addr) (l6_1 : Nat) (c6_1 : Nat) (n7_1 : Int) (p8_1 : Option Addr) (p10 : Option Addr) (l10 : Nat) (c10 : Nat), us1 = [.slice p1_1 l1_1 c1_1, .int .i64 n2_1, .slice p6_1 l6_1 c6_1, .int .i64 n7_1, .pointer p8_1, .slice p10 l10 c10] ∧
  cond (decide (((l10 : Nat) : Int) < n2_1))
  (callF Try.prog 63 #[.pointer p8_1, .slice p1_1 l1_1 c1_1] wl1 fun r40 w1 =>
    ∃ (p40 : Option Addr) (l40 : Nat) (c40 : Nat) (n40 : Int), r40 = .tuple #[.slice p40 l40 c40, .int .i64 n40] ∧
    ∃ (p45 : Option Addr) (l45 : Nat) (c45 : Nat) (w2 : World), Ef Try.prog (Builtin.append_ #[50, 50] 50 #[.slice p10 l10 c10, .slice p40 l40 c40]) w1 (.slice p45 l45 c45) w2 ∧
    callF Try.prog 71 #[.slice p1_1 l1_1 c1_1] w2 fun r48 w3 =>
    ∃ (p48 : Option Addr) (l48 : Nat) (c48 : Nat) (n48 : Int), r48 = .tuple #[.slice p48 l48 c48, .int .i64 n48] ∧
    goesOn [] [] I1 μ1 us1 [.slice p48 l48 c48, .int .i64 n2_1, .slice p6_1 l6_1 c6_1, .int .i64 n7_1, .pointer p8_1, .slice p45 l45 c45] wl1 w3)
  (∃ (p54 : Option Addr) (l54 : Nat) (c54 : Nat), Pu Try.prog (Instr.sliceAt 50 (.slice p10 l10 c10) none (some (.int .i64 n2_1)) (some (.int .i64 n2_1))) (.slice p54 l54 c54) ∧
    Q (.tuple #[.slice p54 l54 c54, .int .i64 0]) wl1)

def count_Stream (p0 : Option Addr) (l0 : Nat) (c0 : Nat) (p1 : Option Addr) (l1 : Nat) (c1 : Nat) (n2 : Int) (w : World) (Q : Value → World → Prop) : Prop :=
  callF Try.prog 58 #[.slice p0 l0 c0] w fun r15 w1 =>
  ∃ (p15 : Option Addr) (n15 : Int), r15 = .tuple #[.pointer p15, .int .i64 n15] ∧
  cond (n15 != 0)
  (Q (.tuple #[.slice none 0 0, .int .i64 11]) w1)
  (cond (((l1 : Nat) : Int) != 16)
    (Q (.tuple #[.slice none 0 0, .int .i64 11]) w1)
    (cond (decide (n2 < 0))
      (Q (.tuple #[.slice none 0 0, .int .i64 11]) w1)
      (cond (decide (n2 > 65535))
        (Q (.tuple #[.slice none 0 0, .int .i64 11]) w1)
        (count_Stream_j1 p1 l1 c1 n2 none 0 0 0 p15 w1 Q))))

def count_Stream_tt : Nat → List (Nat × TypeId) := fun n => match n with | 0 => [(1, 50), (2, 3), (6, 50), (7, 32), (8, 63), (10, 50)] | _ => []

theorem count_Stream_call (p0 : Option Addr) (l0 : Nat) (c0 : Nat) (p1 : Option Addr) (l1 : Nat) (c1 : Nat) (n2 : Int) (w : World) (Q : Value → World → Prop) (h : count_Stream p0 l0 c0 p1 l1 c1 n2 w Q) : callF Try.prog 76 #[.slice p0 l0 c0, .slice p1 l1 c1, .int .i64 n2] w Q :=
  callF_of (fun _ _ => by kernel_rfl) (callK_of_sw count_Stream_tt Try.func76 rfl (by kernel_rfl) (show sw Try.prog none 55 count_Stream_tt _ 0 (endK Try.prog [.tmp 6, .tmp 7] Q) ⟨regs [.slice p0 l0 c0, .slice p1 l1 c1, .int .i64 n2], []⟩ w from
    Eq.mp (by kernel_rfl : count_Stream p0 l0 c0 p1 l1 c1 n2 w Q = sw Try.prog none 55 count_Stream_tt (Try.f76.body.getD .skip) 0 (endK Try.prog [.tmp 6, .tmp 7] Q) ⟨regs [.slice p0 l0 c0, .slice p1 l1 c1, .int .i64 n2], []⟩ w) h))

end Go.Sh
end

section
namespace Go.Sh
open Go Go.Fw Go.Proofs
set_option maxRecDepth 100000
set_option linter.unusedVariables false

/-! ### crossway/crosswayref06.After: function 73 -/

def ref06_After_j1 (p0 : Option Addr) (l0 : Nat) (c0 : Nat) (n1 : Int) (p4 : Option Addr) (l4 : Nat) (c4 : Nat) (n5 : Int) (w : World) (Q : Value → World → Prop) : Prop :=
  ∃ (p26 : Option Addr) (l26 : Nat) (c26 : Nat) (w1 : World), Ef Try.prog (Instr.buildSlice 50 0 #[]) w (.slice p26 l26 c26) w1 ∧
  ∃ (p28 : Option Addr) (l28 : Nat) (c28 : Nat) (w2 : World), Ef Try.prog (Builtin.append_ #[50, 50] 50 #[.slice p26 l26 c26, .slice p0 l0 c0]) w1 (.slice p28 l28 c28) w2 ∧
  LoopS [.slice p4 l4 c4, .int .u64 (Int.tmod (IntKind.u64.wrap (n5 + (Int.tmod n1 4294967296))) 4294967296), .slice p28 l28 c28, .int .i64 15] w2 fun I2 μ2 us2 _ wl2 =>
  ∃ (p4_1 : Option Addr) (l4_1 : Nat) (c4_1 : Nat) (n5_1 : Int) (p7 : Option Addr) (l7 : Nat) (c7 : Nat) (n8 : Int), us2 = [.slice p4_1 l4_1 c4_1, .int .u64 n5_1, .slice p7 l7 c7, .int .i64 n8] ∧
  cond (decide (n8 ≥ 12))
  (∃ (a38 : Addr), IxA Try.prog 50 (.slice p7 l7 c7) (.int .i64 n8) a38 ∧
    ∃ (w3 : World), Sto Try.prog 5 (.pointer (some a38)) (.int .u8 (IntKind.u8.wrap (Int.tmod n5_1 256))) wl2 w3 ∧
    goesOn [] [] I2 μ2 us2 [.slice p4_1 l4_1 c4_1, .int .u64 (IntKind.u64.wrap (Int.tdiv n5_1 256)), .slice p7 l7 c7, .int .i64 (IntKind.i64.wrap (n8 - 1))] wl2 w3)
  (Q (.slice p7 l7 c7) wl2)

def ref06_After (p0 : Option Addr) (l0 : Nat) (c0 : Nat) (n1 : Int) (w : World) (Q : Value → World → Prop) : Prop :=
  LoopS [.slice p0 l0 c0, .int .u64 n1, .slice none 0 0, .int .u64 0, .int .i64 12] w fun I1 μ1 us1 _ wl1 =>
  ∃ (p0_1 : Option Addr) (l0_1 : Nat) (c0_1 : Nat) (n1_1 : Int) (p4 : Option Addr) (l4 : Nat) (c4 : Nat) (n5 : Int) (n6 : Int), us1 = [.slice p0_1 l0_1 c0_1, .int .u64 n1_1, .slice p4 l4 c4, .int .u64 n5, .int .i64 n6] ∧
  cond (decide (n6 < 16))
  (∃ (a17 : Addr), IxA Try.prog 50 (.slice p0_1 l0_1 c0_1) (.int .i64 n6) a17 ∧
    ∃ (n18 : Int), Ld Try.prog 5 (.pointer (some a17)) wl1 (.int .u8 n18) ∧
    goesOn [] [] I1 μ1 us1 [.slice p0_1 l0_1 c0_1, .int .u64 n1_1, .slice p4 l4 c4, .int .u64 (IntKind.u64.wrap ((IntKind.u64.wrap (n5 * 256)) + (IntKind.u64.wrap n18))), .int .i64 (IntKind.i64.wrap (n6 + 1))] wl1 wl1)
  (ref06_After_j1 p0_1 l0_1 c0_1 n1_1 p4 l4 c4 n5 wl1 Q)

def ref06_After_tt : Nat → List (Nat × TypeId) := fun n => match n with | 0 => [(0, 50), (1, 45), (4, 50), (5, 45), (6, 3)] | 2 => [(4, 50), (5, 45), (7, 50), (8, 3)] | _ => []

theorem ref06_After_call (p0 : Option Addr) (l0 : Nat) (c0 : Nat) (n1 : Int) (w : World) (Q : Value → World → Prop) (h : ref06_After p0 l0 c0 n1 w Q) : callF Try.prog 73 #[.slice p0 l0 c0, .int .u64 n1] w Q :=
  callF_of (fun _ _ => by kernel_rfl) (callK_of_sw ref06_After_tt Try.func73 rfl (by kernel_rfl) (show sw Try.prog none 42 ref06_After_tt _ 0 (endK Try.prog [.tmp 4] Q) ⟨regs [.slice p0 l0 c0, .int .u64 n1], []⟩ w from
    Eq.mp (by kernel_rfl : ref06_After p0 l0 c0 n1 w Q = sw Try.prog none 42 ref06_After_tt (Try.f73.body.getD .skip) 0 (endK Try.prog [.tmp 4] Q) ⟨regs [.slice p0 l0 c0, .int .u64 n1], []⟩ w) h))


/-! ### crossway/crosswayref06.Turn: function 75 -/

def ref06_Turn_j1 (p0 : Option Addr) (l0 : Nat) (c0 : Nat) (p1 : Option Addr) (l1 : Nat) (c1 : Nat) (p2 : Option Addr) (l2 : Nat) (c2 : Nat) (p6 : Option Addr) (l6 : Nat) (c6 : Nat) (n7 : Int) (w : World) (Q : Value → World → Prop) : Prop :=
  callF Try.prog 77 #[.slice p0 l0 c0, .slice p1 l1 c1, .int .i64 ((l2 : Nat) : Int)] w fun r27 w1 =>
  ∃ (p27 : Option Addr) (l27 : Nat) (c27 : Nat), r27 = .slice p27 l27 c27 ∧
  LoopS [.slice p2 l2 c2, .slice p6 l6 c6, .int .i64 n7, .slice p27 l27 c27, .int .i64 0] w1 fun I1 μ1 us1 _ wl1 =>
  ∃ (p2_1 : Option Addr) (l2_1 : Nat) (c2_1 : Nat) (p6_1 : Option Addr) (l6_1 : Nat) (c6_1 : Nat) (n7_1 : Int) (p8 : Option Addr) (l8 : Nat) (c8 : Nat) (n9 : Int), us1 = [.slice p2_1 l2_1 c2_1, .slice p6_1 l6_1 c6_1, .int .i64 n7_1, .slice p8 l8 c8, .int .i64 n9] ∧
  cond (decide (n9 < ((l2_1 : Nat) : Int)))
  (∃ (S7 : World → Prop),
    Drw wl1 fun w2 =>
    ∃ (a36 : Addr), IxA Try.prog 50 (.slice p8 l8 c8) (.int .i64 n9) a36 ∧
    ∃ (a40 : Addr), IxA Try.prog 50 (.slice p2_1 l2_1 c2_1) (.int .i64 n9) a40 ∧
    ∃ (n37 : Int), HLd Try.prog S7 5 (.pointer (some a36)) w2 (.int .u8 n37) ∧
    ∃ (n41 : Int), Ld Try.prog 5 (.pointer (some a40)) w2 (.int .u8 n41) ∧
    (w2 = w2 ∨ S7 w2) ∧
    ∃ (a43 : Addr), IxA Try.prog 50 (.slice p8 l8 c8) (.int .i64 n9) a43 ∧
    ∃ (w3 : World), Sto Try.prog 5 (.pointer (some a43)) (.int .u8 (ixor .u8 n37 n41)) w2 w3 ∧
    goesOn [] [] I1 μ1 us1 [.slice p2_1 l2_1 c2_1, .slice p6_1 l6_1 c6_1, .int .i64 n7_1, .slice p8 l8 c8, .int .i64 (IntKind.i64.wrap (n9 + 1))] wl1 w3)
  (Q (.tuple #[.slice p8 l8 c8, .int .i64 0]) wl1)

def ref06_Turn (p0 : Option Addr) (l0 : Nat) (c0 : Nat) (p1 : Option Addr) (l1 : Nat) (c1 : Nat) (p2 : Option Addr) (l2 : Nat) (c2 : Nat) (w : World) (Q : Value → World → Prop) : Prop :=
  cond (((l0 : Nat) : Int) != 16)
  (Q (.tuple #[.slice none 0 0, .int .i64 11]) w)
  (cond (((l1 : Nat) : Int) != 16)
    (Q (.tuple #[.slice none 0 0, .int .i64 11]) w)
    (cond (decide (((l2 : Nat) : Int) > 65535))
      (Q (.tuple #[.slice none 0 0, .int .i64 11]) w)
      (ref06_Turn_j1 p0 l0 c0 p1 l1 c1 p2 l2 c2 none 0 0 0 w Q)))

def ref06_Turn_tt : Nat → List (Nat × TypeId) := fun n => match n with | 0 => [(2, 50), (6, 50), (7, 32), (8, 50), (9, 3)] | _ => []

theorem ref06_Turn_call (p0 : Option Addr) (l0 : Nat) (c0 : Nat) (p1 : Option Addr) (l1 : Nat) (c1 : Nat) (p2 : Option Addr) (l2 : Nat) (c2 : Nat) (w : World) (Q : Value → World → Prop) (h : ref06_Turn p0 l0 c0 p1 l1 c1 p2 l2 c2 w Q) : callF Try.prog 75 #[.slice p0 l0 c0, .slice p1 l1 c1, .slice p2 l2 c2] w Q :=
  callF_of (fun _ _ => by kernel_rfl) (callK_of_sw ref06_Turn_tt Try.func75 rfl (by kernel_rfl) (show sw Try.prog none 45 ref06_Turn_tt _ 0 (endK Try.prog [.tmp 6, .tmp 7] Q) ⟨regs [.slice p0 l0 c0, .slice p1 l1 c1, .slice p2 l2 c2], []⟩ w from
    Eq.mp (by kernel_rfl : ref06_Turn p0 l0 c0 p1 l1 c1 p2 l2 c2 w Q = sw Try.prog none 45 ref06_Turn_tt (Try.f75.body.getD .skip) 0 (endK Try.prog [.tmp 6, .tmp 7] Q) ⟨regs [.slice p0 l0 c0, .slice p1 l1 c1, .slice p2 l2 c2], []⟩ w) h))


/-! ### crossway/crosswayref06.Stream: function 77 -/

def ref06_Stream (p0 : Option Addr) (l0 : Nat) (c0 : Nat) (p1 : Option Addr) (l1 : Nat) (c1 : Nat) (n2 : Int) (w : World) (Q : Value → World → Prop) : Prop :=
  callF Try.prog 59 #[] w fun r10 w1 =>
  ∃ (p10 : Option Addr) (l10 : Nat) (c10 : Nat), r10 = .slice p10 l10 c10 ∧
  ∃ (p11 : Option Addr) (l11 : Nat) (c11 : Nat) (w2 : World), Ef Try.prog (Instr.buildSlice 50 0 #[]) w1 (.slice p11 l11 c11) w2 ∧
  LoopS [.slice p0 l0 c0, .slice p1 l1 c1, .int .i64 n2, .slice none 0 0, .slice p10 l10 c10, .slice p11 l11 c11, .int .u64 0] w2 fun I1 μ1 us1 _ wl1 =>
  ∃ (p0_1 : Option Addr) (l0_1 : Nat) (c0_1 : Nat) (p1_1 : Option Addr) (l1_1 : Nat) (c1_1 : Nat) (n2_1 : Int) (p6 : Option Addr) (l6 : Nat) (c6 : Nat) (p7 : Option Addr) (l7 : Nat) (c7 : Nat) (p8 : Option Addr) (l8 : Nat) (c8 : Nat) (n9 : Int), us1 = [.slice p0_1 l0_1 c0_1, .slice p1_1 l1_1 c1_1, .int .i64 n2_1, .slice p6 l6 c6, .slice p7 l7 c7, .slice p8 l8 c8, .int .u64 n9] ∧
  cond (decide (((l8 : Nat) : Int) < n2_1))
  (callF Try.prog 73 #[.slice p1_1 l1_1 c1_1, .int .u64 n9] wl1 fun r22 w3 =>
    ∃ (p22 : Option Addr) (l22 : Nat) (c22 : Nat), r22 = .slice p22 l22 c22 ∧
    callF Try.prog 66 #[.slice p0_1 l0_1 c0_1, .slice p22 l22 c22, .slice p7 l7 c7] w3 fun r24 w4 =>
    ∃ (p24 : Option Addr) (l24 : Nat) (c24 : Nat), r24 = .slice p24 l24 c24 ∧
    ∃ (p25 : Option Addr) (l25 : Nat) (c25 : Nat) (w5 : World), Ef Try.prog (Builtin.append_ #[50, 50] 50 #[.slice p8 l8 c8, .slice p24 l24 c24]) w4 (.slice p25 l25 c25) w5 ∧
    goesOn [] [] I1 μ1 us1 [.slice p0_1 l0_1 c0_1, .slice p1_1 l1_1 c1_1, .int .i64 n2_1, .slice p6 l6 c6, .slice p7 l7 c7, .slice p25 l25 c25, .int .u64 (IntKind.u64.wrap (n9 + 1))] wl1 w5)
  (∃ (p28 : Option Addr) (l28 : Nat) (c28 : Nat), Pu Try.prog (Instr.sliceAt 50 (.slice p8 l8 c8) none (some (.int .i64 n2_1)) none) (.slice p28 l28 c28) ∧
    Q (.slice p28 l28 c28) wl1)

def ref06_Stream_tt : Nat → List (Nat × TypeId) := fun n => match n with | 0 => [(0, 50), (1, 50), (2, 3), (6, 50), (7, 50), (8, 50), (9, 45)] | _ => []

theorem ref06_Stream_call (p0 : Option Addr) (l0 : Nat) (c0 : Nat) (p1 : Option Addr) (l1 : Nat) (c1 : Nat) (n2 : Int) (w : World) (Q : Value → World → Prop) (h : ref06_Stream p0 l0 c0 p1 l1 c1 n2 w Q) : callF Try.prog 77 #[.slice p0 l0 c0, .slice p1 l1 c1, .int .i64 n2] w Q :=
  callF_of (fun _ _ => by kernel_rfl) (callK_of_sw ref06_Stream_tt Try.func77 rfl (by kernel_rfl) (show sw Try.prog none 29 ref06_Stream_tt _ 0 (endK Try.prog [.tmp 6] Q) ⟨regs [.slice p0 l0 c0, .slice p1 l1 c1, .int .i64 n2], []⟩ w from
    Eq.mp (by kernel_rfl : ref06_Stream p0 l0 c0 p1 l1 c1 n2 w Q = sw Try.prog none 29 ref06_Stream_tt (Try.f77.body.getD .skip) 0 (endK Try.prog [.tmp 6] Q) ⟨regs [.slice p0 l0 c0, .slice p1 l1 c1, .int .i64 n2], []⟩ w) h))

end Go.Sh
end

section
namespace Go.Sh
open Go Go.Fw Go.Proofs
set_option maxRecDepth 100000
set_option linter.unusedVariables false

/-! ### crossway/crosswaylaw06.CountSteps: function 16 -/

def law06_CountSteps (p0 : Option Addr) (l0 : Nat) (c0 : Nat) (n1 : Int) (w : World) (Q : Value → World → Prop) : Prop :=
  callF Try.prog 70 #[] w fun r10 w1 =>
  ∃ (b10 : Bool), r10 = .bool b10 ∧
  cond (!b10)
  (Q (.bool false) w1)
  (cond (decide (((l0 : Nat) : Int) > 100))
    (Q (.bool true) w1)
    (callF Try.prog 57 #[.slice p0 l0 c0] w1 fun r16 w2 =>
      ∃ (p16 : Option Addr) (l16 : Nat) (c16 : Nat), r16 = .slice p16 l16 c16 ∧
      callF Try.prog 71 #[.slice p16 l16 c16] w2 fun r19 w3 =>
      ∃ (p19 : Option Addr) (l19 : Nat) (c19 : Nat) (n19 : Int), r19 = .tuple #[.slice p19 l19 c19, .int .i64 n19] ∧
      callF Try.prog 72 #[.slice p16 l16 c16, .int .u64 n1] w3 fun r25 w4 =>
      ∃ (p25 : Option Addr) (l25 : Nat) (c25 : Nat) (n25 : Int), r25 = .tuple #[.slice p25 l25 c25, .int .i64 n25] ∧
      cond (((l0 : Nat) : Int) != 16)
      (cond (n19 == 11)
        (cond (n25 == 11)
          (Q (.bool ((IntKind.i64.wrap (((l19 : Nat) : Int) + ((l25 : Nat) : Int))) == 0)) w4)
          (Q (.bool false) w4))
        (Q (.bool false) w4))
      (cond (n19 == 0)
        (cond (n25 == 0)
          (callF Try.prog 73 #[.slice p0 l0 c0, .int .u64 1] w4 fun r54 w5 =>
            ∃ (p54 : Option Addr) (l54 : Nat) (c54 : Nat), r54 = .slice p54 l54 c54 ∧
            callF Try.prog 65 #[.slice p19 l19 c19, .slice p54 l54 c54] w5 fun r55 w6 =>
            ∃ (b55 : Bool), r55 = .bool b55 ∧
            cond b55
            (callF Try.prog 73 #[.slice p0 l0 c0, .int .u64 n1] w6 fun r61 w7 =>
              ∃ (p61 : Option Addr) (l61 : Nat) (c61 : Nat), r61 = .slice p61 l61 c61 ∧
              callF Try.prog 65 #[.slice p25 l25 c25, .slice p61 l61 c61] w7 fun r62 w8 =>
              ∃ (b62 : Bool), r62 = .bool b62 ∧
              cond b62
              (callF Try.prog 65 #[.slice p16 l16 c16, .slice p0 l0 c0] w8 fun r67 w9 =>
                ∃ (b67 : Bool), r67 = .bool b67 ∧
                Q (.bool b67) w9)
              (Q (.bool false) w8))
            (Q (.bool false) w6))
          (Q (.bool false) w4))
        (Q (.bool false) w4))))

def law06_CountSteps_tt : Nat → List (Nat × TypeId) := fun _ => []

theorem law06_CountSteps_call (p0 : Option Addr) (l0 : Nat) (c0 : Nat) (n1 : Int) (w : World) (Q : Value → World → Prop) (h : law06_CountSteps p0 l0 c0 n1 w Q) : callF Try.prog 16 #[.slice p0 l0 c0, .int .u64 n1] w Q :=
  callF_of (fun _ _ => by kernel_rfl) (callK_of_sw law06_CountSteps_tt Try.func16 rfl (by kernel_rfl) (show sw Try.prog none 69 law06_CountSteps_tt _ 0 (endK Try.prog [.tmp 4] Q) ⟨regs [.slice p0 l0 c0, .int .u64 n1], []⟩ w from
    Eq.mp (by kernel_rfl : law06_CountSteps p0 l0 c0 n1 w Q = sw Try.prog none 69 law06_CountSteps_tt (Try.f16.body.getD .skip) 0 (endK Try.prog [.tmp 4] Q) ⟨regs [.slice p0 l0 c0, .int .u64 n1], []⟩ w) h))


/-! ### crossway/crosswaylaw06.CountStreams: function 17 -/

def law06_CountStreams_j1 (p0 : Option Addr) (l0 : Nat) (c0 : Nat) (p1 : Option Addr) (l1 : Nat) (c1 : Nat) (n3 : Int) (b8 : Bool) (p14 : Option Addr) (l14 : Nat) (c14 : Nat) (n15 : Int) (w : World) (Q : Value → World → Prop) : Prop :=
  cond (n15 == 0)
  (callF Try.prog 77 #[.slice p0 l0 c0, .slice p1 l1 c1, .int .i64 n3] w fun r107 w1 =>
    ∃ (p107 : Option Addr) (l107 : Nat) (c107 : Nat), r107 = .slice p107 l107 c107 ∧
    callF Try.prog 65 #[.slice p14 l14 c14, .slice p107 l107 c107] w1 fun r108 w2 =>
    ∃ (b108 : Bool), r108 = .bool b108 ∧
    Q (.bool b108) w2)
  (Q (.bool false) w)

def law06_CountStreams_j2 (p0 : Option Addr) (l0 : Nat) (c0 : Nat) (p1 : Option Addr) (l1 : Nat) (c1 : Nat) (n3 : Int) (b8 : Bool) (p14 : Option Addr) (l14 : Nat) (c14 : Nat) (n15 : Int) (b92 : Bool) (w : World) (Q : Value → World → Prop) : Prop :=
  cond b92
  (cond (n15 == 11)
    (Q (.bool (((l14 : Nat) : Int) == 0)) w)
    (Q (.bool false) w))
  (law06_CountStreams_j1 p0 l0 c0 p1 l1 c1 n3 b8 p14 l14 c14 n15 w Q)

def law06_CountStreams_j3 (p0 : Option Addr) (l0 : Nat) (c0 : Nat) (p1 : Option Addr) (l1 : Nat) (c1 : Nat) (n3 : Int) (b8 : Bool) (p14 : Option Addr) (l14 : Nat) (c14 : Nat) (n15 : Int) (w : World) (Q : Value → World → Prop) : Prop :=
  cond (decide (n3 < 0))
  (law06_CountStreams_j2 p0 l0 c0 p1 l1 c1 n3 b8 p14 l14 c14 n15 true w Q)
  (cond (decide (n3 > 65535))
    (law06_CountStreams_j2 p0 l0 c0 p1 l1 c1 n3 b8 p14 l14 c14 n15 true w Q)
    (cond (((l0 : Nat) : Int) != 16)
      (law06_CountStreams_j2 p0 l0 c0 p1 l1 c1 n3 b8 p14 l14 c14 n15 true w Q)
      (law06_CountStreams_j2 p0 l0 c0 p1 l1 c1 n3 b8 p14 l14 c14 n15 (((l1 : Nat) : Int) != 16) w Q)))

def law06_CountStreams_j4 (p0 : Option Addr) (l0 : Nat) (c0 : Nat) (p1 : Option Addr) (l1 : Nat) (c1 : Nat) (p2 : Option Addr) (l2 : Nat) (c2 : Nat) (n3 : Int) (b8 : Bool) (w : World) (Q : Value → World → Prop) : Prop :=
  callF Try.prog 57 #[.slice p2 l2 c2] w fun r40 w1 =>
  ∃ (p40 : Option Addr) (l40 : Nat) (c40 : Nat), r40 = .slice p40 l40 c40 ∧
  callF Try.prog 74 #[.slice p0 l0 c0, .slice p1 l1 c1, .slice p40 l40 c40] w1 fun r45 w2 =>
  ∃ (p45 : Option Addr) (l45 : Nat) (c45 : Nat) (n45 : Int), r45 = .tuple #[.slice p45 l45 c45, .int .i64 n45] ∧
  callF Try.prog 75 #[.slice p0 l0 c0, .slice p1 l1 c1, .slice p2 l2 c2] w2 fun r52 w3 =>
  ∃ (p52 : Option Addr) (l52 : Nat) (c52 : Nat) (n52 : Int), r52 = .tuple #[.slice p52 l52 c52, .int .i64 n52] ∧
  callF Try.prog 76 #[.slice p0 l0 c0, .slice p1 l1 c1, .int .i64 n3] w3 fun r59 w4 =>
  ∃ (p59 : Option Addr) (l59 : Nat) (c59 : Nat) (n59 : Int), r59 = .tuple #[.slice p59 l59 c59, .int .i64 n59] ∧
  callF Try.prog 65 #[.slice p45 l45 c45, .slice p52 l52 c52] w4 fun r64 w5 =>
  ∃ (b64 : Bool), r64 = .bool b64 ∧
  cond (!b64)
  (Q (.bool false) w5)
  (cond (n45 != n52)
    (Q (.bool false) w5)
    (callF Try.prog 65 #[.slice p40 l40 c40, .slice p2 l2 c2] w5 fun r74 w6 =>
      ∃ (b74 : Bool), r74 = .bool b74 ∧
      cond (!b74)
      (Q (.bool false) w6)
      (law06_CountStreams_j3 p0 l0 c0 p1 l1 c1 n3 b8 p59 l59 c59 n59 w6 Q)))

def law06_CountStreams (p0 : Option Addr) (l0 : Nat) (c0 : Nat) (p1 : Option Addr) (l1 : Nat) (c1 : Nat) (p2 : Option Addr) (l2 : Nat) (c2 : Nat) (n3 : Int) (w : World) (Q : Value → World → Prop) : Prop :=
  callF Try.prog 70 #[] w fun r16 w1 =>
  ∃ (b16 : Bool), r16 = .bool b16 ∧
  cond (!b16)
  (Q (.bool false) w1)
  (cond (decide (((l0 : Nat) : Int) > 100))
    (Q (.bool true) w1)
    (cond (decide (((l1 : Nat) : Int) > 100))
      (Q (.bool true) w1)
      (cond (decide (((l2 : Nat) : Int) > 200))
        (Q (.bool true) w1)
        (cond (decide (n3 > 200))
          (cond (decide (n3 ≤ 65535))
            (Q (.bool true) w1)
            (law06_CountStreams_j4 p0 l0 c0 p1 l1 c1 p2 l2 c2 n3 false w1 Q))
          (law06_CountStreams_j4 p0 l0 c0 p1 l1 c1 p2 l2 c2 n3 false w1 Q)))))

def law06_CountStreams_tt : Nat → List (Nat × TypeId) := fun _ => []

theorem law06_CountStreams_call (p0 : Option Addr) (l0 : Nat) (c0 : Nat) (p1 : Option Addr) (l1 : Nat) (c1 : Nat) (p2 : Option Addr) (l2 : Nat) (c2 : Nat) (n3 : Int) (w : World) (Q : Value → World → Prop) (h : law06_CountStreams p0 l0 c0 p1 l1 c1 p2 l2 c2 n3 w Q) : callF Try.prog 17 #[.slice p0 l0 c0, .slice p1 l1 c1, .slice p2 l2 c2, .int .i64 n3] w Q :=
  callF_of (fun _ _ => by kernel_rfl) (callK_of_sw law06_CountStreams_tt Try.func17 rfl (by kernel_rfl) (show sw Try.prog none 110 law06_CountStreams_tt _ 0 (endK Try.prog [.tmp 8] Q) ⟨regs [.slice p0 l0 c0, .slice p1 l1 c1, .slice p2 l2 c2, .int .i64 n3], []⟩ w from
    Eq.mp (by kernel_rfl : law06_CountStreams p0 l0 c0 p1 l1 c1 p2 l2 c2 n3 w Q = sw Try.prog none 110 law06_CountStreams_tt (Try.f17.body.getD .skip) 0 (endK Try.prog [.tmp 8] Q) ⟨regs [.slice p0 l0 c0, .slice p1 l1 c1, .slice p2 l2 c2, .int .i64 n3], []⟩ w) h))


/-! ### crossway/crosswaylaw06.CountBack: function 18 -/

def law06_CountBack_j1 (p1 : Option Addr) (l1 : Nat) (c1 : Nat) (n4 : Int) (b10 : Bool) (n15 : Int) (p16 : Option Addr) (l16 : Nat) (c16 : Nat) (w : World) (Q : Value → World → Prop) : Prop :=
  callF Try.prog 72 #[.slice p16 l16 c16, .int .u64 (IntKind.u64.wrap n4)] w fun r138 w1 =>
  ∃ (p138 : Option Addr) (l138 : Nat) (c138 : Nat) (n138 : Int), r138 = .tuple #[.slice p138 l138 c138, .int .i64 n138] ∧
  callF Try.prog 72 #[.slice p1 l1 c1, .int .u64 (IntKind.u64.wrap ((IntKind.u64.wrap n15) + (IntKind.u64.wrap n4)))] w1 fun r148 w2 =>
  ∃ (p148 : Option Addr) (l148 : Nat) (c148 : Nat) (n148 : Int), r148 = .tuple #[.slice p148 l148 c148, .int .i64 n148] ∧
  callF Try.prog 72 #[.slice p1 l1 c1, .int .u64 4294967296] w2 fun r153 w3 =>
  ∃ (p153 : Option Addr) (l153 : Nat) (c153 : Nat) (n153 : Int), r153 = .tuple #[.slice p153 l153 c153, .int .i64 n153] ∧
  cond (n138 == 0)
  (cond (n148 == 0)
    (cond (n153 == 0)
      (callF Try.prog 65 #[.slice p138 l138 c138, .slice p148 l148 c148] w3 fun r169 w4 =>
        ∃ (b169 : Bool), r169 = .bool b169 ∧
        cond b169
        (callF Try.prog 65 #[.slice p153 l153 c153, .slice p1 l1 c1] w4 fun r174 w5 =>
          ∃ (b174 : Bool), r174 = .bool b174 ∧
          Q (.bool b174) w5)
        (Q (.bool false) w4))
      (Q (.bool false) w3))
    (Q (.bool false) w3))
  (Q (.bool false) w3)

def law06_CountBack_j2 (p0 : Option Addr) (l0 : Nat) (c0 : Nat) (p1 : Option Addr) (l1 : Nat) (c1 : Nat) (n3 : Int) (n4 : Int) (b10 : Bool) (w : World) (Q : Value → World → Prop) : Prop :=
  callF Try.prog 72 #[.slice p1 l1 c1, .int .u64 (IntKind.u64.wrap (IntKind.i64.wrap (Int.tmod n3 8)))] w fun r83 w1 =>
  ∃ (p83 : Option Addr) (l83 : Nat) (c83 : Nat) (n83 : Int), r83 = .tuple #[.slice p83 l83 c83, .int .i64 n83] ∧
  callF Try.prog 76 #[.slice p0 l0 c0, .slice p1 l1 c1, .int .i64 (IntKind.i64.wrap ((IntKind.i64.wrap (16 * (IntKind.i64.wrap (Int.tmod n3 8)))) + (IntKind.i64.wrap n4)))] w1 fun r94 w2 =>
  ∃ (p94 : Option Addr) (l94 : Nat) (c94 : Nat) (n94 : Int), r94 = .tuple #[.slice p94 l94 c94, .int .i64 n94] ∧
  callF Try.prog 76 #[.slice p0 l0 c0, .slice p83 l83 c83, .int .i64 (IntKind.i64.wrap n4)] w2 fun r102 w3 =>
  ∃ (p102 : Option Addr) (l102 : Nat) (c102 : Nat) (n102 : Int), r102 = .tuple #[.slice p102 l102 c102, .int .i64 n102] ∧
  cond (n83 != 0)
  (Q (.bool false) w3)
  (cond (n94 != 0)
    (Q (.bool false) w3)
    (cond (n102 != 0)
      (Q (.bool false) w3)
      (cond (((l94 : Nat) : Int) != (IntKind.i64.wrap ((IntKind.i64.wrap (16 * (IntKind.i64.wrap (Int.tmod n3 8)))) + (IntKind.i64.wrap n4))))
        (Q (.bool false) w3)
        (∃ (p129 : Option Addr) (l129 : Nat) (c129 : Nat), Pu Try.prog (Instr.sliceAt 50 (.slice p94 l94 c94) (some (.int .i64 (IntKind.i64.wrap (16 * (IntKind.i64.wrap (Int.tmod n3 8)))))) none none) (.slice p129 l129 c129) ∧
          callF Try.prog 65 #[.slice p129 l129 c129, .slice p102 l102 c102] w3 fun r131 w4 =>
          ∃ (b131 : Bool), r131 = .bool b131 ∧
          cond (!b131)
          (Q (.bool false) w4)
          (law06_CountBack_j1 p1 l1 c1 n4 b10 (IntKind.i64.wrap (Int.tmod n3 8)) p83 l83 c83 w4 Q)))))

def law06_CountBack_j3 (p0 : Option Addr) (l0 : Nat) (c0 : Nat) (p1 : Option Addr) (l1 : Nat) (c1 : Nat) (p2 : Option Addr) (l2 : Nat) (c2 : Nat) (n3 : Int) (n4 : Int) (b10 : Bool) (w : World) (Q : Value → World → Prop) : Prop :=
  callF Try.prog 74 #[.slice p0 l0 c0, .slice p1 l1 c1, .slice p2 l2 c2] w fun r47 w1 =>
  ∃ (p47 : Option Addr) (l47 : Nat) (c47 : Nat) (n47 : Int), r47 = .tuple #[.slice p47 l47 c47, .int .i64 n47] ∧
  callF Try.prog 74 #[.slice p0 l0 c0, .slice p1 l1 c1, .slice p47 l47 c47] w1 fun r54 w2 =>
  ∃ (p54 : Option Addr) (l54 : Nat) (c54 : Nat) (n54 : Int), r54 = .tuple #[.slice p54 l54 c54, .int .i64 n54] ∧
  cond (n47 != 0)
  (Q (.bool false) w2)
  (cond (n54 != 0)
    (Q (.bool false) w2)
    (callF Try.prog 65 #[.slice p54 l54 c54, .slice p2 l2 c2] w2 fun r66 w3 =>
      ∃ (b66 : Bool), r66 = .bool b66 ∧
      cond (!b66)
      (Q (.bool false) w3)
      (cond (((l47 : Nat) : Int) != ((l2 : Nat) : Int))
        (Q (.bool false) w3)
        (law06_CountBack_j2 p0 l0 c0 p1 l1 c1 n3 n4 b10 w3 Q))))

def law06_CountBack (p0 : Option Addr) (l0 : Nat) (c0 : Nat) (p1 : Option Addr) (l1 : Nat) (c1 : Nat) (p2 : Option Addr) (l2 : Nat) (c2 : Nat) (n3 : Int) (n4 : Int) (w : World) (Q : Value → World → Prop) : Prop :=
  callF Try.prog 70 #[] w fun r28 w1 =>
  ∃ (b28 : Bool), r28 = .bool b28 ∧
  cond (!b28)
  (Q (.bool false) w1)
  (cond (((l0 : Nat) : Int) != 16)
    (Q (.bool true) w1)
    (cond (((l1 : Nat) : Int) != 16)
      (Q (.bool true) w1)
      (cond (decide (((l2 : Nat) : Int) > 300))
        (Q (.bool true) w1)
        (law06_CountBack_j3 p0 l0 c0 p1 l1 c1 p2 l2 c2 n3 n4 false w1 Q))))

def law06_CountBack_tt : Nat → List (Nat × TypeId) := fun _ => []

theorem law06_CountBack_call (p0 : Option Addr) (l0 : Nat) (c0 : Nat) (p1 : Option Addr) (l1 : Nat) (c1 : Nat) (p2 : Option Addr) (l2 : Nat) (c2 : Nat) (n3 : Int) (n4 : Int) (w : World) (Q : Value → World → Prop) (h : law06_CountBack p0 l0 c0 p1 l1 c1 p2 l2 c2 n3 n4 w Q) : callF Try.prog 18 #[.slice p0 l0 c0, .slice p1 l1 c1, .slice p2 l2 c2, .int .u8 n3, .int .u8 n4] w Q :=
  callF_of (fun _ _ => by kernel_rfl) (callK_of_sw law06_CountBack_tt Try.func18 rfl (by kernel_rfl) (show sw Try.prog none 176 law06_CountBack_tt _ 0 (endK Try.prog [.tmp 10] Q) ⟨regs [.slice p0 l0 c0, .slice p1 l1 c1, .slice p2 l2 c2, .int .u8 n3, .int .u8 n4], []⟩ w from
    Eq.mp (by kernel_rfl : law06_CountBack p0 l0 c0 p1 l1 c1 p2 l2 c2 n3 n4 w Q = sw Try.prog none 176 law06_CountBack_tt (Try.f18.body.getD .skip) 0 (endK Try.prog [.tmp 10] Q) ⟨regs [.slice p0 l0 c0, .slice p1 l1 c1, .slice p2 l2 c2, .int .u8 n3, .int .u8 n4], []⟩ w) h))


/-! ### crossway/crosswaylaw06.CountTurns: function 19 -/

def law06_CountTurns_j1 (p2 : Option Addr) (l2 : Nat) (c2 : Nat) (p3 : Option Addr) (l3 : Nat) (c3 : Nat) (b8 : Bool) (p9 : Option Addr) (l9 : Nat) (c9 : Nat) (p11 : Option Addr) (l11 : Nat) (c11 : Nat) (w : World) (Q : Value → World → Prop) : Prop :=
  LoopS [.slice p2 l2 c2, .slice p3 l3 c3, .bool b8, .slice p9 l9 c9, .slice p11 l11 c11, .int .i64 0] w fun I1 μ1 us1 _ wl1 =>
  ∃ (p2_1 : Option Addr) (l2_1 : Nat) (c2_1 : Nat) (p3_1 : Option Addr) (l3_1 : Nat) (c3_1 : Nat) (b8_1 : Bool) (p9_1 : Option Addr) (l9_1 : Nat) (c9_1 : Nat) (p11_1 : Option Addr) (l11_1 : Nat) (c11_1 : Nat) (n15 : Int), us1 = [.slice p2_1 l2_1 c2_1, .slice p3_1 l3_1 c3_1, .bool b8_1, .slice p9_1 l9_1 c9_1, .slice p11_1 l11_1 c11_1, .int .i64 n15] ∧
  cond (decide (n15 < ((l2_1 : Nat) : Int)))
  (∃ (S13 : World → Prop),
    Drw wl1 fun w1 =>
    ∃ (a108 : Addr), IxA Try.prog 50 (.slice p9_1 l9_1 c9_1) (.int .i64 n15) a108 ∧
    ∃ (a112 : Addr), IxA Try.prog 50 (.slice p11_1 l11_1 c11_1) (.int .i64 n15) a112 ∧
    ∃ (a117 : Addr), IxA Try.prog 50 (.slice p2_1 l2_1 c2_1) (.int .i64 n15) a117 ∧
    ∃ (a121 : Addr), IxA Try.prog 50 (.slice p3_1 l3_1 c3_1) (.int .i64 n15) a121 ∧
    ∃ (n109 : Int), HLd Try.prog S13 5 (.pointer (some a108)) w1 (.int .u8 n109) ∧
    ∃ (n113 : Int), HLd Try.prog S13 5 (.pointer (some a112)) w1 (.int .u8 n113) ∧
    ∃ (n118 : Int), HLd Try.prog S13 5 (.pointer (some a117)) w1 (.int .u8 n118) ∧
    ∃ (n122 : Int), Ld Try.prog 5 (.pointer (some a121)) w1 (.int .u8 n122) ∧
    (w1 = w1 ∨ S13 w1) ∧
    cond ((ixor .u8 n109 n113) != (ixor .u8 n118 n122))
    (Q (.bool false) w1)
    (goesOn [] [] I1 μ1 us1 [.slice p2_1 l2_1 c2_1, .slice p3_1 l3_1 c3_1, .bool b8_1, .slice p9_1 l9_1 c9_1, .slice p11_1 l11_1 c11_1, .int .i64 (IntKind.i64.wrap (n15 + 1))] wl1 w1))
  (Q (.bool true) wl1)

def law06_CountTurns_j2 (p0 : Option Addr) (l0 : Nat) (c0 : Nat) (p1 : Option Addr) (l1 : Nat) (c1 : Nat) (p2 : Option Addr) (l2 : Nat) (c2 : Nat) (p3 : Option Addr) (l3 : Nat) (c3 : Nat) (b8 : Bool) (w : World) (Q : Value → World → Prop) : Prop :=
  callF Try.prog 74 #[.slice p0 l0 c0, .slice p1 l1 c1, .slice p2 l2 c2] w fun r47 w1 =>
  ∃ (p47 : Option Addr) (l47 : Nat) (c47 : Nat) (n47 : Int), r47 = .tuple #[.slice p47 l47 c47, .int .i64 n47] ∧
  callF Try.prog 74 #[.slice p0 l0 c0, .slice p1 l1 c1, .slice p3 l3 c3] w1 fun r54 w2 =>
  ∃ (p54 : Option Addr) (l54 : Nat) (c54 : Nat) (n54 : Int), r54 = .tuple #[.slice p54 l54 c54, .int .i64 n54] ∧
  ∃ (p63 : Option Addr) (l63 : Nat) (c63 : Nat), Pu Try.prog (Instr.sliceAt 50 (.slice p3 l3 c3) none (some (.int .i64 ((l2 : Nat) : Int))) none) (.slice p63 l63 c63) ∧
  callF Try.prog 74 #[.slice p0 l0 c0, .slice p1 l1 c1, .slice p63 l63 c63] w2 fun r64 w3 =>
  ∃ (p64 : Option Addr) (l64 : Nat) (c64 : Nat) (n64 : Int), r64 = .tuple #[.slice p64 l64 c64, .int .i64 n64] ∧
  cond (n47 != 0)
  (Q (.bool false) w3)
  (cond (n54 != 0)
    (Q (.bool false) w3)
    (cond (n64 != 0)
      (Q (.bool false) w3)
      (cond (((l47 : Nat) : Int) != ((l2 : Nat) : Int))
        (Q (.bool false) w3)
        (cond (((l54 : Nat) : Int) != ((l3 : Nat) : Int))
          (Q (.bool false) w3)
          (∃ (p95 : Option Addr) (l95 : Nat) (c95 : Nat), Pu Try.prog (Instr.sliceAt 50 (.slice p54 l54 c54) none (some (.int .i64 ((l2 : Nat) : Int))) none) (.slice p95 l95 c95) ∧
            callF Try.prog 65 #[.slice p95 l95 c95, .slice p64 l64 c64] w3 fun r97 w4 =>
            ∃ (b97 : Bool), r97 = .bool b97 ∧
            cond (!b97)
            (Q (.bool false) w4)
            (law06_CountTurns_j1 p2 l2 c2 p3 l3 c3 b8 p47 l47 c47 p54 l54 c54 w4 Q))))))

def law06_CountTurns (p0 : Option Addr) (l0 : Nat) (c0 : Nat) (p1 : Option Addr) (l1 : Nat) (c1 : Nat) (p2 : Option Addr) (l2 : Nat) (c2 : Nat) (p3 : Option Addr) (l3 : Nat) (c3 : Nat) (w : World) (Q : Value → World → Prop) : Prop :=
  callF Try.prog 70 #[] w fun r16 w1 =>
  ∃ (b16 : Bool), r16 = .bool b16 ∧
  cond (!b16)
  (Q (.bool false) w1)
  (cond (((l0 : Nat) : Int) != 16)
    (Q (.bool true) w1)
    (cond (((l1 : Nat) : Int) != 16)
      (Q (.bool true) w1)
      (cond (decide (((l2 : Nat) : Int) > 200))
        (Q (.bool true) w1)
        (cond (decide (((l3 : Nat) : Int) < ((l2 : Nat) : Int)))
          (Q (.bool true) w1)
          (cond (decide (((l3 : Nat) : Int) > 200))
            (Q (.bool true) w1)
            (law06_CountTurns_j2 p0 l0 c0 p1 l1 c1 p2 l2 c2 p3 l3 c3 false w1 Q))))))

def law06_CountTurns_tt : Nat → List (Nat × TypeId) := fun n => match n with | 0 => [(2, 50), (3, 50), (8, 4), (9, 50), (11, 50), (15, 3)] | _ => []

theorem law06_CountTurns_call (p0 : Option Addr) (l0 : Nat) (c0 : Nat) (p1 : Option Addr) (l1 : Nat) (c1 : Nat) (p2 : Option Addr) (l2 : Nat) (c2 : Nat) (p3 : Option Addr) (l3 : Nat) (c3 : Nat) (w : World) (Q : Value → World → Prop) (h : law06_CountTurns p0 l0 c0 p1 l1 c1 p2 l2 c2 p3 l3 c3 w Q) : callF Try.prog 19 #[.slice p0 l0 c0, .slice p1 l1 c1, .slice p2 l2 c2, .slice p3 l3 c3] w Q :=
  callF_of (fun _ _ => by kernel_rfl) (callK_of_sw law06_CountTurns_tt Try.func19 rfl (by kernel_rfl) (show sw Try.prog none 125 law06_CountTurns_tt _ 0 (endK Try.prog [.tmp 8] Q) ⟨regs [.slice p0 l0 c0, .slice p1 l1 c1, .slice p2 l2 c2, .slice p3 l3 c3], []⟩ w from
    Eq.mp (by kernel_rfl : law06_CountTurns p0 l0 c0 p1 l1 c1 p2 l2 c2 p3 l3 c3 w Q = sw Try.prog none 125 law06_CountTurns_tt (Try.f19.body.getD .skip) 0 (endK Try.prog [.tmp 8] Q) ⟨regs [.slice p0 l0 c0, .slice p1 l1 c1, .slice p2 l2 c2, .slice p3 l3 c3], []⟩ w) h))


/-! ### crossway/crosswaylaw06.alive: function 70 -/

def law06_alive  (w : World) (Q : Value → World → Prop) : Prop :=
  ∃ (p15 : Option Addr) (l15 : Nat) (c15 : Nat) (w1 : World), Ef Try.prog (Instr.makeSlice 50 (.int .i64 16) (.int .i64 16)) w (.slice p15 l15 c15) w1 ∧
  ∃ (p16 : Option Addr) (l16 : Nat) (c16 : Nat) (w2 : World), Ef Try.prog (Instr.buildSlice 50 16 #[(0, .int .u8 1), (1, .int .u8 2), (2, .int .u8 3), (3, .int .u8 4), (4, .int .u8 5), (5, .int .u8 6), (6, .int .u8 7), (7, .int .u8 8), (8, .int .u8 9), (9, .int .u8 10), (10, .int .u8 11), (11, .int .u8 12), (12, .int .u8 255), (13, .int .u8 255), (14, .int .u8 255), (15, .int .u8 255)]) w1 (.slice p16 l16 c16) w2 ∧
  callF Try.prog 71 #[.slice p16 l16 c16] w2 fun r19 w3 =>
  ∃ (p19 : Option Addr) (l19 : Nat) (c19 : Nat) (n19 : Int), r19 = .tuple #[.slice p19 l19 c19, .int .i64 n19] ∧
  callF Try.prog 72 #[.slice p15 l15 c15, .int .u64 258] w3 fun r24 w4 =>
  ∃ (p24 : Option Addr) (l24 : Nat) (c24 : Nat) (n24 : Int), r24 = .tuple #[.slice p24 l24 c24, .int .i64 n24] ∧
  callF Try.prog 76 #[.slice p15 l15 c15, .slice p15 l15 c15, .int .i64 3] w4 fun r30 w5 =>
  ∃ (p30 : Option Addr) (l30 : Nat) (c30 : Nat) (n30 : Int), r30 = .tuple #[.slice p30 l30 c30, .int .i64 n30] ∧
  callF Try.prog 74 #[.slice p15 l15 c15, .slice p15 l15 c15, .slice p30 l30 c30] w5 fun r37 w6 =>
  ∃ (p37 : Option Addr) (l37 : Nat) (c37 : Nat) (n37 : Int), r37 = .tuple #[.slice p37 l37 c37, .int .i64 n37] ∧
  callF Try.prog 71 #[.slice none 0 0] w6 fun r41 w7 =>
  ∃ (p41 : Option Addr) (l41 : Nat) (c41 : Nat) (n41 : Int), r41 = .tuple #[.slice p41 l41 c41, .int .i64 n41] ∧
  callF Try.prog 76 #[.slice p15 l15 c15, .slice p15 l15 c15, .int .i64 (-1)] w7 fun r47 w8 =>
  ∃ (p47 : Option Addr) (l47 : Nat) (c47 : Nat) (n47 : Int), r47 = .tuple #[.slice p47 l47 c47, .int .i64 n47] ∧
  cond (((l24 : Nat) : Int) != 16)
  (Q (.bool false) w8)
  (cond (n19 == 0)
    (cond (n24 == 0)
      (cond (n30 == 0)
        (cond (n37 == 0)
          (cond (n41 == 11)
            (cond (n47 == 11)
              (∃ (p77 : Option Addr) (l77 : Nat) (c77 : Nat) (w9 : World), Ef Try.prog (Instr.buildSlice 50 16 #[(0, .int .u8 1), (1, .int .u8 2), (2, .int .u8 3), (3, .int .u8 4), (4, .int .u8 5), (5, .int .u8 6), (6, .int .u8 7), (7, .int .u8 8), (8, .int .u8 9), (9, .int .u8 10), (10, .int .u8 11), (11, .int .u8 12), (12, .int .u8 0), (13, .int .u8 0), (14, .int .u8 0), (15, .int .u8 0)]) w8 (.slice p77 l77 c77) w9 ∧
                callF Try.prog 65 #[.slice p19 l19 c19, .slice p77 l77 c77] w9 fun r78 w10 =>
                ∃ (b78 : Bool), r78 = .bool b78 ∧
                cond b78
                (∃ (a82 : Addr), IxA Try.prog 50 (.slice p24 l24 c24) (.int .i64 14) a82 ∧
                  ∃ (n83 : Int), Ld Try.prog 5 (.pointer (some a82)) w10 (.int .u8 n83) ∧
                  cond (n83 == 1)
                  (∃ (a88 : Addr), IxA Try.prog 50 (.slice p24 l24 c24) (.int .i64 15) a88 ∧
                    ∃ (n89 : Int), Ld Try.prog 5 (.pointer (some a88)) w10 (.int .u8 n89) ∧
                    cond (n89 == 2)
                    (∃ (p94 : Option Addr) (l94 : Nat) (c94 : Nat) (w11 : World), Ef Try.prog (Instr.buildSlice 50 3 #[(0, .int .u8 102), (1, .int .u8 233), (2, .int .u8 75)]) w10 (.slice p94 l94 c94) w11 ∧
                      callF Try.prog 65 #[.slice p30 l30 c30, .slice p94 l94 c94] w11 fun r95 w12 =>
                      ∃ (b95 : Bool), r95 = .bool b95 ∧
                      cond b95
                      (∃ (p99 : Option Addr) (l99 : Nat) (c99 : Nat) (w13 : World), Ef Try.prog (Instr.buildSlice 50 3 #[(0, .int .u8 0), (1, .int .u8 0), (2, .int .u8 0)]) w12 (.slice p99 l99 c99) w13 ∧
                        callF Try.prog 65 #[.slice p37 l37 c37, .slice p99 l99 c99] w13 fun r100 w14 =>
                        ∃ (b100 : Bool), r100 = .bool b100 ∧
                        Q (.bool b100) w14)
                      (Q (.bool false) w12))
                    (Q (.bool false) w10))
                  (Q (.bool false) w10))
                (Q (.bool false) w10))
              (Q (.bool false) w8))
            (Q (.bool false) w8))
          (Q (.bool false) w8))
        (Q (.bool false) w8))
      (Q (.bool false) w8))
    (Q (.bool false) w8))

def law06_alive_tt : Nat → List (Nat × TypeId) := fun _ => []

theorem law06_alive_call  (w : World) (Q : Value → World → Prop) (h : law06_alive  w Q) : callF Try.prog 70 #[] w Q :=
  callF_of (fun _ _ => by kernel_rfl) (callK_of_sw law06_alive_tt Try.func70 rfl (by kernel_rfl) (show sw Try.prog none 102 law06_alive_tt _ 0 (endK Try.prog [.tmp 0] Q) ⟨regs [], []⟩ w from
    Eq.mp (by kernel_rfl : law06_alive  w Q = sw Try.prog none 102 law06_alive_tt (Try.f70.body.getD .skip) 0 (endK Try.prog [.tmp 0] Q) ⟨regs [], []⟩ w) h))

end Go.Sh
end
