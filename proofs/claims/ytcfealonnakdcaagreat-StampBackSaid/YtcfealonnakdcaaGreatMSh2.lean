/- A part of a proof of a given law of this program: lemmas, printed forms of its functions, contracts. It has no conditions of its own. -/
import Derived.Test.YtcfealonnakdcaaGreatProg
import Derived.Test.YtcfealonnakdcaaGreatMFw

section
namespace Go.Sh
open Go Go.Fw Go.Proofs
set_option maxRecDepth 100000
set_option linter.unusedVariables false
def octet_Join (p0 : Option Addr) (l0 : Nat) (c0 : Nat) (w : World) (Q : Value → World → Prop) : Prop :=
  callF Tryz.prog 188 #[.slice p0 l0 c0] w fun r4 w1 =>
  ∃ p4 l4 c4, r4 = .slice p4 l4 c4 ∧
  Q (.slice p4 l4 c4) w1
def octet_Join_tt : Nat → List (Nat × TypeId) := fun _ => []
theorem octet_Join_call (p0 : Option Addr) (l0 : Nat) (c0 : Nat) (w : World) (Q : Value → World → Prop) (h : octet_Join p0 l0 c0 w Q) : callF Tryz.prog 112 #[.slice p0 l0 c0] w Q :=
  callBy octet_Join_tt Tryz.func112 h (fun _ _ => by kernel_rfl) (by kernel_rfl) (by kernel_rfl) (by kernel_rfl)
def octet_Unhex (s0 : ByteArray) (w : World) (Q : Value → World → Prop) : Prop :=
  cond ((Int.tmod ((s0.size : Nat) : Int) 2) != 0)
  (Q (.tuple #[.slice none 0 0, .int .i64 10]) w)
  (LoopS [.string s0, .slice none 0 0, .int .i64 0, .slice none 0 0] w fun I1 μ1 us1 _ wl1 =>
    ∃ s0_1 p2 l2 c2 n3 p4 l4 c4, us1 = [.string s0_1, .slice p2 l2 c2, .int .i64 n3, .slice p4 l4 c4] ∧
    ∃ b12 w1, Ef Tryz.prog (do eqGuard .neq 9 (.tmp 11) (.const (.string (⟨#[]⟩ : ByteArray))) (.string s0_1) (.string (⟨#[]⟩ : ByteArray)); binOp .neq 9 (.string s0_1) (.string (⟨#[]⟩ : ByteArray)) : Sem Value) wl1 (.bool b12) w1 ∧
    cond b12
    (Drw w1 fun w2 =>
      ∃ n16, Pu Tryz.prog (Instr.index 9 (.string s0_1) (.int .i64 0)) (.int .u8 n16) ∧
      ∃ n19, Pu Tryz.prog (Instr.index 9 (.string s0_1) (.int .i64 1)) (.int .u8 n19) ∧
      callF Tryz.prog 190 #[.string (⟨#[48, 49, 50, 51, 52, 53, 54, 55, 56, 57, 97, 98, 99, 100, 101, 102]⟩ : ByteArray), .int .u8 n16] w2 fun r17 w3 =>
      ∃ n17, r17 = .int .i64 n17 ∧
      callF Tryz.prog 190 #[.string (⟨#[48, 49, 50, 51, 52, 53, 54, 55, 56, 57, 97, 98, 99, 100, 101, 102]⟩ : ByteArray), .int .u8 n19] w3 fun r20 w4 =>
      ∃ n20, r20 = .int .i64 n20 ∧
      ∃ n23, Pu Tryz.prog (Builtin.min_ #[3, 3] 3 #[.int .i64 n17, .int .i64 n20]) (.int .i64 n23) ∧
      cond (decide (n23 < 0))
      (Q (.tuple #[.slice none 0 0, .int .i64 10]) w4)
      (∃ p31 l31 c31 w5, Ef Tryz.prog (Instr.buildSlice 25 1 #[(0, .int .u8 (IntKind.u8.wrap (ior .i64 (IntKind.i64.wrap (n17 * 2 ^ 4)) n20)))]) w4 (.slice p31 l31 c31) w5 ∧
        ∃ p32 l32 c32 w6, Ef Tryz.prog (Builtin.append_ #[25, 25] 25 #[.slice p4 l4 c4, .slice p31 l31 c31]) w5 (.slice p32 l32 c32) w6 ∧
        ∃ s14, Pu Tryz.prog (Instr.sliceAt 9 (.string s0_1) (some (.int .i64 2)) none none) (.string s14) ∧
        goesOn [] [] I1 μ1 us1 [.string s14, .slice p2 l2 c2, .int .i64 n3, .slice p32 l32 c32] wl1 w6))
    (Q (.tuple #[.slice p4 l4 c4, .int .i64 0]) w1))
def octet_Unhex_tt : Nat → List (Nat × TypeId) := fun n => match n with | 0 => [(0, 9), (2, 25), (3, 33), (4, 25)] | _ => []
theorem octet_Unhex_call (s0 : ByteArray) (w : World) (Q : Value → World → Prop) (h : octet_Unhex s0 w Q) : callF Tryz.prog 120 #[.string s0] w Q :=
  callBy octet_Unhex_tt Tryz.func120 h (fun _ _ => by kernel_rfl) (by kernel_rfl) (by kernel_rfl) (by kernel_rfl)
def octet_Equal (p0 : Option Addr) (l0 : Nat) (c0 : Nat) (p1 : Option Addr) (l1 : Nat) (c1 : Nat) (w : World) (Q : Value → World → Prop) : Prop :=
  cond (((l0 : Nat) : Int) != ((l1 : Nat) : Int))
  (Q (.bool false) w)
  (LoopS [.slice p0 l0 c0, .slice p1 l1 c1, .bool false, .int .u8 0, .int .i64 ((l0 : Nat) : Int), .int .i64 0] w fun I1 μ1 us1 _ wl1 =>
    ∃ p0_1 l0_1 c0_1 p1_1 l1_1 c1_1 b4 n5 n13 n14, us1 = [.slice p0_1 l0_1 c0_1, .slice p1_1 l1_1 c1_1, .bool b4, .int .u8 n5, .int .i64 n13, .int .i64 n14] ∧
    cond (decide (n14 < n13))
    (∃ (S7 : World → Prop),
      Drw wl1 fun w1 =>
      ∃ a20, IxA Tryz.prog 25 (.slice p0_1 l0_1 c0_1) (.int .i64 n14) a20 ∧
      ∃ a24, IxA Tryz.prog 25 (.slice p1_1 l1_1 c1_1) (.int .i64 n14) a24 ∧
      ∃ n21, HLd Tryz.prog S7 5 (.pointer (some a20)) w1 (.int .u8 n21) ∧
      ∃ n25, Ld Tryz.prog 5 (.pointer (some a24)) w1 (.int .u8 n25) ∧
      (w1 = w1 ∨ S7 w1) ∧
      goesOn [] [] I1 μ1 us1 [.slice p0_1 l0_1 c0_1, .slice p1_1 l1_1 c1_1, .bool b4, .int .u8 (ior .u8 n5 (ixor .u8 n21 n25)), .int .i64 n13, .int .i64 (IntKind.i64.wrap (n14 + 1))] wl1 w1)
    (Q (.bool (n5 == 0)) wl1))
def octet_Equal_tt : Nat → List (Nat × TypeId) := fun n => match n with | 0 => [(0, 25), (1, 25), (4, 4), (5, 5), (13, 3), (14, 3)] | _ => []
theorem octet_Equal_call (p0 : Option Addr) (l0 : Nat) (c0 : Nat) (p1 : Option Addr) (l1 : Nat) (c1 : Nat) (w : World) (Q : Value → World → Prop) (h : octet_Equal p0 l0 c0 p1 l1 c1 w Q) : callF Tryz.prog 136 #[.slice p0 l0 c0, .slice p1 l1 c1] w Q :=
  callBy octet_Equal_tt Tryz.func136 h (fun _ _ => by kernel_rfl) (by kernel_rfl) (by kernel_rfl) (by kernel_rfl)
def octet_Put_j1 (n0 : Int) (n1 : Int) (p4 : Option Addr) (l4 : Nat) (c4 : Nat) (n5 : Int) (w : World) (Q : Value → World → Prop) : Prop :=
  ∃ p26 l26 c26 w1, Ef Tryz.prog (Instr.makeSlice 25 (.int .i64 0) (.int .i64 n1)) w (.slice p26 l26 c26) w1 ∧
  LoopS [.int .u64 n0, .slice p4 l4 c4, .int .i64 n5, .slice p26 l26 c26, .int .i64 (IntKind.i64.wrap (n1 - 1))] w1 fun I1 μ1 us1 _ wl1 =>
  ∃ n0_1 p4_1 l4_1 c4_1 n5_1 p6 l6 c6 n7, us1 = [.int .u64 n0_1, .slice p4_1 l4_1 c4_1, .int .i64 n5_1, .slice p6 l6 c6, .int .i64 n7] ∧
  cond (decide (n7 ≥ 0))
  (∃ n37, Pu Tryz.prog (do eqGuard .shr 88 (.tmp 34) (.tmp 36) (.int .u64 n0_1) (.int .i64 (IntKind.i64.wrap (8 * n7))); binOp .shr 88 (.int .u64 n0_1) (.int .i64 (IntKind.i64.wrap (8 * n7))) : Sem Value) (.int .u64 n37) ∧
    ∃ p39 l39 c39 w2, Ef Tryz.prog (Instr.buildSlice 25 1 #[(0, .int .u8 (IntKind.u8.wrap n37))]) wl1 (.slice p39 l39 c39) w2 ∧
    ∃ p40 l40 c40 w3, Ef Tryz.prog (Builtin.append_ #[25, 25] 25 #[.slice p6 l6 c6, .slice p39 l39 c39]) w2 (.slice p40 l40 c40) w3 ∧
    goesOn [] [] I1 μ1 us1 [.int .u64 n0_1, .slice p4_1 l4_1 c4_1, .int .i64 n5_1, .slice p40 l40 c40, .int .i64 (IntKind.i64.wrap (n7 - 1))] wl1 w3)
  (Q (.tuple #[.slice p6 l6 c6, .int .i64 0]) wl1)
def octet_Put (n0 : Int) (n1 : Int) (w : World) (Q : Value → World → Prop) : Prop :=
  cond (decide (n1 < 0))
  (Q (.tuple #[.slice none 0 0, .int .i64 11]) w)
  (cond (decide (n1 > 8))
    (Q (.tuple #[.slice none 0 0, .int .i64 11]) w)
    (cond (decide (n1 < 8))
      (∃ n21, Pu Tryz.prog (do eqGuard .shr 88 (.tmp 18) (.tmp 20) (.int .u64 n0) (.int .i64 (IntKind.i64.wrap (8 * n1))); binOp .shr 88 (.int .u64 n0) (.int .i64 (IntKind.i64.wrap (8 * n1))) : Sem Value) (.int .u64 n21) ∧
        cond (n21 != 0)
        (Q (.tuple #[.slice none 0 0, .int .i64 11]) w)
        (octet_Put_j1 n0 n1 none 0 0 0 w Q))
      (octet_Put_j1 n0 n1 none 0 0 0 w Q)))
def octet_Put_tt : Nat → List (Nat × TypeId) := fun n => match n with | 0 => [(0, 88), (4, 25), (5, 33), (6, 25), (7, 3)] | _ => []
theorem octet_Put_call (n0 : Int) (n1 : Int) (w : World) (Q : Value → World → Prop) (h : octet_Put n0 n1 w Q) : callF Tryz.prog 204 #[.int .u64 n0, .int .i64 n1] w Q :=
  callBy octet_Put_tt Tryz.func204 h (fun _ _ => by kernel_rfl) (by kernel_rfl) (by kernel_rfl) (by kernel_rfl)
def octet_Num (p0 : Option Addr) (l0 : Nat) (c0 : Nat) (w : World) (Q : Value → World → Prop) : Prop :=
  cond (decide (((l0 : Nat) : Int) > 8))
  (Q (.tuple #[.int .u64 0, .int .i64 11]) w)
  (LoopS [.int .u64 0, .int .i64 0, .int .u64 0, .slice p0 l0 c0, .int .i64 ((l0 : Nat) : Int), .int .i64 0] w fun I1 μ1 us1 _ wl1 =>
    ∃ n2 n3 n4 p10 l10 c10 n11 n12, us1 = [.int .u64 n2, .int .i64 n3, .int .u64 n4, .slice p10 l10 c10, .int .i64 n11, .int .i64 n12] ∧
    cond (decide (n12 < n11))
    (∃ a14, IxA Tryz.prog 25 (.slice p10 l10 c10) (.int .i64 n12) a14 ∧
      ∃ n15, Ld Tryz.prog 5 (.pointer (some a14)) wl1 (.int .u8 n15) ∧
      goesOn [] [] I1 μ1 us1 [.int .u64 n2, .int .i64 n3, .int .u64 (ior .u64 (IntKind.u64.wrap (n4 * 2 ^ 8)) (IntKind.u64.wrap n15)), .slice p10 l10 c10, .int .i64 n11, .int .i64 (IntKind.i64.wrap (n12 + 1))] wl1 wl1)
    (Q (.tuple #[.int .u64 n4, .int .i64 0]) wl1))
def octet_Num_tt : Nat → List (Nat × TypeId) := fun n => match n with | 0 => [(2, 88), (3, 33), (4, 88), (10, 25), (11, 3), (12, 3)] | _ => []
theorem octet_Num_call (p0 : Option Addr) (l0 : Nat) (c0 : Nat) (w : World) (Q : Value → World → Prop) (h : octet_Num p0 l0 c0 w Q) : callF Tryz.prog 205 #[.slice p0 l0 c0] w Q :=
  callBy octet_Num_tt Tryz.func205 h (fun _ _ => by kernel_rfl) (by kernel_rfl) (by kernel_rfl) (by kernel_rfl)
def octet_Xor (p0 : Option Addr) (l0 : Nat) (c0 : Nat) (p1 : Option Addr) (l1 : Nat) (c1 : Nat) (w : World) (Q : Value → World → Prop) : Prop :=
  cond (((l0 : Nat) : Int) != ((l1 : Nat) : Int))
  (Q (.tuple #[.slice none 0 0, .int .i64 11]) w)
  (∃ p15 l15 c15 w1, Ef Tryz.prog (Instr.makeSlice 25 (.int .i64 ((l0 : Nat) : Int)) (.int .i64 ((l0 : Nat) : Int))) w (.slice p15 l15 c15) w1 ∧
    LoopS [.slice p0 l0 c0, .slice p1 l1 c1, .slice none 0 0, .int .i64 0, .slice p15 l15 c15, .int .i64 ((l15 : Nat) : Int), .int .i64 0] w1 fun I1 μ1 us1 _ wl1 =>
    ∃ p0_1 l0_1 c0_1 p1_1 l1_1 c1_1 p4 l4 c4 n5 p6 l6 c6 n17 n18, us1 = [.slice p0_1 l0_1 c0_1, .slice p1_1 l1_1 c1_1, .slice p4 l4 c4, .int .i64 n5, .slice p6 l6 c6, .int .i64 n17, .int .i64 n18] ∧
    cond (decide (n18 < n17))
    (∃ (S7 : World → Prop),
      Drw wl1 fun w2 =>
      ∃ a25, IxA Tryz.prog 25 (.slice p0_1 l0_1 c0_1) (.int .i64 n18) a25 ∧
      ∃ a29, IxA Tryz.prog 25 (.slice p1_1 l1_1 c1_1) (.int .i64 n18) a29 ∧
      ∃ n26, HLd Tryz.prog S7 5 (.pointer (some a25)) w2 (.int .u8 n26) ∧
      ∃ n30, Ld Tryz.prog 5 (.pointer (some a29)) w2 (.int .u8 n30) ∧
      (w2 = w2 ∨ S7 w2) ∧
      ∃ a32, IxA Tryz.prog 25 (.slice p6 l6 c6) (.int .i64 n18) a32 ∧
      ∃ w3, Sto Tryz.prog 5 (.pointer (some a32)) (.int .u8 (ixor .u8 n26 n30)) w2 w3 ∧
      goesOn [] [] I1 μ1 us1 [.slice p0_1 l0_1 c0_1, .slice p1_1 l1_1 c1_1, .slice p4 l4 c4, .int .i64 n5, .slice p6 l6 c6, .int .i64 n17, .int .i64 (IntKind.i64.wrap (n18 + 1))] wl1 w3)
    (Q (.tuple #[.slice p6 l6 c6, .int .i64 0]) wl1))
def octet_Xor_tt : Nat → List (Nat × TypeId) := fun n => match n with | 0 => [(0, 25), (1, 25), (4, 25), (5, 33), (6, 25), (17, 3), (18, 3)] | _ => []
theorem octet_Xor_call (p0 : Option Addr) (l0 : Nat) (c0 : Nat) (p1 : Option Addr) (l1 : Nat) (c1 : Nat) (w : World) (Q : Value → World → Prop) (h : octet_Xor p0 l0 c0 p1 l1 c1 w Q) : callF Tryz.prog 249 #[.slice p0 l0 c0, .slice p1 l1 c1] w Q :=
  callBy octet_Xor_tt Tryz.func249 h (fun _ _ => by kernel_rfl) (by kernel_rfl) (by kernel_rfl) (by kernel_rfl)
end Go.Sh
end

section
namespace Go.Sh
open Go Go.Fw Go.Proofs
set_option maxRecDepth 100000
set_option linter.unusedVariables false
def count_Next (p0 : Option Addr) (l0 : Nat) (c0 : Nat) (w : World) (Q : Value → World → Prop) : Prop :=
  callF Tryz.prog 272 #[.slice p0 l0 c0, .int .u64 1] w fun r5 w1 =>
  ∃ p5 l5 c5 n5, r5 = .tuple #[.slice p5 l5 c5, .int .i64 n5] ∧
  Q (.tuple #[.slice p5 l5 c5, .int .i64 n5]) w1
def count_Next_tt : Nat → List (Nat × TypeId) := fun _ => []
theorem count_Next_call (p0 : Option Addr) (l0 : Nat) (c0 : Nat) (w : World) (Q : Value → World → Prop) (h : count_Next p0 l0 c0 w Q) : callF Tryz.prog 246 #[.slice p0 l0 c0] w Q :=
  callBy count_Next_tt Tryz.func246 h (fun _ _ => by kernel_rfl) (by kernel_rfl) (by kernel_rfl) (by kernel_rfl)
def count_Turn (p0 : Option Addr) (l0 : Nat) (c0 : Nat) (p1 : Option Addr) (l1 : Nat) (c1 : Nat) (p2 : Option Addr) (l2 : Nat) (c2 : Nat) (w : World) (Q : Value → World → Prop) : Prop :=
  callF Tryz.prog 273 #[.slice p0 l0 c0, .slice p1 l1 c1, .int .i64 ((l2 : Nat) : Int)] w fun r15 w1 =>
  ∃ p15 l15 c15 n15, r15 = .tuple #[.slice p15 l15 c15, .int .i64 n15] ∧
  cond (n15 != 0)
  (Q (.tuple #[.slice none 0 0, .int .i64 n15]) w1)
  (callF Tryz.prog 249 #[.slice p15 l15 c15, .slice p2 l2 c2] w1 fun r23 w2 =>
    ∃ p23 l23 c23 n23, r23 = .tuple #[.slice p23 l23 c23, .int .i64 n23] ∧
    Q (.tuple #[.slice p23 l23 c23, .int .i64 n23]) w2)
def count_Turn_tt : Nat → List (Nat × TypeId) := fun _ => []
theorem count_Turn_call (p0 : Option Addr) (l0 : Nat) (c0 : Nat) (p1 : Option Addr) (l1 : Nat) (c1 : Nat) (p2 : Option Addr) (l2 : Nat) (c2 : Nat) (w : World) (Q : Value → World → Prop) (h : count_Turn p0 l0 c0 p1 l1 c1 p2 l2 c2 w Q) : callF Tryz.prog 248 #[.slice p0 l0 c0, .slice p1 l1 c1, .slice p2 l2 c2] w Q :=
  callBy count_Turn_tt Tryz.func248 h (fun _ _ => by kernel_rfl) (by kernel_rfl) (by kernel_rfl) (by kernel_rfl)
def count_After (p0 : Option Addr) (l0 : Nat) (c0 : Nat) (n1 : Int) (w : World) (Q : Value → World → Prop) : Prop :=
  cond (((l0 : Nat) : Int) != 16)
  (Q (.tuple #[.slice none 0 0, .int .i64 11]) w)
  (∃ p15 l15 c15, Pu Tryz.prog (Instr.sliceAt 25 (.slice p0 l0 c0) (some (.int .i64 12)) none none) (.slice p15 l15 c15) ∧
    callF Tryz.prog 205 #[.slice p15 l15 c15] w fun r16 w1 =>
    ∃ n16 n16_1, r16 = .tuple #[.int .u64 n16, .int .i64 n16_1] ∧
    callF Tryz.prog 204 #[.int .u64 (IntKind.u64.wrap (IntKind.u32.wrap (IntKind.u64.wrap (n16 + n1)))), .int .i64 4] w1 fun r25 w2 =>
    ∃ p25 l25 c25 n25, r25 = .tuple #[.slice p25 l25 c25, .int .i64 n25] ∧
    ∃ p29 l29 c29, Pu Tryz.prog (Instr.sliceAt 25 (.slice p0 l0 c0) none (some (.int .i64 12)) none) (.slice p29 l29 c29) ∧
    ∃ p31 l31 c31 w3, Ef Tryz.prog (Instr.buildSlice 45 2 #[(0, .slice p29 l29 c29), (1, .slice p25 l25 c25)]) w2 (.slice p31 l31 c31) w3 ∧
    callF Tryz.prog 112 #[.slice p31 l31 c31] w3 fun r32 w4 =>
    ∃ p32 l32 c32, r32 = .slice p32 l32 c32 ∧
    Q (.tuple #[.slice p32 l32 c32, .int .i64 0]) w4)
def count_After_tt : Nat → List (Nat × TypeId) := fun _ => []
theorem count_After_call (p0 : Option Addr) (l0 : Nat) (c0 : Nat) (n1 : Int) (w : World) (Q : Value → World → Prop) (h : count_After p0 l0 c0 n1 w Q) : callF Tryz.prog 272 #[.slice p0 l0 c0, .int .u64 n1] w Q :=
  callBy count_After_tt Tryz.func272 h (fun _ _ => by kernel_rfl) (by kernel_rfl) (by kernel_rfl) (by kernel_rfl)
def count_Stream_j1 (p1 : Option Addr) (l1 : Nat) (c1 : Nat) (n2 : Int) (p6 : Option Addr) (l6 : Nat) (c6 : Nat) (n7 : Int) (p8 : Option Addr) (w : World) (Q : Value → World → Prop) : Prop :=
  LoopS [.slice p1 l1 c1, .int .i64 n2, .slice p6 l6 c6, .int .i64 n7, .pointer p8, .slice none 0 0] w fun I1 μ1 us1 _ wl1 =>
  ∃ p1_1 l1_1 c1_1 n2_1 p6_1 l6_1 c6_1 n7_1 p8_1 p10 l10 c10, us1 = [.slice p1_1 l1_1 c1_1, .int .i64 n2_1, .slice p6_1 l6_1 c6_1, .int .i64 n7_1, .pointer p8_1, .slice p10 l10 c10] ∧
  cond (decide (((l10 : Nat) : Int) < n2_1))
  (callF Tryz.prog 192 #[.pointer p8_1, .slice p1_1 l1_1 c1_1] wl1 fun r40 w1 =>
    ∃ p40 l40 c40 n40, r40 = .tuple #[.slice p40 l40 c40, .int .i64 n40] ∧
    ∃ p45 l45 c45 w2, Ef Tryz.prog (Builtin.append_ #[25, 25] 25 #[.slice p10 l10 c10, .slice p40 l40 c40]) w1 (.slice p45 l45 c45) w2 ∧
    callF Tryz.prog 246 #[.slice p1_1 l1_1 c1_1] w2 fun r48 w3 =>
    ∃ p48 l48 c48 n48, r48 = .tuple #[.slice p48 l48 c48, .int .i64 n48] ∧
    goesOn [] [] I1 μ1 us1 [.slice p48 l48 c48, .int .i64 n2_1, .slice p6_1 l6_1 c6_1, .int .i64 n7_1, .pointer p8_1, .slice p45 l45 c45] wl1 w3)
  (∃ p54 l54 c54, Pu Tryz.prog (Instr.sliceAt 25 (.slice p10 l10 c10) none (some (.int .i64 n2_1)) (some (.int .i64 n2_1))) (.slice p54 l54 c54) ∧
    Q (.tuple #[.slice p54 l54 c54, .int .i64 0]) wl1)
def count_Stream (p0 : Option Addr) (l0 : Nat) (c0 : Nat) (p1 : Option Addr) (l1 : Nat) (c1 : Nat) (n2 : Int) (w : World) (Q : Value → World → Prop) : Prop :=
  callF Tryz.prog 191 #[.slice p0 l0 c0] w fun r15 w1 =>
  ∃ p15 n15, r15 = .tuple #[.pointer p15, .int .i64 n15] ∧
  cond (n15 != 0)
  (Q (.tuple #[.slice none 0 0, .int .i64 11]) w1)
  (cond (((l1 : Nat) : Int) != 16)
    (Q (.tuple #[.slice none 0 0, .int .i64 11]) w1)
    (cond (decide (n2 < 0))
      (Q (.tuple #[.slice none 0 0, .int .i64 11]) w1)
      (cond (decide (n2 > 65535))
        (Q (.tuple #[.slice none 0 0, .int .i64 11]) w1)
        (count_Stream_j1 p1 l1 c1 n2 none 0 0 0 p15 w1 Q))))
def count_Stream_tt : Nat → List (Nat × TypeId) := fun n => match n with | 0 => [(1, 25), (2, 3), (6, 25), (7, 33), (8, 279), (10, 25)] | _ => []
theorem count_Stream_call (p0 : Option Addr) (l0 : Nat) (c0 : Nat) (p1 : Option Addr) (l1 : Nat) (c1 : Nat) (n2 : Int) (w : World) (Q : Value → World → Prop) (h : count_Stream p0 l0 c0 p1 l1 c1 n2 w Q) : callF Tryz.prog 273 #[.slice p0 l0 c0, .slice p1 l1 c1, .int .i64 n2] w Q :=
  callBy count_Stream_tt Tryz.func273 h (fun _ _ => by kernel_rfl) (by kernel_rfl) (by kernel_rfl) (by kernel_rfl)
end Go.Sh
end

section
namespace Go.Sh
open Go Go.Fw Go.Proofs
set_option maxRecDepth 100000
set_option linter.unusedVariables false
def ref06_Turn_j1 (p0 : Option Addr) (l0 : Nat) (c0 : Nat) (p1 : Option Addr) (l1 : Nat) (c1 : Nat) (p2 : Option Addr) (l2 : Nat) (c2 : Nat) (p6 : Option Addr) (l6 : Nat) (c6 : Nat) (n7 : Int) (w : World) (Q : Value → World → Prop) : Prop :=
  callF Tryz.prog 223 #[.slice p0 l0 c0, .slice p1 l1 c1, .int .i64 ((l2 : Nat) : Int)] w fun r27 w1 =>
  ∃ p27 l27 c27, r27 = .slice p27 l27 c27 ∧
  LoopS [.slice p2 l2 c2, .slice p6 l6 c6, .int .i64 n7, .slice p27 l27 c27, .int .i64 0] w1 fun I1 μ1 us1 _ wl1 =>
  ∃ p2_1 l2_1 c2_1 p6_1 l6_1 c6_1 n7_1 p8 l8 c8 n9, us1 = [.slice p2_1 l2_1 c2_1, .slice p6_1 l6_1 c6_1, .int .i64 n7_1, .slice p8 l8 c8, .int .i64 n9] ∧
  cond (decide (n9 < ((l2_1 : Nat) : Int)))
  (∃ (S7 : World → Prop),
    Drw wl1 fun w2 =>
    ∃ a36, IxA Tryz.prog 25 (.slice p8 l8 c8) (.int .i64 n9) a36 ∧
    ∃ a40, IxA Tryz.prog 25 (.slice p2_1 l2_1 c2_1) (.int .i64 n9) a40 ∧
    ∃ n37, HLd Tryz.prog S7 5 (.pointer (some a36)) w2 (.int .u8 n37) ∧
    ∃ n41, Ld Tryz.prog 5 (.pointer (some a40)) w2 (.int .u8 n41) ∧
    (w2 = w2 ∨ S7 w2) ∧
    ∃ a43, IxA Tryz.prog 25 (.slice p8 l8 c8) (.int .i64 n9) a43 ∧
    ∃ w3, Sto Tryz.prog 5 (.pointer (some a43)) (.int .u8 (ixor .u8 n37 n41)) w2 w3 ∧
    goesOn [] [] I1 μ1 us1 [.slice p2_1 l2_1 c2_1, .slice p6_1 l6_1 c6_1, .int .i64 n7_1, .slice p8 l8 c8, .int .i64 (IntKind.i64.wrap (n9 + 1))] wl1 w3)
  (Q (.tuple #[.slice p8 l8 c8, .int .i64 0]) wl1)
def ref06_Turn (p0 : Option Addr) (l0 : Nat) (c0 : Nat) (p1 : Option Addr) (l1 : Nat) (c1 : Nat) (p2 : Option Addr) (l2 : Nat) (c2 : Nat) (w : World) (Q : Value → World → Prop) : Prop :=
  cond (((l0 : Nat) : Int) != 16)
  (Q (.tuple #[.slice none 0 0, .int .i64 11]) w)
  (cond (((l1 : Nat) : Int) != 16)
    (Q (.tuple #[.slice none 0 0, .int .i64 11]) w)
    (cond (decide (((l2 : Nat) : Int) > 65535))
      (Q (.tuple #[.slice none 0 0, .int .i64 11]) w)
      (ref06_Turn_j1 p0 l0 c0 p1 l1 c1 p2 l2 c2 none 0 0 0 w Q)))
def ref06_Turn_tt : Nat → List (Nat × TypeId) := fun n => match n with | 0 => [(2, 25), (6, 25), (7, 33), (8, 25), (9, 3)] | _ => []
theorem ref06_Turn_call (p0 : Option Addr) (l0 : Nat) (c0 : Nat) (p1 : Option Addr) (l1 : Nat) (c1 : Nat) (p2 : Option Addr) (l2 : Nat) (c2 : Nat) (w : World) (Q : Value → World → Prop) (h : ref06_Turn p0 l0 c0 p1 l1 c1 p2 l2 c2 w Q) : callF Tryz.prog 171 #[.slice p0 l0 c0, .slice p1 l1 c1, .slice p2 l2 c2] w Q :=
  callBy ref06_Turn_tt Tryz.func171 h (fun _ _ => by kernel_rfl) (by kernel_rfl) (by kernel_rfl) (by kernel_rfl)
def ref06_After_j1 (p0 : Option Addr) (l0 : Nat) (c0 : Nat) (n1 : Int) (p4 : Option Addr) (l4 : Nat) (c4 : Nat) (n5 : Int) (w : World) (Q : Value → World → Prop) : Prop :=
  ∃ p26 l26 c26 w1, Ef Tryz.prog (Instr.buildSlice 25 0 #[]) w (.slice p26 l26 c26) w1 ∧
  ∃ p28 l28 c28 w2, Ef Tryz.prog (Builtin.append_ #[25, 25] 25 #[.slice p26 l26 c26, .slice p0 l0 c0]) w1 (.slice p28 l28 c28) w2 ∧
  LoopS [.slice p4 l4 c4, .int .u64 (Int.tmod (IntKind.u64.wrap (n5 + (Int.tmod n1 4294967296))) 4294967296), .slice p28 l28 c28, .int .i64 15] w2 fun I2 μ2 us2 _ wl2 =>
  ∃ p4_1 l4_1 c4_1 n5_1 p7 l7 c7 n8, us2 = [.slice p4_1 l4_1 c4_1, .int .u64 n5_1, .slice p7 l7 c7, .int .i64 n8] ∧
  cond (decide (n8 ≥ 12))
  (∃ a38, IxA Tryz.prog 25 (.slice p7 l7 c7) (.int .i64 n8) a38 ∧
    ∃ w3, Sto Tryz.prog 5 (.pointer (some a38)) (.int .u8 (IntKind.u8.wrap (Int.tmod n5_1 256))) wl2 w3 ∧
    goesOn [] [] I2 μ2 us2 [.slice p4_1 l4_1 c4_1, .int .u64 (IntKind.u64.wrap (Int.tdiv n5_1 256)), .slice p7 l7 c7, .int .i64 (IntKind.i64.wrap (n8 - 1))] wl2 w3)
  (Q (.slice p7 l7 c7) wl2)
def ref06_After (p0 : Option Addr) (l0 : Nat) (c0 : Nat) (n1 : Int) (w : World) (Q : Value → World → Prop) : Prop :=
  LoopS [.slice p0 l0 c0, .int .u64 n1, .slice none 0 0, .int .u64 0, .int .i64 12] w fun I1 μ1 us1 _ wl1 =>
  ∃ p0_1 l0_1 c0_1 n1_1 p4 l4 c4 n5 n6, us1 = [.slice p0_1 l0_1 c0_1, .int .u64 n1_1, .slice p4 l4 c4, .int .u64 n5, .int .i64 n6] ∧
  cond (decide (n6 < 16))
  (∃ a17, IxA Tryz.prog 25 (.slice p0_1 l0_1 c0_1) (.int .i64 n6) a17 ∧
    ∃ n18, Ld Tryz.prog 5 (.pointer (some a17)) wl1 (.int .u8 n18) ∧
    goesOn [] [] I1 μ1 us1 [.slice p0_1 l0_1 c0_1, .int .u64 n1_1, .slice p4 l4 c4, .int .u64 (IntKind.u64.wrap ((IntKind.u64.wrap (n5 * 256)) + (IntKind.u64.wrap n18))), .int .i64 (IntKind.i64.wrap (n6 + 1))] wl1 wl1)
  (ref06_After_j1 p0_1 l0_1 c0_1 n1_1 p4 l4 c4 n5 wl1 Q)
def ref06_After_tt : Nat → List (Nat × TypeId) := fun n => match n with | 0 => [(0, 25), (1, 88), (4, 25), (5, 88), (6, 3)] | 2 => [(4, 25), (5, 88), (7, 25), (8, 3)] | _ => []
theorem ref06_After_call (p0 : Option Addr) (l0 : Nat) (c0 : Nat) (n1 : Int) (w : World) (Q : Value → World → Prop) (h : ref06_After p0 l0 c0 n1 w Q) : callF Tryz.prog 172 #[.slice p0 l0 c0, .int .u64 n1] w Q :=
  callBy ref06_After_tt Tryz.func172 h (fun _ _ => by kernel_rfl) (by kernel_rfl) (by kernel_rfl) (by kernel_rfl)
def ref06_Stream (p0 : Option Addr) (l0 : Nat) (c0 : Nat) (p1 : Option Addr) (l1 : Nat) (c1 : Nat) (n2 : Int) (w : World) (Q : Value → World → Prop) : Prop :=
  callF Tryz.prog 257 #[] w fun r10 w1 =>
  ∃ p10 l10 c10, r10 = .slice p10 l10 c10 ∧
  ∃ p11 l11 c11 w2, Ef Tryz.prog (Instr.buildSlice 25 0 #[]) w1 (.slice p11 l11 c11) w2 ∧
  LoopS [.slice p0 l0 c0, .slice p1 l1 c1, .int .i64 n2, .slice none 0 0, .slice p10 l10 c10, .slice p11 l11 c11, .int .u64 0] w2 fun I1 μ1 us1 _ wl1 =>
  ∃ p0_1 l0_1 c0_1 p1_1 l1_1 c1_1 n2_1 p6 l6 c6 p7 l7 c7 p8 l8 c8 n9, us1 = [.slice p0_1 l0_1 c0_1, .slice p1_1 l1_1 c1_1, .int .i64 n2_1, .slice p6 l6 c6, .slice p7 l7 c7, .slice p8 l8 c8, .int .u64 n9] ∧
  cond (decide (((l8 : Nat) : Int) < n2_1))
  (callF Tryz.prog 172 #[.slice p1_1 l1_1 c1_1, .int .u64 n9] wl1 fun r22 w3 =>
    ∃ p22 l22 c22, r22 = .slice p22 l22 c22 ∧
    callF Tryz.prog 256 #[.slice p0_1 l0_1 c0_1, .slice p22 l22 c22, .slice p7 l7 c7] w3 fun r24 w4 =>
    ∃ p24 l24 c24, r24 = .slice p24 l24 c24 ∧
    ∃ p25 l25 c25 w5, Ef Tryz.prog (Builtin.append_ #[25, 25] 25 #[.slice p8 l8 c8, .slice p24 l24 c24]) w4 (.slice p25 l25 c25) w5 ∧
    goesOn [] [] I1 μ1 us1 [.slice p0_1 l0_1 c0_1, .slice p1_1 l1_1 c1_1, .int .i64 n2_1, .slice p6 l6 c6, .slice p7 l7 c7, .slice p25 l25 c25, .int .u64 (IntKind.u64.wrap (n9 + 1))] wl1 w5)
  (∃ p28 l28 c28, Pu Tryz.prog (Instr.sliceAt 25 (.slice p8 l8 c8) none (some (.int .i64 n2_1)) none) (.slice p28 l28 c28) ∧
    Q (.slice p28 l28 c28) wl1)
def ref06_Stream_tt : Nat → List (Nat × TypeId) := fun n => match n with | 0 => [(0, 25), (1, 25), (2, 3), (6, 25), (7, 25), (8, 25), (9, 88)] | _ => []
theorem ref06_Stream_call (p0 : Option Addr) (l0 : Nat) (c0 : Nat) (p1 : Option Addr) (l1 : Nat) (c1 : Nat) (n2 : Int) (w : World) (Q : Value → World → Prop) (h : ref06_Stream p0 l0 c0 p1 l1 c1 n2 w Q) : callF Tryz.prog 223 #[.slice p0 l0 c0, .slice p1 l1 c1, .int .i64 n2] w Q :=
  callBy ref06_Stream_tt Tryz.func223 h (fun _ _ => by kernel_rfl) (by kernel_rfl) (by kernel_rfl) (by kernel_rfl)
end Go.Sh
end
