/- A part of a proof of a given law of this program: lemmas, printed forms of its functions, contracts. It has no conditions of its own. -/
import Derived.Test.YtcfealonnakdcaaGreatProg
import Derived.Test.YtcfealonnakdcaaGreatMFw

section
namespace Go.Sh
open Go Go.Fw Go.Proofs
set_option maxRecDepth 100000
set_option linter.unusedVariables false
def ref04_Bytes (cs0 : Array Value) (w : World) (Q : Value → World → Prop) : Prop :=
  New cs0 366 w fun k1 w1 =>
  ∃ p5 l5 c5 w2, Ef Tryz.prog (Instr.makeSlice 25 (.int .i64 16) (.int .i64 16)) w1 (.slice p5 l5 c5) w2 ∧
  LoopS [.pointer (some (⟨k1, 0, none⟩ : Addr)), .slice none 0 0, .slice p5 l5 c5, .int .i64 0] w2 fun I1 μ1 us1 _ wl1 =>
  ∃ a1 p2 l2 c2 p3 l3 c3 n4, us1 = [.pointer (some a1), .slice p2 l2 c2, .slice p3 l3 c3, .int .i64 n4] ∧
  cond (decide (n4 < 128))
  (∃ a11, IxA Tryz.prog 366 (.pointer (some a1)) (.int .i64 n4) a11 ∧
    ∃ b12, Ld Tryz.prog 4 (.pointer (some a11)) wl1 (.bool b12) ∧
    cond b12
    (∃ a16, IxA Tryz.prog 25 (.slice p3 l3 c3) (.int .i64 (IntKind.i64.wrap (Int.tdiv n4 8))) a16 ∧
      ∃ n17, Ld Tryz.prog 5 (.pointer (some a16)) wl1 (.int .u8 n17) ∧
      ∃ n22, Pu Tryz.prog (do eqGuard .shl 5 (.const (.int .u8 1)) (.tmp 21) (.int .u8 1) (.int .u64 (IntKind.u64.wrap (IntKind.i64.wrap (7 - (Int.tmod n4 8))))); binOp .shl 5 (.int .u8 1) (.int .u64 (IntKind.u64.wrap (IntKind.i64.wrap (7 - (Int.tmod n4 8))))) : Sem Value) (.int .u8 n22) ∧
      ∃ a24, IxA Tryz.prog 25 (.slice p3 l3 c3) (.int .i64 (IntKind.i64.wrap (Int.tdiv n4 8))) a24 ∧
      ∃ w3, Sto Tryz.prog 5 (.pointer (some a24)) (.int .u8 (ior .u8 n17 n22)) wl1 w3 ∧
      goesOn [] [] I1 μ1 us1 [.pointer (some a1), .slice p2 l2 c2, .slice p3 l3 c3, .int .i64 (IntKind.i64.wrap (n4 + 1))] wl1 w3)
    (goesOn [] [] I1 μ1 us1 [.pointer (some a1), .slice p2 l2 c2, .slice p3 l3 c3, .int .i64 (IntKind.i64.wrap (n4 + 1))] wl1 wl1))
  (Q (.slice p3 l3 c3) wl1)
def ref04_Bytes_tt : Nat → List (Nat × TypeId) := fun n => match n with | 0 => [(1, 1000000), (2, 25), (3, 25), (4, 3)] | _ => []
theorem ref04_Bytes_call (cs0 : Array Value) (w : World) (Q : Value → World → Prop) (h : ref04_Bytes cs0 w Q) : callF Tryz.prog 260 #[.agg cs0] w Q :=
  callBy ref04_Bytes_tt Tryz.func260 h (fun _ _ => by kernel_rfl) (by kernel_rfl) (by kernel_rfl) (by kernel_rfl)
def ref04_Of_j1 (a2 : Addr) (a3 : Addr) (w : World) (Q : Value → World → Prop) : Prop :=
  ∃ (cs24 : Array Value), Ld Tryz.prog 366 (.pointer (some a3)) w (.agg cs24) ∧
  ∃ w1, Sto Tryz.prog 366 (.pointer (some a2)) (.agg cs24) w w1 ∧
  ∃ a2_1 v2, (.pointer (some a2) : Value) = .pointer (some a2_1) ∧ (loadVar 366 a2_1).run Tryz.prog w1 = .ok v2 w1 ∧
  Q (v2) w1
def ref04_Of (p0 : Option Addr) (l0 : Nat) (c0 : Nat) (w : World) (Q : Value → World → Prop) : Prop :=
  ∃ z2, Pu Tryz.prog (zeroValue 366) z2 ∧
  New z2.cells 366 w fun k2 w1 =>
  ∃ z3, Pu Tryz.prog (zeroValue 366) z3 ∧
  New z3.cells 366 w1 fun k3 w2 =>
  ∃ w3, Sto Tryz.prog 366 (.pointer (some (⟨k3, 0, none⟩ : Addr))) (.agg #[.bool false, .bool false, .bool false, .bool false, .bool false, .bool false, .bool false, .bool false, .bool false, .bool false, .bool false, .bool false, .bool false, .bool false, .bool false, .bool false, .bool false, .bool false, .bool false, .bool false, .bool false, .bool false, .bool false, .bool false, .bool false, .bool false, .bool false, .bool false, .bool false, .bool false, .bool false, .bool false, .bool false, .bool false, .bool false, .bool false, .bool false, .bool false, .bool false, .bool false, .bool false, .bool false, .bool false, .bool false, .bool false, .bool false, .bool false, .bool false, .bool false, .bool false, .bool false, .bool false, .bool false, .bool false, .bool false, .bool false, .bool false, .bool false, .bool false, .bool false, .bool false, .bool false, .bool false, .bool false, .bool false, .bool false, .bool false, .bool false, .bool false, .bool false, .bool false, .bool false, .bool false, .bool false, .bool false, .bool false, .bool false, .bool false, .bool false, .bool false, .bool false, .bool false, .bool false, .bool false, .bool false, .bool false, .bool false, .bool false, .bool false, .bool false, .bool false, .bool false, .bool false, .bool false, .bool false, .bool false, .bool false, .bool false, .bool false, .bool false, .bool false, .bool false, .bool false, .bool false, .bool false, .bool false, .bool false, .bool false, .bool false, .bool false, .bool false, .bool false, .bool false, .bool false, .bool false, .bool false, .bool false, .bool false, .bool false, .bool false, .bool false, .bool false, .bool false, .bool false, .bool false, .bool false, .bool false, .bool false]) w2 w3 ∧
  LoopS [.slice p0 l0 c0, .pointer (some (⟨k2, 0, none⟩ : Addr)), .pointer (some (⟨k3, 0, none⟩ : Addr)), .int .i64 0] w3 fun I1 μ1 us1 _ wl1 =>
  ∃ p0_1 l0_1 c0_1 a2 a3 n4, us1 = [.slice p0_1 l0_1 c0_1, .pointer (some a2), .pointer (some a3), .int .i64 n4] ∧
  cond (decide (n4 < 128))
  (∃ a14, IxA Tryz.prog 25 (.slice p0_1 l0_1 c0_1) (.int .i64 (IntKind.i64.wrap (Int.tdiv n4 8))) a14 ∧
    ∃ n15, Ld Tryz.prog 5 (.pointer (some a14)) wl1 (.int .u8 n15) ∧
    ∃ n20, Pu Tryz.prog (do eqGuard .shr 5 (.tmp 15) (.tmp 19) (.int .u8 n15) (.int .u64 (IntKind.u64.wrap (IntKind.i64.wrap (7 - (Int.tmod n4 8))))); binOp .shr 5 (.int .u8 n15) (.int .u64 (IntKind.u64.wrap (IntKind.i64.wrap (7 - (Int.tmod n4 8))))) : Sem Value) (.int .u8 n20) ∧
    ∃ a23, IxA Tryz.prog 366 (.pointer (some a3)) (.int .i64 n4) a23 ∧
    ∃ w4, Sto Tryz.prog 4 (.pointer (some a23)) (.bool ((Int.tmod n20 2) == 1)) wl1 w4 ∧
    goesOn [] [] I1 μ1 us1 [.slice p0_1 l0_1 c0_1, .pointer (some a2), .pointer (some a3), .int .i64 (IntKind.i64.wrap (n4 + 1))] wl1 w4)
  (ref04_Of_j1 a2 a3 wl1 Q)
def ref04_Of_tt : Nat → List (Nat × TypeId) := fun n => match n with | 0 => [(0, 25), (2, 1000000), (3, 1000000), (4, 3)] | _ => []
theorem ref04_Of_call (p0 : Option Addr) (l0 : Nat) (c0 : Nat) (w : World) (Q : Value → World → Prop) (h : ref04_Of p0 l0 c0 w Q) : callF Tryz.prog 262 #[.slice p0 l0 c0] w Q :=
  callBy ref04_Of_tt Tryz.func262 h (fun _ _ => by kernel_rfl) (by kernel_rfl) (by kernel_rfl) (by kernel_rfl)
def ref04_Mul_j1 (a4 : Addr) (a9 : Addr) (w : World) (Q : Value → World → Prop) : Prop :=
  ∃ (cs88 : Array Value), Ld Tryz.prog 366 (.pointer (some a9)) w (.agg cs88) ∧
  ∃ w1, Sto Tryz.prog 366 (.pointer (some a4)) (.agg cs88) w w1 ∧
  ∃ a4_1 v4, (.pointer (some a4) : Value) = .pointer (some a4_1) ∧ (loadVar 366 a4_1).run Tryz.prog w1 = .ok v4 w1 ∧
  Q (v4) w1
def ref04_Mul_j2 (a4 : Addr) (a5 : Addr) (w : World) (Q : Value → World → Prop) : Prop :=
  ∃ z9, Pu Tryz.prog (zeroValue 366) z9 ∧
  New z9.cells 366 w fun k9 w1 =>
  ∃ w2, Sto Tryz.prog 366 (.pointer (some (⟨k9, 0, none⟩ : Addr))) (.agg #[.bool false, .bool false, .bool false, .bool false, .bool false, .bool false, .bool false, .bool false, .bool false, .bool false, .bool false, .bool false, .bool false, .bool false, .bool false, .bool false, .bool false, .bool false, .bool false, .bool false, .bool false, .bool false, .bool false, .bool false, .bool false, .bool false, .bool false, .bool false, .bool false, .bool false, .bool false, .bool false, .bool false, .bool false, .bool false, .bool false, .bool false, .bool false, .bool false, .bool false, .bool false, .bool false, .bool false, .bool false, .bool false, .bool false, .bool false, .bool false, .bool false, .bool false, .bool false, .bool false, .bool false, .bool false, .bool false, .bool false, .bool false, .bool false, .bool false, .bool false, .bool false, .bool false, .bool false, .bool false, .bool false, .bool false, .bool false, .bool false, .bool false, .bool false, .bool false, .bool false, .bool false, .bool false, .bool false, .bool false, .bool false, .bool false, .bool false, .bool false, .bool false, .bool false, .bool false, .bool false, .bool false, .bool false, .bool false, .bool false, .bool false, .bool false, .bool false, .bool false, .bool false, .bool false, .bool false, .bool false, .bool false, .bool false, .bool false, .bool false, .bool false, .bool false, .bool false, .bool false, .bool false, .bool false, .bool false, .bool false, .bool false, .bool false, .bool false, .bool false, .bool false, .bool false, .bool false, .bool false, .bool false, .bool false, .bool false, .bool false, .bool false, .bool false, .bool false, .bool false, .bool false, .bool false, .bool false, .bool false]) w1 w2 ∧
  LoopS [.pointer (some a4), .pointer (some a5), .pointer (some (⟨k9, 0, none⟩ : Addr)), .int .i64 0] w2 fun I4 μ4 us4 _ wl4 =>
  ∃ a4_1 a5_1 a9 n10, us4 = [.pointer (some a4_1), .pointer (some a5_1), .pointer (some a9), .int .i64 n10] ∧
  cond (decide (n10 < 128))
  (∃ a85, IxA Tryz.prog 416 (.pointer (some a5_1)) (.int .i64 n10) a85 ∧
    ∃ b86, Ld Tryz.prog 4 (.pointer (some a85)) wl4 (.bool b86) ∧
    ∃ a87, IxA Tryz.prog 366 (.pointer (some a9)) (.int .i64 n10) a87 ∧
    ∃ w3, Sto Tryz.prog 4 (.pointer (some a87)) (.bool b86) wl4 w3 ∧
    goesOn [] [] I4 μ4 us4 [.pointer (some a4_1), .pointer (some a5_1), .pointer (some a9), .int .i64 (IntKind.i64.wrap (n10 + 1))] wl4 w3)
  (ref04_Mul_j1 a4_1 a9 wl4 Q)
def ref04_Mul_j3 (a4 : Addr) (a5 : Addr) (w : World) (Q : Value → World → Prop) : Prop :=
  LoopS [.pointer (some a4), .pointer (some a5), .int .i64 254] w fun I3 μ3 us3 _ wl3 =>
  ∃ a4_1 a5_1 n8, us3 = [.pointer (some a4_1), .pointer (some a5_1), .int .i64 n8] ∧
  cond (decide (n8 ≥ 128))
  (∃ a42, IxA Tryz.prog 416 (.pointer (some a5_1)) (.int .i64 n8) a42 ∧
    ∃ b43, Ld Tryz.prog 4 (.pointer (some a42)) wl3 (.bool b43) ∧
    cond b43
    (∃ a45, IxA Tryz.prog 416 (.pointer (some a5_1)) (.int .i64 n8) a45 ∧
      ∃ w1, Sto Tryz.prog 4 (.pointer (some a45)) (.bool false) wl3 w1 ∧
      ∃ a50, IxA Tryz.prog 416 (.pointer (some a5_1)) (.int .i64 (IntKind.i64.wrap (n8 - 128))) a50 ∧
      ∃ b51, Ld Tryz.prog 4 (.pointer (some a50)) w1 (.bool b51) ∧
      ∃ a53, IxA Tryz.prog 416 (.pointer (some a5_1)) (.int .i64 (IntKind.i64.wrap (n8 - 128))) a53 ∧
      ∃ w2, Sto Tryz.prog 4 (.pointer (some a53)) (.bool (!b51)) w1 w2 ∧
      ∃ a58, IxA Tryz.prog 416 (.pointer (some a5_1)) (.int .i64 (IntKind.i64.wrap (n8 - 127))) a58 ∧
      ∃ b59, Ld Tryz.prog 4 (.pointer (some a58)) w2 (.bool b59) ∧
      ∃ a61, IxA Tryz.prog 416 (.pointer (some a5_1)) (.int .i64 (IntKind.i64.wrap (n8 - 127))) a61 ∧
      ∃ w3, Sto Tryz.prog 4 (.pointer (some a61)) (.bool (!b59)) w2 w3 ∧
      ∃ a66, IxA Tryz.prog 416 (.pointer (some a5_1)) (.int .i64 (IntKind.i64.wrap (n8 - 126))) a66 ∧
      ∃ b67, Ld Tryz.prog 4 (.pointer (some a66)) w3 (.bool b67) ∧
      ∃ a69, IxA Tryz.prog 416 (.pointer (some a5_1)) (.int .i64 (IntKind.i64.wrap (n8 - 126))) a69 ∧
      ∃ w4, Sto Tryz.prog 4 (.pointer (some a69)) (.bool (!b67)) w3 w4 ∧
      ∃ a74, IxA Tryz.prog 416 (.pointer (some a5_1)) (.int .i64 (IntKind.i64.wrap (n8 - 121))) a74 ∧
      ∃ b75, Ld Tryz.prog 4 (.pointer (some a74)) w4 (.bool b75) ∧
      ∃ a77, IxA Tryz.prog 416 (.pointer (some a5_1)) (.int .i64 (IntKind.i64.wrap (n8 - 121))) a77 ∧
      ∃ w5, Sto Tryz.prog 4 (.pointer (some a77)) (.bool (!b75)) w4 w5 ∧
      goesOn [] [] I3 μ3 us3 [.pointer (some a4_1), .pointer (some a5_1), .int .i64 (IntKind.i64.wrap (n8 - 1))] wl3 w5)
    (goesOn [] [] I3 μ3 us3 [.pointer (some a4_1), .pointer (some a5_1), .int .i64 (IntKind.i64.wrap (n8 - 1))] wl3 wl3))
  (ref04_Mul_j2 a4_1 a5_1 wl3 Q)
def ref04_Mul (cs0 : Array Value) (cs1 : Array Value) (w : World) (Q : Value → World → Prop) : Prop :=
  New cs0 366 w fun k2 w1 =>
  New cs1 366 w1 fun k3 w2 =>
  ∃ z4, Pu Tryz.prog (zeroValue 366) z4 ∧
  New z4.cells 366 w2 fun k4 w3 =>
  ∃ z5, Pu Tryz.prog (zeroValue 416) z5 ∧
  New z5.cells 416 w3 fun k5 w4 =>
  ∃ w5, Sto Tryz.prog 416 (.pointer (some (⟨k5, 0, none⟩ : Addr))) (.agg #[.bool false, .bool false, .bool false, .bool false, .bool false, .bool false, .bool false, .bool false, .bool false, .bool false, .bool false, .bool false, .bool false, .bool false, .bool false, .bool false, .bool false, .bool false, .bool false, .bool false, .bool false, .bool false, .bool false, .bool false, .bool false, .bool false, .bool false, .bool false, .bool false, .bool false, .bool false, .bool false, .bool false, .bool false, .bool false, .bool false, .bool false, .bool false, .bool false, .bool false, .bool false, .bool false, .bool false, .bool false, .bool false, .bool false, .bool false, .bool false, .bool false, .bool false, .bool false, .bool false, .bool false, .bool false, .bool false, .bool false, .bool false, .bool false, .bool false, .bool false, .bool false, .bool false, .bool false, .bool false, .bool false, .bool false, .bool false, .bool false, .bool false, .bool false, .bool false, .bool false, .bool false, .bool false, .bool false, .bool false, .bool false, .bool false, .bool false, .bool false, .bool false, .bool false, .bool false, .bool false, .bool false, .bool false, .bool false, .bool false, .bool false, .bool false, .bool false, .bool false, .bool false, .bool false, .bool false, .bool false, .bool false, .bool false, .bool false, .bool false, .bool false, .bool false, .bool false, .bool false, .bool false, .bool false, .bool false, .bool false, .bool false, .bool false, .bool false, .bool false, .bool false, .bool false, .bool false, .bool false, .bool false, .bool false, .bool false, .bool false, .bool false, .bool false, .bool false, .bool false, .bool false, .bool false, .bool false, .bool false, .bool false, .bool false, .bool false, .bool false, .bool false, .bool false, .bool false, .bool false, .bool false, .bool false, .bool false, .bool false, .bool false, .bool false, .bool false, .bool false, .bool false, .bool false, .bool false, .bool false, .bool false, .bool false, .bool false, .bool false, .bool false, .bool false, .bool false, .bool false, .bool false, .bool false, .bool false, .bool false, .bool false, .bool false, .bool false, .bool false, .bool false, .bool false, .bool false, .bool false, .bool false, .bool false, .bool false, .bool false, .bool false, .bool false, .bool false, .bool false, .bool false, .bool false, .bool false, .bool false, .bool false, .bool false, .bool false, .bool false, .bool false, .bool false, .bool false, .bool false, .bool false, .bool false, .bool false, .bool false, .bool false, .bool false, .bool false, .bool false, .bool false, .bool false, .bool false, .bool false, .bool false, .bool false, .bool false, .bool false, .bool false, .bool false, .bool false, .bool false, .bool false, .bool false, .bool false, .bool false, .bool false, .bool false, .bool false, .bool false, .bool false, .bool false, .bool false, .bool false, .bool false, .bool false, .bool false, .bool false, .bool false, .bool false, .bool false, .bool false, .bool false, .bool false, .bool false, .bool false, .bool false, .bool false, .bool false, .bool false, .bool false, .bool false, .bool false, .bool false, .bool false, .bool false, .bool false, .bool false, .bool false, .bool false, .bool false, .bool false, .bool false, .bool false, .bool false, .bool false, .bool false, .bool false, .bool false]) w4 w5 ∧
  LoopS [.pointer (some (⟨k2, 0, none⟩ : Addr)), .pointer (some (⟨k3, 0, none⟩ : Addr)), .pointer (some (⟨k4, 0, none⟩ : Addr)), .pointer (some (⟨k5, 0, none⟩ : Addr)), .int .i64 0] w5 fun I1 μ1 us1 _ wl1 =>
  ∃ a2 a3 a4 a5 n6, us1 = [.pointer (some a2), .pointer (some a3), .pointer (some a4), .pointer (some a5), .int .i64 n6] ∧
  cond (decide (n6 < 128))
  (∃ a17, IxA Tryz.prog 366 (.pointer (some a2)) (.int .i64 n6) a17 ∧
    ∃ b18, Ld Tryz.prog 4 (.pointer (some a17)) wl1 (.bool b18) ∧
    cond (!b18)
    (goesOn [] [] I1 μ1 us1 [.pointer (some a2), .pointer (some a3), .pointer (some a4), .pointer (some a5), .int .i64 (IntKind.i64.wrap (n6 + 1))] wl1 wl1)
    (LoopS [.pointer (some a2), .pointer (some a3), .pointer (some a4), .pointer (some a5), .int .i64 n6, .int .i64 0] wl1 fun I2 μ2 us2 _ wl2 =>
      ∃ a2_1 a3_1 a4_1 a5_1 n6_1 n7, us2 = [.pointer (some a2_1), .pointer (some a3_1), .pointer (some a4_1), .pointer (some a5_1), .int .i64 n6_1, .int .i64 n7] ∧
      cond (decide (n7 < 128))
      (∃ (S9 : World → Prop),
        Drw wl2 fun w6 =>
        ∃ a30, IxA Tryz.prog 416 (.pointer (some a5_1)) (.int .i64 (IntKind.i64.wrap (n6_1 + n7))) a30 ∧
        ∃ a33, IxA Tryz.prog 366 (.pointer (some a3_1)) (.int .i64 n7) a33 ∧
        ∃ b31, HLd Tryz.prog S9 4 (.pointer (some a30)) w6 (.bool b31) ∧
        ∃ b34, Ld Tryz.prog 4 (.pointer (some a33)) w6 (.bool b34) ∧
        (w6 = w6 ∨ S9 w6) ∧
        ∃ a36, IxA Tryz.prog 416 (.pointer (some a5_1)) (.int .i64 (IntKind.i64.wrap (n6_1 + n7))) a36 ∧
        ∃ w7, Sto Tryz.prog 4 (.pointer (some a36)) (.bool (!(b31 == b34))) w6 w7 ∧
        goesOn [] [] I2 μ2 us2 [.pointer (some a2_1), .pointer (some a3_1), .pointer (some a4_1), .pointer (some a5_1), .int .i64 n6_1, .int .i64 (IntKind.i64.wrap (n7 + 1))] wl2 w7)
      (goesOn [] [] I1 μ1 us1 [.pointer (some a2_1), .pointer (some a3_1), .pointer (some a4_1), .pointer (some a5_1), .int .i64 (IntKind.i64.wrap (n6_1 + 1))] wl1 wl2)))
  (ref04_Mul_j3 a4 a5 wl1 Q)
def ref04_Mul_tt : Nat → List (Nat × TypeId) := fun n => match n with | 0 => [(2, 1000000), (3, 1000000), (4, 1000000), (5, 1000000), (6, 3)] | 2 => [(2, 1000000), (3, 1000000), (4, 1000000), (5, 1000000), (6, 3), (7, 3)] | 4 => [(4, 1000000), (5, 1000000), (8, 3)] | 6 => [(4, 1000000), (5, 1000000), (9, 1000000), (10, 3)] | _ => []
theorem ref04_Mul_call (cs0 : Array Value) (cs1 : Array Value) (w : World) (Q : Value → World → Prop) (h : ref04_Mul cs0 cs1 w Q) : callF Tryz.prog 289 #[.agg cs0, .agg cs1] w Q :=
  callBy ref04_Mul_tt Tryz.func289 h (fun _ _ => by kernel_rfl) (by kernel_rfl) (by kernel_rfl) (by kernel_rfl)
def ref04_Add_j1 (a2 : Addr) (a4 : Addr) (w : World) (Q : Value → World → Prop) : Prop :=
  ∃ (cs19 : Array Value), Ld Tryz.prog 366 (.pointer (some a2)) w (.agg cs19) ∧
  ∃ w1, Sto Tryz.prog 366 (.pointer (some a4)) (.agg cs19) w w1 ∧
  ∃ a4_1 v4, (.pointer (some a4) : Value) = .pointer (some a4_1) ∧ (loadVar 366 a4_1).run Tryz.prog w1 = .ok v4 w1 ∧
  Q (v4) w1
def ref04_Add (cs0 : Array Value) (cs1 : Array Value) (w : World) (Q : Value → World → Prop) : Prop :=
  New cs0 366 w fun k2 w1 =>
  New cs1 366 w1 fun k3 w2 =>
  ∃ z4, Pu Tryz.prog (zeroValue 366) z4 ∧
  New z4.cells 366 w2 fun k4 w3 =>
  LoopS [.pointer (some (⟨k2, 0, none⟩ : Addr)), .pointer (some (⟨k3, 0, none⟩ : Addr)), .pointer (some (⟨k4, 0, none⟩ : Addr)), .int .i64 0] w3 fun I1 μ1 us1 _ wl1 =>
  ∃ a2 a3 a4 n5, us1 = [.pointer (some a2), .pointer (some a3), .pointer (some a4), .int .i64 n5] ∧
  cond (decide (n5 < 128))
  (∃ (S4 : World → Prop),
    Drw wl1 fun w4 =>
    ∃ a12, IxA Tryz.prog 366 (.pointer (some a2)) (.int .i64 n5) a12 ∧
    ∃ a15, IxA Tryz.prog 366 (.pointer (some a3)) (.int .i64 n5) a15 ∧
    ∃ b13, HLd Tryz.prog S4 4 (.pointer (some a12)) w4 (.bool b13) ∧
    ∃ b16, Ld Tryz.prog 4 (.pointer (some a15)) w4 (.bool b16) ∧
    (w4 = w4 ∨ S4 w4) ∧
    ∃ a18, IxA Tryz.prog 366 (.pointer (some a2)) (.int .i64 n5) a18 ∧
    ∃ w5, Sto Tryz.prog 4 (.pointer (some a18)) (.bool (!(b13 == b16))) w4 w5 ∧
    goesOn [] [] I1 μ1 us1 [.pointer (some a2), .pointer (some a3), .pointer (some a4), .int .i64 (IntKind.i64.wrap (n5 + 1))] wl1 w5)
  (ref04_Add_j1 a2 a4 wl1 Q)
def ref04_Add_tt : Nat → List (Nat × TypeId) := fun n => match n with | 0 => [(2, 1000000), (3, 1000000), (4, 1000000), (5, 3)] | _ => []
theorem ref04_Add_call (cs0 : Array Value) (cs1 : Array Value) (w : World) (Q : Value → World → Prop) (h : ref04_Add cs0 cs1 w Q) : callF Tryz.prog 290 #[.agg cs0, .agg cs1] w Q :=
  callBy ref04_Add_tt Tryz.func290 h (fun _ _ => by kernel_rfl) (by kernel_rfl) (by kernel_rfl) (by kernel_rfl)
end Go.Sh
end

section
namespace Go.Sh
open Go Go.Fw Go.Proofs
set_option maxRecDepth 100000
set_option linter.unusedVariables false
def ref05_Sum (p0 : Option Addr) (l0 : Nat) (c0 : Nat) (p1 : Option Addr) (l1 : Nat) (c1 : Nat) (p2 : Option Addr) (l2 : Nat) (c2 : Nat) (w : World) (Q : Value → World → Prop) : Prop :=
  callF Tryz.prog 258 #[.slice p1 l1 c1] w fun r9 w1 =>
  ∃ p9 l9 c9, r9 = .slice p9 l9 c9 ∧
  callF Tryz.prog 258 #[.slice p2 l2 c2] w1 fun r11 w2 =>
  ∃ p11 l11 c11, r11 = .slice p11 l11 c11 ∧
  ∃ p12 l12 c12 w3, Ef Tryz.prog (Builtin.append_ #[362, 362] 362 #[.slice p9 l9 c9, .slice p11 l11 c11]) w2 (.slice p12 l12 c12) w3 ∧
  callF Tryz.prog 259 #[.int .i64 ((l1 : Nat) : Int)] w3 fun r16 w4 =>
  ∃ p16 l16 c16, r16 = .slice p16 l16 c16 ∧
  callF Tryz.prog 259 #[.int .i64 ((l2 : Nat) : Int)] w4 fun r19 w5 =>
  ∃ p19 l19 c19, r19 = .slice p19 l19 c19 ∧
  ∃ p20 l20 c20 w6, Ef Tryz.prog (Builtin.append_ #[25, 25] 25 #[.slice p16 l16 c16, .slice p19 l19 c19]) w5 (.slice p20 l20 c20) w6 ∧
  callF Tryz.prog 258 #[.slice p20 l20 c20] w6 fun r21 w7 =>
  ∃ p21 l21 c21, r21 = .slice p21 l21 c21 ∧
  ∃ p22 l22 c22 w8, Ef Tryz.prog (Builtin.append_ #[362, 362] 362 #[.slice p12 l12 c12, .slice p21 l21 c21]) w7 (.slice p22 l22 c22) w8 ∧
  callF Tryz.prog 262 #[.slice p0 l0 c0] w8 fun r24 w9 =>
  ∃ (cs24 : Array Value), r24 = .agg cs24 ∧
  callF Tryz.prog 261 #[.agg cs24, .agg #[.bool false, .bool false, .bool false, .bool false, .bool false, .bool false, .bool false, .bool false, .bool false, .bool false, .bool false, .bool false, .bool false, .bool false, .bool false, .bool false, .bool false, .bool false, .bool false, .bool false, .bool false, .bool false, .bool false, .bool false, .bool false, .bool false, .bool false, .bool false, .bool false, .bool false, .bool false, .bool false, .bool false, .bool false, .bool false, .bool false, .bool false, .bool false, .bool false, .bool false, .bool false, .bool false, .bool false, .bool false, .bool false, .bool false, .bool false, .bool false, .bool false, .bool false, .bool false, .bool false, .bool false, .bool false, .bool false, .bool false, .bool false, .bool false, .bool false, .bool false, .bool false, .bool false, .bool false, .bool false, .bool false, .bool false, .bool false, .bool false, .bool false, .bool false, .bool false, .bool false, .bool false, .bool false, .bool false, .bool false, .bool false, .bool false, .bool false, .bool false, .bool false, .bool false, .bool false, .bool false, .bool false, .bool false, .bool false, .bool false, .bool false, .bool false, .bool false, .bool false, .bool false, .bool false, .bool false, .bool false, .bool false, .bool false, .bool false, .bool false, .bool false, .bool false, .bool false, .bool false, .bool false, .bool false, .bool false, .bool false, .bool false, .bool false, .bool false, .bool false, .bool false, .bool false, .bool false, .bool false, .bool false, .bool false, .bool false, .bool false, .bool false, .bool false, .bool false, .bool false, .bool false, .bool false, .bool false, .bool false], .slice p22 l22 c22] w9 fun r27 w10 =>
  ∃ (cs27 : Array Value), r27 = .agg cs27 ∧
  callF Tryz.prog 260 #[.agg cs27] w10 fun r28 w11 =>
  ∃ p28 l28 c28, r28 = .slice p28 l28 c28 ∧
  Q (.slice p28 l28 c28) w11
def ref05_Sum_tt : Nat → List (Nat × TypeId) := fun _ => []
theorem ref05_Sum_call (p0 : Option Addr) (l0 : Nat) (c0 : Nat) (p1 : Option Addr) (l1 : Nat) (c1 : Nat) (p2 : Option Addr) (l2 : Nat) (c2 : Nat) (w : World) (Q : Value → World → Prop) (h : ref05_Sum p0 l0 c0 p1 l1 c1 p2 l2 c2 w Q) : callF Tryz.prog 222 #[.slice p0 l0 c0, .slice p1 l1 c1, .slice p2 l2 c2] w Q :=
  callBy ref05_Sum_tt Tryz.func222 h (fun _ _ => by kernel_rfl) (by kernel_rfl) (by kernel_rfl) (by kernel_rfl)
def ref05_Blocks_j1 (I1 : Inv) (μ1 : Meas) (us1 : List Value) (wl1 : World) (I2 : Inv) (μ2 : Meas) (us2 : List Value) (wl2 : World) (p0 : Option Addr) (l0 : Nat) (c0 : Nat) (p2 : Option Addr) (l2 : Nat) (c2 : Nat) (p3 : Option Addr) (l3 : Nat) (c3 : Nat) (n4 : Int) (p5 : Option Addr) (l5 : Nat) (c5 : Nat) (n6 : Int) (w : World) (Q : Value → World → Prop) : Prop :=
  ∃ a33, IxA Tryz.prog 25 (.slice p0 l0 c0) (.int .i64 (IntKind.i64.wrap (n4 + n6))) a33 ∧
  ∃ n34, Ld Tryz.prog 5 (.pointer (some a33)) w (.int .u8 n34) ∧
  ∃ a35, IxA Tryz.prog 25 (.slice p5 l5 c5) (.int .i64 n6) a35 ∧
  ∃ w1, Sto Tryz.prog 5 (.pointer (some a35)) (.int .u8 n34) w w1 ∧
  goesOn [] [] I2 μ2 us2 [.slice p0 l0 c0, .slice p2 l2 c2, .slice p3 l3 c3, .int .i64 n4, .slice p5 l5 c5, .int .i64 (IntKind.i64.wrap (n6 + 1))] wl2 w1
def ref05_Blocks_j2 (I1 : Inv) (μ1 : Meas) (us1 : List Value) (wl1 : World) (p0 : Option Addr) (l0 : Nat) (c0 : Nat) (p2 : Option Addr) (l2 : Nat) (c2 : Nat) (p3 : Option Addr) (l3 : Nat) (c3 : Nat) (n4 : Int) (p5 : Option Addr) (l5 : Nat) (c5 : Nat) (w : World) (Q : Value → World → Prop) : Prop :=
  callF Tryz.prog 262 #[.slice p5 l5 c5] w fun r38 w1 =>
  ∃ (cs38 : Array Value), r38 = .agg cs38 ∧
  ∃ p39 l39 c39 w2, Ef Tryz.prog (Instr.buildSlice 362 1 #[(0, .agg cs38)]) w1 (.slice p39 l39 c39) w2 ∧
  ∃ p40 l40 c40 w3, Ef Tryz.prog (Builtin.append_ #[362, 362] 362 #[.slice p3 l3 c3, .slice p39 l39 c39]) w2 (.slice p40 l40 c40) w3 ∧
  goesOn [] [] I1 μ1 us1 [.slice p0 l0 c0, .slice p2 l2 c2, .slice p40 l40 c40, .int .i64 (IntKind.i64.wrap (n4 + 16))] wl1 w3
def ref05_Blocks (p0 : Option Addr) (l0 : Nat) (c0 : Nat) (w : World) (Q : Value → World → Prop) : Prop :=
  ∃ p7 l7 c7 w1, Ef Tryz.prog (Instr.buildSlice 362 0 #[]) w (.slice p7 l7 c7) w1 ∧
  LoopS [.slice p0 l0 c0, .slice none 0 0, .slice p7 l7 c7, .int .i64 0] w1 fun I1 μ1 us1 _ wl1 =>
  ∃ p0_1 l0_1 c0_1 p2 l2 c2 p3 l3 c3 n4, us1 = [.slice p0_1 l0_1 c0_1, .slice p2 l2 c2, .slice p3 l3 c3, .int .i64 n4] ∧
  cond (decide (n4 < ((l0_1 : Nat) : Int)))
  (∃ p14 l14 c14 w2, Ef Tryz.prog (Instr.makeSlice 25 (.int .i64 16) (.int .i64 16)) wl1 (.slice p14 l14 c14) w2 ∧
    LoopS [.slice p0_1 l0_1 c0_1, .slice p2 l2 c2, .slice p3 l3 c3, .int .i64 n4, .slice p14 l14 c14, .int .i64 0] w2 fun I2 μ2 us2 _ wl2 =>
    ∃ p0_2 l0_2 c0_2 p2_1 l2_1 c2_1 p3_1 l3_1 c3_1 n4_1 p5 l5 c5 n6, us2 = [.slice p0_2 l0_2 c0_2, .slice p2_1 l2_1 c2_1, .slice p3_1 l3_1 c3_1, .int .i64 n4_1, .slice p5 l5 c5, .int .i64 n6] ∧
    cond (decide (n6 < 16))
    (cond (decide ((IntKind.i64.wrap (n4_1 + n6)) < ((l0_2 : Nat) : Int)))
      (ref05_Blocks_j1 I1 μ1 us1 wl1 I2 μ2 us2 wl2 p0_2 l0_2 c0_2 p2_1 l2_1 c2_1 p3_1 l3_1 c3_1 n4_1 p5 l5 c5 n6 wl2 Q)
      (ref05_Blocks_j2 I1 μ1 us1 wl1 p0_2 l0_2 c0_2 p2_1 l2_1 c2_1 p3_1 l3_1 c3_1 n4_1 p5 l5 c5 wl2 Q))
    (ref05_Blocks_j2 I1 μ1 us1 wl1 p0_2 l0_2 c0_2 p2_1 l2_1 c2_1 p3_1 l3_1 c3_1 n4_1 p5 l5 c5 wl2 Q))
  (Q (.slice p3 l3 c3) wl1)
def ref05_Blocks_tt : Nat → List (Nat × TypeId) := fun n => match n with | 0 => [(0, 25), (2, 362), (3, 362), (4, 3)] | 2 => [(0, 25), (2, 362), (3, 362), (4, 3), (5, 25), (6, 3)] | _ => []
theorem ref05_Blocks_call (p0 : Option Addr) (l0 : Nat) (c0 : Nat) (w : World) (Q : Value → World → Prop) (h : ref05_Blocks p0 l0 c0 w Q) : callF Tryz.prog 258 #[.slice p0 l0 c0] w Q :=
  callBy ref05_Blocks_tt Tryz.func258 h (fun _ _ => by kernel_rfl) (by kernel_rfl) (by kernel_rfl) (by kernel_rfl)
def ref05_long (n0 : Int) (w : World) (Q : Value → World → Prop) : Prop :=
  ∃ p5 l5 c5 w1, Ef Tryz.prog (Instr.makeSlice 25 (.int .i64 8) (.int .i64 8)) w (.slice p5 l5 c5) w1 ∧
  LoopS [.int .i64 (IntKind.i64.wrap (n0 * 8)), .slice none 0 0, .slice p5 l5 c5, .int .i64 7] w1 fun I1 μ1 us1 _ wl1 =>
  ∃ n0_1 p2 l2 c2 p3 l3 c3 n4, us1 = [.int .i64 n0_1, .slice p2 l2 c2, .slice p3 l3 c3, .int .i64 n4] ∧
  cond (decide (n4 ≥ 0))
  (∃ a17, IxA Tryz.prog 25 (.slice p3 l3 c3) (.int .i64 n4) a17 ∧
    ∃ w2, Sto Tryz.prog 5 (.pointer (some a17)) (.int .u8 (IntKind.u8.wrap (Int.tmod n0_1 256))) wl1 w2 ∧
    goesOn [] [] I1 μ1 us1 [.int .i64 (IntKind.i64.wrap (Int.tdiv n0_1 256)), .slice p2 l2 c2, .slice p3 l3 c3, .int .i64 (IntKind.i64.wrap (n4 - 1))] wl1 w2)
  (Q (.slice p3 l3 c3) wl1)
def ref05_long_tt : Nat → List (Nat × TypeId) := fun n => match n with | 0 => [(0, 3), (2, 25), (3, 25), (4, 3)] | _ => []
theorem ref05_long_call (n0 : Int) (w : World) (Q : Value → World → Prop) (h : ref05_long n0 w Q) : callF Tryz.prog 259 #[.int .i64 n0] w Q :=
  callBy ref05_long_tt Tryz.func259 h (fun _ _ => by kernel_rfl) (by kernel_rfl) (by kernel_rfl) (by kernel_rfl)
def ref05_Fold_j1 (a4 : Addr) (a6 : Addr) (w : World) (Q : Value → World → Prop) : Prop :=
  ∃ (cs22 : Array Value), Ld Tryz.prog 366 (.pointer (some a4)) w (.agg cs22) ∧
  ∃ w1, Sto Tryz.prog 366 (.pointer (some a6)) (.agg cs22) w w1 ∧
  ∃ a6_1 v6, (.pointer (some a6) : Value) = .pointer (some a6_1) ∧ (loadVar 366 a6_1).run Tryz.prog w1 = .ok v6 w1 ∧
  Q (v6) w1
def ref05_Fold (cs0 : Array Value) (cs1 : Array Value) (p2 : Option Addr) (l2 : Nat) (c2 : Nat) (w : World) (Q : Value → World → Prop) : Prop :=
  New cs0 366 w fun k3 w1 =>
  New cs1 366 w1 fun k4 w2 =>
  ∃ z6, Pu Tryz.prog (zeroValue 366) z6 ∧
  New z6.cells 366 w2 fun k6 w3 =>
  LoopS [.slice p2 l2 c2, .pointer (some (⟨k3, 0, none⟩ : Addr)), .pointer (some (⟨k4, 0, none⟩ : Addr)), .pointer (some (⟨k6, 0, none⟩ : Addr)), .int .i64 0] w3 fun I1 μ1 us1 _ wl1 =>
  ∃ p2_1 l2_1 c2_1 a3 a4 a6 n7, us1 = [.slice p2_1 l2_1 c2_1, .pointer (some a3), .pointer (some a4), .pointer (some a6), .int .i64 n7] ∧
  cond (decide (n7 < ((l2_1 : Nat) : Int)))
  (∃ (S4 : World → Prop),
    Drw wl1 fun w4 =>
    ∃ a17, IxA Tryz.prog 362 (.slice p2_1 l2_1 c2_1) (.int .i64 n7) a17 ∧
    ∃ (cs14 : Array Value), HLd Tryz.prog S4 366 (.pointer (some a4)) w4 (.agg cs14) ∧
    ∃ (cs18 : Array Value), HLd Tryz.prog S4 366 (.pointer (some a17)) w4 (.agg cs18) ∧
    ∃ (cs20 : Array Value), HLd Tryz.prog S4 366 (.pointer (some a3)) w4 (.agg cs20) ∧
    callF Tryz.prog 290 #[.agg cs14, .agg cs18] w4 fun r19 w5 =>
    ∃ (cs19 : Array Value), r19 = .agg cs19 ∧
    (w5 = w4 ∨ S4 w5) ∧
    callF Tryz.prog 289 #[.agg cs19, .agg cs20] w5 fun r21 w6 =>
    ∃ (cs21 : Array Value), r21 = .agg cs21 ∧
    ∃ w7, Sto Tryz.prog 366 (.pointer (some a4)) (.agg cs21) w6 w7 ∧
    goesOn [] [] I1 μ1 us1 [.slice p2_1 l2_1 c2_1, .pointer (some a3), .pointer (some a4), .pointer (some a6), .int .i64 (IntKind.i64.wrap (n7 + 1))] wl1 w7)
  (ref05_Fold_j1 a4 a6 wl1 Q)
def ref05_Fold_tt : Nat → List (Nat × TypeId) := fun n => match n with | 0 => [(2, 362), (3, 1000000), (4, 1000000), (6, 1000000), (7, 3)] | _ => []
theorem ref05_Fold_call (cs0 : Array Value) (cs1 : Array Value) (p2 : Option Addr) (l2 : Nat) (c2 : Nat) (w : World) (Q : Value → World → Prop) (h : ref05_Fold cs0 cs1 p2 l2 c2 w Q) : callF Tryz.prog 261 #[.agg cs0, .agg cs1, .slice p2 l2 c2] w Q :=
  callBy ref05_Fold_tt Tryz.func261 h (fun _ _ => by kernel_rfl) (by kernel_rfl) (by kernel_rfl) (by kernel_rfl)
end Go.Sh
end

section
namespace Go.Sh
open Go Go.Fw Go.Proofs
set_option maxRecDepth 100000
set_option linter.unusedVariables false
def ref07_Seal (p0 : Option Addr) (l0 : Nat) (c0 : Nat) (p1 : Option Addr) (l1 : Nat) (c1 : Nat) (p2 : Option Addr) (l2 : Nat) (c2 : Nat) (p3 : Option Addr) (l3 : Nat) (c3 : Nat) (w : World) (Q : Value → World → Prop) : Prop :=
  callF Tryz.prog 198 #[.slice p0 l0 c0, .slice p1 l1 c1, .slice p2 l2 c2, .slice p3 l3 c3] w fun r18 w1 =>
  ∃ b18, r18 = .bool b18 ∧
  cond b18
  (Q (.tuple #[.slice none 0 0, .int .i64 11]) w1)
  (callF Tryz.prog 173 #[.slice p1 l1 c1] w1 fun r22 w2 =>
    ∃ p22 l22 c22, r22 = .slice p22 l22 c22 ∧
    callF Tryz.prog 172 #[.slice p22 l22 c22, .int .u64 1] w2 fun r23 w3 =>
    ∃ p23 l23 c23, r23 = .slice p23 l23 c23 ∧
    callF Tryz.prog 171 #[.slice p0 l0 c0, .slice p23 l23 c23, .slice p2 l2 c2] w3 fun r25 w4 =>
    ∃ p25 l25 c25 n25, r25 = .tuple #[.slice p25 l25 c25, .int .i64 n25] ∧
    callF Tryz.prog 170 #[.slice p0 l0 c0, .slice p1 l1 c1, .slice p25 l25 c25, .slice p3 l3 c3] w4 fun r33 w5 =>
    ∃ p33 l33 c33 n33, r33 = .tuple #[.slice p33 l33 c33, .int .i64 n33] ∧
    ∃ p38 l38 c38 w6, Ef Tryz.prog (Builtin.append_ #[25, 25] 25 #[.slice p25 l25 c25, .slice p33 l33 c33]) w5 (.slice p38 l38 c38) w6 ∧
    Q (.tuple #[.slice p38 l38 c38, .int .i64 0]) w6)
def ref07_Seal_tt : Nat → List (Nat × TypeId) := fun _ => []
theorem ref07_Seal_call (p0 : Option Addr) (l0 : Nat) (c0 : Nat) (p1 : Option Addr) (l1 : Nat) (c1 : Nat) (p2 : Option Addr) (l2 : Nat) (c2 : Nat) (p3 : Option Addr) (l3 : Nat) (c3 : Nat) (w : World) (Q : Value → World → Prop) (h : ref07_Seal p0 l0 c0 p1 l1 c1 p2 l2 c2 p3 l3 c3 w Q) : callF Tryz.prog 127 #[.slice p0 l0 c0, .slice p1 l1 c1, .slice p2 l2 c2, .slice p3 l3 c3] w Q :=
  callBy ref07_Seal_tt Tryz.func127 h (fun _ _ => by kernel_rfl) (by kernel_rfl) (by kernel_rfl) (by kernel_rfl)
def ref07_Tag (p0 : Option Addr) (l0 : Nat) (c0 : Nat) (p1 : Option Addr) (l1 : Nat) (c1 : Nat) (p2 : Option Addr) (l2 : Nat) (c2 : Nat) (p3 : Option Addr) (l3 : Nat) (c3 : Nat) (w : World) (Q : Value → World → Prop) : Prop :=
  callF Tryz.prog 198 #[.slice p0 l0 c0, .slice p1 l1 c1, .slice p2 l2 c2, .slice p3 l3 c3] w fun r18 w1 =>
  ∃ b18, r18 = .bool b18 ∧
  cond b18
  (Q (.tuple #[.slice none 0 0, .int .i64 11]) w1)
  (∃ p20 l20 c20 w2, Ef Tryz.prog (Instr.makeSlice 25 (.int .i64 16) (.int .i64 16)) w1 (.slice p20 l20 c20) w2 ∧
    callF Tryz.prog 221 #[.slice p0 l0 c0, .slice p20 l20 c20] w2 fun r21 w3 =>
    ∃ p21 l21 c21, r21 = .slice p21 l21 c21 ∧
    callF Tryz.prog 222 #[.slice p21 l21 c21, .slice p3 l3 c3, .slice p2 l2 c2] w3 fun r25 w4 =>
    ∃ p25 l25 c25, r25 = .slice p25 l25 c25 ∧
    callF Tryz.prog 173 #[.slice p1 l1 c1] w4 fun r28 w5 =>
    ∃ p28 l28 c28, r28 = .slice p28 l28 c28 ∧
    callF Tryz.prog 221 #[.slice p0 l0 c0, .slice p28 l28 c28] w5 fun r29 w6 =>
    ∃ p29 l29 c29, r29 = .slice p29 l29 c29 ∧
    LoopS [.slice none 0 0, .int .i64 0, .slice p25 l25 c25, .slice p29 l29 c29, .int .i64 0] w6 fun I1 μ1 us1 _ wl1 =>
    ∃ p8 l8 c8 n9 p11 l11 c11 p12 l12 c12 n13, us1 = [.slice p8 l8 c8, .int .i64 n9, .slice p11 l11 c11, .slice p12 l12 c12, .int .i64 n13] ∧
    cond (decide (n13 < 16))
    (∃ (S9 : World → Prop),
      Drw wl1 fun w7 =>
      ∃ a36, IxA Tryz.prog 25 (.slice p11 l11 c11) (.int .i64 n13) a36 ∧
      ∃ a40, IxA Tryz.prog 25 (.slice p12 l12 c12) (.int .i64 n13) a40 ∧
      ∃ n37, HLd Tryz.prog S9 5 (.pointer (some a36)) w7 (.int .u8 n37) ∧
      ∃ n41, Ld Tryz.prog 5 (.pointer (some a40)) w7 (.int .u8 n41) ∧
      (w7 = w7 ∨ S9 w7) ∧
      ∃ a43, IxA Tryz.prog 25 (.slice p11 l11 c11) (.int .i64 n13) a43 ∧
      ∃ w8, Sto Tryz.prog 5 (.pointer (some a43)) (.int .u8 (ixor .u8 n37 n41)) w7 w8 ∧
      goesOn [] [] I1 μ1 us1 [.slice p8 l8 c8, .int .i64 n9, .slice p11 l11 c11, .slice p12 l12 c12, .int .i64 (IntKind.i64.wrap (n13 + 1))] wl1 w8)
    (Q (.tuple #[.slice p11 l11 c11, .int .i64 0]) wl1))
def ref07_Tag_tt : Nat → List (Nat × TypeId) := fun n => match n with | 0 => [(8, 25), (9, 33), (11, 25), (12, 25), (13, 3)] | _ => []
theorem ref07_Tag_call (p0 : Option Addr) (l0 : Nat) (c0 : Nat) (p1 : Option Addr) (l1 : Nat) (c1 : Nat) (p2 : Option Addr) (l2 : Nat) (c2 : Nat) (p3 : Option Addr) (l3 : Nat) (c3 : Nat) (w : World) (Q : Value → World → Prop) (h : ref07_Tag p0 l0 c0 p1 l1 c1 p2 l2 c2 p3 l3 c3 w Q) : callF Tryz.prog 170 #[.slice p0 l0 c0, .slice p1 l1 c1, .slice p2 l2 c2, .slice p3 l3 c3] w Q :=
  callBy ref07_Tag_tt Tryz.func170 h (fun _ _ => by kernel_rfl) (by kernel_rfl) (by kernel_rfl) (by kernel_rfl)
def ref07_first (p0 : Option Addr) (l0 : Nat) (c0 : Nat) (w : World) (Q : Value → World → Prop) : Prop :=
  ∃ p3 l3 c3 w1, Ef Tryz.prog (Instr.buildSlice 25 0 #[]) w (.slice p3 l3 c3) w1 ∧
  ∃ p5 l5 c5 w2, Ef Tryz.prog (Builtin.append_ #[25, 25] 25 #[.slice p3 l3 c3, .slice p0 l0 c0]) w1 (.slice p5 l5 c5) w2 ∧
  ∃ p6 l6 c6 w3, Ef Tryz.prog (Instr.buildSlice 25 4 #[(0, .int .u8 0), (1, .int .u8 0), (2, .int .u8 0), (3, .int .u8 1)]) w2 (.slice p6 l6 c6) w3 ∧
  ∃ p7 l7 c7 w4, Ef Tryz.prog (Builtin.append_ #[25, 25] 25 #[.slice p5 l5 c5, .slice p6 l6 c6]) w3 (.slice p7 l7 c7) w4 ∧
  Q (.slice p7 l7 c7) w4
def ref07_first_tt : Nat → List (Nat × TypeId) := fun _ => []
theorem ref07_first_call (p0 : Option Addr) (l0 : Nat) (c0 : Nat) (w : World) (Q : Value → World → Prop) (h : ref07_first p0 l0 c0 w Q) : callF Tryz.prog 173 #[.slice p0 l0 c0] w Q :=
  callBy ref07_first_tt Tryz.func173 h (fun _ _ => by kernel_rfl) (by kernel_rfl) (by kernel_rfl) (by kernel_rfl)
def ref07_wrong (p0 : Option Addr) (l0 : Nat) (c0 : Nat) (p1 : Option Addr) (l1 : Nat) (c1 : Nat) (p2 : Option Addr) (l2 : Nat) (c2 : Nat) (p3 : Option Addr) (l3 : Nat) (c3 : Nat) (w : World) (Q : Value → World → Prop) : Prop :=
  cond (((l0 : Nat) : Int) != 16)
  (Q (.bool true) w)
  (cond (((l1 : Nat) : Int) != 12)
    (Q (.bool true) w)
    (cond (decide (((l2 : Nat) : Int) > 65535))
      (Q (.bool true) w)
      (Q (.bool (decide (((l3 : Nat) : Int) > 65535))) w)))
def ref07_wrong_tt : Nat → List (Nat × TypeId) := fun _ => []
theorem ref07_wrong_call (p0 : Option Addr) (l0 : Nat) (c0 : Nat) (p1 : Option Addr) (l1 : Nat) (c1 : Nat) (p2 : Option Addr) (l2 : Nat) (c2 : Nat) (p3 : Option Addr) (l3 : Nat) (c3 : Nat) (w : World) (Q : Value → World → Prop) (h : ref07_wrong p0 l0 c0 p1 l1 c1 p2 l2 c2 p3 l3 c3 w Q) : callF Tryz.prog 198 #[.slice p0 l0 c0, .slice p1 l1 c1, .slice p2 l2 c2, .slice p3 l3 c3] w Q :=
  callBy ref07_wrong_tt Tryz.func198 h (fun _ _ => by kernel_rfl) (by kernel_rfl) (by kernel_rfl) (by kernel_rfl)
end Go.Sh
end
