/- A part of a proof of a given law of this program: lemmas, printed forms of its functions, contracts. It has no conditions of its own. -/
import Derived.Test.YtcfealonnakdcaaGreatProg
import Derived.Test.YtcfealonnakdcaaGreatMW0
import Derived.Test.YtcfealonnakdcaaGreatMW1
import Derived.Test.YtcfealonnakdcaaGreatMS0

section
namespace Go.Sh
open Go Go.Fw Go.Proofs
set_option maxRecDepth 100000
set_option linter.unusedVariables false
def aes_Cipher_Decrypt_j1 (I1 : Inv) (μ1 : Meas) (us1 : List Value) (wl1 : World) (p0 : Option Addr) (p4 : Option Addr) (l4 : Nat) (c4 : Nat) (n5 : Int) (a6 : Addr) (n7 : Int) (w : World) (Q : Value → World → Prop) : Prop :=
  callF Tryz.prog 233 #[.pointer (some a6), .int .i64 3] w fun r35 w1 =>
  r35 = .tuple #[] ∧
  ∃ a37, p0 = some a37 ∧
  ∃ p39, Ld Tryz.prog 318 (.pointer (some (a37.add 0))) w1 (.pointer p39) ∧
  callF Tryz.prog 234 #[.pointer (some a6), .func (.func 235) #[.pointer p39] #[]] w1 fun r41 w2 =>
  r41 = .tuple #[] ∧
  goesOn [] [] I1 μ1 us1 [.pointer p0, .slice p4 l4 c4, .int .i64 n5, .pointer (some a6), .int .i64 (IntKind.i64.wrap (n7 - 1))] wl1 w2
def aes_Cipher_Decrypt_j2 (p0 : Option Addr) (p4 : Option Addr) (l4 : Nat) (c4 : Nat) (n5 : Int) (a6 : Addr) (w : World) (Q : Value → World → Prop) : Prop :=
  ∃ a43, p0 = some a43 ∧
  ∃ a45, IxA Tryz.prog 320 (.pointer (some (a43.add 1))) (.int .i64 0) a45 ∧
  ∃ (cs46 : Array Value), Ld Tryz.prog 319 (.pointer (some a45)) w (.agg cs46) ∧
  callF Tryz.prog 230 #[.pointer (some a6), .agg cs46] w fun r47 w1 =>
  r47 = .tuple #[] ∧
  ∃ p48 l48 c48, Pu Tryz.prog (Instr.sliceAt 319 (.pointer (some a6)) none none none) (.slice p48 l48 c48) ∧
  Q (.tuple #[.slice p48 l48 c48, .int .i64 0]) w1
def aes_Cipher_Decrypt (p0 : Option Addr) (p1 : Option Addr) (l1 : Nat) (c1 : Nat) (w : World) (Q : Value → World → Prop) : Prop :=
  cond (((l1 : Nat) : Int) != 16)
  (Q (.tuple #[.slice none 0 0, .int .i64 11]) w)
  (∃ a12, p0 = some a12 ∧
    callF Tryz.prog 163 #[.pointer (some (a12.add 177)), .int .i64 1] w fun r14 w1 =>
    ∃ n14, r14 = .int .i64 n14 ∧
    ∃ p16, Pu Tryz.prog (Instr.arrayAt 319 (.slice p1 l1 c1)) (.pointer p16) ∧
    ∃ (cs17 : Array Value), Ld Tryz.prog 319 (.pointer p16) w1 (.agg cs17) ∧
    ∃ z6, Pu Tryz.prog (zeroValue 319) z6 ∧
    New z6.cells 319 w1 fun k6 w2 =>
    ∃ w3, Sto Tryz.prog 319 (.pointer (some (⟨k6, 0, none⟩ : Addr))) (.agg cs17) w2 w3 ∧
    LoopS [.pointer p0, .slice none 0 0, .int .i64 0, .pointer (some (⟨k6, 0, none⟩ : Addr)), .int .i64 10] w3 fun I1 μ1 us1 _ wl1 =>
    ∃ p0_1 p4 l4 c4 n5 a6 n7, us1 = [.pointer p0_1, .slice p4 l4 c4, .int .i64 n5, .pointer (some a6), .int .i64 n7] ∧
    cond (decide (n7 ≥ 1))
    (∃ a24, p0_1 = some a24 ∧
      ∃ a26, IxA Tryz.prog 320 (.pointer (some (a24.add 1))) (.int .i64 n7) a26 ∧
      ∃ (cs27 : Array Value), Ld Tryz.prog 319 (.pointer (some a26)) wl1 (.agg cs27) ∧
      callF Tryz.prog 230 #[.pointer (some a6), .agg cs27] wl1 fun r28 w4 =>
      r28 = .tuple #[] ∧
      cond (decide (n7 < 10))
      (callF Tryz.prog 231 #[.pointer (some a6), .func (.func 232) #[.pointer p0_1] #[], .agg #[.int .i64 5, .int .i64 3, .int .i64 4, .int .i64 2]] w4 fun r34 w5 =>
        r34 = .tuple #[] ∧
        aes_Cipher_Decrypt_j1 I1 μ1 us1 wl1 p0_1 p4 l4 c4 n5 a6 n7 w5 Q)
      (aes_Cipher_Decrypt_j1 I1 μ1 us1 wl1 p0_1 p4 l4 c4 n5 a6 n7 w4 Q))
    (aes_Cipher_Decrypt_j2 p0_1 p4 l4 c4 n5 a6 wl1 Q))
def aes_Cipher_Decrypt_tt : Nat → List (Nat × TypeId) := fun n => match n with | 0 => [(0, 279), (4, 25), (5, 33), (6, 1000000), (7, 3)] | _ => []
theorem aes_Cipher_Decrypt_call (p0 : Option Addr) (p1 : Option Addr) (l1 : Nat) (c1 : Nat) (w : World) (Q : Value → World → Prop) (h : aes_Cipher_Decrypt p0 p1 l1 c1 w Q) : callF Tryz.prog 186 #[.pointer p0, .slice p1 l1 c1] w Q :=
  callBy aes_Cipher_Decrypt_tt Tryz.func186 h (fun _ _ => by kernel_rfl) (by kernel_rfl) (by kernel_rfl) (by kernel_rfl)
def aes_New_j1 (I1 : Inv) (μ1 : Meas) (us1 : List Value) (wl1 : World) (p0 : Option Addr) (l0 : Nat) (c0 : Nat) (p2 : Option Addr) (n3 : Int) (a4 : Addr) (a5 : Addr) (n6 : Int) (a7 : Addr) (n17 : Int) (w : World) (Q : Value → World → Prop) : Prop :=
  ∃ (S13 : World → Prop),
  Drw w fun w1 =>
  ∃ a45, IxA Tryz.prog 335 (.pointer (some a5)) (.int .i64 (IntKind.i64.wrap (n6 - 4))) a45 ∧
  ∃ (cs46 : Array Value), HLd Tryz.prog S13 334 (.pointer (some a45)) w1 (.agg cs46) ∧
  ∃ (cs47 : Array Value), Ld Tryz.prog 334 (.pointer (some a7)) w1 (.agg cs47) ∧
  (w1 = w1 ∨ S13 w1) ∧
  callF Tryz.prog 241 #[.agg cs46, .agg cs47] w1 fun r48 w2 =>
  ∃ (cs48 : Array Value), r48 = .agg cs48 ∧
  ∃ a49, IxA Tryz.prog 335 (.pointer (some a5)) (.int .i64 n6) a49 ∧
  ∃ w3, Sto Tryz.prog 334 (.pointer (some a49)) (.agg cs48) w2 w3 ∧
  goesOn [] [] I1 μ1 us1 [.slice p0 l0 c0, .pointer p2, .int .i64 n3, .pointer (some a4), .pointer (some a5), .int .i64 (IntKind.i64.wrap (n17 + 1))] wl1 w3
def aes_New_j2 (p2 : Option Addr) (n3 : Int) (a4 : Addr) (a5 : Addr) (w : World) (Q : Value → World → Prop) : Prop :=
  ∃ (cs51 : Array Value), Ld Tryz.prog 335 (.pointer (some a5)) w (.agg cs51) ∧
  LoopS [.pointer p2, .int .i64 n3, .pointer (some a4), .agg cs51, .int .i64 0] w fun I2 μ2 us2 _ wl2 =>
  ∃ (p2_1 : Option Addr) (n3_1 : Int) (a4_1 : Addr) (cs51_1 : Array Value) (n52 : Int), us2 = [.pointer p2_1, .int .i64 n3_1, .pointer (some a4_1), .agg cs51_1, .int .i64 n52] ∧
  cond (decide (n52 < 44))
  (∃ (cs55 : Array Value), Pu Tryz.prog (Instr.index 335 (.agg cs51_1) (.int .i64 n52)) (.agg cs55) ∧
    ∃ z9, Pu Tryz.prog (zeroValue 334) z9 ∧
    New z9.cells 334 wl2 fun k9 w1 =>
    ∃ w2, Sto Tryz.prog 334 (.pointer (some (⟨k9, 0, none⟩ : Addr))) (.agg cs55) w1 w2 ∧
    Drw w2 fun w3 =>
    ∃ a59, some a4_1 = some a59 ∧
    ∃ a61, IxA Tryz.prog 320 (.pointer (some (a59.add 1))) (.int .i64 (IntKind.i64.wrap (Int.tdiv n52 4))) a61 ∧
    ∃ p65 l65 c65, Pu Tryz.prog (Instr.sliceAt 319 (.pointer (some a61)) (some (.int .i64 (IntKind.i64.wrap (4 * (Int.tmod n52 4))))) none none) (.slice p65 l65 c65) ∧
    ∃ p66 l66 c66, Pu Tryz.prog (Instr.sliceAt 334 (.pointer (some (⟨k9, 0, none⟩ : Addr))) none none none) (.slice p66 l66 c66) ∧
    ∃ n67 w4, Ef Tryz.prog (Builtin.copy_ #[25, 25] 3 #[.slice p65 l65 c65, .slice p66 l66 c66]) w3 (.int .i64 n67) w4 ∧
    goesOn [] [] I2 μ2 us2 [.pointer p2_1, .int .i64 n3_1, .pointer (some a4_1), .agg cs51_1, .int .i64 (IntKind.i64.wrap (n52 + 1))] wl2 w4)
  (Q (.tuple #[.pointer (some a4_1), .int .i64 0]) wl2)
def aes_New (p0 : Option Addr) (l0 : Nat) (c0 : Nat) (w : World) (Q : Value → World → Prop) : Prop :=
  cond (((l0 : Nat) : Int) != 16)
  (Q (.tuple #[.pointer none, .int .i64 11]) w)
  (∃ p13 l13 c13 w1, Ef Tryz.prog (Instr.buildSlice 25 6 #[(0, .int .u8 2), (1, .int .u8 3), (2, .int .u8 9), (3, .int .u8 11), (4, .int .u8 13), (5, .int .u8 14)]) w (.slice p13 l13 c13) w1 ∧
    callF Tryz.prog 239 #[.slice p13 l13 c13] w1 fun r14 w2 =>
    ∃ p14, r14 = .pointer p14 ∧
    New #[.pointer p14, .int .u8 0, .int .u8 0, .int .u8 0, .int .u8 0, .int .u8 0, .int .u8 0, .int .u8 0, .int .u8 0, .int .u8 0, .int .u8 0, .int .u8 0, .int .u8 0, .int .u8 0, .int .u8 0, .int .u8 0, .int .u8 0, .int .u8 0, .int .u8 0, .int .u8 0, .int .u8 0, .int .u8 0, .int .u8 0, .int .u8 0, .int .u8 0, .int .u8 0, .int .u8 0, .int .u8 0, .int .u8 0, .int .u8 0, .int .u8 0, .int .u8 0, .int .u8 0, .int .u8 0, .int .u8 0, .int .u8 0, .int .u8 0, .int .u8 0, .int .u8 0, .int .u8 0, .int .u8 0, .int .u8 0, .int .u8 0, .int .u8 0, .int .u8 0, .int .u8 0, .int .u8 0, .int .u8 0, .int .u8 0, .int .u8 0, .int .u8 0, .int .u8 0, .int .u8 0, .int .u8 0, .int .u8 0, .int .u8 0, .int .u8 0, .int .u8 0, .int .u8 0, .int .u8 0, .int .u8 0, .int .u8 0, .int .u8 0, .int .u8 0, .int .u8 0, .int .u8 0, .int .u8 0, .int .u8 0, .int .u8 0, .int .u8 0, .int .u8 0, .int .u8 0, .int .u8 0, .int .u8 0, .int .u8 0, .int .u8 0, .int .u8 0, .int .u8 0, .int .u8 0, .int .u8 0, .int .u8 0, .int .u8 0, .int .u8 0, .int .u8 0, .int .u8 0, .int .u8 0, .int .u8 0, .int .u8 0, .int .u8 0, .int .u8 0, .int .u8 0, .int .u8 0, .int .u8 0, .int .u8 0, .int .u8 0, .int .u8 0, .int .u8 0, .int .u8 0, .int .u8 0, .int .u8 0, .int .u8 0, .int .u8 0, .int .u8 0, .int .u8 0, .int .u8 0, .int .u8 0, .int .u8 0, .int .u8 0, .int .u8 0, .int .u8 0, .int .u8 0, .int .u8 0, .int .u8 0, .int .u8 0, .int .u8 0, .int .u8 0, .int .u8 0, .int .u8 0, .int .u8 0, .int .u8 0, .int .u8 0, .int .u8 0, .int .u8 0, .int .u8 0, .int .u8 0, .int .u8 0, .int .u8 0, .int .u8 0, .int .u8 0, .int .u8 0, .int .u8 0, .int .u8 0, .int .u8 0, .int .u8 0, .int .u8 0, .int .u8 0, .int .u8 0, .int .u8 0, .int .u8 0, .int .u8 0, .int .u8 0, .int .u8 0, .int .u8 0, .int .u8 0, .int .u8 0, .int .u8 0, .int .u8 0, .int .u8 0, .int .u8 0, .int .u8 0, .int .u8 0, .int .u8 0, .int .u8 0, .int .u8 0, .int .u8 0, .int .u8 0, .int .u8 0, .int .u8 0, .int .u8 0, .int .u8 0, .int .u8 0, .int .u8 0, .int .u8 0, .int .u8 0, .int .u8 0, .int .u8 0, .int .u8 0, .int .u8 0, .int .u8 0, .int .u8 0, .int .u8 0, .int .u8 0, .int .u8 0, .int .u8 0, .int .u8 0, .int .u8 0, .int .u8 0, .int .i64 0] 322 w2 fun k16 w3 =>
    ∃ z5, Pu Tryz.prog (zeroValue 335) z5 ∧
    New z5.cells 335 w3 fun k5 w4 =>
    LoopS [.slice p0 l0 c0, .pointer none, .int .i64 0, .pointer (some (⟨k16, 0, none⟩ : Addr)), .pointer (some (⟨k5, 0, none⟩ : Addr)), .int .i64 0] w4 fun I1 μ1 us1 _ wl1 =>
    ∃ p0_1 l0_1 c0_1 p2 n3 a4 a5 n17, us1 = [.slice p0_1 l0_1 c0_1, .pointer p2, .int .i64 n3, .pointer (some a4), .pointer (some a5), .int .i64 n17] ∧
    cond (decide (n17 < 44))
    (cond (decide (n17 < 4))
      (∃ p26 l26 c26, Pu Tryz.prog (Instr.sliceAt 25 (.slice p0_1 l0_1 c0_1) (some (.int .i64 (IntKind.i64.wrap (4 * n17)))) none none) (.slice p26 l26 c26) ∧
        ∃ p27, Pu Tryz.prog (Instr.arrayAt 334 (.slice p26 l26 c26)) (.pointer p27) ∧
        ∃ (cs28 : Array Value), Ld Tryz.prog 334 (.pointer p27) wl1 (.agg cs28) ∧
        ∃ a29, IxA Tryz.prog 335 (.pointer (some a5)) (.int .i64 n17) a29 ∧
        ∃ w5, Sto Tryz.prog 334 (.pointer (some a29)) (.agg cs28) wl1 w5 ∧
        goesOn [] [] I1 μ1 us1 [.slice p0_1 l0_1 c0_1, .pointer p2, .int .i64 n3, .pointer (some a4), .pointer (some a5), .int .i64 (IntKind.i64.wrap (n17 + 1))] wl1 w5)
      (∃ a32, IxA Tryz.prog 335 (.pointer (some a5)) (.int .i64 (IntKind.i64.wrap (n17 - 1))) a32 ∧
        ∃ (cs33 : Array Value), Ld Tryz.prog 334 (.pointer (some a32)) wl1 (.agg cs33) ∧
        ∃ z7, Pu Tryz.prog (zeroValue 334) z7 ∧
        New z7.cells 334 wl1 fun k7 w6 =>
        ∃ w7, Sto Tryz.prog 334 (.pointer (some (⟨k7, 0, none⟩ : Addr))) (.agg cs33) w6 w7 ∧
        cond ((Int.tmod n17 4) == 0)
        (∃ (cs38 : Array Value), Ld Tryz.prog 334 (.pointer (some (⟨k7, 0, none⟩ : Addr))) w7 (.agg cs38) ∧
          callF Tryz.prog 240 #[.pointer (some a4), .agg cs38, .int .i64 (IntKind.i64.wrap (Int.tdiv n17 4))] w7 fun r41 w8 =>
          ∃ (cs41 : Array Value), r41 = .agg cs41 ∧
          ∃ w9, Sto Tryz.prog 334 (.pointer (some (⟨k7, 0, none⟩ : Addr))) (.agg cs41) w8 w9 ∧
          aes_New_j1 I1 μ1 us1 wl1 p0_1 l0_1 c0_1 p2 n3 a4 a5 n17 (⟨k7, 0, none⟩ : Addr) n17 w9 Q)
        (aes_New_j1 I1 μ1 us1 wl1 p0_1 l0_1 c0_1 p2 n3 a4 a5 n17 (⟨k7, 0, none⟩ : Addr) n17 w7 Q)))
    (aes_New_j2 p2 n3 a4 a5 wl1 Q))
def aes_New_tt : Nat → List (Nat × TypeId) := fun n => match n with | 0 => [(0, 25), (2, 279), (3, 33), (4, 1000000), (5, 1000000), (17, 3)] | 2 => [(2, 279), (3, 33), (4, 1000000), (51, 335), (52, 3)] | _ => []
theorem aes_New_call (p0 : Option Addr) (l0 : Nat) (c0 : Nat) (w : World) (Q : Value → World → Prop) (h : aes_New p0 l0 c0 w Q) : callF Tryz.prog 191 #[.slice p0 l0 c0] w Q :=
  callBy aes_New_tt Tryz.func191 h (fun _ _ => by kernel_rfl) (by kernel_rfl) (by kernel_rfl) (by kernel_rfl)
def aes_Cipher_Encrypt_j1 (I1 : Inv) (μ1 : Meas) (us1 : List Value) (wl1 : World) (p0 : Option Addr) (p4 : Option Addr) (l4 : Nat) (c4 : Nat) (n5 : Int) (a6 : Addr) (n7 : Int) (w : World) (Q : Value → World → Prop) : Prop :=
  ∃ a43, p0 = some a43 ∧
  ∃ a45, IxA Tryz.prog 320 (.pointer (some (a43.add 1))) (.int .i64 n7) a45 ∧
  ∃ (cs46 : Array Value), Ld Tryz.prog 319 (.pointer (some a45)) w (.agg cs46) ∧
  callF Tryz.prog 230 #[.pointer (some a6), .agg cs46] w fun r47 w1 =>
  r47 = .tuple #[] ∧
  goesOn [] [] I1 μ1 us1 [.pointer p0, .slice p4 l4 c4, .int .i64 n5, .pointer (some a6), .int .i64 (IntKind.i64.wrap (n7 + 1))] wl1 w1
def aes_Cipher_Encrypt (p0 : Option Addr) (p1 : Option Addr) (l1 : Nat) (c1 : Nat) (w : World) (Q : Value → World → Prop) : Prop :=
  cond (((l1 : Nat) : Int) != 16)
  (Q (.tuple #[.slice none 0 0, .int .i64 11]) w)
  (∃ a12, p0 = some a12 ∧
    callF Tryz.prog 163 #[.pointer (some (a12.add 177)), .int .i64 1] w fun r14 w1 =>
    ∃ n14, r14 = .int .i64 n14 ∧
    ∃ p16, Pu Tryz.prog (Instr.arrayAt 319 (.slice p1 l1 c1)) (.pointer p16) ∧
    ∃ (cs17 : Array Value), Ld Tryz.prog 319 (.pointer p16) w1 (.agg cs17) ∧
    ∃ z6, Pu Tryz.prog (zeroValue 319) z6 ∧
    New z6.cells 319 w1 fun k6 w2 =>
    ∃ w3, Sto Tryz.prog 319 (.pointer (some (⟨k6, 0, none⟩ : Addr))) (.agg cs17) w2 w3 ∧
    ∃ a19, p0 = some a19 ∧
    ∃ a21, IxA Tryz.prog 320 (.pointer (some (a19.add 1))) (.int .i64 0) a21 ∧
    ∃ (cs22 : Array Value), Ld Tryz.prog 319 (.pointer (some a21)) w3 (.agg cs22) ∧
    callF Tryz.prog 230 #[.pointer (some (⟨k6, 0, none⟩ : Addr)), .agg cs22] w3 fun r23 w4 =>
    r23 = .tuple #[] ∧
    LoopS [.pointer p0, .slice none 0 0, .int .i64 0, .pointer (some (⟨k6, 0, none⟩ : Addr)), .int .i64 1] w4 fun I1 μ1 us1 _ wl1 =>
    ∃ p0_1 p4 l4 c4 n5 a6 n7, us1 = [.pointer p0_1, .slice p4 l4 c4, .int .i64 n5, .pointer (some a6), .int .i64 n7] ∧
    cond (decide (n7 ≤ 10))
    (∃ a29, p0_1 = some a29 ∧
      ∃ p31, Ld Tryz.prog 318 (.pointer (some (a29.add 0))) wl1 (.pointer p31) ∧
      callF Tryz.prog 234 #[.pointer (some a6), .func (.func 242) #[.pointer p31] #[]] wl1 fun r33 w5 =>
      r33 = .tuple #[] ∧
      callF Tryz.prog 233 #[.pointer (some a6), .int .i64 1] w5 fun r34 w6 =>
      r34 = .tuple #[] ∧
      cond (decide (n7 < 10))
      (callF Tryz.prog 231 #[.pointer (some a6), .func (.func 232) #[.pointer p0_1] #[], .agg #[.int .i64 0, .int .i64 1, .int .i64 (-1), .int .i64 (-1)]] w6 fun r40 w7 =>
        r40 = .tuple #[] ∧
        aes_Cipher_Encrypt_j1 I1 μ1 us1 wl1 p0_1 p4 l4 c4 n5 a6 n7 w7 Q)
      (aes_Cipher_Encrypt_j1 I1 μ1 us1 wl1 p0_1 p4 l4 c4 n5 a6 n7 w6 Q))
    (∃ p48 l48 c48, Pu Tryz.prog (Instr.sliceAt 319 (.pointer (some a6)) none none none) (.slice p48 l48 c48) ∧
      Q (.tuple #[.slice p48 l48 c48, .int .i64 0]) wl1))
def aes_Cipher_Encrypt_tt : Nat → List (Nat × TypeId) := fun n => match n with | 0 => [(0, 279), (4, 25), (5, 33), (6, 1000000), (7, 3)] | _ => []
theorem aes_Cipher_Encrypt_call (p0 : Option Addr) (p1 : Option Addr) (l1 : Nat) (c1 : Nat) (w : World) (Q : Value → World → Prop) (h : aes_Cipher_Encrypt p0 p1 l1 c1 w Q) : callF Tryz.prog 192 #[.pointer p0, .slice p1 l1 c1] w Q :=
  callBy aes_Cipher_Encrypt_tt Tryz.func192 h (fun _ _ => by kernel_rfl) (by kernel_rfl) (by kernel_rfl) (by kernel_rfl)
def aes_block_add (p0 : Option Addr) (cs1 : Array Value) (w : World) (Q : Value → World → Prop) : Prop :=
  New cs1 319 w fun k3 w1 =>
  LoopS [.pointer p0, .pointer (some (⟨k3, 0, none⟩ : Addr)), .int .i64 0] w1 fun I1 μ1 us1 _ wl1 =>
  ∃ p0_1 a3 n5, us1 = [.pointer p0_1, .pointer (some a3), .int .i64 n5] ∧
  cond (decide (n5 < 16))
  (∃ (S4 : World → Prop),
    Drw wl1 fun w2 =>
    ∃ a10, p0_1 = some a10 ∧
    ∃ a11, IxA Tryz.prog 319 (.pointer (some a10)) (.int .i64 n5) a11 ∧
    ∃ a14, IxA Tryz.prog 319 (.pointer (some a3)) (.int .i64 n5) a14 ∧
    ∃ a17, p0_1 = some a17 ∧
    ∃ n12, HLd Tryz.prog S4 5 (.pointer (some a11)) w2 (.int .u8 n12) ∧
    ∃ n15, Ld Tryz.prog 5 (.pointer (some a14)) w2 (.int .u8 n15) ∧
    (w2 = w2 ∨ S4 w2) ∧
    ∃ a18, IxA Tryz.prog 319 (.pointer (some a17)) (.int .i64 n5) a18 ∧
    ∃ w3, Sto Tryz.prog 5 (.pointer (some a18)) (.int .u8 (ixor .u8 n12 n15)) w2 w3 ∧
    goesOn [] [] I1 μ1 us1 [.pointer p0_1, .pointer (some a3), .int .i64 (IntKind.i64.wrap (n5 + 1))] wl1 w3)
  (Q (.tuple #[]) wl1)
def aes_block_add_tt : Nat → List (Nat × TypeId) := fun n => match n with | 0 => [(0, 370), (3, 1000000), (5, 3)] | _ => []
theorem aes_block_add_call (p0 : Option Addr) (cs1 : Array Value) (w : World) (Q : Value → World → Prop) (h : aes_block_add p0 cs1 w Q) : callF Tryz.prog 230 #[.pointer p0, .agg cs1] w Q :=
  callBy aes_block_add_tt Tryz.func230 h (fun _ _ => by kernel_rfl) (by kernel_rfl) (by kernel_rfl) (by kernel_rfl)
def aes_block_columns_j1 (I1 : Inv) (μ1 : Meas) (us1 : List Value) (wl1 : World) (p0 : Option Addr) (v1 : Value) (a5 : Addr) (a6 : Addr) (n7 : Int) (n10 : Int) (n16 : Int) (w : World) (Q : Value → World → Prop) : Prop :=
  ∃ a46, p0 = some a46 ∧
  ∃ a47, IxA Tryz.prog 319 (.pointer (some a46)) (.int .i64 n7) a47 ∧
  ∃ w1, Sto Tryz.prog 5 (.pointer (some a47)) (.int .u8 n10) w w1 ∧
  goesOn [] [] I1 μ1 us1 [.pointer p0, v1, .pointer (some a5), .pointer (some a6), .int .i64 (IntKind.i64.wrap (n16 + 1))] wl1 w1
def aes_block_columns (p0 : Option Addr) (v1 : Value) (cs2 : Array Value) (w : World) (Q : Value → World → Prop) : Prop :=
  New cs2 326 w fun k5 w1 =>
  ∃ a14, p0 = some a14 ∧
  ∃ (cs15 : Array Value), Ld Tryz.prog 319 (.pointer (some a14)) w1 (.agg cs15) ∧
  ∃ z6, Pu Tryz.prog (zeroValue 319) z6 ∧
  New z6.cells 319 w1 fun k6 w2 =>
  ∃ w3, Sto Tryz.prog 319 (.pointer (some (⟨k6, 0, none⟩ : Addr))) (.agg cs15) w2 w3 ∧
  LoopS [.pointer p0, v1, .pointer (some (⟨k5, 0, none⟩ : Addr)), .pointer (some (⟨k6, 0, none⟩ : Addr)), .int .i64 0] w3 fun I1 μ1 us1 _ wl1 =>
  ∃ p0_1 v1_1 a5 a6 n16, us1 = [.pointer p0_1, v1_1, .pointer (some a5), .pointer (some a6), .int .i64 n16] ∧
  cond (decide (n16 < 16))
  (∃ (cs23 : Array Value), Ld Tryz.prog 326 (.pointer (some a5)) wl1 (.agg cs23) ∧
    LoopS [.pointer p0_1, v1_1, .pointer (some a5), .pointer (some a6), .int .i64 n16, .int .i64 (IntKind.i64.wrap (Int.tdiv n16 4)), .int .i64 (Int.tmod n16 4), .int .u8 0, .int .i64 n16, .agg cs23, .int .i64 0] wl1 fun I2 μ2 us2 _ wl2 =>
    ∃ (p0_2 : Option Addr) (v1_2 : Value) (a5_1 : Addr) (a6_1 : Addr) (n7 : Int) (n8 : Int) (n9 : Int) (n10 : Int) (n16_1 : Int) (cs23_1 : Array Value) (n24 : Int), us2 = [.pointer p0_2, v1_2, .pointer (some a5_1), .pointer (some a6_1), .int .i64 n7, .int .i64 n8, .int .i64 n9, .int .u8 n10, .int .i64 n16_1, .agg cs23_1, .int .i64 n24] ∧
    cond (decide (n24 < 4))
    (∃ n27, Pu Tryz.prog (Instr.index 326 (.agg cs23_1) (.int .i64 n24)) (.int .i64 n27) ∧
      ∃ a38, IxA Tryz.prog 319 (.pointer (some a6_1)) (.int .i64 (IntKind.i64.wrap ((IntKind.i64.wrap (4 * n8)) + (Int.tmod (IntKind.i64.wrap (n9 + n24)) 4)))) a38 ∧
      ∃ n39, Ld Tryz.prog 5 (.pointer (some a38)) wl2 (.int .u8 n39) ∧
      callV Tryz.prog (v1_2) [.int .i64 n27, .int .u8 n39] wl2 fun r40 w4 =>
      ∃ n40, r40 = .int .u8 n40 ∧
      goesOn [] [] I2 μ2 us2 [.pointer p0_2, v1_2, .pointer (some a5_1), .pointer (some a6_1), .int .i64 n7, .int .i64 n8, .int .i64 n9, .int .u8 (ixor .u8 n10 n40), .int .i64 n16_1, .agg cs23_1, .int .i64 (IntKind.i64.wrap (n24 + 1))] wl2 w4)
    (aes_block_columns_j1 I1 μ1 us1 wl1 p0_2 (v1_2) a5_1 a6_1 n7 n10 n16_1 wl2 Q))
  (Q (.tuple #[]) wl1)
def aes_block_columns_tt : Nat → List (Nat × TypeId) := fun n => match n with | 0 => [(0, 370), (1, 325), (5, 1000000), (6, 1000000), (16, 3)] | 2 => [(0, 370), (1, 325), (5, 1000000), (6, 1000000), (7, 3), (8, 3), (9, 3), (10, 5), (16, 3), (23, 326), (24, 3)] | _ => []
theorem aes_block_columns_call (p0 : Option Addr) (v1 : Value) (cs2 : Array Value) (w : World) (Q : Value → World → Prop) (h : aes_block_columns p0 v1 cs2 w Q) : callF Tryz.prog 231 #[.pointer p0, v1, .agg cs2] w Q :=
  callBy aes_block_columns_tt Tryz.func231 h (fun _ _ => by kernel_rfl) (by kernel_rfl) (by kernel_rfl) (by kernel_rfl)
def aes_Cipher_times (p0 : Option Addr) (n1 : Int) (n2 : Int) (w : World) (Q : Value → World → Prop) : Prop :=
  cond (n1 == (-1))
  (Q (.int .u8 n2) w)
  (∃ a14, p0 = some a14 ∧
    ∃ p16, Ld Tryz.prog 318 (.pointer (some (a14.add 0))) w (.pointer p16) ∧
    callF Tryz.prog 264 #[.pointer p16, .int .i64 n1, .int .u8 n2] w fun r19 w1 =>
    ∃ n19 n19_1, r19 = .tuple #[.int .u8 n19, .int .i64 n19_1] ∧
    Q (.int .u8 n19) w1)
def aes_Cipher_times_tt : Nat → List (Nat × TypeId) := fun _ => []
theorem aes_Cipher_times_call (p0 : Option Addr) (n1 : Int) (n2 : Int) (w : World) (Q : Value → World → Prop) (h : aes_Cipher_times p0 n1 n2 w Q) : callF Tryz.prog 232 #[.pointer p0, .int .i64 n1, .int .u8 n2] w Q :=
  callBy aes_Cipher_times_tt Tryz.func232 h (fun _ _ => by kernel_rfl) (by kernel_rfl) (by kernel_rfl) (by kernel_rfl)
def aes_block_rows (p0 : Option Addr) (n1 : Int) (w : World) (Q : Value → World → Prop) : Prop :=
  ∃ a8, p0 = some a8 ∧
  ∃ (cs9 : Array Value), Ld Tryz.prog 319 (.pointer (some a8)) w (.agg cs9) ∧
  ∃ z4, Pu Tryz.prog (zeroValue 319) z4 ∧
  New z4.cells 319 w fun k4 w1 =>
  ∃ w2, Sto Tryz.prog 319 (.pointer (some (⟨k4, 0, none⟩ : Addr))) (.agg cs9) w1 w2 ∧
  LoopS [.pointer p0, .int .i64 n1, .pointer (some (⟨k4, 0, none⟩ : Addr)), .int .i64 0] w2 fun I1 μ1 us1 _ wl1 =>
  ∃ p0_1 n1_1 a4 n10, us1 = [.pointer p0_1, .int .i64 n1_1, .pointer (some a4), .int .i64 n10] ∧
  cond (decide (n10 < 16))
  (Drw wl1 fun w3 =>
    ∃ a24, IxA Tryz.prog 319 (.pointer (some a4)) (.int .i64 (Int.tmod (IntKind.i64.wrap (n10 + (IntKind.i64.wrap ((IntKind.i64.wrap (4 * n1_1)) * (Int.tmod n10 4))))) 16)) a24 ∧
    ∃ a26, p0_1 = some a26 ∧
    ∃ n25, Ld Tryz.prog 5 (.pointer (some a24)) w3 (.int .u8 n25) ∧
    ∃ a27, IxA Tryz.prog 319 (.pointer (some a26)) (.int .i64 n10) a27 ∧
    ∃ w4, Sto Tryz.prog 5 (.pointer (some a27)) (.int .u8 n25) w3 w4 ∧
    goesOn [] [] I1 μ1 us1 [.pointer p0_1, .int .i64 n1_1, .pointer (some a4), .int .i64 (IntKind.i64.wrap (n10 + 1))] wl1 w4)
  (Q (.tuple #[]) wl1)
def aes_block_rows_tt : Nat → List (Nat × TypeId) := fun n => match n with | 0 => [(0, 370), (1, 3), (4, 1000000), (10, 3)] | _ => []
theorem aes_block_rows_call (p0 : Option Addr) (n1 : Int) (w : World) (Q : Value → World → Prop) (h : aes_block_rows p0 n1 w Q) : callF Tryz.prog 233 #[.pointer p0, .int .i64 n1] w Q :=
  callBy aes_block_rows_tt Tryz.func233 h (fun _ _ => by kernel_rfl) (by kernel_rfl) (by kernel_rfl) (by kernel_rfl)
def aes_block_each (p0 : Option Addr) (v1 : Value) (w : World) (Q : Value → World → Prop) : Prop :=
  LoopS [.pointer p0, v1, .pointer p0, .int .i64 0] w fun I1 μ1 us1 _ wl1 =>
  ∃ p0_1 v1_1 p6 n7, us1 = [.pointer p0_1, v1_1, .pointer p6, .int .i64 n7] ∧
  cond (decide (n7 < 16))
  (Drw wl1 fun w1 =>
    ∃ a10, p6 = some a10 ∧
    ∃ a11, IxA Tryz.prog 319 (.pointer (some a10)) (.int .i64 n7) a11 ∧
    ∃ n12, Ld Tryz.prog 5 (.pointer (some a11)) w1 (.int .u8 n12) ∧
    Drw w1 fun w2 =>
    ∃ a18, p0_1 = some a18 ∧
    callV Tryz.prog (v1_1) [.int .u8 n12] w2 fun r17 w3 =>
    ∃ n17, r17 = .int .u8 n17 ∧
    ∃ a19, IxA Tryz.prog 319 (.pointer (some a18)) (.int .i64 n7) a19 ∧
    ∃ w4, Sto Tryz.prog 5 (.pointer (some a19)) (.int .u8 n17) w3 w4 ∧
    goesOn [] [] I1 μ1 us1 [.pointer p0_1, v1_1, .pointer p6, .int .i64 (IntKind.i64.wrap (n7 + 1))] wl1 w4)
  (Q (.tuple #[]) wl1)
def aes_block_each_tt : Nat → List (Nat × TypeId) := fun n => match n with | 0 => [(0, 370), (1, 329), (6, 370), (7, 3)] | _ => []
theorem aes_block_each_call (p0 : Option Addr) (v1 : Value) (w : World) (Q : Value → World → Prop) (h : aes_block_each p0 v1 w Q) : callF Tryz.prog 234 #[.pointer p0, v1] w Q :=
  callBy aes_block_each_tt Tryz.func234 h (fun _ _ => by kernel_rfl) (by kernel_rfl) (by kernel_rfl) (by kernel_rfl)
def aes_Cipher_turned_j1 (n2 : Int) (a6 : Addr) (a7 : Addr) (w : World) (Q : Value → World → Prop) : Prop :=
  ∃ (S7 : World → Prop),
  Drw w fun w1 =>
  ∃ a33, IxA Tryz.prog 334 (.pointer (some a7)) (.int .i64 0) a33 ∧
  ∃ n34, HLd Tryz.prog S7 5 (.pointer (some a33)) w1 (.int .u8 n34) ∧
  callF Tryz.prog 270 #[.int .u8 2, .int .u64 (IntKind.u64.wrap (IntKind.i64.wrap (n2 - 1)))] w1 fun r38 w2 =>
  ∃ n38, r38 = .int .u8 n38 ∧
  (w2 = w1 ∨ S7 w2) ∧
  ∃ a40, IxA Tryz.prog 334 (.pointer (some a7)) (.int .i64 0) a40 ∧
  ∃ w3, Sto Tryz.prog 5 (.pointer (some a40)) (.int .u8 (ixor .u8 n34 n38)) w2 w3 ∧
  ∃ (cs41 : Array Value), Ld Tryz.prog 334 (.pointer (some a7)) w3 (.agg cs41) ∧
  ∃ w4, Sto Tryz.prog 334 (.pointer (some a6)) (.agg cs41) w3 w4 ∧
  ∃ a6_1 v6, (.pointer (some a6) : Value) = .pointer (some a6_1) ∧ (loadVar 334 a6_1).run Tryz.prog w4 = .ok v6 w4 ∧
  Q (v6) w4
def aes_Cipher_turned (p0 : Option Addr) (cs1 : Array Value) (n2 : Int) (w : World) (Q : Value → World → Prop) : Prop :=
  New cs1 334 w fun k4 w1 =>
  ∃ z6, Pu Tryz.prog (zeroValue 334) z6 ∧
  New z6.cells 334 w1 fun k6 w2 =>
  ∃ a10, IxA Tryz.prog 334 (.pointer (some (⟨k4, 0, none⟩ : Addr))) (.int .i64 1) a10 ∧
  ∃ n11, Ld Tryz.prog 5 (.pointer (some a10)) w2 (.int .u8 n11) ∧
  ∃ a12, IxA Tryz.prog 334 (.pointer (some (⟨k4, 0, none⟩ : Addr))) (.int .i64 2) a12 ∧
  ∃ n13, Ld Tryz.prog 5 (.pointer (some a12)) w2 (.int .u8 n13) ∧
  ∃ a14, IxA Tryz.prog 334 (.pointer (some (⟨k4, 0, none⟩ : Addr))) (.int .i64 3) a14 ∧
  ∃ n15, Ld Tryz.prog 5 (.pointer (some a14)) w2 (.int .u8 n15) ∧
  ∃ a16, IxA Tryz.prog 334 (.pointer (some (⟨k4, 0, none⟩ : Addr))) (.int .i64 0) a16 ∧
  ∃ n17, Ld Tryz.prog 5 (.pointer (some a16)) w2 (.int .u8 n17) ∧
  ∃ z7, Pu Tryz.prog (zeroValue 334) z7 ∧
  New z7.cells 334 w2 fun k7 w3 =>
  ∃ w4, Sto Tryz.prog 334 (.pointer (some (⟨k7, 0, none⟩ : Addr))) (.agg #[.int .u8 n11, .int .u8 n13, .int .u8 n15, .int .u8 n17]) w3 w4 ∧
  ∃ (cs19 : Array Value), Ld Tryz.prog 334 (.pointer (some (⟨k7, 0, none⟩ : Addr))) w4 (.agg cs19) ∧
  LoopS [.pointer p0, .int .i64 n2, .pointer (some (⟨k6, 0, none⟩ : Addr)), .pointer (some (⟨k7, 0, none⟩ : Addr)), .agg cs19, .int .i64 0] w4 fun I1 μ1 us1 _ wl1 =>
  ∃ (p0_1 : Option Addr) (n2_1 : Int) (a6 : Addr) (a7 : Addr) (cs19_1 : Array Value) (n20 : Int), us1 = [.pointer p0_1, .int .i64 n2_1, .pointer (some a6), .pointer (some a7), .agg cs19_1, .int .i64 n20] ∧
  cond (decide (n20 < 4))
  (∃ n23, Pu Tryz.prog (Instr.index 334 (.agg cs19_1) (.int .i64 n20)) (.int .u8 n23) ∧
    ∃ a26, p0_1 = some a26 ∧
    ∃ p28, Ld Tryz.prog 318 (.pointer (some (a26.add 0))) wl1 (.pointer p28) ∧
    callF Tryz.prog 242 #[.pointer p28, .int .u8 n23] wl1 fun r30 w5 =>
    ∃ n30, r30 = .int .u8 n30 ∧
    ∃ a31, IxA Tryz.prog 334 (.pointer (some a7)) (.int .i64 n20) a31 ∧
    ∃ w6, Sto Tryz.prog 5 (.pointer (some a31)) (.int .u8 n30) w5 w6 ∧
    goesOn [] [] I1 μ1 us1 [.pointer p0_1, .int .i64 n2_1, .pointer (some a6), .pointer (some a7), .agg cs19_1, .int .i64 (IntKind.i64.wrap (n20 + 1))] wl1 w6)
  (aes_Cipher_turned_j1 n2_1 a6 a7 wl1 Q)
def aes_Cipher_turned_tt : Nat → List (Nat × TypeId) := fun n => match n with | 0 => [(0, 279), (2, 3), (6, 1000000), (7, 1000000), (19, 334), (20, 3)] | _ => []
theorem aes_Cipher_turned_call (p0 : Option Addr) (cs1 : Array Value) (n2 : Int) (w : World) (Q : Value → World → Prop) (h : aes_Cipher_turned p0 cs1 n2 w Q) : callF Tryz.prog 240 #[.pointer p0, .agg cs1, .int .i64 n2] w Q :=
  callBy aes_Cipher_turned_tt Tryz.func240 h (fun _ _ => by kernel_rfl) (by kernel_rfl) (by kernel_rfl) (by kernel_rfl)
def aes_word_plus_j1 (a2 : Addr) (a4 : Addr) (w : World) (Q : Value → World → Prop) : Prop :=
  ∃ (cs18 : Array Value), Ld Tryz.prog 334 (.pointer (some a2)) w (.agg cs18) ∧
  ∃ w1, Sto Tryz.prog 334 (.pointer (some a4)) (.agg cs18) w w1 ∧
  ∃ a4_1 v4, (.pointer (some a4) : Value) = .pointer (some a4_1) ∧ (loadVar 334 a4_1).run Tryz.prog w1 = .ok v4 w1 ∧
  Q (v4) w1
def aes_word_plus (cs0 : Array Value) (cs1 : Array Value) (w : World) (Q : Value → World → Prop) : Prop :=
  New cs0 334 w fun k2 w1 =>
  New cs1 334 w1 fun k3 w2 =>
  ∃ z4, Pu Tryz.prog (zeroValue 334) z4 ∧
  New z4.cells 334 w2 fun k4 w3 =>
  LoopS [.pointer (some (⟨k2, 0, none⟩ : Addr)), .pointer (some (⟨k3, 0, none⟩ : Addr)), .pointer (some (⟨k4, 0, none⟩ : Addr)), .int .i64 0] w3 fun I1 μ1 us1 _ wl1 =>
  ∃ a2 a3 a4 n6, us1 = [.pointer (some a2), .pointer (some a3), .pointer (some a4), .int .i64 n6] ∧
  cond (decide (n6 < 4))
  (∃ (S4 : World → Prop),
    Drw wl1 fun w4 =>
    ∃ a10, IxA Tryz.prog 334 (.pointer (some a2)) (.int .i64 n6) a10 ∧
    ∃ a13, IxA Tryz.prog 334 (.pointer (some a3)) (.int .i64 n6) a13 ∧
    ∃ n11, HLd Tryz.prog S4 5 (.pointer (some a10)) w4 (.int .u8 n11) ∧
    ∃ n14, Ld Tryz.prog 5 (.pointer (some a13)) w4 (.int .u8 n14) ∧
    (w4 = w4 ∨ S4 w4) ∧
    ∃ a16, IxA Tryz.prog 334 (.pointer (some a2)) (.int .i64 n6) a16 ∧
    ∃ w5, Sto Tryz.prog 5 (.pointer (some a16)) (.int .u8 (ixor .u8 n11 n14)) w4 w5 ∧
    goesOn [] [] I1 μ1 us1 [.pointer (some a2), .pointer (some a3), .pointer (some a4), .int .i64 (IntKind.i64.wrap (n6 + 1))] wl1 w5)
  (aes_word_plus_j1 a2 a4 wl1 Q)
def aes_word_plus_tt : Nat → List (Nat × TypeId) := fun n => match n with | 0 => [(2, 1000000), (3, 1000000), (4, 1000000), (6, 3)] | _ => []
theorem aes_word_plus_call (cs0 : Array Value) (cs1 : Array Value) (w : World) (Q : Value → World → Prop) (h : aes_word_plus cs0 cs1 w Q) : callF Tryz.prog 241 #[.agg cs0, .agg cs1] w Q :=
  callBy aes_word_plus_tt Tryz.func241 h (fun _ _ => by kernel_rfl) (by kernel_rfl) (by kernel_rfl) (by kernel_rfl)
end Go.Sh
end

section
namespace Go.Sh
open Go Go.Fw Go.Proofs
set_option maxRecDepth 100000
set_option linter.unusedVariables false
def octet_Join (p0 : Option Addr) (l0 : Nat) (c0 : Nat) (w : World) (Q : Value → World → Prop) : Prop :=
  callF Tryz.prog 188 #[.slice p0 l0 c0] w fun r4 w1 =>
  ∃ p4 l4 c4, r4 = .slice p4 l4 c4 ∧
  Q (.slice p4 l4 c4) w1
def octet_Join_tt : Nat → List (Nat × TypeId) := fun _ => []
theorem octet_Join_call (p0 : Option Addr) (l0 : Nat) (c0 : Nat) (w : World) (Q : Value → World → Prop) (h : octet_Join p0 l0 c0 w Q) : callF Tryz.prog 112 #[.slice p0 l0 c0] w Q :=
  callBy octet_Join_tt Tryz.func112 h (fun _ _ => by kernel_rfl) (by kernel_rfl) (by kernel_rfl) (by kernel_rfl)
def octet_Xor (p0 : Option Addr) (l0 : Nat) (c0 : Nat) (p1 : Option Addr) (l1 : Nat) (c1 : Nat) (w : World) (Q : Value → World → Prop) : Prop :=
  cond (((l0 : Nat) : Int) != ((l1 : Nat) : Int))
  (Q (.tuple #[.slice none 0 0, .int .i64 11]) w)
  (∃ p15 l15 c15 w1, Ef Tryz.prog (Instr.makeSlice 25 (.int .i64 ((l0 : Nat) : Int)) (.int .i64 ((l0 : Nat) : Int))) w (.slice p15 l15 c15) w1 ∧
    LoopS [.slice p0 l0 c0, .slice p1 l1 c1, .slice none 0 0, .int .i64 0, .slice p15 l15 c15, .int .i64 ((l15 : Nat) : Int), .int .i64 0] w1 fun I1 μ1 us1 _ wl1 =>
    ∃ p0_1 l0_1 c0_1 p1_1 l1_1 c1_1 p4 l4 c4 n5 p6 l6 c6 n17 n18, us1 = [.slice p0_1 l0_1 c0_1, .slice p1_1 l1_1 c1_1, .slice p4 l4 c4, .int .i64 n5, .slice p6 l6 c6, .int .i64 n17, .int .i64 n18] ∧
    cond (decide (n18 < n17))
    (∃ (S7 : World → Prop),
      Drw wl1 fun w2 =>
      ∃ a25, IxA Tryz.prog 25 (.slice p0_1 l0_1 c0_1) (.int .i64 n18) a25 ∧
      ∃ a29, IxA Tryz.prog 25 (.slice p1_1 l1_1 c1_1) (.int .i64 n18) a29 ∧
      ∃ n26, HLd Tryz.prog S7 5 (.pointer (some a25)) w2 (.int .u8 n26) ∧
      ∃ n30, Ld Tryz.prog 5 (.pointer (some a29)) w2 (.int .u8 n30) ∧
      (w2 = w2 ∨ S7 w2) ∧
      ∃ a32, IxA Tryz.prog 25 (.slice p6 l6 c6) (.int .i64 n18) a32 ∧
      ∃ w3, Sto Tryz.prog 5 (.pointer (some a32)) (.int .u8 (ixor .u8 n26 n30)) w2 w3 ∧
      goesOn [] [] I1 μ1 us1 [.slice p0_1 l0_1 c0_1, .slice p1_1 l1_1 c1_1, .slice p4 l4 c4, .int .i64 n5, .slice p6 l6 c6, .int .i64 n17, .int .i64 (IntKind.i64.wrap (n18 + 1))] wl1 w3)
    (Q (.tuple #[.slice p6 l6 c6, .int .i64 0]) wl1))
def octet_Xor_tt : Nat → List (Nat × TypeId) := fun n => match n with | 0 => [(0, 25), (1, 25), (4, 25), (5, 33), (6, 25), (17, 3), (18, 3)] | _ => []
theorem octet_Xor_call (p0 : Option Addr) (l0 : Nat) (c0 : Nat) (p1 : Option Addr) (l1 : Nat) (c1 : Nat) (w : World) (Q : Value → World → Prop) (h : octet_Xor p0 l0 c0 p1 l1 c1 w Q) : callF Tryz.prog 249 #[.slice p0 l0 c0, .slice p1 l1 c1] w Q :=
  callBy octet_Xor_tt Tryz.func249 h (fun _ _ => by kernel_rfl) (by kernel_rfl) (by kernel_rfl) (by kernel_rfl)
end Go.Sh
end

section
namespace Go.Sh
open Go Go.Fw Go.Proofs
set_option maxRecDepth 100000
set_option linter.unusedVariables false
def issue_New_j1 (a8 : Addr) (n9 : Int) (w : World) (Q : Value → World → Prop) : Prop :=
  Q (.tuple #[.pointer (some a8), .int .i64 n9]) w
def issue_New_j2 (n1 : Int) (p2 : Option Addr) (l2 : Nat) (c2 : Nat) (n3 : Int) (a4 : Addr) (p8 : Option Addr) (n9 : Int) (w : World) (Q : Value → World → Prop) : Prop :=
  ∃ (S5 : World → Prop),
  Drw w fun w1 =>
  ∃ (cs36 : Array Value), HLd Tryz.prog S5 24 (.pointer (some a4)) w1 (.agg cs36) ∧
  (callF Tryz.prog 102 #[.slice p2 l2 c2] w1 fun r39 w2 =>
    ∃ p39 l39 c39, r39 = .slice p39 l39 c39 ∧
    (w2 = w1 ∨ S5 w2) ∧
    ∃ (m41 : Option Nat) (w3 : World), Ef Tryz.prog (Instr.makeMap 64 none) w2 (.map m41) w3 ∧
    (w3 = w2 ∨ S5 w3) ∧
    ∃ (cs42 : Array Value), Pu Tryz.prog (Instr.build 182 #[(0, .agg cs36), (1, .int .i64 n1), (2, .slice p39 l39 c39), (3, .int .i64 n3), (4, .map m41)]) (.agg cs42) ∧
    New cs42 182 w3 fun k43 w4 =>
    issue_New_j1 (⟨k43, 0, none⟩ : Addr) 0 w4 Q) ∧
  (∃ (m41_1 : Option Nat) (w5 : World), Ef Tryz.prog (Instr.makeMap 64 none) w1 (.map m41_1) w5 ∧
    (w5 = w1 ∨ S5 w5) ∧
    callF Tryz.prog 102 #[.slice p2 l2 c2] w5 fun r39_1 w6 =>
    ∃ p39_1 l39_1 c39_1, r39_1 = .slice p39_1 l39_1 c39_1 ∧
    (w6 = w5 ∨ S5 w6) ∧
    ∃ (cs42_1 : Array Value), Pu Tryz.prog (Instr.build 182 #[(0, .agg cs36), (1, .int .i64 n1), (2, .slice p39_1 l39_1 c39_1), (3, .int .i64 n3), (4, .map m41_1)]) (.agg cs42_1) ∧
    New cs42_1 182 w6 fun k43_1 w7 =>
    issue_New_j1 (⟨k43_1, 0, none⟩ : Addr) 0 w7 Q)
def issue_New (cs0 : Array Value) (n1 : Int) (p2 : Option Addr) (l2 : Nat) (c2 : Nat) (n3 : Int) (w : World) (Q : Value → World → Prop) : Prop :=
  New cs0 24 w fun k4 w1 =>
  ∃ (cs11 : Array Value), Ld Tryz.prog 24 (.pointer (some (⟨k4, 0, none⟩ : Addr))) w1 (.agg cs11) ∧
  callF Tryz.prog 101 #[.agg cs11] w1 fun r12 w2 =>
  ∃ b12, r12 = .bool b12 ∧
  cond (!b12)
  (Q (.tuple #[.pointer none, .int .i64 10]) w2)
  (cond (decide (n1 < 0))
    (Q (.tuple #[.pointer none, .int .i64 11]) w2)
    (cond (decide (n1 ≥ 3))
      (Q (.tuple #[.pointer none, .int .i64 11]) w2)
      (∃ n25, Ld Tryz.prog 3 (.pointer (some ((⟨k4, 0, none⟩ : Addr).add 1))) w2 (.int .i64 n25) ∧
        cond (((l2 : Nat) : Int) != n25)
        (Q (.tuple #[.pointer none, .int .i64 11]) w2)
        (cond (decide (n3 < 1))
          (Q (.tuple #[.pointer none, .int .i64 11]) w2)
          (cond (decide (n3 > 65536))
            (Q (.tuple #[.pointer none, .int .i64 11]) w2)
            (issue_New_j2 n1 p2 l2 c2 n3 (⟨k4, 0, none⟩ : Addr) none 0 w2 Q))))))
def issue_New_tt : Nat → List (Nat × TypeId) := fun _ => []
theorem issue_New_call (cs0 : Array Value) (n1 : Int) (p2 : Option Addr) (l2 : Nat) (c2 : Nat) (n3 : Int) (w : World) (Q : Value → World → Prop) (h : issue_New cs0 n1 p2 l2 c2 n3 w Q) : callF Tryz.prog 26 #[.agg cs0, .int .i64 n1, .slice p2 l2 c2, .int .i64 n3] w Q :=
  callBy issue_New_tt Tryz.func26 h (fun _ _ => by kernel_rfl) (by kernel_rfl) (by kernel_rfl) (by kernel_rfl)
def issue_Issuer_Place (p0 : Option Addr) (w : World) (Q : Value → World → Prop) : Prop :=
  ∃ (S1 : World → Prop),
  Drw w fun w1 =>
  ∃ a5, p0 = some a5 ∧
  ∃ a9, p0 = some a9 ∧
  ∃ n7, HLd Tryz.prog S1 3 (.pointer (some (a5.add 19))) w1 (.int .i64 n7) ∧
  ∃ p11 l11 c11, Ld Tryz.prog 25 (.pointer (some (a9.add 20))) w1 (.slice p11 l11 c11) ∧
  (w1 = w1 ∨ S1 w1) ∧
  callF Tryz.prog 102 #[.slice p11 l11 c11] w1 fun r12 w2 =>
  ∃ p12 l12 c12, r12 = .slice p12 l12 c12 ∧
  (w2 = w1 ∨ S1 w2) ∧
  Q (.tuple #[.int .i64 n7, .slice p12 l12 c12]) w2
def issue_Issuer_Place_tt : Nat → List (Nat × TypeId) := fun _ => []
theorem issue_Issuer_Place_call (p0 : Option Addr) (w : World) (Q : Value → World → Prop) (h : issue_Issuer_Place p0 w Q) : callF Tryz.prog 29 #[.pointer p0] w Q :=
  callBy issue_Issuer_Place_tt Tryz.func29 h (fun _ _ => by kernel_rfl) (by kernel_rfl) (by kernel_rfl) (by kernel_rfl)
def issue_Issuer_Issued (p0 : Option Addr) (w : World) (Q : Value → World → Prop) : Prop :=
  ∃ a4, p0 = some a4 ∧
  ∃ (m6 : Option Nat), Ld Tryz.prog 64 (.pointer (some (a4.add 22))) w (.map m6) ∧
  ∃ n7 w1, Ef Tryz.prog (Builtin.len_ #[64] 3 #[.map m6]) w (.int .i64 n7) w1 ∧
  Q (.int .i64 n7) w1
def issue_Issuer_Issued_tt : Nat → List (Nat × TypeId) := fun _ => []
theorem issue_Issuer_Issued_call (p0 : Option Addr) (w : World) (Q : Value → World → Prop) (h : issue_Issuer_Issued p0 w Q) : callF Tryz.prog 31 #[.pointer p0] w Q :=
  callBy issue_Issuer_Issued_tt Tryz.func31 h (fun _ _ => by kernel_rfl) (by kernel_rfl) (by kernel_rfl) (by kernel_rfl)
def issue_Issuer_Clone (p0 : Option Addr) (w : World) (Q : Value → World → Prop) : Prop :=
  ∃ a5, p0 = some a5 ∧
  ∃ (cs6 : Array Value), Ld Tryz.prog 182 (.pointer (some a5)) w (.agg cs6) ∧
  ∃ z3, Pu Tryz.prog (zeroValue 182) z3 ∧
  New z3.cells 182 w fun k3 w1 =>
  ∃ w2, Sto Tryz.prog 182 (.pointer (some (⟨k3, 0, none⟩ : Addr))) (.agg cs6) w1 w2 ∧
  ∃ a8, p0 = some a8 ∧
  ∃ (m10 : Option Nat), Ld Tryz.prog 64 (.pointer (some (a8.add 22))) w2 (.map m10) ∧
  callF Tryz.prog 106 #[.map m10] w2 fun r11 w3 =>
  ∃ (m11 : Option Nat), r11 = .map m11 ∧
  ∃ w4, Sto Tryz.prog 64 (.pointer (some ((⟨k3, 0, none⟩ : Addr).add 22))) (.map m11) w3 w4 ∧
  Q (.pointer (some (⟨k3, 0, none⟩ : Addr))) w4
def issue_Issuer_Clone_tt : Nat → List (Nat × TypeId) := fun _ => []
theorem issue_Issuer_Clone_call (p0 : Option Addr) (w : World) (Q : Value → World → Prop) (h : issue_Issuer_Clone p0 w Q) : callF Tryz.prog 32 #[.pointer p0] w Q :=
  callBy issue_Issuer_Clone_tt Tryz.func32 h (fun _ _ => by kernel_rfl) (by kernel_rfl) (by kernel_rfl) (by kernel_rfl)
def issue_Issuer_Mine (p0 : Option Addr) (p1 : Option Addr) (l1 : Nat) (c1 : Nat) (w : World) (Q : Value → World → Prop) : Prop :=
  ∃ a9, p0 = some a9 ∧
  ∃ (cs11 : Array Value), Ld Tryz.prog 24 (.pointer (some (a9.add 0))) w (.agg cs11) ∧
  callF Tryz.prog 37 #[.agg cs11, .slice p1 l1 c1] w fun r13 w1 =>
  ∃ n13 p13 l13 c13 p13_1 l13_1 c13_1 n13_1, r13 = .tuple #[.agg #[.int .i64 n13, .slice p13 l13 c13, .slice p13_1 l13_1 c13_1], .int .i64 n13_1] ∧
  ∃ z5, Pu Tryz.prog (zeroValue 55) z5 ∧
  New z5.cells 55 w1 fun k5 w2 =>
  ∃ w3, Sto Tryz.prog 55 (.pointer (some (⟨k5, 0, none⟩ : Addr))) (.agg #[.int .i64 n13, .slice p13 l13 c13, .slice p13_1 l13_1 c13_1]) w2 w3 ∧
  ∃ (S2 : World → Prop),
  Drw w3 fun w4 =>
  cond (n13_1 == 0)
  (∃ a22, p0 = some a22 ∧
    ∃ n20, HLd Tryz.prog S2 3 (.pointer (some ((⟨k5, 0, none⟩ : Addr).add 0))) w4 (.int .i64 n20) ∧
    ∃ n24, Ld Tryz.prog 3 (.pointer (some (a22.add 19))) w4 (.int .i64 n24) ∧
    (w4 = w4 ∨ S2 w4) ∧
    cond (n20 == n24)
    (∃ a31, p0 = some a31 ∧
      ∃ p29 l29 c29, HLd Tryz.prog S2 25 (.pointer (some ((⟨k5, 0, none⟩ : Addr).add 1))) w4 (.slice p29 l29 c29) ∧
      ∃ p33 l33 c33, Ld Tryz.prog 25 (.pointer (some (a31.add 20))) w4 (.slice p33 l33 c33) ∧
      (w4 = w4 ∨ S2 w4) ∧
      callF Tryz.prog 107 #[.slice p29 l29 c29, .slice p33 l33 c33] w4 fun r34 w5 =>
      ∃ b34, r34 = .bool b34 ∧
      (w5 = w4 ∨ S2 w5) ∧
      ∃ (S1018 : World → Prop),
      (∀ v, S1018 v → S2 v) ∧
      cond b34
      (∃ a38, p0 = some a38 ∧
        ∃ (m40 : Option Nat), HLd Tryz.prog S1018 64 (.pointer (some (a38.add 22))) w5 (.map m40) ∧
        ∃ p42 l42 c42, Ld Tryz.prog 25 (.pointer (some ((⟨k5, 0, none⟩ : Addr).add 2))) w5 (.slice p42 l42 c42) ∧
        (w5 = w5 ∨ S1018 w5) ∧
        ∃ s43 w6, Ef Tryz.prog (convert 25 9 (.slice p42 l42 c42)) w5 (.string s43) w6 ∧
        (w6 = w5 ∨ S1018 w6) ∧
        ∃ b44 w7, Ef Tryz.prog (Instr.lookup 64 (.map m40) (.string s43) false) w6 (.bool b44) w7 ∧
        Q (.bool b44) w7)
      (Q (.bool false) w5))
    (Q (.bool false) w4))
  (Q (.bool false) w4)
def issue_Issuer_Mine_tt : Nat → List (Nat × TypeId) := fun _ => []
theorem issue_Issuer_Mine_call (p0 : Option Addr) (p1 : Option Addr) (l1 : Nat) (c1 : Nat) (w : World) (Q : Value → World → Prop) (h : issue_Issuer_Mine p0 p1 l1 c1 w Q) : callF Tryz.prog 34 #[.pointer p0, .slice p1 l1 c1] w Q :=
  callBy issue_Issuer_Mine_tt Tryz.func34 h (fun _ _ => by kernel_rfl) (by kernel_rfl) (by kernel_rfl) (by kernel_rfl)
def issue_Issuer_Next_j1 (p0 : Option Addr) (p4 : Option Addr) (l4 : Nat) (c4 : Nat) (n5 : Int) (n6 : Int) (p7 : Option Addr) (l7 : Nat) (c7 : Nat) (w : World) (Q : Value → World → Prop) : Prop :=
  ∃ (S8 : World → Prop),
  Drw w fun w1 =>
  ∃ a49, p0 = some a49 ∧
  ∃ a53, p0 = some a53 ∧
  ∃ a57, p0 = some a57 ∧
  ∃ (cs51 : Array Value), HLd Tryz.prog S8 24 (.pointer (some (a49.add 0))) w1 (.agg cs51) ∧
  ∃ n55, HLd Tryz.prog S8 3 (.pointer (some (a53.add 19))) w1 (.int .i64 n55) ∧
  ∃ p59 l59 c59, Ld Tryz.prog 25 (.pointer (some (a57.add 20))) w1 (.slice p59 l59 c59) ∧
  (w1 = w1 ∨ S8 w1) ∧
  callF Tryz.prog 110 #[.agg cs51, .int .i64 n55, .slice p59 l59 c59, .slice p7 l7 c7] w1 fun r61 w2 =>
  ∃ p61 l61 c61 n61, r61 = .tuple #[.slice p61 l61 c61, .int .i64 n61] ∧
  cond (n61 != 0)
  (Q (.tuple #[.slice none 0 0, .int .i64 0, .int .i64 n61]) w2)
  (∃ (S11 : World → Prop),
    Drw w2 fun w3 =>
    ∃ a68, p0 = some a68 ∧
    ∃ (m70 : Option Nat), HLd Tryz.prog S11 64 (.pointer (some (a68.add 22))) w3 (.map m70) ∧
    ∃ s72 w4, Ef Tryz.prog (convert 25 9 (.slice p7 l7 c7)) w3 (.string s72) w4 ∧
    (w4 = w3 ∨ S11 w4) ∧
    ∃ w5, EfU Tryz.prog (Instr.mapUpdate 64 (.map m70) (.string s72) (.bool true)) w4 w5 ∧
    Drw w5 fun w6 =>
    ∃ a75, p0 = some a75 ∧
    ∃ n78, Ld Tryz.prog 3 (.pointer (some ((a75.add 0).add 2))) w6 (.int .i64 n78) ∧
    Q (.tuple #[.slice p61 l61 c61, .int .i64 n78, .int .i64 0]) w6)
def issue_Issuer_Next_j2 (p0 : Option Addr) (p1 : Option Addr) (l1 : Nat) (c1 : Nat) (p4 : Option Addr) (l4 : Nat) (c4 : Nat) (n5 : Int) (n6 : Int) (w : World) (Q : Value → World → Prop) : Prop :=
  ∃ a32, p0 = some a32 ∧
  ∃ n35, Ld Tryz.prog 3 (.pointer (some ((a32.add 0).add 2))) w (.int .i64 n35) ∧
  ∃ p36 l36 c36, Pu Tryz.prog (Instr.sliceAt 25 (.slice p1 l1 c1) none (some (.int .i64 n35)) none) (.slice p36 l36 c36) ∧
  callF Tryz.prog 102 #[.slice p36 l36 c36] w fun r37 w1 =>
  ∃ p37 l37 c37, r37 = .slice p37 l37 c37 ∧
  LoopS [.pointer p0, .slice p4 l4 c4, .int .i64 n5, .int .i64 n6, .slice p37 l37 c37] w1 fun I1 μ1 us1 _ wl1 =>
  ∃ p0_1 p4_1 l4_1 c4_1 n5_1 n6_1 p7 l7 c7, us1 = [.pointer p0_1, .slice p4_1 l4_1 c4_1, .int .i64 n5_1, .int .i64 n6_1, .slice p7 l7 c7] ∧
  ∃ (S6 : World → Prop),
  Drw wl1 fun w2 =>
  ∃ a39, p0_1 = some a39 ∧
  ∃ (m41 : Option Nat), HLd Tryz.prog S6 64 (.pointer (some (a39.add 22))) w2 (.map m41) ∧
  ∃ s43 w3, Ef Tryz.prog (convert 25 9 (.slice p7 l7 c7)) w2 (.string s43) w3 ∧
  (w3 = w2 ∨ S6 w3) ∧
  ∃ b44 w4, Ef Tryz.prog (Instr.lookup 64 (.map m41) (.string s43) false) w3 (.bool b44) w4 ∧
  cond b44
  (callF Tryz.prog 109 #[.slice p7 l7 c7] w4 fun r46 w5 =>
    r46 = .tuple #[] ∧
    goesOn [] [] I1 μ1 us1 [.pointer p0_1, .slice p4_1 l4_1 c4_1, .int .i64 n5_1, .int .i64 n6_1, .slice p7 l7 c7] wl1 w5)
  (issue_Issuer_Next_j1 p0_1 p4_1 l4_1 c4_1 n5_1 n6_1 p7 l7 c7 w4 Q)
def issue_Issuer_Next (p0 : Option Addr) (p1 : Option Addr) (l1 : Nat) (c1 : Nat) (w : World) (Q : Value → World → Prop) : Prop :=
  ∃ (S1 : World → Prop),
  Drw w fun w1 =>
  ∃ a12, p0 = some a12 ∧
  ∃ a17, p0 = some a17 ∧
  ∃ (m14 : Option Nat), HLd Tryz.prog S1 64 (.pointer (some (a12.add 22))) w1 (.map m14) ∧
  ∃ n19, HLd Tryz.prog S1 3 (.pointer (some (a17.add 21))) w1 (.int .i64 n19) ∧
  ∃ n15 w2, Ef Tryz.prog (Builtin.len_ #[64] 3 #[.map m14]) w1 (.int .i64 n15) w2 ∧
  (w2 = w1 ∨ S1 w2) ∧
  cond (decide (n15 ≥ n19))
  (Q (.tuple #[.slice none 0 0, .int .i64 0, .int .i64 18]) w2)
  (∃ a25, p0 = some a25 ∧
    ∃ n28, Ld Tryz.prog 3 (.pointer (some ((a25.add 0).add 2))) w2 (.int .i64 n28) ∧
    cond (decide (((l1 : Nat) : Int) < n28))
    (Q (.tuple #[.slice none 0 0, .int .i64 0, .int .i64 21]) w2)
    (issue_Issuer_Next_j2 p0 p1 l1 c1 none 0 0 0 0 w2 Q))
def issue_Issuer_Next_tt : Nat → List (Nat × TypeId) := fun n => match n with | 1 => [(0, 32), (4, 25), (5, 3), (6, 33), (7, 25)] | _ => []
theorem issue_Issuer_Next_call (p0 : Option Addr) (p1 : Option Addr) (l1 : Nat) (c1 : Nat) (w : World) (Q : Value → World → Prop) (h : issue_Issuer_Next p0 p1 l1 c1 w Q) : callF Tryz.prog 36 #[.pointer p0, .slice p1 l1 c1] w Q :=
  callBy issue_Issuer_Next_tt Tryz.func36 h (fun _ _ => by kernel_rfl) (by kernel_rfl) (by kernel_rfl) (by kernel_rfl)
def issue_Issuer_Renew (p0 : Option Addr) (cs1 : Array Value) (n2 : Int) (p3 : Option Addr) (l3 : Nat) (c3 : Nat) (w : World) (Q : Value → World → Prop) : Prop :=
  New cs1 24 w fun k5 w1 =>
  ∃ (S1 : World → Prop),
  Drw w1 fun w2 =>
  ∃ a16, p0 = some a16 ∧
  ∃ (cs12 : Array Value), HLd Tryz.prog S1 24 (.pointer (some (⟨k5, 0, none⟩ : Addr))) w2 (.agg cs12) ∧
  ∃ n18, Ld Tryz.prog 3 (.pointer (some (a16.add 21))) w2 (.int .i64 n18) ∧
  (w2 = w2 ∨ S1 w2) ∧
  callF Tryz.prog 26 #[.agg cs12, .int .i64 n2, .slice p3 l3 c3, .int .i64 n18] w2 fun r19 w3 =>
  ∃ p19 n19, r19 = .tuple #[.pointer p19, .int .i64 n19] ∧
  cond (n19 == 0)
  (∃ a26, p19 = some a26 ∧
    ∃ (cs27 : Array Value), Ld Tryz.prog 182 (.pointer (some a26)) w3 (.agg cs27) ∧
    ∃ a28, p0 = some a28 ∧
    ∃ w4, Sto Tryz.prog 182 (.pointer (some a28)) (.agg cs27) w3 w4 ∧
    Q (.int .i64 n19) w4)
  (Q (.int .i64 n19) w3)
def issue_Issuer_Renew_tt : Nat → List (Nat × TypeId) := fun _ => []
theorem issue_Issuer_Renew_call (p0 : Option Addr) (cs1 : Array Value) (n2 : Int) (p3 : Option Addr) (l3 : Nat) (c3 : Nat) (w : World) (Q : Value → World → Prop) (h : issue_Issuer_Renew p0 cs1 n2 p3 l3 c3 w Q) : callF Tryz.prog 100 #[.pointer p0, .agg cs1, .int .i64 n2, .slice p3 l3 c3] w Q :=
  callBy issue_Issuer_Renew_tt Tryz.func100 h (fun _ _ => by kernel_rfl) (by kernel_rfl) (by kernel_rfl) (by kernel_rfl)
noncomputable def issue_up_rf (i : Nat) : Array Tmp × Code × Code := (rfs (Tryz.f109.body.getD .skip)).getD i (#[], .skip, .skip)
def issue_up (p0 : Option Addr) (l0 : Nat) (c0 : Nat) (w : World) (Q : Value → World → Prop) : Prop :=
  New #[.slice p0 l0 c0] 25 w fun k1 w1 =>
  ∃ p4 l4 c4, Ld Tryz.prog 25 (.pointer (some (⟨k1, 0, none⟩ : Addr))) w1 (.slice p4 l4 c4) ∧
  callF Tryz.prog 182 #[.slice p4 l4 c4] w1 fun r5 w2 =>
  ∃ v5, r5 = v5 ∧
  RangeF Tryz.prog (v5) #[.slice p0 l0 c0, .pointer (some (⟨k1, 0, none⟩ : Addr)), .tuple #[], .tuple #[], .slice p4 l4 c4, v5, .tuple #[], .tuple #[], .tuple #[], .tuple #[], .tuple #[], .tuple #[], .tuple #[], .tuple #[], .tuple #[], .tuple #[], .tuple #[], .tuple #[]] (issue_up_rf 0) w2 (fun krf w4 =>
    ∃ w5, Tk Tryz.prog krf w4 w5 ∧
    Q (.tuple #[]) w5) (fun krf w4 =>
    ∃ w6, Tk Tryz.prog krf w4 w6 ∧
    Q (.tuple #[]) w6)
def issue_up_tt : Nat → List (Nat × TypeId) := fun _ => []
theorem issue_up_call (p0 : Option Addr) (l0 : Nat) (c0 : Nat) (w : World) (Q : Value → World → Prop) (h : issue_up p0 l0 c0 w Q) : callF Tryz.prog 109 #[.slice p0 l0 c0] w Q :=
  callBy issue_up_tt Tryz.func109 h (fun _ _ => by kernel_rfl) (by kernel_rfl) (by kernel_rfl) (by kernel_rfl)
def issue_up_y0 (a1 : Addr) (n6 : Int) (n7 : Int) (l : Nat) (w : World) (Q : Value → World → Prop) : Prop :=
  BegR Tryz.prog l w fun w1 =>
  ∃ p8 l8 c8, Ld Tryz.prog 25 (.pointer (some a1)) w1 (.slice p8 l8 c8) ∧
  ∃ a12, IxA Tryz.prog 25 (.slice p8 l8 c8) (.int .i64 n6) a12 ∧
  ∃ w2, Sto Tryz.prog 5 (.pointer (some a12)) (.int .u8 (IntKind.u8.wrap (n7 + 1))) w1 w2 ∧
  ∃ p13 l13 c13, Ld Tryz.prog 25 (.pointer (some a1)) w2 (.slice p13 l13 c13) ∧
  ∃ a15, IxA Tryz.prog 25 (.slice p13 l13 c13) (.int .i64 n6) a15 ∧
  ∃ n16, Ld Tryz.prog 5 (.pointer (some a15)) w2 (.int .u8 n16) ∧
  cond (n16 != 0)
  (EndR Tryz.prog l (some .ret) false w2 Q)
  (EndR Tryz.prog l none true w2 Q)
def issue_up_y0_t1 : Nat → List (Nat × TypeId) := fun _ => []
def issue_up_y0_t2 : Nat → List (Nat × TypeId) := fun _ => []
theorem issue_up_y0_call (a1 : Addr) (n6 : Int) (n7 : Int) {x0 x2 x3 x4 x5 x6 x7 x8 x9 x10 x11 x12 x13 x14 x15 x16 x17 : Value} {l df : Nat} {fn : FuncId} {w : World} {Q : Value → World → Prop} (h : LpAt w l (rec0 fn #[x0, .pointer (some a1), x2, x3, x4, x5, x6, x7, x8, x9, x10, x11, x12, x13, x14, x15, x16, x17] (issue_up_rf 0).1 (issue_up_rf 0).2.1 (issue_up_rf 0).2.2 df)) (hq : issue_up_y0 a1 n6 n7 l w Q) : callV Tryz.prog (.func (.yield l) #[] #[]) [.int .i64 n6, .int .u8 n7] w Q := by
  have e : issue_up_y0 a1 n6 n7 l w Q = sw Tryz.prog (some l) 18 issue_up_y0_t1 (issue_up_rf 0).2.1 0 (begK Tryz.prog l 18 issue_up_y0_t2 (issue_up_rf 0).2.2 Q) ⟨regs [x0, .pointer (some a1), x2, x3, x4, x5, .int .i64 n6, .int .u8 n7, x8, x9, x10, x11, x12, x13, x14, x15, x16, x17], []⟩ w := by kernel_rfl
  have h2 := round_of_sw (f := fn) issue_up_y0_t1 issue_up_y0_t2 (nt := 18) (by kernel_rfl) (Eq.mp e hq)
  refine yield_r h ?_ ?_ h2
  · kernel_rfl
  · kernel_rfl
end Go.Sh
end

section
namespace Go.Sh
open Go Go.Fw Go.Proofs
set_option maxRecDepth 100000
set_option linter.unusedVariables false
def ref03_Encrypt (p0 : Option Addr) (l0 : Nat) (c0 : Nat) (p1 : Option Addr) (l1 : Nat) (c1 : Nat) (w : World) (Q : Value → World → Prop) : Prop :=
  callF Tryz.prog 257 #[] w fun r7 w1 =>
  ∃ p7 l7 c7, r7 = .slice p7 l7 c7 ∧
  callF Tryz.prog 256 #[.slice p0 l0 c0, .slice p1 l1 c1, .slice p7 l7 c7] w1 fun r8 w2 =>
  ∃ p8 l8 c8, r8 = .slice p8 l8 c8 ∧
  Q (.slice p8 l8 c8) w2
def ref03_Encrypt_tt : Nat → List (Nat × TypeId) := fun _ => []
theorem ref03_Encrypt_call (p0 : Option Addr) (l0 : Nat) (c0 : Nat) (p1 : Option Addr) (l1 : Nat) (c1 : Nat) (w : World) (Q : Value → World → Prop) (h : ref03_Encrypt p0 l0 c0 p1 l1 c1 w Q) : callF Tryz.prog 221 #[.slice p0 l0 c0, .slice p1 l1 c1] w Q :=
  callBy ref03_Encrypt_tt Tryz.func221 h (fun _ _ => by kernel_rfl) (by kernel_rfl) (by kernel_rfl) (by kernel_rfl)
def ref03_With_j1 (I1 : Inv) (μ1 : Meas) (us1 : List Value) (wl1 : World) (p2 : Option Addr) (l2 : Nat) (c2 : Nat) (p6 : Option Addr) (l6 : Nat) (c6 : Nat) (p7 : Option Addr) (l7 : Nat) (c7 : Nat) (p8 : Option Addr) (l8 : Nat) (c8 : Nat) (n9 : Int) (w : World) (Q : Value → World → Prop) : Prop :=
  ∃ a34, IxA Tryz.prog 45 (.slice p7 l7 c7) (.int .i64 n9) a34 ∧
  ∃ p35 l35 c35, Ld Tryz.prog 25 (.pointer (some a34)) w (.slice p35 l35 c35) ∧
  callF Tryz.prog 283 #[.slice p8 l8 c8, .slice p35 l35 c35] w fun r36 w1 =>
  ∃ p36 l36 c36, r36 = .slice p36 l36 c36 ∧
  goesOn [] [] I1 μ1 us1 [.slice p2 l2 c2, .slice p6 l6 c6, .slice p7 l7 c7, .slice p36 l36 c36, .int .i64 (IntKind.i64.wrap (n9 + 1))] wl1 w1
def ref03_With (p0 : Option Addr) (l0 : Nat) (c0 : Nat) (p1 : Option Addr) (l1 : Nat) (c1 : Nat) (p2 : Option Addr) (l2 : Nat) (c2 : Nat) (w : World) (Q : Value → World → Prop) : Prop :=
  callF Tryz.prog 282 #[.slice p0 l0 c0, .slice p2 l2 c2] w fun r12 w1 =>
  ∃ p12 l12 c12, r12 = .slice p12 l12 c12 ∧
  ∃ a15, IxA Tryz.prog 45 (.slice p12 l12 c12) (.int .i64 0) a15 ∧
  ∃ p16 l16 c16, Ld Tryz.prog 25 (.pointer (some a15)) w1 (.slice p16 l16 c16) ∧
  callF Tryz.prog 283 #[.slice p1 l1 c1, .slice p16 l16 c16] w1 fun r17 w2 =>
  ∃ p17 l17 c17, r17 = .slice p17 l17 c17 ∧
  LoopS [.slice p2 l2 c2, .slice none 0 0, .slice p12 l12 c12, .slice p17 l17 c17, .int .i64 1] w2 fun I1 μ1 us1 _ wl1 =>
  ∃ p2_1 l2_1 c2_1 p6 l6 c6 p7 l7 c7 p8 l8 c8 n9, us1 = [.slice p2_1 l2_1 c2_1, .slice p6 l6 c6, .slice p7 l7 c7, .slice p8 l8 c8, .int .i64 n9] ∧
  cond (decide (n9 ≤ 10))
  (callF Tryz.prog 285 #[.slice p8 l8 c8, .slice p2_1 l2_1 c2_1] wl1 fun r24 w3 =>
    ∃ p24 l24 c24, r24 = .slice p24 l24 c24 ∧
    callF Tryz.prog 284 #[.slice p24 l24 c24, .int .i64 1] w3 fun r25 w4 =>
    ∃ p25 l25 c25, r25 = .slice p25 l25 c25 ∧
    cond (decide (n9 < 10))
    (callF Tryz.prog 286 #[.slice p25 l25 c25, .agg #[.int .u8 2, .int .u8 3, .int .u8 1, .int .u8 1]] w4 fun r30 w5 =>
      ∃ p30 l30 c30, r30 = .slice p30 l30 c30 ∧
      ref03_With_j1 I1 μ1 us1 wl1 p2_1 l2_1 c2_1 p6 l6 c6 p7 l7 c7 p30 l30 c30 n9 w5 Q)
    (ref03_With_j1 I1 μ1 us1 wl1 p2_1 l2_1 c2_1 p6 l6 c6 p7 l7 c7 p25 l25 c25 n9 w4 Q))
  (Q (.slice p8 l8 c8) wl1)
def ref03_With_tt : Nat → List (Nat × TypeId) := fun n => match n with | 0 => [(2, 25), (6, 25), (7, 45), (8, 25), (9, 3)] | _ => []
theorem ref03_With_call (p0 : Option Addr) (l0 : Nat) (c0 : Nat) (p1 : Option Addr) (l1 : Nat) (c1 : Nat) (p2 : Option Addr) (l2 : Nat) (c2 : Nat) (w : World) (Q : Value → World → Prop) (h : ref03_With p0 l0 c0 p1 l1 c1 p2 l2 c2 w Q) : callF Tryz.prog 256 #[.slice p0 l0 c0, .slice p1 l1 c1, .slice p2 l2 c2] w Q :=
  callBy ref03_With_tt Tryz.func256 h (fun _ _ => by kernel_rfl) (by kernel_rfl) (by kernel_rfl) (by kernel_rfl)
def ref03_Table_j1 (p0 : Option Addr) (l0 : Nat) (c0 : Nat) (p1 : Option Addr) (l1 : Nat) (c1 : Nat) (w : World) (Q : Value → World → Prop) : Prop :=
  ∃ p19 l19 c19 w1, Ef Tryz.prog (Instr.makeSlice 25 (.int .i64 256) (.int .i64 256)) w (.slice p19 l19 c19) w1 ∧
  callF Tryz.prog 288 #[.int .u8 0] w1 fun r21 w2 =>
  ∃ n21, r21 = .int .u8 n21 ∧
  ∃ a22, IxA Tryz.prog 25 (.slice p19 l19 c19) (.int .i64 0) a22 ∧
  ∃ w3, Sto Tryz.prog 5 (.pointer (some a22)) (.int .u8 n21) w2 w3 ∧
  LoopS [.slice p0 l0 c0, .slice p1 l1 c1, .slice p19 l19 c19, .int .i64 0] w3 fun I2 μ2 us2 _ wl2 =>
  ∃ p0_1 l0_1 c0_1 p1_1 l1_1 c1_1 p3 l3 c3 n4, us2 = [.slice p0_1 l0_1 c0_1, .slice p1_1 l1_1 c1_1, .slice p3 l3 c3, .int .i64 n4] ∧
  cond (decide (n4 < 255))
  (∃ (S11 : World → Prop),
    Drw wl2 fun w4 =>
    ∃ a30, IxA Tryz.prog 25 (.slice p1_1 l1_1 c1_1) (.int .i64 n4) a30 ∧
    ∃ a36, IxA Tryz.prog 25 (.slice p1_1 l1_1 c1_1) (.int .i64 (Int.tmod (IntKind.i64.wrap (255 - n4)) 255)) a36 ∧
    ∃ n31, HLd Tryz.prog S11 5 (.pointer (some a30)) w4 (.int .u8 n31) ∧
    ∃ n37, Ld Tryz.prog 5 (.pointer (some a36)) w4 (.int .u8 n37) ∧
    (w4 = w4 ∨ S11 w4) ∧
    callF Tryz.prog 288 #[.int .u8 n37] w4 fun r38 w5 =>
    ∃ n38, r38 = .int .u8 n38 ∧
    (w5 = w4 ∨ S11 w5) ∧
    ∃ a39, IxA Tryz.prog 25 (.slice p3 l3 c3) (.int .u8 n31) a39 ∧
    ∃ w6, Sto Tryz.prog 5 (.pointer (some a39)) (.int .u8 n38) w5 w6 ∧
    goesOn [] [] I2 μ2 us2 [.slice p0_1 l0_1 c0_1, .slice p1_1 l1_1 c1_1, .slice p3 l3 c3, .int .i64 (IntKind.i64.wrap (n4 + 1))] wl2 w6)
  (Q (.slice p3 l3 c3) wl2)
def ref03_Table  (w : World) (Q : Value → World → Prop) : Prop :=
  ∃ p5 l5 c5 w1, Ef Tryz.prog (Instr.buildSlice 25 1 #[(0, .int .u8 1)]) w (.slice p5 l5 c5) w1 ∧
  LoopS [.slice none 0 0, .slice p5 l5 c5, .int .i64 1] w1 fun I1 μ1 us1 _ wl1 =>
  ∃ p0 l0 c0 p1 l1 c1 n2, us1 = [.slice p0 l0 c0, .slice p1 l1 c1, .int .i64 n2] ∧
  cond (decide (n2 < 255))
  (∃ a14, IxA Tryz.prog 25 (.slice p1 l1 c1) (.int .i64 (IntKind.i64.wrap (n2 - 1))) a14 ∧
    ∃ n15, Ld Tryz.prog 5 (.pointer (some a14)) wl1 (.int .u8 n15) ∧
    callF Tryz.prog 287 #[.int .u8 n15, .int .u8 3] wl1 fun r16 w2 =>
    ∃ n16, r16 = .int .u8 n16 ∧
    ∃ p17 l17 c17 w3, Ef Tryz.prog (Instr.buildSlice 25 1 #[(0, .int .u8 n16)]) w2 (.slice p17 l17 c17) w3 ∧
    ∃ p18 l18 c18 w4, Ef Tryz.prog (Builtin.append_ #[25, 25] 25 #[.slice p1 l1 c1, .slice p17 l17 c17]) w3 (.slice p18 l18 c18) w4 ∧
    goesOn [] [] I1 μ1 us1 [.slice p0 l0 c0, .slice p18 l18 c18, .int .i64 (IntKind.i64.wrap (n2 + 1))] wl1 w4)
  (ref03_Table_j1 p0 l0 c0 p1 l1 c1 wl1 Q)
def ref03_Table_tt : Nat → List (Nat × TypeId) := fun n => match n with | 0 => [(0, 25), (1, 25), (2, 3)] | 2 => [(0, 25), (1, 25), (3, 25), (4, 3)] | _ => []
theorem ref03_Table_call  (w : World) (Q : Value → World → Prop) (h : ref03_Table  w Q) : callF Tryz.prog 257 #[] w Q :=
  callBy ref03_Table_tt Tryz.func257 h (fun _ _ => by kernel_rfl) (by kernel_rfl) (by kernel_rfl) (by kernel_rfl)
def ref03_Keys_j1 (I2 : Inv) (μ2 : Meas) (us2 : List Value) (wl2 : World) (p1 : Option Addr) (l1 : Nat) (c1 : Nat) (p4 : Option Addr) (l4 : Nat) (c4 : Nat) (p5 : Option Addr) (l5 : Nat) (c5 : Nat) (n7 : Int) (p8 : Option Addr) (l8 : Nat) (c8 : Nat) (w : World) (Q : Value → World → Prop) : Prop :=
  ∃ a71, IxA Tryz.prog 45 (.slice p5 l5 c5) (.int .i64 (IntKind.i64.wrap (n7 - 4))) a71 ∧
  ∃ p72 l72 c72, Ld Tryz.prog 25 (.pointer (some a71)) w (.slice p72 l72 c72) ∧
  callF Tryz.prog 283 #[.slice p72 l72 c72, .slice p8 l8 c8] w fun r74 w1 =>
  ∃ p74 l74 c74, r74 = .slice p74 l74 c74 ∧
  ∃ p75 l75 c75 w2, Ef Tryz.prog (Instr.buildSlice 45 1 #[(0, .slice p74 l74 c74)]) w1 (.slice p75 l75 c75) w2 ∧
  ∃ p76 l76 c76 w3, Ef Tryz.prog (Builtin.append_ #[45, 45] 45 #[.slice p5 l5 c5, .slice p75 l75 c75]) w2 (.slice p76 l76 c76) w3 ∧
  goesOn [] [] I2 μ2 us2 [.slice p1 l1 c1, .slice p4 l4 c4, .slice p76 l76 c76, .int .i64 (IntKind.i64.wrap (n7 + 1))] wl2 w3
def ref03_Keys_j2 (p4 : Option Addr) (l4 : Nat) (c4 : Nat) (p5 : Option Addr) (l5 : Nat) (c5 : Nat) (w : World) (Q : Value → World → Prop) : Prop :=
  ∃ p77 l77 c77 w1, Ef Tryz.prog (Instr.buildSlice 45 0 #[]) w (.slice p77 l77 c77) w1 ∧
  LoopS [.slice p4 l4 c4, .slice p5 l5 c5, .slice p77 l77 c77, .int .i64 0] w1 fun I3 μ3 us3 _ wl3 =>
  ∃ p4_1 l4_1 c4_1 p5_1 l5_1 c5_1 p9 l9 c9 n10, us3 = [.slice p4_1 l4_1 c4_1, .slice p5_1 l5_1 c5_1, .slice p9 l9 c9, .int .i64 n10] ∧
  cond (decide (n10 < 11))
  (∃ p82 l82 c82 w2, Ef Tryz.prog (Instr.buildSlice 25 0 #[]) wl3 (.slice p82 l82 c82) w2 ∧
    LoopS [.slice p4_1 l4_1 c4_1, .slice p5_1 l5_1 c5_1, .slice p9 l9 c9, .int .i64 n10, .slice p82 l82 c82, .int .i64 0] w2 fun I4 μ4 us4 _ wl4 =>
    ∃ p4_2 l4_2 c4_2 p5_2 l5_2 c5_2 p9_1 l9_1 c9_1 n10_1 p11 l11 c11 n12, us4 = [.slice p4_2 l4_2 c4_2, .slice p5_2 l5_2 c5_2, .slice p9_1 l9_1 c9_1, .int .i64 n10_1, .slice p11 l11 c11, .int .i64 n12] ∧
    cond (decide (n12 < 4))
    (∃ a93, IxA Tryz.prog 45 (.slice p5_2 l5_2 c5_2) (.int .i64 (IntKind.i64.wrap ((IntKind.i64.wrap (4 * n10_1)) + n12))) a93 ∧
      ∃ p94 l94 c94, Ld Tryz.prog 25 (.pointer (some a93)) wl4 (.slice p94 l94 c94) ∧
      ∃ p95 l95 c95 w3, Ef Tryz.prog (Builtin.append_ #[25, 25] 25 #[.slice p11 l11 c11, .slice p94 l94 c94]) wl4 (.slice p95 l95 c95) w3 ∧
      goesOn [] [] I4 μ4 us4 [.slice p4_2 l4_2 c4_2, .slice p5_2 l5_2 c5_2, .slice p9_1 l9_1 c9_1, .int .i64 n10_1, .slice p95 l95 c95, .int .i64 (IntKind.i64.wrap (n12 + 1))] wl4 w3)
    (∃ p98 l98 c98 w4, Ef Tryz.prog (Instr.buildSlice 45 1 #[(0, .slice p11 l11 c11)]) wl4 (.slice p98 l98 c98) w4 ∧
      ∃ p99 l99 c99 w5, Ef Tryz.prog (Builtin.append_ #[45, 45] 45 #[.slice p9_1 l9_1 c9_1, .slice p98 l98 c98]) w4 (.slice p99 l99 c99) w5 ∧
      goesOn [] [] I3 μ3 us3 [.slice p4_2 l4_2 c4_2, .slice p5_2 l5_2 c5_2, .slice p99 l99 c99, .int .i64 (IntKind.i64.wrap (n10_1 + 1))] wl3 w5))
  (Q (.slice p9 l9 c9) wl3)
def ref03_Keys_j3 (p1 : Option Addr) (l1 : Nat) (c1 : Nat) (p4 : Option Addr) (l4 : Nat) (c4 : Nat) (p5 : Option Addr) (l5 : Nat) (c5 : Nat) (w : World) (Q : Value → World → Prop) : Prop :=
  LoopS [.slice p1 l1 c1, .slice p4 l4 c4, .slice p5 l5 c5, .int .i64 4] w fun I2 μ2 us2 _ wl2 =>
  ∃ p1_1 l1_1 c1_1 p4_1 l4_1 c4_1 p5_1 l5_1 c5_1 n7, us2 = [.slice p1_1 l1_1 c1_1, .slice p4_1 l4_1 c4_1, .slice p5_1 l5_1 c5_1, .int .i64 n7] ∧
  cond (decide (n7 < 44))
  (∃ a37, IxA Tryz.prog 45 (.slice p5_1 l5_1 c5_1) (.int .i64 (IntKind.i64.wrap (n7 - 1))) a37 ∧
    ∃ p38 l38 c38, Ld Tryz.prog 25 (.pointer (some a37)) wl2 (.slice p38 l38 c38) ∧
    cond ((Int.tmod n7 4) == 0)
    (∃ (S11 : World → Prop),
      Drw wl2 fun w1 =>
      ∃ a43, IxA Tryz.prog 25 (.slice p38 l38 c38) (.int .i64 1) a43 ∧
      ∃ a46, IxA Tryz.prog 25 (.slice p38 l38 c38) (.int .i64 2) a46 ∧
      ∃ a49, IxA Tryz.prog 25 (.slice p38 l38 c38) (.int .i64 3) a49 ∧
      ∃ a52, IxA Tryz.prog 25 (.slice p38 l38 c38) (.int .i64 0) a52 ∧
      ∃ n44, HLd Tryz.prog S11 5 (.pointer (some a43)) w1 (.int .u8 n44) ∧
      ∃ n47, HLd Tryz.prog S11 5 (.pointer (some a46)) w1 (.int .u8 n47) ∧
      ∃ n50, HLd Tryz.prog S11 5 (.pointer (some a49)) w1 (.int .u8 n50) ∧
      ∃ n53, Ld Tryz.prog 5 (.pointer (some a52)) w1 (.int .u8 n53) ∧
      (w1 = w1 ∨ S11 w1) ∧
      ∃ p54 l54 c54 w2, Ef Tryz.prog (Instr.buildSlice 25 4 #[(0, .int .u8 n44), (1, .int .u8 n47), (2, .int .u8 n50), (3, .int .u8 n53)]) w1 (.slice p54 l54 c54) w2 ∧
      callF Tryz.prog 285 #[.slice p54 l54 c54, .slice p1_1 l1_1 c1_1] w2 fun r56 w3 =>
      ∃ p56 l56 c56, r56 = .slice p56 l56 c56 ∧
      ∃ (S12 : World → Prop),
      Drw w3 fun w4 =>
      ∃ a58, IxA Tryz.prog 25 (.slice p56 l56 c56) (.int .i64 0) a58 ∧
      ∃ n59, HLd Tryz.prog S12 5 (.pointer (some a58)) w4 (.int .u8 n59) ∧
      callF Tryz.prog 305 #[.int .u8 2, .int .u64 (IntKind.u64.wrap (IntKind.i64.wrap ((IntKind.i64.wrap (Int.tdiv n7 4)) - 1)))] w4 fun r64 w5 =>
      ∃ n64, r64 = .int .u8 n64 ∧
      (w5 = w4 ∨ S12 w5) ∧
      ∃ a66, IxA Tryz.prog 25 (.slice p56 l56 c56) (.int .i64 0) a66 ∧
      ∃ w6, Sto Tryz.prog 5 (.pointer (some a66)) (.int .u8 (ixor .u8 n59 n64)) w5 w6 ∧
      ref03_Keys_j1 I2 μ2 us2 wl2 p1_1 l1_1 c1_1 p4_1 l4_1 c4_1 p5_1 l5_1 c5_1 n7 p56 l56 c56 w6 Q)
    (ref03_Keys_j1 I2 μ2 us2 wl2 p1_1 l1_1 c1_1 p4_1 l4_1 c4_1 p5_1 l5_1 c5_1 n7 p38 l38 c38 wl2 Q))
  (ref03_Keys_j2 p4_1 l4_1 c4_1 p5_1 l5_1 c5_1 wl2 Q)
def ref03_Keys (p0 : Option Addr) (l0 : Nat) (c0 : Nat) (p1 : Option Addr) (l1 : Nat) (c1 : Nat) (w : World) (Q : Value → World → Prop) : Prop :=
  ∃ p13 l13 c13 w1, Ef Tryz.prog (Instr.buildSlice 45 0 #[]) w (.slice p13 l13 c13) w1 ∧
  LoopS [.slice p0 l0 c0, .slice p1 l1 c1, .slice none 0 0, .slice p13 l13 c13, .int .i64 0] w1 fun I1 μ1 us1 _ wl1 =>
  ∃ p0_1 l0_1 c0_1 p1_1 l1_1 c1_1 p4 l4 c4 p5 l5 c5 n6, us1 = [.slice p0_1 l0_1 c0_1, .slice p1_1 l1_1 c1_1, .slice p4 l4 c4, .slice p5 l5 c5, .int .i64 n6] ∧
  cond (decide (n6 < 4))
  (∃ p19 l19 c19 w2, Ef Tryz.prog (Instr.buildSlice 25 0 #[]) wl1 (.slice p19 l19 c19) w2 ∧
    ∃ p26 l26 c26, Pu Tryz.prog (Instr.sliceAt 25 (.slice p0_1 l0_1 c0_1) (some (.int .i64 (IntKind.i64.wrap (4 * n6)))) (some (.int .i64 (IntKind.i64.wrap ((IntKind.i64.wrap (4 * n6)) + 4)))) none) (.slice p26 l26 c26) ∧
    ∃ p27 l27 c27 w3, Ef Tryz.prog (Builtin.append_ #[25, 25] 25 #[.slice p19 l19 c19, .slice p26 l26 c26]) w2 (.slice p27 l27 c27) w3 ∧
    ∃ p28 l28 c28 w4, Ef Tryz.prog (Instr.buildSlice 45 1 #[(0, .slice p27 l27 c27)]) w3 (.slice p28 l28 c28) w4 ∧
    ∃ p29 l29 c29 w5, Ef Tryz.prog (Builtin.append_ #[45, 45] 45 #[.slice p5 l5 c5, .slice p28 l28 c28]) w4 (.slice p29 l29 c29) w5 ∧
    goesOn [] [] I1 μ1 us1 [.slice p0_1 l0_1 c0_1, .slice p1_1 l1_1 c1_1, .slice p4 l4 c4, .slice p29 l29 c29, .int .i64 (IntKind.i64.wrap (n6 + 1))] wl1 w5)
  (ref03_Keys_j3 p1_1 l1_1 c1_1 p4 l4 c4 p5 l5 c5 wl1 Q)
def ref03_Keys_tt : Nat → List (Nat × TypeId) := fun n => match n with | 0 => [(0, 25), (1, 25), (4, 45), (5, 45), (6, 3)] | 2 => [(1, 25), (4, 45), (5, 45), (7, 3)] | 4 => [(4, 45), (5, 45), (9, 45), (10, 3)] | 6 => [(4, 45), (5, 45), (9, 45), (10, 3), (11, 25), (12, 3)] | _ => []
theorem ref03_Keys_call (p0 : Option Addr) (l0 : Nat) (c0 : Nat) (p1 : Option Addr) (l1 : Nat) (c1 : Nat) (w : World) (Q : Value → World → Prop) (h : ref03_Keys p0 l0 c0 p1 l1 c1 w Q) : callF Tryz.prog 282 #[.slice p0 l0 c0, .slice p1 l1 c1] w Q :=
  callBy ref03_Keys_tt Tryz.func282 h (fun _ _ => by kernel_rfl) (by kernel_rfl) (by kernel_rfl) (by kernel_rfl)
def ref03_add (p0 : Option Addr) (l0 : Nat) (c0 : Nat) (p1 : Option Addr) (l1 : Nat) (c1 : Nat) (w : World) (Q : Value → World → Prop) : Prop :=
  ∃ p7 l7 c7 w1, Ef Tryz.prog (Instr.buildSlice 25 0 #[]) w (.slice p7 l7 c7) w1 ∧
  LoopS [.slice p0 l0 c0, .slice p1 l1 c1, .slice none 0 0, .slice p7 l7 c7, .int .i64 0] w1 fun I1 μ1 us1 _ wl1 =>
  ∃ p0_1 l0_1 c0_1 p1_1 l1_1 c1_1 p4 l4 c4 p5 l5 c5 n6, us1 = [.slice p0_1 l0_1 c0_1, .slice p1_1 l1_1 c1_1, .slice p4 l4 c4, .slice p5 l5 c5, .int .i64 n6] ∧
  cond (decide (n6 < ((l0_1 : Nat) : Int)))
  (∃ (S5 : World → Prop),
    Drw wl1 fun w2 =>
    ∃ a17, IxA Tryz.prog 25 (.slice p0_1 l0_1 c0_1) (.int .i64 n6) a17 ∧
    ∃ a21, IxA Tryz.prog 25 (.slice p1_1 l1_1 c1_1) (.int .i64 n6) a21 ∧
    ∃ n18, HLd Tryz.prog S5 5 (.pointer (some a17)) w2 (.int .u8 n18) ∧
    ∃ n22, Ld Tryz.prog 5 (.pointer (some a21)) w2 (.int .u8 n22) ∧
    (w2 = w2 ∨ S5 w2) ∧
    ∃ p24 l24 c24 w3, Ef Tryz.prog (Instr.buildSlice 25 1 #[(0, .int .u8 (ixor .u8 n18 n22))]) w2 (.slice p24 l24 c24) w3 ∧
    ∃ p25 l25 c25 w4, Ef Tryz.prog (Builtin.append_ #[25, 25] 25 #[.slice p5 l5 c5, .slice p24 l24 c24]) w3 (.slice p25 l25 c25) w4 ∧
    goesOn [] [] I1 μ1 us1 [.slice p0_1 l0_1 c0_1, .slice p1_1 l1_1 c1_1, .slice p4 l4 c4, .slice p25 l25 c25, .int .i64 (IntKind.i64.wrap (n6 + 1))] wl1 w4)
  (Q (.slice p5 l5 c5) wl1)
def ref03_add_tt : Nat → List (Nat × TypeId) := fun n => match n with | 0 => [(0, 25), (1, 25), (4, 25), (5, 25), (6, 3)] | _ => []
theorem ref03_add_call (p0 : Option Addr) (l0 : Nat) (c0 : Nat) (p1 : Option Addr) (l1 : Nat) (c1 : Nat) (w : World) (Q : Value → World → Prop) (h : ref03_add p0 l0 c0 p1 l1 c1 w Q) : callF Tryz.prog 283 #[.slice p0 l0 c0, .slice p1 l1 c1] w Q :=
  callBy ref03_add_tt Tryz.func283 h (fun _ _ => by kernel_rfl) (by kernel_rfl) (by kernel_rfl) (by kernel_rfl)
def ref03_rows (p0 : Option Addr) (l0 : Nat) (c0 : Nat) (n1 : Int) (w : World) (Q : Value → World → Prop) : Prop :=
  ∃ p8 l8 c8 w1, Ef Tryz.prog (Instr.makeSlice 25 (.int .i64 16) (.int .i64 16)) w (.slice p8 l8 c8) w1 ∧
  LoopS [.slice p0 l0 c0, .int .i64 n1, .slice none 0 0, .slice p8 l8 c8, .int .i64 0] w1 fun I1 μ1 us1 _ wl1 =>
  ∃ p0_1 l0_1 c0_1 n1_1 p4 l4 c4 p5 l5 c5 n6, us1 = [.slice p0_1 l0_1 c0_1, .int .i64 n1_1, .slice p4 l4 c4, .slice p5 l5 c5, .int .i64 n6] ∧
  cond (decide (n6 < 4))
  (LoopS [.slice p0_1 l0_1 c0_1, .int .i64 n1_1, .slice p4 l4 c4, .slice p5 l5 c5, .int .i64 n6, .int .i64 0] wl1 fun I2 μ2 us2 _ wl2 =>
    ∃ p0_2 l0_2 c0_2 n1_2 p4_1 l4_1 c4_1 p5_1 l5_1 c5_1 n6_1 n7, us2 = [.slice p0_2 l0_2 c0_2, .int .i64 n1_2, .slice p4_1 l4_1 c4_1, .slice p5_1 l5_1 c5_1, .int .i64 n6_1, .int .i64 n7] ∧
    cond (decide (n7 < 4))
    (callF Tryz.prog 306 #[.int .i64 n6_1, .int .i64 n7] wl2 fun r20 w2 =>
      ∃ n20, r20 = .int .i64 n20 ∧
      callF Tryz.prog 306 #[.int .i64 n6_1, .int .i64 (IntKind.i64.wrap (n7 + (IntKind.i64.wrap (n1_2 * n6_1))))] w2 fun r28 w3 =>
      ∃ n28, r28 = .int .i64 n28 ∧
      ∃ a29, IxA Tryz.prog 25 (.slice p0_2 l0_2 c0_2) (.int .i64 n28) a29 ∧
      ∃ n30, Ld Tryz.prog 5 (.pointer (some a29)) w3 (.int .u8 n30) ∧
      ∃ a31, IxA Tryz.prog 25 (.slice p5_1 l5_1 c5_1) (.int .i64 n20) a31 ∧
      ∃ w4, Sto Tryz.prog 5 (.pointer (some a31)) (.int .u8 n30) w3 w4 ∧
      goesOn [] [] I2 μ2 us2 [.slice p0_2 l0_2 c0_2, .int .i64 n1_2, .slice p4_1 l4_1 c4_1, .slice p5_1 l5_1 c5_1, .int .i64 n6_1, .int .i64 (IntKind.i64.wrap (n7 + 1))] wl2 w4)
    (goesOn [] [] I1 μ1 us1 [.slice p0_2 l0_2 c0_2, .int .i64 n1_2, .slice p4_1 l4_1 c4_1, .slice p5_1 l5_1 c5_1, .int .i64 (IntKind.i64.wrap (n6_1 + 1))] wl1 wl2))
  (Q (.slice p5 l5 c5) wl1)
def ref03_rows_tt : Nat → List (Nat × TypeId) := fun n => match n with | 0 => [(0, 25), (1, 3), (4, 25), (5, 25), (6, 3)] | 2 => [(0, 25), (1, 3), (4, 25), (5, 25), (6, 3), (7, 3)] | _ => []
theorem ref03_rows_call (p0 : Option Addr) (l0 : Nat) (c0 : Nat) (n1 : Int) (w : World) (Q : Value → World → Prop) (h : ref03_rows p0 l0 c0 n1 w Q) : callF Tryz.prog 284 #[.slice p0 l0 c0, .int .i64 n1] w Q :=
  callBy ref03_rows_tt Tryz.func284 h (fun _ _ => by kernel_rfl) (by kernel_rfl) (by kernel_rfl) (by kernel_rfl)
def ref03_subs (p0 : Option Addr) (l0 : Nat) (c0 : Nat) (p1 : Option Addr) (l1 : Nat) (c1 : Nat) (w : World) (Q : Value → World → Prop) : Prop :=
  ∃ p7 l7 c7 w1, Ef Tryz.prog (Instr.buildSlice 25 0 #[]) w (.slice p7 l7 c7) w1 ∧
  LoopS [.slice p0 l0 c0, .slice p1 l1 c1, .slice none 0 0, .slice p7 l7 c7, .int .i64 0] w1 fun I1 μ1 us1 _ wl1 =>
  ∃ p0_1 l0_1 c0_1 p1_1 l1_1 c1_1 p4 l4 c4 p5 l5 c5 n6, us1 = [.slice p0_1 l0_1 c0_1, .slice p1_1 l1_1 c1_1, .slice p4 l4 c4, .slice p5 l5 c5, .int .i64 n6] ∧
  cond (decide (n6 < ((l0_1 : Nat) : Int)))
  (∃ a18, IxA Tryz.prog 25 (.slice p0_1 l0_1 c0_1) (.int .i64 n6) a18 ∧
    ∃ n19, Ld Tryz.prog 5 (.pointer (some a18)) wl1 (.int .u8 n19) ∧
    ∃ a20, IxA Tryz.prog 25 (.slice p1_1 l1_1 c1_1) (.int .u8 n19) a20 ∧
    ∃ n21, Ld Tryz.prog 5 (.pointer (some a20)) wl1 (.int .u8 n21) ∧
    ∃ p22 l22 c22 w2, Ef Tryz.prog (Instr.buildSlice 25 1 #[(0, .int .u8 n21)]) wl1 (.slice p22 l22 c22) w2 ∧
    ∃ p23 l23 c23 w3, Ef Tryz.prog (Builtin.append_ #[25, 25] 25 #[.slice p5 l5 c5, .slice p22 l22 c22]) w2 (.slice p23 l23 c23) w3 ∧
    goesOn [] [] I1 μ1 us1 [.slice p0_1 l0_1 c0_1, .slice p1_1 l1_1 c1_1, .slice p4 l4 c4, .slice p23 l23 c23, .int .i64 (IntKind.i64.wrap (n6 + 1))] wl1 w3)
  (Q (.slice p5 l5 c5) wl1)
def ref03_subs_tt : Nat → List (Nat × TypeId) := fun n => match n with | 0 => [(0, 25), (1, 25), (4, 25), (5, 25), (6, 3)] | _ => []
theorem ref03_subs_call (p0 : Option Addr) (l0 : Nat) (c0 : Nat) (p1 : Option Addr) (l1 : Nat) (c1 : Nat) (w : World) (Q : Value → World → Prop) (h : ref03_subs p0 l0 c0 p1 l1 c1 w Q) : callF Tryz.prog 285 #[.slice p0 l0 c0, .slice p1 l1 c1] w Q :=
  callBy ref03_subs_tt Tryz.func285 h (fun _ _ => by kernel_rfl) (by kernel_rfl) (by kernel_rfl) (by kernel_rfl)
def ref03_columns_j1 (I1 : Inv) (μ1 : Meas) (us1 : List Value) (wl1 : World) (I2 : Inv) (μ2 : Meas) (us2 : List Value) (wl2 : World) (p0 : Option Addr) (l0 : Nat) (c0 : Nat) (a3 : Addr) (p4 : Option Addr) (l4 : Nat) (c4 : Nat) (p5 : Option Addr) (l5 : Nat) (c5 : Nat) (n6 : Int) (n7 : Int) (n8 : Int) (w : World) (Q : Value → World → Prop) : Prop :=
  callF Tryz.prog 306 #[.int .i64 n7, .int .i64 n6] w fun r42 w1 =>
  ∃ n42, r42 = .int .i64 n42 ∧
  ∃ a44, IxA Tryz.prog 25 (.slice p5 l5 c5) (.int .i64 n42) a44 ∧
  ∃ w2, Sto Tryz.prog 5 (.pointer (some a44)) (.int .u8 n8) w1 w2 ∧
  goesOn [] [] I2 μ2 us2 [.slice p0 l0 c0, .pointer (some a3), .slice p4 l4 c4, .slice p5 l5 c5, .int .i64 n6, .int .i64 (IntKind.i64.wrap (n7 + 1))] wl2 w2
def ref03_columns (p0 : Option Addr) (l0 : Nat) (c0 : Nat) (cs1 : Array Value) (w : World) (Q : Value → World → Prop) : Prop :=
  New cs1 333 w fun k3 w1 =>
  ∃ p10 l10 c10 w2, Ef Tryz.prog (Instr.makeSlice 25 (.int .i64 16) (.int .i64 16)) w1 (.slice p10 l10 c10) w2 ∧
  LoopS [.slice p0 l0 c0, .pointer (some (⟨k3, 0, none⟩ : Addr)), .slice none 0 0, .slice p10 l10 c10, .int .i64 0] w2 fun I1 μ1 us1 _ wl1 =>
  ∃ p0_1 l0_1 c0_1 a3 p4 l4 c4 p5 l5 c5 n6, us1 = [.slice p0_1 l0_1 c0_1, .pointer (some a3), .slice p4 l4 c4, .slice p5 l5 c5, .int .i64 n6] ∧
  cond (decide (n6 < 4))
  (LoopS [.slice p0_1 l0_1 c0_1, .pointer (some a3), .slice p4 l4 c4, .slice p5 l5 c5, .int .i64 n6, .int .i64 0] wl1 fun I2 μ2 us2 _ wl2 =>
    ∃ p0_2 l0_2 c0_2 a3_1 p4_1 l4_1 c4_1 p5_1 l5_1 c5_1 n6_1 n7, us2 = [.slice p0_2 l0_2 c0_2, .pointer (some a3_1), .slice p4_1 l4_1 c4_1, .slice p5_1 l5_1 c5_1, .int .i64 n6_1, .int .i64 n7] ∧
    cond (decide (n7 < 4))
    (LoopS [.slice p0_2 l0_2 c0_2, .pointer (some a3_1), .slice p4_1 l4_1 c4_1, .slice p5_1 l5_1 c5_1, .int .i64 n6_1, .int .i64 n7, .int .u8 0, .int .i64 0] wl2 fun I3 μ3 us3 _ wl3 =>
      ∃ p0_3 l0_3 c0_3 a3_2 p4_2 l4_2 c4_2 p5_2 l5_2 c5_2 n6_2 n7_1 n8 n9, us3 = [.slice p0_3 l0_3 c0_3, .pointer (some a3_2), .slice p4_2 l4_2 c4_2, .slice p5_2 l5_2 c5_2, .int .i64 n6_2, .int .i64 n7_1, .int .u8 n8, .int .i64 n9] ∧
      cond (decide (n9 < 4))
      (∃ (S12 : World → Prop),
        Drw wl3 fun w3 =>
        ∃ a29, IxA Tryz.prog 333 (.pointer (some a3_2)) (.int .i64 (Int.tmod (IntKind.i64.wrap ((IntKind.i64.wrap (n9 + 4)) - n7_1)) 4)) a29 ∧
        ∃ n30, HLd Tryz.prog S12 5 (.pointer (some a29)) w3 (.int .u8 n30) ∧
        callF Tryz.prog 306 #[.int .i64 n9, .int .i64 n6_2] w3 fun r34 w4 =>
        ∃ n34, r34 = .int .i64 n34 ∧
        (w4 = w3 ∨ S12 w4) ∧
        ∃ a35, IxA Tryz.prog 25 (.slice p0_3 l0_3 c0_3) (.int .i64 n34) a35 ∧
        ∃ n36, Ld Tryz.prog 5 (.pointer (some a35)) w4 (.int .u8 n36) ∧
        (w4 = w4 ∨ S12 w4) ∧
        callF Tryz.prog 287 #[.int .u8 n30, .int .u8 n36] w4 fun r37 w5 =>
        ∃ n37, r37 = .int .u8 n37 ∧
        goesOn [] [] I3 μ3 us3 [.slice p0_3 l0_3 c0_3, .pointer (some a3_2), .slice p4_2 l4_2 c4_2, .slice p5_2 l5_2 c5_2, .int .i64 n6_2, .int .i64 n7_1, .int .u8 (ixor .u8 n8 n37), .int .i64 (IntKind.i64.wrap (n9 + 1))] wl3 w5)
      (ref03_columns_j1 I1 μ1 us1 wl1 I2 μ2 us2 wl2 p0_3 l0_3 c0_3 a3_2 p4_2 l4_2 c4_2 p5_2 l5_2 c5_2 n6_2 n7_1 n8 wl3 Q))
    (goesOn [] [] I1 μ1 us1 [.slice p0_2 l0_2 c0_2, .pointer (some a3_1), .slice p4_1 l4_1 c4_1, .slice p5_1 l5_1 c5_1, .int .i64 (IntKind.i64.wrap (n6_1 + 1))] wl1 wl2))
  (Q (.slice p5 l5 c5) wl1)
def ref03_columns_tt : Nat → List (Nat × TypeId) := fun n => match n with | 0 => [(0, 25), (3, 1000000), (4, 25), (5, 25), (6, 3)] | 2 => [(0, 25), (3, 1000000), (4, 25), (5, 25), (6, 3), (7, 3)] | 4 => [(0, 25), (3, 1000000), (4, 25), (5, 25), (6, 3), (7, 3), (8, 5), (9, 3)] | _ => []
theorem ref03_columns_call (p0 : Option Addr) (l0 : Nat) (c0 : Nat) (cs1 : Array Value) (w : World) (Q : Value → World → Prop) (h : ref03_columns p0 l0 c0 cs1 w Q) : callF Tryz.prog 286 #[.slice p0 l0 c0, .agg cs1] w Q :=
  callBy ref03_columns_tt Tryz.func286 h (fun _ _ => by kernel_rfl) (by kernel_rfl) (by kernel_rfl) (by kernel_rfl)
def ref03_Decrypt_j1 (I1 : Inv) (μ1 : Meas) (us1 : List Value) (wl1 : World) (p4 : Option Addr) (l4 : Nat) (c4 : Nat) (p5 : Option Addr) (l5 : Nat) (c5 : Nat) (p6 : Option Addr) (l6 : Nat) (c6 : Nat) (p7 : Option Addr) (l7 : Nat) (c7 : Nat) (n8 : Int) (w : World) (Q : Value → World → Prop) : Prop :=
  callF Tryz.prog 284 #[.slice p7 l7 c7, .int .i64 3] w fun r30 w1 =>
  ∃ p30 l30 c30, r30 = .slice p30 l30 c30 ∧
  callF Tryz.prog 310 #[.slice p5 l5 c5] w1 fun r32 w2 =>
  ∃ p32 l32 c32, r32 = .slice p32 l32 c32 ∧
  callF Tryz.prog 285 #[.slice p30 l30 c30, .slice p32 l32 c32] w2 fun r33 w3 =>
  ∃ p33 l33 c33, r33 = .slice p33 l33 c33 ∧
  goesOn [] [] I1 μ1 us1 [.slice p4 l4 c4, .slice p5 l5 c5, .slice p6 l6 c6, .slice p33 l33 c33, .int .i64 (IntKind.i64.wrap (n8 - 1))] wl1 w3
def ref03_Decrypt_j2 (p4 : Option Addr) (l4 : Nat) (c4 : Nat) (p6 : Option Addr) (l6 : Nat) (c6 : Nat) (p7 : Option Addr) (l7 : Nat) (c7 : Nat) (w : World) (Q : Value → World → Prop) : Prop :=
  ∃ a36, IxA Tryz.prog 45 (.slice p6 l6 c6) (.int .i64 0) a36 ∧
  ∃ p37 l37 c37, Ld Tryz.prog 25 (.pointer (some a36)) w (.slice p37 l37 c37) ∧
  callF Tryz.prog 283 #[.slice p7 l7 c7, .slice p37 l37 c37] w fun r38 w1 =>
  ∃ p38 l38 c38, r38 = .slice p38 l38 c38 ∧
  Q (.slice p38 l38 c38) w1
def ref03_Decrypt (p0 : Option Addr) (l0 : Nat) (c0 : Nat) (p1 : Option Addr) (l1 : Nat) (c1 : Nat) (w : World) (Q : Value → World → Prop) : Prop :=
  callF Tryz.prog 257 #[] w fun r9 w1 =>
  ∃ p9 l9 c9, r9 = .slice p9 l9 c9 ∧
  callF Tryz.prog 282 #[.slice p0 l0 c0, .slice p9 l9 c9] w1 fun r12 w2 =>
  ∃ p12 l12 c12, r12 = .slice p12 l12 c12 ∧
  LoopS [.slice none 0 0, .slice p9 l9 c9, .slice p12 l12 c12, .slice p1 l1 c1, .int .i64 10] w2 fun I1 μ1 us1 _ wl1 =>
  ∃ p4 l4 c4 p5 l5 c5 p6 l6 c6 p7 l7 c7 n8, us1 = [.slice p4 l4 c4, .slice p5 l5 c5, .slice p6 l6 c6, .slice p7 l7 c7, .int .i64 n8] ∧
  cond (decide (n8 ≥ 1))
  (∃ a21, IxA Tryz.prog 45 (.slice p6 l6 c6) (.int .i64 n8) a21 ∧
    ∃ p22 l22 c22, Ld Tryz.prog 25 (.pointer (some a21)) wl1 (.slice p22 l22 c22) ∧
    callF Tryz.prog 283 #[.slice p7 l7 c7, .slice p22 l22 c22] wl1 fun r23 w3 =>
    ∃ p23 l23 c23, r23 = .slice p23 l23 c23 ∧
    cond (decide (n8 < 10))
    (callF Tryz.prog 286 #[.slice p23 l23 c23, .agg #[.int .u8 14, .int .u8 11, .int .u8 13, .int .u8 9]] w3 fun r28 w4 =>
      ∃ p28 l28 c28, r28 = .slice p28 l28 c28 ∧
      ref03_Decrypt_j1 I1 μ1 us1 wl1 p4 l4 c4 p5 l5 c5 p6 l6 c6 p28 l28 c28 n8 w4 Q)
    (ref03_Decrypt_j1 I1 μ1 us1 wl1 p4 l4 c4 p5 l5 c5 p6 l6 c6 p23 l23 c23 n8 w3 Q))
  (ref03_Decrypt_j2 p4 l4 c4 p6 l6 c6 p7 l7 c7 wl1 Q)
def ref03_Decrypt_tt : Nat → List (Nat × TypeId) := fun n => match n with | 0 => [(4, 25), (5, 25), (6, 45), (7, 25), (8, 3)] | _ => []
theorem ref03_Decrypt_call (p0 : Option Addr) (l0 : Nat) (c0 : Nat) (p1 : Option Addr) (l1 : Nat) (c1 : Nat) (w : World) (Q : Value → World → Prop) (h : ref03_Decrypt p0 l0 c0 p1 l1 c1 w Q) : callF Tryz.prog 292 #[.slice p0 l0 c0, .slice p1 l1 c1] w Q :=
  callBy ref03_Decrypt_tt Tryz.func292 h (fun _ _ => by kernel_rfl) (by kernel_rfl) (by kernel_rfl) (by kernel_rfl)
def ref03_at (n0 : Int) (n1 : Int) (w : World) (Q : Value → World → Prop) : Prop :=
  Q (.int .i64 (IntKind.i64.wrap ((IntKind.i64.wrap (4 * (Int.tmod n1 4))) + n0))) w
def ref03_at_tt : Nat → List (Nat × TypeId) := fun _ => []
theorem ref03_at_call (n0 : Int) (n1 : Int) (w : World) (Q : Value → World → Prop) (h : ref03_at n0 n1 w Q) : callF Tryz.prog 306 #[.int .i64 n0, .int .i64 n1] w Q :=
  callBy ref03_at_tt Tryz.func306 h (fun _ _ => by kernel_rfl) (by kernel_rfl) (by kernel_rfl) (by kernel_rfl)
def ref03_back (p0 : Option Addr) (l0 : Nat) (c0 : Nat) (w : World) (Q : Value → World → Prop) : Prop :=
  ∃ p5 l5 c5 w1, Ef Tryz.prog (Instr.makeSlice 25 (.int .i64 256) (.int .i64 256)) w (.slice p5 l5 c5) w1 ∧
  LoopS [.slice p0 l0 c0, .slice none 0 0, .slice p5 l5 c5, .int .i64 0] w1 fun I1 μ1 us1 _ wl1 =>
  ∃ p0_1 l0_1 c0_1 p2 l2 c2 p3 l3 c3 n4, us1 = [.slice p0_1 l0_1 c0_1, .slice p2 l2 c2, .slice p3 l3 c3, .int .i64 n4] ∧
  cond (decide (n4 < 256))
  (∃ a13, IxA Tryz.prog 25 (.slice p0_1 l0_1 c0_1) (.int .i64 n4) a13 ∧
    ∃ n14, Ld Tryz.prog 5 (.pointer (some a13)) wl1 (.int .u8 n14) ∧
    ∃ a17, IxA Tryz.prog 25 (.slice p3 l3 c3) (.int .u8 n14) a17 ∧
    ∃ w2, Sto Tryz.prog 5 (.pointer (some a17)) (.int .u8 (IntKind.u8.wrap n4)) wl1 w2 ∧
    goesOn [] [] I1 μ1 us1 [.slice p0_1 l0_1 c0_1, .slice p2 l2 c2, .slice p3 l3 c3, .int .i64 (IntKind.i64.wrap (n4 + 1))] wl1 w2)
  (Q (.slice p3 l3 c3) wl1)
def ref03_back_tt : Nat → List (Nat × TypeId) := fun n => match n with | 0 => [(0, 25), (2, 25), (3, 25), (4, 3)] | _ => []
theorem ref03_back_call (p0 : Option Addr) (l0 : Nat) (c0 : Nat) (w : World) (Q : Value → World → Prop) (h : ref03_back p0 l0 c0 w Q) : callF Tryz.prog 310 #[.slice p0 l0 c0] w Q :=
  callBy ref03_back_tt Tryz.func310 h (fun _ _ => by kernel_rfl) (by kernel_rfl) (by kernel_rfl) (by kernel_rfl)
end Go.Sh
end
