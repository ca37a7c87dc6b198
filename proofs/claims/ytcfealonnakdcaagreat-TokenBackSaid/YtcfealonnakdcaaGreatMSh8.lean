/- A part of a proof of a given law of this program: lemmas, printed forms of its functions, contracts. It has no conditions of its own. -/
import Derived.Test.YtcfealonnakdcaaGreatProg
import Derived.Test.YtcfealonnakdcaaGreatMFw

section
namespace Go.Sh
open Go Go.Fw Go.Proofs
set_option maxRecDepth 100000
set_option linter.unusedVariables false

def ref01_Put_j1 (n0 : Int) (p4 : Option Addr) (l4 : Nat) (c4 : Nat) (n5 : Int) (p6 : Option Addr) (l6 : Nat) (c6 : Nat) (w : World) (Q : Value → World → Prop) : Prop :=
  cond (decide (n0 > 0))
  (Q (.tuple #[.slice none 0 0, .int .i64 11]) w)
  (Q (.tuple #[.slice p6 l6 c6, .int .i64 0]) w)
def ref01_Put_j2 (n0 : Int) (n1 : Int) (p4 : Option Addr) (l4 : Nat) (c4 : Nat) (n5 : Int) (w : World) (Q : Value → World → Prop) : Prop :=
  ∃ p15 l15 c15 w1, Ef Tryz.prog (Instr.makeSlice 25 (.int .i64 n1) (.int .i64 n1)) w (.slice p15 l15 c15) w1 ∧
  LoopS [.int .u64 n0, .slice p4 l4 c4, .int .i64 n5, .slice p15 l15 c15, .int .i64 (IntKind.i64.wrap (n1 - 1))] w1 fun I1 μ1 us1 _ wl1 =>
  ∃ n0_1 p4_1 l4_1 c4_1 n5_1 p6 l6 c6 n7, us1 = [.int .u64 n0_1, .slice p4_1 l4_1 c4_1, .int .i64 n5_1, .slice p6 l6 c6, .int .i64 n7] ∧
  cond (decide (n7 ≥ 0))
  (∃ a27, IxA Tryz.prog 25 (.slice p6 l6 c6) (.int .i64 n7) a27 ∧
    ∃ w2, Sto Tryz.prog 5 (.pointer (some a27)) (.int .u8 (IntKind.u8.wrap (Int.tmod n0_1 256))) wl1 w2 ∧
    goesOn [] [] I1 μ1 us1 [.int .u64 (IntKind.u64.wrap (Int.tdiv n0_1 256)), .slice p4_1 l4_1 c4_1, .int .i64 n5_1, .slice p6 l6 c6, .int .i64 (IntKind.i64.wrap (n7 - 1))] wl1 w2)
  (ref01_Put_j1 n0_1 p4_1 l4_1 c4_1 n5_1 p6 l6 c6 wl1 Q)
def ref01_Put (n0 : Int) (n1 : Int) (w : World) (Q : Value → World → Prop) : Prop :=
  cond (decide (n1 < 0))
  (Q (.tuple #[.slice none 0 0, .int .i64 11]) w)
  (cond (decide (n1 > 8))
    (Q (.tuple #[.slice none 0 0, .int .i64 11]) w)
    (ref01_Put_j2 n0 n1 none 0 0 0 w Q))
def ref01_Put_tt : Nat → List (Nat × TypeId) := fun n => match n with | 0 => [(0, 88), (4, 25), (5, 33), (6, 25), (7, 3)] | _ => []
theorem ref01_Put_call (n0 : Int) (n1 : Int) (w : World) (Q : Value → World → Prop) (h : ref01_Put n0 n1 w Q) : callF Tryz.prog 141 #[.int .u64 n0, .int .i64 n1] w Q :=
  callBy ref01_Put_tt Tryz.func141 h (fun _ _ => by kernel_rfl) (by kernel_rfl) (by kernel_rfl) (by kernel_rfl)

def ref01_Num (p0 : Option Addr) (l0 : Nat) (c0 : Nat) (w : World) (Q : Value → World → Prop) : Prop :=
  cond (decide (((l0 : Nat) : Int) > 8))
  (Q (.tuple #[.int .u64 0, .int .i64 11]) w)
  (LoopS [.slice p0 l0 c0, .int .u64 0, .int .i64 0, .int .u64 0, .int .i64 0] w fun I1 μ1 us1 _ wl1 =>
    ∃ p0_1 l0_1 c0_1 n2 n3 n4 n5, us1 = [.slice p0_1 l0_1 c0_1, .int .u64 n2, .int .i64 n3, .int .u64 n4, .int .i64 n5] ∧
    cond (decide (n5 < ((l0_1 : Nat) : Int)))
    (∃ a19, IxA Tryz.prog 25 (.slice p0_1 l0_1 c0_1) (.int .i64 n5) a19 ∧
      ∃ n20, Ld Tryz.prog 5 (.pointer (some a19)) wl1 (.int .u8 n20) ∧
      goesOn [] [] I1 μ1 us1 [.slice p0_1 l0_1 c0_1, .int .u64 n2, .int .i64 n3, .int .u64 (IntKind.u64.wrap ((IntKind.u64.wrap (n4 * 256)) + (IntKind.u64.wrap n20))), .int .i64 (IntKind.i64.wrap (n5 + 1))] wl1 wl1)
    (Q (.tuple #[.int .u64 n4, .int .i64 0]) wl1))
def ref01_Num_tt : Nat → List (Nat × TypeId) := fun n => match n with | 0 => [(0, 25), (2, 88), (3, 33), (4, 88), (5, 3)] | _ => []
theorem ref01_Num_call (p0 : Option Addr) (l0 : Nat) (c0 : Nat) (w : World) (Q : Value → World → Prop) (h : ref01_Num p0 l0 c0 w Q) : callF Tryz.prog 208 #[.slice p0 l0 c0] w Q :=
  callBy ref01_Num_tt Tryz.func208 h (fun _ _ => by kernel_rfl) (by kernel_rfl) (by kernel_rfl) (by kernel_rfl)
end Go.Sh
end

section
namespace Go.Sh
open Go Go.Fw Go.Proofs
set_option maxRecDepth 100000
set_option linter.unusedVariables false

def ref09_Reader_Num_j1 (p0 : Option Addr) (n1 : Int) (n4 : Int) (w : World) (Q : Value → World → Prop) : Prop :=
  callF Tryz.prog 209 #[.pointer p0, .int .i64 n1] w fun r26 w1 =>
  ∃ p26 l26 c26, r26 = .slice p26 l26 c26 ∧
  callF Tryz.prog 208 #[.slice p26 l26 c26] w1 fun r27 w2 =>
  ∃ n27 n27_1, r27 = .tuple #[.int .u64 n27, .int .i64 n27_1] ∧
  Q (.int .u64 n27) w2
def ref09_Reader_Num_j2 (p0 : Option Addr) (n1 : Int) (n4 : Int) (b19 : Bool) (w : World) (Q : Value → World → Prop) : Prop :=
  cond b19
  (∃ a21, p0 = some a21 ∧
    ∃ w1, Sto Tryz.prog 33 (.pointer (some (a21.add 1))) (.int .i64 11) w w1 ∧
    ref09_Reader_Num_j1 p0 n1 n4 w1 Q)
  (ref09_Reader_Num_j1 p0 n1 n4 w Q)
def ref09_Reader_Num (p0 : Option Addr) (n1 : Int) (w : World) (Q : Value → World → Prop) : Prop :=
  ∃ a8, p0 = some a8 ∧
  ∃ n10, Ld Tryz.prog 33 (.pointer (some (a8.add 1))) w (.int .i64 n10) ∧
  cond (n10 == 0)
  (cond (decide (n1 < 0))
    (ref09_Reader_Num_j2 p0 n1 0 true w Q)
    (ref09_Reader_Num_j2 p0 n1 0 (decide (n1 > 8)) w Q))
  (ref09_Reader_Num_j2 p0 n1 0 false w Q)
def ref09_Reader_Num_tt : Nat → List (Nat × TypeId) := fun _ => []
theorem ref09_Reader_Num_call (p0 : Option Addr) (n1 : Int) (w : World) (Q : Value → World → Prop) (h : ref09_Reader_Num p0 n1 w Q) : callF Tryz.prog 145 #[.pointer p0, .int .i64 n1] w Q :=
  callBy ref09_Reader_Num_tt Tryz.func145 h (fun _ _ => by kernel_rfl) (by kernel_rfl) (by kernel_rfl) (by kernel_rfl)

def ref09_Reader_Short (p0 : Option Addr) (w : World) (Q : Value → World → Prop) : Prop :=
  ∃ a5, p0 = some a5 ∧
  ∃ p7 l7 c7, Ld Tryz.prog 25 (.pointer (some (a5.add 0))) w (.slice p7 l7 c7) ∧
  callF Tryz.prog 145 #[.pointer p0, .int .i64 1] w fun r11 w1 =>
  ∃ n11, r11 = .int .u64 n11 ∧
  callF Tryz.prog 210 #[.pointer p0, .slice p7 l7 c7, .int .u64 n11] w1 fun r12 w2 =>
  ∃ p12 l12 c12, r12 = .slice p12 l12 c12 ∧
  Q (.slice p12 l12 c12) w2
def ref09_Reader_Short_tt : Nat → List (Nat × TypeId) := fun _ => []
theorem ref09_Reader_Short_call (p0 : Option Addr) (w : World) (Q : Value → World → Prop) (h : ref09_Reader_Short p0 w Q) : callF Tryz.prog 146 #[.pointer p0] w Q :=
  callBy ref09_Reader_Short_tt Tryz.func146 h (fun _ _ => by kernel_rfl) (by kernel_rfl) (by kernel_rfl) (by kernel_rfl)

def ref09_Reader_End_j1 (p0 : Option Addr) (n2 : Int) (w : World) (Q : Value → World → Prop) : Prop :=
  ∃ a20, p0 = some a20 ∧
  ∃ n22, Ld Tryz.prog 33 (.pointer (some (a20.add 1))) w (.int .i64 n22) ∧
  Q (.int .i64 n22) w
def ref09_Reader_End_j2 (p0 : Option Addr) (n2 : Int) (b15 : Bool) (w : World) (Q : Value → World → Prop) : Prop :=
  cond b15
  (∃ a17, p0 = some a17 ∧
    ∃ w1, Sto Tryz.prog 33 (.pointer (some (a17.add 1))) (.int .i64 10) w w1 ∧
    ref09_Reader_End_j1 p0 n2 w1 Q)
  (ref09_Reader_End_j1 p0 n2 w Q)
def ref09_Reader_End (p0 : Option Addr) (w : World) (Q : Value → World → Prop) : Prop :=
  ∃ a4, p0 = some a4 ∧
  ∃ n6, Ld Tryz.prog 33 (.pointer (some (a4.add 1))) w (.int .i64 n6) ∧
  cond (n6 == 0)
  (∃ a10, p0 = some a10 ∧
    ∃ p12 l12 c12, Ld Tryz.prog 25 (.pointer (some (a10.add 0))) w (.slice p12 l12 c12) ∧
    ref09_Reader_End_j2 p0 0 (decide (((l12 : Nat) : Int) > 0)) w Q)
  (ref09_Reader_End_j2 p0 0 false w Q)
def ref09_Reader_End_tt : Nat → List (Nat × TypeId) := fun _ => []
theorem ref09_Reader_End_call (p0 : Option Addr) (w : World) (Q : Value → World → Prop) (h : ref09_Reader_End p0 w Q) : callF Tryz.prog 147 #[.pointer p0] w Q :=
  callBy ref09_Reader_End_tt Tryz.func147 h (fun _ _ => by kernel_rfl) (by kernel_rfl) (by kernel_rfl) (by kernel_rfl)

def ref09_Reader_Bytes_j1 (p0 : Option Addr) (n1 : Int) (p4 : Option Addr) (l4 : Nat) (c4 : Nat) (w : World) (Q : Value → World → Prop) : Prop :=
  ∃ a36, p0 = some a36 ∧
  ∃ n38, Ld Tryz.prog 33 (.pointer (some (a36.add 1))) w (.int .i64 n38) ∧
  cond (n38 != 0)
  (Q (.slice none 0 0) w)
  (∃ p40 l40 c40 w1, Ef Tryz.prog (Instr.buildSlice 25 0 #[]) w (.slice p40 l40 c40) w1 ∧
    ∃ a42, p0 = some a42 ∧
    ∃ p44 l44 c44, Ld Tryz.prog 25 (.pointer (some (a42.add 0))) w1 (.slice p44 l44 c44) ∧
    ∃ p46 l46 c46, Pu Tryz.prog (Instr.sliceAt 25 (.slice p44 l44 c44) none (some (.int .i64 n1)) none) (.slice p46 l46 c46) ∧
    ∃ p47 l47 c47 w2, Ef Tryz.prog (Builtin.append_ #[25, 25] 25 #[.slice p40 l40 c40, .slice p46 l46 c46]) w1 (.slice p47 l47 c47) w2 ∧
    ∃ a50, p0 = some a50 ∧
    ∃ p52 l52 c52, Ld Tryz.prog 25 (.pointer (some (a50.add 0))) w2 (.slice p52 l52 c52) ∧
    ∃ p54 l54 c54, Pu Tryz.prog (Instr.sliceAt 25 (.slice p52 l52 c52) (some (.int .i64 n1)) none none) (.slice p54 l54 c54) ∧
    ∃ a55, p0 = some a55 ∧
    ∃ w3, Sto Tryz.prog 25 (.pointer (some (a55.add 0))) (.slice p54 l54 c54) w2 w3 ∧
    Q (.slice p47 l47 c47) w3)
def ref09_Reader_Bytes_j2 (p0 : Option Addr) (n1 : Int) (p4 : Option Addr) (l4 : Nat) (c4 : Nat) (b31 : Bool) (w : World) (Q : Value → World → Prop) : Prop :=
  cond b31
  (∃ a33, p0 = some a33 ∧
    ∃ w1, Sto Tryz.prog 33 (.pointer (some (a33.add 1))) (.int .i64 12) w w1 ∧
    ref09_Reader_Bytes_j1 p0 n1 p4 l4 c4 w1 Q)
  (ref09_Reader_Bytes_j1 p0 n1 p4 l4 c4 w Q)
def ref09_Reader_Bytes_j3 (p0 : Option Addr) (n1 : Int) (p4 : Option Addr) (l4 : Nat) (c4 : Nat) (w : World) (Q : Value → World → Prop) : Prop :=
  ∃ a19, p0 = some a19 ∧
  ∃ n21, Ld Tryz.prog 33 (.pointer (some (a19.add 1))) w (.int .i64 n21) ∧
  cond (n21 == 0)
  (∃ a26, p0 = some a26 ∧
    ∃ p28 l28 c28, Ld Tryz.prog 25 (.pointer (some (a26.add 0))) w (.slice p28 l28 c28) ∧
    ref09_Reader_Bytes_j2 p0 n1 p4 l4 c4 (decide (n1 > ((l28 : Nat) : Int))) w Q)
  (ref09_Reader_Bytes_j2 p0 n1 p4 l4 c4 false w Q)
def ref09_Reader_Bytes_j4 (p0 : Option Addr) (n1 : Int) (p4 : Option Addr) (l4 : Nat) (c4 : Nat) (b14 : Bool) (w : World) (Q : Value → World → Prop) : Prop :=
  cond b14
  (∃ a16, p0 = some a16 ∧
    ∃ w1, Sto Tryz.prog 33 (.pointer (some (a16.add 1))) (.int .i64 11) w w1 ∧
    ref09_Reader_Bytes_j3 p0 n1 p4 l4 c4 w1 Q)
  (ref09_Reader_Bytes_j3 p0 n1 p4 l4 c4 w Q)
def ref09_Reader_Bytes (p0 : Option Addr) (n1 : Int) (w : World) (Q : Value → World → Prop) : Prop :=
  ∃ a7, p0 = some a7 ∧
  ∃ n9, Ld Tryz.prog 33 (.pointer (some (a7.add 1))) w (.int .i64 n9) ∧
  cond (n9 == 0)
  (ref09_Reader_Bytes_j4 p0 n1 none 0 0 (decide (n1 < 0)) w Q)
  (ref09_Reader_Bytes_j4 p0 n1 none 0 0 false w Q)
def ref09_Reader_Bytes_tt : Nat → List (Nat × TypeId) := fun _ => []
theorem ref09_Reader_Bytes_call (p0 : Option Addr) (n1 : Int) (w : World) (Q : Value → World → Prop) (h : ref09_Reader_Bytes p0 n1 w Q) : callF Tryz.prog 209 #[.pointer p0, .int .i64 n1] w Q :=
  callBy ref09_Reader_Bytes_tt Tryz.func209 h (fun _ _ => by kernel_rfl) (by kernel_rfl) (by kernel_rfl) (by kernel_rfl)

def ref09_Reader_counted_j1 (p0 : Option Addr) (p1 : Option Addr) (l1 : Nat) (c1 : Nat) (n2 : Int) (p6 : Option Addr) (l6 : Nat) (c6 : Nat) (w : World) (Q : Value → World → Prop) : Prop :=
  ∃ a26, p0 = some a26 ∧
  ∃ n28, Ld Tryz.prog 33 (.pointer (some (a26.add 1))) w (.int .i64 n28) ∧
  cond (n28 != 0)
  (∃ a32, p0 = some a32 ∧
    ∃ w1, Sto Tryz.prog 25 (.pointer (some (a32.add 0))) (.slice p1 l1 c1) w w1 ∧
    Q (.slice none 0 0) w1)
  (callF Tryz.prog 209 #[.pointer p0, .int .i64 (IntKind.i64.wrap n2)] w fun r37 w2 =>
    ∃ p37 l37 c37, r37 = .slice p37 l37 c37 ∧
    Q (.slice p37 l37 c37) w2)
def ref09_Reader_counted_j2 (p0 : Option Addr) (p1 : Option Addr) (l1 : Nat) (c1 : Nat) (n2 : Int) (p6 : Option Addr) (l6 : Nat) (c6 : Nat) (b21 : Bool) (w : World) (Q : Value → World → Prop) : Prop :=
  cond b21
  (∃ a23, p0 = some a23 ∧
    ∃ w1, Sto Tryz.prog 33 (.pointer (some (a23.add 1))) (.int .i64 12) w w1 ∧
    ref09_Reader_counted_j1 p0 p1 l1 c1 n2 p6 l6 c6 w1 Q)
  (ref09_Reader_counted_j1 p0 p1 l1 c1 n2 p6 l6 c6 w Q)
def ref09_Reader_counted (p0 : Option Addr) (p1 : Option Addr) (l1 : Nat) (c1 : Nat) (n2 : Int) (w : World) (Q : Value → World → Prop) : Prop :=
  ∃ a8, p0 = some a8 ∧
  ∃ n10, Ld Tryz.prog 33 (.pointer (some (a8.add 1))) w (.int .i64 n10) ∧
  cond (n10 == 0)
  (∃ a15, p0 = some a15 ∧
    ∃ p17 l17 c17, Ld Tryz.prog 25 (.pointer (some (a15.add 0))) w (.slice p17 l17 c17) ∧
    ref09_Reader_counted_j2 p0 p1 l1 c1 n2 none 0 0 (decide (n2 > (IntKind.u64.wrap ((l17 : Nat) : Int)))) w Q)
  (ref09_Reader_counted_j2 p0 p1 l1 c1 n2 none 0 0 false w Q)
def ref09_Reader_counted_tt : Nat → List (Nat × TypeId) := fun _ => []
theorem ref09_Reader_counted_call (p0 : Option Addr) (p1 : Option Addr) (l1 : Nat) (c1 : Nat) (n2 : Int) (w : World) (Q : Value → World → Prop) (h : ref09_Reader_counted p0 p1 l1 c1 n2 w Q) : callF Tryz.prog 210 #[.pointer p0, .slice p1 l1 c1, .int .u64 n2] w Q :=
  callBy ref09_Reader_counted_tt Tryz.func210 h (fun _ _ => by kernel_rfl) (by kernel_rfl) (by kernel_rfl) (by kernel_rfl)
end Go.Sh
end

section
namespace Go.Sh
open Go Go.Fw Go.Proofs
set_option maxRecDepth 100000
set_option linter.unusedVariables false

def bytes_Equal (p0 : Option Addr) (l0 : Nat) (c0 : Nat) (p1 : Option Addr) (l1 : Nat) (c1 : Nat) (w : World) (Q : Value → World → Prop) : Prop :=
  ∃ s6 w1, Ef Tryz.prog (convert 25 9 (.slice p0 l0 c0)) w (.string s6) w1 ∧
  ∃ s8 w2, Ef Tryz.prog (convert 25 9 (.slice p1 l1 c1)) w1 (.string s8) w2 ∧
  ∃ b9 w3, Ef Tryz.prog (do eqGuard .eql 9 (.tmp 6) (.tmp 8) (.string s6) (.string s8); binOp .eql 9 (.string s6) (.string s8) : Sem Value) w2 (.bool b9) w3 ∧
  Q (.bool b9) w3
def bytes_Equal_tt : Nat → List (Nat × TypeId) := fun _ => []
theorem bytes_Equal_call (p0 : Option Addr) (l0 : Nat) (c0 : Nat) (p1 : Option Addr) (l1 : Nat) (c1 : Nat) (w : World) (Q : Value → World → Prop) (h : bytes_Equal p0 l0 c0 p1 l1 c1 w Q) : callF Tryz.prog 148 #[.slice p0 l0 c0, .slice p1 l1 c1] w Q :=
  callBy bytes_Equal_tt Tryz.func148 h (fun _ _ => by kernel_rfl) (by kernel_rfl) (by kernel_rfl) (by kernel_rfl)
end Go.Sh
end

section
namespace Go.Sh
open Go Go.Fw Go.Proofs
set_option maxRecDepth 100000
set_option linter.unusedVariables false

def token_Text (n0 : Int) (p0 : Option Addr) (l0 : Nat) (c0 : Nat) (p0_1 : Option Addr) (l0_1 : Nat) (c0_1 : Nat) (w : World) (Q : Value → World → Prop) : Prop :=
  New #[.int .u64 n0, .slice p0 l0 c0, .slice p0_1 l0_1 c0_1] 90 w fun k1 w1 =>
  ∃ n4 p4 l4 c4 p4_1 l4_1 c4_1, Ld Tryz.prog 90 (.pointer (some (⟨k1, 0, none⟩ : Addr))) w1 (.agg #[.int .u64 n4, .slice p4 l4 c4, .slice p4_1 l4_1 c4_1]) ∧
  callF Tryz.prog 139 #[.agg #[.int .u64 n4, .slice p4 l4 c4, .slice p4_1 l4_1 c4_1]] w1 fun r5 w2 =>
  ∃ b5, r5 = .bool b5 ∧
  cond b5
  (Q (.tuple #[.slice none 0 0, .int .i64 15]) w2)
  (∃ (S3 : World → Prop),
    Drw w2 fun w3 =>
    ∃ n8, HLd Tryz.prog S3 88 (.pointer (some ((⟨k1, 0, none⟩ : Addr).add 0))) w3 (.int .u64 n8) ∧
    ∃ p11 l11 c11, HLd Tryz.prog S3 25 (.pointer (some ((⟨k1, 0, none⟩ : Addr).add 1))) w3 (.slice p11 l11 c11) ∧
    ∃ p14 l14 c14, HLd Tryz.prog S3 25 (.pointer (some ((⟨k1, 0, none⟩ : Addr).add 2))) w3 (.slice p14 l14 c14) ∧
    callF Tryz.prog 122 #[] w3 fun r6 w4 =>
    ∃ p6, r6 = .pointer p6 ∧
    (w4 = w3 ∨ S3 w4) ∧
    callF Tryz.prog 140 #[.pointer p6, .int .u64 n8, .int .i64 8] w4 fun r9 w5 =>
    ∃ p9, r9 = .pointer p9 ∧
    (w5 = w4 ∨ S3 w5) ∧
    callF Tryz.prog 123 #[.pointer p9, .slice p11 l11 c11] w5 fun r12 w6 =>
    ∃ p12, r12 = .pointer p12 ∧
    (w6 = w5 ∨ S3 w6) ∧
    callF Tryz.prog 123 #[.pointer p12, .slice p14 l14 c14] w6 fun r15 w7 =>
    ∃ p15, r15 = .pointer p15 ∧
    callF Tryz.prog 125 #[.pointer p15] w7 fun r16 w8 =>
    ∃ p16 l16 c16 n16, r16 = .tuple #[.slice p16 l16 c16, .int .i64 n16] ∧
    Q (.tuple #[.slice p16 l16 c16, .int .i64 n16]) w8)
def token_Text_tt : Nat → List (Nat × TypeId) := fun _ => []
theorem token_Text_call (n0 : Int) (p0 : Option Addr) (l0 : Nat) (c0 : Nat) (p0_1 : Option Addr) (l0_1 : Nat) (c0_1 : Nat) (w : World) (Q : Value → World → Prop) (h : token_Text n0 p0 l0 c0 p0_1 l0_1 c0_1 w Q) : callF Tryz.prog 59 #[.agg #[.int .u64 n0, .slice p0 l0 c0, .slice p0_1 l0_1 c0_1]] w Q :=
  callBy token_Text_tt Tryz.func59 h (fun _ _ => by kernel_rfl) (by kernel_rfl) (by kernel_rfl) (by kernel_rfl)

def token_Untext (p0 : Option Addr) (l0 : Nat) (c0 : Nat) (w : World) (Q : Value → World → Prop) : Prop :=
  ∃ z2, Pu Tryz.prog (zeroValue 90) z2 ∧
  New z2.cells 90 w fun k2 w1 =>
  callF Tryz.prog 129 #[.slice p0 l0 c0] w1 fun r8 w2 =>
  ∃ p8, r8 = .pointer p8 ∧
  callF Tryz.prog 142 #[.pointer p8, .int .i64 8] w2 fun r10 w3 =>
  ∃ n10, r10 = .int .u64 n10 ∧
  callF Tryz.prog 143 #[.pointer p8] w3 fun r12 w4 =>
  ∃ p12 l12 c12, r12 = .slice p12 l12 c12 ∧
  callF Tryz.prog 143 #[.pointer p8] w4 fun r14 w5 =>
  ∃ p14 l14 c14, r14 = .slice p14 l14 c14 ∧
  ∃ z5, Pu Tryz.prog (zeroValue 90) z5 ∧
  New z5.cells 90 w5 fun k5 w6 =>
  ∃ w7, Sto Tryz.prog 90 (.pointer (some (⟨k5, 0, none⟩ : Addr))) (.agg #[.int .u64 n10, .slice p12 l12 c12, .slice p14 l14 c14]) w6 w7 ∧
  callF Tryz.prog 144 #[.pointer p8] w7 fun r17 w8 =>
  ∃ n17, r17 = .int .i64 n17 ∧
  cond (n17 != 0)
  (∃ w9, Sto Tryz.prog 90 (.pointer (some (⟨k2, 0, none⟩ : Addr))) (.agg #[.int .u64 0, .slice none 0 0, .slice none 0 0]) w8 w9 ∧
    ∃ a2 v2, (.pointer (some (⟨k2, 0, none⟩ : Addr)) : Value) = .pointer (some a2) ∧ (loadVar 90 a2).run Tryz.prog w9 = .ok v2 w9 ∧
    Q (.tuple #[v2, .int .i64 n17]) w9)
  (∃ n22 p22 l22 c22 p22_1 l22_1 c22_1, Ld Tryz.prog 90 (.pointer (some (⟨k5, 0, none⟩ : Addr))) w8 (.agg #[.int .u64 n22, .slice p22 l22 c22, .slice p22_1 l22_1 c22_1]) ∧
    callF Tryz.prog 139 #[.agg #[.int .u64 n22, .slice p22 l22 c22, .slice p22_1 l22_1 c22_1]] w8 fun r23 w10 =>
    ∃ b23, r23 = .bool b23 ∧
    cond b23
    (∃ w11, Sto Tryz.prog 90 (.pointer (some (⟨k2, 0, none⟩ : Addr))) (.agg #[.int .u64 0, .slice none 0 0, .slice none 0 0]) w10 w11 ∧
      ∃ a2_1 v2_1, (.pointer (some (⟨k2, 0, none⟩ : Addr)) : Value) = .pointer (some a2_1) ∧ (loadVar 90 a2_1).run Tryz.prog w11 = .ok v2_1 w11 ∧
      Q (.tuple #[v2_1, .int .i64 10]) w11)
    (∃ n25 p25 l25 c25 p25_1 l25_1 c25_1, Ld Tryz.prog 90 (.pointer (some (⟨k5, 0, none⟩ : Addr))) w10 (.agg #[.int .u64 n25, .slice p25 l25 c25, .slice p25_1 l25_1 c25_1]) ∧
      ∃ w12, Sto Tryz.prog 90 (.pointer (some (⟨k2, 0, none⟩ : Addr))) (.agg #[.int .u64 n25, .slice p25 l25 c25, .slice p25_1 l25_1 c25_1]) w10 w12 ∧
      ∃ a2_2 v2_2, (.pointer (some (⟨k2, 0, none⟩ : Addr)) : Value) = .pointer (some a2_2) ∧ (loadVar 90 a2_2).run Tryz.prog w12 = .ok v2_2 w12 ∧
      Q (.tuple #[v2_2, .int .i64 0]) w12))
def token_Untext_tt : Nat → List (Nat × TypeId) := fun _ => []
theorem token_Untext_call (p0 : Option Addr) (l0 : Nat) (c0 : Nat) (w : World) (Q : Value → World → Prop) (h : token_Untext p0 l0 c0 w Q) : callF Tryz.prog 62 #[.slice p0 l0 c0] w Q :=
  callBy token_Untext_tt Tryz.func62 h (fun _ _ => by kernel_rfl) (by kernel_rfl) (by kernel_rfl) (by kernel_rfl)

def token_Seq_j1 (p0 : Option Addr) (l0 : Nat) (c0 : Nat) (n2 : Int) (b3 : Bool) (w : World) (Q : Value → World → Prop) : Prop :=
  ∃ a14, IxA Tryz.prog 25 (.slice p0 l0 c0) (.int .i64 0) a14 ∧
  ∃ n15, Ld Tryz.prog 5 (.pointer (some a14)) w (.int .u8 n15) ∧
  Q (.tuple #[.int .i64 (IntKind.i64.wrap n15), .bool true]) w
def token_Seq (p0 : Option Addr) (l0 : Nat) (c0 : Nat) (w : World) (Q : Value → World → Prop) : Prop :=
  cond (((l0 : Nat) : Int) == 0)
  (Q (.tuple #[.int .i64 0, .bool false]) w)
  (∃ a9, IxA Tryz.prog 25 (.slice p0 l0 c0) (.int .i64 0) a9 ∧
    ∃ n10, Ld Tryz.prog 5 (.pointer (some a9)) w (.int .u8 n10) ∧
    cond (decide (n10 > 127))
    (Q (.tuple #[.int .i64 0, .bool false]) w)
    (token_Seq_j1 p0 l0 c0 0 false w Q))
def token_Seq_tt : Nat → List (Nat × TypeId) := fun _ => []
theorem token_Seq_call (p0 : Option Addr) (l0 : Nat) (c0 : Nat) (w : World) (Q : Value → World → Prop) (h : token_Seq p0 l0 c0 w Q) : callF Tryz.prog 65 #[.slice p0 l0 c0] w Q :=
  callBy token_Seq_tt Tryz.func65 h (fun _ _ => by kernel_rfl) (by kernel_rfl) (by kernel_rfl) (by kernel_rfl)

def token_Same (n0 : Int) (p0 : Option Addr) (l0 : Nat) (c0 : Nat) (p0_1 : Option Addr) (l0_1 : Nat) (c0_1 : Nat) (n1 : Int) (p1 : Option Addr) (l1 : Nat) (c1 : Nat) (p1_1 : Option Addr) (l1_1 : Nat) (c1_1 : Nat) (w : World) (Q : Value → World → Prop) : Prop :=
  New #[.int .u64 n0, .slice p0 l0 c0, .slice p0_1 l0_1 c0_1] 90 w fun k2 w1 =>
  New #[.int .u64 n1, .slice p1 l1 c1, .slice p1_1 l1_1 c1_1] 90 w1 fun k3 w2 =>
  ∃ n6, Ld Tryz.prog 88 (.pointer (some ((⟨k2, 0, none⟩ : Addr).add 0))) w2 (.int .u64 n6) ∧
  ∃ n8, Ld Tryz.prog 88 (.pointer (some ((⟨k3, 0, none⟩ : Addr).add 0))) w2 (.int .u64 n8) ∧
  cond (n6 == n8)
  (∃ p12 l12 c12, Ld Tryz.prog 25 (.pointer (some ((⟨k2, 0, none⟩ : Addr).add 1))) w2 (.slice p12 l12 c12) ∧
    ∃ p14 l14 c14, Ld Tryz.prog 25 (.pointer (some ((⟨k3, 0, none⟩ : Addr).add 1))) w2 (.slice p14 l14 c14) ∧
    callF Tryz.prog 148 #[.slice p12 l12 c12, .slice p14 l14 c14] w2 fun r15 w3 =>
    ∃ b15, r15 = .bool b15 ∧
    cond b15
    (∃ p19 l19 c19, Ld Tryz.prog 25 (.pointer (some ((⟨k2, 0, none⟩ : Addr).add 2))) w3 (.slice p19 l19 c19) ∧
      ∃ p21 l21 c21, Ld Tryz.prog 25 (.pointer (some ((⟨k3, 0, none⟩ : Addr).add 2))) w3 (.slice p21 l21 c21) ∧
      callF Tryz.prog 148 #[.slice p19 l19 c19, .slice p21 l21 c21] w3 fun r22 w4 =>
      ∃ b22, r22 = .bool b22 ∧
      Q (.bool b22) w4)
    (Q (.bool false) w3))
  (Q (.bool false) w2)
def token_Same_tt : Nat → List (Nat × TypeId) := fun _ => []
theorem token_Same_call (n0 : Int) (p0 : Option Addr) (l0 : Nat) (c0 : Nat) (p0_1 : Option Addr) (l0_1 : Nat) (c0_1 : Nat) (n1 : Int) (p1 : Option Addr) (l1 : Nat) (c1 : Nat) (p1_1 : Option Addr) (l1_1 : Nat) (c1_1 : Nat) (w : World) (Q : Value → World → Prop) (h : token_Same n0 p0 l0 c0 p0_1 l0_1 c0_1 n1 p1 l1 c1 p1_1 l1_1 c1_1 w Q) : callF Tryz.prog 66 #[.agg #[.int .u64 n0, .slice p0 l0 c0, .slice p0_1 l0_1 c0_1], .agg #[.int .u64 n1, .slice p1 l1 c1, .slice p1_1 l1_1 c1_1]] w Q :=
  callBy token_Same_tt Tryz.func66 h (fun _ _ => by kernel_rfl) (by kernel_rfl) (by kernel_rfl) (by kernel_rfl)

def token_Seal_j1 (n1 : Int) (p2 : Option Addr) (l2 : Nat) (c2 : Nat) (p3 : Option Addr) (l3 : Nat) (c3 : Nat) (a9 : Addr) (p10 : Option Addr) (l10 : Nat) (c10 : Nat) (n11 : Int) (p12 : Option Addr) (w : World) (Q : Value → World → Prop) : Prop :=
  ∃ n37 p37 l37 c37 p37_1 l37_1 c37_1, Ld Tryz.prog 90 (.pointer (some a9)) w (.agg #[.int .u64 n37, .slice p37 l37 c37, .slice p37_1 l37_1 c37_1]) ∧
  callF Tryz.prog 59 #[.agg #[.int .u64 n37, .slice p37 l37 c37, .slice p37_1 l37_1 c37_1]] w fun r38 w1 =>
  ∃ p38 l38 c38 n38, r38 = .tuple #[.slice p38 l38 c38, .int .i64 n38] ∧
  cond (n38 != 0)
  (Q (.tuple #[.slice none 0 0, .int .i64 n38]) w1)
  (callF Tryz.prog 150 #[.int .i64 n1, .slice p3 l3 c3] w1 fun r50 w2 =>
    ∃ p50 l50 c50, r50 = .slice p50 l50 c50 ∧
    callF Tryz.prog 126 #[.pointer p12, .slice p2 l2 c2, .slice p38 l38 c38, .slice p50 l50 c50] w2 fun r51 w3 =>
    ∃ p51 l51 c51 n51, r51 = .tuple #[.slice p51 l51 c51, .int .i64 n51] ∧
    ∃ p56 l56 c56 w4, Ef Tryz.prog (Instr.buildSlice 25 1 #[(0, .int .u8 (IntKind.u8.wrap n1))]) w3 (.slice p56 l56 c56) w4 ∧
    ∃ p59 l59 c59 w5, Ef Tryz.prog (Instr.buildSlice 45 3 #[(0, .slice p56 l56 c56), (1, .slice p2 l2 c2), (2, .slice p51 l51 c51)]) w4 (.slice p59 l59 c59) w5 ∧
    callF Tryz.prog 112 #[.slice p59 l59 c59] w5 fun r60 w6 =>
    ∃ p60 l60 c60, r60 = .slice p60 l60 c60 ∧
    Q (.tuple #[.slice p60 l60 c60, .int .i64 0]) w6)
def token_Seal (p0 : Option Addr) (n1 : Int) (p2 : Option Addr) (l2 : Nat) (c2 : Nat) (p3 : Option Addr) (l3 : Nat) (c3 : Nat) (n4 : Int) (p4 : Option Addr) (l4 : Nat) (c4 : Nat) (p4_1 : Option Addr) (l4_1 : Nat) (c4_1 : Nat) (w : World) (Q : Value → World → Prop) : Prop :=
  New #[.int .u64 n4, .slice p4 l4 c4, .slice p4_1 l4_1 c4_1] 90 w fun k9 w1 =>
  callF Tryz.prog 149 #[.pointer p0, .int .i64 n1] w1 fun r21 w2 =>
  ∃ p21 b21, r21 = .tuple #[.pointer p21, .bool b21] ∧
  cond (!b21)
  (Q (.tuple #[.slice none 0 0, .int .i64 17]) w2)
  (cond (((l2 : Nat) : Int) != 12)
    (Q (.tuple #[.slice none 0 0, .int .i64 11]) w2)
    (cond (decide (((l3 : Nat) : Int) > 64))
      (Q (.tuple #[.slice none 0 0, .int .i64 11]) w2)
      (token_Seal_j1 n1 p2 l2 c2 p3 l3 c3 (⟨k9, 0, none⟩ : Addr) none 0 0 0 p21 w2 Q)))
def token_Seal_tt : Nat → List (Nat × TypeId) := fun _ => []
theorem token_Seal_call (p0 : Option Addr) (n1 : Int) (p2 : Option Addr) (l2 : Nat) (c2 : Nat) (p3 : Option Addr) (l3 : Nat) (c3 : Nat) (n4 : Int) (p4 : Option Addr) (l4 : Nat) (c4 : Nat) (p4_1 : Option Addr) (l4_1 : Nat) (c4_1 : Nat) (w : World) (Q : Value → World → Prop) (h : token_Seal p0 n1 p2 l2 c2 p3 l3 c3 n4 p4 l4 c4 p4_1 l4_1 c4_1 w Q) : callF Tryz.prog 69 #[.pointer p0, .int .i64 n1, .slice p2 l2 c2, .slice p3 l3 c3, .agg #[.int .u64 n4, .slice p4 l4 c4, .slice p4_1 l4_1 c4_1]] w Q :=
  callBy token_Seal_tt Tryz.func69 h (fun _ _ => by kernel_rfl) (by kernel_rfl) (by kernel_rfl) (by kernel_rfl)

def token_Open_j1 (a8 : Addr) (n9 : Int) (a12 : Addr) (w : World) (Q : Value → World → Prop) : Prop :=
  ∃ n40 p40 l40 c40 p40_1 l40_1 c40_1, Ld Tryz.prog 90 (.pointer (some a12)) w (.agg #[.int .u64 n40, .slice p40 l40 c40, .slice p40_1 l40_1 c40_1]) ∧
  ∃ w1, Sto Tryz.prog 90 (.pointer (some a8)) (.agg #[.int .u64 n40, .slice p40 l40 c40, .slice p40_1 l40_1 c40_1]) w w1 ∧
  ∃ a8_1 v8, (.pointer (some a8) : Value) = .pointer (some a8_1) ∧ (loadVar 90 a8_1).run Tryz.prog w1 = .ok v8 w1 ∧
  Q (.tuple #[v8, .int .i64 0]) w1
def token_Open (p0 : Option Addr) (p1 : Option Addr) (l1 : Nat) (c1 : Nat) (p2 : Option Addr) (l2 : Nat) (c2 : Nat) (n3 : Int) (w : World) (Q : Value → World → Prop) : Prop :=
  ∃ z8, Pu Tryz.prog (zeroValue 90) z8 ∧
  New z8.cells 90 w fun k8 w1 =>
  callF Tryz.prog 153 #[.pointer p0, .slice p1 l1 c1, .slice p2 l2 c2] w1 fun r17 w2 =>
  ∃ p17 l17 c17 n17, r17 = .tuple #[.slice p17 l17 c17, .int .i64 n17] ∧
  cond (n17 != 0)
  (∃ w3, Sto Tryz.prog 90 (.pointer (some (⟨k8, 0, none⟩ : Addr))) (.agg #[.int .u64 0, .slice none 0 0, .slice none 0 0]) w2 w3 ∧
    ∃ a8 v8, (.pointer (some (⟨k8, 0, none⟩ : Addr)) : Value) = .pointer (some a8) ∧ (loadVar 90 a8).run Tryz.prog w3 = .ok v8 w3 ∧
    Q (.tuple #[v8, .int .i64 n17]) w3)
  (callF Tryz.prog 62 #[.slice p17 l17 c17] w2 fun r26 w4 =>
    ∃ n26 p26 l26 c26 p26_1 l26_1 c26_1 n26_1, r26 = .tuple #[.agg #[.int .u64 n26, .slice p26 l26 c26, .slice p26_1 l26_1 c26_1], .int .i64 n26_1] ∧
    ∃ z12, Pu Tryz.prog (zeroValue 90) z12 ∧
    New z12.cells 90 w4 fun k12 w5 =>
    ∃ w6, Sto Tryz.prog 90 (.pointer (some (⟨k12, 0, none⟩ : Addr))) (.agg #[.int .u64 n26, .slice p26 l26 c26, .slice p26_1 l26_1 c26_1]) w5 w6 ∧
    cond (n26_1 != 0)
    (∃ w7, Sto Tryz.prog 90 (.pointer (some (⟨k8, 0, none⟩ : Addr))) (.agg #[.int .u64 0, .slice none 0 0, .slice none 0 0]) w6 w7 ∧
      ∃ a8_1 v8_1, (.pointer (some (⟨k8, 0, none⟩ : Addr)) : Value) = .pointer (some a8_1) ∧ (loadVar 90 a8_1).run Tryz.prog w7 = .ok v8_1 w7 ∧
      Q (.tuple #[v8_1, .int .i64 n26_1]) w7)
    (∃ n36, Ld Tryz.prog 88 (.pointer (some ((⟨k12, 0, none⟩ : Addr).add 0))) w6 (.int .u64 n36) ∧
      cond (decide (n36 < n3))
      (∃ w8, Sto Tryz.prog 90 (.pointer (some (⟨k8, 0, none⟩ : Addr))) (.agg #[.int .u64 0, .slice none 0 0, .slice none 0 0]) w6 w8 ∧
        ∃ a8_2 v8_2, (.pointer (some (⟨k8, 0, none⟩ : Addr)) : Value) = .pointer (some a8_2) ∧ (loadVar 90 a8_2).run Tryz.prog w8 = .ok v8_2 w8 ∧
        Q (.tuple #[v8_2, .int .i64 20]) w8)
      (token_Open_j1 (⟨k8, 0, none⟩ : Addr) 0 (⟨k12, 0, none⟩ : Addr) w6 Q)))
def token_Open_tt : Nat → List (Nat × TypeId) := fun _ => []
theorem token_Open_call (p0 : Option Addr) (p1 : Option Addr) (l1 : Nat) (c1 : Nat) (p2 : Option Addr) (l2 : Nat) (c2 : Nat) (n3 : Int) (w : World) (Q : Value → World → Prop) (h : token_Open p0 p1 l1 c1 p2 l2 c2 n3 w Q) : callF Tryz.prog 71 #[.pointer p0, .slice p1 l1 c1, .slice p2 l2 c2, .int .u64 n3] w Q :=
  callBy token_Open_tt Tryz.func71 h (fun _ _ => by kernel_rfl) (by kernel_rfl) (by kernel_rfl) (by kernel_rfl)

def token_Fields_long (n0 : Int) (p0 : Option Addr) (l0 : Nat) (c0 : Nat) (p0_1 : Option Addr) (l0_1 : Nat) (c0_1 : Nat) (w : World) (Q : Value → World → Prop) : Prop :=
  New #[.int .u64 n0, .slice p0 l0 c0, .slice p0_1 l0_1 c0_1] 90 w fun k1 w1 =>
  ∃ p4 l4 c4, Ld Tryz.prog 25 (.pointer (some ((⟨k1, 0, none⟩ : Addr).add 1))) w1 (.slice p4 l4 c4) ∧
  ∃ p7 l7 c7, Ld Tryz.prog 25 (.pointer (some ((⟨k1, 0, none⟩ : Addr).add 2))) w1 (.slice p7 l7 c7) ∧
  ∃ n9, Pu Tryz.prog (Builtin.max_ #[3, 3] 3 #[.int .i64 ((l4 : Nat) : Int), .int .i64 ((l7 : Nat) : Int)]) (.int .i64 n9) ∧
  Q (.bool (decide (n9 > 20))) w1
def token_Fields_long_tt : Nat → List (Nat × TypeId) := fun _ => []
theorem token_Fields_long_call (n0 : Int) (p0 : Option Addr) (l0 : Nat) (c0 : Nat) (p0_1 : Option Addr) (l0_1 : Nat) (c0_1 : Nat) (w : World) (Q : Value → World → Prop) (h : token_Fields_long n0 p0 l0 c0 p0_1 l0_1 c0_1 w Q) : callF Tryz.prog 139 #[.agg #[.int .u64 n0, .slice p0 l0 c0, .slice p0_1 l0_1 c0_1]] w Q :=
  callBy token_Fields_long_tt Tryz.func139 h (fun _ _ => by kernel_rfl) (by kernel_rfl) (by kernel_rfl) (by kernel_rfl)

def token_note (n0 : Int) (p1 : Option Addr) (l1 : Nat) (c1 : Nat) (w : World) (Q : Value → World → Prop) : Prop :=
  ∃ p7 l7 c7 w1, Ef Tryz.prog (Instr.buildSlice 25 1 #[(0, .int .u8 (IntKind.u8.wrap n0))]) w (.slice p7 l7 c7) w1 ∧
  ∃ p9 l9 c9 w2, Ef Tryz.prog (Instr.buildSlice 45 2 #[(0, .slice p7 l7 c7), (1, .slice p1 l1 c1)]) w1 (.slice p9 l9 c9) w2 ∧
  callF Tryz.prog 112 #[.slice p9 l9 c9] w2 fun r10 w3 =>
  ∃ p10 l10 c10, r10 = .slice p10 l10 c10 ∧
  Q (.slice p10 l10 c10) w3
def token_note_tt : Nat → List (Nat × TypeId) := fun _ => []
theorem token_note_call (n0 : Int) (p1 : Option Addr) (l1 : Nat) (c1 : Nat) (w : World) (Q : Value → World → Prop) (h : token_note n0 p1 l1 c1 w Q) : callF Tryz.prog 150 #[.int .i64 n0, .slice p1 l1 c1] w Q :=
  callBy token_note_tt Tryz.func150 h (fun _ _ => by kernel_rfl) (by kernel_rfl) (by kernel_rfl) (by kernel_rfl)

def token_unseal_j1 (p1 : Option Addr) (l1 : Nat) (c1 : Nat) (p2 : Option Addr) (l2 : Nat) (c2 : Nat) (p6 : Option Addr) (l6 : Nat) (c6 : Nat) (n7 : Int) (n8 : Int) (p9 : Option Addr) (w : World) (Q : Value → World → Prop) : Prop :=
  Drw w fun w1 =>
  ∃ p41 l41 c41, Pu Tryz.prog (Instr.sliceAt 25 (.slice p2 l2 c2) (some (.int .i64 1)) (some (.int .i64 13)) none) (.slice p41 l41 c41) ∧
  ∃ p43 l43 c43, Pu Tryz.prog (Instr.sliceAt 25 (.slice p2 l2 c2) (some (.int .i64 13)) none none) (.slice p43 l43 c43) ∧
  callF Tryz.prog 150 #[.int .i64 n8, .slice p1 l1 c1] w1 fun r46 w2 =>
  ∃ p46 l46 c46, r46 = .slice p46 l46 c46 ∧
  callF Tryz.prog 211 #[.pointer p9, .slice p41 l41 c41, .slice p43 l43 c43, .slice p46 l46 c46] w2 fun r47 w3 =>
  ∃ p47 l47 c47 n47, r47 = .tuple #[.slice p47 l47 c47, .int .i64 n47] ∧
  cond (n47 != 0)
  (Q (.tuple #[.slice none 0 0, .int .i64 13]) w3)
  (Q (.tuple #[.slice p47 l47 c47, .int .i64 0]) w3)
def token_unseal (p0 : Option Addr) (p1 : Option Addr) (l1 : Nat) (c1 : Nat) (p2 : Option Addr) (l2 : Nat) (c2 : Nat) (w : World) (Q : Value → World → Prop) : Prop :=
  cond (decide (((l2 : Nat) : Int) < 29))
  (Q (.tuple #[.slice none 0 0, .int .i64 12]) w)
  (∃ a17, IxA Tryz.prog 25 (.slice p2 l2 c2) (.int .i64 0) a17 ∧
    ∃ n18, Ld Tryz.prog 5 (.pointer (some a17)) w (.int .u8 n18) ∧
    callF Tryz.prog 149 #[.pointer p0, .int .i64 (IntKind.i64.wrap n18)] w fun r23 w1 =>
    ∃ p23 b23, r23 = .tuple #[.pointer p23, .bool b23] ∧
    cond (!b23)
    (Q (.tuple #[.slice none 0 0, .int .i64 17]) w1)
    (cond (decide (((l1 : Nat) : Int) > 64))
      (Q (.tuple #[.slice none 0 0, .int .i64 13]) w1)
      (cond (decide (((l2 : Nat) : Int) > 4096))
        (Q (.tuple #[.slice none 0 0, .int .i64 13]) w1)
        (token_unseal_j1 p1 l1 c1 p2 l2 c2 none 0 0 0 (IntKind.i64.wrap n18) p23 w1 Q))))
def token_unseal_tt : Nat → List (Nat × TypeId) := fun _ => []
theorem token_unseal_call (p0 : Option Addr) (p1 : Option Addr) (l1 : Nat) (c1 : Nat) (p2 : Option Addr) (l2 : Nat) (c2 : Nat) (w : World) (Q : Value → World → Prop) (h : token_unseal p0 p1 l1 c1 p2 l2 c2 w Q) : callF Tryz.prog 153 #[.pointer p0, .slice p1 l1 c1, .slice p2 l2 c2] w Q :=
  callBy token_unseal_tt Tryz.func153 h (fun _ _ => by kernel_rfl) (by kernel_rfl) (by kernel_rfl) (by kernel_rfl)
end Go.Sh
end

section
namespace Go.Sh
open Go Go.Fw Go.Proofs
set_option maxRecDepth 100000
set_option linter.unusedVariables false

def ref20_Text_j1 (a1 : Addr) (p2 : Option Addr) (l2 : Nat) (c2 : Nat) (n3 : Int) (w : World) (Q : Value → World → Prop) : Prop :=
  ∃ n18, Ld Tryz.prog 88 (.pointer (some (a1.add 0))) w (.int .u64 n18) ∧
  callF Tryz.prog 141 #[.int .u64 n18, .int .i64 8] w fun r19 w1 =>
  ∃ p19 l19 c19 n19, r19 = .tuple #[.slice p19 l19 c19, .int .i64 n19] ∧
  ∃ (S4 : World → Prop),
  Drw w1 fun w2 =>
  ∃ p24 l24 c24, HLd Tryz.prog S4 25 (.pointer (some (a1.add 1))) w2 (.slice p24 l24 c24) ∧
  ∃ p30 l30 c30, HLd Tryz.prog S4 25 (.pointer (some (a1.add 1))) w2 (.slice p30 l30 c30) ∧
  ∃ p27 l27 c27 w3, Ef Tryz.prog (Instr.buildSlice 25 1 #[(0, .int .u8 (IntKind.u8.wrap ((l24 : Nat) : Int)))]) w2 (.slice p27 l27 c27) w3 ∧
  (w3 = w2 ∨ S4 w3) ∧
  ∃ p28 l28 c28 w4, Ef Tryz.prog (Builtin.append_ #[25, 25] 25 #[.slice p19 l19 c19, .slice p27 l27 c27]) w3 (.slice p28 l28 c28) w4 ∧
  (w4 = w3 ∨ S4 w4) ∧
  ∃ p31 l31 c31 w5, Ef Tryz.prog (Builtin.append_ #[25, 25] 25 #[.slice p28 l28 c28, .slice p30 l30 c30]) w4 (.slice p31 l31 c31) w5 ∧
  ∃ (S5 : World → Prop),
  Drw w5 fun w6 =>
  ∃ p34 l34 c34, HLd Tryz.prog S5 25 (.pointer (some (a1.add 2))) w6 (.slice p34 l34 c34) ∧
  ∃ p40 l40 c40, HLd Tryz.prog S5 25 (.pointer (some (a1.add 2))) w6 (.slice p40 l40 c40) ∧
  ∃ p37 l37 c37 w7, Ef Tryz.prog (Instr.buildSlice 25 1 #[(0, .int .u8 (IntKind.u8.wrap ((l34 : Nat) : Int)))]) w6 (.slice p37 l37 c37) w7 ∧
  (w7 = w6 ∨ S5 w7) ∧
  ∃ p38 l38 c38 w8, Ef Tryz.prog (Builtin.append_ #[25, 25] 25 #[.slice p31 l31 c31, .slice p37 l37 c37]) w7 (.slice p38 l38 c38) w8 ∧
  (w8 = w7 ∨ S5 w8) ∧
  ∃ p41 l41 c41 w9, Ef Tryz.prog (Builtin.append_ #[25, 25] 25 #[.slice p38 l38 c38, .slice p40 l40 c40]) w8 (.slice p41 l41 c41) w9 ∧
  Q (.tuple #[.slice p41 l41 c41, .int .i64 0]) w9
def ref20_Text (n0 : Int) (p0 : Option Addr) (l0 : Nat) (c0 : Nat) (p0_1 : Option Addr) (l0_1 : Nat) (c0_1 : Nat) (w : World) (Q : Value → World → Prop) : Prop :=
  New #[.int .u64 n0, .slice p0 l0 c0, .slice p0_1 l0_1 c0_1] 94 w fun k1 w1 =>
  ∃ p7 l7 c7, Ld Tryz.prog 25 (.pointer (some ((⟨k1, 0, none⟩ : Addr).add 1))) w1 (.slice p7 l7 c7) ∧
  cond (decide (((l7 : Nat) : Int) > 20))
  (Q (.tuple #[.slice none 0 0, .int .i64 15]) w1)
  (∃ p12 l12 c12, Ld Tryz.prog 25 (.pointer (some ((⟨k1, 0, none⟩ : Addr).add 2))) w1 (.slice p12 l12 c12) ∧
    cond (decide (((l12 : Nat) : Int) > 20))
    (Q (.tuple #[.slice none 0 0, .int .i64 15]) w1)
    (ref20_Text_j1 (⟨k1, 0, none⟩ : Addr) none 0 0 0 w1 Q))
def ref20_Text_tt : Nat → List (Nat × TypeId) := fun _ => []
theorem ref20_Text_call (n0 : Int) (p0 : Option Addr) (l0 : Nat) (c0 : Nat) (p0_1 : Option Addr) (l0_1 : Nat) (c0_1 : Nat) (w : World) (Q : Value → World → Prop) (h : ref20_Text n0 p0 l0 c0 p0_1 l0_1 c0_1 w Q) : callF Tryz.prog 60 #[.agg #[.int .u64 n0, .slice p0 l0 c0, .slice p0_1 l0_1 c0_1]] w Q :=
  callBy ref20_Text_tt Tryz.func60 h (fun _ _ => by kernel_rfl) (by kernel_rfl) (by kernel_rfl) (by kernel_rfl)

def ref20_Untext_j1 (a2 : Addr) (n3 : Int) (a5 : Addr) (n6 : Int) (w : World) (Q : Value → World → Prop) : Prop :=
  cond (n6 != 0)
  (∃ w1, Sto Tryz.prog 94 (.pointer (some a2)) (.agg #[.int .u64 0, .slice none 0 0, .slice none 0 0]) w w1 ∧
    ∃ a2_1 v2, (.pointer (some a2) : Value) = .pointer (some a2_1) ∧ (loadVar 94 a2_1).run Tryz.prog w1 = .ok v2 w1 ∧
    Q (.tuple #[v2, .int .i64 n6]) w1)
  (∃ n39 p39 l39 c39 p39_1 l39_1 c39_1, Ld Tryz.prog 94 (.pointer (some a5)) w (.agg #[.int .u64 n39, .slice p39 l39 c39, .slice p39_1 l39_1 c39_1]) ∧
    ∃ w2, Sto Tryz.prog 94 (.pointer (some a2)) (.agg #[.int .u64 n39, .slice p39 l39 c39, .slice p39_1 l39_1 c39_1]) w w2 ∧
    ∃ a2_2 v2_1, (.pointer (some a2) : Value) = .pointer (some a2_2) ∧ (loadVar 94 a2_2).run Tryz.prog w2 = .ok v2_1 w2 ∧
    Q (.tuple #[v2_1, .int .i64 0]) w2)
def ref20_Untext (p0 : Option Addr) (l0 : Nat) (c0 : Nat) (w : World) (Q : Value → World → Prop) : Prop :=
  ∃ z2, Pu Tryz.prog (zeroValue 94) z2 ∧
  New z2.cells 94 w fun k2 w1 =>
  New #[.slice p0 l0 c0, .int .i64 0] 230 w1 fun k9 w2 =>
  callF Tryz.prog 145 #[.pointer (some (⟨k9, 0, none⟩ : Addr)), .int .i64 8] w2 fun r11 w3 =>
  ∃ n11, r11 = .int .u64 n11 ∧
  ∃ z5, Pu Tryz.prog (zeroValue 94) z5 ∧
  New z5.cells 94 w3 fun k5 w4 =>
  ∃ w5, Sto Tryz.prog 94 (.pointer (some (⟨k5, 0, none⟩ : Addr))) (.agg #[.int .u64 n11, .slice none 0 0, .slice none 0 0]) w4 w5 ∧
  callF Tryz.prog 146 #[.pointer (some (⟨k9, 0, none⟩ : Addr))] w5 fun r14 w6 =>
  ∃ p14 l14 c14, r14 = .slice p14 l14 c14 ∧
  ∃ w7, Sto Tryz.prog 25 (.pointer (some ((⟨k5, 0, none⟩ : Addr).add 1))) (.slice p14 l14 c14) w6 w7 ∧
  callF Tryz.prog 146 #[.pointer (some (⟨k9, 0, none⟩ : Addr))] w7 fun r17 w8 =>
  ∃ p17 l17 c17, r17 = .slice p17 l17 c17 ∧
  ∃ w9, Sto Tryz.prog 25 (.pointer (some ((⟨k5, 0, none⟩ : Addr).add 2))) (.slice p17 l17 c17) w8 w9 ∧
  callF Tryz.prog 147 #[.pointer (some (⟨k9, 0, none⟩ : Addr))] w9 fun r20 w10 =>
  ∃ n20, r20 = .int .i64 n20 ∧
  cond (n20 == 0)
  (∃ p25 l25 c25, Ld Tryz.prog 25 (.pointer (some ((⟨k5, 0, none⟩ : Addr).add 1))) w10 (.slice p25 l25 c25) ∧
    cond (decide (((l25 : Nat) : Int) > 20))
    (ref20_Untext_j1 (⟨k2, 0, none⟩ : Addr) 0 (⟨k5, 0, none⟩ : Addr) 10 w10 Q)
    (∃ p30 l30 c30, Ld Tryz.prog 25 (.pointer (some ((⟨k5, 0, none⟩ : Addr).add 2))) w10 (.slice p30 l30 c30) ∧
      cond (decide (((l30 : Nat) : Int) > 20))
      (ref20_Untext_j1 (⟨k2, 0, none⟩ : Addr) 0 (⟨k5, 0, none⟩ : Addr) 10 w10 Q)
      (ref20_Untext_j1 (⟨k2, 0, none⟩ : Addr) 0 (⟨k5, 0, none⟩ : Addr) n20 w10 Q)))
  (ref20_Untext_j1 (⟨k2, 0, none⟩ : Addr) 0 (⟨k5, 0, none⟩ : Addr) n20 w10 Q)
def ref20_Untext_tt : Nat → List (Nat × TypeId) := fun _ => []
theorem ref20_Untext_call (p0 : Option Addr) (l0 : Nat) (c0 : Nat) (w : World) (Q : Value → World → Prop) (h : ref20_Untext p0 l0 c0 w Q) : callF Tryz.prog 63 #[.slice p0 l0 c0] w Q :=
  callBy ref20_Untext_tt Tryz.func63 h (fun _ _ => by kernel_rfl) (by kernel_rfl) (by kernel_rfl) (by kernel_rfl)

def ref20_Same (n0 : Int) (p0 : Option Addr) (l0 : Nat) (c0 : Nat) (p0_1 : Option Addr) (l0_1 : Nat) (c0_1 : Nat) (n1 : Int) (p1 : Option Addr) (l1 : Nat) (c1 : Nat) (p1_1 : Option Addr) (l1_1 : Nat) (c1_1 : Nat) (w : World) (Q : Value → World → Prop) : Prop :=
  New #[.int .u64 n0, .slice p0 l0 c0, .slice p0_1 l0_1 c0_1] 94 w fun k2 w1 =>
  New #[.int .u64 n1, .slice p1 l1 c1, .slice p1_1 l1_1 c1_1] 94 w1 fun k3 w2 =>
  ∃ n6, Ld Tryz.prog 88 (.pointer (some ((⟨k2, 0, none⟩ : Addr).add 0))) w2 (.int .u64 n6) ∧
  ∃ n8, Ld Tryz.prog 88 (.pointer (some ((⟨k3, 0, none⟩ : Addr).add 0))) w2 (.int .u64 n8) ∧
  cond (n6 == n8)
  (∃ p12 l12 c12, Ld Tryz.prog 25 (.pointer (some ((⟨k2, 0, none⟩ : Addr).add 1))) w2 (.slice p12 l12 c12) ∧
    ∃ s13 w3, Ef Tryz.prog (convert 25 9 (.slice p12 l12 c12)) w2 (.string s13) w3 ∧
    ∃ p15 l15 c15, Ld Tryz.prog 25 (.pointer (some ((⟨k3, 0, none⟩ : Addr).add 1))) w3 (.slice p15 l15 c15) ∧
    ∃ s16 w4, Ef Tryz.prog (convert 25 9 (.slice p15 l15 c15)) w3 (.string s16) w4 ∧
    ∃ b17 w5, Ef Tryz.prog (do eqGuard .eql 9 (.tmp 13) (.tmp 16) (.string s13) (.string s16); binOp .eql 9 (.string s13) (.string s16) : Sem Value) w4 (.bool b17) w5 ∧
    cond b17
    (∃ p21 l21 c21, Ld Tryz.prog 25 (.pointer (some ((⟨k2, 0, none⟩ : Addr).add 2))) w5 (.slice p21 l21 c21) ∧
      ∃ s22 w6, Ef Tryz.prog (convert 25 9 (.slice p21 l21 c21)) w5 (.string s22) w6 ∧
      ∃ p24 l24 c24, Ld Tryz.prog 25 (.pointer (some ((⟨k3, 0, none⟩ : Addr).add 2))) w6 (.slice p24 l24 c24) ∧
      ∃ s25 w7, Ef Tryz.prog (convert 25 9 (.slice p24 l24 c24)) w6 (.string s25) w7 ∧
      ∃ b26 w8, Ef Tryz.prog (do eqGuard .eql 9 (.tmp 22) (.tmp 25) (.string s22) (.string s25); binOp .eql 9 (.string s22) (.string s25) : Sem Value) w7 (.bool b26) w8 ∧
      Q (.bool b26) w8)
    (Q (.bool false) w5))
  (Q (.bool false) w2)
def ref20_Same_tt : Nat → List (Nat × TypeId) := fun _ => []
theorem ref20_Same_call (n0 : Int) (p0 : Option Addr) (l0 : Nat) (c0 : Nat) (p0_1 : Option Addr) (l0_1 : Nat) (c0_1 : Nat) (n1 : Int) (p1 : Option Addr) (l1 : Nat) (c1 : Nat) (p1_1 : Option Addr) (l1_1 : Nat) (c1_1 : Nat) (w : World) (Q : Value → World → Prop) (h : ref20_Same n0 p0 l0 c0 p0_1 l0_1 c0_1 n1 p1 l1 c1 p1_1 l1_1 c1_1 w Q) : callF Tryz.prog 64 #[.agg #[.int .u64 n0, .slice p0 l0 c0, .slice p0_1 l0_1 c0_1], .agg #[.int .u64 n1, .slice p1 l1 c1, .slice p1_1 l1_1 c1_1]] w Q :=
  callBy ref20_Same_tt Tryz.func64 h (fun _ _ => by kernel_rfl) (by kernel_rfl) (by kernel_rfl) (by kernel_rfl)

def ref20_Seal_j1 (p0 : Option Addr) (n1 : Int) (p2 : Option Addr) (l2 : Nat) (c2 : Nat) (p3 : Option Addr) (l3 : Nat) (c3 : Nat) (a9 : Addr) (p10 : Option Addr) (l10 : Nat) (c10 : Nat) (n11 : Int) (n12 : Int) (w : World) (Q : Value → World → Prop) : Prop :=
  ∃ n31 p31 l31 c31 p31_1 l31_1 c31_1, Ld Tryz.prog 94 (.pointer (some a9)) w (.agg #[.int .u64 n31, .slice p31 l31 c31, .slice p31_1 l31_1 c31_1]) ∧
  callF Tryz.prog 60 #[.agg #[.int .u64 n31, .slice p31 l31 c31, .slice p31_1 l31_1 c31_1]] w fun r32 w1 =>
  ∃ p32 l32 c32 n32, r32 = .tuple #[.slice p32 l32 c32, .int .i64 n32] ∧
  cond (n32 != 0)
  (Q (.tuple #[.slice none 0 0, .int .i64 n32]) w1)
  (∃ (S9 : World → Prop),
    Drw w1 fun w2 =>
    ∃ a40, p0 = some a40 ∧
    ∃ p42 l42 c42, HLd Tryz.prog S9 231 (.pointer (some (a40.add 0))) w2 (.slice p42 l42 c42) ∧
    ∃ a44, IxA Tryz.prog 231 (.slice p42 l42 c42) (.int .i64 n12) a44 ∧
    ∃ p46 l46 c46, HLd Tryz.prog S9 25 (.pointer (some (a44.add 1))) w2 (.slice p46 l46 c46) ∧
    callF Tryz.prog 152 #[.int .i64 n1, .slice p3 l3 c3] w2 fun r51 w3 =>
    ∃ p51 l51 c51, r51 = .slice p51 l51 c51 ∧
    (w3 = w2 ∨ S9 w3) ∧
    callF Tryz.prog 127 #[.slice p46 l46 c46, .slice p2 l2 c2, .slice p32 l32 c32, .slice p51 l51 c51] w3 fun r52 w4 =>
    ∃ p52 l52 c52 n52, r52 = .tuple #[.slice p52 l52 c52, .int .i64 n52] ∧
    ∃ p57 l57 c57 w5, Ef Tryz.prog (Instr.buildSlice 25 1 #[(0, .int .u8 (IntKind.u8.wrap n1))]) w4 (.slice p57 l57 c57) w5 ∧
    ∃ p59 l59 c59 w6, Ef Tryz.prog (Builtin.append_ #[25, 25] 25 #[.slice p57 l57 c57, .slice p2 l2 c2]) w5 (.slice p59 l59 c59) w6 ∧
    ∃ p61 l61 c61 w7, Ef Tryz.prog (Builtin.append_ #[25, 25] 25 #[.slice p59 l59 c59, .slice p52 l52 c52]) w6 (.slice p61 l61 c61) w7 ∧
    Q (.tuple #[.slice p61 l61 c61, .int .i64 0]) w7)
def ref20_Seal (p0 : Option Addr) (n1 : Int) (p2 : Option Addr) (l2 : Nat) (c2 : Nat) (p3 : Option Addr) (l3 : Nat) (c3 : Nat) (n4 : Int) (p4 : Option Addr) (l4 : Nat) (c4 : Nat) (p4_1 : Option Addr) (l4_1 : Nat) (c4_1 : Nat) (w : World) (Q : Value → World → Prop) : Prop :=
  New #[.int .u64 n4, .slice p4 l4 c4, .slice p4_1 l4_1 c4_1] 94 w fun k9 w1 =>
  callF Tryz.prog 151 #[.pointer p0, .int .i64 n1] w1 fun r19 w2 =>
  ∃ n19, r19 = .int .i64 n19 ∧
  cond (decide (n19 < 0))
  (Q (.tuple #[.slice none 0 0, .int .i64 17]) w2)
  (cond (((l2 : Nat) : Int) != 12)
    (Q (.tuple #[.slice none 0 0, .int .i64 11]) w2)
    (cond (decide (((l3 : Nat) : Int) > 64))
      (Q (.tuple #[.slice none 0 0, .int .i64 11]) w2)
      (ref20_Seal_j1 p0 n1 p2 l2 c2 p3 l3 c3 (⟨k9, 0, none⟩ : Addr) none 0 0 0 n19 w2 Q)))
def ref20_Seal_tt : Nat → List (Nat × TypeId) := fun _ => []
theorem ref20_Seal_call (p0 : Option Addr) (n1 : Int) (p2 : Option Addr) (l2 : Nat) (c2 : Nat) (p3 : Option Addr) (l3 : Nat) (c3 : Nat) (n4 : Int) (p4 : Option Addr) (l4 : Nat) (c4 : Nat) (p4_1 : Option Addr) (l4_1 : Nat) (c4_1 : Nat) (w : World) (Q : Value → World → Prop) (h : ref20_Seal p0 n1 p2 l2 c2 p3 l3 c3 n4 p4 l4 c4 p4_1 l4_1 c4_1 w Q) : callF Tryz.prog 70 #[.pointer p0, .int .i64 n1, .slice p2 l2 c2, .slice p3 l3 c3, .agg #[.int .u64 n4, .slice p4 l4 c4, .slice p4_1 l4_1 c4_1]] w Q :=
  callBy ref20_Seal_tt Tryz.func70 h (fun _ _ => by kernel_rfl) (by kernel_rfl) (by kernel_rfl) (by kernel_rfl)

def ref20_Open_j1 (p0 : Option Addr) (p1 : Option Addr) (l1 : Nat) (c1 : Nat) (p2 : Option Addr) (l2 : Nat) (c2 : Nat) (n3 : Int) (a8 : Addr) (n9 : Int) (n10 : Int) (w : World) (Q : Value → World → Prop) : Prop :=
  ∃ (S8 : World → Prop),
  Drw w fun w1 =>
  ∃ a38, p0 = some a38 ∧
  ∃ p46 l46 c46, Pu Tryz.prog (Instr.sliceAt 25 (.slice p2 l2 c2) (some (.int .i64 1)) (some (.int .i64 13)) none) (.slice p46 l46 c46) ∧
  ∃ p48 l48 c48, Pu Tryz.prog (Instr.sliceAt 25 (.slice p2 l2 c2) (some (.int .i64 13)) none none) (.slice p48 l48 c48) ∧
  ∃ a50, IxA Tryz.prog 25 (.slice p2 l2 c2) (.int .i64 0) a50 ∧
  ∃ p40 l40 c40, HLd Tryz.prog S8 231 (.pointer (some (a38.add 0))) w1 (.slice p40 l40 c40) ∧
  ∃ a42, IxA Tryz.prog 231 (.slice p40 l40 c40) (.int .i64 n10) a42 ∧
  ∃ p44 l44 c44, HLd Tryz.prog S8 25 (.pointer (some (a42.add 1))) w1 (.slice p44 l44 c44) ∧
  ∃ n51, Ld Tryz.prog 5 (.pointer (some a50)) w1 (.int .u8 n51) ∧
  (w1 = w1 ∨ S8 w1) ∧
  callF Tryz.prog 152 #[.int .i64 (IntKind.i64.wrap n51), .slice p1 l1 c1] w1 fun r54 w2 =>
  ∃ p54 l54 c54, r54 = .slice p54 l54 c54 ∧
  (w2 = w1 ∨ S8 w2) ∧
  callF Tryz.prog 94 #[.slice p44 l44 c44, .slice p46 l46 c46, .slice p48 l48 c48, .slice p54 l54 c54] w2 fun r55 w3 =>
  ∃ p55 l55 c55 n55, r55 = .tuple #[.slice p55 l55 c55, .int .i64 n55] ∧
  cond (n55 != 0)
  (∃ w4, Sto Tryz.prog 94 (.pointer (some a8)) (.agg #[.int .u64 0, .slice none 0 0, .slice none 0 0]) w3 w4 ∧
    ∃ a8_1 v8, (.pointer (some a8) : Value) = .pointer (some a8_1) ∧ (loadVar 94 a8_1).run Tryz.prog w4 = .ok v8 w4 ∧
    Q (.tuple #[v8, .int .i64 13]) w4)
  (callF Tryz.prog 63 #[.slice p55 l55 c55] w3 fun r63 w5 =>
    ∃ n63 p63 l63 c63 p63_1 l63_1 c63_1 n63_1, r63 = .tuple #[.agg #[.int .u64 n63, .slice p63 l63 c63, .slice p63_1 l63_1 c63_1], .int .i64 n63_1] ∧
    ∃ z13, Pu Tryz.prog (zeroValue 94) z13 ∧
    New z13.cells 94 w5 fun k13 w6 =>
    ∃ w7, Sto Tryz.prog 94 (.pointer (some (⟨k13, 0, none⟩ : Addr))) (.agg #[.int .u64 n63, .slice p63 l63 c63, .slice p63_1 l63_1 c63_1]) w6 w7 ∧
    cond (n63_1 != 0)
    (∃ w8, Sto Tryz.prog 94 (.pointer (some a8)) (.agg #[.int .u64 0, .slice none 0 0, .slice none 0 0]) w7 w8 ∧
      ∃ a8_2 v8_1, (.pointer (some a8) : Value) = .pointer (some a8_2) ∧ (loadVar 94 a8_2).run Tryz.prog w8 = .ok v8_1 w8 ∧
      Q (.tuple #[v8_1, .int .i64 n63_1]) w8)
    (∃ n71, Ld Tryz.prog 88 (.pointer (some ((⟨k13, 0, none⟩ : Addr).add 0))) w7 (.int .u64 n71) ∧
      cond (decide (n71 < n3))
      (∃ w9, Sto Tryz.prog 94 (.pointer (some a8)) (.agg #[.int .u64 0, .slice none 0 0, .slice none 0 0]) w7 w9 ∧
        ∃ a8_3 v8_2, (.pointer (some a8) : Value) = .pointer (some a8_3) ∧ (loadVar 94 a8_3).run Tryz.prog w9 = .ok v8_2 w9 ∧
        Q (.tuple #[v8_2, .int .i64 20]) w9)
      (∃ n75 p75 l75 c75 p75_1 l75_1 c75_1, Ld Tryz.prog 94 (.pointer (some (⟨k13, 0, none⟩ : Addr))) w7 (.agg #[.int .u64 n75, .slice p75 l75 c75, .slice p75_1 l75_1 c75_1]) ∧
        ∃ w10, Sto Tryz.prog 94 (.pointer (some a8)) (.agg #[.int .u64 n75, .slice p75 l75 c75, .slice p75_1 l75_1 c75_1]) w7 w10 ∧
        ∃ a8_4 v8_3, (.pointer (some a8) : Value) = .pointer (some a8_4) ∧ (loadVar 94 a8_4).run Tryz.prog w10 = .ok v8_3 w10 ∧
        Q (.tuple #[v8_3, .int .i64 0]) w10)))
def ref20_Open_j2 (p0 : Option Addr) (p1 : Option Addr) (l1 : Nat) (c1 : Nat) (p2 : Option Addr) (l2 : Nat) (c2 : Nat) (n3 : Int) (a8 : Addr) (n9 : Int) (n10 : Int) (b34 : Bool) (w : World) (Q : Value → World → Prop) : Prop :=
  cond b34
  (∃ w1, Sto Tryz.prog 94 (.pointer (some a8)) (.agg #[.int .u64 0, .slice none 0 0, .slice none 0 0]) w w1 ∧
    ∃ a8_1 v8, (.pointer (some a8) : Value) = .pointer (some a8_1) ∧ (loadVar 94 a8_1).run Tryz.prog w1 = .ok v8 w1 ∧
    Q (.tuple #[v8, .int .i64 13]) w1)
  (ref20_Open_j1 p0 p1 l1 c1 p2 l2 c2 n3 a8 n9 n10 w Q)
def ref20_Open (p0 : Option Addr) (p1 : Option Addr) (l1 : Nat) (c1 : Nat) (p2 : Option Addr) (l2 : Nat) (c2 : Nat) (n3 : Int) (w : World) (Q : Value → World → Prop) : Prop :=
  ∃ z8, Pu Tryz.prog (zeroValue 94) z8 ∧
  New z8.cells 94 w fun k8 w1 =>
  cond (decide (((l2 : Nat) : Int) < 29))
  (∃ w2, Sto Tryz.prog 94 (.pointer (some (⟨k8, 0, none⟩ : Addr))) (.agg #[.int .u64 0, .slice none 0 0, .slice none 0 0]) w1 w2 ∧
    ∃ a8 v8, (.pointer (some (⟨k8, 0, none⟩ : Addr)) : Value) = .pointer (some a8) ∧ (loadVar 94 a8).run Tryz.prog w2 = .ok v8 w2 ∧
    Q (.tuple #[v8, .int .i64 12]) w2)
  (∃ a20, IxA Tryz.prog 25 (.slice p2 l2 c2) (.int .i64 0) a20 ∧
    ∃ n21, Ld Tryz.prog 5 (.pointer (some a20)) w1 (.int .u8 n21) ∧
    callF Tryz.prog 151 #[.pointer p0, .int .i64 (IntKind.i64.wrap n21)] w1 fun r23 w3 =>
    ∃ n23, r23 = .int .i64 n23 ∧
    cond (decide (n23 < 0))
    (∃ w4, Sto Tryz.prog 94 (.pointer (some (⟨k8, 0, none⟩ : Addr))) (.agg #[.int .u64 0, .slice none 0 0, .slice none 0 0]) w3 w4 ∧
      ∃ a8_1 v8_1, (.pointer (some (⟨k8, 0, none⟩ : Addr)) : Value) = .pointer (some a8_1) ∧ (loadVar 94 a8_1).run Tryz.prog w4 = .ok v8_1 w4 ∧
      Q (.tuple #[v8_1, .int .i64 17]) w4)
    (cond (decide (((l1 : Nat) : Int) > 64))
      (ref20_Open_j2 p0 p1 l1 c1 p2 l2 c2 n3 (⟨k8, 0, none⟩ : Addr) 0 n23 true w3 Q)
      (ref20_Open_j2 p0 p1 l1 c1 p2 l2 c2 n3 (⟨k8, 0, none⟩ : Addr) 0 n23 (decide (((l2 : Nat) : Int) > 4096)) w3 Q)))
def ref20_Open_tt : Nat → List (Nat × TypeId) := fun _ => []
theorem ref20_Open_call (p0 : Option Addr) (p1 : Option Addr) (l1 : Nat) (c1 : Nat) (p2 : Option Addr) (l2 : Nat) (c2 : Nat) (n3 : Int) (w : World) (Q : Value → World → Prop) (h : ref20_Open p0 p1 l1 c1 p2 l2 c2 n3 w Q) : callF Tryz.prog 72 #[.pointer p0, .slice p1 l1 c1, .slice p2 l2 c2, .int .u64 n3] w Q :=
  callBy ref20_Open_tt Tryz.func72 h (fun _ _ => by kernel_rfl) (by kernel_rfl) (by kernel_rfl) (by kernel_rfl)

def ref20_note (n0 : Int) (p1 : Option Addr) (l1 : Nat) (c1 : Nat) (w : World) (Q : Value → World → Prop) : Prop :=
  ∃ p7 l7 c7 w1, Ef Tryz.prog (Instr.buildSlice 25 1 #[(0, .int .u8 (IntKind.u8.wrap n0))]) w (.slice p7 l7 c7) w1 ∧
  ∃ p9 l9 c9 w2, Ef Tryz.prog (Builtin.append_ #[25, 25] 25 #[.slice p7 l7 c7, .slice p1 l1 c1]) w1 (.slice p9 l9 c9) w2 ∧
  Q (.slice p9 l9 c9) w2
def ref20_note_tt : Nat → List (Nat × TypeId) := fun _ => []
theorem ref20_note_call (n0 : Int) (p1 : Option Addr) (l1 : Nat) (c1 : Nat) (w : World) (Q : Value → World → Prop) (h : ref20_note n0 p1 l1 c1 w Q) : callF Tryz.prog 152 #[.int .i64 n0, .slice p1 l1 c1] w Q :=
  callBy ref20_note_tt Tryz.func152 h (fun _ _ => by kernel_rfl) (by kernel_rfl) (by kernel_rfl) (by kernel_rfl)
end Go.Sh
end

section
namespace Go.Sh
open Go Go.Fw Go.Proofs
set_option maxRecDepth 100000
set_option linter.unusedVariables false

def law20_TokenTexts_j1 (a3 : Addr) (a4 : Addr) (b6 : Bool) (w : World) (Q : Value → World → Prop) : Prop :=
  ∃ (S15 : World → Prop),
  Drw w fun w1 =>
  ∃ n125 p125 l125 c125 p125_1 l125_1 c125_1, HLd Tryz.prog S15 90 (.pointer (some a3)) w1 (.agg #[.int .u64 n125, .slice p125 l125 c125, .slice p125_1 l125_1 c125_1]) ∧
  ∃ n126 p126 l126 c126 p126_1 l126_1 c126_1, HLd Tryz.prog S15 90 (.pointer (some a4)) w1 (.agg #[.int .u64 n126, .slice p126 l126 c126, .slice p126_1 l126_1 c126_1]) ∧
  ∃ n128 p128 l128 c128 p128_1 l128_1 c128_1, HLd Tryz.prog S15 90 (.pointer (some a3)) w1 (.agg #[.int .u64 n128, .slice p128 l128 c128, .slice p128_1 l128_1 c128_1]) ∧
  ∃ n130 p130 l130 c130 p130_1 l130_1 c130_1, HLd Tryz.prog S15 90 (.pointer (some a4)) w1 (.agg #[.int .u64 n130, .slice p130 l130 c130, .slice p130_1 l130_1 c130_1]) ∧
  callF Tryz.prog 66 #[.agg #[.int .u64 n125, .slice p125 l125 c125, .slice p125_1 l125_1 c125_1], .agg #[.int .u64 n126, .slice p126 l126 c126, .slice p126_1 l126_1 c126_1]] w1 fun r127 w2 =>
  ∃ b127, r127 = .bool b127 ∧
  (w2 = w1 ∨ S15 w2) ∧
  callF Tryz.prog 61 #[.agg #[.int .u64 n128, .slice p128 l128 c128, .slice p128_1 l128_1 c128_1]] w2 fun r129 w3 =>
  ∃ n129 p129 l129 c129 p129_1 l129_1 c129_1, r129 = .agg #[.int .u64 n129, .slice p129 l129 c129, .slice p129_1 l129_1 c129_1] ∧
  (w3 = w2 ∨ S15 w3) ∧
  callF Tryz.prog 61 #[.agg #[.int .u64 n130, .slice p130 l130 c130, .slice p130_1 l130_1 c130_1]] w3 fun r131 w4 =>
  ∃ n131 p131 l131 c131 p131_1 l131_1 c131_1, r131 = .agg #[.int .u64 n131, .slice p131 l131 c131, .slice p131_1 l131_1 c131_1] ∧
  (w4 = w3 ∨ S15 w4) ∧
  callF Tryz.prog 64 #[.agg #[.int .u64 n129, .slice p129 l129 c129, .slice p129_1 l129_1 c129_1], .agg #[.int .u64 n131, .slice p131 l131 c131, .slice p131_1 l131_1 c131_1]] w4 fun r132 w5 =>
  ∃ b132, r132 = .bool b132 ∧
  (w5 = w4 ∨ S15 w5) ∧
  cond (b127 == b132)
  (∃ n135 p135 l135 c135 p135_1 l135_1 c135_1, HLd Tryz.prog S15 90 (.pointer (some a3)) w5 (.agg #[.int .u64 n135, .slice p135 l135 c135, .slice p135_1 l135_1 c135_1]) ∧
    ∃ n136 p136 l136 c136 p136_1 l136_1 c136_1, Ld Tryz.prog 90 (.pointer (some a3)) w5 (.agg #[.int .u64 n136, .slice p136 l136 c136, .slice p136_1 l136_1 c136_1]) ∧
    (w5 = w5 ∨ S15 w5) ∧
    callF Tryz.prog 66 #[.agg #[.int .u64 n135, .slice p135 l135 c135, .slice p135_1 l135_1 c135_1], .agg #[.int .u64 n136, .slice p136 l136 c136, .slice p136_1 l136_1 c136_1]] w5 fun r137 w6 =>
    ∃ b137, r137 = .bool b137 ∧
    Q (.bool b137) w6)
  (Q (.bool false) w5)
def law20_TokenTexts_j2 (p2 : Option Addr) (l2 : Nat) (c2 : Nat) (a3 : Addr) (a4 : Addr) (b6 : Bool) (p11 : Option Addr) (l11 : Nat) (c11 : Nat) (w : World) (Q : Value → World → Prop) : Prop :=
  callF Tryz.prog 65 #[.slice p11 l11 c11] w fun r83 w1 =>
  ∃ n83 b83, r83 = .tuple #[.int .i64 n83, .bool b83] ∧
  cond (decide (((l2 : Nat) : Int) > 0))
  (∃ a91, IxA Tryz.prog 25 (.slice p2 l2 c2) (.int .i64 0) a91 ∧
    ∃ n92, Ld Tryz.prog 5 (.pointer (some a91)) w1 (.int .u8 n92) ∧
    cond (decide (n92 < 128))
    (cond (!b83)
      (Q (.bool false) w1)
      (∃ a101, IxA Tryz.prog 25 (.slice p2 l2 c2) (.int .i64 0) a101 ∧
        ∃ n102, Ld Tryz.prog 5 (.pointer (some a101)) w1 (.int .u8 n102) ∧
        cond (n83 != (IntKind.i64.wrap n102))
        (Q (.bool false) w1)
        (cond (((l2 : Nat) : Int) == 0)
          (cond b83
            (Q (.bool false) w1)
            (cond (n83 != 0)
              (Q (.bool false) w1)
              (law20_TokenTexts_j1 a3 a4 b6 w1 Q)))
          (∃ a113, IxA Tryz.prog 25 (.slice p2 l2 c2) (.int .i64 0) a113 ∧
            ∃ n114, Ld Tryz.prog 5 (.pointer (some a113)) w1 (.int .u8 n114) ∧
            cond (decide (n114 ≥ 128))
            (cond b83
              (Q (.bool false) w1)
              (cond (n83 != 0)
                (Q (.bool false) w1)
                (law20_TokenTexts_j1 a3 a4 b6 w1 Q)))
            (law20_TokenTexts_j1 a3 a4 b6 w1 Q)))))
    (cond (((l2 : Nat) : Int) == 0)
      (cond b83
        (Q (.bool false) w1)
        (cond (n83 != 0)
          (Q (.bool false) w1)
          (law20_TokenTexts_j1 a3 a4 b6 w1 Q)))
      (∃ a113_1, IxA Tryz.prog 25 (.slice p2 l2 c2) (.int .i64 0) a113_1 ∧
        ∃ n114_1, Ld Tryz.prog 5 (.pointer (some a113_1)) w1 (.int .u8 n114_1) ∧
        cond (decide (n114_1 ≥ 128))
        (cond b83
          (Q (.bool false) w1)
          (cond (n83 != 0)
            (Q (.bool false) w1)
            (law20_TokenTexts_j1 a3 a4 b6 w1 Q)))
        (law20_TokenTexts_j1 a3 a4 b6 w1 Q))))
  (cond (((l2 : Nat) : Int) == 0)
    (cond b83
      (Q (.bool false) w1)
      (cond (n83 != 0)
        (Q (.bool false) w1)
        (law20_TokenTexts_j1 a3 a4 b6 w1 Q)))
    (∃ a113_2, IxA Tryz.prog 25 (.slice p2 l2 c2) (.int .i64 0) a113_2 ∧
      ∃ n114_2, Ld Tryz.prog 5 (.pointer (some a113_2)) w1 (.int .u8 n114_2) ∧
      cond (decide (n114_2 ≥ 128))
      (cond b83
        (Q (.bool false) w1)
        (cond (n83 != 0)
          (Q (.bool false) w1)
          (law20_TokenTexts_j1 a3 a4 b6 w1 Q)))
      (law20_TokenTexts_j1 a3 a4 b6 w1 Q)))
def law20_TokenTexts_j3 (p2 : Option Addr) (l2 : Nat) (c2 : Nat) (a3 : Addr) (a4 : Addr) (b6 : Bool) (w : World) (Q : Value → World → Prop) : Prop :=
  ∃ n32 p32 l32 c32 p32_1 l32_1 c32_1, Ld Tryz.prog 90 (.pointer (some a3)) w (.agg #[.int .u64 n32, .slice p32 l32 c32, .slice p32_1 l32_1 c32_1]) ∧
  callF Tryz.prog 59 #[.agg #[.int .u64 n32, .slice p32 l32 c32, .slice p32_1 l32_1 c32_1]] w fun r33 w1 =>
  ∃ p33 l33 c33 n33, r33 = .tuple #[.slice p33 l33 c33, .int .i64 n33] ∧
  ∃ n37 p37 l37 c37 p37_1 l37_1 c37_1, Ld Tryz.prog 90 (.pointer (some a3)) w1 (.agg #[.int .u64 n37, .slice p37 l37 c37, .slice p37_1 l37_1 c37_1]) ∧
  callF Tryz.prog 61 #[.agg #[.int .u64 n37, .slice p37 l37 c37, .slice p37_1 l37_1 c37_1]] w1 fun r38 w2 =>
  ∃ n38 p38 l38 c38 p38_1 l38_1 c38_1, r38 = .agg #[.int .u64 n38, .slice p38 l38 c38, .slice p38_1 l38_1 c38_1] ∧
  callF Tryz.prog 60 #[.agg #[.int .u64 n38, .slice p38 l38 c38, .slice p38_1 l38_1 c38_1]] w2 fun r39 w3 =>
  ∃ p39 l39 c39 n39, r39 = .tuple #[.slice p39 l39 c39, .int .i64 n39] ∧
  callF Tryz.prog 25 #[.slice p2 l2 c2] w3 fun r43 w4 =>
  ∃ p43 l43 c43, r43 = .slice p43 l43 c43 ∧
  callF Tryz.prog 62 #[.slice p43 l43 c43] w4 fun r46 w5 =>
  ∃ n46 p46 l46 c46 p46_1 l46_1 c46_1 n46_1, r46 = .tuple #[.agg #[.int .u64 n46, .slice p46 l46 c46, .slice p46_1 l46_1 c46_1], .int .i64 n46_1] ∧
  ∃ z12, Pu Tryz.prog (zeroValue 90) z12 ∧
  New z12.cells 90 w5 fun k12 w6 =>
  ∃ w7, Sto Tryz.prog 90 (.pointer (some (⟨k12, 0, none⟩ : Addr))) (.agg #[.int .u64 n46, .slice p46 l46 c46, .slice p46_1 l46_1 c46_1]) w6 w7 ∧
  callF Tryz.prog 63 #[.slice p2 l2 c2] w7 fun r51 w8 =>
  ∃ n51 p51 l51 c51 p51_1 l51_1 c51_1 n51_1, r51 = .tuple #[.agg #[.int .u64 n51, .slice p51 l51 c51, .slice p51_1 l51_1 c51_1], .int .i64 n51_1] ∧
  ∃ z14, Pu Tryz.prog (zeroValue 94) z14 ∧
  New z14.cells 94 w8 fun k14 w9 =>
  ∃ w10, Sto Tryz.prog 94 (.pointer (some (⟨k14, 0, none⟩ : Addr))) (.agg #[.int .u64 n51, .slice p51 l51 c51, .slice p51_1 l51_1 c51_1]) w9 w10 ∧
  ∃ (S10 : World → Prop),
  Drw w10 fun w11 =>
  cond (n33 != n39)
  (Q (.bool false) w11)
  (callF Tryz.prog 33 #[.slice p33 l33 c33, .slice p39 l39 c39] w11 fun r60 w12 =>
    ∃ b60, r60 = .bool b60 ∧
    (w12 = w11 ∨ S10 w12) ∧
    cond (!b60)
    (Q (.bool false) w12)
    (cond (n46_1 != n51_1)
      (Q (.bool false) w12)
      (∃ n69 p69 l69 c69 p69_1 l69_1 c69_1, HLd Tryz.prog S10 90 (.pointer (some (⟨k12, 0, none⟩ : Addr))) w12 (.agg #[.int .u64 n69, .slice p69 l69 c69, .slice p69_1 l69_1 c69_1]) ∧
        ∃ n71 p71 l71 c71 p71_1 l71_1 c71_1, HLd Tryz.prog S10 94 (.pointer (some (⟨k14, 0, none⟩ : Addr))) w12 (.agg #[.int .u64 n71, .slice p71 l71 c71, .slice p71_1 l71_1 c71_1]) ∧
        callF Tryz.prog 61 #[.agg #[.int .u64 n69, .slice p69 l69 c69, .slice p69_1 l69_1 c69_1]] w12 fun r70 w13 =>
        ∃ n70 p70 l70 c70 p70_1 l70_1 c70_1, r70 = .agg #[.int .u64 n70, .slice p70 l70 c70, .slice p70_1 l70_1 c70_1] ∧
        (w13 = w12 ∨ S10 w13) ∧
        callF Tryz.prog 64 #[.agg #[.int .u64 n70, .slice p70 l70 c70, .slice p70_1 l70_1 c70_1], .agg #[.int .u64 n71, .slice p71 l71 c71, .slice p71_1 l71_1 c71_1]] w13 fun r72 w14 =>
        ∃ b72, r72 = .bool b72 ∧
        cond (!b72)
        (Q (.bool false) w14)
        (callF Tryz.prog 33 #[.slice p43 l43 c43, .slice p2 l2 c2] w14 fun r78 w15 =>
          ∃ b78, r78 = .bool b78 ∧
          cond (!b78)
          (Q (.bool false) w15)
          (law20_TokenTexts_j2 p2 l2 c2 a3 a4 b6 p43 l43 c43 w15 Q)))))
def law20_TokenTexts (n0 : Int) (p0 : Option Addr) (l0 : Nat) (c0 : Nat) (p0_1 : Option Addr) (l0_1 : Nat) (c0_1 : Nat) (n1 : Int) (p1 : Option Addr) (l1 : Nat) (c1 : Nat) (p1_1 : Option Addr) (l1_1 : Nat) (c1_1 : Nat) (p2 : Option Addr) (l2 : Nat) (c2 : Nat) (w : World) (Q : Value → World → Prop) : Prop :=
  New #[.int .u64 n0, .slice p0 l0 c0, .slice p0_1 l0_1 c0_1] 90 w fun k3 w1 =>
  New #[.int .u64 n1, .slice p1 l1 c1, .slice p1_1 l1_1 c1_1] 90 w1 fun k4 w2 =>
  callF Tryz.prog 57 #[] w2 fun r18 w3 =>
  ∃ b18, r18 = .bool b18 ∧
  cond (!b18)
  (Q (.bool false) w3)
  (∃ n20 p20 l20 c20 p20_1 l20_1 c20_1, Ld Tryz.prog 90 (.pointer (some (⟨k3, 0, none⟩ : Addr))) w3 (.agg #[.int .u64 n20, .slice p20 l20 c20, .slice p20_1 l20_1 c20_1]) ∧
    callF Tryz.prog 58 #[.agg #[.int .u64 n20, .slice p20 l20 c20, .slice p20_1 l20_1 c20_1]] w3 fun r21 w4 =>
    ∃ b21, r21 = .bool b21 ∧
    cond b21
    (Q (.bool true) w4)
    (∃ n23 p23 l23 c23 p23_1 l23_1 c23_1, Ld Tryz.prog 90 (.pointer (some (⟨k4, 0, none⟩ : Addr))) w4 (.agg #[.int .u64 n23, .slice p23 l23 c23, .slice p23_1 l23_1 c23_1]) ∧
      callF Tryz.prog 58 #[.agg #[.int .u64 n23, .slice p23 l23 c23, .slice p23_1 l23_1 c23_1]] w4 fun r24 w5 =>
      ∃ b24, r24 = .bool b24 ∧
      cond b24
      (Q (.bool true) w5)
      (cond (decide (((l2 : Nat) : Int) > 3000))
        (Q (.bool true) w5)
        (law20_TokenTexts_j3 p2 l2 c2 (⟨k3, 0, none⟩ : Addr) (⟨k4, 0, none⟩ : Addr) false w5 Q))))
def law20_TokenTexts_tt : Nat → List (Nat × TypeId) := fun _ => []
theorem law20_TokenTexts_call (n0 : Int) (p0 : Option Addr) (l0 : Nat) (c0 : Nat) (p0_1 : Option Addr) (l0_1 : Nat) (c0_1 : Nat) (n1 : Int) (p1 : Option Addr) (l1 : Nat) (c1 : Nat) (p1_1 : Option Addr) (l1_1 : Nat) (c1_1 : Nat) (p2 : Option Addr) (l2 : Nat) (c2 : Nat) (w : World) (Q : Value → World → Prop) (h : law20_TokenTexts n0 p0 l0 c0 p0_1 l0_1 c0_1 n1 p1 l1 c1 p1_1 l1_1 c1_1 p2 l2 c2 w Q) : callF Tryz.prog 10 #[.agg #[.int .u64 n0, .slice p0 l0 c0, .slice p0_1 l0_1 c0_1], .agg #[.int .u64 n1, .slice p1 l1 c1, .slice p1_1 l1_1 c1_1], .slice p2 l2 c2] w Q :=
  callBy law20_TokenTexts_tt Tryz.func10 h (fun _ _ => by kernel_rfl) (by kernel_rfl) (by kernel_rfl) (by kernel_rfl)

def law20_TokenSeals_j1 (p0 : Option Addr) (l0 : Nat) (c0 : Nat) (n1 : Int) (p2 : Option Addr) (l2 : Nat) (c2 : Nat) (p3 : Option Addr) (l3 : Nat) (c3 : Nat) (a9 : Addr) (b10 : Bool) (w : World) (Q : Value → World → Prop) : Prop :=
  callF Tryz.prog 68 #[.slice p0 l0 c0] w fun r38 w1 =>
  ∃ p38 p38_1, r38 = .tuple #[.pointer p38, .pointer p38_1] ∧
  ∃ b42 w2, Ef Tryz.prog (do eqGuard .eql 107 (.tmp 41) (.const (.pointer none)) (.pointer p38) (.pointer none); binOp .eql 107 (.pointer p38) (.pointer none) : Sem Value) w1 (.bool b42) w2 ∧
  cond b42
  (Q (.bool false) w2)
  (callF Tryz.prog 25 #[.slice p3 l3 c3] w2 fun r44 w3 =>
    ∃ p44 l44 c44, r44 = .slice p44 l44 c44 ∧
    ∃ n50 p50 l50 c50 p50_1 l50_1 c50_1, Ld Tryz.prog 90 (.pointer (some a9)) w3 (.agg #[.int .u64 n50, .slice p50 l50 c50, .slice p50_1 l50_1 c50_1]) ∧
    callF Tryz.prog 69 #[.pointer p38, .int .i64 n1, .slice p2 l2 c2, .slice p44 l44 c44, .agg #[.int .u64 n50, .slice p50 l50 c50, .slice p50_1 l50_1 c50_1]] w3 fun r51 w4 =>
    ∃ p51 l51 c51 n51, r51 = .tuple #[.slice p51 l51 c51, .int .i64 n51] ∧
    ∃ n59 p59 l59 c59 p59_1 l59_1 c59_1, Ld Tryz.prog 90 (.pointer (some a9)) w4 (.agg #[.int .u64 n59, .slice p59 l59 c59, .slice p59_1 l59_1 c59_1]) ∧
    callF Tryz.prog 61 #[.agg #[.int .u64 n59, .slice p59 l59 c59, .slice p59_1 l59_1 c59_1]] w4 fun r60 w5 =>
    ∃ n60 p60 l60 c60 p60_1 l60_1 c60_1, r60 = .agg #[.int .u64 n60, .slice p60 l60 c60, .slice p60_1 l60_1 c60_1] ∧
    callF Tryz.prog 70 #[.pointer p38_1, .int .i64 n1, .slice p2 l2 c2, .slice p3 l3 c3, .agg #[.int .u64 n60, .slice p60 l60 c60, .slice p60_1 l60_1 c60_1]] w5 fun r61 w6 =>
    ∃ p61 l61 c61 n61, r61 = .tuple #[.slice p61 l61 c61, .int .i64 n61] ∧
    cond (n51 == n61)
    (callF Tryz.prog 33 #[.slice p51 l51 c51, .slice p61 l61 c61] w6 fun r70 w7 =>
      ∃ b70, r70 = .bool b70 ∧
      cond b70
      (callF Tryz.prog 33 #[.slice p44 l44 c44, .slice p3 l3 c3] w7 fun r75 w8 =>
        ∃ b75, r75 = .bool b75 ∧
        Q (.bool b75) w8)
      (Q (.bool false) w7))
    (Q (.bool false) w6))
def law20_TokenSeals (p0 : Option Addr) (l0 : Nat) (c0 : Nat) (n1 : Int) (p2 : Option Addr) (l2 : Nat) (c2 : Nat) (p3 : Option Addr) (l3 : Nat) (c3 : Nat) (n4 : Int) (p4 : Option Addr) (l4 : Nat) (c4 : Nat) (p4_1 : Option Addr) (l4_1 : Nat) (c4_1 : Nat) (w : World) (Q : Value → World → Prop) : Prop :=
  New #[.int .u64 n4, .slice p4 l4 c4, .slice p4_1 l4_1 c4_1] 90 w fun k9 w1 =>
  callF Tryz.prog 57 #[] w1 fun r18 w2 =>
  ∃ b18, r18 = .bool b18 ∧
  cond (!b18)
  (Q (.bool false) w2)
  (callF Tryz.prog 67 #[.slice p0 l0 c0] w2 fun r21 w3 =>
    ∃ b21, r21 = .bool b21 ∧
    cond b21
    (Q (.bool true) w3)
    (cond (decide (((l2 : Nat) : Int) > 100))
      (Q (.bool true) w3)
      (cond (decide (((l3 : Nat) : Int) > 100))
        (Q (.bool true) w3)
        (∃ n33 p33 l33 c33 p33_1 l33_1 c33_1, Ld Tryz.prog 90 (.pointer (some (⟨k9, 0, none⟩ : Addr))) w3 (.agg #[.int .u64 n33, .slice p33 l33 c33, .slice p33_1 l33_1 c33_1]) ∧
          callF Tryz.prog 58 #[.agg #[.int .u64 n33, .slice p33 l33 c33, .slice p33_1 l33_1 c33_1]] w3 fun r34 w4 =>
          ∃ b34, r34 = .bool b34 ∧
          cond b34
          (Q (.bool true) w4)
          (law20_TokenSeals_j1 p0 l0 c0 n1 p2 l2 c2 p3 l3 c3 (⟨k9, 0, none⟩ : Addr) false w4 Q)))))
def law20_TokenSeals_tt : Nat → List (Nat × TypeId) := fun _ => []
theorem law20_TokenSeals_call (p0 : Option Addr) (l0 : Nat) (c0 : Nat) (n1 : Int) (p2 : Option Addr) (l2 : Nat) (c2 : Nat) (p3 : Option Addr) (l3 : Nat) (c3 : Nat) (n4 : Int) (p4 : Option Addr) (l4 : Nat) (c4 : Nat) (p4_1 : Option Addr) (l4_1 : Nat) (c4_1 : Nat) (w : World) (Q : Value → World → Prop) (h : law20_TokenSeals p0 l0 c0 n1 p2 l2 c2 p3 l3 c3 n4 p4 l4 c4 p4_1 l4_1 c4_1 w Q) : callF Tryz.prog 11 #[.slice p0 l0 c0, .int .i64 n1, .slice p2 l2 c2, .slice p3 l3 c3, .agg #[.int .u64 n4, .slice p4 l4 c4, .slice p4_1 l4_1 c4_1]] w Q :=
  callBy law20_TokenSeals_tt Tryz.func11 h (fun _ _ => by kernel_rfl) (by kernel_rfl) (by kernel_rfl) (by kernel_rfl)

def law20_TokenOpens_j1 (p0 : Option Addr) (l0 : Nat) (c0 : Nat) (p1 : Option Addr) (l1 : Nat) (c1 : Nat) (p2 : Option Addr) (l2 : Nat) (c2 : Nat) (n3 : Int) (b8 : Bool) (w : World) (Q : Value → World → Prop) : Prop :=
  callF Tryz.prog 68 #[.slice p0 l0 c0] w fun r32 w1 =>
  ∃ p32 p32_1, r32 = .tuple #[.pointer p32, .pointer p32_1] ∧
  ∃ b36 w2, Ef Tryz.prog (do eqGuard .eql 107 (.tmp 35) (.const (.pointer none)) (.pointer p32) (.pointer none); binOp .eql 107 (.pointer p32) (.pointer none) : Sem Value) w1 (.bool b36) w2 ∧
  cond b36
  (Q (.bool false) w2)
  (callF Tryz.prog 25 #[.slice p2 l2 c2] w2 fun r38 w3 =>
    ∃ p38 l38 c38, r38 = .slice p38 l38 c38 ∧
    callF Tryz.prog 71 #[.pointer p32, .slice p1 l1 c1, .slice p38 l38 c38, .int .u64 n3] w3 fun r44 w4 =>
    ∃ n44 p44 l44 c44 p44_1 l44_1 c44_1 n44_1, r44 = .tuple #[.agg #[.int .u64 n44, .slice p44 l44 c44, .slice p44_1 l44_1 c44_1], .int .i64 n44_1] ∧
    ∃ z12, Pu Tryz.prog (zeroValue 90) z12 ∧
    New z12.cells 90 w4 fun k12 w5 =>
    ∃ w6, Sto Tryz.prog 90 (.pointer (some (⟨k12, 0, none⟩ : Addr))) (.agg #[.int .u64 n44, .slice p44 l44 c44, .slice p44_1 l44_1 c44_1]) w5 w6 ∧
    callF Tryz.prog 72 #[.pointer p32_1, .slice p1 l1 c1, .slice p2 l2 c2, .int .u64 n3] w6 fun r52 w7 =>
    ∃ n52 p52 l52 c52 p52_1 l52_1 c52_1 n52_1, r52 = .tuple #[.agg #[.int .u64 n52, .slice p52 l52 c52, .slice p52_1 l52_1 c52_1], .int .i64 n52_1] ∧
    ∃ z14, Pu Tryz.prog (zeroValue 94) z14 ∧
    New z14.cells 94 w7 fun k14 w8 =>
    ∃ w9, Sto Tryz.prog 94 (.pointer (some (⟨k14, 0, none⟩ : Addr))) (.agg #[.int .u64 n52, .slice p52 l52 c52, .slice p52_1 l52_1 c52_1]) w8 w9 ∧
    ∃ (S11 : World → Prop),
    Drw w9 fun w10 =>
    cond (n44_1 == n52_1)
    (∃ n59 p59 l59 c59 p59_1 l59_1 c59_1, HLd Tryz.prog S11 90 (.pointer (some (⟨k12, 0, none⟩ : Addr))) w10 (.agg #[.int .u64 n59, .slice p59 l59 c59, .slice p59_1 l59_1 c59_1]) ∧
      ∃ n61 p61 l61 c61 p61_1 l61_1 c61_1, HLd Tryz.prog S11 94 (.pointer (some (⟨k14, 0, none⟩ : Addr))) w10 (.agg #[.int .u64 n61, .slice p61 l61 c61, .slice p61_1 l61_1 c61_1]) ∧
      callF Tryz.prog 61 #[.agg #[.int .u64 n59, .slice p59 l59 c59, .slice p59_1 l59_1 c59_1]] w10 fun r60 w11 =>
      ∃ n60 p60 l60 c60 p60_1 l60_1 c60_1, r60 = .agg #[.int .u64 n60, .slice p60 l60 c60, .slice p60_1 l60_1 c60_1] ∧
      (w11 = w10 ∨ S11 w11) ∧
      callF Tryz.prog 64 #[.agg #[.int .u64 n60, .slice p60 l60 c60, .slice p60_1 l60_1 c60_1], .agg #[.int .u64 n61, .slice p61 l61 c61, .slice p61_1 l61_1 c61_1]] w11 fun r62 w12 =>
      ∃ b62, r62 = .bool b62 ∧
      cond b62
      (callF Tryz.prog 33 #[.slice p38 l38 c38, .slice p2 l2 c2] w12 fun r67 w13 =>
        ∃ b67, r67 = .bool b67 ∧
        Q (.bool b67) w13)
      (Q (.bool false) w12))
    (Q (.bool false) w10))
def law20_TokenOpens (p0 : Option Addr) (l0 : Nat) (c0 : Nat) (p1 : Option Addr) (l1 : Nat) (c1 : Nat) (p2 : Option Addr) (l2 : Nat) (c2 : Nat) (n3 : Int) (w : World) (Q : Value → World → Prop) : Prop :=
  callF Tryz.prog 57 #[] w fun r16 w1 =>
  ∃ b16, r16 = .bool b16 ∧
  cond (!b16)
  (Q (.bool false) w1)
  (callF Tryz.prog 67 #[.slice p0 l0 c0] w1 fun r19 w2 =>
    ∃ b19, r19 = .bool b19 ∧
    cond b19
    (Q (.bool true) w2)
    (cond (decide (((l1 : Nat) : Int) > 100))
      (Q (.bool true) w2)
      (cond (decide (((l2 : Nat) : Int) > 300))
        (Q (.bool true) w2)
        (law20_TokenOpens_j1 p0 l0 c0 p1 l1 c1 p2 l2 c2 n3 false w2 Q))))
def law20_TokenOpens_tt : Nat → List (Nat × TypeId) := fun _ => []
theorem law20_TokenOpens_call (p0 : Option Addr) (l0 : Nat) (c0 : Nat) (p1 : Option Addr) (l1 : Nat) (c1 : Nat) (p2 : Option Addr) (l2 : Nat) (c2 : Nat) (n3 : Int) (w : World) (Q : Value → World → Prop) (h : law20_TokenOpens p0 l0 c0 p1 l1 c1 p2 l2 c2 n3 w Q) : callF Tryz.prog 12 #[.slice p0 l0 c0, .slice p1 l1 c1, .slice p2 l2 c2, .int .u64 n3] w Q :=
  callBy law20_TokenOpens_tt Tryz.func12 h (fun _ _ => by kernel_rfl) (by kernel_rfl) (by kernel_rfl) (by kernel_rfl)

def law20_TokenApart_j1 (p2 : Option Addr) (l2 : Nat) (c2 : Nat) (p3 : Option Addr) (l3 : Nat) (c3 : Nat) (a12 : Addr) (a13 : Addr) (b14 : Bool) (p17 : Option Addr) (l17 : Nat) (c17 : Nat) (p19 : Option Addr) (l19 : Nat) (c19 : Nat) (w : World) (Q : Value → World → Prop) : Prop :=
  callF Tryz.prog 33 #[.slice p17 l17 c17, .slice p19 l19 c19] w fun r136 w1 =>
  ∃ b136, r136 = .bool b136 ∧
  callF Tryz.prog 33 #[.slice p2 l2 c2, .slice p3 l3 c3] w1 fun r139 w2 =>
  ∃ b139, r139 = .bool b139 ∧
  cond b139
  (∃ n141 p141 l141 c141 p141_1 l141_1 c141_1, Ld Tryz.prog 90 (.pointer (some a12)) w2 (.agg #[.int .u64 n141, .slice p141 l141 c141, .slice p141_1 l141_1 c141_1]) ∧
    ∃ n142 p142 l142 c142 p142_1 l142_1 c142_1, Ld Tryz.prog 90 (.pointer (some a13)) w2 (.agg #[.int .u64 n142, .slice p142 l142 c142, .slice p142_1 l142_1 c142_1]) ∧
    callF Tryz.prog 66 #[.agg #[.int .u64 n141, .slice p141 l141 c141, .slice p141_1 l141_1 c141_1], .agg #[.int .u64 n142, .slice p142 l142 c142, .slice p142_1 l142_1 c142_1]] w2 fun r143 w3 =>
    ∃ b143, r143 = .bool b143 ∧
    Q (.bool (b136 == b143)) w3)
  (Q (.bool (b136 == false)) w2)
def law20_TokenApart_j2 (n1 : Int) (p2 : Option Addr) (l2 : Nat) (c2 : Nat) (p3 : Option Addr) (l3 : Nat) (c3 : Nat) (a12 : Addr) (a13 : Addr) (b14 : Bool) (p17 : Option Addr) (l17 : Nat) (c17 : Nat) (p19 : Option Addr) (l19 : Nat) (c19 : Nat) (w : World) (Q : Value → World → Prop) : Prop :=
  ∃ p104 l104 c104, Ld Tryz.prog 25 (.pointer (some (a12.add 1))) w (.slice p104 l104 c104) ∧
  ∃ p108 l108 c108, Ld Tryz.prog 25 (.pointer (some (a12.add 2))) w (.slice p108 l108 c108) ∧
  cond (((l17 : Nat) : Int) != (IntKind.i64.wrap ((IntKind.i64.wrap (39 + ((l104 : Nat) : Int))) + ((l108 : Nat) : Int))))
  (Q (.bool false) w)
  (∃ a114, IxA Tryz.prog 25 (.slice p17 l17 c17) (.int .i64 0) a114 ∧
    ∃ n115, Ld Tryz.prog 5 (.pointer (some a114)) w (.int .u8 n115) ∧
    cond ((IntKind.i64.wrap n115) != n1)
    (Q (.bool false) w)
    (∃ p122 l122 c122, Pu Tryz.prog (Instr.sliceAt 25 (.slice p17 l17 c17) (some (.int .i64 1)) (some (.int .i64 13)) none) (.slice p122 l122 c122) ∧
      callF Tryz.prog 33 #[.slice p122 l122 c122, .slice p2 l2 c2] w fun r124 w1 =>
      ∃ b124, r124 = .bool b124 ∧
      cond (!b124)
      (Q (.bool false) w1)
      (∃ p129 l129 c129, Pu Tryz.prog (Instr.sliceAt 25 (.slice p19 l19 c19) (some (.int .i64 1)) (some (.int .i64 13)) none) (.slice p129 l129 c129) ∧
        callF Tryz.prog 33 #[.slice p129 l129 c129, .slice p3 l3 c3] w1 fun r131 w2 =>
        ∃ b131, r131 = .bool b131 ∧
        cond (!b131)
        (Q (.bool false) w2)
        (law20_TokenApart_j1 p2 l2 c2 p3 l3 c3 a12 a13 b14 p17 l17 c17 p19 l19 c19 w2 Q))))
def law20_TokenApart_j3 (n1 : Int) (p2 : Option Addr) (l2 : Nat) (c2 : Nat) (p3 : Option Addr) (l3 : Nat) (c3 : Nat) (a12 : Addr) (a13 : Addr) (b14 : Bool) (p17 : Option Addr) (l17 : Nat) (c17 : Nat) (n18 : Int) (p19 : Option Addr) (l19 : Nat) (c19 : Nat) (n20 : Int) (b94 : Bool) (w : World) (Q : Value → World → Prop) : Prop :=
  cond b94
  (cond (n18 == 17)
    (Q (.bool (n20 == 17)) w)
    (Q (.bool false) w))
  (law20_TokenApart_j2 n1 p2 l2 c2 p3 l3 c3 a12 a13 b14 p17 l17 c17 p19 l19 c19 w Q)
def law20_TokenApart_j4 (p0 : Option Addr) (l0 : Nat) (c0 : Nat) (n1 : Int) (p2 : Option Addr) (l2 : Nat) (c2 : Nat) (p3 : Option Addr) (l3 : Nat) (c3 : Nat) (p4 : Option Addr) (l4 : Nat) (c4 : Nat) (a12 : Addr) (a13 : Addr) (b14 : Bool) (w : World) (Q : Value → World → Prop) : Prop :=
  callF Tryz.prog 68 #[.slice p0 l0 c0] w fun r66 w1 =>
  ∃ p66 p66_1, r66 = .tuple #[.pointer p66, .pointer p66_1] ∧
  ∃ b70 w2, Ef Tryz.prog (do eqGuard .eql 107 (.tmp 69) (.const (.pointer none)) (.pointer p66) (.pointer none); binOp .eql 107 (.pointer p66) (.pointer none) : Sem Value) w1 (.bool b70) w2 ∧
  cond b70
  (Q (.bool false) w2)
  (∃ n76 p76 l76 c76 p76_1 l76_1 c76_1, Ld Tryz.prog 90 (.pointer (some a12)) w2 (.agg #[.int .u64 n76, .slice p76 l76 c76, .slice p76_1 l76_1 c76_1]) ∧
    callF Tryz.prog 69 #[.pointer p66, .int .i64 n1, .slice p2 l2 c2, .slice p4 l4 c4, .agg #[.int .u64 n76, .slice p76 l76 c76, .slice p76_1 l76_1 c76_1]] w2 fun r77 w3 =>
    ∃ p77 l77 c77 n77, r77 = .tuple #[.slice p77 l77 c77, .int .i64 n77] ∧
    ∃ n85 p85 l85 c85 p85_1 l85_1 c85_1, Ld Tryz.prog 90 (.pointer (some a13)) w3 (.agg #[.int .u64 n85, .slice p85 l85 c85, .slice p85_1 l85_1 c85_1]) ∧
    callF Tryz.prog 69 #[.pointer p66, .int .i64 n1, .slice p3 l3 c3, .slice p4 l4 c4, .agg #[.int .u64 n85, .slice p85 l85 c85, .slice p85_1 l85_1 c85_1]] w3 fun r86 w4 =>
    ∃ p86 l86 c86 n86, r86 = .tuple #[.slice p86 l86 c86, .int .i64 n86] ∧
    cond (n77 != 0)
    (law20_TokenApart_j3 n1 p2 l2 c2 p3 l3 c3 a12 a13 b14 p77 l77 c77 n77 p86 l86 c86 n86 true w4 Q)
    (law20_TokenApart_j3 n1 p2 l2 c2 p3 l3 c3 a12 a13 b14 p77 l77 c77 n77 p86 l86 c86 n86 (n86 != 0) w4 Q))
def law20_TokenApart (p0 : Option Addr) (l0 : Nat) (c0 : Nat) (n1 : Int) (p2 : Option Addr) (l2 : Nat) (c2 : Nat) (p3 : Option Addr) (l3 : Nat) (c3 : Nat) (p4 : Option Addr) (l4 : Nat) (c4 : Nat) (n5 : Int) (p5 : Option Addr) (l5 : Nat) (c5 : Nat) (p5_1 : Option Addr) (l5_1 : Nat) (c5_1 : Nat) (n6 : Int) (p6 : Option Addr) (l6 : Nat) (c6 : Nat) (p6_1 : Option Addr) (l6_1 : Nat) (c6_1 : Nat) (w : World) (Q : Value → World → Prop) : Prop :=
  New #[.int .u64 n5, .slice p5 l5 c5, .slice p5_1 l5_1 c5_1] 90 w fun k12 w1 =>
  New #[.int .u64 n6, .slice p6 l6 c6, .slice p6_1 l6_1 c6_1] 90 w1 fun k13 w2 =>
  callF Tryz.prog 57 #[] w2 fun r21 w3 =>
  ∃ b21, r21 = .bool b21 ∧
  cond (!b21)
  (Q (.bool false) w3)
  (callF Tryz.prog 67 #[.slice p0 l0 c0] w3 fun r24 w4 =>
    ∃ b24, r24 = .bool b24 ∧
    cond b24
    (Q (.bool true) w4)
    (cond (((l2 : Nat) : Int) != 12)
      (Q (.bool true) w4)
      (cond (((l3 : Nat) : Int) != 12)
        (Q (.bool true) w4)
        (cond (decide (((l4 : Nat) : Int) > 64))
          (Q (.bool true) w4)
          (∃ p42 l42 c42, Ld Tryz.prog 25 (.pointer (some ((⟨k12, 0, none⟩ : Addr).add 1))) w4 (.slice p42 l42 c42) ∧
            cond (decide (((l42 : Nat) : Int) > 20))
            (Q (.bool true) w4)
            (∃ p48 l48 c48, Ld Tryz.prog 25 (.pointer (some ((⟨k12, 0, none⟩ : Addr).add 2))) w4 (.slice p48 l48 c48) ∧
              cond (decide (((l48 : Nat) : Int) > 20))
              (Q (.bool true) w4)
              (∃ p54 l54 c54, Ld Tryz.prog 25 (.pointer (some ((⟨k13, 0, none⟩ : Addr).add 1))) w4 (.slice p54 l54 c54) ∧
                cond (decide (((l54 : Nat) : Int) > 20))
                (Q (.bool true) w4)
                (∃ p60 l60 c60, Ld Tryz.prog 25 (.pointer (some ((⟨k13, 0, none⟩ : Addr).add 2))) w4 (.slice p60 l60 c60) ∧
                  cond (decide (((l60 : Nat) : Int) > 20))
                  (Q (.bool true) w4)
                  (law20_TokenApart_j4 p0 l0 c0 n1 p2 l2 c2 p3 l3 c3 p4 l4 c4 (⟨k12, 0, none⟩ : Addr) (⟨k13, 0, none⟩ : Addr) false w4 Q)))))))))
def law20_TokenApart_tt : Nat → List (Nat × TypeId) := fun _ => []
theorem law20_TokenApart_call (p0 : Option Addr) (l0 : Nat) (c0 : Nat) (n1 : Int) (p2 : Option Addr) (l2 : Nat) (c2 : Nat) (p3 : Option Addr) (l3 : Nat) (c3 : Nat) (p4 : Option Addr) (l4 : Nat) (c4 : Nat) (n5 : Int) (p5 : Option Addr) (l5 : Nat) (c5 : Nat) (p5_1 : Option Addr) (l5_1 : Nat) (c5_1 : Nat) (n6 : Int) (p6 : Option Addr) (l6 : Nat) (c6 : Nat) (p6_1 : Option Addr) (l6_1 : Nat) (c6_1 : Nat) (w : World) (Q : Value → World → Prop) (h : law20_TokenApart p0 l0 c0 n1 p2 l2 c2 p3 l3 c3 p4 l4 c4 n5 p5 l5 c5 p5_1 l5_1 c5_1 n6 p6 l6 c6 p6_1 l6_1 c6_1 w Q) : callF Tryz.prog 13 #[.slice p0 l0 c0, .int .i64 n1, .slice p2 l2 c2, .slice p3 l3 c3, .slice p4 l4 c4, .agg #[.int .u64 n5, .slice p5 l5 c5, .slice p5_1 l5_1 c5_1], .agg #[.int .u64 n6, .slice p6 l6 c6, .slice p6_1 l6_1 c6_1]] w Q :=
  callBy law20_TokenApart_tt Tryz.func13 h (fun _ _ => by kernel_rfl) (by kernel_rfl) (by kernel_rfl) (by kernel_rfl)

def law20_TokenKeys_j1 (p0 : Option Addr) (l0 : Nat) (c0 : Nat) (p1 : Option Addr) (l1 : Nat) (c1 : Nat) (n2 : Int) (p3 : Option Addr) (l3 : Nat) (c3 : Nat) (p4 : Option Addr) (l4 : Nat) (c4 : Nat) (a11 : Addr) (b12 : Bool) (w : World) (Q : Value → World → Prop) : Prop :=
  callF Tryz.prog 68 #[.slice p0 l0 c0] w fun r52 w1 =>
  ∃ p52 p52_1, r52 = .tuple #[.pointer p52, .pointer p52_1] ∧
  ∃ b56 w2, Ef Tryz.prog (do eqGuard .eql 107 (.tmp 55) (.const (.pointer none)) (.pointer p52) (.pointer none); binOp .eql 107 (.pointer p52) (.pointer none) : Sem Value) w1 (.bool b56) w2 ∧
  cond b56
  (Q (.bool false) w2)
  (∃ n62 p62 l62 c62 p62_1 l62_1 c62_1, Ld Tryz.prog 90 (.pointer (some a11)) w2 (.agg #[.int .u64 n62, .slice p62 l62 c62, .slice p62_1 l62_1 c62_1]) ∧
    callF Tryz.prog 69 #[.pointer p52, .int .i64 n2, .slice p3 l3 c3, .slice p4 l4 c4, .agg #[.int .u64 n62, .slice p62 l62 c62, .slice p62_1 l62_1 c62_1]] w2 fun r63 w3 =>
    ∃ p63 l63 c63 n63, r63 = .tuple #[.slice p63 l63 c63, .int .i64 n63] ∧
    cond (n63 != 0)
    (Q (.bool (n63 == 17)) w3)
    (LoopS [.slice p1 l1 c1, .int .i64 n2, .slice p4 l4 c4, .pointer (some a11), .bool b12, .pointer p52, .pointer p52_1, .slice p63 l63 c63, .int .i64 0] w3 fun I1 μ1 us1 _ wl1 =>
      ∃ p1_1 l1_1 c1_1 n2_1 p4_1 l4_1 c4_1 a11_1 b12_1 p13 p14 p15 l15 c15 n17, us1 = [.slice p1_1 l1_1 c1_1, .int .i64 n2_1, .slice p4_1 l4_1 c4_1, .pointer (some a11_1), .bool b12_1, .pointer p13, .pointer p14, .slice p15 l15 c15, .int .i64 n17] ∧
      cond (decide (n17 < ((l1_1 : Nat) : Int)))
      (∃ a78, IxA Tryz.prog 105 (.slice p1_1 l1_1 c1_1) (.int .i64 n17) a78 ∧
        ∃ n80, Ld Tryz.prog 3 (.pointer (some (a78.add 1))) wl1 (.int .i64 n80) ∧
        cond (n80 == n2_1)
        (goesOn [] [] I1 μ1 us1 [.slice p1_1 l1_1 c1_1, .int .i64 n2_1, .slice p4_1 l4_1 c4_1, .pointer (some a11_1), .bool b12_1, .pointer p13, .pointer p14, .slice p15 l15 c15, .int .i64 (IntKind.i64.wrap (n17 + 1))] wl1 wl1)
        (∃ a87, IxA Tryz.prog 105 (.slice p1_1 l1_1 c1_1) (.int .i64 n17) a87 ∧
          ∃ n88 n88_1 p88 l88 c88, Ld Tryz.prog 119 (.pointer (some a87)) wl1 (.agg #[.int .i64 n88, .int .i64 n88_1, .slice p88 l88 c88]) ∧
          callF Tryz.prog 73 #[.pointer p13, .pointer p14, .agg #[.int .i64 n88, .int .i64 n88_1, .slice p88 l88 c88]] wl1 fun r89 w4 =>
          ∃ b89, r89 = .bool b89 ∧
          ∃ n95, Ld Tryz.prog 88 (.pointer (some (a11_1.add 0))) w4 (.int .u64 n95) ∧
          callF Tryz.prog 71 #[.pointer p13, .slice p4_1 l4_1 c4_1, .slice p15 l15 c15, .int .u64 n95] w4 fun r96 w5 =>
          ∃ n96 p96 l96 c96 p96_1 l96_1 c96_1 n96_1, r96 = .tuple #[.agg #[.int .u64 n96, .slice p96 l96 c96, .slice p96_1 l96_1 c96_1], .int .i64 n96_1] ∧
          ∃ z18, Pu Tryz.prog (zeroValue 90) z18 ∧
          New z18.cells 90 w5 fun k18 w6 =>
          ∃ w7, Sto Tryz.prog 90 (.pointer (some (⟨k18, 0, none⟩ : Addr))) (.agg #[.int .u64 n96, .slice p96 l96 c96, .slice p96_1 l96_1 c96_1]) w6 w7 ∧
          cond (n96_1 != 0)
          (Q (.bool false) w7)
          (∃ n102 p102 l102 c102 p102_1 l102_1 c102_1, Ld Tryz.prog 90 (.pointer (some (⟨k18, 0, none⟩ : Addr))) w7 (.agg #[.int .u64 n102, .slice p102 l102 c102, .slice p102_1 l102_1 c102_1]) ∧
            ∃ n103 p103 l103 c103 p103_1 l103_1 c103_1, Ld Tryz.prog 90 (.pointer (some a11_1)) w7 (.agg #[.int .u64 n103, .slice p103 l103 c103, .slice p103_1 l103_1 c103_1]) ∧
            callF Tryz.prog 66 #[.agg #[.int .u64 n102, .slice p102 l102 c102, .slice p102_1 l102_1 c102_1], .agg #[.int .u64 n103, .slice p103 l103 c103, .slice p103_1 l103_1 c103_1]] w7 fun r104 w8 =>
            ∃ b104, r104 = .bool b104 ∧
            cond (!b104)
            (Q (.bool false) w8)
            (goesOn [] [] I1 μ1 us1 [.slice p1_1 l1_1 c1_1, .int .i64 n2_1, .slice p4_1 l4_1 c4_1, .pointer (some a11_1), .bool b12_1, .pointer p13, .pointer p14, .slice p15 l15 c15, .int .i64 (IntKind.i64.wrap (n17 + 1))] wl1 w8))))
      (Q (.bool true) wl1)))
def law20_TokenKeys (p0 : Option Addr) (l0 : Nat) (c0 : Nat) (p1 : Option Addr) (l1 : Nat) (c1 : Nat) (n2 : Int) (p3 : Option Addr) (l3 : Nat) (c3 : Nat) (p4 : Option Addr) (l4 : Nat) (c4 : Nat) (n5 : Int) (p5 : Option Addr) (l5 : Nat) (c5 : Nat) (p5_1 : Option Addr) (l5_1 : Nat) (c5_1 : Nat) (w : World) (Q : Value → World → Prop) : Prop :=
  New #[.int .u64 n5, .slice p5 l5 c5, .slice p5_1 l5_1 c5_1] 90 w fun k11 w1 =>
  callF Tryz.prog 57 #[] w1 fun r20 w2 =>
  ∃ b20, r20 = .bool b20 ∧
  cond (!b20)
  (Q (.bool false) w2)
  (callF Tryz.prog 67 #[.slice p0 l0 c0] w2 fun r23 w3 =>
    ∃ b23, r23 = .bool b23 ∧
    cond b23
    (Q (.bool true) w3)
    (callF Tryz.prog 67 #[.slice p1 l1 c1] w3 fun r26 w4 =>
      ∃ b26, r26 = .bool b26 ∧
      cond b26
      (Q (.bool true) w4)
      (cond (((l3 : Nat) : Int) != 12)
        (Q (.bool true) w4)
        (cond (decide (((l4 : Nat) : Int) > 64))
          (Q (.bool true) w4)
          (∃ p40 l40 c40, Ld Tryz.prog 25 (.pointer (some ((⟨k11, 0, none⟩ : Addr).add 1))) w4 (.slice p40 l40 c40) ∧
            cond (decide (((l40 : Nat) : Int) > 20))
            (Q (.bool true) w4)
            (∃ p46 l46 c46, Ld Tryz.prog 25 (.pointer (some ((⟨k11, 0, none⟩ : Addr).add 2))) w4 (.slice p46 l46 c46) ∧
              cond (decide (((l46 : Nat) : Int) > 20))
              (Q (.bool true) w4)
              (law20_TokenKeys_j1 p0 l0 c0 p1 l1 c1 n2 p3 l3 c3 p4 l4 c4 (⟨k11, 0, none⟩ : Addr) false w4 Q)))))))
def law20_TokenKeys_tt : Nat → List (Nat × TypeId) := fun n => match n with | 0 => [(1, 105), (2, 3), (4, 25), (11, 1000000), (12, 4), (13, 107), (14, 108), (15, 25), (17, 3)] | _ => []
theorem law20_TokenKeys_call (p0 : Option Addr) (l0 : Nat) (c0 : Nat) (p1 : Option Addr) (l1 : Nat) (c1 : Nat) (n2 : Int) (p3 : Option Addr) (l3 : Nat) (c3 : Nat) (p4 : Option Addr) (l4 : Nat) (c4 : Nat) (n5 : Int) (p5 : Option Addr) (l5 : Nat) (c5 : Nat) (p5_1 : Option Addr) (l5_1 : Nat) (c5_1 : Nat) (w : World) (Q : Value → World → Prop) (h : law20_TokenKeys p0 l0 c0 p1 l1 c1 n2 p3 l3 c3 p4 l4 c4 n5 p5 l5 c5 p5_1 l5_1 c5_1 w Q) : callF Tryz.prog 14 #[.slice p0 l0 c0, .slice p1 l1 c1, .int .i64 n2, .slice p3 l3 c3, .slice p4 l4 c4, .agg #[.int .u64 n5, .slice p5 l5 c5, .slice p5_1 l5_1 c5_1]] w Q :=
  callBy law20_TokenKeys_tt Tryz.func14 h (fun _ _ => by kernel_rfl) (by kernel_rfl) (by kernel_rfl) (by kernel_rfl)

def law20_TokenBack_j1 (n1 : Int) (p3 : Option Addr) (l3 : Nat) (c3 : Nat) (n5 : Int) (b12 : Bool) (p17 : Option Addr) (p19 : Option Addr) (l19 : Nat) (c19 : Nat) (w : World) (Q : Value → World → Prop) : Prop :=
  callF Tryz.prog 75 #[.pointer p17, .int .i64 n1] w fun r178 w1 =>
  ∃ n178, r178 = .int .i64 n178 ∧
  cond (n178 != 0)
  (Q (.bool false) w1)
  (callF Tryz.prog 71 #[.pointer p17, .slice p3 l3 c3, .slice p19 l19 c19, .int .u64 n5] w1 fun r185 w2 =>
    ∃ n185 p185 l185 c185 p185_1 l185_1 c185_1 n185_1, r185 = .tuple #[.agg #[.int .u64 n185, .slice p185 l185 c185, .slice p185_1 l185_1 c185_1], .int .i64 n185_1] ∧
    ∃ z25, Pu Tryz.prog (zeroValue 90) z25 ∧
    New z25.cells 90 w2 fun k25 w3 =>
    ∃ w4, Sto Tryz.prog 90 (.pointer (some (⟨k25, 0, none⟩ : Addr))) (.agg #[.int .u64 n185, .slice p185 l185 c185, .slice p185_1 l185_1 c185_1]) w3 w4 ∧
    Q (.bool (n185_1 == 17)) w4)
def law20_TokenBack_j2 (n1 : Int) (p3 : Option Addr) (l3 : Nat) (c3 : Nat) (n5 : Int) (a10 : Addr) (b12 : Bool) (n16 : Int) (p17 : Option Addr) (p19 : Option Addr) (l19 : Nat) (c19 : Nat) (w : World) (Q : Value → World → Prop) : Prop :=
  callF Tryz.prog 71 #[.pointer p17, .slice p3 l3 c3, .slice p19 l19 c19, .int .u64 n5] w fun r143 w1 =>
  ∃ n143 p143 l143 c143 p143_1 l143_1 c143_1 n143_1, r143 = .tuple #[.agg #[.int .u64 n143, .slice p143 l143 c143, .slice p143_1 l143_1 c143_1], .int .i64 n143_1] ∧
  ∃ z24, Pu Tryz.prog (zeroValue 90) z24 ∧
  New z24.cells 90 w1 fun k24 w2 =>
  ∃ w3, Sto Tryz.prog 90 (.pointer (some (⟨k24, 0, none⟩ : Addr))) (.agg #[.int .u64 n143, .slice p143 l143 c143, .slice p143_1 l143_1 c143_1]) w2 w3 ∧
  ∃ n148, Ld Tryz.prog 88 (.pointer (some (a10.add 0))) w3 (.int .u64 n148) ∧
  cond (decide (n5 ≤ n148))
  (cond (n143_1 != 0)
    (Q (.bool false) w3)
    (∃ n154 p154 l154 c154 p154_1 l154_1 c154_1, Ld Tryz.prog 90 (.pointer (some (⟨k24, 0, none⟩ : Addr))) w3 (.agg #[.int .u64 n154, .slice p154 l154 c154, .slice p154_1 l154_1 c154_1]) ∧
      ∃ n155 p155 l155 c155 p155_1 l155_1 c155_1, Ld Tryz.prog 90 (.pointer (some a10)) w3 (.agg #[.int .u64 n155, .slice p155 l155 c155, .slice p155_1 l155_1 c155_1]) ∧
      callF Tryz.prog 66 #[.agg #[.int .u64 n154, .slice p154 l154 c154, .slice p154_1 l154_1 c154_1], .agg #[.int .u64 n155, .slice p155 l155 c155, .slice p155_1 l155_1 c155_1]] w3 fun r156 w4 =>
      ∃ b156, r156 = .bool b156 ∧
      cond (!b156)
      (Q (.bool false) w4)
      (∃ n163, Ld Tryz.prog 88 (.pointer (some (a10.add 0))) w4 (.int .u64 n163) ∧
        cond (decide (n5 > n163))
        (cond (n143_1 != 20)
          (Q (.bool false) w4)
          (∃ n169 p169 l169 c169 p169_1 l169_1 c169_1, Ld Tryz.prog 90 (.pointer (some (⟨k24, 0, none⟩ : Addr))) w4 (.agg #[.int .u64 n169, .slice p169 l169 c169, .slice p169_1 l169_1 c169_1]) ∧
            callF Tryz.prog 66 #[.agg #[.int .u64 n169, .slice p169 l169 c169, .slice p169_1 l169_1 c169_1], .agg #[.int .u64 0, .slice none 0 0, .slice none 0 0]] w4 fun r171 w5 =>
            ∃ b171, r171 = .bool b171 ∧
            cond (!b171)
            (Q (.bool false) w5)
            (law20_TokenBack_j1 n1 p3 l3 c3 n5 b12 p17 p19 l19 c19 w5 Q)))
        (law20_TokenBack_j1 n1 p3 l3 c3 n5 b12 p17 p19 l19 c19 w4 Q))))
  (∃ n163_1, Ld Tryz.prog 88 (.pointer (some (a10.add 0))) w3 (.int .u64 n163_1) ∧
    cond (decide (n5 > n163_1))
    (cond (n143_1 != 20)
      (Q (.bool false) w3)
      (∃ n169_1 p169_2 l169_2 c169_2 p169_3 l169_3 c169_3, Ld Tryz.prog 90 (.pointer (some (⟨k24, 0, none⟩ : Addr))) w3 (.agg #[.int .u64 n169_1, .slice p169_2 l169_2 c169_2, .slice p169_3 l169_3 c169_3]) ∧
        callF Tryz.prog 66 #[.agg #[.int .u64 n169_1, .slice p169_2 l169_2 c169_2, .slice p169_3 l169_3 c169_3], .agg #[.int .u64 0, .slice none 0 0, .slice none 0 0]] w3 fun r171_1 w6 =>
        ∃ b171_1, r171_1 = .bool b171_1 ∧
        cond (!b171_1)
        (Q (.bool false) w6)
        (law20_TokenBack_j1 n1 p3 l3 c3 n5 b12 p17 p19 l19 c19 w6 Q)))
    (law20_TokenBack_j1 n1 p3 l3 c3 n5 b12 p17 p19 l19 c19 w3 Q))
def law20_TokenBack_j3 (p0 : Option Addr) (l0 : Nat) (c0 : Nat) (n1 : Int) (p2 : Option Addr) (l2 : Nat) (c2 : Nat) (p3 : Option Addr) (l3 : Nat) (c3 : Nat) (n5 : Int) (a10 : Addr) (b12 : Bool) (p13 : Option Addr) (l13 : Nat) (c13 : Nat) (n14 : Int) (n16 : Int) (w : World) (Q : Value → World → Prop) : Prop :=
  callF Tryz.prog 68 #[.slice p0 l0 c0] w fun r90 w1 =>
  ∃ p90 p90_1, r90 = .tuple #[.pointer p90, .pointer p90_1] ∧
  ∃ b94 w2, Ef Tryz.prog (do eqGuard .eql 107 (.tmp 93) (.const (.pointer none)) (.pointer p90) (.pointer none); binOp .eql 107 (.pointer p90) (.pointer none) : Sem Value) w1 (.bool b94) w2 ∧
  cond b94
  (Q (.bool false) w2)
  (∃ n100 p100 l100 c100 p100_1 l100_1 c100_1, Ld Tryz.prog 90 (.pointer (some a10)) w2 (.agg #[.int .u64 n100, .slice p100 l100 c100, .slice p100_1 l100_1 c100_1]) ∧
    callF Tryz.prog 69 #[.pointer p90, .int .i64 n1, .slice p2 l2 c2, .slice p3 l3 c3, .agg #[.int .u64 n100, .slice p100 l100 c100, .slice p100_1 l100_1 c100_1]] w2 fun r101 w3 =>
    ∃ p101 l101 c101 n101, r101 = .tuple #[.slice p101 l101 c101, .int .i64 n101] ∧
    cond (n101 != 0)
    (callF Tryz.prog 74 #[.pointer p90, .int .i64 n1] w3 fun r109 w4 =>
      ∃ p109 l109 c109 b109, r109 = .tuple #[.slice p109 l109 c109, .bool b109] ∧
      cond (n101 == 17)
      (Q (.bool (!b109)) w4)
      (Q (.bool false) w4))
    (callF Tryz.prog 65 #[.slice p101 l101 c101] w3 fun r120 w5 =>
      ∃ n120 b120, r120 = .tuple #[.int .i64 n120, .bool b120] ∧
      cond (!b120)
      (Q (.bool false) w5)
      (cond (n120 != n1)
        (Q (.bool false) w5)
        (cond (((l101 : Nat) : Int) != (IntKind.i64.wrap (29 + ((l13 : Nat) : Int))))
          (Q (.bool false) w5)
          (law20_TokenBack_j2 n1 p3 l3 c3 n5 a10 b12 n16 p90 p101 l101 c101 w5 Q)))))
def law20_TokenBack_j4 (p0 : Option Addr) (l0 : Nat) (c0 : Nat) (n1 : Int) (p2 : Option Addr) (l2 : Nat) (c2 : Nat) (p3 : Option Addr) (l3 : Nat) (c3 : Nat) (n5 : Int) (a10 : Addr) (b12 : Bool) (w : World) (Q : Value → World → Prop) : Prop :=
  ∃ n54 p54 l54 c54 p54_1 l54_1 c54_1, Ld Tryz.prog 90 (.pointer (some a10)) w (.agg #[.int .u64 n54, .slice p54 l54 c54, .slice p54_1 l54_1 c54_1]) ∧
  callF Tryz.prog 59 #[.agg #[.int .u64 n54, .slice p54 l54 c54, .slice p54_1 l54_1 c54_1]] w fun r55 w1 =>
  ∃ p55 l55 c55 n55, r55 = .tuple #[.slice p55 l55 c55, .int .i64 n55] ∧
  callF Tryz.prog 62 #[.slice p55 l55 c55] w1 fun r60 w2 =>
  ∃ n60 p60 l60 c60 p60_1 l60_1 c60_1 n60_1, r60 = .tuple #[.agg #[.int .u64 n60, .slice p60 l60 c60, .slice p60_1 l60_1 c60_1], .int .i64 n60_1] ∧
  ∃ z15, Pu Tryz.prog (zeroValue 90) z15 ∧
  New z15.cells 90 w2 fun k15 w3 =>
  ∃ w4, Sto Tryz.prog 90 (.pointer (some (⟨k15, 0, none⟩ : Addr))) (.agg #[.int .u64 n60, .slice p60 l60 c60, .slice p60_1 l60_1 c60_1]) w3 w4 ∧
  cond (n55 != 0)
  (Q (.bool false) w4)
  (cond (n60_1 != 0)
    (Q (.bool false) w4)
    (∃ n70 p70 l70 c70 p70_1 l70_1 c70_1, Ld Tryz.prog 90 (.pointer (some (⟨k15, 0, none⟩ : Addr))) w4 (.agg #[.int .u64 n70, .slice p70 l70 c70, .slice p70_1 l70_1 c70_1]) ∧
      ∃ n71 p71 l71 c71 p71_1 l71_1 c71_1, Ld Tryz.prog 90 (.pointer (some a10)) w4 (.agg #[.int .u64 n71, .slice p71 l71 c71, .slice p71_1 l71_1 c71_1]) ∧
      callF Tryz.prog 66 #[.agg #[.int .u64 n70, .slice p70 l70 c70, .slice p70_1 l70_1 c70_1], .agg #[.int .u64 n71, .slice p71 l71 c71, .slice p71_1 l71_1 c71_1]] w4 fun r72 w5 =>
      ∃ b72, r72 = .bool b72 ∧
      cond (!b72)
      (Q (.bool false) w5)
      (∃ p79 l79 c79, Ld Tryz.prog 25 (.pointer (some (a10.add 1))) w5 (.slice p79 l79 c79) ∧
        ∃ p83 l83 c83, Ld Tryz.prog 25 (.pointer (some (a10.add 2))) w5 (.slice p83 l83 c83) ∧
        cond (((l55 : Nat) : Int) != (IntKind.i64.wrap ((IntKind.i64.wrap (10 + ((l79 : Nat) : Int))) + ((l83 : Nat) : Int))))
        (Q (.bool false) w5)
        (law20_TokenBack_j3 p0 l0 c0 n1 p2 l2 c2 p3 l3 c3 n5 a10 b12 p55 l55 c55 n55 n60_1 w5 Q))))
def law20_TokenBack (p0 : Option Addr) (l0 : Nat) (c0 : Nat) (n1 : Int) (p2 : Option Addr) (l2 : Nat) (c2 : Nat) (p3 : Option Addr) (l3 : Nat) (c3 : Nat) (n4 : Int) (p4 : Option Addr) (l4 : Nat) (c4 : Nat) (p4_1 : Option Addr) (l4_1 : Nat) (c4_1 : Nat) (n5 : Int) (w : World) (Q : Value → World → Prop) : Prop :=
  New #[.int .u64 n4, .slice p4 l4 c4, .slice p4_1 l4_1 c4_1] 90 w fun k10 w1 =>
  callF Tryz.prog 57 #[] w1 fun r27 w2 =>
  ∃ b27, r27 = .bool b27 ∧
  cond (!b27)
  (Q (.bool false) w2)
  (callF Tryz.prog 67 #[.slice p0 l0 c0] w2 fun r30 w3 =>
    ∃ b30, r30 = .bool b30 ∧
    cond b30
    (Q (.bool true) w3)
    (cond (((l2 : Nat) : Int) != 12)
      (Q (.bool true) w3)
      (cond (decide (((l3 : Nat) : Int) > 64))
        (Q (.bool true) w3)
        (∃ p43 l43 c43, Ld Tryz.prog 25 (.pointer (some ((⟨k10, 0, none⟩ : Addr).add 1))) w3 (.slice p43 l43 c43) ∧
          cond (decide (((l43 : Nat) : Int) > 20))
          (Q (.bool true) w3)
          (∃ p49 l49 c49, Ld Tryz.prog 25 (.pointer (some ((⟨k10, 0, none⟩ : Addr).add 2))) w3 (.slice p49 l49 c49) ∧
            cond (decide (((l49 : Nat) : Int) > 20))
            (Q (.bool true) w3)
            (law20_TokenBack_j4 p0 l0 c0 n1 p2 l2 c2 p3 l3 c3 n5 (⟨k10, 0, none⟩ : Addr) false w3 Q))))))
def law20_TokenBack_tt : Nat → List (Nat × TypeId) := fun _ => []
theorem law20_TokenBack_call (p0 : Option Addr) (l0 : Nat) (c0 : Nat) (n1 : Int) (p2 : Option Addr) (l2 : Nat) (c2 : Nat) (p3 : Option Addr) (l3 : Nat) (c3 : Nat) (n4 : Int) (p4 : Option Addr) (l4 : Nat) (c4 : Nat) (p4_1 : Option Addr) (l4_1 : Nat) (c4_1 : Nat) (n5 : Int) (w : World) (Q : Value → World → Prop) (h : law20_TokenBack p0 l0 c0 n1 p2 l2 c2 p3 l3 c3 n4 p4 l4 c4 p4_1 l4_1 c4_1 n5 w Q) : callF Tryz.prog 15 #[.slice p0 l0 c0, .int .i64 n1, .slice p2 l2 c2, .slice p3 l3 c3, .agg #[.int .u64 n4, .slice p4 l4 c4, .slice p4_1 l4_1 c4_1], .int .u64 n5] w Q :=
  callBy law20_TokenBack_tt Tryz.func15 h (fun _ _ => by kernel_rfl) (by kernel_rfl) (by kernel_rfl) (by kernel_rfl)

def law20_alive_j1 (b0 : Bool) (p1 : Option Addr) (w : World) (Q : Value → World → Prop) : Prop :=
  ∃ p35 l35 c35 w1, Ef Tryz.prog (Instr.buildSlice 25 2 #[(0, .int .u8 1), (1, .int .u8 2)]) w (.slice p35 l35 c35) w1 ∧
  ∃ p36 l36 c36 w2, Ef Tryz.prog (Instr.buildSlice 25 1 #[(0, .int .u8 3)]) w1 (.slice p36 l36 c36) w2 ∧
  ∃ z2, Pu Tryz.prog (zeroValue 90) z2 ∧
  New z2.cells 90 w2 fun k2 w3 =>
  ∃ w4, Sto Tryz.prog 90 (.pointer (some (⟨k2, 0, none⟩ : Addr))) (.agg #[.int .u64 100, .slice p35 l35 c35, .slice p36 l36 c36]) w3 w4 ∧
  ∃ p38 l38 c38 w5, Ef Tryz.prog (Instr.makeSlice 25 (.int .i64 12) (.int .i64 12)) w4 (.slice p38 l38 c38) w5 ∧
  ∃ p42 l42 c42 w6, Ef Tryz.prog (Instr.buildSlice 25 1 #[(0, .int .u8 9)]) w5 (.slice p42 l42 c42) w6 ∧
  ∃ n43 p43 l43 c43 p43_1 l43_1 c43_1, Ld Tryz.prog 90 (.pointer (some (⟨k2, 0, none⟩ : Addr))) w6 (.agg #[.int .u64 n43, .slice p43 l43 c43, .slice p43_1 l43_1 c43_1]) ∧
  callF Tryz.prog 69 #[.pointer p1, .int .i64 5, .slice p38 l38 c38, .slice p42 l42 c42, .agg #[.int .u64 n43, .slice p43 l43 c43, .slice p43_1 l43_1 c43_1]] w6 fun r44 w7 =>
  ∃ p44 l44 c44 n44, r44 = .tuple #[.slice p44 l44 c44, .int .i64 n44] ∧
  ∃ p49 l49 c49 w8, Ef Tryz.prog (Instr.buildSlice 25 1 #[(0, .int .u8 9)]) w7 (.slice p49 l49 c49) w8 ∧
  callF Tryz.prog 71 #[.pointer p1, .slice p49 l49 c49, .slice p44 l44 c44, .int .u64 100] w8 fun r51 w9 =>
  ∃ n51 p51 l51 c51 p51_1 l51_1 c51_1 n51_1, r51 = .tuple #[.agg #[.int .u64 n51, .slice p51 l51 c51, .slice p51_1 l51_1 c51_1], .int .i64 n51_1] ∧
  ∃ z6, Pu Tryz.prog (zeroValue 90) z6 ∧
  New z6.cells 90 w9 fun k6 w10 =>
  ∃ w11, Sto Tryz.prog 90 (.pointer (some (⟨k6, 0, none⟩ : Addr))) (.agg #[.int .u64 n51, .slice p51 l51 c51, .slice p51_1 l51_1 c51_1]) w10 w11 ∧
  ∃ p56 l56 c56 w12, Ef Tryz.prog (Instr.buildSlice 25 1 #[(0, .int .u8 9)]) w11 (.slice p56 l56 c56) w12 ∧
  callF Tryz.prog 71 #[.pointer p1, .slice p56 l56 c56, .slice p44 l44 c44, .int .u64 101] w12 fun r58 w13 =>
  ∃ n58 p58 l58 c58 p58_1 l58_1 c58_1 n58_1, r58 = .tuple #[.agg #[.int .u64 n58, .slice p58 l58 c58, .slice p58_1 l58_1 c58_1], .int .i64 n58_1] ∧
  ∃ z8, Pu Tryz.prog (zeroValue 90) z8 ∧
  New z8.cells 90 w13 fun k8 w14 =>
  ∃ w15, Sto Tryz.prog 90 (.pointer (some (⟨k8, 0, none⟩ : Addr))) (.agg #[.int .u64 n58, .slice p58 l58 c58, .slice p58_1 l58_1 c58_1]) w14 w15 ∧
  ∃ p63 l63 c63 w16, Ef Tryz.prog (Instr.buildSlice 25 1 #[(0, .int .u8 8)]) w15 (.slice p63 l63 c63) w16 ∧
  callF Tryz.prog 71 #[.pointer p1, .slice p63 l63 c63, .slice p44 l44 c44, .int .u64 0] w16 fun r65 w17 =>
  ∃ n65 p65 l65 c65 p65_1 l65_1 c65_1 n65_1, r65 = .tuple #[.agg #[.int .u64 n65, .slice p65 l65 c65, .slice p65_1 l65_1 c65_1], .int .i64 n65_1] ∧
  ∃ z10, Pu Tryz.prog (zeroValue 90) z10 ∧
  New z10.cells 90 w17 fun k10 w18 =>
  ∃ w19, Sto Tryz.prog 90 (.pointer (some (⟨k10, 0, none⟩ : Addr))) (.agg #[.int .u64 n65, .slice p65 l65 c65, .slice p65_1 l65_1 c65_1]) w18 w19 ∧
  ∃ n71 p71 l71 c71 p71_1 l71_1 c71_1, Ld Tryz.prog 90 (.pointer (some (⟨k2, 0, none⟩ : Addr))) w19 (.agg #[.int .u64 n71, .slice p71 l71 c71, .slice p71_1 l71_1 c71_1]) ∧
  callF Tryz.prog 69 #[.pointer p1, .int .i64 6, .slice p38 l38 c38, .slice none 0 0, .agg #[.int .u64 n71, .slice p71 l71 c71, .slice p71_1 l71_1 c71_1]] w19 fun r72 w20 =>
  ∃ p72 l72 c72 n72, r72 = .tuple #[.slice p72 l72 c72, .int .i64 n72] ∧
  ∃ p77 l77 c77 w21, Ef Tryz.prog (Instr.makeSlice 25 (.int .i64 29) (.int .i64 29)) w20 (.slice p77 l77 c77) w21 ∧
  callF Tryz.prog 71 #[.pointer p1, .slice none 0 0, .slice p77 l77 c77, .int .u64 0] w21 fun r78 w22 =>
  ∃ n78 p78 l78 c78 p78_1 l78_1 c78_1 n78_1, r78 = .tuple #[.agg #[.int .u64 n78, .slice p78 l78 c78, .slice p78_1 l78_1 c78_1], .int .i64 n78_1] ∧
  ∃ z14, Pu Tryz.prog (zeroValue 90) z14 ∧
  New z14.cells 90 w22 fun k14 w23 =>
  ∃ w24, Sto Tryz.prog 90 (.pointer (some (⟨k14, 0, none⟩ : Addr))) (.agg #[.int .u64 n78, .slice p78 l78 c78, .slice p78_1 l78_1 c78_1]) w23 w24 ∧
  ∃ n82 p82 l82 c82 p82_1 l82_1 c82_1, Ld Tryz.prog 90 (.pointer (some (⟨k2, 0, none⟩ : Addr))) w24 (.agg #[.int .u64 n82, .slice p82 l82 c82, .slice p82_1 l82_1 c82_1]) ∧
  callF Tryz.prog 59 #[.agg #[.int .u64 n82, .slice p82 l82 c82, .slice p82_1 l82_1 c82_1]] w24 fun r83 w25 =>
  ∃ p83 l83 c83 n83, r83 = .tuple #[.slice p83 l83 c83, .int .i64 n83] ∧
  callF Tryz.prog 62 #[.slice p83 l83 c83] w25 fun r88 w26 =>
  ∃ n88 p88 l88 c88 p88_1 l88_1 c88_1 n88_1, r88 = .tuple #[.agg #[.int .u64 n88, .slice p88 l88 c88, .slice p88_1 l88_1 c88_1], .int .i64 n88_1] ∧
  ∃ z18, Pu Tryz.prog (zeroValue 90) z18 ∧
  New z18.cells 90 w26 fun k18 w27 =>
  ∃ w28, Sto Tryz.prog 90 (.pointer (some (⟨k18, 0, none⟩ : Addr))) (.agg #[.int .u64 n88, .slice p88 l88 c88, .slice p88_1 l88_1 c88_1]) w27 w28 ∧
  ∃ p96 l96 c96, Pu Tryz.prog (Instr.sliceAt 25 (.slice p83 l83 c83) none (some (.int .i64 (IntKind.i64.wrap (Int.tdiv ((l83 : Nat) : Int) 2)))) none) (.slice p96 l96 c96) ∧
  callF Tryz.prog 62 #[.slice p96 l96 c96] w28 fun r97 w29 =>
  ∃ n97 p97 l97 c97 p97_1 l97_1 c97_1 n97_1, r97 = .tuple #[.agg #[.int .u64 n97, .slice p97 l97 c97, .slice p97_1 l97_1 c97_1], .int .i64 n97_1] ∧
  ∃ z20, Pu Tryz.prog (zeroValue 90) z20 ∧
  New z20.cells 90 w29 fun k20 w30 =>
  ∃ w31, Sto Tryz.prog 90 (.pointer (some (⟨k20, 0, none⟩ : Addr))) (.agg #[.int .u64 n97, .slice p97 l97 c97, .slice p97_1 l97_1 c97_1]) w30 w31 ∧
  callF Tryz.prog 65 #[.slice p44 l44 c44] w31 fun r102 w32 =>
  ∃ n102 b102, r102 = .tuple #[.int .i64 n102, .bool b102] ∧
  ∃ p106 l106 c106 w33, Ef Tryz.prog (Instr.buildSlice 25 1 #[(0, .int .u8 128)]) w32 (.slice p106 l106 c106) w33 ∧
  callF Tryz.prog 65 #[.slice p106 l106 c106] w33 fun r107 w34 =>
  ∃ n107 b107, r107 = .tuple #[.int .i64 n107, .bool b107] ∧
  cond (n44 == 0)
  (cond (n51_1 == 0)
    (cond (n58_1 == 20)
      (cond (n65_1 == 13)
        (cond (n72 == 17)
          (cond (n78_1 == 17)
            (cond (n83 == 0)
              (cond (n88_1 == 0)
                (cond (n97_1 == 12)
                  (cond b102
                    (cond (n102 == 5)
                      (cond (!b107)
                        (cond (((l44 : Nat) : Int) == 42)
                          (∃ n161 p161 l161 c161 p161_1 l161_1 c161_1, Ld Tryz.prog 90 (.pointer (some (⟨k6, 0, none⟩ : Addr))) w34 (.agg #[.int .u64 n161, .slice p161 l161 c161, .slice p161_1 l161_1 c161_1]) ∧
                            ∃ n162 p162 l162 c162 p162_1 l162_1 c162_1, Ld Tryz.prog 90 (.pointer (some (⟨k2, 0, none⟩ : Addr))) w34 (.agg #[.int .u64 n162, .slice p162 l162 c162, .slice p162_1 l162_1 c162_1]) ∧
                            callF Tryz.prog 66 #[.agg #[.int .u64 n161, .slice p161 l161 c161, .slice p161_1 l161_1 c161_1], .agg #[.int .u64 n162, .slice p162 l162 c162, .slice p162_1 l162_1 c162_1]] w34 fun r163 w35 =>
                            ∃ b163, r163 = .bool b163 ∧
                            cond b163
                            (∃ n166 p166 l166 c166 p166_1 l166_1 c166_1, Ld Tryz.prog 90 (.pointer (some (⟨k18, 0, none⟩ : Addr))) w35 (.agg #[.int .u64 n166, .slice p166 l166 c166, .slice p166_1 l166_1 c166_1]) ∧
                              ∃ n167 p167 l167 c167 p167_1 l167_1 c167_1, Ld Tryz.prog 90 (.pointer (some (⟨k2, 0, none⟩ : Addr))) w35 (.agg #[.int .u64 n167, .slice p167 l167 c167, .slice p167_1 l167_1 c167_1]) ∧
                              callF Tryz.prog 66 #[.agg #[.int .u64 n166, .slice p166 l166 c166, .slice p166_1 l166_1 c166_1], .agg #[.int .u64 n167, .slice p167 l167 c167, .slice p167_1 l167_1 c167_1]] w35 fun r168 w36 =>
                              ∃ b168, r168 = .bool b168 ∧
                              cond b168
                              (∃ n171 p171 l171 c171 p171_1 l171_1 c171_1, Ld Tryz.prog 90 (.pointer (some (⟨k6, 0, none⟩ : Addr))) w36 (.agg #[.int .u64 n171, .slice p171 l171 c171, .slice p171_1 l171_1 c171_1]) ∧
                                callF Tryz.prog 66 #[.agg #[.int .u64 n171, .slice p171 l171 c171, .slice p171_1 l171_1 c171_1], .agg #[.int .u64 0, .slice none 0 0, .slice none 0 0]] w36 fun r173 w37 =>
                                ∃ b173, r173 = .bool b173 ∧
                                cond (!b173)
                                (∃ p178 l178 c178 w38, Ef Tryz.prog (Instr.buildSlice 25 13 #[(0, .int .u8 0), (1, .int .u8 0), (2, .int .u8 0), (3, .int .u8 0), (4, .int .u8 0), (5, .int .u8 0), (6, .int .u8 0), (7, .int .u8 100), (8, .int .u8 2), (9, .int .u8 1), (10, .int .u8 2), (11, .int .u8 1), (12, .int .u8 3)]) w37 (.slice p178 l178 c178) w38 ∧
                                  callF Tryz.prog 33 #[.slice p83 l83 c83, .slice p178 l178 c178] w38 fun r179 w39 =>
                                  ∃ b179, r179 = .bool b179 ∧
                                  Q (.bool b179) w39)
                                (Q (.bool false) w37))
                              (Q (.bool false) w36))
                            (Q (.bool false) w35))
                          (Q (.bool false) w34))
                        (Q (.bool false) w34))
                      (Q (.bool false) w34))
                    (Q (.bool false) w34))
                  (Q (.bool false) w34))
                (Q (.bool false) w34))
              (Q (.bool false) w34))
            (Q (.bool false) w34))
          (Q (.bool false) w34))
        (Q (.bool false) w34))
      (Q (.bool false) w34))
    (Q (.bool false) w34))
  (Q (.bool false) w34)
def law20_alive  (w : World) (Q : Value → World → Prop) : Prop :=
  callF Tryz.prog 137 #[] w fun r26 w1 =>
  ∃ p26, r26 = .pointer p26 ∧
  ∃ b28 w2, Ef Tryz.prog (do eqGuard .eql 107 (.tmp 27) (.const (.pointer none)) (.pointer p26) (.pointer none); binOp .eql 107 (.pointer p26) (.pointer none) : Sem Value) w1 (.bool b28) w2 ∧
  cond b28
  (Q (.bool false) w2)
  (∃ p31 l31 c31 w3, Ef Tryz.prog (Instr.makeSlice 25 (.int .i64 16) (.int .i64 16)) w2 (.slice p31 l31 c31) w3 ∧
    callF Tryz.prog 138 #[.pointer p26, .int .i64 5, .slice p31 l31 c31] w3 fun r32 w4 =>
    ∃ n32, r32 = .int .i64 n32 ∧
    cond (n32 != 0)
    (Q (.bool false) w4)
    (law20_alive_j1 false p26 w4 Q))
def law20_alive_tt : Nat → List (Nat × TypeId) := fun _ => []
theorem law20_alive_call  (w : World) (Q : Value → World → Prop) (h : law20_alive  w Q) : callF Tryz.prog 57 #[] w Q :=
  callBy law20_alive_tt Tryz.func57 h (fun _ _ => by kernel_rfl) (by kernel_rfl) (by kernel_rfl) (by kernel_rfl)

def law20_long (n0 : Int) (p0 : Option Addr) (l0 : Nat) (c0 : Nat) (p0_1 : Option Addr) (l0_1 : Nat) (c0_1 : Nat) (w : World) (Q : Value → World → Prop) : Prop :=
  New #[.int .u64 n0, .slice p0 l0 c0, .slice p0_1 l0_1 c0_1] 90 w fun k1 w1 =>
  ∃ p4 l4 c4, Ld Tryz.prog 25 (.pointer (some ((⟨k1, 0, none⟩ : Addr).add 1))) w1 (.slice p4 l4 c4) ∧
  cond (decide (((l4 : Nat) : Int) > 300))
  (Q (.bool true) w1)
  (∃ p9 l9 c9, Ld Tryz.prog 25 (.pointer (some ((⟨k1, 0, none⟩ : Addr).add 2))) w1 (.slice p9 l9 c9) ∧
    Q (.bool (decide (((l9 : Nat) : Int) > 300))) w1)
def law20_long_tt : Nat → List (Nat × TypeId) := fun _ => []
theorem law20_long_call (n0 : Int) (p0 : Option Addr) (l0 : Nat) (c0 : Nat) (p0_1 : Option Addr) (l0_1 : Nat) (c0_1 : Nat) (w : World) (Q : Value → World → Prop) (h : law20_long n0 p0 l0 c0 p0_1 l0_1 c0_1 w Q) : callF Tryz.prog 58 #[.agg #[.int .u64 n0, .slice p0 l0 c0, .slice p0_1 l0_1 c0_1]] w Q :=
  callBy law20_long_tt Tryz.func58 h (fun _ _ => by kernel_rfl) (by kernel_rfl) (by kernel_rfl) (by kernel_rfl)

def law20_Of (n0 : Int) (p0 : Option Addr) (l0 : Nat) (c0 : Nat) (p0_1 : Option Addr) (l0_1 : Nat) (c0_1 : Nat) (w : World) (Q : Value → World → Prop) : Prop :=
  New #[.int .u64 n0, .slice p0 l0 c0, .slice p0_1 l0_1 c0_1] 90 w fun k1 w1 =>
  ∃ z2, Pu Tryz.prog (zeroValue 94) z2 ∧
  New z2.cells 94 w1 fun k2 w2 =>
  ∃ (S1 : World → Prop),
  Drw w2 fun w3 =>
  ∃ n4, HLd Tryz.prog S1 88 (.pointer (some ((⟨k1, 0, none⟩ : Addr).add 0))) w3 (.int .u64 n4) ∧
  ∃ p6 l6 c6, HLd Tryz.prog S1 25 (.pointer (some ((⟨k1, 0, none⟩ : Addr).add 1))) w3 (.slice p6 l6 c6) ∧
  ∃ p9 l9 c9, HLd Tryz.prog S1 25 (.pointer (some ((⟨k1, 0, none⟩ : Addr).add 2))) w3 (.slice p9 l9 c9) ∧
  callF Tryz.prog 25 #[.slice p6 l6 c6] w3 fun r7 w4 =>
  ∃ p7 l7 c7, r7 = .slice p7 l7 c7 ∧
  (w4 = w3 ∨ S1 w4) ∧
  callF Tryz.prog 25 #[.slice p9 l9 c9] w4 fun r10 w5 =>
  ∃ p10 l10 c10, r10 = .slice p10 l10 c10 ∧
  (w5 = w4 ∨ S1 w5) ∧
  ∃ w6, Sto Tryz.prog 94 (.pointer (some (⟨k2, 0, none⟩ : Addr))) (.agg #[.int .u64 n4, .slice p7 l7 c7, .slice p10 l10 c10]) w5 w6 ∧
  ∃ a2 v2, (.pointer (some (⟨k2, 0, none⟩ : Addr)) : Value) = .pointer (some a2) ∧ (loadVar 94 a2).run Tryz.prog w6 = .ok v2 w6 ∧
  Q (v2) w6
def law20_Of_tt : Nat → List (Nat × TypeId) := fun _ => []
theorem law20_Of_call (n0 : Int) (p0 : Option Addr) (l0 : Nat) (c0 : Nat) (p0_1 : Option Addr) (l0_1 : Nat) (c0_1 : Nat) (w : World) (Q : Value → World → Prop) (h : law20_Of n0 p0 l0 c0 p0_1 l0_1 c0_1 w Q) : callF Tryz.prog 61 #[.agg #[.int .u64 n0, .slice p0 l0 c0, .slice p0_1 l0_1 c0_1]] w Q :=
  callBy law20_Of_tt Tryz.func61 h (fun _ _ => by kernel_rfl) (by kernel_rfl) (by kernel_rfl) (by kernel_rfl)

def law20_Rings (p0 : Option Addr) (l0 : Nat) (c0 : Nat) (w : World) (Q : Value → World → Prop) : Prop :=
  callF Tryz.prog 137 #[] w fun r7 w1 =>
  ∃ p7, r7 = .pointer p7 ∧
  New #[.slice none 0 0] 233 w1 fun k9 w2 =>
  ∃ b11 w3, Ef Tryz.prog (do eqGuard .eql 107 (.tmp 10) (.const (.pointer none)) (.pointer p7) (.pointer none); binOp .eql 107 (.pointer p7) (.pointer none) : Sem Value) w2 (.bool b11) w3 ∧
  cond b11
  (Q (.tuple #[.pointer none, .pointer (some (⟨k9, 0, none⟩ : Addr))]) w3)
  (LoopS [.slice p0 l0 c0, .pointer none, .pointer none, .pointer p7, .pointer (some (⟨k9, 0, none⟩ : Addr)), .int .i64 0] w3 fun I1 μ1 us1 _ wl1 =>
    ∃ p0_1 l0_1 c0_1 p2 p3 p4 a5 n6, us1 = [.slice p0_1 l0_1 c0_1, .pointer p2, .pointer p3, .pointer p4, .pointer (some a5), .int .i64 n6] ∧
    cond (decide (n6 < ((l0_1 : Nat) : Int)))
    (∃ a23, IxA Tryz.prog 105 (.slice p0_1 l0_1 c0_1) (.int .i64 n6) a23 ∧
      ∃ n24 n24_1 p24 l24 c24, Ld Tryz.prog 119 (.pointer (some a23)) wl1 (.agg #[.int .i64 n24, .int .i64 n24_1, .slice p24 l24 c24]) ∧
      callF Tryz.prog 73 #[.pointer p4, .pointer (some a5), .agg #[.int .i64 n24, .int .i64 n24_1, .slice p24 l24 c24]] wl1 fun r25 w4 =>
      ∃ b25, r25 = .bool b25 ∧
      goesOn [] [] I1 μ1 us1 [.slice p0_1 l0_1 c0_1, .pointer p2, .pointer p3, .pointer p4, .pointer (some a5), .int .i64 (IntKind.i64.wrap (n6 + 1))] wl1 w4)
    (Q (.tuple #[.pointer p4, .pointer (some a5)]) wl1))
def law20_Rings_tt : Nat → List (Nat × TypeId) := fun n => match n with | 0 => [(0, 105), (2, 107), (3, 108), (4, 107), (5, 1000000), (6, 3)] | _ => []
theorem law20_Rings_call (p0 : Option Addr) (l0 : Nat) (c0 : Nat) (w : World) (Q : Value → World → Prop) (h : law20_Rings p0 l0 c0 w Q) : callF Tryz.prog 68 #[.slice p0 l0 c0] w Q :=
  callBy law20_Rings_tt Tryz.func68 h (fun _ _ => by kernel_rfl) (by kernel_rfl) (by kernel_rfl) (by kernel_rfl)
end Go.Sh
end
