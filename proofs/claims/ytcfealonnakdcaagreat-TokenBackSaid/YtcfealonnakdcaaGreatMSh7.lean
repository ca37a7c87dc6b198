/- A part of a proof of a given law of this program: lemmas, printed forms of its functions, contracts. It has no conditions of its own. -/
import Derived.Test.YtcfealonnakdcaaGreatProg
import Derived.Test.YtcfealonnakdcaaGreatMFw

section
namespace Go.Sh
open Go Go.Fw Go.Proofs
set_option maxRecDepth 100000
set_option linter.unusedVariables false

def ring_Ring_Key (p0 : Option Addr) (n1 : Int) (w : World) (Q : Value → World → Prop) : Prop :=
  callF Tryz.prog 156 #[.pointer p0, .int .i64 n1] w fun r11 w1 =>
  ∃ p11 n11 p11_1 l11 c11 b11, r11 = .tuple #[.agg #[.pointer p11, .int .i64 n11, .slice p11_1 l11 c11], .bool b11] ∧
  ∃ z6, Pu Tryz.prog (zeroValue 242) z6 ∧
  New z6.cells 242 w1 fun k6 w2 =>
  ∃ w3, Sto Tryz.prog 242 (.pointer (some (⟨k6, 0, none⟩ : Addr))) (.agg #[.pointer p11, .int .i64 n11, .slice p11_1 l11 c11]) w2 w3 ∧
  ∃ p15 l15 c15, Ld Tryz.prog 25 (.pointer (some ((⟨k6, 0, none⟩ : Addr).add 2))) w3 (.slice p15 l15 c15) ∧
  callF Tryz.prog 102 #[.slice p15 l15 c15] w3 fun r16 w4 =>
  ∃ p16 l16 c16, r16 = .slice p16 l16 c16 ∧
  Q (.tuple #[.slice p16 l16 c16, .bool b11]) w4
def ring_Ring_Key_tt : Nat → List (Nat × TypeId) := fun _ => []
theorem ring_Ring_Key_call (p0 : Option Addr) (n1 : Int) (w : World) (Q : Value → World → Prop) (h : ring_Ring_Key p0 n1 w Q) : callF Tryz.prog 74 #[.pointer p0, .int .i64 n1] w Q :=
  callBy ring_Ring_Key_tt Tryz.func74 h (fun _ _ => by kernel_rfl) (by kernel_rfl) (by kernel_rfl) (by kernel_rfl)

def ring_Ring_Retire_j1 (p0 : Option Addr) (n4 : Int) (n5 : Int) (w : World) (Q : Value → World → Prop) : Prop :=
  ∃ a21, p0 = some a21 ∧
  ∃ p23 l23 c23, Ld Tryz.prog 245 (.pointer (some (a21.add 0))) w (.slice p23 l23 c23) ∧
  callF Tryz.prog 158 #[.slice p23 l23 c23, .int .i64 n5, .int .i64 (IntKind.i64.wrap (n5 + 1))] w fun r27 w1 =>
  ∃ p27 l27 c27, r27 = .slice p27 l27 c27 ∧
  ∃ a28, p0 = some a28 ∧
  ∃ w2, Sto Tryz.prog 245 (.pointer (some (a28.add 0))) (.slice p27 l27 c27) w1 w2 ∧
  Q (.int .i64 0) w2
def ring_Ring_Retire_j2 (p0 : Option Addr) (n4 : Int) (n5 : Int) (b9 : Bool) (w : World) (Q : Value → World → Prop) : Prop :=
  cond b9
  (Q (.int .i64 11) w)
  (cond (decide (n5 < 0))
    (Q (.int .i64 17) w)
    (ring_Ring_Retire_j1 p0 n4 n5 w Q))
def ring_Ring_Retire (p0 : Option Addr) (n1 : Int) (w : World) (Q : Value → World → Prop) : Prop :=
  callF Tryz.prog 157 #[.pointer p0, .int .i64 n1] w fun r8 w1 =>
  ∃ n8, r8 = .int .i64 n8 ∧
  cond (decide (n1 < 0))
  (ring_Ring_Retire_j2 p0 0 n8 true w1 Q)
  (ring_Ring_Retire_j2 p0 0 n8 (decide (n1 > 127)) w1 Q)
def ring_Ring_Retire_tt : Nat → List (Nat × TypeId) := fun _ => []
theorem ring_Ring_Retire_call (p0 : Option Addr) (n1 : Int) (w : World) (Q : Value → World → Prop) (h : ring_Ring_Retire p0 n1 w Q) : callF Tryz.prog 75 #[.pointer p0, .int .i64 n1] w Q :=
  callBy ring_Ring_Retire_tt Tryz.func75 h (fun _ _ => by kernel_rfl) (by kernel_rfl) (by kernel_rfl) (by kernel_rfl)

def ring_New  (w : World) (Q : Value → World → Prop) : Prop :=
  New #[.slice none 0 0] 248 w fun k2 w1 =>
  Q (.pointer (some (⟨k2, 0, none⟩ : Addr))) w1
def ring_New_tt : Nat → List (Nat × TypeId) := fun _ => []
theorem ring_New_call  (w : World) (Q : Value → World → Prop) (h : ring_New  w Q) : callF Tryz.prog 137 #[] w Q :=
  callBy ring_New_tt Tryz.func137 h (fun _ _ => by kernel_rfl) (by kernel_rfl) (by kernel_rfl) (by kernel_rfl)

def ring_Ring_Install_j1 (p0 : Option Addr) (n1 : Int) (p2 : Option Addr) (l2 : Nat) (c2 : Nat) (n6 : Int) (p7 : Option Addr) (w : World) (Q : Value → World → Prop) : Prop :=
  ∃ (S8 : World → Prop),
  Drw w fun w1 =>
  ∃ a39, p0 = some a39 ∧
  ∃ p41 l41 c41, HLd Tryz.prog S8 245 (.pointer (some (a39.add 0))) w1 (.slice p41 l41 c41) ∧
  callF Tryz.prog 102 #[.slice p2 l2 c2] w1 fun r45 w2 =>
  ∃ p45 l45 c45, r45 = .slice p45 l45 c45 ∧
  (w2 = w1 ∨ S8 w2) ∧
  ∃ p47 l47 c47 w3, Ef Tryz.prog (Instr.buildSlice 245 1 #[(0, .agg #[.pointer p7, .int .i64 n1, .slice p45 l45 c45])]) w2 (.slice p47 l47 c47) w3 ∧
  (w3 = w2 ∨ S8 w3) ∧
  ∃ p48 l48 c48 w4, Ef Tryz.prog (Builtin.append_ #[245, 245] 245 #[.slice p41 l41 c41, .slice p47 l47 c47]) w3 (.slice p48 l48 c48) w4 ∧
  ∃ a49, p0 = some a49 ∧
  ∃ w5, Sto Tryz.prog 245 (.pointer (some (a49.add 0))) (.slice p48 l48 c48) w4 w5 ∧
  Q (.int .i64 0) w5
def ring_Ring_Install_j2 (p0 : Option Addr) (n1 : Int) (p2 : Option Addr) (l2 : Nat) (c2 : Nat) (n6 : Int) (p7 : Option Addr) (b14 : Bool) (w : World) (Q : Value → World → Prop) : Prop :=
  cond b14
  (Q (.int .i64 11) w)
  (callF Tryz.prog 157 #[.pointer p0, .int .i64 n1] w fun r28 w1 =>
    ∃ n28, r28 = .int .i64 n28 ∧
    cond (decide (n28 ≥ 0))
    (Q (.int .i64 16) w1)
    (∃ a32, p0 = some a32 ∧
      ∃ p34 l34 c34, Ld Tryz.prog 245 (.pointer (some (a32.add 0))) w1 (.slice p34 l34 c34) ∧
      cond (decide (((l34 : Nat) : Int) ≥ 16))
      (Q (.int .i64 18) w1)
      (ring_Ring_Install_j1 p0 n1 p2 l2 c2 n6 p7 w1 Q)))
def ring_Ring_Install (p0 : Option Addr) (n1 : Int) (p2 : Option Addr) (l2 : Nat) (c2 : Nat) (w : World) (Q : Value → World → Prop) : Prop :=
  callF Tryz.prog 121 #[.slice p2 l2 c2] w fun r11 w1 =>
  ∃ p11 n11, r11 = .tuple #[.pointer p11, .int .i64 n11] ∧
  cond (decide (n1 < 0))
  (ring_Ring_Install_j2 p0 n1 p2 l2 c2 0 p11 true w1 Q)
  (cond (decide (n1 > 127))
    (ring_Ring_Install_j2 p0 n1 p2 l2 c2 0 p11 true w1 Q)
    (ring_Ring_Install_j2 p0 n1 p2 l2 c2 0 p11 (n11 != 0) w1 Q))
def ring_Ring_Install_tt : Nat → List (Nat × TypeId) := fun _ => []
theorem ring_Ring_Install_call (p0 : Option Addr) (n1 : Int) (p2 : Option Addr) (l2 : Nat) (c2 : Nat) (w : World) (Q : Value → World → Prop) (h : ring_Ring_Install p0 n1 p2 l2 c2 w Q) : callF Tryz.prog 138 #[.pointer p0, .int .i64 n1, .slice p2 l2 c2] w Q :=
  callBy ring_Ring_Install_tt Tryz.func138 h (fun _ _ => by kernel_rfl) (by kernel_rfl) (by kernel_rfl) (by kernel_rfl)

def ring_Ring_Box (p0 : Option Addr) (n1 : Int) (w : World) (Q : Value → World → Prop) : Prop :=
  callF Tryz.prog 156 #[.pointer p0, .int .i64 n1] w fun r11 w1 =>
  ∃ p11 n11 p11_1 l11 c11 b11, r11 = .tuple #[.agg #[.pointer p11, .int .i64 n11, .slice p11_1 l11 c11], .bool b11] ∧
  ∃ z6, Pu Tryz.prog (zeroValue 242) z6 ∧
  New z6.cells 242 w1 fun k6 w2 =>
  ∃ w3, Sto Tryz.prog 242 (.pointer (some (⟨k6, 0, none⟩ : Addr))) (.agg #[.pointer p11, .int .i64 n11, .slice p11_1 l11 c11]) w2 w3 ∧
  ∃ p15, Ld Tryz.prog 205 (.pointer (some ((⟨k6, 0, none⟩ : Addr).add 0))) w3 (.pointer p15) ∧
  Q (.tuple #[.pointer p15, .bool b11]) w3
def ring_Ring_Box_tt : Nat → List (Nat × TypeId) := fun _ => []
theorem ring_Ring_Box_call (p0 : Option Addr) (n1 : Int) (w : World) (Q : Value → World → Prop) (h : ring_Ring_Box p0 n1 w Q) : callF Tryz.prog 149 #[.pointer p0, .int .i64 n1] w Q :=
  callBy ring_Ring_Box_tt Tryz.func149 h (fun _ _ => by kernel_rfl) (by kernel_rfl) (by kernel_rfl) (by kernel_rfl)

def ring_Ring_of (p0 : Option Addr) (n1 : Int) (w : World) (Q : Value → World → Prop) : Prop :=
  ∃ z4, Pu Tryz.prog (zeroValue 242) z4 ∧
  New z4.cells 242 w fun k4 w1 =>
  callF Tryz.prog 157 #[.pointer p0, .int .i64 n1] w1 fun r9 w2 =>
  ∃ n9, r9 = .int .i64 n9 ∧
  cond (decide (n9 ≥ 0))
  (∃ a13, p0 = some a13 ∧
    ∃ p15 l15 c15, Ld Tryz.prog 245 (.pointer (some (a13.add 0))) w2 (.slice p15 l15 c15) ∧
    ∃ a17, IxA Tryz.prog 245 (.slice p15 l15 c15) (.int .i64 n9) a17 ∧
    ∃ p18 n18 p18_1 l18 c18, Ld Tryz.prog 242 (.pointer (some a17)) w2 (.agg #[.pointer p18, .int .i64 n18, .slice p18_1 l18 c18]) ∧
    ∃ w3, Sto Tryz.prog 242 (.pointer (some (⟨k4, 0, none⟩ : Addr))) (.agg #[.pointer p18, .int .i64 n18, .slice p18_1 l18 c18]) w2 w3 ∧
    ∃ a4 v4, (.pointer (some (⟨k4, 0, none⟩ : Addr)) : Value) = .pointer (some a4) ∧ (loadVar 242 a4).run Tryz.prog w3 = .ok v4 w3 ∧
    Q (.tuple #[v4, .bool true]) w3)
  (∃ w4, Sto Tryz.prog 242 (.pointer (some (⟨k4, 0, none⟩ : Addr))) (.agg #[.pointer none, .int .i64 0, .slice none 0 0]) w2 w4 ∧
    ∃ a4_1 v4_1, (.pointer (some (⟨k4, 0, none⟩ : Addr)) : Value) = .pointer (some a4_1) ∧ (loadVar 242 a4_1).run Tryz.prog w4 = .ok v4_1 w4 ∧
    Q (.tuple #[v4_1, .bool false]) w4)
def ring_Ring_of_tt : Nat → List (Nat × TypeId) := fun _ => []
theorem ring_Ring_of_call (p0 : Option Addr) (n1 : Int) (w : World) (Q : Value → World → Prop) (h : ring_Ring_of p0 n1 w Q) : callF Tryz.prog 156 #[.pointer p0, .int .i64 n1] w Q :=
  callBy ring_Ring_of_tt Tryz.func156 h (fun _ _ => by kernel_rfl) (by kernel_rfl) (by kernel_rfl) (by kernel_rfl)

def ring_Ring_find (p0 : Option Addr) (n1 : Int) (w : World) (Q : Value → World → Prop) : Prop :=
  New #[.int .i64 n1] 3 w fun k3 w1 =>
  ∃ a6, p0 = some a6 ∧
  ∃ p8 l8 c8, Ld Tryz.prog 245 (.pointer (some (a6.add 0))) w1 (.slice p8 l8 c8) ∧
  callF Tryz.prog 212 #[.slice p8 l8 c8, .func (.func 213) #[] #[.pointer (some (⟨k3, 0, none⟩ : Addr))]] w1 fun r10 w2 =>
  ∃ n10, r10 = .int .i64 n10 ∧
  Q (.int .i64 n10) w2
def ring_Ring_find_tt : Nat → List (Nat × TypeId) := fun _ => []
theorem ring_Ring_find_call (p0 : Option Addr) (n1 : Int) (w : World) (Q : Value → World → Prop) (h : ring_Ring_find p0 n1 w Q) : callF Tryz.prog 157 #[.pointer p0, .int .i64 n1] w Q :=
  callBy ring_Ring_find_tt Tryz.func157 h (fun _ _ => by kernel_rfl) (by kernel_rfl) (by kernel_rfl) (by kernel_rfl)

def ring_Ring_find_c1 (p0 : Option Addr) (n0 : Int) (p0_1 : Option Addr) (l0 : Nat) (c0 : Nat) (p1 : Option Addr) (w : World) (Q : Value → World → Prop) : Prop :=
  New #[.pointer p0, .int .i64 n0, .slice p0_1 l0 c0] 242 w fun k2 w1 =>
  ∃ n5, Ld Tryz.prog 3 (.pointer (some ((⟨k2, 0, none⟩ : Addr).add 1))) w1 (.int .i64 n5) ∧
  ∃ n6, Ld Tryz.prog 3 (.pointer p1) w1 (.int .i64 n6) ∧
  Q (.bool (n5 == n6)) w1
def ring_Ring_find_c1_tt : Nat → List (Nat × TypeId) := fun _ => []
theorem ring_Ring_find_c1_call (p0 : Option Addr) (n0 : Int) (p0_1 : Option Addr) (l0 : Nat) (c0 : Nat) (p1 : Option Addr) (w : World) (Q : Value → World → Prop) (h : ring_Ring_find_c1 p0 n0 p0_1 l0 c0 p1 w Q) : callF Tryz.prog 213 #[.agg #[.pointer p0, .int .i64 n0, .slice p0_1 l0 c0], .pointer p1] w Q :=
  callBy ring_Ring_find_c1_tt Tryz.func213 h (fun _ _ => by kernel_rfl) (by kernel_rfl) (by kernel_rfl) (by kernel_rfl)
end Go.Sh
end

section
namespace Go.Sh
open Go Go.Fw Go.Proofs
set_option maxRecDepth 100000
set_option linter.unusedVariables false

def ref19_Ring_Find (p0 : Option Addr) (n1 : Int) (w : World) (Q : Value → World → Prop) : Prop :=
  LoopS [.pointer p0, .int .i64 n1, .int .i64 0, .int .i64 0] w fun I1 μ1 us1 _ wl1 =>
  ∃ p0_1 n1_1 n4 n5, us1 = [.pointer p0_1, .int .i64 n1_1, .int .i64 n4, .int .i64 n5] ∧
  ∃ a8, p0_1 = some a8 ∧
  ∃ p10 l10 c10, Ld Tryz.prog 231 (.pointer (some (a8.add 0))) wl1 (.slice p10 l10 c10) ∧
  cond (decide (n5 < ((l10 : Nat) : Int)))
  (∃ a16, p0_1 = some a16 ∧
    ∃ p18 l18 c18, Ld Tryz.prog 231 (.pointer (some (a16.add 0))) wl1 (.slice p18 l18 c18) ∧
    ∃ a20, IxA Tryz.prog 231 (.slice p18 l18 c18) (.int .i64 n5) a20 ∧
    ∃ n22, Ld Tryz.prog 3 (.pointer (some (a20.add 0))) wl1 (.int .i64 n22) ∧
    cond (n22 == n1_1)
    (Q (.int .i64 n5) wl1)
    (goesOn [] [] I1 μ1 us1 [.pointer p0_1, .int .i64 n1_1, .int .i64 n4, .int .i64 (IntKind.i64.wrap (n5 + 1))] wl1 wl1))
  (Q (.int .i64 (-1)) wl1)
def ref19_Ring_Find_tt : Nat → List (Nat × TypeId) := fun n => match n with | 0 => [(0, 108), (1, 3), (4, 3), (5, 3)] | _ => []
theorem ref19_Ring_Find_call (p0 : Option Addr) (n1 : Int) (w : World) (Q : Value → World → Prop) (h : ref19_Ring_Find p0 n1 w Q) : callF Tryz.prog 151 #[.pointer p0, .int .i64 n1] w Q :=
  callBy ref19_Ring_Find_tt Tryz.func151 h (fun _ _ => by kernel_rfl) (by kernel_rfl) (by kernel_rfl) (by kernel_rfl)

def ref19_Ring_Install_j1 (p0 : Option Addr) (n1 : Int) (p2 : Option Addr) (l2 : Nat) (c2 : Nat) (n6 : Int) (w : World) (Q : Value → World → Prop) : Prop :=
  callF Tryz.prog 151 #[.pointer p0, .int .i64 n1] w fun r20 w1 =>
  ∃ n20, r20 = .int .i64 n20 ∧
  cond (decide (n20 ≥ 0))
  (Q (.int .i64 16) w1)
  (∃ a23, p0 = some a23 ∧
    ∃ p25 l25 c25, Ld Tryz.prog 231 (.pointer (some (a23.add 0))) w1 (.slice p25 l25 c25) ∧
    cond (((l25 : Nat) : Int) == 16)
    (Q (.int .i64 18) w1)
    (∃ (S7 : World → Prop),
      Drw w1 fun w2 =>
      ∃ a30, p0 = some a30 ∧
      ∃ p32 l32 c32, HLd Tryz.prog S7 231 (.pointer (some (a30.add 0))) w2 (.slice p32 l32 c32) ∧
      ∃ p34 l34 c34 w3, Ef Tryz.prog (Instr.buildSlice 25 0 #[]) w2 (.slice p34 l34 c34) w3 ∧
      (w3 = w2 ∨ S7 w3) ∧
      ∃ p36 l36 c36 w4, Ef Tryz.prog (Builtin.append_ #[25, 25] 25 #[.slice p34 l34 c34, .slice p2 l2 c2]) w3 (.slice p36 l36 c36) w4 ∧
      (w4 = w3 ∨ S7 w4) ∧
      ∃ p38 l38 c38 w5, Ef Tryz.prog (Instr.buildSlice 231 1 #[(0, .agg #[.int .i64 n1, .slice p36 l36 c36])]) w4 (.slice p38 l38 c38) w5 ∧
      (w5 = w4 ∨ S7 w5) ∧
      ∃ p39 l39 c39 w6, Ef Tryz.prog (Builtin.append_ #[231, 231] 231 #[.slice p32 l32 c32, .slice p38 l38 c38]) w5 (.slice p39 l39 c39) w6 ∧
      ∃ a40, p0 = some a40 ∧
      ∃ w7, Sto Tryz.prog 231 (.pointer (some (a40.add 0))) (.slice p39 l39 c39) w6 w7 ∧
      Q (.int .i64 0) w7))
def ref19_Ring_Install (p0 : Option Addr) (n1 : Int) (p2 : Option Addr) (l2 : Nat) (c2 : Nat) (w : World) (Q : Value → World → Prop) : Prop :=
  cond (decide (n1 < 0))
  (Q (.int .i64 11) w)
  (cond (decide (n1 > 127))
    (Q (.int .i64 11) w)
    (cond (((l2 : Nat) : Int) != 16)
      (Q (.int .i64 11) w)
      (ref19_Ring_Install_j1 p0 n1 p2 l2 c2 0 w Q)))
def ref19_Ring_Install_tt : Nat → List (Nat × TypeId) := fun _ => []
theorem ref19_Ring_Install_call (p0 : Option Addr) (n1 : Int) (p2 : Option Addr) (l2 : Nat) (c2 : Nat) (w : World) (Q : Value → World → Prop) (h : ref19_Ring_Install p0 n1 p2 l2 c2 w Q) : callF Tryz.prog 154 #[.pointer p0, .int .i64 n1, .slice p2 l2 c2] w Q :=
  callBy ref19_Ring_Install_tt Tryz.func154 h (fun _ _ => by kernel_rfl) (by kernel_rfl) (by kernel_rfl) (by kernel_rfl)

def ref19_Ring_Retire_j1 (p0 : Option Addr) (n1 : Int) (n4 : Int) (w : World) (Q : Value → World → Prop) : Prop :=
  callF Tryz.prog 151 #[.pointer p0, .int .i64 n1] w fun r14 w1 =>
  ∃ n14, r14 = .int .i64 n14 ∧
  cond (decide (n14 < 0))
  (Q (.int .i64 17) w1)
  (∃ (S6 : World → Prop),
    Drw w1 fun w2 =>
    ∃ a20, p0 = some a20 ∧
    ∃ a27, p0 = some a27 ∧
    ∃ p22 l22 c22, HLd Tryz.prog S6 231 (.pointer (some (a20.add 0))) w2 (.slice p22 l22 c22) ∧
    ∃ p24 l24 c24, Pu Tryz.prog (Instr.sliceAt 231 (.slice p22 l22 c22) none (some (.int .i64 n14)) none) (.slice p24 l24 c24) ∧
    ∃ p29 l29 c29, HLd Tryz.prog S6 231 (.pointer (some (a27.add 0))) w2 (.slice p29 l29 c29) ∧
    ∃ p32 l32 c32, Pu Tryz.prog (Instr.sliceAt 231 (.slice p29 l29 c29) (some (.int .i64 (IntKind.i64.wrap (n14 + 1)))) none none) (.slice p32 l32 c32) ∧
    ∃ p18 l18 c18 w3, Ef Tryz.prog (Instr.buildSlice 231 0 #[]) w2 (.slice p18 l18 c18) w3 ∧
    (w3 = w2 ∨ S6 w3) ∧
    ∃ p25 l25 c25 w4, Ef Tryz.prog (Builtin.append_ #[231, 231] 231 #[.slice p18 l18 c18, .slice p24 l24 c24]) w3 (.slice p25 l25 c25) w4 ∧
    (w4 = w3 ∨ S6 w4) ∧
    ∃ p33 l33 c33 w5, Ef Tryz.prog (Builtin.append_ #[231, 231] 231 #[.slice p25 l25 c25, .slice p32 l32 c32]) w4 (.slice p33 l33 c33) w5 ∧
    ∃ a34, p0 = some a34 ∧
    ∃ w6, Sto Tryz.prog 231 (.pointer (some (a34.add 0))) (.slice p33 l33 c33) w5 w6 ∧
    Q (.int .i64 0) w6)
def ref19_Ring_Retire (p0 : Option Addr) (n1 : Int) (w : World) (Q : Value → World → Prop) : Prop :=
  cond (decide (n1 < 0))
  (Q (.int .i64 11) w)
  (cond (decide (n1 > 127))
    (Q (.int .i64 11) w)
    (ref19_Ring_Retire_j1 p0 n1 0 w Q))
def ref19_Ring_Retire_tt : Nat → List (Nat × TypeId) := fun _ => []
theorem ref19_Ring_Retire_call (p0 : Option Addr) (n1 : Int) (w : World) (Q : Value → World → Prop) (h : ref19_Ring_Retire p0 n1 w Q) : callF Tryz.prog 155 #[.pointer p0, .int .i64 n1] w Q :=
  callBy ref19_Ring_Retire_tt Tryz.func155 h (fun _ _ => by kernel_rfl) (by kernel_rfl) (by kernel_rfl) (by kernel_rfl)
end Go.Sh
end

section
namespace Go.Sh
open Go Go.Fw Go.Proofs
set_option maxRecDepth 100000
set_option linter.unusedVariables false

def law19_Great (p0 : Option Addr) (l0 : Nat) (c0 : Nat) (w : World) (Q : Value → World → Prop) : Prop :=
  cond (decide (((l0 : Nat) : Int) > 60))
  (Q (.bool true) w)
  (LoopS [.slice p0 l0 c0, .bool false, .int .i64 0] w fun I1 μ1 us1 _ wl1 =>
    ∃ p0_1 l0_1 c0_1 b2 n3, us1 = [.slice p0_1 l0_1 c0_1, .bool b2, .int .i64 n3] ∧
    cond (decide (n3 < ((l0_1 : Nat) : Int)))
    (∃ a15, IxA Tryz.prog 105 (.slice p0_1 l0_1 c0_1) (.int .i64 n3) a15 ∧
      ∃ p17 l17 c17, Ld Tryz.prog 25 (.pointer (some (a15.add 2))) wl1 (.slice p17 l17 c17) ∧
      cond (decide (((l17 : Nat) : Int) > 100))
      (Q (.bool true) wl1)
      (goesOn [] [] I1 μ1 us1 [.slice p0_1 l0_1 c0_1, .bool b2, .int .i64 (IntKind.i64.wrap (n3 + 1))] wl1 wl1))
    (Q (.bool false) wl1))
def law19_Great_tt : Nat → List (Nat × TypeId) := fun n => match n with | 0 => [(0, 105), (2, 4), (3, 3)] | _ => []
theorem law19_Great_call (p0 : Option Addr) (l0 : Nat) (c0 : Nat) (w : World) (Q : Value → World → Prop) (h : law19_Great p0 l0 c0 w Q) : callF Tryz.prog 67 #[.slice p0 l0 c0] w Q :=
  callBy law19_Great_tt Tryz.func67 h (fun _ _ => by kernel_rfl) (by kernel_rfl) (by kernel_rfl) (by kernel_rfl)

def law19_Do_j1 (b6 : Bool) (p7 : Option Addr) (l7 : Nat) (c7 : Nat) (b8 : Bool) (w : World) (Q : Value → World → Prop) : Prop :=
  LoopS [.bool b6, .slice p7 l7 c7, .bool b8, .int .i64 0] w fun I1 μ1 us1 _ wl1 =>
  ∃ b6_1 p7_1 l7_1 c7_1 b8_1 n9, us1 = [.bool b6_1, .slice p7_1 l7_1 c7_1, .bool b8_1, .int .i64 n9] ∧
  cond (decide (n9 < ((l7_1 : Nat) : Int)))
  (∃ a48, IxA Tryz.prog 25 (.slice p7_1 l7_1 c7_1) (.int .i64 n9) a48 ∧
    ∃ n49, Ld Tryz.prog 5 (.pointer (some a48)) wl1 (.int .u8 n49) ∧
    ∃ a51, IxA Tryz.prog 25 (.slice p7_1 l7_1 c7_1) (.int .i64 n9) a51 ∧
    ∃ w1, Sto Tryz.prog 5 (.pointer (some a51)) (.int .u8 (IntKind.u8.wrap (n49 + 1))) wl1 w1 ∧
    goesOn [] [] I1 μ1 us1 [.bool b6_1, .slice p7_1 l7_1 c7_1, .bool b8_1, .int .i64 (IntKind.i64.wrap (n9 + 1))] wl1 w1)
  (Q (.bool b8_1) wl1)
def law19_Do (p0 : Option Addr) (p1 : Option Addr) (n2 : Int) (n2_1 : Int) (p2 : Option Addr) (l2 : Nat) (c2 : Nat) (w : World) (Q : Value → World → Prop) : Prop :=
  New #[.int .i64 n2, .int .i64 n2_1, .slice p2 l2 c2] 119 w fun k5 w1 =>
  ∃ p11 l11 c11, Ld Tryz.prog 25 (.pointer (some ((⟨k5, 0, none⟩ : Addr).add 2))) w1 (.slice p11 l11 c11) ∧
  callF Tryz.prog 25 #[.slice p11 l11 c11] w1 fun r12 w2 =>
  ∃ p12 l12 c12, r12 = .slice p12 l12 c12 ∧
  ∃ n14, Ld Tryz.prog 3 (.pointer (some ((⟨k5, 0, none⟩ : Addr).add 0))) w2 (.int .i64 n14) ∧
  cond (n14 == 0)
  (∃ (S5 : World → Prop),
    Drw w2 fun w3 =>
    ∃ n19, HLd Tryz.prog S5 3 (.pointer (some ((⟨k5, 0, none⟩ : Addr).add 1))) w3 (.int .i64 n19) ∧
    ∃ n24, HLd Tryz.prog S5 3 (.pointer (some ((⟨k5, 0, none⟩ : Addr).add 1))) w3 (.int .i64 n24) ∧
    ∃ p26 l26 c26, HLd Tryz.prog S5 25 (.pointer (some ((⟨k5, 0, none⟩ : Addr).add 2))) w3 (.slice p26 l26 c26) ∧
    callF Tryz.prog 138 #[.pointer p0, .int .i64 n19, .slice p12 l12 c12] w3 fun r21 w4 =>
    ∃ n21, r21 = .int .i64 n21 ∧
    (w4 = w3 ∨ S5 w4) ∧
    callF Tryz.prog 154 #[.pointer p1, .int .i64 n24, .slice p26 l26 c26] w4 fun r27 w5 =>
    ∃ n27, r27 = .int .i64 n27 ∧
    law19_Do_j1 false p12 l12 c12 (n21 == n27) w5 Q)
  (cond (n14 == 1)
    (∃ (S7 : World → Prop),
      Drw w2 fun w6 =>
      ∃ n33, HLd Tryz.prog S7 3 (.pointer (some ((⟨k5, 0, none⟩ : Addr).add 1))) w6 (.int .i64 n33) ∧
      ∃ n37, HLd Tryz.prog S7 3 (.pointer (some ((⟨k5, 0, none⟩ : Addr).add 1))) w6 (.int .i64 n37) ∧
      callF Tryz.prog 75 #[.pointer p0, .int .i64 n33] w6 fun r34 w7 =>
      ∃ n34, r34 = .int .i64 n34 ∧
      (w7 = w6 ∨ S7 w7) ∧
      callF Tryz.prog 155 #[.pointer p1, .int .i64 n37] w7 fun r38 w8 =>
      ∃ n38, r38 = .int .i64 n38 ∧
      law19_Do_j1 false p12 l12 c12 (n34 == n38) w8 Q)
    (law19_Do_j1 false p12 l12 c12 true w2 Q))
def law19_Do_tt : Nat → List (Nat × TypeId) := fun n => match n with | 1 => [(6, 4), (7, 25), (8, 4), (9, 3)] | _ => []
theorem law19_Do_call (p0 : Option Addr) (p1 : Option Addr) (n2 : Int) (n2_1 : Int) (p2 : Option Addr) (l2 : Nat) (c2 : Nat) (w : World) (Q : Value → World → Prop) (h : law19_Do p0 p1 n2 n2_1 p2 l2 c2 w Q) : callF Tryz.prog 73 #[.pointer p0, .pointer p1, .agg #[.int .i64 n2, .int .i64 n2_1, .slice p2 l2 c2]] w Q :=
  callBy law19_Do_tt Tryz.func73 h (fun _ _ => by kernel_rfl) (by kernel_rfl) (by kernel_rfl) (by kernel_rfl)
end Go.Sh
end
