/- A part of a proof of a given law of this program: lemmas, printed forms of its functions, contracts. It has no conditions of its own. -/
import Derived.Test.YtcfealonnakdcaaGreatProg
import Derived.Test.YtcfealonnakdcaaGreatMFw3
import Derived.Test.YtcfealonnakdcaaGreatMSh
import Derived.Test.YtcfealonnakdcaaGreatMFw

section
namespace Go.Sh
open Go Go.Fw Go.Proofs
set_option maxRecDepth 100000
theorem internal_bytealg_IndexByteString_c {s : ByteArray} {c : Int} {w : World} {K : Value → World → Prop} (h : K (.int .i64 (firstIdx s c.toNat.toUInt8)) w) : callF Tryz.prog F_internal_bytealg_IndexByteString #[.string s, .int .u8 c] w K := indexByte_c Tryz.func269 (by kernel_rfl) (by kernel_rfl) (by kernel_rfl) (by kernel_rfl) h
end Go.Sh
end

section
namespace Go.Sh
open Go Go.Fw Go.Proofs
set_option maxRecDepth 100000
set_option linter.unusedVariables false
def internal_stringslite_IndexByte (s0 : ByteArray) (n1 : Int) (w : World) (Q : Value → World → Prop) : Prop :=
  callF Tryz.prog 269 #[.string s0, .int .u8 n1] w fun r7 w1 =>
  ∃ n7, r7 = .int .i64 n7 ∧
  Q (.int .i64 n7) w1
def internal_stringslite_IndexByte_tt : Nat → List (Nat × TypeId) := fun _ => []
theorem internal_stringslite_IndexByte_call (s0 : ByteArray) (n1 : Int) (w : World) (Q : Value → World → Prop) (h : internal_stringslite_IndexByte s0 n1 w Q) : callF Tryz.prog 238 #[.string s0, .int .u8 n1] w Q :=
  callBy internal_stringslite_IndexByte_tt Tryz.func238 h (fun _ _ => by kernel_rfl) (by kernel_rfl) (by kernel_rfl) (by kernel_rfl)
end Go.Sh
end

section
namespace Go.Sh
open Go Go.Fw Go.Proofs
set_option maxRecDepth 100000
set_option linter.unusedVariables false
def strings_IndexByte (s0 : ByteArray) (n1 : Int) (w : World) (Q : Value → World → Prop) : Prop :=
  callF Tryz.prog 238 #[.string s0, .int .u8 n1] w fun r7 w1 =>
  ∃ n7, r7 = .int .i64 n7 ∧
  Q (.int .i64 n7) w1
def strings_IndexByte_tt : Nat → List (Nat × TypeId) := fun _ => []
theorem strings_IndexByte_call (s0 : ByteArray) (n1 : Int) (w : World) (Q : Value → World → Prop) (h : strings_IndexByte s0 n1 w Q) : callF Tryz.prog 190 #[.string s0, .int .u8 n1] w Q :=
  callBy strings_IndexByte_tt Tryz.func190 h (fun _ _ => by kernel_rfl) (by kernel_rfl) (by kernel_rfl) (by kernel_rfl)
end Go.Sh
end

section
namespace Go.Sh
open Go Go.Fw Go.Proofs
set_option maxRecDepth 100000
set_option linter.unusedVariables false
def head_Head_Bytes (n0 : Int) (n0_1 : Int) (p0 : Option Addr) (l0 : Nat) (c0 : Nat) (p0_1 : Option Addr) (l0_1 : Nat) (c0_1 : Nat) (w : World) (Q : Value → World → Prop) : Prop :=
  New #[.int .u8 n0, .int .u32 n0_1, .slice p0 l0 c0, .slice p0_1 l0_1 c0_1] 74 w fun k1 w1 =>
  ∃ n5, Ld Tryz.prog 5 (.pointer (some ((⟨k1, 0, none⟩ : Addr).add 0))) w1 (.int .u8 n5) ∧
  cond ((iand .u8 n5 128) == 0)
  (Q (.tuple #[.slice none 0 0, .int .i64 14]) w1)
  (∃ (S3 : World → Prop),
    Drw w1 fun w2 =>
    ∃ n10, HLd Tryz.prog S3 5 (.pointer (some ((⟨k1, 0, none⟩ : Addr).add 0))) w2 (.int .u8 n10) ∧
    ∃ n14, HLd Tryz.prog S3 72 (.pointer (some ((⟨k1, 0, none⟩ : Addr).add 1))) w2 (.int .u32 n14) ∧
    ∃ p18 l18 c18, HLd Tryz.prog S3 25 (.pointer (some ((⟨k1, 0, none⟩ : Addr).add 2))) w2 (.slice p18 l18 c18) ∧
    ∃ p21 l21 c21, HLd Tryz.prog S3 25 (.pointer (some ((⟨k1, 0, none⟩ : Addr).add 3))) w2 (.slice p21 l21 c21) ∧
    callF Tryz.prog 122 #[] w2 fun r8 w3 =>
    ∃ p8, r8 = .pointer p8 ∧
    (w3 = w2 ∨ S3 w3) ∧
    callF Tryz.prog 140 #[.pointer p8, .int .u64 (IntKind.u64.wrap n10), .int .i64 1] w3 fun r12 w4 =>
    ∃ p12, r12 = .pointer p12 ∧
    (w4 = w3 ∨ S3 w4) ∧
    callF Tryz.prog 140 #[.pointer p12, .int .u64 (IntKind.u64.wrap n14), .int .i64 4] w4 fun r16 w5 =>
    ∃ p16, r16 = .pointer p16 ∧
    (w5 = w4 ∨ S3 w5) ∧
    callF Tryz.prog 123 #[.pointer p16, .slice p18 l18 c18] w5 fun r19 w6 =>
    ∃ p19, r19 = .pointer p19 ∧
    (w6 = w5 ∨ S3 w6) ∧
    callF Tryz.prog 123 #[.pointer p19, .slice p21 l21 c21] w6 fun r22 w7 =>
    ∃ p22, r22 = .pointer p22 ∧
    callF Tryz.prog 125 #[.pointer p22] w7 fun r23 w8 =>
    ∃ p23 l23 c23 n23, r23 = .tuple #[.slice p23 l23 c23, .int .i64 n23] ∧
    Q (.tuple #[.slice p23 l23 c23, .int .i64 n23]) w8)
def head_Head_Bytes_tt : Nat → List (Nat × TypeId) := fun _ => []
theorem head_Head_Bytes_call (n0 : Int) (n0_1 : Int) (p0 : Option Addr) (l0 : Nat) (c0 : Nat) (p0_1 : Option Addr) (l0_1 : Nat) (c0_1 : Nat) (w : World) (Q : Value → World → Prop) (h : head_Head_Bytes n0 n0_1 p0 l0 c0 p0_1 l0_1 c0_1 w Q) : callF Tryz.prog 118 #[.agg #[.int .u8 n0, .int .u32 n0_1, .slice p0 l0 c0, .slice p0_1 l0_1 c0_1]] w Q :=
  callBy head_Head_Bytes_tt Tryz.func118 h (fun _ _ => by kernel_rfl) (by kernel_rfl) (by kernel_rfl) (by kernel_rfl)
def head_Parse_j1 (p0 : Option Addr) (l0 : Nat) (c0 : Nat) (a2 : Addr) (p3 : Option Addr) (l3 : Nat) (c3 : Nat) (n4 : Int) (w : World) (Q : Value → World → Prop) : Prop :=
  callF Tryz.prog 129 #[.slice p0 l0 c0] w fun r19 w1 =>
  ∃ p19, r19 = .pointer p19 ∧
  callF Tryz.prog 142 #[.pointer p19, .int .i64 1] w1 fun r21 w2 =>
  ∃ n21, r21 = .int .u64 n21 ∧
  callF Tryz.prog 142 #[.pointer p19, .int .i64 4] w2 fun r24 w3 =>
  ∃ n24, r24 = .int .u64 n24 ∧
  ∃ z6, Pu Tryz.prog (zeroValue 74) z6 ∧
  New z6.cells 74 w3 fun k6 w4 =>
  ∃ w5, Sto Tryz.prog 74 (.pointer (some (⟨k6, 0, none⟩ : Addr))) (.agg #[.int .u8 (IntKind.u8.wrap n21), .int .u32 (IntKind.u32.wrap n24), .slice none 0 0, .slice none 0 0]) w4 w5 ∧
  callF Tryz.prog 143 #[.pointer p19] w5 fun r28 w6 =>
  ∃ p28 l28 c28, r28 = .slice p28 l28 c28 ∧
  callF Tryz.prog 143 #[.pointer p19] w6 fun r30 w7 =>
  ∃ p30 l30 c30, r30 = .slice p30 l30 c30 ∧
  ∃ w8, Sto Tryz.prog 25 (.pointer (some ((⟨k6, 0, none⟩ : Addr).add 2))) (.slice p28 l28 c28) w7 w8 ∧
  ∃ w9, Sto Tryz.prog 25 (.pointer (some ((⟨k6, 0, none⟩ : Addr).add 3))) (.slice p30 l30 c30) w8 w9 ∧
  callF Tryz.prog 131 #[.pointer p19] w9 fun r34 w10 =>
  ∃ p34 l34 c34, r34 = .slice p34 l34 c34 ∧
  ∃ a36, p19 = some a36 ∧
  callF Tryz.prog 161 #[.pointer (some (a36.add 0))] w10 fun r38 w11 =>
  ∃ n38, r38 = .int .i64 n38 ∧
  cond (n38 != 0)
  (∃ w12, Sto Tryz.prog 74 (.pointer (some a2)) (.agg #[.int .u8 0, .int .u32 0, .slice none 0 0, .slice none 0 0]) w11 w12 ∧
    ∃ a2_1 v2, (.pointer (some a2) : Value) = .pointer (some a2_1) ∧ (loadVar 74 a2_1).run Tryz.prog w12 = .ok v2 w12 ∧
    Q (.tuple #[v2, .slice none 0 0, .int .i64 n38]) w12)
  (∃ n43 n43_1 p43 l43 c43 p43_1 l43_1 c43_1, Ld Tryz.prog 74 (.pointer (some (⟨k6, 0, none⟩ : Addr))) w11 (.agg #[.int .u8 n43, .int .u32 n43_1, .slice p43 l43 c43, .slice p43_1 l43_1 c43_1]) ∧
    ∃ w13, Sto Tryz.prog 74 (.pointer (some a2)) (.agg #[.int .u8 n43, .int .u32 n43_1, .slice p43 l43 c43, .slice p43_1 l43_1 c43_1]) w11 w13 ∧
    ∃ a2_2 v2_1, (.pointer (some a2) : Value) = .pointer (some a2_2) ∧ (loadVar 74 a2_2).run Tryz.prog w13 = .ok v2_1 w13 ∧
    Q (.tuple #[v2_1, .slice p34 l34 c34, .int .i64 0]) w13)
def head_Parse_j2 (p0 : Option Addr) (l0 : Nat) (c0 : Nat) (a2 : Addr) (p3 : Option Addr) (l3 : Nat) (c3 : Nat) (n4 : Int) (b16 : Bool) (w : World) (Q : Value → World → Prop) : Prop :=
  cond b16
  (∃ w1, Sto Tryz.prog 74 (.pointer (some a2)) (.agg #[.int .u8 0, .int .u32 0, .slice none 0 0, .slice none 0 0]) w w1 ∧
    ∃ a2_1 v2, (.pointer (some a2) : Value) = .pointer (some a2_1) ∧ (loadVar 74 a2_1).run Tryz.prog w1 = .ok v2 w1 ∧
    Q (.tuple #[v2, .slice none 0 0, .int .i64 14]) w1)
  (head_Parse_j1 p0 l0 c0 a2 p3 l3 c3 n4 w Q)
def head_Parse (p0 : Option Addr) (l0 : Nat) (c0 : Nat) (w : World) (Q : Value → World → Prop) : Prop :=
  ∃ z2, Pu Tryz.prog (zeroValue 74) z2 ∧
  New z2.cells 74 w fun k2 w1 =>
  cond (decide (((l0 : Nat) : Int) > 0))
  (callF Tryz.prog 199 #[.slice p0 l0 c0] w1 fun r14 w2 =>
    ∃ b14, r14 = .bool b14 ∧
    head_Parse_j2 p0 l0 c0 (⟨k2, 0, none⟩ : Addr) none 0 0 0 (!b14) w2 Q)
  (head_Parse_j2 p0 l0 c0 (⟨k2, 0, none⟩ : Addr) none 0 0 0 false w1 Q)
def head_Parse_tt : Nat → List (Nat × TypeId) := fun _ => []
theorem head_Parse_call (p0 : Option Addr) (l0 : Nat) (c0 : Nat) (w : World) (Q : Value → World → Prop) (h : head_Parse p0 l0 c0 w Q) : callF Tryz.prog 128 #[.slice p0 l0 c0] w Q :=
  callBy head_Parse_tt Tryz.func128 h (fun _ _ => by kernel_rfl) (by kernel_rfl) (by kernel_rfl) (by kernel_rfl)
def head_Long (p0 : Option Addr) (l0 : Nat) (c0 : Nat) (w : World) (Q : Value → World → Prop) : Prop :=
  cond (decide (((l0 : Nat) : Int) > 0))
  (∃ a8, IxA Tryz.prog 25 (.slice p0 l0 c0) (.int .i64 0) a8 ∧
    ∃ n9, Ld Tryz.prog 5 (.pointer (some a8)) w (.int .u8 n9) ∧
    Q (.bool ((iand .u8 n9 128) != 0)) w)
  (Q (.bool false) w)
def head_Long_tt : Nat → List (Nat × TypeId) := fun _ => []
theorem head_Long_call (p0 : Option Addr) (l0 : Nat) (c0 : Nat) (w : World) (Q : Value → World → Prop) (h : head_Long p0 l0 c0 w Q) : callF Tryz.prog 199 #[.slice p0 l0 c0] w Q :=
  callBy head_Long_tt Tryz.func199 h (fun _ _ => by kernel_rfl) (by kernel_rfl) (by kernel_rfl) (by kernel_rfl)
end Go.Sh
end

section
namespace Go.Sh
open Go Go.Fw Go.Proofs
set_option maxRecDepth 100000
set_option linter.unusedVariables false
def initial_Parse_j1 (a2 : Addr) (n3 : Int) (p8 : Option Addr) (a9 : Addr) (w : World) (Q : Value → World → Prop) : Prop :=
  ∃ a36, p8 = some a36 ∧
  callF Tryz.prog 161 #[.pointer (some (a36.add 0))] w fun r38 w1 =>
  ∃ n38, r38 = .int .i64 n38 ∧
  cond (n38 != 0)
  (∃ w2, Sto Tryz.prog 127 (.pointer (some a2)) (.agg #[.int .u8 0, .int .u32 0, .slice none 0 0, .slice none 0 0, .slice none 0 0, .slice none 0 0]) w1 w2 ∧
    ∃ a2_1 v2, (.pointer (some a2) : Value) = .pointer (some a2_1) ∧ (loadVar 127 a2_1).run Tryz.prog w2 = .ok v2 w2 ∧
    Q (.tuple #[v2, .int .i64 n38]) w2)
  (∃ n43 n43_1 p43 l43 c43 p43_1 l43_1 c43_1 p43_2 l43_2 c43_2 p43_3 l43_3 c43_3, Ld Tryz.prog 127 (.pointer (some a9)) w1 (.agg #[.int .u8 n43, .int .u32 n43_1, .slice p43 l43 c43, .slice p43_1 l43_1 c43_1, .slice p43_2 l43_2 c43_2, .slice p43_3 l43_3 c43_3]) ∧
    ∃ w3, Sto Tryz.prog 127 (.pointer (some a2)) (.agg #[.int .u8 n43, .int .u32 n43_1, .slice p43 l43 c43, .slice p43_1 l43_1 c43_1, .slice p43_2 l43_2 c43_2, .slice p43_3 l43_3 c43_3]) w1 w3 ∧
    ∃ a2_2 v2_1, (.pointer (some a2) : Value) = .pointer (some a2_2) ∧ (loadVar 127 a2_2).run Tryz.prog w3 = .ok v2_1 w3 ∧
    Q (.tuple #[v2_1, .int .i64 0]) w3)
def initial_Parse (p0 : Option Addr) (l0 : Nat) (c0 : Nat) (w : World) (Q : Value → World → Prop) : Prop :=
  ∃ z2, Pu Tryz.prog (zeroValue 127) z2 ∧
  New z2.cells 127 w fun k2 w1 =>
  callF Tryz.prog 128 #[.slice p0 l0 c0] w1 fun r13 w2 =>
  ∃ n13 n13_1 p13 l13 c13 p13_1 l13_1 c13_1 p13_2 l13_2 c13_2 n13_2, r13 = .tuple #[.agg #[.int .u8 n13, .int .u32 n13_1, .slice p13 l13 c13, .slice p13_1 l13_1 c13_1], .slice p13_2 l13_2 c13_2, .int .i64 n13_2] ∧
  ∃ z4, Pu Tryz.prog (zeroValue 74) z4 ∧
  New z4.cells 74 w2 fun k4 w3 =>
  ∃ w4, Sto Tryz.prog 74 (.pointer (some (⟨k4, 0, none⟩ : Addr))) (.agg #[.int .u8 n13, .int .u32 n13_1, .slice p13 l13 c13, .slice p13_1 l13_1 c13_1]) w3 w4 ∧
  cond (n13_2 != 0)
  (∃ w5, Sto Tryz.prog 127 (.pointer (some (⟨k2, 0, none⟩ : Addr))) (.agg #[.int .u8 0, .int .u32 0, .slice none 0 0, .slice none 0 0, .slice none 0 0, .slice none 0 0]) w4 w5 ∧
    ∃ a2 v2, (.pointer (some (⟨k2, 0, none⟩ : Addr)) : Value) = .pointer (some a2) ∧ (loadVar 127 a2).run Tryz.prog w5 = .ok v2 w5 ∧
    Q (.tuple #[v2, .int .i64 n13_2]) w5)
  (∃ n21 n21_1 p21 l21 c21 p21_1 l21_1 c21_1, Ld Tryz.prog 74 (.pointer (some (⟨k4, 0, none⟩ : Addr))) w4 (.agg #[.int .u8 n21, .int .u32 n21_1, .slice p21 l21 c21, .slice p21_1 l21_1 c21_1]) ∧
    callF Tryz.prog 159 #[.agg #[.int .u8 n21, .int .u32 n21_1, .slice p21 l21 c21, .slice p21_1 l21_1 c21_1]] w4 fun r22 w6 =>
    ∃ n22, r22 = .int .i64 n22 ∧
    cond (n22 != 0)
    (∃ w7, Sto Tryz.prog 127 (.pointer (some (⟨k2, 0, none⟩ : Addr))) (.agg #[.int .u8 0, .int .u32 0, .slice none 0 0, .slice none 0 0, .slice none 0 0, .slice none 0 0]) w6 w7 ∧
      ∃ a2_1 v2_1, (.pointer (some (⟨k2, 0, none⟩ : Addr)) : Value) = .pointer (some a2_1) ∧ (loadVar 127 a2_1).run Tryz.prog w7 = .ok v2_1 w7 ∧
      Q (.tuple #[v2_1, .int .i64 n22]) w7)
    (callF Tryz.prog 129 #[.slice p13_2 l13_2 c13_2] w6 fun r28 w8 =>
      ∃ p28, r28 = .pointer p28 ∧
      ∃ (S8 : World → Prop),
      Drw w8 fun w9 =>
      ∃ n29 n29_1 p29 l29 c29 p29_1 l29_1 c29_1, HLd Tryz.prog S8 74 (.pointer (some (⟨k4, 0, none⟩ : Addr))) w9 (.agg #[.int .u8 n29, .int .u32 n29_1, .slice p29 l29 c29, .slice p29_1 l29_1 c29_1]) ∧
      (callF Tryz.prog 160 #[.pointer p28] w9 fun r31 w10 =>
        ∃ p31 l31 c31, r31 = .slice p31 l31 c31 ∧
        (w10 = w9 ∨ S8 w10) ∧
        (callF Tryz.prog 131 #[.pointer p28] w10 fun r33 w11 =>
          ∃ p33 l33 c33, r33 = .slice p33 l33 c33 ∧
          (w11 = w10 ∨ S8 w11) ∧
          ∃ z9, Pu Tryz.prog (zeroValue 127) z9 ∧
          New z9.cells 127 w11 fun k9 w12 =>
          (w12 = w11 ∨ S8 w12) ∧
          ∃ w13, Sto Tryz.prog 127 (.pointer (some (⟨k9, 0, none⟩ : Addr))) (.agg #[.int .u8 n29, .int .u32 n29_1, .slice p29 l29 c29, .slice p29_1 l29_1 c29_1, .slice p31 l31 c31, .slice p33 l33 c33]) w12 w13 ∧
          initial_Parse_j1 (⟨k2, 0, none⟩ : Addr) 0 p28 (⟨k9, 0, none⟩ : Addr) w13 Q) ∧
        (∃ z9_1, Pu Tryz.prog (zeroValue 127) z9_1 ∧
          New z9_1.cells 127 w10 fun k9_1 w14 =>
          (w14 = w10 ∨ S8 w14) ∧
          callF Tryz.prog 131 #[.pointer p28] w14 fun r33_1 w15 =>
          ∃ p33_1 l33_1 c33_1, r33_1 = .slice p33_1 l33_1 c33_1 ∧
          (w15 = w14 ∨ S8 w15) ∧
          ∃ w16, Sto Tryz.prog 127 (.pointer (some (⟨k9_1, 0, none⟩ : Addr))) (.agg #[.int .u8 n29, .int .u32 n29_1, .slice p29 l29 c29, .slice p29_1 l29_1 c29_1, .slice p31 l31 c31, .slice p33_1 l33_1 c33_1]) w15 w16 ∧
          initial_Parse_j1 (⟨k2, 0, none⟩ : Addr) 0 p28 (⟨k9_1, 0, none⟩ : Addr) w16 Q)) ∧
      (∃ z9_2, Pu Tryz.prog (zeroValue 127) z9_2 ∧
        New z9_2.cells 127 w9 fun k9_2 w17 =>
        (w17 = w9 ∨ S8 w17) ∧
        callF Tryz.prog 160 #[.pointer p28] w17 fun r31_1 w18 =>
        ∃ p31_1 l31_1 c31_1, r31_1 = .slice p31_1 l31_1 c31_1 ∧
        (w18 = w17 ∨ S8 w18) ∧
        callF Tryz.prog 131 #[.pointer p28] w18 fun r33_2 w19 =>
        ∃ p33_2 l33_2 c33_2, r33_2 = .slice p33_2 l33_2 c33_2 ∧
        (w19 = w18 ∨ S8 w19) ∧
        ∃ w20, Sto Tryz.prog 127 (.pointer (some (⟨k9_2, 0, none⟩ : Addr))) (.agg #[.int .u8 n29, .int .u32 n29_1, .slice p29 l29 c29, .slice p29_1 l29_1 c29_1, .slice p31_1 l31_1 c31_1, .slice p33_2 l33_2 c33_2]) w19 w20 ∧
        initial_Parse_j1 (⟨k2, 0, none⟩ : Addr) 0 p28 (⟨k9_2, 0, none⟩ : Addr) w20 Q)))
def initial_Parse_tt : Nat → List (Nat × TypeId) := fun _ => []
theorem initial_Parse_call (p0 : Option Addr) (l0 : Nat) (c0 : Nat) (w : World) (Q : Value → World → Prop) (h : initial_Parse p0 l0 c0 w Q) : callF Tryz.prog 76 #[.slice p0 l0 c0] w Q :=
  callBy initial_Parse_tt Tryz.func76 h (fun _ _ => by kernel_rfl) (by kernel_rfl) (by kernel_rfl) (by kernel_rfl)
def initial_Type (n0 : Int) (w : World) (Q : Value → World → Prop) : Prop :=
  Q (.int .i64 (IntKind.i64.wrap (iand .u8 (Int.fdiv n0 (2 ^ 4)) 3))) w
def initial_Type_tt : Nat → List (Nat × TypeId) := fun _ => []
theorem initial_Type_call (n0 : Int) (w : World) (Q : Value → World → Prop) (h : initial_Type n0 w Q) : callF Tryz.prog 77 #[.int .u8 n0] w Q :=
  callBy initial_Type_tt Tryz.func77 h (fun _ _ => by kernel_rfl) (by kernel_rfl) (by kernel_rfl) (by kernel_rfl)
def initial_check_j1 (a1 : Addr) (n2 : Int) (b3 : Bool) (w : World) (Q : Value → World → Prop) : Prop :=
  cond b3
  (Q (.int .i64 14) w)
  (∃ p22 l22 c22, Ld Tryz.prog 25 (.pointer (some (a1.add 2))) w (.slice p22 l22 c22) ∧
    ∃ p25 l25 c25, Ld Tryz.prog 25 (.pointer (some (a1.add 3))) w (.slice p25 l25 c25) ∧
    ∃ n27, Pu Tryz.prog (Builtin.max_ #[3, 3] 3 #[.int .i64 ((l22 : Nat) : Int), .int .i64 ((l25 : Nat) : Int)]) (.int .i64 n27) ∧
    cond (decide (n27 > 20))
    (Q (.int .i64 15) w)
    (Q (.int .i64 0) w))
def initial_check (n0 : Int) (n0_1 : Int) (p0 : Option Addr) (l0 : Nat) (c0 : Nat) (p0_1 : Option Addr) (l0_1 : Nat) (c0_1 : Nat) (w : World) (Q : Value → World → Prop) : Prop :=
  New #[.int .u8 n0, .int .u32 n0_1, .slice p0 l0 c0, .slice p0_1 l0_1 c0_1] 74 w fun k1 w1 =>
  ∃ n5, Ld Tryz.prog 5 (.pointer (some ((⟨k1, 0, none⟩ : Addr).add 0))) w1 (.int .u8 n5) ∧
  ∃ p6 l6 c6 w2, Ef Tryz.prog (Instr.buildSlice 25 1 #[(0, .int .u8 n5)]) w1 (.slice p6 l6 c6) w2 ∧
  callF Tryz.prog 199 #[.slice p6 l6 c6] w2 fun r7 w3 =>
  ∃ b7, r7 = .bool b7 ∧
  cond (!b7)
  (initial_check_j1 (⟨k1, 0, none⟩ : Addr) 0 true w3 Q)
  (∃ n11, Ld Tryz.prog 72 (.pointer (some ((⟨k1, 0, none⟩ : Addr).add 1))) w3 (.int .u32 n11) ∧
    cond (n11 != 1)
    (initial_check_j1 (⟨k1, 0, none⟩ : Addr) 0 true w3 Q)
    (∃ n16, Ld Tryz.prog 5 (.pointer (some ((⟨k1, 0, none⟩ : Addr).add 0))) w3 (.int .u8 n16) ∧
      callF Tryz.prog 77 #[.int .u8 n16] w3 fun r17 w4 =>
      ∃ n17, r17 = .int .i64 n17 ∧
      initial_check_j1 (⟨k1, 0, none⟩ : Addr) 0 (n17 != 0) w4 Q))
def initial_check_tt : Nat → List (Nat × TypeId) := fun _ => []
theorem initial_check_call (n0 : Int) (n0_1 : Int) (p0 : Option Addr) (l0 : Nat) (c0 : Nat) (p0_1 : Option Addr) (l0_1 : Nat) (c0_1 : Nat) (w : World) (Q : Value → World → Prop) (h : initial_check n0 n0_1 p0 l0 c0 p0_1 l0_1 c0_1 w Q) : callF Tryz.prog 159 #[.agg #[.int .u8 n0, .int .u32 n0_1, .slice p0 l0 c0, .slice p0_1 l0_1 c0_1]] w Q :=
  callBy initial_check_tt Tryz.func159 h (fun _ _ => by kernel_rfl) (by kernel_rfl) (by kernel_rfl) (by kernel_rfl)
end Go.Sh
end

section
namespace Go.Sh
open Go Go.Fw Go.Proofs
set_option maxRecDepth 100000
set_option linter.unusedVariables false
def ref10_Bytes_j1 (a1 : Addr) (p2 : Option Addr) (l2 : Nat) (c2 : Nat) (n3 : Int) (w : World) (Q : Value → World → Prop) : Prop :=
  ∃ n19, Ld Tryz.prog 5 (.pointer (some (a1.add 0))) w (.int .u8 n19) ∧
  ∃ n21, Ld Tryz.prog 72 (.pointer (some (a1.add 1))) w (.int .u32 n21) ∧
  ∃ n25, Ld Tryz.prog 72 (.pointer (some (a1.add 1))) w (.int .u32 n25) ∧
  ∃ n29, Ld Tryz.prog 72 (.pointer (some (a1.add 1))) w (.int .u32 n29) ∧
  ∃ n33, Ld Tryz.prog 72 (.pointer (some (a1.add 1))) w (.int .u32 n33) ∧
  ∃ p35 l35 c35 w1, Ef Tryz.prog (Instr.buildSlice 25 5 #[(0, .int .u8 n19), (1, .int .u8 (IntKind.u8.wrap (Int.fdiv n21 (2 ^ 24)))), (2, .int .u8 (IntKind.u8.wrap (Int.fdiv n25 (2 ^ 16)))), (3, .int .u8 (IntKind.u8.wrap (Int.fdiv n29 (2 ^ 8)))), (4, .int .u8 (IntKind.u8.wrap n33))]) w (.slice p35 l35 c35) w1 ∧
  ∃ (S6 : World → Prop),
  Drw w1 fun w2 =>
  ∃ p38 l38 c38, HLd Tryz.prog S6 25 (.pointer (some (a1.add 2))) w2 (.slice p38 l38 c38) ∧
  ∃ p44 l44 c44, HLd Tryz.prog S6 25 (.pointer (some (a1.add 2))) w2 (.slice p44 l44 c44) ∧
  ∃ p41 l41 c41 w3, Ef Tryz.prog (Instr.buildSlice 25 1 #[(0, .int .u8 (IntKind.u8.wrap ((l38 : Nat) : Int)))]) w2 (.slice p41 l41 c41) w3 ∧
  (w3 = w2 ∨ S6 w3) ∧
  ∃ p42 l42 c42 w4, Ef Tryz.prog (Builtin.append_ #[25, 25] 25 #[.slice p35 l35 c35, .slice p41 l41 c41]) w3 (.slice p42 l42 c42) w4 ∧
  (w4 = w3 ∨ S6 w4) ∧
  ∃ p45 l45 c45 w5, Ef Tryz.prog (Builtin.append_ #[25, 25] 25 #[.slice p42 l42 c42, .slice p44 l44 c44]) w4 (.slice p45 l45 c45) w5 ∧
  ∃ (S7 : World → Prop),
  Drw w5 fun w6 =>
  ∃ p48 l48 c48, HLd Tryz.prog S7 25 (.pointer (some (a1.add 3))) w6 (.slice p48 l48 c48) ∧
  ∃ p54 l54 c54, HLd Tryz.prog S7 25 (.pointer (some (a1.add 3))) w6 (.slice p54 l54 c54) ∧
  ∃ p51 l51 c51 w7, Ef Tryz.prog (Instr.buildSlice 25 1 #[(0, .int .u8 (IntKind.u8.wrap ((l48 : Nat) : Int)))]) w6 (.slice p51 l51 c51) w7 ∧
  (w7 = w6 ∨ S7 w7) ∧
  ∃ p52 l52 c52 w8, Ef Tryz.prog (Builtin.append_ #[25, 25] 25 #[.slice p45 l45 c45, .slice p51 l51 c51]) w7 (.slice p52 l52 c52) w8 ∧
  (w8 = w7 ∨ S7 w8) ∧
  ∃ p55 l55 c55 w9, Ef Tryz.prog (Builtin.append_ #[25, 25] 25 #[.slice p52 l52 c52, .slice p54 l54 c54]) w8 (.slice p55 l55 c55) w9 ∧
  Q (.tuple #[.slice p55 l55 c55, .int .i64 0]) w9
def ref10_Bytes (n0 : Int) (n0_1 : Int) (p0 : Option Addr) (l0 : Nat) (c0 : Nat) (p0_1 : Option Addr) (l0_1 : Nat) (c0_1 : Nat) (w : World) (Q : Value → World → Prop) : Prop :=
  New #[.int .u8 n0, .int .u32 n0_1, .slice p0 l0 c0, .slice p0_1 l0_1 c0_1] 79 w fun k1 w1 =>
  ∃ n6, Ld Tryz.prog 5 (.pointer (some ((⟨k1, 0, none⟩ : Addr).add 0))) w1 (.int .u8 n6) ∧
  cond (decide (n6 < 128))
  (Q (.tuple #[.slice none 0 0, .int .i64 14]) w1)
  (∃ p9 l9 c9, Ld Tryz.prog 25 (.pointer (some ((⟨k1, 0, none⟩ : Addr).add 2))) w1 (.slice p9 l9 c9) ∧
    cond (decide (((l9 : Nat) : Int) > 255))
    (Q (.tuple #[.slice none 0 0, .int .i64 15]) w1)
    (∃ p14 l14 c14, Ld Tryz.prog 25 (.pointer (some ((⟨k1, 0, none⟩ : Addr).add 3))) w1 (.slice p14 l14 c14) ∧
      cond (decide (((l14 : Nat) : Int) > 255))
      (Q (.tuple #[.slice none 0 0, .int .i64 15]) w1)
      (ref10_Bytes_j1 (⟨k1, 0, none⟩ : Addr) none 0 0 0 w1 Q)))
def ref10_Bytes_tt : Nat → List (Nat × TypeId) := fun _ => []
theorem ref10_Bytes_call (n0 : Int) (n0_1 : Int) (p0 : Option Addr) (l0 : Nat) (c0 : Nat) (p0_1 : Option Addr) (l0_1 : Nat) (c0_1 : Nat) (w : World) (Q : Value → World → Prop) (h : ref10_Bytes n0 n0_1 p0 l0 c0 p0_1 l0_1 c0_1 w Q) : callF Tryz.prog 119 #[.agg #[.int .u8 n0, .int .u32 n0_1, .slice p0 l0 c0, .slice p0_1 l0_1 c0_1]] w Q :=
  callBy ref10_Bytes_tt Tryz.func119 h (fun _ _ => by kernel_rfl) (by kernel_rfl) (by kernel_rfl) (by kernel_rfl)
def ref10_Parse_j1 (p0 : Option Addr) (l0 : Nat) (c0 : Nat) (a2 : Addr) (p3 : Option Addr) (l3 : Nat) (c3 : Nat) (n4 : Int) (a5 : Addr) (w : World) (Q : Value → World → Prop) : Prop :=
  ∃ p44 l44 c44, Pu Tryz.prog (Instr.sliceAt 25 (.slice p0 l0 c0) (some (.int .i64 5)) none none) (.slice p44 l44 c44) ∧
  callF Tryz.prog 203 #[.slice p44 l44 c44] w fun r45 w1 =>
  ∃ p45 l45 c45 p45_1 l45_1 c45_1 b45, r45 = .tuple #[.slice p45 l45 c45, .slice p45_1 l45_1 c45_1, .bool b45] ∧
  cond (!b45)
  (∃ w2, Sto Tryz.prog 79 (.pointer (some a2)) (.agg #[.int .u8 0, .int .u32 0, .slice none 0 0, .slice none 0 0]) w1 w2 ∧
    ∃ a2_1 v2, (.pointer (some a2) : Value) = .pointer (some a2_1) ∧ (loadVar 79 a2_1).run Tryz.prog w2 = .ok v2 w2 ∧
    Q (.tuple #[v2, .slice none 0 0, .int .i64 12]) w2)
  (callF Tryz.prog 203 #[.slice p45_1 l45_1 c45_1] w1 fun r54 w3 =>
    ∃ p54 l54 c54 p54_1 l54_1 c54_1 b54, r54 = .tuple #[.slice p54 l54 c54, .slice p54_1 l54_1 c54_1, .bool b54] ∧
    cond (!b54)
    (∃ w4, Sto Tryz.prog 79 (.pointer (some a2)) (.agg #[.int .u8 0, .int .u32 0, .slice none 0 0, .slice none 0 0]) w3 w4 ∧
      ∃ a2_2 v2_1, (.pointer (some a2) : Value) = .pointer (some a2_2) ∧ (loadVar 79 a2_2).run Tryz.prog w4 = .ok v2_1 w4 ∧
      Q (.tuple #[v2_1, .slice none 0 0, .int .i64 12]) w4)
    (∃ w5, Sto Tryz.prog 25 (.pointer (some (a5.add 2))) (.slice p45 l45 c45) w3 w5 ∧
      ∃ w6, Sto Tryz.prog 25 (.pointer (some (a5.add 3))) (.slice p54 l54 c54) w5 w6 ∧
      ∃ (S20 : World → Prop),
      Drw w6 fun w7 =>
      ∃ n65 n65_1 p65 l65 c65 p65_1 l65_1 c65_1, HLd Tryz.prog S20 79 (.pointer (some a5)) w7 (.agg #[.int .u8 n65, .int .u32 n65_1, .slice p65 l65 c65, .slice p65_1 l65_1 c65_1]) ∧
      ∃ p66 l66 c66 w8, Ef Tryz.prog (Instr.buildSlice 25 0 #[]) w7 (.slice p66 l66 c66) w8 ∧
      (w8 = w7 ∨ S20 w8) ∧
      ∃ p68 l68 c68 w9, Ef Tryz.prog (Builtin.append_ #[25, 25] 25 #[.slice p66 l66 c66, .slice p54_1 l54_1 c54_1]) w8 (.slice p68 l68 c68) w9 ∧
      (w9 = w8 ∨ S20 w9) ∧
      ∃ w10, Sto Tryz.prog 79 (.pointer (some a2)) (.agg #[.int .u8 n65, .int .u32 n65_1, .slice p65 l65 c65, .slice p65_1 l65_1 c65_1]) w9 w10 ∧
      ∃ a2_3 v2_2, (.pointer (some a2) : Value) = .pointer (some a2_3) ∧ (loadVar 79 a2_3).run Tryz.prog w10 = .ok v2_2 w10 ∧
      Q (.tuple #[v2_2, .slice p68 l68 c68, .int .i64 0]) w10))
def ref10_Parse (p0 : Option Addr) (l0 : Nat) (c0 : Nat) (w : World) (Q : Value → World → Prop) : Prop :=
  ∃ z2, Pu Tryz.prog (zeroValue 79) z2 ∧
  New z2.cells 79 w fun k2 w1 =>
  cond (((l0 : Nat) : Int) == 0)
  (∃ w2, Sto Tryz.prog 79 (.pointer (some (⟨k2, 0, none⟩ : Addr))) (.agg #[.int .u8 0, .int .u32 0, .slice none 0 0, .slice none 0 0]) w1 w2 ∧
    ∃ a2 v2, (.pointer (some (⟨k2, 0, none⟩ : Addr)) : Value) = .pointer (some a2) ∧ (loadVar 79 a2).run Tryz.prog w2 = .ok v2 w2 ∧
    Q (.tuple #[v2, .slice none 0 0, .int .i64 12]) w2)
  (∃ a16, IxA Tryz.prog 25 (.slice p0 l0 c0) (.int .i64 0) a16 ∧
    ∃ n17, Ld Tryz.prog 5 (.pointer (some a16)) w1 (.int .u8 n17) ∧
    cond (decide (n17 < 128))
    (∃ w3, Sto Tryz.prog 79 (.pointer (some (⟨k2, 0, none⟩ : Addr))) (.agg #[.int .u8 0, .int .u32 0, .slice none 0 0, .slice none 0 0]) w1 w3 ∧
      ∃ a2_1 v2_1, (.pointer (some (⟨k2, 0, none⟩ : Addr)) : Value) = .pointer (some a2_1) ∧ (loadVar 79 a2_1).run Tryz.prog w3 = .ok v2_1 w3 ∧
      Q (.tuple #[v2_1, .slice none 0 0, .int .i64 14]) w3)
    (cond (decide (((l0 : Nat) : Int) < 5))
      (∃ w4, Sto Tryz.prog 79 (.pointer (some (⟨k2, 0, none⟩ : Addr))) (.agg #[.int .u8 0, .int .u32 0, .slice none 0 0, .slice none 0 0]) w1 w4 ∧
        ∃ a2_2 v2_2, (.pointer (some (⟨k2, 0, none⟩ : Addr)) : Value) = .pointer (some a2_2) ∧ (loadVar 79 a2_2).run Tryz.prog w4 = .ok v2_2 w4 ∧
        Q (.tuple #[v2_2, .slice none 0 0, .int .i64 12]) w4)
      (∃ a25, IxA Tryz.prog 25 (.slice p0 l0 c0) (.int .i64 0) a25 ∧
        ∃ n26, Ld Tryz.prog 5 (.pointer (some a25)) w1 (.int .u8 n26) ∧
        ∃ z5, Pu Tryz.prog (zeroValue 79) z5 ∧
        New z5.cells 79 w1 fun k5 w5 =>
        ∃ w6, Sto Tryz.prog 79 (.pointer (some (⟨k5, 0, none⟩ : Addr))) (.agg #[.int .u8 n26, .int .u32 0, .slice none 0 0, .slice none 0 0]) w5 w6 ∧
        LoopS [.slice p0 l0 c0, .pointer (some (⟨k2, 0, none⟩ : Addr)), .slice none 0 0, .int .i64 0, .pointer (some (⟨k5, 0, none⟩ : Addr)), .int .i64 1] w6 fun I1 μ1 us1 _ wl1 =>
        ∃ p0_1 l0_1 c0_1 a2_3 p3 l3 c3 n4 a5 n6, us1 = [.slice p0_1 l0_1 c0_1, .pointer (some a2_3), .slice p3 l3 c3, .int .i64 n4, .pointer (some a5), .int .i64 n6] ∧
        cond (decide (n6 < 5))
        (∃ (S11 : World → Prop),
          Drw wl1 fun w7 =>
          ∃ a37, IxA Tryz.prog 25 (.slice p0_1 l0_1 c0_1) (.int .i64 n6) a37 ∧
          ∃ n33, HLd Tryz.prog S11 72 (.pointer (some (a5.add 1))) w7 (.int .u32 n33) ∧
          ∃ n38, Ld Tryz.prog 5 (.pointer (some a37)) w7 (.int .u8 n38) ∧
          (w7 = w7 ∨ S11 w7) ∧
          ∃ w8, Sto Tryz.prog 72 (.pointer (some (a5.add 1))) (.int .u32 (IntKind.u32.wrap ((IntKind.u32.wrap (n33 * 256)) + (IntKind.u32.wrap n38)))) w7 w8 ∧
          goesOn [] [] I1 μ1 us1 [.slice p0_1 l0_1 c0_1, .pointer (some a2_3), .slice p3 l3 c3, .int .i64 n4, .pointer (some a5), .int .i64 (IntKind.i64.wrap (n6 + 1))] wl1 w8)
        (ref10_Parse_j1 p0_1 l0_1 c0_1 a2_3 p3 l3 c3 n4 a5 wl1 Q))))
def ref10_Parse_tt : Nat → List (Nat × TypeId) := fun n => match n with | 0 => [(0, 25), (2, 1000000), (3, 25), (4, 33), (5, 1000000), (6, 3)] | _ => []
theorem ref10_Parse_call (p0 : Option Addr) (l0 : Nat) (c0 : Nat) (w : World) (Q : Value → World → Prop) (h : ref10_Parse p0 l0 c0 w Q) : callF Tryz.prog 132 #[.slice p0 l0 c0] w Q :=
  callBy ref10_Parse_tt Tryz.func132 h (fun _ _ => by kernel_rfl) (by kernel_rfl) (by kernel_rfl) (by kernel_rfl)
def ref10_Same (n0 : Int) (n0_1 : Int) (p0 : Option Addr) (l0 : Nat) (c0 : Nat) (p0_1 : Option Addr) (l0_1 : Nat) (c0_1 : Nat) (n1 : Int) (n1_1 : Int) (p1 : Option Addr) (l1 : Nat) (c1 : Nat) (p1_1 : Option Addr) (l1_1 : Nat) (c1_1 : Nat) (w : World) (Q : Value → World → Prop) : Prop :=
  New #[.int .u8 n0, .int .u32 n0_1, .slice p0 l0 c0, .slice p0_1 l0_1 c0_1] 79 w fun k2 w1 =>
  New #[.int .u8 n1, .int .u32 n1_1, .slice p1 l1 c1, .slice p1_1 l1_1 c1_1] 79 w1 fun k3 w2 =>
  ∃ n6, Ld Tryz.prog 5 (.pointer (some ((⟨k2, 0, none⟩ : Addr).add 0))) w2 (.int .u8 n6) ∧
  ∃ n8, Ld Tryz.prog 5 (.pointer (some ((⟨k3, 0, none⟩ : Addr).add 0))) w2 (.int .u8 n8) ∧
  cond (n6 == n8)
  (∃ n12, Ld Tryz.prog 72 (.pointer (some ((⟨k2, 0, none⟩ : Addr).add 1))) w2 (.int .u32 n12) ∧
    ∃ n14, Ld Tryz.prog 72 (.pointer (some ((⟨k3, 0, none⟩ : Addr).add 1))) w2 (.int .u32 n14) ∧
    cond (n12 == n14)
    (∃ p19 l19 c19, Ld Tryz.prog 25 (.pointer (some ((⟨k2, 0, none⟩ : Addr).add 2))) w2 (.slice p19 l19 c19) ∧
      ∃ s20 w3, Ef Tryz.prog (convert 25 9 (.slice p19 l19 c19)) w2 (.string s20) w3 ∧
      ∃ p22 l22 c22, Ld Tryz.prog 25 (.pointer (some ((⟨k3, 0, none⟩ : Addr).add 2))) w3 (.slice p22 l22 c22) ∧
      ∃ s23 w4, Ef Tryz.prog (convert 25 9 (.slice p22 l22 c22)) w3 (.string s23) w4 ∧
      ∃ b24 w5, Ef Tryz.prog (do eqGuard .eql 9 (.tmp 20) (.tmp 23) (.string s20) (.string s23); binOp .eql 9 (.string s20) (.string s23) : Sem Value) w4 (.bool b24) w5 ∧
      cond b24
      (∃ p28 l28 c28, Ld Tryz.prog 25 (.pointer (some ((⟨k2, 0, none⟩ : Addr).add 3))) w5 (.slice p28 l28 c28) ∧
        ∃ s29 w6, Ef Tryz.prog (convert 25 9 (.slice p28 l28 c28)) w5 (.string s29) w6 ∧
        ∃ p31 l31 c31, Ld Tryz.prog 25 (.pointer (some ((⟨k3, 0, none⟩ : Addr).add 3))) w6 (.slice p31 l31 c31) ∧
        ∃ s32 w7, Ef Tryz.prog (convert 25 9 (.slice p31 l31 c31)) w6 (.string s32) w7 ∧
        ∃ b33 w8, Ef Tryz.prog (do eqGuard .eql 9 (.tmp 29) (.tmp 32) (.string s29) (.string s32); binOp .eql 9 (.string s29) (.string s32) : Sem Value) w7 (.bool b33) w8 ∧
        Q (.bool b33) w8)
      (Q (.bool false) w5))
    (Q (.bool false) w2))
  (Q (.bool false) w2)
def ref10_Same_tt : Nat → List (Nat × TypeId) := fun _ => []
theorem ref10_Same_call (n0 : Int) (n0_1 : Int) (p0 : Option Addr) (l0 : Nat) (c0 : Nat) (p0_1 : Option Addr) (l0_1 : Nat) (c0_1 : Nat) (n1 : Int) (n1_1 : Int) (p1 : Option Addr) (l1 : Nat) (c1 : Nat) (p1_1 : Option Addr) (l1_1 : Nat) (c1_1 : Nat) (w : World) (Q : Value → World → Prop) (h : ref10_Same n0 n0_1 p0 l0 c0 p0_1 l0_1 c0_1 n1 n1_1 p1 l1 c1 p1_1 l1_1 c1_1 w Q) : callF Tryz.prog 134 #[.agg #[.int .u8 n0, .int .u32 n0_1, .slice p0 l0 c0, .slice p0_1 l0_1 c0_1], .agg #[.int .u8 n1, .int .u32 n1_1, .slice p1 l1 c1, .slice p1_1 l1_1 c1_1]] w Q :=
  callBy ref10_Same_tt Tryz.func134 h (fun _ _ => by kernel_rfl) (by kernel_rfl) (by kernel_rfl) (by kernel_rfl)
def ref10_id_j1 (p0 : Option Addr) (l0 : Nat) (c0 : Nat) (p2 : Option Addr) (l2 : Nat) (c2 : Nat) (p3 : Option Addr) (l3 : Nat) (c3 : Nat) (b4 : Bool) (w : World) (Q : Value → World → Prop) : Prop :=
  ∃ a20, IxA Tryz.prog 25 (.slice p0 l0 c0) (.int .i64 0) a20 ∧
  ∃ n21, Ld Tryz.prog 5 (.pointer (some a20)) w (.int .u8 n21) ∧
  Drw w fun w1 =>
  ∃ p27 l27 c27, Pu Tryz.prog (Instr.sliceAt 25 (.slice p0 l0 c0) (some (.int .i64 1)) (some (.int .i64 (IntKind.i64.wrap (1 + (IntKind.i64.wrap n21))))) none) (.slice p27 l27 c27) ∧
  ∃ p32 l32 c32, Pu Tryz.prog (Instr.sliceAt 25 (.slice p0 l0 c0) (some (.int .i64 (IntKind.i64.wrap (1 + (IntKind.i64.wrap n21))))) none none) (.slice p32 l32 c32) ∧
  ∃ p23 l23 c23 w2, Ef Tryz.prog (Instr.buildSlice 25 0 #[]) w1 (.slice p23 l23 c23) w2 ∧
  ∃ p28 l28 c28 w3, Ef Tryz.prog (Builtin.append_ #[25, 25] 25 #[.slice p23 l23 c23, .slice p27 l27 c27]) w2 (.slice p28 l28 c28) w3 ∧
  Q (.tuple #[.slice p28 l28 c28, .slice p32 l32 c32, .bool true]) w3
def ref10_id (p0 : Option Addr) (l0 : Nat) (c0 : Nat) (w : World) (Q : Value → World → Prop) : Prop :=
  cond (((l0 : Nat) : Int) == 0)
  (Q (.tuple #[.slice none 0 0, .slice none 0 0, .bool false]) w)
  (∃ a14, IxA Tryz.prog 25 (.slice p0 l0 c0) (.int .i64 0) a14 ∧
    ∃ n15, Ld Tryz.prog 5 (.pointer (some a14)) w (.int .u8 n15) ∧
    cond (decide ((IntKind.i64.wrap (((l0 : Nat) : Int) - 1)) < (IntKind.i64.wrap n15)))
    (Q (.tuple #[.slice none 0 0, .slice none 0 0, .bool false]) w)
    (ref10_id_j1 p0 l0 c0 none 0 0 none 0 0 false w Q))
def ref10_id_tt : Nat → List (Nat × TypeId) := fun _ => []
theorem ref10_id_call (p0 : Option Addr) (l0 : Nat) (c0 : Nat) (w : World) (Q : Value → World → Prop) (h : ref10_id p0 l0 c0 w Q) : callF Tryz.prog 203 #[.slice p0 l0 c0] w Q :=
  callBy ref10_id_tt Tryz.func203 h (fun _ _ => by kernel_rfl) (by kernel_rfl) (by kernel_rfl) (by kernel_rfl)
end Go.Sh
end

section
namespace Go.Sh
open Go Go.Fw Go.Proofs
set_option maxRecDepth 100000
set_option linter.unusedVariables false
def ref11_Type (n0 : Int) (w : World) (Q : Value → World → Prop) : Prop :=
  Q (.int .i64 (Int.tmod (IntKind.i64.wrap (Int.tdiv (IntKind.i64.wrap n0) 16)) 4)) w
def ref11_Type_tt : Nat → List (Nat × TypeId) := fun _ => []
theorem ref11_Type_call (n0 : Int) (w : World) (Q : Value → World → Prop) (h : ref11_Type n0 w Q) : callF Tryz.prog 133 #[.int .u8 n0] w Q :=
  callBy ref11_Type_tt Tryz.func133 h (fun _ _ => by kernel_rfl) (by kernel_rfl) (by kernel_rfl) (by kernel_rfl)
end Go.Sh
end

section
namespace Go.Sh
open Go Go.Fw Go.Proofs
set_option maxRecDepth 100000
set_option linter.unusedVariables false
def ref12_Make_j1 (p0 : Option Addr) (l0 : Nat) (c0 : Nat) (p1 : Option Addr) (l1 : Nat) (c1 : Nat) (p2 : Option Addr) (l2 : Nat) (c2 : Nat) (p3 : Option Addr) (l3 : Nat) (c3 : Nat) (p8 : Option Addr) (l8 : Nat) (c8 : Nat) (n9 : Int) (w : World) (Q : Value → World → Prop) : Prop :=
  callF Tryz.prog 119 #[.agg #[.int .u8 255, .int .u32 1, .slice p0 l0 c0, .slice p1 l1 c1]] w fun r39 w1 =>
  ∃ p39 l39 c39 n39, r39 = .tuple #[.slice p39 l39 c39, .int .i64 n39] ∧
  ∃ p44 l44 c44 w2, Ef Tryz.prog (Builtin.append_ #[25, 25] 25 #[.slice p39 l39 c39, .slice p3 l3 c3]) w1 (.slice p44 l44 c44) w2 ∧
  callF Tryz.prog 50 #[.slice p2 l2 c2, .slice p44 l44 c44] w2 fun r48 w3 =>
  ∃ p48 l48 c48 n48, r48 = .tuple #[.slice p48 l48 c48, .int .i64 n48] ∧
  ∃ p53 l53 c53 w4, Ef Tryz.prog (Builtin.append_ #[25, 25] 25 #[.slice p44 l44 c44, .slice p48 l48 c48]) w3 (.slice p53 l53 c53) w4 ∧
  Q (.tuple #[.slice p53 l53 c53, .int .i64 n48]) w4
def ref12_Make_j2 (p0 : Option Addr) (l0 : Nat) (c0 : Nat) (p1 : Option Addr) (l1 : Nat) (c1 : Nat) (p2 : Option Addr) (l2 : Nat) (c2 : Nat) (p3 : Option Addr) (l3 : Nat) (c3 : Nat) (p8 : Option Addr) (l8 : Nat) (c8 : Nat) (n9 : Int) (w : World) (Q : Value → World → Prop) : Prop :=
  cond (decide (((l3 : Nat) : Int) < 1))
  (Q (.tuple #[.slice none 0 0, .int .i64 11]) w)
  (cond (decide (((l3 : Nat) : Int) > 4096))
    (Q (.tuple #[.slice none 0 0, .int .i64 11]) w)
    (ref12_Make_j1 p0 l0 c0 p1 l1 c1 p2 l2 c2 p3 l3 c3 p8 l8 c8 n9 w Q))
def ref12_Make (p0 : Option Addr) (l0 : Nat) (c0 : Nat) (p1 : Option Addr) (l1 : Nat) (c1 : Nat) (p2 : Option Addr) (l2 : Nat) (c2 : Nat) (p3 : Option Addr) (l3 : Nat) (c3 : Nat) (w : World) (Q : Value → World → Prop) : Prop :=
  cond (decide (((l0 : Nat) : Int) > 20))
  (Q (.tuple #[.slice none 0 0, .int .i64 15]) w)
  (cond (decide (((l1 : Nat) : Int) > 20))
    (Q (.tuple #[.slice none 0 0, .int .i64 15]) w)
    (cond (decide (((l2 : Nat) : Int) > 20))
      (Q (.tuple #[.slice none 0 0, .int .i64 15]) w)
      (ref12_Make_j2 p0 l0 c0 p1 l1 c1 p2 l2 c2 p3 l3 c3 none 0 0 0 w Q)))
def ref12_Make_tt : Nat → List (Nat × TypeId) := fun _ => []
theorem ref12_Make_call (p0 : Option Addr) (l0 : Nat) (c0 : Nat) (p1 : Option Addr) (l1 : Nat) (c1 : Nat) (p2 : Option Addr) (l2 : Nat) (c2 : Nat) (p3 : Option Addr) (l3 : Nat) (c3 : Nat) (w : World) (Q : Value → World → Prop) (h : ref12_Make p0 l0 c0 p1 l1 c1 p2 l2 c2 p3 l3 c3 w Q) : callF Tryz.prog 48 #[.slice p0 l0 c0, .slice p1 l1 c1, .slice p2 l2 c2, .slice p3 l3 c3] w Q :=
  callBy ref12_Make_tt Tryz.func48 h (fun _ _ => by kernel_rfl) (by kernel_rfl) (by kernel_rfl) (by kernel_rfl)
def ref12_Stamp (p0 : Option Addr) (l0 : Nat) (c0 : Nat) (p1 : Option Addr) (l1 : Nat) (c1 : Nat) (w : World) (Q : Value → World → Prop) : Prop :=
  cond (decide (((l0 : Nat) : Int) > 20))
  (Q (.tuple #[.slice none 0 0, .int .i64 15]) w)
  (cond (decide (((l1 : Nat) : Int) > 65000))
    (Q (.tuple #[.slice none 0 0, .int .i64 11]) w)
    (callF Tryz.prog 116 #[.string (⟨#[98, 101, 48, 99, 54, 57, 48, 98, 57, 102, 54, 54, 53, 55, 53, 97, 49, 100, 55, 54, 54, 98, 53, 52, 101, 51, 54, 56, 99, 56, 52, 101]⟩ : ByteArray)] w fun r18 w1 =>
      ∃ p18 l18 c18 n18, r18 = .tuple #[.slice p18 l18 c18, .int .i64 n18] ∧
      callF Tryz.prog 116 #[.string (⟨#[52, 54, 49, 53, 57, 57, 100, 51, 53, 100, 54, 51, 50, 98, 102, 50, 50, 51, 57, 56, 50, 53, 98, 98]⟩ : ByteArray)] w1 fun r22 w2 =>
      ∃ p22 l22 c22 n22, r22 = .tuple #[.slice p22 l22 c22, .int .i64 n22] ∧
      ∃ p28 l28 c28 w3, Ef Tryz.prog (Instr.buildSlice 25 1 #[(0, .int .u8 (IntKind.u8.wrap ((l0 : Nat) : Int)))]) w2 (.slice p28 l28 c28) w3 ∧
      ∃ p30 l30 c30 w4, Ef Tryz.prog (Builtin.append_ #[25, 25] 25 #[.slice p28 l28 c28, .slice p0 l0 c0]) w3 (.slice p30 l30 c30) w4 ∧
      ∃ p32 l32 c32 w5, Ef Tryz.prog (Builtin.append_ #[25, 25] 25 #[.slice p30 l30 c30, .slice p1 l1 c1]) w4 (.slice p32 l32 c32) w5 ∧
      callF Tryz.prog 127 #[.slice p18 l18 c18, .slice p22 l22 c22, .slice none 0 0, .slice p32 l32 c32] w5 fun r36 w6 =>
      ∃ p36 l36 c36 n36, r36 = .tuple #[.slice p36 l36 c36, .int .i64 n36] ∧
      Q (.tuple #[.slice p36 l36 c36, .int .i64 n36]) w6))
def ref12_Stamp_tt : Nat → List (Nat × TypeId) := fun _ => []
theorem ref12_Stamp_call (p0 : Option Addr) (l0 : Nat) (c0 : Nat) (p1 : Option Addr) (l1 : Nat) (c1 : Nat) (w : World) (Q : Value → World → Prop) (h : ref12_Stamp p0 l0 c0 p1 l1 c1 w Q) : callF Tryz.prog 50 #[.slice p0 l0 c0, .slice p1 l1 c1] w Q :=
  callBy ref12_Stamp_tt Tryz.func50 h (fun _ _ => by kernel_rfl) (by kernel_rfl) (by kernel_rfl) (by kernel_rfl)
def ref12_Parse_j1 (a2 : Addr) (n3 : Int) (a4 : Addr) (p5 : Option Addr) (l5 : Nat) (c5 : Nat) (w : World) (Q : Value → World → Prop) : Prop :=
  cond (decide ((IntKind.i64.wrap (((l5 : Nat) : Int) - 16)) < 1))
  (∃ w1, Sto Tryz.prog 81 (.pointer (some a2)) (.agg #[.int .u8 0, .int .u32 0, .slice none 0 0, .slice none 0 0, .slice none 0 0, .slice none 0 0]) w w1 ∧
    ∃ a2_1 v2, (.pointer (some a2) : Value) = .pointer (some a2_1) ∧ (loadVar 81 a2_1).run Tryz.prog w1 = .ok v2 w1 ∧
    Q (.tuple #[v2, .int .i64 12]) w1)
  (Drw w fun w2 =>
    ∃ p48 l48 c48, Pu Tryz.prog (Instr.sliceAt 25 (.slice p5 l5 c5) none (some (.int .i64 (IntKind.i64.wrap (((l5 : Nat) : Int) - 16)))) none) (.slice p48 l48 c48) ∧
    ∃ p51 l51 c51, Pu Tryz.prog (Instr.sliceAt 25 (.slice p5 l5 c5) (some (.int .i64 (IntKind.i64.wrap (((l5 : Nat) : Int) - 16)))) none none) (.slice p51 l51 c51) ∧
    ∃ n45 n45_1 p45 l45 c45 p45_1 l45_1 c45_1, Ld Tryz.prog 79 (.pointer (some a4)) w2 (.agg #[.int .u8 n45, .int .u32 n45_1, .slice p45 l45 c45, .slice p45_1 l45_1 c45_1]) ∧
    ∃ w3, Sto Tryz.prog 81 (.pointer (some a2)) (.agg #[.int .u8 n45, .int .u32 n45_1, .slice p45 l45 c45, .slice p45_1 l45_1 c45_1, .slice p48 l48 c48, .slice p51 l51 c51]) w2 w3 ∧
    ∃ a2_2 v2_1, (.pointer (some a2) : Value) = .pointer (some a2_2) ∧ (loadVar 81 a2_2).run Tryz.prog w3 = .ok v2_1 w3 ∧
    Q (.tuple #[v2_1, .int .i64 0]) w3)
def ref12_Parse_j2 (a2 : Addr) (n3 : Int) (a4 : Addr) (p5 : Option Addr) (l5 : Nat) (c5 : Nat) (b37 : Bool) (w : World) (Q : Value → World → Prop) : Prop :=
  cond b37
  (∃ w1, Sto Tryz.prog 81 (.pointer (some a2)) (.agg #[.int .u8 0, .int .u32 0, .slice none 0 0, .slice none 0 0, .slice none 0 0, .slice none 0 0]) w w1 ∧
    ∃ a2_1 v2, (.pointer (some a2) : Value) = .pointer (some a2_1) ∧ (loadVar 81 a2_1).run Tryz.prog w1 = .ok v2 w1 ∧
    Q (.tuple #[v2, .int .i64 15]) w1)
  (ref12_Parse_j1 a2 n3 a4 p5 l5 c5 w Q)
def ref12_Parse_j3 (a2 : Addr) (n3 : Int) (a4 : Addr) (p5 : Option Addr) (l5 : Nat) (c5 : Nat) (w : World) (Q : Value → World → Prop) : Prop :=
  ∃ p29 l29 c29, Ld Tryz.prog 25 (.pointer (some (a4.add 2))) w (.slice p29 l29 c29) ∧
  cond (decide (((l29 : Nat) : Int) > 20))
  (ref12_Parse_j2 a2 n3 a4 p5 l5 c5 true w Q)
  (∃ p34 l34 c34, Ld Tryz.prog 25 (.pointer (some (a4.add 3))) w (.slice p34 l34 c34) ∧
    ref12_Parse_j2 a2 n3 a4 p5 l5 c5 (decide (((l34 : Nat) : Int) > 20)) w Q)
def ref12_Parse_j4 (a2 : Addr) (n3 : Int) (a4 : Addr) (p5 : Option Addr) (l5 : Nat) (c5 : Nat) (b26 : Bool) (w : World) (Q : Value → World → Prop) : Prop :=
  cond b26
  (∃ w1, Sto Tryz.prog 81 (.pointer (some a2)) (.agg #[.int .u8 0, .int .u32 0, .slice none 0 0, .slice none 0 0, .slice none 0 0, .slice none 0 0]) w w1 ∧
    ∃ a2_1 v2, (.pointer (some a2) : Value) = .pointer (some a2_1) ∧ (loadVar 81 a2_1).run Tryz.prog w1 = .ok v2 w1 ∧
    Q (.tuple #[v2, .int .i64 14]) w1)
  (ref12_Parse_j3 a2 n3 a4 p5 l5 c5 w Q)
def ref12_Parse (p0 : Option Addr) (l0 : Nat) (c0 : Nat) (w : World) (Q : Value → World → Prop) : Prop :=
  ∃ z2, Pu Tryz.prog (zeroValue 81) z2 ∧
  New z2.cells 81 w fun k2 w1 =>
  callF Tryz.prog 132 #[.slice p0 l0 c0] w1 fun r10 w2 =>
  ∃ n10 n10_1 p10 l10 c10 p10_1 l10_1 c10_1 p10_2 l10_2 c10_2 n10_2, r10 = .tuple #[.agg #[.int .u8 n10, .int .u32 n10_1, .slice p10 l10 c10, .slice p10_1 l10_1 c10_1], .slice p10_2 l10_2 c10_2, .int .i64 n10_2] ∧
  ∃ z4, Pu Tryz.prog (zeroValue 79) z4 ∧
  New z4.cells 79 w2 fun k4 w3 =>
  ∃ w4, Sto Tryz.prog 79 (.pointer (some (⟨k4, 0, none⟩ : Addr))) (.agg #[.int .u8 n10, .int .u32 n10_1, .slice p10 l10 c10, .slice p10_1 l10_1 c10_1]) w3 w4 ∧
  cond (n10_2 != 0)
  (∃ w5, Sto Tryz.prog 81 (.pointer (some (⟨k2, 0, none⟩ : Addr))) (.agg #[.int .u8 0, .int .u32 0, .slice none 0 0, .slice none 0 0, .slice none 0 0, .slice none 0 0]) w4 w5 ∧
    ∃ a2 v2, (.pointer (some (⟨k2, 0, none⟩ : Addr)) : Value) = .pointer (some a2) ∧ (loadVar 81 a2).run Tryz.prog w5 = .ok v2 w5 ∧
    Q (.tuple #[v2, .int .i64 n10_2]) w5)
  (∃ n19, Ld Tryz.prog 72 (.pointer (some ((⟨k4, 0, none⟩ : Addr).add 1))) w4 (.int .u32 n19) ∧
    cond (n19 != 1)
    (ref12_Parse_j4 (⟨k2, 0, none⟩ : Addr) 0 (⟨k4, 0, none⟩ : Addr) p10_2 l10_2 c10_2 true w4 Q)
    (∃ n23, Ld Tryz.prog 5 (.pointer (some ((⟨k4, 0, none⟩ : Addr).add 0))) w4 (.int .u8 n23) ∧
      callF Tryz.prog 133 #[.int .u8 n23] w4 fun r24 w6 =>
      ∃ n24, r24 = .int .i64 n24 ∧
      ref12_Parse_j4 (⟨k2, 0, none⟩ : Addr) 0 (⟨k4, 0, none⟩ : Addr) p10_2 l10_2 c10_2 (n24 != 3) w6 Q))
def ref12_Parse_tt : Nat → List (Nat × TypeId) := fun _ => []
theorem ref12_Parse_call (p0 : Option Addr) (l0 : Nat) (c0 : Nat) (w : World) (Q : Value → World → Prop) (h : ref12_Parse p0 l0 c0 w Q) : callF Tryz.prog 52 #[.slice p0 l0 c0] w Q :=
  callBy ref12_Parse_tt Tryz.func52 h (fun _ _ => by kernel_rfl) (by kernel_rfl) (by kernel_rfl) (by kernel_rfl)
def ref12_Same (n0 : Int) (n0_1 : Int) (p0 : Option Addr) (l0 : Nat) (c0 : Nat) (p0_1 : Option Addr) (l0_1 : Nat) (c0_1 : Nat) (p0_2 : Option Addr) (l0_2 : Nat) (c0_2 : Nat) (p0_3 : Option Addr) (l0_3 : Nat) (c0_3 : Nat) (n1 : Int) (n1_1 : Int) (p1 : Option Addr) (l1 : Nat) (c1 : Nat) (p1_1 : Option Addr) (l1_1 : Nat) (c1_1 : Nat) (p1_2 : Option Addr) (l1_2 : Nat) (c1_2 : Nat) (p1_3 : Option Addr) (l1_3 : Nat) (c1_3 : Nat) (w : World) (Q : Value → World → Prop) : Prop :=
  New #[.int .u8 n0, .int .u32 n0_1, .slice p0 l0 c0, .slice p0_1 l0_1 c0_1, .slice p0_2 l0_2 c0_2, .slice p0_3 l0_3 c0_3] 81 w fun k2 w1 =>
  New #[.int .u8 n1, .int .u32 n1_1, .slice p1 l1 c1, .slice p1_1 l1_1 c1_1, .slice p1_2 l1_2 c1_2, .slice p1_3 l1_3 c1_3] 81 w1 fun k3 w2 =>
  ∃ n6 n6_1 p6 l6 c6 p6_1 l6_1 c6_1, Ld Tryz.prog 79 (.pointer (some ((⟨k2, 0, none⟩ : Addr).add 0))) w2 (.agg #[.int .u8 n6, .int .u32 n6_1, .slice p6 l6 c6, .slice p6_1 l6_1 c6_1]) ∧
  ∃ n8 n8_1 p8 l8 c8 p8_1 l8_1 c8_1, Ld Tryz.prog 79 (.pointer (some ((⟨k3, 0, none⟩ : Addr).add 0))) w2 (.agg #[.int .u8 n8, .int .u32 n8_1, .slice p8 l8 c8, .slice p8_1 l8_1 c8_1]) ∧
  callF Tryz.prog 134 #[.agg #[.int .u8 n6, .int .u32 n6_1, .slice p6 l6 c6, .slice p6_1 l6_1 c6_1], .agg #[.int .u8 n8, .int .u32 n8_1, .slice p8 l8 c8, .slice p8_1 l8_1 c8_1]] w2 fun r9 w3 =>
  ∃ b9, r9 = .bool b9 ∧
  cond b9
  (∃ p12 l12 c12, Ld Tryz.prog 25 (.pointer (some ((⟨k2, 0, none⟩ : Addr).add 4))) w3 (.slice p12 l12 c12) ∧
    ∃ s13 w4, Ef Tryz.prog (convert 25 9 (.slice p12 l12 c12)) w3 (.string s13) w4 ∧
    ∃ p15 l15 c15, Ld Tryz.prog 25 (.pointer (some ((⟨k3, 0, none⟩ : Addr).add 4))) w4 (.slice p15 l15 c15) ∧
    ∃ s16 w5, Ef Tryz.prog (convert 25 9 (.slice p15 l15 c15)) w4 (.string s16) w5 ∧
    ∃ b17 w6, Ef Tryz.prog (do eqGuard .eql 9 (.tmp 13) (.tmp 16) (.string s13) (.string s16); binOp .eql 9 (.string s13) (.string s16) : Sem Value) w5 (.bool b17) w6 ∧
    cond b17
    (∃ p21 l21 c21, Ld Tryz.prog 25 (.pointer (some ((⟨k2, 0, none⟩ : Addr).add 5))) w6 (.slice p21 l21 c21) ∧
      ∃ s22 w7, Ef Tryz.prog (convert 25 9 (.slice p21 l21 c21)) w6 (.string s22) w7 ∧
      ∃ p24 l24 c24, Ld Tryz.prog 25 (.pointer (some ((⟨k3, 0, none⟩ : Addr).add 5))) w7 (.slice p24 l24 c24) ∧
      ∃ s25 w8, Ef Tryz.prog (convert 25 9 (.slice p24 l24 c24)) w7 (.string s25) w8 ∧
      ∃ b26 w9, Ef Tryz.prog (do eqGuard .eql 9 (.tmp 22) (.tmp 25) (.string s22) (.string s25); binOp .eql 9 (.string s22) (.string s25) : Sem Value) w8 (.bool b26) w9 ∧
      Q (.bool b26) w9)
    (Q (.bool false) w6))
  (Q (.bool false) w3)
def ref12_Same_tt : Nat → List (Nat × TypeId) := fun _ => []
theorem ref12_Same_call (n0 : Int) (n0_1 : Int) (p0 : Option Addr) (l0 : Nat) (c0 : Nat) (p0_1 : Option Addr) (l0_1 : Nat) (c0_1 : Nat) (p0_2 : Option Addr) (l0_2 : Nat) (c0_2 : Nat) (p0_3 : Option Addr) (l0_3 : Nat) (c0_3 : Nat) (n1 : Int) (n1_1 : Int) (p1 : Option Addr) (l1 : Nat) (c1 : Nat) (p1_1 : Option Addr) (l1_1 : Nat) (c1_1 : Nat) (p1_2 : Option Addr) (l1_2 : Nat) (c1_2 : Nat) (p1_3 : Option Addr) (l1_3 : Nat) (c1_3 : Nat) (w : World) (Q : Value → World → Prop) (h : ref12_Same n0 n0_1 p0 l0 c0 p0_1 l0_1 c0_1 p0_2 l0_2 c0_2 p0_3 l0_3 c0_3 n1 n1_1 p1 l1 c1 p1_1 l1_1 c1_1 p1_2 l1_2 c1_2 p1_3 l1_3 c1_3 w Q) : callF Tryz.prog 53 #[.agg #[.int .u8 n0, .int .u32 n0_1, .slice p0 l0 c0, .slice p0_1 l0_1 c0_1, .slice p0_2 l0_2 c0_2, .slice p0_3 l0_3 c0_3], .agg #[.int .u8 n1, .int .u32 n1_1, .slice p1 l1 c1, .slice p1_1 l1_1 c1_1, .slice p1_2 l1_2 c1_2, .slice p1_3 l1_3 c1_3]] w Q :=
  callBy ref12_Same_tt Tryz.func53 h (fun _ _ => by kernel_rfl) (by kernel_rfl) (by kernel_rfl) (by kernel_rfl)
def ref12_Check (p0 : Option Addr) (l0 : Nat) (c0 : Nat) (p1 : Option Addr) (l1 : Nat) (c1 : Nat) (w : World) (Q : Value → World → Prop) : Prop :=
  callF Tryz.prog 52 #[.slice p0 l0 c0] w fun r10 w1 =>
  ∃ n10 n10_1 p10 l10 c10 p10_1 l10_1 c10_1 p10_2 l10_2 c10_2 p10_3 l10_3 c10_3 n10_2, r10 = .tuple #[.agg #[.int .u8 n10, .int .u32 n10_1, .slice p10 l10 c10, .slice p10_1 l10_1 c10_1, .slice p10_2 l10_2 c10_2, .slice p10_3 l10_3 c10_3], .int .i64 n10_2] ∧
  ∃ z5, Pu Tryz.prog (zeroValue 81) z5 ∧
  New z5.cells 81 w1 fun k5 w2 =>
  ∃ w3, Sto Tryz.prog 81 (.pointer (some (⟨k5, 0, none⟩ : Addr))) (.agg #[.int .u8 n10, .int .u32 n10_1, .slice p10 l10 c10, .slice p10_1 l10_1 c10_1, .slice p10_2 l10_2 c10_2, .slice p10_3 l10_3 c10_3]) w2 w3 ∧
  cond (n10_2 != 0)
  (Q (.int .i64 n10_2) w3)
  (∃ p22 l22 c22, Pu Tryz.prog (Instr.sliceAt 25 (.slice p0 l0 c0) none (some (.int .i64 (IntKind.i64.wrap (((l0 : Nat) : Int) - 16)))) none) (.slice p22 l22 c22) ∧
    callF Tryz.prog 50 #[.slice p1 l1 c1, .slice p22 l22 c22] w3 fun r23 w4 =>
    ∃ p23 l23 c23 n23, r23 = .tuple #[.slice p23 l23 c23, .int .i64 n23] ∧
    cond (n23 != 0)
    (Q (.int .i64 n23) w4)
    (∃ s30 w5, Ef Tryz.prog (convert 25 9 (.slice p23 l23 c23)) w4 (.string s30) w5 ∧
      ∃ p32 l32 c32, Ld Tryz.prog 25 (.pointer (some ((⟨k5, 0, none⟩ : Addr).add 5))) w5 (.slice p32 l32 c32) ∧
      ∃ s33 w6, Ef Tryz.prog (convert 25 9 (.slice p32 l32 c32)) w5 (.string s33) w6 ∧
      ∃ b34 w7, Ef Tryz.prog (do eqGuard .neq 9 (.tmp 30) (.tmp 33) (.string s30) (.string s33); binOp .neq 9 (.string s30) (.string s33) : Sem Value) w6 (.bool b34) w7 ∧
      cond b34
      (Q (.int .i64 13) w7)
      (Q (.int .i64 0) w7)))
def ref12_Check_tt : Nat → List (Nat × TypeId) := fun _ => []
theorem ref12_Check_call (p0 : Option Addr) (l0 : Nat) (c0 : Nat) (p1 : Option Addr) (l1 : Nat) (c1 : Nat) (w : World) (Q : Value → World → Prop) (h : ref12_Check p0 l0 c0 p1 l1 c1 w Q) : callF Tryz.prog 56 #[.slice p0 l0 c0, .slice p1 l1 c1] w Q :=
  callBy ref12_Check_tt Tryz.func56 h (fun _ _ => by kernel_rfl) (by kernel_rfl) (by kernel_rfl) (by kernel_rfl)
end Go.Sh
end

section
namespace Go.Sh
open Go Go.Fw Go.Proofs
set_option maxRecDepth 100000
set_option linter.unusedVariables false
def law10_Of (n0 : Int) (n0_1 : Int) (p0 : Option Addr) (l0 : Nat) (c0 : Nat) (p0_1 : Option Addr) (l0_1 : Nat) (c0_1 : Nat) (w : World) (Q : Value → World → Prop) : Prop :=
  New #[.int .u8 n0, .int .u32 n0_1, .slice p0 l0 c0, .slice p0_1 l0_1 c0_1] 74 w fun k1 w1 =>
  ∃ z2, Pu Tryz.prog (zeroValue 79) z2 ∧
  New z2.cells 79 w1 fun k2 w2 =>
  ∃ (S1 : World → Prop),
  Drw w2 fun w3 =>
  ∃ n4, HLd Tryz.prog S1 5 (.pointer (some ((⟨k1, 0, none⟩ : Addr).add 0))) w3 (.int .u8 n4) ∧
  ∃ n6, HLd Tryz.prog S1 72 (.pointer (some ((⟨k1, 0, none⟩ : Addr).add 1))) w3 (.int .u32 n6) ∧
  ∃ p8 l8 c8, HLd Tryz.prog S1 25 (.pointer (some ((⟨k1, 0, none⟩ : Addr).add 2))) w3 (.slice p8 l8 c8) ∧
  ∃ p11 l11 c11, HLd Tryz.prog S1 25 (.pointer (some ((⟨k1, 0, none⟩ : Addr).add 3))) w3 (.slice p11 l11 c11) ∧
  callF Tryz.prog 25 #[.slice p8 l8 c8] w3 fun r9 w4 =>
  ∃ p9 l9 c9, r9 = .slice p9 l9 c9 ∧
  (w4 = w3 ∨ S1 w4) ∧
  callF Tryz.prog 25 #[.slice p11 l11 c11] w4 fun r12 w5 =>
  ∃ p12 l12 c12, r12 = .slice p12 l12 c12 ∧
  (w5 = w4 ∨ S1 w5) ∧
  ∃ w6, Sto Tryz.prog 79 (.pointer (some (⟨k2, 0, none⟩ : Addr))) (.agg #[.int .u8 n4, .int .u32 n6, .slice p9 l9 c9, .slice p12 l12 c12]) w5 w6 ∧
  ∃ a2 v2, (.pointer (some (⟨k2, 0, none⟩ : Addr)) : Value) = .pointer (some a2) ∧ (loadVar 79 a2).run Tryz.prog w6 = .ok v2 w6 ∧
  Q (v2) w6
def law10_Of_tt : Nat → List (Nat × TypeId) := fun _ => []
theorem law10_Of_call (n0 : Int) (n0_1 : Int) (p0 : Option Addr) (l0 : Nat) (c0 : Nat) (p0_1 : Option Addr) (l0_1 : Nat) (c0_1 : Nat) (w : World) (Q : Value → World → Prop) (h : law10_Of n0 n0_1 p0 l0 c0 p0_1 l0_1 c0_1 w Q) : callF Tryz.prog 135 #[.agg #[.int .u8 n0, .int .u32 n0_1, .slice p0 l0 c0, .slice p0_1 l0_1 c0_1]] w Q :=
  callBy law10_Of_tt Tryz.func135 h (fun _ _ => by kernel_rfl) (by kernel_rfl) (by kernel_rfl) (by kernel_rfl)
end Go.Sh
end

section
namespace Go.Sh
open Go Go.Fw Go.Proofs
set_option maxRecDepth 100000
set_option linter.unusedVariables false
def stamp_Make_j1 (p0 : Option Addr) (l0 : Nat) (c0 : Nat) (p1 : Option Addr) (l1 : Nat) (c1 : Nat) (p2 : Option Addr) (l2 : Nat) (c2 : Nat) (p3 : Option Addr) (l3 : Nat) (c3 : Nat) (p8 : Option Addr) (l8 : Nat) (c8 : Nat) (n9 : Int) (w : World) (Q : Value → World → Prop) : Prop :=
  callF Tryz.prog 118 #[.agg #[.int .u8 255, .int .u32 1, .slice p0 l0 c0, .slice p1 l1 c1]] w fun r34 w1 =>
  ∃ p34 l34 c34 n34, r34 = .tuple #[.slice p34 l34 c34, .int .i64 n34] ∧
  ∃ p39 l39 c39 w2, Ef Tryz.prog (Instr.buildSlice 45 2 #[(0, .slice p34 l34 c34), (1, .slice p3 l3 c3)]) w1 (.slice p39 l39 c39) w2 ∧
  callF Tryz.prog 112 #[.slice p39 l39 c39] w2 fun r40 w3 =>
  ∃ p40 l40 c40, r40 = .slice p40 l40 c40 ∧
  callF Tryz.prog 49 #[.slice p2 l2 c2, .slice p40 l40 c40] w3 fun r44 w4 =>
  ∃ p44 l44 c44 n44, r44 = .tuple #[.slice p44 l44 c44, .int .i64 n44] ∧
  ∃ p49 l49 c49 w5, Ef Tryz.prog (Instr.buildSlice 45 2 #[(0, .slice p40 l40 c40), (1, .slice p44 l44 c44)]) w4 (.slice p49 l49 c49) w5 ∧
  callF Tryz.prog 112 #[.slice p49 l49 c49] w5 fun r50 w6 =>
  ∃ p50 l50 c50, r50 = .slice p50 l50 c50 ∧
  Q (.tuple #[.slice p50 l50 c50, .int .i64 0]) w6
def stamp_Make (p0 : Option Addr) (l0 : Nat) (c0 : Nat) (p1 : Option Addr) (l1 : Nat) (c1 : Nat) (p2 : Option Addr) (l2 : Nat) (c2 : Nat) (p3 : Option Addr) (l3 : Nat) (c3 : Nat) (w : World) (Q : Value → World → Prop) : Prop :=
  ∃ p19 l19 c19 w1, Ef Tryz.prog (Instr.buildSlice 45 3 #[(0, .slice p0 l0 c0), (1, .slice p1 l1 c1), (2, .slice p2 l2 c2)]) w (.slice p19 l19 c19) w1 ∧
  callF Tryz.prog 117 #[.slice p19 l19 c19] w1 fun r20 w2 =>
  ∃ b20, r20 = .bool b20 ∧
  cond b20
  (Q (.tuple #[.slice none 0 0, .int .i64 15]) w2)
  (cond (decide (((l3 : Nat) : Int) < 1))
    (Q (.tuple #[.slice none 0 0, .int .i64 11]) w2)
    (cond (decide (((l3 : Nat) : Int) > 4096))
      (Q (.tuple #[.slice none 0 0, .int .i64 11]) w2)
      (stamp_Make_j1 p0 l0 c0 p1 l1 c1 p2 l2 c2 p3 l3 c3 none 0 0 0 w2 Q)))
def stamp_Make_tt : Nat → List (Nat × TypeId) := fun _ => []
theorem stamp_Make_call (p0 : Option Addr) (l0 : Nat) (c0 : Nat) (p1 : Option Addr) (l1 : Nat) (c1 : Nat) (p2 : Option Addr) (l2 : Nat) (c2 : Nat) (p3 : Option Addr) (l3 : Nat) (c3 : Nat) (w : World) (Q : Value → World → Prop) (h : stamp_Make p0 l0 c0 p1 l1 c1 p2 l2 c2 p3 l3 c3 w Q) : callF Tryz.prog 47 #[.slice p0 l0 c0, .slice p1 l1 c1, .slice p2 l2 c2, .slice p3 l3 c3] w Q :=
  callBy stamp_Make_tt Tryz.func47 h (fun _ _ => by kernel_rfl) (by kernel_rfl) (by kernel_rfl) (by kernel_rfl)
def stamp_Stamp_j1 (p0 : Option Addr) (l0 : Nat) (c0 : Nat) (p1 : Option Addr) (l1 : Nat) (c1 : Nat) (p4 : Option Addr) (l4 : Nat) (c4 : Nat) (n5 : Int) (w : World) (Q : Value → World → Prop) : Prop :=
  callF Tryz.prog 120 #[.string (⟨#[98, 101, 48, 99, 54, 57, 48, 98, 57, 102, 54, 54, 53, 55, 53, 97, 49, 100, 55, 54, 54, 98, 53, 52, 101, 51, 54, 56, 99, 56, 52, 101]⟩ : ByteArray)] w fun r23 w1 =>
  ∃ p23 l23 c23 n23, r23 = .tuple #[.slice p23 l23 c23, .int .i64 n23] ∧
  callF Tryz.prog 120 #[.string (⟨#[52, 54, 49, 53, 57, 57, 100, 51, 53, 100, 54, 51, 50, 98, 102, 50, 50, 51, 57, 56, 50, 53, 98, 98]⟩ : ByteArray)] w1 fun r27 w2 =>
  ∃ p27 l27 c27 n27, r27 = .tuple #[.slice p27 l27 c27, .int .i64 n27] ∧
  callF Tryz.prog 121 #[.slice p23 l23 c23] w2 fun r32 w3 =>
  ∃ p32 n32, r32 = .tuple #[.pointer p32, .int .i64 n32] ∧
  callF Tryz.prog 122 #[] w3 fun r36 w4 =>
  ∃ p36, r36 = .pointer p36 ∧
  callF Tryz.prog 123 #[.pointer p36, .slice p0 l0 c0] w4 fun r38 w5 =>
  ∃ p38, r38 = .pointer p38 ∧
  ∃ p40 l40 c40 w6, Ef Tryz.prog (Instr.buildSlice 45 1 #[(0, .slice p1 l1 c1)]) w5 (.slice p40 l40 c40) w6 ∧
  callF Tryz.prog 124 #[.pointer p38, .slice p40 l40 c40] w6 fun r41 w7 =>
  ∃ p41, r41 = .pointer p41 ∧
  callF Tryz.prog 125 #[.pointer p41] w7 fun r42 w8 =>
  ∃ p42 l42 c42 n42, r42 = .tuple #[.slice p42 l42 c42, .int .i64 n42] ∧
  callF Tryz.prog 126 #[.pointer p32, .slice p27 l27 c27, .slice none 0 0, .slice p42 l42 c42] w8 fun r48 w9 =>
  ∃ p48 l48 c48 n48, r48 = .tuple #[.slice p48 l48 c48, .int .i64 n48] ∧
  Q (.tuple #[.slice p48 l48 c48, .int .i64 n48]) w9
def stamp_Stamp (p0 : Option Addr) (l0 : Nat) (c0 : Nat) (p1 : Option Addr) (l1 : Nat) (c1 : Nat) (w : World) (Q : Value → World → Prop) : Prop :=
  ∃ p16 l16 c16 w1, Ef Tryz.prog (Instr.buildSlice 45 1 #[(0, .slice p0 l0 c0)]) w (.slice p16 l16 c16) w1 ∧
  callF Tryz.prog 117 #[.slice p16 l16 c16] w1 fun r17 w2 =>
  ∃ b17, r17 = .bool b17 ∧
  cond b17
  (Q (.tuple #[.slice none 0 0, .int .i64 15]) w2)
  (cond (decide (((l1 : Nat) : Int) > 65000))
    (Q (.tuple #[.slice none 0 0, .int .i64 11]) w2)
    (stamp_Stamp_j1 p0 l0 c0 p1 l1 c1 none 0 0 0 w2 Q))
def stamp_Stamp_tt : Nat → List (Nat × TypeId) := fun _ => []
theorem stamp_Stamp_call (p0 : Option Addr) (l0 : Nat) (c0 : Nat) (p1 : Option Addr) (l1 : Nat) (c1 : Nat) (w : World) (Q : Value → World → Prop) (h : stamp_Stamp p0 l0 c0 p1 l1 c1 w Q) : callF Tryz.prog 49 #[.slice p0 l0 c0, .slice p1 l1 c1] w Q :=
  callBy stamp_Stamp_tt Tryz.func49 h (fun _ _ => by kernel_rfl) (by kernel_rfl) (by kernel_rfl) (by kernel_rfl)
def stamp_Parse_j1 (a2 : Addr) (n3 : Int) (a4 : Addr) (p5 : Option Addr) (l5 : Nat) (c5 : Nat) (w : World) (Q : Value → World → Prop) : Prop :=
  callF Tryz.prog 129 #[.slice p5 l5 c5] w fun r44 w1 =>
  ∃ p44, r44 = .pointer p44 ∧
  ∃ (S11 : World → Prop),
  Drw w1 fun w2 =>
  ∃ n45 n45_1 p45 l45 c45 p45_1 l45_1 c45_1, HLd Tryz.prog S11 74 (.pointer (some a4)) w2 (.agg #[.int .u8 n45, .int .u32 n45_1, .slice p45 l45 c45, .slice p45_1 l45_1 c45_1]) ∧
  callF Tryz.prog 130 #[.pointer p44, .int .i64 (IntKind.i64.wrap (((l5 : Nat) : Int) - 16))] w2 fun r50 w3 =>
  ∃ p50 l50 c50, r50 = .slice p50 l50 c50 ∧
  (w3 = w2 ∨ S11 w3) ∧
  callF Tryz.prog 131 #[.pointer p44] w3 fun r52 w4 =>
  ∃ p52 l52 c52, r52 = .slice p52 l52 c52 ∧
  (w4 = w3 ∨ S11 w4) ∧
  ∃ w5, Sto Tryz.prog 76 (.pointer (some a2)) (.agg #[.int .u8 n45, .int .u32 n45_1, .slice p45 l45 c45, .slice p45_1 l45_1 c45_1, .slice p50 l50 c50, .slice p52 l52 c52]) w4 w5 ∧
  ∃ a2_1 v2, (.pointer (some a2) : Value) = .pointer (some a2_1) ∧ (loadVar 76 a2_1).run Tryz.prog w5 = .ok v2 w5 ∧
  Q (.tuple #[v2, .int .i64 0]) w5
def stamp_Parse_j2 (a2 : Addr) (n3 : Int) (a4 : Addr) (p5 : Option Addr) (l5 : Nat) (c5 : Nat) (b19 : Bool) (w : World) (Q : Value → World → Prop) : Prop :=
  cond b19
  (∃ w1, Sto Tryz.prog 76 (.pointer (some a2)) (.agg #[.int .u8 0, .int .u32 0, .slice none 0 0, .slice none 0 0, .slice none 0 0, .slice none 0 0]) w w1 ∧
    ∃ a2_1 v2, (.pointer (some a2) : Value) = .pointer (some a2_1) ∧ (loadVar 76 a2_1).run Tryz.prog w1 = .ok v2 w1 ∧
    Q (.tuple #[v2, .int .i64 14]) w1)
  (∃ p32 l32 c32, Ld Tryz.prog 25 (.pointer (some (a4.add 2))) w (.slice p32 l32 c32) ∧
    ∃ p34 l34 c34, Ld Tryz.prog 25 (.pointer (some (a4.add 3))) w (.slice p34 l34 c34) ∧
    ∃ p35 l35 c35 w2, Ef Tryz.prog (Instr.buildSlice 45 2 #[(0, .slice p32 l32 c32), (1, .slice p34 l34 c34)]) w (.slice p35 l35 c35) w2 ∧
    callF Tryz.prog 117 #[.slice p35 l35 c35] w2 fun r36 w3 =>
    ∃ b36, r36 = .bool b36 ∧
    cond b36
    (∃ w4, Sto Tryz.prog 76 (.pointer (some a2)) (.agg #[.int .u8 0, .int .u32 0, .slice none 0 0, .slice none 0 0, .slice none 0 0, .slice none 0 0]) w3 w4 ∧
      ∃ a2_2 v2_1, (.pointer (some a2) : Value) = .pointer (some a2_2) ∧ (loadVar 76 a2_2).run Tryz.prog w4 = .ok v2_1 w4 ∧
      Q (.tuple #[v2_1, .int .i64 15]) w4)
    (cond (decide (((l5 : Nat) : Int) ≤ 16))
      (∃ w5, Sto Tryz.prog 76 (.pointer (some a2)) (.agg #[.int .u8 0, .int .u32 0, .slice none 0 0, .slice none 0 0, .slice none 0 0, .slice none 0 0]) w3 w5 ∧
        ∃ a2_3 v2_2, (.pointer (some a2) : Value) = .pointer (some a2_3) ∧ (loadVar 76 a2_3).run Tryz.prog w5 = .ok v2_2 w5 ∧
        Q (.tuple #[v2_2, .int .i64 12]) w5)
      (stamp_Parse_j1 a2 n3 a4 p5 l5 c5 w3 Q)))
def stamp_Parse (p0 : Option Addr) (l0 : Nat) (c0 : Nat) (w : World) (Q : Value → World → Prop) : Prop :=
  ∃ z2, Pu Tryz.prog (zeroValue 76) z2 ∧
  New z2.cells 76 w fun k2 w1 =>
  callF Tryz.prog 128 #[.slice p0 l0 c0] w1 fun r10 w2 =>
  ∃ n10 n10_1 p10 l10 c10 p10_1 l10_1 c10_1 p10_2 l10_2 c10_2 n10_2, r10 = .tuple #[.agg #[.int .u8 n10, .int .u32 n10_1, .slice p10 l10 c10, .slice p10_1 l10_1 c10_1], .slice p10_2 l10_2 c10_2, .int .i64 n10_2] ∧
  ∃ z4, Pu Tryz.prog (zeroValue 74) z4 ∧
  New z4.cells 74 w2 fun k4 w3 =>
  ∃ w4, Sto Tryz.prog 74 (.pointer (some (⟨k4, 0, none⟩ : Addr))) (.agg #[.int .u8 n10, .int .u32 n10_1, .slice p10 l10 c10, .slice p10_1 l10_1 c10_1]) w3 w4 ∧
  cond (n10_2 != 0)
  (∃ w5, Sto Tryz.prog 76 (.pointer (some (⟨k2, 0, none⟩ : Addr))) (.agg #[.int .u8 0, .int .u32 0, .slice none 0 0, .slice none 0 0, .slice none 0 0, .slice none 0 0]) w4 w5 ∧
    ∃ a2 v2, (.pointer (some (⟨k2, 0, none⟩ : Addr)) : Value) = .pointer (some a2) ∧ (loadVar 76 a2).run Tryz.prog w5 = .ok v2 w5 ∧
    Q (.tuple #[v2, .int .i64 n10_2]) w5)
  (∃ n21, Ld Tryz.prog 72 (.pointer (some ((⟨k4, 0, none⟩ : Addr).add 1))) w4 (.int .u32 n21) ∧
    cond (n21 != 1)
    (stamp_Parse_j2 (⟨k2, 0, none⟩ : Addr) 0 (⟨k4, 0, none⟩ : Addr) p10_2 l10_2 c10_2 true w4 Q)
    (∃ n25, Ld Tryz.prog 5 (.pointer (some ((⟨k4, 0, none⟩ : Addr).add 0))) w4 (.int .u8 n25) ∧
      callF Tryz.prog 77 #[.int .u8 n25] w4 fun r26 w6 =>
      ∃ n26, r26 = .int .i64 n26 ∧
      stamp_Parse_j2 (⟨k2, 0, none⟩ : Addr) 0 (⟨k4, 0, none⟩ : Addr) p10_2 l10_2 c10_2 (n26 != 3) w6 Q))
def stamp_Parse_tt : Nat → List (Nat × TypeId) := fun _ => []
theorem stamp_Parse_call (p0 : Option Addr) (l0 : Nat) (c0 : Nat) (w : World) (Q : Value → World → Prop) (h : stamp_Parse p0 l0 c0 w Q) : callF Tryz.prog 51 #[.slice p0 l0 c0] w Q :=
  callBy stamp_Parse_tt Tryz.func51 h (fun _ _ => by kernel_rfl) (by kernel_rfl) (by kernel_rfl) (by kernel_rfl)
def stamp_Check (p0 : Option Addr) (l0 : Nat) (c0 : Nat) (p1 : Option Addr) (l1 : Nat) (c1 : Nat) (w : World) (Q : Value → World → Prop) : Prop :=
  callF Tryz.prog 51 #[.slice p0 l0 c0] w fun r10 w1 =>
  ∃ n10 n10_1 p10 l10 c10 p10_1 l10_1 c10_1 p10_2 l10_2 c10_2 p10_3 l10_3 c10_3 n10_2, r10 = .tuple #[.agg #[.int .u8 n10, .int .u32 n10_1, .slice p10 l10 c10, .slice p10_1 l10_1 c10_1, .slice p10_2 l10_2 c10_2, .slice p10_3 l10_3 c10_3], .int .i64 n10_2] ∧
  ∃ z5, Pu Tryz.prog (zeroValue 76) z5 ∧
  New z5.cells 76 w1 fun k5 w2 =>
  ∃ w3, Sto Tryz.prog 76 (.pointer (some (⟨k5, 0, none⟩ : Addr))) (.agg #[.int .u8 n10, .int .u32 n10_1, .slice p10 l10 c10, .slice p10_1 l10_1 c10_1, .slice p10_2 l10_2 c10_2, .slice p10_3 l10_3 c10_3]) w2 w3 ∧
  cond (n10_2 != 0)
  (Q (.int .i64 n10_2) w3)
  (∃ p22 l22 c22, Pu Tryz.prog (Instr.sliceAt 25 (.slice p0 l0 c0) none (some (.int .i64 (IntKind.i64.wrap (((l0 : Nat) : Int) - 16)))) none) (.slice p22 l22 c22) ∧
    callF Tryz.prog 49 #[.slice p1 l1 c1, .slice p22 l22 c22] w3 fun r23 w4 =>
    ∃ p23 l23 c23 n23, r23 = .tuple #[.slice p23 l23 c23, .int .i64 n23] ∧
    cond (n23 == 0)
    (∃ p31 l31 c31, Ld Tryz.prog 25 (.pointer (some ((⟨k5, 0, none⟩ : Addr).add 5))) w4 (.slice p31 l31 c31) ∧
      callF Tryz.prog 136 #[.slice p23 l23 c23, .slice p31 l31 c31] w4 fun r32 w5 =>
      ∃ b32, r32 = .bool b32 ∧
      cond (!b32)
      (Q (.int .i64 13) w5)
      (Q (.int .i64 n23) w5))
    (Q (.int .i64 n23) w4))
def stamp_Check_tt : Nat → List (Nat × TypeId) := fun _ => []
theorem stamp_Check_call (p0 : Option Addr) (l0 : Nat) (c0 : Nat) (p1 : Option Addr) (l1 : Nat) (c1 : Nat) (w : World) (Q : Value → World → Prop) (h : stamp_Check p0 l0 c0 p1 l1 c1 w Q) : callF Tryz.prog 55 #[.slice p0 l0 c0, .slice p1 l1 c1] w Q :=
  callBy stamp_Check_tt Tryz.func55 h (fun _ _ => by kernel_rfl) (by kernel_rfl) (by kernel_rfl) (by kernel_rfl)
def stamp_long (p0 : Option Addr) (l0 : Nat) (c0 : Nat) (w : World) (Q : Value → World → Prop) : Prop :=
  LoopS [.bool false, .slice p0 l0 c0, .int .i64 ((l0 : Nat) : Int), .int .i64 0] w fun I1 μ1 us1 _ wl1 =>
  ∃ b2 p5 l5 c5 n6 n7, us1 = [.bool b2, .slice p5 l5 c5, .int .i64 n6, .int .i64 n7] ∧
  cond (decide (n7 < n6))
  (∃ a9, IxA Tryz.prog 45 (.slice p5 l5 c5) (.int .i64 n7) a9 ∧
    ∃ p10 l10 c10, Ld Tryz.prog 25 (.pointer (some a9)) wl1 (.slice p10 l10 c10) ∧
    cond (decide (((l10 : Nat) : Int) > 20))
    (Q (.bool true) wl1)
    (goesOn [] [] I1 μ1 us1 [.bool b2, .slice p5 l5 c5, .int .i64 n6, .int .i64 (IntKind.i64.wrap (n7 + 1))] wl1 wl1))
  (Q (.bool false) wl1)
def stamp_long_tt : Nat → List (Nat × TypeId) := fun n => match n with | 0 => [(2, 4), (5, 45), (6, 3), (7, 3)] | _ => []
theorem stamp_long_call (p0 : Option Addr) (l0 : Nat) (c0 : Nat) (w : World) (Q : Value → World → Prop) (h : stamp_long p0 l0 c0 w Q) : callF Tryz.prog 117 #[.slice p0 l0 c0] w Q :=
  callBy stamp_long_tt Tryz.func117 h (fun _ _ => by kernel_rfl) (by kernel_rfl) (by kernel_rfl) (by kernel_rfl)
end Go.Sh
end

section
namespace Go.Sh
open Go Go.Fw Go.Proofs
set_option maxRecDepth 100000
set_option linter.unusedVariables false
def law12_StampMakes_j1 (p2 : Option Addr) (l2 : Nat) (c2 : Nat) (p3 : Option Addr) (l3 : Nat) (c3 : Nat) (b8 : Bool) (p9 : Option Addr) (l9 : Nat) (c9 : Nat) (w : World) (Q : Value → World → Prop) : Prop :=
  cond (decide (((l3 : Nat) : Int) > 200))
  (Q (.bool true) w)
  (callF Tryz.prog 49 #[.slice p2 l2 c2, .slice p9 l9 c9] w fun r87 w1 =>
    ∃ p87 l87 c87 n87, r87 = .tuple #[.slice p87 l87 c87, .int .i64 n87] ∧
    callF Tryz.prog 50 #[.slice p2 l2 c2, .slice p3 l3 c3] w1 fun r93 w2 =>
    ∃ p93 l93 c93 n93, r93 = .tuple #[.slice p93 l93 c93, .int .i64 n93] ∧
    cond (n87 == n93)
    (callF Tryz.prog 33 #[.slice p87 l87 c87, .slice p93 l93 c93] w2 fun r102 w3 =>
      ∃ b102, r102 = .bool b102 ∧
      Q (.bool b102) w3)
    (Q (.bool false) w2))
def law12_StampMakes_j2 (p0 : Option Addr) (l0 : Nat) (c0 : Nat) (p1 : Option Addr) (l1 : Nat) (c1 : Nat) (p2 : Option Addr) (l2 : Nat) (c2 : Nat) (p3 : Option Addr) (l3 : Nat) (c3 : Nat) (b8 : Bool) (w : World) (Q : Value → World → Prop) : Prop :=
  callF Tryz.prog 25 #[.slice p3 l3 c3] w fun r49 w1 =>
  ∃ p49 l49 c49, r49 = .slice p49 l49 c49 ∧
  callF Tryz.prog 47 #[.slice p0 l0 c0, .slice p1 l1 c1, .slice p2 l2 c2, .slice p49 l49 c49] w1 fun r55 w2 =>
  ∃ p55 l55 c55 n55, r55 = .tuple #[.slice p55 l55 c55, .int .i64 n55] ∧
  callF Tryz.prog 48 #[.slice p0 l0 c0, .slice p1 l1 c1, .slice p2 l2 c2, .slice p3 l3 c3] w2 fun r63 w3 =>
  ∃ p63 l63 c63 n63, r63 = .tuple #[.slice p63 l63 c63, .int .i64 n63] ∧
  cond (n55 != n63)
  (Q (.bool false) w3)
  (callF Tryz.prog 33 #[.slice p55 l55 c55, .slice p63 l63 c63] w3 fun r72 w4 =>
    ∃ b72, r72 = .bool b72 ∧
    cond (!b72)
    (Q (.bool false) w4)
    (callF Tryz.prog 33 #[.slice p49 l49 c49, .slice p3 l3 c3] w4 fun r78 w5 =>
      ∃ b78, r78 = .bool b78 ∧
      cond (!b78)
      (Q (.bool false) w5)
      (law12_StampMakes_j1 p2 l2 c2 p3 l3 c3 b8 p49 l49 c49 w5 Q)))
def law12_StampMakes (p0 : Option Addr) (l0 : Nat) (c0 : Nat) (p1 : Option Addr) (l1 : Nat) (c1 : Nat) (p2 : Option Addr) (l2 : Nat) (c2 : Nat) (p3 : Option Addr) (l3 : Nat) (c3 : Nat) (w : World) (Q : Value → World → Prop) : Prop :=
  callF Tryz.prog 46 #[] w fun r18 w1 =>
  ∃ b18, r18 = .bool b18 ∧
  cond (!b18)
  (Q (.bool false) w1)
  (cond (decide (((l0 : Nat) : Int) > 100))
    (Q (.bool true) w1)
    (cond (decide (((l1 : Nat) : Int) > 100))
      (Q (.bool true) w1)
      (cond (decide (((l2 : Nat) : Int) > 100))
        (Q (.bool true) w1)
        (cond (decide (((l3 : Nat) : Int) > 200))
          (cond (decide (((l3 : Nat) : Int) ≤ 4096))
            (Q (.bool true) w1)
            (cond (decide (((l3 : Nat) : Int) > 5000))
              (Q (.bool true) w1)
              (law12_StampMakes_j2 p0 l0 c0 p1 l1 c1 p2 l2 c2 p3 l3 c3 false w1 Q)))
          (cond (decide (((l3 : Nat) : Int) > 5000))
            (Q (.bool true) w1)
            (law12_StampMakes_j2 p0 l0 c0 p1 l1 c1 p2 l2 c2 p3 l3 c3 false w1 Q))))))
def law12_StampMakes_tt : Nat → List (Nat × TypeId) := fun _ => []
theorem law12_StampMakes_call (p0 : Option Addr) (l0 : Nat) (c0 : Nat) (p1 : Option Addr) (l1 : Nat) (c1 : Nat) (p2 : Option Addr) (l2 : Nat) (c2 : Nat) (p3 : Option Addr) (l3 : Nat) (c3 : Nat) (w : World) (Q : Value → World → Prop) (h : law12_StampMakes p0 l0 c0 p1 l1 c1 p2 l2 c2 p3 l3 c3 w Q) : callF Tryz.prog 7 #[.slice p0 l0 c0, .slice p1 l1 c1, .slice p2 l2 c2, .slice p3 l3 c3] w Q :=
  callBy law12_StampMakes_tt Tryz.func7 h (fun _ _ => by kernel_rfl) (by kernel_rfl) (by kernel_rfl) (by kernel_rfl)
def law12_StampParses_j1 (p0 : Option Addr) (l0 : Nat) (c0 : Nat) (b4 : Bool) (p5 : Option Addr) (l5 : Nat) (c5 : Nat) (a6 : Addr) (w : World) (Q : Value → World → Prop) : Prop :=
  LoopS [.slice p0 l0 c0, .bool b4, .slice p5 l5 c5, .pointer (some a6), .int .i64 0] w fun I1 μ1 us1 _ wl1 =>
  ∃ p0_1 l0_1 c0_1 b4_1 p5_1 l5_1 c5_1 a6_1 n10, us1 = [.slice p0_1 l0_1 c0_1, .bool b4_1, .slice p5_1 l5_1 c5_1, .pointer (some a6_1), .int .i64 n10] ∧
  ∃ p54 l54 c54, Ld Tryz.prog 25 (.pointer (some (a6_1.add 4))) wl1 (.slice p54 l54 c54) ∧
  cond (decide (n10 < ((l54 : Nat) : Int)))
  (∃ p60 l60 c60, Ld Tryz.prog 25 (.pointer (some (a6_1.add 4))) wl1 (.slice p60 l60 c60) ∧
    ∃ a62, IxA Tryz.prog 25 (.slice p60 l60 c60) (.int .i64 n10) a62 ∧
    ∃ n63, Ld Tryz.prog 5 (.pointer (some a62)) wl1 (.int .u8 n63) ∧
    ∃ a65, IxA Tryz.prog 25 (.slice p60 l60 c60) (.int .i64 n10) a65 ∧
    ∃ w1, Sto Tryz.prog 5 (.pointer (some a65)) (.int .u8 (IntKind.u8.wrap (n63 + 1))) wl1 w1 ∧
    goesOn [] [] I1 μ1 us1 [.slice p0_1 l0_1 c0_1, .bool b4_1, .slice p5_1 l5_1 c5_1, .pointer (some a6_1), .int .i64 (IntKind.i64.wrap (n10 + 1))] wl1 w1)
  (callF Tryz.prog 33 #[.slice p5_1 l5_1 c5_1, .slice p0_1 l0_1 c0_1] wl1 fun r68 w2 =>
    ∃ b68, r68 = .bool b68 ∧
    Q (.bool b68) w2)
def law12_StampParses_j2 (p0 : Option Addr) (l0 : Nat) (c0 : Nat) (p1 : Option Addr) (l1 : Nat) (c1 : Nat) (b4 : Bool) (w : World) (Q : Value → World → Prop) : Prop :=
  callF Tryz.prog 25 #[.slice p0 l0 c0] w fun r22 w1 =>
  ∃ p22 l22 c22, r22 = .slice p22 l22 c22 ∧
  callF Tryz.prog 51 #[.slice p22 l22 c22] w1 fun r25 w2 =>
  ∃ n25 n25_1 p25 l25 c25 p25_1 l25_1 c25_1 p25_2 l25_2 c25_2 p25_3 l25_3 c25_3 n25_2, r25 = .tuple #[.agg #[.int .u8 n25, .int .u32 n25_1, .slice p25 l25 c25, .slice p25_1 l25_1 c25_1, .slice p25_2 l25_2 c25_2, .slice p25_3 l25_3 c25_3], .int .i64 n25_2] ∧
  ∃ z6, Pu Tryz.prog (zeroValue 76) z6 ∧
  New z6.cells 76 w2 fun k6 w3 =>
  ∃ w4, Sto Tryz.prog 76 (.pointer (some (⟨k6, 0, none⟩ : Addr))) (.agg #[.int .u8 n25, .int .u32 n25_1, .slice p25 l25 c25, .slice p25_1 l25_1 c25_1, .slice p25_2 l25_2 c25_2, .slice p25_3 l25_3 c25_3]) w3 w4 ∧
  callF Tryz.prog 52 #[.slice p0 l0 c0] w4 fun r30 w5 =>
  ∃ n30 n30_1 p30 l30 c30 p30_1 l30_1 c30_1 p30_2 l30_2 c30_2 p30_3 l30_3 c30_3 n30_2, r30 = .tuple #[.agg #[.int .u8 n30, .int .u32 n30_1, .slice p30 l30 c30, .slice p30_1 l30_1 c30_1, .slice p30_2 l30_2 c30_2, .slice p30_3 l30_3 c30_3], .int .i64 n30_2] ∧
  ∃ z8, Pu Tryz.prog (zeroValue 81) z8 ∧
  New z8.cells 81 w5 fun k8 w6 =>
  ∃ w7, Sto Tryz.prog 81 (.pointer (some (⟨k8, 0, none⟩ : Addr))) (.agg #[.int .u8 n30, .int .u32 n30_1, .slice p30 l30 c30, .slice p30_1 l30_1 c30_1, .slice p30_2 l30_2 c30_2, .slice p30_3 l30_3 c30_3]) w6 w7 ∧
  ∃ (S8 : World → Prop),
  Drw w7 fun w8 =>
  cond (n25_2 != n30_2)
  (Q (.bool false) w8)
  (∃ n37 n37_1 p37 l37 c37 p37_1 l37_1 c37_1 p37_2 l37_2 c37_2 p37_3 l37_3 c37_3, HLd Tryz.prog S8 76 (.pointer (some (⟨k6, 0, none⟩ : Addr))) w8 (.agg #[.int .u8 n37, .int .u32 n37_1, .slice p37 l37 c37, .slice p37_1 l37_1 c37_1, .slice p37_2 l37_2 c37_2, .slice p37_3 l37_3 c37_3]) ∧
    ∃ n39 n39_1 p39 l39 c39 p39_1 l39_1 c39_1 p39_2 l39_2 c39_2 p39_3 l39_3 c39_3, HLd Tryz.prog S8 81 (.pointer (some (⟨k8, 0, none⟩ : Addr))) w8 (.agg #[.int .u8 n39, .int .u32 n39_1, .slice p39 l39 c39, .slice p39_1 l39_1 c39_1, .slice p39_2 l39_2 c39_2, .slice p39_3 l39_3 c39_3]) ∧
    callF Tryz.prog 54 #[.agg #[.int .u8 n37, .int .u32 n37_1, .slice p37 l37 c37, .slice p37_1 l37_1 c37_1, .slice p37_2 l37_2 c37_2, .slice p37_3 l37_3 c37_3]] w8 fun r38 w9 =>
    ∃ n38 n38_1 p38 l38 c38 p38_1 l38_1 c38_1 p38_2 l38_2 c38_2 p38_3 l38_3 c38_3, r38 = .agg #[.int .u8 n38, .int .u32 n38_1, .slice p38 l38 c38, .slice p38_1 l38_1 c38_1, .slice p38_2 l38_2 c38_2, .slice p38_3 l38_3 c38_3] ∧
    (w9 = w8 ∨ S8 w9) ∧
    callF Tryz.prog 53 #[.agg #[.int .u8 n38, .int .u32 n38_1, .slice p38 l38 c38, .slice p38_1 l38_1 c38_1, .slice p38_2 l38_2 c38_2, .slice p38_3 l38_3 c38_3], .agg #[.int .u8 n39, .int .u32 n39_1, .slice p39 l39 c39, .slice p39_1 l39_1 c39_1, .slice p39_2 l39_2 c39_2, .slice p39_3 l39_3 c39_3]] w9 fun r40 w10 =>
    ∃ b40, r40 = .bool b40 ∧
    cond (!b40)
    (Q (.bool false) w10)
    (callF Tryz.prog 55 #[.slice p22 l22 c22, .slice p1 l1 c1] w10 fun r46 w11 =>
      ∃ n46, r46 = .int .i64 n46 ∧
      callF Tryz.prog 56 #[.slice p0 l0 c0, .slice p1 l1 c1] w11 fun r49 w12 =>
      ∃ n49, r49 = .int .i64 n49 ∧
      cond (n46 != n49)
      (Q (.bool false) w12)
      (law12_StampParses_j1 p0 l0 c0 b4 p22 l22 c22 (⟨k6, 0, none⟩ : Addr) w12 Q)))
def law12_StampParses (p0 : Option Addr) (l0 : Nat) (c0 : Nat) (p1 : Option Addr) (l1 : Nat) (c1 : Nat) (w : World) (Q : Value → World → Prop) : Prop :=
  callF Tryz.prog 46 #[] w fun r11 w1 =>
  ∃ b11, r11 = .bool b11 ∧
  cond (!b11)
  (Q (.bool false) w1)
  (cond (decide (((l0 : Nat) : Int) > 400))
    (Q (.bool true) w1)
    (cond (decide (((l1 : Nat) : Int) > 100))
      (Q (.bool true) w1)
      (law12_StampParses_j2 p0 l0 c0 p1 l1 c1 false w1 Q)))
def law12_StampParses_tt : Nat → List (Nat × TypeId) := fun n => match n with | 0 => [(0, 25), (4, 4), (5, 25), (6, 1000000), (10, 3)] | _ => []
theorem law12_StampParses_call (p0 : Option Addr) (l0 : Nat) (c0 : Nat) (p1 : Option Addr) (l1 : Nat) (c1 : Nat) (w : World) (Q : Value → World → Prop) (h : law12_StampParses p0 l0 c0 p1 l1 c1 w Q) : callF Tryz.prog 8 #[.slice p0 l0 c0, .slice p1 l1 c1] w Q :=
  callBy law12_StampParses_tt Tryz.func8 h (fun _ _ => by kernel_rfl) (by kernel_rfl) (by kernel_rfl) (by kernel_rfl)
def law12_StampEnds_j1 (p2 : Option Addr) (l2 : Nat) (c2 : Nat) (p3 : Option Addr) (l3 : Nat) (c3 : Nat) (b10 : Bool) (p11 : Option Addr) (l11 : Nat) (c11 : Nat) (p13 : Option Addr) (l13 : Nat) (c13 : Nat) (w : World) (Q : Value → World → Prop) : Prop :=
  ∃ p101 l101 c101, Pu Tryz.prog (Instr.sliceAt 25 (.slice p11 l11 c11) none (some (.int .i64 (IntKind.i64.wrap (((l11 : Nat) : Int) - 16)))) none) (.slice p101 l101 c101) ∧
  callF Tryz.prog 49 #[.slice p2 l2 c2, .slice p101 l101 c101] w fun r102 w1 =>
  ∃ p102 l102 c102 n102, r102 = .tuple #[.slice p102 l102 c102, .int .i64 n102] ∧
  callF Tryz.prog 51 #[.slice p13 l13 c13] w1 fun r107 w2 =>
  ∃ n107 n107_1 p107 l107 c107 p107_1 l107_1 c107_1 p107_2 l107_2 c107_2 p107_3 l107_3 c107_3 n107_2, r107 = .tuple #[.agg #[.int .u8 n107, .int .u32 n107_1, .slice p107 l107 c107, .slice p107_1 l107_1 c107_1, .slice p107_2 l107_2 c107_2, .slice p107_3 l107_3 c107_3], .int .i64 n107_2] ∧
  ∃ z18, Pu Tryz.prog (zeroValue 76) z18 ∧
  New z18.cells 76 w2 fun k18 w3 =>
  ∃ w4, Sto Tryz.prog 76 (.pointer (some (⟨k18, 0, none⟩ : Addr))) (.agg #[.int .u8 n107, .int .u32 n107_1, .slice p107 l107 c107, .slice p107_1 l107_1 c107_1, .slice p107_2 l107_2 c107_2, .slice p107_3 l107_3 c107_3]) w3 w4 ∧
  Drw w4 fun w5 =>
  cond (n102 == 0)
  (cond (n107_2 == 0)
    (∃ p120 l120 c120, Pu Tryz.prog (Instr.sliceAt 25 (.slice p11 l11 c11) (some (.int .i64 (IntKind.i64.wrap (((l11 : Nat) : Int) - 16)))) none none) (.slice p120 l120 c120) ∧
      callF Tryz.prog 33 #[.slice p102 l102 c102, .slice p120 l120 c120] w5 fun r121 w6 =>
      ∃ b121, r121 = .bool b121 ∧
      cond b121
      (∃ p126 l126 c126, Pu Tryz.prog (Instr.sliceAt 25 (.slice p11 l11 c11) none (some (.int .i64 (IntKind.i64.wrap (((l11 : Nat) : Int) - 16)))) none) (.slice p126 l126 c126) ∧
        ∃ p129 l129 c129, Pu Tryz.prog (Instr.sliceAt 25 (.slice p13 l13 c13) none (some (.int .i64 (IntKind.i64.wrap (((l11 : Nat) : Int) - 16)))) none) (.slice p129 l129 c129) ∧
        callF Tryz.prog 33 #[.slice p126 l126 c126, .slice p129 l129 c129] w6 fun r130 w7 =>
        ∃ b130, r130 = .bool b130 ∧
        cond b130
        (∃ p137 l137 c137, Pu Tryz.prog (Instr.sliceAt 25 (.slice p13 l13 c13) (some (.int .i64 (IntKind.i64.wrap (((l11 : Nat) : Int) - 16)))) none none) (.slice p137 l137 c137) ∧
          ∃ p134 l134 c134, Ld Tryz.prog 25 (.pointer (some ((⟨k18, 0, none⟩ : Addr).add 5))) w7 (.slice p134 l134 c134) ∧
          callF Tryz.prog 33 #[.slice p134 l134 c134, .slice p137 l137 c137] w7 fun r138 w8 =>
          ∃ b138, r138 = .bool b138 ∧
          cond b138
          (callF Tryz.prog 55 #[.slice p11 l11 c11, .slice p3 l3 c3] w8 fun r143 w9 =>
            ∃ n143, r143 = .int .i64 n143 ∧
            callF Tryz.prog 33 #[.slice p11 l11 c11, .slice p13 l13 c13] w9 fun r147 w10 =>
            ∃ b147, r147 = .bool b147 ∧
            Q (.bool ((n143 == 0) == b147)) w10)
          (Q (.bool false) w8))
        (Q (.bool false) w7))
      (Q (.bool false) w6))
    (Q (.bool false) w5))
  (Q (.bool false) w5)
def law12_StampEnds_j2 (p0 : Option Addr) (l0 : Nat) (c0 : Nat) (p1 : Option Addr) (l1 : Nat) (c1 : Nat) (p2 : Option Addr) (l2 : Nat) (c2 : Nat) (p3 : Option Addr) (l3 : Nat) (c3 : Nat) (p4 : Option Addr) (l4 : Nat) (c4 : Nat) (b10 : Bool) (w : World) (Q : Value → World → Prop) : Prop :=
  callF Tryz.prog 47 #[.slice p0 l0 c0, .slice p1 l1 c1, .slice p2 l2 c2, .slice p4 l4 c4] w fun r55 w1 =>
  ∃ p55 l55 c55 n55, r55 = .tuple #[.slice p55 l55 c55, .int .i64 n55] ∧
  callF Tryz.prog 47 #[.slice p0 l0 c0, .slice p1 l1 c1, .slice p3 l3 c3, .slice p4 l4 c4] w1 fun r63 w2 =>
  ∃ p63 l63 c63 n63, r63 = .tuple #[.slice p63 l63 c63, .int .i64 n63] ∧
  cond (n55 != 0)
  (Q (.bool false) w2)
  (cond (n63 != 0)
    (Q (.bool false) w2)
    (cond (((l55 : Nat) : Int) != (IntKind.i64.wrap ((IntKind.i64.wrap ((IntKind.i64.wrap ((IntKind.i64.wrap (24 + ((l0 : Nat) : Int))) + ((l1 : Nat) : Int))) + ((l4 : Nat) : Int))) - 1)))
      (Q (.bool false) w2)
      (cond (((l63 : Nat) : Int) != ((l55 : Nat) : Int))
        (Q (.bool false) w2)
        (law12_StampEnds_j1 p2 l2 c2 p3 l3 c3 b10 p55 l55 c55 p63 l63 c63 w2 Q))))
def law12_StampEnds (p0 : Option Addr) (l0 : Nat) (c0 : Nat) (p1 : Option Addr) (l1 : Nat) (c1 : Nat) (p2 : Option Addr) (l2 : Nat) (c2 : Nat) (p3 : Option Addr) (l3 : Nat) (c3 : Nat) (p4 : Option Addr) (l4 : Nat) (c4 : Nat) (w : World) (Q : Value → World → Prop) : Prop :=
  callF Tryz.prog 46 #[] w fun r20 w1 =>
  ∃ b20, r20 = .bool b20 ∧
  cond (!b20)
  (Q (.bool false) w1)
  (cond (decide (((l0 : Nat) : Int) > 20))
    (Q (.bool true) w1)
    (cond (decide (((l1 : Nat) : Int) > 20))
      (Q (.bool true) w1)
      (cond (decide (((l2 : Nat) : Int) > 20))
        (Q (.bool true) w1)
        (cond (decide (((l3 : Nat) : Int) > 20))
          (Q (.bool true) w1)
          (cond (decide (((l4 : Nat) : Int) < 1))
            (Q (.bool true) w1)
            (cond (decide (((l4 : Nat) : Int) > 100))
              (Q (.bool true) w1)
              (law12_StampEnds_j2 p0 l0 c0 p1 l1 c1 p2 l2 c2 p3 l3 c3 p4 l4 c4 false w1 Q)))))))
def law12_StampEnds_tt : Nat → List (Nat × TypeId) := fun _ => []
theorem law12_StampEnds_call (p0 : Option Addr) (l0 : Nat) (c0 : Nat) (p1 : Option Addr) (l1 : Nat) (c1 : Nat) (p2 : Option Addr) (l2 : Nat) (c2 : Nat) (p3 : Option Addr) (l3 : Nat) (c3 : Nat) (p4 : Option Addr) (l4 : Nat) (c4 : Nat) (w : World) (Q : Value → World → Prop) (h : law12_StampEnds p0 l0 c0 p1 l1 c1 p2 l2 c2 p3 l3 c3 p4 l4 c4 w Q) : callF Tryz.prog 9 #[.slice p0 l0 c0, .slice p1 l1 c1, .slice p2 l2 c2, .slice p3 l3 c3, .slice p4 l4 c4] w Q :=
  callBy law12_StampEnds_tt Tryz.func9 h (fun _ _ => by kernel_rfl) (by kernel_rfl) (by kernel_rfl) (by kernel_rfl)
def law12_StampBack_j1 (p2 : Option Addr) (l2 : Nat) (c2 : Nat) (n4 : Int) (n5 : Int) (b12 : Bool) (p13 : Option Addr) (l13 : Nat) (c13 : Nat) (w : World) (Q : Value → World → Prop) : Prop :=
  ∃ a128, IxA Tryz.prog 25 (.slice p13 l13 c13) (.int .i64 (IntKind.i64.wrap ((IntKind.i64.wrap (((l13 : Nat) : Int) - 16)) + n4))) a128 ∧
  ∃ n129, Ld Tryz.prog 5 (.pointer (some a128)) w (.int .u8 n129) ∧
  ∃ a132, IxA Tryz.prog 25 (.slice p13 l13 c13) (.int .i64 (IntKind.i64.wrap ((IntKind.i64.wrap (((l13 : Nat) : Int) - 16)) + n4))) a132 ∧
  ∃ w1, Sto Tryz.prog 5 (.pointer (some a132)) (.int .u8 (ixor .u8 n129 n5)) w w1 ∧
  callF Tryz.prog 55 #[.slice p13 l13 c13, .slice p2 l2 c2] w1 fun r135 w2 =>
  ∃ n135, r135 = .int .i64 n135 ∧
  Q (.bool (n135 == 13)) w2
def law12_StampBack_j2 (p2 : Option Addr) (l2 : Nat) (c2 : Nat) (n4 : Int) (n5 : Int) (b12 : Bool) (p13 : Option Addr) (l13 : Nat) (c13 : Nat) (w : World) (Q : Value → World → Prop) : Prop :=
  cond (decide (n4 < 0))
  (Q (.bool true) w)
  (cond (decide (n4 > 15))
    (Q (.bool true) w)
    (cond (n5 == 0)
      (Q (.bool true) w)
      (law12_StampBack_j1 p2 l2 c2 n4 n5 b12 p13 l13 c13 w Q)))
def law12_StampBack_j3 (p2 : Option Addr) (l2 : Nat) (c2 : Nat) (n4 : Int) (n5 : Int) (b12 : Bool) (p13 : Option Addr) (l13 : Nat) (c13 : Nat) (w : World) (Q : Value → World → Prop) : Prop :=
  callF Tryz.prog 76 #[.slice p13 l13 c13] w fun r100 w1 =>
  ∃ n100 n100_1 p100 l100 c100 p100_1 l100_1 c100_1 p100_2 l100_2 c100_2 p100_3 l100_3 c100_3 n100_2, r100 = .tuple #[.agg #[.int .u8 n100, .int .u32 n100_1, .slice p100 l100 c100, .slice p100_1 l100_1 c100_1, .slice p100_2 l100_2 c100_2, .slice p100_3 l100_3 c100_3], .int .i64 n100_2] ∧
  ∃ z17, Pu Tryz.prog (zeroValue 127) z17 ∧
  New z17.cells 127 w1 fun k17 w2 =>
  ∃ w3, Sto Tryz.prog 127 (.pointer (some (⟨k17, 0, none⟩ : Addr))) (.agg #[.int .u8 n100, .int .u32 n100_1, .slice p100 l100 c100, .slice p100_1 l100_1 c100_1, .slice p100_2 l100_2 c100_2, .slice p100_3 l100_3 c100_3]) w2 w3 ∧
  cond (n100_2 != 14)
  (Q (.bool false) w3)
  (∃ a107, IxA Tryz.prog 25 (.slice p13 l13 c13) (.int .i64 0) a107 ∧
    ∃ n108, Ld Tryz.prog 5 (.pointer (some a107)) w3 (.int .u8 n108) ∧
    callF Tryz.prog 77 #[.int .u8 n108] w3 fun r109 w4 =>
    ∃ n109, r109 = .int .i64 n109 ∧
    cond (n109 != 3)
    (Q (.bool false) w4)
    (law12_StampBack_j2 p2 l2 c2 n4 n5 b12 p13 l13 c13 w4 Q))
def law12_StampBack_j4 (p0 : Option Addr) (l0 : Nat) (c0 : Nat) (p1 : Option Addr) (l1 : Nat) (c1 : Nat) (p2 : Option Addr) (l2 : Nat) (c2 : Nat) (p3 : Option Addr) (l3 : Nat) (c3 : Nat) (n4 : Int) (n5 : Int) (b12 : Bool) (w : World) (Q : Value → World → Prop) : Prop :=
  callF Tryz.prog 47 #[.slice p0 l0 c0, .slice p1 l1 c1, .slice p2 l2 c2, .slice p3 l3 c3] w fun r49 w1 =>
  ∃ p49 l49 c49 n49, r49 = .tuple #[.slice p49 l49 c49, .int .i64 n49] ∧
  callF Tryz.prog 51 #[.slice p49 l49 c49] w1 fun r54 w2 =>
  ∃ n54 n54_1 p54 l54 c54 p54_1 l54_1 c54_1 p54_2 l54_2 c54_2 p54_3 l54_3 c54_3 n54_2, r54 = .tuple #[.agg #[.int .u8 n54, .int .u32 n54_1, .slice p54 l54 c54, .slice p54_1 l54_1 c54_1, .slice p54_2 l54_2 c54_2, .slice p54_3 l54_3 c54_3], .int .i64 n54_2] ∧
  ∃ z15, Pu Tryz.prog (zeroValue 76) z15 ∧
  New z15.cells 76 w2 fun k15 w3 =>
  ∃ w4, Sto Tryz.prog 76 (.pointer (some (⟨k15, 0, none⟩ : Addr))) (.agg #[.int .u8 n54, .int .u32 n54_1, .slice p54 l54 c54, .slice p54_1 l54_1 c54_1, .slice p54_2 l54_2 c54_2, .slice p54_3 l54_3 c54_3]) w3 w4 ∧
  cond (n49 != 0)
  (Q (.bool false) w4)
  (cond (n54_2 != 0)
    (Q (.bool false) w4)
    (∃ p66 l66 c66, Ld Tryz.prog 25 (.pointer (some (((⟨k15, 0, none⟩ : Addr).add 0).add 2))) w4 (.slice p66 l66 c66) ∧
      callF Tryz.prog 33 #[.slice p66 l66 c66, .slice p0 l0 c0] w4 fun r68 w5 =>
      ∃ b68, r68 = .bool b68 ∧
      cond (!b68)
      (Q (.bool false) w5)
      (∃ p74 l74 c74, Ld Tryz.prog 25 (.pointer (some (((⟨k15, 0, none⟩ : Addr).add 0).add 3))) w5 (.slice p74 l74 c74) ∧
        callF Tryz.prog 33 #[.slice p74 l74 c74, .slice p1 l1 c1] w5 fun r76 w6 =>
        ∃ b76, r76 = .bool b76 ∧
        cond (!b76)
        (Q (.bool false) w6)
        (∃ p81 l81 c81, Ld Tryz.prog 25 (.pointer (some ((⟨k15, 0, none⟩ : Addr).add 4))) w6 (.slice p81 l81 c81) ∧
          callF Tryz.prog 33 #[.slice p81 l81 c81, .slice p3 l3 c3] w6 fun r83 w7 =>
          ∃ b83, r83 = .bool b83 ∧
          cond (!b83)
          (Q (.bool false) w7)
          (∃ p88 l88 c88, Ld Tryz.prog 25 (.pointer (some ((⟨k15, 0, none⟩ : Addr).add 5))) w7 (.slice p88 l88 c88) ∧
            cond (((l88 : Nat) : Int) != 16)
            (Q (.bool false) w7)
            (callF Tryz.prog 55 #[.slice p49 l49 c49, .slice p2 l2 c2] w7 fun r95 w8 =>
              ∃ n95, r95 = .int .i64 n95 ∧
              cond (n95 != 0)
              (Q (.bool false) w8)
              (law12_StampBack_j3 p2 l2 c2 n4 n5 b12 p49 l49 c49 w8 Q)))))))
def law12_StampBack (p0 : Option Addr) (l0 : Nat) (c0 : Nat) (p1 : Option Addr) (l1 : Nat) (c1 : Nat) (p2 : Option Addr) (l2 : Nat) (c2 : Nat) (p3 : Option Addr) (l3 : Nat) (c3 : Nat) (n4 : Int) (n5 : Int) (w : World) (Q : Value → World → Prop) : Prop :=
  callF Tryz.prog 46 #[] w fun r19 w1 =>
  ∃ b19, r19 = .bool b19 ∧
  cond (!b19)
  (Q (.bool false) w1)
  (cond (decide (((l0 : Nat) : Int) > 20))
    (Q (.bool true) w1)
    (cond (decide (((l1 : Nat) : Int) > 20))
      (Q (.bool true) w1)
      (cond (decide (((l2 : Nat) : Int) > 20))
        (Q (.bool true) w1)
        (cond (decide (((l3 : Nat) : Int) < 1))
          (Q (.bool true) w1)
          (cond (decide (((l3 : Nat) : Int) > 200))
            (Q (.bool true) w1)
            (law12_StampBack_j4 p0 l0 c0 p1 l1 c1 p2 l2 c2 p3 l3 c3 n4 n5 false w1 Q))))))
def law12_StampBack_tt : Nat → List (Nat × TypeId) := fun _ => []
theorem law12_StampBack_call (p0 : Option Addr) (l0 : Nat) (c0 : Nat) (p1 : Option Addr) (l1 : Nat) (c1 : Nat) (p2 : Option Addr) (l2 : Nat) (c2 : Nat) (p3 : Option Addr) (l3 : Nat) (c3 : Nat) (n4 : Int) (n5 : Int) (w : World) (Q : Value → World → Prop) (h : law12_StampBack p0 l0 c0 p1 l1 c1 p2 l2 c2 p3 l3 c3 n4 n5 w Q) : callF Tryz.prog 16 #[.slice p0 l0 c0, .slice p1 l1 c1, .slice p2 l2 c2, .slice p3 l3 c3, .int .i64 n4, .int .u8 n5] w Q :=
  callBy law12_StampBack_tt Tryz.func16 h (fun _ _ => by kernel_rfl) (by kernel_rfl) (by kernel_rfl) (by kernel_rfl)
def law12_alive  (w : World) (Q : Value → World → Prop) : Prop :=
  callF Tryz.prog 116 #[.string (⟨#[102, 102, 48, 48, 48, 48, 48, 48, 48, 49, 48, 48, 48, 56, 102, 48, 54, 55, 97, 53, 53, 48, 50, 97, 52, 50, 54, 50, 98, 53, 55, 52, 54, 102, 54, 98, 54, 53, 54, 101, 48, 52, 97, 50, 54, 53, 98, 97, 50, 101, 102, 102, 52, 100, 56, 50, 57, 48, 53, 56, 102, 98, 51, 102, 48, 102, 50, 52, 57, 54, 98, 97]⟩ : ByteArray)] w fun r20 w1 =>
  ∃ p20 l20 c20 n20, r20 = .tuple #[.slice p20 l20 c20, .int .i64 n20] ∧
  callF Tryz.prog 116 #[.string (⟨#[56, 51, 57, 52, 99, 56, 102, 48, 51, 101, 53, 49, 53, 55, 48, 56]⟩ : ByteArray)] w1 fun r24 w2 =>
  ∃ p24 l24 c24 n24, r24 = .tuple #[.slice p24 l24 c24, .int .i64 n24] ∧
  callF Tryz.prog 116 #[.string (⟨#[102, 48, 54, 55, 97, 53, 53, 48, 50, 97, 52, 50, 54, 50, 98, 53]⟩ : ByteArray)] w2 fun r28 w3 =>
  ∃ p28 l28 c28 n28, r28 = .tuple #[.slice p28 l28 c28, .int .i64 n28] ∧
  ∃ p34 l34 c34 w4, Ef Tryz.prog (Instr.buildSlice 25 5 #[(0, .int .u8 116), (1, .int .u8 111), (2, .int .u8 107), (3, .int .u8 101), (4, .int .u8 110)]) w3 (.slice p34 l34 c34) w4 ∧
  ∃ p35 l35 c35 w5, Ef Tryz.prog (convert 25 25 (.slice p34 l34 c34)) w4 (.slice p35 l35 c35) w5 ∧
  callF Tryz.prog 47 #[.slice none 0 0, .slice p28 l28 c28, .slice p24 l24 c24, .slice p35 l35 c35] w5 fun r36 w6 =>
  ∃ p36 l36 c36 n36, r36 = .tuple #[.slice p36 l36 c36, .int .i64 n36] ∧
  callF Tryz.prog 51 #[.slice p20 l20 c20] w6 fun r41 w7 =>
  ∃ n41 n41_1 p41 l41 c41 p41_1 l41_1 c41_1 p41_2 l41_2 c41_2 p41_3 l41_3 c41_3 n41_2, r41 = .tuple #[.agg #[.int .u8 n41, .int .u32 n41_1, .slice p41 l41 c41, .slice p41_1 l41_1 c41_1, .slice p41_2 l41_2 c41_2, .slice p41_3 l41_3 c41_3], .int .i64 n41_2] ∧
  ∃ z9, Pu Tryz.prog (zeroValue 76) z9 ∧
  New z9.cells 76 w7 fun k9 w8 =>
  ∃ w9, Sto Tryz.prog 76 (.pointer (some (⟨k9, 0, none⟩ : Addr))) (.agg #[.int .u8 n41, .int .u32 n41_1, .slice p41 l41 c41, .slice p41_1 l41_1 c41_1, .slice p41_2 l41_2 c41_2, .slice p41_3 l41_3 c41_3]) w8 w9 ∧
  callF Tryz.prog 47 #[.slice none 0 0, .slice none 0 0, .slice none 0 0, .slice none 0 0] w9 fun r45 w10 =>
  ∃ p45 l45 c45 n45, r45 = .tuple #[.slice p45 l45 c45, .int .i64 n45] ∧
  ∃ p49 l49 c49 w11, Ef Tryz.prog (Instr.makeSlice 25 (.int .i64 21) (.int .i64 21)) w10 (.slice p49 l49 c49) w11 ∧
  callF Tryz.prog 47 #[.slice p49 l49 c49, .slice none 0 0, .slice none 0 0, .slice none 0 0] w11 fun r50 w12 =>
  ∃ p50 l50 c50 n50, r50 = .tuple #[.slice p50 l50 c50, .int .i64 n50] ∧
  ∃ p55 l55 c55, Pu Tryz.prog (Instr.sliceAt 25 (.slice p20 l20 c20) none (some (.int .i64 30)) none) (.slice p55 l55 c55) ∧
  callF Tryz.prog 51 #[.slice p55 l55 c55] w12 fun r56 w13 =>
  ∃ n56 n56_1 p56 l56 c56 p56_1 l56_1 c56_1 p56_2 l56_2 c56_2 p56_3 l56_3 c56_3 n56_2, r56 = .tuple #[.agg #[.int .u8 n56, .int .u32 n56_1, .slice p56 l56 c56, .slice p56_1 l56_1 c56_1, .slice p56_2 l56_2 c56_2, .slice p56_3 l56_3 c56_3], .int .i64 n56_2] ∧
  ∃ z15, Pu Tryz.prog (zeroValue 76) z15 ∧
  New z15.cells 76 w13 fun k15 w14 =>
  ∃ w15, Sto Tryz.prog 76 (.pointer (some (⟨k15, 0, none⟩ : Addr))) (.agg #[.int .u8 n56, .int .u32 n56_1, .slice p56 l56 c56, .slice p56_1 l56_1 c56_1, .slice p56_2 l56_2 c56_2, .slice p56_3 l56_3 c56_3]) w14 w15 ∧
  ∃ p62 l62 c62, Pu Tryz.prog (Instr.sliceAt 25 (.slice p20 l20 c20) none (some (.int .i64 20)) none) (.slice p62 l62 c62) ∧
  callF Tryz.prog 49 #[.slice p24 l24 c24, .slice p62 l62 c62] w15 fun r63 w16 =>
  ∃ p63 l63 c63 n63, r63 = .tuple #[.slice p63 l63 c63, .int .i64 n63] ∧
  cond (n36 == 0)
  (cond (n41_2 == 0)
    (cond (n45 == 11)
      (cond (n50 == 15)
        (cond (n56_2 == 12)
          (cond (n63 == 0)
            (callF Tryz.prog 33 #[.slice p36 l36 c36, .slice p20 l20 c20] w16 fun r91 w17 =>
              ∃ b91, r91 = .bool b91 ∧
              cond b91
              (∃ p95 l95 c95, Ld Tryz.prog 25 (.pointer (some ((⟨k9, 0, none⟩ : Addr).add 4))) w17 (.slice p95 l95 c95) ∧
                ∃ p96 l96 c96 w18, Ef Tryz.prog (Instr.buildSlice 25 5 #[(0, .int .u8 116), (1, .int .u8 111), (2, .int .u8 107), (3, .int .u8 101), (4, .int .u8 110)]) w17 (.slice p96 l96 c96) w18 ∧
                ∃ p97 l97 c97 w19, Ef Tryz.prog (convert 25 25 (.slice p96 l96 c96)) w18 (.slice p97 l97 c97) w19 ∧
                callF Tryz.prog 33 #[.slice p95 l95 c95, .slice p97 l97 c97] w19 fun r98 w20 =>
                ∃ b98, r98 = .bool b98 ∧
                cond b98
                (∃ p103 l103 c103, Ld Tryz.prog 25 (.pointer (some (((⟨k9, 0, none⟩ : Addr).add 0).add 3))) w20 (.slice p103 l103 c103) ∧
                  callF Tryz.prog 33 #[.slice p103 l103 c103, .slice p28 l28 c28] w20 fun r105 w21 =>
                  ∃ b105, r105 = .bool b105 ∧
                  cond b105
                  (∃ p109 l109 c109, Ld Tryz.prog 25 (.pointer (some ((⟨k9, 0, none⟩ : Addr).add 5))) w21 (.slice p109 l109 c109) ∧
                    callF Tryz.prog 33 #[.slice p109 l109 c109, .slice p63 l63 c63] w21 fun r111 w22 =>
                    ∃ b111, r111 = .bool b111 ∧
                    cond b111
                    (∃ p116 l116 c116, Pu Tryz.prog (Instr.sliceAt 25 (.slice p20 l20 c20) (some (.int .i64 20)) none none) (.slice p116 l116 c116) ∧
                      callF Tryz.prog 33 #[.slice p63 l63 c63, .slice p116 l116 c116] w22 fun r117 w23 =>
                      ∃ b117, r117 = .bool b117 ∧
                      cond b117
                      (callF Tryz.prog 55 #[.slice p20 l20 c20, .slice p24 l24 c24] w23 fun r122 w24 =>
                        ∃ n122, r122 = .int .i64 n122 ∧
                        cond (n122 == 0)
                        (callF Tryz.prog 55 #[.slice p20 l20 c20, .slice p28 l28 c28] w24 fun r128 w25 =>
                          ∃ n128, r128 = .int .i64 n128 ∧
                          Q (.bool (n128 == 13)) w25)
                        (Q (.bool false) w24))
                      (Q (.bool false) w23))
                    (Q (.bool false) w22))
                  (Q (.bool false) w21))
                (Q (.bool false) w20))
              (Q (.bool false) w17))
            (Q (.bool false) w16))
          (Q (.bool false) w16))
        (Q (.bool false) w16))
      (Q (.bool false) w16))
    (Q (.bool false) w16))
  (Q (.bool false) w16)
def law12_alive_tt : Nat → List (Nat × TypeId) := fun _ => []
theorem law12_alive_call  (w : World) (Q : Value → World → Prop) (h : law12_alive  w Q) : callF Tryz.prog 46 #[] w Q :=
  callBy law12_alive_tt Tryz.func46 h (fun _ _ => by kernel_rfl) (by kernel_rfl) (by kernel_rfl) (by kernel_rfl)
def law12_of (n0 : Int) (n0_1 : Int) (p0 : Option Addr) (l0 : Nat) (c0 : Nat) (p0_1 : Option Addr) (l0_1 : Nat) (c0_1 : Nat) (p0_2 : Option Addr) (l0_2 : Nat) (c0_2 : Nat) (p0_3 : Option Addr) (l0_3 : Nat) (c0_3 : Nat) (w : World) (Q : Value → World → Prop) : Prop :=
  New #[.int .u8 n0, .int .u32 n0_1, .slice p0 l0 c0, .slice p0_1 l0_1 c0_1, .slice p0_2 l0_2 c0_2, .slice p0_3 l0_3 c0_3] 76 w fun k1 w1 =>
  ∃ z2, Pu Tryz.prog (zeroValue 81) z2 ∧
  New z2.cells 81 w1 fun k2 w2 =>
  ∃ (S1 : World → Prop),
  Drw w2 fun w3 =>
  ∃ n4 n4_1 p4 l4 c4 p4_1 l4_1 c4_1, HLd Tryz.prog S1 74 (.pointer (some ((⟨k1, 0, none⟩ : Addr).add 0))) w3 (.agg #[.int .u8 n4, .int .u32 n4_1, .slice p4 l4 c4, .slice p4_1 l4_1 c4_1]) ∧
  ∃ p7 l7 c7, HLd Tryz.prog S1 25 (.pointer (some ((⟨k1, 0, none⟩ : Addr).add 4))) w3 (.slice p7 l7 c7) ∧
  ∃ p10 l10 c10, HLd Tryz.prog S1 25 (.pointer (some ((⟨k1, 0, none⟩ : Addr).add 5))) w3 (.slice p10 l10 c10) ∧
  callF Tryz.prog 135 #[.agg #[.int .u8 n4, .int .u32 n4_1, .slice p4 l4 c4, .slice p4_1 l4_1 c4_1]] w3 fun r5 w4 =>
  ∃ n5 n5_1 p5 l5 c5 p5_1 l5_1 c5_1, r5 = .agg #[.int .u8 n5, .int .u32 n5_1, .slice p5 l5 c5, .slice p5_1 l5_1 c5_1] ∧
  (w4 = w3 ∨ S1 w4) ∧
  callF Tryz.prog 25 #[.slice p7 l7 c7] w4 fun r8 w5 =>
  ∃ p8 l8 c8, r8 = .slice p8 l8 c8 ∧
  (w5 = w4 ∨ S1 w5) ∧
  callF Tryz.prog 25 #[.slice p10 l10 c10] w5 fun r11 w6 =>
  ∃ p11 l11 c11, r11 = .slice p11 l11 c11 ∧
  ∃ w7, Sto Tryz.prog 81 (.pointer (some (⟨k2, 0, none⟩ : Addr))) (.agg #[.int .u8 n5, .int .u32 n5_1, .slice p5 l5 c5, .slice p5_1 l5_1 c5_1, .slice p8 l8 c8, .slice p11 l11 c11]) w6 w7 ∧
  ∃ a2 v2, (.pointer (some (⟨k2, 0, none⟩ : Addr)) : Value) = .pointer (some a2) ∧ (loadVar 81 a2).run Tryz.prog w7 = .ok v2 w7 ∧
  Q (v2) w7
def law12_of_tt : Nat → List (Nat × TypeId) := fun _ => []
theorem law12_of_call (n0 : Int) (n0_1 : Int) (p0 : Option Addr) (l0 : Nat) (c0 : Nat) (p0_1 : Option Addr) (l0_1 : Nat) (c0_1 : Nat) (p0_2 : Option Addr) (l0_2 : Nat) (c0_2 : Nat) (p0_3 : Option Addr) (l0_3 : Nat) (c0_3 : Nat) (w : World) (Q : Value → World → Prop) (h : law12_of n0 n0_1 p0 l0 c0 p0_1 l0_1 c0_1 p0_2 l0_2 c0_2 p0_3 l0_3 c0_3 w Q) : callF Tryz.prog 54 #[.agg #[.int .u8 n0, .int .u32 n0_1, .slice p0 l0 c0, .slice p0_1 l0_1 c0_1, .slice p0_2 l0_2 c0_2, .slice p0_3 l0_3 c0_3]] w Q :=
  callBy law12_of_tt Tryz.func54 h (fun _ _ => by kernel_rfl) (by kernel_rfl) (by kernel_rfl) (by kernel_rfl)
end Go.Sh
end
