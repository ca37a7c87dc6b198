/- A part of a proof of a given law of this program: lemmas, printed forms of its functions, contracts. It has no conditions of its own. -/
import Derived.Test.YtlphgbgfnjhhcaaFw4
import Derived.Laws.BitsAllLaws
import Derived.Laws.Runes
namespace Go.Fw
open Go

/-! ### Bytes and words, as the model's whole numbers -/
theorem wrap64 {n : Int} (h0 : -9223372036854775808 ≤ n) (h1 : n < 9223372036854775808) : IntKind.i64.wrap n = n := by rw [IntKind.wrap_i64]; omega
theorem wrap8 {n : Int} (h0 : 0 ≤ n) (h1 : n < 256) : IntKind.u8.wrap n = n := by rw [IntKind.wrap_u8]; omega
theorem wrap32 {n : Int} (h0 : 0 ≤ n) (h1 : n < 4294967296) : IntKind.u32.wrap n = n := by rw [IntKind.wrap_u32]; omega
theorem wrapu64 {n : Int} (h0 : 0 ≤ n) (h1 : n < 18446744073709551616) : IntKind.u64.wrap n = n := by rw [IntKind.wrap_u64]; omega

theorem ofInt_nat (w n : Nat) : BitVec.ofInt w (n : Int) = BitVec.ofNat w n := BitVec.ofInt_ofNat ..
theorem and8 (x y : UInt8) : iand .u8 x.toNat y.toNat = ((x &&& y).toNat : Int) := by
  have h : (x &&& y).toNat = x.toNat &&& y.toNat := UInt8.toNat_and x y
  have hx := x.toNat_lt; have hy := y.toNat_lt; have hz := (x &&& y).toNat_lt
  show IntKind.u8.wrap (((BitVec.ofInt 8 (x.toNat : Int) &&& BitVec.ofInt 8 (y.toNat : Int)).toNat : Nat) : Int) = _
  rw [ofInt_nat, ofInt_nat, BitVec.toNat_and, BitVec.toNat_ofNat, BitVec.toNat_ofNat, Nat.mod_eq_of_lt hx, Nat.mod_eq_of_lt hy, ← h]
  have e : IntKind.u8.wrap ((x &&& y).toNat : Int) = (((x &&& y).toNat : Nat) : Int) % (2 ^ 8 : Int) := by simp [IntKind.wrap, IntKind.bits, IntKind.signed]
  rw [e]; omega
theorem and16 (x y : UInt16) : iand .u16 x.toNat y.toNat = ((x &&& y).toNat : Int) := by
  have h : (x &&& y).toNat = x.toNat &&& y.toNat := UInt16.toNat_and x y
  have hx := x.toNat_lt; have hy := y.toNat_lt; have hz := (x &&& y).toNat_lt
  show IntKind.u16.wrap (((BitVec.ofInt 16 (x.toNat : Int) &&& BitVec.ofInt 16 (y.toNat : Int)).toNat : Nat) : Int) = _
  rw [ofInt_nat, ofInt_nat, BitVec.toNat_and, BitVec.toNat_ofNat, BitVec.toNat_ofNat, Nat.mod_eq_of_lt hx, Nat.mod_eq_of_lt hy, ← h]
  have e : IntKind.u16.wrap ((x &&& y).toNat : Int) = (((x &&& y).toNat : Nat) : Int) % (2 ^ 16 : Int) := by simp [IntKind.wrap, IntKind.bits, IntKind.signed]
  rw [e]; omega
theorem and32 (x y : UInt32) : iand .u32 x.toNat y.toNat = ((x &&& y).toNat : Int) := by
  have h : (x &&& y).toNat = x.toNat &&& y.toNat := UInt32.toNat_and x y
  have hx := x.toNat_lt; have hy := y.toNat_lt; have hz := (x &&& y).toNat_lt
  show IntKind.u32.wrap (((BitVec.ofInt 32 (x.toNat : Int) &&& BitVec.ofInt 32 (y.toNat : Int)).toNat : Nat) : Int) = _
  rw [ofInt_nat, ofInt_nat, BitVec.toNat_and, BitVec.toNat_ofNat, BitVec.toNat_ofNat, Nat.mod_eq_of_lt hx, Nat.mod_eq_of_lt hy, ← h]
  have e : IntKind.u32.wrap ((x &&& y).toNat : Int) = (((x &&& y).toNat : Nat) : Int) % (2 ^ 32 : Int) := by simp [IntKind.wrap, IntKind.bits, IntKind.signed]
  rw [e]; omega
theorem and64 (x y : UInt64) : iand .u64 x.toNat y.toNat = ((x &&& y).toNat : Int) := by
  have h : (x &&& y).toNat = x.toNat &&& y.toNat := UInt64.toNat_and x y
  have hx := x.toNat_lt; have hy := y.toNat_lt; have hz := (x &&& y).toNat_lt
  show IntKind.u64.wrap (((BitVec.ofInt 64 (x.toNat : Int) &&& BitVec.ofInt 64 (y.toNat : Int)).toNat : Nat) : Int) = _
  rw [ofInt_nat, ofInt_nat, BitVec.toNat_and, BitVec.toNat_ofNat, BitVec.toNat_ofNat, Nat.mod_eq_of_lt hx, Nat.mod_eq_of_lt hy, ← h]
  have e : IntKind.u64.wrap ((x &&& y).toNat : Int) = (((x &&& y).toNat : Nat) : Int) % (2 ^ 64 : Int) := by simp [IntKind.wrap, IntKind.bits, IntKind.signed]
  rw [e]; omega
theorem xor8 (x y : UInt8) : ixor .u8 x.toNat y.toNat = ((x ^^^ y).toNat : Int) := by
  have h : (x ^^^ y).toNat = x.toNat ^^^ y.toNat := UInt8.toNat_xor x y
  have hx := x.toNat_lt; have hy := y.toNat_lt; have hz := (x ^^^ y).toNat_lt
  show IntKind.u8.wrap (((BitVec.ofInt 8 (x.toNat : Int) ^^^ BitVec.ofInt 8 (y.toNat : Int)).toNat : Nat) : Int) = _
  rw [ofInt_nat, ofInt_nat, BitVec.toNat_xor, BitVec.toNat_ofNat, BitVec.toNat_ofNat, Nat.mod_eq_of_lt hx, Nat.mod_eq_of_lt hy, ← h]
  have e : IntKind.u8.wrap ((x ^^^ y).toNat : Int) = (((x ^^^ y).toNat : Nat) : Int) % (2 ^ 8 : Int) := by simp [IntKind.wrap, IntKind.bits, IntKind.signed]
  rw [e]; omega
theorem xor16 (x y : UInt16) : ixor .u16 x.toNat y.toNat = ((x ^^^ y).toNat : Int) := by
  have h : (x ^^^ y).toNat = x.toNat ^^^ y.toNat := UInt16.toNat_xor x y
  have hx := x.toNat_lt; have hy := y.toNat_lt; have hz := (x ^^^ y).toNat_lt
  show IntKind.u16.wrap (((BitVec.ofInt 16 (x.toNat : Int) ^^^ BitVec.ofInt 16 (y.toNat : Int)).toNat : Nat) : Int) = _
  rw [ofInt_nat, ofInt_nat, BitVec.toNat_xor, BitVec.toNat_ofNat, BitVec.toNat_ofNat, Nat.mod_eq_of_lt hx, Nat.mod_eq_of_lt hy, ← h]
  have e : IntKind.u16.wrap ((x ^^^ y).toNat : Int) = (((x ^^^ y).toNat : Nat) : Int) % (2 ^ 16 : Int) := by simp [IntKind.wrap, IntKind.bits, IntKind.signed]
  rw [e]; omega
theorem xor32 (x y : UInt32) : ixor .u32 x.toNat y.toNat = ((x ^^^ y).toNat : Int) := by
  have h : (x ^^^ y).toNat = x.toNat ^^^ y.toNat := UInt32.toNat_xor x y
  have hx := x.toNat_lt; have hy := y.toNat_lt; have hz := (x ^^^ y).toNat_lt
  show IntKind.u32.wrap (((BitVec.ofInt 32 (x.toNat : Int) ^^^ BitVec.ofInt 32 (y.toNat : Int)).toNat : Nat) : Int) = _
  rw [ofInt_nat, ofInt_nat, BitVec.toNat_xor, BitVec.toNat_ofNat, BitVec.toNat_ofNat, Nat.mod_eq_of_lt hx, Nat.mod_eq_of_lt hy, ← h]
  have e : IntKind.u32.wrap ((x ^^^ y).toNat : Int) = (((x ^^^ y).toNat : Nat) : Int) % (2 ^ 32 : Int) := by simp [IntKind.wrap, IntKind.bits, IntKind.signed]
  rw [e]; omega
theorem xor64 (x y : UInt64) : ixor .u64 x.toNat y.toNat = ((x ^^^ y).toNat : Int) := by
  have h : (x ^^^ y).toNat = x.toNat ^^^ y.toNat := UInt64.toNat_xor x y
  have hx := x.toNat_lt; have hy := y.toNat_lt; have hz := (x ^^^ y).toNat_lt
  show IntKind.u64.wrap (((BitVec.ofInt 64 (x.toNat : Int) ^^^ BitVec.ofInt 64 (y.toNat : Int)).toNat : Nat) : Int) = _
  rw [ofInt_nat, ofInt_nat, BitVec.toNat_xor, BitVec.toNat_ofNat, BitVec.toNat_ofNat, Nat.mod_eq_of_lt hx, Nat.mod_eq_of_lt hy, ← h]
  have e : IntKind.u64.wrap ((x ^^^ y).toNat : Int) = (((x ^^^ y).toNat : Nat) : Int) % (2 ^ 64 : Int) := by simp [IntKind.wrap, IntKind.bits, IntKind.signed]
  rw [e]; omega
theorem or8 (x y : UInt8) : ior .u8 x.toNat y.toNat = ((x ||| y).toNat : Int) := by
  have h : (x ||| y).toNat = x.toNat ||| y.toNat := UInt8.toNat_or x y
  have hx := x.toNat_lt; have hy := y.toNat_lt; have hz := (x ||| y).toNat_lt
  show IntKind.u8.wrap (((BitVec.ofInt 8 (x.toNat : Int) ||| BitVec.ofInt 8 (y.toNat : Int)).toNat : Nat) : Int) = _
  rw [ofInt_nat, ofInt_nat, BitVec.toNat_or, BitVec.toNat_ofNat, BitVec.toNat_ofNat, Nat.mod_eq_of_lt hx, Nat.mod_eq_of_lt hy, ← h]
  have e : IntKind.u8.wrap ((x ||| y).toNat : Int) = (((x ||| y).toNat : Nat) : Int) % (2 ^ 8 : Int) := by simp [IntKind.wrap, IntKind.bits, IntKind.signed]
  rw [e]; omega
theorem or16 (x y : UInt16) : ior .u16 x.toNat y.toNat = ((x ||| y).toNat : Int) := by
  have h : (x ||| y).toNat = x.toNat ||| y.toNat := UInt16.toNat_or x y
  have hx := x.toNat_lt; have hy := y.toNat_lt; have hz := (x ||| y).toNat_lt
  show IntKind.u16.wrap (((BitVec.ofInt 16 (x.toNat : Int) ||| BitVec.ofInt 16 (y.toNat : Int)).toNat : Nat) : Int) = _
  rw [ofInt_nat, ofInt_nat, BitVec.toNat_or, BitVec.toNat_ofNat, BitVec.toNat_ofNat, Nat.mod_eq_of_lt hx, Nat.mod_eq_of_lt hy, ← h]
  have e : IntKind.u16.wrap ((x ||| y).toNat : Int) = (((x ||| y).toNat : Nat) : Int) % (2 ^ 16 : Int) := by simp [IntKind.wrap, IntKind.bits, IntKind.signed]
  rw [e]; omega
theorem or32 (x y : UInt32) : ior .u32 x.toNat y.toNat = ((x ||| y).toNat : Int) := by
  have h : (x ||| y).toNat = x.toNat ||| y.toNat := UInt32.toNat_or x y
  have hx := x.toNat_lt; have hy := y.toNat_lt; have hz := (x ||| y).toNat_lt
  show IntKind.u32.wrap (((BitVec.ofInt 32 (x.toNat : Int) ||| BitVec.ofInt 32 (y.toNat : Int)).toNat : Nat) : Int) = _
  rw [ofInt_nat, ofInt_nat, BitVec.toNat_or, BitVec.toNat_ofNat, BitVec.toNat_ofNat, Nat.mod_eq_of_lt hx, Nat.mod_eq_of_lt hy, ← h]
  have e : IntKind.u32.wrap ((x ||| y).toNat : Int) = (((x ||| y).toNat : Nat) : Int) % (2 ^ 32 : Int) := by simp [IntKind.wrap, IntKind.bits, IntKind.signed]
  rw [e]; omega
theorem or64 (x y : UInt64) : ior .u64 x.toNat y.toNat = ((x ||| y).toNat : Int) := by
  have h : (x ||| y).toNat = x.toNat ||| y.toNat := UInt64.toNat_or x y
  have hx := x.toNat_lt; have hy := y.toNat_lt; have hz := (x ||| y).toNat_lt
  show IntKind.u64.wrap (((BitVec.ofInt 64 (x.toNat : Int) ||| BitVec.ofInt 64 (y.toNat : Int)).toNat : Nat) : Int) = _
  rw [ofInt_nat, ofInt_nat, BitVec.toNat_or, BitVec.toNat_ofNat, BitVec.toNat_ofNat, Nat.mod_eq_of_lt hx, Nat.mod_eq_of_lt hy, ← h]
  have e : IntKind.u64.wrap ((x ||| y).toNat : Int) = (((x ||| y).toNat : Nat) : Int) % (2 ^ 64 : Int) := by simp [IntKind.wrap, IntKind.bits, IntKind.signed]
  rw [e]; omega
theorem fdiv_nat (a b : Nat) : Int.fdiv (a : Int) (b : Int) = ((a / b : Nat) : Int) := by
  rw [Int.fdiv_eq_ediv_of_nonneg _ (by omega)]; rfl
theorem shr8 (x : UInt8) (k : Nat) (hk : k < 8) : Int.fdiv (x.toNat : Int) (2 ^ k) = ((x >>> UInt8.ofNat k).toNat : Int) := by
  have e : ((2 : Int) ^ k) = ((2 ^ k : Nat) : Int) := by simp
  rw [e, fdiv_nat, UInt8.toNat_shiftRight, Nat.shiftRight_eq_div_pow]
  have : (UInt8.ofNat k).toNat % 8 = k := by simp; omega
  rw [this]
theorem shr64 (x : UInt64) (k : Nat) (hk : k < 64) : Int.fdiv (x.toNat : Int) (2 ^ k) = ((x >>> UInt64.ofNat k).toNat : Int) := by
  have e : ((2 : Int) ^ k) = ((2 ^ k : Nat) : Int) := by simp
  rw [e, fdiv_nat, UInt64.toNat_shiftRight, Nat.shiftRight_eq_div_pow]
  have : (UInt64.ofNat k).toNat % 64 = k := by simp; omega
  rw [this]
theorem shl8 (x : UInt8) (k : Nat) (hk : k < 8) : IntKind.u8.wrap ((x.toNat : Int) * 2 ^ k) = ((x <<< UInt8.ofNat k).toNat : Int) := by
  have e : ((2 : Int) ^ k) = ((2 ^ k : Nat) : Int) := by simp
  have hk' : (UInt8.ofNat k).toNat % 8 = k := by simp; omega
  rw [e, IntKind.wrap_u8, UInt8.toNat_shiftLeft, hk', Nat.shiftLeft_eq]
  omega
/-- Of whatever byte: by trial. -/
theorem all8 {p : UInt8 → Bool} (h : (List.range 256).all (fun n => p (UInt8.ofNat n)) = true) (x : UInt8) : p x = true := by
  have := List.all_eq_true.1 h x.toNat (by simpa using x.toNat_lt)
  simpa using this
theorem byte_of {n : Int} (h0 : 0 ≤ n) (h1 : n < 256) : ∃ x : UInt8, n = (x.toNat : Int) := ⟨UInt8.ofNat n.toNat, by simp; omega⟩
theorem word64_of {n : Int} (h0 : 0 ≤ n) (h1 : n < 18446744073709551616) : ∃ x : UInt64, n = (x.toNat : Int) := ⟨UInt64.ofNat n.toNat, by simp; omega⟩
theorem eq8 {x y : UInt8} : ((x.toNat : Int) = y.toNat) ↔ x = y := by
  rw [← UInt8.toNat_inj]; omega
theorem beq8 (x y : UInt8) : ((x.toNat : Int) == (y.toNat : Int)) = (x == y) := by
  rw [Bool.eq_iff_iff]; simp [eq8]
theorem eq64 {x y : UInt64} : ((x.toNat : Int) = y.toNat) ↔ x = y := by
  rw [← UInt64.toNat_inj]; omega
end Go.Fw
