/- A part of a proof of a given law of this program: lemmas, printed forms of its functions, contracts. It has no conditions of its own. -/
import Derived.Test.YtlphgbgfnjhhcaaFw6
import Derived.Test.YtlphgbgfnjhhcaaShField
namespace Go.Sh
open Go Go.Fw Go.Proofs
set_option maxRecDepth 100000
set_option linter.unusedVariables false

def dbl (a : UInt8) : UInt8 := if (a &&& 128) != 0 then (a <<< 1) ^^^ 27 else a <<< 1
def mulL : Nat → UInt8 → UInt8 → UInt8 → UInt8
  | 0, _, _, out => out
  | n + 1, a, b, out => if b = 0 then out else mulL n (dbl a) (b >>> 1) (if (b &&& 1) != 0 then out ^^^ a else out)
def gmul (a b : UInt8) : UInt8 := mulL 8 a b 0
abbrev vb (a : UInt8) : Value := .int .u8 (a.toNat : Int)
abbrev vw (a : UInt64) : Value := .int .u64 (a.toNat : Int)

theorem lit8 (n : Nat) (h : n < 256) : ((n : Nat) : Int) = ((UInt8.ofNat n).toNat : Int) := by simp; omega
theorem double_c (a : UInt8) (w : World) (K : Value → World → Prop) (h : K (vb (dbl a)) w) : callF Try.prog 106 #[vb a] w K := by
  apply field_double_call
  unfold field_double
  have e1 : (iand .u8 (a.toNat : Int) 128) = ((a &&& 128).toNat : Int) := and8 a 128
  have e2 : IntKind.u8.wrap ((a.toNat : Int) * 2 ^ 1) = ((a <<< 1).toNat : Int) := shl8 a 1 (by omega)
  have e3 : ixor .u8 ((a <<< 1).toNat : Int) 27 = (((a <<< 1) ^^^ 27).toNat : Int) := xor8 (a <<< 1) 27
  have e4 : (((a &&& 128).toNat : Int) != 0) = ((a &&& 128) != 0) := by rw [bne, bne]; exact congrArg not (beq8 (a &&& 128) 0)
  rw [e1, e2, e3, e4]
  unfold dbl at h
  cases hb : (a &&& 128) != 0 <;> rw [hb] at h <;> exact h

theorem Mul_c (a b : UInt8) (w : World) (K : Value → World → Prop) (h : K (vb (gmul a b)) w) : callF Try.prog 42 #[vb a, vb b] w K := by
  apply field_Mul_call
  unfold field_Mul
  refine LoopS.ind (fun k us w' => w' = w ∧ ∃ x y out : UInt8, us = [vb x, vb y, .int .u8 0, vb out] ∧ y.toNat < 2 ^ k ∧ mulL k x y out = gmul a b) 8 ⟨rfl, a, b, 0, rfl, b.toNat_lt, rfl⟩ ?_
  rintro k us r w' I μ hgo ⟨rfl, x, y, out, rfl, hy, hm⟩
  refine ⟨_, _, _, _, rfl, ?_⟩
  have e4 : ((y.toNat : Int) != 0) = (y != 0) := by rw [bne, bne]; exact congrArg not (beq8 y 0)
  rw [e4]
  cases k with
  | zero =>
    have : y = 0 := by rw [← UInt8.toNat_inj]; simpa using hy
    subst this
    have hm : out = gmul a b := hm
    subst hm
    exact h
  | succ k =>
    refine cond_intro (fun h1 => ?_) (fun h1 => ?_)
    · have hne : y ≠ 0 := by simpa using h1
      have e1 : (iand .u8 (y.toNat : Int) 1) = ((y &&& 1).toNat : Int) := and8 y 1
      have e5 : (((y &&& 1).toNat : Int) != 0) = ((y &&& 1) != 0) := by rw [bne, bne]; exact congrArg not (beq8 (y &&& 1) 0)
      have e2 : Int.fdiv (y.toNat : Int) (2 ^ 1) = ((y >>> 1).toNat : Int) := shr8 y 1 (by omega)
      have hy2 : (y >>> 1).toNat < 2 ^ k := by
        have : (y >>> 1).toNat = y.toNat >>> 1 := UInt8.toNat_shiftRight y 1
        rw [this, Nat.shiftRight_eq_div_pow]
        rw [Nat.pow_succ] at hy
        omega
      unfold mulL at hm
      rw [if_neg hne] at hm
      rw [e1, e5, e2, xor8]
      refine cond_intro (fun h2 => ?_) (fun h2 => ?_)
      · refine double_c _ _ _ ⟨_, rfl, hgo _ _ _ k (by omega) ⟨rfl, _, _, _, rfl, hy2, ?_⟩⟩
        rw [h2] at hm; exact hm
      · refine double_c _ _ _ ⟨_, rfl, hgo _ _ _ k (by omega) ⟨rfl, _, _, _, rfl, hy2, ?_⟩⟩
        rw [h2] at hm; exact hm
    · have : y = 0 := by simpa using h1
      subst this
      have hm : out = gmul a b := hm
      subst hm
      exact h
end Go.Sh
