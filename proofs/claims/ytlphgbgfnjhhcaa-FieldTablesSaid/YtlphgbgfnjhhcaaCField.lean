/- A part of a proof of a given law of this program: lemmas, printed forms of its functions, contracts. It has no conditions of its own. -/
import Derived.Test.YtlphgbgfnjhhcaaC1
import Derived.Test.YtlphgbgfnjhhcaaCSync
import Derived.Test.YtlphgbgfnjhhcaaCSlices
namespace Go.Sh
open Go Go.Fw Go.Proofs
set_option maxRecDepth 100000
set_option linter.unusedVariables false

def powL : Nat → UInt8 → UInt64 → UInt8 → UInt8
  | 0, _, _, out => out
  | k + 1, a, n, out => if n = 0 then out else powL k (gmul a a) (n >>> 1) (if (n &&& 1) != 0 then gmul out a else out)
def gpow (a : UInt8) (n : UInt64) : UInt8 := powL 64 a n 1
def ginv (a : UInt8) : UInt8 := gpow a 254
def bsum (l : List UInt8) : UInt8 := l.foldl (fun x y => x ^^^ y) 0
def rot (a : UInt8) (k : Nat) : UInt8 := (a <<< UInt8.ofNat k) ||| (a >>> UInt8.ofNat (8 - k))
def gsign (a : UInt8) : UInt8 := let b := ginv a; bsum [b, rot b 1, rot b 2, rot b 3, rot b 4, 99]

theorem beq64 (x y : UInt64) : ((x.toNat : Int) == (y.toNat : Int)) = (x == y) := by
  rw [Bool.eq_iff_iff]; simp [eq64]

theorem Pow_c (a : UInt8) (n : UInt64) (w : World) (K : Value → World → Prop) (h : K (vb (gpow a n)) w) : callF Try.prog F_field_Pow #[vb a, vw n] w K := by
  apply field_Pow_call
  unfold field_Pow
  refine LoopS.ind (fun k us w' => w' = w ∧ ∃ (x : UInt8) (y : UInt64) (out : UInt8), us = [vb x, vw y, .int .u8 0, vb out] ∧ y.toNat < 2 ^ k ∧ powL k x y out = gpow a n) 64 ⟨rfl, a, n, 1, rfl, n.toNat_lt, rfl⟩ ?_
  rintro k us r w' I μ hgo ⟨rfl, x, y, out, rfl, hy, hm⟩
  refine ⟨_, _, _, _, rfl, ?_⟩
  have e4 : ((y.toNat : Int) != 0) = (y != 0) := by rw [bne, bne]; exact congrArg not (beq64 y 0)
  rw [e4]
  cases k with
  | zero =>
    have : y = 0 := by rw [← UInt64.toNat_inj]; simpa using hy
    subst this
    have hm : out = gpow a n := hm
    subst hm
    exact h
  | succ k =>
    refine cond_intro (fun h1 => ?_) (fun h1 => ?_)
    · have hne : y ≠ 0 := by simpa using h1
      have e1 : (iand .u64 (y.toNat : Int) 1) = ((y &&& 1).toNat : Int) := and64 y 1
      have e5 : (((y &&& 1).toNat : Int) != 0) = ((y &&& 1) != 0) := by rw [bne, bne]; exact congrArg not (beq64 (y &&& 1) 0)
      have e2 : Int.fdiv (y.toNat : Int) (2 ^ 1) = ((y >>> 1).toNat : Int) := shr64 y 1 (by omega)
      have hy2 : (y >>> 1).toNat < 2 ^ k := by
        have : (y >>> 1).toNat = y.toNat >>> 1 := UInt64.toNat_shiftRight y 1
        rw [this, Nat.shiftRight_eq_div_pow]
        rw [Nat.pow_succ] at hy
        omega
      unfold powL at hm
      rw [if_neg hne] at hm
      rw [e1, e5, e2]
      refine cond_intro (fun h2 => ?_) (fun h2 => ?_)
      · rw [h2] at hm
        refine Mul_c _ _ _ _ ⟨_, rfl, Mul_c _ _ _ _ ⟨_, rfl, hgo _ _ _ k (by omega) ⟨rfl, _, _, _, rfl, hy2, ?_⟩⟩⟩
        exact hm
      · rw [h2] at hm
        refine Mul_c _ _ _ _ ⟨_, rfl, hgo _ _ _ k (by omega) ⟨rfl, _, _, _, rfl, hy2, ?_⟩⟩
        exact hm
    · have : y = 0 := by simpa using h1
      subst this
      have hm : out = gpow a n := hm
      subst hm
      exact h
theorem Inv_c (a : UInt8) (w : World) (K : Value → World → Prop) (h : K (vb (ginv a)) w) : callF Try.prog F_field_Inv #[vb a] w K := by
  apply field_Inv_call
  exact Pow_c a 254 w _ ⟨_, rfl, h⟩
theorem Sum_c {w : World} {p : Option Addr} {l c : Nat} {xs : List UInt8} (hR : Row w p (xs.map vb)) (hl : l = xs.length) (hb : l ≤ 1000000) {K : Value → World → Prop} (h : K (vb (bsum xs)) w) : callF Try.prog F_field_Sum #[.slice p l c] w K := by
  apply field_Sum_call
  unfold field_Sum
  refine LoopS.ind (fun k us w' => w' = w ∧ ∃ i : Nat, i + k = l ∧ us = [.int .u8 0, vb ((xs.take i).foldl (fun x y => x ^^^ y) 0), .slice p l c, .int .i64 (l : Nat), .int .i64 (i : Nat)]) l ⟨rfl, 0, by omega, rfl⟩ ?_
  rintro k us r w' I μ hgo ⟨rfl, i, hi, rfl⟩
  refine ⟨_, _, _, _, _, _, _, rfl, cond_d (fun h1 => ?_) (fun h1 => ?_)⟩
  · have hil : i < xs.length := by omega
    obtain ⟨a, hix, hc⟩ := ixR (P := Try.prog) (t := 50) (by kernel_rfl) hR (cap := c) (k := .i64) (i := (i : Int)) (by simpa using hl) (by omega) h1 (v := vb xs[i]) (by simp [hil])
    refine ⟨a, hix, _, Ld.cell (by kernel_rfl) hc, ?_⟩
    refine hgo _ _ _ (k - 1) (by omega) ⟨rfl, i + 1, by omega, ?_⟩
    rw [xor8, wrap64 (by omega) (by omega), List.take_succ_eq_append_getElem hil, List.foldl_append]
    rfl
  · have hil : i = xs.length := by omega
    subst hil
    rw [List.take_length]
    exact h
theorem turned_c (a : UInt8) (k : Nat) (h0 : 0 < k) (h8 : k < 8) (w : World) (K : Value → World → Prop) (h : ∀ w', Fr [] w w' → w'.heap.size = w.heap.size → K (vb (rot a k)) w') : callF Try.prog F_field_turned #[vb a, .int .i64 (k : Nat)] w K := by
  apply field_turned_call
  refine Drw.intro fun w1 h1 h2 => ?_
  have e1 : min ((k : Int)).toNat IntKind.u8.bits = k := by simp [IntKind.bits]; omega
  have e0 : IntKind.i64.wrap (8 - (k : Int)) = ((8 - k : Nat) : Int) := by rw [wrap64 (by omega) (by omega)]; omega
  have e2 : min (((8 - k : Nat) : Int)).toNat IntKind.u8.bits = 8 - k := by simp [IntKind.bits]
  refine ⟨_, Pu.shl (by omega), ?_⟩
  rw [e0]
  refine ⟨_, Pu.shr (by omega), ?_⟩
  rw [e1, e2, shl8 a k (by omega), shr8 a (8 - k) (by omega), or8]
  exact h w1 h1 h2
theorem sign_c (a : UInt8) (w : World) (K : Value → World → Prop) (h : ∀ w', Fr [] w w' → K (vb (gsign a)) w') : callF Try.prog F_field_sign #[vb a] w K := by
  apply field_sign_call
  refine Inv_c a w _ ⟨_, rfl, ?_⟩
  refine turned_c _ 1 (by omega) (by omega) w _ fun w1 h1 _ => ⟨_, rfl, ?_⟩
  refine turned_c _ 2 (by omega) (by omega) w1 _ fun w2 h2 _ => ⟨_, rfl, ?_⟩
  refine turned_c _ 3 (by omega) (by omega) w2 _ fun w3 h3 _ => ⟨_, rfl, ?_⟩
  refine turned_c _ 4 (by omega) (by omega) w3 _ fun w4 h4 _ => ⟨_, rfl, ?_⟩
  refine ⟨_, _, _, Ef.new (v := .slice (some ⟨w4.heap.size, 0, none⟩) 6 6) (cs := (([ginv a, rot (ginv a) 1, rot (ginv a) 2, rot (ginv a) 3, rot (ginv a) 4, 99] : List UInt8).map vb).toArray) (e := 5) (by kernel_rfl) fun w5 h5 hB _ => ?_⟩
  refine Sum_c (l := 6) hB.rowL rfl (by omega) ⟨_, rfl, ?_⟩
  exact h w5 ((((h1.then h2).then h3).then h4).then h5)
end Go.Sh
