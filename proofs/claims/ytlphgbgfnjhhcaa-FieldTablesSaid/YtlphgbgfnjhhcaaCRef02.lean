/- A part of a proof of a given law of this program: lemmas, printed forms of its functions, contracts. It has no conditions of its own. -/
import Derived.Test.YtlphgbgfnjhhcaaGF
import Derived.Test.YtlphgbgfnjhhcaaCLaw02b
import Derived.Test.YtlphgbgfnjhhcaaShRef02
namespace Go.Sh
open Go Go.Fw Go.Proofs
set_option maxRecDepth 100000
set_option linter.unusedVariables false

theorem pow63 {i : Nat} (h : i < 62) : (2 : Nat) ^ i < 9223372036854775808 := Nat.lt_of_lt_of_le (Nat.pow_lt_pow_right (by omega) h) (by decide)
theorem wrapn {n : Nat} (h : n < 9223372036854775808) : IntKind.i64.wrap (n : Int) = (n : Int) := wrap64 (by omega) (by omega)
theorem shl_one {i : Nat} (h : i < 62) : IntKind.i64.wrap (1 * 2 ^ min (IntKind.u64.wrap (i : Int)).toNat IntKind.i64.bits) = ((2 ^ i : Nat) : Int) := by
  have e1 : IntKind.u64.wrap (i : Int) = (i : Int) := wrapu64 (by omega) (by omega)
  have e2 : min ((i : Int)).toNat IntKind.i64.bits = i := by simp [IntKind.bits]; omega
  have e3 : ((2 : Int) ^ i) = ((2 ^ i : Nat) : Int) := by simp
  have := pow63 h
  rw [e1, e2, Int.one_mul, e3]
  exact wrapn this
theorem tdiv_nat (a b : Nat) : Int.tdiv (a : Int) (b : Int) = ((a / b : Nat) : Int) := rfl
theorem tmod_nat (a b : Nat) : Int.tmod (a : Int) (b : Int) = ((a % b : Nat) : Int) := rfl
theorem xori (x y : Nat) (hx : x < 2 ^ 62) (hy : y < 2 ^ 62) : ixor .i64 (x : Int) (y : Int) = ((x ^^^ y : Nat) : Int) := by
  have hz : x ^^^ y < 2 ^ 62 := Nat.xor_lt_two_pow hx hy
  show IntKind.i64.wrap (((BitVec.ofInt 64 (x : Int) ^^^ BitVec.ofInt 64 (y : Int)).toNat : Nat) : Int) = _
  rw [ofInt_nat, ofInt_nat, BitVec.toNat_xor, BitVec.toNat_ofNat, BitVec.toNat_ofNat, Nat.mod_eq_of_lt (by omega), Nat.mod_eq_of_lt (by omega)]
  exact wrapn (by omega)
def rm1 (a b : Nat) : Nat → Nat
  | 0 => 0
  | i + 1 => if b.testBit i then rm1 a b i ^^^ (a * 2 ^ i) else rm1 a b i
def rm2 (n : Nat) : Nat → Nat
  | 0 => n
  | j + 1 => if (rm2 n j).testBit (14 - j) then rm2 n j ^^^ (283 * 2 ^ (6 - j)) else rm2 n j
theorem rm1_lt (a b : Nat) (ha : a < 256) : ∀ i, i ≤ 8 → rm1 a b i < 2 ^ 16 := by
  intro i
  induction i with
  | zero => intro _; show 0 < 2 ^ 16; omega
  | succ i ih =>
    intro hi
    have h1 := ih (by omega)
    have h2 : a * 2 ^ i < 2 ^ 16 := by
      have h3 : 2 ^ i ≤ 2 ^ 7 := Nat.pow_le_pow_right (by omega) (by omega)
      have h4 : a * 2 ^ i ≤ 255 * 2 ^ 7 := Nat.mul_le_mul (by omega) h3
      omega
    unfold rm1
    split
    · exact Nat.xor_lt_two_pow h1 h2
    · exact h1
theorem rm2_lt (n : Nat) (hn : n < 2 ^ 16) : ∀ j, rm2 n j < 2 ^ 16 := by
  intro j
  induction j with
  | zero => exact hn
  | succ j ih =>
    have h2 : 283 * 2 ^ (6 - j) < 2 ^ 16 := by
      have h3 : 2 ^ (6 - j) ≤ 2 ^ 6 := Nat.pow_le_pow_right (by omega) (by omega)
      omega
    unfold rm2
    split
    · exact Nat.xor_lt_two_pow ih h2
    · exact ih
def rmul (a b : UInt8) : UInt8 := UInt8.ofNat (rm2 (rm1 a.toNat b.toNat 8) 7)
theorem beq_nat1 (n : Nat) : (((n : Nat) : Int) == 1) = decide (n = 1) := by
  rw [Bool.eq_iff_iff]; simp; omega
theorem shift_xor (x y i : Nat) : (x ^^^ y) * 2 ^ i = (x * 2 ^ i) ^^^ (y * 2 ^ i) := by
  rw [← Nat.shiftLeft_eq, ← Nat.shiftLeft_eq, ← Nat.shiftLeft_eq, Nat.shiftLeft_xor_distrib]
theorem rm1_left (x y b : Nat) : ∀ i, rm1 (x ^^^ y) b i = rm1 x b i ^^^ rm1 y b i := by
  intro i
  induction i with
  | zero => exact (Nat.xor_self 0).symm
  | succ i ih =>
    unfold rm1
    rw [ih, shift_xor]
    split
    · ac_rfl
    · rfl
theorem rm1_right (a x y : Nat) : ∀ i, rm1 a (x ^^^ y) i = rm1 a x i ^^^ rm1 a y i := by
  intro i
  induction i with
  | zero => exact (Nat.xor_self 0).symm
  | succ i ih =>
    unfold rm1
    rw [ih, Nat.testBit_xor]
    cases x.testBit i <;> cases y.testBit i <;> simp <;> try ac_rfl
    have e : ∀ p q r : Nat, p ^^^ q = (p ^^^ r) ^^^ (q ^^^ r) := by
      intro p q r
      have : (p ^^^ r) ^^^ (q ^^^ r) = (p ^^^ q) ^^^ (r ^^^ r) := by ac_rfl
      rw [this, Nat.xor_self, Nat.xor_zero]
    exact e _ _ _
theorem rm2_xor (x y : Nat) : ∀ j, rm2 (x ^^^ y) j = rm2 x j ^^^ rm2 y j := by
  intro j
  induction j with
  | zero => rfl
  | succ j ih =>
    unfold rm2
    rw [ih, Nat.testBit_xor]
    cases (rm2 x j).testBit (14 - j) <;> cases (rm2 y j).testBit (14 - j) <;> simp <;> try ac_rfl
    have e : ∀ p q r : Nat, p ^^^ q = (p ^^^ r) ^^^ (q ^^^ r) := by
      intro p q r
      have : (p ^^^ r) ^^^ (q ^^^ r) = (p ^^^ q) ^^^ (r ^^^ r) := by ac_rfl
      rw [this, Nat.xor_self, Nat.xor_zero]
    exact e _ _ _
theorem ofNat_xor (x y : Nat) : UInt8.ofNat (x ^^^ y) = UInt8.ofNat x ^^^ UInt8.ofNat y := by
  rw [← UInt8.toNat_inj, UInt8.toNat_xor]
  simp only [UInt8.toNat_ofNat']
  exact Nat.xor_mod_two_pow
theorem rmul_eq (a b : UInt8) : rmul a b = gmul a b := by
  have l : ∀ x y b, rmul (x ^^^ y) b = rmul x b ^^^ rmul y b := by
    intro x y b
    unfold rmul
    rw [UInt8.toNat_xor, rm1_left, rm2_xor, ofNat_xor]
  have r : ∀ a x y, rmul a (x ^^^ y) = rmul a x ^^^ rmul a y := by
    intro a x y
    unfold rmul
    rw [UInt8.toNat_xor, rm1_right, rm2_xor, ofNat_xor]
  have z1 : ∀ b, rmul 0 b = 0 := by intro b; have := l 0 0 b; rw [xor_self8, xor_self8] at this; exact this
  have z2 : ∀ a, rmul a 0 = 0 := by intro a; have := r a 0 0; rw [xor_self8, xor_self8] at this; exact this
  refine byte_ind (p := fun a => rmul a b = gmul a b) (by rw [z1, zero_gmul]) (fun k hk => ?_) (fun x y hx hy => by rw [l, gmul_left, hx, hy]) a
  refine byte_ind (p := fun b => rmul (1 <<< UInt8.ofNat k) b = gmul (1 <<< UInt8.ofNat k) b) (by rw [z2, gmul_zero]) (fun j hj => ?_) (fun x y hx hy => by rw [r, gmul_right, hx, hy]) b
  have h : ((List.range 8).all fun k => (List.range 8).all fun j => rmul (1 <<< UInt8.ofNat k) (1 <<< UInt8.ofNat j) == gmul (1 <<< UInt8.ofNat k) (1 <<< UInt8.ofNat j)) = true := by kernel_rfl
  have h2 := List.all_eq_true.1 (List.all_eq_true.1 h k (by simpa using hk)) j (by simpa using hj)
  simpa using h2

theorem refMul_c (a b : UInt8) (w : World) (K : Value → World → Prop) (h : K (vb (gmul a b)) w) : callF Try.prog F_ref02_Mul #[vb a, vb b] w K := by
  rw [← rmul_eq] at h
  have ha := a.toNat_lt
  have hb := b.toNat_lt
  apply ref02_Mul_call
  unfold ref02_Mul
  refine LoopS.ind (fun k us w' => w' = w ∧ ∃ i : Nat, i + k = 8 ∧ us = [vb a, vb b, .int .u8 0, .int .i64 ((rm1 a.toNat b.toNat i : Nat) : Int), .int .i64 (i : Int)]) 8 ⟨rfl, 0, rfl, rfl⟩ ?_
  rintro k us r w' I μ hgo ⟨rfl, i, hi, rfl⟩
  refine ⟨_, _, _, _, _, rfl, cond_d (fun h1 => ?_) (fun h1 => ?_)⟩
  · have hi8 : i < 8 := by omega
    have hp := pow63 (i := i) (by omega)
    have hpos : 0 < 2 ^ i := Nat.two_pow_pos i
    have hl1 := rm1_lt a.toNat b.toNat ha i (by omega)
    refine ⟨_, Pu.shl (by rw [wrapu64 (by omega) (by omega)]; omega), ?_⟩
    rw [shl_one (by omega), wrapn (n := b.toNat) (by omega)]
    refine ⟨_, Pu.quo (by omega), ?_⟩
    have hq : b.toNat / 2 ^ i ≤ b.toNat := Nat.div_le_self _ _
    rw [tdiv_nat, wrapn (by omega)]
    have e2 : Int.tmod ((b.toNat / 2 ^ i : Nat) : Int) 2 = ((b.toNat / 2 ^ i % 2 : Nat) : Int) := rfl
    rw [e2, beq_nat1, ← Nat.testBit_eq_decide_div_mod_eq]
    have hm : a.toNat * 2 ^ i < 2 ^ 16 := by
      have h3 : 2 ^ i ≤ 2 ^ 7 := Nat.pow_le_pow_right (by omega) (by omega)
      have h4 : a.toNat * 2 ^ i ≤ 255 * 2 ^ 7 := Nat.mul_le_mul (by omega) h3
      omega
    refine cond_intro (fun h2 => ?_) (fun h2 => ?_)
    · refine ⟨_, Pu.shl (by rw [wrapu64 (by omega) (by omega)]; omega), ?_⟩
      rw [shl_one (by omega), wrapn (n := a.toNat) (by omega), ← Int.natCast_mul, wrapn (by omega), xori _ _ (by omega) (by omega), wrap64 (by omega) (by omega)]
      refine hgo _ _ _ (k - 1) (by omega) ⟨rfl, i + 1, by omega, ?_⟩
      have e3 : rm1 a.toNat b.toNat (i + 1) = rm1 a.toNat b.toNat i ^^^ (a.toNat * 2 ^ i) := by rw [rm1, if_pos h2]
      rw [e3]; rfl
    · rw [wrap64 (by omega) (by omega)]
      refine hgo _ _ _ (k - 1) (by omega) ⟨rfl, i + 1, by omega, ?_⟩
      have e3 : rm1 a.toNat b.toNat (i + 1) = rm1 a.toNat b.toNat i := by rw [rm1, h2]; rfl
      rw [e3]; rfl
  · have hi8 : i = 8 := by omega
    subst hi8
    have hn := rm1_lt a.toNat b.toNat ha 8 (by omega)
    unfold ref02_Mul_j1
    refine LoopS.ind (fun k us w2 => w2 = w' ∧ ∃ j : Nat, j + k = 7 ∧ us = [.int .u8 0, .int .i64 ((rm2 (rm1 a.toNat b.toNat 8) j : Nat) : Int), .int .i64 ((14 - j : Nat) : Int)]) 7 ⟨rfl, 0, rfl, rfl⟩ ?_
    rintro k2 us2 r2 w2 I2 μ2 hgo2 ⟨rfl, j, hj, rfl⟩
    have hl2 := rm2_lt _ hn j
    refine ⟨_, _, _, rfl, cond_d (fun h3 => ?_) (fun h3 => ?_)⟩
    · have hj7 : j < 7 := by omega
      have hp := pow63 (i := 14 - j) (by omega)
      have hpos : 0 < 2 ^ (14 - j) := Nat.two_pow_pos _
      refine ⟨_, Pu.shl (by rw [wrapu64 (by omega) (by omega)]; omega), ?_⟩
      rw [shl_one (by omega)]
      refine ⟨_, Pu.quo (by omega), ?_⟩
      have hq : rm2 (rm1 a.toNat b.toNat 8) j / 2 ^ (14 - j) ≤ rm2 (rm1 a.toNat b.toNat 8) j := Nat.div_le_self _ _
      rw [tdiv_nat, wrapn (by omega)]
      have e2 : Int.tmod ((rm2 (rm1 a.toNat b.toNat 8) j / 2 ^ (14 - j) : Nat) : Int) 2 = ((rm2 (rm1 a.toNat b.toNat 8) j / 2 ^ (14 - j) % 2 : Nat) : Int) := rfl
      rw [e2, beq_nat1, ← Nat.testBit_eq_decide_div_mod_eq]
      have e14 : ((14 - j : Nat) : Int) - 1 = ((14 - (j + 1) : Nat) : Int) := by omega
      refine cond_intro (fun h4 => ?_) (fun h4 => ?_)
      · have e6 : IntKind.i64.wrap (((14 - j : Nat) : Int) - 8) = ((6 - j : Nat) : Int) := by rw [wrap64 (by omega) (by omega)]; omega
        have h6 : 283 * 2 ^ (6 - j) < 2 ^ 16 := by
          have h3 : 2 ^ (6 - j) ≤ 2 ^ 6 := Nat.pow_le_pow_right (by omega) (by omega)
          omega
        rw [e6]
        refine ⟨_, Pu.shl (by rw [wrapu64 (by omega) (by omega)]; omega), ?_⟩
        have e283 : (283 : Int) * ((2 ^ (6 - j) : Nat) : Int) = ((283 * 2 ^ (6 - j) : Nat) : Int) := by rw [Int.natCast_mul]; rfl
        rw [shl_one (by omega), e283, wrapn (by omega), xori _ _ (by omega) (by omega), wrap64 (by omega) (by omega), e14]
        refine hgo2 _ _ _ (k2 - 1) (by omega) ⟨rfl, j + 1, by omega, ?_⟩
        have e3 : rm2 (rm1 a.toNat b.toNat 8) (j + 1) = rm2 (rm1 a.toNat b.toNat 8) j ^^^ (283 * 2 ^ (6 - j)) := by rw [rm2, if_pos h4]
        rw [e3]
      · rw [wrap64 (by omega) (by omega), e14]
        refine hgo2 _ _ _ (k2 - 1) (by omega) ⟨rfl, j + 1, by omega, ?_⟩
        have e3 : rm2 (rm1 a.toNat b.toNat 8) (j + 1) = rm2 (rm1 a.toNat b.toNat 8) j := by rw [rm2, h4]; rfl
        rw [e3]
    · have hj7 : j = 7 := by omega
      subst hj7
      have e : IntKind.u8.wrap ((rm2 (rm1 a.toNat b.toNat 8) 7 : Nat) : Int) = ((rmul a b).toNat : Int) := by
        rw [IntKind.wrap_u8]; unfold rmul; simp
      rw [e]
      exact h
end Go.Sh
