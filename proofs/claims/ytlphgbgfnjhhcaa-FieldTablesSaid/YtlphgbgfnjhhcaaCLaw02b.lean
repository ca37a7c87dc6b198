/- A part of a proof of a given law of this program: lemmas, printed forms of its functions, contracts. It has no conditions of its own. -/
import Derived.Test.YtlphgbgfnjhhcaaCLaw02
import Derived.Test.YtlphgbgfnjhhcaaGF
namespace Go.Sh
open Go Go.Fw Go.Proofs
set_option maxRecDepth 100000
set_option linter.unusedVariables false

theorem Pow_n (a : UInt8) (n : Nat) (e : Int) (he : e = (n : Int)) (hn : n < 18446744073709551616) (w : World) (K : Value → World → Prop) (h : K (vb (npow a n)) w) : callF Try.prog F_field_Pow #[vb a, .int .u64 e] w K := by
  have e1 : (UInt64.ofNat n).toNat = n := by simp; omega
  have h2 := Pow_c a (UInt64.ofNat n) w K (by rw [gpow_eq, e1]; exact h)
  rw [he]
  rwa [show vw (UInt64.ofNat n) = .int .u64 (n : Int) by rw [vw, e1]] at h2
theorem bz (a : UInt8) : ((a.toNat : Int) == 0) = (a == 0) := beq8 a 0
theorem bone (a : UInt8) : ((a.toNat : Int) == 1) = (a == 1) := beq8 a 1
theorem xor_xor8 (a b : UInt8) : a ^^^ b ^^^ a = b := by rw [xor_comm8 a b, xor_assoc8, xor_self8, xor_zero8]
theorem row_sum {w w' : World} {l : List UInt8} (h : Blk w' w.heap.size (l.map vb).toArray.size (fun i => (l.map vb).toArray.getD i undef)) : Row w' (some ⟨w.heap.size, 0, none⟩) (l.map vb) := h.rowL

theorem FieldLaws_c (a b c : UInt8) {w : World} {K : Value → World → Prop} (h : ∀ w', Fr [] w w' → K (.bool true) w') : callF Try.prog F_law02_FieldLaws #[vb a, vb b, vb c] w K := by
  apply law02_FieldLaws_call
  refine alive_c fun w1 f1 => ⟨_, rfl, cond_false rfl ?_⟩
  refine Mul_c a b _ _ ⟨_, rfl, Mul_c b a _ _ ⟨_, rfl, cond_false (by rw [bne, beq8, gmul_comm a b]; simp) ?_⟩⟩
  refine Mul_c a b _ _ ⟨_, rfl, Mul_c _ c _ _ ⟨_, rfl, Mul_c b c _ _ ⟨_, rfl, Mul_c a _ _ _ ⟨_, rfl, cond_false (by rw [bne, beq8, gmul_assoc]; simp) ?_⟩⟩⟩⟩
  refine ⟨_, _, _, Ef.new (v := .slice (some ⟨w1.heap.size, 0, none⟩) 2 2) (cs := (([b, c] : List UInt8).map vb).toArray) (e := 5) (by kernel_rfl) fun w2 f2 hB2 _ => ?_⟩
  refine Sum_c (l := 2) hB2.rowL rfl (by omega) ⟨_, rfl, Mul_c a _ _ _ ⟨_, rfl, Mul_c a b _ _ ⟨_, rfl, Mul_c a c _ _ ⟨_, rfl, ?_⟩⟩⟩⟩
  refine ⟨_, _, _, Ef.new (v := .slice (some ⟨w2.heap.size, 0, none⟩) 2 2) (cs := (([gmul a b, gmul a c] : List UInt8).map vb).toArray) (e := 5) (by kernel_rfl) fun w3 f3 hB3 _ => ?_⟩
  have e3 : gmul a (bsum [b, c]) = bsum [gmul a b, gmul a c] := by
    show gmul a (0 ^^^ b ^^^ c) = 0 ^^^ gmul a b ^^^ gmul a c
    rw [zero_xor8, zero_xor8, gmul_right]
  refine Sum_c (l := 2) hB3.rowL rfl (by omega) ⟨_, rfl, cond_false (by rw [bne, beq8, e3]; simp) ?_⟩
  refine Mul_c a 1 _ _ ⟨_, rfl, cond_false (by rw [bne, beq8, gmul_one]; simp) ?_⟩
  refine ⟨_, _, _, Ef.new (v := .slice (some ⟨w3.heap.size, 0, none⟩) 3 3) (cs := (([a, b, a] : List UInt8).map vb).toArray) (e := 5) (by kernel_rfl) fun w4 f4 hB4 _ => ?_⟩
  have e4 : bsum [a, b, a] = b := by
    show 0 ^^^ a ^^^ b ^^^ a = b
    rw [zero_xor8, xor_xor8]
  refine Sum_c (l := 3) hB4.rowL rfl (by omega) ⟨_, rfl, cond_false (by rw [bne, beq8, e4]; simp) ?_⟩
  refine Sum_c (l := 0) (xs := []) (Row.nil _ _) rfl (by omega) ⟨_, rfl, cond_false rfl ?_⟩
  refine Mul_c a b _ _ ⟨_, rfl, ?_⟩
  have fw : Fr [] w w4 := ((f1.then f2).then f3).then f4
  have hz := gmul_eq_zero a b
  have fin : law02_FieldLaws_j1 (a.toNat : Int) false w4 K := by
    unfold law02_FieldLaws_j1
    rw [bz]
    refine cond_intro (fun _ => h w4 fw) fun ha => ?_
    have hane : a ≠ 0 := by simpa using ha
    refine Inv_c a _ _ ⟨_, rfl, ?_⟩
    refine Mul_c a (ginv a) _ _ ?_
    rw [gmul_ginv a hane]
    refine ⟨_, rfl, cond_true rfl ?_⟩
    refine Pow_n a 255 255 rfl (by omega) _ _ ?_
    rw [npow_255 a hane]
    refine ⟨_, rfl, cond_true rfl ?_⟩
    refine Inv_c a _ _ ⟨_, rfl, Pow_c a 254 _ _ ?_⟩
    rw [show gpow a 254 = ginv a from rfl]
    refine ⟨_, rfl, ?_⟩
    rw [beq_self_eq_true]
    exact h w4 fw
  refine cond_intro (fun ha => ?_) (fun ha => ?_)
  · rw [bz] at ha
    have ha' : a = 0 := by simpa using ha
    refine cond_false ?_ fin
    rw [bz, hz.2 (.inl ha')]; rfl
  · rw [bz] at ha
    have ha' : a ≠ 0 := by simpa using ha
    refine cond_false ?_ fin
    rw [bz, bz]
    by_cases hb : b = 0
    · rw [hz.2 (.inr hb), hb]; rfl
    · have : gmul a b ≠ 0 := fun h => by rcases hz.1 h with h | h; exact ha' h; exact hb h
      rw [beq_eq_false_iff_ne.2 this, beq_eq_false_iff_ne.2 hb]; rfl

theorem FieldPowers_c (a : UInt8) (n m : Nat) (hn : n < 4294967296) (hm : m < 4294967296) {w : World} {K : Value → World → Prop} (h : ∀ w', Fr [] w w' → K (.bool true) w') : callF Try.prog F_law02_FieldPowers #[vb a, .int .u32 (n : Int), .int .u32 (m : Int)] w K := by
  apply law02_FieldPowers_call
  have en : IntKind.u64.wrap (n : Int) = (n : Int) := wrapu64 (by omega) (by omega)
  have em : IntKind.u64.wrap (m : Int) = (m : Int) := wrapu64 (by omega) (by omega)
  have tn : Int.tmod (n : Int) 999 = ((n % 999 : Nat) : Int) := rfl
  have tm : Int.tmod (m : Int) 999 = ((m % 999 : Nat) : Int) := rfl
  have hn9 : n % 999 < 999 := Nat.mod_lt _ (by omega)
  have hm9 : m % 999 < 999 := Nat.mod_lt _ (by omega)
  have hp : (n % 999) * (m % 999) ≤ 998 * 998 := Nat.mul_le_mul (by omega) (by omega)
  have ep : IntKind.u64.wrap (((n % 999 : Nat) : Int) * ((m % 999 : Nat) : Int)) = (((n % 999) * (m % 999) : Nat) : Int) := by
    rw [← Int.natCast_mul]; exact wrapu64 (by omega) (by omega)
  unfold law02_FieldPowers law02_FieldPowers_j1
  rw [tn, tm, en, em, wrapu64 (n := ((n % 999 : Nat) : Int)) (by omega) (by omega), wrapu64 (n := ((m % 999 : Nat) : Int)) (by omega) (by omega), ep,
    wrapu64 (n := (n : Int) + (m : Int)) (by omega) (by omega), wrapu64 (n := (n : Int) + 255) (by omega) (by omega)]
  refine alive_c fun w1 f1 => ⟨_, rfl, cond_false rfl ?_⟩
  refine Pow_n a n _ rfl (by omega) _ _ ⟨_, rfl, Pow_n a m _ rfl (by omega) _ _ ⟨_, rfl, Mul_c _ _ _ _ ⟨_, rfl, ?_⟩⟩⟩
  refine Pow_n a (n + m) _ (by omega) (by omega) _ _ ⟨_, rfl, cond_false (by rw [bne, beq8, npow_add]; simp) ?_⟩
  refine Pow_n a 1 _ rfl (by omega) _ _ ⟨_, rfl, cond_false (by rw [bne, beq8, show npow a 1 = gmul 1 a from rfl, one_gmul]; simp) ?_⟩
  refine Pow_n a (n % 999) _ rfl (by omega) _ _ ⟨_, rfl, Pow_n _ (m % 999) _ rfl (by omega) _ _ ⟨_, rfl, Pow_n a ((n % 999) * (m % 999)) _ rfl (by omega) _ _ ⟨_, rfl, cond_false (by rw [bne, beq8, npow_mul]; simp) ?_⟩⟩⟩
  rw [bz]
  refine cond_intro (fun _ => h w1 f1) fun ha => ?_
  have hane : a ≠ 0 := by simpa using ha
  refine Pow_n a (n + 255) _ (by omega) (by omega) _ _ ⟨_, rfl, Pow_n a n _ rfl (by omega) _ _ ⟨_, rfl, ?_⟩⟩
  rw [npow_add, npow_255 a hane, gmul_one, beq_self_eq_true]
  exact h w1 f1
end Go.Sh
