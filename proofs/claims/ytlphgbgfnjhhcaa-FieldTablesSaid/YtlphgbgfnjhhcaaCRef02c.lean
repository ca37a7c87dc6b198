/- A part of a proof of a given law of this program: lemmas, printed forms of its functions, contracts. It has no conditions of its own. -/
import Derived.Test.YtlphgbgfnjhhcaaCRef02b
namespace Go.Sh
open Go Go.Fw Go.Proofs
set_option maxRecDepth 100000
set_option linter.unusedVariables false

def rsn (b k : Nat) : Nat → Nat
  | 0 => 99 / 2 ^ k % 2 + b / 2 ^ k % 2
  | j + 1 => rsn b k j + b / 2 ^ ((k + (4 + j)) % 8) % 2
def rsg (b : Nat) : Nat → Nat
  | 0 => 0
  | k + 1 => rsg b k + rsn b k 4 % 2 * 2 ^ k
theorem rsn_lt (b k : Nat) : ∀ j, rsn b k j ≤ 2 + j := by
  intro j
  induction j with
  | zero => unfold rsn; have := Nat.mod_lt (99 / 2 ^ k) (show 2 > 0 by omega); have := Nat.mod_lt (b / 2 ^ k) (show 2 > 0 by omega); omega
  | succ j ih => unfold rsn; have := Nat.mod_lt (b / 2 ^ ((k + (4 + j)) % 8)) (show 2 > 0 by omega); omega
theorem rsg_lt (b : Nat) : ∀ k, rsg b k < 2 ^ k := by
  intro k
  induction k with
  | zero => show 0 < 1; omega
  | succ k ih =>
    unfold rsg
    have h1 := Nat.mod_lt (rsn b k 4) (show 2 > 0 by omega)
    have h2 : rsn b k 4 % 2 * 2 ^ k ≤ 1 * 2 ^ k := Nat.mul_le_mul_right _ (by omega)
    rw [Nat.pow_succ]; omega
def rsign (b : UInt8) : UInt8 := UInt8.ofNat (rsg b.toNat 8)
theorem rsign_eq (a : UInt8) : rsign (ginv a) = gsign a := by
  have e : ∀ b : UInt8, rsign b = bsum [b, rot b 1, rot b 2, rot b 3, rot b 4, 99] := by
    intro b
    have := all8 (p := fun b => rsign b == bsum [b, rot b 1, rot b 2, rot b 3, rot b 4, 99]) (by kernel_rfl) b
    simpa using this
  exact e (ginv a)
theorem tmod8 (n : Nat) : Int.tmod (n : Int) 8 = ((n % 8 : Nat) : Int) := rfl
theorem tmod2 (n : Nat) : Int.tmod (n : Int) 2 = ((n % 2 : Nat) : Int) := rfl
theorem refSign_c (b : UInt8) (w : World) (K : Value → World → Prop) (h : K (vb (rsign b)) w) : callF Try.prog F_ref02_Sign #[vb b] w K := by
  have hb := b.toNat_lt
  apply ref02_Sign_call
  unfold ref02_Sign
  rw [wrapn (n := b.toNat) (by omega)]
  refine LoopS.ind (fun K us w' => w' = w ∧ ∃ k : Nat, k + K = 8 ∧ us = [.int .u8 0, .int .i64 (b.toNat : Int), .int .i64 ((rsg b.toNat k : Nat) : Int), .int .i64 (k : Int)]) 8 ⟨rfl, 0, rfl, rfl⟩ ?_
  rintro K1 us r w' I μ hgo ⟨rfl, k, hk, rfl⟩
  have hg := rsg_lt b.toNat k
  refine ⟨_, _, _, _, rfl, cond_d (fun h1 => ?_) (fun h1 => ?_)⟩
  · have hk8 : k < 8 := by omega
    have hpos : 0 < 2 ^ k := Nat.two_pow_pos k
    have hp8 : 2 ^ k ≤ 2 ^ 7 := Nat.pow_le_pow_right (by omega) (by omega)
    refine ⟨_, Pu.shl (by rw [wrapu64 (by omega) (by omega)]; omega), ?_⟩
    rw [shl_one (by omega)]
    refine ⟨_, Pu.quo (by omega), ?_⟩
    have e99 : Int.tdiv 99 ((2 ^ k : Nat) : Int) = ((99 / 2 ^ k : Nat) : Int) := rfl
    have q99 : 99 / 2 ^ k ≤ 99 := Nat.div_le_self _ _
    rw [e99, wrapn (n := 99 / 2 ^ k) (by omega)]
    refine ⟨_, Pu.shl (by rw [wrapu64 (by omega) (by omega)]; omega), ?_⟩
    rw [shl_one (by omega)]
    refine ⟨_, Pu.quo (by omega), ?_⟩
    have qb : b.toNat / 2 ^ k ≤ b.toNat := Nat.div_le_self _ _
    rw [tdiv_nat, wrapn (n := b.toNat / 2 ^ k) (by omega), tmod2, tmod2, ← Int.natCast_add]
    have m1 := Nat.mod_lt (99 / 2 ^ k) (show 2 > 0 by omega)
    have m2 := Nat.mod_lt (b.toNat / 2 ^ k) (show 2 > 0 by omega)
    rw [wrapn (by omega)]
    refine LoopS.ind (fun K us w2 => w2 = w' ∧ ∃ j : Nat, j + K = 4 ∧ us = [.int .u8 0, .int .i64 (b.toNat : Int), .int .i64 ((rsg b.toNat k : Nat) : Int), .int .i64 (k : Int), .int .i64 ((rsn b.toNat k j : Nat) : Int), .int .i64 ((4 + j : Nat) : Int)]) 4 ⟨rfl, 0, rfl, rfl⟩ ?_
    rintro K2 us2 r2 w2 I2 μ2 hgo2 ⟨rfl, j, hj, rfl⟩
    have hs := rsn_lt b.toNat k j
    refine ⟨_, _, _, _, _, _, rfl, cond_d (fun h2 => ?_) (fun h2 => ?_)⟩
    · have hj4 : j < 4 := by omega
      have hm8 := Nat.mod_lt (k + (4 + j)) (show 8 > 0 by omega)
      rw [← Int.natCast_add, wrapn (n := k + (4 + j)) (by omega), tmod8]
      refine ⟨_, Pu.shl (by rw [wrapu64 (by omega) (by omega)]; omega), ?_⟩
      rw [shl_one (by omega)]
      have hpos2 : 0 < 2 ^ ((k + (4 + j)) % 8) := Nat.two_pow_pos _
      refine ⟨_, Pu.quo (by omega), ?_⟩
      have qb2 : b.toNat / 2 ^ ((k + (4 + j)) % 8) ≤ b.toNat := Nat.div_le_self _ _
      have m3 := Nat.mod_lt (b.toNat / 2 ^ ((k + (4 + j)) % 8)) (show 2 > 0 by omega)
      rw [tdiv_nat, wrapn (n := b.toNat / 2 ^ ((k + (4 + j)) % 8)) (by omega), tmod2, ← Int.natCast_add, wrapn (by omega), wrap64 (n := ((4 + j : Nat) : Int) + 1) (by omega) (by omega)]
      exact hgo2 _ _ _ (K2 - 1) (by omega) ⟨rfl, j + 1, by omega, rfl⟩
    · have hj4 : j = 4 := by omega
      subst hj4
      unfold ref02_Sign_j1
      refine ⟨_, Pu.shl (by rw [wrapu64 (by omega) (by omega)]; omega), ?_⟩
      have m4 := Nat.mod_lt (rsn b.toNat k 4) (show 2 > 0 by omega)
      have hm : rsn b.toNat k 4 % 2 * 2 ^ k ≤ 1 * 2 ^ k := Nat.mul_le_mul_right _ (by omega)
      rw [shl_one (by omega), tmod2, ← Int.natCast_mul, wrapn (n := rsn b.toNat k 4 % 2 * 2 ^ k) (by omega), ← Int.natCast_add, wrapn (by omega), wrap64 (n := (k : Int) + 1) (by omega) (by omega)]
      exact hgo _ _ _ (K1 - 1) (by omega) ⟨rfl, k + 1, by omega, rfl⟩
  · have hk8 : k = 8 := by omega
    subst hk8
    have e : IntKind.u8.wrap ((rsg b.toNat 8 : Nat) : Int) = ((rsign b).toNat : Int) := by
      rw [IntKind.wrap_u8]; unfold rsign; simp
    rw [e]
    exact h
theorem refSub_c (a : UInt8) (w : World) (K : Value → World → Prop) (h : K (vb (gsign a)) w) : callF Try.prog F_ref02_Sub #[vb a] w K := by
  apply ref02_Sub_call
  refine refInv_c a _ _ ⟨_, rfl, ?_⟩
  refine refSign_c (ginv a) _ _ ?_
  rw [rsign_eq]
  exact ⟨_, rfl, h⟩
theorem refUnsub_c (a : UInt8) (w : World) (K : Value → World → Prop) (h : K (vb (gunsign a)) w) : callF Try.prog F_ref02_Unsub #[vb a] w K := by
  apply ref02_Unsub_call
  unfold ref02_Unsub
  refine LoopS.ind (fun k us w' => w' = w ∧ ∃ i : Nat, i + k = 256 ∧ us = [vb a, .int .u8 0, .int .i64 (i : Int)] ∧ ∀ j, j < i → gsign (UInt8.ofNat j) ≠ a) 256 ⟨rfl, 0, rfl, rfl, by omega⟩ ?_
  rintro k us r w' I μ hgo ⟨rfl, i, hi, rfl, hno⟩
  refine ⟨_, _, _, rfl, cond_d (fun h1 => ?_) (fun h1 => ?_)⟩
  · have hi256 : i < 256 := by omega
    rw [wrapb hi256]
    refine refSub_c (UInt8.ofNat i) _ _ ?_
    obtain ⟨g, hg⟩ : ∃ g, g = gsign (UInt8.ofNat i) := ⟨_, rfl⟩
    rw [← hg]
    refine ⟨_, rfl, ?_⟩
    rw [beq8]
    refine cond_intro (fun h2 => ?_) (fun h2 => ?_)
    · have h3 : g = a := by simpa using h2
      have h4 : UInt8.ofNat i = gunsign a := by
        rw [← h3, hg]
        exact (unsign (UInt8.ofNat i)).symm
      rw [h4]
      exact h
    · have h3 : g ≠ a := by simpa using h2
      rw [wrap64 (by omega) (by omega)]
      refine hgo _ _ _ (k - 1) (by omega) ⟨rfl, i + 1, by omega, rfl, fun j hj => ?_⟩
      by_cases hji : j = i
      · subst hji; rw [← hg]; exact h3
      · exact hno j (by omega)
  · have h2 := hno (gunsign a).toNat (by have := (gunsign a).toNat_lt; omega)
    rw [UInt8.ofNat_toNat, sign_unsign] at h2
    exact absurd rfl h2
end Go.Sh
