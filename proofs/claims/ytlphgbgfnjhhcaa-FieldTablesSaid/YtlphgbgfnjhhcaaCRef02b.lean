/- A part of a proof of a given law of this program: lemmas, printed forms of its functions, contracts. It has no conditions of its own. -/
import Derived.Test.YtlphgbgfnjhhcaaCRef02
import Derived.Test.YtlphgbgfnjhhcaaCTab3
namespace Go.Sh
open Go Go.Fw Go.Proofs
set_option maxRecDepth 100000
set_option linter.unusedVariables false

theorem ginv_uniq (a x : UInt8) (h : gmul a x = 1) : x = ginv a := by
  have ha : a ≠ 0 := by intro ha; subst ha; rw [zero_gmul] at h; cases h
  have h2 : gmul (ginv a) (gmul a x) = x := by rw [← gmul_assoc, gmul_comm (ginv a), gmul_ginv a ha, one_gmul]
  rw [h, gmul_one] at h2
  exact h2.symm
theorem ginv_zero : ginv 0 = 0 := by kernel_rfl
theorem refInv_c (a : UInt8) (w : World) (K : Value → World → Prop) (h : K (vb (ginv a)) w) : callF Try.prog F_ref02_Inv #[vb a] w K := by
  apply ref02_Inv_call
  unfold ref02_Inv
  refine LoopS.ind (fun k us w' => w' = w ∧ ∃ i : Nat, i + k = 256 ∧ us = [vb a, .int .u8 0, .int .i64 (i : Int)] ∧ ∀ j, j < i → gmul a (UInt8.ofNat j) ≠ 1) 256 ⟨rfl, 0, rfl, rfl, by omega⟩ ?_
  rintro k us r w' I μ hgo ⟨rfl, i, hi, rfl, hno⟩
  refine ⟨_, _, _, rfl, cond_d (fun h1 => ?_) (fun h1 => ?_)⟩
  · have hi256 : i < 256 := by omega
    rw [wrapb hi256]
    refine refMul_c a _ _ _ ⟨_, rfl, ?_⟩
    rw [bone]
    refine cond_intro (fun h2 => ?_) (fun h2 => ?_)
    · have h3 : gmul a (UInt8.ofNat i) = 1 := by simpa using h2
      rw [ginv_uniq a _ h3]
      exact h
    · have h3 : gmul a (UInt8.ofNat i) ≠ 1 := by simpa using h2
      rw [wrap64 (by omega) (by omega)]
      refine hgo _ _ _ (k - 1) (by omega) ⟨rfl, i + 1, by omega, rfl, fun j hj => ?_⟩
      by_cases hji : j = i
      · subst hji; exact h3
      · exact hno j (by omega)
  · have ha : a = 0 := by
      by_cases ha : a = 0
      · exact ha
      · have h2 := hno (ginv a).toNat (by have := (ginv a).toNat_lt; omega)
        rw [UInt8.ofNat_toNat] at h2
        exact absurd (gmul_ginv a ha) h2
    subst ha
    rw [ginv_zero] at h
    exact h
theorem npow_one (n : Nat) : npow 1 n = 1 := by
  induction n with
  | zero => rfl
  | succ n ih => show gmul (npow 1 n) 1 = 1; rw [gmul_one, ih]
theorem npow_mod (a : UInt8) (ha : a ≠ 0) (n : Nat) : npow a (n % 255) = npow a n := by
  have h : n = 255 * (n / 255) + n % 255 := by omega
  have h2 : npow a n = gmul (npow a (255 * (n / 255))) (npow a (n % 255)) := by rw [← npow_add, ← h]
  rw [h2, ← npow_mul, npow_255 a ha, npow_one, one_gmul]
theorem refPow_c (a : UInt8) (n : UInt64) (w : World) (K : Value → World → Prop) (h : K (vb (gpow a n)) w) : callF Try.prog F_ref02_Pow #[vb a, vw n] w K := by
  rw [gpow_eq] at h
  have hnl := n.toNat_lt
  apply ref02_Pow_call
  unfold ref02_Pow
  refine cond_eq (fun h0 => ?_) (fun h0 => ?_)
  · have h1 : n.toNat = 0 := by omega
    rw [h1] at h
    exact h
  · have h1 : n.toNat ≠ 0 := by omega
    rw [bz]
    refine cond_intro (fun ha => ?_) (fun ha => ?_)
    · have ha' : a = 0 := by simpa using ha
      subst ha'
      obtain ⟨m, hm⟩ := Nat.exists_eq_succ_of_ne_zero h1
      rw [hm, npow_zero] at h
      exact h
    · have ha' : a ≠ 0 := by simpa using ha
      have hlt : n.toNat % 255 < 255 := Nat.mod_lt _ (by omega)
      have e2 : Int.tmod (n.toNat : Int) 255 = ((n.toNat % 255 : Nat) : Int) := rfl
      refine LoopS.ind (fun k us w' => w' = w ∧ ∃ i : Nat, i + k = n.toNat % 255 ∧ us = [vb a, vw n, .int .u8 0, vb (npow a i), .int .u64 (i : Int)]) (n.toNat % 255) ⟨rfl, 0, by omega, rfl⟩ ?_
      rintro k us r w' I μ hgo ⟨rfl, i, hi, rfl⟩
      refine ⟨_, _, _, _, _, rfl, ?_⟩
      rw [e2]
      refine cond_d (fun h3 => ?_) (fun h3 => ?_)
      · refine refMul_c _ a _ _ ⟨_, rfl, ?_⟩
        rw [wrapu64 (by omega) (by omega)]
        exact hgo _ _ _ (k - 1) (by omega) ⟨rfl, i + 1, by omega, rfl⟩
      · have hie : i = n.toNat % 255 := by omega
        subst hie
        rw [npow_mod a ha'] 
        exact h
theorem FieldAnswers_c (a b : UInt8) (n : UInt64) {w : World} {K : Value → World → Prop} (h : ∀ w', Fr [] w w' → K (.bool true) w') : callF Try.prog F_law02_FieldAnswers #[vb a, vb b, vw n] w K := by
  apply law02_FieldAnswers_call
  refine alive_c fun w1 f1 => ⟨_, rfl, cond_false rfl ?_⟩
  refine Mul_c a b _ _ ⟨_, rfl, refMul_c a b _ _ ⟨_, rfl, cond_true (beq_self_eq_true _) ?_⟩⟩
  obtain ⟨g, hg⟩ : ∃ g, g = ginv a := ⟨_, rfl⟩
  obtain ⟨p, hp⟩ : ∃ p, p = gpow a n := ⟨_, rfl⟩
  refine Inv_c a _ _ ?_
  rw [← hg]
  refine ⟨_, rfl, ?_⟩
  refine refInv_c a _ _ ?_
  rw [← hg]
  refine ⟨_, rfl, cond_true (beq_self_eq_true _) ?_⟩
  refine Pow_c a n _ _ ?_
  rw [← hp]
  refine ⟨_, rfl, ?_⟩
  refine refPow_c a n _ _ ?_
  rw [← hp]
  refine ⟨_, rfl, ?_⟩
  rw [beq_self_eq_true]
  exact h w1 f1
end Go.Sh
