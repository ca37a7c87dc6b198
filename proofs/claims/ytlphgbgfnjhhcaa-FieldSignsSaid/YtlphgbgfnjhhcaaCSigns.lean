/- A part of a proof of a given law of this program: lemmas, printed forms of its functions, contracts. It has no conditions of its own. -/
import Derived.Test.YtlphgbgfnjhhcaaCLaw02
namespace Go.Sh
open Go Go.Fw Go.Proofs
set_option maxRecDepth 100000
set_option linter.unusedVariables false

theorem unsign_sign (a : UInt8) : gunsign (gsign a) = a := unsign a
theorem sign_ne (a : UInt8) : gsign a ≠ a ∧ gsign a ≠ 255 - a := by
  have := all8 (p := fun a => gsign a != a && gsign a != 255 - a) (by kernel_rfl) a
  simpa using this
theorem sub255 (a : UInt8) : IntKind.u8.wrap (255 - (a.toNat : Int)) = ((255 - a).toNat : Int) := by
  have h := a.toNat_lt
  have h1 : (255 - a).toNat = 255 - a.toNat := by
    rw [UInt8.toNat_sub_of_le]
    · rfl
    · rw [UInt8.le_iff_toNat_le]; show a.toNat ≤ 255; omega
  rw [wrap8 (by omega) (by omega), h1]; omega
theorem FieldSigns_c (a b : UInt8) {w : World} {K : Value → World → Prop} (h : ∀ w', Fr [] w w' → K (.bool true) w') : callF Try.prog F_law02_FieldSigns #[vb a, vb b] w K := by
  apply law02_FieldSigns_call
  refine alive_c fun w1 f1 => ⟨_, rfl, cond_false rfl ?_⟩
  refine New_c (bl := []) (Row.nil _ _) rfl (by decide) fun t w2 f2 ht hT => ?_
  refine ⟨_, rfl, _, _, ptrNil (by kernel_rfl), cond_false rfl ?_⟩
  refine Sub_c hT a fun w3 hi3 f3 hT3 h31 _ h33 => ⟨_, rfl, ?_⟩
  refine Sub_c hT3 b fun w4 hi4 f4 hT4 _ h42 _ => ⟨_, rfl, ?_⟩
  have e1 : (((gsign a).toNat : Int) == ((gsign b).toNat : Int)) = ((a.toNat : Int) == (b.toNat : Int)) := by
    rw [beq8, beq8, Bool.eq_iff_iff]
    simp only [beq_iff_eq]
    exact ⟨gsign_inj, fun h => by rw [h]⟩
  refine cond_true (by rw [e1]; simp) ?_
  refine Unsub_c hT4 (gsign a) fun w5 hi5 f5 hT5 _ h52 _ => ⟨_, rfl, ?_⟩
  rw [unsign_sign]
  refine cond_true (by simp) ?_
  refine Unsub_c hT5 a fun w6 hi6 f6 hT6 _ h62 _ => ⟨_, rfl, ?_⟩
  refine Sub_c hT6 (gunsign a) fun w7 hi7 f7 hT7 _ h72 _ => ⟨_, rfl, ?_⟩
  rw [sign_unsign]
  refine cond_true (by simp) ?_
  obtain ⟨n1, n2⟩ := sign_ne a
  refine cond_true (by rw [bne, beq8]; simpa using n1) ?_
  refine cond_true (by rw [bne, sub255, beq8]; simpa using n2) ?_
  refine New_c (bl := []) (Row.nil _ _) rfl (by decide) fun t2 w8 f8 ht2 hT8 => ⟨_, rfl, ?_⟩
  refine Sub_c hT8 a fun w9 hi9 f9 hT9 _ _ _ => ⟨_, rfl, ?_⟩
  rw [beq_self_eq_true]
  refine h w9 ?_
  have fA : Fr [t] w2 w7 := (((f3.trans f4 (fun _ h => .inl h)).trans f5 (fun _ h => .inl h)).trans f6 (fun _ h => .inl h)).trans f7 (fun _ h => .inl h)
  have fB : Fr [] w w7 := (f1.then f2).trans fA (by intro x hx; simp only [List.mem_singleton] at hx; subst hx; have := f1.size; exact .inr (by omega))
  have fC := fB.then f8
  exact fC.trans f9 (by intro x hx; simp only [List.mem_singleton] at hx; subst hx; have := fB.size; exact .inr (by omega))
end Go.Sh
