/- A part of a proof of a given law of this program: lemmas, printed forms of its functions, contracts. It has no conditions of its own. -/
import Derived.Test.YtlphgbgfnjhhcaaCTab3
import Derived.Test.YtlphgbgfnjhhcaaShLaw02
namespace Go.Sh
open Go Go.Fw Go.Proofs
set_option maxRecDepth 100000
set_option linter.unusedVariables false

theorem cond_true {b : Bool} {A B : Prop} (hb : b = true) (h : A) : cond b A B := by subst hb; exact h
theorem cond_false {b : Bool} {A B : Prop} (hb : b = false) (h : B) : cond b A B := by subst hb; exact h
theorem field_known : gmul 87 131 = 193 ∧ ginv 0 = 0 ∧ gmul (ginv 83) 83 = 1 ∧ gpow 2 8 = 27 ∧ bsum [1, 2, 4, 1] = 6 ∧ gsign 83 = 237 ∧ gunsign 237 = 83 ∧ gmul 128 3 = 155 := by
  refine ⟨?_, ?_, ?_, ?_, ?_, ?_, ?_, ?_⟩ <;> kernel_rfl

theorem alive_c {w : World} {K : Value → World → Prop} (h : ∀ w', Fr [] w w' → K (.bool true) w') : callF Try.prog F_law02_alive #[] w K := by
  obtain ⟨k1, k2, k3, k4, k5, k6, k7, k8⟩ := field_known
  apply law02_alive_call
  refine ⟨_, _, _, Ef.new (v := .slice (some ⟨w.heap.size, 0, none⟩) 2 2) (cs := (([2, 3] : List UInt8).map vb).toArray) (e := 5) (by kernel_rfl) fun w1 f1 hB _ => ?_⟩
  refine New_c (l := 2) hB.rowL rfl (by decide) fun b w2 f2 hb hT => ?_
  refine ⟨_, rfl, _, _, ptrNil (by kernel_rfl), cond_false rfl ?_⟩
  refine Made_c hT ⟨_, rfl, cond_false rfl ?_⟩
  refine Sub_c hT 83 fun w3 hi3 f3 hT3 _ _ _ => ⟨_, rfl, ?_⟩
  refine Unsub_c hT3 237 fun w4 hi4 f4 hT4 _ _ _ => ⟨_, rfl, ?_⟩
  refine Times_in_c hT4 1 3 128 rfl fun w5 hi5 f5 hT5 _ _ _ => ⟨_, _, rfl, ?_⟩
  refine Times_out_c hT5 2 1 (by decide) fun w6 hi6 f6 hT6 _ _ _ => ⟨_, _, rfl, ?_⟩
  rw [k6, k7, k8]
  refine Mul_c 87 131 _ _ ?_
  rw [k1]
  refine ⟨_, rfl, cond_true rfl ?_⟩
  refine Inv_c 0 _ _ ?_
  rw [k2]
  refine ⟨_, rfl, cond_true rfl ?_⟩
  refine Inv_c 83 _ _ ⟨_, rfl, Mul_c (ginv 83) 83 _ _ ?_⟩
  rw [k3]
  refine ⟨_, rfl, cond_true rfl ?_⟩
  refine Pow_c 2 8 _ _ ?_
  rw [k4]
  refine ⟨_, rfl, cond_true rfl ?_⟩
  refine ⟨_, _, _, Ef.new (v := .slice (some ⟨w6.heap.size, 0, none⟩) 4 4) (cs := (([1, 2, 4, 1] : List UInt8).map vb).toArray) (e := 5) (by kernel_rfl) fun w7 f7 hB7 _ => ?_⟩
  refine Sum_c (l := 4) hB7.rowL rfl (by omega) ?_
  rw [k5]
  refine ⟨_, rfl, cond_true rfl ?_⟩
  refine cond_true rfl (cond_true rfl (cond_true rfl (cond_true rfl (cond_true rfl ?_))))
  refine Made_c (hT6.fr0 f7) ⟨_, rfl, h w7 ?_⟩
  have fA : Fr [b] w2 w7 := (((f3.trans f4 (fun _ h => .inl h)).trans f5 (fun _ h => .inl h)).trans f6 (fun _ h => .inl h)).then f7
  have f12 := f1.then f2
  refine f12.trans fA ?_
  intro x hx
  simp only [List.mem_singleton] at hx
  subst hx
  have := f1.size
  exact .inr (by omega)
end Go.Sh
