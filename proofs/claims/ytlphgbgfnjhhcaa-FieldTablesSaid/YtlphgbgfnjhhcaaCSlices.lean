/- A part of a proof of a given law of this program: lemmas, printed forms of its functions, contracts. It has no conditions of its own. -/
import Derived.Test.YtlphgbgfnjhhcaaFw9
import Derived.Test.YtlphgbgfnjhhcaaShNums
import Derived.Test.YtlphgbgfnjhhcaaShSlices
namespace Go.Sh
open Go Go.Fw Go.Proofs
set_option maxRecDepth 100000
set_option linter.unusedVariables false

theorem slices_Clone_c {w : World} {p : Option Addr} {l c : Nat} {vs : List Value} (hR : Row w p vs) (hl : l = vs.length) (hb : l ≤ 1000000) (h1 : ∀ v ∈ vs, v.oneCell' = true) {K : Value → World → Prop}
    (h : ∀ p' c' w', Fr [] w w' → OwnS w' p' l c' vs → (∀ k ∈ blks p', w.heap.size ≤ k) → K (.slice p' l c') w') : callF Try.prog F_slices_Clone_byte_byte #[.slice p l c] w K := by
  apply slices_Clone_byte_byte_call
  refine ⟨_, _, sliceNil (by kernel_rfl), cond_intro (fun hp => ?_) (fun hp => ?_)⟩
  · cases p with
    | some a => cases hp
    | none =>
      rcases hR with rfl | ⟨b, o, hb, _⟩
      · subst hl; exact h none 0 w (Fr.refl _ _) (OwnS.nil w) (by simp [blks])
      · cases hb
  · refine ⟨_, _, _, Ef.new (cs := #[]) (v := .slice (some ⟨w.heap.size, 0, none⟩) 0 0) (e := 5) (by kernel_rfl) fun w1 h1' hB hs => ?_⟩
    have hO : OwnS w1 (some ⟨w.heap.size, 0, none⟩) 0 0 [] := ⟨rfl, .inr ⟨_, _, _, _, rfl, hB, by simp, by simp, by simp⟩⟩
    obtain ⟨p', c', w', he, hO', hf, hcase⟩ := Ef.append (P := Try.prog) (t := 50) (ty := 50) (by kernel_rfl) hO (d := c) (hR.fr0 h1') hl h1 (by omega)
    rw [Nat.zero_add] at he hO'
    refine ⟨_, _, _, _, he, ?_⟩
    refine h p' c' w' ?_ hO' ?_
    · exact (h1'.mono (by simp)).trans hf (by simp [blks])
    · rcases hcase with ⟨rfl, _, _⟩ | ⟨rfl, _, _⟩
      · simp [blks]
      · simp only [blks, List.mem_singleton]; rintro k rfl; omega
end Go.Sh
