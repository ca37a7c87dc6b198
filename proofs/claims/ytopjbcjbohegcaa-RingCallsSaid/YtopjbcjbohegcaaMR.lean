/- A part of a proof of a given law of this program: lemmas, printed forms of its functions, contracts. It has no conditions of its own. -/
import Derived.Test.YtopjbcjbohegcaaMB
import Derived.Test.YtopjbcjbohegcaaMC

section
namespace Go.Sh
open Go Go.Fw Go.Proofs
set_option maxRecDepth 100000
set_option linter.unusedVariables false
def bA (n : Nat) (g : Nat → Bool) : List Value := (List.range n).map fun j => .bool (g j)
def PolB (w : World) (b n : Nat) (g : Nat → Bool) : Prop := ∃ f, Blk w b n f ∧ ∀ j, j < n → f j = .bool (g j)
section
variable {w : World} {b n : Nat} {g : Nat → Bool} {K : Value → World → Prop}
theorem PolB.fr {L : List Nat} {w' : World} (h : PolB w b n g) (hf : Fr L w w') (hn : b ∉ L) : PolB w' b n g := by obtain ⟨f, hB, r⟩ := h; exact ⟨f, hB.fr hf hn, r⟩
theorem PolB.fr0 {w' : World} (h : PolB w b n g) (hf : Fr [] w w') : PolB w' b n g := h.fr hf (by simp)
theorem PolB.lt (h : PolB w b n g) : b < w.heap.size := by obtain ⟨f, hB, _⟩ := h; exact hB.lt
theorem PolB.blk (h : PolB w b n g) : ∃ f, Blk w b n f := by obtain ⟨f, hB, _⟩ := h; exact ⟨f, hB⟩
theorem PolB.congr {g' : Nat → Bool} (h : PolB w b n g) (hg : ∀ j, j < n → g j = g' j) : PolB w b n g' := by obtain ⟨f, hB, r⟩ := h; exact ⟨f, hB, fun j hj => by rw [r j hj, hg j hj]⟩
theorem PolB.get (h : PolB w b n g) {i : Nat} (hi : i < n) : Ld Try.prog T_bool (.pointer (some ⟨b, i, none⟩)) w (.bool (g i)) := by
  obtain ⟨f, hB, hf⟩ := h
  exact Ld.blk (by kernel_rfl) hB hi (hf i hi)
theorem PolB.set (h : PolB w b n g) {i : Nat} {v : Bool} (hi : i < n) {K : World → Prop} (hk : ∀ w', Fr [b] w w' → PolB w' b n (fun j => if j = i then v else g j) → w'.heap.size = w.heap.size → K w') :
    ∃ w', Sto Try.prog T_bool (.pointer (some ⟨b, i, none⟩)) (.bool v) w w' ∧ K w' := by
  obtain ⟨f, hB, hf⟩ := h
  refine Sto.blk (by kernel_rfl) hB hi rfl rfl fun w' f' hB' s => hk w' f' ⟨_, hB', fun j hj => ?_⟩ s
  show _ = Value.bool (if j = i then v else g j)
  by_cases hji : j = i
  · rw [hji, upd_same, if_pos rfl]
  · rw [upd_ne _ _ _ hji, if_neg hji, hf j hj]
theorem tdivN (i m : Nat) : Int.tdiv (i : Int) (m : Int) = ((i / m : Nat) : Int) := rfl
theorem ix8 {i : Nat} (hi : i < 128) : IntKind.i64.wrap (Int.tdiv (i : Int) 8) = ((i / 8 : Nat) : Int) := by
  rw [show (8 : Int) = ((8 : Nat) : Int) from rfl, tdivN, wrap64 (by omega) (by omega)]
end
end Go.Sh
end

section
namespace Go.Sh
open Go Go.Fw Go.Proofs
set_option maxRecDepth 100000
set_option linter.unusedVariables false
def bcells : List Nat → List Value
  | [] => []
  | e :: l => bA 128 (cf e) ++ bcells l
def PE (w : World) (p : Option Addr) (l c : Nat) (es : List Nat) (lo : Nat) : Prop := OwnN 128 w p l c (bcells es) ∧ l = es.length ∧ ∀ k ∈ blks p, lo ≤ k
section
variable {w : World} {b n : Nat} {K : Value → World → Prop}
theorem PE.fr {p : Option Addr} {l c lo : Nat} {es : List Nat} {w' : World} {L : List Nat} (h : PE w p l c es lo) (f : Fr L w w') (hL : ∀ k ∈ L, k < lo) : PE w' p l c es lo := ⟨h.1.fr f fun k hk hm => by have := hL k hm; have := h.2.2 k hk; omega, h.2⟩
theorem PE.fr0 {p : Option Addr} {l c lo : Nat} {es : List Nat} {w' : World} (h : PE w p l c es lo) (f : Fr [] w w') : PE w' p l c es lo := ⟨h.1.fr0 f, h.2⟩
theorem PE.mono {p : Option Addr} {l c lo lo' : Nat} {es : List Nat} (h : PE w p l c es lo) (hl : lo' ≤ lo) : PE w p l c es lo' := ⟨h.1, h.2.1, fun k hk => Nat.le_trans hl (h.2.2 k hk)⟩
theorem PE.row {p : Option Addr} {l c lo : Nat} {es : List Nat} (h : PE w p l c es lo) : Row w p (bcells es) := h.1.row
end
end Go.Sh
end
