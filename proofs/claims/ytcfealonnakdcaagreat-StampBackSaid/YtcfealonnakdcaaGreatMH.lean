/- A part of a proof of a given law of this program: lemmas, printed forms of its functions, contracts. It has no conditions of its own. -/
import Derived.Test.YtcfealonnakdcaaGreatMC
import Derived.Test.YtcfealonnakdcaaGreatMA
import Derived.Test.YtcfealonnakdcaaGreatMFw2

section
namespace Go.Sh
open Go Go.Fw Go.Proofs
set_option maxRecDepth 100000
set_option linter.unusedVariables false
def hsz (n : Nat) : Nat := n - n / 2
theorem fl_ext {xs ys : List UInt8} (hl : xs.length = ys.length) (h : ∀ j, j < xs.length → fl xs j = fl ys j) : xs = ys := list_eq_of hl h
end Go.Sh
end

section
namespace Go.Sh
open Go Go.Fw Go.Proofs
set_option maxRecDepth 100000
set_option linter.unusedVariables false
def fitN (n : Int) (rs : List (List UInt8)) : Prop := 2 ≤ n ∧ n ≤ 28 ∧ ∀ r ∈ rs, r.length = hsz n.toNat
instance (n : Int) (rs : List (List UInt8)) : Decidable (fitN n rs) := by unfold fitN; exact inferInstance
end Go.Sh
end

section
namespace Go.Sh
open Go Go.Fw Go.Proofs
set_option maxRecDepth 100000
set_option linter.unusedVariables false
theorem rowB1 {w : World} {v : Value} {r : List UInt8} (hv : ByS w v r) {K : Option Addr → Nat → Nat → World → Prop} (hr : (Instr.buildSlice T_S_S_uint8 1 #[(0, v)]).run Tryz.prog w = .ok (.slice (some ⟨w.heap.size, 0, none⟩) 1 1) (w.alloc (.cells ([v] : List Value).toArray T_S_uint8)))
    (h : ∀ p w', Fr [] w w' → RowB w' p [r] → w'.heap.size = w.heap.size + 1 → K p 1 1 w') : ∃ p l c w', Ef Tryz.prog (Instr.buildSlice T_S_S_uint8 1 #[(0, v)]) w (.slice p l c) w' ∧ K p l c w' :=
  ⟨_, _, _, Ef.new hr fun w' f hB s => h _ w' f (RowB.of1 hB.rowL (hv.fr0 f)) s⟩
end Go.Sh
end

section
namespace Go.Sh
open Go Go.Fw Go.Proofs
set_option maxRecDepth 100000
set_option linter.unusedVariables false
theorem blks_partAt {p : Option Addr} {c a s : Nat} : ∀ z ∈ blks (Go.Fw.partAt p c a s), z ∈ blks p := by
  intro z hz
  unfold Go.Fw.partAt at hz
  split at hz
  · exact hz
  · cases p with
    | none => exact hz
    | some b =>
      have e : (b.add (a * s)).block = b.block := by unfold Addr.add; split <;> rfl
      simp only [Option.map, blks, List.mem_singleton, e] at hz ⊢
      exact hz
theorem slTo {w : World} {p : Option Addr} {l c : Nat} {xs : List UInt8} (hR : Row w p (xs.map vb)) (hl : l = xs.length) {n : Nat} (hn : n ≤ l) (hc : l ≤ c) {K : Option Addr → Nat → Nat → Prop}
    (h : ∀ q d, Row w q ((xs.take n).map vb) → n = (xs.take n).length → n ≤ d → (∀ z ∈ blks q, z ∈ blks p) → K q n d) :
    ∃ q m d, Pu Tryz.prog (Instr.sliceAt T_S_uint8 (.slice p l c) none (some (.int .i64 (n : Int))) none) (.slice q m d) ∧ K q m d := by
  refine ⟨_, _, _, PuSl (s := 1) (kl := .i64) (kh := .i64) (lo := none) (hi := some (n : Int)) (by kernel_rfl) (by show (0 : Int) ≤ 0; omega) (by show (0 : Int) ≤ (n : Int); omega) (by show (n : Int) ≤ (c : Int); omega), ?_⟩
  have e3 : (Option.getD (some (n : Int)) (l : Int)).toNat - (Option.getD (none : Option Int) 0).toNat = n := by show ((n : Int)).toNat - 0 = n; omega
  rw [e3]
  refine h _ _ (Row.front hR c n) (by rw [List.length_take]; omega) ?_ blks_partAt
  show n ≤ c - 0
  omega
theorem slFrom {w : World} {p : Option Addr} {l c : Nat} {xs : List UInt8} (hR : Row w p (xs.map vb)) (hl : l = xs.length) {n : Nat} (hn : n ≤ l) (hc : l ≤ c) {K : Option Addr → Nat → Nat → Prop}
    (h : ∀ q d, Row w q ((xs.drop n).map vb) → l - n = (xs.drop n).length → l - n ≤ d → (∀ z ∈ blks q, z ∈ blks p) → K q (l - n) d) :
    ∃ q m d, Pu Tryz.prog (Instr.sliceAt T_S_uint8 (.slice p l c) (some (.int .i64 (n : Int))) none none) (.slice q m d) ∧ K q m d := by
  refine ⟨_, _, _, PuSl (s := 1) (kl := .i64) (kh := .i64) (lo := some (n : Int)) (hi := none) (by kernel_rfl) (by show (0 : Int) ≤ (n : Int); omega) (by show (n : Int) ≤ (l : Int); omega) (by show (l : Int) ≤ (c : Int); omega), ?_⟩
  have e3 : (Option.getD (none : Option Int) (l : Int)).toNat - (Option.getD (some (n : Int)) 0).toNat = l - n := by show ((l : Int)).toNat - ((n : Int)).toNat = l - n; omega
  rw [e3]
  have e5 : (Option.getD (some (n : Int)) 0).toNat = n := by show ((n : Int)).toNat = n; omega
  rw [e5]
  exact h _ _ (Row.partB hR (by omega)) (by rw [List.length_drop]; omega) (by omega) blks_partAt
theorem slMid {w : World} {p : Option Addr} {l c : Nat} {xs : List UInt8} (hR : Row w p (xs.map vb)) (hl : l = xs.length) {a b : Nat} (hab : a ≤ b) (hn : b ≤ l) (hc : l ≤ c) {K : Option Addr → Nat → Nat → Prop}
    (h : ∀ q d, Row w q (((xs.take b).drop a).map vb) → b - a = ((xs.take b).drop a).length → b - a ≤ d → (∀ z ∈ blks q, z ∈ blks p) → K q (b - a) d) :
    ∃ q m d, Pu Tryz.prog (Instr.sliceAt T_S_uint8 (.slice p l c) (some (.int .i64 (a : Int))) (some (.int .i64 (b : Int))) none) (.slice q m d) ∧ K q m d := by
  refine ⟨_, _, _, PuSl (s := 1) (kl := .i64) (kh := .i64) (lo := some (a : Int)) (hi := some (b : Int)) (by kernel_rfl) (by show (0 : Int) ≤ (a : Int); omega) (by show (a : Int) ≤ (b : Int); omega) (by show (b : Int) ≤ (c : Int); omega), ?_⟩
  have e3 : (Option.getD (some (b : Int)) (l : Int)).toNat - (Option.getD (some (a : Int)) 0).toNat = b - a := by show ((b : Int)).toNat - ((a : Int)).toNat = b - a; omega
  rw [e3]
  have e5 : (Option.getD (some (a : Int)) 0).toNat = a := by show ((a : Int)).toNat = a; omega
  rw [e5]
  refine h _ _ ?_ (by rw [List.length_drop, List.length_take]; omega) (by omega) blks_partAt
  exact Row.partB (Row.takeB hR b) (by rw [List.length_take]; omega)
end Go.Sh
end
