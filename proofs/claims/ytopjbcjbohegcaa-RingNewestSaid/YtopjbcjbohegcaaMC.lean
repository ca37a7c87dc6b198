/- A part of a proof of a given law of this program: lemmas, printed forms of its functions, contracts. It has no conditions of its own. -/
import Derived.Test.YtopjbcjbohegcaaMA
import Derived.Test.YtopjbcjbohegcaaMFw2
import Derived.Test.YtopjbcjbohegcaaMSh
import Derived.Test.YtopjbcjbohegcaaMSh2

section
namespace Go.Sh
open Go Go.Fw Go.Proofs
set_option maxRecDepth 100000
set_option linter.unusedVariables false
def numL (xs : List UInt8) : Nat := xs.foldl (fun n x => n * 256 + x.toNat) 0
theorem numL_snoc (xs : List UInt8) (x : UInt8) : numL (xs ++ [x]) = numL xs * 256 + x.toNat := by simp [numL]
theorem numL_lt (xs : List UInt8) : numL xs < 256 ^ xs.length := by
  have key : ∀ (l : List UInt8) (n m : Nat), n < 256 ^ m → l.foldl (fun n x => n * 256 + x.toNat) n < 256 ^ (m + l.length) := by
    intro l
    induction l with
    | nil => intro n m h; exact h
    | cons x l ih =>
      intro n m h
      have hx := x.toNat_lt
      have h2 : n * 256 + x.toNat < 256 ^ (m + 1) := by rw [Nat.pow_succ]; omega
      have := ih _ _ h2
      simp only [List.foldl_cons, List.length_cons]
      rwa [show m + (l.length + 1) = m + 1 + l.length by omega]
  have := key xs 0 0 (by decide)
  rwa [Nat.zero_add] at this
end Go.Sh
end

section
namespace Go.Sh
open Go Go.Fw Go.Proofs
set_option maxRecDepth 100000
set_option linter.unusedVariables false
theorem ioru64 (a b : Nat) (ha : a < 18446744073709551616) (hb : b < 18446744073709551616) : ior .u64 (a : Int) (b : Int) = ((a ||| b : Nat) : Int) := by
  have e1 : (UInt64.ofNat a).toNat = a := by simp; omega
  have e2 : (UInt64.ofNat b).toNat = b := by simp; omega
  have := or64 (UInt64.ofNat a) (UInt64.ofNat b)
  rw [UInt64.toNat_or, e1, e2] at this
  exact this
theorem or_add {a b : Nat} (hb : b < 256) : (a * 256) ||| b = a * 256 + b := by
  have := Nat.shiftLeft_add_eq_or_of_lt (i := 8) (b := b) (by omega) a
  rw [Nat.shiftLeft_eq] at this
  exact this.symm
theorem numL_take (xs : List UInt8) {i : Nat} (h : i < xs.length) : numL (xs.take (i + 1)) = numL (xs.take i) * 256 + (fl xs i).toNat := by
  rw [take_snoc xs h, numL_snoc]
theorem Num_c {w : World} {p : Option Addr} {l c : Nat} {xs : List UInt8} (hx : Row w p (xs.map vb)) (hl : l = xs.length) (h8 : l ≤ 8) {K : Value → World → Prop} (h : K (.tuple #[.int .u64 (numL xs : Int), .int .i64 0]) w) : callF Try.prog F_octet_Num #[.slice p l c] w K := by
  apply octet_Num_call
  unfold octet_Num
  refine cond_d (fun h1 => by omega) fun _ => ?_
  refine LoopS.ind (fun k us w' => w' = w ∧ ∃ i : Nat, i + k = l ∧ us = [.int .u64 0, .int .i64 0, .int .u64 (numL (xs.take i) : Int), .slice p l c, .int .i64 (l : Int), .int .i64 (i : Int)]) l ⟨rfl, 0, by omega, rfl⟩ ?_
  rintro k us r w1 I μ hgo ⟨rfl, i, hi, rfl⟩
  refine ⟨_, _, _, _, _, _, _, _, rfl, cond_d (fun h1 => ?_) (fun h1 => ?_)⟩
  · have hil : i < l := by omega
    obtain ⟨a, ha, hca⟩ := row_get (t := T_S_uint8) (by kernel_rfl) hx (c := c) hl hil (k := .i64)
    refine ⟨a, ha, _, Ld.cell (by kernel_rfl) hca, ?_⟩
    have hb := (xs.getD i 0).toNat_lt
    have h1 := numL_lt (xs.take i)
    have h2 : (xs.take i).length ≤ 7 := by rw [List.length_take]; omega
    have h3 : 256 ^ (xs.take i).length ≤ 256 ^ 7 := Nat.pow_le_pow_right (by omega) h2
    have h4 : numL (xs.take i) < 72057594037927936 := Nat.lt_of_lt_of_le h1 h3
    have e1 : IntKind.u64.wrap ((numL (xs.take i) : Int) * 2 ^ 8) = ((numL (xs.take i) * 256 : Nat) : Int) := by
      have : ((numL (xs.take i) : Int) * 2 ^ 8) = ((numL (xs.take i) * 256 : Nat) : Int) := by omega
      rw [this]; exact wrapu64 (by omega) (by omega)
    rw [e1, wrapu64 (n := ((xs.getD i 0).toNat : Int)) (by omega) (by omega), ioru64 _ _ (by omega) (by omega), or_add hb, wrap64 (by omega) (by omega)]
    refine hgo _ _ _ (k - 1) (by omega) ⟨rfl, i + 1, by omega, ?_⟩
    rw [numL_take xs (by omega)]; rfl
  · have hil : i = l := by omega
    subst hil
    rw [List.take_of_length_le (by omega)]
    exact h
end Go.Sh
end

section
namespace Go.Sh
open Go Go.Fw Go.Proofs
set_option maxRecDepth 100000
set_option linter.unusedVariables false
theorem Row.takeB {w : World} {p : Option Addr} {xs : List UInt8} (h : Row w p (xs.map vb)) (n : Nat) : Row w p ((xs.take n).map vb) := by rw [List.map_take]; exact h.take n
theorem Row.partB {w : World} {p : Option Addr} {xs : List UInt8} (h : Row w p (xs.map vb)) {c l : Nat} (hc : xs.length ≤ c) : Row w (Go.Fw.partAt p c l 1) ((xs.drop l).map vb) := by rw [List.map_drop]; exact h.part (by simpa using hc)
theorem Row.front {w : World} {p : Option Addr} {xs : List UInt8} (h : Row w p (xs.map vb)) (c n : Nat) : Row w (Go.Fw.partAt p c 0 1) ((xs.take n).map vb) := by
  unfold Go.Fw.partAt
  split
  · exact Row.takeB h n
  · cases p with
    | none => exact Row.takeB h n
    | some a => exact Row.takeB h n
end Go.Sh
end

section
namespace Go.Sh
open Go Go.Fw Go.Proofs
set_option maxRecDepth 100000
set_option linter.unusedVariables false
theorem OB.part {w : World} {p : Option Addr} {l c : Nat} {xs : List UInt8} {lo : Nat} (h : OB w p l c xs lo) {a b : Nat} (h1 : a ≤ b) (h2 : b ≤ l) : OB w (Go.Fw.partAt p c a 1) (b - a) (c - a) ((xs.take b).drop a) lo := by
  have := h.1.part h1 h2
  rw [← List.map_take, ← List.map_drop] at this
  have hl := h.2.1
  exact ⟨this, by simp; omega, fun k hk => h.2.2 k (partAt_blks k hk)⟩
end Go.Sh
end

section
namespace Go.Sh
open Go Go.Fw Go.Proofs
set_option maxRecDepth 100000
set_option linter.unusedVariables false
def f06 : List UInt8 := [1, 2, 3, 4, 5, 6, 7, 8, 9, 10, 11, 12, 255, 255, 255, 255]
end Go.Sh
end
