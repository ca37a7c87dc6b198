/- A part of a proof of a given law of this program: lemmas, printed forms of its functions, contracts. It has no conditions of its own. -/
import Derived.Test.YtopjbcjbohegcaaGreatMA
import Derived.Test.YtopjbcjbohegcaaGreatMFw2
import Derived.Test.YtopjbcjbohegcaaGreatMSh
import Derived.Test.YtopjbcjbohegcaaGreatMSh2

section
namespace Go.Sh
open Go Go.Fw Go.Proofs
set_option maxRecDepth 100000
set_option linter.unusedVariables false
def xorL (xs ys : List UInt8) : List UInt8 := List.zipWith (· ^^^ ·) xs ys
theorem xorL_len {xs ys : List UInt8} (h : xs.length = ys.length) : (xorL xs ys).length = ys.length := by simp [xorL, h]
theorem xorL_getD {xs ys : List UInt8} (h : xs.length = ys.length) {i : Nat} (hi : i < ys.length) : (xorL xs ys).getD i 0 = xs.getD i 0 ^^^ ys.getD i 0 := by
  unfold xorL
  simp only [List.getD_eq_getElem?_getD, List.getElem?_zipWith]
  rw [List.getElem?_eq_getElem hi, List.getElem?_eq_getElem (by omega)]
  rfl
end Go.Sh
end

section
namespace Go.Sh
open Go Go.Fw Go.Proofs
set_option maxRecDepth 100000
set_option linter.unusedVariables false
theorem byS {w : World} {q : Option Addr} {n c : Nat} {r : List UInt8} (hR : Row w q (r.map vb)) (hn : n = r.length) (hc : n ≤ c) : ByS w (.slice q n c) r := by subst hn; exact ⟨q, c, rfl, hc, hR⟩
theorem OB.byS {w : World} {p : Option Addr} {l c : Nat} {xs : List UInt8} {lo : Nat} (h : OB w p l c xs lo) : ByS w (.slice p l c) xs := Go.Sh.byS h.row h.2.1 h.cap
theorem RowB.of1 {w : World} {p : Option Addr} {v1 : Value} {r1 : List UInt8} (h : Row w p [v1]) (h1 : ByS w v1 r1) : RowB w p [r1] := ⟨[v1], h, rfl, fun j r hj => by
  match j, hj with
  | 0, hj => obtain rfl : r1 = r := by simpa using hj
             exact ⟨v1, rfl, h1⟩⟩
theorem RowB.of2 {w : World} {p : Option Addr} {v1 v2 : Value} {r1 r2 : List UInt8} (h : Row w p [v1, v2]) (h1 : ByS w v1 r1) (h2 : ByS w v2 r2) : RowB w p [r1, r2] := ⟨[v1, v2], h, rfl, fun j r hj => by
  match j, hj with
  | 0, hj => obtain rfl : r1 = r := by simpa using hj
             exact ⟨v1, rfl, h1⟩
  | 1, hj => obtain rfl : r2 = r := by simpa using hj
             exact ⟨v2, rfl, h2⟩⟩
theorem RowB.of3 {w : World} {p : Option Addr} {v1 v2 v3 : Value} {r1 r2 r3 : List UInt8} (h : Row w p [v1, v2, v3]) (h1 : ByS w v1 r1) (h2 : ByS w v2 r2) (h3 : ByS w v3 r3) : RowB w p [r1, r2, r3] := ⟨[v1, v2, v3], h, rfl, fun j r hj => by
  match j, hj with
  | 0, hj => obtain rfl : r1 = r := by simpa using hj
             exact ⟨v1, rfl, h1⟩
  | 1, hj => obtain rfl : r2 = r := by simpa using hj
             exact ⟨v2, rfl, h2⟩
  | 2, hj => obtain rfl : r3 = r := by simpa using hj
             exact ⟨v3, rfl, h3⟩⟩
theorem Grow_c {w : World} {n : Nat} (hn : n ≤ 1073741824) {K : Value → World → Prop} (h : ∀ q c w', Fr [] w w' → OB w' q 0 c [] w.heap.size → K (.slice q 0 c) w') : callF Tryz.prog F_slices_Grow_byte_byte #[.slice none 0 0, .int .i64 (n : Int)] w K := by
  apply slices_Grow_byte_byte_call
  unfold slices_Grow_byte_byte
  refine cond_d (fun h1 => by omega) fun _ => ?_
  unfold slices_Grow_byte_byte_j1
  refine ⟨0, by unfold Pu; kernel_rfl, ?_⟩
  have e0 : IntKind.i64.wrap ((0 : Int) - ((0 : Nat) : Int)) = 0 := rfl
  rw [e0, Int.sub_zero, wrap64 (by omega) (by omega)]
  refine cond_d (fun h1 => ?_) (fun h1 => h none 0 w (Fr.refl _ _) (OB.nil _ _))
  refine ⟨0, by unfold Pu; kernel_rfl, none, 0, 0, by unfold Pu; kernel_rfl, ?_⟩
  obtain ⟨c', w', he, hge, hf, ⟨f, hB⟩, hs⟩ := Ef.appendZ (P := Tryz.prog) (t := T_S_uint8) (ti := T_int) (ty := T_S_uint8) (by kernel_rfl) (by kernel_rfl) (w := w) (n := n) (by omega) hn
  refine ⟨_, _, _, _, he, ?_⟩
  refine ⟨_, _, _, PuSl (s := 1) (kl := .i64) (kh := .i64) (lo := none) (hi := some 0) (by kernel_rfl) (by simp) (by simp) (by simp), ?_⟩
  have hc0 : c' ≠ 0 := by omega
  simp only [Option.getD]
  rw [partAt_some (by simpa using hc0)]
  exact h _ c' w' hf ⟨⟨rfl, .inr ⟨_, 0, c', f, rfl, hB, by omega, by omega, by simp⟩⟩, rfl, by simp [blks]⟩
theorem flat_take (rs : List (List UInt8)) {i : Nat} (h : i < rs.length) : (rs.take (i + 1)).flatten = (rs.take i).flatten ++ rs.getD i [] := by
  rw [List.take_add_one, List.getElem?_eq_getElem h, List.flatten_append, List.getD_eq_getElem?_getD, List.getElem?_eq_getElem h]
  simp
theorem flat_le (rs : List (List UInt8)) (i : Nat) : (rs.take i).flatten.length ≤ rs.flatten.length := by
  have h : rs.flatten = (rs.take i).flatten ++ (rs.drop i).flatten := by rw [← List.flatten_append, List.take_append_drop]
  rw [h, List.length_append]; omega
theorem Concat_c {w : World} {p : Option Addr} {l c : Nat} {rs : List (List UInt8)} (hR : RowB w p rs) (hl : l = rs.length) (hb : rs.flatten.length ≤ 1000000000) (hl2 : l ≤ 1000000000) {K : Value → World → Prop}
    (h : ∀ q d w', Fr [] w w' → OB w' q rs.flatten.length d rs.flatten w.heap.size → K (.slice q rs.flatten.length d) w') : callF Tryz.prog F_slices_Concat_byte_byte #[.slice p l c] w K := by
  apply slices_Concat_byte_byte_call
  unfold slices_Concat_byte_byte
  refine LoopS.ind (fun k us w' => w' = w ∧ ∃ i : Nat, i + k = l ∧ us = [.slice p l c, .slice none 0 0, .int .i64 ((rs.take i).flatten.length : Int), .slice p l c, .int .i64 (l : Int), .int .i64 (i : Int)]) l ⟨rfl, 0, by omega, rfl⟩ ?_
  rintro k us r w1 I μ hgo ⟨rfl, i, hi, rfl⟩
  refine ⟨_, _, _, _, _, _, _, _, _, _, _, _, rfl, cond_d (fun h1 => ?_) (fun h1 => ?_)⟩
  · have hil : i < l := by omega
    obtain ⟨a, q, d, ha, hca, hq, _⟩ := rows_get (t := T_S_S_uint8) (by kernel_rfl) hR (c := c) hl hil (k := .i64)
    refine ⟨a, ha, _, _, _, Ld.cell (by kernel_rfl) hca, ?_⟩
    have e := congrArg List.length (flat_take rs (i := i) (by omega))
    rw [List.length_append] at e
    have := flat_le rs (i + 1)
    rw [wrap64 (n := ((rs.take i).flatten.length : Int) + _) (by omega) (by omega)]
    refine cond_d (fun h2 => by omega) fun _ => ?_
    rw [wrap64 (by omega) (by omega)]
    refine hgo _ _ _ (k - 1) (by omega) ⟨rfl, i + 1, by omega, ?_⟩
    rw [e]; rfl
  · have hil : i = l := by omega
    subst hil
    rw [List.take_of_length_le (by omega)]
    unfold slices_Concat_byte_byte_j1
    refine Grow_c (by omega) fun q d w2 f2 hO2 => ⟨_, _, _, rfl, ?_⟩
    refine LoopS.ind (fun k us w' => ∃ (j : Nat) (q : Option Addr) (d : Nat), j + k = i ∧ us = [.slice none 0 0, .slice q (rs.take j).flatten.length d, .slice p i c, .int .i64 (i : Int), .int .i64 (j : Int)] ∧ Fr [] w1 w' ∧ OB w' q (rs.take j).flatten.length d (rs.take j).flatten w1.heap.size) i
      ⟨0, q, d, by omega, rfl, f2, hO2⟩ ?_
    rintro k us r w3 I2 μ2 hgo2 ⟨j, q, d, hj, rfl, f3, hO3⟩
    refine ⟨_, _, _, _, _, _, _, _, _, _, _, rfl, cond_d (fun h2 => ?_) (fun h2 => ?_)⟩
    · have hjl : j < i := by omega
      obtain ⟨a, q1, d1, ha, hca, hq1, _⟩ := rows_get (t := T_S_S_uint8) (by kernel_rfl) (hR.fr0 f3) (c := c) hl hjl (k := .i64)
      refine ⟨a, ha, _, _, _, Ld.cell (by kernel_rfl) hca, ?_⟩
      have e := flat_take rs (i := j) (by omega)
      have e2 := congrArg List.length e
      rw [List.length_append] at e2
      have := flat_le rs (j + 1)
      refine pushN hO3 f3.size hq1 rfl (by omega) fun p' c' w4 f4 hO4 => ?_
      rw [wrap64 (by omega) (by omega)]
      refine hgo2 _ _ _ (k - 1) (by omega) ⟨j + 1, p', c', by omega, by rw [e2]; rfl, hO3.news f3 f4 (Nat.le_refl _), ?_⟩
      rw [← e2, ← e] at hO4
      exact hO4
    · have hjl : j = i := by omega
      subst hjl
      rw [List.take_of_length_le (by omega)] at hO3 ⊢
      exact h q d w3 f3 hO3
theorem Join_c {w : World} {p : Option Addr} {l c : Nat} {rs : List (List UInt8)} (hR : RowB w p rs) (hl : l = rs.length) (hb : rs.flatten.length ≤ 1000000000) (hl2 : l ≤ 1000000000) {K : Value → World → Prop}
    (h : ∀ q d w', Fr [] w w' → OB w' q rs.flatten.length d rs.flatten w.heap.size → K (.slice q rs.flatten.length d) w') : callF Tryz.prog F_octet_Join #[.slice p l c] w K := by
  apply octet_Join_call
  unfold octet_Join
  exact Concat_c hR hl hb hl2 fun q d w' f hO => ⟨_, _, _, rfl, h q d w' f hO⟩
end Go.Sh
end

section
namespace Go.Sh
open Go Go.Fw Go.Proofs
set_option maxRecDepth 100000
set_option linter.unusedVariables false
theorem Xor_c {w : World} {p q : Option Addr} {l c m d : Nat} {xs ys : List UInt8} (hx : Row w p (xs.map vb)) (hl : l = xs.length) (hy : Row w q (ys.map vb)) (hm : m = ys.length) (hlm : xs.length = ys.length) (hlen : l ≤ 1000000000) {K : Value → World → Prop}
    (h : ∀ p' c' w', Fr [] w w' → OB w' p' l c' (xorL xs ys) w.heap.size → K (.tuple #[.slice p' l c', .int .i64 0]) w') : callF Tryz.prog F_octet_Xor #[.slice p l c, .slice q m d] w K := by
  apply octet_Xor_call
  unfold octet_Xor
  refine cond_ne (fun h1 => by omega) fun _ => ?_
  refine mkN (n := l) (c := l) (k := .i64) (k' := .i64) (Nat.le_refl _) (by omega) fun p0 w1 f1 hO1 s1 => ?_
  refine LoopS.ind (fun k us w' => ∃ (i : Nat) (zs : List UInt8), i + k = l ∧ us = [.slice p l c, .slice q m d, .slice none 0 0, .int .i64 0, .slice p0 l l, .int .i64 (l : Int), .int .i64 (i : Int)] ∧ Fr [] w w' ∧ OB w' p0 l l zs w.heap.size ∧ ∀ j, j < i → fl zs j = fl xs j ^^^ fl ys j) l
    ⟨0, _, by omega, rfl, f1, hO1, by omega⟩ ?_
  rintro k us r w2 I μ hgo ⟨i, zs, hi, rfl, f2, hO2, hz⟩
  refine ⟨_, _, _, _, _, _, _, _, _, _, _, _, _, _, _, rfl, cond_d (fun h1 => ?_) (fun h1 => ?_)⟩
  · have hil : i < l := by omega
    obtain ⟨a, ha, hca⟩ := row_get (t := T_S_uint8) (by kernel_rfl) (hx.fr0 f2) (c := c) hl hil (k := .i64)
    obtain ⟨b, hb, hcb⟩ := row_get (t := T_S_uint8) (by kernel_rfl) (hy.fr0 f2) (c := d) hm (i := i) (by omega) (k := .i64)
    refine ⟨fun w' => w'.cell? a = some (vb (xs.getD i 0)), Drw.intro fun w3 f3 s3 => ?_⟩
    refine ⟨a, ha, b, hb, _, ⟨f3.cell hca (by simp), fun w' hw' => Ld.cell (by kernel_rfl) hw'⟩, _, Ld.cell (by kernel_rfl) (f3.cell hcb (by simp)), .inl rfl, ?_⟩
    rw [xor8]
    have hzl := hO2.2.1
    refine (hO2.fr0 f3).sto hil fun w4 f4 hO4 s4 => ?_
    rw [wrap64 (by omega) (by omega)]
    refine hgo _ _ _ (k - 1) (by omega) ⟨i + 1, _, by omega, rfl, (hO2.fr0 f3).news (f2.then f3) f4 (Nat.le_refl _), hO4, fun j hj => ?_⟩
    rw [fl_set (by omega)]
    by_cases hji : j = i
    · subst hji; rw [if_pos rfl]; rfl
    · rw [if_neg hji]; exact hz j (by omega)
  · have hil : i = l := by omega
    subst hil
    have e : zs = xorL xs ys := list_eq_of (by rw [xorL_len hlm, ← hO2.2.1]; omega) fun j hj => by
      rw [xorL_getD hlm (by have := hO2.2.1; omega)]
      exact hz j (by have := hO2.2.1; omega)
    rw [e] at hO2
    exact h p0 i w2 f2 hO2
end Go.Sh
end

section
namespace Go.Sh
open Go Go.Fw Go.Proofs
set_option maxRecDepth 100000
set_option linter.unusedVariables false
theorem Row.takeB {w : World} {p : Option Addr} {xs : List UInt8} (h : Row w p (xs.map vb)) (n : Nat) : Row w p ((xs.take n).map vb) := by rw [List.map_take]; exact h.take n
theorem Row.partB {w : World} {p : Option Addr} {xs : List UInt8} (h : Row w p (xs.map vb)) {c l : Nat} (hc : xs.length ≤ c) : Row w (Go.Fw.partAt p c l 1) ((xs.drop l).map vb) := by rw [List.map_drop]; exact h.part (by simpa using hc)
theorem Row.front {w : World} {p : Option Addr} {xs : List UInt8} (h : Row w p (xs.map vb)) (c n : Nat) : Row w (Go.Fw.partAt p c 0 1) ((xs.take n).map vb) := by
  unfold Go.Fw.partAt
  split
  · exact Row.takeB h n
  · cases p with
    | none => exact Row.takeB h n
    | some a => exact Row.takeB h n
end Go.Sh
end

section
namespace Go.Sh
open Go Go.Fw Go.Proofs
set_option maxRecDepth 100000
set_option linter.unusedVariables false
theorem OB.part {w : World} {p : Option Addr} {l c : Nat} {xs : List UInt8} {lo : Nat} (h : OB w p l c xs lo) {a b : Nat} (h1 : a ≤ b) (h2 : b ≤ l) : OB w (Go.Fw.partAt p c a 1) (b - a) (c - a) ((xs.take b).drop a) lo := by
  have := h.1.part h1 h2
  rw [← List.map_take, ← List.map_drop] at this
  have hl := h.2.1
  exact ⟨this, by simp; omega, fun k hk => h.2.2 k (partAt_blks k hk)⟩
end Go.Sh
end
