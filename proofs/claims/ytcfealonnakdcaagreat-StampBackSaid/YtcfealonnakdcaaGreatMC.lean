/- A part of a proof of a given law of this program: lemmas, printed forms of its functions, contracts. It has no conditions of its own. -/
import Derived.Test.YtcfealonnakdcaaGreatMA
import Derived.Test.YtcfealonnakdcaaGreatMFw2
import Derived.Test.YtcfealonnakdcaaGreatMSh
import Derived.Test.YtcfealonnakdcaaGreatMSh2

section
namespace Go.Sh
open Go Go.Fw Go.Proofs
set_option maxRecDepth 100000
set_option linter.unusedVariables false
def numL (xs : List UInt8) : Nat := xs.foldl (fun n x => n * 256 + x.toNat) 0
theorem numL_snoc (xs : List UInt8) (x : UInt8) : numL (xs ++ [x]) = numL xs * 256 + x.toNat := by simp [numL]
theorem numL_lt (xs : List UInt8) : numL xs < 256 ^ xs.length := by
  have key : ∀ (l : List UInt8) (n m : Nat), n < 256 ^ m → l.foldl (fun n x => n * 256 + x.toNat) n < 256 ^ (m + l.length) := by
    intro l
    induction l with
    | nil => intro n m h; exact h
    | cons x l ih =>
      intro n m h
      have hx := x.toNat_lt
      have h2 : n * 256 + x.toNat < 256 ^ (m + 1) := by rw [Nat.pow_succ]; omega
      have := ih _ _ h2
      simp only [List.foldl_cons, List.length_cons]
      rwa [show m + (l.length + 1) = m + 1 + l.length by omega]
  have := key xs 0 0 (by decide)
  rwa [Nat.zero_add] at this
def putL (n size : Nat) : List UInt8 := (List.range size).map fun i => UInt8.ofNat (n / 256 ^ (size - 1 - i))
theorem putL_len (n size : Nat) : (putL n size).length = size := by simp [putL]
theorem putL_succ (n size : Nat) : putL n (size + 1) = putL (n / 256) size ++ [UInt8.ofNat n] := by
  unfold putL
  rw [List.range_succ, List.map_append]
  congr 1
  · apply List.map_congr_left
    intro i hi
    have hi : i < size := by simpa using hi
    have e : size + 1 - 1 - i = (size - 1 - i) + 1 := by omega
    rw [e, Nat.pow_succ, Nat.mul_comm, ← Nat.div_div_eq_div_mul]
  · simp
theorem num_put : ∀ (size n : Nat), n < 256 ^ size → numL (putL n size) = n := by
  intro size
  induction size with
  | zero =>
    intro n h
    have h0 : n = 0 := by simpa using h
    subst h0; rfl
  | succ size ih =>
    intro n h
    rw [putL_succ, numL_snoc, ih (n / 256) (by rw [Nat.pow_succ] at h; omega)]
    have : (UInt8.ofNat n).toNat = n % 256 := by simp
    rw [this]; omega
theorem put_num : ∀ (size : Nat) (xs : List UInt8), xs.length = size → putL (numL xs) size = xs := by
  intro size
  induction size with
  | zero => intro xs h; rw [List.length_eq_zero_iff.1 h]; rfl
  | succ size ih =>
    intro xs h
    rcases List.eq_nil_or_concat xs with rfl | ⟨ys, y, rfl⟩
    · simp at h
    · have hl : ys.length = size := by simpa using h
      have hy := y.toNat_lt
      rw [List.concat_eq_append, numL_snoc, putL_succ]
      have e1 : (numL ys * 256 + y.toNat) / 256 = numL ys := by omega
      have e2 : UInt8.ofNat (numL ys * 256 + y.toNat) = y := by
        rw [← UInt8.toNat_inj]; simp
      rw [e1, e2, ih ys hl]
def afterL (b : List UInt8) (n : Nat) : List UInt8 := b.take 12 ++ putL ((numL (b.drop 12) + n) % 4294967296) 4
theorem afterL_len {b : List UInt8} (n : Nat) (h : b.length = 16) : (afterL b n).length = 16 := by simp [afterL, putL_len, h]
theorem afterL_drop {b : List UInt8} (n : Nat) (h : b.length = 16) : (afterL b n).drop 12 = putL ((numL (b.drop 12) + n) % 4294967296) 4 := by
  unfold afterL
  rw [List.drop_append_of_le_length (by simp [h]), List.drop_eq_nil_of_le (by simp; omega), List.nil_append]
theorem afterL_take {b : List UInt8} (n : Nat) (h : b.length = 16) : (afterL b n).take 12 = b.take 12 := by
  unfold afterL
  rw [List.take_append_of_le_length (by simp [h]), List.take_of_length_le (by simp; omega)]
theorem afterL_add {b : List UInt8} (m n : Nat) (h : b.length = 16) : afterL (afterL b m) n = afterL b (m + n) := by
  show (afterL b m).take 12 ++ putL ((numL ((afterL b m).drop 12) + n) % 4294967296) 4 = b.take 12 ++ putL ((numL (b.drop 12) + (m + n)) % 4294967296) 4
  rw [afterL_take m h, afterL_drop m h, num_put 4 _ (Nat.mod_lt _ (by decide))]
  congr 2; omega
theorem afterL_zero {b : List UInt8} (h : b.length = 16) : afterL b 0 = b := by
  unfold afterL
  have hl : (b.drop 12).length = 4 := by simp [h]
  have := numL_lt (b.drop 12)
  rw [hl] at this
  rw [Nat.add_zero, Nat.mod_eq_of_lt (by omega), put_num 4 _ hl, List.take_append_drop]
def strB (key b : List UInt8) : Nat → List UInt8
  | 0 => []
  | k + 1 => strB key b k ++ aencL key (afterL b k)
theorem strB_len (key b : List UInt8) (k : Nat) : (strB key b k).length = 16 * k := by
  induction k with
  | zero => rfl
  | succ k ih => simp [strB, ih, aencL_len]; omega
theorem strB_add (key : List UInt8) {b : List UInt8} (h : b.length = 16) (m : Nat) : ∀ k, strB key b (m + k) = strB key b m ++ strB key (afterL b m) k := by
  intro k
  induction k with
  | zero => simp [strB]
  | succ k ih =>
    show strB key b (m + k) ++ aencL key (afterL b (m + k)) = strB key b m ++ (strB key (afterL b m) k ++ aencL key (afterL (afterL b m) k))
    rw [ih, afterL_add m k h, List.append_assoc]
def strL (key b : List UInt8) (n : Nat) : List UInt8 := (strB key b ((n + 15) / 16)).take n
theorem strL_len (key b : List UInt8) (n : Nat) : (strL key b n).length = n := by
  unfold strL; rw [List.length_take, strB_len]; omega
theorem strL_of (key : List UInt8) {b : List UInt8} (h : b.length = 16) {n k : Nat} (hk : n ≤ 16 * k) : (strB key b k).take n = strL key b n := by
  unfold strL
  have hle : (n + 15) / 16 ≤ k := by omega
  obtain ⟨d, rfl⟩ := Nat.exists_eq_add_of_le hle
  rw [strB_add key h, List.take_append_of_le_length (by rw [strB_len]; omega)]
def xorL (xs ys : List UInt8) : List UInt8 := List.zipWith (· ^^^ ·) xs ys
theorem xorL_len {xs ys : List UInt8} (h : xs.length = ys.length) : (xorL xs ys).length = ys.length := by simp [xorL, h]
theorem xorL_getD {xs ys : List UInt8} (h : xs.length = ys.length) {i : Nat} (hi : i < ys.length) : (xorL xs ys).getD i 0 = xs.getD i 0 ^^^ ys.getD i 0 := by
  unfold xorL
  simp only [List.getD_eq_getElem?_getD, List.getElem?_zipWith]
  rw [List.getElem?_eq_getElem hi, List.getElem?_eq_getElem (by omega)]
  rfl
def turnL (key b text : List UInt8) : List UInt8 := xorL (strL key b text.length) text
end Go.Sh
end

section
namespace Go.Sh
open Go Go.Fw Go.Proofs
set_option maxRecDepth 100000
set_option linter.unusedVariables false
theorem byS {w : World} {q : Option Addr} {n c : Nat} {r : List UInt8} (hR : Row w q (r.map vb)) (hn : n = r.length) (hc : n ≤ c) : ByS w (.slice q n c) r := by subst hn; exact ⟨q, c, rfl, hc, hR⟩
theorem OB.byS {w : World} {p : Option Addr} {l c : Nat} {xs : List UInt8} {lo : Nat} (h : OB w p l c xs lo) : ByS w (.slice p l c) xs := Go.Sh.byS h.row h.2.1 h.cap
theorem RowB.of1 {w : World} {p : Option Addr} {v1 : Value} {r1 : List UInt8} (h : Row w p [v1]) (h1 : ByS w v1 r1) : RowB w p [r1] := ⟨[v1], h, rfl, fun j r hj => by
  match j, hj with
  | 0, hj => obtain rfl : r1 = r := by simpa using hj
             exact ⟨v1, rfl, h1⟩⟩
theorem RowB.of2 {w : World} {p : Option Addr} {v1 v2 : Value} {r1 r2 : List UInt8} (h : Row w p [v1, v2]) (h1 : ByS w v1 r1) (h2 : ByS w v2 r2) : RowB w p [r1, r2] := ⟨[v1, v2], h, rfl, fun j r hj => by
  match j, hj with
  | 0, hj => obtain rfl : r1 = r := by simpa using hj
             exact ⟨v1, rfl, h1⟩
  | 1, hj => obtain rfl : r2 = r := by simpa using hj
             exact ⟨v2, rfl, h2⟩⟩
theorem RowB.of3 {w : World} {p : Option Addr} {v1 v2 v3 : Value} {r1 r2 r3 : List UInt8} (h : Row w p [v1, v2, v3]) (h1 : ByS w v1 r1) (h2 : ByS w v2 r2) (h3 : ByS w v3 r3) : RowB w p [r1, r2, r3] := ⟨[v1, v2, v3], h, rfl, fun j r hj => by
  match j, hj with
  | 0, hj => obtain rfl : r1 = r := by simpa using hj
             exact ⟨v1, rfl, h1⟩
  | 1, hj => obtain rfl : r2 = r := by simpa using hj
             exact ⟨v2, rfl, h2⟩
  | 2, hj => obtain rfl : r3 = r := by simpa using hj
             exact ⟨v3, rfl, h3⟩⟩
theorem Grow_c {w : World} {n : Nat} (hn : n ≤ 1073741824) {K : Value → World → Prop} (h : ∀ q c w', Fr [] w w' → OB w' q 0 c [] w.heap.size → K (.slice q 0 c) w') : callF Tryz.prog F_slices_Grow_byte_byte #[.slice none 0 0, .int .i64 (n : Int)] w K := by
  apply slices_Grow_byte_byte_call
  unfold slices_Grow_byte_byte
  refine cond_d (fun h1 => by omega) fun _ => ?_
  unfold slices_Grow_byte_byte_j1
  refine ⟨0, by unfold Pu; kernel_rfl, ?_⟩
  have e0 : IntKind.i64.wrap ((0 : Int) - ((0 : Nat) : Int)) = 0 := rfl
  rw [e0, Int.sub_zero, wrap64 (by omega) (by omega)]
  refine cond_d (fun h1 => ?_) (fun h1 => h none 0 w (Fr.refl _ _) (OB.nil _ _))
  refine ⟨0, by unfold Pu; kernel_rfl, none, 0, 0, by unfold Pu; kernel_rfl, ?_⟩
  obtain ⟨c', w', he, hge, hf, ⟨f, hB⟩, hs⟩ := Ef.appendZ (P := Tryz.prog) (t := T_S_uint8) (ti := T_int) (ty := T_S_uint8) (by kernel_rfl) (by kernel_rfl) (w := w) (n := n) (by omega) hn
  refine ⟨_, _, _, _, he, ?_⟩
  refine ⟨_, _, _, PuSl (s := 1) (kl := .i64) (kh := .i64) (lo := none) (hi := some 0) (by kernel_rfl) (by simp) (by simp) (by simp), ?_⟩
  have hc0 : c' ≠ 0 := by omega
  simp only [Option.getD]
  rw [partAt_some (by simpa using hc0)]
  exact h _ c' w' hf ⟨⟨rfl, .inr ⟨_, 0, c', f, rfl, hB, by omega, by omega, by simp⟩⟩, rfl, by simp [blks]⟩
theorem flat_take (rs : List (List UInt8)) {i : Nat} (h : i < rs.length) : (rs.take (i + 1)).flatten = (rs.take i).flatten ++ rs.getD i [] := by
  rw [List.take_add_one, List.getElem?_eq_getElem h, List.flatten_append, List.getD_eq_getElem?_getD, List.getElem?_eq_getElem h]
  simp
theorem flat_le (rs : List (List UInt8)) (i : Nat) : (rs.take i).flatten.length ≤ rs.flatten.length := by
  have h : rs.flatten = (rs.take i).flatten ++ (rs.drop i).flatten := by rw [← List.flatten_append, List.take_append_drop]
  rw [h, List.length_append]; omega
theorem Concat_c {w : World} {p : Option Addr} {l c : Nat} {rs : List (List UInt8)} (hR : RowB w p rs) (hl : l = rs.length) (hb : rs.flatten.length ≤ 1000000000) (hl2 : l ≤ 1000000000) {K : Value → World → Prop}
    (h : ∀ q d w', Fr [] w w' → OB w' q rs.flatten.length d rs.flatten w.heap.size → K (.slice q rs.flatten.length d) w') : callF Tryz.prog F_slices_Concat_byte_byte #[.slice p l c] w K := by
  apply slices_Concat_byte_byte_call
  unfold slices_Concat_byte_byte
  refine LoopS.ind (fun k us w' => w' = w ∧ ∃ i : Nat, i + k = l ∧ us = [.slice p l c, .slice none 0 0, .int .i64 ((rs.take i).flatten.length : Int), .slice p l c, .int .i64 (l : Int), .int .i64 (i : Int)]) l ⟨rfl, 0, by omega, rfl⟩ ?_
  rintro k us r w1 I μ hgo ⟨rfl, i, hi, rfl⟩
  refine ⟨_, _, _, _, _, _, _, _, _, _, _, _, rfl, cond_d (fun h1 => ?_) (fun h1 => ?_)⟩
  · have hil : i < l := by omega
    obtain ⟨a, q, d, ha, hca, hq, _⟩ := rows_get (t := T_S_S_uint8) (by kernel_rfl) hR (c := c) hl hil (k := .i64)
    refine ⟨a, ha, _, _, _, Ld.cell (by kernel_rfl) hca, ?_⟩
    have e := congrArg List.length (flat_take rs (i := i) (by omega))
    rw [List.length_append] at e
    have := flat_le rs (i + 1)
    rw [wrap64 (n := ((rs.take i).flatten.length : Int) + _) (by omega) (by omega)]
    refine cond_d (fun h2 => by omega) fun _ => ?_
    rw [wrap64 (by omega) (by omega)]
    refine hgo _ _ _ (k - 1) (by omega) ⟨rfl, i + 1, by omega, ?_⟩
    rw [e]; rfl
  · have hil : i = l := by omega
    subst hil
    rw [List.take_of_length_le (by omega)]
    unfold slices_Concat_byte_byte_j1
    refine Grow_c (by omega) fun q d w2 f2 hO2 => ⟨_, _, _, rfl, ?_⟩
    refine LoopS.ind (fun k us w' => ∃ (j : Nat) (q : Option Addr) (d : Nat), j + k = i ∧ us = [.slice none 0 0, .slice q (rs.take j).flatten.length d, .slice p i c, .int .i64 (i : Int), .int .i64 (j : Int)] ∧ Fr [] w1 w' ∧ OB w' q (rs.take j).flatten.length d (rs.take j).flatten w1.heap.size) i
      ⟨0, q, d, by omega, rfl, f2, hO2⟩ ?_
    rintro k us r w3 I2 μ2 hgo2 ⟨j, q, d, hj, rfl, f3, hO3⟩
    refine ⟨_, _, _, _, _, _, _, _, _, _, _, rfl, cond_d (fun h2 => ?_) (fun h2 => ?_)⟩
    · have hjl : j < i := by omega
      obtain ⟨a, q1, d1, ha, hca, hq1, _⟩ := rows_get (t := T_S_S_uint8) (by kernel_rfl) (hR.fr0 f3) (c := c) hl hjl (k := .i64)
      refine ⟨a, ha, _, _, _, Ld.cell (by kernel_rfl) hca, ?_⟩
      have e := flat_take rs (i := j) (by omega)
      have e2 := congrArg List.length e
      rw [List.length_append] at e2
      have := flat_le rs (j + 1)
      refine pushN hO3 f3.size hq1 rfl (by omega) fun p' c' w4 f4 hO4 => ?_
      rw [wrap64 (by omega) (by omega)]
      refine hgo2 _ _ _ (k - 1) (by omega) ⟨j + 1, p', c', by omega, by rw [e2]; rfl, hO3.news f3 f4 (Nat.le_refl _), ?_⟩
      rw [← e2, ← e] at hO4
      exact hO4
    · have hjl : j = i := by omega
      subst hjl
      rw [List.take_of_length_le (by omega)] at hO3 ⊢
      exact h q d w3 f3 hO3
theorem Join_c {w : World} {p : Option Addr} {l c : Nat} {rs : List (List UInt8)} (hR : RowB w p rs) (hl : l = rs.length) (hb : rs.flatten.length ≤ 1000000000) (hl2 : l ≤ 1000000000) {K : Value → World → Prop}
    (h : ∀ q d w', Fr [] w w' → OB w' q rs.flatten.length d rs.flatten w.heap.size → K (.slice q rs.flatten.length d) w') : callF Tryz.prog F_octet_Join #[.slice p l c] w K := by
  apply octet_Join_call
  unfold octet_Join
  exact Concat_c hR hl hb hl2 fun q d w' f hO => ⟨_, _, _, rfl, h q d w' f hO⟩
end Go.Sh
end

section
namespace Go.Sh
open Go Go.Fw Go.Proofs
set_option maxRecDepth 100000
set_option linter.unusedVariables false
theorem ioru64 (a b : Nat) (ha : a < 18446744073709551616) (hb : b < 18446744073709551616) : ior .u64 (a : Int) (b : Int) = ((a ||| b : Nat) : Int) := by
  have e1 : (UInt64.ofNat a).toNat = a := by simp; omega
  have e2 : (UInt64.ofNat b).toNat = b := by simp; omega
  have := or64 (UInt64.ofNat a) (UInt64.ofNat b)
  rw [UInt64.toNat_or, e1, e2] at this
  exact this
theorem or_add {a b : Nat} (hb : b < 256) : (a * 256) ||| b = a * 256 + b := by
  have := Nat.shiftLeft_add_eq_or_of_lt (i := 8) (b := b) (by omega) a
  rw [Nat.shiftLeft_eq] at this
  exact this.symm
theorem numL_take (xs : List UInt8) {i : Nat} (h : i < xs.length) : numL (xs.take (i + 1)) = numL (xs.take i) * 256 + (fl xs i).toNat := by
  rw [take_snoc xs h, numL_snoc]
theorem Num_c {w : World} {p : Option Addr} {l c : Nat} {xs : List UInt8} (hx : Row w p (xs.map vb)) (hl : l = xs.length) (h8 : l ≤ 8) {K : Value → World → Prop} (h : K (.tuple #[.int .u64 (numL xs : Int), .int .i64 0]) w) : callF Tryz.prog F_octet_Num #[.slice p l c] w K := by
  apply octet_Num_call
  unfold octet_Num
  refine cond_d (fun h1 => by omega) fun _ => ?_
  refine LoopS.ind (fun k us w' => w' = w ∧ ∃ i : Nat, i + k = l ∧ us = [.int .u64 0, .int .i64 0, .int .u64 (numL (xs.take i) : Int), .slice p l c, .int .i64 (l : Int), .int .i64 (i : Int)]) l ⟨rfl, 0, by omega, rfl⟩ ?_
  rintro k us r w1 I μ hgo ⟨rfl, i, hi, rfl⟩
  refine ⟨_, _, _, _, _, _, _, _, rfl, cond_d (fun h1 => ?_) (fun h1 => ?_)⟩
  · have hil : i < l := by omega
    obtain ⟨a, ha, hca⟩ := row_get (t := T_S_uint8) (by kernel_rfl) hx (c := c) hl hil (k := .i64)
    refine ⟨a, ha, _, Ld.cell (by kernel_rfl) hca, ?_⟩
    have hb := (xs.getD i 0).toNat_lt
    have h1 := numL_lt (xs.take i)
    have h2 : (xs.take i).length ≤ 7 := by rw [List.length_take]; omega
    have h3 : 256 ^ (xs.take i).length ≤ 256 ^ 7 := Nat.pow_le_pow_right (by omega) h2
    have h4 : numL (xs.take i) < 72057594037927936 := Nat.lt_of_lt_of_le h1 h3
    have e1 : IntKind.u64.wrap ((numL (xs.take i) : Int) * 2 ^ 8) = ((numL (xs.take i) * 256 : Nat) : Int) := by
      have : ((numL (xs.take i) : Int) * 2 ^ 8) = ((numL (xs.take i) * 256 : Nat) : Int) := by omega
      rw [this]; exact wrapu64 (by omega) (by omega)
    rw [e1, wrapu64 (n := ((xs.getD i 0).toNat : Int)) (by omega) (by omega), ioru64 _ _ (by omega) (by omega), or_add hb, wrap64 (by omega) (by omega)]
    refine hgo _ _ _ (k - 1) (by omega) ⟨rfl, i + 1, by omega, ?_⟩
    rw [numL_take xs (by omega)]; rfl
  · have hil : i = l := by omega
    subst hil
    rw [List.take_of_length_le (by omega)]
    exact h
theorem shrU {P : Program} {t : TypeId} {x y : Operand} {n s : Nat} (hn : n < 18446744073709551616) (hs : s < 64) : Pu P (do eqGuard .shr t x y (.int .u64 (n : Int)) (.int .i64 (s : Int)); binOp .shr t (.int .u64 (n : Int)) (.int .i64 (s : Int)) : Sem Value) (.int .u64 ((n / 2 ^ s : Nat) : Int)) := by
  have h := Pu.shr (P := P) (t := t) (x := x) (y := y) (k := .u64) (k' := .i64) (a := (n : Int)) (s := (s : Int)) (by omega)
  have e : (n : Int).fdiv (2 ^ min ((s : Int)).toNat IntKind.u64.bits) = ((n / 2 ^ s : Nat) : Int) := by
    have e1 : min ((s : Int)).toNat IntKind.u64.bits = s := by simp [IntKind.bits]; omega
    have e2 : ((2 : Int) ^ s) = ((2 ^ s : Nat) : Int) := by simp
    rw [e1, e2, fdiv_nat]
  rw [e] at h
  exact h
theorem pow256 (k : Nat) : 2 ^ (8 * k) = 256 ^ k := by rw [Nat.pow_mul]
set_option maxHeartbeats 1000000 in
theorem Put_c {w : World} {n size : Nat} (h8 : size ≤ 8) (hn : n < 256 ^ size) {K : Value → World → Prop} (h : ∀ q d w', Fr [] w w' → OB w' q size d (putL n size) w.heap.size → K (.tuple #[.slice q size d, .int .i64 0]) w') :
    callF Tryz.prog F_octet_Put #[.int .u64 (n : Int), .int .i64 (size : Int)] w K := by
  apply octet_Put_call
  unfold octet_Put
  have hn64 : n < 18446744073709551616 := by
    have : 256 ^ size ≤ 256 ^ 8 := Nat.pow_le_pow_right (by omega) h8
    omega
  have fin : octet_Put_j1 (n : Int) (size : Int) none 0 0 0 w K := by
    unfold octet_Put_j1
    refine mkN (n := 0) (c := size) (k := .i64) (k' := .i64) (Nat.zero_le _) (by omega) fun q w1 f1 hO1 s1 => ?_
    rw [wrap64 (n := (size : Int) - 1) (by omega) (by omega)]
    refine LoopS.ind (fun k us w' => ∃ (i : Nat) (q : Option Addr) (d : Nat), i + k = size ∧ us = [.int .u64 (n : Int), .slice none 0 0, .int .i64 0, .slice q i d, .int .i64 ((size : Int) - 1 - (i : Int))] ∧ Fr [] w w' ∧ OB w' q i d (bl i (fun t => UInt8.ofNat (n / 256 ^ (size - 1 - t)))) w.heap.size) size
      ⟨0, q, size, by omega, by simp, f1, hO1⟩ ?_
    rintro k us r w2 I μ hgo ⟨i, q, d, hi, rfl, f2, hO2⟩
    refine ⟨_, _, _, _, _, _, _, _, _, rfl, cond_d (fun h1 => ?_) (fun h1 => ?_)⟩
    · have hil : i < size := by omega
      have e1 : IntKind.i64.wrap (8 * ((size : Int) - 1 - (i : Int))) = ((8 * (size - 1 - i) : Nat) : Int) := by rw [wrap64 (by omega) (by omega)]; omega
      rw [e1]
      refine ⟨_, shrU hn64 (by omega), ?_⟩
      rw [pow256]
      have e2 : IntKind.u8.wrap ((n / 256 ^ (size - 1 - i) : Nat) : Int) = ((UInt8.ofNat (n / 256 ^ (size - 1 - i))).toNat : Int) := by rw [IntKind.wrap_u8]; simp
      rw [e2]
      refine push1 hO2 f2.size (by omega) fun p' c' w3 f3 hO3 => ?_
      rw [wrap64 (n := (size : Int) - 1 - (i : Int) - 1) (by omega) (by omega)]
      refine hgo _ _ _ (k - 1) (by omega) ⟨i + 1, p', c', by omega, ?_, hO2.news f2 f3 (Nat.le_refl _), ?_⟩
      · have : (size : Int) - 1 - (i : Int) - 1 = (size : Int) - 1 - ((i + 1 : Nat) : Int) := by omega
        rw [this]
      · rw [bl_snoc]; exact hO3
    · have hil : i = size := by omega
      subst hil
      exact h q d w2 f2 hO2
  refine cond_d (fun h1 => by omega) fun _ => cond_d (fun h1 => by omega) fun _ => cond_d (fun h1 => ?_) fun _ => fin
  rw [wrap64 (n := 8 * (size : Int)) (by omega) (by omega)]
  have e : (8 * (size : Int)) = ((8 * size : Nat) : Int) := by omega
  rw [e]
  refine ⟨_, shrU hn64 (by omega), ?_⟩
  rw [pow256, Nat.div_eq_of_lt hn]
  exact cond_f fin
theorem Xor_c {w : World} {p q : Option Addr} {l c m d : Nat} {xs ys : List UInt8} (hx : Row w p (xs.map vb)) (hl : l = xs.length) (hy : Row w q (ys.map vb)) (hm : m = ys.length) (hlm : xs.length = ys.length) (hlen : l ≤ 1000000000) {K : Value → World → Prop}
    (h : ∀ p' c' w', Fr [] w w' → OB w' p' l c' (xorL xs ys) w.heap.size → K (.tuple #[.slice p' l c', .int .i64 0]) w') : callF Tryz.prog F_octet_Xor #[.slice p l c, .slice q m d] w K := by
  apply octet_Xor_call
  unfold octet_Xor
  refine cond_ne (fun h1 => by omega) fun _ => ?_
  refine mkN (n := l) (c := l) (k := .i64) (k' := .i64) (Nat.le_refl _) (by omega) fun p0 w1 f1 hO1 s1 => ?_
  refine LoopS.ind (fun k us w' => ∃ (i : Nat) (zs : List UInt8), i + k = l ∧ us = [.slice p l c, .slice q m d, .slice none 0 0, .int .i64 0, .slice p0 l l, .int .i64 (l : Int), .int .i64 (i : Int)] ∧ Fr [] w w' ∧ OB w' p0 l l zs w.heap.size ∧ ∀ j, j < i → fl zs j = fl xs j ^^^ fl ys j) l
    ⟨0, _, by omega, rfl, f1, hO1, by omega⟩ ?_
  rintro k us r w2 I μ hgo ⟨i, zs, hi, rfl, f2, hO2, hz⟩
  refine ⟨_, _, _, _, _, _, _, _, _, _, _, _, _, _, _, rfl, cond_d (fun h1 => ?_) (fun h1 => ?_)⟩
  · have hil : i < l := by omega
    obtain ⟨a, ha, hca⟩ := row_get (t := T_S_uint8) (by kernel_rfl) (hx.fr0 f2) (c := c) hl hil (k := .i64)
    obtain ⟨b, hb, hcb⟩ := row_get (t := T_S_uint8) (by kernel_rfl) (hy.fr0 f2) (c := d) hm (i := i) (by omega) (k := .i64)
    refine ⟨fun w' => w'.cell? a = some (vb (xs.getD i 0)), Drw.intro fun w3 f3 s3 => ?_⟩
    refine ⟨a, ha, b, hb, _, ⟨f3.cell hca (by simp), fun w' hw' => Ld.cell (by kernel_rfl) hw'⟩, _, Ld.cell (by kernel_rfl) (f3.cell hcb (by simp)), .inl rfl, ?_⟩
    rw [xor8]
    have hzl := hO2.2.1
    refine (hO2.fr0 f3).sto hil fun w4 f4 hO4 s4 => ?_
    rw [wrap64 (by omega) (by omega)]
    refine hgo _ _ _ (k - 1) (by omega) ⟨i + 1, _, by omega, rfl, (hO2.fr0 f3).news (f2.then f3) f4 (Nat.le_refl _), hO4, fun j hj => ?_⟩
    rw [fl_set (by omega)]
    by_cases hji : j = i
    · subst hji; rw [if_pos rfl]; rfl
    · rw [if_neg hji]; exact hz j (by omega)
  · have hil : i = l := by omega
    subst hil
    have e : zs = xorL xs ys := list_eq_of (by rw [xorL_len hlm, ← hO2.2.1]; omega) fun j hj => by
      rw [xorL_getD hlm (by have := hO2.2.1; omega)]
      exact hz j (by have := hO2.2.1; omega)
    rw [e] at hO2
    exact h p0 i w2 f2 hO2
end Go.Sh
end

section
namespace Go.Sh
open Go Go.Fw Go.Proofs
set_option maxRecDepth 100000
set_option linter.unusedVariables false
theorem Row.takeB {w : World} {p : Option Addr} {xs : List UInt8} (h : Row w p (xs.map vb)) (n : Nat) : Row w p ((xs.take n).map vb) := by rw [List.map_take]; exact h.take n
theorem Row.partB {w : World} {p : Option Addr} {xs : List UInt8} (h : Row w p (xs.map vb)) {c l : Nat} (hc : xs.length ≤ c) : Row w (Go.Fw.partAt p c l 1) ((xs.drop l).map vb) := by rw [List.map_drop]; exact h.part (by simpa using hc)
theorem part0 {p : Option Addr} {c : Nat} (h : c ≠ 0) : Go.Fw.partAt p c 0 1 = p := by
  unfold Go.Fw.partAt
  rw [if_neg h]
  cases p with
  | none => rfl
  | some a => rfl
theorem Row.front {w : World} {p : Option Addr} {xs : List UInt8} (h : Row w p (xs.map vb)) (c n : Nat) : Row w (Go.Fw.partAt p c 0 1) ((xs.take n).map vb) := by
  unfold Go.Fw.partAt
  split
  · exact Row.takeB h n
  · cases p with
    | none => exact Row.takeB h n
    | some a => exact Row.takeB h n
theorem After_c {w : World} {p : Option Addr} {l c : Nat} {xs : List UInt8} (hx : Row w p (xs.map vb)) (hl : l = xs.length) (hc : l ≤ c) (h16 : xs.length = 16) (n : Nat) (hn : n < 18446744073709551616) {K : Value → World → Prop}
    (h : ∀ q d w', Fr [] w w' → OB w' q 16 d (afterL xs n) w.heap.size → K (.tuple #[.slice q 16 d, .int .i64 0]) w') : callF Tryz.prog F_count_After #[.slice p l c, .int .u64 (n : Int)] w K := by
  apply count_After_call
  unfold count_After
  refine cond_ne (fun h1 => by omega) fun _ => ?_
  refine ⟨_, _, _, PuSl (s := 1) (kl := .i64) (kh := .i64) (lo := some 12) (hi := none) (by kernel_rfl) (by show (0 : Int) ≤ 12; omega) (by show (12 : Int) ≤ (l : Int); omega) (by show (l : Int) ≤ (c : Int); omega), ?_⟩
  have e12 : (Option.getD (some (12 : Int)) 0).toNat = 12 := rfl
  have el : (Option.getD (none : Option Int) (l : Int)).toNat = l := Int.toNat_natCast l
  rw [e12, el]
  have hd := Row.partB hx (c := c) (l := 12) (by omega)
  refine Num_c hd (by simp; omega) (by omega) ⟨_, _, rfl, ?_⟩
  have hnum := numL_lt (xs.drop 12)
  have h4 : (xs.drop 12).length = 4 := by simp [h16]
  rw [h4] at hnum
  have e : IntKind.u64.wrap (IntKind.u32.wrap (IntKind.u64.wrap ((numL (xs.drop 12) : Int) + (n : Int)))) = (((numL (xs.drop 12) + n) % 4294967296 : Nat) : Int) := by
    rw [IntKind.wrap_u64, IntKind.wrap_u32, IntKind.wrap_u64]; omega
  rw [e]
  refine Put_c (size := 4) (by omega) (Nat.mod_lt _ (by decide)) fun q2 d2 w2 f2 hO2 => ⟨_, _, _, _, rfl, ?_⟩
  refine ⟨_, _, _, PuSl (s := 1) (kl := .i64) (kh := .i64) (lo := none) (hi := some 12) (by kernel_rfl) (by show (0 : Int) ≤ 0; omega) (by show (0 : Int) ≤ (12 : Int); omega) (by show (12 : Int) ≤ (c : Int); omega), ?_⟩
  have e0 : (Option.getD (none : Option Int) 0).toNat = 0 := rfl
  have e12' : (Option.getD (some (12 : Int)) (l : Int)).toNat = 12 := rfl
  rw [e0, e12']
  refine ⟨_, _, _, Ef.new (v := .slice (some ⟨w2.heap.size, 0, none⟩) 2 2) (cs := ([.slice (Go.Fw.partAt p c 0 1) (12 - 0) (c - 0), .slice q2 4 d2] : List Value).toArray) (e := T_S_uint8) (by kernel_rfl) fun w3 f3 hB3 s3 => ?_⟩
  have hR := RowB.of2 hB3.rowL (byS (r := xs.take 12) (Row.front (hx.fr0 (f2.then f3)) c 12) (by simp; omega) (by omega)) ((hO2.fr0 f3).byS)
  have efl : [xs.take 12, putL ((numL (xs.drop 12) + n) % 4294967296) 4].flatten = afterL xs n := by simp [afterL]
  refine Join_c (l := 2) hR rfl (by rw [efl, afterL_len n h16]; omega) (by omega) fun q d w4 f4 hO4 => ⟨_, _, _, rfl, ?_⟩
  rw [efl, afterL_len n h16] at hO4
  rw [efl, afterL_len n h16]
  have n2 := f2.size; have n3 := f3.size
  exact h q d w4 ((f2.then f3).then f4) (hO4.mono (by omega))
theorem Next_c {w : World} {p : Option Addr} {l c : Nat} {xs : List UInt8} (hx : Row w p (xs.map vb)) (hl : l = xs.length) (hc : l ≤ c) (h16 : xs.length = 16) {K : Value → World → Prop}
    (h : ∀ q d w', Fr [] w w' → OB w' q 16 d (afterL xs 1) w.heap.size → K (.tuple #[.slice q 16 d, .int .i64 0]) w') : callF Tryz.prog F_count_Next #[.slice p l c] w K := by
  apply count_Next_call
  unfold count_Next
  exact After_c hx hl hc h16 1 (by omega) fun q d w' f hO => ⟨_, _, _, _, rfl, h q d w' f hO⟩
set_option maxHeartbeats 1000000 in
theorem Stream_c {w : World} {p q : Option Addr} {l c m d : Nat} {key from_ : List UInt8} (hx : Row w p (key.map vb)) (hl : l = key.length) (hc : l ≤ c) (h16 : key.length = 16) (hy : Row w q (from_.map vb)) (hm : m = from_.length) (hd : m ≤ d) (h16' : from_.length = 16) (n : Nat) (hn : n ≤ 65535) {K : Value → World → Prop}
    (h : ∀ p' c' w', Fr [] w w' → OB w' p' n c' (strL key from_ n) w.heap.size → K (.tuple #[.slice p' n c', .int .i64 0]) w') : callF Tryz.prog F_count_Stream #[.slice p l c, .slice q m d, .int .i64 (n : Int)] w K := by
  apply count_Stream_call
  unfold count_Stream
  refine newCip_c hx hl h16 (by omega) fun cc w1 f1 hC => ⟨_, _, rfl, cond_f ?_⟩
  refine cond_ne (fun h1 => by omega) fun h1 => cond_d (fun h2 => by omega) fun h2 => cond_d (fun h3 => by omega) fun h3 => ?_
  unfold count_Stream_j1
  have n1 := f1.size
  have hcl := hC.lt
  obtain rfl : m = 16 := by omega
  have hq0 : ∀ z ∈ blks q, z < w.heap.size := Row.blk_lt hy (by omega)
  refine LoopS.ind (fun k us w' => ∃ (i : Nat) (q1 : Option Addr) (d1 : Nat) (po : Option Addr) (co : Nat), i + k = 5000 ∧ (i = 0 ∨ 16 * (i - 1) < n) ∧ us = [.slice q1 16 d1, .int .i64 (n : Int), .slice none 0 0, .int .i64 0, .pointer (some ⟨cc, 0, none⟩), .slice po (16 * i) co] ∧ Fr [] w w' ∧ w1.heap.size ≤ w'.heap.size ∧ 16 ≤ d1 ∧
      Cip w' cc key (i : Int) w.heap.size w1.heap.size ∧ Row w' q1 ((afterL from_ i).map vb) ∧ (∀ z ∈ blks q1, z < w.heap.size ∨ w1.heap.size ≤ z) ∧ (∀ z ∈ blks q1, z ∉ blks po) ∧ OB w' po (16 * i) co (strB key from_ i) w1.heap.size) 5000
    ⟨0, q, d, none, 0, by omega, .inl rfl, rfl, f1, Nat.le_refl _, hd, hC, by rw [afterL_zero h16']; exact hy.fr0 f1, fun z hz => .inl (hq0 z hz), by simp [blks], OB.nil _ _⟩ ?_
  rintro k us r w2 I μ hgo ⟨i, q1, d1, po, co, hi, hin, rfl, f2, k2, hd1, hC2, hq, hqs, hqo, hO⟩
  refine ⟨_, _, _, _, _, _, _, _, _, _, _, _, rfl, cond_d (fun h4 => ?_) (fun h4 => ?_)⟩
  · have hal := afterL_len i h16'
    refine encCip_c hC2 (by omega) (by omega) hq hal.symm hal hqs fun pa w3 f3 hC3 ha => ⟨_, _, _, _, rfl, ?_⟩
    have f03 : Fr [] w w3 := f2.trans f3 (fun z hz => .inr (by simp at hz; omega))
    have n3 := f3.size
    have hO3 := hO.fr_sep f3 (by omega)
    refine pushN hO3 (by omega) ha.row (aencL_len _ _).symm (by omega) fun p4 c4 w4 f4 hO4 => ?_
    have f04 : Fr [] w w4 := f03.trans f4 (fun z hz => .inr (by have := hO3.2.2 z hz; omega))
    have n4 := f4.size
    have hC4 := hC3.fr f4 (fun z hz => .inr (hO3.2.2 z hz))
    have hq4 : Row w4 q1 ((afterL from_ i).map vb) := by
      have hq3 : Row w3 q1 ((afterL from_ i).map vb) := Row.cells_fr hq f3 (fun z hz hzc => by simp at hzc; have := hqs _ hz; omega)
      exact Row.cells_fr hq3 f4 (fun z hz hzp => hqo z hz hzp)
    refine Next_c hq4 hal.symm hd1 hal fun q5 d5 w5 f5 hO5 => ⟨_, _, _, _, rfl, ?_⟩
    have n5 := f5.size
    rw [afterL_add i 1 h16'] at hO5
    refine hgo _ _ _ (k - 1) (by omega) ⟨i + 1, q5, d5, p4, c4, by omega, .inr (by simpa using by omega), by rw [show 16 * (i + 1) = 16 * i + 16 by omega], f04.then f5, by omega, hO5.cap, hC4.fr0 f5, hO5.row, fun z hz => .inr (by have := hO5.2.2 z hz; omega), fun z hz hzp => ?_, ?_⟩
    · have h1 := hO5.2.2 z hz
      have h2 := hO4.lt z hzp
      omega
    · rw [show 16 * (i + 1) = 16 * i + 16 by omega]
      exact hO4.fr0 f5
  · have hge : n ≤ 16 * i := by omega
    have hcap := hO.cap
    refine ⟨_, _, _, PuSl3 (s := 1) (kh := .i64) (km := .i64) (by kernel_rfl) (by omega) (Int.le_refl _) (by omega), ?_⟩
    rw [Int.toNat_natCast]
    have hOp := hO.1
    have e := strL_of key h16' hge
    refine h _ _ w2 f2 ⟨?_, (strL_len _ _ _).symm, fun z hz => Nat.le_trans n1 (hO.2.2 z (partAt_blks z hz))⟩
    rw [← e, List.map_take]
    obtain ⟨hl', ⟨h5, h6, h7⟩ | ⟨g, o, N, f, h5, hB, hoc, hlc, hf⟩⟩ := hOp
    · have hn0 : n = 0 := by omega
      subst hn0
      refine ⟨by simp, .inl ⟨?_, rfl, rfl⟩⟩
      rw [h5]; rfl
    · refine ⟨by rw [List.length_take, List.length_map, strB_len]; omega, .inr ⟨g, o, N, f, ?_, hB, by omega, Nat.le_refl _, fun j v hj => ?_⟩⟩
      · rw [h5]
        by_cases hn0 : n = 0
        · rw [hn0]; rfl
        · exact part0 hn0
      · rw [List.getElem?_take] at hj
        split at hj
        · exact hf j v hj
        · cases hj
end Go.Sh
end

section
namespace Go.Sh
open Go Go.Fw Go.Proofs
set_option maxRecDepth 100000
set_option linter.unusedVariables false
theorem Turn_c {w : World} {p q t : Option Addr} {l c m d n e : Nat} {key from_ text : List UInt8} (hx : Row w p (key.map vb)) (hl : l = key.length) (hc : l ≤ c) (h16 : key.length = 16) (hy : Row w q (from_.map vb)) (hm : m = from_.length) (hd : m ≤ d) (h16' : from_.length = 16)
    (ht : Row w t (text.map vb)) (hn : n = text.length) (hn2 : n ≤ 65535) {K : Value → World → Prop} (h : ∀ p' c' w', Fr [] w w' → OB w' p' n c' (turnL key from_ text) w.heap.size → K (.tuple #[.slice p' n c', .int .i64 0]) w') :
    callF Tryz.prog F_count_Turn #[.slice p l c, .slice q m d, .slice t n e] w K := by
  apply count_Turn_call
  unfold count_Turn
  refine Stream_c hx hl hc h16 hy hm hd h16' n hn2 fun p1 c1 w1 f1 hO1 => ⟨_, _, _, _, rfl, cond_f ?_⟩
  refine Xor_c hO1.row (strL_len _ _ _).symm (ht.fr0 f1) hn (by rw [strL_len, hn]) (by omega) fun p2 c2 w2 f2 hO2 => ⟨_, _, _, _, rfl, ?_⟩
  subst hn
  exact h p2 c2 w2 (f1.then f2) (hO2.mono f1.size)
theorem afterL_fl {xs : List UInt8} (n : Nat) (h16 : xs.length = 16) {j : Nat} (hj : j < 16) : fl (afterL xs n) j = if j < 12 then fl xs j else UInt8.ofNat ((numL (xs.drop 12) + n) % 4294967296 / 256 ^ (15 - j)) := by
  unfold afterL fl
  rw [List.getD_eq_getElem?_getD]
  by_cases h12 : j < 12
  · rw [if_pos h12, List.getElem?_append_left (by simp [h16]; omega), List.getElem?_take, if_pos h12, List.getD_eq_getElem?_getD]
  · rw [if_neg h12, List.getElem?_append_right (by simp [h16]; omega)]
    have e : (xs.take 12).length = 12 := by simp [h16]
    rw [e]
    unfold putL
    rw [List.getElem?_map, List.getElem?_range (by omega)]
    show UInt8.ofNat _ = _
    rw [show 4 - 1 - (j - 12) = 15 - j by omega]
set_option maxHeartbeats 1000000 in
theorem refAfter_c {w : World} {p : Option Addr} {l c : Nat} {xs : List UInt8} (hx : Row w p (xs.map vb)) (hl : l = xs.length) (h16 : xs.length = 16) (n : Nat) (hn : n < 18446744073709551616) {K : Value → World → Prop}
    (h : ∀ q d w', Fr [] w w' → OB w' q 16 d (afterL xs n) w.heap.size → K (.slice q 16 d) w') : callF Tryz.prog F_ref06_After #[.slice p l c, .int .u64 (n : Int)] w K := by
  apply ref06_After_call
  unfold ref06_After
  have hdl : (xs.drop 12).length = 4 := by simp [h16]
  refine LoopS.ind (fun k us w' => w' = w ∧ ∃ i : Nat, 12 ≤ i ∧ i + k = 16 ∧ us = [.slice p l c, .int .u64 (n : Int), .slice none 0 0, .int .u64 (numL ((xs.drop 12).take (i - 12)) : Int), .int .i64 (i : Int)]) 4 ⟨rfl, 12, by omega, by omega, rfl⟩ ?_
  rintro k us r w1 I μ hgo ⟨rfl, i, hi12, hi, rfl⟩
  refine ⟨_, _, _, _, _, _, _, _, _, rfl, cond_d (fun h1 => ?_) (fun h1 => ?_)⟩
  · have hi16 : i < 16 := by omega
    obtain ⟨a, ha, hca⟩ := row_get (t := T_S_uint8) (by kernel_rfl) hx (c := c) hl (i := i) (by omega) (k := .i64)
    refine ⟨a, ha, _, Ld.cell (by kernel_rfl) hca, ?_⟩
    have hb := (xs.getD i 0).toNat_lt
    have h2 := numL_lt ((xs.drop 12).take (i - 12))
    have h3 : ((xs.drop 12).take (i - 12)).length ≤ 3 := by rw [List.length_take]; omega
    have h4 : 256 ^ ((xs.drop 12).take (i - 12)).length ≤ 256 ^ 3 := Nat.pow_le_pow_right (by omega) h3
    have h5 : numL ((xs.drop 12).take (i - 12)) < 16777216 := Nat.lt_of_lt_of_le h2 h4
    have e : IntKind.u64.wrap (IntKind.u64.wrap ((numL ((xs.drop 12).take (i - 12)) : Int) * 256) + IntKind.u64.wrap ((xs.getD i 0).toNat : Int)) = (numL ((xs.drop 12).take (i + 1 - 12)) : Int) := by
      rw [wrapu64 (n := (numL ((xs.drop 12).take (i - 12)) : Int) * 256) (by omega) (by omega), wrapu64 (n := ((xs.getD i 0).toNat : Int)) (by omega) (by omega), wrapu64 (by omega) (by omega)]
      have := numL_take (xs.drop 12) (i := i - 12) (by omega)
      rw [show i - 12 + 1 = i + 1 - 12 by omega, fl_drop, show 12 + (i - 12) = i by omega] at this
      rw [this]
      show _ = ((numL ((xs.drop 12).take (i - 12)) * 256 + (xs.getD i 0).toNat : Nat) : Int)
      omega
    rw [e, wrap64 (by omega) (by omega)]
    exact hgo _ _ _ (k - 1) (by omega) ⟨rfl, i + 1, by omega, by omega, rfl⟩
  · have hi16 : i = 16 := by omega
    subst hi16
    rw [List.take_of_length_le (by omega)]
    unfold ref06_After_j1
    have hnum := numL_lt (xs.drop 12)
    rw [hdl] at hnum
    have e : Int.tmod (IntKind.u64.wrap ((numL (xs.drop 12) : Int) + Int.tmod (n : Int) 4294967296)) 4294967296 = (((numL (xs.drop 12) + n) % 4294967296 : Nat) : Int) := by
      have e1 : Int.tmod (n : Int) 4294967296 = ((n % 4294967296 : Nat) : Int) := rfl
      rw [e1, wrapu64 (by omega) (by omega), ← Int.natCast_add]
      have e2 : Int.tmod ((numL (xs.drop 12) + n % 4294967296 : Nat) : Int) 4294967296 = (((numL (xs.drop 12) + n % 4294967296) % 4294967296 : Nat) : Int) := rfl
      rw [e2]; congr 1; omega
    rw [e]
    obtain ⟨V, hV⟩ : ∃ V, V = (numL (xs.drop 12) + n) % 4294967296 := ⟨_, rfl⟩
    have hVl : V < 4294967296 := by rw [hV]; exact Nat.mod_lt _ (by decide)
    rw [← hV]
    refine mk0 fun p0 w2 f2 hO2 s2 => ?_
    refine pushN hO2 f2.size (hx.fr0 f2) hl (by omega) fun p3 c3 w3 f3 hO3 => ?_
    have e16 : 0 + l = 16 := by omega
    rw [e16] at hO3 ⊢
    have f03 := hO2.news f2 f3 (Nat.le_refl _)
    refine LoopS.ind (fun k us w' => ∃ (t : Nat) (zs : List UInt8), t + k = 4 ∧ us = [.slice none 0 0, .int .u64 ((V / 256 ^ t : Nat) : Int), .slice p3 16 c3, .int .i64 ((15 - t : Nat) : Int)] ∧ Fr [] w1 w' ∧ OB w' p3 16 c3 zs w1.heap.size ∧ ∀ j, j < 16 → (j < 12 → fl zs j = fl xs j) ∧ (15 - t < j → fl zs j = UInt8.ofNat (V / 256 ^ (15 - j)))) 4
      ⟨0, xs, by omega, by rw [Nat.pow_zero, Nat.div_one]; rfl, f03, hO3, fun j hj => ⟨fun _ => rfl, fun h => by omega⟩⟩ ?_
    rintro k us r w4 I2 μ2 hgo2 ⟨t, zs, ht, rfl, f4, hO4, hz⟩
    refine ⟨_, _, _, _, _, _, _, _, rfl, cond_d (fun h2 => ?_) (fun h2 => ?_)⟩
    · have ht4 : t < 4 := by omega
      have e5 : IntKind.u8.wrap (Int.tmod ((V / 256 ^ t : Nat) : Int) 256) = ((UInt8.ofNat (V / 256 ^ t)).toNat : Int) := by
        have e6 : Int.tmod ((V / 256 ^ t : Nat) : Int) 256 = ((V / 256 ^ t % 256 : Nat) : Int) := rfl
        rw [e6, IntKind.wrap_u8]; simp
      rw [e5]
      have hzl := hO4.2.1
      refine hO4.sto (by omega) fun w5 f5 hO5 s5 => ?_
      have e8 : IntKind.u64.wrap (Int.tdiv ((V / 256 ^ t : Nat) : Int) 256) = ((V / 256 ^ (t + 1) : Nat) : Int) := by
        have e9 : Int.tdiv ((V / 256 ^ t : Nat) : Int) 256 = ((V / 256 ^ t / 256 : Nat) : Int) := rfl
        have hle : V / 256 ^ t / 256 ≤ V := Nat.le_trans (Nat.div_le_self _ _) (Nat.div_le_self _ _)
        have e10 : V / 256 ^ t / 256 = V / 256 ^ (t + 1) := by rw [Nat.div_div_eq_div_mul, Nat.pow_succ]
        rw [e9, e10]
        rw [e10] at hle
        obtain ⟨Q, hQ⟩ : ∃ Q, Q = V / 256 ^ (t + 1) := ⟨_, rfl⟩
        rw [← hQ] at hle ⊢
        exact wrapu64 (by omega) (by omega)
      rw [e8, wrap64 (by omega) (by omega)]
      refine hgo2 _ _ _ (k - 1) (by omega) ⟨t + 1, _, by omega, ?_, hO4.news f4 f5 (Nat.le_refl _), hO5, fun j hj => ?_⟩
      · have : ((15 - t : Nat) : Int) - 1 = ((15 - (t + 1) : Nat) : Int) := by omega
        rw [this]
      · rw [fl_set (by omega)]
        by_cases hjt : j = 15 - t
        · rw [if_pos hjt]
          refine ⟨fun h => by omega, fun _ => ?_⟩
          rw [hjt, show 15 - (15 - t) = t by omega]
        · rw [if_neg hjt]
          exact ⟨(hz j hj).1, fun h => (hz j hj).2 (by omega)⟩
    · have ht4 : t = 4 := by omega
      subst ht4
      have ez : zs = afterL xs n := list_eq_of (by rw [afterL_len n h16]; exact hO4.2.1.symm) fun j hj => by
        have hj16 : j < 16 := by have := hO4.2.1; omega
        show fl zs j = fl (afterL xs n) j
        rw [afterL_fl n h16 hj16, ← hV]
        by_cases h12 : j < 12
        · rw [if_pos h12]; exact (hz j hj16).1 h12
        · rw [if_neg h12]; exact (hz j hj16).2 (by omega)
      rw [ez] at hO4
      exact h p3 c3 w4 f4 hO4
theorem OB.part {w : World} {p : Option Addr} {l c : Nat} {xs : List UInt8} {lo : Nat} (h : OB w p l c xs lo) {a b : Nat} (h1 : a ≤ b) (h2 : b ≤ l) : OB w (Go.Fw.partAt p c a 1) (b - a) (c - a) ((xs.take b).drop a) lo := by
  have := h.1.part h1 h2
  rw [← List.map_take, ← List.map_drop] at this
  have hl := h.2.1
  exact ⟨this, by simp; omega, fun k hk => h.2.2 k (partAt_blks k hk)⟩
end Go.Sh
end

section
namespace Go.Sh
open Go Go.Fw Go.Proofs
set_option maxRecDepth 100000
set_option linter.unusedVariables false
theorem refStream_c {w : World} {p q : Option Addr} {l c m d : Nat} {key from_ : List UInt8} (hx : Row w p (key.map vb)) (hl : l = key.length) (hc : l ≤ c) (h16 : key.length = 16) (hy : Row w q (from_.map vb)) (hm : m = from_.length) (h16' : from_.length = 16) (n : Nat) (hn : n ≤ 65535) {K : Value → World → Prop}
    (h : ∀ p' c' w', Fr [] w w' → OB w' p' n c' (strL key from_ n) w.heap.size → K (.slice p' n c') w') : callF Tryz.prog F_ref06_Stream #[.slice p l c, .slice q m d, .int .i64 (n : Int)] w K := by
  apply ref06_Stream_call
  unfold ref06_Stream
  refine Table_c fun pt w1 f1 hT => ⟨_, _, _, rfl, ?_⟩
  refine mk0 fun p0 w2 f2 hO2 s2 => ?_
  have n1 := f1.size; have n2 := f2.size
  have hT2 := hT.fr0 f2
  have f02 := f1.then f2
  refine LoopS.ind (fun k us w' => ∃ (i : Nat) (po : Option Addr) (co : Nat), i + k = 5000 ∧ (i = 0 ∨ 16 * (i - 1) < n) ∧ us = [.slice p l c, .slice q m d, .int .i64 (n : Int), .slice none 0 0, .slice pt 256 256, .slice po (16 * i) co, .int .u64 (i : Int)] ∧ Fr [] w1 w' ∧ OB w' po (16 * i) co (strB key from_ i) w1.heap.size) 5000
    ⟨0, p0, 0, by omega, .inl rfl, rfl, f2, hO2⟩ ?_
  rintro k us r w3 I μ hgo ⟨i, po, co, hi, hin, rfl, f3, hO⟩
  refine ⟨_, _, _, _, _, _, _, _, _, _, _, _, _, _, _, _, _, rfl, cond_d (fun h4 => ?_) (fun h4 => ?_)⟩
  · have f03 := f1.then f3
    have n3 := f3.size
    refine refAfter_c (hy.fr0 f03) hm h16' i (by omega) fun q4 d4 w4 f4 hO4 => ⟨_, _, _, rfl, ?_⟩
    have f04 := f03.then f4
    have hal := afterL_len i h16'
    refine refWith_c (hx.fr0 f04) hl h16 hc hO4.row hal.symm hal ((hT.row.fr0 f3).fr0 f4) rfl fun p5 c5 w5 f5 hO5 => ⟨_, _, _, rfl, ?_⟩
    have n4 := f4.size; have n5 := f5.size
    have f35 := f4.then f5
    refine pushN (hO.fr0 f35) (by omega) hO5.row (aencL_len _ _).symm (by omega) fun p6 c6 w6 f6 hO6 => ?_
    rw [wrapu64 (by omega) (by omega)]
    refine hgo _ _ _ (k - 1) (by omega) ⟨i + 1, p6, c6, by omega, .inr (by simpa using by omega), by rw [show 16 * (i + 1) = 16 * i + 16 by omega]; rfl, (hO.fr0 f35).news (f3.then f35) f6 (Nat.le_refl _), ?_⟩
    · rw [show 16 * (i + 1) = 16 * i + 16 by omega]
      exact hO6
  · have hge : n ≤ 16 * i := by omega
    have hcap := hO.cap
    refine ⟨_, _, _, PuSl (s := 1) (kl := .i64) (kh := .i64) (lo := none) (hi := some (n : Int)) (by kernel_rfl) (by show (0 : Int) ≤ 0; omega) (by show (0 : Int) ≤ (n : Int); omega) (by show (n : Int) ≤ (co : Int); omega), ?_⟩
    have hp := hO.part (a := 0) (b := n) (by omega) hge
    rw [strL_of key h16' hge, List.drop_zero] at hp
    exact h _ _ w3 (f1.then f3) (hp.mono n1)
set_option maxHeartbeats 1000000 in
theorem refTurn_c {w : World} {p q t : Option Addr} {l c m d n e : Nat} {key from_ text : List UInt8} (hx : Row w p (key.map vb)) (hl : l = key.length) (hc : l ≤ c) (h16 : key.length = 16) (hy : Row w q (from_.map vb)) (hm : m = from_.length) (h16' : from_.length = 16)
    (ht : Row w t (text.map vb)) (hn : n = text.length) (hn2 : n ≤ 65535) {K : Value → World → Prop} (h : ∀ p' c' w', Fr [] w w' → OB w' p' n c' (turnL key from_ text) w.heap.size → K (.tuple #[.slice p' n c', .int .i64 0]) w') :
    callF Tryz.prog F_ref06_Turn #[.slice p l c, .slice q m d, .slice t n e] w K := by
  apply ref06_Turn_call
  unfold ref06_Turn
  refine cond_ne (fun h1 => by omega) fun _ => cond_ne (fun h1 => by omega) fun _ => cond_d (fun h1 => by omega) fun _ => ?_
  unfold ref06_Turn_j1
  refine refStream_c hx hl hc h16 hy hm h16' n hn2 fun p1 c1 w1 f1 hO1 => ⟨_, _, _, rfl, ?_⟩
  refine LoopS.ind (fun k us w' => ∃ (i : Nat) (zs : List UInt8), i + k = n ∧ us = [.slice t n e, .slice none 0 0, .int .i64 0, .slice p1 n c1, .int .i64 (i : Int)] ∧ Fr [] w w' ∧ OB w' p1 n c1 zs w.heap.size ∧ (∀ j, j < i → fl zs j = fl (strL key from_ n) j ^^^ fl text j) ∧ ∀ j, i ≤ j → fl zs j = fl (strL key from_ n) j) n
    ⟨0, _, by omega, rfl, f1, hO1, by omega, fun j _ => rfl⟩ ?_
  rintro k us r w2 I μ hgo ⟨i, zs, hi, rfl, f2, hO2, hz, hz2⟩
  refine ⟨_, _, _, _, _, _, _, _, _, _, _, rfl, cond_d (fun h1 => ?_) (fun h1 => ?_)⟩
  · have hil : i < n := by omega
    obtain ⟨a, ha, hca⟩ := hO2.get (k := .i64) (i := i) hil
    obtain ⟨b, hb, hcb⟩ := row_get (t := T_S_uint8) (by kernel_rfl) (ht.fr0 f2) (c := e) hn hil (k := .i64)
    refine ⟨fun w' => w'.cell? a = some (vb (fl zs i)), Drw.intro fun w3 f3 s3 => ?_⟩
    refine ⟨a, ha, b, hb, _, ⟨f3.cell hca (by simp), fun w' hw' => Ld.cell (by kernel_rfl) hw'⟩, _, Ld.cell (by kernel_rfl) (f3.cell hcb (by simp)), .inl rfl, ?_⟩
    rw [xor8]
    have hzl := hO2.2.1
    refine (hO2.fr0 f3).sto hil fun w4 f4 hO4 s4 => ?_
    rw [wrap64 (by omega) (by omega)]
    refine hgo _ _ _ (k - 1) (by omega) ⟨i + 1, _, by omega, rfl, (hO2.fr0 f3).news (f2.then f3) f4 (Nat.le_refl _), hO4, fun j hj => ?_, fun j hj => ?_⟩
    · rw [fl_set (by omega)]
      by_cases hji : j = i
      · subst hji; rw [if_pos rfl, hz2 j (Nat.le_refl _)]; rfl
      · rw [if_neg hji]; exact hz j (by omega)
    · rw [fl_set (by omega), if_neg (by omega)]; exact hz2 j (by omega)
  · have hil : i = n := by omega
    subst hil
    have ez : zs = turnL key from_ text := by
      unfold turnL
      rw [← hn]
      have hlen : (strL key from_ i).length = text.length := by rw [strL_len, hn]
      refine list_eq_of (by rw [xorL_len hlen, ← hn]; exact hO2.2.1.symm) fun j hj => ?_
      rw [xorL_getD hlen (by have := hO2.2.1; omega)]
      exact hz j (by have := hO2.2.1; omega)
    rw [ez] at hO2
    exact h p1 c1 w2 f2 hO2
end Go.Sh
end

section
namespace Go.Sh
open Go Go.Fw Go.Proofs
set_option maxRecDepth 100000
set_option linter.unusedVariables false
def f06 : List UInt8 := [1, 2, 3, 4, 5, 6, 7, 8, 9, 10, 11, 12, 255, 255, 255, 255]
end Go.Sh
end

section
namespace Go.Sh
open Go Go.Fw Go.Proofs
set_option maxRecDepth 100000
set_option linter.unusedVariables false
section
variable {w : World} {p q t : Option Addr} {l c m d n e : Nat} {key from_ text : List UInt8}
theorem turnL_len (key from_ text : List UInt8) : (turnL key from_ text).length = text.length := by unfold turnL; rw [xorL_len (strL_len _ _ _)]
end
end Go.Sh
end
