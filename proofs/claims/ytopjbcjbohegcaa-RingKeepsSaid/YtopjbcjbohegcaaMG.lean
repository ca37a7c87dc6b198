/- A part of a proof of a given law of this program: lemmas, printed forms of its functions, contracts. It has no conditions of its own. -/
import Derived.Test.YtopjbcjbohegcaaMFw
import Derived.Test.YtopjbcjbohegcaaMC
import Derived.Test.YtopjbcjbohegcaaMH
import Derived.Test.YtopjbcjbohegcaaMFw3
import Derived.Test.YtopjbcjbohegcaaMSh5
import Derived.Test.YtopjbcjbohegcaaMF
import Derived.Test.YtopjbcjbohegcaaMA

section
namespace Go.Sh
open Go Go.Fw
def pR : Nat := 0xe1 <<< 120
def nxt (e : Nat) : Nat := (e >>> 1) ^^^ (if e % 2 = 1 then pR else 0)
def nxtN : Nat → Nat → Nat
  | 0, b => b
  | i + 1, b => nxt (nxtN i b)
def psum (f : Nat → Nat) : Nat → Nat
  | 0 => 0
  | k + 1 => psum f k ^^^ f k
def rowV (F : Nat → Nat) (n : Nat) : Nat := psum (fun t => if n.testBit (3 - t) then F t else 0) 4
def cf (e j : Nat) : Bool := decide (j < 128) && e.testBit (127 - j)
end Go.Sh
end

section
namespace Go.Sh
open Go Go.Fw Go.Proofs
set_option maxRecDepth 100000
set_option linter.unusedVariables false
def hiE (e : Nat) : Int := ((e / 18446744073709551616 : Nat) : Int)
def loE (e : Nat) : Int := ((e % 18446744073709551616 : Nat) : Int)
abbrev elV (e : Nat) : List Value := [.int .u64 (hiE e), .int .u64 (loE e)]
def EAt (w : World) (b : Nat) (e : Nat) : Prop := ∃ f, Blk w b 2 f ∧ f 0 = .int .u64 (hiE e) ∧ f 1 = .int .u64 (loE e)
section
variable {w : World} {b e : Nat} {K : Value → World → Prop}
theorem EAt.fr {L : List Nat} {w' : World} (h : EAt w b e) (hf : Fr L w w') (hn : b ∉ L) : EAt w' b e := by obtain ⟨f, hB, r⟩ := h; exact ⟨f, hB.fr hf hn, r⟩
theorem EAt.fr0 {w' : World} (h : EAt w b e) (hf : Fr [] w w') : EAt w' b e := h.fr hf (by simp)
theorem EAt.lt (h : EAt w b e) : b < w.heap.size := by obtain ⟨f, hB, _⟩ := h; exact hB.lt
theorem ldCells {o : Nat} (h0 : w.cell? ⟨b, o + 0, none⟩ = some (.int .u64 (hiE e))) (h1 : w.cell? ⟨b, o + 1, none⟩ = some (.int .u64 (loE e))) : Ld Try.prog T_poly_Elem (.pointer (some ⟨b, o, none⟩)) w (.agg #[.int .u64 (hiE e), .int .u64 (loE e)]) := by
  refine Ld.agg (n := 2) (cs := elV e) (by kernel_rfl) (by kernel_rfl) rfl fun j v hj => ?_
  rw [add_mk]
  rcases j with _ | _ | j
  · simp at hj; subst hj; exact h0
  · simp at hj; subst hj; exact h1
  · simp at hj
theorem EAt.ld (h : EAt w b e) : Ld Try.prog T_poly_Elem (.pointer (some ⟨b, 0, none⟩)) w (.agg #[.int .u64 (hiE e), .int .u64 (loE e)]) := by
  obtain ⟨f, hB, h0, h1⟩ := h
  exact ldCells (by rw [hB.cell (by omega)]; exact congrArg some h0) (by rw [hB.cell (by omega)]; exact congrArg some h1)
theorem stoCellsE {n o : Nat} {f : Nat → Value} (hB : Blk w b n f) (ho : o + 2 ≤ n) {K : World → Prop} (h : ∀ w', Fr [b] w w' → Blk w' b n (updN f o (elV e)) → w'.heap.size = w.heap.size → K w') : ∃ w', Sto Try.prog T_poly_Elem (.pointer (some ⟨b, o, none⟩)) (.agg #[.int .u64 (hiE e), .int .u64 (loE e)]) w w' ∧ K w' :=
  Sto.agg (m := 2) (cs := elV e) (by kernel_rfl) rfl hB ho (by intro v hv; simp at hv; rcases hv with rfl | rfl <;> rfl) h
theorem updE0 (f : Nat → Value) (o e : Nat) : updN f o (elV e) o = .int .u64 (hiE e) := by unfold updN; rw [dif_pos ⟨Nat.le_refl _, by simp⟩]; simp only [Nat.sub_self]; rfl
theorem updE1 (f : Nat → Value) (o e : Nat) : updN f o (elV e) (o + 1) = .int .u64 (loE e) := by unfold updN; rw [dif_pos ⟨by omega, by simp⟩]; simp [show o + 1 - o = 1 by omega]
theorem updE_ne (f : Nat → Value) (o e : Nat) {i : Nat} (h : i < o ∨ o + 1 < i) : updN f o (elV e) i = f i := by unfold updN; rw [dif_neg (by simp; omega)]
theorem stoE {f : Nat → Value} (hB : Blk w b 2 f) {K : World → Prop} (h : ∀ w', Fr [b] w w' → EAt w' b e → w'.heap.size = w.heap.size → K w') : ∃ w', Sto Try.prog T_poly_Elem (.pointer (some ⟨b, 0, none⟩)) (.agg #[.int .u64 (hiE e), .int .u64 (loE e)]) w w' ∧ K w' :=
  stoCellsE hB (Nat.le_refl 2) fun w' f' hB' s => h w' f' ⟨_, hB', updE0 _ _ _, updE1 _ _ _⟩ s
theorem EAt.sto {e' : Nat} (hE : EAt w b e') {K : World → Prop} (h : ∀ w', Fr [b] w w' → EAt w' b e → w'.heap.size = w.heap.size → K w') : ∃ w', Sto Try.prog T_poly_Elem (.pointer (some ⟨b, 0, none⟩)) (.agg #[.int .u64 (hiE e), .int .u64 (loE e)]) w w' ∧ K w' := by
  obtain ⟨f, hB, _⟩ := hE; exact stoE hB h
theorem newEz {K : Nat → World → Prop} (h : ∀ w' f, Fr [] w w' → Blk w' w.heap.size 2 f → w'.heap.size = w.heap.size + 1 → K w.heap.size w') : ∃ z, Pu Try.prog (zeroValue T_poly_Elem) z ∧ New z.cells T_poly_Elem w K :=
  newZ (s := 2) (by kernel_rfl) h
def ecells : List Nat → List Value
  | [] => []
  | e :: l => .int .u64 (hiE e) :: .int .u64 (loE e) :: ecells l
theorem numL_append (a b : List UInt8) : numL (a ++ b) = numL a * 256 ^ b.length + numL b := by
  unfold numL
  rw [List.foldl_append]
  have : ∀ (l : List UInt8) (n : Nat), l.foldl (fun n x => n * 256 + x.toNat) n = n * 256 ^ l.length + l.foldl (fun n x => n * 256 + x.toNat) 0 := by
    intro l
    induction l with
    | nil => intro n; simp
    | cons x l ih =>
      intro n
      rw [List.foldl_cons, List.foldl_cons, ih, ih (0 * 256 + x.toNat), List.length_cons, Nat.pow_succ, Nat.add_mul]
      have : n * 256 * 256 ^ l.length = n * (256 ^ l.length * 256) := by rw [Nat.mul_assoc, Nat.mul_comm 256]
      rw [this, Nat.zero_mul, Nat.zero_add]; omega
  exact this b _
theorem num_halves {xs : List UInt8} (h : xs.length = 16) : hiE (numL xs) = (numL (xs.take 8) : Int) ∧ loE (numL xs) = (numL (xs.drop 8) : Int) := by
  have e := numL_append (xs.take 8) (xs.drop 8)
  rw [List.take_append_drop, List.length_drop, h] at e
  have b1 := numL_lt (xs.take 8); have b2 := numL_lt (xs.drop 8)
  rw [List.length_take, h] at b1
  rw [List.length_drop, h] at b2
  unfold hiE loE
  have p8 : (256 : Nat) ^ (16 - 8) = 18446744073709551616 := by decide
  have p8' : (256 : Nat) ^ (min 8 16) = 18446744073709551616 := by decide
  rw [p8] at e b2
  rw [p8'] at b1
  omega
theorem numL_lt16 {xs : List UInt8} (h : xs.length = 16) : numL xs < 2 ^ 128 := by
  have := numL_lt xs
  rw [h] at this
  have e : (256 : Nat) ^ 16 = 2 ^ 128 := by decide
  rwa [e] at this
theorem polyOf_c {p : Option Addr} {l c : Nat} {xs : List UInt8} (hx : Row w p (xs.map vb)) (hl : l = xs.length) (hc : l ≤ c) (hbad : l ≠ 16 → ∀ w', Fr [] w w' → K (.tuple #[.agg #[.int .u64 0, .int .u64 0], .int .i64 11]) w')
    (hok : l = 16 → ∀ w', Fr [] w w' → K (.tuple #[.agg #[.int .u64 (hiE (numL xs)), .int .u64 (loE (numL xs))], .int .i64 0]) w') : callF Try.prog F_poly_Of #[.slice p l c] w K := by
  apply poly_Of_call
  unfold poly_Of
  refine newEz fun w1 g1 f1 hB1 s1 => cond_ne (fun hne => ?_) (fun he => ?_)
  · refine stoE (e := 0) hB1 fun w2 f2 h2 s2 => ⟨_, _, rfl, h2.ld, hbad (by omega) w2 (f1.st f2 (by omega))⟩
  · have h16 : l = 16 := by omega
    have hx1 := hx.fr0 f1
    refine slTo hx1 hl (n := 8) (by omega) hc fun q1 d1 hq1 hl1 hd1 hb1 => ?_
    refine Num_c hq1 (by omega) (by omega) ⟨_, _, rfl, ?_⟩
    refine slFrom hx1 hl (n := 8) (by omega) hc fun q2 d2 hq2 hl2 hd2 hb2 => ?_
    refine Num_c hq2 hl2 (by omega) ⟨_, _, rfl, ?_⟩
    obtain ⟨e1, e2⟩ := num_halves (xs := xs) (by omega)
    rw [← e1, ← e2]
    refine stoE hB1 fun w2 f2 h2 s2 => ⟨_, _, rfl, h2.ld, hok h16 w2 (f1.st f2 (by omega))⟩
end
end Go.Sh
end

section
namespace Go.Sh
open Go Go.Fw Go.Proofs
set_option maxRecDepth 100000
set_option linter.unusedVariables false
def ElC (f : Nat → Value) (o n e : Nat) : Prop := f (o + n * 2) = .int .u64 (hiE e) ∧ f (o + n * 2 + 1) = .int .u64 (loE e)
theorem ElC.upd_ne {f : Nat → Value} {o n e m e' : Nat} (h : ElC f o n e) (hm : n ≠ m) : ElC (updN f (o + m * 2) (elV e')) o n e := by
  unfold ElC
  rw [updE_ne _ _ _ (by omega), updE_ne _ _ _ (by omega)]; exact h
theorem ElC.upd_same (f : Nat → Value) (o n e : Nat) : ElC (updN f (o + n * 2) (elV e)) o n e := ⟨updE0 _ _ _, updE1 _ _ _⟩
section
variable {w : World} {b e : Nat} {K : Value → World → Prop}
def TabR (f : Nat → Value) (H k : Nat) : Prop := ∀ n, n < 16 → ElC f (6 + k * 32) n (rowV (fun t => nxtN (4 * k + t) H) n)
def HAt (w : World) (b H : Nat) (m : Bool) : Prop := ∃ f, Blk w b 1030 f ∧ H < 2 ^ 128 ∧ f 0 = .int .u64 (hiE H) ∧ f 1 = .int .u64 (loE H) ∧ f 3 = .int .i32 0 ∧
  (match m with | true => f 2 = .int .u32 1 ∧ ∀ k, k < 32 → TabR f H k | false => f 2 = .int .u32 0 ∧ f 5 = .int .i64 0 ∧ ∀ k, k < 32 → ElC f (6 + k * 32) 0 0)
theorem HAt.fr {L : List Nat} {w' : World} {H : Nat} {m : Bool} (h : HAt w b H m) (hf : Fr L w w') (hn : b ∉ L) : HAt w' b H m := by obtain ⟨f, hB, r⟩ := h; exact ⟨f, hB.fr hf hn, r⟩
theorem HAt.fr0 {w' : World} {H : Nat} {m : Bool} (h : HAt w b H m) (hf : Fr [] w w') : HAt w' b H m := h.fr hf (by simp)
theorem HAt.lt {H : Nat} {m : Bool} (h : HAt w b H m) : b < w.heap.size := by obtain ⟨f, hB, _⟩ := h; exact hB.lt
end
end Go.Sh
end

section
namespace Go.Sh
open Go Go.Fw Go.Proofs
set_option maxRecDepth 100000
set_option linter.unusedVariables false
theorem New.as {cs cs' : Array Value} {t : TypeId} {w : World} {K : Nat → World → Prop} (he : cs = cs') (h : New cs' t w K) : New cs t w K := by subst he; exact h
section
variable {w : World} {b : Nat} {K : Value → World → Prop}
theorem ghashNew_c {p : Option Addr} {l c : Nat} {xs : List UInt8} (hx : Row w p (xs.map vb)) (hl : l = xs.length) (hc : l ≤ c) (h16 : l = 16)
    (h : ∀ b w', Fr [] w w' → HAt w' b (numL xs) false → w.heap.size ≤ b → K (.tuple #[.pointer (some ⟨b, 0, none⟩), .int .i64 0]) w') : callF Try.prog F_ghash_New #[.slice p l c] w K := by
  apply ghash_New_call
  unfold ghash_New
  refine polyOf_c hx hl hc (fun hb => absurd h16 hb) fun _ w1 f1 => ⟨_, _, _, rfl, newEz fun w2 g2 f2 hB2 s2 => stoE hB2 fun w3 f3 h3 s3 => ?_⟩
  refine cond_ne (fun hne => absurd rfl hne) fun _ => ⟨_, _, h3.ld, ?_⟩
  refine New.as (cs' := ⟨[.int .u64 (hiE (numL xs)), .int .u64 (loE (numL xs)), .int .u32 0, .int .i32 0, .int .u32 0, .int .i64 0] ++ List.replicate 1024 (.int .u64 0)⟩) (by kernel_rfl) ?_
  have f03 : Fr [] w w3 := f1.then (f2.st f3 (by omega))
  refine New.intro fun w4 f4 hB4 s4 => h _ w4 (f03.then f4) ⟨_, hB4, numL_lt16 (by omega), rfl, rfl, rfl, rfl, rfl, fun k hk => ?_⟩ f03.size
  have e : ∀ i, 6 ≤ i → i < 1030 → Array.getD ⟨[.int .u64 (hiE (numL xs)), .int .u64 (loE (numL xs)), .int .u32 0, .int .i32 0, .int .u32 0, .int .i64 0] ++ List.replicate 1024 (.int .u64 0)⟩ i undef = .int .u64 0 := by
    intro i h6 hi
    rw [Array.getD_eq_getD_getElem?, List.getElem?_toArray, List.getElem?_append_right (by simpa using h6), List.getElem?_replicate, if_pos (by simp; omega)]; rfl
  exact ⟨e _ (by omega) (by omega), e _ (by omega) (by omega)⟩
def EO (w : World) (p : Option Addr) (l c : Nat) (es : List Nat) (lo : Nat) : Prop := OwnN 2 w p l c (ecells es) ∧ l = es.length ∧ ∀ k ∈ blks p, lo ≤ k
theorem EO.fr0 {p : Option Addr} {l c lo : Nat} {es : List Nat} {w' : World} (h : EO w p l c es lo) (f : Fr [] w w') : EO w' p l c es lo := ⟨h.1.fr0 f, h.2⟩
theorem EO.fr {p : Option Addr} {l c lo : Nat} {es : List Nat} {w' : World} {L : List Nat} (h : EO w p l c es lo) (f : Fr L w w') (hL : ∀ k ∈ L, k < lo) : EO w' p l c es lo := ⟨h.1.fr f fun k hk hm => by have := hL k hm; have := h.2.2 k hk; omega, h.2⟩
theorem EO.mono {p : Option Addr} {l c lo lo' : Nat} {es : List Nat} (h : EO w p l c es lo) (hl : lo' ≤ lo) : EO w p l c es lo' := ⟨h.1, h.2.1, fun k hk => Nat.le_trans hl (h.2.2 k hk)⟩
theorem EO.row {p : Option Addr} {l c lo : Nat} {es : List Nat} (h : EO w p l c es lo) : Row w p (ecells es) := h.1.row
end
end Go.Sh
end

section
namespace Go.Sh
open Go Go.Fw Go.Proofs
set_option maxRecDepth 100000
set_option linter.unusedVariables false
def RowEs (w : World) (p : Option Addr) (ess : List (List Nat)) : Prop := ∃ vs : List Value, Row w p vs ∧ vs.length = ess.length ∧ ∀ (j : Nat) (es : List Nat), ess[j]? = some es → ∃ q d, vs[j]? = some (.slice q es.length d) ∧ Row w q (ecells es)
section
variable {w : World} {b : Nat} {K : Value → World → Prop}
theorem RowEs.fr0 {w' : World} {p : Option Addr} {ess : List (List Nat)} (h : RowEs w p ess) (f : Fr [] w w') : RowEs w' p ess := by
  obtain ⟨vs, h1, h2, h3⟩ := h
  exact ⟨vs, h1.fr0 f, h2, fun j es hj => by obtain ⟨q, d, a, b⟩ := h3 j es hj; exact ⟨q, d, a, b.fr0 f⟩⟩
end
end Go.Sh
end
