/- A part of a proof of a given law of this program: lemmas, printed forms of its functions, contracts. It has no conditions of its own. -/
import Derived.Test.YtcfealonnakdcaaGreatMFw
import Derived.Test.YtcfealonnakdcaaGreatMC
import Derived.Test.YtcfealonnakdcaaGreatMH
import Derived.Test.YtcfealonnakdcaaGreatMFw3
import Derived.Test.YtcfealonnakdcaaGreatMSh5
import Derived.Test.YtcfealonnakdcaaGreatMF
import Derived.Test.YtcfealonnakdcaaGreatMA

section
namespace Go.Sh
open Go Go.Fw
def pR : Nat := 0xe1 <<< 120
def nxt (e : Nat) : Nat := (e >>> 1) ^^^ (if e % 2 = 1 then pR else 0)
def nxtN : Nat → Nat → Nat
  | 0, b => b
  | i + 1, b => nxt (nxtN i b)
def psum (f : Nat → Nat) : Nat → Nat
  | 0 => 0
  | k + 1 => psum f k ^^^ f k
def pmul (a b : Nat) : Nat := psum (fun i => if a.testBit (127 - i) then nxtN i b else 0) 128
theorem nxtN_add (i j b : Nat) : nxtN (i + j) b = nxtN i (nxtN j b) := by
  induction i with
  | zero => rw [Nat.zero_add]; rfl
  | succ i ih => rw [show i + 1 + j = (i + j) + 1 by omega]; show nxt _ = nxt _; rw [ih]
theorem pR_lt : pR < 2 ^ 128 := by decide
theorem nxt_lt {e : Nat} (h : e < 2 ^ 128) : nxt e < 2 ^ 128 := by
  unfold nxt
  refine Nat.xor_lt_two_pow ?_ ?_
  · rw [Nat.shiftRight_eq_div_pow]; omega
  · split
    · exact pR_lt
    · decide
theorem nxtN_lt {e : Nat} (h : e < 2 ^ 128) (i : Nat) : nxtN i e < 2 ^ 128 := by
  induction i with
  | zero => exact h
  | succ i ih => exact nxt_lt ih
theorem psum_lt {f : Nat → Nat} {k : Nat} (h : ∀ i, i < k → f i < 2 ^ 128) : psum f k < 2 ^ 128 := by
  induction k with
  | zero => show (0 : Nat) < 2 ^ 128; decide
  | succ k ih => exact Nat.xor_lt_two_pow (ih fun i hi => h i (by omega)) (h k (by omega))
theorem pmul_lt {a b : Nat} (h : b < 2 ^ 128) : pmul a b < 2 ^ 128 := psum_lt fun i _ => by
  split
  · exact nxtN_lt h i
  · decide
theorem psum_congr {f g : Nat → Nat} {k : Nat} (h : ∀ i, i < k → f i = g i) : psum f k = psum g k := by
  induction k with
  | zero => rfl
  | succ k ih => unfold psum; rw [ih fun i hi => h i (by omega), h k (by omega)]
theorem psum_xor (f g : Nat → Nat) (k : Nat) : psum (fun i => f i ^^^ g i) k = psum f k ^^^ psum g k := by
  induction k with
  | zero => simp [psum]
  | succ k ih =>
    show psum _ k ^^^ (f k ^^^ g k) = (psum f k ^^^ f k) ^^^ (psum g k ^^^ g k)
    rw [ih]; ac_rfl
theorem psum_split (f : Nat → Nat) (a b : Nat) : psum f (a + b) = psum f a ^^^ psum (fun t => f (a + t)) b := by
  induction b with
  | zero => show psum f a = psum f a ^^^ 0; rw [Nat.xor_zero]
  | succ b ih => show psum f (a + b) ^^^ f (a + b) = psum f a ^^^ (psum _ b ^^^ f (a + b)); rw [ih, Nat.xor_assoc]
theorem psum_four (f : Nat → Nat) (k : Nat) : psum f (4 * k) = psum (fun j => psum (fun t => f (4 * j + t)) 4) k := by
  induction k with
  | zero => rfl
  | succ k ih => rw [show 4 * (k + 1) = 4 * k + 4 by omega, psum_split, ih]; rfl
def rowV (F : Nat → Nat) (n : Nat) : Nat := psum (fun t => if n.testBit (3 - t) then F t else 0) 4
theorem rowV_xor (F : Nat → Nat) (n m : Nat) : rowV F (n ^^^ m) = rowV F n ^^^ rowV F m := by
  unfold rowV
  rw [← psum_xor]
  refine psum_congr fun t _ => ?_
  rw [Nat.testBit_xor]
  cases n.testBit (3 - t) <;> cases m.testBit (3 - t) <;> simp
def lowN (n : Nat) : Nat := n &&& (16 - n)
theorem rowV_zero (F : Nat → Nat) : rowV F 0 = 0 := by simp [rowV, psum]
theorem rowV_bits (F : Nat → Nat) : rowV F 8 = F 0 ∧ rowV F 4 = F 1 ∧ rowV F 2 = F 2 ∧ rowV F 1 = F 3 := by
  have b80 : Nat.testBit 8 0 = false := by decide
  have b81 : Nat.testBit 8 1 = false := by decide
  have b82 : Nat.testBit 8 2 = false := by decide
  have b83 : Nat.testBit 8 3 = true := by decide
  have b40 : Nat.testBit 4 0 = false := by decide
  have b41 : Nat.testBit 4 1 = false := by decide
  have b42 : Nat.testBit 4 2 = true := by decide
  have b43 : Nat.testBit 4 3 = false := by decide
  have b20 : Nat.testBit 2 0 = false := by decide
  have b21 : Nat.testBit 2 1 = true := by decide
  have b22 : Nat.testBit 2 2 = false := by decide
  have b23 : Nat.testBit 2 3 = false := by decide
  have b10 : Nat.testBit 1 0 = true := by decide
  have b11 : Nat.testBit 1 1 = false := by decide
  have b12 : Nat.testBit 1 2 = false := by decide
  have b13 : Nat.testBit 1 3 = false := by decide
  refine ⟨?_, ?_, ?_, ?_⟩ <;> simp [rowV, psum, b80, b81, b82, b83, b40, b41, b42, b43, b20, b21, b22, b23, b10, b11, b12, b13]
theorem pmul_table (e h : Nat) : pmul e h = psum (fun k => rowV (fun t => nxtN (4 * k + t) h) (e >>> (4 * (31 - k)) % 16)) 32 := by
  unfold pmul
  rw [show (128 : Nat) = 4 * 32 from rfl, psum_four]
  refine psum_congr fun k hk => ?_
  unfold rowV
  refine psum_congr fun t ht => ?_
  have : (e >>> (4 * (31 - k)) % 16).testBit (3 - t) = e.testBit (127 - (4 * k + t)) := by
    rw [show (16 : Nat) = 2 ^ 4 from rfl, Nat.testBit_mod_two_pow, Nat.testBit_shiftRight, decide_eq_true (show 3 - t < 4 by omega), Bool.true_and]
    congr 1; omega
  rw [this]
def cf (e j : Nat) : Bool := decide (j < 128) && e.testBit (127 - j)
def sh (p : Nat → Bool) (j : Nat) : Bool := decide (0 < j) && p (j - 1)
def shN : Nat → (Nat → Bool) → Nat → Bool
  | 0, p => p
  | i + 1, p => sh (shN i p)
theorem shN_at (i : Nat) (p : Nat → Bool) (j : Nat) : shN i p j = (decide (i ≤ j) && p (j - i)) := by
  induction i generalizing j with
  | zero => simp [shN]
  | succ i ih =>
    show (decide (0 < j) && shN i p (j - 1)) = _
    rw [ih, show j - 1 - i = j - (i + 1) by omega]
    by_cases h : i + 1 ≤ j
    · rw [decide_eq_true h, decide_eq_true (show 0 < j by omega), decide_eq_true (show i ≤ j - 1 by omega)]; rfl
    · rw [decide_eq_false h]
      by_cases h0 : 0 < j
      · rw [decide_eq_false (show ¬ i ≤ j - 1 by omega)]; simp
      · rw [decide_eq_false h0]; rfl
def stp (k : Nat) (p : Nat → Bool) (j : Nat) : Bool := if j = k then false else p j ^^ (p k && (decide (j + 128 = k) || decide (j + 127 = k) || decide (j + 126 = k) || decide (j + 121 = k)))
def rF (top : Nat) : Nat → (Nat → Bool) → Nat → Bool
  | 0, p => p
  | m + 1, p => stp (top - m) (rF top m p)
theorem stp_xor (k : Nat) (p q : Nat → Bool) : stp k (fun j => p j ^^ q j) = fun j => stp k p j ^^ stp k q j := by
  funext j
  unfold stp
  by_cases h : j = k
  · rw [if_pos h, if_pos h, if_pos h]; rfl
  · rw [if_neg h, if_neg h, if_neg h]
    generalize (decide (j + 128 = k) || decide (j + 127 = k) || decide (j + 126 = k) || decide (j + 121 = k)) = x
    show ((p j ^^ q j) ^^ ((p k ^^ q k) && x)) = ((p j ^^ (p k && x)) ^^ (q j ^^ (q k && x)))
    cases p j <;> cases q j <;> cases p k <;> cases q k <;> cases x <;> rfl
theorem rF_xor (top m : Nat) (p q : Nat → Bool) : rF top m (fun j => p j ^^ q j) = fun j => rF top m p j ^^ rF top m q j := by
  induction m with
  | zero => rfl
  | succ m ih => show stp _ (rF top m _) = _; rw [ih, stp_xor]; rfl
theorem stp_sh {k : Nat} (hk : 128 ≤ k) (p : Nat → Bool) : stp (k + 1) (sh p) = sh (stp k p) := by
  funext j
  unfold stp sh
  cases j with
  | zero =>
    rw [if_neg (by omega)]
    have e1 : decide (0 + 128 = k + 1) = false := decide_eq_false (by omega)
    have e2 : decide (0 + 127 = k + 1) = false := decide_eq_false (by omega)
    have e3 : decide (0 + 126 = k + 1) = false := decide_eq_false (by omega)
    have e4 : decide (0 + 121 = k + 1) = false := decide_eq_false (by omega)
    rw [e1, e2, e3, e4]; simp
  | succ j =>
    by_cases h : j = k
    · subst h; simp
    · rw [if_neg (by omega)]
      simp only [Nat.add_sub_cancel, if_neg h]
      have e1 : (decide (j + 1 + 128 = k + 1)) = decide (j + 128 = k) := by rw [decide_eq_decide]; omega
      have e2 : (decide (j + 1 + 127 = k + 1)) = decide (j + 127 = k) := by rw [decide_eq_decide]; omega
      have e3 : (decide (j + 1 + 126 = k + 1)) = decide (j + 126 = k) := by rw [decide_eq_decide]; omega
      have e4 : (decide (j + 1 + 121 = k + 1)) = decide (j + 121 = k) := by rw [decide_eq_decide]; omega
      rw [e1, e2, e3, e4]; simp
theorem stp_none {k : Nat} {p : Nat → Bool} (h : p k = false) : stp k p = p := by
  funext j
  unfold stp
  by_cases hj : j = k
  · rw [if_pos hj, hj, h]
  · rw [if_neg hj, h]; simp
theorem rF_sh (p : Nat → Bool) : ∀ m, m ≤ 126 → rF 254 m (sh p) = sh (rF 253 m p) := by
  intro m
  induction m with
  | zero => intro _; rfl
  | succ m ih =>
    intro hm
    show stp (254 - m) (rF 254 m (sh p)) = sh (stp (253 - m) (rF 253 m p))
    rw [ih (by omega), show 254 - m = (253 - m) + 1 by omega, stp_sh (by omega)]
theorem rF_first (top : Nat) (p : Nat → Bool) : ∀ m, rF (top + 1) (m + 1) p = rF top m (stp (top + 1) p) := by
  intro m
  induction m with
  | zero => rfl
  | succ m ih =>
    show stp (top + 1 - (m + 1)) (rF (top + 1) (m + 1) p) = stp (top - m) (rF top m (stp (top + 1) p))
    rw [ih, show top + 1 - (m + 1) = top - m by omega]
def red (p : Nat → Bool) : Nat → Bool := rF 254 127 p
theorem red_xor (p q : Nat → Bool) : red (fun j => p j ^^ q j) = fun j => red p j ^^ red q j := rF_xor _ _ _ _
theorem red_sh {p : Nat → Bool} (h : p 254 = false) : red (sh p) = stp 128 (sh (red p)) := by
  have e : rF 254 127 p = rF 253 126 p := by rw [rF_first 253 p 126, stp_none h]
  show stp 128 (rF 254 126 (sh p)) = _
  rw [rF_sh p 126 (by omega), red, e]
theorem nxt_cf {e : Nat} (he : e < 2 ^ 128) : stp 128 (sh (cf e)) = cf (nxt e) := by
  funext j
  unfold stp
  have hR : ∀ i, i < 128 → pR.testBit (127 - i) = (decide (i = 0) || decide (i = 1) || decide (i = 2) || decide (i = 7)) := by decide +kernel
  have h128 : e.testBit 128 = false := Nat.testBit_lt_two_pow he
  by_cases hj : j < 128
  · rw [if_neg (by omega)]
    have e127 : sh (cf e) 128 = decide (e % 2 = 1) := by
      unfold sh cf
      rw [show 127 - (128 - 1) = 0 by omega, Nat.testBit_zero]; simp
    rw [e127]
    have ej : sh (cf e) j = (e >>> 1).testBit (127 - j) := by
      unfold sh cf
      rw [Nat.testBit_shiftRight]
      by_cases h0 : j = 0
      · subst h0; simp [h128]
      · rw [decide_eq_true (show 0 < j by omega), decide_eq_true (show j - 1 < 128 by omega), show 127 - (j - 1) = 1 + (127 - j) by omega]; simp
    rw [ej]
    unfold cf nxt
    rw [decide_eq_true hj, Bool.true_and, Nat.testBit_xor]
    congr 1
    have e1 : decide (j + 128 = 128) = decide (j = 0) := by rw [decide_eq_decide]; omega
    have e2 : decide (j + 127 = 128) = decide (j = 1) := by rw [decide_eq_decide]; omega
    have e3 : decide (j + 126 = 128) = decide (j = 2) := by rw [decide_eq_decide]; omega
    have e4 : decide (j + 121 = 128) = decide (j = 7) := by rw [decide_eq_decide]; omega
    rw [e1, e2, e3, e4]
    by_cases ho : e % 2 = 1
    · rw [if_pos ho, decide_eq_true ho, hR j hj]; simp
    · rw [if_neg ho, decide_eq_false ho]; simp
  · have e0 : cf (nxt e) j = false := by unfold cf; rw [decide_eq_false hj]; rfl
    rw [e0]
    by_cases h1 : j = 128
    · rw [if_pos h1]
    · rw [if_neg h1]
      have e1 : sh (cf e) j = false := by unfold sh cf; rw [decide_eq_false (show ¬ j - 1 < 128 by omega)]; simp
      rw [e1]
      have d1 : decide (j + 128 = 128) = false := decide_eq_false (by omega)
      have d2 : decide (j + 127 = 128) = false := decide_eq_false (by omega)
      have d3 : decide (j + 126 = 128) = false := decide_eq_false (by omega)
      have d4 : decide (j + 121 = 128) = false := decide_eq_false (by omega)
      rw [d1, d2, d3, d4]; simp
theorem red_cf (e : Nat) : red (cf e) = cf e := by
  have : ∀ m, m ≤ 127 → rF 254 m (cf e) = cf e := by
    intro m
    induction m with
    | zero => intro _; rfl
    | succ m ih =>
      intro hm
      show stp (254 - m) (rF 254 m (cf e)) = _
      rw [ih (by omega), stp_none (by unfold cf; rw [decide_eq_false (by omega)]; rfl)]
  exact this 127 (by omega)
theorem red_shN {b : Nat} (hb : b < 2 ^ 128) : ∀ i, i ≤ 127 → red (shN i (cf b)) = cf (nxtN i b) := by
  intro i
  induction i with
  | zero => intro _; exact red_cf b
  | succ i ih =>
    intro hi
    have h254 : shN i (cf b) 254 = false := by
      rw [shN_at]; unfold cf; rw [decide_eq_false (show ¬ 254 - i < 128 by omega)]; simp
    show red (sh (shN i (cf b))) = cf (nxt (nxtN i b))
    rw [red_sh h254, ih (by omega), nxt_cf (nxtN_lt hb i)]
def conv (a b : Nat) : Nat → Nat → Bool
  | 0, _ => false
  | m + 1, j => conv a b m j ^^ (cf a m && shN m (cf b) j)
theorem rF_zero (top m : Nat) : rF top m (fun _ => false) = fun _ => false := by
  induction m with
  | zero => rfl
  | succ m ih => show stp _ (rF top m _) = _; rw [ih, stp_none rfl]
theorem red_conv {a b : Nat} (hb : b < 2 ^ 128) : ∀ m, m ≤ 128 → red (conv a b m) = cf (psum (fun i => if a.testBit (127 - i) then nxtN i b else 0) m) := by
  intro m
  induction m with
  | zero =>
    intro _
    have : conv a b 0 = fun _ => false := rfl
    rw [this]
    funext j
    show rF 254 127 (fun _ => false) j = _
    rw [rF_zero]; simp [cf, psum]
  | succ m ih =>
    intro hm
    have e : conv a b (m + 1) = fun j => conv a b m j ^^ (cf a m && shN m (cf b) j) := rfl
    rw [e, red_xor, ih (by omega)]
    funext j
    have e2 : red (fun j => cf a m && shN m (cf b) j) j = cf (if a.testBit (127 - m) then nxtN m b else 0) j := by
      have ca : cf a m = a.testBit (127 - m) := by unfold cf; rw [decide_eq_true (show m < 128 by omega)]; rfl
      rw [ca]
      cases a.testBit (127 - m) with
      | true =>
        have : (fun j => true && shN m (cf b) j) = shN m (cf b) := by funext j; rfl
        rw [this, red_shN hb m (by omega)]; rfl
      | false =>
        have : (fun j => false && shN m (cf b) j) = fun _ => false := by funext j; rfl
        rw [this]
        show rF 254 127 (fun _ => false) j = _
        rw [rF_zero]; simp [cf]
    show (_ ^^ red (fun j => cf a m && shN m (cf b) j) j) = _
    rw [e2]
    unfold cf
    show ((decide (j < 128) && _) ^^ (decide (j < 128) && _)) = (decide (j < 128) && (psum _ m ^^^ _).testBit (127 - j))
    rw [Nat.testBit_xor]
    cases decide (j < 128) <;> simp
theorem red_mul {a b : Nat} (hb : b < 2 ^ 128) : red (conv a b 128) = cf (pmul a b) := red_conv hb 128 (by omega)
end Go.Sh
end

section
namespace Go.Sh
open Go Go.Fw Go.Proofs
set_option maxRecDepth 100000
set_option linter.unusedVariables false
def hiE (e : Nat) : Int := ((e / 18446744073709551616 : Nat) : Int)
def loE (e : Nat) : Int := ((e % 18446744073709551616 : Nat) : Int)
abbrev elV (e : Nat) : List Value := [.int .u64 (hiE e), .int .u64 (loE e)]
theorem ixorN {a b : Nat} (ha : a < 18446744073709551616) (hb : b < 18446744073709551616) : ixor .u64 (a : Int) (b : Int) = ((a ^^^ b : Nat) : Int) := by
  have := xor64 (UInt64.ofNat a) (UInt64.ofNat b)
  rw [UInt64.toNat_xor, UInt64.toNat_ofNat_of_lt' ha, UInt64.toNat_ofNat_of_lt' hb] at this
  exact this
theorem iorN {a b : Nat} (ha : a < 18446744073709551616) (hb : b < 18446744073709551616) : ior .u64 (a : Int) (b : Int) = ((a ||| b : Nat) : Int) := by
  have := or64 (UInt64.ofNat a) (UInt64.ofNat b)
  rw [UInt64.toNat_or, UInt64.toNat_ofNat_of_lt' ha, UInt64.toNat_ofNat_of_lt' hb] at this
  exact this
theorem iandN {a b : Nat} (ha : a < 18446744073709551616) (hb : b < 18446744073709551616) : iand .u64 (a : Int) (b : Int) = ((a &&& b : Nat) : Int) := by
  have := and64 (UInt64.ofNat a) (UInt64.ofNat b)
  rw [UInt64.toNat_and, UInt64.toNat_ofNat_of_lt' ha, UInt64.toNat_ofNat_of_lt' hb] at this
  exact this
theorem hi_lt {e : Nat} (h : e < 2 ^ 128) : e / 18446744073709551616 < 18446744073709551616 := by omega
theorem xor_hi {a b : Nat} (ha : a < 2 ^ 128) (hb : b < 2 ^ 128) : ixor .u64 (hiE a) (hiE b) = hiE (a ^^^ b) := by
  unfold hiE
  rw [ixorN (hi_lt ha) (hi_lt hb)]
  have e : ∀ x : Nat, x / 18446744073709551616 = x >>> 64 := fun x => by rw [Nat.shiftRight_eq_div_pow]
  rw [e, e, e, Nat.shiftRight_xor_distrib]
theorem xor_lo {a b : Nat} : ixor .u64 (loE a) (loE b) = loE (a ^^^ b) := by
  unfold loE
  rw [ixorN (by omega) (by omega)]
  have e : (18446744073709551616 : Nat) = 2 ^ 64 := rfl
  rw [e, Nat.xor_mod_two_pow]
theorem xor_lt {a b : Nat} (ha : a < 2 ^ 128) (hb : b < 2 ^ 128) : a ^^^ b < 2 ^ 128 := Nat.xor_lt_two_pow ha hb
theorem half_hi (e : Nat) : Int.fdiv (hiE e) (2 ^ 1) = hiE (e >>> 1) := by
  unfold hiE
  rw [show ((2 : Int) ^ 1) = ((2 : Nat) : Int) from rfl, fdiv_nat, Nat.shiftRight_eq_div_pow]
  congr 1; omega
theorem half_lo {e : Nat} (he : e < 2 ^ 128) : ior .u64 (Int.fdiv (loE e) (2 ^ 1)) (IntKind.u64.wrap (hiE e * 2 ^ 63)) = loE (e >>> 1) := by
  unfold hiE loE
  have h1 : Int.fdiv ((e % 18446744073709551616 : Nat) : Int) (2 ^ 1) = ((e % 18446744073709551616 / 2 : Nat) : Int) := by
    rw [show ((2 : Int) ^ 1) = ((2 : Nat) : Int) from rfl, fdiv_nat]
  have h2 : IntKind.u64.wrap (((e / 18446744073709551616 : Nat) : Int) * 2 ^ 63) = ((2 ^ 63 * (e / 18446744073709551616 % 2) : Nat) : Int) := by
    rw [IntKind.wrap_u64]; omega
  rw [h1, h2, iorN (by omega) (by omega), Nat.or_comm, ← Nat.two_pow_add_eq_or_of_lt (by omega), Nat.shiftRight_eq_div_pow]
  congr 1; omega
theorem odd_lo (e : Nat) : iand .u64 (loE e) 1 = ((e % 2 : Nat) : Int) := by
  unfold loE
  have := iandN (a := e % 18446744073709551616) (b := 1) (by omega) (by decide)
  rw [Nat.and_one_is_mod] at this
  rw [show ((1 : Int)) = ((1 : Nat) : Int) from rfl, this]
  congr 1; omega
def EAt (w : World) (b : Nat) (e : Nat) : Prop := ∃ f, Blk w b 2 f ∧ f 0 = .int .u64 (hiE e) ∧ f 1 = .int .u64 (loE e)
section
variable {w : World} {b e : Nat} {K : Value → World → Prop}
theorem EAt.fr {L : List Nat} {w' : World} (h : EAt w b e) (hf : Fr L w w') (hn : b ∉ L) : EAt w' b e := by obtain ⟨f, hB, r⟩ := h; exact ⟨f, hB.fr hf hn, r⟩
theorem EAt.fr0 {w' : World} (h : EAt w b e) (hf : Fr [] w w') : EAt w' b e := h.fr hf (by simp)
theorem EAt.lt (h : EAt w b e) : b < w.heap.size := by obtain ⟨f, hB, _⟩ := h; exact hB.lt
theorem ldCells {o : Nat} (h0 : w.cell? ⟨b, o + 0, none⟩ = some (.int .u64 (hiE e))) (h1 : w.cell? ⟨b, o + 1, none⟩ = some (.int .u64 (loE e))) : Ld Tryz.prog T_poly_Elem (.pointer (some ⟨b, o, none⟩)) w (.agg #[.int .u64 (hiE e), .int .u64 (loE e)]) := by
  refine Ld.agg (n := 2) (cs := elV e) (by kernel_rfl) (by kernel_rfl) rfl fun j v hj => ?_
  rw [add_mk]
  rcases j with _ | _ | j
  · simp at hj; subst hj; exact h0
  · simp at hj; subst hj; exact h1
  · simp at hj
theorem EAt.ld (h : EAt w b e) : Ld Tryz.prog T_poly_Elem (.pointer (some ⟨b, 0, none⟩)) w (.agg #[.int .u64 (hiE e), .int .u64 (loE e)]) := by
  obtain ⟨f, hB, h0, h1⟩ := h
  exact ldCells (by rw [hB.cell (by omega)]; exact congrArg some h0) (by rw [hB.cell (by omega)]; exact congrArg some h1)
theorem EAt.hiLd (h : EAt w b e) : Ld Tryz.prog T_uint64 (.pointer (some ((⟨b, 0, none⟩ : Addr).add 0))) w (.int .u64 (hiE e)) := by
  obtain ⟨f, hB, h0, h1⟩ := h; exact Ld.blk (by kernel_rfl) hB (by omega) h0
theorem EAt.loLd (h : EAt w b e) : Ld Tryz.prog T_uint64 (.pointer (some ((⟨b, 0, none⟩ : Addr).add 1))) w (.int .u64 (loE e)) := by
  obtain ⟨f, hB, h0, h1⟩ := h; rw [add_mk]; exact Ld.blk (by kernel_rfl) hB (by omega) h1
theorem newE {t : TypeId} {K : Nat → World → Prop} (h : ∀ w', Fr [] w w' → EAt w' w.heap.size e → w'.heap.size = w.heap.size + 1 → K w.heap.size w') : New #[.int .u64 (hiE e), .int .u64 (loE e)] t w K :=
  New.intro fun w' f hB s => h w' f ⟨_, hB, rfl, rfl⟩ s
theorem stoCellsE {n o : Nat} {f : Nat → Value} (hB : Blk w b n f) (ho : o + 2 ≤ n) {K : World → Prop} (h : ∀ w', Fr [b] w w' → Blk w' b n (updN f o (elV e)) → w'.heap.size = w.heap.size → K w') : ∃ w', Sto Tryz.prog T_poly_Elem (.pointer (some ⟨b, o, none⟩)) (.agg #[.int .u64 (hiE e), .int .u64 (loE e)]) w w' ∧ K w' :=
  Sto.agg (m := 2) (cs := elV e) (by kernel_rfl) rfl hB ho (by intro v hv; simp at hv; rcases hv with rfl | rfl <;> rfl) h
theorem updE0 (f : Nat → Value) (o e : Nat) : updN f o (elV e) o = .int .u64 (hiE e) := by unfold updN; rw [dif_pos ⟨Nat.le_refl _, by simp⟩]; simp only [Nat.sub_self]; rfl
theorem updE1 (f : Nat → Value) (o e : Nat) : updN f o (elV e) (o + 1) = .int .u64 (loE e) := by unfold updN; rw [dif_pos ⟨by omega, by simp⟩]; simp [show o + 1 - o = 1 by omega]
theorem updE_ne (f : Nat → Value) (o e : Nat) {i : Nat} (h : i < o ∨ o + 1 < i) : updN f o (elV e) i = f i := by unfold updN; rw [dif_neg (by simp; omega)]
theorem stoE {f : Nat → Value} (hB : Blk w b 2 f) {K : World → Prop} (h : ∀ w', Fr [b] w w' → EAt w' b e → w'.heap.size = w.heap.size → K w') : ∃ w', Sto Tryz.prog T_poly_Elem (.pointer (some ⟨b, 0, none⟩)) (.agg #[.int .u64 (hiE e), .int .u64 (loE e)]) w w' ∧ K w' :=
  stoCellsE hB (Nat.le_refl 2) fun w' f' hB' s => h w' f' ⟨_, hB', updE0 _ _ _, updE1 _ _ _⟩ s
theorem EAt.sto {e' : Nat} (hE : EAt w b e') {K : World → Prop} (h : ∀ w', Fr [b] w w' → EAt w' b e → w'.heap.size = w.heap.size → K w') : ∃ w', Sto Tryz.prog T_poly_Elem (.pointer (some ⟨b, 0, none⟩)) (.agg #[.int .u64 (hiE e), .int .u64 (loE e)]) w w' ∧ K w' := by
  obtain ⟨f, hB, _⟩ := hE; exact stoE hB h
theorem newEz {K : Nat → World → Prop} (h : ∀ w' f, Fr [] w w' → Blk w' w.heap.size 2 f → w'.heap.size = w.heap.size + 1 → K w.heap.size w') : ∃ z, Pu Tryz.prog (zeroValue T_poly_Elem) z ∧ New z.cells T_poly_Elem w K :=
  newZ (s := 2) (by kernel_rfl) h
theorem newE0 {K : Nat → World → Prop} (h : ∀ w', Fr [] w w' → EAt w' w.heap.size 0 → w'.heap.size = w.heap.size + 1 → K w.heap.size w') : ∃ z, Pu Tryz.prog (zeroValue T_poly_Elem) z ∧ New z.cells T_poly_Elem w K :=
  ⟨.agg #[.int .u64 0, .int .u64 0], by unfold Pu; kernel_rfl, newE (e := 0) h⟩
theorem plus_c {a b : Nat} (ha : a < 2 ^ 128) (hb : b < 2 ^ 128) (h : ∀ w', Fr [] w w' → K (.agg #[.int .u64 (hiE (a ^^^ b)), .int .u64 (loE (a ^^^ b))]) w') :
    callF Tryz.prog F_poly_Elem_plus #[.agg #[.int .u64 (hiE a), .int .u64 (loE a)], .agg #[.int .u64 (hiE b), .int .u64 (loE b)]] w K := by
  apply poly_Elem_plus_call
  unfold poly_Elem_plus
  refine newE fun w1 f1 h1 s1 => newE fun w2 f2 h2 s2 => newEz fun w3 g3 f3 hB3 s3 => ?_
  have h13 := h1.fr0 (f2.then f3); have h23 := h2.fr0 f3
  refine ⟨_, h13.hiLd, _, h23.hiLd, _, h13.loLd, _, h23.loLd, ?_⟩
  rw [xor_hi ha hb, xor_lo]
  refine stoE hB3 fun w4 f4 h4 s4 => ⟨_, _, rfl, h4.ld, h w4 ((((f1.then f2).then f3).st f4 (by have := (f1.then f2).size; omega)))⟩
theorem nxt_hi {e : Nat} (he : e < 2 ^ 128) (ho : e % 2 = 1) : ixor .u64 (hiE (e >>> 1)) 16212958658533785600 = hiE (nxt e) ∧ loE (e >>> 1) = loE (nxt e) := by
  have hs : e >>> 1 < 2 ^ 128 := by rw [Nat.shiftRight_eq_div_pow]; omega
  have e1 : nxt e = (e >>> 1) ^^^ pR := by unfold nxt; rw [if_pos ho]
  have e2 : (16212958658533785600 : Int) = hiE pR := by decide
  have e3 : loE pR = 0 := by decide
  rw [e1, ← xor_hi hs pR_lt, ← e2, ← xor_lo, e3]
  refine ⟨rfl, ?_⟩
  have := ixorN (a := (e >>> 1) % 18446744073709551616) (b := 0) (by omega) (by decide)
  rw [Nat.xor_zero] at this
  exact this.symm
theorem nextE_c (he : e < 2 ^ 128) (h : ∀ w', Fr [] w w' → K (.agg #[.int .u64 (hiE (nxt e)), .int .u64 (loE (nxt e))]) w') :
    callF Tryz.prog F_poly_Elem_Next #[.agg #[.int .u64 (hiE e), .int .u64 (loE e)]] w K := by
  apply poly_Elem_Next_call
  unfold poly_Elem_Next
  refine newE fun w1 f1 h1 s1 => newEz fun w2 g2 f2 hB2 s2 => ?_
  have h12 := h1.fr0 f2
  refine ⟨_, h12.hiLd, _, h12.loLd, _, h12.hiLd, newEz fun w3 g3 f3 hB3 s3 => ?_⟩
  rw [half_hi, half_lo he]
  have z1 := f1.size; have z2 := f2.size
  have l1 := h1.lt
  refine stoE hB3 fun w4 f4 h4 s4 => ?_
  have f04 : Fr [] w w4 := ((f1.then f2).then f3).st f4 (by have := (f1.then f2).size; omega)
  have h14 := (h12.fr0 f3).fr f4 (by simp; omega)
  have hB24 : Blk w4 w1.heap.size 2 g2 := (hB2.fr0 f3).fr f4 (by simp; omega)
  have fin : ∀ w', Fr [] w w' → EAt w' w2.heap.size (nxt e) → Blk w' w1.heap.size 2 g2 → poly_Elem_Next_j1 ⟨w1.heap.size, 0, none⟩ ⟨w2.heap.size, 0, none⟩ w' K := by
    intro w' f' hE hB
    unfold poly_Elem_Next_j1
    refine ⟨_, _, hE.ld, stoE hB fun w5 f5 h5 s5 => ⟨_, _, rfl, h5.ld, h w5 (f'.st f5 (by omega))⟩⟩
  refine ⟨_, h14.loLd, ?_⟩
  rw [odd_lo]
  refine cond_ne (fun ho => ?_) (fun ho => ?_)
  · have ho : e % 2 = 1 := by omega
    obtain ⟨e1, e2⟩ := nxt_hi he ho
    refine ⟨_, h4.hiLd, ?_⟩
    rw [e1]
    obtain ⟨f, hB, q0, q1⟩ := h4
    refine Sto.blk (by kernel_rfl) hB (by omega) rfl rfl fun w5 f5 hB5 s5 => ?_
    refine fin w5 (f04.st f5 (by omega)) ⟨_, hB5, upd_same _ _ _, ?_⟩ (hB24.fr f5 (by simp; omega))
    rw [upd_ne _ _ _ (by decide), q1, e2]
  · have ho : ¬ e % 2 = 1 := by omega
    have e1 : e >>> 1 = nxt e := by unfold nxt; rw [if_neg ho, Nat.xor_zero]
    rw [e1] at h4
    exact fin w4 f04 h4 hB24
def ecells : List Nat → List Value
  | [] => []
  | e :: l => .int .u64 (hiE e) :: .int .u64 (loE e) :: ecells l
theorem ecells_len (l : List Nat) : (ecells l).length = l.length * 2 := by induction l with | nil => rfl | cons r l ih => simp only [ecells, List.length_cons, ih]; omega
theorem ecells_append (a b : List Nat) : ecells (a ++ b) = ecells a ++ ecells b := by induction a with | nil => rfl | cons r a ih => simp [ecells, ih]
theorem ecells_get : ∀ (l : List Nat) (i e : Nat), l[i]? = some e → (ecells l)[i * 2 + 0]? = some (.int .u64 (hiE e)) ∧ (ecells l)[i * 2 + 1]? = some (.int .u64 (loE e)) := by
  intro l
  induction l with
  | nil => intro i r h; simp at h
  | cons x l ih =>
    intro i r h
    cases i with
    | zero => simp at h; subst h; exact ⟨rfl, rfl⟩
    | succ i =>
      have := ih i r (by simpa using h)
      have e0 : (i + 1) * 2 + 0 = i * 2 + 0 + 2 := by omega
      have e1 : (i + 1) * 2 + 1 = i * 2 + 1 + 2 := by omega
      rw [e0, e1]; exact this
theorem ecells_one (l : List Nat) : ∀ v ∈ ecells l, v.oneCell' = true := by
  induction l with
  | nil => simp [ecells]
  | cons r l ih => intro v hv; simp only [ecells, List.mem_cons] at hv; rcases hv with rfl | rfl | hv; rfl; rfl; exact ih v hv
theorem elAt {p : Option Addr} {es : List Nat} (hX : Row w p (ecells es)) {l c i : Nat} (hl : l = es.length) (hi : i < l) :
    ∃ b o e, es[i]? = some e ∧ IxA Tryz.prog T_S_poly_Elem (.slice p l c) (.int .i64 (i : Int)) ⟨b, o, none⟩ ∧ w.cell? ⟨b, o + 0, none⟩ = some (.int .u64 (hiE e)) ∧ w.cell? ⟨b, o + 1, none⟩ = some (.int .u64 (loE e)) := by
  have hlt : i < es.length := by omega
  obtain ⟨b, o, ha, _, hc⟩ := hX.cellAt (P := Tryz.prog) (t := T_S_poly_Elem) (s := 2) (by kernel_rfl) (k := .i64) (l := l) (c := c) (by rw [ecells_len, hl]) hi (by omega)
  obtain ⟨h0, h1⟩ := ecells_get es i _ (List.getElem?_eq_getElem hlt)
  exact ⟨b, o, _, List.getElem?_eq_getElem hlt, ha, hc 0 _ (by omega) h0, hc 1 _ (by omega) h1⟩
def exor (l : List Nat) : Nat := l.foldl (fun a e => a ^^^ e) 0
theorem exor_lt {l : List Nat} (h : ∀ e ∈ l, e < 2 ^ 128) : exor l < 2 ^ 128 := by
  have : ∀ (l : List Nat) (a : Nat), a < 2 ^ 128 → (∀ e ∈ l, e < 2 ^ 128) → l.foldl (fun a e => a ^^^ e) a < 2 ^ 128 := by
    intro l
    induction l with
    | nil => intro a ha _; exact ha
    | cons x l ih => intro a ha hl; exact ih _ (xor_lt ha (hl x (by simp))) (fun e he => hl e (by simp [he]))
  exact this l 0 (by decide) h
theorem sumE_c {p : Option Addr} {l c : Nat} {es : List Nat} (hX : Row w p (ecells es)) (hl : l = es.length) (hlb : l < 1000000) (hs : ∀ e ∈ es, e < 2 ^ 128) (h : ∀ w', Fr [] w w' → K (.agg #[.int .u64 (hiE (exor es)), .int .u64 (loE (exor es))]) w') :
    callF Tryz.prog F_poly_Sum #[.slice p l c] w K := by
  apply poly_Sum_call
  unfold poly_Sum
  refine newEz fun w1 g1 f1 hB1 s1 => newE0 fun w2 f2 h2 s2 => ?_
  obtain ⟨a2, ha2⟩ : ∃ a, a = w.heap.size := ⟨_, rfl⟩
  obtain ⟨a3, ha3⟩ : ∃ a, a = w1.heap.size := ⟨_, rfl⟩
  rw [← ha2] at hB1 ⊢
  rw [← ha3] at h2 ⊢
  have z1 := f1.size
  have l2 := h2.lt
  refine LoopS.ind (fun k us w' => ∃ i : Nat, i + k = l ∧ us = [.pointer (some ⟨a2, 0, none⟩), .pointer (some ⟨a3, 0, none⟩), .slice p l c, .int .i64 (l : Int), .int .i64 (i : Int)] ∧ Fr [] w w' ∧ w2.heap.size ≤ w'.heap.size ∧ Blk w' a2 2 g1 ∧ EAt w' a3 (exor (es.take i))) l
    ⟨0, by omega, rfl, f1.then f2, Nat.le_refl _, hB1.fr0 f2, h2⟩ ?_
  rintro k us r w3 I μ hgo ⟨i, hi, rfl, f3, hsz, hB3, h3⟩
  refine ⟨_, _, _, _, _, _, _, rfl, cond_d (fun h4 => ?_) (fun h4 => ?_)⟩
  · obtain ⟨bb, o, e, he, ha, hc0, hc1⟩ := elAt hX (c := c) hl (i := i) (by omega)
    refine ⟨_, ha, _, _, ldCells (f3.cell hc0 (by simp)) (f3.cell hc1 (by simp)), newEz fun w4 g4 f4 hB4 s4 => ?_⟩
    refine stoE hB4 fun w5 f5 h5 s5 => ?_
    have f35 : Fr [] w3 w5 := f4.st f5 (by omega)
    have hee : e < 2 ^ 128 := hs e (List.mem_of_getElem? he)
    have htk : exor (es.take i) < 2 ^ 128 := exor_lt fun x hx => hs x (List.mem_of_mem_take hx)
    refine ⟨_, _, (h3.fr0 f35).ld, _, _, h5.ld, plus_c htk hee fun w6 f6 => ⟨_, _, rfl, ?_⟩⟩
    have f36 := f35.then f6
    refine (h3.fr0 f36).sto fun w7 f7 h7 s7 => ?_
    rw [wrap64 (n := (i : Int) + 1) (by omega) (by omega)]
    have z3 := f36.size
    have eE : exor (es.take i) ^^^ e = exor (es.take (i + 1)) := by
      unfold exor; rw [List.take_add_one, he, List.foldl_append]; rfl
    rw [eE] at h7
    exact hgo _ _ _ (k - 1) (by omega) ⟨i + 1, by omega, rfl, (f3.then f36).st f7 (by omega), by omega, (hB3.fr0 f36).fr f7 (by simp; omega), h7⟩
  · have : i = l := by omega
    subst this
    rw [List.take_of_length_le (by omega)] at h3
    unfold poly_Sum_j1
    exact ⟨_, _, h3.ld, stoE hB3 fun w4 f4 h4 s4 => ⟨_, _, rfl, h4.ld, h w4 (f3.st f4 (by omega))⟩⟩
theorem numL_append (a b : List UInt8) : numL (a ++ b) = numL a * 256 ^ b.length + numL b := by
  unfold numL
  rw [List.foldl_append]
  have : ∀ (l : List UInt8) (n : Nat), l.foldl (fun n x => n * 256 + x.toNat) n = n * 256 ^ l.length + l.foldl (fun n x => n * 256 + x.toNat) 0 := by
    intro l
    induction l with
    | nil => intro n; simp
    | cons x l ih =>
      intro n
      rw [List.foldl_cons, List.foldl_cons, ih, ih (0 * 256 + x.toNat), List.length_cons, Nat.pow_succ, Nat.add_mul]
      have : n * 256 * 256 ^ l.length = n * (256 ^ l.length * 256) := by rw [Nat.mul_assoc, Nat.mul_comm 256]
      rw [this, Nat.zero_mul, Nat.zero_add]; omega
  exact this b _
theorem num_halves {xs : List UInt8} (h : xs.length = 16) : hiE (numL xs) = (numL (xs.take 8) : Int) ∧ loE (numL xs) = (numL (xs.drop 8) : Int) := by
  have e := numL_append (xs.take 8) (xs.drop 8)
  rw [List.take_append_drop, List.length_drop, h] at e
  have b1 := numL_lt (xs.take 8); have b2 := numL_lt (xs.drop 8)
  rw [List.length_take, h] at b1
  rw [List.length_drop, h] at b2
  unfold hiE loE
  have p8 : (256 : Nat) ^ (16 - 8) = 18446744073709551616 := by decide
  have p8' : (256 : Nat) ^ (min 8 16) = 18446744073709551616 := by decide
  rw [p8] at e b2
  rw [p8'] at b1
  omega
theorem numL_lt16 {xs : List UInt8} (h : xs.length = 16) : numL xs < 2 ^ 128 := by
  have := numL_lt xs
  rw [h] at this
  have e : (256 : Nat) ^ 16 = 2 ^ 128 := by decide
  rwa [e] at this
theorem polyOf_c {p : Option Addr} {l c : Nat} {xs : List UInt8} (hx : Row w p (xs.map vb)) (hl : l = xs.length) (hc : l ≤ c) (hbad : l ≠ 16 → ∀ w', Fr [] w w' → K (.tuple #[.agg #[.int .u64 0, .int .u64 0], .int .i64 11]) w')
    (hok : l = 16 → ∀ w', Fr [] w w' → K (.tuple #[.agg #[.int .u64 (hiE (numL xs)), .int .u64 (loE (numL xs))], .int .i64 0]) w') : callF Tryz.prog F_poly_Of #[.slice p l c] w K := by
  apply poly_Of_call
  unfold poly_Of
  refine newEz fun w1 g1 f1 hB1 s1 => cond_ne (fun hne => ?_) (fun he => ?_)
  · refine stoE (e := 0) hB1 fun w2 f2 h2 s2 => ⟨_, _, rfl, h2.ld, hbad (by omega) w2 (f1.st f2 (by omega))⟩
  · have h16 : l = 16 := by omega
    have hx1 := hx.fr0 f1
    refine slTo hx1 hl (n := 8) (by omega) hc fun q1 d1 hq1 hl1 hd1 hb1 => ?_
    refine Num_c hq1 (by omega) (by omega) ⟨_, _, rfl, ?_⟩
    refine slFrom hx1 hl (n := 8) (by omega) hc fun q2 d2 hq2 hl2 hd2 hb2 => ?_
    refine Num_c hq2 hl2 (by omega) ⟨_, _, rfl, ?_⟩
    obtain ⟨e1, e2⟩ := num_halves (xs := xs) (by omega)
    rw [← e1, ← e2]
    refine stoE hB1 fun w2 f2 h2 s2 => ⟨_, _, rfl, h2.ld, hok h16 w2 (f1.st f2 (by omega))⟩
def bytesE (e : Nat) : List UInt8 := putL (e / 18446744073709551616) 8 ++ putL (e % 18446744073709551616) 8
end
end Go.Sh
end

section
namespace Go.Sh
open Go Go.Fw Go.Proofs
set_option maxRecDepth 100000
set_option linter.unusedVariables false
theorem low_eq : ∀ n : Nat, n < 16 → iand .i64 (n : Int) (IntKind.i64.wrap (0 - (n : Int))) = ((lowN n : Nat) : Int) := by decide +kernel
theorem lowN_cases : ∀ n : Nat, n < 16 → lowN n ≤ n ∧ (lowN n = n → n = 0 ∨ n = 1 ∨ n = 2 ∨ n = 4 ∨ n = 8) ∧ (lowN n ≠ n → lowN n < n ∧ n - lowN n < n ∧ n = lowN n ^^^ (n - lowN n)) := by decide
theorem bit_facts : ∀ t : Nat, t < 4 → 0 < 8 / 2 ^ t ∧ 8 / 2 ^ t < 16 := by decide
theorem bit_apart : ∀ t : Nat, t < 4 → ∀ s : Nat, s < 4 → 8 / 2 ^ t = 8 / 2 ^ s → t = s := by decide
theorem rowV_bit (F : Nat → Nat) : ∀ t, t < 4 → rowV F (8 / 2 ^ t) = F t := by
  obtain ⟨h8, h4, h2, h1⟩ := rowV_bits F
  intro t ht
  rcases t with _ | _ | _ | _ | t
  · exact h8
  · exact h4
  · exact h2
  · exact h1
  · omega
def ElC (f : Nat → Value) (o n e : Nat) : Prop := f (o + n * 2) = .int .u64 (hiE e) ∧ f (o + n * 2 + 1) = .int .u64 (loE e)
theorem ElC.upd_ne {f : Nat → Value} {o n e m e' : Nat} (h : ElC f o n e) (hm : n ≠ m) : ElC (updN f (o + m * 2) (elV e')) o n e := by
  unfold ElC
  rw [updE_ne _ _ _ (by omega), updE_ne _ _ _ (by omega)]; exact h
theorem ElC.upd_same (f : Nat → Value) (o n e : Nat) : ElC (updN f (o + n * 2) (elV e)) o n e := ⟨updE0 _ _ _, updE1 _ _ _⟩
theorem ixRow {b o n : Nat} {k : IntKind} (hn : n < 16) : IxA Tryz.prog T_ghash_row (.pointer (some ⟨b, o, none⟩)) (.int k (n : Int)) ⟨b, o + n * 2, none⟩ := by
  have := ixA (P := Tryz.prog) (t := T_ghash_row) (n := 16) (s := 2) (by kernel_rfl) (b := b) (o := o) (k := k) (i := (n : Int)) (by omega) (by omega)
  rwa [Int.toNat_natCast] at this
theorem ldElC {w : World} {b N o n e : Nat} {f : Nat → Value} (hB : Blk w b N f) (ho : o + n * 2 + 2 ≤ N) (h : ElC f o n e) : Ld Tryz.prog T_poly_Elem (.pointer (some ⟨b, o + n * 2, none⟩)) w (.agg #[.int .u64 (hiE e), .int .u64 (loE e)]) :=
  ldCells (by rw [hB.cell (by omega)]; exact congrArg some h.1) (by rw [hB.cell (by omega)]; exact congrArg some h.2)
section
variable {w : World} {b e : Nat} {K : Value → World → Prop}
theorem rows2 {x y : Nat} {K : Option Addr → Nat → Nat → World → Prop} (h : ∀ p w', Fr [] w w' → Row w' p (ecells [x, y]) → w'.heap.size = w.heap.size + 1 → K p 2 2 w') :
    ∃ p l c w', Ef Tryz.prog (Instr.buildSlice T_S_poly_Elem 2 #[(0, .agg #[.int .u64 (hiE x), .int .u64 (loE x)]), (1, .agg #[.int .u64 (hiE y), .int .u64 (loE y)])]) w (.slice p l c) w' ∧ K p l c w' :=
  ⟨_, _, _, Ef.new (v := .slice (some ⟨w.heap.size, 0, none⟩) 2 2) (cs := (ecells [x, y]).toArray) (e := T_poly_Elem) (by kernel_rfl) fun w' f hB s => h _ w' f hB.rowL s⟩
theorem exor2 (x y : Nat) : exor [x, y] = x ^^^ y := by simp [exor]
theorem sum2_c {p : Option Addr} {x y : Nat} (hR : Row w p (ecells [x, y])) (hx : x < 2 ^ 128) (hy : y < 2 ^ 128) (h : ∀ w', Fr [] w w' → K (.agg #[.int .u64 (hiE (x ^^^ y)), .int .u64 (loE (x ^^^ y))]) w') : callF Tryz.prog F_poly_Sum #[.slice p 2 2] w K := by
  refine sumE_c hR rfl (by decide) (by simp [hx, hy]) fun w' f => ?_
  rw [exor2]; exact h w' f
theorem rowV_lt {F : Nat → Nat} (h : ∀ t, F t < 2 ^ 128) (n : Nat) : rowV F n < 2 ^ 128 := psum_lt fun t _ => by
  split
  · exact h t
  · decide
set_option maxHeartbeats 2000000 in
theorem fill_c {N o : Nat} {f : Nat → Value} (hB : Blk w b N f) (ho : o + 32 ≤ N) (hz : ElC f o 0 0) (he : e < 2 ^ 128)
    (h : ∀ w' f', Fr [b] w w' → Blk w' b N f' → (∀ i, i < o ∨ o + 32 ≤ i → f' i = f i) → (∀ n, n < 16 → ElC f' o n (rowV (fun t => nxtN t e) n)) → K (.agg #[.int .u64 (hiE (nxtN 4 e)), .int .u64 (loE (nxtN 4 e))]) w') :
    callF Tryz.prog F_ghash_row_fill #[.pointer (some ⟨b, o, none⟩), .agg #[.int .u64 (hiE e), .int .u64 (loE e)]] w K := by
  apply ghash_row_fill_call
  unfold ghash_row_fill
  refine newE fun w1 f1 h1 s1 => newEz fun w2 g2 f2 hB2 s2 => ?_
  obtain ⟨a3, ha3⟩ : ∃ a, a = w.heap.size := ⟨_, rfl⟩
  obtain ⟨a4, ha4⟩ : ∃ a, a = w1.heap.size := ⟨_, rfl⟩
  rw [← ha3] at h1 ⊢
  rw [← ha4] at hB2 ⊢
  have hbl := hB.lt
  have z1 := f1.size
  refine LoopS.ind (fun k us w' => ∃ (t : Nat) (f' : Nat → Value), t + k = 4 ∧ us = [.pointer (some ⟨b, o, none⟩), .pointer (some ⟨a3, 0, none⟩), .pointer (some ⟨a4, 0, none⟩), .int .i64 ((8 / 2 ^ t : Nat) : Int)] ∧ Fr [b, a3] w2 w' ∧ Blk w' b N f' ∧ Blk w' a4 2 g2 ∧ EAt w' a3 (nxtN t e) ∧
      (∀ i, i < o ∨ o + 32 ≤ i → f' i = f i) ∧ ElC f' o 0 0 ∧ ∀ s, s < t → ElC f' o (8 / 2 ^ s) (nxtN s e)) 4
    ⟨0, f, rfl, rfl, Fr.refl _ _, hB.fr0 (f1.then f2), hB2, h1.fr0 f2, fun _ _ => rfl, hz, fun s hs => by omega⟩ ?_
  rintro k us r w3 I μ hgo ⟨t, f', ht, rfl, f3, hB3, hB43, h3, hout, hz', hs⟩
  refine ⟨_, _, _, _, rfl, cond_d (fun h4 => ?_) (fun h4 => ?_)⟩
  · have ht4 : t < 4 := by
      rcases Nat.lt_or_ge t 4 with h | h
      · exact h
      · have : t = 4 := by omega
        subst this; simp at h4
    obtain ⟨q1, q2⟩ := bit_facts t ht4
    refine Drw.intro fun w4 f4 s4 => ⟨_, rfl, _, _, (h3.fr0 f4).ld, _, ixRow q2, ?_⟩
    refine stoCellsE (hB3.fr0 f4) (by omega) fun w5 f5 hB5 s5 => ?_
    have h5 : EAt w5 a3 (nxtN t e) := (h3.fr0 f4).fr f5 (by simp; omega)
    refine ⟨_, _, h5.ld, nextE_c (nxtN_lt he t) fun w6 f6 => ⟨_, _, rfl, ?_⟩⟩
    refine (h5.fr0 f6).sto fun w7 f7 h7 s7 => ?_
    have e1 : Int.fdiv ((8 / 2 ^ t : Nat) : Int) (2 ^ 1) = ((8 / 2 ^ (t + 1) : Nat) : Int) := by
      rw [show ((2 : Int) ^ 1) = ((2 : Nat) : Int) from rfl, fdiv_nat, Nat.div_div_eq_div_mul, Nat.pow_succ]
    rw [e1]
    have f37 : Fr [b, a3] w3 w7 := (((f4.mono (by simp)).trans f5 (by simp)).trans f6 (by simp)).trans f7 (by simp)
    refine hgo _ _ _ (k - 1) (by omega) ⟨t + 1, _, by omega, rfl, f3.trans f37 (by simp), (hB5.fr0 f6).fr f7 (by simp; omega), (((hB43.fr0 f4).fr f5 (by simp; omega)).fr0 f6).fr f7 (by simp; omega), h7, fun i hi => ?_, hz'.upd_ne (by omega), fun s hst => ?_⟩
    · rw [updE_ne _ _ _ (by omega)]; exact hout i hi
    · by_cases hst' : s = t
      · subst hst'; exact ElC.upd_same _ _ _ _
      · exact (hs s (by omega)).upd_ne fun hh => hst' (bit_apart s (by omega) t ht4 hh)
  · have ht4 : t = 4 := by
      rcases Nat.lt_or_ge t 4 with h | h
      · have := (bit_facts t h).1; omega
      · omega
    subst ht4
    have hk : ∀ n, n = 0 ∨ n = 1 ∨ n = 2 ∨ n = 4 ∨ n = 8 → ElC f' o n (rowV (fun t => nxtN t e) n) := by
      intro n hn
      rcases hn with rfl | rfl | rfl | rfl | rfl
      · rw [rowV_zero]; exact hz'
      · rw [show (1 : Nat) = 8 / 2 ^ 3 from rfl, rowV_bit _ 3 (by omega)]; exact hs 3 (by omega)
      · rw [show (2 : Nat) = 8 / 2 ^ 2 from rfl, rowV_bit _ 2 (by omega)]; exact hs 2 (by omega)
      · rw [show (4 : Nat) = 8 / 2 ^ 1 from rfl, rowV_bit _ 1 (by omega)]; exact hs 1 (by omega)
      · rw [show (8 : Nat) = 8 / 2 ^ 0 from rfl, rowV_bit _ 0 (by omega)]; exact hs 0 (by omega)
    unfold ghash_row_fill_j2
    refine LoopS.ind (fun k us w' => ∃ (n : Nat) (f2' : Nat → Value), n + k = 16 ∧ us = [.pointer (some ⟨b, o, none⟩), .pointer (some ⟨a3, 0, none⟩), .pointer (some ⟨a4, 0, none⟩), .int .i64 (n : Int)] ∧ Fr [b, a3] w2 w' ∧ Blk w' b N f2' ∧ Blk w' a4 2 g2 ∧ EAt w' a3 (nxtN 4 e) ∧
        (∀ i, i < o ∨ o + 32 ≤ i → f2' i = f i) ∧ ∀ m, m < 16 → (m < n ∨ m = 0 ∨ m = 1 ∨ m = 2 ∨ m = 4 ∨ m = 8) → ElC f2' o m (rowV (fun t => nxtN t e) m)) 16
      ⟨0, f', rfl, rfl, f3, hB3, hB43, h3, hout, fun m _ hm => hk m (by omega)⟩ ?_
    rintro k us r w4 I μ hgo ⟨n, f2', hn, rfl, f4, hB4, hB44, h4', hout', hm⟩
    refine ⟨_, _, _, _, rfl, cond_d (fun h5 => ?_) (fun h5 => ?_)⟩
    · have hn16 : n < 16 := by omega
      rw [low_eq n hn16]
      obtain ⟨l0, l1, l2⟩ := lowN_cases n hn16
      rw [wrap64 (n := (n : Int) + 1) (by omega) (by omega)]
      refine cond_ne (fun hne => ?_) (fun heq => ?_)
      · obtain ⟨l3, l4, l5⟩ := l2 (by omega)
        have e1 : IntKind.i64.wrap ((n : Int) - ((lowN n : Nat) : Int)) = ((n - lowN n : Nat) : Int) := by rw [wrap64 (by omega) (by omega)]; omega
        rw [e1]
        refine ⟨fun w' => Fr [] w4 w', Drw.intro fun w5 f5 s5 => ?_⟩
        refine ⟨_, rfl, _, ixRow (by omega), _, rfl, _, ixRow (by omega), _, rfl, ?_⟩
        refine ⟨_, _, ⟨f5, fun w' hw' => ldElC (hB4.fr0 hw') (by omega) (hm _ (by omega) (.inl l3))⟩, _, _, ldElC (hB4.fr0 f5) (by omega) (hm _ (by omega) (.inl l4)), .inl rfl, ?_⟩
        have hF : ∀ t, nxtN t e < 2 ^ 128 := fun t => nxtN_lt he t
        refine rows2 fun p w6 f6 hR6 s6 => sum2_c hR6 (rowV_lt hF _) (rowV_lt hF _) fun w7 f7 => ⟨_, _, rfl, _, ixRow hn16, ?_⟩
        rw [← rowV_xor, ← l5]
        have f57 := (f5.then f6).then f7
        refine stoCellsE (hB4.fr0 f57) (by omega) fun w8 f8 hB8 s8 => ?_
        refine hgo _ _ _ (k - 1) (by omega) ⟨n + 1, _, by omega, rfl, f4.trans (l1 := [b, a3]) ((f57.mono (by simp)).trans (l := [b, a3]) (l1 := [b]) f8 (fun x hx => .inl (by simp at hx; simp [hx]))) (by simp), hB8, (hB44.fr0 f57).fr f8 (by simp; omega), (h4'.fr0 f57).fr f8 (by simp; omega), fun i hi => ?_, fun m hm16 hmn => ?_⟩
        · rw [updE_ne _ _ _ (by omega)]; exact hout' i hi
        · by_cases hmn' : m = n
          · subst hmn'; exact ElC.upd_same _ _ _ _
          · exact (hm m hm16 (by omega)).upd_ne hmn'
      · refine hgo _ _ _ (k - 1) (by omega) ⟨n + 1, f2', by omega, rfl, f4, hB4, hB44, h4', hout', fun m hm16 hmn => ?_⟩
        have := l1 (by omega)
        exact hm m hm16 (by omega)
    · have : n = 16 := by omega
      subst this
      unfold ghash_row_fill_j1
      refine ⟨_, _, h4'.ld, stoE hB44 fun w5 f5 h5 s5 => ⟨_, _, rfl, h5.ld, ?_⟩⟩
      refine h w5 f2' ?_ (hB4.fr f5 (by simp; omega)) hout' fun m hm16 => hm m hm16 (.inl hm16)
      have g2' : Fr [b] w w2 := (f1.then f2).mono (by simp)
      exact (g2'.trans f4 (fun x hx => by simp at hx; rcases hx with rfl | rfl; exact .inl (by simp); exact .inr (by omega))).trans f5 (fun x hx => .inr (by simp at hx; omega))
def TabR (f : Nat → Value) (H k : Nat) : Prop := ∀ n, n < 16 → ElC f (6 + k * 32) n (rowV (fun t => nxtN (4 * k + t) H) n)
theorem ixTab {k : Nat} (hk : k < 32) : IxA Tryz.prog T_A32_ghash_row (.pointer (some ((⟨b, 0, none⟩ : Addr).add 6))) (.int .i64 (k : Int)) ⟨b, 6 + k * 32, none⟩ := by
  have := ixA (P := Tryz.prog) (t := T_A32_ghash_row) (n := 32) (s := 32) (by kernel_rfl) (b := b) (o := 6) (k := .i64) (i := (k : Int)) (by omega) (by omega)
  rw [Int.toNat_natCast] at this
  rw [add_mk]; exact this
set_option maxHeartbeats 1000000 in
theorem gmake_c {f : Nat → Value} {H : Nat} {n : Int} (hB : Blk w b 1030 f) (h0 : f 0 = .int .u64 (hiE H)) (h1 : f 1 = .int .u64 (loE H)) (h5 : f 5 = .int .i64 n) (hn : n = 0) (hz : ∀ k, k < 32 → ElC f (6 + k * 32) 0 0) (hH : H < 2 ^ 128)
    (h : ∀ w' f', Fr [b] w w' → Blk w' b 1030 f' → (∀ i, i < 5 → f' i = f i) → f' 5 = .int .i64 1 → (∀ k, k < 32 → TabR f' H k) → K (.tuple #[]) w') : callF Tryz.prog F_ghash_Hash_make #[.pointer (some ⟨b, 0, none⟩)] w K := by
  subst hn
  apply ghash_Hash_make_call
  unfold ghash_Hash_make
  refine ⟨_, rfl, ?_⟩
  rw [add_mk]
  refine sync_atomic_Int64_Add_c hB (by omega) h5 fun w1 f1 hB1 s1 => ⟨_, rfl, _, rfl, ?_⟩
  have k0 : upd f (0 + 5) (.int .i64 (IntKind.i64.wrap (0 + 1))) 0 = .int .u64 (hiE H) := by rw [upd_ne _ _ _ (by omega)]; exact h0
  have k1 : upd f (0 + 5) (.int .i64 (IntKind.i64.wrap (0 + 1))) 1 = .int .u64 (loE H) := by rw [upd_ne _ _ _ (by omega)]; exact h1
  obtain ⟨g, hg⟩ : ∃ g, g = upd f (0 + 5) (.int .i64 (IntKind.i64.wrap (0 + 1))) := ⟨_, rfl⟩
  have g5 : g 5 = .int .i64 1 := by rw [hg]; exact upd_same _ _ _
  have gne : ∀ i, i ≠ 5 → g i = f i := fun i hi => by rw [hg]; exact upd_ne _ _ _ (by omega)
  rw [← hg] at hB1 k0 k1
  refine ⟨_, _, by rw [add_mk]; exact ldCells (by rw [hB1.cell (by omega)]; exact congrArg some k0) (by rw [hB1.cell (by omega)]; exact congrArg some k1), newEz fun w2 g2 f2 hB2 s2 => ?_⟩
  obtain ⟨a2, ha2⟩ : ∃ a, a = w1.heap.size := ⟨_, rfl⟩
  rw [← ha2] at hB2 ⊢
  have hbl := hB.lt
  refine stoE hB2 fun w3 f3 h3 s3 => ?_
  have f13 : Fr [] w1 w3 := f2.st f3 (by omega)
  refine LoopS.ind (fun k us w' => ∃ (j : Nat) (f' : Nat → Value), j + k = 32 ∧ us = [.pointer (some ⟨b, 0, none⟩), .pointer (some ⟨a2, 0, none⟩), .int .i64 (j : Int)] ∧ Fr [b, a2] w3 w' ∧ Blk w' b 1030 f' ∧ EAt w' a2 (nxtN (4 * j) H) ∧ (∀ i, i < 6 → f' i = g i) ∧ (∀ i, i < j → TabR f' H i) ∧ ∀ i, j ≤ i → i < 32 → ElC f' (6 + i * 32) 0 0) 32
    ⟨0, g, rfl, rfl, Fr.refl _ _, hB1.fr0 f13, h3, fun _ _ => rfl, fun i hi => by omega, fun i _ hi => ⟨by rw [gne _ (by omega)]; exact (hz i hi).1, by rw [gne _ (by omega)]; exact (hz i hi).2⟩⟩ ?_
  rintro k us r w4 I μ hgo ⟨j, f', hj, rfl, f4, hB4, h4, hlow, htab, hzero⟩
  refine ⟨_, _, _, rfl, cond_d (fun h6 => ?_) (fun h6 => ?_)⟩
  · refine Drw.intro fun w5 f5 s5 => ⟨_, rfl, _, ixTab (by omega), _, _, (h4.fr0 f5).ld, ?_⟩
    refine fill_c (hB4.fr0 f5) (by omega) (hzero j (Nat.le_refl _) (by omega)) (nxtN_lt hH _) fun w6 f'' f6 hB6 hout hrow => ⟨_, _, rfl, ?_⟩
    have h46 : EAt w6 a2 (nxtN (4 * j) H) := (h4.fr0 f5).fr f6 (by simp; omega)
    refine h46.sto fun w7 f7 h7 s7 => ?_
    rw [wrap64 (n := (j : Int) + 1) (by omega) (by omega)]
    rw [← nxtN_add, show 4 + 4 * j = 4 * (j + 1) by omega] at h7
    refine hgo _ _ _ (k - 1) (by omega) ⟨j + 1, f'', by omega, rfl, f4.trans (((f5.mono (by simp)).trans (l1 := [b]) f6 (fun x hx => .inl (by simp at hx; simp [hx]))).trans (l := [b, a2]) f7 (fun x hx => .inl (by simp at hx; simp [hx]))) (by simp), hB6.fr f7 (by simp; omega), h7, fun i hi => by rw [hout i (.inl (by omega))]; exact hlow i hi, fun i hi => ?_, fun i hi hi32 => ⟨by rw [hout _ (.inr (by omega))]; exact (hzero i (by omega) hi32).1, by rw [hout _ (.inr (by omega))]; exact (hzero i (by omega) hi32).2⟩⟩
    by_cases hij : i = j
    · subst hij
      intro n hn
      have := hrow n hn
      have eF : (fun t => nxtN t (nxtN (4 * i) H)) = fun t => nxtN (4 * i + t) H := by funext t; rw [← nxtN_add, Nat.add_comm]
      rw [eF] at this
      exact this
    · intro n hn
      have := htab i (by omega) n hn
      exact ⟨by rw [hout _ (.inl (by omega))]; exact this.1, by rw [hout _ (.inl (by omega))]; exact this.2⟩
  · have : j = 32 := by omega
    subst this
    refine h w4 f' ?_ hB4 (fun i hi => by rw [hlow i (by omega), gne i (by omega)]) (by rw [hlow 5 (by omega)]; exact g5) htab
    exact ((f1.trans f13 (by simp)).trans f4 (fun x hx => by simp at hx; rcases hx with rfl | rfl; exact .inl (by simp); exact .inr (by have := f1.size; omega)))
def HAt (w : World) (b H : Nat) (m : Bool) : Prop := ∃ f, Blk w b 1030 f ∧ H < 2 ^ 128 ∧ f 0 = .int .u64 (hiE H) ∧ f 1 = .int .u64 (loE H) ∧ f 3 = .int .i32 0 ∧
  (match m with | true => f 2 = .int .u32 1 ∧ ∀ k, k < 32 → TabR f H k | false => f 2 = .int .u32 0 ∧ f 5 = .int .i64 0 ∧ ∀ k, k < 32 → ElC f (6 + k * 32) 0 0)
theorem HAt.fr {L : List Nat} {w' : World} {H : Nat} {m : Bool} (h : HAt w b H m) (hf : Fr L w w') (hn : b ∉ L) : HAt w' b H m := by obtain ⟨f, hB, r⟩ := h; exact ⟨f, hB.fr hf hn, r⟩
theorem HAt.fr0 {w' : World} {H : Nat} {m : Bool} (h : HAt w b H m) (hf : Fr [] w w') : HAt w' b H m := h.fr hf (by simp)
theorem HAt.lt {H : Nat} {m : Bool} (h : HAt w b H m) : b < w.heap.size := by obtain ⟨f, hB, _⟩ := h; exact hB.lt
theorem gonce_c {H : Nat} {m : Bool} (hH : HAt w b H m) (h : ∀ w', Fr [b] w w' → HAt w' b H true → K (.tuple #[]) w') :
    callF Tryz.prog F_sync_Once_Do #[.pointer (some ((⟨b, 0, none⟩ : Addr).add 2)), .func (.func F_ghash_Hash_make) #[.pointer (some ⟨b, 0, none⟩)] #[]] w K := by
  obtain ⟨f, hB, hlt, h0, h1, h3, hm⟩ := hH
  rw [add_mk]
  cases m with
  | true => exact sync_Once_Do_done hB (by omega) hm.1 (h w (Fr.refl _ _) ⟨f, hB, hlt, h0, h1, h3, hm⟩)
  | false =>
    obtain ⟨h2, h5, hz⟩ := hm
    refine sync_Once_Do_first hB (by omega) h2 h3 fun w1 f1 hB1 s1 => callV_m ?_
    refine gmake_c hB1 (by rw [upd_ne _ _ _ (by omega)]; exact h0) (by rw [upd_ne _ _ _ (by omega)]; exact h1) (by rw [upd_ne _ _ _ (by omega)]; exact h5) rfl (fun k hk => ⟨by rw [upd_ne _ _ _ (by omega)]; exact (hz k hk).1, by rw [upd_ne _ _ _ (by omega)]; exact (hz k hk).2⟩) hlt fun w2 f' f2 hB2 hlow g5 htab => ?_
    refine ⟨rfl, f', hB2, by rw [hlow _ (by omega)]; exact upd_same _ _ _, fun w3 f3 hB3 s3 => ?_⟩
    have fB : Fr [b] w w3 := (f1.trans f2 (fun _ h => .inl h)).trans f3 (fun _ h => .inl h)
    refine h w3 fB ⟨_, hB3, hlt, ?_, ?_, upd_same _ _ _, ?_, fun k hk n hn => ⟨?_, ?_⟩⟩
    · rw [upd_ne _ _ _ (by omega), upd_ne _ _ _ (by omega), hlow 0 (by omega), upd_ne _ _ _ (by omega)]; exact h0
    · rw [upd_ne _ _ _ (by omega), upd_ne _ _ _ (by omega), hlow 1 (by omega), upd_ne _ _ _ (by omega)]; exact h1
    · rw [upd_ne _ _ _ (by omega)]; exact upd_same _ _ _
    · rw [upd_ne _ _ _ (by omega), upd_ne _ _ _ (by omega)]; exact (htab k hk n hn).1
    · rw [upd_ne _ _ _ (by omega), upd_ne _ _ _ (by omega)]; exact (htab k hk n hn).2
end
end Go.Sh
end

section
namespace Go.Sh
open Go Go.Fw Go.Proofs
set_option maxRecDepth 100000
set_option linter.unusedVariables false
theorem gnib_hi (e k : Nat) (hk : k < 16) : e / 18446744073709551616 / 2 ^ (4 * (15 - k)) % 16 = e >>> (4 * (31 - k)) % 16 := by
  rw [Nat.shiftRight_eq_div_pow, Nat.div_div_eq_div_mul, show (18446744073709551616 : Nat) = 2 ^ 64 from rfl, ← Nat.pow_add]
  congr 3; omega
theorem gnib_lo (e k : Nat) (hk : 16 ≤ k) (hk2 : k < 32) : e % 18446744073709551616 / 2 ^ (4 * (31 - k)) % 16 = e >>> (4 * (31 - k)) % 16 := by
  rw [← Nat.shiftRight_eq_div_pow, show (18446744073709551616 : Nat) = 2 ^ 64 from rfl, show (16 : Nat) = 2 ^ 4 from rfl]
  apply Nat.eq_of_testBit_eq
  intro i
  rw [Nat.testBit_mod_two_pow, Nat.testBit_mod_two_pow, Nat.testBit_shiftRight, Nat.testBit_shiftRight, Nat.testBit_mod_two_pow]
  by_cases hi : i < 4
  · rw [decide_eq_true hi, decide_eq_true (show 4 * (31 - k) + i < 64 by omega)]; simp
  · rw [decide_eq_false hi]; simp
section
variable {w : World} {b : Nat} {K : Value → World → Prop}
set_option maxHeartbeats 2000000 in
theorem gTimes_c {H e : Nat} {m : Bool} (hH : HAt w b H m) (he : e < 2 ^ 128) (h : ∀ w', Fr [b] w w' → HAt w' b H true → K (.agg #[.int .u64 (hiE (pmul e H)), .int .u64 (loE (pmul e H))]) w') :
    callF Tryz.prog F_ghash_Hash_Times #[.pointer (some ⟨b, 0, none⟩), .agg #[.int .u64 (hiE e), .int .u64 (loE e)]] w K := by
  apply ghash_Hash_Times_call
  unfold ghash_Hash_Times
  have hbl := hH.lt
  refine newE fun w1 f1 h1 s1 => newEz fun w2 g2 f2 hB2 s2 => ⟨_, rfl, ?_⟩
  obtain ⟨a3, ha3⟩ : ∃ a, a = w.heap.size := ⟨_, rfl⟩
  obtain ⟨a4, ha4⟩ : ∃ a, a = w1.heap.size := ⟨_, rfl⟩
  rw [← ha3] at h1 ⊢
  rw [← ha4] at hB2 ⊢
  have z1 := f1.size; have z2 := f2.size
  refine gonce_c (hH.fr0 (f1.then f2)) fun w3 f3 hH3 => ⟨rfl, newE0 fun w4 f4 h4 s4 => ?_⟩
  obtain ⟨a5, ha5⟩ : ∃ a, a = w3.heap.size := ⟨_, rfl⟩
  rw [← ha5] at h4 ⊢
  have z3 := f3.size; have z4 := f4.size
  have hE4 : EAt w4 a3 e := ((h1.fr0 f2).fr f3 (by simp; omega)).fr0 f4
  have hB4 : Blk w4 a4 2 g2 := (hB2.fr f3 (by simp; omega)).fr0 f4
  have fw4 : Fr [b] w w4 := (((f1.then f2).mono (by simp)).trans f3 (fun x hx => .inl hx)).trans f4 (by simp)
  have hH4 := hH3.fr0 f4
  refine LoopS.ind (fun k us w' => ∃ j : Nat, j + k = 32 ∧ us = [.pointer (some ⟨b, 0, none⟩), .pointer (some ⟨a3, 0, none⟩), .pointer (some ⟨a4, 0, none⟩), .pointer (some ⟨a5, 0, none⟩), .int .i64 (j : Int)] ∧ Fr [a5] w4 w' ∧ EAt w' a5 (psum (fun k => rowV (fun t => nxtN (4 * k + t) H) (e >>> (4 * (31 - k)) % 16)) j)) 32
    ⟨0, rfl, rfl, Fr.refl _ _, h4⟩ ?_
  rintro k us r w5 I μ hgo ⟨j, hj, rfl, f5, h5⟩
  have hE5 := hE4.fr f5 (by simp; omega)
  have hH5 := hH4.fr f5 (by simp; omega)
  refine ⟨_, _, _, _, _, rfl, cond_d (fun h6 => ?_) (fun h6 => ?_)⟩
  · have hj32 : j < 32 := by omega
    obtain ⟨f, hB, hlt, q0, q1, q3, q2, htab⟩ := id hH5
    have hF : ∀ t, nxtN (4 * j + t) H < 2 ^ 128 := fun t => nxtN_lt hlt _
    have step : ∀ x : Nat, x < 18446744073709551616 → x / 2 ^ (4 * (15 - j % 16)) % 16 = e >>> (4 * (31 - j)) % 16 →
        ghash_Hash_Times_j1 I μ [.pointer (some ⟨b, 0, none⟩), .pointer (some ⟨a3, 0, none⟩), .pointer (some ⟨a4, 0, none⟩), .pointer (some ⟨a5, 0, none⟩), .int .i64 (j : Int)] w5 (some ⟨b, 0, none⟩) ⟨a3, 0, none⟩ ⟨a4, 0, none⟩ ⟨a5, 0, none⟩ (j : Int) (x : Int) (j : Int) w5 K := by
      intro x hx hn
      unfold ghash_Hash_Times_j1
      refine ⟨fun w' => Fr [] w5 w', Drw.intro fun w6 f6 s6 => ?_⟩
      have esh : IntKind.i64.wrap (4 * (IntKind.i64.wrap (15 - (Int.tmod (j : Int) 16)))) = ((4 * (15 - j % 16) : Nat) : Int) := by
        have : Int.tmod (j : Int) 16 = ((j % 16 : Nat) : Int) := by rw [Int.tmod_eq_emod_of_nonneg (by omega)]; rfl
        rw [this, wrap64 (n := 15 - ((j % 16 : Nat) : Int)) (by omega) (by omega), wrap64 (by omega) (by omega)]; omega
      rw [esh]
      refine ⟨_, shrU hx (by omega), _, rfl, _, ixTab hj32, ?_⟩
      have hdl : x / 2 ^ (4 * (15 - j % 16)) < 18446744073709551616 := Nat.lt_of_le_of_lt (Nat.div_le_self _ _) hx
      have ea : iand .u64 ((x / 2 ^ (4 * (15 - j % 16)) : Nat) : Int) 15 = ((e >>> (4 * (31 - j)) % 16 : Nat) : Int) := by
        have := iandN (a := x / 2 ^ (4 * (15 - j % 16))) (b := 15) hdl (by decide)
        rw [show (15 : Nat) = 2 ^ 4 - 1 from rfl, Nat.and_two_pow_sub_one_eq_mod] at this
        rw [show ((15 : Int)) = (((2 ^ 4 - 1 : Nat) : Nat) : Int) from rfl, this, show (2 ^ 4 : Nat) = 16 from rfl, hn]
      rw [ea]
      have hnib : e >>> (4 * (31 - j)) % 16 < 16 := Nat.mod_lt _ (by decide)
      have hB6 := hB.fr0 f6
      refine ⟨_, ixRow hnib, _, _, ⟨f6, fun w' hw' => (h5.fr0 hw').ld⟩, _, _, ldElC hB6 (by omega) (htab j hj32 _ hnib), .inl rfl, ?_⟩
      refine rows2 fun p w7 f7 hR7 s7 => sum2_c hR7 (psum_lt fun i _ => rowV_lt (fun t => nxtN_lt hlt _) _) (rowV_lt hF _) fun w8 f8 => ⟨_, _, rfl, ?_⟩
      have f58 := (f6.then f7).then f8
      refine (h5.fr0 f58).sto fun w9 f9 h9 s9 => ?_
      rw [wrap64 (n := (j : Int) + 1) (by omega) (by omega)]
      exact hgo _ _ _ (k - 1) (by omega) ⟨j + 1, by omega, rfl, f5.trans ((f58.mono (by simp)).trans f9 (fun x hx => .inl hx)) (fun x hx => .inl hx), h9⟩
    refine ⟨_, hE5.hiLd, cond_d (fun h7 => ⟨_, hE5.loLd, ?_⟩) (fun h7 => ?_)⟩
    · refine step _ (by omega) ?_
      rw [show 15 - j % 16 = 31 - j by omega]
      exact gnib_lo e j (by omega) hj32
    · refine step _ (hi_lt he) ?_
      rw [show j % 16 = j by omega]
      exact gnib_hi e j (by omega)
  · have : j = 32 := by omega
    subst this
    rw [← pmul_table] at h5
    unfold ghash_Hash_Times_j2
    have hB5 : Blk w5 a4 2 g2 := hB4.fr f5 (by simp; omega)
    refine ⟨_, _, h5.ld, stoE hB5 fun w6 f6 h6' s6 => ⟨_, _, rfl, h6'.ld, ?_⟩⟩
    exact h w6 ((fw4.trans f5 (fun x hx => .inr (by simp at hx; omega))).trans f6 (fun x hx => .inr (by simp at hx; omega))) (hH5.fr f6 (by simp; omega))
def foldE (H : Nat) (a : Nat) (es : List Nat) : Nat := es.foldl (fun a x => pmul (a ^^^ x) H) a
theorem foldE_lt {H : Nat} (hH : H < 2 ^ 128) : ∀ (es : List Nat) (a : Nat), a < 2 ^ 128 → foldE H a es < 2 ^ 128 := by
  intro es
  induction es with
  | nil => intro a ha; exact ha
  | cons x es ih => intro a _; exact ih _ (pmul_lt hH)
set_option maxHeartbeats 1000000 in
theorem gFold_c {H e : Nat} {m : Bool} {p : Option Addr} {l c : Nat} {es : List Nat} (hH : HAt w b H m) (he : e < 2 ^ 128) (hX : Row w p (ecells es)) (hp : ∀ k ∈ blks p, k ≠ b) (hl : l = es.length) (hlb : l < 1000000) (hs : ∀ x ∈ es, x < 2 ^ 128)
    (h : ∀ w' m', Fr [b] w w' → HAt w' b H m' → K (.agg #[.int .u64 (hiE (foldE H e es)), .int .u64 (loE (foldE H e es))]) w') :
    callF Tryz.prog F_ghash_Hash_Fold #[.pointer (some ⟨b, 0, none⟩), .agg #[.int .u64 (hiE e), .int .u64 (loE e)], .slice p l c] w K := by
  apply ghash_Hash_Fold_call
  unfold ghash_Hash_Fold
  have hbl := hH.lt
  have hlt : H < 2 ^ 128 := by obtain ⟨_, _, q, _⟩ := hH; exact q
  refine newE fun w1 f1 h1 s1 => newEz fun w2 g2 f2 hB2 s2 => ?_
  obtain ⟨a4, ha4⟩ : ∃ a, a = w.heap.size := ⟨_, rfl⟩
  obtain ⟨a6, ha6⟩ : ∃ a, a = w1.heap.size := ⟨_, rfl⟩
  rw [← ha4] at h1 ⊢
  rw [← ha6] at hB2 ⊢
  have z1 := f1.size; have z2 := f2.size
  refine LoopS.ind (fun k us w' => ∃ (j : Nat) (m' : Bool), j + k = l ∧ us = [.pointer (some ⟨b, 0, none⟩), .pointer (some ⟨a4, 0, none⟩), .pointer (some ⟨a6, 0, none⟩), .slice p l c, .int .i64 (l : Int), .int .i64 (j : Int)] ∧ Fr [b] w w' ∧ w2.heap.size ≤ w'.heap.size ∧ HAt w' b H m' ∧ EAt w' a4 (foldE H e (es.take j)) ∧ Blk w' a6 2 g2) l
    ⟨0, m, by omega, rfl, (f1.then f2).mono (by simp), Nat.le_refl _, hH.fr0 (f1.then f2), h1.fr0 f2, hB2⟩ ?_
  rintro k us r w3 I μ hgo ⟨j, m', hj, rfl, f3, hsz, hH3, h3, hB3⟩
  refine ⟨_, _, _, _, _, _, _, _, rfl, cond_d (fun h4 => ?_) (fun h4 => ?_)⟩
  · have hX3 : Row w3 p (ecells es) := hX.fr f3 (fun a ha hm => by simp at hm; exact hp a.block (by simp [ha, blks]) hm)
    obtain ⟨bb, o, x, hx, ha, hc0, hc1⟩ := elAt hX3 (c := c) hl (i := j) (by omega)
    have hx8 : x < 2 ^ 128 := hs x (List.mem_of_getElem? hx)
    refine ⟨_, ha, _, _, ldCells hc0 hc1, newEz fun w4 g4 f4 hB4 s4 => stoE hB4 fun w5 f5 h5 s5 => ?_⟩
    have f35 : Fr [] w3 w5 := f4.st f5 (by omega)
    refine ⟨_, _, (h3.fr0 f35).ld, _, _, h5.ld, rows2 fun q w6 f6 hR6 s6 => ?_⟩
    have hacc := foldE_lt hlt (es.take j) e he
    refine sum2_c hR6 hacc hx8 fun w7 f7 => ⟨_, _, rfl, ?_⟩
    have f37 := (f35.then f6).then f7
    refine gTimes_c (hH3.fr0 f37) (xor_lt hacc hx8) fun w8 f8 hH8 => ⟨_, _, rfl, ?_⟩
    have z3 := f37.size; have z8 := f8.size
    have h8 := (h3.fr0 f37).fr f8 (by simp; omega)
    refine h8.sto fun w9 f9 h9 s9 => ?_
    have e1 : pmul (foldE H e (es.take j) ^^^ x) H = foldE H e (es.take (j + 1)) := by unfold foldE; rw [List.take_add_one, hx, List.foldl_append]; rfl
    rw [e1] at h9
    rw [wrap64 (n := (j : Int) + 1) (by omega) (by omega)]
    refine hgo _ _ _ (k - 1) (by omega) ⟨j + 1, true, by omega, rfl, ((f3.trans f37 (by simp)).trans f8 (fun x hx => .inl hx)).trans f9 (fun x hx => .inr (by simp at hx; omega)), by omega, hH8.fr f9 (by simp; omega), h9, ((hB3.fr0 f37).fr f8 (by simp; omega)).fr f9 (by simp; omega)⟩
  · have : j = l := by omega
    subst this
    rw [List.take_of_length_le (by omega)] at h3
    unfold ghash_Hash_Fold_j1
    refine ⟨_, _, h3.ld, stoE hB3 fun w4 f4 h4' s4 => ⟨_, _, rfl, h4'.ld, ?_⟩⟩
    exact h w4 m' (f3.trans f4 (fun x hx => .inr (by simp at hx; omega))) (hH3.fr f4 (by simp; omega))
theorem glengths_c {p q : Option Addr} {l c k d : Nat} (hl : l < 1000000000) (hk : k < 1000000000) (h : ∀ w', Fr [] w w' → K (.agg #[.int .u64 (hiE (l * 8 * 18446744073709551616 + k * 8)), .int .u64 (loE (l * 8 * 18446744073709551616 + k * 8))]) w') :
    callF Tryz.prog F_ghash_lengths #[.slice p l c, .slice q k d] w K := by
  apply ghash_lengths_call
  unfold ghash_lengths
  refine newEz fun w1 g1 f1 hB1 s1 => ?_
  have e1 : IntKind.u64.wrap (IntKind.u64.wrap ((l : Nat) : Int) * 8) = hiE (l * 8 * 18446744073709551616 + k * 8) := by
    unfold hiE; rw [wrapu64 (n := (l : Int)) (by omega) (by omega), wrapu64 (by omega) (by omega)]; omega
  have e2 : IntKind.u64.wrap (IntKind.u64.wrap ((k : Nat) : Int) * 8) = loE (l * 8 * 18446744073709551616 + k * 8) := by
    unfold loE; rw [wrapu64 (n := (k : Int)) (by omega) (by omega), wrapu64 (by omega) (by omega)]; omega
  rw [e1, e2]
  exact stoE hB1 fun w2 f2 h2 s2 => ⟨_, _, rfl, h2.ld, h w2 (f1.st f2 (by omega))⟩
theorem elBytes_c {e : Nat} (he : e < 2 ^ 128) (h : ∀ q d w', Fr [] w w' → OB w' q 16 d (bytesE e) w.heap.size → K (.slice q 16 d) w') :
    callF Tryz.prog F_poly_Elem_Bytes #[.agg #[.int .u64 (hiE e), .int .u64 (loE e)]] w K := by
  apply poly_Elem_Bytes_call
  unfold poly_Elem_Bytes
  refine newE fun w1 f1 h1 s1 => ⟨_, h1.hiLd, ?_⟩
  have p8 : (256 : Nat) ^ 8 = 18446744073709551616 := by decide
  refine Put_c (size := 8) (by omega) (by rw [p8]; exact hi_lt he) fun q2 d2 w2 f2 hO2 => ⟨_, _, _, _, rfl, _, (h1.fr0 f2).loLd, ?_⟩
  refine Put_c (size := 8) (by omega) (by rw [p8]; omega) fun q3 d3 w3 f3 hO3 => ⟨_, _, _, _, rfl, ?_⟩
  refine ⟨_, _, _, Ef.new (v := .slice (some ⟨w3.heap.size, 0, none⟩) 2 2) (cs := ([.slice q2 8 d2, .slice q3 8 d3] : List Value).toArray) (e := T_S_uint8) (by kernel_rfl) fun w4 f4 hB4 s4 => ?_⟩
  have hR4 := RowB.of2 hB4.rowL ((hO2.fr0 (f3.then f4)).byS) ((hO3.fr0 f4).byS)
  have efl : [putL (e / 18446744073709551616) 8, putL (e % 18446744073709551616) 8].flatten = bytesE e := by simp [bytesE]
  have hbl : (bytesE e).length = 16 := by simp [bytesE, putL_len]
  refine Join_c (l := 2) hR4 rfl (by rw [efl, hbl]; omega) (by omega) fun q d w5 f5 hO5 => ⟨_, _, _, rfl, ?_⟩
  rw [efl, hbl] at hO5
  rw [efl, hbl]
  have f04 := ((f1.then f2).then f3).then f4
  exact h q d w5 (f04.then f5) (hO5.mono f04.size)
end
end Go.Sh
end

section
namespace Go.Sh
open Go Go.Fw Go.Proofs
set_option maxRecDepth 100000
set_option linter.unusedVariables false
theorem New.as {cs cs' : Array Value} {t : TypeId} {w : World} {K : Nat → World → Prop} (he : cs = cs') (h : New cs' t w K) : New cs t w K := by subst he; exact h
section
variable {w : World} {b : Nat} {K : Value → World → Prop}
theorem ghashNew_c {p : Option Addr} {l c : Nat} {xs : List UInt8} (hx : Row w p (xs.map vb)) (hl : l = xs.length) (hc : l ≤ c) (h16 : l = 16)
    (h : ∀ b w', Fr [] w w' → HAt w' b (numL xs) false → w.heap.size ≤ b → K (.tuple #[.pointer (some ⟨b, 0, none⟩), .int .i64 0]) w') : callF Tryz.prog F_ghash_New #[.slice p l c] w K := by
  apply ghash_New_call
  unfold ghash_New
  refine polyOf_c hx hl hc (fun hb => absurd h16 hb) fun _ w1 f1 => ⟨_, _, _, rfl, newEz fun w2 g2 f2 hB2 s2 => stoE hB2 fun w3 f3 h3 s3 => ?_⟩
  refine cond_ne (fun hne => absurd rfl hne) fun _ => ⟨_, _, h3.ld, ?_⟩
  refine New.as (cs' := ⟨[.int .u64 (hiE (numL xs)), .int .u64 (loE (numL xs)), .int .u32 0, .int .i32 0, .int .u32 0, .int .i64 0] ++ List.replicate 1024 (.int .u64 0)⟩) (by kernel_rfl) ?_
  have f03 : Fr [] w w3 := f1.then (f2.st f3 (by omega))
  refine New.intro fun w4 f4 hB4 s4 => h _ w4 (f03.then f4) ⟨_, hB4, numL_lt16 (by omega), rfl, rfl, rfl, rfl, rfl, fun k hk => ?_⟩ f03.size
  have e : ∀ i, 6 ≤ i → i < 1030 → Array.getD ⟨[.int .u64 (hiE (numL xs)), .int .u64 (loE (numL xs)), .int .u32 0, .int .i32 0, .int .u32 0, .int .i64 0] ++ List.replicate 1024 (.int .u64 0)⟩ i undef = .int .u64 0 := by
    intro i h6 hi
    rw [Array.getD_eq_getD_getElem?, List.getElem?_toArray, List.getElem?_append_right (by simpa using h6), List.getElem?_replicate, if_pos (by simp; omega)]; rfl
  exact ⟨e _ (by omega) (by omega), e _ (by omega) (by omega)⟩
def blkL (xs : List UInt8) (j : Nat) : List UInt8 := (xs.drop (16 * j)).take 16
def padL (xs : List UInt8) : List UInt8 := xs ++ List.replicate (16 - xs.length) 0
def blkE (xs : List UInt8) (j : Nat) : Nat := numL (padL (blkL xs j))
def blkN (n : Nat) : Nat := (n + 15) / 16
def blocksL (xs : List UInt8) : List Nat := (List.range (blkN xs.length)).map (blkE xs)
theorem blkL_len (xs : List UInt8) (j : Nat) : (blkL xs j).length = min 16 (xs.length - 16 * j) := by unfold blkL; rw [List.length_take, List.length_drop]
theorem padL_len {xs : List UInt8} (h : xs.length ≤ 16) : (padL xs).length = 16 := by unfold padL; rw [List.length_append, List.length_replicate]; omega
theorem blkE_lt (xs : List UInt8) (j : Nat) : blkE xs j < 2 ^ 128 := numL_lt16 (padL_len (by rw [blkL_len]; omega))
theorem blocksL_lt (xs : List UInt8) : ∀ e ∈ blocksL xs, e < 2 ^ 128 := by
  intro e he
  unfold blocksL at he
  obtain ⟨j, _, rfl⟩ := List.mem_map.1 he
  exact blkE_lt xs j
theorem blocksL_len (xs : List UInt8) : (blocksL xs).length = blkN xs.length := by simp [blocksL]
theorem chunkC1_c {l0 k2 k3 : Nat} {p : Option Addr} {l c : Nat} {xs : List UInt8} (hl : l = xs.length) (hc : l ≤ c) (hlb : l < 1000000) (J : Nat → World → Prop)
    (h0 : J 0 w) (hdrew : ∀ j w' w'', J j w' → Fr [] w' w'' → J j w'') (hrow : ∀ j w', J j w' → Row w' p (xs.map vb)) (hk2 : ∀ j w', J j w' → ∃ f, Blk w' k2 1 f ∧ f 0 = .slice p l c) (hk3 : ∀ j w', J j w' → ∃ f, Blk w' k3 1 f ∧ f 0 = .int .i64 16)
    (hstep : ∀ j w' q d (K' : Value → World → Prop), 16 * j < l → J j w' → Row w' q ((blkL xs j).map vb) → (blkL xs j).length ≤ d → (∀ w'', J (j + 1) w'' → K' (.bool true) w'') → callV Tryz.prog (.func (.yield l0) #[] #[]) [.slice q (blkL xs j).length d] w' K')
    (hend : ∀ j w', j = blkN l → J j w' → K (.tuple #[]) w') : callF Tryz.prog F_slices_Chunk_byte_byte_c1 #[.func (.yield l0) #[] #[], .pointer (some ⟨k2, 0, none⟩), .pointer (some ⟨k3, 0, none⟩)] w K := by
  apply slices_Chunk_byte_byte_c1_call
  unfold slices_Chunk_byte_byte_c1
  refine LoopS.ind (fun k us w' => ∃ j : Nat, j + k = blkN l ∧ us = [.func (.yield l0) #[] #[], .pointer (some ⟨k2, 0, none⟩), .pointer (some ⟨k3, 0, none⟩), .int .i64 ((16 * j : Nat) : Int)] ∧ J j w') (blkN l) ⟨0, by omega, rfl, h0⟩ ?_
  rintro k us r w2 I μ hgo ⟨j, hj, rfl, hJ⟩
  obtain ⟨f, hB, hf⟩ := hk2 j w2 hJ
  refine ⟨_, _, _, _, rfl, _, _, _, Ld.blk (by kernel_rfl) hB (by omega) hf, cond_d (fun h1 => ?_) (fun h1 => ?_)⟩
  · have hjl : 16 * j < l := by omega
    have hbl := blkL_len xs j
    refine ⟨fun w' => J j w', Drw.intro fun w3 f3 s3 => ?_⟩
    have hJ3 := hdrew j w2 w3 hJ f3
    obtain ⟨f', hB', hf'⟩ := hk2 j w3 hJ3
    refine ⟨16, ⟨hJ3, fun w' hw' => ?_⟩, _, _, _, Ld.blk (by kernel_rfl) hB' (by omega) hf', .inl rfl, ?_⟩
    · obtain ⟨g, hg, hg0⟩ := hk3 j w' hw'
      exact Ld.blk (by kernel_rfl) hg (by omega) hg0
    refine slFrom (hrow j w3 hJ3) hl (n := 16 * j) (by omega) hc fun q1 d1 hq1 hl1 hd1 hb1 => ?_
    have emin : Pu Tryz.prog (Builtin.min_ #[T_int, T_int] T_int #[.int .i64 16, .int .i64 ((l - 16 * j : Nat) : Int)]) (.int .i64 (((blkL xs j).length : Nat) : Int)) := by
      have e : Pu Tryz.prog (Builtin.min_ #[T_int, T_int] T_int #[.int .i64 16, .int .i64 ((l - 16 * j : Nat) : Int)]) (.int .i64 (if ((l - 16 * j : Nat) : Int) < 16 then ((l - 16 * j : Nat) : Int) else 16)) := by unfold Pu; kernel_rfl
      have e2 : (if ((l - 16 * j : Nat) : Int) < 16 then ((l - 16 * j : Nat) : Int) else 16) = (((blkL xs j).length : Nat) : Int) := by rw [hbl]; split <;> omega
      rwa [e2] at e
    refine ⟨_, emin, _, _, _, Ld.blk (by kernel_rfl) hB' (by omega) hf', ?_⟩
    rw [wrap64 (n := ((16 * j : Nat) : Int) + (((blkL xs j).length : Nat) : Int)) (by omega) (by omega)]
    refine ⟨_, _, _, PuSl4 (s := 1) (by kernel_rfl) (by omega) (by omega) (by omega) (by omega), ?_⟩
    have ea : (((16 * j : Nat) : Int) + (((blkL xs j).length : Nat) : Int)).toNat = 16 * j + (blkL xs j).length := by omega
    have eb : (((16 * j : Nat) : Int)).toNat = 16 * j := by omega
    rw [ea, eb, show 16 * j + (blkL xs j).length - 16 * j = (blkL xs j).length by omega]
    have hR : Row w3 (Go.Fw.partAt p (16 * j + (blkL xs j).length) (16 * j) 1) ((blkL xs j).map vb) := by
      have h1 := Row.partB (Row.takeB (hrow j w3 hJ3) (16 * j + (blkL xs j).length)) (c := 16 * j + (blkL xs j).length) (l := 16 * j) (by rw [List.length_take]; omega)
      have e : ((xs.take (16 * j + (blkL xs j).length)).drop (16 * j)) = blkL xs j := by
        rw [List.drop_take, show 16 * j + (blkL xs j).length - 16 * j = (blkL xs j).length by omega]
        unfold blkL at hbl ⊢
        rw [hbl]
        by_cases h : 16 ≤ xs.length - 16 * j
        · rw [show min 16 (xs.length - 16 * j) = 16 by omega]
        · rw [List.take_of_length_le (by rw [List.length_drop]; omega), List.take_of_length_le (by rw [List.length_drop]; omega)]
      rwa [e] at h1
    refine hstep j w3 _ _ _ hjl hJ3 hR (by omega) fun w4 hJ4 => ⟨_, rfl, cond_f ?_⟩
    obtain ⟨g, hg, hg0⟩ := hk3 (j + 1) w4 hJ4
    refine ⟨_, Ld.blk (by kernel_rfl) hg (by omega) hg0, ?_⟩
    rw [wrap64 (n := ((16 * j : Nat) : Int) + 16) (by omega) (by omega), show ((16 * j : Nat) : Int) + 16 = ((16 * (j + 1) : Nat) : Int) by omega]
    refine hgo _ _ _ (k - 1) (by unfold blkN at hj; omega) ⟨j + 1, by unfold blkN at hj ⊢; omega, rfl, hJ4⟩
  · exact hend j w2 (by unfold blkN at hj ⊢; omega) hJ
def EO (w : World) (p : Option Addr) (l c : Nat) (es : List Nat) (lo : Nat) : Prop := OwnN 2 w p l c (ecells es) ∧ l = es.length ∧ ∀ k ∈ blks p, lo ≤ k
theorem EO.fr0 {p : Option Addr} {l c lo : Nat} {es : List Nat} {w' : World} (h : EO w p l c es lo) (f : Fr [] w w') : EO w' p l c es lo := ⟨h.1.fr0 f, h.2⟩
theorem EO.fr {p : Option Addr} {l c lo : Nat} {es : List Nat} {w' : World} {L : List Nat} (h : EO w p l c es lo) (f : Fr L w w') (hL : ∀ k ∈ L, k < lo) : EO w' p l c es lo := ⟨h.1.fr f fun k hk hm => by have := hL k hm; have := h.2.2 k hk; omega, h.2⟩
theorem EO.mono {p : Option Addr} {l c lo lo' : Nat} {es : List Nat} (h : EO w p l c es lo) (hl : lo' ≤ lo) : EO w p l c es lo' := ⟨h.1, h.2.1, fun k hk => Nat.le_trans hl (h.2.2 k hk)⟩
theorem EO.row {p : Option Addr} {l c lo : Nat} {es : List Nat} (h : EO w p l c es lo) : Row w p (ecells es) := h.1.row
theorem pushE {p q : Option Addr} {l c lo m d : Nat} {es ys : List Nat} (h : EO w p l c es lo) (hlo : lo ≤ w.heap.size) (hR : Row w q (ecells ys)) (hm : m = ys.length) (hlen : l + m ≤ 1073741824) {K : Option Addr → Nat → Nat → World → Prop}
    (hk : ∀ p' c' L w', Fr L w w' → (∀ k ∈ L, lo ≤ k) → EO w' p' (l + m) c' (es ++ ys) lo → w.heap.size ≤ w'.heap.size → K p' (l + m) c' w') : ∃ p' l' c' w', Ef Tryz.prog (Builtin.append_ #[T_S_poly_Elem, T_S_poly_Elem] T_S_poly_Elem #[.slice p l c, .slice q m d]) w (.slice p' l' c') w' ∧ K p' l' c' w' := by
  obtain ⟨p', c', w', he, hO, hf, hcase⟩ := Ef.appendN (P := Tryz.prog) (t := T_S_poly_Elem) (ty := T_S_poly_Elem) (s := 2) (by kernel_rfl) h.1 (m := m) (d := d) hR (by rw [ecells_len, hm]) (ecells_one ys) hlen
  rw [← ecells_append] at hO
  refine ⟨_, _, _, _, he, hk p' c' (blks p) w' hf h.2.2 ⟨hO, by rw [List.length_append, ← hm, ← h.2.1], ?_⟩ hf.size⟩
  rcases hcase with ⟨rfl, _, _⟩ | ⟨rfl, _, _⟩
  · exact h.2.2
  · intro k hk'; simp [blks] at hk'; omega
theorem zeroA16 : Pu Tryz.prog (zeroValue T_A16_uint8) (.agg ⟨List.replicate 16 (.int .u8 0)⟩) := by unfold Pu; kernel_rfl
set_option maxHeartbeats 2000000 in
theorem gBlocks_c {p : Option Addr} {l c : Nat} {xs : List UInt8} (hx : Row w p (xs.map vb)) (hl : l = xs.length) (hc : l ≤ c) (hlb : l < 1000000)
    (h : ∀ q d w', Fr [] w w' → EO w' q (blkN l) d (blocksL xs) w.heap.size → K (.slice q (blkN l) d) w') : callF Tryz.prog F_ghash_Blocks #[.slice p l c] w K := by
  apply ghash_Blocks_call
  unfold ghash_Blocks
  refine ⟨.slice none 0 0, by unfold Pu; kernel_rfl, New.intro fun w1 f1 hB1 s1 => ?_⟩
  obtain ⟨a3, ha3⟩ : ∃ a, a = w.heap.size := ⟨_, rfl⟩
  rw [← ha3] at hB1 ⊢
  have hB1' : Blk w1 a3 1 (fun _ => .slice none 0 0) := hB1.ext fun i hi => by obtain rfl : i = 0 := by { have : i < 1 := hi; omega }; rfl
  apply slices_Chunk_byte_byte_call
  unfold slices_Chunk_byte_byte
  refine New.intro fun w2 f2 hB2 s2 => New.intro fun w3 f3 hB3 s3 => ?_
  obtain ⟨k2, hk2⟩ : ∃ a, a = w1.heap.size := ⟨_, rfl⟩
  obtain ⟨k3, hk3⟩ : ∃ a, a = w2.heap.size := ⟨_, rfl⟩
  rw [← hk2] at hB2 ⊢
  rw [← hk3] at hB3 ⊢
  refine ⟨_, Ld.blk (by kernel_rfl) hB3 (by decide) rfl, cond_f ⟨_, rfl, ?_⟩⟩
  have f03 := (f1.then f2).then f3
  have z1 := f1.size; have z2 := f2.size; have z3 := f3.size
  refine RangeF.of (fun _ _ => by kernel_rfl) fun fn w4 f4 s4 hD4 hL4 => ?_
  have n4 := f4.size
  refine chunkC1_c (k2 := k2) (k3 := k3) hl hc hlb (fun j w' => Fr [] w w' ∧ w4.heap.size ≤ w'.heap.size ∧ LpAt w' (w3.heap.size + 1) _ ∧ DfAt w' w3.heap.size ∧ (∃ f, Blk w' k2 1 f ∧ f 0 = .slice p l c) ∧ (∃ f, Blk w' k3 1 f ∧ f 0 = .int .i64 16) ∧ ∃ q d f, Blk w' a3 1 f ∧ f 0 = .slice q j d ∧ EO w' q j d ((List.range j).map (blkE xs)) w4.heap.size)
    ⟨f03.then f4, Nat.le_refl _, hL4, hD4, ⟨_, hB2.fr0 (f3.then f4), rfl⟩, ⟨_, hB3.fr0 f4, rfl⟩, none, 0, _, hB1'.fr0 ((f2.then f3).then f4), rfl, ⟨OwnN.nil 2 _, rfl, by simp [blks]⟩⟩
    (fun j w' w'' hj f => ?_) (fun j w' hj => hx.fr0 hj.1) (fun j w' hj => hj.2.2.2.2.1) (fun j w' hj => hj.2.2.2.2.2.1) (fun j w' q d K' hjl hj hR hd hK => ?_) (fun j w' hje hj => ?_)
  · obtain ⟨j1, j2, j3, j4, ⟨g2, j5, j6⟩, ⟨g3, j7, j8⟩, q, d, g, j9, j10, j11⟩ := hj
    have := f.size
    exact ⟨j1.then f, by omega, j3.fr0 f, j4.fr0 f, ⟨g2, j5.fr0 f, j6⟩, ⟨g3, j7.fr0 f, j8⟩, q, d, g, j9.fr0 f, j10, j11.fr0 f⟩
  · obtain ⟨j1, j2, j3, j4, ⟨g2, j5, j6⟩, ⟨g3, j7, j8⟩, qq, dd, g, j9, j10, j11⟩ := hj
    refine ghash_Blocks_y0_call _ _ _ _ j3 ?_
    unfold ghash_Blocks_y0
    refine BegR.of j3 rfl fun w5 f5 hL5 s5 => ⟨_, zeroA16, New.intro fun w6 f6 hB6 s6 => ?_⟩
    obtain ⟨k5, hk5⟩ : ∃ a, a = w5.heap.size := ⟨_, rfl⟩
    rw [← hk5] at hB6 ⊢
    have hB6' : Blk w6 k5 16 (fun _ => .int .u8 0) := Blk.ext (n := 16) hB6 fun i hi => by
      show Array.getD ⟨List.replicate 16 (.int .u8 0)⟩ i undef = _
      rw [Array.getD_eq_getD_getElem?, List.getElem?_toArray, List.getElem?_replicate, if_pos hi]; rfl
    have hbl := blkL_len xs j
    have sl : ∀ {K : Option Addr → Nat → Nat → Prop}, K (some ⟨k5, 0, none⟩) 16 16 → ∃ p l c, Pu Tryz.prog (Instr.sliceAt T_A16_uint8 (.pointer (some ⟨k5, 0, none⟩)) none none none) (.slice p l c) ∧ K p l c := fun h =>
      ⟨_, _, _, PuSlA (n := 16) (s := 1) (kl := .i64) (kh := .i64) (lo := none) (hi := none) (by kernel_rfl) (by show (0 : Int) ≤ 0; omega) (by show (0 : Int) ≤ ((16 : Nat) : Int); omega) (by show ((16 : Nat) : Int) ≤ ((16 : Nat) : Int); omega), h⟩
    refine sl ?_
    have nK : 0 < w.heap.size ∨ True := .inr trivial
    have hq5 : ∀ a, q = some a → a.block ∉ [w3.heap.size + 1] ∨ True := fun _ _ => .inr trivial
    have hR6 : Row w6 q ((blkL xs j).map vb) := by
      have e1 : Row w5 q ((blkL xs j).map vb) := by
        rcases hR with h0 | ⟨bb, o, hq, hc0⟩
        · exact .inl h0
        · refine .inr ⟨bb, o, hq, fun i v hi => ?_⟩
          have hcell := hc0 i v hi
          by_cases hbb : bb = w3.heap.size + 1
          · exfalso
            subst hbb
            unfold LpAt at j3
            simp [World.cell?, j3] at hcell
          · exact f5.cell hcell (by simpa using hbb)
      exact e1.fr0 f6
    obtain ⟨w7, he7, f7, hB7, s7⟩ := Ef.copy (P := Tryz.prog) (t := T_S_uint8) (ty := T_int) (by kernel_rfl) (dl := 16) (dc := 16) (o := 0) hB6' hR6 (d := d) (m := (blkL xs j).length) (by simp) (cells_vb _) (by omega)
    refine ⟨_, _, he7, sl ?_⟩
    have hR7 : Row w7 (some ⟨k5, 0, none⟩) ((padL (blkL xs j)).map vb) := by
      refine hB7.row 0 _ fun i v hi => ?_
      have hlt := (List.getElem?_eq_some_iff.1 hi).1
      rw [List.length_map, padL_len (by omega)] at hlt
      refine ⟨by omega, ?_⟩
      unfold padL at hi
      rw [List.map_append] at hi
      unfold updN
      by_cases hil : i < (blkL xs j).length
      · rw [dif_pos ⟨by omega, by rw [List.length_take, List.length_map]; omega⟩]
        rw [List.getElem?_append_left (by rw [List.length_map]; exact hil)] at hi
        obtain ⟨h1, h2⟩ := List.getElem?_eq_some_iff.1 hi
        rw [← h2, List.getElem_take]
        congr 1; omega
      · rw [dif_neg (by rw [List.length_take, List.length_map]; omega)]
        rw [List.getElem?_append_right (by rw [List.length_map]; omega), List.map_replicate, List.getElem?_replicate] at hi
        split at hi
        · exact Option.some.inj hi
        · cases hi
    have h16 : (padL (blkL xs j)).length = 16 := padL_len (by omega)
    refine polyOf_c hR7 h16.symm (Nat.le_refl 16) (fun hb => absurd rfl hb) fun _ w8 f8 => ⟨_, _, _, rfl, newEz fun w9 g9 f9 hB9 s9 => stoE hB9 fun w10 f10 h10 s10 => ?_⟩
    have f58 : Fr [] w5 w8 := (f6.st f7 (by omega)).then f8
    have f510 : Fr [] w5 w10 := (f58.then f9).st f10 (by have := f58.size; omega)
    have ha3 : a3 ≠ w3.heap.size + 1 := by omega
    have j9' := (j9.fr f5 (by simp; omega)).fr0 f510
    have j11' : EO w10 qq j dd ((List.range j).map (blkE xs)) w4.heap.size := (j11.fr f5 (fun k hk => by simp at hk; omega)).fr0 f510
    refine ⟨_, _, _, Ld.blk (by kernel_rfl) j9' (by omega) j10, _, _, h10.ld, ?_⟩
    refine ⟨_, _, _, Ef.new (v := .slice (some ⟨w10.heap.size, 0, none⟩) 1 1) (cs := (ecells [numL (padL (blkL xs j))]).toArray) (e := T_poly_Elem) (by kernel_rfl) fun w11 f11 hB11 s11 => ?_⟩
    have n5 := f5.size; have n510 := f510.size; have n11 := f11.size
    refine pushE (j11'.fr0 f11) (by omega) hB11.rowL rfl (by simp only [List.length_cons, List.length_nil]; omega) fun p' c' L w12 f12 hL12 hO12 z12 => ?_
    have j9'' := (j9'.fr0 f11).fr f12 (fun hm => by have := hL12 _ hm; omega)
    refine Sto.blk (by kernel_rfl) j9'' (by omega) rfl rfl fun w13 f13 hB13 s13 => ?_
    have f5_11 := f510.then f11
    have keep : ∀ k, k < w4.heap.size → k ≠ w3.heap.size + 1 → k ≠ a3 → True := fun _ _ _ _ => trivial
    have hL13 : LpAt w13 (w3.heap.size + 1) _ := ((hL5.fr0 f5_11).fr f12 (fun hm => by have := hL12 _ hm; omega)).fr f13 (by simp; omega)
    refine EndR.of hL13 none rfl fun w14 f14 hL14 s14 => hK w14 ⟨?_, by omega, hL14, ?_, ⟨g2, ?_, j6⟩, ⟨g3, ?_, j8⟩, p', c', _, hB13.fr f14 (by simp; omega), by unfold upd; rw [if_pos rfl]; rfl, ?_⟩
    · have e1 : Fr [] w w5 := j1.trans f5 (fun x hx => .inr (by simp at hx; omega))
      exact (((e1.then f5_11).trans f12 (fun x hx => .inr (by have := hL12 x hx; omega))).trans f13 (fun x hx => .inr (by simp at hx; omega))).trans f14 (fun x hx => .inr (by simp at hx; omega))
    · exact ((((j4.fr f5 (by simp)).fr0 f5_11).fr f12 (fun hm => by have := hL12 _ hm; omega)).fr f13 (by simp; omega)).fr f14 (by simp)
    · exact ((((j5.fr f5 (by simp; omega)).fr0 f5_11).fr f12 (fun hm => by have := hL12 _ hm; omega)).fr f13 (by simp; omega)).fr f14 (by simp; omega)
    · exact ((((j7.fr f5 (by simp; omega)).fr0 f5_11).fr f12 (fun hm => by have := hL12 _ hm; omega)).fr f13 (by simp; omega)).fr f14 (by simp; omega)
    · have e1 : (List.range j).map (blkE xs) ++ [numL (padL (blkL xs j))] = (List.range (j + 1)).map (blkE xs) := by rw [List.range_succ, List.map_append]; rfl
      rw [e1] at hO12
      exact (hO12.fr f13 (fun k hk => by simp at hk; omega)).fr f14 (fun k hk => by simp at hk; omega)
  · obtain ⟨j1, j2, j3, j4, ⟨g2, j5, j6⟩, ⟨g3, j7, j8⟩, qq, dd, g, j9, j10, j11⟩ := hj
    refine ⟨_, j3, by simp [rec0], fun w5 f5 s5 => ?_⟩
    have hD5 : DfAt w5 w3.heap.size := j4.fr f5 (by simp)
    refine ⟨_, _, _, Ld.blk (by kernel_rfl) (j9.fr f5 (by simp; omega)) (by omega) j10, ?_⟩
    obtain ⟨w6, hT, f6, s6⟩ := Tk.of (P := Tryz.prog) hD5
    refine ⟨w6, hT, ?_⟩
    subst hje
    have e1 : (List.range (blkN l)).map (blkE xs) = blocksL xs := by unfold blocksL; rw [hl]
    rw [e1] at j11
    exact h qq dd w6 ((j1.trans f5 (fun x hx => .inr (by simp at hx; omega))).trans f6 (fun x hx => .inr (by simp at hx; omega))) (((j11.fr f5 (fun k hk => by simp at hk; omega)).fr f6 (fun k hk => by simp at hk; omega)).mono (by omega))
end
end Go.Sh
end

section
namespace Go.Sh
open Go Go.Fw Go.Proofs
set_option maxRecDepth 100000
set_option linter.unusedVariables false
def RowEs (w : World) (p : Option Addr) (ess : List (List Nat)) : Prop := ∃ vs : List Value, Row w p vs ∧ vs.length = ess.length ∧ ∀ (j : Nat) (es : List Nat), ess[j]? = some es → ∃ q d, vs[j]? = some (.slice q es.length d) ∧ Row w q (ecells es)
section
variable {w : World} {b : Nat} {K : Value → World → Prop}
theorem RowEs.fr0 {w' : World} {p : Option Addr} {ess : List (List Nat)} (h : RowEs w p ess) (f : Fr [] w w') : RowEs w' p ess := by
  obtain ⟨vs, h1, h2, h3⟩ := h
  exact ⟨vs, h1.fr0 f, h2, fun j es hj => by obtain ⟨q, d, a, b⟩ := h3 j es hj; exact ⟨q, d, a, b.fr0 f⟩⟩
theorem RowEs.of3 {p q1 q2 q3 : Option Addr} {d1 d2 d3 : Nat} {e1 e2 e3 : List Nat} (h : Row w p [.slice q1 e1.length d1, .slice q2 e2.length d2, .slice q3 e3.length d3]) (h1 : Row w q1 (ecells e1)) (h2 : Row w q2 (ecells e2)) (h3 : Row w q3 (ecells e3)) : RowEs w p [e1, e2, e3] :=
  ⟨_, h, rfl, fun j es hj => by
    match j, hj with
    | 0, hj => obtain rfl : e1 = es := by simpa using hj
               exact ⟨_, _, rfl, h1⟩
    | 1, hj => obtain rfl : e2 = es := by simpa using hj
               exact ⟨_, _, rfl, h2⟩
    | 2, hj => obtain rfl : e3 = es := by simpa using hj
               exact ⟨_, _, rfl, h3⟩⟩
theorem esAt {p : Option Addr} {ess : List (List Nat)} (h : RowEs w p ess) {l c i : Nat} (hl : l = ess.length) (hi : i < l) :
    ∃ a q d es, ess[i]? = some es ∧ IxA Tryz.prog T_S_S_poly_Elem (.slice p l c) (.int .i64 (i : Int)) a ∧ w.cell? a = some (.slice q es.length d) ∧ Row w q (ecells es) := by
  obtain ⟨vs, h1, h2, h3⟩ := h
  have hlt : i < ess.length := by omega
  obtain ⟨q, d, hv, hr⟩ := h3 i _ (List.getElem?_eq_getElem hlt)
  obtain ⟨a, ha, hc⟩ := ixR (P := Tryz.prog) (t := T_S_S_poly_Elem) (by kernel_rfl) h1 (len := l) (cap := c) (k := .i64) (i := (i : Int)) (by omega) (by omega) (by omega) (by rw [Int.toNat_natCast]; exact hv)
  exact ⟨a, q, d, _, List.getElem?_eq_getElem hlt, ha, hc, hr⟩
theorem growE_c {n : Nat} (hn : n ≤ 1073741824) (h : ∀ q c w', Fr [] w w' → EO w' q 0 c [] w.heap.size → K (.slice q 0 c) w') : callF Tryz.prog F_slices_Grow_poly_Elem_poly_Elem #[.slice none 0 0, .int .i64 (n : Int)] w K := by
  apply slices_Grow_poly_Elem_poly_Elem_call
  unfold slices_Grow_poly_Elem_poly_Elem
  refine cond_d (fun h1 => by omega) fun _ => ?_
  unfold slices_Grow_poly_Elem_poly_Elem_j1
  refine ⟨0, by unfold Pu; kernel_rfl, ?_⟩
  have e0 : IntKind.i64.wrap ((0 : Int) - ((0 : Nat) : Int)) = 0 := rfl
  rw [e0, Int.sub_zero, wrap64 (by omega) (by omega)]
  refine cond_d (fun h1 => ?_) (fun h1 => h none 0 w (Fr.refl _ _) ⟨OwnN.nil 2 _, rfl, by simp [blks]⟩)
  refine ⟨0, by unfold Pu; kernel_rfl, none, 0, 0, by unfold Pu; kernel_rfl, ?_⟩
  obtain ⟨c', w', he, hge, hf, ⟨f, hB⟩, hs⟩ := Ef.appendZN (P := Tryz.prog) (t := T_S_poly_Elem) (ti := T_int) (ty := T_S_poly_Elem) (s := 2) (by kernel_rfl) (by decide) (by kernel_rfl) (w := w) (n := n) (by omega) hn
  refine ⟨_, _, _, _, he, ?_⟩
  refine ⟨_, _, _, PuSl (s := 2) (kl := .i64) (kh := .i64) (lo := none) (hi := some 0) (by kernel_rfl) (by simp) (by simp) (by simp), ?_⟩
  have hc0 : c' ≠ 0 := by omega
  simp only [Option.getD]
  rw [partAt_some (by simpa using hc0)]
  exact h _ c' w' hf ⟨⟨by simp [ecells], .inr ⟨_, 0, c' * 2, f, rfl, hB, by omega, by omega, by simp [ecells]⟩⟩, rfl, by simp [blks]⟩
theorem fltake (rs : List (List Nat)) {i : Nat} {r : List Nat} (h : rs[i]? = some r) : (rs.take (i + 1)).flatten = (rs.take i).flatten ++ r := by
  rw [List.take_add_one, h, List.flatten_append]; simp
theorem flle (rs : List (List Nat)) (i : Nat) : (rs.take i).flatten.length ≤ rs.flatten.length := by
  have h : rs.flatten = (rs.take i).flatten ++ (rs.drop i).flatten := by rw [← List.flatten_append, List.take_append_drop]
  rw [h, List.length_append]; omega
theorem concatE_c {p : Option Addr} {l c : Nat} {ess : List (List Nat)} (hR : RowEs w p ess) (hl : l = ess.length) (hb : ess.flatten.length ≤ 1000000000) (hl2 : l ≤ 1000000000)
    (h : ∀ q d w', Fr [] w w' → EO w' q ess.flatten.length d ess.flatten w.heap.size → K (.slice q ess.flatten.length d) w') : callF Tryz.prog F_slices_Concat_poly_Elem_poly_Elem #[.slice p l c] w K := by
  apply slices_Concat_poly_Elem_poly_Elem_call
  unfold slices_Concat_poly_Elem_poly_Elem
  refine LoopS.ind (fun k us w' => w' = w ∧ ∃ i : Nat, i + k = l ∧ us = [.slice p l c, .slice none 0 0, .int .i64 ((ess.take i).flatten.length : Int), .slice p l c, .int .i64 (l : Int), .int .i64 (i : Int)]) l ⟨rfl, 0, by omega, rfl⟩ ?_
  rintro k us r w1 I μ hgo ⟨rfl, i, hi, rfl⟩
  refine ⟨_, _, _, _, _, _, _, _, _, _, _, _, rfl, cond_d (fun h1 => ?_) (fun h1 => ?_)⟩
  · obtain ⟨a, q, d, es, hes, ha, hca, hq⟩ := esAt hR (c := c) hl (i := i) (by omega)
    refine ⟨a, ha, _, _, _, Ld.cell (by kernel_rfl) hca, ?_⟩
    have e := congrArg List.length (fltake ess hes)
    rw [List.length_append] at e
    have := flle ess (i + 1)
    rw [wrap64 (n := ((ess.take i).flatten.length : Int) + _) (by omega) (by omega)]
    refine cond_d (fun h2 => by omega) fun _ => ?_
    rw [wrap64 (by omega) (by omega)]
    refine hgo _ _ _ (k - 1) (by omega) ⟨rfl, i + 1, by omega, ?_⟩
    rw [e]; rfl
  · have hil : i = l := by omega
    subst hil
    rw [List.take_of_length_le (by omega)]
    unfold slices_Concat_poly_Elem_poly_Elem_j1
    refine growE_c (by omega) fun q d w2 f2 hO2 => ⟨_, _, _, rfl, ?_⟩
    refine LoopS.ind (fun k us w' => ∃ (j : Nat) (q : Option Addr) (d : Nat), j + k = i ∧ us = [.slice none 0 0, .slice q (ess.take j).flatten.length d, .slice p i c, .int .i64 (i : Int), .int .i64 (j : Int)] ∧ Fr [] w1 w' ∧ EO w' q (ess.take j).flatten.length d (ess.take j).flatten w1.heap.size) i
      ⟨0, q, d, by omega, rfl, f2, hO2⟩ ?_
    rintro k us r w3 I2 μ2 hgo2 ⟨j, q, d, hj, rfl, f3, hO3⟩
    refine ⟨_, _, _, _, _, _, _, _, _, _, _, rfl, cond_d (fun h2 => ?_) (fun h2 => ?_)⟩
    · obtain ⟨a, q1, d1, es, hes, ha, hca, hq1⟩ := esAt (hR.fr0 f3) (c := c) hl (i := j) (by omega)
      refine ⟨a, ha, _, _, _, Ld.cell (by kernel_rfl) hca, ?_⟩
      have e := fltake ess hes
      have e2 := congrArg List.length e
      rw [List.length_append] at e2
      have := flle ess (j + 1)
      refine pushE hO3 f3.size hq1 rfl (by omega) fun p' c' L w4 f4 hL4 hO4 z4 => ?_
      rw [wrap64 (by omega) (by omega)]
      refine hgo2 _ _ _ (k - 1) (by omega) ⟨j + 1, p', c', by omega, by rw [e2]; rfl, f3.trans f4 (fun x hx => .inr (hL4 x hx)), ?_⟩
      rw [← e2, ← e] at hO4
      exact hO4
    · have hjl : j = i := by omega
      subst hjl
      rw [List.take_of_length_le (by omega)] at hO3 ⊢
      exact h q d w3 f3 hO3
def lenE (n k : Nat) : Nat := n * 8 * 18446744073709551616 + k * 8
theorem lenE_lt {n k : Nat} (hn : n < 1000000000) (hk : k < 1000000000) : lenE n k < 2 ^ 128 := by unfold lenE; omega
def sumB (xs ys : List UInt8) : List Nat := blocksL xs ++ blocksL ys ++ [lenE xs.length ys.length]
def ghashL (H : Nat) (xs ys : List UInt8) : List UInt8 := bytesE (foldE H 0 (sumB xs ys))
theorem ghashL_len (H : Nat) (xs ys : List UInt8) : (ghashL H xs ys).length = 16 := by simp [ghashL, bytesE, putL_len]
set_option maxHeartbeats 1000000 in
theorem gSum_c {H : Nat} {m : Bool} {p1 p2 : Option Addr} {l1 c1 l2 c2 : Nat} {xs ys : List UInt8} (hH : HAt w b H m) (hx : Row w p1 (xs.map vb)) (hl1 : l1 = xs.length) (hc1 : l1 ≤ c1) (hb1 : l1 < 1000000) (hy : Row w p2 (ys.map vb)) (hl2 : l2 = ys.length) (hc2 : l2 ≤ c2) (hb2 : l2 < 1000000)
    (h : ∀ q d w' m', Fr [b] w w' → HAt w' b H m' → OB w' q 16 d (ghashL H xs ys) w.heap.size → K (.slice q 16 d) w') :
    callF Tryz.prog F_ghash_Hash_Sum #[.pointer (some ⟨b, 0, none⟩), .slice p1 l1 c1, .slice p2 l2 c2] w K := by
  apply ghash_Hash_Sum_call
  unfold ghash_Hash_Sum
  have hbl := hH.lt
  have hlt : H < 2 ^ 128 := by obtain ⟨_, _, q, _⟩ := hH; exact q
  refine gBlocks_c hx hl1 hc1 hb1 fun q1 d1 w1 f1 hO1 => ⟨_, _, _, rfl, ?_⟩
  refine gBlocks_c (hy.fr0 f1) hl2 hc2 hb2 fun q2 d2 w2 f2 hO2 => ⟨_, _, _, rfl, ?_⟩
  refine glengths_c (by omega) (by omega) fun w3 f3 => ⟨_, _, rfl, ?_⟩
  obtain ⟨e3, he3⟩ : ∃ e, e = l1 * 8 * 18446744073709551616 + l2 * 8 := ⟨_, rfl⟩
  rw [← he3]
  have he3l : e3 = lenE xs.length ys.length := by rw [he3, hl1, hl2]; rfl
  refine ⟨_, _, _, Ef.new (v := .slice (some ⟨w3.heap.size, 0, none⟩) 1 1) (cs := (ecells [e3]).toArray) (e := T_poly_Elem) (by kernel_rfl) fun w4 f4 hB4 s4 => ?_⟩
  have hn1 := hO1.2.1; have hn2 := hO2.2.1
  refine ⟨_, _, _, Ef.new (v := .slice (some ⟨w4.heap.size, 0, none⟩) 3 3) (cs := ([.slice q1 (blkN l1) d1, .slice q2 (blkN l2) d2, .slice (some ⟨w3.heap.size, 0, none⟩) 1 1] : List Value).toArray) (e := T_S_poly_Elem) (by kernel_rfl) fun w5 f5 hB5 s5 => ?_⟩
  have f35 := f4.then f5
  have f25 := f3.then f35
  have hrow := hB5.rowL
  rw [hn1, hn2] at hrow
  have hR5 : RowEs w5 (some ⟨w4.heap.size, 0, none⟩) [blocksL xs, blocksL ys, [e3]] := RowEs.of3 hrow ((hO1.fr0 (f2.then f25)).row) ((hO2.fr0 f25).row) ((hB4.rowL).fr0 f5)
  have hlen : [blocksL xs, blocksL ys, [e3]].flatten.length = blkN l1 + blkN l2 + 1 := by simp [blocksL_len, hl1, hl2]; omega
  have hbk : blkN l1 + blkN l2 + 1 < 1000000 := by unfold blkN; omega
  refine concatE_c hR5 rfl (by rw [hlen]; omega) (by omega) fun q6 d6 w6 f6 hO6 => ⟨_, _, _, rfl, ?_⟩
  have f05 := (f1.then f2).then f25
  have f06 := f05.then f6
  have n5 := f05.size
  have efl : [blocksL xs, blocksL ys, [e3]].flatten = sumB xs ys := by simp [sumB, he3l]
  have hall : ∀ x ∈ [blocksL xs, blocksL ys, [e3]].flatten, x < 2 ^ 128 := by
    intro x hx
    rw [efl] at hx
    unfold sumB at hx
    rcases List.mem_append.1 hx with hx | hx
    · rcases List.mem_append.1 hx with hx | hx
      · exact blocksL_lt xs x hx
      · exact blocksL_lt ys x hx
    · simp at hx; subst hx; exact lenE_lt (by omega) (by omega)
  refine gFold_c (e := 0) (hH.fr0 f06) (by decide) hO6.row (fun k hk => by have := hO6.2.2 k hk; omega) rfl (by rw [hlen]; exact hbk) hall fun w7 m7 f7 hH7 => ⟨_, _, rfl, ?_⟩
  rw [efl]
  have hfl : foldE H 0 (sumB xs ys) < 2 ^ 128 := foldE_lt hlt _ _ (by decide)
  refine elBytes_c hfl fun q8 d8 w8 f8 hO8 => ⟨_, _, _, rfl, ?_⟩
  refine rowB1 (hO8.byS) (by kernel_rfl) fun p9 w9 f9 hR9 s9 => ?_
  have efb : [bytesE (foldE H 0 (sumB xs ys))].flatten = ghashL H xs ys := by simp [ghashL]
  refine Join_c (l := 1) hR9 rfl (by rw [efb, ghashL_len]; omega) (by omega) fun q d w10 f10 hO10 => ⟨_, _, _, rfl, ?_⟩
  rw [efb, ghashL_len] at hO10
  rw [efb, ghashL_len]
  have f710 := (f8.then f9).then f10
  have n7 := f06.size; have n77 := f7.size
  have n79 := (f8.then f9).size
  exact h q d w10 m7 (((f06.mono (by simp)).trans f7 (fun x hx => .inl hx)).trans f710 (by simp)) (hH7.fr0 f710) (hO10.mono (by omega))
end
end Go.Sh
end
