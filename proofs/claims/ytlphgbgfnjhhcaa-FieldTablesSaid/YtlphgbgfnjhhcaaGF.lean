/- A part of a proof of a given law of this program: lemmas, printed forms of its functions, contracts. It has no conditions of its own. -/
import Derived.Test.YtlphgbgfnjhhcaaC1
import Derived.Test.YtlphgbgfnjhhcaaCField
namespace Go.Sh
open Go Go.Fw Go.Proofs
set_option maxRecDepth 100000

/-! ### Bytes as sums of their bits -/
theorem xor_self8 (a : UInt8) : a ^^^ a = 0 := UInt8.xor_self
theorem xor_assoc8 (a b c : UInt8) : a ^^^ b ^^^ c = a ^^^ (b ^^^ c) := UInt8.xor_assoc a b c
theorem xor_comm8 (a b : UInt8) : a ^^^ b = b ^^^ a := UInt8.xor_comm a b
theorem xor_left8 (a b c : UInt8) : a ^^^ (b ^^^ c) = b ^^^ (a ^^^ c) := by rw [← xor_assoc8, xor_comm8 a b, xor_assoc8]
theorem xor_zero8 (a : UInt8) : a ^^^ 0 = a := UInt8.xor_zero
theorem zero_xor8 (a : UInt8) : 0 ^^^ a = a := UInt8.zero_xor
theorem bit_cases (x : UInt8) (k : Nat) (hk : k < 8) : x &&& (1 <<< UInt8.ofNat k) = 0 ∨ x &&& (1 <<< UInt8.ofNat k) = 1 <<< UInt8.ofNat k := by
  have h := all8 (p := fun x => (List.range 8).all fun k => x &&& (1 <<< UInt8.ofNat k) == 0 || x &&& (1 <<< UInt8.ofNat k) == 1 <<< UInt8.ofNat k) (by kernel_rfl) x
  have h2 := List.all_eq_true.1 h k (by simpa using hk)
  simpa using h2
theorem bits_sum (x : UInt8) : (List.range 8).foldl (fun s k => s ^^^ (x &&& (1 <<< UInt8.ofNat k))) 0 = x := by
  have h := all8 (p := fun x => (List.range 8).foldl (fun s k => s ^^^ (x &&& (1 <<< UInt8.ofNat k))) 0 == x) (by kernel_rfl) x
  simpa using h
theorem byte_ind {p : UInt8 → Prop} (h0 : p 0) (hb : ∀ k, k < 8 → p (1 <<< UInt8.ofNat k)) (hx : ∀ x y, p x → p y → p (x ^^^ y)) (x : UInt8) : p x := by
  rw [← bits_sum x]
  have key : ∀ (l : List Nat) (s : UInt8), (∀ k ∈ l, k < 8) → p s → p (l.foldl (fun s k => s ^^^ (x &&& (1 <<< UInt8.ofNat k))) s) := by
    intro l
    induction l with
    | nil => exact fun s _ h => h
    | cons k l ih =>
      intro s hl hs
      refine ih _ (fun j hj => hl j (by simp [hj])) (hx _ _ hs ?_)
      rcases bit_cases x k (hl k (by simp)) with h | h <;> rw [h]
      · exact h0
      · exact hb k (hl k (by simp))
  exact key _ 0 (by simp) h0

/-! ### The field's product is linear on both sides -/
theorem top_cases (a : UInt8) : a &&& 128 = 0 ∨ a &&& 128 = 128 := bit_cases a 7 (by omega)
theorem low_cases (a : UInt8) : a &&& 1 = 0 ∨ a &&& 1 = 1 := bit_cases a 0 (by omega)
theorem and_xor8 (a b c : UInt8) : (a ^^^ b) &&& c = (a &&& c) ^^^ (b &&& c) := by
  rw [← UInt8.toBitVec_inj]; simp only [UInt8.toBitVec_and, UInt8.toBitVec_xor]
  apply BitVec.eq_of_getLsbD_eq
  intro i _
  simp only [BitVec.getLsbD_and, BitVec.getLsbD_xor]
  cases a.toBitVec.getLsbD i <;> cases b.toBitVec.getLsbD i <;> cases c.toBitVec.getLsbD i <;> rfl
theorem shl_xor8 (a b : UInt8) : (a ^^^ b) <<< 1 = (a <<< 1) ^^^ (b <<< 1) := by
  rw [← UInt8.toBitVec_inj]; simp [BitVec.shiftLeft_xor_distrib]
theorem shr_xor8 (a b : UInt8) : (a ^^^ b) >>> 1 = (a >>> 1) ^^^ (b >>> 1) := by
  rw [← UInt8.toBitVec_inj]; simp [BitVec.ushiftRight_xor_distrib]
def ifb (t : Bool) (a : UInt8) : UInt8 := if t then a else 0
theorem dbl_eq (a : UInt8) : dbl a = (a <<< 1) ^^^ ifb ((a &&& 128) != 0) 27 := by
  unfold dbl ifb
  cases (a &&& 128) != 0 <;> simp
theorem dbl_xor (a b : UInt8) : dbl (a ^^^ b) = dbl a ^^^ dbl b := by
  rw [dbl_eq, dbl_eq, dbl_eq, shl_xor8, and_xor8]
  rcases top_cases a with ha | ha <;> rcases top_cases b with hb | hb <;> rw [ha, hb] <;> simp [ifb, xor_assoc8, xor_comm8, xor_left8]
theorem mulL_zero (n : Nat) (a o : UInt8) : mulL n a 0 o = o := by cases n <;> simp [mulL]
theorem mulL_succ (n : Nat) (a b o : UInt8) : mulL (n + 1) a b o = mulL n (dbl a) (b >>> 1) (o ^^^ ifb ((b &&& 1) != 0) a) := by
  by_cases h : b = 0
  · subst h
    rw [mulL_zero]
    show o = mulL n (dbl a) ((0 : UInt8) >>> 1) (o ^^^ ifb false a)
    rw [show ((0 : UInt8) >>> 1) = 0 from rfl, mulL_zero]
    simp [ifb]
  · rw [mulL, if_neg h]
    unfold ifb
    cases (b &&& 1) != 0 <;> simp
theorem mulL_out (n : Nat) : ∀ (a b o c : UInt8), mulL n a b (o ^^^ c) = mulL n a b o ^^^ c := by
  induction n with
  | zero => intros; rfl
  | succ n ih =>
    intro a b o c
    rw [mulL_succ, mulL_succ, xor_assoc8, xor_comm8 c, ← xor_assoc8, ih]
theorem mulL_left (n : Nat) : ∀ (a a' b : UInt8), mulL n (a ^^^ a') b 0 = mulL n a b 0 ^^^ mulL n a' b 0 := by
  induction n with
  | zero => intros; exact (xor_self8 0).symm
  | succ n ih =>
    intro a a' b
    rw [mulL_succ, mulL_succ, mulL_succ, mulL_out, mulL_out, mulL_out, dbl_xor, ih]
    cases (b &&& 1) != 0 <;> simp [ifb, xor_assoc8, xor_comm8, xor_left8]
theorem mulL_right (n : Nat) : ∀ (a b b' : UInt8), mulL n a (b ^^^ b') 0 = mulL n a b 0 ^^^ mulL n a b' 0 := by
  induction n with
  | zero => intros; exact (xor_self8 0).symm
  | succ n ih =>
    intro a b b'
    rw [mulL_succ, mulL_succ, mulL_succ, mulL_out, mulL_out, mulL_out, shr_xor8, ih, and_xor8]
    rcases low_cases b with hb | hb <;> rcases low_cases b' with hb' | hb' <;> rw [hb, hb'] <;> simp [ifb, xor_assoc8, xor_comm8, xor_left8]
    rw [← xor_assoc8 a a, xor_self8, zero_xor8]
theorem gmul_left (a a' b : UInt8) : gmul (a ^^^ a') b = gmul a b ^^^ gmul a' b := mulL_left 8 a a' b
theorem gmul_right (a b b' : UInt8) : gmul a (b ^^^ b') = gmul a b ^^^ gmul a b' := mulL_right 8 a b b'
theorem gmul_zero (a : UInt8) : gmul a 0 = 0 := mulL_zero 8 a 0
theorem zero_gmul (b : UInt8) : gmul 0 b = 0 := by
  have := gmul_left 0 0 b
  rw [xor_self8, xor_self8] at this
  exact this
theorem gmul_comm (a b : UInt8) : gmul a b = gmul b a := by
  refine byte_ind (p := fun a => gmul a b = gmul b a) (by rw [gmul_zero, zero_gmul]) (fun k hk => ?_) (fun x y hx hy => by rw [gmul_left, gmul_right, hx, hy]) a
  refine byte_ind (p := fun b => gmul (1 <<< UInt8.ofNat k) b = gmul b (1 <<< UInt8.ofNat k)) (by rw [gmul_zero, zero_gmul]) (fun j hj => ?_) (fun x y hx hy => by rw [gmul_left, gmul_right, hx, hy]) b
  have h : ((List.range 8).all fun k => (List.range 8).all fun j => gmul (1 <<< UInt8.ofNat k) (1 <<< UInt8.ofNat j) == gmul (1 <<< UInt8.ofNat j) (1 <<< UInt8.ofNat k)) = true := by kernel_rfl
  have h2 := List.all_eq_true.1 (List.all_eq_true.1 h k (by simpa using hk)) j (by simpa using hj)
  simpa using h2
theorem gmul_assoc (a b c : UInt8) : gmul (gmul a b) c = gmul a (gmul b c) := by
  refine byte_ind (p := fun a => gmul (gmul a b) c = gmul a (gmul b c)) (by simp only [zero_gmul]) (fun k hk => ?_) (fun x y hx hy => by rw [gmul_left, gmul_left, gmul_left, hx, hy]) a
  refine byte_ind (p := fun b => gmul (gmul (1 <<< UInt8.ofNat k) b) c = gmul (1 <<< UInt8.ofNat k) (gmul b c)) (by simp only [zero_gmul, gmul_zero]) (fun j hj => ?_) (fun x y hx hy => by rw [gmul_right, gmul_left, gmul_left, gmul_right, hx, hy]) b
  refine byte_ind (p := fun c => gmul (gmul (1 <<< UInt8.ofNat k) (1 <<< UInt8.ofNat j)) c = gmul (1 <<< UInt8.ofNat k) (gmul (1 <<< UInt8.ofNat j) c)) (by simp only [gmul_zero]) (fun i hi => ?_) (fun x y hx hy => by rw [gmul_right, gmul_right, gmul_right, hx, hy]) c
  have h : ((List.range 8).all fun k => (List.range 8).all fun j => (List.range 8).all fun i => gmul (gmul (1 <<< UInt8.ofNat k) (1 <<< UInt8.ofNat j)) (1 <<< UInt8.ofNat i) == gmul (1 <<< UInt8.ofNat k) (gmul (1 <<< UInt8.ofNat j) (1 <<< UInt8.ofNat i))) = true := by kernel_rfl
  have h2 := List.all_eq_true.1 (List.all_eq_true.1 (List.all_eq_true.1 h k (by simpa using hk)) j (by simpa using hj)) i (by simpa using hi)
  simpa using h2
theorem gmul_one (a : UInt8) : gmul a 1 = a := by
  have := all8 (p := fun a => gmul a 1 == a) (by kernel_rfl) a
  simpa using this
theorem one_gmul (a : UInt8) : gmul 1 a = a := by rw [gmul_comm, gmul_one]
theorem gmul_ginv (a : UInt8) (h : a ≠ 0) : gmul a (ginv a) = 1 := by
  have := all8 (p := fun a => a == 0 || gmul a (ginv a) == 1) (by kernel_rfl) a
  simpa [h] using this
theorem gmul_eq_zero (a b : UInt8) : gmul a b = 0 ↔ a = 0 ∨ b = 0 := by
  refine ⟨fun h => ?_, fun h => by rcases h with rfl | rfl; exact zero_gmul b; exact gmul_zero a⟩
  by_cases ha : a = 0
  · exact .inl ha
  · right
    have h2 : gmul (ginv a) (gmul a b) = b := by rw [← gmul_assoc, gmul_comm (ginv a), gmul_ginv a ha, one_gmul]
    rw [h, gmul_zero] at h2
    exact h2.symm
/-! ### Powers -/
def npow (a : UInt8) : Nat → UInt8
  | 0 => 1
  | k + 1 => gmul (npow a k) a
theorem npow_add (a : UInt8) (m n : Nat) : npow a (m + n) = gmul (npow a m) (npow a n) := by
  induction n with
  | zero => exact (gmul_one _).symm
  | succ n ih => show gmul (npow a (m + n)) a = gmul (npow a m) (gmul (npow a n) a); rw [ih, gmul_assoc]
theorem npow_sq (a : UInt8) (q : Nat) : npow (gmul a a) q = npow a (2 * q) := by
  induction q with
  | zero => rfl
  | succ q ih =>
    show gmul (npow (gmul a a) q) (gmul a a) = npow a (2 * q + 1 + 1)
    rw [ih]
    show _ = gmul (gmul (npow a (2 * q)) a) a
    rw [gmul_assoc]
theorem npow_mul (a : UInt8) (m n : Nat) : npow (npow a m) n = npow a (m * n) := by
  induction n with
  | zero => rfl
  | succ n ih => show gmul (npow (npow a m) n) (npow a m) = npow a (m * n + m); rw [ih, npow_add]
theorem npow_zero (n : Nat) : npow 0 (n + 1) = 0 := gmul_zero _
theorem powL_eq (k : Nat) : ∀ (a : UInt8) (n : UInt64) (o : UInt8), n.toNat < 2 ^ k → powL k a n o = gmul o (npow a n.toNat) := by
  induction k with
  | zero =>
    intro a n o h
    have : n.toNat = 0 := by simpa using h
    rw [this]; exact (gmul_one o).symm
  | succ k ih =>
    intro a n o h
    unfold powL
    by_cases hn : n = 0
    · subst hn; rw [if_pos rfl]; exact (gmul_one o).symm
    · rw [if_neg hn]
      have h1 : (n >>> 1).toNat = n.toNat / 2 := by
        have : (n >>> 1).toNat = n.toNat >>> 1 := UInt64.toNat_shiftRight n 1
        rw [this, Nat.shiftRight_eq_div_pow]
      have h2 : (n &&& 1).toNat = n.toNat % 2 := by
        have : (n &&& 1).toNat = n.toNat &&& 1 := UInt64.toNat_and n 1
        rw [this, Nat.and_one_is_mod]
      rw [ih _ _ _ (by rw [h1, Nat.pow_succ] at *; omega), h1, npow_sq]
      have hd : n.toNat = 2 * (n.toNat / 2) + n.toNat % 2 := by omega
      rcases Nat.mod_two_eq_zero_or_one n.toNat with hm | hm
      · have hb : ((n &&& 1) != 0) = false := by
          have : n &&& 1 = 0 := by rw [← UInt64.toNat_inj, h2, hm]; rfl
          rw [this]; rfl
        rw [hb]
        simp only [Bool.false_eq_true, if_false]
        rw [show n.toNat = 2 * (n.toNat / 2) by omega]
        congr 2; omega
      · have hb : ((n &&& 1) != 0) = true := by
          have : n &&& 1 = 1 := by rw [← UInt64.toNat_inj, h2, hm]; rfl
          rw [this]; rfl
        rw [hb]
        simp only [if_true]
        have e : npow a n.toNat = gmul (npow a (2 * (n.toNat / 2))) a := by
          rw [show n.toNat = 2 * (n.toNat / 2) + 1 by omega]
          show gmul (npow a _) a = _
          congr 2; omega
        rw [e, gmul_assoc, gmul_comm a]
theorem gpow_eq (a : UInt8) (n : UInt64) : gpow a n = npow a n.toNat := by
  unfold gpow
  rw [powL_eq 64 a n 1 n.toNat_lt, one_gmul]
theorem npow_255 (a : UInt8) (h : a ≠ 0) : npow a 255 = 1 := by
  have h1 : ginv a = npow a 254 := gpow_eq a 254
  show gmul (npow a 254) a = 1
  rw [← h1, gmul_comm, gmul_ginv a h]
end Go.Sh
