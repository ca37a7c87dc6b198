/- A part of a proof of a given law of this program: lemmas, printed forms of its functions, contracts. It has no conditions of its own. -/
import Derived.Test.YtcfealonnakdcaaGreatMC0
import Derived.Test.YtcfealonnakdcaaGreatMS1
import Derived.Test.YtcfealonnakdcaaGreatMW1
import Derived.Test.YtcfealonnakdcaaGreatMS0

section
namespace Go.Sh
open Go Go.Fw Go.Proofs
set_option maxRecDepth 100000
set_option linter.unusedVariables false
def Eqn (n : Nat) (x y : Nat → UInt8) : Prop := ∀ j, j < n → x j = y j
def gF (f : Nat → UInt8) (j : Nat) (a : UInt8) : UInt8 := gmul a (f j)
def fE : Nat → UInt8 := fun j => if j = 0 then 2 else if j = 1 then 3 else 1
def fD : Nat → UInt8 := fun j => if j = 0 then 14 else if j = 1 then 11 else if j = 2 then 13 else 9
def kAt (ks : Nat → UInt8) (r : Nat) : Nat → UInt8 := fun j => ks (16 * r + j)
def xorF (x y : Nat → UInt8) : Nat → UInt8 := fun j => x j ^^^ y j
def encR (ks x : Nat → UInt8) : Nat → (Nat → UInt8)
  | 0 => xorF x (kAt ks 0)
  | r + 1 => xorF (if r + 1 < 10 then acols (gF fE) (arows 1 (fun j => gsign (encR ks x r j))) else arows 1 (fun j => gsign (encR ks x r j))) (kAt ks (r + 1))
def aenc (ks x : Nat → UInt8) : Nat → UInt8 := encR ks x 10
def decR (ks x : Nat → UInt8) : Nat → (Nat → UInt8)
  | 0 => x
  | n + 1 => fun j => gunsign (arows 3 (if 10 - n < 10 then acols (gF fD) (xorF (decR ks x n) (kAt ks (10 - n))) else xorF (decR ks x n) (kAt ks (10 - n))) j)
def adec (ks x : Nat → UInt8) : Nat → UInt8 := xorF (decR ks x 10) (kAt ks 0)
theorem csum_congr {g : Nat → UInt8 → UInt8} {x y : Nat → UInt8} (h : Eqn 16 x y) {k : Nat} (hk : k < 16) : ∀ m, csum g x k m = csum g y k m := by
  intro m
  induction m with
  | zero => rfl
  | succ m ih => unfold csum; rw [ih, h _ (by omega)]
theorem acols_congr {g : Nat → UInt8 → UInt8} {x y : Nat → UInt8} (h : Eqn 16 x y) : Eqn 16 (acols g x) (acols g y) := fun k hk => csum_congr h hk 4
theorem arows_congr {m : Nat} {x y : Nat → UInt8} (h : Eqn 16 x y) : Eqn 16 (arows m x) (arows m y) := fun k hk => h _ (Nat.mod_lt _ (by omega))
theorem xorF_congr {x y k : Nat → UInt8} (h : Eqn 16 x y) : Eqn 16 (xorF x k) (xorF y k) := fun j hj => by unfold xorF; rw [h j hj]
theorem xorF_twice (x k : Nat → UInt8) : xorF (xorF x k) k = x := by
  funext j; unfold xorF; rw [xor_assoc8, xor_self8, xor_zero8]
theorem arows_31 (x : Nat → UInt8) : Eqn 16 (arows 3 (arows 1 x)) x := by
  intro j hj
  show x _ = x j
  congr 1; omega
theorem arows_13 (x : Nat → UInt8) : Eqn 16 (arows 1 (arows 3 x)) x := by
  intro j hj
  show x _ = x j
  congr 1; omega
theorem mix4 (e0 e1 e2 e3 d0 d1 d2 d3 : UInt8) (h0 : gmul e0 d0 ^^^ gmul e3 d1 ^^^ gmul e2 d2 ^^^ gmul e1 d3 = 1) (h1 : gmul e1 d0 ^^^ gmul e0 d1 ^^^ gmul e3 d2 ^^^ gmul e2 d3 = 0)
    (h2 : gmul e2 d0 ^^^ gmul e1 d1 ^^^ gmul e0 d2 ^^^ gmul e3 d3 = 0) (h3 : gmul e3 d0 ^^^ gmul e2 d1 ^^^ gmul e1 d2 ^^^ gmul e0 d3 = 0) (a b c d : UInt8) :
    gmul (gmul a e0 ^^^ gmul b e1 ^^^ gmul c e2 ^^^ gmul d e3) d0 ^^^ gmul (gmul b e0 ^^^ gmul c e1 ^^^ gmul d e2 ^^^ gmul a e3) d1 ^^^ gmul (gmul c e0 ^^^ gmul d e1 ^^^ gmul a e2 ^^^ gmul b e3) d2 ^^^ gmul (gmul d e0 ^^^ gmul a e1 ^^^ gmul b e2 ^^^ gmul c e3) d3 = a := by
  have r : ∀ (x p q s t : UInt8), gmul x p ^^^ gmul x q ^^^ gmul x s ^^^ gmul x t = gmul x (p ^^^ q ^^^ s ^^^ t) := by
    intro x p q s t; rw [gmul_right, gmul_right, gmul_right]
  have ha := r a (gmul e0 d0) (gmul e3 d1) (gmul e2 d2) (gmul e1 d3)
  have hb := r b (gmul e1 d0) (gmul e0 d1) (gmul e3 d2) (gmul e2 d3)
  have hc := r c (gmul e2 d0) (gmul e1 d1) (gmul e0 d2) (gmul e3 d3)
  have hd := r d (gmul e3 d0) (gmul e2 d1) (gmul e1 d2) (gmul e0 d3)
  rw [h0, gmul_one] at ha
  rw [h1, gmul_zero] at hb
  rw [h2, gmul_zero] at hc
  rw [h3, gmul_zero] at hd
  have e : gmul (gmul a e0 ^^^ gmul b e1 ^^^ gmul c e2 ^^^ gmul d e3) d0 ^^^ gmul (gmul b e0 ^^^ gmul c e1 ^^^ gmul d e2 ^^^ gmul a e3) d1 ^^^ gmul (gmul c e0 ^^^ gmul d e1 ^^^ gmul a e2 ^^^ gmul b e3) d2 ^^^ gmul (gmul d e0 ^^^ gmul a e1 ^^^ gmul b e2 ^^^ gmul c e3) d3 =
      (gmul a (gmul e0 d0) ^^^ gmul a (gmul e3 d1) ^^^ gmul a (gmul e2 d2) ^^^ gmul a (gmul e1 d3)) ^^^ (gmul b (gmul e1 d0) ^^^ gmul b (gmul e0 d1) ^^^ gmul b (gmul e3 d2) ^^^ gmul b (gmul e2 d3)) ^^^
      (gmul c (gmul e2 d0) ^^^ gmul c (gmul e1 d1) ^^^ gmul c (gmul e0 d2) ^^^ gmul c (gmul e3 d3)) ^^^ (gmul d (gmul e3 d0) ^^^ gmul d (gmul e2 d1) ^^^ gmul d (gmul e1 d2) ^^^ gmul d (gmul e0 d3)) := by
    simp only [gmul_left, gmul_assoc]
    ac_rfl
  rw [e, ha, hb, hc, hd, xor_zero8, xor_zero8, xor_zero8]
theorem csum4 (g : Nat → UInt8 → UInt8) (x : Nat → UInt8) (k : Nat) : acols g x k = g 0 (x (4 * (k / 4) + (k % 4 + 0) % 4)) ^^^ g 1 (x (4 * (k / 4) + (k % 4 + 1) % 4)) ^^^ g 2 (x (4 * (k / 4) + (k % 4 + 2) % 4)) ^^^ g 3 (x (4 * (k / 4) + (k % 4 + 3) % 4)) := by
  show (((0 ^^^ _) ^^^ _) ^^^ _) ^^^ _ = _
  rw [zero_xor8]
theorem acols_two (e d : Nat → UInt8) (h0 : gmul (e 0) (d 0) ^^^ gmul (e 3) (d 1) ^^^ gmul (e 2) (d 2) ^^^ gmul (e 1) (d 3) = 1) (h1 : gmul (e 1) (d 0) ^^^ gmul (e 0) (d 1) ^^^ gmul (e 3) (d 2) ^^^ gmul (e 2) (d 3) = 0)
    (h2 : gmul (e 2) (d 0) ^^^ gmul (e 1) (d 1) ^^^ gmul (e 0) (d 2) ^^^ gmul (e 3) (d 3) = 0) (h3 : gmul (e 3) (d 0) ^^^ gmul (e 2) (d 1) ^^^ gmul (e 1) (d 2) ^^^ gmul (e 0) (d 3) = 0) (x : Nat → UInt8) :
    Eqn 16 (acols (gF d) (acols (gF e) x)) x := by
  intro k hk
  have hin : ∀ j, j < 4 → acols (gF e) x (4 * (k / 4) + (k % 4 + j) % 4) = gmul (x (4 * (k / 4) + (k % 4 + j) % 4)) (e 0) ^^^ gmul (x (4 * (k / 4) + (k % 4 + (j + 1)) % 4)) (e 1) ^^^ gmul (x (4 * (k / 4) + (k % 4 + (j + 2)) % 4)) (e 2) ^^^ gmul (x (4 * (k / 4) + (k % 4 + (j + 3)) % 4)) (e 3) := by
    intro j hj
    rw [csum4]
    have q : ∀ m, m < 4 → 4 * ((4 * (k / 4) + (k % 4 + j) % 4) / 4) + ((4 * (k / 4) + (k % 4 + j) % 4) % 4 + m) % 4 = 4 * (k / 4) + (k % 4 + (j + m)) % 4 := by intro m hm; omega
    rw [q 0 (by omega), q 1 (by omega), q 2 (by omega), q 3 (by omega)]
    rfl
  have m4 : ∀ j, 4 * (k / 4) + (k % 4 + (j + 4)) % 4 = 4 * (k / 4) + (k % 4 + j) % 4 := by intro j; omega
  rw [csum4, hin 0 (by omega), hin 1 (by omega), hin 2 (by omega), hin 3 (by omega)]
  show gmul (gmul _ (e 0) ^^^ gmul _ (e 1) ^^^ gmul _ (e 2) ^^^ gmul _ (e 3)) (d 0) ^^^ gmul (gmul _ (e 0) ^^^ gmul _ (e 1) ^^^ gmul _ (e 2) ^^^ gmul (x (4 * (k / 4) + (k % 4 + (0 + 4)) % 4)) (e 3)) (d 1) ^^^ gmul (gmul _ (e 0) ^^^ gmul _ (e 1) ^^^ gmul (x (4 * (k / 4) + (k % 4 + (0 + 4)) % 4)) (e 2) ^^^ gmul (x (4 * (k / 4) + (k % 4 + (1 + 4)) % 4)) (e 3)) (d 2) ^^^ gmul (gmul _ (e 0) ^^^ gmul (x (4 * (k / 4) + (k % 4 + (0 + 4)) % 4)) (e 1) ^^^ gmul (x (4 * (k / 4) + (k % 4 + (1 + 4)) % 4)) (e 2) ^^^ gmul (x (4 * (k / 4) + (k % 4 + (2 + 4)) % 4)) (e 3)) (d 3) = x k
  rw [m4 0, m4 1, m4 2]
  refine (mix4 (e 0) (e 1) (e 2) (e 3) (d 0) (d 1) (d 2) (d 3) h0 h1 h2 h3 (x (4 * (k / 4) + (k % 4 + 0) % 4)) (x (4 * (k / 4) + (k % 4 + 1) % 4)) (x (4 * (k / 4) + (k % 4 + 2) % 4)) (x (4 * (k / 4) + (k % 4 + 3) % 4))).trans ?_
  congr 1; omega
theorem acols_de (x : Nat → UInt8) : Eqn 16 (acols (gF fD) (acols (gF fE) x)) x := acols_two fE fD (by kernel_rfl) (by kernel_rfl) (by kernel_rfl) (by kernel_rfl) x
theorem acols_ed (x : Nat → UInt8) : Eqn 16 (acols (gF fE) (acols (gF fD) x)) x := acols_two fD fE (by kernel_rfl) (by kernel_rfl) (by kernel_rfl) (by kernel_rfl) x
theorem Eqn.trans {n : Nat} {x y z : Nat → UInt8} (h : Eqn n x y) (k : Eqn n y z) : Eqn n x z := fun j hj => (h j hj).trans (k j hj)
theorem Eqn.symm {n : Nat} {x y : Nat → UInt8} (h : Eqn n x y) : Eqn n y x := fun j hj => (h j hj).symm
theorem Eqn.map {n : Nat} {x y : Nat → UInt8} (h : Eqn n x y) (g : UInt8 → UInt8) : Eqn n (fun j => g (x j)) (fun j => g (y j)) := fun j hj => by show g (x j) = g (y j); rw [h j hj]
theorem encR_congr (ks : Nat → UInt8) {x y : Nat → UInt8} (h : Eqn 16 x y) : ∀ r, Eqn 16 (encR ks x r) (encR ks y r) := by
  intro r
  induction r with
  | zero => exact xorF_congr h
  | succ r ih =>
    unfold encR
    refine xorF_congr ?_
    have h1 := arows_congr (m := 1) (ih.map gsign)
    split
    · exact acols_congr h1
    · exact h1
theorem decR_congr (ks : Nat → UInt8) {x y : Nat → UInt8} (h : Eqn 16 x y) : ∀ n, Eqn 16 (decR ks x n) (decR ks y n) := by
  intro n
  induction n with
  | zero => exact h
  | succ n ih =>
    unfold decR
    refine Eqn.map (arows_congr (m := 3) ?_) gunsign
    split
    · exact acols_congr (xorF_congr ih)
    · exact xorF_congr ih
theorem round_undone (k y : Nat → UInt8) (t : Prop) [Decidable t] : Eqn 16 (fun j => gunsign (arows 3 (if t then acols (gF fD) (xorF (xorF (if t then acols (gF fE) (arows 1 (fun j => gsign (y j))) else arows 1 (fun j => gsign (y j))) k) k) else xorF (xorF (if t then acols (gF fE) (arows 1 (fun j => gsign (y j))) else arows 1 (fun j => gsign (y j))) k) k) j)) y := by
  rw [xorF_twice]
  have h2 : Eqn 16 (if t then acols (gF fD) (if t then acols (gF fE) (arows 1 (fun j => gsign (y j))) else arows 1 (fun j => gsign (y j))) else (if t then acols (gF fE) (arows 1 (fun j => gsign (y j))) else arows 1 (fun j => gsign (y j)))) (arows 1 (fun j => gsign (y j))) := by
    by_cases ht : t
    · simp only [ht, if_true]; exact acols_de _
    · simp only [ht, if_false]; exact fun _ _ => rfl
  refine ((((arows_congr (m := 3) h2).trans (arows_31 _)).map gunsign)).trans fun j _ => ?_
  exact unsign_sign (y j)
theorem dec_enc (ks x : Nat → UInt8) : ∀ n, n ≤ 10 → Eqn 16 (decR ks (aenc ks x) n) (encR ks x (10 - n)) := by
  intro n
  induction n with
  | zero => intro _ j _; rfl
  | succ n ih =>
    intro hn
    obtain ⟨r, hr⟩ : ∃ r, 10 - n = r + 1 := ⟨9 - n, by omega⟩
    have h1 := ih (by omega)
    rw [hr] at h1
    have e : 10 - (n + 1) = r := by omega
    rw [e]
    refine Eqn.trans ?_ (round_undone (kAt ks (r + 1)) (encR ks x r) (r + 1 < 10))
    unfold decR
    rw [hr]
    refine Eqn.map (arows_congr (m := 3) ?_) gunsign
    by_cases ht : r + 1 < 10
    · simp only [ht, if_true]
      have := acols_congr (g := gF fD) (xorF_congr (k := kAt ks (r + 1)) h1)
      unfold encR at this
      simp only [ht, if_true] at this
      exact this
    · simp only [ht, if_false]
      have := xorF_congr (k := kAt ks (r + 1)) h1
      unfold encR at this
      simp only [ht, if_false] at this
      exact this
theorem adec_aenc (ks x : Nat → UInt8) : Eqn 16 (adec ks (aenc ks x)) x := by
  intro j hj
  have h := dec_enc ks x 10 (by omega) j hj
  show xorF (decR ks (aenc ks x) 10) (kAt ks 0) j = x j
  unfold xorF
  rw [h]
  show (xorF x (kAt ks 0) j) ^^^ kAt ks 0 j = x j
  unfold xorF
  rw [xor_assoc8, xor_self8, xor_zero8]
theorem round_done (k y : Nat → UInt8) (t : Prop) [Decidable t] : Eqn 16 (xorF (if t then acols (gF fE) (arows 1 (fun j => gsign (gunsign (arows 3 (if t then acols (gF fD) (xorF y k) else xorF y k) j)))) else arows 1 (fun j => gsign (gunsign (arows 3 (if t then acols (gF fD) (xorF y k) else xorF y k) j)))) k) y := by
  have h1 : Eqn 16 (arows 1 (fun j => gsign (gunsign (arows 3 (if t then acols (gF fD) (xorF y k) else xorF y k) j)))) (if t then acols (gF fD) (xorF y k) else xorF y k) := by
    refine (arows_congr (m := 1) (y := arows 3 (if t then acols (gF fD) (xorF y k) else xorF y k)) fun j _ => ?_).trans (arows_13 _)
    exact sign_unsign _
  have h2 : Eqn 16 (if t then acols (gF fE) (arows 1 (fun j => gsign (gunsign (arows 3 (if t then acols (gF fD) (xorF y k) else xorF y k) j)))) else arows 1 (fun j => gsign (gunsign (arows 3 (if t then acols (gF fD) (xorF y k) else xorF y k) j)))) (xorF y k) := by
    by_cases ht : t
    · simp only [ht, if_true] at h1 ⊢; exact (acols_congr h1).trans (acols_ed _)
    · simp only [ht, if_false] at h1 ⊢; exact h1
  have h3 := xorF_congr (k := k) h2
  rw [xorF_twice] at h3
  exact h3
theorem enc_dec (ks x : Nat → UInt8) : ∀ r, r ≤ 10 → Eqn 16 (encR ks (adec ks x) r) (decR ks x (10 - r)) := by
  intro r
  induction r with
  | zero =>
    intro _
    show Eqn 16 (xorF (xorF (decR ks x 10) (kAt ks 0)) (kAt ks 0)) (decR ks x 10)
    rw [xorF_twice]; exact fun _ _ => rfl
  | succ r ih =>
    intro hr
    obtain ⟨n, hn⟩ : ∃ n, 10 - r = n + 1 := ⟨9 - r, by omega⟩
    have h1 := ih (by omega)
    rw [hn] at h1
    have e : 10 - (r + 1) = n := by omega
    have e2 : 10 - n = r + 1 := by omega
    rw [e]
    refine Eqn.trans ?_ (round_done (kAt ks (r + 1)) (decR ks x n) (r + 1 < 10))
    unfold encR
    unfold decR at h1
    rw [e2] at h1
    refine xorF_congr ?_
    have h2 := arows_congr (m := 1) (h1.map gsign)
    by_cases ht : r + 1 < 10
    · simp only [ht, if_true] at h2 ⊢; exact acols_congr h2
    · simp only [ht, if_false] at h2 ⊢; exact h2
theorem aenc_adec (ks x : Nat → UInt8) : Eqn 16 (aenc ks (adec ks x)) x := enc_dec ks x 10 (by omega)
end Go.Sh
end

section
namespace Go.Sh
open Go Go.Fw Go.Proofs
set_option maxRecDepth 100000
set_option linter.unusedVariables false
def bl (n : Nat) (x : Nat → UInt8) : List UInt8 := (List.range n).map x
def fl (xs : List UInt8) : Nat → UInt8 := fun j => xs.getD j 0
theorem bl_len (n : Nat) (x : Nat → UInt8) : (bl n x).length = n := by simp [bl]
theorem bl_getD {n : Nat} {x : Nat → UInt8} {j : Nat} (h : j < n) : (bl n x).getD j 0 = x j := by simp [bl, h]
theorem bl_get {n : Nat} {x : Nat → UInt8} {j : Nat} (h : j < n) : (bl n x)[j]? = some (x j) := by simp [bl, h]
theorem fl_bl (n : Nat) (x : Nat → UInt8) : Eqn n (fl (bl n x)) x := fun j hj => bl_getD hj
theorem bl_congr {n : Nat} {x y : Nat → UInt8} (h : Eqn n x y) : bl n x = bl n y := by
  unfold bl
  exact List.map_congr_left fun j hj => h j (by simpa using hj)
theorem bl_fl (xs : List UInt8) : bl xs.length (fl xs) = xs := by
  apply List.ext_getElem?
  intro j
  by_cases hj : j < xs.length
  · rw [bl_get hj, List.getElem?_eq_getElem hj]; unfold fl; rw [List.getD_eq_getElem?_getD, List.getElem?_eq_getElem hj]; rfl
  · rw [List.getElem?_eq_none (by rw [bl_len]; omega), List.getElem?_eq_none (by omega)]
theorem blist_bl (n : Nat) (x : Nat → UInt8) : blist n x = (bl n x).map vb := by simp [blist, bl]
theorem xs_bl {xs : List UInt8} {n : Nat} (h : xs.length = n) : xs = bl n (fl xs) := by subst h; exact (bl_fl xs).symm
def turnedF (x : Nat → UInt8) (r : Nat) : Nat → UInt8 := fun j => if j = 0 then gsign (x 1) ^^^ gpow 2 (UInt64.ofNat (r - 1)) else gsign (x ((j + 1) % 4))
def wnext (key : Nat → UInt8) (k : Nat) (ws : Nat → UInt8) : Nat → UInt8 := fun j =>
  if k < 4 then key (4 * k + j) else ws (4 * (k - 4) + j) ^^^ (if k % 4 = 0 then turnedF (fun i => ws (4 * (k - 1) + i)) (k / 4) j else ws (4 * (k - 1) + j))
def awords (key : Nat → UInt8) : Nat → (Nat → UInt8)
  | 0 => fun _ => 0
  | n + 1 => fun i => if i < 4 * n then awords key n i else wnext key n (awords key n) (i - 4 * n)
def akeys (key : Nat → UInt8) : Nat → UInt8 := awords key 44
theorem awords_le (key : Nat → UInt8) {n : Nat} : ∀ m, n ≤ m → ∀ i, i < 4 * n → awords key m i = awords key n i := by
  intro m
  induction m with
  | zero => intro h i hi; omega
  | succ m ih =>
    intro h i hi
    by_cases hm : n = m + 1
    · subst hm; rfl
    · show (if i < 4 * m then awords key m i else _) = _
      rw [if_pos (by omega), ih (by omega) i hi]
theorem wnext_congr {key : Nat → UInt8} {k : Nat} {ws ws' : Nat → UInt8} (h : ∀ i, i < 4 * k → ws i = ws' i) {j : Nat} (hj : j < 4) : wnext key k ws j = wnext key k ws' j := by
  unfold wnext
  by_cases hk : k < 4
  · rw [if_pos hk, if_pos hk]
  · rw [if_neg hk, if_neg hk, h _ (by omega), h (4 * (k - 1) + j) (by omega)]
    have : turnedF (fun i => ws (4 * (k - 1) + i)) (k / 4) j = turnedF (fun i => ws' (4 * (k - 1) + i)) (k / 4) j := by
      show (if j = 0 then gsign (ws (4 * (k - 1) + 1)) ^^^ gpow 2 (UInt64.ofNat (k / 4 - 1)) else gsign (ws (4 * (k - 1) + (j + 1) % 4))) = (if j = 0 then gsign (ws' (4 * (k - 1) + 1)) ^^^ gpow 2 (UInt64.ofNat (k / 4 - 1)) else gsign (ws' (4 * (k - 1) + (j + 1) % 4)))
      rw [h (4 * (k - 1) + 1) (by omega), h (4 * (k - 1) + (j + 1) % 4) (by omega)]
    rw [this]
theorem akeys_word (key : Nat → UInt8) {k j : Nat} (hk : k < 44) (hj : j < 4) : akeys key (4 * k + j) = wnext key k (akeys key) j := by
  unfold akeys
  rw [awords_le key (n := k + 1) 44 (by omega) _ (by omega)]
  show (if 4 * k + j < 4 * k then _ else wnext key k (awords key k) (4 * k + j - 4 * k)) = _
  rw [if_neg (by omega), show 4 * k + j - 4 * k = j by omega]
  exact wnext_congr (fun i hi => (awords_le key (n := k) 44 (by omega) i hi).symm) hj
def aencL (key xs : List UInt8) : List UInt8 := bl 16 (aenc (akeys (fl key)) (fl xs))
def adecL (key xs : List UInt8) : List UInt8 := bl 16 (adec (akeys (fl key)) (fl xs))
theorem aenc_congr (ks : Nat → UInt8) {x y : Nat → UInt8} (h : Eqn 16 x y) : Eqn 16 (aenc ks x) (aenc ks y) := encR_congr ks h 10
theorem adec_congr (ks : Nat → UInt8) {x y : Nat → UInt8} (h : Eqn 16 x y) : Eqn 16 (adec ks x) (adec ks y) := xorF_congr (decR_congr ks h 10)
theorem adecL_aencL (key xs : List UInt8) (h : xs.length = 16) : adecL key (aencL key xs) = xs := by
  unfold adecL aencL
  rw [bl_congr ((adec_congr _ (fl_bl 16 _)).trans (adec_aenc _ _)), ← xs_bl h]
theorem aencL_adecL (key xs : List UInt8) (h : xs.length = 16) : aencL key (adecL key xs) = xs := by
  unfold adecL aencL
  rw [bl_congr ((aenc_congr _ (fl_bl 16 _)).trans (aenc_adec _ _)), ← xs_bl h]
theorem aencL_len (key xs : List UInt8) : (aencL key xs).length = 16 := bl_len _ _
theorem adecL_len (key xs : List UInt8) : (adecL key xs).length = 16 := bl_len _ _
end Go.Sh
end

section
namespace Go.Sh
open Go Go.Fw Go.Proofs
set_option maxRecDepth 100000
set_option linter.unusedVariables false
def OB (w : World) (p : Option Addr) (l c : Nat) (xs : List UInt8) (lo : Nat) : Prop := OwnS w p l c (xs.map vb) ∧ l = xs.length ∧ ∀ k ∈ blks p, lo ≤ k
theorem OB.row {w : World} {p : Option Addr} {l c : Nat} {xs : List UInt8} {lo : Nat} (h : OB w p l c xs lo) : Row w p (xs.map vb) := h.1.row
theorem OB.fr {w w' : World} {p : Option Addr} {l c : Nat} {xs : List UInt8} {lo : Nat} {L : List Nat} (h : OB w p l c xs lo) (hf : Fr L w w') (hl : ∀ k ∈ blks p, k ∉ L) : OB w' p l c xs lo := ⟨h.1.fr hf hl, h.2⟩
theorem OB.fr0 {w w' : World} {p : Option Addr} {l c : Nat} {xs : List UInt8} {lo : Nat} (h : OB w p l c xs lo) (hf : Fr [] w w') : OB w' p l c xs lo := h.fr hf (by simp)
theorem OB.mono {w : World} {p : Option Addr} {l c : Nat} {xs : List UInt8} {lo lo' : Nat} (h : OB w p l c xs lo) (h1 : lo' ≤ lo) : OB w p l c xs lo' := ⟨h.1, h.2.1, fun k hk => Nat.le_trans h1 (h.2.2 k hk)⟩
theorem OB.nil (w : World) (lo : Nat) : OB w none 0 0 [] lo := ⟨OwnS.nil w, rfl, by simp [blks]⟩
theorem OB.lt {w : World} {p : Option Addr} {l c : Nat} {xs : List UInt8} {lo : Nat} (h : OB w p l c xs lo) : ∀ k ∈ blks p, k < w.heap.size := h.1.lt
theorem OB.cap {w : World} {p : Option Addr} {l c : Nat} {xs : List UInt8} {lo : Nat} (h : OB w p l c xs lo) : l ≤ c := by
  obtain ⟨⟨hl, ⟨_, h0, h1⟩ | ⟨g, o, N, f, rfl, hB, hoc, hlc, hf⟩⟩, _⟩ := h <;> omega
theorem OB.news {a w w' : World} {p : Option Addr} {l c : Nat} {xs : List UInt8} {lo : Nat} (h : OB w p l c xs lo) (h1 : Fr [] a w) (h2 : Fr (blks p) w w') (h3 : a.heap.size ≤ lo) : Fr [] a w' := h1.trans h2 fun z hz => .inr (Nat.le_trans h3 (h.2.2 z hz))
theorem mk0 {w : World} {K : Option Addr → Nat → Nat → World → Prop} (h : ∀ p w', Fr [] w w' → OB w' p 0 0 [] w.heap.size → w'.heap.size = w.heap.size + 1 → K p 0 0 w') : ∃ p l c w', Ef Tryz.prog (Instr.buildSlice T_S_uint8 0 #[]) w (.slice p l c) w' ∧ K p l c w' :=
  ⟨_, _, _, Ef.new (cs := #[]) (v := .slice (some ⟨w.heap.size, 0, none⟩) 0 0) (e := T_uint8) (by kernel_rfl) fun w' f hB s => h _ w' f ⟨⟨rfl, .inr ⟨_, _, _, _, rfl, hB, by simp, by simp, by simp⟩⟩, rfl, by simp [blks]⟩ s⟩
theorem push1 {w : World} {p : Option Addr} {l c : Nat} {xs : List UInt8} {lo : Nat} {x : UInt8} (h : OB w p l c xs lo) (hlo : lo ≤ w.heap.size) (hlen : l < 1073741824) {K : Option Addr → Nat → Nat → World → Prop}
    (hk : ∀ p' c' w', Fr (blks p) w w' → OB w' p' (l + 1) c' (xs ++ [x]) lo → K p' (l + 1) c' w') :
    ∃ q m d w1, Ef Tryz.prog (Instr.buildSlice T_S_uint8 1 #[(0, .int .u8 (x.toNat : Int))]) w (.slice q m d) w1 ∧ ∃ p' l' c' w2, Ef Tryz.prog (Builtin.append_ #[T_S_uint8, T_S_uint8] T_S_uint8 #[.slice p l c, .slice q m d]) w1 (.slice p' l' c') w2 ∧ K p' l' c' w2 := by
  refine ⟨_, _, _, Ef.new (v := .slice (some ⟨w.heap.size, 0, none⟩) 1 1) (cs := ([vb x] : List Value).toArray) (e := T_uint8) (by kernel_rfl) fun w1 f1 hB1 s1 => ?_⟩
  obtain ⟨hO, hl, hp⟩ := h.fr0 f1
  obtain ⟨p', c', w', he, hO', hf, hcase⟩ := Ef.append (P := Tryz.prog) (t := T_S_uint8) (ty := T_S_uint8) (by kernel_rfl) hO (m := 1) (d := 1) hB1.rowL rfl (by simp; rfl) (by omega)
  refine ⟨_, _, _, _, he, hk p' c' w' (f1.after hf) ⟨by simpa using hO', by simp [hl], fun z hz => ?_⟩⟩
  rcases hcase with ⟨rfl, _, _⟩ | ⟨rfl, _, h3⟩
  · exact hp z hz
  · simp only [blks, List.mem_singleton] at hz; omega
theorem pushN {w : World} {p : Option Addr} {l c : Nat} {xs : List UInt8} {lo : Nat} {q : Option Addr} {m d : Nat} {ys : List UInt8} (h : OB w p l c xs lo) (hlo : lo ≤ w.heap.size) (hR : Row w q (ys.map vb)) (hm : m = ys.length) (hlen : l + m ≤ 1073741824) {K : Option Addr → Nat → Nat → World → Prop}
    (hk : ∀ p' c' w', Fr (blks p) w w' → OB w' p' (l + m) c' (xs ++ ys) lo → K p' (l + m) c' w') :
    ∃ p' l' c' w2, Ef Tryz.prog (Builtin.append_ #[T_S_uint8, T_S_uint8] T_S_uint8 #[.slice p l c, .slice q m d]) w (.slice p' l' c') w2 ∧ K p' l' c' w2 := by
  obtain ⟨hO, hl, hp⟩ := h
  obtain ⟨p', c', w', he, hO', hf, hcase⟩ := Ef.append (P := Tryz.prog) (t := T_S_uint8) (ty := T_S_uint8) (by kernel_rfl) hO (m := m) (d := d) hR (by simpa using hm) (cells_vb ys) hlen
  refine ⟨_, _, _, _, he, hk p' c' w' hf ⟨by simpa using hO', by simp [hl, hm], fun z hz => ?_⟩⟩
  rcases hcase with ⟨rfl, _, _⟩ | ⟨rfl, _, h3⟩
  · exact hp z hz
  · simp only [blks, List.mem_singleton] at hz; omega
theorem mkN {w : World} {n c : Nat} (hn : n ≤ c) (hc : c ≤ 1073741824) {k k' : IntKind} {K : Option Addr → Nat → Nat → World → Prop} (h : ∀ p w', Fr [] w w' → OB w' p n c (List.replicate n 0) w.heap.size → w'.heap.size = w.heap.size + 1 → K p n c w') :
    ∃ p l' c' w', Ef Tryz.prog (Instr.makeSlice T_S_uint8 (.int k (n : Int)) (.int k' (c : Int))) w (.slice p l' c') w' ∧ K p l' c' w' := by
  obtain ⟨w', he, hf, hB, hs⟩ := Ef.make (P := Tryz.prog) (t := T_S_uint8) (by kernel_rfl) (z := .int .u8 0) (by kernel_rfl) (by kernel_rfl) (w := w) (k := k) (k' := k') hn hc
  refine ⟨_, _, _, _, he, h _ w' hf ⟨⟨by simp, .inr ⟨_, 0, c, _, rfl, hB, by omega, hn, fun i v hi => ?_⟩⟩, by simp, by simp [blks]⟩ hs⟩
  simp only [List.map_replicate, List.getElem?_replicate] at hi
  split at hi
  · exact Option.some.inj hi
  · cases hi
theorem OB.sto {w : World} {p : Option Addr} {l c : Nat} {xs : List UInt8} {lo : Nat} (h : OB w p l c xs lo) {k : IntKind} {i : Nat} {x : UInt8} (hi : i < l) {K : World → Prop} (hk : ∀ w', Fr (blks p) w w' → OB w' p l c (xs.set i x) lo → w'.heap.size = w.heap.size → K w') :
    ∃ a, IxA Tryz.prog T_S_uint8 (.slice p l c) (.int k (i : Int)) a ∧ ∃ w', Sto Tryz.prog T_uint8 (.pointer (some a)) (.int .u8 (x.toNat : Int)) w w' ∧ K w' := by
  obtain ⟨hO, hl, hp⟩ := h
  refine OwnS.sto (P := Tryz.prog) (by kernel_rfl) (by kernel_rfl) hO (k := k) (i := (i : Int)) (by omega) (by omega) rfl rfl fun w' f hO' s => hk w' f ⟨?_, by simpa using hl, hp⟩ s
  rw [Int.toNat_natCast] at hO'
  rw [List.map_set]
  exact hO'
theorem OB.get {w : World} {p : Option Addr} {l c : Nat} {xs : List UInt8} {lo : Nat} (h : OB w p l c xs lo) {k : IntKind} {i : Nat} (hi : i < l) : ∃ a, IxA Tryz.prog T_S_uint8 (.slice p l c) (.int k (i : Int)) a ∧ w.cell? a = some (vb (fl xs i)) := row_get (by kernel_rfl) h.row h.2.1 hi
end Go.Sh
end

section
namespace Go.Sh
open Go Go.Fw Go.Proofs
set_option maxRecDepth 100000
set_option linter.unusedVariables false
theorem all256 {p : UInt8 → Bool} (h : (List.range 256).all (fun n => p (UInt8.ofNat n)) = true) (x : UInt8) : p x = true := by
  have := List.all_eq_true.1 h x.toNat (List.mem_range.2 x.toNat_lt)
  rwa [UInt8.ofNat_toNat] at this
section
variable {w : World} {K : Value → World → Prop}
end
end Go.Sh
end

section
namespace Go.Sh
open Go Go.Fw Go.Proofs
set_option maxRecDepth 100000
set_option linter.unusedVariables false
def upF : Nat → List UInt8 → List UInt8
  | 0, xs => xs
  | k + 1, xs => if fl xs k + 1 ≠ 0 then xs.set k (fl xs k + 1) else upF k (xs.set k (fl xs k + 1))
def upL (xs : List UInt8) : List UInt8 := upF xs.length xs
def upN : Nat → List UInt8 → List UInt8
  | 0, xs => xs
  | k + 1, xs => upL (upN k xs)
theorem upF_len : ∀ (k : Nat) (xs : List UInt8), (upF k xs).length = xs.length
  | 0, xs => rfl
  | k + 1, xs => by unfold upF; split <;> simp [upF_len k]
theorem upL_len (xs : List UInt8) : (upL xs).length = xs.length := upF_len _ _
theorem upN_len : ∀ (k : Nat) (xs : List UInt8), (upN k xs).length = xs.length
  | 0, xs => rfl
  | k + 1, xs => by unfold upN; rw [upL_len, upN_len k]
theorem fl_set_ne {xs : List UInt8} {k j : Nat} {x : UInt8} (h : k ≠ j) : fl (xs.set k x) j = fl xs j := by
  show (xs.set k x).getD j 0 = xs.getD j 0
  rw [List.getD_eq_getElem?_getD, List.getD_eq_getElem?_getD, List.getElem?_set, if_neg h]
theorem fl_set_eq {xs : List UInt8} {k : Nat} {x : UInt8} (h : k < xs.length) : fl (xs.set k x) k = x := by
  show (xs.set k x).getD k 0 = x
  rw [List.getD_eq_getElem?_getD, List.getElem?_set, if_pos rfl, if_pos h]; rfl
theorem upF_get : ∀ (k : Nat) (xs : List UInt8) (j : Nat), k ≤ j → fl (upF k xs) j = fl xs j
  | 0, xs, j, _ => rfl
  | k + 1, xs, j, h => by
    unfold upF
    split
    · exact fl_set_ne (by omega)
    · rw [upF_get k _ j (by omega), fl_set_ne (by omega)]
theorem upL_last {xs : List UInt8} (h : 0 < xs.length) : fl (upL xs) (xs.length - 1) = fl xs (xs.length - 1) + 1 := by
  obtain ⟨k, hk⟩ : ∃ k, xs.length = k + 1 := ⟨xs.length - 1, by omega⟩
  unfold upL
  rw [hk]
  unfold upF
  show fl _ k = fl xs k + 1
  split
  · exact fl_set_eq (by omega)
  · rw [upF_get k _ k (Nat.le_refl _), fl_set_eq (by omega)]
theorem upN_last {xs : List UInt8} (h : 0 < xs.length) : ∀ j, fl (upN j xs) (xs.length - 1) = fl xs (xs.length - 1) + UInt8.ofNat j
  | 0 => by show fl xs _ = _ + 0; rw [UInt8.add_zero]
  | j + 1 => by
    have hl := upN_len j xs
    unfold upN
    have := upL_last (xs := upN j xs) (by omega)
    rw [hl] at this
    rw [this, upN_last h j, UInt8.add_assoc]
    congr 1
    apply UInt8.toNat_inj.1
    simp [UInt8.toNat_ofNat']
theorem upN_inj {xs : List UInt8} (h : 0 < xs.length) {i j : Nat} (hi : i < 256) (hj : j < 256) (he : upN i xs = upN j xs) : i = j := by
  have h1 := upN_last h i
  have h2 := upN_last h j
  rw [he, h2] at h1
  have h3 := congrArg (fun x => (0 - fl xs (xs.length - 1)) + x) h1
  simp only [← UInt8.add_assoc, UInt8.sub_add_cancel, UInt8.zero_add] at h3
  have h4 := congrArg UInt8.toNat h3
  rw [UInt8.toNat_ofNat', UInt8.toNat_ofNat'] at h4
  omega
theorem nodup_le {α : Type} [DecidableEq α] : ∀ {l m : List α}, l.Nodup → (∀ x ∈ l, x ∈ m) → l.length ≤ m.length
  | [], m, _, _ => by simp
  | x :: l, m, hn, hs => by
    have hx := hs x (List.mem_cons_self ..)
    obtain ⟨h1, h2⟩ := List.nodup_cons.1 hn
    have := nodup_le (l := l) (m := m.erase x) h2 fun y hy => by
      refine (List.mem_erase_of_ne ?_).2 (hs y (List.mem_cons_of_mem _ hy))
      rintro rfl; exact h1 hy
    rw [List.length_erase_of_mem hx] at this
    have := List.length_pos_of_mem hx
    rw [List.length_cons]; omega
theorem upN_few {xs : List UInt8} {ks : List (List UInt8)} (h : 0 < xs.length) {j : Nat} (hj : j ≤ 256) (hm : ∀ i, i < j → upN i xs ∈ ks) : j ≤ ks.length := by
  have hn : ((List.range j).map fun i => upN i xs).Nodup := by
    rw [List.nodup_iff_pairwise_ne, List.pairwise_map]
    have := List.nodup_iff_pairwise_ne.1 (List.nodup_range (n := j))
    refine this.imp_of_mem fun {a b} ha hb hne he => hne ?_
    exact upN_inj h (by have := List.mem_range.1 ha; omega) (by have := List.mem_range.1 hb; omega) he
  have := nodup_le hn (m := ks) fun x hx => by
    obtain ⟨i, hi, rfl⟩ := List.mem_map.1 hx
    exact hm i (List.mem_range.1 hi)
  simpa using this
def freeN : Nat → List (List UInt8) → List UInt8 → List UInt8
  | 0, _, xs => xs
  | k + 1, ks, xs => if xs ∈ ks then freeN k ks (upL xs) else xs
def nextN (ks : List (List UInt8)) (xs : List UInt8) : List UInt8 := freeN ks.length ks xs
theorem freeN_not {k : Nat} {ks : List (List UInt8)} {xs : List UInt8} (h : xs ∉ ks) : freeN k ks xs = xs := by
  cases k with
  | zero => rfl
  | succ k => unfold freeN; rw [if_neg h]
theorem incB (x : UInt8) : IntKind.u8.wrap ((x.toNat : Int) + 1) = ((x + 1).toNat : Int) := by
  have := all256 (p := fun x => decide (IntKind.u8.wrap ((x.toNat : Int) + 1) = ((x + 1).toNat : Int))) (by kernel_rfl) x
  exact of_decide_eq_true this
section
variable {w : World} {K : Value → World → Prop}
set_option maxHeartbeats 2000000 in
theorem up_c {q : Option Addr} {l d lo : Nat} {xs : List UInt8} (hO : OB w q l d xs lo) (hl : l ≤ 1000000) (h : ∀ w', Fr (blks q) w w' → OB w' q l d (upL xs) lo → K (.tuple #[]) w') :
    callF Tryz.prog F_issue_up #[.slice q l d] w K := by
  apply issue_up_call
  unfold issue_up
  refine New.intro fun w1 f1 hB1 s1 => ?_
  obtain ⟨k1, hk1⟩ : ∃ k, k = w.heap.size := ⟨_, rfl⟩
  rw [← hk1] at hB1 ⊢
  have hB1 : Blk w1 k1 1 (fun i => (#[.slice q l d] : Array Value).getD i undef) := hB1
  refine ⟨_, _, _, Ld.blk (by kernel_rfl) hB1 (by omega) rfl, ?_⟩
  apply slices_Backward_byte_byte_call
  unfold slices_Backward_byte_byte
  refine New.intro fun w2 f2 hB2 s2 => ⟨_, rfl, ?_⟩
  obtain ⟨k2, hk2⟩ : ∃ k, k = w1.heap.size := ⟨_, rfl⟩
  rw [← hk2] at hB2 ⊢
  have hB2 : Blk w2 k2 1 (fun i => (#[.slice q l d] : Array Value).getD i undef) := hB2
  have hlen := hO.2.1
  refine RangeF.of (fun _ _ => by kernel_rfl) fun fn w3 f3 s3 hD3 hL3 => ?_
  obtain ⟨kd, hkd⟩ : ∃ k, k = w2.heap.size := ⟨_, rfl⟩
  rw [← hkd] at hD3 hL3 ⊢
  have n1 := f1.size; have n2 := f2.size; have n3 := f3.size
  have hqlt := hO.lt
  have f03 := (f1.then f2).then f3
  have hO3 := hO.fr0 f03
  have hB13 := (hB1.fr0 f2).fr0 f3
  have hB23 := hB2.fr0 f3
  apply slices_Backward_byte_byte_c1_call
  unfold slices_Backward_byte_byte_c1
  refine ⟨_, _, _, Ld.blk (by kernel_rfl) hB23 (by omega) rfl, ?_⟩
  have fin : ∀ (wa : World) (r : Loop), LpAt wa (kd + 1) r → r.state ≠ .busy → (r.pending = none ∨ r.pending = some .ret) → Fr ((kd + 1) :: blks q) w3 wa → OB wa q l d (upL xs) lo →
      ∃ r, LpAt wa (kd + 1) r ∧ r.state ≠ .busy ∧ ∀ w4, Fr [kd + 1] wa w4 → w4.heap.size = wa.heap.size → (match r.pending with | none => ∃ w5, Tk Tryz.prog kd w4 w5 ∧ K (.tuple #[]) w5 | some .ret => ∃ w6, Tk Tryz.prog kd w4 w6 ∧ K (.tuple #[]) w6 | _ => False) := by
    intro wa r hLa hba hp fa hOa
    refine ⟨r, hLa, hba, fun w4 f4 s4 => ?_⟩
    have nd : kd ∉ (kd + 1) :: blks q := by
      intro hm
      rcases List.mem_cons.1 hm with hh | hh
      · omega
      · have := hqlt kd hh; omega
    have hD4 := (hD3.fr fa nd).fr f4 (by simp)
    have hO4 := hOa.fr f4 fun z hz hm => by have := hqlt z hz; simp at hm; omega
    have goal : ∃ w5, Tk Tryz.prog kd w4 w5 ∧ K (.tuple #[]) w5 := by
      obtain ⟨w5, ht, f5, s5⟩ := Tk.of (P := Tryz.prog) hD4
      refine ⟨w5, ht, h w5 ?_ (hO4.fr f5 fun z hz hm => by have := hqlt z hz; simp at hm; omega)⟩
      have g1 : Fr (blks q) w wa := (f03.mono (l' := blks q) (by simp)).trans fa fun z hz => by
        rcases List.mem_cons.1 hz with hh | hh
        · right; omega
        · exact .inl hh
      have g2 : Fr (blks q) w w4 := g1.trans f4 fun z hz => .inr (by simp at hz; omega)
      exact g2.trans f5 fun z hz => .inr (by simp at hz; omega)
    rcases hp with hp | hp
    · rw [hp]; exact goal
    · rw [hp]; exact goal
  refine LoopS.ind (fun k us w' => ∃ ys, k ≤ l ∧ us = [.func (.yield (kd + 1)) #[] #[], .pointer (some ⟨k2, 0, none⟩), .int .i64 ((k : Int) - 1)] ∧ OB w' q l d ys lo ∧ upF k ys = upL xs ∧ LpAt w' (kd + 1) _ ∧ Fr ((kd + 1) :: blks q) w3 w') l
    ⟨xs, Nat.le_refl _, by rw [wrap64 (by omega) (by omega)], hO3, by unfold upL; rw [hlen], hL3, Fr.refl _ _⟩ ?_
  rintro k us rr wa I μ hgo ⟨ys, hkl, rfl, hOa, hup, hLa, fa⟩
  have nb : ∀ z, z < kd → z ∉ blks q → z ∉ (kd + 1) :: blks q := fun z h1 h2 hm => by
    rcases List.mem_cons.1 hm with hh | hh
    · omega
    · exact h2 hh
  have hk1q : k1 ∉ blks q := fun hm => by have := hqlt k1 hm; omega
  have hk2q : k2 ∉ blks q := fun hm => by have := hqlt k2 hm; omega
  have hB1a := hB13.fr fa (nb k1 (by omega) hk1q)
  have hB2a := hB23.fr fa (nb k2 (by omega) hk2q)
  refine ⟨_, _, _, rfl, cond_d (fun hge => ?_) fun hlt => ?_⟩
  · obtain ⟨j, hj⟩ : ∃ j, k = j + 1 := ⟨k - 1, by omega⟩
    subst hj
    have ej : (((j + 1 : Nat) : Int) - 1) = ((j : Nat) : Int) := by omega
    rw [ej] at hgo ⊢
    obtain ⟨a, ha, hca⟩ := hOa.get (k := .i64) (i := j) (by omega)
    refine ⟨_, _, _, Ld.blk (by kernel_rfl) hB2a (by omega) rfl, _, ha, _, Ld.cell (by kernel_rfl) hca, ?_⟩
    refine issue_up_y0_call _ _ _ hLa ?_
    unfold issue_up_y0
    refine BegR.of hLa rfl fun wb fb hLb sb => ?_
    have hB1b := hB1a.fr fb (by simp; omega)
    have hOb := hOa.fr fb fun z hz hm => by have := hqlt z hz; simp at hm; omega
    refine ⟨_, _, _, Ld.blk (by kernel_rfl) hB1b (by omega) rfl, ?_⟩
    rw [incB (fl ys j)]
    refine hOb.sto (i := j) (by omega) fun wc fc hOc sc => ?_
    have hB1c := hB1b.fr fc hk1q
    have hLc := hLb.fr fc fun hm => by have := hqlt _ hm; omega
    obtain ⟨a3, ha3, hca3⟩ := hOc.get (k := .i64) (i := j) (by omega)
    have hyl : ys.length = l := by have := hOa.2.1; omega
    have e3 : fl (ys.set j (fl ys j + 1)) j = fl ys j + 1 := fl_set_eq (by omega)
    rw [e3] at hca3
    refine ⟨_, _, _, Ld.blk (by kernel_rfl) hB1c (by omega) rfl, _, ha3, _, Ld.cell (by kernel_rfl) hca3, ?_⟩
    have fac : Fr ((kd + 1) :: blks q) w3 wc := (fa.trans fb fun z hz => .inl (by simp at hz; rw [hz]; exact List.mem_cons_self ..)).trans fc fun z hz => .inl (List.mem_cons_of_mem _ hz)
    have n1e : ∀ {x : UInt8}, (((x.toNat : Nat) : Int) = 0) ↔ x = 0 := fun {x} => ⟨fun hh => UInt8.toNat_inj.1 (by rw [UInt8.toNat_zero]; omega), fun hh => by rw [hh]; rfl⟩
    refine cond_ne (fun hne => ?_) fun he => ?_
    · have hy : fl ys j + 1 ≠ 0 := fun hh => hne (n1e.2 hh)
      refine EndR.of hLc (some .ret) rfl fun wd fd hLd sd => ⟨_, rfl, cond_t ?_⟩
      refine fin wd _ hLd (by show (Loop.state _) ≠ _; simp) (.inr rfl) (fac.trans fd fun z hz => .inl (by simp at hz; rw [hz]; exact List.mem_cons_self ..)) ?_
      have := hOc.fr fd fun z hz hm => by have := hqlt z hz; simp at hm; omega
      unfold upF at hup
      rw [if_pos hy] at hup
      rw [← hup]; exact this
    · have hy : fl ys j + 1 = 0 := n1e.1 he
      refine EndR.of hLc none rfl fun wd fd hLd sd => ⟨_, rfl, cond_f ?_⟩
      rw [wrap64 (by omega) (by omega)]
      have hOd := hOc.fr fd fun z hz hm => by have := hqlt z hz; simp at hm; omega
      unfold upF at hup
      rw [if_neg (fun hh => hh hy)] at hup
      exact hgo _ _ _ j (by omega) ⟨_, by omega, rfl, hOd, hup, hLd, fac.trans fd fun z hz => .inl (by simp at hz; rw [hz]; exact List.mem_cons_self ..)⟩
  · have hk0 : k = 0 := by omega
    subst hk0
    exact fin wa _ hLa (by show (Loop.state _) ≠ _; simp [rec0]) (.inl rfl) fa (by rw [← hup]; exact hOa)
end
end Go.Sh
end

section
namespace Go.Sh
open Go Go.Fw Go.Proofs
set_option maxRecDepth 100000
set_option linter.unusedVariables false
theorem bl_map (n : Nat) (x : Nat → UInt8) (g : UInt8 → UInt8) : (bl n x).map g = bl n (fun j => g (x j)) := by simp [bl]
theorem bl_rows (m : Nat) (x : Nat → UInt8) : bl 16 (arows m (fl (bl 16 x))) = bl 16 (arows m x) := bl_congr (arows_congr (fl_bl 16 x))
theorem bl_cols (g : Nat → UInt8 → UInt8) (x : Nat → UInt8) : bl 16 (acols g (fl (bl 16 x))) = bl 16 (acols g x) := bl_congr (acols_congr (fl_bl 16 x))
theorem bl_xor (n : Nat) (x y : Nat → UInt8) : bl n (xorF (fl (bl n x)) (fl (bl n y))) = bl n (xorF x y) := bl_congr fun j hj => by unfold xorF; rw [fl_bl n x j hj, fl_bl n y j hj]
theorem acols_ref (f x : Nat → UInt8) {k : Nat} (hk : k < 16) :
    0 ^^^ gmul (f ((0 + 4 - k % 4) % 4)) (x (4 * (k / 4) + 0)) ^^^ gmul (f ((1 + 4 - k % 4) % 4)) (x (4 * (k / 4) + 1)) ^^^ gmul (f ((2 + 4 - k % 4) % 4)) (x (4 * (k / 4) + 2)) ^^^ gmul (f ((3 + 4 - k % 4) % 4)) (x (4 * (k / 4) + 3)) = acols (gF f) x k := by
  rw [csum4, zero_xor8]
  unfold gF
  have hr : k % 4 < 4 := Nat.mod_lt _ (by omega)
  generalize k / 4 = c
  generalize hk4 : k % 4 = r at hr
  rcases (by omega : r = 0 ∨ r = 1 ∨ r = 2 ∨ r = 3) with rfl | rfl | rfl | rfl
  · show gmul (f 0) (x (4 * c + 0)) ^^^ gmul (f 1) (x (4 * c + 1)) ^^^ gmul (f 2) (x (4 * c + 2)) ^^^ gmul (f 3) (x (4 * c + 3)) = gmul (x (4 * c + 0)) (f 0) ^^^ gmul (x (4 * c + 1)) (f 1) ^^^ gmul (x (4 * c + 2)) (f 2) ^^^ gmul (x (4 * c + 3)) (f 3)
    simp only [gmul_comm (f _)]
  · show gmul (f 3) (x (4 * c + 0)) ^^^ gmul (f 0) (x (4 * c + 1)) ^^^ gmul (f 1) (x (4 * c + 2)) ^^^ gmul (f 2) (x (4 * c + 3)) = gmul (x (4 * c + 1)) (f 0) ^^^ gmul (x (4 * c + 2)) (f 1) ^^^ gmul (x (4 * c + 3)) (f 2) ^^^ gmul (x (4 * c + 0)) (f 3)
    simp only [gmul_comm (f _)]
    ac_rfl
  · show gmul (f 2) (x (4 * c + 0)) ^^^ gmul (f 3) (x (4 * c + 1)) ^^^ gmul (f 0) (x (4 * c + 2)) ^^^ gmul (f 1) (x (4 * c + 3)) = gmul (x (4 * c + 2)) (f 0) ^^^ gmul (x (4 * c + 3)) (f 1) ^^^ gmul (x (4 * c + 0)) (f 2) ^^^ gmul (x (4 * c + 1)) (f 3)
    simp only [gmul_comm (f _)]
    ac_rfl
  · show gmul (f 1) (x (4 * c + 0)) ^^^ gmul (f 2) (x (4 * c + 1)) ^^^ gmul (f 3) (x (4 * c + 2)) ^^^ gmul (f 0) (x (4 * c + 3)) = gmul (x (4 * c + 3)) (f 0) ^^^ gmul (x (4 * c + 0)) (f 1) ^^^ gmul (x (4 * c + 1)) (f 2) ^^^ gmul (x (4 * c + 2)) (f 3)
    simp only [gmul_comm (f _)]
    ac_rfl
def tblF : Nat → UInt8 := fun n => gsign (UInt8.ofNat n)
def utblF : Nat → UInt8 := fun n => gunsign (UInt8.ofNat n)
def tblL : List UInt8 := bl 256 tblF
def utblL : List UInt8 := bl 256 utblF
theorem tblL_at (a : UInt8) : tblL.getD a.toNat 0 = gsign a := by
  unfold tblL
  rw [bl_getD a.toNat_lt]
  unfold tblF
  rw [UInt8.ofNat_toNat]
theorem utblL_at (a : UInt8) : utblL.getD a.toNat 0 = gunsign a := by
  unfold utblL
  rw [bl_getD a.toNat_lt]
  unfold utblF
  rw [UInt8.ofNat_toNat]
def glogs : List Nat := [0, 0, 25, 1, 50, 2, 26, 198, 75, 199, 27, 104, 51, 238, 223, 3, 100, 4, 224, 14, 52, 141, 129, 239, 76, 113, 8, 200, 248, 105, 28, 193, 125, 194, 29, 181, 249, 185, 39, 106, 77, 228, 166, 114, 154, 201, 9, 120, 101, 47, 138, 5, 33, 15, 225, 36, 18, 240, 130, 69, 53, 147, 218, 142, 150, 143, 219, 189, 54, 208, 206, 148, 19, 92, 210, 241, 64, 70, 131, 56, 102, 221, 253, 48, 191, 6, 139, 98, 179, 37, 226, 152, 34, 136, 145, 16, 126, 110, 72, 195, 163, 182, 30, 66, 58, 107, 40, 84, 250, 133, 61, 186, 43, 121, 10, 21, 155, 159, 94, 202, 78, 212, 172, 229, 243, 115, 167, 87, 175, 88, 168, 80, 244, 234, 214, 116, 79, 174, 233, 213, 231, 230, 173, 232, 44, 215, 117, 122, 235, 22, 11, 245, 89, 203, 95, 176, 156, 169, 81, 160, 127, 12, 246, 111, 23, 196, 73, 236, 216, 67, 31, 45, 164, 118, 123, 183, 204, 187, 62, 90, 251, 96, 177, 134, 59, 82, 161, 108, 170, 85, 41, 157, 151, 178, 135, 144, 97, 190, 220, 252, 188, 149, 207, 205, 55, 63, 91, 209, 83, 57, 132, 60, 65, 162, 109, 71, 20, 42, 158, 93, 86, 242, 211, 171, 68, 17, 146, 217, 35, 32, 46, 137, 180, 124, 184, 38, 119, 153, 227, 165, 103, 74, 237, 222, 197, 49, 254, 24, 13, 99, 140, 128, 192, 247, 112, 7]
theorem glog_ok (a : UInt8) (h : a ≠ 0) : ∃ i, i < 255 ∧ npow 3 i = a := by
  have h1 := all8 (p := fun a => a == 0 || (decide (glogs.getD a.toNat 0 < 255) && gpow 3 (UInt64.ofNat (glogs.getD a.toNat 0)) == a)) (by kernel_rfl) a
  simp only [beq_iff_eq, Bool.or_eq_true, Bool.and_eq_true, decide_eq_true_eq, h, false_or] at h1
  obtain ⟨h2, h3⟩ := h1
  refine ⟨glogs.getD a.toNat 0, h2, ?_⟩
  rw [gpow_eq] at h3
  have e : ∀ x : Nat, x < 255 → (UInt64.ofNat x).toNat = x := by intro x hx; simp; omega
  rwa [e _ h2] at h3
theorem npow3_ne (i : Nat) : npow 3 i ≠ 0 := by
  induction i with
  | zero => decide
  | succ i ih => intro h; rcases (gmul_eq_zero _ _).1 h with h | h; exact ih h; cases h
theorem ginv_pow (i : Nat) (h : i < 255) : ginv (npow 3 i) = npow 3 ((255 - i) % 255) := by
  refine (ginv_uniq _ _ ?_).symm
  rw [npow_mod 3 (by decide), ← npow_add, show i + (255 - i) = 255 by omega]
  exact npow_255 3 (by decide)
end Go.Sh
end

section
namespace Go.Sh
open Go Go.Fw Go.Proofs
set_option maxRecDepth 100000
set_option linter.unusedVariables false
def fb {α : Type} (b : UInt8) (k : UInt8 → α) : α := match b.toNat with | 0 => k 0 | n + 1 => k (UInt8.ofNat (n + 1))
def sbL : List UInt8 := [99, 124, 119, 123, 242, 107, 111, 197, 48, 1, 103, 43, 254, 215, 171, 118, 202, 130, 201, 125, 250, 89, 71, 240, 173, 212, 162, 175, 156, 164, 114, 192, 183, 253, 147, 38, 54, 63, 247, 204, 52, 165, 229, 241, 113, 216, 49, 21, 4, 199, 35, 195, 24, 150, 5, 154, 7, 18, 128, 226, 235, 39, 178, 117, 9, 131, 44, 26, 27, 110, 90, 160, 82, 59, 214, 179, 41, 227, 47, 132, 83, 209, 0, 237, 32, 252, 177, 91, 106, 203, 190, 57, 74, 76, 88, 207, 208, 239, 170, 251, 67, 77, 51, 133, 69, 249, 2, 127, 80, 60, 159, 168, 81, 163, 64, 143, 146, 157, 56, 245, 188, 182, 218, 33, 16, 255, 243, 210, 205, 12, 19, 236, 95, 151, 68, 23, 196, 167, 126, 61, 100, 93, 25, 115, 96, 129, 79, 220, 34, 42, 144, 136, 70, 238, 184, 20, 222, 94, 11, 219, 224, 50, 58, 10, 73, 6, 36, 92, 194, 211, 172, 98, 145, 149, 228, 121, 231, 200, 55, 109, 141, 213, 78, 169, 108, 86, 244, 234, 101, 122, 174, 8, 186, 120, 37, 46, 28, 166, 180, 198, 232, 221, 116, 31, 75, 189, 139, 138, 112, 62, 181, 102, 72, 3, 246, 14, 97, 53, 87, 185, 134, 193, 29, 158, 225, 248, 152, 17, 105, 217, 142, 148, 155, 30, 135, 233, 206, 85, 40, 223, 140, 161, 137, 13, 191, 230, 66, 104, 65, 153, 45, 15, 176, 84, 187, 22]
def sb (a : UInt8) : UInt8 := sbL.getD a.toNat 0
def mixR (r : Nat) (y : Nat → UInt8) : Nat → UInt8 := if r + 1 < 10 then acols (gF fE) (arows 1 (fun j => gsign (y j))) else arows 1 (fun j => gsign (y j))
theorem encR_succ (ks x : Nat → UInt8) (r : Nat) : encR ks x (r + 1) = xorF (mixR r (encR ks x r)) (kAt ks (r + 1)) := rfl
theorem xorF_congr2 {x y k l : Nat → UInt8} (h : Eqn 16 x y) (g : Eqn 16 k l) : Eqn 16 (xorF x k) (xorF y l) := fun j hj => by unfold xorF; rw [h j hj, g j hj]
end Go.Sh
end

section
namespace Go.Sh
open Go Go.Fw Go.Proofs
set_option maxRecDepth 100000
set_option linter.unusedVariables false
def numL (xs : List UInt8) : Nat := xs.foldl (fun n x => n * 256 + x.toNat) 0
def putL (n size : Nat) : List UInt8 := (List.range size).map fun i => UInt8.ofNat (n / 256 ^ (size - 1 - i))
def afterL (b : List UInt8) (n : Nat) : List UInt8 := b.take 12 ++ putL ((numL (b.drop 12) + n) % 4294967296) 4
def strB (key b : List UInt8) : Nat → List UInt8
  | 0 => []
  | k + 1 => strB key b k ++ aencL key (afterL b k)
def xorL (xs ys : List UInt8) : List UInt8 := List.zipWith (· ^^^ ·) xs ys
theorem xorL_len {xs ys : List UInt8} (h : xs.length = ys.length) : (xorL xs ys).length = ys.length := by simp [xorL, h]
theorem xorL_getD {xs ys : List UInt8} (h : xs.length = ys.length) {i : Nat} (hi : i < ys.length) : (xorL xs ys).getD i 0 = xs.getD i 0 ^^^ ys.getD i 0 := by
  unfold xorL
  simp only [List.getD_eq_getElem?_getD, List.getElem?_zipWith]
  rw [List.getElem?_eq_getElem hi, List.getElem?_eq_getElem (by omega)]
  rfl
end Go.Sh
end

section
namespace Go.Sh
open Go Go.Fw Go.Proofs
set_option maxRecDepth 100000
set_option linter.unusedVariables false
theorem byS {w : World} {q : Option Addr} {n c : Nat} {r : List UInt8} (hR : Row w q (r.map vb)) (hn : n = r.length) (hc : n ≤ c) : ByS w (.slice q n c) r := by subst hn; exact ⟨q, c, rfl, hc, hR⟩
theorem OB.byS {w : World} {p : Option Addr} {l c : Nat} {xs : List UInt8} {lo : Nat} (h : OB w p l c xs lo) : ByS w (.slice p l c) xs := Go.Sh.byS h.row h.2.1 h.cap
theorem RowB.of1 {w : World} {p : Option Addr} {v1 : Value} {r1 : List UInt8} (h : Row w p [v1]) (h1 : ByS w v1 r1) : RowB w p [r1] := ⟨[v1], h, rfl, fun j r hj => by
  match j, hj with
  | 0, hj => obtain rfl : r1 = r := by simpa using hj
             exact ⟨v1, rfl, h1⟩⟩
theorem RowB.of2 {w : World} {p : Option Addr} {v1 v2 : Value} {r1 r2 : List UInt8} (h : Row w p [v1, v2]) (h1 : ByS w v1 r1) (h2 : ByS w v2 r2) : RowB w p [r1, r2] := ⟨[v1, v2], h, rfl, fun j r hj => by
  match j, hj with
  | 0, hj => obtain rfl : r1 = r := by simpa using hj
             exact ⟨v1, rfl, h1⟩
  | 1, hj => obtain rfl : r2 = r := by simpa using hj
             exact ⟨v2, rfl, h2⟩⟩
theorem RowB.of3 {w : World} {p : Option Addr} {v1 v2 v3 : Value} {r1 r2 r3 : List UInt8} (h : Row w p [v1, v2, v3]) (h1 : ByS w v1 r1) (h2 : ByS w v2 r2) (h3 : ByS w v3 r3) : RowB w p [r1, r2, r3] := ⟨[v1, v2, v3], h, rfl, fun j r hj => by
  match j, hj with
  | 0, hj => obtain rfl : r1 = r := by simpa using hj
             exact ⟨v1, rfl, h1⟩
  | 1, hj => obtain rfl : r2 = r := by simpa using hj
             exact ⟨v2, rfl, h2⟩
  | 2, hj => obtain rfl : r3 = r := by simpa using hj
             exact ⟨v3, rfl, h3⟩⟩
theorem Grow_c {w : World} {n : Nat} (hn : n ≤ 1073741824) {K : Value → World → Prop} (h : ∀ q c w', Fr [] w w' → OB w' q 0 c [] w.heap.size → K (.slice q 0 c) w') : callF Tryz.prog F_slices_Grow_byte_byte #[.slice none 0 0, .int .i64 (n : Int)] w K := by
  apply slices_Grow_byte_byte_call
  unfold slices_Grow_byte_byte
  refine cond_d (fun h1 => by omega) fun _ => ?_
  unfold slices_Grow_byte_byte_j1
  refine ⟨0, by unfold Pu; kernel_rfl, ?_⟩
  have e0 : IntKind.i64.wrap ((0 : Int) - ((0 : Nat) : Int)) = 0 := rfl
  rw [e0, Int.sub_zero, wrap64 (by omega) (by omega)]
  refine cond_d (fun h1 => ?_) (fun h1 => h none 0 w (Fr.refl _ _) (OB.nil _ _))
  refine ⟨0, by unfold Pu; kernel_rfl, none, 0, 0, by unfold Pu; kernel_rfl, ?_⟩
  obtain ⟨c', w', he, hge, hf, ⟨f, hB⟩, hs⟩ := Ef.appendZ (P := Tryz.prog) (t := T_S_uint8) (ti := T_int) (ty := T_S_uint8) (by kernel_rfl) (by kernel_rfl) (w := w) (n := n) (by omega) hn
  refine ⟨_, _, _, _, he, ?_⟩
  refine ⟨_, _, _, PuSl (s := 1) (kl := .i64) (kh := .i64) (lo := none) (hi := some 0) (by kernel_rfl) (by simp) (by simp) (by simp), ?_⟩
  have hc0 : c' ≠ 0 := by omega
  simp only [Option.getD]
  rw [partAt_some (by simpa using hc0)]
  exact h _ c' w' hf ⟨⟨rfl, .inr ⟨_, 0, c', f, rfl, hB, by omega, by omega, by simp⟩⟩, rfl, by simp [blks]⟩
theorem flat_take (rs : List (List UInt8)) {i : Nat} (h : i < rs.length) : (rs.take (i + 1)).flatten = (rs.take i).flatten ++ rs.getD i [] := by
  rw [List.take_add_one, List.getElem?_eq_getElem h, List.flatten_append, List.getD_eq_getElem?_getD, List.getElem?_eq_getElem h]
  simp
theorem flat_le (rs : List (List UInt8)) (i : Nat) : (rs.take i).flatten.length ≤ rs.flatten.length := by
  have h : rs.flatten = (rs.take i).flatten ++ (rs.drop i).flatten := by rw [← List.flatten_append, List.take_append_drop]
  rw [h, List.length_append]; omega
theorem Concat_c {w : World} {p : Option Addr} {l c : Nat} {rs : List (List UInt8)} (hR : RowB w p rs) (hl : l = rs.length) (hb : rs.flatten.length ≤ 1000000000) (hl2 : l ≤ 1000000000) {K : Value → World → Prop}
    (h : ∀ q d w', Fr [] w w' → OB w' q rs.flatten.length d rs.flatten w.heap.size → K (.slice q rs.flatten.length d) w') : callF Tryz.prog F_slices_Concat_byte_byte #[.slice p l c] w K := by
  apply slices_Concat_byte_byte_call
  unfold slices_Concat_byte_byte
  refine LoopS.ind (fun k us w' => w' = w ∧ ∃ i : Nat, i + k = l ∧ us = [.slice p l c, .slice none 0 0, .int .i64 ((rs.take i).flatten.length : Int), .slice p l c, .int .i64 (l : Int), .int .i64 (i : Int)]) l ⟨rfl, 0, by omega, rfl⟩ ?_
  rintro k us r w1 I μ hgo ⟨rfl, i, hi, rfl⟩
  refine ⟨_, _, _, _, _, _, _, _, _, _, _, _, rfl, cond_d (fun h1 => ?_) (fun h1 => ?_)⟩
  · have hil : i < l := by omega
    obtain ⟨a, q, d, ha, hca, hq, _⟩ := rows_get (t := T_S_S_uint8) (by kernel_rfl) hR (c := c) hl hil (k := .i64)
    refine ⟨a, ha, _, _, _, Ld.cell (by kernel_rfl) hca, ?_⟩
    have e := congrArg List.length (flat_take rs (i := i) (by omega))
    rw [List.length_append] at e
    have := flat_le rs (i + 1)
    rw [wrap64 (n := ((rs.take i).flatten.length : Int) + _) (by omega) (by omega)]
    refine cond_d (fun h2 => by omega) fun _ => ?_
    rw [wrap64 (by omega) (by omega)]
    refine hgo _ _ _ (k - 1) (by omega) ⟨rfl, i + 1, by omega, ?_⟩
    rw [e]; rfl
  · have hil : i = l := by omega
    subst hil
    rw [List.take_of_length_le (by omega)]
    unfold slices_Concat_byte_byte_j1
    refine Grow_c (by omega) fun q d w2 f2 hO2 => ⟨_, _, _, rfl, ?_⟩
    refine LoopS.ind (fun k us w' => ∃ (j : Nat) (q : Option Addr) (d : Nat), j + k = i ∧ us = [.slice none 0 0, .slice q (rs.take j).flatten.length d, .slice p i c, .int .i64 (i : Int), .int .i64 (j : Int)] ∧ Fr [] w1 w' ∧ OB w' q (rs.take j).flatten.length d (rs.take j).flatten w1.heap.size) i
      ⟨0, q, d, by omega, rfl, f2, hO2⟩ ?_
    rintro k us r w3 I2 μ2 hgo2 ⟨j, q, d, hj, rfl, f3, hO3⟩
    refine ⟨_, _, _, _, _, _, _, _, _, _, _, rfl, cond_d (fun h2 => ?_) (fun h2 => ?_)⟩
    · have hjl : j < i := by omega
      obtain ⟨a, q1, d1, ha, hca, hq1, _⟩ := rows_get (t := T_S_S_uint8) (by kernel_rfl) (hR.fr0 f3) (c := c) hl hjl (k := .i64)
      refine ⟨a, ha, _, _, _, Ld.cell (by kernel_rfl) hca, ?_⟩
      have e := flat_take rs (i := j) (by omega)
      have e2 := congrArg List.length e
      rw [List.length_append] at e2
      have := flat_le rs (j + 1)
      refine pushN hO3 f3.size hq1 rfl (by omega) fun p' c' w4 f4 hO4 => ?_
      rw [wrap64 (by omega) (by omega)]
      refine hgo2 _ _ _ (k - 1) (by omega) ⟨j + 1, p', c', by omega, by rw [e2]; rfl, hO3.news f3 f4 (Nat.le_refl _), ?_⟩
      rw [← e2, ← e] at hO4
      exact hO4
    · have hjl : j = i := by omega
      subst hjl
      rw [List.take_of_length_le (by omega)] at hO3 ⊢
      exact h q d w3 f3 hO3
theorem Join_c {w : World} {p : Option Addr} {l c : Nat} {rs : List (List UInt8)} (hR : RowB w p rs) (hl : l = rs.length) (hb : rs.flatten.length ≤ 1000000000) (hl2 : l ≤ 1000000000) {K : Value → World → Prop}
    (h : ∀ q d w', Fr [] w w' → OB w' q rs.flatten.length d rs.flatten w.heap.size → K (.slice q rs.flatten.length d) w') : callF Tryz.prog F_octet_Join #[.slice p l c] w K := by
  apply octet_Join_call
  unfold octet_Join
  exact Concat_c hR hl hb hl2 fun q d w' f hO => ⟨_, _, _, rfl, h q d w' f hO⟩
end Go.Sh
end

section
namespace Go.Sh
open Go Go.Fw Go.Proofs
set_option maxRecDepth 100000
set_option linter.unusedVariables false
theorem at_c {r c : Nat} (hr : r < 4) (hc : c < 1000000) {w : World} {K : Value → World → Prop} (h : K (.int .i64 ((4 * (c % 4) + r : Nat) : Int)) w) : callF Tryz.prog F_ref03_at #[.int .i64 (r : Int), .int .i64 (c : Int)] w K := by
  apply ref03_at_call
  unfold ref03_at
  have e : Int.tmod (c : Int) 4 = ((c % 4 : Nat) : Int) := rfl
  rw [e, wrap64 (n := 4 * ((c % 4 : Nat) : Int)) (by omega) (by omega), wrap64 (by omega) (by omega)]
  have : 4 * ((c % 4 : Nat) : Int) + (r : Int) = ((4 * (c % 4) + r : Nat) : Int) := by omega
  rw [this]
  exact h
theorem take_snoc (xs : List UInt8) {i : Nat} (h : i < xs.length) : xs.take (i + 1) = xs.take i ++ [fl xs i] := by
  rw [List.take_add_one, List.getElem?_eq_getElem h]
  unfold fl
  rw [List.getD_eq_getElem?_getD, List.getElem?_eq_getElem h]
  rfl
theorem bl_snoc (n : Nat) (x : Nat → UInt8) : bl (n + 1) x = bl n x ++ [x n] := by simp [bl, List.range_succ]
theorem ref_subs_c {w : World} {p q : Option Addr} {l c m d : Nat} {xs ts : List UInt8} (hx : Row w p (xs.map vb)) (hl : l = xs.length) (ht : Row w q (ts.map vb)) (hm : m = ts.length) (hm2 : m = 256) (hlen : l ≤ 1000) {K : Value → World → Prop}
    (h : ∀ p' c' w', Fr [] w w' → OB w' p' l c' (xs.map fun a => fl ts a.toNat) w.heap.size → K (.slice p' l c') w') : callF Tryz.prog F_ref03_subs #[.slice p l c, .slice q m d] w K := by
  apply ref03_subs_call
  unfold ref03_subs
  refine mk0 fun p0 w1 f1 hO1 s1 => ?_
  refine LoopS.ind (fun k us w' => ∃ (i : Nat) (p1 : Option Addr) (c1 : Nat), i + k = l ∧ us = [.slice p l c, .slice q m d, .slice none 0 0, .slice p1 i c1, .int .i64 (i : Int)] ∧ Fr [] w w' ∧ OB w' p1 i c1 ((xs.take i).map fun a => fl ts a.toNat) w.heap.size) l
    ⟨0, p0, 0, by omega, rfl, f1, by simpa using hO1⟩ ?_
  rintro k us r w2 I μ hgo ⟨i, p1, c1, hi, rfl, f2, hO⟩
  refine ⟨_, _, _, _, _, _, _, _, _, _, _, _, _, rfl, cond_d (fun h1 => ?_) (fun h1 => ?_)⟩
  · have hil : i < l := by omega
    obtain ⟨a, ha, hca⟩ := row_get (t := T_S_uint8) (by kernel_rfl) (hx.fr0 f2) (c := c) hl hil (k := .i64)
    have hb := (xs.getD i 0).toNat_lt
    obtain ⟨b, hb', hcb⟩ := row_get (t := T_S_uint8) (by kernel_rfl) (ht.fr0 f2) (c := d) hm (i := (xs.getD i 0).toNat) (by omega) (k := .u8)
    refine ⟨a, ha, _, Ld.cell (by kernel_rfl) hca, b, hb', _, Ld.cell (by kernel_rfl) hcb, ?_⟩
    refine push1 hO f2.size (by omega) fun p' c' w3 f3 hO3 => ?_
    rw [wrap64 (by omega) (by omega)]
    refine hgo _ _ _ (k - 1) (by omega) ⟨i + 1, p', c', by omega, rfl, hO.news f2 f3 (Nat.le_refl _), ?_⟩
    rw [take_snoc xs (by omega), List.map_append]
    exact hO3
  · have hil : i = l := by omega
    subst hil
    rw [List.take_of_length_le (by omega)] at hO
    exact h p1 c1 w2 f2 hO
theorem ref_add_c {w : World} {p q : Option Addr} {l c m d : Nat} {xs ys : List UInt8} (hx : Row w p (xs.map vb)) (hl : l = xs.length) (hy : Row w q (ys.map vb)) (hm : m = ys.length) (hlm : l ≤ m) (hlen : l ≤ 1000) {K : Value → World → Prop}
    (h : ∀ p' c' w', Fr [] w w' → OB w' p' l c' (bl l (xorF (fl xs) (fl ys))) w.heap.size → K (.slice p' l c') w') : callF Tryz.prog F_ref03_add #[.slice p l c, .slice q m d] w K := by
  apply ref03_add_call
  unfold ref03_add
  refine mk0 fun p0 w1 f1 hO1 s1 => ?_
  refine LoopS.ind (fun k us w' => ∃ (i : Nat) (p1 : Option Addr) (c1 : Nat), i + k = l ∧ us = [.slice p l c, .slice q m d, .slice none 0 0, .slice p1 i c1, .int .i64 (i : Int)] ∧ Fr [] w w' ∧ OB w' p1 i c1 (bl i (xorF (fl xs) (fl ys))) w.heap.size) l
    ⟨0, p0, 0, by omega, rfl, f1, hO1⟩ ?_
  rintro k us r w2 I μ hgo ⟨i, p1, c1, hi, rfl, f2, hO⟩
  refine ⟨_, _, _, _, _, _, _, _, _, _, _, _, _, rfl, cond_d (fun h1 => ?_) (fun h1 => ?_)⟩
  · have hil : i < l := by omega
    obtain ⟨a, ha, hca⟩ := row_get (t := T_S_uint8) (by kernel_rfl) (hx.fr0 f2) (c := c) hl hil (k := .i64)
    obtain ⟨b, hb, hcb⟩ := row_get (t := T_S_uint8) (by kernel_rfl) (hy.fr0 f2) (c := d) hm (i := i) (by omega) (k := .i64)
    refine ⟨fun w' => w'.cell? a = some (vb (xs.getD i 0)), Drw.intro fun w3 f3 s3 => ?_⟩
    refine ⟨a, ha, b, hb, _, ⟨f3.cell hca (by simp), fun w' hw' => Ld.cell (by kernel_rfl) hw'⟩, _, Ld.cell (by kernel_rfl) (f3.cell hcb (by simp)), .inl rfl, ?_⟩
    rw [xor8]
    have f23 := f2.then f3
    refine push1 (hO.fr0 f3) f23.size (by omega) fun p' c' w4 f4 hO4 => ?_
    rw [wrap64 (by omega) (by omega)]
    refine hgo _ _ _ (k - 1) (by omega) ⟨i + 1, p', c', by omega, rfl, (hO.fr0 f3).news f23 f4 (Nat.le_refl _), ?_⟩
    rw [bl_snoc]
    exact hO4
  · have hil : i = l := by omega
    subst hil
    exact h p1 c1 w2 f2 hO
end Go.Sh
end

section
namespace Go.Sh
open Go Go.Fw Go.Proofs
set_option maxRecDepth 100000
set_option linter.unusedVariables false
theorem fl_set {zs : List UInt8} {i : Nat} {x : UInt8} (h : i < zs.length) (j : Nat) : fl (zs.set i x) j = if j = i then x else fl zs j := by
  unfold fl
  rw [List.getD_eq_getElem?_getD, List.getD_eq_getElem?_getD, List.getElem?_set]
  by_cases hj : j = i
  · subst hj; simp [h]
  · rw [if_neg (Ne.symm hj), if_neg hj]
theorem bl_of_fl {zs : List UInt8} {n : Nat} {x : Nat → UInt8} (hl : zs.length = n) (h : ∀ j, j < n → fl zs j = x j) : zs = bl n x := by
  rw [xs_bl hl]; exact bl_congr h
theorem ref_rows_c {w : World} {p : Option Addr} {l c : Nat} {xs : List UInt8} (hx : Row w p (xs.map vb)) (hl : l = xs.length) (h16 : xs.length = 16) {m : Nat} (hm : m ≤ 3) {K : Value → World → Prop}
    (h : ∀ p' w', Fr [] w w' → OB w' p' 16 16 (bl 16 (arows m (fl xs))) w.heap.size → K (.slice p' 16 16) w') : callF Tryz.prog F_ref03_rows #[.slice p l c, .int .i64 (m : Int)] w K := by
  apply ref03_rows_call
  unfold ref03_rows
  refine mkN (n := 16) (c := 16) (k := .i64) (k' := .i64) (Nat.le_refl _) (by omega) fun p0 w1 f1 hO1 s1 => ?_
  refine LoopS.ind (fun k us w' => ∃ (r : Nat) (zs : List UInt8), r + k = 4 ∧ us = [.slice p l c, .int .i64 (m : Int), .slice none 0 0, .slice p0 16 16, .int .i64 (r : Int)] ∧ Fr [] w w' ∧ OB w' p0 16 16 zs w.heap.size ∧ ∀ j, j < 16 → j % 4 < r → fl zs j = arows m (fl xs) j) 4
    ⟨0, _, by omega, rfl, f1, hO1, by omega⟩ ?_
  rintro k us rr w2 I μ hgo ⟨r, zs, hr, rfl, f2, hO2, hz⟩
  refine ⟨_, _, _, _, _, _, _, _, _, _, _, rfl, cond_d (fun h1 => ?_) (fun h1 => ?_)⟩
  · have hr4 : r < 4 := by omega
    refine LoopS.ind (fun k us w' => ∃ (cc : Nat) (zs : List UInt8), cc + k = 4 ∧ us = [.slice p l c, .int .i64 (m : Int), .slice none 0 0, .slice p0 16 16, .int .i64 (r : Int), .int .i64 (cc : Int)] ∧ Fr [] w w' ∧ OB w' p0 16 16 zs w.heap.size ∧ ∀ j, j < 16 → (j % 4 < r ∨ (j % 4 = r ∧ j / 4 < cc)) → fl zs j = arows m (fl xs) j) 4
      ⟨0, zs, by omega, rfl, f2, hO2, fun j hj h => hz j hj (by omega)⟩ ?_
    rintro k2 us2 rr2 w3 I2 μ2 hgo2 ⟨cc, zs2, hc, rfl, f3, hO3, hz3⟩
    refine ⟨_, _, _, _, _, _, _, _, _, _, _, _, rfl, cond_d (fun h2 => ?_) (fun h2 => ?_)⟩
    · have hc4 : cc < 4 := by omega
      have hmr : m * r ≤ 3 * 3 := Nat.mul_le_mul hm (by omega)
      have e1 : IntKind.i64.wrap ((m : Int) * (r : Int)) = ((m * r : Nat) : Int) := by rw [← Int.natCast_mul]; exact wrap64 (by omega) (by omega)
      have e2 : IntKind.i64.wrap ((cc : Int) + ((m * r : Nat) : Int)) = ((cc + m * r : Nat) : Int) := by rw [← Int.natCast_add]; exact wrap64 (by omega) (by omega)
      rw [e1, e2]
      refine at_c hr4 (by omega) ⟨_, rfl, at_c hr4 (by omega) ⟨_, rfl, ?_⟩⟩
      have hlt : 4 * ((cc + m * r) % 4) + r < 16 := by omega
      obtain ⟨a, ha, hca⟩ := row_get (t := T_S_uint8) (by kernel_rfl) (hx.fr0 f3) (c := c) hl (i := 4 * ((cc + m * r) % 4) + r) (by omega) (k := .i64)
      refine ⟨a, ha, _, Ld.cell (by kernel_rfl) hca, ?_⟩
      have hzl := hO3.2.1
      refine hO3.sto (by omega) fun w4 f4 hO4 s4 => ?_
      rw [wrap64 (by omega) (by omega)]
      refine hgo2 _ _ _ (k2 - 1) (by omega) ⟨cc + 1, _, by omega, rfl, hO3.news f3 f4 (Nat.le_refl _), hO4, fun j hj hjc => ?_⟩
      rw [fl_set (by omega)]
      by_cases hji : j = 4 * (cc % 4) + r
      · rw [if_pos hji]
        show fl xs _ = fl xs _
        have : 4 * m * (j % 4) = 4 * (m * r) := by rw [show j % 4 = r by omega, Nat.mul_assoc]
        rw [this]
        congr 1; omega
      · rw [if_neg hji]
        exact hz3 j hj (by omega)
    · have hc4 : cc = 4 := by omega
      subst hc4
      rw [wrap64 (by omega) (by omega)]
      exact hgo _ _ _ (k - 1) (by omega) ⟨r + 1, zs2, by omega, rfl, f3, hO3, fun j hj hjr => hz3 j hj (by omega)⟩
  · have hr4 : r = 4 := by omega
    subst hr4
    rw [bl_of_fl (zs := zs) hO2.2.1.symm (fun j hj => hz j hj (by omega))] at hO2
    exact h p0 w2 f2 hO2
def rcol (f x : Nat → UInt8) (c r : Nat) : Nat → UInt8
  | 0 => 0
  | k + 1 => rcol f x c r k ^^^ gmul (f ((k + 4 - r) % 4)) (x (4 * c + k))
theorem rcol_eq (f x : Nat → UInt8) {j : Nat} (hj : j < 16) : rcol f x (j / 4) (j % 4) 4 = acols (gF f) x j := acols_ref f x hj
set_option maxHeartbeats 1000000 in
theorem ref_columns_c {w : World} {p : Option Addr} {l c : Nat} {xs : List UInt8} (hx : Row w p (xs.map vb)) (hl : l = xs.length) (h16 : xs.length = 16) {f : Nat → UInt8} {K : Value → World → Prop}
    (h : ∀ p' w', Fr [] w w' → OB w' p' 16 16 (bl 16 (acols (gF f) (fl xs))) w.heap.size → K (.slice p' 16 16) w') : callF Tryz.prog F_ref03_columns #[.slice p l c, .agg ⟨blist 4 f⟩] w K := by
  apply ref03_columns_call
  unfold ref03_columns
  refine newB fun w0 ff f0 hF hf s0 => ?_
  refine mkN (n := 16) (c := 16) (k := .i64) (k' := .i64) (Nat.le_refl _) (by omega) fun p0 w1 f1 hO1 s1 => ?_
  have n0 := f0.size
  have hx0 := hx.fr0 f0
  refine LoopS.ind (fun k us w' => ∃ (cc : Nat) (zs : List UInt8), cc + k = 4 ∧ us = [.slice p l c, .pointer (some ⟨w.heap.size, 0, none⟩), .slice none 0 0, .slice p0 16 16, .int .i64 (cc : Int)] ∧ Fr [] w0 w' ∧ OB w' p0 16 16 zs w0.heap.size ∧ ∀ j, j < 16 → j / 4 < cc → fl zs j = acols (gF f) (fl xs) j) 4
    ⟨0, _, by omega, rfl, f1, hO1, by omega⟩ ?_
  rintro k us rr w2 I μ hgo ⟨cc, zs, hc, rfl, f2, hO2, hz⟩
  refine ⟨_, _, _, _, _, _, _, _, _, _, _, rfl, cond_d (fun h1 => ?_) (fun h1 => ?_)⟩
  · have hc4 : cc < 4 := by omega
    refine LoopS.ind (fun k us w' => ∃ (r : Nat) (zs : List UInt8), r + k = 4 ∧ us = [.slice p l c, .pointer (some ⟨w.heap.size, 0, none⟩), .slice none 0 0, .slice p0 16 16, .int .i64 (cc : Int), .int .i64 (r : Int)] ∧ Fr [] w0 w' ∧ OB w' p0 16 16 zs w0.heap.size ∧ ∀ j, j < 16 → (j / 4 < cc ∨ (j / 4 = cc ∧ j % 4 < r)) → fl zs j = acols (gF f) (fl xs) j) 4
      ⟨0, zs, by omega, rfl, f2, hO2, fun j hj h => hz j hj (by omega)⟩ ?_
    rintro k2 us2 rr2 w3 I2 μ2 hgo2 ⟨r, zs2, hr, rfl, f3, hO3, hz3⟩
    refine ⟨_, _, _, _, _, _, _, _, _, _, _, _, rfl, cond_d (fun h2 => ?_) (fun h2 => ?_)⟩
    · have hr4 : r < 4 := by omega
      refine LoopS.ind (fun k us w' => ∃ i : Nat, i + k = 4 ∧ us = [.slice p l c, .pointer (some ⟨w.heap.size, 0, none⟩), .slice none 0 0, .slice p0 16 16, .int .i64 (cc : Int), .int .i64 (r : Int), vb (rcol f (fl xs) cc r i), .int .i64 (i : Int)] ∧ Fr [] w3 w') 4
        ⟨0, by omega, rfl, Fr.refl _ _⟩ ?_
      rintro k3 us3 rr3 w4 I3 μ3 hgo3 ⟨i, hi, rfl, f4⟩
      refine ⟨_, _, _, _, _, _, _, _, _, _, _, _, _, _, rfl, cond_d (fun h3 => ?_) (fun h3 => ?_)⟩
      · have hi4 : i < 4 := by omega
        have e1 : IntKind.i64.wrap (IntKind.i64.wrap ((i : Int) + 4) - (r : Int)) = ((i + 4 - r : Nat) : Int) := by
          rw [wrap64 (n := (i : Int) + 4) (by omega) (by omega), wrap64 (by omega) (by omega)]; omega
        have e2 : Int.tmod ((i + 4 - r : Nat) : Int) 4 = (((i + 4 - r) % 4 : Nat) : Int) := rfl
        rw [e1, e2]
        have hm4 : (i + 4 - r) % 4 < 4 := Nat.mod_lt _ (by omega)
        have fv : ff ((i + 4 - r) % 4) = vb (f ((i + 4 - r) % 4)) := by have := hf _ hm4; rwa [Nat.zero_add] at this
        refine ⟨fun w' => w'.cell? ⟨w.heap.size, (i + 4 - r) % 4, none⟩ = some (vb (f ((i + 4 - r) % 4))), Drw.intro fun w5 f5 s5 => ?_⟩
        have f05 := (f3.then f4).then f5
        have hF5 := hF.fr0 f05
        have hc5 : w5.cell? ⟨w.heap.size, (i + 4 - r) % 4, none⟩ = some (vb (f ((i + 4 - r) % 4))) := by rw [hF5.cell hm4, fv]
        refine ⟨_, ixA1 (n := 4) (by kernel_rfl) (by omega) (by omega), _, ⟨hc5, fun w' hw' => Ld.cell (by kernel_rfl) (by rw [Int.toNat_natCast, Nat.zero_add]; exact hw')⟩, ?_⟩
        refine at_c hi4 (by omega) ⟨_, rfl, .inl rfl, ?_⟩
        rw [show 4 * (cc % 4) + i = 4 * cc + i by omega]
        obtain ⟨a, ha, hca⟩ := row_get (t := T_S_uint8) (by kernel_rfl) (hx0.fr0 f05) (c := c) hl (i := 4 * cc + i) (by omega) (k := .i64)
        refine ⟨a, ha, _, Ld.cell (by kernel_rfl) hca, .inl rfl, ?_⟩
        refine refMul_c _ _ _ _ ⟨_, rfl, ?_⟩
        rw [xor8, wrap64 (by omega) (by omega)]
        exact hgo3 _ _ _ (k3 - 1) (by omega) ⟨i + 1, by omega, rfl, f4.then f5⟩
      · have hi4 : i = 4 := by omega
        subst hi4
        unfold ref03_columns_j1
        refine at_c hr4 (by omega) ⟨_, rfl, ?_⟩
        have hO4 := hO3.fr0 f4
        have hzl := hO4.2.1
        refine hO4.sto (by omega) fun w5 f5 hO5 s5 => ?_
        rw [wrap64 (by omega) (by omega)]
        refine hgo2 _ _ _ (k2 - 1) (by omega) ⟨r + 1, _, by omega, rfl, hO4.news (f3.then f4) f5 (Nat.le_refl _), hO5, fun j hj hjc => ?_⟩
        rw [fl_set (by omega)]
        by_cases hji : j = 4 * (cc % 4) + r
        · rw [if_pos hji, ← rcol_eq f _ hj, show j / 4 = cc by omega, show j % 4 = r by omega]
        · rw [if_neg hji]
          exact hz3 j hj (by omega)
    · have hr4 : r = 4 := by omega
      subst hr4
      rw [wrap64 (by omega) (by omega)]
      exact hgo _ _ _ (k - 1) (by omega) ⟨cc + 1, zs2, by omega, rfl, f3, hO3, fun j hj hjr => hz3 j hj (by omega)⟩
  · have hc4 : cc = 4 := by omega
    subst hc4
    rw [bl_of_fl (zs := zs) hO2.2.1.symm (fun j hj => hz j hj (by omega))] at hO2
    exact h p0 w2 (f0.then f2) (hO2.mono n0)
theorem ref_back_c {w : World} {p : Option Addr} {l c : Nat} (hx : Row w p (tblL.map vb)) (hl : l = 256) {K : Value → World → Prop}
    (h : ∀ p' w', Fr [] w w' → OB w' p' 256 256 utblL w.heap.size → K (.slice p' 256 256) w') : callF Tryz.prog F_ref03_back #[.slice p l c] w K := by
  apply ref03_back_call
  unfold ref03_back
  refine mkN (n := 256) (c := 256) (k := .i64) (k' := .i64) (Nat.le_refl _) (by omega) fun p0 w1 f1 hO1 s1 => ?_
  refine LoopS.ind (fun k us w' => ∃ (i : Nat) (zs : List UInt8), i + k = 256 ∧ us = [.slice p l c, .slice none 0 0, .slice p0 256 256, .int .i64 (i : Int)] ∧ Fr [] w w' ∧ OB w' p0 256 256 zs w.heap.size ∧ ∀ a : UInt8, (gunsign a).toNat < i → fl zs a.toNat = gunsign a) 256
    ⟨0, _, by omega, rfl, f1, hO1, by omega⟩ ?_
  rintro k us rr w2 I μ hgo ⟨i, zs, hi, rfl, f2, hO2, hz⟩
  refine ⟨_, _, _, _, _, _, _, _, _, _, rfl, cond_d (fun h1 => ?_) (fun h1 => ?_)⟩
  · have hi256 : i < 256 := by omega
    have hlen : tblL.length = 256 := bl_len _ _
    obtain ⟨a, ha, hca⟩ := row_get (t := T_S_uint8) (by kernel_rfl) (hx.fr0 f2) (c := c) (l := l) (by rw [hlen]; exact hl) (i := i) (by omega) (k := .i64)
    have hv : tblL.getD i 0 = gsign (UInt8.ofNat i) := bl_getD hi256
    rw [hv] at hca
    obtain ⟨s, hs⟩ : ∃ s, s = gsign (UInt8.ofNat i) := ⟨_, rfl⟩
    rw [← hs] at hca
    have hsl := s.toNat_lt
    refine ⟨a, ha, _, Ld.cell (by kernel_rfl) hca, ?_⟩
    rw [wrapb hi256]
    have hzl := hO2.2.1
    refine hO2.sto (by omega) fun w3 f3 hO3 s3 => ?_
    rw [wrap64 (by omega) (by omega)]
    refine hgo _ _ _ (k - 1) (by omega) ⟨i + 1, _, by omega, rfl, hO2.news f2 f3 (Nat.le_refl _), hO3, fun b hb => ?_⟩
    rw [fl_set (by omega)]
    by_cases hbs : b.toNat = s.toNat
    · rw [if_pos hbs]
      have : b = s := UInt8.toNat_inj.1 hbs
      rw [this, hs, unsign_sign]
    · rw [if_neg hbs]
      refine hz b ?_
      by_cases hbi : (gunsign b).toNat = i
      · exfalso; apply hbs
        rw [hs, ← hbi, UInt8.ofNat_toNat, sign_unsign]
      · omega
  · have hi256 : i = 256 := by omega
    subst hi256
    have e : zs = utblL := bl_of_fl hO2.2.1.symm fun j hj => by
      have := hz (UInt8.ofNat j) ((gunsign (UInt8.ofNat j)).toNat_lt)
      have e : (UInt8.ofNat j).toNat = j := by simp; omega
      rw [e] at this
      exact this
    rw [e] at hO2
    exact h p0 w2 f2 hO2
end Go.Sh
end

section
namespace Go.Sh
open Go Go.Fw Go.Proofs
set_option maxRecDepth 100000
set_option linter.unusedVariables false
theorem Xor_c {w : World} {p q : Option Addr} {l c m d : Nat} {xs ys : List UInt8} (hx : Row w p (xs.map vb)) (hl : l = xs.length) (hy : Row w q (ys.map vb)) (hm : m = ys.length) (hlm : xs.length = ys.length) (hlen : l ≤ 1000000000) {K : Value → World → Prop}
    (h : ∀ p' c' w', Fr [] w w' → OB w' p' l c' (xorL xs ys) w.heap.size → K (.tuple #[.slice p' l c', .int .i64 0]) w') : callF Tryz.prog F_octet_Xor #[.slice p l c, .slice q m d] w K := by
  apply octet_Xor_call
  unfold octet_Xor
  refine cond_ne (fun h1 => by omega) fun _ => ?_
  refine mkN (n := l) (c := l) (k := .i64) (k' := .i64) (Nat.le_refl _) (by omega) fun p0 w1 f1 hO1 s1 => ?_
  refine LoopS.ind (fun k us w' => ∃ (i : Nat) (zs : List UInt8), i + k = l ∧ us = [.slice p l c, .slice q m d, .slice none 0 0, .int .i64 0, .slice p0 l l, .int .i64 (l : Int), .int .i64 (i : Int)] ∧ Fr [] w w' ∧ OB w' p0 l l zs w.heap.size ∧ ∀ j, j < i → fl zs j = fl xs j ^^^ fl ys j) l
    ⟨0, _, by omega, rfl, f1, hO1, by omega⟩ ?_
  rintro k us r w2 I μ hgo ⟨i, zs, hi, rfl, f2, hO2, hz⟩
  refine ⟨_, _, _, _, _, _, _, _, _, _, _, _, _, _, _, rfl, cond_d (fun h1 => ?_) (fun h1 => ?_)⟩
  · have hil : i < l := by omega
    obtain ⟨a, ha, hca⟩ := row_get (t := T_S_uint8) (by kernel_rfl) (hx.fr0 f2) (c := c) hl hil (k := .i64)
    obtain ⟨b, hb, hcb⟩ := row_get (t := T_S_uint8) (by kernel_rfl) (hy.fr0 f2) (c := d) hm (i := i) (by omega) (k := .i64)
    refine ⟨fun w' => w'.cell? a = some (vb (xs.getD i 0)), Drw.intro fun w3 f3 s3 => ?_⟩
    refine ⟨a, ha, b, hb, _, ⟨f3.cell hca (by simp), fun w' hw' => Ld.cell (by kernel_rfl) hw'⟩, _, Ld.cell (by kernel_rfl) (f3.cell hcb (by simp)), .inl rfl, ?_⟩
    rw [xor8]
    have hzl := hO2.2.1
    refine (hO2.fr0 f3).sto hil fun w4 f4 hO4 s4 => ?_
    rw [wrap64 (by omega) (by omega)]
    refine hgo _ _ _ (k - 1) (by omega) ⟨i + 1, _, by omega, rfl, (hO2.fr0 f3).news (f2.then f3) f4 (Nat.le_refl _), hO4, fun j hj => ?_⟩
    rw [fl_set (by omega)]
    by_cases hji : j = i
    · subst hji; rw [if_pos rfl]; rfl
    · rw [if_neg hji]; exact hz j (by omega)
  · have hil : i = l := by omega
    subst hil
    have e : zs = xorL xs ys := list_eq_of (by rw [xorL_len hlm, ← hO2.2.1]; omega) fun j hj => by
      rw [xorL_getD hlm (by have := hO2.2.1; omega)]
      exact hz j (by have := hO2.2.1; omega)
    rw [e] at hO2
    exact h p0 i w2 f2 hO2
end Go.Sh
end

section
namespace Go.Sh
open Go Go.Fw Go.Proofs
set_option maxRecDepth 100000
set_option linter.unusedVariables false
theorem mk1 {w : World} {x : UInt8} {K : Option Addr → Nat → Nat → World → Prop} (h : ∀ p w', Fr [] w w' → OB w' p 1 1 [x] w.heap.size → w'.heap.size = w.heap.size + 1 → K p 1 1 w') : ∃ p l c w', Ef Tryz.prog (Instr.buildSlice T_S_uint8 1 #[(0, .int .u8 (x.toNat : Int))]) w (.slice p l c) w' ∧ K p l c w' :=
  ⟨_, _, _, Ef.new (v := .slice (some ⟨w.heap.size, 0, none⟩) 1 1) (cs := ([vb x] : List Value).toArray) (e := T_uint8) (by kernel_rfl) fun w' f hB s => h _ w' f ⟨hB.own, rfl, by simp [blks]⟩ s⟩
theorem Table_c {w : World} {K : Value → World → Prop} (h : ∀ p w', Fr [] w w' → OB w' p 256 256 tblL w.heap.size → K (.slice p 256 256) w') : callF Tryz.prog F_ref03_Table #[] w K := by
  apply ref03_Table_call
  unfold ref03_Table
  obtain ⟨P, hP⟩ : ∃ P, P = npow 3 := ⟨_, rfl⟩
  have hP0 : P 0 = 1 := by rw [hP]; rfl
  have hPs : ∀ k, P (k + 1) = gmul (P k) 3 := fun k => by rw [hP]; rfl
  refine mk1 (x := 1) fun p1 w1 f1 hO1 s1 => ?_
  refine LoopS.ind (fun k us w' => ∃ (i : Nat) (q : Option Addr) (cq : Nat), 1 ≤ i ∧ i + k = 255 ∧ us = [.slice none 0 0, .slice q i cq, .int .i64 (i : Int)] ∧ Fr [] w w' ∧ OB w' q i cq (bl i P) w.heap.size) 254
    ⟨1, p1, 1, by omega, by omega, rfl, f1, by rw [show bl 1 P = [1] by simp [bl, hP0]]; exact hO1⟩ ?_
  rintro k us rr w2 I μ hgo ⟨i, q, cq, hi1, hi, rfl, f2, hO2⟩
  refine ⟨_, _, _, _, _, _, _, rfl, cond_d (fun h1 => ?_) (fun h1 => ?_)⟩
  · have hi255 : i < 255 := by omega
    have e1 : IntKind.i64.wrap ((i : Int) - 1) = ((i - 1 : Nat) : Int) := by rw [wrap64 (by omega) (by omega)]; omega
    rw [e1]
    obtain ⟨a, ha, hca⟩ := hO2.get (k := .i64) (i := i - 1) (by omega)
    rw [fl_bl i P _ (by omega)] at hca
    refine ⟨a, ha, _, Ld.cell (by kernel_rfl) hca, ?_⟩
    refine refMul_c (P (i - 1)) 3 _ _ ?_
    rw [← hPs, show i - 1 + 1 = i by omega]
    refine ⟨_, rfl, ?_⟩
    refine push1 hO2 f2.size (by omega) fun p' c' w3 f3 hO3 => ?_
    rw [wrap64 (by omega) (by omega)]
    refine hgo _ _ _ (k - 1) (by omega) ⟨i + 1, p', c', by omega, by omega, rfl, hO2.news f2 f3 (Nat.le_refl _), ?_⟩
    rw [bl_snoc]
    exact hO3
  · have hi255 : i = 255 := by omega
    subst hi255
    unfold ref03_Table_j1
    refine mkN (n := 256) (c := 256) (k := .i64) (k' := .i64) (Nat.le_refl _) (by omega) fun p3 w3 f3 hO3 s3 => ?_
    refine refSign_c 0 _ _ ?_
    have e0 : rsign 0 = gsign 0 := by have := rsign_eq 0; rwa [ginv_zero] at this
    obtain ⟨s0, hs0⟩ : ∃ s, s = gsign 0 := ⟨_, rfl⟩
    rw [e0, ← hs0]
    refine ⟨_, rfl, ?_⟩
    have n2 := f2.size
    have hzl := hO3.2.1
    refine hO3.sto (i := 0) (by omega) fun w4 f4 hO4 s4 => ?_
    have f24 : Fr [] w2 w4 := hO3.news f3 f4 (Nat.le_refl _)
    refine LoopS.ind (fun k us w' => ∃ (i : Nat) (zs : List UInt8), i + k = 255 ∧ us = [.slice none 0 0, .slice q 255 cq, .slice p3 256 256, .int .i64 (i : Int)] ∧ Fr [] w2 w' ∧ OB w' p3 256 256 zs w2.heap.size ∧ fl zs 0 = s0 ∧ ∀ j, j < i → fl zs (P j).toNat = gsign (P j)) 255
      ⟨0, _, by omega, rfl, f24, hO4, by rw [fl_set (by omega)]; rfl, by omega⟩ ?_
    rintro k us rr w5 I2 μ2 hgo2 ⟨i, zs, hi, rfl, f5, hO5, hz0, hz⟩
    refine ⟨_, _, _, _, _, _, _, _, _, _, rfl, cond_d (fun h1 => ?_) (fun h1 => ?_)⟩
    · have hi255 : i < 255 := by omega
      have e1 : Int.tmod (IntKind.i64.wrap (255 - (i : Int))) 255 = (((255 - i) % 255 : Nat) : Int) := by
        rw [wrap64 (by omega) (by omega), show (255 : Int) - (i : Int) = ((255 - i : Nat) : Int) by omega]; rfl
      rw [e1]
      have hm : (255 - i) % 255 < 255 := Nat.mod_lt _ (by omega)
      have hO25 := hO2.fr0 f5
      obtain ⟨a, ha, hca⟩ := hO25.get (k := .i64) (i := i) (by omega)
      obtain ⟨b, hb, hcb⟩ := hO25.get (k := .i64) (i := (255 - i) % 255) hm
      rw [fl_bl 255 P _ hi255] at hca
      rw [fl_bl 255 P _ hm] at hcb
      refine ⟨fun w' => w'.cell? a = some (vb (P i)), Drw.intro fun w6 f6 s6 => ?_⟩
      refine ⟨a, ha, b, hb, _, ⟨f6.cell hca (by simp), fun w' hw' => Ld.cell (by kernel_rfl) hw'⟩, _, Ld.cell (by kernel_rfl) (f6.cell hcb (by simp)), .inl rfl, ?_⟩
      refine refSign_c _ _ _ ?_
      have e2 : rsign (P ((255 - i) % 255)) = gsign (P i) := by
        rw [← rsign_eq (P i), hP, ginv_pow i hi255]
      obtain ⟨s, hs⟩ : ∃ s, s = gsign (P i) := ⟨_, rfl⟩
      rw [e2, ← hs]
      have hpl := (P i).toNat_lt
      have hzl := hO5.2.1
      refine ⟨_, rfl, .inl rfl, ?_⟩
      refine (hO5.fr0 f6).sto (by omega) fun w7 f7 hO7 s7 => ?_
      rw [wrap64 (by omega) (by omega)]
      refine hgo2 _ _ _ (k - 1) (by omega) ⟨i + 1, _, by omega, rfl, (hO5.fr0 f6).news (f5.then f6) f7 (Nat.le_refl _), hO7, ?_, fun j hj => ?_⟩
      · rw [fl_set (by omega), if_neg ?_]
        · exact hz0
        · intro h0
          apply npow3_ne i
          rw [← hP]
          exact UInt8.toNat_inj.1 h0.symm
      · rw [fl_set (by omega)]
        by_cases hji : (P j).toNat = (P i).toNat
        · rw [if_pos hji, hs, UInt8.toNat_inj.1 hji]
        · rw [if_neg hji]
          by_cases hj2 : j = i
          · exact absurd (by rw [hj2]) hji
          · exact hz j (by omega)
    · have hi255 : i = 255 := by omega
      subst hi255
      have e : zs = tblL := bl_of_fl hO5.2.1.symm fun j hj => by
        have ej : (UInt8.ofNat j).toNat = j := by simp; omega
        unfold tblF
        by_cases h0 : UInt8.ofNat j = 0
        · have hj0 : j = 0 := by rw [← ej, h0]; rfl
          subst hj0
          rw [hz0, hs0]; rfl
        · obtain ⟨n, hn, hnp⟩ := glog_ok _ h0
          have := hz n hn
          rw [hP, hnp, ej] at this
          exact this
      rw [e] at hO5
      exact h p3 w5 (f2.then f5) (hO5.mono n2)
end Go.Sh
end

section
namespace Go.Sh
open Go Go.Fw Go.Proofs
set_option maxRecDepth 100000
set_option linter.unusedVariables false
theorem blist_at {n : Nat} {x : Nat → UInt8} {i : Nat} (h : i < n) {k : Int} (hk : k = (i : Int)) : (blist n x)[k.toNat]? = some (vb (x i)) := by subst hk; rw [Int.toNat_natCast]; exact blist_get h
def grewF (F F' : List Nat) (w w' : World) : Prop := (∀ k ∈ F, k ∈ F') ∧ ∀ k ∈ F', k ∈ F ∨ (w.heap.size ≤ k ∧ k < w'.heap.size)
theorem grewF.refl (F : List Nat) (w w' : World) : grewF F F w w' := ⟨fun _ h => h, fun _ h => .inl h⟩
theorem grewF.trans {F F' F'' : List Nat} {a b c : World} (h : grewF F F' a b) (k : grewF F' F'' b c) (h1 : a.heap.size ≤ b.heap.size) (h2 : b.heap.size ≤ c.heap.size) : grewF F F'' a c := by
  refine ⟨fun x hx => k.1 x (h.1 x hx), fun x hx => ?_⟩
  rcases k.2 x hx with hx | hx
  · rcases h.2 x hx with hx | hx
    · exact .inl hx
    · exact .inr ⟨hx.1, by omega⟩
  · exact .inr ⟨by omega, hx.2⟩
set_option maxHeartbeats 1000000 in
theorem turned_w_c {w : World} {c t : Nat} {f : Nat → Value} {F : List Nat} {m : Bool} {x : Nat → UInt8} {r : Nat} (hC : Blk w c 178 f) (h0 : f 0 = .pointer (some ⟨t, 0, none⟩)) (hT : TabF w t [2, 3, 9, 11, 13, 14] F m) (hcF : c ∉ F) (hFw : ∀ k ∈ F, k < w.heap.size) (hr1 : 1 ≤ r) (hr2 : r ≤ 20)
    {K : Value → World → Prop} (h : ∀ w' F', Fr [t] w w' → TabF w' t [2, 3, 9, 11, 13, 14] F' true → grewF F F' w w' → K (.agg ⟨blist 4 (turnedF x r)⟩) w') : callF Tryz.prog F_aes_Cipher_turned #[.pointer (some ⟨c, 0, none⟩), .agg ⟨blist 4 x⟩, .int .i64 (r : Int)] w K := by
  apply aes_Cipher_turned_call
  unfold aes_Cipher_turned
  have htw := hT.lt
  have hcw := hC.lt
  refine newB fun w1 fx f1 hX hx s1 => ?_
  refine newZ (s := 4) (by kernel_rfl) fun w2 fz f2 hZ s2 => ?_
  have hX2 := hX.fr0 f2
  have g : ∀ i, i < 4 → fx i = vb (x i) := fun i hi => by have := hx i hi; rwa [Nat.zero_add] at this
  refine ⟨_, ixA1 (n := 4) (by kernel_rfl) (by omega) (by omega), _, Ld.blk (by kernel_rfl) hX2 (by show 0 + 1 < 4; omega) (g 1 (by omega)), _, ixA1 (n := 4) (by kernel_rfl) (by omega) (by omega), _, Ld.blk (by kernel_rfl) hX2 (by show 0 + 2 < 4; omega) (g 2 (by omega)),
    _, ixA1 (n := 4) (by kernel_rfl) (by omega) (by omega), _, Ld.blk (by kernel_rfl) hX2 (by show 0 + 3 < 4; omega) (g 3 (by omega)), _, ixA1 (n := 4) (by kernel_rfl) (by omega) (by omega), _, Ld.blk (by kernel_rfl) hX2 (by show 0 + 0 < 4; omega) (g 0 (by omega)), ?_⟩
  refine newZ (s := 4) (by kernel_rfl) fun w3 fo f3 hO s3 => ?_
  obtain ⟨y, hy⟩ : ∃ y : Nat → UInt8, y = fun j => x ((j + 1) % 4) := ⟨_, rfl⟩
  have ey : (#[vb (x 1), vb (x 2), vb (x 3), vb (x 0)] : Array Value) = ⟨blist 4 y⟩ := by rw [hy]; rfl
  rw [ey]
  refine Sto.agg (by kernel_rfl) (blist_len 4 _) hO (Nat.le_refl 4) blist_one fun w4 f4 hO4 s4 => ?_
  refine ⟨_, LdA (m := 4) (by kernel_rfl) (by kernel_rfl) hO4 (Nat.le_refl 4) (blist 4 y) (blist_len _ _) BAt.updN.ld, ?_⟩
  have fn : Fr [] w w4 := ((f1.then f2).then f3).trans f4 (fun z hz => .inr (by simp at hz; have := f1.size; have := f2.size; omega))
  have n1 := f1.size; have n2 := f2.size; have n3 := f3.size; have n4 := fn.size
  have hZ4 := (hZ.fr0 f3).fr f4 (by simp; omega)
  refine LoopS.ind (fun k us w' => ∃ i : Nat, i + k = 4 ∧ us = [.pointer (some ⟨c, 0, none⟩), .int .i64 (r : Int), .pointer (some ⟨w1.heap.size, 0, none⟩), .pointer (some ⟨w2.heap.size, 0, none⟩), .agg ⟨blist 4 y⟩, .int .i64 (i : Int)] ∧ Fr [t, w2.heap.size] w4 w' ∧
      ∃ m' F', TabF w' t [2, 3, 9, 11, 13, 14] F' m' ∧ grewF F F' w4 w' ∧ (0 < i → m' = true) ∧ ∃ fo, Blk w' w2.heap.size 4 fo ∧ BAt fo 0 4 (fun j => if j < i then gsign (y j) else y j)) 4
    ⟨0, rfl, rfl, Fr.refl _ _, m, F, hT.fr0 fn, grewF.refl _ _ _, by omega, _, hO4, by simpa using BAt.updN⟩ ?_
  rintro k us rr w5 I μ hgo ⟨i, hi, rfl, f5, m', F', hT5, gF5, hm5, fo5, hO5, ho5⟩
  have nFx : ∀ z, w.heap.size ≤ z → z < w4.heap.size → z ∉ F' := fun z h1 h2 hk => by rcases gF5.2 _ hk with hk | hk; have := hFw _ hk; omega; omega
  have ntw : t ≠ w2.heap.size := by have := htw.1; omega
  have ncw : c ≠ w2.heap.size := by omega
  have nct : c ≠ t := fun h => hcF (h ▸ htw.2)
  have hC5 : Blk w5 c 178 f := (hC.fr0 fn).fr f5 (by simp; omega)
  refine ⟨_, _, _, _, _, _, rfl, cond_d (fun h1 => ?_) (fun h1 => ?_)⟩
  · have hi4 : i < 4 := by omega
    refine ⟨_, PuIx (n := 4) (by kernel_rfl) (by omega) (by omega) (blist_at hi4 rfl), _, rfl, ?_⟩
    rw [add_mk]
    refine ⟨_, Ld.blk (by kernel_rfl) hC5 (by omega) h0, ?_⟩
    refine SubF_c hT5 (y i) fun w6 F6 f6 hT6 g1 g2 g3 => ⟨_, rfl, _, ixA1 (n := 4) (by kernel_rfl) (by omega) (by omega), ?_⟩
    rw [Int.toNat_natCast, Nat.zero_add]
    have nF6 : w2.heap.size ∉ F6 := fun hk => by rcases g2 _ hk with hk | hk; exact nFx _ (by omega) (by omega) hk; have := f5.size; omega
    refine Sto.blk (by kernel_rfl) (hO5.fr f6 (by simp; omega)) hi4 rfl rfl fun w7 f7 hO7 s7 => ?_
    have hs6 := f6.size
    have hT7 := hT6.fr f7 (by simp; exact nF6)
    refine hgo _ _ _ (k - 1) (by omega) ⟨i + 1, by omega, by rw [wrap64 (by omega) (by omega)]; rfl, (f5.trans f6 (fun z hz => .inl (by simp at hz; simp [hz]))).trans f7 (fun z hz => .inl (by simp at hz; simp [hz])), true, F6, hT7, gF5.trans ⟨g1, fun z hz => ?_⟩ f5.size (by omega), fun _ => rfl, _, hO7, fun j hj => ?_⟩
    · rcases g2 z hz with hz | hz
      · exact .inl hz
      · exact .inr ⟨hz.1, by omega⟩
    · rw [Nat.zero_add]
      show _ = vb (if j < i + 1 then gsign (y j) else y j)
      by_cases hji : j = i
      · subst hji; rw [upd_same, if_pos (by omega)]
      · rw [Go.Fw.upd_ne _ _ _ hji]
        have := ho5 j hj
        rw [Nat.zero_add] at this
        rw [this]
        show vb (if j < i then gsign (y j) else y j) = _
        by_cases hj2 : j < i
        · rw [if_pos hj2, if_pos (by omega)]
        · rw [if_neg hj2, if_neg (by omega)]
  · have hi4 : i = 4 := by omega
    subst hi4
    have hm5 := hm5 (by omega)
    subst hm5
    unfold aes_Cipher_turned_j1
    have e0 : fo5 0 = vb (gsign (y 0)) := by have := ho5 0 (by omega); rw [Nat.zero_add] at this; exact this
    obtain ⟨s0, hs0⟩ : ∃ s, s = gsign (y 0) := ⟨_, rfl⟩
    rw [← hs0] at e0
    have er : IntKind.u64.wrap (IntKind.i64.wrap ((r : Int) - 1)) = ((UInt64.ofNat (r - 1)).toNat : Int) := by
      have e1 : (r : Int) - 1 = ((r - 1 : Nat) : Int) := by omega
      have e2 : (UInt64.ofNat (r - 1)).toNat = r - 1 := by simp; omega
      rw [e1, wrap64 (by omega) (by omega), wrapu64 (by omega) (by omega), e2]
    rw [er]
    obtain ⟨p0, hp0⟩ : ∃ p, p = gpow 2 (UInt64.ofNat (r - 1)) := ⟨_, rfl⟩
    have hZ5 := hZ4.fr f5 (by simp; have := htw.1; omega)
    have nz : w1.heap.size ≠ w2.heap.size := by omega
    refine ⟨fun w' => w'.cell? ⟨w2.heap.size, 0, none⟩ = some (vb s0), Drw.intro fun w6 f6 s6 => ?_⟩
    have hO6 := hO5.fr0 f6
    have hc6 : w6.cell? ⟨w2.heap.size, 0, none⟩ = some (vb s0) := by rw [hO6.cell (by omega), e0]
    refine ⟨_, ixA1 (n := 4) (by kernel_rfl) (by omega) (by omega), _, ⟨hc6, fun w' hw' => Ld.cell (by kernel_rfl) hw'⟩, ?_⟩
    refine Pow_c 2 _ _ _ ?_
    rw [← hp0]
    refine ⟨_, rfl, .inl rfl, _, ixA1 (n := 4) (by kernel_rfl) (by omega) (by omega), ?_⟩
    rw [xor8]
    refine Sto.blk (by kernel_rfl) hO6 (by show 0 + 0 < 4; omega) rfl rfl fun w7 f7 hO7 s7 => ?_
    have hb7 : BAt (upd fo5 (0 + (0 : Int).toNat) (vb (s0 ^^^ p0))) 0 4 (turnedF x r) := by
      intro j hj
      unfold turnedF
      by_cases hj0 : j = 0
      · subst hj0
        rw [if_pos rfl, ← hp0]
        show upd fo5 0 _ 0 = _
        rw [upd_same, hs0, hy]
      · rw [if_neg hj0]
        show upd fo5 0 _ (0 + j) = _
        rw [Go.Fw.upd_ne _ _ _ (by omega), ho5 j hj]
        show vb (if j < 4 then gsign (y j) else y j) = _
        rw [if_pos hj, hy]
    refine ⟨_, LdA (m := 4) (by kernel_rfl) (by kernel_rfl) hO7 (Nat.le_refl 4) (blist 4 (turnedF x r)) (blist_len _ _) hb7.ld, ?_⟩
    refine Sto.agg (by kernel_rfl) (blist_len 4 _) ((hZ5.fr0 f6).fr f7 (by simp; omega)) (Nat.le_refl 4) blist_one fun w8 f8 hZ8 s8 => ?_
    refine ⟨_, _, rfl, LdA (m := 4) (by kernel_rfl) (by kernel_rfl) hZ8 (Nat.le_refl 4) (blist 4 (turnedF x r)) (blist_len _ _) BAt.updN.ld, ?_⟩
    have n5 := f5.size
    have fA : Fr [t] w w5 := (fn.mono (by simp)).trans f5 (fun z hz => by simp at hz; rcases hz with rfl | rfl; exact .inl (by simp); exact .inr (by omega))
    have fB : Fr [t] w w7 := (fA.then f6).trans f7 (fun z hz => .inr (by simp at hz; omega))
    have fC : Fr [t] w w8 := fB.trans f8 (fun z hz => .inr (by simp at hz; omega))
    have n6 := f6.size
    have n8 := f8.size
    have n7 := f7.size
    refine h w8 F' fC (((hT5.fr0 f6).fr f7 ?_).fr f8 ?_) ⟨gF5.1, fun z hz => ?_⟩
    · simp only [List.mem_singleton]; rintro z rfl; exact nFx _ (by omega) (by omega)
    · simp only [List.mem_singleton]; rintro z rfl; exact nFx _ (by omega) (by omega)
    · rcases gF5.2 z hz with hz | hz
      · exact .inl hz
      · exact .inr ⟨by omega, by omega⟩
end Go.Sh
end
