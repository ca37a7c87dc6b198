/- A part of a proof of a given law of this program: lemmas, printed forms of its functions, contracts. It has no conditions of its own. -/
import Derived.Test.YtopjbcjbohegcaaGreatMC
import Derived.Test.YtopjbcjbohegcaaGreatMA
import Derived.Test.YtopjbcjbohegcaaGreatMFw2
import Derived.Test.YtopjbcjbohegcaaGreatMSh3

section
namespace Go.Sh
open Go Go.Fw Go.Proofs
set_option maxRecDepth 100000
set_option linter.unusedVariables false
def hsz (n : Nat) : Nat := n - n / 2
def msk (n : Nat) (left : Bool) (len j : Nat) : UInt8 := if n % 2 = 0 then 255 else if left then (if j + 1 = len then 240 else 255) else (if j = 0 then 15 else 255)
theorem msk_even {n : Nat} (h : n % 2 = 0) (left : Bool) (len j : Nat) : msk n left len j = 255 := by unfold msk; rw [if_pos h]
theorem msk_L {n : Nat} (h : ¬ n % 2 = 0) (len j : Nat) : msk n true len j = if j + 1 = len then 240 else 255 := by unfold msk; rw [if_neg h]; rfl
theorem msk_R {n : Nat} (h : ¬ n % 2 = 0) (len j : Nat) : msk n false len j = if j = 0 then 15 else 255 := by unfold msk; rw [if_neg h]; rfl
def trimL (xs : List UInt8) (n : Nat) (left : Bool) : List UInt8 := bl xs.length (fun j => fl xs j &&& msk n left xs.length j)
def goodH (n : Nat) (left : Bool) (xs : List UInt8) : Prop := xs.length = hsz n ∧ trimL xs n left = xs
theorem trimL_len (xs : List UInt8) (n : Nat) (left : Bool) : (trimL xs n left).length = xs.length := bl_len _ _
theorem trimL_fl {xs : List UInt8} {n : Nat} {left : Bool} {j : Nat} (h : j < xs.length) : fl (trimL xs n left) j = fl xs j &&& msk n left xs.length j := bl_getD h
theorem and_idem8 (a m : UInt8) : a &&& m &&& m = a &&& m := by rw [UInt8.and_assoc, UInt8.and_self]
theorem fl_ext {xs ys : List UInt8} (hl : xs.length = ys.length) (h : ∀ j, j < xs.length → fl xs j = fl ys j) : xs = ys := list_eq_of hl h
theorem trimL_idem (xs : List UInt8) (n : Nat) (left : Bool) : trimL (trimL xs n left) n left = trimL xs n left := by
  refine fl_ext (by rw [trimL_len]) fun j hj => ?_
  rw [trimL_len, trimL_len] at hj
  rw [trimL_fl (by rw [trimL_len]; exact hj), trimL_fl hj, trimL_len, and_idem8]
def blockL (h : List UInt8) (n p : Nat) : List UInt8 := h ++ List.replicate (14 - h.length) 0 ++ [UInt8.ofNat n, UInt8.ofNat p]
theorem blockL_len {h : List UInt8} (n p : Nat) (hl : h.length ≤ 14) : (blockL h n p).length = 16 := by simp [blockL]; omega
def ontoL (key fr to_ : List UInt8) (n p : Nat) (left : Bool) : List UInt8 := trimL (xorL ((aencL key (blockL fr n p)).take to_.length) to_) n left
theorem take_len {key fr : List UInt8} {n p k : Nat} (h : k ≤ 16) : ((aencL key (blockL fr n p)).take k).length = k := by rw [List.length_take, aencL_len]; omega
theorem ontoL_len (key fr to_ : List UInt8) (n p : Nat) (left : Bool) (h : to_.length ≤ 16) : (ontoL key fr to_ n p left).length = to_.length := by
  unfold ontoL; rw [trimL_len, xorL_len (take_len h)]
theorem ontoL_fl {key fr to_ : List UInt8} {n p : Nat} {left : Bool} (h : to_.length ≤ 16) {j : Nat} (hj : j < to_.length) : fl (ontoL key fr to_ n p left) j = (fl ((aencL key (blockL fr n p)).take to_.length) j ^^^ fl to_ j) &&& msk n left to_.length j := by
  unfold ontoL
  rw [trimL_fl (by rw [xorL_len (take_len h)]; exact hj), xorL_len (take_len h)]
  congr 1
  exact xorL_getD (take_len h) hj
theorem onto_good {key fr to_ : List UInt8} {n p : Nat} {left : Bool} (h : to_.length ≤ 16) (hl : to_.length = hsz n) : goodH n left (ontoL key fr to_ n p left) := ⟨by rw [ontoL_len _ _ _ _ _ _ h]; exact hl, by unfold ontoL; exact trimL_idem _ _ _⟩
theorem onto_twice {key fr to_ : List UInt8} {n p : Nat} {left : Bool} (h : to_.length ≤ 16) (hg : goodH n left to_) : ontoL key fr (ontoL key fr to_ n p left) n p left = to_ := by
  have hl := ontoL_len key fr to_ n p left h
  refine fl_ext (by rw [ontoL_len _ _ _ _ _ _ (by rw [hl]; exact h), hl]) fun j hj => ?_
  rw [ontoL_len _ _ _ _ _ _ (by rw [hl]; exact h), hl] at hj
  rw [ontoL_fl (by rw [hl]; exact h) (by rw [hl]; exact hj), hl, ontoL_fl h hj]
  have e : fl to_ j = fl to_ j &&& msk n left to_.length j := by
    rw [← trimL_fl hj, hg.2]
  generalize fl ((aencL key (blockL fr n p)).take to_.length) j = s
  generalize msk n left to_.length j = m at e ⊢
  rw [and_xor8, and_idem8, and_xor8, ← xor_assoc8, xor_self8, zero_xor8]
  exact e.symm
def passL (key : List UInt8) (n p : Nat) (s : List UInt8 × List UInt8) : List UInt8 × List UInt8 :=
  if p % 2 = 0 then (ontoL key s.2 s.1 n p true, s.2) else (s.1, ontoL key s.1 s.2 n p false)
def goodP (n : Nat) (s : List UInt8 × List UInt8) : Prop := goodH n true s.1 ∧ goodH n false s.2
theorem hsz_le {n : Nat} (h : n ≤ 28) : hsz n ≤ 14 := by unfold hsz; omega
theorem passL_good {key : List UInt8} {n p : Nat} (hn : n ≤ 28) {s : List UInt8 × List UInt8} (h : goodP n s) : goodP n (passL key n p s) := by
  have h1 := h.1.1; have h2 := h.2.1; have := hsz_le hn
  unfold passL
  split
  · exact ⟨onto_good (by omega) h1, h.2⟩
  · exact ⟨h.1, onto_good (by omega) h2⟩
theorem passL_twice {key : List UInt8} {n p : Nat} (hn : n ≤ 28) {s : List UInt8 × List UInt8} (h : goodP n s) : passL key n p (passL key n p s) = s := by
  have h1 := h.1.1; have h2 := h.2.1; have := hsz_le hn
  unfold passL
  by_cases hp : p % 2 = 0
  · rw [if_pos hp, if_pos hp]
    show (ontoL key s.2 (ontoL key s.2 s.1 n p true) n p true, s.2) = s
    rw [onto_twice (by omega) h.1]
  · rw [if_neg hp, if_neg hp]
    show (s.1, ontoL key s.1 (ontoL key s.1 s.2 n p false) n p false) = s
    rw [onto_twice (by omega) h.2]
def runL (key : List UInt8) (n : Nat) (ps : List Nat) (s : List UInt8 × List UInt8) : List UInt8 × List UInt8 := ps.foldl (fun s p => passL key n p s) s
theorem runL_good {key : List UInt8} {n : Nat} (hn : n ≤ 28) : ∀ (ps : List Nat) {s : List UInt8 × List UInt8}, goodP n s → goodP n (runL key n ps s) := by
  intro ps
  induction ps with
  | nil => intro s h; exact h
  | cons p ps ih => intro s h; exact ih (passL_good hn h)
theorem runL_snoc (key : List UInt8) (n : Nat) (ps : List Nat) (p : Nat) (s : List UInt8 × List UInt8) : runL key n (ps ++ [p]) s = passL key n p (runL key n ps s) := by simp [runL]
theorem runL_rev {key : List UInt8} {n : Nat} (hn : n ≤ 28) : ∀ (ps : List Nat) {s : List UInt8 × List UInt8}, goodP n s → runL key n ps.reverse (runL key n ps s) = s := by
  intro ps
  induction ps with
  | nil => intro s h; rfl
  | cons p ps ih =>
    intro s h
    rw [List.reverse_cons, runL_snoc]
    show passL key n p (runL key n ps.reverse (runL key n ps (passL key n p s))) = s
    rw [ih (passL_good hn h)]
    exact passL_twice hn h
def cutL (b : List UInt8) : List UInt8 × List UInt8 := (trimL (b.take (hsz b.length)) b.length true, trimL (b.drop (b.length - hsz b.length)) b.length false)
def joinL (l r : List UInt8) (n : Nat) : List UInt8 := if n % 2 = 0 then l ++ r else (l ++ r.drop 1).set (l.length - 1) (fl l (l.length - 1) ||| fl r 0)
theorem cutL_len {b : List UInt8} : (cutL b).1.length = hsz b.length ∧ (cutL b).2.length = hsz b.length := by
  unfold cutL hsz
  rw [trimL_len, trimL_len]
  simp; omega
theorem cutL_good (b : List UInt8) : goodP b.length (cutL b) := ⟨⟨cutL_len.1, trimL_idem _ _ _⟩, ⟨cutL_len.2, trimL_idem _ _ _⟩⟩
theorem fl_append (xs ys : List UInt8) (j : Nat) : fl (xs ++ ys) j = if j < xs.length then fl xs j else fl ys (j - xs.length) := by
  unfold fl
  rw [List.getD_eq_getElem?_getD]
  by_cases h : j < xs.length
  · rw [if_pos h, List.getElem?_append_left h, List.getD_eq_getElem?_getD]
  · rw [if_neg h, List.getElem?_append_right (by omega), List.getD_eq_getElem?_getD]
theorem fl_take (xs : List UInt8) (k j : Nat) : fl (xs.take k) j = if j < k then fl xs j else 0 := by
  unfold fl
  rw [List.getD_eq_getElem?_getD, List.getElem?_take]
  split
  · rw [List.getD_eq_getElem?_getD]
  · rfl
theorem joinL_len {l r : List UInt8} {n : Nat} (h1 : l.length = hsz n) (h2 : r.length = hsz n) (hn : 2 ≤ n) : (joinL l r n).length = n := by
  unfold joinL
  unfold hsz at h1 h2
  split
  · simp; omega
  · simp; omega
theorem and255 (a : UInt8) : a &&& 255 = a := by
  have := all8 (p := fun a => a &&& 255 == a) (by kernel_rfl) a
  simpa using this
theorem hi_lo (a : UInt8) : (a &&& 240) ||| (a &&& 15) = a := by
  have := all8 (p := fun a => (a &&& 240) ||| (a &&& 15) == a) (by kernel_rfl) a
  simpa using this
theorem join_cut (b : List UInt8) (h2 : 2 ≤ b.length) : joinL (cutL b).1 (cutL b).2 b.length = b := by
  obtain ⟨n, hn⟩ : ∃ n, n = b.length := ⟨_, rfl⟩
  have hlen := joinL_len (cutL_len (b := b)).1 (cutL_len (b := b)).2 h2
  refine fl_ext hlen fun j hj => ?_
  rw [hlen] at hj
  have hL : ∀ j, j < hsz b.length → fl (cutL b).1 j = fl b j &&& msk b.length true (hsz b.length) j := by
    intro j hj
    have hle : (b.take (hsz b.length)).length = hsz b.length := by rw [List.length_take]; unfold hsz; omega
    show fl (trimL _ _ _) j = _
    rw [trimL_fl (by rw [hle]; exact hj), hle, fl_take, if_pos hj]
  have hR : ∀ j, j < hsz b.length → fl (cutL b).2 j = fl b (b.length - hsz b.length + j) &&& msk b.length false (hsz b.length) j := by
    intro j hj
    have hle : (b.drop (b.length - hsz b.length)).length = hsz b.length := by rw [List.length_drop]; unfold hsz; omega
    show fl (trimL _ _ _) j = _
    rw [trimL_fl (by rw [hle]; exact hj), hle, fl_drop]
  have l1 := (cutL_len (b := b)).1
  have l2 := (cutL_len (b := b)).2
  unfold joinL
  by_cases he : b.length % 2 = 0
  · rw [if_pos he, fl_append, l1]
    have hs : hsz b.length = b.length / 2 := by unfold hsz; omega
    by_cases hjl : j < hsz b.length
    · rw [if_pos hjl, hL j hjl, msk_even he, and255]
    · rw [if_neg hjl, hR _ (by omega), msk_even he, and255]
      congr 1; omega
  · rw [if_neg he]
    have hs : hsz b.length = b.length / 2 + 1 := by unfold hsz; omega
    have ho : b.length % 2 = 1 := by omega
    rw [fl_set (by rw [List.length_append, List.length_drop, l1, l2]; omega), l1]
    by_cases hjk : j = hsz b.length - 1
    · rw [if_pos hjk, hL _ (by omega), hR 0 (by omega), msk_L he, msk_R he, if_pos (by omega), if_pos rfl, show b.length - hsz b.length + 0 = hsz b.length - 1 by omega, hi_lo, hjk]
    · rw [if_neg hjk, fl_append, l1]
      by_cases hjl : j < hsz b.length
      · rw [if_pos hjl, hL j hjl, msk_L he, if_neg (by omega), and255]
      · rw [if_neg hjl, fl_drop, hR _ (by omega), msk_R he, if_neg (by omega), and255]
        congr 1; omega
theorem and_or8 (a b c : UInt8) : (a ||| b) &&& c = (a &&& c) ||| (b &&& c) := by
  rw [← UInt8.toBitVec_inj]; simp only [UInt8.toBitVec_and, UInt8.toBitVec_or]
  apply BitVec.eq_of_getLsbD_eq
  intro i _
  simp only [BitVec.getLsbD_and, BitVec.getLsbD_or]
  cases a.toBitVec.getLsbD i <;> cases b.toBitVec.getLsbD i <;> cases c.toBitVec.getLsbD i <;> rfl
theorem cut_join {l r : List UInt8} {n : Nat} (hn : 2 ≤ n) (h : goodP n (l, r)) : cutL (joinL l r n) = (l, r) := by
  obtain ⟨⟨l1, gl⟩, l2, gr⟩ := h
  have l1 : l.length = hsz n := l1
  have l2 : r.length = hsz n := l2
  have gl : trimL l n true = l := gl
  have gr : trimL r n false = r := gr
  have hlen := joinL_len l1 l2 hn
  have eL : ∀ j, j < hsz n → fl l j = fl l j &&& msk n true (hsz n) j := fun j hj => by rw [← l1, ← trimL_fl (by omega), gl]
  have eR : ∀ j, j < hsz n → fl r j = fl r j &&& msk n false (hsz n) j := fun j hj => by rw [← l2, ← trimL_fl (by omega), gr]
  have s2 : hsz n = n / 2 + n % 2 := by unfold hsz; omega
  have m2 : n % 2 < 2 := Nat.mod_lt _ (by omega)
  -- the joined bytes
  have hJ : ∀ j, j < n → fl (joinL l r n) j = if n % 2 = 0 then (if j < hsz n then fl l j else fl r (j - hsz n)) else (if j = hsz n - 1 then fl l j ||| fl r 0 else if j < hsz n then fl l j else fl r (j - hsz n + 1)) := by
    intro j hj
    unfold joinL
    by_cases he : n % 2 = 0
    · rw [if_pos he, if_pos he, fl_append, l1]
    · rw [if_neg he, if_neg he, fl_set (by rw [List.length_append, List.length_drop, l1, l2]; omega), l1]
      by_cases hjk : j = hsz n - 1
      · rw [if_pos hjk, if_pos hjk, hjk]
      · rw [if_neg hjk, if_neg hjk, fl_append, l1, fl_drop, Nat.add_comm 1]
  unfold cutL
  rw [hlen]
  have c0 : ∀ x : UInt8, x &&& 15 &&& 240 = 0 := fun x => by
    have := all8 (p := fun x => x &&& 15 &&& 240 == 0) (by kernel_rfl) x
    simpa using this
  have c1 : ∀ x : UInt8, x &&& 240 &&& 15 = 0 := fun x => by
    have := all8 (p := fun x => x &&& 240 &&& 15 == 0) (by kernel_rfl) x
    simpa using this
  congr 1
  · have hle : ((joinL l r n).take (hsz n)).length = hsz n := by rw [List.length_take, hlen]; omega
    refine fl_ext (by rw [trimL_len, hle, l1]) fun j hj => ?_
    rw [trimL_len, hle] at hj
    rw [trimL_fl (by rw [hle]; exact hj), hle, fl_take, if_pos hj, hJ j (by omega)]
    have e1 := eL j hj
    by_cases he : n % 2 = 0
    · rw [if_pos he, if_pos hj]; exact e1.symm
    · rw [if_neg he]
      by_cases hjk : j = hsz n - 1
      · have e2 := eR 0 (by omega)
        rw [msk_R he, if_pos rfl] at e2
        rw [if_pos hjk, and_or8, ← e1, msk_L he, if_pos (by omega), e2, c0]
        exact UInt8.or_zero
      · rw [if_neg hjk, if_pos hj]; exact e1.symm
  · have hle : ((joinL l r n).drop (n - hsz n)).length = hsz n := by rw [List.length_drop, hlen]; omega
    refine fl_ext (by rw [trimL_len, hle, l2]) fun j hj => ?_
    rw [trimL_len, hle] at hj
    rw [trimL_fl (by rw [hle]; exact hj), hle, fl_drop, hJ _ (by omega)]
    have e1 := eR j hj
    by_cases he : n % 2 = 0
    · rw [if_pos he, if_neg (by omega), show n - hsz n + j - hsz n = j by omega]; exact e1.symm
    · rw [if_neg he]
      by_cases hj0 : j = 0
      · subst hj0
        have e2 := eL (n - hsz n + 0) (by omega)
        rw [msk_L he, if_pos (by omega)] at e2
        rw [if_pos (by omega), and_or8, ← e1, msk_R he, if_pos rfl, e2, c1]
        exact UInt8.zero_or
      · rw [if_neg (by omega), if_neg (by omega), show n - hsz n + j - hsz n + 1 = j by omega]; exact e1.symm
def passesL (key text : List UInt8) (ps : List Nat) : List UInt8 := joinL (runL key text.length ps (cutL text)).1 (runL key text.length ps (cutL text)).2 text.length
theorem passesL_len (key text : List UInt8) (ps : List Nat) (h2 : 2 ≤ text.length) (h28 : text.length ≤ 28) : (passesL key text ps).length = text.length := by
  have := runL_good (key := key) h28 ps (cutL_good text)
  exact joinL_len this.1.1 this.2.1 h2
theorem passesL_rev (key text : List UInt8) (ps : List Nat) (h2 : 2 ≤ text.length) (h28 : text.length ≤ 28) : passesL key (passesL key text ps) ps.reverse = text := by
  have hg := runL_good (key := key) h28 ps (cutL_good text)
  have hl := passesL_len key text ps h2 h28
  have hc : cutL (passesL key text ps) = runL key text.length ps (cutL text) := cut_join h2 hg
  unfold passesL at hc hl ⊢
  rw [hl, hc, runL_rev h28 ps (cutL_good text)]
  exact join_cut text h2
end Go.Sh
end

section
namespace Go.Sh
open Go Go.Fw Go.Proofs
set_option maxRecDepth 100000
set_option linter.unusedVariables false
theorem tdiv2 (n : Nat) : Int.tdiv (n : Int) 2 = ((n / 2 : Nat) : Int) := rfl
theorem Size_c {n : Nat} (h1 : 1 ≤ n) (hn : n < 1000000) {w : World} {K : Value → World → Prop} (h : K (.int .i64 (hsz n : Int)) w) : callF Tryz.prog F_halves_Size #[.int .i64 (n : Int)] w K := by
  apply halves_Size_call
  unfold halves_Size
  refine cond_d (fun h2 => by omega) fun _ => ?_
  rw [tdiv2, wrap64 (n := ((n / 2 : Nat) : Int)) (by omega) (by omega), wrap64 (by omega) (by omega)]
  have : (n : Int) - ((n / 2 : Nat) : Int) = (hsz n : Int) := by unfold hsz; omega
  rw [this]
  exact h
def fitN (n : Int) (rs : List (List UInt8)) : Prop := 2 ≤ n ∧ n ≤ 28 ∧ ∀ r ∈ rs, r.length = hsz n.toNat
instance (n : Int) (rs : List (List UInt8)) : Decidable (fitN n rs) := by unfold fitN; exact inferInstance
theorem fits_c {n : Int} {w : World} {p : Option Addr} {l c : Nat} {rs : List (List UInt8)} (hR : RowB w p rs) (hl : l = rs.length) (hl2 : l ≤ 1000000) {K : Value → World → Prop} (h : ∀ w', Fr [] w w' → K (.bool (decide (fitN n rs))) w') :
    callF Tryz.prog F_halves_fits #[.int .i64 n, .slice p l c] w K := by
  apply halves_fits_call
  unfold halves_fits
  refine New.intro fun w1 f1 hB s1 => ?_
  have hB : Blk w1 w.heap.size 1 (fun _ => .int .i64 n) := hB.ext (fun i hi => by
    have : i = 0 := by have : i < 1 := hi; omega
    subst this; rfl)
  refine ⟨_, Ld.blk (by kernel_rfl) hB (by omega) rfl, cond_d (fun h1 => ?_) (fun h1 => ?_)⟩
  · refine ⟨_, Ld.blk (by kernel_rfl) hB (by omega) rfl, cond_d (fun h2 => ?_) (fun h2 => ?_)⟩
    · obtain ⟨m, rfl⟩ := Int.eq_ofNat_of_zero_le (show 0 ≤ n by omega)
      apply slices_ContainsFunc_byte_byte_call
      unfold slices_ContainsFunc_byte_byte
      apply slices_IndexFunc_byte_byte_call
      unfold slices_IndexFunc_byte_byte
      have hsame : ∀ r : List UInt8, ((r.length : Int) != (hsz m : Int)) = decide (r.length ≠ hsz m) := by
        intro r
        by_cases hr : r.length = hsz m
        · rw [hr]; simp
        · have : (r.length : Int) ≠ (hsz m : Int) := by omega
          simp [hr, this]
      refine LoopS.ind (fun k us w' => w' = w1 ∧ ∃ i : Nat, i + k = l ∧ us = [.slice p l c, .func (.func F_halves_fits_c1) #[] #[.pointer (some ⟨w.heap.size, 0, none⟩)], .int .i64 0, .int .i64 (l : Int), .int .i64 (i : Int)] ∧ ∀ j, j < i → (rs.getD j []).length = hsz m) l ⟨rfl, 0, by omega, rfl, by omega⟩ ?_
      rintro k us r w2 I μ hgo ⟨rfl, i, hi, rfl, hs⟩
      refine ⟨_, _, _, _, _, _, _, rfl, cond_d (fun h3 => ?_) (fun h3 => ?_)⟩
      · have hil : i < l := by omega
        obtain ⟨a, q, d, ha, hca, hq, _⟩ := rows_get (t := T_S_S_uint8) (by kernel_rfl) (hR.fr0 f1) (c := c) hl hil (k := .i64)
        refine ⟨a, ha, _, _, _, Ld.cell (by kernel_rfl) hca, ?_⟩
        refine callV_in ?_
        apply halves_fits_c1_call
        unfold halves_fits_c1
        refine ⟨_, Ld.blk (by kernel_rfl) hB (by omega) rfl, ?_⟩
        refine Size_c (by omega) (by omega) ⟨_, rfl, _, rfl, ?_⟩
        rw [hsame]
        refine cond_d (fun h4 => ?_) (fun h4 => ?_)
        · refine ⟨_, rfl, ?_⟩
          have e1 : decide ((i : Int) ≥ 0) = true := by simp
          rw [e1]
          refine ⟨_, rfl, ?_⟩
          have e2 : decide (fitN (m : Int) rs) = false := by
            rw [decide_eq_false_iff_not]
            rintro ⟨_, _, hall⟩
            apply h4
            have := hall (rs.getD i []) (by rw [List.getD_eq_getElem?_getD, List.getElem?_eq_getElem (by omega)]; simp)
            rwa [Int.toNat_natCast] at this
          have := h w2 f1
          rw [e2] at this
          exact this
        · rw [wrap64 (by omega) (by omega)]
          refine hgo _ _ _ (k - 1) (by omega) ⟨rfl, i + 1, by omega, rfl, fun j hj => ?_⟩
          by_cases hji : j = i
          · subst hji; simpa using h4
          · exact hs j (by omega)
      · refine ⟨_, rfl, ?_⟩
        have e1 : decide ((-1 : Int) ≥ 0) = false := rfl
        rw [e1]
        refine ⟨_, rfl, ?_⟩
        have e2 : decide (fitN (m : Int) rs) = true := by
          rw [decide_eq_true_iff]
          refine ⟨by omega, by omega, fun r hr => ?_⟩
          obtain ⟨j, hj, rfl⟩ := List.getElem_of_mem hr
          have := hs j (by omega)
          rwa [List.getD_eq_getElem?_getD, List.getElem?_eq_getElem hj] at this
        have := h w2 f1
        rw [e2] at this
        exact this
    · have e2 : decide (fitN n rs) = false := by
        rw [decide_eq_false_iff_not]; rintro ⟨_, hb, _⟩; omega
      have := h w1 f1
      rw [e2] at this
      exact this
  · have e2 : decide (fitN n rs) = false := by
      rw [decide_eq_false_iff_not]; rintro ⟨ha, _, _⟩; omega
    have := h w1 f1
    rw [e2] at this
    exact this
end Go.Sh
end

section
namespace Go.Sh
open Go Go.Fw Go.Proofs
set_option maxRecDepth 100000
set_option linter.unusedVariables false
theorem andNot15 (x : UInt8) : iandNot .u8 (x.toNat : Int) 15 = ((x &&& 240).toNat : Int) := by
  have : iandNot .u8 (x.toNat : Int) 15 = iand .u8 (x.toNat : Int) ((240 : UInt8).toNat : Int) := rfl
  rw [this]; exact and8 x 240
theorem andNot240 (x : UInt8) : iandNot .u8 (x.toNat : Int) 240 = ((x &&& 15).toNat : Int) := by
  have : iandNot .u8 (x.toNat : Int) 240 = iand .u8 (x.toNat : Int) ((15 : UInt8).toNat : Int) := rfl
  rw [this]; exact and8 x 15
theorem OB.stoAt {w : World} {p : Option Addr} {l c : Nat} {xs : List UInt8} {lo : Nat} (h : OB w p l c xs lo) {k : IntKind} {i : Nat} {x : UInt8} (hi : i < l) {a : Addr} (ha : IxA Tryz.prog T_S_uint8 (.slice p l c) (.int k (i : Int)) a) {K : World → Prop} (hk : ∀ w', Fr (blks p) w w' → OB w' p l c (xs.set i x) lo → w'.heap.size = w.heap.size → K w') :
    ∃ w', Sto Tryz.prog T_uint8 (.pointer (some a)) (.int .u8 (x.toNat : Int)) w w' ∧ K w' := by
  obtain ⟨a', ha', hs⟩ := h.sto (k := k) (x := x) hi hk
  have : a' = a := by have := ha'.symm.trans ha; simpa using this
  subst this
  exact hs
def oddAt (left : Bool) (l : Nat) : Nat := if left then l - 1 else 0
theorem odd_c {w : World} {p : Option Addr} {l c : Nat} {xs : List UInt8} (hR : Row w p (xs.map vb)) (hl : l = xs.length) (h0 : 0 < l) (hlb : l < 1000000) (n : Nat) (left : Bool) {K : Value → World → Prop} (hE : n % 2 = 0 → K (.tuple #[.pointer none, .int .u8 0]) w)
    (hO : n % 2 = 1 → ∀ a, IxA Tryz.prog T_S_uint8 (.slice p l c) (.int .i64 (oddAt left l : Int)) a → w.cell? a = some (vb (fl xs (oddAt left l))) → K (.tuple #[.pointer (some a), .int .u8 (if left then 15 else 240)]) w) :
    callF Tryz.prog F_halves_odd #[.slice p l c, .int .i64 (n : Int), .bool left] w K := by
  apply halves_odd_call
  unfold halves_odd
  have e : Int.tmod (n : Int) 2 = ((n % 2 : Nat) : Int) := rfl
  rw [e]
  refine cond_eq (fun h1 => hE (by omega)) (fun h1 => ?_)
  have ho : n % 2 = 1 := by have := Nat.mod_lt n (show 2 > 0 by omega); omega
  have hlt : oddAt left l < l := by unfold oddAt; split <;> omega
  obtain ⟨a, ha, hca⟩ := row_get (t := T_S_uint8) (by kernel_rfl) hR (c := c) hl hlt (k := .i64)
  have := hO ho a ha hca
  cases left with
  | true =>
    refine cond_t ⟨a, ?_, this⟩
    rw [wrap64 (by omega) (by omega)]
    have e2 : (l : Int) - 1 = (oddAt true l : Int) := by show (l : Int) - 1 = ((l - 1 : Nat) : Int); omega
    rw [e2]; exact ha
  | false => exact cond_f ⟨a, ha, this⟩
theorem trimL_even {xs : List UInt8} {n : Nat} (h : n % 2 = 0) (left : Bool) : trimL xs n left = xs :=
  fl_ext (trimL_len _ _ _) fun j hj => by rw [trimL_len] at hj; rw [trimL_fl hj, msk_even h, and255]
theorem trimL_set {xs : List UInt8} {n : Nat} (h : ¬ n % 2 = 0) (left : Bool) (h0 : 0 < xs.length) : trimL xs n left = xs.set (oddAt left xs.length) (fl xs (oddAt left xs.length) &&& (if left then 240 else 15)) := by
  refine fl_ext (by rw [trimL_len, List.length_set]) fun j hj => ?_
  rw [trimL_len] at hj
  have hlt : oddAt left xs.length < xs.length := by unfold oddAt; split <;> omega
  rw [trimL_fl hj, fl_set hlt]
  cases left with
  | true =>
    rw [msk_L h]
    by_cases hje : j = oddAt true xs.length
    · rw [if_pos hje, if_pos (by subst hje; unfold oddAt; rw [if_pos rfl]; omega), hje]; rfl
    · rw [if_neg hje, if_neg (by unfold oddAt at hje; rw [if_pos rfl] at hje; omega), and255]
  | false =>
    rw [msk_R h]
    by_cases hje : j = oddAt false xs.length
    · rw [if_pos hje, if_pos (by subst hje; rfl), hje]; rfl
    · rw [if_neg hje, if_neg (fun h => hje (by subst h; rfl)), and255]
theorem rowB1 {w : World} {v : Value} {r : List UInt8} (hv : ByS w v r) {K : Option Addr → Nat → Nat → World → Prop} (hr : (Instr.buildSlice T_S_S_uint8 1 #[(0, v)]).run Tryz.prog w = .ok (.slice (some ⟨w.heap.size, 0, none⟩) 1 1) (w.alloc (.cells ([v] : List Value).toArray T_S_uint8)))
    (h : ∀ p w', Fr [] w w' → RowB w' p [r] → w'.heap.size = w.heap.size + 1 → K p 1 1 w') : ∃ p l c w', Ef Tryz.prog (Instr.buildSlice T_S_S_uint8 1 #[(0, v)]) w (.slice p l c) w' ∧ K p l c w' :=
  ⟨_, _, _, Ef.new hr fun w' f hB s => h _ w' f (RowB.of1 hB.rowL (hv.fr0 f)) s⟩
theorem fit1 {n : Int} {r : List UInt8} : fitN n [r] ↔ (2 ≤ n ∧ n ≤ 28 ∧ r.length = hsz n.toNat) := by simp [fitN]
set_option maxHeartbeats 1000000 in
theorem Trim_c {w : World} {p : Option Addr} {l c : Nat} {xs : List UInt8} (hR : Row w p (xs.map vb)) (hl : l = xs.length) (hc : l ≤ c) (hlb : l < 1000000) (n : Int) (left : Bool) {K : Value → World → Prop}
    (hbad : ¬ fitN n [xs] → ∀ w', Fr [] w w' → K (.tuple #[.slice none 0 0, .int .i64 11]) w') (hok : fitN n [xs] → ∀ q d w', Fr [] w w' → OB w' q l d (trimL xs n.toNat left) w.heap.size → K (.tuple #[.slice q l d, .int .i64 0]) w') :
    callF Tryz.prog F_halves_Trim #[.slice p l c, .int .i64 n, .bool left] w K := by
  apply halves_Trim_call
  unfold halves_Trim
  refine rowB1 (byS hR hl hc) (by kernel_rfl) fun p1 w1 f1 hR1 s1 => ?_
  refine fits_c (l := 1) hR1 rfl (by omega) fun w2 f2 => ⟨_, rfl, ?_⟩
  have f02 := f1.then f2
  by_cases hfit : fitN n [xs]
  · rw [decide_eq_true hfit]
    refine cond_f ?_
    obtain ⟨h2, h28, hlen⟩ := fit1.1 hfit
    obtain ⟨m, rfl⟩ := Int.eq_ofNat_of_zero_le (show 0 ≤ n by omega)
    rw [Int.toNat_natCast] at hlen hok
    have h0 : 0 < xs.length := by rw [hlen]; unfold hsz; omega
    refine slices_Clone_c (hR.fr0 f02) (by simpa using hl) (by omega) (cells_vb xs) fun q d w3 f3 hO hnew => ⟨_, _, _, rfl, ?_⟩
    have f03 := f02.then f3
    have n02 := f02.size
    have hOB : OB w3 q l d xs w.heap.size := ⟨hO, hl, fun k hk => by have := hnew k hk; omega⟩
    refine odd_c hOB.row hl (by omega) hlb m left (fun he => ?_) (fun ho a ha hca => ?_)
    · refine ⟨_, _, rfl, _, _, ptrNe (by kernel_rfl), cond_f ?_⟩
      have := hok hfit q d w3 f03 (by rw [trimL_even he]; exact hOB)
      exact this
    · have hne : ¬ m % 2 = 0 := by omega
      refine ⟨_, _, rfl, _, _, ptrNe (by kernel_rfl), cond_t ⟨_, rfl, _, Ld.cell (by kernel_rfl) hca, _, rfl, ?_⟩⟩
      have hlt : oddAt left l < l := by unfold oddAt; split <;> omega
      have e : iandNot .u8 ((fl xs (oddAt left l)).toNat : Int) (if left then 15 else 240) = ((fl xs (oddAt left l) &&& (if left then 240 else 15)).toNat : Int) := by
        cases left with
        | true => exact andNot15 _
        | false => exact andNot240 _
      rw [e]
      refine hOB.stoAt hlt ha fun w4 f4 hO4 s4 => ?_
      refine hok hfit q d w4 (hOB.news f03 f4 (Nat.le_refl _)) ?_
      rw [trimL_set hne left h0, ← hl]
      exact hO4
  · rw [decide_eq_false hfit]
    exact cond_t (hbad hfit w2 f02)
set_option maxHeartbeats 1000000 in
theorem Cut_c {w : World} {p : Option Addr} {l c : Nat} {xs : List UInt8} (hR : Row w p (xs.map vb)) (hl : l = xs.length) (hc : l ≤ c) (hlb : l < 1000000) {K : Value → World → Prop}
    (hbad : ¬ (2 ≤ l ∧ l ≤ 28) → ∀ w', Fr [] w w' → K (.tuple #[.slice none 0 0, .slice none 0 0, .int .i64 11]) w')
    (hok : 2 ≤ l ∧ l ≤ 28 → ∀ q1 d1 q2 d2 w1 w', Fr [] w w1 → Fr [] w1 w' → OB w' q1 (hsz l) d1 (cutL xs).1 w.heap.size → OB w' q2 (hsz l) d2 (cutL xs).2 w1.heap.size → (∀ k ∈ blks q1, k < w1.heap.size) → K (.tuple #[.slice q1 (hsz l) d1, .slice q2 (hsz l) d2, .int .i64 0]) w') :
    callF Tryz.prog F_halves_Cut #[.slice p l c] w K := by
  apply halves_Cut_call
  unfold halves_Cut
  refine fits_c (l := 0) (rs := []) ⟨[], Row.nil _ _, rfl, by simp⟩ rfl (by omega) fun w1 f1 => ⟨_, rfl, ?_⟩
  by_cases hfit : 2 ≤ l ∧ l ≤ 28
  · have e1 : decide (fitN (l : Int) []) = true := by rw [decide_eq_true_iff]; exact ⟨by omega, by omega, by simp⟩
    rw [e1]
    have hs : hsz l ≤ l := by unfold hsz; omega
    refine cond_f (Size_c (by omega) (by omega) ⟨_, rfl, ?_⟩)
    refine ⟨_, _, _, PuSl (s := 1) (kl := .i64) (kh := .i64) (lo := none) (hi := some (hsz l : Int)) (by kernel_rfl) (by show (0 : Int) ≤ 0; omega) (by show (0 : Int) ≤ (hsz l : Int); omega) (by show (hsz l : Int) ≤ (c : Int); omega), ?_⟩
    have e2 : (Option.getD (some (hsz l : Int)) (l : Int)).toNat - (Option.getD (none : Option Int) 0).toNat = hsz l := by show ((hsz l : Int)).toNat - 0 = hsz l; omega
    rw [e2]
    have htk : (xs.take (hsz l)).length = hsz l := by rw [List.length_take]; omega
    have hfit1 : fitN (l : Int) [xs.take (hsz l)] := fit1.2 ⟨by omega, by omega, by rw [htk]; rfl⟩
    refine Trim_c (Row.front (hR.fr0 f1) c (hsz l)) htk.symm (by show hsz l ≤ c - 0; omega) (by omega) (l : Int) true (fun h => absurd hfit1 h) fun _ q1 d1 w2 f2 hO2 => ⟨_, _, _, _, rfl, ?_⟩
    rw [Int.toNat_natCast] at hO2
    refine Size_c (by omega) (by omega) ⟨_, rfl, ?_⟩
    have e3 : IntKind.i64.wrap ((l : Int) - (hsz l : Int)) = ((l - hsz l : Nat) : Int) := by rw [wrap64 (by omega) (by omega)]; omega
    rw [e3]
    refine ⟨_, _, _, PuSl (s := 1) (kl := .i64) (kh := .i64) (lo := some ((l - hsz l : Nat) : Int)) (hi := none) (by kernel_rfl) (by show (0 : Int) ≤ ((l - hsz l : Nat) : Int); omega) (by show ((l - hsz l : Nat) : Int) ≤ (l : Int); omega) (by show (l : Int) ≤ (c : Int); omega), ?_⟩
    have e4 : (Option.getD (some ((l - hsz l : Nat) : Int)) 0).toNat = l - hsz l := Int.toNat_natCast _
    have e5 : (Option.getD (none : Option Int) (l : Int)).toNat = l := Int.toNat_natCast _
    rw [e4, e5]
    have hdl : (xs.drop (l - hsz l)).length = hsz l := by rw [List.length_drop]; omega
    have e6 : l - (l - hsz l) = hsz l := by omega
    rw [e6]
    have hfit2 : fitN (l : Int) [xs.drop (l - hsz l)] := fit1.2 ⟨by omega, by omega, by rw [hdl]; rfl⟩
    have f02 := f1.then f2
    refine Trim_c (Row.partB (hR.fr0 f02) (by omega)) hdl.symm (by omega) (by omega) (l : Int) false (fun h => absurd hfit2 h) fun _ q2 d2 w3 f3 hO3 => ⟨_, _, _, _, rfl, ?_⟩
    rw [Int.toNat_natCast] at hO3
    have n1 := f1.size
    have ec : cutL xs = (trimL (xs.take (hsz l)) l true, trimL (xs.drop (l - hsz l)) l false) := by unfold cutL; rw [← hl]
    rw [ec] at hok
    exact hok hfit q1 d1 q2 d2 w2 w3 f02 f3 ((hO2.fr0 f3).mono n1) hO3 hO2.lt
  · have e1 : decide (fitN (l : Int) []) = false := by rw [decide_eq_false_iff_not]; rintro ⟨ha, hb, _⟩; omega
    rw [e1]
    exact cond_t (hbad hfit w1 f1)
end Go.Sh
end

section
namespace Go.Sh
open Go Go.Fw Go.Proofs
set_option maxRecDepth 100000
set_option linter.unusedVariables false
theorem u8wrap (n : Nat) : IntKind.u8.wrap (n : Int) = ((UInt8.ofNat n).toNat : Int) := by rw [IntKind.wrap_u8]; simp
def okB (xs : List UInt8) (n pass : Int) : Prop := fitN n [xs] ∧ 0 ≤ pass ∧ pass ≤ 255
theorem Block_c {w : World} {p : Option Addr} {l c : Nat} {xs : List UInt8} (hR : Row w p (xs.map vb)) (hl : l = xs.length) (hc : l ≤ c) (hlb : l < 1000000) (n pass : Int) {K : Value → World → Prop}
    (hbad : ¬ okB xs n pass → ∀ w', Fr [] w w' → K (.tuple #[.slice none 0 0, .int .i64 11]) w') (hok : okB xs n pass → ∀ q d w', Fr [] w w' → OB w' q 16 d (blockL xs n.toNat pass.toNat) w.heap.size → K (.tuple #[.slice q 16 d, .int .i64 0]) w') :
    callF Tryz.prog F_halves_Block #[.slice p l c, .int .i64 n, .int .i64 pass] w K := by
  apply halves_Block_call
  unfold halves_Block
  refine rowB1 (byS hR hl hc) (by kernel_rfl) fun p1 w1 f1 hR1 s1 => ?_
  refine fits_c (l := 1) hR1 rfl (by omega) fun w2 f2 => ⟨_, rfl, ?_⟩
  have f02 := f1.then f2
  by_cases hfit : fitN n [xs]
  · rw [decide_eq_true hfit]
    refine cond_f (cond_d (fun h1 => hbad (fun h => by have := h.2; omega) w2 f02) fun h1 => cond_d (fun h2 => hbad (fun h => by have := h.2; omega) w2 f02) fun h2 => ?_)
    unfold halves_Block_j1
    obtain ⟨h2', h28, hlen⟩ := fit1.1 hfit
    obtain ⟨m, rfl⟩ := Int.eq_ofNat_of_zero_le (show 0 ≤ n by omega)
    obtain ⟨ps, rfl⟩ := Int.eq_ofNat_of_zero_le (show 0 ≤ pass by omega)
    rw [Int.toNat_natCast] at hlen
    have h14 : l ≤ 14 := by rw [hl, hlen]; unfold hsz; omega
    have e1 : IntKind.i64.wrap (14 - (l : Int)) = ((14 - l : Nat) : Int) := by rw [wrap64 (by omega) (by omega)]; omega
    rw [e1, u8wrap, u8wrap]
    refine mkN (n := 14 - l) (c := 14 - l) (k := .i64) (k' := .i64) (Nat.le_refl _) (by omega) fun pz w3 f3 hZ s3 => ?_
    refine mkL (xs := [UInt8.ofNat m, UInt8.ofNat ps]) rfl rfl (by kernel_rfl) fun pn w4 f4 hN s4 => ?_
    have f24 := f3.then f4
    refine ⟨_, _, _, Ef.new (v := .slice (some ⟨w4.heap.size, 0, none⟩) 3 3) (cs := ([.slice p l c, .slice pz (14 - l) (14 - l), .slice pn 2 2] : List Value).toArray) (e := T_S_uint8) (by kernel_rfl) fun w5 f5 hB5 s5 => ?_⟩
    have f05 := (f02.then f24).then f5
    have hR5 := RowB.of3 hB5.rowL (byS (hR.fr0 f05) hl hc) ((hZ.fr0 (f4.then f5)).byS) ((hN.fr0 f5).byS)
    have efl : [xs, List.replicate (14 - l) 0, [UInt8.ofNat m, UInt8.ofNat ps]].flatten = blockL xs m ps := by unfold blockL; rw [hl]; simp
    have hbl : (blockL xs m ps).length = 16 := blockL_len _ _ (by omega)
    refine Join_c (l := 3) hR5 rfl (by rw [efl, hbl]; omega) (by omega) fun q d w6 f6 hO6 => ⟨_, _, _, rfl, ?_⟩
    rw [efl, hbl] at hO6
    rw [efl, hbl]
    have n05 := f05.size
    exact hok ⟨hfit, by omega, by omega⟩ q d w6 (f05.then f6) (hO6.mono n05)
  · rw [decide_eq_false hfit]
    exact cond_t (hbad (fun h => hfit h.1) w2 f02)
def okJ (ls rs : List UInt8) (n : Nat) : Prop := n % 2 = 0 ∨ (fl ls (ls.length - 1) &&& 15 = 0 ∧ fl rs 0 &&& 240 = 0)
theorem fit2 {n : Int} {a b : List UInt8} : fitN n [a, b] ↔ (2 ≤ n ∧ n ≤ 28 ∧ a.length = hsz n.toNat ∧ b.length = hsz n.toNat) := by simp [fitN]
set_option maxHeartbeats 2000000 in
theorem halvesJoin_c {w : World} {p q : Option Addr} {l c m d : Nat} {ls rs : List UInt8} (hL : Row w p (ls.map vb)) (hl : l = ls.length) (hc : l ≤ c) (hlb : l < 1000000) (hR : Row w q (rs.map vb)) (hm : m = rs.length) (hd : m ≤ d) (hmb : m < 1000000) (n : Int) {K : Value → World → Prop}
    (hbad : ¬ fitN n [ls, rs] → ∀ w', Fr [] w w' → K (.tuple #[.slice none 0 0, .int .i64 11]) w') (hform : fitN n [ls, rs] → ¬ okJ ls rs n.toNat → ∀ w', Fr [] w w' → K (.tuple #[.slice none 0 0, .int .i64 10]) w')
    (hok : fitN n [ls, rs] → okJ ls rs n.toNat → ∀ po co w', Fr [] w w' → OB w' po n.toNat co (joinL ls rs n.toNat) w.heap.size → K (.tuple #[.slice po n.toNat co, .int .i64 0]) w') :
    callF Tryz.prog F_halves_Join #[.slice p l c, .slice q m d, .int .i64 n] w K := by
  apply halves_Join_call
  unfold halves_Join
  refine ⟨_, _, _, Ef.new (v := .slice (some ⟨w.heap.size, 0, none⟩) 2 2) (cs := ([.slice p l c, .slice q m d] : List Value).toArray) (e := T_S_uint8) (by kernel_rfl) fun w1 f1 hB1 s1 => ?_⟩
  refine fits_c (l := 2) (RowB.of2 hB1.rowL (byS (hL.fr0 f1) hl hc) (byS (hR.fr0 f1) hm hd)) rfl (by omega) fun w2 f2 => ⟨_, rfl, ?_⟩
  have f02 := f1.then f2
  by_cases hfit : fitN n [ls, rs]
  · rw [decide_eq_true hfit]
    refine cond_f ?_
    obtain ⟨h2, h28, hll, hrl⟩ := fit2.1 hfit
    obtain ⟨N, rfl⟩ := Int.eq_ofNat_of_zero_le (show 0 ≤ n by omega)
    rw [Int.toNat_natCast] at hll hrl hform hok
    have hs0 : 0 < hsz N := by unfold hsz; omega
    obtain ⟨w3, e3, f3, hM3, s3⟩ := Ef.makeMap (P := Tryz.prog) (t := T_M_bool_S_uint8) (w := w2)
    refine ⟨_, _, e3, ?_⟩
    obtain ⟨w4, e4, f4, hM4, s4⟩ := EfU.mapPutB (P := Tryz.prog) (t := T_M_bool_S_uint8) (by kernel_rfl) hM3 (x := true) (v := .slice p l c) rfl
    refine ⟨_, e4, ?_⟩
    obtain ⟨w5, e5, f5, hM5, s5⟩ := EfU.mapPutB (P := Tryz.prog) (t := T_M_bool_S_uint8) (by kernel_rfl) hM4 (x := false) (v := .slice q m d) rfl
    refine ⟨_, e5, ?_⟩
    obtain ⟨w6, e6, f6, hI6, s6⟩ := Ef.range (P := Tryz.prog) (t := T_M_bool_S_uint8) (by kernel_rfl) hM5
    refine ⟨_, _, e6, ?_⟩
    have n2 := f02.size
    have f06 : Fr [] w w6 := (((f02.then f3).trans f4 (fun z hz => .inr (by simp at hz; omega))).trans f5 (fun z hz => .inr (by simp at hz; omega))).then f6
    have hM6 := hM5.fr f6 (by simp)
    obtain ⟨es, hes⟩ : ∃ es : Array MapEntry, es = (#[{ key := .bool true, val := .slice p l c, born := 0 }, { key := .bool false, val := .slice q m d, born := 1 }] : Array MapEntry) := ⟨_, rfl⟩
    have hM6 : MapAt w6 w2.heap.size es 2 := by rw [hes]; exact hM6
    have hmem : ∀ x ∈ es.toList, x = { key := .bool true, val := .slice p l c, born := 0 } ∨ x = { key := .bool false, val := .slice q m d, born := 1 } := by rw [hes]; simp
    have hnd : (es.toList.map (·.born)).Nodup := by rw [hes]; simp
    have hold : ∀ x ∈ es.toList, x.born < 2 := fun x hx => by rcases hmem x hx with rfl | rfl; exact Nat.zero_lt_two; exact Nat.one_lt_two
    have h0m : ({ key := .bool true, val := .slice p l c, born := 0 } : MapEntry) ∈ es.toList := by rw [hes]; simp
    have h1m : ({ key := .bool false, val := .slice q m d, born := 1 } : MapEntry) ∈ es.toList := by rw [hes]; simp
    refine LoopS.ind (fun k us w' => ∃ seen : Array Nat, us = [.slice p l c, .slice q m d, .int .i64 (N : Int), .slice none 0 0, .int .i64 0, .pointer (some ⟨w5.heap.size, 0, none⟩)] ∧ Fr [] w w' ∧ ItAt w' w5.heap.size w2.heap.size 2 seen 2 ∧ MapAt w' w2.heap.size es 2 ∧
        (if seen.contains 0 then 0 else 1) + (if seen.contains 1 then 0 else 1) = k ∧ (seen.contains 0 = true → N % 2 = 0 ∨ fl ls (ls.length - 1) &&& 15 = 0) ∧ (seen.contains 1 = true → N % 2 = 0 ∨ fl rs 0 &&& 240 = 0)) 2
      ⟨#[], rfl, f06, hI6, hM6, by simp, by simp, by simp⟩ ?_
    rintro k us rr w7 I μ hgo ⟨seen, rfl, f7, hI7, hM7, hk, hq0, hq1⟩
    refine ⟨_, _, _, _, _, _, _, _, _, _, _, _, rfl, ?_⟩
    rcases Ef.next (P := Tryz.prog) (ty := T_R_) hI7 hM7 hold (Nat.le_refl _) with ⟨hall, hne⟩ | ⟨e, he, hse, w8, hne, f8, hI8, s8⟩
    · refine ⟨false, [], w7, hne, cond_f ?_⟩
      have hokJ : okJ ls rs N := by
        have a0 := hq0 (hall _ h0m)
        have a1 := hq1 (hall _ h1m)
        unfold okJ
        rcases a0 with h | h
        · exact .inl h
        · rcases a1 with h' | h'
          · exact .inl h'
          · exact .inr ⟨h, h'⟩
      unfold halves_Join_j1
      have em : Int.tmod (N : Int) 2 = ((N % 2 : Nat) : Int) := rfl
      rw [em]
      have hjl := joinL_len hll hrl (by omega)
      refine cond_eq (fun hev => ?_) (fun hod => ?_)
      · have hev : N % 2 = 0 := by omega
        refine ⟨_, _, _, Ef.new (v := .slice (some ⟨w7.heap.size, 0, none⟩) 2 2) (cs := ([.slice p l c, .slice q m d] : List Value).toArray) (e := T_S_uint8) (by kernel_rfl) fun w8 f8 hB8 s8 => ?_⟩
        have f08 := f7.then f8
        have efl : [ls, rs].flatten = joinL ls rs N := by unfold joinL; rw [if_pos hev]; simp
        refine Join_c (l := 2) (RowB.of2 hB8.rowL (byS (hL.fr0 f08) hl hc) (byS (hR.fr0 f08) hm hd)) rfl (by rw [efl, hjl]; omega) (by omega) fun po co w9 f9 hO9 => ⟨_, _, _, rfl, ?_⟩
        rw [efl, hjl] at hO9
        rw [efl, hjl]
        exact hok hfit hokJ po co w9 (f08.then f9) (hO9.mono f08.size)
      · have hod : ¬ N % 2 = 0 := by omega
        refine ⟨_, _, _, PuSl (s := 1) (kl := .i64) (kh := .i64) (lo := some 1) (hi := none) (by kernel_rfl) (by show (0 : Int) ≤ 1; omega) (by show (1 : Int) ≤ (m : Int); omega) (by show (m : Int) ≤ (d : Int); omega), ?_⟩
        have e4 : (Option.getD (some (1 : Int)) 0).toNat = 1 := rfl
        have e5 : (Option.getD (none : Option Int) (m : Int)).toNat = m := Int.toNat_natCast _
        rw [e4, e5]
        refine ⟨_, _, _, Ef.new (v := .slice (some ⟨w7.heap.size, 0, none⟩) 2 2) (cs := ([.slice p l c, .slice (Go.Fw.partAt q d 1 1) (m - 1) (d - 1)] : List Value).toArray) (e := T_S_uint8) (by kernel_rfl) fun w8 f8 hB8 s8 => ?_⟩
        have f08 := f7.then f8
        have hs2 : hsz N = N / 2 + 1 := by unfold hsz; omega
        have efl : [ls, rs.drop 1].flatten = ls ++ rs.drop 1 := by simp
        have efn : (ls ++ rs.drop 1).length = N := by rw [List.length_append, List.length_drop]; omega
        refine Join_c (l := 2) (RowB.of2 hB8.rowL (byS (hL.fr0 f08) hl hc) (byS (Row.partB (hR.fr0 f08) (by omega)) (by rw [List.length_drop]; omega) (by omega))) rfl (by rw [efl, efn]; omega) (by omega) fun po co w9 f9 hO9 => ⟨_, _, _, rfl, ?_⟩
        rw [efl, efn] at hO9
        rw [efl, efn]
        have f09 := f08.then f9
        have e6 : IntKind.i64.wrap ((l : Int) - 1) = ((l - 1 : Nat) : Int) := by rw [wrap64 (by omega) (by omega)]; omega
        rw [e6]
        obtain ⟨a, ha, hca⟩ := hO9.get (k := .i64) (i := l - 1) (by omega)
        obtain ⟨b, hb, hcb⟩ := row_get (t := T_S_uint8) (by kernel_rfl) (hR.fr0 f09) (c := d) hm (i := 0) (by omega) (k := .i64)
        refine ⟨fun w' => w'.cell? a = some (vb (fl (ls ++ rs.drop 1) (l - 1))), Drw.intro fun w10 f10 s10 => ?_⟩
        refine ⟨a, ha, b, hb, _, ⟨f10.cell hca (by simp), fun w' hw' => Ld.cell (by kernel_rfl) hw'⟩, _, Ld.cell (by kernel_rfl) (f10.cell hcb (by simp)), .inl rfl, ?_⟩
        rw [or8]
        refine (hO9.fr0 f10).sto (by omega) fun w11 f11 hO11 s11 => ?_
        have ej : (ls ++ rs.drop 1).set (l - 1) (fl (ls ++ rs.drop 1) (l - 1) ||| rs.getD 0 0) = joinL ls rs N := by
          unfold joinL
          rw [if_neg hod, ← hl, fl_append, if_pos (by omega)]
          rfl
        rw [ej] at hO11
        have n08 := f08.size
        exact hok hfit hokJ po co w11 (((hO9.mono n08).fr0 f10).news (f09.then f10) f11 (Nat.le_refl _)) (hO11.mono n08)
    · refine ⟨true, [e.key, e.val], w8, hne, cond_t ⟨e.key, e.val, w8, Ef.entry hI8 (hM7.fr f8 (by simp; omega)) he hnd, ?_⟩⟩
      have f08 : Fr [] w w8 := f7.trans f8 (fun z hz => .inr (by simp at hz; omega))
      have hM8 := hM7.fr f8 (by simp; omega)
      have push : ∀ s t : Nat, (seen.push s).contains t = (seen.contains t || (t == s)) := by intro s t; rw [Bool.eq_iff_iff]; simp
      rcases hmem e he with rfl | rfl
      · -- the left half
        have hs0' : seen.contains 0 = false := hse
        have goon : (N % 2 = 0 ∨ fl ls (ls.length - 1) &&& 15 = 0) → goesOn [] [] I μ [.slice p l c, .slice q m d, .int .i64 (N : Int), .slice none 0 0, .int .i64 0, .pointer (some ⟨w5.heap.size, 0, none⟩)] [.slice p l c, .slice q m d, .int .i64 (N : Int), .slice none 0 0, .int .i64 0, .pointer (some ⟨w5.heap.size, 0, none⟩)] w7 w8 := by
          intro hyes
          rw [hs0'] at hk
          refine hgo _ _ _ (if seen.contains 1 then 0 else 1) (by rw [← hk]; simp) ⟨_, rfl, f08, hI8, hM8, ?_, fun _ => hyes, fun h1 => hq1 ?_⟩
          · rw [push, push]; simp
          · rw [push] at h1; simpa using h1
        show callF Tryz.prog F_halves_odd #[.slice p l c, .int .i64 (N : Int), .bool true] w8 _
        refine odd_c (hL.fr0 f08) hl (by omega) hlb N true (fun hev => ?_) (fun hod a ha hca => ?_)
        · exact ⟨_, _, rfl, _, _, ptrNe (by kernel_rfl), cond_f (goon (.inl hev))⟩
        · refine ⟨_, _, rfl, _, _, ptrNe (by kernel_rfl), cond_t ⟨_, rfl, _, Ld.cell (by kernel_rfl) hca, ?_⟩⟩
          have e1 : iand .u8 ((fl ls (oddAt true l)).toNat : Int) (if true = true then 15 else 240) = ((fl ls (oddAt true l) &&& 15).toNat : Int) := and8 _ 15
          rw [e1]
          have e2 : oddAt true l = ls.length - 1 := by rw [← hl]; rfl
          rw [e2]
          refine cond_intro (fun hne => ?_) (fun heq => goon (.inr ?_))
          · refine hform hfit (fun hJ => ?_) w8 f08
            rcases hJ with h | ⟨h, _⟩
            · omega
            · rw [h] at hne; cases hne
          · rw [bne, bz] at heq
            simpa using heq
      · have hs1' : seen.contains 1 = false := hse
        have goon : (N % 2 = 0 ∨ fl rs 0 &&& 240 = 0) → goesOn [] [] I μ [.slice p l c, .slice q m d, .int .i64 (N : Int), .slice none 0 0, .int .i64 0, .pointer (some ⟨w5.heap.size, 0, none⟩)] [.slice p l c, .slice q m d, .int .i64 (N : Int), .slice none 0 0, .int .i64 0, .pointer (some ⟨w5.heap.size, 0, none⟩)] w7 w8 := by
          intro hyes
          rw [hs1'] at hk
          refine hgo _ _ _ (if seen.contains 0 then 0 else 1) (by rw [← hk]; simp) ⟨_, rfl, f08, hI8, hM8, ?_, fun h0 => hq0 ?_, fun _ => hyes⟩
          · rw [push, push]; simp
          · rw [push] at h0; simpa using h0
        show callF Tryz.prog F_halves_odd #[.slice q m d, .int .i64 (N : Int), .bool false] w8 _
        refine odd_c (hR.fr0 f08) hm (by omega) hmb N false (fun hev => ?_) (fun hod a ha hca => ?_)
        · exact ⟨_, _, rfl, _, _, ptrNe (by kernel_rfl), cond_f (goon (.inl hev))⟩
        · refine ⟨_, _, rfl, _, _, ptrNe (by kernel_rfl), cond_t ⟨_, rfl, _, Ld.cell (by kernel_rfl) hca, ?_⟩⟩
          have e1 : iand .u8 ((fl rs (oddAt false m)).toNat : Int) (if false = true then 15 else 240) = ((fl rs (oddAt false m) &&& 240).toNat : Int) := and8 _ 240
          rw [e1]
          have e2 : oddAt false m = 0 := rfl
          rw [e2]
          refine cond_intro (fun hne => ?_) (fun heq => goon (.inr ?_))
          · refine hform hfit (fun hJ => ?_) w8 f08
            rcases hJ with h | ⟨_, h⟩
            · omega
            · rw [h] at hne; cases hne
          · rw [bne, bz] at heq
            simpa using heq
  · rw [decide_eq_false hfit]
    exact cond_t (hbad hfit w2 f02)
end Go.Sh
end

section
namespace Go.Sh
open Go Go.Fw Go.Proofs
set_option maxRecDepth 100000
set_option linter.unusedVariables false
section
variable {c lo hi : Nat} {key : List UInt8} {d : Int}
def okO (fr to_ : List UInt8) (n pass : Int) : Prop := okB fr n pass ∧ to_.length = fr.length
set_option maxHeartbeats 1000000 in
theorem onto_c {w : World} (hC : Cip w c key d lo hi) (hd0 : 0 ≤ d) (hd : d < 1000000000) (hhi : hi ≤ w.heap.size) {q1 q2 p2 p3 : Option Addr} {a1 b1 a2 b2 l2 c2 l3 c3 : Nat} {fr to_ : List UInt8} (hF : Row w p2 (fr.map vb)) (hl2 : l2 = fr.length) (hc2 : l2 ≤ c2) (hlb : l2 < 1000000)
    (hT : Row w p3 (to_.map vb)) (hl3 : l3 = to_.length) (hp3 : ∀ z ∈ blks p3, hi ≤ z) (n pass : Int) (left : Bool) {K : Value → World → Prop}
    (hbad : ¬ okO fr to_ n pass → ∀ w', Fr [] w w' → K (.tuple #[.slice none 0 0, .int .i64 11]) w')
    (hok : okO fr to_ n pass → ∀ q e w', Fr [c] w w' → Cip w' c key (d + 1) lo hi → OB w' q l3 e (ontoL key fr to_ n.toNat pass.toNat left) w.heap.size → K (.tuple #[.slice q l3 e, .int .i64 0]) w') :
    callF Tryz.prog F_feist_pair_onto #[.agg #[.slice q1 a1 b1, .slice q2 a2 b2, .int .i64 n], .pointer (some ⟨c, 0, none⟩), .slice p2 l2 c2, .slice p3 l3 c3, .int .i64 pass, .bool left] w K := by
  apply feist_pair_onto_call
  unfold feist_pair_onto
  refine New.intro fun w1 f1 hB s1 => ?_
  obtain ⟨f, hB, h2⟩ : ∃ f, Blk w1 w.heap.size 3 f ∧ f 2 = .int .i64 n := ⟨_, hB, rfl⟩
  have e2 : (⟨w.heap.size, 0, none⟩ : Addr).add 2 = ⟨w.heap.size, 2, none⟩ := add_mk _ _ _
  rw [e2]
  refine ⟨_, Ld.blk (by kernel_rfl) hB (by omega) h2, ?_⟩
  have hcl := hC.lt
  refine Block_c (hF.fr0 f1) hl2 hc2 hlb n pass (fun hb w2 f2 => ⟨_, _, _, _, rfl, cond_t (hbad (fun h => hb h.1) w2 (f1.then f2))⟩) fun hb q e w2 f2 hO2 => ⟨_, _, _, _, rfl, cond_f ?_⟩
  have f02 := f1.then f2
  refine cond_ne (fun hne => hbad (fun h => by have := h.2; omega) w2 f02) fun heq => ?_
  have hlen : to_.length = fr.length := by omega
  have hoko : okO fr to_ n pass := ⟨hb, hlen⟩
  obtain ⟨hfit, hp0, hp1⟩ := hb
  obtain ⟨hn2, hn28, hfl⟩ := fit1.1 hfit
  have h14 : hsz n.toNat ≤ 14 := hsz_le (by omega)
  unfold feist_pair_onto_j1
  have hC2 := hC.fr0 f02
  have n1 := f1.size; have n2 := f2.size
  refine encCip_c hC2 hd0 (by omega) hO2.row (by rw [blockL_len _ _ (by omega)]) (blockL_len _ _ (by omega)) (fun z hz => .inr (by have := hO2.2.2 z hz; omega)) fun pa w3 f3 hC3 ha => ⟨_, _, _, _, rfl, ?_⟩
  refine ⟨_, _, _, PuSl (s := 1) (kl := .i64) (kh := .i64) (lo := none) (hi := some (l3 : Int)) (by kernel_rfl) (by show (0 : Int) ≤ 0; omega) (by show (0 : Int) ≤ (l3 : Int); omega) (by show (l3 : Int) ≤ ((16 : Nat) : Int); omega), ?_⟩
  have e3 : (Option.getD (some (l3 : Int)) ((16 : Nat) : Int)).toNat - (Option.getD (none : Option Int) 0).toNat = l3 := by show ((l3 : Int)).toNat - 0 = l3; omega
  rw [e3]
  have hT2 := hT.fr0 f02
  have hT3 : Row w3 p3 (to_.map vb) := Row.cells_fr hT2 f3 (fun z hz => by have := hp3 z hz; simp; omega)
  have htk : ((aencL key (blockL fr n.toNat pass.toNat)).take l3).length = l3 := by rw [hl3]; exact take_len (by omega)
  refine Xor_c (Row.front ha.row 16 l3) htk.symm hT3 hl3 (by rw [htk, hl3]) (by omega) fun pb cb w4 f4 hb4 => ⟨_, _, _, _, rfl, ?_⟩
  have hB4 := ((hB.fr0 f2).fr f3 (by simp; omega)).fr0 f4
  rw [e2]
  refine ⟨_, Ld.blk (by kernel_rfl) hB4 (by omega) h2, ?_⟩
  have hxl : (xorL ((aencL key (blockL fr n.toNat pass.toNat)).take l3) to_).length = l3 := hb4.2.1.symm
  have hfit2 : fitN n [xorL ((aencL key (blockL fr n.toNat pass.toNat)).take l3) to_] := fit1.2 ⟨hn2, hn28, by rw [hxl]; omega⟩
  refine Trim_c hb4.row hb4.2.1 hb4.cap (by omega) n left (fun h => absurd hfit2 h) fun _ qt dt w5 f5 hO5 => ⟨_, _, _, _, rfl, ?_⟩
  have n3 := f3.size; have n4 := f4.size
  have fA : Fr [c] w w5 := ((f02.after f3).then f4).then f5
  refine hok hoko qt dt w5 fA ((hC3.fr0 f4).fr0 f5) ?_
  have := hO5.mono (lo' := w.heap.size) (by omega)
  rw [hl3] at this ⊢
  exact this
def PairAt (w : World) (pb nb : Nat) (n : Int) (s : List UInt8 × List UInt8) : Prop :=
  ∃ f q1 d1 q2 d2, Blk w pb 3 f ∧ f 0 = .slice q1 s.1.length d1 ∧ f 1 = .slice q2 s.2.length d2 ∧ f 2 = .int .i64 n ∧ Row w q1 (s.1.map vb) ∧ s.1.length ≤ d1 ∧ Row w q2 (s.2.map vb) ∧ s.2.length ≤ d2 ∧ (∀ z ∈ blks q1, nb ≤ z ∧ z ≠ pb) ∧ ∀ z ∈ blks q2, nb ≤ z ∧ z ≠ pb
def okP (s : List UInt8 × List UInt8) (n pass : Int) : Prop := if Int.tmod pass 2 = 0 then okO s.2 s.1 n pass else okO s.1 s.2 n pass
set_option maxHeartbeats 1000000 in
theorem pass_c {w : World} (hC : Cip w c key d lo hi) (hd0 : 0 ≤ d) (hd : d < 1000000000) (hhi : hi ≤ w.heap.size) {pb nb : Nat} (hnb : hi ≤ nb) (hpb : hi ≤ pb) {n : Int} {s : List UInt8 × List UInt8} (hP : PairAt w pb nb n s) (hs1 : s.1.length < 1000000) (hs2 : s.2.length < 1000000) (hnw : nb ≤ w.heap.size) (pass : Int) {K : Value → World → Prop}
    (hbad : ¬ okP s n pass → ∀ w', Fr [pb] w w' → K (.int .i64 11) w')
    (hok : okP s n pass → ∀ w', Fr [c, pb] w w' → Cip w' c key (d + 1) lo hi → PairAt w' pb nb n (passL key n.toNat pass.toNat s) → K (.int .i64 0) w') :
    callF Tryz.prog F_feist_pair_pass #[.pointer (some ⟨pb, 0, none⟩), .pointer (some ⟨c, 0, none⟩), .int .i64 pass] w K := by
  apply feist_pair_pass_call
  unfold feist_pair_pass
  obtain ⟨f, q1, d1, q2, d2, hB, g0, g1, g2, hR1, hc1, hR2, hc2, hb1, hb2⟩ := hP
  have hcl := hC.lt
  have hpbw := hB.lt
  have a0 : (⟨pb, 0, none⟩ : Addr).add 0 = ⟨pb, 0, none⟩ := rfl
  have a1 : (⟨pb, 0, none⟩ : Addr).add 1 = ⟨pb, 1, none⟩ := add_mk _ _ _
  have ldP : ∀ {w'}, Fr [] w w' → Ld Tryz.prog T_feist_pair (.pointer (some ⟨pb, 0, none⟩)) w' (.agg #[.slice q1 s.1.length d1, .slice q2 s.2.length d2, .int .i64 n]) := fun {w'} hf =>
    LdA (m := 3) (by kernel_rfl) (by kernel_rfl) (hB.fr0 hf) (Nat.le_refl 3) [.slice q1 s.1.length d1, .slice q2 s.2.length d2, .int .i64 n] rfl (fun j v hj => by
      match j, hj with
      | 0, hj => rw [Nat.zero_add, g0]; simpa using hj
      | 1, hj => show f (0 + 1) = v; rw [Nat.zero_add, g1]; simpa using hj
      | 2, hj => show f (0 + 2) = v; rw [Nat.zero_add, g2]; simpa using hj)
  have okpass : okP s n pass → 0 ≤ pass := fun h => by unfold okP okO okB at h; split at h <;> omega
  refine cond_eq (fun hev => ?_) (fun hod => ?_)
  · have okE : okP s n pass ↔ okO s.2 s.1 n pass := by unfold okP; rw [if_pos hev]
    refine ⟨fun w' => Fr [] w w', Drw.intro fun w1 f1 s1 => ?_⟩
    refine ⟨_, rfl, _, rfl, _, rfl, _, _, _, _, _, _, _, ⟨f1, fun w' hw' => ldP hw'⟩, _, _, _, ⟨f1, fun w' hw' => by rw [a1]; exact Ld.blk (by kernel_rfl) (hB.fr0 hw') (by omega) g1⟩, _, _, _, by rw [a0]; exact Ld.blk (by kernel_rfl) (hB.fr0 f1) (by omega) g0, .inl rfl, ?_⟩
    have hB1 := hB.fr0 f1
    have n1 := f1.size
    refine onto_c (hC.fr0 f1) hd0 hd (by omega) (hR2.fr0 f1) rfl hc2 hs2 (hR1.fr0 f1) rfl (fun z hz => by have := hb1 z hz; omega) n pass true (fun hb w2 f2 => ⟨_, _, _, _, rfl, _, rfl, ?_⟩) fun hO q e w2 f2 hC2 hq => ⟨_, _, _, _, rfl, _, rfl, ?_⟩
    · rw [a0]
      refine Sto.blk (by kernel_rfl) (hB1.fr0 f2) (by omega) rfl rfl fun w3 f3 hB3 s3 => ?_
      exact hbad (fun h => hb (okE.1 h)) w3 ((f1.then f2).after f3)
    · rw [a0]
      refine Sto.blk (by kernel_rfl) (hB1.fr f2 (by simp; omega)) (by omega) rfl rfl fun w3 f3 hB3 s3 => ?_
      have fA : Fr [c, pb] w w3 := ((f1.mono (by simp)).trans f2 (fun z hz => .inl (by simp at hz; simp [hz]))).trans f3 (fun z hz => .inl (by simp at hz; simp [hz]))
      have hlen : (ontoL key s.2 s.1 n.toNat pass.toNat true).length = s.1.length := hq.2.1.symm
      have hpe : pass.toNat % 2 = 0 := by
        have := okpass (okE.2 hO)
        obtain ⟨p, rfl⟩ := Int.eq_ofNat_of_zero_le this
        have e : Int.tmod (p : Int) 2 = ((p % 2 : Nat) : Int) := rfl
        rw [e] at hev
        rw [Int.toNat_natCast]; omega
      have hqn : ∀ z ∈ blks q, z ≠ pb := fun z hz => by have := hq.2.2 z hz; omega
      refine hok (okE.2 hO) w3 fA (hC2.fr f3 (fun z hz => .inr (by simp at hz; omega))) ?_
      have ep : passL key n.toNat pass.toNat s = (ontoL key s.2 s.1 n.toNat pass.toNat true, s.2) := by unfold passL; rw [if_pos hpe]
      rw [ep]
      refine ⟨_, q, e, q2, d2, hB3, by rw [upd_same, hlen], by rw [upd_ne _ _ _ (by omega)]; exact g1, by rw [upd_ne _ _ _ (by omega)]; exact g2, Row.cells_fr hq.row f3 (fun z hz => by simp; exact hqn z hz), by rw [hlen]; exact hq.cap,
        Row.cells_fr (Row.cells_fr (hR2.fr0 f1) f2 (fun z hz => by have := hb2 z hz; simp; omega)) f3 (fun z hz => by simp; exact (hb2 z hz).2), hc2, fun z hz => ⟨by have := hq.2.2 z hz; omega, hqn z hz⟩, hb2⟩
  · have okE : okP s n pass ↔ okO s.1 s.2 n pass := by unfold okP; rw [if_neg hod]
    refine ⟨fun w' => Fr [] w w', Drw.intro fun w1 f1 s1 => ?_⟩
    refine ⟨_, rfl, _, rfl, _, rfl, _, _, _, _, _, _, _, ⟨f1, fun w' hw' => ldP hw'⟩, _, _, _, ⟨f1, fun w' hw' => by rw [a0]; exact Ld.blk (by kernel_rfl) (hB.fr0 hw') (by omega) g0⟩, _, _, _, by rw [a1]; exact Ld.blk (by kernel_rfl) (hB.fr0 f1) (by omega) g1, .inl rfl, ?_⟩
    have hB1 := hB.fr0 f1
    have n1 := f1.size
    refine onto_c (hC.fr0 f1) hd0 hd (by omega) (hR1.fr0 f1) rfl hc1 hs1 (hR2.fr0 f1) rfl (fun z hz => by have := hb2 z hz; omega) n pass false (fun hb w2 f2 => ⟨_, _, _, _, rfl, _, rfl, ?_⟩) fun hO q e w2 f2 hC2 hq => ⟨_, _, _, _, rfl, _, rfl, ?_⟩
    · rw [a1]
      refine Sto.blk (by kernel_rfl) (hB1.fr0 f2) (by omega) rfl rfl fun w3 f3 hB3 s3 => ?_
      exact hbad (fun h => hb (okE.1 h)) w3 ((f1.then f2).after f3)
    · rw [a1]
      refine Sto.blk (by kernel_rfl) (hB1.fr f2 (by simp; omega)) (by omega) rfl rfl fun w3 f3 hB3 s3 => ?_
      have fA : Fr [c, pb] w w3 := ((f1.mono (by simp)).trans f2 (fun z hz => .inl (by simp at hz; simp [hz]))).trans f3 (fun z hz => .inl (by simp at hz; simp [hz]))
      have hlen : (ontoL key s.1 s.2 n.toNat pass.toNat false).length = s.2.length := hq.2.1.symm
      have hpe : ¬ pass.toNat % 2 = 0 := by
        have := okpass (okE.2 hO)
        obtain ⟨p, rfl⟩ := Int.eq_ofNat_of_zero_le this
        have e : Int.tmod (p : Int) 2 = ((p % 2 : Nat) : Int) := rfl
        rw [e] at hod
        rw [Int.toNat_natCast]; omega
      have hqn : ∀ z ∈ blks q, z ≠ pb := fun z hz => by have := hq.2.2 z hz; omega
      refine hok (okE.2 hO) w3 fA (hC2.fr f3 (fun z hz => .inr (by simp at hz; omega))) ?_
      have ep : passL key n.toNat pass.toNat s = (s.1, ontoL key s.1 s.2 n.toNat pass.toNat false) := by unfold passL; rw [if_neg hpe]
      rw [ep]
      refine ⟨_, q1, d1, q, e, hB3, by rw [upd_ne _ _ _ (by omega)]; exact g0, by rw [upd_same, hlen], by rw [upd_ne _ _ _ (by omega)]; exact g2, Row.cells_fr (Row.cells_fr (hR1.fr0 f1) f2 (fun z hz => by have := hb1 z hz; simp; omega)) f3 (fun z hz => by simp; exact (hb1 z hz).2), hc1,
        Row.cells_fr hq.row f3 (fun z hz => by simp; exact hqn z hz), by rw [hlen]; exact hq.cap, hb1, fun z hz => ⟨by have := hq.2.2 z hz; omega, hqn z hz⟩⟩
end
end Go.Sh
end

section
namespace Go.Sh
open Go Go.Fw Go.Proofs
set_option maxRecDepth 100000
set_option linter.unusedVariables false
section
variable {c lo hi : Nat} {key : List UInt8} {d : Int}
theorem okP_good {s : List UInt8 × List UInt8} {n : Nat} (h2 : 2 ≤ n) (h28 : n ≤ 28) (hg : goodP n s) (p : Int) : okP s (n : Int) p ↔ (0 ≤ p ∧ p ≤ 255) := by
  have l1 := hg.1.1
  have l2 := hg.2.1
  have fit : ∀ xs : List UInt8, xs.length = hsz n → fitN (n : Int) [xs] := fun xs hx => fit1.2 ⟨by omega, by omega, by rw [Int.toNat_natCast]; exact hx⟩
  unfold okP okO okB
  split
  · exact ⟨fun h => h.1.2, fun h => ⟨⟨fit _ l2, h⟩, by rw [l1, l2]⟩⟩
  · exact ⟨fun h => h.1.2, fun h => ⟨⟨fit _ l1, h⟩, by rw [l1, l2]⟩⟩
theorem okJ_good {s : List UInt8 × List UInt8} {n : Nat} (h2 : 2 ≤ n) (hg : goodP n s) : okJ s.1 s.2 n := by
  unfold okJ
  by_cases he : n % 2 = 0
  · exact .inl he
  · right
    obtain ⟨⟨l1, g1⟩, l2, g2⟩ := hg
    have hs : 0 < hsz n := by unfold hsz; omega
    have c1 : ∀ x : UInt8, x &&& 240 &&& 15 = 0 := fun x => by
      have := all8 (p := fun x => x &&& 240 &&& 15 == 0) (by kernel_rfl) x
      simpa using this
    have c0 : ∀ x : UInt8, x &&& 15 &&& 240 = 0 := fun x => by
      have := all8 (p := fun x => x &&& 15 &&& 240 == 0) (by kernel_rfl) x
      simpa using this
    constructor
    · have := trimL_fl (xs := s.1) (n := n) (left := true) (j := s.1.length - 1) (by omega)
      rw [g1, msk_L he, if_pos (by omega)] at this
      rw [this, c1]
    · have := trimL_fl (xs := s.2) (n := n) (left := false) (j := 0) (by omega)
      rw [g2, msk_R he, if_pos rfl] at this
      rw [this, c0]
set_option maxHeartbeats 1000000 in
theorem Passes_c {w : World} (hC : Cip w c key d lo hi) (hd0 : 0 ≤ d) (hd : d < 100000000) (hhi : hi ≤ w.heap.size) {p1 p2 : Option Addr} {l1 c1 l2 c2 : Nat} {xs : List UInt8} {ps : List Int} (hX : Row w p1 (xs.map vb)) (hl1 : l1 = xs.length) (hc1 : l1 ≤ c1) (hb1 : l1 < 1000000) (hS : Row w p2 (ps.map vi)) (hl2 : l2 = ps.length) (hb2 : l2 < 1000000) (hp2 : 0 < ps.length → c ∉ blks p2) {K : Value → World → Prop}
    (hbad : ¬ (2 ≤ l1 ∧ l1 ≤ 28 ∧ ∀ p ∈ ps, 0 ≤ p ∧ p ≤ 255) → ∀ d' w', Fr [c] w w' → Cip w' c key d' lo hi → d ≤ d' → d' ≤ d + ps.length → K (.tuple #[.slice none 0 0, .int .i64 11]) w')
    (hok : (2 ≤ l1 ∧ l1 ≤ 28 ∧ ∀ p ∈ ps, 0 ≤ p ∧ p ≤ 255) → ∀ q e w', Fr [c] w w' → Cip w' c key (d + ps.length) lo hi → OB w' q l1 e (passesL key xs (ps.map Int.toNat)) w.heap.size → K (.tuple #[.slice q l1 e, .int .i64 0]) w') :
    callF Tryz.prog F_feist_Passes #[.pointer (some ⟨c, 0, none⟩), .slice p1 l1 c1, .slice p2 l2 c2] w K := by
  apply feist_Passes_call
  unfold feist_Passes
  have hcl := hC.lt
  refine Cut_c hX hl1 hc1 hb1 (fun hb w1 f1 => ⟨_, _, _, _, _, _, _, rfl, cond_t (hbad (fun h => hb ⟨h.1, h.2.1⟩) d w1 (f1.mono (by simp)) (hC.fr0 f1) (by omega) (by omega))⟩) fun hl q1 d1 q2 d2 w0 w1 f0 f1 hO1 hO2 hlt1 => ⟨_, _, _, _, _, _, _, rfl, cond_f ?_⟩
  obtain ⟨h2, h28⟩ := hl
  have hg := cutL_good xs
  rw [← hl1] at hg
  refine newZ (s := 3) (by kernel_rfl) fun w2 g2 f2 hB2 s2 => ?_
  refine Sto.agg (m := 3) (cs := [.slice q1 (hsz l1) d1, .slice q2 (hsz l1) d2, .int .i64 (l1 : Int)]) (by kernel_rfl) rfl hB2 (Nat.le_refl 3) (by simp [Value.oneCell']) fun w3 f3 hB3 s3 => ?_
  have m0 := f0.size; have m1 := f1.size; have m2 := f2.size
  have f01 := f0.then f1
  have f03 : Fr [] w w3 := (f01.then f2).trans f3 (fun z hz => .inr (by simp at hz; omega))
  have k1 : (cutL xs).1.length = hsz l1 := by rw [hl1]; exact cutL_len.1
  have k2 : (cutL xs).2.length = hsz l1 := by rw [hl1]; exact cutL_len.2
  have hq1 : ∀ z ∈ blks q1, w.heap.size ≤ z ∧ z ≠ w1.heap.size := fun z hz => ⟨hO1.2.2 z hz, by have := hO1.lt z hz; omega⟩
  have hq2 : ∀ z ∈ blks q2, w.heap.size ≤ z ∧ z ≠ w1.heap.size := fun z hz => ⟨by have := hO2.2.2 z hz; omega, by have := hO2.lt z hz; omega⟩
  have hP : PairAt w3 w1.heap.size w.heap.size (l1 : Int) (cutL xs) := by
    refine ⟨_, q1, d1, q2, d2, hB3, ?_, ?_, ?_, Row.cells_fr (hO1.row.fr0 f2) f3 (fun z hz => by simp; exact (hq1 z hz).2), by rw [k1]; exact hO1.cap, Row.cells_fr (hO2.row.fr0 f2) f3 (fun z hz => by simp; exact (hq2 z hz).2), by rw [k2]; exact hO2.cap, hq1, hq2⟩
    · rw [k1]; rfl
    · rw [k2]; rfl
    · rfl
  refine LoopS.ind (fun k us w' => ∃ i : Nat, i + k = l2 ∧ us = [.pointer (some ⟨c, 0, none⟩), .slice none 0 0, .int .i64 0, .pointer (some ⟨w1.heap.size, 0, none⟩), .slice p2 l2 c2, .int .i64 (l2 : Int), .int .i64 (i : Int)] ∧ Fr [c] w w' ∧ w3.heap.size ≤ w'.heap.size ∧ Cip w' c key (d + i) lo hi ∧
      PairAt w' w1.heap.size w.heap.size (l1 : Int) (runL key l1 ((ps.take i).map Int.toNat) (cutL xs)) ∧ ∀ j, j < i → 0 ≤ ps.getD j 0 ∧ ps.getD j 0 ≤ 255) l2
    ⟨0, by omega, rfl, f03.mono (by simp), Nat.le_refl _, by simpa using hC.fr0 f03, by simpa [runL] using hP, by omega⟩ ?_
  rintro k us rr w4 I μ hgo ⟨i, hi', rfl, f4, k4, hC4, hP4, hps⟩
  have hgi : goodP l1 (runL key l1 ((ps.take i).map Int.toNat) (cutL xs)) := runL_good h28 _ hg
  refine ⟨_, _, _, _, _, _, _, _, _, _, _, rfl, cond_d (fun h3 => ?_) (fun h3 => ?_)⟩
  · have hil : i < l2 := by omega
    have hS4 : Row w4 p2 (ps.map vi) := by
      refine Row.cells_fr hS f4 (fun z hz => ?_)
      simp only [List.mem_singleton]
      rintro rfl
      exact hp2 (by omega) hz
    obtain ⟨a, ha, hca⟩ := ixR (P := Tryz.prog) (t := T_S_int) (by kernel_rfl) hS4 (cap := c2) (k := .i64) (i := (i : Int)) (len := l2) (by simpa using hl2) (by omega) (by omega) (v := vi (ps.getD i 0)) (by
      rw [Int.toNat_natCast, List.getElem?_map, List.getElem?_eq_getElem (by omega), List.getD_eq_getElem?_getD, List.getElem?_eq_getElem (by omega)]; rfl)
    refine ⟨a, ha, _, Ld.cell (by kernel_rfl) hca, ?_⟩
    have l1' := hgi.1.1
    have l2' := hgi.2.1
    have hsl := hsz_le h28
    have hin : ps.getD i 0 ∈ ps := by rw [List.getD_eq_getElem?_getD, List.getElem?_eq_getElem (by omega)]; simp
    refine pass_c hC4 (by omega) (by omega) (by omega) (Nat.le_trans hhi (Nat.le_refl _)) (by omega) hP4 (by omega) (by omega) (by omega) (ps.getD i 0) (fun hb w5 f5 => ⟨_, rfl, cond_t ?_⟩) fun hO w5 f5 hC5 hP5 => ⟨_, rfl, cond_f ?_⟩
    · refine hbad (fun h => hb ((okP_good h2 h28 hgi _).2 (h.2.2 _ hin))) (d + i) w5 (f4.trans f5 (fun z hz => .inr (by simp at hz; omega))) (hC4.fr f5 (fun z hz => .inr (by simp at hz; omega))) (by omega) (by omega)
    · have hp := (okP_good h2 h28 hgi _).1 hO
      rw [wrap64 (by omega) (by omega)]
      refine hgo _ _ _ (k - 1) (by omega) ⟨i + 1, by omega, rfl, f4.trans f5 (fun z hz => by simp at hz; rcases hz with rfl | rfl; exact .inl (by simp); exact .inr (by omega)), by have := f5.size; omega, ?_, ?_, fun j hj => ?_⟩
      · have : d + ((i + 1 : Nat) : Int) = d + (i : Int) + 1 := by omega
        rw [this]; exact hC5
      · have e : (ps.take (i + 1)).map Int.toNat = (ps.take i).map Int.toNat ++ [(ps.getD i 0).toNat] := by
          rw [List.take_add_one, List.getElem?_eq_getElem (by omega), List.map_append, List.getD_eq_getElem?_getD, List.getElem?_eq_getElem (by omega)]; rfl
        rw [e, runL_snoc]
        rw [Int.toNat_natCast] at hP5
        exact hP5
      · by_cases hji : j = i
        · subst hji; exact hp
        · exact hps j (by omega)
  · have hil : i = l2 := by omega
    subst hil
    rw [List.take_of_length_le (by omega)] at hP4 hgi
    unfold feist_Passes_j1
    obtain ⟨f, r1, e1, r2, e2, hB4, g0, g1, g2', hR1, hcc1, hR2, hcc2, hb1', hb2'⟩ := hP4
    have a2 : (⟨w1.heap.size, 0, none⟩ : Addr).add 2 = ⟨w1.heap.size, 2, none⟩ := add_mk _ _ _
    have a1 : (⟨w1.heap.size, 0, none⟩ : Addr).add 1 = ⟨w1.heap.size, 1, none⟩ := add_mk _ _ _
    have a0 : (⟨w1.heap.size, 0, none⟩ : Addr).add 0 = ⟨w1.heap.size, 0, none⟩ := rfl
    rw [a0, a1, a2]
    have l1' := hgi.1.1
    have l2' := hgi.2.1
    have hsl := hsz_le h28
    refine ⟨_, _, _, Ld.blk (by kernel_rfl) hB4 (by omega) g0, _, _, _, Ld.blk (by kernel_rfl) hB4 (by omega) g1, _, Ld.blk (by kernel_rfl) hB4 (by omega) g2', ?_⟩
    have hall : ∀ p ∈ ps, 0 ≤ p ∧ p ≤ 255 := fun p hp => by
      obtain ⟨j, hj, rfl⟩ := List.getElem_of_mem hp
      have := hps j (by omega)
      rwa [List.getD_eq_getElem?_getD, List.getElem?_eq_getElem hj] at this
    have hfit : fitN (l1 : Int) [(runL key l1 (ps.map Int.toNat) (cutL xs)).1, (runL key l1 (ps.map Int.toNat) (cutL xs)).2] := fit2.2 ⟨by omega, by omega, by rw [Int.toNat_natCast]; exact l1', by rw [Int.toNat_natCast]; exact l2'⟩
    refine halvesJoin_c hR1 rfl hcc1 (by omega) hR2 rfl hcc2 (by omega) (l1 : Int) (fun h => absurd hfit h) (fun _ h => absurd (by rw [Int.toNat_natCast]; exact okJ_good h2 hgi) h) fun _ _ po co w5 f5 hO5 => ⟨_, _, _, _, rfl, ?_⟩
    rw [Int.toNat_natCast] at hO5 ⊢
    refine hok ⟨h2, h28, hall⟩ po co w5 (f4.then f5) ?_ ?_
    · rw [← hl2]; exact hC4.fr0 f5
    · unfold passesL
      rw [← hl1]
      exact hO5.mono (by omega)
def okT (l : Nat) : Prop := 2 ≤ l ∧ l ≤ 28
theorem Mix_c {w : World} (hC : Cip w c key d lo hi) (hd0 : 0 ≤ d) (hd : d < 100000000) (hhi : hi ≤ w.heap.size) {p1 : Option Addr} {l1 c1 : Nat} {xs : List UInt8} (hX : Row w p1 (xs.map vb)) (hl1 : l1 = xs.length) (hc1 : l1 ≤ c1) (hb1 : l1 < 1000000) {K : Value → World → Prop}
    (hbad : ¬ okT l1 → ∀ d' w', Fr [c] w w' → Cip w' c key d' lo hi → d ≤ d' → d' ≤ d + 4 → K (.tuple #[.slice none 0 0, .int .i64 11]) w')
    (hok : okT l1 → ∀ q e w', Fr [c] w w' → Cip w' c key (d + 4) lo hi → OB w' q l1 e (passesL key xs [1, 2, 3, 4]) w.heap.size → K (.tuple #[.slice q l1 e, .int .i64 0]) w') :
    callF Tryz.prog F_feist_Mix #[.pointer (some ⟨c, 0, none⟩), .slice p1 l1 c1] w K := by
  apply feist_Mix_call
  unfold feist_Mix
  refine ⟨_, _, _, Ef.new (v := .slice (some ⟨w.heap.size, 0, none⟩) 4 4) (cs := (([1, 2, 3, 4] : List Int).map vi).toArray) (e := T_int) (by kernel_rfl) fun w1 f1 hB1 s1 => ?_⟩
  have hcl := hC.lt
  have m1 := f1.size
  refine Passes_c (l2 := 4) (c2 := 4) (ps := [1, 2, 3, 4]) (hC.fr0 f1) hd0 hd (by omega) (hX.fr0 f1) hl1 hc1 hb1 hB1.rowL rfl (by omega) (fun _ => by simp [blks]; omega) (fun hb d' w2 f2 hC2 h1 h2 => ⟨_, _, _, _, rfl, ?_⟩) fun hO q e w2 f2 hC2 hq => ⟨_, _, _, _, rfl, ?_⟩
  · exact hbad (fun h => hb ⟨h.1, h.2, by decide⟩) d' w2 (f1.after f2) hC2 h1 h2
  · exact hok ⟨hO.1, hO.2.1⟩ q e w2 (f1.after f2) hC2 (hq.mono m1)
theorem Unmix_c {w : World} (hC : Cip w c key d lo hi) (hd0 : 0 ≤ d) (hd : d < 100000000) (hhi : hi ≤ w.heap.size) {p1 : Option Addr} {l1 c1 : Nat} {xs : List UInt8} (hX : Row w p1 (xs.map vb)) (hl1 : l1 = xs.length) (hc1 : l1 ≤ c1) (hb1 : l1 < 1000000) {K : Value → World → Prop}
    (hbad : ¬ okT l1 → ∀ d' w', Fr [c] w w' → Cip w' c key d' lo hi → d ≤ d' → d' ≤ d + 4 → K (.tuple #[.slice none 0 0, .int .i64 11]) w')
    (hok : okT l1 → ∀ q e w', Fr [c] w w' → Cip w' c key (d + 4) lo hi → OB w' q l1 e (passesL key xs [4, 3, 2, 1]) w.heap.size → K (.tuple #[.slice q l1 e, .int .i64 0]) w') :
    callF Tryz.prog F_feist_Unmix #[.pointer (some ⟨c, 0, none⟩), .slice p1 l1 c1] w K := by
  apply feist_Unmix_call
  unfold feist_Unmix
  refine ⟨_, _, _, Ef.new (v := .slice (some ⟨w.heap.size, 0, none⟩) 4 4) (cs := (([4, 3, 2, 1] : List Int).map vi).toArray) (e := T_int) (by kernel_rfl) fun w1 f1 hB1 s1 => ?_⟩
  have hcl := hC.lt
  have m1 := f1.size
  refine Passes_c (l2 := 4) (c2 := 4) (ps := [4, 3, 2, 1]) (hC.fr0 f1) hd0 hd (by omega) (hX.fr0 f1) hl1 hc1 hb1 hB1.rowL rfl (by omega) (fun _ => by simp [blks]; omega) (fun hb d' w2 f2 hC2 h1 h2 => ⟨_, _, _, _, rfl, ?_⟩) fun hO q e w2 f2 hC2 hq => ⟨_, _, _, _, rfl, ?_⟩
  · exact hbad (fun h => hb ⟨h.1, h.2, by decide⟩) d' w2 (f1.after f2) hC2 h1 h2
  · exact hok ⟨hO.1, hO.2.1⟩ q e w2 (f1.after f2) hC2 (hq.mono m1)
end
end Go.Sh
end

section
namespace Go.Sh
open Go Go.Fw Go.Proofs
set_option maxRecDepth 100000
set_option linter.unusedVariables false
def nibL (xs : List UInt8) : List UInt8 := bl (2 * xs.length) (fun j => if j % 2 = 0 then fl xs (j / 2) / 16 else fl xs (j / 2) % 16)
def bytL (ns : List UInt8) : List UInt8 := bl (ns.length / 2) (fun j => fl ns (2 * j) * 16 + fl ns (2 * j + 1))
theorem nibL_len (xs : List UInt8) : (nibL xs).length = 2 * xs.length := bl_len _ _
theorem bytL_len (ns : List UInt8) : (bytL ns).length = ns.length / 2 := bl_len _ _
theorem nibL_0 {xs : List UInt8} {j : Nat} (h : j < xs.length) : fl (nibL xs) (2 * j) = fl xs j / 16 := by
  have := bl_getD (n := 2 * xs.length) (x := fun j => if j % 2 = 0 then fl xs (j / 2) / 16 else fl xs (j / 2) % 16) (show 2 * j < 2 * xs.length by omega)
  refine this.trans ?_
  rw [if_pos (by omega), show 2 * j / 2 = j by omega]
theorem nibL_1 {xs : List UInt8} {j : Nat} (h : j < xs.length) : fl (nibL xs) (2 * j + 1) = fl xs j % 16 := by
  have := bl_getD (n := 2 * xs.length) (x := fun j => if j % 2 = 0 then fl xs (j / 2) / 16 else fl xs (j / 2) % 16) (show 2 * j + 1 < 2 * xs.length by omega)
  refine this.trans ?_
  rw [if_neg (by omega), show (2 * j + 1) / 2 = j by omega]
theorem bytL_fl {ns : List UInt8} {j : Nat} (h : j < ns.length / 2) : fl (bytL ns) j = fl ns (2 * j) * 16 + fl ns (2 * j + 1) := bl_getD h
theorem nib_id (x : UInt8) : x / 16 * 16 + x % 16 = x := by
  have := all8 (p := fun x => x / 16 * 16 + x % 16 == x) (by kernel_rfl) x
  simpa using this
theorem nib_hi (x : UInt8) : x / 16 * 16 = x &&& 240 := by
  have := all8 (p := fun x => x / 16 * 16 == x &&& 240) (by kernel_rfl) x
  simpa using this
theorem nib_lo (x : UInt8) : x % 16 = x &&& 15 := by
  have := all8 (p := fun x => x % 16 == x &&& 15) (by kernel_rfl) x
  simpa using this
theorem nib_z (x : UInt8) : x &&& 15 = 0 → x &&& 240 = x := by
  have := all8 (p := fun x => !(x &&& 15 == 0) || (x &&& 240 == x)) (by kernel_rfl) x
  simp at this
  intro h; rcases this with h' | h'; exact absurd h h'; exact h'
theorem nib_z' (x : UInt8) : x &&& 240 = 0 → x &&& 15 = x := by
  have := all8 (p := fun x => !(x &&& 240 == 0) || (x &&& 15 == x)) (by kernel_rfl) x
  simp at this
  intro h; rcases this with h' | h'; exact absurd h h'; exact h'
theorem nib_lo0 (x : UInt8) : x % 16 = 0 ↔ x &&& 15 = 0 := by rw [nib_lo]
theorem nib_hi0 (x : UInt8) : x / 16 = 0 ↔ x &&& 240 = 0 := by
  have := all8 (p := fun x => (x / 16 == 0) == (x &&& 240 == 0)) (by kernel_rfl) x
  rw [beq_iff_eq] at this
  rw [← beq_iff_eq, this, beq_iff_eq]
theorem nib_or (a b : UInt8) : a / 16 * 16 + b % 16 = (a &&& 240) ||| (b &&& 15) := by
  rw [nib_hi, nib_lo, ← UInt8.toBitVec_inj]
  simp only [UInt8.toBitVec_add, UInt8.toBitVec_or]
  apply BitVec.add_eq_or_of_and_eq_zero
  rw [← UInt8.toBitVec_and]
  have : a &&& 240 &&& (b &&& 15) = 0 := by
    rw [UInt8.and_comm b 15, ← UInt8.and_assoc, UInt8.and_assoc a 240 15]
    show a &&& 0 &&& b = 0
    simp
  rw [this]; rfl
theorem bytL_nibL (xs : List UInt8) : bytL (nibL xs) = xs := by
  have hl : (bytL (nibL xs)).length = xs.length := by rw [bytL_len, nibL_len]; omega
  refine fl_ext hl fun j hj => ?_
  rw [hl] at hj
  rw [bytL_fl (by rw [nibL_len]; omega), nibL_0 hj, nibL_1 hj, nib_id]
theorem trim_left {xs : List UInt8} {n : Nat} (ho : n % 2 = 1) (hl : xs.length = hsz n) : bytL ((nibL xs).set n 0) = trimL xs n true := by
  have hs : hsz n = n / 2 + 1 := by unfold hsz; omega
  have hl' : (bytL ((nibL xs).set n 0)).length = xs.length := by rw [bytL_len, List.length_set, nibL_len]; omega
  refine fl_ext (by rw [hl', trimL_len]) fun j hj => ?_
  rw [hl'] at hj
  rw [bytL_fl (by rw [List.length_set, nibL_len]; omega), fl_set (by rw [nibL_len]; omega), fl_set (by rw [nibL_len]; omega), trimL_fl hj, msk_L (by omega), if_neg (by omega), nibL_0 hj]
  by_cases h : j + 1 = xs.length
  · rw [if_pos h, if_pos (by omega), UInt8.add_zero, nib_hi]
  · rw [if_neg h, if_neg (by omega), nibL_1 hj, nib_id, and255]
theorem trim_right {xs : List UInt8} {n : Nat} (ho : n % 2 = 1) (hl : xs.length = hsz n) : bytL ((nibL xs).set 0 0) = trimL xs n false := by
  have hs : hsz n = n / 2 + 1 := by unfold hsz; omega
  have hl' : (bytL ((nibL xs).set 0 0)).length = xs.length := by rw [bytL_len, List.length_set, nibL_len]; omega
  refine fl_ext (by rw [hl', trimL_len]) fun j hj => ?_
  rw [hl'] at hj
  rw [bytL_fl (by rw [List.length_set, nibL_len]; omega), fl_set (by rw [nibL_len]; omega), fl_set (by rw [nibL_len]; omega), trimL_fl hj, msk_R (by omega), if_neg (show ¬ 2 * j + 1 = 0 by omega), nibL_1 hj]
  by_cases h : j = 0
  · rw [if_pos h, if_pos (by omega), UInt8.zero_mul, UInt8.zero_add, nib_lo]
  · rw [if_neg h, if_neg (by omega), nibL_0 hj, nib_id, and255]
theorem hsz_two (n : Nat) : hsz n = n / 2 + n % 2 := by unfold hsz; omega
theorem cut_nib (b : List UInt8) {n : Nat} (hn : n = b.length) : cutL b = (bytL ((nibL b).take n ++ if n % 2 = 1 then [0] else []), bytL ((if n % 2 = 1 then [0] else []) ++ (nibL b).drop n)) := by
  have hs := hsz_two n
  have nl := nibL_len b
  have z0 : fl [0] 0 = 0 := rfl
  unfold cutL
  rw [← hn]
  congr 1
  · have hle : (b.take (hsz n)).length = hsz n := by rw [List.length_take]; omega
    have hl' : (bytL ((nibL b).take n ++ if n % 2 = 1 then [0] else [])).length = hsz n := by
      rw [bytL_len, List.length_append, List.length_take, nl]; split <;> simp <;> omega
    refine fl_ext (by rw [hl', trimL_len, hle]) fun j hj => ?_
    rw [trimL_len, hle] at hj
    rw [trimL_fl (by rw [hle]; exact hj), hle, fl_take, if_pos hj]
    rw [bytL_len] at hl'
    rw [bytL_fl (by omega), fl_append, fl_append, List.length_take, fl_take, fl_take, if_pos (show 2 * j < min n (nibL b).length by omega), if_pos (show 2 * j < n by omega), nibL_0 (by omega)]
    by_cases he : n % 2 = 0
    · rw [if_pos (by omega), if_pos (by omega), nibL_1 (by omega), nib_id, msk_even he, and255]
    · rw [msk_L he]
      by_cases hj1 : j + 1 = hsz n
      · rw [if_pos hj1, if_neg (show ¬ 2 * j + 1 < min n (nibL b).length by omega), if_pos (by omega), show 2 * j + 1 - min n (nibL b).length = 0 by omega, z0, UInt8.add_zero, nib_hi]
      · rw [if_neg hj1, if_pos (by omega), if_pos (by omega), nibL_1 (by omega), nib_id, and255]
  · have hle : (b.drop (n - hsz n)).length = hsz n := by rw [List.length_drop]; omega
    have hl' : (bytL ((if n % 2 = 1 then [0] else []) ++ (nibL b).drop n)).length = hsz n := by
      rw [bytL_len, List.length_append, List.length_drop, nl]; split <;> simp <;> omega
    refine fl_ext (by rw [hl', trimL_len, hle]) fun j hj => ?_
    rw [trimL_len, hle] at hj
    rw [trimL_fl (by rw [hle]; exact hj), hle, fl_drop]
    rw [bytL_len] at hl'
    rw [bytL_fl (by omega), fl_append, fl_append, fl_drop, fl_drop]
    by_cases he : n % 2 = 0
    · rw [if_neg (show ¬ n % 2 = 1 by omega)]
      simp only [List.length_nil, Nat.not_lt_zero, if_false, Nat.sub_zero]
      rw [show n + 2 * j = 2 * (n - hsz n + j) by omega, show n + (2 * j + 1) = 2 * (n - hsz n + j) + 1 by omega, nibL_0 (by omega), nibL_1 (by omega), nib_id, msk_even he, and255]
    · rw [if_pos (show n % 2 = 1 by omega), msk_R he]
      simp only [List.length_singleton]
      rw [if_neg (show ¬ 2 * j + 1 < 1 by omega), show n + (2 * j + 1 - 1) = 2 * (n - hsz n + j) + 1 by omega, nibL_1 (by omega)]
      by_cases hj0 : j = 0
      · rw [if_pos hj0, if_pos (by omega), hj0, show fl [0] (2 * 0) = 0 from rfl, UInt8.zero_mul, UInt8.zero_add, nib_lo]
      · rw [if_neg hj0, if_neg (by omega), show n + (2 * j - 1) = 2 * (n - hsz n + j) by omega, nibL_0 (by omega), nib_id, and255]
theorem join_nib {l r : List UInt8} {n : Nat} (h2 : 2 ≤ n) (h1 : l.length = hsz n) (h3 : r.length = hsz n) (hok : n % 2 = 0 ∨ (fl l (l.length - 1) &&& 15 = 0 ∧ fl r 0 &&& 240 = 0)) :
    bytL ((nibL l).take n ++ (nibL r).drop (n % 2)) = joinL l r n := by
  have hs := hsz_two n
  have nl := nibL_len l; have nr := nibL_len r
  have hl' : (bytL ((nibL l).take n ++ (nibL r).drop (n % 2))).length = n := by
    rw [bytL_len, List.length_append, List.length_take, List.length_drop, nl, nr]; omega
  have hjl := joinL_len h1 h3 h2
  refine fl_ext (by rw [hl', hjl]) fun j hj => ?_
  rw [hl'] at hj
  rw [bytL_len] at hl'
  rw [bytL_fl (by omega), fl_append, fl_append, List.length_take, fl_take, fl_take, fl_drop, fl_drop]
  unfold joinL
  by_cases he : n % 2 = 0
  · rw [if_pos he, fl_append, h1]
    by_cases hjl : j < hsz n
    · rw [if_pos hjl, if_pos (by omega), if_pos (by omega), if_pos (by omega), if_pos (by omega), nibL_0 (by omega), nibL_1 (by omega), nib_id]
    · rw [if_neg hjl, if_neg (by omega), if_neg (by omega), show n % 2 + (2 * j - min n (nibL l).length) = 2 * (j - hsz n) by omega, show n % 2 + (2 * j + 1 - min n (nibL l).length) = 2 * (j - hsz n) + 1 by omega, nibL_0 (by omega), nibL_1 (by omega), nib_id]
  · have ⟨o1, o2⟩ := hok.resolve_left he
    rw [if_neg he, fl_set (by rw [List.length_append, List.length_drop, h1, h3]; omega), h1]
    by_cases hjk : j = hsz n - 1
    · rw [if_pos hjk, if_pos (by omega), if_pos (by omega), if_neg (by omega), nibL_0 (by omega), show n % 2 + (2 * j + 1 - min n (nibL l).length) = 2 * 0 + 1 by omega, nibL_1 (by omega), nib_or, nib_z' _ o2, hjk]
      rw [h1] at o1
      rw [nib_z _ o1]
    · rw [if_neg hjk, fl_append, h1, fl_drop]
      by_cases hjl : j < hsz n
      · rw [if_pos hjl, if_pos (by omega), if_pos (by omega), if_pos (by omega), if_pos (by omega), nibL_0 (by omega), nibL_1 (by omega), nib_id]
      · rw [if_neg hjl, if_neg (by omega), if_neg (by omega), show n % 2 + (2 * j - min n (nibL l).length) = 2 * (j - hsz n + 1) by omega, show n % 2 + (2 * j + 1 - min n (nibL l).length) = 2 * (j - hsz n + 1) + 1 by omega, nibL_0 (by omega), nibL_1 (by omega), nib_id, Nat.add_comm 1]
end Go.Sh
end

section
namespace Go.Sh
open Go Go.Fw Go.Proofs
set_option maxRecDepth 100000
set_option linter.unusedVariables false
theorem blks_partAt {p : Option Addr} {c a s : Nat} : ∀ z ∈ blks (Go.Fw.partAt p c a s), z ∈ blks p := by
  intro z hz
  unfold Go.Fw.partAt at hz
  split at hz
  · exact hz
  · cases p with
    | none => exact hz
    | some b =>
      have e : (b.add (a * s)).block = b.block := by unfold Addr.add; split <;> rfl
      simp only [Option.map, blks, List.mem_singleton, e] at hz ⊢
      exact hz
theorem slTo {w : World} {p : Option Addr} {l c : Nat} {xs : List UInt8} (hR : Row w p (xs.map vb)) (hl : l = xs.length) {n : Nat} (hn : n ≤ l) (hc : l ≤ c) {K : Option Addr → Nat → Nat → Prop}
    (h : ∀ q d, Row w q ((xs.take n).map vb) → n = (xs.take n).length → n ≤ d → (∀ z ∈ blks q, z ∈ blks p) → K q n d) :
    ∃ q m d, Pu Tryz.prog (Instr.sliceAt T_S_uint8 (.slice p l c) none (some (.int .i64 (n : Int))) none) (.slice q m d) ∧ K q m d := by
  refine ⟨_, _, _, PuSl (s := 1) (kl := .i64) (kh := .i64) (lo := none) (hi := some (n : Int)) (by kernel_rfl) (by show (0 : Int) ≤ 0; omega) (by show (0 : Int) ≤ (n : Int); omega) (by show (n : Int) ≤ (c : Int); omega), ?_⟩
  have e3 : (Option.getD (some (n : Int)) (l : Int)).toNat - (Option.getD (none : Option Int) 0).toNat = n := by show ((n : Int)).toNat - 0 = n; omega
  rw [e3]
  refine h _ _ (Row.front hR c n) (by rw [List.length_take]; omega) ?_ blks_partAt
  show n ≤ c - 0
  omega
theorem slFrom {w : World} {p : Option Addr} {l c : Nat} {xs : List UInt8} (hR : Row w p (xs.map vb)) (hl : l = xs.length) {n : Nat} (hn : n ≤ l) (hc : l ≤ c) {K : Option Addr → Nat → Nat → Prop}
    (h : ∀ q d, Row w q ((xs.drop n).map vb) → l - n = (xs.drop n).length → l - n ≤ d → (∀ z ∈ blks q, z ∈ blks p) → K q (l - n) d) :
    ∃ q m d, Pu Tryz.prog (Instr.sliceAt T_S_uint8 (.slice p l c) (some (.int .i64 (n : Int))) none none) (.slice q m d) ∧ K q m d := by
  refine ⟨_, _, _, PuSl (s := 1) (kl := .i64) (kh := .i64) (lo := some (n : Int)) (hi := none) (by kernel_rfl) (by show (0 : Int) ≤ (n : Int); omega) (by show (n : Int) ≤ (l : Int); omega) (by show (l : Int) ≤ (c : Int); omega), ?_⟩
  have e3 : (Option.getD (none : Option Int) (l : Int)).toNat - (Option.getD (some (n : Int)) 0).toNat = l - n := by show ((l : Int)).toNat - ((n : Int)).toNat = l - n; omega
  rw [e3]
  have e5 : (Option.getD (some (n : Int)) 0).toNat = n := by show ((n : Int)).toNat = n; omega
  rw [e5]
  exact h _ _ (Row.partB hR (by omega)) (by rw [List.length_drop]; omega) (by omega) blks_partAt
theorem slMid {w : World} {p : Option Addr} {l c : Nat} {xs : List UInt8} (hR : Row w p (xs.map vb)) (hl : l = xs.length) {a b : Nat} (hab : a ≤ b) (hn : b ≤ l) (hc : l ≤ c) {K : Option Addr → Nat → Nat → Prop}
    (h : ∀ q d, Row w q (((xs.take b).drop a).map vb) → b - a = ((xs.take b).drop a).length → b - a ≤ d → (∀ z ∈ blks q, z ∈ blks p) → K q (b - a) d) :
    ∃ q m d, Pu Tryz.prog (Instr.sliceAt T_S_uint8 (.slice p l c) (some (.int .i64 (a : Int))) (some (.int .i64 (b : Int))) none) (.slice q m d) ∧ K q m d := by
  refine ⟨_, _, _, PuSl (s := 1) (kl := .i64) (kh := .i64) (lo := some (a : Int)) (hi := some (b : Int)) (by kernel_rfl) (by show (0 : Int) ≤ (a : Int); omega) (by show (a : Int) ≤ (b : Int); omega) (by show (b : Int) ≤ (c : Int); omega), ?_⟩
  have e3 : (Option.getD (some (b : Int)) (l : Int)).toNat - (Option.getD (some (a : Int)) 0).toNat = b - a := by show ((b : Int)).toNat - ((a : Int)).toNat = b - a; omega
  rw [e3]
  have e5 : (Option.getD (some (a : Int)) 0).toNat = a := by show ((a : Int)).toNat = a; omega
  rw [e5]
  refine h _ _ ?_ (by rw [List.length_drop, List.length_take]; omega) (by omega) blks_partAt
  exact Row.partB (Row.takeB hR b) (by rw [List.length_take]; omega)
theorem OB.front3 {w : World} {p : Option Addr} {l c : Nat} {xs : List UInt8} {lo : Nat} (h : OB w p l c xs lo) {n : Nat} (hn : n ≤ l) : OB w (Go.Fw.partAt p n 0 1) n n (xs.take n) lo := by
  have hl := h.2.1
  refine ⟨?_, by rw [List.length_take]; omega, fun z hz => h.2.2 z (blks_partAt z hz)⟩
  obtain ⟨⟨hl', ⟨rfl, h0, h1⟩ | ⟨g, o, N, f, rfl, hB, hoc, hlc, hf⟩⟩, _⟩ := h
  · refine ⟨by simp; omega, .inl ⟨?_, by omega, by omega⟩⟩
    unfold Go.Fw.partAt; split <;> rfl
  · refine ⟨by simp; omega, .inr ⟨g, o, N, f, ?_, hB, by omega, Nat.le_refl _, fun i v hi => ?_⟩⟩
    · unfold Go.Fw.partAt; split
      · rfl
      · show some ((⟨g, o, none⟩ : Addr).add (0 * 1)) = _
        rw [add_mk]; rfl
    · rw [List.map_take, List.getElem?_take] at hi
      split at hi
      · exact hf i v hi
      · cases hi
theorem slTo3O {w : World} {p : Option Addr} {l c : Nat} {xs : List UInt8} {lo : Nat} (h : OB w p l c xs lo) {n : Nat} (hn : n ≤ l) {K : Option Addr → Nat → Nat → Prop}
    (hk : ∀ q, OB w q n n (xs.take n) lo → K q n n) :
    ∃ q m d, Pu Tryz.prog (Instr.sliceAt T_S_uint8 (.slice p l c) none (some (.int .i64 (n : Int))) (some (.int .i64 (n : Int)))) (.slice q m d) ∧ K q m d := by
  have hc := h.cap
  refine ⟨_, _, _, PuSl3 (s := 1) (kh := .i64) (km := .i64) (hi := (n : Int)) (mx := (n : Int)) (by kernel_rfl) (by omega) (by omega) (by omega), ?_⟩
  rw [show ((n : Int)).toNat = n by omega]
  exact hk _ (h.front3 hn)
end Go.Sh
end

section
namespace Go.Sh
open Go Go.Fw Go.Proofs
set_option maxRecDepth 100000
set_option linter.unusedVariables false
theorem nib_div (x : UInt8) : IntKind.u8.wrap (Int.tdiv (x.toNat : Int) 16) = ((x / 16 : UInt8).toNat : Int) := by
  have := x.toNat_lt
  have e : Int.tdiv (x.toNat : Int) 16 = ((x.toNat / 16 : Nat) : Int) := rfl
  rw [e, IntKind.wrap_u8, UInt8.toNat_div]
  show _ = ((x.toNat / 16 : Nat) : Int)
  omega
theorem nib_mod (x : UInt8) : Int.tmod (x.toNat : Int) 16 = ((x % 16 : UInt8).toNat : Int) := by
  rw [UInt8.toNat_mod]; rfl
theorem nib_mul (a b : UInt8) : IntKind.u8.wrap (IntKind.u8.wrap ((a.toNat : Int) * 16) + (b.toNat : Int)) = ((a * 16 + b : UInt8).toNat : Int) := by
  rw [IntKind.wrap_u8, IntKind.wrap_u8, UInt8.toNat_add, UInt8.toNat_mul]
  show _ = (((a.toNat * 16 % 256 + b.toNat) % 256 : Nat) : Int)
  omega
theorem nibL_snoc {xs : List UInt8} {i : Nat} (h : i < xs.length) : nibL (xs.take (i + 1)) = nibL (xs.take i) ++ [fl xs i / 16, fl xs i % 16] := by
  unfold nibL
  have e : ∀ j, j < 2 * i → (if j % 2 = 0 then fl (xs.take (i + 1)) (j / 2) / 16 else fl (xs.take (i + 1)) (j / 2) % 16) = (if j % 2 = 0 then fl (xs.take i) (j / 2) / 16 else fl (xs.take i) (j / 2) % 16) := by
    intro j hj
    rw [fl_take, fl_take, if_pos (show j / 2 < i + 1 by omega), if_pos (show j / 2 < i by omega)]
  rw [List.length_take, List.length_take, Nat.min_eq_left (by omega), Nat.min_eq_left (by omega), show 2 * (i + 1) = 2 * i + 1 + 1 by omega, bl_snoc, bl_snoc]
  rw [if_pos (by omega), if_neg (by omega), fl_take, fl_take, if_pos (by omega), if_pos (by omega), show 2 * i / 2 = i by omega, show (2 * i + 1) / 2 = i by omega, List.append_assoc]
  congr 1
  exact bl_congr (fun j hj => e j hj)
theorem Fours_c {w : World} {p : Option Addr} {l c : Nat} {xs : List UInt8} (hx : Row w p (xs.map vb)) (hl : l = xs.length) (hlb : l < 1000000) {K : Value → World → Prop}
    (h : ∀ q d w', Fr [] w w' → OB w' q (2 * l) d (nibL xs) w.heap.size → K (.slice q (2 * l) d) w') : callF Tryz.prog F_ref14_Fours #[.slice p l c] w K := by
  apply ref14_Fours_call
  unfold ref14_Fours
  refine mk0 fun p0 w1 f1 hO1 s1 => ?_
  refine LoopS.ind (fun k us w' => ∃ (i : Nat) (p1 : Option Addr) (c1 : Nat), i + k = l ∧ us = [.slice p l c, .slice none 0 0, .slice p1 (2 * i) c1, .int .i64 (i : Int)] ∧ Fr [] w w' ∧ OB w' p1 (2 * i) c1 (nibL (xs.take i)) w.heap.size) l
    ⟨0, p0, 0, by omega, rfl, f1, hO1⟩ ?_
  rintro k us r w2 I μ hgo ⟨i, p1, c1, hi, rfl, f2, hO⟩
  refine ⟨_, _, _, _, _, _, _, _, _, _, rfl, cond_d (fun h1 => ?_) (fun h1 => ?_)⟩
  · have hil : i < l := by omega
    obtain ⟨a, ha, hca⟩ := row_get (t := T_S_uint8) (by kernel_rfl) (hx.fr0 f2) (c := c) hl hil (k := .i64)
    refine ⟨fun w' => w'.cell? a = some (vb (xs.getD i 0)), Drw.intro fun w3 f3 s3 => ?_⟩
    refine ⟨a, ha, a, ha, _, ⟨f3.cell hca (by simp), fun w' hw' => Ld.cell (by kernel_rfl) hw'⟩, _, Ld.cell (by kernel_rfl) (f3.cell hca (by simp)), .inl rfl, ?_⟩
    rw [nib_div, nib_mod]
    have f23 := f2.then f3
    refine mkL (xs := [xs.getD i 0 / 16, xs.getD i 0 % 16]) rfl rfl (by kernel_rfl) fun pn w4 f4 hN s4 => ?_
    have f24 := f23.then f4
    refine pushN ((hO.fr0 f3).fr0 f4) f24.size hN.row rfl (by simp only [List.length_cons, List.length_nil]; omega) fun p' c' w5 f5 hO5 => ?_
    rw [wrap64 (by omega) (by omega)]
    refine hgo _ _ _ (k - 1) (by omega) ⟨i + 1, p', c', by omega, rfl, ((hO.fr0 f3).fr0 f4).news f24 f5 (Nat.le_refl _), ?_⟩
    rw [nibL_snoc (by omega)]
    exact hO5
  · have hil : i = l := by omega
    subst hil
    rw [List.take_of_length_le (by omega)] at hO
    exact h p1 c1 w2 f2 hO
theorem Bytes_c {w : World} {p : Option Addr} {l c m : Nat} {ns : List UInt8} (hx : Row w p (ns.map vb)) (hl : l = ns.length) (hm : l = 2 * m) (hlb : l < 1000000) {K : Value → World → Prop}
    (h : ∀ q d w', Fr [] w w' → OB w' q m d (bytL ns) w.heap.size → K (.slice q m d) w') : callF Tryz.prog F_ref14_Bytes #[.slice p l c] w K := by
  apply ref14_Bytes_call
  unfold ref14_Bytes
  refine mk0 fun p0 w1 f1 hO1 s1 => ?_
  refine LoopS.ind (fun k us w' => ∃ (i : Nat) (p1 : Option Addr) (c1 : Nat), i + k = m ∧ us = [.slice p l c, .slice none 0 0, .slice p1 i c1, .int .i64 ((2 * i : Nat) : Int)] ∧ Fr [] w w' ∧ OB w' p1 i c1 (bl i (fun j => fl ns (2 * j) * 16 + fl ns (2 * j + 1))) w.heap.size) m
    ⟨0, p0, 0, by omega, rfl, f1, hO1⟩ ?_
  rintro k us r w2 I μ hgo ⟨i, p1, c1, hi, rfl, f2, hO⟩
  refine ⟨_, _, _, _, _, _, _, _, _, _, rfl, cond_d (fun h1 => ?_) (fun h1 => ?_)⟩
  · have hil : i < m := by omega
    obtain ⟨a, ha, hca⟩ := row_get (t := T_S_uint8) (by kernel_rfl) (hx.fr0 f2) (c := c) hl (i := 2 * i) (by omega) (k := .i64)
    obtain ⟨b, hb, hcb⟩ := row_get (t := T_S_uint8) (by kernel_rfl) (hx.fr0 f2) (c := c) hl (i := 2 * i + 1) (by omega) (k := .i64)
    rw [wrap64 (by omega) (by omega), wrap64 (by omega) (by omega), show (((2 * i : Nat) : Int) + 1) = ((2 * i + 1 : Nat) : Int) by omega]
    refine ⟨fun w' => w'.cell? a = some (vb (ns.getD (2 * i) 0)), Drw.intro fun w3 f3 s3 => ?_⟩
    refine ⟨a, ha, b, hb, _, ⟨f3.cell hca (by simp), fun w' hw' => Ld.cell (by kernel_rfl) hw'⟩, _, Ld.cell (by kernel_rfl) (f3.cell hcb (by simp)), .inl rfl, ?_⟩
    rw [nib_mul]
    have f23 := f2.then f3
    refine push1 (hO.fr0 f3) f23.size (by omega) fun p' c' w4 f4 hO4 => ?_
    refine hgo _ _ _ (k - 1) (by omega) ⟨i + 1, p', c', by omega, by rw [show (((2 * i : Nat) : Int) + 2) = ((2 * (i + 1) : Nat) : Int) by omega], (hO.fr0 f3).news f23 f4 (Nat.le_refl _), ?_⟩
    rw [bl_snoc]
    exact hO4
  · have hil : i = m := by omega
    subst hil
    have e : bytL ns = bl i (fun j => fl ns (2 * j) * 16 + fl ns (2 * j + 1)) := by unfold bytL; rw [show ns.length / 2 = i by omega]
    rw [← e] at hO
    exact h p1 c1 w2 f2 hO
theorem refSize_c {n : Nat} (h1 : 1 ≤ n) (hn : n < 1000000) {w : World} {K : Value → World → Prop} (h : K (.int .i64 (hsz n : Int)) w) : callF Tryz.prog F_ref14_Size #[.int .i64 (n : Int)] w K := by
  apply ref14_Size_call
  unfold ref14_Size
  refine cond_d (fun h1 => by omega) fun _ => ?_
  have e1 : Int.tdiv (n : Int) 2 = ((n / 2 : Nat) : Int) := rfl
  have e2 : Int.tmod (n : Int) 2 = ((n % 2 : Nat) : Int) := rfl
  rw [e1, e2, wrap64 (n := ((n / 2 : Nat) : Int)) (by omega) (by omega), wrap64 (by omega) (by omega)]
  have := hsz_two n
  rw [show ((n / 2 : Nat) : Int) + ((n % 2 : Nat) : Int) = (hsz n : Int) by omega]
  exact h
theorem fit_c {n : Int} {w : World} {p : Option Addr} {l c : Nat} {xs : List UInt8} (hl : l = xs.length) {K : Value → World → Prop} (h : K (.bool (decide (fitN n [xs]))) w) : callF Tryz.prog F_ref14_fit #[.slice p l c, .int .i64 n] w K := by
  apply ref14_fit_call
  unfold ref14_fit
  have hno : ¬ (2 ≤ n ∧ n ≤ 28) → K (.bool false) w := fun hn => by
    rw [decide_eq_false (fun h' => hn ⟨h'.1, h'.2.1⟩)] at h
    exact h
  refine cond_d (fun h1 => cond_d (fun h2 => ?_) (fun h2 => hno (by omega))) (fun h1 => hno (by omega))
  obtain ⟨m, rfl⟩ := Int.eq_ofNat_of_zero_le (show 0 ≤ n by omega)
  refine refSize_c (by omega) (by omega) ⟨_, rfl, ?_⟩
  have e : ((l : Int) == (hsz m : Int)) = decide (fitN (m : Int) [xs]) := by
    rw [Bool.eq_iff_iff, beq_iff_eq, decide_eq_true_iff, fit1, Int.toNat_natCast]
    constructor
    · intro hh; exact ⟨by omega, by omega, by omega⟩
    · intro hh; omega
  rw [e]
  exact h
end Go.Sh
end

section
namespace Go.Sh
open Go Go.Fw Go.Proofs
set_option maxRecDepth 100000
set_option linter.unusedVariables false
theorem tm2 (m : Nat) : Int.tmod (m : Int) 2 = ((m % 2 : Nat) : Int) := rfl
theorem odd_b (m : Nat) : (Int.tmod (m : Int) 2 == 1) = decide (m % 2 = 1) := by
  rw [tm2, Bool.eq_iff_iff, beq_iff_eq, decide_eq_true_iff]; omega
set_option maxHeartbeats 1000000 in
theorem refTrim_c {w : World} {p : Option Addr} {l c : Nat} {xs : List UInt8} (hR : Row w p (xs.map vb)) (hl : l = xs.length) (hlb : l < 1000000) (n : Int) (left : Bool) {K : Value → World → Prop}
    (hbad : ¬ fitN n [xs] → K (.tuple #[.slice none 0 0, .int .i64 11]) w) (hok : fitN n [xs] → ∀ q d w', Fr [] w w' → OB w' q l d (trimL xs n.toNat left) w.heap.size → K (.tuple #[.slice q l d, .int .i64 0]) w') :
    callF Tryz.prog F_ref14_Trim #[.slice p l c, .int .i64 n, .bool left] w K := by
  apply ref14_Trim_call
  unfold ref14_Trim
  refine fit_c hl ⟨_, rfl, ?_⟩
  by_cases hfit : fitN n [xs]
  · rw [decide_eq_true hfit]
    refine cond_f ?_
    obtain ⟨h2, h28, hlen⟩ := fit1.1 hfit
    obtain ⟨m, rfl⟩ := Int.eq_ofNat_of_zero_le (show 0 ≤ n by omega)
    rw [Int.toNat_natCast] at hlen hok
    have hs := hsz_two m
    refine Fours_c hR hl hlb fun q d w1 f1 hO => ⟨_, _, _, rfl, ?_⟩
    rw [odd_b]
    have fin : ∀ (ns : List UInt8) (w2 : World), Fr [] w w2 → w1.heap.size ≤ w2.heap.size → OB w2 q (2 * l) d ns w.heap.size → bytL ns = trimL xs m left → callF Tryz.prog F_ref14_Bytes #[.slice q (2 * l) d] w2 fun r34 w2 => ∃ (p34 : Option Addr) (l34 : Nat) (c34 : Nat), r34 = .slice p34 l34 c34 ∧ K (.tuple #[.slice p34 l34 c34, .int .i64 0]) w2 := by
      intro ns w2 f2 s2 hN e
      refine Bytes_c hN.row hN.2.1 rfl (by omega) fun q' d' w3 f3 hO3 => ⟨_, _, _, rfl, ?_⟩
      rw [e] at hO3
      have := f2.size
      exact hok hfit q' d' w3 (f2.then f3) (hO3.mono this)
    by_cases ho : m % 2 = 1
    · rw [decide_eq_true ho]
      refine cond_t ?_
      unfold ref14_Trim_j3
      cases left with
      | true =>
        refine cond_t ?_
        refine hO.sto (i := m) (x := 0) (by omega) fun w2 f2 hO2 s2 => ?_
        unfold ref14_Trim_j2
        rw [odd_b, decide_eq_true ho]
        refine cond_t ?_
        unfold ref14_Trim_j1
        exact cond_f (fin _ w2 (hO.news f1 f2 (Nat.le_refl _)) f2.size hO2 (trim_left ho hlen))
      | false =>
        refine cond_f ?_
        unfold ref14_Trim_j2
        rw [odd_b, decide_eq_true ho]
        refine cond_t ?_
        unfold ref14_Trim_j1
        refine cond_t ?_
        refine hO.sto (i := 0) (x := 0) (by omega) fun w2 f2 hO2 s2 => ?_
        exact fin _ w2 (hO.news f1 f2 (Nat.le_refl _)) f2.size hO2 (trim_right ho hlen)
    · rw [decide_eq_false ho]
      refine cond_f ?_
      unfold ref14_Trim_j3
      refine cond_f ?_
      unfold ref14_Trim_j2
      rw [odd_b, decide_eq_false ho]
      refine cond_f ?_
      unfold ref14_Trim_j1
      exact cond_f (fin _ w1 f1 (Nat.le_refl _) hO (by rw [bytL_nibL, trimL_even (by omega)]))
  · rw [decide_eq_false hfit]
    exact cond_t (hbad hfit)
set_option maxHeartbeats 1000000 in
theorem refCut_c {w : World} {p : Option Addr} {l c : Nat} {xs : List UInt8} (hR : Row w p (xs.map vb)) (hl : l = xs.length) (hlb : l < 1000000) {K : Value → World → Prop}
    (hbad : ¬ (2 ≤ l ∧ l ≤ 28) → K (.tuple #[.slice none 0 0, .slice none 0 0, .int .i64 11]) w)
    (hok : (2 ≤ l ∧ l ≤ 28) → ∀ q1 d1 q2 d2 w', Fr [] w w' → OB w' q1 (hsz l) d1 (cutL xs).1 w.heap.size → OB w' q2 (hsz l) d2 (cutL xs).2 w.heap.size → K (.tuple #[.slice q1 (hsz l) d1, .slice q2 (hsz l) d2, .int .i64 0]) w') :
    callF Tryz.prog F_ref14_Cut #[.slice p l c] w K := by
  apply ref14_Cut_call
  unfold ref14_Cut
  refine cond_d (fun h1 => hbad (by omega)) fun h1 => cond_d (fun h2 => hbad (by omega)) fun h2 => ?_
  unfold ref14_Cut_j2
  refine Fours_c hR hl hlb fun q d w1 f1 hO => ⟨_, _, _, rfl, ?_⟩
  have hs := hsz_two l
  have hnl := nibL_len xs
  have c1 := hO.cap
  refine mk0 fun pa w2 f2 hA s2 => ?_
  refine slTo (hO.fr0 f2).row hO.2.1 (n := l) (by omega) c1 fun qa da hqa la lda ba => ?_
  refine pushN hA f2.size hqa la (by omega) fun pb cb w3 f3 hB => ?_
  rw [List.nil_append] at hB
  have f13 : Fr [] w1 w3 := hA.news f2 f3 (Nat.le_refl _)
  have hO3 := hO.fr0 f13
  refine mk0 fun pc w4 f4 hC s4 => ?_
  refine slFrom (hO3.fr0 f4).row hO.2.1 (n := l) (by omega) c1 fun qe de hqe le lde be => ?_
  refine pushN hC f4.size hqe le (by omega) fun pd cd w5 f5 hD => ?_
  rw [List.nil_append] at hD
  have f35 : Fr [] w3 w5 := hC.news f4 f5 (Nat.le_refl _)
  have hB5 := hB.fr0 f35
  have n1 := f1.size; have n13 := f13.size; have n35 := f35.size
  have eN : 2 * l - l = l := by omega
  rw [eN] at hD ⊢
  rw [odd_b]
  have ec := cut_nib xs hl
  have fin : ∀ (p7 : Option Addr) (l7 c7 : Nat) (p8 : Option Addr) (l8 c8 : Nat) (xa xb : List UInt8) (w6 : World), Fr [] w w6 → OB w6 p7 l7 c7 xa w.heap.size → OB w6 p8 l8 c8 xb w.heap.size → l7 = 2 * hsz l → l8 = 2 * hsz l → bytL xa = (cutL xs).1 → bytL xb = (cutL xs).2 → ref14_Cut_j1 none 0 0 none 0 0 0 p7 l7 c7 p8 l8 c8 w6 K := by
    intro p7 l7 c7 p8 l8 c8 xa xb w6 f6 h7 h8 e7 e8 ea eb
    unfold ref14_Cut_j1
    refine Bytes_c h7.row h7.2.1 e7 (by omega) fun q7 d7 w7 f7 hO7 => ⟨_, _, _, rfl, ?_⟩
    refine Bytes_c (h8.row.fr0 f7) h8.2.1 e8 (by omega) fun q8 d8 w8 f8 hO8 => ⟨_, _, _, rfl, ?_⟩
    rw [ea] at hO7
    rw [eb] at hO8
    have n6 := f6.size; have n7 := f7.size
    exact hok ⟨by omega, by omega⟩ _ _ _ _ w8 (f6.then (f7.then f8)) ((hO7.fr0 f8).mono (by omega)) (hO8.mono (by omega))
  rw [Nat.zero_add] at hB5 hD ⊢
  by_cases ho : l % 2 = 1
  · rw [decide_eq_true ho]
    rw [if_pos ho] at ec
    refine cond_t ?_
    refine push1 (x := 0) hB5 (by omega) (by omega) fun p6 c6 w6 f6 hO6 => ?_
    have lt3 := hB.lt; have n34 := f4.size
    have hD6 := hD.fr f6 (fun z hz hz' => by
      have g1 := hD.2.2 z hz; have g2 := lt3 z hz'; omega)
    have f56 : Fr [] w w6 := (f1.then (f13.then f35)).trans f6 (fun z hz => .inr (by have := hB.2.2 z hz; have := f2.size; omega))
    have n6 := f6.size
    refine mk1 (x := 0) fun p9 w7 f7 hE s7 => ?_
    refine pushN hE f7.size (hD6.row.fr0 f7) hD.2.1 (by omega) fun p10 c10 w8 f8 hF => ?_
    have f68 : Fr [] w6 w8 := hE.news f7 f8 (Nat.le_refl _)
    have f58 : Fr [] w w8 := f56.then f68
    have hO8 := hO6.fr0 f68
    refine fin _ _ _ _ _ _ _ _ w8 f58 (hO8.mono (by omega)) (hF.mono (by omega)) (by omega) (by omega) ?_ ?_
    · rw [ec]
    · rw [ec]
  · rw [decide_eq_false ho]
    rw [if_neg ho] at ec
    rw [List.append_nil, List.nil_append] at ec
    exact cond_f (fin _ _ _ _ _ _ _ _ w5 ((f1.then f13).then f35) (hB5.mono (by omega)) (hD.mono (by omega)) (by omega) (by omega) (by rw [ec]) (by rw [ec]))
set_option maxHeartbeats 1000000 in
theorem refJoin_c {w : World} {p q : Option Addr} {l c m d : Nat} {ls rs : List UInt8} (hL : Row w p (ls.map vb)) (hl : l = ls.length) (hlb : l < 1000000) (hR : Row w q (rs.map vb)) (hm : m = rs.length) (hmb : m < 1000000) (n : Int) {K : Value → World → Prop}
    (hbad : ¬ fitN n [ls, rs] → K (.tuple #[.slice none 0 0, .int .i64 11]) w) (hform : fitN n [ls, rs] → ¬ okJ ls rs n.toNat → ∀ w', Fr [] w w' → K (.tuple #[.slice none 0 0, .int .i64 10]) w')
    (hok : fitN n [ls, rs] → okJ ls rs n.toNat → ∀ po co w', Fr [] w w' → OB w' po n.toNat co (joinL ls rs n.toNat) w.heap.size → K (.tuple #[.slice po n.toNat co, .int .i64 0]) w') :
    callF Tryz.prog F_ref14_Join #[.slice p l c, .slice q m d, .int .i64 n] w K := by
  apply ref14_Join_call
  unfold ref14_Join
  refine fit_c hl ⟨_, rfl, ?_⟩
  by_cases hf1 : fitN n [ls]
  · rw [decide_eq_true hf1]
    refine cond_f (fit_c hm ⟨_, rfl, ?_⟩)
    by_cases hf2 : fitN n [rs]
    · rw [decide_eq_true hf2]
      refine cond_f ?_
      obtain ⟨h2, h28, hll⟩ := fit1.1 hf1
      obtain ⟨_, _, hrl⟩ := fit1.1 hf2
      have hfit : fitN n [ls, rs] := fit2.2 ⟨h2, h28, hll, hrl⟩
      obtain ⟨N, rfl⟩ := Int.eq_ofNat_of_zero_le (show 0 ≤ n by omega)
      rw [Int.toNat_natCast] at hll hrl hok hform
      have hs := hsz_two N
      unfold ref14_Join_j2
      refine Fours_c hL hl hlb fun qa da w1 f1 hA => ⟨_, _, _, rfl, ?_⟩
      refine Fours_c (hR.fr0 f1) hm hmb fun qb db w2 f2 hB => ⟨_, _, _, rfl, ?_⟩
      have f02 := f1.then f2
      have hA2 := hA.fr0 f2
      have nl := nibL_len ls; have nr := nibL_len rs
      have ca := hA.cap; have cb := hB.cap
      rw [odd_b]
      have fin : ∀ (p9 : Option Addr) (l9 c9 : Nat), Row w2 p9 (((nibL rs).drop (N % 2)).map vb) → l9 = ((nibL rs).drop (N % 2)).length → okJ ls rs N → ref14_Join_j1 (N : Int) none 0 0 0 qa (2 * l) da p9 l9 c9 w2 K := by
        intro p9 l9 c9 h9 e9 hJ
        unfold ref14_Join_j1
        rw [List.length_drop, nr] at e9
        have h2' : 2 ≤ N := by omega
        refine slTo3O hA2 (n := N) (by omega) fun q1 h1 => ?_
        refine pushN h1 f02.size h9 (by rw [List.length_drop, nr]; exact e9) (by omega) fun p' c' w3 f3 hO3 => ?_
        have f03 : Fr [] w w3 := h1.news f02 f3 (Nat.le_refl _)
        refine Bytes_c hO3.row hO3.2.1 (m := N) (by omega) (by omega) fun q4 d4 w4 f4 hO4 => ⟨_, _, _, rfl, ?_⟩
        rw [join_nib h2' hll hrl hJ] at hO4
        exact hok hfit hJ q4 d4 w4 (f03.then f4) (hO4.mono f03.size)
      have h0r : 0 < rs.length := by omega
      by_cases ho : N % 2 = 1
      · rw [decide_eq_true ho]
        refine cond_t ?_
        obtain ⟨a, ha, hca⟩ := hA2.get (k := .i64) (i := N) (by omega)
        obtain ⟨b, hb, hcb⟩ := (hB.mono (lo' := 0) (by omega)).get (k := .i64) (i := 0) (by omega)
        refine ⟨a, ha, _, Ld.cell (by kernel_rfl) hca, ?_⟩
        have eN : fl (nibL ls) N = fl ls (ls.length - 1) % 16 := by
          rw [show N = 2 * (ls.length - 1) + 1 by omega]; exact nibL_1 (by omega)
        have eR : fl (nibL rs) 0 = fl rs 0 / 16 := nibL_0 h0r
        have z8 : ∀ x : UInt8, (x.toNat : Int) = 0 ↔ x = 0 := fun x => by
          rw [← UInt8.toNat_inj]; show _ ↔ x.toNat = 0; omega
        have hJo : okJ ls rs N ↔ (fl (nibL ls) N = 0 ∧ fl (nibL rs) 0 = 0) := by
          rw [eN, eR, nib_lo0, nib_hi0]
          exact ⟨fun h => h.resolve_left (by omega), fun h => .inr h⟩
        refine cond_ne (fun hne => hform hfit (fun h => hne ((z8 _).2 (hJo.1 h).1)) w2 f02) fun h0 => ?_
        refine ⟨b, hb, _, Ld.cell (by kernel_rfl) hcb, ?_⟩
        refine cond_ne (fun hne => hform hfit (fun h => hne ((z8 _).2 (hJo.1 h).2)) w2 f02) fun h1 => ?_
        refine slFrom hB.row hB.2.1 (n := 1) (by omega) cb fun q1 d1 h1' e1 l1' b1 => ?_
        rw [← show N % 2 = 1 from ho] at h1' e1
        refine fin _ _ _ h1' ?_ (hJo.2 ⟨(z8 _).1 h0, (z8 _).1 h1⟩)
        rw [← e1, ho]
      · rw [decide_eq_false ho]
        refine cond_f (fin _ _ _ ?_ ?_ (.inl (by omega)))
        · rw [show N % 2 = 0 by omega, List.drop_zero]; exact hB.row
        · rw [show N % 2 = 0 by omega, List.drop_zero]; exact hB.2.1
    · rw [decide_eq_false hf2]
      exact cond_t (hbad (fun h => hf2 (fit1.2 ⟨(fit2.1 h).1, (fit2.1 h).2.1, (fit2.1 h).2.2.2⟩)))
  · rw [decide_eq_false hf1]
    exact cond_t (hbad (fun h => hf1 (fit1.2 ⟨(fit2.1 h).1, (fit2.1 h).2.1, (fit2.1 h).2.2.1⟩)))
end Go.Sh
end

section
namespace Go.Sh
open Go Go.Fw Go.Proofs
set_option maxRecDepth 100000
set_option linter.unusedVariables false
set_option maxHeartbeats 1000000 in
theorem refBlock_c {w : World} {p : Option Addr} {l c : Nat} {xs : List UInt8} (hR : Row w p (xs.map vb)) (hl : l = xs.length) (hlb : l < 1000000) (n pass : Int) {K : Value → World → Prop}
    (hbad : ¬ okB xs n pass → K (.tuple #[.slice none 0 0, .int .i64 11]) w) (hok : okB xs n pass → ∀ q d w', Fr [] w w' → OB w' q 16 d (blockL xs n.toNat pass.toNat) w.heap.size → K (.tuple #[.slice q 16 d, .int .i64 0]) w') :
    callF Tryz.prog F_ref14_Block #[.slice p l c, .int .i64 n, .int .i64 pass] w K := by
  apply ref14_Block_call
  unfold ref14_Block
  refine fit_c hl ⟨_, rfl, ?_⟩
  by_cases hfit : fitN n [xs]
  · rw [decide_eq_true hfit]
    refine cond_f (cond_d (fun h1 => hbad (fun h => by have := h.2; omega)) fun h1 => cond_d (fun h2 => hbad (fun h => by have := h.2; omega)) fun h2 => ?_)
    unfold ref14_Block_j2
    obtain ⟨h2', h28, hlen⟩ := fit1.1 hfit
    obtain ⟨m, rfl⟩ := Int.eq_ofNat_of_zero_le (show 0 ≤ n by omega)
    obtain ⟨ps, rfl⟩ := Int.eq_ofNat_of_zero_le (show 0 ≤ pass by omega)
    rw [Int.toNat_natCast] at hlen
    have hs := hsz_two m
    refine mk0 fun p0 w1 f1 hO1 s1 => ?_
    refine pushN hO1 f1.size (hR.fr0 f1) hl (by omega) fun p1 c1 w2 f2 hO2 => ?_
    rw [List.nil_append] at hO2
    have f02 : Fr [] w w2 := hO1.news f1 f2 (Nat.le_refl _)
    refine LoopS.ind (fun k us w' => ∃ (i : Nat) (p1 : Option Addr) (c1 : Nat), i + k = 14 - l ∧ us = [.int .i64 (m : Int), .int .i64 (ps : Int), .slice none 0 0, .int .i64 0, .slice p1 (0 + l + i) c1] ∧ Fr [] w w' ∧ OB w' p1 (0 + l + i) c1 (xs ++ List.replicate i 0) w.heap.size) (14 - l)
      ⟨0, p1, c1, by omega, rfl, f02, by rw [List.replicate_zero, List.append_nil]; exact hO2⟩ ?_
    rintro k us r w3 I μ hgo ⟨i, p2, c2, hi, rfl, f3, hO⟩
    refine ⟨_, _, _, _, _, _, _, _, _, rfl, cond_d (fun h3 => ?_) (fun h3 => ?_)⟩
    · refine push1 (x := 0) hO f3.size (by omega) fun p4 c4 w4 f4 hO4 => ?_
      refine hgo _ _ _ (k - 1) (by omega) ⟨i + 1, p4, c4, by omega, rfl, hO.news f3 f4 (Nat.le_refl _), ?_⟩
      rw [List.replicate_succ', ← List.append_assoc]
      exact hO4
    · have hil : i = 14 - l := by omega
      subst hil
      unfold ref14_Block_j1
      rw [u8wrap, u8wrap]
      refine mkL (xs := [UInt8.ofNat m, UInt8.ofNat ps]) rfl rfl (by kernel_rfl) fun pn w4 f4 hN s4 => ?_
      have f34 := f3.then f4
      refine pushN (hO.fr0 f4) f34.size hN.row rfl (by simp only [List.length_cons, List.length_nil]; omega) fun p5 c5 w5 f5 hO5 => ?_
      have e : 0 + l + (14 - l) + [UInt8.ofNat m, UInt8.ofNat ps].length = 16 := by simp only [List.length_cons, List.length_nil]; omega
      rw [e] at hO5 ⊢
      refine hok ⟨hfit, by omega, by omega⟩ p5 c5 w5 ((hO.fr0 f4).news f34 f5 (Nat.le_refl _)) ?_
      rw [Int.toNat_natCast, Int.toNat_natCast]
      unfold blockL
      rw [← hl]
      exact hO5
  · rw [decide_eq_false hfit]
    exact cond_t (hbad (fun h => hfit h.1))
theorem refXor_eq {fr to_ enc : List UInt8} {l : Nat} (hl : l = to_.length) (he : enc.length = 16) (h16 : l ≤ 16) : bl l (fun j => fl to_ j ^^^ fl enc j) = xorL (enc.take l) to_ := by
  have ht : (enc.take l).length = to_.length := by rw [List.length_take]; omega
  refine fl_ext (by rw [bl_len, xorL_len ht]; exact hl) fun j hj => ?_
  rw [bl_len] at hj
  have e1 : fl (bl l (fun j => fl to_ j ^^^ fl enc j)) j = fl to_ j ^^^ fl enc j := bl_getD hj
  have e2 : fl (xorL (enc.take l) to_) j = fl (enc.take l) j ^^^ fl to_ j := xorL_getD ht (by omega)
  rw [e1, e2, fl_take, if_pos hj, UInt8.xor_comm]
set_option maxHeartbeats 1000000 in
theorem refOnto_c {w : World} {pk p2 p3 : Option Addr} {lk ck l2 c2 l3 c3 : Nat} {key fr to_ : List UInt8} (hK : Row w pk (key.map vb)) (hlk : lk = key.length) (hk16 : key.length = 16) (hck : lk ≤ ck)
    (hF : Row w p2 (fr.map vb)) (hl2 : l2 = fr.length) (hlb : l2 < 1000000)
    (hT : Row w p3 (to_.map vb)) (hl3 : l3 = to_.length) (n pass : Int) (left : Bool) {K : Value → World → Prop}
    (hbad : ¬ okO fr to_ n pass → ∀ w', Fr [] w w' → K (.tuple #[.slice none 0 0, .int .i64 11]) w')
    (hok : okO fr to_ n pass → ∀ q e w', Fr [] w w' → OB w' q l3 e (ontoL key fr to_ n.toNat pass.toNat left) w.heap.size → K (.tuple #[.slice q l3 e, .int .i64 0]) w') :
    callF Tryz.prog F_ref15_onto #[.slice pk lk ck, .slice p2 l2 c2, .slice p3 l3 c3, .int .i64 n, .int .i64 pass, .bool left] w K := by
  apply ref15_onto_call
  unfold ref15_onto
  refine refBlock_c hF hl2 hlb n pass (fun hb => ⟨_, _, _, _, rfl, cond_t (hbad (fun h => hb h.1) w (Fr.refl _ _))⟩) fun hb q e w1 f1 hO1 => ⟨_, _, _, _, rfl, cond_f ?_⟩
  refine cond_ne (fun hne => hbad (fun h => by have := h.2; omega) w1 f1) fun heq => ?_
  have hlen : to_.length = fr.length := by omega
  have hoko : okO fr to_ n pass := ⟨hb, hlen⟩
  obtain ⟨hfit, hp0, hp1⟩ := hb
  obtain ⟨hn2, hn28, hfl⟩ := fit1.1 hfit
  have h14 : hsz n.toNat ≤ 14 := hsz_le (by omega)
  unfold ref15_onto_j2
  have hbl := blockL_len (h := fr) n.toNat pass.toNat (by omega)
  refine refEncrypt_c (hK.fr0 f1) hlk hk16 hck hO1.row hO1.2.1 hbl fun pe ce w2 f2 hE => ⟨_, _, _, rfl, ?_⟩
  refine mk0 fun p0 w3 f3 hO3 s3 => ?_
  obtain ⟨enc, henc⟩ : ∃ enc, enc = aencL key (blockL fr n.toNat pass.toNat) := ⟨_, rfl⟩
  rw [← henc] at hE
  have helen : enc.length = 16 := hE.2.1.symm
  have f12 := f1.then f2
  have f13 := f12.then f3
  have hE3 := hE.fr0 f3
  refine LoopS.ind (fun k us w' => ∃ (i : Nat) (p1 : Option Addr) (c1 : Nat), i + k = l3 ∧ us = [.slice p3 l3 c3, .int .i64 n, .bool left, .slice none 0 0, .int .i64 0, .slice pe 16 ce, .slice p1 i c1, .int .i64 (i : Int)] ∧ Fr [] w2 w' ∧ OB w' p1 i c1 (bl i (fun j => fl to_ j ^^^ fl enc j)) w2.heap.size) l3
    ⟨0, p0, 0, by omega, rfl, f3, hO3⟩ ?_
  rintro k us r w4 I μ hgo ⟨i, p1, c1, hi, rfl, f4, hO⟩
  refine ⟨_, _, _, _, _, _, _, _, _, _, _, _, _, _, _, _, rfl, cond_d (fun h3 => ?_) (fun h3 => ?_)⟩
  · have hil : i < l3 := by omega
    obtain ⟨a, ha, hca⟩ := row_get (t := T_S_uint8) (by kernel_rfl) (hT.fr0 (f12.then f4)) (c := c3) hl3 hil (k := .i64)
    obtain ⟨b, hb', hcb⟩ := (hE.fr0 f4).get (k := .i64) (i := i) (by omega)
    refine ⟨fun w' => w'.cell? a = some (vb (to_.getD i 0)), Drw.intro fun w5 f5 s5 => ?_⟩
    refine ⟨a, ha, b, hb', _, ⟨f5.cell hca (by simp), fun w' hw' => Ld.cell (by kernel_rfl) hw'⟩, _, Ld.cell (by kernel_rfl) (f5.cell hcb (by simp)), .inl rfl, ?_⟩
    rw [xor8]
    have f45 := f4.then f5
    refine push1 (hO.fr0 f5) f45.size (by omega) fun p' c' w6 f6 hO6 => ?_
    rw [wrap64 (by omega) (by omega)]
    refine hgo _ _ _ (k - 1) (by omega) ⟨i + 1, p', c', by omega, rfl, (hO.fr0 f5).news f45 f6 (Nat.le_refl _), ?_⟩
    rw [bl_snoc]
    exact hO6
  · have hil : i = l3 := by omega
    subst hil
    unfold ref15_onto_j1
    have ex := refXor_eq (fr := fr) hl3 helen (by omega)
    rw [ex] at hO
    have hxl : (xorL (enc.take i) to_).length = i := hO.2.1.symm
    have hfit2 : fitN n [xorL (enc.take i) to_] := fit1.2 ⟨hn2, hn28, by rw [hxl]; omega⟩
    refine refTrim_c hO.row hO.2.1 (by omega) n left (fun h => absurd hfit2 h) fun _ qt dt w5 f5 hO5 => ⟨_, _, _, _, rfl, ?_⟩
    have f24 := f12.then f4
    refine hok hoko qt dt w5 (f24.then f5) ?_
    have := hO5.mono f24.size
    rw [hl3, henc] at this
    rw [hl3]
    exact this
set_option maxHeartbeats 1000000 in
theorem refPass_c {w : World} {pk p1 p2 : Option Addr} {lk ck l1 c1 l2 c2 : Nat} {key ls rs : List UInt8} (hK : Row w pk (key.map vb)) (hlk : lk = key.length) (hk16 : key.length = 16) (hck : lk ≤ ck)
    (hL : Row w p1 (ls.map vb)) (hl1 : l1 = ls.length) (hb1 : l1 < 1000000) (hR : Row w p2 (rs.map vb)) (hl2 : l2 = rs.length) (hb2 : l2 < 1000000) (n pass : Int) {K : Value → World → Prop}
    (hbad : ¬ okP (ls, rs) n pass → ∀ w', Fr [] w w' → K (.tuple #[.slice none 0 0, .slice none 0 0, .int .i64 11]) w')
    (hok : okP (ls, rs) n pass → ∀ q1 e1 q2 e2 w', Fr [] w w' → OB w' q1 (passL key n.toNat pass.toNat (ls, rs)).1.length e1 (passL key n.toNat pass.toNat (ls, rs)).1 w.heap.size → OB w' q2 (passL key n.toNat pass.toNat (ls, rs)).2.length e2 (passL key n.toNat pass.toNat (ls, rs)).2 w.heap.size →
      K (.tuple #[.slice q1 (passL key n.toNat pass.toNat (ls, rs)).1.length e1, .slice q2 (passL key n.toNat pass.toNat (ls, rs)).2.length e2, .int .i64 0]) w') :
    callF Tryz.prog F_ref15_Pass #[.slice pk lk ck, .slice p1 l1 c1, .slice p2 l2 c2, .int .i64 n, .int .i64 pass] w K := by
  apply ref15_Pass_call
  unfold ref15_Pass
  have hpar : okP (ls, rs) n pass → (pass.toNat % 2 = 0 ↔ Int.tmod pass 2 = 0) := by
    intro h
    have hp : 0 ≤ pass := by
      unfold okP okO okB at h
      split at h <;> exact h.1.2.1
    obtain ⟨m, rfl⟩ := Int.eq_ofNat_of_zero_le hp
    rw [Int.toNat_natCast, tm2]; omega
  refine cond_eq (fun heq => ?_) (fun hne => ?_)
  · have hP : okP (ls, rs) n pass ↔ okO rs ls n pass := by unfold okP; rw [if_pos heq]
    refine refOnto_c hK hlk hk16 hck hR hl2 hb2 hL hl1 n pass true (fun hb w1 f1 => ⟨_, _, _, _, rfl, cond_t (hbad (fun h => hb (hP.1 h)) w1 f1)⟩) fun hO q e w1 f1 hO1 => ⟨_, _, _, _, rfl, cond_f ?_⟩
    refine mk0 fun p0 w2 f2 hO2 s2 => ?_
    refine pushN hO2 f2.size (hR.fr0 (f1.then f2)) hl2 (by omega) fun p3 c3 w3 f3 hO3 => ?_
    rw [List.nil_append, Nat.zero_add] at hO3
    rw [Nat.zero_add]
    have f13 : Fr [] w1 w3 := hO2.news f2 f3 (Nat.le_refl _)
    have ep : passL key n.toNat pass.toNat (ls, rs) = (ontoL key rs ls n.toNat pass.toNat true, rs) := by unfold passL; rw [if_pos ((hpar (hP.2 hO)).2 heq)]
    have hll : (ontoL key rs ls n.toNat pass.toNat true).length = l1 := hO1.2.1.symm
    have := hok (hP.2 hO) q e p3 c3 w3 (f1.then f13)
    rw [ep] at this
    simp only at this
    rw [hll, ← hl2] at this
    exact this (hO1.fr0 f13) (hO3.mono f1.size)
  · have hP : okP (ls, rs) n pass ↔ okO ls rs n pass := by unfold okP; rw [if_neg hne]
    refine refOnto_c hK hlk hk16 hck hL hl1 hb1 hR hl2 n pass false (fun hb w1 f1 => ⟨_, _, _, _, rfl, cond_t (hbad (fun h => hb (hP.1 h)) w1 f1)⟩) fun hO q e w1 f1 hO1 => ⟨_, _, _, _, rfl, cond_f ?_⟩
    refine mk0 fun p0 w2 f2 hO2 s2 => ?_
    refine pushN hO2 f2.size (hL.fr0 (f1.then f2)) hl1 (by omega) fun p3 c3 w3 f3 hO3 => ?_
    rw [List.nil_append, Nat.zero_add] at hO3
    rw [Nat.zero_add]
    have f13 : Fr [] w1 w3 := hO2.news f2 f3 (Nat.le_refl _)
    have ep : passL key n.toNat pass.toNat (ls, rs) = (ls, ontoL key ls rs n.toNat pass.toNat false) := by unfold passL; rw [if_neg (fun h => hne ((hpar (hP.2 hO)).1 h))]
    have hll : (ontoL key ls rs n.toNat pass.toNat false).length = l2 := hO1.2.1.symm
    have := hok (hP.2 hO) p3 c3 q e w3 (f1.then f13)
    rw [ep] at this
    simp only at this
    rw [hll, ← hl1] at this
    exact this (hO3.mono f1.size) (hO1.fr0 f13)
end Go.Sh
end

section
namespace Go.Sh
open Go Go.Fw Go.Proofs
set_option maxRecDepth 100000
set_option linter.unusedVariables false
set_option maxHeartbeats 1000000 in
theorem refPasses_c {w : World} {pk p1 p2 : Option Addr} {lk ck l1 c1 l2 c2 : Nat} {key xs : List UInt8} {ps : List Int} (hK : Row w pk (key.map vb)) (hlk : lk = key.length) (hk16 : key.length = 16) (hck : lk ≤ ck)
    (hX : Row w p1 (xs.map vb)) (hl1 : l1 = xs.length) (hb1 : l1 < 1000000) (hS : Row w p2 (ps.map vi)) (hl2 : l2 = ps.length) (hb2 : l2 < 1000000) {K : Value → World → Prop}
    (hbad : ¬ (2 ≤ l1 ∧ l1 ≤ 28 ∧ ∀ p ∈ ps, 0 ≤ p ∧ p ≤ 255) → ∀ w', Fr [] w w' → K (.tuple #[.slice none 0 0, .int .i64 11]) w')
    (hok : (2 ≤ l1 ∧ l1 ≤ 28 ∧ ∀ p ∈ ps, 0 ≤ p ∧ p ≤ 255) → ∀ q e w', Fr [] w w' → OB w' q l1 e (passesL key xs (ps.map Int.toNat)) w.heap.size → K (.tuple #[.slice q l1 e, .int .i64 0]) w') :
    callF Tryz.prog F_ref15_Passes #[.slice pk lk ck, .slice p1 l1 c1, .slice p2 l2 c2] w K := by
  apply ref15_Passes_call
  unfold ref15_Passes
  have done : ∀ p8 l8 c8 p9 l9 c9 w', Fr [] w w' → ¬ (2 ≤ l1 ∧ l1 ≤ 28 ∧ ∀ p ∈ ps, 0 ≤ p ∧ p ≤ 255) → ref15_Passes_j2 p1 l1 c1 none 0 0 0 p8 l8 c8 p9 l9 c9 11 w' K := by
    intro p8 l8 c8 p9 l9 c9 w' f hb
    unfold ref15_Passes_j2
    exact cond_t (hbad hb w' f)
  -- the loop
  have loop : ∀ (q1 : Option Addr) (m1 d1 : Nat) (q2 : Option Addr) (m2 d2 : Nat) (err : Int) (w1 : World), Fr [] w w1 →
      ((err = 11 ∧ ¬ (2 ≤ l1 ∧ l1 ≤ 28 ∧ ∀ p ∈ ps, 0 ≤ p ∧ p ≤ 255)) ∨ (err = 0 ∧ 2 ≤ l1 ∧ l1 ≤ 28 ∧ m1 = hsz l1 ∧ m2 = hsz l1 ∧ OB w1 q1 m1 d1 (cutL xs).1 w.heap.size ∧ OB w1 q2 m2 d2 (cutL xs).2 w.heap.size)) →
      LoopS [.slice pk lk ck, .slice p1 l1 c1, .slice p2 l2 c2, .slice none 0 0, .int .i64 0, .slice q1 m1 d1, .slice q2 m2 d2, .int .i64 err, .int .i64 0] w1 fun I1 μ1 us1 _ wl1 =>
        ∃ (p0_1 : Option Addr) (l0_1 : Nat) (c0_1 : Nat) (p1_1 : Option Addr) (l1_1 : Nat) (c1_1 : Nat) (p2_1 : Option Addr) (l2_1 : Nat) (c2_1 : Nat) (p6 : Option Addr) (l6 : Nat) (c6 : Nat) (n7 : Int) (p8 : Option Addr) (l8 : Nat) (c8 : Nat) (p9 : Option Addr) (l9 : Nat) (c9 : Nat) (n10 : Int) (n11 : Int), us1 = [.slice p0_1 l0_1 c0_1, .slice p1_1 l1_1 c1_1, .slice p2_1 l2_1 c2_1, .slice p6 l6 c6, .int .i64 n7, .slice p8 l8 c8, .slice p9 l9 c9, .int .i64 n10, .int .i64 n11] ∧
        cond (decide (n11 < ((l2_1 : Nat) : Int)))
        (cond (n10 == 0)
          (ref15_Passes_j1 I1 μ1 us1 wl1 p0_1 l0_1 c0_1 p1_1 l1_1 c1_1 p2_1 l2_1 c2_1 p6 l6 c6 n7 p8 l8 c8 p9 l9 c9 n10 n11 wl1 K)
          (ref15_Passes_j2 p1_1 l1_1 c1_1 p6 l6 c6 n7 p8 l8 c8 p9 l9 c9 n10 wl1 K))
        (ref15_Passes_j2 p1_1 l1_1 c1_1 p6 l6 c6 n7 p8 l8 c8 p9 l9 c9 n10 wl1 K) := by
    intro q1 m1 d1 q2 m2 d2 err w1 f1 hst
    refine LoopS.ind (fun k us w' => ∃ (q1 : Option Addr) (m1 d1 : Nat) (q2 : Option Addr) (m2 d2 : Nat) (err : Int) (i : Nat), i + k = l2 ∧ us = [.slice pk lk ck, .slice p1 l1 c1, .slice p2 l2 c2, .slice none 0 0, .int .i64 0, .slice q1 m1 d1, .slice q2 m2 d2, .int .i64 err, .int .i64 (i : Int)] ∧ Fr [] w w' ∧
      ((err = 11 ∧ ¬ (2 ≤ l1 ∧ l1 ≤ 28 ∧ ∀ p ∈ ps, 0 ≤ p ∧ p ≤ 255)) ∨ (err = 0 ∧ 2 ≤ l1 ∧ l1 ≤ 28 ∧ m1 = hsz l1 ∧ m2 = hsz l1 ∧ OB w' q1 m1 d1 (runL key l1 ((ps.take i).map Int.toNat) (cutL xs)).1 w.heap.size ∧ OB w' q2 m2 d2 (runL key l1 ((ps.take i).map Int.toNat) (cutL xs)).2 w.heap.size ∧ ∀ j, j < i → 0 ≤ ps.getD j 0 ∧ ps.getD j 0 ≤ 255))) l2
      ⟨q1, m1, d1, q2, m2, d2, err, 0, by omega, rfl, f1, ?_⟩ ?_
    · rcases hst with h | ⟨e0, h2, h28, hm1, hm2, hO1, hO2⟩
      · exact .inl h
      · exact .inr ⟨e0, h2, h28, hm1, hm2, hO1, hO2, by omega⟩
    rintro k us rr w4 I μ hgo ⟨q1, m1, d1, q2, m2, d2, err, i, hi, rfl, f4, hst⟩
    refine ⟨_, _, _, _, _, _, _, _, _, _, _, _, _, _, _, _, _, _, _, _, _, rfl, ?_⟩
    rcases hst with ⟨rfl, hb⟩ | ⟨rfl, h2, h28, hm1, hm2, hO1, hO2, hps⟩
    · exact cond_d (fun _ => cond_f (done _ _ _ _ _ _ w4 f4 hb)) (fun _ => done _ _ _ _ _ _ w4 f4 hb)
    have hg := cutL_good xs
    rw [← hl1] at hg
    have hgi : goodP l1 (runL key l1 ((ps.take i).map Int.toNat) (cutL xs)) := runL_good h28 _ hg
    refine cond_d (fun h3 => cond_t ?_) (fun h3 => ?_)
    · have hil : i < l2 := by omega
      have hS4 := hS.fr0 f4
      unfold ref15_Passes_j1
      obtain ⟨a, ha, hca⟩ := ixR (P := Tryz.prog) (t := T_S_int) (by kernel_rfl) hS4 (cap := c2) (k := .i64) (i := (i : Int)) (len := l2) (by simpa using hl2) (by omega) (by omega) (v := vi (ps.getD i 0)) (by
        rw [Int.toNat_natCast, List.getElem?_map, List.getElem?_eq_getElem (by omega), List.getD_eq_getElem?_getD, List.getElem?_eq_getElem (by omega)]; rfl)
      refine ⟨a, ha, _, Ld.cell (by kernel_rfl) hca, ?_⟩
      have hin : ps.getD i 0 ∈ ps := by rw [List.getD_eq_getElem?_getD, List.getElem?_eq_getElem (by omega)]; simp
      have hsl := hsz_le h28
      refine refPass_c (hK.fr0 f4) hlk hk16 hck hO1.row hO1.2.1 (by omega) hO2.row hO2.2.1 (by omega) (l1 : Int) (ps.getD i 0) (fun hb w5 f5 => ⟨_, _, _, _, _, _, _, rfl, ?_⟩) fun hO r1 e1 r2 e2 w5 f5 hr1 hr2 => ⟨_, _, _, _, _, _, _, rfl, ?_⟩
      · rw [wrap64 (by omega) (by omega)]
        exact hgo _ _ _ (k - 1) (by omega) ⟨_, _, _, _, _, _, _, i + 1, by omega, rfl, f4.then f5, .inl ⟨rfl, fun h => hb ((okP_good h2 h28 hgi _).2 (h.2.2 _ hin))⟩⟩
      · have hp := (okP_good h2 h28 hgi _).1 hO
        rw [wrap64 (by omega) (by omega)]
        have e : (ps.take (i + 1)).map Int.toNat = (ps.take i).map Int.toNat ++ [(ps.getD i 0).toNat] := by
          rw [List.take_add_one, List.getElem?_eq_getElem (by omega), List.map_append, List.getD_eq_getElem?_getD, List.getElem?_eq_getElem (by omega)]; rfl
        have hg2 : goodP l1 (passL key l1 (ps.getD i 0).toNat (runL key l1 ((ps.take i).map Int.toNat) (cutL xs))) := passL_good h28 hgi
        rw [Int.toNat_natCast] at hr1 hr2 ⊢
        refine hgo _ _ _ (k - 1) (by omega) ⟨_, _, _, _, _, _, _, i + 1, by omega, rfl, f4.then f5, .inr ⟨rfl, h2, h28, hg2.1.1, hg2.2.1, ?_, ?_, fun j hj => ?_⟩⟩
        · rw [e, runL_snoc]; exact hr1.mono f4.size
        · rw [e, runL_snoc]; exact hr2.mono f4.size
        · by_cases hji : j = i
          · subst hji; exact hp
          · exact hps j (by omega)
    · have hil : i = l2 := by omega
      subst hil
      rw [List.take_of_length_le (by omega)] at hO1 hO2 hgi
      unfold ref15_Passes_j2
      refine cond_f ?_
      have hall : ∀ p ∈ ps, 0 ≤ p ∧ p ≤ 255 := fun p hp => by
        obtain ⟨j, hj, rfl⟩ := List.getElem_of_mem hp
        have := hps j (by omega)
        rwa [List.getD_eq_getElem?_getD, List.getElem?_eq_getElem hj] at this
      have hsl := hsz_le h28
      have hfit : fitN (l1 : Int) [(runL key l1 (ps.map Int.toNat) (cutL xs)).1, (runL key l1 (ps.map Int.toNat) (cutL xs)).2] := fit2.2 ⟨by omega, by omega, by rw [Int.toNat_natCast]; exact hgi.1.1, by rw [Int.toNat_natCast]; exact hgi.2.1⟩
      refine refJoin_c hO1.row hO1.2.1 (by omega) hO2.row hO2.2.1 (by omega) (l1 : Int) (fun h => absurd hfit h) (fun _ h => absurd (by rw [Int.toNat_natCast]; exact okJ_good h2 hgi) h) fun _ _ po co w5 f5 hO5 => ⟨_, _, _, _, rfl, ?_⟩
      rw [Int.toNat_natCast] at hO5 ⊢
      refine hok ⟨h2, h28, hall⟩ po co w5 (f4.then f5) ?_
      unfold passesL
      rw [← hl1]
      exact hO5.mono f4.size
  refine refCut_c hX hl1 hb1 (fun hb => ⟨_, _, _, _, _, _, _, rfl, loop _ _ _ _ _ _ _ w (Fr.refl _ _) (.inl ⟨rfl, fun h => hb ⟨h.1, h.2.1⟩⟩)⟩) fun hl q1 d1 q2 d2 w1 f1 hO1 hO2 => ⟨_, _, _, _, _, _, _, rfl, loop _ _ _ _ _ _ _ w1 f1 (.inr ⟨rfl, hl.1, hl.2, rfl, rfl, hO1, hO2⟩)⟩
end Go.Sh
end
