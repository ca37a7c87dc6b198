/- A part of a proof of a given law of this program: lemmas, printed forms of its functions, contracts. It has no conditions of its own. -/
import Derived.Test.YtcfealonnakdcaaGreatMC3
import Derived.Test.YtcfealonnakdcaaGreatMS2
import Derived.Test.YtcfealonnakdcaaGreatMC0
import Derived.Test.YtcfealonnakdcaaGreatMC2
import Derived.Test.YtcfealonnakdcaaGreatMS3
import Derived.Test.YtcfealonnakdcaaGreatMC1
import Derived.Test.YtcfealonnakdcaaGreatMW1

section
namespace Go.Sh
open Go Go.Fw Go.Proofs
set_option maxRecDepth 100000
set_option linter.unusedVariables false
set_option maxHeartbeats 1000000 in
theorem refBlock_c {w : World} {p : Option Addr} {l c : Nat} {xs : List UInt8} (hR : Row w p (xs.map vb)) (hl : l = xs.length) (hlb : l < 1000000) (n pass : Int) {K : Value → World → Prop}
    (hbad : ¬ okB xs n pass → K (.tuple #[.slice none 0 0, .int .i64 11]) w) (hok : okB xs n pass → ∀ q d w', Fr [] w w' → OB w' q 16 d (blockL xs n.toNat pass.toNat) w.heap.size → K (.tuple #[.slice q 16 d, .int .i64 0]) w') :
    callF Tryz.prog F_ref14_Block #[.slice p l c, .int .i64 n, .int .i64 pass] w K := by
  apply ref14_Block_call
  unfold ref14_Block
  refine fit_c hl ⟨_, rfl, ?_⟩
  by_cases hfit : fitN n [xs]
  · rw [decide_eq_true hfit]
    refine cond_f (cond_d (fun h1 => hbad (fun h => by have := h.2; omega)) fun h1 => cond_d (fun h2 => hbad (fun h => by have := h.2; omega)) fun h2 => ?_)
    unfold ref14_Block_j2
    obtain ⟨h2', h28, hlen⟩ := fit1.1 hfit
    obtain ⟨m, rfl⟩ := Int.eq_ofNat_of_zero_le (show 0 ≤ n by omega)
    obtain ⟨ps, rfl⟩ := Int.eq_ofNat_of_zero_le (show 0 ≤ pass by omega)
    rw [Int.toNat_natCast] at hlen
    have hs := hsz_two m
    refine mk0 fun p0 w1 f1 hO1 s1 => ?_
    refine pushN hO1 f1.size (hR.fr0 f1) hl (by omega) fun p1 c1 w2 f2 hO2 => ?_
    rw [List.nil_append] at hO2
    have f02 : Fr [] w w2 := hO1.news f1 f2 (Nat.le_refl _)
    refine LoopS.ind (fun k us w' => ∃ (i : Nat) (p1 : Option Addr) (c1 : Nat), i + k = 14 - l ∧ us = [.int .i64 (m : Int), .int .i64 (ps : Int), .slice none 0 0, .int .i64 0, .slice p1 (0 + l + i) c1] ∧ Fr [] w w' ∧ OB w' p1 (0 + l + i) c1 (xs ++ List.replicate i 0) w.heap.size) (14 - l)
      ⟨0, p1, c1, by omega, rfl, f02, by rw [List.replicate_zero, List.append_nil]; exact hO2⟩ ?_
    rintro k us r w3 I μ hgo ⟨i, p2, c2, hi, rfl, f3, hO⟩
    refine ⟨_, _, _, _, _, _, _, _, _, rfl, cond_d (fun h3 => ?_) (fun h3 => ?_)⟩
    · refine push1 (x := 0) hO f3.size (by omega) fun p4 c4 w4 f4 hO4 => ?_
      refine hgo _ _ _ (k - 1) (by omega) ⟨i + 1, p4, c4, by omega, rfl, hO.news f3 f4 (Nat.le_refl _), ?_⟩
      rw [List.replicate_succ', ← List.append_assoc]
      exact hO4
    · have hil : i = 14 - l := by omega
      subst hil
      unfold ref14_Block_j1
      rw [u8wrap, u8wrap]
      refine mkL (xs := [UInt8.ofNat m, UInt8.ofNat ps]) rfl rfl (by kernel_rfl) fun pn w4 f4 hN s4 => ?_
      have f34 := f3.then f4
      refine pushN (hO.fr0 f4) f34.size hN.row rfl (by simp only [List.length_cons, List.length_nil]; omega) fun p5 c5 w5 f5 hO5 => ?_
      have e : 0 + l + (14 - l) + [UInt8.ofNat m, UInt8.ofNat ps].length = 16 := by simp only [List.length_cons, List.length_nil]; omega
      rw [e] at hO5 ⊢
      refine hok ⟨hfit, by omega, by omega⟩ p5 c5 w5 ((hO.fr0 f4).news f34 f5 (Nat.le_refl _)) ?_
      rw [Int.toNat_natCast, Int.toNat_natCast]
      unfold blockL
      rw [← hl]
      exact hO5
  · rw [decide_eq_false hfit]
    exact cond_t (hbad (fun h => hfit h.1))
theorem refXor_eq {fr to_ enc : List UInt8} {l : Nat} (hl : l = to_.length) (he : enc.length = 16) (h16 : l ≤ 16) : bl l (fun j => fl to_ j ^^^ fl enc j) = xorL (enc.take l) to_ := by
  have ht : (enc.take l).length = to_.length := by rw [List.length_take]; omega
  refine fl_ext (by rw [bl_len, xorL_len ht]; exact hl) fun j hj => ?_
  rw [bl_len] at hj
  have e1 : fl (bl l (fun j => fl to_ j ^^^ fl enc j)) j = fl to_ j ^^^ fl enc j := bl_getD hj
  have e2 : fl (xorL (enc.take l) to_) j = fl (enc.take l) j ^^^ fl to_ j := xorL_getD ht (by omega)
  rw [e1, e2, fl_take, if_pos hj, UInt8.xor_comm]
set_option maxHeartbeats 1000000 in
theorem refOnto_c {w : World} {pk p2 p3 : Option Addr} {lk ck l2 c2 l3 c3 : Nat} {key fr to_ : List UInt8} (hK : Row w pk (key.map vb)) (hlk : lk = key.length) (hk16 : key.length = 16) (hck : lk ≤ ck)
    (hF : Row w p2 (fr.map vb)) (hl2 : l2 = fr.length) (hlb : l2 < 1000000)
    (hT : Row w p3 (to_.map vb)) (hl3 : l3 = to_.length) (n pass : Int) (left : Bool) {K : Value → World → Prop}
    (hbad : ¬ okO fr to_ n pass → ∀ w', Fr [] w w' → K (.tuple #[.slice none 0 0, .int .i64 11]) w')
    (hok : okO fr to_ n pass → ∀ q e w', Fr [] w w' → OB w' q l3 e (ontoL key fr to_ n.toNat pass.toNat left) w.heap.size → K (.tuple #[.slice q l3 e, .int .i64 0]) w') :
    callF Tryz.prog F_ref15_onto #[.slice pk lk ck, .slice p2 l2 c2, .slice p3 l3 c3, .int .i64 n, .int .i64 pass, .bool left] w K := by
  apply ref15_onto_call
  unfold ref15_onto
  refine refBlock_c hF hl2 hlb n pass (fun hb => ⟨_, _, _, _, rfl, cond_t (hbad (fun h => hb h.1) w (Fr.refl _ _))⟩) fun hb q e w1 f1 hO1 => ⟨_, _, _, _, rfl, cond_f ?_⟩
  refine cond_ne (fun hne => hbad (fun h => by have := h.2; omega) w1 f1) fun heq => ?_
  have hlen : to_.length = fr.length := by omega
  have hoko : okO fr to_ n pass := ⟨hb, hlen⟩
  obtain ⟨hfit, hp0, hp1⟩ := hb
  obtain ⟨hn2, hn28, hfl⟩ := fit1.1 hfit
  have h14 : hsz n.toNat ≤ 14 := hsz_le (by omega)
  unfold ref15_onto_j2
  have hbl := blockL_len (h := fr) n.toNat pass.toNat (by omega)
  refine refEncrypt_c (hK.fr0 f1) hlk hk16 hck hO1.row hO1.2.1 hbl fun pe ce w2 f2 hE => ⟨_, _, _, rfl, ?_⟩
  refine mk0 fun p0 w3 f3 hO3 s3 => ?_
  obtain ⟨enc, henc⟩ : ∃ enc, enc = aencL key (blockL fr n.toNat pass.toNat) := ⟨_, rfl⟩
  rw [← henc] at hE
  have helen : enc.length = 16 := hE.2.1.symm
  have f12 := f1.then f2
  have f13 := f12.then f3
  have hE3 := hE.fr0 f3
  refine LoopS.ind (fun k us w' => ∃ (i : Nat) (p1 : Option Addr) (c1 : Nat), i + k = l3 ∧ us = [.slice p3 l3 c3, .int .i64 n, .bool left, .slice none 0 0, .int .i64 0, .slice pe 16 ce, .slice p1 i c1, .int .i64 (i : Int)] ∧ Fr [] w2 w' ∧ OB w' p1 i c1 (bl i (fun j => fl to_ j ^^^ fl enc j)) w2.heap.size) l3
    ⟨0, p0, 0, by omega, rfl, f3, hO3⟩ ?_
  rintro k us r w4 I μ hgo ⟨i, p1, c1, hi, rfl, f4, hO⟩
  refine ⟨_, _, _, _, _, _, _, _, _, _, _, _, _, _, _, _, rfl, cond_d (fun h3 => ?_) (fun h3 => ?_)⟩
  · have hil : i < l3 := by omega
    obtain ⟨a, ha, hca⟩ := row_get (t := T_S_uint8) (by kernel_rfl) (hT.fr0 (f12.then f4)) (c := c3) hl3 hil (k := .i64)
    obtain ⟨b, hb', hcb⟩ := (hE.fr0 f4).get (k := .i64) (i := i) (by omega)
    refine ⟨fun w' => w'.cell? a = some (vb (to_.getD i 0)), Drw.intro fun w5 f5 s5 => ?_⟩
    refine ⟨a, ha, b, hb', _, ⟨f5.cell hca (by simp), fun w' hw' => Ld.cell (by kernel_rfl) hw'⟩, _, Ld.cell (by kernel_rfl) (f5.cell hcb (by simp)), .inl rfl, ?_⟩
    rw [xor8]
    have f45 := f4.then f5
    refine push1 (hO.fr0 f5) f45.size (by omega) fun p' c' w6 f6 hO6 => ?_
    rw [wrap64 (by omega) (by omega)]
    refine hgo _ _ _ (k - 1) (by omega) ⟨i + 1, p', c', by omega, rfl, (hO.fr0 f5).news f45 f6 (Nat.le_refl _), ?_⟩
    rw [bl_snoc]
    exact hO6
  · have hil : i = l3 := by omega
    subst hil
    unfold ref15_onto_j1
    have ex := refXor_eq (fr := fr) hl3 helen (by omega)
    rw [ex] at hO
    have hxl : (xorL (enc.take i) to_).length = i := hO.2.1.symm
    have hfit2 : fitN n [xorL (enc.take i) to_] := fit1.2 ⟨hn2, hn28, by rw [hxl]; omega⟩
    refine refTrim_c hO.row hO.2.1 (by omega) n left (fun h => absurd hfit2 h) fun _ qt dt w5 f5 hO5 => ⟨_, _, _, _, rfl, ?_⟩
    have f24 := f12.then f4
    refine hok hoko qt dt w5 (f24.then f5) ?_
    have := hO5.mono f24.size
    rw [hl3, henc] at this
    rw [hl3]
    exact this
set_option maxHeartbeats 1000000 in
theorem refPass_c {w : World} {pk p1 p2 : Option Addr} {lk ck l1 c1 l2 c2 : Nat} {key ls rs : List UInt8} (hK : Row w pk (key.map vb)) (hlk : lk = key.length) (hk16 : key.length = 16) (hck : lk ≤ ck)
    (hL : Row w p1 (ls.map vb)) (hl1 : l1 = ls.length) (hb1 : l1 < 1000000) (hR : Row w p2 (rs.map vb)) (hl2 : l2 = rs.length) (hb2 : l2 < 1000000) (n pass : Int) {K : Value → World → Prop}
    (hbad : ¬ okP (ls, rs) n pass → ∀ w', Fr [] w w' → K (.tuple #[.slice none 0 0, .slice none 0 0, .int .i64 11]) w')
    (hok : okP (ls, rs) n pass → ∀ q1 e1 q2 e2 w', Fr [] w w' → OB w' q1 (passL key n.toNat pass.toNat (ls, rs)).1.length e1 (passL key n.toNat pass.toNat (ls, rs)).1 w.heap.size → OB w' q2 (passL key n.toNat pass.toNat (ls, rs)).2.length e2 (passL key n.toNat pass.toNat (ls, rs)).2 w.heap.size →
      K (.tuple #[.slice q1 (passL key n.toNat pass.toNat (ls, rs)).1.length e1, .slice q2 (passL key n.toNat pass.toNat (ls, rs)).2.length e2, .int .i64 0]) w') :
    callF Tryz.prog F_ref15_Pass #[.slice pk lk ck, .slice p1 l1 c1, .slice p2 l2 c2, .int .i64 n, .int .i64 pass] w K := by
  apply ref15_Pass_call
  unfold ref15_Pass
  have hpar : okP (ls, rs) n pass → (pass.toNat % 2 = 0 ↔ Int.tmod pass 2 = 0) := by
    intro h
    have hp : 0 ≤ pass := by
      unfold okP okO okB at h
      split at h <;> exact h.1.2.1
    obtain ⟨m, rfl⟩ := Int.eq_ofNat_of_zero_le hp
    rw [Int.toNat_natCast, tm2]; omega
  refine cond_eq (fun heq => ?_) (fun hne => ?_)
  · have hP : okP (ls, rs) n pass ↔ okO rs ls n pass := by unfold okP; rw [if_pos heq]
    refine refOnto_c hK hlk hk16 hck hR hl2 hb2 hL hl1 n pass true (fun hb w1 f1 => ⟨_, _, _, _, rfl, cond_t (hbad (fun h => hb (hP.1 h)) w1 f1)⟩) fun hO q e w1 f1 hO1 => ⟨_, _, _, _, rfl, cond_f ?_⟩
    refine mk0 fun p0 w2 f2 hO2 s2 => ?_
    refine pushN hO2 f2.size (hR.fr0 (f1.then f2)) hl2 (by omega) fun p3 c3 w3 f3 hO3 => ?_
    rw [List.nil_append, Nat.zero_add] at hO3
    rw [Nat.zero_add]
    have f13 : Fr [] w1 w3 := hO2.news f2 f3 (Nat.le_refl _)
    have ep : passL key n.toNat pass.toNat (ls, rs) = (ontoL key rs ls n.toNat pass.toNat true, rs) := by unfold passL; rw [if_pos ((hpar (hP.2 hO)).2 heq)]
    have hll : (ontoL key rs ls n.toNat pass.toNat true).length = l1 := hO1.2.1.symm
    have := hok (hP.2 hO) q e p3 c3 w3 (f1.then f13)
    rw [ep] at this
    simp only at this
    rw [hll, ← hl2] at this
    exact this (hO1.fr0 f13) (hO3.mono f1.size)
  · have hP : okP (ls, rs) n pass ↔ okO ls rs n pass := by unfold okP; rw [if_neg hne]
    refine refOnto_c hK hlk hk16 hck hL hl1 hb1 hR hl2 n pass false (fun hb w1 f1 => ⟨_, _, _, _, rfl, cond_t (hbad (fun h => hb (hP.1 h)) w1 f1)⟩) fun hO q e w1 f1 hO1 => ⟨_, _, _, _, rfl, cond_f ?_⟩
    refine mk0 fun p0 w2 f2 hO2 s2 => ?_
    refine pushN hO2 f2.size (hL.fr0 (f1.then f2)) hl1 (by omega) fun p3 c3 w3 f3 hO3 => ?_
    rw [List.nil_append, Nat.zero_add] at hO3
    rw [Nat.zero_add]
    have f13 : Fr [] w1 w3 := hO2.news f2 f3 (Nat.le_refl _)
    have ep : passL key n.toNat pass.toNat (ls, rs) = (ls, ontoL key ls rs n.toNat pass.toNat false) := by unfold passL; rw [if_neg (fun h => hne ((hpar (hP.2 hO)).1 h))]
    have hll : (ontoL key ls rs n.toNat pass.toNat false).length = l2 := hO1.2.1.symm
    have := hok (hP.2 hO) p3 c3 q e w3 (f1.then f13)
    rw [ep] at this
    simp only at this
    rw [hll, ← hl1] at this
    exact this (hO3.mono f1.size) (hO1.fr0 f13)
end Go.Sh
end

section
namespace Go.Sh
open Go Go.Fw Go.Proofs
set_option maxRecDepth 100000
set_option linter.unusedVariables false
set_option maxHeartbeats 1000000 in
theorem refPasses_c {w : World} {pk p1 p2 : Option Addr} {lk ck l1 c1 l2 c2 : Nat} {key xs : List UInt8} {ps : List Int} (hK : Row w pk (key.map vb)) (hlk : lk = key.length) (hk16 : key.length = 16) (hck : lk ≤ ck)
    (hX : Row w p1 (xs.map vb)) (hl1 : l1 = xs.length) (hb1 : l1 < 1000000) (hS : Row w p2 (ps.map vi)) (hl2 : l2 = ps.length) (hb2 : l2 < 1000000) {K : Value → World → Prop}
    (hbad : ¬ (2 ≤ l1 ∧ l1 ≤ 28 ∧ ∀ p ∈ ps, 0 ≤ p ∧ p ≤ 255) → ∀ w', Fr [] w w' → K (.tuple #[.slice none 0 0, .int .i64 11]) w')
    (hok : (2 ≤ l1 ∧ l1 ≤ 28 ∧ ∀ p ∈ ps, 0 ≤ p ∧ p ≤ 255) → ∀ q e w', Fr [] w w' → OB w' q l1 e (passesL key xs (ps.map Int.toNat)) w.heap.size → K (.tuple #[.slice q l1 e, .int .i64 0]) w') :
    callF Tryz.prog F_ref15_Passes #[.slice pk lk ck, .slice p1 l1 c1, .slice p2 l2 c2] w K := by
  apply ref15_Passes_call
  unfold ref15_Passes
  have done : ∀ p8 l8 c8 p9 l9 c9 w', Fr [] w w' → ¬ (2 ≤ l1 ∧ l1 ≤ 28 ∧ ∀ p ∈ ps, 0 ≤ p ∧ p ≤ 255) → ref15_Passes_j2 p1 l1 c1 none 0 0 0 p8 l8 c8 p9 l9 c9 11 w' K := by
    intro p8 l8 c8 p9 l9 c9 w' f hb
    unfold ref15_Passes_j2
    exact cond_t (hbad hb w' f)
  -- the loop
  have loop : ∀ (q1 : Option Addr) (m1 d1 : Nat) (q2 : Option Addr) (m2 d2 : Nat) (err : Int) (w1 : World), Fr [] w w1 →
      ((err = 11 ∧ ¬ (2 ≤ l1 ∧ l1 ≤ 28 ∧ ∀ p ∈ ps, 0 ≤ p ∧ p ≤ 255)) ∨ (err = 0 ∧ 2 ≤ l1 ∧ l1 ≤ 28 ∧ m1 = hsz l1 ∧ m2 = hsz l1 ∧ OB w1 q1 m1 d1 (cutL xs).1 w.heap.size ∧ OB w1 q2 m2 d2 (cutL xs).2 w.heap.size)) →
      LoopS [.slice pk lk ck, .slice p1 l1 c1, .slice p2 l2 c2, .slice none 0 0, .int .i64 0, .slice q1 m1 d1, .slice q2 m2 d2, .int .i64 err, .int .i64 0] w1 fun I1 μ1 us1 _ wl1 =>
        ∃ (p0_1 : Option Addr) (l0_1 : Nat) (c0_1 : Nat) (p1_1 : Option Addr) (l1_1 : Nat) (c1_1 : Nat) (p2_1 : Option Addr) (l2_1 : Nat) (c2_1 : Nat) (p6 : Option Addr) (l6 : Nat) (c6 : Nat) (n7 : Int) (p8 : Option Addr) (l8 : Nat) (c8 : Nat) (p9 : Option Addr) (l9 : Nat) (c9 : Nat) (n10 : Int) (n11 : Int), us1 = [.slice p0_1 l0_1 c0_1, .slice p1_1 l1_1 c1_1, .slice p2_1 l2_1 c2_1, .slice p6 l6 c6, .int .i64 n7, .slice p8 l8 c8, .slice p9 l9 c9, .int .i64 n10, .int .i64 n11] ∧
        cond (decide (n11 < ((l2_1 : Nat) : Int)))
        (cond (n10 == 0)
          (ref15_Passes_j1 I1 μ1 us1 wl1 p0_1 l0_1 c0_1 p1_1 l1_1 c1_1 p2_1 l2_1 c2_1 p6 l6 c6 n7 p8 l8 c8 p9 l9 c9 n10 n11 wl1 K)
          (ref15_Passes_j2 p1_1 l1_1 c1_1 p6 l6 c6 n7 p8 l8 c8 p9 l9 c9 n10 wl1 K))
        (ref15_Passes_j2 p1_1 l1_1 c1_1 p6 l6 c6 n7 p8 l8 c8 p9 l9 c9 n10 wl1 K) := by
    intro q1 m1 d1 q2 m2 d2 err w1 f1 hst
    refine LoopS.ind (fun k us w' => ∃ (q1 : Option Addr) (m1 d1 : Nat) (q2 : Option Addr) (m2 d2 : Nat) (err : Int) (i : Nat), i + k = l2 ∧ us = [.slice pk lk ck, .slice p1 l1 c1, .slice p2 l2 c2, .slice none 0 0, .int .i64 0, .slice q1 m1 d1, .slice q2 m2 d2, .int .i64 err, .int .i64 (i : Int)] ∧ Fr [] w w' ∧
      ((err = 11 ∧ ¬ (2 ≤ l1 ∧ l1 ≤ 28 ∧ ∀ p ∈ ps, 0 ≤ p ∧ p ≤ 255)) ∨ (err = 0 ∧ 2 ≤ l1 ∧ l1 ≤ 28 ∧ m1 = hsz l1 ∧ m2 = hsz l1 ∧ OB w' q1 m1 d1 (runL key l1 ((ps.take i).map Int.toNat) (cutL xs)).1 w.heap.size ∧ OB w' q2 m2 d2 (runL key l1 ((ps.take i).map Int.toNat) (cutL xs)).2 w.heap.size ∧ ∀ j, j < i → 0 ≤ ps.getD j 0 ∧ ps.getD j 0 ≤ 255))) l2
      ⟨q1, m1, d1, q2, m2, d2, err, 0, by omega, rfl, f1, ?_⟩ ?_
    · rcases hst with h | ⟨e0, h2, h28, hm1, hm2, hO1, hO2⟩
      · exact .inl h
      · exact .inr ⟨e0, h2, h28, hm1, hm2, hO1, hO2, by omega⟩
    rintro k us rr w4 I μ hgo ⟨q1, m1, d1, q2, m2, d2, err, i, hi, rfl, f4, hst⟩
    refine ⟨_, _, _, _, _, _, _, _, _, _, _, _, _, _, _, _, _, _, _, _, _, rfl, ?_⟩
    rcases hst with ⟨rfl, hb⟩ | ⟨rfl, h2, h28, hm1, hm2, hO1, hO2, hps⟩
    · exact cond_d (fun _ => cond_f (done _ _ _ _ _ _ w4 f4 hb)) (fun _ => done _ _ _ _ _ _ w4 f4 hb)
    have hg := cutL_good xs
    rw [← hl1] at hg
    have hgi : goodP l1 (runL key l1 ((ps.take i).map Int.toNat) (cutL xs)) := runL_good h28 _ hg
    refine cond_d (fun h3 => cond_t ?_) (fun h3 => ?_)
    · have hil : i < l2 := by omega
      have hS4 := hS.fr0 f4
      unfold ref15_Passes_j1
      obtain ⟨a, ha, hca⟩ := ixR (P := Tryz.prog) (t := T_S_int) (by kernel_rfl) hS4 (cap := c2) (k := .i64) (i := (i : Int)) (len := l2) (by simpa using hl2) (by omega) (by omega) (v := vi (ps.getD i 0)) (by
        rw [Int.toNat_natCast, List.getElem?_map, List.getElem?_eq_getElem (by omega), List.getD_eq_getElem?_getD, List.getElem?_eq_getElem (by omega)]; rfl)
      refine ⟨a, ha, _, Ld.cell (by kernel_rfl) hca, ?_⟩
      have hin : ps.getD i 0 ∈ ps := by rw [List.getD_eq_getElem?_getD, List.getElem?_eq_getElem (by omega)]; simp
      have hsl := hsz_le h28
      refine refPass_c (hK.fr0 f4) hlk hk16 hck hO1.row hO1.2.1 (by omega) hO2.row hO2.2.1 (by omega) (l1 : Int) (ps.getD i 0) (fun hb w5 f5 => ⟨_, _, _, _, _, _, _, rfl, ?_⟩) fun hO r1 e1 r2 e2 w5 f5 hr1 hr2 => ⟨_, _, _, _, _, _, _, rfl, ?_⟩
      · rw [wrap64 (by omega) (by omega)]
        exact hgo _ _ _ (k - 1) (by omega) ⟨_, _, _, _, _, _, _, i + 1, by omega, rfl, f4.then f5, .inl ⟨rfl, fun h => hb ((okP_good h2 h28 hgi _).2 (h.2.2 _ hin))⟩⟩
      · have hp := (okP_good h2 h28 hgi _).1 hO
        rw [wrap64 (by omega) (by omega)]
        have e : (ps.take (i + 1)).map Int.toNat = (ps.take i).map Int.toNat ++ [(ps.getD i 0).toNat] := by
          rw [List.take_add_one, List.getElem?_eq_getElem (by omega), List.map_append, List.getD_eq_getElem?_getD, List.getElem?_eq_getElem (by omega)]; rfl
        have hg2 : goodP l1 (passL key l1 (ps.getD i 0).toNat (runL key l1 ((ps.take i).map Int.toNat) (cutL xs))) := passL_good h28 hgi
        rw [Int.toNat_natCast] at hr1 hr2 ⊢
        refine hgo _ _ _ (k - 1) (by omega) ⟨_, _, _, _, _, _, _, i + 1, by omega, rfl, f4.then f5, .inr ⟨rfl, h2, h28, hg2.1.1, hg2.2.1, ?_, ?_, fun j hj => ?_⟩⟩
        · rw [e, runL_snoc]; exact hr1.mono f4.size
        · rw [e, runL_snoc]; exact hr2.mono f4.size
        · by_cases hji : j = i
          · subst hji; exact hp
          · exact hps j (by omega)
    · have hil : i = l2 := by omega
      subst hil
      rw [List.take_of_length_le (by omega)] at hO1 hO2 hgi
      unfold ref15_Passes_j2
      refine cond_f ?_
      have hall : ∀ p ∈ ps, 0 ≤ p ∧ p ≤ 255 := fun p hp => by
        obtain ⟨j, hj, rfl⟩ := List.getElem_of_mem hp
        have := hps j (by omega)
        rwa [List.getD_eq_getElem?_getD, List.getElem?_eq_getElem hj] at this
      have hsl := hsz_le h28
      have hfit : fitN (l1 : Int) [(runL key l1 (ps.map Int.toNat) (cutL xs)).1, (runL key l1 (ps.map Int.toNat) (cutL xs)).2] := fit2.2 ⟨by omega, by omega, by rw [Int.toNat_natCast]; exact hgi.1.1, by rw [Int.toNat_natCast]; exact hgi.2.1⟩
      refine refJoin_c hO1.row hO1.2.1 (by omega) hO2.row hO2.2.1 (by omega) (l1 : Int) (fun h => absurd hfit h) (fun _ h => absurd (by rw [Int.toNat_natCast]; exact okJ_good h2 hgi) h) fun _ _ po co w5 f5 hO5 => ⟨_, _, _, _, rfl, ?_⟩
      rw [Int.toNat_natCast] at hO5 ⊢
      refine hok ⟨h2, h28, hall⟩ po co w5 (f4.then f5) ?_
      unfold passesL
      rw [← hl1]
      exact hO5.mono f4.size
  refine refCut_c hX hl1 hb1 (fun hb => ⟨_, _, _, _, _, _, _, rfl, loop _ _ _ _ _ _ _ w (Fr.refl _ _) (.inl ⟨rfl, fun h => hb ⟨h.1, h.2.1⟩⟩)⟩) fun hl q1 d1 q2 d2 w1 f1 hO1 hO2 => ⟨_, _, _, _, _, _, _, rfl, loop _ _ _ _ _ _ _ w1 f1 (.inr ⟨rfl, hl.1, hl.2, rfl, rfl, hO1, hO2⟩)⟩
end Go.Sh
end

section
namespace Go.Sh
open Go Go.Fw Go.Proofs
set_option maxRecDepth 100000
set_option linter.unusedVariables false
theorem turn_back {m s n : Int} {key text : List UInt8} (hok : okC m s n key) (hk : key.length = 16) (hl : (text.length : Int) = s + n) : turnC true m key (turnC false m key text) = text := by
  have ho := hok
  unfold okC at ho
  unfold turnC
  by_cases h0 : m = 0
  · rw [if_pos h0, if_pos h0]
  · by_cases h1 : m = 1
    · rw [if_neg h0, if_pos h1, if_neg h0, if_pos h1]
      simp only [Bool.false_eq_true, if_true, if_false]
      exact adecL_aencL _ _ (by have := ho.2.2.2.2.2.2.2.2 h1; omega)
    · rw [if_neg h0, if_neg h1, if_neg h0, if_neg h1]
      simp only [Bool.false_eq_true, if_true, if_false]
      exact passesL_rev key text [1, 2, 3, 4] (by omega) (by omega)
theorem back_turn {m s n : Int} {key text : List UInt8} (hok : okC m s n key) (hk : key.length = 16) (hl : (text.length : Int) = s + n) : turnC false m key (turnC true m key text) = text := by
  have ho := hok
  unfold okC at ho
  unfold turnC
  by_cases h0 : m = 0
  · rw [if_pos h0, if_pos h0]
  · by_cases h1 : m = 1
    · rw [if_neg h0, if_pos h1, if_neg h0, if_pos h1]
      simp only [Bool.false_eq_true, if_true, if_false]
      exact aencL_adecL _ _ (by have := ho.2.2.2.2.2.2.2.2 h1; omega)
    · rw [if_neg h0, if_neg h1, if_neg h0, if_neg h1]
      simp only [Bool.false_eq_true, if_true, if_false]
      exact passesL_rev key text [4, 3, 2, 1] (by omega) (by omega)
end Go.Sh
end

section
namespace Go.Sh
open Go Go.Fw Go.Proofs
set_option maxRecDepth 100000
set_option linter.unusedVariables false
theorem Row.old {a w w' : World} {p : Option Addr} {xs : List UInt8} {b : Nat} (h0 : Row a p (xs.map vb)) (h : Row w p (xs.map vb)) (hf : Fr [b] w w') (hb : a.heap.size ≤ b) : Row w' p (xs.map vb) := by
  by_cases hx : xs.length = 0
  · have : xs = [] := List.length_eq_zero_iff.1 hx
    subst this; exact Row.nil _ _
  · exact Row.fr_lt h hf fun hk => by have := Row.blk_lt h0 (by omega) _ hk; omega
end Go.Sh
end

section
namespace Go.Sh
open Go Go.Fw Go.Proofs
set_option maxRecDepth 100000
set_option linter.unusedVariables false
def f06 : List UInt8 := [1, 2, 3, 4, 5, 6, 7, 8, 9, 10, 11, 12, 255, 255, 255, 255]
end Go.Sh
end

section
namespace Go.Sh
open Go Go.Fw Go.Proofs
set_option maxRecDepth 100000
set_option linter.unusedVariables false
theorem _root_.Go.Fw.Fr.at {a b c : World} {k : Nat} (h : Fr [] a b) (f : Fr [k] b c) (hk : a.heap.size ≤ k) : Fr [] a c := h.trans f (fun z hz => .inr (by simp at hz; omega))
section
variable {c lo hi : Nat} {key : List UInt8} {d : Int}
def OR (w : World) (q : Option Addr) (l c : Nat) (xs : List UInt8) (lo : Nat) : Prop := Row w q (xs.map vb) ∧ l = xs.length ∧ l ≤ c ∧ ∀ z ∈ blks q, lo ≤ z
theorem OR.fr {w w' : World} {q : Option Addr} {l c : Nat} {xs : List UInt8} {lo k : Nat} (h : OR w q l c xs lo) (f : Fr [k] w w') (hk : k < lo) : OR w' q l c xs lo := ⟨Row.cells_fr h.1 f (fun z hz => by have := h.2.2.2 z hz; simp; omega), h.2⟩
theorem OR.fr0 {w w' : World} {q : Option Addr} {l c : Nat} {xs : List UInt8} {lo : Nat} (h : OR w q l c xs lo) (f : Fr [] w w') : OR w' q l c xs lo := ⟨Row.cells_fr h.1 f (fun z hz => by simp), h.2⟩
theorem OR.nil (w : World) (lo : Nat) : OR w none 0 0 [] lo := ⟨Row.nil _ _, rfl, Nat.le_refl _, by simp [blks]⟩
theorem OB.or {w : World} {q : Option Addr} {l c : Nat} {xs : List UInt8} {lo : Nat} (h : OB w q l c xs lo) : OR w q l c xs lo := ⟨h.row, h.2.1, h.cap, h.2.2⟩
end
end Go.Sh
end

section
namespace Go.Sh
open Go Go.Fw Go.Proofs
set_option maxRecDepth 100000
set_option linter.unusedVariables false
section
variable {w : World} {m s n : Int} {key text : List UInt8} {K : Value → World → Prop}
def turnIs (back : Bool) (m s n : Int) (key text : List UInt8) (er : Int) (out : List UInt8) : Prop :=
  (¬ okC m s n key ∧ er = 19 ∧ out = []) ∨ (okC m s n key ∧ (text.length : Int) ≠ s + n ∧ er = 11 ∧ out = []) ∨ (okC m s n key ∧ (text.length : Int) = s + n ∧ er = 0 ∧ out = turnC back m key text)
end
end Go.Sh
end

section
namespace Go.Sh
open Go Go.Fw Go.Proofs
set_option maxRecDepth 100000
set_option linter.unusedVariables false
section
variable {w : World} {b : Nat} {m s n : Int} {key text : List UInt8}
theorem newCfgR (hk : key.length = 16) {K : Nat → World → Prop} (h : ∀ w', Fr [] w w' → Cfg w' w.heap.size m s n key → w'.heap.size = w.heap.size + 1 → K w.heap.size w') : New ⟨cfgV m s n key⟩ T_ref16_Config w K := by
  refine New.intro fun w1 f1 hB s1 => h w1 f1 ⟨fun i => (⟨cfgV m s n key⟩ : Array Value).getD i undef, ?_, fun j v hj => ?_⟩ s1
  · have e : (⟨cfgV m s n key⟩ : Array Value).size = 19 := by show (cfgV m s n key).length = 19; rw [cfgV_len]; omega
    rw [e] at hB; exact hB
  · have hlt := (List.getElem?_eq_some_iff.1 hj).1
    show Array.getD ⟨cfgV m s n key⟩ j undef = v
    rw [Array.getD_eq_getD_getElem?]
    have : (⟨cfgV m s n key⟩ : Array Value)[j]? = some v := by simpa using hj
    rw [this]; rfl
theorem stoCfgR {f : Nat → Value} (hB : Blk w b 19 f) (hk : key.length = 16) {K : World → Prop} (h : ∀ w', Fr [b] w w' → Cfg w' b m s n key → w'.heap.size = w.heap.size → K w') : ∃ w', Sto Tryz.prog T_ref16_Config (.pointer (some ⟨b, 0, none⟩)) (.agg ⟨cfgV m s n key⟩) w w' ∧ K w' := by
  refine Sto.agg (m := 19) (cs := cfgV m s n key) (by kernel_rfl) (by rw [cfgV_len]; omega) hB (Nat.le_refl 19) (cfgV_one _ _ _ _) fun w' hf hB' hs => h w' hf ⟨_, hB', fun j v hj => ?_⟩ hs
  have hlt := (List.getElem?_eq_some_iff.1 hj).1
  unfold updN
  rw [dif_pos ⟨Nat.zero_le _, by simpa using hlt⟩]
  obtain ⟨h1, h2⟩ := List.getElem?_eq_some_iff.1 hj
  simpa using h2
theorem Cfg.ldR (h : Cfg w b m s n key) (hk : key.length = 16) : Ld Tryz.prog T_ref16_Config (.pointer (some ⟨b, 0, none⟩)) w (.agg ⟨cfgV m s n key⟩) := by
  obtain ⟨f, hB, hc⟩ := h
  exact LdA (m := 19) (by kernel_rfl) (by kernel_rfl) hB (o := 0) (by omega) _ (by rw [cfgV_len]; omega) (fun j v hj => by rw [Nat.zero_add]; exact hc j v hj)
end
section
variable {w : World} {m s n : Int} {key text : List UInt8} {K : Value → World → Prop}
theorem refRight_c (hk : key.length = 16) (h : ∀ w', Fr [] w w' → K (.bool (decide (okC m s n key))) w') : callF Tryz.prog F_ref16_Right #[.agg ⟨cfgV m s n key⟩] w K := by
  apply ref16_Right_call
  unfold ref16_Right
  have bad : ¬ okC m s n key → ∀ w', Fr [] w w' → K (.bool false) w' := fun hb w' f => by have := h w' f; rwa [decide_eq_false hb] at this
  refine newCfgR hk fun w1 f1 hC s1 => ⟨_, hC.mode, cond_d (fun g => bad (fun hh => by unfold okC at hh; omega) w1 f1) fun g1 => ⟨_, hC.mode, cond_d (fun g => bad (fun hh => by unfold okC at hh; omega) w1 f1) fun g2 => ?_⟩⟩
  refine ⟨_, hC.sid, cond_d (fun g => bad (fun hh => by unfold okC at hh; omega) w1 f1) fun g3 => ⟨_, hC.sid, cond_d (fun g => bad (fun hh => by unfold okC at hh; omega) w1 f1) fun g4 => ?_⟩⟩
  refine ⟨_, hC.nonce, cond_d (fun g => bad (fun hh => by unfold okC at hh; omega) w1 f1) fun g5 => ⟨_, hC.nonce, cond_d (fun g => bad (fun hh => by unfold okC at hh; omega) w1 f1) fun g6 => ?_⟩⟩
  refine ⟨_, hC.sid, _, hC.nonce, ?_⟩
  rw [wrap64 (by omega) (by omega)]
  refine cond_d (fun g => bad (fun hh => by unfold okC at hh; omega) w1 f1) fun g7 => ?_
  have tail : (m = 1 → s + n = 16) → ref16_Right_j1 ⟨w.heap.size, 0, none⟩ false w1 K := by
    intro h16
    unfold ref16_Right_j1
    refine ⟨_, hC.mode, cond_ne (fun hne => ?_) (fun h0 => ?_)⟩
    · have hok : okC m s n key := ⟨by omega, by omega, by omega, by omega, by omega, by omega, by omega, fun _ => by omega, h16⟩
      have := h w1 f1
      rwa [decide_eq_true hok] at this
    · refine ⟨_, hC.keyLd hk, _, _, Ef.eqBytes (n := 16) (ys := z16k) (by kernel_rfl) (by kernel_rfl) hk rfl, ?_⟩
      have e : decide (key = z16k) = decide (okC m s n key) := by
        rw [decide_eq_decide]; unfold okC
        exact ⟨fun hh => ⟨by omega, by omega, by omega, by omega, by omega, by omega, by omega, fun _ => hh, fun _ => by omega⟩, fun hh => hh.2.2.2.2.2.2.2.1 h0⟩
      rw [e]
      exact h w1 f1
  unfold ref16_Right_j2
  refine ⟨_, hC.mode, cond_eq (fun h1 => ⟨_, hC.sid, _, hC.nonce, ?_⟩) (fun h1 => tail (fun h => absurd h h1))⟩
  rw [wrap64 (by omega) (by omega)]
  exact cond_ne (fun hne => bad (fun hh => hne (hh.2.2.2.2.2.2.2.2 h1)) w1 f1) fun h16 => tail (fun _ => h16)
set_option maxHeartbeats 1000000 in
theorem refTurnB_c (back : Bool) {ps : List Int} (hps : ps = if back then [4, 3, 2, 1] else [1, 2, 3, 4]) {p p2 : Option Addr} {l c c2 : Nat} (hk : key.length = 16) (hx : Row w p (text.map vb)) (hl : l = text.length) (hlb : l < 1000000) (hS : Row w p2 (ps.map vi))
    (h : ∀ q d er out w', Fr [] w w' → OB w' q out.length d out w.heap.size → turnIs back m s n key text er out → K (.tuple #[.slice q out.length d, .int .i64 er]) w') :
    callF Tryz.prog F_ref16_turn #[.agg ⟨cfgV m s n key⟩, .slice p l c, .slice p2 4 c2] w K := by
  apply ref16_turn_call
  unfold ref16_turn
  refine newCfgR hk fun w1 f1 hC s1 => ⟨_, hC.ldR hk, refRight_c hk fun w2 f2 => ⟨_, rfl, ?_⟩⟩
  have f02 := f1.then f2
  have hC2 := hC.fr0 f2
  by_cases ho : okC m s n key
  · rw [decide_eq_true ho]
    have ho' := ho
    unfold okC at ho'
    refine cond_f ⟨_, hC2.sid, _, hC2.nonce, ?_⟩
    rw [wrap64 (by omega) (by omega)]
    refine cond_ne (fun hne => h none 0 11 [] w2 f02 (OB.nil _ _) (.inr (.inl ⟨ho, by omega, rfl, rfl⟩))) fun hlen => ?_
    have hx2 := hx.fr0 f02
    have ok : ∀ q d w', Fr [] w w' → OB w' q l d (turnC back m key text) w.heap.size → K (.tuple #[.slice q l d, .int .i64 0]) w' := by
      intro q d w' f hO
      have hl' := hO.2.1
      have := h q d 0 _ w' f (by rw [← hl']; exact hO) (.inr (.inr ⟨ho, by omega, rfl, rfl⟩))
      rw [← hl'] at this
      exact this
    refine ⟨_, hC2.mode, cond_eq (fun h0 => ?_) (fun h0 => ⟨_, hC2.mode, cond_eq (fun h2 => ?_) (fun h2 => ?_)⟩)⟩
    · refine mk0 fun p0 w3 f3 hO3 s3 => ?_
      refine pushN hO3 f3.size (hx2.fr0 f3) hl (by omega) fun q d w4 f4 hO4 => ?_
      rw [List.nil_append, Nat.zero_add] at hO4
      rw [Nat.zero_add]
      have e : turnC back m key text = text := by unfold turnC; rw [if_pos h0]
      exact ok q d w4 (f02.then (hO3.news f3 f4 (Nat.le_refl _))) (by rw [e]; exact hO4.mono f02.size)
    · refine keySl ?_
      have hT : 2 ≤ l ∧ l ≤ 28 ∧ ∀ x ∈ ps, 0 ≤ x ∧ x ≤ 255 := ⟨by omega, by omega, by rw [hps]; cases back <;> decide⟩
      refine refPasses_c (ps := ps) (hC2.keyRow hk) hk.symm hk (by omega) hx2 hl hlb (hS.fr0 f02) (by rw [hps]; cases back <;> rfl) (by omega) (fun hb => absurd hT hb) fun _ q d w3 f3 hO3 => ⟨_, _, _, _, rfl, ?_⟩
      have e : turnC back m key text = passesL key text (ps.map Int.toNat) := by
        unfold turnC; rw [if_neg h0, if_neg (by omega), hps]; cases back <;> rfl
      exact ok q d w3 (f02.then f3) (by rw [e]; exact hO3.mono f02.size)
    · have h1 : m = 1 := by omega
      have h16 : text.length = 16 := by have := ho'.2.2.2.2.2.2.2.2 h1; omega
      obtain ⟨a, ha, hca⟩ := ixR (P := Tryz.prog) (t := T_S_int) (by kernel_rfl) (hS.fr0 f02) (cap := c2) (k := .i64) (i := 0) (len := 4) (by rw [List.length_map, hps]; cases back <;> rfl) (by omega) (by omega) (v := vi (if back then 4 else 1)) (by rw [hps]; cases back <;> rfl)
      refine ⟨a, ha, _, Ld.cell (by kernel_rfl) hca, ?_⟩
      cases back with
      | false =>
        refine cond_eq (fun _ => ?_) (fun hne => absurd rfl hne)
        refine keySl ?_
        refine refEncrypt_c (hC2.keyRow hk) hk.symm hk (by omega) hx2 hl h16 fun q d w3 f3 hO3 => ⟨_, _, _, rfl, ?_⟩
        have e : turnC false m key text = aencL key text := by unfold turnC; rw [if_neg h0, if_pos h1]; rfl
        have e16 : l = 16 := by omega
        subst e16
        exact ok q d w3 (f02.then f3) (by rw [e]; exact hO3.mono f02.size)
      | true =>
        refine cond_eq (fun hh => absurd hh (by decide)) (fun _ => ?_)
        refine keySl ?_
        refine refDecrypt_c (hC2.keyRow hk) hk.symm hk (by omega) hx2 hl h16 fun q d w3 f3 hO3 => ⟨_, _, _, rfl, ?_⟩
        have e : turnC true m key text = adecL key text := by unfold turnC; rw [if_neg h0, if_pos h1]; rfl
        have e16 : l = 16 := by omega
        subst e16
        exact ok q d w3 (f02.then f3) (by rw [e]; exact hO3.mono f02.size)
  · rw [decide_eq_false ho]
    exact cond_t (h none 0 19 [] w2 f02 (OB.nil _ _) (.inl ⟨ho, rfl, rfl⟩))
theorem refTurn_cfg_c {p : Option Addr} {l c : Nat} (hk : key.length = 16) (hx : Row w p (text.map vb)) (hl : l = text.length) (hlb : l < 1000000)
    (h : ∀ q d er out w', Fr [] w w' → OB w' q out.length d out w.heap.size → turnIs false m s n key text er out → K (.tuple #[.slice q out.length d, .int .i64 er]) w') :
    callF Tryz.prog F_ref16_Turn #[.agg ⟨cfgV m s n key⟩, .slice p l c] w K := by
  apply ref16_Turn_call
  unfold ref16_Turn
  refine newCfgR hk fun w1 f1 hC s1 => ⟨_, hC.ldR hk, ?_⟩
  refine ⟨_, _, _, Ef.new (v := .slice (some ⟨w1.heap.size, 0, none⟩) 4 4) (cs := (([1, 2, 3, 4] : List Int).map vi).toArray) (e := T_int) (by kernel_rfl) fun w2 f2 hB2 s2 => ?_⟩
  have f02 := f1.then f2
  refine refTurnB_c false rfl hk (hx.fr0 f02) hl hlb hB2.rowL fun q d er out w3 f3 hO hi => ⟨_, _, _, _, rfl, h q d er out w3 (f02.then f3) (hO.mono f02.size) hi⟩
end
end Go.Sh
end

section
namespace Go.Sh
open Go Go.Fw Go.Proofs
set_option maxRecDepth 100000
set_option linter.unusedVariables false
theorem list_cons {α : Type} {l : List α} {n : Nat} (h : l.length = n + 1) : ∃ a t, l = a :: t ∧ t.length = n := by
  cases l with
  | nil => simp at h
  | cons a t => exact ⟨a, t, rfl, by simpa using h⟩
theorem list16 {l : List UInt8} (h : l.length = 16) : ∃ a b c d e f g i j k m n o p q r, l = [a, b, c, d, e, f, g, i, j, k, m, n, o, p, q, r] := by
  obtain ⟨a, l0, e0, h0⟩ := list_cons h
  obtain ⟨b, l1, e1, h1⟩ := list_cons h0
  obtain ⟨c, l2, e2, h2⟩ := list_cons h1
  obtain ⟨d, l3, e3, h3⟩ := list_cons h2
  obtain ⟨e, l4, e4, h4⟩ := list_cons h3
  obtain ⟨f, l5, e5, h5⟩ := list_cons h4
  obtain ⟨g, l6, e6, h6⟩ := list_cons h5
  obtain ⟨i, l7, e7, h7⟩ := list_cons h6
  obtain ⟨j, l8, e8, h8⟩ := list_cons h7
  obtain ⟨k, l9, e9, h9⟩ := list_cons h8
  obtain ⟨m, l10, e10, h10⟩ := list_cons h9
  obtain ⟨n, l11, e11, h11⟩ := list_cons h10
  obtain ⟨o, l12, e12, h12⟩ := list_cons h11
  obtain ⟨p, l13, e13, h13⟩ := list_cons h12
  obtain ⟨q, l14, e14, h14⟩ := list_cons h13
  obtain ⟨r, l15, e15, h15⟩ := list_cons h14
  have e16 : l15 = [] := List.length_eq_zero_iff.1 h15
  exact ⟨a, b, c, d, e, f, g, i, j, k, m, n, o, p, q, r, by rw [e0, e1, e2, e3, e4, e5, e6, e7, e8, e9, e10, e11, e12, e13, e14, e15, e16]⟩
section
variable {w : World} {b : Nat} {m s n : Int} {key text : List UInt8} {K : Value → World → Prop}
theorem puBuildR (hk : key.length = 16) : Pu Tryz.prog (Instr.build T_ref16_Config #[(0, .int .i64 m), (1, .int .i64 s), (2, .int .i64 n), (3, .agg ⟨key.map vb⟩)]) (.agg ⟨cfgV m s n key⟩) := by
  obtain ⟨a, b, c, d, e, f, g, i, j, k, m', n', o, p, q, r, rfl⟩ := list16 hk
  unfold Pu; kernel_rfl
theorem law16Of_c (hk : key.length = 16) (h : ∀ w', Fr [] w w' → K (.agg ⟨cfgV m s n key⟩) w') : callF Tryz.prog F_law16_Of #[.agg ⟨cfgV m s n key⟩] w K := by
  apply law16_Of_call
  unfold law16_Of
  refine newCfg hk fun w1 f1 hC s1 => ?_
  refine newZ (s := 19) (by kernel_rfl) fun w2 g2 f2 hB2 s2 => ?_
  have hC2 := hC.fr0 f2
  refine ⟨_, hC2.mode, _, hC2.sid, _, hC2.nonce, _, hC2.keyLd hk, _, puBuildR hk, ?_⟩
  refine stoCfgR hB2 hk fun w3 f3 hC3 s3 => ⟨_, _, rfl, hC3.ldR hk, ?_⟩
  exact h w3 ((f1.then f2).st f3 f1.size)
end
section
variable {w : World} {K : Value → World → Prop}
end
end Go.Sh
end

section
namespace Go.Sh
open Go Go.Fw Go.Proofs
set_option maxRecDepth 100000
set_option linter.unusedVariables false
def headB (point n : Nat) : UInt8 := UInt8.ofNat (64 * point + n)
theorem head_val {p n : Nat} (hp : p < 4) (hn : n < 64) : IntKind.u8.wrap (ior .i64 (IntKind.i64.wrap ((p : Int) * 2 ^ 6)) (n : Int)) = ((headB p n).toNat : Int) := by
  have : ∀ p : Nat, p < 4 → ∀ n : Nat, n < 64 → IntKind.u8.wrap (ior .i64 (IntKind.i64.wrap ((p : Int) * 2 ^ 6)) (n : Int)) = ((headB p n).toNat : Int) := by decide +kernel
  exact this p hp n hn
section
variable {w : World} {m s n : Int} {key text : List UInt8} {K : Value → World → Prop}
theorem Point_c {x : UInt8} (h : K (.int .i64 ((x.toNat / 64 : Nat) : Int)) w) : callF Tryz.prog F_codec_Point #[.int .u8 (x.toNat : Int)] w K := by
  apply codec_Point_call
  unfold codec_Point
  have := x.toNat_lt
  have e : IntKind.i64.wrap (Int.fdiv (x.toNat : Int) (2 ^ 6)) = ((x.toNat / 64 : Nat) : Int) := by
    rw [Int.fdiv_eq_ediv_of_nonneg _ (by decide), wrap64 (by omega) (by omega)]; omega
  rw [e]; exact h
theorem Told_c {x : UInt8} (h : K (.int .i64 ((x.toNat % 64 + 1 : Nat) : Int)) w) : callF Tryz.prog F_codec_Told #[.int .u8 (x.toNat : Int)] w K := by
  apply codec_Told_call
  unfold codec_Told
  have := x.toNat_lt
  have e : IntKind.i64.wrap (IntKind.i64.wrap (iand .u8 (x.toNat : Int) 63) + 1) = ((x.toNat % 64 + 1 : Nat) : Int) := by
    have h1 := all8 (p := fun x => iand .u8 (x.toNat : Int) 63 == ((x.toNat % 64 : Nat) : Int)) (by kernel_rfl) x
    rw [beq_iff_eq] at h1
    rw [h1, wrap64 (n := ((x.toNat % 64 : Nat) : Int)) (by omega) (by omega), wrap64 (by omega) (by omega)]; omega
  rw [e]; exact h
theorem headB_point {p n : Nat} (hp : p < 4) (hn : n < 64) : (headB p n).toNat / 64 = p := by unfold headB; simp; omega
theorem headB_told {p n : Nat} (hp : p < 4) (hn : n < 64) : (headB p n).toNat % 64 = n := by unfold headB; simp; omega
theorem id_c {p : Option Addr} {l c : Nat} {point : Nat} {rest : List UInt8} (hp : point < 4) (hx : Row w p (rest.map vb)) (hl : l = rest.length) (hc : l ≤ c) (hn : l < 64)
    (h : ∀ q d w', Fr [] w w' → OB w' q (l + 1) d (headB point l :: rest) w.heap.size → K (.slice q (l + 1) d) w') : callF Tryz.prog F_codec_id #[.int .i64 (point : Int), .slice p l c] w K := by
  apply codec_id_call
  unfold codec_id
  rw [head_val hp hn]
  refine mk1 (x := headB point l) fun p1 w1 f1 h1 s1 => ?_
  refine ⟨_, _, _, Ef.new (v := .slice (some ⟨w1.heap.size, 0, none⟩) 2 2) (cs := ([.slice p1 1 1, .slice p l c] : List Value).toArray) (e := T_S_uint8) (by kernel_rfl) fun w2 f2 hB2 s2 => ?_⟩
  have hR2 := RowB.of2 hB2.rowL ((h1.fr0 f2).byS) (byS ((hx.fr0 f1).fr0 f2) hl hc)
  have efl : [[headB point l], rest].flatten = headB point l :: rest := by simp
  have hbl : (headB point l :: rest).length = l + 1 := by simp [hl]
  refine Join_c (l := 2) hR2 rfl (by rw [efl, hbl]; omega) (by omega) fun q d w3 f3 hO3 => ⟨_, _, _, rfl, ?_⟩
  rw [efl, hbl] at hO3
  rw [efl, hbl]
  have n02 := (f1.then f2).size
  exact h q d w3 ((f1.then f2).then f3) (hO3.mono n02)
def okPl (point : Int) (n : Nat) : Prop := 0 ≤ point ∧ point ≤ 3 ∧ n ≤ 19
def okMk (m s n : Int) (key : List UInt8) (point : Int) (l2 l3 : Nat) : Prop := 0 ≤ point ∧ point ≤ 2 ∧ (l2 : Int) = s ∧ (l3 : Int) = n
theorem Make_c {p2 p3 : Option Addr} {l2 c2 l3 c3 : Nat} {point : Int} {sid nonce : List UInt8} (hk : key.length = 16) (h2 : Row w p2 (sid.map vb)) (hl2 : l2 = sid.length) (hc2 : l2 ≤ c2) (h3 : Row w p3 (nonce.map vb)) (hl3 : l3 = nonce.length) (hc3 : l3 ≤ c3)
    (hstate : ¬ okC m s n key → ∀ w', Fr [] w w' → K (.tuple #[.slice none 0 0, .int .i64 19]) w') (hrange : okC m s n key → ¬ okMk m s n key point l2 l3 → ∀ w', Fr [] w w' → K (.tuple #[.slice none 0 0, .int .i64 11]) w')
    (hok : okC m s n key → okMk m s n key point l2 l3 → ∀ q d w', Fr [] w w' → OB w' q (l2 + l3 + 1) d (headB point.toNat (l2 + l3) :: turnC false m key (sid ++ nonce)) w.heap.size → K (.tuple #[.slice q (l2 + l3 + 1) d, .int .i64 0]) w') :
    callF Tryz.prog F_codec_Make #[.agg ⟨cfgV m s n key⟩, .int .i64 point, .slice p2 l2 c2, .slice p3 l3 c3] w K := by
  apply codec_Make_call
  unfold codec_Make
  refine newCfg hk fun w1 f1 hC s1 => ⟨_, hC.ld hk, Right_c hk fun w2 f2 => ⟨_, rfl, ?_⟩⟩
  have f02 := f1.then f2
  have hC2 := hC.fr0 f2
  by_cases ho : okC m s n key
  · rw [decide_eq_true ho]
    have no : ∀ hb : ¬ okMk m s n key point l2 l3, K (.tuple #[.slice none 0 0, .int .i64 11]) w2 := fun hb => hrange ho hb w2 f02
    refine cond_f (cond_d (fun h => no fun hh => by unfold okMk at hh; omega) fun g1 => cond_d (fun h => no fun hh => by unfold okMk at hh; omega) fun g2 => ⟨_, hC2.sid, cond_ne (fun h => no fun hh => by unfold okMk at hh; omega) fun g3 => ⟨_, hC2.nonce, cond_ne (fun h => no fun hh => by unfold okMk at hh; omega) fun g4 => ?_⟩⟩)
    have hmk : okMk m s n key point l2 l3 := ⟨by omega, by omega, g3, g4⟩
    obtain ⟨pt, rfl⟩ := Int.eq_ofNat_of_zero_le (show 0 ≤ point by omega)
    have ho' := ho
    unfold okC at ho'
    unfold codec_Make_j1
    refine ⟨fun w' => Fr [] w2 w', Drw.intro fun w3 f3 s3 => ?_⟩
    refine ⟨_, ⟨f3, fun w' hw' => (hC2.fr0 hw').ld hk⟩, ?_⟩
    refine ⟨_, _, _, Ef.new (v := .slice (some ⟨w3.heap.size, 0, none⟩) 2 2) (cs := ([.slice p2 l2 c2, .slice p3 l3 c3] : List Value).toArray) (e := T_S_uint8) (by kernel_rfl) fun w4 f4 hB4 s4 => ?_⟩
    have f24 := f3.then f4
    refine ⟨.inr f24, ?_⟩
    have f04 := f02.then f24
    have hR4 := RowB.of2 hB4.rowL (byS (h2.fr0 f04) hl2 hc2) (byS (h3.fr0 f04) hl3 hc3)
    have efl : [sid, nonce].flatten = sid ++ nonce := by simp
    have hbl : (sid ++ nonce).length = l2 + l3 := by rw [List.length_append, ← hl2, ← hl3]
    refine Join_c (l := 2) hR4 rfl (by rw [efl, hbl]; omega) (by omega) fun q d w5 f5 hO5 => ⟨_, _, _, rfl, .inr (f24.then f5), ?_⟩
    rw [efl, hbl] at hO5
    rw [efl, hbl]
    have f05 := f04.then f5
    refine Turn_cfg_c hk hO5.row hO5.2.1 hO5.cap (by omega) (fun hn => absurd ho hn) (fun _ hn => absurd (by omega) hn) fun _ _ q6 d6 w6 f6 hO6 => ⟨_, _, _, _, rfl, cond_f ?_⟩
    have f06 := f05.then f6
    refine id_c (by omega) hO6.row hO6.2.1 hO6.cap (by omega) fun q7 d7 w7 f7 hO7 => ⟨_, _, _, rfl, ?_⟩
    exact hok ho hmk q7 d7 w7 (f06.then f7) (hO7.mono f06.size)
  · rw [decide_eq_false ho]
    exact cond_t (hstate ho w2 f02)
end
end Go.Sh
end

section
namespace Go.Sh
open Go Go.Fw Go.Proofs
set_option maxRecDepth 100000
set_option linter.unusedVariables false
abbrev partsL (pt : Int) (q1 : Option Addr) (l1 d1 : Nat) (q2 : Option Addr) (l2 d2 : Nat) : List Value := [.int .i64 pt, .slice q1 l1 d1, .slice q2 l2 d2]
section
variable {w : World} {m s n : Int} {key text : List UInt8} {K : Value → World → Prop}
theorem stoP {b : Nat} {f : Nat → Value} (hB : Blk w b 3 f) {cs : List Value} (hm : cs.length = 3) (hv : ∀ v ∈ cs, v.oneCell' = true) {K : World → Prop}
    (h : ∀ w', Fr [b] w w' → Blk w' b 3 (updN f 0 cs) → Ld Tryz.prog T_codec_Parts (.pointer (some ⟨b, 0, none⟩)) w' (.agg ⟨cs⟩) → K w') : ∃ w', Sto Tryz.prog T_codec_Parts (.pointer (some ⟨b, 0, none⟩)) (.agg ⟨cs⟩) w w' ∧ K w' := by
  refine Sto.agg (m := 3) (by kernel_rfl) hm hB (Nat.le_refl 3) hv fun w' hf hB' hs => h w' hf hB' ?_
  refine LdA (m := 3) (by kernel_rfl) (by kernel_rfl) hB' (o := 0) (by omega) cs hm (fun j v hj => ?_)
  rw [Nat.zero_add]
  unfold updN
  obtain ⟨h1, h2⟩ := List.getElem?_eq_some_iff.1 hj
  rw [dif_pos ⟨Nat.zero_le _, by simpa using h1⟩]
  simpa using h2
theorem parts_one (pt : Int) (q1 : Option Addr) (l1 d1 : Nat) (q2 : Option Addr) (l2 d2 : Nat) : ∀ v ∈ partsL pt q1 l1 d1 q2 l2 d2, v.oneCell' = true := by
  intro v hv
  simp only [partsL, List.mem_cons, List.not_mem_nil, or_false] at hv
  rcases hv with rfl | rfl | rfl <;> rfl
def okBk (m s n : Int) (key id : List UInt8) : Prop := okC m s n key ∧ (id.length : Int) = 1 + (s + n) ∧ (fl id 0).toNat % 64 + 1 = id.length
set_option maxHeartbeats 4000000 in
theorem codecBack_c {p1 : Option Addr} {l1 c1 : Nat} {id : List UInt8} (hk : key.length = 16) (h1 : Row w p1 (id.map vb)) (hl1 : l1 = id.length) (hc1 : l1 ≤ c1) (hlb : l1 < 1000000)
    (hbad : ¬ okBk m s n key id → ∀ er w', Fr [] w w' → er = (if okC m s n key then (if (id.length : Int) = 1 + (s + n) then 10 else 11) else 19) → K (.tuple #[.agg ⟨partsL 0 none 0 0 none 0 0⟩, .int .i64 er]) w')
    (hok : okBk m s n key id → ∀ q1 d1 q2 d2 w', Fr [] w w' → OB w' q1 s.toNat d1 ((turnC true m key (id.drop 1)).take s.toNat) w.heap.size → OB w' q2 n.toNat d2 ((turnC true m key (id.drop 1)).drop s.toNat) w.heap.size →
      K (.tuple #[.agg ⟨partsL (((fl id 0).toNat / 64 : Nat) : Int) q1 s.toNat d1 q2 n.toNat d2⟩, .int .i64 0]) w') :
    callF Tryz.prog F_codec_Back #[.agg ⟨cfgV m s n key⟩, .slice p1 l1 c1] w K := by
  apply codec_Back_call
  unfold codec_Back
  refine newCfg hk fun w1 f1 hC s1 => ?_
  refine newZ (s := 3) (by kernel_rfl) fun w2 g2 f2 hB2 s2 => ?_
  obtain ⟨kb, hkb⟩ : ∃ kb, kb = w1.heap.size := ⟨_, rfl⟩
  rw [← hkb] at hB2 ⊢
  have f02 := f1.then f2
  have n1 := f1.size
  have hltb := hB2.lt
  have hC2 := hC.fr0 f2
  have hCl := hC.lt
  refine ⟨_, hC2.ld hk, Right_c hk fun w3 f3 => ⟨_, rfl, ?_⟩⟩
  have hB3 := hB2.fr0 f3
  have hC3 := hC2.fr0 f3
  have f03 := f02.then f3
  have z3 : ∀ v ∈ partsL 0 none 0 0 none 0 0, v.oneCell' = true := parts_one _ _ _ _ _ _ _
  by_cases ho : okC m s n key
  · rw [decide_eq_true ho]
    refine cond_f ⟨_, hC3.ld hk, cfgSize_c hk fun w4 f4 => ⟨_, rfl, ?_⟩⟩
    rw [if_pos ho]
    have f04 := f03.then f4
    have hB4 := hB3.fr0 f4
    have hC4 := hC3.fr0 f4
    refine cond_ne (fun hne => ?_) (fun hlen => ?_)
    · refine stoP hB4 (cs := partsL 0 none 0 0 none 0 0) rfl z3 fun w5 f5 hB5 hLd => ⟨_, _, rfl, hLd, ?_⟩
      exact hbad (fun hh => hne (by have := hh.2.1; omega)) 11 w5 (f04.st f5 (by omega)) (by rw [if_pos ho, if_neg (by omega)])
    · have ho' := ho
      unfold okC at ho'
      have hlid : (id.length : Int) = 1 + (s + n) := by omega
      obtain ⟨a, ha, hca⟩ := row_get (t := T_S_uint8) (by kernel_rfl) (h1.fr0 f04) (c := c1) hl1 (i := 0) (by omega) (k := .i64)
      refine ⟨a, ha, _, Ld.cell (by kernel_rfl) hca, Told_c ⟨_, rfl, ?_⟩⟩
      refine cond_ne (fun hne => ?_) (fun htold => ?_)
      · refine stoP hB4 (cs := partsL 0 none 0 0 none 0 0) rfl z3 fun w5 f5 hB5 hLd => ⟨_, _, rfl, hLd, ?_⟩
        refine hbad (fun hh => hne ?_) 10 w5 (f04.st f5 (by omega)) (by rw [if_pos ho, if_pos hlid])
        have := hh.2.2
        show (((fl id 0).toNat % 64 + 1 : Nat) : Int) = _
        omega
      · have hbk : okBk m s n key id := ⟨ho, hlid, by have h' : (((fl id 0).toNat % 64 + 1 : Nat) : Int) = _ := htold; omega⟩
        unfold codec_Back_j2
        refine Drw.intro fun w5 f5 s5 => ?_
        have f05 := f04.then f5
        refine slFrom (h1.fr0 f05) hl1 (n := 1) (by omega) hc1 fun qt dt ht htl htd htb => ?_
        refine ⟨_, (hC4.fr0 f5).ld hk, ?_⟩
        obtain ⟨T, hT⟩ : ∃ T, T = turnC true m key (id.drop 1) := ⟨_, rfl⟩
        refine Back_cfg_c hk ht htl htd (by omega) (fun hn => absurd ho hn) (fun _ hn => absurd (by omega) hn) fun _ hl' q6 d6 w6 f6 hO6 => ⟨_, _, _, _, rfl, cond_f ?_⟩
        rw [← hT] at hO6 hok
        have f06 := f05.then f6
        refine ⟨fun w' => Fr [] w6 w', Drw.intro fun w7 f7 s7 => ?_⟩
        have g46 := f5.then f6
        have hC6 := hC4.fr0 g46
        have h17 := h1.fr0 (f06.then f7)
        obtain ⟨a', ha', hca'⟩ := row_get (t := T_S_uint8) (by kernel_rfl) (h1.fr0 f06) (c := c1) hl1 (i := 0) (by omega) (k := .i64)
        refine ⟨a', ha', _, ⟨f7, fun w' hw' => Ld.cell (by kernel_rfl) (Fr.cell hw' hca' (by simp))⟩, _, ⟨f7, fun w' hw' => (hC6.fr0 hw').sid⟩, ?_⟩
        obtain ⟨s', rfl⟩ := Int.eq_ofNat_of_zero_le (show 0 ≤ s by omega)
        obtain ⟨n', rfl⟩ := Int.eq_ofNat_of_zero_le (show 0 ≤ n by omega)
        rw [Int.toNat_natCast, Int.toNat_natCast] at hok
        have hTl : l1 - 1 = s' + n' := by omega
        have hcap6 := hO6.cap
        refine slTo (hO6.row.fr0 f7) hO6.2.1 (n := s') (by omega) hcap6 fun qa da hqa hla hda hba => ?_
        refine ⟨_, ⟨f7, fun w' hw' => (hC6.fr0 hw').sid⟩, ?_⟩
        refine slFrom (hO6.row.fr0 f7) hO6.2.1 (n := s') (by omega) hcap6 fun qb db hqb hlb' hdb hbb => ?_
        have enb : l1 - 1 - s' = n' := by omega
        rw [enb] at hlb' hdb ⊢
        have n06 := f06.size
        -- the parts
        have mkA : ∀ (w8 : World), Fr [] w7 w8 → ∀ {K' : Option Addr → Nat → Nat → World → Prop}, (∀ p w', Fr [] w8 w' → RowB w' p [T.take s'] → K' p 1 1 w') → ∃ p l c w', Ef Tryz.prog (Instr.buildSlice T_S_S_uint8 1 #[(0, .slice qa s' da)]) w8 (.slice p l c) w' ∧ K' p l c w' := fun w8 f8 K' h' => rowB1 (byS (hqa.fr0 f8) hla hda) (by kernel_rfl) fun p w' f hR _ => h' p w' f hR
        have mkB : ∀ (w8 : World), Fr [] w7 w8 → ∀ {K' : Option Addr → Nat → Nat → World → Prop}, (∀ p w', Fr [] w8 w' → RowB w' p [T.drop s'] → K' p 1 1 w') → ∃ p l c w', Ef Tryz.prog (Instr.buildSlice T_S_S_uint8 1 #[(0, .slice qb n' db)]) w8 (.slice p l c) w' ∧ K' p l c w' := fun w8 f8 K' h' => rowB1 (byS (hqb.fr0 f8) hlb' hdb) (by kernel_rfl) fun p w' f hR _ => h' p w' f hR
        have joA : ∀ (w8 : World) (p : Option Addr), RowB w8 p [T.take s'] → ∀ {K' : Value → World → Prop}, (∀ q d w', Fr [] w8 w' → OB w' q s' d (T.take s') w8.heap.size → K' (.slice q s' d) w') → callF Tryz.prog F_octet_Join #[.slice p 1 1] w8 K' := by
          intro w8 p hR K' h'
          have efl : [T.take s'].flatten = T.take s' := by simp
          refine Join_c (l := 1) hR rfl (by rw [efl]; omega) (by omega) fun q d w' f hO => ?_
          rw [efl, ← hla] at hO
          rw [efl, ← hla]
          exact h' q d w' f hO
        have joB : ∀ (w8 : World) (p : Option Addr), RowB w8 p [T.drop s'] → ∀ {K' : Value → World → Prop}, (∀ q d w', Fr [] w8 w' → OB w' q n' d (T.drop s') w8.heap.size → K' (.slice q n' d) w') → callF Tryz.prog F_octet_Join #[.slice p 1 1] w8 K' := by
          intro w8 p hR K' h'
          have efl : [T.drop s'].flatten = T.drop s' := by simp
          refine Join_c (l := 1) hR rfl (by rw [efl]; omega) (by omega) fun q d w' f hO => ?_
          rw [efl, ← hlb'] at hO
          rw [efl, ← hlb']
          exact h' q d w' f hO
        have fin : ∀ (w8 : World) (q1 : Option Addr) (d1 : Nat) (q2 : Option Addr) (d2 : Nat), Fr [] w7 w8 → OB w8 q1 s' d1 (T.take s') w7.heap.size → OB w8 q2 n' d2 (T.drop s') w7.heap.size →
            ∃ w10, Sto Tryz.prog T_codec_Parts (.pointer (some ⟨kb, 0, none⟩)) (.agg #[.int .i64 (((fl id 0).toNat / 64 : Nat) : Int), .slice q1 s' d1, .slice q2 n' d2]) w8 w10 ∧ codec_Back_j1 ⟨kb, 0, none⟩ 0 w10 K := by
          intro w8 q1 d1 q2 d2 f8 hO1 hO2
          have n7 := f7.size
          have g28 := ((((f3.then f4).then g46).then f7).then f8)
          have hlt2 := hB2.lt
          have n27 := (((f3.then f4).then g46).then f7).size
          refine stoP (hB2.fr0 g28) (cs := partsL (((fl id 0).toNat / 64 : Nat) : Int) q1 s' d1 q2 n' d2) rfl (parts_one _ _ _ _ _ _ _) fun w10 f10 hB10 hLd => ?_
          unfold codec_Back_j1
          refine ⟨_, _, rfl, hLd, ?_⟩
          exact hok hbk q1 d1 q2 d2 w10 ((f02.then g28).st f10 (by omega)) ((hO1.fr_sep f10 (by omega)).mono (by omega)) ((hO2.fr_sep f10 (by omega)).mono (by omega))
        -- both rows stand: they are joined
        have tAB : ∀ (w8 : World), Fr [] w7 w8 → ∀ (pA pB : Option Addr), RowB w8 pA [T.take s'] → RowB w8 pB [T.drop s'] →
            callF Tryz.prog F_octet_Join #[.slice pA 1 1] w8 fun r w9 => ∃ (p : Option Addr) (l c : Nat), r = .slice p l c ∧ (w9 = w8 ∨ Fr [] w6 w9) ∧
              callF Tryz.prog F_octet_Join #[.slice pB 1 1] w9 fun r' w10 => ∃ (p' : Option Addr) (l' c' : Nat), r' = .slice p' l' c' ∧
                ∃ w11, Sto Tryz.prog T_codec_Parts (.pointer (some ⟨kb, 0, none⟩)) (.agg #[.int .i64 (((fl id 0).toNat / 64 : Nat) : Int), .slice p l c, .slice p' l' c']) w10 w11 ∧ codec_Back_j1 ⟨kb, 0, none⟩ 0 w11 K := by
          intro w8 f8 pA pB hA hB
          refine joA w8 pA hA fun q1 d1 w9 f9 hO1 => ⟨_, _, _, rfl, .inr ((f7.then f8).then f9), ?_⟩
          refine joB w9 pB (hB.fr0 f9) fun q2 d2 w10 f10 hO2 => ⟨_, _, _, rfl, ?_⟩
          have m8 := f8.size; have m9 := f9.size
          exact fin w10 q1 d1 q2 d2 ((f8.then f9).then f10) ((hO1.fr0 f10).mono m8) (hO2.mono (by omega))
        have tA_B : ∀ (w8 : World), Fr [] w7 w8 → ∀ (pA : Option Addr), RowB w8 pA [T.take s'] →
            callF Tryz.prog F_octet_Join #[.slice pA 1 1] w8 fun r w9 => ∃ (p : Option Addr) (l c : Nat), r = .slice p l c ∧ (w9 = w8 ∨ Fr [] w6 w9) ∧
              ∃ (pb : Option Addr) (lb cb : Nat) (wb : World), Ef Tryz.prog (Instr.buildSlice T_S_S_uint8 1 #[(0, .slice qb n' db)]) w9 (.slice pb lb cb) wb ∧ (wb = w9 ∨ Fr [] w6 wb) ∧
              callF Tryz.prog F_octet_Join #[.slice pb lb cb] wb fun r' w10 => ∃ (p' : Option Addr) (l' c' : Nat), r' = .slice p' l' c' ∧
                ∃ w11, Sto Tryz.prog T_codec_Parts (.pointer (some ⟨kb, 0, none⟩)) (.agg #[.int .i64 (((fl id 0).toNat / 64 : Nat) : Int), .slice p l c, .slice p' l' c']) w10 w11 ∧ codec_Back_j1 ⟨kb, 0, none⟩ 0 w11 K := by
          intro w8 f8 pA hA
          refine joA w8 pA hA fun q1 d1 w9 f9 hO1 => ⟨_, _, _, rfl, .inr ((f7.then f8).then f9), ?_⟩
          refine mkB w9 (f8.then f9) fun pB w10 f10 hB => ⟨.inr (((f7.then f8).then f9).then f10), ?_⟩
          refine joB w10 pB hB fun q2 d2 w11 f11 hO2 => ⟨_, _, _, rfl, ?_⟩
          have m8 := f8.size; have m9 := f9.size; have m10 := f10.size
          exact fin w11 q1 d1 q2 d2 (((f8.then f9).then f10).then f11) (((hO1.fr0 f10).fr0 f11).mono m8) (hO2.mono (by omega))
        refine ⟨Point_c ⟨_, rfl, .inl rfl, ⟨?_, ?_⟩⟩, ⟨?_, ?_⟩⟩
        · exact mkA w7 (Fr.refl _ _) fun pA w8 f8 hA => ⟨.inr (f7.then f8), tA_B w8 f8 pA hA, mkB w8 f8 fun pB w9 f9 hB => ⟨.inr ((f7.then f8).then f9), tAB w9 (f8.then f9) pA pB (hA.fr0 f9) hB⟩⟩
        · exact mkB w7 (Fr.refl _ _) fun pB w8 f8 hB => ⟨.inr (f7.then f8), mkA w8 f8 fun pA w9 f9 hA => ⟨.inr ((f7.then f8).then f9), tAB w9 (f8.then f9) pA pB hA (hB.fr0 f9)⟩⟩
        · exact mkA w7 (Fr.refl _ _) fun pA w8 f8 hA => ⟨.inr (f7.then f8),
            Point_c ⟨_, rfl, .inl rfl, tA_B w8 f8 pA hA, mkB w8 f8 fun pB w9 f9 hB => ⟨.inr ((f7.then f8).then f9), tAB w9 (f8.then f9) pA pB (hA.fr0 f9) hB⟩⟩,
            mkB w8 f8 fun pB w9 f9 hB => ⟨.inr ((f7.then f8).then f9), Point_c ⟨_, rfl, .inl rfl, tAB w9 (f8.then f9) pA pB (hA.fr0 f9) hB⟩⟩⟩
        · exact mkB w7 (Fr.refl _ _) fun pB w8 f8 hB => ⟨.inr (f7.then f8),
            Point_c ⟨_, rfl, .inl rfl, mkA w8 f8 fun pA w9 f9 hA => ⟨.inr ((f7.then f8).then f9), tAB w9 (f8.then f9) pA pB hA (hB.fr0 f9)⟩⟩,
            mkA w8 f8 fun pA w9 f9 hA => ⟨.inr ((f7.then f8).then f9), Point_c ⟨_, rfl, .inl rfl, tAB w9 (f8.then f9) pA pB hA (hB.fr0 f9)⟩⟩⟩
  · rw [decide_eq_false ho]
    refine cond_t (stoP hB3 (cs := partsL 0 none 0 0 none 0 0) rfl z3 fun w5 f5 hB5 hLd => ⟨_, _, rfl, hLd, ?_⟩)
    exact hbad (fun hh => ho hh.1) 19 w5 (f03.st f5 (by omega)) (by rw [if_neg ho])
end
end Go.Sh
end

section
namespace Go.Sh
open Go Go.Fw Go.Proofs
set_option maxRecDepth 100000
set_option linter.unusedVariables false
def PAt (w : World) (b : Nat) (cs : List Value) : Prop := ∃ f, Blk w b 3 f ∧ ∀ j v, cs[j]? = some v → f j = v
theorem PAt.fr0 {w w' : World} {b : Nat} {cs : List Value} (h : PAt w b cs) (f : Fr [] w w') : PAt w' b cs := by obtain ⟨g, hB, hc⟩ := h; exact ⟨g, hB.fr0 f, hc⟩
section
variable {w : World} {b : Nat} {pt : Int} {q1 q2 : Option Addr} {l1 d1 l2 d2 : Nat}
end
def n17 : List UInt8 := [4, 5, 6, 7]
theorem zcfg : (#[.int .i64 0, .int .i64 0, .int .i64 0, .int .u8 0, .int .u8 0, .int .u8 0, .int .u8 0, .int .u8 0, .int .u8 0, .int .u8 0, .int .u8 0, .int .u8 0, .int .u8 0, .int .u8 0, .int .u8 0, .int .u8 0, .int .u8 0, .int .u8 0, .int .u8 0] : Array Value) = ⟨cfgV 0 0 0 z16k⟩ := by kernel_rfl
end Go.Sh
end

section
namespace Go.Sh
open Go Go.Fw Go.Proofs
set_option maxRecDepth 100000
set_option linter.unusedVariables false
theorem CopyOB_c {w : World} {p : Option Addr} {l c : Nat} {xs : List UInt8} (hx : Row w p (xs.map vb)) (hl : l = xs.length) (hlen : l ≤ 1073741824) {K : Value → World → Prop}
    (h : ∀ q d w', Fr [] w w' → OB w' q l d xs w.heap.size → K (.slice q l d) w') : callF Tryz.prog F_ref00_CopyBytes #[.slice p l c] w K :=
  CopyBytes_c hx hl hlen fun q d w' f hO hn => h q d w' f ⟨hO, hl, hn⟩
end Go.Sh
end

section
namespace Go.Sh
open Go Go.Fw Go.Proofs
set_option maxRecDepth 100000
set_option linter.unusedVariables false
instance (m s n : Int) (key : List UInt8) (point : Int) (l2 l3 : Nat) : Decidable (okMk m s n key point l2 l3) := by unfold okMk; infer_instance
instance (point : Int) (k : Nat) : Decidable (okPl point k) := by unfold okPl; infer_instance
def mkOut (m s n : Int) (key : List UInt8) (point : Int) (sid nonce : List UInt8) : List UInt8 :=
  if okC m s n key ∧ okMk m s n key point sid.length nonce.length then headB point.toNat (sid.length + nonce.length) :: turnC false m key (sid ++ nonce) else []
def mkE (m s n : Int) (key : List UInt8) (point : Int) (sid nonce : List UInt8) : Int :=
  if okC m s n key then (if okMk m s n key point sid.length nonce.length then 0 else 11) else 19
section
variable {w : World} {m s n : Int} {key : List UInt8} {K : Value → World → Prop}
theorem makeAny_c {p2 p3 : Option Addr} {l2 c2 l3 c3 : Nat} {point : Int} {sid nonce : List UInt8} (hk : key.length = 16) (h2 : Row w p2 (sid.map vb)) (hl2 : l2 = sid.length) (hc2 : l2 ≤ c2) (h3 : Row w p3 (nonce.map vb)) (hl3 : l3 = nonce.length) (hc3 : l3 ≤ c3)
    (h : ∀ q d w', Fr [] w w' → OB w' q (mkOut m s n key point sid nonce).length d (mkOut m s n key point sid nonce) w.heap.size → K (.tuple #[.slice q (mkOut m s n key point sid nonce).length d, .int .i64 (mkE m s n key point sid nonce)]) w') :
    callF Tryz.prog F_codec_Make #[.agg ⟨cfgV m s n key⟩, .int .i64 point, .slice p2 l2 c2, .slice p3 l3 c3] w K := by
  subst hl2; subst hl3
  refine Make_c hk h2 rfl hc2 h3 rfl hc3 (fun hn w' f => ?_) (fun ho hn w' f => ?_) (fun ho hm q d w' f hO => ?_)
  · have e1 : mkOut m s n key point sid nonce = [] := by unfold mkOut; rw [if_neg (fun hh => hn hh.1)]
    have e2 : mkE m s n key point sid nonce = 19 := by unfold mkE; rw [if_neg hn]
    rw [e1, e2] at h
    exact h none 0 w' f (OB.nil _ _)
  · have e1 : mkOut m s n key point sid nonce = [] := by unfold mkOut; rw [if_neg (fun hh => hn hh.2)]
    have e2 : mkE m s n key point sid nonce = 11 := by unfold mkE; rw [if_pos ho, if_neg hn]
    rw [e1, e2] at h
    exact h none 0 w' f (OB.nil _ _)
  · have e1 : mkOut m s n key point sid nonce = headB point.toNat (sid.length + nonce.length) :: turnC false m key (sid ++ nonce) := by unfold mkOut; rw [if_pos ⟨ho, hm⟩]
    have e2 : mkE m s n key point sid nonce = 0 := by unfold mkE; rw [if_pos ho, if_pos hm]
    rw [e1, e2] at h
    have hl := hO.2.1
    have := h q d w' f (by rw [← hl]; exact hO)
    rwa [← hl] at this
theorem head_ref {p n : Nat} (hp : p < 4) (hn : n < 64) : IntKind.u8.wrap (IntKind.i64.wrap (IntKind.i64.wrap (64 * (p : Int)) + (n : Int))) = ((headB p n).toNat : Int) := by
  rw [wrap64 (n := 64 * (p : Int)) (by omega) (by omega), wrap64 (by omega) (by omega)]
  have : 64 * (p : Int) + (n : Int) = ((64 * p + n : Nat) : Int) := by omega
  rw [this, u8wrap]; rfl
theorem refMake_c {p2 p3 : Option Addr} {l2 c2 l3 c3 : Nat} {point : Int} {sid nonce : List UInt8} (hk : key.length = 16) (h2 : Row w p2 (sid.map vb)) (hl2 : l2 = sid.length) (h3 : Row w p3 (nonce.map vb)) (hl3 : l3 = nonce.length)
    (h : ∀ q d w', Fr [] w w' → OB w' q (mkOut m s n key point sid nonce).length d (mkOut m s n key point sid nonce) w.heap.size → K (.tuple #[.slice q (mkOut m s n key point sid nonce).length d, .int .i64 (mkE m s n key point sid nonce)]) w') :
    callF Tryz.prog F_ref17_Make #[.agg ⟨cfgV m s n key⟩, .int .i64 point, .slice p2 l2 c2, .slice p3 l3 c3] w K := by
  apply ref17_Make_call
  unfold ref17_Make
  subst hl2; subst hl3
  refine newCfgR hk fun w1 f1 hC s1 => ⟨_, hC.ldR hk, refRight_c hk fun w2 f2 => ⟨_, rfl, ?_⟩⟩
  have f02 := f1.then f2
  have hC2 := hC.fr0 f2
  by_cases ho : okC m s n key
  · rw [decide_eq_true ho]
    have no : ¬ okMk m s n key point sid.length nonce.length → K (.tuple #[.slice none 0 0, .int .i64 11]) w2 := by
      intro hn
      have e1 : mkOut m s n key point sid nonce = [] := by unfold mkOut; rw [if_neg (fun hh => hn hh.2)]
      have e2 : mkE m s n key point sid nonce = 11 := by unfold mkE; rw [if_pos ho, if_neg hn]
      rw [e1, e2] at h
      exact h none 0 w2 f02 (OB.nil _ _)
    refine cond_f (cond_d (fun h => no fun hh => by unfold okMk at hh; omega) fun g1 => cond_d (fun h => no fun hh => by unfold okMk at hh; omega) fun g2 => ⟨_, hC2.sid, cond_ne (fun h => no fun hh => by unfold okMk at hh; omega) fun g3 => ⟨_, hC2.nonce, cond_ne (fun h => no fun hh => by unfold okMk at hh; omega) fun g4 => ?_⟩⟩)
    have hm : okMk m s n key point sid.length nonce.length := ⟨by omega, by omega, g3, g4⟩
    have e1 : mkOut m s n key point sid nonce = headB point.toNat (sid.length + nonce.length) :: turnC false m key (sid ++ nonce) := by unfold mkOut; rw [if_pos ⟨ho, hm⟩]
    have e2 : mkE m s n key point sid nonce = 0 := by unfold mkE; rw [if_pos ho, if_pos hm]
    rw [e1, e2] at h
    obtain ⟨pt, rfl⟩ := Int.eq_ofNat_of_zero_le (show 0 ≤ point by omega)
    rw [Int.toNat_natCast] at h
    have ho' := ho
    unfold okC at ho'
    unfold ref17_Make_j1
    refine ⟨fun w' => Fr [] w2 w', Drw.intro fun w3 f3 s3 => ?_⟩
    refine ⟨_, ⟨f3, fun w' hw' => (hC2.fr0 hw').ldR hk⟩, ?_⟩
    refine mk0 fun p0 w4 f4 hO4 s4 => ⟨.inr (f3.then f4), ?_⟩
    have f24 := f3.then f4
    have f04 := f02.then f24
    refine pushN hO4 f4.size (h2.fr0 f04) rfl (by omega) fun q5 d5 w5 f5 hO5 => ?_
    have f35 := hO4.news f4 f5 (Nat.le_refl _)
    refine ⟨.inr (f3.then f35), ?_⟩
    have f05 := f02.then (f3.then f35)
    refine pushN hO5 f35.size (h3.fr0 f05) rfl (by omega) fun q6 d6 w6 f6 hO6 => ?_
    have f36 := hO5.news f35 f6 (Nat.le_refl _)
    refine ⟨.inr (f3.then f36), ?_⟩
    have f06 := f02.then (f3.then f36)
    rw [List.nil_append] at hO6
    have hlen : ((sid ++ nonce).length : Int) = s + n := by rw [List.length_append]; omega
    have hl6 : 0 + sid.length + nonce.length = (sid ++ nonce).length := by rw [List.length_append]; omega
    refine refTurn_cfg_c hk hO6.row hO6.2.1 (by omega) fun q7 d7 e7 o7 w7 f7 hO7 t7 => ⟨_, _, _, _, rfl, ?_⟩
    have hO7e : e7 = 0 ∧ o7 = turnC false m key (sid ++ nonce) := by
      rcases t7 with ⟨a, _⟩ | ⟨_, b, _⟩ | ⟨_, _, c, d⟩
      · exact absurd ho a
      · exact absurd hlen b
      · exact ⟨c, d⟩
    obtain ⟨rfl, rfl⟩ := hO7e
    have htl := turnC_len false ho hlen
    have hll : (turnC false m key (sid ++ nonce)).length = sid.length + nonce.length := by rw [htl, List.length_append]
    rw [head_ref (by omega) (by omega)]
    have f07 := f06.then f7
    refine mk1 (x := headB pt (turnC false m key (sid ++ nonce)).length) fun p8 w8 f8 hO8 s8 => ?_
    refine pushN hO8 f8.size (hO7.fr0 f8).row rfl (by omega) fun q9 d9 w9 f9 hO9 => ?_
    have hl9 := hO9.2.1
    have e9 : [headB pt (turnC false m key (sid ++ nonce)).length] ++ turnC false m key (sid ++ nonce) = headB pt (sid.length + nonce.length) :: turnC false m key (sid ++ nonce) := by rw [hll]; rfl
    rw [e9] at hO9 hl9
    have f79 := hO8.news f8 f9 (Nat.le_refl _)
    have := h q9 d9 w9 (f07.then f79) (by rw [← hl9]; exact hO9.mono f07.size)
    rwa [← hl9] at this
  · rw [decide_eq_false ho]
    have e1 : mkOut m s n key point sid nonce = [] := by unfold mkOut; rw [if_neg (fun hh => ho hh.1)]
    have e2 : mkE m s n key point sid nonce = 19 := by unfold mkE; rw [if_neg ho]
    rw [e1, e2] at h
    exact cond_t (h none 0 w2 f02 (OB.nil _ _))
instance (m s n : Int) (key id : List UInt8) : Decidable (okBk m s n key id) := by unfold okBk; infer_instance
def bkE (m s n : Int) (key id : List UInt8) : Int := if okBk m s n key id then 0 else if okC m s n key then (if (id.length : Int) = 1 + (s + n) then 10 else 11) else 19
def bkP (m s n : Int) (key id : List UInt8) : Int := if okBk m s n key id then (((fl id 0).toNat / 64 : Nat) : Int) else 0
def bkS (m s n : Int) (key id : List UInt8) : List UInt8 := if okBk m s n key id then (turnC true m key (id.drop 1)).take s.toNat else []
def bkN (m s n : Int) (key id : List UInt8) : List UInt8 := if okBk m s n key id then (turnC true m key (id.drop 1)).drop s.toNat else []
def bkT (m s n : Int) (key id : List UInt8) (q1 : Option Addr) (d1 : Nat) (q2 : Option Addr) (d2 : Nat) : Value := .tuple #[.agg ⟨partsL (bkP m s n key id) q1 (bkS m s n key id).length d1 q2 (bkN m s n key id).length d2⟩, .int .i64 (bkE m s n key id)]
theorem bk_len {id : List UInt8} (hb : okBk m s n key id) : (bkS m s n key id).length = s.toNat ∧ (bkN m s n key id).length = n.toNat := by
  have ho := hb.1
  have h2 := hb.2.1
  have ho' := ho
  unfold okC at ho'
  have ht : ((id.drop 1).length : Int) = s + n := by rw [List.length_drop]; omega
  have hl := turnC_len true ho ht
  have hd : (id.drop 1).length = id.length - 1 := List.length_drop
  unfold bkS bkN
  rw [if_pos hb, if_pos hb, List.length_take, List.length_drop]
  omega
theorem bk_len2 (m s n : Int) (key id : List UInt8) : (bkS m s n key id).length + (bkN m s n key id).length ≤ id.length := by
  by_cases hb : okBk m s n key id
  · have := bk_len hb; have h2 := hb.2.1; have ho := hb.1; unfold okC at ho; omega
  · unfold bkS bkN; rw [if_neg hb, if_neg hb]; simp
end
end Go.Sh
end

section
namespace Go.Sh
open Go Go.Fw Go.Proofs
set_option maxRecDepth 100000
set_option linter.unusedVariables false
structure SL where
  m : Int
  s : Int
  n : Int
  key : List UInt8
  st : Nat
def SL.v (x : SL) : List Value := slotV x.m x.s x.n x.key (x.st : Int)
def SL.c (x : SL) : List Value := cfgV x.m x.s x.n x.key
def sl0 : SL := ⟨0, 0, 0, z16k, 0⟩
def setS (sl : Nat → SL) (i : Nat) (x : SL) : Nat → SL := fun k => if k = i then x else sl k
def SL.ok (x : SL) (t : Nat) : Prop := x.key.length = 16 ∧ x.st ≤ t ∧ (x.st = 0 → x = sl0) ∧ (x.st ≠ 0 → okC x.m x.s x.n x.key)
def SlAt (w : World) (b : Nat) (sl : Nat → SL) (t : Nat) : Prop := ∃ f, Blk w b 61 f ∧ (∀ i, i < 3 → ∀ j v, (sl i).v[j]? = some v → f (i * 20 + j) = v) ∧ f 60 = .int .i64 (t : Int) ∧ ∀ i, i < 3 → (sl i).ok t
theorem SL.ok.v_len {x : SL} {t : Nat} (h : x.ok t) : x.v.length = 20 := by unfold SL.v slotV; rw [List.length_append, cfgV_len, h.1]; rfl
theorem SL.ok.v_cfg {x : SL} {t : Nat} (h : x.ok t) {j : Nat} {v : Value} (hj : x.c[j]? = some v) : x.v[j]? = some v := by
  have hlt := (List.getElem?_eq_some_iff.1 hj).1
  show (x.c ++ [.int .i64 (x.st : Int)])[j]? = some v
  rw [List.getElem?_append_left hlt]; exact hj
theorem SL.v_one (x : SL) : ∀ v ∈ x.v, v.oneCell' = true := by
  intro v hv
  rcases List.mem_append.1 hv with hv | hv
  · exact cfgV_one _ _ _ _ v hv
  · simp at hv; subst hv; rfl
section
variable {w : World} {b t : Nat} {sl : Nat → SL} {K : Value → World → Prop}
theorem SlAt.fr {w' : World} {L : List Nat} (h : SlAt w b sl t) (hf : Fr L w w') (hn : b ∉ L) : SlAt w' b sl t := by obtain ⟨f, hB, r⟩ := h; exact ⟨f, hB.fr hf hn, r⟩
theorem SlAt.fr0 {w' : World} (h : SlAt w b sl t) (hf : Fr [] w w') : SlAt w' b sl t := h.fr hf (by simp)
theorem SlAt.lt (h : SlAt w b sl t) : b < w.heap.size := by obtain ⟨f, hB, _⟩ := h; exact hB.lt
theorem SlAt.ok (h : SlAt w b sl t) {i : Nat} (hi : i < 3) : (sl i).ok t := by obtain ⟨f, hB, h1, h2, h3⟩ := h; exact h3 i hi
theorem SlAt.cfgLd (h : SlAt w b sl t) {i : Nat} (hi : i < 3) : Ld Tryz.prog T_mode_Config (.pointer (some ⟨b, i * 20, none⟩)) w (.agg ⟨(sl i).c⟩) := by
  obtain ⟨f, hB, h1, h2, h3⟩ := h
  exact LdA (m := 19) (by kernel_rfl) (by kernel_rfl) hB (by omega) _ (by unfold SL.c; rw [cfgV_len, (h3 i hi).1]) fun j v hj => h1 i hi j v ((h3 i hi).v_cfg hj)
theorem SlAt.ld (h : SlAt w b sl t) {i : Nat} (hi : i < 3) : Ld Tryz.prog T_slot_slot (.pointer (some ⟨b, i * 20, none⟩)) w (.agg ⟨(sl i).v⟩) := by
  obtain ⟨f, hB, h1, h2, h3⟩ := h
  exact LdA (m := 20) (by kernel_rfl) (by kernel_rfl) hB (by omega) _ (h3 i hi).v_len fun j v hj => h1 i hi j v hj
theorem SlAt.sto (h : SlAt w b sl t) {i : Nat} (hi : i < 3) {x : SL} (hx : x.ok t) {K : World → Prop} (hk : ∀ w', Fr [b] w w' → SlAt w' b (setS sl i x) t → w'.heap.size = w.heap.size → K w') : ∃ w', Sto Tryz.prog T_slot_slot (.pointer (some ⟨b, i * 20, none⟩)) (.agg ⟨x.v⟩) w w' ∧ K w' := by
  obtain ⟨f, hB, h1, h2, h3⟩ := h
  have hl := hx.v_len
  refine Sto.agg (m := 20) (cs := x.v) (by kernel_rfl) hl hB (by omega) x.v_one fun w' hf hB' hs => hk w' hf ⟨_, hB', fun k hk j v hj => ?_, ?_, fun k hk => ?_⟩ hs
  · unfold setS at hj
    by_cases hki : k = i
    · rw [if_pos hki] at hj
      have hlt := (List.getElem?_eq_some_iff.1 hj).1
      unfold updN
      rw [dif_pos ⟨by omega, by omega⟩]
      obtain ⟨h4, h5⟩ := List.getElem?_eq_some_iff.1 hj
      have e : k * 20 + j - i * 20 = j := by omega
      simp only [e]; exact h5
    · rw [if_neg hki] at hj
      have hlt := (List.getElem?_eq_some_iff.1 hj).1
      rw [(h3 k hk).v_len] at hlt
      unfold updN
      rw [dif_neg (by omega)]
      exact h1 k hk j v hj
  · unfold updN
    rw [dif_neg (by omega)]; exact h2
  · unfold setS
    by_cases hki : k = i
    · rw [if_pos hki]; exact hx
    · rw [if_neg hki]; exact h3 k hk
def occ (sl : Nat → SL) (n : Int) : Prop := (0 ≤ n ∧ n < 3) ∧ (sl n.toNat).st ≠ 0
instance (sl : Nat → SL) (n : Int) : Decidable (occ sl n) := by unfold occ; infer_instance
end
end Go.Sh
end

section
namespace Go.Sh
open Go Go.Fw Go.Proofs
set_option maxRecDepth 100000
set_option linter.unusedVariables false
structure PR where
  e : Int
  p : Int
  a : List UInt8
  b : List UInt8
def PR.bad (e : Int) : PR := ⟨e, 0, [], []⟩
def SL.size (x : SL) : Nat := (1 + (x.s + x.n)).toNat
section
variable {w : World} {b t : Nat} {sl : Nat → SL} {K : Value → World → Prop}
theorem backO_c {m s n : Int} {key : List UInt8} {p1 : Option Addr} {l1 c1 : Nat} {id : List UInt8} (hk : key.length = 16) (h1 : Row w p1 (id.map vb)) (hl1 : l1 = id.length) (hc1 : l1 ≤ c1) (hlb : l1 < 1000000)
    (h : ∀ q1 d1 q2 d2 w', Fr [] w w' → OB w' q1 (bkS m s n key id).length d1 (bkS m s n key id) w.heap.size → OB w' q2 (bkN m s n key id).length d2 (bkN m s n key id) w.heap.size → K (bkT m s n key id q1 d1 q2 d2) w') :
    callF Tryz.prog F_codec_Back #[.agg ⟨cfgV m s n key⟩, .slice p1 l1 c1] w K := by
  refine codecBack_c hk h1 hl1 hc1 hlb (fun hb er w' f he => ?_) (fun hb q1 d1 q2 d2 w' f hO1 hO2 => ?_)
  · unfold bkT bkP bkS bkN bkE at h
    rw [if_neg hb, if_neg hb, if_neg hb, if_neg hb, ← he] at h
    exact h none 0 none 0 w' f (OB.nil _ _) (OB.nil _ _)
  · obtain ⟨e1, e2⟩ := bk_len hb
    have g1 : bkS m s n key id = (turnC true m key (id.drop 1)).take s.toNat := by unfold bkS; rw [if_pos hb]
    have g2 : bkN m s n key id = (turnC true m key (id.drop 1)).drop s.toNat := by unfold bkN; rw [if_pos hb]
    rw [← g1] at hO1
    rw [← g2] at hO2
    have := h q1 d1 q2 d2 w' f (by rw [e1]; exact hO1) (by rw [e2]; exact hO2)
    unfold bkT at this
    rw [e1, e2] at this
    unfold bkP bkE at this
    rw [if_pos hb, if_pos hb] at this
    exact this
end
end Go.Sh
end
