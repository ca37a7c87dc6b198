/- A part of a proof of a given law of this program: lemmas, printed forms of its functions, contracts. It has no conditions of its own. -/
import Derived.Test.YtopjbcjbohegcaaGreatMM
import Derived.Test.YtopjbcjbohegcaaGreatMA
import Derived.Test.YtopjbcjbohegcaaGreatMSh4
import Derived.Test.YtopjbcjbohegcaaGreatML15
import Derived.Test.YtopjbcjbohegcaaGreatMH

section
namespace Go.Sh
open Go Go.Fw Go.Proofs
set_option maxRecDepth 100000
set_option linter.unusedVariables false
theorem turn_back {m s n : Int} {key text : List UInt8} (hok : okC m s n key) (hk : key.length = 16) (hl : (text.length : Int) = s + n) : turnC true m key (turnC false m key text) = text := by
  have ho := hok
  unfold okC at ho
  unfold turnC
  by_cases h0 : m = 0
  · rw [if_pos h0, if_pos h0]
  · by_cases h1 : m = 1
    · rw [if_neg h0, if_pos h1, if_neg h0, if_pos h1]
      simp only [Bool.false_eq_true, if_true, if_false]
      exact adecL_aencL _ _ (by have := ho.2.2.2.2.2.2.2.2 h1; omega)
    · rw [if_neg h0, if_neg h1, if_neg h0, if_neg h1]
      simp only [Bool.false_eq_true, if_true, if_false]
      exact passesL_rev key text [1, 2, 3, 4] (by omega) (by omega)
end Go.Sh
end

section
namespace Go.Sh
open Go Go.Fw Go.Proofs
set_option maxRecDepth 100000
set_option linter.unusedVariables false
section
variable {w : World} {m s n : Int} {key text : List UInt8} {K : Value → World → Prop}
def turnIs (back : Bool) (m s n : Int) (key text : List UInt8) (er : Int) (out : List UInt8) : Prop :=
  (¬ okC m s n key ∧ er = 19 ∧ out = []) ∨ (okC m s n key ∧ (text.length : Int) ≠ s + n ∧ er = 11 ∧ out = []) ∨ (okC m s n key ∧ (text.length : Int) = s + n ∧ er = 0 ∧ out = turnC back m key text)
end
end Go.Sh
end

section
namespace Go.Sh
open Go Go.Fw Go.Proofs
set_option maxRecDepth 100000
set_option linter.unusedVariables false
section
variable {w : World} {b : Nat} {m s n : Int} {key text : List UInt8}
theorem newCfgR (hk : key.length = 16) {K : Nat → World → Prop} (h : ∀ w', Fr [] w w' → Cfg w' w.heap.size m s n key → w'.heap.size = w.heap.size + 1 → K w.heap.size w') : New ⟨cfgV m s n key⟩ T_ref16_Config w K := by
  refine New.intro fun w1 f1 hB s1 => h w1 f1 ⟨fun i => (⟨cfgV m s n key⟩ : Array Value).getD i undef, ?_, fun j v hj => ?_⟩ s1
  · have e : (⟨cfgV m s n key⟩ : Array Value).size = 19 := by show (cfgV m s n key).length = 19; rw [cfgV_len]; omega
    rw [e] at hB; exact hB
  · have hlt := (List.getElem?_eq_some_iff.1 hj).1
    show Array.getD ⟨cfgV m s n key⟩ j undef = v
    rw [Array.getD_eq_getD_getElem?]
    have : (⟨cfgV m s n key⟩ : Array Value)[j]? = some v := by simpa using hj
    rw [this]; rfl
theorem stoCfgR {f : Nat → Value} (hB : Blk w b 19 f) (hk : key.length = 16) {K : World → Prop} (h : ∀ w', Fr [b] w w' → Cfg w' b m s n key → w'.heap.size = w.heap.size → K w') : ∃ w', Sto Tryz.prog T_ref16_Config (.pointer (some ⟨b, 0, none⟩)) (.agg ⟨cfgV m s n key⟩) w w' ∧ K w' := by
  refine Sto.agg (m := 19) (cs := cfgV m s n key) (by kernel_rfl) (by rw [cfgV_len]; omega) hB (Nat.le_refl 19) (cfgV_one _ _ _ _) fun w' hf hB' hs => h w' hf ⟨_, hB', fun j v hj => ?_⟩ hs
  have hlt := (List.getElem?_eq_some_iff.1 hj).1
  unfold updN
  rw [dif_pos ⟨Nat.zero_le _, by simpa using hlt⟩]
  obtain ⟨h1, h2⟩ := List.getElem?_eq_some_iff.1 hj
  simpa using h2
theorem Cfg.ldR (h : Cfg w b m s n key) (hk : key.length = 16) : Ld Tryz.prog T_ref16_Config (.pointer (some ⟨b, 0, none⟩)) w (.agg ⟨cfgV m s n key⟩) := by
  obtain ⟨f, hB, hc⟩ := h
  exact LdA (m := 19) (by kernel_rfl) (by kernel_rfl) hB (o := 0) (by omega) _ (by rw [cfgV_len]; omega) (fun j v hj => by rw [Nat.zero_add]; exact hc j v hj)
end
section
variable {w : World} {m s n : Int} {key text : List UInt8} {K : Value → World → Prop}
theorem refRight_c (hk : key.length = 16) (h : ∀ w', Fr [] w w' → K (.bool (decide (okC m s n key))) w') : callF Tryz.prog F_ref16_Right #[.agg ⟨cfgV m s n key⟩] w K := by
  apply ref16_Right_call
  unfold ref16_Right
  have bad : ¬ okC m s n key → ∀ w', Fr [] w w' → K (.bool false) w' := fun hb w' f => by have := h w' f; rwa [decide_eq_false hb] at this
  refine newCfgR hk fun w1 f1 hC s1 => ⟨_, hC.mode, cond_d (fun g => bad (fun hh => by unfold okC at hh; omega) w1 f1) fun g1 => ⟨_, hC.mode, cond_d (fun g => bad (fun hh => by unfold okC at hh; omega) w1 f1) fun g2 => ?_⟩⟩
  refine ⟨_, hC.sid, cond_d (fun g => bad (fun hh => by unfold okC at hh; omega) w1 f1) fun g3 => ⟨_, hC.sid, cond_d (fun g => bad (fun hh => by unfold okC at hh; omega) w1 f1) fun g4 => ?_⟩⟩
  refine ⟨_, hC.nonce, cond_d (fun g => bad (fun hh => by unfold okC at hh; omega) w1 f1) fun g5 => ⟨_, hC.nonce, cond_d (fun g => bad (fun hh => by unfold okC at hh; omega) w1 f1) fun g6 => ?_⟩⟩
  refine ⟨_, hC.sid, _, hC.nonce, ?_⟩
  rw [wrap64 (by omega) (by omega)]
  refine cond_d (fun g => bad (fun hh => by unfold okC at hh; omega) w1 f1) fun g7 => ?_
  have tail : (m = 1 → s + n = 16) → ref16_Right_j1 ⟨w.heap.size, 0, none⟩ false w1 K := by
    intro h16
    unfold ref16_Right_j1
    refine ⟨_, hC.mode, cond_ne (fun hne => ?_) (fun h0 => ?_)⟩
    · have hok : okC m s n key := ⟨by omega, by omega, by omega, by omega, by omega, by omega, by omega, fun _ => by omega, h16⟩
      have := h w1 f1
      rwa [decide_eq_true hok] at this
    · refine ⟨_, hC.keyLd hk, _, _, Ef.eqBytes (n := 16) (ys := z16k) (by kernel_rfl) (by kernel_rfl) hk rfl, ?_⟩
      have e : decide (key = z16k) = decide (okC m s n key) := by
        rw [decide_eq_decide]; unfold okC
        exact ⟨fun hh => ⟨by omega, by omega, by omega, by omega, by omega, by omega, by omega, fun _ => hh, fun _ => by omega⟩, fun hh => hh.2.2.2.2.2.2.2.1 h0⟩
      rw [e]
      exact h w1 f1
  unfold ref16_Right_j2
  refine ⟨_, hC.mode, cond_eq (fun h1 => ⟨_, hC.sid, _, hC.nonce, ?_⟩) (fun h1 => tail (fun h => absurd h h1))⟩
  rw [wrap64 (by omega) (by omega)]
  exact cond_ne (fun hne => bad (fun hh => hne (hh.2.2.2.2.2.2.2.2 h1)) w1 f1) fun h16 => tail (fun _ => h16)
theorem refCfgSize_c (hk : key.length = 16) (h : ∀ w', Fr [] w w' → K (.int .i64 (if okC m s n key then 1 + (s + n) else 0)) w') : callF Tryz.prog F_ref16_Size #[.agg ⟨cfgV m s n key⟩] w K := by
  apply ref16_Size_call
  unfold ref16_Size
  refine newCfgR hk fun w1 f1 hC s1 => ⟨_, hC.ldR hk, refRight_c hk fun w2 f2 => ⟨_, rfl, ?_⟩⟩
  by_cases hok : okC m s n key
  · rw [decide_eq_true hok]
    have hC2 := hC.fr0 f2
    refine cond_f ⟨_, hC2.sid, _, hC2.nonce, ?_⟩
    have := h w2 (f1.then f2)
    rw [if_pos hok] at this
    have hok' := hok
    unfold okC at hok'
    rw [wrap64 (n := 1 + s) (by omega) (by omega), wrap64 (by omega) (by omega), show 1 + s + n = 1 + (s + n) by omega]
    exact this
  · rw [decide_eq_false hok]
    have := h w2 (f1.then f2)
    rw [if_neg hok] at this
    exact cond_t this
set_option maxHeartbeats 1000000 in
theorem refTurnB_c (back : Bool) {ps : List Int} (hps : ps = if back then [4, 3, 2, 1] else [1, 2, 3, 4]) {p p2 : Option Addr} {l c c2 : Nat} (hk : key.length = 16) (hx : Row w p (text.map vb)) (hl : l = text.length) (hlb : l < 1000000) (hS : Row w p2 (ps.map vi))
    (h : ∀ q d er out w', Fr [] w w' → OB w' q out.length d out w.heap.size → turnIs back m s n key text er out → K (.tuple #[.slice q out.length d, .int .i64 er]) w') :
    callF Tryz.prog F_ref16_turn #[.agg ⟨cfgV m s n key⟩, .slice p l c, .slice p2 4 c2] w K := by
  apply ref16_turn_call
  unfold ref16_turn
  refine newCfgR hk fun w1 f1 hC s1 => ⟨_, hC.ldR hk, refRight_c hk fun w2 f2 => ⟨_, rfl, ?_⟩⟩
  have f02 := f1.then f2
  have hC2 := hC.fr0 f2
  by_cases ho : okC m s n key
  · rw [decide_eq_true ho]
    have ho' := ho
    unfold okC at ho'
    refine cond_f ⟨_, hC2.sid, _, hC2.nonce, ?_⟩
    rw [wrap64 (by omega) (by omega)]
    refine cond_ne (fun hne => h none 0 11 [] w2 f02 (OB.nil _ _) (.inr (.inl ⟨ho, by omega, rfl, rfl⟩))) fun hlen => ?_
    have hx2 := hx.fr0 f02
    have ok : ∀ q d w', Fr [] w w' → OB w' q l d (turnC back m key text) w.heap.size → K (.tuple #[.slice q l d, .int .i64 0]) w' := by
      intro q d w' f hO
      have hl' := hO.2.1
      have := h q d 0 _ w' f (by rw [← hl']; exact hO) (.inr (.inr ⟨ho, by omega, rfl, rfl⟩))
      rw [← hl'] at this
      exact this
    refine ⟨_, hC2.mode, cond_eq (fun h0 => ?_) (fun h0 => ⟨_, hC2.mode, cond_eq (fun h2 => ?_) (fun h2 => ?_)⟩)⟩
    · refine mk0 fun p0 w3 f3 hO3 s3 => ?_
      refine pushN hO3 f3.size (hx2.fr0 f3) hl (by omega) fun q d w4 f4 hO4 => ?_
      rw [List.nil_append, Nat.zero_add] at hO4
      rw [Nat.zero_add]
      have e : turnC back m key text = text := by unfold turnC; rw [if_pos h0]
      exact ok q d w4 (f02.then (hO3.news f3 f4 (Nat.le_refl _))) (by rw [e]; exact hO4.mono f02.size)
    · refine keySl ?_
      have hT : 2 ≤ l ∧ l ≤ 28 ∧ ∀ x ∈ ps, 0 ≤ x ∧ x ≤ 255 := ⟨by omega, by omega, by rw [hps]; cases back <;> decide⟩
      refine refPasses_c (ps := ps) (hC2.keyRow hk) hk.symm hk (by omega) hx2 hl hlb (hS.fr0 f02) (by rw [hps]; cases back <;> rfl) (by omega) (fun hb => absurd hT hb) fun _ q d w3 f3 hO3 => ⟨_, _, _, _, rfl, ?_⟩
      have e : turnC back m key text = passesL key text (ps.map Int.toNat) := by
        unfold turnC; rw [if_neg h0, if_neg (by omega), hps]; cases back <;> rfl
      exact ok q d w3 (f02.then f3) (by rw [e]; exact hO3.mono f02.size)
    · have h1 : m = 1 := by omega
      have h16 : text.length = 16 := by have := ho'.2.2.2.2.2.2.2.2 h1; omega
      obtain ⟨a, ha, hca⟩ := ixR (P := Tryz.prog) (t := T_S_int) (by kernel_rfl) (hS.fr0 f02) (cap := c2) (k := .i64) (i := 0) (len := 4) (by rw [List.length_map, hps]; cases back <;> rfl) (by omega) (by omega) (v := vi (if back then 4 else 1)) (by rw [hps]; cases back <;> rfl)
      refine ⟨a, ha, _, Ld.cell (by kernel_rfl) hca, ?_⟩
      cases back with
      | false =>
        refine cond_eq (fun _ => ?_) (fun hne => absurd rfl hne)
        refine keySl ?_
        refine refEncrypt_c (hC2.keyRow hk) hk.symm hk (by omega) hx2 hl h16 fun q d w3 f3 hO3 => ⟨_, _, _, rfl, ?_⟩
        have e : turnC false m key text = aencL key text := by unfold turnC; rw [if_neg h0, if_pos h1]; rfl
        have e16 : l = 16 := by omega
        subst e16
        exact ok q d w3 (f02.then f3) (by rw [e]; exact hO3.mono f02.size)
      | true =>
        refine cond_eq (fun hh => absurd hh (by decide)) (fun _ => ?_)
        refine keySl ?_
        refine refDecrypt_c (hC2.keyRow hk) hk.symm hk (by omega) hx2 hl h16 fun q d w3 f3 hO3 => ⟨_, _, _, rfl, ?_⟩
        have e : turnC true m key text = adecL key text := by unfold turnC; rw [if_neg h0, if_pos h1]; rfl
        have e16 : l = 16 := by omega
        subst e16
        exact ok q d w3 (f02.then f3) (by rw [e]; exact hO3.mono f02.size)
  · rw [decide_eq_false ho]
    exact cond_t (h none 0 19 [] w2 f02 (OB.nil _ _) (.inl ⟨ho, rfl, rfl⟩))
theorem refBack_cfg_c {p : Option Addr} {l c : Nat} (hk : key.length = 16) (hx : Row w p (text.map vb)) (hl : l = text.length) (hlb : l < 1000000)
    (h : ∀ q d er out w', Fr [] w w' → OB w' q out.length d out w.heap.size → turnIs true m s n key text er out → K (.tuple #[.slice q out.length d, .int .i64 er]) w') :
    callF Tryz.prog F_ref16_Back #[.agg ⟨cfgV m s n key⟩, .slice p l c] w K := by
  apply ref16_Back_call
  unfold ref16_Back
  refine newCfgR hk fun w1 f1 hC s1 => ⟨_, hC.ldR hk, ?_⟩
  refine ⟨_, _, _, Ef.new (v := .slice (some ⟨w1.heap.size, 0, none⟩) 4 4) (cs := (([4, 3, 2, 1] : List Int).map vi).toArray) (e := T_int) (by kernel_rfl) fun w2 f2 hB2 s2 => ?_⟩
  have f02 := f1.then f2
  refine refTurnB_c true rfl hk (hx.fr0 f02) hl hlb hB2.rowL fun q d er out w3 f3 hO hi => ⟨_, _, _, _, rfl, h q d er out w3 (f02.then f3) (hO.mono f02.size) hi⟩
end
end Go.Sh
end

section
namespace Go.Sh
open Go Go.Fw Go.Proofs
set_option maxRecDepth 100000
set_option linter.unusedVariables false
theorem list_cons {α : Type} {l : List α} {n : Nat} (h : l.length = n + 1) : ∃ a t, l = a :: t ∧ t.length = n := by
  cases l with
  | nil => simp at h
  | cons a t => exact ⟨a, t, rfl, by simpa using h⟩
theorem list16 {l : List UInt8} (h : l.length = 16) : ∃ a b c d e f g i j k m n o p q r, l = [a, b, c, d, e, f, g, i, j, k, m, n, o, p, q, r] := by
  obtain ⟨a, l0, e0, h0⟩ := list_cons h
  obtain ⟨b, l1, e1, h1⟩ := list_cons h0
  obtain ⟨c, l2, e2, h2⟩ := list_cons h1
  obtain ⟨d, l3, e3, h3⟩ := list_cons h2
  obtain ⟨e, l4, e4, h4⟩ := list_cons h3
  obtain ⟨f, l5, e5, h5⟩ := list_cons h4
  obtain ⟨g, l6, e6, h6⟩ := list_cons h5
  obtain ⟨i, l7, e7, h7⟩ := list_cons h6
  obtain ⟨j, l8, e8, h8⟩ := list_cons h7
  obtain ⟨k, l9, e9, h9⟩ := list_cons h8
  obtain ⟨m, l10, e10, h10⟩ := list_cons h9
  obtain ⟨n, l11, e11, h11⟩ := list_cons h10
  obtain ⟨o, l12, e12, h12⟩ := list_cons h11
  obtain ⟨p, l13, e13, h13⟩ := list_cons h12
  obtain ⟨q, l14, e14, h14⟩ := list_cons h13
  obtain ⟨r, l15, e15, h15⟩ := list_cons h14
  have e16 : l15 = [] := List.length_eq_zero_iff.1 h15
  exact ⟨a, b, c, d, e, f, g, i, j, k, m, n, o, p, q, r, by rw [e0, e1, e2, e3, e4, e5, e6, e7, e8, e9, e10, e11, e12, e13, e14, e15, e16]⟩
section
variable {w : World} {b : Nat} {m s n : Int} {key text : List UInt8} {K : Value → World → Prop}
theorem puBuildR (hk : key.length = 16) : Pu Tryz.prog (Instr.build T_ref16_Config #[(0, .int .i64 m), (1, .int .i64 s), (2, .int .i64 n), (3, .agg ⟨key.map vb⟩)]) (.agg ⟨cfgV m s n key⟩) := by
  obtain ⟨a, b, c, d, e, f, g, i, j, k, m', n', o, p, q, r, rfl⟩ := list16 hk
  unfold Pu; kernel_rfl
theorem law16Of_c (hk : key.length = 16) (h : ∀ w', Fr [] w w' → K (.agg ⟨cfgV m s n key⟩) w') : callF Tryz.prog F_law16_Of #[.agg ⟨cfgV m s n key⟩] w K := by
  apply law16_Of_call
  unfold law16_Of
  refine newCfg hk fun w1 f1 hC s1 => ?_
  refine newZ (s := 19) (by kernel_rfl) fun w2 g2 f2 hB2 s2 => ?_
  have hC2 := hC.fr0 f2
  refine ⟨_, hC2.mode, _, hC2.sid, _, hC2.nonce, _, hC2.keyLd hk, _, puBuildR hk, ?_⟩
  refine stoCfgR hB2 hk fun w3 f3 hC3 s3 => ⟨_, _, rfl, hC3.ldR hk, ?_⟩
  exact h w3 ((f1.then f2).st f3 f1.size)
end
section
variable {w : World} {K : Value → World → Prop}
end
end Go.Sh
end
