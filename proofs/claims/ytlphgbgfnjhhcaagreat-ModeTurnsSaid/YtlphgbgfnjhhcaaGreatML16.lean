/- A part of a proof of a given law of this program: lemmas, printed forms of its functions, contracts. It has no conditions of its own. -/
import Derived.Test.YtlphgbgfnjhhcaaGreatMM
import Derived.Test.YtlphgbgfnjhhcaaGreatMA
import Derived.Test.YtlphgbgfnjhhcaaGreatMSh4
import Derived.Test.YtlphgbgfnjhhcaaGreatML15
import Derived.Test.YtlphgbgfnjhhcaaGreatMH

section
namespace Go.Sh
open Go Go.Fw Go.Proofs
set_option maxRecDepth 100000
set_option linter.unusedVariables false
def k16' : List UInt8 := [1, 0, 0, 0, 0, 0, 0, 0, 0, 0, 0, 0, 0, 0, 0, 0]
def t16 : List UInt8 := [1, 2, 3, 4, 5, 6, 7]
theorem cut16 : cutL t16 = ([1, 2, 3, 0], [4, 5, 6, 7]) := by decide +kernel
theorem o16a : ontoL k16' [1, 2, 3, 0] [4, 5, 6, 7] 7 1 false = [2, 50, 35, 30] := by unfold ontoL; rw [aencL_eval]; kernel_rfl
theorem o16b : ontoL k16' [2, 50, 35, 30] [1, 2, 3, 0] 7 2 true = [193, 154, 17, 112] := by unfold ontoL; rw [aencL_eval]; kernel_rfl
theorem o16c : ontoL k16' [193, 154, 17, 112] [2, 50, 35, 30] 7 3 false = [2, 101, 203, 225] := by unfold ontoL; rw [aencL_eval]; kernel_rfl
theorem o16d : ontoL k16' [2, 101, 203, 225] [193, 154, 17, 112] 7 4 true = [80, 212, 167, 192] := by unfold ontoL; rw [aencL_eval]; kernel_rfl
theorem run16 : runL k16' 7 [1, 2, 3, 4] ([1, 2, 3, 0], [4, 5, 6, 7]) = ([80, 212, 167, 192], [2, 101, 203, 225]) := by
  show passL k16' 7 4 (passL k16' 7 3 (passL k16' 7 2 (passL k16' 7 1 ([1, 2, 3, 0], [4, 5, 6, 7])))) = _
  have e1 : passL k16' 7 1 ([1, 2, 3, 0], [4, 5, 6, 7]) = ([1, 2, 3, 0], [2, 50, 35, 30]) := by unfold passL; rw [if_neg (by decide)]; show ([1, 2, 3, 0], ontoL k16' [1, 2, 3, 0] [4, 5, 6, 7] 7 1 false) = _; rw [o16a]
  have e2 : passL k16' 7 2 ([1, 2, 3, 0], [2, 50, 35, 30]) = ([193, 154, 17, 112], [2, 50, 35, 30]) := by unfold passL; rw [if_pos (by decide)]; show (ontoL k16' [2, 50, 35, 30] [1, 2, 3, 0] 7 2 true, [2, 50, 35, 30]) = _; rw [o16b]
  have e3 : passL k16' 7 3 ([193, 154, 17, 112], [2, 50, 35, 30]) = ([193, 154, 17, 112], [2, 101, 203, 225]) := by unfold passL; rw [if_neg (by decide)]; show ([193, 154, 17, 112], ontoL k16' [193, 154, 17, 112] [2, 50, 35, 30] 7 3 false) = _; rw [o16c]
  have e4 : passL k16' 7 4 ([193, 154, 17, 112], [2, 101, 203, 225]) = ([80, 212, 167, 192], [2, 101, 203, 225]) := by unfold passL; rw [if_pos (by decide)]; show (ontoL k16' [2, 101, 203, 225] [193, 154, 17, 112] 7 4 true, [2, 101, 203, 225]) = _; rw [o16d]
  rw [e1, e2, e3, e4]
def y16 : List UInt8 := [80, 212, 167, 194, 101, 203, 225]
theorem mix16 : passesL k16' t16 [1, 2, 3, 4] = y16 := by
  unfold passesL
  rw [cut16]
  show joinL (runL k16' 7 [1, 2, 3, 4] ([1, 2, 3, 0], [4, 5, 6, 7])).1 (runL k16' 7 [1, 2, 3, 4] ([1, 2, 3, 0], [4, 5, 6, 7])).2 7 = _
  rw [run16]
  decide +kernel
theorem turn_back {m s n : Int} {key text : List UInt8} (hok : okC m s n key) (hk : key.length = 16) (hl : (text.length : Int) = s + n) : turnC true m key (turnC false m key text) = text := by
  have ho := hok
  unfold okC at ho
  unfold turnC
  by_cases h0 : m = 0
  · rw [if_pos h0, if_pos h0]
  · by_cases h1 : m = 1
    · rw [if_neg h0, if_pos h1, if_neg h0, if_pos h1]
      simp only [Bool.false_eq_true, if_true, if_false]
      exact adecL_aencL _ _ (by have := ho.2.2.2.2.2.2.2.2 h1; omega)
    · rw [if_neg h0, if_neg h1, if_neg h0, if_neg h1]
      simp only [Bool.false_eq_true, if_true, if_false]
      exact passesL_rev key text [1, 2, 3, 4] (by omega) (by omega)
theorem ey16 : turnC false 2 k16' t16 = y16 := by
  unfold turnC
  rw [if_neg (by decide), if_neg (by decide)]
  simp only [Bool.false_eq_true, if_false]
  exact mix16
theorem okc0 : okC 0 3 4 z16k := by decide
theorem okc2 : okC 2 3 4 k16' := by decide
theorem okc1 : ¬ okC 1 3 4 z16k := by decide
end Go.Sh
end

section
namespace Go.Sh
open Go Go.Fw Go.Proofs
set_option maxRecDepth 100000
set_option linter.unusedVariables false
set_option maxHeartbeats 4000000 in
theorem alive16_c {w : World} {K : Value → World → Prop} (h : ∀ w', Fr [] w w' → K (.bool true) w') : callF Tryz.prog F_law16_alive #[] w K := by
  apply law16_alive_call
  unfold law16_alive
  refine newZ (s := 19) (by kernel_rfl) fun w1 g1 f1 hB1 s1 => ?_
  obtain ⟨b1, hb1⟩ : ∃ b, b = w.heap.size := ⟨_, rfl⟩
  rw [← hb1] at hB1 ⊢
  refine stoCfg (m := 0) (s := 3) (n := 4) (key := z16k) hB1 rfl fun w2 f2 hC1 s2 => ?_
  have f02 : Fr [] w w2 := f1.st f2 (by omega)
  refine ⟨⟨cfgV 2 3 4 k16'⟩, by unfold Pu; kernel_rfl, ?_⟩
  refine newZ (s := 19) (by kernel_rfl) fun w3 g3 f3 hB3 s3 => ?_
  obtain ⟨b2, hb2⟩ : ∃ b, b = w2.heap.size := ⟨_, rfl⟩
  rw [← hb2] at hB3 ⊢
  refine stoCfg (m := 2) (s := 3) (n := 4) (key := k16') hB3 rfl fun w4 f4 hC2 s4 => ?_
  have f04 : Fr [] w w4 := (f02.then f3).st f4 (by have := f02.size; omega)
  have hC1b := (hC1.fr0 f3).fr f4 (by have := hC1.lt; simp; omega)
  refine newZ (s := 19) (by kernel_rfl) fun w5 g5 f5 hB5 s5 => ?_
  obtain ⟨b3, hb3⟩ : ∃ b, b = w4.heap.size := ⟨_, rfl⟩
  rw [← hb3] at hB5 ⊢
  refine stoCfg (m := 1) (s := 3) (n := 4) (key := z16k) hB5 rfl fun w6 f6 hC3 s6 => ?_
  have f06 : Fr [] w w6 := (f04.then f5).st f6 (by have := f04.size; omega)
  have hC1c := (hC1b.fr0 f5).fr f6 (by have := hC1b.lt; simp; omega)
  have hC2c := (hC2.fr0 f5).fr f6 (by have := hC2.lt; simp; omega)
  refine mkL (n := 7) (xs := t16) rfl rfl (by kernel_rfl) fun pt w7 f7 ht s7 => ?_
  have f07 := f06.then f7
  refine ⟨_, (hC1c.fr0 f7).ld rfl, ?_⟩
  refine Turn_cfg_c (text := t16) rfl ht.row rfl (by decide) (by decide) (fun hn => absurd okc0 hn) (fun _ hn => absurd (by decide) hn) fun _ _ pa da w8 f8 ha => ⟨_, _, _, _, rfl, ?_⟩
  have f08 := f07.then f8
  refine ⟨_, (hC2c.fr0 (f7.then f8)).ld rfl, ?_⟩
  refine Turn_cfg_c (text := t16) rfl (ht.fr0 f8).row rfl (by decide) (by decide) (fun hn => absurd okc2 hn) (fun _ hn => absurd (by decide) hn) fun _ _ pb db w9 f9 hb => ⟨_, _, _, _, rfl, ?_⟩
  have f09 := f08.then f9
  have f69 := (f7.then f8).then f9
  refine ⟨_, (hC2c.fr0 f69).ld rfl, ?_⟩
  have ey := ey16
  rw [ey] at hb
  refine Back_cfg_c (text := y16) rfl hb.row rfl hb.cap (by decide) (fun hn => absurd okc2 hn) (fun _ hn => absurd (by decide) hn) fun _ _ pd dd w10 f10 hd => ⟨_, _, _, _, rfl, ?_⟩
  have ez : turnC true 2 k16' y16 = t16 := by rw [← ey]; exact turn_back okc2 rfl (by decide)
  rw [ez] at hd
  have f010 := f09.then f10
  have f610 := f69.then f10
  refine ⟨_, (hC3.fr0 f610).ld rfl, ?_⟩
  have ht10 := ((ht.fr0 f8).fr0 f9).fr0 f10
  refine Turn_cfg_c (text := t16) rfl ht10.row rfl (by decide) (by decide) (fun _ w11 f11 => ⟨_, _, _, _, rfl, ?_⟩) (fun hn => absurd hn okc1) (fun hn => absurd hn okc1)
  have f611 := f610.then f11
  refine ⟨_, (hC2c.fr0 f611).ld rfl, ?_⟩
  refine Turn_cfg_c (text := []) rfl (Row.nil _ _) rfl (by decide) (by decide) (fun hn => absurd okc2 hn) (fun _ _ w12 f12 => ⟨_, _, _, _, rfl, ?_⟩) (fun _ hn => absurd hn (by decide))
  have f612 := f611.then f12
  refine ⟨_, (hC2c.fr0 f612).ld rfl, ?_⟩
  refine cfgBytes_c rfl (fun hn => absurd okc2 hn) fun _ pe de w13 f13 he => ⟨_, _, _, rfl, ?_⟩
  have f613 := f612.then f13
  refine modeRead_c he.row rfl he.cap (by decide) (fun hn => absurd hn (by decide)) (fun _ hn => absurd ⟨by decide, by decide, by decide⟩ hn) fun _ w14 f14 => ⟨_, _, rfl, ?_⟩
  have f614 := f613.then f14
  refine newZ (s := 19) (by kernel_rfl) fun w15 g15 f15 hB15 s15 => ?_
  obtain ⟨b4, hb4⟩ : ∃ b, b = w14.heap.size := ⟨_, rfl⟩
  rw [← hb4] at hB15 ⊢
  refine stoCfg (m := 2) (s := 3) (n := 4) (key := k16') hB15 rfl fun w16 f16 hC4 s16 => ?_
  have g1416 : Fr [] w14 w16 := f15.st f16 (by omega)
  have f616 : Fr [] w6 w16 := f614.then g1416
  refine modeRead_c (xs := []) (Row.nil _ _) rfl (Nat.le_refl _) (by decide) (fun _ w17 f17 => ⟨_, _, rfl, ?_⟩) (fun hn => absurd hn (by decide)) (fun hn => absurd hn.1 (by decide))
  have f617 := f616.then f17
  refine newZ (s := 19) (by kernel_rfl) fun w18 g18 f18 hB18 s18 => ?_
  obtain ⟨b5, hb5⟩ : ∃ b, b = w17.heap.size := ⟨_, rfl⟩
  rw [← hb5] at hB18 ⊢
  refine stoCfg (m := 0) (s := 0) (n := 0) (key := z16k) hB18 rfl fun w19 f19 hC5 s19 => ?_
  have g1719 : Fr [] w17 w19 := f18.st f19 (by omega)
  have f619 : Fr [] w6 w19 := f617.then g1719
  refine ⟨_, (hC1c.fr0 f619).ld rfl, Right_c rfl fun w20 f20 => ⟨_, rfl, ?_⟩⟩
  rw [decide_eq_true okc0]
  have f620 := f619.then f20
  refine cond_t ⟨_, (hC3.fr0 f620).ld rfl, Right_c rfl fun w21 f21 => ⟨_, rfl, ?_⟩⟩
  rw [decide_eq_false okc1]
  have f621 := f620.then f21
  refine cond_t ⟨_, (hC1c.fr0 f621).ld rfl, cfgSize_c rfl fun w22 f22 => ⟨_, rfl, ?_⟩⟩
  rw [if_pos okc0]
  have f622 := f621.then f22
  refine cond_t (cond_t (cond_t (cond_t (cond_t (cond_t (cond_t (cond_t ?_)))))))
  have g22 : Fr [] w10 w22 := ((((((((f11.then f12).then f13).then f14).then g1416).then f17).then g1719).then f20).then f21).then f22
  have e0 : turnC false 0 z16k t16 = t16 := by unfold turnC; rw [if_pos rfl]
  rw [e0] at ha
  have ht22 := ht10.fr0 g22
  have ha22 := ((ha.fr0 f9).fr0 f10).fr0 g22
  have hb22 := (hb.fr0 f10).fr0 g22
  have hd22 := hd.fr0 g22
  have hC4' := ((((hC4.fr0 f17).fr0 g1719).fr0 f20).fr0 f21).fr0 f22
  have hC2' := hC2c.fr0 f622
  refine SameBytes_c ha22.row rfl ht22.row rfl (by decide) fun w23 f23 => ⟨_, rfl, ?_⟩
  rw [decide_eq_true rfl]
  refine cond_t (SameBytes_c (hb22.row.fr0 f23) rfl (ht22.row.fr0 f23) rfl (by decide) fun w24 f24 => ⟨_, rfl, ?_⟩)
  rw [show decide (y16 = t16) = false by decide]
  have f2 := f23.then f24
  refine cond_t (SameBytes_c (hd22.row.fr0 f2) rfl (ht22.row.fr0 f2) rfl (by decide) fun w25 f25 => ⟨_, rfl, ?_⟩)
  rw [decide_eq_true rfl]
  have f2x := f2.then f25
  refine cond_t ⟨_, (hC4'.fr0 f2x).ld rfl, _, (hC2'.fr0 f2x).ld rfl, _, _, Ef.eqCfg (n := 16) (by kernel_rfl) rfl rfl, ?_⟩
  rw [decide_eq_true ⟨rfl, rfl, rfl, rfl⟩]
  refine cond_t ⟨_, (hC2'.fr0 f2x).ld rfl, ?_⟩
  refine cfgBytes_c rfl (fun hn => absurd okc2 hn) fun _ pz dz w26 f26 hz => ⟨_, _, _, rfl, ?_⟩
  exact h w26 (f06.then ((f622.then f2x).then f26))
end Go.Sh
end

section
namespace Go.Sh
open Go Go.Fw Go.Proofs
set_option maxRecDepth 100000
set_option linter.unusedVariables false
section
variable {w : World} {m s n : Int} {key text : List UInt8} {K : Value → World → Prop}
def turnIs (back : Bool) (m s n : Int) (key text : List UInt8) (er : Int) (out : List UInt8) : Prop :=
  (¬ okC m s n key ∧ er = 19 ∧ out = []) ∨ (okC m s n key ∧ (text.length : Int) ≠ s + n ∧ er = 11 ∧ out = []) ∨ (okC m s n key ∧ (text.length : Int) = s + n ∧ er = 0 ∧ out = turnC back m key text)
theorem turnAny_c {p : Option Addr} {l c : Nat} (hk : key.length = 16) (hx : Row w p (text.map vb)) (hl : l = text.length) (hc : l ≤ c) (hlb : l < 1000000)
    (h : ∀ q d er out w', Fr [] w w' → OB w' q out.length d out w.heap.size → turnIs false m s n key text er out → K (.tuple #[.slice q out.length d, .int .i64 er]) w') :
    callF Tryz.prog F_mode_Config_Turn #[.agg ⟨cfgV m s n key⟩, .slice p l c] w K := by
  refine Turn_cfg_c hk hx hl hc hlb (fun hn w' f => h none 0 19 [] w' f (OB.nil _ _) (.inl ⟨hn, rfl, rfl⟩)) (fun ho hne w' f => h none 0 11 [] w' f (OB.nil _ _) (.inr (.inl ⟨ho, by omega, rfl, rfl⟩))) fun ho he q d w' f hO => ?_
  have hlen := hO.2.1
  have := h q d 0 _ w' f (by rw [← hlen]; exact hO) (.inr (.inr ⟨ho, by omega, rfl, rfl⟩))
  rw [← hlen] at this
  exact this
theorem backAny_c {p : Option Addr} {l c : Nat} (hk : key.length = 16) (hx : Row w p (text.map vb)) (hl : l = text.length) (hc : l ≤ c) (hlb : l < 1000000)
    (h : ∀ q d er out w', Fr [] w w' → OB w' q out.length d out w.heap.size → turnIs true m s n key text er out → K (.tuple #[.slice q out.length d, .int .i64 er]) w') :
    callF Tryz.prog F_mode_Config_Back #[.agg ⟨cfgV m s n key⟩, .slice p l c] w K := by
  refine Back_cfg_c hk hx hl hc hlb (fun hn w' f => h none 0 19 [] w' f (OB.nil _ _) (.inl ⟨hn, rfl, rfl⟩)) (fun ho hne w' f => h none 0 11 [] w' f (OB.nil _ _) (.inr (.inl ⟨ho, by omega, rfl, rfl⟩))) fun ho he q d w' f hO => ?_
  have hlen := hO.2.1
  have := h q d 0 _ w' f (by rw [← hlen]; exact hO) (.inr (.inr ⟨ho, by omega, rfl, rfl⟩))
  rw [← hlen] at this
  exact this
end
end Go.Sh
end

section
namespace Go.Sh
open Go Go.Fw Go.Proofs
set_option maxRecDepth 100000
set_option linter.unusedVariables false
section
variable {w : World} {b : Nat} {m s n : Int} {key text : List UInt8}
theorem newCfgR (hk : key.length = 16) {K : Nat → World → Prop} (h : ∀ w', Fr [] w w' → Cfg w' w.heap.size m s n key → w'.heap.size = w.heap.size + 1 → K w.heap.size w') : New ⟨cfgV m s n key⟩ T_ref16_Config w K := by
  refine New.intro fun w1 f1 hB s1 => h w1 f1 ⟨fun i => (⟨cfgV m s n key⟩ : Array Value).getD i undef, ?_, fun j v hj => ?_⟩ s1
  · have e : (⟨cfgV m s n key⟩ : Array Value).size = 19 := by show (cfgV m s n key).length = 19; rw [cfgV_len]; omega
    rw [e] at hB; exact hB
  · have hlt := (List.getElem?_eq_some_iff.1 hj).1
    show Array.getD ⟨cfgV m s n key⟩ j undef = v
    rw [Array.getD_eq_getD_getElem?]
    have : (⟨cfgV m s n key⟩ : Array Value)[j]? = some v := by simpa using hj
    rw [this]; rfl
theorem stoCfgR {f : Nat → Value} (hB : Blk w b 19 f) (hk : key.length = 16) {K : World → Prop} (h : ∀ w', Fr [b] w w' → Cfg w' b m s n key → w'.heap.size = w.heap.size → K w') : ∃ w', Sto Tryz.prog T_ref16_Config (.pointer (some ⟨b, 0, none⟩)) (.agg ⟨cfgV m s n key⟩) w w' ∧ K w' := by
  refine Sto.agg (m := 19) (cs := cfgV m s n key) (by kernel_rfl) (by rw [cfgV_len]; omega) hB (Nat.le_refl 19) (cfgV_one _ _ _ _) fun w' hf hB' hs => h w' hf ⟨_, hB', fun j v hj => ?_⟩ hs
  have hlt := (List.getElem?_eq_some_iff.1 hj).1
  unfold updN
  rw [dif_pos ⟨Nat.zero_le _, by simpa using hlt⟩]
  obtain ⟨h1, h2⟩ := List.getElem?_eq_some_iff.1 hj
  simpa using h2
theorem Cfg.ldR (h : Cfg w b m s n key) (hk : key.length = 16) : Ld Tryz.prog T_ref16_Config (.pointer (some ⟨b, 0, none⟩)) w (.agg ⟨cfgV m s n key⟩) := by
  obtain ⟨f, hB, hc⟩ := h
  exact LdA (m := 19) (by kernel_rfl) (by kernel_rfl) hB (o := 0) (by omega) _ (by rw [cfgV_len]; omega) (fun j v hj => by rw [Nat.zero_add]; exact hc j v hj)
end
section
variable {w : World} {m s n : Int} {key text : List UInt8} {K : Value → World → Prop}
theorem refRight_c (hk : key.length = 16) (h : ∀ w', Fr [] w w' → K (.bool (decide (okC m s n key))) w') : callF Tryz.prog F_ref16_Right #[.agg ⟨cfgV m s n key⟩] w K := by
  apply ref16_Right_call
  unfold ref16_Right
  have bad : ¬ okC m s n key → ∀ w', Fr [] w w' → K (.bool false) w' := fun hb w' f => by have := h w' f; rwa [decide_eq_false hb] at this
  refine newCfgR hk fun w1 f1 hC s1 => ⟨_, hC.mode, cond_d (fun g => bad (fun hh => by unfold okC at hh; omega) w1 f1) fun g1 => ⟨_, hC.mode, cond_d (fun g => bad (fun hh => by unfold okC at hh; omega) w1 f1) fun g2 => ?_⟩⟩
  refine ⟨_, hC.sid, cond_d (fun g => bad (fun hh => by unfold okC at hh; omega) w1 f1) fun g3 => ⟨_, hC.sid, cond_d (fun g => bad (fun hh => by unfold okC at hh; omega) w1 f1) fun g4 => ?_⟩⟩
  refine ⟨_, hC.nonce, cond_d (fun g => bad (fun hh => by unfold okC at hh; omega) w1 f1) fun g5 => ⟨_, hC.nonce, cond_d (fun g => bad (fun hh => by unfold okC at hh; omega) w1 f1) fun g6 => ?_⟩⟩
  refine ⟨_, hC.sid, _, hC.nonce, ?_⟩
  rw [wrap64 (by omega) (by omega)]
  refine cond_d (fun g => bad (fun hh => by unfold okC at hh; omega) w1 f1) fun g7 => ?_
  have tail : (m = 1 → s + n = 16) → ref16_Right_j1 ⟨w.heap.size, 0, none⟩ false w1 K := by
    intro h16
    unfold ref16_Right_j1
    refine ⟨_, hC.mode, cond_ne (fun hne => ?_) (fun h0 => ?_)⟩
    · have hok : okC m s n key := ⟨by omega, by omega, by omega, by omega, by omega, by omega, by omega, fun _ => by omega, h16⟩
      have := h w1 f1
      rwa [decide_eq_true hok] at this
    · refine ⟨_, hC.keyLd hk, _, _, Ef.eqBytes (n := 16) (ys := z16k) (by kernel_rfl) (by kernel_rfl) hk rfl, ?_⟩
      have e : decide (key = z16k) = decide (okC m s n key) := by
        rw [decide_eq_decide]; unfold okC
        exact ⟨fun hh => ⟨by omega, by omega, by omega, by omega, by omega, by omega, by omega, fun _ => hh, fun _ => by omega⟩, fun hh => hh.2.2.2.2.2.2.2.1 h0⟩
      rw [e]
      exact h w1 f1
  unfold ref16_Right_j2
  refine ⟨_, hC.mode, cond_eq (fun h1 => ⟨_, hC.sid, _, hC.nonce, ?_⟩) (fun h1 => tail (fun h => absurd h h1))⟩
  rw [wrap64 (by omega) (by omega)]
  exact cond_ne (fun hne => bad (fun hh => hne (hh.2.2.2.2.2.2.2.2 h1)) w1 f1) fun h16 => tail (fun _ => h16)
theorem refCfgSize_c (hk : key.length = 16) (h : ∀ w', Fr [] w w' → K (.int .i64 (if okC m s n key then 1 + (s + n) else 0)) w') : callF Tryz.prog F_ref16_Size #[.agg ⟨cfgV m s n key⟩] w K := by
  apply ref16_Size_call
  unfold ref16_Size
  refine newCfgR hk fun w1 f1 hC s1 => ⟨_, hC.ldR hk, refRight_c hk fun w2 f2 => ⟨_, rfl, ?_⟩⟩
  by_cases hok : okC m s n key
  · rw [decide_eq_true hok]
    have hC2 := hC.fr0 f2
    refine cond_f ⟨_, hC2.sid, _, hC2.nonce, ?_⟩
    have := h w2 (f1.then f2)
    rw [if_pos hok] at this
    have hok' := hok
    unfold okC at hok'
    rw [wrap64 (n := 1 + s) (by omega) (by omega), wrap64 (by omega) (by omega), show 1 + s + n = 1 + (s + n) by omega]
    exact this
  · rw [decide_eq_false hok]
    have := h w2 (f1.then f2)
    rw [if_neg hok] at this
    exact cond_t this
theorem refCfgBytes_c (hk : key.length = 16) (hbad : ¬ okC m s n key → ∀ w', Fr [] w w' → K (.slice none 0 0) w') (hok : okC m s n key → ∀ q d w', Fr [] w w' → OB w' q 20 d (cfgBytes m s n key) w.heap.size → K (.slice q 20 d) w') :
    callF Tryz.prog F_ref16_Bytes #[.agg ⟨cfgV m s n key⟩] w K := by
  apply ref16_Bytes_call
  unfold ref16_Bytes
  refine newCfgR hk fun w1 f1 hC s1 => ⟨_, hC.ldR hk, refRight_c hk fun w2 f2 => ⟨_, rfl, ?_⟩⟩
  by_cases ho : okC m s n key
  · rw [decide_eq_true ho]
    refine cond_f ?_
    have f02 := f1.then f2
    have hC2 := hC.fr0 f2
    refine ⟨fun w' => Fr [] w2 w', Drw.intro fun w3 f3 s3 => ?_⟩
    refine keySl ?_
    refine ⟨_, ⟨f3, fun w' hw' => (hC2.fr0 hw').mode⟩, _, ⟨f3, fun w' hw' => (hC2.fr0 hw').sid⟩, _, (hC2.fr0 f3).nonce, .inl rfl, ?_⟩
    have ho' := ho
    unfold okC at ho'
    obtain ⟨m', rfl⟩ := Int.eq_ofNat_of_zero_le (show 0 ≤ m by omega)
    obtain ⟨s', rfl⟩ := Int.eq_ofNat_of_zero_le (show 0 ≤ s by omega)
    obtain ⟨n', rfl⟩ := Int.eq_ofNat_of_zero_le (show 0 ≤ n by omega)
    rw [u8wrap, u8wrap, u8wrap]
    refine mkL (n := 4) (xs := [UInt8.ofNat m', UInt8.ofNat s', UInt8.ofNat n', 0]) rfl rfl (by kernel_rfl) fun pn w4 f4 hN s4 => ?_
    have f34 := f3.then f4
    have hkr := (hC2.fr0 f34).keyRow hk
    have n24 := f34.size
    refine pushN hN f4.size hkr hk.symm (by omega) fun q d w5 f5 hO5 => ?_
    have e : [UInt8.ofNat m', UInt8.ofNat s', UInt8.ofNat n', 0] ++ key = cfgBytes (m' : Int) (s' : Int) (n' : Int) key := by simp [cfgBytes]
    rw [e] at hO5
    have n02 := f02.size; have n3 := f3.size
    exact hok ho q d w5 ((f02.then f3).then (hN.news f4 f5 (Nat.le_refl _))) (hO5.mono (by omega))
  · rw [decide_eq_false ho]
    exact cond_t (hbad ho w2 (f1.then f2))
set_option maxHeartbeats 1000000 in
theorem refTurnB_c (back : Bool) {ps : List Int} (hps : ps = if back then [4, 3, 2, 1] else [1, 2, 3, 4]) {p p2 : Option Addr} {l c c2 : Nat} (hk : key.length = 16) (hx : Row w p (text.map vb)) (hl : l = text.length) (hlb : l < 1000000) (hS : Row w p2 (ps.map vi))
    (h : ∀ q d er out w', Fr [] w w' → OB w' q out.length d out w.heap.size → turnIs back m s n key text er out → K (.tuple #[.slice q out.length d, .int .i64 er]) w') :
    callF Tryz.prog F_ref16_turn #[.agg ⟨cfgV m s n key⟩, .slice p l c, .slice p2 4 c2] w K := by
  apply ref16_turn_call
  unfold ref16_turn
  refine newCfgR hk fun w1 f1 hC s1 => ⟨_, hC.ldR hk, refRight_c hk fun w2 f2 => ⟨_, rfl, ?_⟩⟩
  have f02 := f1.then f2
  have hC2 := hC.fr0 f2
  by_cases ho : okC m s n key
  · rw [decide_eq_true ho]
    have ho' := ho
    unfold okC at ho'
    refine cond_f ⟨_, hC2.sid, _, hC2.nonce, ?_⟩
    rw [wrap64 (by omega) (by omega)]
    refine cond_ne (fun hne => h none 0 11 [] w2 f02 (OB.nil _ _) (.inr (.inl ⟨ho, by omega, rfl, rfl⟩))) fun hlen => ?_
    have hx2 := hx.fr0 f02
    have ok : ∀ q d w', Fr [] w w' → OB w' q l d (turnC back m key text) w.heap.size → K (.tuple #[.slice q l d, .int .i64 0]) w' := by
      intro q d w' f hO
      have hl' := hO.2.1
      have := h q d 0 _ w' f (by rw [← hl']; exact hO) (.inr (.inr ⟨ho, by omega, rfl, rfl⟩))
      rw [← hl'] at this
      exact this
    refine ⟨_, hC2.mode, cond_eq (fun h0 => ?_) (fun h0 => ⟨_, hC2.mode, cond_eq (fun h2 => ?_) (fun h2 => ?_)⟩)⟩
    · refine mk0 fun p0 w3 f3 hO3 s3 => ?_
      refine pushN hO3 f3.size (hx2.fr0 f3) hl (by omega) fun q d w4 f4 hO4 => ?_
      rw [List.nil_append, Nat.zero_add] at hO4
      rw [Nat.zero_add]
      have e : turnC back m key text = text := by unfold turnC; rw [if_pos h0]
      exact ok q d w4 (f02.then (hO3.news f3 f4 (Nat.le_refl _))) (by rw [e]; exact hO4.mono f02.size)
    · refine keySl ?_
      have hT : 2 ≤ l ∧ l ≤ 28 ∧ ∀ x ∈ ps, 0 ≤ x ∧ x ≤ 255 := ⟨by omega, by omega, by rw [hps]; cases back <;> decide⟩
      refine refPasses_c (ps := ps) (hC2.keyRow hk) hk.symm hk (by omega) hx2 hl hlb (hS.fr0 f02) (by rw [hps]; cases back <;> rfl) (by omega) (fun hb => absurd hT hb) fun _ q d w3 f3 hO3 => ⟨_, _, _, _, rfl, ?_⟩
      have e : turnC back m key text = passesL key text (ps.map Int.toNat) := by
        unfold turnC; rw [if_neg h0, if_neg (by omega), hps]; cases back <;> rfl
      exact ok q d w3 (f02.then f3) (by rw [e]; exact hO3.mono f02.size)
    · have h1 : m = 1 := by omega
      have h16 : text.length = 16 := by have := ho'.2.2.2.2.2.2.2.2 h1; omega
      obtain ⟨a, ha, hca⟩ := ixR (P := Tryz.prog) (t := T_S_int) (by kernel_rfl) (hS.fr0 f02) (cap := c2) (k := .i64) (i := 0) (len := 4) (by rw [List.length_map, hps]; cases back <;> rfl) (by omega) (by omega) (v := vi (if back then 4 else 1)) (by rw [hps]; cases back <;> rfl)
      refine ⟨a, ha, _, Ld.cell (by kernel_rfl) hca, ?_⟩
      cases back with
      | false =>
        refine cond_eq (fun _ => ?_) (fun hne => absurd rfl hne)
        refine keySl ?_
        refine refEncrypt_c (hC2.keyRow hk) hk.symm hk (by omega) hx2 hl h16 fun q d w3 f3 hO3 => ⟨_, _, _, rfl, ?_⟩
        have e : turnC false m key text = aencL key text := by unfold turnC; rw [if_neg h0, if_pos h1]; rfl
        have e16 : l = 16 := by omega
        subst e16
        exact ok q d w3 (f02.then f3) (by rw [e]; exact hO3.mono f02.size)
      | true =>
        refine cond_eq (fun hh => absurd hh (by decide)) (fun _ => ?_)
        refine keySl ?_
        refine refDecrypt_c (hC2.keyRow hk) hk.symm hk (by omega) hx2 hl h16 fun q d w3 f3 hO3 => ⟨_, _, _, rfl, ?_⟩
        have e : turnC true m key text = adecL key text := by unfold turnC; rw [if_neg h0, if_pos h1]; rfl
        have e16 : l = 16 := by omega
        subst e16
        exact ok q d w3 (f02.then f3) (by rw [e]; exact hO3.mono f02.size)
  · rw [decide_eq_false ho]
    exact cond_t (h none 0 19 [] w2 f02 (OB.nil _ _) (.inl ⟨ho, rfl, rfl⟩))
theorem refTurn_cfg_c {p : Option Addr} {l c : Nat} (hk : key.length = 16) (hx : Row w p (text.map vb)) (hl : l = text.length) (hlb : l < 1000000)
    (h : ∀ q d er out w', Fr [] w w' → OB w' q out.length d out w.heap.size → turnIs false m s n key text er out → K (.tuple #[.slice q out.length d, .int .i64 er]) w') :
    callF Tryz.prog F_ref16_Turn #[.agg ⟨cfgV m s n key⟩, .slice p l c] w K := by
  apply ref16_Turn_call
  unfold ref16_Turn
  refine newCfgR hk fun w1 f1 hC s1 => ⟨_, hC.ldR hk, ?_⟩
  refine ⟨_, _, _, Ef.new (v := .slice (some ⟨w1.heap.size, 0, none⟩) 4 4) (cs := (([1, 2, 3, 4] : List Int).map vi).toArray) (e := T_int) (by kernel_rfl) fun w2 f2 hB2 s2 => ?_⟩
  have f02 := f1.then f2
  refine refTurnB_c false rfl hk (hx.fr0 f02) hl hlb hB2.rowL fun q d er out w3 f3 hO hi => ⟨_, _, _, _, rfl, h q d er out w3 (f02.then f3) (hO.mono f02.size) hi⟩
theorem refBack_cfg_c {p : Option Addr} {l c : Nat} (hk : key.length = 16) (hx : Row w p (text.map vb)) (hl : l = text.length) (hlb : l < 1000000)
    (h : ∀ q d er out w', Fr [] w w' → OB w' q out.length d out w.heap.size → turnIs true m s n key text er out → K (.tuple #[.slice q out.length d, .int .i64 er]) w') :
    callF Tryz.prog F_ref16_Back #[.agg ⟨cfgV m s n key⟩, .slice p l c] w K := by
  apply ref16_Back_call
  unfold ref16_Back
  refine newCfgR hk fun w1 f1 hC s1 => ⟨_, hC.ldR hk, ?_⟩
  refine ⟨_, _, _, Ef.new (v := .slice (some ⟨w1.heap.size, 0, none⟩) 4 4) (cs := (([4, 3, 2, 1] : List Int).map vi).toArray) (e := T_int) (by kernel_rfl) fun w2 f2 hB2 s2 => ?_⟩
  have f02 := f1.then f2
  refine refTurnB_c true rfl hk (hx.fr0 f02) hl hlb hB2.rowL fun q d er out w3 f3 hO hi => ⟨_, _, _, _, rfl, h q d er out w3 (f02.then f3) (hO.mono f02.size) hi⟩
end
end Go.Sh
end

section
namespace Go.Sh
open Go Go.Fw Go.Proofs
set_option maxRecDepth 100000
set_option linter.unusedVariables false
theorem list_cons {α : Type} {l : List α} {n : Nat} (h : l.length = n + 1) : ∃ a t, l = a :: t ∧ t.length = n := by
  cases l with
  | nil => simp at h
  | cons a t => exact ⟨a, t, rfl, by simpa using h⟩
theorem list16 {l : List UInt8} (h : l.length = 16) : ∃ a b c d e f g i j k m n o p q r, l = [a, b, c, d, e, f, g, i, j, k, m, n, o, p, q, r] := by
  obtain ⟨a, l0, e0, h0⟩ := list_cons h
  obtain ⟨b, l1, e1, h1⟩ := list_cons h0
  obtain ⟨c, l2, e2, h2⟩ := list_cons h1
  obtain ⟨d, l3, e3, h3⟩ := list_cons h2
  obtain ⟨e, l4, e4, h4⟩ := list_cons h3
  obtain ⟨f, l5, e5, h5⟩ := list_cons h4
  obtain ⟨g, l6, e6, h6⟩ := list_cons h5
  obtain ⟨i, l7, e7, h7⟩ := list_cons h6
  obtain ⟨j, l8, e8, h8⟩ := list_cons h7
  obtain ⟨k, l9, e9, h9⟩ := list_cons h8
  obtain ⟨m, l10, e10, h10⟩ := list_cons h9
  obtain ⟨n, l11, e11, h11⟩ := list_cons h10
  obtain ⟨o, l12, e12, h12⟩ := list_cons h11
  obtain ⟨p, l13, e13, h13⟩ := list_cons h12
  obtain ⟨q, l14, e14, h14⟩ := list_cons h13
  obtain ⟨r, l15, e15, h15⟩ := list_cons h14
  have e16 : l15 = [] := List.length_eq_zero_iff.1 h15
  exact ⟨a, b, c, d, e, f, g, i, j, k, m, n, o, p, q, r, by rw [e0, e1, e2, e3, e4, e5, e6, e7, e8, e9, e10, e11, e12, e13, e14, e15, e16]⟩
section
variable {w : World} {b : Nat} {m s n : Int} {key text : List UInt8} {K : Value → World → Prop}
theorem puBuildR (hk : key.length = 16) : Pu Tryz.prog (Instr.build T_ref16_Config #[(0, .int .i64 m), (1, .int .i64 s), (2, .int .i64 n), (3, .agg ⟨key.map vb⟩)]) (.agg ⟨cfgV m s n key⟩) := by
  obtain ⟨a, b, c, d, e, f, g, i, j, k, m', n', o, p, q, r, rfl⟩ := list16 hk
  unfold Pu; kernel_rfl
theorem law16Of_c (hk : key.length = 16) (h : ∀ w', Fr [] w w' → K (.agg ⟨cfgV m s n key⟩) w') : callF Tryz.prog F_law16_Of #[.agg ⟨cfgV m s n key⟩] w K := by
  apply law16_Of_call
  unfold law16_Of
  refine newCfg hk fun w1 f1 hC s1 => ?_
  refine newZ (s := 19) (by kernel_rfl) fun w2 g2 f2 hB2 s2 => ?_
  have hC2 := hC.fr0 f2
  refine ⟨_, hC2.mode, _, hC2.sid, _, hC2.nonce, _, hC2.keyLd hk, _, puBuildR hk, ?_⟩
  refine stoCfgR hB2 hk fun w3 f3 hC3 s3 => ⟨_, _, rfl, hC3.ldR hk, ?_⟩
  exact h w3 ((f1.then f2).st f3 f1.size)
theorem cfgV_set (m s n : Int) (key : List UInt8) (i : Nat) (x : UInt8) (j : Nat) : (cfgV m s n (key.set i x))[j]? = ((cfgV m s n key).set (i + 3) (vb x))[j]? := by
  have : cfgV m s n (key.set i x) = (cfgV m s n key).set (i + 3) (vb x) := by
    show _ :: _ :: _ :: _ = _ :: _ :: _ :: _
    rw [List.map_set]
  rw [this]
theorem Cfg.stoKey (hC : Cfg w b m s n key) (hk : key.length = 16) {i : Nat} (hi : i < 16) (x : UInt8) {K : World → Prop} (h : ∀ w', Fr [b] w w' → Cfg w' b m s n (key.set i x) → w'.heap.size = w.heap.size → K w') :
    ∃ a, IxA Tryz.prog T_A16_uint8 (.pointer (some ((⟨b, 0, none⟩ : Addr).add 3))) (.int .i64 (i : Int)) a ∧ ∃ w', Sto Tryz.prog T_uint8 (.pointer (some a)) (vb x) w w' ∧ K w' := by
  obtain ⟨f, hB, hc⟩ := hC
  rw [add_mk]
  refine ⟨_, ixA1 (n := 16) (by kernel_rfl) (by omega) (by omega), ?_⟩
  refine Sto.blk (by kernel_rfl) hB (by omega) rfl rfl fun w' f' hB' s' => h w' f' ⟨_, hB', fun j v hj => ?_⟩ s'
  rw [cfgV_set] at hj
  have e : 0 + 3 + (i : Int).toNat = i + 3 := by omega
  rw [e]
  unfold upd
  by_cases hji : j = i + 3
  · subst hji
    rw [if_pos rfl]
    rw [List.getElem?_set_self (by rw [cfgV_len]; omega)] at hj
    exact Option.some.inj hj
  · rw [if_neg hji]
    rw [List.getElem?_set_ne (Ne.symm hji)] at hj
    exact hc j v hj
end
section
variable {w : World} {K : Value → World → Prop}
set_option maxHeartbeats 1000000 in
theorem refRead_c {p : Option Addr} {l c : Nat} {xs : List UInt8} (hx : Row w p (xs.map vb)) (hl : l = xs.length) (hlb : l ≤ 1000000)
    (hshort : l < 20 → ∀ w', Fr [] w w' → K (.tuple #[.agg ⟨cfgV 0 0 0 z16k⟩, .int .i64 12]) w') (hbad : 20 ≤ l → ¬ okR xs → ∀ w', Fr [] w w' → K (.tuple #[.agg ⟨cfgV 0 0 0 z16k⟩, .int .i64 10]) w')
    (hok : okR xs → ∀ w', Fr [] w w' → K (.tuple #[.agg ⟨cfgV ((fl xs 0).toNat : Int) ((fl xs 1).toNat : Int) ((fl xs 2).toNat : Int) (xs.drop 4)⟩, .int .i64 0]) w') :
    callF Tryz.prog F_ref16_Read #[.slice p l c] w K := by
  apply ref16_Read_call
  unfold ref16_Read
  refine newZ (s := 19) (by kernel_rfl) fun w1 g1 f1 hB1 s1 => ?_
  obtain ⟨b2, hb2⟩ : ∃ b2, b2 = w.heap.size := ⟨_, rfl⟩
  rw [← hb2] at hB1 ⊢
  refine cond_d (fun h1 => ?_) (fun h1 => ?_)
  · refine stoCfgR (m := 0) (s := 0) (n := 0) (key := z16k) hB1 rfl fun w2 f2 hC2 s2 => ?_
    exact ⟨_, _, rfl, hC2.ldR rfl, hshort (by omega) w2 (f1.st f2 (by omega))⟩
  refine ⟨fun w' => Fr [] w1 w', Drw.intro fun w3 f3 s3 => ?_⟩
  have f03 := f1.then f3
  have hx3 := hx.fr0 f03
  obtain ⟨a0, ha0, hca0⟩ := row_get (t := T_S_uint8) (by kernel_rfl) hx3 (c := c) hl (i := 0) (by omega) (k := .i64)
  obtain ⟨a1, ha1, hca1⟩ := row_get (t := T_S_uint8) (by kernel_rfl) hx3 (c := c) hl (i := 1) (by omega) (k := .i64)
  obtain ⟨a2, ha2, hca2⟩ := row_get (t := T_S_uint8) (by kernel_rfl) hx3 (c := c) hl (i := 2) (by omega) (k := .i64)
  obtain ⟨x0, x1, x2⟩ : (fl xs 0).toNat < 256 ∧ (fl xs 1).toNat < 256 ∧ (fl xs 2).toNat < 256 := ⟨(fl xs 0).toNat_lt, (fl xs 1).toNat_lt, (fl xs 2).toNat_lt⟩
  have lds : ∀ i : Nat, i < l → ∀ a, IxA Tryz.prog T_S_uint8 (.slice p l c) (.int .i64 (i : Int)) a → w3.cell? a = some (vb (fl xs i)) → HLd Tryz.prog (fun w' => Fr [] w1 w') T_uint8 (.pointer (some a)) w3 (vb (fl xs i)) := by
    intro i hi a ha hca
    refine ⟨f3, fun w' hw' => ?_⟩
    obtain ⟨a', ha', hca'⟩ := row_get (t := T_S_uint8) (by kernel_rfl) (hx.fr0 (f1.then hw')) (c := c) hl (i := i) hi (k := .i64)
    have : a' = a := by
      have e := ha'.symm.trans ha
      simpa using e
    subst this
    exact Ld.cell (by kernel_rfl) hca'
  refine ⟨a0, ha0, a1, ha1, a2, ha2, _, lds 0 (by omega) a0 ha0 hca0, _, lds 1 (by omega) a1 ha1 hca1, _, lds 2 (by omega) a2 ha2 hca2, ?_⟩
  rw [wrap64 (n := ((fl xs 0).toNat : Int)) (by omega) (by omega), wrap64 (n := ((fl xs 1).toNat : Int)) (by omega) (by omega), wrap64 (n := ((fl xs 2).toNat : Int)) (by omega) (by omega)]
  refine newZ (s := 19) (by kernel_rfl) fun w4 g4 f4 hB4 s4 => ⟨.inr (f3.then f4), ?_⟩
  obtain ⟨b4, hb4⟩ : ∃ b4, b4 = w3.heap.size := ⟨_, rfl⟩
  rw [← hb4] at hB4 ⊢
  have n03 := f03.size
  have hlt := hB1.lt
  have n3 := f3.size
  refine stoCfgR (m := ((fl xs 0).toNat : Int)) (s := ((fl xs 1).toNat : Int)) (n := ((fl xs 2).toNat : Int)) (key := z16k) hB4 rfl fun w5 f5 hC5 s5 => ?_
  have f05 : Fr [] w w5 := (f03.then f4).st f5 (by omega)
  have hB5 : Blk w5 b2 19 g1 := ((hB1.fr0 f3).fr0 f4).fr f5 (by simp; omega)
  refine LoopS.ind (fun k us w' => ∃ (i : Nat) (key : List UInt8), i + k = 16 ∧ us = [.slice p l c, .pointer (some ⟨b2, 0, none⟩), .int .i64 0, .pointer (some ⟨b4, 0, none⟩), .int .i64 (i : Int)] ∧ Fr [] w w' ∧ key.length = 16 ∧ Blk w' b2 19 g1 ∧ Cfg w' b4 ((fl xs 0).toNat : Int) ((fl xs 1).toNat : Int) ((fl xs 2).toNat : Int) key ∧ ∀ j, j < i → fl key j = fl xs (4 + j)) 16
    ⟨0, z16k, by omega, rfl, f05, rfl, hB5, hC5, by omega⟩ ?_
  rintro k us r w6 I μ hgo ⟨i, key, hi, rfl, f6, hk, hB6, hC6, hs⟩
  refine ⟨_, _, _, _, _, _, _, rfl, cond_d (fun h2 => ?_) (fun h2 => ?_)⟩
  · rw [wrap64 (n := 4 + (i : Int)) (by omega) (by omega)]
    obtain ⟨a, ha, hca⟩ := row_get (t := T_S_uint8) (by kernel_rfl) (hx.fr0 f6) (c := c) hl (i := 4 + i) (by omega) (k := .i64)
    rw [Int.natCast_add] at ha
    refine ⟨a, ha, _, Ld.cell (by kernel_rfl) hca, ?_⟩
    refine hC6.stoKey hk (i := i) (by omega) _ fun w7 f7 hC7 s7 => ?_
    rw [wrap64 (n := (i : Int) + 1) (by omega) (by omega)]
    refine hgo _ _ _ (k - 1) (by omega) ⟨i + 1, key.set i (fl xs (4 + i)), by omega, rfl, f6.st f7 (by omega), by rw [List.length_set]; exact hk, hB6.fr f7 (by simp; omega), hC7, fun j hj => ?_⟩
    by_cases hji : j = i
    · subst hji; unfold fl; rw [List.getD_eq_getElem?_getD, List.getElem?_set_self (by omega)]; rfl
    · have := hs j (by omega)
      unfold fl at this ⊢
      rw [List.getD_eq_getElem?_getD, List.getElem?_set_ne (Ne.symm hji), ← List.getD_eq_getElem?_getD]
      exact this
  · have hil : i = 16 := by omega
    subst hil
    have no : ∀ w', Fr [] w6 w' → 20 ≤ l → ¬ okR xs → ref16_Read_j2 ⟨b2, 0, none⟩ 0 ⟨b4, 0, none⟩ true w' K := by
      intro w' f' h20 hn
      unfold ref16_Read_j2
      refine cond_t ?_
      refine stoCfgR (m := 0) (s := 0) (n := 0) (key := z16k) (hB6.fr0 f') rfl fun w8 f8 hC8 s8 => ⟨_, _, rfl, hC8.ldR rfl, ?_⟩
      exact hbad h20 hn w8 ((f6.then f').st f8 (by omega))
    unfold ref16_Read_j3
    refine cond_d (fun h3 => no w6 (Fr.refl _ _) (by omega) (fun hh => by have := hh.1; omega)) fun h3 => ?_
    have h20 : xs.length = 20 := by omega
    have hkey : key = xs.drop 4 := fl_ext (by rw [List.length_drop]; omega) fun j hj => by
      rw [hs j (by omega)]; unfold fl; rw [List.getD_eq_getElem?_getD, List.getD_eq_getElem?_getD, List.getElem?_drop]
    obtain ⟨a, ha, hca⟩ := row_get (t := T_S_uint8) (by kernel_rfl) (hx.fr0 f6) (c := c) hl (i := 3) (by omega) (k := .i64)
    refine ⟨a, ha, _, Ld.cell (by kernel_rfl) hca, cond_ne (fun hne => no w6 (Fr.refl _ _) (by omega) (fun hh => hne ?_)) fun he => ?_⟩
    · have e : fl xs 3 = 0 := hh.2.1
      show ((fl xs 3).toNat : Int) = 0
      rw [e]; rfl
    · have e3 : fl xs 3 = 0 := by
        have : ((fl xs 3).toNat : Int) = ((0 : UInt8).toNat : Int) := he
        exact eq8.1 this
      refine ⟨_, hC6.ldR hk, refRight_c hk fun w7 f7 => ⟨_, rfl, ?_⟩⟩
      by_cases ho : okC ((fl xs 0).toNat : Int) ((fl xs 1).toNat : Int) ((fl xs 2).toNat : Int) key
      · rw [decide_eq_true ho]
        unfold ref16_Read_j2
        refine cond_f ?_
        unfold ref16_Read_j1
        refine ⟨_, (hC6.fr0 f7).ldR hk, ?_⟩
        refine stoCfgR (hB6.fr0 f7) hk fun w8 f8 hC8 s8 => ⟨_, _, rfl, hC8.ldR hk, ?_⟩
        rw [hkey] at ho ⊢
        exact hok ⟨h20, e3, ho⟩ w8 ((f6.then f7).st f8 (by omega))
      · rw [decide_eq_false ho]
        exact no w7 f7 (by omega) fun hh => ho (by rw [hkey]; exact hh.2.2)
end
end Go.Sh
end

section
namespace Go.Sh
open Go Go.Fw Go.Proofs
set_option maxRecDepth 100000
set_option linter.unusedVariables false
instance (xs : List UInt8) : Decidable (okR xs) := by unfold okR; infer_instance
theorem CopyOB_c {w : World} {p : Option Addr} {l c : Nat} {xs : List UInt8} (hx : Row w p (xs.map vb)) (hl : l = xs.length) (hlen : l ≤ 1073741824) {K : Value → World → Prop}
    (h : ∀ q d w', Fr [] w w' → OB w' q l d xs w.heap.size → K (.slice q l d) w') : callF Tryz.prog F_ref00_CopyBytes #[.slice p l c] w K :=
  CopyBytes_c hx hl hlen fun q d w' f hO hn => h q d w' f ⟨hO, hl, hn⟩
def rdM (xs : List UInt8) : Int := if okR xs then ((fl xs 0).toNat : Int) else 0
def rdS (xs : List UInt8) : Int := if okR xs then ((fl xs 1).toNat : Int) else 0
def rdN (xs : List UInt8) : Int := if okR xs then ((fl xs 2).toNat : Int) else 0
def rdK (xs : List UInt8) : List UInt8 := if okR xs then xs.drop 4 else z16k
def rdE (xs : List UInt8) : Int := if xs.length < 20 then 12 else if okR xs then 0 else 10
theorem rdK_len (xs : List UInt8) : (rdK xs).length = 16 := by
  unfold rdK; split
  · rename_i h; rw [List.length_drop, h.1]
  · rfl
section
variable {w : World} {m s n : Int} {key text : List UInt8} {K : Value → World → Prop}
theorem modeReadAny_c {p : Option Addr} {l c : Nat} {xs : List UInt8} (hx : Row w p (xs.map vb)) (hl : l = xs.length) (hc : l ≤ c) (hlb : l ≤ 1000000)
    (h : ∀ w', Fr [] w w' → K (.tuple #[.agg ⟨cfgV (rdM xs) (rdS xs) (rdN xs) (rdK xs)⟩, .int .i64 (rdE xs)]) w') : callF Tryz.prog F_mode_Read #[.slice p l c] w K := by
  refine modeRead_c hx hl hc hlb (fun h1 w' f => ?_) (fun h1 h2 w' f => ?_) (fun h2 w' f => ?_)
  · have := h w' f
    have hn : ¬ okR xs := fun hh => by have := hh.1; omega
    unfold rdM rdS rdN rdK rdE at this
    rwa [if_neg hn, if_neg hn, if_neg hn, if_neg hn, if_pos (by omega)] at this
  · have := h w' f
    unfold rdM rdS rdN rdK rdE at this
    rwa [if_neg h2, if_neg h2, if_neg h2, if_neg h2, if_neg (by omega), if_neg h2] at this
  · have := h w' f
    unfold rdM rdS rdN rdK rdE at this
    rwa [if_pos h2, if_pos h2, if_pos h2, if_pos h2, if_neg (by have := h2.1; omega), if_pos h2] at this
theorem refReadAny_c {p : Option Addr} {l c : Nat} {xs : List UInt8} (hx : Row w p (xs.map vb)) (hl : l = xs.length) (hlb : l ≤ 1000000)
    (h : ∀ w', Fr [] w w' → K (.tuple #[.agg ⟨cfgV (rdM xs) (rdS xs) (rdN xs) (rdK xs)⟩, .int .i64 (rdE xs)]) w') : callF Tryz.prog F_ref16_Read #[.slice p l c] w K := by
  refine refRead_c hx hl hlb (fun h1 w' f => ?_) (fun h1 h2 w' f => ?_) (fun h2 w' f => ?_)
  · have := h w' f
    have hn : ¬ okR xs := fun hh => by have := hh.1; omega
    unfold rdM rdS rdN rdK rdE at this
    rwa [if_neg hn, if_neg hn, if_neg hn, if_neg hn, if_pos (by omega)] at this
  · have := h w' f
    unfold rdM rdS rdN rdK rdE at this
    rwa [if_neg h2, if_neg h2, if_neg h2, if_neg h2, if_neg (by omega), if_neg h2] at this
  · have := h w' f
    unfold rdM rdS rdN rdK rdE at this
    rwa [if_pos h2, if_pos h2, if_pos h2, if_pos h2, if_neg (by have := h2.1; omega), if_pos h2] at this
theorem cfgBytesAny_c (hk : key.length = 16) (h : ∀ q d out w', Fr [] w w' → OB w' q out.length d out w.heap.size → out = (if okC m s n key then cfgBytes m s n key else []) → K (.slice q out.length d) w') :
    callF Tryz.prog F_mode_Config_Bytes #[.agg ⟨cfgV m s n key⟩] w K := by
  refine cfgBytes_c hk (fun hb w' f => h none 0 [] w' f (OB.nil _ _) (by rw [if_neg hb])) (fun ho q d w' f hO => ?_)
  have hl := hO.2.1
  have := h q d _ w' f (by rw [← hl]; exact hO) (by rw [if_pos ho])
  rwa [← hl] at this
theorem refCfgBytesAny_c (hk : key.length = 16) (h : ∀ q d out w', Fr [] w w' → OB w' q out.length d out w.heap.size → out = (if okC m s n key then cfgBytes m s n key else []) → K (.slice q out.length d) w') :
    callF Tryz.prog F_ref16_Bytes #[.agg ⟨cfgV m s n key⟩] w K := by
  refine refCfgBytes_c hk (fun hb w' f => h none 0 [] w' f (OB.nil _ _) (by rw [if_neg hb])) (fun ho q d w' f hO => ?_)
  have hl := hO.2.1
  have := h q d _ w' f (by rw [← hl]; exact hO) (by rw [if_pos ho])
  rwa [← hl] at this
theorem cfgBytes_len (hk : key.length = 16) : (cfgBytes m s n key).length = 20 := by simp [cfgBytes, hk]
end
theorem turnIs_inj {back : Bool} {m s n : Int} {key text : List UInt8} {er er' : Int} {out out' : List UInt8} (h : turnIs back m s n key text er out) (h' : turnIs back m s n key text er' out') : er = er' ∧ out = out' := by
  rcases h with ⟨a, rfl, rfl⟩ | ⟨a, b, rfl, rfl⟩ | ⟨a, b, rfl, rfl⟩ <;> rcases h' with ⟨c, rfl, rfl⟩ | ⟨c, d, rfl, rfl⟩ | ⟨c, d, rfl, rfl⟩ <;> first | exact ⟨rfl, rfl⟩ | (exfalso; first | exact a c | exact c a | omega)
theorem turnIs_len {back : Bool} {m s n : Int} {key text : List UInt8} {er : Int} {out : List UInt8} (h : turnIs back m s n key text er out) : out.length ≤ text.length := by
  rcases h with ⟨a, rfl, rfl⟩ | ⟨a, b, rfl, rfl⟩ | ⟨a, b, rfl, rfl⟩
  · simp
  · simp
  · rw [turnC_len back a b]; exact Nat.le_refl _
set_option maxHeartbeats 2000000 in
theorem ModeTurns_c {w : World} {m s n : Int} {key text : List UInt8} {p1 : Option Addr} {l1 c1 : Nat} (hk : key.length = 16) (h1 : Row w p1 (text.map vb)) (hl1 : l1 = text.length) (hc1 : l1 ≤ c1) {K : Value → World → Prop}
    (h : ∀ w', Fr [] w w' → K (.bool true) w') : callF Tryz.prog F_law16_ModeTurns #[.agg ⟨cfgV m s n key⟩, .slice p1 l1 c1] w K := by
  apply law16_ModeTurns_call
  unfold law16_ModeTurns
  refine newCfg hk fun w1 f1 hC s1 => alive16_c fun w2 f2 => ⟨_, rfl, cond_f (cond_d (fun _ => h w2 (f1.then f2)) fun hlb => ?_)⟩
  have f02 := f1.then f2
  have hC2 := hC.fr0 f2
  refine CopyOB_c (h1.fr0 f02) hl1 (by omega) fun po co w3 f3 hO => ⟨_, _, _, rfl, ?_⟩
  have f03 := f02.then f3
  have hC3 := hC2.fr0 f3
  refine ⟨_, hC3.ld hk, turnAny_c hk hO.row hO.2.1 hO.cap (by omega) fun q1 d1 e1 o1 w4 f4 hO1 t1 => ⟨_, _, _, _, rfl, ?_⟩⟩
  have f04 := f03.then f4
  refine ⟨_, (hC3.fr0 f4).ld hk, law16Of_c hk fun w5 f5 => ⟨_, rfl, ?_⟩⟩
  have f05 := f04.then f5
  refine refTurn_cfg_c hk (h1.fr0 f05) hl1 (by omega) fun q2 d2 e2 o2 w6 f6 hO2 t2 => ⟨_, _, _, _, rfl, ?_⟩
  have f36 := (f4.then f5).then f6
  have f06 := f03.then f36
  refine ⟨_, (hC3.fr0 f36).ld hk, backAny_c hk (hO.fr0 f36).row hO.2.1 hO.cap (by omega) fun q3 d3 e3 o3 w7 f7 hO3 t3 => ⟨_, _, _, _, rfl, ?_⟩⟩
  refine ⟨_, (hC3.fr0 (f36.then f7)).ld hk, law16Of_c hk fun w8 f8 => ⟨_, rfl, ?_⟩⟩
  have f08 := (f06.then f7).then f8
  refine refBack_cfg_c hk (h1.fr0 f08) hl1 (by omega) fun q4 d4 e4 o4 w9 f9 hO4 t4 => ⟨_, _, _, _, rfl, ?_⟩
  obtain ⟨rfl, rfl⟩ := turnIs_inj t1 t2
  obtain ⟨rfl, rfl⟩ := turnIs_inj t3 t4
  have b1 := turnIs_len t1; have b3 := turnIs_len t3
  have f09 := f08.then f9
  have f49 := (((f5.then f6).then f7).then f8).then f9
  have f69 := (f7.then f8).then f9
  refine cond_eq (fun _ => ?_) (fun hne => absurd rfl hne)
  refine SameBytes_c (hO1.fr0 f49).row rfl (hO2.fr0 f69).row rfl (by omega) fun w10 f10 => ⟨_, rfl, ?_⟩
  rw [decide_eq_true rfl]
  refine cond_t (cond_eq (fun _ => ?_) (fun hne => absurd rfl hne))
  refine SameBytes_c (hO3.fr0 ((f8.then f9).then f10)).row rfl (hO4.fr0 f10).row rfl (by omega) fun w11 f11 => ⟨_, rfl, ?_⟩
  rw [decide_eq_true rfl]
  have f011 := (f09.then f10).then f11
  refine cond_t (SameBytes_c (hO.fr0 ((f4.then f49).then (f10.then f11))).row hO.2.1 (h1.fr0 f011) hl1 (by omega) fun w12 f12 => ⟨_, rfl, ?_⟩)
  rw [decide_eq_true rfl]
  exact h w12 (f011.then f12)
set_option maxHeartbeats 4000000 in
theorem ModeAnswers_c {w : World} {m s n : Int} {key xs : List UInt8} {p1 : Option Addr} {l1 c1 : Nat} (hk : key.length = 16) (h1 : Row w p1 (xs.map vb)) (hl1 : l1 = xs.length) (hc1 : l1 ≤ c1) {K : Value → World → Prop}
    (h : ∀ w', Fr [] w w' → K (.bool true) w') : callF Tryz.prog F_law16_ModeAnswers #[.agg ⟨cfgV m s n key⟩, .slice p1 l1 c1] w K := by
  apply law16_ModeAnswers_call
  unfold law16_ModeAnswers
  refine newCfg hk fun w1 f1 hC s1 => alive16_c fun w2 f2 => ⟨_, rfl, cond_f (cond_d (fun _ => h w2 (f1.then f2)) fun hlb => ?_)⟩
  have f02 := f1.then f2
  have hC2 := hC.fr0 f2
  refine CopyOB_c (h1.fr0 f02) hl1 (by omega) fun po co w3 f3 hO => ⟨_, _, _, rfl, ?_⟩
  have f03 := f02.then f3
  refine modeReadAny_c hO.row hO.2.1 hO.cap (by omega) fun w4 f4 => ⟨_, _, rfl, ?_⟩
  have hrk := rdK_len xs
  refine newZ (s := 19) (by kernel_rfl) fun w5 g5 f5 hB5 s5 => ?_
  obtain ⟨b6, hb6⟩ : ∃ b, b = w4.heap.size := ⟨_, rfl⟩
  rw [← hb6] at hB5 ⊢
  refine stoCfg (m := rdM xs) (s := rdS xs) (n := rdN xs) (key := rdK xs) hB5 hrk fun w6 f6 hC6 s6 => ?_
  have f46 : Fr [] w4 w6 := f5.st f6 (by omega)
  have f06 := (f03.then f4).then f46
  refine refReadAny_c (h1.fr0 f06) hl1 (by omega) fun w7 f7 => ⟨_, _, rfl, ?_⟩
  refine newZ (s := 19) (by kernel_rfl) fun w8 g8 f8 hB8 s8 => ?_
  obtain ⟨b8, hb8⟩ : ∃ b, b = w7.heap.size := ⟨_, rfl⟩
  rw [← hb8] at hB8 ⊢
  refine stoCfgR (m := rdM xs) (s := rdS xs) (n := rdN xs) (key := rdK xs) hB8 hrk fun w9 f9 hC9 s9 => ?_
  have f79 : Fr [] w7 w9 := f8.st f9 (by omega)
  have f69 := f7.then f79
  have hC69 := hC6.fr0 f69
  have f29 := ((f3.then f4).then f46).then f69
  have hC29 := hC2.fr0 f29
  refine ⟨fun w' => Fr [] w9 w', Drw.intro fun w10 f10 s10 => ?_⟩
  have hld : ∀ wx, Fr [] w9 wx → HLd Tryz.prog (fun w' => Fr [] w9 w') T_mode_Config (.pointer (some ⟨w.heap.size, 0, none⟩)) wx (.agg ⟨cfgV m s n key⟩) := fun wx fx => ⟨fx, fun w' hw' => (hC29.fr0 hw').ld hk⟩
  refine ⟨_, hld _ f10, _, hld _ f10, Right_c hk fun w11 f11 => ⟨_, rfl, .inr (f10.then f11), ?_⟩⟩
  have f911 := f10.then f11
  refine law16Of_c hk fun w12 f12 => ⟨_, rfl, .inr (f911.then f12), ?_⟩
  have f912 := f911.then f12
  refine refRight_c hk fun w13 f13 => ⟨_, rfl, .inr (f912.then f13), ?_⟩
  have f913 := f912.then f13
  refine cond_intro (fun _ => ?_) (fun hne => by simp at hne)
  refine ⟨_, hld _ f913, _, hld _ f913, cfgSize_c hk fun w14 f14 => ⟨_, rfl, .inr (f913.then f14), ?_⟩⟩
  have f914 := f913.then f14
  refine law16Of_c hk fun w15 f15 => ⟨_, rfl, .inr (f914.then f15), ?_⟩
  have f915 := f914.then f15
  refine refCfgSize_c hk fun w16 f16 => ⟨_, rfl, .inr (f915.then f16), ?_⟩
  have f916 := f915.then f16
  refine cond_intro (fun _ => ?_) (fun hne => by simp at hne)
  refine ⟨_, hld _ f916, _, hld _ f916, cfgBytesAny_c hk fun q1 d1 o1 w17 f17 hO1 e1 => ⟨_, _, _, rfl, .inr (f916.then f17), ?_⟩⟩
  have f917 := f916.then f17
  refine law16Of_c hk fun w18 f18 => ⟨_, rfl, .inr (f917.then f18), ?_⟩
  have f918 := f917.then f18
  refine refCfgBytesAny_c hk fun q2 d2 o2 w19 f19 hO2 e2 => ⟨_, _, _, rfl, .inr (f918.then f19), ?_⟩
  have f919 := f918.then f19
  have e12 : o1 = o2 := by rw [e1, e2]
  subst e12
  have hol : o1.length ≤ 20 := by rw [e1]; split; rw [cfgBytes_len hk]; omega; simp
  refine SameBytes_c (hO1.fr0 (f18.then f19)).row rfl hO2.row rfl (by omega) fun w20 f20 => ⟨_, rfl, .inr (f919.then f20), ?_⟩
  rw [decide_eq_true rfl]
  have f920 := f919.then f20
  have hl6 : HLd Tryz.prog (fun w' => Fr [] w9 w') T_mode_Config (.pointer (some ⟨b6, 0, none⟩)) w20 (.agg ⟨cfgV (rdM xs) (rdS xs) (rdN xs) (rdK xs)⟩) := ⟨f920, fun w' hw' => (hC69.fr0 hw').ld hrk⟩
  have hl9 : HLd Tryz.prog (fun w' => Fr [] w9 w') T_ref16_Config (.pointer (some ⟨b8, 0, none⟩)) w20 (.agg ⟨cfgV (rdM xs) (rdS xs) (rdN xs) (rdK xs)⟩) := ⟨f920, fun w' hw' => (hC9.fr0 hw').ldR hrk⟩
  refine cond_t ⟨_, hl6, _, hl9, law16Of_c hrk fun w21 f21 => ⟨_, rfl, .inr (f920.then f21), ?_⟩⟩
  have f921 := f920.then f21
  refine ⟨_, _, Ef.eqCfg (n := 16) (by kernel_rfl) hrk hrk, ?_⟩
  rw [decide_eq_true ⟨rfl, rfl, rfl, rfl⟩]
  refine cond_t (cond_eq (fun _ => ?_) (fun hne => absurd rfl hne))
  have f021 := (f06.then f69).then f921
  refine SameBytes_c (hO.fr0 (((f4.then f46).then f69).then f921)).row hO.2.1 (h1.fr0 f021) hl1 (by omega) fun w22 f22 => ⟨_, rfl, ?_⟩
  rw [decide_eq_true rfl]
  exact h w22 (f021.then f22)
end Go.Sh
end
