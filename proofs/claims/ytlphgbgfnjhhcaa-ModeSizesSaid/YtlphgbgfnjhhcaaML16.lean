/- A part of a proof of a given law of this program: lemmas, printed forms of its functions, contracts. It has no conditions of its own. -/
import Derived.Test.YtlphgbgfnjhhcaaMM
import Derived.Test.YtlphgbgfnjhhcaaMA
import Derived.Test.YtlphgbgfnjhhcaaMSh4
import Derived.Test.YtlphgbgfnjhhcaaML15

section
namespace Go.Sh
open Go Go.Fw Go.Proofs
set_option maxRecDepth 100000
set_option linter.unusedVariables false

def k16' : List UInt8 := [1, 0, 0, 0, 0, 0, 0, 0, 0, 0, 0, 0, 0, 0, 0, 0]
def t16 : List UInt8 := [1, 2, 3, 4, 5, 6, 7]
theorem cut16 : cutL t16 = ([1, 2, 3, 0], [4, 5, 6, 7]) := by decide +kernel
theorem o16a : ontoL k16' [1, 2, 3, 0] [4, 5, 6, 7] 7 1 false = [2, 50, 35, 30] := by unfold ontoL; rw [aencL_eval]; kernel_rfl
theorem o16b : ontoL k16' [2, 50, 35, 30] [1, 2, 3, 0] 7 2 true = [193, 154, 17, 112] := by unfold ontoL; rw [aencL_eval]; kernel_rfl
theorem o16c : ontoL k16' [193, 154, 17, 112] [2, 50, 35, 30] 7 3 false = [2, 101, 203, 225] := by unfold ontoL; rw [aencL_eval]; kernel_rfl
theorem o16d : ontoL k16' [2, 101, 203, 225] [193, 154, 17, 112] 7 4 true = [80, 212, 167, 192] := by unfold ontoL; rw [aencL_eval]; kernel_rfl
theorem run16 : runL k16' 7 [1, 2, 3, 4] ([1, 2, 3, 0], [4, 5, 6, 7]) = ([80, 212, 167, 192], [2, 101, 203, 225]) := by
  show passL k16' 7 4 (passL k16' 7 3 (passL k16' 7 2 (passL k16' 7 1 ([1, 2, 3, 0], [4, 5, 6, 7])))) = _
  have e1 : passL k16' 7 1 ([1, 2, 3, 0], [4, 5, 6, 7]) = ([1, 2, 3, 0], [2, 50, 35, 30]) := by unfold passL; rw [if_neg (by decide)]; show ([1, 2, 3, 0], ontoL k16' [1, 2, 3, 0] [4, 5, 6, 7] 7 1 false) = _; rw [o16a]
  have e2 : passL k16' 7 2 ([1, 2, 3, 0], [2, 50, 35, 30]) = ([193, 154, 17, 112], [2, 50, 35, 30]) := by unfold passL; rw [if_pos (by decide)]; show (ontoL k16' [2, 50, 35, 30] [1, 2, 3, 0] 7 2 true, [2, 50, 35, 30]) = _; rw [o16b]
  have e3 : passL k16' 7 3 ([193, 154, 17, 112], [2, 50, 35, 30]) = ([193, 154, 17, 112], [2, 101, 203, 225]) := by unfold passL; rw [if_neg (by decide)]; show ([193, 154, 17, 112], ontoL k16' [193, 154, 17, 112] [2, 50, 35, 30] 7 3 false) = _; rw [o16c]
  have e4 : passL k16' 7 4 ([193, 154, 17, 112], [2, 101, 203, 225]) = ([80, 212, 167, 192], [2, 101, 203, 225]) := by unfold passL; rw [if_pos (by decide)]; show (ontoL k16' [2, 101, 203, 225] [193, 154, 17, 112] 7 4 true, [2, 101, 203, 225]) = _; rw [o16d]
  rw [e1, e2, e3, e4]
def y16 : List UInt8 := [80, 212, 167, 194, 101, 203, 225]
theorem mix16 : passesL k16' t16 [1, 2, 3, 4] = y16 := by
  unfold passesL
  rw [cut16]
  show joinL (runL k16' 7 [1, 2, 3, 4] ([1, 2, 3, 0], [4, 5, 6, 7])).1 (runL k16' 7 [1, 2, 3, 4] ([1, 2, 3, 0], [4, 5, 6, 7])).2 7 = _
  rw [run16]
  decide +kernel
theorem turn_back {m s n : Int} {key text : List UInt8} (hok : okC m s n key) (hk : key.length = 16) (hl : (text.length : Int) = s + n) : turnC true m key (turnC false m key text) = text := by
  have ho := hok
  unfold okC at ho
  unfold turnC
  by_cases h0 : m = 0
  · rw [if_pos h0, if_pos h0]
  · by_cases h1 : m = 1
    · rw [if_neg h0, if_pos h1, if_neg h0, if_pos h1]
      simp only [Bool.false_eq_true, if_true, if_false]
      exact adecL_aencL _ _ (by have := ho.2.2.2.2.2.2.2.2 h1; omega)
    · rw [if_neg h0, if_neg h1, if_neg h0, if_neg h1]
      simp only [Bool.false_eq_true, if_true, if_false]
      exact passesL_rev key text [1, 2, 3, 4] (by omega) (by omega)
theorem back_turn {m s n : Int} {key text : List UInt8} (hok : okC m s n key) (hk : key.length = 16) (hl : (text.length : Int) = s + n) : turnC false m key (turnC true m key text) = text := by
  have ho := hok
  unfold okC at ho
  unfold turnC
  by_cases h0 : m = 0
  · rw [if_pos h0, if_pos h0]
  · by_cases h1 : m = 1
    · rw [if_neg h0, if_pos h1, if_neg h0, if_pos h1]
      simp only [Bool.false_eq_true, if_true, if_false]
      exact aencL_adecL _ _ (by have := ho.2.2.2.2.2.2.2.2 h1; omega)
    · rw [if_neg h0, if_neg h1, if_neg h0, if_neg h1]
      simp only [Bool.false_eq_true, if_true, if_false]
      exact passesL_rev key text [4, 3, 2, 1] (by omega) (by omega)
theorem ey16 : turnC false 2 k16' t16 = y16 := by
  unfold turnC
  rw [if_neg (by decide), if_neg (by decide)]
  simp only [Bool.false_eq_true, if_false]
  exact mix16
theorem okc0 : okC 0 3 4 z16k := by decide
theorem okc2 : okC 2 3 4 k16' := by decide
theorem okc1 : ¬ okC 1 3 4 z16k := by decide
end Go.Sh
end

section
namespace Go.Sh
open Go Go.Fw Go.Proofs
set_option maxRecDepth 100000
set_option linter.unusedVariables false

set_option maxHeartbeats 4000000 in
theorem alive16_c {w : World} {K : Value → World → Prop} (h : ∀ w', Fr [] w w' → K (.bool true) w') : callF Try.prog F_law16_alive #[] w K := by
  apply law16_alive_call
  unfold law16_alive
  refine newZ (s := 19) (by kernel_rfl) fun w1 g1 f1 hB1 s1 => ?_
  obtain ⟨b1, hb1⟩ : ∃ b, b = w.heap.size := ⟨_, rfl⟩
  rw [← hb1] at hB1 ⊢
  refine stoCfg (m := 0) (s := 3) (n := 4) (key := z16k) hB1 rfl fun w2 f2 hC1 s2 => ?_
  have f02 : Fr [] w w2 := f1.st f2 (by omega)
  refine ⟨⟨cfgV 2 3 4 k16'⟩, by unfold Pu; kernel_rfl, ?_⟩
  refine newZ (s := 19) (by kernel_rfl) fun w3 g3 f3 hB3 s3 => ?_
  obtain ⟨b2, hb2⟩ : ∃ b, b = w2.heap.size := ⟨_, rfl⟩
  rw [← hb2] at hB3 ⊢
  refine stoCfg (m := 2) (s := 3) (n := 4) (key := k16') hB3 rfl fun w4 f4 hC2 s4 => ?_
  have f04 : Fr [] w w4 := (f02.then f3).st f4 (by have := f02.size; omega)
  have hC1b := (hC1.fr0 f3).fr f4 (by have := hC1.lt; simp; omega)
  refine newZ (s := 19) (by kernel_rfl) fun w5 g5 f5 hB5 s5 => ?_
  obtain ⟨b3, hb3⟩ : ∃ b, b = w4.heap.size := ⟨_, rfl⟩
  rw [← hb3] at hB5 ⊢
  refine stoCfg (m := 1) (s := 3) (n := 4) (key := z16k) hB5 rfl fun w6 f6 hC3 s6 => ?_
  have f06 : Fr [] w w6 := (f04.then f5).st f6 (by have := f04.size; omega)
  have hC1c := (hC1b.fr0 f5).fr f6 (by have := hC1b.lt; simp; omega)
  have hC2c := (hC2.fr0 f5).fr f6 (by have := hC2.lt; simp; omega)
  refine mkL (n := 7) (xs := t16) rfl rfl (by kernel_rfl) fun pt w7 f7 ht s7 => ?_
  have f07 := f06.then f7
  refine ⟨_, (hC1c.fr0 f7).ld rfl, ?_⟩
  refine Turn_cfg_c (text := t16) rfl ht.row rfl (by decide) (by decide) (fun hn => absurd okc0 hn) (fun _ hn => absurd (by decide) hn) fun _ _ pa da w8 f8 ha => ⟨_, _, _, _, rfl, ?_⟩
  have f08 := f07.then f8
  refine ⟨_, (hC2c.fr0 (f7.then f8)).ld rfl, ?_⟩
  refine Turn_cfg_c (text := t16) rfl (ht.fr0 f8).row rfl (by decide) (by decide) (fun hn => absurd okc2 hn) (fun _ hn => absurd (by decide) hn) fun _ _ pb db w9 f9 hb => ⟨_, _, _, _, rfl, ?_⟩
  have f09 := f08.then f9
  have f69 := (f7.then f8).then f9
  refine ⟨_, (hC2c.fr0 f69).ld rfl, ?_⟩
  have ey := ey16
  rw [ey] at hb
  refine Back_cfg_c (text := y16) rfl hb.row rfl hb.cap (by decide) (fun hn => absurd okc2 hn) (fun _ hn => absurd (by decide) hn) fun _ _ pd dd w10 f10 hd => ⟨_, _, _, _, rfl, ?_⟩
  have ez : turnC true 2 k16' y16 = t16 := by rw [← ey]; exact turn_back okc2 rfl (by decide)
  rw [ez] at hd
  have f010 := f09.then f10
  have f610 := f69.then f10
  refine ⟨_, (hC3.fr0 f610).ld rfl, ?_⟩
  have ht10 := ((ht.fr0 f8).fr0 f9).fr0 f10
  refine Turn_cfg_c (text := t16) rfl ht10.row rfl (by decide) (by decide) (fun _ w11 f11 => ⟨_, _, _, _, rfl, ?_⟩) (fun hn => absurd hn okc1) (fun hn => absurd hn okc1)
  have f611 := f610.then f11
  refine ⟨_, (hC2c.fr0 f611).ld rfl, ?_⟩
  refine Turn_cfg_c (text := []) rfl (Row.nil _ _) rfl (by decide) (by decide) (fun hn => absurd okc2 hn) (fun _ _ w12 f12 => ⟨_, _, _, _, rfl, ?_⟩) (fun _ hn => absurd hn (by decide))
  have f612 := f611.then f12
  refine ⟨_, (hC2c.fr0 f612).ld rfl, ?_⟩
  refine cfgBytes_c rfl (fun hn => absurd okc2 hn) fun _ pe de w13 f13 he => ⟨_, _, _, rfl, ?_⟩
  have f613 := f612.then f13
  refine modeRead_c he.row rfl he.cap (by decide) (fun hn => absurd hn (by decide)) (fun _ hn => absurd ⟨by decide, by decide, by decide⟩ hn) fun _ w14 f14 => ⟨_, _, rfl, ?_⟩
  have f614 := f613.then f14
  refine newZ (s := 19) (by kernel_rfl) fun w15 g15 f15 hB15 s15 => ?_
  obtain ⟨b4, hb4⟩ : ∃ b, b = w14.heap.size := ⟨_, rfl⟩
  rw [← hb4] at hB15 ⊢
  refine stoCfg (m := 2) (s := 3) (n := 4) (key := k16') hB15 rfl fun w16 f16 hC4 s16 => ?_
  have g1416 : Fr [] w14 w16 := f15.st f16 (by omega)
  have f616 : Fr [] w6 w16 := f614.then g1416
  refine modeRead_c (xs := []) (Row.nil _ _) rfl (Nat.le_refl _) (by decide) (fun _ w17 f17 => ⟨_, _, rfl, ?_⟩) (fun hn => absurd hn (by decide)) (fun hn => absurd hn.1 (by decide))
  have f617 := f616.then f17
  refine newZ (s := 19) (by kernel_rfl) fun w18 g18 f18 hB18 s18 => ?_
  obtain ⟨b5, hb5⟩ : ∃ b, b = w17.heap.size := ⟨_, rfl⟩
  rw [← hb5] at hB18 ⊢
  refine stoCfg (m := 0) (s := 0) (n := 0) (key := z16k) hB18 rfl fun w19 f19 hC5 s19 => ?_
  have g1719 : Fr [] w17 w19 := f18.st f19 (by omega)
  have f619 : Fr [] w6 w19 := f617.then g1719
  refine ⟨_, (hC1c.fr0 f619).ld rfl, Right_c rfl fun w20 f20 => ⟨_, rfl, ?_⟩⟩
  rw [decide_eq_true okc0]
  have f620 := f619.then f20
  refine cond_t ⟨_, (hC3.fr0 f620).ld rfl, Right_c rfl fun w21 f21 => ⟨_, rfl, ?_⟩⟩
  rw [decide_eq_false okc1]
  have f621 := f620.then f21
  refine cond_t ⟨_, (hC1c.fr0 f621).ld rfl, cfgSize_c rfl fun w22 f22 => ⟨_, rfl, ?_⟩⟩
  rw [if_pos okc0]
  have f622 := f621.then f22
  refine cond_t (cond_t (cond_t (cond_t (cond_t (cond_t (cond_t (cond_t ?_)))))))
  have g22 : Fr [] w10 w22 := ((((((((f11.then f12).then f13).then f14).then g1416).then f17).then g1719).then f20).then f21).then f22
  have e0 : turnC false 0 z16k t16 = t16 := by unfold turnC; rw [if_pos rfl]
  rw [e0] at ha
  have ht22 := ht10.fr0 g22
  have ha22 := ((ha.fr0 f9).fr0 f10).fr0 g22
  have hb22 := (hb.fr0 f10).fr0 g22
  have hd22 := hd.fr0 g22
  have hC4' := ((((hC4.fr0 f17).fr0 g1719).fr0 f20).fr0 f21).fr0 f22
  have hC2' := hC2c.fr0 f622
  refine SameBytes_c ha22.row rfl ht22.row rfl (by decide) fun w23 f23 => ⟨_, rfl, ?_⟩
  rw [decide_eq_true rfl]
  refine cond_t (SameBytes_c (hb22.row.fr0 f23) rfl (ht22.row.fr0 f23) rfl (by decide) fun w24 f24 => ⟨_, rfl, ?_⟩)
  rw [show decide (y16 = t16) = false by decide]
  have f2 := f23.then f24
  refine cond_t (SameBytes_c (hd22.row.fr0 f2) rfl (ht22.row.fr0 f2) rfl (by decide) fun w25 f25 => ⟨_, rfl, ?_⟩)
  rw [decide_eq_true rfl]
  have f2x := f2.then f25
  refine cond_t ⟨_, (hC4'.fr0 f2x).ld rfl, _, (hC2'.fr0 f2x).ld rfl, _, _, Ef.eqCfg (n := 16) (by kernel_rfl) rfl rfl, ?_⟩
  rw [decide_eq_true ⟨rfl, rfl, rfl, rfl⟩]
  refine cond_t ⟨_, (hC2'.fr0 f2x).ld rfl, ?_⟩
  refine cfgBytes_c rfl (fun hn => absurd okc2 hn) fun _ pz dz w26 f26 hz => ⟨_, _, _, rfl, ?_⟩
  exact h w26 (f06.then ((f622.then f2x).then f26))
end Go.Sh
end

section
namespace Go.Sh
open Go Go.Fw Go.Proofs
set_option maxRecDepth 100000
set_option linter.unusedVariables false

section
variable {w : World} {m s n : Int} {key text : List UInt8} {K : Value → World → Prop}
/-- What a turn answers. -/
def turnIs (back : Bool) (m s n : Int) (key text : List UInt8) (er : Int) (out : List UInt8) : Prop :=
  (¬ okC m s n key ∧ er = 19 ∧ out = []) ∨ (okC m s n key ∧ (text.length : Int) ≠ s + n ∧ er = 11 ∧ out = []) ∨ (okC m s n key ∧ (text.length : Int) = s + n ∧ er = 0 ∧ out = turnC back m key text)
theorem turnAny_c {p : Option Addr} {l c : Nat} (hk : key.length = 16) (hx : Row w p (text.map vb)) (hl : l = text.length) (hc : l ≤ c) (hlb : l < 1000000)
    (h : ∀ q d er out w', Fr [] w w' → OB w' q out.length d out w.heap.size → turnIs false m s n key text er out → K (.tuple #[.slice q out.length d, .int .i64 er]) w') :
    callF Try.prog F_mode_Config_Turn #[.agg ⟨cfgV m s n key⟩, .slice p l c] w K := by
  refine Turn_cfg_c hk hx hl hc hlb (fun hn w' f => h none 0 19 [] w' f (OB.nil _ _) (.inl ⟨hn, rfl, rfl⟩)) (fun ho hne w' f => h none 0 11 [] w' f (OB.nil _ _) (.inr (.inl ⟨ho, by omega, rfl, rfl⟩))) fun ho he q d w' f hO => ?_
  have hlen := hO.2.1
  have := h q d 0 _ w' f (by rw [← hlen]; exact hO) (.inr (.inr ⟨ho, by omega, rfl, rfl⟩))
  rw [← hlen] at this
  exact this
theorem backAny_c {p : Option Addr} {l c : Nat} (hk : key.length = 16) (hx : Row w p (text.map vb)) (hl : l = text.length) (hc : l ≤ c) (hlb : l < 1000000)
    (h : ∀ q d er out w', Fr [] w w' → OB w' q out.length d out w.heap.size → turnIs true m s n key text er out → K (.tuple #[.slice q out.length d, .int .i64 er]) w') :
    callF Try.prog F_mode_Config_Back #[.agg ⟨cfgV m s n key⟩, .slice p l c] w K := by
  refine Back_cfg_c hk hx hl hc hlb (fun hn w' f => h none 0 19 [] w' f (OB.nil _ _) (.inl ⟨hn, rfl, rfl⟩)) (fun ho hne w' f => h none 0 11 [] w' f (OB.nil _ _) (.inr (.inl ⟨ho, by omega, rfl, rfl⟩))) fun ho he q d w' f hO => ?_
  have hlen := hO.2.1
  have := h q d 0 _ w' f (by rw [← hlen]; exact hO) (.inr (.inr ⟨ho, by omega, rfl, rfl⟩))
  rw [← hlen] at this
  exact this
end
set_option maxHeartbeats 2000000 in
theorem ModeSizes_c {w : World} {m s n : Int} {key text : List UInt8} {p1 : Option Addr} {l1 c1 : Nat} (hk : key.length = 16) (h1 : Row w p1 (text.map vb)) (hl1 : l1 = text.length) (hc1 : l1 ≤ c1)
    {K : Value → World → Prop} (h : ∀ w', Fr [] w w' → K (.bool true) w') : callF Try.prog F_law16_ModeSizes #[.agg ⟨cfgV m s n key⟩, .slice p1 l1 c1] w K := by
  apply law16_ModeSizes_call
  unfold law16_ModeSizes
  refine newCfg hk fun w1 f1 hC s1 => ?_
  refine alive16_c fun w2 f2 => ⟨_, rfl, cond_f ?_⟩
  have f02 := f1.then f2
  refine cond_d (fun _ => h w2 f02) fun hlen => ?_
  have hC2 := hC.fr0 f2
  refine ⟨_, hC2.ld hk, turnAny_c hk (h1.fr0 f02) hl1 hc1 (by omega) fun pa da e1 o1 w3 f3 ha r1 => ⟨_, _, _, _, rfl, ?_⟩⟩
  refine ⟨_, (hC2.fr0 f3).ld hk, backAny_c hk (h1.fr0 (f02.then f3)) hl1 hc1 (by omega) fun pb db e2 o2 w4 f4 hb r2 => ⟨_, _, _, _, rfl, ?_⟩⟩
  have f24 := f3.then f4
  refine ⟨_, (hC2.fr0 f24).ld hk, Right_c hk fun w5 f5 => ⟨_, rfl, ?_⟩⟩
  have f25 := f24.then f5
  by_cases ho : okC m s n key
  · rw [decide_eq_true ho]
    refine cond_f ⟨_, (hC2.fr0 f25).ld hk, cfgSize_c hk fun w6 f6 => ⟨_, rfl, ?_⟩⟩
    rw [if_pos ho]
    have ho' := ho
    unfold okC at ho'
    have f26 := f25.then f6
    refine cond_d (fun hh => by omega) fun _ => ⟨_, (hC2.fr0 f26).ld hk, cfgSize_c hk fun w7 f7 => ⟨_, rfl, ?_⟩⟩
    rw [if_pos ho]
    have f27 := f26.then f7
    refine cond_d (fun hh => by omega) fun _ => ?_
    unfold law16_ModeSizes_j1
    refine ⟨_, (hC2.fr0 f27).ld hk, cfgSize_c hk fun w8 f8 => ⟨_, rfl, ?_⟩⟩
    rw [if_pos ho, wrap64 (by omega) (by omega)]
    have f28 := f27.then f8
    refine cond_ne (fun hne => ?_) (fun heq => ?_)
    · obtain ⟨_, _, rfl, rfl⟩ : okC m s n key ∧ (text.length : Int) ≠ s + n ∧ e1 = 11 ∧ o1 = [] := by
        rcases r1 with ⟨a, _⟩ | r | ⟨_, b, _⟩
        · exact absurd ho a
        · exact r
        · omega
      obtain ⟨_, _, rfl, rfl⟩ : okC m s n key ∧ (text.length : Int) ≠ s + n ∧ e2 = 11 ∧ o2 = [] := by
        rcases r2 with ⟨a, _⟩ | r | ⟨_, b, _⟩
        · exact absurd ho a
        · exact r
        · omega
      exact cond_t (cond_t (h w8 (f02.then f28)))
    · obtain ⟨_, hlt, rfl, rfl⟩ : okC m s n key ∧ (text.length : Int) = s + n ∧ e1 = 0 ∧ o1 = turnC false m key text := by
        rcases r1 with ⟨a, _⟩ | ⟨_, b, _⟩ | r
        · exact absurd ho a
        · omega
        · exact r
      obtain ⟨_, _, rfl, rfl⟩ : okC m s n key ∧ (text.length : Int) = s + n ∧ e2 = 0 ∧ o2 = turnC true m key text := by
        rcases r2 with ⟨a, _⟩ | ⟨_, b, _⟩ | r
        · exact absurd ho a
        · omega
        · exact r
      have t1 := turnC_len false ho hlt
      have t2 := turnC_len true ho hlt
      refine cond_t (cond_t (cond_eq (fun _ => ?_) fun hh => by omega))
      refine cond_eq (fun _ => ?_) fun hh => by omega
      refine ⟨_, (hC2.fr0 f28).mode, cond_ne (fun _ => h w8 (f02.then f28)) fun h0 => ?_⟩
      have ea : turnC false m key text = text := by unfold turnC; rw [if_pos h0]
      have eb : turnC true m key text = text := by unfold turnC; rw [if_pos h0]
      have g38 := (((f4.then f5).then f6).then f7).then f8
      have g48 := ((f5.then f6).then f7).then f8
      refine SameBytes_c (ha.row.fr0 g38) rfl (h1.fr0 (f02.then f28)) hl1 (by omega) fun w9 f9 => ⟨_, rfl, ?_⟩
      rw [decide_same ea]
      refine cond_t (SameBytes_c (hb.row.fr0 (g48.then f9)) rfl (h1.fr0 ((f02.then f28).then f9)) hl1 (by omega) fun w10 f10 => ⟨_, rfl, ?_⟩)
      rw [decide_same eb]
      exact h w10 (((f02.then f28).then f9).then f10)
  · rw [decide_eq_false ho]
    obtain ⟨_, rfl, rfl⟩ : ¬ okC m s n key ∧ e1 = 19 ∧ o1 = [] := by
      rcases r1 with r | ⟨a, _⟩ | ⟨a, _⟩
      · exact r
      · exact absurd a ho
      · exact absurd a ho
    obtain ⟨_, rfl, rfl⟩ : ¬ okC m s n key ∧ e2 = 19 ∧ o2 = [] := by
      rcases r2 with r | ⟨a, _⟩ | ⟨a, _⟩
      · exact r
      · exact absurd a ho
      · exact absurd a ho
    refine cond_t (cond_t (cond_t ⟨_, (hC2.fr0 f25).ld hk, cfgSize_c hk fun w6 f6 => ⟨_, rfl, ?_⟩⟩))
    rw [if_neg ho]
    exact h w6 (f02.then (f25.then f6))
end Go.Sh
end

section
namespace Go.Sh
open Go Go.Fw Go.Proofs
set_option maxRecDepth 100000
set_option linter.unusedVariables false

theorem ofNat_small {m : Int} (h0 : 0 ≤ m) (h1 : m < 256) : ((UInt8.ofNat m.toNat).toNat : Int) = m := by simp; omega
theorem cfgBytes_read {m s n : Int} {key : List UInt8} (ho : okC m s n key) (hk : key.length = 16) :
    ((fl (cfgBytes m s n key) 0).toNat : Int) = m ∧ ((fl (cfgBytes m s n key) 1).toNat : Int) = s ∧ ((fl (cfgBytes m s n key) 2).toNat : Int) = n ∧ fl (cfgBytes m s n key) 3 = 0 ∧ (cfgBytes m s n key).drop 4 = key ∧ (cfgBytes m s n key).length = 20 := by
  unfold okC at ho
  refine ⟨?_, ?_, ?_, rfl, rfl, by simp [cfgBytes, hk]⟩
  · exact ofNat_small (by omega) (by omega)
  · exact ofNat_small (by omega) (by omega)
  · exact ofNat_small (by omega) (by omega)
theorem cfgBytes_okR {m s n : Int} {key : List UInt8} (ho : okC m s n key) (hk : key.length = 16) : okR (cfgBytes m s n key) := by
  obtain ⟨a, b, c, d, e, f⟩ := cfgBytes_read ho hk
  exact ⟨f, d, by rw [a, b, c, e]; exact ho⟩
theorem okR_bytes {ys : List UInt8} (h : okR ys) : ys = cfgBytes ((fl ys 0).toNat : Int) ((fl ys 1).toNat : Int) ((fl ys 2).toNat : Int) (ys.drop 4) := by
  obtain ⟨h20, h3, _⟩ := h
  have hl : (cfgBytes ((fl ys 0).toNat : Int) ((fl ys 1).toNat : Int) ((fl ys 2).toNat : Int) (ys.drop 4)).length = 20 := by simp [cfgBytes]; omega
  refine fl_ext (by rw [hl, h20]) fun j hj => ?_
  have e : ∀ x : UInt8, UInt8.ofNat ((x.toNat : Int).toNat) = x := fun x => by rw [Int.toNat_natCast]; simp
  unfold cfgBytes
  rw [fl_append]
  by_cases h4 : j < 4
  · rw [if_pos (by simpa using h4)]
    rcases j with _ | _ | _ | _ | j
    · exact (e _).symm
    · exact (e _).symm
    · exact (e _).symm
    · exact h3
    · omega
  · rw [if_neg (by simpa using h4), fl_drop]
    congr 1
    simp only [List.length_cons, List.length_nil]; omega
theorem xor_ne (x y : UInt8) (h : y ≠ 0) : x ^^^ y ≠ x := by
  intro hh
  apply h
  have := congrArg (fun z => x ^^^ z) hh
  simp only [← UInt8.xor_assoc, UInt8.xor_self, UInt8.zero_xor] at this
  exact this
set_option maxHeartbeats 2000000 in
theorem ModeBack_tail {w : World} {m s n : Int} {key text other : List UInt8} {b0 : Nat} {p1 p2 : Option Addr} {l1 c1 l2 c2 : Nat} (ho : okC m s n key) (hk : key.length = 16) (hC : Cfg w b0 m s n key) (h1 : Row w p1 (text.map vb)) (hl1 : l1 = text.length) (hc1 : l1 ≤ c1) (h2 : Row w p2 (other.map vb)) (hl2 : l2 = other.length) (hc2 : l2 ≤ c2)
    {K : Value → World → Prop} (h : ∀ w', Fr [] w w' → K (.bool true) w') : law16_ModeBack_j2 p1 l1 c1 p2 l2 c2 ⟨b0, 0, none⟩ false w K := by
  unfold law16_ModeBack_j2
  refine ⟨_, hC.sid, _, hC.nonce, ?_⟩
  have ho' := ho
  unfold okC at ho'
  rw [wrap64 (by omega) (by omega)]
  refine cond_ne (fun _ => h w (Fr.refl _ _)) fun hlen => cond_ne (fun _ => h w (Fr.refl _ _)) fun hlen2 => ?_
  unfold law16_ModeBack_j1
  have hT : (text.length : Int) = s + n := by omega
  have hO : (other.length : Int) = s + n := by omega
  have no : ¬ okC m s n key → False := fun hn => hn ho
  refine ⟨_, hC.ld hk, Turn_cfg_c hk h1 hl1 hc1 (by omega) (fun hn => absurd ho hn) (fun _ hn => absurd hlen hn) fun _ _ pa da w1 f1 ha => ⟨_, _, _, _, rfl, ?_⟩⟩
  have t1 := turnC_len false ho hT
  have t2 := turnC_len true ho hT
  refine ⟨_, (hC.fr0 f1).ld hk, Back_cfg_c hk ha.row ha.2.1 ha.cap (by omega) (fun hn => absurd ho hn) (fun _ hn => absurd hlen hn) fun _ _ pb db w2 f2 hb => ⟨_, _, _, _, rfl, ?_⟩⟩
  have f12 := f1.then f2
  refine ⟨_, (hC.fr0 f12).ld hk, Back_cfg_c hk (h1.fr0 f12) hl1 hc1 (by omega) (fun hn => absurd ho hn) (fun _ hn => absurd hlen hn) fun _ _ pd dd w3 f3 hd => ⟨_, _, _, _, rfl, ?_⟩⟩
  have f13 := f12.then f3
  refine ⟨_, (hC.fr0 f13).ld hk, Turn_cfg_c hk hd.row hd.2.1 hd.cap (by omega) (fun hn => absurd ho hn) (fun _ hn => absurd hlen hn) fun _ _ pe de w4 f4 he => ⟨_, _, _, _, rfl, ?_⟩⟩
  have f14 := f13.then f4
  refine ⟨_, (hC.fr0 f14).ld hk, Turn_cfg_c hk (h2.fr0 f14) hl2 hc2 (by omega) (fun hn => absurd ho hn) (fun _ hn => absurd (by omega) hn) fun _ _ po do_ w5 f5 ho5 => ⟨_, _, _, _, rfl, ?_⟩⟩
  have f15 := f14.then f5
  rw [turn_back ho hk hT] at hb
  rw [back_turn ho hk hT] at he
  refine cond_t (cond_t (cond_t (cond_t (cond_t ?_))))
  have g25 := (f3.then f4).then f5
  refine SameBytes_c (hb.row.fr0 g25) hl1 (h1.fr0 f15) hl1 (by omega) fun w6 f6 => ⟨_, rfl, ?_⟩
  rw [decide_same rfl]
  refine cond_t (SameBytes_c ((he.row.fr0 f5).fr0 f6) hl1 (h1.fr0 (f15.then f6)) hl1 (by omega) fun w7 f7 => ⟨_, rfl, ?_⟩)
  rw [decide_same rfl]
  have f57 := f6.then f7
  refine cond_t (cond_eq (fun _ => ?_) fun hh => absurd rfl hh)
  refine SameBytes_c (ho5.row.fr0 f57) ho5.2.1 (ha.row.fr0 ((f2.then g25).then f57)) ha.2.1 (by omega) fun w8 f8 => ⟨_, rfl, ?_⟩
  refine SameBytes_c (h2.fr0 ((f15.then f57).then f8)) hl2 (h1.fr0 ((f15.then f57).then f8)) hl1 (by omega) fun w9 f9 => ⟨_, rfl, ?_⟩
  have e : (decide (turnC false m key other = turnC false m key text) == decide (other = text)) = true := by
    rw [beq_iff_eq, decide_eq_decide]
    refine ⟨fun hh => ?_, fun hh => by rw [hh]⟩
    rw [← turn_back ho hk hO, hh, turn_back ho hk hT]
  rw [e]
  exact h w9 (((f15.then f57).then f8).then f9)
set_option maxHeartbeats 2000000 in
theorem ModeBack_c {w : World} {m s n : Int} {key text other : List UInt8} {p1 p2 : Option Addr} {l1 c1 l2 c2 : Nat} (hk : key.length = 16) (h1 : Row w p1 (text.map vb)) (hl1 : l1 = text.length) (hc1 : l1 ≤ c1) (h2 : Row w p2 (other.map vb)) (hl2 : l2 = other.length) (hc2 : l2 ≤ c2) (n3 : Int) (x4 : UInt8)
    {K : Value → World → Prop} (h : ∀ w', Fr [] w w' → K (.bool true) w') : callF Try.prog F_law16_ModeBack #[.agg ⟨cfgV m s n key⟩, .slice p1 l1 c1, .slice p2 l2 c2, .int .i64 n3, .int .u8 (x4.toNat : Int)] w K := by
  apply law16_ModeBack_call
  unfold law16_ModeBack
  refine newCfg hk fun w1 f1 hC s1 => ?_
  refine alive16_c fun w2 f2 => ⟨_, rfl, cond_f ?_⟩
  have f02 := f1.then f2
  have hC2 := hC.fr0 f2
  refine ⟨_, hC2.ld hk, Right_c hk fun w3 f3 => ⟨_, rfl, ?_⟩⟩
  have hC3 := hC2.fr0 f3
  have f03 := f02.then f3
  by_cases ho : okC m s n key
  · rw [decide_eq_true ho]
    refine cond_f ⟨_, hC3.ld hk, cfgBytes_c hk (fun hn => absurd ho hn) fun _ pb db w4 f4 hb => ⟨_, _, _, rfl, ?_⟩⟩
    have f04 := f03.then f4
    obtain ⟨r0, r1, r2, r3, r4, r5⟩ := cfgBytes_read ho hk
    have hok := cfgBytes_okR ho hk
    refine modeRead_c hb.row hb.2.1 hb.cap (by omega) (fun hn => by omega) (fun _ hn => absurd hok hn) fun _ w5 f5 => ⟨_, _, rfl, ?_⟩
    rw [r0, r1, r2, r4]
    refine newZ (s := 19) (by kernel_rfl) fun w6 g6 f6 hB6 s6 => ?_
    obtain ⟨b2, hb2⟩ : ∃ b, b = w5.heap.size := ⟨_, rfl⟩
    rw [← hb2] at hB6 ⊢
    refine stoCfg (m := m) (s := s) (n := n) (key := key) hB6 hk fun w7 f7 hC7 s7 => ?_
    have g57 : Fr [] w5 w7 := f6.st f7 (by omega)
    have g37 := (f4.then f5).then g57
    have hCb := hC3.fr0 g37
    refine ⟨fun w' => Fr [] w7 w', Drw.intro fun w8 f8 s8 => ?_⟩
    refine cond_f ⟨_, ⟨f8, fun w' hw' => (hC7.fr0 hw').ld hk⟩, _, (hCb.fr0 f8).ld hk, .inl rfl, _, _, Ef.neCfg (n := 16) (by kernel_rfl) hk hk, .inl rfl, ?_⟩
    rw [decide_eq_true ⟨rfl, rfl, rfl, rfl⟩]
    refine cond_f ⟨_, ⟨f8, fun w' hw' => (hCb.fr0 hw').ld hk⟩, _, ⟨f8, fun w' hw' => (hCb.fr0 hw').sid⟩, _, ⟨f8, fun w' hw' => (hCb.fr0 hw').nonce⟩, cfgSize_c hk fun w9 f9 => ⟨_, rfl, .inr (f8.then f9), ?_⟩⟩
    have ho' := ho
    unfold okC at ho'
    rw [if_pos ho, wrap64 (n := s + n) (by omega) (by omega), wrap64 (by omega) (by omega)]
    refine cond_ne (fun hne => by omega) fun _ => ?_
    have g39 := (g37.then f8).then f9
    have f09 := f03.then g39
    have hC9 := hC3.fr0 g39
    have hb9 := (((hb.fr0 f5).fr0 g57).fr0 f8).fr0 f9
    have fin : ∀ w', Fr [] w w' → Cfg w' w.heap.size m s n key → law16_ModeBack_j2 p1 l1 c1 p2 l2 c2 ⟨w.heap.size, 0, none⟩ false w' K := fun w' f hC' => ModeBack_tail ho hk hC' (h1.fr0 f) hl1 hc1 (h2.fr0 f) hl2 hc2 fun w'' f' => h w'' (f.then f')
    have fin3 : law16_ModeBack_j3 p1 l1 c1 p2 l2 c2 n3 (x4.toNat : Int) ⟨w.heap.size, 0, none⟩ false pb 20 db false w9 K := by
      unfold law16_ModeBack_j3
      exact cond_f (fin w9 f09 hC9)
    unfold law16_ModeBack_j4
    refine cond_d (fun hn0 => cond_d (fun hn1 => ?_) (fun _ => fin3)) (fun _ => fin3)
    obtain ⟨i, rfl⟩ := Int.eq_ofNat_of_zero_le (show 0 ≤ n3 by omega)
    by_cases hx0 : x4 = 0
    · have : ((x4.toNat : Int) != 0) = false := by rw [hx0]; rfl
      rw [this]
      exact fin3
    have hx1 : ((x4.toNat : Int) != 0) = true := by
      have : x4.toNat ≠ 0 := fun hh => hx0 (by rw [← UInt8.toNat_inj]; exact hh)
      simp; omega
    rw [hx1]
    unfold law16_ModeBack_j3
    refine cond_t ?_
    obtain ⟨a, hix, hca⟩ := hb9.get (k := .i64) (i := i) (by omega)
    refine ⟨a, hix, _, Ld.cell (by kernel_rfl) hca, ?_⟩
    rw [xor8]
    refine hb9.sto (k := .i64) (i := i) (x := fl (cfgBytes m s n key) i ^^^ x4) (by omega) fun w10 f10 hb10 s10 => ?_
    have hpb : ∀ z ∈ blks pb, w3.heap.size ≤ z := hb9.2.2
    have n03 := f03.size
    have f010 : Fr [] w w10 := f09.trans f10 (fun z hz => .inr (by have := hpb z hz; omega))
    have hC10 : Cfg w10 w.heap.size m s n key := hC9.fr f10 (fun hz => by have := hpb _ hz; have := hC3.lt; omega)
    obtain ⟨ys, hys⟩ : ∃ ys, ys = (cfgBytes m s n key).set i (fl (cfgBytes m s n key) i ^^^ x4) := ⟨_, rfl⟩
    rw [← hys] at hb10
    have hyl : ys.length = 20 := by rw [hys, List.length_set]; exact r5
    have hne : ys ≠ cfgBytes m s n key := by
      intro he
      have : fl ys i = fl (cfgBytes m s n key) i := by rw [he]
      rw [hys, fl_set (by omega), if_pos rfl] at this
      exact xor_ne _ _ hx0 this
    by_cases hR : okR ys
    · refine modeRead_c hb10.row hb10.2.1 hb10.cap (by omega) (fun hn => by omega) (fun _ hn => absurd hR hn) fun _ w11 f11 => ⟨_, _, rfl, ?_⟩
      have hk2 : (ys.drop 4).length = 16 := by rw [List.length_drop]; omega
      refine newZ (s := 19) (by kernel_rfl) fun w12 g12 f12 hB12 s12 => ?_
      obtain ⟨b3, hb3⟩ : ∃ b, b = w11.heap.size := ⟨_, rfl⟩
      rw [← hb3] at hB12 ⊢
      refine stoCfg (m := ((fl ys 0).toNat : Int)) (s := ((fl ys 1).toNat : Int)) (n := ((fl ys 2).toNat : Int)) (key := ys.drop 4) hB12 hk2 fun w13 f13 hC13 s13 => ?_
      have g1113 : Fr [] w11 w13 := f12.st f13 (by omega)
      have g1013 := f11.then g1113
      refine cond_t ⟨_, hC13.ld hk2, _, (hC10.fr0 g1013).ld hk, _, _, Ef.eqCfg (n := 16) (by kernel_rfl) hk2 hk, ?_⟩
      have hno : ¬ (((fl ys 0).toNat : Int) = m ∧ ((fl ys 1).toNat : Int) = s ∧ ((fl ys 2).toNat : Int) = n ∧ ys.drop 4 = key) := by
        rintro ⟨e1, e2, e3, e4⟩
        have := okR_bytes hR
        rw [e1, e2, e3, e4] at this
        exact hne this
      rw [decide_eq_false hno]
      refine cond_f (cond_t ⟨_, hC13.ld hk2, Right_c hk2 fun w14 f14 => ⟨_, rfl, ?_⟩⟩)
      rw [decide_eq_true hR.2.2]
      exact cond_f (fin w14 ((f010.then g1013).then f14) (hC10.fr0 (g1013.then f14)))
    · refine modeRead_c hb10.row hb10.2.1 hb10.cap (by omega) (fun hn => by omega) (fun _ _ w11 f11 => ⟨_, _, rfl, ?_⟩) fun hn => absurd hn hR
      refine newZ (s := 19) (by kernel_rfl) fun w12 g12 f12 hB12 s12 => ?_
      obtain ⟨b3, hb3⟩ : ∃ b, b = w11.heap.size := ⟨_, rfl⟩
      rw [← hb3] at hB12 ⊢
      refine stoCfg (m := 0) (s := 0) (n := 0) (key := z16k) hB12 rfl fun w13 f13 hC13 s13 => ?_
      have g1113 : Fr [] w11 w13 := f12.st f13 (by omega)
      have g1013 := f11.then g1113
      exact cond_f (cond_f (fin w13 (f010.then g1013) (hC10.fr0 g1013)))
  · rw [decide_eq_false ho]
    refine cond_t ⟨_, hC3.ld hk, cfgBytes_c hk (fun _ w4 f4 => ⟨_, _, _, rfl, cond_t ?_⟩) fun hn => absurd hn ho⟩
    refine ⟨_, (hC3.fr0 f4).ld hk, cfgSize_c hk fun w5 f5 => ⟨_, rfl, ?_⟩⟩
    rw [if_neg ho]
    exact h w5 (f03.then (f4.then f5))
end Go.Sh
end
