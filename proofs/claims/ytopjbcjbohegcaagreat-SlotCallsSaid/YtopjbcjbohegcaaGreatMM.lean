/- A part of a proof of a given law of this program: lemmas, printed forms of its functions, contracts. It has no conditions of its own. -/
import Derived.Test.YtopjbcjbohegcaaGreatMFw3
import Derived.Test.YtopjbcjbohegcaaGreatMH
import Derived.Test.YtopjbcjbohegcaaGreatMC
import Derived.Test.YtopjbcjbohegcaaGreatMSh4

section
namespace Go.Sh
open Go Go.Fw Go.Proofs
set_option maxRecDepth 100000
set_option linter.unusedVariables false
theorem rowKeep {w w' : World} {p : Option Addr} {xs : List UInt8} {L : List Nat} (h : Row w p (xs.map vb)) (hf : Fr L w w') (hn : 0 < xs.length → ∀ z ∈ blks p, z ∉ L) : Row w' p (xs.map vb) := by
  by_cases hx : xs.length = 0
  · have : xs = [] := List.length_eq_zero_iff.1 hx
    subst this; exact Row.nil _ _
  · exact Row.cells_fr h hf (hn (by omega))
def RdAt (w : World) (b : Nat) (err : Int) (rest : List UInt8) : Prop :=
  ∃ f p c, Blk w b 2 f ∧ f 0 = .int .i64 err ∧ f 1 = .slice p rest.length c ∧ rest.length ≤ c ∧ Row w p (rest.map vb) ∧ (0 < rest.length → ∀ z ∈ blks p, z < b)
theorem RdAt.lt {w : World} {b : Nat} {err : Int} {rest : List UInt8} (h : RdAt w b err rest) : b < w.heap.size := by obtain ⟨f, p, c, hB, _⟩ := h; exact hB.lt
theorem RdAt.fr {w w' : World} {b : Nat} {err : Int} {rest : List UInt8} {L : List Nat} (h : RdAt w b err rest) (hf : Fr L w w') (hL : ∀ z ∈ L, b < z) : RdAt w' b err rest := by
  obtain ⟨f, p, c, hB, h0, h1, hc, hR, hn⟩ := h
  exact ⟨f, p, c, hB.fr hf (fun hb => by have := hL b hb; omega), h0, h1, hc, rowKeep hR hf (fun h0 z hz hz' => by have := hL z hz'; have := hn h0 z hz; omega), hn⟩
theorem RdAt.fr0 {w w' : World} {b : Nat} {err : Int} {rest : List UInt8} (h : RdAt w b err rest) (hf : Fr [] w w') : RdAt w' b err rest := h.fr hf (by simp)
section
variable {w : World} {b : Nat} {err : Int} {rest : List UInt8}
end
end Go.Sh
end

section
namespace Go.Sh
open Go Go.Fw Go.Proofs
set_option maxRecDepth 100000
set_option linter.unusedVariables false
def Cfg (w : World) (b : Nat) (m s n : Int) (key : List UInt8) : Prop := ∃ f, Blk w b 19 f ∧ ∀ j v, (cfgV m s n key)[j]? = some v → f j = v
theorem cfgV_len (m s n : Int) (key : List UInt8) : (cfgV m s n key).length = key.length + 3 := by simp [cfgV]
theorem cfgV_one (m s n : Int) (key : List UInt8) : ∀ v ∈ cfgV m s n key, v.oneCell' = true := by
  intro v hv
  simp only [cfgV, List.mem_cons, List.mem_map] at hv
  rcases hv with rfl | rfl | rfl | ⟨x, _, rfl⟩ <;> rfl
section
variable {w : World} {b : Nat} {m s n : Int} {key : List UInt8}
theorem Cfg.fr {w' : World} {L : List Nat} (h : Cfg w b m s n key) (hf : Fr L w w') (hb : b ∉ L) : Cfg w' b m s n key := by
  obtain ⟨f, hB, hc⟩ := h; exact ⟨f, hB.fr hf hb, hc⟩
theorem Cfg.fr0 {w' : World} (h : Cfg w b m s n key) (hf : Fr [] w w') : Cfg w' b m s n key := h.fr hf (by simp)
theorem Cfg.lt (h : Cfg w b m s n key) : b < w.heap.size := by obtain ⟨f, hB, _⟩ := h; exact hB.lt
theorem newCfg (hk : key.length = 16) {K : Nat → World → Prop} (h : ∀ w', Fr [] w w' → Cfg w' w.heap.size m s n key → w'.heap.size = w.heap.size + 1 → K w.heap.size w') : New ⟨cfgV m s n key⟩ T_mode_Config w K := by
  refine New.intro fun w1 f1 hB s1 => h w1 f1 ⟨fun i => (⟨cfgV m s n key⟩ : Array Value).getD i undef, ?_, fun j v hj => ?_⟩ s1
  · have e : (⟨cfgV m s n key⟩ : Array Value).size = 19 := by show (cfgV m s n key).length = 19; rw [cfgV_len]; omega
    rw [e] at hB; exact hB
  · have hlt := (List.getElem?_eq_some_iff.1 hj).1
    show Array.getD ⟨cfgV m s n key⟩ j undef = v
    rw [Array.getD_eq_getD_getElem?]
    have : (⟨cfgV m s n key⟩ : Array Value)[j]? = some v := by simpa using hj
    rw [this]; rfl
theorem stoCfg {f : Nat → Value} (hB : Blk w b 19 f) (hk : key.length = 16) {K : World → Prop} (h : ∀ w', Fr [b] w w' → Cfg w' b m s n key → w'.heap.size = w.heap.size → K w') : ∃ w', Sto Tryz.prog T_mode_Config (.pointer (some ⟨b, 0, none⟩)) (.agg ⟨cfgV m s n key⟩) w w' ∧ K w' := by
  refine Sto.agg (m := 19) (cs := cfgV m s n key) (by kernel_rfl) (by rw [cfgV_len]; omega) hB (Nat.le_refl 19) (cfgV_one _ _ _ _) fun w' hf hB' hs => h w' hf ⟨_, hB', fun j v hj => ?_⟩ hs
  have hlt := (List.getElem?_eq_some_iff.1 hj).1
  unfold updN
  rw [dif_pos ⟨Nat.zero_le _, by simpa using hlt⟩]
  obtain ⟨h1, h2⟩ := List.getElem?_eq_some_iff.1 hj
  simpa using h2
theorem Cfg.ld (h : Cfg w b m s n key) (hk : key.length = 16) : Ld Tryz.prog T_mode_Config (.pointer (some ⟨b, 0, none⟩)) w (.agg ⟨cfgV m s n key⟩) := by
  obtain ⟨f, hB, hc⟩ := h
  exact LdA (m := 19) (by kernel_rfl) (by kernel_rfl) hB (o := 0) (by omega) _ (by rw [cfgV_len]; omega) (fun j v hj => by rw [Nat.zero_add]; exact hc j v hj)
theorem Cfg.mode (h : Cfg w b m s n key) : Ld Tryz.prog T_int (.pointer (some ((⟨b, 0, none⟩ : Addr).add 0))) w (.int .i64 m) := by
  obtain ⟨f, hB, hc⟩ := h; exact Ld.blk (by kernel_rfl) hB (by omega) (hc 0 _ rfl)
theorem Cfg.sid (h : Cfg w b m s n key) : Ld Tryz.prog T_int (.pointer (some ((⟨b, 0, none⟩ : Addr).add 1))) w (.int .i64 s) := by
  obtain ⟨f, hB, hc⟩ := h; rw [add_mk]; exact Ld.blk (by kernel_rfl) hB (by omega) (hc 1 _ rfl)
theorem Cfg.nonce (h : Cfg w b m s n key) : Ld Tryz.prog T_int (.pointer (some ((⟨b, 0, none⟩ : Addr).add 2))) w (.int .i64 n) := by
  obtain ⟨f, hB, hc⟩ := h; rw [add_mk]; exact Ld.blk (by kernel_rfl) hB (by omega) (hc 2 _ rfl)
theorem Cfg.keyLd (h : Cfg w b m s n key) (hk : key.length = 16) : Ld Tryz.prog T_A16_uint8 (.pointer (some ((⟨b, 0, none⟩ : Addr).add 3))) w (.agg ⟨key.map vb⟩) := by
  obtain ⟨f, hB, hc⟩ := h
  rw [add_mk]
  exact LdA (m := 16) (by kernel_rfl) (by kernel_rfl) hB (o := 0 + 3) (by omega) _ (by rw [List.length_map]; exact hk) (fun j v hj => by rw [Nat.zero_add, Nat.add_comm]; exact hc (j + 3) v hj)
theorem Cfg.keyRow (h : Cfg w b m s n key) (hk : key.length = 16) : Row w (some ⟨b, 3, none⟩) (key.map vb) := by
  obtain ⟨f, hB, hc⟩ := h
  refine .inr ⟨b, 3, rfl, fun j v hj => ?_⟩
  have hlt := (List.getElem?_eq_some_iff.1 hj).1
  rw [List.length_map] at hlt
  rw [hB.cell (by omega), Nat.add_comm, hc (j + 3) v hj]
theorem keySl {K : Option Addr → Nat → Nat → Prop} (h : K (some ⟨b, 3, none⟩) 16 16) : ∃ p l c, Pu Tryz.prog (Instr.sliceAt T_A16_uint8 (.pointer (some ((⟨b, 0, none⟩ : Addr).add 3))) none none none) (.slice p l c) ∧ K p l c := by
  rw [add_mk]
  exact ⟨_, _, _, PuSlA (n := 16) (s := 1) (kl := .i64) (kh := .i64) (lo := none) (hi := none) (by kernel_rfl) (by show (0 : Int) ≤ 0; omega) (by show (0 : Int) ≤ ((16 : Nat) : Int); omega) (by show ((16 : Nat) : Int) ≤ ((16 : Nat) : Int); omega), h⟩
end
def z16k : List UInt8 := List.replicate 16 0
def okC (m s n : Int) (key : List UInt8) : Prop := 0 ≤ m ∧ m ≤ 2 ∧ 1 ≤ s ∧ s ≤ 15 ∧ 4 ≤ n ∧ n ≤ 18 ∧ s + n ≤ 19 ∧ (m = 0 → key = z16k) ∧ (m = 1 → s + n = 16)
instance (m s n : Int) (key : List UInt8) : Decidable (okC m s n key) := by unfold okC; infer_instance
section
variable {w : World} {m s n : Int} {key : List UInt8} {K : Value → World → Prop}
theorem within_c {a x y : Int} (h : K (.bool (decide (x ≤ a ∧ a ≤ y))) w) : callF Tryz.prog F_mode_within #[.int .i64 a, .int .i64 x, .int .i64 y] w K := by
  apply mode_within_call
  unfold mode_within
  refine cond_d (fun h1 => ?_) (fun h1 => ?_)
  · have e : decide (a ≤ y) = decide (x ≤ a ∧ a ≤ y) := by rw [decide_eq_decide]; omega
    rw [e]; exact h
  · rw [decide_eq_false (by omega)] at h; exact h
theorem both_c (hk : key.length = 16) (h : ∀ w', Fr [] w w' → K (.int .i64 (IntKind.i64.wrap (s + n))) w') : callF Tryz.prog F_mode_Config_both #[.agg ⟨cfgV m s n key⟩] w K := by
  apply mode_Config_both_call
  unfold mode_Config_both
  refine newCfg hk fun w1 f1 hC s1 => ⟨_, hC.sid, _, hC.nonce, h w1 f1⟩
theorem Right_c (hk : key.length = 16) (h : ∀ w', Fr [] w w' → K (.bool (decide (okC m s n key))) w') : callF Tryz.prog F_mode_Config_Right #[.agg ⟨cfgV m s n key⟩] w K := by
  apply mode_Config_Right_call
  unfold mode_Config_Right
  have bad : ¬ okC m s n key → ∀ w', Fr [] w w' → K (.bool false) w' := fun hb w' f => by have := h w' f; rwa [decide_eq_false hb] at this
  refine newCfg hk fun w1 f1 hC s1 => ⟨_, hC.mode, within_c ⟨_, rfl, ?_⟩⟩
  refine cond_not (fun h1 => bad (fun hh => by have := of_decide_eq_false h1; unfold okC at hh; omega) w1 f1) (fun h1 => ⟨_, hC.sid, within_c ⟨_, rfl, ?_⟩⟩)
  refine cond_not (fun h2 => bad (fun hh => by have := of_decide_eq_false h2; unfold okC at hh; omega) w1 f1) (fun h2 => ⟨_, hC.nonce, within_c ⟨_, rfl, ?_⟩⟩)
  refine cond_not (fun h3 => bad (fun hh => by have := of_decide_eq_false h3; unfold okC at hh; omega) w1 f1) (fun h3 => ⟨_, hC.ld hk, both_c hk fun w2 f2 => ⟨_, rfl, ?_⟩⟩)
  have h1 := of_decide_eq_true h1; have h2 := of_decide_eq_true h2; have h3 := of_decide_eq_true h3
  have f02 := f1.then f2
  have hC2 := hC.fr0 f2
  rw [wrap64 (by omega) (by omega)]
  refine cond_d (fun h4 => bad (fun hh => by unfold okC at hh; omega) w2 f02) (fun h4 => ?_)
  unfold mode_Config_Right_j1
  refine ⟨_, hC2.mode, cond_eq (fun h5 => ?_) (fun h5 => ?_)⟩
  · refine ⟨_, hC2.keyLd hk, _, _, Ef.eqBytes (n := 16) (ys := z16k) (by kernel_rfl) (by kernel_rfl) hk rfl, ?_⟩
    have e : decide (key = z16k) = decide (okC m s n key) := by
      rw [decide_eq_decide]; unfold okC
      exact ⟨fun hh => ⟨by omega, by omega, by omega, by omega, by omega, by omega, by omega, fun _ => hh, fun _ => by omega⟩, fun hh => hh.2.2.2.2.2.2.2.1 h5⟩
    rw [e]
    exact h w2 f02
  · refine cond_eq (fun h6 => ⟨_, hC2.ld hk, both_c hk fun w3 f3 => ⟨_, rfl, ?_⟩⟩) (fun h6 => ?_)
    · rw [wrap64 (by omega) (by omega)]
      have e : (s + n == 16) = decide (okC m s n key) := by
        rw [Bool.eq_iff_iff, beq_iff_eq, decide_eq_true_iff]; unfold okC
        exact ⟨fun hh => ⟨by omega, by omega, by omega, by omega, by omega, by omega, by omega, fun _ => by omega, fun _ => hh⟩, fun hh => hh.2.2.2.2.2.2.2.2 h6⟩
      rw [e]
      exact h w3 (f02.then f3)
    · have hok : okC m s n key := ⟨by omega, by omega, by omega, by omega, by omega, by omega, by omega, fun _ => by omega, fun _ => by omega⟩
      have := h w2 f02
      rwa [decide_eq_true hok] at this
theorem cfgSize_c (hk : key.length = 16) (h : ∀ w', Fr [] w w' → K (.int .i64 (if okC m s n key then 1 + (s + n) else 0)) w') : callF Tryz.prog F_mode_Config_Size #[.agg ⟨cfgV m s n key⟩] w K := by
  apply mode_Config_Size_call
  unfold mode_Config_Size
  refine newCfg hk fun w1 f1 hC s1 => ⟨_, hC.ld hk, Right_c hk fun w2 f2 => ⟨_, rfl, ?_⟩⟩
  by_cases hok : okC m s n key
  · rw [decide_eq_true hok]
    refine cond_f ⟨_, (hC.fr0 f2).ld hk, both_c hk fun w3 f3 => ⟨_, rfl, ?_⟩⟩
    have := h w3 ((f1.then f2).then f3)
    rw [if_pos hok] at this
    have hok' := hok
    unfold okC at hok'
    rw [wrap64 (n := s + n) (by omega) (by omega), wrap64 (by omega) (by omega)]
    exact this
  · rw [decide_eq_false hok]
    have := h w2 (f1.then f2)
    rw [if_neg hok] at this
    exact cond_t this
end
end Go.Sh
end

section
namespace Go.Sh
open Go Go.Fw Go.Proofs
set_option maxRecDepth 100000
set_option linter.unusedVariables false
section
variable {w : World} {m s n : Int} {key : List UInt8} {K : Value → World → Prop}
def okR (xs : List UInt8) : Prop := xs.length = 20 ∧ fl xs 3 = 0 ∧ okC ((fl xs 0).toNat : Int) ((fl xs 1).toNat : Int) ((fl xs 2).toNat : Int) (xs.drop 4)
end
end Go.Sh
end

section
namespace Go.Sh
open Go Go.Fw Go.Proofs
set_option maxRecDepth 100000
set_option linter.unusedVariables false
def turnC (back : Bool) (m : Int) (key text : List UInt8) : List UInt8 :=
  if m = 0 then text else if m = 1 then (if back then adecL key text else aencL key text) else passesL key text (if back then [4, 3, 2, 1] else [1, 2, 3, 4])
section
variable {w : World} {m s n : Int} {key text : List UInt8} {K : Value → World → Prop}
theorem turnC_len (back : Bool) (hok : okC m s n key) (hl : (text.length : Int) = s + n) : (turnC back m key text).length = text.length := by
  unfold okC at hok
  unfold turnC
  split
  · rfl
  · split
    · cases back
      · rw [if_neg (by decide), aencL_len]; omega
      · rw [if_pos (by decide), adecL_len]; omega
    · rw [passesL_len _ _ _ (by omega) (by omega)]
set_option maxHeartbeats 1000000 in
theorem by_c (back : Bool) (v1 v2 : Value) {p : Option Addr} {l c : Nat} (hk : key.length = 16) (hx : Row w p (text.map vb)) (hl : l = text.length) (hc : l ≤ c) (hlb : l ≤ 1000000)
    (hv1 : ∀ (b : Nat) (w1 : World) (lo hi : Nat) (K' : Value → World → Prop), Cip w1 b key 0 lo hi → l = 16 → Row w1 p (text.map vb) → (∀ k ∈ blks p, k < lo ∨ hi ≤ k) → (∀ q d w', Fr [b] w1 w' → OB w' q l d (if back then adecL key text else aencL key text) w1.heap.size → K' (.tuple #[.slice q l d, .int .i64 0]) w') → callV Tryz.prog v1 [.pointer (some ⟨b, 0, none⟩), .slice p l c] w1 K')
    (hv2 : ∀ (b : Nat) (w1 : World) (lo hi : Nat) (K' : Value → World → Prop), Cip w1 b key 0 lo hi → hi ≤ w1.heap.size → okT l → Row w1 p (text.map vb) → (∀ q d w', Fr [b] w1 w' → OB w' q l d (passesL key text (if back then [4, 3, 2, 1] else [1, 2, 3, 4])) w1.heap.size → K' (.tuple #[.slice q l d, .int .i64 0]) w') → callV Tryz.prog v2 [.pointer (some ⟨b, 0, none⟩), .slice p l c] w1 K')
    (h1v : v1.oneCell' = true) (h2v : v2.oneCell' = true)
    (hstate : ¬ okC m s n key → ∀ w', Fr [] w w' → K (.tuple #[.slice none 0 0, .int .i64 19]) w') (hrange : okC m s n key → (l : Int) ≠ s + n → ∀ w', Fr [] w w' → K (.tuple #[.slice none 0 0, .int .i64 11]) w')
    (hok : okC m s n key → (l : Int) = s + n → ∀ q d w', Fr [] w w' → OB w' q l d (turnC back m key text) w.heap.size → K (.tuple #[.slice q l d, .int .i64 0]) w') :
    callF Tryz.prog F_mode_Config_by #[.agg ⟨cfgV m s n key⟩, .agg #[v1, v2], .slice p l c] w K := by
  apply mode_Config_by_call
  unfold mode_Config_by
  refine newCfg hk fun w1 f1 hC1 s1 => ?_
  refine New.intro fun w2 f2 hB s2 => ?_
  have hB' : Blk w2 w1.heap.size 2 (fun i => (#[v1, v2] : Array Value).getD i undef) := hB
  have f02 := f1.then f2
  refine ⟨_, (hC1.fr0 f2).ld hk, Right_c hk fun w3 f3 => ⟨_, rfl, ?_⟩⟩
  have f03 := f02.then f3
  by_cases ho : okC m s n key
  · rw [decide_eq_true ho]
    refine cond_f ?_
    have hC3 := (hC1.fr0 f2).fr0 f3
    refine ⟨_, hC3.ld hk, both_c hk fun w4 f4 => ⟨_, rfl, ?_⟩⟩
    have f04 := f03.then f4
    have ho' := ho
    unfold okC at ho'
    rw [wrap64 (by omega) (by omega)]
    refine cond_ne (fun hne => hrange ho hne w4 f04) (fun hlen => ?_)
    have hC4 := hC3.fr0 f4
    have hx4 := hx.fr0 f04
    refine ⟨_, hC4.mode, cond_eq (fun h0 => ?_) (fun h0 => ?_)⟩
    · refine rowB1 (byS hx4 hl hc) (by kernel_rfl) fun p1 w5 f5 hR1 s5 => ?_
      have efl : [text].flatten = text := by simp
      refine Join_c (l := 1) hR1 rfl (by rw [efl]; omega) (by omega) fun q d w6 f6 hO6 => ⟨_, _, _, rfl, ?_⟩
      rw [efl, ← hl] at hO6
      rw [efl, ← hl]
      have f05 := f04.then f5
      refine hok ho hlen q d w6 (f05.then f6) ?_
      have e : turnC back m key text = text := by unfold turnC; rw [if_pos h0]
      rw [e]
      exact hO6.mono f05.size
    · unfold mode_Config_by_j1
      refine keySl ?_
      refine newCip_c (hC4.keyRow hk) hk.symm hk (by omega) fun b w5 f5 hCi => ⟨_, _, rfl, ?_⟩
      have f05 := f04.then f5
      have hC5 := hC4.fr0 f5
      have hB5 := ((hB'.fr0 f3).fr0 f4).fr0 f5
      have hcl := hCi.lt
      have n4 := f04.size
      have a0 : (⟨w1.heap.size, 0, none⟩ : Addr).add 0 = ⟨w1.heap.size, 0, none⟩ := rfl
      have a1 : (⟨w1.heap.size, 0, none⟩ : Addr).add 1 = ⟨w1.heap.size, 1, none⟩ := add_mk _ _ _
      rw [a0, a1]
      refine ⟨_, hC5.mode, cond_eq (fun h1 => ?_) (fun h1 => ?_)⟩
      · refine ⟨v1, Ld.blk (by kernel_rfl) hB5 (by omega) rfl, ?_⟩
        refine hv1 b w5 _ _ _ hCi (by have := ho'.2.2.2.2.2.2.2.2 h1; omega) (hx.fr0 f05) (fun k hk' => .inl (by have := Row.blk_lt hx (by omega) k hk'; omega)) fun q d w6 f6 hO6 => ⟨_, _, _, _, rfl, ?_⟩
        refine hok ho hlen q d w6 (f05.st f6 (by omega)) ?_
        have e : turnC back m key text = (if back then adecL key text else aencL key text) := by unfold turnC; rw [if_neg h0, if_pos h1]
        rw [e]
        exact hO6.mono f05.size
      · refine ⟨v2, Ld.blk (by kernel_rfl) hB5 (by omega) rfl, ?_⟩
        refine hv2 b w5 _ _ _ hCi (Nat.le_refl _) ⟨by omega, by omega⟩ (hx.fr0 f05) fun q d w6 f6 hO6 => ⟨_, _, _, _, rfl, ?_⟩
        refine hok ho hlen q d w6 (f05.st f6 (by omega)) ?_
        have e : turnC back m key text = passesL key text (if back then [4, 3, 2, 1] else [1, 2, 3, 4]) := by unfold turnC; rw [if_neg h0, if_neg h1]
        rw [e]
        exact hO6.mono f05.size
  · rw [decide_eq_false ho]
    exact cond_t (hstate ho w3 f03)
theorem Turn_cfg_c {p : Option Addr} {l c : Nat} (hk : key.length = 16) (hx : Row w p (text.map vb)) (hl : l = text.length) (hc : l ≤ c) (hlb : l < 1000000)
    (hstate : ¬ okC m s n key → ∀ w', Fr [] w w' → K (.tuple #[.slice none 0 0, .int .i64 19]) w') (hrange : okC m s n key → (l : Int) ≠ s + n → ∀ w', Fr [] w w' → K (.tuple #[.slice none 0 0, .int .i64 11]) w')
    (hok : okC m s n key → (l : Int) = s + n → ∀ q d w', Fr [] w w' → OB w' q l d (turnC false m key text) w.heap.size → K (.tuple #[.slice q l d, .int .i64 0]) w') :
    callF Tryz.prog F_mode_Config_Turn #[.agg ⟨cfgV m s n key⟩, .slice p l c] w K := by
  apply mode_Config_Turn_call
  unfold mode_Config_Turn
  refine newCfg hk fun w1 f1 hC1 s1 => ⟨_, hC1.ld hk, ?_⟩
  have n1 := f1.size
  refine by_c false _ _ hk (hx.fr0 f1) hl hc (by omega) ?_ ?_ rfl rfl (fun h w' f => ⟨_, _, _, _, rfl, hstate h w' (f1.then f)⟩) (fun h h' w' f => ⟨_, _, _, _, rfl, hrange h h' w' (f1.then f)⟩) fun h h' q d w' f hO => ⟨_, _, _, _, rfl, hok h h' q d w' (f1.then f) (hO.mono n1)⟩
  · intro b w2 lo hi K' hCi h16 hx2 hsep hK
    refine callV_in (show callF Tryz.prog F_aes_Cipher_Encrypt #[.pointer (some ⟨b, 0, none⟩), .slice p l c] w2 K' from ?_)
    refine encCip_c hCi (by omega) (by omega) hx2 hl (by omega) hsep fun p' w3 f3 hC3 hO3 => ?_
    subst h16
    exact hK p' 16 w3 f3 hO3
  · intro b w2 lo hi K' hCi hhi hT hx2 hK
    refine callV_in (show callF Tryz.prog F_feist_Mix #[.pointer (some ⟨b, 0, none⟩), .slice p l c] w2 K' from ?_)
    refine Mix_c hCi (by omega) (by omega) hhi hx2 hl hc hlb (fun hb => absurd hT hb) fun _ q d w3 f3 hC3 hO3 => hK q d w3 f3 hO3
theorem Back_cfg_c {p : Option Addr} {l c : Nat} (hk : key.length = 16) (hx : Row w p (text.map vb)) (hl : l = text.length) (hc : l ≤ c) (hlb : l < 1000000)
    (hstate : ¬ okC m s n key → ∀ w', Fr [] w w' → K (.tuple #[.slice none 0 0, .int .i64 19]) w') (hrange : okC m s n key → (l : Int) ≠ s + n → ∀ w', Fr [] w w' → K (.tuple #[.slice none 0 0, .int .i64 11]) w')
    (hok : okC m s n key → (l : Int) = s + n → ∀ q d w', Fr [] w w' → OB w' q l d (turnC true m key text) w.heap.size → K (.tuple #[.slice q l d, .int .i64 0]) w') :
    callF Tryz.prog F_mode_Config_Back #[.agg ⟨cfgV m s n key⟩, .slice p l c] w K := by
  apply mode_Config_Back_call
  unfold mode_Config_Back
  refine newCfg hk fun w1 f1 hC1 s1 => ⟨_, hC1.ld hk, ?_⟩
  have n1 := f1.size
  refine by_c true _ _ hk (hx.fr0 f1) hl hc (by omega) ?_ ?_ rfl rfl (fun h w' f => ⟨_, _, _, _, rfl, hstate h w' (f1.then f)⟩) (fun h h' w' f => ⟨_, _, _, _, rfl, hrange h h' w' (f1.then f)⟩) fun h h' q d w' f hO => ⟨_, _, _, _, rfl, hok h h' q d w' (f1.then f) (hO.mono n1)⟩
  · intro b w2 lo hi K' hCi h16 hx2 hsep hK
    refine callV_in (show callF Tryz.prog F_aes_Cipher_Decrypt #[.pointer (some ⟨b, 0, none⟩), .slice p l c] w2 K' from ?_)
    refine decCip_c hCi (by omega) (by omega) hx2 hl (by omega) hsep fun p' w3 f3 hC3 hO3 => ?_
    subst h16
    exact hK p' 16 w3 f3 hO3
  · intro b w2 lo hi K' hCi hhi hT hx2 hK
    refine callV_in (show callF Tryz.prog F_feist_Unmix #[.pointer (some ⟨b, 0, none⟩), .slice p l c] w2 K' from ?_)
    refine Unmix_c hCi (by omega) (by omega) hhi hx2 hl hc hlb (fun hb => absurd hT hb) fun _ q d w3 f3 hC3 hO3 => hK q d w3 f3 hO3
end
end Go.Sh
end
