/- A part of a proof of a given law of this program: lemmas, printed forms of its functions, contracts. It has no conditions of its own. -/
import Derived.Test.YtlphgbgfnjhhcaaGreatMH
import Derived.Test.YtlphgbgfnjhhcaaGreatMC
import Derived.Test.YtlphgbgfnjhhcaaGreatMSh4
import Derived.Test.YtlphgbgfnjhhcaaGreatMFw3

section
namespace Go.Sh
open Go Go.Fw Go.Proofs
set_option maxRecDepth 100000
set_option linter.unusedVariables false
theorem rowKeep {w w' : World} {p : Option Addr} {xs : List UInt8} {L : List Nat} (h : Row w p (xs.map vb)) (hf : Fr L w w') (hn : 0 < xs.length → ∀ z ∈ blks p, z ∉ L) : Row w' p (xs.map vb) := by
  by_cases hx : xs.length = 0
  · have : xs = [] := List.length_eq_zero_iff.1 hx
    subst this; exact Row.nil _ _
  · exact Row.cells_fr h hf (hn (by omega))
theorem _root_.Go.Fw.Fr.st {a b c : World} {k : Nat} (h : Fr [] a b) (f : Fr [k] b c) (hk : a.heap.size ≤ k) : Fr [] a c := h.trans f (fun z hz => .inr (by simp at hz; omega))
def RdAt (w : World) (b : Nat) (err : Int) (rest : List UInt8) : Prop :=
  ∃ f p c, Blk w b 2 f ∧ f 0 = .int .i64 err ∧ f 1 = .slice p rest.length c ∧ rest.length ≤ c ∧ Row w p (rest.map vb) ∧ (0 < rest.length → ∀ z ∈ blks p, z < b)
theorem RdAt.lt {w : World} {b : Nat} {err : Int} {rest : List UInt8} (h : RdAt w b err rest) : b < w.heap.size := by obtain ⟨f, p, c, hB, _⟩ := h; exact hB.lt
theorem RdAt.fr {w w' : World} {b : Nat} {err : Int} {rest : List UInt8} {L : List Nat} (h : RdAt w b err rest) (hf : Fr L w w') (hL : ∀ z ∈ L, b < z) : RdAt w' b err rest := by
  obtain ⟨f, p, c, hB, h0, h1, hc, hR, hn⟩ := h
  exact ⟨f, p, c, hB.fr hf (fun hb => by have := hL b hb; omega), h0, h1, hc, rowKeep hR hf (fun h0 z hz hz' => by have := hL z hz'; have := hn h0 z hz; omega), hn⟩
theorem RdAt.fr0 {w w' : World} {b : Nat} {err : Int} {rest : List UInt8} (h : RdAt w b err rest) (hf : Fr [] w w') : RdAt w' b err rest := h.fr hf (by simp)
section
variable {w : World} {b : Nat} {err : Int} {rest : List UInt8}
theorem fail_c {f : Nat → Value} {n : Nat} (hB : Blk w b n f) (hn : 0 < n) (h0 : f 0 = .int .i64 err) (e : Int) {K : Value → World → Prop}
    (hk : ∀ w' f', Fr [b] w w' → Blk w' b n f' → f' 0 = .int .i64 (if err = 0 then e else err) → (∀ j, 0 < j → f' j = f j) → w'.heap.size = w.heap.size → K (.bool (decide ((if err = 0 then e else err) ≠ 0))) w') :
    callF Tryz.prog F_scan_fault_fail #[.pointer (some ⟨b, 0, none⟩), .int .i64 e] w K := by
  apply scan_fault_fail_call
  unfold scan_fault_fail
  have a0 : (⟨b, 0, none⟩ : Addr).add 0 = ⟨b, 0, none⟩ := rfl
  refine ⟨_, rfl, _, Ld.blk (by kernel_rfl) hB hn h0, ?_⟩
  have fin : ∀ (w' : World) (f' : Nat → Value) (r : Int), Fr [b] w w' → Blk w' b n f' → f' 0 = .int .i64 r → r = (if err = 0 then e else err) → (∀ j, 0 < j → f' j = f j) → w'.heap.size = w.heap.size → scan_fault_fail_j1 (some ⟨b, 0, none⟩) false w' K := by
    intro w' f' r hf hB' hr he hj hs
    unfold scan_fault_fail_j1
    refine ⟨_, rfl, _, Ld.blk (by kernel_rfl) hB' hn hr, ?_⟩
    have e1 : (r != 0) = decide ((if err = 0 then e else err) ≠ 0) := by rw [← he, Bool.eq_iff_iff]; simp
    rw [e1]
    exact hk w' f' hf hB' (by rw [hr, he]) hj hs
  refine cond_eq (fun h => ?_) (fun h => ?_)
  · refine ⟨_, rfl, ?_⟩
    refine Sto.blk (by kernel_rfl) hB hn rfl rfl fun w' hf hB' hs => ?_
    refine fin w' _ e hf hB' ?_ (by rw [if_pos h]) (fun j hj => ?_) hs
    · unfold upd; rw [if_pos rfl]
    · unfold upd; rw [if_neg (by omega)]
  · exact fin w f err (Fr.refl _ _) hB h0 (by rw [if_neg h]) (fun _ _ => rfl) rfl
theorem check_c {f : Nat → Value} {p : Option Addr} {l c : Nat} (hB : Blk w b 2 f) (h1 : f 1 = .slice p l c) (n most : Int) {K : Value → World → Prop}
    (hk : K (.int .i64 (if n < 0 ∨ n > most then 11 else if n > l then 12 else 0)) w) : callF Tryz.prog F_scan_Reader_check #[.pointer (some ⟨b, 0, none⟩), .int .i64 n, .int .i64 most] w K := by
  apply scan_Reader_check_call
  unfold scan_Reader_check
  have a1 : (⟨b, 0, none⟩ : Addr).add 1 = ⟨b, 1, none⟩ := add_mk _ _ _
  have tail : ∀ bb : Bool, (bb = true ↔ (n < 0 ∨ n > most)) → scan_Reader_check_j1 (some ⟨b, 0, none⟩) n 0 bb w K := by
    intro bb hbb
    unfold scan_Reader_check_j1
    refine cond_intro (fun hb => ?_) (fun hb => ?_)
    · rw [if_pos (hbb.1 hb)] at hk; exact hk
    · have hno : ¬ (n < 0 ∨ n > most) := fun h => by rw [hbb.2 h] at hb; cases hb
      rw [if_neg hno] at hk
      refine ⟨_, rfl, ?_⟩
      rw [a1]
      refine ⟨_, _, _, Ld.blk (by kernel_rfl) hB (by omega) h1, cond_d (fun h => ?_) (fun h => ?_)⟩
      · rw [if_pos h] at hk; exact hk
      · rw [if_neg h] at hk; exact hk
  refine cond_d (fun h => tail true (by simp [h])) (fun h => tail _ (by simp [h]))
theorem cut_c (hR : RdAt w b err rest) (n : Nat) (hn : n ≤ rest.length) (hlb : rest.length ≤ 1000000) {K : Value → World → Prop}
    (hk : ∀ q d w', Fr [b] w w' → RdAt w' b err (rest.drop n) → OB w' q n d (rest.take n) w.heap.size → K (.slice q n d) w') : callF Tryz.prog F_scan_Reader_cut #[.pointer (some ⟨b, 0, none⟩), .int .i64 (n : Int)] w K := by
  obtain ⟨f, p, c, hB, h0, h1, hc, hRow, hnb⟩ := hR
  apply scan_Reader_cut_call
  unfold scan_Reader_cut
  have a1 : (⟨b, 0, none⟩ : Addr).add 1 = ⟨b, 1, none⟩ := add_mk _ _ _
  refine ⟨_, rfl, ?_⟩
  rw [a1]
  refine ⟨_, _, _, Ld.blk (by kernel_rfl) hB (by omega) h1, ?_⟩
  refine slTo hRow rfl hn hc fun q d hq hql hqd hqb => ?_
  refine slices_Clone_c hq (by simpa using hql) (by omega) (cells_vb _) fun q2 d2 w1 f1 hO hnew => ⟨_, _, _, rfl, _, rfl, ?_⟩
  rw [a1]
  have hB1 := hB.fr0 f1
  refine ⟨_, _, _, Ld.blk (by kernel_rfl) hB1 (by omega) h1, ?_⟩
  refine slFrom (hRow.fr0 f1) rfl hn hc fun q3 d3 hq3 hq3l hq3d hq3b => ⟨_, rfl, ?_⟩
  rw [a1]
  have hlt := hB.lt
  refine Sto.blk (by kernel_rfl) hB1 (by omega) rfl rfl fun w2 f2 hB2 s2 => ?_
  have hsep : 0 < rest.length → ∀ z ∈ blks q3, z ∉ [b] := fun h z hz hz' => by
    simp at hz'; subst hz'; have := hnb h _ (hq3b _ hz); omega
  refine hk q2 d2 w2 (f1.after f2) ⟨_, q3, d3, hB2, ?_, ?_, by omega, rowKeep hq3 f2 (fun h => hsep (by rw [List.length_drop] at h; omega)), fun h z hz => hnb (by rw [List.length_drop] at h; omega) z (hq3b z hz)⟩ ?_
  · unfold upd; rw [if_neg (by omega)]; exact h0
  · unfold upd; rw [if_pos rfl, hq3l]
  · have hOB : OB w1 q2 n d2 (rest.take n) w.heap.size := ⟨hO, hql, hnew⟩
    exact hOB.fr_sep f2 hlt
theorem rdNum_c (hR : RdAt w b err rest) (n : Nat) (h8 : n ≤ 8) (hlb : rest.length ≤ 1000000) {K : Value → World → Prop}
    (hbad : (err ≠ 0 ∨ rest.length < n) → ∀ w', Fr [b] w w' → RdAt w' b (if err = 0 then 12 else err) rest → K (.int .u64 0) w')
    (hok : err = 0 → n ≤ rest.length → ∀ w', Fr [b] w w' → RdAt w' b 0 (rest.drop n) → K (.int .u64 (numL (rest.take n) : Int)) w') :
    callF Tryz.prog F_scan_Reader_Num #[.pointer (some ⟨b, 0, none⟩), .int .i64 (n : Int)] w K := by
  have hR0 := hR
  obtain ⟨f, p, c, hB, h0, h1, hc, hRow, hnb⟩ := hR
  apply scan_Reader_Num_call
  unfold scan_Reader_Num
  refine Drw.intro fun w1 f1 s1 => ⟨_, rfl, ?_⟩
  have hB1 := hB.fr0 f1
  refine check_c hB1 h1 n 8 ⟨_, rfl, ?_⟩
  have a0 : (⟨b, 0, none⟩ : Addr).add 0 = ⟨b, 0, none⟩ := rfl
  rw [a0, if_neg (by omega)]
  refine fail_c hB1 (by omega) h0 _ fun w2 f' f2 hB2 h0' hj s2 => ⟨_, rfl, ?_⟩
  have hlt := hB.lt
  have f02 := f1.after f2
  have hR2 : ∀ e, f' 0 = .int .i64 e → RdAt w2 b e rest := fun e he => ⟨f', p, c, hB2, he, by rw [hj 1 (by omega)]; exact h1, hc, rowKeep (hRow.fr0 f1) f2 (fun h z hz hz' => by simp at hz'; subst hz'; have := hnb h _ hz; omega), hnb⟩
  by_cases he : err = 0
  · subst he
    rw [if_pos rfl] at h0' ⊢
    by_cases hl : (n : Int) > (rest.length : Int)
    · rw [if_pos hl] at h0' ⊢
      exact cond_t (hbad (.inr (by omega)) w2 f02 (hR2 12 h0'))
    · rw [if_neg hl] at h0' ⊢
      refine cond_f (cut_c (hR2 0 h0') n (by omega) hlb fun q d w3 f3 hR3 hO3 => ⟨_, _, _, rfl, ?_⟩)
      refine Num_c hO3.row hO3.2.1 h8 ⟨_, _, rfl, ?_⟩
      exact hok rfl (by omega) w3 (f02.trans f3 (fun z hz => .inl hz)) hR3
  · rw [if_neg he] at h0' ⊢
    rw [decide_eq_true he]
    refine cond_t (hbad (.inl he) w2 f02 ?_)
    rw [if_neg he]
    exact hR2 err h0'
end
end Go.Sh
end

section
namespace Go.Sh
open Go Go.Fw Go.Proofs
set_option maxRecDepth 100000
set_option linter.unusedVariables false
theorem PuMax {n m : Int} : Pu Tryz.prog (Builtin.max_ #[T_int, T_int] T_int #[.int .i64 n, .int .i64 m]) (.int .i64 (max n m)) := by
  have e : Pu Tryz.prog (Builtin.max_ #[T_int, T_int] T_int #[.int .i64 n, .int .i64 m]) (.int .i64 (if m > n then m else n)) := by unfold Pu; kernel_rfl
  have : (if m > n then m else n) = max n m := by split <;> omega
  rwa [this] at e
theorem scanRead_c {w : World} {p : Option Addr} {l c : Nat} {xs : List UInt8} (hR : Row w p (xs.map vb)) (hl : l = xs.length) (hc : l ≤ c) {K : Value → World → Prop}
    (h : ∀ w', Fr [] w w' → RdAt w' w.heap.size 0 xs → w'.heap.size = w.heap.size + 1 → K (.pointer (some ⟨w.heap.size, 0, none⟩)) w') : callF Tryz.prog F_scan_Read #[.slice p l c] w K := by
  apply scan_Read_call
  unfold scan_Read
  refine New.intro fun w1 f1 hB s1 => h w1 f1 ⟨_, p, c, hB, rfl, ?_, by omega, hR.fr0 f1, fun h0 z hz => Row.blk_lt hR h0 _ hz⟩ s1
  rw [← hl]; rfl
section
variable {w : World} {b : Nat} {err : Int} {rest : List UInt8}
theorem rdBytes_c (hR : RdAt w b err rest) (n : Nat) (hlb : rest.length ≤ 1000000) {K : Value → World → Prop}
    (hbad : (err ≠ 0 ∨ rest.length < n) → ∀ w', Fr [b] w w' → RdAt w' b (if err = 0 then 12 else err) rest → K (.slice none 0 0) w')
    (hok : err = 0 → n ≤ rest.length → ∀ q d w', Fr [b] w w' → RdAt w' b 0 (rest.drop n) → OB w' q n d (rest.take n) w.heap.size → K (.slice q n d) w') :
    callF Tryz.prog F_scan_Reader_Bytes #[.pointer (some ⟨b, 0, none⟩), .int .i64 (n : Int)] w K := by
  obtain ⟨f, p, c, hB, h0, h1, hc, hRow, hnb⟩ := hR
  apply scan_Reader_Bytes_call
  unfold scan_Reader_Bytes
  refine Drw.intro fun w1 f1 s1 => ⟨_, rfl, _, PuMax, ?_⟩
  have hB1 := hB.fr0 f1
  have em : max (n : Int) 0 = (n : Int) := by omega
  rw [em]
  refine check_c hB1 h1 n n ⟨_, rfl, ?_⟩
  have a0 : (⟨b, 0, none⟩ : Addr).add 0 = ⟨b, 0, none⟩ := rfl
  rw [a0, if_neg (by omega)]
  refine fail_c hB1 (by omega) h0 _ fun w2 f' f2 hB2 h0' hj s2 => ⟨_, rfl, ?_⟩
  have hlt := hB.lt
  have f02 := f1.after f2
  have hR2 : ∀ e, f' 0 = .int .i64 e → RdAt w2 b e rest := fun e he => ⟨f', p, c, hB2, he, by rw [hj 1 (by omega)]; exact h1, hc, rowKeep (hRow.fr0 f1) f2 (fun h z hz hz' => by simp at hz'; subst hz'; have := hnb h _ hz; omega), hnb⟩
  by_cases he : err = 0
  · subst he
    rw [if_pos rfl] at h0' ⊢
    by_cases hl : (n : Int) > (rest.length : Int)
    · rw [if_pos hl] at h0' ⊢
      exact cond_t (hbad (.inr (by omega)) w2 f02 (hR2 12 h0'))
    · rw [if_neg hl] at h0' ⊢
      refine cond_f (cut_c (hR2 0 h0') n (by omega) hlb fun q d w3 f3 hR3 hO3 => ⟨_, _, _, rfl, ?_⟩)
      exact hok rfl (by omega) q d w3 (f02.trans f3 (fun z hz => .inl hz)) hR3 (hO3.mono f02.size)
  · rw [if_neg he] at h0' ⊢
    rw [decide_eq_true he]
    refine cond_t (hbad (.inl he) w2 f02 ?_)
    rw [if_neg he]
    exact hR2 err h0'
theorem rdEnd_c (hR : RdAt w b err rest) {K : Value → World → Prop}
    (hk : ∀ w', Fr [b] w w' → RdAt w' b (if err = 0 then (if rest.length = 0 then 0 else 10) else err) rest → K (.int .i64 (if err = 0 then (if rest.length = 0 then 0 else 10) else err)) w') :
    callF Tryz.prog F_scan_Reader_End #[.pointer (some ⟨b, 0, none⟩)] w K := by
  obtain ⟨f, p, c, hB, h0, h1, hc, hRow, hnb⟩ := hR
  apply scan_Reader_End_call
  unfold scan_Reader_End
  have a1 : (⟨b, 0, none⟩ : Addr).add 1 = ⟨b, 1, none⟩ := add_mk _ _ _
  have a0 : (⟨b, 0, none⟩ : Addr).add 0 = ⟨b, 0, none⟩ := rfl
  refine ⟨_, rfl, ?_⟩
  rw [a1]
  refine ⟨_, _, _, Ld.blk (by kernel_rfl) hB (by omega) h1, cond_d (fun h => ?_) (fun h => ?_)⟩
  · refine ⟨_, rfl, ?_⟩
    rw [a0]
    refine fail_c hB (by omega) h0 _ fun w2 f' f2 hB2 h0' hj s2 => ⟨_, rfl, ?_⟩
    unfold scan_Reader_End_j1
    refine ⟨_, rfl, ?_⟩
    rw [a0, a0]
    refine ⟨_, Ld.blk (by kernel_rfl) hB2 (by omega) h0', ?_⟩
    have e : (if err = 0 then (if rest.length = 0 then 0 else 10) else err) = (if err = 0 then 10 else err) := by rw [if_neg (show ¬ rest.length = 0 by omega)]
    rw [e] at hk
    exact hk w2 f2 ⟨f', p, c, hB2, h0', by rw [hj 1 (by omega)]; exact h1, hc, rowKeep hRow f2 (fun h z hz hz' => by simp at hz'; subst hz'; have := hnb h _ hz; omega), hnb⟩
  · unfold scan_Reader_End_j1
    refine ⟨_, rfl, ?_⟩
    rw [a0, a0]
    have e : (if err = 0 then (if rest.length = 0 then 0 else 10) else err) = err := by
      rw [if_pos (show rest.length = 0 by omega)]
      by_cases h : err = 0
      · rw [if_pos h, h]
      · rw [if_neg h]
    rw [e] at hk
    exact ⟨_, Ld.blk (by kernel_rfl) hB (by omega) h0, hk w (Fr.refl _ _) ⟨f, p, c, hB, h0, h1, hc, hRow, hnb⟩⟩
end
end Go.Sh
end

section
namespace Go.Sh
open Go Go.Fw Go.Proofs
set_option maxRecDepth 100000
set_option linter.unusedVariables false
def Cfg (w : World) (b : Nat) (m s n : Int) (key : List UInt8) : Prop := ∃ f, Blk w b 19 f ∧ ∀ j v, (cfgV m s n key)[j]? = some v → f j = v
theorem cfgV_len (m s n : Int) (key : List UInt8) : (cfgV m s n key).length = key.length + 3 := by simp [cfgV]
theorem cfgV_one (m s n : Int) (key : List UInt8) : ∀ v ∈ cfgV m s n key, v.oneCell' = true := by
  intro v hv
  simp only [cfgV, List.mem_cons, List.mem_map] at hv
  rcases hv with rfl | rfl | rfl | ⟨x, _, rfl⟩ <;> rfl
section
variable {w : World} {b : Nat} {m s n : Int} {key : List UInt8}
theorem Cfg.fr {w' : World} {L : List Nat} (h : Cfg w b m s n key) (hf : Fr L w w') (hb : b ∉ L) : Cfg w' b m s n key := by
  obtain ⟨f, hB, hc⟩ := h; exact ⟨f, hB.fr hf hb, hc⟩
theorem Cfg.fr0 {w' : World} (h : Cfg w b m s n key) (hf : Fr [] w w') : Cfg w' b m s n key := h.fr hf (by simp)
theorem Cfg.lt (h : Cfg w b m s n key) : b < w.heap.size := by obtain ⟨f, hB, _⟩ := h; exact hB.lt
theorem newCfg (hk : key.length = 16) {K : Nat → World → Prop} (h : ∀ w', Fr [] w w' → Cfg w' w.heap.size m s n key → w'.heap.size = w.heap.size + 1 → K w.heap.size w') : New ⟨cfgV m s n key⟩ T_mode_Config w K := by
  refine New.intro fun w1 f1 hB s1 => h w1 f1 ⟨fun i => (⟨cfgV m s n key⟩ : Array Value).getD i undef, ?_, fun j v hj => ?_⟩ s1
  · have e : (⟨cfgV m s n key⟩ : Array Value).size = 19 := by show (cfgV m s n key).length = 19; rw [cfgV_len]; omega
    rw [e] at hB; exact hB
  · have hlt := (List.getElem?_eq_some_iff.1 hj).1
    show Array.getD ⟨cfgV m s n key⟩ j undef = v
    rw [Array.getD_eq_getD_getElem?]
    have : (⟨cfgV m s n key⟩ : Array Value)[j]? = some v := by simpa using hj
    rw [this]; rfl
theorem stoCfg {f : Nat → Value} (hB : Blk w b 19 f) (hk : key.length = 16) {K : World → Prop} (h : ∀ w', Fr [b] w w' → Cfg w' b m s n key → w'.heap.size = w.heap.size → K w') : ∃ w', Sto Tryz.prog T_mode_Config (.pointer (some ⟨b, 0, none⟩)) (.agg ⟨cfgV m s n key⟩) w w' ∧ K w' := by
  refine Sto.agg (m := 19) (cs := cfgV m s n key) (by kernel_rfl) (by rw [cfgV_len]; omega) hB (Nat.le_refl 19) (cfgV_one _ _ _ _) fun w' hf hB' hs => h w' hf ⟨_, hB', fun j v hj => ?_⟩ hs
  have hlt := (List.getElem?_eq_some_iff.1 hj).1
  unfold updN
  rw [dif_pos ⟨Nat.zero_le _, by simpa using hlt⟩]
  obtain ⟨h1, h2⟩ := List.getElem?_eq_some_iff.1 hj
  simpa using h2
theorem Cfg.ld (h : Cfg w b m s n key) (hk : key.length = 16) : Ld Tryz.prog T_mode_Config (.pointer (some ⟨b, 0, none⟩)) w (.agg ⟨cfgV m s n key⟩) := by
  obtain ⟨f, hB, hc⟩ := h
  exact LdA (m := 19) (by kernel_rfl) (by kernel_rfl) hB (o := 0) (by omega) _ (by rw [cfgV_len]; omega) (fun j v hj => by rw [Nat.zero_add]; exact hc j v hj)
theorem Cfg.mode (h : Cfg w b m s n key) : Ld Tryz.prog T_int (.pointer (some ((⟨b, 0, none⟩ : Addr).add 0))) w (.int .i64 m) := by
  obtain ⟨f, hB, hc⟩ := h; exact Ld.blk (by kernel_rfl) hB (by omega) (hc 0 _ rfl)
theorem Cfg.sid (h : Cfg w b m s n key) : Ld Tryz.prog T_int (.pointer (some ((⟨b, 0, none⟩ : Addr).add 1))) w (.int .i64 s) := by
  obtain ⟨f, hB, hc⟩ := h; rw [add_mk]; exact Ld.blk (by kernel_rfl) hB (by omega) (hc 1 _ rfl)
theorem Cfg.nonce (h : Cfg w b m s n key) : Ld Tryz.prog T_int (.pointer (some ((⟨b, 0, none⟩ : Addr).add 2))) w (.int .i64 n) := by
  obtain ⟨f, hB, hc⟩ := h; rw [add_mk]; exact Ld.blk (by kernel_rfl) hB (by omega) (hc 2 _ rfl)
theorem Cfg.keyLd (h : Cfg w b m s n key) (hk : key.length = 16) : Ld Tryz.prog T_A16_uint8 (.pointer (some ((⟨b, 0, none⟩ : Addr).add 3))) w (.agg ⟨key.map vb⟩) := by
  obtain ⟨f, hB, hc⟩ := h
  rw [add_mk]
  exact LdA (m := 16) (by kernel_rfl) (by kernel_rfl) hB (o := 0 + 3) (by omega) _ (by rw [List.length_map]; exact hk) (fun j v hj => by rw [Nat.zero_add, Nat.add_comm]; exact hc (j + 3) v hj)
theorem Cfg.keyRow (h : Cfg w b m s n key) (hk : key.length = 16) : Row w (some ⟨b, 3, none⟩) (key.map vb) := by
  obtain ⟨f, hB, hc⟩ := h
  refine .inr ⟨b, 3, rfl, fun j v hj => ?_⟩
  have hlt := (List.getElem?_eq_some_iff.1 hj).1
  rw [List.length_map] at hlt
  rw [hB.cell (by omega), Nat.add_comm, hc (j + 3) v hj]
theorem keySl {K : Option Addr → Nat → Nat → Prop} (h : K (some ⟨b, 3, none⟩) 16 16) : ∃ p l c, Pu Tryz.prog (Instr.sliceAt T_A16_uint8 (.pointer (some ((⟨b, 0, none⟩ : Addr).add 3))) none none none) (.slice p l c) ∧ K p l c := by
  rw [add_mk]
  exact ⟨_, _, _, PuSlA (n := 16) (s := 1) (kl := .i64) (kh := .i64) (lo := none) (hi := none) (by kernel_rfl) (by show (0 : Int) ≤ 0; omega) (by show (0 : Int) ≤ ((16 : Nat) : Int); omega) (by show ((16 : Nat) : Int) ≤ ((16 : Nat) : Int); omega), h⟩
end
def z16k : List UInt8 := List.replicate 16 0
def okC (m s n : Int) (key : List UInt8) : Prop := 0 ≤ m ∧ m ≤ 2 ∧ 1 ≤ s ∧ s ≤ 15 ∧ 4 ≤ n ∧ n ≤ 18 ∧ s + n ≤ 19 ∧ (m = 0 → key = z16k) ∧ (m = 1 → s + n = 16)
instance (m s n : Int) (key : List UInt8) : Decidable (okC m s n key) := by unfold okC; infer_instance
section
variable {w : World} {m s n : Int} {key : List UInt8} {K : Value → World → Prop}
theorem within_c {a x y : Int} (h : K (.bool (decide (x ≤ a ∧ a ≤ y))) w) : callF Tryz.prog F_mode_within #[.int .i64 a, .int .i64 x, .int .i64 y] w K := by
  apply mode_within_call
  unfold mode_within
  refine cond_d (fun h1 => ?_) (fun h1 => ?_)
  · have e : decide (a ≤ y) = decide (x ≤ a ∧ a ≤ y) := by rw [decide_eq_decide]; omega
    rw [e]; exact h
  · rw [decide_eq_false (by omega)] at h; exact h
theorem both_c (hk : key.length = 16) (h : ∀ w', Fr [] w w' → K (.int .i64 (IntKind.i64.wrap (s + n))) w') : callF Tryz.prog F_mode_Config_both #[.agg ⟨cfgV m s n key⟩] w K := by
  apply mode_Config_both_call
  unfold mode_Config_both
  refine newCfg hk fun w1 f1 hC s1 => ⟨_, hC.sid, _, hC.nonce, h w1 f1⟩
theorem Right_c (hk : key.length = 16) (h : ∀ w', Fr [] w w' → K (.bool (decide (okC m s n key))) w') : callF Tryz.prog F_mode_Config_Right #[.agg ⟨cfgV m s n key⟩] w K := by
  apply mode_Config_Right_call
  unfold mode_Config_Right
  have bad : ¬ okC m s n key → ∀ w', Fr [] w w' → K (.bool false) w' := fun hb w' f => by have := h w' f; rwa [decide_eq_false hb] at this
  refine newCfg hk fun w1 f1 hC s1 => ⟨_, hC.mode, within_c ⟨_, rfl, ?_⟩⟩
  refine cond_not (fun h1 => bad (fun hh => by have := of_decide_eq_false h1; unfold okC at hh; omega) w1 f1) (fun h1 => ⟨_, hC.sid, within_c ⟨_, rfl, ?_⟩⟩)
  refine cond_not (fun h2 => bad (fun hh => by have := of_decide_eq_false h2; unfold okC at hh; omega) w1 f1) (fun h2 => ⟨_, hC.nonce, within_c ⟨_, rfl, ?_⟩⟩)
  refine cond_not (fun h3 => bad (fun hh => by have := of_decide_eq_false h3; unfold okC at hh; omega) w1 f1) (fun h3 => ⟨_, hC.ld hk, both_c hk fun w2 f2 => ⟨_, rfl, ?_⟩⟩)
  have h1 := of_decide_eq_true h1; have h2 := of_decide_eq_true h2; have h3 := of_decide_eq_true h3
  have f02 := f1.then f2
  have hC2 := hC.fr0 f2
  rw [wrap64 (by omega) (by omega)]
  refine cond_d (fun h4 => bad (fun hh => by unfold okC at hh; omega) w2 f02) (fun h4 => ?_)
  unfold mode_Config_Right_j1
  refine ⟨_, hC2.mode, cond_eq (fun h5 => ?_) (fun h5 => ?_)⟩
  · refine ⟨_, hC2.keyLd hk, _, _, Ef.eqBytes (n := 16) (ys := z16k) (by kernel_rfl) (by kernel_rfl) hk rfl, ?_⟩
    have e : decide (key = z16k) = decide (okC m s n key) := by
      rw [decide_eq_decide]; unfold okC
      exact ⟨fun hh => ⟨by omega, by omega, by omega, by omega, by omega, by omega, by omega, fun _ => hh, fun _ => by omega⟩, fun hh => hh.2.2.2.2.2.2.2.1 h5⟩
    rw [e]
    exact h w2 f02
  · refine cond_eq (fun h6 => ⟨_, hC2.ld hk, both_c hk fun w3 f3 => ⟨_, rfl, ?_⟩⟩) (fun h6 => ?_)
    · rw [wrap64 (by omega) (by omega)]
      have e : (s + n == 16) = decide (okC m s n key) := by
        rw [Bool.eq_iff_iff, beq_iff_eq, decide_eq_true_iff]; unfold okC
        exact ⟨fun hh => ⟨by omega, by omega, by omega, by omega, by omega, by omega, by omega, fun _ => by omega, fun _ => hh⟩, fun hh => hh.2.2.2.2.2.2.2.2 h6⟩
      rw [e]
      exact h w3 (f02.then f3)
    · have hok : okC m s n key := ⟨by omega, by omega, by omega, by omega, by omega, by omega, by omega, fun _ => by omega, fun _ => by omega⟩
      have := h w2 f02
      rwa [decide_eq_true hok] at this
theorem cfgSize_c (hk : key.length = 16) (h : ∀ w', Fr [] w w' → K (.int .i64 (if okC m s n key then 1 + (s + n) else 0)) w') : callF Tryz.prog F_mode_Config_Size #[.agg ⟨cfgV m s n key⟩] w K := by
  apply mode_Config_Size_call
  unfold mode_Config_Size
  refine newCfg hk fun w1 f1 hC s1 => ⟨_, hC.ld hk, Right_c hk fun w2 f2 => ⟨_, rfl, ?_⟩⟩
  by_cases hok : okC m s n key
  · rw [decide_eq_true hok]
    refine cond_f ⟨_, (hC.fr0 f2).ld hk, both_c hk fun w3 f3 => ⟨_, rfl, ?_⟩⟩
    have := h w3 ((f1.then f2).then f3)
    rw [if_pos hok] at this
    have hok' := hok
    unfold okC at hok'
    rw [wrap64 (n := s + n) (by omega) (by omega), wrap64 (by omega) (by omega)]
    exact this
  · rw [decide_eq_false hok]
    have := h w2 (f1.then f2)
    rw [if_neg hok] at this
    exact cond_t this
end
end Go.Sh
end

section
namespace Go.Sh
open Go Go.Fw Go.Proofs
set_option maxRecDepth 100000
set_option linter.unusedVariables false
def cfgBytes (m s n : Int) (key : List UInt8) : List UInt8 := [UInt8.ofNat m.toNat, UInt8.ofNat s.toNat, UInt8.ofNat n.toNat, 0] ++ key
section
variable {w : World} {m s n : Int} {key : List UInt8} {K : Value → World → Prop}
theorem cfgBytes_c (hk : key.length = 16) (hbad : ¬ okC m s n key → ∀ w', Fr [] w w' → K (.slice none 0 0) w') (hok : okC m s n key → ∀ q d w', Fr [] w w' → OB w' q 20 d (cfgBytes m s n key) w.heap.size → K (.slice q 20 d) w') :
    callF Tryz.prog F_mode_Config_Bytes #[.agg ⟨cfgV m s n key⟩] w K := by
  apply mode_Config_Bytes_call
  unfold mode_Config_Bytes
  refine newCfg hk fun w1 f1 hC s1 => ⟨_, hC.ld hk, Right_c hk fun w2 f2 => ⟨_, rfl, ?_⟩⟩
  by_cases ho : okC m s n key
  · rw [decide_eq_true ho]
    refine cond_f ?_
    have f02 := f1.then f2
    have hC2 := hC.fr0 f2
    refine ⟨fun w' => Fr [] w2 w', Drw.intro fun w3 f3 s3 => ?_⟩
    refine keySl ?_
    refine ⟨_, ⟨f3, fun w' hw' => (hC2.fr0 hw').mode⟩, _, ⟨f3, fun w' hw' => (hC2.fr0 hw').sid⟩, _, (hC2.fr0 f3).nonce, .inl rfl, ?_⟩
    have ho' := ho
    unfold okC at ho'
    obtain ⟨m', rfl⟩ := Int.eq_ofNat_of_zero_le (show 0 ≤ m by omega)
    obtain ⟨s', rfl⟩ := Int.eq_ofNat_of_zero_le (show 0 ≤ s by omega)
    obtain ⟨n', rfl⟩ := Int.eq_ofNat_of_zero_le (show 0 ≤ n by omega)
    rw [u8wrap, u8wrap, u8wrap]
    refine mkL (n := 4) (xs := [UInt8.ofNat m', UInt8.ofNat s', UInt8.ofNat n', 0]) rfl rfl (by kernel_rfl) fun pn w4 f4 hN s4 => ?_
    refine ⟨_, _, _, Ef.new (v := .slice (some ⟨w4.heap.size, 0, none⟩) 2 2) (cs := ([.slice pn 4 4, .slice (some ⟨w.heap.size, 3, none⟩) 16 16] : List Value).toArray) (e := T_S_uint8) (by kernel_rfl) fun w5 f5 hB5 s5 => ?_⟩
    have f25 := (f3.then f4).then f5
    have hkr := (hC2.fr0 f25).keyRow hk
    have hR5 := RowB.of2 hB5.rowL ((hN.fr0 f5).byS) (byS hkr hk.symm (Nat.le_refl 16))
    have efl : [[UInt8.ofNat m', UInt8.ofNat s', UInt8.ofNat n', 0], key].flatten = cfgBytes (m' : Int) (s' : Int) (n' : Int) key := by simp [cfgBytes]
    have hbl : (cfgBytes (m' : Int) (s' : Int) (n' : Int) key).length = 20 := by simp [cfgBytes, hk]
    refine Join_c (l := 2) hR5 rfl (by rw [efl, hbl]; omega) (by omega) fun q d w6 f6 hO6 => ⟨_, _, _, rfl, ?_⟩
    rw [efl, hbl] at hO6
    rw [efl, hbl]
    have n05 := (f02.then f25).size
    exact hok ho q d w6 ((f02.then f25).then f6) (hO6.mono n05)
  · rw [decide_eq_false ho]
    exact cond_t (hbad ho w2 (f1.then f2))
def okR (xs : List UInt8) : Prop := xs.length = 20 ∧ fl xs 3 = 0 ∧ okC ((fl xs 0).toNat : Int) ((fl xs 1).toNat : Int) ((fl xs 2).toNat : Int) (xs.drop 4)
theorem take1 {xs : List UInt8} {j : Nat} (h : j < xs.length) : (xs.drop j).take 1 = [fl xs j] := by
  rw [List.drop_eq_getElem_cons h]
  unfold fl
  rw [List.getD_eq_getElem?_getD, List.getElem?_eq_getElem h]; rfl
theorem numL1 (x : UInt8) : numL [x] = x.toNat := by
  have := all8 (p := fun x => numL [x] == x.toNat) (by kernel_rfl) x
  simpa using this
theorem rdOne_c {b : Nat} {xs : List UInt8} {j : Nat} (hR : RdAt w b 0 (xs.drop j)) (hj : j < xs.length) (hlb : xs.length ≤ 1000000) 
    (hok : ∀ w', Fr [b] w w' → RdAt w' b 0 (xs.drop (j + 1)) → K (.int .u64 ((fl xs j).toNat : Int)) w') :
    callF Tryz.prog F_scan_Reader_Num #[.pointer (some ⟨b, 0, none⟩), .int .i64 1] w K := by
  refine rdNum_c hR 1 (by omega) (by rw [List.length_drop]; omega) (fun h => by rw [List.length_drop] at h; omega) fun _ _ w' f hR' => ?_
  rw [List.drop_drop] at hR'
  have e : ((numL ((xs.drop j).take 1) : Nat) : Int) = ((fl xs j).toNat : Int) := by rw [take1 hj, numL1]
  rw [e]
  exact hok w' f hR'
set_option maxHeartbeats 1000000 in
theorem modeRead_c {p : Option Addr} {l c : Nat} {xs : List UInt8} (hx : Row w p (xs.map vb)) (hl : l = xs.length) (hc : l ≤ c) (hlb : l ≤ 1000000)
    (hshort : l < 20 → ∀ w', Fr [] w w' → K (.tuple #[.agg ⟨cfgV 0 0 0 z16k⟩, .int .i64 12]) w') (hbad : 20 ≤ l → ¬ okR xs → ∀ w', Fr [] w w' → K (.tuple #[.agg ⟨cfgV 0 0 0 z16k⟩, .int .i64 10]) w')
    (hok : okR xs → ∀ w', Fr [] w w' → K (.tuple #[.agg ⟨cfgV ((fl xs 0).toNat : Int) ((fl xs 1).toNat : Int) ((fl xs 2).toNat : Int) (xs.drop 4)⟩, .int .i64 0]) w') :
    callF Tryz.prog F_mode_Read #[.slice p l c] w K := by
  apply mode_Read_call
  unfold mode_Read
  refine newZ (s := 19) (by kernel_rfl) fun w1 g1 f1 hB1 s1 => ?_
  refine cond_d (fun h1 => ?_) (fun h1 => ?_)
  · refine stoCfg (m := 0) (s := 0) (n := 0) (key := z16k) hB1 rfl fun w2 f2 hC2 s2 => ?_
    exact ⟨_, _, rfl, hC2.ld rfl, hshort (by omega) w2 (f1.trans f2 (fun z hz => .inr (by simp at hz; omega)))⟩
  have hlt1 := hB1.lt
  refine scanRead_c (hx.fr0 f1) hl hc fun w2 f2 hR2 s2 => ⟨_, rfl, ?_⟩
  obtain ⟨rb, hrb⟩ : ∃ rb, rb = w1.heap.size := ⟨_, rfl⟩
  rw [← hrb] at hR2 ⊢
  have f02 := f1.then f2
  have n1 := f1.size
  have hR2' : RdAt w2 rb 0 (xs.drop 0) := by rw [List.drop_zero]; exact hR2
  refine rdOne_c hR2' (by omega) (by omega) fun w3 f3 hR3 => ⟨_, rfl, ?_⟩
  have f03 := f02.st f3 (by omega)
  refine rdOne_c hR3 (by omega) (by omega) fun w4 f4 hR4 => ⟨_, rfl, ?_⟩
  have f04 := f03.st f4 (by omega)
  refine rdOne_c (j := 2) hR4 (by omega) (by omega) fun w5 f5 hR5 => ⟨_, rfl, ?_⟩
  have f05 := f04.st f5 (by omega)
  have x0 := (fl xs 0).toNat_lt; have x1 := (fl xs 1).toNat_lt; have x2 := (fl xs 2).toNat_lt
  rw [show fl xs (0 + 1) = fl xs 1 from rfl, wrap64 (by omega) (by omega), wrap64 (by omega) (by omega), wrap64 (by omega) (by omega)]
  have hB5 := ((((hB1.fr0 f2).fr f3 (by simp; omega)).fr f4 (by simp; omega)).fr f5 (by simp; omega))
  have hltr := hR5.lt
  refine newZ (s := 19) (by kernel_rfl) fun w6 g6 f6 hB6 s6 => ?_
  refine stoCfg (m := ((fl xs 0).toNat : Int)) (s := ((fl xs 1).toNat : Int)) (n := ((fl xs 2).toNat : Int)) (key := z16k) hB6 rfl fun w7 f7 hC7 s7 => ?_
  have f06 := f05.then f6
  have f07 := f06.st f7 (by have := f05.size; omega)
  have n15 := f05.size
  have hR7 : RdAt w7 rb 0 (xs.drop (0 + 1 + 1 + 1)) := (hR5.fr0 f6).fr f7 (fun z hz => by simp at hz; have := f5.size; omega)
  have e3 : (0 : Nat) + 1 + 1 + 1 = 3 := rfl
  rw [e3] at hR7
  have n6 := f6.size; have n7 := f7.size
  refine rdOne_c hR7 (by omega) (by omega) fun w8 f8 hR8 => ⟨_, rfl, ?_⟩
  have f08 := f07.st f8 (by omega)
  have hC8 := hC7.fr f8 (by simp; omega)
  refine Drw.intro fun w9 f9 s9 => ?_
  refine keySl ?_
  have f09 := f08.then f9
  refine rdBytes_c (hR8.fr0 f9) 16 (by rw [List.length_drop]; omega) (fun h => by rw [List.length_drop] at h; omega) fun _ _ pk dk w10 f10 hR10 hO10 => ⟨_, _, _, rfl, ?_⟩
  have f010 := f09.st f10 (by omega)
  obtain ⟨kb, hkb⟩ : ∃ kb, kb = w5.heap.size := ⟨_, rfl⟩
  rw [← hkb] at hC8 f7 ⊢
  have hC10 := (hC8.fr0 f9).fr f10 (by simp; omega)
  obtain ⟨key, hkey⟩ : ∃ key, key = ((xs.drop (3 + 1)).take 16) := ⟨_, rfl⟩
  have hk16 : key.length = 16 := by rw [hkey, List.length_take, List.length_drop]; omega
  rw [← hkey] at hO10
  obtain ⟨g, hBg, hcg⟩ := hC10
  obtain ⟨w11, he11, f11, hB11, s11⟩ := Ef.copy (P := Tryz.prog) (t := T_S_uint8) (ty := T_int) (by kernel_rfl) (dl := 16) (dc := 16) (o := 3) hBg hO10.row (d := dk) (m := 16) (by simpa using hk16.symm) (cells_vb _) (by omega)
  refine ⟨_, _, he11, ?_⟩
  have hC11 : Cfg w11 kb ((fl xs 0).toNat : Int) ((fl xs 1).toNat : Int) ((fl xs 2).toNat : Int) key := by
    refine ⟨_, hB11, fun j v hj => ?_⟩
    unfold updN
    have hlj := (List.getElem?_eq_some_iff.1 hj).1
    rw [cfgV_len] at hlj
    by_cases h3 : 3 ≤ j
    · have hl2 : j - 3 < ((key.map vb).take (min 16 16)).length := by rw [List.length_take, List.length_map]; omega
      rw [dif_pos ⟨h3, hl2⟩]
      have : (cfgV ((fl xs 0).toNat : Int) ((fl xs 1).toNat : Int) ((fl xs 2).toNat : Int) key)[j]? = (key.map vb)[j - 3]? := by
        obtain ⟨i, rfl⟩ : ∃ i, j = i + 3 := ⟨j - 3, by omega⟩
        rfl
      rw [this] at hj
      obtain ⟨h1, h2⟩ := List.getElem?_eq_some_iff.1 hj
      rw [← h2, List.getElem_take]
    · rw [dif_neg (by omega)]
      have hj0 : (cfgV ((fl xs 0).toNat : Int) ((fl xs 1).toNat : Int) ((fl xs 2).toNat : Int) z16k)[j]? = some v := by
        rcases j with _ | _ | _ | j
        · exact hj
        · exact hj
        · exact hj
        · omega
      exact hcg j v hj0
  have f011 := f010.st f11 (by omega)
  have hR11 := hR10.fr f11 (fun z hz => by simp at hz; omega)
  refine rdEnd_c hR11 fun w12 f12 hR12 => ⟨_, rfl, ?_⟩
  have f012 := f011.st f12 (by omega)
  have hC12 := hC11.fr f12 (by simp; omega)
  rw [if_pos rfl]
  have hB2x : ∃ g', Blk w12 w.heap.size 19 g' := by
    have n8 := f8.size; have n9 := f9.size; have n10 := f10.size
    exact ⟨g1, (((((((hB5.fr0 f6).fr f7 (by simp; omega)).fr f8 (by simp; omega)).fr0 f9).fr f10 (by simp; omega)).fr f11 (by simp; omega)).fr f12 (by simp; omega))⟩
  obtain ⟨g', hBz⟩ := hB2x
  have fbad : ¬ okR xs → ∀ (w' : World), Fr [] w w' → Blk w' w.heap.size 19 g' → mode_Read_j2 ⟨w.heap.size, 0, none⟩ 0 ⟨kb, 0, none⟩ true w' K := by
    intro hno w' f' hB'
    unfold mode_Read_j2
    refine cond_t ?_
    refine stoCfg (m := 0) (s := 0) (n := 0) (key := z16k) hB' rfl fun w2 f2 hC2 s2 => ?_
    exact ⟨_, _, rfl, hC2.ld rfl, hbad (by omega) hno w2 (f'.st f2 (Nat.le_refl _))⟩
  have ek : 16 ≤ xs.length - 4 := by omega
  have hlen : ((List.drop 16 (List.drop (3 + 1) xs)).length = 0) ↔ xs.length = 20 := by rw [List.length_drop, List.length_drop]; omega
  refine cond_ne (fun hne => fbad (fun h => hne (by rw [if_pos (hlen.2 h.1)])) w12 f012 hBz) (fun he => ?_)
  have h20 : xs.length = 20 := hlen.1 (by
    apply Classical.byContradiction
    intro hh; rw [if_neg hh] at he; omega)
  have hkd : key = xs.drop 4 := by rw [hkey, List.take_of_length_le (by rw [List.length_drop]; omega)]
  have z8 : ((fl xs 3).toNat : Int) = 0 ↔ fl xs 3 = 0 := by
    rw [← UInt8.toNat_inj]; show _ ↔ (fl xs 3).toNat = 0; omega
  refine cond_ne (fun hne => fbad (fun h => hne (z8.2 h.2.1)) w12 f012 hBz) (fun h0 => ?_)
  refine ⟨_, hC12.ld hk16, Right_c hk16 fun w13 f13 => ⟨_, rfl, ?_⟩⟩
  have f013 := f012.then f13
  by_cases hR : okC ((fl xs 0).toNat : Int) ((fl xs 1).toNat : Int) ((fl xs 2).toNat : Int) key
  · rw [decide_eq_true hR]
    unfold mode_Read_j2
    refine cond_f ?_
    unfold mode_Read_j1
    refine ⟨_, (hC12.fr0 f13).ld hk16, ?_⟩
    refine stoCfg (m := ((fl xs 0).toNat : Int)) (s := ((fl xs 1).toNat : Int)) (n := ((fl xs 2).toNat : Int)) (key := key) (hBz.fr0 f13) hk16 fun w14 f14 hC14 s14 => ?_
    rw [hkd] at hC14 hR hk16
    exact ⟨_, _, rfl, hC14.ld hk16, hok ⟨h20, z8.1 h0, hR⟩ w14 (f013.st f14 (Nat.le_refl _))⟩
  · rw [decide_eq_false hR]
    exact fbad (fun h => hR (by rw [hkd]; exact h.2.2)) w13 f013 (hBz.fr0 f13)
end
end Go.Sh
end

section
namespace Go.Sh
open Go Go.Fw Go.Proofs
set_option maxRecDepth 100000
set_option linter.unusedVariables false
def turnC (back : Bool) (m : Int) (key text : List UInt8) : List UInt8 :=
  if m = 0 then text else if m = 1 then (if back then adecL key text else aencL key text) else passesL key text (if back then [4, 3, 2, 1] else [1, 2, 3, 4])
section
variable {w : World} {m s n : Int} {key text : List UInt8} {K : Value → World → Prop}
theorem turnC_len (back : Bool) (hok : okC m s n key) (hl : (text.length : Int) = s + n) : (turnC back m key text).length = text.length := by
  unfold okC at hok
  unfold turnC
  split
  · rfl
  · split
    · cases back
      · rw [if_neg (by decide), aencL_len]; omega
      · rw [if_pos (by decide), adecL_len]; omega
    · rw [passesL_len _ _ _ (by omega) (by omega)]
set_option maxHeartbeats 1000000 in
theorem by_c (back : Bool) (v1 v2 : Value) {p : Option Addr} {l c : Nat} (hk : key.length = 16) (hx : Row w p (text.map vb)) (hl : l = text.length) (hc : l ≤ c) (hlb : l ≤ 1000000)
    (hv1 : ∀ (b : Nat) (w1 : World) (lo hi : Nat) (K' : Value → World → Prop), Cip w1 b key 0 lo hi → l = 16 → Row w1 p (text.map vb) → (∀ k ∈ blks p, k < lo ∨ hi ≤ k) → (∀ q d w', Fr [b] w1 w' → OB w' q l d (if back then adecL key text else aencL key text) w1.heap.size → K' (.tuple #[.slice q l d, .int .i64 0]) w') → callV Tryz.prog v1 [.pointer (some ⟨b, 0, none⟩), .slice p l c] w1 K')
    (hv2 : ∀ (b : Nat) (w1 : World) (lo hi : Nat) (K' : Value → World → Prop), Cip w1 b key 0 lo hi → hi ≤ w1.heap.size → okT l → Row w1 p (text.map vb) → (∀ q d w', Fr [b] w1 w' → OB w' q l d (passesL key text (if back then [4, 3, 2, 1] else [1, 2, 3, 4])) w1.heap.size → K' (.tuple #[.slice q l d, .int .i64 0]) w') → callV Tryz.prog v2 [.pointer (some ⟨b, 0, none⟩), .slice p l c] w1 K')
    (h1v : v1.oneCell' = true) (h2v : v2.oneCell' = true)
    (hstate : ¬ okC m s n key → ∀ w', Fr [] w w' → K (.tuple #[.slice none 0 0, .int .i64 19]) w') (hrange : okC m s n key → (l : Int) ≠ s + n → ∀ w', Fr [] w w' → K (.tuple #[.slice none 0 0, .int .i64 11]) w')
    (hok : okC m s n key → (l : Int) = s + n → ∀ q d w', Fr [] w w' → OB w' q l d (turnC back m key text) w.heap.size → K (.tuple #[.slice q l d, .int .i64 0]) w') :
    callF Tryz.prog F_mode_Config_by #[.agg ⟨cfgV m s n key⟩, .agg #[v1, v2], .slice p l c] w K := by
  apply mode_Config_by_call
  unfold mode_Config_by
  refine newCfg hk fun w1 f1 hC1 s1 => ?_
  refine New.intro fun w2 f2 hB s2 => ?_
  have hB' : Blk w2 w1.heap.size 2 (fun i => (#[v1, v2] : Array Value).getD i undef) := hB
  have f02 := f1.then f2
  refine ⟨_, (hC1.fr0 f2).ld hk, Right_c hk fun w3 f3 => ⟨_, rfl, ?_⟩⟩
  have f03 := f02.then f3
  by_cases ho : okC m s n key
  · rw [decide_eq_true ho]
    refine cond_f ?_
    have hC3 := (hC1.fr0 f2).fr0 f3
    refine ⟨_, hC3.ld hk, both_c hk fun w4 f4 => ⟨_, rfl, ?_⟩⟩
    have f04 := f03.then f4
    have ho' := ho
    unfold okC at ho'
    rw [wrap64 (by omega) (by omega)]
    refine cond_ne (fun hne => hrange ho hne w4 f04) (fun hlen => ?_)
    have hC4 := hC3.fr0 f4
    have hx4 := hx.fr0 f04
    refine ⟨_, hC4.mode, cond_eq (fun h0 => ?_) (fun h0 => ?_)⟩
    · refine rowB1 (byS hx4 hl hc) (by kernel_rfl) fun p1 w5 f5 hR1 s5 => ?_
      have efl : [text].flatten = text := by simp
      refine Join_c (l := 1) hR1 rfl (by rw [efl]; omega) (by omega) fun q d w6 f6 hO6 => ⟨_, _, _, rfl, ?_⟩
      rw [efl, ← hl] at hO6
      rw [efl, ← hl]
      have f05 := f04.then f5
      refine hok ho hlen q d w6 (f05.then f6) ?_
      have e : turnC back m key text = text := by unfold turnC; rw [if_pos h0]
      rw [e]
      exact hO6.mono f05.size
    · unfold mode_Config_by_j1
      refine keySl ?_
      refine newCip_c (hC4.keyRow hk) hk.symm hk (by omega) fun b w5 f5 hCi => ⟨_, _, rfl, ?_⟩
      have f05 := f04.then f5
      have hC5 := hC4.fr0 f5
      have hB5 := ((hB'.fr0 f3).fr0 f4).fr0 f5
      have hcl := hCi.lt
      have n4 := f04.size
      have a0 : (⟨w1.heap.size, 0, none⟩ : Addr).add 0 = ⟨w1.heap.size, 0, none⟩ := rfl
      have a1 : (⟨w1.heap.size, 0, none⟩ : Addr).add 1 = ⟨w1.heap.size, 1, none⟩ := add_mk _ _ _
      rw [a0, a1]
      refine ⟨_, hC5.mode, cond_eq (fun h1 => ?_) (fun h1 => ?_)⟩
      · refine ⟨v1, Ld.blk (by kernel_rfl) hB5 (by omega) rfl, ?_⟩
        refine hv1 b w5 _ _ _ hCi (by have := ho'.2.2.2.2.2.2.2.2 h1; omega) (hx.fr0 f05) (fun k hk' => .inl (by have := Row.blk_lt hx (by omega) k hk'; omega)) fun q d w6 f6 hO6 => ⟨_, _, _, _, rfl, ?_⟩
        refine hok ho hlen q d w6 (f05.st f6 (by omega)) ?_
        have e : turnC back m key text = (if back then adecL key text else aencL key text) := by unfold turnC; rw [if_neg h0, if_pos h1]
        rw [e]
        exact hO6.mono f05.size
      · refine ⟨v2, Ld.blk (by kernel_rfl) hB5 (by omega) rfl, ?_⟩
        refine hv2 b w5 _ _ _ hCi (Nat.le_refl _) ⟨by omega, by omega⟩ (hx.fr0 f05) fun q d w6 f6 hO6 => ⟨_, _, _, _, rfl, ?_⟩
        refine hok ho hlen q d w6 (f05.st f6 (by omega)) ?_
        have e : turnC back m key text = passesL key text (if back then [4, 3, 2, 1] else [1, 2, 3, 4]) := by unfold turnC; rw [if_neg h0, if_neg h1]
        rw [e]
        exact hO6.mono f05.size
  · rw [decide_eq_false ho]
    exact cond_t (hstate ho w3 f03)
theorem Turn_cfg_c {p : Option Addr} {l c : Nat} (hk : key.length = 16) (hx : Row w p (text.map vb)) (hl : l = text.length) (hc : l ≤ c) (hlb : l < 1000000)
    (hstate : ¬ okC m s n key → ∀ w', Fr [] w w' → K (.tuple #[.slice none 0 0, .int .i64 19]) w') (hrange : okC m s n key → (l : Int) ≠ s + n → ∀ w', Fr [] w w' → K (.tuple #[.slice none 0 0, .int .i64 11]) w')
    (hok : okC m s n key → (l : Int) = s + n → ∀ q d w', Fr [] w w' → OB w' q l d (turnC false m key text) w.heap.size → K (.tuple #[.slice q l d, .int .i64 0]) w') :
    callF Tryz.prog F_mode_Config_Turn #[.agg ⟨cfgV m s n key⟩, .slice p l c] w K := by
  apply mode_Config_Turn_call
  unfold mode_Config_Turn
  refine newCfg hk fun w1 f1 hC1 s1 => ⟨_, hC1.ld hk, ?_⟩
  have n1 := f1.size
  refine by_c false _ _ hk (hx.fr0 f1) hl hc (by omega) ?_ ?_ rfl rfl (fun h w' f => ⟨_, _, _, _, rfl, hstate h w' (f1.then f)⟩) (fun h h' w' f => ⟨_, _, _, _, rfl, hrange h h' w' (f1.then f)⟩) fun h h' q d w' f hO => ⟨_, _, _, _, rfl, hok h h' q d w' (f1.then f) (hO.mono n1)⟩
  · intro b w2 lo hi K' hCi h16 hx2 hsep hK
    refine callV_in (show callF Tryz.prog F_aes_Cipher_Encrypt #[.pointer (some ⟨b, 0, none⟩), .slice p l c] w2 K' from ?_)
    refine encCip_c hCi (by omega) (by omega) hx2 hl (by omega) hsep fun p' w3 f3 hC3 hO3 => ?_
    subst h16
    exact hK p' 16 w3 f3 hO3
  · intro b w2 lo hi K' hCi hhi hT hx2 hK
    refine callV_in (show callF Tryz.prog F_feist_Mix #[.pointer (some ⟨b, 0, none⟩), .slice p l c] w2 K' from ?_)
    refine Mix_c hCi (by omega) (by omega) hhi hx2 hl hc hlb (fun hb => absurd hT hb) fun _ q d w3 f3 hC3 hO3 => hK q d w3 f3 hO3
theorem Back_cfg_c {p : Option Addr} {l c : Nat} (hk : key.length = 16) (hx : Row w p (text.map vb)) (hl : l = text.length) (hc : l ≤ c) (hlb : l < 1000000)
    (hstate : ¬ okC m s n key → ∀ w', Fr [] w w' → K (.tuple #[.slice none 0 0, .int .i64 19]) w') (hrange : okC m s n key → (l : Int) ≠ s + n → ∀ w', Fr [] w w' → K (.tuple #[.slice none 0 0, .int .i64 11]) w')
    (hok : okC m s n key → (l : Int) = s + n → ∀ q d w', Fr [] w w' → OB w' q l d (turnC true m key text) w.heap.size → K (.tuple #[.slice q l d, .int .i64 0]) w') :
    callF Tryz.prog F_mode_Config_Back #[.agg ⟨cfgV m s n key⟩, .slice p l c] w K := by
  apply mode_Config_Back_call
  unfold mode_Config_Back
  refine newCfg hk fun w1 f1 hC1 s1 => ⟨_, hC1.ld hk, ?_⟩
  have n1 := f1.size
  refine by_c true _ _ hk (hx.fr0 f1) hl hc (by omega) ?_ ?_ rfl rfl (fun h w' f => ⟨_, _, _, _, rfl, hstate h w' (f1.then f)⟩) (fun h h' w' f => ⟨_, _, _, _, rfl, hrange h h' w' (f1.then f)⟩) fun h h' q d w' f hO => ⟨_, _, _, _, rfl, hok h h' q d w' (f1.then f) (hO.mono n1)⟩
  · intro b w2 lo hi K' hCi h16 hx2 hsep hK
    refine callV_in (show callF Tryz.prog F_aes_Cipher_Decrypt #[.pointer (some ⟨b, 0, none⟩), .slice p l c] w2 K' from ?_)
    refine decCip_c hCi (by omega) (by omega) hx2 hl (by omega) hsep fun p' w3 f3 hC3 hO3 => ?_
    subst h16
    exact hK p' 16 w3 f3 hO3
  · intro b w2 lo hi K' hCi hhi hT hx2 hK
    refine callV_in (show callF Tryz.prog F_feist_Unmix #[.pointer (some ⟨b, 0, none⟩), .slice p l c] w2 K' from ?_)
    refine Unmix_c hCi (by omega) (by omega) hhi hx2 hl hc hlb (fun hb => absurd hT hb) fun _ q d w3 f3 hC3 hO3 => hK q d w3 f3 hO3
end
end Go.Sh
end
