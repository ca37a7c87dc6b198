/- A part of a proof of a given law of this program: lemmas, printed forms of its functions, contracts. It has no conditions of its own. -/
import Derived.Test.YtcfealonnakdcaaGreatMFw3
import Derived.Test.YtcfealonnakdcaaGreatMH
import Derived.Test.YtcfealonnakdcaaGreatMC
import Derived.Test.YtcfealonnakdcaaGreatMSh4

section
namespace Go.Sh
open Go Go.Fw Go.Proofs
set_option maxRecDepth 100000
set_option linter.unusedVariables false
theorem rowKeep {w w' : World} {p : Option Addr} {xs : List UInt8} {L : List Nat} (h : Row w p (xs.map vb)) (hf : Fr L w w') (hn : 0 < xs.length → ∀ z ∈ blks p, z ∉ L) : Row w' p (xs.map vb) := by
  by_cases hx : xs.length = 0
  · have : xs = [] := List.length_eq_zero_iff.1 hx
    subst this; exact Row.nil _ _
  · exact Row.cells_fr h hf (hn (by omega))
def RdAt (w : World) (b : Nat) (err : Int) (rest : List UInt8) : Prop :=
  ∃ f p c, Blk w b 2 f ∧ f 0 = .int .i64 err ∧ f 1 = .slice p rest.length c ∧ rest.length ≤ c ∧ Row w p (rest.map vb) ∧ (0 < rest.length → ∀ z ∈ blks p, z < b)
theorem RdAt.lt {w : World} {b : Nat} {err : Int} {rest : List UInt8} (h : RdAt w b err rest) : b < w.heap.size := by obtain ⟨f, p, c, hB, _⟩ := h; exact hB.lt
theorem RdAt.fr {w w' : World} {b : Nat} {err : Int} {rest : List UInt8} {L : List Nat} (h : RdAt w b err rest) (hf : Fr L w w') (hL : ∀ z ∈ L, b < z) : RdAt w' b err rest := by
  obtain ⟨f, p, c, hB, h0, h1, hc, hR, hn⟩ := h
  exact ⟨f, p, c, hB.fr hf (fun hb => by have := hL b hb; omega), h0, h1, hc, rowKeep hR hf (fun h0 z hz hz' => by have := hL z hz'; have := hn h0 z hz; omega), hn⟩
theorem RdAt.fr0 {w w' : World} {b : Nat} {err : Int} {rest : List UInt8} (h : RdAt w b err rest) (hf : Fr [] w w') : RdAt w' b err rest := h.fr hf (by simp)
section
variable {w : World} {b : Nat} {err : Int} {rest : List UInt8}
theorem fail_c {f : Nat → Value} {n : Nat} (hB : Blk w b n f) (hn : 0 < n) (h0 : f 0 = .int .i64 err) (e : Int) {K : Value → World → Prop}
    (hk : ∀ w' f', Fr [b] w w' → Blk w' b n f' → f' 0 = .int .i64 (if err = 0 then e else err) → (∀ j, 0 < j → f' j = f j) → w'.heap.size = w.heap.size → K (.bool (decide ((if err = 0 then e else err) ≠ 0))) w') :
    callF Tryz.prog F_scan_fault_fail #[.pointer (some ⟨b, 0, none⟩), .int .i64 e] w K := by
  apply scan_fault_fail_call
  unfold scan_fault_fail
  have a0 : (⟨b, 0, none⟩ : Addr).add 0 = ⟨b, 0, none⟩ := rfl
  refine ⟨_, rfl, _, Ld.blk (by kernel_rfl) hB hn h0, ?_⟩
  have fin : ∀ (w' : World) (f' : Nat → Value) (r : Int), Fr [b] w w' → Blk w' b n f' → f' 0 = .int .i64 r → r = (if err = 0 then e else err) → (∀ j, 0 < j → f' j = f j) → w'.heap.size = w.heap.size → scan_fault_fail_j1 (some ⟨b, 0, none⟩) false w' K := by
    intro w' f' r hf hB' hr he hj hs
    unfold scan_fault_fail_j1
    refine ⟨_, rfl, _, Ld.blk (by kernel_rfl) hB' hn hr, ?_⟩
    have e1 : (r != 0) = decide ((if err = 0 then e else err) ≠ 0) := by rw [← he, Bool.eq_iff_iff]; simp
    rw [e1]
    exact hk w' f' hf hB' (by rw [hr, he]) hj hs
  refine cond_eq (fun h => ?_) (fun h => ?_)
  · refine ⟨_, rfl, ?_⟩
    refine Sto.blk (by kernel_rfl) hB hn rfl rfl fun w' hf hB' hs => ?_
    refine fin w' _ e hf hB' ?_ (by rw [if_pos h]) (fun j hj => ?_) hs
    · unfold upd; rw [if_pos rfl]
    · unfold upd; rw [if_neg (by omega)]
  · exact fin w f err (Fr.refl _ _) hB h0 (by rw [if_neg h]) (fun _ _ => rfl) rfl
theorem check_c {f : Nat → Value} {p : Option Addr} {l c : Nat} (hB : Blk w b 2 f) (h1 : f 1 = .slice p l c) (n most : Int) {K : Value → World → Prop}
    (hk : K (.int .i64 (if n < 0 ∨ n > most then 11 else if n > l then 12 else 0)) w) : callF Tryz.prog F_scan_Reader_check #[.pointer (some ⟨b, 0, none⟩), .int .i64 n, .int .i64 most] w K := by
  apply scan_Reader_check_call
  unfold scan_Reader_check
  have a1 : (⟨b, 0, none⟩ : Addr).add 1 = ⟨b, 1, none⟩ := add_mk _ _ _
  have tail : ∀ bb : Bool, (bb = true ↔ (n < 0 ∨ n > most)) → scan_Reader_check_j1 (some ⟨b, 0, none⟩) n 0 bb w K := by
    intro bb hbb
    unfold scan_Reader_check_j1
    refine cond_intro (fun hb => ?_) (fun hb => ?_)
    · rw [if_pos (hbb.1 hb)] at hk; exact hk
    · have hno : ¬ (n < 0 ∨ n > most) := fun h => by rw [hbb.2 h] at hb; cases hb
      rw [if_neg hno] at hk
      refine ⟨_, rfl, ?_⟩
      rw [a1]
      refine ⟨_, _, _, Ld.blk (by kernel_rfl) hB (by omega) h1, cond_d (fun h => ?_) (fun h => ?_)⟩
      · rw [if_pos h] at hk; exact hk
      · rw [if_neg h] at hk; exact hk
  refine cond_d (fun h => tail true (by simp [h])) (fun h => tail _ (by simp [h]))
theorem cut_c (hR : RdAt w b err rest) (n : Nat) (hn : n ≤ rest.length) (hlb : rest.length ≤ 1000000) {K : Value → World → Prop}
    (hk : ∀ q d w', Fr [b] w w' → RdAt w' b err (rest.drop n) → OB w' q n d (rest.take n) w.heap.size → K (.slice q n d) w') : callF Tryz.prog F_scan_Reader_cut #[.pointer (some ⟨b, 0, none⟩), .int .i64 (n : Int)] w K := by
  obtain ⟨f, p, c, hB, h0, h1, hc, hRow, hnb⟩ := hR
  apply scan_Reader_cut_call
  unfold scan_Reader_cut
  have a1 : (⟨b, 0, none⟩ : Addr).add 1 = ⟨b, 1, none⟩ := add_mk _ _ _
  refine ⟨_, rfl, ?_⟩
  rw [a1]
  refine ⟨_, _, _, Ld.blk (by kernel_rfl) hB (by omega) h1, ?_⟩
  refine slTo hRow rfl hn hc fun q d hq hql hqd hqb => ?_
  refine slices_Clone_c hq (by simpa using hql) (by omega) (cells_vb _) fun q2 d2 w1 f1 hO hnew => ⟨_, _, _, rfl, _, rfl, ?_⟩
  rw [a1]
  have hB1 := hB.fr0 f1
  refine ⟨_, _, _, Ld.blk (by kernel_rfl) hB1 (by omega) h1, ?_⟩
  refine slFrom (hRow.fr0 f1) rfl hn hc fun q3 d3 hq3 hq3l hq3d hq3b => ⟨_, rfl, ?_⟩
  rw [a1]
  have hlt := hB.lt
  refine Sto.blk (by kernel_rfl) hB1 (by omega) rfl rfl fun w2 f2 hB2 s2 => ?_
  have hsep : 0 < rest.length → ∀ z ∈ blks q3, z ∉ [b] := fun h z hz hz' => by
    simp at hz'; subst hz'; have := hnb h _ (hq3b _ hz); omega
  refine hk q2 d2 w2 (f1.after f2) ⟨_, q3, d3, hB2, ?_, ?_, by omega, rowKeep hq3 f2 (fun h => hsep (by rw [List.length_drop] at h; omega)), fun h z hz => hnb (by rw [List.length_drop] at h; omega) z (hq3b z hz)⟩ ?_
  · unfold upd; rw [if_neg (by omega)]; exact h0
  · unfold upd; rw [if_pos rfl, hq3l]
  · have hOB : OB w1 q2 n d2 (rest.take n) w.heap.size := ⟨hO, hql, hnew⟩
    exact hOB.fr_sep f2 hlt
theorem rdNum_c (hR : RdAt w b err rest) (n : Nat) (h8 : n ≤ 8) (hlb : rest.length ≤ 1000000) {K : Value → World → Prop}
    (hbad : (err ≠ 0 ∨ rest.length < n) → ∀ w', Fr [b] w w' → RdAt w' b (if err = 0 then 12 else err) rest → K (.int .u64 0) w')
    (hok : err = 0 → n ≤ rest.length → ∀ w', Fr [b] w w' → RdAt w' b 0 (rest.drop n) → K (.int .u64 (numL (rest.take n) : Int)) w') :
    callF Tryz.prog F_scan_Reader_Num #[.pointer (some ⟨b, 0, none⟩), .int .i64 (n : Int)] w K := by
  have hR0 := hR
  obtain ⟨f, p, c, hB, h0, h1, hc, hRow, hnb⟩ := hR
  apply scan_Reader_Num_call
  unfold scan_Reader_Num
  refine Drw.intro fun w1 f1 s1 => ⟨_, rfl, ?_⟩
  have hB1 := hB.fr0 f1
  refine check_c hB1 h1 n 8 ⟨_, rfl, ?_⟩
  have a0 : (⟨b, 0, none⟩ : Addr).add 0 = ⟨b, 0, none⟩ := rfl
  rw [a0, if_neg (by omega)]
  refine fail_c hB1 (by omega) h0 _ fun w2 f' f2 hB2 h0' hj s2 => ⟨_, rfl, ?_⟩
  have hlt := hB.lt
  have f02 := f1.after f2
  have hR2 : ∀ e, f' 0 = .int .i64 e → RdAt w2 b e rest := fun e he => ⟨f', p, c, hB2, he, by rw [hj 1 (by omega)]; exact h1, hc, rowKeep (hRow.fr0 f1) f2 (fun h z hz hz' => by simp at hz'; subst hz'; have := hnb h _ hz; omega), hnb⟩
  by_cases he : err = 0
  · subst he
    rw [if_pos rfl] at h0' ⊢
    by_cases hl : (n : Int) > (rest.length : Int)
    · rw [if_pos hl] at h0' ⊢
      exact cond_t (hbad (.inr (by omega)) w2 f02 (hR2 12 h0'))
    · rw [if_neg hl] at h0' ⊢
      refine cond_f (cut_c (hR2 0 h0') n (by omega) hlb fun q d w3 f3 hR3 hO3 => ⟨_, _, _, rfl, ?_⟩)
      refine Num_c hO3.row hO3.2.1 h8 ⟨_, _, rfl, ?_⟩
      exact hok rfl (by omega) w3 (f02.trans f3 (fun z hz => .inl hz)) hR3
  · rw [if_neg he] at h0' ⊢
    rw [decide_eq_true he]
    refine cond_t (hbad (.inl he) w2 f02 ?_)
    rw [if_neg he]
    exact hR2 err h0'
end
end Go.Sh
end

section
namespace Go.Sh
open Go Go.Fw Go.Proofs
set_option maxRecDepth 100000
set_option linter.unusedVariables false
theorem PuMax {n m : Int} : Pu Tryz.prog (Builtin.max_ #[T_int, T_int] T_int #[.int .i64 n, .int .i64 m]) (.int .i64 (max n m)) := by
  have e : Pu Tryz.prog (Builtin.max_ #[T_int, T_int] T_int #[.int .i64 n, .int .i64 m]) (.int .i64 (if m > n then m else n)) := by unfold Pu; kernel_rfl
  have : (if m > n then m else n) = max n m := by split <;> omega
  rwa [this] at e
theorem scanRead_c {w : World} {p : Option Addr} {l c : Nat} {xs : List UInt8} (hR : Row w p (xs.map vb)) (hl : l = xs.length) (hc : l ≤ c) {K : Value → World → Prop}
    (h : ∀ w', Fr [] w w' → RdAt w' w.heap.size 0 xs → w'.heap.size = w.heap.size + 1 → K (.pointer (some ⟨w.heap.size, 0, none⟩)) w') : callF Tryz.prog F_scan_Read #[.slice p l c] w K := by
  apply scan_Read_call
  unfold scan_Read
  refine New.intro fun w1 f1 hB s1 => h w1 f1 ⟨_, p, c, hB, rfl, ?_, by omega, hR.fr0 f1, fun h0 z hz => Row.blk_lt hR h0 _ hz⟩ s1
  rw [← hl]; rfl
section
variable {w : World} {b : Nat} {err : Int} {rest : List UInt8}
theorem rdBytes_c (hR : RdAt w b err rest) (n : Nat) (hlb : rest.length ≤ 1000000) {K : Value → World → Prop}
    (hbad : (err ≠ 0 ∨ rest.length < n) → ∀ w', Fr [b] w w' → RdAt w' b (if err = 0 then 12 else err) rest → K (.slice none 0 0) w')
    (hok : err = 0 → n ≤ rest.length → ∀ q d w', Fr [b] w w' → RdAt w' b 0 (rest.drop n) → OB w' q n d (rest.take n) w.heap.size → K (.slice q n d) w') :
    callF Tryz.prog F_scan_Reader_Bytes #[.pointer (some ⟨b, 0, none⟩), .int .i64 (n : Int)] w K := by
  obtain ⟨f, p, c, hB, h0, h1, hc, hRow, hnb⟩ := hR
  apply scan_Reader_Bytes_call
  unfold scan_Reader_Bytes
  refine Drw.intro fun w1 f1 s1 => ⟨_, rfl, _, PuMax, ?_⟩
  have hB1 := hB.fr0 f1
  have em : max (n : Int) 0 = (n : Int) := by omega
  rw [em]
  refine check_c hB1 h1 n n ⟨_, rfl, ?_⟩
  have a0 : (⟨b, 0, none⟩ : Addr).add 0 = ⟨b, 0, none⟩ := rfl
  rw [a0, if_neg (by omega)]
  refine fail_c hB1 (by omega) h0 _ fun w2 f' f2 hB2 h0' hj s2 => ⟨_, rfl, ?_⟩
  have hlt := hB.lt
  have f02 := f1.after f2
  have hR2 : ∀ e, f' 0 = .int .i64 e → RdAt w2 b e rest := fun e he => ⟨f', p, c, hB2, he, by rw [hj 1 (by omega)]; exact h1, hc, rowKeep (hRow.fr0 f1) f2 (fun h z hz hz' => by simp at hz'; subst hz'; have := hnb h _ hz; omega), hnb⟩
  by_cases he : err = 0
  · subst he
    rw [if_pos rfl] at h0' ⊢
    by_cases hl : (n : Int) > (rest.length : Int)
    · rw [if_pos hl] at h0' ⊢
      exact cond_t (hbad (.inr (by omega)) w2 f02 (hR2 12 h0'))
    · rw [if_neg hl] at h0' ⊢
      refine cond_f (cut_c (hR2 0 h0') n (by omega) hlb fun q d w3 f3 hR3 hO3 => ⟨_, _, _, rfl, ?_⟩)
      exact hok rfl (by omega) q d w3 (f02.trans f3 (fun z hz => .inl hz)) hR3 (hO3.mono f02.size)
  · rw [if_neg he] at h0' ⊢
    rw [decide_eq_true he]
    refine cond_t (hbad (.inl he) w2 f02 ?_)
    rw [if_neg he]
    exact hR2 err h0'
end
end Go.Sh
end
