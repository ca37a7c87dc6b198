/- A part of a proof of a given law of this program: lemmas, printed forms of its functions, contracts. It has no conditions of its own. -/
import Derived.Test.YtcfealonnakdcaaGreatMM
import Derived.Test.YtcfealonnakdcaaGreatMC
import Derived.Test.YtcfealonnakdcaaGreatMFw3
import Derived.Test.YtcfealonnakdcaaGreatML19
import Derived.Test.YtcfealonnakdcaaGreatMSh8
import Derived.Test.YtcfealonnakdcaaGreatMA
import Derived.Test.YtcfealonnakdcaaGreatMR

section
namespace Go.Sh
open Go Go.Fw Go.Proofs
set_option maxRecDepth 100000
set_option linter.unusedVariables false
def FrA (b : Nat) (w w' : World) : Prop := ∃ L, (∀ z ∈ L, b ≤ z) ∧ Fr L w w'
theorem FrA.refl (b : Nat) (w : World) : FrA b w w := ⟨[], by simp, Fr.refl _ _⟩
theorem FrA.of {b : Nat} {w w' : World} {L : List Nat} (f : Fr L w w') (h : ∀ z ∈ L, b ≤ z) : FrA b w w' := ⟨L, h, f⟩
theorem FrA.of0 {b : Nat} {w w' : World} (f : Fr [] w w') : FrA b w w' := ⟨[], by simp, f⟩
theorem FrA.trans {b : Nat} {w w1 w2 : World} (h : FrA b w w1) (k : FrA b w1 w2) : FrA b w w2 := by
  obtain ⟨L, h1, h2⟩ := h
  obtain ⟨M, k1, k2⟩ := k
  exact ⟨L ++ M, fun z hz => by rcases List.mem_append.1 hz with hz | hz; exact h1 z hz; exact k1 z hz, (h2.mono (fun z hz => List.mem_append_left _ hz)).trans k2 (fun z hz => .inl (List.mem_append_right _ hz))⟩
theorem FrA.size {b : Nat} {w w' : World} (h : FrA b w w') : w.heap.size ≤ w'.heap.size := by obtain ⟨L, _, h2⟩ := h; exact h2.size
theorem FrA.news {b : Nat} {w0 w w' : World} (h : FrA b w w') (f : Fr [] w0 w) (hb : w0.heap.size ≤ b) : Fr [] w0 w' := by
  obtain ⟨L, h1, h2⟩ := h
  exact f.trans h2 fun z hz => .inr (by have := h1 z hz; omega)
theorem FrA.mono {b b' : Nat} {w w' : World} (h : FrA b w w') (hb : b' ≤ b) : FrA b' w w' := by
  obtain ⟨L, h1, h2⟩ := h
  exact ⟨L, fun z hz => by have := h1 z hz; omega, h2⟩
theorem FrA.row {b : Nat} {w w' : World} {p : Option Addr} {xs : List UInt8} (h : FrA b w w') (hR : Row w p (xs.map vb)) (hp : 0 < xs.length → ∀ z ∈ blks p, z < b) : Row w' p (xs.map vb) := by
  obtain ⟨L, h1, h2⟩ := h
  exact rowKeep hR h2 fun h0 z hz hm => by have := h1 z hm; have := hp h0 z hz; omega
theorem FrA.blk {b k n : Nat} {w w' : World} {f : Nat → Value} (h : FrA b w w') (hB : Blk w k n f) (hk : k < b) : Blk w' k n f := by
  obtain ⟨L, h1, h2⟩ := h
  exact hB.fr h2 fun hm => by have := h1 k hm; omega
theorem rowLt {w : World} {p : Option Addr} {xs : List UInt8} {b : Nat} (hR : Row w p (xs.map vb)) (hb : w.heap.size ≤ b) : 0 < xs.length → ∀ z ∈ blks p, z < b := fun h0 z hz => by
  have := Row.blk_lt hR h0 _ hz; omega
def WrAt (w : World) (b : Nat) (xs : List UInt8) : Prop :=
  ∃ f p c, Blk w b 2 f ∧ f 0 = .int .i64 0 ∧ f 1 = .slice p xs.length c ∧ OB w p xs.length c xs (b + 1)
section
variable {w : World} {b : Nat} {xs : List UInt8} {K : Value → World → Prop}
theorem WrAt.fr {w' : World} {L : List Nat} (h : WrAt w b xs) (hf : Fr L w w') (hL : ∀ z ∈ L, z < b) : WrAt w' b xs := by
  obtain ⟨f, p, c, hB, h0, h1, hO⟩ := h
  exact ⟨f, p, c, hB.fr hf (fun hb => by have := hL b hb; omega), h0, h1, hO.fr hf fun z hz hm => by have := hO.2.2 z hz; have := hL z hm; omega⟩
theorem WrAt.fr0 {w' : World} (h : WrAt w b xs) (hf : Fr [] w w') : WrAt w' b xs := h.fr hf (by simp)
theorem scanWrite_c (h : ∀ w', Fr [] w w' → WrAt w' w.heap.size [] → w'.heap.size = w.heap.size + 1 → K (.pointer (some ⟨w.heap.size, 0, none⟩)) w') : callF Tryz.prog F_scan_Write #[] w K := by
  apply scan_Write_call
  unfold scan_Write
  exact New.intro fun w1 f1 hB s1 => h w1 f1 ⟨_, none, 0, hB, rfl, rfl, OB.nil _ _⟩ s1
theorem wrPut_c (hW : WrAt w b xs) {q : Option Addr} {m d : Nat} {ys : List UInt8} (hR : Row w q (ys.map vb)) (hm : m = ys.length) (hq : 0 < ys.length → ∀ z ∈ blks q, z ≠ b) (hlen : xs.length + m ≤ 1000000)
    (hk : ∀ w', FrA b w w' → WrAt w' b (xs ++ ys) → K (.pointer (some ⟨b, 0, none⟩)) w') : callF Tryz.prog F_scan_Writer_put #[.pointer (some ⟨b, 0, none⟩), .slice q m d, .int .i64 0] w K := by
  obtain ⟨f, p, c, hB, h0, h1, hO⟩ := hW
  apply scan_Writer_put_call
  unfold scan_Writer_put
  have a0 : (⟨b, 0, none⟩ : Addr).add 0 = ⟨b, 0, none⟩ := rfl
  have a1 : (⟨b, 0, none⟩ : Addr).add 1 = ⟨b, 1, none⟩ := add_mk _ _ _
  refine ⟨_, rfl, ?_⟩
  rw [a0]
  refine fail_c hB (by omega) h0 0 fun w1 f' f1 hB1 h0' hj s1 => ⟨_, rfl, ?_⟩
  refine cond_t ⟨_, rfl, ?_⟩
  rw [a1]
  have hb := hB.lt
  have hO1 := hO.fr f1 fun z hz hm => by have := hO.2.2 z hz; simp at hm; omega
  refine ⟨_, _, _, Ld.blk (by kernel_rfl) hB1 (by omega) (by rw [hj 1 (by omega)]; exact h1), ?_⟩
  refine pushN (m := m) hO1 (by omega) (rowKeep hR f1 fun h0 z hz hm => hq h0 z hz (by simpa using hm)) hm (by omega) fun p' c' w2 f2 hO2 => ⟨_, rfl, ?_⟩
  rw [a1]
  have hB2 := hB1.fr f2 fun hm => by have := hO.2.2 b hm; omega
  refine Sto.blk (by kernel_rfl) hB2 (by omega) rfl rfl fun w3 f3 hB3 s3 => ?_
  refine hk w3 (((FrA.of f1 (by simp)).trans (FrA.of f2 fun z hz => by have := hO.2.2 z hz; omega)).trans (FrA.of f3 (by simp))) ⟨_, p', c', hB3, ?_, ?_, ?_⟩
  · rw [upd_ne _ _ _ (by omega)]; simpa using h0'
  · rw [upd_same, List.length_append, hm]
  · rw [List.length_append, ← hm]
    exact hO2.fr f3 fun z hz hm => by have := hO2.2.2 z hz; simp at hm; omega
theorem wrNum_c (hW : WrAt w b xs) {n size : Nat} (h8 : size ≤ 8) (hn : n < 256 ^ size) (hlen : xs.length ≤ 900000)
    (hk : ∀ w', FrA b w w' → WrAt w' b (xs ++ putL n size) → K (.pointer (some ⟨b, 0, none⟩)) w') : callF Tryz.prog F_scan_Writer_Num #[.pointer (some ⟨b, 0, none⟩), .int .u64 (n : Int), .int .i64 (size : Int)] w K := by
  apply scan_Writer_Num_call
  unfold scan_Writer_Num
  have hb : b < w.heap.size := by obtain ⟨f, p, c, hB, _⟩ := hW; exact hB.lt
  refine Put_c h8 hn fun q d w1 f1 hO1 => ⟨_, _, _, _, rfl, ?_⟩
  refine wrPut_c (hW.fr0 f1) hO1.row hO1.2.1 (fun _ z hz => by have := hO1.2.2 z hz; omega) (by omega) fun w2 f2 hW2 => ⟨_, rfl, hk w2 ((FrA.of0 f1).trans f2) hW2⟩
theorem wrBytes_c (hW : WrAt w b xs) {q : Option Addr} {m d : Nat} {rs : List (List UInt8)} (hR : RowB w q rs) (hm : m = rs.length) (hm2 : m ≤ 1000) (hl : xs.length ≤ 400000) (hl2 : rs.flatten.length ≤ 400000)
    (hk : ∀ w', FrA b w w' → WrAt w' b (xs ++ rs.flatten) → K (.pointer (some ⟨b, 0, none⟩)) w') : callF Tryz.prog F_scan_Writer_Bytes #[.pointer (some ⟨b, 0, none⟩), .slice q m d] w K := by
  apply scan_Writer_Bytes_call
  unfold scan_Writer_Bytes
  have hb : b < w.heap.size := by obtain ⟨f, p, c, hB, _⟩ := hW; exact hB.lt
  refine Join_c hR hm (by omega) (by omega) fun q1 d1 w1 f1 hO1 => ⟨_, _, _, rfl, ?_⟩
  refine wrPut_c (hW.fr0 f1) hO1.row rfl (fun _ z hz => by have := hO1.2.2 z hz; omega) (by omega) fun w2 f2 hW2 => ⟨_, rfl, hk w2 ((FrA.of0 f1).trans f2) hW2⟩
theorem putL1 (n : Nat) : putL n 1 = [UInt8.ofNat n] := by
  unfold putL
  show [UInt8.ofNat (n / 256 ^ (1 - 1 - 0))] = _
  simp
theorem wrShort_c (hW : WrAt w b xs) {q : Option Addr} {m d : Nat} {ys : List UInt8} (hR : Row w q (ys.map vb)) (hm : m = ys.length) (hd : m ≤ d) (h255 : m ≤ 255) (hq : 0 < ys.length → ∀ z ∈ blks q, z < b) (hl : xs.length ≤ 300000)
    (hk : ∀ w', FrA b w w' → WrAt w' b (xs ++ UInt8.ofNat ys.length :: ys) → K (.pointer (some ⟨b, 0, none⟩)) w') : callF Tryz.prog F_scan_Writer_Short #[.pointer (some ⟨b, 0, none⟩), .slice q m d] w K := by
  apply scan_Writer_Short_call
  unfold scan_Writer_Short
  refine cond_d (fun hh => by omega) fun _ => ?_
  rw [wrapu64 (by omega) (by omega)]
  refine wrNum_c (n := m) (size := 1) hW (by omega) (by omega) (by omega) fun w1 f1 hW1 => ⟨_, rfl, ?_⟩
  have hR1 := f1.row hR hq
  refine ⟨_, _, _, Ef.new (v := .slice (some ⟨w1.heap.size, 0, none⟩) 1 1) (cs := ([.slice q m d] : List Value).toArray) (e := T_S_uint8) (by kernel_rfl) fun w2 f2 hB2 s2 => ?_⟩
  have hRB := RowB.of1 hB2.rowL (byS (hR1.fr0 f2) hm hd)
  have ef : [ys].flatten = ys := by simp
  refine wrBytes_c (m := 1) (hW1.fr0 f2) hRB rfl (by omega) (by rw [List.length_append, putL_len]; omega) (by rw [ef]; omega) fun w3 f3 hW3 => ⟨_, rfl, ?_⟩
  rw [ef, putL1, List.append_assoc, hm] at hW3
  exact hk w3 ((f1.trans (FrA.of0 f2)).trans f3) hW3
theorem wrDone_c (hW : WrAt w b xs) (hl : xs.length ≤ 1000000) (hk : ∀ q d w', Fr [] w w' → OB w' q xs.length d xs w.heap.size → K (.tuple #[.slice q xs.length d, .int .i64 0]) w') : callF Tryz.prog F_scan_Writer_Done #[.pointer (some ⟨b, 0, none⟩)] w K := by
  obtain ⟨f, p, c, hB, h0, h1, hO⟩ := hW
  apply scan_Writer_Done_call
  unfold scan_Writer_Done
  have a0 : (⟨b, 0, none⟩ : Addr).add 0 = ⟨b, 0, none⟩ := rfl
  have a1 : (⟨b, 0, none⟩ : Addr).add 1 = ⟨b, 1, none⟩ := add_mk _ _ _
  refine ⟨_, rfl, ?_⟩
  rw [a0, a0]
  refine ⟨_, Ld.blk (by kernel_rfl) hB (by omega) h0, cond_f ⟨_, rfl, ?_⟩⟩
  rw [a1]
  refine ⟨_, _, _, Ld.blk (by kernel_rfl) hB (by omega) h1, ?_⟩
  exact slices_Clone_c hO.row (by simp) (by omega) (cells_vb _) fun q d w1 f1 hO1 hn1 => ⟨_, _, _, rfl, hk q d w1 f1 ⟨hO1, rfl, hn1⟩⟩
end
def numP (k : Nat) (s : Int × List UInt8) : Nat × (Int × List UInt8) := if s.1 = 0 ∧ k ≤ s.2.length then (numL (s.2.take k), (0, s.2.drop k)) else (0, (if s.1 = 0 then 12 else s.1, s.2))
def shortP (s : Int × List UInt8) : List UInt8 × (Int × List UInt8) :=
  if s.1 = 0 ∧ (fl s.2 0).toNat + 1 ≤ s.2.length then ((s.2.drop 1).take (fl s.2 0).toNat, (0, s.2.drop ((fl s.2 0).toNat + 1))) else ([], (if s.1 = 0 then 12 else s.1, s.2))
def restP (s : Int × List UInt8) : List UInt8 × (Int × List UInt8) := if s.1 = 0 then (s.2, (0, [])) else ([], s)
theorem numL_take1 {rest : List UInt8} (h : 1 ≤ rest.length) : numL (rest.take 1) = (fl rest 0).toNat := by
  cases rest with
  | nil => simp at h
  | cons x r => simp [numL, fl]
section
variable {w : World} {b : Nat} {err : Int} {rest : List UInt8} {K : Value → World → Prop}
theorem rdNumP_c (hR : RdAt w b err rest) (n : Nat) (h8 : n ≤ 8) (hlb : rest.length ≤ 1000000)
    (hk : ∀ w', Fr [b] w w' → RdAt w' b (numP n (err, rest)).2.1 (numP n (err, rest)).2.2 → K (.int .u64 ((numP n (err, rest)).1 : Int)) w') : callF Tryz.prog F_scan_Reader_Num #[.pointer (some ⟨b, 0, none⟩), .int .i64 (n : Int)] w K := by
  refine rdNum_c hR n h8 hlb (fun hb w' f h => ?_) fun he hn w' f h => ?_
  · have e : numP n (err, rest) = (0, (if err = 0 then 12 else err, rest)) := by unfold numP; rw [if_neg (by show ¬ (err = 0 ∧ n ≤ rest.length); omega)]
    rw [e] at hk
    exact hk w' f h
  · have e : numP n (err, rest) = (numL (rest.take n), (0, rest.drop n)) := by unfold numP; rw [if_pos (by show err = 0 ∧ n ≤ rest.length; omega)]
    rw [e] at hk
    exact hk w' f h
set_option maxHeartbeats 1000000 in
theorem rdShortP_c (hR : RdAt w b err rest) (hlb : rest.length ≤ 1000000)
    (hk : ∀ q d w', Fr [b] w w' → RdAt w' b (shortP (err, rest)).2.1 (shortP (err, rest)).2.2 → OB w' q (shortP (err, rest)).1.length d (shortP (err, rest)).1 w.heap.size → K (.slice q (shortP (err, rest)).1.length d) w') : callF Tryz.prog F_scan_Reader_Short #[.pointer (some ⟨b, 0, none⟩)] w K := by
  apply scan_Reader_Short_call
  unfold scan_Reader_Short
  have hb := hR.lt
  refine New.intro fun w1 f1 hB1 s1 => ?_
  obtain ⟨k1, hk1⟩ : ∃ k, k = w.heap.size := ⟨_, rfl⟩
  rw [← hk1] at hB1 ⊢
  have hB1 : Blk w1 k1 1 (fun i => (#[.pointer (some ⟨b, 0, none⟩)] : Array Value).getD i undef) := hB1
  refine ⟨_, Ld.blk (by kernel_rfl) hB1 (by omega) rfl, ?_⟩
  apply scan_Reader_counted_call
  unfold scan_Reader_counted
  have hR1 := hR.fr0 f1
  have hR1' := hR1
  obtain ⟨f, p, c, hB, h0, h1, hc, hRow, hnb⟩ := hR1
  have a0 : (⟨b, 0, none⟩ : Addr).add 0 = ⟨b, 0, none⟩ := rfl
  have a1 : (⟨b, 0, none⟩ : Addr).add 1 = ⟨b, 1, none⟩ := add_mk _ _ _
  refine ⟨_, rfl, ?_⟩
  rw [a1]
  refine ⟨_, _, _, Ld.blk (by kernel_rfl) hB (by omega) h1, ?_⟩
  refine callV_in ?_
  apply scan_Reader_Short_c1_call
  unfold scan_Reader_Short_c1
  refine ⟨_, Ld.blk (by kernel_rfl) hB1 (by omega) rfl, ?_⟩
  -- what is put back where there is an error
  have bad : ∀ (w2 : World) (e2 : Int) (g : Nat → Value) (n6 : Int), Fr [b] w1 w2 → Blk w2 b 2 g → g 0 = .int .i64 e2 → e2 ≠ 0 → shortP (err, rest) = ([], (e2, rest)) → scan_Reader_counted_j1 (some ⟨b, 0, none⟩) none 0 0 p rest.length c n6 w2 (fun r5 w2 => ∃ p5 l5 c5, r5 = .slice p5 l5 c5 ∧ K (.slice p5 l5 c5) w2) := by
    intro w2 e2 g n6 f2 hB2 hg0 he hs
    unfold scan_Reader_counted_j1
    refine ⟨_, rfl, ?_⟩
    rw [a0, a0]
    refine ⟨_, Ld.blk (by kernel_rfl) hB2 (by omega) hg0, cond_ne (fun _ => ?_) fun hh => absurd hh he⟩
    refine ⟨_, rfl, ?_⟩
    rw [a1]
    refine Sto.blk (by kernel_rfl) hB2 (by omega) rfl rfl fun w3 f3 hB3 s3 => ?_
    have f13 : Fr [b] w1 w3 := f2.trans f3 fun z hz => .inl hz
    rw [hs] at hk
    refine ⟨_, _, _, rfl, hk none 0 w3 (f1.after f13) ⟨_, p, c, hB3, by rw [upd_ne _ _ _ (by omega)]; exact hg0, upd_same _ _ _, hc, rowKeep hRow f13 (fun hh z hz hm => by have := hnb hh z hz; simp at hm; omega), hnb⟩ (OB.nil _ _)⟩
  refine rdNum_c hR1' 1 (by omega) hlb (fun hbd w2 f2 hR2 => ⟨_, rfl, _, rfl, ?_⟩) fun he h1l w2 f2 hR2 => ⟨_, rfl, _, rfl, ?_⟩
  · -- no count
    obtain ⟨g, p2, c2, hB2, g0, g1, hc2, hRow2, hnb2⟩ := hR2
    have he2 : (if err = 0 then (12 : Int) else err) ≠ 0 := by split <;> omega
    have hs : shortP (err, rest) = ([], (if err = 0 then 12 else err, rest)) := by
      unfold shortP; rw [if_neg (by show ¬ (err = 0 ∧ (fl rest 0).toNat + 1 ≤ rest.length); omega)]
    refine ⟨_, rfl, ?_⟩
    rw [a1]
    refine ⟨_, _, _, Ld.blk (by kernel_rfl) hB2 (by omega) g1, ?_⟩
    rw [wrapu64 (by omega) (by omega)]
    refine cond_d (fun hh => by omega) fun _ => bad w2 _ g _ f2 hB2 g0 he2 hs
  · subst he
    obtain ⟨g, p2, c2, hB2, g0, g1, hc2, hRow2, hnb2⟩ := hR2
    have hR2 : RdAt w2 b 0 (rest.drop 1) := ⟨g, p2, c2, hB2, g0, g1, hc2, hRow2, hnb2⟩
    rw [numL_take1 h1l]
    refine ⟨_, rfl, ?_⟩
    rw [a1]
    refine ⟨_, _, _, Ld.blk (by kernel_rfl) hB2 (by omega) g1, ?_⟩
    have hdl : (rest.drop 1).length = rest.length - 1 := List.length_drop
    rw [wrapu64 (by omega) (by omega)]
    refine cond_d (fun hh => ?_) fun hh => ?_
    · have hs : shortP (0, rest) = ([], (12, rest)) := by
        unfold shortP; rw [if_neg (by show ¬ ((0 : Int) = 0 ∧ (fl rest 0).toNat + 1 ≤ rest.length); omega)]; rfl
      refine ⟨_, rfl, ?_⟩
      rw [a0]
      refine fail_c hB2 (by omega) g0 12 fun w3 g' f3 hB3 g0' hj s3 => ⟨_, rfl, ?_⟩
      exact bad w3 12 g' _ (f2.trans f3 fun z hz => .inl hz) hB3 (by simpa using g0') (by omega) hs
    · have hs : shortP (0, rest) = ((rest.drop 1).take (fl rest 0).toNat, (0, rest.drop ((fl rest 0).toNat + 1))) := by
        unfold shortP; rw [if_pos (by show (0 : Int) = 0 ∧ (fl rest 0).toNat + 1 ≤ rest.length; omega)]
      unfold scan_Reader_counted_j1
      refine ⟨_, rfl, ?_⟩
      rw [a0, a0]
      refine ⟨_, Ld.blk (by kernel_rfl) hB2 (by omega) g0, cond_f ?_⟩
      rw [wrap64 (by omega) (by omega)]
      refine cut_c hR2 (fl rest 0).toNat (by omega) (by omega) fun q d w3 f3 hR3 hO3 => ⟨_, _, _, rfl, ?_⟩
      rw [hs] at hk
      have el : ((rest.drop 1).take (fl rest 0).toNat).length = (fl rest 0).toNat := by rw [List.length_take]; omega
      have := hk q d w3 (f1.after (f2.trans f3 fun z hz => .inl hz)) (by rw [List.drop_drop] at hR3; rw [Nat.add_comm]; exact hR3) (by rw [el]; exact hO3.mono (by have := f1.size; have := f2.size; omega))
      rw [el] at this
      exact ⟨_, _, _, rfl, this⟩
theorem rdRestP_c (hR : RdAt w b err rest) (hlb : rest.length ≤ 1000000)
    (hk : ∀ q d w', Fr [b] w w' → RdAt w' b (restP (err, rest)).2.1 (restP (err, rest)).2.2 → OB w' q (restP (err, rest)).1.length d (restP (err, rest)).1 w.heap.size → K (.slice q (restP (err, rest)).1.length d) w') : callF Tryz.prog F_scan_Reader_Rest #[.pointer (some ⟨b, 0, none⟩)] w K := by
  apply scan_Reader_Rest_call
  unfold scan_Reader_Rest
  have hR' := hR
  obtain ⟨f, p, c, hB, h0, h1, hc, hRow, hnb⟩ := hR
  have a1 : (⟨b, 0, none⟩ : Addr).add 1 = ⟨b, 1, none⟩ := add_mk _ _ _
  refine ⟨_, rfl, ?_⟩
  rw [a1]
  refine ⟨_, _, _, Ld.blk (by kernel_rfl) hB (by omega) h1, ?_⟩
  refine rdBytes_c hR' rest.length hlb (fun hbd w' f' hR2 => ⟨_, _, _, rfl, ?_⟩) fun he _ q d w' f' hR2 hO => ⟨_, _, _, rfl, ?_⟩
  · have he : err ≠ 0 := by omega
    have e : restP (err, rest) = ([], (err, rest)) := by unfold restP; rw [if_neg he]
    rw [e] at hk
    rw [if_neg he] at hR2
    exact hk none 0 w' f' hR2 (OB.nil _ _)
  · have e : restP (err, rest) = (rest, (0, [])) := by unfold restP; rw [if_pos he]
    rw [e] at hk
    rw [List.drop_length] at hR2
    rw [List.take_length] at hO
    exact hk q d w' f' hR2 hO
theorem rdErr_c (hR : RdAt w b err rest) (hk : K (.int .i64 err) w) : callF Tryz.prog F_scan_fault_Err #[.pointer (some ⟨b, 0, none⟩)] w K := by
  obtain ⟨f, p, c, hB, h0, h1, hc, hRow, hnb⟩ := hR
  apply scan_fault_Err_call
  unfold scan_fault_Err
  have a0 : (⟨b, 0, none⟩ : Addr).add 0 = ⟨b, 0, none⟩ := rfl
  refine ⟨_, rfl, ?_⟩
  rw [a0]
  exact ⟨_, Ld.blk (by kernel_rfl) hB (by omega) h0, hk⟩
end
end Go.Sh
end

section
namespace Go.Sh
open Go Go.Fw Go.Proofs
set_option maxRecDepth 100000
set_option linter.unusedVariables false
structure TF where
  exp : Nat
  od : List UInt8
  sc : List UInt8
  p1 : Option Addr
  c1 : Nat
  p2 : Option Addr
  c2 : Nat
def TF.v (f : TF) : List Value := [.int .u64 (f.exp : Int), .slice f.p1 f.od.length f.c1, .slice f.p2 f.sc.length f.c2]
def TF.a (f : TF) : Value := .agg #[.int .u64 (f.exp : Int), .slice f.p1 f.od.length f.c1, .slice f.p2 f.sc.length f.c2]
structure TF.ok (w : World) (f : TF) : Prop where
  r1 : Row w f.p1 (f.od.map vb)
  h1 : f.od.length ≤ f.c1
  r2 : Row w f.p2 (f.sc.map vb)
  h2 : f.sc.length ≤ f.c2
  e : f.exp < 18446744073709551616
theorem TF.ok.fr0 {w w' : World} {f : TF} (h : TF.ok w f) (hf : Fr [] w w') : TF.ok w' f := ⟨h.r1.fr0 hf, h.h1, h.r2.fr0 hf, h.h2, h.e⟩
structure TF.own (w : World) (f : TF) (lo : Nat) : Prop where
  o1 : OB w f.p1 f.od.length f.c1 f.od lo
  o2 : OB w f.p2 f.sc.length f.c2 f.sc lo
  e : f.exp < 18446744073709551616
theorem TF.own.ok {w : World} {f : TF} {lo : Nat} (h : TF.own w f lo) : TF.ok w f := ⟨h.o1.row, h.o1.cap, h.o2.row, h.o2.cap, h.e⟩
theorem TF.own.fr0 {w w' : World} {f : TF} {lo : Nat} (h : TF.own w f lo) (hf : Fr [] w w') : TF.own w' f lo := ⟨h.o1.fr0 hf, h.o2.fr0 hf, h.e⟩
theorem TF.own.mono {w : World} {f : TF} {lo lo' : Nat} (h : TF.own w f lo) (hl : lo' ≤ lo) : TF.own w f lo' := ⟨h.o1.mono hl, h.o2.mono hl, h.e⟩
theorem TF.own.fr_sep {w w' : World} {f : TF} {lo b : Nat} (h : TF.own w f lo) (hf : Fr [b] w w') (hl : b < lo) : TF.own w' f lo := ⟨h.o1.fr_sep hf hl, h.o2.fr_sep hf hl, h.e⟩
def TAt (w : World) (k : Nat) (f : TF) : Prop := ∃ g, Blk w k 3 g ∧ ∀ j v, f.v[j]? = some v → g j = v
section
variable {w : World} {k : Nat} {f : TF} {K : Value → World → Prop}
theorem TAt.lt (h : TAt w k f) : k < w.heap.size := by obtain ⟨g, hB, _⟩ := h; exact hB.lt
theorem TAt.fr {w' : World} {L : List Nat} (h : TAt w k f) (hf : Fr L w w') (hk : k ∉ L) : TAt w' k f := by obtain ⟨g, hB, hv⟩ := h; exact ⟨g, hB.fr hf hk, hv⟩
theorem TAt.fr0 {w' : World} (h : TAt w k f) (hf : Fr [] w w') : TAt w' k f := h.fr hf (by simp)
def longF (f : TF) : Prop := 20 < f.od.length ∨ 20 < f.sc.length
instance (f : TF) : Decidable (longF f) := by unfold longF; infer_instance
structure UT where
  e : Int
  exp : Nat
  od : List UInt8
  sc : List UInt8
def UT.bad (e : Int) : UT := ⟨e, 0, [], []⟩
theorem numP_len (k : Nat) (s : Int × List UInt8) : (numP k s).2.2.length ≤ s.2.length := by unfold numP; split <;> simp
theorem shortP_len (s : Int × List UInt8) : (shortP s).2.2.length ≤ s.2.length ∧ (shortP s).1.length ≤ 255 := by
  unfold shortP
  split
  · refine ⟨by simp, ?_⟩
    show ((s.2.drop 1).take (fl s.2 0).toNat).length ≤ 255
    have := (fl s.2 0).toNat_lt
    rw [List.length_take]; omega
  · simp
end
end Go.Sh
end

section
namespace Go.Sh
open Go Go.Fw Go.Proofs
set_option maxRecDepth 100000
set_option linter.unusedVariables false
def keyK (ks : List KE) (s : Int) : List UInt8 := ((ks[idxK ks s]?).map KE.key).getD []
section
variable {w : World} {K : Value → World → Prop} {b lo : Nat} {p : Option Addr} {es : List RE} {N : Int}
end
end Go.Sh
end

section
namespace Go.Sh
open Go Go.Fw Go.Proofs
set_option maxRecDepth 100000
set_option linter.unusedVariables false
section
variable {w : World} {K : Value → World → Prop}
end
def RrAt (w : World) (b : Nat) (err : Int) (rest : List UInt8) : Prop :=
  ∃ f p c, Blk w b 2 f ∧ f 0 = .slice p rest.length c ∧ f 1 = .int .i64 err ∧ rest.length ≤ c ∧ Row w p (rest.map vb) ∧ (0 < rest.length → ∀ z ∈ blks p, z < b)
section
variable {w : World} {b : Nat} {err : Int} {rest : List UInt8} {K : Value → World → Prop}
theorem RrAt.lt (h : RrAt w b err rest) : b < w.heap.size := by obtain ⟨f, p, c, hB, _⟩ := h; exact hB.lt
theorem RrAt.fr {w' : World} {L : List Nat} (h : RrAt w b err rest) (hf : Fr L w w') (hL : ∀ z ∈ L, b < z) : RrAt w' b err rest := by
  obtain ⟨f, p, c, hB, h0, h1, hc, hR, hn⟩ := h
  exact ⟨f, p, c, hB.fr hf (fun hb => by have := hL b hb; omega), h0, h1, hc, rowKeep hR hf (fun h0 z hz hz' => by have := hL z hz'; have := hn h0 z hz; omega), hn⟩
theorem RrAt.fr0 {w' : World} (h : RrAt w b err rest) (hf : Fr [] w w') : RrAt w' b err rest := h.fr hf (by simp)
end
end Go.Sh
end

section
namespace Go.Sh
open Go Go.Fw Go.Proofs
set_option maxRecDepth 100000
set_option linter.unusedVariables false
section
variable {w : World} {f : TF} {K : Value → World → Prop}
end
section
variable {w : World} {K : Value → World → Prop} {r lo : Nat} {q : Option Addr} {rs : List RR}
theorem RefAt.sq {s : Int} (h : RefAt w r q rs lo) (hs : hasK (rs.map RR.ke) s) : ∃ e, rs[idxK (rs.map RR.ke) s]? = some e ∧ (e.sq : Int) = s ∧ e ∈ rs ∧ keyK (rs.map RR.ke) s = e.key := by
  obtain ⟨e, h1, h2⟩ := hasK_at hs
  unfold keyK
  rw [h1]
  rw [List.getElem?_map] at h1
  cases he : rs[idxK (rs.map RR.ke) s]? with
  | none => rw [he] at h1; cases h1
  | some x =>
    rw [he] at h1
    cases h1
    exact ⟨x, rfl, h2, List.mem_of_getElem? he, rfl⟩
end
end Go.Sh
end
