/- A part of a proof of a given law of this program: lemmas, printed forms of its functions, contracts. It has no conditions of its own. -/
import Derived.Test.YtcfealonnakdcaaGreatMM
import Derived.Test.YtcfealonnakdcaaGreatMC
import Derived.Test.YtcfealonnakdcaaGreatMFw3
import Derived.Test.YtcfealonnakdcaaGreatML19
import Derived.Test.YtcfealonnakdcaaGreatMSh8
import Derived.Test.YtcfealonnakdcaaGreatMA
import Derived.Test.YtcfealonnakdcaaGreatMR

section
namespace Go.Sh
open Go Go.Fw Go.Proofs
set_option maxRecDepth 100000
set_option linter.unusedVariables false
def FrA (b : Nat) (w w' : World) : Prop := ∃ L, (∀ z ∈ L, b ≤ z) ∧ Fr L w w'
theorem FrA.refl (b : Nat) (w : World) : FrA b w w := ⟨[], by simp, Fr.refl _ _⟩
theorem FrA.of {b : Nat} {w w' : World} {L : List Nat} (f : Fr L w w') (h : ∀ z ∈ L, b ≤ z) : FrA b w w' := ⟨L, h, f⟩
theorem FrA.of0 {b : Nat} {w w' : World} (f : Fr [] w w') : FrA b w w' := ⟨[], by simp, f⟩
theorem FrA.trans {b : Nat} {w w1 w2 : World} (h : FrA b w w1) (k : FrA b w1 w2) : FrA b w w2 := by
  obtain ⟨L, h1, h2⟩ := h
  obtain ⟨M, k1, k2⟩ := k
  exact ⟨L ++ M, fun z hz => by rcases List.mem_append.1 hz with hz | hz; exact h1 z hz; exact k1 z hz, (h2.mono (fun z hz => List.mem_append_left _ hz)).trans k2 (fun z hz => .inl (List.mem_append_right _ hz))⟩
theorem FrA.size {b : Nat} {w w' : World} (h : FrA b w w') : w.heap.size ≤ w'.heap.size := by obtain ⟨L, _, h2⟩ := h; exact h2.size
theorem FrA.news {b : Nat} {w0 w w' : World} (h : FrA b w w') (f : Fr [] w0 w) (hb : w0.heap.size ≤ b) : Fr [] w0 w' := by
  obtain ⟨L, h1, h2⟩ := h
  exact f.trans h2 fun z hz => .inr (by have := h1 z hz; omega)
theorem FrA.mono {b b' : Nat} {w w' : World} (h : FrA b w w') (hb : b' ≤ b) : FrA b' w w' := by
  obtain ⟨L, h1, h2⟩ := h
  exact ⟨L, fun z hz => by have := h1 z hz; omega, h2⟩
theorem FrA.row {b : Nat} {w w' : World} {p : Option Addr} {xs : List UInt8} (h : FrA b w w') (hR : Row w p (xs.map vb)) (hp : 0 < xs.length → ∀ z ∈ blks p, z < b) : Row w' p (xs.map vb) := by
  obtain ⟨L, h1, h2⟩ := h
  exact rowKeep hR h2 fun h0 z hz hm => by have := h1 z hm; have := hp h0 z hz; omega
theorem FrA.blk {b k n : Nat} {w w' : World} {f : Nat → Value} (h : FrA b w w') (hB : Blk w k n f) (hk : k < b) : Blk w' k n f := by
  obtain ⟨L, h1, h2⟩ := h
  exact hB.fr h2 fun hm => by have := h1 k hm; omega
theorem rowLt {w : World} {p : Option Addr} {xs : List UInt8} {b : Nat} (hR : Row w p (xs.map vb)) (hb : w.heap.size ≤ b) : 0 < xs.length → ∀ z ∈ blks p, z < b := fun h0 z hz => by
  have := Row.blk_lt hR h0 _ hz; omega
def WrAt (w : World) (b : Nat) (xs : List UInt8) : Prop :=
  ∃ f p c, Blk w b 2 f ∧ f 0 = .int .i64 0 ∧ f 1 = .slice p xs.length c ∧ OB w p xs.length c xs (b + 1)
section
variable {w : World} {b : Nat} {xs : List UInt8} {K : Value → World → Prop}
theorem WrAt.fr {w' : World} {L : List Nat} (h : WrAt w b xs) (hf : Fr L w w') (hL : ∀ z ∈ L, z < b) : WrAt w' b xs := by
  obtain ⟨f, p, c, hB, h0, h1, hO⟩ := h
  exact ⟨f, p, c, hB.fr hf (fun hb => by have := hL b hb; omega), h0, h1, hO.fr hf fun z hz hm => by have := hO.2.2 z hz; have := hL z hm; omega⟩
theorem WrAt.fr0 {w' : World} (h : WrAt w b xs) (hf : Fr [] w w') : WrAt w' b xs := h.fr hf (by simp)
theorem scanWrite_c (h : ∀ w', Fr [] w w' → WrAt w' w.heap.size [] → w'.heap.size = w.heap.size + 1 → K (.pointer (some ⟨w.heap.size, 0, none⟩)) w') : callF Tryz.prog F_scan_Write #[] w K := by
  apply scan_Write_call
  unfold scan_Write
  exact New.intro fun w1 f1 hB s1 => h w1 f1 ⟨_, none, 0, hB, rfl, rfl, OB.nil _ _⟩ s1
theorem wrPut_c (hW : WrAt w b xs) {q : Option Addr} {m d : Nat} {ys : List UInt8} (hR : Row w q (ys.map vb)) (hm : m = ys.length) (hq : 0 < ys.length → ∀ z ∈ blks q, z ≠ b) (hlen : xs.length + m ≤ 1000000)
    (hk : ∀ w', FrA b w w' → WrAt w' b (xs ++ ys) → K (.pointer (some ⟨b, 0, none⟩)) w') : callF Tryz.prog F_scan_Writer_put #[.pointer (some ⟨b, 0, none⟩), .slice q m d, .int .i64 0] w K := by
  obtain ⟨f, p, c, hB, h0, h1, hO⟩ := hW
  apply scan_Writer_put_call
  unfold scan_Writer_put
  have a0 : (⟨b, 0, none⟩ : Addr).add 0 = ⟨b, 0, none⟩ := rfl
  have a1 : (⟨b, 0, none⟩ : Addr).add 1 = ⟨b, 1, none⟩ := add_mk _ _ _
  refine ⟨_, rfl, ?_⟩
  rw [a0]
  refine fail_c hB (by omega) h0 0 fun w1 f' f1 hB1 h0' hj s1 => ⟨_, rfl, ?_⟩
  refine cond_t ⟨_, rfl, ?_⟩
  rw [a1]
  have hb := hB.lt
  have hO1 := hO.fr f1 fun z hz hm => by have := hO.2.2 z hz; simp at hm; omega
  refine ⟨_, _, _, Ld.blk (by kernel_rfl) hB1 (by omega) (by rw [hj 1 (by omega)]; exact h1), ?_⟩
  refine pushN (m := m) hO1 (by omega) (rowKeep hR f1 fun h0 z hz hm => hq h0 z hz (by simpa using hm)) hm (by omega) fun p' c' w2 f2 hO2 => ⟨_, rfl, ?_⟩
  rw [a1]
  have hB2 := hB1.fr f2 fun hm => by have := hO.2.2 b hm; omega
  refine Sto.blk (by kernel_rfl) hB2 (by omega) rfl rfl fun w3 f3 hB3 s3 => ?_
  refine hk w3 (((FrA.of f1 (by simp)).trans (FrA.of f2 fun z hz => by have := hO.2.2 z hz; omega)).trans (FrA.of f3 (by simp))) ⟨_, p', c', hB3, ?_, ?_, ?_⟩
  · rw [upd_ne _ _ _ (by omega)]; simpa using h0'
  · rw [upd_same, List.length_append, hm]
  · rw [List.length_append, ← hm]
    exact hO2.fr f3 fun z hz hm => by have := hO2.2.2 z hz; simp at hm; omega
theorem wrNum_c (hW : WrAt w b xs) {n size : Nat} (h8 : size ≤ 8) (hn : n < 256 ^ size) (hlen : xs.length ≤ 900000)
    (hk : ∀ w', FrA b w w' → WrAt w' b (xs ++ putL n size) → K (.pointer (some ⟨b, 0, none⟩)) w') : callF Tryz.prog F_scan_Writer_Num #[.pointer (some ⟨b, 0, none⟩), .int .u64 (n : Int), .int .i64 (size : Int)] w K := by
  apply scan_Writer_Num_call
  unfold scan_Writer_Num
  have hb : b < w.heap.size := by obtain ⟨f, p, c, hB, _⟩ := hW; exact hB.lt
  refine Put_c h8 hn fun q d w1 f1 hO1 => ⟨_, _, _, _, rfl, ?_⟩
  refine wrPut_c (hW.fr0 f1) hO1.row hO1.2.1 (fun _ z hz => by have := hO1.2.2 z hz; omega) (by omega) fun w2 f2 hW2 => ⟨_, rfl, hk w2 ((FrA.of0 f1).trans f2) hW2⟩
theorem wrBytes_c (hW : WrAt w b xs) {q : Option Addr} {m d : Nat} {rs : List (List UInt8)} (hR : RowB w q rs) (hm : m = rs.length) (hm2 : m ≤ 1000) (hl : xs.length ≤ 400000) (hl2 : rs.flatten.length ≤ 400000)
    (hk : ∀ w', FrA b w w' → WrAt w' b (xs ++ rs.flatten) → K (.pointer (some ⟨b, 0, none⟩)) w') : callF Tryz.prog F_scan_Writer_Bytes #[.pointer (some ⟨b, 0, none⟩), .slice q m d] w K := by
  apply scan_Writer_Bytes_call
  unfold scan_Writer_Bytes
  have hb : b < w.heap.size := by obtain ⟨f, p, c, hB, _⟩ := hW; exact hB.lt
  refine Join_c hR hm (by omega) (by omega) fun q1 d1 w1 f1 hO1 => ⟨_, _, _, rfl, ?_⟩
  refine wrPut_c (hW.fr0 f1) hO1.row rfl (fun _ z hz => by have := hO1.2.2 z hz; omega) (by omega) fun w2 f2 hW2 => ⟨_, rfl, hk w2 ((FrA.of0 f1).trans f2) hW2⟩
theorem putL1 (n : Nat) : putL n 1 = [UInt8.ofNat n] := by
  unfold putL
  show [UInt8.ofNat (n / 256 ^ (1 - 1 - 0))] = _
  simp
theorem wrShort_c (hW : WrAt w b xs) {q : Option Addr} {m d : Nat} {ys : List UInt8} (hR : Row w q (ys.map vb)) (hm : m = ys.length) (hd : m ≤ d) (h255 : m ≤ 255) (hq : 0 < ys.length → ∀ z ∈ blks q, z < b) (hl : xs.length ≤ 300000)
    (hk : ∀ w', FrA b w w' → WrAt w' b (xs ++ UInt8.ofNat ys.length :: ys) → K (.pointer (some ⟨b, 0, none⟩)) w') : callF Tryz.prog F_scan_Writer_Short #[.pointer (some ⟨b, 0, none⟩), .slice q m d] w K := by
  apply scan_Writer_Short_call
  unfold scan_Writer_Short
  refine cond_d (fun hh => by omega) fun _ => ?_
  rw [wrapu64 (by omega) (by omega)]
  refine wrNum_c (n := m) (size := 1) hW (by omega) (by omega) (by omega) fun w1 f1 hW1 => ⟨_, rfl, ?_⟩
  have hR1 := f1.row hR hq
  refine ⟨_, _, _, Ef.new (v := .slice (some ⟨w1.heap.size, 0, none⟩) 1 1) (cs := ([.slice q m d] : List Value).toArray) (e := T_S_uint8) (by kernel_rfl) fun w2 f2 hB2 s2 => ?_⟩
  have hRB := RowB.of1 hB2.rowL (byS (hR1.fr0 f2) hm hd)
  have ef : [ys].flatten = ys := by simp
  refine wrBytes_c (m := 1) (hW1.fr0 f2) hRB rfl (by omega) (by rw [List.length_append, putL_len]; omega) (by rw [ef]; omega) fun w3 f3 hW3 => ⟨_, rfl, ?_⟩
  rw [ef, putL1, List.append_assoc, hm] at hW3
  exact hk w3 ((f1.trans (FrA.of0 f2)).trans f3) hW3
theorem wrDone_c (hW : WrAt w b xs) (hl : xs.length ≤ 1000000) (hk : ∀ q d w', Fr [] w w' → OB w' q xs.length d xs w.heap.size → K (.tuple #[.slice q xs.length d, .int .i64 0]) w') : callF Tryz.prog F_scan_Writer_Done #[.pointer (some ⟨b, 0, none⟩)] w K := by
  obtain ⟨f, p, c, hB, h0, h1, hO⟩ := hW
  apply scan_Writer_Done_call
  unfold scan_Writer_Done
  have a0 : (⟨b, 0, none⟩ : Addr).add 0 = ⟨b, 0, none⟩ := rfl
  have a1 : (⟨b, 0, none⟩ : Addr).add 1 = ⟨b, 1, none⟩ := add_mk _ _ _
  refine ⟨_, rfl, ?_⟩
  rw [a0, a0]
  refine ⟨_, Ld.blk (by kernel_rfl) hB (by omega) h0, cond_f ⟨_, rfl, ?_⟩⟩
  rw [a1]
  refine ⟨_, _, _, Ld.blk (by kernel_rfl) hB (by omega) h1, ?_⟩
  exact slices_Clone_c hO.row (by simp) (by omega) (cells_vb _) fun q d w1 f1 hO1 hn1 => ⟨_, _, _, rfl, hk q d w1 f1 ⟨hO1, rfl, hn1⟩⟩
end
def numP (k : Nat) (s : Int × List UInt8) : Nat × (Int × List UInt8) := if s.1 = 0 ∧ k ≤ s.2.length then (numL (s.2.take k), (0, s.2.drop k)) else (0, (if s.1 = 0 then 12 else s.1, s.2))
def shortP (s : Int × List UInt8) : List UInt8 × (Int × List UInt8) :=
  if s.1 = 0 ∧ (fl s.2 0).toNat + 1 ≤ s.2.length then ((s.2.drop 1).take (fl s.2 0).toNat, (0, s.2.drop ((fl s.2 0).toNat + 1))) else ([], (if s.1 = 0 then 12 else s.1, s.2))
def endP (s : Int × List UInt8) : Int := if s.1 = 0 then (if s.2.length = 0 then 0 else 10) else s.1
theorem numL_take1 {rest : List UInt8} (h : 1 ≤ rest.length) : numL (rest.take 1) = (fl rest 0).toNat := by
  cases rest with
  | nil => simp at h
  | cons x r => simp [numL, fl]
section
variable {w : World} {b : Nat} {err : Int} {rest : List UInt8} {K : Value → World → Prop}
theorem rdNumP_c (hR : RdAt w b err rest) (n : Nat) (h8 : n ≤ 8) (hlb : rest.length ≤ 1000000)
    (hk : ∀ w', Fr [b] w w' → RdAt w' b (numP n (err, rest)).2.1 (numP n (err, rest)).2.2 → K (.int .u64 ((numP n (err, rest)).1 : Int)) w') : callF Tryz.prog F_scan_Reader_Num #[.pointer (some ⟨b, 0, none⟩), .int .i64 (n : Int)] w K := by
  refine rdNum_c hR n h8 hlb (fun hb w' f h => ?_) fun he hn w' f h => ?_
  · have e : numP n (err, rest) = (0, (if err = 0 then 12 else err, rest)) := by unfold numP; rw [if_neg (by show ¬ (err = 0 ∧ n ≤ rest.length); omega)]
    rw [e] at hk
    exact hk w' f h
  · have e : numP n (err, rest) = (numL (rest.take n), (0, rest.drop n)) := by unfold numP; rw [if_pos (by show err = 0 ∧ n ≤ rest.length; omega)]
    rw [e] at hk
    exact hk w' f h
set_option maxHeartbeats 1000000 in
theorem rdShortP_c (hR : RdAt w b err rest) (hlb : rest.length ≤ 1000000)
    (hk : ∀ q d w', Fr [b] w w' → RdAt w' b (shortP (err, rest)).2.1 (shortP (err, rest)).2.2 → OB w' q (shortP (err, rest)).1.length d (shortP (err, rest)).1 w.heap.size → K (.slice q (shortP (err, rest)).1.length d) w') : callF Tryz.prog F_scan_Reader_Short #[.pointer (some ⟨b, 0, none⟩)] w K := by
  apply scan_Reader_Short_call
  unfold scan_Reader_Short
  have hb := hR.lt
  refine New.intro fun w1 f1 hB1 s1 => ?_
  obtain ⟨k1, hk1⟩ : ∃ k, k = w.heap.size := ⟨_, rfl⟩
  rw [← hk1] at hB1 ⊢
  have hB1 : Blk w1 k1 1 (fun i => (#[.pointer (some ⟨b, 0, none⟩)] : Array Value).getD i undef) := hB1
  refine ⟨_, Ld.blk (by kernel_rfl) hB1 (by omega) rfl, ?_⟩
  apply scan_Reader_counted_call
  unfold scan_Reader_counted
  have hR1 := hR.fr0 f1
  have hR1' := hR1
  obtain ⟨f, p, c, hB, h0, h1, hc, hRow, hnb⟩ := hR1
  have a0 : (⟨b, 0, none⟩ : Addr).add 0 = ⟨b, 0, none⟩ := rfl
  have a1 : (⟨b, 0, none⟩ : Addr).add 1 = ⟨b, 1, none⟩ := add_mk _ _ _
  refine ⟨_, rfl, ?_⟩
  rw [a1]
  refine ⟨_, _, _, Ld.blk (by kernel_rfl) hB (by omega) h1, ?_⟩
  refine callV_in ?_
  apply scan_Reader_Short_c1_call
  unfold scan_Reader_Short_c1
  refine ⟨_, Ld.blk (by kernel_rfl) hB1 (by omega) rfl, ?_⟩
  -- what is put back where there is an error
  have bad : ∀ (w2 : World) (e2 : Int) (g : Nat → Value) (n6 : Int), Fr [b] w1 w2 → Blk w2 b 2 g → g 0 = .int .i64 e2 → e2 ≠ 0 → shortP (err, rest) = ([], (e2, rest)) → scan_Reader_counted_j1 (some ⟨b, 0, none⟩) none 0 0 p rest.length c n6 w2 (fun r5 w2 => ∃ p5 l5 c5, r5 = .slice p5 l5 c5 ∧ K (.slice p5 l5 c5) w2) := by
    intro w2 e2 g n6 f2 hB2 hg0 he hs
    unfold scan_Reader_counted_j1
    refine ⟨_, rfl, ?_⟩
    rw [a0, a0]
    refine ⟨_, Ld.blk (by kernel_rfl) hB2 (by omega) hg0, cond_ne (fun _ => ?_) fun hh => absurd hh he⟩
    refine ⟨_, rfl, ?_⟩
    rw [a1]
    refine Sto.blk (by kernel_rfl) hB2 (by omega) rfl rfl fun w3 f3 hB3 s3 => ?_
    have f13 : Fr [b] w1 w3 := f2.trans f3 fun z hz => .inl hz
    rw [hs] at hk
    refine ⟨_, _, _, rfl, hk none 0 w3 (f1.after f13) ⟨_, p, c, hB3, by rw [upd_ne _ _ _ (by omega)]; exact hg0, upd_same _ _ _, hc, rowKeep hRow f13 (fun hh z hz hm => by have := hnb hh z hz; simp at hm; omega), hnb⟩ (OB.nil _ _)⟩
  refine rdNum_c hR1' 1 (by omega) hlb (fun hbd w2 f2 hR2 => ⟨_, rfl, _, rfl, ?_⟩) fun he h1l w2 f2 hR2 => ⟨_, rfl, _, rfl, ?_⟩
  · -- no count
    obtain ⟨g, p2, c2, hB2, g0, g1, hc2, hRow2, hnb2⟩ := hR2
    have he2 : (if err = 0 then (12 : Int) else err) ≠ 0 := by split <;> omega
    have hs : shortP (err, rest) = ([], (if err = 0 then 12 else err, rest)) := by
      unfold shortP; rw [if_neg (by show ¬ (err = 0 ∧ (fl rest 0).toNat + 1 ≤ rest.length); omega)]
    refine ⟨_, rfl, ?_⟩
    rw [a1]
    refine ⟨_, _, _, Ld.blk (by kernel_rfl) hB2 (by omega) g1, ?_⟩
    rw [wrapu64 (by omega) (by omega)]
    refine cond_d (fun hh => by omega) fun _ => bad w2 _ g _ f2 hB2 g0 he2 hs
  · subst he
    obtain ⟨g, p2, c2, hB2, g0, g1, hc2, hRow2, hnb2⟩ := hR2
    have hR2 : RdAt w2 b 0 (rest.drop 1) := ⟨g, p2, c2, hB2, g0, g1, hc2, hRow2, hnb2⟩
    rw [numL_take1 h1l]
    refine ⟨_, rfl, ?_⟩
    rw [a1]
    refine ⟨_, _, _, Ld.blk (by kernel_rfl) hB2 (by omega) g1, ?_⟩
    have hdl : (rest.drop 1).length = rest.length - 1 := List.length_drop
    rw [wrapu64 (by omega) (by omega)]
    refine cond_d (fun hh => ?_) fun hh => ?_
    · have hs : shortP (0, rest) = ([], (12, rest)) := by
        unfold shortP; rw [if_neg (by show ¬ ((0 : Int) = 0 ∧ (fl rest 0).toNat + 1 ≤ rest.length); omega)]; rfl
      refine ⟨_, rfl, ?_⟩
      rw [a0]
      refine fail_c hB2 (by omega) g0 12 fun w3 g' f3 hB3 g0' hj s3 => ⟨_, rfl, ?_⟩
      exact bad w3 12 g' _ (f2.trans f3 fun z hz => .inl hz) hB3 (by simpa using g0') (by omega) hs
    · have hs : shortP (0, rest) = ((rest.drop 1).take (fl rest 0).toNat, (0, rest.drop ((fl rest 0).toNat + 1))) := by
        unfold shortP; rw [if_pos (by show (0 : Int) = 0 ∧ (fl rest 0).toNat + 1 ≤ rest.length; omega)]
      unfold scan_Reader_counted_j1
      refine ⟨_, rfl, ?_⟩
      rw [a0, a0]
      refine ⟨_, Ld.blk (by kernel_rfl) hB2 (by omega) g0, cond_f ?_⟩
      rw [wrap64 (by omega) (by omega)]
      refine cut_c hR2 (fl rest 0).toNat (by omega) (by omega) fun q d w3 f3 hR3 hO3 => ⟨_, _, _, rfl, ?_⟩
      rw [hs] at hk
      have el : ((rest.drop 1).take (fl rest 0).toNat).length = (fl rest 0).toNat := by rw [List.length_take]; omega
      have := hk q d w3 (f1.after (f2.trans f3 fun z hz => .inl hz)) (by rw [List.drop_drop] at hR3; rw [Nat.add_comm]; exact hR3) (by rw [el]; exact hO3.mono (by have := f1.size; have := f2.size; omega))
      rw [el] at this
      exact ⟨_, _, _, rfl, this⟩
end
end Go.Sh
end

section
namespace Go.Sh
open Go Go.Fw Go.Proofs
set_option maxRecDepth 100000
set_option linter.unusedVariables false
structure TF where
  exp : Nat
  od : List UInt8
  sc : List UInt8
  p1 : Option Addr
  c1 : Nat
  p2 : Option Addr
  c2 : Nat
def TF.v (f : TF) : List Value := [.int .u64 (f.exp : Int), .slice f.p1 f.od.length f.c1, .slice f.p2 f.sc.length f.c2]
def TF.a (f : TF) : Value := .agg #[.int .u64 (f.exp : Int), .slice f.p1 f.od.length f.c1, .slice f.p2 f.sc.length f.c2]
theorem TF.v_one (f : TF) : ∀ u ∈ f.v, u.oneCell' = true := by
  intro u hu
  simp [TF.v] at hu
  rcases hu with rfl | rfl | rfl <;> rfl
structure TF.ok (w : World) (f : TF) : Prop where
  r1 : Row w f.p1 (f.od.map vb)
  h1 : f.od.length ≤ f.c1
  r2 : Row w f.p2 (f.sc.map vb)
  h2 : f.sc.length ≤ f.c2
  e : f.exp < 18446744073709551616
theorem TF.ok.fr0 {w w' : World} {f : TF} (h : TF.ok w f) (hf : Fr [] w w') : TF.ok w' f := ⟨h.r1.fr0 hf, h.h1, h.r2.fr0 hf, h.h2, h.e⟩
structure TF.own (w : World) (f : TF) (lo : Nat) : Prop where
  o1 : OB w f.p1 f.od.length f.c1 f.od lo
  o2 : OB w f.p2 f.sc.length f.c2 f.sc lo
  e : f.exp < 18446744073709551616
theorem TF.own.ok {w : World} {f : TF} {lo : Nat} (h : TF.own w f lo) : TF.ok w f := ⟨h.o1.row, h.o1.cap, h.o2.row, h.o2.cap, h.e⟩
theorem TF.own.fr0 {w w' : World} {f : TF} {lo : Nat} (h : TF.own w f lo) (hf : Fr [] w w') : TF.own w' f lo := ⟨h.o1.fr0 hf, h.o2.fr0 hf, h.e⟩
theorem TF.own.mono {w : World} {f : TF} {lo lo' : Nat} (h : TF.own w f lo) (hl : lo' ≤ lo) : TF.own w f lo' := ⟨h.o1.mono hl, h.o2.mono hl, h.e⟩
theorem TF.own.fr_sep {w w' : World} {f : TF} {lo b : Nat} (h : TF.own w f lo) (hf : Fr [b] w w') (hl : b < lo) : TF.own w' f lo := ⟨h.o1.fr_sep hf hl, h.o2.fr_sep hf hl, h.e⟩
def tf0 : TF := ⟨0, [], [], none, 0, none, 0⟩
theorem tf0_own (w : World) (lo : Nat) : TF.own w tf0 lo := ⟨OB.nil _ _, OB.nil _ _, by show 0 < _; omega⟩
def TAt (w : World) (k : Nat) (f : TF) : Prop := ∃ g, Blk w k 3 g ∧ ∀ j v, f.v[j]? = some v → g j = v
section
variable {w : World} {k : Nat} {f : TF} {K : Value → World → Prop}
theorem TAt.lt (h : TAt w k f) : k < w.heap.size := by obtain ⟨g, hB, _⟩ := h; exact hB.lt
theorem TAt.fr {w' : World} {L : List Nat} (h : TAt w k f) (hf : Fr L w w') (hk : k ∉ L) : TAt w' k f := by obtain ⟨g, hB, hv⟩ := h; exact ⟨g, hB.fr hf hk, hv⟩
theorem TAt.fr0 {w' : World} (h : TAt w k f) (hf : Fr [] w w') : TAt w' k f := h.fr hf (by simp)
theorem TAt.ldF (h : TAt w k f) : Ld Tryz.prog T_token_Fields (.pointer (some ⟨k, 0, none⟩)) w f.a := by
  obtain ⟨g, hB, hv⟩ := h
  exact LdA (m := 3) (by kernel_rfl) (by kernel_rfl) hB (o := 0) (by omega) f.v rfl fun j v hj => by rw [Nat.zero_add]; exact hv j v hj
theorem TAt.ldG (h : TAt w k f) : Ld Tryz.prog T_ref20_Fields (.pointer (some ⟨k, 0, none⟩)) w f.a := by
  obtain ⟨g, hB, hv⟩ := h
  exact LdA (m := 3) (by kernel_rfl) (by kernel_rfl) hB (o := 0) (by omega) f.v rfl fun j v hj => by rw [Nat.zero_add]; exact hv j v hj
theorem TAt.ldE (h : TAt w k f) : Ld Tryz.prog T_uint64 (.pointer (some ((⟨k, 0, none⟩ : Addr).add 0))) w (.int .u64 (f.exp : Int)) := by
  obtain ⟨g, hB, hv⟩ := h
  rw [add_mk]; exact Ld.blk (by kernel_rfl) hB (by omega) (hv 0 _ rfl)
theorem TAt.ldO (h : TAt w k f) : Ld Tryz.prog T_S_uint8 (.pointer (some ((⟨k, 0, none⟩ : Addr).add 1))) w (.slice f.p1 f.od.length f.c1) := by
  obtain ⟨g, hB, hv⟩ := h
  rw [add_mk]; exact Ld.blk (by kernel_rfl) hB (by omega) (hv 1 _ rfl)
theorem TAt.ldS (h : TAt w k f) : Ld Tryz.prog T_S_uint8 (.pointer (some ((⟨k, 0, none⟩ : Addr).add 2))) w (.slice f.p2 f.sc.length f.c2) := by
  obtain ⟨g, hB, hv⟩ := h
  rw [add_mk]; exact Ld.blk (by kernel_rfl) hB (by omega) (hv 2 _ rfl)
theorem newT {t : TypeId} {K : Nat → World → Prop} (f : TF) (h : ∀ w', Fr [] w w' → TAt w' w.heap.size f → w'.heap.size = w.heap.size + 1 → K w.heap.size w') : New #[.int .u64 (f.exp : Int), .slice f.p1 f.od.length f.c1, .slice f.p2 f.sc.length f.c2] t w K :=
  New.intro fun w1 f1 hB s1 => h w1 f1 ⟨_, hB, fun j v hj => by
    show Array.getD ⟨f.v⟩ j undef = v
    rw [Array.getD_eq_getD_getElem?, List.getElem?_toArray, hj]; rfl⟩ s1
theorem stoTAt {t : TypeId} (ht : res Tryz.prog (sizeOf t) = some 3) {g : Nat → Value} (hB : Blk w k 3 g) (f : TF) {K : World → Prop} (h : ∀ w', Fr [k] w w' → TAt w' k f → w'.heap.size = w.heap.size → K w') : ∃ w', Sto Tryz.prog t (.pointer (some ⟨k, 0, none⟩)) f.a w w' ∧ K w' :=
  Sto.agg (m := 3) (cs := f.v) ht rfl hB (by omega) f.v_one fun w' hf hB' hs => h w' hf ⟨_, hB', fun j v hj => by
    obtain ⟨q1, q2⟩ := List.getElem?_eq_some_iff.1 hj
    unfold updN
    rw [dif_pos ⟨by omega, by omega⟩]
    simpa using q2⟩ hs
theorem putT (f : TF) {K : Nat → World → Prop} (h : ∀ w', Fr [] w w' → TAt w' w.heap.size f → K w.heap.size w') :
    ∃ z, Pu Tryz.prog (zeroValue T_token_Fields) z ∧ New z.cells T_token_Fields w fun k w2 => ∃ w3, Sto Tryz.prog T_token_Fields (.pointer (some ⟨k, 0, none⟩)) f.a w2 w3 ∧ K k w3 :=
  newZ (s := 3) (by kernel_rfl) fun w2 g2 f2 hB2 s2 => stoTAt (by kernel_rfl) hB2 f fun w3 f3 hT s3 => h w3 (f2.st f3 (Nat.le_refl _)) hT
theorem tellT {g : Nat → Value} (hB : Blk w k 3 g) (f : TF) {e : Int} (h : ∀ w', Fr [k] w w' → K (.tuple #[f.a, .int .i64 e]) w') :
    ∃ w2, Sto Tryz.prog T_token_Fields (.pointer (some ⟨k, 0, none⟩)) f.a w w2 ∧ ∃ (a4 : Addr) (v4 : Value), (.pointer (some ⟨k, 0, none⟩) : Value) = .pointer (some a4) ∧ (loadVar T_token_Fields a4).run Tryz.prog w2 = .ok v4 w2 ∧ K (.tuple #[v4, .int .i64 e]) w2 :=
  stoTAt (by kernel_rfl) hB f fun w3 f3 hT s3 => ⟨_, _, rfl, hT.ldF, h w3 f3⟩
def longF (f : TF) : Prop := 20 < f.od.length ∨ 20 < f.sc.length
instance (f : TF) : Decidable (longF f) := by unfold longF; infer_instance
theorem tokLong_c (hk : ∀ w', Fr [] w w' → K (.bool (decide (longF f))) w') : callF Tryz.prog F_token_Fields_long #[f.a] w K := by
  apply token_Fields_long_call
  unfold token_Fields_long
  refine newT f fun w1 f1 hT s1 => ⟨_, _, _, hT.ldO, _, _, _, hT.ldS, _, PuMax, ?_⟩
  have := hk w1 f1
  have e : decide (longF f) = decide (max (f.od.length : Int) (f.sc.length : Int) > 20) := by
    apply decide_eq_decide.2; unfold longF; omega
  rw [e] at this; exact this
def textL (f : TF) : List UInt8 := putL f.exp 8 ++ (UInt8.ofNat f.od.length :: f.od) ++ (UInt8.ofNat f.sc.length :: f.sc)
def textE (f : TF) : Int := if longF f then 15 else 0
def textR (f : TF) : List UInt8 := if longF f then [] else textL f
theorem textL_len (f : TF) : (textL f).length = 10 + f.od.length + f.sc.length := by simp [textL, putL_len]; omega
set_option maxHeartbeats 1000000 in
theorem tokText_c (hf : TF.ok w f) (hk : ∀ q d w', Fr [] w w' → OB w' q (textR f).length d (textR f) w.heap.size → K (.tuple #[.slice q (textR f).length d, .int .i64 (textE f)]) w') : callF Tryz.prog F_token_Text #[f.a] w K := by
  apply token_Text_call
  unfold token_Text
  refine newT f fun w1 f1 hT s1 => ⟨_, _, _, _, _, _, _, hT.ldF, tokLong_c fun w2 f2 => ⟨_, rfl, ?_⟩⟩
  have f02 := f1.then f2
  unfold textR textE at hk
  by_cases hl : longF f
  · rw [if_pos hl, if_pos hl] at hk
    rw [decide_eq_true hl]
    exact cond_t (hk none 0 w2 f02 (OB.nil _ _))
  · rw [if_neg hl, if_neg hl] at hk
    rw [decide_eq_false hl]
    have hl' : f.od.length ≤ 20 ∧ f.sc.length ≤ 20 := by unfold longF at hl; omega
    have hT2 := hT.fr0 f2
    obtain ⟨k1, hk1⟩ : ∃ k, k = w.heap.size := ⟨_, rfl⟩
    rw [← hk1] at hT2 ⊢
    refine cond_f ⟨fun w' => FrA w2.heap.size w2 w', Drw.intro fun w3 f3 s3 => ?_⟩
    have hkl := hT2.lt
    have keep : ∀ {w'}, FrA w2.heap.size w2 w' → TAt w' k1 f := fun {w'} ⟨L, h1, h2⟩ => hT2.fr h2 fun hm => by have := h1 _ hm; omega
    refine ⟨_, ⟨FrA.of0 f3, fun w' hw' => (keep hw').ldE⟩, _, _, _, ⟨FrA.of0 f3, fun w' hw' => (keep hw').ldO⟩, _, _, _, ⟨FrA.of0 f3, fun w' hw' => (keep hw').ldS⟩, ?_⟩
    have f03 := f02.then f3
    refine scanWrite_c fun w4 f4 hW4 s4 => ⟨_, rfl, .inr ((FrA.of0 f3).trans (FrA.of0 f4)), ?_⟩
    obtain ⟨b, hb⟩ : ∃ b, b = w3.heap.size := ⟨_, rfl⟩
    rw [← hb] at hW4 ⊢
    have hb2 : w2.heap.size ≤ b := by have := f3.size; omega
    have hq1 : 0 < f.od.length → ∀ z ∈ blks f.p1, z < b := rowLt (hf.r1) (by have := f03.size; omega)
    have hq2 : 0 < f.sc.length → ∀ z ∈ blks f.p2, z < b := rowLt (hf.r2) (by have := f03.size; omega)
    refine wrNum_c (n := f.exp) (size := 8) hW4 (by omega) (by have := hf.e; simpa using this) (by simp) fun w5 f5 hW5 => ⟨_, rfl, .inr (((FrA.of0 f3).trans (FrA.of0 f4)).trans (f5.mono hb2)), ?_⟩
    have fa5 : FrA b w3 w5 := (FrA.of0 f4).trans f5
    refine wrShort_c hW5 (fa5.row (hf.r1.fr0 f03) hq1) rfl hf.h1 (by omega) hq1 (by simp [putL_len]) fun w6 f6 hW6 => ⟨_, rfl, .inr ((FrA.of0 f3).trans ((fa5.trans f6).mono hb2)), ?_⟩
    have fa6 := fa5.trans f6
    refine wrShort_c hW6 (fa6.row (hf.r2.fr0 f03) hq2) rfl hf.h2 (by omega) hq2 (by simp [putL_len]; omega) fun w7 f7 hW7 => ⟨_, rfl, ?_⟩
    have fa7 := fa6.trans f7
    have eT : [] ++ putL f.exp 8 ++ UInt8.ofNat f.od.length :: f.od ++ UInt8.ofNat f.sc.length :: f.sc = textL f := by simp [textL]
    rw [eT] at hW7
    have hll := textL_len f
    have f07 : Fr [] w w7 := fa7.news f03 (by have := f03.size; omega)
    refine wrDone_c hW7 (by omega) fun q d w8 f8 hO8 => ⟨_, _, _, _, rfl, ?_⟩
    exact hk q d w8 (f07.then f8) (hO8.mono f07.size)
structure UT where
  e : Int
  exp : Nat
  od : List UInt8
  sc : List UInt8
def UT.bad (e : Int) : UT := ⟨e, 0, [], []⟩
def untx (b : List UInt8) : UT :=
  if endP (shortP (shortP (numP 8 (0, b)).2).2).2 ≠ 0 then .bad (endP (shortP (shortP (numP 8 (0, b)).2).2).2)
  else if 20 < (shortP (numP 8 (0, b)).2).1.length ∨ 20 < (shortP (shortP (numP 8 (0, b)).2).2).1.length then .bad 10
  else ⟨0, (numP 8 (0, b)).1, (shortP (numP 8 (0, b)).2).1, (shortP (shortP (numP 8 (0, b)).2).2).1⟩
def TF.ut (f : TF) (e : Int) : UT := ⟨e, f.exp, f.od, f.sc⟩
theorem numP_lt (s : Int × List UInt8) : (numP 8 s).1 < 18446744073709551616 := by
  unfold numP
  split
  · rename_i h
    have := numL_lt (s.2.take 8)
    rw [List.length_take, Nat.min_eq_left h.2] at this
    exact this
  · show 0 < _; omega
theorem numP_len (k : Nat) (s : Int × List UInt8) : (numP k s).2.2.length ≤ s.2.length := by unfold numP; split <;> simp
theorem shortP_len (s : Int × List UInt8) : (shortP s).2.2.length ≤ s.2.length ∧ (shortP s).1.length ≤ 255 := by
  unfold shortP
  split
  · refine ⟨by simp, ?_⟩
    show ((s.2.drop 1).take (fl s.2 0).toNat).length ≤ 255
    have := (fl s.2 0).toNat_lt
    rw [List.length_take]; omega
  · simp
set_option maxHeartbeats 1000000 in
theorem tokUntext_c {p : Option Addr} {l c : Nat} {b : List UInt8} (hR : Row w p (b.map vb)) (hl : l = b.length) (hc : l ≤ c) (hlb : b.length ≤ 1000000)
    (hk : ∀ u w', Fr [] w w' → TF.own w' u w.heap.size → u.ut (untx b).e = untx b → K (.tuple #[u.a, .int .i64 (untx b).e]) w') : callF Tryz.prog F_token_Untext #[.slice p l c] w K := by
  apply token_Untext_call
  unfold token_Untext
  refine newZ (s := 3) (by kernel_rfl) fun w1 g1 f1 hB1 s1 => ?_
  obtain ⟨k2, hk2⟩ : ∃ k, k = w.heap.size := ⟨_, rfl⟩
  rw [← hk2] at hB1 ⊢
  refine scanRead_c (hR.fr0 f1) hl hc fun w2 f2 hR2 s2 => ⟨_, rfl, ?_⟩
  obtain ⟨r, hr⟩ : ∃ r, r = w1.heap.size := ⟨_, rfl⟩
  rw [← hr] at hR2 ⊢
  obtain ⟨n, hn⟩ : ∃ n, n = numP 8 (0, b) := ⟨_, rfl⟩
  refine rdNumP_c hR2 8 (by omega) hlb fun w3 f3 hR3 => ⟨_, rfl, ?_⟩
  have hlt := numP_lt (0, b)
  have n1 : (numP 8 (0, b)).2.2.length ≤ b.length := numP_len 8 (0, b)
  rw [← hn] at hR3 hlt n1 ⊢
  obtain ⟨o, ho⟩ : ∃ o, o = shortP n.2 := ⟨_, rfl⟩
  have hn2 : (n.2.1, n.2.2) = n.2 := rfl
  refine rdShortP_c hR3 (by omega) fun q4 d4 w4 f4 hR4 hO4 => ⟨_, _, _, rfl, ?_⟩
  have o1 := (shortP_len n.2).1
  rw [hn2, ← ho] at hR4 hO4
  rw [hn2, ← ho]
  rw [← ho] at o1
  obtain ⟨s, hs⟩ : ∃ s, s = shortP o.2 := ⟨_, rfl⟩
  have ho2 : (o.2.1, o.2.2) = o.2 := rfl
  refine rdShortP_c hR4 (by omega) fun q5 d5 w5 f5 hR5 hO5 => ⟨_, _, _, rfl, ?_⟩
  rw [ho2, ← hs] at hR5 hO5
  rw [ho2, ← hs]
  have m1 := f1.size; have m2 := f2.size; have m3 := f3.size; have m4 := f4.size; have m5 := f5.size
  have hO45 := hO4.fr_sep f5 (by omega)
  obtain ⟨u, hu⟩ : ∃ u : TF, u = ⟨n.1, o.1, s.1, q4, d4, q5, d5⟩ := ⟨_, rfl⟩
  have hua : (.agg #[.int .u64 (n.1 : Int), .slice q4 o.1.length d4, .slice q5 s.1.length d5] : Value) = u.a := by rw [hu]; rfl
  rw [hua]
  have f05 : Fr [] w w5 := (((f1.then f2).trans f3 (fun z hz => .inr (by simp at hz; omega))).trans f4 (fun z hz => .inr (by simp at hz; omega))).trans f5 (fun z hz => .inr (by simp at hz; omega))
  have hU5 : TF.own w5 u (w1.heap.size + 1) := by rw [hu]; exact ⟨hO45.mono (by omega), hO5.mono (by omega), hlt⟩
  refine putT u fun w7 f7 hT7 => ?_
  obtain ⟨k5, hk5⟩ : ∃ k, k = w5.heap.size := ⟨_, rfl⟩
  rw [← hk5] at hT7 ⊢
  have hR7 := hR5.fr0 f7
  refine rdEnd_c hR7 fun w8 f8 _ => ⟨_, rfl, ?_⟩
  have f05' : Fr [] w w8 := (f05.then f7).trans f8 (fun z hz => .inr (by simp at hz; omega))
  have hr8 : r < w5.heap.size := hR5.lt
  have hT8 := hT7.fr f8 (by simp; omega)
  have hU8 := (hU5.fr0 f7).fr_sep f8 (by omega)
  have ee : (if s.2.1 = 0 then (if s.2.2.length = 0 then 0 else 10) else s.2.1) = endP s.2 := rfl
  rw [ee]
  have hut : untx b = if endP s.2 ≠ 0 then .bad (endP s.2) else if 20 < o.1.length ∨ 20 < s.1.length then .bad 10 else ⟨0, n.1, o.1, s.1⟩ := by
    rw [hs, ho, hn]; rfl
  have hB8 : Blk w8 k2 3 g1 := by
    have h5 : Blk w5 k2 3 g1 := (((hB1.fr0 f2).fr f3 (by simp; omega)).fr f4 (by simp; omega)).fr f5 (by simp; omega)
    exact (h5.fr0 f7).fr f8 (by simp; omega)
  have bad : ∀ (w9 : World) (e : Int), Fr [] w8 w9 → untx b = .bad e → ∃ w2, Sto Tryz.prog T_token_Fields (.pointer (some ⟨k2, 0, none⟩)) tf0.a w9 w2 ∧ ∃ (a4 : Addr) (v4 : Value), (.pointer (some ⟨k2, 0, none⟩) : Value) = .pointer (some a4) ∧ (loadVar T_token_Fields a4).run Tryz.prog w2 = .ok v4 w2 ∧ K (.tuple #[v4, .int .i64 e]) w2 := by
    intro w9 e f9 hbe
    refine tellT (hB8.fr0 f9) tf0 fun w10 f10 => ?_
    have := hk tf0 w10 ((f05'.then f9).st f10 (by omega)) (tf0_own _ _) (by rw [hbe]; rfl)
    rw [hbe] at this; exact this
  refine cond_ne (fun he => ?_) fun he => ?_
  · exact bad w8 _ (Fr.refl _ _) (by rw [hut, if_pos he])
  · refine ⟨_, _, _, _, _, _, _, hT8.ldF, tokLong_c fun w9 f9 => ⟨_, rfl, ?_⟩⟩
    have hlu : longF u ↔ (20 < o.1.length ∨ 20 < s.1.length) := by rw [hu]; rfl
    by_cases hl : longF u
    · rw [decide_eq_true hl]
      exact cond_t (bad w9 10 f9 (by rw [hut, if_neg (fun hh => hh he), if_pos (hlu.1 hl)]))
    · rw [decide_eq_false hl]
      have hok : untx b = ⟨0, n.1, o.1, s.1⟩ := by rw [hut, if_neg (fun hh => hh he), if_neg (fun hh => hl (hlu.2 hh))]
      refine cond_f ⟨_, _, _, _, _, _, _, (hT8.fr0 f9).ldF, ?_⟩
      refine tellT (hB8.fr0 f9) u fun w10 f10 => ?_
      have := hk u w10 ((f05'.then f9).st f10 (by omega)) (((hU8.fr0 f9).fr_sep f10 (by omega)).mono (by omega)) (by rw [hok, hu]; rfl)
      rw [hok] at this; exact this
def seqT (b : List UInt8) : Int × Bool := if b.length = 0 ∨ 127 < (fl b 0).toNat then (0, false) else (((fl b 0).toNat : Int), true)
theorem tokSeq_c {p : Option Addr} {l c : Nat} {b : List UInt8} (hR : Row w p (b.map vb)) (hl : l = b.length) (hk : K (.tuple #[.int .i64 (seqT b).1, .bool (seqT b).2]) w) : callF Tryz.prog F_token_Seq #[.slice p l c] w K := by
  apply token_Seq_call
  unfold token_Seq
  unfold seqT at hk
  refine cond_eq (fun h0 => ?_) fun h0 => ?_
  · rw [if_pos (.inl (by omega))] at hk; exact hk
  · obtain ⟨a, ha, hca⟩ := row_get (t := T_S_uint8) (by kernel_rfl) hR (c := c) hl (i := 0) (by omega) (k := .i64)
    refine ⟨_, ha, _, Ld.cell (by kernel_rfl) hca, cond_d (fun h1 => ?_) fun h1 => ?_⟩
    · have h1 : ((fl b 0).toNat : Int) > 127 := h1
      rw [if_pos (.inr (by omega))] at hk; exact hk
    · have h1 : ¬ ((fl b 0).toNat : Int) > 127 := h1
      rw [if_neg (by omega)] at hk
      unfold token_Seq_j1
      refine ⟨_, ha, _, Ld.cell (by kernel_rfl) hca, ?_⟩
      rw [wrap64 (by omega) (by have := (fl b 0).toNat_lt; show ((fl b 0).toNat : Int) < _; omega)]
      exact hk
theorem bytesEq_c {p q : Option Addr} {l c m d : Nat} {xs ys : List UInt8} (hx : Row w p (xs.map vb)) (hl : l = xs.length) (hy : Row w q (ys.map vb)) (hm : m = ys.length) (hk : K (.bool (decide (xs = ys))) w) : callF Tryz.prog F_bytes_Equal #[.slice p l c, .slice q m d] w K := by
  apply bytes_Equal_call
  unfold bytes_Equal
  refine ⟨_, _, Ef.toStr (by kernel_rfl) hx hl, _, _, Ef.toStr (by kernel_rfl) hy hm, _, _, Ef.strEq, ?_⟩
  rw [bstr_eq]; exact hk
theorem tokSame_c {g : TF} (hf : TF.ok w f) (hg : TF.ok w g) (hk : ∀ w', Fr [] w w' → K (.bool (decide (f.exp = g.exp ∧ f.od = g.od ∧ f.sc = g.sc))) w') : callF Tryz.prog F_token_Same #[f.a, g.a] w K := by
  apply token_Same_call
  unfold token_Same
  refine newT f fun w1 f1 hT1 s1 => newT g fun w2 f2 hT2 s2 => ?_
  have f02 := f1.then f2
  have hT12 := hT1.fr0 f2
  have hf2 := hf.fr0 f02; have hg2 := hg.fr0 f02
  refine ⟨_, hT12.ldE, _, hT2.ldE, cond_eq (fun h1 => ?_) fun h1 => ?_⟩
  · refine ⟨_, _, _, hT12.ldO, _, _, _, hT2.ldO, bytesEq_c hf2.r1 rfl hg2.r1 rfl ⟨_, rfl, ?_⟩⟩
    refine cond_d (fun h2 => ?_) fun h2 => ?_
    · refine ⟨_, _, _, hT12.ldS, _, _, _, hT2.ldS, bytesEq_c hf2.r2 rfl hg2.r2 rfl ⟨_, rfl, ?_⟩⟩
      have := hk w2 f02
      have e : decide (f.exp = g.exp ∧ f.od = g.od ∧ f.sc = g.sc) = decide (f.sc = g.sc) := by
        apply decide_eq_decide.2; exact ⟨fun h => h.2.2, fun h => ⟨by omega, h2, h⟩⟩
      rw [e] at this; exact this
    · have := hk w2 f02
      rw [decide_eq_false (fun h => h2 h.2.1)] at this; exact this
  · have := hk w2 f02
    rw [decide_eq_false (fun h => h1 (by rw [h.1]))] at this; exact this
theorem tokNote_c {n : Nat} (hn : n < 256) {p : Option Addr} {l c : Nat} {xs : List UInt8} (hR : Row w p (xs.map vb)) (hl : l = xs.length) (hc : l ≤ c) (hlb : l ≤ 1000000)
    (hk : ∀ q d w', Fr [] w w' → OB w' q (UInt8.ofNat n :: xs).length d (UInt8.ofNat n :: xs) w.heap.size → K (.slice q (UInt8.ofNat n :: xs).length d) w') : callF Tryz.prog F_token_note #[.int .i64 (n : Int), .slice p l c] w K := by
  apply token_note_call
  unfold token_note
  have ew : IntKind.u8.wrap (n : Int) = ((UInt8.ofNat n).toNat : Int) := by rw [wrap8 (by omega) (by omega)]; simp; omega
  rw [ew]
  refine mk1 (x := UInt8.ofNat n) fun p1 w1 f1 h1 s1 => ?_
  refine ⟨_, _, _, Ef.new (v := .slice (some ⟨w1.heap.size, 0, none⟩) 2 2) (cs := ([.slice p1 1 1, .slice p l c] : List Value).toArray) (e := T_S_uint8) (by kernel_rfl) fun w2 f2 hB2 s2 => ?_⟩
  have hR2 := RowB.of2 hB2.rowL ((h1.fr0 f2).byS) (byS ((hR.fr0 f1).fr0 f2) hl hc)
  have efl : [[UInt8.ofNat n], xs].flatten = UInt8.ofNat n :: xs := by simp
  refine Join_c (l := 2) hR2 rfl (by rw [efl, List.length_cons]; omega) (by omega) fun q d w3 f3 hO3 => ⟨_, _, _, rfl, ?_⟩
  rw [efl] at hO3
  rw [efl]
  exact hk q d w3 ((f1.then f2).then f3) (hO3.mono (f1.then f2).size)
end
end Go.Sh
end

section
namespace Go.Sh
open Go Go.Fw Go.Proofs
set_option maxRecDepth 100000
set_option linter.unusedVariables false
theorem cond_fl_ne {n : Int} {A B : Prop} (h : n ≠ 0) (ha : A) : cond (n != 0) A B := by
  have : (n != 0) = true := by simpa using h
  rw [this]; exact ha
def keyK (ks : List KE) (s : Int) : List UInt8 := ((ks[idxK ks s]?).map KE.key).getD []
theorem keyK_of {es : List RE} {s : Int} {e : RE} (he : es[idxK (es.map RE.ke) s]? = some e) : keyK (es.map RE.ke) s = e.key := by
  unfold keyK
  rw [ke_get he]; rfl
theorem textL_congr {f g : TF} (h1 : f.exp = g.exp) (h2 : f.od = g.od) (h3 : f.sc = g.sc) : textL f = textL g := by unfold textL; rw [h1, h2, h3]
theorem longF_congr {f g : TF} (h2 : f.od = g.od) (h3 : f.sc = g.sc) : longF f ↔ longF g := by unfold longF; rw [h2, h3]
def sealE (ks : List KE) (s : Int) (nonce client : List UInt8) (f : TF) : Int := if ¬ hasK ks s then 17 else if nonce.length ≠ 12 ∨ 64 < client.length then 11 else if longF f then 15 else 0
def sealL (ks : List KE) (s : Int) (nonce client : List UInt8) (f : TF) : List UInt8 :=
  if sealE ks s nonce client f = 0 then UInt8.ofNat s.toNat :: (nonce ++ slL (keyK ks s) nonce (textL f) (UInt8.ofNat s.toNat :: client)) else []
section
variable {w : World} {K : Value → World → Prop} {b lo : Nat} {p : Option Addr} {es : List RE} {N : Int}
theorem slL_le (key nonce text note : List UInt8) : (slL key nonce text note).length ≤ text.length + 16 := by
  unfold slL
  split
  · rw [List.length_append, gturnL_len, gtagL_len]; omega
  · simp
set_option maxHeartbeats 2000000 in
theorem tokSeal_c (hR : RingAt w b p es N lo) (hN : N < 100000000) {s : Int} {p2 p3 : Option Addr} {l2 c2 l3 c3 : Nat} {nonce client : List UInt8} {f : TF} (h2 : Row w p2 (nonce.map vb)) (hl2 : l2 = nonce.length) (hc2 : l2 ≤ c2) (hb2 : l2 ≤ 1000000) (hq2 : 0 < nonce.length → ∀ z ∈ blks p2, ¬ inR es z)
    (h3 : Row w p3 (client.map vb)) (hl3 : l3 = client.length) (hc3 : l3 ≤ c3) (hb3 : l3 ≤ 1000000) (hf : TF.ok w f)
    (hk : ∀ q d L w', (∀ z ∈ L, inR es z) → Fr L w w' → RingAt w' b p es (N + 1) lo → OB w' q (sealL (es.map RE.ke) s nonce client f).length d (sealL (es.map RE.ke) s nonce client f) w.heap.size → K (.tuple #[.slice q (sealL (es.map RE.ke) s nonce client f).length d, .int .i64 (sealE (es.map RE.ke) s nonce client f)]) w') :
    callF Tryz.prog F_token_Seal #[.pointer (some ⟨b, 0, none⟩), .int .i64 s, .slice p2 l2 c2, .slice p3 l3 c3, f.a] w K := by
  apply token_Seal_call
  unfold token_Seal
  have bad : ∀ (e : Int) w', sealE (es.map RE.ke) s nonce client f = e → e ≠ 0 → Fr [] w w' → K (.tuple #[.slice none 0 0, .int .i64 e]) w' := by
    intro e w' he h0 f'
    have h1 : sealL (es.map RE.ke) s nonce client f = [] := by unfold sealL; rw [if_neg (by rw [he]; exact h0)]
    have := hk none 0 [] w' (by simp) f' ((hR.fr0 f').mono (by omega))
    rw [h1, he] at this
    exact this (OB.nil _ _)
  refine newT f fun w1 f1 hT s1 => ?_
  refine ringBox_c (hR.fr0 f1) (fun e w2 hs hem hei hes f2 => ⟨_, _, rfl, cond_f ?_⟩) fun w2 hs f2 => ⟨_, _, rfl, cond_t (bad 17 w2 (by unfold sealE; rw [if_pos hs]) (by omega) (f1.then f2))⟩
  have f02 := f1.then f2
  have hs' : ¬ ¬ hasK (es.map RE.ke) s := fun hh => hh hs
  refine cond_ne (fun hne => bad 11 w2 (by unfold sealE; rw [if_neg hs', if_pos (.inl (by omega))]) (by omega) f02) fun h12 => ?_
  refine cond_d (fun h64 => bad 11 w2 (by unfold sealE; rw [if_neg hs', if_pos (.inr (by omega))]) (by omega) f02) fun h64 => ?_
  have hin : ¬ (nonce.length ≠ 12 ∨ 64 < client.length) := by omega
  unfold token_Seal_j1
  refine ⟨_, _, _, _, _, _, _, (hT.fr0 f2).ldF, tokText_c (hf.fr0 f02) fun qt dt w3 f3 hO3 => ⟨_, _, _, _, rfl, ?_⟩⟩
  have f03 := f02.then f3
  by_cases hl : longF f
  · have et : textE f = 15 := by unfold textE; rw [if_pos hl]
    rw [et]
    exact cond_t (bad 15 w3 (by unfold sealE; rw [if_neg hs', if_neg hin, if_pos hl]) (by omega) f03)
  · have et : textE f = 0 := by unfold textE; rw [if_neg hl]
    have er : textR f = textL f := by unfold textR; rw [if_neg hl]
    have eE : sealE (es.map RE.ke) s nonce client f = 0 := by unfold sealE; rw [if_neg hs', if_neg hin, if_neg hl]
    have eL : sealL (es.map RE.ke) s nonce client f = UInt8.ofNat e.sq :: (nonce ++ slL e.key nonce (textL f) (UInt8.ofNat e.sq :: client)) := by
      unfold sealL; rw [if_pos eE, keyK_of hei, ← hes, Int.toNat_natCast]
    rw [eE, eL] at hk
    rw [er] at hO3
    rw [et, er]
    have hsq := (hR.ent e hem).2.2
    have ehi := (hR.ent e hem).1.lh
    rw [← hes]
    have hll := textL_len f
    have hlf : f.od.length ≤ 20 ∧ f.sc.length ≤ 20 := by unfold longF at hl; omega
    refine cond_f (tokNote_c (n := e.sq) (by omega) (h3.fr0 f03) hl3 hc3 hb3 fun qn dn w4 f4 hO4 => ⟨_, _, _, rfl, ?_⟩)
    have f04 := f03.then f4
    have hR4 := hR.fr0 f04
    obtain ⟨n, hb, n0, n1, hX, hhb, hkl, hkp⟩ := hR4.box hem
    have n03 := f03.size; have n04 := f04.size
    refine gseal_c hX (by omega) (h2.fr0 f04) hl2 hc2 hb2 (hO3.fr0 f4).row rfl hO3.cap hO4.row rfl hO4.cap (.inr fun k hk' => by have := hO4.2.2 k hk'; omega) fun qs ds w5 f5 hX5 hO5 => ⟨_, _, _, _, rfl, ?_⟩
    have hR5 := hR4.after hem hhb hkp f5 (show N ≤ N + 1 by omega) n0 (by omega) hX5
    have hLin : ∀ z ∈ rg e.lo hb, inR es z := fun z hz => ⟨e, hem, by have := mem_rg.1 hz; omega⟩
    have h25 : Row w5 p2 (nonce.map vb) := rowKeep (h2.fr0 f04) f5 fun h0 z hz hm => hq2 h0 z hz (hLin z hm)
    have ew : IntKind.u8.wrap (e.sq : Int) = ((UInt8.ofNat e.sq).toNat : Int) := by rw [wrap8 (by omega) (by omega)]; simp; omega
    rw [ew]
    refine mk1 (x := UInt8.ofNat e.sq) fun p6 w6 f6 hO6 s6 => ?_
    obtain ⟨S, hS⟩ : ∃ S, S = slL e.key nonce (textL f) (UInt8.ofNat e.sq :: client) := ⟨_, rfl⟩
    have hSl := slL_le e.key nonce (textL f) (UInt8.ofNat e.sq :: client)
    rw [← hS] at hO5 hSl hk ⊢
    refine ⟨_, _, _, Ef.new (v := .slice (some ⟨w6.heap.size, 0, none⟩) 3 3) (cs := ([.slice p6 1 1, .slice p2 l2 c2, .slice qs S.length ds] : List Value).toArray) (e := T_S_uint8) (by kernel_rfl) fun w7 f7 hB7 s7 => ?_⟩
    have f67 := f6.then f7
    have hRB := RowB.of3 hB7.rowL ((hO6.fr0 f7).byS) (byS (h25.fr0 f67) hl2 hc2) ((hO5.fr0 f67).byS)
    have efl : [[UInt8.ofNat e.sq], nonce, S].flatten = UInt8.ofNat e.sq :: (nonce ++ S) := by simp
    refine Join_c (l := 3) hRB rfl (by rw [efl]; simp; omega) (by omega) fun q8 d8 w8 f8 hO8 => ⟨_, _, _, rfl, ?_⟩
    rw [efl] at hO8
    rw [efl]
    have f58 := f67.then f8
    have f08 : Fr (rg e.lo hb) w w8 := (f04.after f5).then f58
    exact hk q8 d8 _ w8 hLin f08 (hR5.fr0 f58) (hO8.mono (by have := f67.size; have := f5.size; omega))
def tk0 (tok : List UInt8) : Nat := (fl tok 0).toNat
def tkN (tok : List UInt8) : List UInt8 := (tok.take 13).drop 1
def tkS (tok : List UInt8) : List UInt8 := tok.drop 13
def unsE (ks : List KE) (client tok : List UInt8) : Int :=
  if tok.length < 29 then 12 else if ¬ hasK ks (tk0 tok : Int) then 17 else if 64 < client.length ∨ 4096 < tok.length then 13
  else if opE (keyK ks (tk0 tok : Int)) (tkN tok) (tkS tok) (UInt8.ofNat (tk0 tok) :: client) ≠ 0 then 13 else 0
def unsL (ks : List KE) (client tok : List UInt8) : List UInt8 := if unsE ks client tok = 0 then opL (keyK ks (tk0 tok : Int)) (tkN tok) (tkS tok) (UInt8.ofNat (tk0 tok) :: client) else []
theorem opL_le (key nonce text note : List UInt8) : (opL key nonce text note).length ≤ text.length := by
  unfold opL
  split
  · rw [gturnL_len, List.length_take]; omega
  · simp
set_option maxHeartbeats 2000000 in
theorem tokUnseal_c (hR : RingAt w b p es N lo) (hN : N < 100000000) {p1 p2 : Option Addr} {l1 c1 l2 c2 : Nat} {client tok : List UInt8} (h1 : Row w p1 (client.map vb)) (hl1 : l1 = client.length) (hc1 : l1 ≤ c1) (hb1 : l1 ≤ 1000000)
    (h2 : Row w p2 (tok.map vb)) (hl2 : l2 = tok.length) (hc2 : l2 ≤ c2) (hq2 : 0 < tok.length → ∀ z ∈ blks p2, ¬ inR es z)
    (hk : ∀ q d L w', (∀ z ∈ L, inR es z) → Fr L w w' → RingAt w' b p es (N + 1) lo → OB w' q (unsL (es.map RE.ke) client tok).length d (unsL (es.map RE.ke) client tok) w.heap.size → K (.tuple #[.slice q (unsL (es.map RE.ke) client tok).length d, .int .i64 (unsE (es.map RE.ke) client tok)]) w') :
    callF Tryz.prog F_token_unseal #[.pointer (some ⟨b, 0, none⟩), .slice p1 l1 c1, .slice p2 l2 c2] w K := by
  apply token_unseal_call
  unfold token_unseal
  have bad : ∀ (e : Int) L w', (∀ z ∈ L, inR es z) → Fr L w w' → RingAt w' b p es (N + 1) lo → unsE (es.map RE.ke) client tok = e → e ≠ 0 → K (.tuple #[.slice none 0 0, .int .i64 e]) w' := by
    intro e L w' hL f' hR' he h0
    have h1 : unsL (es.map RE.ke) client tok = [] := by unfold unsL; rw [if_neg (by rw [he]; exact h0)]
    have := hk none 0 L w' hL f' hR'
    rw [h1, he] at this
    exact this (OB.nil _ _)
  refine cond_d (fun h29 => bad 12 [] w (by simp) (Fr.refl _ _) (hR.mono (by omega)) (by unfold unsE; rw [if_pos (by omega)]) (by omega)) fun h29 => ?_
  have hn29 : ¬ tok.length < 29 := by omega
  obtain ⟨a, ha, hca⟩ := row_get (t := T_S_uint8) (by kernel_rfl) h2 (c := c2) hl2 (i := 0) (by omega) (k := .i64)
  have h256 := (fl tok 0).toNat_lt
  refine ⟨_, ha, _, Ld.cell (by kernel_rfl) hca, ?_⟩
  rw [wrap64 (by omega) (by show ((fl tok 0).toNat : Int) < _; omega)]
  have etk : (((tok.getD 0 0).toNat : Nat) : Int) = (tk0 tok : Int) := rfl
  rw [etk]
  refine ringBox_c hR (fun e w1 hs hem hei hes f1 => ⟨_, _, rfl, cond_f ?_⟩) fun w1 hs f1 => ⟨_, _, rfl, cond_t (bad 17 [] w1 (by simp) f1 ((hR.fr0 f1).mono (by omega)) (by unfold unsE; rw [if_neg hn29, if_pos hs]) (by omega))⟩
  have hs' : ¬ ¬ hasK (es.map RE.ke) (tk0 tok : Int) := fun hh => hh hs
  have b13 : (64 < client.length ∨ 4096 < tok.length) → K (.tuple #[.slice none 0 0, .int .i64 13]) w1 := fun hh => bad 13 [] w1 (by simp) f1 ((hR.fr0 f1).mono (by omega)) (by unfold unsE; rw [if_neg hn29, if_neg hs', if_pos hh]) (by omega)
  refine cond_d (fun h64 => b13 (.inl (by omega))) fun h64 => cond_d (fun h4 => b13 (.inr (by omega))) fun h4 => ?_
  have hin : ¬ (64 < client.length ∨ 4096 < tok.length) := by omega
  unfold token_unseal_j1
  refine Drw.intro fun w2 f2 s2 => ?_
  have f02 := f1.then f2
  refine slMid (h2.fr0 f02) hl2 (a := 1) (b := 13) (by omega) (by omega) hc2 fun qa da hqa hla hda hba => ?_
  refine slFrom (h2.fr0 f02) hl2 (n := 13) (by omega) hc2 fun qb db hqb hlb hdb hbb => ?_
  have hsq := (hR.ent e hem).2.2
  have ehi := (hR.ent e hem).1.lh
  refine tokNote_c (n := tk0 tok) h256 (h1.fr0 f02) hl1 hc1 hb1 fun qn dn w3 f3 hO3 => ⟨_, _, _, rfl, ?_⟩
  have f03 := f02.then f3
  have hR3 := hR.fr0 f03
  obtain ⟨n, hb, n0, n1, hX, hhb, hkl, hkp⟩ := hR3.box hem
  have n03 := f02.size
  have hsp : ∀ {q : Option Addr} {xs : List UInt8}, (∀ z ∈ blks q, z ∈ blks p2) → sp e.lo hb q xs := fun hz => .inr fun k hk' => by
    have := hq2 (by omega) k (hz k hk')
    by_cases hlt : k < e.lo
    · exact .inl hlt
    · by_cases hge : hb ≤ k
      · exact .inr hge
      · exact absurd ⟨e, hem, by omega, by omega⟩ this
  refine gopen_c hX (by omega) n0 (by omega) (hqa.fr0 f3) hla hda (by omega) (hsp hba) (hqb.fr0 f3) hlb hdb (by omega) (hsp hbb) hO3.row rfl hO3.cap (.inr fun k hk' => by have := hO3.2.2 k hk'; omega) fun qo do_ w4 f4 hX4 hO4 => ⟨_, _, _, _, rfl, ?_⟩
  have hR4 := hR3.after hem hhb hkp f4 (show N ≤ N + 1 by omega) (by split <;> omega) (by split <;> omega) hX4
  have hLin : ∀ z ∈ rg e.lo hb, inR es z := fun z hz => ⟨e, hem, by have := mem_rg.1 hz; omega⟩
  have f04 : Fr (rg e.lo hb) w w4 := f03.after f4
  have hkey := keyK_of hei
  have eN : (tok.take 13).drop 1 = tkN tok := rfl
  have eS : tok.drop 13 = tkS tok := rfl
  rw [eN, eS, ← hkey] at hO4
  rw [eN, eS, ← hkey]
  by_cases h0 : opE (keyK (es.map RE.ke) (tk0 tok : Int)) (tkN tok) (tkS tok) (UInt8.ofNat (tk0 tok) :: client) = 0
  · have eE : unsE (es.map RE.ke) client tok = 0 := by unfold unsE; rw [if_neg hn29, if_neg hs', if_neg hin, if_neg (fun hh => hh h0)]
    have eL : unsL (es.map RE.ke) client tok = opL (keyK (es.map RE.ke) (tk0 tok : Int)) (tkN tok) (tkS tok) (UInt8.ofNat (tk0 tok) :: client) := by unfold unsL; rw [if_pos eE]
    rw [eE, eL] at hk
    rw [h0]
    exact cond_f (hk qo do_ _ w4 hLin f04 hR4 (hO4.mono f03.size))
  · have eE : unsE (es.map RE.ke) client tok = 13 := by unfold unsE; rw [if_neg hn29, if_neg hs', if_neg hin, if_pos h0]
    exact cond_fl_ne h0 (bad 13 _ w4 hLin f04 hR4 eE (by omega))
def openU (ks : List KE) (client tok : List UInt8) (now : Nat) : UT :=
  if unsE ks client tok ≠ 0 then .bad (unsE ks client tok) else if (untx (unsL ks client tok)).e ≠ 0 then .bad (untx (unsL ks client tok)).e
  else if (untx (unsL ks client tok)).exp < now then .bad 20 else untx (unsL ks client tok)
theorem unsL_le (ks : List KE) (client tok : List UInt8) : (unsL ks client tok).length ≤ tok.length := by
  unfold unsL
  split
  · refine Nat.le_trans (opL_le _ _ _ _) ?_
    unfold tkS; rw [List.length_drop]; omega
  · simp
set_option maxHeartbeats 2000000 in
theorem tokOpen_c (hR : RingAt w b p es N lo) (hN : N < 100000000) {p1 p2 : Option Addr} {l1 c1 l2 c2 now : Nat} {client tok : List UInt8} (h1 : Row w p1 (client.map vb)) (hl1 : l1 = client.length) (hc1 : l1 ≤ c1) (hb1 : l1 ≤ 1000000)
    (h2 : Row w p2 (tok.map vb)) (hl2 : l2 = tok.length) (hc2 : l2 ≤ c2) (hb2 : l2 ≤ 1000000) (hq2 : 0 < tok.length → ∀ z ∈ blks p2, ¬ inR es z)
    (hk : ∀ u L w', (∀ z ∈ L, inR es z) → Fr L w w' → RingAt w' b p es (N + 1) lo → TF.own w' u w.heap.size → u.ut (openU (es.map RE.ke) client tok now).e = openU (es.map RE.ke) client tok now → K (.tuple #[u.a, .int .i64 (openU (es.map RE.ke) client tok now).e]) w') :
    callF Tryz.prog F_token_Open #[.pointer (some ⟨b, 0, none⟩), .slice p1 l1 c1, .slice p2 l2 c2, .int .u64 (now : Int)] w K := by
  apply token_Open_call
  unfold token_Open
  refine newZ (s := 3) (by kernel_rfl) fun w1 g1 f1 hB1 s1 => ?_
  obtain ⟨k8, hk8⟩ : ∃ k, k = w.heap.size := ⟨_, rfl⟩
  rw [← hk8] at hB1 ⊢
  refine tokUnseal_c (hR.fr0 f1) hN (h1.fr0 f1) hl1 hc1 hb1 (h2.fr0 f1) hl2 hc2 hq2 fun q d L w2 hL f2 hR2 hO2 => ⟨_, _, _, _, rfl, ?_⟩
  have hLlt : ∀ z ∈ L, z < w.heap.size := fun z hz => by obtain ⟨e, he, h3, h4⟩ := hL z hz; have := (hR.ent e he).1.lh; omega
  have f02 : Fr L w w2 := f1.after f2
  have hB2 := hB1.fr f2 fun hm => by have := hLlt _ hm; omega
  have ule := unsL_le (es.map RE.ke) client tok
  have n02 := f02.size
  have n1 := f1.size
  have hk2 := hB2.lt
  have bad : ∀ (w' : World) (e : Int), Fr [] w2 w' → openU (es.map RE.ke) client tok now = .bad e → ∃ w3, Sto Tryz.prog T_token_Fields (.pointer (some ⟨k8, 0, none⟩)) tf0.a w' w3 ∧ ∃ (a4 : Addr) (v4 : Value), (.pointer (some ⟨k8, 0, none⟩) : Value) = .pointer (some a4) ∧ (loadVar T_token_Fields a4).run Tryz.prog w3 = .ok v4 w3 ∧ K (.tuple #[v4, .int .i64 e]) w3 := by
    intro w' e f' he
    have hRx := hR2.fr0 f'
    refine tellT (hB2.fr0 f') tf0 fun w4 f4 => ?_
    have hR4 : RingAt w4 b p es (N + 1) lo := hRx.fr f4 fun z hz => by
      simp at hz
      subst hz
      exact offR_new hR (by omega)
    have := hk tf0 L w4 hL ((f02.then f').trans f4 fun z hz => .inr (by simp at hz; omega)) hR4 (tf0_own _ _) (by rw [he]; rfl)
    rw [he] at this; exact this
  by_cases hE : unsE (es.map RE.ke) client tok = 0
  · rw [hE]
    refine cond_f (tokUntext_c hO2.row rfl hO2.cap (by omega) fun u w3 f3 hU3 hu => ⟨_, _, _, _, _, _, _, _, rfl, ?_⟩)
    refine putT u fun w4 f4 hT4 => ?_
    obtain ⟨k12, hk12⟩ : ∃ k, k = w3.heap.size := ⟨_, rfl⟩
    rw [← hk12] at hT4 ⊢
    have f24 := f3.then f4
    refine cond_ne (fun he => ?_) fun he => ?_
    · exact bad w4 _ f24 (by unfold openU; rw [if_neg (fun hh => hh hE), if_pos he])
    · refine ⟨_, hT4.ldE, ?_⟩
      have hue : u.exp = (untx (unsL (es.map RE.ke) client tok)).exp := by rw [← hu]; rfl
      refine cond_d (fun hlt => ?_) fun hlt => ?_
      · exact bad w4 20 f24 (by unfold openU; rw [if_neg (fun hh => hh hE), if_neg (fun hh => hh he), if_pos (by omega)])
      · have hok : openU (es.map RE.ke) client tok now = untx (unsL (es.map RE.ke) client tok) := by unfold openU; rw [if_neg (fun hh => hh hE), if_neg (fun hh => hh he), if_neg (by omega)]
        unfold token_Open_j1
        refine ⟨_, _, _, _, _, _, _, hT4.ldF, ?_⟩
        have hR4 := hR2.fr0 f24
        refine tellT (hB2.fr0 f24) u fun w5 f5 => ?_
        have hR5 : RingAt w5 b p es (N + 1) lo := hR4.fr f5 fun z hz => by
          simp at hz
          subst hz
          exact offR_new hR (by omega)
        have hU5 : TF.own w5 u w2.heap.size := (hU3.fr0 f4).fr_sep f5 (by omega)
        have := hk u L w5 hL ((f02.then f24).trans f5 fun z hz => .inr (by simp at hz; omega)) hR5 (hU5.mono n02) (by rw [hok, hu])
        rw [hok, he] at this
        exact this
  · refine cond_fl_ne hE (bad w2 _ (Fr.refl _ _) (by unfold openU; rw [if_pos hE]))
end
end Go.Sh
end

section
namespace Go.Sh
open Go Go.Fw Go.Proofs
set_option maxRecDepth 100000
set_option linter.unusedVariables false
section
variable {w : World} {K : Value → World → Prop}
theorem ref01Num_c {p : Option Addr} {l c : Nat} {xs : List UInt8} (hx : Row w p (xs.map vb)) (hl : l = xs.length) (h8 : l ≤ 8) (hk : K (.tuple #[.int .u64 (numL xs : Int), .int .i64 0]) w) : callF Tryz.prog F_ref01_Num #[.slice p l c] w K := by
  apply ref01_Num_call
  unfold ref01_Num
  refine cond_d (fun hh => by omega) fun _ => ?_
  refine LoopS.ind (fun k us w' => w' = w ∧ ∃ i : Nat, i + k = l ∧ us = [.slice p l c, .int .u64 0, .int .i64 0, .int .u64 (numL (xs.take i) : Int), .int .i64 (i : Int)]) l ⟨rfl, 0, by omega, rfl⟩ ?_
  rintro k us rr w2 I μ hgo ⟨rfl, i, hi, rfl⟩
  refine ⟨_, _, _, _, _, _, _, rfl, cond_d (fun h3 => ?_) fun h3 => ?_⟩
  · obtain ⟨a, ha, hca⟩ := row_get (t := T_S_uint8) (by kernel_rfl) hx (c := c) hl (i := i) (by omega) (k := .i64)
    refine ⟨_, ha, _, Ld.cell (by kernel_rfl) hca, ?_⟩
    have hlt := numL_lt (xs.take i)
    rw [List.length_take, Nat.min_eq_left (by omega)] at hlt
    have hle : 256 ^ i ≤ 256 ^ 7 := Nat.pow_le_pow_right (by omega) (by omega)
    have h7 : (256 : Nat) ^ 7 = 72057594037927936 := by decide
    have hb := (fl xs i).toNat_lt
    have hb' : ((xs.getD i 0).toNat : Int) = ((fl xs i).toNat : Int) := rfl
    have ew : IntKind.u64.wrap (IntKind.u64.wrap ((numL (xs.take i) : Int) * 256) + IntKind.u64.wrap ((xs.getD i 0).toNat : Int)) = (numL (xs.take (i + 1)) : Int) := by
      rw [hb', wrapu64 (n := (numL (xs.take i) : Int) * 256) (by omega) (by omega), wrapu64 (n := ((fl xs i).toNat : Int)) (by omega) (by omega), wrapu64 (by omega) (by omega), numL_take xs (by omega)]
      omega
    rw [ew, wrap64 (by omega) (by omega)]
    exact hgo _ _ _ (k - 1) (by omega) ⟨rfl, i + 1, by omega, rfl⟩
  · have hil : i = l := by omega
    subst hil
    rw [List.take_of_length_le (by omega)]
    exact hk
theorem byteMod (m : Nat) : IntKind.u8.wrap (Int.tmod (m : Int) 256) = ((UInt8.ofNat m).toNat : Int) := by
  have : Int.tmod (m : Int) 256 = ((m % 256 : Nat) : Int) := by rw [Int.tmod_eq_emod_of_nonneg (by omega)]; omega
  rw [this, wrap8 (by omega) (by omega)]; simp
theorem byteDiv {m : Nat} (h : m < 18446744073709551616) : IntKind.u64.wrap (Int.tdiv (m : Int) 256) = ((m / 256 : Nat) : Int) := by
  have : Int.tdiv (m : Int) 256 = ((m / 256 : Nat) : Int) := by rw [Int.tdiv_eq_ediv_of_nonneg (by omega)]; omega
  rw [this, wrapu64 (by omega) (by omega)]
set_option maxHeartbeats 1000000 in
theorem ref01Put_c {n size : Nat} (h8 : size ≤ 8) (hn : n < 256 ^ size) (h64 : n < 18446744073709551616) (hk : ∀ q d w', Fr [] w w' → OB w' q size d (putL n size) w.heap.size → K (.tuple #[.slice q size d, .int .i64 0]) w') :
    callF Tryz.prog F_ref01_Put #[.int .u64 (n : Int), .int .i64 (size : Int)] w K := by
  apply ref01_Put_call
  unfold ref01_Put
  refine cond_d (fun hh => by omega) fun _ => cond_d (fun hh => by omega) fun _ => ?_
  unfold ref01_Put_j2
  refine mkN (n := size) (c := size) (by omega) (by omega) fun q w1 f1 hO1 s1 => ?_
  have ew0 : IntKind.i64.wrap ((size : Int) - 1) = (size : Int) - 1 := by rw [wrap64 (by omega) (by omega)]
  rw [ew0]
  refine LoopS.ind (fun k us w' => ∃ (i : Nat) (xs : List UInt8), i + k = size ∧ us = [.int .u64 ((n / 256 ^ i : Nat) : Int), .slice none 0 0, .int .i64 0, .slice q size size, .int .i64 (((size - i : Nat) : Int) - 1)] ∧ Fr [] w w' ∧ OB w' q size size xs w.heap.size ∧ ∀ j, size - i ≤ j → j < size → fl xs j = UInt8.ofNat (n / 256 ^ (size - 1 - j))) size ⟨0, _, by omega, by simp, f1, hO1, by omega⟩ ?_
  rintro k us rr w2 I μ hgo ⟨i, xs, hi, rfl, f2, hO2, hx⟩
  have hdl : n / 256 ^ i ≤ n := Nat.div_le_self _ _
  refine ⟨_, _, _, _, _, _, _, _, _, rfl, cond_d (fun h3 => ?_) fun h3 => ?_⟩
  · have ei : ((size - i : Nat) : Int) - 1 = ((size - i - 1 : Nat) : Int) := by omega
    rw [ei]
    obtain ⟨a, ha, hca⟩ := hO2.get (k := .i64) (i := size - i - 1) (by omega)
    have eb := byteMod (n / 256 ^ i)
    have ed : IntKind.u64.wrap (Int.tdiv ((n / 256 ^ i : Nat) : Int) 256) = ((n / 256 ^ (i + 1) : Nat) : Int) := by
      rw [byteDiv (Nat.lt_of_le_of_lt hdl h64), Nat.pow_succ, Nat.div_div_eq_div_mul]
    rw [eb, ed]
    obtain ⟨a2, ha2, w3, hst, f3, hO3⟩ : ∃ a2, IxA Tryz.prog T_S_uint8 (.slice q size size) (.int .i64 ((size - i - 1 : Nat) : Int)) a2 ∧ ∃ w3, Sto Tryz.prog T_uint8 (.pointer (some a2)) (.int .u8 ((UInt8.ofNat (n / 256 ^ i)).toNat : Int)) w2 w3 ∧ Fr (blks q) w2 w3 ∧ OB w3 q size size (xs.set (size - i - 1) (UInt8.ofNat (n / 256 ^ i))) w.heap.size := by
      obtain ⟨a2, ha2, w3, hst, hk3⟩ := hO2.sto (k := .i64) (i := size - i - 1) (x := UInt8.ofNat (n / 256 ^ i)) (by omega) (K := fun w3 => Fr (blks q) w2 w3 ∧ OB w3 q size size (xs.set (size - i - 1) (UInt8.ofNat (n / 256 ^ i))) w.heap.size) fun w3 f3 hO3 s3 => ⟨f3, hO3⟩
      exact ⟨a2, ha2, w3, hst, hk3.1, hk3.2⟩
    refine ⟨_, ha2, w3, hst, ?_⟩
    have ew : IntKind.i64.wrap (((size - i - 1 : Nat) : Int) - 1) = ((size - (i + 1) : Nat) : Int) - 1 := by rw [wrap64 (by omega) (by omega)]; omega
    rw [ew]
    have goal := hgo [] [.int .u64 ((n / 256 ^ (i + 1) : Nat) : Int), .slice none 0 0, .int .i64 0, .slice q size size, .int .i64 (((size - (i + 1) : Nat) : Int) - 1)] w3 (k - 1) (by omega) ⟨i + 1, _, by omega, rfl, hO2.news f2 f3 (Nat.le_refl _), hO3, fun j hj1 hj2 => ?_⟩
    · rw [ei] at goal; exact goal
    · by_cases hje : j = size - i - 1
      · subst hje
        unfold fl
        rw [List.getD_eq_getElem?_getD, List.getElem?_set_self (by have := hO2.2.1; omega)]
        have : size - 1 - (size - i - 1) = i := by omega
        rw [this]; rfl
      · have := hx j (by omega) hj2
        unfold fl at this ⊢
        rw [List.getD_eq_getElem?_getD, List.getElem?_set_ne (by omega), ← List.getD_eq_getElem?_getD]
        exact this
  · have his : i = size := by omega
    subst his
    unfold ref01_Put_j1
    have e0 : n / 256 ^ i = 0 := Nat.div_eq_of_lt hn
    rw [e0]
    refine cond_d (fun hh => by omega) fun _ => ?_
    have ex : xs = putL n i := by
      refine fl_ext (by rw [putL_len]; exact hO2.2.1.symm) fun j hj => ?_
      have hjl : j < i := by have := hO2.2.1; omega
      rw [hx j (by omega) hjl]
      unfold fl putL
      rw [List.getD_eq_getElem?_getD, List.getElem?_map, List.getElem?_range hjl]; rfl
    rw [ex] at hO2
    exact hk q i w2 f2 hO2
end
def RrAt (w : World) (b : Nat) (err : Int) (rest : List UInt8) : Prop :=
  ∃ f p c, Blk w b 2 f ∧ f 0 = .slice p rest.length c ∧ f 1 = .int .i64 err ∧ rest.length ≤ c ∧ Row w p (rest.map vb) ∧ (0 < rest.length → ∀ z ∈ blks p, z < b)
def bytesP (k : Nat) (s : Int × List UInt8) : List UInt8 × (Int × List UInt8) := if s.1 = 0 ∧ k ≤ s.2.length then (s.2.take k, (0, s.2.drop k)) else ([], (if s.1 = 0 then 12 else s.1, s.2))
section
variable {w : World} {b : Nat} {err : Int} {rest : List UInt8} {K : Value → World → Prop}
theorem RrAt.lt (h : RrAt w b err rest) : b < w.heap.size := by obtain ⟨f, p, c, hB, _⟩ := h; exact hB.lt
theorem RrAt.fr {w' : World} {L : List Nat} (h : RrAt w b err rest) (hf : Fr L w w') (hL : ∀ z ∈ L, b < z) : RrAt w' b err rest := by
  obtain ⟨f, p, c, hB, h0, h1, hc, hR, hn⟩ := h
  exact ⟨f, p, c, hB.fr hf (fun hb => by have := hL b hb; omega), h0, h1, hc, rowKeep hR hf (fun h0 z hz hz' => by have := hL z hz'; have := hn h0 z hz; omega), hn⟩
theorem RrAt.fr0 {w' : World} (h : RrAt w b err rest) (hf : Fr [] w w') : RrAt w' b err rest := h.fr hf (by simp)
theorem rrNew_c {t : TypeId} {p : Option Addr} {l c : Nat} {xs : List UInt8} (hR : Row w p (xs.map vb)) (hl : l = xs.length) (hc : l ≤ c) {K : Nat → World → Prop} (h : ∀ w', Fr [] w w' → RrAt w' w.heap.size 0 xs → w'.heap.size = w.heap.size + 1 → K w.heap.size w') : New #[.slice p l c, .int .i64 0] t w K :=
  New.intro fun w1 f1 hB s1 => h w1 f1 ⟨_, p, c, hB, by rw [← hl]; rfl, rfl, by omega, hR.fr0 f1, fun h0 z hz => Row.blk_lt hR h0 _ hz⟩ s1
theorem rrSto (h : RrAt w b err rest) (e : Int) {K : World → Prop} (hk : ∀ w', Fr [b] w w' → RrAt w' b e rest → K w') : ∃ w', Sto Tryz.prog T_api_Errno (.pointer (some ((⟨b, 0, none⟩ : Addr).add 1))) (.int .i64 e) w w' ∧ K w' := by
  obtain ⟨f, p, c, hB, h0, h1, hc, hR, hn⟩ := h
  rw [add_mk]
  refine Sto.blk (by kernel_rfl) hB (by omega) rfl rfl fun w1 f1 hB1 s1 => hk w1 f1 ⟨_, p, c, hB1, by rw [upd_ne _ _ _ (by omega)]; exact h0, upd_same _ _ _, hc, rowKeep hR f1 (fun hh z hz hm => by have := hn hh z hz; simp at hm; omega), hn⟩
theorem RrAt.ldE (h : RrAt w b err rest) : Ld Tryz.prog T_api_Errno (.pointer (some ((⟨b, 0, none⟩ : Addr).add 1))) w (.int .i64 err) := by
  obtain ⟨f, p, c, hB, h0, h1, hc, hR, hn⟩ := h
  rw [add_mk]; exact Ld.blk (by kernel_rfl) hB (by omega) h1
set_option maxHeartbeats 1000000 in
theorem rrBytes_c (h : RrAt w b err rest) (n : Nat) (hn : n < 1000000000) (hlb : rest.length ≤ 1000000)
    (hk : ∀ q d w', Fr [b] w w' → RrAt w' b (bytesP n (err, rest)).2.1 (bytesP n (err, rest)).2.2 → OB w' q (bytesP n (err, rest)).1.length d (bytesP n (err, rest)).1 w.heap.size → K (.slice q (bytesP n (err, rest)).1.length d) w') :
    callF Tryz.prog F_ref09_Reader_Bytes #[.pointer (some ⟨b, 0, none⟩), .int .i64 (n : Int)] w K := by
  apply ref09_Reader_Bytes_call
  unfold ref09_Reader_Bytes
  have a0 : (⟨b, 0, none⟩ : Addr).add 0 = ⟨b, 0, none⟩ := rfl
  have main : ref09_Reader_Bytes_j4 (some ⟨b, 0, none⟩) (n : Int) none 0 0 false w K := by
    unfold ref09_Reader_Bytes_j4
    refine cond_f ?_
    unfold ref09_Reader_Bytes_j3
    refine ⟨_, rfl, _, h.ldE, ?_⟩
    have bad : ∀ (w' : World) (e : Int), Fr [b] w w' → RrAt w' b e rest → e ≠ 0 → bytesP n (err, rest) = ([], (e, rest)) → ref09_Reader_Bytes_j1 (some ⟨b, 0, none⟩) (n : Int) none 0 0 w' K := by
      intro w' e f' h' he hp
      unfold ref09_Reader_Bytes_j1
      rw [hp] at hk
      exact ⟨_, rfl, _, h'.ldE, cond_ne (fun _ => hk none 0 w' f' h' (OB.nil _ _)) fun hh => absurd hh he⟩
    refine cond_eq (fun he => ?_) fun he => ?_
    · subst he
      have h' := h
      obtain ⟨f, p, c, hB, h0, h1, hc, hR, hnb⟩ := h
      refine ⟨_, rfl, ?_⟩
      rw [a0]
      refine ⟨_, _, _, Ld.blk (by kernel_rfl) hB (by omega) h0, ?_⟩
      unfold ref09_Reader_Bytes_j2
      refine cond_d (fun hgt => ?_) fun hle => ?_
      · refine ⟨_, rfl, rrSto h' 12 fun w1 f1 h1' => ?_⟩
        exact bad w1 12 f1 h1' (by omega) (by unfold bytesP; rw [if_neg (by show ¬ ((0 : Int) = 0 ∧ n ≤ rest.length); omega)]; rfl)
      · have hp : bytesP n (0, rest) = (rest.take n, (0, rest.drop n)) := by unfold bytesP; rw [if_pos (by show (0 : Int) = 0 ∧ n ≤ rest.length; omega)]
        rw [hp] at hk
        unfold ref09_Reader_Bytes_j1
        refine ⟨_, rfl, _, h'.ldE, cond_f ?_⟩
        refine mk0 fun p1 w1 f1 hO1 s1 => ⟨_, rfl, ?_⟩
        rw [a0]
        refine ⟨_, _, _, Ld.blk (by kernel_rfl) (hB.fr0 f1) (by omega) h0, ?_⟩
        refine slTo (hR.fr0 f1) rfl (n := n) (by omega) hc fun q2 d2 hq2 hl2 hd2 hb2 => ?_
        refine pushN (m := n) hO1 (by omega) hq2 hl2 (by omega) fun p3 c3 w3 f3 hO3 => ⟨_, rfl, ?_⟩
        have f03 : Fr [] w w3 := f1.trans f3 fun z hz => .inr (hO1.2.2 z hz)
        rw [a0]
        have hB3 := hB.fr0 f03
        refine ⟨_, _, _, Ld.blk (by kernel_rfl) hB3 (by omega) h0, ?_⟩
        refine slFrom (hR.fr0 f03) rfl (n := n) (by omega) hc fun q4 d4 hq4 hl4 hd4 hb4 => ⟨_, rfl, ?_⟩
        rw [a0]
        refine Sto.blk (by kernel_rfl) hB3 (by omega) rfl rfl fun w5 f5 hB5 s5 => ?_
        have hbl := hB.lt
        rw [Nat.zero_add, List.nil_append] at hO3
        rw [Nat.zero_add]
        have el : (rest.take n).length = n := hl2.symm
        have := hk p3 c3 w5 (f03.after f5) ⟨_, q4, d4, hB5, by rw [upd_same, hl4], by rw [upd_ne _ _ _ (by omega)]; exact h1, by show (rest.drop n).length ≤ d4; omega, rowKeep hq4 f5 (fun hh z hz hm => by have := hnb (by rw [List.length_drop] at hh; omega) z (hb4 z hz); simp at hm; omega), fun hh z hz => hnb (by rw [List.length_drop] at hh; omega) z (hb4 z hz)⟩ (by rw [el]; exact hO3.fr_sep f5 (by omega))
        rw [el] at this
        exact this
    · unfold ref09_Reader_Bytes_j2
      refine cond_f (bad w err (Fr.refl _ _) h he (by unfold bytesP; rw [if_neg (by show ¬ (err = 0 ∧ n ≤ rest.length); omega)]; show ([], (if err = 0 then 12 else err, rest)) = _; rw [if_neg he]))
  refine ⟨_, rfl, _, h.ldE, cond_eq (fun he => ?_) fun _ => main⟩
  have e0 : decide ((n : Int) < 0) = false := decide_eq_false (by omega)
  rw [e0]; exact main
theorem bytesP_num (k : Nat) (s : Int × List UInt8) : numP k s = (numL (bytesP k s).1, (bytesP k s).2) := by
  unfold numP bytesP
  split <;> rfl
theorem rrNum_c (h : RrAt w b err rest) (n : Nat) (h8 : n ≤ 8) (hlb : rest.length ≤ 1000000)
    (hk : ∀ w', Fr [b] w w' → RrAt w' b (numP n (err, rest)).2.1 (numP n (err, rest)).2.2 → K (.int .u64 ((numP n (err, rest)).1 : Int)) w') : callF Tryz.prog F_ref09_Reader_Num #[.pointer (some ⟨b, 0, none⟩), .int .i64 (n : Int)] w K := by
  apply ref09_Reader_Num_call
  unfold ref09_Reader_Num
  have main : ref09_Reader_Num_j2 (some ⟨b, 0, none⟩) (n : Int) 0 false w K := by
    unfold ref09_Reader_Num_j2
    refine cond_f ?_
    unfold ref09_Reader_Num_j1
    refine rrBytes_c h n (by omega) hlb fun q d w1 f1 h1 hO1 => ⟨_, _, _, rfl, ?_⟩
    have hle : (bytesP n (err, rest)).1.length ≤ 8 := by
      unfold bytesP
      split
      · show (rest.take n).length ≤ 8; rw [List.length_take]; omega
      · simp
    refine ref01Num_c hO1.row rfl hle ⟨_, _, rfl, ?_⟩
    rw [bytesP_num] at hk
    exact hk w1 f1 h1
  have e0 : decide ((n : Int) < 0) = false := decide_eq_false (by omega)
  have e8 : decide ((n : Int) > 8) = false := decide_eq_false (by omega)
  refine ⟨_, rfl, _, h.ldE, cond_eq (fun _ => ?_) fun _ => main⟩
  rw [e0, e8]
  exact cond_f main
set_option maxHeartbeats 1000000 in
theorem rrShort_c (h : RrAt w b err rest) (hlb : rest.length ≤ 1000000)
    (hk : ∀ q d w', Fr [b] w w' → RrAt w' b (shortP (err, rest)).2.1 (shortP (err, rest)).2.2 → OB w' q (shortP (err, rest)).1.length d (shortP (err, rest)).1 w.heap.size → K (.slice q (shortP (err, rest)).1.length d) w') :
    callF Tryz.prog F_ref09_Reader_Short #[.pointer (some ⟨b, 0, none⟩)] w K := by
  apply ref09_Reader_Short_call
  unfold ref09_Reader_Short
  have a0 : (⟨b, 0, none⟩ : Addr).add 0 = ⟨b, 0, none⟩ := rfl
  have h' := h
  obtain ⟨f, p, c, hB, h0, h1, hc, hR, hnb⟩ := h
  have hbl := hB.lt
  refine ⟨_, rfl, ?_⟩
  rw [a0]
  refine ⟨_, _, _, Ld.blk (by kernel_rfl) hB (by omega) h0, ?_⟩
  refine rrNum_c h' 1 (by omega) hlb fun w1 f1 h1' => ⟨_, rfl, ?_⟩
  apply ref09_Reader_counted_call
  unfold ref09_Reader_counted
  -- what is put back where there is an error
  have bad : ∀ (w2 : World) (e2 : Int) (r2 : List UInt8) (n6 : Int), Fr [b] w w2 → RrAt w2 b e2 r2 → e2 ≠ 0 → shortP (err, rest) = ([], (e2, rest)) → ref09_Reader_counted_j1 (some ⟨b, 0, none⟩) p rest.length c n6 none 0 0 w2 (fun r5 w2 => ∃ p5 l5 c5, r5 = .slice p5 l5 c5 ∧ K (.slice p5 l5 c5) w2) := by
    intro w2 e2 r2 n6 f2 h2 he hs
    unfold ref09_Reader_counted_j1
    refine ⟨_, rfl, _, h2.ldE, cond_ne (fun _ => ⟨_, rfl, ?_⟩) fun hh => absurd hh he⟩
    obtain ⟨g, p2, c2, hB2, g0, g1, _⟩ := h2
    rw [a0]
    refine Sto.blk (by kernel_rfl) hB2 (by omega) rfl rfl fun w3 f3 hB3 s3 => ?_
    have f13 : Fr [b] w w3 := f2.trans f3 fun z hz => .inl hz
    rw [hs] at hk
    exact ⟨_, _, _, rfl, hk none 0 w3 f13 ⟨_, p, c, hB3, upd_same _ _ _, by rw [upd_ne _ _ _ (by omega)]; exact g1, hc, rowKeep hR f13 (fun hh z hz hm => by have := hnb hh z hz; simp at hm; omega), hnb⟩ (OB.nil _ _)⟩
  refine ⟨_, rfl, _, h1'.ldE, ?_⟩
  by_cases hg : err = 0 ∧ 1 ≤ rest.length
  · obtain ⟨rfl, h1l⟩ := hg
    have e1 : numP 1 (0, rest) = (numL (rest.take 1), (0, rest.drop 1)) := by unfold numP; rw [if_pos ⟨rfl, h1l⟩]
    rw [e1] at h1' ⊢
    rw [numL_take1 h1l]
    refine cond_t ?_
    have h1'' : RrAt w1 b 0 (rest.drop 1) := h1'
    have h1c := h1''
    obtain ⟨g, p2, c2, hB2, g0, g1, hc2, hR2, hnb2⟩ := h1''
    refine ⟨_, rfl, ?_⟩
    rw [a0]
    refine ⟨_, _, _, Ld.blk (by kernel_rfl) hB2 (by omega) g0, ?_⟩
    have hdl : (rest.drop 1).length = rest.length - 1 := List.length_drop
    have hb255 := (fl rest 0).toNat_lt
    rw [wrapu64 (by omega) (by omega)]
    unfold ref09_Reader_counted_j2
    refine cond_d (fun hh => ?_) fun hh => ?_
    · refine ⟨_, rfl, rrSto h1c 12 fun w2 f2 h2 => ?_⟩
      exact bad w2 12 _ _ (f1.trans f2 fun z hz => .inl hz) h2 (by omega) (by unfold shortP; rw [if_neg (by show ¬ ((0 : Int) = 0 ∧ (fl rest 0).toNat + 1 ≤ rest.length); omega)]; rfl)
    · have hs : shortP (0, rest) = ((rest.drop 1).take (fl rest 0).toNat, (0, rest.drop ((fl rest 0).toNat + 1))) := by
        unfold shortP; rw [if_pos (by show (0 : Int) = 0 ∧ (fl rest 0).toNat + 1 ≤ rest.length; omega)]
      unfold ref09_Reader_counted_j1
      refine ⟨_, rfl, _, h1c.ldE, cond_f ?_⟩
      rw [wrap64 (by omega) (by omega)]
      refine rrBytes_c h1c (fl rest 0).toNat (by omega) (by omega) fun q d w2 f2 h2 hO2 => ⟨_, _, _, rfl, ?_⟩
      have hp : bytesP (fl rest 0).toNat (0, rest.drop 1) = ((rest.drop 1).take (fl rest 0).toNat, (0, (rest.drop 1).drop (fl rest 0).toNat)) := by unfold bytesP; rw [if_pos (by show (0 : Int) = 0 ∧ _ ≤ (rest.drop 1).length; omega)]
      rw [hp] at h2 hO2 ⊢
      rw [hs] at hk
      rw [List.drop_drop] at h2
      exact ⟨_, _, _, rfl, hk q d w2 (f1.trans f2 fun z hz => .inl hz) (by rw [Nat.add_comm]; exact h2) (hO2.mono f1.size)⟩
  · have he2 : (if err = 0 then (12 : Int) else err) ≠ 0 := by split <;> omega
    have e1 : numP 1 (err, rest) = (0, (if err = 0 then 12 else err, rest)) := by unfold numP; rw [if_neg hg]
    rw [e1] at h1' ⊢
    have hs : shortP (err, rest) = ([], (if err = 0 then 12 else err, rest)) := by
      unfold shortP; rw [if_neg (by show ¬ (err = 0 ∧ (fl rest 0).toNat + 1 ≤ rest.length); omega)]
    have ec : ((if err = 0 then (12 : Int) else err) == 0) = false := by simpa using he2
    rw [ec]
    refine cond_f ?_
    unfold ref09_Reader_counted_j2
    exact cond_f (bad w1 _ rest _ f1 h1' he2 hs)
theorem rrEnd_c (h : RrAt w b err rest) (hk : ∀ w', Fr [b] w w' → RrAt w' b (endP (err, rest)) rest → K (.int .i64 (endP (err, rest))) w') : callF Tryz.prog F_ref09_Reader_End #[.pointer (some ⟨b, 0, none⟩)] w K := by
  apply ref09_Reader_End_call
  unfold ref09_Reader_End
  have a0 : (⟨b, 0, none⟩ : Addr).add 0 = ⟨b, 0, none⟩ := rfl
  have fin : ∀ (w' : World) (e : Int), Fr [b] w w' → RrAt w' b e rest → endP (err, rest) = e → ref09_Reader_End_j1 (some ⟨b, 0, none⟩) 0 w' K := by
    intro w' e f' h' he
    unfold ref09_Reader_End_j1
    rw [he] at hk
    exact ⟨_, rfl, _, h'.ldE, hk w' f' h'⟩
  refine ⟨_, rfl, _, h.ldE, cond_eq (fun he => ?_) fun he => ?_⟩
  · subst he
    have h' := h
    obtain ⟨f, p, c, hB, h0, h1, hc, hR, hnb⟩ := h
    refine ⟨_, rfl, ?_⟩
    rw [a0]
    refine ⟨_, _, _, Ld.blk (by kernel_rfl) hB (by omega) h0, ?_⟩
    unfold ref09_Reader_End_j2
    refine cond_d (fun hgt => ?_) fun hle => ?_
    · refine ⟨_, rfl, rrSto h' 10 fun w1 f1 h1 => fin w1 10 f1 h1 (by unfold endP; rw [if_pos rfl, if_neg (by show ¬ rest.length = 0; omega)])⟩
    · exact fin w 0 (Fr.refl _ _) h' (by unfold endP; rw [if_pos rfl, if_pos (by show rest.length = 0; omega)])
  · unfold ref09_Reader_End_j2
    exact cond_f (fin w err (Fr.refl _ _) h (by unfold endP; rw [if_neg he]))
end
end Go.Sh
end

section
namespace Go.Sh
open Go Go.Fw Go.Proofs
set_option maxRecDepth 100000
set_option linter.unusedVariables false
section
variable {w : World} {f : TF} {K : Value → World → Prop}
theorem tellG {k : Nat} {g : Nat → Value} (hB : Blk w k 3 g) (f : TF) {e : Int} (h : ∀ w', Fr [k] w w' → K (.tuple #[f.a, .int .i64 e]) w') :
    ∃ w2, Sto Tryz.prog T_ref20_Fields (.pointer (some ⟨k, 0, none⟩)) f.a w w2 ∧ ∃ (a4 : Addr) (v4 : Value), (.pointer (some ⟨k, 0, none⟩) : Value) = .pointer (some a4) ∧ (loadVar T_ref20_Fields a4).run Tryz.prog w2 = .ok v4 w2 ∧ K (.tuple #[v4, .int .i64 e]) w2 :=
  stoTAt (by kernel_rfl) hB f fun w3 f3 hT s3 => ⟨_, _, rfl, hT.ldG, h w3 f3⟩
theorem putG (f : TF) {K : Nat → World → Prop} (h : ∀ w', Fr [] w w' → TAt w' w.heap.size f → K w.heap.size w') :
    ∃ z, Pu Tryz.prog (zeroValue T_ref20_Fields) z ∧ New z.cells T_ref20_Fields w fun k w2 => ∃ w3, Sto Tryz.prog T_ref20_Fields (.pointer (some ⟨k, 0, none⟩)) f.a w2 w3 ∧ K k w3 :=
  newZ (s := 3) (by kernel_rfl) fun w2 g2 f2 hB2 s2 => stoTAt (by kernel_rfl) hB2 f fun w3 f3 hT s3 => h w3 (f2.st f3 (Nat.le_refl _)) hT
set_option maxHeartbeats 2000000 in
theorem refText_c (hf : TF.ok w f) (hk : ∀ q d w', Fr [] w w' → OB w' q (textR f).length d (textR f) w.heap.size → K (.tuple #[.slice q (textR f).length d, .int .i64 (textE f)]) w') : callF Tryz.prog F_ref20_Text #[f.a] w K := by
  apply ref20_Text_call
  unfold ref20_Text
  refine newT f fun w1 f1 hT s1 => ?_
  obtain ⟨k1, hk1⟩ : ∃ k, k = w.heap.size := ⟨_, rfl⟩
  rw [← hk1] at hT ⊢
  have bad : longF f → K (.tuple #[.slice none 0 0, .int .i64 15]) w1 := fun hl => by
    have e1 : textE f = 15 := by unfold textE; rw [if_pos hl]
    have e2 : textR f = [] := by unfold textR; rw [if_pos hl]
    rw [e1, e2] at hk
    exact hk none 0 w1 f1 (OB.nil _ _)
  refine ⟨_, _, _, hT.ldO, cond_d (fun h1 => bad (.inl (by omega))) fun h1 => ⟨_, _, _, hT.ldS, cond_d (fun h2 => bad (.inr (by omega))) fun h2 => ?_⟩⟩
  have hl : ¬ longF f := by unfold longF; omega
  have e1 : textE f = 0 := by unfold textE; rw [if_neg hl]
  have e2 : textR f = textL f := by unfold textR; rw [if_neg hl]
  rw [e1, e2] at hk
  unfold ref20_Text_j1
  have hk1l := hT.lt
  refine ⟨_, hT.ldE, ref01Put_c (n := f.exp) (size := 8) (by omega) (by have := hf.e; simpa using this) hf.e fun p2 c2 w2 f2 hO2 => ⟨_, _, _, _, rfl, ?_⟩⟩
  have n1 := f1.size
  have f02 := f1.then f2
  have hT2 := hT.fr0 f2
  refine ⟨fun w' => TAt w' k1 f, Drw.intro fun w3 f3 s3 => ?_⟩
  have hT3 := hT2.fr0 f3
  refine ⟨_, _, _, ⟨hT3, fun w' hw' => hw'.ldO⟩, _, _, _, ⟨hT3, fun w' hw' => hw'.ldO⟩, ?_⟩
  have eb : ∀ n : Nat, n ≤ 20 → IntKind.u8.wrap (n : Int) = ((UInt8.ofNat n).toNat : Int) := fun n hn => by rw [wrap8 (by omega) (by omega)]; simp; omega
  rw [eb _ (by omega)]
  refine mk1 (x := UInt8.ofNat f.od.length) fun p4 w4 f4 hO4 s4 => ⟨.inr (hT3.fr0 f4), ?_⟩
  have hO24 := (hO2.fr0 f3).fr0 f4
  have hlo : ∀ z ∈ blks p2, w1.heap.size ≤ z := hO2.2.2
  have m4 := f4.size; have m3 := f3.size; have m2 := f2.size
  refine pushN (m := 1) hO24 (by omega) hO4.row rfl (by omega) fun p5 c5 w5 f5 hO5 => ?_
  have hT5 : TAt w5 k1 f := (hT3.fr0 f4).fr f5 fun hm => by have := hlo _ hm; omega
  refine ⟨.inr hT5, ?_⟩
  have f05 : Fr [] w w5 := ((f02.then f3).then f4).trans f5 fun z hz => .inr (by have := hlo z hz; omega)
  have m5 := f5.size
  refine pushN (m := f.od.length) hO5 (by omega) (hf.fr0 f05).r1 rfl (by omega) fun p6 c6 w6 f6 hO6 => ?_
  have hT6 : TAt w6 k1 f := hT5.fr f6 fun hm => by have := hO5.2.2 _ hm; omega
  have f06 : Fr [] w w6 := f05.trans f6 fun z hz => .inr (by have := hO5.2.2 z hz; omega)
  have m6 := f6.size
  refine ⟨fun w' => TAt w' k1 f, Drw.intro fun w7 f7 s7 => ?_⟩
  have hT7 := hT6.fr0 f7
  refine ⟨_, _, _, ⟨hT7, fun w' hw' => hw'.ldS⟩, _, _, _, ⟨hT7, fun w' hw' => hw'.ldS⟩, ?_⟩
  rw [eb _ (by omega)]
  refine mk1 (x := UInt8.ofNat f.sc.length) fun p8 w8 f8 hO8 s8 => ⟨.inr (hT7.fr0 f8), ?_⟩
  have m8 := f8.size; have m7 := f7.size
  refine pushN (m := 1) ((hO6.fr0 f7).fr0 f8) (by omega) hO8.row rfl (by omega) fun p9 c9 w9 f9 hO9 => ?_
  have hT9 : TAt w9 k1 f := (hT7.fr0 f8).fr f9 fun hm => by have := hO6.2.2 _ hm; omega
  refine ⟨.inr hT9, ?_⟩
  have f09 : Fr [] w w9 := ((f06.then f7).then f8).trans f9 fun z hz => .inr (by have := hO6.2.2 z hz; omega)
  have m9 := f9.size
  refine pushN (m := f.sc.length) hO9 (by omega) (hf.fr0 f09).r2 rfl (by omega) fun pa ca wa fa hOa => ?_
  have f0a : Fr [] w wa := f09.trans fa fun z hz => .inr (by have := hO9.2.2 z hz; omega)
  have eT : putL f.exp 8 ++ [UInt8.ofNat f.od.length] ++ f.od ++ [UInt8.ofNat f.sc.length] ++ f.sc = textL f := by simp [textL]
  rw [eT] at hOa
  have ell : 8 + 1 + f.od.length + 1 + f.sc.length = (textL f).length := hOa.2.1
  rw [ell] at hOa ⊢
  exact hk pa ca wa f0a (hOa.mono (by omega))
theorem refTSame_c {g : TF} (hf : TF.ok w f) (hg : TF.ok w g) (hk : ∀ w', Fr [] w w' → K (.bool (decide (f.exp = g.exp ∧ f.od = g.od ∧ f.sc = g.sc))) w') : callF Tryz.prog F_ref20_Same #[f.a, g.a] w K := by
  apply ref20_Same_call
  unfold ref20_Same
  refine newT f fun w1 f1 hT1 s1 => newT g fun w2 f2 hT2 s2 => ?_
  have f02 := f1.then f2
  have hT12 := hT1.fr0 f2
  have hf2 := hf.fr0 f02; have hg2 := hg.fr0 f02
  refine ⟨_, hT12.ldE, _, hT2.ldE, cond_eq (fun h1 => ?_) fun h1 => ?_⟩
  · refine ⟨_, _, _, hT12.ldO, _, _, Ef.toStr (by kernel_rfl) hf2.r1 rfl, _, _, _, hT2.ldO, _, _, Ef.toStr (by kernel_rfl) hg2.r1 rfl, _, _, Ef.strEq, ?_⟩
    rw [bstr_eq]
    refine cond_d (fun h2 => ?_) fun h2 => ?_
    · refine ⟨_, _, _, hT12.ldS, _, _, Ef.toStr (by kernel_rfl) hf2.r2 rfl, _, _, _, hT2.ldS, _, _, Ef.toStr (by kernel_rfl) hg2.r2 rfl, _, _, Ef.strEq, ?_⟩
      rw [bstr_eq]
      have := hk w2 f02
      have e : decide (f.exp = g.exp ∧ f.od = g.od ∧ f.sc = g.sc) = decide (f.sc = g.sc) := by
        apply decide_eq_decide.2; exact ⟨fun h => h.2.2, fun h => ⟨by omega, h2, h⟩⟩
      rw [e] at this; exact this
    · have := hk w2 f02
      rw [decide_eq_false (fun h => h2 h.2.1)] at this; exact this
  · have := hk w2 f02
    rw [decide_eq_false (fun h => h1 (by rw [h.1]))] at this; exact this
theorem refNote_c {n : Nat} (hn : n < 256) {p : Option Addr} {l c : Nat} {xs : List UInt8} (hR : Row w p (xs.map vb)) (hl : l = xs.length) (hlb : l ≤ 1000000)
    (hk : ∀ q d w', Fr [] w w' → OB w' q (UInt8.ofNat n :: xs).length d (UInt8.ofNat n :: xs) w.heap.size → K (.slice q (UInt8.ofNat n :: xs).length d) w') : callF Tryz.prog F_ref20_note #[.int .i64 (n : Int), .slice p l c] w K := by
  apply ref20_note_call
  unfold ref20_note
  have ew : IntKind.u8.wrap (n : Int) = ((UInt8.ofNat n).toNat : Int) := by rw [wrap8 (by omega) (by omega)]; simp; omega
  rw [ew]
  refine mk1 (x := UInt8.ofNat n) fun p1 w1 f1 h1 s1 => ?_
  refine pushN (m := l) h1 (by omega) (hR.fr0 f1) hl (by omega) fun p2 c2 w2 f2 hO2 => ?_
  have e1 : 1 + l = (UInt8.ofNat n :: xs).length := by rw [List.length_cons]; omega
  have e2 : [UInt8.ofNat n] ++ xs = UInt8.ofNat n :: xs := rfl
  rw [e1, e2] at hO2
  rw [e1]
  exact hk p2 c2 w2 (f1.trans f2 fun z hz => .inr (h1.2.2 z hz)) hO2
set_option maxHeartbeats 2000000 in
theorem refUntext_c {p : Option Addr} {l c : Nat} {b : List UInt8} (hR : Row w p (b.map vb)) (hl : l = b.length) (hc : l ≤ c) (hlb : b.length ≤ 1000000)
    (hk : ∀ u w', Fr [] w w' → TF.own w' u w.heap.size → u.ut (untx b).e = untx b → K (.tuple #[u.a, .int .i64 (untx b).e]) w') : callF Tryz.prog F_ref20_Untext #[.slice p l c] w K := by
  apply ref20_Untext_call
  unfold ref20_Untext
  refine newZ (s := 3) (by kernel_rfl) fun w1 g1 f1 hB1 s1 => ?_
  obtain ⟨k2, hk2⟩ : ∃ k, k = w.heap.size := ⟨_, rfl⟩
  rw [← hk2] at hB1 ⊢
  refine rrNew_c (hR.fr0 f1) hl hc fun w2 f2 hR2 s2 => ?_
  obtain ⟨r, hr⟩ : ∃ r, r = w1.heap.size := ⟨_, rfl⟩
  rw [← hr] at hR2 ⊢
  obtain ⟨n, hn⟩ : ∃ n, n = numP 8 (0, b) := ⟨_, rfl⟩
  refine rrNum_c hR2 8 (by omega) hlb fun w3 f3 hR3 => ⟨_, rfl, ?_⟩
  have hlt := numP_lt (0, b)
  have n1 : (numP 8 (0, b)).2.2.length ≤ b.length := numP_len 8 (0, b)
  rw [← hn] at hR3 hlt n1 ⊢
  refine newZ (s := 3) (by kernel_rfl) fun w3a g3a f3a hB3a s3a => ?_
  obtain ⟨k5, hk5⟩ : ∃ k, k = w3.heap.size := ⟨_, rfl⟩
  rw [← hk5] at hB3a ⊢
  refine Sto.agg (m := 3) (cs := [.int .u64 (n.1 : Int), .slice none 0 0, .slice none 0 0]) (by kernel_rfl) rfl hB3a (by omega) (by simp; exact ⟨rfl, rfl⟩) fun w3b f3b hB3b s3b => ?_
  have f33 : Fr [] w3 w3b := f3a.st f3b (by omega)
  have hR3b := (hR3.fr0 f3a).fr f3b (by simp; have := hR3.lt; omega)
  obtain ⟨o, ho⟩ : ∃ o, o = shortP n.2 := ⟨_, rfl⟩
  have hn2 : (n.2.1, n.2.2) = n.2 := rfl
  have m1 := f1.size; have m2 := f2.size; have m3 := f3.size; have m33 := f33.size
  have hrl := hR3.lt
  refine rrShort_c hR3b (by omega) fun q4 d4 w4 f4 hR4 hO4 => ⟨_, _, _, rfl, ?_⟩
  have o1 := (shortP_len n.2).1
  rw [hn2, ← ho] at hR4 hO4
  rw [hn2, ← ho]
  rw [← ho] at o1
  have hB4 := hB3b.fr f4 (by simp; omega)
  rw [add_mk]
  refine Sto.blk (by kernel_rfl) hB4 (by omega) rfl rfl fun w5 f5 hB5 s5 => ?_
  have hR5 := hR4.fr f5 (by simp; omega)
  have m4 := f4.size
  have hO45 := hO4.fr_sep f5 (by omega)
  obtain ⟨s, hs⟩ : ∃ s, s = shortP o.2 := ⟨_, rfl⟩
  have ho2 : (o.2.1, o.2.2) = o.2 := rfl
  refine rrShort_c hR5 (by omega) fun q6 d6 w6 f6 hR6 hO6 => ⟨_, _, _, rfl, ?_⟩
  rw [ho2, ← hs] at hR6 hO6
  rw [ho2, ← hs]
  have hB6 := hB5.fr f6 (by simp; omega)
  have m6 := f6.size
  have hO46 := hO45.fr_sep f6 (by omega)
  rw [add_mk]
  refine Sto.blk (by kernel_rfl) hB6 (by omega) rfl rfl fun w7 f7 hB7 s7 => ?_
  have hR7 := hR6.fr f7 (by simp; omega)
  have hO47 := hO46.fr_sep f7 (by omega)
  have hO67 := hO6.fr_sep f7 (by omega)
  obtain ⟨u, hu⟩ : ∃ u : TF, u = ⟨n.1, o.1, s.1, q4, d4, q6, d6⟩ := ⟨_, rfl⟩
  have hT7 : TAt w7 k5 u := by
    refine ⟨_, hB7, fun j v hj => ?_⟩
    rw [hu] at hj
    have hj3 := (List.getElem?_eq_some_iff.1 hj).1
    have hj3 : j < 3 := hj3
    match j, hj3 with
    | 0, _ =>
      rw [upd_ne _ _ _ (by omega), upd_ne _ _ _ (by omega)]
      unfold updN
      rw [dif_pos ⟨by omega, by simp⟩]
      exact Option.some.inj hj
    | 1, _ =>
      rw [upd_ne _ _ _ (by omega)]
      show upd _ (0 + 1) _ (0 + 1) = _
      rw [upd_same]
      exact Option.some.inj hj
    | 2, _ =>
      show upd _ (0 + 2) _ (0 + 2) = _
      rw [upd_same]
      exact Option.some.inj hj
  have fa : Fr [] w w3b := ((f1.then f2).trans f3 (fun z hz => .inr (by simp at hz; omega))).then f33
  have f07 : Fr [] w w7 := (((fa.trans f4 (fun z hz => .inr (by simp at hz; omega))).trans f5 (fun z hz => .inr (by simp at hz; omega))).trans f6 (fun z hz => .inr (by simp at hz; omega))).trans f7 (fun z hz => .inr (by simp at hz; omega))
  refine rrEnd_c hR7 fun w8 f8 _ => ⟨_, rfl, ?_⟩
  have hs2 : (s.2.1, s.2.2) = s.2 := rfl
  rw [hs2]
  have f08 : Fr [] w w8 := f07.trans f8 (fun z hz => .inr (by simp at hz; omega))
  have hT8 := hT7.fr f8 (by simp; omega)
  have hU8 : TF.own w8 u (k5 + 1) := by
    rw [hu]
    exact ⟨(hO47.fr_sep f8 (by omega)).mono (by omega), (hO67.fr_sep f8 (by omega)).mono (by omega), hlt⟩
  have hut : untx b = if endP s.2 ≠ 0 then .bad (endP s.2) else if 20 < o.1.length ∨ 20 < s.1.length then .bad 10 else ⟨0, n.1, o.1, s.1⟩ := by
    rw [hs, ho, hn]; rfl
  have hB8 : Blk w8 k2 3 g1 := by
    have hx : Blk w3b k2 3 g1 := ((((hB1.fr0 f2).fr f3 (by simp; omega)).fr0 f33))
    exact ((((hx.fr f4 (by simp; omega)).fr f5 (by simp; omega)).fr f6 (by simp; omega)).fr f7 (by simp; omega)).fr f8 (by simp; omega)
  have fin : ∀ (e : Int), (e ≠ 0 → untx b = .bad e) → (e = 0 → untx b = ⟨0, n.1, o.1, s.1⟩) → ref20_Untext_j1 ⟨k2, 0, none⟩ 0 ⟨k5, 0, none⟩ e w8 K := by
    intro e hbe hoe
    unfold ref20_Untext_j1
    refine cond_ne (fun he => ?_) fun he => ?_
    · have hbe := hbe he
      refine tellG hB8 tf0 fun w10 f10 => ?_
      have := hk tf0 w10 (f08.st f10 (by omega)) (tf0_own _ _) (by rw [hbe]; rfl)
      rw [hbe] at this; exact this
    · have hok := hoe he
      refine ⟨_, _, _, _, _, _, _, hT8.ldG, ?_⟩
      refine tellG hB8 u fun w10 f10 => ?_
      have := hk u w10 (f08.st f10 (by omega)) ((hU8.fr_sep f10 (by omega)).mono (by omega)) (by rw [hok, hu]; rfl)
      rw [hok] at this; exact this
  refine cond_eq (fun he => ?_) fun he => ?_
  · have hou : u.od = o.1 := by rw [hu]
    have hsu : u.sc = s.1 := by rw [hu]
    refine ⟨_, _, _, hT8.ldO, cond_d (fun h1 => ?_) fun h1 => ⟨_, _, _, hT8.ldS, cond_d (fun h2 => ?_) fun h2 => ?_⟩⟩
    · exact fin 10 (fun _ => by rw [hut, if_neg (fun hh => hh he), if_pos (.inl (by rw [hou] at h1; omega))]) (fun hh => by omega)
    · exact fin 10 (fun _ => by rw [hut, if_neg (fun hh => hh he), if_pos (.inr (by rw [hsu] at h2; omega))]) (fun hh => by omega)
    · exact fin _ (fun hh => absurd he hh) (fun _ => by rw [hut, if_neg (fun hh => hh he), if_neg (by rw [hou] at h1; rw [hsu] at h2; omega)])
  · exact fin _ (fun _ => by rw [hut, if_pos he]) (fun hh => absurd hh he)
end
section
variable {w : World} {K : Value → World → Prop} {r lo : Nat} {q : Option Addr} {rs : List RR}
theorem RefAt.sq {s : Int} (h : RefAt w r q rs lo) (hs : hasK (rs.map RR.ke) s) : ∃ e, rs[idxK (rs.map RR.ke) s]? = some e ∧ (e.sq : Int) = s ∧ e ∈ rs ∧ keyK (rs.map RR.ke) s = e.key := by
  obtain ⟨e, h1, h2⟩ := hasK_at hs
  unfold keyK
  rw [h1]
  rw [List.getElem?_map] at h1
  cases he : rs[idxK (rs.map RR.ke) s]? with
  | none => rw [he] at h1; cases h1
  | some x =>
    rw [he] at h1
    cases h1
    exact ⟨x, rfl, h2, List.mem_of_getElem? he, rfl⟩
set_option maxHeartbeats 2000000 in
theorem refSeal_c (hS : RefAt w r q rs lo) {s : Int} (hs0 : hasK (rs.map RR.ke) s → 0 ≤ s ∧ s < 256) {p2 p3 : Option Addr} {l2 c2 l3 c3 : Nat} {nonce client : List UInt8} {f : TF} (h2 : Row w p2 (nonce.map vb)) (hl2 : l2 = nonce.length)
    (h3 : Row w p3 (client.map vb)) (hl3 : l3 = client.length) (hb3 : l3 ≤ 1000000) (hf : TF.ok w f)
    (hk : ∀ q' d w', Fr [] w w' → OB w' q' (sealL (rs.map RR.ke) s nonce client f).length d (sealL (rs.map RR.ke) s nonce client f) w.heap.size → K (.tuple #[.slice q' (sealL (rs.map RR.ke) s nonce client f).length d, .int .i64 (sealE (rs.map RR.ke) s nonce client f)]) w') :
    callF Tryz.prog F_ref20_Seal #[.pointer (some ⟨r, 0, none⟩), .int .i64 s, .slice p2 l2 c2, .slice p3 l3 c3, f.a] w K := by
  apply ref20_Seal_call
  unfold ref20_Seal
  have bad : ∀ (e : Int) w', sealE (rs.map RR.ke) s nonce client f = e → e ≠ 0 → Fr [] w w' → K (.tuple #[.slice none 0 0, .int .i64 e]) w' := by
    intro e w' he h0 f'
    have h1 : sealL (rs.map RR.ke) s nonce client f = [] := by unfold sealL; rw [if_neg (by rw [he]; exact h0)]
    have := hk none 0 w' f'
    rw [h1, he] at this
    exact this (OB.nil _ _)
  refine newT f fun w1 f1 hT s1 => ?_
  have hS1 := hS.fr0 f1
  refine refFind_c hS1 ⟨_, rfl, ?_⟩
  unfold findI
  by_cases hs : hasK (rs.map RR.ke) s
  · rw [if_pos hs]
    have hs' : ¬ ¬ hasK (rs.map RR.ke) s := fun hh => hh hs
    refine cond_d (fun hh => by omega) fun _ => ?_
    refine cond_ne (fun hne => bad 11 w1 (by unfold sealE; rw [if_neg hs', if_pos (.inl (by omega))]) (by omega) f1) fun h12 => ?_
    refine cond_d (fun h64 => bad 11 w1 (by unfold sealE; rw [if_neg hs', if_pos (.inr (by omega))]) (by omega) f1) fun h64 => ?_
    have hin : ¬ (nonce.length ≠ 12 ∨ 64 < client.length) := by omega
    unfold ref20_Seal_j1
    refine ⟨_, _, _, _, _, _, _, hT.ldG, refText_c (hf.fr0 f1) fun qt dt w3 f3 hO3 => ⟨_, _, _, _, rfl, ?_⟩⟩
    have f03 := f1.then f3
    by_cases hl : longF f
    · have et : textE f = 15 := by unfold textE; rw [if_pos hl]
      rw [et]
      exact cond_t (bad 15 w3 (by unfold sealE; rw [if_neg hs', if_neg hin, if_pos hl]) (by omega) f03)
    · have et : textE f = 0 := by unfold textE; rw [if_neg hl]
      have er : textR f = textL f := by unfold textR; rw [if_neg hl]
      have eE : sealE (rs.map RR.ke) s nonce client f = 0 := by unfold sealE; rw [if_neg hs', if_neg hin, if_neg hl]
      obtain ⟨e, he, hes, hem, hkey⟩ := hS.sq hs
      obtain ⟨hs1, hs2⟩ := hs0 hs
      obtain ⟨n, rfl⟩ := Int.eq_ofNat_of_zero_le hs1
      have eL : sealL (rs.map RR.ke) (n : Int) nonce client f = UInt8.ofNat n :: (nonce ++ slL e.key nonce (textL f) (UInt8.ofNat n :: client)) := by
        unfold sealL; rw [if_pos eE, hkey, Int.toNat_natCast]
      rw [eE, eL] at hk
      rw [er] at hO3
      rw [et, er]
      have hlf : f.od.length ≤ 20 ∧ f.sc.length ≤ 20 := by unfold longF at hl; omega
      have hll := textL_len f
      obtain ⟨g, c, hB, e0, hO⟩ := hS.blk
      refine cond_f ⟨fun w' => Fr [] w3 w', Drw.intro fun w4 f4 s4 => ⟨_, rfl, ?_⟩⟩
      have ldr : ∀ {w'}, Fr [] w3 w' → Ld Tryz.prog T_S_ref19_Row (.pointer (some ((⟨r, 0, none⟩ : Addr).add 0))) w' (.slice q rs.length c) := fun {w'} f => by rw [add_mk]; exact Ld.blk (by kernel_rfl) ((hB.fr0 f03).fr0 f) (by omega) e0
      have f04 := f03.then f4
      obtain ⟨gb, go, hx, _, _⟩ := rowIx (hO.fr0 f04) rfl he
      have hlk : ∀ {w'}, Fr [] w3 w' → Ld Tryz.prog T_S_uint8 (.pointer (some ((⟨gb, go, none⟩ : Addr).add 1))) w' (.slice e.kp 16 e.kc) := fun {w'} f => by
        obtain ⟨gb2, go2, hx2, _, hk2⟩ := rowIx (hO.fr0 (f03.then f)) rfl he
        have := hx.symm.trans hx2
        have ha : (⟨gb, go, none⟩ : Addr) = ⟨gb2, go2, none⟩ := by simpa using this
        rw [ha]; exact hk2
      refine ⟨_, _, _, ⟨f4, fun w' hw' => ldr hw'⟩, _, hx, _, _, _, ⟨f4, fun w' hw' => hlk hw'⟩, ?_⟩
      refine refNote_c (n := n) (by omega) (h3.fr0 f04) hl3 hb3 fun qn dn w5 f5 hO5 => ⟨_, _, _, rfl, .inr (f4.then f5), ?_⟩
      have f05 := f04.then f5
      obtain ⟨a1, a2, a3, a4⟩ := hS.ent e hem
      refine refGseal_c (a1.fr0 f05) a2.symm a3 rfl (h2.fr0 f05) hl2 (hO3.fr0 (f4.then f5)).row rfl hO5.row rfl fun qs ds w6 f6 hO6 => ⟨_, _, _, _, rfl, ?_⟩
      have f06 := f05.then f6
      have ew : IntKind.u8.wrap (n : Int) = ((UInt8.ofNat n).toNat : Int) := by rw [wrap8 (by omega) (by omega)]; simp; omega
      rw [ew]
      obtain ⟨S, hSS⟩ : ∃ S, S = slL e.key nonce (textL f) (UInt8.ofNat n :: client) := ⟨_, rfl⟩
      have hSl := slL_le e.key nonce (textL f) (UInt8.ofNat n :: client)
      rw [← hSS] at hO6 hSl hk ⊢
      refine mk1 (x := UInt8.ofNat n) fun p7 w7 f7 hO7 s7 => ?_
      have f07 := f06.then f7
      refine pushN (m := l2) hO7 (by omega) (h2.fr0 f07) hl2 (by omega) fun p8 c8 w8 f8 hO8 => ?_
      have f68 : Fr [] w6 w8 := f7.trans f8 fun z hz => .inr (hO7.2.2 z hz)
      refine pushN (m := S.length) hO8 (by have := f68.size; omega) (hO6.fr0 f68).row rfl (by omega) fun p9 c9 w9 f9 hO9 => ?_
      have f69 : Fr [] w6 w9 := f68.trans f9 fun z hz => .inr (hO8.2.2 z hz)
      have e1 : [UInt8.ofNat n] ++ nonce ++ S = UInt8.ofNat n :: (nonce ++ S) := by simp
      have e2 : 1 + l2 + S.length = (UInt8.ofNat n :: (nonce ++ S)).length := by rw [← e1]; exact hO9.2.1
      rw [e1, e2] at hO9
      rw [e2]
      exact hk p9 c9 w9 (f06.then f69) (hO9.mono f06.size)
  · rw [if_neg hs]
    exact cond_d (fun _ => bad 17 w1 (by unfold sealE; rw [if_pos hs]) (by omega) f1) fun hh => by omega
set_option maxHeartbeats 2000000 in
theorem refOpen_c (hS : RefAt w r q rs lo) {p1 p2 : Option Addr} {l1 c1 l2 c2 now : Nat} {client tok : List UInt8} (h1 : Row w p1 (client.map vb)) (hl1 : l1 = client.length) (hb1 : l1 ≤ 1000000)
    (h2 : Row w p2 (tok.map vb)) (hl2 : l2 = tok.length) (hc2 : l2 ≤ c2) (hb2 : l2 ≤ 900000)
    (hk : ∀ u w', Fr [] w w' → TF.own w' u w.heap.size → u.ut (openU (rs.map RR.ke) client tok now).e = openU (rs.map RR.ke) client tok now → K (.tuple #[u.a, .int .i64 (openU (rs.map RR.ke) client tok now).e]) w') :
    callF Tryz.prog F_ref20_Open #[.pointer (some ⟨r, 0, none⟩), .slice p1 l1 c1, .slice p2 l2 c2, .int .u64 (now : Int)] w K := by
  apply ref20_Open_call
  unfold ref20_Open
  refine newZ (s := 3) (by kernel_rfl) fun w1 g1 f1 hB1 s1 => ?_
  obtain ⟨k8, hk8⟩ : ∃ k, k = w.heap.size := ⟨_, rfl⟩
  rw [← hk8] at hB1 ⊢
  have bad : ∀ (w' : World) (e : Int), Fr [] w1 w' → openU (rs.map RR.ke) client tok now = .bad e → ∃ w3, Sto Tryz.prog T_ref20_Fields (.pointer (some ⟨k8, 0, none⟩)) tf0.a w' w3 ∧ ∃ (a4 : Addr) (v4 : Value), (.pointer (some ⟨k8, 0, none⟩) : Value) = .pointer (some a4) ∧ (loadVar T_ref20_Fields a4).run Tryz.prog w3 = .ok v4 w3 ∧ K (.tuple #[v4, .int .i64 e]) w3 := by
    intro w' e f' he
    refine tellG (hB1.fr0 f') tf0 fun w4 f4 => ?_
    have := hk tf0 w4 ((f1.then f').st f4 (by omega)) (tf0_own _ _) (by rw [he]; rfl)
    rw [he] at this; exact this
  have ou : ∀ e, unsE (rs.map RR.ke) client tok = e → e ≠ 0 → openU (rs.map RR.ke) client tok now = .bad e := fun e he h0 => by unfold openU; rw [if_pos (by rw [he]; exact h0), he]
  refine cond_d (fun h29 => bad w1 12 (Fr.refl _ _) (ou 12 (by unfold unsE; rw [if_pos (by omega)]) (by omega))) fun h29 => ?_
  have hn29 : ¬ tok.length < 29 := by omega
  obtain ⟨a, ha, hca⟩ := row_get (t := T_S_uint8) (by kernel_rfl) (h2.fr0 f1) (c := c2) hl2 (i := 0) (by omega) (k := .i64)
  have h256 := (fl tok 0).toNat_lt
  refine ⟨_, ha, _, Ld.cell (by kernel_rfl) hca, ?_⟩
  rw [wrap64 (by omega) (by show ((fl tok 0).toNat : Int) < _; omega)]
  have etk : (((tok.getD 0 0).toNat : Nat) : Int) = (tk0 tok : Int) := rfl
  rw [etk]
  refine refFind_c (hS.fr0 f1) ⟨_, rfl, ?_⟩
  unfold findI
  by_cases hs : hasK (rs.map RR.ke) (tk0 tok : Int)
  · rw [if_pos hs]
    have hs' : ¬ ¬ hasK (rs.map RR.ke) (tk0 tok : Int) := fun hh => hh hs
    refine cond_d (fun hh => by omega) fun _ => ?_
    have b13 : (64 < client.length ∨ 4096 < tok.length) → ∀ bb, bb = true → ref20_Open_j2 (some ⟨r, 0, none⟩) p1 l1 c1 p2 l2 c2 (now : Int) ⟨k8, 0, none⟩ 0 (idxK (rs.map RR.ke) (tk0 tok : Int) : Int) bb w1 K := fun hh bb hb => by
      subst hb
      unfold ref20_Open_j2
      exact cond_t (bad w1 13 (Fr.refl _ _) (ou 13 (by unfold unsE; rw [if_neg hn29, if_neg hs', if_pos hh]) (by omega)))
    refine cond_d (fun h64 => b13 (.inl (by omega)) true rfl) fun h64 => ?_
    by_cases h4 : (l2 : Int) > 4096
    · rw [decide_eq_true h4]
      exact b13 (.inr (by omega)) true rfl
    rw [decide_eq_false h4]
    have hin : ¬ (64 < client.length ∨ 4096 < tok.length) := by omega
    unfold ref20_Open_j2
    refine cond_f ?_
    unfold ref20_Open_j1
    obtain ⟨e, he, hes, hem, hkey⟩ := hS.sq hs
    obtain ⟨g, c, hB, e0, hO⟩ := hS.blk
    refine ⟨fun w' => Fr [] w1 w', Drw.intro fun w2 f2 s2 => ⟨_, rfl, ?_⟩⟩
    have f02 := f1.then f2
    refine slMid (h2.fr0 f02) hl2 (a := 1) (b := 13) (by omega) (by omega) hc2 fun qa da hqa hla hda hba => ?_
    refine slFrom (h2.fr0 f02) hl2 (n := 13) (by omega) hc2 fun qb db hqb hlb hdb hbb => ?_
    obtain ⟨a2, ha2, hca2⟩ := row_get (t := T_S_uint8) (by kernel_rfl) (h2.fr0 f02) (c := c2) hl2 (i := 0) (by omega) (k := .i64)
    have ldr : ∀ {w'}, Fr [] w1 w' → Ld Tryz.prog T_S_ref19_Row (.pointer (some ((⟨r, 0, none⟩ : Addr).add 0))) w' (.slice q rs.length c) := fun {w'} f => by rw [add_mk]; exact Ld.blk (by kernel_rfl) ((hB.fr0 f1).fr0 f) (by omega) e0
    obtain ⟨gb, go, hx, _, _⟩ := rowIx (hO.fr0 f02) rfl he
    have hlk : ∀ {w'}, Fr [] w1 w' → Ld Tryz.prog T_S_uint8 (.pointer (some ((⟨gb, go, none⟩ : Addr).add 1))) w' (.slice e.kp 16 e.kc) := fun {w'} f => by
      obtain ⟨gb2, go2, hx2, _, hk2⟩ := rowIx (hO.fr0 (f1.then f)) rfl he
      have := hx.symm.trans hx2
      have ha : (⟨gb, go, none⟩ : Addr) = ⟨gb2, go2, none⟩ := by simpa using this
      rw [ha]; exact hk2
    refine ⟨_, ha2, _, _, _, ⟨f2, fun w' hw' => ldr hw'⟩, _, hx, _, _, _, ⟨f2, fun w' hw' => hlk hw'⟩, _, Ld.cell (by kernel_rfl) hca2, .inl rfl, ?_⟩
    rw [wrap64 (by omega) (by show ((fl tok 0).toNat : Int) < _; omega), etk]
    refine refNote_c (n := tk0 tok) h256 (h1.fr0 f02) hl1 hb1 fun qn dn w3 f3 hO3 => ⟨_, _, _, rfl, .inr (f2.then f3), ?_⟩
    have f03 := f02.then f3
    obtain ⟨a1, a2', a3, a4⟩ := hS.ent e hem
    refine refGopen_c (a1.fr0 f03) a2'.symm a3 rfl (hqa.fr0 f3) hla (hqb.fr0 f3) hlb hdb (by omega) hO3.row rfl fun qo do_ w4 f4 hO4 => ⟨_, _, _, _, rfl, ?_⟩
    have f14 := (f2.then f3).then f4
    have eN : (tok.take 13).drop 1 = tkN tok := rfl
    have eS : tok.drop 13 = tkS tok := rfl
    rw [eN, eS, ← hkey] at hO4
    rw [eN, eS, ← hkey]
    by_cases h0 : opE (keyK (rs.map RR.ke) (tk0 tok : Int)) (tkN tok) (tkS tok) (UInt8.ofNat (tk0 tok) :: client) = 0
    · have eE : unsE (rs.map RR.ke) client tok = 0 := by unfold unsE; rw [if_neg hn29, if_neg hs', if_neg hin, if_neg (fun hh => hh h0)]
      have eL : unsL (rs.map RR.ke) client tok = opL (keyK (rs.map RR.ke) (tk0 tok : Int)) (tkN tok) (tkS tok) (UInt8.ofNat (tk0 tok) :: client) := by unfold unsL; rw [if_pos eE]
      have ule := unsL_le (rs.map RR.ke) client tok
      rw [← eL] at hO4
      rw [h0, ← eL]
      refine cond_f (refUntext_c hO4.row rfl hO4.cap (by omega) fun u w5 f5 hU5 hu => ⟨_, _, _, _, _, _, _, _, rfl, ?_⟩)
      refine putG u fun w6 f6 hT6 => ?_
      have f46 := f5.then f6
      refine cond_ne (fun he => ?_) fun he => ?_
      · exact bad w6 _ (f14.then f46) (by unfold openU; rw [if_neg (fun hh => hh eE), if_pos he])
      · refine ⟨_, hT6.ldE, ?_⟩
        have hue : u.exp = (untx (unsL (rs.map RR.ke) client tok)).exp := by rw [← hu]; rfl
        refine cond_d (fun hlt => ?_) fun hlt => ?_
        · exact bad w6 20 (f14.then f46) (by unfold openU; rw [if_neg (fun hh => hh eE), if_neg (fun hh => hh he), if_pos (by omega)])
        · have hok : openU (rs.map RR.ke) client tok now = untx (unsL (rs.map RR.ke) client tok) := by unfold openU; rw [if_neg (fun hh => hh eE), if_neg (fun hh => hh he), if_neg (by omega)]
          refine ⟨_, _, _, _, _, _, _, hT6.ldG, ?_⟩
          have hB6 := hB1.fr0 (f14.then f46)
          refine tellG hB6 u fun w7 f7 => ?_
          have hkl := hB1.lt
          have m4 := f14.size
          have hU7 : TF.own w7 u w4.heap.size := (hU5.fr0 f6).fr_sep f7 (by omega)
          have := hk u w7 (((f1.then f14).then f46).st f7 (by omega)) (hU7.mono (f1.then f14).size) (by rw [hok, hu])
          rw [hok, he] at this
          exact this
    · have eE : unsE (rs.map RR.ke) client tok = 13 := by unfold unsE; rw [if_neg hn29, if_neg hs', if_neg hin, if_pos h0]
      exact cond_fl_ne h0 (bad w4 13 f14 (ou 13 eE (by omega)))
  · rw [if_neg hs]
    exact cond_d (fun _ => bad w1 17 (Fr.refl _ _) (ou 17 (by unfold unsE; rw [if_neg hn29, if_pos hs]) (by omega))) fun hh => by omega
end
end Go.Sh
end
