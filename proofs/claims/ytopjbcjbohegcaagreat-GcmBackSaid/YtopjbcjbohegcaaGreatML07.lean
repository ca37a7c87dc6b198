/- A part of a proof of a given law of this program: lemmas, printed forms of its functions, contracts. It has no conditions of its own. -/
import Derived.Test.YtopjbcjbohegcaaGreatMB
import Derived.Test.YtopjbcjbohegcaaGreatMC
import Derived.Test.YtopjbcjbohegcaaGreatMSh6
import Derived.Test.YtopjbcjbohegcaaGreatMR
import Derived.Test.YtopjbcjbohegcaaGreatMA

section
namespace Go.Sh
open Go Go.Fw Go.Proofs
set_option maxRecDepth 100000
set_option linter.unusedVariables false
def z12 : List UInt8 := List.replicate 12 0
def cG : List UInt8 := [3, 136, 218, 206, 96, 182, 163, 146, 243, 40, 194, 185, 113, 178, 254, 120]
def tG : List UInt8 := [171, 110, 71, 212, 44, 236, 19, 189, 245, 58, 103, 178, 18, 87, 189, 223]
def vG : List UInt8 := [3, 136, 218, 206, 96, 182, 163, 146, 243, 40, 194, 185, 113, 178, 254, 120, 171, 110, 71, 212, 44, 236, 19, 189, 245, 58, 103, 178, 18, 87, 189, 223]
theorem g_aes1 : aencL z16 (firstL z12) = [0x58, 0xe2, 0xfc, 0xce, 0xfa, 0x7e, 0x30, 0x61, 0x36, 0x7f, 0x1d, 0x57, 0xa4, 0xe7, 0x45, 0x5a] := by rw [aencL_eval]; kernel_rfl
theorem g_hash : ghashL 0x66e94bd4ef8a2c3b884cfa59ca342b2e [] cG = [0xf3, 0x8c, 0xbb, 0x1a, 0xd6, 0x92, 0x23, 0xdc, 0xc3, 0x45, 0x7a, 0xe5, 0xb6, 0xb0, 0xf8, 0x85] := by kernel_rfl
theorem g_hash1 : ¬ (ghashL 0x66e94bd4ef8a2c3b884cfa59ca342b2e [1] cG = [0xf3, 0x8c, 0xbb, 0x1a, 0xd6, 0x92, 0x23, 0xdc, 0xc3, 0x45, 0x7a, 0xe5, 0xb6, 0xb0, 0xf8, 0x85]) := by decide +kernel
theorem g_key : hKey z16 = 0x66e94bd4ef8a2c3b884cfa59ca342b2e := by
  have : List.replicate 16 (0 : UInt8) = z16 := rfl
  unfold hKey; rw [this, aes_zero]; decide +kernel
theorem g_str : aencL z16 (afterL (firstL z12) 1) = [3, 136, 218, 206, 96, 182, 163, 146, 243, 40, 194, 185, 113, 178, 254, 120] := by rw [aencL_eval]; kernel_rfl
theorem g_turn : gturnL z16 z12 z16 = cG := by
  have e : strL z16 (afterL (firstL z12) 1) 16 = cG := by
    show (strB z16 (afterL (firstL z12) 1) 1).take 16 = _
    show ([] ++ aencL z16 (afterL (afterL (firstL z12) 1) 0)).take 16 = _
    rw [afterL_zero rfl, g_str]; rfl
  unfold gturnL turnL
  show xorL (strL z16 (afterL (firstL z12) 1) 16) z16 = _
  rw [e]; decide
theorem g_tag : gtagL z16 z12 cG [] = tG := by
  unfold gtagL; rw [g_key, g_hash, g_aes1]; decide
theorem xorL_inj {a b c : List UInt8} (h1 : a.length = c.length) (h2 : b.length = c.length) (h : xorL a c = xorL b c) : a = b := by
  refine fl_ext (by omega) fun j hj => ?_
  have e1 := xorL_getD h1 (i := j) (by omega)
  have e2 := xorL_getD h2 (i := j) (by omega)
  rw [h, e2] at e1
  have e3 := congrArg (fun x => x ^^^ c.getD j 0) e1
  simp only [UInt8.xor_assoc, UInt8.xor_self, UInt8.xor_zero] at e3
  exact e3.symm
theorem g_tag1 : ¬ (gtagL z16 z12 cG [1] = tG) := by
  intro h
  rw [← g_tag] at h
  unfold gtagL at h
  have := xorL_inj (by rw [ghashL_len, aencL_len]) (by rw [ghashL_len, aencL_len]) h
  rw [g_key, g_hash] at this
  exact g_hash1 this
theorem gS : slL z16 z12 z16 [] = vG := by
  unfold slL; rw [if_pos (by decide), g_turn, g_tag]; rfl
theorem gO1 : opE z16 z12 vG [] = 0 := by
  unfold opE
  show (if okG 12 [cG, []] then (if (32 : Nat) < 16 then 12 else if gtagL z16 z12 cG [] = tG then 0 else 13) else 11 : Int) = 0
  rw [if_pos (by decide), if_neg (by decide), if_pos g_tag]
theorem gO1L : opL z16 z12 vG [] = z16 := by
  unfold opL; rw [if_pos gO1]
  show gturnL z16 z12 cG = z16
  rw [← g_turn]; unfold gturnL; rw [turnL_twice]
theorem gO2 : opE z16 z12 vG [1] = 13 := by
  unfold opE
  show (if okG 12 [cG, [1]] then (if (32 : Nat) < 16 then 12 else if gtagL z16 z12 cG [1] = tG then 0 else 13) else 11 : Int) = 13
  rw [if_pos (by decide), if_neg (by decide), if_neg g_tag1]
theorem gO3 : opE z16 z12 (vG.take 15) [] = 12 := by
  unfold opE
  rw [if_pos (by decide), if_pos (by decide)]
theorem gT : tgL z16 z12 (vG.take 16) [] = tG := by
  show tgL z16 z12 cG [] = tG
  unfold tgL; rw [if_pos (by decide), g_tag]
section
variable {w : World} {K : Value → World → Prop}
theorem great07_c {p : Option Addr} {l c : Nat} {rs : List (List UInt8)} (hR : RowB w p rs) (hl : l = rs.length) (hl2 : l ≤ 1000000) (hbad : K (.bool true) w) (hok : (∀ r ∈ rs, r.length ≤ 200) → K (.bool false) w) :
    callF Tryz.prog F_law07_great #[.slice p l c] w K := by
  apply law07_great_call
  unfold law07_great
  refine LoopS.ind (fun k us w' => w' = w ∧ ∃ i : Nat, i + k = l ∧ us = [.slice p l c, .bool false, .int .i64 (i : Int)] ∧ ∀ j, j < i → (rs.getD j []).length ≤ 200) l ⟨rfl, 0, by omega, rfl, by omega⟩ ?_
  rintro k us r w2 I μ hgo ⟨rfl, i, hi, rfl, hs⟩
  refine ⟨_, _, _, _, _, rfl, cond_d (fun h3 => ?_) (fun h3 => ?_)⟩
  · have hil : i < l := by omega
    obtain ⟨a, q, d, ha, hca, hq, _⟩ := rows_get (t := T_S_S_uint8) (by kernel_rfl) hR (c := c) hl hil (k := .i64)
    refine ⟨a, ha, _, _, _, Ld.cell (by kernel_rfl) hca, cond_d (fun _ => hbad) fun h4 => ?_⟩
    rw [wrap64 (by omega) (by omega)]
    refine hgo _ _ _ (k - 1) (by omega) ⟨rfl, i + 1, by omega, rfl, fun j hj => ?_⟩
    by_cases hji : j = i
    · subst hji; omega
    · exact hs j (by omega)
  · refine hok fun r hr => ?_
    obtain ⟨j, hj, rfl⟩ := List.getElem_of_mem hr
    have := hs j (by omega)
    rw [List.getD_eq_getElem?_getD, List.getElem?_eq_getElem hj] at this
    simpa using this
theorem RowB.of4 {p : Option Addr} {v1 v2 v3 v4 : Value} {r1 r2 r3 r4 : List UInt8} (h : Row w p [v1, v2, v3, v4]) (h1 : ByS w v1 r1) (h2 : ByS w v2 r2) (h3 : ByS w v3 r3) (h4 : ByS w v4 r4) : RowB w p [r1, r2, r3, r4] := ⟨[v1, v2, v3, v4], h, rfl, fun j r hj => by
  match j, hj with
  | 0, hj => obtain rfl : r1 = r := by simpa using hj
             exact ⟨v1, rfl, h1⟩
  | 1, hj => obtain rfl : r2 = r := by simpa using hj
             exact ⟨v2, rfl, h2⟩
  | 2, hj => obtain rfl : r3 = r := by simpa using hj
             exact ⟨v3, rfl, h3⟩
  | 3, hj => obtain rfl : r4 = r := by simpa using hj
             exact ⟨v4, rfl, h4⟩⟩
theorem frThr {w1 w2 : World} {lo hi : Nat} (f : Fr [] w w1) (h : Fr (rg lo hi) w1 w2) (hlo : w.heap.size ≤ lo) : Fr [] w w2 := f.trans h fun x hx => .inr (Nat.le_trans hlo (mem_rg.1 hx).1)
theorem OB.thr {w1 : World} {p : Option Addr} {l c : Nat} {xs : List UInt8} {lo lo0 hi : Nat} (h : OB w p l c xs lo0) (f : Fr (rg lo hi) w w1) (h1 : hi ≤ lo0) : OB w1 p l c xs lo0 := h.fr f fun k hk hm => by have := h.2.2 k hk; have := (mem_rg.1 hm).2; omega
theorem OB.sp {p : Option Addr} {l c : Nat} {xs : List UInt8} {lo lo0 hi : Nat} (h : OB w p l c xs lo0) (h1 : hi ≤ lo0) : Go.Sh.sp lo hi p xs := .inr fun k hk => .inr (Nat.le_trans h1 (h.2.2 k hk))
theorem sp_none (lo hi : Nat) : Go.Sh.sp lo hi none [] := .inl rfl
theorem rowNil (w : World) : Row w none (([] : List UInt8).map vb) := .inl rfl
set_option maxHeartbeats 2000000 in
theorem alive07_c (h : ∀ w', Fr [] w w' → K (.bool true) w') : callF Tryz.prog F_law07_alive #[] w K := by
  apply law07_alive_call
  unfold law07_alive
  refine mkNz fun p1 w1 f1 hO1 => ?_
  refine gcmNew_c hO1.row rfl (by omega) (fun hb => absurd rfl hb) fun _ b w2 f2 hX2 => ⟨_, _, rfl, ?_⟩
  have f02 := f1.then f2
  refine gcmNew_c (key := []) (rowNil _) rfl (by omega) (fun _ => ⟨_, _, rfl, ?_⟩) fun hb => absurd hb (by omega)
  refine ⟨_, _, ptrNil (by kernel_rfl), cond_f (cond_f (cond_f ?_))⟩
  unfold law07_alive_j1
  refine mkN (n := 12) (c := 12) (by omega) (by omega) fun p3 w3 f3 hN3 s3 => ?_
  refine mkNz fun p4 w4 f4 hT4 => ?_
  have f24 := f3.then f4
  have lh := hX2.lohi
  have n1 := f1.size; have n2 := f2.size; have n3 := f3.size; have n4 := f4.size
  have hN4 := hN3.fr0 f4
  refine gseal_c (nonce := z12) (text := z16) (note := []) (hX2.fr0 f24) (by omega) hN4.row rfl (by omega) (by omega) hT4.row rfl (by omega) (rowNil _) rfl (by omega) (sp_none _ _) fun q5 d5 w5 f5 hX5 hO5 => ⟨_, _, _, _, rfl, ?_⟩
  rw [gS] at hO5
  rw [gS, show tgE z12 z16 [] = 0 by decide]
  have n5 := f5.size
  have hN5 := hN4.thr f5 (Nat.le_refl _)
  refine gopen_c (nonce := z12) (text := vG) (note := []) hX5 (by omega) (by omega) (by omega) hN5.row rfl (by omega) (by omega) (hN5.sp (Nat.le_refl _)) hO5.row rfl hO5.cap (by decide) (hO5.sp (by omega)) (rowNil _) rfl (by omega) (sp_none _ _) fun q6 d6 w6 f6 hX6 hO6 => ⟨_, _, _, _, rfl, ?_⟩
  rw [gO1] at hX6
  rw [gO1L] at hO6
  rw [gO1L, gO1]
  have n6 := f6.size
  have hN6 := hN5.thr f6 (Nat.le_refl _)
  have hV6 := hO5.thr f6 (by omega)
  refine mkL (n := 1) (xs := [1]) rfl rfl (by kernel_rfl) fun p7 w7 f7 hO7 s7 => ?_
  have n7 := f7.size
  refine gopen_c (nonce := z12) (text := vG) (note := [1]) (hX6.fr0 f7) (by omega) (by decide) (by decide) (hN6.fr0 f7).row rfl (by omega) (by omega) (hN6.sp (Nat.le_refl _)) (hV6.fr0 f7).row rfl hV6.cap (by decide) (hV6.sp (by omega)) hO7.row rfl hO7.cap (hO7.sp (by omega)) fun q8 d8 w8 f8 hX8 hO8 => ⟨_, _, _, _, rfl, ?_⟩
  rw [gO2] at hX8
  rw [gO2]
  have n8 := f8.size
  have hN8 := (hN6.fr0 f7).thr f8 (Nat.le_refl _)
  have hV8 := (hV6.fr0 f7).thr f8 (by omega)
  have hP8 := (hO6.fr0 f7).thr f8 (by omega)
  refine ⟨15, by unfold Pu; kernel_rfl, ?_⟩
  refine slTo hV8.row (n := 15) rfl (by decide) hV8.cap fun q9 d9 hq9 hql9 hqc9 hqs9 => ?_
  refine gopen_c (nonce := z12) (text := vG.take 15) (note := []) hX8 (by omega) (by decide) (by decide) hN8.row rfl (by omega) (by omega) (hN8.sp (Nat.le_refl _)) hq9 hql9 hqc9 (by omega) ((hV8.sp (by omega)).take hqs9) (rowNil _) rfl (by omega) (sp_none _ _) fun q10 d10 w10 f10 hX10 hO10 => ⟨_, _, _, _, rfl, ?_⟩
  rw [gO3] at hX10
  rw [gO3]
  have n10 := f10.size
  have hN10 := hN8.thr f10 (Nat.le_refl _)
  have hV10 := hV8.thr f10 (by omega)
  have hP10 := hP8.thr f10 (by omega)
  refine gseal_c (nonce := []) (text := []) (note := []) hX10 (by omega) (rowNil _) rfl (by omega) (by omega) (rowNil _) rfl (by omega) (rowNil _) rfl (by omega) (sp_none _ _) fun q11 d11 w11 f11 hX11 hO11 => ⟨_, _, _, _, rfl, ?_⟩
  have n11 := f11.size
  have hN11 := hN10.thr f11 (Nat.le_refl _)
  have hV11 := hV10.thr f11 (by omega)
  have hP11 := hP10.thr f11 (by omega)
  refine mkL (n := 32) (xs := vG) rfl rfl (by kernel_rfl) fun p12 w12 f12 hO12 s12 => ?_
  have n12 := f12.size
  refine slTo hO12.row (n := 16) rfl (by decide) hO12.cap fun q13 d13 hq13 hql13 hqc13 hqs13 => ?_
  refine gtag_c (nonce := z12) (text := vG.take 16) (note := []) (hX11.fr0 f12) (by omega) (hN11.fr0 f12).row rfl (by omega) (by omega) hq13 hql13 hqc13 ((hO12.sp (by omega)).take hqs13) (rowNil _) rfl (by omega) (sp_none _ _) fun q14 d14 w14 f14 hX14 hO14 => ⟨_, _, _, _, rfl, ?_⟩
  rw [gT] at hO14
  rw [gT, show tgE z12 (vG.take 16) [] = 0 by decide, show tgE [] [] [] = 11 by decide]
  have n14 := f14.size
  have hV14 := (hV11.fr0 f12).thr f14 (by omega)
  have hP14 := (hP11.fr0 f12).thr f14 (by omega)
  have hW14 := hO12.thr f14 (by omega)
  refine cond_t (cond_t (cond_t (cond_t (cond_t (cond_t ?_)))))
  refine SameBytes_c hV14.row rfl hW14.row rfl (by decide) fun w15 f15 => ⟨_, rfl, ?_⟩
  rw [decide_eq_true rfl]
  refine cond_t (mkNz fun p16 w16 f16 hO16 => ?_)
  have f146 := f15.then f16
  refine SameBytes_c (hP14.fr0 f146).row rfl hO16.row rfl (by decide) fun w17 f17 => ⟨_, rfl, ?_⟩
  rw [decide_eq_true rfl]
  refine cond_t ?_
  have f147 := f146.then f17
  refine slFrom (hW14.fr0 f147).row (n := 16) rfl (by decide) hW14.cap fun q18 d18 hq18 hql18 hqc18 hqs18 => ?_
  refine SameBytes_c (hO14.fr0 f147).row rfl hq18 rfl (by decide) fun w19 f19 => ⟨_, rfl, ?_⟩
  rw [show decide (tG = vG.drop 16) = true by decide]
  refine cond_t ?_
  have f149 := f147.then f19
  refine gfailed_c (hX14.fr0 f149) ⟨_, rfl, ?_⟩
  have g24 := f02.then f24
  have hlo : w.heap.size ≤ w1.heap.size := n1
  have g6 := frThr (frThr g24 f5 hlo) f6 hlo
  have g11 := frThr (frThr (frThr (g6.then f7) f8 hlo) f10 hlo) f11 hlo
  exact h w19 ((frThr (g11.then f12) f14 hlo).then f149)
end
end Go.Sh
end

section
namespace Go.Sh
open Go Go.Fw Go.Proofs
set_option maxRecDepth 100000
set_option linter.unusedVariables false
section
variable {w : World} {K : Value → World → Prop} {p0 p1 p2 p3 : Option Addr} {l0 c0 l1 c1 l2 c2 l3 c3 : Nat} {key nonce text note : List UInt8}
theorem row4 {w : World} {v1 v2 v3 v4 : Value} {r1 r2 r3 r4 : List UInt8} (hv1 : ByS w v1 r1) (hv2 : ByS w v2 r2) (hv3 : ByS w v3 r3) (hv4 : ByS w v4 r4) {K : Option Addr → Nat → Nat → World → Prop} (hr : (Instr.buildSlice T_S_S_uint8 4 #[(0, v1), (1, v2), (2, v3), (3, v4)]).run Tryz.prog w = .ok (.slice (some ⟨w.heap.size, 0, none⟩) 4 4) (w.alloc (.cells ([v1, v2, v3, v4] : List Value).toArray T_S_uint8)))
    (h : ∀ p w', Fr [] w w' → RowB w' p [r1, r2, r3, r4] → w'.heap.size = w.heap.size + 1 → K p 4 4 w') : ∃ p l c w', Ef Tryz.prog (Instr.buildSlice T_S_S_uint8 4 #[(0, v1), (1, v2), (2, v3), (3, v4)]) w (.slice p l c) w' ∧ K p l c w' :=
  ⟨_, _, _, Ef.new hr fun w' f hB s => h _ w' f (RowB.of4 hB.rowL (hv1.fr0 f) (hv2.fr0 f) (hv3.fr0 f) (hv4.fr0 f)) s⟩
theorem great4 {r1 r2 r3 r4 : List UInt8} (h : ∀ r ∈ [r1, r2, r3, r4], r.length ≤ 200) : r1.length ≤ 200 ∧ r2.length ≤ 200 ∧ r3.length ≤ 200 ∧ r4.length ≤ 200 := by simpa using h
set_option maxHeartbeats 2000000 in
theorem GcmSeals_c (h0 : Row w p0 (key.map vb)) (hl0 : l0 = key.length) (hc0 : l0 ≤ c0) (h1 : Row w p1 (nonce.map vb)) (hl1 : l1 = nonce.length) (hc1 : l1 ≤ c1) (h2 : Row w p2 (text.map vb)) (hl2 : l2 = text.length) (hc2 : l2 ≤ c2) (h3 : Row w p3 (note.map vb)) (hl3 : l3 = note.length) (hc3 : l3 ≤ c3)
    (h : ∀ w', Fr [] w w' → K (.bool true) w') : callF Tryz.prog F_law07_GcmSeals #[.slice p0 l0 c0, .slice p1 l1 c1, .slice p2 l2 c2, .slice p3 l3 c3] w K := by
  apply law07_GcmSeals_call
  unfold law07_GcmSeals
  refine alive07_c fun w1 f1 => ⟨_, rfl, cond_f ?_⟩
  refine row4 (byS (h0.fr0 f1) hl0 hc0) (byS (h1.fr0 f1) hl1 hc1) (byS (h2.fr0 f1) hl2 hc2) (byS (h3.fr0 f1) hl3 hc3) (by kernel_rfl) fun p5 w2 f2 hR2 s2 => ?_
  have f02 := f1.then f2
  refine great07_c (l := 4) hR2 rfl (by omega) ⟨_, rfl, cond_t (h w2 f02)⟩ fun hg => ⟨_, rfl, cond_f ?_⟩
  obtain ⟨g0, g1, g2, g3⟩ := great4 hg
  refine gcmNew_c (h0.fr0 f02) hl0 hc0 (fun hb => ?_) fun h16 b w3 f3 hX3 => ?_
  · refine ⟨_, _, rfl, _, _, ptrNil (by kernel_rfl), cond_t (cond_t ?_)⟩
    have e : ((l0 : Int) != 16) = true := by simp; omega
    rw [e]; exact h w2 f02
  · refine ⟨_, _, rfl, _, _, ptrNil (by kernel_rfl), cond_f (cond_f (cond_ne (fun hb => absurd (by omega) hb) fun _ => ?_))⟩
    unfold law07_GcmSeals_j1
    have f03 := f02.then f3
    have lh := hX3.lohi
    have n2 := f02.size
    refine CopyOB_c (h2.fr0 f03) hl2 (by omega) fun q4 d4 w4 f4 hT4 => ⟨_, _, _, rfl, ?_⟩
    refine CopyOB_c (h3.fr0 (f03.then f4)) hl3 (by omega) fun q5 d5 w5 f5 hN5 => ⟨_, _, _, rfl, ?_⟩
    have f35 := f4.then f5
    have f05 := f03.then f35
    have hT5 := hT4.fr0 f5
    have n4 := f4.size
    refine gseal_c (hX3.fr0 f35) (by omega) (h1.fr0 f05) hl1 hc1 (by omega) hT5.row hl2 hT5.cap hN5.row hl3 hN5.cap (hN5.sp (by omega)) fun q6 d6 w6 f6 hX6 hO6 => ⟨_, _, _, _, rfl, ?_⟩
    have f06 := frThr f05 f6 n2
    have hT6 := hT5.thr f6 (Nat.le_refl _)
    have hN6 := hN5.thr f6 (by omega)
    have n5 := f35.size
    refine refGseal_c (h0.fr0 f06) hl0 hc0 h16 (h1.fr0 f06) hl1 (h2.fr0 f06) hl2 (h3.fr0 f06) hl3 fun q7 d7 w7 f7 hO7 => ⟨_, _, _, _, rfl, ?_⟩
    have f07 := f06.then f7
    have n6 := f6.size
    have n7 := f7.size
    refine gtag_c (hX6.fr0 f7) (by omega) (h1.fr0 f07) hl1 hc1 (by omega) (hT6.fr0 f7).row hl2 hT6.cap (hT6.sp (Nat.le_refl _)) (hN6.fr0 f7).row hl3 hN6.cap (hN6.sp (by omega)) fun q8 d8 w8 f8 hX8 hO8 => ⟨_, _, _, _, rfl, ?_⟩
    have f08 := frThr f07 f8 n2
    have hT8 := (hT6.fr0 f7).thr f8 (Nat.le_refl _)
    have hN8 := (hN6.fr0 f7).thr f8 (by omega)
    have hO68 := (hO6.fr0 f7).thr f8 (by omega)
    have hO78 := hO7.thr f8 (by omega)
    refine refGtag_c (h0.fr0 f08) hl0 hc0 h16 (h1.fr0 f08) hl1 (h2.fr0 f08) hl2 (h3.fr0 f08) hl3 fun q9 d9 w9 f9 hO9 => ⟨_, _, _, _, rfl, ?_⟩
    have f09 := f08.then f9
    have lenS : (slL key nonce text note).length < 1000 := by
      unfold slL; split
      · rw [List.length_append, gturnL_len, gtagL_len]; omega
      · show 0 < 1000; omega
    have lenT : (tgL key nonce text note).length < 1000 := by
      unfold tgL; split
      · rw [gtagL_len]; omega
      · show 0 < 1000; omega
    rw [beq_self_eq_true]
    refine cond_t (SameBytes_c (hO68.fr0 f9).row rfl (hO78.fr0 f9).row rfl (by omega) fun w10 f10 => ⟨_, rfl, ?_⟩)
    rw [decide_eq_true rfl]
    refine cond_t (cond_t ?_)
    refine SameBytes_c (hO8.fr0 (f9.then f10)).row rfl (hO9.fr0 f10).row rfl (by omega) fun w11 f11 => ⟨_, rfl, ?_⟩
    rw [decide_eq_true rfl]
    refine cond_t ?_
    have f911 := (f9.then f10).then f11
    have f011 := f08.then f911
    refine SameBytes_c (hT8.fr0 f911).row hl2 (h2.fr0 f011) hl2 (by omega) fun w12 f12 => ⟨_, rfl, ?_⟩
    rw [decide_eq_true rfl]
    refine cond_t ?_
    have f912 := f911.then f12
    refine SameBytes_c (hN8.fr0 f912).row hl3 (h3.fr0 (f08.then f912)) hl3 (by omega) fun w13 f13 => ⟨_, rfl, ?_⟩
    rw [decide_eq_true rfl]
    refine cond_t (gfailed_c (hX8.fr0 (f912.then f13)) ⟨_, rfl, ?_⟩)
    exact h w13 (f08.then (f912.then f13))
theorem okG_back (hok : okG nonce.length [text, note]) : opE key nonce (slL key nonce text note) note = 0 ∧ opL key nonce (slL key nonce text note) note = text ∧ (slL key nonce text note).length = text.length + 16 := by
  have e : slL key nonce text note = gturnL key nonce text ++ gtagL key nonce (gturnL key nonce text) note := by unfold slL; rw [if_pos hok]
  have el : (slL key nonce text note).length = text.length + 16 := by rw [e, List.length_append, gturnL_len, gtagL_len]
  have et : (slL key nonce text note).take ((slL key nonce text note).length - 16) = gturnL key nonce text := by
    rw [el, Nat.add_sub_cancel, e, ← gturnL_len key nonce text, List.take_left']; rfl
  have ed : (slL key nonce text note).drop ((slL key nonce text note).length - 16) = gtagL key nonce (gturnL key nonce text) note := by
    rw [el, Nat.add_sub_cancel, e, ← gturnL_len key nonce text, List.drop_left']; rfl
  have h0 : opE key nonce (slL key nonce text note) note = 0 := by
    unfold opE
    rw [et, ed, if_pos (by rw [okG_iff, gturnL_len]; exact okG_iff.1 hok), if_neg (by omega), if_pos rfl]
  refine ⟨h0, ?_, el⟩
  unfold opL
  rw [if_pos h0, et]
  unfold gturnL; rw [turnL_twice]
set_option maxHeartbeats 2000000 in
theorem GcmOpens_c (n4 : UInt8) (h0 : Row w p0 (key.map vb)) (hl0 : l0 = key.length) (hc0 : l0 ≤ c0) (h1 : Row w p1 (nonce.map vb)) (hl1 : l1 = nonce.length) (hc1 : l1 ≤ c1) (h2 : Row w p2 (text.map vb)) (hl2 : l2 = text.length) (hc2 : l2 ≤ c2) (h3 : Row w p3 (note.map vb)) (hl3 : l3 = note.length) (hc3 : l3 ≤ c3)
    (h : ∀ w', Fr [] w w' → K (.bool true) w') : callF Tryz.prog F_law07_GcmOpens #[.slice p0 l0 c0, .slice p1 l1 c1, .slice p2 l2 c2, .slice p3 l3 c3, .int .u8 n4.toNat] w K := by
  apply law07_GcmOpens_call
  unfold law07_GcmOpens
  refine alive07_c fun w1 f1 => ⟨_, rfl, cond_f ?_⟩
  refine row4 (byS (h0.fr0 f1) hl0 hc0) (byS (h1.fr0 f1) hl1 hc1) (byS (h2.fr0 f1) hl2 hc2) (byS (h3.fr0 f1) hl3 hc3) (by kernel_rfl) fun p5 w2 f2 hR2 s2 => ?_
  have f02 := f1.then f2
  refine great07_c (l := 4) hR2 rfl (by omega) ⟨_, rfl, cond_t (h w2 f02)⟩ fun hg => ⟨_, rfl, cond_f ?_⟩
  obtain ⟨g0, g1, g2, g3⟩ := great4 hg
  refine gcmNew_c (h0.fr0 f02) hl0 hc0 (fun hb => ?_) fun h16 b w3 f3 hX3 => ?_
  · refine ⟨_, _, rfl, _, _, ptrNil (by kernel_rfl), cond_t ?_⟩
    have e : ((l0 : Int) != 16) = true := by simp; omega
    rw [e]; exact h w2 f02
  · refine ⟨_, _, rfl, _, _, ptrNil (by kernel_rfl), cond_f ?_⟩
    have f03 := f02.then f3
    have lh := hX3.lohi
    have n2 := f02.size
    refine refGopen_c (h0.fr0 f03) hl0 hc0 h16 (h1.fr0 f03) hl1 (h2.fr0 f03) hl2 hc2 (by omega) (h3.fr0 f03) hl3 fun q4 d4 w4 f4 hO4 => ⟨_, _, _, _, rfl, ?_⟩
    have f04 := f03.then f4
    have n3 := f4.size
    obtain ⟨E, hE⟩ : ∃ E, E = opE key nonce text note := ⟨_, rfl⟩
    obtain ⟨O, hOe⟩ : ∃ O, O = opL key nonce text note := ⟨_, rfl⟩
    have hOl : O.length < 1000 := by
      rw [hOe]; unfold opL; split
      · rw [gturnL_len, List.length_take]; omega
      · show 0 < 1000; omega
    obtain ⟨T, hT, hTb⟩ : ∃ T : Nat, IntKind.i64.wrap (IntKind.i64.wrap (Int.tmod (n4.toNat : Int) 4) + 1) = (T : Int) ∧ T ≤ 4 := by
      refine ⟨n4.toNat % 4 + 1, ?_, by omega⟩
      rw [show (4 : Int) = ((4 : Nat) : Int) from rfl, tmodN, wrap64 (n := ((n4.toNat % 4 : Nat) : Int)) (by omega) (by omega), wrap64 (by omega) (by omega)]; omega
    rw [← hE, ← hOe]
    rw [← hOe] at hO4
    refine LoopS.ind (fun k us w' => ∃ i : Nat, i + k = T ∧ us = [.slice p1 l1 c1, .slice p2 l2 c2, .slice p3 l3 c3, .int .u8 (n4.toNat : Int), .bool false, .pointer (some ⟨b, 0, none⟩), .slice q4 O.length d4, .int .i64 E, .int .i64 (if E = 13 then (i : Int) else 0), .int .i64 (i : Int)] ∧ Fr [] w w' ∧ w4.heap.size ≤ w'.heap.size ∧ OB w' q4 O.length d4 O w3.heap.size ∧ BoxAt w' b key (if E = 13 then (i : Int) else 0) (1 + i) w2.heap.size w3.heap.size) T
      ⟨0, by omega, by simp, f04, Nat.le_refl _, hO4, by simpa using hX3.fr0 f4⟩ ?_
    rintro k us r w5 I μ hgo ⟨i, hi, rfl, f5, n5, hO5, hX5⟩
    refine ⟨_, _, _, _, _, _, _, _, _, _, _, _, _, _, _, _, _, _, rfl, ?_⟩
    rw [hT]
    refine cond_d (fun g4 => ?_) (fun g4 => h w5 f5)
    have hi3 : i ≤ 3 := by omega
    refine CopyOB_c (h2.fr0 f5) hl2 (by omega) fun q6 d6 w6 f6 hO6 => ⟨_, _, _, rfl, ?_⟩
    have f06 := f5.then f6
    refine gopen_c (hX5.fr0 f6) (by omega) (by split <;> omega) (by split <;> omega) (h1.fr0 f06) hl1 hc1 (by omega) (sp.of h1 n2) hO6.row hl2 hO6.cap (by omega) (hO6.sp (by omega)) (h3.fr0 f06) hl3 hc3 (sp.of h3 n2) fun q7 d7 w7 f7 hX7 hO7 => ⟨_, _, _, _, rfl, ?_⟩
    have f07 := frThr f06 f7 n2
    rw [← hE] at hX7
    rw [← hOe] at hO7
    rw [← hE, ← hOe]
    refine cond_ne (fun hb => absurd rfl hb) fun _ => ?_
    have hO57 := (hO5.fr0 f6).thr f7 (Nat.le_refl _)
    have hO67 := hO6.thr f7 (by omega)
    refine SameBytes_c hO7.row rfl hO57.row rfl (by omega) fun w8 f8 => ⟨_, rfl, ?_⟩
    rw [decide_eq_true rfl]
    refine cond_f ?_
    refine SameBytes_c (hO67.fr0 f8).row hl2 (h2.fr0 (f07.then f8)) hl2 (by omega) fun w9 f9 => ⟨_, rfl, ?_⟩
    rw [decide_eq_true rfl]
    refine cond_f ?_
    have f79 := f8.then f9
    have n6 := f6.size; have n7 := f7.size; have n9 := f79.size
    unfold law07_GcmOpens_j2
    have hX9 := hX7.fr0 f79
    have wi : IntKind.i64.wrap ((i : Int) + 1) = ((i + 1 : Nat) : Int) := by rw [wrap64 (by omega) (by omega)]; omega
    have step : ∀ m : Int, m = (if E = 13 then ((i + 1 : Nat) : Int) else 0) → law07_GcmOpens_j1 I μ [.slice p1 l1 c1, .slice p2 l2 c2, .slice p3 l3 c3, .int .u8 (n4.toNat : Int), .bool false, .pointer (some ⟨b, 0, none⟩), .slice q4 O.length d4, .int .i64 E, .int .i64 (if E = 13 then (i : Int) else 0), .int .i64 (i : Int)] w5 p1 l1 c1 p2 l2 c2 p3 l3 c3 (n4.toNat : Int) false (some ⟨b, 0, none⟩) q4 O.length d4 E m (i : Int) w9 K := by
      intro m hm
      have hX9' : BoxAt w9 b key m (1 + ((i + 1 : Nat) : Int)) w2.heap.size w3.heap.size := by
        have e : (if E = 13 then (i : Int) else 0) + (if E = 13 then 1 else 0) = m := by rw [hm]; split <;> omega
        rw [e] at hX9
        exact hX9.mono (by omega)
      unfold law07_GcmOpens_j1
      refine gfailed_c hX9' ⟨_, rfl, cond_ne (fun hb => absurd rfl hb) fun _ => ?_⟩
      rw [wi]
      refine hgo _ _ _ (k - 1) (by omega) ⟨i + 1, by omega, by rw [hm], f07.then f79, by omega, hO57.fr0 f79, ?_⟩
      rw [hm] at hX9'
      exact hX9'
    by_cases hE13 : E = 13
    · have e1 : (E == 13) = true := by rw [hE13]; rfl
      rw [e1]
      refine cond_t ?_
      have := step (IntKind.i64.wrap ((if E = 13 then (i : Int) else 0) + 1)) (by rw [if_pos hE13, if_pos hE13, wi])
      exact this
    · have e1 : (E == 13) = false := by simp [hE13]
      rw [e1]
      exact cond_f (step _ (by rw [if_neg hE13, if_neg hE13]))
end
end Go.Sh
end

section
namespace Go.Sh
open Go Go.Fw Go.Proofs
set_option maxRecDepth 100000
set_option linter.unusedVariables false
section
variable {w : World} {K : Value → World → Prop} {p0 p1 p2 p3 : Option Addr} {l0 c0 l1 c1 l2 c2 l3 c3 : Nat} {key nonce text note : List UInt8}
theorem opE_flip {i : Nat} {x : UInt8} (hok : okG nonce.length [text, note]) (hx : x ≠ 0) (h1 : text.length ≤ i) (h2 : i < text.length + 16) :
    opE key nonce ((slL key nonce text note).set i (fl (slL key nonce text note) i ^^^ x)) note = 13 := by
  have el := (okG_back (key := key) hok).2.2
  obtain ⟨S, hS⟩ : ∃ S, S = slL key nonce text note := ⟨_, rfl⟩
  have e : S = gturnL key nonce text ++ gtagL key nonce (gturnL key nonce text) note := by rw [hS]; unfold slL; rw [if_pos hok]
  rw [← hS] at el ⊢
  have et : S.take text.length = gturnL key nonce text := by rw [e, ← gturnL_len key nonce text, List.take_left']; rfl
  have ed : S.drop text.length = gtagL key nonce (gturnL key nonce text) note := by rw [e, ← gturnL_len key nonce text, List.drop_left']; rfl
  have elen : (S.set i (fl S i ^^^ x)).length - 16 = text.length := by rw [List.length_set, el]; omega
  have et2 : (S.set i (fl S i ^^^ x)).take text.length = gturnL key nonce text := by
    rw [List.take_set, List.set_eq_of_length_le (by rw [List.length_take]; omega), et]
  unfold opE
  rw [elen, et2, if_pos (by rw [okG_iff, gturnL_len]; exact okG_iff.1 hok), if_neg (by rw [List.length_set]; omega), if_neg]
  intro hh
  rw [← ed] at hh
  have e1 : fl (S.drop text.length) (i - text.length) = fl S i := by
    rw [fl_drop, show text.length + (i - text.length) = i by omega]
  have e2 : fl ((S.set i (fl S i ^^^ x)).drop text.length) (i - text.length) = fl S i ^^^ x := by
    rw [fl_drop, show text.length + (i - text.length) = i by omega, fl_set (by omega), if_pos rfl]
  rw [hh, e2] at e1
  have e3 := congrArg (fun y => fl S i ^^^ y) e1
  simp only [← UInt8.xor_assoc, UInt8.xor_self, UInt8.zero_xor] at e3
  exact hx e3
set_option maxHeartbeats 2000000 in
theorem GcmBack_c (n4 : Int) (x : UInt8) (h0 : Row w p0 (key.map vb)) (hl0 : l0 = key.length) (hc0 : l0 ≤ c0) (h1 : Row w p1 (nonce.map vb)) (hl1 : l1 = nonce.length) (hc1 : l1 ≤ c1) (h2 : Row w p2 (text.map vb)) (hl2 : l2 = text.length) (hc2 : l2 ≤ c2) (h3 : Row w p3 (note.map vb)) (hl3 : l3 = note.length) (hc3 : l3 ≤ c3)
    (h : ∀ w', Fr [] w w' → K (.bool true) w') : callF Tryz.prog F_law07_GcmBack #[.slice p0 l0 c0, .slice p1 l1 c1, .slice p2 l2 c2, .slice p3 l3 c3, .int .i64 n4, .int .u8 x.toNat] w K := by
  apply law07_GcmBack_call
  unfold law07_GcmBack
  refine alive07_c fun w1 f1 => ⟨_, rfl, cond_f ?_⟩
  refine rowB2 (byS (h2.fr0 f1) hl2 hc2) (byS (h3.fr0 f1) hl3 hc3) (by kernel_rfl) fun p5 w2 f2 hR2 s2 => ?_
  have f02 := f1.then f2
  refine great07_c (l := 2) hR2 rfl (by omega) ⟨_, rfl, cond_t (h w2 f02)⟩ fun hg => ⟨_, rfl, cond_f ?_⟩
  have g2 : text.length ≤ 200 ∧ note.length ≤ 200 := by simpa using hg
  refine cond_ne (fun _ => h w2 f02) fun q16 => cond_ne (fun _ => h w2 f02) fun q12 => ?_
  unfold law07_GcmBack_j4
  refine gcmNew_c (h0.fr0 f02) hl0 hc0 (fun hb => absurd (by omega) hb) fun h16 b w3 f3 hX3 => ⟨_, _, rfl, _, _, ptrNil (by kernel_rfl), cond_f (cond_f ?_)⟩
  unfold law07_GcmBack_j3
  have f03 := f02.then f3
  have lh := hX3.lohi
  have n2 := f02.size
  have hok : okG nonce.length [text, note] := by rw [okG_iff]; omega
  obtain ⟨oE, oL, oS⟩ := okG_back (key := key) hok
  have tE : tgE nonce text note = 0 := by unfold tgE; rw [if_pos hok]
  refine gseal_c hX3 (by omega) (h1.fr0 f03) hl1 hc1 (by omega) (h2.fr0 f03) hl2 hc2 (h3.fr0 f03) hl3 hc3 (sp.of h3 n2) fun q6 d6 w6 f6 hX6 hO6 => ⟨_, _, _, _, rfl, ?_⟩
  have f06 := frThr f03 f6 n2
  have n6 := f6.size
  refine gopen_c hX6 (by omega) (by omega) (by omega) (h1.fr0 f06) hl1 hc1 (by omega) (sp.of h1 n2) hO6.row rfl hO6.cap (by omega) (hO6.sp (by omega)) (h3.fr0 f06) hl3 hc3 (sp.of h3 n2) fun q7 d7 w7 f7 hX7 hO7 => ⟨_, _, _, _, rfl, ?_⟩
  have f07 := frThr f06 f7 n2
  have hO67 := hO6.thr f7 (by omega)
  rw [oE] at hX7
  rw [oL] at hO7
  rw [oE, oL, tE]
  refine cond_f (cond_f ?_)
  have ew : (((slL key nonce text note).length : Nat) : Int) = IntKind.i64.wrap ((l2 : Int) + 16) := by rw [wrap64 (by omega) (by omega)]; omega
  refine cond_ne (fun hb => absurd ew hb) fun _ => ?_
  refine SameBytes_c hO7.row rfl (h2.fr0 f07) hl2 (by omega) fun w8 f8 => ⟨_, rfl, ?_⟩
  rw [decide_eq_true rfl]
  refine cond_f ?_
  have f08 := f07.then f8
  unfold law07_GcmBack_j2
  refine cond_d (fun _ => h w8 f08) fun k0 => cond_d (fun _ => h w8 f08) fun k1 => cond_intro (fun _ => h w8 f08) fun k2 => ?_
  have hx : x ≠ 0 := by rintro rfl; simp at k2
  obtain ⟨i, rfl⟩ := Int.eq_ofNat_of_zero_le (show 0 ≤ n4 by omega)
  unfold law07_GcmBack_j1
  have hO68 := hO67.fr0 f8
  have hX8 := hX7.fr0 f8
  have n8 := f8.size; have n7 := f7.size
  obtain ⟨S, hS⟩ : ∃ S, S = slL key nonce text note := ⟨_, rfl⟩
  have hOS := hO68
  rw [← hS] at hOS k1 oS ⊢
  obtain ⟨a, ha, hca⟩ := hOS.get (k := .i64) (i := i) (by omega)
  have hsp : sp w2.heap.size w3.heap.size q6 (S.set i (fl S i ^^^ x)) := .inr fun k hk => .inr (by have := hOS.2.2 k hk; omega)
  refine cond_d (fun k3 => ?_) (fun k3 => ?_)
  · refine ⟨a, ha, _, Ld.cell (by kernel_rfl) hca, ?_⟩
    rw [xor8]
    refine hOS.sto (k := .i64) (i := i) (by omega) fun w9 f9 hO9 s9 => ?_
    have f09 : Fr [] w w9 := f08.trans f9 (fun y hy => .inr (by have := hOS.2.2 y hy; omega))
    have hX9 := hX8.fr f9 (fun y hy => .inr (by have := hOS.2.2 y hy; omega))
    have h13 : opE key nonce (S.set i (fl S i ^^^ x)) note = 13 := by rw [hS]; exact opE_flip hok hx (by omega) (by omega)
    refine gopen_c hX9 (by omega) (by decide) (by decide) (h1.fr0 f09) hl1 hc1 (by omega) (sp.of h1 n2) hO9.row hO9.2.1 hO9.cap (by omega) hsp (h3.fr0 f09) hl3 hc3 (sp.of h3 n2) fun q10 d10 w10 f10 hX10 hO10 => ⟨_, _, _, _, rfl, ?_⟩
    rw [h13] at hX10
    rw [h13]
    refine cond_t (gfailed_c hX10 ⟨_, rfl, ?_⟩)
    exact h w10 (frThr f09 f10 n2)
  · refine ⟨a, ha, _, Ld.cell (by kernel_rfl) hca, ?_⟩
    rw [xor8]
    refine hOS.sto (k := .i64) (i := i) (by omega) fun w9 f9 hO9 s9 => ?_
    have f09 : Fr [] w w9 := f08.trans f9 (fun y hy => .inr (by have := hOS.2.2 y hy; omega))
    have hX9 := hX8.fr f9 (fun y hy => .inr (by have := hOS.2.2 y hy; omega))
    refine gopen_c hX9 (by omega) (by decide) (by decide) (h1.fr0 f09) hl1 hc1 (by omega) (sp.of h1 n2) hO9.row hO9.2.1 hO9.cap (by omega) hsp (h3.fr0 f09) hl3 hc3 (sp.of h3 n2) fun q10 d10 w10 f10 hX10 hO10 => ⟨_, _, _, _, rfl, ?_⟩
    have f010 := frThr f09 f10 n2
    have hO910 := hO9.thr f10 (by omega)
    refine refGopen_c (h0.fr0 f010) hl0 hc0 h16 (h1.fr0 f010) hl1 hO910.row hO910.2.1 hO910.cap (by omega) (h3.fr0 f010) hl3 fun q11 d11 w11 f11 hO11 => ⟨_, _, _, _, rfl, ?_⟩
    rw [beq_self_eq_true]
    have hlen : (opL key nonce (S.set i (fl S i ^^^ x)) note).length < 1000 := by
      unfold opL; split
      · rw [gturnL_len, List.length_take, List.length_set]; omega
      · show 0 < 1000; omega
    refine cond_t (SameBytes_c (hO10.fr0 f11).row rfl hO11.row rfl (by omega) fun w12 f12 => ⟨_, rfl, ?_⟩)
    rw [decide_eq_true rfl]
    exact h w12 ((f010.then f11).then f12)
end
end Go.Sh
end
