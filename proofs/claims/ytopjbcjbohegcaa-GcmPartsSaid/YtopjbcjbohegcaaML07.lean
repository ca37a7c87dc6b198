/- A part of a proof of a given law of this program: lemmas, printed forms of its functions, contracts. It has no conditions of its own. -/
import Derived.Test.YtopjbcjbohegcaaMB
import Derived.Test.YtopjbcjbohegcaaMC
import Derived.Test.YtopjbcjbohegcaaMSh6

section
namespace Go.Sh
open Go Go.Fw Go.Proofs
set_option maxRecDepth 100000
set_option linter.unusedVariables false
def z12 : List UInt8 := List.replicate 12 0
def cG : List UInt8 := [3, 136, 218, 206, 96, 182, 163, 146, 243, 40, 194, 185, 113, 178, 254, 120]
def tG : List UInt8 := [171, 110, 71, 212, 44, 236, 19, 189, 245, 58, 103, 178, 18, 87, 189, 223]
def vG : List UInt8 := [3, 136, 218, 206, 96, 182, 163, 146, 243, 40, 194, 185, 113, 178, 254, 120, 171, 110, 71, 212, 44, 236, 19, 189, 245, 58, 103, 178, 18, 87, 189, 223]
theorem g_aes1 : aencL z16 (firstL z12) = [0x58, 0xe2, 0xfc, 0xce, 0xfa, 0x7e, 0x30, 0x61, 0x36, 0x7f, 0x1d, 0x57, 0xa4, 0xe7, 0x45, 0x5a] := by rw [aencL_eval]; kernel_rfl
theorem g_hash : ghashL 0x66e94bd4ef8a2c3b884cfa59ca342b2e [] cG = [0xf3, 0x8c, 0xbb, 0x1a, 0xd6, 0x92, 0x23, 0xdc, 0xc3, 0x45, 0x7a, 0xe5, 0xb6, 0xb0, 0xf8, 0x85] := by kernel_rfl
theorem g_hash1 : ¬ (ghashL 0x66e94bd4ef8a2c3b884cfa59ca342b2e [1] cG = [0xf3, 0x8c, 0xbb, 0x1a, 0xd6, 0x92, 0x23, 0xdc, 0xc3, 0x45, 0x7a, 0xe5, 0xb6, 0xb0, 0xf8, 0x85]) := by decide +kernel
theorem g_key : hKey z16 = 0x66e94bd4ef8a2c3b884cfa59ca342b2e := by
  have : List.replicate 16 (0 : UInt8) = z16 := rfl
  unfold hKey; rw [this, aes_zero]; decide +kernel
theorem g_str : aencL z16 (afterL (firstL z12) 1) = [3, 136, 218, 206, 96, 182, 163, 146, 243, 40, 194, 185, 113, 178, 254, 120] := by rw [aencL_eval]; kernel_rfl
theorem g_turn : gturnL z16 z12 z16 = cG := by
  have e : strL z16 (afterL (firstL z12) 1) 16 = cG := by
    show (strB z16 (afterL (firstL z12) 1) 1).take 16 = _
    show ([] ++ aencL z16 (afterL (afterL (firstL z12) 1) 0)).take 16 = _
    rw [afterL_zero rfl, g_str]; rfl
  unfold gturnL turnL
  show xorL (strL z16 (afterL (firstL z12) 1) 16) z16 = _
  rw [e]; decide
theorem g_tag : gtagL z16 z12 cG [] = tG := by
  unfold gtagL; rw [g_key, g_hash, g_aes1]; decide
theorem xorL_inj {a b c : List UInt8} (h1 : a.length = c.length) (h2 : b.length = c.length) (h : xorL a c = xorL b c) : a = b := by
  refine fl_ext (by omega) fun j hj => ?_
  have e1 := xorL_getD h1 (i := j) (by omega)
  have e2 := xorL_getD h2 (i := j) (by omega)
  rw [h, e2] at e1
  have e3 := congrArg (fun x => x ^^^ c.getD j 0) e1
  simp only [UInt8.xor_assoc, UInt8.xor_self, UInt8.xor_zero] at e3
  exact e3.symm
theorem g_tag1 : ¬ (gtagL z16 z12 cG [1] = tG) := by
  intro h
  rw [← g_tag] at h
  unfold gtagL at h
  have := xorL_inj (by rw [ghashL_len, aencL_len]) (by rw [ghashL_len, aencL_len]) h
  rw [g_key, g_hash] at this
  exact g_hash1 this
theorem gS : slL z16 z12 z16 [] = vG := by
  unfold slL; rw [if_pos (by decide), g_turn, g_tag]; rfl
theorem gO1 : opE z16 z12 vG [] = 0 := by
  unfold opE
  show (if okG 12 [cG, []] then (if (32 : Nat) < 16 then 12 else if gtagL z16 z12 cG [] = tG then 0 else 13) else 11 : Int) = 0
  rw [if_pos (by decide), if_neg (by decide), if_pos g_tag]
theorem gO1L : opL z16 z12 vG [] = z16 := by
  unfold opL; rw [if_pos gO1]
  show gturnL z16 z12 cG = z16
  rw [← g_turn]; unfold gturnL; rw [turnL_twice]
theorem gO2 : opE z16 z12 vG [1] = 13 := by
  unfold opE
  show (if okG 12 [cG, [1]] then (if (32 : Nat) < 16 then 12 else if gtagL z16 z12 cG [1] = tG then 0 else 13) else 11 : Int) = 13
  rw [if_pos (by decide), if_neg (by decide), if_neg g_tag1]
theorem gO3 : opE z16 z12 (vG.take 15) [] = 12 := by
  unfold opE
  rw [if_pos (by decide), if_pos (by decide)]
theorem gT : tgL z16 z12 (vG.take 16) [] = tG := by
  show tgL z16 z12 cG [] = tG
  unfold tgL; rw [if_pos (by decide), g_tag]
section
variable {w : World} {K : Value → World → Prop}
theorem great07_c {p : Option Addr} {l c : Nat} {rs : List (List UInt8)} (hR : RowB w p rs) (hl : l = rs.length) (hl2 : l ≤ 1000000) (hbad : K (.bool true) w) (hok : (∀ r ∈ rs, r.length ≤ 200) → K (.bool false) w) :
    callF Try.prog F_law07_great #[.slice p l c] w K := by
  apply law07_great_call
  unfold law07_great
  refine LoopS.ind (fun k us w' => w' = w ∧ ∃ i : Nat, i + k = l ∧ us = [.slice p l c, .bool false, .int .i64 (i : Int)] ∧ ∀ j, j < i → (rs.getD j []).length ≤ 200) l ⟨rfl, 0, by omega, rfl, by omega⟩ ?_
  rintro k us r w2 I μ hgo ⟨rfl, i, hi, rfl, hs⟩
  refine ⟨_, _, _, _, _, rfl, cond_d (fun h3 => ?_) (fun h3 => ?_)⟩
  · have hil : i < l := by omega
    obtain ⟨a, q, d, ha, hca, hq, _⟩ := rows_get (t := T_S_S_uint8) (by kernel_rfl) hR (c := c) hl hil (k := .i64)
    refine ⟨a, ha, _, _, _, Ld.cell (by kernel_rfl) hca, cond_d (fun _ => hbad) fun h4 => ?_⟩
    rw [wrap64 (by omega) (by omega)]
    refine hgo _ _ _ (k - 1) (by omega) ⟨rfl, i + 1, by omega, rfl, fun j hj => ?_⟩
    by_cases hji : j = i
    · subst hji; omega
    · exact hs j (by omega)
  · refine hok fun r hr => ?_
    obtain ⟨j, hj, rfl⟩ := List.getElem_of_mem hr
    have := hs j (by omega)
    rw [List.getD_eq_getElem?_getD, List.getElem?_eq_getElem hj] at this
    simpa using this
theorem frThr {w1 w2 : World} {lo hi : Nat} (f : Fr [] w w1) (h : Fr (rg lo hi) w1 w2) (hlo : w.heap.size ≤ lo) : Fr [] w w2 := f.trans h fun x hx => .inr (Nat.le_trans hlo (mem_rg.1 hx).1)
theorem OB.thr {w1 : World} {p : Option Addr} {l c : Nat} {xs : List UInt8} {lo lo0 hi : Nat} (h : OB w p l c xs lo0) (f : Fr (rg lo hi) w w1) (h1 : hi ≤ lo0) : OB w1 p l c xs lo0 := h.fr f fun k hk hm => by have := h.2.2 k hk; have := (mem_rg.1 hm).2; omega
theorem OB.sp {p : Option Addr} {l c : Nat} {xs : List UInt8} {lo lo0 hi : Nat} (h : OB w p l c xs lo0) (h1 : hi ≤ lo0) : Go.Sh.sp lo hi p xs := .inr fun k hk => .inr (Nat.le_trans h1 (h.2.2 k hk))
theorem sp_none (lo hi : Nat) : Go.Sh.sp lo hi none [] := .inl rfl
theorem rowNil (w : World) : Row w none (([] : List UInt8).map vb) := .inl rfl
set_option maxHeartbeats 2000000 in
theorem alive07_c (h : ∀ w', Fr [] w w' → K (.bool true) w') : callF Try.prog F_law07_alive #[] w K := by
  apply law07_alive_call
  unfold law07_alive
  refine mkNz fun p1 w1 f1 hO1 => ?_
  refine gcmNew_c hO1.row rfl (by omega) (fun hb => absurd rfl hb) fun _ b w2 f2 hX2 => ⟨_, _, rfl, ?_⟩
  have f02 := f1.then f2
  refine gcmNew_c (key := []) (rowNil _) rfl (by omega) (fun _ => ⟨_, _, rfl, ?_⟩) fun hb => absurd hb (by omega)
  refine ⟨_, _, ptrNil (by kernel_rfl), cond_f (cond_f (cond_f ?_))⟩
  unfold law07_alive_j1
  refine mkN (n := 12) (c := 12) (by omega) (by omega) fun p3 w3 f3 hN3 s3 => ?_
  refine mkNz fun p4 w4 f4 hT4 => ?_
  have f24 := f3.then f4
  have lh := hX2.lohi
  have n1 := f1.size; have n2 := f2.size; have n3 := f3.size; have n4 := f4.size
  have hN4 := hN3.fr0 f4
  refine gseal_c (nonce := z12) (text := z16) (note := []) (hX2.fr0 f24) (by omega) hN4.row rfl (by omega) (by omega) hT4.row rfl (by omega) (rowNil _) rfl (by omega) (sp_none _ _) fun q5 d5 w5 f5 hX5 hO5 => ⟨_, _, _, _, rfl, ?_⟩
  rw [gS] at hO5
  rw [gS, show tgE z12 z16 [] = 0 by decide]
  have n5 := f5.size
  have hN5 := hN4.thr f5 (Nat.le_refl _)
  refine gopen_c (nonce := z12) (text := vG) (note := []) hX5 (by omega) (by omega) (by omega) hN5.row rfl (by omega) (by omega) (hN5.sp (Nat.le_refl _)) hO5.row rfl hO5.cap (by decide) (hO5.sp (by omega)) (rowNil _) rfl (by omega) (sp_none _ _) fun q6 d6 w6 f6 hX6 hO6 => ⟨_, _, _, _, rfl, ?_⟩
  rw [gO1] at hX6
  rw [gO1L] at hO6
  rw [gO1L, gO1]
  have n6 := f6.size
  have hN6 := hN5.thr f6 (Nat.le_refl _)
  have hV6 := hO5.thr f6 (by omega)
  refine mkL (n := 1) (xs := [1]) rfl rfl (by kernel_rfl) fun p7 w7 f7 hO7 s7 => ?_
  have n7 := f7.size
  refine gopen_c (nonce := z12) (text := vG) (note := [1]) (hX6.fr0 f7) (by omega) (by decide) (by decide) (hN6.fr0 f7).row rfl (by omega) (by omega) (hN6.sp (Nat.le_refl _)) (hV6.fr0 f7).row rfl hV6.cap (by decide) (hV6.sp (by omega)) hO7.row rfl hO7.cap (hO7.sp (by omega)) fun q8 d8 w8 f8 hX8 hO8 => ⟨_, _, _, _, rfl, ?_⟩
  rw [gO2] at hX8
  rw [gO2]
  have n8 := f8.size
  have hN8 := (hN6.fr0 f7).thr f8 (Nat.le_refl _)
  have hV8 := (hV6.fr0 f7).thr f8 (by omega)
  have hP8 := (hO6.fr0 f7).thr f8 (by omega)
  refine ⟨15, by unfold Pu; kernel_rfl, ?_⟩
  refine slTo hV8.row (n := 15) rfl (by decide) hV8.cap fun q9 d9 hq9 hql9 hqc9 hqs9 => ?_
  refine gopen_c (nonce := z12) (text := vG.take 15) (note := []) hX8 (by omega) (by decide) (by decide) hN8.row rfl (by omega) (by omega) (hN8.sp (Nat.le_refl _)) hq9 hql9 hqc9 (by omega) ((hV8.sp (by omega)).take hqs9) (rowNil _) rfl (by omega) (sp_none _ _) fun q10 d10 w10 f10 hX10 hO10 => ⟨_, _, _, _, rfl, ?_⟩
  rw [gO3] at hX10
  rw [gO3]
  have n10 := f10.size
  have hN10 := hN8.thr f10 (Nat.le_refl _)
  have hV10 := hV8.thr f10 (by omega)
  have hP10 := hP8.thr f10 (by omega)
  refine gseal_c (nonce := []) (text := []) (note := []) hX10 (by omega) (rowNil _) rfl (by omega) (by omega) (rowNil _) rfl (by omega) (rowNil _) rfl (by omega) (sp_none _ _) fun q11 d11 w11 f11 hX11 hO11 => ⟨_, _, _, _, rfl, ?_⟩
  have n11 := f11.size
  have hN11 := hN10.thr f11 (Nat.le_refl _)
  have hV11 := hV10.thr f11 (by omega)
  have hP11 := hP10.thr f11 (by omega)
  refine mkL (n := 32) (xs := vG) rfl rfl (by kernel_rfl) fun p12 w12 f12 hO12 s12 => ?_
  have n12 := f12.size
  refine slTo hO12.row (n := 16) rfl (by decide) hO12.cap fun q13 d13 hq13 hql13 hqc13 hqs13 => ?_
  refine gtag_c (nonce := z12) (text := vG.take 16) (note := []) (hX11.fr0 f12) (by omega) (hN11.fr0 f12).row rfl (by omega) (by omega) hq13 hql13 hqc13 ((hO12.sp (by omega)).take hqs13) (rowNil _) rfl (by omega) (sp_none _ _) fun q14 d14 w14 f14 hX14 hO14 => ⟨_, _, _, _, rfl, ?_⟩
  rw [gT] at hO14
  rw [gT, show tgE z12 (vG.take 16) [] = 0 by decide, show tgE [] [] [] = 11 by decide]
  have n14 := f14.size
  have hV14 := (hV11.fr0 f12).thr f14 (by omega)
  have hP14 := (hP11.fr0 f12).thr f14 (by omega)
  have hW14 := hO12.thr f14 (by omega)
  refine cond_t (cond_t (cond_t (cond_t (cond_t (cond_t ?_)))))
  refine SameBytes_c hV14.row rfl hW14.row rfl (by decide) fun w15 f15 => ⟨_, rfl, ?_⟩
  rw [decide_eq_true rfl]
  refine cond_t (mkNz fun p16 w16 f16 hO16 => ?_)
  have f146 := f15.then f16
  refine SameBytes_c (hP14.fr0 f146).row rfl hO16.row rfl (by decide) fun w17 f17 => ⟨_, rfl, ?_⟩
  rw [decide_eq_true rfl]
  refine cond_t ?_
  have f147 := f146.then f17
  refine slFrom (hW14.fr0 f147).row (n := 16) rfl (by decide) hW14.cap fun q18 d18 hq18 hql18 hqc18 hqs18 => ?_
  refine SameBytes_c (hO14.fr0 f147).row rfl hq18 rfl (by decide) fun w19 f19 => ⟨_, rfl, ?_⟩
  rw [show decide (tG = vG.drop 16) = true by decide]
  refine cond_t ?_
  have f149 := f147.then f19
  refine gfailed_c (hX14.fr0 f149) ⟨_, rfl, ?_⟩
  have g24 := f02.then f24
  have hlo : w.heap.size ≤ w1.heap.size := n1
  have g6 := frThr (frThr g24 f5 hlo) f6 hlo
  have g11 := frThr (frThr (frThr (g6.then f7) f8 hlo) f10 hlo) f11 hlo
  exact h w19 ((frThr (g11.then f12) f14 hlo).then f149)
end
end Go.Sh
end

section
namespace Go.Sh
open Go Go.Fw Go.Proofs
set_option maxRecDepth 100000
set_option linter.unusedVariables false
theorem row3 {w : World} {v1 v2 v3 : Value} {r1 r2 r3 : List UInt8} (hv1 : ByS w v1 r1) (hv2 : ByS w v2 r2) (hv3 : ByS w v3 r3) {K : Option Addr → Nat → Nat → World → Prop} (hr : (Instr.buildSlice T_S_S_uint8 3 #[(0, v1), (1, v2), (2, v3)]).run Try.prog w = .ok (.slice (some ⟨w.heap.size, 0, none⟩) 3 3) (w.alloc (.cells ([v1, v2, v3] : List Value).toArray T_S_uint8)))
    (h : ∀ p w', Fr [] w w' → RowB w' p [r1, r2, r3] → w'.heap.size = w.heap.size + 1 → K p 3 3 w') : ∃ p l c w', Ef Try.prog (Instr.buildSlice T_S_S_uint8 3 #[(0, v1), (1, v2), (2, v3)]) w (.slice p l c) w' ∧ K p l c w' :=
  ⟨_, _, _, Ef.new hr fun w' f hB s => h _ w' f (RowB.of3 hB.rowL (hv1.fr0 f) (hv2.fr0 f) (hv3.fr0 f)) s⟩
theorem slL_split {key nonce text note : List UInt8} (hok : okG nonce.length [text, note]) : (slL key nonce text note).length = text.length + 16 ∧ (slL key nonce text note).take text.length = gturnL key nonce text ∧ (slL key nonce text note).drop text.length = gtagL key nonce (gturnL key nonce text) note := by
  have e : slL key nonce text note = gturnL key nonce text ++ gtagL key nonce (gturnL key nonce text) note := by unfold slL; rw [if_pos hok]
  refine ⟨by rw [e, List.length_append, gturnL_len, gtagL_len], ?_, ?_⟩
  · rw [e, ← gturnL_len key nonce text, List.take_left']; rfl
  · rw [e, ← gturnL_len key nonce text, List.drop_left']; rfl
theorem fl_takeE {xs : List UInt8} {n j : Nat} (h : j < n) : fl (xs.take n) j = fl xs j := by
  unfold fl; rw [List.getD_eq_getElem?_getD, List.getElem?_take, if_pos h, List.getD_eq_getElem?_getD]
theorem xor_cross (s a b : UInt8) : (s ^^^ a) ^^^ (s ^^^ b) = a ^^^ b := by
  rw [UInt8.xor_comm s a, UInt8.xor_assoc, ← UInt8.xor_assoc s s b, UInt8.xor_self, UInt8.zero_xor]
theorem gturn_cross {key nonce a b : List UInt8} (hl : a.length = b.length) {j : Nat} (hj : j < a.length) : fl (gturnL key nonce a) j ^^^ fl (gturnL key nonce b) j = fl a j ^^^ fl b j := by
  have e1 : fl (gturnL key nonce a) j = fl (strL key (afterL (firstL nonce) 1) a.length) j ^^^ fl a j := by
    unfold gturnL turnL
    exact xorL_getD (strL_len _ _ _) (by omega)
  have e2 : fl (gturnL key nonce b) j = fl (strL key (afterL (firstL nonce) 1) a.length) j ^^^ fl b j := by
    unfold gturnL turnL
    rw [hl]
    exact xorL_getD (strL_len _ _ _) (by omega)
  rw [e1, e2, xor_cross]
section
variable {w : World} {K : Value → World → Prop} {p0 p1 p2 p3 p4 : Option Addr} {l0 c0 l1 c1 l2 c2 l3 c3 l4 c4 : Nat} {key nonce text other note : List UInt8}
set_option maxHeartbeats 2000000 in
theorem GcmTurns_c (h0 : Row w p0 (key.map vb)) (hl0 : l0 = key.length) (hc0 : l0 ≤ c0) (h1 : Row w p1 (nonce.map vb)) (hl1 : l1 = nonce.length) (hc1 : l1 ≤ c1) (h2 : Row w p2 (text.map vb)) (hl2 : l2 = text.length) (hc2 : l2 ≤ c2) (h3 : Row w p3 (other.map vb)) (hl3 : l3 = other.length) (hc3 : l3 ≤ c3) (h4 : Row w p4 (note.map vb)) (hl4 : l4 = note.length) (hc4 : l4 ≤ c4)
    (h : ∀ w', Fr [] w w' → K (.bool true) w') : callF Try.prog F_law07_GcmTurns #[.slice p0 l0 c0, .slice p1 l1 c1, .slice p2 l2 c2, .slice p3 l3 c3, .slice p4 l4 c4] w K := by
  apply law07_GcmTurns_call
  unfold law07_GcmTurns
  refine alive07_c fun w1 f1 => ⟨_, rfl, cond_f ?_⟩
  refine row3 (byS (h2.fr0 f1) hl2 hc2) (byS (h3.fr0 f1) hl3 hc3) (byS (h4.fr0 f1) hl4 hc4) (by kernel_rfl) fun p5 w2 f2 hR2 s2 => ?_
  have f02 := f1.then f2
  refine great07_c (l := 3) hR2 rfl (by omega) ⟨_, rfl, cond_t (h w2 f02)⟩ fun hg => ⟨_, rfl, cond_f ?_⟩
  have g2 : text.length ≤ 200 ∧ other.length ≤ 200 ∧ note.length ≤ 200 := by simpa using hg
  refine cond_ne (fun _ => h w2 f02) fun q16 => cond_ne (fun _ => h w2 f02) fun q12 => cond_ne (fun _ => h w2 f02) fun q23 => ?_
  unfold law07_GcmTurns_j4
  refine gcmNew_c (h0.fr0 f02) hl0 hc0 (fun hb => absurd (by omega) hb) fun h16 b w3 f3 hX3 => ⟨_, _, rfl, _, _, ptrNil (by kernel_rfl), cond_f (cond_f ?_)⟩
  unfold law07_GcmTurns_j3
  have f03 := f02.then f3
  have lh := hX3.lohi
  have n2 := f02.size
  have hok : okG nonce.length [text, note] := by rw [okG_iff]; omega
  have hok2 : okG nonce.length [other, []] := by rw [okG_iff]; simp; omega
  obtain ⟨oS, oT, oD⟩ := slL_split (key := key) hok
  obtain ⟨oS2, oT2, oD2⟩ := slL_split (key := key) hok2
  have tE : tgE nonce text note = 0 := by unfold tgE; rw [if_pos hok]
  have tE2 : tgE nonce other [] = 0 := by unfold tgE; rw [if_pos hok2]
  refine gseal_c hX3 (by omega) (h1.fr0 f03) hl1 hc1 (by omega) (h2.fr0 f03) hl2 hc2 (h4.fr0 f03) hl4 hc4 (sp.of h4 n2) fun q6 d6 w6 f6 hX6 hO6 => ⟨_, _, _, _, rfl, ?_⟩
  have f06 := frThr f03 f6 n2
  have n6 := f6.size
  refine gseal_c (note := []) hX6 (by omega) (h1.fr0 f06) hl1 hc1 (by omega) (h3.fr0 f06) hl3 hc3 (rowNil _) rfl (by omega) (sp_none _ _) fun q7 d7 w7 f7 hX7 hO7 => ⟨_, _, _, _, rfl, ?_⟩
  have f07 := frThr f06 f7 n2
  have hO67 := hO6.thr f7 (by omega)
  have n7 := f7.size
  rw [tE, tE2]
  refine cond_f (cond_f ?_)
  have ew : (((slL key nonce text note).length : Nat) : Int) = IntKind.i64.wrap ((l2 : Int) + 16) := by rw [wrap64 (by omega) (by omega)]; omega
  refine cond_ne (fun hb => absurd ew hb) fun _ => cond_ne (fun hb => absurd (by omega) hb) fun _ => ?_
  obtain ⟨S, hS⟩ : ∃ S, S = slL key nonce text note := ⟨_, rfl⟩
  obtain ⟨R, hR⟩ : ∃ R, R = slL key nonce other [] := ⟨_, rfl⟩
  rw [← hS] at hO67 oS oT oD ⊢
  rw [← hR] at hO7 oS2 oT2 ⊢
  unfold law07_GcmTurns_j2
  refine LoopS.ind (fun k us w' => ∃ i : Nat, i + k = l2 ∧ us = [.slice p1 l1 c1, .slice p2 l2 c2, .slice p3 l3 c3, .slice p4 l4 c4, .bool false, .pointer (some ⟨b, 0, none⟩), .slice q6 S.length d6, .slice q7 R.length d7, .int .i64 (i : Int)] ∧ Fr [] w7 w') l2
    ⟨0, by omega, rfl, Fr.refl _ _⟩ ?_
  rintro k us r w8 I μ hgo ⟨i, hi, rfl, f8⟩
  have f08 := f07.then f8
  refine ⟨_, _, _, _, _, _, _, _, _, _, _, _, _, _, _, _, _, _, _, _, _, rfl, cond_d (fun g1 => ?_) (fun g1 => ?_)⟩
  · refine ⟨fun w' => Fr [] w8 w', Drw.intro fun w9 f9 s9 => ?_⟩
    obtain ⟨a1, ha1, hc1'⟩ := row_get (t := T_S_uint8) (by kernel_rfl) (hO67.fr0 f8).row (c := d6) rfl (i := i) (by omega) (k := .i64)
    obtain ⟨a2, ha2, hc2'⟩ := row_get (t := T_S_uint8) (by kernel_rfl) (hO7.fr0 f8).row (c := d7) rfl (i := i) (by omega) (k := .i64)
    obtain ⟨a3, ha3, hc3'⟩ := row_get (t := T_S_uint8) (by kernel_rfl) (h2.fr0 f08) (c := c2) hl2 (i := i) (by omega) (k := .i64)
    obtain ⟨a4, ha4, hc4'⟩ := row_get (t := T_S_uint8) (by kernel_rfl) (h3.fr0 f08) (c := c3) hl3 (i := i) (by omega) (k := .i64)
    refine ⟨a1, ha1, a2, ha2, a3, ha3, a4, ha4, _, ⟨f9, fun w' hw' => Ld.cell (by kernel_rfl) (hw'.cell hc1' (by simp))⟩, _, ⟨f9, fun w' hw' => Ld.cell (by kernel_rfl) (hw'.cell hc2' (by simp))⟩, _, ⟨f9, fun w' hw' => Ld.cell (by kernel_rfl) (hw'.cell hc3' (by simp))⟩, _, Ld.cell (by kernel_rfl) (f9.cell hc4' (by simp)), .inl rfl, ?_⟩
    rw [xor8, xor8]
    have e1 : S.getD i 0 ^^^ R.getD i 0 = text.getD i 0 ^^^ other.getD i 0 := by
      have x1 : S.getD i 0 = fl (gturnL key nonce text) i := by rw [← oT, fl_takeE (by omega)]; rfl
      have x2 : R.getD i 0 = fl (gturnL key nonce other) i := by rw [← oT2, fl_takeE (by omega)]; rfl
      rw [x1, x2]; exact gturn_cross (by omega) (by omega)
    rw [e1]
    refine cond_ne (fun hb => absurd rfl hb) fun _ => ?_
    rw [wrap64 (by omega) (by omega)]
    exact hgo _ _ _ (k - 1) (by omega) ⟨i + 1, by omega, rfl, f8.then f9⟩
  · unfold law07_GcmTurns_j1
    have hO68 := hO67.fr0 f8
    refine slTo hO68.row rfl (n := l2) (by omega) hO68.cap fun q9 d9 hq9 hql9 hqc9 hqs9 => ?_
    have n8 := f8.size
    refine gtag_c (hX7.fr0 f8) (by omega) (h1.fr0 f08) hl1 hc1 (by omega) hq9 hql9 hqc9 ((hO68.sp (by omega)).take hqs9) (h4.fr0 f08) hl4 hc4 (sp.of h4 n2) fun q10 d10 w10 f10 hX10 hO10 => ⟨_, _, _, _, rfl, ?_⟩
    have eT : S.take l2 = gturnL key nonce text := by rw [hl2]; exact oT
    have hok3 : okG nonce.length [S.take l2, note] := by rw [eT, okG_iff, gturnL_len]; omega
    have e1 : tgE nonce (S.take l2) note = 0 := by unfold tgE; rw [if_pos hok3]
    have e2 : tgL key nonce (S.take l2) note = gtagL key nonce (gturnL key nonce text) note := by unfold tgL; rw [if_pos hok3, eT]
    rw [e2] at hO10
    rw [e1, e2]
    refine cond_t ?_
    have hO610 := hO68.thr f10 (by omega)
    refine slFrom hO610.row rfl (n := l2) (by omega) hO610.cap fun q11 d11 hq11 hql11 hqc11 hqs11 => ?_
    refine SameBytes_c hO10.row rfl hq11 hql11 (by rw [gtagL_len]; omega) fun w12 f12 => ⟨_, rfl, ?_⟩
    have eD : gtagL key nonce (gturnL key nonce text) note = S.drop l2 := by rw [hl2]; exact oD.symm
    rw [decide_eq_true eD]
    exact h w12 ((frThr f08 f10 n2).then f12)
theorem opE_cases {sealed : List UInt8} (h12 : nonce.length = 12) (h1 : sealed.length ≤ 200) (h2 : note.length ≤ 200) (h16 : 16 ≤ sealed.length) : opE key nonce sealed note = 0 ∨ opE key nonce sealed note = 13 := by
  unfold opE
  rw [if_pos (by rw [okG_iff, List.length_take]; omega), if_neg (by omega)]
  split
  · exact .inl rfl
  · exact .inr rfl
theorem opE_back (hok : okG nonce.length [text, note]) : opE key nonce (slL key nonce text note) note = 0 := by
  obtain ⟨oS, oT, oD⟩ := slL_split (key := key) hok
  unfold opE
  rw [oS, Nat.add_sub_cancel, oT, oD, if_pos (by rw [okG_iff, gturnL_len]; exact okG_iff.1 hok), if_neg (by omega), if_pos rfl]
set_option maxHeartbeats 2000000 in
theorem GcmParts_c (h0 : Row w p0 (key.map vb)) (hl0 : l0 = key.length) (hc0 : l0 ≤ c0) (h1 : Row w p1 (nonce.map vb)) (hl1 : l1 = nonce.length) (hc1 : l1 ≤ c1) (h2 : Row w p2 (text.map vb)) (hl2 : l2 = text.length) (hc2 : l2 ≤ c2) (h3 : Row w p3 (note.map vb)) (hl3 : l3 = note.length) (hc3 : l3 ≤ c3) (h4 : Row w p4 (other.map vb)) (hl4 : l4 = other.length) (hc4 : l4 ≤ c4)
    (h : ∀ w', Fr [] w w' → K (.bool true) w') : callF Try.prog F_law07_GcmParts #[.slice p0 l0 c0, .slice p1 l1 c1, .slice p2 l2 c2, .slice p3 l3 c3, .slice p4 l4 c4] w K := by
  apply law07_GcmParts_call
  unfold law07_GcmParts
  refine alive07_c fun w1 f1 => ⟨_, rfl, cond_f ?_⟩
  refine row3 (byS (h2.fr0 f1) hl2 hc2) (byS (h3.fr0 f1) hl3 hc3) (byS (h4.fr0 f1) hl4 hc4) (by kernel_rfl) fun p5 w2 f2 hR2 s2 => ?_
  have f02 := f1.then f2
  refine great07_c (l := 3) hR2 rfl (by omega) ⟨_, rfl, cond_t (h w2 f02)⟩ fun hg => ⟨_, rfl, cond_f ?_⟩
  have g2 : text.length ≤ 200 ∧ note.length ≤ 200 ∧ other.length ≤ 200 := by simpa using hg
  refine cond_ne (fun _ => h w2 f02) fun q16 => cond_ne (fun _ => h w2 f02) fun q12 => cond_d (fun _ => h w2 f02) fun q4 => ?_
  unfold law07_GcmParts_j4
  refine gcmNew_c (h0.fr0 f02) hl0 hc0 (fun hb => absurd (by omega) hb) fun h16 b w3 f3 hX3 => ⟨_, _, rfl, _, _, ptrNil (by kernel_rfl), cond_f (cond_f ?_)⟩
  unfold law07_GcmParts_j3
  have f03 := f02.then f3
  have lh := hX3.lohi
  have n2 := f02.size
  have hok : okG nonce.length [text, note] := by rw [okG_iff]; omega
  have hok0 : okG nonce.length [[], note] := by rw [okG_iff]; simp; omega
  obtain ⟨oS, oT, oD⟩ := slL_split (key := key) hok
  have tE : tgE nonce text note = 0 := by unfold tgE; rw [if_pos hok]
  have tE0 : tgE nonce [] note = 0 := by unfold tgE; rw [if_pos hok0]
  refine gseal_c hX3 (by omega) (h1.fr0 f03) hl1 hc1 (by omega) (h2.fr0 f03) hl2 hc2 (h3.fr0 f03) hl3 hc3 (sp.of h3 n2) fun q6 d6 w6 f6 hX6 hO6 => ⟨_, _, _, _, rfl, ?_⟩
  have f06 := frThr f03 f6 n2
  have n6 := f6.size
  rw [tE]
  refine cond_f ?_
  have ew : (((slL key nonce text note).length : Nat) : Int) = IntKind.i64.wrap ((l2 : Int) + 16) := by rw [wrap64 (by omega) (by omega)]; omega
  refine cond_ne (fun hb => absurd ew hb) fun _ => ?_
  have oB := opE_back (key := key) hok
  obtain ⟨S, hS⟩ : ∃ S, S = slL key nonce text note := ⟨_, rfl⟩
  rw [← hS] at hO6 oS oT oD oB ⊢
  unfold law07_GcmParts_j2
  refine slTo hO6.row rfl (n := l2) (by omega) hO6.cap fun q9 d9 hq9 hql9 hqc9 hqs9 => ?_
  refine gtag_c hX6 (by omega) (h1.fr0 f06) hl1 hc1 (by omega) hq9 hql9 hqc9 ((hO6.sp (by omega)).take hqs9) (h3.fr0 f06) hl3 hc3 (sp.of h3 n2) fun q10 d10 w10 f10 hX10 hO10 => ⟨_, _, _, _, rfl, ?_⟩
  have eT : S.take l2 = gturnL key nonce text := by rw [hl2]; exact oT
  have hok3 : okG nonce.length [S.take l2, note] := by rw [eT, okG_iff, gturnL_len]; omega
  have e1 : tgE nonce (S.take l2) note = 0 := by unfold tgE; rw [if_pos hok3]
  have e2 : tgL key nonce (S.take l2) note = gtagL key nonce (gturnL key nonce text) note := by unfold tgL; rw [if_pos hok3, eT]
  rw [e2] at hO10
  rw [e1, e2]
  have f010 := frThr f06 f10 n2
  have n10 := f10.size
  have hS10 := hO6.thr f10 (by omega)
  refine gseal_c (text := []) hX10 (by omega) (h1.fr0 f010) hl1 hc1 (by omega) (rowNil _) rfl (by omega) (h3.fr0 f010) hl3 hc3 (sp.of h3 n2) fun q11 d11 w11 f11 hX11 hO11 => ⟨_, _, _, _, rfl, ?_⟩
  have f011 := frThr f010 f11 n2
  have n11 := f11.size
  have hS11 := hS10.thr f11 (by omega)
  have hT11 := hO10.thr f11 (by omega)
  refine gtag_c (text := []) hX11 (by omega) (h1.fr0 f011) hl1 hc1 (by omega) (rowNil _) rfl (by omega) (sp_none _ _) (h3.fr0 f011) hl3 hc3 (sp.of h3 n2) fun q12 d12 w12 f12 hX12 hO12 => ⟨_, _, _, _, rfl, ?_⟩
  have f012 := frThr f011 f12 n2
  have n12 := f12.size
  have hS12 := hS11.thr f12 (by omega)
  have hT12 := hT11.thr f12 (by omega)
  have hE12 := hO11.thr f12 (by omega)
  rw [tE0]
  refine cond_f (cond_f (cond_f ?_))
  refine slFrom hS12.row rfl (n := l2) (by omega) hS12.cap fun q13 d13 hq13 hql13 hqc13 hqs13 => ?_
  refine SameBytes_c hT12.row rfl hq13 hql13 (by rw [gtagL_len]; omega) fun w14 f14 => ⟨_, rfl, ?_⟩
  have eD : gtagL key nonce (gturnL key nonce text) note = S.drop l2 := by rw [hl2]; exact oD.symm
  rw [decide_eq_true eD]
  refine cond_f ?_
  have eE : slL key nonce [] note = tgL key nonce [] note := by
    unfold slL tgL
    rw [if_pos hok0, if_pos hok0, List.length_eq_zero_iff.1 (gturnL_len key nonce []), List.nil_append]
  rw [eE] at hE12
  rw [eE]
  have lT : (tgL key nonce [] note).length < 1000 := by
    unfold tgL; rw [if_pos hok0, gtagL_len]; omega
  refine SameBytes_c (hE12.fr0 f14).row rfl (hO12.fr0 f14).row rfl (by omega) fun w15 f15 => ⟨_, rfl, ?_⟩
  rw [decide_eq_true rfl]
  refine cond_f ?_
  have f1215 := f14.then f15
  have hX15 := hX12.fr0 f1215
  refine gfailed_c hX15 ⟨_, rfl, cond_f ?_⟩
  unfold law07_GcmParts_j1
  have f015 := f012.then f1215
  have n15 := f1215.size
  have hS15 := hS12.fr0 f1215
  refine gopen_c hX15 (by omega) (by omega) (by omega) (h1.fr0 f015) hl1 hc1 (by omega) (sp.of h1 n2) (h4.fr0 f015) hl4 hc4 (by omega) (sp.of h4 n2) (h3.fr0 f015) hl3 hc3 (sp.of h3 n2) fun q16 d16 w16 f16 hX16 hO16 => ⟨_, _, _, _, rfl, ?_⟩
  have f016 := frThr f015 f16 n2
  have n16 := f16.size
  have hS16 := hS15.thr f16 (by omega)
  have oc := opE_cases (key := key) (nonce := nonce) (note := note) (sealed := other) (by omega) (by omega) (by omega) (by omega)
  obtain ⟨E, hE⟩ : ∃ E, E = opE key nonce other note := ⟨_, rfl⟩
  rw [← hE] at oc hX16
  rw [← hE]
  refine gopen_c hX16 (by omega) (by split <;> omega) (by split <;> omega) (h1.fr0 f016) hl1 hc1 (by omega) (sp.of h1 n2) hS16.row rfl hS16.cap (by omega) (hS16.sp (by omega)) (h3.fr0 f016) hl3 hc3 (sp.of h3 n2) fun q17 d17 w17 f17 hX17 hO17 => ⟨_, _, _, _, rfl, ?_⟩
  have f017 := frThr f016 f17 n2
  rw [oB] at hX17
  rw [oB]
  have hX17 : BoxAt w17 b key (0 + if E = 13 then 1 else 0) (1 + 1 + 1 + 1 + 1 + 1 + 1) w2.heap.size w3.heap.size := by
    have e : (0 + (if E = 13 then (1 : Int) else 0)) + (if (0 : Int) = 13 then 1 else 0) = 0 + if E = 13 then 1 else 0 := by rw [if_neg (show ¬ ((0 : Int) = 13) by omega)]; omega
    rw [e] at hX17
    exact hX17.mono (by omega)
  refine gopen_c hX17 (by omega) (by split <;> omega) (by split <;> omega) (h1.fr0 f017) hl1 hc1 (by omega) (sp.of h1 n2) (h4.fr0 f017) hl4 hc4 (by omega) (sp.of h4 n2) (h3.fr0 f017) hl3 hc3 (sp.of h3 n2) fun q18 d18 w18 f18 hX18 hO18 => ⟨_, _, _, _, rfl, ?_⟩
  have f018 := frThr f017 f18 n2
  rw [← hE] at hX18
  rw [← hE]
  refine cond_t ?_
  rw [beq_self_eq_true]
  refine cond_t ?_
  rcases oc with rfl | rfl
  · exact cond_t (gfailed_c hX18 ⟨_, rfl, cond_t (h w18 f018)⟩)
  · exact cond_f (cond_t (gfailed_c hX18 ⟨_, rfl, h w18 f018⟩))
end
end Go.Sh
end
