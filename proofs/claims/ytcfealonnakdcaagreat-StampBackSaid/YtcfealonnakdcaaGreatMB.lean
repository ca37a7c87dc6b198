/- A part of a proof of a given law of this program: lemmas, printed forms of its functions, contracts. It has no conditions of its own. -/
import Derived.Test.YtcfealonnakdcaaGreatMG
import Derived.Test.YtcfealonnakdcaaGreatMC
import Derived.Test.YtcfealonnakdcaaGreatMH
import Derived.Test.YtcfealonnakdcaaGreatMSh5
import Derived.Test.YtcfealonnakdcaaGreatMM

section
namespace Go.Sh
open Go Go.Fw Go.Proofs
set_option maxRecDepth 100000
set_option linter.unusedVariables false
def rg (lo hi : Nat) : List Nat := List.range' lo (hi - lo)
theorem mem_rg {lo hi k : Nat} : k ∈ rg lo hi ↔ lo ≤ k ∧ k < hi := by unfold rg; rw [List.mem_range'_1]; omega
def hKey (key : List UInt8) : Nat := numL (aencL key (List.replicate 16 0))
def firstL (nonce : List UInt8) : List UInt8 := nonce ++ [0, 0, 0, 1]
def gturnL (key nonce text : List UInt8) : List UInt8 := turnL key (afterL (firstL nonce) 1) text
def gtagL (key nonce text note : List UInt8) : List UInt8 := xorL (ghashL (hKey key) note text) (aencL key (firstL nonce))
theorem gturnL_len (key nonce text : List UInt8) : (gturnL key nonce text).length = text.length := turnL_len _ _ _
theorem gtagL_len (key nonce text note : List UInt8) : (gtagL key nonce text note).length = 16 := by unfold gtagL; rw [xorL_len (by rw [ghashL_len, aencL_len]), aencL_len]
def BoxAt (w : World) (b : Nat) (key : List UInt8) (n D : Int) (lo hi : Nat) : Prop := ∃ f c hh pk ck d m chi, Blk w b 4 f ∧ f 0 = .slice pk 16 ck ∧ f 1 = .pointer (some ⟨c, 0, none⟩) ∧ f 2 = .pointer (some ⟨hh, 0, none⟩) ∧ f 3 = .int .i64 n ∧
  Row w pk (key.map vb) ∧ 16 ≤ ck ∧ key.length = 16 ∧ Cip w c key d lo chi ∧ HAt w hh (hKey key) m ∧ 0 ≤ d ∧ d ≤ D ∧ chi ≤ hh ∧ (∀ k ∈ blks pk, hh < k ∧ k < b) ∧ hh < b ∧ b < hi ∧ hi ≤ w.heap.size
section
variable {w : World} {b : Nat} {key nonce text note : List UInt8} {n D : Int} {lo hi : Nat} {K : Value → World → Prop}
theorem BoxAt.fr {w' : World} {L : List Nat} (h : BoxAt w b key n D lo hi) (hf : Fr L w w') (hl : ∀ k ∈ L, k < lo ∨ hi ≤ k) : BoxAt w' b key n D lo hi := by
  obtain ⟨f, c, hh, pk, ck, d, m, chi, hB, e0, e1, e2, e3, hk, h16, hkl, hC, hH, d0, d1, o1, o2, o3, o4, o5⟩ := h
  have hcl := hC.lt
  have hn : ∀ x, lo ≤ x → x < hi → x ∉ L := fun x h1 h2 h3 => by have := hl x h3; omega
  refine ⟨f, c, hh, pk, ck, d, m, chi, hB.fr hf (hn b (by omega) o4), e0, e1, e2, e3, Row.cells_fr hk hf fun k hk => hn k (by have := o2 k hk; omega) (by have := o2 k hk; omega), h16, hkl, hC.fr hf fun k hk => ?_, hH.fr hf (hn hh (by omega) (by omega)), d0, d1, o1, o2, o3, o4, Nat.le_trans o5 hf.size⟩
  have := hl k hk; omega
theorem BoxAt.fr0 {w' : World} (h : BoxAt w b key n D lo hi) (hf : Fr [] w w') : BoxAt w' b key n D lo hi := h.fr hf (by simp)
theorem BoxAt.lohi (h : BoxAt w b key n D lo hi) : lo ≤ b ∧ b < hi ∧ key.length = 16 ∧ hi ≤ w.heap.size := by
  obtain ⟨f, c, hh, pk, ck, d, m, chi, hB, e0, e1, e2, e3, hk, h16, hkl, hC, hH, d0, d1, o1, o2, o3, o4, o5⟩ := h
  have hcl := hC.lt
  exact ⟨by omega, o4, hkl, o5⟩
theorem BoxAt.mono {D' : Int} (h : BoxAt w b key n D lo hi) (hd : D ≤ D') : BoxAt w b key n D' lo hi := by
  obtain ⟨f, c, hh, pk, ck, d, m, chi, hB, e0, e1, e2, e3, hk, h16, hkl, hC, hH, d0, d1, o⟩ := h
  exact ⟨f, c, hh, pk, ck, d, m, chi, hB, e0, e1, e2, e3, hk, h16, hkl, hC, hH, d0, by omega, o⟩
set_option maxHeartbeats 1000000 in
theorem gcmNew_c {p : Option Addr} {l cap : Nat} (hx : Row w p (key.map vb)) (hl : l = key.length) (hcap : l ≤ cap) (hbad : l ≠ 16 → K (.tuple #[.pointer none, .int .i64 11]) w)
    (hok : l = 16 → ∀ b w', Fr [] w w' → BoxAt w' b key 0 1 w.heap.size w'.heap.size → K (.tuple #[.pointer (some ⟨b, 0, none⟩), .int .i64 0]) w') : callF Tryz.prog F_gcm_New #[.slice p l cap] w K := by
  apply gcm_New_call
  unfold gcm_New
  by_cases h16 : l = 16
  · refine newCip_c hx hl (by omega) (by omega) fun c w1 f1 hC => ⟨_, _, rfl, cond_f ?_⟩
    refine mkN (n := 16) (c := 16) (by omega) (by omega) fun p2 w2 f2 hO2 s2 => ?_
    refine encCip_c (hC.fr0 f2) (by omega) (by omega) hO2.row rfl (by simp) (fun k hk => .inr (hO2.2.2 k hk)) fun p3 w3 f3 hC3 hO3 => ⟨_, _, _, _, rfl, ?_⟩
    have hcl := hC.lt
    refine ghashNew_c hO3.row (by simp [aencL_len]) (by omega) rfl fun hh w4 f4 hH4 hhn => ⟨_, _, rfl, ?_⟩
    have f02 := f1.then f2
    have f03 : Fr [] w w3 := f02.trans f3 (fun x hx => .inr (by simp at hx; omega))
    have f04 := f03.then f4
    have n1 := f1.size; have n2 := f2.size; have n3 := f3.size; have n4 := f4.size
    refine slices_Clone_c (hx.fr0 f04) (by simpa using hl) (by omega) (cells_vb _) fun pk ck w5 f5 hO5 hn5 => ⟨_, _, _, rfl, ?_⟩
    have hO5 : OB w5 pk l ck key w4.heap.size := ⟨hO5, hl, hn5⟩
    refine New.intro fun w6 f6 hB6 s6 => ?_
    subst h16
    have hhl := hH4.lt
    have n5 := f5.size
    refine hok rfl _ w6 ((f04.then f5).then f6) ⟨_, c, hh, pk, ck, _, _, _, hB6, rfl, rfl, rfl, rfl, (hO5.fr0 f6).row, hO5.cap, hl.symm, hC3.fr0 ((f4.then f5).then f6), hH4.fr0 (f5.then f6), by omega, by omega, by omega, fun k hk => ⟨?_, ?_⟩, by omega, by omega, Nat.le_refl _⟩
    · have := hn5 k hk; omega
    · exact hO5.lt k hk
  · exact New_bad_c (by omega) ⟨_, _, rfl, cond_t (hbad h16)⟩
def okG (n : Nat) (rs : List (List UInt8)) : Prop := n = 12 ∧ ∀ r ∈ rs, r.length ≤ 65535
theorem gcheck_c {p0 p : Option Addr} {l0 c0 l c : Nat} {rs : List (List UInt8)} (hR : RowB w p rs) (hl : l = rs.length) (hl2 : l ≤ 1000000) (hbad : ¬ okG l0 rs → K (.int .i64 11) w) (hok : okG l0 rs → K (.int .i64 0) w) :
    callF Tryz.prog F_gcm_check #[.slice p0 l0 c0, .slice p l c] w K := by
  apply gcm_check_call
  unfold gcm_check
  refine cond_ne (fun h1 => hbad fun h2 => by have := h2.1; omega) fun h1 => ?_
  apply slices_ContainsFunc_byte_byte_call
  unfold slices_ContainsFunc_byte_byte
  apply slices_IndexFunc_byte_byte_call
  unfold slices_IndexFunc_byte_byte
  refine LoopS.ind (fun k us w' => w' = w ∧ ∃ i : Nat, i + k = l ∧ us = [.slice p l c, .func (.func F_gcm_check_c1) #[] #[], .int .i64 0, .int .i64 (l : Int), .int .i64 (i : Int)] ∧ ∀ j, j < i → (rs.getD j []).length ≤ 65535) l ⟨rfl, 0, by omega, rfl, by omega⟩ ?_
  rintro k us r w2 I μ hgo ⟨rfl, i, hi, rfl, hs⟩
  refine ⟨_, _, _, _, _, _, _, rfl, cond_d (fun h3 => ?_) (fun h3 => ?_)⟩
  · have hil : i < l := by omega
    obtain ⟨a, q, d, ha, hca, hq, _⟩ := rows_get (t := T_S_S_uint8) (by kernel_rfl) hR (c := c) hl hil (k := .i64)
    refine ⟨a, ha, _, _, _, Ld.cell (by kernel_rfl) hca, ?_⟩
    refine callV_in ?_
    apply gcm_check_c1_call
    unfold gcm_check_c1
    refine ⟨_, rfl, ?_⟩
    refine cond_d (fun h4 => ?_) (fun h4 => ?_)
    · refine ⟨_, rfl, ?_⟩
      have e1 : decide ((i : Int) ≥ 0) = true := by simp
      rw [e1]
      refine ⟨_, rfl, cond_t (hbad fun hh => ?_)⟩
      have := hh.2 (rs.getD i []) (by rw [List.getD_eq_getElem?_getD, List.getElem?_eq_getElem (by omega)]; simp)
      omega
    · rw [wrap64 (by omega) (by omega)]
      refine hgo _ _ _ (k - 1) (by omega) ⟨rfl, i + 1, by omega, rfl, fun j hj => ?_⟩
      by_cases hji : j = i
      · subst hji; omega
      · exact hs j (by omega)
  · refine ⟨_, rfl, ?_⟩
    have e1 : decide ((-1 : Int) ≥ 0) = false := rfl
    rw [e1]
    refine ⟨_, rfl, cond_f (hok ⟨by omega, fun r hr => ?_⟩)⟩
    obtain ⟨j, hj, rfl⟩ := List.getElem_of_mem hr
    have := hs j (by omega)
    rw [List.getD_eq_getElem?_getD, List.getElem?_eq_getElem hj] at this
    simpa using this
theorem rowB2 {w : World} {v1 v2 : Value} {r1 r2 : List UInt8} (hv : ByS w v1 r1) (hv2 : ByS w v2 r2) {K : Option Addr → Nat → Nat → World → Prop} (hr : (Instr.buildSlice T_S_S_uint8 2 #[(0, v1), (1, v2)]).run Tryz.prog w = .ok (.slice (some ⟨w.heap.size, 0, none⟩) 2 2) (w.alloc (.cells ([v1, v2] : List Value).toArray T_S_uint8)))
    (h : ∀ p w', Fr [] w w' → RowB w' p [r1, r2] → w'.heap.size = w.heap.size + 1 → K p 2 2 w') : ∃ p l c w', Ef Tryz.prog (Instr.buildSlice T_S_S_uint8 2 #[(0, v1), (1, v2)]) w (.slice p l c) w' ∧ K p l c w' :=
  ⟨_, _, _, Ef.new hr fun w' f hB s => h _ w' f (RowB.of2 hB.rowL (hv.fr0 f) (hv2.fr0 f)) s⟩
theorem first_c {p : Option Addr} {l c : Nat} (hx : Row w p (nonce.map vb)) (hl : l = nonce.length) (hc : l ≤ c) (hlb : l ≤ 1000000) (h : ∀ q d w', Fr [] w w' → OB w' q (l + 4) d (firstL nonce) w.heap.size → K (.slice q (l + 4) d) w') :
    callF Tryz.prog F_gcm_first #[.slice p l c] w K := by
  apply gcm_first_call
  unfold gcm_first
  refine Put_c (n := 1) (size := 4) (by omega) (by omega) fun q d w1 f1 hO1 => ⟨_, _, _, _, rfl, ?_⟩
  refine rowB2 (byS (hx.fr0 f1) hl hc) hO1.byS (by kernel_rfl) fun p2 w2 f2 hR2 s2 => ?_
  have efl : [nonce, putL 1 4].flatten = firstL nonce := by
    have : putL 1 4 = [0, 0, 0, 1] := by decide
    simp [firstL, this]
  have hbl : (firstL nonce).length = l + 4 := by simp [firstL, hl]
  refine Join_c (l := 2) hR2 rfl (by rw [efl, hbl]; omega) (by omega) fun q3 d3 w3 f3 hO3 => ⟨_, _, _, rfl, ?_⟩
  rw [efl, hbl] at hO3
  rw [efl, hbl]
  have f02 := f1.then f2
  exact h q3 d3 w3 (f02.then f3) (hO3.mono f02.size)
theorem gturn_c (hX : BoxAt w b key n D lo hi) {p q : Option Addr} {l c m d : Nat} (hx : Row w p (nonce.map vb)) (hl : l = nonce.length) (hc : l ≤ c) (h12 : l = 12) (hy : Row w q (text.map vb)) (hm : m = text.length) (hd : m ≤ d) (hm2 : m ≤ 65535)
    (h : ∀ q d w', Fr [] w w' → OB w' q m d (gturnL key nonce text) w.heap.size → K (.slice q m d) w') : callF Tryz.prog F_gcm_Box_turn #[.pointer (some ⟨b, 0, none⟩), .slice p l c, .slice q m d] w K := by
  apply gcm_Box_turn_call
  unfold gcm_Box_turn
  subst h12
  refine first_c hx hl hc (by omega) fun q1 d1 w1 f1 hO1 => ⟨_, _, _, rfl, ?_⟩
  refine Next_c hO1.row hO1.2.1 hO1.cap (by rw [← hO1.2.1]) fun q2 d2 w2 f2 hO2 => ⟨_, _, _, _, rfl, ?_⟩
  have f02 := f1.then f2
  obtain ⟨f, c, hh, pk, ck, d, m, chi, hB, e0, e1, e2, e3, hk, h16, hkl, hC, hH, d0, d1, o1, o2, o3, o4⟩ := hX.fr0 f02
  refine ⟨_, rfl, _, _, _, Ld.blk (by kernel_rfl) hB (by omega) e0, ?_⟩
  refine Turn_c hk hkl.symm h16 hkl hO2.row hO2.2.1 hO2.cap (by rw [← hO2.2.1]) (hy.fr0 f02) hm hm2 fun q3 d3 w3 f3 hO3 => ⟨_, _, _, _, rfl, ?_⟩
  exact h q3 d3 w3 (f02.then f3) (hO3.mono f02.size)
end
end Go.Sh
end

section
namespace Go.Sh
open Go Go.Fw Go.Proofs
set_option maxRecDepth 100000
set_option linter.unusedVariables false
theorem or8z (a b : UInt8) : (a ||| b = 0) ↔ (a = 0 ∧ b = 0) := by
  constructor
  · intro h
    have h1 := congrArg UInt8.toNat h
    rw [UInt8.toNat_or] at h1
    have h2 := Nat.or_eq_zero_iff.1 h1
    exact ⟨UInt8.toNat_inj.1 h2.1, UInt8.toNat_inj.1 h2.2⟩
  · rintro ⟨rfl, rfl⟩; rfl
theorem xor8z (a b : UInt8) : (a ^^^ b = 0) ↔ a = b := by
  constructor
  · intro h
    have h1 : (a ^^^ b) ^^^ b = 0 ^^^ b := by rw [h]
    rw [UInt8.xor_assoc, UInt8.xor_self, UInt8.xor_zero, UInt8.zero_xor] at h1
    exact h1
  · rintro rfl; simp
theorem Equal_c {w : World} {p q : Option Addr} {l c m d : Nat} {xs ys : List UInt8} (hx : Row w p (xs.map vb)) (hl : l = xs.length) (hy : Row w q (ys.map vb)) (hm : m = ys.length) (h63 : l < 1000000000) {K : Value → World → Prop}
    (h : ∀ w', Fr [] w w' → K (.bool (decide (xs = ys))) w') : callF Tryz.prog F_octet_Equal #[.slice p l c, .slice q m d] w K := by
  apply octet_Equal_call
  unfold octet_Equal
  refine cond_ne (fun h1 => ?_) (fun h1 => ?_)
  · have : decide (xs = ys) = false := by simp; rintro rfl; omega
    rw [this] at h
    exact h w (Fr.refl _ _)
  · have hlm : l = m := by omega
    refine LoopS.ind (fun k us w' => ∃ (i : Nat) (acc : UInt8), i + k = l ∧ us = [.slice p l c, .slice q m d, .bool false, .int .u8 (acc.toNat : Int), .int .i64 (l : Int), .int .i64 (i : Int)] ∧ Fr [] w w' ∧ (acc = 0 ↔ ∀ j, j < i → fl xs j = fl ys j)) l ⟨0, 0, by omega, rfl, Fr.refl _ _, by simp⟩ ?_
    rintro k us r w2 I μ hgo ⟨i, acc, hi, rfl, f2, hs⟩
    refine ⟨_, _, _, _, _, _, _, _, _, _, rfl, cond_d (fun h2 => ?_) (fun h2 => ?_)⟩
    · obtain ⟨a, ha, hca⟩ := row_get (t := T_S_uint8) (by kernel_rfl) (hx.fr0 f2) (c := c) hl (i := i) (by omega) (k := .i64)
      obtain ⟨b, hb, hcb⟩ := row_get (t := T_S_uint8) (by kernel_rfl) (hy.fr0 f2) (c := d) hm (i := i) (by omega) (k := .i64)
      refine ⟨fun w' => w'.cell? a = some (vb (xs.getD i 0)), Drw.intro fun w3 f3 s3 => ?_⟩
      have hca3 := f3.cell hca (by simp)
      have hcb3 := f3.cell hcb (by simp)
      refine ⟨a, ha, b, hb, _, ⟨hca3, fun w' hw' => Ld.cell (by kernel_rfl) hw'⟩, _, Ld.cell (by kernel_rfl) hcb3, .inl rfl, ?_⟩
      rw [xor8, or8, wrap64 (by omega) (by omega)]
      refine hgo _ _ _ (k - 1) (by omega) ⟨i + 1, _, by omega, rfl, f2.then f3, ?_⟩
      rw [or8z, xor8z, hs]
      constructor
      · rintro ⟨h3, h4⟩ j hj
        by_cases hji : j = i
        · subst hji; exact h4
        · exact h3 j (by omega)
      · intro h3
        exact ⟨fun j hj => h3 j (by omega), h3 i (by omega)⟩
    · have hil : i = l := by omega
      subst hil
      have e : ((acc.toNat : Int) == 0) = decide (xs = ys) := by
        have e1 : ((acc.toNat : Int) == 0) = decide (acc = 0) := by
          by_cases h0 : acc = 0
          · subst h0; rfl
          · have : acc.toNat ≠ 0 := fun h => h0 (UInt8.toNat_inj.1 h)
            simp [h0]; omega
        rw [e1]
        apply decide_eq_decide.2
        rw [hs]
        exact ⟨fun h3 => list_eq_of (by omega) fun j hj => h3 j (by omega), fun h3 j hj => by rw [h3]⟩
      rw [e]
      exact h w2 f2
instance (n : Nat) (rs : List (List UInt8)) : Decidable (okG n rs) := by unfold okG; exact inferInstance
def sp (lo hi : Nat) (p : Option Addr) (xs : List UInt8) : Prop := xs = [] ∨ ∀ k ∈ blks p, k < lo ∨ hi ≤ k
theorem sp.keep {w w' : World} {lo hi : Nat} {p : Option Addr} {xs : List UInt8} {L : List Nat} (h : sp lo hi p xs) (hR : Row w p (xs.map vb)) (f : Fr L w w') (hL : ∀ k ∈ L, lo ≤ k ∧ k < hi) : Row w' p (xs.map vb) := by
  rcases h with rfl | h
  · exact .inl rfl
  · exact Row.cells_fr hR f fun k hk hm => by have := h k hk; have := hL k hm; omega
theorem sp.take {lo hi n : Nat} {p q : Option Addr} {xs : List UInt8} (h : sp lo hi p xs) (hs : ∀ z ∈ blks q, z ∈ blks p) : sp lo hi q (xs.take n) := by
  rcases h with rfl | h
  · exact .inl (by simp)
  · exact .inr fun k hk => h k (hs k hk)
theorem sp.of {w : World} {lo hi : Nat} {p : Option Addr} {xs : List UInt8} (hR : Row w p (xs.map vb)) (hlo : w.heap.size ≤ lo) : sp lo hi p xs := by
  by_cases h0 : xs = []
  · exact .inl h0
  · exact .inr fun k hk => .inl (Nat.lt_of_lt_of_le (Row.blk_lt hR (List.length_pos_iff.2 h0) k hk) hlo)
def tgE (nonce text note : List UInt8) : Int := if okG nonce.length [text, note] then 0 else 11
def tgL (key nonce text note : List UInt8) : List UInt8 := if okG nonce.length [text, note] then gtagL key nonce text note else []
def slL (key nonce text note : List UInt8) : List UInt8 := if okG nonce.length [text, note] then gturnL key nonce text ++ gtagL key nonce (gturnL key nonce text) note else []
theorem okG_iff {n : Nat} {xs ys : List UInt8} : okG n [xs, ys] ↔ (n = 12 ∧ xs.length ≤ 65535 ∧ ys.length ≤ 65535) := by simp [okG]
section
variable {w : World} {b : Nat} {key nonce text note : List UInt8} {n D : Int} {lo hi : Nat} {K : Value → World → Prop}
theorem gtag_c (hX : BoxAt w b key n D lo hi) (hD : D < 1000000000) {p1 p2 p3 : Option Addr} {l1 c1 l2 c2 l3 c3 : Nat} (h1 : Row w p1 (nonce.map vb)) (hl1 : l1 = nonce.length) (hc1 : l1 ≤ c1) (hb1 : l1 ≤ 1000000)
    (h2 : Row w p2 (text.map vb)) (hl2 : l2 = text.length) (hc2 : l2 ≤ c2) (hs2 : sp lo hi p2 text) (h3 : Row w p3 (note.map vb)) (hl3 : l3 = note.length) (hc3 : l3 ≤ c3) (hs3 : sp lo hi p3 note)
    (h : ∀ q d w', Fr (rg lo hi) w w' → BoxAt w' b key n (D + 1) lo hi → OB w' q (tgL key nonce text note).length d (tgL key nonce text note) w.heap.size → K (.tuple #[.slice q (tgL key nonce text note).length d, .int .i64 (tgE nonce text note)]) w') :
    callF Tryz.prog F_gcm_Box_Tag #[.pointer (some ⟨b, 0, none⟩), .slice p1 l1 c1, .slice p2 l2 c2, .slice p3 l3 c3] w K := by
  apply gcm_Box_Tag_call
  unfold gcm_Box_Tag
  refine rowB2 (byS h2 hl2 hc2) (byS h3 hl3 hc3) (by kernel_rfl) fun p0 w1 f1 hR1 s1 => ?_
  refine gcheck_c (l := 2) hR1 rfl (by omega) (fun hno => ?_) fun hok => ?_
  · have e1 : tgE nonce text note = 11 := by unfold tgE; rw [if_neg (by rw [← hl1]; exact hno)]
    have e2 : tgL key nonce text note = [] := by unfold tgL; rw [if_neg (by rw [← hl1]; exact hno)]
    rw [e1, e2] at h
    exact ⟨_, rfl, cond_t (h none 0 w1 (f1.mono (by simp)) ((hX.fr0 f1).mono (by omega)) (OB.nil _ _))⟩
  · have e1 : tgE nonce text note = 0 := by unfold tgE; rw [if_pos (by rw [← hl1]; exact hok)]
    have e2 : tgL key nonce text note = gtagL key nonce text note := by unfold tgL; rw [if_pos (by rw [← hl1]; exact hok)]
    rw [e1, e2, gtagL_len] at h
    rw [okG_iff] at hok
    refine ⟨_, rfl, cond_f ⟨fun w' => Fr [] w1 w', Drw.intro fun w2 f2 s2 => ?_⟩⟩
    obtain ⟨f, c, hh, pk, ck, d, m, chi, hB, e0, ea, eb, ec, hk, h16, hkl, hC, hH, d0, d1, o1, o2, o3, o4, o5⟩ := hX.fr0 f1
    have hcl := hC.lt
    refine ⟨_, rfl, _, ⟨f2, fun w' hw' => Ld.blk (by kernel_rfl) (hB.fr0 hw') (by show (0 + 1 : Nat) < 4; omega) ea⟩, ?_⟩
    have f02 := f1.then f2
    refine first_c (h1.fr0 f02) hl1 hc1 hb1 fun q3 d3 w3 f3 hO3 => ⟨_, _, _, rfl, .inr (f2.then f3), ?_⟩
    have f13 := f2.then f3
    have f03 := f1.then f13
    have n0 := f1.size; have n3 := f02.size
    have hlen : (firstL nonce).length = 16 := by simp [firstL]; omega
    refine encCip_c (hC.fr0 f13) d0 (by omega) hO3.row hO3.2.1 hlen (fun k hk => .inr (by have := hO3.2.2 k hk; omega)) fun q4 w4 f4 hC4 hO4 => ⟨_, _, _, _, rfl, ?_⟩
    have hB4 := (hB.fr0 f13).fr f4 (by simp; omega)
    refine ⟨_, rfl, _, Ld.blk (by kernel_rfl) hB4 (by show (0 + 2 : Nat) < 4; omega) eb, ?_⟩
    have n4 := f03.size
    have sep : ∀ {p : Option Addr} {xs : List UInt8}, Row w p (xs.map vb) → sp lo hi p xs → Row w4 p (xs.map vb) := fun {p xs} hr hs => hs.keep (hr.fr0 f03) f4 fun k hk => by simp at hk; omega
    refine gSum_c ((hH.fr0 f13).fr f4 (by simp; omega)) (sep h3 hs3) hl3 hc3 (by omega) (sep h2 hs2) hl2 hc2 (by omega) fun q5 d5 w5 m5 f5 hH5 hO5 => ⟨_, _, _, rfl, ?_⟩
    have n5 := f4.size
    refine Xor_c hO5.row hO5.2.1 (Row.fr_lt hO4.row f5 fun hm => by have := hO4.2.2 _ hm; omega) hO4.2.1 (by rw [ghashL_len, aencL_len]) (by omega) fun q6 d6 w6 f6 hO6 => ⟨_, _, _, _, rfl, ?_⟩
    have hf : Fr (rg lo hi) w w6 := (((f03.mono (by simp)).trans f4 (fun x hx => .inl (by simp at hx; subst hx; exact mem_rg.2 ⟨hcl.1, by omega⟩))).trans f5 (fun x hx => .inl (by simp at hx; subst hx; exact mem_rg.2 ⟨by omega, by omega⟩))).then f6
    have n6 := f5.size
    refine h q6 d6 w6 hf ?_ (hO6.mono (by omega))
    refine ⟨f, c, hh, pk, ck, d + 1, m5, chi, (hB4.fr f5 (by simp; omega)).fr0 f6, e0, ea, eb, ec, ?_, h16, hkl, ((hC4.fr f5 (fun k hk => by simp at hk; omega))).fr0 f6, hH5.fr0 f6, by omega, by omega, o1, o2, o3, o4, Nat.le_trans o5 ?_⟩
    · exact (Row.fr_lt (Row.fr_lt (hk.fr0 f13) f4 fun hm => by have := o2 _ hm; omega) f5 fun hm => by have := o2 _ hm; omega).fr0 f6
    · have := f6.size; have := f13.size; omega
set_option maxHeartbeats 1000000 in
theorem gseal_c (hX : BoxAt w b key n D lo hi) (hD : D < 1000000000) {p1 p2 p3 : Option Addr} {l1 c1 l2 c2 l3 c3 : Nat} (h1 : Row w p1 (nonce.map vb)) (hl1 : l1 = nonce.length) (hc1 : l1 ≤ c1) (hb1 : l1 ≤ 1000000)
    (h2 : Row w p2 (text.map vb)) (hl2 : l2 = text.length) (hc2 : l2 ≤ c2) (h3 : Row w p3 (note.map vb)) (hl3 : l3 = note.length) (hc3 : l3 ≤ c3) (hs3 : sp lo hi p3 note)
    (h : ∀ q d w', Fr (rg lo hi) w w' → BoxAt w' b key n (D + 1) lo hi → OB w' q (slL key nonce text note).length d (slL key nonce text note) w.heap.size → K (.tuple #[.slice q (slL key nonce text note).length d, .int .i64 (tgE nonce text note)]) w') :
    callF Tryz.prog F_gcm_Box_Seal #[.pointer (some ⟨b, 0, none⟩), .slice p1 l1 c1, .slice p2 l2 c2, .slice p3 l3 c3] w K := by
  apply gcm_Box_Seal_call
  unfold gcm_Box_Seal
  refine rowB2 (byS h2 hl2 hc2) (byS h3 hl3 hc3) (by kernel_rfl) fun p0 w1 f1 hR1 s1 => ?_
  refine gcheck_c (l := 2) hR1 rfl (by omega) (fun hno => ?_) fun hok => ?_
  · have e1 : tgE nonce text note = 11 := by unfold tgE; rw [if_neg (by rw [← hl1]; exact hno)]
    have e2 : slL key nonce text note = [] := by unfold slL; rw [if_neg (by rw [← hl1]; exact hno)]
    rw [e1, e2] at h
    exact ⟨_, rfl, cond_t (h none 0 w1 (f1.mono (by simp)) ((hX.fr0 f1).mono (by omega)) (OB.nil _ _))⟩
  · have e1 : tgE nonce text note = 0 := by unfold tgE; rw [if_pos (by rw [← hl1]; exact hok)]
    have e2 : slL key nonce text note = gturnL key nonce text ++ gtagL key nonce (gturnL key nonce text) note := by unfold slL; rw [if_pos (by rw [← hl1]; exact hok)]
    rw [e1, e2] at h
    rw [okG_iff] at hok
    refine ⟨_, rfl, cond_f ?_⟩
    have hlh := hX.lohi
    have n1 := f1.size
    refine gturn_c (hX.fr0 f1) (h1.fr0 f1) hl1 hc1 hok.1 (h2.fr0 f1) hl2 hc2 (by omega) fun q2 d2 w2 f2 hO2 => ⟨_, _, _, rfl, ?_⟩
    have f02 := f1.then f2
    have hgok : okG nonce.length [gturnL key nonce text, note] := by rw [okG_iff, gturnL_len]; omega
    have et : tgL key nonce (gturnL key nonce text) note = gtagL key nonce (gturnL key nonce text) note := by unfold tgL; rw [if_pos hgok]
    refine gtag_c (hX.fr0 f02) hD (h1.fr0 f02) hl1 hc1 hb1 hO2.row hO2.2.1 hO2.cap (.inr fun k hk => .inr (by have := hO2.2.2 k hk; omega)) (h3.fr0 f02) hl3 hc3 hs3 fun q3 d3 w3 f3 hX3 hO3 => ⟨_, _, _, _, rfl, ?_⟩
    rw [et] at hO3 ⊢
    have hO23 : OB w3 q2 l2 d2 (gturnL key nonce text) w1.heap.size := hO2.fr f3 fun k hk hm => by have := hO2.2.2 k hk; have := mem_rg.1 hm; omega
    refine rowB2 hO23.byS hO3.byS (by kernel_rfl) fun p4 w4 f4 hR4 s4 => ?_
    have efl : [gturnL key nonce text, gtagL key nonce (gturnL key nonce text) note].flatten = gturnL key nonce text ++ gtagL key nonce (gturnL key nonce text) note := by simp
    refine Join_c (l := 2) hR4 rfl (by rw [efl, List.length_append, gturnL_len, gtagL_len]; omega) (by omega) fun q5 d5 w5 f5 hO5 => ⟨_, _, _, rfl, ?_⟩
    rw [efl] at hO5 ⊢
    have f45 := f4.then f5
    have n2 := f02.size; have n3 := f3.size; have n4 := f4.size
    exact h q5 d5 w5 (((f02.mono (by simp)).trans f3 (fun x hx => .inl hx)).then f45) (hX3.fr0 f45) (hO5.mono (by omega))
end
end Go.Sh
end
