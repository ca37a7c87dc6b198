/- A part of a proof of a given law of this program: lemmas, printed forms of its functions, contracts. It has no conditions of its own. -/
import Derived.Test.YtcfealonnakdcaaGreatMC2
import Derived.Test.YtcfealonnakdcaaGreatMC1
import Derived.Test.YtcfealonnakdcaaGreatMS2
import Derived.Test.YtcfealonnakdcaaGreatMW1

section
namespace Go.Sh
open Go Go.Fw Go.Proofs
set_option maxRecDepth 100000
set_option linter.unusedVariables false
theorem rows_ld {w : World} {p : Option Addr} {rs : List (List UInt8)} (h : RowB w p rs) {l c i : Nat} (hl : l = rs.length) (hi : i < l) {r : List UInt8} (hr : rs.getD i [] = r) {k : IntKind} :
    ∃ a q d, IxA Tryz.prog T_S_S_uint8 (.slice p l c) (.int k (i : Int)) a ∧ Ld Tryz.prog T_S_uint8 (.pointer (some a)) w (.slice q r.length d) ∧ Row w q (r.map vb) := by
  obtain ⟨a, q, d, h1, h2, h3, _⟩ := rows_get (t := T_S_S_uint8) (by kernel_rfl) h (c := c) hl hi (k := k)
  rw [hr] at h2 h3
  exact ⟨a, q, d, h1, Ld.cell (by kernel_rfl) h2, h3⟩
set_option maxHeartbeats 1000000 in
theorem refWith_c {w : World} {p q t : Option Addr} {l c m d n e : Nat} {xs ys : List UInt8} (hx : Row w p (xs.map vb)) (hl : l = xs.length) (h16 : xs.length = 16) (hcap : l ≤ c) (hy : Row w q (ys.map vb)) (hm : m = ys.length) (h16' : ys.length = 16) (ht : Row w t (tblL.map vb)) (hn : n = 256) {K : Value → World → Prop}
    (h : ∀ p' c' w', Fr [] w w' → OB w' p' 16 c' (aencL xs ys) w.heap.size → K (.slice p' 16 c') w') : callF Tryz.prog F_ref03_With #[.slice p l c, .slice q m d, .slice t n e] w K := by
  apply ref03_With_call
  unfold ref03_With
  obtain ⟨A, hA⟩ : ∃ A, A = akeys (fl xs) := ⟨_, rfl⟩
  have hfin : aencL xs ys = bl 16 (encR A (fl ys) 10) := by rw [hA]; rfl
  rw [hfin] at h
  refine refKeys_c hx hl h16 hcap ht hn fun pk ck w1 f1 hK => ⟨_, _, _, rfl, ?_⟩
  rw [← hA] at hK
  have hKB := hK.rowB
  obtain ⟨a, qa, da, ha, lda, hra⟩ := rows_ld hKB (c := ck) (l := 11) (i := 0) (by rw [keysL_len]) (by omega) (keysL_at A (by omega)) (k := .i64)
  refine ⟨a, ha, _, _, _, lda, ?_⟩
  subst hm
  refine ref_add_c (hy.fr0 f1) rfl hra rfl (by rw [bl_len]; omega) (by omega) fun p8 c8 w2 f2 hO2 => ⟨_, _, _, rfl, ?_⟩
  rw [h16'] at hO2
  have e0 : bl 16 (xorF (fl ys) (fl (bl 16 (kAt A 0)))) = bl 16 (encR A (fl ys) 0) := bl_congr (xorF_congr2 (fun _ _ => rfl) (fl_bl 16 _))
  rw [e0] at hO2
  rw [h16']
  have n1 := f1.size
  refine LoopS.ind (fun k us w' => ∃ (r : Nat) (p8 : Option Addr) (c8 : Nat), r + k = 10 ∧ us = [.slice t n e, .slice none 0 0, .slice pk 11 ck, .slice p8 16 c8, .int .i64 ((r + 1 : Nat) : Int)] ∧ Fr [] w1 w' ∧ OB w' p8 16 c8 (bl 16 (encR A (fl ys) r)) w1.heap.size) 10
    ⟨0, p8, c8, by omega, rfl, f2, hO2⟩ ?_
  rintro k us rr w3 I μ hgo ⟨r, p8, c8, hr, rfl, f3, hO3⟩
  have n3 := f3.size
  refine ⟨_, _, _, _, _, _, _, _, _, _, _, _, _, rfl, cond_d (fun h2 => ?_) (fun h2 => ?_)⟩
  · obtain ⟨y, hy⟩ : ∃ y, y = encR A (fl ys) r := ⟨_, rfl⟩
    rw [← hy] at hO3
    refine ref_subs_c hO3.row (by rw [bl_len]) ((ht.fr0 f1).fr0 f3) (by rw [hn]; exact (bl_len _ _).symm) hn (by omega) fun p4 c4 w4 f4 hO4 => ⟨_, _, _, rfl, ?_⟩
    have e4 : (bl 16 y).map (fun a => fl tblL a.toNat) = bl 16 (fun j => gsign (y j)) := by
      rw [bl_map]
      exact bl_congr fun j _ => tblL_at _
    rw [e4] at hO4
    refine ref_rows_c (m := 1) hO4.row (by rw [bl_len]) (bl_len _ _) (by omega) fun p5 w5 f5 hO5 => ⟨_, _, _, rfl, ?_⟩
    rw [bl_rows] at hO5
    have f35 := f4.then f5
    have fin : ∀ w6 p6 c6 z, Fr [] w3 w6 → OB w6 p6 16 c6 (bl 16 z) w3.heap.size → xorF z (kAt A (r + 1)) = encR A (fl ys) (r + 1) →
        ref03_With_j1 I μ [.slice t n e, .slice none 0 0, .slice pk 11 ck, .slice p8 16 c8, .int .i64 ((r + 1 : Nat) : Int)] w3 t n e none 0 0 pk 11 ck p6 16 c6 ((r + 1 : Nat) : Int) w6 K := by
      intro w6 p6 c6 z f36 hO6 hz
      unfold ref03_With_j1
      obtain ⟨b, qb, db, hb, ldb, hrb⟩ := rows_ld ((hKB.fr0 f3).fr0 f36) (c := ck) (l := 11) (i := r + 1) (by rw [keysL_len]) (by omega) (keysL_at A (by omega)) (k := .i64)
      refine ⟨b, hb, _, _, _, ldb, ?_⟩
      refine ref_add_c hO6.row (by rw [bl_len]) hrb rfl (by rw [bl_len]; exact Nat.le_refl _) (by omega) fun p7 c7 w7 f7 hO7 => ⟨_, _, _, rfl, ?_⟩
      rw [bl_xor, hz] at hO7
      rw [wrap64 (by omega) (by omega)]
      have n36 := f36.size
      exact hgo _ _ _ (k - 1) (by omega) ⟨r + 1, p7, c7, by omega, rfl, (f3.then f36).then f7, hO7.mono (by omega)⟩
    refine cond_d (fun h3 => ?_) (fun h3 => ?_)
    · have hr9 : r + 1 < 10 := by omega
      refine ref_columns_c (f := fE) hO5.row (by rw [bl_len]) (bl_len _ _) fun p6 w6 f6 hO6 => ⟨_, _, _, rfl, ?_⟩
      rw [bl_cols] at hO6
      refine fin w6 p6 16 _ (f35.then f6) (hO6.mono f35.size) ?_
      rw [encR_succ, ← hy]
      unfold mixR
      rw [if_pos hr9]
    · have hr9 : ¬ r + 1 < 10 := by omega
      refine fin w5 p5 16 _ f35 (hO5.mono f4.size) ?_
      rw [encR_succ, ← hy]
      unfold mixR
      rw [if_neg hr9]
  · have hr10 : r = 10 := by omega
    subst hr10
    exact h p8 c8 w3 (f1.then f3) (hO3.mono n1)
theorem refEncrypt_c {w : World} {p q : Option Addr} {l c m d : Nat} {xs ys : List UInt8} (hx : Row w p (xs.map vb)) (hl : l = xs.length) (h16 : xs.length = 16) (hcap : l ≤ c) (hy : Row w q (ys.map vb)) (hm : m = ys.length) (h16' : ys.length = 16) {K : Value → World → Prop}
    (h : ∀ p' c' w', Fr [] w w' → OB w' p' 16 c' (aencL xs ys) w.heap.size → K (.slice p' 16 c') w') : callF Tryz.prog F_ref03_Encrypt #[.slice p l c, .slice q m d] w K := by
  apply ref03_Encrypt_call
  unfold ref03_Encrypt
  refine Table_c fun pt w1 f1 hT => ⟨_, _, _, rfl, ?_⟩
  refine refWith_c (hx.fr0 f1) hl h16 hcap (hy.fr0 f1) hm h16' hT.row rfl fun p' c' w2 f2 hO => ⟨_, _, _, rfl, ?_⟩
  exact h p' c' w2 (f1.then f2) (hO.mono f1.size)
theorem decR_succ (ks x : Nat → UInt8) (n : Nat) : decR ks x (n + 1) = fun j => gunsign (arows 3 (if 10 - n < 10 then acols (gF fD) (xorF (decR ks x n) (kAt ks (10 - n))) else xorF (decR ks x n) (kAt ks (10 - n))) j) := rfl
set_option maxHeartbeats 1000000 in
theorem refDecrypt_c {w : World} {p q : Option Addr} {l c m d : Nat} {xs ys : List UInt8} (hx : Row w p (xs.map vb)) (hl : l = xs.length) (h16 : xs.length = 16) (hcap : l ≤ c) (hy : Row w q (ys.map vb)) (hm : m = ys.length) (h16' : ys.length = 16) {K : Value → World → Prop}
    (h : ∀ p' c' w', Fr [] w w' → OB w' p' 16 c' (adecL xs ys) w.heap.size → K (.slice p' 16 c') w') : callF Tryz.prog F_ref03_Decrypt #[.slice p l c, .slice q m d] w K := by
  apply ref03_Decrypt_call
  unfold ref03_Decrypt
  obtain ⟨A, hA⟩ : ∃ A, A = akeys (fl xs) := ⟨_, rfl⟩
  have hfin : adecL xs ys = bl 16 (xorF (decR A (fl ys) 10) (kAt A 0)) := by rw [hA]; rfl
  rw [hfin] at h
  refine Table_c fun pt w0 f0 hT => ⟨_, _, _, rfl, ?_⟩
  refine refKeys_c (hx.fr0 f0) hl h16 hcap hT.row rfl fun pk ck w1 f1 hK => ⟨_, _, _, rfl, ?_⟩
  rw [← hA] at hK
  have hKB := hK.rowB
  have f01 := f0.then f1
  have n1 := f01.size
  have ey : ys = bl 16 (fl ys) := xs_bl h16'
  subst hm
  rw [h16']
  refine LoopS.ind (fun k us w' => ∃ (n : Nat) (p8 : Option Addr) (c8 : Nat), n + k = 10 ∧ us = [.slice none 0 0, .slice pt 256 256, .slice pk 11 ck, .slice p8 16 c8, .int .i64 ((10 - n : Nat) : Int)] ∧ Fr [] w1 w' ∧ Row w' p8 ((bl 16 (decR A (fl ys) n)).map vb)) 10
    ⟨0, q, d, by omega, rfl, Fr.refl _ _, by show Row w1 q ((bl 16 (fl ys)).map vb); rw [← ey]; exact hy.fr0 f01⟩ ?_
  rintro k us rr w3 I μ hgo ⟨n, p8, c8, hn, rfl, f3, hR3⟩
  have n3 := f3.size
  refine ⟨_, _, _, _, _, _, _, _, _, _, _, _, _, rfl, cond_d (fun h2 => ?_) (fun h2 => ?_)⟩
  · have hn10 : n < 10 := by omega
    obtain ⟨y, hy⟩ : ∃ y, y = decR A (fl ys) n := ⟨_, rfl⟩
    rw [← hy] at hR3
    obtain ⟨b, qb, db, hb, ldb, hrb⟩ := rows_ld (hKB.fr0 f3) (c := ck) (l := 11) (i := 10 - n) (by rw [keysL_len]) (by omega) (keysL_at A (by omega)) (k := .i64)
    refine ⟨b, hb, _, _, _, ldb, ?_⟩
    refine ref_add_c hR3 (by rw [bl_len]) hrb rfl (by rw [bl_len]; exact Nat.le_refl _) (by omega) fun p7 c7 w7 f7 hO7 => ⟨_, _, _, rfl, ?_⟩
    rw [bl_xor] at hO7
    have fin : ∀ w6 p6 c6 z, Fr [] w3 w6 → Row w6 p6 ((bl 16 z).map vb) → (fun j => gunsign (arows 3 z j)) = decR A (fl ys) (n + 1) →
        ref03_Decrypt_j1 I μ [.slice none 0 0, .slice pt 256 256, .slice pk 11 ck, .slice p8 16 c8, .int .i64 ((10 - n : Nat) : Int)] w3 none 0 0 pt 256 256 pk 11 ck p6 16 c6 ((10 - n : Nat) : Int) w6 K := by
      intro w6 p6 c6 z f36 hO6 hz
      unfold ref03_Decrypt_j1
      refine ref_rows_c (m := 3) hO6 (by rw [bl_len]) (bl_len _ _) (by omega) fun p9 w9 f9 hO9 => ⟨_, _, _, rfl, ?_⟩
      rw [bl_rows] at hO9
      have f19 := (f3.then f36).then f9
      refine ref_back_c ((hT.row.fr0 f1).fr0 f19) rfl fun pu wu fu hU => ⟨_, _, _, rfl, ?_⟩
      refine ref_subs_c (hO9.row.fr0 fu) (by rw [bl_len]) hU.row (bl_len _ _).symm rfl (by omega) fun p10 c10 w10 f10 hO10 => ⟨_, _, _, rfl, ?_⟩
      have e4 : (bl 16 (arows 3 z)).map (fun a => fl utblL a.toNat) = bl 16 (decR A (fl ys) (n + 1)) := by
        rw [bl_map, ← hz]
        exact bl_congr fun j _ => utblL_at _
      rw [e4] at hO10
      rw [wrap64 (by omega) (by omega)]
      refine hgo _ _ _ (k - 1) (by omega) ⟨n + 1, p10, c10, by omega, ?_, (f19.then fu).then f10, hO10.row⟩
      have : ((10 - n : Nat) : Int) - 1 = ((10 - (n + 1) : Nat) : Int) := by omega
      rw [this]
    refine cond_d (fun h3 => ?_) (fun h3 => ?_)
    · have hr9 : 10 - n < 10 := by omega
      refine ref_columns_c (f := fD) hO7.row (by rw [bl_len]) (bl_len _ _) fun p6 w6 f6 hO6 => ⟨_, _, _, rfl, ?_⟩
      rw [bl_cols] at hO6
      refine fin w6 p6 16 _ (f7.then f6) hO6.row ?_
      rw [decR_succ, ← hy, if_pos hr9]
    · have hr9 : ¬ 10 - n < 10 := by omega
      refine fin w7 p7 c7 _ f7 hO7.row ?_
      rw [decR_succ, ← hy, if_neg hr9]
  · have hr10 : n = 10 := by omega
    subst hr10
    unfold ref03_Decrypt_j2
    obtain ⟨b, qb, db, hb, ldb, hrb⟩ := rows_ld (hKB.fr0 f3) (c := ck) (l := 11) (i := 0) (by rw [keysL_len]) (by omega) (keysL_at A (by omega)) (k := .i64)
    refine ⟨b, hb, _, _, _, ldb, ?_⟩
    refine ref_add_c hR3 (by rw [bl_len]) hrb rfl (by rw [bl_len]; exact Nat.le_refl _) (by omega) fun p7 c7 w7 f7 hO7 => ⟨_, _, _, rfl, ?_⟩
    rw [bl_xor] at hO7
    exact h p7 c7 w7 ((f01.then f3).then f7) (hO7.mono (by omega))
end Go.Sh
end

section
namespace Go.Sh
open Go Go.Fw Go.Proofs
set_option maxRecDepth 100000
set_option linter.unusedVariables false
theorem OB.part {w : World} {p : Option Addr} {l c : Nat} {xs : List UInt8} {lo : Nat} (h : OB w p l c xs lo) {a b : Nat} (h1 : a ≤ b) (h2 : b ≤ l) : OB w (Go.Fw.partAt p c a 1) (b - a) (c - a) ((xs.take b).drop a) lo := by
  have := h.1.part h1 h2
  rw [← List.map_take, ← List.map_drop] at this
  have hl := h.2.1
  exact ⟨this, by simp; omega, fun k hk => h.2.2 k (partAt_blks k hk)⟩
end Go.Sh
end

section
namespace Go.Sh
open Go Go.Fw Go.Proofs
set_option maxRecDepth 100000
set_option linter.unusedVariables false
theorem rowKeep {w w' : World} {p : Option Addr} {xs : List UInt8} {L : List Nat} (h : Row w p (xs.map vb)) (hf : Fr L w w') (hn : 0 < xs.length → ∀ z ∈ blks p, z ∉ L) : Row w' p (xs.map vb) := by
  by_cases hx : xs.length = 0
  · have : xs = [] := List.length_eq_zero_iff.1 hx
    subst this; exact Row.nil _ _
  · exact Row.cells_fr h hf (hn (by omega))
def RdAt (w : World) (b : Nat) (err : Int) (rest : List UInt8) : Prop :=
  ∃ f p c, Blk w b 2 f ∧ f 0 = .int .i64 err ∧ f 1 = .slice p rest.length c ∧ rest.length ≤ c ∧ Row w p (rest.map vb) ∧ (0 < rest.length → ∀ z ∈ blks p, z < b)
theorem RdAt.lt {w : World} {b : Nat} {err : Int} {rest : List UInt8} (h : RdAt w b err rest) : b < w.heap.size := by obtain ⟨f, p, c, hB, _⟩ := h; exact hB.lt
theorem RdAt.fr {w w' : World} {b : Nat} {err : Int} {rest : List UInt8} {L : List Nat} (h : RdAt w b err rest) (hf : Fr L w w') (hL : ∀ z ∈ L, b < z) : RdAt w' b err rest := by
  obtain ⟨f, p, c, hB, h0, h1, hc, hR, hn⟩ := h
  exact ⟨f, p, c, hB.fr hf (fun hb => by have := hL b hb; omega), h0, h1, hc, rowKeep hR hf (fun h0 z hz hz' => by have := hL z hz'; have := hn h0 z hz; omega), hn⟩
theorem RdAt.fr0 {w w' : World} {b : Nat} {err : Int} {rest : List UInt8} (h : RdAt w b err rest) (hf : Fr [] w w') : RdAt w' b err rest := h.fr hf (by simp)
section
variable {w : World} {b : Nat} {err : Int} {rest : List UInt8}
end
end Go.Sh
end

section
namespace Go.Sh
open Go Go.Fw Go.Proofs
set_option maxRecDepth 100000
set_option linter.unusedVariables false
def FrA (b : Nat) (w w' : World) : Prop := ∃ L, (∀ z ∈ L, b ≤ z) ∧ Fr L w w'
theorem FrA.refl (b : Nat) (w : World) : FrA b w w := ⟨[], by simp, Fr.refl _ _⟩
theorem FrA.of {b : Nat} {w w' : World} {L : List Nat} (f : Fr L w w') (h : ∀ z ∈ L, b ≤ z) : FrA b w w' := ⟨L, h, f⟩
theorem FrA.of0 {b : Nat} {w w' : World} (f : Fr [] w w') : FrA b w w' := ⟨[], by simp, f⟩
theorem FrA.trans {b : Nat} {w w1 w2 : World} (h : FrA b w w1) (k : FrA b w1 w2) : FrA b w w2 := by
  obtain ⟨L, h1, h2⟩ := h
  obtain ⟨M, k1, k2⟩ := k
  exact ⟨L ++ M, fun z hz => by rcases List.mem_append.1 hz with hz | hz; exact h1 z hz; exact k1 z hz, (h2.mono (fun z hz => List.mem_append_left _ hz)).trans k2 (fun z hz => .inl (List.mem_append_right _ hz))⟩
theorem FrA.size {b : Nat} {w w' : World} (h : FrA b w w') : w.heap.size ≤ w'.heap.size := by obtain ⟨L, _, h2⟩ := h; exact h2.size
theorem FrA.news {b : Nat} {w0 w w' : World} (h : FrA b w w') (f : Fr [] w0 w) (hb : w0.heap.size ≤ b) : Fr [] w0 w' := by
  obtain ⟨L, h1, h2⟩ := h
  exact f.trans h2 fun z hz => .inr (by have := h1 z hz; omega)
theorem FrA.mono {b b' : Nat} {w w' : World} (h : FrA b w w') (hb : b' ≤ b) : FrA b' w w' := by
  obtain ⟨L, h1, h2⟩ := h
  exact ⟨L, fun z hz => by have := h1 z hz; omega, h2⟩
theorem FrA.row {b : Nat} {w w' : World} {p : Option Addr} {xs : List UInt8} (h : FrA b w w') (hR : Row w p (xs.map vb)) (hp : 0 < xs.length → ∀ z ∈ blks p, z < b) : Row w' p (xs.map vb) := by
  obtain ⟨L, h1, h2⟩ := h
  exact rowKeep hR h2 fun h0 z hz hm => by have := h1 z hm; have := hp h0 z hz; omega
theorem FrA.blk {b k n : Nat} {w w' : World} {f : Nat → Value} (h : FrA b w w') (hB : Blk w k n f) (hk : k < b) : Blk w' k n f := by
  obtain ⟨L, h1, h2⟩ := h
  exact hB.fr h2 fun hm => by have := h1 k hm; omega
theorem rowLt {w : World} {p : Option Addr} {xs : List UInt8} {b : Nat} (hR : Row w p (xs.map vb)) (hb : w.heap.size ≤ b) : 0 < xs.length → ∀ z ∈ blks p, z < b := fun h0 z hz => by
  have := Row.blk_lt hR h0 _ hz; omega
def WrAt (w : World) (b : Nat) (xs : List UInt8) : Prop :=
  ∃ f p c, Blk w b 2 f ∧ f 0 = .int .i64 0 ∧ f 1 = .slice p xs.length c ∧ OB w p xs.length c xs (b + 1)
section
variable {w : World} {b : Nat} {xs : List UInt8} {K : Value → World → Prop}
theorem WrAt.fr {w' : World} {L : List Nat} (h : WrAt w b xs) (hf : Fr L w w') (hL : ∀ z ∈ L, z < b) : WrAt w' b xs := by
  obtain ⟨f, p, c, hB, h0, h1, hO⟩ := h
  exact ⟨f, p, c, hB.fr hf (fun hb => by have := hL b hb; omega), h0, h1, hO.fr hf fun z hz hm => by have := hO.2.2 z hz; have := hL z hm; omega⟩
theorem WrAt.fr0 {w' : World} (h : WrAt w b xs) (hf : Fr [] w w') : WrAt w' b xs := h.fr hf (by simp)
end
section
variable {w : World} {b : Nat} {err : Int} {rest : List UInt8} {K : Value → World → Prop}
end
end Go.Sh
end

section
namespace Go.Sh
open Go Go.Fw Go.Proofs
set_option maxRecDepth 100000
set_option linter.unusedVariables false
def CAt (w : World) (k : Nat) (cs : List Value) : Prop := ∃ g, Blk w k cs.length g ∧ ∀ j v, cs[j]? = some v → g j = v
section
variable {w : World} {k : Nat} {cs : List Value} {t : TypeId}
theorem CAt.lt (h : CAt w k cs) : k < w.heap.size := by obtain ⟨g, hB, _⟩ := h; exact hB.lt
theorem CAt.fr {w' : World} {L : List Nat} (h : CAt w k cs) (hf : Fr L w w') (hk : k ∉ L) : CAt w' k cs := by obtain ⟨g, hB, hv⟩ := h; exact ⟨g, hB.fr hf hk, hv⟩
theorem CAt.fr0 {w' : World} (h : CAt w k cs) (hf : Fr [] w w') : CAt w' k cs := h.fr hf (by simp)
theorem CAt.ld (h : CAt w k cs) (ht : res Tryz.prog (isAgg t) = some true) (hs : res Tryz.prog (sizeOf t) = some cs.length) : Ld Tryz.prog t (.pointer (some ⟨k, 0, none⟩)) w (.agg ⟨cs⟩) := by
  obtain ⟨g, hB, hv⟩ := h
  exact LdA (m := cs.length) ht hs hB (o := 0) (by omega) cs rfl fun j v hj => by rw [Nat.zero_add]; exact hv j v hj
theorem CAt.ld0 {ds rs : List Value} (h : CAt w k cs) (he : cs = ds ++ rs) (ht : res Tryz.prog (isAgg t) = some true) (hs : res Tryz.prog (sizeOf t) = some ds.length) : Ld Tryz.prog t (.pointer (some ((⟨k, 0, none⟩ : Addr).add 0))) w (.agg ⟨ds⟩) := by
  obtain ⟨g, hB, hv⟩ := h
  rw [add_mk]
  refine LdA (m := ds.length) ht hs hB (o := 0) (by rw [he, List.length_append]; omega) ds rfl fun j v hj => ?_
  rw [Nat.zero_add]
  exact hv j v (by rw [he, List.getElem?_append_left (List.getElem?_eq_some_iff.1 hj).1]; exact hj)
theorem CAt.get (h : CAt w k cs) (ht : res Tryz.prog (isAgg t) = some false) {j : Nat} {v : Value} (hj : cs[j]? = some v) : Ld Tryz.prog t (.pointer (some ((⟨k, 0, none⟩ : Addr).add j))) w v := by
  obtain ⟨g, hB, hv⟩ := h
  rw [add_mk]
  exact Ld.blk ht hB (by have := (List.getElem?_eq_some_iff.1 hj).1; omega) (by rw [Nat.zero_add]; exact hv j v hj)
theorem CAt.get0 (h : CAt w k cs) (ht : res Tryz.prog (isAgg t) = some false) {j : Nat} {v : Value} (hj : cs[j]? = some v) : Ld Tryz.prog t (.pointer (some (((⟨k, 0, none⟩ : Addr).add 0).add j))) w v := by
  have : (⟨k, 0, none⟩ : Addr).add 0 = ⟨k, 0, none⟩ := rfl
  rw [this]; exact h.get ht hj
theorem newC {t : TypeId} {K : Nat → World → Prop} (cs : List Value) (h : ∀ w', Fr [] w w' → CAt w' w.heap.size cs → w'.heap.size = w.heap.size + 1 → K w.heap.size w') : New ⟨cs⟩ t w K :=
  New.intro fun w1 f1 hB s1 => h w1 f1 ⟨_, hB, fun j v hj => by
    show Array.getD ⟨cs⟩ j undef = v
    rw [Array.getD_eq_getD_getElem?, List.getElem?_toArray, hj]; rfl⟩ s1
theorem stoC {n : Nat} {g : Nat → Value} (hB : Blk w k n g) (cs : List Value) (hn : cs.length = n) (h1 : cs.all (·.oneCell') = true) (ht : res Tryz.prog (sizeOf t) = some n) {K : World → Prop} (h : ∀ w', Fr [k] w w' → CAt w' k cs → w'.heap.size = w.heap.size → K w') :
    ∃ w', Sto Tryz.prog t (.pointer (some ⟨k, 0, none⟩)) (.agg ⟨cs⟩) w w' ∧ K w' :=
  Sto.agg (m := n) (cs := cs) ht hn hB (by omega) (fun v hv => List.all_eq_true.1 h1 v hv) fun w' hf hB' hs => h w' hf ⟨_, by rw [hn]; exact hB', fun j v hj => by
    obtain ⟨q1, q2⟩ := List.getElem?_eq_some_iff.1 hj
    unfold updN
    rw [dif_pos ⟨by omega, by omega⟩]
    simpa using q2⟩ hs
theorem CAt.blk (h : CAt w k cs) : ∃ g, Blk w k cs.length g := by obtain ⟨g, hB, _⟩ := h; exact ⟨g, hB⟩
theorem CAt.sto (h : CAt w k cs) {j : Nat} (hj : j < cs.length) (v : Value) (hv : v.oneCell' = true) (hc : v.cells = #[v]) (hs : res Tryz.prog (sizeOf t) = some 1) {K : World → Prop} (hk : ∀ w', Fr [k] w w' → CAt w' k (cs.set j v) → w'.heap.size = w.heap.size → K w') :
    ∃ w', Sto Tryz.prog t (.pointer (some ((⟨k, 0, none⟩ : Addr).add j))) v w w' ∧ K w' := by
  obtain ⟨g, hB, hg⟩ := h
  rw [add_mk, Nat.zero_add]
  refine Sto.blk hs hB hj hv hc fun w' f hB' s => hk w' f ⟨_, by rw [List.length_set]; exact hB', fun i u hi => ?_⟩ s
  rw [List.getElem?_set] at hi
  unfold upd
  by_cases hij : j = i
  · subst hij
    rw [if_pos rfl, if_pos hj] at hi
    rw [if_pos rfl]; exact Option.some.inj hi
  · rw [if_neg hij] at hi
    rw [if_neg (fun hh => hij hh.symm)]; exact hg i u hi
theorem putC (cs : List Value) {n : Nat} (hn : cs.length = n) (h1 : cs.all (·.oneCell') = true) (hz : zsB Tryz.prog t n = true) (ht : res Tryz.prog (sizeOf t) = some n) {K : Nat → World → Prop} (h : ∀ w', Fr [] w w' → CAt w' w.heap.size cs → K w.heap.size w') :
    ∃ z, Pu Tryz.prog (zeroValue t) z ∧ New z.cells t w fun k w2 => ∃ w3, Sto Tryz.prog t (.pointer (some ⟨k, 0, none⟩)) (.agg ⟨cs⟩) w2 w3 ∧ K k w3 :=
  newZ (s := n) hz fun w2 g2 f2 hB2 s2 => stoC hB2 cs hn h1 ht fun w3 f3 hC s3 => h w3 (f2.st f3 (Nat.le_refl _)) hC
end
end Go.Sh
end

section
namespace Go.Sh
open Go Go.Fw Go.Proofs
set_option maxRecDepth 100000
set_option linter.unusedVariables false
section
variable {c lo hi : Nat} {key : List UInt8} {d : Int}
def okO (fr to_ : List UInt8) (n pass : Int) : Prop := okB fr n pass ∧ to_.length = fr.length
set_option maxHeartbeats 1000000 in
theorem onto_c {w : World} (hC : Cip w c key d lo hi) (hd0 : 0 ≤ d) (hd : d < 1000000000) (hhi : hi ≤ w.heap.size) {q1 q2 p2 p3 : Option Addr} {a1 b1 a2 b2 l2 c2 l3 c3 : Nat} {fr to_ : List UInt8} (hF : Row w p2 (fr.map vb)) (hl2 : l2 = fr.length) (hc2 : l2 ≤ c2) (hlb : l2 < 1000000)
    (hT : Row w p3 (to_.map vb)) (hl3 : l3 = to_.length) (hp3 : ∀ z ∈ blks p3, hi ≤ z) (n pass : Int) (left : Bool) {K : Value → World → Prop}
    (hbad : ¬ okO fr to_ n pass → ∀ w', Fr [] w w' → K (.tuple #[.slice none 0 0, .int .i64 11]) w')
    (hok : okO fr to_ n pass → ∀ q e w', Fr [c] w w' → Cip w' c key (d + 1) lo hi → OB w' q l3 e (ontoL key fr to_ n.toNat pass.toNat left) w.heap.size → K (.tuple #[.slice q l3 e, .int .i64 0]) w') :
    callF Tryz.prog F_feist_pair_onto #[.agg #[.slice q1 a1 b1, .slice q2 a2 b2, .int .i64 n], .pointer (some ⟨c, 0, none⟩), .slice p2 l2 c2, .slice p3 l3 c3, .int .i64 pass, .bool left] w K := by
  apply feist_pair_onto_call
  unfold feist_pair_onto
  refine New.intro fun w1 f1 hB s1 => ?_
  obtain ⟨f, hB, h2⟩ : ∃ f, Blk w1 w.heap.size 3 f ∧ f 2 = .int .i64 n := ⟨_, hB, rfl⟩
  have e2 : (⟨w.heap.size, 0, none⟩ : Addr).add 2 = ⟨w.heap.size, 2, none⟩ := add_mk _ _ _
  rw [e2]
  refine ⟨_, Ld.blk (by kernel_rfl) hB (by omega) h2, ?_⟩
  have hcl := hC.lt
  refine Block_c (hF.fr0 f1) hl2 hc2 hlb n pass (fun hb w2 f2 => ⟨_, _, _, _, rfl, cond_t (hbad (fun h => hb h.1) w2 (f1.then f2))⟩) fun hb q e w2 f2 hO2 => ⟨_, _, _, _, rfl, cond_f ?_⟩
  have f02 := f1.then f2
  refine cond_ne (fun hne => hbad (fun h => by have := h.2; omega) w2 f02) fun heq => ?_
  have hlen : to_.length = fr.length := by omega
  have hoko : okO fr to_ n pass := ⟨hb, hlen⟩
  obtain ⟨hfit, hp0, hp1⟩ := hb
  obtain ⟨hn2, hn28, hfl⟩ := fit1.1 hfit
  have h14 : hsz n.toNat ≤ 14 := hsz_le (by omega)
  unfold feist_pair_onto_j1
  have hC2 := hC.fr0 f02
  have n1 := f1.size; have n2 := f2.size
  refine encCip_c hC2 hd0 (by omega) hO2.row (by rw [blockL_len _ _ (by omega)]) (blockL_len _ _ (by omega)) (fun z hz => .inr (by have := hO2.2.2 z hz; omega)) fun pa w3 f3 hC3 ha => ⟨_, _, _, _, rfl, ?_⟩
  refine ⟨_, _, _, PuSl (s := 1) (kl := .i64) (kh := .i64) (lo := none) (hi := some (l3 : Int)) (by kernel_rfl) (by show (0 : Int) ≤ 0; omega) (by show (0 : Int) ≤ (l3 : Int); omega) (by show (l3 : Int) ≤ ((16 : Nat) : Int); omega), ?_⟩
  have e3 : (Option.getD (some (l3 : Int)) ((16 : Nat) : Int)).toNat - (Option.getD (none : Option Int) 0).toNat = l3 := by show ((l3 : Int)).toNat - 0 = l3; omega
  rw [e3]
  have hT2 := hT.fr0 f02
  have hT3 : Row w3 p3 (to_.map vb) := Row.cells_fr hT2 f3 (fun z hz => by have := hp3 z hz; simp; omega)
  have htk : ((aencL key (blockL fr n.toNat pass.toNat)).take l3).length = l3 := by rw [hl3]; exact take_len (by omega)
  refine Xor_c (Row.front ha.row 16 l3) htk.symm hT3 hl3 (by rw [htk, hl3]) (by omega) fun pb cb w4 f4 hb4 => ⟨_, _, _, _, rfl, ?_⟩
  have hB4 := ((hB.fr0 f2).fr f3 (by simp; omega)).fr0 f4
  rw [e2]
  refine ⟨_, Ld.blk (by kernel_rfl) hB4 (by omega) h2, ?_⟩
  have hxl : (xorL ((aencL key (blockL fr n.toNat pass.toNat)).take l3) to_).length = l3 := hb4.2.1.symm
  have hfit2 : fitN n [xorL ((aencL key (blockL fr n.toNat pass.toNat)).take l3) to_] := fit1.2 ⟨hn2, hn28, by rw [hxl]; omega⟩
  refine Trim_c hb4.row hb4.2.1 hb4.cap (by omega) n left (fun h => absurd hfit2 h) fun _ qt dt w5 f5 hO5 => ⟨_, _, _, _, rfl, ?_⟩
  have n3 := f3.size; have n4 := f4.size
  have fA : Fr [c] w w5 := ((f02.after f3).then f4).then f5
  refine hok hoko qt dt w5 fA ((hC3.fr0 f4).fr0 f5) ?_
  have := hO5.mono (lo' := w.heap.size) (by omega)
  rw [hl3] at this ⊢
  exact this
def PairAt (w : World) (pb nb : Nat) (n : Int) (s : List UInt8 × List UInt8) : Prop :=
  ∃ f q1 d1 q2 d2, Blk w pb 3 f ∧ f 0 = .slice q1 s.1.length d1 ∧ f 1 = .slice q2 s.2.length d2 ∧ f 2 = .int .i64 n ∧ Row w q1 (s.1.map vb) ∧ s.1.length ≤ d1 ∧ Row w q2 (s.2.map vb) ∧ s.2.length ≤ d2 ∧ (∀ z ∈ blks q1, nb ≤ z ∧ z ≠ pb) ∧ ∀ z ∈ blks q2, nb ≤ z ∧ z ≠ pb
def okP (s : List UInt8 × List UInt8) (n pass : Int) : Prop := if Int.tmod pass 2 = 0 then okO s.2 s.1 n pass else okO s.1 s.2 n pass
set_option maxHeartbeats 1000000 in
theorem pass_c {w : World} (hC : Cip w c key d lo hi) (hd0 : 0 ≤ d) (hd : d < 1000000000) (hhi : hi ≤ w.heap.size) {pb nb : Nat} (hnb : hi ≤ nb) (hpb : hi ≤ pb) {n : Int} {s : List UInt8 × List UInt8} (hP : PairAt w pb nb n s) (hs1 : s.1.length < 1000000) (hs2 : s.2.length < 1000000) (hnw : nb ≤ w.heap.size) (pass : Int) {K : Value → World → Prop}
    (hbad : ¬ okP s n pass → ∀ w', Fr [pb] w w' → K (.int .i64 11) w')
    (hok : okP s n pass → ∀ w', Fr [c, pb] w w' → Cip w' c key (d + 1) lo hi → PairAt w' pb nb n (passL key n.toNat pass.toNat s) → K (.int .i64 0) w') :
    callF Tryz.prog F_feist_pair_pass #[.pointer (some ⟨pb, 0, none⟩), .pointer (some ⟨c, 0, none⟩), .int .i64 pass] w K := by
  apply feist_pair_pass_call
  unfold feist_pair_pass
  obtain ⟨f, q1, d1, q2, d2, hB, g0, g1, g2, hR1, hc1, hR2, hc2, hb1, hb2⟩ := hP
  have hcl := hC.lt
  have hpbw := hB.lt
  have a0 : (⟨pb, 0, none⟩ : Addr).add 0 = ⟨pb, 0, none⟩ := rfl
  have a1 : (⟨pb, 0, none⟩ : Addr).add 1 = ⟨pb, 1, none⟩ := add_mk _ _ _
  have ldP : ∀ {w'}, Fr [] w w' → Ld Tryz.prog T_feist_pair (.pointer (some ⟨pb, 0, none⟩)) w' (.agg #[.slice q1 s.1.length d1, .slice q2 s.2.length d2, .int .i64 n]) := fun {w'} hf =>
    LdA (m := 3) (by kernel_rfl) (by kernel_rfl) (hB.fr0 hf) (Nat.le_refl 3) [.slice q1 s.1.length d1, .slice q2 s.2.length d2, .int .i64 n] rfl (fun j v hj => by
      match j, hj with
      | 0, hj => rw [Nat.zero_add, g0]; simpa using hj
      | 1, hj => show f (0 + 1) = v; rw [Nat.zero_add, g1]; simpa using hj
      | 2, hj => show f (0 + 2) = v; rw [Nat.zero_add, g2]; simpa using hj)
  have okpass : okP s n pass → 0 ≤ pass := fun h => by unfold okP okO okB at h; split at h <;> omega
  refine cond_eq (fun hev => ?_) (fun hod => ?_)
  · have okE : okP s n pass ↔ okO s.2 s.1 n pass := by unfold okP; rw [if_pos hev]
    refine ⟨fun w' => Fr [] w w', Drw.intro fun w1 f1 s1 => ?_⟩
    refine ⟨_, rfl, _, rfl, _, rfl, _, _, _, _, _, _, _, ⟨f1, fun w' hw' => ldP hw'⟩, _, _, _, ⟨f1, fun w' hw' => by rw [a1]; exact Ld.blk (by kernel_rfl) (hB.fr0 hw') (by omega) g1⟩, _, _, _, by rw [a0]; exact Ld.blk (by kernel_rfl) (hB.fr0 f1) (by omega) g0, .inl rfl, ?_⟩
    have hB1 := hB.fr0 f1
    have n1 := f1.size
    refine onto_c (hC.fr0 f1) hd0 hd (by omega) (hR2.fr0 f1) rfl hc2 hs2 (hR1.fr0 f1) rfl (fun z hz => by have := hb1 z hz; omega) n pass true (fun hb w2 f2 => ⟨_, _, _, _, rfl, _, rfl, ?_⟩) fun hO q e w2 f2 hC2 hq => ⟨_, _, _, _, rfl, _, rfl, ?_⟩
    · rw [a0]
      refine Sto.blk (by kernel_rfl) (hB1.fr0 f2) (by omega) rfl rfl fun w3 f3 hB3 s3 => ?_
      exact hbad (fun h => hb (okE.1 h)) w3 ((f1.then f2).after f3)
    · rw [a0]
      refine Sto.blk (by kernel_rfl) (hB1.fr f2 (by simp; omega)) (by omega) rfl rfl fun w3 f3 hB3 s3 => ?_
      have fA : Fr [c, pb] w w3 := ((f1.mono (by simp)).trans f2 (fun z hz => .inl (by simp at hz; simp [hz]))).trans f3 (fun z hz => .inl (by simp at hz; simp [hz]))
      have hlen : (ontoL key s.2 s.1 n.toNat pass.toNat true).length = s.1.length := hq.2.1.symm
      have hpe : pass.toNat % 2 = 0 := by
        have := okpass (okE.2 hO)
        obtain ⟨p, rfl⟩ := Int.eq_ofNat_of_zero_le this
        have e : Int.tmod (p : Int) 2 = ((p % 2 : Nat) : Int) := rfl
        rw [e] at hev
        rw [Int.toNat_natCast]; omega
      have hqn : ∀ z ∈ blks q, z ≠ pb := fun z hz => by have := hq.2.2 z hz; omega
      refine hok (okE.2 hO) w3 fA (hC2.fr f3 (fun z hz => .inr (by simp at hz; omega))) ?_
      have ep : passL key n.toNat pass.toNat s = (ontoL key s.2 s.1 n.toNat pass.toNat true, s.2) := by unfold passL; rw [if_pos hpe]
      rw [ep]
      refine ⟨_, q, e, q2, d2, hB3, by rw [upd_same, hlen], by rw [upd_ne _ _ _ (by omega)]; exact g1, by rw [upd_ne _ _ _ (by omega)]; exact g2, Row.cells_fr hq.row f3 (fun z hz => by simp; exact hqn z hz), by rw [hlen]; exact hq.cap,
        Row.cells_fr (Row.cells_fr (hR2.fr0 f1) f2 (fun z hz => by have := hb2 z hz; simp; omega)) f3 (fun z hz => by simp; exact (hb2 z hz).2), hc2, fun z hz => ⟨by have := hq.2.2 z hz; omega, hqn z hz⟩, hb2⟩
  · have okE : okP s n pass ↔ okO s.1 s.2 n pass := by unfold okP; rw [if_neg hod]
    refine ⟨fun w' => Fr [] w w', Drw.intro fun w1 f1 s1 => ?_⟩
    refine ⟨_, rfl, _, rfl, _, rfl, _, _, _, _, _, _, _, ⟨f1, fun w' hw' => ldP hw'⟩, _, _, _, ⟨f1, fun w' hw' => by rw [a0]; exact Ld.blk (by kernel_rfl) (hB.fr0 hw') (by omega) g0⟩, _, _, _, by rw [a1]; exact Ld.blk (by kernel_rfl) (hB.fr0 f1) (by omega) g1, .inl rfl, ?_⟩
    have hB1 := hB.fr0 f1
    have n1 := f1.size
    refine onto_c (hC.fr0 f1) hd0 hd (by omega) (hR1.fr0 f1) rfl hc1 hs1 (hR2.fr0 f1) rfl (fun z hz => by have := hb2 z hz; omega) n pass false (fun hb w2 f2 => ⟨_, _, _, _, rfl, _, rfl, ?_⟩) fun hO q e w2 f2 hC2 hq => ⟨_, _, _, _, rfl, _, rfl, ?_⟩
    · rw [a1]
      refine Sto.blk (by kernel_rfl) (hB1.fr0 f2) (by omega) rfl rfl fun w3 f3 hB3 s3 => ?_
      exact hbad (fun h => hb (okE.1 h)) w3 ((f1.then f2).after f3)
    · rw [a1]
      refine Sto.blk (by kernel_rfl) (hB1.fr f2 (by simp; omega)) (by omega) rfl rfl fun w3 f3 hB3 s3 => ?_
      have fA : Fr [c, pb] w w3 := ((f1.mono (by simp)).trans f2 (fun z hz => .inl (by simp at hz; simp [hz]))).trans f3 (fun z hz => .inl (by simp at hz; simp [hz]))
      have hlen : (ontoL key s.1 s.2 n.toNat pass.toNat false).length = s.2.length := hq.2.1.symm
      have hpe : ¬ pass.toNat % 2 = 0 := by
        have := okpass (okE.2 hO)
        obtain ⟨p, rfl⟩ := Int.eq_ofNat_of_zero_le this
        have e : Int.tmod (p : Int) 2 = ((p % 2 : Nat) : Int) := rfl
        rw [e] at hod
        rw [Int.toNat_natCast]; omega
      have hqn : ∀ z ∈ blks q, z ≠ pb := fun z hz => by have := hq.2.2 z hz; omega
      refine hok (okE.2 hO) w3 fA (hC2.fr f3 (fun z hz => .inr (by simp at hz; omega))) ?_
      have ep : passL key n.toNat pass.toNat s = (s.1, ontoL key s.1 s.2 n.toNat pass.toNat false) := by unfold passL; rw [if_neg hpe]
      rw [ep]
      refine ⟨_, q1, d1, q, e, hB3, by rw [upd_ne _ _ _ (by omega)]; exact g0, by rw [upd_same, hlen], by rw [upd_ne _ _ _ (by omega)]; exact g2, Row.cells_fr (Row.cells_fr (hR1.fr0 f1) f2 (fun z hz => by have := hb1 z hz; simp; omega)) f3 (fun z hz => by simp; exact (hb1 z hz).2), hc1,
        Row.cells_fr hq.row f3 (fun z hz => by simp; exact hqn z hz), by rw [hlen]; exact hq.cap, hb1, fun z hz => ⟨by have := hq.2.2 z hz; omega, hqn z hz⟩⟩
end
end Go.Sh
end

section
namespace Go.Sh
open Go Go.Fw Go.Proofs
abbrev vi (n : Int) : Value := .int .i64 n
end Go.Sh
end

section
namespace Go.Sh
open Go Go.Fw Go.Proofs
set_option maxRecDepth 100000
set_option linter.unusedVariables false
section
variable {c lo hi : Nat} {key : List UInt8} {d : Int}
theorem okP_good {s : List UInt8 × List UInt8} {n : Nat} (h2 : 2 ≤ n) (h28 : n ≤ 28) (hg : goodP n s) (p : Int) : okP s (n : Int) p ↔ (0 ≤ p ∧ p ≤ 255) := by
  have l1 := hg.1.1
  have l2 := hg.2.1
  have fit : ∀ xs : List UInt8, xs.length = hsz n → fitN (n : Int) [xs] := fun xs hx => fit1.2 ⟨by omega, by omega, by rw [Int.toNat_natCast]; exact hx⟩
  unfold okP okO okB
  split
  · exact ⟨fun h => h.1.2, fun h => ⟨⟨fit _ l2, h⟩, by rw [l1, l2]⟩⟩
  · exact ⟨fun h => h.1.2, fun h => ⟨⟨fit _ l1, h⟩, by rw [l1, l2]⟩⟩
theorem okJ_good {s : List UInt8 × List UInt8} {n : Nat} (h2 : 2 ≤ n) (hg : goodP n s) : okJ s.1 s.2 n := by
  unfold okJ
  by_cases he : n % 2 = 0
  · exact .inl he
  · right
    obtain ⟨⟨l1, g1⟩, l2, g2⟩ := hg
    have hs : 0 < hsz n := by unfold hsz; omega
    have c1 : ∀ x : UInt8, x &&& 240 &&& 15 = 0 := fun x => by
      have := all8 (p := fun x => x &&& 240 &&& 15 == 0) (by kernel_rfl) x
      simpa using this
    have c0 : ∀ x : UInt8, x &&& 15 &&& 240 = 0 := fun x => by
      have := all8 (p := fun x => x &&& 15 &&& 240 == 0) (by kernel_rfl) x
      simpa using this
    constructor
    · have := trimL_fl (xs := s.1) (n := n) (left := true) (j := s.1.length - 1) (by omega)
      rw [g1, msk_L he, if_pos (by omega)] at this
      rw [this, c1]
    · have := trimL_fl (xs := s.2) (n := n) (left := false) (j := 0) (by omega)
      rw [g2, msk_R he, if_pos rfl] at this
      rw [this, c0]
set_option maxHeartbeats 1000000 in
theorem Passes_c {w : World} (hC : Cip w c key d lo hi) (hd0 : 0 ≤ d) (hd : d < 100000000) (hhi : hi ≤ w.heap.size) {p1 p2 : Option Addr} {l1 c1 l2 c2 : Nat} {xs : List UInt8} {ps : List Int} (hX : Row w p1 (xs.map vb)) (hl1 : l1 = xs.length) (hc1 : l1 ≤ c1) (hb1 : l1 < 1000000) (hS : Row w p2 (ps.map vi)) (hl2 : l2 = ps.length) (hb2 : l2 < 1000000) (hp2 : 0 < ps.length → c ∉ blks p2) {K : Value → World → Prop}
    (hbad : ¬ (2 ≤ l1 ∧ l1 ≤ 28 ∧ ∀ p ∈ ps, 0 ≤ p ∧ p ≤ 255) → ∀ d' w', Fr [c] w w' → Cip w' c key d' lo hi → d ≤ d' → d' ≤ d + ps.length → K (.tuple #[.slice none 0 0, .int .i64 11]) w')
    (hok : (2 ≤ l1 ∧ l1 ≤ 28 ∧ ∀ p ∈ ps, 0 ≤ p ∧ p ≤ 255) → ∀ q e w', Fr [c] w w' → Cip w' c key (d + ps.length) lo hi → OB w' q l1 e (passesL key xs (ps.map Int.toNat)) w.heap.size → K (.tuple #[.slice q l1 e, .int .i64 0]) w') :
    callF Tryz.prog F_feist_Passes #[.pointer (some ⟨c, 0, none⟩), .slice p1 l1 c1, .slice p2 l2 c2] w K := by
  apply feist_Passes_call
  unfold feist_Passes
  have hcl := hC.lt
  refine Cut_c hX hl1 hc1 hb1 (fun hb w1 f1 => ⟨_, _, _, _, _, _, _, rfl, cond_t (hbad (fun h => hb ⟨h.1, h.2.1⟩) d w1 (f1.mono (by simp)) (hC.fr0 f1) (by omega) (by omega))⟩) fun hl q1 d1 q2 d2 w0 w1 f0 f1 hO1 hO2 hlt1 => ⟨_, _, _, _, _, _, _, rfl, cond_f ?_⟩
  obtain ⟨h2, h28⟩ := hl
  have hg := cutL_good xs
  rw [← hl1] at hg
  refine newZ (s := 3) (by kernel_rfl) fun w2 g2 f2 hB2 s2 => ?_
  refine Sto.agg (m := 3) (cs := [.slice q1 (hsz l1) d1, .slice q2 (hsz l1) d2, .int .i64 (l1 : Int)]) (by kernel_rfl) rfl hB2 (Nat.le_refl 3) (by simp [Value.oneCell']) fun w3 f3 hB3 s3 => ?_
  have m0 := f0.size; have m1 := f1.size; have m2 := f2.size
  have f01 := f0.then f1
  have f03 : Fr [] w w3 := (f01.then f2).trans f3 (fun z hz => .inr (by simp at hz; omega))
  have k1 : (cutL xs).1.length = hsz l1 := by rw [hl1]; exact cutL_len.1
  have k2 : (cutL xs).2.length = hsz l1 := by rw [hl1]; exact cutL_len.2
  have hq1 : ∀ z ∈ blks q1, w.heap.size ≤ z ∧ z ≠ w1.heap.size := fun z hz => ⟨hO1.2.2 z hz, by have := hO1.lt z hz; omega⟩
  have hq2 : ∀ z ∈ blks q2, w.heap.size ≤ z ∧ z ≠ w1.heap.size := fun z hz => ⟨by have := hO2.2.2 z hz; omega, by have := hO2.lt z hz; omega⟩
  have hP : PairAt w3 w1.heap.size w.heap.size (l1 : Int) (cutL xs) := by
    refine ⟨_, q1, d1, q2, d2, hB3, ?_, ?_, ?_, Row.cells_fr (hO1.row.fr0 f2) f3 (fun z hz => by simp; exact (hq1 z hz).2), by rw [k1]; exact hO1.cap, Row.cells_fr (hO2.row.fr0 f2) f3 (fun z hz => by simp; exact (hq2 z hz).2), by rw [k2]; exact hO2.cap, hq1, hq2⟩
    · rw [k1]; rfl
    · rw [k2]; rfl
    · rfl
  refine LoopS.ind (fun k us w' => ∃ i : Nat, i + k = l2 ∧ us = [.pointer (some ⟨c, 0, none⟩), .slice none 0 0, .int .i64 0, .pointer (some ⟨w1.heap.size, 0, none⟩), .slice p2 l2 c2, .int .i64 (l2 : Int), .int .i64 (i : Int)] ∧ Fr [c] w w' ∧ w3.heap.size ≤ w'.heap.size ∧ Cip w' c key (d + i) lo hi ∧
      PairAt w' w1.heap.size w.heap.size (l1 : Int) (runL key l1 ((ps.take i).map Int.toNat) (cutL xs)) ∧ ∀ j, j < i → 0 ≤ ps.getD j 0 ∧ ps.getD j 0 ≤ 255) l2
    ⟨0, by omega, rfl, f03.mono (by simp), Nat.le_refl _, by simpa using hC.fr0 f03, by simpa [runL] using hP, by omega⟩ ?_
  rintro k us rr w4 I μ hgo ⟨i, hi', rfl, f4, k4, hC4, hP4, hps⟩
  have hgi : goodP l1 (runL key l1 ((ps.take i).map Int.toNat) (cutL xs)) := runL_good h28 _ hg
  refine ⟨_, _, _, _, _, _, _, _, _, _, _, rfl, cond_d (fun h3 => ?_) (fun h3 => ?_)⟩
  · have hil : i < l2 := by omega
    have hS4 : Row w4 p2 (ps.map vi) := by
      refine Row.cells_fr hS f4 (fun z hz => ?_)
      simp only [List.mem_singleton]
      rintro rfl
      exact hp2 (by omega) hz
    obtain ⟨a, ha, hca⟩ := ixR (P := Tryz.prog) (t := T_S_int) (by kernel_rfl) hS4 (cap := c2) (k := .i64) (i := (i : Int)) (len := l2) (by simpa using hl2) (by omega) (by omega) (v := vi (ps.getD i 0)) (by
      rw [Int.toNat_natCast, List.getElem?_map, List.getElem?_eq_getElem (by omega), List.getD_eq_getElem?_getD, List.getElem?_eq_getElem (by omega)]; rfl)
    refine ⟨a, ha, _, Ld.cell (by kernel_rfl) hca, ?_⟩
    have l1' := hgi.1.1
    have l2' := hgi.2.1
    have hsl := hsz_le h28
    have hin : ps.getD i 0 ∈ ps := by rw [List.getD_eq_getElem?_getD, List.getElem?_eq_getElem (by omega)]; simp
    refine pass_c hC4 (by omega) (by omega) (by omega) (Nat.le_trans hhi (Nat.le_refl _)) (by omega) hP4 (by omega) (by omega) (by omega) (ps.getD i 0) (fun hb w5 f5 => ⟨_, rfl, cond_t ?_⟩) fun hO w5 f5 hC5 hP5 => ⟨_, rfl, cond_f ?_⟩
    · refine hbad (fun h => hb ((okP_good h2 h28 hgi _).2 (h.2.2 _ hin))) (d + i) w5 (f4.trans f5 (fun z hz => .inr (by simp at hz; omega))) (hC4.fr f5 (fun z hz => .inr (by simp at hz; omega))) (by omega) (by omega)
    · have hp := (okP_good h2 h28 hgi _).1 hO
      rw [wrap64 (by omega) (by omega)]
      refine hgo _ _ _ (k - 1) (by omega) ⟨i + 1, by omega, rfl, f4.trans f5 (fun z hz => by simp at hz; rcases hz with rfl | rfl; exact .inl (by simp); exact .inr (by omega)), by have := f5.size; omega, ?_, ?_, fun j hj => ?_⟩
      · have : d + ((i + 1 : Nat) : Int) = d + (i : Int) + 1 := by omega
        rw [this]; exact hC5
      · have e : (ps.take (i + 1)).map Int.toNat = (ps.take i).map Int.toNat ++ [(ps.getD i 0).toNat] := by
          rw [List.take_add_one, List.getElem?_eq_getElem (by omega), List.map_append, List.getD_eq_getElem?_getD, List.getElem?_eq_getElem (by omega)]; rfl
        rw [e, runL_snoc]
        rw [Int.toNat_natCast] at hP5
        exact hP5
      · by_cases hji : j = i
        · subst hji; exact hp
        · exact hps j (by omega)
  · have hil : i = l2 := by omega
    subst hil
    rw [List.take_of_length_le (by omega)] at hP4 hgi
    unfold feist_Passes_j1
    obtain ⟨f, r1, e1, r2, e2, hB4, g0, g1, g2', hR1, hcc1, hR2, hcc2, hb1', hb2'⟩ := hP4
    have a2 : (⟨w1.heap.size, 0, none⟩ : Addr).add 2 = ⟨w1.heap.size, 2, none⟩ := add_mk _ _ _
    have a1 : (⟨w1.heap.size, 0, none⟩ : Addr).add 1 = ⟨w1.heap.size, 1, none⟩ := add_mk _ _ _
    have a0 : (⟨w1.heap.size, 0, none⟩ : Addr).add 0 = ⟨w1.heap.size, 0, none⟩ := rfl
    rw [a0, a1, a2]
    have l1' := hgi.1.1
    have l2' := hgi.2.1
    have hsl := hsz_le h28
    refine ⟨_, _, _, Ld.blk (by kernel_rfl) hB4 (by omega) g0, _, _, _, Ld.blk (by kernel_rfl) hB4 (by omega) g1, _, Ld.blk (by kernel_rfl) hB4 (by omega) g2', ?_⟩
    have hall : ∀ p ∈ ps, 0 ≤ p ∧ p ≤ 255 := fun p hp => by
      obtain ⟨j, hj, rfl⟩ := List.getElem_of_mem hp
      have := hps j (by omega)
      rwa [List.getD_eq_getElem?_getD, List.getElem?_eq_getElem hj] at this
    have hfit : fitN (l1 : Int) [(runL key l1 (ps.map Int.toNat) (cutL xs)).1, (runL key l1 (ps.map Int.toNat) (cutL xs)).2] := fit2.2 ⟨by omega, by omega, by rw [Int.toNat_natCast]; exact l1', by rw [Int.toNat_natCast]; exact l2'⟩
    refine halvesJoin_c hR1 rfl hcc1 (by omega) hR2 rfl hcc2 (by omega) (l1 : Int) (fun h => absurd hfit h) (fun _ h => absurd (by rw [Int.toNat_natCast]; exact okJ_good h2 hgi) h) fun _ _ po co w5 f5 hO5 => ⟨_, _, _, _, rfl, ?_⟩
    rw [Int.toNat_natCast] at hO5 ⊢
    refine hok ⟨h2, h28, hall⟩ po co w5 (f4.then f5) ?_ ?_
    · rw [← hl2]; exact hC4.fr0 f5
    · unfold passesL
      rw [← hl1]
      exact hO5.mono (by omega)
def okT (l : Nat) : Prop := 2 ≤ l ∧ l ≤ 28
theorem Mix_c {w : World} (hC : Cip w c key d lo hi) (hd0 : 0 ≤ d) (hd : d < 100000000) (hhi : hi ≤ w.heap.size) {p1 : Option Addr} {l1 c1 : Nat} {xs : List UInt8} (hX : Row w p1 (xs.map vb)) (hl1 : l1 = xs.length) (hc1 : l1 ≤ c1) (hb1 : l1 < 1000000) {K : Value → World → Prop}
    (hbad : ¬ okT l1 → ∀ d' w', Fr [c] w w' → Cip w' c key d' lo hi → d ≤ d' → d' ≤ d + 4 → K (.tuple #[.slice none 0 0, .int .i64 11]) w')
    (hok : okT l1 → ∀ q e w', Fr [c] w w' → Cip w' c key (d + 4) lo hi → OB w' q l1 e (passesL key xs [1, 2, 3, 4]) w.heap.size → K (.tuple #[.slice q l1 e, .int .i64 0]) w') :
    callF Tryz.prog F_feist_Mix #[.pointer (some ⟨c, 0, none⟩), .slice p1 l1 c1] w K := by
  apply feist_Mix_call
  unfold feist_Mix
  refine ⟨_, _, _, Ef.new (v := .slice (some ⟨w.heap.size, 0, none⟩) 4 4) (cs := (([1, 2, 3, 4] : List Int).map vi).toArray) (e := T_int) (by kernel_rfl) fun w1 f1 hB1 s1 => ?_⟩
  have hcl := hC.lt
  have m1 := f1.size
  refine Passes_c (l2 := 4) (c2 := 4) (ps := [1, 2, 3, 4]) (hC.fr0 f1) hd0 hd (by omega) (hX.fr0 f1) hl1 hc1 hb1 hB1.rowL rfl (by omega) (fun _ => by simp [blks]; omega) (fun hb d' w2 f2 hC2 h1 h2 => ⟨_, _, _, _, rfl, ?_⟩) fun hO q e w2 f2 hC2 hq => ⟨_, _, _, _, rfl, ?_⟩
  · exact hbad (fun h => hb ⟨h.1, h.2, by decide⟩) d' w2 (f1.after f2) hC2 h1 h2
  · exact hok ⟨hO.1, hO.2.1⟩ q e w2 (f1.after f2) hC2 (hq.mono m1)
theorem Unmix_c {w : World} (hC : Cip w c key d lo hi) (hd0 : 0 ≤ d) (hd : d < 100000000) (hhi : hi ≤ w.heap.size) {p1 : Option Addr} {l1 c1 : Nat} {xs : List UInt8} (hX : Row w p1 (xs.map vb)) (hl1 : l1 = xs.length) (hc1 : l1 ≤ c1) (hb1 : l1 < 1000000) {K : Value → World → Prop}
    (hbad : ¬ okT l1 → ∀ d' w', Fr [c] w w' → Cip w' c key d' lo hi → d ≤ d' → d' ≤ d + 4 → K (.tuple #[.slice none 0 0, .int .i64 11]) w')
    (hok : okT l1 → ∀ q e w', Fr [c] w w' → Cip w' c key (d + 4) lo hi → OB w' q l1 e (passesL key xs [4, 3, 2, 1]) w.heap.size → K (.tuple #[.slice q l1 e, .int .i64 0]) w') :
    callF Tryz.prog F_feist_Unmix #[.pointer (some ⟨c, 0, none⟩), .slice p1 l1 c1] w K := by
  apply feist_Unmix_call
  unfold feist_Unmix
  refine ⟨_, _, _, Ef.new (v := .slice (some ⟨w.heap.size, 0, none⟩) 4 4) (cs := (([4, 3, 2, 1] : List Int).map vi).toArray) (e := T_int) (by kernel_rfl) fun w1 f1 hB1 s1 => ?_⟩
  have hcl := hC.lt
  have m1 := f1.size
  refine Passes_c (l2 := 4) (c2 := 4) (ps := [4, 3, 2, 1]) (hC.fr0 f1) hd0 hd (by omega) (hX.fr0 f1) hl1 hc1 hb1 hB1.rowL rfl (by omega) (fun _ => by simp [blks]; omega) (fun hb d' w2 f2 hC2 h1 h2 => ⟨_, _, _, _, rfl, ?_⟩) fun hO q e w2 f2 hC2 hq => ⟨_, _, _, _, rfl, ?_⟩
  · exact hbad (fun h => hb ⟨h.1, h.2, by decide⟩) d' w2 (f1.after f2) hC2 h1 h2
  · exact hok ⟨hO.1, hO.2.1⟩ q e w2 (f1.after f2) hC2 (hq.mono m1)
end
end Go.Sh
end

section
namespace Go.Sh
open Go Go.Fw Go.Proofs
set_option maxRecDepth 100000
set_option linter.unusedVariables false
def Cfg (w : World) (b : Nat) (m s n : Int) (key : List UInt8) : Prop := ∃ f, Blk w b 19 f ∧ ∀ j v, (cfgV m s n key)[j]? = some v → f j = v
theorem cfgV_len (m s n : Int) (key : List UInt8) : (cfgV m s n key).length = key.length + 3 := by simp [cfgV]
theorem cfgV_one (m s n : Int) (key : List UInt8) : ∀ v ∈ cfgV m s n key, v.oneCell' = true := by
  intro v hv
  simp only [cfgV, List.mem_cons, List.mem_map] at hv
  rcases hv with rfl | rfl | rfl | ⟨x, _, rfl⟩ <;> rfl
section
variable {w : World} {b : Nat} {m s n : Int} {key : List UInt8}
theorem Cfg.fr {w' : World} {L : List Nat} (h : Cfg w b m s n key) (hf : Fr L w w') (hb : b ∉ L) : Cfg w' b m s n key := by
  obtain ⟨f, hB, hc⟩ := h; exact ⟨f, hB.fr hf hb, hc⟩
theorem Cfg.fr0 {w' : World} (h : Cfg w b m s n key) (hf : Fr [] w w') : Cfg w' b m s n key := h.fr hf (by simp)
theorem Cfg.lt (h : Cfg w b m s n key) : b < w.heap.size := by obtain ⟨f, hB, _⟩ := h; exact hB.lt
theorem newCfg (hk : key.length = 16) {K : Nat → World → Prop} (h : ∀ w', Fr [] w w' → Cfg w' w.heap.size m s n key → w'.heap.size = w.heap.size + 1 → K w.heap.size w') : New ⟨cfgV m s n key⟩ T_mode_Config w K := by
  refine New.intro fun w1 f1 hB s1 => h w1 f1 ⟨fun i => (⟨cfgV m s n key⟩ : Array Value).getD i undef, ?_, fun j v hj => ?_⟩ s1
  · have e : (⟨cfgV m s n key⟩ : Array Value).size = 19 := by show (cfgV m s n key).length = 19; rw [cfgV_len]; omega
    rw [e] at hB; exact hB
  · have hlt := (List.getElem?_eq_some_iff.1 hj).1
    show Array.getD ⟨cfgV m s n key⟩ j undef = v
    rw [Array.getD_eq_getD_getElem?]
    have : (⟨cfgV m s n key⟩ : Array Value)[j]? = some v := by simpa using hj
    rw [this]; rfl
theorem Cfg.ld (h : Cfg w b m s n key) (hk : key.length = 16) : Ld Tryz.prog T_mode_Config (.pointer (some ⟨b, 0, none⟩)) w (.agg ⟨cfgV m s n key⟩) := by
  obtain ⟨f, hB, hc⟩ := h
  exact LdA (m := 19) (by kernel_rfl) (by kernel_rfl) hB (o := 0) (by omega) _ (by rw [cfgV_len]; omega) (fun j v hj => by rw [Nat.zero_add]; exact hc j v hj)
theorem Cfg.mode (h : Cfg w b m s n key) : Ld Tryz.prog T_int (.pointer (some ((⟨b, 0, none⟩ : Addr).add 0))) w (.int .i64 m) := by
  obtain ⟨f, hB, hc⟩ := h; exact Ld.blk (by kernel_rfl) hB (by omega) (hc 0 _ rfl)
theorem Cfg.sid (h : Cfg w b m s n key) : Ld Tryz.prog T_int (.pointer (some ((⟨b, 0, none⟩ : Addr).add 1))) w (.int .i64 s) := by
  obtain ⟨f, hB, hc⟩ := h; rw [add_mk]; exact Ld.blk (by kernel_rfl) hB (by omega) (hc 1 _ rfl)
theorem Cfg.nonce (h : Cfg w b m s n key) : Ld Tryz.prog T_int (.pointer (some ((⟨b, 0, none⟩ : Addr).add 2))) w (.int .i64 n) := by
  obtain ⟨f, hB, hc⟩ := h; rw [add_mk]; exact Ld.blk (by kernel_rfl) hB (by omega) (hc 2 _ rfl)
theorem Cfg.keyLd (h : Cfg w b m s n key) (hk : key.length = 16) : Ld Tryz.prog T_A16_uint8 (.pointer (some ((⟨b, 0, none⟩ : Addr).add 3))) w (.agg ⟨key.map vb⟩) := by
  obtain ⟨f, hB, hc⟩ := h
  rw [add_mk]
  exact LdA (m := 16) (by kernel_rfl) (by kernel_rfl) hB (o := 0 + 3) (by omega) _ (by rw [List.length_map]; exact hk) (fun j v hj => by rw [Nat.zero_add, Nat.add_comm]; exact hc (j + 3) v hj)
theorem Cfg.keyRow (h : Cfg w b m s n key) (hk : key.length = 16) : Row w (some ⟨b, 3, none⟩) (key.map vb) := by
  obtain ⟨f, hB, hc⟩ := h
  refine .inr ⟨b, 3, rfl, fun j v hj => ?_⟩
  have hlt := (List.getElem?_eq_some_iff.1 hj).1
  rw [List.length_map] at hlt
  rw [hB.cell (by omega), Nat.add_comm, hc (j + 3) v hj]
theorem keySl {K : Option Addr → Nat → Nat → Prop} (h : K (some ⟨b, 3, none⟩) 16 16) : ∃ p l c, Pu Tryz.prog (Instr.sliceAt T_A16_uint8 (.pointer (some ((⟨b, 0, none⟩ : Addr).add 3))) none none none) (.slice p l c) ∧ K p l c := by
  rw [add_mk]
  exact ⟨_, _, _, PuSlA (n := 16) (s := 1) (kl := .i64) (kh := .i64) (lo := none) (hi := none) (by kernel_rfl) (by show (0 : Int) ≤ 0; omega) (by show (0 : Int) ≤ ((16 : Nat) : Int); omega) (by show ((16 : Nat) : Int) ≤ ((16 : Nat) : Int); omega), h⟩
end
def z16k : List UInt8 := List.replicate 16 0
def okC (m s n : Int) (key : List UInt8) : Prop := 0 ≤ m ∧ m ≤ 2 ∧ 1 ≤ s ∧ s ≤ 15 ∧ 4 ≤ n ∧ n ≤ 18 ∧ s + n ≤ 19 ∧ (m = 0 → key = z16k) ∧ (m = 1 → s + n = 16)
instance (m s n : Int) (key : List UInt8) : Decidable (okC m s n key) := by unfold okC; infer_instance
section
variable {w : World} {m s n : Int} {key : List UInt8} {K : Value → World → Prop}
theorem within_c {a x y : Int} (h : K (.bool (decide (x ≤ a ∧ a ≤ y))) w) : callF Tryz.prog F_mode_within #[.int .i64 a, .int .i64 x, .int .i64 y] w K := by
  apply mode_within_call
  unfold mode_within
  refine cond_d (fun h1 => ?_) (fun h1 => ?_)
  · have e : decide (a ≤ y) = decide (x ≤ a ∧ a ≤ y) := by rw [decide_eq_decide]; omega
    rw [e]; exact h
  · rw [decide_eq_false (by omega)] at h; exact h
theorem both_c (hk : key.length = 16) (h : ∀ w', Fr [] w w' → K (.int .i64 (IntKind.i64.wrap (s + n))) w') : callF Tryz.prog F_mode_Config_both #[.agg ⟨cfgV m s n key⟩] w K := by
  apply mode_Config_both_call
  unfold mode_Config_both
  refine newCfg hk fun w1 f1 hC s1 => ⟨_, hC.sid, _, hC.nonce, h w1 f1⟩
theorem Right_c (hk : key.length = 16) (h : ∀ w', Fr [] w w' → K (.bool (decide (okC m s n key))) w') : callF Tryz.prog F_mode_Config_Right #[.agg ⟨cfgV m s n key⟩] w K := by
  apply mode_Config_Right_call
  unfold mode_Config_Right
  have bad : ¬ okC m s n key → ∀ w', Fr [] w w' → K (.bool false) w' := fun hb w' f => by have := h w' f; rwa [decide_eq_false hb] at this
  refine newCfg hk fun w1 f1 hC s1 => ⟨_, hC.mode, within_c ⟨_, rfl, ?_⟩⟩
  refine cond_not (fun h1 => bad (fun hh => by have := of_decide_eq_false h1; unfold okC at hh; omega) w1 f1) (fun h1 => ⟨_, hC.sid, within_c ⟨_, rfl, ?_⟩⟩)
  refine cond_not (fun h2 => bad (fun hh => by have := of_decide_eq_false h2; unfold okC at hh; omega) w1 f1) (fun h2 => ⟨_, hC.nonce, within_c ⟨_, rfl, ?_⟩⟩)
  refine cond_not (fun h3 => bad (fun hh => by have := of_decide_eq_false h3; unfold okC at hh; omega) w1 f1) (fun h3 => ⟨_, hC.ld hk, both_c hk fun w2 f2 => ⟨_, rfl, ?_⟩⟩)
  have h1 := of_decide_eq_true h1; have h2 := of_decide_eq_true h2; have h3 := of_decide_eq_true h3
  have f02 := f1.then f2
  have hC2 := hC.fr0 f2
  rw [wrap64 (by omega) (by omega)]
  refine cond_d (fun h4 => bad (fun hh => by unfold okC at hh; omega) w2 f02) (fun h4 => ?_)
  unfold mode_Config_Right_j1
  refine ⟨_, hC2.mode, cond_eq (fun h5 => ?_) (fun h5 => ?_)⟩
  · refine ⟨_, hC2.keyLd hk, _, _, Ef.eqBytes (n := 16) (ys := z16k) (by kernel_rfl) (by kernel_rfl) hk rfl, ?_⟩
    have e : decide (key = z16k) = decide (okC m s n key) := by
      rw [decide_eq_decide]; unfold okC
      exact ⟨fun hh => ⟨by omega, by omega, by omega, by omega, by omega, by omega, by omega, fun _ => hh, fun _ => by omega⟩, fun hh => hh.2.2.2.2.2.2.2.1 h5⟩
    rw [e]
    exact h w2 f02
  · refine cond_eq (fun h6 => ⟨_, hC2.ld hk, both_c hk fun w3 f3 => ⟨_, rfl, ?_⟩⟩) (fun h6 => ?_)
    · rw [wrap64 (by omega) (by omega)]
      have e : (s + n == 16) = decide (okC m s n key) := by
        rw [Bool.eq_iff_iff, beq_iff_eq, decide_eq_true_iff]; unfold okC
        exact ⟨fun hh => ⟨by omega, by omega, by omega, by omega, by omega, by omega, by omega, fun _ => by omega, fun _ => hh⟩, fun hh => hh.2.2.2.2.2.2.2.2 h6⟩
      rw [e]
      exact h w3 (f02.then f3)
    · have hok : okC m s n key := ⟨by omega, by omega, by omega, by omega, by omega, by omega, by omega, fun _ => by omega, fun _ => by omega⟩
      have := h w2 f02
      rwa [decide_eq_true hok] at this
theorem cfgSize_c (hk : key.length = 16) (h : ∀ w', Fr [] w w' → K (.int .i64 (if okC m s n key then 1 + (s + n) else 0)) w') : callF Tryz.prog F_mode_Config_Size #[.agg ⟨cfgV m s n key⟩] w K := by
  apply mode_Config_Size_call
  unfold mode_Config_Size
  refine newCfg hk fun w1 f1 hC s1 => ⟨_, hC.ld hk, Right_c hk fun w2 f2 => ⟨_, rfl, ?_⟩⟩
  by_cases hok : okC m s n key
  · rw [decide_eq_true hok]
    refine cond_f ⟨_, (hC.fr0 f2).ld hk, both_c hk fun w3 f3 => ⟨_, rfl, ?_⟩⟩
    have := h w3 ((f1.then f2).then f3)
    rw [if_pos hok] at this
    have hok' := hok
    unfold okC at hok'
    rw [wrap64 (n := s + n) (by omega) (by omega), wrap64 (by omega) (by omega)]
    exact this
  · rw [decide_eq_false hok]
    have := h w2 (f1.then f2)
    rw [if_neg hok] at this
    exact cond_t this
end
end Go.Sh
end

section
namespace Go.Sh
open Go Go.Fw Go.Proofs
set_option maxRecDepth 100000
set_option linter.unusedVariables false
section
variable {w : World} {m s n : Int} {key : List UInt8} {K : Value → World → Prop}
def okR (xs : List UInt8) : Prop := xs.length = 20 ∧ fl xs 3 = 0 ∧ okC ((fl xs 0).toNat : Int) ((fl xs 1).toNat : Int) ((fl xs 2).toNat : Int) (xs.drop 4)
end
end Go.Sh
end

section
namespace Go.Sh
open Go Go.Fw Go.Proofs
set_option maxRecDepth 100000
set_option linter.unusedVariables false
def turnC (back : Bool) (m : Int) (key text : List UInt8) : List UInt8 :=
  if m = 0 then text else if m = 1 then (if back then adecL key text else aencL key text) else passesL key text (if back then [4, 3, 2, 1] else [1, 2, 3, 4])
section
variable {w : World} {m s n : Int} {key text : List UInt8} {K : Value → World → Prop}
theorem turnC_len (back : Bool) (hok : okC m s n key) (hl : (text.length : Int) = s + n) : (turnC back m key text).length = text.length := by
  unfold okC at hok
  unfold turnC
  split
  · rfl
  · split
    · cases back
      · rw [if_neg (by decide), aencL_len]; omega
      · rw [if_pos (by decide), adecL_len]; omega
    · rw [passesL_len _ _ _ (by omega) (by omega)]
set_option maxHeartbeats 1000000 in
theorem by_c (back : Bool) (v1 v2 : Value) {p : Option Addr} {l c : Nat} (hk : key.length = 16) (hx : Row w p (text.map vb)) (hl : l = text.length) (hc : l ≤ c) (hlb : l ≤ 1000000)
    (hv1 : ∀ (b : Nat) (w1 : World) (lo hi : Nat) (K' : Value → World → Prop), Cip w1 b key 0 lo hi → l = 16 → Row w1 p (text.map vb) → (∀ k ∈ blks p, k < lo ∨ hi ≤ k) → (∀ q d w', Fr [b] w1 w' → OB w' q l d (if back then adecL key text else aencL key text) w1.heap.size → K' (.tuple #[.slice q l d, .int .i64 0]) w') → callV Tryz.prog v1 [.pointer (some ⟨b, 0, none⟩), .slice p l c] w1 K')
    (hv2 : ∀ (b : Nat) (w1 : World) (lo hi : Nat) (K' : Value → World → Prop), Cip w1 b key 0 lo hi → hi ≤ w1.heap.size → okT l → Row w1 p (text.map vb) → (∀ q d w', Fr [b] w1 w' → OB w' q l d (passesL key text (if back then [4, 3, 2, 1] else [1, 2, 3, 4])) w1.heap.size → K' (.tuple #[.slice q l d, .int .i64 0]) w') → callV Tryz.prog v2 [.pointer (some ⟨b, 0, none⟩), .slice p l c] w1 K')
    (h1v : v1.oneCell' = true) (h2v : v2.oneCell' = true)
    (hstate : ¬ okC m s n key → ∀ w', Fr [] w w' → K (.tuple #[.slice none 0 0, .int .i64 19]) w') (hrange : okC m s n key → (l : Int) ≠ s + n → ∀ w', Fr [] w w' → K (.tuple #[.slice none 0 0, .int .i64 11]) w')
    (hok : okC m s n key → (l : Int) = s + n → ∀ q d w', Fr [] w w' → OB w' q l d (turnC back m key text) w.heap.size → K (.tuple #[.slice q l d, .int .i64 0]) w') :
    callF Tryz.prog F_mode_Config_by #[.agg ⟨cfgV m s n key⟩, .agg #[v1, v2], .slice p l c] w K := by
  apply mode_Config_by_call
  unfold mode_Config_by
  refine newCfg hk fun w1 f1 hC1 s1 => ?_
  refine New.intro fun w2 f2 hB s2 => ?_
  have hB' : Blk w2 w1.heap.size 2 (fun i => (#[v1, v2] : Array Value).getD i undef) := hB
  have f02 := f1.then f2
  refine ⟨_, (hC1.fr0 f2).ld hk, Right_c hk fun w3 f3 => ⟨_, rfl, ?_⟩⟩
  have f03 := f02.then f3
  by_cases ho : okC m s n key
  · rw [decide_eq_true ho]
    refine cond_f ?_
    have hC3 := (hC1.fr0 f2).fr0 f3
    refine ⟨_, hC3.ld hk, both_c hk fun w4 f4 => ⟨_, rfl, ?_⟩⟩
    have f04 := f03.then f4
    have ho' := ho
    unfold okC at ho'
    rw [wrap64 (by omega) (by omega)]
    refine cond_ne (fun hne => hrange ho hne w4 f04) (fun hlen => ?_)
    have hC4 := hC3.fr0 f4
    have hx4 := hx.fr0 f04
    refine ⟨_, hC4.mode, cond_eq (fun h0 => ?_) (fun h0 => ?_)⟩
    · refine rowB1 (byS hx4 hl hc) (by kernel_rfl) fun p1 w5 f5 hR1 s5 => ?_
      have efl : [text].flatten = text := by simp
      refine Join_c (l := 1) hR1 rfl (by rw [efl]; omega) (by omega) fun q d w6 f6 hO6 => ⟨_, _, _, rfl, ?_⟩
      rw [efl, ← hl] at hO6
      rw [efl, ← hl]
      have f05 := f04.then f5
      refine hok ho hlen q d w6 (f05.then f6) ?_
      have e : turnC back m key text = text := by unfold turnC; rw [if_pos h0]
      rw [e]
      exact hO6.mono f05.size
    · unfold mode_Config_by_j1
      refine keySl ?_
      refine newCip_c (hC4.keyRow hk) hk.symm hk (by omega) fun b w5 f5 hCi => ⟨_, _, rfl, ?_⟩
      have f05 := f04.then f5
      have hC5 := hC4.fr0 f5
      have hB5 := ((hB'.fr0 f3).fr0 f4).fr0 f5
      have hcl := hCi.lt
      have n4 := f04.size
      have a0 : (⟨w1.heap.size, 0, none⟩ : Addr).add 0 = ⟨w1.heap.size, 0, none⟩ := rfl
      have a1 : (⟨w1.heap.size, 0, none⟩ : Addr).add 1 = ⟨w1.heap.size, 1, none⟩ := add_mk _ _ _
      rw [a0, a1]
      refine ⟨_, hC5.mode, cond_eq (fun h1 => ?_) (fun h1 => ?_)⟩
      · refine ⟨v1, Ld.blk (by kernel_rfl) hB5 (by omega) rfl, ?_⟩
        refine hv1 b w5 _ _ _ hCi (by have := ho'.2.2.2.2.2.2.2.2 h1; omega) (hx.fr0 f05) (fun k hk' => .inl (by have := Row.blk_lt hx (by omega) k hk'; omega)) fun q d w6 f6 hO6 => ⟨_, _, _, _, rfl, ?_⟩
        refine hok ho hlen q d w6 (f05.st f6 (by omega)) ?_
        have e : turnC back m key text = (if back then adecL key text else aencL key text) := by unfold turnC; rw [if_neg h0, if_pos h1]
        rw [e]
        exact hO6.mono f05.size
      · refine ⟨v2, Ld.blk (by kernel_rfl) hB5 (by omega) rfl, ?_⟩
        refine hv2 b w5 _ _ _ hCi (Nat.le_refl _) ⟨by omega, by omega⟩ (hx.fr0 f05) fun q d w6 f6 hO6 => ⟨_, _, _, _, rfl, ?_⟩
        refine hok ho hlen q d w6 (f05.st f6 (by omega)) ?_
        have e : turnC back m key text = passesL key text (if back then [4, 3, 2, 1] else [1, 2, 3, 4]) := by unfold turnC; rw [if_neg h0, if_neg h1]
        rw [e]
        exact hO6.mono f05.size
  · rw [decide_eq_false ho]
    exact cond_t (hstate ho w3 f03)
theorem Turn_cfg_c {p : Option Addr} {l c : Nat} (hk : key.length = 16) (hx : Row w p (text.map vb)) (hl : l = text.length) (hc : l ≤ c) (hlb : l < 1000000)
    (hstate : ¬ okC m s n key → ∀ w', Fr [] w w' → K (.tuple #[.slice none 0 0, .int .i64 19]) w') (hrange : okC m s n key → (l : Int) ≠ s + n → ∀ w', Fr [] w w' → K (.tuple #[.slice none 0 0, .int .i64 11]) w')
    (hok : okC m s n key → (l : Int) = s + n → ∀ q d w', Fr [] w w' → OB w' q l d (turnC false m key text) w.heap.size → K (.tuple #[.slice q l d, .int .i64 0]) w') :
    callF Tryz.prog F_mode_Config_Turn #[.agg ⟨cfgV m s n key⟩, .slice p l c] w K := by
  apply mode_Config_Turn_call
  unfold mode_Config_Turn
  refine newCfg hk fun w1 f1 hC1 s1 => ⟨_, hC1.ld hk, ?_⟩
  have n1 := f1.size
  refine by_c false _ _ hk (hx.fr0 f1) hl hc (by omega) ?_ ?_ rfl rfl (fun h w' f => ⟨_, _, _, _, rfl, hstate h w' (f1.then f)⟩) (fun h h' w' f => ⟨_, _, _, _, rfl, hrange h h' w' (f1.then f)⟩) fun h h' q d w' f hO => ⟨_, _, _, _, rfl, hok h h' q d w' (f1.then f) (hO.mono n1)⟩
  · intro b w2 lo hi K' hCi h16 hx2 hsep hK
    refine callV_in (show callF Tryz.prog F_aes_Cipher_Encrypt #[.pointer (some ⟨b, 0, none⟩), .slice p l c] w2 K' from ?_)
    refine encCip_c hCi (by omega) (by omega) hx2 hl (by omega) hsep fun p' w3 f3 hC3 hO3 => ?_
    subst h16
    exact hK p' 16 w3 f3 hO3
  · intro b w2 lo hi K' hCi hhi hT hx2 hK
    refine callV_in (show callF Tryz.prog F_feist_Mix #[.pointer (some ⟨b, 0, none⟩), .slice p l c] w2 K' from ?_)
    refine Mix_c hCi (by omega) (by omega) hhi hx2 hl hc hlb (fun hb => absurd hT hb) fun _ q d w3 f3 hC3 hO3 => hK q d w3 f3 hO3
theorem Back_cfg_c {p : Option Addr} {l c : Nat} (hk : key.length = 16) (hx : Row w p (text.map vb)) (hl : l = text.length) (hc : l ≤ c) (hlb : l < 1000000)
    (hstate : ¬ okC m s n key → ∀ w', Fr [] w w' → K (.tuple #[.slice none 0 0, .int .i64 19]) w') (hrange : okC m s n key → (l : Int) ≠ s + n → ∀ w', Fr [] w w' → K (.tuple #[.slice none 0 0, .int .i64 11]) w')
    (hok : okC m s n key → (l : Int) = s + n → ∀ q d w', Fr [] w w' → OB w' q l d (turnC true m key text) w.heap.size → K (.tuple #[.slice q l d, .int .i64 0]) w') :
    callF Tryz.prog F_mode_Config_Back #[.agg ⟨cfgV m s n key⟩, .slice p l c] w K := by
  apply mode_Config_Back_call
  unfold mode_Config_Back
  refine newCfg hk fun w1 f1 hC1 s1 => ⟨_, hC1.ld hk, ?_⟩
  have n1 := f1.size
  refine by_c true _ _ hk (hx.fr0 f1) hl hc (by omega) ?_ ?_ rfl rfl (fun h w' f => ⟨_, _, _, _, rfl, hstate h w' (f1.then f)⟩) (fun h h' w' f => ⟨_, _, _, _, rfl, hrange h h' w' (f1.then f)⟩) fun h h' q d w' f hO => ⟨_, _, _, _, rfl, hok h h' q d w' (f1.then f) (hO.mono n1)⟩
  · intro b w2 lo hi K' hCi h16 hx2 hsep hK
    refine callV_in (show callF Tryz.prog F_aes_Cipher_Decrypt #[.pointer (some ⟨b, 0, none⟩), .slice p l c] w2 K' from ?_)
    refine decCip_c hCi (by omega) (by omega) hx2 hl (by omega) hsep fun p' w3 f3 hC3 hO3 => ?_
    subst h16
    exact hK p' 16 w3 f3 hO3
  · intro b w2 lo hi K' hCi hhi hT hx2 hK
    refine callV_in (show callF Tryz.prog F_feist_Unmix #[.pointer (some ⟨b, 0, none⟩), .slice p l c] w2 K' from ?_)
    refine Unmix_c hCi (by omega) (by omega) hhi hx2 hl hc hlb (fun hb => absurd hT hb) fun _ q d w3 f3 hC3 hO3 => hK q d w3 f3 hO3
end
end Go.Sh
end

section
namespace Go.Sh
open Go Go.Fw Go.Proofs
set_option maxRecDepth 100000
set_option linter.unusedVariables false
def nibL (xs : List UInt8) : List UInt8 := bl (2 * xs.length) (fun j => if j % 2 = 0 then fl xs (j / 2) / 16 else fl xs (j / 2) % 16)
def bytL (ns : List UInt8) : List UInt8 := bl (ns.length / 2) (fun j => fl ns (2 * j) * 16 + fl ns (2 * j + 1))
theorem nibL_len (xs : List UInt8) : (nibL xs).length = 2 * xs.length := bl_len _ _
theorem bytL_len (ns : List UInt8) : (bytL ns).length = ns.length / 2 := bl_len _ _
theorem nibL_0 {xs : List UInt8} {j : Nat} (h : j < xs.length) : fl (nibL xs) (2 * j) = fl xs j / 16 := by
  have := bl_getD (n := 2 * xs.length) (x := fun j => if j % 2 = 0 then fl xs (j / 2) / 16 else fl xs (j / 2) % 16) (show 2 * j < 2 * xs.length by omega)
  refine this.trans ?_
  rw [if_pos (by omega), show 2 * j / 2 = j by omega]
theorem nibL_1 {xs : List UInt8} {j : Nat} (h : j < xs.length) : fl (nibL xs) (2 * j + 1) = fl xs j % 16 := by
  have := bl_getD (n := 2 * xs.length) (x := fun j => if j % 2 = 0 then fl xs (j / 2) / 16 else fl xs (j / 2) % 16) (show 2 * j + 1 < 2 * xs.length by omega)
  refine this.trans ?_
  rw [if_neg (by omega), show (2 * j + 1) / 2 = j by omega]
theorem bytL_fl {ns : List UInt8} {j : Nat} (h : j < ns.length / 2) : fl (bytL ns) j = fl ns (2 * j) * 16 + fl ns (2 * j + 1) := bl_getD h
theorem nib_id (x : UInt8) : x / 16 * 16 + x % 16 = x := by
  have := all8 (p := fun x => x / 16 * 16 + x % 16 == x) (by kernel_rfl) x
  simpa using this
theorem nib_hi (x : UInt8) : x / 16 * 16 = x &&& 240 := by
  have := all8 (p := fun x => x / 16 * 16 == x &&& 240) (by kernel_rfl) x
  simpa using this
theorem nib_lo (x : UInt8) : x % 16 = x &&& 15 := by
  have := all8 (p := fun x => x % 16 == x &&& 15) (by kernel_rfl) x
  simpa using this
theorem nib_z (x : UInt8) : x &&& 15 = 0 → x &&& 240 = x := by
  have := all8 (p := fun x => !(x &&& 15 == 0) || (x &&& 240 == x)) (by kernel_rfl) x
  simp at this
  intro h; rcases this with h' | h'; exact absurd h h'; exact h'
theorem nib_z' (x : UInt8) : x &&& 240 = 0 → x &&& 15 = x := by
  have := all8 (p := fun x => !(x &&& 240 == 0) || (x &&& 15 == x)) (by kernel_rfl) x
  simp at this
  intro h; rcases this with h' | h'; exact absurd h h'; exact h'
theorem nib_lo0 (x : UInt8) : x % 16 = 0 ↔ x &&& 15 = 0 := by rw [nib_lo]
theorem nib_hi0 (x : UInt8) : x / 16 = 0 ↔ x &&& 240 = 0 := by
  have := all8 (p := fun x => (x / 16 == 0) == (x &&& 240 == 0)) (by kernel_rfl) x
  rw [beq_iff_eq] at this
  rw [← beq_iff_eq, this, beq_iff_eq]
theorem nib_or (a b : UInt8) : a / 16 * 16 + b % 16 = (a &&& 240) ||| (b &&& 15) := by
  rw [nib_hi, nib_lo, ← UInt8.toBitVec_inj]
  simp only [UInt8.toBitVec_add, UInt8.toBitVec_or]
  apply BitVec.add_eq_or_of_and_eq_zero
  rw [← UInt8.toBitVec_and]
  have : a &&& 240 &&& (b &&& 15) = 0 := by
    rw [UInt8.and_comm b 15, ← UInt8.and_assoc, UInt8.and_assoc a 240 15]
    show a &&& 0 &&& b = 0
    simp
  rw [this]; rfl
theorem bytL_nibL (xs : List UInt8) : bytL (nibL xs) = xs := by
  have hl : (bytL (nibL xs)).length = xs.length := by rw [bytL_len, nibL_len]; omega
  refine fl_ext hl fun j hj => ?_
  rw [hl] at hj
  rw [bytL_fl (by rw [nibL_len]; omega), nibL_0 hj, nibL_1 hj, nib_id]
theorem trim_left {xs : List UInt8} {n : Nat} (ho : n % 2 = 1) (hl : xs.length = hsz n) : bytL ((nibL xs).set n 0) = trimL xs n true := by
  have hs : hsz n = n / 2 + 1 := by unfold hsz; omega
  have hl' : (bytL ((nibL xs).set n 0)).length = xs.length := by rw [bytL_len, List.length_set, nibL_len]; omega
  refine fl_ext (by rw [hl', trimL_len]) fun j hj => ?_
  rw [hl'] at hj
  rw [bytL_fl (by rw [List.length_set, nibL_len]; omega), fl_set (by rw [nibL_len]; omega), fl_set (by rw [nibL_len]; omega), trimL_fl hj, msk_L (by omega), if_neg (by omega), nibL_0 hj]
  by_cases h : j + 1 = xs.length
  · rw [if_pos h, if_pos (by omega), UInt8.add_zero, nib_hi]
  · rw [if_neg h, if_neg (by omega), nibL_1 hj, nib_id, and255]
theorem trim_right {xs : List UInt8} {n : Nat} (ho : n % 2 = 1) (hl : xs.length = hsz n) : bytL ((nibL xs).set 0 0) = trimL xs n false := by
  have hs : hsz n = n / 2 + 1 := by unfold hsz; omega
  have hl' : (bytL ((nibL xs).set 0 0)).length = xs.length := by rw [bytL_len, List.length_set, nibL_len]; omega
  refine fl_ext (by rw [hl', trimL_len]) fun j hj => ?_
  rw [hl'] at hj
  rw [bytL_fl (by rw [List.length_set, nibL_len]; omega), fl_set (by rw [nibL_len]; omega), fl_set (by rw [nibL_len]; omega), trimL_fl hj, msk_R (by omega), if_neg (show ¬ 2 * j + 1 = 0 by omega), nibL_1 hj]
  by_cases h : j = 0
  · rw [if_pos h, if_pos (by omega), UInt8.zero_mul, UInt8.zero_add, nib_lo]
  · rw [if_neg h, if_neg (by omega), nibL_0 hj, nib_id, and255]
theorem hsz_two (n : Nat) : hsz n = n / 2 + n % 2 := by unfold hsz; omega
theorem cut_nib (b : List UInt8) {n : Nat} (hn : n = b.length) : cutL b = (bytL ((nibL b).take n ++ if n % 2 = 1 then [0] else []), bytL ((if n % 2 = 1 then [0] else []) ++ (nibL b).drop n)) := by
  have hs := hsz_two n
  have nl := nibL_len b
  have z0 : fl [0] 0 = 0 := rfl
  unfold cutL
  rw [← hn]
  congr 1
  · have hle : (b.take (hsz n)).length = hsz n := by rw [List.length_take]; omega
    have hl' : (bytL ((nibL b).take n ++ if n % 2 = 1 then [0] else [])).length = hsz n := by
      rw [bytL_len, List.length_append, List.length_take, nl]; split <;> simp <;> omega
    refine fl_ext (by rw [hl', trimL_len, hle]) fun j hj => ?_
    rw [trimL_len, hle] at hj
    rw [trimL_fl (by rw [hle]; exact hj), hle, fl_take, if_pos hj]
    rw [bytL_len] at hl'
    rw [bytL_fl (by omega), fl_append, fl_append, List.length_take, fl_take, fl_take, if_pos (show 2 * j < min n (nibL b).length by omega), if_pos (show 2 * j < n by omega), nibL_0 (by omega)]
    by_cases he : n % 2 = 0
    · rw [if_pos (by omega), if_pos (by omega), nibL_1 (by omega), nib_id, msk_even he, and255]
    · rw [msk_L he]
      by_cases hj1 : j + 1 = hsz n
      · rw [if_pos hj1, if_neg (show ¬ 2 * j + 1 < min n (nibL b).length by omega), if_pos (by omega), show 2 * j + 1 - min n (nibL b).length = 0 by omega, z0, UInt8.add_zero, nib_hi]
      · rw [if_neg hj1, if_pos (by omega), if_pos (by omega), nibL_1 (by omega), nib_id, and255]
  · have hle : (b.drop (n - hsz n)).length = hsz n := by rw [List.length_drop]; omega
    have hl' : (bytL ((if n % 2 = 1 then [0] else []) ++ (nibL b).drop n)).length = hsz n := by
      rw [bytL_len, List.length_append, List.length_drop, nl]; split <;> simp <;> omega
    refine fl_ext (by rw [hl', trimL_len, hle]) fun j hj => ?_
    rw [trimL_len, hle] at hj
    rw [trimL_fl (by rw [hle]; exact hj), hle, fl_drop]
    rw [bytL_len] at hl'
    rw [bytL_fl (by omega), fl_append, fl_append, fl_drop, fl_drop]
    by_cases he : n % 2 = 0
    · rw [if_neg (show ¬ n % 2 = 1 by omega)]
      simp only [List.length_nil, Nat.not_lt_zero, if_false, Nat.sub_zero]
      rw [show n + 2 * j = 2 * (n - hsz n + j) by omega, show n + (2 * j + 1) = 2 * (n - hsz n + j) + 1 by omega, nibL_0 (by omega), nibL_1 (by omega), nib_id, msk_even he, and255]
    · rw [if_pos (show n % 2 = 1 by omega), msk_R he]
      simp only [List.length_singleton]
      rw [if_neg (show ¬ 2 * j + 1 < 1 by omega), show n + (2 * j + 1 - 1) = 2 * (n - hsz n + j) + 1 by omega, nibL_1 (by omega)]
      by_cases hj0 : j = 0
      · rw [if_pos hj0, if_pos (by omega), hj0, show fl [0] (2 * 0) = 0 from rfl, UInt8.zero_mul, UInt8.zero_add, nib_lo]
      · rw [if_neg hj0, if_neg (by omega), show n + (2 * j - 1) = 2 * (n - hsz n + j) by omega, nibL_0 (by omega), nib_id, and255]
theorem join_nib {l r : List UInt8} {n : Nat} (h2 : 2 ≤ n) (h1 : l.length = hsz n) (h3 : r.length = hsz n) (hok : n % 2 = 0 ∨ (fl l (l.length - 1) &&& 15 = 0 ∧ fl r 0 &&& 240 = 0)) :
    bytL ((nibL l).take n ++ (nibL r).drop (n % 2)) = joinL l r n := by
  have hs := hsz_two n
  have nl := nibL_len l; have nr := nibL_len r
  have hl' : (bytL ((nibL l).take n ++ (nibL r).drop (n % 2))).length = n := by
    rw [bytL_len, List.length_append, List.length_take, List.length_drop, nl, nr]; omega
  have hjl := joinL_len h1 h3 h2
  refine fl_ext (by rw [hl', hjl]) fun j hj => ?_
  rw [hl'] at hj
  rw [bytL_len] at hl'
  rw [bytL_fl (by omega), fl_append, fl_append, List.length_take, fl_take, fl_take, fl_drop, fl_drop]
  unfold joinL
  by_cases he : n % 2 = 0
  · rw [if_pos he, fl_append, h1]
    by_cases hjl : j < hsz n
    · rw [if_pos hjl, if_pos (by omega), if_pos (by omega), if_pos (by omega), if_pos (by omega), nibL_0 (by omega), nibL_1 (by omega), nib_id]
    · rw [if_neg hjl, if_neg (by omega), if_neg (by omega), show n % 2 + (2 * j - min n (nibL l).length) = 2 * (j - hsz n) by omega, show n % 2 + (2 * j + 1 - min n (nibL l).length) = 2 * (j - hsz n) + 1 by omega, nibL_0 (by omega), nibL_1 (by omega), nib_id]
  · have ⟨o1, o2⟩ := hok.resolve_left he
    rw [if_neg he, fl_set (by rw [List.length_append, List.length_drop, h1, h3]; omega), h1]
    by_cases hjk : j = hsz n - 1
    · rw [if_pos hjk, if_pos (by omega), if_pos (by omega), if_neg (by omega), nibL_0 (by omega), show n % 2 + (2 * j + 1 - min n (nibL l).length) = 2 * 0 + 1 by omega, nibL_1 (by omega), nib_or, nib_z' _ o2, hjk]
      rw [h1] at o1
      rw [nib_z _ o1]
    · rw [if_neg hjk, fl_append, h1, fl_drop]
      by_cases hjl : j < hsz n
      · rw [if_pos hjl, if_pos (by omega), if_pos (by omega), if_pos (by omega), if_pos (by omega), nibL_0 (by omega), nibL_1 (by omega), nib_id]
      · rw [if_neg hjl, if_neg (by omega), if_neg (by omega), show n % 2 + (2 * j - min n (nibL l).length) = 2 * (j - hsz n + 1) by omega, show n % 2 + (2 * j + 1 - min n (nibL l).length) = 2 * (j - hsz n + 1) + 1 by omega, nibL_0 (by omega), nibL_1 (by omega), nib_id, Nat.add_comm 1]
end Go.Sh
end

section
namespace Go.Sh
open Go Go.Fw Go.Proofs
set_option maxRecDepth 100000
set_option linter.unusedVariables false
theorem nib_div (x : UInt8) : IntKind.u8.wrap (Int.tdiv (x.toNat : Int) 16) = ((x / 16 : UInt8).toNat : Int) := by
  have := x.toNat_lt
  have e : Int.tdiv (x.toNat : Int) 16 = ((x.toNat / 16 : Nat) : Int) := rfl
  rw [e, IntKind.wrap_u8, UInt8.toNat_div]
  show _ = ((x.toNat / 16 : Nat) : Int)
  omega
theorem nib_mod (x : UInt8) : Int.tmod (x.toNat : Int) 16 = ((x % 16 : UInt8).toNat : Int) := by
  rw [UInt8.toNat_mod]; rfl
theorem nib_mul (a b : UInt8) : IntKind.u8.wrap (IntKind.u8.wrap ((a.toNat : Int) * 16) + (b.toNat : Int)) = ((a * 16 + b : UInt8).toNat : Int) := by
  rw [IntKind.wrap_u8, IntKind.wrap_u8, UInt8.toNat_add, UInt8.toNat_mul]
  show _ = (((a.toNat * 16 % 256 + b.toNat) % 256 : Nat) : Int)
  omega
theorem nibL_snoc {xs : List UInt8} {i : Nat} (h : i < xs.length) : nibL (xs.take (i + 1)) = nibL (xs.take i) ++ [fl xs i / 16, fl xs i % 16] := by
  unfold nibL
  have e : ∀ j, j < 2 * i → (if j % 2 = 0 then fl (xs.take (i + 1)) (j / 2) / 16 else fl (xs.take (i + 1)) (j / 2) % 16) = (if j % 2 = 0 then fl (xs.take i) (j / 2) / 16 else fl (xs.take i) (j / 2) % 16) := by
    intro j hj
    rw [fl_take, fl_take, if_pos (show j / 2 < i + 1 by omega), if_pos (show j / 2 < i by omega)]
  rw [List.length_take, List.length_take, Nat.min_eq_left (by omega), Nat.min_eq_left (by omega), show 2 * (i + 1) = 2 * i + 1 + 1 by omega, bl_snoc, bl_snoc]
  rw [if_pos (by omega), if_neg (by omega), fl_take, fl_take, if_pos (by omega), if_pos (by omega), show 2 * i / 2 = i by omega, show (2 * i + 1) / 2 = i by omega, List.append_assoc]
  congr 1
  exact bl_congr (fun j hj => e j hj)
theorem Fours_c {w : World} {p : Option Addr} {l c : Nat} {xs : List UInt8} (hx : Row w p (xs.map vb)) (hl : l = xs.length) (hlb : l < 1000000) {K : Value → World → Prop}
    (h : ∀ q d w', Fr [] w w' → OB w' q (2 * l) d (nibL xs) w.heap.size → K (.slice q (2 * l) d) w') : callF Tryz.prog F_ref14_Fours #[.slice p l c] w K := by
  apply ref14_Fours_call
  unfold ref14_Fours
  refine mk0 fun p0 w1 f1 hO1 s1 => ?_
  refine LoopS.ind (fun k us w' => ∃ (i : Nat) (p1 : Option Addr) (c1 : Nat), i + k = l ∧ us = [.slice p l c, .slice none 0 0, .slice p1 (2 * i) c1, .int .i64 (i : Int)] ∧ Fr [] w w' ∧ OB w' p1 (2 * i) c1 (nibL (xs.take i)) w.heap.size) l
    ⟨0, p0, 0, by omega, rfl, f1, hO1⟩ ?_
  rintro k us r w2 I μ hgo ⟨i, p1, c1, hi, rfl, f2, hO⟩
  refine ⟨_, _, _, _, _, _, _, _, _, _, rfl, cond_d (fun h1 => ?_) (fun h1 => ?_)⟩
  · have hil : i < l := by omega
    obtain ⟨a, ha, hca⟩ := row_get (t := T_S_uint8) (by kernel_rfl) (hx.fr0 f2) (c := c) hl hil (k := .i64)
    refine ⟨fun w' => w'.cell? a = some (vb (xs.getD i 0)), Drw.intro fun w3 f3 s3 => ?_⟩
    refine ⟨a, ha, a, ha, _, ⟨f3.cell hca (by simp), fun w' hw' => Ld.cell (by kernel_rfl) hw'⟩, _, Ld.cell (by kernel_rfl) (f3.cell hca (by simp)), .inl rfl, ?_⟩
    rw [nib_div, nib_mod]
    have f23 := f2.then f3
    refine mkL (xs := [xs.getD i 0 / 16, xs.getD i 0 % 16]) rfl rfl (by kernel_rfl) fun pn w4 f4 hN s4 => ?_
    have f24 := f23.then f4
    refine pushN ((hO.fr0 f3).fr0 f4) f24.size hN.row rfl (by simp only [List.length_cons, List.length_nil]; omega) fun p' c' w5 f5 hO5 => ?_
    rw [wrap64 (by omega) (by omega)]
    refine hgo _ _ _ (k - 1) (by omega) ⟨i + 1, p', c', by omega, rfl, ((hO.fr0 f3).fr0 f4).news f24 f5 (Nat.le_refl _), ?_⟩
    rw [nibL_snoc (by omega)]
    exact hO5
  · have hil : i = l := by omega
    subst hil
    rw [List.take_of_length_le (by omega)] at hO
    exact h p1 c1 w2 f2 hO
theorem Bytes_c {w : World} {p : Option Addr} {l c m : Nat} {ns : List UInt8} (hx : Row w p (ns.map vb)) (hl : l = ns.length) (hm : l = 2 * m) (hlb : l < 1000000) {K : Value → World → Prop}
    (h : ∀ q d w', Fr [] w w' → OB w' q m d (bytL ns) w.heap.size → K (.slice q m d) w') : callF Tryz.prog F_ref14_Bytes #[.slice p l c] w K := by
  apply ref14_Bytes_call
  unfold ref14_Bytes
  refine mk0 fun p0 w1 f1 hO1 s1 => ?_
  refine LoopS.ind (fun k us w' => ∃ (i : Nat) (p1 : Option Addr) (c1 : Nat), i + k = m ∧ us = [.slice p l c, .slice none 0 0, .slice p1 i c1, .int .i64 ((2 * i : Nat) : Int)] ∧ Fr [] w w' ∧ OB w' p1 i c1 (bl i (fun j => fl ns (2 * j) * 16 + fl ns (2 * j + 1))) w.heap.size) m
    ⟨0, p0, 0, by omega, rfl, f1, hO1⟩ ?_
  rintro k us r w2 I μ hgo ⟨i, p1, c1, hi, rfl, f2, hO⟩
  refine ⟨_, _, _, _, _, _, _, _, _, _, rfl, cond_d (fun h1 => ?_) (fun h1 => ?_)⟩
  · have hil : i < m := by omega
    obtain ⟨a, ha, hca⟩ := row_get (t := T_S_uint8) (by kernel_rfl) (hx.fr0 f2) (c := c) hl (i := 2 * i) (by omega) (k := .i64)
    obtain ⟨b, hb, hcb⟩ := row_get (t := T_S_uint8) (by kernel_rfl) (hx.fr0 f2) (c := c) hl (i := 2 * i + 1) (by omega) (k := .i64)
    rw [wrap64 (by omega) (by omega), wrap64 (by omega) (by omega), show (((2 * i : Nat) : Int) + 1) = ((2 * i + 1 : Nat) : Int) by omega]
    refine ⟨fun w' => w'.cell? a = some (vb (ns.getD (2 * i) 0)), Drw.intro fun w3 f3 s3 => ?_⟩
    refine ⟨a, ha, b, hb, _, ⟨f3.cell hca (by simp), fun w' hw' => Ld.cell (by kernel_rfl) hw'⟩, _, Ld.cell (by kernel_rfl) (f3.cell hcb (by simp)), .inl rfl, ?_⟩
    rw [nib_mul]
    have f23 := f2.then f3
    refine push1 (hO.fr0 f3) f23.size (by omega) fun p' c' w4 f4 hO4 => ?_
    refine hgo _ _ _ (k - 1) (by omega) ⟨i + 1, p', c', by omega, by rw [show (((2 * i : Nat) : Int) + 2) = ((2 * (i + 1) : Nat) : Int) by omega], (hO.fr0 f3).news f23 f4 (Nat.le_refl _), ?_⟩
    rw [bl_snoc]
    exact hO4
  · have hil : i = m := by omega
    subst hil
    have e : bytL ns = bl i (fun j => fl ns (2 * j) * 16 + fl ns (2 * j + 1)) := by unfold bytL; rw [show ns.length / 2 = i by omega]
    rw [← e] at hO
    exact h p1 c1 w2 f2 hO
theorem refSize_c {n : Nat} (h1 : 1 ≤ n) (hn : n < 1000000) {w : World} {K : Value → World → Prop} (h : K (.int .i64 (hsz n : Int)) w) : callF Tryz.prog F_ref14_Size #[.int .i64 (n : Int)] w K := by
  apply ref14_Size_call
  unfold ref14_Size
  refine cond_d (fun h1 => by omega) fun _ => ?_
  have e1 : Int.tdiv (n : Int) 2 = ((n / 2 : Nat) : Int) := rfl
  have e2 : Int.tmod (n : Int) 2 = ((n % 2 : Nat) : Int) := rfl
  rw [e1, e2, wrap64 (n := ((n / 2 : Nat) : Int)) (by omega) (by omega), wrap64 (by omega) (by omega)]
  have := hsz_two n
  rw [show ((n / 2 : Nat) : Int) + ((n % 2 : Nat) : Int) = (hsz n : Int) by omega]
  exact h
theorem fit_c {n : Int} {w : World} {p : Option Addr} {l c : Nat} {xs : List UInt8} (hl : l = xs.length) {K : Value → World → Prop} (h : K (.bool (decide (fitN n [xs]))) w) : callF Tryz.prog F_ref14_fit #[.slice p l c, .int .i64 n] w K := by
  apply ref14_fit_call
  unfold ref14_fit
  have hno : ¬ (2 ≤ n ∧ n ≤ 28) → K (.bool false) w := fun hn => by
    rw [decide_eq_false (fun h' => hn ⟨h'.1, h'.2.1⟩)] at h
    exact h
  refine cond_d (fun h1 => cond_d (fun h2 => ?_) (fun h2 => hno (by omega))) (fun h1 => hno (by omega))
  obtain ⟨m, rfl⟩ := Int.eq_ofNat_of_zero_le (show 0 ≤ n by omega)
  refine refSize_c (by omega) (by omega) ⟨_, rfl, ?_⟩
  have e : ((l : Int) == (hsz m : Int)) = decide (fitN (m : Int) [xs]) := by
    rw [Bool.eq_iff_iff, beq_iff_eq, decide_eq_true_iff, fit1, Int.toNat_natCast]
    constructor
    · intro hh; exact ⟨by omega, by omega, by omega⟩
    · intro hh; omega
  rw [e]
  exact h
end Go.Sh
end

section
namespace Go.Sh
open Go Go.Fw Go.Proofs
set_option maxRecDepth 100000
set_option linter.unusedVariables false
theorem tm2 (m : Nat) : Int.tmod (m : Int) 2 = ((m % 2 : Nat) : Int) := rfl
theorem odd_b (m : Nat) : (Int.tmod (m : Int) 2 == 1) = decide (m % 2 = 1) := by
  rw [tm2, Bool.eq_iff_iff, beq_iff_eq, decide_eq_true_iff]; omega
set_option maxHeartbeats 1000000 in
theorem refTrim_c {w : World} {p : Option Addr} {l c : Nat} {xs : List UInt8} (hR : Row w p (xs.map vb)) (hl : l = xs.length) (hlb : l < 1000000) (n : Int) (left : Bool) {K : Value → World → Prop}
    (hbad : ¬ fitN n [xs] → K (.tuple #[.slice none 0 0, .int .i64 11]) w) (hok : fitN n [xs] → ∀ q d w', Fr [] w w' → OB w' q l d (trimL xs n.toNat left) w.heap.size → K (.tuple #[.slice q l d, .int .i64 0]) w') :
    callF Tryz.prog F_ref14_Trim #[.slice p l c, .int .i64 n, .bool left] w K := by
  apply ref14_Trim_call
  unfold ref14_Trim
  refine fit_c hl ⟨_, rfl, ?_⟩
  by_cases hfit : fitN n [xs]
  · rw [decide_eq_true hfit]
    refine cond_f ?_
    obtain ⟨h2, h28, hlen⟩ := fit1.1 hfit
    obtain ⟨m, rfl⟩ := Int.eq_ofNat_of_zero_le (show 0 ≤ n by omega)
    rw [Int.toNat_natCast] at hlen hok
    have hs := hsz_two m
    refine Fours_c hR hl hlb fun q d w1 f1 hO => ⟨_, _, _, rfl, ?_⟩
    rw [odd_b]
    have fin : ∀ (ns : List UInt8) (w2 : World), Fr [] w w2 → w1.heap.size ≤ w2.heap.size → OB w2 q (2 * l) d ns w.heap.size → bytL ns = trimL xs m left → callF Tryz.prog F_ref14_Bytes #[.slice q (2 * l) d] w2 fun r34 w2 => ∃ (p34 : Option Addr) (l34 : Nat) (c34 : Nat), r34 = .slice p34 l34 c34 ∧ K (.tuple #[.slice p34 l34 c34, .int .i64 0]) w2 := by
      intro ns w2 f2 s2 hN e
      refine Bytes_c hN.row hN.2.1 rfl (by omega) fun q' d' w3 f3 hO3 => ⟨_, _, _, rfl, ?_⟩
      rw [e] at hO3
      have := f2.size
      exact hok hfit q' d' w3 (f2.then f3) (hO3.mono this)
    by_cases ho : m % 2 = 1
    · rw [decide_eq_true ho]
      refine cond_t ?_
      unfold ref14_Trim_j3
      cases left with
      | true =>
        refine cond_t ?_
        refine hO.sto (i := m) (x := 0) (by omega) fun w2 f2 hO2 s2 => ?_
        unfold ref14_Trim_j2
        rw [odd_b, decide_eq_true ho]
        refine cond_t ?_
        unfold ref14_Trim_j1
        exact cond_f (fin _ w2 (hO.news f1 f2 (Nat.le_refl _)) f2.size hO2 (trim_left ho hlen))
      | false =>
        refine cond_f ?_
        unfold ref14_Trim_j2
        rw [odd_b, decide_eq_true ho]
        refine cond_t ?_
        unfold ref14_Trim_j1
        refine cond_t ?_
        refine hO.sto (i := 0) (x := 0) (by omega) fun w2 f2 hO2 s2 => ?_
        exact fin _ w2 (hO.news f1 f2 (Nat.le_refl _)) f2.size hO2 (trim_right ho hlen)
    · rw [decide_eq_false ho]
      refine cond_f ?_
      unfold ref14_Trim_j3
      refine cond_f ?_
      unfold ref14_Trim_j2
      rw [odd_b, decide_eq_false ho]
      refine cond_f ?_
      unfold ref14_Trim_j1
      exact cond_f (fin _ w1 f1 (Nat.le_refl _) hO (by rw [bytL_nibL, trimL_even (by omega)]))
  · rw [decide_eq_false hfit]
    exact cond_t (hbad hfit)
set_option maxHeartbeats 1000000 in
theorem refCut_c {w : World} {p : Option Addr} {l c : Nat} {xs : List UInt8} (hR : Row w p (xs.map vb)) (hl : l = xs.length) (hlb : l < 1000000) {K : Value → World → Prop}
    (hbad : ¬ (2 ≤ l ∧ l ≤ 28) → K (.tuple #[.slice none 0 0, .slice none 0 0, .int .i64 11]) w)
    (hok : (2 ≤ l ∧ l ≤ 28) → ∀ q1 d1 q2 d2 w', Fr [] w w' → OB w' q1 (hsz l) d1 (cutL xs).1 w.heap.size → OB w' q2 (hsz l) d2 (cutL xs).2 w.heap.size → K (.tuple #[.slice q1 (hsz l) d1, .slice q2 (hsz l) d2, .int .i64 0]) w') :
    callF Tryz.prog F_ref14_Cut #[.slice p l c] w K := by
  apply ref14_Cut_call
  unfold ref14_Cut
  refine cond_d (fun h1 => hbad (by omega)) fun h1 => cond_d (fun h2 => hbad (by omega)) fun h2 => ?_
  unfold ref14_Cut_j2
  refine Fours_c hR hl hlb fun q d w1 f1 hO => ⟨_, _, _, rfl, ?_⟩
  have hs := hsz_two l
  have hnl := nibL_len xs
  have c1 := hO.cap
  refine mk0 fun pa w2 f2 hA s2 => ?_
  refine slTo (hO.fr0 f2).row hO.2.1 (n := l) (by omega) c1 fun qa da hqa la lda ba => ?_
  refine pushN hA f2.size hqa la (by omega) fun pb cb w3 f3 hB => ?_
  rw [List.nil_append] at hB
  have f13 : Fr [] w1 w3 := hA.news f2 f3 (Nat.le_refl _)
  have hO3 := hO.fr0 f13
  refine mk0 fun pc w4 f4 hC s4 => ?_
  refine slFrom (hO3.fr0 f4).row hO.2.1 (n := l) (by omega) c1 fun qe de hqe le lde be => ?_
  refine pushN hC f4.size hqe le (by omega) fun pd cd w5 f5 hD => ?_
  rw [List.nil_append] at hD
  have f35 : Fr [] w3 w5 := hC.news f4 f5 (Nat.le_refl _)
  have hB5 := hB.fr0 f35
  have n1 := f1.size; have n13 := f13.size; have n35 := f35.size
  have eN : 2 * l - l = l := by omega
  rw [eN] at hD ⊢
  rw [odd_b]
  have ec := cut_nib xs hl
  have fin : ∀ (p7 : Option Addr) (l7 c7 : Nat) (p8 : Option Addr) (l8 c8 : Nat) (xa xb : List UInt8) (w6 : World), Fr [] w w6 → OB w6 p7 l7 c7 xa w.heap.size → OB w6 p8 l8 c8 xb w.heap.size → l7 = 2 * hsz l → l8 = 2 * hsz l → bytL xa = (cutL xs).1 → bytL xb = (cutL xs).2 → ref14_Cut_j1 none 0 0 none 0 0 0 p7 l7 c7 p8 l8 c8 w6 K := by
    intro p7 l7 c7 p8 l8 c8 xa xb w6 f6 h7 h8 e7 e8 ea eb
    unfold ref14_Cut_j1
    refine Bytes_c h7.row h7.2.1 e7 (by omega) fun q7 d7 w7 f7 hO7 => ⟨_, _, _, rfl, ?_⟩
    refine Bytes_c (h8.row.fr0 f7) h8.2.1 e8 (by omega) fun q8 d8 w8 f8 hO8 => ⟨_, _, _, rfl, ?_⟩
    rw [ea] at hO7
    rw [eb] at hO8
    have n6 := f6.size; have n7 := f7.size
    exact hok ⟨by omega, by omega⟩ _ _ _ _ w8 (f6.then (f7.then f8)) ((hO7.fr0 f8).mono (by omega)) (hO8.mono (by omega))
  rw [Nat.zero_add] at hB5 hD ⊢
  by_cases ho : l % 2 = 1
  · rw [decide_eq_true ho]
    rw [if_pos ho] at ec
    refine cond_t ?_
    refine push1 (x := 0) hB5 (by omega) (by omega) fun p6 c6 w6 f6 hO6 => ?_
    have lt3 := hB.lt; have n34 := f4.size
    have hD6 := hD.fr f6 (fun z hz hz' => by
      have g1 := hD.2.2 z hz; have g2 := lt3 z hz'; omega)
    have f56 : Fr [] w w6 := (f1.then (f13.then f35)).trans f6 (fun z hz => .inr (by have := hB.2.2 z hz; have := f2.size; omega))
    have n6 := f6.size
    refine mk1 (x := 0) fun p9 w7 f7 hE s7 => ?_
    refine pushN hE f7.size (hD6.row.fr0 f7) hD.2.1 (by omega) fun p10 c10 w8 f8 hF => ?_
    have f68 : Fr [] w6 w8 := hE.news f7 f8 (Nat.le_refl _)
    have f58 : Fr [] w w8 := f56.then f68
    have hO8 := hO6.fr0 f68
    refine fin _ _ _ _ _ _ _ _ w8 f58 (hO8.mono (by omega)) (hF.mono (by omega)) (by omega) (by omega) ?_ ?_
    · rw [ec]
    · rw [ec]
  · rw [decide_eq_false ho]
    rw [if_neg ho] at ec
    rw [List.append_nil, List.nil_append] at ec
    exact cond_f (fin _ _ _ _ _ _ _ _ w5 ((f1.then f13).then f35) (hB5.mono (by omega)) (hD.mono (by omega)) (by omega) (by omega) (by rw [ec]) (by rw [ec]))
set_option maxHeartbeats 1000000 in
theorem refJoin_c {w : World} {p q : Option Addr} {l c m d : Nat} {ls rs : List UInt8} (hL : Row w p (ls.map vb)) (hl : l = ls.length) (hlb : l < 1000000) (hR : Row w q (rs.map vb)) (hm : m = rs.length) (hmb : m < 1000000) (n : Int) {K : Value → World → Prop}
    (hbad : ¬ fitN n [ls, rs] → K (.tuple #[.slice none 0 0, .int .i64 11]) w) (hform : fitN n [ls, rs] → ¬ okJ ls rs n.toNat → ∀ w', Fr [] w w' → K (.tuple #[.slice none 0 0, .int .i64 10]) w')
    (hok : fitN n [ls, rs] → okJ ls rs n.toNat → ∀ po co w', Fr [] w w' → OB w' po n.toNat co (joinL ls rs n.toNat) w.heap.size → K (.tuple #[.slice po n.toNat co, .int .i64 0]) w') :
    callF Tryz.prog F_ref14_Join #[.slice p l c, .slice q m d, .int .i64 n] w K := by
  apply ref14_Join_call
  unfold ref14_Join
  refine fit_c hl ⟨_, rfl, ?_⟩
  by_cases hf1 : fitN n [ls]
  · rw [decide_eq_true hf1]
    refine cond_f (fit_c hm ⟨_, rfl, ?_⟩)
    by_cases hf2 : fitN n [rs]
    · rw [decide_eq_true hf2]
      refine cond_f ?_
      obtain ⟨h2, h28, hll⟩ := fit1.1 hf1
      obtain ⟨_, _, hrl⟩ := fit1.1 hf2
      have hfit : fitN n [ls, rs] := fit2.2 ⟨h2, h28, hll, hrl⟩
      obtain ⟨N, rfl⟩ := Int.eq_ofNat_of_zero_le (show 0 ≤ n by omega)
      rw [Int.toNat_natCast] at hll hrl hok hform
      have hs := hsz_two N
      unfold ref14_Join_j2
      refine Fours_c hL hl hlb fun qa da w1 f1 hA => ⟨_, _, _, rfl, ?_⟩
      refine Fours_c (hR.fr0 f1) hm hmb fun qb db w2 f2 hB => ⟨_, _, _, rfl, ?_⟩
      have f02 := f1.then f2
      have hA2 := hA.fr0 f2
      have nl := nibL_len ls; have nr := nibL_len rs
      have ca := hA.cap; have cb := hB.cap
      rw [odd_b]
      have fin : ∀ (p9 : Option Addr) (l9 c9 : Nat), Row w2 p9 (((nibL rs).drop (N % 2)).map vb) → l9 = ((nibL rs).drop (N % 2)).length → okJ ls rs N → ref14_Join_j1 (N : Int) none 0 0 0 qa (2 * l) da p9 l9 c9 w2 K := by
        intro p9 l9 c9 h9 e9 hJ
        unfold ref14_Join_j1
        rw [List.length_drop, nr] at e9
        have h2' : 2 ≤ N := by omega
        refine slTo3O hA2 (n := N) (by omega) fun q1 h1 => ?_
        refine pushN h1 f02.size h9 (by rw [List.length_drop, nr]; exact e9) (by omega) fun p' c' w3 f3 hO3 => ?_
        have f03 : Fr [] w w3 := h1.news f02 f3 (Nat.le_refl _)
        refine Bytes_c hO3.row hO3.2.1 (m := N) (by omega) (by omega) fun q4 d4 w4 f4 hO4 => ⟨_, _, _, rfl, ?_⟩
        rw [join_nib h2' hll hrl hJ] at hO4
        exact hok hfit hJ q4 d4 w4 (f03.then f4) (hO4.mono f03.size)
      have h0r : 0 < rs.length := by omega
      by_cases ho : N % 2 = 1
      · rw [decide_eq_true ho]
        refine cond_t ?_
        obtain ⟨a, ha, hca⟩ := hA2.get (k := .i64) (i := N) (by omega)
        obtain ⟨b, hb, hcb⟩ := (hB.mono (lo' := 0) (by omega)).get (k := .i64) (i := 0) (by omega)
        refine ⟨a, ha, _, Ld.cell (by kernel_rfl) hca, ?_⟩
        have eN : fl (nibL ls) N = fl ls (ls.length - 1) % 16 := by
          rw [show N = 2 * (ls.length - 1) + 1 by omega]; exact nibL_1 (by omega)
        have eR : fl (nibL rs) 0 = fl rs 0 / 16 := nibL_0 h0r
        have z8 : ∀ x : UInt8, (x.toNat : Int) = 0 ↔ x = 0 := fun x => by
          rw [← UInt8.toNat_inj]; show _ ↔ x.toNat = 0; omega
        have hJo : okJ ls rs N ↔ (fl (nibL ls) N = 0 ∧ fl (nibL rs) 0 = 0) := by
          rw [eN, eR, nib_lo0, nib_hi0]
          exact ⟨fun h => h.resolve_left (by omega), fun h => .inr h⟩
        refine cond_ne (fun hne => hform hfit (fun h => hne ((z8 _).2 (hJo.1 h).1)) w2 f02) fun h0 => ?_
        refine ⟨b, hb, _, Ld.cell (by kernel_rfl) hcb, ?_⟩
        refine cond_ne (fun hne => hform hfit (fun h => hne ((z8 _).2 (hJo.1 h).2)) w2 f02) fun h1 => ?_
        refine slFrom hB.row hB.2.1 (n := 1) (by omega) cb fun q1 d1 h1' e1 l1' b1 => ?_
        rw [← show N % 2 = 1 from ho] at h1' e1
        refine fin _ _ _ h1' ?_ (hJo.2 ⟨(z8 _).1 h0, (z8 _).1 h1⟩)
        rw [← e1, ho]
      · rw [decide_eq_false ho]
        refine cond_f (fin _ _ _ ?_ ?_ (.inl (by omega)))
        · rw [show N % 2 = 0 by omega, List.drop_zero]; exact hB.row
        · rw [show N % 2 = 0 by omega, List.drop_zero]; exact hB.2.1
    · rw [decide_eq_false hf2]
      exact cond_t (hbad (fun h => hf2 (fit1.2 ⟨(fit2.1 h).1, (fit2.1 h).2.1, (fit2.1 h).2.2.2⟩)))
  · rw [decide_eq_false hf1]
    exact cond_t (hbad (fun h => hf1 (fit1.2 ⟨(fit2.1 h).1, (fit2.1 h).2.1, (fit2.1 h).2.2.1⟩)))
end Go.Sh
end
