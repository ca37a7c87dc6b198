/- A part of a proof of a given law of this program: lemmas, printed forms of its functions, contracts. It has no conditions of its own. -/
import Derived.Test.YtlphgbgfnjhhcaaMA
import Derived.Test.YtlphgbgfnjhhcaaMSh
import Derived.Test.YtlphgbgfnjhhcaaMFw

section
namespace Go.Sh
open Go Go.Fw Go.Proofs
set_option maxRecDepth 100000
set_option linter.unusedVariables false

def k03 : List UInt8 := [0, 1, 2, 3, 4, 5, 6, 7, 8, 9, 10, 11, 12, 13, 14, 15]
def t03 : List UInt8 := [0, 17, 34, 51, 68, 85, 102, 119, 136, 153, 170, 187, 204, 221, 238, 255]
def w03 : List UInt8 := [105, 196, 224, 216, 106, 123, 4, 48, 216, 205, 183, 128, 112, 180, 197, 90]
set_option maxHeartbeats 1000000 in
theorem alive03_c {w : World} {K : Value → World → Prop} (h : ∀ w', Fr [] w w' → K (.bool true) w') : callF Try.prog F_law03_alive #[] w K := by
  apply law03_alive_call
  unfold law03_alive
  refine mkL (xs := k03) rfl rfl (by kernel_rfl) fun p1 w1 f1 h1 s1 => ?_
  refine mkL (xs := t03) rfl rfl (by kernel_rfl) fun p2 w2 f2 h2 s2 => ?_
  refine mkL (xs := w03) rfl rfl (by kernel_rfl) fun p3 w3 f3 h3 s3 => ?_
  have n1 := f1.size; have n2 := f2.size; have n3 := f3.size
  have h13 := (h1.fr0 f2).fr0 f3
  refine newCip_c h13.row rfl rfl (by decide) fun c w4 f4 hC => ⟨_, _, rfl, ?_⟩
  refine ⟨_, _, _, PuSl (s := 1) (kl := .i64) (kh := .i64) (lo := none) (hi := some 15) (by kernel_rfl) (by decide) (by decide) (by decide), ?_⟩
  refine New_bad_c (by decide) ⟨_, _, rfl, ?_⟩
  refine ⟨_, _, ptrNil (by kernel_rfl), cond_f (cond_f (cond_f ?_))⟩
  unfold law03_alive_j1
  have n4 := f4.size
  have h24 := (h2.fr0 f3).fr0 f4
  have h34 := h3.fr0 f4
  refine encCip_c hC (by omega) (by omega) h24.row rfl rfl (fun k hk => .inl (by have := h2.lt k hk; omega)) fun pa w5 f5 hC5 ha => ⟨_, _, _, _, rfl, ?_⟩
  have n5 := f5.size
  have hcl := hC.lt
  refine decCip_c hC5 (by omega) (by omega) ha.row rfl (aencL_len _ _) (fun k hk => .inr (ha.2.2 k hk)) fun pb w6 f6 hC6 hb => ⟨_, _, _, _, rfl, ?_⟩
  have n6 := f6.size
  refine ⟨_, _, _, PuSl (s := 1) (kl := .i64) (kh := .i64) (lo := none) (hi := some 15) (by kernel_rfl) (by decide) (by decide) (by decide), ?_⟩
  refine encBad_c (by decide) ⟨_, _, _, _, rfl, cond_t (cond_t (cond_t ?_))⟩
  have sep : ∀ {p : Option Addr} {lo : Nat}, (∀ k ∈ blks p, k < w3.heap.size ∨ w4.heap.size ≤ k) → ∀ k ∈ blks p, k ∉ [c] := by
    intro p lo hh k hk; simp only [List.mem_singleton]; rintro rfl; have := hh _ hk; omega
  have ha6 := ha.fr f6 (sep (lo := 0) fun k hk => .inr (ha.2.2 k hk))
  have h36 := (h34.fr f5 (sep (lo := 0) fun k hk => .inl (h3.lt k hk))).fr f6 (sep (lo := 0) fun k hk => .inl (h3.lt k hk))
  have h26 := (h24.fr f5 (sep (lo := 0) fun k hk => .inl (by have := h2.lt k hk; omega))).fr f6 (sep (lo := 0) fun k hk => .inl (by have := h2.lt k hk; omega))
  have e1 : aencL k03 t03 = w03 := aes_example
  rw [e1] at ha6
  refine SameBytes_c ha6.row rfl h36.row rfl (by decide) fun w7 f7 => ⟨_, rfl, ?_⟩
  rw [decide_eq_true rfl]
  refine cond_t ?_
  have e2 : adecL k03 (aencL k03 t03) = t03 := adecL_aencL _ _ rfl
  rw [e2] at hb
  refine SameBytes_c (hb.row.fr0 f7) rfl (h26.row.fr0 f7) rfl (by decide) fun w8 f8 => ⟨_, rfl, ?_⟩
  rw [decide_eq_true rfl]
  refine cond_t ?_
  have hC8 := (hC6.fr0 f7).fr0 f8
  refine keysCip_c hC8 fun pk ck w9 f9 hk => ⟨_, _, _, rfl, cond_t ?_⟩
  refine doneCip_c (hC8.fr0 f9) ⟨_, rfl, ?_⟩
  refine h w9 ?_
  have fA : Fr [] w w4 := ((f1.then f2).then f3).then f4
  exact ((((fA.trans f5 (fun z hz => .inr (by simp at hz; omega))).trans f6 (fun z hz => .inr (by simp at hz; omega))).then f7).then f8).then f9
end Go.Sh
end

section
namespace Go.Sh
open Go Go.Fw Go.Proofs
set_option maxRecDepth 100000
set_option linter.unusedVariables false

/-- A row that was there ahead of the cipher. -/
theorem Row.old {a w w' : World} {p : Option Addr} {xs : List UInt8} {b : Nat} (h0 : Row a p (xs.map vb)) (h : Row w p (xs.map vb)) (hf : Fr [b] w w') (hb : a.heap.size ≤ b) : Row w' p (xs.map vb) := by
  by_cases hx : xs.length = 0
  · have : xs = [] := List.length_eq_zero_iff.1 hx
    subst this; exact Row.nil _ _
  · exact Row.fr_lt h hf fun hk => by have := Row.blk_lt h0 (by omega) _ hk; omega

set_option maxHeartbeats 1000000 in
theorem AesDecrypts_c {w : World} {p0 p1 : Option Addr} {l0 c0 l1 c1 : Nat} {key block : List UInt8} (h0 : Row w p0 (key.map vb)) (hl0 : l0 = key.length) (hc0 : l0 ≤ c0) (h1 : Row w p1 (block.map vb)) (hl1 : l1 = block.length)
    {K : Value → World → Prop} (h : ∀ w', Fr [] w w' → K (.bool true) w') : callF Try.prog F_law03_AesDecrypts #[.slice p0 l0 c0, .slice p1 l1 c1] w K := by
  apply law03_AesDecrypts_call
  unfold law03_AesDecrypts
  refine alive03_c fun w1 f1 => ⟨_, rfl, cond_f ?_⟩
  refine cond_d (fun _ => h w1 f1) fun hlen => ?_
  by_cases hk : key.length = 16
  · refine newCip_c (h0.fr0 f1) hl0 hk (by omega) fun c w2 f2 hC => ⟨_, _, rfl, _, _, ptrNil (by kernel_rfl), cond_f ?_⟩
    have f02 := f1.then f2
    have n1 := f1.size; have n2 := f2.size
    have hcl := hC.lt
    refine if hb : block.length = 16 then ?_ else ?_
    · have hb2 := h1.fr0 f02
      refine decCip_c hC (by omega) (by omega) hb2 hl1 hb (fun k hk => .inl (by have := Row.blk_lt h1 (by omega) k hk; omega)) fun pa w3 f3 hC3 ha => ⟨_, _, _, _, rfl, ?_⟩
      refine cond_ne (fun hne => by omega) fun _ => cond_t ?_
      have f03 : Fr [] w w3 := f02.trans f3 (fun z hz => .inr (by simp at hz; omega))
      refine refDecrypt_c (h0.fr0 f03) hl0 hk hc0 (h1.fr0 f03) hl1 hb fun pr cr w4 f4 hr => ⟨_, _, _, rfl, ?_⟩
      refine SameBytes_c (ha.row.fr0 f4) (adecL_len _ _).symm hr.row (adecL_len _ _).symm (by omega) fun w5 f5 => ⟨_, rfl, ?_⟩
      rw [decide_eq_true rfl]
      exact h w5 ((f03.then f4).then f5)
    · refine decBad_c (by omega) ⟨_, _, _, _, rfl, ?_⟩
      refine cond_ne (fun _ => cond_t (h w2 f02)) fun he => by omega
  · refine New_bad_c (by omega) ⟨_, _, rfl, _, _, ptrNil (by kernel_rfl), cond_t (cond_t ?_)⟩
    have : ((l0 : Int) != 16) = true := by simp; omega
    rw [this]
    exact h w1 f1

set_option maxHeartbeats 2000000 in
theorem AesBlocks_c {w : World} {p0 p1 : Option Addr} {l0 c0 l1 c1 : Nat} {key block : List UInt8} (h0 : Row w p0 (key.map vb)) (hl0 : l0 = key.length) (hc0 : l0 ≤ c0) (h1 : Row w p1 (block.map vb)) (hl1 : l1 = block.length)
    {K : Value → World → Prop} (h : ∀ w', Fr [] w w' → K (.bool true) w') : callF Try.prog F_law03_AesBlocks #[.slice p0 l0 c0, .slice p1 l1 c1] w K := by
  apply law03_AesBlocks_call
  unfold law03_AesBlocks
  refine alive03_c fun w1 f1 => ⟨_, rfl, cond_f ?_⟩
  refine cond_d (fun _ => h w1 f1) fun hlen => cond_d (fun _ => h w1 f1) fun hlen1 => ?_
  unfold law03_AesBlocks_j3
  refine CopyBytes_c (h0.fr0 f1) hl0 (by omega) fun po co w2 f2 hO hpo => ⟨_, _, _, rfl, ?_⟩
  have n1 := f1.size; have n2 := f2.size
  have hOB : OB w2 po l0 co key w1.heap.size := ⟨hO, hl0, hpo⟩
  by_cases hk : key.length = 16
  · refine newCip_c hOB.row hl0 hk (by rw [← hl0]; exact hOB.cap) fun c w3 f3 hC => ⟨_, _, rfl, ?_⟩
    refine cond_ne (fun hne => by omega) fun _ => ⟨_, _, ptrNil (by kernel_rfl), cond_f (cond_f ?_)⟩
    have n3 := f3.size
    have hcl := hC.lt
    have f03 := (f1.then f2).then f3
    unfold law03_AesBlocks_j2
    refine LoopS.ind (fun k us w' => ∃ (i : Nat) (zs : List UInt8), i + k = 16 ∧ us = [.slice p0 l0 c0, .slice p1 l1 c1, .bool false, .slice po l0 co, .pointer (some ⟨c, 0, none⟩), .int .i64 (i : Int)] ∧ Fr [] w w' ∧ Fr (blks po) w3 w' ∧ OB w' po l0 co zs w1.heap.size) 16
      ⟨0, key, by omega, rfl, f03, Fr.refl _ _, hOB.fr0 f3⟩ ?_
    rintro k us rr w4 I μ hgo ⟨i, zs, hi, rfl, f4, g4, hO4⟩
    refine ⟨_, _, _, _, _, _, _, _, _, _, _, _, rfl, cond_d (fun h2 => ?_) (fun h2 => ?_)⟩
    · have hi16 : i < 16 := by omega
      obtain ⟨a, ha, hca⟩ := hO4.get (k := .i64) (i := i) (by omega)
      refine ⟨a, ha, _, Ld.cell (by kernel_rfl) hca, ?_⟩
      have e : IntKind.u8.wrap (((fl zs i).toNat : Int) + 1) = ((fl zs i + 1).toNat : Int) := by
        rw [IntKind.wrap_u8, UInt8.toNat_add]; simp
      rw [e]
      refine hO4.sto (by omega) fun w5 f5 hO5 s5 => ?_
      rw [wrap64 (by omega) (by omega)]
      exact hgo _ _ _ (k - 1) (by omega) ⟨i + 1, _, by omega, rfl, hO4.news f4 f5 n1, g4.trans f5 (fun z hz => .inl hz), hO5⟩
    · unfold law03_AesBlocks_j1
      have hpc : ∀ z ∈ blks po, z < w2.heap.size := hOB.lt
      have hC4 := hC.fr g4 (fun z hz => .inl (hpc z hz))
      refine Table_c fun pt w5 f5 hT => ⟨_, _, _, rfl, ?_⟩
      refine keysCip_c (hC4.fr0 f5) fun pk ck w6 f6 hK => ⟨_, _, _, rfl, ?_⟩
      have f06 := (f4.then f5).then f6
      refine refKeys_c (h0.fr0 f06) hl0 hk hc0 (hT.row.fr0 f6) rfl fun pr cr w7 f7 hR => ⟨_, _, _, rfl, ?_⟩
      refine SameRows_c (hK.rowB.fr0 f7) (keysL_len _ _).symm hR.rowB (keysL_len _ _).symm (by omega) (fun r hr => by
        simp only [keysL, List.mem_map] at hr; obtain ⟨j, _, rfl⟩ := hr; rw [bl_len]; omega) fun w8 f8 => ⟨_, rfl, ?_⟩
      rw [decide_eq_true rfl]
      refine cond_f ?_
      have f48 := ((f5.then f6).then f7).then f8
      have f08 := f4.then f48
      refine CopyBytes_c (h1.fr0 f08) hl1 (by omega) fun pb cb w9 f9 hB hpb => ⟨_, _, _, rfl, ?_⟩
      have hBO : OB w9 pb l1 cb block w8.heap.size := ⟨hB, hl1, hpb⟩
      have hC9 := (hC4.fr0 f48).fr0 f9
      have g34 := g4.size
      have n48 := f48.size
      have f09 := f08.then f9
      have n09 := f09.size
      refine if hb : block.length = 16 then ?_ else ?_
      · refine encCip_c hC9 (by omega) (by omega) hBO.row hl1 hb (fun z hz => .inr (by have := hpb z hz; omega)) fun pa w10 f10 hC10 ha => ⟨_, _, _, _, rfl, ?_⟩
        refine cond_ne (fun hne => by omega) fun _ => cond_t ?_
        have f010 : Fr [] w w10 := f09.trans f10 (fun z hz => .inr (by simp at hz; omega))
        have hT10 : Row w10 pt (tblL.map vb) := Row.cells_fr (hT.row.fr0 (((f6.then f7).then f8).then f9)) f10 (fun z hz => by
          have := hT.2.2 z hz; simp; omega)
        refine refWith_c (h0.fr0 f010) hl0 hk hc0 (h1.fr0 f010) hl1 hb hT10 rfl fun pw cw w11 f11 hW => ⟨_, _, _, rfl, ?_⟩
        refine SameBytes_c (ha.row.fr0 f11) (aencL_len _ _).symm hW.row (aencL_len _ _).symm (by omega) fun w12 f12 => ⟨_, rfl, ?_⟩
        rw [decide_eq_true rfl]
        refine cond_t ?_
        have f1012 := f11.then f12
        have hB12 : Row w12 pb (block.map vb) := (Row.cells_fr hBO.row f10 (fun z hz => by have := hpb z hz; simp; omega)).fr0 f1012
        refine SameBytes_c hB12 hl1 (h1.fr0 (f010.then f1012)) hl1 (by omega) fun w13 f13 => ⟨_, rfl, ?_⟩
        rw [decide_eq_true rfl]
        refine cond_t ?_
        refine doneCip_c (hC10.fr0 (f1012.then f13)) ⟨_, rfl, ?_⟩
        exact h w13 ((f010.then f1012).then f13)
      · refine encBad_c (by omega) ⟨_, _, _, _, rfl, ?_⟩
        refine cond_ne (fun _ => cond_t (cond_t ?_)) fun he => by omega
        exact doneCip_c hC9 ⟨_, rfl, h w9 f09⟩
  · refine New_bad_c (by omega) ⟨_, _, rfl, ?_⟩
    refine cond_ne (fun _ => ⟨_, _, ptrNil (by kernel_rfl), cond_t ?_⟩) fun he => by omega
    exact h w2 (f1.then f2)
end Go.Sh
end

section
namespace Go.Sh
open Go Go.Fw Go.Proofs
set_option maxRecDepth 100000
set_option linter.unusedVariables false

theorem rows_ld2 {w : World} {p : Option Addr} {rs : List (List UInt8)} (h : RowB w p rs) {l c i : Nat} (hl : l = rs.length) (hi : i < l) {k : IntKind} :
    ∃ a q d, IxA Try.prog 68 (.slice p l c) (.int k (i : Int)) a ∧ w.cell? a = some (.slice q (rs.getD i []).length d) ∧ Row w q ((rs.getD i []).map vb) ∧ (rs.getD i []).length ≤ d := rows_get (t := 68) (by kernel_rfl) h hl hi
set_option maxHeartbeats 2000000 in
theorem AesBack_c {w : World} {p0 p1 p2 : Option Addr} {l0 c0 l1 c1 l2 c2 : Nat} {keys : List (List UInt8)} {block other : List UInt8} (h0 : RowB w p0 keys) (hl0 : l0 = keys.length) (h1 : Row w p1 (block.map vb)) (hl1 : l1 = block.length) (h2 : Row w p2 (other.map vb)) (hl2 : l2 = other.length)
    {K : Value → World → Prop} (h : ∀ w', Fr [] w w' → K (.bool true) w') : callF Try.prog F_law03_AesBack #[.slice p0 l0 c0, .slice p1 l1 c1, .slice p2 l2 c2] w K := by
  apply law03_AesBack_call
  unfold law03_AesBack
  refine alive03_c fun w1 f1 => ⟨_, rfl, cond_f ?_⟩
  refine Long_c (m := 200) (h0.fr0 f1) hl0 (by omega) ⟨_, rfl, cond_t (h w1 f1)⟩ fun hle hlen => ⟨_, rfl, cond_f ?_⟩
  refine cond_ne (fun _ => h w1 f1) fun h16 => cond_ne (fun _ => h w1 f1) fun h16' => ?_
  unfold law03_AesBack_j1
  refine LoopS.ind (fun k us w' => ∃ i : Nat, i + k = l0 ∧ us = [.slice p0 l0 c0, .slice p1 l1 c1, .slice p2 l2 c2, .bool false, .int .i64 (i : Int)] ∧ Fr [] w w') l0 ⟨0, by omega, rfl, f1⟩ ?_
  rintro k us rr w2 I μ hgo ⟨i, hi, rfl, f2⟩
  refine ⟨_, _, _, _, _, _, _, _, _, _, _, rfl, cond_d (fun h3 => ?_) (fun h3 => h w2 f2)⟩
  have hil : i < l0 := by omega
  have n2 := f2.size
  obtain ⟨a, q, d, ha, hca, hq, hqd⟩ := rows_ld2 (h0.fr0 f2) (c := c0) hl0 hil (k := .i64)
  obtain ⟨key, hkey⟩ : ∃ key, key = keys.getD i [] := ⟨_, rfl⟩
  rw [← hkey] at hca hq hqd
  refine ⟨a, ha, _, _, _, Ld.cell (by kernel_rfl) hca, ?_⟩
  have inext : IntKind.i64.wrap ((i : Int) + 1) = ((i + 1 : Nat) : Int) := by rw [wrap64 (by omega) (by omega)]; rfl
  by_cases hk : key.length = 16
  · refine newCip_c hq rfl hk hqd fun c w3 f3 hC => ⟨_, _, rfl, a, ha, _, _, _, Ld.cell (by kernel_rfl) (f3.cell hca (by simp)), ?_⟩
    refine cond_ne (fun hne => by omega) fun _ => ⟨_, _, ptrNil (by kernel_rfl), cond_f ?_⟩
    have f03 := f2.then f3
    have n3 := f3.size
    have hcl := hC.lt
    have hb16 : block.length = 16 := by omega
    have ho16 : other.length = 16 := by omega
    have sb : ∀ z ∈ blks p1, z < w2.heap.size ∨ w3.heap.size ≤ z := fun z hz => .inl (by have := Row.blk_lt h1 (by omega) z hz; omega)
    have so : ∀ z ∈ blks p2, z < w2.heap.size ∨ w3.heap.size ≤ z := fun z hz => .inl (by have := Row.blk_lt h2 (by omega) z hz; omega)
    have sn : ∀ {p : Option Addr} {lo : Nat}, (∀ z ∈ blks p, lo ≤ z) → w3.heap.size ≤ lo → ∀ z ∈ blks p, z < w2.heap.size ∨ w3.heap.size ≤ z := fun hp hl z hz => .inr (Nat.le_trans hl (hp z hz))
    refine encCip_c hC (by omega) (by omega) (h1.fr0 f03) hl1 hb16 sb fun pa w4 f4 hC4 ha4 => ⟨_, _, _, _, rfl, ?_⟩
    have n4 := f4.size
    have f04 : Fr [] w w4 := f03.trans f4 (fun z hz => .inr (by simp at hz; omega))
    refine decCip_c hC4 (by omega) (by omega) ha4.row rfl (aencL_len _ _) (sn ha4.2.2 (Nat.le_refl _)) fun pb w5 f5 hC5 hb5 => ⟨_, _, _, _, rfl, ?_⟩
    have n5 := f5.size
    have f05 : Fr [] w w5 := f04.trans f5 (fun z hz => .inr (by simp at hz; omega))
    refine decCip_c hC5 (by omega) (by omega) (h1.fr0 f05) hl1 hb16 sb fun pd w6 f6 hC6 hd6 => ⟨_, _, _, _, rfl, ?_⟩
    have n6 := f6.size
    have f06 : Fr [] w w6 := f05.trans f6 (fun z hz => .inr (by simp at hz; omega))
    refine encCip_c hC6 (by omega) (by omega) hd6.row rfl (adecL_len _ _) (sn hd6.2.2 (by omega)) fun px w7 f7 hC7 hx7 => ⟨_, _, _, _, rfl, ?_⟩
    have n7 := f7.size
    have f07 : Fr [] w w7 := f06.trans f7 (fun z hz => .inr (by simp at hz; omega))
    refine encCip_c hC7 (by omega) (by omega) (h2.fr0 f07) hl2 ho16 so fun po w8 f8 hC8 ho8 => ⟨_, _, _, _, rfl, ?_⟩
    have f08 : Fr [] w w8 := f07.trans f8 (fun z hz => .inr (by simp at hz; omega))
    refine cond_f (cond_f (cond_f (cond_f (cond_f ?_))))
    have hb8 := ((hb5.fr_sep f6 (by omega)).fr_sep f7 (by omega)).fr_sep f8 (by omega)
    have hx8 := hx7.fr_sep f8 (by omega)
    have ha8 := (((ha4.fr_sep f5 (by omega)).fr_sep f6 (by omega)).fr_sep f7 (by omega)).fr_sep f8 (by omega)
    rw [adecL_aencL _ _ hb16] at hb8
    rw [aencL_adecL _ _ hb16] at hx8
    refine SameBytes_c hb8.row hb16.symm (h1.fr0 f08) hl1 (by omega) fun w9 f9 => ⟨_, rfl, ?_⟩
    rw [decide_eq_true rfl]
    refine cond_f (SameBytes_c (hx8.row.fr0 f9) hb16.symm (h1.fr0 (f08.then f9)) hl1 (by omega) fun w10 f10 => ⟨_, rfl, ?_⟩)
    rw [decide_eq_true rfl]
    refine cond_f (SameBytes_c (ho8.row.fr0 (f9.then f10)) (aencL_len _ _).symm (ha8.row.fr0 (f9.then f10)) (aencL_len _ _).symm (by omega) fun w11 f11 => ⟨_, rfl, ?_⟩)
    have f811 := (f9.then f10).then f11
    refine SameBytes_c (h2.fr0 (f08.then f811)) hl2 (h1.fr0 (f08.then f811)) hl1 (by omega) fun w12 f12 => ⟨_, rfl, ?_⟩
    have e : (decide (aencL key other = aencL key block) == decide (other = block)) = true := by
      rw [beq_iff_eq, decide_eq_decide]
      exact ⟨fun hh => aencL_inj ho16 hb16 hh, fun hh => by rw [hh]⟩
    rw [e]
    refine cond_f (doneCip_c (hC8.fr0 (f811.then f12)) ⟨_, rfl, cond_f ?_⟩)
    rw [inext]
    exact hgo _ _ _ (k - 1) (by omega) ⟨i + 1, by omega, rfl, (f08.then f811).then f12⟩
  · refine New_bad_c (by omega) ⟨_, _, rfl, a, ha, _, _, _, Ld.cell (by kernel_rfl) hca, ?_⟩
    refine cond_ne (fun _ => ⟨_, _, ptrNe (by kernel_rfl), cond_f (cond_f ?_)⟩) fun he => by omega
    rw [inext]
    exact hgo _ _ _ (k - 1) (by omega) ⟨i + 1, by omega, rfl, f2⟩
end Go.Sh
end

section
namespace Go.Sh
open Go Go.Fw Go.Proofs
set_option maxRecDepth 100000
set_option linter.unusedVariables false

def one16 (xs : List UInt8) : Nat := if xs.length = 16 then 1 else 0
theorem encAny_c {w : World} {c : Nat} {key : List UInt8} {d : Nat} {lo hi : Nat} (hC : Cip w c key (d : Int) lo hi) (hd : d < 1000000000000) {p : Option Addr} {l cap : Nat} {xs : List UInt8} (hx : Row w p (xs.map vb)) (hl : l = xs.length) (hpc : 0 < xs.length → ∀ k ∈ blks p, k < lo ∨ hi ≤ k) {K : Value → World → Prop}
    (h : ∀ p' c' (e : Int) out w', Fr [c] w w' → Cip w' c key ((d + one16 xs : Nat) : Int) lo hi → OB w' p' out.length c' out w.heap.size → ((xs.length = 16 ∧ e = 0 ∧ out = aencL key xs) ∨ (xs.length ≠ 16 ∧ e = 11 ∧ out = [])) → K (.tuple #[.slice p' out.length c', .int .i64 e]) w') :
    callF Try.prog F_aes_Cipher_Encrypt #[.pointer (some ⟨c, 0, none⟩), .slice p l cap] w K := by
  by_cases h16 : xs.length = 16
  · refine encCip_c hC (by omega) (by omega) hx hl h16 (hpc (by omega)) fun p' w' f hC' ho => ?_
    have e : one16 xs = 1 := if_pos h16
    have := h p' 16 0 (aencL key xs) w' f (by rw [e]; exact hC') (by rw [aencL_len]; exact ho) (.inl ⟨h16, rfl, rfl⟩)
    rw [aencL_len] at this
    exact this
  · have e : one16 xs = 0 := if_neg h16
    exact encBad_c (by omega) (h none 0 11 [] w (Fr.refl _ _) (by rw [e]; exact hC) (OB.nil _ _) (.inr ⟨h16, rfl, rfl⟩))
theorem decAny_c {w : World} {c : Nat} {key : List UInt8} {d : Nat} {lo hi : Nat} (hC : Cip w c key (d : Int) lo hi) (hd : d < 1000000000000) {p : Option Addr} {l cap : Nat} {xs : List UInt8} (hx : Row w p (xs.map vb)) (hl : l = xs.length) (hpc : 0 < xs.length → ∀ k ∈ blks p, k < lo ∨ hi ≤ k) {K : Value → World → Prop}
    (h : ∀ p' c' (e : Int) out w', Fr [c] w w' → Cip w' c key ((d + one16 xs : Nat) : Int) lo hi → OB w' p' out.length c' out w.heap.size → ((xs.length = 16 ∧ e = 0 ∧ out = adecL key xs) ∨ (xs.length ≠ 16 ∧ e = 11 ∧ out = [])) → K (.tuple #[.slice p' out.length c', .int .i64 e]) w') :
    callF Try.prog F_aes_Cipher_Decrypt #[.pointer (some ⟨c, 0, none⟩), .slice p l cap] w K := by
  by_cases h16 : xs.length = 16
  · refine decCip_c hC (by omega) (by omega) hx hl h16 (hpc (by omega)) fun p' w' f hC' ho => ?_
    have e : one16 xs = 1 := if_pos h16
    have := h p' 16 0 (adecL key xs) w' f (by rw [e]; exact hC') (by rw [adecL_len]; exact ho) (.inl ⟨h16, rfl, rfl⟩)
    rw [adecL_len] at this
    exact this
  · have e : one16 xs = 0 := if_neg h16
    exact decBad_c (by omega) (h none 0 11 [] w (Fr.refl _ _) (by rw [e]; exact hC) (OB.nil _ _) (.inr ⟨h16, rfl, rfl⟩))
def cntF (f : Nat → Nat) : Nat → Nat
  | 0 => 0
  | i + 1 => cntF f i + f i
theorem cntF_front (f : Nat → Nat) (n : Nat) : cntF f (n + 1) = f 0 + cntF (fun j => f (j + 1)) n := by
  induction n with
  | zero => show 0 + f 0 = f 0 + 0; omega
  | succ n ih => show cntF f (n + 1) + f (n + 1) = f 0 + (cntF (fun j => f (j + 1)) n + f (n + 1)); rw [ih]; omega
theorem cntF_congr {f g : Nat → Nat} : ∀ n, (∀ j, j < n → f j = g j) → cntF f n = cntF g n := by
  intro n
  induction n with
  | zero => intro _; rfl
  | succ n ih => intro h; show cntF f n + f n = cntF g n + g n; rw [ih fun j hj => h j (by omega), h n (by omega)]
theorem cntF_rev : ∀ (n : Nat) (f : Nat → Nat), cntF (fun j => f (n - 1 - j)) n = cntF f n := by
  intro n
  induction n with
  | zero => intro f; rfl
  | succ n ih =>
    intro f
    rw [cntF_front f]
    show cntF (fun j => f (n + 1 - 1 - j)) n + f (n + 1 - 1 - n) = _
    rw [← ih (fun j => f (j + 1)), show n + 1 - 1 - n = 0 by omega, Nat.add_comm]
    congr 1
    exact cntF_congr n fun j hj => by show f _ = f _; congr 1; omega
theorem cntF_le {f : Nat → Nat} (h : ∀ j, f j ≤ 1) (n : Nat) : cntF f n ≤ n := by
  induction n with
  | zero => exact Nat.le_refl _
  | succ n ih => show cntF f n + f n ≤ n + 1; have := h n; omega
theorem one16_le (xs : List UInt8) : one16 xs ≤ 1 := by unfold one16; split <;> omega

set_option maxHeartbeats 2000000 in
theorem AesCounts_c {w : World} {p0 p1 : Option Addr} {l0 c0 l1 c1 : Nat} {key : List UInt8} {blocks : List (List UInt8)} (h0 : Row w p0 (key.map vb)) (hl0 : l0 = key.length) (hc0 : l0 ≤ c0) (h1 : RowB w p1 blocks) (hl1 : l1 = blocks.length)
    {K : Value → World → Prop} (h : ∀ w', Fr [] w w' → K (.bool true) w') : callF Try.prog F_law03_AesCounts #[.slice p0 l0 c0, .slice p1 l1 c1] w K := by
  apply law03_AesCounts_call
  unfold law03_AesCounts
  refine alive03_c fun w1 f1 => ⟨_, rfl, cond_f ?_⟩
  refine cond_ne (fun _ => h w1 f1) fun h16 => ?_
  refine Long_c (m := 400) (h1.fr0 f1) hl1 (by omega) ⟨_, rfl, cond_t (h w1 f1)⟩ fun hle hlen => ⟨_, rfl, cond_f ?_⟩
  refine cond_d (fun _ => h w1 f1) fun h20 => ?_
  unfold law03_AesCounts_j4
  have hk : key.length = 16 := by omega
  refine newCip_c (h0.fr0 f1) hl0 hk (by omega) fun c w2 f2 hC2 => ⟨_, _, rfl, ?_⟩
  refine newCip_c ((h0.fr0 f1).fr0 f2) hl0 hk (by omega) fun d w3 f3 hD3 => ⟨_, _, rfl, ?_⟩
  refine ⟨_, _, ptrNil (by kernel_rfl), cond_f ⟨_, _, ptrNil (by kernel_rfl), cond_f (cond_f (cond_f ?_))⟩⟩
  unfold law03_AesCounts_j3
  have hC3 := hC2.fr0 f3
  have f03 := (f1.then f2).then f3
  have n1 := f1.size; have n2 := f2.size; have n3 := f3.size
  have hcl := hC2.lt
  have hdl := hD3.lt
  obtain ⟨B, hB⟩ : ∃ B : Nat → List UInt8, B = fun i => blocks.getD i [] := ⟨_, rfl⟩
  have hBi : ∀ i, blocks.getD i [] = B i := fun i => by rw [hB]
  refine LoopS.ind (fun k us w' => ∃ i : Nat, i + k = l1 ∧ us = [.slice p1 l1 c1, .bool false, .pointer (some ⟨c, 0, none⟩), .pointer (some ⟨d, 0, none⟩), .int .i64 ((cntF (fun j => one16 (B j)) i : Nat) : Int), .int .i64 (i : Int)] ∧ Fr [] w w' ∧ w3.heap.size ≤ w'.heap.size ∧
      Cip w' c key ((cntF (fun j => one16 (B j)) i : Nat) : Int) w1.heap.size w2.heap.size ∧ Cip w' d key ((cntF (fun j => one16 (B j)) i + cntF (fun j => one16 (B (l1 - 1 - j))) i : Nat) : Int) w2.heap.size w3.heap.size) l1
    ⟨0, by omega, rfl, f03, Nat.le_refl _, hC3, hD3⟩ ?_
  rintro k us rr w4 I μ hgo ⟨i, hi, rfl, f4, k34, hC4, hD4⟩
  have b1 := cntF_le (f := fun j => one16 (B j)) (fun j => one16_le _) i
  have b2 := cntF_le (f := fun j => one16 (B (l1 - 1 - j))) (fun j => one16_le _) i
  obtain ⟨n, hn⟩ : ∃ n, n = cntF (fun j => one16 (B j)) i := ⟨_, rfl⟩
  obtain ⟨m, hm⟩ : ∃ m, m = cntF (fun j => one16 (B (l1 - 1 - j))) i := ⟨_, rfl⟩
  rw [← hn] at b1
  rw [← hm] at b2
  rw [← hn] at hC4 hgo
  rw [← hn, ← hm] at hD4
  rw [← hn]
  have n4 := f4.size
  have k4 := (f03.size)
  refine ⟨_, _, _, _, _, _, _, _, rfl, cond_d (fun h3 => ?_) (fun h3 => ?_)⟩
  · have hil : i < l1 := by omega
    have e1 : IntKind.i64.wrap (IntKind.i64.wrap ((l1 : Int) - 1) - (i : Int)) = ((l1 - 1 - i : Nat) : Int) := by
      rw [wrap64 (n := (l1 : Int) - 1) (by omega) (by omega), wrap64 (by omega) (by omega)]; omega
    rw [e1]
    obtain ⟨a, q, dd, ha, hca, hq, hqd⟩ := rows_ld2 (h1.fr0 f4) (c := c1) hl1 hil (k := .i64)
    rw [hBi] at hca hq
    have hq0 : 0 < (B i).length → ∀ z ∈ blks q, z < w1.heap.size := by
      intro h0 z hz
      obtain ⟨a', q', d', ha', hca', hq', _⟩ := rows_ld2 h1 (c := c1) hl1 hil (k := .i64)
      rw [hBi] at hca' hq'
      have ea : a' = a := by have := ha'.symm.trans ha; simpa using this
      subst ea
      have := f4.cell hca' (by simp)
      rw [hca] at this
      have eq : q = q' := by simp at this; exact this.1
      subst eq
      have := Row.blk_lt hq' h0 z hz; omega
    refine ⟨a, ha, _, _, _, Ld.cell (by kernel_rfl) hca, ?_⟩
    refine encAny_c hC4 (by omega) hq rfl (fun h0 z hz => .inl (hq0 h0 z hz)) fun pa ca e out w5 f5 hC5 ho ho' => ⟨_, _, _, _, rfl, ?_⟩
    have f05 : Fr [] w w5 := f4.trans f5 (fun z hz => .inr (by simp at hz; omega))
    have n5 := f5.size
    have hD5 := hD4.fr f5 (fun z hz => by simp at hz; omega)
    obtain ⟨a2, q2, d2, ha2, hca2, hq2, _⟩ := rows_ld2 (h1.fr0 f05) (c := c1) hl1 (i := l1 - 1 - i) (by omega) (k := .i64)
    rw [hBi] at hca2 hq2
    have hq20 : 0 < (B (l1 - 1 - i)).length → ∀ z ∈ blks q2, z < w2.heap.size := by
      intro h0 z hz
      obtain ⟨a', q', d', ha', hca', hq', _⟩ := rows_ld2 h1 (c := c1) hl1 (i := l1 - 1 - i) (by omega) (k := .i64)
      rw [hBi] at hca' hq'
      have ea : a' = a2 := by have := ha'.symm.trans ha2; simpa using this
      subst ea
      have := f05.cell hca' (by simp)
      rw [hca2] at this
      have eq : q2 = q' := by simp at this; exact this.1
      subst eq
      have := Row.blk_lt hq' h0 z hz; omega
    refine ⟨a2, ha2, _, _, _, Ld.cell (by kernel_rfl) hca2, ?_⟩
    refine decAny_c hD5 (by omega) hq2 rfl (fun h0 z hz => .inl (hq20 h0 z hz)) fun pb cb e2 out2 w6 f6 hD6 ho2 ho2' => ⟨_, _, _, _, rfl, ?_⟩
    have f06 : Fr [] w w6 := f05.trans f6 (fun z hz => .inr (by simp at hz; omega))
    have n6 := f6.size
    have c6 : w6.cell? a = some (.slice q (B i).length dd) := by
      obtain ⟨a', q', d', ha', hca', hq', _⟩ := rows_ld2 h1 (c := c1) hl1 hil (k := .i64)
      rw [hBi] at hca'
      have ea : a' = a := by have := ha'.symm.trans ha; simpa using this
      subst ea
      have h5 := f4.cell hca' (by simp)
      have h6 := f06.cell hca' (by simp)
      rw [h5] at hca
      rw [h6, hca]
    have hq6 : Row w6 q ((B i).map vb) := by
      obtain ⟨a', q', d', ha', hca', hq', _⟩ := rows_ld2 (h1.fr0 f06) (c := c1) hl1 hil (k := .i64)
      rw [hBi] at hca' hq'
      have ea : a' = a := by have := ha'.symm.trans ha; simpa using this
      subst ea
      rw [c6] at hca'
      have eq : q = q' := by simp at hca'; exact hca'.1
      rw [eq]; exact hq'
    have hC6 := hC5.fr f6 (fun z hz => by simp at hz; omega)
    refine ⟨a, ha, _, _, _, Ld.cell (by kernel_rfl) c6, ?_⟩
    refine encAny_c hD6 (by have := one16_le (B (l1 - 1 - i)); omega) hq6 rfl (fun h0 z hz => .inl (by have := hq0 h0 z hz; omega)) fun pc cc e3 out3 w7 f7 hD7 ho3 ho3' => ⟨_, _, _, _, rfl, ?_⟩
    have f07 : Fr [] w w7 := f06.trans f7 (fun z hz => .inr (by simp at hz; omega))
    have n7 := f7.size
    have hC7 := hC6.fr f7 (fun z hz => by simp at hz; omega)
    have c7 : w7.cell? a = some (.slice q (B i).length dd) := by
      obtain ⟨a', q', d', ha', hca', hq', _⟩ := rows_ld2 h1 (c := c1) hl1 hil (k := .i64)
      rw [hBi] at hca'
      have ea : a' = a := by have := ha'.symm.trans ha; simpa using this
      subst ea
      have h6 := f06.cell hca' (by simp)
      have h7 := f07.cell hca' (by simp)
      rw [h6] at c6
      rw [h7, c6]
    refine ⟨a, ha, _, _, _, Ld.cell (by kernel_rfl) c7, ?_⟩
    have eo : e = e3 ∧ out = out3 ∧ ((e == 0) == (((B i).length : Int) == 16)) = true := by
      rcases ho' with ⟨x1, x2, x3⟩ | ⟨x1, x2, x3⟩ <;> rcases ho3' with ⟨y1, y2, y3⟩ | ⟨y1, y2, y3⟩
      · refine ⟨by rw [x2, y2], by rw [x3, y3], ?_⟩
        rw [x2, x1]; rfl
      · exact absurd x1 y1
      · exact absurd y1 x1
      · refine ⟨by rw [x2, y2], by rw [x3, y3], ?_⟩
        rw [x2]
        have : (((B i).length : Int) == 16) = false := by rw [beq_eq_false_iff_ne]; omega
        rw [this]; rfl
    obtain ⟨rfl, rfl, eo3⟩ := eo
    have eo2 : ((e2 == 0) == ((out2.length : Int) == 16)) = true := by
      rcases ho2' with ⟨x1, x2, x3⟩ | ⟨x1, x2, x3⟩
      · rw [x2, x3, adecL_len]; rfl
      · rw [x2, x3]; rfl
    rw [eo3]
    refine cond_f (cond_ne (fun hne => absurd rfl hne) fun _ => ?_)
    have ho7 : OB w7 pa out.length ca out w4.heap.size := (ho.fr_sep f6 (by omega)).fr_sep f7 (by omega)
    have holen : out.length ≤ 16 := by rcases ho' with ⟨x1, x2, x3⟩ | ⟨x1, x2, x3⟩ <;> rw [x3]; rw [aencL_len]; exact Nat.le_refl _; simp
    refine SameBytes_c ho7.row rfl ho3.row rfl (by omega) fun w8 f8 => ⟨_, rfl, ?_⟩
    rw [decide_eq_true rfl, eo2]
    refine cond_f (cond_f ?_)
    have f08 := f07.then f8
    have hC8 := hC7.fr0 f8
    have hD8 := hD7.fr0 f8
    unfold law03_AesCounts_j1
    have hn1 : cntF (fun j => one16 (B j)) (i + 1) = n + one16 (B i) := by rw [hn]; rfl
    have hm1 : cntF (fun j => one16 (B (l1 - 1 - j))) (i + 1) = m + one16 (B (l1 - 1 - i)) := by rw [hm]; rfl
    have hgo' : ∀ v : Int, v = ((cntF (fun j => one16 (B j)) (i + 1) : Nat) : Int) → goesOn [] [] I μ [.slice p1 l1 c1, .bool false, .pointer (some ⟨c, 0, none⟩), .pointer (some ⟨d, 0, none⟩), .int .i64 (n : Int), .int .i64 (i : Int)]
        [.slice p1 l1 c1, .bool false, .pointer (some ⟨c, 0, none⟩), .pointer (some ⟨d, 0, none⟩), .int .i64 v, .int .i64 (IntKind.i64.wrap ((i : Int) + 1))] w4 w8 := by
      rintro v rfl
      rw [wrap64 (by omega) (by omega)]
      refine hgo _ _ _ (k - 1) (by omega) ⟨i + 1, by omega, rfl, f08, by have := f8.size; omega, by rw [hn1]; exact hC8, ?_⟩
      rw [hn1, hm1, show n + one16 (B i) + (m + one16 (B (l1 - 1 - i))) = n + m + one16 (B (l1 - 1 - i)) + one16 (B i) by omega]
      exact hD8
    refine cond_eq (fun he => ?_) (fun he => ?_)
    · refine hgo' _ ?_
      have : one16 (B i) = 1 := by
        rcases ho' with ⟨x1, x2, x3⟩ | ⟨x1, x2, x3⟩
        · exact if_pos x1
        · rw [x2] at he; cases he
      have e9 : IntKind.i64.wrap ((n : Int) + 1) = ((n + 1 : Nat) : Int) := by rw [wrap64 (by omega) (by omega)]; rfl
      rw [e9, hn1, this]
    · refine hgo' _ ?_
      have : one16 (B i) = 0 := by
        rcases ho' with ⟨x1, x2, x3⟩ | ⟨x1, x2, x3⟩
        · exact absurd x2 he
        · exact if_neg x1
      rw [hn1, this]; rfl
  · have hil : i = l1 := by omega
    subst hil
    unfold law03_AesCounts_j2
    have hmn : m = n := by rw [hm, hn]; exact cntF_rev i (fun j => one16 (B j))
    rw [hmn] at hD4
    refine doneCip_c hC4 ⟨_, rfl, ?_⟩
    rw [beq_self_eq_true]
    refine cond_t (doneCip_c hD4 ⟨_, rfl, ?_⟩)
    rw [wrap64 (by omega) (by omega)]
    have : (((n + n : Nat) : Int) == 2 * (n : Int)) = true := by rw [beq_iff_eq]; omega
    rw [this]
    exact h w4 f4
end Go.Sh
end

section
namespace Go.Sh
open Go Go.Fw Go.Proofs
set_option maxRecDepth 100000
set_option linter.unusedVariables false

def rowsK (g : Nat → Nat → UInt8) : List (List UInt8) := (List.range 11).map fun r => bl 16 (g r)
theorem rowsK_len (g : Nat → Nat → UInt8) : (rowsK g).length = 11 := by simp [rowsK]
theorem rowsK_at (g : Nat → Nat → UInt8) {r : Nat} (h : r < 11) : (rowsK g).getD r [] = bl 16 (g r) := by simp [rowsK, h]
def upd2 (g : Nat → Nat → UInt8) (i j : Nat) (x : UInt8) : Nat → Nat → UInt8 := fun r s => if r = i ∧ s = j then x else g r s
theorem rowsK_set (g : Nat → Nat → UInt8) {i j : Nat} (x : UInt8) (hi : i < 11) (hj : j < 16) : (rowsK g).set i ((bl 16 (g i)).set j x) = rowsK (upd2 g i j x) := by
  apply List.ext_getElem?
  intro r
  rw [List.getElem?_set]
  by_cases hr : r < 11
  · have e : (rowsK (upd2 g i j x))[r]? = some (bl 16 (upd2 g i j x r)) := by simp [rowsK, hr]
    rw [e]
    by_cases hir : i = r
    · subst hir
      rw [if_pos rfl, if_pos (by rw [rowsK_len]; exact hi)]
      congr 1
      apply List.ext_getElem?
      intro s
      rw [List.getElem?_set]
      by_cases hs : s < 16
      · have e1 : (bl 16 (upd2 g i j x i))[s]? = some (upd2 g i j x i s) := bl_get hs
        have e2 : (bl 16 (g i))[s]? = some (g i s) := bl_get hs
        rw [e1, e2]
        by_cases hjs : j = s
        · subst hjs; rw [if_pos rfl, if_pos (by rw [bl_len]; exact hj)]; unfold upd2; rw [if_pos ⟨rfl, rfl⟩]
        · rw [if_neg hjs]; unfold upd2; rw [if_neg (by omega)]
      · have : j ≠ s := by omega
        rw [if_neg this, List.getElem?_eq_none (by rw [bl_len]; omega), List.getElem?_eq_none (by rw [bl_len]; omega)]
    · rw [if_neg hir]
      have e2 : (rowsK g)[r]? = some (bl 16 (g r)) := by simp [rowsK, hr]
      rw [e2]
      congr 1
      exact bl_congr fun s hs => by show g r s = upd2 g i j x r s; unfold upd2; rw [if_neg (by omega)]
  · have : i ≠ r := by omega
    rw [if_neg this, List.getElem?_eq_none (by rw [rowsK_len]; omega), List.getElem?_eq_none (by rw [rowsK_len]; omega)]
set_option maxHeartbeats 2000000 in
theorem AesKeys_c {w : World} {p0 : Option Addr} {l0 c0 : Nat} {key : List UInt8} (h0 : Row w p0 (key.map vb)) (hl0 : l0 = key.length) (hc0 : l0 ≤ c0)
    {K : Value → World → Prop} (h : ∀ w', Fr [] w w' → K (.bool true) w') : callF Try.prog F_law03_AesKeys #[.slice p0 l0 c0] w K := by
  apply law03_AesKeys_call
  unfold law03_AesKeys
  refine alive03_c fun w1 f1 => ⟨_, rfl, cond_f ?_⟩
  by_cases hk : key.length = 16
  · refine newCip_c (h0.fr0 f1) hl0 hk (by omega) fun c w2 f2 hC => ⟨_, _, rfl, ?_⟩
    refine cond_ne (fun hne => by omega) fun _ => ⟨_, _, ptrNil (by kernel_rfl), cond_f ?_⟩
    refine keysCip_c hC fun pk ck w3 f3 hK => ⟨_, _, _, rfl, cond_f ?_⟩
    have f03 := (f1.then f2).then f3
    have n1 := f1.size; have n2 := f2.size; have n3 := f3.size
    have hcl := hC.lt
    obtain ⟨A, hA⟩ : ∃ A, A = akeys (fl key) := ⟨_, rfl⟩
    have hK : ORows w3 pk 11 ck (rowsK (fun r j => A (16 * r + j))) w2.heap.size w3.heap.size := by rw [hA]; exact hK
    have ekey : bl 16 (fun j => A (16 * 0 + j)) = key := by
      have h1 : bl 16 (fun j => A (16 * 0 + j)) = bl 16 (fl key) := bl_congr fun j hj => by
        show A (16 * 0 + j) = _; rw [show 16 * 0 + j = j by omega, hA]; exact akeys_first _ j hj
      rw [h1]; exact (xs_bl hk).symm
    obtain ⟨a, q, d, ha, hca, hO, hq⟩ := hK.get (i := 0) (by omega) (k := .i64)
    rw [rowsK_at _ (by omega), ekey] at hca hO
    refine ⟨a, ha, _, _, _, Ld.cell (by kernel_rfl) hca, ?_⟩
    refine SameBytes_c hO.row rfl (h0.fr0 f03) hl0 (by omega) fun w4 f4 => ⟨_, rfl, ?_⟩
    rw [decide_eq_true rfl]
    refine cond_f ?_
    unfold law03_AesKeys_j3
    have hC4 := (hC.fr0 f3).fr0 f4
    refine LoopS.ind (fun k us w' => ∃ (i : Nat) (g : Nat → Nat → UInt8), 1 ≤ i ∧ i + k = 11 ∧ us = [.bool false, .pointer (some ⟨c, 0, none⟩), .slice pk 11 ck, .int .i64 (i : Int)] ∧ Fr [] w w' ∧ w3.heap.size ≤ w'.heap.size ∧ Cip w' c key 0 w1.heap.size w2.heap.size ∧ ORows w' pk 11 ck (rowsK g) w2.heap.size w3.heap.size ∧
        (∀ r j, 1 ≤ j → g r j = A (16 * r + j)) ∧ (1 < i → g 1 0 = A 16 + 1) ∧ ∀ r, i ≤ r → g r 0 = A (16 * r)) 10
      ⟨1, _, by omega, by omega, rfl, f03.then f4, f4.size, hC4, hK.fr0 f4, fun r j _ => rfl, by omega, fun r _ => rfl⟩ ?_
    rintro k us rr w5 I μ hgo ⟨i, g, hi1, hi, rfl, f5, k5, hC5, hR5, g1, g2, g3⟩
    refine ⟨_, _, _, _, _, _, rfl, cond_d (fun h3 => ?_) (fun h3 => ?_)⟩
    · have hi11 : i < 11 := by omega
      obtain ⟨a, q, d, ha, hca, hOa, hq⟩ := hR5.get (i := i) hi11 (k := .i64)
      rw [rowsK_at _ hi11, bl_len] at hca hOa
      refine ⟨a, ha, _, _, _, Ld.cell (by kernel_rfl) hca, cond_f ?_⟩
      have e1 : IntKind.i64.wrap ((i : Int) - 1) = ((i - 1 : Nat) : Int) := by rw [wrap64 (by omega) (by omega)]; omega
      obtain ⟨b, q2, d2, hb, hcb, hOb, hq2⟩ := hR5.get (i := i - 1) (by omega) (k := .i64)
      rw [rowsK_at _ (by omega), bl_len] at hcb hOb
      refine LoopS.ind (fun k us w' => ∃ j : Nat, 4 ≤ j ∧ j + k = 16 ∧ us = [.bool false, .pointer (some ⟨c, 0, none⟩), .slice pk 11 ck, .int .i64 (i : Int), .int .i64 (j : Int)] ∧ Fr [] w5 w') 12
        ⟨4, by omega, by omega, rfl, Fr.refl _ _⟩ ?_
      rintro k2 us2 rr2 w6 I2 μ2 hgo2 ⟨j, hj4, hj, rfl, f6⟩
      refine ⟨_, _, _, _, _, _, _, rfl, cond_d (fun h4 => ?_) (fun h4 => ?_)⟩
      · have hj16 : j < 16 := by omega
        have e4 : IntKind.i64.wrap ((j : Int) - 4) = ((j - 4 : Nat) : Int) := by rw [wrap64 (by omega) (by omega)]; omega
        obtain ⟨x1, hx1, cx1⟩ := row_get (t := 50) (by kernel_rfl) hOa.row (c := d) (l := 16) (by rw [bl_len]) (i := j) hj16 (k := .i64)
        obtain ⟨x2, hx2, cx2⟩ := row_get (t := 50) (by kernel_rfl) hOb.row (c := d2) (l := 16) (by rw [bl_len]) (i := j) hj16 (k := .i64)
        obtain ⟨x3, hx3, cx3⟩ := row_get (t := 50) (by kernel_rfl) hOa.row (c := d) (l := 16) (by rw [bl_len]) (i := j - 4) (by omega) (k := .i64)
        rw [bl_getD hj16] at cx1 cx2
        rw [bl_getD (by omega)] at cx3
        refine ⟨fun w' => Fr [] w5 w', Drw.intro fun w7 f7 s7 => ?_⟩
        have f57 := f6.then f7
        rw [e1, e4]
        refine ⟨a, ha, b, hb, a, ha, q, 16, d, ⟨f57, fun w' hw' => Ld.cell (by kernel_rfl) (hw'.cell hca (by simp))⟩, x1, hx1, _, ⟨f57, fun w' hw' => Ld.cell (by kernel_rfl) (hw'.cell cx1 (by simp))⟩,
          q2, 16, d2, ⟨f57, fun w' hw' => Ld.cell (by kernel_rfl) (hw'.cell hcb (by simp))⟩, x2, hx2, _, ⟨f57, fun w' hw' => Ld.cell (by kernel_rfl) (hw'.cell cx2 (by simp))⟩, q, 16, d, Ld.cell (by kernel_rfl) (f57.cell hca (by simp)), .inl rfl,
          x3, hx3, _, Ld.cell (by kernel_rfl) (f57.cell cx3 (by simp)), .inl rfl, ?_⟩
        have e5 : g i j = g (i - 1) j ^^^ g i (j - 4) := by
          rw [g1 i j (by omega), g1 (i - 1) j (by omega)]
          have : g i (j - 4) = A (16 * i + (j - 4)) := by
            by_cases hj5 : j - 4 = 0
            · rw [hj5]; exact g3 i (Nat.le_refl _)
            · exact g1 i _ (by omega)
          rw [this, hA]
          exact akeys_hang _ hi1 hi11 hj4 hj16
        rw [xor8, ← e5]
        refine cond_ne (fun hne => absurd rfl hne) fun _ => ?_
        rw [wrap64 (by omega) (by omega)]
        exact hgo2 _ _ _ (k2 - 1) (by omega) ⟨j + 1, by omega, by omega, rfl, f57⟩
      · unfold law03_AesKeys_j1
        have hR6 := hR5.fr0 f6
        have hca6 := f6.cell hca (by simp)
        have hOa6 := hOa.fr0 f6
        obtain ⟨x1, hx1, cx1⟩ := row_get (t := 50) (by kernel_rfl) hOa6.row (c := d) (l := 16) (by rw [bl_len]) (i := 0) (by omega) (k := .i64)
        rw [bl_getD (by omega)] at cx1
        refine ⟨a, ha, _, _, _, Ld.cell (by kernel_rfl) hca6, x1, hx1, _, Ld.cell (by kernel_rfl) cx1, ?_⟩
        have e : IntKind.u8.wrap (((g i 0).toNat : Int) + 1) = ((g i 0 + 1).toNat : Int) := by
          rw [IntKind.wrap_u8, UInt8.toNat_add]; simp
        rw [e]
        refine OwnS.sto (P := Try.prog) (by kernel_rfl) (by kernel_rfl) hOa6 (k := .i64) (i := 0) (by omega) (by omega) rfl rfl fun w7 f7 hO7 s7 => ?_
        have hO7' : OwnS w7 q 16 d (((bl 16 (g i)).set 0 (g i 0 + 1)).map vb) := by rw [List.map_set]; exact hO7
        have hR7 := hR6.sto hi11 ha hca6 f7 hO7' (by simp [bl_len])
        rw [rowsK_set _ _ hi11 (by omega)] at hR7
        rw [wrap64 (by omega) (by omega)]
        have hC7 := (hC5.fr0 f6).fr f7 (fun z hz => .inr (by have := hq z hz; omega))
        have n6 := f6.size
        refine hgo _ _ _ (k - 1) (by omega) ⟨i + 1, _, by omega, by omega, rfl, (f5.then f6).trans f7 (fun z hz => .inr (by have := hq z hz; omega)), by omega, hC7, hR7, fun r j hj => ?_, fun _ => ?_, fun r hr => ?_⟩
        · unfold upd2; rw [if_neg (by omega)]; exact g1 r j hj
        · unfold upd2
          by_cases hi2 : i = 1
          · subst hi2; rw [if_pos ⟨rfl, rfl⟩, g3 1 (Nat.le_refl _)]
          · rw [if_neg (by omega)]; exact g2 (by omega)
        · unfold upd2; rw [if_neg (by omega)]; exact g3 r (by omega)
    · have hi11 : i = 11 := by omega
      subst hi11
      unfold law03_AesKeys_j2
      refine keysCip_c hC5 fun pg cg w6 f6 hG => ⟨_, _, _, rfl, ?_⟩
      have hG : ORows w6 pg 11 cg (rowsK (fun r j => A (16 * r + j))) w5.heap.size w6.heap.size := by rw [hA]; exact hG
      obtain ⟨a, q, d, ha, hca, hOa, hq⟩ := hG.get (i := 1) (by omega) (k := .i64)
      rw [rowsK_at _ (by omega), bl_len] at hca hOa
      obtain ⟨b, q2, d2, hb, hcb, hOb, hq2⟩ := (hR5.fr0 f6).get (i := 1) (by omega) (k := .i64)
      rw [rowsK_at _ (by omega), bl_len] at hcb hOb
      obtain ⟨x1, hx1, cx1⟩ := row_get (t := 50) (by kernel_rfl) hOa.row (c := d) (l := 16) (by rw [bl_len]) (i := 0) (by omega) (k := .i64)
      obtain ⟨x2, hx2, cx2⟩ := row_get (t := 50) (by kernel_rfl) hOb.row (c := d2) (l := 16) (by rw [bl_len]) (i := 0) (by omega) (k := .i64)
      rw [bl_getD (by omega)] at cx1 cx2
      refine ⟨fun w' => Fr [] w6 w', Drw.intro fun w7 f7 s7 => cond_t ?_⟩
      refine ⟨a, ha, b, hb, q, 16, d, ⟨f7, fun w' hw' => Ld.cell (by kernel_rfl) (hw'.cell hca (by simp))⟩, x1, hx1, _, ⟨f7, fun w' hw' => Ld.cell (by kernel_rfl) (hw'.cell cx1 (by simp))⟩,
        q2, 16, d2, Ld.cell (by kernel_rfl) (f7.cell hcb (by simp)), .inl rfl, x2, hx2, _, Ld.cell (by kernel_rfl) (f7.cell cx2 (by simp)), .inl rfl, ?_⟩
      rw [g2 (by omega), bne, beq8]
      have : (A 16 == A 16 + 1) = false := by
        have := all8 (p := fun a => !(a == a + 1)) (by kernel_rfl) (A 16)
        simp at this ⊢
      show K (.bool (!(A 16 == A 16 + 1))) w7
      rw [this]
      exact h w7 ((f5.then f6).then f7)
  · refine New_bad_c (by omega) ⟨_, _, rfl, ?_⟩
    refine cond_ne (fun _ => ⟨_, _, ptrNil (by kernel_rfl), cond_t ?_⟩) fun he => by omega
    exact h w1 f1
end Go.Sh
end
