/- A part of a proof of a given law of this program: lemmas, printed forms of its functions, contracts. It has no conditions of its own. -/
import Derived.Test.YtlphgbgfnjhhcaaCTab
namespace Go.Sh
open Go Go.Fw Go.Proofs
set_option maxRecDepth 100000
set_option linter.unusedVariables false

theorem wrapb {i : Nat} (h : i < 256) : IntKind.u8.wrap (i : Int) = ((UInt8.ofNat i).toNat : Int) := by
  rw [wrap8 (by omega) (by omega)]; simp; omega

/-- The tables' object in block b: made or not; its products are by bl. -/
structure Tab (w : World) (b : Nat) (bl : List UInt8) (f : Nat → Value) (p : Option Addr) (c : Nat) : Prop where
  blk : Blk w b 518 f
  by_ : f 0 = .slice p bl.length c
  row : Row w p (bl.map vb)
  apart : ∀ k ∈ blks p, k ≠ b
  mu : f 2 = .int .i32 0
def TabNew (w : World) (b : Nat) (bl : List UInt8) : Prop := ∃ f p c, Tab w b bl f p c ∧ f 1 = .int .u32 0 ∧ f 4 = .int .i64 0
/-- What the tables hold. -/
def TabOk (w : World) (b : Nat) (bl : List UInt8) (f : Nat → Value) (n : Nat) : Prop :=
  (∀ i, i < n → f (5 + i) = vb (gsign (UInt8.ofNat i))) ∧ (∀ i, i < n → f (261 + (gsign (UInt8.ofNat i)).toNat) = vb (UInt8.ofNat i)) 
def RowsOk (bl : List UInt8) (ft : Nat → Value) (n : Nat) : Prop := ∀ k x, bl[k]? = some x → ∀ i, i < n → ft (k * 256 + i) = vb (gmul (UInt8.ofNat i) x)
def TabMade (w : World) (b : Nat) (bl : List UInt8) : Prop :=
  ∃ f p c q cq ft, Tab w b bl f p c ∧ f 1 = .int .u32 1 ∧ f 4 = .int .i64 1 ∧ TabOk w b bl f 256 ∧ f 517 = .slice (some ⟨q, 0, none⟩) bl.length cq ∧ q ≠ b ∧ Blk w q (bl.length * 256) ft ∧ RowsOk bl ft 256

theorem Row.cells_fr {l : List Nat} {w w' : World} {p : Option Addr} {vs : List Value} (h : Row w p vs) (hf : Fr l w w') (hn : ∀ k ∈ blks p, k ∉ l) : Row w' p vs :=
  h.fr hf fun a ha => hn _ (by subst ha; simp [blks])

set_option maxHeartbeats 1000000 in
/-- **make**: with the lock held. -/
theorem make_c {w : World} {b : Nat} {bl : List UInt8} {f : Nat → Value} {p : Option Addr} {c : Nat} (hB : Blk w b 518 f) (h0 : f 0 = .slice p bl.length c) (hR : Row w p (bl.map vb)) (hap : ∀ k ∈ blks p, k ≠ b) (hlt : ∀ k ∈ blks p, k < w.heap.size) (hm : f 4 = .int .i64 0)
    (hbl : bl.length ≤ 1000) {K : Value → World → Prop}
    (h : ∀ w' f' q ft, Fr [b] w w' → Blk w' b 518 f' → f' 0 = f 0 → f' 1 = f 1 → f' 2 = f 2 → f' 4 = .int .i64 1 → TabOk w' b bl f' 256 → f' 517 = .slice (some ⟨q, 0, none⟩) bl.length bl.length → w.heap.size ≤ q → Blk w' q (bl.length * 256) ft → RowsOk bl ft 256 → K (.tuple #[]) w') :
    callF Try.prog F_field_Tables_make #[.pointer (some ⟨b, 0, none⟩)] w K := by
  have hbw := hB.lt
  apply field_Tables_make_call
  unfold field_Tables_make
  refine ⟨_, rfl, ?_⟩
  rw [add_mk, Nat.zero_add]
  refine sync_atomic_Int64_Add_c hB (by omega) hm fun w1 f1 hB1 s1 => ?_
  refine ⟨_, rfl, _, rfl, p, bl.length, c, ?_, ?_⟩
  · rw [add_mk]; exact Ld.blk (by kernel_rfl) hB1 (by omega) (by rw [upd_ne _ _ _ (by omega)]; exact h0)
  obtain ⟨ft0, w2, he, f2, hQ, s2⟩ := Ef.makeN (P := Try.prog) (t := 147) (s := 256) (by kernel_rfl) (w := w1) (k := .i64) (k' := .i64) (Nat.le_refl bl.length) (by omega)
  refine ⟨_, _, _, w2, he, _, rfl, ?_⟩
  rw [add_mk, Nat.zero_add]
  refine Sto.blk (by kernel_rfl) (hB1.fr0 f2) (by omega) rfl rfl fun w3 f3 hB3 s3 => ?_
  have hq : w1.heap.size ≠ b := by omega
  have f03 : Fr [b] w w3 := (f1.then f2).trans f3 (fun _ h => .inl h)
  have hQ3 := hQ.fr f3 (by simpa using hq)
  -- the outer loop
  refine LoopS.ind (fun k us w' => ∃ i : Nat, i + k = 256 ∧ us = [.pointer (some ⟨b, 0, none⟩), .int .i64 (i : Nat)] ∧ Fr [b, w1.heap.size] w3 w' ∧ ∃ g gt, Blk w' b 518 g ∧ Blk w' w1.heap.size (bl.length * 256) gt ∧
    g 0 = f 0 ∧ g 1 = f 1 ∧ g 2 = f 2 ∧ g 4 = .int .i64 1 ∧ g 517 = .slice (some ⟨w1.heap.size, 0, none⟩) bl.length bl.length ∧ TabOk w' b bl g i ∧ RowsOk bl gt i) 256
    ⟨0, rfl, rfl, Fr.refl _ _, _, _, hB3, hQ3, by simp [upd], by simp [upd], by simp [upd], by simp [upd, wrap64], by simp [upd], ⟨by omega, by omega⟩, fun _ _ _ _ h => by omega⟩ ?_
  rintro k us r w4 I μ hgo ⟨i, hi, rfl, f4, g, gt, hB4, hQ4, g0, g1, g2, g4, g517, hok, hrows⟩
  refine ⟨_, _, rfl, cond_d (fun h1 => ?_) (fun h1 => ?_)⟩
  · have hi256 : i < 256 := by omega
    rw [wrapb hi256]
    refine sign_c _ _ _ fun w5 f5 => ⟨_, rfl, _, rfl, _, ixA1 (n := 256) (by kernel_rfl) (by omega) (by omega), ?_⟩
    rw [Int.toNat_natCast, Nat.zero_add]
    refine Sto.blk (by kernel_rfl) (hB4.fr0 f5) (by omega) rfl rfl fun w6 f6 hB6 s6 => ?_
    refine ⟨_, rfl, _, ixA1 (n := 256) (by kernel_rfl) (by omega) (by have := (gsign (UInt8.ofNat i)).toNat_lt; omega), ?_⟩
    rw [Int.toNat_natCast, Nat.zero_add]
    have hgl := (gsign (UInt8.ofNat i)).toNat_lt
    refine Sto.blk (by kernel_rfl) hB6 (by omega) rfl rfl fun w7 f7 hB7 s7 => ?_
    have f47 : Fr [b] w4 w7 := (f5.after f6).trans f7 (fun _ h => .inl h)
    have f07 : Fr [b, w1.heap.size] w3 w7 := f4.trans f47 (by simp)
    have hQ7 := hQ4.fr f47 (by simpa using hq)
    have hw3s : w3.heap.size = w1.heap.size + 1 := by omega
    have fw7 : Fr [b] w w7 := by
      refine ((f03.trans f07 ?_))
      intro x hx
      simp only [List.mem_cons, List.not_mem_nil, or_false] at hx
      rcases hx with rfl | rfl
      · exact .inl (by simp)
      · exact .inr f1.size
    refine ⟨_, rfl, p, bl.length, c, ?_, ?_⟩
    · rw [add_mk]; exact Ld.blk (by kernel_rfl) hB7 (by omega) (by rw [upd_ne _ _ _ (by omega), upd_ne _ _ _ (by omega), g0]; exact h0)
    -- the inner loop
    refine LoopS.ind (fun k2 us w' => ∃ m : Nat, m + k2 = bl.length ∧ us = [.pointer (some ⟨b, 0, none⟩), .int .i64 (i : Nat), .int .i64 (i : Nat), .slice p bl.length c, .int .i64 (bl.length : Nat), .int .i64 (m : Nat)] ∧ Fr [w1.heap.size] w7 w' ∧
      ∃ gt', Blk w' w1.heap.size (bl.length * 256) gt' ∧ RowsOk bl gt' i ∧ ∀ k x, k < m → bl[k]? = some x → gt' (k * 256 + i) = vb (gmul (UInt8.ofNat i) x)) bl.length
      ⟨0, by omega, rfl, Fr.refl _ _, gt, hQ7, hrows, by omega⟩ ?_
    rintro k2 us r2 w8 I2 μ2 hgo2 ⟨m, hm2, rfl, f8, gt', hQ8, hr8, hd8⟩
    have hB8 := hB7.fr f8 (by simp; omega)
    have hR8 : Row w8 p (bl.map vb) := by
      refine Row.cells_fr (Row.cells_fr hR fw7 (fun k hk => by simpa using hap k hk)) f8 fun k hk => ?_
      have := hlt k hk
      have := f1.size
      simp; omega
    refine ⟨_, _, _, _, _, _, _, _, rfl, cond_d (fun h2 => ?_) (fun h2 => ?_)⟩
    · have hml : m < bl.length := by omega
      obtain ⟨a, hix, hc⟩ := ixR (P := Try.prog) (t := 50) (by kernel_rfl) hR8 (cap := c) (k := .i64) (i := (m : Int)) (len := bl.length) (by simp) (by omega) (by omega) (v := vb bl[m]) (by simp [hml])
      refine ⟨a, hix, _, Ld.cell (by kernel_rfl) hc, fun w' => w'.cell? ⟨b, 517, none⟩ = some (.slice (some ⟨w1.heap.size, 0, none⟩) bl.length bl.length), ?_⟩
      refine Drw.intro fun w9 f9 s9 => ?_
      have hB9 := hB8.fr0 f9
      have hc9 : w9.cell? ⟨b, 517, none⟩ = some (.slice (some ⟨w1.heap.size, 0, none⟩) bl.length bl.length) := by
        rw [hB9.cell (by omega), upd_ne _ _ _ (by omega), upd_ne _ _ _ (by omega), g517]
      refine ⟨_, rfl, _, _, _, ⟨hc9, fun w' hw' => by rw [add_mk]; exact Ld.cell (by kernel_rfl) hw'⟩, _, ixS (s := 256) (by kernel_rfl) (by omega) (by omega), ?_⟩
      rw [wrapb hi256]
      refine Mul_c _ _ _ _ ⟨_, rfl, .inl rfl, _, ixA1 (n := 256) (by kernel_rfl) (by omega) (by omega), ?_⟩
      rw [Int.toNat_natCast, Int.toNat_natCast, Nat.zero_add]
      have hin : m * 256 + i < bl.length * 256 := by
        have : (m + 1) * 256 ≤ bl.length * 256 := Nat.mul_le_mul_right _ hml
        omega
      refine Sto.blk (by kernel_rfl) (hQ8.fr0 f9) hin rfl rfl fun w10 f10 hQ10 s10 => ?_
      refine hgo2 _ _ _ (k2 - 1) (by omega) ⟨m + 1, by omega, by rw [wrap64 (by omega) (by omega)]; rfl, ?_, _, hQ10, ?_, ?_⟩
      · exact (f8.then f9).trans f10 (fun _ h => .inl h)
      · intro k x hx j hj
        rw [upd_ne _ _ _ (by omega)]
        exact hr8 k x hx j hj
      · intro k x hk hx
        by_cases hkm : k = m
        · subst hkm
          rw [upd_same]
          have : bl[k] = x := by rw [List.getElem?_eq_getElem hml] at hx; exact Option.some.inj hx
          rw [this]
        · rw [upd_ne _ _ _ (by omega)]
          exact hd8 k x (by omega) hx
    · have hmb : m = bl.length := by omega
      refine hgo _ _ _ (k - 1) (by omega) ⟨i + 1, by omega, by rw [wrap64 (by omega) (by omega)]; rfl, f07.trans f8 (by simp), _, _, hB8, hQ8, ?_, ?_, ?_, ?_, ?_, ⟨?_, ?_⟩, ?_⟩
      · rw [upd_ne _ _ _ (by omega), upd_ne _ _ _ (by omega)]; exact g0
      · rw [upd_ne _ _ _ (by omega), upd_ne _ _ _ (by omega)]; exact g1
      · rw [upd_ne _ _ _ (by omega), upd_ne _ _ _ (by omega)]; exact g2
      · rw [upd_ne _ _ _ (by omega), upd_ne _ _ _ (by omega)]; exact g4
      · rw [upd_ne _ _ _ (by omega), upd_ne _ _ _ (by omega)]; exact g517
      · intro j hj
        rw [upd_ne _ _ _ (by omega)]
        by_cases hji : j = i
        · subst hji; rw [upd_same]
        · rw [upd_ne _ _ _ (by omega)]; exact hok.1 j (by omega)
      · intro j hj
        have hgj := (gsign (UInt8.ofNat j)).toNat_lt
        by_cases hji : j = i
        · subst hji; rw [upd_same]
        · have hne : (gsign (UInt8.ofNat j)).toNat ≠ (gsign (UInt8.ofNat i)).toNat := by
            intro he
            have h3 := gsign_inj (UInt8.toNat_inj.1 he)
            have h4 := congrArg UInt8.toNat h3
            simp at h4
            omega
          rw [upd_ne _ _ _ (by omega), upd_ne _ _ _ (by omega)]
          exact hok.2 j (by omega)
      · intro k x hx j hj
        by_cases hji : j = i
        · subst hji; exact hd8 k x (by have := (List.getElem?_eq_some_iff.1 hx).1; omega) hx
        · exact hr8 k x hx j (by omega)
  · have hie : i = 256 := by omega
    subst hie
    have fw : Fr [b] w w4 := by
      refine f03.trans f4 ?_
      intro x hx
      simp only [List.mem_cons, List.not_mem_nil, or_false] at hx
      rcases hx with rfl | rfl
      · exact .inl (by simp)
      · exact .inr f1.size
    exact h w4 g w1.heap.size gt fw hB4 g0 g1 g2 g4 hok g517 f1.size hQ4 hrows
end Go.Sh
