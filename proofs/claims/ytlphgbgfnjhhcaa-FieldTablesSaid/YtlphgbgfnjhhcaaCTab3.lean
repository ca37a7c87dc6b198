/- A part of a proof of a given law of this program: lemmas, printed forms of its functions, contracts. It has no conditions of its own. -/
import Derived.Test.YtlphgbgfnjhhcaaCTab2
namespace Go.Sh
open Go Go.Fw Go.Proofs
set_option maxRecDepth 100000
set_option linter.unusedVariables false

/-- Tables in block b, with products by bl; their blocks lie from lo on and below hi. -/
def TabAt (w : World) (b : Nat) (bl : List UInt8) (lo hi : Nat) (made : Bool) : Prop :=
  ∃ f p c, Blk w b 518 f ∧ f 0 = .slice p bl.length c ∧ Row w p (bl.map vb) ∧ f 2 = .int .i32 0 ∧ (∀ k ∈ blks p, lo ≤ k ∧ k < b) ∧ lo ≤ b ∧ b < hi ∧ bl.length ≤ 1000 ∧
    match made with
    | false => f 1 = .int .u32 0 ∧ f 4 = .int .i64 0
    | true => f 1 = .int .u32 1 ∧ f 4 = .int .i64 1 ∧ TabOk w b bl f 256 ∧ ∃ q ft, f 517 = .slice (some ⟨q, 0, none⟩) bl.length bl.length ∧ b < q ∧ q < hi ∧ Blk w q (bl.length * 256) ft ∧ RowsOk bl ft 256
theorem TabAt.fr {w w' : World} {b : Nat} {bl : List UInt8} {lo hi : Nat} {m : Bool} {l : List Nat} (h : TabAt w b bl lo hi m) (hf : Fr l w w') (hl : ∀ k ∈ l, k < lo ∨ hi ≤ k) : TabAt w' b bl lo hi m := by
  obtain ⟨f, p, c, hB, h0, hR, h2, hp, hlo, hhi, hbl, hm⟩ := h
  refine ⟨f, p, c, hB.fr hf ?_, h0, Row.cells_fr hR hf ?_, h2, hp, hlo, hhi, hbl, ?_⟩
  · intro hk; have := hl _ hk; omega
  · intro k hk hkl; have := hl _ hkl; have := hp k hk; omega
  · cases m with
    | false => exact hm
    | true =>
      obtain ⟨a1, a2, a3, q, ft, a4, a5, a6, a7, a8⟩ := hm
      refine ⟨a1, a2, a3, q, ft, a4, a5, a6, a7.fr hf ?_, a8⟩
      intro hk; have := hl _ hk; omega
theorem TabAt.fr0 {w w' : World} {b : Nat} {bl : List UInt8} {lo hi : Nat} {m : Bool} (h : TabAt w b bl lo hi m) (hf : Fr [] w w') : TabAt w' b bl lo hi m := h.fr hf (by simp)
theorem TabAt.mono {w : World} {b : Nat} {bl : List UInt8} {lo hi lo' hi' : Nat} {m : Bool} (h : TabAt w b bl lo hi m) (h1 : lo' ≤ lo) (h2 : hi ≤ hi') : TabAt w b bl lo' hi' m := by
  obtain ⟨f, p, c, hB, h0, hR, h2', hp, hlo, hhi, hbl, hm⟩ := h
  refine ⟨f, p, c, hB, h0, hR, h2', fun k hk => ⟨by have := hp k hk; omega, (hp k hk).2⟩, by omega, by omega, hbl, ?_⟩
  cases m with
  | false => exact hm
  | true => obtain ⟨a1, a2, a3, q, ft, a4, a5, a6, a7, a8⟩ := hm; exact ⟨a1, a2, a3, q, ft, a4, a5, by omega, a7, a8⟩
theorem TabAt.lt {w : World} {b : Nat} {bl : List UInt8} {lo hi : Nat} {m : Bool} (h : TabAt w b bl lo hi m) : b < w.heap.size ∧ lo ≤ b ∧ b < hi := by
  obtain ⟨f, p, c, hB, h0, hR, h2', hp, hlo, hhi, hbl, hm⟩ := h
  exact ⟨hB.lt, hlo, hhi⟩

theorem New_c {w : World} {p : Option Addr} {c : Nat} {l : Nat} {bl : List UInt8} (hR : Row w p (bl.map vb)) (hl : l = bl.length) (hbl : bl.length ≤ 1000) {K : Value → World → Prop}
    (h : ∀ b w', Fr [] w w' → w.heap.size ≤ b → TabAt w' b bl w.heap.size w'.heap.size false → K (.pointer (some ⟨b, 0, none⟩)) w') : callF Try.prog F_field_New #[.slice p l c] w K := by
  subst hl
  apply field_New_call
  unfold field_New
  refine slices_Clone_c hR (by simp) (by omega) (by simp; intros; rfl) fun p' c' w1 f1 hO hnew => ?_
  refine ⟨_, _, _, rfl, New.intro fun w2 f2 hB s2 => ?_⟩
  refine h _ w2 (f1.then f2) f1.size ⟨_, p', c', hB, rfl, hO.row.fr0 f2, rfl, ?_, f1.size, by omega, hbl, rfl, rfl⟩
  intro k hk
  exact ⟨hnew k hk, hO.lt k hk⟩
theorem Made_c {w : World} {b : Nat} {bl : List UInt8} {lo hi : Nat} {m : Bool} (hT : TabAt w b bl lo hi m) {K : Value → World → Prop} (h : K (.int .i64 (if m then 1 else 0)) w) : callF Try.prog F_field_Tables_Made #[.pointer (some ⟨b, 0, none⟩)] w K := by
  obtain ⟨f, p, c, hB, h0, hR, h2', hp, hlo, hhi, hbl, hm⟩ := hT
  apply field_Tables_Made_call
  refine ⟨_, rfl, ?_⟩
  rw [add_mk]
  cases m with
  | false => exact sync_atomic_Int64_Load_c hB (by omega) hm.2 ⟨_, rfl, h⟩
  | true => exact sync_atomic_Int64_Load_c hB (by omega) hm.2.1 ⟨_, rfl, h⟩
/-- A call of a method's value. -/
theorem callV_m {P : Program} {g : FuncId} {v : Value} {w : World} {K : Value → World → Prop} (h : callF P g #[v] w K) : callV P (.func (.func g) #[v] #[]) [] w K := callV_in h
theorem ready_c {w : World} {b : Nat} {bl : List UInt8} {lo hi : Nat} {m : Bool} (hT : TabAt w b bl lo hi m) {K : Value → World → Prop}
    (h : ∀ w' hi', Fr [b] w w' → TabAt w' b bl lo hi' true → hi ≤ hi' → (m = true → hi' = hi ∧ Fr [] w w') → hi' ≤ max hi w'.heap.size → K (.pointer (some ⟨b, 0, none⟩)) w') : callF Try.prog F_field_Tables_ready #[.pointer (some ⟨b, 0, none⟩)] w K := by
  apply field_Tables_ready_call
  refine ⟨_, rfl, ?_⟩
  rw [add_mk]
  cases m with
  | true =>
    obtain ⟨f, p, c, hB, h0, hR, h2', hp, hlo, hhi, hbl, hm⟩ := id hT
    refine sync_Once_Do_done hB (by omega) hm.1 ⟨rfl, ?_⟩
    exact h w hi (Fr.refl _ _) hT (Nat.le_refl _) (fun _ => ⟨rfl, Fr.refl _ _⟩) (by omega)
  | false =>
    obtain ⟨f, p, c, hB, h0, hR, h2', hp, hlo, hhi, hbl, h1, h4⟩ := hT
    refine sync_Once_Do_first hB (by omega) h1 h2' fun w1 f1 hB1 s1 => callV_m ?_
    refine make_c hB1 (by rw [upd_ne _ _ _ (by omega)]; exact h0) (Row.cells_fr hR f1 fun k hk => by have := hp k hk; simp; omega) (fun k hk => by have := hp k hk; omega) (fun k hk => by have := hp k hk; have := hB1.lt; omega)
      (by rw [upd_ne _ _ _ (by omega)]; exact h4) hbl fun w2 f' q ft f2 hB2 g0 g1 g2 g4 gok g517 hq hQ hrows => ?_
    refine ⟨rfl, f', hB2, by rw [g2, upd_same], fun w3 f3 hB3 s3 => ⟨rfl, ?_⟩⟩
    have hqb : q ≠ b := by have := hB1.lt; omega
    have fA : Fr [b] w w2 := f1.trans f2 (fun _ h => .inl h)
    have fB : Fr [b] w w3 := fA.trans f3 (fun _ h => .inl h)
    have hqw := hQ.lt
    refine h w3 (max hi (q + 1)) fB ⟨_, p, c, hB3, ?_, Row.cells_fr hR fB fun k hk => by have := hp k hk; simp; omega, upd_same _ _ _, hp, hlo, by omega, hbl, ?_, ?_, ⟨?_, ?_⟩, q, ft, ?_, by have := hB.lt; omega, by omega, hQ.fr f3 (by simpa using hqb), hrows⟩ (by omega) (by simp) (by have := f3.size; omega)
    · rw [upd_ne _ _ _ (by omega), upd_ne _ _ _ (by omega), g0, upd_ne _ _ _ (by omega)]; exact h0
    · rw [upd_ne _ _ _ (by omega)]; exact upd_same _ _ _
    · rw [upd_ne _ _ _ (by omega), upd_ne _ _ _ (by omega)]; exact g4
    · intro i hi; rw [upd_ne _ _ _ (by omega), upd_ne _ _ _ (by omega)]; exact gok.1 i hi
    · intro i hi; rw [upd_ne _ _ _ (by omega), upd_ne _ _ _ (by omega)]; exact gok.2 i hi
    · rw [upd_ne _ _ _ (by omega), upd_ne _ _ _ (by omega)]; exact g517
/-- The byte whose sign this is. -/
def gunsign (s : UInt8) : UInt8 := ginv (unaff s)
theorem sign_unsign (s : UInt8) : gsign (gunsign s) = s := by
  have := all8 (p := fun a => gsign (gunsign a) == a) (by kernel_rfl) s
  simpa using this
theorem Sub_c {w : World} {b : Nat} {bl : List UInt8} {lo hi : Nat} {m : Bool} (hT : TabAt w b bl lo hi m) (a : UInt8) {K : Value → World → Prop}
    (h : ∀ w' hi', Fr [b] w w' → TabAt w' b bl lo hi' true → hi ≤ hi' → (m = true → hi' = hi ∧ Fr [] w w') → hi' ≤ max hi w'.heap.size → K (vb (gsign a)) w') : callF Try.prog F_field_Tables_Sub #[.pointer (some ⟨b, 0, none⟩), vb a] w K := by
  apply field_Tables_Sub_call
  refine ready_c hT fun w' hi' f1 hT' h1 h2 h3 => ⟨_, rfl, _, rfl, ?_⟩
  obtain ⟨f, p, c, hB, h0, hR, h2', hp, hlo, hhi, hbl, a1, a2, a3, _⟩ := id hT'
  have hal := a.toNat_lt
  refine ⟨_, ixA1 (n := 256) (by kernel_rfl) (by omega) (by omega), _, Ld.blk (by kernel_rfl) hB (by simp; omega) ?_, h w' hi' f1 hT' h1 h2 h3⟩
  rw [Int.toNat_natCast, Nat.zero_add, a3.1 a.toNat hal]
  simp
theorem Unsub_c {w : World} {b : Nat} {bl : List UInt8} {lo hi : Nat} {m : Bool} (hT : TabAt w b bl lo hi m) (a : UInt8) {K : Value → World → Prop}
    (h : ∀ w' hi', Fr [b] w w' → TabAt w' b bl lo hi' true → hi ≤ hi' → (m = true → hi' = hi ∧ Fr [] w w') → hi' ≤ max hi w'.heap.size → K (vb (gunsign a)) w') : callF Try.prog F_field_Tables_Unsub #[.pointer (some ⟨b, 0, none⟩), vb a] w K := by
  apply field_Tables_Unsub_call
  refine ready_c hT fun w' hi' f1 hT' h1 h2 h3 => ⟨_, rfl, _, rfl, ?_⟩
  obtain ⟨f, p, c, hB, h0, hR, h2', hp, hlo, hhi, hbl, a1, a2, a3, _⟩ := id hT'
  have hal := a.toNat_lt
  refine ⟨_, ixA1 (n := 256) (by kernel_rfl) (by omega) (by omega), _, Ld.blk (by kernel_rfl) hB (by simp; omega) ?_, h w' hi' f1 hT' h1 h2 h3⟩
  have := a3.2 (gunsign a).toNat (gunsign a).toNat_lt
  simp only [UInt8.ofNat_toNat, sign_unsign] at this
  rw [Int.toNat_natCast, Nat.zero_add, this]
theorem Times_in_c {w : World} {b : Nat} {bl : List UInt8} {lo hi : Nat} {m : Bool} (hT : TabAt w b bl lo hi m) (k : Nat) (x a : UInt8) (hk : bl[k]? = some x) {K : Value → World → Prop}
    (h : ∀ w' hi', Fr [b] w w' → TabAt w' b bl lo hi' true → hi ≤ hi' → (m = true → hi' = hi ∧ Fr [] w w') → hi' ≤ max hi w'.heap.size → K (.tuple #[vb (gmul a x), .int .i64 0]) w') : callF Try.prog F_field_Tables_Times #[.pointer (some ⟨b, 0, none⟩), .int .i64 (k : Nat), vb a] w K := by
  apply field_Tables_Times_call
  refine ready_c hT fun w' hi' f1 hT' h1 h2 h3 => ⟨_, rfl, ?_⟩
  obtain ⟨f, p, c, hB, h0, hR, h2', hp, hlo, hhi, hbl, a1, a2, a3, q, ft, a4, a5, a6, a7, a8⟩ := id hT'
  have hal := a.toNat_lt
  have hkl := (List.getElem?_eq_some_iff.1 hk).1
  have hin : k * 256 + a.toNat < bl.length * 256 := by
    have : (k + 1) * 256 ≤ bl.length * 256 := Nat.mul_le_mul_right _ hkl
    omega
  refine cond_d (fun h => by omega) fun _ => ⟨_, rfl, _, _, _, Ld.blk (by kernel_rfl) hB (by show (517 : Nat) < 518; omega) a4, cond_d (fun h => by omega) fun _ => ?_⟩
  refine ⟨_, rfl, _, _, _, Ld.blk (by kernel_rfl) hB (by show (517 : Nat) < 518; omega) a4, _, ixS (s := 256) (by kernel_rfl) (by omega) (by omega), _, ixA1 (n := 256) (by kernel_rfl) (by omega) (by omega), _, Ld.blk (by kernel_rfl) a7 (by simp; omega) ?_, h w' hi' f1 hT' h1 h2 h3⟩
  have := a8 k x hk a.toNat hal
  simp only [UInt8.ofNat_toNat] at this
  rw [Int.toNat_natCast, Int.toNat_natCast, Nat.zero_add, this]
theorem Times_out_c {w : World} {b : Nat} {bl : List UInt8} {lo hi : Nat} {m : Bool} (hT : TabAt w b bl lo hi m) (k : Int) (a : UInt8) (hk : k < 0 ∨ bl.length ≤ k) {K : Value → World → Prop}
    (h : ∀ w' hi', Fr [b] w w' → TabAt w' b bl lo hi' true → hi ≤ hi' → (m = true → hi' = hi ∧ Fr [] w w') → hi' ≤ max hi w'.heap.size → K (.tuple #[.int .u8 0, .int .i64 11]) w') : callF Try.prog F_field_Tables_Times #[.pointer (some ⟨b, 0, none⟩), .int .i64 k, vb a] w K := by
  apply field_Tables_Times_call
  refine ready_c hT fun w' hi' f1 hT' h1 h2 h3 => ⟨_, rfl, ?_⟩
  obtain ⟨f, p, c, hB, h0, hR, h2', hp, hlo, hhi, hbl, a1, a2, a3, q, ft, a4, a5, a6, a7, a8⟩ := id hT'
  have hQ := h w' hi' f1 hT' h1 h2 h3
  exact cond_d (fun _ => hQ) fun _ => ⟨_, rfl, _, _, _, Ld.blk (by kernel_rfl) hB (by show (517 : Nat) < 518; omega) a4, cond_d (fun _ => hQ) fun _ => by omega⟩
end Go.Sh
