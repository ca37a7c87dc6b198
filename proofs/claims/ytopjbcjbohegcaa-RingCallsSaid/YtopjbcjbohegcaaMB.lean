/- A part of a proof of a given law of this program: lemmas, printed forms of its functions, contracts. It has no conditions of its own. -/
import Derived.Test.YtopjbcjbohegcaaMG
import Derived.Test.YtopjbcjbohegcaaMC
import Derived.Test.YtopjbcjbohegcaaMH
import Derived.Test.YtopjbcjbohegcaaMSh5
import Derived.Test.YtopjbcjbohegcaaMM

section
namespace Go.Sh
open Go Go.Fw Go.Proofs
set_option maxRecDepth 100000
set_option linter.unusedVariables false
def rg (lo hi : Nat) : List Nat := List.range' lo (hi - lo)
theorem mem_rg {lo hi k : Nat} : k ∈ rg lo hi ↔ lo ≤ k ∧ k < hi := by unfold rg; rw [List.mem_range'_1]; omega
def hKey (key : List UInt8) : Nat := numL (aencL key (List.replicate 16 0))
def BoxAt (w : World) (b : Nat) (key : List UInt8) (n D : Int) (lo hi : Nat) : Prop := ∃ f c hh pk ck d m chi, Blk w b 4 f ∧ f 0 = .slice pk 16 ck ∧ f 1 = .pointer (some ⟨c, 0, none⟩) ∧ f 2 = .pointer (some ⟨hh, 0, none⟩) ∧ f 3 = .int .i64 n ∧
  Row w pk (key.map vb) ∧ 16 ≤ ck ∧ key.length = 16 ∧ Cip w c key d lo chi ∧ HAt w hh (hKey key) m ∧ 0 ≤ d ∧ d ≤ D ∧ chi ≤ hh ∧ (∀ k ∈ blks pk, hh < k ∧ k < b) ∧ hh < b ∧ b < hi ∧ hi ≤ w.heap.size
section
variable {w : World} {b : Nat} {key nonce text note : List UInt8} {n D : Int} {lo hi : Nat} {K : Value → World → Prop}
theorem BoxAt.fr {w' : World} {L : List Nat} (h : BoxAt w b key n D lo hi) (hf : Fr L w w') (hl : ∀ k ∈ L, k < lo ∨ hi ≤ k) : BoxAt w' b key n D lo hi := by
  obtain ⟨f, c, hh, pk, ck, d, m, chi, hB, e0, e1, e2, e3, hk, h16, hkl, hC, hH, d0, d1, o1, o2, o3, o4, o5⟩ := h
  have hcl := hC.lt
  have hn : ∀ x, lo ≤ x → x < hi → x ∉ L := fun x h1 h2 h3 => by have := hl x h3; omega
  refine ⟨f, c, hh, pk, ck, d, m, chi, hB.fr hf (hn b (by omega) o4), e0, e1, e2, e3, Row.cells_fr hk hf fun k hk => hn k (by have := o2 k hk; omega) (by have := o2 k hk; omega), h16, hkl, hC.fr hf fun k hk => ?_, hH.fr hf (hn hh (by omega) (by omega)), d0, d1, o1, o2, o3, o4, Nat.le_trans o5 hf.size⟩
  have := hl k hk; omega
theorem BoxAt.fr0 {w' : World} (h : BoxAt w b key n D lo hi) (hf : Fr [] w w') : BoxAt w' b key n D lo hi := h.fr hf (by simp)
theorem BoxAt.lohi (h : BoxAt w b key n D lo hi) : lo ≤ b ∧ b < hi ∧ key.length = 16 ∧ hi ≤ w.heap.size := by
  obtain ⟨f, c, hh, pk, ck, d, m, chi, hB, e0, e1, e2, e3, hk, h16, hkl, hC, hH, d0, d1, o1, o2, o3, o4, o5⟩ := h
  have hcl := hC.lt
  exact ⟨by omega, o4, hkl, o5⟩
theorem BoxAt.mono {D' : Int} (h : BoxAt w b key n D lo hi) (hd : D ≤ D') : BoxAt w b key n D' lo hi := by
  obtain ⟨f, c, hh, pk, ck, d, m, chi, hB, e0, e1, e2, e3, hk, h16, hkl, hC, hH, d0, d1, o⟩ := h
  exact ⟨f, c, hh, pk, ck, d, m, chi, hB, e0, e1, e2, e3, hk, h16, hkl, hC, hH, d0, by omega, o⟩
set_option maxHeartbeats 1000000 in
theorem gcmNew_c {p : Option Addr} {l cap : Nat} (hx : Row w p (key.map vb)) (hl : l = key.length) (hcap : l ≤ cap) (hbad : l ≠ 16 → K (.tuple #[.pointer none, .int .i64 11]) w)
    (hok : l = 16 → ∀ b w', Fr [] w w' → BoxAt w' b key 0 1 w.heap.size w'.heap.size → K (.tuple #[.pointer (some ⟨b, 0, none⟩), .int .i64 0]) w') : callF Try.prog F_gcm_New #[.slice p l cap] w K := by
  apply gcm_New_call
  unfold gcm_New
  by_cases h16 : l = 16
  · refine newCip_c hx hl (by omega) (by omega) fun c w1 f1 hC => ⟨_, _, rfl, cond_f ?_⟩
    refine mkN (n := 16) (c := 16) (by omega) (by omega) fun p2 w2 f2 hO2 s2 => ?_
    refine encCip_c (hC.fr0 f2) (by omega) (by omega) hO2.row rfl (by simp) (fun k hk => .inr (hO2.2.2 k hk)) fun p3 w3 f3 hC3 hO3 => ⟨_, _, _, _, rfl, ?_⟩
    have hcl := hC.lt
    refine ghashNew_c hO3.row (by simp [aencL_len]) (by omega) rfl fun hh w4 f4 hH4 hhn => ⟨_, _, rfl, ?_⟩
    have f02 := f1.then f2
    have f03 : Fr [] w w3 := f02.trans f3 (fun x hx => .inr (by simp at hx; omega))
    have f04 := f03.then f4
    have n1 := f1.size; have n2 := f2.size; have n3 := f3.size; have n4 := f4.size
    refine slices_Clone_c (hx.fr0 f04) (by simpa using hl) (by omega) (cells_vb _) fun pk ck w5 f5 hO5 hn5 => ⟨_, _, _, rfl, ?_⟩
    have hO5 : OB w5 pk l ck key w4.heap.size := ⟨hO5, hl, hn5⟩
    refine New.intro fun w6 f6 hB6 s6 => ?_
    subst h16
    have hhl := hH4.lt
    have n5 := f5.size
    refine hok rfl _ w6 ((f04.then f5).then f6) ⟨_, c, hh, pk, ck, _, _, _, hB6, rfl, rfl, rfl, rfl, (hO5.fr0 f6).row, hO5.cap, hl.symm, hC3.fr0 ((f4.then f5).then f6), hH4.fr0 (f5.then f6), by omega, by omega, by omega, fun k hk => ⟨?_, ?_⟩, by omega, by omega, Nat.le_refl _⟩
    · have := hn5 k hk; omega
    · exact hO5.lt k hk
  · exact New_bad_c (by omega) ⟨_, _, rfl, cond_t (hbad h16)⟩
def okG (n : Nat) (rs : List (List UInt8)) : Prop := n = 12 ∧ ∀ r ∈ rs, r.length ≤ 65535
end
end Go.Sh
end

section
namespace Go.Sh
open Go Go.Fw Go.Proofs
set_option maxRecDepth 100000
set_option linter.unusedVariables false
instance (n : Nat) (rs : List (List UInt8)) : Decidable (okG n rs) := by unfold okG; exact inferInstance
def sp (lo hi : Nat) (p : Option Addr) (xs : List UInt8) : Prop := xs = [] ∨ ∀ k ∈ blks p, k < lo ∨ hi ≤ k
theorem sp.keep {w w' : World} {lo hi : Nat} {p : Option Addr} {xs : List UInt8} {L : List Nat} (h : sp lo hi p xs) (hR : Row w p (xs.map vb)) (f : Fr L w w') (hL : ∀ k ∈ L, lo ≤ k ∧ k < hi) : Row w' p (xs.map vb) := by
  rcases h with rfl | h
  · exact .inl rfl
  · exact Row.cells_fr hR f fun k hk hm => by have := h k hk; have := hL k hm; omega
theorem sp.take {lo hi n : Nat} {p q : Option Addr} {xs : List UInt8} (h : sp lo hi p xs) (hs : ∀ z ∈ blks q, z ∈ blks p) : sp lo hi q (xs.take n) := by
  rcases h with rfl | h
  · exact .inl (by simp)
  · exact .inr fun k hk => h k (hs k hk)
theorem sp.of {w : World} {lo hi : Nat} {p : Option Addr} {xs : List UInt8} (hR : Row w p (xs.map vb)) (hlo : w.heap.size ≤ lo) : sp lo hi p xs := by
  by_cases h0 : xs = []
  · exact .inl h0
  · exact .inr fun k hk => .inl (Nat.lt_of_lt_of_le (Row.blk_lt hR (List.length_pos_iff.2 h0) k hk) hlo)
section
variable {w : World} {b : Nat} {key nonce text note : List UInt8} {n D : Int} {lo hi : Nat} {K : Value → World → Prop}
end
end Go.Sh
end
