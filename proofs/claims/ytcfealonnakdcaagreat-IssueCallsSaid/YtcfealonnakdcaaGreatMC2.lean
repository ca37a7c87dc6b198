/- A part of a proof of a given law of this program: lemmas, printed forms of its functions, contracts. It has no conditions of its own. -/
import Derived.Test.YtcfealonnakdcaaGreatMC1
import Derived.Test.YtcfealonnakdcaaGreatMC0
import Derived.Test.YtcfealonnakdcaaGreatMW1
import Derived.Test.YtcfealonnakdcaaGreatMS2

section
namespace Go.Sh
open Go Go.Fw Go.Proofs
set_option maxRecDepth 100000
set_option linter.unusedVariables false
section
variable {c t : Nat} {F : List Nat} {ks : Nat → UInt8} {d : Int}
theorem Ciph.lt {w : World} (h : Ciph w c t F ks d) : c < w.heap.size := by obtain ⟨f, hB, _⟩ := h; exact hB.lt
theorem turns_Sub {t : Nat} {F : List Nat} : Turns (.func (.func F_field_Tables_Sub) #[.pointer (some ⟨t, 0, none⟩)] #[]) (fun w => Ciph w c t F ks d) [] gsign := by
  intro a w K hT hk
  refine callV_in ?_
  obtain ⟨f, hB, h0, hks, hd, hTab, hn, hF⟩ := id hT
  show callF Tryz.prog F_field_Tables_Sub #[.pointer (some ⟨t, 0, none⟩), vb a] w K
  refine SubF_c hTab a fun w' F' f1 hT1 g1 g2 g3 => ?_
  obtain ⟨_, f0⟩ := g3 rfl
  exact hk w' f0 (hT.fr0 f0)
theorem turns_Unsub {t : Nat} {F : List Nat} : Turns (.func (.func F_field_Tables_Unsub) #[.pointer (some ⟨t, 0, none⟩)] #[]) (fun w => Ciph w c t F ks d) [] gunsign := by
  intro a w K hT hk
  refine callV_in ?_
  obtain ⟨f, hB, h0, hks, hd, hTab, hn, hF⟩ := id hT
  show callF Tryz.prog F_field_Tables_Unsub #[.pointer (some ⟨t, 0, none⟩), vb a] w K
  exact UnsubF_c hTab a fun w' f0 hT1 => hk w' f0 (hT.fr0 f0)
theorem times_c {w : World} (hT : Ciph w c t F ks d) (k : Int) (x a : UInt8) (hk : (k = -1 ∧ x = 1) ∨ ∃ n : Nat, k = (n : Int) ∧ ([2, 3, 9, 11, 13, 14] : List UInt8)[n]? = some x) {K : Value → World → Prop} (h : ∀ w', Fr [] w w' → Ciph w' c t F ks d → K (vb (gmul a x)) w') :
    callF Tryz.prog F_aes_Cipher_times #[.pointer (some ⟨c, 0, none⟩), .int .i64 k, vb a] w K := by
  apply aes_Cipher_times_call
  rcases hk with ⟨rfl, rfl⟩ | ⟨n, rfl, hx⟩
  · have := h w (Fr.refl _ _) hT
    rw [gmul_one] at this
    exact this
  · unfold aes_Cipher_times
    have e : (((n : Nat) : Int) == -1) = false := by rw [beq_eq_false_iff_ne]; omega
    rw [e]
    refine cond_f ⟨_, rfl, ?_⟩
    rw [add_mk]
    obtain ⟨f, hB, h0, hks, hd, hTab, hn, hF⟩ := id hT
    refine ⟨_, Ld.blk (by kernel_rfl) hB (by omega) h0, ?_⟩
    obtain ⟨g, hg⟩ : ∃ g, g = gmul a x := ⟨_, rfl⟩
    refine TimesF_c hTab n x a hx fun w' f1 hT1 => ?_
    have h2 := h w' f1 (hT.fr0 f1)
    rw [← hg] at h2 ⊢
    exact ⟨_, _, rfl, h2⟩
def facE : Nat → Int := fun j => if j = 0 then 0 else if j = 1 then 1 else -1
def facD : Nat → Int := fun j => if j = 0 then 5 else if j = 1 then 3 else if j = 2 then 4 else 2
theorem turnsF_times (fac : Nat → Int) (g : Nat → UInt8) (hf : ∀ j, j < 4 → (fac j = -1 ∧ g j = 1) ∨ ∃ n : Nat, fac j = (n : Int) ∧ ([2, 3, 9, 11, 13, 14] : List UInt8)[n]? = some (g j)) :
    TurnsF (.func (.func F_aes_Cipher_times) #[.pointer (some ⟨c, 0, none⟩)] #[]) (fun w => Ciph w c t F ks d) [] (gF g) fac := by
  intro j a w K hj hT hk
  refine callV_in ?_
  show callF Tryz.prog F_aes_Cipher_times #[.pointer (some ⟨c, 0, none⟩), .int .i64 (fac j), vb a] w K
  exact times_c hT _ (g j) a (hf j hj) fun w' f1 hT1 => hk w' f1 hT1
theorem facE_ok : ∀ j, j < 4 → (facE j = -1 ∧ fE j = 1) ∨ ∃ n : Nat, facE j = (n : Int) ∧ ([2, 3, 9, 11, 13, 14] : List UInt8)[n]? = some (fE j) := by
  intro j hj
  rcases (by omega : j = 0 ∨ j = 1 ∨ j = 2 ∨ j = 3) with rfl | rfl | rfl | rfl
  · exact .inr ⟨0, rfl, rfl⟩
  · exact .inr ⟨1, rfl, rfl⟩
  · exact .inl ⟨rfl, rfl⟩
  · exact .inl ⟨rfl, rfl⟩
theorem facD_ok : ∀ j, j < 4 → (facD j = -1 ∧ fD j = 1) ∨ ∃ n : Nat, facD j = (n : Int) ∧ ([2, 3, 9, 11, 13, 14] : List UInt8)[n]? = some (fD j) := by
  intro j hj
  rcases (by omega : j = 0 ∨ j = 1 ∨ j = 2 ∨ j = 3) with rfl | rfl | rfl | rfl
  · exact .inr ⟨5, rfl, rfl⟩
  · exact .inr ⟨3, rfl, rfl⟩
  · exact .inr ⟨4, rfl, rfl⟩
  · exact .inr ⟨2, rfl, rfl⟩
theorem ldKey {w : World} {f : Nat → Value} (hB : Blk w c 178 f) (hks : BAt f 1 176 ks) {r : Nat} (hr : r < 11) : IxA Tryz.prog T_A11_aes_block (.pointer (some ⟨c, 0 + 1, none⟩)) (.int .i64 (r : Int)) ⟨c, 1 + r * 16, none⟩ ∧ Ld Tryz.prog T_aes_block (.pointer (some ⟨c, 1 + r * 16, none⟩)) w (.agg ⟨blist 16 (kAt ks r)⟩) := by
  refine ⟨ixA (n := 11) (s := 16) (by kernel_rfl) (by omega) (by omega), LdA (m := 16) (by kernel_rfl) (by kernel_rfl) hB (by omega) (blist 16 (kAt ks r)) (blist_len _ _) ?_⟩
  have : BAt f (1 + r * 16) 16 (kAt ks r) := by
    intro j hj
    have := hks (r * 16 + j) (by omega)
    rw [show 1 + r * 16 + j = 1 + (r * 16 + j) by omega, this]
    unfold kAt
    rw [Nat.mul_comm]
  exact this.ld
theorem Row.some {w : World} {p : Option Addr} {xs : List UInt8} (h : Row w p (xs.map vb)) (h0 : 0 < xs.length) : ∃ b o, p = some ⟨b, o, none⟩ ∧ ∀ j, j < xs.length → w.cell? ⟨b, o + j, none⟩ = some (vb (fl xs j)) := by
  rcases h with h | ⟨b, o, rfl, h⟩
  · simp at h; subst h; simp at h0
  · refine ⟨b, o, rfl, fun j hj => h j _ ?_⟩
    rw [List.getElem?_map, List.getElem?_eq_getElem hj]
    unfold fl
    rw [List.getD_eq_getElem?_getD, List.getElem?_eq_getElem hj]
    rfl
theorem LdRow {P : Program} {t : TypeId} {m : Nat} (ht : res P (isAgg t) = some true) (hs : res P (sizeOf t) = some m) {w : World} {p : Option Addr} {xs : List UInt8} (h : Row w p (xs.map vb)) (h0 : 0 < m) (hm : m ≤ xs.length) : Ld P t (.pointer p) w (.agg ⟨blist m (fl xs)⟩) := by
  obtain ⟨b, o, rfl, hc⟩ := Row.some h (by omega)
  refine Ld.agg ht hs (blist_len _ _) fun j v hj => ?_
  have hlt := (List.getElem?_eq_some_iff.1 hj).1
  rw [blist_len] at hlt
  rw [blist_get hlt] at hj
  rw [add_mk, hc j (by omega)]
  exact hj
theorem Bk.own {w : World} {b : Nat} {x : Nat → UInt8} (h : Bk w b x) : OwnS w (some ⟨b, 0, none⟩) 16 16 ((bl 16 x).map vb) := by
  obtain ⟨f, hB, hx⟩ := h
  refine ⟨by simp [bl_len], .inr ⟨b, 0, 16, f, rfl, hB, by omega, by omega, fun j v hj => ?_⟩⟩
  rw [← blist_bl] at hj
  exact hx.ld j v hj
set_option maxHeartbeats 1000000 in
theorem Encrypt_c {w : World} (hC : Ciph w c t F ks d) (hd0 : 0 ≤ d) (hd : d < 1000000000000) {p : Option Addr} {l cap : Nat} {xs : List UInt8} (hx : Row w p (xs.map vb)) (hl : l = xs.length) (h16 : xs.length = 16) (hpc : c ∉ blks p) {K : Value → World → Prop}
    (h : ∀ b w', Fr [c] w w' → Ciph w' c t F ks (d + 1) → Bk w' b (aenc ks (fl xs)) → w.heap.size ≤ b → K (.tuple #[.slice (some ⟨b, 0, none⟩) 16 16, .int .i64 0]) w') :
    callF Tryz.prog F_aes_Cipher_Encrypt #[.pointer (some ⟨c, 0, none⟩), .slice p l cap] w K := by
  apply aes_Cipher_Encrypt_call
  unfold aes_Cipher_Encrypt
  refine cond_ne (fun h1 => by omega) (fun h1 => ?_)
  obtain ⟨f, hB, h0, hks, hdone, hTab, hn, hF⟩ := id hC
  refine ⟨_, rfl, ?_⟩
  rw [add_mk]
  refine sync_atomic_Int64_Add_c hB (by omega) hdone fun w1 f1 hB1 s1 => ⟨_, rfl, ?_⟩
  rw [wrap64 (by omega) (by omega)] at hB1
  have hC1 : Ciph w1 c t F ks (d + 1) := ⟨_, hB1, by rw [upd_ne _ _ _ (by omega)]; exact h0, BAt.upd_ne hks (by omega), upd_same _ _ _, hTab.fr f1 (by simpa using hn), hn, fun k hk => by have := hF k hk; omega⟩
  refine ⟨p, PuArr (n := 16) (s := 1) (by kernel_rfl) (by omega), ?_⟩
  have hx1 : Row w1 p (xs.map vb) := Row.cells_fr hx f1 (fun k hk => by simp only [List.mem_singleton]; rintro rfl; exact hpc hk)
  refine ⟨_, LdRow (m := 16) (by kernel_rfl) (by kernel_rfl) hx1 (by omega) (by omega), ?_⟩
  refine newZ (s := 16) (by kernel_rfl) fun w2 g0 f2 hG s2 => ?_
  refine Sto.agg (by kernel_rfl) (blist_len 16 _) hG (Nat.le_refl 16) blist_one fun w3 f3 hG3 s3 => ?_
  have hcw := hC.lt
  have n1 := f1.size
  have hsep : ∀ k, k ∈ F → k < w1.heap.size := fun k hk => by have := hF k hk; omega
  have hC3 : Ciph w3 c t F ks (d + 1) := (hC1.fr0 f2).fr f3 (by simp; omega) (by simp only [List.mem_singleton]; rintro k rfl hk; have := hsep _ hk; omega)
  have hbc : w1.heap.size ≠ c := by omega
  obtain ⟨f', hB3, h03, hks3, hd3, _⟩ := id hC3
  obtain ⟨ix0, ld0⟩ := ldKey hB3 hks3 (r := 0) (by omega)
  refine ⟨_, rfl, _, by rw [add_mk]; exact ix0, _, ld0, ?_⟩
  refine block_add_c (y := kAt ks 0) (⟨_, hG3, BAt.updN⟩ : Bk w3 w1.heap.size (fl xs)) fun w4 f4 hb4 => ⟨rfl, ?_⟩
  have stays : ∀ {a b : World}, Fr [w1.heap.size] a b → Ciph a c t F ks (d + 1) → Ciph b c t F ks (d + 1) := fun {a b} fr hc => hc.fr fr (by simp; omega) (by simp only [List.mem_singleton]; rintro k rfl hk; have := hsep _ hk; omega)
  have hC4 := stays f4 hC3
  have fA : Fr [c] w w4 := ((f1.then f2).trans f3 (fun z hz => .inr (by simp at hz; omega))).trans f4 (fun z hz => .inr (by simp at hz; omega))
  refine LoopS.ind (fun k us w' => ∃ r : Nat, r + k = 10 ∧ us = [.pointer (some ⟨c, 0, none⟩), .slice none 0 0, .int .i64 0, .pointer (some ⟨w1.heap.size, 0, none⟩), .int .i64 ((r + 1 : Nat) : Int)] ∧ Fr [c] w w' ∧ Ciph w' c t F ks (d + 1) ∧ Bk w' w1.heap.size (encR ks (fl xs) r)) 10
    ⟨0, rfl, rfl, fA, hC4, hb4⟩ ?_
  rintro k us rr w5 I μ hgo ⟨r, hr, rfl, f5, hC5, hb5⟩
  obtain ⟨y, hy⟩ : ∃ y, y = encR ks (fl xs) r := ⟨_, rfl⟩
  refine ⟨_, _, _, _, _, _, _, rfl, cond_d (fun h2 => ?_) (fun h2 => ?_)⟩
  · obtain ⟨f5', hB5, h05, hks5, hd5, _⟩ := id hC5
    refine ⟨_, rfl, ?_⟩
    rw [add_mk]
    refine ⟨_, Ld.blk (by kernel_rfl) hB5 (by omega) h05, ?_⟩
    rw [← hy] at hb5
    refine block_each_c hb5 hC5 turns_Sub (by simp) (fun a b ha fr => stays fr ha) fun w6 f6 hC6 hb6 => ⟨rfl, ?_⟩
    refine block_rows_c (m := 1) hb6 (by omega) fun w7 f7 hb7 => ⟨rfl, ?_⟩
    have hC7 := stays f7 hC6
    have f57 : Fr [c] w w7 := (f5.trans f6 (fun z hz => .inr (by simp at hz; omega))).trans f7 (fun z hz => .inr (by simp at hz; omega))
    have fin : ∀ w8 z, Fr [c] w w8 → Ciph w8 c t F ks (d + 1) → Bk w8 w1.heap.size z → xorF z (kAt ks (r + 1)) = encR ks (fl xs) (r + 1) →
        aes_Cipher_Encrypt_j1 I μ [.pointer (some ⟨c, 0, none⟩), .slice none 0 0, .int .i64 0, .pointer (some ⟨w1.heap.size, 0, none⟩), .int .i64 ((r + 1 : Nat) : Int)] w5 (some ⟨c, 0, none⟩) none 0 0 0 ⟨w1.heap.size, 0, none⟩ ((r + 1 : Nat) : Int) w8 K := by
      intro w8 z f8 hC8 hb8 hz
      unfold aes_Cipher_Encrypt_j1
      obtain ⟨f8', hB8, h08, hks8, hd8, _⟩ := id hC8
      obtain ⟨ix8, ld8⟩ := ldKey hB8 hks8 (r := r + 1) (by omega)
      refine ⟨_, rfl, _, by rw [add_mk]; exact ix8, _, ld8, ?_⟩
      refine block_add_c (y := kAt ks (r + 1)) hb8 fun w9 f9 hb9 => ⟨rfl, ?_⟩
      rw [wrap64 (by omega) (by omega)]
      refine hgo _ _ _ (k - 1) (by omega) ⟨r + 1, by omega, rfl, f8.trans f9 (fun z hz => .inr (by simp at hz; omega)), stays f9 hC8, ?_⟩
      rw [← hz]
      exact hb9
    refine cond_d (fun h3 => ?_) (fun h3 => ?_)
    · have hr9 : r + 1 < 10 := by omega
      refine block_columns_c (fac := facE) (g := gF fE) hb7 hC7 (turnsF_times facE fE facE_ok) (by simp) (by simp) (fun a b ha fr => stays fr ha) fun w8 f8 hC8 hb8 => ⟨rfl, ?_⟩
      refine fin w8 _ (f57.trans f8 (fun z hz => .inr (by simp at hz; omega))) hC8 hb8 ?_
      show _ = xorF (if r + 1 < 10 then _ else _) _
      rw [if_pos hr9, hy]
    · have hr9 : ¬ r + 1 < 10 := by omega
      refine fin w7 _ f57 hC7 hb7 ?_
      show _ = xorF (if r + 1 < 10 then _ else _) _
      rw [if_neg hr9, hy]
  · have hr10 : r = 10 := by omega
    subst hr10
    refine ⟨_, _, _, PuSlA (n := 16) (s := 1) (kl := .i64) (kh := .i64) (lo := none) (hi := none) (by kernel_rfl) (by simp) (by simp) (by simp), ?_⟩
    exact h w1.heap.size w5 f5 hC5 hb5 (by omega)
end
end Go.Sh
end

section
namespace Go.Sh
open Go Go.Fw Go.Proofs
set_option maxRecDepth 100000
set_option linter.unusedVariables false
section
variable {c t : Nat} {F : List Nat} {ks : Nat → UInt8} {d : Int}
set_option maxHeartbeats 1000000 in
theorem Decrypt_c {w : World} (hC : Ciph w c t F ks d) (hd0 : 0 ≤ d) (hd : d < 1000000000000) {p : Option Addr} {l cap : Nat} {xs : List UInt8} (hx : Row w p (xs.map vb)) (hl : l = xs.length) (h16 : xs.length = 16) (hpc : c ∉ blks p) {K : Value → World → Prop}
    (h : ∀ b w', Fr [c] w w' → Ciph w' c t F ks (d + 1) → Bk w' b (adec ks (fl xs)) → w.heap.size ≤ b → K (.tuple #[.slice (some ⟨b, 0, none⟩) 16 16, .int .i64 0]) w') :
    callF Tryz.prog F_aes_Cipher_Decrypt #[.pointer (some ⟨c, 0, none⟩), .slice p l cap] w K := by
  apply aes_Cipher_Decrypt_call
  unfold aes_Cipher_Decrypt
  refine cond_ne (fun h1 => by omega) (fun h1 => ?_)
  obtain ⟨f, hB, h0, hks, hdone, hTab, hn, hF⟩ := id hC
  refine ⟨_, rfl, ?_⟩
  rw [add_mk]
  refine sync_atomic_Int64_Add_c hB (by omega) hdone fun w1 f1 hB1 s1 => ⟨_, rfl, ?_⟩
  rw [wrap64 (by omega) (by omega)] at hB1
  have hC1 : Ciph w1 c t F ks (d + 1) := ⟨_, hB1, by rw [upd_ne _ _ _ (by omega)]; exact h0, BAt.upd_ne hks (by omega), upd_same _ _ _, hTab.fr f1 (by simpa using hn), hn, fun k hk => by have := hF k hk; omega⟩
  refine ⟨p, PuArr (n := 16) (s := 1) (by kernel_rfl) (by omega), ?_⟩
  have hx1 : Row w1 p (xs.map vb) := Row.cells_fr hx f1 (fun k hk => by simp only [List.mem_singleton]; rintro rfl; exact hpc hk)
  refine ⟨_, LdRow (m := 16) (by kernel_rfl) (by kernel_rfl) hx1 (by omega) (by omega), ?_⟩
  refine newZ (s := 16) (by kernel_rfl) fun w2 g0 f2 hG s2 => ?_
  refine Sto.agg (by kernel_rfl) (blist_len 16 _) hG (Nat.le_refl 16) blist_one fun w3 f3 hG3 s3 => ?_
  have hcw := hC.lt
  have n1 := f1.size
  have hsep : ∀ k, k ∈ F → k < w1.heap.size := fun k hk => by have := hF k hk; omega
  have hC3 : Ciph w3 c t F ks (d + 1) := (hC1.fr0 f2).fr f3 (by simp; omega) (by simp only [List.mem_singleton]; rintro k rfl hk; have := hsep _ hk; omega)
  have hbc : w1.heap.size ≠ c := by omega
  have stays : ∀ {a b : World}, Fr [w1.heap.size] a b → Ciph a c t F ks (d + 1) → Ciph b c t F ks (d + 1) := fun {a b} fr hc => hc.fr fr (by simp; omega) (by simp only [List.mem_singleton]; rintro k rfl hk; have := hsep _ hk; omega)
  have fA : Fr [c] w w3 := (f1.then f2).trans f3 (fun z hz => .inr (by simp at hz; omega))
  refine LoopS.ind (fun k us w' => ∃ n : Nat, n + k = 10 ∧ us = [.pointer (some ⟨c, 0, none⟩), .slice none 0 0, .int .i64 0, .pointer (some ⟨w1.heap.size, 0, none⟩), .int .i64 ((10 - n : Nat) : Int)] ∧ Fr [c] w w' ∧ Ciph w' c t F ks (d + 1) ∧ Bk w' w1.heap.size (decR ks (fl xs) n)) 10
    ⟨0, rfl, rfl, fA, hC3, ⟨_, hG3, BAt.updN⟩⟩ ?_
  rintro k us rr w5 I μ hgo ⟨n, hr, rfl, f5, hC5, hb5⟩
  obtain ⟨y, hy⟩ : ∃ y, y = decR ks (fl xs) n := ⟨_, rfl⟩
  refine ⟨_, _, _, _, _, _, _, rfl, cond_d (fun h2 => ?_) (fun h2 => ?_)⟩
  · have hn10 : n < 10 := by omega
    obtain ⟨f5', hB5, h05, hks5, hd5, _⟩ := id hC5
    obtain ⟨ix5, ld5⟩ := ldKey hB5 hks5 (r := 10 - n) (by omega)
    refine ⟨_, rfl, _, by rw [add_mk]; exact ix5, _, ld5, ?_⟩
    rw [← hy] at hb5
    refine block_add_c (y := kAt ks (10 - n)) hb5 fun w6 f6 hb6 => ⟨rfl, ?_⟩
    have hC6 := stays f6 hC5
    have f56 : Fr [c] w w6 := f5.trans f6 (fun z hz => .inr (by simp at hz; omega))
    have fin : ∀ w7 z, Fr [c] w w7 → Ciph w7 c t F ks (d + 1) → Bk w7 w1.heap.size z → (fun j => gunsign (arows 3 z j)) = decR ks (fl xs) (n + 1) →
        aes_Cipher_Decrypt_j1 I μ [.pointer (some ⟨c, 0, none⟩), .slice none 0 0, .int .i64 0, .pointer (some ⟨w1.heap.size, 0, none⟩), .int .i64 ((10 - n : Nat) : Int)] w5 (some ⟨c, 0, none⟩) none 0 0 0 ⟨w1.heap.size, 0, none⟩ ((10 - n : Nat) : Int) w7 K := by
      intro w7 z f7 hC7 hb7 hz
      unfold aes_Cipher_Decrypt_j1
      refine block_rows_c (m := 3) hb7 (by omega) fun w8 f8 hb8 => ⟨rfl, ?_⟩
      have hC8 := stays f8 hC7
      obtain ⟨f8', hB8, h08, hks8, hd8, _⟩ := id hC8
      refine ⟨_, rfl, ?_⟩
      rw [add_mk]
      refine ⟨_, Ld.blk (by kernel_rfl) hB8 (by omega) h08, ?_⟩
      refine block_each_c hb8 hC8 turns_Unsub (by simp) (fun a b ha fr => stays fr ha) fun w9 f9 hC9 hb9 => ⟨rfl, ?_⟩
      rw [wrap64 (by omega) (by omega)]
      refine hgo _ _ _ (k - 1) (by omega) ⟨n + 1, by omega, ?_, (f7.trans f8 (fun z hz => .inr (by simp at hz; omega))).trans f9 (fun z hz => .inr (by simp at hz; omega)), hC9, ?_⟩
      · have : ((10 - n : Nat) : Int) - 1 = ((10 - (n + 1) : Nat) : Int) := by omega
        rw [this]
      · rw [← hz]; exact hb9
    refine cond_d (fun h3 => ?_) (fun h3 => ?_)
    · have hr9 : 10 - n < 10 := by omega
      refine block_columns_c (fac := facD) (g := gF fD) hb6 hC6 (turnsF_times facD fD facD_ok) (by simp) (by simp) (fun a b ha fr => stays fr ha) fun w8 f8 hC8 hb8 => ⟨rfl, ?_⟩
      refine fin w8 _ (f56.trans f8 (fun z hz => .inr (by simp at hz; omega))) hC8 hb8 ?_
      show _ = fun j => gunsign (arows 3 (if 10 - n < 10 then _ else _) j)
      rw [if_pos hr9, hy]
      rfl
    · have hr9 : ¬ 10 - n < 10 := by omega
      refine fin w6 _ f56 hC6 hb6 ?_
      show _ = fun j => gunsign (arows 3 (if 10 - n < 10 then _ else _) j)
      rw [if_neg hr9, hy]
      rfl
  · have hr10 : n = 10 := by omega
    subst hr10
    unfold aes_Cipher_Decrypt_j2
    obtain ⟨f5', hB5, h05, hks5, hd5, _⟩ := id hC5
    obtain ⟨ix5, ld5⟩ := ldKey hB5 hks5 (r := 0) (by omega)
    refine ⟨_, rfl, _, by rw [add_mk]; exact ix5, _, ld5, ?_⟩
    refine block_add_c (y := kAt ks 0) hb5 fun w6 f6 hb6 => ⟨rfl, ?_⟩
    refine ⟨_, _, _, PuSlA (n := 16) (s := 1) (kl := .i64) (kh := .i64) (lo := none) (hi := none) (by kernel_rfl) (by simp) (by simp) (by simp), ?_⟩
    exact h w1.heap.size w6 (f5.trans f6 (fun z hz => .inr (by simp at hz; omega))) (stays f6 hC5) hb6 (by omega)
theorem blist_add (m n : Nat) (x : Nat → UInt8) : blist (m + n) x = blist m x ++ blist n (fun j => x (m + j)) := by
  unfold blist
  rw [List.range_add, List.map_append, List.map_map]
  rfl
theorem blist_part {n s i : Nat} {x : Nat → UInt8} (h : (i + 1) * s ≤ n) : ((blist n x).drop (i * s)).take s = blist s (fun j => x (i * s + j)) := by
  have h1 : (i + 1) * s = i * s + s := Nat.succ_mul i s
  obtain ⟨r, rfl⟩ := Nat.exists_eq_add_of_le (show i * s + s ≤ n by omega)
  rw [Nat.add_assoc, blist_add, List.drop_append_of_le_length (by rw [blist_len]; exact Nat.le_refl _), List.drop_eq_nil_of_le (by rw [blist_len]; exact Nat.le_refl _), List.nil_append, blist_add, List.take_append_of_le_length (by rw [blist_len]; exact Nat.le_refl _), List.take_of_length_le (by rw [blist_len]; exact Nat.le_refl _)]
end
end Go.Sh
end

section
namespace Go.Sh
open Go Go.Fw Go.Proofs
set_option maxRecDepth 100000
set_option linter.unusedVariables false
theorem BAt.snoc {f : Nat → Value} {o n m : Nat} {x y : Nat → UInt8} (h : BAt f o n x) (hy : ∀ j, j < m → y j = x (n + j)) : BAt (Go.Fw.updN f (o + n) (blist m y)) o (n + m) x := by
  intro j hj
  by_cases hjn : j < n
  · unfold Go.Fw.updN
    rw [dif_neg (by omega)]
    exact h j hjn
  · have := (BAt.updN (f := f) (o := o + n) (n := m) (x := y)) (j - n) (by omega)
    rw [show o + n + (j - n) = o + j by omega, hy _ (by omega), show n + (j - n) = j by omega] at this
    exact this
theorem updN_out {f : Nat → Value} {o m : Nat} {y : Nat → UInt8} {i : Nat} (h : i < o ∨ o + m ≤ i) : Go.Fw.updN f o (blist m y) i = f i := by
  unfold Go.Fw.updN
  rw [dif_neg (by rw [blist_len]; omega)]
theorem fl_drop (xs : List UInt8) (k j : Nat) : fl (xs.drop k) j = fl xs (k + j) := by
  unfold fl
  simp [List.getD_eq_getElem?_getD]
set_option maxHeartbeats 2000000 in
theorem aesNew_c {w : World} {p : Option Addr} {l cap : Nat} {xs : List UInt8} (hx : Row w p (xs.map vb)) (hl : l = xs.length) (h16 : xs.length = 16) (hcap : xs.length ≤ cap) {K : Value → World → Prop}
    (h : ∀ c t F w', Fr [] w w' → Ciph w' c t F (akeys (fl xs)) 0 → (∀ k ∈ F, w.heap.size ≤ k) → w.heap.size ≤ c → K (.tuple #[.pointer (some ⟨c, 0, none⟩), .int .i64 0]) w') : callF Tryz.prog F_aes_New #[.slice p l cap] w K := by
  apply aes_New_call
  unfold aes_New
  refine cond_ne (fun h1 => by omega) (fun h1 => ?_)
  refine ⟨_, _, _, Ef.new (v := .slice (some ⟨w.heap.size, 0, none⟩) 6 6) (cs := (([2, 3, 9, 11, 13, 14] : List UInt8).map vb).toArray) (e := T_uint8) (by kernel_rfl) fun w1 f1 hB1 s1 => ?_⟩
  refine NewF_c (bl := [2, 3, 9, 11, 13, 14]) hB1.rowL rfl (by decide) fun t F w2 f2 hT2 hF2 => ⟨_, rfl, New.intro fun w3 f3 hC3 s3 => ?_⟩
  obtain ⟨fc, hfc⟩ : ∃ fc : Nat → Value, Blk w3 w2.heap.size 178 fc ∧ fc 0 = .pointer (some ⟨t, 0, none⟩) ∧ fc 177 = .int .i64 0 := ⟨_, hC3, rfl, rfl⟩
  clear hC3
  obtain ⟨hC3, hc0, hc177⟩ := hfc
  refine newZ (s := 176) (by kernel_rfl) fun w4 fz f4 hW4 s4 => ?_
  have n1 := f1.size; have n2 := f2.size; have n3 := f3.size; have n4 := f4.size
  have hT4 := (hT2.fr0 f3).fr0 f4
  have htF := hT4.lt
  have hC4 := hC3.fr0 f4
  have f04 : Fr [] w w4 := ((f1.then f2).then f3).then f4
  have hF4 : ∀ k ∈ F, w.heap.size ≤ k ∧ k < w2.heap.size := fun k hk => ⟨by have := hF2 k hk; omega, (hF2 k hk).2⟩
  have ht2 := hF4 t htF.2
  refine LoopS.ind (fun k us w' => ∃ i : Nat, i + k = 44 ∧ us = [.slice p l cap, .pointer none, .int .i64 0, .pointer (some ⟨w2.heap.size, 0, none⟩), .pointer (some ⟨w3.heap.size, 0, none⟩), .int .i64 (i : Int)] ∧ Fr [t, w3.heap.size] w4 w' ∧
      ∃ m' F', TabF w' t [2, 3, 9, 11, 13, 14] F' m' ∧ grewF F F' w4 w' ∧ (4 < i → m' = true) ∧ ∃ fw, Blk w' w3.heap.size 176 fw ∧ BAt fw 0 (4 * i) (akeys (fl xs))) 44
    ⟨0, rfl, rfl, Fr.refl _ _, false, F, hT4, grewF.refl _ _ _, by omega, _, hW4, fun j hj => by omega⟩ ?_
  rintro k us rr w5 I μ hgo ⟨i, hi, rfl, f5, m', F', hT5, gF5, hm5, fw, hW5, hw5⟩
  have n5 := f5.size
  have hC5 : Blk w5 w2.heap.size 178 fc := hC4.fr f5 (by simp; omega)
  have hFx : ∀ k ∈ F', (k < w2.heap.size ∧ w.heap.size ≤ k) ∨ w4.heap.size ≤ k := fun k hk => by
    rcases gF5.2 k hk with hk | hk
    · have := hF4 k hk; omega
    · omega
  have hFsz : ∀ k ∈ F', k < w5.heap.size := fun k hk => by
    rcases gF5.2 k hk with hk | hk
    · have := hF4 k hk; omega
    · omega
  have nW : w3.heap.size ∉ F' := fun hk => by have := hFx _ hk; omega
  have nC : w2.heap.size ∉ F' := fun hk => by have := hFx _ hk; omega
  refine ⟨_, _, _, _, _, _, _, _, rfl, cond_d (fun h1 => ?_) (fun h1 => ?_)⟩
  · have hi44 : i < 44 := by omega
    have inext : IntKind.i64.wrap ((i : Int) + 1) = ((i + 1 : Nat) : Int) := by rw [wrap64 (by omega) (by omega)]; rfl
    refine cond_d (fun h2 => ?_) (fun h2 => ?_)
    · have hi4 : i < 4 := by omega
      have hx5 : Row w5 p (xs.map vb) := Row.cells_fr hx (f04.trans f5 (fun z hz => by simp at hz; rcases hz with rfl | rfl; exact .inr (by omega); exact .inr (by omega))) (by simp)
      rw [wrap64 (by omega) (by omega)]
      refine ⟨_, _, _, PuSl (s := 1) (kl := .i64) (kh := .i64) (lo := some (4 * (i : Int))) (hi := none) (by kernel_rfl) (by show 0 ≤ 4 * (i : Int); omega) (by show 4 * (i : Int) ≤ (l : Int); omega) (by show (l : Int) ≤ (cap : Int); omega), ?_⟩
      have e4 : (4 * (i : Int)).toNat = 4 * i := by omega
      simp only [Option.getD, e4, Int.toNat_natCast]
      refine ⟨_, PuArr (n := 4) (s := 1) (by kernel_rfl) (by omega), ?_⟩
      have hxd : Row w5 (Go.Fw.partAt p cap (4 * i) 1) ((xs.drop (4 * i)).map vb) := by
        rw [List.map_drop]; exact hx5.part (by simpa using hcap)
      refine ⟨_, LdRow (m := 4) (by kernel_rfl) (by kernel_rfl) hxd (by omega) (by simp; omega), _, ixA (n := 44) (s := 4) (by kernel_rfl) (by omega) (by omega), ?_⟩
      rw [Int.toNat_natCast, Nat.zero_add]
      refine Sto.agg (by kernel_rfl) (blist_len 4 _) hW5 (by omega) blist_one fun w6 f6 hW6 s6 => ?_
      refine hgo _ _ _ (k - 1) (by omega) ⟨i + 1, by omega, by rw [inext], f5.trans f6 (fun z hz => .inl (by simp at hz; simp [hz])), m', F', hT5.fr f6 (by simpa using nW), gF5.trans (grewF.refl _ _ _) n5 (by omega), by omega, _, hW6, ?_⟩
      have := hw5.snoc (m := 4) (y := fl (xs.drop (4 * i))) (fun j hj => by
        rw [fl_drop, akeys_word _ hi44 hj]; unfold wnext; rw [if_pos hi4])
      rw [Nat.zero_add] at this
      rw [show i * 4 = 4 * i by omega]
      exact this
    · have hi4 : ¬ i < 4 := by omega
      have e1 : IntKind.i64.wrap ((i : Int) - 1) = ((i - 1 : Nat) : Int) := by rw [wrap64 (by omega) (by omega)]; omega
      have e4 : IntKind.i64.wrap ((i : Int) - 4) = ((i - 4 : Nat) : Int) := by rw [wrap64 (by omega) (by omega)]; omega
      rw [e1]
      refine ⟨_, ixA (n := 44) (s := 4) (by kernel_rfl) (by omega) (by omega), ?_⟩
      rw [Int.toNat_natCast, Nat.zero_add]
      have bAt : ∀ {g : Nat → Value} {n k : Nat}, BAt g 0 n (akeys (fl xs)) → k + 4 ≤ n → BAt g k 4 (fun j => akeys (fl xs) (k + j)) := by
        intro g n k hg hk j hj
        have := hg (k + j) (by omega)
        rwa [Nat.zero_add] at this
      have bw1 := bAt hw5 (k := (i - 1) * 4) (by omega)
      refine ⟨_, LdA (m := 4) (by kernel_rfl) (by kernel_rfl) hW5 (by omega) (blist 4 (fun j => akeys (fl xs) ((i - 1) * 4 + j))) (blist_len _ _) bw1.ld, ?_⟩
      refine newZ (s := 4) (by kernel_rfl) fun w6 g6 f6 hG s6 => ?_
      refine Sto.agg (by kernel_rfl) (blist_len 4 _) hG (Nat.le_refl 4) blist_one fun w7 f7 hG7 s7 => ?_
      have n6 := f6.size
      have f57 : Fr [] w5 w7 := f6.trans f7 (fun z hz => .inr (by simp at hz; omega))
      have n7 := f57.size
      have hw5f : ∀ {m'' F''} {w8 : World}, Fr [t, w5.heap.size] w7 w8 → TabF w8 t [2, 3, 9, 11, 13, 14] F'' m'' → grewF F' F'' w7 w8 → (4 < i + 1 → m'' = true) → ∀ {f8 : Nat → Value}, Blk w8 w5.heap.size 4 f8 → BAt f8 0 4 (fun j => if i % 4 = 0 then turnedF (fun j => akeys (fl xs) (4 * (i - 1) + j)) (i / 4) j else akeys (fl xs) (4 * (i - 1) + j)) →
          aes_New_j1 I μ [.slice p l cap, .pointer none, .int .i64 0, .pointer (some ⟨w2.heap.size, 0, none⟩), .pointer (some ⟨w3.heap.size, 0, none⟩), .int .i64 (i : Int)] w5 p l cap none 0 ⟨w2.heap.size, 0, none⟩ ⟨w3.heap.size, 0, none⟩ (i : Int) ⟨w5.heap.size, 0, none⟩ (i : Int) w8 K := by
        intro m'' F'' w8 f8 hT8 g8 hm8 fv8 hG8 hb8
        unfold aes_New_j1
        have n8 := f8.size
        have hW8 : Blk w8 w3.heap.size 176 fw := (hW5.fr0 f57).fr f8 (by simp; omega)
        have bw4 := bAt hw5 (k := (i - 4) * 4) (by omega)
        refine ⟨fun w' => Ld Tryz.prog T_aes_word (.pointer (some ⟨w3.heap.size, 0 + (i - 4) * 4, none⟩)) w' (.agg ⟨blist 4 (fun j => akeys (fl xs) ((i - 4) * 4 + j))⟩), Drw.intro fun w9 f9 s9 => ?_⟩
        rw [e4]
        refine ⟨_, ixA (n := 44) (s := 4) (by kernel_rfl) (by omega) (by omega), ⟨blist 4 (fun j => akeys (fl xs) ((i - 4) * 4 + j))⟩, ⟨?_, fun w' hw' => ?_⟩, _, LdA (m := 4) (by kernel_rfl) (by kernel_rfl) (hG8.fr0 f9) (Nat.le_refl 4) _ (blist_len 4 _) hb8.ld, .inl rfl, ?_⟩
        · rw [Nat.zero_add]
          exact LdA (m := 4) (by kernel_rfl) (by kernel_rfl) (hW8.fr0 f9) (by omega) (blist 4 (fun j => akeys (fl xs) ((i - 4) * 4 + j))) (blist_len _ _) bw4.ld
        · exact hw'
        · refine word_plus_c fun w10 f10 => ⟨_, rfl, _, ixA (n := 44) (s := 4) (by kernel_rfl) (by omega) (by omega), ?_⟩
          rw [Int.toNat_natCast, Nat.zero_add]
          have n9 := f9.size
          have n10 := f10.size
          have f810 := f9.then f10
          refine Sto.agg (by kernel_rfl) (blist_len 4 _) (hW8.fr0 f810) (by omega) blist_one fun w11 f11 hW11 s11 => ?_
          have hT10 := hT8.fr0 f810
          have nW' : w3.heap.size ∉ F'' := fun hk => by
            rcases g8.2 _ hk with hk | hk
            · exact nW hk
            · omega
          have f511 : Fr [t, w3.heap.size] w5 w11 := ((f57.mono (by simp)).trans f8 (fun z hz => by simp at hz; rcases hz with rfl | rfl; exact .inl (by simp); exact .inr (by omega))).trans f810 (by simp) |>.trans f11 (fun z hz => .inl (by simp at hz; simp [hz]))
          refine hgo _ _ _ (k - 1) (by omega) ⟨i + 1, by omega, by rw [inext], f5.trans f511 (fun z hz => .inl hz), m'', F'', hT10.fr f11 (by simpa using nW'), gF5.trans ⟨g8.1, fun z hz => ?_⟩ n5 (by omega), hm8, _, hW11, ?_⟩
          · rcases g8.2 z hz with hz | hz
            · exact .inl hz
            · exact .inr ⟨by omega, by omega⟩
          · have := hw5.snoc (m := 4) (y := fun j => akeys (fl xs) ((i - 4) * 4 + j) ^^^ (if i % 4 = 0 then turnedF (fun j => akeys (fl xs) (4 * (i - 1) + j)) (i / 4) j else akeys (fl xs) (4 * (i - 1) + j))) (fun j hj => by
              rw [akeys_word _ hi44 hj]; unfold wnext; rw [if_neg hi4, show (i - 4) * 4 = 4 * (i - 4) by omega])
            rw [Nat.zero_add] at this
            rw [show i * 4 = 4 * i by omega]
            exact this
      have hT7 := hT5.fr0 f57
      have em : Int.tmod (i : Int) 4 = ((i % 4 : Nat) : Int) := rfl
      have ed : IntKind.i64.wrap (Int.tdiv (i : Int) 4) = ((i / 4 : Nat) : Int) := by
        have : Int.tdiv (i : Int) 4 = ((i / 4 : Nat) : Int) := rfl
        rw [this]; exact wrap64 (by omega) (by omega)
      rw [em, ed]
      have hb7 : BAt (Go.Fw.updN g6 0 (blist 4 (fun j => akeys (fl xs) ((i - 1) * 4 + j)))) 0 4 (fun j => akeys (fl xs) ((i - 1) * 4 + j)) := BAt.updN
      refine cond_eq (fun h3 => ?_) (fun h3 => ?_)
      · have hm4 : i % 4 = 0 := by omega
        refine ⟨_, LdA (m := 4) (by kernel_rfl) (by kernel_rfl) hG7 (Nat.le_refl 4) _ (blist_len 4 _) hb7.ld, ?_⟩
        refine turned_w_c (hC5.fr0 f57) hc0 hT7 nC (fun k hk => by have := hFsz k hk; omega) (by omega) (by omega) fun w8 F8 f8 hT8 g8 => ⟨_, rfl, ?_⟩
        refine Sto.agg (by kernel_rfl) (blist_len 4 _) (hG7.fr f8 (by simp; have := hFsz _ hT5.lt.2; omega)) (Nat.le_refl 4) blist_one fun w9 f9 hG9 s9 => ?_
        have nG : w5.heap.size ∉ F8 := fun hk => by
          rcases g8.2 _ hk with hk | hk
          · have := hFsz _ hk; omega
          · omega
        refine hw5f ((f8.mono (l' := [t, w5.heap.size]) (by simp)).trans f9 (fun z hz => .inl (by simp at hz; simp [hz]))) (hT8.fr f9 (by simpa using nG)) ⟨g8.1, fun z hz => ?_⟩ (fun _ => rfl) hG9 (fun j hj => ?_)
        · rcases g8.2 z hz with hz | hz
          · exact .inl hz
          · exact .inr ⟨hz.1, by have := f9.size; omega⟩
        · have := BAt.updN (f := Go.Fw.updN g6 0 (blist 4 (fun j => akeys (fl xs) ((i - 1) * 4 + j)))) (o := 0) (n := 4) (x := turnedF (fun j => akeys (fl xs) ((i - 1) * 4 + j)) (i / 4)) j hj
          rw [this]
          show _ = vb (if i % 4 = 0 then _ else _)
          rw [if_pos hm4, show (i - 1) * 4 = 4 * (i - 1) by omega]
      · have hm4 : ¬ i % 4 = 0 := by omega
        refine hw5f (Fr.refl _ _) hT7 (grewF.refl _ _ _) (fun _ => hm5 (by omega)) hG7 (fun j hj => ?_)
        rw [hb7 j hj]
        show _ = vb (if i % 4 = 0 then _ else _)
        rw [if_neg hm4, show (i - 1) * 4 = 4 * (i - 1) by omega]
  · have hi44 : i = 44 := by omega
    subst hi44
    have hm5 := hm5 (by omega)
    subst hm5
    unfold aes_New_j2
    refine ⟨_, LdA (m := 176) (by kernel_rfl) (by kernel_rfl) hW5 (Nat.le_refl 176) (blist 176 (akeys (fl xs))) (blist_len _ _) hw5.ld, ?_⟩
    refine LoopS.ind (fun k us w' => ∃ i : Nat, i + k = 44 ∧ us = [.pointer none, .int .i64 0, .pointer (some ⟨w2.heap.size, 0, none⟩), .agg ⟨blist 176 (akeys (fl xs))⟩, .int .i64 (i : Int)] ∧ Fr [w2.heap.size] w5 w' ∧
        ∃ f, Blk w' w2.heap.size 178 f ∧ f 0 = .pointer (some ⟨t, 0, none⟩) ∧ BAt f 1 (4 * i) (akeys (fl xs)) ∧ f 177 = .int .i64 0) 44
      ⟨0, rfl, rfl, Fr.refl _ _, fc, hC5, hc0, fun j hj => by omega, hc177⟩ ?_
    rintro k2 us2 rr2 w6 I2 μ2 hgo2 ⟨i, hi2, rfl, f6, f, hC6, g0, gk, gd⟩
    have n6 := f6.size
    refine ⟨_, _, _, _, _, rfl, cond_d (fun h2 => ?_) (fun h2 => ?_)⟩
    · have hi44 : i < 44 := by omega
      refine ⟨_, PuIxA (n := 44) (s := 4) (by kernel_rfl) (by omega) (by omega), ?_⟩
      rw [Int.toNat_natCast, blist_part (n := 176) (s := 4) (i := i) (by omega)]
      refine newZ (s := 4) (by kernel_rfl) fun w7 g7 f7 hG s7 => ?_
      refine Sto.agg (by kernel_rfl) (blist_len 4 _) hG (Nat.le_refl 4) blist_one fun w8 f8 hG8 s8 => ?_
      refine Drw.intro fun w9 f9 s9 => ⟨_, rfl, ?_⟩
      have n7 := f7.size
      have f69 : Fr [] w6 w9 := (f7.trans f8 (fun z hz => .inr (by simp at hz; omega))).then f9
      have em : Int.tmod (i : Int) 4 = ((i % 4 : Nat) : Int) := rfl
      have ed : IntKind.i64.wrap (Int.tdiv (i : Int) 4) = ((i / 4 : Nat) : Int) := by
        have : Int.tdiv (i : Int) 4 = ((i / 4 : Nat) : Int) := rfl
        rw [this]; exact wrap64 (by omega) (by omega)
      rw [em, ed, add_mk, wrap64 (n := 4 * ((i % 4 : Nat) : Int)) (by omega) (by omega)]
      refine ⟨_, ixA (n := 11) (s := 16) (by kernel_rfl) (by omega) (by omega), ?_⟩
      rw [Int.toNat_natCast]
      refine ⟨_, _, _, PuSlA (n := 16) (s := 1) (kl := .i64) (kh := .i64) (lo := some (4 * ((i % 4 : Nat) : Int))) (hi := none) (by kernel_rfl) (by show 0 ≤ 4 * ((i % 4 : Nat) : Int); omega) (by show 4 * ((i % 4 : Nat) : Int) ≤ 16; omega) (by simp), ?_⟩
      refine ⟨_, _, _, PuSlA (n := 4) (s := 1) (kl := .i64) (kh := .i64) (lo := none) (hi := none) (by kernel_rfl) (by simp) (by simp) (by simp), ?_⟩
      have e4 : (4 * ((i % 4 : Nat) : Int)).toNat = 4 * (i % 4) := by omega
      simp only [Option.getD, e4]
      rw [partAt_some (by omega), partAt_some (by simp)]
      have hG9 := hG8.fr0 f9
      have hrow : Row w9 (some ⟨w6.heap.size, 0 + (0 : Int).toNat * 1, none⟩) (blist 4 (fun j => akeys (fl xs) (i * 4 + j))) := by
        refine hG9.row 0 _ fun j v hj => ⟨?_, BAt.updN.ld j v hj⟩
        have := (List.getElem?_eq_some_iff.1 hj).1
        rw [blist_len] at this
        omega
      obtain ⟨w10, he, f10, hC10, s10⟩ := Ef.copy (P := Tryz.prog) (t := T_S_uint8) (ty := T_int) (by kernel_rfl) (dl := ((16 : Int)).toNat - 4 * (i % 4)) (dc := 16 - 4 * (i % 4)) (o := 0 + 1 + i / 4 * 16 + 4 * (i % 4) * 1) (hC6.fr0 f69) hrow (m := ((4 : Int)).toNat - (0 : Int).toNat) (d := 4 - (0 : Int).toNat) (by rw [blist_len]; rfl) blist_one (by show _ + min 4 (16 - _) ≤ 178; omega)
      refine ⟨_, _, he, ?_⟩
      have hmin : min (((4 : Int)).toNat - (0 : Int).toNat) (((16 : Int)).toNat - 4 * (i % 4)) = 4 := by show min 4 (16 - 4 * (i % 4)) = 4; omega
      rw [hmin, List.take_of_length_le (by rw [blist_len]; exact Nat.le_refl _), show 0 + 1 + i / 4 * 16 + 4 * (i % 4) * 1 = 1 + 4 * i by omega] at hC10
      rw [wrap64 (n := (i : Int) + 1) (by omega) (by omega)]
      refine hgo2 _ _ _ (k2 - 1) (by omega) ⟨i + 1, by omega, rfl, f6.trans (f69.after f10) (fun z hz => .inl hz), _, hC10, ?_, gk.snoc (fun j hj => by rw [Nat.mul_comm]), ?_⟩
      · rw [updN_out (by omega)]; exact g0
      · rw [updN_out (by omega)]; exact gd
    · have hi44 : i = 44 := by omega
      subst hi44
      refine h w2.heap.size t F' w6 ((f04.trans f5 (fun z hz => by simp at hz; rcases hz with rfl | rfl; exact .inr (by omega); exact .inr (by omega))).trans f6 (fun z hz => by simp at hz; exact .inr (by omega))) ⟨f, hC6, g0, gk, gd, hT5.fr f6 (by simpa using nC), nC, fun k hk => by have := hFsz k hk; omega⟩ (fun k hk => ?_) (by omega)
      have := hFx k hk; omega
end Go.Sh
end

section
namespace Go.Sh
open Go Go.Fw Go.Proofs
set_option maxRecDepth 100000
set_option linter.unusedVariables false
def keysL (ks : Nat → UInt8) (n : Nat) : List (List UInt8) := (List.range n).map fun r => bl 16 (kAt ks r)
theorem keysL_len (ks : Nat → UInt8) (n : Nat) : (keysL ks n).length = n := by simp [keysL]
theorem keysL_at (ks : Nat → UInt8) {n r : Nat} (h : r < n) : (keysL ks n).getD r [] = bl 16 (kAt ks r) := by simp [keysL, h]
end Go.Sh
end

section
namespace Go.Sh
open Go Go.Fw Go.Proofs
set_option maxRecDepth 100000
set_option linter.unusedVariables false
theorem ORows.outer {w : World} {p : Option Addr} {l c : Nat} {rs : List (List UInt8)} {lo hi : Nat} (h : ORows w p l c rs lo hi) : ∀ k ∈ blks p, lo ≤ k ∧ k < hi := by obtain ⟨vs, q, d, _, _, hp, _⟩ := h; exact hp
theorem ORows.len {w : World} {p : Option Addr} {l c : Nat} {rs : List (List UInt8)} {lo hi : Nat} (h : ORows w p l c rs lo hi) : l = rs.length := by obtain ⟨vs, q, d, _, hl, _⟩ := h; exact hl
theorem mkR0 {w : World} {K : Option Addr → Nat → Nat → World → Prop} (h : ∀ p w', Fr [] w w' → ORows w' p 0 0 [] w.heap.size w'.heap.size → K p 0 0 w') : ∃ p l c w', Ef Tryz.prog (Instr.buildSlice T_S_S_uint8 0 #[]) w (.slice p l c) w' ∧ K p l c w' :=
  ⟨_, _, _, Ef.new (cs := #[]) (v := .slice (some ⟨w.heap.size, 0, none⟩) 0 0) (e := T_S_uint8) (by kernel_rfl) fun w' f hB s => h _ w' f ⟨[], fun _ => none, fun _ => 0, ⟨rfl, .inr ⟨_, _, _, _, rfl, hB, by simp, by simp, by simp⟩⟩, rfl, by simp [blks]; omega, by omega⟩⟩
theorem pushR {w : World} {p : Option Addr} {l c : Nat} {rs : List (List UInt8)} {lo hi lo1 : Nat} (h : ORows w p l c rs lo hi) (hhi : hi ≤ w.heap.size) (hlo : lo ≤ hi) {q1 : Option Addr} {n1 d1 : Nat} {r : List UInt8} (hq : OB w q1 n1 d1 r lo1) (hn : hi ≤ lo1) (hlen : l < 1073741824) {K : Option Addr → Nat → Nat → World → Prop}
    (hk : ∀ p' c' w', Fr (blks p) w w' → ORows w' p' (l + 1) c' (rs ++ [r]) lo w'.heap.size → K p' (l + 1) c' w') :
    ∃ q m d w1, Ef Tryz.prog (Instr.buildSlice T_S_S_uint8 1 #[(0, .slice q1 n1 d1)]) w (.slice q m d) w1 ∧ ∃ p' l' c' w2, Ef Tryz.prog (Builtin.append_ #[T_S_S_uint8, T_S_S_uint8] T_S_S_uint8 #[.slice p l c, .slice q m d]) w1 (.slice p' l' c') w2 ∧ K p' l' c' w2 := by
  refine ⟨_, _, _, Ef.new (v := .slice (some ⟨w.heap.size, 0, none⟩) 1 1) (cs := ([.slice q1 n1 d1] : List Value).toArray) (e := T_S_uint8) (by kernel_rfl) fun w1 f1 hB1 s1 => ?_⟩
  obtain ⟨p', c', w2, he, hO2, f2⟩ := (h.fr0 f1).push (by omega) hlo (r := r) (hq.1.fr0 f1) hq.2.1 (fun k hk => by have := hq.2.2 k hk; omega) hB1.rowL (d2 := 1) hlen
  exact ⟨_, _, _, _, he, hk p' c' w2 (f1.after f2) hO2⟩
theorem ORows.news {a w w' : World} {p : Option Addr} {l c : Nat} {rs : List (List UInt8)} {lo hi : Nat} (h : ORows w p l c rs lo hi) (h1 : Fr [] a w) (h2 : Fr (blks p) w w') (h3 : a.heap.size ≤ lo) : Fr [] a w' := h1.trans h2 fun z hz => .inr (Nat.le_trans h3 (h.outer z hz).1)
def rowsF (n s : Nat) (x : Nat → UInt8) : List (List UInt8) := (List.range n).map fun k => bl s (fun j => x (s * k + j))
theorem rowsF_succ (n s : Nat) (x : Nat → UInt8) : rowsF (n + 1) s x = rowsF n s x ++ [bl s (fun j => x (s * n + j))] := by simp [rowsF, List.range_succ]
theorem rowsF_at {n s : Nat} {x : Nat → UInt8} {k : Nat} (h : k < n) : (rowsF n s x).getD k [] = bl s (fun j => x (s * k + j)) := by simp [rowsF, h]
theorem bl_add (m n : Nat) (x : Nat → UInt8) : bl (m + n) x = bl m x ++ bl n (fun j => x (m + j)) := by
  unfold bl
  rw [List.range_add, List.map_append, List.map_map]
  rfl
theorem bl_part {xs : List UInt8} {i s : Nat} (h : i + s ≤ xs.length) : (xs.take (i + s)).drop i = bl s (fun j => fl xs (i + j)) := by
  apply List.ext_getElem?
  intro j
  rw [List.getElem?_drop]
  by_cases hj : j < s
  · rw [List.getElem?_take, if_pos (by omega), bl_get hj]
    unfold fl
    rw [List.getD_eq_getElem?_getD, List.getElem?_eq_getElem (by omega)]
    rfl
  · rw [List.getElem?_eq_none (by simp; omega), List.getElem?_eq_none (by rw [bl_len]; omega)]
set_option maxHeartbeats 2000000 in
theorem refKeys_c {w : World} {p q : Option Addr} {l c m d : Nat} {xs : List UInt8} (hx : Row w p (xs.map vb)) (hl : l = xs.length) (h16 : xs.length = 16) (hcap : l ≤ c) (ht : Row w q (tblL.map vb)) (hm : m = 256) {K : Value → World → Prop}
    (h : ∀ p' c' w', Fr [] w w' → ORows w' p' 11 c' (keysL (akeys (fl xs)) 11) w.heap.size w'.heap.size → K (.slice p' 11 c') w') : callF Tryz.prog F_ref03_Keys #[.slice p l c, .slice q m d] w K := by
  apply ref03_Keys_call
  unfold ref03_Keys
  obtain ⟨A, hA⟩ : ∃ A, A = akeys (fl xs) := ⟨_, rfl⟩
  have hword : ∀ k j, k < 44 → j < 4 → A (4 * k + j) = wnext (fl xs) k A j := fun k j hk hj => by rw [hA]; exact akeys_word _ hk hj
  rw [← hA] at h
  refine mkR0 fun p0 w1 f1 hR1 => ?_
  refine LoopS.ind (fun k us w' => ∃ (i : Nat) (p5 : Option Addr) (c5 : Nat), i + k = 4 ∧ us = [.slice p l c, .slice q m d, .slice none 0 0, .slice p5 i c5, .int .i64 (i : Int)] ∧ Fr [] w w' ∧ ORows w' p5 i c5 (rowsF i 4 A) w.heap.size w'.heap.size) 4
    ⟨0, p0, 0, by omega, rfl, f1, hR1⟩ ?_
  rintro k us rr w2 I μ hgo ⟨i, p5, c5, hi, rfl, f2, hR2⟩
  have n2 := f2.size
  refine ⟨_, _, _, _, _, _, _, _, _, _, _, _, _, rfl, cond_d (fun h1 => ?_) (fun h1 => ?_)⟩
  · have hi4 : i < 4 := by omega
    refine mk0 fun p19 w3 f3 hO3 s3 => ?_
    have e1 : IntKind.i64.wrap (4 * (i : Int)) = ((4 * i : Nat) : Int) := by rw [wrap64 (by omega) (by omega)]; omega
    have e2 : IntKind.i64.wrap (((4 * i : Nat) : Int) + 4) = ((4 * i + 4 : Nat) : Int) := by rw [wrap64 (by omega) (by omega)]; omega
    rw [e1, e2]
    refine ⟨_, _, _, PuSl (s := 1) (kl := .i64) (kh := .i64) (lo := some ((4 * i : Nat) : Int)) (hi := some ((4 * i + 4 : Nat) : Int)) (by kernel_rfl) (by show 0 ≤ ((4 * i : Nat) : Int); omega) (by show ((4 * i : Nat) : Int) ≤ ((4 * i + 4 : Nat) : Int); omega) (by show ((4 * i + 4 : Nat) : Int) ≤ (c : Int); omega), ?_⟩
    simp only [Option.getD, Int.toNat_natCast]
    have hx3 := (hx.fr0 f2).fr0 f3
    have hrow : Row w3 (Go.Fw.partAt p c (4 * i) 1) ((bl 4 (fun j => A (4 * i + j))).map vb) := by
      have h5 := (hx3.take (4 * i + 4)).part (c := c) (l := 4 * i) (by simp; omega)
      rw [← List.map_take, ← List.map_drop, bl_part (by omega)] at h5
      have e5 : bl 4 (fun j => fl xs (4 * i + j)) = bl 4 (fun j => A (4 * i + j)) := bl_congr fun j hj => by
        show fl xs (4 * i + j) = A (4 * i + j)
        rw [hword i j (by omega) hj]; unfold wnext; rw [if_pos hi4]
      rw [e5] at h5
      exact h5
    refine pushN hO3 (by omega) hrow (m := 4 * i + 4 - 4 * i) (by rw [bl_len]; omega) (by omega) fun p' c' w4 f4 hO4 => ?_
    have e4 : 0 + (4 * i + 4 - 4 * i) = 4 := by omega
    rw [e4] at hO4
    rw [e4]
    have f24 : Fr [] w2 w4 := hO3.news f3 f4 (Nat.le_refl _)
    have n24 := f24.size
    refine pushR (hR2.fr0 f24) (by omega) n2 hO4 (Nat.le_refl _) (by omega) fun p6 c6 w5 f5 hR5 => ?_
    rw [wrap64 (by omega) (by omega)]
    refine hgo _ _ _ (k - 1) (by omega) ⟨i + 1, p6, c6, by omega, rfl, (hR2.fr0 f24).news (f2.then f24) f5 (Nat.le_refl _), ?_⟩
    rw [rowsF_succ]
    exact hR5
  · have hi4 : i = 4 := by omega
    subst hi4
    unfold ref03_Keys_j3
    refine LoopS.ind (fun k us w' => ∃ (i : Nat) (p5 : Option Addr) (c5 : Nat), 4 ≤ i ∧ i + k = 44 ∧ us = [.slice q m d, .slice none 0 0, .slice p5 i c5, .int .i64 (i : Int)] ∧ Fr [] w w' ∧ ORows w' p5 i c5 (rowsF i 4 A) w.heap.size w'.heap.size) 40
      ⟨4, p5, c5, by omega, by omega, rfl, f2, hR2⟩ ?_
    rintro k us rr w3 I2 μ2 hgo2 ⟨i, p5, c5, hi4, hi, rfl, f3, hR3⟩
    have n3 := f3.size
    refine ⟨_, _, _, _, _, _, _, _, _, _, rfl, cond_d (fun h2 => ?_) (fun h2 => ?_)⟩
    · have hi44 : i < 44 := by omega
      have e1 : IntKind.i64.wrap ((i : Int) - 1) = ((i - 1 : Nat) : Int) := by rw [wrap64 (by omega) (by omega)]; omega
      have e4 : IntKind.i64.wrap ((i : Int) - 4) = ((i - 4 : Nat) : Int) := by rw [wrap64 (by omega) (by omega)]; omega
      rw [e1]
      obtain ⟨a, qa, da, ha, hca, hOa, hqa⟩ := hR3.get (i := i - 1) (by omega) (k := .i64)
      rw [rowsF_at (by omega), bl_len] at hca hOa
      refine ⟨a, ha, _, _, _, Ld.cell (by kernel_rfl) hca, ?_⟩
      have em : Int.tmod (i : Int) 4 = ((i % 4 : Nat) : Int) := rfl
      have ed : IntKind.i64.wrap (Int.tdiv (i : Int) 4) = ((i / 4 : Nat) : Int) := by
        have : Int.tdiv (i : Int) 4 = ((i / 4 : Nat) : Int) := rfl
        rw [this]; exact wrap64 (by omega) (by omega)
      rw [em, ed]
      have fin : ∀ w4 q8 c8, Fr [] w3 w4 → Row w4 q8 ((bl 4 (fun j => if i % 4 = 0 then turnedF (fun j => A (4 * (i - 1) + j)) (i / 4) j else A (4 * (i - 1) + j))).map vb) →
          ref03_Keys_j1 I2 μ2 [.slice q m d, .slice none 0 0, .slice p5 i c5, .int .i64 (i : Int)] w3 q m d none 0 0 p5 i c5 (i : Int) q8 4 c8 w4 K := by
        intro w4 q8 c8 f34 hrow
        unfold ref03_Keys_j1
        have n34 := f34.size
        rw [e4]
        have hR4 := hR3.fr0 f34
        obtain ⟨b, qb, db, hb, hcb, hOb, hqb⟩ := hR4.get (i := i - 4) (by omega) (k := .i64)
        rw [rowsF_at (by omega), bl_len] at hcb hOb
        refine ⟨b, hb, _, _, _, Ld.cell (by kernel_rfl) hcb, ?_⟩
        refine ref_add_c hOb.row (by rw [bl_len]) hrow (by rw [bl_len]) (Nat.le_refl _) (by omega) fun p9 c9 w5 f5 hO5 => ⟨_, _, _, rfl, ?_⟩
        have n5 := f5.size
        refine pushR (hR4.fr0 f5) (by omega) n3 hO5 n34 (by omega) fun p6 c6 w6 f6 hR6 => ?_
        rw [wrap64 (by omega) (by omega)]
        refine hgo2 _ _ _ (k - 1) (by omega) ⟨i + 1, p6, c6, by omega, by omega, rfl, (hR4.fr0 f5).news ((f3.then f34).then f5) f6 (Nat.le_refl _), ?_⟩
        rw [rowsF_succ]
        have e6 : bl 4 (xorF (fl (bl 4 (fun j => A (4 * (i - 4) + j)))) (fl (bl 4 (fun j => if i % 4 = 0 then turnedF (fun j => A (4 * (i - 1) + j)) (i / 4) j else A (4 * (i - 1) + j))))) = bl 4 (fun j => A (4 * i + j)) := by
          rw [bl_xor]
          refine bl_congr fun j hj => ?_
          show A (4 * (i - 4) + j) ^^^ _ = A (4 * i + j)
          rw [hword i j hi44 hj]
          unfold wnext
          rw [if_neg (by omega)]
        rw [e6] at hR6
        exact hR6
      refine cond_eq (fun h3 => ?_) (fun h3 => ?_)
      · have hm4 : i % 4 = 0 := by omega
        have hil : i - 1 < 44 := by omega
        obtain ⟨y, hy⟩ : ∃ y : Nat → UInt8, y = fun j => A (4 * (i - 1) + j) := ⟨_, rfl⟩
        rw [← hy] at hOa fin
        obtain ⟨a1, ha1, hc1⟩ := row_get (t := T_S_uint8) (by kernel_rfl) hOa.row (c := da) (l := 4) (by rw [bl_len]) (i := 1) (by omega) (k := .i64)
        obtain ⟨a2, ha2, hc2⟩ := row_get (t := T_S_uint8) (by kernel_rfl) hOa.row (c := da) (l := 4) (by rw [bl_len]) (i := 2) (by omega) (k := .i64)
        obtain ⟨a3, ha3, hc3⟩ := row_get (t := T_S_uint8) (by kernel_rfl) hOa.row (c := da) (l := 4) (by rw [bl_len]) (i := 3) (by omega) (k := .i64)
        obtain ⟨a0, ha0, hc0⟩ := row_get (t := T_S_uint8) (by kernel_rfl) hOa.row (c := da) (l := 4) (by rw [bl_len]) (i := 0) (by omega) (k := .i64)
        rw [bl_getD (by omega)] at hc0 hc1 hc2 hc3
        refine ⟨fun w' => Fr [] w3 w', Drw.intro fun w4 f4 s4 => ?_⟩
        refine ⟨a1, ha1, a2, ha2, a3, ha3, a0, ha0, _, ⟨f4, fun w' hw' => Ld.cell (by kernel_rfl) (hw'.cell hc1 (by simp))⟩, _, ⟨f4, fun w' hw' => Ld.cell (by kernel_rfl) (hw'.cell hc2 (by simp))⟩, _, ⟨f4, fun w' hw' => Ld.cell (by kernel_rfl) (hw'.cell hc3 (by simp))⟩, _, Ld.cell (by kernel_rfl) (f4.cell hc0 (by simp)), .inl rfl, ?_⟩
        refine ⟨_, _, _, Ef.new (v := .slice (some ⟨w4.heap.size, 0, none⟩) 4 4) (cs := (([y 1, y 2, y 3, y 0] : List UInt8).map vb).toArray) (e := T_uint8) (by kernel_rfl) fun w5 f5 hB5 s5 => ?_⟩
        have f35 := f4.then f5
        refine ref_subs_c (l := 4) (xs := [y 1, y 2, y 3, y 0]) hB5.rowL rfl (((ht.fr0 f3).fr0 f35)) (ts := tblL) (by rw [hm]; exact (bl_len _ _).symm) hm (by omega) fun p6 c6 w6 f6 hO6 => ⟨_, _, _, rfl, ?_⟩
        have e5 : ([y 1, y 2, y 3, y 0] : List UInt8).map (fun a => fl tblL a.toNat) = bl 4 (fun j => gsign (y ((j + 1) % 4))) := by
          have : ∀ a : UInt8, fl tblL a.toNat = gsign a := tblL_at
          simp only [List.map, this]
          rfl
        rw [e5] at hO6
        obtain ⟨z, hz⟩ : ∃ z : Nat → UInt8, z = fun j => gsign (y ((j + 1) % 4)) := ⟨_, rfl⟩
        rw [← hz] at hO6
        obtain ⟨b, hb, hcb⟩ := hO6.get (k := .i64) (i := 0) (by omega)
        rw [fl_bl 4 z 0 (by omega)] at hcb
        refine ⟨fun w' => w'.cell? b = some (vb (z 0)), Drw.intro fun w7 f7 s7 => ?_⟩
        refine ⟨b, hb, _, ⟨f7.cell hcb (by simp), fun w' hw' => Ld.cell (by kernel_rfl) hw'⟩, ?_⟩
        have er : IntKind.u64.wrap (IntKind.i64.wrap (((i / 4 : Nat) : Int) - 1)) = ((UInt64.ofNat (i / 4 - 1)).toNat : Int) := by
          have e1 : ((i / 4 : Nat) : Int) - 1 = ((i / 4 - 1 : Nat) : Int) := by omega
          have e2 : (UInt64.ofNat (i / 4 - 1)).toNat = i / 4 - 1 := by simp; omega
          rw [e1, wrap64 (by omega) (by omega), wrapu64 (by omega) (by omega), e2]
        rw [er]
        obtain ⟨p0, hp0⟩ : ∃ p, p = gpow 2 (UInt64.ofNat (i / 4 - 1)) := ⟨_, rfl⟩
        refine refPow_c 2 _ _ _ ?_
        rw [← hp0]
        refine ⟨_, rfl, .inl rfl, ?_⟩
        rw [xor8]
        have f37 := (f35.then f6).then f7
        have hlen6 := hO6.2.1
        refine (hO6.fr0 f7).sto (i := 0) (by omega) fun w8 f8 hO8 s8 => ?_
        refine fin w8 p6 c6 ((hO6.fr0 f7).news f37 f8 f35.size) ?_
        have e8 : (bl 4 z).set 0 (z 0 ^^^ p0) = bl 4 (fun j => if i % 4 = 0 then turnedF y (i / 4) j else y j) := by
          refine bl_of_fl (by simp [bl_len]) fun j hj => ?_
          rw [fl_set (by rw [bl_len]; omega)]
          show _ = if i % 4 = 0 then turnedF y (i / 4) j else y j
          rw [if_pos hm4]
          unfold turnedF
          by_cases hj0 : j = 0
          · subst hj0; rw [if_pos rfl, if_pos rfl, ← hp0, hz]
          · rw [if_neg hj0, if_neg hj0, fl_bl 4 z j hj, hz]
        have hrow8 := hO8.row
        rw [e8] at hrow8
        rw [hy] at hrow8 ⊢
        exact hrow8
      · have hm4 : ¬ i % 4 = 0 := by omega
        refine fin w3 qa da (Fr.refl _ _) ?_
        have e6 : bl 4 (fun j => if i % 4 = 0 then turnedF (fun j => A (4 * (i - 1) + j)) (i / 4) j else A (4 * (i - 1) + j)) = bl 4 (fun j => A (4 * (i - 1) + j)) := bl_congr fun j hj => if_neg hm4
        rw [e6]
        exact hOa.row
    · have hi44 : i = 44 := by omega
      subst hi44
      unfold ref03_Keys_j2
      refine mkR0 fun p7 w4 f4 hR4 => ?_
      refine LoopS.ind (fun k us w' => ∃ (i : Nat) (p9 : Option Addr) (c9 : Nat), i + k = 11 ∧ us = [.slice none 0 0, .slice p5 44 c5, .slice p9 i c9, .int .i64 (i : Int)] ∧ Fr [] w3 w' ∧ ORows w' p9 i c9 (rowsF i 16 A) w3.heap.size w'.heap.size) 11
        ⟨0, p7, 0, by omega, rfl, f4, hR4⟩ ?_
      rintro k us rr w5 I3 μ3 hgo3 ⟨i, p9, c9, hi, rfl, f5, hR5⟩
      have n5 := f5.size
      refine ⟨_, _, _, _, _, _, _, _, _, _, rfl, cond_d (fun h3 => ?_) (fun h3 => ?_)⟩
      · have hi11 : i < 11 := by omega
        refine mk0 fun p10 w6 f6 hO6 s6 => ?_
        refine LoopS.ind (fun k us w' => ∃ (j : Nat) (p11 : Option Addr) (c11 : Nat), j + k = 4 ∧ us = [.slice none 0 0, .slice p5 44 c5, .slice p9 i c9, .int .i64 (i : Int), .slice p11 (4 * j) c11, .int .i64 (j : Int)] ∧ Fr [] w5 w' ∧ OB w' p11 (4 * j) c11 (bl (4 * j) (fun t => A (16 * i + t))) w5.heap.size) 4
          ⟨0, p10, 0, by omega, rfl, f6, hO6⟩ ?_
        rintro k2 us2 rr2 w7 I4 μ4 hgo4 ⟨j, p11, c11, hj, rfl, f7, hO7⟩
        refine ⟨_, _, _, _, _, _, _, _, _, _, _, _, _, _, rfl, cond_d (fun h4 => ?_) (fun h4 => ?_)⟩
        · have hj4 : j < 4 := by omega
          have e1 : IntKind.i64.wrap (4 * (i : Int)) = ((4 * i : Nat) : Int) := by rw [wrap64 (by omega) (by omega)]; omega
          have e2 : IntKind.i64.wrap (((4 * i : Nat) : Int) + (j : Int)) = ((4 * i + j : Nat) : Int) := by rw [wrap64 (by omega) (by omega)]; omega
          rw [e1, e2]
          obtain ⟨a, qa, da, ha, hca, hOa, hqa⟩ := ((hR3.fr0 f5).fr0 f7).get (i := 4 * i + j) (by omega) (k := .i64)
          rw [rowsF_at (by omega), bl_len] at hca hOa
          refine ⟨a, ha, _, _, _, Ld.cell (by kernel_rfl) hca, ?_⟩
          refine pushN hO7 f7.size hOa.row (by rw [bl_len]) (by omega) fun p' c' w8 f8 hO8 => ?_
          rw [wrap64 (by omega) (by omega)]
          refine hgo4 _ _ _ (k2 - 1) (by omega) ⟨j + 1, p', c', by omega, rfl, hO7.news f7 f8 (Nat.le_refl _), ?_⟩
          have e8 : bl (4 * j) (fun t => A (16 * i + t)) ++ bl 4 (fun t => A (4 * (4 * i + j) + t)) = bl (4 * (j + 1)) (fun t => A (16 * i + t)) := by
            rw [show 4 * (j + 1) = 4 * j + 4 by omega, bl_add]
            congr 1
            refine bl_congr fun t _ => ?_
            show A _ = A _
            congr 1; omega
          rw [e8] at hO8
          exact hO8
        · have hj4 : j = 4 := by omega
          subst hj4
          have n7 := f7.size
          refine pushR (hR5.fr0 f7) n7 n5 hO7 (Nat.le_refl _) (by omega) fun p12 c12 w8 f8 hR8 => ?_
          rw [wrap64 (by omega) (by omega)]
          refine hgo3 _ _ _ (k - 1) (by omega) ⟨i + 1, p12, c12, by omega, rfl, (hR5.fr0 f7).news (f5.then f7) f8 (Nat.le_refl _), ?_⟩
          rw [rowsF_succ]
          exact hR8
      · have hi11 : i = 11 := by omega
        subst hi11
        exact h p9 c9 w5 (f3.then f5) (hR5.mono n3 (Nat.le_refl _))
end Go.Sh
end

section
namespace Go.Sh
open Go Go.Fw Go.Proofs
set_option maxRecDepth 100000
set_option linter.unusedVariables false
def hsz (n : Nat) : Nat := n - n / 2
def msk (n : Nat) (left : Bool) (len j : Nat) : UInt8 := if n % 2 = 0 then 255 else if left then (if j + 1 = len then 240 else 255) else (if j = 0 then 15 else 255)
theorem msk_even {n : Nat} (h : n % 2 = 0) (left : Bool) (len j : Nat) : msk n left len j = 255 := by unfold msk; rw [if_pos h]
theorem msk_L {n : Nat} (h : ¬ n % 2 = 0) (len j : Nat) : msk n true len j = if j + 1 = len then 240 else 255 := by unfold msk; rw [if_neg h]; rfl
theorem msk_R {n : Nat} (h : ¬ n % 2 = 0) (len j : Nat) : msk n false len j = if j = 0 then 15 else 255 := by unfold msk; rw [if_neg h]; rfl
def trimL (xs : List UInt8) (n : Nat) (left : Bool) : List UInt8 := bl xs.length (fun j => fl xs j &&& msk n left xs.length j)
def goodH (n : Nat) (left : Bool) (xs : List UInt8) : Prop := xs.length = hsz n ∧ trimL xs n left = xs
theorem trimL_len (xs : List UInt8) (n : Nat) (left : Bool) : (trimL xs n left).length = xs.length := bl_len _ _
theorem trimL_fl {xs : List UInt8} {n : Nat} {left : Bool} {j : Nat} (h : j < xs.length) : fl (trimL xs n left) j = fl xs j &&& msk n left xs.length j := bl_getD h
theorem and_idem8 (a m : UInt8) : a &&& m &&& m = a &&& m := by rw [UInt8.and_assoc, UInt8.and_self]
theorem fl_ext {xs ys : List UInt8} (hl : xs.length = ys.length) (h : ∀ j, j < xs.length → fl xs j = fl ys j) : xs = ys := list_eq_of hl h
theorem trimL_idem (xs : List UInt8) (n : Nat) (left : Bool) : trimL (trimL xs n left) n left = trimL xs n left := by
  refine fl_ext (by rw [trimL_len]) fun j hj => ?_
  rw [trimL_len, trimL_len] at hj
  rw [trimL_fl (by rw [trimL_len]; exact hj), trimL_fl hj, trimL_len, and_idem8]
def blockL (h : List UInt8) (n p : Nat) : List UInt8 := h ++ List.replicate (14 - h.length) 0 ++ [UInt8.ofNat n, UInt8.ofNat p]
theorem blockL_len {h : List UInt8} (n p : Nat) (hl : h.length ≤ 14) : (blockL h n p).length = 16 := by simp [blockL]; omega
def ontoL (key fr to_ : List UInt8) (n p : Nat) (left : Bool) : List UInt8 := trimL (xorL ((aencL key (blockL fr n p)).take to_.length) to_) n left
theorem take_len {key fr : List UInt8} {n p k : Nat} (h : k ≤ 16) : ((aencL key (blockL fr n p)).take k).length = k := by rw [List.length_take, aencL_len]; omega
theorem ontoL_len (key fr to_ : List UInt8) (n p : Nat) (left : Bool) (h : to_.length ≤ 16) : (ontoL key fr to_ n p left).length = to_.length := by
  unfold ontoL; rw [trimL_len, xorL_len (take_len h)]
theorem ontoL_fl {key fr to_ : List UInt8} {n p : Nat} {left : Bool} (h : to_.length ≤ 16) {j : Nat} (hj : j < to_.length) : fl (ontoL key fr to_ n p left) j = (fl ((aencL key (blockL fr n p)).take to_.length) j ^^^ fl to_ j) &&& msk n left to_.length j := by
  unfold ontoL
  rw [trimL_fl (by rw [xorL_len (take_len h)]; exact hj), xorL_len (take_len h)]
  congr 1
  exact xorL_getD (take_len h) hj
theorem onto_good {key fr to_ : List UInt8} {n p : Nat} {left : Bool} (h : to_.length ≤ 16) (hl : to_.length = hsz n) : goodH n left (ontoL key fr to_ n p left) := ⟨by rw [ontoL_len _ _ _ _ _ _ h]; exact hl, by unfold ontoL; exact trimL_idem _ _ _⟩
theorem onto_twice {key fr to_ : List UInt8} {n p : Nat} {left : Bool} (h : to_.length ≤ 16) (hg : goodH n left to_) : ontoL key fr (ontoL key fr to_ n p left) n p left = to_ := by
  have hl := ontoL_len key fr to_ n p left h
  refine fl_ext (by rw [ontoL_len _ _ _ _ _ _ (by rw [hl]; exact h), hl]) fun j hj => ?_
  rw [ontoL_len _ _ _ _ _ _ (by rw [hl]; exact h), hl] at hj
  rw [ontoL_fl (by rw [hl]; exact h) (by rw [hl]; exact hj), hl, ontoL_fl h hj]
  have e : fl to_ j = fl to_ j &&& msk n left to_.length j := by
    rw [← trimL_fl hj, hg.2]
  generalize fl ((aencL key (blockL fr n p)).take to_.length) j = s
  generalize msk n left to_.length j = m at e ⊢
  rw [and_xor8, and_idem8, and_xor8, ← xor_assoc8, xor_self8, zero_xor8]
  exact e.symm
def passL (key : List UInt8) (n p : Nat) (s : List UInt8 × List UInt8) : List UInt8 × List UInt8 :=
  if p % 2 = 0 then (ontoL key s.2 s.1 n p true, s.2) else (s.1, ontoL key s.1 s.2 n p false)
def goodP (n : Nat) (s : List UInt8 × List UInt8) : Prop := goodH n true s.1 ∧ goodH n false s.2
theorem hsz_le {n : Nat} (h : n ≤ 28) : hsz n ≤ 14 := by unfold hsz; omega
theorem passL_good {key : List UInt8} {n p : Nat} (hn : n ≤ 28) {s : List UInt8 × List UInt8} (h : goodP n s) : goodP n (passL key n p s) := by
  have h1 := h.1.1; have h2 := h.2.1; have := hsz_le hn
  unfold passL
  split
  · exact ⟨onto_good (by omega) h1, h.2⟩
  · exact ⟨h.1, onto_good (by omega) h2⟩
theorem passL_twice {key : List UInt8} {n p : Nat} (hn : n ≤ 28) {s : List UInt8 × List UInt8} (h : goodP n s) : passL key n p (passL key n p s) = s := by
  have h1 := h.1.1; have h2 := h.2.1; have := hsz_le hn
  unfold passL
  by_cases hp : p % 2 = 0
  · rw [if_pos hp, if_pos hp]
    show (ontoL key s.2 (ontoL key s.2 s.1 n p true) n p true, s.2) = s
    rw [onto_twice (by omega) h.1]
  · rw [if_neg hp, if_neg hp]
    show (s.1, ontoL key s.1 (ontoL key s.1 s.2 n p false) n p false) = s
    rw [onto_twice (by omega) h.2]
def runL (key : List UInt8) (n : Nat) (ps : List Nat) (s : List UInt8 × List UInt8) : List UInt8 × List UInt8 := ps.foldl (fun s p => passL key n p s) s
theorem runL_good {key : List UInt8} {n : Nat} (hn : n ≤ 28) : ∀ (ps : List Nat) {s : List UInt8 × List UInt8}, goodP n s → goodP n (runL key n ps s) := by
  intro ps
  induction ps with
  | nil => intro s h; exact h
  | cons p ps ih => intro s h; exact ih (passL_good hn h)
theorem runL_snoc (key : List UInt8) (n : Nat) (ps : List Nat) (p : Nat) (s : List UInt8 × List UInt8) : runL key n (ps ++ [p]) s = passL key n p (runL key n ps s) := by simp [runL]
theorem runL_rev {key : List UInt8} {n : Nat} (hn : n ≤ 28) : ∀ (ps : List Nat) {s : List UInt8 × List UInt8}, goodP n s → runL key n ps.reverse (runL key n ps s) = s := by
  intro ps
  induction ps with
  | nil => intro s h; rfl
  | cons p ps ih =>
    intro s h
    rw [List.reverse_cons, runL_snoc]
    show passL key n p (runL key n ps.reverse (runL key n ps (passL key n p s))) = s
    rw [ih (passL_good hn h)]
    exact passL_twice hn h
def cutL (b : List UInt8) : List UInt8 × List UInt8 := (trimL (b.take (hsz b.length)) b.length true, trimL (b.drop (b.length - hsz b.length)) b.length false)
def joinL (l r : List UInt8) (n : Nat) : List UInt8 := if n % 2 = 0 then l ++ r else (l ++ r.drop 1).set (l.length - 1) (fl l (l.length - 1) ||| fl r 0)
theorem cutL_len {b : List UInt8} : (cutL b).1.length = hsz b.length ∧ (cutL b).2.length = hsz b.length := by
  unfold cutL hsz
  rw [trimL_len, trimL_len]
  simp; omega
theorem cutL_good (b : List UInt8) : goodP b.length (cutL b) := ⟨⟨cutL_len.1, trimL_idem _ _ _⟩, ⟨cutL_len.2, trimL_idem _ _ _⟩⟩
theorem fl_append (xs ys : List UInt8) (j : Nat) : fl (xs ++ ys) j = if j < xs.length then fl xs j else fl ys (j - xs.length) := by
  unfold fl
  rw [List.getD_eq_getElem?_getD]
  by_cases h : j < xs.length
  · rw [if_pos h, List.getElem?_append_left h, List.getD_eq_getElem?_getD]
  · rw [if_neg h, List.getElem?_append_right (by omega), List.getD_eq_getElem?_getD]
theorem fl_take (xs : List UInt8) (k j : Nat) : fl (xs.take k) j = if j < k then fl xs j else 0 := by
  unfold fl
  rw [List.getD_eq_getElem?_getD, List.getElem?_take]
  split
  · rw [List.getD_eq_getElem?_getD]
  · rfl
theorem joinL_len {l r : List UInt8} {n : Nat} (h1 : l.length = hsz n) (h2 : r.length = hsz n) (hn : 2 ≤ n) : (joinL l r n).length = n := by
  unfold joinL
  unfold hsz at h1 h2
  split
  · simp; omega
  · simp; omega
theorem and255 (a : UInt8) : a &&& 255 = a := by
  have := all8 (p := fun a => a &&& 255 == a) (by kernel_rfl) a
  simpa using this
theorem hi_lo (a : UInt8) : (a &&& 240) ||| (a &&& 15) = a := by
  have := all8 (p := fun a => (a &&& 240) ||| (a &&& 15) == a) (by kernel_rfl) a
  simpa using this
theorem join_cut (b : List UInt8) (h2 : 2 ≤ b.length) : joinL (cutL b).1 (cutL b).2 b.length = b := by
  obtain ⟨n, hn⟩ : ∃ n, n = b.length := ⟨_, rfl⟩
  have hlen := joinL_len (cutL_len (b := b)).1 (cutL_len (b := b)).2 h2
  refine fl_ext hlen fun j hj => ?_
  rw [hlen] at hj
  have hL : ∀ j, j < hsz b.length → fl (cutL b).1 j = fl b j &&& msk b.length true (hsz b.length) j := by
    intro j hj
    have hle : (b.take (hsz b.length)).length = hsz b.length := by rw [List.length_take]; unfold hsz; omega
    show fl (trimL _ _ _) j = _
    rw [trimL_fl (by rw [hle]; exact hj), hle, fl_take, if_pos hj]
  have hR : ∀ j, j < hsz b.length → fl (cutL b).2 j = fl b (b.length - hsz b.length + j) &&& msk b.length false (hsz b.length) j := by
    intro j hj
    have hle : (b.drop (b.length - hsz b.length)).length = hsz b.length := by rw [List.length_drop]; unfold hsz; omega
    show fl (trimL _ _ _) j = _
    rw [trimL_fl (by rw [hle]; exact hj), hle, fl_drop]
  have l1 := (cutL_len (b := b)).1
  have l2 := (cutL_len (b := b)).2
  unfold joinL
  by_cases he : b.length % 2 = 0
  · rw [if_pos he, fl_append, l1]
    have hs : hsz b.length = b.length / 2 := by unfold hsz; omega
    by_cases hjl : j < hsz b.length
    · rw [if_pos hjl, hL j hjl, msk_even he, and255]
    · rw [if_neg hjl, hR _ (by omega), msk_even he, and255]
      congr 1; omega
  · rw [if_neg he]
    have hs : hsz b.length = b.length / 2 + 1 := by unfold hsz; omega
    have ho : b.length % 2 = 1 := by omega
    rw [fl_set (by rw [List.length_append, List.length_drop, l1, l2]; omega), l1]
    by_cases hjk : j = hsz b.length - 1
    · rw [if_pos hjk, hL _ (by omega), hR 0 (by omega), msk_L he, msk_R he, if_pos (by omega), if_pos rfl, show b.length - hsz b.length + 0 = hsz b.length - 1 by omega, hi_lo, hjk]
    · rw [if_neg hjk, fl_append, l1]
      by_cases hjl : j < hsz b.length
      · rw [if_pos hjl, hL j hjl, msk_L he, if_neg (by omega), and255]
      · rw [if_neg hjl, fl_drop, hR _ (by omega), msk_R he, if_neg (by omega), and255]
        congr 1; omega
theorem and_or8 (a b c : UInt8) : (a ||| b) &&& c = (a &&& c) ||| (b &&& c) := by
  rw [← UInt8.toBitVec_inj]; simp only [UInt8.toBitVec_and, UInt8.toBitVec_or]
  apply BitVec.eq_of_getLsbD_eq
  intro i _
  simp only [BitVec.getLsbD_and, BitVec.getLsbD_or]
  cases a.toBitVec.getLsbD i <;> cases b.toBitVec.getLsbD i <;> cases c.toBitVec.getLsbD i <;> rfl
theorem cut_join {l r : List UInt8} {n : Nat} (hn : 2 ≤ n) (h : goodP n (l, r)) : cutL (joinL l r n) = (l, r) := by
  obtain ⟨⟨l1, gl⟩, l2, gr⟩ := h
  have l1 : l.length = hsz n := l1
  have l2 : r.length = hsz n := l2
  have gl : trimL l n true = l := gl
  have gr : trimL r n false = r := gr
  have hlen := joinL_len l1 l2 hn
  have eL : ∀ j, j < hsz n → fl l j = fl l j &&& msk n true (hsz n) j := fun j hj => by rw [← l1, ← trimL_fl (by omega), gl]
  have eR : ∀ j, j < hsz n → fl r j = fl r j &&& msk n false (hsz n) j := fun j hj => by rw [← l2, ← trimL_fl (by omega), gr]
  have s2 : hsz n = n / 2 + n % 2 := by unfold hsz; omega
  have m2 : n % 2 < 2 := Nat.mod_lt _ (by omega)
  -- the joined bytes
  have hJ : ∀ j, j < n → fl (joinL l r n) j = if n % 2 = 0 then (if j < hsz n then fl l j else fl r (j - hsz n)) else (if j = hsz n - 1 then fl l j ||| fl r 0 else if j < hsz n then fl l j else fl r (j - hsz n + 1)) := by
    intro j hj
    unfold joinL
    by_cases he : n % 2 = 0
    · rw [if_pos he, if_pos he, fl_append, l1]
    · rw [if_neg he, if_neg he, fl_set (by rw [List.length_append, List.length_drop, l1, l2]; omega), l1]
      by_cases hjk : j = hsz n - 1
      · rw [if_pos hjk, if_pos hjk, hjk]
      · rw [if_neg hjk, if_neg hjk, fl_append, l1, fl_drop, Nat.add_comm 1]
  unfold cutL
  rw [hlen]
  have c0 : ∀ x : UInt8, x &&& 15 &&& 240 = 0 := fun x => by
    have := all8 (p := fun x => x &&& 15 &&& 240 == 0) (by kernel_rfl) x
    simpa using this
  have c1 : ∀ x : UInt8, x &&& 240 &&& 15 = 0 := fun x => by
    have := all8 (p := fun x => x &&& 240 &&& 15 == 0) (by kernel_rfl) x
    simpa using this
  congr 1
  · have hle : ((joinL l r n).take (hsz n)).length = hsz n := by rw [List.length_take, hlen]; omega
    refine fl_ext (by rw [trimL_len, hle, l1]) fun j hj => ?_
    rw [trimL_len, hle] at hj
    rw [trimL_fl (by rw [hle]; exact hj), hle, fl_take, if_pos hj, hJ j (by omega)]
    have e1 := eL j hj
    by_cases he : n % 2 = 0
    · rw [if_pos he, if_pos hj]; exact e1.symm
    · rw [if_neg he]
      by_cases hjk : j = hsz n - 1
      · have e2 := eR 0 (by omega)
        rw [msk_R he, if_pos rfl] at e2
        rw [if_pos hjk, and_or8, ← e1, msk_L he, if_pos (by omega), e2, c0]
        exact UInt8.or_zero
      · rw [if_neg hjk, if_pos hj]; exact e1.symm
  · have hle : ((joinL l r n).drop (n - hsz n)).length = hsz n := by rw [List.length_drop, hlen]; omega
    refine fl_ext (by rw [trimL_len, hle, l2]) fun j hj => ?_
    rw [trimL_len, hle] at hj
    rw [trimL_fl (by rw [hle]; exact hj), hle, fl_drop, hJ _ (by omega)]
    have e1 := eR j hj
    by_cases he : n % 2 = 0
    · rw [if_pos he, if_neg (by omega), show n - hsz n + j - hsz n = j by omega]; exact e1.symm
    · rw [if_neg he]
      by_cases hj0 : j = 0
      · subst hj0
        have e2 := eL (n - hsz n + 0) (by omega)
        rw [msk_L he, if_pos (by omega)] at e2
        rw [if_pos (by omega), and_or8, ← e1, msk_R he, if_pos rfl, e2, c1]
        exact UInt8.zero_or
      · rw [if_neg (by omega), if_neg (by omega), show n - hsz n + j - hsz n + 1 = j by omega]; exact e1.symm
def passesL (key text : List UInt8) (ps : List Nat) : List UInt8 := joinL (runL key text.length ps (cutL text)).1 (runL key text.length ps (cutL text)).2 text.length
theorem passesL_len (key text : List UInt8) (ps : List Nat) (h2 : 2 ≤ text.length) (h28 : text.length ≤ 28) : (passesL key text ps).length = text.length := by
  have := runL_good (key := key) h28 ps (cutL_good text)
  exact joinL_len this.1.1 this.2.1 h2
theorem passesL_rev (key text : List UInt8) (ps : List Nat) (h2 : 2 ≤ text.length) (h28 : text.length ≤ 28) : passesL key (passesL key text ps) ps.reverse = text := by
  have hg := runL_good (key := key) h28 ps (cutL_good text)
  have hl := passesL_len key text ps h2 h28
  have hc : cutL (passesL key text ps) = runL key text.length ps (cutL text) := cut_join h2 hg
  unfold passesL at hc hl ⊢
  rw [hl, hc, runL_rev h28 ps (cutL_good text)]
  exact join_cut text h2
end Go.Sh
end

section
namespace Go.Sh
open Go Go.Fw Go.Proofs
set_option maxRecDepth 100000
set_option linter.unusedVariables false
theorem tdiv2 (n : Nat) : Int.tdiv (n : Int) 2 = ((n / 2 : Nat) : Int) := rfl
theorem Size_c {n : Nat} (h1 : 1 ≤ n) (hn : n < 1000000) {w : World} {K : Value → World → Prop} (h : K (.int .i64 (hsz n : Int)) w) : callF Tryz.prog F_halves_Size #[.int .i64 (n : Int)] w K := by
  apply halves_Size_call
  unfold halves_Size
  refine cond_d (fun h2 => by omega) fun _ => ?_
  rw [tdiv2, wrap64 (n := ((n / 2 : Nat) : Int)) (by omega) (by omega), wrap64 (by omega) (by omega)]
  have : (n : Int) - ((n / 2 : Nat) : Int) = (hsz n : Int) := by unfold hsz; omega
  rw [this]
  exact h
def fitN (n : Int) (rs : List (List UInt8)) : Prop := 2 ≤ n ∧ n ≤ 28 ∧ ∀ r ∈ rs, r.length = hsz n.toNat
instance (n : Int) (rs : List (List UInt8)) : Decidable (fitN n rs) := by unfold fitN; exact inferInstance
theorem fits_c {n : Int} {w : World} {p : Option Addr} {l c : Nat} {rs : List (List UInt8)} (hR : RowB w p rs) (hl : l = rs.length) (hl2 : l ≤ 1000000) {K : Value → World → Prop} (h : ∀ w', Fr [] w w' → K (.bool (decide (fitN n rs))) w') :
    callF Tryz.prog F_halves_fits #[.int .i64 n, .slice p l c] w K := by
  apply halves_fits_call
  unfold halves_fits
  refine New.intro fun w1 f1 hB s1 => ?_
  have hB : Blk w1 w.heap.size 1 (fun _ => .int .i64 n) := hB.ext (fun i hi => by
    have : i = 0 := by have : i < 1 := hi; omega
    subst this; rfl)
  refine ⟨_, Ld.blk (by kernel_rfl) hB (by omega) rfl, cond_d (fun h1 => ?_) (fun h1 => ?_)⟩
  · refine ⟨_, Ld.blk (by kernel_rfl) hB (by omega) rfl, cond_d (fun h2 => ?_) (fun h2 => ?_)⟩
    · obtain ⟨m, rfl⟩ := Int.eq_ofNat_of_zero_le (show 0 ≤ n by omega)
      apply slices_ContainsFunc_byte_byte_call
      unfold slices_ContainsFunc_byte_byte
      apply slices_IndexFunc_byte_byte_call
      unfold slices_IndexFunc_byte_byte
      have hsame : ∀ r : List UInt8, ((r.length : Int) != (hsz m : Int)) = decide (r.length ≠ hsz m) := by
        intro r
        by_cases hr : r.length = hsz m
        · rw [hr]; simp
        · have : (r.length : Int) ≠ (hsz m : Int) := by omega
          simp [hr, this]
      refine LoopS.ind (fun k us w' => w' = w1 ∧ ∃ i : Nat, i + k = l ∧ us = [.slice p l c, .func (.func F_halves_fits_c1) #[] #[.pointer (some ⟨w.heap.size, 0, none⟩)], .int .i64 0, .int .i64 (l : Int), .int .i64 (i : Int)] ∧ ∀ j, j < i → (rs.getD j []).length = hsz m) l ⟨rfl, 0, by omega, rfl, by omega⟩ ?_
      rintro k us r w2 I μ hgo ⟨rfl, i, hi, rfl, hs⟩
      refine ⟨_, _, _, _, _, _, _, rfl, cond_d (fun h3 => ?_) (fun h3 => ?_)⟩
      · have hil : i < l := by omega
        obtain ⟨a, q, d, ha, hca, hq, _⟩ := rows_get (t := T_S_S_uint8) (by kernel_rfl) (hR.fr0 f1) (c := c) hl hil (k := .i64)
        refine ⟨a, ha, _, _, _, Ld.cell (by kernel_rfl) hca, ?_⟩
        refine callV_in ?_
        apply halves_fits_c1_call
        unfold halves_fits_c1
        refine ⟨_, Ld.blk (by kernel_rfl) hB (by omega) rfl, ?_⟩
        refine Size_c (by omega) (by omega) ⟨_, rfl, _, rfl, ?_⟩
        rw [hsame]
        refine cond_d (fun h4 => ?_) (fun h4 => ?_)
        · refine ⟨_, rfl, ?_⟩
          have e1 : decide ((i : Int) ≥ 0) = true := by simp
          rw [e1]
          refine ⟨_, rfl, ?_⟩
          have e2 : decide (fitN (m : Int) rs) = false := by
            rw [decide_eq_false_iff_not]
            rintro ⟨_, _, hall⟩
            apply h4
            have := hall (rs.getD i []) (by rw [List.getD_eq_getElem?_getD, List.getElem?_eq_getElem (by omega)]; simp)
            rwa [Int.toNat_natCast] at this
          have := h w2 f1
          rw [e2] at this
          exact this
        · rw [wrap64 (by omega) (by omega)]
          refine hgo _ _ _ (k - 1) (by omega) ⟨rfl, i + 1, by omega, rfl, fun j hj => ?_⟩
          by_cases hji : j = i
          · subst hji; simpa using h4
          · exact hs j (by omega)
      · refine ⟨_, rfl, ?_⟩
        have e1 : decide ((-1 : Int) ≥ 0) = false := rfl
        rw [e1]
        refine ⟨_, rfl, ?_⟩
        have e2 : decide (fitN (m : Int) rs) = true := by
          rw [decide_eq_true_iff]
          refine ⟨by omega, by omega, fun r hr => ?_⟩
          obtain ⟨j, hj, rfl⟩ := List.getElem_of_mem hr
          have := hs j (by omega)
          rwa [List.getD_eq_getElem?_getD, List.getElem?_eq_getElem hj] at this
        have := h w2 f1
        rw [e2] at this
        exact this
    · have e2 : decide (fitN n rs) = false := by
        rw [decide_eq_false_iff_not]; rintro ⟨_, hb, _⟩; omega
      have := h w1 f1
      rw [e2] at this
      exact this
  · have e2 : decide (fitN n rs) = false := by
      rw [decide_eq_false_iff_not]; rintro ⟨ha, _, _⟩; omega
    have := h w1 f1
    rw [e2] at this
    exact this
end Go.Sh
end

section
namespace Go.Sh
open Go Go.Fw Go.Proofs
set_option maxRecDepth 100000
set_option linter.unusedVariables false
def Cip (w : World) (c : Nat) (key : List UInt8) (d : Int) (lo hi : Nat) : Prop := ∃ t F, Ciph w c t F (akeys (fl key)) d ∧ (∀ k ∈ F, lo ≤ k ∧ k < hi) ∧ lo ≤ c ∧ c < hi
theorem Cip.fr {w w' : World} {c : Nat} {key : List UInt8} {d : Int} {lo hi : Nat} {L : List Nat} (h : Cip w c key d lo hi) (hf : Fr L w w') (hl : ∀ k ∈ L, k < lo ∨ hi ≤ k) : Cip w' c key d lo hi := by
  obtain ⟨t, F, hC, hF, h1, h2⟩ := h
  exact ⟨t, F, hC.fr hf (fun hc => by have := hl _ hc; omega) (fun k hk hkF => by have := hl k hk; have := hF k hkF; omega), hF, h1, h2⟩
theorem Cip.fr0 {w w' : World} {c : Nat} {key : List UInt8} {d : Int} {lo hi : Nat} (h : Cip w c key d lo hi) (hf : Fr [] w w') : Cip w' c key d lo hi := h.fr hf (by simp)
theorem Cip.lt {w : World} {c : Nat} {key : List UInt8} {d : Int} {lo hi : Nat} (h : Cip w c key d lo hi) : lo ≤ c ∧ c < hi := by obtain ⟨t, F, hC, hF, h1, h2⟩ := h; exact ⟨h1, h2⟩
theorem Row.blk_lt {w : World} {p : Option Addr} {xs : List UInt8} (h : Row w p (xs.map vb)) (h0 : 0 < xs.length) : ∀ k ∈ blks p, k < w.heap.size := by
  obtain ⟨b, o, rfl, hc⟩ := Row.some h h0
  simp only [blks, List.mem_singleton]
  rintro k rfl
  exact World.block_lt_of_cell? w _ (hc 0 h0)
theorem newCip_c {w : World} {p : Option Addr} {l cap : Nat} {xs : List UInt8} (hx : Row w p (xs.map vb)) (hl : l = xs.length) (h16 : xs.length = 16) (hcap : xs.length ≤ cap) {K : Value → World → Prop}
    (h : ∀ c w', Fr [] w w' → Cip w' c xs 0 w.heap.size w'.heap.size → K (.tuple #[.pointer (some ⟨c, 0, none⟩), .int .i64 0]) w') : callF Tryz.prog F_aes_New #[.slice p l cap] w K :=
  aesNew_c hx hl h16 hcap fun c t F w' f hC hF hc => h c w' f ⟨t, F, hC, fun k hk => ⟨hF k hk, by obtain ⟨_, _, _, _, _, _, _, h⟩ := hC; exact h k hk⟩, hc, hC.lt⟩
theorem encCip_c {w : World} {c : Nat} {key : List UInt8} {d : Int} {lo hi : Nat} (hC : Cip w c key d lo hi) (hd0 : 0 ≤ d) (hd : d < 1000000000000) {p : Option Addr} {l cap : Nat} {xs : List UInt8} (hx : Row w p (xs.map vb)) (hl : l = xs.length) (h16 : xs.length = 16) (hpc : ∀ k ∈ blks p, k < lo ∨ hi ≤ k) {K : Value → World → Prop}
    (h : ∀ p' w', Fr [c] w w' → Cip w' c key (d + 1) lo hi → OB w' p' 16 16 (aencL key xs) w.heap.size → K (.tuple #[.slice p' 16 16, .int .i64 0]) w') :
    callF Tryz.prog F_aes_Cipher_Encrypt #[.pointer (some ⟨c, 0, none⟩), .slice p l cap] w K := by
  obtain ⟨t, F, hC, hF, h1, h2⟩ := hC
  exact Encrypt_c hC hd0 hd hx hl h16 (fun hk => by have := hpc _ hk; omega) fun b w' f hC' hb hbl => h _ w' f ⟨t, F, hC', hF, h1, h2⟩ ⟨hb.own, by simp [aencL_len], by simp [blks]; exact hbl⟩
theorem decCip_c {w : World} {c : Nat} {key : List UInt8} {d : Int} {lo hi : Nat} (hC : Cip w c key d lo hi) (hd0 : 0 ≤ d) (hd : d < 1000000000000) {p : Option Addr} {l cap : Nat} {xs : List UInt8} (hx : Row w p (xs.map vb)) (hl : l = xs.length) (h16 : xs.length = 16) (hpc : ∀ k ∈ blks p, k < lo ∨ hi ≤ k) {K : Value → World → Prop}
    (h : ∀ p' w', Fr [c] w w' → Cip w' c key (d + 1) lo hi → OB w' p' 16 16 (adecL key xs) w.heap.size → K (.tuple #[.slice p' 16 16, .int .i64 0]) w') :
    callF Tryz.prog F_aes_Cipher_Decrypt #[.pointer (some ⟨c, 0, none⟩), .slice p l cap] w K := by
  obtain ⟨t, F, hC, hF, h1, h2⟩ := hC
  exact Decrypt_c hC hd0 hd hx hl h16 (fun hk => by have := hpc _ hk; omega) fun b w' f hC' hb hbl => h _ w' f ⟨t, F, hC', hF, h1, h2⟩ ⟨hb.own, by simp [adecL_len], by simp [blks]; exact hbl⟩
theorem OB.fr_sep {w w' : World} {p : Option Addr} {l c : Nat} {xs : List UInt8} {lo b : Nat} (h : OB w p l c xs lo) (hf : Fr [b] w w') (hl : b < lo) : OB w' p l c xs lo :=
  h.fr hf fun k hk => by have := h.2.2 k hk; simp; omega
theorem Row.fr_lt {w w' : World} {p : Option Addr} {xs : List UInt8} {b : Nat} (h : Row w p (xs.map vb)) (hf : Fr [b] w w') (hb : b ∉ blks p) : Row w' p (xs.map vb) :=
  Row.cells_fr h hf fun k hk => by simp; rintro rfl; exact hb hk
theorem mkL {w : World} {xs : List UInt8} {n : Nat} {ps : Array (Nat × Value)} (hn : n = xs.length) (hps : ps = ⟨(List.range xs.length).zip (xs.map vb)⟩) (hr : (Instr.buildSlice T_S_uint8 n ps).run Tryz.prog w = .ok (.slice (some ⟨w.heap.size, 0, none⟩) n n) (w.alloc (.cells (xs.map vb).toArray T_uint8)))
    {K : Option Addr → Nat → Nat → World → Prop} (h : ∀ p w', Fr [] w w' → OB w' p n n xs w.heap.size → w'.heap.size = w.heap.size + 1 → K p n n w') : ∃ p l c w', Ef Tryz.prog (Instr.buildSlice T_S_uint8 n ps) w (.slice p l c) w' ∧ K p l c w' := by
  subst hn
  refine ⟨_, _, _, Ef.new hr fun w' f hB s => h _ w' f ⟨?_, rfl, by simp [blks]⟩ s⟩
  have := hB.own
  simpa using this
end Go.Sh
end

section
namespace Go.Sh
open Go Go.Fw Go.Proofs
set_option maxRecDepth 100000
set_option linter.unusedVariables false
theorem Row.takeB {w : World} {p : Option Addr} {xs : List UInt8} (h : Row w p (xs.map vb)) (n : Nat) : Row w p ((xs.take n).map vb) := by rw [List.map_take]; exact h.take n
theorem Row.partB {w : World} {p : Option Addr} {xs : List UInt8} (h : Row w p (xs.map vb)) {c l : Nat} (hc : xs.length ≤ c) : Row w (Go.Fw.partAt p c l 1) ((xs.drop l).map vb) := by rw [List.map_drop]; exact h.part (by simpa using hc)
theorem Row.front {w : World} {p : Option Addr} {xs : List UInt8} (h : Row w p (xs.map vb)) (c n : Nat) : Row w (Go.Fw.partAt p c 0 1) ((xs.take n).map vb) := by
  unfold Go.Fw.partAt
  split
  · exact Row.takeB h n
  · cases p with
    | none => exact Row.takeB h n
    | some a => exact Row.takeB h n
end Go.Sh
end

section
namespace Go.Sh
open Go Go.Fw Go.Proofs
set_option maxRecDepth 100000
set_option linter.unusedVariables false
theorem andNot15 (x : UInt8) : iandNot .u8 (x.toNat : Int) 15 = ((x &&& 240).toNat : Int) := by
  have : iandNot .u8 (x.toNat : Int) 15 = iand .u8 (x.toNat : Int) ((240 : UInt8).toNat : Int) := rfl
  rw [this]; exact and8 x 240
theorem andNot240 (x : UInt8) : iandNot .u8 (x.toNat : Int) 240 = ((x &&& 15).toNat : Int) := by
  have : iandNot .u8 (x.toNat : Int) 240 = iand .u8 (x.toNat : Int) ((15 : UInt8).toNat : Int) := rfl
  rw [this]; exact and8 x 15
theorem OB.stoAt {w : World} {p : Option Addr} {l c : Nat} {xs : List UInt8} {lo : Nat} (h : OB w p l c xs lo) {k : IntKind} {i : Nat} {x : UInt8} (hi : i < l) {a : Addr} (ha : IxA Tryz.prog T_S_uint8 (.slice p l c) (.int k (i : Int)) a) {K : World → Prop} (hk : ∀ w', Fr (blks p) w w' → OB w' p l c (xs.set i x) lo → w'.heap.size = w.heap.size → K w') :
    ∃ w', Sto Tryz.prog T_uint8 (.pointer (some a)) (.int .u8 (x.toNat : Int)) w w' ∧ K w' := by
  obtain ⟨a', ha', hs⟩ := h.sto (k := k) (x := x) hi hk
  have : a' = a := by have := ha'.symm.trans ha; simpa using this
  subst this
  exact hs
def oddAt (left : Bool) (l : Nat) : Nat := if left then l - 1 else 0
theorem odd_c {w : World} {p : Option Addr} {l c : Nat} {xs : List UInt8} (hR : Row w p (xs.map vb)) (hl : l = xs.length) (h0 : 0 < l) (hlb : l < 1000000) (n : Nat) (left : Bool) {K : Value → World → Prop} (hE : n % 2 = 0 → K (.tuple #[.pointer none, .int .u8 0]) w)
    (hO : n % 2 = 1 → ∀ a, IxA Tryz.prog T_S_uint8 (.slice p l c) (.int .i64 (oddAt left l : Int)) a → w.cell? a = some (vb (fl xs (oddAt left l))) → K (.tuple #[.pointer (some a), .int .u8 (if left then 15 else 240)]) w) :
    callF Tryz.prog F_halves_odd #[.slice p l c, .int .i64 (n : Int), .bool left] w K := by
  apply halves_odd_call
  unfold halves_odd
  have e : Int.tmod (n : Int) 2 = ((n % 2 : Nat) : Int) := rfl
  rw [e]
  refine cond_eq (fun h1 => hE (by omega)) (fun h1 => ?_)
  have ho : n % 2 = 1 := by have := Nat.mod_lt n (show 2 > 0 by omega); omega
  have hlt : oddAt left l < l := by unfold oddAt; split <;> omega
  obtain ⟨a, ha, hca⟩ := row_get (t := T_S_uint8) (by kernel_rfl) hR (c := c) hl hlt (k := .i64)
  have := hO ho a ha hca
  cases left with
  | true =>
    refine cond_t ⟨a, ?_, this⟩
    rw [wrap64 (by omega) (by omega)]
    have e2 : (l : Int) - 1 = (oddAt true l : Int) := by show (l : Int) - 1 = ((l - 1 : Nat) : Int); omega
    rw [e2]; exact ha
  | false => exact cond_f ⟨a, ha, this⟩
theorem trimL_even {xs : List UInt8} {n : Nat} (h : n % 2 = 0) (left : Bool) : trimL xs n left = xs :=
  fl_ext (trimL_len _ _ _) fun j hj => by rw [trimL_len] at hj; rw [trimL_fl hj, msk_even h, and255]
theorem trimL_set {xs : List UInt8} {n : Nat} (h : ¬ n % 2 = 0) (left : Bool) (h0 : 0 < xs.length) : trimL xs n left = xs.set (oddAt left xs.length) (fl xs (oddAt left xs.length) &&& (if left then 240 else 15)) := by
  refine fl_ext (by rw [trimL_len, List.length_set]) fun j hj => ?_
  rw [trimL_len] at hj
  have hlt : oddAt left xs.length < xs.length := by unfold oddAt; split <;> omega
  rw [trimL_fl hj, fl_set hlt]
  cases left with
  | true =>
    rw [msk_L h]
    by_cases hje : j = oddAt true xs.length
    · rw [if_pos hje, if_pos (by subst hje; unfold oddAt; rw [if_pos rfl]; omega), hje]; rfl
    · rw [if_neg hje, if_neg (by unfold oddAt at hje; rw [if_pos rfl] at hje; omega), and255]
  | false =>
    rw [msk_R h]
    by_cases hje : j = oddAt false xs.length
    · rw [if_pos hje, if_pos (by subst hje; rfl), hje]; rfl
    · rw [if_neg hje, if_neg (fun h => hje (by subst h; rfl)), and255]
theorem rowB1 {w : World} {v : Value} {r : List UInt8} (hv : ByS w v r) {K : Option Addr → Nat → Nat → World → Prop} (hr : (Instr.buildSlice T_S_S_uint8 1 #[(0, v)]).run Tryz.prog w = .ok (.slice (some ⟨w.heap.size, 0, none⟩) 1 1) (w.alloc (.cells ([v] : List Value).toArray T_S_uint8)))
    (h : ∀ p w', Fr [] w w' → RowB w' p [r] → w'.heap.size = w.heap.size + 1 → K p 1 1 w') : ∃ p l c w', Ef Tryz.prog (Instr.buildSlice T_S_S_uint8 1 #[(0, v)]) w (.slice p l c) w' ∧ K p l c w' :=
  ⟨_, _, _, Ef.new hr fun w' f hB s => h _ w' f (RowB.of1 hB.rowL (hv.fr0 f)) s⟩
theorem fit1 {n : Int} {r : List UInt8} : fitN n [r] ↔ (2 ≤ n ∧ n ≤ 28 ∧ r.length = hsz n.toNat) := by simp [fitN]
set_option maxHeartbeats 1000000 in
theorem Trim_c {w : World} {p : Option Addr} {l c : Nat} {xs : List UInt8} (hR : Row w p (xs.map vb)) (hl : l = xs.length) (hc : l ≤ c) (hlb : l < 1000000) (n : Int) (left : Bool) {K : Value → World → Prop}
    (hbad : ¬ fitN n [xs] → ∀ w', Fr [] w w' → K (.tuple #[.slice none 0 0, .int .i64 11]) w') (hok : fitN n [xs] → ∀ q d w', Fr [] w w' → OB w' q l d (trimL xs n.toNat left) w.heap.size → K (.tuple #[.slice q l d, .int .i64 0]) w') :
    callF Tryz.prog F_halves_Trim #[.slice p l c, .int .i64 n, .bool left] w K := by
  apply halves_Trim_call
  unfold halves_Trim
  refine rowB1 (byS hR hl hc) (by kernel_rfl) fun p1 w1 f1 hR1 s1 => ?_
  refine fits_c (l := 1) hR1 rfl (by omega) fun w2 f2 => ⟨_, rfl, ?_⟩
  have f02 := f1.then f2
  by_cases hfit : fitN n [xs]
  · rw [decide_eq_true hfit]
    refine cond_f ?_
    obtain ⟨h2, h28, hlen⟩ := fit1.1 hfit
    obtain ⟨m, rfl⟩ := Int.eq_ofNat_of_zero_le (show 0 ≤ n by omega)
    rw [Int.toNat_natCast] at hlen hok
    have h0 : 0 < xs.length := by rw [hlen]; unfold hsz; omega
    refine slices_Clone_c (hR.fr0 f02) (by simpa using hl) (by omega) (cells_vb xs) fun q d w3 f3 hO hnew => ⟨_, _, _, rfl, ?_⟩
    have f03 := f02.then f3
    have n02 := f02.size
    have hOB : OB w3 q l d xs w.heap.size := ⟨hO, hl, fun k hk => by have := hnew k hk; omega⟩
    refine odd_c hOB.row hl (by omega) hlb m left (fun he => ?_) (fun ho a ha hca => ?_)
    · refine ⟨_, _, rfl, _, _, ptrNe (by kernel_rfl), cond_f ?_⟩
      have := hok hfit q d w3 f03 (by rw [trimL_even he]; exact hOB)
      exact this
    · have hne : ¬ m % 2 = 0 := by omega
      refine ⟨_, _, rfl, _, _, ptrNe (by kernel_rfl), cond_t ⟨_, rfl, _, Ld.cell (by kernel_rfl) hca, _, rfl, ?_⟩⟩
      have hlt : oddAt left l < l := by unfold oddAt; split <;> omega
      have e : iandNot .u8 ((fl xs (oddAt left l)).toNat : Int) (if left then 15 else 240) = ((fl xs (oddAt left l) &&& (if left then 240 else 15)).toNat : Int) := by
        cases left with
        | true => exact andNot15 _
        | false => exact andNot240 _
      rw [e]
      refine hOB.stoAt hlt ha fun w4 f4 hO4 s4 => ?_
      refine hok hfit q d w4 (hOB.news f03 f4 (Nat.le_refl _)) ?_
      rw [trimL_set hne left h0, ← hl]
      exact hO4
  · rw [decide_eq_false hfit]
    exact cond_t (hbad hfit w2 f02)
set_option maxHeartbeats 1000000 in
theorem Cut_c {w : World} {p : Option Addr} {l c : Nat} {xs : List UInt8} (hR : Row w p (xs.map vb)) (hl : l = xs.length) (hc : l ≤ c) (hlb : l < 1000000) {K : Value → World → Prop}
    (hbad : ¬ (2 ≤ l ∧ l ≤ 28) → ∀ w', Fr [] w w' → K (.tuple #[.slice none 0 0, .slice none 0 0, .int .i64 11]) w')
    (hok : 2 ≤ l ∧ l ≤ 28 → ∀ q1 d1 q2 d2 w1 w', Fr [] w w1 → Fr [] w1 w' → OB w' q1 (hsz l) d1 (cutL xs).1 w.heap.size → OB w' q2 (hsz l) d2 (cutL xs).2 w1.heap.size → (∀ k ∈ blks q1, k < w1.heap.size) → K (.tuple #[.slice q1 (hsz l) d1, .slice q2 (hsz l) d2, .int .i64 0]) w') :
    callF Tryz.prog F_halves_Cut #[.slice p l c] w K := by
  apply halves_Cut_call
  unfold halves_Cut
  refine fits_c (l := 0) (rs := []) ⟨[], Row.nil _ _, rfl, by simp⟩ rfl (by omega) fun w1 f1 => ⟨_, rfl, ?_⟩
  by_cases hfit : 2 ≤ l ∧ l ≤ 28
  · have e1 : decide (fitN (l : Int) []) = true := by rw [decide_eq_true_iff]; exact ⟨by omega, by omega, by simp⟩
    rw [e1]
    have hs : hsz l ≤ l := by unfold hsz; omega
    refine cond_f (Size_c (by omega) (by omega) ⟨_, rfl, ?_⟩)
    refine ⟨_, _, _, PuSl (s := 1) (kl := .i64) (kh := .i64) (lo := none) (hi := some (hsz l : Int)) (by kernel_rfl) (by show (0 : Int) ≤ 0; omega) (by show (0 : Int) ≤ (hsz l : Int); omega) (by show (hsz l : Int) ≤ (c : Int); omega), ?_⟩
    have e2 : (Option.getD (some (hsz l : Int)) (l : Int)).toNat - (Option.getD (none : Option Int) 0).toNat = hsz l := by show ((hsz l : Int)).toNat - 0 = hsz l; omega
    rw [e2]
    have htk : (xs.take (hsz l)).length = hsz l := by rw [List.length_take]; omega
    have hfit1 : fitN (l : Int) [xs.take (hsz l)] := fit1.2 ⟨by omega, by omega, by rw [htk]; rfl⟩
    refine Trim_c (Row.front (hR.fr0 f1) c (hsz l)) htk.symm (by show hsz l ≤ c - 0; omega) (by omega) (l : Int) true (fun h => absurd hfit1 h) fun _ q1 d1 w2 f2 hO2 => ⟨_, _, _, _, rfl, ?_⟩
    rw [Int.toNat_natCast] at hO2
    refine Size_c (by omega) (by omega) ⟨_, rfl, ?_⟩
    have e3 : IntKind.i64.wrap ((l : Int) - (hsz l : Int)) = ((l - hsz l : Nat) : Int) := by rw [wrap64 (by omega) (by omega)]; omega
    rw [e3]
    refine ⟨_, _, _, PuSl (s := 1) (kl := .i64) (kh := .i64) (lo := some ((l - hsz l : Nat) : Int)) (hi := none) (by kernel_rfl) (by show (0 : Int) ≤ ((l - hsz l : Nat) : Int); omega) (by show ((l - hsz l : Nat) : Int) ≤ (l : Int); omega) (by show (l : Int) ≤ (c : Int); omega), ?_⟩
    have e4 : (Option.getD (some ((l - hsz l : Nat) : Int)) 0).toNat = l - hsz l := Int.toNat_natCast _
    have e5 : (Option.getD (none : Option Int) (l : Int)).toNat = l := Int.toNat_natCast _
    rw [e4, e5]
    have hdl : (xs.drop (l - hsz l)).length = hsz l := by rw [List.length_drop]; omega
    have e6 : l - (l - hsz l) = hsz l := by omega
    rw [e6]
    have hfit2 : fitN (l : Int) [xs.drop (l - hsz l)] := fit1.2 ⟨by omega, by omega, by rw [hdl]; rfl⟩
    have f02 := f1.then f2
    refine Trim_c (Row.partB (hR.fr0 f02) (by omega)) hdl.symm (by omega) (by omega) (l : Int) false (fun h => absurd hfit2 h) fun _ q2 d2 w3 f3 hO3 => ⟨_, _, _, _, rfl, ?_⟩
    rw [Int.toNat_natCast] at hO3
    have n1 := f1.size
    have ec : cutL xs = (trimL (xs.take (hsz l)) l true, trimL (xs.drop (l - hsz l)) l false) := by unfold cutL; rw [← hl]
    rw [ec] at hok
    exact hok hfit q1 d1 q2 d2 w2 w3 f02 f3 ((hO2.fr0 f3).mono n1) hO3 hO2.lt
  · have e1 : decide (fitN (l : Int) []) = false := by rw [decide_eq_false_iff_not]; rintro ⟨ha, hb, _⟩; omega
    rw [e1]
    exact cond_t (hbad hfit w1 f1)
end Go.Sh
end

section
namespace Go.Sh
open Go Go.Fw Go.Proofs
set_option maxRecDepth 100000
set_option linter.unusedVariables false
theorem u8wrap (n : Nat) : IntKind.u8.wrap (n : Int) = ((UInt8.ofNat n).toNat : Int) := by rw [IntKind.wrap_u8]; simp
def okB (xs : List UInt8) (n pass : Int) : Prop := fitN n [xs] ∧ 0 ≤ pass ∧ pass ≤ 255
theorem Block_c {w : World} {p : Option Addr} {l c : Nat} {xs : List UInt8} (hR : Row w p (xs.map vb)) (hl : l = xs.length) (hc : l ≤ c) (hlb : l < 1000000) (n pass : Int) {K : Value → World → Prop}
    (hbad : ¬ okB xs n pass → ∀ w', Fr [] w w' → K (.tuple #[.slice none 0 0, .int .i64 11]) w') (hok : okB xs n pass → ∀ q d w', Fr [] w w' → OB w' q 16 d (blockL xs n.toNat pass.toNat) w.heap.size → K (.tuple #[.slice q 16 d, .int .i64 0]) w') :
    callF Tryz.prog F_halves_Block #[.slice p l c, .int .i64 n, .int .i64 pass] w K := by
  apply halves_Block_call
  unfold halves_Block
  refine rowB1 (byS hR hl hc) (by kernel_rfl) fun p1 w1 f1 hR1 s1 => ?_
  refine fits_c (l := 1) hR1 rfl (by omega) fun w2 f2 => ⟨_, rfl, ?_⟩
  have f02 := f1.then f2
  by_cases hfit : fitN n [xs]
  · rw [decide_eq_true hfit]
    refine cond_f (cond_d (fun h1 => hbad (fun h => by have := h.2; omega) w2 f02) fun h1 => cond_d (fun h2 => hbad (fun h => by have := h.2; omega) w2 f02) fun h2 => ?_)
    unfold halves_Block_j1
    obtain ⟨h2', h28, hlen⟩ := fit1.1 hfit
    obtain ⟨m, rfl⟩ := Int.eq_ofNat_of_zero_le (show 0 ≤ n by omega)
    obtain ⟨ps, rfl⟩ := Int.eq_ofNat_of_zero_le (show 0 ≤ pass by omega)
    rw [Int.toNat_natCast] at hlen
    have h14 : l ≤ 14 := by rw [hl, hlen]; unfold hsz; omega
    have e1 : IntKind.i64.wrap (14 - (l : Int)) = ((14 - l : Nat) : Int) := by rw [wrap64 (by omega) (by omega)]; omega
    rw [e1, u8wrap, u8wrap]
    refine mkN (n := 14 - l) (c := 14 - l) (k := .i64) (k' := .i64) (Nat.le_refl _) (by omega) fun pz w3 f3 hZ s3 => ?_
    refine mkL (xs := [UInt8.ofNat m, UInt8.ofNat ps]) rfl rfl (by kernel_rfl) fun pn w4 f4 hN s4 => ?_
    have f24 := f3.then f4
    refine ⟨_, _, _, Ef.new (v := .slice (some ⟨w4.heap.size, 0, none⟩) 3 3) (cs := ([.slice p l c, .slice pz (14 - l) (14 - l), .slice pn 2 2] : List Value).toArray) (e := T_S_uint8) (by kernel_rfl) fun w5 f5 hB5 s5 => ?_⟩
    have f05 := (f02.then f24).then f5
    have hR5 := RowB.of3 hB5.rowL (byS (hR.fr0 f05) hl hc) ((hZ.fr0 (f4.then f5)).byS) ((hN.fr0 f5).byS)
    have efl : [xs, List.replicate (14 - l) 0, [UInt8.ofNat m, UInt8.ofNat ps]].flatten = blockL xs m ps := by unfold blockL; rw [hl]; simp
    have hbl : (blockL xs m ps).length = 16 := blockL_len _ _ (by omega)
    refine Join_c (l := 3) hR5 rfl (by rw [efl, hbl]; omega) (by omega) fun q d w6 f6 hO6 => ⟨_, _, _, rfl, ?_⟩
    rw [efl, hbl] at hO6
    rw [efl, hbl]
    have n05 := f05.size
    exact hok ⟨hfit, by omega, by omega⟩ q d w6 (f05.then f6) (hO6.mono n05)
  · rw [decide_eq_false hfit]
    exact cond_t (hbad (fun h => hfit h.1) w2 f02)
def okJ (ls rs : List UInt8) (n : Nat) : Prop := n % 2 = 0 ∨ (fl ls (ls.length - 1) &&& 15 = 0 ∧ fl rs 0 &&& 240 = 0)
theorem fit2 {n : Int} {a b : List UInt8} : fitN n [a, b] ↔ (2 ≤ n ∧ n ≤ 28 ∧ a.length = hsz n.toNat ∧ b.length = hsz n.toNat) := by simp [fitN]
set_option maxHeartbeats 2000000 in
theorem halvesJoin_c {w : World} {p q : Option Addr} {l c m d : Nat} {ls rs : List UInt8} (hL : Row w p (ls.map vb)) (hl : l = ls.length) (hc : l ≤ c) (hlb : l < 1000000) (hR : Row w q (rs.map vb)) (hm : m = rs.length) (hd : m ≤ d) (hmb : m < 1000000) (n : Int) {K : Value → World → Prop}
    (hbad : ¬ fitN n [ls, rs] → ∀ w', Fr [] w w' → K (.tuple #[.slice none 0 0, .int .i64 11]) w') (hform : fitN n [ls, rs] → ¬ okJ ls rs n.toNat → ∀ w', Fr [] w w' → K (.tuple #[.slice none 0 0, .int .i64 10]) w')
    (hok : fitN n [ls, rs] → okJ ls rs n.toNat → ∀ po co w', Fr [] w w' → OB w' po n.toNat co (joinL ls rs n.toNat) w.heap.size → K (.tuple #[.slice po n.toNat co, .int .i64 0]) w') :
    callF Tryz.prog F_halves_Join #[.slice p l c, .slice q m d, .int .i64 n] w K := by
  apply halves_Join_call
  unfold halves_Join
  refine ⟨_, _, _, Ef.new (v := .slice (some ⟨w.heap.size, 0, none⟩) 2 2) (cs := ([.slice p l c, .slice q m d] : List Value).toArray) (e := T_S_uint8) (by kernel_rfl) fun w1 f1 hB1 s1 => ?_⟩
  refine fits_c (l := 2) (RowB.of2 hB1.rowL (byS (hL.fr0 f1) hl hc) (byS (hR.fr0 f1) hm hd)) rfl (by omega) fun w2 f2 => ⟨_, rfl, ?_⟩
  have f02 := f1.then f2
  by_cases hfit : fitN n [ls, rs]
  · rw [decide_eq_true hfit]
    refine cond_f ?_
    obtain ⟨h2, h28, hll, hrl⟩ := fit2.1 hfit
    obtain ⟨N, rfl⟩ := Int.eq_ofNat_of_zero_le (show 0 ≤ n by omega)
    rw [Int.toNat_natCast] at hll hrl hform hok
    have hs0 : 0 < hsz N := by unfold hsz; omega
    obtain ⟨w3, e3, f3, hM3, s3⟩ := Ef.makeMap (P := Tryz.prog) (t := T_M_bool_S_uint8) (w := w2)
    refine ⟨_, _, e3, ?_⟩
    obtain ⟨w4, e4, f4, hM4, s4⟩ := EfU.mapPutB (P := Tryz.prog) (t := T_M_bool_S_uint8) (by kernel_rfl) hM3 (x := true) (v := .slice p l c) rfl
    refine ⟨_, e4, ?_⟩
    obtain ⟨w5, e5, f5, hM5, s5⟩ := EfU.mapPutB (P := Tryz.prog) (t := T_M_bool_S_uint8) (by kernel_rfl) hM4 (x := false) (v := .slice q m d) rfl
    refine ⟨_, e5, ?_⟩
    obtain ⟨w6, e6, f6, hI6, s6⟩ := Ef.range (P := Tryz.prog) (t := T_M_bool_S_uint8) (by kernel_rfl) hM5
    refine ⟨_, _, e6, ?_⟩
    have n2 := f02.size
    have f06 : Fr [] w w6 := (((f02.then f3).trans f4 (fun z hz => .inr (by simp at hz; omega))).trans f5 (fun z hz => .inr (by simp at hz; omega))).then f6
    have hM6 := hM5.fr f6 (by simp)
    obtain ⟨es, hes⟩ : ∃ es : Array MapEntry, es = (#[{ key := .bool true, val := .slice p l c, born := 0 }, { key := .bool false, val := .slice q m d, born := 1 }] : Array MapEntry) := ⟨_, rfl⟩
    have hM6 : MapAt w6 w2.heap.size es 2 := by rw [hes]; exact hM6
    have hmem : ∀ x ∈ es.toList, x = { key := .bool true, val := .slice p l c, born := 0 } ∨ x = { key := .bool false, val := .slice q m d, born := 1 } := by rw [hes]; simp
    have hnd : (es.toList.map (·.born)).Nodup := by rw [hes]; simp
    have hold : ∀ x ∈ es.toList, x.born < 2 := fun x hx => by rcases hmem x hx with rfl | rfl; exact Nat.zero_lt_two; exact Nat.one_lt_two
    have h0m : ({ key := .bool true, val := .slice p l c, born := 0 } : MapEntry) ∈ es.toList := by rw [hes]; simp
    have h1m : ({ key := .bool false, val := .slice q m d, born := 1 } : MapEntry) ∈ es.toList := by rw [hes]; simp
    refine LoopS.ind (fun k us w' => ∃ seen : Array Nat, us = [.slice p l c, .slice q m d, .int .i64 (N : Int), .slice none 0 0, .int .i64 0, .pointer (some ⟨w5.heap.size, 0, none⟩)] ∧ Fr [] w w' ∧ ItAt w' w5.heap.size w2.heap.size 2 seen 2 ∧ MapAt w' w2.heap.size es 2 ∧
        (if seen.contains 0 then 0 else 1) + (if seen.contains 1 then 0 else 1) = k ∧ (seen.contains 0 = true → N % 2 = 0 ∨ fl ls (ls.length - 1) &&& 15 = 0) ∧ (seen.contains 1 = true → N % 2 = 0 ∨ fl rs 0 &&& 240 = 0)) 2
      ⟨#[], rfl, f06, hI6, hM6, by simp, by simp, by simp⟩ ?_
    rintro k us rr w7 I μ hgo ⟨seen, rfl, f7, hI7, hM7, hk, hq0, hq1⟩
    refine ⟨_, _, _, _, _, _, _, _, _, _, _, _, rfl, ?_⟩
    rcases Ef.next (P := Tryz.prog) (ty := T_R_) hI7 hM7 hold (Nat.le_refl _) with ⟨hall, hne⟩ | ⟨e, he, hse, w8, hne, f8, hI8, s8⟩
    · refine ⟨false, [], w7, hne, cond_f ?_⟩
      have hokJ : okJ ls rs N := by
        have a0 := hq0 (hall _ h0m)
        have a1 := hq1 (hall _ h1m)
        unfold okJ
        rcases a0 with h | h
        · exact .inl h
        · rcases a1 with h' | h'
          · exact .inl h'
          · exact .inr ⟨h, h'⟩
      unfold halves_Join_j1
      have em : Int.tmod (N : Int) 2 = ((N % 2 : Nat) : Int) := rfl
      rw [em]
      have hjl := joinL_len hll hrl (by omega)
      refine cond_eq (fun hev => ?_) (fun hod => ?_)
      · have hev : N % 2 = 0 := by omega
        refine ⟨_, _, _, Ef.new (v := .slice (some ⟨w7.heap.size, 0, none⟩) 2 2) (cs := ([.slice p l c, .slice q m d] : List Value).toArray) (e := T_S_uint8) (by kernel_rfl) fun w8 f8 hB8 s8 => ?_⟩
        have f08 := f7.then f8
        have efl : [ls, rs].flatten = joinL ls rs N := by unfold joinL; rw [if_pos hev]; simp
        refine Join_c (l := 2) (RowB.of2 hB8.rowL (byS (hL.fr0 f08) hl hc) (byS (hR.fr0 f08) hm hd)) rfl (by rw [efl, hjl]; omega) (by omega) fun po co w9 f9 hO9 => ⟨_, _, _, rfl, ?_⟩
        rw [efl, hjl] at hO9
        rw [efl, hjl]
        exact hok hfit hokJ po co w9 (f08.then f9) (hO9.mono f08.size)
      · have hod : ¬ N % 2 = 0 := by omega
        refine ⟨_, _, _, PuSl (s := 1) (kl := .i64) (kh := .i64) (lo := some 1) (hi := none) (by kernel_rfl) (by show (0 : Int) ≤ 1; omega) (by show (1 : Int) ≤ (m : Int); omega) (by show (m : Int) ≤ (d : Int); omega), ?_⟩
        have e4 : (Option.getD (some (1 : Int)) 0).toNat = 1 := rfl
        have e5 : (Option.getD (none : Option Int) (m : Int)).toNat = m := Int.toNat_natCast _
        rw [e4, e5]
        refine ⟨_, _, _, Ef.new (v := .slice (some ⟨w7.heap.size, 0, none⟩) 2 2) (cs := ([.slice p l c, .slice (Go.Fw.partAt q d 1 1) (m - 1) (d - 1)] : List Value).toArray) (e := T_S_uint8) (by kernel_rfl) fun w8 f8 hB8 s8 => ?_⟩
        have f08 := f7.then f8
        have hs2 : hsz N = N / 2 + 1 := by unfold hsz; omega
        have efl : [ls, rs.drop 1].flatten = ls ++ rs.drop 1 := by simp
        have efn : (ls ++ rs.drop 1).length = N := by rw [List.length_append, List.length_drop]; omega
        refine Join_c (l := 2) (RowB.of2 hB8.rowL (byS (hL.fr0 f08) hl hc) (byS (Row.partB (hR.fr0 f08) (by omega)) (by rw [List.length_drop]; omega) (by omega))) rfl (by rw [efl, efn]; omega) (by omega) fun po co w9 f9 hO9 => ⟨_, _, _, rfl, ?_⟩
        rw [efl, efn] at hO9
        rw [efl, efn]
        have f09 := f08.then f9
        have e6 : IntKind.i64.wrap ((l : Int) - 1) = ((l - 1 : Nat) : Int) := by rw [wrap64 (by omega) (by omega)]; omega
        rw [e6]
        obtain ⟨a, ha, hca⟩ := hO9.get (k := .i64) (i := l - 1) (by omega)
        obtain ⟨b, hb, hcb⟩ := row_get (t := T_S_uint8) (by kernel_rfl) (hR.fr0 f09) (c := d) hm (i := 0) (by omega) (k := .i64)
        refine ⟨fun w' => w'.cell? a = some (vb (fl (ls ++ rs.drop 1) (l - 1))), Drw.intro fun w10 f10 s10 => ?_⟩
        refine ⟨a, ha, b, hb, _, ⟨f10.cell hca (by simp), fun w' hw' => Ld.cell (by kernel_rfl) hw'⟩, _, Ld.cell (by kernel_rfl) (f10.cell hcb (by simp)), .inl rfl, ?_⟩
        rw [or8]
        refine (hO9.fr0 f10).sto (by omega) fun w11 f11 hO11 s11 => ?_
        have ej : (ls ++ rs.drop 1).set (l - 1) (fl (ls ++ rs.drop 1) (l - 1) ||| rs.getD 0 0) = joinL ls rs N := by
          unfold joinL
          rw [if_neg hod, ← hl, fl_append, if_pos (by omega)]
          rfl
        rw [ej] at hO11
        have n08 := f08.size
        exact hok hfit hokJ po co w11 (((hO9.mono n08).fr0 f10).news (f09.then f10) f11 (Nat.le_refl _)) (hO11.mono n08)
    · refine ⟨true, [e.key, e.val], w8, hne, cond_t ⟨e.key, e.val, w8, Ef.entry hI8 (hM7.fr f8 (by simp; omega)) he hnd, ?_⟩⟩
      have f08 : Fr [] w w8 := f7.trans f8 (fun z hz => .inr (by simp at hz; omega))
      have hM8 := hM7.fr f8 (by simp; omega)
      have push : ∀ s t : Nat, (seen.push s).contains t = (seen.contains t || (t == s)) := by intro s t; rw [Bool.eq_iff_iff]; simp
      rcases hmem e he with rfl | rfl
      · -- the left half
        have hs0' : seen.contains 0 = false := hse
        have goon : (N % 2 = 0 ∨ fl ls (ls.length - 1) &&& 15 = 0) → goesOn [] [] I μ [.slice p l c, .slice q m d, .int .i64 (N : Int), .slice none 0 0, .int .i64 0, .pointer (some ⟨w5.heap.size, 0, none⟩)] [.slice p l c, .slice q m d, .int .i64 (N : Int), .slice none 0 0, .int .i64 0, .pointer (some ⟨w5.heap.size, 0, none⟩)] w7 w8 := by
          intro hyes
          rw [hs0'] at hk
          refine hgo _ _ _ (if seen.contains 1 then 0 else 1) (by rw [← hk]; simp) ⟨_, rfl, f08, hI8, hM8, ?_, fun _ => hyes, fun h1 => hq1 ?_⟩
          · rw [push, push]; simp
          · rw [push] at h1; simpa using h1
        show callF Tryz.prog F_halves_odd #[.slice p l c, .int .i64 (N : Int), .bool true] w8 _
        refine odd_c (hL.fr0 f08) hl (by omega) hlb N true (fun hev => ?_) (fun hod a ha hca => ?_)
        · exact ⟨_, _, rfl, _, _, ptrNe (by kernel_rfl), cond_f (goon (.inl hev))⟩
        · refine ⟨_, _, rfl, _, _, ptrNe (by kernel_rfl), cond_t ⟨_, rfl, _, Ld.cell (by kernel_rfl) hca, ?_⟩⟩
          have e1 : iand .u8 ((fl ls (oddAt true l)).toNat : Int) (if true = true then 15 else 240) = ((fl ls (oddAt true l) &&& 15).toNat : Int) := and8 _ 15
          rw [e1]
          have e2 : oddAt true l = ls.length - 1 := by rw [← hl]; rfl
          rw [e2]
          refine cond_intro (fun hne => ?_) (fun heq => goon (.inr ?_))
          · refine hform hfit (fun hJ => ?_) w8 f08
            rcases hJ with h | ⟨h, _⟩
            · omega
            · rw [h] at hne; cases hne
          · rw [bne, bz] at heq
            simpa using heq
      · have hs1' : seen.contains 1 = false := hse
        have goon : (N % 2 = 0 ∨ fl rs 0 &&& 240 = 0) → goesOn [] [] I μ [.slice p l c, .slice q m d, .int .i64 (N : Int), .slice none 0 0, .int .i64 0, .pointer (some ⟨w5.heap.size, 0, none⟩)] [.slice p l c, .slice q m d, .int .i64 (N : Int), .slice none 0 0, .int .i64 0, .pointer (some ⟨w5.heap.size, 0, none⟩)] w7 w8 := by
          intro hyes
          rw [hs1'] at hk
          refine hgo _ _ _ (if seen.contains 0 then 0 else 1) (by rw [← hk]; simp) ⟨_, rfl, f08, hI8, hM8, ?_, fun h0 => hq0 ?_, fun _ => hyes⟩
          · rw [push, push]; simp
          · rw [push] at h0; simpa using h0
        show callF Tryz.prog F_halves_odd #[.slice q m d, .int .i64 (N : Int), .bool false] w8 _
        refine odd_c (hR.fr0 f08) hm (by omega) hmb N false (fun hev => ?_) (fun hod a ha hca => ?_)
        · exact ⟨_, _, rfl, _, _, ptrNe (by kernel_rfl), cond_f (goon (.inl hev))⟩
        · refine ⟨_, _, rfl, _, _, ptrNe (by kernel_rfl), cond_t ⟨_, rfl, _, Ld.cell (by kernel_rfl) hca, ?_⟩⟩
          have e1 : iand .u8 ((fl rs (oddAt false m)).toNat : Int) (if false = true then 15 else 240) = ((fl rs (oddAt false m) &&& 240).toNat : Int) := and8 _ 240
          rw [e1]
          have e2 : oddAt false m = 0 := rfl
          rw [e2]
          refine cond_intro (fun hne => ?_) (fun heq => goon (.inr ?_))
          · refine hform hfit (fun hJ => ?_) w8 f08
            rcases hJ with h | ⟨_, h⟩
            · omega
            · rw [h] at hne; cases hne
          · rw [bne, bz] at heq
            simpa using heq
  · rw [decide_eq_false hfit]
    exact cond_t (hbad hfit w2 f02)
end Go.Sh
end

section
namespace Go.Sh
open Go Go.Fw Go.Proofs
set_option maxRecDepth 100000
set_option linter.unusedVariables false
theorem blks_partAt {p : Option Addr} {c a s : Nat} : ∀ z ∈ blks (Go.Fw.partAt p c a s), z ∈ blks p := by
  intro z hz
  unfold Go.Fw.partAt at hz
  split at hz
  · exact hz
  · cases p with
    | none => exact hz
    | some b =>
      have e : (b.add (a * s)).block = b.block := by unfold Addr.add; split <;> rfl
      simp only [Option.map, blks, List.mem_singleton, e] at hz ⊢
      exact hz
theorem slTo {w : World} {p : Option Addr} {l c : Nat} {xs : List UInt8} (hR : Row w p (xs.map vb)) (hl : l = xs.length) {n : Nat} (hn : n ≤ l) (hc : l ≤ c) {K : Option Addr → Nat → Nat → Prop}
    (h : ∀ q d, Row w q ((xs.take n).map vb) → n = (xs.take n).length → n ≤ d → (∀ z ∈ blks q, z ∈ blks p) → K q n d) :
    ∃ q m d, Pu Tryz.prog (Instr.sliceAt T_S_uint8 (.slice p l c) none (some (.int .i64 (n : Int))) none) (.slice q m d) ∧ K q m d := by
  refine ⟨_, _, _, PuSl (s := 1) (kl := .i64) (kh := .i64) (lo := none) (hi := some (n : Int)) (by kernel_rfl) (by show (0 : Int) ≤ 0; omega) (by show (0 : Int) ≤ (n : Int); omega) (by show (n : Int) ≤ (c : Int); omega), ?_⟩
  have e3 : (Option.getD (some (n : Int)) (l : Int)).toNat - (Option.getD (none : Option Int) 0).toNat = n := by show ((n : Int)).toNat - 0 = n; omega
  rw [e3]
  refine h _ _ (Row.front hR c n) (by rw [List.length_take]; omega) ?_ blks_partAt
  show n ≤ c - 0
  omega
theorem slFrom {w : World} {p : Option Addr} {l c : Nat} {xs : List UInt8} (hR : Row w p (xs.map vb)) (hl : l = xs.length) {n : Nat} (hn : n ≤ l) (hc : l ≤ c) {K : Option Addr → Nat → Nat → Prop}
    (h : ∀ q d, Row w q ((xs.drop n).map vb) → l - n = (xs.drop n).length → l - n ≤ d → (∀ z ∈ blks q, z ∈ blks p) → K q (l - n) d) :
    ∃ q m d, Pu Tryz.prog (Instr.sliceAt T_S_uint8 (.slice p l c) (some (.int .i64 (n : Int))) none none) (.slice q m d) ∧ K q m d := by
  refine ⟨_, _, _, PuSl (s := 1) (kl := .i64) (kh := .i64) (lo := some (n : Int)) (hi := none) (by kernel_rfl) (by show (0 : Int) ≤ (n : Int); omega) (by show (n : Int) ≤ (l : Int); omega) (by show (l : Int) ≤ (c : Int); omega), ?_⟩
  have e3 : (Option.getD (none : Option Int) (l : Int)).toNat - (Option.getD (some (n : Int)) 0).toNat = l - n := by show ((l : Int)).toNat - ((n : Int)).toNat = l - n; omega
  rw [e3]
  have e5 : (Option.getD (some (n : Int)) 0).toNat = n := by show ((n : Int)).toNat = n; omega
  rw [e5]
  exact h _ _ (Row.partB hR (by omega)) (by rw [List.length_drop]; omega) (by omega) blks_partAt
theorem OB.front3 {w : World} {p : Option Addr} {l c : Nat} {xs : List UInt8} {lo : Nat} (h : OB w p l c xs lo) {n : Nat} (hn : n ≤ l) : OB w (Go.Fw.partAt p n 0 1) n n (xs.take n) lo := by
  have hl := h.2.1
  refine ⟨?_, by rw [List.length_take]; omega, fun z hz => h.2.2 z (blks_partAt z hz)⟩
  obtain ⟨⟨hl', ⟨rfl, h0, h1⟩ | ⟨g, o, N, f, rfl, hB, hoc, hlc, hf⟩⟩, _⟩ := h
  · refine ⟨by simp; omega, .inl ⟨?_, by omega, by omega⟩⟩
    unfold Go.Fw.partAt; split <;> rfl
  · refine ⟨by simp; omega, .inr ⟨g, o, N, f, ?_, hB, by omega, Nat.le_refl _, fun i v hi => ?_⟩⟩
    · unfold Go.Fw.partAt; split
      · rfl
      · show some ((⟨g, o, none⟩ : Addr).add (0 * 1)) = _
        rw [add_mk]; rfl
    · rw [List.map_take, List.getElem?_take] at hi
      split at hi
      · exact hf i v hi
      · cases hi
theorem slTo3O {w : World} {p : Option Addr} {l c : Nat} {xs : List UInt8} {lo : Nat} (h : OB w p l c xs lo) {n : Nat} (hn : n ≤ l) {K : Option Addr → Nat → Nat → Prop}
    (hk : ∀ q, OB w q n n (xs.take n) lo → K q n n) :
    ∃ q m d, Pu Tryz.prog (Instr.sliceAt T_S_uint8 (.slice p l c) none (some (.int .i64 (n : Int))) (some (.int .i64 (n : Int)))) (.slice q m d) ∧ K q m d := by
  have hc := h.cap
  refine ⟨_, _, _, PuSl3 (s := 1) (kh := .i64) (km := .i64) (hi := (n : Int)) (mx := (n : Int)) (by kernel_rfl) (by omega) (by omega) (by omega), ?_⟩
  rw [show ((n : Int)).toNat = n by omega]
  exact hk _ (h.front3 hn)
end Go.Sh
end
