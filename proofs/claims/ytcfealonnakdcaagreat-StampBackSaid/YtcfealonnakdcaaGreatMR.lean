/- A part of a proof of a given law of this program: lemmas, printed forms of its functions, contracts. It has no conditions of its own. -/
import Derived.Test.YtcfealonnakdcaaGreatMB
import Derived.Test.YtcfealonnakdcaaGreatMSh6
import Derived.Test.YtcfealonnakdcaaGreatMC

section
namespace Go.Sh
open Go Go.Fw Go.Proofs
set_option maxRecDepth 100000
set_option linter.unusedVariables false
def bA (n : Nat) (g : Nat → Bool) : List Value := (List.range n).map fun j => .bool (g j)
theorem bA_len (n : Nat) (g : Nat → Bool) : (bA n g).length = n := by simp [bA]
theorem bA_get {n : Nat} {g : Nat → Bool} {j : Nat} {v : Value} (h : (bA n g)[j]? = some v) : j < n ∧ v = .bool (g j) := by
  have h1 := (List.getElem?_eq_some_iff.1 h).1
  rw [bA_len] at h1
  simp [bA, h1] at h
  exact ⟨h1, h.symm⟩
theorem bA_at {n : Nat} {g : Nat → Bool} {j : Nat} (h : j < n) : (bA n g)[j]? = some (.bool (g j)) := by simp [bA, h]
theorem bA_congr {n : Nat} {g g' : Nat → Bool} (h : ∀ j, j < n → g j = g' j) : bA n g = bA n g' := by
  unfold bA
  exact List.map_congr_left fun j hj => by rw [h j (List.mem_range.1 hj)]
def PolB (w : World) (b n : Nat) (g : Nat → Bool) : Prop := ∃ f, Blk w b n f ∧ ∀ j, j < n → f j = .bool (g j)
section
variable {w : World} {b n : Nat} {g : Nat → Bool} {K : Value → World → Prop}
theorem PolB.fr {L : List Nat} {w' : World} (h : PolB w b n g) (hf : Fr L w w') (hn : b ∉ L) : PolB w' b n g := by obtain ⟨f, hB, r⟩ := h; exact ⟨f, hB.fr hf hn, r⟩
theorem PolB.fr0 {w' : World} (h : PolB w b n g) (hf : Fr [] w w') : PolB w' b n g := h.fr hf (by simp)
theorem PolB.lt (h : PolB w b n g) : b < w.heap.size := by obtain ⟨f, hB, _⟩ := h; exact hB.lt
theorem PolB.blk (h : PolB w b n g) : ∃ f, Blk w b n f := by obtain ⟨f, hB, _⟩ := h; exact ⟨f, hB⟩
theorem PolB.congr {g' : Nat → Bool} (h : PolB w b n g) (hg : ∀ j, j < n → g j = g' j) : PolB w b n g' := by obtain ⟨f, hB, r⟩ := h; exact ⟨f, hB, fun j hj => by rw [r j hj, hg j hj]⟩
theorem newPB {t : TypeId} {cs : Array Value} (he : cs = ⟨bA n g⟩) {K : Nat → World → Prop} (h : ∀ w', Fr [] w w' → PolB w' w.heap.size n g → w'.heap.size = w.heap.size + 1 → K w.heap.size w') : New cs t w K := by
  subst he
  refine New.intro fun w' f hB s => h w' f ⟨_, by simpa [bA_len] using hB, fun j hj => ?_⟩ s
  rw [bA_at hj]; rfl
theorem ldB {o : Nat} (h : ∀ j, j < 128 → w.cell? ⟨b, o + j, none⟩ = some (.bool (g j))) : Ld Tryz.prog T_ref04_Poly (.pointer (some ⟨b, o, none⟩)) w (.agg ⟨bA 128 g⟩) := by
  refine Ld.agg (n := 128) (cs := bA 128 g) (by kernel_rfl) (by kernel_rfl) (bA_len _ _) fun j v hj => ?_
  obtain ⟨h1, rfl⟩ := bA_get hj
  rw [add_mk]; exact h j h1
theorem PolB.ld (h : PolB w b 128 g) : Ld Tryz.prog T_ref04_Poly (.pointer (some ⟨b, 0, none⟩)) w (.agg ⟨bA 128 g⟩) := by
  obtain ⟨f, hB, hf⟩ := h
  refine ldB fun j hj => ?_
  rw [Nat.zero_add, hB.cell hj, hf j hj]
theorem PolB.get (h : PolB w b n g) {i : Nat} (hi : i < n) : Ld Tryz.prog T_bool (.pointer (some ⟨b, i, none⟩)) w (.bool (g i)) := by
  obtain ⟨f, hB, hf⟩ := h
  exact Ld.blk (by kernel_rfl) hB hi (hf i hi)
theorem PolB.set (h : PolB w b n g) {i : Nat} {v : Bool} (hi : i < n) {K : World → Prop} (hk : ∀ w', Fr [b] w w' → PolB w' b n (fun j => if j = i then v else g j) → w'.heap.size = w.heap.size → K w') :
    ∃ w', Sto Tryz.prog T_bool (.pointer (some ⟨b, i, none⟩)) (.bool v) w w' ∧ K w' := by
  obtain ⟨f, hB, hf⟩ := h
  refine Sto.blk (by kernel_rfl) hB hi rfl rfl fun w' f' hB' s => hk w' f' ⟨_, hB', fun j hj => ?_⟩ s
  show _ = Value.bool (if j = i then v else g j)
  by_cases hji : j = i
  · rw [hji, upd_same, if_pos rfl]
  · rw [upd_ne _ _ _ hji, if_neg hji, hf j hj]
theorem stoB {t : TypeId} {cs : Array Value} {f : Nat → Value} (he : cs = ⟨bA n g⟩) (hs : res Tryz.prog (sizeOf t) = some n) (hB : Blk w b n f) {K : World → Prop} (h : ∀ w', Fr [b] w w' → PolB w' b n g → w'.heap.size = w.heap.size → K w') :
    ∃ w', Sto Tryz.prog t (.pointer (some ⟨b, 0, none⟩)) (.agg cs) w w' ∧ K w' := by
  subst he
  refine Sto.agg hs (bA_len _ _) hB (by omega) (fun v hv => ?_) fun w' f' hB' s => h w' f' ⟨_, hB', fun j hj => ?_⟩ s
  · obtain ⟨j, hj, rfl⟩ := List.mem_map.1 hv; rfl
  · unfold updN
    rw [dif_pos ⟨Nat.zero_le _, by rw [bA_len]; omega⟩]
    simp [bA]
theorem ixP {k : IntKind} {i : Nat} (hi : i < 128) : IxA Tryz.prog T_ref04_Poly (.pointer (some ⟨b, 0, none⟩)) (.int k (i : Int)) ⟨b, i, none⟩ := by
  have := ixA1 (P := Tryz.prog) (t := T_ref04_Poly) (n := 128) (by kernel_rfl) (b := b) (o := 0) (k := k) (i := (i : Int)) (by omega) (by omega)
  rw [Int.toNat_natCast, Nat.zero_add] at this; exact this
theorem ixQ {k : IntKind} {i : Nat} (hi : i < 255) : IxA Tryz.prog T_A255_bool (.pointer (some ⟨b, 0, none⟩)) (.int k (i : Int)) ⟨b, i, none⟩ := by
  have := ixA1 (P := Tryz.prog) (t := T_A255_bool) (n := 255) (by kernel_rfl) (b := b) (o := 0) (k := k) (i := (i : Int)) (by omega) (by omega)
  rw [Int.toNat_natCast, Nat.zero_add] at this; exact this
theorem newPz {K : Nat → World → Prop} (h : ∀ w' f, Fr [] w w' → Blk w' w.heap.size 128 f → w'.heap.size = w.heap.size + 1 → K w.heap.size w') : ∃ z, Pu Tryz.prog (zeroValue T_ref04_Poly) z ∧ New z.cells T_ref04_Poly w K := newZ (s := 128) (by kernel_rfl) h
theorem shamt : ∀ r : Nat, r < 8 → IntKind.u64.wrap (IntKind.i64.wrap (7 - (r : Int))) = ((7 - r : Nat) : Int) := by decide
theorem tmodN (i m : Nat) : Int.tmod (i : Int) (m : Int) = ((i % m : Nat) : Int) := rfl
theorem tdivN (i m : Nat) : Int.tdiv (i : Int) (m : Int) = ((i / m : Nat) : Int) := rfl
theorem shamt2 (i : Nat) : IntKind.u64.wrap (IntKind.i64.wrap (7 - Int.tmod (i : Int) 8)) = ((7 - i % 8 : Nat) : Int) := by
  rw [show (8 : Int) = ((8 : Nat) : Int) from rfl, tmodN]; exact shamt _ (by omega)
theorem ix8 {i : Nat} (hi : i < 128) : IntKind.i64.wrap (Int.tdiv (i : Int) 8) = ((i / 8 : Nat) : Int) := by
  rw [show (8 : Int) = ((8 : Nat) : Int) from rfl, tdivN, wrap64 (by omega) (by omega)]
theorem bit_shr (x s : Nat) : (Int.tmod (Int.fdiv (x : Int) (2 ^ s)) 2 == 1) = x.testBit s := by
  have e : Int.fdiv (x : Int) (2 ^ s) = ((x / 2 ^ s : Nat) : Int) := by
    rw [Int.fdiv_eq_ediv_of_nonneg _ (by exact_mod_cast Nat.zero_le _)]; push_cast; rfl
  rw [e, show (2 : Int) = ((2 : Nat) : Int) from rfl, tmodN, Nat.testBit_eq_decide_div_mod_eq]
  by_cases h : x / 2 ^ s % 2 = 1
  · rw [h]; rfl
  · have : x / 2 ^ s % 2 = 0 := by omega
    rw [this]; rfl
theorem numL_bit {xs : List UInt8} : ∀ {j : Nat}, j < 8 * xs.length → (numL xs).testBit (8 * xs.length - 1 - j) = (fl xs (j / 8)).toNat.testBit (7 - j % 8) := by
  intro j hj
  have hq : j / 8 < xs.length := by omega
  have e : xs = xs.take (j / 8) ++ (xs[j / 8] :: xs.drop (j / 8 + 1)) := by
    rw [← List.drop_eq_getElem_cons hq, List.take_append_drop]
  have hfl : fl xs (j / 8) = xs[j / 8] := by unfold fl; rw [List.getD_eq_getElem?_getD, List.getElem?_eq_getElem hq]; rfl
  obtain ⟨D, hD⟩ : ∃ D, D = xs.drop (j / 8 + 1) := ⟨_, rfl⟩
  obtain ⟨T, hT⟩ : ∃ T, T = xs.take (j / 8) := ⟨_, rfl⟩
  have hDl : D.length = xs.length - (j / 8 + 1) := by rw [hD, List.length_drop]
  have hN : numL xs = (numL T * 256 + (xs[j / 8]).toNat) * 256 ^ D.length + numL D := by
    have h2 : xs = (T ++ [xs[j / 8]]) ++ D := by rw [hT, hD, List.append_assoc]; exact e
    have h3 := congrArg numL h2
    rw [numL_append, numL_snoc] at h3
    exact h3
  have hDlt := numL_lt D
  rw [hN, hfl]
  have e256 : 256 ^ D.length = 2 ^ (8 * D.length) := by rw [Nat.pow_mul]
  have hx : 8 * xs.length - 1 - j = 8 * D.length + (7 - j % 8) := by rw [hDl]; omega
  rw [e256] at hDlt ⊢
  rw [hx, Nat.mul_comm, Nat.testBit_two_pow_mul_add _ hDlt, if_neg (by omega), Nat.add_sub_cancel_left]
  have hb : (xs[j / 8]).toNat < 2 ^ 8 := (xs[j / 8]).toNat_lt
  rw [show numL T * 256 + (xs[j / 8]).toNat = 2 ^ 8 * numL T + (xs[j / 8]).toNat by omega, Nat.testBit_two_pow_mul_add _ hb, if_pos (by omega)]
theorem cf_bit {xs : List UInt8} (h : xs.length = 16) {j : Nat} (hj : j < 128) : cf (numL xs) j = (fl xs (j / 8)).toNat.testBit (7 - j % 8) := by
  unfold cf
  rw [decide_eq_true hj, Bool.true_and]
  have := numL_bit (xs := xs) (j := j) (by omega)
  rw [h] at this
  exact this
theorem bytesE_len (e : Nat) : (bytesE e).length = 16 := by simp [bytesE, putL_len]
theorem num_bytesE {e : Nat} (h : e < 2 ^ 128) : numL (bytesE e) = e := by
  unfold bytesE
  rw [numL_append, num_put _ _ (by omega), num_put _ _ (by omega), putL_len]
  omega
theorem refPOf_c {p : Option Addr} {l c : Nat} {xs : List UInt8} (hx : Row w p (xs.map vb)) (hl : l = xs.length) (h16 : l = 16) (h : ∀ w', Fr [] w w' → K (.agg ⟨bA 128 (cf (numL xs))⟩) w') : callF Tryz.prog F_ref04_Of #[.slice p l c] w K := by
  apply ref04_Of_call
  unfold ref04_Of
  refine newPz fun w1 g1 f1 hB1 s1 => newPz fun w2 g2 f2 hB2 s2 => ?_
  refine stoB (n := 128) (g := fun _ => false) (by kernel_rfl) (by kernel_rfl) hB2 fun w3 f3 hA3 s3 => ?_
  have f03 : Fr [] w w3 := (f1.then f2).st f3 (by omega)
  have hB13 := (hB1.fr0 f2).fr f3 (by simp; omega)
  refine LoopS.ind (fun k us w' => ∃ (i : Nat) (g : Nat → Bool), i + k = 128 ∧ us = [.slice p l c, .pointer (some ⟨w.heap.size, 0, none⟩), .pointer (some ⟨w1.heap.size, 0, none⟩), .int .i64 (i : Int)] ∧ Fr [] w w' ∧ (∃ g1, Blk w' w.heap.size 128 g1) ∧ PolB w' w1.heap.size 128 g ∧ ∀ j, j < i → g j = cf (numL xs) j) 128
    ⟨0, _, by omega, rfl, f03, ⟨_, hB13⟩, hA3, by omega⟩ ?_
  rintro k us r w4 I μ hgo ⟨i, g, hi, rfl, f4, ⟨g1, hB4⟩, hA4, hg⟩
  refine ⟨_, _, _, _, _, _, rfl, cond_d (fun h1 => ?_) (fun h1 => ?_)⟩
  · have hi2 : i < 128 := by omega
    rw [ix8 hi2]
    obtain ⟨a, ha, hca⟩ := row_get (t := T_S_uint8) (by kernel_rfl) (hx.fr0 f4) (c := c) hl (i := i / 8) (by omega) (k := .i64)
    refine ⟨a, ha, _, Ld.cell (by kernel_rfl) hca, ?_⟩
    rw [shamt2]
    refine ⟨_, Pu.shr (by omega), ⟨w1.heap.size, i, none⟩, ixP hi2, ?_⟩
    have e : min ((7 - i % 8 : Nat) : Int).toNat IntKind.u8.bits = 7 - i % 8 := by
      have : IntKind.u8.bits = 8 := rfl
      rw [this, Int.toNat_natCast]; omega
    rw [e, bit_shr]
    refine hA4.set hi2 fun w5 f5 hA5 s5 => ?_
    rw [wrap64 (by omega) (by omega)]
    refine hgo _ _ _ (k - 1) (by omega) ⟨i + 1, _, by omega, rfl, f4.st f5 (by omega), ⟨_, hB4.fr f5 (by simp; omega)⟩, hA5, fun j hj => ?_⟩
    show (if j = i then _ else g j) = _
    by_cases hji : j = i
    · subst hji; rw [if_pos rfl, cf_bit (by omega) hi2]; rfl
    · rw [if_neg hji]; exact hg j (by omega)
  · have hil : i = 128 := by omega
    subst hil
    unfold ref04_Of_j1
    have e : bA 128 g = bA 128 (cf (numL xs)) := bA_congr hg
    refine ⟨_, hA4.ld, stoB rfl (by kernel_rfl) hB4 fun w5 f5 hA5 s5 => ⟨_, _, rfl, hA5.ld, ?_⟩⟩
    rw [e]
    exact h w5 (f4.st f5 (Nat.le_refl _))
theorem xorB (x y : Bool) : (!(x == y)) = (x ^^ y) := by cases x <;> cases y <;> rfl
theorem refPAdd_c {p q : Nat → Bool} (h : ∀ w', Fr [] w w' → K (.agg ⟨bA 128 (fun j => p j ^^ q j)⟩) w') : callF Tryz.prog F_ref04_Add #[.agg ⟨bA 128 p⟩, .agg ⟨bA 128 q⟩] w K := by
  apply ref04_Add_call
  unfold ref04_Add
  refine newPB rfl fun w1 f1 hA1 s1 => newPB rfl fun w2 f2 hA2 s2 => newPz fun w3 g3 f3 hB3 s3 => ?_
  have f03 := (f1.then f2).then f3
  refine LoopS.ind (fun k us w' => ∃ (i : Nat) (g : Nat → Bool), i + k = 128 ∧ us = [.pointer (some ⟨w.heap.size, 0, none⟩), .pointer (some ⟨w1.heap.size, 0, none⟩), .pointer (some ⟨w2.heap.size, 0, none⟩), .int .i64 (i : Int)] ∧ Fr [] w w' ∧ (∃ g1, Blk w' w2.heap.size 128 g1) ∧ PolB w' w1.heap.size 128 q ∧ PolB w' w.heap.size 128 g ∧ ∀ j, j < 128 → g j = if j < i then p j ^^ q j else p j) 128
    ⟨0, _, by omega, rfl, f03, ⟨_, hB3⟩, hA2.fr0 f3, hA1.fr0 (f2.then f3), fun j _ => by simp⟩ ?_
  rintro k us r w4 I μ hgo ⟨i, g, hi, rfl, f4, ⟨g1, hB4⟩, hQ4, hA4, hg⟩
  refine ⟨_, _, _, _, rfl, cond_d (fun h1 => ?_) (fun h1 => ?_)⟩
  · have hi2 : i < 128 := by omega
    refine ⟨fun w' => PolB w' w.heap.size 128 g, Drw.intro fun w5 f5 s5 => ?_⟩
    refine ⟨⟨_, i, none⟩, ixP hi2, ⟨_, i, none⟩, ixP hi2, _, ⟨hA4.fr0 f5, fun w' hw' => hw'.get hi2⟩, _, (hQ4.fr0 f5).get hi2, .inl rfl, ⟨_, i, none⟩, ixP hi2, ?_⟩
    refine (hA4.fr0 f5).set hi2 fun w6 f6 hA6 s6 => ?_
    rw [wrap64 (by omega) (by omega)]
    refine hgo _ _ _ (k - 1) (by omega) ⟨i + 1, _, by omega, rfl, (f4.then f5).st f6 (Nat.le_refl _), ⟨_, (hB4.fr0 f5).fr f6 (by simp; omega)⟩, (hQ4.fr0 f5).fr f6 (by simp; omega), hA6, fun j hj => ?_⟩
    show (if j = i then _ else g j) = _
    by_cases hji : j = i
    · subst hji; rw [if_pos rfl, if_pos (by omega), xorB, hg j hj, if_neg (by omega)]
    · rw [if_neg hji, hg j hj]
      by_cases hlt : j < i
      · rw [if_pos hlt, if_pos (by omega)]
      · rw [if_neg hlt, if_neg (by omega)]
  · have hil : i = 128 := by omega
    subst hil
    unfold ref04_Add_j1
    have e : bA 128 g = bA 128 (fun j => p j ^^ q j) := bA_congr fun j hj => by rw [hg j hj, if_pos hj]
    refine ⟨_, hA4.ld, stoB rfl (by kernel_rfl) hB4 fun w5 f5 hA5 s5 => ⟨_, _, rfl, hA5.ld, ?_⟩⟩
    rw [e]
    exact h w5 (f4.st f5 (by omega))
end
end Go.Sh
end

section
namespace Go.Sh
open Go Go.Fw Go.Proofs
set_option maxRecDepth 100000
set_option linter.unusedVariables false
set_option linter.unusedSimpArgs false
section
variable {w : World} {b n : Nat} {g : Nat → Bool} {K : Value → World → Prop}
theorem pow8 : ∀ s : Nat, s < 8 → IntKind.u8.wrap (1 * 2 ^ min s 8) = (((UInt8.ofNat (2 ^ s)).toNat : Nat) : Int) ∧ (UInt8.ofNat (2 ^ s)).toNat = 2 ^ s := by decide
theorem refPBytes_c {e : Nat} (he : e < 2 ^ 128) (h : ∀ q d w', Fr [] w w' → OB w' q 16 d (bytesE e) w.heap.size → K (.slice q 16 d) w') : callF Tryz.prog F_ref04_Bytes #[.agg ⟨bA 128 (cf e)⟩] w K := by
  apply ref04_Bytes_call
  unfold ref04_Bytes
  refine newPB rfl fun w1 f1 hA1 s1 => ?_
  refine mkN (n := 16) (c := 16) (by omega) (by omega) fun p0 w2 f2 hO2 s2 => ?_
  have f02 := f1.then f2
  have n1 := f1.size
  refine LoopS.ind (fun k us w' => ∃ (i : Nat) (zs : List UInt8), i + k = 128 ∧ us = [.pointer (some ⟨w.heap.size, 0, none⟩), .slice none 0 0, .slice p0 16 16, .int .i64 (i : Int)] ∧ Fr [] w w' ∧ PolB w' w.heap.size 128 (cf e) ∧ OB w' p0 16 16 zs w1.heap.size ∧ ∀ j t, j < 16 → t < 8 → (fl zs j).toNat.testBit t = (decide (8 * j + (7 - t) < i) && cf e (8 * j + (7 - t)))) 128
    ⟨0, _, by omega, rfl, f02, hA1.fr0 f2, hO2, fun j t hj ht => ?_⟩ ?_
  · have : fl (List.replicate 16 (0 : UInt8)) j = 0 := by unfold fl; rw [List.getD_eq_getElem?_getD, List.getElem?_replicate]; split <;> rfl
    rw [this]; simp
  rintro k us r w4 I μ hgo ⟨i, zs, hi, rfl, f4, hA4, hO4, hz⟩
  refine ⟨_, _, _, _, _, _, _, _, rfl, cond_d (fun h1 => ?_) (fun h1 => ?_)⟩
  · have hi2 : i < 128 := by omega
    have hzl := hO4.2.1
    refine ⟨_, ixP hi2, _, hA4.get hi2, ?_⟩
    rw [ix8 hi2, shamt2, wrap64 (n := (i : Int) + 1) (by omega) (by omega)]
    refine cond_intro (fun hb => ?_) fun hb => ?_
    · obtain ⟨a, ha, hca⟩ := hO4.get (k := .i64) (i := i / 8) (by omega)
      refine ⟨a, ha, _, Ld.cell (by kernel_rfl) hca, _, Pu.shl (by omega), ?_⟩
      have e8 : min ((7 - i % 8 : Nat) : Int).toNat IntKind.u8.bits = min (7 - i % 8) 8 := by rw [Int.toNat_natCast]; rfl
      obtain ⟨ep, ep2⟩ := pow8 (7 - i % 8) (by omega)
      rw [e8, ep, or8]
      refine hO4.sto (k := .i64) (i := i / 8) (by omega) fun w5 f5 hO5 s5 => ?_
      refine hgo _ _ _ (k - 1) (by omega) ⟨i + 1, _, by omega, rfl, f4.trans f5 (fun x hx => .inr (by have := hO4.2.2 x hx; omega)), hA4.fr f5 (fun hm => by have := hO4.2.2 _ hm; omega), hO5, fun j t hj ht => ?_⟩
      rw [fl_set (by omega)]
      by_cases hji : j = i / 8
      · subst hji
        rw [if_pos rfl, UInt8.toNat_or, Nat.testBit_or, ep2, Nat.testBit_two_pow, hz _ t hj ht]
        by_cases hti : 7 - i % 8 = t
        · have e1 : 8 * (i / 8) + (7 - t) = i := by omega
          rw [e1, hb, decide_eq_true hti, decide_eq_true (show i < i + 1 by omega)]; simp
        · rw [decide_eq_false hti, Bool.or_false]
          have : (8 * (i / 8) + (7 - t) < i) ↔ (8 * (i / 8) + (7 - t) < i + 1) := by omega
          rw [decide_eq_decide.2 this]
      · rw [if_neg hji, hz j t hj ht]
        have : (8 * j + (7 - t) < i) ↔ (8 * j + (7 - t) < i + 1) := by omega
        rw [decide_eq_decide.2 this]
    · refine hgo _ _ _ (k - 1) (by omega) ⟨i + 1, zs, by omega, rfl, f4, hA4, hO4, fun j t hj ht => ?_⟩
      rw [hz j t hj ht]
      by_cases hji : 8 * j + (7 - t) = i
      · rw [hji, hb]; simp
      · have : (8 * j + (7 - t) < i) ↔ (8 * j + (7 - t) < i + 1) := by omega
        rw [decide_eq_decide.2 this]
  · have hil : i = 128 := by omega
    subst hil
    have e1 : zs = bytesE e := fl_ext (by rw [bytesE_len, ← hO4.2.1]) fun j hj => by
      rw [← hO4.2.1] at hj
      apply UInt8.toNat_inj.1
      apply Nat.eq_of_testBit_eq
      intro t
      by_cases ht : t < 8
      · rw [hz j t hj ht, decide_eq_true (by omega), Bool.true_and]
        have := cf_bit (bytesE_len e) (j := 8 * j + (7 - t)) (by omega)
        rw [num_bytesE he] at this
        rw [this, show (8 * j + (7 - t)) / 8 = j by omega, show 7 - (8 * j + (7 - t)) % 8 = t by omega]
      · have hlt : ∀ x : UInt8, x.toNat.testBit t = false := fun x => Nat.testBit_lt_two_pow (Nat.lt_of_lt_of_le x.toNat_lt (Nat.pow_le_pow_right (n := 2) (by omega) (show 8 ≤ t by omega)))
        rw [hlt, hlt]
    rw [e1] at hO4
    exact h p0 16 w4 f4 (hO4.mono n1)
theorem PolB.flip (h : PolB w b n g) {i : Nat} (hi : i < n) {K : World → Prop} (hk : ∀ w', Fr [b] w w' → PolB w' b n (fun j => if j = i then !g i else g j) → w'.heap.size = w.heap.size → K w') :
    ∃ w', Sto Tryz.prog T_bool (.pointer (some ⟨b, i, none⟩)) (.bool (!g i)) w w' ∧ K w' := h.set hi hk
theorem wsub {i m : Nat} (h1 : m ≤ i) (h2 : i < 1000) : IntKind.i64.wrap ((i : Int) - (m : Int)) = ((i - m : Nat) : Int) := by
  rw [wrap64 (by omega) (by omega)]; omega
theorem rF_step (top m : Nat) (p : Nat → Bool) : rF top (m + 1) p = stp (top - m) (rF top m p) := rfl
set_option maxHeartbeats 2000000 in
theorem refPMul_c {a b : Nat} (hb : b < 2 ^ 128) (h : ∀ w', Fr [] w w' → K (.agg ⟨bA 128 (cf (pmul a b))⟩) w') : callF Tryz.prog F_ref04_Mul #[.agg ⟨bA 128 (cf a)⟩, .agg ⟨bA 128 (cf b)⟩] w K := by
  apply ref04_Mul_call
  unfold ref04_Mul
  refine newPB rfl fun w1 f1 hA1 s1 => newPB rfl fun w2 f2 hB2 s2 => newPz fun w3 g3 f3 hZ3 s3 => newZ (s := 255) (by kernel_rfl) fun w4 g4 f4 hP4 s4 => ?_
  refine stoB (n := 255) (g := fun _ => false) (by kernel_rfl) (by kernel_rfl) hP4 fun w5 f5 hC5 s5 => ?_
  have f04 := ((f1.then f2).then f3).then f4
  have n4 := ((f1.then f2).then f3).size
  have f05 : Fr [] w w5 := f04.st f5 n4
  have hA5 := (hA1.fr0 ((f2.then f3).then f4)).fr f5 (by simp; omega)
  have hB5 := (hB2.fr0 (f3.then f4)).fr f5 (by simp; omega)
  have hZ5 := (hZ3.fr0 f4).fr f5 (by simp; omega)
  obtain ⟨A, hA⟩ : ∃ A, A = w.heap.size := ⟨_, rfl⟩
  obtain ⟨B, hBn⟩ : ∃ B, B = w1.heap.size := ⟨_, rfl⟩
  obtain ⟨Z, hZ⟩ : ∃ Z, Z = w2.heap.size := ⟨_, rfl⟩
  obtain ⟨C, hC⟩ : ∃ C, C = w3.heap.size := ⟨_, rfl⟩
  rw [← hA] at hA5; rw [← hBn] at hB5; rw [← hZ] at hZ5; rw [← hC] at hC5
  rw [← hA, ← hBn, ← hZ, ← hC]
  have oA : w.heap.size ≤ C ∧ A < C ∧ B < C ∧ Z < C ∧ w.heap.size ≤ Z ∧ A < Z ∧ B < Z := by omega
  refine LoopS.ind (fun k us w' => ∃ i : Nat, i + k = 128 ∧ us = [.pointer (some ⟨A, 0, none⟩), .pointer (some ⟨B, 0, none⟩), .pointer (some ⟨Z, 0, none⟩), .pointer (some ⟨C, 0, none⟩), .int .i64 (i : Int)] ∧ Fr [] w w' ∧ PolB w' A 128 (cf a) ∧ PolB w' B 128 (cf b) ∧ (∃ g1, Blk w' Z 128 g1) ∧ PolB w' C 255 (conv a b i)) 128
    ⟨0, by omega, rfl, f05, hA5, hB5, ⟨_, hZ5⟩, hC5⟩ ?_
  rintro k us r w6 I μ hgo ⟨i, hi, rfl, f6, hA6, hB6, ⟨g6, hZ6⟩, hC6⟩
  refine ⟨_, _, _, _, _, rfl, cond_d (fun h1 => ?_) (fun h1 => ?_)⟩
  · have hi2 : i < 128 := by omega
    refine ⟨_, ixP hi2, _, hA6.get hi2, ?_⟩
    refine cond_intro (fun hc => ?_) fun hc => ?_
    · have hc' : cf a i = false := by simpa using hc
      rw [wrap64 (by omega) (by omega)]
      refine hgo _ _ _ (k - 1) (by omega) ⟨i + 1, by omega, rfl, f6, hA6, hB6, ⟨g6, hZ6⟩, hC6.congr fun j _ => ?_⟩
      show _ = (conv a b i j ^^ (cf a i && shN i (cf b) j))
      rw [hc']; simp
    · have hc' : cf a i = true := by simpa using hc
      refine LoopS.ind (fun k2 us w' => ∃ j : Nat, j + k2 = 128 ∧ us = [.pointer (some ⟨A, 0, none⟩), .pointer (some ⟨B, 0, none⟩), .pointer (some ⟨Z, 0, none⟩), .pointer (some ⟨C, 0, none⟩), .int .i64 (i : Int), .int .i64 (j : Int)] ∧ Fr [] w w' ∧ PolB w' A 128 (cf a) ∧ PolB w' B 128 (cf b) ∧ (∃ g1, Blk w' Z 128 g1) ∧
        PolB w' C 255 (fun t => conv a b i t ^^ (decide (t < i + j) && shN i (cf b) t))) 128
        ⟨0, by omega, rfl, f6, hA6, hB6, ⟨g6, hZ6⟩, hC6.congr fun t _ => ?_⟩ ?_
      · rw [shN_at]
        by_cases ht : t < i
        · rw [decide_eq_false (show ¬ i ≤ t by omega)]; simp
        · rw [decide_eq_false (show ¬ t < i + 0 by omega)]; simp
      rintro k2 us2 r2 w7 I2 μ2 hgo2 ⟨j, hj, rfl, f7, hA7, hB7, ⟨g7, hZ7⟩, hC7⟩
      refine ⟨_, _, _, _, _, _, rfl, cond_d (fun h2 => ?_) (fun h2 => ?_)⟩
      · have hj2 : j < 128 := by omega
        have hw : IntKind.i64.wrap ((i : Int) + (j : Int)) = ((i + j : Nat) : Int) := by rw [wrap64 (by omega) (by omega)]; omega
        rw [hw]
        refine ⟨fun w' => Fr [] w7 w', Drw.intro fun w8 f8 s8 => ?_⟩
        refine ⟨_, ixQ (show i + j < 255 by omega), _, ixP hj2, _, ⟨f8, fun w' hw' => (hC7.fr0 hw').get (by omega)⟩, _, (hB7.fr0 f8).get hj2, .inl rfl, _, ixQ (show i + j < 255 by omega), ?_⟩
        refine (hC7.fr0 f8).set (by omega) fun w9 f9 hC9 s9 => ?_
        rw [wrap64 (n := (j : Int) + 1) (by omega) (by omega)]
        refine hgo2 _ _ _ (k2 - 1) (by omega) ⟨j + 1, by omega, rfl, (f7.then f8).st f9 (by omega), (hA7.fr0 f8).fr f9 (by simp; omega), (hB7.fr0 f8).fr f9 (by simp; omega), ⟨_, (hZ7.fr0 f8).fr f9 (by simp; omega)⟩, hC9.congr fun t _ => ?_⟩
        show (if t = i + j then _ else _) = _
        by_cases ht : t = i + j
        · rw [if_pos ht]
          subst ht
          rw [xorB, decide_eq_false (show ¬ i + j < i + j by omega), decide_eq_true (show i + j < i + (j + 1) by omega), shN_at, decide_eq_true (show i ≤ i + j by omega), Nat.add_sub_cancel_left]; simp
        · rw [if_neg ht]
          have : (t < i + j) ↔ (t < i + (j + 1)) := by omega
          rw [decide_eq_decide.2 this]
      · have hjl : j = 128 := by omega
        subst hjl
        rw [wrap64 (by omega) (by omega)]
        refine hgo _ _ _ (k - 1) (by omega) ⟨i + 1, by omega, rfl, f7, hA7, hB7, ⟨g7, hZ7⟩, hC7.congr fun t _ => ?_⟩
        show _ = (conv a b i t ^^ (cf a i && shN i (cf b) t))
        rw [hc', Bool.true_and]
        by_cases ht : t < i + 128
        · rw [decide_eq_true ht]; simp
        · rw [decide_eq_false ht, shN_at]
          have : cf b (t - i) = false := by unfold cf; rw [decide_eq_false (by omega)]; rfl
          rw [this]; simp
  · have hil : i = 128 := by omega
    subst hil
    unfold ref04_Mul_j3
    refine LoopS.ind (fun k us w' => ∃ m : Nat, m + k = 127 ∧ us = [.pointer (some ⟨Z, 0, none⟩), .pointer (some ⟨C, 0, none⟩), .int .i64 ((254 - m : Nat) : Int)] ∧ Fr [] w w' ∧ (∃ g1, Blk w' Z 128 g1) ∧ PolB w' C 255 (rF 254 m (conv a b 128))) 127
      ⟨0, by omega, rfl, f6, ⟨g6, hZ6⟩, hC6⟩ ?_
    rintro k2 us2 r2 w7 I2 μ2 hgo2 ⟨m, hm, rfl, f7, ⟨g7, hZ7⟩, hC7⟩
    refine ⟨_, _, _, rfl, cond_d (fun h2 => ?_) (fun h2 => ?_)⟩
    · have hm2 : m < 127 := by omega
      obtain ⟨x, hx⟩ : ∃ x, x = 254 - m := ⟨_, rfl⟩
      obtain ⟨G, hG⟩ : ∃ G, G = rF 254 m (conv a b 128) := ⟨_, rfl⟩
      rw [← hG] at hC7
      rw [← hx] at hgo2 ⊢
      have x1 : 128 ≤ x := by omega
      have x2 : x < 255 := by omega
      have ex : 254 - (m + 1) = x - 1 := by omega
      refine ⟨_, ixQ x2, _, hC7.get x2, ?_⟩
      rw [show (128 : Int) = ((128 : Nat) : Int) from rfl, show (127 : Int) = ((127 : Nat) : Int) from rfl, show (126 : Int) = ((126 : Nat) : Int) from rfl, show (121 : Int) = ((121 : Nat) : Int) from rfl, wsub (m := 128) (by omega) (by omega), wsub (m := 127) (by omega) (by omega), wsub (m := 126) (by omega) (by omega), wsub (m := 121) (by omega) (by omega)]
      have ew : IntKind.i64.wrap ((x : Int) - 1) = ((x - 1 : Nat) : Int) := by rw [wrap64 (by omega) (by omega)]; omega
      rw [ew]
      refine cond_intro (fun hc => ?_) fun hc => ?_
      · refine ⟨_, ixQ x2, hC7.set x2 fun v1 e1 hD1 t1 => ⟨_, ixQ (show x - 128 < 255 by omega), _, hD1.get (by omega), _, ixQ (show x - 128 < 255 by omega), ?_⟩⟩
        refine hD1.flip (show x - 128 < 255 by omega) fun v2 e2 hD2 t2 => ⟨_, ixQ (show x - 127 < 255 by omega), _, hD2.get (by omega), _, ixQ (show x - 127 < 255 by omega), ?_⟩
        refine hD2.flip (show x - 127 < 255 by omega) fun v3 e3 hD3 t3 => ⟨_, ixQ (show x - 126 < 255 by omega), _, hD3.get (by omega), _, ixQ (show x - 126 < 255 by omega), ?_⟩
        refine hD3.flip (show x - 126 < 255 by omega) fun v4 e4 hD4 t4 => ⟨_, ixQ (show x - 121 < 255 by omega), _, hD4.get (by omega), _, ixQ (show x - 121 < 255 by omega), ?_⟩
        refine hD4.flip (show x - 121 < 255 by omega) fun v5 e5 hD5 t5 => ?_
        have fv : Fr [C] w7 v5 := (((e1.trans e2 (fun y hy => .inl hy)).trans e3 (fun y hy => .inl hy)).trans e4 (fun y hy => .inl hy)).trans e5 (fun y hy => .inl hy)
        refine hgo2 _ _ _ (k2 - 1) (by omega) ⟨m + 1, by omega, by rw [ex], f7.st fv (by omega), ⟨_, hZ7.fr fv (by simp; omega)⟩, hD5.congr fun t _ => ?_⟩
        rw [rF_step, ← hx, ← hG]
        unfold stp
        rw [hc, Bool.true_and]
        by_cases q0 : t = x
        · subst q0
          rw [if_neg (by omega), if_neg (by omega), if_neg (by omega), if_neg (by omega), if_pos rfl, if_pos rfl]
        · by_cases q1 : t = x - 128
          · subst q1
            have z1 : ¬ (x - 128 = x) := by omega
            have y128 : x - 128 + 128 = x := by omega
            have z127 : ¬ (x - 128 = x - 127) := by omega
            have y127 : ¬ (x - 128 + 127 = x) := by omega
            have z126 : ¬ (x - 128 = x - 126) := by omega
            have y126 : ¬ (x - 128 + 126 = x) := by omega
            have z121 : ¬ (x - 128 = x - 121) := by omega
            have y121 : ¬ (x - 128 + 121 = x) := by omega
            simp only [z1, z127, z126, z121, y128, y127, y126, y121, if_true, if_false, decide_true, decide_false, Bool.or_false, Bool.false_or, Bool.or_true, Bool.true_or, Bool.xor_true, ↓reduceIte]
          · by_cases q2 : t = x - 127
            · subst q2
              have z1 : ¬ (x - 127 = x) := by omega
              have z128 : ¬ (x - 127 = x - 128) := by omega
              have y128 : ¬ (x - 127 + 128 = x) := by omega
              have y127 : x - 127 + 127 = x := by omega
              have z126 : ¬ (x - 127 = x - 126) := by omega
              have y126 : ¬ (x - 127 + 126 = x) := by omega
              have z121 : ¬ (x - 127 = x - 121) := by omega
              have y121 : ¬ (x - 127 + 121 = x) := by omega
              simp only [z1, z128, z126, z121, y128, y127, y126, y121, if_true, if_false, decide_true, decide_false, Bool.or_false, Bool.false_or, Bool.or_true, Bool.true_or, Bool.xor_true, ↓reduceIte]
            · by_cases q3 : t = x - 126
              · subst q3
                have z1 : ¬ (x - 126 = x) := by omega
                have z128 : ¬ (x - 126 = x - 128) := by omega
                have y128 : ¬ (x - 126 + 128 = x) := by omega
                have z127 : ¬ (x - 126 = x - 127) := by omega
                have y127 : ¬ (x - 126 + 127 = x) := by omega
                have y126 : x - 126 + 126 = x := by omega
                have z121 : ¬ (x - 126 = x - 121) := by omega
                have y121 : ¬ (x - 126 + 121 = x) := by omega
                simp only [z1, z128, z127, z121, y128, y127, y126, y121, if_true, if_false, decide_true, decide_false, Bool.or_false, Bool.false_or, Bool.or_true, Bool.true_or, Bool.xor_true, ↓reduceIte]
              · by_cases q4 : t = x - 121
                · subst q4
                  have z1 : ¬ (x - 121 = x) := by omega
                  have z128 : ¬ (x - 121 = x - 128) := by omega
                  have y128 : ¬ (x - 121 + 128 = x) := by omega
                  have z127 : ¬ (x - 121 = x - 127) := by omega
                  have y127 : ¬ (x - 121 + 127 = x) := by omega
                  have z126 : ¬ (x - 121 = x - 126) := by omega
                  have y126 : ¬ (x - 121 + 126 = x) := by omega
                  have y121 : x - 121 + 121 = x := by omega
                  simp only [z1, z128, z127, z126, y128, y127, y126, y121, if_true, if_false, decide_true, decide_false, Bool.or_false, Bool.false_or, Bool.or_true, Bool.true_or, Bool.xor_true, ↓reduceIte]
                · have y128 : ¬ (t + 128 = x) := by omega
                  have y127 : ¬ (t + 127 = x) := by omega
                  have y126 : ¬ (t + 126 = x) := by omega
                  have y121 : ¬ (t + 121 = x) := by omega
                  simp only [q0, q1, q2, q3, q4, y128, y127, y126, y121, decide_false, Bool.or_false, Bool.xor_false, ↓reduceIte]
      · refine hgo2 _ _ _ (k2 - 1) (by omega) ⟨m + 1, by omega, by rw [ex], f7, ⟨_, hZ7⟩, hC7.congr fun t _ => ?_⟩
        rw [rF_step, ← hx, ← hG, stp_none hc]
    · have hml : m = 127 := by omega
      subst hml
      unfold ref04_Mul_j2
      refine newPz fun u1 g1 e1 hY1 s1 => stoB (n := 128) (g := fun _ => false) (by kernel_rfl) (by kernel_rfl) hY1 fun u2 e2 hY2 s2 => ?_
      have n7 := f7.size
      have hCl := hC7.lt; have hZl := hZ7.lt
      have f72 : Fr [] w7 u2 := e1.st e2 (Nat.le_refl _)
      have hC2 := hC7.fr0 f72; have hZ2 := hZ7.fr0 f72
      obtain ⟨Y, hYe⟩ : ∃ Y, Y = w7.heap.size := ⟨_, rfl⟩
      rw [← hYe] at hY2 hZl hCl n7 ⊢
      refine LoopS.ind (fun k us w' => ∃ (t : Nat) (gg : Nat → Bool), t + k = 128 ∧ us = [.pointer (some ⟨Z, 0, none⟩), .pointer (some ⟨C, 0, none⟩), .pointer (some ⟨Y, 0, none⟩), .int .i64 (t : Int)] ∧ Fr [] w w' ∧ (∃ g1, Blk w' Z 128 g1) ∧ PolB w' C 255 (red (conv a b 128)) ∧ PolB w' Y 128 gg ∧ ∀ j, j < t → gg j = red (conv a b 128) j) 128
        ⟨0, _, by omega, rfl, f7.then f72, ⟨_, hZ2⟩, hC2, hY2, by omega⟩ ?_
      rintro k3 us3 r3 u3 I3 μ3 hgo3 ⟨t, gg, ht, rfl, f3', ⟨g3', hZ3'⟩, hC3', hY3', hgg⟩
      refine ⟨_, _, _, _, rfl, cond_d (fun h3 => ?_) (fun h3 => ?_)⟩
      · refine ⟨_, ixQ (show t < 255 by omega), _, hC3'.get (by omega), _, ixP (show t < 128 by omega), hY3'.set (by omega) fun u4 e4 hY4 s4' => ?_⟩
        rw [wrap64 (by omega) (by omega)]
        refine hgo3 _ _ _ (k3 - 1) (by omega) ⟨t + 1, _, by omega, rfl, f3'.st e4 (by omega), ⟨_, hZ3'.fr e4 (by simp; omega)⟩, hC3'.fr e4 (by simp; omega), hY4, fun j hj => ?_⟩
        show (if j = t then _ else _) = _
        by_cases hjt : j = t
        · rw [if_pos hjt, hjt]
        · rw [if_neg hjt]; exact hgg j (by omega)
      · have htl : t = 128 := by omega
        subst htl
        unfold ref04_Mul_j1
        have e : bA 128 gg = bA 128 (cf (pmul a b)) := by rw [← red_mul hb]; exact bA_congr hgg
        refine ⟨_, hY3'.ld, stoB rfl (by kernel_rfl) hZ3' fun u5 e5 hA5' s5' => ⟨_, _, rfl, hA5'.ld, ?_⟩⟩
        rw [e]
        exact h u5 (f3'.st e5 (by omega))
end
end Go.Sh
end

section
namespace Go.Sh
open Go Go.Fw Go.Proofs
set_option maxRecDepth 100000
set_option linter.unusedVariables false
theorem callF_as {P : Program} {f : FuncId} {a a' : Array Value} {w : World} {K : Value → World → Prop} (he : a = a') (h : callF P f a' w K) : callF P f a w K := by subst he; exact h
def bcells : List Nat → List Value
  | [] => []
  | e :: l => bA 128 (cf e) ++ bcells l
theorem bcells_len (l : List Nat) : (bcells l).length = l.length * 128 := by induction l with | nil => rfl | cons r l ih => simp only [bcells, List.length_cons, List.length_append, bA_len, ih]; omega
theorem bcells_append (a b : List Nat) : bcells (a ++ b) = bcells a ++ bcells b := by induction a with | nil => rfl | cons r a ih => simp [bcells, ih]
theorem bcells_get : ∀ (l : List Nat) (i e j : Nat), l[i]? = some e → j < 128 → (bcells l)[i * 128 + j]? = some (.bool (cf e j)) := by
  intro l
  induction l with
  | nil => intro i r j h; simp at h
  | cons x l ih =>
    intro i r j h hj
    cases i with
    | zero =>
      simp at h; subst h
      show (bA 128 (cf x) ++ bcells l)[0 * 128 + j]? = _
      rw [List.getElem?_append_left (by rw [bA_len]; omega), Nat.zero_mul, Nat.zero_add, bA_at hj]
    | succ i =>
      show (bA 128 (cf x) ++ bcells l)[(i + 1) * 128 + j]? = _
      rw [List.getElem?_append_right (by rw [bA_len]; omega), bA_len, show (i + 1) * 128 + j - 128 = i * 128 + j by omega]
      exact ih i r j (by simpa using h) hj
theorem bA_one (n : Nat) (g : Nat → Bool) : ∀ v ∈ bA n g, v.oneCell' = true := by
  intro v hv
  obtain ⟨j, hj, rfl⟩ := List.mem_map.1 hv; rfl
theorem bcells_one (l : List Nat) : ∀ v ∈ bcells l, v.oneCell' = true := by
  induction l with
  | nil => simp [bcells]
  | cons r l ih => intro v hv; rcases List.mem_append.1 hv with hv | hv; exact bA_one _ _ v hv; exact ih v hv
def PE (w : World) (p : Option Addr) (l c : Nat) (es : List Nat) (lo : Nat) : Prop := OwnN 128 w p l c (bcells es) ∧ l = es.length ∧ ∀ k ∈ blks p, lo ≤ k
section
variable {w : World} {b n : Nat} {K : Value → World → Prop}
theorem PE.fr {p : Option Addr} {l c lo : Nat} {es : List Nat} {w' : World} {L : List Nat} (h : PE w p l c es lo) (f : Fr L w w') (hL : ∀ k ∈ L, k < lo) : PE w' p l c es lo := ⟨h.1.fr f fun k hk hm => by have := hL k hm; have := h.2.2 k hk; omega, h.2⟩
theorem PE.fr0 {p : Option Addr} {l c lo : Nat} {es : List Nat} {w' : World} (h : PE w p l c es lo) (f : Fr [] w w') : PE w' p l c es lo := ⟨h.1.fr0 f, h.2⟩
theorem PE.mono {p : Option Addr} {l c lo lo' : Nat} {es : List Nat} (h : PE w p l c es lo) (hl : lo' ≤ lo) : PE w p l c es lo' := ⟨h.1, h.2.1, fun k hk => Nat.le_trans hl (h.2.2 k hk)⟩
theorem PE.row {p : Option Addr} {l c lo : Nat} {es : List Nat} (h : PE w p l c es lo) : Row w p (bcells es) := h.1.row
theorem mkP0 {K : Option Addr → Nat → Nat → World → Prop} (h : ∀ p w', Fr [] w w' → PE w' p 0 0 [] w.heap.size → w'.heap.size = w.heap.size + 1 → K p 0 0 w') : ∃ p l c w', Ef Tryz.prog (Instr.buildSlice T_S_ref04_Poly 0 #[]) w (.slice p l c) w' ∧ K p l c w' :=
  ⟨_, _, _, Ef.new (v := .slice (some ⟨w.heap.size, 0, none⟩) 0 0) (cs := ([] : List Value).toArray) (e := T_ref04_Poly) (by kernel_rfl) fun w' f hB s => h _ w' f ⟨⟨rfl, .inr ⟨_, 0, _, _, rfl, hB, by omega, by omega, by simp [bcells]⟩⟩, rfl, by simp [blks]⟩ s⟩
theorem mkP1 {e : Nat} {K : Option Addr → Nat → Nat → World → Prop} (h : ∀ p w', Fr [] w w' → Row w' p (bcells [e]) → w'.heap.size = w.heap.size + 1 → K p 1 1 w') : ∃ p l c w', Ef Tryz.prog (Instr.buildSlice T_S_ref04_Poly 1 #[(0, .agg ⟨bA 128 (cf e)⟩)]) w (.slice p l c) w' ∧ K p l c w' := by
  obtain ⟨g, hg⟩ : ∃ g, g = cf e := ⟨_, rfl⟩
  have e1 : bcells [e] = bA 128 g := by rw [hg]; simp [bcells]
  rw [← hg]
  rw [e1] at h
  exact ⟨_, _, _, Ef.new (v := .slice (some ⟨w.heap.size, 0, none⟩) 1 1) (cs := (bA 128 g).toArray) (e := T_ref04_Poly) (by kernel_rfl) fun w' f hB s => h _ w' f hB.rowL s⟩
theorem pushP {p q : Option Addr} {l c lo m d : Nat} {es ys : List Nat} (h : PE w p l c es lo) (hlo : lo ≤ w.heap.size) (hR : Row w q (bcells ys)) (hm : m = ys.length) (hlen : l + m ≤ 1073741824) {K : Option Addr → Nat → Nat → World → Prop}
    (hk : ∀ p' c' w', Fr (blks p) w w' → PE w' p' (l + m) c' (es ++ ys) lo → K p' (l + m) c' w') : ∃ p' l' c' w', Ef Tryz.prog (Builtin.append_ #[T_S_ref04_Poly, T_S_ref04_Poly] T_S_ref04_Poly #[.slice p l c, .slice q m d]) w (.slice p' l' c') w' ∧ K p' l' c' w' := by
  obtain ⟨p', c', w', he, hO, hf, hcase⟩ := Ef.appendN (P := Tryz.prog) (t := T_S_ref04_Poly) (ty := T_S_ref04_Poly) (s := 128) (by kernel_rfl) h.1 (m := m) (d := d) hR (by rw [bcells_len, hm]) (bcells_one ys) hlen
  rw [← bcells_append] at hO
  refine ⟨_, _, _, _, he, hk p' c' w' hf ⟨hO, by rw [List.length_append, ← hm, ← h.2.1], ?_⟩⟩
  rcases hcase with ⟨rfl, _, _⟩ | ⟨rfl, _, _⟩
  · exact h.2.2
  · intro k hk'; simp [blks] at hk'; omega
theorem polAt {p : Option Addr} {es : List Nat} (hX : Row w p (bcells es)) {l c i : Nat} (hl : l = es.length) (hi : i < l) :
    ∃ b o e, es[i]? = some e ∧ IxA Tryz.prog T_S_ref04_Poly (.slice p l c) (.int .i64 (i : Int)) ⟨b, o, none⟩ ∧ ∀ j, j < 128 → w.cell? ⟨b, o + j, none⟩ = some (.bool (cf e j)) := by
  have hlt : i < es.length := by omega
  obtain ⟨b, o, ha, _, hc⟩ := hX.cellAt (P := Tryz.prog) (t := T_S_ref04_Poly) (s := 128) (by kernel_rfl) (k := .i64) (l := l) (c := c) (by rw [bcells_len, hl]) hi (by omega)
  exact ⟨b, o, _, List.getElem?_eq_getElem hlt, ha, fun j hj => hc j _ hj (bcells_get es i _ j (List.getElem?_eq_getElem hlt) hj)⟩
theorem refLong_c {n : Nat} (hn : n < 1000000000) (h : ∀ q d w', Fr [] w w' → OB w' q 8 d (putL (n * 8) 8) w.heap.size → K (.slice q 8 d) w') : callF Tryz.prog F_ref05_long #[.int .i64 (n : Int)] w K := by
  apply ref05_long_call
  unfold ref05_long
  refine mkN (n := 8) (c := 8) (by omega) (by omega) fun p w1 f1 hO1 s1 => ?_
  have e8 : IntKind.i64.wrap ((n : Int) * 8) = ((n * 8 : Nat) : Int) := by rw [wrap64 (by omega) (by omega)]; omega
  rw [e8]
  obtain ⟨N, hN⟩ : ∃ N, N = n * 8 := ⟨_, rfl⟩
  rw [← hN] at h ⊢
  have hNb : N < 8000000000 := by omega
  refine LoopS.ind (fun k us w' => ∃ (t : Nat) (zs : List UInt8), t + k = 8 ∧ us = [.int .i64 ((N / 256 ^ t : Nat) : Int), .slice none 0 0, .slice p 8 8, .int .i64 (7 - (t : Int))] ∧ Fr [] w w' ∧ OB w' p 8 8 zs w.heap.size ∧ ∀ j, j < 8 → 7 - j < t → fl zs j = UInt8.ofNat (N / 256 ^ (7 - j))) 8
    ⟨0, _, by omega, by simp, f1, hO1, by omega⟩ ?_
  rintro k us r w2 I μ hgo ⟨t, zs, ht, rfl, f2, hO2, hz⟩
  refine ⟨_, _, _, _, _, _, _, _, rfl, cond_d (fun h1 => ?_) (fun h1 => ?_)⟩
  · have e7 : (7 - (t : Int)) = ((7 - t : Nat) : Int) := by omega
    have hM : N / 256 ^ t ≤ N := Nat.div_le_self _ _
    obtain ⟨M, hMe⟩ : ∃ M, M = N / 256 ^ t := ⟨_, rfl⟩
    rw [← hMe] at hM ⊢
    have eb : IntKind.u8.wrap (Int.tmod (M : Int) 256) = (((UInt8.ofNat M).toNat : Nat) : Int) := by
      rw [show (256 : Int) = ((256 : Nat) : Int) from rfl, tmodN, UInt8.toNat_ofNat']
      rw [wrap8 (by omega) (by omega)]
    rw [eb, e7]
    have hzl := hO2.2.1
    refine hO2.sto (k := .i64) (i := 7 - t) (by omega) fun w3 f3 hO3 s3 => ?_
    have ed : IntKind.i64.wrap (Int.tdiv (M : Int) 256) = ((N / 256 ^ (t + 1) : Nat) : Int) := by
      rw [show (256 : Int) = ((256 : Nat) : Int) from rfl, tdivN, wrap64 (by omega) (by omega), hMe, Nat.div_div_eq_div_mul, ← Nat.pow_succ]
    have es : IntKind.i64.wrap (((7 - t : Nat) : Int) - 1) = 7 - ((t + 1 : Nat) : Int) := by rw [wrap64 (by omega) (by omega)]; omega
    rw [ed, es, ← e7, hMe]
    refine hgo _ _ _ (k - 1) (by omega) ⟨t + 1, _, by omega, rfl, hO2.news f2 f3 (Nat.le_refl _), hO3, fun j hj hjt => ?_⟩
    rw [fl_set (by omega)]
    by_cases hji : j = 7 - t
    · rw [if_pos hji, hMe, show 7 - j = t by omega]
    · rw [if_neg hji]; exact hz j hj (by omega)
  · have e1 : zs = putL N 8 := fl_ext (by rw [putL_len, ← hO2.2.1]) fun j hj => by
      rw [← hO2.2.1] at hj
      rw [hz j hj (by omega)]
      unfold putL fl
      rw [List.getD_eq_getElem?_getD, List.getElem?_map, List.getElem?_range hj]; rfl
    rw [e1] at hO2
    exact h p 8 w2 f2 hO2
end
end Go.Sh
end

section
namespace Go.Sh
open Go Go.Fw Go.Proofs
set_option maxRecDepth 100000
set_option linter.unusedVariables false
theorem cf_xorE (a b : Nat) : (fun j => cf a j ^^ cf b j) = cf (a ^^^ b) := by
  funext j
  unfold cf
  rw [Nat.testBit_xor]
  cases decide (j < 128) <;> simp
theorem padBlk_fl (xs : List UInt8) (i : Nat) {j : Nat} (hj : j < 16) : fl (padL (blkL xs i)) j = if 16 * i + j < xs.length then fl xs (16 * i + j) else 0 := by
  have hl := blkL_len xs i
  unfold padL fl
  rw [List.getD_eq_getElem?_getD]
  by_cases h : 16 * i + j < xs.length
  · rw [if_pos h, List.getElem?_append_left (by omega)]
    unfold blkL
    rw [List.getElem?_take, if_pos hj, List.getElem?_drop, List.getD_eq_getElem?_getD]
  · rw [if_neg h, List.getElem?_append_right (by omega), List.getElem?_replicate]
    split <;> rfl
section
variable {w : World} {b n : Nat} {K : Value → World → Prop}
theorem blocks_take {xs : List UInt8} {i : Nat} (hi : i < blkN xs.length) : (blocksL xs).take (i + 1) = (blocksL xs).take i ++ [blkE xs i] := by
  rw [List.take_add_one]
  congr 1
  unfold blocksL
  rw [List.getElem?_map, List.getElem?_range hi]; rfl
set_option maxHeartbeats 1000000 in
theorem refBlocks_c {p : Option Addr} {l c : Nat} {xs : List UInt8} (hx : Row w p (xs.map vb)) (hl : l = xs.length) (hlb : l < 1000000)
    (h : ∀ q d w', Fr [] w w' → PE w' q (blkN l) d (blocksL xs) w.heap.size → K (.slice q (blkN l) d) w') : callF Tryz.prog F_ref05_Blocks #[.slice p l c] w K := by
  apply ref05_Blocks_call
  unfold ref05_Blocks
  refine mkP0 fun p0 w1 f1 hO1 s1 => ?_
  have hN : ∀ i, 16 * i < l ↔ i < blkN l := fun i => by unfold blkN; omega
  refine LoopS.ind (fun k us w' => ∃ (i : Nat) (q : Option Addr) (d : Nat), i + k = blkN l ∧ us = [.slice p l c, .slice none 0 0, .slice q i d, .int .i64 ((16 * i : Nat) : Int)] ∧ Fr [] w w' ∧ PE w' q i d ((blocksL xs).take i) w.heap.size) (blkN l)
    ⟨0, p0, 0, by omega, rfl, f1, hO1⟩ ?_
  rintro k us r w2 I μ hgo ⟨i, q, d, hi, rfl, f2, hO2⟩
  refine ⟨_, _, _, _, _, _, _, _, _, _, rfl, cond_d (fun h1 => ?_) (fun h1 => ?_)⟩
  · have h1' : 16 * i < l := by omega
    have hi2 := (hN i).1 h1'
    refine mkN (n := 16) (c := 16) (by omega) (by omega) fun p3 w3 f3 hO3 s3 => ?_
    -- what is left to do once the block is whole
    have fin : ∀ (w5 : World) (zs : List UInt8), Fr [] w2 w5 → OB w5 p3 16 16 zs w2.heap.size → (∀ j, j < 16 → fl zs j = if 16 * i + j < l then fl xs (16 * i + j) else 0) →
        ref05_Blocks_j2 I μ [.slice p l c, .slice none 0 0, .slice q i d, .int .i64 ((16 * i : Nat) : Int)] w2 p l c none 0 0 q i d ((16 * i : Nat) : Int) p3 16 16 w5 K := by
      intro w5 zs f5 hO5 hz
      unfold ref05_Blocks_j2
      have ez : zs = padL (blkL xs i) := fl_ext (by rw [padL_len (by rw [blkL_len]; omega), ← hO5.2.1]) fun j hj => by
        rw [← hO5.2.1] at hj
        rw [hz j hj, padBlk_fl xs i hj, hl]
      have en : numL zs = blkE xs i := by rw [ez]; rfl
      refine refPOf_c hO5.row hO5.2.1 rfl fun w6 f6 => ⟨_, rfl, ?_⟩
      rw [en]
      refine mkP1 fun p7 w7 f7 hR7 s7 => ?_
      have f57 := f5.then (f6.then f7)
      have f07 := f2.then f57
      refine pushP (m := 1) (hO2.fr0 f57) f07.size hR7 rfl (by unfold blkN at hi2; omega) fun p8 c8 w8 f8 hO8 => ?_
      have e16 : IntKind.i64.wrap (((16 * i : Nat) : Int) + 16) = ((16 * (i + 1) : Nat) : Int) := by rw [wrap64 (by omega) (by omega)]; omega
      rw [e16]
      refine hgo _ _ _ (k - 1) (by omega) ⟨i + 1, p8, c8, by omega, rfl, f07.trans f8 (fun x hx => .inr (hO2.2.2 x hx)), ?_⟩
      rw [blocks_take (by rw [← hl]; exact hi2)]
      exact hO8
    refine LoopS.ind (fun k2 us w' => ∃ (t : Nat) (zs : List UInt8), t + k2 = 16 ∧ us = [.slice p l c, .slice none 0 0, .slice q i d, .int .i64 ((16 * i : Nat) : Int), .slice p3 16 16, .int .i64 (t : Int)] ∧ 16 * i + t ≤ l ∧ Fr [] w2 w' ∧ OB w' p3 16 16 zs w2.heap.size ∧ ∀ j, j < 16 → fl zs j = if j < t then fl xs (16 * i + j) else 0) 16
      ⟨0, _, by omega, rfl, by omega, f3, hO3, fun j hj => ?_⟩ ?_
    · rw [if_neg (by omega)]
      unfold fl; rw [List.getD_eq_getElem?_getD, List.getElem?_replicate]; split <;> rfl
    rintro k2 us2 r2 w4 I2 μ2 hgo2 ⟨t, zs, ht, rfl, htl, f4, hO4, hz⟩
    have fin4 : (t = 16 ∨ l ≤ 16 * i + t) → ref05_Blocks_j2 I μ [.slice p l c, .slice none 0 0, .slice q i d, .int .i64 ((16 * i : Nat) : Int)] w2 p l c none 0 0 q i d ((16 * i : Nat) : Int) p3 16 16 w4 K := fun hor => fin w4 zs f4 hO4 fun j hj => by
      rw [hz j hj]
      by_cases hjt : j < t
      · rw [if_pos hjt, if_pos (by omega)]
      · rw [if_neg hjt, if_neg (by omega)]
    refine ⟨_, _, _, _, _, _, _, _, _, _, _, _, _, _, rfl, cond_d (fun h2 => ?_) (fun h2 => fin4 (.inl (by omega)))⟩
    have ew : IntKind.i64.wrap (((16 * i : Nat) : Int) + (t : Int)) = ((16 * i + t : Nat) : Int) := by rw [wrap64 (by omega) (by omega)]; omega
    rw [ew]
    refine cond_d (fun h3 => ?_) (fun h3 => fin4 (.inr (by omega)))
    unfold ref05_Blocks_j1
    rw [ew]
    obtain ⟨a, ha, hca⟩ := row_get (t := T_S_uint8) (by kernel_rfl) (hx.fr0 (f2.then f4)) (c := c) hl (i := 16 * i + t) (by omega) (k := .i64)
    refine ⟨a, ha, _, Ld.cell (by kernel_rfl) hca, ?_⟩
    have hzl := hO4.2.1
    refine hO4.sto (k := .i64) (i := t) (by omega) fun w5 f5 hO5 s5 => ?_
    rw [wrap64 (by omega) (by omega)]
    refine hgo2 _ _ _ (k2 - 1) (by omega) ⟨t + 1, _, by omega, rfl, by omega, hO4.news f4 f5 (Nat.le_refl _), hO5, fun j hj => ?_⟩
    rw [fl_set (by omega)]
    by_cases hjt : j = t
    · subst hjt; rw [if_pos rfl, if_pos (by omega)]; rfl
    · rw [if_neg hjt, hz j hj]
      by_cases hlt : j < t
      · rw [if_pos hlt, if_pos (by omega)]
      · rw [if_neg hlt, if_neg (by omega)]
  · have hil : i = blkN l := by have := hN i; omega
    subst hil
    rw [List.take_of_length_le (by rw [blocksL_len, ← hl]; exact Nat.le_refl _)] at hO2
    exact h q d w2 f2 hO2
set_option maxHeartbeats 1000000 in
theorem refFold_c {H a0 : Nat} {p : Option Addr} {l c : Nat} {es : List Nat} (hH : H < 2 ^ 128) (hE : Row w p (bcells es)) (hl : l = es.length) (hlb : l < 1000000)
    (h : ∀ w', Fr [] w w' → K (.agg ⟨bA 128 (cf (foldE H a0 es))⟩) w') : callF Tryz.prog F_ref05_Fold #[.agg ⟨bA 128 (cf H)⟩, .agg ⟨bA 128 (cf a0)⟩, .slice p l c] w K := by
  apply ref05_Fold_call
  unfold ref05_Fold
  refine newPB rfl fun w1 f1 hA1 s1 => newPB rfl fun w2 f2 hA2 s2 => newPz fun w3 g3 f3 hB3 s3 => ?_
  have f03 := (f1.then f2).then f3
  refine LoopS.ind (fun k us w' => ∃ i : Nat, i + k = l ∧ us = [.slice p l c, .pointer (some ⟨w.heap.size, 0, none⟩), .pointer (some ⟨w1.heap.size, 0, none⟩), .pointer (some ⟨w2.heap.size, 0, none⟩), .int .i64 (i : Int)] ∧ Fr [] w w' ∧ PolB w' w.heap.size 128 (cf H) ∧ PolB w' w1.heap.size 128 (cf (foldE H a0 (es.take i))) ∧ ∃ g1, Blk w' w2.heap.size 128 g1) l
    ⟨0, by omega, rfl, f03, hA1.fr0 (f2.then f3), hA2.fr0 f3, _, hB3⟩ ?_
  rintro k us r w4 I μ hgo ⟨i, hi, rfl, f4, hH4, hA4, ⟨g4, hB4⟩⟩
  refine ⟨_, _, _, _, _, _, _, rfl, cond_d (fun h1 => ?_) (fun h1 => ?_)⟩
  · refine ⟨fun w' => Fr [] w4 w', Drw.intro fun w5 f5 s5 => ?_⟩
    obtain ⟨b, o, x, hx, ha, hc⟩ := polAt (hE.fr0 f4) (c := c) hl (i := i) (by omega)
    refine ⟨_, ha, _, ⟨f5, fun w' hw' => (hA4.fr0 hw').ld⟩, _, ⟨f5, fun w' hw' => ldB (g := cf x) fun j hj => hw'.cell (hc j hj) (by simp)⟩, _, ⟨f5, fun w' hw' => (hH4.fr0 hw').ld⟩, ?_⟩
    refine refPAdd_c fun w6 f6 => ⟨_, rfl, .inr (f5.then f6), ?_⟩
    rw [cf_xorE]
    refine refPMul_c hH fun w7 f7 => ⟨_, rfl, ?_⟩
    have f47 := (f5.then f6).then f7
    obtain ⟨ga, hga⟩ := (hA4.fr0 f47).blk
    refine stoB rfl (by kernel_rfl) hga fun w8 f8 hA8 s8 => ?_
    rw [wrap64 (by omega) (by omega)]
    have e1 : pmul (foldE H a0 (es.take i) ^^^ x) H = foldE H a0 (es.take (i + 1)) := by unfold foldE; rw [List.take_add_one, hx, List.foldl_append]; rfl
    rw [e1] at hA8
    exact hgo _ _ _ (k - 1) (by omega) ⟨i + 1, by omega, rfl, (f4.then f47).st f8 (by omega), (hH4.fr0 f47).fr f8 (by simp; omega), hA8, _, (hB4.fr0 f47).fr f8 (by simp; omega)⟩
  · have hil : i = l := by omega
    subst hil
    unfold ref05_Fold_j1
    rw [List.take_of_length_le (by omega)] at hA4
    exact ⟨_, hA4.ld, stoB rfl (by kernel_rfl) hB4 fun w5 f5 hA5 s5 => ⟨_, _, rfl, hA5.ld, h w5 (f4.st f5 (by omega))⟩⟩
set_option maxHeartbeats 1000000 in
theorem refGsum_c {p0 p1 p2 : Option Addr} {l0 c0 l1 c1 l2 c2 : Nat} {key xs ys : List UInt8} (hk : Row w p0 (key.map vb)) (hl0 : l0 = key.length) (h16 : l0 = 16) (hx : Row w p1 (xs.map vb)) (hl1 : l1 = xs.length) (hb1 : l1 < 1000000) (hy : Row w p2 (ys.map vb)) (hl2 : l2 = ys.length) (hb2 : l2 < 1000000)
    (h : ∀ q d w', Fr [] w w' → OB w' q 16 d (ghashL (numL key) xs ys) w.heap.size → K (.slice q 16 d) w') : callF Tryz.prog F_ref05_Sum #[.slice p0 l0 c0, .slice p1 l1 c1, .slice p2 l2 c2] w K := by
  apply ref05_Sum_call
  unfold ref05_Sum
  refine refBlocks_c hx hl1 hb1 fun q1 d1 w1 f1 hO1 => ⟨_, _, _, rfl, ?_⟩
  refine refBlocks_c (hy.fr0 f1) hl2 hb2 fun q2 d2 w2 f2 hO2 => ⟨_, _, _, rfl, ?_⟩
  have f02 := f1.then f2
  have hN : ∀ n, n < 1000000 → blkN n < 100000 := fun n hn => by unfold blkN; omega
  have hN1 := hN l1 hb1; have hN2 := hN l2 hb2
  refine pushP (hO1.fr0 f2) f02.size hO2.row hO2.2.1 (by omega) fun p3 c3 w3 f3 hO3 => ?_
  have f03 : Fr [] w w3 := f02.trans f3 (fun x hx => .inr (hO1.2.2 x hx))
  refine refLong_c (by omega) fun q4 d4 w4 f4 hO4 => ⟨_, _, _, rfl, ?_⟩
  refine refLong_c (by omega) fun q5 d5 w5 f5 hO5 => ⟨_, _, _, rfl, ?_⟩
  have f45 := f4.then f5
  have n3 := f03.size; have n4 := f4.size
  refine pushN (hO4.fr0 f5) (f45.size) hO5.row hO5.2.1 (by omega) fun p6 c6 w6 f6 hO6 => ?_
  have f36 : Fr [] w3 w6 := f45.trans f6 (fun x hx => .inr (hO4.2.2 x hx))
  refine refBlocks_c (l := 8 + 8) hO6.row hO6.2.1 (by omega) fun q7 d7 w7 f7 hO7 => ⟨_, _, _, rfl, ?_⟩
  have f37 := f36.then f7
  have f07 := f03.then f37
  refine pushP (hO3.fr0 f37) f07.size hO7.row hO7.2.1 (by unfold blkN at *; omega) fun p8 c8 w8 f8 hO8 => ?_
  have f08 : Fr [] w w8 := f07.trans f8 (fun x hx => .inr (hO3.2.2 x hx))
  refine refPOf_c (hk.fr0 f08) hl0 h16 fun w9 f9 => ⟨_, rfl, ?_⟩
  refine callF_as (a' := #[.agg ⟨bA 128 (cf (numL key))⟩, .agg ⟨bA 128 (cf 0)⟩, .slice p8 (blkN l1 + blkN l2 + blkN (8 + 8)) c8]) (by kernel_rfl) ?_
  have hlt : numL key < 2 ^ 128 := numL_lt16 (by omega)
  refine refFold_c hlt (hO8.fr0 f9).row hO8.2.1 (by unfold blkN at *; omega) fun w10 f10 => ⟨_, rfl, ?_⟩
  have es : blocksL xs ++ blocksL ys ++ blocksL (putL (l1 * 8) 8 ++ putL (l2 * 8) 8) = sumB xs ys := by
    have e1 : blocksL (putL (l1 * 8) 8 ++ putL (l2 * 8) 8) = [lenE xs.length ys.length] := by
      have hlen : (putL (l1 * 8) 8 ++ putL (l2 * 8) 8).length = 16 := by simp [putL_len]
      obtain ⟨Y, hY⟩ : ∃ Y, Y = putL (l1 * 8) 8 ++ putL (l2 * 8) 8 := ⟨_, rfl⟩
      have hn : numL Y = lenE xs.length ys.length := by
        rw [hY, numL_append, num_put _ _ (by omega), num_put _ _ (by omega), putL_len]
        unfold lenE
        omega
      rw [← hY] at hlen ⊢
      have hb : blocksL Y = [blkE Y 0] := by unfold blocksL; rw [hlen]; rfl
      have hp : padL (blkL Y 0) = Y := by
        have : blkL Y 0 = Y := by unfold blkL; rw [Nat.mul_zero, List.drop_zero, List.take_of_length_le (by omega)]
        rw [this]; unfold padL; rw [hlen]; simp
      rw [hb]
      unfold blkE
      rw [hp, hn]
    rw [e1]; rfl
  have ho : foldE (numL key) 0 (sumB xs ys) < 2 ^ 128 := foldE_lt hlt _ _ (by decide)
  rw [es]
  refine refPBytes_c ho fun q11 d11 w11 f11 hO11 => ⟨_, _, _, rfl, ?_⟩
  have f010 := (f08.then f9).then f10
  exact h q11 d11 w11 (f010.then f11) (hO11.mono f010.size)
end
end Go.Sh
end

section
namespace Go.Sh
open Go Go.Fw Go.Proofs
set_option maxRecDepth 100000
set_option linter.unusedVariables false
section
variable {w : World} {key nonce text note : List UInt8} {K : Value → World → Prop}
theorem refWrong_c {p0 p1 p2 p3 : Option Addr} {l0 c0 l1 c1 l2 c2 l3 c3 : Nat} (h16 : l0 = 16) (hl1 : l1 = nonce.length) (hl2 : l2 = text.length) (hl3 : l3 = note.length)
    (hbad : ¬ okG nonce.length [text, note] → K (.bool true) w) (hok : okG nonce.length [text, note] → K (.bool false) w) : callF Tryz.prog F_ref07_wrong #[.slice p0 l0 c0, .slice p1 l1 c1, .slice p2 l2 c2, .slice p3 l3 c3] w K := by
  apply ref07_wrong_call
  unfold ref07_wrong
  rw [okG_iff] at hbad hok
  refine cond_ne (fun h1 => by omega) fun _ => cond_ne (fun h1 => hbad (by omega)) fun h1 => cond_d (fun h2 => hbad (by omega)) fun h2 => ?_
  by_cases h3 : (l3 : Int) > 65535
  · rw [decide_eq_true h3]; exact hbad (by omega)
  · rw [decide_eq_false h3]; exact hok (by omega)
theorem refFirst_c {p : Option Addr} {l c : Nat} (hx : Row w p (nonce.map vb)) (hl : l = nonce.length) (hlb : l ≤ 1000000) (h : ∀ q d w', Fr [] w w' → OB w' q (l + 4) d (firstL nonce) w.heap.size → K (.slice q (l + 4) d) w') :
    callF Tryz.prog F_ref07_first #[.slice p l c] w K := by
  apply ref07_first_call
  unfold ref07_first
  refine mk0 fun p1 w1 f1 hO1 s1 => ?_
  refine pushN hO1 f1.size (hx.fr0 f1) hl (by omega) fun p2 c2 w2 f2 hO2 => ?_
  have f02 : Fr [] w w2 := f1.trans f2 (fun x hx => .inr (hO1.2.2 x hx))
  refine mkL (xs := [0, 0, 0, 1]) rfl rfl (by kernel_rfl) fun p3 w3 f3 hO3 s3 => ?_
  refine pushN (m := 4) (hO2.fr0 f3) (f02.then f3).size hO3.row rfl (by omega) fun p4 c4 w4 f4 hO4 => ?_
  have f04 : Fr [] w w4 := (f02.then f3).trans f4 (fun x hx => .inr (hO2.2.2 x hx))
  rw [Nat.zero_add] at hO4 ⊢
  rw [List.nil_append] at hO4
  exact h p4 c4 w4 f04 hO4
set_option maxHeartbeats 1000000 in
theorem refGtag_c {p0 p1 p2 p3 : Option Addr} {l0 c0 l1 c1 l2 c2 l3 c3 : Nat} (hk : Row w p0 (key.map vb)) (hl0 : l0 = key.length) (hc0 : l0 ≤ c0) (h16 : l0 = 16) (h1 : Row w p1 (nonce.map vb)) (hl1 : l1 = nonce.length) (h2 : Row w p2 (text.map vb)) (hl2 : l2 = text.length) (h3 : Row w p3 (note.map vb)) (hl3 : l3 = note.length)
    (h : ∀ q d w', Fr [] w w' → OB w' q (tgL key nonce text note).length d (tgL key nonce text note) w.heap.size → K (.tuple #[.slice q (tgL key nonce text note).length d, .int .i64 (tgE nonce text note)]) w') :
    callF Tryz.prog F_ref07_Tag #[.slice p0 l0 c0, .slice p1 l1 c1, .slice p2 l2 c2, .slice p3 l3 c3] w K := by
  apply ref07_Tag_call
  unfold ref07_Tag
  refine refWrong_c h16 hl1 hl2 hl3 (fun hno => ?_) fun hok => ?_
  · have e1 : tgE nonce text note = 11 := by unfold tgE; rw [if_neg hno]
    have e2 : tgL key nonce text note = [] := by unfold tgL; rw [if_neg hno]
    rw [e1, e2] at h
    exact ⟨_, rfl, cond_t (h none 0 w (Fr.refl _ _) (OB.nil _ _))⟩
  · have e1 : tgE nonce text note = 0 := by unfold tgE; rw [if_pos hok]
    have e2 : tgL key nonce text note = gtagL key nonce text note := by unfold tgL; rw [if_pos hok]
    rw [e1, e2, gtagL_len] at h
    rw [okG_iff] at hok
    refine ⟨_, rfl, cond_f ?_⟩
    refine mkN (n := 16) (c := 16) (by omega) (by omega) fun q1 w1 f1 hO1 s1 => ?_
    refine refEncrypt_c (hk.fr0 f1) hl0 (by omega) hc0 hO1.row rfl (by simp) fun q2 d2 w2 f2 hO2 => ⟨_, _, _, rfl, ?_⟩
    have f02 := f1.then f2
    refine refGsum_c hO2.row hO2.2.1 rfl (h3.fr0 f02) hl3 (by omega) (h2.fr0 f02) hl2 (by omega) fun q3 d3 w3 f3 hO3 => ⟨_, _, _, rfl, ?_⟩
    have f03 := f02.then f3
    refine refFirst_c (h1.fr0 f03) hl1 (by omega) fun q4 d4 w4 f4 hO4 => ⟨_, _, _, rfl, ?_⟩
    have f04 := f03.then f4
    refine refEncrypt_c (hk.fr0 f04) hl0 (by omega) hc0 hO4.row hO4.2.1 (by rw [← hO4.2.1]; omega) fun q5 d5 w5 f5 hO5 => ⟨_, _, _, rfl, ?_⟩
    have f05 := f04.then f5
    obtain ⟨G, hG⟩ : ∃ G, G = ghashL (numL (aencL key (List.replicate 16 0))) note text := ⟨_, rfl⟩
    obtain ⟨E, hE⟩ : ∃ E, E = aencL key (firstL nonce) := ⟨_, rfl⟩
    rw [← hG] at hO3; rw [← hE] at hO5
    have hR3 := hO3.fr0 (f4.then f5)
    have hGl : G.length = 16 := hO3.2.1.symm
    have hEl : E.length = 16 := hO5.2.1.symm
    have n2 := f02.size; have n3 := f03.size; have n4 := f04.size
    have n35 : w3.heap.size ≤ w4.heap.size := f4.size
    have hap : ∀ k ∈ blks q5, k ∉ blks q3 := fun k hk hm => by have := hO3.lt k hm; have := hO5.2.2 k hk; omega
    refine LoopS.ind (fun k us w' => ∃ (i : Nat) (zs : List UInt8), i + k = 16 ∧ us = [.slice none 0 0, .int .i64 0, .slice q3 16 d3, .slice q5 16 d5, .int .i64 (i : Int)] ∧ Fr [] w w' ∧ OB w' q3 16 d3 zs w2.heap.size ∧ Row w' q5 (E.map vb) ∧ ∀ j, fl zs j = if j < i then fl G j ^^^ fl E j else fl G j) 16
      ⟨0, G, by omega, rfl, f05, hR3, hO5.row, fun j => by simp⟩ ?_
    rintro k us r w6 I μ hgo ⟨i, zs, hi, rfl, f6, hO6, hR6, hz⟩
    refine ⟨_, _, _, _, _, _, _, _, _, _, _, rfl, cond_d (fun g1 => ?_) (fun g1 => ?_)⟩
    · have hzl := hO6.2.1
      obtain ⟨a, ha, hca⟩ := row_get (t := T_S_uint8) (by kernel_rfl) hO6.row (c := d3) (l := 16) hzl (i := i) (by omega) (k := .i64)
      obtain ⟨b, hb, hcb⟩ := row_get (t := T_S_uint8) (by kernel_rfl) hR6 (c := d5) (l := 16) hEl.symm (i := i) (by omega) (k := .i64)
      refine ⟨fun w' => w'.cell? a = some (vb (zs.getD i 0)), Drw.intro fun w7 f7 s7 => ?_⟩
      refine ⟨a, ha, b, hb, _, ⟨f7.cell hca (by simp), fun w' hw' => Ld.cell (by kernel_rfl) hw'⟩, _, Ld.cell (by kernel_rfl) (f7.cell hcb (by simp)), .inl rfl, ?_⟩
      rw [xor8]
      refine (hO6.fr0 f7).sto (by omega) fun w8 f8 hO8 s8 => ?_
      rw [wrap64 (by omega) (by omega)]
      refine hgo _ _ _ (k - 1) (by omega) ⟨i + 1, _, by omega, rfl, (f6.then f7).trans f8 (fun x hx => .inr (by have := hO6.2.2 x hx; omega)), hO8, Row.cells_fr (hR6.fr0 f7) f8 hap, fun j => ?_⟩
      rw [fl_set (by omega)]
      by_cases hji : j = i
      · subst hji
        rw [if_pos rfl, if_pos (by omega)]
        have := hz j
        rw [if_neg (by omega)] at this
        show fl zs j ^^^ _ = _
        rw [this]; rfl
      · rw [if_neg hji, hz j]
        by_cases hlt : j < i
        · rw [if_pos hlt, if_pos (by omega)]
        · rw [if_neg hlt, if_neg (by omega)]
    · have hil : i = 16 := by omega
      subst hil
      have e : zs = gtagL key nonce text note := by
        have e0 : gtagL key nonce text note = xorL G E := by rw [hG, hE]; rfl
        rw [e0]
        refine list_eq_of (by rw [xorL_len (by omega), ← hO6.2.1]; omega) fun j hj => ?_
        rw [← hO6.2.1] at hj
        rw [xorL_getD (by omega) (by omega)]
        have := hz j
        rw [if_pos hj] at this
        exact this
      rw [e] at hO6
      exact h q3 d3 w6 f6 (hO6.mono n2)
set_option maxHeartbeats 1000000 in
theorem refGseal_c {p0 p1 p2 p3 : Option Addr} {l0 c0 l1 c1 l2 c2 l3 c3 : Nat} (hk : Row w p0 (key.map vb)) (hl0 : l0 = key.length) (hc0 : l0 ≤ c0) (h16 : l0 = 16) (h1 : Row w p1 (nonce.map vb)) (hl1 : l1 = nonce.length) (h2 : Row w p2 (text.map vb)) (hl2 : l2 = text.length) (h3 : Row w p3 (note.map vb)) (hl3 : l3 = note.length)
    (h : ∀ q d w', Fr [] w w' → OB w' q (slL key nonce text note).length d (slL key nonce text note) w.heap.size → K (.tuple #[.slice q (slL key nonce text note).length d, .int .i64 (tgE nonce text note)]) w') :
    callF Tryz.prog F_ref07_Seal #[.slice p0 l0 c0, .slice p1 l1 c1, .slice p2 l2 c2, .slice p3 l3 c3] w K := by
  apply ref07_Seal_call
  unfold ref07_Seal
  refine refWrong_c h16 hl1 hl2 hl3 (fun hno => ?_) fun hok => ?_
  · have e1 : tgE nonce text note = 11 := by unfold tgE; rw [if_neg hno]
    have e2 : slL key nonce text note = [] := by unfold slL; rw [if_neg hno]
    rw [e1, e2] at h
    exact ⟨_, rfl, cond_t (h none 0 w (Fr.refl _ _) (OB.nil _ _))⟩
  · have e1 : tgE nonce text note = 0 := by unfold tgE; rw [if_pos hok]
    have e2 : slL key nonce text note = gturnL key nonce text ++ gtagL key nonce (gturnL key nonce text) note := by unfold slL; rw [if_pos hok]
    have hbl : (gturnL key nonce text ++ gtagL key nonce (gturnL key nonce text) note).length = l2 + 16 := by rw [List.length_append, gturnL_len, gtagL_len, hl2]
    rw [e1, e2, hbl] at h
    rw [okG_iff] at hok
    refine ⟨_, rfl, cond_f ?_⟩
    refine refFirst_c h1 hl1 (by omega) fun q1 d1 w1 f1 hO1 => ⟨_, _, _, rfl, ?_⟩
    refine refAfter_c hO1.row hO1.2.1 (by rw [← hO1.2.1]; omega) 1 (by omega) fun q2 d2 w2 f2 hO2 => ⟨_, _, _, rfl, ?_⟩
    have f02 := f1.then f2
    refine refTurn_c (hk.fr0 f02) hl0 hc0 (by omega) hO2.row hO2.2.1 (by rw [← hO2.2.1]) (h2.fr0 f02) hl2 (by omega) fun q3 d3 w3 f3 hO3 => ⟨_, _, _, _, rfl, ?_⟩
    have f03 := f02.then f3
    have hgok : okG nonce.length [gturnL key nonce text, note] := by rw [okG_iff, gturnL_len]; omega
    have et : tgL key nonce (gturnL key nonce text) note = gtagL key nonce (gturnL key nonce text) note := by unfold tgL; rw [if_pos hgok]
    refine refGtag_c (text := gturnL key nonce text) (hk.fr0 f03) hl0 hc0 h16 (h1.fr0 f03) hl1 hO3.row hO3.2.1 (h3.fr0 f03) hl3 fun q4 d4 w4 f4 hO4 => ⟨_, _, _, _, rfl, ?_⟩
    rw [et, gtagL_len] at hO4
    rw [et, gtagL_len]
    have f04 := f03.then f4
    refine pushN (hO3.fr0 f4) (by have := f3.then f4; exact this.size) hO4.row hO4.2.1 (by omega) fun p5 c5 w5 f5 hO5 => ?_
    have n2 := f02.size
    exact h p5 c5 w5 (f04.trans f5 (fun x hx => .inr (by have := hO3.2.2 x hx; omega))) (hO5.mono n2)
end
end Go.Sh
end
