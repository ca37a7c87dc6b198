/- A part of a proof of a given law of this program: lemmas, printed forms of its functions, contracts. It has no conditions of its own. -/
import Derived.Test.YtcfealonnakdcaaGreatMFw
import Derived.Test.YtcfealonnakdcaaGreatMF
import Derived.Test.YtcfealonnakdcaaGreatMSh

section
namespace Go.Sh
open Go Go.Fw Go.Proofs
set_option maxRecDepth 100000
set_option linter.unusedVariables false
def BAt (f : Nat → Value) (o n : Nat) (x : Nat → UInt8) : Prop := ∀ j, j < n → f (o + j) = vb (x j)
def blist (n : Nat) (x : Nat → UInt8) : List Value := (List.range n).map fun j => vb (x j)
theorem blist_len (n : Nat) (x : Nat → UInt8) : (blist n x).length = n := by simp [blist]
theorem blist_get {n : Nat} {x : Nat → UInt8} {j : Nat} (h : j < n) : (blist n x)[j]? = some (vb (x j)) := by simp [blist, h]
theorem blist_one {n : Nat} {x : Nat → UInt8} : ∀ u ∈ blist n x, u.oneCell' = true := by simp [blist]; intros; rfl
theorem BAt.ld {f : Nat → Value} {o n : Nat} {x : Nat → UInt8} (h : BAt f o n x) : ∀ j v, (blist n x)[j]? = some v → f (o + j) = v := by
  intro j v hj
  have hlt := (List.getElem?_eq_some_iff.1 hj).1
  rw [blist_len] at hlt
  rw [blist_get hlt] at hj
  rw [h j hlt]
  exact Option.some.inj hj
def Bk (w : World) (b : Nat) (x : Nat → UInt8) : Prop := ∃ f, Blk w b 16 f ∧ BAt f 0 16 x
theorem Bk.fr {w w' : World} {b : Nat} {x : Nat → UInt8} {l : List Nat} (h : Bk w b x) (hf : Fr l w w') (hn : b ∉ l) : Bk w' b x := by
  obtain ⟨f, hB, hx⟩ := h; exact ⟨f, hB.fr hf hn, hx⟩
theorem Bk.lt {w : World} {b : Nat} {x : Nat → UInt8} (h : Bk w b x) : b < w.heap.size := by obtain ⟨f, hB, hx⟩ := h; exact hB.lt
theorem newB {n : Nat} {x : Nat → UInt8} {t : TypeId} {w : World} {K : Nat → World → Prop} (h : ∀ w' f, Fr [] w w' → Blk w' w.heap.size n f → BAt f 0 n x → w'.heap.size = w.heap.size + 1 → K w.heap.size w') : New ⟨blist n x⟩ t w K := by
  refine New.intro fun w' f1 hB hs => ?_
  have e : (⟨blist n x⟩ : Array Value).size = n := by simp [blist]
  rw [e] at hB
  refine h w' _ f1 hB (fun j hj => ?_) hs
  show (⟨blist n x⟩ : Array Value).getD (0 + j) undef = _
  rw [Nat.zero_add, Array.getD_eq_getD_getElem?]
  have : (⟨blist n x⟩ : Array Value)[j]? = some (vb (x j)) := by rw [← blist_get hj]; simp
  rw [this]; rfl
theorem block_add_c {w : World} {b : Nat} {x y : Nat → UInt8} (hx : Bk w b x) {K : Value → World → Prop} (h : ∀ w', Fr [b] w w' → Bk w' b (fun j => x j ^^^ y j) → K (.tuple #[]) w') :
    callF Tryz.prog F_aes_block_add #[.pointer (some ⟨b, 0, none⟩), .agg ⟨blist 16 y⟩] w K := by
  apply aes_block_add_call
  unfold aes_block_add
  have hbw := hx.lt
  refine newB fun w1 g f1 hG hg s1 => ?_
  have hx1 := hx.fr f1 (by simp)
  refine LoopS.ind (fun k us w' => ∃ i : Nat, i + k = 16 ∧ us = [.pointer (some ⟨b, 0, none⟩), .pointer (some ⟨w.heap.size, 0, none⟩), .int .i64 (i : Int)] ∧ Fr [b] w1 w' ∧ Bk w' b (fun j => if j < i then x j ^^^ y j else x j)) 16
    ⟨0, rfl, rfl, Fr.refl _ _, by simpa using hx1⟩ ?_
  rintro k us r w2 I μ hgo ⟨i, hi, rfl, f2, f, hB, hf⟩
  refine ⟨_, _, _, rfl, cond_d (fun h1 => ?_) (fun h1 => ?_)⟩
  · have hi16 : i < 16 := by omega
    refine ⟨fun w' => w'.cell? ⟨b, i, none⟩ = some (vb (x i)), Drw.intro fun w3 f3 s3 => ?_⟩
    have hB3 := hB.fr0 f3
    have hG3 := (hG.fr f2 (by simp; omega)).fr0 f3
    have hfi : f i = vb (x i) := by have := hf i hi16; rw [Nat.zero_add] at this; rw [this]; simp
    have hc : w3.cell? ⟨b, i, none⟩ = some (vb (x i)) := by rw [hB3.cell hi16, hfi]
    refine ⟨_, rfl, _, ixA1 (n := 16) (by kernel_rfl) (by omega) (by omega), _, ixA1 (n := 16) (by kernel_rfl) (by omega) (by omega), _, rfl, ?_⟩
    rw [Int.toNat_natCast, Nat.zero_add]
    refine ⟨_, ⟨hc, fun w' hw' => Ld.cell (by kernel_rfl) hw'⟩, _, Ld.blk (by kernel_rfl) hG3 hi16 (by have := hg i hi16; rwa [Nat.zero_add] at this), .inl rfl, _, ixA1 (n := 16) (by kernel_rfl) (by omega) (by omega), ?_⟩
    rw [Int.toNat_natCast, Nat.zero_add, xor8]
    refine Sto.blk (by kernel_rfl) hB3 hi16 rfl rfl fun w4 f4 hB4 s4 => ?_
    refine hgo _ _ _ (k - 1) (by omega) ⟨i + 1, by omega, by rw [wrap64 (by omega) (by omega)]; rfl, (f2.then f3).trans f4 (fun _ h => .inl h), _, hB4, fun j hj => ?_⟩
    rw [Nat.zero_add]
    show _ = vb (if j < i + 1 then x j ^^^ y j else x j)
    by_cases hji : j = i
    · subst hji; rw [upd_same, if_pos (by omega)]
    · rw [upd_ne _ _ _ hji]
      have := hf j hj
      rw [Nat.zero_add] at this
      rw [this]
      show vb (if j < i then x j ^^^ y j else x j) = _
      by_cases hj2 : j < i
      · rw [if_pos hj2, if_pos (by omega)]
      · rw [if_neg hj2, if_neg (by omega)]
  · have hi16 : i = 16 := by omega
    subst hi16
    refine h w2 (f1.after f2) ⟨f, hB, fun j hj => ?_⟩
    rw [hf j hj]
    show vb (if j < 16 then x j ^^^ y j else x j) = _
    rw [if_pos hj]
end Go.Sh
end

section
namespace Go.Sh
open Go Go.Fw Go.Proofs
set_option maxRecDepth 100000
set_option linter.unusedVariables false
def Turns (fv : Value) (T : World → Prop) (l : List Nat) (g : UInt8 → UInt8) : Prop :=
  ∀ (a : UInt8) (w : World) (K : Value → World → Prop), T w → (∀ w', Fr l w w' → T w' → K (vb (g a)) w') → callV Tryz.prog fv [vb a] w K
theorem block_each_c {w : World} {b : Nat} {x : Nat → UInt8} (hx : Bk w b x) {fv : Value} {T : World → Prop} {l : List Nat} {g : UInt8 → UInt8} (hT : T w) (hg : Turns fv T l g) (hbl : b ∉ l)
    (hTf : ∀ w w', T w → Fr [b] w w' → T w') {K : Value → World → Prop} (h : ∀ w', Fr (b :: l) w w' → T w' → Bk w' b (fun j => g (x j)) → K (.tuple #[]) w') :
    callF Tryz.prog F_aes_block_each #[.pointer (some ⟨b, 0, none⟩), fv] w K := by
  apply aes_block_each_call
  unfold aes_block_each
  refine LoopS.ind (fun k us w' => ∃ i : Nat, i + k = 16 ∧ us = [.pointer (some ⟨b, 0, none⟩), fv, .pointer (some ⟨b, 0, none⟩), .int .i64 (i : Int)] ∧ Fr (b :: l) w w' ∧ T w' ∧ Bk w' b (fun j => if j < i then g (x j) else x j)) 16
    ⟨0, rfl, rfl, Fr.refl _ _, hT, by simpa using hx⟩ ?_
  rintro k us r w2 I μ hgo ⟨i, hi, rfl, f2, hT2, f, hB, hf⟩
  refine ⟨_, _, _, _, rfl, cond_d (fun h1 => ?_) (fun h1 => ?_)⟩
  · have hi16 : i < 16 := by omega
    have hfi : f i = vb (x i) := by
      have := hf i hi16
      rw [Nat.zero_add] at this
      rw [this]
      show vb (if i < i then g (x i) else x i) = _
      rw [if_neg (by omega)]
    refine Drw.intro fun w3 f3 s3 => ?_
    refine ⟨_, rfl, _, ixA1 (n := 16) (by kernel_rfl) (by omega) (by omega), ?_⟩
    rw [Int.toNat_natCast, Nat.zero_add]
    refine ⟨_, Ld.blk (by kernel_rfl) (hB.fr0 f3) hi16 hfi, ?_⟩
    refine Drw.intro fun w4 f4 s4 => ⟨_, rfl, ?_⟩
    have hT4 := hTf _ _ (hTf _ _ hT2 (f3.mono (by simp))) (f4.mono (by simp))
    refine hg (x i) w4 _ hT4 fun w5 f5 hT5 => ⟨_, rfl, _, ixA1 (n := 16) (by kernel_rfl) (by omega) (by omega), ?_⟩
    rw [Int.toNat_natCast, Nat.zero_add]
    refine Sto.blk (by kernel_rfl) (((hB.fr0 f3).fr0 f4).fr f5 hbl) hi16 rfl rfl fun w6 f6 hB6 s6 => ?_
    have fA : Fr (b :: l) w w6 := (((f2.then f3).then f4).trans f5 (fun x hx => .inl (by simp [hx]))).trans f6 (fun x hx => .inl (by simp at hx; simp [hx]))
    refine hgo _ _ _ (k - 1) (by omega) ⟨i + 1, by omega, by rw [wrap64 (by omega) (by omega)]; rfl, fA, hTf _ _ hT5 f6, _, hB6, fun j hj => ?_⟩
    rw [Nat.zero_add]
    show _ = vb (if j < i + 1 then g (x j) else x j)
    by_cases hji : j = i
    · subst hji; rw [upd_same, if_pos (by omega)]
    · rw [upd_ne _ _ _ hji]
      have := hf j hj
      rw [Nat.zero_add] at this
      rw [this]
      show vb (if j < i then g (x j) else x j) = _
      by_cases hj2 : j < i
      · rw [if_pos hj2, if_pos (by omega)]
      · rw [if_neg hj2, if_neg (by omega)]
  · have hi16 : i = 16 := by omega
    subst hi16
    refine h w2 f2 hT2 ⟨f, hB, fun j hj => ?_⟩
    rw [hf j hj]
    show vb (if j < 16 then g (x j) else x j) = _
    rw [if_pos hj]
end Go.Sh
end

section
namespace Go.Sh
open Go Go.Fw Go.Proofs
set_option maxRecDepth 100000
set_option linter.unusedVariables false
theorem BAt.upd_ne {f : Nat → Value} {o n : Nat} {x : Nat → UInt8} (h : BAt f o n x) {k : Nat} {v : Value} (hk : k < o ∨ o + n ≤ k) : BAt (upd f k v) o n x := by
  intro j hj
  rw [Go.Fw.upd_ne _ _ _ (by omega)]
  exact h j hj
theorem BAt.updN {f : Nat → Value} {o n : Nat} {x : Nat → UInt8} : BAt (updN f o (blist n x)) o n x := by
  intro j hj
  unfold Go.Fw.updN
  rw [dif_pos ⟨by omega, by rw [blist_len]; omega⟩]
  have h := blist_get (x := x) hj
  rw [List.getElem?_eq_some_iff] at h
  obtain ⟨_, h⟩ := h
  have e : o + j - o = j := by omega
  simp only [e]
  exact h
def arows (by_ : Nat) (x : Nat → UInt8) : Nat → UInt8 := fun j => x ((j + 4 * by_ * (j % 4)) % 16)
theorem block_rows_c {w : World} {b : Nat} {x : Nat → UInt8} (hx : Bk w b x) {m : Nat} (hm : m ≤ 3) {K : Value → World → Prop} (h : ∀ w', Fr [b] w w' → Bk w' b (arows m x) → K (.tuple #[]) w') :
    callF Tryz.prog F_aes_block_rows #[.pointer (some ⟨b, 0, none⟩), .int .i64 (m : Int)] w K := by
  apply aes_block_rows_call
  unfold aes_block_rows
  have hbw := hx.lt
  obtain ⟨f0, hB0, hf0⟩ := id hx
  refine ⟨_, rfl, _, LdA (by kernel_rfl) (by kernel_rfl) hB0 (Nat.le_refl 16) (blist 16 x) (blist_len _ _) hf0.ld, ?_⟩
  refine newZ (s := 16) (by kernel_rfl) fun w1 g0 f1 hG s1 => ?_
  refine Sto.agg (by kernel_rfl) (blist_len 16 x) hG (Nat.le_refl 16) blist_one fun w2 f2 hG2 s2 => ?_
  have hg2 : BAt (updN g0 0 (blist 16 x)) 0 16 x := BAt.updN
  have hx2 := (hx.fr f1 (by simp)).fr f2 (by simp; omega)
  refine LoopS.ind (fun k us w' => ∃ i : Nat, i + k = 16 ∧ us = [.pointer (some ⟨b, 0, none⟩), .int .i64 (m : Int), .pointer (some ⟨w.heap.size, 0, none⟩), .int .i64 (i : Int)] ∧ Fr [b] w2 w' ∧ Bk w' b (fun j => if j < i then arows m x j else x j)) 16
    ⟨0, rfl, rfl, Fr.refl _ _, by simpa using hx2⟩ ?_
  rintro k us r w3 I μ hgo ⟨i, hi, rfl, f3, f, hB, hf⟩
  refine ⟨_, _, _, _, rfl, cond_d (fun h1 => ?_) (fun h1 => ?_)⟩
  · have hi16 : i < 16 := by omega
    have hG3 := hG2.fr f3 (by simp; omega)
    refine Drw.intro fun w4 f4 s4 => ?_
    have e4 : (Int.tmod (i : Int) 4) = ((i % 4 : Nat) : Int) := rfl
    have hi4 : i % 4 < 4 := Nat.mod_lt _ (by omega)
    have hmm : 4 * m * (i % 4) ≤ 12 * 3 := Nat.mul_le_mul (by omega) (by omega)
    have e5 : IntKind.i64.wrap (4 * (m : Int)) = ((4 * m : Nat) : Int) := by rw [wrap64 (by omega) (by omega)]; omega
    have e6 : IntKind.i64.wrap ((i : Int) + IntKind.i64.wrap (IntKind.i64.wrap (4 * (m : Int)) * Int.tmod (i : Int) 4)) = ((i + 4 * m * (i % 4) : Nat) : Int) := by
      rw [e4, e5, ← Int.natCast_mul, wrap64 (n := ((4 * m * (i % 4) : Nat) : Int)) (by omega) (by omega), ← Int.natCast_add, wrap64 (by omega) (by omega)]
    have e7 : Int.tmod ((i + 4 * m * (i % 4) : Nat) : Int) 16 = (((i + 4 * m * (i % 4)) % 16 : Nat) : Int) := rfl
    have h16 : (i + 4 * m * (i % 4)) % 16 < 16 := Nat.mod_lt _ (by omega)
    rw [e6, e7]
    refine ⟨_, ixA1 (n := 16) (by kernel_rfl) (by omega) (by omega), _, rfl, ?_⟩
    rw [Int.toNat_natCast, Nat.zero_add]
    refine ⟨_, Ld.blk (by kernel_rfl) (hG3.fr0 f4) h16 (by have := hg2 _ h16; rwa [Nat.zero_add] at this), _, ixA1 (n := 16) (by kernel_rfl) (by omega) (by omega), ?_⟩
    rw [Int.toNat_natCast, Nat.zero_add]
    refine Sto.blk (by kernel_rfl) (hB.fr0 f4) hi16 rfl rfl fun w5 f5 hB5 s5 => ?_
    refine hgo _ _ _ (k - 1) (by omega) ⟨i + 1, by omega, by rw [wrap64 (by omega) (by omega)]; rfl, (f3.then f4).trans f5 (fun _ h => .inl h), _, hB5, fun j hj => ?_⟩
    rw [Nat.zero_add]
    show _ = vb (if j < i + 1 then arows m x j else x j)
    by_cases hji : j = i
    · subst hji; rw [upd_same, if_pos (by omega)]; rfl
    · rw [Go.Fw.upd_ne _ _ _ hji]
      have := hf j hj
      rw [Nat.zero_add] at this
      rw [this]
      show vb (if j < i then arows m x j else x j) = _
      by_cases hj2 : j < i
      · rw [if_pos hj2, if_pos (by omega)]
      · rw [if_neg hj2, if_neg (by omega)]
  · have hi16 : i = 16 := by omega
    subst hi16
    have fA : Fr [b] w w3 := (f1.trans f2 (fun y hy => .inr (by simp at hy; omega))).after f3
    refine h w3 fA ⟨f, hB, fun j hj => ?_⟩
    rw [hf j hj]
    show vb (if j < 16 then arows m x j else x j) = _
    rw [if_pos hj]
end Go.Sh
end

section
namespace Go.Sh
open Go Go.Fw Go.Proofs
set_option maxRecDepth 100000
set_option linter.unusedVariables false
def TurnsF (fv : Value) (T : World → Prop) (l : List Nat) (g : Nat → UInt8 → UInt8) (fac : Nat → Int) : Prop :=
  ∀ (j : Nat) (a : UInt8) (w : World) (K : Value → World → Prop), j < 4 → T w → (∀ w', Fr l w w' → T w' → K (vb (g j a)) w') → callV Tryz.prog fv [.int .i64 (fac j), vb a] w K
def csum (g : Nat → UInt8 → UInt8) (x : Nat → UInt8) (k : Nat) : Nat → UInt8
  | 0 => 0
  | j + 1 => csum g x k j ^^^ g j (x (4 * (k / 4) + (k % 4 + j) % 4))
def acols (g : Nat → UInt8 → UInt8) (x : Nat → UInt8) : Nat → UInt8 := fun k => csum g x k 4
def flist (fac : Nat → Int) : List Value := (List.range 4).map fun j => .int .i64 (fac j)
theorem flist_get {fac : Nat → Int} {j : Nat} (h : j < 4) : (flist fac)[j]? = some (.int .i64 (fac j)) := by simp [flist, h]
set_option maxHeartbeats 800000 in
theorem block_columns_c {w : World} {b : Nat} {x : Nat → UInt8} (hx : Bk w b x) {fv : Value} {T : World → Prop} {l : List Nat} {g : Nat → UInt8 → UInt8} {fac : Nat → Int} (hT : T w) (hg : TurnsF fv T l g fac) (hbl : b ∉ l)
    (hlw : ∀ k ∈ l, k < w.heap.size) (hTf : ∀ w w', T w → Fr [b] w w' → T w') {K : Value → World → Prop} (h : ∀ w', Fr (b :: l) w w' → T w' → Bk w' b (acols g x) → K (.tuple #[]) w') :
    callF Tryz.prog F_aes_block_columns #[.pointer (some ⟨b, 0, none⟩), fv, .agg ⟨flist fac⟩] w K := by
  apply aes_block_columns_call
  unfold aes_block_columns
  have hbw := hx.lt
  refine New.intro fun w1 f1 hF s1 => ?_
  have hF : Blk w1 w.heap.size 4 (fun i => (⟨flist fac⟩ : Array Value).getD i undef) := by
    have e : (⟨flist fac⟩ : Array Value).size = 4 := by simp [flist]
    rw [e] at hF; exact hF
  have hFv : ∀ j v, (flist fac)[j]? = some v → (fun i => (⟨flist fac⟩ : Array Value).getD i undef) (0 + j) = v := by
    intro j v hj
    show (⟨flist fac⟩ : Array Value).getD (0 + j) undef = v
    rw [Nat.zero_add, Array.getD_eq_getD_getElem?]
    have : (⟨flist fac⟩ : Array Value)[j]? = some v := by rw [← hj]; simp
    rw [this]; rfl
  have hx1 := hx.fr f1 (by simp)
  obtain ⟨f0, hB0, hf0⟩ := id hx1
  refine ⟨_, rfl, _, LdA (by kernel_rfl) (by kernel_rfl) hB0 (Nat.le_refl 16) (blist 16 x) (blist_len _ _) hf0.ld, ?_⟩
  refine newZ (s := 16) (by kernel_rfl) fun w2 g0 f2 hG s2 => ?_
  refine Sto.agg (by kernel_rfl) (blist_len 16 x) hG (Nat.le_refl 16) blist_one fun w3 f3 hG3 s3 => ?_
  have hg3 : BAt (updN g0 0 (blist 16 x)) 0 16 x := BAt.updN
  have fn : Fr [] w w3 := (f1.then f2).trans f3 (fun y hy => .inr (by simp at hy; omega))
  have hx3 := hx.fr fn (by simp)
  have hT3 : T w3 := hTf _ _ hT (fn.mono (by simp))
  have hF3 := (hF.fr0 f2).fr f3 (by simp; omega)
  have hsep : ∀ k ∈ b :: l, k ≠ w.heap.size ∧ k ≠ w1.heap.size := by
    intro k hk
    simp only [List.mem_cons] at hk
    rcases hk with rfl | hk
    · omega
    · have := hlw k hk; omega
  refine LoopS.ind (fun k us w' => ∃ i : Nat, i + k = 16 ∧ us = [.pointer (some ⟨b, 0, none⟩), fv, .pointer (some ⟨w.heap.size, 0, none⟩), .pointer (some ⟨w1.heap.size, 0, none⟩), .int .i64 (i : Int)] ∧ Fr (b :: l) w3 w' ∧ T w' ∧ Bk w' b (fun j => if j < i then acols g x j else x j)) 16
    ⟨0, rfl, rfl, Fr.refl _ _, hT3, by simpa using hx3⟩ ?_
  rintro k us r w4 I μ hgo ⟨i, hi, rfl, f4, hT4, f, hB, hf⟩
  have hF4 := hF3.fr f4 (fun hk => (hsep _ hk).1 rfl)
  have hG4 := hG3.fr f4 (fun hk => (hsep _ hk).2 rfl)
  refine ⟨_, _, _, _, _, rfl, cond_d (fun h1 => ?_) (fun h1 => ?_)⟩
  · have hi16 : i < 16 := by omega
    have e8 : IntKind.i64.wrap (Int.tdiv (i : Int) 4) = ((i / 4 : Nat) : Int) := by
      have : Int.tdiv (i : Int) 4 = ((i / 4 : Nat) : Int) := rfl
      rw [this]
      exact wrap64 (by omega) (by omega)
    have e9 : Int.tmod (i : Int) 4 = ((i % 4 : Nat) : Int) := rfl
    refine ⟨_, LdA (m := 4) (by kernel_rfl) (by kernel_rfl) hF4 (Nat.le_refl 4) (flist fac) (by simp [flist]) hFv, ?_⟩
    rw [e8, e9]
    refine LoopS.ind (fun k2 us w' => ∃ j : Nat, j + k2 = 4 ∧ us = [.pointer (some ⟨b, 0, none⟩), fv, .pointer (some ⟨w.heap.size, 0, none⟩), .pointer (some ⟨w1.heap.size, 0, none⟩), .int .i64 (i : Int), .int .i64 ((i / 4 : Nat) : Int), .int .i64 ((i % 4 : Nat) : Int), vb (csum g x i j), .int .i64 (i : Int), .agg ⟨flist fac⟩, .int .i64 (j : Int)] ∧ Fr l w4 w' ∧ T w') 4
      ⟨0, rfl, rfl, Fr.refl _ _, hT4⟩ ?_
    rintro k2 us2 r2 w5 I2 μ2 hgo2 ⟨j, hj, rfl, f5, hT5⟩
    have hG5 := hG4.fr f5 (fun hk => (hsep _ (by simp [hk])).2 rfl)
    refine ⟨_, _, _, _, _, _, _, _, _, _, _, rfl, cond_d (fun h2 => ?_) (fun h2 => ?_)⟩
    · have hj4 : j < 4 := by omega
      have hm4 := Nat.mod_lt (i % 4 + j) (show 4 > 0 by omega)
      have hi4 : i / 4 < 4 := by omega
      have ea : IntKind.i64.wrap (((i % 4 : Nat) : Int) + (j : Int)) = ((i % 4 + j : Nat) : Int) := by rw [wrap64 (by omega) (by omega)]; omega
      have eb : Int.tmod ((i % 4 + j : Nat) : Int) 4 = (((i % 4 + j) % 4 : Nat) : Int) := rfl
      have ec : IntKind.i64.wrap (4 * ((i / 4 : Nat) : Int)) = ((4 * (i / 4) : Nat) : Int) := by rw [wrap64 (by omega) (by omega)]; omega
      have ed : IntKind.i64.wrap (((4 * (i / 4) : Nat) : Int) + (((i % 4 + j) % 4 : Nat) : Int)) = ((4 * (i / 4) + (i % 4 + j) % 4 : Nat) : Int) := by rw [wrap64 (by omega) (by omega)]; omega
      have h16 : 4 * (i / 4) + (i % 4 + j) % 4 < 16 := by omega
      rw [ea, eb, ec, ed]
      refine ⟨_, PuIx (n := 4) (by kernel_rfl) (by omega) (by omega) (by rw [Int.toNat_natCast]; exact flist_get hj4), _, ixA1 (n := 16) (by kernel_rfl) (by omega) (by omega), ?_⟩
      rw [Int.toNat_natCast, Nat.zero_add]
      refine ⟨_, Ld.blk (by kernel_rfl) hG5 h16 (by have := hg3 _ h16; rwa [Nat.zero_add] at this), ?_⟩
      refine hg j _ w5 _ hj4 hT5 fun w6 f6 hT6 => ⟨_, rfl, ?_⟩
      rw [xor8, wrap64 (n := (j : Int) + 1) (by omega) (by omega)]
      exact hgo2 _ _ _ (k2 - 1) (by omega) ⟨j + 1, by omega, rfl, f5.trans f6 (fun _ h => .inl h), hT6⟩
    · have hj4 : j = 4 := by omega
      subst hj4
      unfold aes_block_columns_j1
      refine ⟨_, rfl, _, ixA1 (n := 16) (by kernel_rfl) (by omega) (by omega), ?_⟩
      rw [Int.toNat_natCast, Nat.zero_add]
      refine Sto.blk (by kernel_rfl) (hB.fr f5 hbl) hi16 rfl rfl fun w6 f6 hB6 s6 => ?_
      have fA : Fr (b :: l) w3 w6 := (f4.trans f5 (fun y hy => .inl (by simp [hy]))).trans f6 (fun y hy => .inl (by simp at hy; simp [hy]))
      refine hgo _ _ _ (k - 1) (by omega) ⟨i + 1, by omega, by rw [wrap64 (by omega) (by omega)]; rfl, fA, hTf _ _ hT5 f6, _, hB6, fun j hj => ?_⟩
      rw [Nat.zero_add]
      show _ = vb (if j < i + 1 then acols g x j else x j)
      by_cases hji : j = i
      · subst hji; rw [upd_same, if_pos (by omega)]; rfl
      · rw [Go.Fw.upd_ne _ _ _ hji]
        have := hf j hj
        rw [Nat.zero_add] at this
        rw [this]
        show vb (if j < i then acols g x j else x j) = _
        by_cases hj2 : j < i
        · rw [if_pos hj2, if_pos (by omega)]
        · rw [if_neg hj2, if_neg (by omega)]
  · have hi16 : i = 16 := by omega
    subst hi16
    refine h w4 (fn.after f4) hT4 ⟨f, hB, fun j hj => ?_⟩
    rw [hf j hj]
    show vb (if j < 16 then acols g x j else x j) = _
    rw [if_pos hj]
end Go.Sh
end

section
namespace Go.Sh
open Go Go.Fw Go.Proofs
set_option maxRecDepth 100000
set_option linter.unusedVariables false
theorem word_plus_c {w : World} {x y : Nat → UInt8} {K : Value → World → Prop} (h : ∀ w', Fr [] w w' → K (.agg ⟨blist 4 (fun j => x j ^^^ y j)⟩) w') : callF Tryz.prog F_aes_word_plus #[.agg ⟨blist 4 x⟩, .agg ⟨blist 4 y⟩] w K := by
  apply aes_word_plus_call
  unfold aes_word_plus
  refine newB fun w1 fx f1 hX hx s1 => ?_
  refine newB fun w2 fy f2 hY hy s2 => ?_
  refine newZ (s := 4) (by kernel_rfl) fun w3 fz f3 hZ s3 => ?_
  have hX3 := (hX.fr0 f2).fr0 f3
  have hY3 := hY.fr0 f3
  refine LoopS.ind (fun k us w' => ∃ i : Nat, i + k = 4 ∧ us = [.pointer (some ⟨w.heap.size, 0, none⟩), .pointer (some ⟨w1.heap.size, 0, none⟩), .pointer (some ⟨w2.heap.size, 0, none⟩), .int .i64 (i : Int)] ∧ Fr [w.heap.size] w3 w' ∧ ∃ f, Blk w' w.heap.size 4 f ∧ BAt f 0 4 (fun j => if j < i then x j ^^^ y j else x j)) 4
    ⟨0, rfl, rfl, Fr.refl _ _, fx, hX3, by simpa using hx⟩ ?_
  rintro k us r w4 I μ hgo ⟨i, hi, rfl, f4, f, hB, hf⟩
  refine ⟨_, _, _, _, rfl, cond_d (fun h1 => ?_) (fun h1 => ?_)⟩
  · have hi4 : i < 4 := by omega
    refine ⟨fun w' => w'.cell? ⟨w.heap.size, i, none⟩ = some (vb (x i)), Drw.intro fun w5 f5 s5 => ?_⟩
    have hB5 := hB.fr0 f5
    have hY5 := (hY3.fr f4 (by simp; omega)).fr0 f5
    have hfi : f i = vb (x i) := by
      have := hf i hi4
      rw [Nat.zero_add] at this
      rw [this]
      show vb (if i < i then x i ^^^ y i else x i) = _
      rw [if_neg (by omega)]
    have hc : w5.cell? ⟨w.heap.size, i, none⟩ = some (vb (x i)) := by rw [hB5.cell hi4, hfi]
    refine ⟨_, ixA1 (n := 4) (by kernel_rfl) (by omega) (by omega), _, ixA1 (n := 4) (by kernel_rfl) (by omega) (by omega), ?_⟩
    rw [Int.toNat_natCast, Nat.zero_add]
    refine ⟨_, ⟨hc, fun w' hw' => Ld.cell (by kernel_rfl) hw'⟩, _, Ld.blk (by kernel_rfl) hY5 hi4 (by have := hy i hi4; rwa [Nat.zero_add] at this), .inl rfl, _, ixA1 (n := 4) (by kernel_rfl) (by omega) (by omega), ?_⟩
    rw [Int.toNat_natCast, Nat.zero_add, xor8]
    refine Sto.blk (by kernel_rfl) hB5 hi4 rfl rfl fun w6 f6 hB6 s6 => ?_
    refine hgo _ _ _ (k - 1) (by omega) ⟨i + 1, by omega, by rw [wrap64 (by omega) (by omega)]; rfl, (f4.then f5).trans f6 (fun _ h => .inl h), _, hB6, fun j hj => ?_⟩
    rw [Nat.zero_add]
    show _ = vb (if j < i + 1 then x j ^^^ y j else x j)
    by_cases hji : j = i
    · subst hji; rw [upd_same, if_pos (by omega)]
    · rw [Go.Fw.upd_ne _ _ _ hji]
      have := hf j hj
      rw [Nat.zero_add] at this
      rw [this]
      show vb (if j < i then x j ^^^ y j else x j) = _
      by_cases hj2 : j < i
      · rw [if_pos hj2, if_pos (by omega)]
      · rw [if_neg hj2, if_neg (by omega)]
  · have hi4 : i = 4 := by omega
    subst hi4
    unfold aes_word_plus_j1
    have hf4 : BAt f 0 4 (fun j => x j ^^^ y j) := by
      intro j hj
      rw [hf j hj]
      show vb (if j < 4 then x j ^^^ y j else x j) = _
      rw [if_pos hj]
    refine ⟨_, LdA (m := 4) (by kernel_rfl) (by kernel_rfl) hB (Nat.le_refl 4) (blist 4 (fun j => x j ^^^ y j)) (blist_len _ _) hf4.ld, ?_⟩
    refine Sto.agg (by kernel_rfl) (blist_len 4 _) (hZ.fr f4 (by simp; omega)) (Nat.le_refl 4) blist_one fun w5 f5 hZ5 s5 => ?_
    refine ⟨_, _, rfl, LdA (m := 4) (by kernel_rfl) (by kernel_rfl) hZ5 (Nat.le_refl 4) (blist 4 (fun j => x j ^^^ y j)) (blist_len _ _) BAt.updN.ld, ?_⟩
    refine h w5 ?_
    have fA : Fr [] w w3 := (f1.then f2).then f3
    exact (fA.trans f4 (fun z hz => .inr (by simp at hz; omega))).trans f5 (fun z hz => .inr (by simp at hz; have := f1.size; have := f2.size; omega))
def Ciph (w : World) (c t : Nat) (F : List Nat) (ks : Nat → UInt8) (done : Int) : Prop :=
  ∃ f, Blk w c 178 f ∧ f 0 = .pointer (some ⟨t, 0, none⟩) ∧ BAt f 1 176 ks ∧ f 177 = .int .i64 done ∧ TabF w t [2, 3, 9, 11, 13, 14] F true ∧ c ∉ F ∧ ∀ k ∈ F, k < w.heap.size
theorem Ciph.fr {w w' : World} {c t : Nat} {F : List Nat} {ks : Nat → UInt8} {done : Int} {l : List Nat} (h : Ciph w c t F ks done) (hf : Fr l w w') (hc : c ∉ l) (hl : ∀ k ∈ l, k ∉ F) : Ciph w' c t F ks done := by
  obtain ⟨f, hB, h0, hk, hd, hT, hn, hF⟩ := h
  exact ⟨f, hB.fr hf hc, h0, hk, hd, hT.fr hf hl, hn, fun k hk => Nat.lt_of_lt_of_le (hF k hk) hf.size⟩
theorem Ciph.fr0 {w w' : World} {c t : Nat} {F : List Nat} {ks : Nat → UInt8} {done : Int} (h : Ciph w c t F ks done) (hf : Fr [] w w') : Ciph w' c t F ks done := h.fr hf (by simp) (by simp)
end Go.Sh
end

section
namespace Go.Sh
open Go Go.Fw Go.Proofs
set_option maxRecDepth 100000
set_option linter.unusedVariables false
def Eqn (n : Nat) (x y : Nat → UInt8) : Prop := ∀ j, j < n → x j = y j
def gF (f : Nat → UInt8) (j : Nat) (a : UInt8) : UInt8 := gmul a (f j)
def fE : Nat → UInt8 := fun j => if j = 0 then 2 else if j = 1 then 3 else 1
def kAt (ks : Nat → UInt8) (r : Nat) : Nat → UInt8 := fun j => ks (16 * r + j)
def xorF (x y : Nat → UInt8) : Nat → UInt8 := fun j => x j ^^^ y j
def encR (ks x : Nat → UInt8) : Nat → (Nat → UInt8)
  | 0 => xorF x (kAt ks 0)
  | r + 1 => xorF (if r + 1 < 10 then acols (gF fE) (arows 1 (fun j => gsign (encR ks x r j))) else arows 1 (fun j => gsign (encR ks x r j))) (kAt ks (r + 1))
def aenc (ks x : Nat → UInt8) : Nat → UInt8 := encR ks x 10
theorem csum_congr {g : Nat → UInt8 → UInt8} {x y : Nat → UInt8} (h : Eqn 16 x y) {k : Nat} (hk : k < 16) : ∀ m, csum g x k m = csum g y k m := by
  intro m
  induction m with
  | zero => rfl
  | succ m ih => unfold csum; rw [ih, h _ (by omega)]
theorem acols_congr {g : Nat → UInt8 → UInt8} {x y : Nat → UInt8} (h : Eqn 16 x y) : Eqn 16 (acols g x) (acols g y) := fun k hk => csum_congr h hk 4
theorem arows_congr {m : Nat} {x y : Nat → UInt8} (h : Eqn 16 x y) : Eqn 16 (arows m x) (arows m y) := fun k hk => h _ (Nat.mod_lt _ (by omega))
theorem xorF_congr {x y k : Nat → UInt8} (h : Eqn 16 x y) : Eqn 16 (xorF x k) (xorF y k) := fun j hj => by unfold xorF; rw [h j hj]
theorem csum4 (g : Nat → UInt8 → UInt8) (x : Nat → UInt8) (k : Nat) : acols g x k = g 0 (x (4 * (k / 4) + (k % 4 + 0) % 4)) ^^^ g 1 (x (4 * (k / 4) + (k % 4 + 1) % 4)) ^^^ g 2 (x (4 * (k / 4) + (k % 4 + 2) % 4)) ^^^ g 3 (x (4 * (k / 4) + (k % 4 + 3) % 4)) := by
  show (((0 ^^^ _) ^^^ _) ^^^ _) ^^^ _ = _
  rw [zero_xor8]
theorem Eqn.trans {n : Nat} {x y z : Nat → UInt8} (h : Eqn n x y) (k : Eqn n y z) : Eqn n x z := fun j hj => (h j hj).trans (k j hj)
theorem Eqn.symm {n : Nat} {x y : Nat → UInt8} (h : Eqn n x y) : Eqn n y x := fun j hj => (h j hj).symm
theorem Eqn.map {n : Nat} {x y : Nat → UInt8} (h : Eqn n x y) (g : UInt8 → UInt8) : Eqn n (fun j => g (x j)) (fun j => g (y j)) := fun j hj => by show g (x j) = g (y j); rw [h j hj]
end Go.Sh
end

section
namespace Go.Sh
open Go Go.Fw Go.Proofs
set_option maxRecDepth 100000
set_option linter.unusedVariables false
def bl (n : Nat) (x : Nat → UInt8) : List UInt8 := (List.range n).map x
def fl (xs : List UInt8) : Nat → UInt8 := fun j => xs.getD j 0
theorem bl_len (n : Nat) (x : Nat → UInt8) : (bl n x).length = n := by simp [bl]
theorem bl_getD {n : Nat} {x : Nat → UInt8} {j : Nat} (h : j < n) : (bl n x).getD j 0 = x j := by simp [bl, h]
theorem bl_get {n : Nat} {x : Nat → UInt8} {j : Nat} (h : j < n) : (bl n x)[j]? = some (x j) := by simp [bl, h]
theorem fl_bl (n : Nat) (x : Nat → UInt8) : Eqn n (fl (bl n x)) x := fun j hj => bl_getD hj
theorem bl_congr {n : Nat} {x y : Nat → UInt8} (h : Eqn n x y) : bl n x = bl n y := by
  unfold bl
  exact List.map_congr_left fun j hj => h j (by simpa using hj)
theorem bl_fl (xs : List UInt8) : bl xs.length (fl xs) = xs := by
  apply List.ext_getElem?
  intro j
  by_cases hj : j < xs.length
  · rw [bl_get hj, List.getElem?_eq_getElem hj]; unfold fl; rw [List.getD_eq_getElem?_getD, List.getElem?_eq_getElem hj]; rfl
  · rw [List.getElem?_eq_none (by rw [bl_len]; omega), List.getElem?_eq_none (by omega)]
theorem blist_bl (n : Nat) (x : Nat → UInt8) : blist n x = (bl n x).map vb := by simp [blist, bl]
theorem xs_bl {xs : List UInt8} {n : Nat} (h : xs.length = n) : xs = bl n (fl xs) := by subst h; exact (bl_fl xs).symm
def turnedF (x : Nat → UInt8) (r : Nat) : Nat → UInt8 := fun j => if j = 0 then gsign (x 1) ^^^ gpow 2 (UInt64.ofNat (r - 1)) else gsign (x ((j + 1) % 4))
def wnext (key : Nat → UInt8) (k : Nat) (ws : Nat → UInt8) : Nat → UInt8 := fun j =>
  if k < 4 then key (4 * k + j) else ws (4 * (k - 4) + j) ^^^ (if k % 4 = 0 then turnedF (fun i => ws (4 * (k - 1) + i)) (k / 4) j else ws (4 * (k - 1) + j))
def awords (key : Nat → UInt8) : Nat → (Nat → UInt8)
  | 0 => fun _ => 0
  | n + 1 => fun i => if i < 4 * n then awords key n i else wnext key n (awords key n) (i - 4 * n)
def akeys (key : Nat → UInt8) : Nat → UInt8 := awords key 44
theorem awords_le (key : Nat → UInt8) {n : Nat} : ∀ m, n ≤ m → ∀ i, i < 4 * n → awords key m i = awords key n i := by
  intro m
  induction m with
  | zero => intro h i hi; omega
  | succ m ih =>
    intro h i hi
    by_cases hm : n = m + 1
    · subst hm; rfl
    · show (if i < 4 * m then awords key m i else _) = _
      rw [if_pos (by omega), ih (by omega) i hi]
theorem wnext_congr {key : Nat → UInt8} {k : Nat} {ws ws' : Nat → UInt8} (h : ∀ i, i < 4 * k → ws i = ws' i) {j : Nat} (hj : j < 4) : wnext key k ws j = wnext key k ws' j := by
  unfold wnext
  by_cases hk : k < 4
  · rw [if_pos hk, if_pos hk]
  · rw [if_neg hk, if_neg hk, h _ (by omega), h (4 * (k - 1) + j) (by omega)]
    have : turnedF (fun i => ws (4 * (k - 1) + i)) (k / 4) j = turnedF (fun i => ws' (4 * (k - 1) + i)) (k / 4) j := by
      show (if j = 0 then gsign (ws (4 * (k - 1) + 1)) ^^^ gpow 2 (UInt64.ofNat (k / 4 - 1)) else gsign (ws (4 * (k - 1) + (j + 1) % 4))) = (if j = 0 then gsign (ws' (4 * (k - 1) + 1)) ^^^ gpow 2 (UInt64.ofNat (k / 4 - 1)) else gsign (ws' (4 * (k - 1) + (j + 1) % 4)))
      rw [h (4 * (k - 1) + 1) (by omega), h (4 * (k - 1) + (j + 1) % 4) (by omega)]
    rw [this]
theorem akeys_word (key : Nat → UInt8) {k j : Nat} (hk : k < 44) (hj : j < 4) : akeys key (4 * k + j) = wnext key k (akeys key) j := by
  unfold akeys
  rw [awords_le key (n := k + 1) 44 (by omega) _ (by omega)]
  show (if 4 * k + j < 4 * k then _ else wnext key k (awords key k) (4 * k + j - 4 * k)) = _
  rw [if_neg (by omega), show 4 * k + j - 4 * k = j by omega]
  exact wnext_congr (fun i hi => (awords_le key (n := k) 44 (by omega) i hi).symm) hj
def aencL (key xs : List UInt8) : List UInt8 := bl 16 (aenc (akeys (fl key)) (fl xs))
theorem aencL_len (key xs : List UInt8) : (aencL key xs).length = 16 := bl_len _ _
end Go.Sh
end

section
namespace Go.Sh
open Go Go.Fw Go.Proofs
set_option maxRecDepth 100000
set_option linter.unusedVariables false
theorem blist_at {n : Nat} {x : Nat → UInt8} {i : Nat} (h : i < n) {k : Int} (hk : k = (i : Int)) : (blist n x)[k.toNat]? = some (vb (x i)) := by subst hk; rw [Int.toNat_natCast]; exact blist_get h
def grewF (F F' : List Nat) (w w' : World) : Prop := (∀ k ∈ F, k ∈ F') ∧ ∀ k ∈ F', k ∈ F ∨ (w.heap.size ≤ k ∧ k < w'.heap.size)
theorem grewF.refl (F : List Nat) (w w' : World) : grewF F F w w' := ⟨fun _ h => h, fun _ h => .inl h⟩
theorem grewF.trans {F F' F'' : List Nat} {a b c : World} (h : grewF F F' a b) (k : grewF F' F'' b c) (h1 : a.heap.size ≤ b.heap.size) (h2 : b.heap.size ≤ c.heap.size) : grewF F F'' a c := by
  refine ⟨fun x hx => k.1 x (h.1 x hx), fun x hx => ?_⟩
  rcases k.2 x hx with hx | hx
  · rcases h.2 x hx with hx | hx
    · exact .inl hx
    · exact .inr ⟨hx.1, by omega⟩
  · exact .inr ⟨by omega, hx.2⟩
set_option maxHeartbeats 1000000 in
theorem turned_w_c {w : World} {c t : Nat} {f : Nat → Value} {F : List Nat} {m : Bool} {x : Nat → UInt8} {r : Nat} (hC : Blk w c 178 f) (h0 : f 0 = .pointer (some ⟨t, 0, none⟩)) (hT : TabF w t [2, 3, 9, 11, 13, 14] F m) (hcF : c ∉ F) (hFw : ∀ k ∈ F, k < w.heap.size) (hr1 : 1 ≤ r) (hr2 : r ≤ 20)
    {K : Value → World → Prop} (h : ∀ w' F', Fr [t] w w' → TabF w' t [2, 3, 9, 11, 13, 14] F' true → grewF F F' w w' → K (.agg ⟨blist 4 (turnedF x r)⟩) w') : callF Tryz.prog F_aes_Cipher_turned #[.pointer (some ⟨c, 0, none⟩), .agg ⟨blist 4 x⟩, .int .i64 (r : Int)] w K := by
  apply aes_Cipher_turned_call
  unfold aes_Cipher_turned
  have htw := hT.lt
  have hcw := hC.lt
  refine newB fun w1 fx f1 hX hx s1 => ?_
  refine newZ (s := 4) (by kernel_rfl) fun w2 fz f2 hZ s2 => ?_
  have hX2 := hX.fr0 f2
  have g : ∀ i, i < 4 → fx i = vb (x i) := fun i hi => by have := hx i hi; rwa [Nat.zero_add] at this
  refine ⟨_, ixA1 (n := 4) (by kernel_rfl) (by omega) (by omega), _, Ld.blk (by kernel_rfl) hX2 (by show 0 + 1 < 4; omega) (g 1 (by omega)), _, ixA1 (n := 4) (by kernel_rfl) (by omega) (by omega), _, Ld.blk (by kernel_rfl) hX2 (by show 0 + 2 < 4; omega) (g 2 (by omega)),
    _, ixA1 (n := 4) (by kernel_rfl) (by omega) (by omega), _, Ld.blk (by kernel_rfl) hX2 (by show 0 + 3 < 4; omega) (g 3 (by omega)), _, ixA1 (n := 4) (by kernel_rfl) (by omega) (by omega), _, Ld.blk (by kernel_rfl) hX2 (by show 0 + 0 < 4; omega) (g 0 (by omega)), ?_⟩
  refine newZ (s := 4) (by kernel_rfl) fun w3 fo f3 hO s3 => ?_
  obtain ⟨y, hy⟩ : ∃ y : Nat → UInt8, y = fun j => x ((j + 1) % 4) := ⟨_, rfl⟩
  have ey : (#[vb (x 1), vb (x 2), vb (x 3), vb (x 0)] : Array Value) = ⟨blist 4 y⟩ := by rw [hy]; rfl
  rw [ey]
  refine Sto.agg (by kernel_rfl) (blist_len 4 _) hO (Nat.le_refl 4) blist_one fun w4 f4 hO4 s4 => ?_
  refine ⟨_, LdA (m := 4) (by kernel_rfl) (by kernel_rfl) hO4 (Nat.le_refl 4) (blist 4 y) (blist_len _ _) BAt.updN.ld, ?_⟩
  have fn : Fr [] w w4 := ((f1.then f2).then f3).trans f4 (fun z hz => .inr (by simp at hz; have := f1.size; have := f2.size; omega))
  have n1 := f1.size; have n2 := f2.size; have n3 := f3.size; have n4 := fn.size
  have hZ4 := (hZ.fr0 f3).fr f4 (by simp; omega)
  refine LoopS.ind (fun k us w' => ∃ i : Nat, i + k = 4 ∧ us = [.pointer (some ⟨c, 0, none⟩), .int .i64 (r : Int), .pointer (some ⟨w1.heap.size, 0, none⟩), .pointer (some ⟨w2.heap.size, 0, none⟩), .agg ⟨blist 4 y⟩, .int .i64 (i : Int)] ∧ Fr [t, w2.heap.size] w4 w' ∧
      ∃ m' F', TabF w' t [2, 3, 9, 11, 13, 14] F' m' ∧ grewF F F' w4 w' ∧ (0 < i → m' = true) ∧ ∃ fo, Blk w' w2.heap.size 4 fo ∧ BAt fo 0 4 (fun j => if j < i then gsign (y j) else y j)) 4
    ⟨0, rfl, rfl, Fr.refl _ _, m, F, hT.fr0 fn, grewF.refl _ _ _, by omega, _, hO4, by simpa using BAt.updN⟩ ?_
  rintro k us rr w5 I μ hgo ⟨i, hi, rfl, f5, m', F', hT5, gF5, hm5, fo5, hO5, ho5⟩
  have nFx : ∀ z, w.heap.size ≤ z → z < w4.heap.size → z ∉ F' := fun z h1 h2 hk => by rcases gF5.2 _ hk with hk | hk; have := hFw _ hk; omega; omega
  have ntw : t ≠ w2.heap.size := by have := htw.1; omega
  have ncw : c ≠ w2.heap.size := by omega
  have nct : c ≠ t := fun h => hcF (h ▸ htw.2)
  have hC5 : Blk w5 c 178 f := (hC.fr0 fn).fr f5 (by simp; omega)
  refine ⟨_, _, _, _, _, _, rfl, cond_d (fun h1 => ?_) (fun h1 => ?_)⟩
  · have hi4 : i < 4 := by omega
    refine ⟨_, PuIx (n := 4) (by kernel_rfl) (by omega) (by omega) (blist_at hi4 rfl), _, rfl, ?_⟩
    rw [add_mk]
    refine ⟨_, Ld.blk (by kernel_rfl) hC5 (by omega) h0, ?_⟩
    refine SubF_c hT5 (y i) fun w6 F6 f6 hT6 g1 g2 g3 => ⟨_, rfl, _, ixA1 (n := 4) (by kernel_rfl) (by omega) (by omega), ?_⟩
    rw [Int.toNat_natCast, Nat.zero_add]
    have nF6 : w2.heap.size ∉ F6 := fun hk => by rcases g2 _ hk with hk | hk; exact nFx _ (by omega) (by omega) hk; have := f5.size; omega
    refine Sto.blk (by kernel_rfl) (hO5.fr f6 (by simp; omega)) hi4 rfl rfl fun w7 f7 hO7 s7 => ?_
    have hs6 := f6.size
    have hT7 := hT6.fr f7 (by simp; exact nF6)
    refine hgo _ _ _ (k - 1) (by omega) ⟨i + 1, by omega, by rw [wrap64 (by omega) (by omega)]; rfl, (f5.trans f6 (fun z hz => .inl (by simp at hz; simp [hz]))).trans f7 (fun z hz => .inl (by simp at hz; simp [hz])), true, F6, hT7, gF5.trans ⟨g1, fun z hz => ?_⟩ f5.size (by omega), fun _ => rfl, _, hO7, fun j hj => ?_⟩
    · rcases g2 z hz with hz | hz
      · exact .inl hz
      · exact .inr ⟨hz.1, by omega⟩
    · rw [Nat.zero_add]
      show _ = vb (if j < i + 1 then gsign (y j) else y j)
      by_cases hji : j = i
      · subst hji; rw [upd_same, if_pos (by omega)]
      · rw [Go.Fw.upd_ne _ _ _ hji]
        have := ho5 j hj
        rw [Nat.zero_add] at this
        rw [this]
        show vb (if j < i then gsign (y j) else y j) = _
        by_cases hj2 : j < i
        · rw [if_pos hj2, if_pos (by omega)]
        · rw [if_neg hj2, if_neg (by omega)]
  · have hi4 : i = 4 := by omega
    subst hi4
    have hm5 := hm5 (by omega)
    subst hm5
    unfold aes_Cipher_turned_j1
    have e0 : fo5 0 = vb (gsign (y 0)) := by have := ho5 0 (by omega); rw [Nat.zero_add] at this; exact this
    obtain ⟨s0, hs0⟩ : ∃ s, s = gsign (y 0) := ⟨_, rfl⟩
    rw [← hs0] at e0
    have er : IntKind.u64.wrap (IntKind.i64.wrap ((r : Int) - 1)) = ((UInt64.ofNat (r - 1)).toNat : Int) := by
      have e1 : (r : Int) - 1 = ((r - 1 : Nat) : Int) := by omega
      have e2 : (UInt64.ofNat (r - 1)).toNat = r - 1 := by simp; omega
      rw [e1, wrap64 (by omega) (by omega), wrapu64 (by omega) (by omega), e2]
    rw [er]
    obtain ⟨p0, hp0⟩ : ∃ p, p = gpow 2 (UInt64.ofNat (r - 1)) := ⟨_, rfl⟩
    have hZ5 := hZ4.fr f5 (by simp; have := htw.1; omega)
    have nz : w1.heap.size ≠ w2.heap.size := by omega
    refine ⟨fun w' => w'.cell? ⟨w2.heap.size, 0, none⟩ = some (vb s0), Drw.intro fun w6 f6 s6 => ?_⟩
    have hO6 := hO5.fr0 f6
    have hc6 : w6.cell? ⟨w2.heap.size, 0, none⟩ = some (vb s0) := by rw [hO6.cell (by omega), e0]
    refine ⟨_, ixA1 (n := 4) (by kernel_rfl) (by omega) (by omega), _, ⟨hc6, fun w' hw' => Ld.cell (by kernel_rfl) hw'⟩, ?_⟩
    refine Pow_c 2 _ _ _ ?_
    rw [← hp0]
    refine ⟨_, rfl, .inl rfl, _, ixA1 (n := 4) (by kernel_rfl) (by omega) (by omega), ?_⟩
    rw [xor8]
    refine Sto.blk (by kernel_rfl) hO6 (by show 0 + 0 < 4; omega) rfl rfl fun w7 f7 hO7 s7 => ?_
    have hb7 : BAt (upd fo5 (0 + (0 : Int).toNat) (vb (s0 ^^^ p0))) 0 4 (turnedF x r) := by
      intro j hj
      unfold turnedF
      by_cases hj0 : j = 0
      · subst hj0
        rw [if_pos rfl, ← hp0]
        show upd fo5 0 _ 0 = _
        rw [upd_same, hs0, hy]
      · rw [if_neg hj0]
        show upd fo5 0 _ (0 + j) = _
        rw [Go.Fw.upd_ne _ _ _ (by omega), ho5 j hj]
        show vb (if j < 4 then gsign (y j) else y j) = _
        rw [if_pos hj, hy]
    refine ⟨_, LdA (m := 4) (by kernel_rfl) (by kernel_rfl) hO7 (Nat.le_refl 4) (blist 4 (turnedF x r)) (blist_len _ _) hb7.ld, ?_⟩
    refine Sto.agg (by kernel_rfl) (blist_len 4 _) ((hZ5.fr0 f6).fr f7 (by simp; omega)) (Nat.le_refl 4) blist_one fun w8 f8 hZ8 s8 => ?_
    refine ⟨_, _, rfl, LdA (m := 4) (by kernel_rfl) (by kernel_rfl) hZ8 (Nat.le_refl 4) (blist 4 (turnedF x r)) (blist_len _ _) BAt.updN.ld, ?_⟩
    have n5 := f5.size
    have fA : Fr [t] w w5 := (fn.mono (by simp)).trans f5 (fun z hz => by simp at hz; rcases hz with rfl | rfl; exact .inl (by simp); exact .inr (by omega))
    have fB : Fr [t] w w7 := (fA.then f6).trans f7 (fun z hz => .inr (by simp at hz; omega))
    have fC : Fr [t] w w8 := fB.trans f8 (fun z hz => .inr (by simp at hz; omega))
    have n6 := f6.size
    have n8 := f8.size
    have n7 := f7.size
    refine h w8 F' fC (((hT5.fr0 f6).fr f7 ?_).fr f8 ?_) ⟨gF5.1, fun z hz => ?_⟩
    · simp only [List.mem_singleton]; rintro z rfl; exact nFx _ (by omega) (by omega)
    · simp only [List.mem_singleton]; rintro z rfl; exact nFx _ (by omega) (by omega)
    · rcases gF5.2 z hz with hz | hz
      · exact .inl hz
      · exact .inr ⟨by omega, by omega⟩
end Go.Sh
end

section
namespace Go.Sh
open Go Go.Fw Go.Proofs
set_option maxRecDepth 100000
set_option linter.unusedVariables false
theorem row_get {w : World} {t : TypeId} (ht : sliceB Tryz.prog t 1 = true) {p : Option Addr} {xs : List UInt8} (h : Row w p (xs.map vb)) {l c i : Nat} (hl : l = xs.length) (hi : i < l) {k : IntKind} :
    ∃ a, IxA Tryz.prog t (.slice p l c) (.int k (i : Int)) a ∧ w.cell? a = some (vb (xs.getD i 0)) := by
  refine ixR ht h (by simpa using hl) (by omega) (by omega) ?_
  rw [Int.toNat_natCast, List.getElem?_map, List.getElem?_eq_getElem (by omega), List.getD_eq_getElem?_getD, List.getElem?_eq_getElem (by omega)]
  rfl
theorem list_eq_of {xs ys : List UInt8} (hl : xs.length = ys.length) (h : ∀ i, i < xs.length → xs.getD i 0 = ys.getD i 0) : xs = ys := by
  apply List.ext_getElem hl
  intro i h1 h2
  have := h i h1
  rwa [List.getD_eq_getElem?_getD, List.getD_eq_getElem?_getD, List.getElem?_eq_getElem h1, List.getElem?_eq_getElem h2] at this
theorem SameBytes_c {w : World} {p q : Option Addr} {l c m d : Nat} {xs ys : List UInt8} (hx : Row w p (xs.map vb)) (hl : l = xs.length) (hy : Row w q (ys.map vb)) (hm : m = ys.length) (h63 : l < 9223372036854775807) {K : Value → World → Prop}
    (h : ∀ w', Fr [] w w' → K (.bool (decide (xs = ys))) w') : callF Tryz.prog F_ref00_SameBytes #[.slice p l c, .slice q m d] w K := by
  apply ref00_SameBytes_call
  unfold ref00_SameBytes
  refine cond_ne (fun h1 => ?_) (fun h1 => ?_)
  · have : decide (xs = ys) = false := by simp; rintro rfl; omega
    rw [this] at h
    exact h w (Fr.refl _ _)
  · have hlm : l = m := by omega
    refine LoopS.ind (fun k us w' => ∃ i : Nat, i + k = l ∧ us = [.slice p l c, .slice q m d, .bool false, .int .i64 (i : Int)] ∧ Fr [] w w' ∧ ∀ j, j < i → xs.getD j 0 = ys.getD j 0) l ⟨0, by omega, rfl, Fr.refl _ _, by omega⟩ ?_
    rintro k us r w2 I μ hgo ⟨i, hi, rfl, f2, hs⟩
    refine ⟨_, _, _, _, _, _, _, _, rfl, cond_d (fun h2 => ?_) (fun h2 => ?_)⟩
    · obtain ⟨a, ha, hca⟩ := row_get (t := T_S_uint8) (by kernel_rfl) (hx.fr0 f2) (c := c) hl (i := i) (by omega) (k := .i64)
      obtain ⟨b, hb, hcb⟩ := row_get (t := T_S_uint8) (by kernel_rfl) (hy.fr0 f2) (c := d) hm (i := i) (by omega) (k := .i64)
      refine ⟨fun w' => w'.cell? a = some (vb (xs.getD i 0)), Drw.intro fun w3 f3 s3 => ?_⟩
      have hca3 := f3.cell hca (by simp)
      have hcb3 := f3.cell hcb (by simp)
      refine ⟨a, ha, b, hb, _, ⟨hca3, fun w' hw' => Ld.cell (by kernel_rfl) hw'⟩, _, Ld.cell (by kernel_rfl) hcb3, .inl rfl, ?_⟩
      rw [bne, beq8]
      refine cond_intro (fun h3 => ?_) (fun h3 => ?_)
      · have : decide (xs = ys) = false := by simp; rintro rfl; simp at h3
        rw [this] at h
        exact h w3 (f2.then f3)
      · rw [wrap64 (by omega) (by omega)]
        refine hgo _ _ _ (k - 1) (by omega) ⟨i + 1, by omega, rfl, f2.then f3, fun j hj => ?_⟩
        by_cases hji : j = i
        · subst hji; simpa using h3
        · exact hs j (by omega)
    · have : xs = ys := list_eq_of (by omega) fun j hj => hs j (by omega)
      rw [decide_eq_true this] at h
      exact h w2 f2
theorem CopyBytes_c {w : World} {p : Option Addr} {l c : Nat} {xs : List UInt8} (hx : Row w p (xs.map vb)) (hl : l = xs.length) (hlen : l ≤ 1073741824) {K : Value → World → Prop}
    (h : ∀ q cq w', Fr [] w w' → OwnS w' q l cq (xs.map vb) → (∀ x ∈ blks q, w.heap.size ≤ x) → K (.slice q l cq) w') : callF Tryz.prog F_ref00_CopyBytes #[.slice p l c] w K := by
  apply ref00_CopyBytes_call
  unfold ref00_CopyBytes
  refine ⟨_, _, _, Ef.new (cs := #[]) (v := .slice (some ⟨w.heap.size, 0, none⟩) 0 0) (e := T_uint8) (by kernel_rfl) fun w2 f2 hB s2 => ?_⟩
  have hO : OwnS w2 (some ⟨w.heap.size, 0, none⟩) 0 0 [] := ⟨rfl, .inr ⟨_, _, _, _, rfl, hB, by simp, by simp, by simp⟩⟩
  obtain ⟨q, cq, w3, he, hO3, hf, hcase⟩ := Ef.append (P := Tryz.prog) (t := T_S_uint8) (ty := T_S_uint8) (by kernel_rfl) hO (m := l) (d := c) (hx.fr0 f2) (by simpa using hl) (cells_vb xs) (by omega)
  rw [Nat.zero_add] at he hO3
  simp only [List.nil_append] at hO3
  refine ⟨_, _, _, _, he, h q cq w3 (Fr.news f2 hf (by simp [blks])) hO3 ?_⟩
  have := f2.size
  rcases hcase with ⟨rfl, _, _⟩ | ⟨rfl, _, _⟩ <;> simp only [blks, List.mem_singleton] <;> rintro x rfl <;> omega
theorem rows_get {w : World} {t : TypeId} (ht : sliceB Tryz.prog t 1 = true) {p : Option Addr} {rs : List (List UInt8)} (h : RowB w p rs) {l c i : Nat} (hl : l = rs.length) (hi : i < l) {k : IntKind} :
    ∃ a q d, IxA Tryz.prog t (.slice p l c) (.int k (i : Int)) a ∧ w.cell? a = some (.slice q (rs.getD i []).length d) ∧ Row w q ((rs.getD i []).map vb) ∧ (rs.getD i []).length ≤ d := by
  obtain ⟨vs, hR, hvl, hv⟩ := h
  have hi' : i < rs.length := by omega
  obtain ⟨v, hvi, q, d, rfl, hd, hq⟩ := hv i (rs.getD i []) (by rw [List.getD_eq_getElem?_getD, List.getElem?_eq_getElem hi']; rfl)
  obtain ⟨a, h1, h2⟩ := ixR ht hR (len := l) (cap := c) (k := k) (i := (i : Int)) (by omega) (by omega) (by omega) (by rw [Int.toNat_natCast]; exact hvi)
  exact ⟨a, q, d, h1, h2, hq, hd⟩
end Go.Sh
end

section
namespace Go.Sh
open Go Go.Fw Go.Proofs
set_option maxRecDepth 100000
set_option linter.unusedVariables false
section
variable {c t : Nat} {F : List Nat} {ks : Nat → UInt8} {d : Int}
theorem Ciph.lt {w : World} (h : Ciph w c t F ks d) : c < w.heap.size := by obtain ⟨f, hB, _⟩ := h; exact hB.lt
theorem turns_Sub {t : Nat} {F : List Nat} : Turns (.func (.func F_field_Tables_Sub) #[.pointer (some ⟨t, 0, none⟩)] #[]) (fun w => Ciph w c t F ks d) [] gsign := by
  intro a w K hT hk
  refine callV_in ?_
  obtain ⟨f, hB, h0, hks, hd, hTab, hn, hF⟩ := id hT
  show callF Tryz.prog F_field_Tables_Sub #[.pointer (some ⟨t, 0, none⟩), vb a] w K
  refine SubF_c hTab a fun w' F' f1 hT1 g1 g2 g3 => ?_
  obtain ⟨_, f0⟩ := g3 rfl
  exact hk w' f0 (hT.fr0 f0)
theorem times_c {w : World} (hT : Ciph w c t F ks d) (k : Int) (x a : UInt8) (hk : (k = -1 ∧ x = 1) ∨ ∃ n : Nat, k = (n : Int) ∧ ([2, 3, 9, 11, 13, 14] : List UInt8)[n]? = some x) {K : Value → World → Prop} (h : ∀ w', Fr [] w w' → Ciph w' c t F ks d → K (vb (gmul a x)) w') :
    callF Tryz.prog F_aes_Cipher_times #[.pointer (some ⟨c, 0, none⟩), .int .i64 k, vb a] w K := by
  apply aes_Cipher_times_call
  rcases hk with ⟨rfl, rfl⟩ | ⟨n, rfl, hx⟩
  · have := h w (Fr.refl _ _) hT
    rw [gmul_one] at this
    exact this
  · unfold aes_Cipher_times
    have e : (((n : Nat) : Int) == -1) = false := by rw [beq_eq_false_iff_ne]; omega
    rw [e]
    refine cond_f ⟨_, rfl, ?_⟩
    rw [add_mk]
    obtain ⟨f, hB, h0, hks, hd, hTab, hn, hF⟩ := id hT
    refine ⟨_, Ld.blk (by kernel_rfl) hB (by omega) h0, ?_⟩
    obtain ⟨g, hg⟩ : ∃ g, g = gmul a x := ⟨_, rfl⟩
    refine TimesF_c hTab n x a hx fun w' f1 hT1 => ?_
    have h2 := h w' f1 (hT.fr0 f1)
    rw [← hg] at h2 ⊢
    exact ⟨_, _, rfl, h2⟩
def facE : Nat → Int := fun j => if j = 0 then 0 else if j = 1 then 1 else -1
theorem turnsF_times (fac : Nat → Int) (g : Nat → UInt8) (hf : ∀ j, j < 4 → (fac j = -1 ∧ g j = 1) ∨ ∃ n : Nat, fac j = (n : Int) ∧ ([2, 3, 9, 11, 13, 14] : List UInt8)[n]? = some (g j)) :
    TurnsF (.func (.func F_aes_Cipher_times) #[.pointer (some ⟨c, 0, none⟩)] #[]) (fun w => Ciph w c t F ks d) [] (gF g) fac := by
  intro j a w K hj hT hk
  refine callV_in ?_
  show callF Tryz.prog F_aes_Cipher_times #[.pointer (some ⟨c, 0, none⟩), .int .i64 (fac j), vb a] w K
  exact times_c hT _ (g j) a (hf j hj) fun w' f1 hT1 => hk w' f1 hT1
theorem facE_ok : ∀ j, j < 4 → (facE j = -1 ∧ fE j = 1) ∨ ∃ n : Nat, facE j = (n : Int) ∧ ([2, 3, 9, 11, 13, 14] : List UInt8)[n]? = some (fE j) := by
  intro j hj
  rcases (by omega : j = 0 ∨ j = 1 ∨ j = 2 ∨ j = 3) with rfl | rfl | rfl | rfl
  · exact .inr ⟨0, rfl, rfl⟩
  · exact .inr ⟨1, rfl, rfl⟩
  · exact .inl ⟨rfl, rfl⟩
  · exact .inl ⟨rfl, rfl⟩
theorem ldKey {w : World} {f : Nat → Value} (hB : Blk w c 178 f) (hks : BAt f 1 176 ks) {r : Nat} (hr : r < 11) : IxA Tryz.prog T_A11_aes_block (.pointer (some ⟨c, 0 + 1, none⟩)) (.int .i64 (r : Int)) ⟨c, 1 + r * 16, none⟩ ∧ Ld Tryz.prog T_aes_block (.pointer (some ⟨c, 1 + r * 16, none⟩)) w (.agg ⟨blist 16 (kAt ks r)⟩) := by
  refine ⟨ixA (n := 11) (s := 16) (by kernel_rfl) (by omega) (by omega), LdA (m := 16) (by kernel_rfl) (by kernel_rfl) hB (by omega) (blist 16 (kAt ks r)) (blist_len _ _) ?_⟩
  have : BAt f (1 + r * 16) 16 (kAt ks r) := by
    intro j hj
    have := hks (r * 16 + j) (by omega)
    rw [show 1 + r * 16 + j = 1 + (r * 16 + j) by omega, this]
    unfold kAt
    rw [Nat.mul_comm]
  exact this.ld
theorem Row.some {w : World} {p : Option Addr} {xs : List UInt8} (h : Row w p (xs.map vb)) (h0 : 0 < xs.length) : ∃ b o, p = some ⟨b, o, none⟩ ∧ ∀ j, j < xs.length → w.cell? ⟨b, o + j, none⟩ = some (vb (fl xs j)) := by
  rcases h with h | ⟨b, o, rfl, h⟩
  · simp at h; subst h; simp at h0
  · refine ⟨b, o, rfl, fun j hj => h j _ ?_⟩
    rw [List.getElem?_map, List.getElem?_eq_getElem hj]
    unfold fl
    rw [List.getD_eq_getElem?_getD, List.getElem?_eq_getElem hj]
    rfl
theorem LdRow {P : Program} {t : TypeId} {m : Nat} (ht : res P (isAgg t) = some true) (hs : res P (sizeOf t) = some m) {w : World} {p : Option Addr} {xs : List UInt8} (h : Row w p (xs.map vb)) (h0 : 0 < m) (hm : m ≤ xs.length) : Ld P t (.pointer p) w (.agg ⟨blist m (fl xs)⟩) := by
  obtain ⟨b, o, rfl, hc⟩ := Row.some h (by omega)
  refine Ld.agg ht hs (blist_len _ _) fun j v hj => ?_
  have hlt := (List.getElem?_eq_some_iff.1 hj).1
  rw [blist_len] at hlt
  rw [blist_get hlt] at hj
  rw [add_mk, hc j (by omega)]
  exact hj
theorem Bk.own {w : World} {b : Nat} {x : Nat → UInt8} (h : Bk w b x) : OwnS w (some ⟨b, 0, none⟩) 16 16 ((bl 16 x).map vb) := by
  obtain ⟨f, hB, hx⟩ := h
  refine ⟨by simp [bl_len], .inr ⟨b, 0, 16, f, rfl, hB, by omega, by omega, fun j v hj => ?_⟩⟩
  rw [← blist_bl] at hj
  exact hx.ld j v hj
set_option maxHeartbeats 1000000 in
theorem Encrypt_c {w : World} (hC : Ciph w c t F ks d) (hd0 : 0 ≤ d) (hd : d < 1000000000000) {p : Option Addr} {l cap : Nat} {xs : List UInt8} (hx : Row w p (xs.map vb)) (hl : l = xs.length) (h16 : xs.length = 16) (hpc : c ∉ blks p) {K : Value → World → Prop}
    (h : ∀ b w', Fr [c] w w' → Ciph w' c t F ks (d + 1) → Bk w' b (aenc ks (fl xs)) → w.heap.size ≤ b → K (.tuple #[.slice (some ⟨b, 0, none⟩) 16 16, .int .i64 0]) w') :
    callF Tryz.prog F_aes_Cipher_Encrypt #[.pointer (some ⟨c, 0, none⟩), .slice p l cap] w K := by
  apply aes_Cipher_Encrypt_call
  unfold aes_Cipher_Encrypt
  refine cond_ne (fun h1 => by omega) (fun h1 => ?_)
  obtain ⟨f, hB, h0, hks, hdone, hTab, hn, hF⟩ := id hC
  refine ⟨_, rfl, ?_⟩
  rw [add_mk]
  refine sync_atomic_Int64_Add_c hB (by omega) hdone fun w1 f1 hB1 s1 => ⟨_, rfl, ?_⟩
  rw [wrap64 (by omega) (by omega)] at hB1
  have hC1 : Ciph w1 c t F ks (d + 1) := ⟨_, hB1, by rw [upd_ne _ _ _ (by omega)]; exact h0, BAt.upd_ne hks (by omega), upd_same _ _ _, hTab.fr f1 (by simpa using hn), hn, fun k hk => by have := hF k hk; omega⟩
  refine ⟨p, PuArr (n := 16) (s := 1) (by kernel_rfl) (by omega), ?_⟩
  have hx1 : Row w1 p (xs.map vb) := Row.cells_fr hx f1 (fun k hk => by simp only [List.mem_singleton]; rintro rfl; exact hpc hk)
  refine ⟨_, LdRow (m := 16) (by kernel_rfl) (by kernel_rfl) hx1 (by omega) (by omega), ?_⟩
  refine newZ (s := 16) (by kernel_rfl) fun w2 g0 f2 hG s2 => ?_
  refine Sto.agg (by kernel_rfl) (blist_len 16 _) hG (Nat.le_refl 16) blist_one fun w3 f3 hG3 s3 => ?_
  have hcw := hC.lt
  have n1 := f1.size
  have hsep : ∀ k, k ∈ F → k < w1.heap.size := fun k hk => by have := hF k hk; omega
  have hC3 : Ciph w3 c t F ks (d + 1) := (hC1.fr0 f2).fr f3 (by simp; omega) (by simp only [List.mem_singleton]; rintro k rfl hk; have := hsep _ hk; omega)
  have hbc : w1.heap.size ≠ c := by omega
  obtain ⟨f', hB3, h03, hks3, hd3, _⟩ := id hC3
  obtain ⟨ix0, ld0⟩ := ldKey hB3 hks3 (r := 0) (by omega)
  refine ⟨_, rfl, _, by rw [add_mk]; exact ix0, _, ld0, ?_⟩
  refine block_add_c (y := kAt ks 0) (⟨_, hG3, BAt.updN⟩ : Bk w3 w1.heap.size (fl xs)) fun w4 f4 hb4 => ⟨rfl, ?_⟩
  have stays : ∀ {a b : World}, Fr [w1.heap.size] a b → Ciph a c t F ks (d + 1) → Ciph b c t F ks (d + 1) := fun {a b} fr hc => hc.fr fr (by simp; omega) (by simp only [List.mem_singleton]; rintro k rfl hk; have := hsep _ hk; omega)
  have hC4 := stays f4 hC3
  have fA : Fr [c] w w4 := ((f1.then f2).trans f3 (fun z hz => .inr (by simp at hz; omega))).trans f4 (fun z hz => .inr (by simp at hz; omega))
  refine LoopS.ind (fun k us w' => ∃ r : Nat, r + k = 10 ∧ us = [.pointer (some ⟨c, 0, none⟩), .slice none 0 0, .int .i64 0, .pointer (some ⟨w1.heap.size, 0, none⟩), .int .i64 ((r + 1 : Nat) : Int)] ∧ Fr [c] w w' ∧ Ciph w' c t F ks (d + 1) ∧ Bk w' w1.heap.size (encR ks (fl xs) r)) 10
    ⟨0, rfl, rfl, fA, hC4, hb4⟩ ?_
  rintro k us rr w5 I μ hgo ⟨r, hr, rfl, f5, hC5, hb5⟩
  obtain ⟨y, hy⟩ : ∃ y, y = encR ks (fl xs) r := ⟨_, rfl⟩
  refine ⟨_, _, _, _, _, _, _, rfl, cond_d (fun h2 => ?_) (fun h2 => ?_)⟩
  · obtain ⟨f5', hB5, h05, hks5, hd5, _⟩ := id hC5
    refine ⟨_, rfl, ?_⟩
    rw [add_mk]
    refine ⟨_, Ld.blk (by kernel_rfl) hB5 (by omega) h05, ?_⟩
    rw [← hy] at hb5
    refine block_each_c hb5 hC5 turns_Sub (by simp) (fun a b ha fr => stays fr ha) fun w6 f6 hC6 hb6 => ⟨rfl, ?_⟩
    refine block_rows_c (m := 1) hb6 (by omega) fun w7 f7 hb7 => ⟨rfl, ?_⟩
    have hC7 := stays f7 hC6
    have f57 : Fr [c] w w7 := (f5.trans f6 (fun z hz => .inr (by simp at hz; omega))).trans f7 (fun z hz => .inr (by simp at hz; omega))
    have fin : ∀ w8 z, Fr [c] w w8 → Ciph w8 c t F ks (d + 1) → Bk w8 w1.heap.size z → xorF z (kAt ks (r + 1)) = encR ks (fl xs) (r + 1) →
        aes_Cipher_Encrypt_j1 I μ [.pointer (some ⟨c, 0, none⟩), .slice none 0 0, .int .i64 0, .pointer (some ⟨w1.heap.size, 0, none⟩), .int .i64 ((r + 1 : Nat) : Int)] w5 (some ⟨c, 0, none⟩) none 0 0 0 ⟨w1.heap.size, 0, none⟩ ((r + 1 : Nat) : Int) w8 K := by
      intro w8 z f8 hC8 hb8 hz
      unfold aes_Cipher_Encrypt_j1
      obtain ⟨f8', hB8, h08, hks8, hd8, _⟩ := id hC8
      obtain ⟨ix8, ld8⟩ := ldKey hB8 hks8 (r := r + 1) (by omega)
      refine ⟨_, rfl, _, by rw [add_mk]; exact ix8, _, ld8, ?_⟩
      refine block_add_c (y := kAt ks (r + 1)) hb8 fun w9 f9 hb9 => ⟨rfl, ?_⟩
      rw [wrap64 (by omega) (by omega)]
      refine hgo _ _ _ (k - 1) (by omega) ⟨r + 1, by omega, rfl, f8.trans f9 (fun z hz => .inr (by simp at hz; omega)), stays f9 hC8, ?_⟩
      rw [← hz]
      exact hb9
    refine cond_d (fun h3 => ?_) (fun h3 => ?_)
    · have hr9 : r + 1 < 10 := by omega
      refine block_columns_c (fac := facE) (g := gF fE) hb7 hC7 (turnsF_times facE fE facE_ok) (by simp) (by simp) (fun a b ha fr => stays fr ha) fun w8 f8 hC8 hb8 => ⟨rfl, ?_⟩
      refine fin w8 _ (f57.trans f8 (fun z hz => .inr (by simp at hz; omega))) hC8 hb8 ?_
      show _ = xorF (if r + 1 < 10 then _ else _) _
      rw [if_pos hr9, hy]
    · have hr9 : ¬ r + 1 < 10 := by omega
      refine fin w7 _ f57 hC7 hb7 ?_
      show _ = xorF (if r + 1 < 10 then _ else _) _
      rw [if_neg hr9, hy]
  · have hr10 : r = 10 := by omega
    subst hr10
    refine ⟨_, _, _, PuSlA (n := 16) (s := 1) (kl := .i64) (kh := .i64) (lo := none) (hi := none) (by kernel_rfl) (by simp) (by simp) (by simp), ?_⟩
    exact h w1.heap.size w5 f5 hC5 hb5 (by omega)
end
end Go.Sh
end

section
namespace Go.Sh
open Go Go.Fw Go.Proofs
set_option maxRecDepth 100000
set_option linter.unusedVariables false
section
variable {c t : Nat} {F : List Nat} {ks : Nat → UInt8} {d : Int}
theorem blist_add (m n : Nat) (x : Nat → UInt8) : blist (m + n) x = blist m x ++ blist n (fun j => x (m + j)) := by
  unfold blist
  rw [List.range_add, List.map_append, List.map_map]
  rfl
theorem blist_part {n s i : Nat} {x : Nat → UInt8} (h : (i + 1) * s ≤ n) : ((blist n x).drop (i * s)).take s = blist s (fun j => x (i * s + j)) := by
  have h1 : (i + 1) * s = i * s + s := Nat.succ_mul i s
  obtain ⟨r, rfl⟩ := Nat.exists_eq_add_of_le (show i * s + s ≤ n by omega)
  rw [Nat.add_assoc, blist_add, List.drop_append_of_le_length (by rw [blist_len]; exact Nat.le_refl _), List.drop_eq_nil_of_le (by rw [blist_len]; exact Nat.le_refl _), List.nil_append, blist_add, List.take_append_of_le_length (by rw [blist_len]; exact Nat.le_refl _), List.take_of_length_le (by rw [blist_len]; exact Nat.le_refl _)]
end
end Go.Sh
end

section
namespace Go.Sh
open Go Go.Fw Go.Proofs
set_option maxRecDepth 100000
set_option linter.unusedVariables false
theorem BAt.snoc {f : Nat → Value} {o n m : Nat} {x y : Nat → UInt8} (h : BAt f o n x) (hy : ∀ j, j < m → y j = x (n + j)) : BAt (Go.Fw.updN f (o + n) (blist m y)) o (n + m) x := by
  intro j hj
  by_cases hjn : j < n
  · unfold Go.Fw.updN
    rw [dif_neg (by omega)]
    exact h j hjn
  · have := (BAt.updN (f := f) (o := o + n) (n := m) (x := y)) (j - n) (by omega)
    rw [show o + n + (j - n) = o + j by omega, hy _ (by omega), show n + (j - n) = j by omega] at this
    exact this
theorem updN_out {f : Nat → Value} {o m : Nat} {y : Nat → UInt8} {i : Nat} (h : i < o ∨ o + m ≤ i) : Go.Fw.updN f o (blist m y) i = f i := by
  unfold Go.Fw.updN
  rw [dif_neg (by rw [blist_len]; omega)]
theorem fl_drop (xs : List UInt8) (k j : Nat) : fl (xs.drop k) j = fl xs (k + j) := by
  unfold fl
  simp [List.getD_eq_getElem?_getD]
theorem New_bad_c {w : World} {p : Option Addr} {l cap : Nat} (h : (l : Int) ≠ 16) {K : Value → World → Prop} (hk : K (.tuple #[.pointer none, .int .i64 11]) w) : callF Tryz.prog F_aes_New #[.slice p l cap] w K := by
  apply aes_New_call
  unfold aes_New
  exact cond_ne (fun _ => hk) (fun h1 => absurd h1 h)
set_option maxHeartbeats 2000000 in
theorem aesNew_c {w : World} {p : Option Addr} {l cap : Nat} {xs : List UInt8} (hx : Row w p (xs.map vb)) (hl : l = xs.length) (h16 : xs.length = 16) (hcap : xs.length ≤ cap) {K : Value → World → Prop}
    (h : ∀ c t F w', Fr [] w w' → Ciph w' c t F (akeys (fl xs)) 0 → (∀ k ∈ F, w.heap.size ≤ k) → w.heap.size ≤ c → K (.tuple #[.pointer (some ⟨c, 0, none⟩), .int .i64 0]) w') : callF Tryz.prog F_aes_New #[.slice p l cap] w K := by
  apply aes_New_call
  unfold aes_New
  refine cond_ne (fun h1 => by omega) (fun h1 => ?_)
  refine ⟨_, _, _, Ef.new (v := .slice (some ⟨w.heap.size, 0, none⟩) 6 6) (cs := (([2, 3, 9, 11, 13, 14] : List UInt8).map vb).toArray) (e := T_uint8) (by kernel_rfl) fun w1 f1 hB1 s1 => ?_⟩
  refine NewF_c (bl := [2, 3, 9, 11, 13, 14]) hB1.rowL rfl (by decide) fun t F w2 f2 hT2 hF2 => ⟨_, rfl, New.intro fun w3 f3 hC3 s3 => ?_⟩
  obtain ⟨fc, hfc⟩ : ∃ fc : Nat → Value, Blk w3 w2.heap.size 178 fc ∧ fc 0 = .pointer (some ⟨t, 0, none⟩) ∧ fc 177 = .int .i64 0 := ⟨_, hC3, rfl, rfl⟩
  clear hC3
  obtain ⟨hC3, hc0, hc177⟩ := hfc
  refine newZ (s := 176) (by kernel_rfl) fun w4 fz f4 hW4 s4 => ?_
  have n1 := f1.size; have n2 := f2.size; have n3 := f3.size; have n4 := f4.size
  have hT4 := (hT2.fr0 f3).fr0 f4
  have htF := hT4.lt
  have hC4 := hC3.fr0 f4
  have f04 : Fr [] w w4 := ((f1.then f2).then f3).then f4
  have hF4 : ∀ k ∈ F, w.heap.size ≤ k ∧ k < w2.heap.size := fun k hk => ⟨by have := hF2 k hk; omega, (hF2 k hk).2⟩
  have ht2 := hF4 t htF.2
  refine LoopS.ind (fun k us w' => ∃ i : Nat, i + k = 44 ∧ us = [.slice p l cap, .pointer none, .int .i64 0, .pointer (some ⟨w2.heap.size, 0, none⟩), .pointer (some ⟨w3.heap.size, 0, none⟩), .int .i64 (i : Int)] ∧ Fr [t, w3.heap.size] w4 w' ∧
      ∃ m' F', TabF w' t [2, 3, 9, 11, 13, 14] F' m' ∧ grewF F F' w4 w' ∧ (4 < i → m' = true) ∧ ∃ fw, Blk w' w3.heap.size 176 fw ∧ BAt fw 0 (4 * i) (akeys (fl xs))) 44
    ⟨0, rfl, rfl, Fr.refl _ _, false, F, hT4, grewF.refl _ _ _, by omega, _, hW4, fun j hj => by omega⟩ ?_
  rintro k us rr w5 I μ hgo ⟨i, hi, rfl, f5, m', F', hT5, gF5, hm5, fw, hW5, hw5⟩
  have n5 := f5.size
  have hC5 : Blk w5 w2.heap.size 178 fc := hC4.fr f5 (by simp; omega)
  have hFx : ∀ k ∈ F', (k < w2.heap.size ∧ w.heap.size ≤ k) ∨ w4.heap.size ≤ k := fun k hk => by
    rcases gF5.2 k hk with hk | hk
    · have := hF4 k hk; omega
    · omega
  have hFsz : ∀ k ∈ F', k < w5.heap.size := fun k hk => by
    rcases gF5.2 k hk with hk | hk
    · have := hF4 k hk; omega
    · omega
  have nW : w3.heap.size ∉ F' := fun hk => by have := hFx _ hk; omega
  have nC : w2.heap.size ∉ F' := fun hk => by have := hFx _ hk; omega
  refine ⟨_, _, _, _, _, _, _, _, rfl, cond_d (fun h1 => ?_) (fun h1 => ?_)⟩
  · have hi44 : i < 44 := by omega
    have inext : IntKind.i64.wrap ((i : Int) + 1) = ((i + 1 : Nat) : Int) := by rw [wrap64 (by omega) (by omega)]; rfl
    refine cond_d (fun h2 => ?_) (fun h2 => ?_)
    · have hi4 : i < 4 := by omega
      have hx5 : Row w5 p (xs.map vb) := Row.cells_fr hx (f04.trans f5 (fun z hz => by simp at hz; rcases hz with rfl | rfl; exact .inr (by omega); exact .inr (by omega))) (by simp)
      rw [wrap64 (by omega) (by omega)]
      refine ⟨_, _, _, PuSl (s := 1) (kl := .i64) (kh := .i64) (lo := some (4 * (i : Int))) (hi := none) (by kernel_rfl) (by show 0 ≤ 4 * (i : Int); omega) (by show 4 * (i : Int) ≤ (l : Int); omega) (by show (l : Int) ≤ (cap : Int); omega), ?_⟩
      have e4 : (4 * (i : Int)).toNat = 4 * i := by omega
      simp only [Option.getD, e4, Int.toNat_natCast]
      refine ⟨_, PuArr (n := 4) (s := 1) (by kernel_rfl) (by omega), ?_⟩
      have hxd : Row w5 (Go.Fw.partAt p cap (4 * i) 1) ((xs.drop (4 * i)).map vb) := by
        rw [List.map_drop]; exact hx5.part (by simpa using hcap)
      refine ⟨_, LdRow (m := 4) (by kernel_rfl) (by kernel_rfl) hxd (by omega) (by simp; omega), _, ixA (n := 44) (s := 4) (by kernel_rfl) (by omega) (by omega), ?_⟩
      rw [Int.toNat_natCast, Nat.zero_add]
      refine Sto.agg (by kernel_rfl) (blist_len 4 _) hW5 (by omega) blist_one fun w6 f6 hW6 s6 => ?_
      refine hgo _ _ _ (k - 1) (by omega) ⟨i + 1, by omega, by rw [inext], f5.trans f6 (fun z hz => .inl (by simp at hz; simp [hz])), m', F', hT5.fr f6 (by simpa using nW), gF5.trans (grewF.refl _ _ _) n5 (by omega), by omega, _, hW6, ?_⟩
      have := hw5.snoc (m := 4) (y := fl (xs.drop (4 * i))) (fun j hj => by
        rw [fl_drop, akeys_word _ hi44 hj]; unfold wnext; rw [if_pos hi4])
      rw [Nat.zero_add] at this
      rw [show i * 4 = 4 * i by omega]
      exact this
    · have hi4 : ¬ i < 4 := by omega
      have e1 : IntKind.i64.wrap ((i : Int) - 1) = ((i - 1 : Nat) : Int) := by rw [wrap64 (by omega) (by omega)]; omega
      have e4 : IntKind.i64.wrap ((i : Int) - 4) = ((i - 4 : Nat) : Int) := by rw [wrap64 (by omega) (by omega)]; omega
      rw [e1]
      refine ⟨_, ixA (n := 44) (s := 4) (by kernel_rfl) (by omega) (by omega), ?_⟩
      rw [Int.toNat_natCast, Nat.zero_add]
      have bAt : ∀ {g : Nat → Value} {n k : Nat}, BAt g 0 n (akeys (fl xs)) → k + 4 ≤ n → BAt g k 4 (fun j => akeys (fl xs) (k + j)) := by
        intro g n k hg hk j hj
        have := hg (k + j) (by omega)
        rwa [Nat.zero_add] at this
      have bw1 := bAt hw5 (k := (i - 1) * 4) (by omega)
      refine ⟨_, LdA (m := 4) (by kernel_rfl) (by kernel_rfl) hW5 (by omega) (blist 4 (fun j => akeys (fl xs) ((i - 1) * 4 + j))) (blist_len _ _) bw1.ld, ?_⟩
      refine newZ (s := 4) (by kernel_rfl) fun w6 g6 f6 hG s6 => ?_
      refine Sto.agg (by kernel_rfl) (blist_len 4 _) hG (Nat.le_refl 4) blist_one fun w7 f7 hG7 s7 => ?_
      have n6 := f6.size
      have f57 : Fr [] w5 w7 := f6.trans f7 (fun z hz => .inr (by simp at hz; omega))
      have n7 := f57.size
      have hw5f : ∀ {m'' F''} {w8 : World}, Fr [t, w5.heap.size] w7 w8 → TabF w8 t [2, 3, 9, 11, 13, 14] F'' m'' → grewF F' F'' w7 w8 → (4 < i + 1 → m'' = true) → ∀ {f8 : Nat → Value}, Blk w8 w5.heap.size 4 f8 → BAt f8 0 4 (fun j => if i % 4 = 0 then turnedF (fun j => akeys (fl xs) (4 * (i - 1) + j)) (i / 4) j else akeys (fl xs) (4 * (i - 1) + j)) →
          aes_New_j1 I μ [.slice p l cap, .pointer none, .int .i64 0, .pointer (some ⟨w2.heap.size, 0, none⟩), .pointer (some ⟨w3.heap.size, 0, none⟩), .int .i64 (i : Int)] w5 p l cap none 0 ⟨w2.heap.size, 0, none⟩ ⟨w3.heap.size, 0, none⟩ (i : Int) ⟨w5.heap.size, 0, none⟩ (i : Int) w8 K := by
        intro m'' F'' w8 f8 hT8 g8 hm8 fv8 hG8 hb8
        unfold aes_New_j1
        have n8 := f8.size
        have hW8 : Blk w8 w3.heap.size 176 fw := (hW5.fr0 f57).fr f8 (by simp; omega)
        have bw4 := bAt hw5 (k := (i - 4) * 4) (by omega)
        refine ⟨fun w' => Ld Tryz.prog T_aes_word (.pointer (some ⟨w3.heap.size, 0 + (i - 4) * 4, none⟩)) w' (.agg ⟨blist 4 (fun j => akeys (fl xs) ((i - 4) * 4 + j))⟩), Drw.intro fun w9 f9 s9 => ?_⟩
        rw [e4]
        refine ⟨_, ixA (n := 44) (s := 4) (by kernel_rfl) (by omega) (by omega), ⟨blist 4 (fun j => akeys (fl xs) ((i - 4) * 4 + j))⟩, ⟨?_, fun w' hw' => ?_⟩, _, LdA (m := 4) (by kernel_rfl) (by kernel_rfl) (hG8.fr0 f9) (Nat.le_refl 4) _ (blist_len 4 _) hb8.ld, .inl rfl, ?_⟩
        · rw [Nat.zero_add]
          exact LdA (m := 4) (by kernel_rfl) (by kernel_rfl) (hW8.fr0 f9) (by omega) (blist 4 (fun j => akeys (fl xs) ((i - 4) * 4 + j))) (blist_len _ _) bw4.ld
        · exact hw'
        · refine word_plus_c fun w10 f10 => ⟨_, rfl, _, ixA (n := 44) (s := 4) (by kernel_rfl) (by omega) (by omega), ?_⟩
          rw [Int.toNat_natCast, Nat.zero_add]
          have n9 := f9.size
          have n10 := f10.size
          have f810 := f9.then f10
          refine Sto.agg (by kernel_rfl) (blist_len 4 _) (hW8.fr0 f810) (by omega) blist_one fun w11 f11 hW11 s11 => ?_
          have hT10 := hT8.fr0 f810
          have nW' : w3.heap.size ∉ F'' := fun hk => by
            rcases g8.2 _ hk with hk | hk
            · exact nW hk
            · omega
          have f511 : Fr [t, w3.heap.size] w5 w11 := ((f57.mono (by simp)).trans f8 (fun z hz => by simp at hz; rcases hz with rfl | rfl; exact .inl (by simp); exact .inr (by omega))).trans f810 (by simp) |>.trans f11 (fun z hz => .inl (by simp at hz; simp [hz]))
          refine hgo _ _ _ (k - 1) (by omega) ⟨i + 1, by omega, by rw [inext], f5.trans f511 (fun z hz => .inl hz), m'', F'', hT10.fr f11 (by simpa using nW'), gF5.trans ⟨g8.1, fun z hz => ?_⟩ n5 (by omega), hm8, _, hW11, ?_⟩
          · rcases g8.2 z hz with hz | hz
            · exact .inl hz
            · exact .inr ⟨by omega, by omega⟩
          · have := hw5.snoc (m := 4) (y := fun j => akeys (fl xs) ((i - 4) * 4 + j) ^^^ (if i % 4 = 0 then turnedF (fun j => akeys (fl xs) (4 * (i - 1) + j)) (i / 4) j else akeys (fl xs) (4 * (i - 1) + j))) (fun j hj => by
              rw [akeys_word _ hi44 hj]; unfold wnext; rw [if_neg hi4, show (i - 4) * 4 = 4 * (i - 4) by omega])
            rw [Nat.zero_add] at this
            rw [show i * 4 = 4 * i by omega]
            exact this
      have hT7 := hT5.fr0 f57
      have em : Int.tmod (i : Int) 4 = ((i % 4 : Nat) : Int) := rfl
      have ed : IntKind.i64.wrap (Int.tdiv (i : Int) 4) = ((i / 4 : Nat) : Int) := by
        have : Int.tdiv (i : Int) 4 = ((i / 4 : Nat) : Int) := rfl
        rw [this]; exact wrap64 (by omega) (by omega)
      rw [em, ed]
      have hb7 : BAt (Go.Fw.updN g6 0 (blist 4 (fun j => akeys (fl xs) ((i - 1) * 4 + j)))) 0 4 (fun j => akeys (fl xs) ((i - 1) * 4 + j)) := BAt.updN
      refine cond_eq (fun h3 => ?_) (fun h3 => ?_)
      · have hm4 : i % 4 = 0 := by omega
        refine ⟨_, LdA (m := 4) (by kernel_rfl) (by kernel_rfl) hG7 (Nat.le_refl 4) _ (blist_len 4 _) hb7.ld, ?_⟩
        refine turned_w_c (hC5.fr0 f57) hc0 hT7 nC (fun k hk => by have := hFsz k hk; omega) (by omega) (by omega) fun w8 F8 f8 hT8 g8 => ⟨_, rfl, ?_⟩
        refine Sto.agg (by kernel_rfl) (blist_len 4 _) (hG7.fr f8 (by simp; have := hFsz _ hT5.lt.2; omega)) (Nat.le_refl 4) blist_one fun w9 f9 hG9 s9 => ?_
        have nG : w5.heap.size ∉ F8 := fun hk => by
          rcases g8.2 _ hk with hk | hk
          · have := hFsz _ hk; omega
          · omega
        refine hw5f ((f8.mono (l' := [t, w5.heap.size]) (by simp)).trans f9 (fun z hz => .inl (by simp at hz; simp [hz]))) (hT8.fr f9 (by simpa using nG)) ⟨g8.1, fun z hz => ?_⟩ (fun _ => rfl) hG9 (fun j hj => ?_)
        · rcases g8.2 z hz with hz | hz
          · exact .inl hz
          · exact .inr ⟨hz.1, by have := f9.size; omega⟩
        · have := BAt.updN (f := Go.Fw.updN g6 0 (blist 4 (fun j => akeys (fl xs) ((i - 1) * 4 + j)))) (o := 0) (n := 4) (x := turnedF (fun j => akeys (fl xs) ((i - 1) * 4 + j)) (i / 4)) j hj
          rw [this]
          show _ = vb (if i % 4 = 0 then _ else _)
          rw [if_pos hm4, show (i - 1) * 4 = 4 * (i - 1) by omega]
      · have hm4 : ¬ i % 4 = 0 := by omega
        refine hw5f (Fr.refl _ _) hT7 (grewF.refl _ _ _) (fun _ => hm5 (by omega)) hG7 (fun j hj => ?_)
        rw [hb7 j hj]
        show _ = vb (if i % 4 = 0 then _ else _)
        rw [if_neg hm4, show (i - 1) * 4 = 4 * (i - 1) by omega]
  · have hi44 : i = 44 := by omega
    subst hi44
    have hm5 := hm5 (by omega)
    subst hm5
    unfold aes_New_j2
    refine ⟨_, LdA (m := 176) (by kernel_rfl) (by kernel_rfl) hW5 (Nat.le_refl 176) (blist 176 (akeys (fl xs))) (blist_len _ _) hw5.ld, ?_⟩
    refine LoopS.ind (fun k us w' => ∃ i : Nat, i + k = 44 ∧ us = [.pointer none, .int .i64 0, .pointer (some ⟨w2.heap.size, 0, none⟩), .agg ⟨blist 176 (akeys (fl xs))⟩, .int .i64 (i : Int)] ∧ Fr [w2.heap.size] w5 w' ∧
        ∃ f, Blk w' w2.heap.size 178 f ∧ f 0 = .pointer (some ⟨t, 0, none⟩) ∧ BAt f 1 (4 * i) (akeys (fl xs)) ∧ f 177 = .int .i64 0) 44
      ⟨0, rfl, rfl, Fr.refl _ _, fc, hC5, hc0, fun j hj => by omega, hc177⟩ ?_
    rintro k2 us2 rr2 w6 I2 μ2 hgo2 ⟨i, hi2, rfl, f6, f, hC6, g0, gk, gd⟩
    have n6 := f6.size
    refine ⟨_, _, _, _, _, rfl, cond_d (fun h2 => ?_) (fun h2 => ?_)⟩
    · have hi44 : i < 44 := by omega
      refine ⟨_, PuIxA (n := 44) (s := 4) (by kernel_rfl) (by omega) (by omega), ?_⟩
      rw [Int.toNat_natCast, blist_part (n := 176) (s := 4) (i := i) (by omega)]
      refine newZ (s := 4) (by kernel_rfl) fun w7 g7 f7 hG s7 => ?_
      refine Sto.agg (by kernel_rfl) (blist_len 4 _) hG (Nat.le_refl 4) blist_one fun w8 f8 hG8 s8 => ?_
      refine Drw.intro fun w9 f9 s9 => ⟨_, rfl, ?_⟩
      have n7 := f7.size
      have f69 : Fr [] w6 w9 := (f7.trans f8 (fun z hz => .inr (by simp at hz; omega))).then f9
      have em : Int.tmod (i : Int) 4 = ((i % 4 : Nat) : Int) := rfl
      have ed : IntKind.i64.wrap (Int.tdiv (i : Int) 4) = ((i / 4 : Nat) : Int) := by
        have : Int.tdiv (i : Int) 4 = ((i / 4 : Nat) : Int) := rfl
        rw [this]; exact wrap64 (by omega) (by omega)
      rw [em, ed, add_mk, wrap64 (n := 4 * ((i % 4 : Nat) : Int)) (by omega) (by omega)]
      refine ⟨_, ixA (n := 11) (s := 16) (by kernel_rfl) (by omega) (by omega), ?_⟩
      rw [Int.toNat_natCast]
      refine ⟨_, _, _, PuSlA (n := 16) (s := 1) (kl := .i64) (kh := .i64) (lo := some (4 * ((i % 4 : Nat) : Int))) (hi := none) (by kernel_rfl) (by show 0 ≤ 4 * ((i % 4 : Nat) : Int); omega) (by show 4 * ((i % 4 : Nat) : Int) ≤ 16; omega) (by simp), ?_⟩
      refine ⟨_, _, _, PuSlA (n := 4) (s := 1) (kl := .i64) (kh := .i64) (lo := none) (hi := none) (by kernel_rfl) (by simp) (by simp) (by simp), ?_⟩
      have e4 : (4 * ((i % 4 : Nat) : Int)).toNat = 4 * (i % 4) := by omega
      simp only [Option.getD, e4]
      rw [partAt_some (by omega), partAt_some (by simp)]
      have hG9 := hG8.fr0 f9
      have hrow : Row w9 (some ⟨w6.heap.size, 0 + (0 : Int).toNat * 1, none⟩) (blist 4 (fun j => akeys (fl xs) (i * 4 + j))) := by
        refine hG9.row 0 _ fun j v hj => ⟨?_, BAt.updN.ld j v hj⟩
        have := (List.getElem?_eq_some_iff.1 hj).1
        rw [blist_len] at this
        omega
      obtain ⟨w10, he, f10, hC10, s10⟩ := Ef.copy (P := Tryz.prog) (t := T_S_uint8) (ty := T_int) (by kernel_rfl) (dl := ((16 : Int)).toNat - 4 * (i % 4)) (dc := 16 - 4 * (i % 4)) (o := 0 + 1 + i / 4 * 16 + 4 * (i % 4) * 1) (hC6.fr0 f69) hrow (m := ((4 : Int)).toNat - (0 : Int).toNat) (d := 4 - (0 : Int).toNat) (by rw [blist_len]; rfl) blist_one (by show _ + min 4 (16 - _) ≤ 178; omega)
      refine ⟨_, _, he, ?_⟩
      have hmin : min (((4 : Int)).toNat - (0 : Int).toNat) (((16 : Int)).toNat - 4 * (i % 4)) = 4 := by show min 4 (16 - 4 * (i % 4)) = 4; omega
      rw [hmin, List.take_of_length_le (by rw [blist_len]; exact Nat.le_refl _), show 0 + 1 + i / 4 * 16 + 4 * (i % 4) * 1 = 1 + 4 * i by omega] at hC10
      rw [wrap64 (n := (i : Int) + 1) (by omega) (by omega)]
      refine hgo2 _ _ _ (k2 - 1) (by omega) ⟨i + 1, by omega, rfl, f6.trans (f69.after f10) (fun z hz => .inl hz), _, hC10, ?_, gk.snoc (fun j hj => by rw [Nat.mul_comm]), ?_⟩
      · rw [updN_out (by omega)]; exact g0
      · rw [updN_out (by omega)]; exact gd
    · have hi44 : i = 44 := by omega
      subst hi44
      refine h w2.heap.size t F' w6 ((f04.trans f5 (fun z hz => by simp at hz; rcases hz with rfl | rfl; exact .inr (by omega); exact .inr (by omega))).trans f6 (fun z hz => by simp at hz; exact .inr (by omega))) ⟨f, hC6, g0, gk, gd, hT5.fr f6 (by simpa using nC), nC, fun k hk => by have := hFsz k hk; omega⟩ (fun k hk => ?_) (by omega)
      have := hFx k hk; omega
end Go.Sh
end

section
namespace Go.Sh
open Go Go.Fw Go.Proofs
set_option maxRecDepth 100000
set_option linter.unusedVariables false
def ORows (w : World) (p : Option Addr) (l c : Nat) (rs : List (List UInt8)) (lo hi : Nat) : Prop :=
  ∃ (vs : List Value) (q : Nat → Option Addr) (d : Nat → Nat), OwnS w p l c vs ∧ l = rs.length ∧ (∀ k ∈ blks p, lo ≤ k ∧ k < hi) ∧
    ∀ j, j < l → vs[j]? = some (.slice (q j) (rs.getD j []).length (d j)) ∧ OwnS w (q j) (rs.getD j []).length (d j) ((rs.getD j []).map vb) ∧ ∀ k ∈ blks (q j), lo ≤ k ∧ k < hi ∧ k ∉ blks p ∧ ∀ j', j' < j → k ∉ blks (q j')
theorem ORows.fr {w w' : World} {p : Option Addr} {l c : Nat} {rs : List (List UInt8)} {lo hi : Nat} {L : List Nat} (h : ORows w p l c rs lo hi) (hf : Fr L w w') (hl : ∀ k ∈ L, k < lo ∨ hi ≤ k) : ORows w' p l c rs lo hi := by
  obtain ⟨vs, q, d, hO, hlen, hp, hr⟩ := h
  refine ⟨vs, q, d, hO.fr hf (fun k hk hkL => by have := hp k hk; have := hl k hkL; omega), hlen, hp, fun j hj => ?_⟩
  obtain ⟨h1, h2, h3⟩ := hr j hj
  exact ⟨h1, h2.fr hf (fun k hk hkL => by have := h3 k hk; have := hl k hkL; omega), h3⟩
theorem ORows.fr0 {w w' : World} {p : Option Addr} {l c : Nat} {rs : List (List UInt8)} {lo hi : Nat} (h : ORows w p l c rs lo hi) (hf : Fr [] w w') : ORows w' p l c rs lo hi := h.fr hf (by simp)
theorem ORows.mono {w : World} {p : Option Addr} {l c : Nat} {rs : List (List UInt8)} {lo hi lo' hi' : Nat} (h : ORows w p l c rs lo hi) (h1 : lo' ≤ lo) (h2 : hi ≤ hi') : ORows w p l c rs lo' hi' := by
  obtain ⟨vs, q, d, hO, hlen, hp, hr⟩ := h
  refine ⟨vs, q, d, hO, hlen, fun k hk => by have := hp k hk; omega, fun j hj => ?_⟩
  obtain ⟨g1, g2, g3⟩ := hr j hj
  exact ⟨g1, g2, fun k hk => by have := g3 k hk; exact ⟨by omega, by omega, this.2.2⟩⟩
theorem ORows.rowB {w : World} {p : Option Addr} {l c : Nat} {rs : List (List UInt8)} {lo hi : Nat} (h : ORows w p l c rs lo hi) : RowB w p rs := by
  obtain ⟨vs, q, d, hO, hlen, hp, hr⟩ := h
  refine ⟨vs, hO.row, by have := hO.1; omega, fun j r hj => ?_⟩
  have hlt := (List.getElem?_eq_some_iff.1 hj).1
  obtain ⟨g1, g2, g3⟩ := hr j (by omega)
  have e : rs.getD j [] = r := by rw [List.getD_eq_getElem?_getD, hj]; rfl
  rw [e] at g1 g2
  exact ⟨_, g1, q j, d j, rfl, (by obtain ⟨hl, ⟨_, h0, h1⟩ | ⟨g, o, N, f, _, hB, hoc, hlc, hf⟩⟩ := g2 <;> omega), g2.row⟩
theorem ORows.nil (w : World) (lo hi : Nat) : ORows w none 0 0 [] lo hi := ⟨[], fun _ => none, fun _ => 0, OwnS.nil w, rfl, by simp [blks], by omega⟩
theorem ORows.push {w : World} {p : Option Addr} {l c : Nat} {rs : List (List UInt8)} {lo hi : Nat} (h : ORows w p l c rs lo hi) (hhi : hi ≤ w.heap.size) (hlo : lo ≤ hi) {q1 : Option Addr} {n1 d1 : Nat} {r : List UInt8} (hq : OwnS w q1 n1 d1 (r.map vb)) (hn1 : n1 = r.length) (hn : ∀ k ∈ blks q1, hi ≤ k)
    {q2 : Option Addr} {d2 : Nat} (hR : Row w q2 [.slice q1 n1 d1]) (hlen : l < 1073741824) :
    ∃ p' c' w', Ef Tryz.prog (Builtin.append_ #[T_S_S_uint8, T_S_S_uint8] T_S_S_uint8 #[.slice p l c, .slice q2 1 d2]) w (.slice p' (l + 1) c') w' ∧ ORows w' p' (l + 1) c' (rs ++ [r]) lo w'.heap.size ∧ Fr (blks p) w w' := by
  subst hn1
  obtain ⟨vs, q, d, hO, hl, hp, hr⟩ := h
  obtain ⟨p', c', w', he, hO', hf, hcase⟩ := Ef.append (P := Tryz.prog) (t := T_S_S_uint8) (ty := T_S_S_uint8) (by kernel_rfl) hO (m := 1) (d := d2) hR rfl (by simp; rfl) (by omega)
  have hs := hf.size
  have hqw := hq.lt
  have hvl := hO.1
  have hp' : ∀ k ∈ blks p', (lo ≤ k ∧ k < hi ∧ k ∈ blks p) ∨ (w.heap.size ≤ k ∧ k < w'.heap.size) := by
    rcases hcase with ⟨rfl, _, _⟩ | ⟨rfl, _, h3⟩
    · exact fun k hk => .inl ⟨(hp k hk).1, (hp k hk).2, hk⟩
    · intro k hk; simp only [blks, List.mem_singleton] at hk; subst hk; exact .inr ⟨by omega, by omega⟩
  refine ⟨p', c', w', he, ⟨vs ++ [.slice q1 r.length d1], fun j => if j < l then q j else q1, fun j => if j < l then d j else d1, hO', by simp [hl], fun k hk => by rcases hp' k hk with h | h <;> omega, fun j hj => ?_⟩, hf⟩
  by_cases hjl : j < l
  · obtain ⟨g1, g2, g3⟩ := hr j hjl
    have e : (rs ++ [r]).getD j [] = rs.getD j [] := by rw [List.getD_eq_getElem?_getD, List.getD_eq_getElem?_getD, List.getElem?_append_left (by omega)]
    have g2w := g2.lt
    simp only [hjl, if_true, e]
    refine ⟨by rw [List.getElem?_append_left (by omega)]; exact g1, g2.fr hf (fun k hk hkp => (g3 k hk).2.2.1 hkp), fun k hk => ?_⟩
    have := g3 k hk
    refine ⟨by omega, by omega, fun hkp => ?_, fun j' hj' => ?_⟩
    · rcases hp' k hkp with h | h
      · exact this.2.2.1 h.2.2
      · have := g2w k hk; omega
    · rw [if_pos (by omega)]; exact this.2.2.2 j' hj'
  · have hjl' : j = l := by omega
    subst hjl'
    have e : (rs ++ [r]).getD j [] = r := by rw [List.getD_eq_getElem?_getD, List.getElem?_append_right (by omega), hl]; simp
    simp only [hjl, if_false, e]
    refine ⟨by rw [List.getElem?_append_right (by omega)]; simp [← hvl], hq.fr hf (fun k hk hkp => by have := hn k hk; have := hp k hkp; omega), fun k hk => ?_⟩
    have h1 := hn k hk
    have h2 := hqw k hk
    refine ⟨by omega, by omega, fun hkp => ?_, fun j' hj' => ?_⟩
    · rcases hp' k hkp with h | h <;> omega
    · rw [if_pos hj']
      intro hkq
      have := (hr j' hj').2.2 k hkq
      omega
theorem ORows.get {w : World} {p : Option Addr} {l c : Nat} {rs : List (List UInt8)} {lo hi : Nat} (h : ORows w p l c rs lo hi) {i : Nat} (hi' : i < l) {k : IntKind} :
    ∃ a q d, IxA Tryz.prog T_S_S_uint8 (.slice p l c) (.int k (i : Int)) a ∧ w.cell? a = some (.slice q (rs.getD i []).length d) ∧ OwnS w q (rs.getD i []).length d ((rs.getD i []).map vb) ∧ ∀ k ∈ blks q, lo ≤ k ∧ k < hi := by
  obtain ⟨vs, q, d, hO, hl, hp, hr⟩ := h
  obtain ⟨g1, g2, g3⟩ := hr i hi'
  obtain ⟨a, h1, h2⟩ := ixR (P := Tryz.prog) (t := T_S_S_uint8) (by kernel_rfl) hO.row (cap := c) (k := k) (i := (i : Int)) hO.1 (by omega) (by omega) (by rw [Int.toNat_natCast]; exact g1)
  exact ⟨a, q i, d i, h1, h2, g2, fun k hk => ⟨(g3 k hk).1, (g3 k hk).2.1⟩⟩
theorem ORows.sto {w w' : World} {p : Option Addr} {l c : Nat} {rs : List (List UInt8)} {lo hi : Nat} (h : ORows w p l c rs lo hi) {i : Nat} (hi' : i < l) {q : Option Addr} {n d : Nat} {a : Addr} (ha : IxA Tryz.prog T_S_S_uint8 (.slice p l c) (.int .i64 (i : Int)) a) (hc : w.cell? a = some (.slice q n d)) (hf : Fr (blks q) w w') {r' : List UInt8} (hr' : OwnS w' q n d (r'.map vb)) (hn : r'.length = n) :
    ORows w' p l c (rs.set i r') lo hi := by
  obtain ⟨vs, q0, d0, hO, hl, hp, hr⟩ := h
  obtain ⟨g1, g2, g3⟩ := hr i hi'
  obtain ⟨a0, h1, h2⟩ := ixR (P := Tryz.prog) (t := T_S_S_uint8) (by kernel_rfl) hO.row (cap := c) (k := .i64) (i := (i : Int)) hO.1 (by omega) (by omega) (by rw [Int.toNat_natCast]; exact g1)
  have ea : a = a0 := by have := ha.symm.trans h1; simpa using this
  subst ea
  rw [h2] at hc
  obtain ⟨rfl, rfl, rfl⟩ : q0 i = q ∧ (rs.getD i []).length = n ∧ d0 i = d := by simpa using hc
  refine ⟨vs, q0, d0, hO.fr hf (fun k hk hkq => (g3 k hkq).2.2.1 hk), by simpa using hl, hp, fun j hj => ?_⟩
  obtain ⟨k1, k2, k3⟩ := hr j hj
  by_cases hji : j = i
  · subst hji
    have e : (rs.set j r').getD j [] = r' := by rw [List.getD_eq_getElem?_getD, List.getElem?_set_self (by omega)]; rfl
    rw [e, hn]
    exact ⟨k1, hr', k3⟩
  · have e : (rs.set i r').getD j [] = rs.getD j [] := by rw [List.getD_eq_getElem?_getD, List.getD_eq_getElem?_getD, List.getElem?_set_ne (Ne.symm hji)]
    rw [e]
    refine ⟨k1, k2.fr hf (fun k hk hkq => ?_), k3⟩
    rcases Nat.lt_or_ge j i with h | h
    · exact (g3 k hkq).2.2.2 j h hk
    · exact (k3 k hk).2.2.2 i (by omega) hkq
end Go.Sh
end

section
namespace Go.Sh
open Go Go.Fw Go.Proofs
set_option maxRecDepth 100000
set_option linter.unusedVariables false
def keysL (ks : Nat → UInt8) (n : Nat) : List (List UInt8) := (List.range n).map fun r => bl 16 (kAt ks r)
theorem keysL_len (ks : Nat → UInt8) (n : Nat) : (keysL ks n).length = n := by simp [keysL]
theorem keysL_at (ks : Nat → UInt8) {n r : Nat} (h : r < n) : (keysL ks n).getD r [] = bl 16 (kAt ks r) := by simp [keysL, h]
end Go.Sh
end

section
namespace Go.Sh
open Go Go.Fw Go.Proofs
set_option maxRecDepth 100000
set_option linter.unusedVariables false
def OB (w : World) (p : Option Addr) (l c : Nat) (xs : List UInt8) (lo : Nat) : Prop := OwnS w p l c (xs.map vb) ∧ l = xs.length ∧ ∀ k ∈ blks p, lo ≤ k
theorem OB.row {w : World} {p : Option Addr} {l c : Nat} {xs : List UInt8} {lo : Nat} (h : OB w p l c xs lo) : Row w p (xs.map vb) := h.1.row
theorem OB.fr {w w' : World} {p : Option Addr} {l c : Nat} {xs : List UInt8} {lo : Nat} {L : List Nat} (h : OB w p l c xs lo) (hf : Fr L w w') (hl : ∀ k ∈ blks p, k ∉ L) : OB w' p l c xs lo := ⟨h.1.fr hf hl, h.2⟩
theorem OB.fr0 {w w' : World} {p : Option Addr} {l c : Nat} {xs : List UInt8} {lo : Nat} (h : OB w p l c xs lo) (hf : Fr [] w w') : OB w' p l c xs lo := h.fr hf (by simp)
theorem OB.mono {w : World} {p : Option Addr} {l c : Nat} {xs : List UInt8} {lo lo' : Nat} (h : OB w p l c xs lo) (h1 : lo' ≤ lo) : OB w p l c xs lo' := ⟨h.1, h.2.1, fun k hk => Nat.le_trans h1 (h.2.2 k hk)⟩
theorem OB.nil (w : World) (lo : Nat) : OB w none 0 0 [] lo := ⟨OwnS.nil w, rfl, by simp [blks]⟩
theorem OB.lt {w : World} {p : Option Addr} {l c : Nat} {xs : List UInt8} {lo : Nat} (h : OB w p l c xs lo) : ∀ k ∈ blks p, k < w.heap.size := h.1.lt
theorem OB.cap {w : World} {p : Option Addr} {l c : Nat} {xs : List UInt8} {lo : Nat} (h : OB w p l c xs lo) : l ≤ c := by
  obtain ⟨⟨hl, ⟨_, h0, h1⟩ | ⟨g, o, N, f, rfl, hB, hoc, hlc, hf⟩⟩, _⟩ := h <;> omega
theorem OB.news {a w w' : World} {p : Option Addr} {l c : Nat} {xs : List UInt8} {lo : Nat} (h : OB w p l c xs lo) (h1 : Fr [] a w) (h2 : Fr (blks p) w w') (h3 : a.heap.size ≤ lo) : Fr [] a w' := h1.trans h2 fun z hz => .inr (Nat.le_trans h3 (h.2.2 z hz))
theorem mk0 {w : World} {K : Option Addr → Nat → Nat → World → Prop} (h : ∀ p w', Fr [] w w' → OB w' p 0 0 [] w.heap.size → w'.heap.size = w.heap.size + 1 → K p 0 0 w') : ∃ p l c w', Ef Tryz.prog (Instr.buildSlice T_S_uint8 0 #[]) w (.slice p l c) w' ∧ K p l c w' :=
  ⟨_, _, _, Ef.new (cs := #[]) (v := .slice (some ⟨w.heap.size, 0, none⟩) 0 0) (e := T_uint8) (by kernel_rfl) fun w' f hB s => h _ w' f ⟨⟨rfl, .inr ⟨_, _, _, _, rfl, hB, by simp, by simp, by simp⟩⟩, rfl, by simp [blks]⟩ s⟩
theorem push1 {w : World} {p : Option Addr} {l c : Nat} {xs : List UInt8} {lo : Nat} {x : UInt8} (h : OB w p l c xs lo) (hlo : lo ≤ w.heap.size) (hlen : l < 1073741824) {K : Option Addr → Nat → Nat → World → Prop}
    (hk : ∀ p' c' w', Fr (blks p) w w' → OB w' p' (l + 1) c' (xs ++ [x]) lo → K p' (l + 1) c' w') :
    ∃ q m d w1, Ef Tryz.prog (Instr.buildSlice T_S_uint8 1 #[(0, .int .u8 (x.toNat : Int))]) w (.slice q m d) w1 ∧ ∃ p' l' c' w2, Ef Tryz.prog (Builtin.append_ #[T_S_uint8, T_S_uint8] T_S_uint8 #[.slice p l c, .slice q m d]) w1 (.slice p' l' c') w2 ∧ K p' l' c' w2 := by
  refine ⟨_, _, _, Ef.new (v := .slice (some ⟨w.heap.size, 0, none⟩) 1 1) (cs := ([vb x] : List Value).toArray) (e := T_uint8) (by kernel_rfl) fun w1 f1 hB1 s1 => ?_⟩
  obtain ⟨hO, hl, hp⟩ := h.fr0 f1
  obtain ⟨p', c', w', he, hO', hf, hcase⟩ := Ef.append (P := Tryz.prog) (t := T_S_uint8) (ty := T_S_uint8) (by kernel_rfl) hO (m := 1) (d := 1) hB1.rowL rfl (by simp; rfl) (by omega)
  refine ⟨_, _, _, _, he, hk p' c' w' (f1.after hf) ⟨by simpa using hO', by simp [hl], fun z hz => ?_⟩⟩
  rcases hcase with ⟨rfl, _, _⟩ | ⟨rfl, _, h3⟩
  · exact hp z hz
  · simp only [blks, List.mem_singleton] at hz; omega
theorem pushN {w : World} {p : Option Addr} {l c : Nat} {xs : List UInt8} {lo : Nat} {q : Option Addr} {m d : Nat} {ys : List UInt8} (h : OB w p l c xs lo) (hlo : lo ≤ w.heap.size) (hR : Row w q (ys.map vb)) (hm : m = ys.length) (hlen : l + m ≤ 1073741824) {K : Option Addr → Nat → Nat → World → Prop}
    (hk : ∀ p' c' w', Fr (blks p) w w' → OB w' p' (l + m) c' (xs ++ ys) lo → K p' (l + m) c' w') :
    ∃ p' l' c' w2, Ef Tryz.prog (Builtin.append_ #[T_S_uint8, T_S_uint8] T_S_uint8 #[.slice p l c, .slice q m d]) w (.slice p' l' c') w2 ∧ K p' l' c' w2 := by
  obtain ⟨hO, hl, hp⟩ := h
  obtain ⟨p', c', w', he, hO', hf, hcase⟩ := Ef.append (P := Tryz.prog) (t := T_S_uint8) (ty := T_S_uint8) (by kernel_rfl) hO (m := m) (d := d) hR (by simpa using hm) (cells_vb ys) hlen
  refine ⟨_, _, _, _, he, hk p' c' w' hf ⟨by simpa using hO', by simp [hl, hm], fun z hz => ?_⟩⟩
  rcases hcase with ⟨rfl, _, _⟩ | ⟨rfl, _, h3⟩
  · exact hp z hz
  · simp only [blks, List.mem_singleton] at hz; omega
theorem mkN {w : World} {n c : Nat} (hn : n ≤ c) (hc : c ≤ 1073741824) {k k' : IntKind} {K : Option Addr → Nat → Nat → World → Prop} (h : ∀ p w', Fr [] w w' → OB w' p n c (List.replicate n 0) w.heap.size → w'.heap.size = w.heap.size + 1 → K p n c w') :
    ∃ p l' c' w', Ef Tryz.prog (Instr.makeSlice T_S_uint8 (.int k (n : Int)) (.int k' (c : Int))) w (.slice p l' c') w' ∧ K p l' c' w' := by
  obtain ⟨w', he, hf, hB, hs⟩ := Ef.make (P := Tryz.prog) (t := T_S_uint8) (by kernel_rfl) (z := .int .u8 0) (by kernel_rfl) (by kernel_rfl) (w := w) (k := k) (k' := k') hn hc
  refine ⟨_, _, _, _, he, h _ w' hf ⟨⟨by simp, .inr ⟨_, 0, c, _, rfl, hB, by omega, hn, fun i v hi => ?_⟩⟩, by simp, by simp [blks]⟩ hs⟩
  simp only [List.map_replicate, List.getElem?_replicate] at hi
  split at hi
  · exact Option.some.inj hi
  · cases hi
theorem OB.sto {w : World} {p : Option Addr} {l c : Nat} {xs : List UInt8} {lo : Nat} (h : OB w p l c xs lo) {k : IntKind} {i : Nat} {x : UInt8} (hi : i < l) {K : World → Prop} (hk : ∀ w', Fr (blks p) w w' → OB w' p l c (xs.set i x) lo → w'.heap.size = w.heap.size → K w') :
    ∃ a, IxA Tryz.prog T_S_uint8 (.slice p l c) (.int k (i : Int)) a ∧ ∃ w', Sto Tryz.prog T_uint8 (.pointer (some a)) (.int .u8 (x.toNat : Int)) w w' ∧ K w' := by
  obtain ⟨hO, hl, hp⟩ := h
  refine OwnS.sto (P := Tryz.prog) (by kernel_rfl) (by kernel_rfl) hO (k := k) (i := (i : Int)) (by omega) (by omega) rfl rfl fun w' f hO' s => hk w' f ⟨?_, by simpa using hl, hp⟩ s
  rw [Int.toNat_natCast] at hO'
  rw [List.map_set]
  exact hO'
theorem OB.get {w : World} {p : Option Addr} {l c : Nat} {xs : List UInt8} {lo : Nat} (h : OB w p l c xs lo) {k : IntKind} {i : Nat} (hi : i < l) : ∃ a, IxA Tryz.prog T_S_uint8 (.slice p l c) (.int k (i : Int)) a ∧ w.cell? a = some (vb (fl xs i)) := row_get (by kernel_rfl) h.row h.2.1 hi
end Go.Sh
end

section
namespace Go.Sh
open Go Go.Fw Go.Proofs
abbrev vi (n : Int) : Value := .int .i64 n
end Go.Sh
end

section
namespace Go.Sh
open Go Go.Fw Go.Proofs
set_option maxRecDepth 100000
set_option linter.unusedVariables false
theorem CopyOB_c {w : World} {p : Option Addr} {l c : Nat} {xs : List UInt8} (hx : Row w p (xs.map vb)) (hl : l = xs.length) (hlen : l ≤ 1073741824) {K : Value → World → Prop}
    (h : ∀ q d w', Fr [] w w' → OB w' q l d xs w.heap.size → K (.slice q l d) w') : callF Tryz.prog F_ref00_CopyBytes #[.slice p l c] w K :=
  CopyBytes_c hx hl hlen fun q d w' f hO hn => h q d w' f ⟨hO, hl, hn⟩
end Go.Sh
end

section
namespace Go.Sh
open Go Go.Fw Go.Proofs
set_option maxRecDepth 100000
set_option linter.unusedVariables false
theorem bl_map (n : Nat) (x : Nat → UInt8) (g : UInt8 → UInt8) : (bl n x).map g = bl n (fun j => g (x j)) := by simp [bl]
theorem bl_rows (m : Nat) (x : Nat → UInt8) : bl 16 (arows m (fl (bl 16 x))) = bl 16 (arows m x) := bl_congr (arows_congr (fl_bl 16 x))
theorem bl_cols (g : Nat → UInt8 → UInt8) (x : Nat → UInt8) : bl 16 (acols g (fl (bl 16 x))) = bl 16 (acols g x) := bl_congr (acols_congr (fl_bl 16 x))
theorem bl_xor (n : Nat) (x y : Nat → UInt8) : bl n (xorF (fl (bl n x)) (fl (bl n y))) = bl n (xorF x y) := bl_congr fun j hj => by unfold xorF; rw [fl_bl n x j hj, fl_bl n y j hj]
theorem acols_ref (f x : Nat → UInt8) {k : Nat} (hk : k < 16) :
    0 ^^^ gmul (f ((0 + 4 - k % 4) % 4)) (x (4 * (k / 4) + 0)) ^^^ gmul (f ((1 + 4 - k % 4) % 4)) (x (4 * (k / 4) + 1)) ^^^ gmul (f ((2 + 4 - k % 4) % 4)) (x (4 * (k / 4) + 2)) ^^^ gmul (f ((3 + 4 - k % 4) % 4)) (x (4 * (k / 4) + 3)) = acols (gF f) x k := by
  rw [csum4, zero_xor8]
  unfold gF
  have hr : k % 4 < 4 := Nat.mod_lt _ (by omega)
  generalize k / 4 = c
  generalize hk4 : k % 4 = r at hr
  rcases (by omega : r = 0 ∨ r = 1 ∨ r = 2 ∨ r = 3) with rfl | rfl | rfl | rfl
  · show gmul (f 0) (x (4 * c + 0)) ^^^ gmul (f 1) (x (4 * c + 1)) ^^^ gmul (f 2) (x (4 * c + 2)) ^^^ gmul (f 3) (x (4 * c + 3)) = gmul (x (4 * c + 0)) (f 0) ^^^ gmul (x (4 * c + 1)) (f 1) ^^^ gmul (x (4 * c + 2)) (f 2) ^^^ gmul (x (4 * c + 3)) (f 3)
    simp only [gmul_comm (f _)]
  · show gmul (f 3) (x (4 * c + 0)) ^^^ gmul (f 0) (x (4 * c + 1)) ^^^ gmul (f 1) (x (4 * c + 2)) ^^^ gmul (f 2) (x (4 * c + 3)) = gmul (x (4 * c + 1)) (f 0) ^^^ gmul (x (4 * c + 2)) (f 1) ^^^ gmul (x (4 * c + 3)) (f 2) ^^^ gmul (x (4 * c + 0)) (f 3)
    simp only [gmul_comm (f _)]
    ac_rfl
  · show gmul (f 2) (x (4 * c + 0)) ^^^ gmul (f 3) (x (4 * c + 1)) ^^^ gmul (f 0) (x (4 * c + 2)) ^^^ gmul (f 1) (x (4 * c + 3)) = gmul (x (4 * c + 2)) (f 0) ^^^ gmul (x (4 * c + 3)) (f 1) ^^^ gmul (x (4 * c + 0)) (f 2) ^^^ gmul (x (4 * c + 1)) (f 3)
    simp only [gmul_comm (f _)]
    ac_rfl
  · show gmul (f 1) (x (4 * c + 0)) ^^^ gmul (f 2) (x (4 * c + 1)) ^^^ gmul (f 3) (x (4 * c + 2)) ^^^ gmul (f 0) (x (4 * c + 3)) = gmul (x (4 * c + 3)) (f 0) ^^^ gmul (x (4 * c + 0)) (f 1) ^^^ gmul (x (4 * c + 1)) (f 2) ^^^ gmul (x (4 * c + 2)) (f 3)
    simp only [gmul_comm (f _)]
    ac_rfl
def tblF : Nat → UInt8 := fun n => gsign (UInt8.ofNat n)
def tblL : List UInt8 := bl 256 tblF
theorem tblL_at (a : UInt8) : tblL.getD a.toNat 0 = gsign a := by
  unfold tblL
  rw [bl_getD a.toNat_lt]
  unfold tblF
  rw [UInt8.ofNat_toNat]
def glogs : List Nat := [0, 0, 25, 1, 50, 2, 26, 198, 75, 199, 27, 104, 51, 238, 223, 3, 100, 4, 224, 14, 52, 141, 129, 239, 76, 113, 8, 200, 248, 105, 28, 193, 125, 194, 29, 181, 249, 185, 39, 106, 77, 228, 166, 114, 154, 201, 9, 120, 101, 47, 138, 5, 33, 15, 225, 36, 18, 240, 130, 69, 53, 147, 218, 142, 150, 143, 219, 189, 54, 208, 206, 148, 19, 92, 210, 241, 64, 70, 131, 56, 102, 221, 253, 48, 191, 6, 139, 98, 179, 37, 226, 152, 34, 136, 145, 16, 126, 110, 72, 195, 163, 182, 30, 66, 58, 107, 40, 84, 250, 133, 61, 186, 43, 121, 10, 21, 155, 159, 94, 202, 78, 212, 172, 229, 243, 115, 167, 87, 175, 88, 168, 80, 244, 234, 214, 116, 79, 174, 233, 213, 231, 230, 173, 232, 44, 215, 117, 122, 235, 22, 11, 245, 89, 203, 95, 176, 156, 169, 81, 160, 127, 12, 246, 111, 23, 196, 73, 236, 216, 67, 31, 45, 164, 118, 123, 183, 204, 187, 62, 90, 251, 96, 177, 134, 59, 82, 161, 108, 170, 85, 41, 157, 151, 178, 135, 144, 97, 190, 220, 252, 188, 149, 207, 205, 55, 63, 91, 209, 83, 57, 132, 60, 65, 162, 109, 71, 20, 42, 158, 93, 86, 242, 211, 171, 68, 17, 146, 217, 35, 32, 46, 137, 180, 124, 184, 38, 119, 153, 227, 165, 103, 74, 237, 222, 197, 49, 254, 24, 13, 99, 140, 128, 192, 247, 112, 7]
theorem glog_ok (a : UInt8) (h : a ≠ 0) : ∃ i, i < 255 ∧ npow 3 i = a := by
  have h1 := all8 (p := fun a => a == 0 || (decide (glogs.getD a.toNat 0 < 255) && gpow 3 (UInt64.ofNat (glogs.getD a.toNat 0)) == a)) (by kernel_rfl) a
  simp only [beq_iff_eq, Bool.or_eq_true, Bool.and_eq_true, decide_eq_true_eq, h, false_or] at h1
  obtain ⟨h2, h3⟩ := h1
  refine ⟨glogs.getD a.toNat 0, h2, ?_⟩
  rw [gpow_eq] at h3
  have e : ∀ x : Nat, x < 255 → (UInt64.ofNat x).toNat = x := by intro x hx; simp; omega
  rwa [e _ h2] at h3
theorem npow3_ne (i : Nat) : npow 3 i ≠ 0 := by
  induction i with
  | zero => decide
  | succ i ih => intro h; rcases (gmul_eq_zero _ _).1 h with h | h; exact ih h; cases h
theorem ginv_pow (i : Nat) (h : i < 255) : ginv (npow 3 i) = npow 3 ((255 - i) % 255) := by
  refine (ginv_uniq _ _ ?_).symm
  rw [npow_mod 3 (by decide), ← npow_add, show i + (255 - i) = 255 by omega]
  exact npow_255 3 (by decide)
end Go.Sh
end

section
namespace Go.Sh
open Go Go.Fw Go.Proofs
set_option maxRecDepth 100000
set_option linter.unusedVariables false
def fb {α : Type} (b : UInt8) (k : UInt8 → α) : α := match b.toNat with | 0 => k 0 | n + 1 => k (UInt8.ofNat (n + 1))
theorem fb_eq {α : Type} (b : UInt8) (k : UInt8 → α) : fb b k = k b := by
  unfold fb
  split
  · rename_i h
    have : b = 0 := UInt8.toNat_inj.1 (by rw [h]; rfl)
    rw [this]
  · rename_i n h
    have : UInt8.ofNat (n + 1) = b := by rw [show n + 1 = b.toNat from h.symm]; exact UInt8.ofNat_toNat
    rw [this]
def fL {α : Type} : List UInt8 → (List UInt8 → α) → α
  | [], k => k []
  | b :: l, k => fb b fun c => fL l fun m => k (c :: m)
theorem fL_eq {α : Type} (l : List UInt8) : ∀ k : List UInt8 → α, fL l k = k l := by
  induction l with
  | nil => intro k; rfl
  | cons b l ih => intro k; show fb b _ = _; rw [fb_eq, ih]
def sbL : List UInt8 := [99, 124, 119, 123, 242, 107, 111, 197, 48, 1, 103, 43, 254, 215, 171, 118, 202, 130, 201, 125, 250, 89, 71, 240, 173, 212, 162, 175, 156, 164, 114, 192, 183, 253, 147, 38, 54, 63, 247, 204, 52, 165, 229, 241, 113, 216, 49, 21, 4, 199, 35, 195, 24, 150, 5, 154, 7, 18, 128, 226, 235, 39, 178, 117, 9, 131, 44, 26, 27, 110, 90, 160, 82, 59, 214, 179, 41, 227, 47, 132, 83, 209, 0, 237, 32, 252, 177, 91, 106, 203, 190, 57, 74, 76, 88, 207, 208, 239, 170, 251, 67, 77, 51, 133, 69, 249, 2, 127, 80, 60, 159, 168, 81, 163, 64, 143, 146, 157, 56, 245, 188, 182, 218, 33, 16, 255, 243, 210, 205, 12, 19, 236, 95, 151, 68, 23, 196, 167, 126, 61, 100, 93, 25, 115, 96, 129, 79, 220, 34, 42, 144, 136, 70, 238, 184, 20, 222, 94, 11, 219, 224, 50, 58, 10, 73, 6, 36, 92, 194, 211, 172, 98, 145, 149, 228, 121, 231, 200, 55, 109, 141, 213, 78, 169, 108, 86, 244, 234, 101, 122, 174, 8, 186, 120, 37, 46, 28, 166, 180, 198, 232, 221, 116, 31, 75, 189, 139, 138, 112, 62, 181, 102, 72, 3, 246, 14, 97, 53, 87, 185, 134, 193, 29, 158, 225, 248, 152, 17, 105, 217, 142, 148, 155, 30, 135, 233, 206, 85, 40, 223, 140, 161, 137, 13, 191, 230, 66, 104, 65, 153, 45, 15, 176, 84, 187, 22]
def sb (a : UInt8) : UInt8 := sbL.getD a.toNat 0
theorem gsign_sb (a : UInt8) : gsign a = sb a := by
  have := all8 (p := fun a => gsign a == sb a) (by kernel_rfl) a
  simpa using this
def wnextS (key : Nat → UInt8) (k : Nat) (ws : Nat → UInt8) : Nat → UInt8 := fun j =>
  if k < 4 then key (4 * k + j) else ws (4 * (k - 4) + j) ^^^ (if k % 4 = 0 then (if j = 0 then sb (ws (4 * (k - 1) + 1)) ^^^ gpow 2 (UInt64.ofNat (k / 4 - 1)) else sb (ws (4 * (k - 1) + (j + 1) % 4))) else ws (4 * (k - 1) + j))
theorem wnext_sb (key : Nat → UInt8) (k : Nat) (ws : Nat → UInt8) (j : Nat) : wnext key k ws j = wnextS key k ws j := by
  unfold wnext wnextS turnedF
  simp only [gsign_sb]
def ekeys (key : Nat → UInt8) : Nat → List UInt8
  | 0 => []
  | n + 1 => fL (ekeys key n) fun ws => fL (bl 4 (wnextS key n (fl ws))) fun w => ws ++ w
theorem ekeys_eq (key : Nat → UInt8) (n : Nat) : ekeys key n = bl (4 * n) (awords key n) := by
  induction n with
  | zero => rfl
  | succ n ih =>
    show fL (ekeys key n) _ = _
    rw [fL_eq, fL_eq, ih]
    apply List.ext_getElem?
    intro i
    by_cases hi : i < 4 * n
    · rw [List.getElem?_append_left (by rw [bl_len]; exact hi), bl_get hi, bl_get (by omega)]
      show _ = some (if i < 4 * n then _ else _)
      rw [if_pos hi]
    · rw [List.getElem?_append_right (by rw [bl_len]; omega), bl_len]
      by_cases hi2 : i < 4 * (n + 1)
      · rw [bl_get (by omega), bl_get hi2]
        show _ = some (if i < 4 * n then _ else _)
        rw [if_neg hi, ← wnext_sb]
        rw [wnext_congr (fl_bl (4 * n) (awords key n)) (by omega)]
      · rw [List.getElem?_eq_none (by rw [bl_len]; omega), List.getElem?_eq_none (by rw [bl_len]; omega)]
def eenc (ks x : Nat → UInt8) : Nat → List UInt8
  | 0 => bl 16 (xorF x (kAt ks 0))
  | r + 1 => fL (eenc ks x r) fun L => fL (bl 16 (arows 1 (fl (L.map sb)))) fun M => fL (if r + 1 < 10 then bl 16 (acols (gF fE) (fl M)) else M) fun N => bl 16 (xorF (fl N) (kAt ks (r + 1)))
def mixR (r : Nat) (y : Nat → UInt8) : Nat → UInt8 := if r + 1 < 10 then acols (gF fE) (arows 1 (fun j => gsign (y j))) else arows 1 (fun j => gsign (y j))
theorem encR_succ (ks x : Nat → UInt8) (r : Nat) : encR ks x (r + 1) = xorF (mixR r (encR ks x r)) (kAt ks (r + 1)) := rfl
theorem eenc_eq (ks x : Nat → UInt8) (r : Nat) : eenc ks x r = bl 16 (encR ks x r) := by
  induction r with
  | zero => rfl
  | succ r ih =>
    show fL (eenc ks x r) _ = _
    rw [fL_eq, fL_eq, fL_eq, ih, bl_map, bl_rows]
    have e : (fun j => sb (encR ks x r j)) = fun j => gsign (encR ks x r j) := by funext j; rw [gsign_sb]
    rw [e, encR_succ]
    generalize encR ks x r = y
    unfold mixR
    by_cases h : r + 1 < 10
    · simp only [h, if_true]
      rw [bl_cols]
      exact bl_congr (xorF_congr (fl_bl 16 _))
    · simp only [h, if_false]
      exact bl_congr (xorF_congr (fl_bl 16 _))
theorem mixR_congr {r : Nat} {x y : Nat → UInt8} (h : Eqn 16 x y) : Eqn 16 (mixR r x) (mixR r y) := by
  have h1 := arows_congr (m := 1) (h.map gsign)
  unfold mixR
  by_cases ht : r + 1 < 10
  · simp only [ht, if_true]; exact acols_congr h1
  · simp only [ht, if_false]; exact h1
theorem xorF_congr2 {x y k l : Nat → UInt8} (h : Eqn 16 x y) (g : Eqn 16 k l) : Eqn 16 (xorF x k) (xorF y l) := fun j hj => by unfold xorF; rw [h j hj, g j hj]
theorem encR_keys {ks ks' : Nat → UInt8} (h : Eqn 176 ks ks') (x : Nat → UInt8) : ∀ r, r < 11 → Eqn 16 (encR ks x r) (encR ks' x r) := by
  have hk : ∀ r, r < 11 → Eqn 16 (kAt ks r) (kAt ks' r) := fun r hr j hj => h (16 * r + j) (by omega)
  intro r
  induction r with
  | zero => intro _; show Eqn 16 (xorF x (kAt ks 0)) (xorF x (kAt ks' 0)); exact xorF_congr2 (fun _ _ => rfl) (hk 0 (by omega))
  | succ r ih =>
    intro hr
    rw [encR_succ, encR_succ]
    exact xorF_congr2 (mixR_congr (ih (by omega))) (hk _ hr)
def aencE (key xs : List UInt8) : List UInt8 := fL (ekeys (fl key) 44) fun KS => eenc (fl KS) (fl xs) 10
theorem aencL_eval (key xs : List UInt8) : aencL key xs = aencE key xs := by
  unfold aencE aencL aenc
  rw [fL_eq, eenc_eq, ekeys_eq]
  exact (bl_congr (encR_keys (fl_bl 176 _) _ 10 (by omega))).symm
end Go.Sh
end

section
namespace Go.Sh
open Go Go.Fw Go.Proofs
set_option maxRecDepth 100000
set_option linter.unusedVariables false
theorem at_c {r c : Nat} (hr : r < 4) (hc : c < 1000000) {w : World} {K : Value → World → Prop} (h : K (.int .i64 ((4 * (c % 4) + r : Nat) : Int)) w) : callF Tryz.prog F_ref03_at #[.int .i64 (r : Int), .int .i64 (c : Int)] w K := by
  apply ref03_at_call
  unfold ref03_at
  have e : Int.tmod (c : Int) 4 = ((c % 4 : Nat) : Int) := rfl
  rw [e, wrap64 (n := 4 * ((c % 4 : Nat) : Int)) (by omega) (by omega), wrap64 (by omega) (by omega)]
  have : 4 * ((c % 4 : Nat) : Int) + (r : Int) = ((4 * (c % 4) + r : Nat) : Int) := by omega
  rw [this]
  exact h
theorem take_snoc (xs : List UInt8) {i : Nat} (h : i < xs.length) : xs.take (i + 1) = xs.take i ++ [fl xs i] := by
  rw [List.take_add_one, List.getElem?_eq_getElem h]
  unfold fl
  rw [List.getD_eq_getElem?_getD, List.getElem?_eq_getElem h]
  rfl
theorem bl_snoc (n : Nat) (x : Nat → UInt8) : bl (n + 1) x = bl n x ++ [x n] := by simp [bl, List.range_succ]
theorem ref_subs_c {w : World} {p q : Option Addr} {l c m d : Nat} {xs ts : List UInt8} (hx : Row w p (xs.map vb)) (hl : l = xs.length) (ht : Row w q (ts.map vb)) (hm : m = ts.length) (hm2 : m = 256) (hlen : l ≤ 1000) {K : Value → World → Prop}
    (h : ∀ p' c' w', Fr [] w w' → OB w' p' l c' (xs.map fun a => fl ts a.toNat) w.heap.size → K (.slice p' l c') w') : callF Tryz.prog F_ref03_subs #[.slice p l c, .slice q m d] w K := by
  apply ref03_subs_call
  unfold ref03_subs
  refine mk0 fun p0 w1 f1 hO1 s1 => ?_
  refine LoopS.ind (fun k us w' => ∃ (i : Nat) (p1 : Option Addr) (c1 : Nat), i + k = l ∧ us = [.slice p l c, .slice q m d, .slice none 0 0, .slice p1 i c1, .int .i64 (i : Int)] ∧ Fr [] w w' ∧ OB w' p1 i c1 ((xs.take i).map fun a => fl ts a.toNat) w.heap.size) l
    ⟨0, p0, 0, by omega, rfl, f1, by simpa using hO1⟩ ?_
  rintro k us r w2 I μ hgo ⟨i, p1, c1, hi, rfl, f2, hO⟩
  refine ⟨_, _, _, _, _, _, _, _, _, _, _, _, _, rfl, cond_d (fun h1 => ?_) (fun h1 => ?_)⟩
  · have hil : i < l := by omega
    obtain ⟨a, ha, hca⟩ := row_get (t := T_S_uint8) (by kernel_rfl) (hx.fr0 f2) (c := c) hl hil (k := .i64)
    have hb := (xs.getD i 0).toNat_lt
    obtain ⟨b, hb', hcb⟩ := row_get (t := T_S_uint8) (by kernel_rfl) (ht.fr0 f2) (c := d) hm (i := (xs.getD i 0).toNat) (by omega) (k := .u8)
    refine ⟨a, ha, _, Ld.cell (by kernel_rfl) hca, b, hb', _, Ld.cell (by kernel_rfl) hcb, ?_⟩
    refine push1 hO f2.size (by omega) fun p' c' w3 f3 hO3 => ?_
    rw [wrap64 (by omega) (by omega)]
    refine hgo _ _ _ (k - 1) (by omega) ⟨i + 1, p', c', by omega, rfl, hO.news f2 f3 (Nat.le_refl _), ?_⟩
    rw [take_snoc xs (by omega), List.map_append]
    exact hO3
  · have hil : i = l := by omega
    subst hil
    rw [List.take_of_length_le (by omega)] at hO
    exact h p1 c1 w2 f2 hO
theorem ref_add_c {w : World} {p q : Option Addr} {l c m d : Nat} {xs ys : List UInt8} (hx : Row w p (xs.map vb)) (hl : l = xs.length) (hy : Row w q (ys.map vb)) (hm : m = ys.length) (hlm : l ≤ m) (hlen : l ≤ 1000) {K : Value → World → Prop}
    (h : ∀ p' c' w', Fr [] w w' → OB w' p' l c' (bl l (xorF (fl xs) (fl ys))) w.heap.size → K (.slice p' l c') w') : callF Tryz.prog F_ref03_add #[.slice p l c, .slice q m d] w K := by
  apply ref03_add_call
  unfold ref03_add
  refine mk0 fun p0 w1 f1 hO1 s1 => ?_
  refine LoopS.ind (fun k us w' => ∃ (i : Nat) (p1 : Option Addr) (c1 : Nat), i + k = l ∧ us = [.slice p l c, .slice q m d, .slice none 0 0, .slice p1 i c1, .int .i64 (i : Int)] ∧ Fr [] w w' ∧ OB w' p1 i c1 (bl i (xorF (fl xs) (fl ys))) w.heap.size) l
    ⟨0, p0, 0, by omega, rfl, f1, hO1⟩ ?_
  rintro k us r w2 I μ hgo ⟨i, p1, c1, hi, rfl, f2, hO⟩
  refine ⟨_, _, _, _, _, _, _, _, _, _, _, _, _, rfl, cond_d (fun h1 => ?_) (fun h1 => ?_)⟩
  · have hil : i < l := by omega
    obtain ⟨a, ha, hca⟩ := row_get (t := T_S_uint8) (by kernel_rfl) (hx.fr0 f2) (c := c) hl hil (k := .i64)
    obtain ⟨b, hb, hcb⟩ := row_get (t := T_S_uint8) (by kernel_rfl) (hy.fr0 f2) (c := d) hm (i := i) (by omega) (k := .i64)
    refine ⟨fun w' => w'.cell? a = some (vb (xs.getD i 0)), Drw.intro fun w3 f3 s3 => ?_⟩
    refine ⟨a, ha, b, hb, _, ⟨f3.cell hca (by simp), fun w' hw' => Ld.cell (by kernel_rfl) hw'⟩, _, Ld.cell (by kernel_rfl) (f3.cell hcb (by simp)), .inl rfl, ?_⟩
    rw [xor8]
    have f23 := f2.then f3
    refine push1 (hO.fr0 f3) f23.size (by omega) fun p' c' w4 f4 hO4 => ?_
    rw [wrap64 (by omega) (by omega)]
    refine hgo _ _ _ (k - 1) (by omega) ⟨i + 1, p', c', by omega, rfl, (hO.fr0 f3).news f23 f4 (Nat.le_refl _), ?_⟩
    rw [bl_snoc]
    exact hO4
  · have hil : i = l := by omega
    subst hil
    exact h p1 c1 w2 f2 hO
end Go.Sh
end

section
namespace Go.Sh
open Go Go.Fw Go.Proofs
set_option maxRecDepth 100000
set_option linter.unusedVariables false
theorem fl_set {zs : List UInt8} {i : Nat} {x : UInt8} (h : i < zs.length) (j : Nat) : fl (zs.set i x) j = if j = i then x else fl zs j := by
  unfold fl
  rw [List.getD_eq_getElem?_getD, List.getD_eq_getElem?_getD, List.getElem?_set]
  by_cases hj : j = i
  · subst hj; simp [h]
  · rw [if_neg (Ne.symm hj), if_neg hj]
theorem bl_of_fl {zs : List UInt8} {n : Nat} {x : Nat → UInt8} (hl : zs.length = n) (h : ∀ j, j < n → fl zs j = x j) : zs = bl n x := by
  rw [xs_bl hl]; exact bl_congr h
theorem ref_rows_c {w : World} {p : Option Addr} {l c : Nat} {xs : List UInt8} (hx : Row w p (xs.map vb)) (hl : l = xs.length) (h16 : xs.length = 16) {m : Nat} (hm : m ≤ 3) {K : Value → World → Prop}
    (h : ∀ p' w', Fr [] w w' → OB w' p' 16 16 (bl 16 (arows m (fl xs))) w.heap.size → K (.slice p' 16 16) w') : callF Tryz.prog F_ref03_rows #[.slice p l c, .int .i64 (m : Int)] w K := by
  apply ref03_rows_call
  unfold ref03_rows
  refine mkN (n := 16) (c := 16) (k := .i64) (k' := .i64) (Nat.le_refl _) (by omega) fun p0 w1 f1 hO1 s1 => ?_
  refine LoopS.ind (fun k us w' => ∃ (r : Nat) (zs : List UInt8), r + k = 4 ∧ us = [.slice p l c, .int .i64 (m : Int), .slice none 0 0, .slice p0 16 16, .int .i64 (r : Int)] ∧ Fr [] w w' ∧ OB w' p0 16 16 zs w.heap.size ∧ ∀ j, j < 16 → j % 4 < r → fl zs j = arows m (fl xs) j) 4
    ⟨0, _, by omega, rfl, f1, hO1, by omega⟩ ?_
  rintro k us rr w2 I μ hgo ⟨r, zs, hr, rfl, f2, hO2, hz⟩
  refine ⟨_, _, _, _, _, _, _, _, _, _, _, rfl, cond_d (fun h1 => ?_) (fun h1 => ?_)⟩
  · have hr4 : r < 4 := by omega
    refine LoopS.ind (fun k us w' => ∃ (cc : Nat) (zs : List UInt8), cc + k = 4 ∧ us = [.slice p l c, .int .i64 (m : Int), .slice none 0 0, .slice p0 16 16, .int .i64 (r : Int), .int .i64 (cc : Int)] ∧ Fr [] w w' ∧ OB w' p0 16 16 zs w.heap.size ∧ ∀ j, j < 16 → (j % 4 < r ∨ (j % 4 = r ∧ j / 4 < cc)) → fl zs j = arows m (fl xs) j) 4
      ⟨0, zs, by omega, rfl, f2, hO2, fun j hj h => hz j hj (by omega)⟩ ?_
    rintro k2 us2 rr2 w3 I2 μ2 hgo2 ⟨cc, zs2, hc, rfl, f3, hO3, hz3⟩
    refine ⟨_, _, _, _, _, _, _, _, _, _, _, _, rfl, cond_d (fun h2 => ?_) (fun h2 => ?_)⟩
    · have hc4 : cc < 4 := by omega
      have hmr : m * r ≤ 3 * 3 := Nat.mul_le_mul hm (by omega)
      have e1 : IntKind.i64.wrap ((m : Int) * (r : Int)) = ((m * r : Nat) : Int) := by rw [← Int.natCast_mul]; exact wrap64 (by omega) (by omega)
      have e2 : IntKind.i64.wrap ((cc : Int) + ((m * r : Nat) : Int)) = ((cc + m * r : Nat) : Int) := by rw [← Int.natCast_add]; exact wrap64 (by omega) (by omega)
      rw [e1, e2]
      refine at_c hr4 (by omega) ⟨_, rfl, at_c hr4 (by omega) ⟨_, rfl, ?_⟩⟩
      have hlt : 4 * ((cc + m * r) % 4) + r < 16 := by omega
      obtain ⟨a, ha, hca⟩ := row_get (t := T_S_uint8) (by kernel_rfl) (hx.fr0 f3) (c := c) hl (i := 4 * ((cc + m * r) % 4) + r) (by omega) (k := .i64)
      refine ⟨a, ha, _, Ld.cell (by kernel_rfl) hca, ?_⟩
      have hzl := hO3.2.1
      refine hO3.sto (by omega) fun w4 f4 hO4 s4 => ?_
      rw [wrap64 (by omega) (by omega)]
      refine hgo2 _ _ _ (k2 - 1) (by omega) ⟨cc + 1, _, by omega, rfl, hO3.news f3 f4 (Nat.le_refl _), hO4, fun j hj hjc => ?_⟩
      rw [fl_set (by omega)]
      by_cases hji : j = 4 * (cc % 4) + r
      · rw [if_pos hji]
        show fl xs _ = fl xs _
        have : 4 * m * (j % 4) = 4 * (m * r) := by rw [show j % 4 = r by omega, Nat.mul_assoc]
        rw [this]
        congr 1; omega
      · rw [if_neg hji]
        exact hz3 j hj (by omega)
    · have hc4 : cc = 4 := by omega
      subst hc4
      rw [wrap64 (by omega) (by omega)]
      exact hgo _ _ _ (k - 1) (by omega) ⟨r + 1, zs2, by omega, rfl, f3, hO3, fun j hj hjr => hz3 j hj (by omega)⟩
  · have hr4 : r = 4 := by omega
    subst hr4
    rw [bl_of_fl (zs := zs) hO2.2.1.symm (fun j hj => hz j hj (by omega))] at hO2
    exact h p0 w2 f2 hO2
def rcol (f x : Nat → UInt8) (c r : Nat) : Nat → UInt8
  | 0 => 0
  | k + 1 => rcol f x c r k ^^^ gmul (f ((k + 4 - r) % 4)) (x (4 * c + k))
theorem rcol_eq (f x : Nat → UInt8) {j : Nat} (hj : j < 16) : rcol f x (j / 4) (j % 4) 4 = acols (gF f) x j := acols_ref f x hj
set_option maxHeartbeats 1000000 in
theorem ref_columns_c {w : World} {p : Option Addr} {l c : Nat} {xs : List UInt8} (hx : Row w p (xs.map vb)) (hl : l = xs.length) (h16 : xs.length = 16) {f : Nat → UInt8} {K : Value → World → Prop}
    (h : ∀ p' w', Fr [] w w' → OB w' p' 16 16 (bl 16 (acols (gF f) (fl xs))) w.heap.size → K (.slice p' 16 16) w') : callF Tryz.prog F_ref03_columns #[.slice p l c, .agg ⟨blist 4 f⟩] w K := by
  apply ref03_columns_call
  unfold ref03_columns
  refine newB fun w0 ff f0 hF hf s0 => ?_
  refine mkN (n := 16) (c := 16) (k := .i64) (k' := .i64) (Nat.le_refl _) (by omega) fun p0 w1 f1 hO1 s1 => ?_
  have n0 := f0.size
  have hx0 := hx.fr0 f0
  refine LoopS.ind (fun k us w' => ∃ (cc : Nat) (zs : List UInt8), cc + k = 4 ∧ us = [.slice p l c, .pointer (some ⟨w.heap.size, 0, none⟩), .slice none 0 0, .slice p0 16 16, .int .i64 (cc : Int)] ∧ Fr [] w0 w' ∧ OB w' p0 16 16 zs w0.heap.size ∧ ∀ j, j < 16 → j / 4 < cc → fl zs j = acols (gF f) (fl xs) j) 4
    ⟨0, _, by omega, rfl, f1, hO1, by omega⟩ ?_
  rintro k us rr w2 I μ hgo ⟨cc, zs, hc, rfl, f2, hO2, hz⟩
  refine ⟨_, _, _, _, _, _, _, _, _, _, _, rfl, cond_d (fun h1 => ?_) (fun h1 => ?_)⟩
  · have hc4 : cc < 4 := by omega
    refine LoopS.ind (fun k us w' => ∃ (r : Nat) (zs : List UInt8), r + k = 4 ∧ us = [.slice p l c, .pointer (some ⟨w.heap.size, 0, none⟩), .slice none 0 0, .slice p0 16 16, .int .i64 (cc : Int), .int .i64 (r : Int)] ∧ Fr [] w0 w' ∧ OB w' p0 16 16 zs w0.heap.size ∧ ∀ j, j < 16 → (j / 4 < cc ∨ (j / 4 = cc ∧ j % 4 < r)) → fl zs j = acols (gF f) (fl xs) j) 4
      ⟨0, zs, by omega, rfl, f2, hO2, fun j hj h => hz j hj (by omega)⟩ ?_
    rintro k2 us2 rr2 w3 I2 μ2 hgo2 ⟨r, zs2, hr, rfl, f3, hO3, hz3⟩
    refine ⟨_, _, _, _, _, _, _, _, _, _, _, _, rfl, cond_d (fun h2 => ?_) (fun h2 => ?_)⟩
    · have hr4 : r < 4 := by omega
      refine LoopS.ind (fun k us w' => ∃ i : Nat, i + k = 4 ∧ us = [.slice p l c, .pointer (some ⟨w.heap.size, 0, none⟩), .slice none 0 0, .slice p0 16 16, .int .i64 (cc : Int), .int .i64 (r : Int), vb (rcol f (fl xs) cc r i), .int .i64 (i : Int)] ∧ Fr [] w3 w') 4
        ⟨0, by omega, rfl, Fr.refl _ _⟩ ?_
      rintro k3 us3 rr3 w4 I3 μ3 hgo3 ⟨i, hi, rfl, f4⟩
      refine ⟨_, _, _, _, _, _, _, _, _, _, _, _, _, _, rfl, cond_d (fun h3 => ?_) (fun h3 => ?_)⟩
      · have hi4 : i < 4 := by omega
        have e1 : IntKind.i64.wrap (IntKind.i64.wrap ((i : Int) + 4) - (r : Int)) = ((i + 4 - r : Nat) : Int) := by
          rw [wrap64 (n := (i : Int) + 4) (by omega) (by omega), wrap64 (by omega) (by omega)]; omega
        have e2 : Int.tmod ((i + 4 - r : Nat) : Int) 4 = (((i + 4 - r) % 4 : Nat) : Int) := rfl
        rw [e1, e2]
        have hm4 : (i + 4 - r) % 4 < 4 := Nat.mod_lt _ (by omega)
        have fv : ff ((i + 4 - r) % 4) = vb (f ((i + 4 - r) % 4)) := by have := hf _ hm4; rwa [Nat.zero_add] at this
        refine ⟨fun w' => w'.cell? ⟨w.heap.size, (i + 4 - r) % 4, none⟩ = some (vb (f ((i + 4 - r) % 4))), Drw.intro fun w5 f5 s5 => ?_⟩
        have f05 := (f3.then f4).then f5
        have hF5 := hF.fr0 f05
        have hc5 : w5.cell? ⟨w.heap.size, (i + 4 - r) % 4, none⟩ = some (vb (f ((i + 4 - r) % 4))) := by rw [hF5.cell hm4, fv]
        refine ⟨_, ixA1 (n := 4) (by kernel_rfl) (by omega) (by omega), _, ⟨hc5, fun w' hw' => Ld.cell (by kernel_rfl) (by rw [Int.toNat_natCast, Nat.zero_add]; exact hw')⟩, ?_⟩
        refine at_c hi4 (by omega) ⟨_, rfl, .inl rfl, ?_⟩
        rw [show 4 * (cc % 4) + i = 4 * cc + i by omega]
        obtain ⟨a, ha, hca⟩ := row_get (t := T_S_uint8) (by kernel_rfl) (hx0.fr0 f05) (c := c) hl (i := 4 * cc + i) (by omega) (k := .i64)
        refine ⟨a, ha, _, Ld.cell (by kernel_rfl) hca, .inl rfl, ?_⟩
        refine refMul_c _ _ _ _ ⟨_, rfl, ?_⟩
        rw [xor8, wrap64 (by omega) (by omega)]
        exact hgo3 _ _ _ (k3 - 1) (by omega) ⟨i + 1, by omega, rfl, f4.then f5⟩
      · have hi4 : i = 4 := by omega
        subst hi4
        unfold ref03_columns_j1
        refine at_c hr4 (by omega) ⟨_, rfl, ?_⟩
        have hO4 := hO3.fr0 f4
        have hzl := hO4.2.1
        refine hO4.sto (by omega) fun w5 f5 hO5 s5 => ?_
        rw [wrap64 (by omega) (by omega)]
        refine hgo2 _ _ _ (k2 - 1) (by omega) ⟨r + 1, _, by omega, rfl, hO4.news (f3.then f4) f5 (Nat.le_refl _), hO5, fun j hj hjc => ?_⟩
        rw [fl_set (by omega)]
        by_cases hji : j = 4 * (cc % 4) + r
        · rw [if_pos hji, ← rcol_eq f _ hj, show j / 4 = cc by omega, show j % 4 = r by omega]
        · rw [if_neg hji]
          exact hz3 j hj (by omega)
    · have hr4 : r = 4 := by omega
      subst hr4
      rw [wrap64 (by omega) (by omega)]
      exact hgo _ _ _ (k - 1) (by omega) ⟨cc + 1, zs2, by omega, rfl, f3, hO3, fun j hj hjr => hz3 j hj (by omega)⟩
  · have hc4 : cc = 4 := by omega
    subst hc4
    rw [bl_of_fl (zs := zs) hO2.2.1.symm (fun j hj => hz j hj (by omega))] at hO2
    exact h p0 w2 (f0.then f2) (hO2.mono n0)
end Go.Sh
end

section
namespace Go.Sh
open Go Go.Fw Go.Proofs
set_option maxRecDepth 100000
set_option linter.unusedVariables false
theorem mk1 {w : World} {x : UInt8} {K : Option Addr → Nat → Nat → World → Prop} (h : ∀ p w', Fr [] w w' → OB w' p 1 1 [x] w.heap.size → w'.heap.size = w.heap.size + 1 → K p 1 1 w') : ∃ p l c w', Ef Tryz.prog (Instr.buildSlice T_S_uint8 1 #[(0, .int .u8 (x.toNat : Int))]) w (.slice p l c) w' ∧ K p l c w' :=
  ⟨_, _, _, Ef.new (v := .slice (some ⟨w.heap.size, 0, none⟩) 1 1) (cs := ([vb x] : List Value).toArray) (e := T_uint8) (by kernel_rfl) fun w' f hB s => h _ w' f ⟨hB.own, rfl, by simp [blks]⟩ s⟩
theorem Table_c {w : World} {K : Value → World → Prop} (h : ∀ p w', Fr [] w w' → OB w' p 256 256 tblL w.heap.size → K (.slice p 256 256) w') : callF Tryz.prog F_ref03_Table #[] w K := by
  apply ref03_Table_call
  unfold ref03_Table
  obtain ⟨P, hP⟩ : ∃ P, P = npow 3 := ⟨_, rfl⟩
  have hP0 : P 0 = 1 := by rw [hP]; rfl
  have hPs : ∀ k, P (k + 1) = gmul (P k) 3 := fun k => by rw [hP]; rfl
  refine mk1 (x := 1) fun p1 w1 f1 hO1 s1 => ?_
  refine LoopS.ind (fun k us w' => ∃ (i : Nat) (q : Option Addr) (cq : Nat), 1 ≤ i ∧ i + k = 255 ∧ us = [.slice none 0 0, .slice q i cq, .int .i64 (i : Int)] ∧ Fr [] w w' ∧ OB w' q i cq (bl i P) w.heap.size) 254
    ⟨1, p1, 1, by omega, by omega, rfl, f1, by rw [show bl 1 P = [1] by simp [bl, hP0]]; exact hO1⟩ ?_
  rintro k us rr w2 I μ hgo ⟨i, q, cq, hi1, hi, rfl, f2, hO2⟩
  refine ⟨_, _, _, _, _, _, _, rfl, cond_d (fun h1 => ?_) (fun h1 => ?_)⟩
  · have hi255 : i < 255 := by omega
    have e1 : IntKind.i64.wrap ((i : Int) - 1) = ((i - 1 : Nat) : Int) := by rw [wrap64 (by omega) (by omega)]; omega
    rw [e1]
    obtain ⟨a, ha, hca⟩ := hO2.get (k := .i64) (i := i - 1) (by omega)
    rw [fl_bl i P _ (by omega)] at hca
    refine ⟨a, ha, _, Ld.cell (by kernel_rfl) hca, ?_⟩
    refine refMul_c (P (i - 1)) 3 _ _ ?_
    rw [← hPs, show i - 1 + 1 = i by omega]
    refine ⟨_, rfl, ?_⟩
    refine push1 hO2 f2.size (by omega) fun p' c' w3 f3 hO3 => ?_
    rw [wrap64 (by omega) (by omega)]
    refine hgo _ _ _ (k - 1) (by omega) ⟨i + 1, p', c', by omega, by omega, rfl, hO2.news f2 f3 (Nat.le_refl _), ?_⟩
    rw [bl_snoc]
    exact hO3
  · have hi255 : i = 255 := by omega
    subst hi255
    unfold ref03_Table_j1
    refine mkN (n := 256) (c := 256) (k := .i64) (k' := .i64) (Nat.le_refl _) (by omega) fun p3 w3 f3 hO3 s3 => ?_
    refine refSign_c 0 _ _ ?_
    have e0 : rsign 0 = gsign 0 := by have := rsign_eq 0; rwa [ginv_zero] at this
    obtain ⟨s0, hs0⟩ : ∃ s, s = gsign 0 := ⟨_, rfl⟩
    rw [e0, ← hs0]
    refine ⟨_, rfl, ?_⟩
    have n2 := f2.size
    have hzl := hO3.2.1
    refine hO3.sto (i := 0) (by omega) fun w4 f4 hO4 s4 => ?_
    have f24 : Fr [] w2 w4 := hO3.news f3 f4 (Nat.le_refl _)
    refine LoopS.ind (fun k us w' => ∃ (i : Nat) (zs : List UInt8), i + k = 255 ∧ us = [.slice none 0 0, .slice q 255 cq, .slice p3 256 256, .int .i64 (i : Int)] ∧ Fr [] w2 w' ∧ OB w' p3 256 256 zs w2.heap.size ∧ fl zs 0 = s0 ∧ ∀ j, j < i → fl zs (P j).toNat = gsign (P j)) 255
      ⟨0, _, by omega, rfl, f24, hO4, by rw [fl_set (by omega)]; rfl, by omega⟩ ?_
    rintro k us rr w5 I2 μ2 hgo2 ⟨i, zs, hi, rfl, f5, hO5, hz0, hz⟩
    refine ⟨_, _, _, _, _, _, _, _, _, _, rfl, cond_d (fun h1 => ?_) (fun h1 => ?_)⟩
    · have hi255 : i < 255 := by omega
      have e1 : Int.tmod (IntKind.i64.wrap (255 - (i : Int))) 255 = (((255 - i) % 255 : Nat) : Int) := by
        rw [wrap64 (by omega) (by omega), show (255 : Int) - (i : Int) = ((255 - i : Nat) : Int) by omega]; rfl
      rw [e1]
      have hm : (255 - i) % 255 < 255 := Nat.mod_lt _ (by omega)
      have hO25 := hO2.fr0 f5
      obtain ⟨a, ha, hca⟩ := hO25.get (k := .i64) (i := i) (by omega)
      obtain ⟨b, hb, hcb⟩ := hO25.get (k := .i64) (i := (255 - i) % 255) hm
      rw [fl_bl 255 P _ hi255] at hca
      rw [fl_bl 255 P _ hm] at hcb
      refine ⟨fun w' => w'.cell? a = some (vb (P i)), Drw.intro fun w6 f6 s6 => ?_⟩
      refine ⟨a, ha, b, hb, _, ⟨f6.cell hca (by simp), fun w' hw' => Ld.cell (by kernel_rfl) hw'⟩, _, Ld.cell (by kernel_rfl) (f6.cell hcb (by simp)), .inl rfl, ?_⟩
      refine refSign_c _ _ _ ?_
      have e2 : rsign (P ((255 - i) % 255)) = gsign (P i) := by
        rw [← rsign_eq (P i), hP, ginv_pow i hi255]
      obtain ⟨s, hs⟩ : ∃ s, s = gsign (P i) := ⟨_, rfl⟩
      rw [e2, ← hs]
      have hpl := (P i).toNat_lt
      have hzl := hO5.2.1
      refine ⟨_, rfl, .inl rfl, ?_⟩
      refine (hO5.fr0 f6).sto (by omega) fun w7 f7 hO7 s7 => ?_
      rw [wrap64 (by omega) (by omega)]
      refine hgo2 _ _ _ (k - 1) (by omega) ⟨i + 1, _, by omega, rfl, (hO5.fr0 f6).news (f5.then f6) f7 (Nat.le_refl _), hO7, ?_, fun j hj => ?_⟩
      · rw [fl_set (by omega), if_neg ?_]
        · exact hz0
        · intro h0
          apply npow3_ne i
          rw [← hP]
          exact UInt8.toNat_inj.1 h0.symm
      · rw [fl_set (by omega)]
        by_cases hji : (P j).toNat = (P i).toNat
        · rw [if_pos hji, hs, UInt8.toNat_inj.1 hji]
        · rw [if_neg hji]
          by_cases hj2 : j = i
          · exact absurd (by rw [hj2]) hji
          · exact hz j (by omega)
    · have hi255 : i = 255 := by omega
      subst hi255
      have e : zs = tblL := bl_of_fl hO5.2.1.symm fun j hj => by
        have ej : (UInt8.ofNat j).toNat = j := by simp; omega
        unfold tblF
        by_cases h0 : UInt8.ofNat j = 0
        · have hj0 : j = 0 := by rw [← ej, h0]; rfl
          subst hj0
          rw [hz0, hs0]; rfl
        · obtain ⟨n, hn, hnp⟩ := glog_ok _ h0
          have := hz n hn
          rw [hP, hnp, ej] at this
          exact this
      rw [e] at hO5
      exact h p3 w5 (f2.then f5) (hO5.mono n2)
end Go.Sh
end

section
namespace Go.Sh
open Go Go.Fw Go.Proofs
set_option maxRecDepth 100000
set_option linter.unusedVariables false
theorem ORows.outer {w : World} {p : Option Addr} {l c : Nat} {rs : List (List UInt8)} {lo hi : Nat} (h : ORows w p l c rs lo hi) : ∀ k ∈ blks p, lo ≤ k ∧ k < hi := by obtain ⟨vs, q, d, _, _, hp, _⟩ := h; exact hp
theorem ORows.len {w : World} {p : Option Addr} {l c : Nat} {rs : List (List UInt8)} {lo hi : Nat} (h : ORows w p l c rs lo hi) : l = rs.length := by obtain ⟨vs, q, d, _, hl, _⟩ := h; exact hl
theorem mkR0 {w : World} {K : Option Addr → Nat → Nat → World → Prop} (h : ∀ p w', Fr [] w w' → ORows w' p 0 0 [] w.heap.size w'.heap.size → K p 0 0 w') : ∃ p l c w', Ef Tryz.prog (Instr.buildSlice T_S_S_uint8 0 #[]) w (.slice p l c) w' ∧ K p l c w' :=
  ⟨_, _, _, Ef.new (cs := #[]) (v := .slice (some ⟨w.heap.size, 0, none⟩) 0 0) (e := T_S_uint8) (by kernel_rfl) fun w' f hB s => h _ w' f ⟨[], fun _ => none, fun _ => 0, ⟨rfl, .inr ⟨_, _, _, _, rfl, hB, by simp, by simp, by simp⟩⟩, rfl, by simp [blks]; omega, by omega⟩⟩
theorem pushR {w : World} {p : Option Addr} {l c : Nat} {rs : List (List UInt8)} {lo hi lo1 : Nat} (h : ORows w p l c rs lo hi) (hhi : hi ≤ w.heap.size) (hlo : lo ≤ hi) {q1 : Option Addr} {n1 d1 : Nat} {r : List UInt8} (hq : OB w q1 n1 d1 r lo1) (hn : hi ≤ lo1) (hlen : l < 1073741824) {K : Option Addr → Nat → Nat → World → Prop}
    (hk : ∀ p' c' w', Fr (blks p) w w' → ORows w' p' (l + 1) c' (rs ++ [r]) lo w'.heap.size → K p' (l + 1) c' w') :
    ∃ q m d w1, Ef Tryz.prog (Instr.buildSlice T_S_S_uint8 1 #[(0, .slice q1 n1 d1)]) w (.slice q m d) w1 ∧ ∃ p' l' c' w2, Ef Tryz.prog (Builtin.append_ #[T_S_S_uint8, T_S_S_uint8] T_S_S_uint8 #[.slice p l c, .slice q m d]) w1 (.slice p' l' c') w2 ∧ K p' l' c' w2 := by
  refine ⟨_, _, _, Ef.new (v := .slice (some ⟨w.heap.size, 0, none⟩) 1 1) (cs := ([.slice q1 n1 d1] : List Value).toArray) (e := T_S_uint8) (by kernel_rfl) fun w1 f1 hB1 s1 => ?_⟩
  obtain ⟨p', c', w2, he, hO2, f2⟩ := (h.fr0 f1).push (by omega) hlo (r := r) (hq.1.fr0 f1) hq.2.1 (fun k hk => by have := hq.2.2 k hk; omega) hB1.rowL (d2 := 1) hlen
  exact ⟨_, _, _, _, he, hk p' c' w2 (f1.after f2) hO2⟩
theorem ORows.news {a w w' : World} {p : Option Addr} {l c : Nat} {rs : List (List UInt8)} {lo hi : Nat} (h : ORows w p l c rs lo hi) (h1 : Fr [] a w) (h2 : Fr (blks p) w w') (h3 : a.heap.size ≤ lo) : Fr [] a w' := h1.trans h2 fun z hz => .inr (Nat.le_trans h3 (h.outer z hz).1)
def rowsF (n s : Nat) (x : Nat → UInt8) : List (List UInt8) := (List.range n).map fun k => bl s (fun j => x (s * k + j))
theorem rowsF_succ (n s : Nat) (x : Nat → UInt8) : rowsF (n + 1) s x = rowsF n s x ++ [bl s (fun j => x (s * n + j))] := by simp [rowsF, List.range_succ]
theorem rowsF_at {n s : Nat} {x : Nat → UInt8} {k : Nat} (h : k < n) : (rowsF n s x).getD k [] = bl s (fun j => x (s * k + j)) := by simp [rowsF, h]
theorem bl_add (m n : Nat) (x : Nat → UInt8) : bl (m + n) x = bl m x ++ bl n (fun j => x (m + j)) := by
  unfold bl
  rw [List.range_add, List.map_append, List.map_map]
  rfl
theorem bl_part {xs : List UInt8} {i s : Nat} (h : i + s ≤ xs.length) : (xs.take (i + s)).drop i = bl s (fun j => fl xs (i + j)) := by
  apply List.ext_getElem?
  intro j
  rw [List.getElem?_drop]
  by_cases hj : j < s
  · rw [List.getElem?_take, if_pos (by omega), bl_get hj]
    unfold fl
    rw [List.getD_eq_getElem?_getD, List.getElem?_eq_getElem (by omega)]
    rfl
  · rw [List.getElem?_eq_none (by simp; omega), List.getElem?_eq_none (by rw [bl_len]; omega)]
set_option maxHeartbeats 2000000 in
theorem refKeys_c {w : World} {p q : Option Addr} {l c m d : Nat} {xs : List UInt8} (hx : Row w p (xs.map vb)) (hl : l = xs.length) (h16 : xs.length = 16) (hcap : l ≤ c) (ht : Row w q (tblL.map vb)) (hm : m = 256) {K : Value → World → Prop}
    (h : ∀ p' c' w', Fr [] w w' → ORows w' p' 11 c' (keysL (akeys (fl xs)) 11) w.heap.size w'.heap.size → K (.slice p' 11 c') w') : callF Tryz.prog F_ref03_Keys #[.slice p l c, .slice q m d] w K := by
  apply ref03_Keys_call
  unfold ref03_Keys
  obtain ⟨A, hA⟩ : ∃ A, A = akeys (fl xs) := ⟨_, rfl⟩
  have hword : ∀ k j, k < 44 → j < 4 → A (4 * k + j) = wnext (fl xs) k A j := fun k j hk hj => by rw [hA]; exact akeys_word _ hk hj
  rw [← hA] at h
  refine mkR0 fun p0 w1 f1 hR1 => ?_
  refine LoopS.ind (fun k us w' => ∃ (i : Nat) (p5 : Option Addr) (c5 : Nat), i + k = 4 ∧ us = [.slice p l c, .slice q m d, .slice none 0 0, .slice p5 i c5, .int .i64 (i : Int)] ∧ Fr [] w w' ∧ ORows w' p5 i c5 (rowsF i 4 A) w.heap.size w'.heap.size) 4
    ⟨0, p0, 0, by omega, rfl, f1, hR1⟩ ?_
  rintro k us rr w2 I μ hgo ⟨i, p5, c5, hi, rfl, f2, hR2⟩
  have n2 := f2.size
  refine ⟨_, _, _, _, _, _, _, _, _, _, _, _, _, rfl, cond_d (fun h1 => ?_) (fun h1 => ?_)⟩
  · have hi4 : i < 4 := by omega
    refine mk0 fun p19 w3 f3 hO3 s3 => ?_
    have e1 : IntKind.i64.wrap (4 * (i : Int)) = ((4 * i : Nat) : Int) := by rw [wrap64 (by omega) (by omega)]; omega
    have e2 : IntKind.i64.wrap (((4 * i : Nat) : Int) + 4) = ((4 * i + 4 : Nat) : Int) := by rw [wrap64 (by omega) (by omega)]; omega
    rw [e1, e2]
    refine ⟨_, _, _, PuSl (s := 1) (kl := .i64) (kh := .i64) (lo := some ((4 * i : Nat) : Int)) (hi := some ((4 * i + 4 : Nat) : Int)) (by kernel_rfl) (by show 0 ≤ ((4 * i : Nat) : Int); omega) (by show ((4 * i : Nat) : Int) ≤ ((4 * i + 4 : Nat) : Int); omega) (by show ((4 * i + 4 : Nat) : Int) ≤ (c : Int); omega), ?_⟩
    simp only [Option.getD, Int.toNat_natCast]
    have hx3 := (hx.fr0 f2).fr0 f3
    have hrow : Row w3 (Go.Fw.partAt p c (4 * i) 1) ((bl 4 (fun j => A (4 * i + j))).map vb) := by
      have h5 := (hx3.take (4 * i + 4)).part (c := c) (l := 4 * i) (by simp; omega)
      rw [← List.map_take, ← List.map_drop, bl_part (by omega)] at h5
      have e5 : bl 4 (fun j => fl xs (4 * i + j)) = bl 4 (fun j => A (4 * i + j)) := bl_congr fun j hj => by
        show fl xs (4 * i + j) = A (4 * i + j)
        rw [hword i j (by omega) hj]; unfold wnext; rw [if_pos hi4]
      rw [e5] at h5
      exact h5
    refine pushN hO3 (by omega) hrow (m := 4 * i + 4 - 4 * i) (by rw [bl_len]; omega) (by omega) fun p' c' w4 f4 hO4 => ?_
    have e4 : 0 + (4 * i + 4 - 4 * i) = 4 := by omega
    rw [e4] at hO4
    rw [e4]
    have f24 : Fr [] w2 w4 := hO3.news f3 f4 (Nat.le_refl _)
    have n24 := f24.size
    refine pushR (hR2.fr0 f24) (by omega) n2 hO4 (Nat.le_refl _) (by omega) fun p6 c6 w5 f5 hR5 => ?_
    rw [wrap64 (by omega) (by omega)]
    refine hgo _ _ _ (k - 1) (by omega) ⟨i + 1, p6, c6, by omega, rfl, (hR2.fr0 f24).news (f2.then f24) f5 (Nat.le_refl _), ?_⟩
    rw [rowsF_succ]
    exact hR5
  · have hi4 : i = 4 := by omega
    subst hi4
    unfold ref03_Keys_j3
    refine LoopS.ind (fun k us w' => ∃ (i : Nat) (p5 : Option Addr) (c5 : Nat), 4 ≤ i ∧ i + k = 44 ∧ us = [.slice q m d, .slice none 0 0, .slice p5 i c5, .int .i64 (i : Int)] ∧ Fr [] w w' ∧ ORows w' p5 i c5 (rowsF i 4 A) w.heap.size w'.heap.size) 40
      ⟨4, p5, c5, by omega, by omega, rfl, f2, hR2⟩ ?_
    rintro k us rr w3 I2 μ2 hgo2 ⟨i, p5, c5, hi4, hi, rfl, f3, hR3⟩
    have n3 := f3.size
    refine ⟨_, _, _, _, _, _, _, _, _, _, rfl, cond_d (fun h2 => ?_) (fun h2 => ?_)⟩
    · have hi44 : i < 44 := by omega
      have e1 : IntKind.i64.wrap ((i : Int) - 1) = ((i - 1 : Nat) : Int) := by rw [wrap64 (by omega) (by omega)]; omega
      have e4 : IntKind.i64.wrap ((i : Int) - 4) = ((i - 4 : Nat) : Int) := by rw [wrap64 (by omega) (by omega)]; omega
      rw [e1]
      obtain ⟨a, qa, da, ha, hca, hOa, hqa⟩ := hR3.get (i := i - 1) (by omega) (k := .i64)
      rw [rowsF_at (by omega), bl_len] at hca hOa
      refine ⟨a, ha, _, _, _, Ld.cell (by kernel_rfl) hca, ?_⟩
      have em : Int.tmod (i : Int) 4 = ((i % 4 : Nat) : Int) := rfl
      have ed : IntKind.i64.wrap (Int.tdiv (i : Int) 4) = ((i / 4 : Nat) : Int) := by
        have : Int.tdiv (i : Int) 4 = ((i / 4 : Nat) : Int) := rfl
        rw [this]; exact wrap64 (by omega) (by omega)
      rw [em, ed]
      have fin : ∀ w4 q8 c8, Fr [] w3 w4 → Row w4 q8 ((bl 4 (fun j => if i % 4 = 0 then turnedF (fun j => A (4 * (i - 1) + j)) (i / 4) j else A (4 * (i - 1) + j))).map vb) →
          ref03_Keys_j1 I2 μ2 [.slice q m d, .slice none 0 0, .slice p5 i c5, .int .i64 (i : Int)] w3 q m d none 0 0 p5 i c5 (i : Int) q8 4 c8 w4 K := by
        intro w4 q8 c8 f34 hrow
        unfold ref03_Keys_j1
        have n34 := f34.size
        rw [e4]
        have hR4 := hR3.fr0 f34
        obtain ⟨b, qb, db, hb, hcb, hOb, hqb⟩ := hR4.get (i := i - 4) (by omega) (k := .i64)
        rw [rowsF_at (by omega), bl_len] at hcb hOb
        refine ⟨b, hb, _, _, _, Ld.cell (by kernel_rfl) hcb, ?_⟩
        refine ref_add_c hOb.row (by rw [bl_len]) hrow (by rw [bl_len]) (Nat.le_refl _) (by omega) fun p9 c9 w5 f5 hO5 => ⟨_, _, _, rfl, ?_⟩
        have n5 := f5.size
        refine pushR (hR4.fr0 f5) (by omega) n3 hO5 n34 (by omega) fun p6 c6 w6 f6 hR6 => ?_
        rw [wrap64 (by omega) (by omega)]
        refine hgo2 _ _ _ (k - 1) (by omega) ⟨i + 1, p6, c6, by omega, by omega, rfl, (hR4.fr0 f5).news ((f3.then f34).then f5) f6 (Nat.le_refl _), ?_⟩
        rw [rowsF_succ]
        have e6 : bl 4 (xorF (fl (bl 4 (fun j => A (4 * (i - 4) + j)))) (fl (bl 4 (fun j => if i % 4 = 0 then turnedF (fun j => A (4 * (i - 1) + j)) (i / 4) j else A (4 * (i - 1) + j))))) = bl 4 (fun j => A (4 * i + j)) := by
          rw [bl_xor]
          refine bl_congr fun j hj => ?_
          show A (4 * (i - 4) + j) ^^^ _ = A (4 * i + j)
          rw [hword i j hi44 hj]
          unfold wnext
          rw [if_neg (by omega)]
        rw [e6] at hR6
        exact hR6
      refine cond_eq (fun h3 => ?_) (fun h3 => ?_)
      · have hm4 : i % 4 = 0 := by omega
        have hil : i - 1 < 44 := by omega
        obtain ⟨y, hy⟩ : ∃ y : Nat → UInt8, y = fun j => A (4 * (i - 1) + j) := ⟨_, rfl⟩
        rw [← hy] at hOa fin
        obtain ⟨a1, ha1, hc1⟩ := row_get (t := T_S_uint8) (by kernel_rfl) hOa.row (c := da) (l := 4) (by rw [bl_len]) (i := 1) (by omega) (k := .i64)
        obtain ⟨a2, ha2, hc2⟩ := row_get (t := T_S_uint8) (by kernel_rfl) hOa.row (c := da) (l := 4) (by rw [bl_len]) (i := 2) (by omega) (k := .i64)
        obtain ⟨a3, ha3, hc3⟩ := row_get (t := T_S_uint8) (by kernel_rfl) hOa.row (c := da) (l := 4) (by rw [bl_len]) (i := 3) (by omega) (k := .i64)
        obtain ⟨a0, ha0, hc0⟩ := row_get (t := T_S_uint8) (by kernel_rfl) hOa.row (c := da) (l := 4) (by rw [bl_len]) (i := 0) (by omega) (k := .i64)
        rw [bl_getD (by omega)] at hc0 hc1 hc2 hc3
        refine ⟨fun w' => Fr [] w3 w', Drw.intro fun w4 f4 s4 => ?_⟩
        refine ⟨a1, ha1, a2, ha2, a3, ha3, a0, ha0, _, ⟨f4, fun w' hw' => Ld.cell (by kernel_rfl) (hw'.cell hc1 (by simp))⟩, _, ⟨f4, fun w' hw' => Ld.cell (by kernel_rfl) (hw'.cell hc2 (by simp))⟩, _, ⟨f4, fun w' hw' => Ld.cell (by kernel_rfl) (hw'.cell hc3 (by simp))⟩, _, Ld.cell (by kernel_rfl) (f4.cell hc0 (by simp)), .inl rfl, ?_⟩
        refine ⟨_, _, _, Ef.new (v := .slice (some ⟨w4.heap.size, 0, none⟩) 4 4) (cs := (([y 1, y 2, y 3, y 0] : List UInt8).map vb).toArray) (e := T_uint8) (by kernel_rfl) fun w5 f5 hB5 s5 => ?_⟩
        have f35 := f4.then f5
        refine ref_subs_c (l := 4) (xs := [y 1, y 2, y 3, y 0]) hB5.rowL rfl (((ht.fr0 f3).fr0 f35)) (ts := tblL) (by rw [hm]; exact (bl_len _ _).symm) hm (by omega) fun p6 c6 w6 f6 hO6 => ⟨_, _, _, rfl, ?_⟩
        have e5 : ([y 1, y 2, y 3, y 0] : List UInt8).map (fun a => fl tblL a.toNat) = bl 4 (fun j => gsign (y ((j + 1) % 4))) := by
          have : ∀ a : UInt8, fl tblL a.toNat = gsign a := tblL_at
          simp only [List.map, this]
          rfl
        rw [e5] at hO6
        obtain ⟨z, hz⟩ : ∃ z : Nat → UInt8, z = fun j => gsign (y ((j + 1) % 4)) := ⟨_, rfl⟩
        rw [← hz] at hO6
        obtain ⟨b, hb, hcb⟩ := hO6.get (k := .i64) (i := 0) (by omega)
        rw [fl_bl 4 z 0 (by omega)] at hcb
        refine ⟨fun w' => w'.cell? b = some (vb (z 0)), Drw.intro fun w7 f7 s7 => ?_⟩
        refine ⟨b, hb, _, ⟨f7.cell hcb (by simp), fun w' hw' => Ld.cell (by kernel_rfl) hw'⟩, ?_⟩
        have er : IntKind.u64.wrap (IntKind.i64.wrap (((i / 4 : Nat) : Int) - 1)) = ((UInt64.ofNat (i / 4 - 1)).toNat : Int) := by
          have e1 : ((i / 4 : Nat) : Int) - 1 = ((i / 4 - 1 : Nat) : Int) := by omega
          have e2 : (UInt64.ofNat (i / 4 - 1)).toNat = i / 4 - 1 := by simp; omega
          rw [e1, wrap64 (by omega) (by omega), wrapu64 (by omega) (by omega), e2]
        rw [er]
        obtain ⟨p0, hp0⟩ : ∃ p, p = gpow 2 (UInt64.ofNat (i / 4 - 1)) := ⟨_, rfl⟩
        refine refPow_c 2 _ _ _ ?_
        rw [← hp0]
        refine ⟨_, rfl, .inl rfl, ?_⟩
        rw [xor8]
        have f37 := (f35.then f6).then f7
        have hlen6 := hO6.2.1
        refine (hO6.fr0 f7).sto (i := 0) (by omega) fun w8 f8 hO8 s8 => ?_
        refine fin w8 p6 c6 ((hO6.fr0 f7).news f37 f8 f35.size) ?_
        have e8 : (bl 4 z).set 0 (z 0 ^^^ p0) = bl 4 (fun j => if i % 4 = 0 then turnedF y (i / 4) j else y j) := by
          refine bl_of_fl (by simp [bl_len]) fun j hj => ?_
          rw [fl_set (by rw [bl_len]; omega)]
          show _ = if i % 4 = 0 then turnedF y (i / 4) j else y j
          rw [if_pos hm4]
          unfold turnedF
          by_cases hj0 : j = 0
          · subst hj0; rw [if_pos rfl, if_pos rfl, ← hp0, hz]
          · rw [if_neg hj0, if_neg hj0, fl_bl 4 z j hj, hz]
        have hrow8 := hO8.row
        rw [e8] at hrow8
        rw [hy] at hrow8 ⊢
        exact hrow8
      · have hm4 : ¬ i % 4 = 0 := by omega
        refine fin w3 qa da (Fr.refl _ _) ?_
        have e6 : bl 4 (fun j => if i % 4 = 0 then turnedF (fun j => A (4 * (i - 1) + j)) (i / 4) j else A (4 * (i - 1) + j)) = bl 4 (fun j => A (4 * (i - 1) + j)) := bl_congr fun j hj => if_neg hm4
        rw [e6]
        exact hOa.row
    · have hi44 : i = 44 := by omega
      subst hi44
      unfold ref03_Keys_j2
      refine mkR0 fun p7 w4 f4 hR4 => ?_
      refine LoopS.ind (fun k us w' => ∃ (i : Nat) (p9 : Option Addr) (c9 : Nat), i + k = 11 ∧ us = [.slice none 0 0, .slice p5 44 c5, .slice p9 i c9, .int .i64 (i : Int)] ∧ Fr [] w3 w' ∧ ORows w' p9 i c9 (rowsF i 16 A) w3.heap.size w'.heap.size) 11
        ⟨0, p7, 0, by omega, rfl, f4, hR4⟩ ?_
      rintro k us rr w5 I3 μ3 hgo3 ⟨i, p9, c9, hi, rfl, f5, hR5⟩
      have n5 := f5.size
      refine ⟨_, _, _, _, _, _, _, _, _, _, rfl, cond_d (fun h3 => ?_) (fun h3 => ?_)⟩
      · have hi11 : i < 11 := by omega
        refine mk0 fun p10 w6 f6 hO6 s6 => ?_
        refine LoopS.ind (fun k us w' => ∃ (j : Nat) (p11 : Option Addr) (c11 : Nat), j + k = 4 ∧ us = [.slice none 0 0, .slice p5 44 c5, .slice p9 i c9, .int .i64 (i : Int), .slice p11 (4 * j) c11, .int .i64 (j : Int)] ∧ Fr [] w5 w' ∧ OB w' p11 (4 * j) c11 (bl (4 * j) (fun t => A (16 * i + t))) w5.heap.size) 4
          ⟨0, p10, 0, by omega, rfl, f6, hO6⟩ ?_
        rintro k2 us2 rr2 w7 I4 μ4 hgo4 ⟨j, p11, c11, hj, rfl, f7, hO7⟩
        refine ⟨_, _, _, _, _, _, _, _, _, _, _, _, _, _, rfl, cond_d (fun h4 => ?_) (fun h4 => ?_)⟩
        · have hj4 : j < 4 := by omega
          have e1 : IntKind.i64.wrap (4 * (i : Int)) = ((4 * i : Nat) : Int) := by rw [wrap64 (by omega) (by omega)]; omega
          have e2 : IntKind.i64.wrap (((4 * i : Nat) : Int) + (j : Int)) = ((4 * i + j : Nat) : Int) := by rw [wrap64 (by omega) (by omega)]; omega
          rw [e1, e2]
          obtain ⟨a, qa, da, ha, hca, hOa, hqa⟩ := ((hR3.fr0 f5).fr0 f7).get (i := 4 * i + j) (by omega) (k := .i64)
          rw [rowsF_at (by omega), bl_len] at hca hOa
          refine ⟨a, ha, _, _, _, Ld.cell (by kernel_rfl) hca, ?_⟩
          refine pushN hO7 f7.size hOa.row (by rw [bl_len]) (by omega) fun p' c' w8 f8 hO8 => ?_
          rw [wrap64 (by omega) (by omega)]
          refine hgo4 _ _ _ (k2 - 1) (by omega) ⟨j + 1, p', c', by omega, rfl, hO7.news f7 f8 (Nat.le_refl _), ?_⟩
          have e8 : bl (4 * j) (fun t => A (16 * i + t)) ++ bl 4 (fun t => A (4 * (4 * i + j) + t)) = bl (4 * (j + 1)) (fun t => A (16 * i + t)) := by
            rw [show 4 * (j + 1) = 4 * j + 4 by omega, bl_add]
            congr 1
            refine bl_congr fun t _ => ?_
            show A _ = A _
            congr 1; omega
          rw [e8] at hO8
          exact hO8
        · have hj4 : j = 4 := by omega
          subst hj4
          have n7 := f7.size
          refine pushR (hR5.fr0 f7) n7 n5 hO7 (Nat.le_refl _) (by omega) fun p12 c12 w8 f8 hR8 => ?_
          rw [wrap64 (by omega) (by omega)]
          refine hgo3 _ _ _ (k - 1) (by omega) ⟨i + 1, p12, c12, by omega, rfl, (hR5.fr0 f7).news (f5.then f7) f8 (Nat.le_refl _), ?_⟩
          rw [rowsF_succ]
          exact hR8
      · have hi11 : i = 11 := by omega
        subst hi11
        exact h p9 c9 w5 (f3.then f5) (hR5.mono n3 (Nat.le_refl _))
end Go.Sh
end

section
namespace Go.Sh
open Go Go.Fw Go.Proofs
set_option maxRecDepth 100000
set_option linter.unusedVariables false
theorem rows_ld {w : World} {p : Option Addr} {rs : List (List UInt8)} (h : RowB w p rs) {l c i : Nat} (hl : l = rs.length) (hi : i < l) {r : List UInt8} (hr : rs.getD i [] = r) {k : IntKind} :
    ∃ a q d, IxA Tryz.prog T_S_S_uint8 (.slice p l c) (.int k (i : Int)) a ∧ Ld Tryz.prog T_S_uint8 (.pointer (some a)) w (.slice q r.length d) ∧ Row w q (r.map vb) := by
  obtain ⟨a, q, d, h1, h2, h3, _⟩ := rows_get (t := T_S_S_uint8) (by kernel_rfl) h (c := c) hl hi (k := k)
  rw [hr] at h2 h3
  exact ⟨a, q, d, h1, Ld.cell (by kernel_rfl) h2, h3⟩
set_option maxHeartbeats 1000000 in
theorem refWith_c {w : World} {p q t : Option Addr} {l c m d n e : Nat} {xs ys : List UInt8} (hx : Row w p (xs.map vb)) (hl : l = xs.length) (h16 : xs.length = 16) (hcap : l ≤ c) (hy : Row w q (ys.map vb)) (hm : m = ys.length) (h16' : ys.length = 16) (ht : Row w t (tblL.map vb)) (hn : n = 256) {K : Value → World → Prop}
    (h : ∀ p' c' w', Fr [] w w' → OB w' p' 16 c' (aencL xs ys) w.heap.size → K (.slice p' 16 c') w') : callF Tryz.prog F_ref03_With #[.slice p l c, .slice q m d, .slice t n e] w K := by
  apply ref03_With_call
  unfold ref03_With
  obtain ⟨A, hA⟩ : ∃ A, A = akeys (fl xs) := ⟨_, rfl⟩
  have hfin : aencL xs ys = bl 16 (encR A (fl ys) 10) := by rw [hA]; rfl
  rw [hfin] at h
  refine refKeys_c hx hl h16 hcap ht hn fun pk ck w1 f1 hK => ⟨_, _, _, rfl, ?_⟩
  rw [← hA] at hK
  have hKB := hK.rowB
  obtain ⟨a, qa, da, ha, lda, hra⟩ := rows_ld hKB (c := ck) (l := 11) (i := 0) (by rw [keysL_len]) (by omega) (keysL_at A (by omega)) (k := .i64)
  refine ⟨a, ha, _, _, _, lda, ?_⟩
  subst hm
  refine ref_add_c (hy.fr0 f1) rfl hra rfl (by rw [bl_len]; omega) (by omega) fun p8 c8 w2 f2 hO2 => ⟨_, _, _, rfl, ?_⟩
  rw [h16'] at hO2
  have e0 : bl 16 (xorF (fl ys) (fl (bl 16 (kAt A 0)))) = bl 16 (encR A (fl ys) 0) := bl_congr (xorF_congr2 (fun _ _ => rfl) (fl_bl 16 _))
  rw [e0] at hO2
  rw [h16']
  have n1 := f1.size
  refine LoopS.ind (fun k us w' => ∃ (r : Nat) (p8 : Option Addr) (c8 : Nat), r + k = 10 ∧ us = [.slice t n e, .slice none 0 0, .slice pk 11 ck, .slice p8 16 c8, .int .i64 ((r + 1 : Nat) : Int)] ∧ Fr [] w1 w' ∧ OB w' p8 16 c8 (bl 16 (encR A (fl ys) r)) w1.heap.size) 10
    ⟨0, p8, c8, by omega, rfl, f2, hO2⟩ ?_
  rintro k us rr w3 I μ hgo ⟨r, p8, c8, hr, rfl, f3, hO3⟩
  have n3 := f3.size
  refine ⟨_, _, _, _, _, _, _, _, _, _, _, _, _, rfl, cond_d (fun h2 => ?_) (fun h2 => ?_)⟩
  · obtain ⟨y, hy⟩ : ∃ y, y = encR A (fl ys) r := ⟨_, rfl⟩
    rw [← hy] at hO3
    refine ref_subs_c hO3.row (by rw [bl_len]) ((ht.fr0 f1).fr0 f3) (by rw [hn]; exact (bl_len _ _).symm) hn (by omega) fun p4 c4 w4 f4 hO4 => ⟨_, _, _, rfl, ?_⟩
    have e4 : (bl 16 y).map (fun a => fl tblL a.toNat) = bl 16 (fun j => gsign (y j)) := by
      rw [bl_map]
      exact bl_congr fun j _ => tblL_at _
    rw [e4] at hO4
    refine ref_rows_c (m := 1) hO4.row (by rw [bl_len]) (bl_len _ _) (by omega) fun p5 w5 f5 hO5 => ⟨_, _, _, rfl, ?_⟩
    rw [bl_rows] at hO5
    have f35 := f4.then f5
    have fin : ∀ w6 p6 c6 z, Fr [] w3 w6 → OB w6 p6 16 c6 (bl 16 z) w3.heap.size → xorF z (kAt A (r + 1)) = encR A (fl ys) (r + 1) →
        ref03_With_j1 I μ [.slice t n e, .slice none 0 0, .slice pk 11 ck, .slice p8 16 c8, .int .i64 ((r + 1 : Nat) : Int)] w3 t n e none 0 0 pk 11 ck p6 16 c6 ((r + 1 : Nat) : Int) w6 K := by
      intro w6 p6 c6 z f36 hO6 hz
      unfold ref03_With_j1
      obtain ⟨b, qb, db, hb, ldb, hrb⟩ := rows_ld ((hKB.fr0 f3).fr0 f36) (c := ck) (l := 11) (i := r + 1) (by rw [keysL_len]) (by omega) (keysL_at A (by omega)) (k := .i64)
      refine ⟨b, hb, _, _, _, ldb, ?_⟩
      refine ref_add_c hO6.row (by rw [bl_len]) hrb rfl (by rw [bl_len]; exact Nat.le_refl _) (by omega) fun p7 c7 w7 f7 hO7 => ⟨_, _, _, rfl, ?_⟩
      rw [bl_xor, hz] at hO7
      rw [wrap64 (by omega) (by omega)]
      have n36 := f36.size
      exact hgo _ _ _ (k - 1) (by omega) ⟨r + 1, p7, c7, by omega, rfl, (f3.then f36).then f7, hO7.mono (by omega)⟩
    refine cond_d (fun h3 => ?_) (fun h3 => ?_)
    · have hr9 : r + 1 < 10 := by omega
      refine ref_columns_c (f := fE) hO5.row (by rw [bl_len]) (bl_len _ _) fun p6 w6 f6 hO6 => ⟨_, _, _, rfl, ?_⟩
      rw [bl_cols] at hO6
      refine fin w6 p6 16 _ (f35.then f6) (hO6.mono f35.size) ?_
      rw [encR_succ, ← hy]
      unfold mixR
      rw [if_pos hr9]
    · have hr9 : ¬ r + 1 < 10 := by omega
      refine fin w5 p5 16 _ f35 (hO5.mono f4.size) ?_
      rw [encR_succ, ← hy]
      unfold mixR
      rw [if_neg hr9]
  · have hr10 : r = 10 := by omega
    subst hr10
    exact h p8 c8 w3 (f1.then f3) (hO3.mono n1)
theorem refEncrypt_c {w : World} {p q : Option Addr} {l c m d : Nat} {xs ys : List UInt8} (hx : Row w p (xs.map vb)) (hl : l = xs.length) (h16 : xs.length = 16) (hcap : l ≤ c) (hy : Row w q (ys.map vb)) (hm : m = ys.length) (h16' : ys.length = 16) {K : Value → World → Prop}
    (h : ∀ p' c' w', Fr [] w w' → OB w' p' 16 c' (aencL xs ys) w.heap.size → K (.slice p' 16 c') w') : callF Tryz.prog F_ref03_Encrypt #[.slice p l c, .slice q m d] w K := by
  apply ref03_Encrypt_call
  unfold ref03_Encrypt
  refine Table_c fun pt w1 f1 hT => ⟨_, _, _, rfl, ?_⟩
  refine refWith_c (hx.fr0 f1) hl h16 hcap (hy.fr0 f1) hm h16' hT.row rfl fun p' c' w2 f2 hO => ⟨_, _, _, rfl, ?_⟩
  exact h p' c' w2 (f1.then f2) (hO.mono f1.size)
end Go.Sh
end

section
namespace Go.Sh
open Go Go.Fw Go.Proofs
set_option maxRecDepth 100000
set_option linter.unusedVariables false
def Cip (w : World) (c : Nat) (key : List UInt8) (d : Int) (lo hi : Nat) : Prop := ∃ t F, Ciph w c t F (akeys (fl key)) d ∧ (∀ k ∈ F, lo ≤ k ∧ k < hi) ∧ lo ≤ c ∧ c < hi
theorem Cip.fr {w w' : World} {c : Nat} {key : List UInt8} {d : Int} {lo hi : Nat} {L : List Nat} (h : Cip w c key d lo hi) (hf : Fr L w w') (hl : ∀ k ∈ L, k < lo ∨ hi ≤ k) : Cip w' c key d lo hi := by
  obtain ⟨t, F, hC, hF, h1, h2⟩ := h
  exact ⟨t, F, hC.fr hf (fun hc => by have := hl _ hc; omega) (fun k hk hkF => by have := hl k hk; have := hF k hkF; omega), hF, h1, h2⟩
theorem Cip.fr0 {w w' : World} {c : Nat} {key : List UInt8} {d : Int} {lo hi : Nat} (h : Cip w c key d lo hi) (hf : Fr [] w w') : Cip w' c key d lo hi := h.fr hf (by simp)
theorem Cip.lt {w : World} {c : Nat} {key : List UInt8} {d : Int} {lo hi : Nat} (h : Cip w c key d lo hi) : lo ≤ c ∧ c < hi := by obtain ⟨t, F, hC, hF, h1, h2⟩ := h; exact ⟨h1, h2⟩
theorem Row.blk_lt {w : World} {p : Option Addr} {xs : List UInt8} (h : Row w p (xs.map vb)) (h0 : 0 < xs.length) : ∀ k ∈ blks p, k < w.heap.size := by
  obtain ⟨b, o, rfl, hc⟩ := Row.some h h0
  simp only [blks, List.mem_singleton]
  rintro k rfl
  exact World.block_lt_of_cell? w _ (hc 0 h0)
theorem newCip_c {w : World} {p : Option Addr} {l cap : Nat} {xs : List UInt8} (hx : Row w p (xs.map vb)) (hl : l = xs.length) (h16 : xs.length = 16) (hcap : xs.length ≤ cap) {K : Value → World → Prop}
    (h : ∀ c w', Fr [] w w' → Cip w' c xs 0 w.heap.size w'.heap.size → K (.tuple #[.pointer (some ⟨c, 0, none⟩), .int .i64 0]) w') : callF Tryz.prog F_aes_New #[.slice p l cap] w K :=
  aesNew_c hx hl h16 hcap fun c t F w' f hC hF hc => h c w' f ⟨t, F, hC, fun k hk => ⟨hF k hk, by obtain ⟨_, _, _, _, _, _, _, h⟩ := hC; exact h k hk⟩, hc, hC.lt⟩
theorem encCip_c {w : World} {c : Nat} {key : List UInt8} {d : Int} {lo hi : Nat} (hC : Cip w c key d lo hi) (hd0 : 0 ≤ d) (hd : d < 1000000000000) {p : Option Addr} {l cap : Nat} {xs : List UInt8} (hx : Row w p (xs.map vb)) (hl : l = xs.length) (h16 : xs.length = 16) (hpc : ∀ k ∈ blks p, k < lo ∨ hi ≤ k) {K : Value → World → Prop}
    (h : ∀ p' w', Fr [c] w w' → Cip w' c key (d + 1) lo hi → OB w' p' 16 16 (aencL key xs) w.heap.size → K (.tuple #[.slice p' 16 16, .int .i64 0]) w') :
    callF Tryz.prog F_aes_Cipher_Encrypt #[.pointer (some ⟨c, 0, none⟩), .slice p l cap] w K := by
  obtain ⟨t, F, hC, hF, h1, h2⟩ := hC
  exact Encrypt_c hC hd0 hd hx hl h16 (fun hk => by have := hpc _ hk; omega) fun b w' f hC' hb hbl => h _ w' f ⟨t, F, hC', hF, h1, h2⟩ ⟨hb.own, by simp [aencL_len], by simp [blks]; exact hbl⟩
theorem OB.fr_sep {w w' : World} {p : Option Addr} {l c : Nat} {xs : List UInt8} {lo b : Nat} (h : OB w p l c xs lo) (hf : Fr [b] w w') (hl : b < lo) : OB w' p l c xs lo :=
  h.fr hf fun k hk => by have := h.2.2 k hk; simp; omega
theorem Row.fr_lt {w w' : World} {p : Option Addr} {xs : List UInt8} {b : Nat} (h : Row w p (xs.map vb)) (hf : Fr [b] w w') (hb : b ∉ blks p) : Row w' p (xs.map vb) :=
  Row.cells_fr h hf fun k hk => by simp; rintro rfl; exact hb hk
theorem mkL {w : World} {xs : List UInt8} {n : Nat} {ps : Array (Nat × Value)} (hn : n = xs.length) (hps : ps = ⟨(List.range xs.length).zip (xs.map vb)⟩) (hr : (Instr.buildSlice T_S_uint8 n ps).run Tryz.prog w = .ok (.slice (some ⟨w.heap.size, 0, none⟩) n n) (w.alloc (.cells (xs.map vb).toArray T_uint8)))
    {K : Option Addr → Nat → Nat → World → Prop} (h : ∀ p w', Fr [] w w' → OB w' p n n xs w.heap.size → w'.heap.size = w.heap.size + 1 → K p n n w') : ∃ p l c w', Ef Tryz.prog (Instr.buildSlice T_S_uint8 n ps) w (.slice p l c) w' ∧ K p l c w' := by
  subst hn
  refine ⟨_, _, _, Ef.new hr fun w' f hB s => h _ w' f ⟨?_, rfl, by simp [blks]⟩ s⟩
  have := hB.own
  simpa using this
end Go.Sh
end
