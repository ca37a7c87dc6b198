/- A part of a proof of a given law of this program: lemmas, printed forms of its functions, contracts. It has no conditions of its own. -/
import Derived.ProofKit
import Derived.OpenShut
import Derived.Test.YtopjbcjbohegcaaMSh
import Derived.Test.YtopjbcjbohegcaaMFw

section
namespace Go.Sh
open Go Go.Fw Go.Proofs
set_option maxRecDepth 100000
set_option linter.unusedVariables false
def dbl (a : UInt8) : UInt8 := if (a &&& 128) != 0 then (a <<< 1) ^^^ 27 else a <<< 1
def mulL : Nat → UInt8 → UInt8 → UInt8 → UInt8
  | 0, _, _, out => out
  | n + 1, a, b, out => if b = 0 then out else mulL n (dbl a) (b >>> 1) (if (b &&& 1) != 0 then out ^^^ a else out)
def gmul (a b : UInt8) : UInt8 := mulL 8 a b 0
abbrev vb (a : UInt8) : Value := .int .u8 (a.toNat : Int)
abbrev vw (a : UInt64) : Value := .int .u64 (a.toNat : Int)
theorem double_c (a : UInt8) (w : World) (K : Value → World → Prop) (h : K (vb (dbl a)) w) : callF Try.prog F_field_double #[vb a] w K := by
  apply field_double_call
  unfold field_double
  have e1 : (iand .u8 (a.toNat : Int) 128) = ((a &&& 128).toNat : Int) := and8 a 128
  have e2 : IntKind.u8.wrap ((a.toNat : Int) * 2 ^ 1) = ((a <<< 1).toNat : Int) := shl8 a 1 (by omega)
  have e3 : ixor .u8 ((a <<< 1).toNat : Int) 27 = (((a <<< 1) ^^^ 27).toNat : Int) := xor8 (a <<< 1) 27
  have e4 : (((a &&& 128).toNat : Int) != 0) = ((a &&& 128) != 0) := by rw [bne, bne]; exact congrArg not (beq8 (a &&& 128) 0)
  rw [e1, e2, e3, e4]
  unfold dbl at h
  cases hb : (a &&& 128) != 0 <;> rw [hb] at h <;> exact h
theorem Mul_c (a b : UInt8) (w : World) (K : Value → World → Prop) (h : K (vb (gmul a b)) w) : callF Try.prog F_field_Mul #[vb a, vb b] w K := by
  apply field_Mul_call
  unfold field_Mul
  refine LoopS.ind (fun k us w' => w' = w ∧ ∃ x y out : UInt8, us = [vb x, vb y, .int .u8 0, vb out] ∧ y.toNat < 2 ^ k ∧ mulL k x y out = gmul a b) 8 ⟨rfl, a, b, 0, rfl, b.toNat_lt, rfl⟩ ?_
  rintro k us r w' I μ hgo ⟨rfl, x, y, out, rfl, hy, hm⟩
  refine ⟨_, _, _, _, rfl, ?_⟩
  have e4 : ((y.toNat : Int) != 0) = (y != 0) := by rw [bne, bne]; exact congrArg not (beq8 y 0)
  rw [e4]
  cases k with
  | zero =>
    have : y = 0 := by rw [← UInt8.toNat_inj]; simpa using hy
    subst this
    have hm : out = gmul a b := hm
    subst hm
    exact h
  | succ k =>
    refine cond_intro (fun h1 => ?_) (fun h1 => ?_)
    · have hne : y ≠ 0 := by simpa using h1
      have e1 : (iand .u8 (y.toNat : Int) 1) = ((y &&& 1).toNat : Int) := and8 y 1
      have e5 : (((y &&& 1).toNat : Int) != 0) = ((y &&& 1) != 0) := by rw [bne, bne]; exact congrArg not (beq8 (y &&& 1) 0)
      have e2 : Int.fdiv (y.toNat : Int) (2 ^ 1) = ((y >>> 1).toNat : Int) := shr8 y 1 (by omega)
      have hy2 : (y >>> 1).toNat < 2 ^ k := by
        have : (y >>> 1).toNat = y.toNat >>> 1 := UInt8.toNat_shiftRight y 1
        rw [this, Nat.shiftRight_eq_div_pow]
        rw [Nat.pow_succ] at hy
        omega
      unfold mulL at hm
      rw [if_neg hne] at hm
      rw [e1, e5, e2, xor8]
      refine cond_intro (fun h2 => ?_) (fun h2 => ?_)
      · refine double_c _ _ _ ⟨_, rfl, hgo _ _ _ k (by omega) ⟨rfl, _, _, _, rfl, hy2, ?_⟩⟩
        rw [h2] at hm; exact hm
      · refine double_c _ _ _ ⟨_, rfl, hgo _ _ _ k (by omega) ⟨rfl, _, _, _, rfl, hy2, ?_⟩⟩
        rw [h2] at hm; exact hm
    · have : y = 0 := by simpa using h1
      subst this
      have hm : out = gmul a b := hm
      subst hm
      exact h
end Go.Sh
end

section
namespace Go.Sh
open Go Go.Fw Go.Proofs
set_option maxRecDepth 100000
set_option linter.unusedVariables false
theorem sync_atomic_Int64_Add_c {b n o : Nat} {g : Nat → Value} {x y : Int} {w : World} (hB : Blk w b n g) (ho : o < n) (hv : g o = .int .i64 x) {K : Value → World → Prop}
    (h : ∀ w', Fr [b] w w' → Blk w' b n (upd g o (.int .i64 (IntKind.i64.wrap (x + y)))) → w'.heap.size = w.heap.size → K (.int .i64 (IntKind.i64.wrap (x + y))) w') :
    callF Try.prog F_sync_atomic_Int64_Add #[.pointer (some ⟨b, o, none⟩), .int .i64 y] w K := by
  apply sync_atomic_Int64_Add_call
  refine ⟨_, rfl, ?_⟩
  refine sync_atomic_AddInt64_c hB ho hv fun w' h1 h2 h3 => ?_
  exact ⟨_, rfl, h w' h1 h2 h3⟩
theorem sync_atomic_Bool_Load_c {b n o : Nat} {g : Nat → Value} {x : Int} {w : World} (hB : Blk w b n g) (ho : o < n) (hv : g o = .int .u32 x) {K : Value → World → Prop}
    (h : K (.bool (x != 0)) w) : callF Try.prog F_sync_atomic_Bool_Load #[.pointer (some ⟨b, o, none⟩)] w K := by
  apply sync_atomic_Bool_Load_call
  refine ⟨_, rfl, ?_⟩
  refine sync_atomic_LoadUint32_c hB ho hv ?_
  exact ⟨_, rfl, h⟩
theorem sync_atomic_Bool_Store_true {b n o : Nat} {g : Nat → Value} {w : World} (hB : Blk w b n g) (ho : o < n) {Q : Value → World → Prop}
    (h : ∀ w', Fr [b] w w' → Blk w' b n (upd g o (.int .u32 1)) → w'.heap.size = w.heap.size → Q (.tuple #[]) w') : sync_atomic_Bool_Store (some ⟨b, o, none⟩) true w Q := by
  refine Drw.intro fun w1 h1 hs1 => ?_
  refine ⟨_, rfl, ?_⟩
  apply sync_atomic_b32_call
  refine ⟨_, rfl, ?_⟩
  refine sync_atomic_StoreUint32_c (hB.fr0 h1) ho fun w2 h2 h3 h4 => ?_
  exact ⟨rfl, h w2 (h1.after h2) h3 (by omega)⟩
theorem isync_Lock_c {b n o : Nat} {g : Nat → Value} {w : World} (hB : Blk w b n g) (ho : o < n) (hv : g o = .int .i32 0) {K : Value → World → Prop}
    (h : ∀ w', Fr [b] w w' → Blk w' b n (upd g o (.int .i32 1)) → w'.heap.size = w.heap.size → K (.tuple #[]) w') : callF Try.prog F_internal_sync_Mutex_Lock #[.pointer (some ⟨b, o, none⟩)] w K := by
  apply internal_sync_Mutex_Lock_call
  refine internal_race_Disable_c ⟨rfl, _, rfl, ?_⟩
  refine sync_atomic_CompareAndSwapInt32_c hB ho hv fun w1 h1 h2 h3 => ?_
  refine ⟨_, rfl, cond_t ?_⟩
  refine internal_race_Enable_c ⟨rfl, _, _, uns (by kernel_rfl) h2 ho, ?_⟩
  exact internal_race_Acquire_c ⟨rfl, h w1 h1 h2 h3⟩
theorem isync_Unlock_c {b n o : Nat} {g : Nat → Value} {w : World} (hB : Blk w b n g) (ho : o < n) (hv : g o = .int .i32 1) {K : Value → World → Prop}
    (h : ∀ w', Fr [b] w w' → Blk w' b n (upd g o (.int .i32 0)) → w'.heap.size = w.heap.size → K (.tuple #[]) w') : callF Try.prog F_internal_sync_Mutex_Unlock #[.pointer (some ⟨b, o, none⟩)] w K := by
  apply internal_sync_Mutex_Unlock_call
  refine ⟨_, rfl, _, Ld.blk (by kernel_rfl) hB ho hv, _, _, uns (by kernel_rfl) hB ho, ?_⟩
  refine internal_race_ReleaseMerge_c ⟨rfl, ?_⟩
  refine internal_race_Disable_c ⟨rfl, _, rfl, ?_⟩
  refine sync_atomic_AddInt32_c hB ho hv fun w1 h1 h2 h3 => ?_
  refine ⟨_, rfl, cond_f ?_⟩
  exact internal_race_Enable_c ⟨rfl, h w1 h1 h2 h3⟩
theorem sync_Mutex_Lock_c {b n o : Nat} {g : Nat → Value} {w : World} (hB : Blk w b n g) (ho : o < n) (hv : g o = .int .i32 0) {K : Value → World → Prop}
    (h : ∀ w', Fr [b] w w' → Blk w' b n (upd g o (.int .i32 1)) → w'.heap.size = w.heap.size → K (.tuple #[]) w') : callF Try.prog F_sync_Mutex_Lock #[.pointer (some ⟨b, o, none⟩)] w K := by
  apply sync_Mutex_Lock_call
  refine ⟨_, rfl, ?_⟩
  refine isync_Lock_c hB ho hv fun w1 h1 h2 h3 => ?_
  exact ⟨rfl, h w1 h1 h2 h3⟩
theorem sync_Mutex_Unlock_s {b n o : Nat} {g : Nat → Value} {w : World} (hB : Blk w b n g) (ho : o < n) (hv : g o = .int .i32 1) {Q : Value → World → Prop}
    (h : ∀ w', Fr [b] w w' → Blk w' b n (upd g o (.int .i32 0)) → w'.heap.size = w.heap.size → Q (.tuple #[]) w') : sync_Mutex_Unlock (some ⟨b, o, none⟩) w Q := by
  refine ⟨_, rfl, ?_⟩
  refine isync_Unlock_c hB ho hv fun w1 h1 h2 h3 => ?_
  exact ⟨rfl, h w1 h1 h2 h3⟩
theorem sync_Once_Do_done {b n o : Nat} {g : Nat → Value} {w : World} {v : Value} (hB : Blk w b n g) (ho : o < n) (hv : g o = .int .u32 1) {K : Value → World → Prop} (h : K (.tuple #[]) w) :
    callF Try.prog F_sync_Once_Do #[.pointer (some ⟨b, o, none⟩), v] w K := by
  apply sync_Once_Do_call
  refine ⟨_, rfl, ?_⟩
  refine sync_atomic_Bool_Load_c hB ho hv ?_
  exact ⟨_, rfl, cond_f h⟩
theorem sync_Once_Do_first {b n o : Nat} {g : Nat → Value} {w : World} {v : Value} (hB : Blk w b n g) (ho : o + 1 < n) (hv : g o = .int .u32 0) (hm : g (o + 1) = .int .i32 0) {K : Value → World → Prop}
    (h : ∀ w', Fr [b] w w' → Blk w' b n (upd g (o + 1) (.int .i32 1)) → w'.heap.size = w.heap.size →
      callV Try.prog v [] w' fun r w1 => r = .tuple #[] ∧ ∃ g', Blk w1 b n g' ∧ g' (o + 1) = .int .i32 1 ∧
        ∀ w2, Fr [b] w1 w2 → Blk w2 b n (upd (upd g' o (.int .u32 1)) (o + 1) (.int .i32 0)) → w2.heap.size = w1.heap.size → K (.tuple #[]) w2) :
    callF Try.prog F_sync_Once_Do #[.pointer (some ⟨b, o, none⟩), v] w K := by
  apply sync_Once_Do_call
  refine ⟨_, rfl, ?_⟩
  refine sync_atomic_Bool_Load_c hB (by omega) hv ?_
  refine ⟨_, rfl, cond_t ?_⟩
  apply sync_Once_doSlow_call
  refine ⟨_, rfl, ?_⟩
  rw [add_mk]
  refine sync_Mutex_Lock_c hB ho hm fun w1 h1 h2 h3 => ?_
  refine ⟨rfl, _, rfl, _, rfl, ?_⟩
  refine sync_atomic_Bool_Load_c h2 (by omega) (by rw [upd_ne _ _ _ (by omega)]; exact hv) ?_
  refine ⟨_, rfl, cond_t ?_⟩
  refine ⟨_, rfl, ?_⟩
  refine callV_mono ?_ (h w1 h1 h2 h3)
  rintro r w3 ⟨rfl, g', hB', hm', hk⟩
  refine ⟨rfl, ?_⟩
  apply sync_atomic_Bool_Store_calld
  refine sync_atomic_Bool_Store_true hB' (by omega) fun w4 h4 h5 h6 => ?_
  apply sync_Mutex_Unlock_calld
  rw [add_mk]
  refine sync_Mutex_Unlock_s h5 ho (by rw [upd_ne _ _ _ (by omega)]; exact hm') fun w5 h7 h8 h9 => ?_
  exact ⟨rfl, hk w5 (h4.trans h7 (fun _ h => .inl h)) h8 (by omega)⟩
end Go.Sh
end

section
namespace Go.Sh
open Go Go.Fw Go.Proofs
set_option maxRecDepth 100000
set_option linter.unusedVariables false
theorem slices_Clone_c {w : World} {p : Option Addr} {l c : Nat} {vs : List Value} (hR : Row w p vs) (hl : l = vs.length) (hb : l ≤ 1000000) (h1 : ∀ v ∈ vs, v.oneCell' = true) {K : Value → World → Prop}
    (h : ∀ p' c' w', Fr [] w w' → OwnS w' p' l c' vs → (∀ k ∈ blks p', w.heap.size ≤ k) → K (.slice p' l c') w') : callF Try.prog F_slices_Clone_byte_byte #[.slice p l c] w K := by
  apply slices_Clone_byte_byte_call
  refine ⟨_, _, sliceNil (by kernel_rfl), cond_intro (fun hp => ?_) (fun hp => ?_)⟩
  · cases p with
    | some a => cases hp
    | none =>
      rcases hR with rfl | ⟨b, o, hb, _⟩
      · subst hl; exact h none 0 w (Fr.refl _ _) (OwnS.nil w) (by simp [blks])
      · cases hb
  · refine ⟨_, _, _, Ef.new (cs := #[]) (v := .slice (some ⟨w.heap.size, 0, none⟩) 0 0) (e := T_uint8) (by kernel_rfl) fun w1 h1' hB hs => ?_⟩
    have hO : OwnS w1 (some ⟨w.heap.size, 0, none⟩) 0 0 [] := ⟨rfl, .inr ⟨_, _, _, _, rfl, hB, by simp, by simp, by simp⟩⟩
    obtain ⟨p', c', w', he, hO', hf, hcase⟩ := Ef.append (P := Try.prog) (t := T_S_uint8) (ty := T_S_uint8) (by kernel_rfl) hO (d := c) (hR.fr0 h1') hl h1 (by omega)
    rw [Nat.zero_add] at he hO'
    refine ⟨_, _, _, _, he, ?_⟩
    refine h p' c' w' ?_ hO' ?_
    · exact (h1'.mono (by simp)).trans hf (by simp [blks])
    · rcases hcase with ⟨rfl, _, _⟩ | ⟨rfl, _, _⟩
      · simp [blks]
      · simp only [blks, List.mem_singleton]; rintro k rfl; omega
end Go.Sh
end

section
namespace Go.Sh
open Go Go.Fw Go.Proofs
set_option maxRecDepth 100000
set_option linter.unusedVariables false
def powL : Nat → UInt8 → UInt64 → UInt8 → UInt8
  | 0, _, _, out => out
  | k + 1, a, n, out => if n = 0 then out else powL k (gmul a a) (n >>> 1) (if (n &&& 1) != 0 then gmul out a else out)
def gpow (a : UInt8) (n : UInt64) : UInt8 := powL 64 a n 1
def ginv (a : UInt8) : UInt8 := gpow a 254
def bsum (l : List UInt8) : UInt8 := l.foldl (fun x y => x ^^^ y) 0
def rot (a : UInt8) (k : Nat) : UInt8 := (a <<< UInt8.ofNat k) ||| (a >>> UInt8.ofNat (8 - k))
def gsign (a : UInt8) : UInt8 := let b := ginv a; bsum [b, rot b 1, rot b 2, rot b 3, rot b 4, 99]
theorem beq64 (x y : UInt64) : ((x.toNat : Int) == (y.toNat : Int)) = (x == y) := by
  rw [Bool.eq_iff_iff]; simp [eq64]
theorem Pow_c (a : UInt8) (n : UInt64) (w : World) (K : Value → World → Prop) (h : K (vb (gpow a n)) w) : callF Try.prog F_field_Pow #[vb a, vw n] w K := by
  apply field_Pow_call
  unfold field_Pow
  refine LoopS.ind (fun k us w' => w' = w ∧ ∃ (x : UInt8) (y : UInt64) (out : UInt8), us = [vb x, vw y, .int .u8 0, vb out] ∧ y.toNat < 2 ^ k ∧ powL k x y out = gpow a n) 64 ⟨rfl, a, n, 1, rfl, n.toNat_lt, rfl⟩ ?_
  rintro k us r w' I μ hgo ⟨rfl, x, y, out, rfl, hy, hm⟩
  refine ⟨_, _, _, _, rfl, ?_⟩
  have e4 : ((y.toNat : Int) != 0) = (y != 0) := by rw [bne, bne]; exact congrArg not (beq64 y 0)
  rw [e4]
  cases k with
  | zero =>
    have : y = 0 := by rw [← UInt64.toNat_inj]; simpa using hy
    subst this
    have hm : out = gpow a n := hm
    subst hm
    exact h
  | succ k =>
    refine cond_intro (fun h1 => ?_) (fun h1 => ?_)
    · have hne : y ≠ 0 := by simpa using h1
      have e1 : (iand .u64 (y.toNat : Int) 1) = ((y &&& 1).toNat : Int) := and64 y 1
      have e5 : (((y &&& 1).toNat : Int) != 0) = ((y &&& 1) != 0) := by rw [bne, bne]; exact congrArg not (beq64 (y &&& 1) 0)
      have e2 : Int.fdiv (y.toNat : Int) (2 ^ 1) = ((y >>> 1).toNat : Int) := shr64 y 1 (by omega)
      have hy2 : (y >>> 1).toNat < 2 ^ k := by
        have : (y >>> 1).toNat = y.toNat >>> 1 := UInt64.toNat_shiftRight y 1
        rw [this, Nat.shiftRight_eq_div_pow]
        rw [Nat.pow_succ] at hy
        omega
      unfold powL at hm
      rw [if_neg hne] at hm
      rw [e1, e5, e2]
      refine cond_intro (fun h2 => ?_) (fun h2 => ?_)
      · rw [h2] at hm
        refine Mul_c _ _ _ _ ⟨_, rfl, Mul_c _ _ _ _ ⟨_, rfl, hgo _ _ _ k (by omega) ⟨rfl, _, _, _, rfl, hy2, ?_⟩⟩⟩
        exact hm
      · rw [h2] at hm
        refine Mul_c _ _ _ _ ⟨_, rfl, hgo _ _ _ k (by omega) ⟨rfl, _, _, _, rfl, hy2, ?_⟩⟩
        exact hm
    · have : y = 0 := by simpa using h1
      subst this
      have hm : out = gpow a n := hm
      subst hm
      exact h
theorem Inv_c (a : UInt8) (w : World) (K : Value → World → Prop) (h : K (vb (ginv a)) w) : callF Try.prog F_field_Inv #[vb a] w K := by
  apply field_Inv_call
  exact Pow_c a 254 w _ ⟨_, rfl, h⟩
theorem Sum_c {w : World} {p : Option Addr} {l c : Nat} {xs : List UInt8} (hR : Row w p (xs.map vb)) (hl : l = xs.length) (hb : l ≤ 1000000) {K : Value → World → Prop} (h : K (vb (bsum xs)) w) : callF Try.prog F_field_Sum #[.slice p l c] w K := by
  apply field_Sum_call
  unfold field_Sum
  refine LoopS.ind (fun k us w' => w' = w ∧ ∃ i : Nat, i + k = l ∧ us = [.int .u8 0, vb ((xs.take i).foldl (fun x y => x ^^^ y) 0), .slice p l c, .int .i64 (l : Nat), .int .i64 (i : Nat)]) l ⟨rfl, 0, by omega, rfl⟩ ?_
  rintro k us r w' I μ hgo ⟨rfl, i, hi, rfl⟩
  refine ⟨_, _, _, _, _, _, _, rfl, cond_d (fun h1 => ?_) (fun h1 => ?_)⟩
  · have hil : i < xs.length := by omega
    obtain ⟨a, hix, hc⟩ := ixR (P := Try.prog) (t := T_S_uint8) (by kernel_rfl) hR (cap := c) (k := .i64) (i := (i : Int)) (by simpa using hl) (by omega) h1 (v := vb xs[i]) (by simp [hil])
    refine ⟨a, hix, _, Ld.cell (by kernel_rfl) hc, ?_⟩
    refine hgo _ _ _ (k - 1) (by omega) ⟨rfl, i + 1, by omega, ?_⟩
    rw [xor8, wrap64 (by omega) (by omega), List.take_succ_eq_append_getElem hil, List.foldl_append]
    rfl
  · have hil : i = xs.length := by omega
    subst hil
    rw [List.take_length]
    exact h
theorem turned_c (a : UInt8) (k : Nat) (h0 : 0 < k) (h8 : k < 8) (w : World) (K : Value → World → Prop) (h : ∀ w', Fr [] w w' → w'.heap.size = w.heap.size → K (vb (rot a k)) w') : callF Try.prog F_field_turned #[vb a, .int .i64 (k : Nat)] w K := by
  apply field_turned_call
  refine Drw.intro fun w1 h1 h2 => ?_
  have e1 : min ((k : Int)).toNat IntKind.u8.bits = k := by simp [IntKind.bits]; omega
  have e0 : IntKind.i64.wrap (8 - (k : Int)) = ((8 - k : Nat) : Int) := by rw [wrap64 (by omega) (by omega)]; omega
  have e2 : min (((8 - k : Nat) : Int)).toNat IntKind.u8.bits = 8 - k := by simp [IntKind.bits]
  refine ⟨_, Pu.shl (by omega), ?_⟩
  rw [e0]
  refine ⟨_, Pu.shr (by omega), ?_⟩
  rw [e1, e2, shl8 a k (by omega), shr8 a (8 - k) (by omega), or8]
  exact h w1 h1 h2
theorem sign_c (a : UInt8) (w : World) (K : Value → World → Prop) (h : ∀ w', Fr [] w w' → K (vb (gsign a)) w') : callF Try.prog F_field_sign #[vb a] w K := by
  apply field_sign_call
  refine Inv_c a w _ ⟨_, rfl, ?_⟩
  refine turned_c _ 1 (by omega) (by omega) w _ fun w1 h1 _ => ⟨_, rfl, ?_⟩
  refine turned_c _ 2 (by omega) (by omega) w1 _ fun w2 h2 _ => ⟨_, rfl, ?_⟩
  refine turned_c _ 3 (by omega) (by omega) w2 _ fun w3 h3 _ => ⟨_, rfl, ?_⟩
  refine turned_c _ 4 (by omega) (by omega) w3 _ fun w4 h4 _ => ⟨_, rfl, ?_⟩
  refine ⟨_, _, _, Ef.new (v := .slice (some ⟨w4.heap.size, 0, none⟩) 6 6) (cs := (([ginv a, rot (ginv a) 1, rot (ginv a) 2, rot (ginv a) 3, rot (ginv a) 4, 99] : List UInt8).map vb).toArray) (e := T_uint8) (by kernel_rfl) fun w5 h5 hB _ => ?_⟩
  refine Sum_c (l := 6) hB.rowL rfl (by omega) ⟨_, rfl, ?_⟩
  exact h w5 ((((h1.then h2).then h3).then h4).then h5)
end Go.Sh
end

section
namespace Go.Sh
open Go Go.Fw Go.Proofs
set_option maxRecDepth 100000
set_option linter.unusedVariables false
def unaff (s : UInt8) : UInt8 := rot s 1 ^^^ rot s 3 ^^^ rot s 6 ^^^ 5
theorem unsign (a : UInt8) : ginv (unaff (gsign a)) = a := by
  have := all8 (p := fun a => ginv (unaff (gsign a)) == a) (by kernel_rfl) a
  simpa using this
theorem gsign_inj {a b : UInt8} (h : gsign a = gsign b) : a = b := by rw [← unsign a, h, unsign b]
end Go.Sh
end

section
namespace Go.Sh
open Go Go.Fw Go.Proofs
set_option maxRecDepth 100000
set_option linter.unusedVariables false
theorem wrapb {i : Nat} (h : i < 256) : IntKind.u8.wrap (i : Int) = ((UInt8.ofNat i).toNat : Int) := by
  rw [wrap8 (by omega) (by omega)]; simp; omega
structure Tab (w : World) (b : Nat) (bl : List UInt8) (f : Nat → Value) (p : Option Addr) (c : Nat) : Prop where
  blk : Blk w b 518 f
  by_ : f 0 = .slice p bl.length c
  row : Row w p (bl.map vb)
  apart : ∀ k ∈ blks p, k ≠ b
  mu : f 2 = .int .i32 0
def TabOk (w : World) (b : Nat) (bl : List UInt8) (f : Nat → Value) (n : Nat) : Prop :=
  (∀ i, i < n → f (5 + i) = vb (gsign (UInt8.ofNat i))) ∧ (∀ i, i < n → f (261 + (gsign (UInt8.ofNat i)).toNat) = vb (UInt8.ofNat i)) 
def RowsOk (bl : List UInt8) (ft : Nat → Value) (n : Nat) : Prop := ∀ k x, bl[k]? = some x → ∀ i, i < n → ft (k * 256 + i) = vb (gmul (UInt8.ofNat i) x)
theorem Row.cells_fr {l : List Nat} {w w' : World} {p : Option Addr} {vs : List Value} (h : Row w p vs) (hf : Fr l w w') (hn : ∀ k ∈ blks p, k ∉ l) : Row w' p vs :=
  h.fr hf fun a ha => hn _ (by subst ha; simp [blks])
set_option maxHeartbeats 1000000 in
theorem make_c {w : World} {b : Nat} {bl : List UInt8} {f : Nat → Value} {p : Option Addr} {c : Nat} (hB : Blk w b 518 f) (h0 : f 0 = .slice p bl.length c) (hR : Row w p (bl.map vb)) (hap : ∀ k ∈ blks p, k ≠ b) (hlt : ∀ k ∈ blks p, k < w.heap.size) (hm : f 4 = .int .i64 0)
    (hbl : bl.length ≤ 1000) {K : Value → World → Prop}
    (h : ∀ w' f' q ft, Fr [b] w w' → Blk w' b 518 f' → f' 0 = f 0 → f' 1 = f 1 → f' 2 = f 2 → f' 4 = .int .i64 1 → TabOk w' b bl f' 256 → f' 517 = .slice (some ⟨q, 0, none⟩) bl.length bl.length → w.heap.size ≤ q → Blk w' q (bl.length * 256) ft → RowsOk bl ft 256 → K (.tuple #[]) w') :
    callF Try.prog F_field_Tables_make #[.pointer (some ⟨b, 0, none⟩)] w K := by
  have hbw := hB.lt
  apply field_Tables_make_call
  unfold field_Tables_make
  refine ⟨_, rfl, ?_⟩
  rw [add_mk, Nat.zero_add]
  refine sync_atomic_Int64_Add_c hB (by omega) hm fun w1 f1 hB1 s1 => ?_
  refine ⟨_, rfl, _, rfl, p, bl.length, c, ?_, ?_⟩
  · rw [add_mk]; exact Ld.blk (by kernel_rfl) hB1 (by omega) (by rw [upd_ne _ _ _ (by omega)]; exact h0)
  obtain ⟨ft0, w2, he, f2, hQ, s2⟩ := Ef.makeN (P := Try.prog) (t := T_S_field_table) (s := 256) (by kernel_rfl) (w := w1) (k := .i64) (k' := .i64) (Nat.le_refl bl.length) (by omega)
  refine ⟨_, _, _, w2, he, _, rfl, ?_⟩
  rw [add_mk, Nat.zero_add]
  refine Sto.blk (by kernel_rfl) (hB1.fr0 f2) (by omega) rfl rfl fun w3 f3 hB3 s3 => ?_
  have hq : w1.heap.size ≠ b := by omega
  have f03 : Fr [b] w w3 := (f1.then f2).trans f3 (fun _ h => .inl h)
  have hQ3 := hQ.fr f3 (by simpa using hq)
  -- the outer loop
  refine LoopS.ind (fun k us w' => ∃ i : Nat, i + k = 256 ∧ us = [.pointer (some ⟨b, 0, none⟩), .int .i64 (i : Nat)] ∧ Fr [b, w1.heap.size] w3 w' ∧ ∃ g gt, Blk w' b 518 g ∧ Blk w' w1.heap.size (bl.length * 256) gt ∧
    g 0 = f 0 ∧ g 1 = f 1 ∧ g 2 = f 2 ∧ g 4 = .int .i64 1 ∧ g 517 = .slice (some ⟨w1.heap.size, 0, none⟩) bl.length bl.length ∧ TabOk w' b bl g i ∧ RowsOk bl gt i) 256
    ⟨0, rfl, rfl, Fr.refl _ _, _, _, hB3, hQ3, by simp [upd], by simp [upd], by simp [upd], by simp [upd, wrap64], by simp [upd], ⟨by omega, by omega⟩, fun _ _ _ _ h => by omega⟩ ?_
  rintro k us r w4 I μ hgo ⟨i, hi, rfl, f4, g, gt, hB4, hQ4, g0, g1, g2, g4, g517, hok, hrows⟩
  refine ⟨_, _, rfl, cond_d (fun h1 => ?_) (fun h1 => ?_)⟩
  · have hi256 : i < 256 := by omega
    rw [wrapb hi256]
    refine sign_c _ _ _ fun w5 f5 => ⟨_, rfl, _, rfl, _, ixA1 (n := 256) (by kernel_rfl) (by omega) (by omega), ?_⟩
    rw [Int.toNat_natCast, Nat.zero_add]
    refine Sto.blk (by kernel_rfl) (hB4.fr0 f5) (by omega) rfl rfl fun w6 f6 hB6 s6 => ?_
    refine ⟨_, rfl, _, ixA1 (n := 256) (by kernel_rfl) (by omega) (by have := (gsign (UInt8.ofNat i)).toNat_lt; omega), ?_⟩
    rw [Int.toNat_natCast, Nat.zero_add]
    have hgl := (gsign (UInt8.ofNat i)).toNat_lt
    refine Sto.blk (by kernel_rfl) hB6 (by omega) rfl rfl fun w7 f7 hB7 s7 => ?_
    have f47 : Fr [b] w4 w7 := (f5.after f6).trans f7 (fun _ h => .inl h)
    have f07 : Fr [b, w1.heap.size] w3 w7 := f4.trans f47 (by simp)
    have hQ7 := hQ4.fr f47 (by simpa using hq)
    have hw3s : w3.heap.size = w1.heap.size + 1 := by omega
    have fw7 : Fr [b] w w7 := by
      refine ((f03.trans f07 ?_))
      intro x hx
      simp only [List.mem_cons, List.not_mem_nil, or_false] at hx
      rcases hx with rfl | rfl
      · exact .inl (by simp)
      · exact .inr f1.size
    refine ⟨_, rfl, p, bl.length, c, ?_, ?_⟩
    · rw [add_mk]; exact Ld.blk (by kernel_rfl) hB7 (by omega) (by rw [upd_ne _ _ _ (by omega), upd_ne _ _ _ (by omega), g0]; exact h0)
    -- the inner loop
    refine LoopS.ind (fun k2 us w' => ∃ m : Nat, m + k2 = bl.length ∧ us = [.pointer (some ⟨b, 0, none⟩), .int .i64 (i : Nat), .int .i64 (i : Nat), .slice p bl.length c, .int .i64 (bl.length : Nat), .int .i64 (m : Nat)] ∧ Fr [w1.heap.size] w7 w' ∧
      ∃ gt', Blk w' w1.heap.size (bl.length * 256) gt' ∧ RowsOk bl gt' i ∧ ∀ k x, k < m → bl[k]? = some x → gt' (k * 256 + i) = vb (gmul (UInt8.ofNat i) x)) bl.length
      ⟨0, by omega, rfl, Fr.refl _ _, gt, hQ7, hrows, by omega⟩ ?_
    rintro k2 us r2 w8 I2 μ2 hgo2 ⟨m, hm2, rfl, f8, gt', hQ8, hr8, hd8⟩
    have hB8 := hB7.fr f8 (by simp; omega)
    have hR8 : Row w8 p (bl.map vb) := by
      refine Row.cells_fr (Row.cells_fr hR fw7 (fun k hk => by simpa using hap k hk)) f8 fun k hk => ?_
      have := hlt k hk
      have := f1.size
      simp; omega
    refine ⟨_, _, _, _, _, _, _, _, rfl, cond_d (fun h2 => ?_) (fun h2 => ?_)⟩
    · have hml : m < bl.length := by omega
      obtain ⟨a, hix, hc⟩ := ixR (P := Try.prog) (t := T_S_uint8) (by kernel_rfl) hR8 (cap := c) (k := .i64) (i := (m : Int)) (len := bl.length) (by simp) (by omega) (by omega) (v := vb bl[m]) (by simp [hml])
      refine ⟨a, hix, _, Ld.cell (by kernel_rfl) hc, fun w' => w'.cell? ⟨b, 517, none⟩ = some (.slice (some ⟨w1.heap.size, 0, none⟩) bl.length bl.length), ?_⟩
      refine Drw.intro fun w9 f9 s9 => ?_
      have hB9 := hB8.fr0 f9
      have hc9 : w9.cell? ⟨b, 517, none⟩ = some (.slice (some ⟨w1.heap.size, 0, none⟩) bl.length bl.length) := by
        rw [hB9.cell (by omega), upd_ne _ _ _ (by omega), upd_ne _ _ _ (by omega), g517]
      refine ⟨_, rfl, _, _, _, ⟨hc9, fun w' hw' => by rw [add_mk]; exact Ld.cell (by kernel_rfl) hw'⟩, _, ixS (s := 256) (by kernel_rfl) (by omega) (by omega), ?_⟩
      rw [wrapb hi256]
      refine Mul_c _ _ _ _ ⟨_, rfl, .inl rfl, _, ixA1 (n := 256) (by kernel_rfl) (by omega) (by omega), ?_⟩
      rw [Int.toNat_natCast, Int.toNat_natCast, Nat.zero_add]
      have hin : m * 256 + i < bl.length * 256 := by
        have : (m + 1) * 256 ≤ bl.length * 256 := Nat.mul_le_mul_right _ hml
        omega
      refine Sto.blk (by kernel_rfl) (hQ8.fr0 f9) hin rfl rfl fun w10 f10 hQ10 s10 => ?_
      refine hgo2 _ _ _ (k2 - 1) (by omega) ⟨m + 1, by omega, by rw [wrap64 (by omega) (by omega)]; rfl, ?_, _, hQ10, ?_, ?_⟩
      · exact (f8.then f9).trans f10 (fun _ h => .inl h)
      · intro k x hx j hj
        rw [upd_ne _ _ _ (by omega)]
        exact hr8 k x hx j hj
      · intro k x hk hx
        by_cases hkm : k = m
        · subst hkm
          rw [upd_same]
          have : bl[k] = x := by rw [List.getElem?_eq_getElem hml] at hx; exact Option.some.inj hx
          rw [this]
        · rw [upd_ne _ _ _ (by omega)]
          exact hd8 k x (by omega) hx
    · have hmb : m = bl.length := by omega
      refine hgo _ _ _ (k - 1) (by omega) ⟨i + 1, by omega, by rw [wrap64 (by omega) (by omega)]; rfl, f07.trans f8 (by simp), _, _, hB8, hQ8, ?_, ?_, ?_, ?_, ?_, ⟨?_, ?_⟩, ?_⟩
      · rw [upd_ne _ _ _ (by omega), upd_ne _ _ _ (by omega)]; exact g0
      · rw [upd_ne _ _ _ (by omega), upd_ne _ _ _ (by omega)]; exact g1
      · rw [upd_ne _ _ _ (by omega), upd_ne _ _ _ (by omega)]; exact g2
      · rw [upd_ne _ _ _ (by omega), upd_ne _ _ _ (by omega)]; exact g4
      · rw [upd_ne _ _ _ (by omega), upd_ne _ _ _ (by omega)]; exact g517
      · intro j hj
        rw [upd_ne _ _ _ (by omega)]
        by_cases hji : j = i
        · subst hji; rw [upd_same]
        · rw [upd_ne _ _ _ (by omega)]; exact hok.1 j (by omega)
      · intro j hj
        have hgj := (gsign (UInt8.ofNat j)).toNat_lt
        by_cases hji : j = i
        · subst hji; rw [upd_same]
        · have hne : (gsign (UInt8.ofNat j)).toNat ≠ (gsign (UInt8.ofNat i)).toNat := by
            intro he
            have h3 := gsign_inj (UInt8.toNat_inj.1 he)
            have h4 := congrArg UInt8.toNat h3
            simp at h4
            omega
          rw [upd_ne _ _ _ (by omega), upd_ne _ _ _ (by omega)]
          exact hok.2 j (by omega)
      · intro k x hx j hj
        by_cases hji : j = i
        · subst hji; exact hd8 k x (by have := (List.getElem?_eq_some_iff.1 hx).1; omega) hx
        · exact hr8 k x hx j (by omega)
  · have hie : i = 256 := by omega
    subst hie
    have fw : Fr [b] w w4 := by
      refine f03.trans f4 ?_
      intro x hx
      simp only [List.mem_cons, List.not_mem_nil, or_false] at hx
      rcases hx with rfl | rfl
      · exact .inl (by simp)
      · exact .inr f1.size
    exact h w4 g w1.heap.size gt fw hB4 g0 g1 g2 g4 hok g517 f1.size hQ4 hrows
end Go.Sh
end

section
namespace Go.Sh
open Go Go.Fw Go.Proofs
set_option maxRecDepth 100000
set_option linter.unusedVariables false
def TabAt (w : World) (b : Nat) (bl : List UInt8) (lo hi : Nat) (made : Bool) : Prop :=
  ∃ f p c, Blk w b 518 f ∧ f 0 = .slice p bl.length c ∧ Row w p (bl.map vb) ∧ f 2 = .int .i32 0 ∧ (∀ k ∈ blks p, lo ≤ k ∧ k < b) ∧ lo ≤ b ∧ b < hi ∧ bl.length ≤ 1000 ∧
    match made with
    | false => f 1 = .int .u32 0 ∧ f 4 = .int .i64 0
    | true => f 1 = .int .u32 1 ∧ f 4 = .int .i64 1 ∧ TabOk w b bl f 256 ∧ ∃ q ft, f 517 = .slice (some ⟨q, 0, none⟩) bl.length bl.length ∧ b < q ∧ q < hi ∧ Blk w q (bl.length * 256) ft ∧ RowsOk bl ft 256
theorem TabAt.fr {w w' : World} {b : Nat} {bl : List UInt8} {lo hi : Nat} {m : Bool} {l : List Nat} (h : TabAt w b bl lo hi m) (hf : Fr l w w') (hl : ∀ k ∈ l, k < lo ∨ hi ≤ k) : TabAt w' b bl lo hi m := by
  obtain ⟨f, p, c, hB, h0, hR, h2, hp, hlo, hhi, hbl, hm⟩ := h
  refine ⟨f, p, c, hB.fr hf ?_, h0, Row.cells_fr hR hf ?_, h2, hp, hlo, hhi, hbl, ?_⟩
  · intro hk; have := hl _ hk; omega
  · intro k hk hkl; have := hl _ hkl; have := hp k hk; omega
  · cases m with
    | false => exact hm
    | true =>
      obtain ⟨a1, a2, a3, q, ft, a4, a5, a6, a7, a8⟩ := hm
      refine ⟨a1, a2, a3, q, ft, a4, a5, a6, a7.fr hf ?_, a8⟩
      intro hk; have := hl _ hk; omega
theorem TabAt.fr0 {w w' : World} {b : Nat} {bl : List UInt8} {lo hi : Nat} {m : Bool} (h : TabAt w b bl lo hi m) (hf : Fr [] w w') : TabAt w' b bl lo hi m := h.fr hf (by simp)
theorem TabAt.mono {w : World} {b : Nat} {bl : List UInt8} {lo hi lo' hi' : Nat} {m : Bool} (h : TabAt w b bl lo hi m) (h1 : lo' ≤ lo) (h2 : hi ≤ hi') : TabAt w b bl lo' hi' m := by
  obtain ⟨f, p, c, hB, h0, hR, h2', hp, hlo, hhi, hbl, hm⟩ := h
  refine ⟨f, p, c, hB, h0, hR, h2', fun k hk => ⟨by have := hp k hk; omega, (hp k hk).2⟩, by omega, by omega, hbl, ?_⟩
  cases m with
  | false => exact hm
  | true => obtain ⟨a1, a2, a3, q, ft, a4, a5, a6, a7, a8⟩ := hm; exact ⟨a1, a2, a3, q, ft, a4, a5, by omega, a7, a8⟩
theorem TabAt.lt {w : World} {b : Nat} {bl : List UInt8} {lo hi : Nat} {m : Bool} (h : TabAt w b bl lo hi m) : b < w.heap.size ∧ lo ≤ b ∧ b < hi := by
  obtain ⟨f, p, c, hB, h0, hR, h2', hp, hlo, hhi, hbl, hm⟩ := h
  exact ⟨hB.lt, hlo, hhi⟩
theorem callV_m {P : Program} {g : FuncId} {v : Value} {w : World} {K : Value → World → Prop} (h : callF P g #[v] w K) : callV P (.func (.func g) #[v] #[]) [] w K := callV_in h
end Go.Sh
end

section
namespace Go.Sh
open Go Go.Fw Go.Proofs
set_option maxRecDepth 100000
set_option linter.unusedVariables false
def TabF (w : World) (b : Nat) (bl : List UInt8) (F : List Nat) (made : Bool) : Prop :=
  ∃ f p c, Blk w b 518 f ∧ f 0 = .slice p bl.length c ∧ Row w p (bl.map vb) ∧ f 2 = .int .i32 0 ∧ (∀ k ∈ blks p, k ∈ F ∧ k < b) ∧ b ∈ F ∧ bl.length ≤ 1000 ∧
    match made with
    | false => f 1 = .int .u32 0 ∧ f 4 = .int .i64 0
    | true => f 1 = .int .u32 1 ∧ f 4 = .int .i64 1 ∧ TabOk w b bl f 256 ∧ ∃ q ft, f 517 = .slice (some ⟨q, 0, none⟩) bl.length bl.length ∧ b < q ∧ q ∈ F ∧ Blk w q (bl.length * 256) ft ∧ RowsOk bl ft 256
theorem TabF.fr {w w' : World} {b : Nat} {bl : List UInt8} {F : List Nat} {m : Bool} {l : List Nat} (h : TabF w b bl F m) (hf : Fr l w w') (hl : ∀ k ∈ l, k ∉ F) : TabF w' b bl F m := by
  obtain ⟨f, p, c, hB, h0, hR, h2, hp, hb, hbl, hm⟩ := h
  refine ⟨f, p, c, hB.fr hf (fun hk => hl _ hk hb), h0, Row.cells_fr hR hf (fun k hk hkl => hl _ hkl (hp k hk).1), h2, hp, hb, hbl, ?_⟩
  cases m with
  | false => exact hm
  | true =>
    obtain ⟨a1, a2, a3, q, ft, a4, a5, a6, a7, a8⟩ := hm
    exact ⟨a1, a2, a3, q, ft, a4, a5, a6, a7.fr hf (fun hk => hl _ hk a6), a8⟩
theorem TabF.fr0 {w w' : World} {b : Nat} {bl : List UInt8} {F : List Nat} {m : Bool} (h : TabF w b bl F m) (hf : Fr [] w w') : TabF w' b bl F m := h.fr hf (by simp)
theorem TabF.lt {w : World} {b : Nat} {bl : List UInt8} {F : List Nat} {m : Bool} (h : TabF w b bl F m) : b < w.heap.size ∧ b ∈ F := by
  obtain ⟨f, p, c, hB, h0, hR, h2, hp, hb, hbl, hm⟩ := h; exact ⟨hB.lt, hb⟩
theorem NewF_c {w : World} {p : Option Addr} {c : Nat} {l : Nat} {bl : List UInt8} (hR : Row w p (bl.map vb)) (hl : l = bl.length) (hbl : bl.length ≤ 1000) {K : Value → World → Prop}
    (h : ∀ b F w', Fr [] w w' → TabF w' b bl F false → (∀ k ∈ F, w.heap.size ≤ k ∧ k < w'.heap.size) → K (.pointer (some ⟨b, 0, none⟩)) w') : callF Try.prog F_field_New #[.slice p l c] w K := by
  subst hl
  apply field_New_call
  unfold field_New
  refine slices_Clone_c hR (by simp) (by omega) (by simp; intros; rfl) fun p' c' w1 f1 hO hnew => ?_
  refine ⟨_, _, _, rfl, New.intro fun w2 f2 hB s2 => ?_⟩
  refine h _ (w1.heap.size :: blks p') w2 (f1.then f2) ⟨_, p', c', hB, rfl, hO.row.fr0 f2, rfl, fun k hk => ⟨by simp [hk], hO.lt k hk⟩, by simp, hbl, rfl, rfl⟩ ?_
  intro k hk
  have := f1.size
  simp only [List.mem_cons] at hk
  rcases hk with rfl | hk
  · omega
  · have := hnew k hk; have := hO.lt k hk; omega
theorem readyF_c {w : World} {b : Nat} {bl : List UInt8} {F : List Nat} {m : Bool} (hT : TabF w b bl F m) {K : Value → World → Prop}
    (h : ∀ w' F', Fr [b] w w' → TabF w' b bl F' true → (∀ k ∈ F, k ∈ F') → (∀ k ∈ F', k ∈ F ∨ w.heap.size ≤ k ∧ k < w'.heap.size) → (m = true → F' = F ∧ Fr [] w w') → K (.pointer (some ⟨b, 0, none⟩)) w') : callF Try.prog F_field_Tables_ready #[.pointer (some ⟨b, 0, none⟩)] w K := by
  apply field_Tables_ready_call
  refine ⟨_, rfl, ?_⟩
  rw [add_mk]
  cases m with
  | true =>
    obtain ⟨f, p, c, hB, h0, hR, h2', hp, hb, hbl, hm⟩ := id hT
    refine sync_Once_Do_done hB (by omega) hm.1 ⟨rfl, ?_⟩
    exact h w F (Fr.refl _ _) hT (fun _ h => h) (fun _ h => .inl h) (fun _ => ⟨rfl, Fr.refl _ _⟩)
  | false =>
    obtain ⟨f, p, c, hB, h0, hR, h2', hp, hb, hbl, h1, h4⟩ := hT
    refine sync_Once_Do_first hB (by omega) h1 h2' fun w1 f1 hB1 s1 => callV_m ?_
    refine make_c hB1 (by rw [upd_ne _ _ _ (by omega)]; exact h0) (Row.cells_fr hR f1 fun k hk => by have := (hp k hk).2; simp; omega) (fun k hk => by have := (hp k hk).2; omega) (fun k hk => by have := (hp k hk).2; have := hB1.lt; omega)
      (by rw [upd_ne _ _ _ (by omega)]; exact h4) hbl fun w2 f' q ft f2 hB2 g0 g1 g2 g4 gok g517 hq hQ hrows => ?_
    refine ⟨rfl, f', hB2, by rw [g2, upd_same], fun w3 f3 hB3 s3 => ⟨rfl, ?_⟩⟩
    have hqb : q ≠ b := by have := hB1.lt; omega
    have fA : Fr [b] w w2 := f1.trans f2 (fun _ h => .inl h)
    have fB : Fr [b] w w3 := fA.trans f3 (fun _ h => .inl h)
    have hqw := hQ.lt
    refine h w3 (q :: F) fB ⟨_, p, c, hB3, ?_, Row.cells_fr hR fB fun k hk => by have := (hp k hk).2; simp; omega, upd_same _ _ _, fun k hk => ⟨by simp [(hp k hk).1], (hp k hk).2⟩, by simp [hb], hbl, ?_, ?_, ⟨?_, ?_⟩, q, ft, ?_, by have := hB.lt; omega, by simp, hQ.fr f3 (by simpa using hqb), hrows⟩ (fun k hk => by simp [hk])
      (fun k hk => by simp only [List.mem_cons] at hk; rcases hk with rfl | hk; exact .inr (by have := f3.size; omega); exact .inl hk) (by simp)
    · rw [upd_ne _ _ _ (by omega), upd_ne _ _ _ (by omega), g0, upd_ne _ _ _ (by omega)]; exact h0
    · rw [upd_ne _ _ _ (by omega)]; exact upd_same _ _ _
    · rw [upd_ne _ _ _ (by omega), upd_ne _ _ _ (by omega)]; exact g4
    · intro i hi; rw [upd_ne _ _ _ (by omega), upd_ne _ _ _ (by omega)]; exact gok.1 i hi
    · intro i hi; rw [upd_ne _ _ _ (by omega), upd_ne _ _ _ (by omega)]; exact gok.2 i hi
    · rw [upd_ne _ _ _ (by omega), upd_ne _ _ _ (by omega)]; exact g517
theorem SubF_c {w : World} {b : Nat} {bl : List UInt8} {F : List Nat} {m : Bool} (hT : TabF w b bl F m) (a : UInt8) {K : Value → World → Prop}
    (h : ∀ w' F', Fr [b] w w' → TabF w' b bl F' true → (∀ k ∈ F, k ∈ F') → (∀ k ∈ F', k ∈ F ∨ w.heap.size ≤ k ∧ k < w'.heap.size) → (m = true → F' = F ∧ Fr [] w w') → K (vb (gsign a)) w') : callF Try.prog F_field_Tables_Sub #[.pointer (some ⟨b, 0, none⟩), vb a] w K := by
  apply field_Tables_Sub_call
  refine readyF_c hT fun w' F' f1 hT' h1 h2 h3 => ⟨_, rfl, _, rfl, ?_⟩
  obtain ⟨f, p, c, hB, h0, hR, h2', hp, hb, hbl, a1, a2, a3, _⟩ := id hT'
  have hal := a.toNat_lt
  refine ⟨_, ixA1 (n := 256) (by kernel_rfl) (by omega) (by omega), _, Ld.blk (by kernel_rfl) hB (by simp; omega) ?_, h w' F' f1 hT' h1 h2 h3⟩
  rw [Int.toNat_natCast, Nat.zero_add, a3.1 a.toNat hal]
  simp
theorem TimesF_c {w : World} {b : Nat} {bl : List UInt8} {F : List Nat} (hT : TabF w b bl F true) (k : Nat) (x a : UInt8) (hk : bl[k]? = some x) {K : Value → World → Prop} (h : ∀ w', Fr [] w w' → TabF w' b bl F true → K (.tuple #[vb (gmul a x), .int .i64 0]) w') :
    callF Try.prog F_field_Tables_Times #[.pointer (some ⟨b, 0, none⟩), .int .i64 (k : Nat), vb a] w K := by
  apply field_Tables_Times_call
  refine readyF_c hT fun w' F' f1 hT' _ _ h3 => ⟨_, rfl, ?_⟩
  obtain ⟨rfl, fz⟩ := h3 rfl
  obtain ⟨f, p, c, hB, h0, hR, h2', hp, hb, hbl, a1, a2, a3, q, ft, a4, a5, a6, a7, a8⟩ := id hT'
  have hal := a.toNat_lt
  have hkl := (List.getElem?_eq_some_iff.1 hk).1
  have hin : k * 256 + a.toNat < bl.length * 256 := by
    have : (k + 1) * 256 ≤ bl.length * 256 := Nat.mul_le_mul_right _ hkl
    omega
  refine cond_d (fun h => by omega) fun _ => ⟨_, rfl, _, _, _, Ld.blk (by kernel_rfl) hB (by show (517 : Nat) < 518; omega) a4, cond_d (fun h => by omega) fun _ => ?_⟩
  refine ⟨_, rfl, _, _, _, Ld.blk (by kernel_rfl) hB (by show (517 : Nat) < 518; omega) a4, _, ixS (s := 256) (by kernel_rfl) (by omega) (by omega), _, ixA1 (n := 256) (by kernel_rfl) (by omega) (by omega), _, Ld.blk (by kernel_rfl) a7 (by simp; omega) ?_, h w' fz hT'⟩
  have := a8 k x hk a.toNat hal
  simp only [UInt8.ofNat_toNat] at this
  rw [Int.toNat_natCast, Int.toNat_natCast, Nat.zero_add, this]
end Go.Sh
end

section
namespace Go.Sh
open Go Go.Fw Go.Proofs
set_option maxRecDepth 100000
set_option linter.unusedVariables false
theorem cond_true {b : Bool} {A B : Prop} (hb : b = true) (h : A) : cond b A B := by subst hb; exact h
theorem cond_false {b : Bool} {A B : Prop} (hb : b = false) (h : B) : cond b A B := by subst hb; exact h
end Go.Sh
end

section
namespace Go.Sh
open Go Go.Fw Go.Proofs
set_option maxRecDepth 100000
theorem gmul_one (a : UInt8) : gmul a 1 = a := by
  have := all8 (p := fun a => gmul a 1 == a) (by kernel_rfl) a
  simpa using this
end Go.Sh
end

section
namespace Go.Sh
open Go Go.Fw Go.Proofs
set_option maxRecDepth 100000
set_option linter.unusedVariables false
theorem Fr.news {l : List Nat} {a b c : World} (h : Fr [] a b) (k : Fr l b c) (hl : ∀ x ∈ l, a.heap.size ≤ x) : Fr [] a c := h.trans k fun x hx => .inr (hl x hx)
theorem OwnS.sto {P : Program} {t te : TypeId} (ht : sliceB P t 1 = true) (hs : res P (sizeOf te) = some 1) {w : World} {p : Option Addr} {l c : Nat} {vs : List Value} (hO : OwnS w p l c vs) {k : IntKind} {i : Int} (h0 : 0 ≤ i) (h1 : i < l)
    {v : Value} (hv : v.oneCell' = true) (hc : v.cells = #[v]) {K : World → Prop} (h : ∀ w', Fr (blks p) w w' → OwnS w' p l c (vs.set i.toNat v) → w'.heap.size = w.heap.size → K w') :
    ∃ a, IxA P t (.slice p l c) (.int k i) a ∧ ∃ w', Sto P te (.pointer (some a)) v w w' ∧ K w' := by
  obtain ⟨hl, ⟨_, h2, _⟩ | ⟨g, o, N, f, rfl, hB, hoc, hlc, hf⟩⟩ := hO
  · omega
  · refine ⟨_, ixS1 ht h0 h1, ?_⟩
    refine Sto.blk hs hB (by omega) hv hc fun w' f1 hB1 s1 => h w' f1 ⟨by simpa using hl, .inr ⟨g, o, N, _, rfl, hB1, hoc, hlc, ?_⟩⟩ s1
    intro j u hj
    rw [List.getElem?_set] at hj
    by_cases hji : i.toNat = j
    · rw [if_pos hji] at hj
      subst hji
      rw [upd_same]
      split at hj
      · exact Option.some.inj hj
      · cases hj
    · rw [if_neg hji] at hj
      rw [upd_ne _ _ _ (by omega)]
      exact hf j u hj
theorem cells_vb (l : List UInt8) : ∀ u ∈ l.map vb, u.oneCell' = true := by simp; intros; rfl
end Go.Sh
end
