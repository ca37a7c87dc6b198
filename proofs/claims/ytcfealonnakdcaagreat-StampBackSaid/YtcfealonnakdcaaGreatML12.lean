/- A part of a proof of a given law of this program: lemmas, printed forms of its functions, contracts. It has no conditions of its own. -/
import Derived.Lib.SlBytesConst
import Derived.Test.YtcfealonnakdcaaGreatMA
import Derived.Test.YtcfealonnakdcaaGreatMSh9
import Derived.Test.YtcfealonnakdcaaGreatMSh2
import Derived.Test.YtcfealonnakdcaaGreatMSh8
import Derived.Test.YtcfealonnakdcaaGreatMT
import Derived.Test.YtcfealonnakdcaaGreatMH
import Derived.Test.YtcfealonnakdcaaGreatMB
import Derived.Test.YtcfealonnakdcaaGreatMR
import Derived.Test.YtcfealonnakdcaaGreatML7

section
namespace Go.Sh
open Go Go.Fw Go.Proofs
set_option maxRecDepth 100000
set_option linter.unusedVariables false
def hexv (x : UInt8) : Nat := if 48 ≤ x.toNat ∧ x.toNat ≤ 57 then x.toNat - 48 else if 97 ≤ x.toNat ∧ x.toNat ≤ 102 then x.toNat - 87 else 16
def digs : List UInt8 := [48, 49, 50, 51, 52, 53, 54, 55, 56, 57, 97, 98, 99, 100, 101, 102]
def unhexL : List UInt8 → List UInt8
  | a :: b :: t => UInt8.ofNat (16 * hexv a + hexv b) :: unhexL t
  | _ => []
theorem all256 {p : UInt8 → Bool} (h : (List.range 256).all (fun n => p (UInt8.ofNat n)) = true) (x : UInt8) : p x = true := by
  have := List.all_eq_true.1 h x.toNat (List.mem_range.2 x.toNat_lt)
  rwa [UInt8.ofNat_toNat] at this
theorem firstIdx_hex (x : UInt8) (h : hexv x < 16) : firstIdx (lstr digs) x = (hexv x : Int) := by
  have := all256 (p := fun x => !(decide (hexv x < 16)) || decide (firstIdx (lstr digs) x = (hexv x : Int))) (by kernel_rfl) x
  simp only [decide_eq_true h, Bool.not_true, Bool.false_or, decide_eq_true_eq] at this
  exact this
theorem digs_hex (x : UInt8) (h : hexv x < 16) {i : Nat} (hi : i < 16) : ((digs.getD i 0).toNat : Int) = (x.toNat : Int) ↔ i = hexv x := by
  have := all256 (p := fun x => !(decide (hexv x < 16)) || (List.range 16).all fun i => decide (((digs.getD i 0).toNat : Int) = (x.toNat : Int) ↔ i = hexv x)) (by kernel_rfl) x
  simp only [decide_eq_true h, Bool.not_true, Bool.false_or, List.all_eq_true, List.mem_range, decide_eq_true_eq] at this
  exact this i hi
theorem cond_fz {b : Bool} {A B : Prop} (h : b = false) (hb : B) : cond b A B := by rw [h]; exact hb
theorem hexOct {a b : Nat} (ha : a < 16) (hb : b < 16) : IntKind.u8.wrap (ior .i64 (IntKind.i64.wrap ((a : Int) * 2 ^ 4)) (b : Int)) = ((UInt8.ofNat (16 * a + b)).toNat : Int) := by
  have : (List.range 16).all (fun a => (List.range 16).all fun b => decide (IntKind.u8.wrap (ior .i64 (IntKind.i64.wrap ((a : Int) * 2 ^ 4)) (b : Int)) = ((UInt8.ofNat (16 * a + b)).toNat : Int))) = true := by kernel_rfl
  have h1 := List.all_eq_true.1 this a (List.mem_range.2 ha)
  have h2 := List.all_eq_true.1 h1 b (List.mem_range.2 hb)
  exact of_decide_eq_true h2
theorem hexRef {a b : Nat} (ha : a < 16) (hb : b < 16) : IntKind.u8.wrap (IntKind.i64.wrap ((IntKind.i64.wrap (16 * (a : Int))) + (b : Int))) = ((UInt8.ofNat (16 * a + b)).toNat : Int) := by
  have : (List.range 16).all (fun a => (List.range 16).all fun b => decide (IntKind.u8.wrap (IntKind.i64.wrap ((IntKind.i64.wrap (16 * (a : Int))) + (b : Int))) = ((UInt8.ofNat (16 * a + b)).toNat : Int))) = true := by kernel_rfl
  have h1 := List.all_eq_true.1 this a (List.mem_range.2 ha)
  have h2 := List.all_eq_true.1 h1 b (List.mem_range.2 hb)
  exact of_decide_eq_true h2
section
variable {w : World} {K : Value → World → Prop}
theorem strIndex_c {x : UInt8} (hx : hexv x < 16) (h : K (.int .i64 (hexv x : Int)) w) : callF Tryz.prog F_strings_IndexByte #[.string (lstr digs), .int .u8 (x.toNat : Int)] w K := by
  apply strings_IndexByte_call
  unfold strings_IndexByte
  apply internal_stringslite_IndexByte_call
  unfold internal_stringslite_IndexByte
  apply internal_bytealg_IndexByteString_c
  have e : (x.toNat : Int).toNat.toUInt8 = x := by rw [Int.toNat_natCast]; exact UInt8.ofNat_toNat
  rw [e, firstIdx_hex x hx]
  exact ⟨_, rfl, _, rfl, h⟩
theorem PuMin {n m : Int} : Pu Tryz.prog (Builtin.min_ #[T_int, T_int] T_int #[.int .i64 n, .int .i64 m]) (.int .i64 (min n m)) := by
  have e : Pu Tryz.prog (Builtin.min_ #[T_int, T_int] T_int #[.int .i64 n, .int .i64 m]) (.int .i64 (if m < n then m else n)) := by unfold Pu; kernel_rfl
  have : (if m < n then m else n) = min n m := by split <;> omega
  rwa [this] at e
theorem octUnhex_c {xs : List UInt8} {m : Nat} (hl : xs.length = 2 * m) (hm : m ≤ 1000) (hx : ∀ x ∈ xs, hexv x < 16) (h : ∀ q d w', Fr [] w w' → OB w' q m d (unhexL xs) w.heap.size → K (.tuple #[.slice q m d, .int .i64 0]) w') :
    callF Tryz.prog F_octet_Unhex #[.string (lstr xs)] w K := by
  apply octet_Unhex_call
  unfold octet_Unhex
  have e0 : Int.tmod (((lstr xs).size : Nat) : Int) 2 = 0 := by rw [lstr_size, hl, Int.tmod_eq_emod_of_nonneg (by omega)]; omega
  rw [e0]
  refine cond_fz rfl ?_
  refine LoopS.ind (fun k us w' => ∃ (i : Nat) (rest ys : List UInt8) (p : Option Addr) (c : Nat), i + k = m ∧ rest.length = 2 * k ∧ ys ++ unhexL rest = unhexL xs ∧ (∀ x ∈ rest, hexv x < 16) ∧ us = [.string (lstr rest), .slice none 0 0, .int .i64 0, .slice p i c] ∧ OB w' p i c ys w.heap.size ∧ Fr [] w w') m
    ⟨0, xs, [], none, 0, by omega, hl, rfl, hx, rfl, OB.nil _ _, Fr.refl _ _⟩ ?_
  rintro k us rr w1 I μ hgo ⟨i, rest, ys, p, c, hi, hr, he, hxr, rfl, hO, hf⟩
  refine ⟨_, _, _, _, _, _, _, _, rfl, _, _, Ef.strNe, ?_⟩
  match rest, hr, he, hxr with
  | [], hr, he, hxr =>
    have hk0 : k = 0 := by simp at hr; omega
    have e1 : (!((lstr []).toList == (⟨#[]⟩ : ByteArray).toList)) = false := by rw [show (⟨#[]⟩ : ByteArray) = lstr [] from rfl, lstr_list]; rfl
    rw [e1]
    refine cond_f ?_
    have him : i = m := by omega
    subst him
    have he' : ys = unhexL xs := by simpa [unhexL] using he
    exact h p c w1 hf (by rw [← he']; exact hO)
  | [a], hr, he, hxr => exact absurd hr (by simp; omega)
  | a :: b :: t, hr, he, hxr =>
    have e1 : (!((lstr (a :: b :: t)).toList == (⟨#[]⟩ : ByteArray).toList)) = true := by rw [show (⟨#[]⟩ : ByteArray) = lstr [] from rfl, lstr_list, lstr_list]; rfl
    rw [e1]
    refine cond_t (Drw.intro fun w2 f2 s2 => ?_)
    refine ⟨_, PuStrIx (by kernel_rfl) (xs := a :: b :: t) (i := 0) (by simp), _, PuStrIx (by kernel_rfl) (xs := a :: b :: t) (i := 1) (by simp), ?_⟩
    have ha := hxr a (by simp)
    have hb := hxr b (by simp)
    refine strIndex_c (x := a) ha ⟨_, rfl, strIndex_c (x := b) hb ⟨_, rfl, _, PuMin, cond_d (fun hh => by omega) fun _ => ?_⟩⟩
    rw [hexOct ha hb]
    refine push1 (hO.fr0 f2) (hf.then f2).size (by omega) fun p' c' w3 f3 hO3 => ⟨_, PuStrFrom (by kernel_rfl) (n := 2) (by simp), ?_⟩
    refine hgo _ _ _ (k - 1) (by simp at hr; omega) ⟨i + 1, t, ys ++ [UInt8.ofNat (16 * hexv a + hexv b)], p', c', by simp at hr; omega, by simp at hr; omega, by simpa [unhexL] using he, fun x hx => hxr x (by simp [hx]), rfl, hO3, (hf.then f2).trans f3 fun z hz => .inr (hO.2.2 z hz)⟩
theorem refDigit_c {x : UInt8} (hx : hexv x < 16) (h : K (.int .i64 (hexv x : Int)) w) : callF Tryz.prog F_ref01_digit #[.int .u8 (x.toNat : Int)] w K := by
  apply ref01_digit_call
  unfold ref01_digit
  refine LoopS.ind (fun k us w' => ∃ i : Nat, i + k = 16 ∧ i ≤ hexv x ∧ us = [.int .u8 (x.toNat : Int), .int .i64 0, .int .i64 (i : Int)] ∧ w' = w) 16 ⟨0, rfl, by omega, rfl, rfl⟩ ?_
  rintro k us rr w1 I μ hgo ⟨i, hi, hle, rfl, rfl⟩
  refine ⟨_, _, _, rfl, cond_d (fun hlt => ?_) fun hge => by omega⟩
  refine ⟨_, PuStrIx (by kernel_rfl) (xs := digs) (i := i) (by show i < 16; omega), cond_eq (fun h1 => ?_) fun h1 => ?_⟩
  · have := (digs_hex x hx (i := i) (by omega)).1 h1
    rw [this]; exact h
  · have hne : i ≠ hexv x := fun hh => h1 ((digs_hex x hx (i := i) (by omega)).2 hh)
    rw [wrap64 (by omega) (by omega)]
    exact hgo _ _ _ (k - 1) (by omega) ⟨i + 1, by omega, by omega, rfl, rfl⟩
theorem refUnhex_c {xs : List UInt8} {m : Nat} (hl : xs.length = 2 * m) (hm : m ≤ 1000) (hx : ∀ x ∈ xs, hexv x < 16) (h : ∀ q d w', Fr [] w w' → OB w' q m d (unhexL xs) w.heap.size → K (.tuple #[.slice q m d, .int .i64 0]) w') :
    callF Tryz.prog F_ref01_Unhex #[.string (lstr xs)] w K := by
  apply ref01_Unhex_call
  unfold ref01_Unhex
  have e0 : Int.tmod (((lstr xs).size : Nat) : Int) 2 = 0 := by rw [lstr_size, hl, Int.tmod_eq_emod_of_nonneg (by omega)]; omega
  rw [e0]
  refine cond_fz rfl (mk0 fun p0 w0 f0 hO0 s0 => ?_)
  refine LoopS.ind (fun k us w' => ∃ (i : Nat) (rest ys : List UInt8) (p : Option Addr) (c : Nat), i + k = m ∧ rest = xs.drop (2 * i) ∧ ys ++ unhexL rest = unhexL xs ∧ us = [.string (lstr xs), .slice none 0 0, .int .i64 0, .slice p i c, .int .i64 ((2 * i : Nat) : Int)] ∧ OB w' p i c ys w.heap.size ∧ Fr [] w w') m
    ⟨0, xs, [], p0, 0, by omega, rfl, rfl, rfl, hO0, f0⟩ ?_
  rintro k us rr w1 I μ hgo ⟨i, rest, ys, p, c, hi, hr, he, rfl, hO, hf⟩
  refine ⟨_, _, _, _, _, _, _, _, _, rfl, ?_⟩
  rw [lstr_size]
  have hrl : rest.length = 2 * k := by rw [hr, List.length_drop]; omega
  match rest, hr, he, hrl with
  | [], hr, he, hrl =>
    have hk0 : k = 0 := by simp at hrl; omega
    refine cond_d (fun hh => by omega) fun _ => ?_
    have him : i = m := by omega
    subst him
    have he' : ys = unhexL xs := by simpa [unhexL] using he
    exact h p c w1 hf (by rw [← he']; exact hO)
  | [a], hr, he, hrl => exact absurd hrl (by simp; omega)
  | a :: b :: t, hr, he, hrl =>
    simp at hrl
    refine cond_d (fun hh => ?_) fun hh => by omega
    have ga : xs.getD (2 * i) 0 = a := by
      have : xs[2 * i]? = some a := by
        have := congrArg (·[0]?) hr
        simpa using this.symm
      rw [List.getD_eq_getElem?_getD, this]; rfl
    have gb : xs.getD (2 * i + 1) 0 = b := by
      have : xs[2 * i + 1]? = some b := by
        have := congrArg (·[1]?) hr
        simpa using this.symm
      rw [List.getD_eq_getElem?_getD, this]; rfl
    have hmem : ∀ x ∈ a :: b :: t, x ∈ xs := fun x hx => List.mem_of_mem_drop (by rw [← hr]; exact hx)
    have ha := hx a (hmem a (by simp))
    have hb := hx b (hmem b (by simp))
    refine ⟨_, PuStrIx (by kernel_rfl) (xs := xs) (i := 2 * i) (by omega), ?_⟩
    rw [ga]
    have e1 : IntKind.i64.wrap (((2 * i : Nat) : Int) + 1) = ((2 * i + 1 : Nat) : Int) := by rw [wrap64 (by omega) (by omega)]; omega
    rw [e1]
    refine refDigit_c ha ⟨_, rfl, _, PuStrIx (by kernel_rfl) (xs := xs) (i := 2 * i + 1) (by omega), ?_⟩
    rw [gb]
    refine refDigit_c hb ⟨_, rfl, cond_d (fun hh => by omega) fun _ => cond_d (fun hh => by omega) fun _ => ?_⟩
    unfold ref01_Unhex_j1
    rw [hexRef ha hb]
    have e2 : IntKind.i64.wrap (((2 * i : Nat) : Int) + 2) = ((2 * (i + 1) : Nat) : Int) := by rw [wrap64 (by omega) (by omega)]; omega
    rw [e2]
    refine push1 hO hf.size (by omega) fun p' c' w3 f3 hO3 => ?_
    refine hgo _ _ _ (k - 1) (by omega) ⟨i + 1, t, ys ++ [UInt8.ofNat (16 * hexv a + hexv b)], p', c', by omega, ?_, by simpa [unhexL] using he, rfl, hO3, hf.trans f3 fun z hz => .inr (hO.2.2 z hz)⟩
    have := congrArg (List.drop 2) hr
    rw [List.drop_drop] at this
    have e3 : 2 * i + 2 = 2 * (i + 1) := by omega
    rw [e3] at this
    simpa using this
end
end Go.Sh
end

section
namespace Go.Sh
open Go Go.Fw Go.Proofs
set_option maxRecDepth 100000
set_option linter.unusedVariables false
def CAt (w : World) (k : Nat) (cs : List Value) : Prop := ∃ g, Blk w k cs.length g ∧ ∀ j v, cs[j]? = some v → g j = v
section
variable {w : World} {k : Nat} {cs : List Value} {t : TypeId}
theorem CAt.lt (h : CAt w k cs) : k < w.heap.size := by obtain ⟨g, hB, _⟩ := h; exact hB.lt
theorem CAt.fr {w' : World} {L : List Nat} (h : CAt w k cs) (hf : Fr L w w') (hk : k ∉ L) : CAt w' k cs := by obtain ⟨g, hB, hv⟩ := h; exact ⟨g, hB.fr hf hk, hv⟩
theorem CAt.fr0 {w' : World} (h : CAt w k cs) (hf : Fr [] w w') : CAt w' k cs := h.fr hf (by simp)
theorem CAt.frA {w' : World} {b : Nat} (h : CAt w k cs) (hf : FrA b w w') (hk : k < b) : CAt w' k cs := by
  obtain ⟨L, h1, h2⟩ := hf
  exact h.fr h2 fun hm => by have := h1 _ hm; omega
theorem CAt.ld (h : CAt w k cs) (ht : res Tryz.prog (isAgg t) = some true) (hs : res Tryz.prog (sizeOf t) = some cs.length) : Ld Tryz.prog t (.pointer (some ⟨k, 0, none⟩)) w (.agg ⟨cs⟩) := by
  obtain ⟨g, hB, hv⟩ := h
  exact LdA (m := cs.length) ht hs hB (o := 0) (by omega) cs rfl fun j v hj => by rw [Nat.zero_add]; exact hv j v hj
theorem CAt.ld0 {ds rs : List Value} (h : CAt w k cs) (he : cs = ds ++ rs) (ht : res Tryz.prog (isAgg t) = some true) (hs : res Tryz.prog (sizeOf t) = some ds.length) : Ld Tryz.prog t (.pointer (some ((⟨k, 0, none⟩ : Addr).add 0))) w (.agg ⟨ds⟩) := by
  obtain ⟨g, hB, hv⟩ := h
  rw [add_mk]
  refine LdA (m := ds.length) ht hs hB (o := 0) (by rw [he, List.length_append]; omega) ds rfl fun j v hj => ?_
  rw [Nat.zero_add]
  exact hv j v (by rw [he, List.getElem?_append_left (List.getElem?_eq_some_iff.1 hj).1]; exact hj)
theorem CAt.get (h : CAt w k cs) (ht : res Tryz.prog (isAgg t) = some false) {j : Nat} {v : Value} (hj : cs[j]? = some v) : Ld Tryz.prog t (.pointer (some ((⟨k, 0, none⟩ : Addr).add j))) w v := by
  obtain ⟨g, hB, hv⟩ := h
  rw [add_mk]
  exact Ld.blk ht hB (by have := (List.getElem?_eq_some_iff.1 hj).1; omega) (by rw [Nat.zero_add]; exact hv j v hj)
theorem CAt.get0 (h : CAt w k cs) (ht : res Tryz.prog (isAgg t) = some false) {j : Nat} {v : Value} (hj : cs[j]? = some v) : Ld Tryz.prog t (.pointer (some (((⟨k, 0, none⟩ : Addr).add 0).add j))) w v := by
  have : (⟨k, 0, none⟩ : Addr).add 0 = ⟨k, 0, none⟩ := rfl
  rw [this]; exact h.get ht hj
theorem newC {t : TypeId} {K : Nat → World → Prop} (cs : List Value) (h : ∀ w', Fr [] w w' → CAt w' w.heap.size cs → w'.heap.size = w.heap.size + 1 → K w.heap.size w') : New ⟨cs⟩ t w K :=
  New.intro fun w1 f1 hB s1 => h w1 f1 ⟨_, hB, fun j v hj => by
    show Array.getD ⟨cs⟩ j undef = v
    rw [Array.getD_eq_getD_getElem?, List.getElem?_toArray, hj]; rfl⟩ s1
theorem stoC {n : Nat} {g : Nat → Value} (hB : Blk w k n g) (cs : List Value) (hn : cs.length = n) (h1 : cs.all (·.oneCell') = true) (ht : res Tryz.prog (sizeOf t) = some n) {K : World → Prop} (h : ∀ w', Fr [k] w w' → CAt w' k cs → w'.heap.size = w.heap.size → K w') :
    ∃ w', Sto Tryz.prog t (.pointer (some ⟨k, 0, none⟩)) (.agg ⟨cs⟩) w w' ∧ K w' :=
  Sto.agg (m := n) (cs := cs) ht hn hB (by omega) (fun v hv => List.all_eq_true.1 h1 v hv) fun w' hf hB' hs => h w' hf ⟨_, by rw [hn]; exact hB', fun j v hj => by
    obtain ⟨q1, q2⟩ := List.getElem?_eq_some_iff.1 hj
    unfold updN
    rw [dif_pos ⟨by omega, by omega⟩]
    simpa using q2⟩ hs
theorem CAt.blk (h : CAt w k cs) : ∃ g, Blk w k cs.length g := by obtain ⟨g, hB, _⟩ := h; exact ⟨g, hB⟩
theorem CAt.sto (h : CAt w k cs) {j : Nat} (hj : j < cs.length) (v : Value) (hv : v.oneCell' = true) (hc : v.cells = #[v]) (hs : res Tryz.prog (sizeOf t) = some 1) {K : World → Prop} (hk : ∀ w', Fr [k] w w' → CAt w' k (cs.set j v) → w'.heap.size = w.heap.size → K w') :
    ∃ w', Sto Tryz.prog t (.pointer (some ((⟨k, 0, none⟩ : Addr).add j))) v w w' ∧ K w' := by
  obtain ⟨g, hB, hg⟩ := h
  rw [add_mk, Nat.zero_add]
  refine Sto.blk hs hB hj hv hc fun w' f hB' s => hk w' f ⟨_, by rw [List.length_set]; exact hB', fun i u hi => ?_⟩ s
  rw [List.getElem?_set] at hi
  unfold upd
  by_cases hij : j = i
  · subst hij
    rw [if_pos rfl, if_pos hj] at hi
    rw [if_pos rfl]; exact Option.some.inj hi
  · rw [if_neg hij] at hi
    rw [if_neg (fun hh => hij hh.symm)]; exact hg i u hi
theorem putC (cs : List Value) {n : Nat} (hn : cs.length = n) (h1 : cs.all (·.oneCell') = true) (hz : zsB Tryz.prog t n = true) (ht : res Tryz.prog (sizeOf t) = some n) {K : Nat → World → Prop} (h : ∀ w', Fr [] w w' → CAt w' w.heap.size cs → K w.heap.size w') :
    ∃ z, Pu Tryz.prog (zeroValue t) z ∧ New z.cells t w fun k w2 => ∃ w3, Sto Tryz.prog t (.pointer (some ⟨k, 0, none⟩)) (.agg ⟨cs⟩) w2 w3 ∧ K k w3 :=
  newZ (s := n) hz fun w2 g2 f2 hB2 s2 => stoC hB2 cs hn h1 ht fun w3 f3 hC s3 => h w3 (f2.st f3 (Nat.le_refl _)) hC
theorem tellC {n : Nat} {g : Nat → Value} (hB : Blk w k n g) (cs : List Value) (hn : cs.length = n) (h1 : cs.all (·.oneCell') = true) (ha : res Tryz.prog (isAgg t) = some true) (ht : res Tryz.prog (sizeOf t) = some n) {K : Value → World → Prop} (h : ∀ w', Fr [k] w w' → K (.agg ⟨cs⟩) w') :
    ∃ w2, Sto Tryz.prog t (.pointer (some ⟨k, 0, none⟩)) (.agg ⟨cs⟩) w w2 ∧ ∃ (a4 : Addr) (v4 : Value), (.pointer (some ⟨k, 0, none⟩) : Value) = .pointer (some a4) ∧ (loadVar t a4).run Tryz.prog w2 = .ok v4 w2 ∧ K v4 w2 :=
  stoC hB cs hn h1 ht fun w3 f3 hT s3 => ⟨_, _, rfl, hT.ld ha (by rw [hn]; exact ht), h w3 f3⟩
end
end Go.Sh
end

section
namespace Go.Sh
open Go Go.Fw Go.Proofs
set_option maxRecDepth 100000
set_option linter.unusedVariables false
structure HF where
  fi : Nat
  ve : Nat
  to : List UInt8
  fr : List UInt8
  p1 : Option Addr
  c1 : Nat
  p2 : Option Addr
  c2 : Nat
def HF.v (f : HF) : List Value := [.int .u8 (f.fi : Int), .int .u32 (f.ve : Int), .slice f.p1 f.to.length f.c1, .slice f.p2 f.fr.length f.c2]
def HF.a (f : HF) : Value := .agg #[.int .u8 (f.fi : Int), .int .u32 (f.ve : Int), .slice f.p1 f.to.length f.c1, .slice f.p2 f.fr.length f.c2]
structure HF.ok (w : World) (f : HF) : Prop where
  r1 : Row w f.p1 (f.to.map vb)
  h1 : f.to.length ≤ f.c1
  r2 : Row w f.p2 (f.fr.map vb)
  h2 : f.fr.length ≤ f.c2
  b1 : f.fi < 256
  b2 : f.ve < 4294967296
structure HF.own (w : World) (f : HF) (lo : Nat) : Prop where
  o1 : OB w f.p1 f.to.length f.c1 f.to lo
  o2 : OB w f.p2 f.fr.length f.c2 f.fr lo
  b1 : f.fi < 256
  b2 : f.ve < 4294967296
theorem HF.own.ok {w : World} {f : HF} {lo : Nat} (h : HF.own w f lo) : HF.ok w f := ⟨h.o1.row, h.o1.cap, h.o2.row, h.o2.cap, h.b1, h.b2⟩
theorem HF.ok.fr0 {w w' : World} {f : HF} (h : HF.ok w f) (hf : Fr [] w w') : HF.ok w' f := ⟨h.r1.fr0 hf, h.h1, h.r2.fr0 hf, h.h2, h.b1, h.b2⟩
theorem HF.own.fr0 {w w' : World} {f : HF} {lo : Nat} (h : HF.own w f lo) (hf : Fr [] w w') : HF.own w' f lo := ⟨h.o1.fr0 hf, h.o2.fr0 hf, h.b1, h.b2⟩
theorem HF.own.mono {w : World} {f : HF} {lo lo' : Nat} (h : HF.own w f lo) (hl : lo' ≤ lo) : HF.own w f lo' := ⟨h.o1.mono hl, h.o2.mono hl, h.b1, h.b2⟩
theorem HF.own.fr_sep {w w' : World} {f : HF} {lo b : Nat} (h : HF.own w f lo) (hf : Fr [b] w w') (hl : b < lo) : HF.own w' f lo := ⟨h.o1.fr_sep hf hl, h.o2.fr_sep hf hl, h.b1, h.b2⟩
def hf0 : HF := ⟨0, 0, [], [], none, 0, none, 0⟩
theorem hf0_own (w : World) (lo : Nat) : HF.own w hf0 lo := ⟨OB.nil _ _, OB.nil _ _, by show 0 < _; omega, by show 0 < _; omega⟩
structure HU where
  e : Int
  fi : Nat
  ve : Nat
  to : List UInt8
  fr : List UInt8
  rest : List UInt8
def HU.bad (e : Int) : HU := ⟨e, 0, 0, [], [], []⟩
def HF.hu (f : HF) (e : Int) (rest : List UInt8) : HU := ⟨e, f.fi, f.ve, f.to, f.fr, rest⟩
def hd1 (b : List UInt8) := numP 1 (0, b)
def hd2 (b : List UInt8) := numP 4 (hd1 b).2
def hd3 (b : List UInt8) := shortP (hd2 b).2
def hd4 (b : List UInt8) := shortP (hd3 b).2
def hd5 (b : List UInt8) := restP (hd4 b).2
def hdP (b : List UInt8) : HU :=
  if 0 < b.length ∧ (fl b 0).toNat < 128 then .bad 14
  else if (hd5 b).2.1 ≠ 0 then .bad (hd5 b).2.1
  else ⟨0, (hd1 b).1, (hd2 b).1, (hd3 b).1, (hd4 b).1, (hd5 b).1⟩
theorem numP_ltk (k : Nat) (s : Int × List UInt8) : (numP k s).1 < 256 ^ k := by
  unfold numP
  split
  · rename_i h
    have := numL_lt (s.2.take k)
    rw [List.length_take, Nat.min_eq_left h.2] at this
    exact this
  · exact Nat.pow_pos (by omega)
theorem long_bit (x : UInt8) : ((iand .u8 (x.toNat : Int) 128) != 0) = decide (128 ≤ x.toNat) := by
  have := all256 (p := fun x => decide (((iand .u8 (x.toNat : Int) 128) != 0) = decide (128 ≤ x.toNat))) (by kernel_rfl) x
  exact of_decide_eq_true this
def typN (n : Nat) : Nat := n / 16 % 4
theorem typ_oct {n : Nat} (h : n < 256) : IntKind.i64.wrap (iand .u8 (Int.fdiv (n : Int) (2 ^ 4)) 3) = (typN n : Int) := by
  have : (List.range 256).all (fun n => decide (IntKind.i64.wrap (iand .u8 (Int.fdiv (n : Int) (2 ^ 4)) 3) = (typN n : Int))) = true := by kernel_rfl
  exact of_decide_eq_true (List.all_eq_true.1 this n (List.mem_range.2 h))
theorem typ_ref {n : Nat} (h : n < 256) : Int.tmod (IntKind.i64.wrap (Int.tdiv (IntKind.i64.wrap (n : Int)) 16)) 4 = (typN n : Int) := by
  have : (List.range 256).all (fun n => decide (Int.tmod (IntKind.i64.wrap (Int.tdiv (IntKind.i64.wrap (n : Int)) 16)) 4 = (typN n : Int))) = true := by kernel_rfl
  exact of_decide_eq_true (List.all_eq_true.1 this n (List.mem_range.2 h))
section
variable {w : World} {K : Value → World → Prop}
theorem initType_c {n : Nat} (hn : n < 256) (h : K (.int .i64 (typN n : Int)) w) : callF Tryz.prog F_initial_Type #[.int .u8 (n : Int)] w K := by
  apply initial_Type_call
  unfold initial_Type
  rw [typ_oct hn]; exact h
theorem headLong_c {p : Option Addr} {l c : Nat} {b : List UInt8} (hR : Row w p (b.map vb)) (hl : l = b.length) (h : K (.bool (decide (0 < b.length ∧ 128 ≤ (fl b 0).toNat))) w) : callF Tryz.prog F_head_Long #[.slice p l c] w K := by
  apply head_Long_call
  unfold head_Long
  refine cond_d (fun h0 => ?_) fun h0 => ?_
  · obtain ⟨a, ha, hca⟩ := row_get (t := T_S_uint8) (by kernel_rfl) hR (c := c) hl (i := 0) (by omega) (k := .i64)
    refine ⟨_, ha, _, Ld.cell (by kernel_rfl) hca, ?_⟩
    show K (.bool ((iand .u8 ((fl b 0).toNat : Int) 128) != 0)) w
    rw [long_bit (fl b 0)]
    have e : decide (0 < b.length ∧ 128 ≤ (fl b 0).toNat) = decide (128 ≤ (fl b 0).toNat) := by
      apply decide_eq_decide.2; exact ⟨fun h => h.2, fun h => ⟨by omega, h⟩⟩
    rw [e] at h; exact h
  · have e : decide (0 < b.length ∧ 128 ≤ (fl b 0).toNat) = false := decide_eq_false fun hh => by omega
    rw [e] at h; exact h
set_option maxHeartbeats 2000000 in
theorem headParse_c {p : Option Addr} {l c : Nat} {b : List UInt8} (hR : Row w p (b.map vb)) (hl : l = b.length) (hc : l ≤ c) (hlb : b.length ≤ 1000000)
    (hk : ∀ u q d w', Fr [] w w' → HF.own w' u w.heap.size → OB w' q (hdP b).rest.length d (hdP b).rest w.heap.size → u.hu (hdP b).e (hdP b).rest = hdP b → K (.tuple #[u.a, .slice q (hdP b).rest.length d, .int .i64 (hdP b).e]) w') :
    callF Tryz.prog F_head_Parse #[.slice p l c] w K := by
  apply head_Parse_call
  unfold head_Parse
  refine newZ (s := 4) (by kernel_rfl) fun w1 g1 f1 hB1 s1 => ?_
  obtain ⟨k2, hk2⟩ : ∃ k, k = w.heap.size := ⟨_, rfl⟩
  rw [← hk2] at hB1 ⊢
  have bad : ∀ (w9 : World) (e : Int), Blk w9 k2 4 g1 → Fr [] w w9 → hdP b = .bad e → ∃ w2, Sto Tryz.prog T_head_Head (.pointer (some ⟨k2, 0, none⟩)) hf0.a w9 w2 ∧ ∃ (a4 : Addr) (v4 : Value), (.pointer (some ⟨k2, 0, none⟩) : Value) = .pointer (some a4) ∧ (loadVar T_head_Head a4).run Tryz.prog w2 = .ok v4 w2 ∧ K (.tuple #[v4, .slice none 0 0, .int .i64 e]) w2 := by
    intro w9 e hB9 f9 hbe
    refine tellC hB9 hf0.v rfl rfl (by kernel_rfl) (by kernel_rfl) (K := fun v w' => K (.tuple #[v, .slice none 0 0, .int .i64 e]) w') fun w10 f10 => ?_
    have := hk hf0 none 0 w10 (f9.st f10 (by omega)) (hf0_own _ _)
    rw [hbe] at this
    exact this (OB.nil _ _) rfl
  have main : ¬ (0 < b.length ∧ (fl b 0).toNat < 128) → head_Parse_j1 p l c ⟨k2, 0, none⟩ none 0 0 0 w1 K := by
    intro hno
    unfold head_Parse_j1
    refine scanRead_c (hR.fr0 f1) hl hc fun w2 f2 hR2 s2 => ⟨_, rfl, ?_⟩
    obtain ⟨r, hr⟩ : ∃ r, r = w1.heap.size := ⟨_, rfl⟩
    rw [← hr] at hR2 ⊢
    have n1 : (hd1 b).2.2.length ≤ b.length := numP_len 1 (0, b)
    have t1 : (hd1 b).1 < 256 := numP_ltk 1 (0, b)
    have n2 : (hd2 b).2.2.length ≤ (hd1 b).2.2.length := numP_len 4 _
    have t2 : (hd2 b).1 < 4294967296 := numP_ltk 4 (hd1 b).2
    have n3 : (hd3 b).2.2.length ≤ (hd2 b).2.2.length := (shortP_len _).1
    have n4 : (hd4 b).2.2.length ≤ (hd3 b).2.2.length := (shortP_len _).1
    have hdp : hdP b = if (hd5 b).2.1 ≠ 0 then .bad (hd5 b).2.1 else ⟨0, (hd1 b).1, (hd2 b).1, (hd3 b).1, (hd4 b).1, (hd5 b).1⟩ := by unfold hdP; rw [if_neg hno]
    refine rdNumP_c hR2 1 (by omega) hlb fun w3 f3 hR3 => ⟨_, rfl, ?_⟩
    obtain ⟨d1, hd1'⟩ : ∃ d, d = hd1 b := ⟨_, rfl⟩
    change RdAt w3 r (hd1 b).2.1 (hd1 b).2.2 at hR3
    show callF _ _ _ _ (fun r24 w3 => ∃ (n24 : Int), _)
    refine rdNumP_c hR3 4 (by omega) (by omega) fun w4 f4 hR4 => ⟨_, rfl, ?_⟩
    change RdAt w4 r (hd2 b).2.1 (hd2 b).2.2 at hR4
    have e1 : IntKind.u8.wrap (((numP 1 (0, b)).1 : Nat) : Int) = (((hd1 b).1 : Nat) : Int) := wrap8 (by omega) (by show (((hd1 b).1 : Nat) : Int) < 256; omega)
    have e2 : IntKind.u32.wrap (((numP 4 ((hd1 b).2.1, (hd1 b).2.2)).1 : Nat) : Int) = (((hd2 b).1 : Nat) : Int) := wrap32 (by omega) (by show (((hd2 b).1 : Nat) : Int) < 4294967296; omega)
    rw [e1, e2]
    refine putC (t := T_head_Head) [.int .u8 ((hd1 b).1 : Int), .int .u32 ((hd2 b).1 : Int), .slice none 0 0, .slice none 0 0] rfl rfl (by kernel_rfl) (by kernel_rfl) fun w5 f5 hC5 => ?_
    obtain ⟨k6, hk6⟩ : ∃ k, k = w4.heap.size := ⟨_, rfl⟩
    rw [← hk6] at hC5 ⊢
    have m1 := f1.size; have m2 := f2.size; have m3 := f3.size; have m4 := f4.size; have m5 := f5.size
    have hk6l := hC5.lt
    have hrl : r < w4.heap.size := hR4.lt
    refine rdShortP_c (hR4.fr0 f5) (by omega) fun q6 d6 w6 f6 hR6 hO6 => ⟨_, _, _, rfl, ?_⟩
    change RdAt w6 r (hd3 b).2.1 (hd3 b).2.2 at hR6
    change OB w6 q6 (hd3 b).1.length d6 (hd3 b).1 w5.heap.size at hO6
    refine rdShortP_c hR6 (by omega) fun q7 d7 w7 f7 hR7 hO7 => ⟨_, _, _, rfl, ?_⟩
    change RdAt w7 r (hd4 b).2.1 (hd4 b).2.2 at hR7
    change OB w7 q7 (hd4 b).1.length d7 (hd4 b).1 w6.heap.size at hO7
    have m6 := f6.size; have m7 := f7.size
    have hC7 := (hC5.fr f6 (by simp; omega)).fr f7 (by simp; omega)
    have hO67 := hO6.fr_sep f7 (by omega)
    refine hC7.sto (j := 2) (by simp) (.slice q6 (hd3 b).1.length d6) rfl rfl (by kernel_rfl) fun w8 f8 hC8 s8 => ?_
    refine hC8.sto (j := 3) (by simp) (.slice q7 (hd4 b).1.length d7) rfl rfl (by kernel_rfl) fun w9 f9 hC9 s9 => ?_
    have hR9 : RdAt w9 r (hd4 b).2.1 (hd4 b).2.2 := (hR7.fr f8 (by simp; omega)).fr f9 (by simp; omega)
    have hO69 := (hO67.fr_sep f8 (by omega)).fr_sep f9 (by omega)
    have hO79 := (hO7.fr_sep f8 (by omega)).fr_sep f9 (by omega)
    refine rdRestP_c hR9 (by omega) fun q10 d10 w10 f10 hR10 hO10 => ⟨_, _, _, rfl, ?_⟩
    change RdAt w10 r (hd5 b).2.1 (hd5 b).2.2 at hR10
    change OB w10 q10 (hd5 b).1.length d10 (hd5 b).1 w9.heap.size at hO10
    have m8 := f8.size; have m9 := f9.size; have m10 := f10.size
    have hC10 := hC9.fr f10 (by simp; omega)
    have hO610 := hO69.fr_sep f10 (by omega)
    have hO710 := hO79.fr_sep f10 (by omega)
    have a0 : (⟨r, 0, none⟩ : Addr).add 0 = ⟨r, 0, none⟩ := rfl
    refine ⟨_, rfl, ?_⟩
    rw [a0]
    have B : ∀ {x y : World} {L : List Nat}, Fr L x y → (∀ z ∈ L, k2 ≠ z) → Blk x k2 4 g1 → Blk y k2 4 g1 := fun hf hz hB => hB.fr hf fun hm => hz _ hm rfl
    have hB10 : Blk w10 k2 4 g1 := by
      have h2 := (((hB1.fr0 f2).fr f3 (by simp; omega)).fr f4 (by simp; omega)).fr0 f5
      exact ((((h2.fr f6 (by simp; omega)).fr f7 (by simp; omega)).fr f8 (by simp; omega)).fr f9 (by simp; omega)).fr f10 (by simp; omega)
    have f010 : Fr [] w w10 := (((((((((f1.then f2).st f3 (by omega)).st f4 (by omega)).then f5).st f6 (by omega)).st f7 (by omega)).st f8 (by omega)).st f9 (by omega)).st f10 (by omega))
    refine rdErr_c hR10 ⟨_, rfl, cond_ne (fun he => ?_) fun he => ?_⟩
    · exact bad w10 _ hB10 f010 (by rw [hdp, if_pos he])
    · have hok : hdP b = ⟨0, (hd1 b).1, (hd2 b).1, (hd3 b).1, (hd4 b).1, (hd5 b).1⟩ := by rw [hdp, if_neg (fun hh => hh he)]
      obtain ⟨u, hu⟩ : ∃ u : HF, u = ⟨(hd1 b).1, (hd2 b).1, (hd3 b).1, (hd4 b).1, q6, d6, q7, d7⟩ := ⟨_, rfl⟩
      have hC10' : CAt w10 k6 u.v := by rw [hu]; exact hC10
      refine ⟨_, _, _, _, _, _, _, _, hC10'.ld (by kernel_rfl) (by kernel_rfl), ?_⟩
      refine tellC hB10 u.v rfl rfl (by kernel_rfl) (by kernel_rfl) (K := fun v w' => K (.tuple #[v, .slice q10 (hd5 b).1.length d10, .int .i64 0]) w') fun w11 f11 => ?_
      have hU10 : HF.own w10 u w.heap.size := by rw [hu]; exact ⟨hO610.mono (by omega), hO710.mono (by omega), t1, t2⟩
      have := hk u q10 d10 w11 (f010.st f11 (by omega)) ⟨(hU10.o1.mono (Nat.le_refl _)).fr f11 (fun z hz hm => ?_), hU10.o2.fr f11 (fun z hz hm => ?_), hU10.b1, hU10.b2⟩
      · rw [hok] at this
        exact this ((hO10.fr_sep f11 (by omega)).mono (by omega)) (by rw [hu]; rfl)
      · have h1 : z ∈ blks q6 := by rw [hu] at hz; exact hz
        have := hO6.2.2 z h1; simp at hm; omega
      · have h1 : z ∈ blks q7 := by rw [hu] at hz; exact hz
        have := hO7.2.2 z h1; simp at hm; omega
  refine cond_d (fun h0 => ?_) fun h0 => ?_
  · refine headLong_c (hR.fr0 f1) hl ⟨_, rfl, ?_⟩
    unfold head_Parse_j2
    by_cases h128 : 128 ≤ (fl b 0).toNat
    · rw [decide_eq_true ⟨by omega, h128⟩]
      exact cond_f (main fun hh => by omega)
    · rw [decide_eq_false fun hh => h128 hh.2]
      exact cond_t (bad w1 14 hB1 f1 (by unfold hdP; rw [if_pos ⟨by omega, by omega⟩]))
  · unfold head_Parse_j2
    exact cond_f (main fun hh => by omega)
end
end Go.Sh
end

section
namespace Go.Sh
open Go Go.Fw Go.Proofs
set_option maxRecDepth 100000
set_option linter.unusedVariables false
def hdL (to fr : List UInt8) : List UInt8 := [255, 0, 0, 0, 1] ++ (UInt8.ofNat to.length :: to) ++ (UInt8.ofNat fr.length :: fr)
theorem hdL_len (to fr : List UInt8) : (hdL to fr).length = 7 + to.length + fr.length := by simp [hdL]; omega
section
variable {w : World} {K : Value → World → Prop}
set_option maxHeartbeats 1000000 in
theorem headBytes_c {p0 p1 : Option Addr} {c0 c1 : Nat} {to fr : List UInt8} (h0 : Row w p0 (to.map vb)) (hc0 : to.length ≤ c0) (ht : to.length ≤ 255) (h1 : Row w p1 (fr.map vb)) (hc1 : fr.length ≤ c1) (hr : fr.length ≤ 255)
    (hk : ∀ q d w', Fr [] w w' → OB w' q (hdL to fr).length d (hdL to fr) w.heap.size → K (.tuple #[.slice q (hdL to fr).length d, .int .i64 0]) w') :
    callF Tryz.prog F_head_Head_Bytes #[.agg #[.int .u8 255, .int .u32 1, .slice p0 to.length c0, .slice p1 fr.length c1]] w K := by
  apply head_Head_Bytes_call
  unfold head_Head_Bytes
  refine newC (t := T_head_Head) [.int .u8 255, .int .u32 1, .slice p0 to.length c0, .slice p1 fr.length c1] fun w1 f1 hC1 s1 => ?_
  obtain ⟨k1, hk1⟩ : ∃ k, k = w.heap.size := ⟨_, rfl⟩
  rw [← hk1] at hC1 ⊢
  refine ⟨_, hC1.get (by kernel_rfl) (j := 0) rfl, cond_fz (by kernel_rfl) ?_⟩
  refine ⟨fun w' => FrA w1.heap.size w1 w', Drw.intro fun w3 f3 s3 => ?_⟩
  have hkl := hC1.lt
  have keep : ∀ {w'}, FrA w1.heap.size w1 w' → CAt w' k1 [.int .u8 255, .int .u32 1, .slice p0 to.length c0, .slice p1 fr.length c1] := fun hw => hC1.frA hw hkl
  refine ⟨_, ⟨FrA.of0 f3, fun w' hw' => (keep hw').get (by kernel_rfl) (j := 0) rfl⟩, _, ⟨FrA.of0 f3, fun w' hw' => (keep hw').get (by kernel_rfl) (j := 1) rfl⟩, _, _, _, ⟨FrA.of0 f3, fun w' hw' => (keep hw').get (by kernel_rfl) (j := 2) rfl⟩, _, _, _, ⟨FrA.of0 f3, fun w' hw' => (keep hw').get (by kernel_rfl) (j := 3) rfl⟩, ?_⟩
  have f03 := f1.then f3
  refine scanWrite_c fun w4 f4 hW4 s4 => ⟨_, rfl, .inr ((FrA.of0 f3).trans (FrA.of0 f4)), ?_⟩
  obtain ⟨b, hb⟩ : ∃ b, b = w3.heap.size := ⟨_, rfl⟩
  rw [← hb] at hW4 ⊢
  have hb2 : w1.heap.size ≤ b := by have := f3.size; omega
  have hq1 : 0 < to.length → ∀ z ∈ blks p0, z < b := rowLt h0 (by have := f03.size; omega)
  have hq2 : 0 < fr.length → ∀ z ∈ blks p1, z < b := rowLt h1 (by have := f03.size; omega)
  have e1 : IntKind.u64.wrap 255 = ((255 : Nat) : Int) := by kernel_rfl
  have e2 : IntKind.u64.wrap 1 = ((1 : Nat) : Int) := by kernel_rfl
  rw [e1, e2]
  refine wrNum_c (n := 255) (size := 1) hW4 (by omega) (by omega) (by simp) fun w5 f5 hW5 => ⟨_, rfl, .inr (((FrA.of0 f3).trans (FrA.of0 f4)).trans (f5.mono hb2)), ?_⟩
  have fa5 : FrA b w3 w5 := (FrA.of0 f4).trans f5
  refine wrNum_c (n := 1) (size := 4) hW5 (by omega) (by omega) (by simp [putL_len]) fun w6 f6 hW6 => ⟨_, rfl, .inr ((FrA.of0 f3).trans ((fa5.trans f6).mono hb2)), ?_⟩
  have fa6 := fa5.trans f6
  refine wrShort_c hW6 (fa6.row (h0.fr0 f03) hq1) rfl hc0 ht hq1 (by simp [putL_len]) fun w7 f7 hW7 => ⟨_, rfl, .inr ((FrA.of0 f3).trans ((fa6.trans f7).mono hb2)), ?_⟩
  have fa7 := fa6.trans f7
  refine wrShort_c hW7 (fa7.row (h1.fr0 f03) hq2) rfl hc1 hr hq2 (by simp [putL_len]; omega) fun w8 f8 hW8 => ⟨_, rfl, ?_⟩
  have fa8 := fa7.trans f8
  have eT : [] ++ putL 255 1 ++ putL 1 4 ++ UInt8.ofNat to.length :: to ++ UInt8.ofNat fr.length :: fr = hdL to fr := by
    unfold hdL
    have : putL 255 1 = [255] := by decide
    rw [this, show putL 1 4 = [0, 0, 0, 1] by decide]; rfl
  rw [eT] at hW8
  have hll := hdL_len to fr
  have f08 : Fr [] w w8 := fa8.news f03 (by have := f03.size; omega)
  refine wrDone_c hW8 (by omega) fun q d w9 f9 hO9 => ⟨_, _, _, _, rfl, ?_⟩
  exact hk q d w9 (f08.then f9) (hO9.mono f08.size)
theorem refType_c {n : Nat} (hn : n < 256) (h : K (.int .i64 (typN n : Int)) w) : callF Tryz.prog F_ref11_Type #[.int .u8 (n : Int)] w K := by
  apply ref11_Type_call
  unfold ref11_Type
  rw [typ_ref hn]; exact h
set_option maxHeartbeats 1000000 in
theorem refBytes_c {p0 p1 : Option Addr} {c0 c1 : Nat} {to fr : List UInt8} (h0 : Row w p0 (to.map vb)) (ht : to.length ≤ 255) (h1 : Row w p1 (fr.map vb)) (hr : fr.length ≤ 255)
    (hk : ∀ q d w', Fr [] w w' → OB w' q (hdL to fr).length d (hdL to fr) w.heap.size → K (.tuple #[.slice q (hdL to fr).length d, .int .i64 0]) w') :
    callF Tryz.prog F_ref10_Bytes #[.agg #[.int .u8 255, .int .u32 1, .slice p0 to.length c0, .slice p1 fr.length c1]] w K := by
  apply ref10_Bytes_call
  unfold ref10_Bytes
  refine newC (t := T_ref10_Head) [.int .u8 255, .int .u32 1, .slice p0 to.length c0, .slice p1 fr.length c1] fun w1 f1 hC1 s1 => ?_
  obtain ⟨k1, hk1⟩ : ∃ k, k = w.heap.size := ⟨_, rfl⟩
  rw [← hk1] at hC1 ⊢
  refine ⟨_, hC1.get (by kernel_rfl) (j := 0) rfl, cond_fz (by kernel_rfl) ?_⟩
  refine ⟨_, _, _, hC1.get (by kernel_rfl) (j := 2) rfl, cond_d (fun hh => by omega) fun _ => ?_⟩
  refine ⟨_, _, _, hC1.get (by kernel_rfl) (j := 3) rfl, cond_d (fun hh => by omega) fun _ => ?_⟩
  unfold ref10_Bytes_j1
  refine ⟨_, hC1.get (by kernel_rfl) (j := 0) rfl, _, hC1.get (by kernel_rfl) (j := 1) rfl, _, hC1.get (by kernel_rfl) (j := 1) rfl, _, hC1.get (by kernel_rfl) (j := 1) rfl, _, hC1.get (by kernel_rfl) (j := 1) rfl, ?_⟩
  have ea : IntKind.u8.wrap (Int.fdiv 1 (2 ^ 24)) = 0 := by kernel_rfl
  have eb : IntKind.u8.wrap (Int.fdiv 1 (2 ^ 16)) = 0 := by kernel_rfl
  have ec : IntKind.u8.wrap (Int.fdiv 1 (2 ^ 8)) = 0 := by kernel_rfl
  have ed : IntKind.u8.wrap 1 = 1 := by kernel_rfl
  rw [ea, eb, ec, ed]
  refine mkL (n := 5) (xs := [255, 0, 0, 0, 1]) rfl rfl (by kernel_rfl) fun p2 w2 f2 hO2 s2 => ?_
  have f02 := f1.then f2
  have n02 := f02.size
  have hkl := hC1.lt
  have hC2 := hC1.fr0 f2
  have keep : ∀ {w'}, FrA w1.heap.size w2 w' → CAt w' k1 [.int .u8 255, .int .u32 1, .slice p0 to.length c0, .slice p1 fr.length c1] := fun hw => hC2.frA hw hkl
  have n1 := f1.size
  refine ⟨fun w' => FrA w1.heap.size w2 w', Drw.intro fun w3 f3 s3 => ?_⟩
  refine ⟨_, _, _, ⟨FrA.of0 f3, fun w' hw' => (keep hw').get (by kernel_rfl) (j := 2) rfl⟩, _, _, _, ⟨FrA.of0 f3, fun w' hw' => (keep hw').get (by kernel_rfl) (j := 2) rfl⟩, ?_⟩
  have et : IntKind.u8.wrap ((to.length : Nat) : Int) = ((UInt8.ofNat to.length).toNat : Int) := wrapb (by omega)
  have er : IntKind.u8.wrap ((fr.length : Nat) : Int) = ((UInt8.ofNat fr.length).toNat : Int) := wrapb (by omega)
  rw [et]
  have hO3 := hO2.fr0 f3
  refine mkL (n := 1) (xs := [UInt8.ofNat to.length]) rfl rfl (by kernel_rfl) fun p4 w4 f4 hO4 s4 => ⟨.inr ((FrA.of0 f3).trans (FrA.of0 f4)), ?_⟩
  have hO34 := hO3.fr0 f4
  have n3 := f3.size; have n4 := f4.size
  refine pushN (m := 1) hO34 (by omega) hO4.row rfl (by omega) fun p5 c5 w5 f5 hO5 => ?_
  have fa5 : FrA w1.heap.size w2 w5 := ((FrA.of0 f3).trans (FrA.of0 f4)).trans (FrA.of f5 fun z hz => hO2.2.2 z hz)
  refine ⟨.inr fa5, ?_⟩
  have k05 : Fr [] w w5 := fa5.news f02 (by omega)
  have n5 := f5.size
  refine pushN hO5 (by omega) (h0.fr0 k05) rfl (by omega) fun p6 c6 w6 f6 hO6 => ?_
  have fa6 : FrA w1.heap.size w2 w6 := fa5.trans (FrA.of f6 fun z hz => hO5.2.2 z hz)
  have n6 := f6.size
  refine ⟨fun w' => FrA w1.heap.size w2 w', Drw.intro fun w7 f7 s7 => ?_⟩
  have fa7 := fa6.trans (FrA.of0 f7)
  refine ⟨_, _, _, ⟨fa7, fun w' hw' => (keep hw').get (by kernel_rfl) (j := 3) rfl⟩, _, _, _, ⟨fa7, fun w' hw' => (keep hw').get (by kernel_rfl) (j := 3) rfl⟩, ?_⟩
  rw [er]
  refine mkL (n := 1) (xs := [UInt8.ofNat fr.length]) rfl rfl (by kernel_rfl) fun p8 w8 f8 hO8 s8 => ⟨.inr (fa7.trans (FrA.of0 f8)), ?_⟩
  have n7 := f7.size; have n8 := f8.size
  refine pushN (m := 1) ((hO6.fr0 f7).fr0 f8) (by omega) hO8.row rfl (by omega) fun p9 c9 w9 f9 hO9 => ?_
  have fa9 := (fa7.trans (FrA.of0 f8)).trans (FrA.of f9 fun z hz => hO6.2.2 z hz)
  refine ⟨.inr fa9, ?_⟩
  have k09 : Fr [] w w9 := fa9.news f02 (by omega)
  have n9 := f9.size
  refine pushN hO9 (by omega) (h1.fr0 k09) rfl (by omega) fun p10 c10 w10 f10 hO10 => ?_
  have fa10 := fa9.trans (FrA.of f10 fun z hz => hO9.2.2 z hz)
  have eT : [255, 0, 0, 0, 1] ++ [UInt8.ofNat to.length] ++ to ++ [UInt8.ofNat fr.length] ++ fr = hdL to fr := by simp [hdL]
  have hll : (hdL to fr).length = 5 + 1 + to.length + 1 + fr.length := by rw [hdL_len]; omega
  rw [eT, ← hll] at hO10
  rw [← hll]
  exact hk p10 c10 w10 (fa10.news f02 (by omega)) (hO10.mono (by omega))
theorem shortP_bad {b : List UInt8} (h : (shortP (0, b)).2.1 ≠ 0) : shortP (0, b) = ([], (12, b)) := by
  unfold shortP at h ⊢
  split
  · rename_i h1; rw [if_pos h1] at h; exact absurd rfl h
  · rfl
theorem shortP_ok {b : List UInt8} : (shortP (0, b)).2.1 = 0 ↔ (fl b 0).toNat + 1 ≤ b.length := by
  unfold shortP
  split
  · rename_i h1; exact ⟨fun _ => h1.2, fun _ => rfl⟩
  · rename_i h1
    exact ⟨fun h => by have : (12 : Int) = 0 := h; omega, fun h => absurd ⟨rfl, h⟩ h1⟩
theorem shortP_val {b : List UInt8} (h : (fl b 0).toNat + 1 ≤ b.length) : shortP (0, b) = ((b.drop 1).take (fl b 0).toNat, (0, b.drop ((fl b 0).toNat + 1))) := by
  unfold shortP; rw [if_pos ⟨rfl, h⟩]
theorem refId_c {p : Option Addr} {l c : Nat} {b : List UInt8} (hR : Row w p (b.map vb)) (hl : l = b.length) (hc : l ≤ c) (hlb : b.length ≤ 1000000)
    (hbad : (shortP (0, b)).2.1 ≠ 0 → K (.tuple #[.slice none 0 0, .slice none 0 0, .bool false]) w)
    (hok : (shortP (0, b)).2.1 = 0 → ∀ q d q2 d2 w', Fr [] w w' → OB w' q (shortP (0, b)).1.length d (shortP (0, b)).1 w.heap.size → Row w' q2 ((shortP (0, b)).2.2.map vb) → (shortP (0, b)).2.2.length ≤ d2 → (∀ z ∈ blks q2, z ∈ blks p) →
      K (.tuple #[.slice q (shortP (0, b)).1.length d, .slice q2 (shortP (0, b)).2.2.length d2, .bool true]) w') :
    callF Tryz.prog F_ref10_id #[.slice p l c] w K := by
  apply ref10_id_call
  unfold ref10_id
  refine cond_eq (fun h0 => hbad fun hh => ?_) fun h0 => ?_
  · have := shortP_ok.1 hh; omega
  obtain ⟨a, ha, hca⟩ := row_get (t := T_S_uint8) (by kernel_rfl) hR (c := c) hl (i := 0) (by omega) (k := .i64)
  have h256 := (fl b 0).toNat_lt
  have e1 : IntKind.i64.wrap ((b.getD 0 0).toNat : Int) = (((fl b 0).toNat : Nat) : Int) := wrap64 (by omega) (by show (((fl b 0).toNat : Nat) : Int) < _; omega)
  refine ⟨_, ha, _, Ld.cell (by kernel_rfl) hca, ?_⟩
  rw [wrap64 (n := (l : Int) - 1) (by omega) (by omega), e1]
  refine cond_d (fun h1 => hbad fun hh => ?_) fun h1 => ?_
  · have := shortP_ok.1 hh; omega
  have hin : (fl b 0).toNat + 1 ≤ b.length := by omega
  have hv := shortP_val hin
  have hok := hok (shortP_ok.2 hin)
  rw [hv] at hok
  unfold ref10_id_j1
  refine ⟨_, ha, _, Ld.cell (by kernel_rfl) hca, Drw.intro fun w1 f1 s1 => ?_⟩
  have e2 : IntKind.i64.wrap (1 + IntKind.i64.wrap ((b.getD 0 0).toNat : Int)) = ((1 + (fl b 0).toNat : Nat) : Int) := by rw [e1, wrap64 (by omega) (by omega)]; omega
  rw [e2]
  refine slMid (hR.fr0 f1) hl (a := 1) (b := 1 + (fl b 0).toNat) (by omega) (by omega) hc fun qa da hqa hla hda hba => ?_
  refine slFrom (hR.fr0 f1) hl (n := 1 + (fl b 0).toNat) (by omega) hc fun qb db hqb hlb hdb hbb => ?_
  refine mk0 fun q2 w2 f2 hO2 s2 => ?_
  refine pushN hO2 f2.size (hqa.fr0 f2) hla (by omega) fun q3 d3 w3 f3 hO3 => ?_
  have f03 : Fr [] w w3 := (f1.then f2).trans f3 fun z hz => .inr (by have := hO2.2.2 z hz; have := f1.size; omega)
  have f13 : Fr [] w1 w3 := f2.trans f3 fun z hz => .inr (hO2.2.2 z hz)
  have ex : (b.take (1 + (fl b 0).toNat)).drop 1 = (b.drop 1).take (fl b 0).toNat := by rw [List.drop_take]; congr 1; omega
  have el : 0 + (1 + (fl b 0).toNat - 1) = ((b.drop 1).take (fl b 0).toNat).length := by rw [List.length_take, List.length_drop]; omega
  have ed : b.drop (1 + (fl b 0).toNat) = b.drop ((fl b 0).toNat + 1) := by rw [Nat.add_comm]
  have em : l - (1 + (fl b 0).toNat) = (b.drop ((fl b 0).toNat + 1)).length := by rw [List.length_drop]; omega
  rw [List.nil_append, ex, el] at hO3
  rw [ed] at hqb
  rw [em] at hdb
  rw [el, em]
  exact hok q3 d3 qb db w3 f03 (hO3.mono f1.size) (hqb.fr0 f13) hdb hbb
end
end Go.Sh
end

section
namespace Go.Sh
open Go Go.Fw Go.Proofs
set_option maxRecDepth 100000
set_option linter.unusedVariables false
theorem numP_12 (k : Nat) (x : List UInt8) : numP k (12, x) = (0, (12, x)) := by unfold numP; rw [if_neg (fun h => by have : (12 : Int) = 0 := h.1; omega)]; rfl
theorem shortP_12 (x : List UInt8) : shortP (12, x) = ([], (12, x)) := by unfold shortP; rw [if_neg (fun h => by have : (12 : Int) = 0 := h.1; omega)]; rfl
theorem restP_12 (x : List UInt8) : restP (12, x) = ([], (12, x)) := by unfold restP; rw [if_neg (fun h => by have : (12 : Int) = 0 := h; omega)]
theorem restP_0 (x : List UInt8) : restP (0, x) = (x, (0, [])) := by unfold restP; rw [if_pos rfl]
theorem numP_ok {k : Nat} {x : List UInt8} (h : k ≤ x.length) : numP k (0, x) = (numL (x.take k), (0, x.drop k)) := by unfold numP; rw [if_pos ⟨rfl, h⟩]
theorem numP_bad {k : Nat} {x : List UInt8} (h : ¬ k ≤ x.length) : numP k (0, x) = (0, (12, x)) := by unfold numP; rw [if_neg (fun hh => h hh.2)]; rfl
theorem hdP_short {b : List UInt8} (h5 : b.length < 5) (hno : ¬ (0 < b.length ∧ (fl b 0).toNat < 128)) : hdP b = .bad 12 := by
  have h2 : ∃ x y, hd2 b = (x, (12, y)) := by
    unfold hd2 hd1
    by_cases h1 : 1 ≤ b.length
    · rw [numP_ok h1]
      show ∃ x y, numP 4 (0, b.drop 1) = _
      rw [numP_bad (by rw [List.length_drop]; omega)]
      exact ⟨_, _, rfl⟩
    · rw [numP_bad h1]
      show ∃ x y, numP 4 (12, b) = _
      rw [numP_12]
      exact ⟨_, _, rfl⟩
  obtain ⟨x, y, h2⟩ := h2
  have h3 : hd3 b = ([], (12, y)) := by unfold hd3; rw [h2]; exact shortP_12 y
  have h4 : hd4 b = ([], (12, y)) := by unfold hd4; rw [h3]; exact shortP_12 y
  have h5' : hd5 b = ([], (12, y)) := by unfold hd5; rw [h4]; exact restP_12 y
  unfold hdP
  rw [if_neg hno, h5', if_pos (by show (12 : Int) ≠ 0; omega)]
theorem hdP_long {b : List UInt8} (h5 : 5 ≤ b.length) : hd1 b = ((fl b 0).toNat, (0, b.drop 1)) ∧ hd2 b = (numL ((b.drop 1).take 4), (0, b.drop 5)) ∧ hd3 b = shortP (0, b.drop 5) := by
  have e1 : hd1 b = ((fl b 0).toNat, (0, b.drop 1)) := by unfold hd1; rw [numP_ok (by omega), numL_take1 (by omega)]
  have e2 : hd2 b = (numL ((b.drop 1).take 4), (0, b.drop 5)) := by
    unfold hd2; rw [e1]
    show numP 4 (0, b.drop 1) = _
    rw [numP_ok (by rw [List.length_drop]; omega), List.drop_drop]
  exact ⟨e1, e2, by unfold hd3; rw [e2]⟩
theorem hdP_l3 {b : List UInt8} (h5 : 5 ≤ b.length) (h128 : 128 ≤ (fl b 0).toNat) (h3 : (shortP (0, b.drop 5)).2.1 ≠ 0) : hdP b = .bad 12 := by
  obtain ⟨e1, e2, e3⟩ := hdP_long h5
  rw [shortP_bad h3] at e3
  have h4 : hd4 b = ([], (12, b.drop 5)) := by unfold hd4; rw [e3]; exact shortP_12 _
  have h5' : hd5 b = ([], (12, b.drop 5)) := by unfold hd5; rw [h4]; exact restP_12 _
  unfold hdP
  rw [if_neg (fun hh => by omega), h5', if_pos (by show (12 : Int) ≠ 0; omega)]
theorem hdP_l4 {b r : List UInt8} (h5 : 5 ≤ b.length) (h128 : 128 ≤ (fl b 0).toNat) (h3 : (shortP (0, b.drop 5)).2.1 = 0) (hr : r = (shortP (0, b.drop 5)).2.2) (h4 : (shortP (0, r)).2.1 ≠ 0) : hdP b = .bad 12 := by
  obtain ⟨e1, e2, e3⟩ := hdP_long h5
  have e4 : (hd3 b).2 = (0, r) := by rw [e3, hr]; exact Prod.ext h3 rfl
  have h4' : hd4 b = ([], (12, r)) := by unfold hd4; rw [e4]; exact shortP_bad h4
  have h5' : hd5 b = ([], (12, r)) := by unfold hd5; rw [h4']; exact restP_12 _
  unfold hdP
  rw [if_neg (fun hh => by omega), h5', if_pos (by show (12 : Int) ≠ 0; omega)]
theorem hdP_ok {b r : List UInt8} (h5 : 5 ≤ b.length) (h128 : 128 ≤ (fl b 0).toNat) (h3 : (shortP (0, b.drop 5)).2.1 = 0) (hr : r = (shortP (0, b.drop 5)).2.2) (h4 : (shortP (0, r)).2.1 = 0) :
    hdP b = ⟨0, (fl b 0).toNat, numL ((b.drop 1).take 4), (shortP (0, b.drop 5)).1, (shortP (0, r)).1, (shortP (0, r)).2.2⟩ := by
  obtain ⟨e1, e2, e3⟩ := hdP_long h5
  have e4 : (hd3 b).2 = (0, r) := by rw [e3, hr]; exact Prod.ext h3 rfl
  have h4' : hd4 b = shortP (0, r) := by unfold hd4; rw [e4]
  have h4'' : (hd4 b).2 = (0, (shortP (0, r)).2.2) := by rw [h4']; exact Prod.ext h4 rfl
  have h5' : hd5 b = ((shortP (0, r)).2.2, (0, [])) := by unfold hd5; rw [h4'']; exact restP_0 _
  unfold hdP
  rw [if_neg (fun hh => by omega), h5', if_neg (fun hh => hh rfl), e1, e2, e3, h4']
section
variable {w : World} {K : Value → World → Prop}
set_option maxHeartbeats 2000000 in
theorem refHeadParse_c {p : Option Addr} {l c : Nat} {b : List UInt8} (hR : Row w p (b.map vb)) (hl : l = b.length) (hc : l ≤ c) (hlb : b.length ≤ 1000000)
    (hk : ∀ u q d w', Fr [] w w' → HF.own w' u w.heap.size → OB w' q (hdP b).rest.length d (hdP b).rest w.heap.size → u.hu (hdP b).e (hdP b).rest = hdP b → K (.tuple #[u.a, .slice q (hdP b).rest.length d, .int .i64 (hdP b).e]) w') :
    callF Tryz.prog F_ref10_Parse #[.slice p l c] w K := by
  apply ref10_Parse_call
  unfold ref10_Parse
  refine newZ (s := 4) (by kernel_rfl) fun w1 g1 f1 hB1 s1 => ?_
  obtain ⟨k2, hk2⟩ : ∃ k, k = w.heap.size := ⟨_, rfl⟩
  rw [← hk2] at hB1 ⊢
  have bad : ∀ (w9 : World) (e : Int), Blk w9 k2 4 g1 → Fr [] w w9 → hdP b = .bad e → ∃ w2, Sto Tryz.prog T_ref10_Head (.pointer (some ⟨k2, 0, none⟩)) hf0.a w9 w2 ∧ ∃ (a4 : Addr) (v4 : Value), (.pointer (some ⟨k2, 0, none⟩) : Value) = .pointer (some a4) ∧ (loadVar T_ref10_Head a4).run Tryz.prog w2 = .ok v4 w2 ∧ K (.tuple #[v4, .slice none 0 0, .int .i64 e]) w2 := by
    intro w9 e hB9 f9 hbe
    refine tellC hB9 hf0.v rfl rfl (by kernel_rfl) (by kernel_rfl) (K := fun v w' => K (.tuple #[v, .slice none 0 0, .int .i64 e]) w') fun w10 f10 => ?_
    have := hk hf0 none 0 w10 (f9.st f10 (by omega)) (hf0_own _ _)
    rw [hbe] at this
    exact this (OB.nil _ _) rfl
  refine cond_eq (fun h0 => bad w1 12 hB1 f1 (hdP_short (by omega) fun hh => by omega)) fun h0 => ?_
  obtain ⟨a, ha, hca⟩ := row_get (t := T_S_uint8) (by kernel_rfl) (hR.fr0 f1) (c := c) hl (i := 0) (by omega) (k := .i64)
  have h256 := (fl b 0).toNat_lt
  have hca : w1.cell? a = some (vb (fl b 0)) := hca
  refine ⟨_, ha, _, Ld.cell (by kernel_rfl) hca, cond_d (fun h1 => bad w1 14 hB1 f1 (by unfold hdP; rw [if_pos ⟨by omega, by omega⟩])) fun h1 => ?_⟩
  refine cond_d (fun h2 => bad w1 12 hB1 f1 (hdP_short (by omega) fun hh => by omega)) fun h2 => ?_
  have h5 : 5 ≤ b.length := by omega
  have h128 : 128 ≤ (fl b 0).toNat := by omega
  refine ⟨_, ha, _, Ld.cell (by kernel_rfl) hca, ?_⟩
  refine putC (t := T_ref10_Head) [.int .u8 ((fl b 0).toNat : Int), .int .u32 0, .slice none 0 0, .slice none 0 0] rfl rfl (by kernel_rfl) (by kernel_rfl) fun w2 f2 hC2 => ?_
  obtain ⟨k5, hk5⟩ : ∃ k, k = w1.heap.size := ⟨_, rfl⟩
  rw [← hk5] at hC2 ⊢
  refine LoopS.ind (fun k us w' => ∃ i : Nat, 1 ≤ i ∧ i + k = 5 ∧ us = [.slice p l c, .pointer (some ⟨k2, 0, none⟩), .slice none 0 0, .int .i64 0, .pointer (some ⟨k5, 0, none⟩), .int .i64 (i : Int)] ∧ CAt w' k5 [.int .u8 ((fl b 0).toNat : Int), .int .u32 (numL ((b.drop 1).take (i - 1)) : Int), .slice none 0 0, .slice none 0 0] ∧ Fr [] w w' ∧ Blk w' k2 4 g1) 4
    ⟨1, by omega, by omega, rfl, hC2, f1.then f2, hB1.fr0 f2⟩ ?_
  rintro k us rr w3 I μ hgo ⟨i, hi1, hik, rfl, hC3, f3, hB3⟩
  refine ⟨_, _, _, _, _, _, _, _, _, _, rfl, cond_d (fun hlt => ?_) fun hge => ?_⟩
  · refine ⟨fun w' => Fr [] w3 w', Drw.intro fun w4 f4 s4 => ?_⟩
    obtain ⟨a2, ha2, hca2⟩ := row_get (t := T_S_uint8) (by kernel_rfl) (hR.fr0 (f3.then f4)) (c := c) hl (i := i) (by omega) (k := .i64)
    have hca2 : w4.cell? a2 = some (vb (fl b i)) := hca2
    have hb256 := (fl b i).toNat_lt
    refine ⟨_, ha2, _, ⟨f4, fun w' hf => (hC3.fr0 hf).get (by kernel_rfl) (j := 1) rfl⟩, _, Ld.cell (by kernel_rfl) hca2, .inl rfl, ?_⟩
    obtain ⟨N, hN⟩ : ∃ N, N = numL ((b.drop 1).take (i - 1)) := ⟨_, rfl⟩
    have hNl : N < 16777216 := by
      have h1 := numL_lt ((b.drop 1).take (i - 1))
      have h2 : ((b.drop 1).take (i - 1)).length ≤ 3 := by rw [List.length_take]; omega
      have h3 : 256 ^ ((b.drop 1).take (i - 1)).length ≤ 256 ^ 3 := Nat.pow_le_pow_right (by omega) h2
      rw [← hN] at h1
      omega
    have hstep : numL ((b.drop 1).take (i + 1 - 1)) = N * 256 + (fl b i).toNat := by
      have h1 := numL_take (b.drop 1) (i := i - 1) (by rw [List.length_drop]; omega)
      have e1 : i - 1 + 1 = i + 1 - 1 := by omega
      rw [e1, ← hN] at h1
      rw [h1]
      have : fl (b.drop 1) (i - 1) = fl b i := by
        show (b.drop 1).getD (i - 1) 0 = b.getD i 0
        rw [List.getD_eq_getElem?_getD, List.getD_eq_getElem?_getD, List.getElem?_drop]
        congr 2; omega
      rw [this]
    rw [← hN]
    have ew : IntKind.u32.wrap (IntKind.u32.wrap ((N : Int) * 256) + IntKind.u32.wrap ((fl b i).toNat : Int)) = ((numL ((b.drop 1).take (i + 1 - 1)) : Nat) : Int) := by
      rw [wrap32 (n := (N : Int) * 256) (by omega) (by omega), wrap32 (n := ((fl b i).toNat : Int)) (by omega) (by omega), wrap32 (by omega) (by omega), hstep]
      omega
    rw [ew, wrap64 (n := (i : Int) + 1) (by omega) (by omega)]
    have hkl := hC3.lt
    have hk5' : w.heap.size ≤ k5 := by have := f1.size; omega
    refine (hC3.fr0 f4).sto (j := 1) (by simp) _ rfl rfl (by kernel_rfl) fun w5 f5 hC5 s5 => ?_
    exact hgo _ _ _ (k - 1) (by omega) ⟨i + 1, by omega, by omega, rfl, hC5, (f3.then f4).st f5 hk5', (hB3.fr0 f4).fr f5 (by simp; have := hB1.lt; omega)⟩
  · have hi5 : i = 5 := by omega
    subst hi5
    have hkl := hC3.lt
    have hk5' : w.heap.size ≤ k5 := by have := f1.size; omega
    have hk25 : k2 < k5 := by have := hB1.lt; omega
    unfold ref10_Parse_j1
    refine slFrom (hR.fr0 f3) hl (n := 5) (by omega) hc fun qb db hqb hlb' hdb hbb => ?_
    refine refId_c hqb hlb' hdb (by rw [← hlb']; omega) (fun h3 => ⟨_, _, _, _, _, _, _, rfl, cond_t (bad w3 12 hB3 f3 (hdP_l3 h5 h128 h3))⟩) fun h3 q4 d4 q5 d5 w4 f4 hO4 hR5 hl5 hz5 => ⟨_, _, _, _, _, _, _, rfl, cond_f ?_⟩
    obtain ⟨r, hr⟩ : ∃ r, r = (shortP (0, b.drop 5)).2.2 := ⟨_, rfl⟩
    rw [← hr] at hR5 hl5 ⊢
    have f04 := f3.then f4
    have hrl : r.length ≤ b.length := by
      have := (shortP_len (0, b.drop 5)).1
      rw [← hr] at this
      have h2 : ((0 : Int), b.drop 5).2.length = b.length - 5 := List.length_drop
      omega
    refine refId_c hR5 rfl hl5 (by omega) (fun h4 => ⟨_, _, _, _, _, _, _, rfl, cond_t (bad w4 12 (hB3.fr0 f4) f04 (hdP_l4 h5 h128 h3 hr h4))⟩) fun h4 q6 d6 q7 d7 w5 f5 hO6 hR7 hl7 hz7 => ⟨_, _, _, _, _, _, _, rfl, cond_f ?_⟩
    have f05 := f04.then f5
    have hok := hdP_ok h5 h128 h3 hr h4
    have hC5 := (hC3.fr0 f4).fr0 f5
    have m3 := f3.size; have m4 := f4.size; have m5 := f5.size
    refine hC5.sto (j := 2) (by simp) _ rfl rfl (by kernel_rfl) fun w6 f6 hC6 s6 => ?_
    refine hC6.sto (j := 3) (by simp) _ rfl rfl (by kernel_rfl) fun w7 f7 hC7 s7 => ?_
    obtain ⟨u, hu⟩ : ∃ u : HF, u = ⟨(fl b 0).toNat, numL ((b.drop 1).take 4), (shortP (0, b.drop 5)).1, (shortP (0, r)).1, q4, d4, q6, d6⟩ := ⟨_, rfl⟩
    have hC7' : CAt w7 k5 u.v := by rw [hu]; exact hC7
    have hO47 := ((hO4.fr0 f5).fr_sep f6 (by omega)).fr_sep f7 (by omega)
    have hO67 := (hO6.fr_sep f6 (by omega)).fr_sep f7 (by omega)
    have f07 := (f05.st f6 hk5').st f7 hk5'
    have hvl : numL ((b.drop 1).take 4) < 4294967296 := by
      have h1 := numL_lt ((b.drop 1).take 4)
      rw [List.length_take, List.length_drop, Nat.min_eq_left (by omega)] at h1
      exact h1
    have hU7 : HF.own w7 u w3.heap.size := by rw [hu]; exact ⟨hO47, hO67.mono (by omega), h256, hvl⟩
    obtain ⟨R, hRr⟩ : ∃ R, R = (shortP (0, r)).2.2 := ⟨_, rfl⟩
    rw [← hRr] at hR7 hl7 hok ⊢
    have hRl : R.length ≤ b.length := by
      have := (shortP_len (0, r)).1
      rw [← hRr] at this
      have h2 : ((0 : Int), r).2.length = r.length := rfl
      omega
    have hR77 : Row w7 q7 (R.map vb) := by
      have hlt : 0 < R.length → ∀ z ∈ blks q7, z ≠ k5 := by
        intro h0 z hz
        have := Row.blk_lt (show Row w p (b.map vb) from hR) (by omega) z (hbb z (hz5 z (hz7 z hz)))
        have := f1.size; omega
      exact rowKeep (rowKeep hR7 f6 fun h0 z hz hm => hlt h0 z hz (by simpa using hm)) f7 fun h0 z hz hm => hlt h0 z hz (by simpa using hm)
    refine ⟨fun w' => FrA w3.heap.size w7 w', Drw.intro fun w8 f8 s8 => ?_⟩
    have keep : ∀ {w'}, FrA w3.heap.size w7 w' → CAt w' k5 u.v := fun hw => hC7'.frA hw (by omega)
    refine ⟨_, _, _, _, _, _, _, _, ⟨FrA.of0 f8, fun w' hw' => (keep hw').ld (by kernel_rfl) (by kernel_rfl)⟩, ?_⟩
    refine mk0 fun q9 w9 f9 hO9 s9 => ⟨.inr ((FrA.of0 f8).trans (FrA.of0 f9)), ?_⟩
    have f79 := f8.then f9
    have m8 := f8.size; have m9 := f9.size; have m6 := f6.size; have m7 := f7.size
    refine pushN hO9 f9.size (hR77.fr0 f79) rfl (by omega) fun q10 d10 w10 f10 hO10 => ?_
    have fa10 : FrA w3.heap.size w7 w10 := (FrA.of0 f79).trans (FrA.of f10 fun z hz => by have := hO9.2.2 z hz; omega)
    refine ⟨.inr fa10, ?_⟩
    have f710 : Fr [] w7 w10 := f79.trans f10 fun z hz => .inr (by have := hO9.2.2 z hz; omega)
    have hB10 : Blk w10 k2 4 g1 := ((((hB3.fr0 f4).fr0 f5).fr f6 (by simp; omega)).fr f7 (by simp; omega)).fr0 f710
    rw [List.nil_append, Nat.zero_add] at hO10
    rw [Nat.zero_add]
    refine tellC hB10 u.v rfl rfl (by kernel_rfl) (by kernel_rfl) (K := fun v w' => K (.tuple #[v, .slice q10 R.length d10, .int .i64 0]) w') fun w11 f11 => ?_
    have hk2l : k2 < w3.heap.size := by omega
    have hU11 : HF.own w11 u w.heap.size := ((hU7.fr0 f710).fr_sep f11 hk2l).mono (by omega)
    have := hk u q10 d10 w11 ((f07.then f710).st f11 (by omega)) hU11
    rw [hok] at this
    exact this ((hO10.fr_sep f11 (by omega)).mono (by omega)) (by rw [hu]; rfl)
end
end Go.Sh
end

section
namespace Go.Sh
open Go Go.Fw Go.Proofs
set_option maxRecDepth 100000
set_option linter.unusedVariables false
def stKs : List UInt8 := [98, 101, 48, 99, 54, 57, 48, 98, 57, 102, 54, 54, 53, 55, 53, 97, 49, 100, 55, 54, 54, 98, 53, 52, 101, 51, 54, 56, 99, 56, 52, 101]
def stNs : List UInt8 := [52, 54, 49, 53, 57, 57, 100, 51, 53, 100, 54, 51, 50, 98, 102, 50, 50, 51, 57, 56, 50, 53, 98, 98]
def stK : List UInt8 := [190, 12, 105, 11, 159, 102, 87, 90, 29, 118, 107, 84, 227, 104, 200, 78]
def stN : List UInt8 := [70, 21, 153, 211, 93, 99, 43, 242, 35, 152, 37, 187]
theorem stK_eq : unhexL stKs = stK := by kernel_rfl
theorem stN_eq : unhexL stNs = stN := by kernel_rfl
theorem stKs_hex : ∀ x ∈ stKs, hexv x < 16 := by
  have : stKs.all (fun x => decide (hexv x < 16)) = true := by kernel_rfl
  exact fun x hx => of_decide_eq_true (List.all_eq_true.1 this x hx)
theorem stNs_hex : ∀ x ∈ stNs, hexv x < 16 := by
  have : stNs.all (fun x => decide (hexv x < 16)) = true := by kernel_rfl
  exact fun x hx => of_decide_eq_true (List.all_eq_true.1 this x hx)
def stNote (id ahead : List UInt8) : List UInt8 := UInt8.ofNat id.length :: (id ++ ahead)
def stE (id ahead : List UInt8) : Int := if 20 < id.length then 15 else if 65000 < ahead.length then 11 else 0
def stL (id ahead : List UInt8) : List UInt8 := if stE id ahead = 0 then slL stK stN [] (stNote id ahead) else []
theorem stNote_len (id ahead : List UInt8) : (stNote id ahead).length = 1 + id.length + ahead.length := by simp [stNote]; omega
theorem stOk {id ahead : List UInt8} (h : stE id ahead = 0) : id.length ≤ 20 ∧ ahead.length ≤ 65000 := by
  unfold stE at h
  split at h
  · omega
  · split at h <;> omega
theorem stE_ok {id ahead : List UInt8} (h1 : id.length ≤ 20) (h2 : ahead.length ≤ 65000) : stE id ahead = 0 := by unfold stE; rw [if_neg (by omega), if_neg (by omega)]
theorem st_tgE {id ahead : List UInt8} (h1 : id.length ≤ 20) (h2 : ahead.length ≤ 65000) : tgE stN [] (stNote id ahead) = 0 := by
  unfold tgE
  rw [if_pos (show okG stN.length [[], stNote id ahead] from okG_iff.2 ⟨rfl, by show 0 ≤ 65535; omega, by rw [stNote_len]; omega⟩)]
theorem stL_ok {id ahead : List UInt8} (h1 : id.length ≤ 20) (h2 : ahead.length ≤ 65000) : stL id ahead = slL stK stN [] (stNote id ahead) := by unfold stL; rw [if_pos (stE_ok h1 h2)]
theorem stL_len {id ahead : List UInt8} (h1 : id.length ≤ 20) (h2 : ahead.length ≤ 65000) : (stL id ahead).length = 16 := by
  rw [stL_ok h1 h2]
  unfold slL
  rw [if_pos (show okG stN.length [[], stNote id ahead] from okG_iff.2 ⟨rfl, by show 0 ≤ 65535; omega, by rw [stNote_len]; omega⟩), List.length_append, gturnL_len, gtagL_len]; rfl
section
variable {w : World} {K : Value → World → Prop}
theorem stampLong_c {p : Option Addr} {l c : Nat} {rs : List (List UInt8)} (hR : RowB w p rs) (hl : l = rs.length) (hl2 : l ≤ 1000) (hbad : (∃ r ∈ rs, 20 < r.length) → K (.bool true) w) (hok : (∀ r ∈ rs, r.length ≤ 20) → K (.bool false) w) :
    callF Tryz.prog F_stamp_long #[.slice p l c] w K := by
  apply stamp_long_call
  unfold stamp_long
  refine LoopS.ind (fun k us w' => w' = w ∧ ∃ i : Nat, i + k = l ∧ us = [.bool false, .slice p l c, .int .i64 (l : Int), .int .i64 (i : Int)] ∧ ∀ j, j < i → (rs.getD j []).length ≤ 20) l ⟨rfl, 0, by omega, rfl, by omega⟩ ?_
  rintro k us r w2 I μ hgo ⟨rfl, i, hi, rfl, hs⟩
  refine ⟨_, _, _, _, _, _, rfl, cond_d (fun h3 => ?_) (fun h3 => ?_)⟩
  · have hil : i < l := by omega
    obtain ⟨a, q, d, ha, hca, hq, _⟩ := rows_get (t := T_S_S_uint8) (by kernel_rfl) hR (c := c) hl hil (k := .i64)
    have hm : rs.getD i [] ∈ rs := by
      rw [List.getD_eq_getElem?_getD, List.getElem?_eq_getElem (by omega)]; exact List.getElem_mem _
    refine ⟨a, ha, _, _, _, Ld.cell (by kernel_rfl) hca, cond_d (fun h4 => hbad ⟨_, hm, by omega⟩) fun h4 => ?_⟩
    rw [wrap64 (by omega) (by omega)]
    refine hgo _ _ _ (k - 1) (by omega) ⟨rfl, i + 1, by omega, rfl, fun j hj => ?_⟩
    by_cases hji : j = i
    · subst hji; omega
    · exact hs j (by omega)
  · refine hok fun r hr => ?_
    obtain ⟨j, hj, rfl⟩ := List.getElem_of_mem hr
    have := hs j (by omega)
    rw [List.getD_eq_getElem?_getD, List.getElem?_eq_getElem hj] at this
    simpa using this
set_option maxHeartbeats 2000000 in
theorem stampStamp_c {p0 p1 : Option Addr} {l0 c0 l1 c1 : Nat} {id ahead : List UInt8} (h0 : Row w p0 (id.map vb)) (hl0 : l0 = id.length) (hc0 : l0 ≤ c0) (h1 : Row w p1 (ahead.map vb)) (hl1 : l1 = ahead.length) (hc1 : l1 ≤ c1)
    (hk : ∀ q d w', Fr [] w w' → OB w' q (stL id ahead).length d (stL id ahead) w.heap.size → K (.tuple #[.slice q (stL id ahead).length d, .int .i64 (stE id ahead)]) w') :
    callF Tryz.prog F_stamp_Stamp #[.slice p0 l0 c0, .slice p1 l1 c1] w K := by
  apply stamp_Stamp_call
  unfold stamp_Stamp
  have bad : ∀ (e : Int) w', stE id ahead = e → e ≠ 0 → Fr [] w w' → K (.tuple #[.slice none 0 0, .int .i64 e]) w' := by
    intro e w' he h0 f'
    have h1 : stL id ahead = [] := by unfold stL; rw [if_neg (by rw [he]; exact h0)]
    have := hk none 0 w' f'
    rw [h1, he] at this
    exact this (OB.nil _ _)
  refine ⟨_, _, _, Ef.new (v := .slice (some ⟨w.heap.size, 0, none⟩) 1 1) (cs := ([.slice p0 l0 c0] : List Value).toArray) (e := T_S_uint8) (by kernel_rfl) fun w1 f1 hB1 s1 => ?_⟩
  refine stampLong_c (RowB.of1 hB1.rowL (byS (h0.fr0 f1) hl0 hc0)) rfl (by omega) (fun ⟨r, hr, hlr⟩ => ⟨_, rfl, cond_t (bad 15 w1 ?_ (by omega) f1)⟩) fun hr => ⟨_, rfl, cond_f ?_⟩
  · have : r = id := by simpa using hr
    rw [this] at hlr
    unfold stE; rw [if_pos hlr]
  have hid : id.length ≤ 20 := hr id (by simp)
  refine cond_d (fun hh => bad 11 w1 (by unfold stE; rw [if_neg (by omega), if_pos (by omega)]) (by omega) f1) fun hh => ?_
  have hah : ahead.length ≤ 65000 := by omega
  rw [stE_ok hid hah, stL_ok hid hah] at hk
  unfold stamp_Stamp_j1
  refine octUnhex_c (xs := stKs) (m := 16) rfl (by omega) stKs_hex fun q2 d2 w2 f2 hO2 => ⟨_, _, _, _, rfl, ?_⟩
  rw [stK_eq] at hO2
  refine octUnhex_c (xs := stNs) (m := 12) rfl (by omega) stNs_hex fun q3 d3 w3 f3 hO3 => ⟨_, _, _, _, rfl, ?_⟩
  rw [stN_eq] at hO3
  have hK3 := hO2.fr0 f3
  refine gcmNew_c hK3.row rfl hK3.cap (fun h16 => absurd rfl h16) fun _ b w4 f4 hX4 => ⟨_, _, rfl, ?_⟩
  have f04 := ((f1.then f2).then f3).then f4
  refine scanWrite_c fun w5 f5 hW5 s5 => ⟨_, rfl, ?_⟩
  obtain ⟨r, hr⟩ : ∃ r, r = w4.heap.size := ⟨_, rfl⟩
  rw [← hr] at hW5 ⊢
  have f05 := f04.then f5
  have n4 := f04.size
  have hq0 : 0 < id.length → ∀ z ∈ blks p0, z < r := rowLt h0 (by omega)
  have hq1 : 0 < ahead.length → ∀ z ∈ blks p1, z < r := rowLt h1 (by omega)
  have hq3 : 0 < stN.length → ∀ z ∈ blks q3, z < r := rowLt (hO3.fr0 f4).row (by omega)
  refine wrShort_c hW5 (h0.fr0 f05) hl0 hc0 (by omega) hq0 (by simp) fun w6 f6 hW6 => ⟨_, rfl, ?_⟩
  have h16 := f6.row (h1.fr0 f05) hq1
  refine ⟨_, _, _, Ef.new (v := .slice (some ⟨w6.heap.size, 0, none⟩) 1 1) (cs := ([.slice p1 l1 c1] : List Value).toArray) (e := T_S_uint8) (by kernel_rfl) fun w7 f7 hB7 s7 => ?_⟩
  have hRB := RowB.of1 hB7.rowL (byS (h16.fr0 f7) hl1 hc1)
  have ef : [ahead].flatten = ahead := by simp
  refine wrBytes_c (m := 1) (hW6.fr0 f7) hRB rfl (by omega) (by simp; omega) (by rw [ef]; omega) fun w8 f8 hW8 => ⟨_, rfl, ?_⟩
  have eN : [] ++ UInt8.ofNat id.length :: id ++ [ahead].flatten = stNote id ahead := by rw [ef]; simp [stNote]
  rw [eN] at hW8
  have hnl := stNote_len id ahead
  refine wrDone_c hW8 (by omega) fun q9 d9 w9 f9 hO9 => ⟨_, _, _, _, rfl, ?_⟩
  have fa9 : FrA r w5 w9 := ((f6.trans (FrA.of0 f7)).trans f8).trans (FrA.of0 f9)
  have hN9 := fa9.row ((hO3.fr0 f4).fr0 f5).row hq3
  have hX9 : BoxAt w9 b stK 0 1 w3.heap.size w4.heap.size := by
    obtain ⟨L, hL, hf⟩ := fa9
    exact (hX4.fr0 f5).fr hf fun z hz => .inr (by have := hL z hz; omega)
  have f09 := fa9.news f05 (by omega)
  have n9 := fa9.size
  have n5 := f5.size
  refine gseal_c (nonce := stN) (text := []) (note := stNote id ahead) hX9 (by omega) hN9 rfl hO3.cap (by show 12 ≤ 1000000; omega) (rowNil _) rfl (by omega) hO9.row rfl hO9.cap (.inr fun k hk' => by have := hO9.2.2 k hk'; have := (f6.trans (FrA.of0 f7)).trans f8 |>.size; omega) fun qs ds w10 f10 hX10 hO10 => ⟨_, _, _, _, rfl, ?_⟩
  rw [st_tgE hid hah]
  have n3 := ((f1.then f2).then f3).size
  exact hk qs ds w10 (frThr f09 f10 n3) (hO10.mono f09.size)
def rtE (to fr id tok : List UInt8) : Int := if 20 < to.length ∨ 20 < fr.length ∨ 20 < id.length then 15 else if tok.length < 1 ∨ 4096 < tok.length then 11 else 0
def rtH (to fr tok : List UInt8) : List UInt8 := hdL to fr ++ tok
def rtL (to fr id tok : List UInt8) : List UInt8 := if rtE to fr id tok = 0 then rtH to fr tok ++ stL id (rtH to fr tok) else []
theorem rtH_len (to fr tok : List UInt8) : (rtH to fr tok).length = 7 + to.length + fr.length + tok.length := by simp [rtH, hdL_len]
set_option maxHeartbeats 2000000 in
theorem stampMake_c {p0 p1 p2 p3 : Option Addr} {l0 c0 l1 c1 l2 c2 l3 c3 : Nat} {to fr id tok : List UInt8} (h0 : Row w p0 (to.map vb)) (hl0 : l0 = to.length) (hc0 : l0 ≤ c0) (h1 : Row w p1 (fr.map vb)) (hl1 : l1 = fr.length) (hc1 : l1 ≤ c1)
    (h2 : Row w p2 (id.map vb)) (hl2 : l2 = id.length) (hc2 : l2 ≤ c2) (h3 : Row w p3 (tok.map vb)) (hl3 : l3 = tok.length) (hc3 : l3 ≤ c3)
    (hk : ∀ q d w', Fr [] w w' → OB w' q (rtL to fr id tok).length d (rtL to fr id tok) w.heap.size → K (.tuple #[.slice q (rtL to fr id tok).length d, .int .i64 (rtE to fr id tok)]) w') :
    callF Tryz.prog F_stamp_Make #[.slice p0 l0 c0, .slice p1 l1 c1, .slice p2 l2 c2, .slice p3 l3 c3] w K := by
  apply stamp_Make_call
  unfold stamp_Make
  have bad : ∀ (e : Int) w', rtE to fr id tok = e → e ≠ 0 → Fr [] w w' → K (.tuple #[.slice none 0 0, .int .i64 e]) w' := by
    intro e w' he h0 f'
    have h1 : rtL to fr id tok = [] := by unfold rtL; rw [if_neg (by rw [he]; exact h0)]
    have := hk none 0 w' f'
    rw [h1, he] at this
    exact this (OB.nil _ _)
  refine ⟨_, _, _, Ef.new (v := .slice (some ⟨w.heap.size, 0, none⟩) 3 3) (cs := ([.slice p0 l0 c0, .slice p1 l1 c1, .slice p2 l2 c2] : List Value).toArray) (e := T_S_uint8) (by kernel_rfl) fun w1 f1 hB1 s1 => ?_⟩
  refine stampLong_c (RowB.of3 hB1.rowL (byS (h0.fr0 f1) hl0 hc0) (byS (h1.fr0 f1) hl1 hc1) (byS (h2.fr0 f1) hl2 hc2)) rfl (by omega) (fun ⟨r, hr, hlr⟩ => ⟨_, rfl, cond_t (bad 15 w1 ?_ (by omega) f1)⟩) fun hr => ⟨_, rfl, cond_f ?_⟩
  · have : 20 < to.length ∨ 20 < fr.length ∨ 20 < id.length := by
      simp only [List.mem_cons, List.not_mem_nil, or_false] at hr
      rcases hr with rfl | rfl | rfl
      · exact .inl hlr
      · exact .inr (.inl hlr)
      · exact .inr (.inr hlr)
    unfold rtE; rw [if_pos this]
  have ht := hr to (by simp)
  have hf := hr fr (by simp)
  have hi := hr id (by simp)
  have hno : ¬ (20 < to.length ∨ 20 < fr.length ∨ 20 < id.length) := by omega
  refine cond_d (fun hh => bad 11 w1 (by unfold rtE; rw [if_neg hno, if_pos (.inl (by omega))]) (by omega) f1) fun hh1 => ?_
  refine cond_d (fun hh => bad 11 w1 (by unfold rtE; rw [if_neg hno, if_pos (.inr (by omega))]) (by omega) f1) fun hh2 => ?_
  have eE : rtE to fr id tok = 0 := by unfold rtE; rw [if_neg hno, if_neg (by omega)]
  have eL : rtL to fr id tok = rtH to fr tok ++ stL id (rtH to fr tok) := by unfold rtL; rw [if_pos eE]
  rw [eE, eL] at hk
  have hHl := rtH_len to fr tok
  unfold stamp_Make_j1
  subst hl0; subst hl1
  refine headBytes_c (h0.fr0 f1) hc0 (by omega) (h1.fr0 f1) hc1 (by omega) fun q2 d2 w2 f2 hO2 => ⟨_, _, _, _, rfl, ?_⟩
  have f02 := f1.then f2
  refine ⟨_, _, _, Ef.new (v := .slice (some ⟨w2.heap.size, 0, none⟩) 2 2) (cs := ([.slice q2 (hdL to fr).length d2, .slice p3 l3 c3] : List Value).toArray) (e := T_S_uint8) (by kernel_rfl) fun w3 f3 hB3 s3 => ?_⟩
  have hR3 := RowB.of2 hB3.rowL ((hO2.fr0 f3).byS) (byS ((h3.fr0 f02).fr0 f3) hl3 hc3)
  have efl : [hdL to fr, tok].flatten = rtH to fr tok := by simp [rtH]
  refine Join_c (l := 2) hR3 rfl (by rw [efl]; omega) (by omega) fun q4 d4 w4 f4 hO4 => ⟨_, _, _, rfl, ?_⟩
  rw [efl] at hO4
  rw [efl]
  have f04 := (f02.then f3).then f4
  refine stampStamp_c (h2.fr0 f04) hl2 hc2 hO4.row rfl hO4.cap fun q5 d5 w5 f5 hO5 => ⟨_, _, _, _, rfl, ?_⟩
  obtain ⟨S, hS⟩ : ∃ S, S = stL id (rtH to fr tok) := ⟨_, rfl⟩
  have hSl : S.length = 16 := by rw [hS]; exact stL_len hi (by omega)
  rw [← hS] at hO5 hk ⊢
  refine ⟨_, _, _, Ef.new (v := .slice (some ⟨w5.heap.size, 0, none⟩) 2 2) (cs := ([.slice q4 (rtH to fr tok).length d4, .slice q5 S.length d5] : List Value).toArray) (e := T_S_uint8) (by kernel_rfl) fun w6 f6 hB6 s6 => ?_⟩
  have hR6 := RowB.of2 hB6.rowL (((hO4.fr0 f5).fr0 f6).byS) ((hO5.fr0 f6).byS)
  have efl2 : [rtH to fr tok, S].flatten = rtH to fr tok ++ S := by simp
  refine Join_c (l := 2) hR6 rfl (by rw [efl2, List.length_append]; omega) (by omega) fun q7 d7 w7 f7 hO7 => ⟨_, _, _, rfl, ?_⟩
  rw [efl2] at hO7
  rw [efl2]
  have f06 := (f04.then f5).then f6
  exact hk q7 d7 w7 (f06.then f7) (hO7.mono f06.size)
end
end Go.Sh
end

section
namespace Go.Sh
open Go Go.Fw Go.Proofs
set_option maxRecDepth 100000
set_option linter.unusedVariables false
structure RT where
  h : HF
  tok : List UInt8
  st : List UInt8
  p3 : Option Addr
  c3 : Nat
  p4 : Option Addr
  c4 : Nat
def RT.v (f : RT) : List Value := [.int .u8 (f.h.fi : Int), .int .u32 (f.h.ve : Int), .slice f.h.p1 f.h.to.length f.h.c1, .slice f.h.p2 f.h.fr.length f.h.c2, .slice f.p3 f.tok.length f.c3, .slice f.p4 f.st.length f.c4]
def RT.a (f : RT) : Value := .agg #[.int .u8 (f.h.fi : Int), .int .u32 (f.h.ve : Int), .slice f.h.p1 f.h.to.length f.h.c1, .slice f.h.p2 f.h.fr.length f.h.c2, .slice f.p3 f.tok.length f.c3, .slice f.p4 f.st.length f.c4]
structure RT.ok (w : World) (f : RT) : Prop where
  h : HF.ok w f.h
  r3 : Row w f.p3 (f.tok.map vb)
  h3 : f.tok.length ≤ f.c3
  r4 : Row w f.p4 (f.st.map vb)
  h4 : f.st.length ≤ f.c4
structure RT.own (w : World) (f : RT) (lo : Nat) : Prop where
  h : HF.own w f.h lo
  o3 : OB w f.p3 f.tok.length f.c3 f.tok lo
  o4 : OB w f.p4 f.st.length f.c4 f.st lo
theorem RT.own.ok {w : World} {f : RT} {lo : Nat} (h : RT.own w f lo) : RT.ok w f := ⟨h.h.ok, h.o3.row, h.o3.cap, h.o4.row, h.o4.cap⟩
theorem RT.ok.fr0 {w w' : World} {f : RT} (h : RT.ok w f) (hf : Fr [] w w') : RT.ok w' f := ⟨h.h.fr0 hf, h.r3.fr0 hf, h.h3, h.r4.fr0 hf, h.h4⟩
theorem RT.own.fr0 {w w' : World} {f : RT} {lo : Nat} (h : RT.own w f lo) (hf : Fr [] w w') : RT.own w' f lo := ⟨h.h.fr0 hf, h.o3.fr0 hf, h.o4.fr0 hf⟩
theorem RT.own.mono {w : World} {f : RT} {lo lo' : Nat} (h : RT.own w f lo) (hl : lo' ≤ lo) : RT.own w f lo' := ⟨h.h.mono hl, h.o3.mono hl, h.o4.mono hl⟩
theorem RT.own.fr_sep {w w' : World} {f : RT} {lo b : Nat} (h : RT.own w f lo) (hf : Fr [b] w w') (hl : b < lo) : RT.own w' f lo := ⟨h.h.fr_sep hf hl, h.o3.fr_sep hf hl, h.o4.fr_sep hf hl⟩
def rt0 : RT := ⟨hf0, [], [], none, 0, none, 0⟩
theorem rt0_own (w : World) (lo : Nat) : RT.own w rt0 lo := ⟨hf0_own _ _, OB.nil _ _, OB.nil _ _⟩
structure SU where
  e : Int
  fi : Nat
  ve : Nat
  to : List UInt8
  fr : List UInt8
  tok : List UInt8
  st : List UInt8
def SU.bad (e : Int) : SU := ⟨e, 0, 0, [], [], [], []⟩
def RT.su (f : RT) (e : Int) : SU := ⟨e, f.h.fi, f.h.ve, f.h.to, f.h.fr, f.tok, f.st⟩
def stP (b : List UInt8) : SU :=
  if (hdP b).e ≠ 0 then .bad (hdP b).e else if (hdP b).ve ≠ 1 ∨ typN (hdP b).fi ≠ 3 then .bad 14 else if 20 < (hdP b).to.length ∨ 20 < (hdP b).fr.length then .bad 15
  else if (hdP b).rest.length ≤ 16 then .bad 12
  else ⟨0, (hdP b).fi, (hdP b).ve, (hdP b).to, (hdP b).fr, (hdP b).rest.take ((hdP b).rest.length - 16), (hdP b).rest.drop ((hdP b).rest.length - 16)⟩
theorem restP_len (s : Int × List UInt8) : (restP s).1.length ≤ s.2.length := by unfold restP; split <;> simp
theorem hdP_rest (b : List UInt8) : (hdP b).rest.length ≤ b.length := by
  unfold hdP
  split
  · simp [HU.bad]
  · split
    · simp [HU.bad]
    · show (hd5 b).1.length ≤ _
      have n1 : (hd1 b).2.2.length ≤ b.length := numP_len 1 (0, b)
      have n2 : (hd2 b).2.2.length ≤ (hd1 b).2.2.length := numP_len 4 _
      have n3 : (hd3 b).2.2.length ≤ (hd2 b).2.2.length := (shortP_len _).1
      have n4 : (hd4 b).2.2.length ≤ (hd3 b).2.2.length := (shortP_len _).1
      have n5 : (hd5 b).1.length ≤ (hd4 b).2.2.length := restP_len _
      omega
theorem HF.hu_eq {u : HF} {e : Int} {rest b : List UInt8} (h : u.hu e rest = hdP b) : u.fi = (hdP b).fi ∧ u.ve = (hdP b).ve ∧ u.to = (hdP b).to ∧ u.fr = (hdP b).fr := by
  rw [← h]; exact ⟨rfl, rfl, rfl, rfl⟩
section
variable {w : World} {K : Value → World → Prop}
set_option maxHeartbeats 2000000 in
theorem stampParse_c {p : Option Addr} {l c : Nat} {b : List UInt8} (hR : Row w p (b.map vb)) (hl : l = b.length) (hc : l ≤ c) (hlb : b.length ≤ 1000000)
    (hk : ∀ u w', Fr [] w w' → RT.own w' u w.heap.size → u.su (stP b).e = stP b → K (.tuple #[u.a, .int .i64 (stP b).e]) w') :
    callF Tryz.prog F_stamp_Parse #[.slice p l c] w K := by
  apply stamp_Parse_call
  unfold stamp_Parse
  refine newZ (s := 6) (by kernel_rfl) fun w1 g1 f1 hB1 s1 => ?_
  obtain ⟨k2, hk2⟩ : ∃ k, k = w.heap.size := ⟨_, rfl⟩
  rw [← hk2] at hB1 ⊢
  have bad : ∀ (w9 : World) (e : Int), Blk w9 k2 6 g1 → Fr [] w w9 → stP b = .bad e → ∃ w2, Sto Tryz.prog T_stamp_Retry (.pointer (some ⟨k2, 0, none⟩)) rt0.a w9 w2 ∧ ∃ (a4 : Addr) (v4 : Value), (.pointer (some ⟨k2, 0, none⟩) : Value) = .pointer (some a4) ∧ (loadVar T_stamp_Retry a4).run Tryz.prog w2 = .ok v4 w2 ∧ K (.tuple #[v4, .int .i64 e]) w2 := by
    intro w9 e hB9 f9 hbe
    refine tellC hB9 rt0.v rfl rfl (by kernel_rfl) (by kernel_rfl) (K := fun v w' => K (.tuple #[v, .int .i64 e]) w') fun w10 f10 => ?_
    have := hk rt0 w10 (f9.st f10 (by omega)) (rt0_own _ _)
    rw [hbe] at this
    exact this rfl
  refine headParse_c (hR.fr0 f1) hl hc hlb fun u q d w2 f2 hU2 hO2 hu => ⟨_, _, _, _, _, _, _, _, _, _, _, _, rfl, ?_⟩
  obtain ⟨u1, u2, u3, u4⟩ := HF.hu_eq hu
  have f02 := f1.then f2
  have hrl := hdP_rest b
  refine putC (t := T_head_Head) u.v rfl rfl (by kernel_rfl) (by kernel_rfl) fun w3 f3 hC3 => ?_
  obtain ⟨k4, hk4⟩ : ∃ k, k = w2.heap.size := ⟨_, rfl⟩
  rw [← hk4] at hC3 ⊢
  have f03 := f02.then f3
  have hB3 := (hB1.fr0 f2).fr0 f3
  refine cond_ne (fun he => bad w3 _ hB3 f03 (by unfold stP; rw [if_pos he])) fun he => ?_
  have he' : ¬ (hdP b).e ≠ 0 := fun hh => hh he
  refine ⟨_, hC3.get (by kernel_rfl) (j := 1) rfl, ?_⟩
  have b14 : ∀ w9, Fr [] w3 w9 → ((hdP b).ve ≠ 1 ∨ typN (hdP b).fi ≠ 3) → stamp_Parse_j2 ⟨k2, 0, none⟩ 0 ⟨k4, 0, none⟩ q (hdP b).rest.length d true w9 K := by
    intro w9 f9 hh
    unfold stamp_Parse_j2
    exact cond_t (bad w9 14 (hB3.fr0 f9) (f03.then f9) (by unfold stP; rw [if_neg he', if_pos hh]))
  refine cond_ne (fun h1 => b14 w3 (Fr.refl _ _) (.inl (by omega))) fun h1 => ?_
  have hve : (hdP b).ve = 1 := by omega
  refine ⟨_, hC3.get (by kernel_rfl) (j := 0) rfl, ?_⟩
  have hb1 := hU2.b1
  refine initType_c hb1 ⟨_, rfl, ?_⟩
  by_cases ht : typN u.fi = 3
  · have e1 : (((typN u.fi : Nat) : Int) != 3) = false := by simp [ht]
    rw [e1]
    have hno : ¬ ((hdP b).ve ≠ 1 ∨ typN (hdP b).fi ≠ 3) := by rw [← u1]; omega
    unfold stamp_Parse_j2
    refine cond_f ?_
    refine ⟨_, _, _, hC3.get (by kernel_rfl) (j := 2) rfl, _, _, _, hC3.get (by kernel_rfl) (j := 3) rfl, ?_⟩
    refine ⟨_, _, _, Ef.new (v := .slice (some ⟨w3.heap.size, 0, none⟩) 2 2) (cs := ([.slice u.p1 u.to.length u.c1, .slice u.p2 u.fr.length u.c2] : List Value).toArray) (e := T_S_uint8) (by kernel_rfl) fun w4 f4 hB4 s4 => ?_⟩
    have f04 := f03.then f4
    have hU4 := (hU2.fr0 f3).fr0 f4
    refine stampLong_c (l := 2) (RowB.of2 hB4.rowL hU4.o1.byS hU4.o2.byS) rfl (by omega) (fun ⟨r, hr, hlr⟩ => ⟨_, rfl, cond_t (bad w4 15 (hB3.fr0 f4) f04 ?_)⟩) fun hr => ⟨_, rfl, cond_f ?_⟩
    · have : 20 < (hdP b).to.length ∨ 20 < (hdP b).fr.length := by
        simp only [List.mem_cons, List.not_mem_nil, or_false] at hr
        rcases hr with rfl | rfl
        · rw [u3] at hlr; exact .inl hlr
        · rw [u4] at hlr; exact .inr hlr
      unfold stP; rw [if_neg he', if_neg hno, if_pos this]
    have ht1 := hr u.to (by simp)
    have hf1 := hr u.fr (by simp)
    have hno2 : ¬ (20 < (hdP b).to.length ∨ 20 < (hdP b).fr.length) := by rw [← u3, ← u4]; omega
    refine cond_d (fun hh => bad w4 12 (hB3.fr0 f4) f04 (by unfold stP; rw [if_neg he', if_neg hno, if_neg hno2, if_pos (by omega)])) fun hh => ?_
    have hgt : ¬ (hdP b).rest.length ≤ 16 := by omega
    have hok : stP b = ⟨0, (hdP b).fi, (hdP b).ve, (hdP b).to, (hdP b).fr, (hdP b).rest.take ((hdP b).rest.length - 16), (hdP b).rest.drop ((hdP b).rest.length - 16)⟩ := by
      unfold stP; rw [if_neg he', if_neg hno, if_neg hno2, if_neg hgt]
    obtain ⟨R, hRr⟩ : ∃ R, R = (hdP b).rest := ⟨_, rfl⟩
    rw [← hRr] at hO2 hrl hgt hok ⊢
    unfold stamp_Parse_j1
    have hO4 := (hO2.fr0 f3).fr0 f4
    refine scanRead_c hO4.row rfl hO4.cap fun w5 f5 hR5 s5 => ⟨_, rfl, ?_⟩
    obtain ⟨r, hr'⟩ : ∃ r, r = w4.heap.size := ⟨_, rfl⟩
    rw [← hr'] at hR5 ⊢
    have m1 := f1.size; have m2 := f2.size; have m3 := f3.size; have m4 := f4.size; have m5 := f5.size
    have hk4l := hC3.lt
    have hC5 := (hC3.fr0 f4).fr0 f5
    refine ⟨fun w' => FrA r w5 w', Drw.intro fun w6 f6 s6 => ?_⟩
    have keep : ∀ {w'}, FrA r w5 w' → CAt w' k4 u.v := fun hw => hC5.frA hw (by omega)
    refine ⟨_, _, _, _, _, _, _, _, ⟨FrA.of0 f6, fun w' hw' => (keep hw').ld (by kernel_rfl) (by kernel_rfl)⟩, ?_⟩
    have ew : IntKind.i64.wrap ((R.length : Int) - 16) = ((R.length - 16 : Nat) : Int) := by rw [wrap64 (by omega) (by omega)]; omega
    rw [ew]
    refine rdBytes_c (hR5.fr0 f6) (R.length - 16) (by omega) (fun hh => by omega) fun _ _ q7 d7 w7 f7 hR7 hO7 => ⟨_, _, _, rfl, ?_⟩
    have fa7 : FrA r w5 w7 := (FrA.of0 f6).trans (FrA.of f7 (by simp))
    refine ⟨.inr (fa7), ?_⟩
    refine rdRestP_c hR7 (by rw [List.length_drop]; omega) fun q8 d8 w8 f8 hR8 hO8 => ⟨_, _, _, rfl, ?_⟩
    rw [restP_0] at hO8 ⊢
    have fa8 : FrA r w5 w8 := fa7.trans (FrA.of f8 (by simp))
    refine ⟨.inr fa8, ?_⟩
    have m6 := f6.size; have m7 := f7.size; have m8 := f8.size
    obtain ⟨v, hv⟩ : ∃ v : RT, v = ⟨u, R.take (R.length - 16), R.drop (R.length - 16), q7, d7, q8, d8⟩ := ⟨_, rfl⟩
    have etl : (R.take (R.length - 16)).length = R.length - 16 := by rw [List.length_take]; omega
    have hB8 : Blk w8 k2 6 g1 := ((((hB3.fr0 f4).fr0 f5).fr0 f6).fr f7 (by simp; omega)).fr f8 (by simp; omega)
    have f08 : Fr [] w w8 := (((f04.then f5).then f6).st f7 (by omega)).st f8 (by omega)
    have hU8 : HF.own w8 u w1.heap.size := by
      have h6 := (hU4.fr0 f5).fr0 f6
      have Q : ∀ {q : Option Addr} {l c : Nat} {xs : List UInt8}, OB w4 q l c xs w1.heap.size → OB w8 q l c xs w1.heap.size := fun h =>
        (((h.fr0 f5).fr0 f6).fr f7 fun z hz hm => by have := h.lt z hz; simp at hm; omega).fr f8 fun z hz hm => by have := h.lt z hz; simp at hm; omega
      exact ⟨Q hU4.o1, Q hU4.o2, hU4.b1, hU4.b2⟩
    have hV8 : RT.own w8 v w1.heap.size := by
      rw [hv]
      refine ⟨hU8, ?_, ?_⟩
      · show OB w8 q7 (R.take (R.length - 16)).length d7 (R.take (R.length - 16)) _
        rw [etl]; exact (hO7.fr_sep f8 (by omega)).mono (by omega)
      · exact hO8.mono (by omega)
    have hva : (.agg #[.int .u8 (u.fi : Int), .int .u32 (u.ve : Int), .slice u.p1 u.to.length u.c1, .slice u.p2 u.fr.length u.c2, .slice q7 (R.length - 16) d7, .slice q8 (R.drop (R.length - 16)).length d8] : Value) = .agg ⟨v.v⟩ := by
      rw [hv]; unfold RT.v; rw [etl]
    show ∃ w5, Sto Tryz.prog T_stamp_Retry (.pointer (some ⟨k2, 0, none⟩)) (.agg #[.int .u8 (u.fi : Int), .int .u32 (u.ve : Int), .slice u.p1 u.to.length u.c1, .slice u.p2 u.fr.length u.c2, .slice q7 (R.length - 16) d7, .slice q8 (R.drop (R.length - 16)).length d8]) w8 w5 ∧ _
    rw [hva]
    refine tellC hB8 v.v rfl rfl (by kernel_rfl) (by kernel_rfl) (K := fun v w' => K (.tuple #[v, .int .i64 0]) w') fun w9 f9 => ?_
    have := hk v w9 (f08.st f9 (by omega)) ((hV8.fr_sep f9 (by omega)).mono (by omega))
    rw [hok] at this
    exact this (by rw [hv]; show (⟨0, u.fi, u.ve, u.to, u.fr, _, _⟩ : SU) = _; rw [u1, u2, u3, u4])
  · have e1 : (((typN u.fi : Nat) : Int) != 3) = true := by simpa using fun hh => ht (by omega)
    rw [e1]
    exact b14 w3 (Fr.refl _ _) (.inr (by rw [← u1]; exact ht))
end
end Go.Sh
end

section
namespace Go.Sh
open Go Go.Fw Go.Proofs
set_option maxRecDepth 100000
set_option linter.unusedVariables false
def ahd (b : List UInt8) : List UInt8 := b.take (b.length - 16)
def ckE (b id : List UInt8) : Int := if (stP b).e ≠ 0 then (stP b).e else if stE id (ahd b) ≠ 0 then stE id (ahd b) else if stL id (ahd b) = (stP b).st then 0 else 13
theorem stP_len {b : List UInt8} (h : (stP b).e = 0) : 16 < b.length := by
  unfold stP at h
  have := hdP_rest b
  split at h
  · rename_i h1; exact absurd h h1
  · split at h
    · exact absurd h (by show (14 : Int) ≠ 0; omega)
    · split at h
      · exact absurd h (by show (15 : Int) ≠ 0; omega)
      · split at h
        · exact absurd h (by show (12 : Int) ≠ 0; omega)
        · omega
theorem RT.su_eq {u : RT} {e : Int} {b : List UInt8} (h : u.su e = stP b) : u.h.fi = (stP b).fi ∧ u.h.ve = (stP b).ve ∧ u.h.to = (stP b).to ∧ u.h.fr = (stP b).fr ∧ u.tok = (stP b).tok ∧ u.st = (stP b).st := by
  rw [← h]; exact ⟨rfl, rfl, rfl, rfl, rfl, rfl⟩
section
variable {w : World} {K : Value → World → Prop}
set_option maxHeartbeats 1000000 in
theorem stampCheck_c {p0 p1 : Option Addr} {l0 c0 l1 c1 : Nat} {b id : List UInt8} (h0 : Row w p0 (b.map vb)) (hl0 : l0 = b.length) (hc0 : l0 ≤ c0) (hlb : b.length ≤ 1000000) (h1 : Row w p1 (id.map vb)) (hl1 : l1 = id.length) (hc1 : l1 ≤ c1)
    (hk : ∀ w', Fr [] w w' → K (.int .i64 (ckE b id)) w') : callF Tryz.prog F_stamp_Check #[.slice p0 l0 c0, .slice p1 l1 c1] w K := by
  apply stamp_Check_call
  unfold stamp_Check
  refine stampParse_c h0 hl0 hc0 hlb fun u w1 f1 hU1 hu => ⟨_, _, _, _, _, _, _, _, _, _, _, _, _, _, _, rfl, ?_⟩
  obtain ⟨_, _, _, _, _, u6⟩ := RT.su_eq hu
  refine putC (t := T_stamp_Retry) u.v rfl rfl (by kernel_rfl) (by kernel_rfl) fun w2 f2 hC2 => ?_
  have f02 := f1.then f2
  refine cond_ne (fun he => ?_) fun he => ?_
  · have := hk w2 f02
    unfold ckE at this; rw [if_pos he] at this; exact this
  · have he' : ¬ (stP b).e ≠ 0 := fun hh => hh he
    have h16 := stP_len he
    have ew : IntKind.i64.wrap (((l0 : Nat) : Int) - 16) = ((b.length - 16 : Nat) : Int) := by rw [wrap64 (by omega) (by omega)]; omega
    rw [ew]
    refine slTo (h0.fr0 f02) hl0 (n := b.length - 16) (by omega) hc0 fun q d hq hql hqd _ => ?_
    refine stampStamp_c (ahead := ahd b) (h1.fr0 f02) hl1 hc1 hq hql hqd fun q3 d3 w3 f3 hO3 => ⟨_, _, _, _, rfl, ?_⟩
    have f03 := f02.then f3
    refine cond_eq (fun h3 => ?_) fun h3 => ?_
    · refine ⟨_, _, _, (hC2.fr0 f3).get (by kernel_rfl) (j := 5) rfl, ?_⟩
      have hU3 := (hU1.fr0 f2).fr0 f3
      have hl3 : (stL id (ahd b)).length = 16 := stL_len (stOk h3).1 (stOk h3).2
      refine Equal_c hO3.row rfl hU3.o4.row rfl (by omega) fun w4 f4 => ⟨_, rfl, ?_⟩
      rw [u6]
      have := hk w4 (f03.then f4)
      unfold ckE at this
      rw [if_neg he', if_neg (fun hh => hh h3)] at this
      by_cases hs : stL id (ahd b) = (stP b).st
      · rw [if_pos hs] at this
        rw [decide_eq_true hs]
        refine cond_f ?_
        rw [h3]; exact this
      · rw [if_neg hs] at this
        rw [decide_eq_false hs]
        exact cond_t this
    · have := hk w3 f03
      unfold ckE at this; rw [if_neg he', if_pos h3] at this; exact this
set_option maxHeartbeats 1000000 in
theorem refStamp_c {p0 p1 : Option Addr} {l0 c0 l1 c1 : Nat} {id ahead : List UInt8} (h0 : Row w p0 (id.map vb)) (hl0 : l0 = id.length) (h1 : Row w p1 (ahead.map vb)) (hl1 : l1 = ahead.length)
    (hk : ∀ q d w', Fr [] w w' → OB w' q (stL id ahead).length d (stL id ahead) w.heap.size → K (.tuple #[.slice q (stL id ahead).length d, .int .i64 (stE id ahead)]) w') :
    callF Tryz.prog F_ref12_Stamp #[.slice p0 l0 c0, .slice p1 l1 c1] w K := by
  apply ref12_Stamp_call
  unfold ref12_Stamp
  have bad : ∀ (e : Int) w', stE id ahead = e → e ≠ 0 → Fr [] w w' → K (.tuple #[.slice none 0 0, .int .i64 e]) w' := by
    intro e w' he h0 f'
    have h1 : stL id ahead = [] := by unfold stL; rw [if_neg (by rw [he]; exact h0)]
    have := hk none 0 w' f'
    rw [h1, he] at this
    exact this (OB.nil _ _)
  refine cond_d (fun hh => bad 15 w (by unfold stE; rw [if_pos (by omega)]) (by omega) (Fr.refl _ _)) fun hi => ?_
  have hid : id.length ≤ 20 := by omega
  refine cond_d (fun hh => bad 11 w (by unfold stE; rw [if_neg (by omega), if_pos (by omega)]) (by omega) (Fr.refl _ _)) fun hh => ?_
  have hah : ahead.length ≤ 65000 := by omega
  rw [stE_ok hid hah, stL_ok hid hah] at hk
  refine refUnhex_c (xs := stKs) (m := 16) rfl (by omega) stKs_hex fun q2 d2 w2 f2 hO2 => ⟨_, _, _, _, rfl, ?_⟩
  rw [stK_eq] at hO2
  refine refUnhex_c (xs := stNs) (m := 12) rfl (by omega) stNs_hex fun q3 d3 w3 f3 hO3 => ⟨_, _, _, _, rfl, ?_⟩
  rw [stN_eq] at hO3
  have et : IntKind.u8.wrap ((l0 : Nat) : Int) = ((UInt8.ofNat id.length).toNat : Int) := by rw [hl0]; exact wrapb (by omega)
  rw [et]
  have f03 := f2.then f3
  refine mkL (n := 1) (xs := [UInt8.ofNat id.length]) rfl rfl (by kernel_rfl) fun p4 w4 f4 hO4 s4 => ?_
  have f04 := f03.then f4
  have n03 := f03.size; have n4 := f4.size
  refine pushN (m := l0) hO4 n4 (h0.fr0 f04) hl0 (by omega) fun p5 c5 w5 f5 hO5 => ?_
  have g5 : Fr [] w3 w5 := f4.trans f5 fun z hz => .inr (hO4.2.2 z hz)
  have n5 := g5.size
  refine pushN (m := l1) hO5 n5 ((h1.fr0 f03).fr0 g5) hl1 (by omega) fun p6 c6 w6 f6 hO6 => ?_
  have g6 : Fr [] w3 w6 := g5.trans f6 fun z hz => .inr (hO5.2.2 z hz)
  have eN : [UInt8.ofNat id.length] ++ id ++ ahead = stNote id ahead := by simp [stNote]
  rw [eN] at hO6
  refine refGseal_c (key := stK) (nonce := stN) (text := []) (note := stNote id ahead) ((hO2.fr0 f3).fr0 g6).row rfl hO2.cap rfl (hO3.fr0 g6).row rfl (rowNil _) rfl hO6.row hO6.2.1 fun q7 d7 w7 f7 hO7 => ⟨_, _, _, _, rfl, ?_⟩
  rw [st_tgE hid hah]
  exact hk q7 d7 w7 ((f03.then g6).then f7) (hO7.mono (f03.then g6).size)
set_option maxHeartbeats 1000000 in
theorem refMake_c {p0 p1 p2 p3 : Option Addr} {l0 c0 l1 c1 l2 c2 l3 c3 : Nat} {to fr id tok : List UInt8} (h0 : Row w p0 (to.map vb)) (hl0 : l0 = to.length) (h1 : Row w p1 (fr.map vb)) (hl1 : l1 = fr.length)
    (h2 : Row w p2 (id.map vb)) (hl2 : l2 = id.length) (h3 : Row w p3 (tok.map vb)) (hl3 : l3 = tok.length)
    (hk : ∀ q d w', Fr [] w w' → OB w' q (rtL to fr id tok).length d (rtL to fr id tok) w.heap.size → K (.tuple #[.slice q (rtL to fr id tok).length d, .int .i64 (rtE to fr id tok)]) w') :
    callF Tryz.prog F_ref12_Make #[.slice p0 l0 c0, .slice p1 l1 c1, .slice p2 l2 c2, .slice p3 l3 c3] w K := by
  apply ref12_Make_call
  unfold ref12_Make
  have bad : ∀ (e : Int) w', rtE to fr id tok = e → e ≠ 0 → Fr [] w w' → K (.tuple #[.slice none 0 0, .int .i64 e]) w' := by
    intro e w' he h0 f'
    have h1 : rtL to fr id tok = [] := by unfold rtL; rw [if_neg (by rw [he]; exact h0)]
    have := hk none 0 w' f'
    rw [h1, he] at this
    exact this (OB.nil _ _)
  have b15 : (20 < to.length ∨ 20 < fr.length ∨ 20 < id.length) → K (.tuple #[.slice none 0 0, .int .i64 15]) w := fun hh => bad 15 w (by unfold rtE; rw [if_pos hh]) (by omega) (Fr.refl _ _)
  refine cond_d (fun hh => b15 (.inl (by omega))) fun _ => cond_d (fun hh => b15 (.inr (.inl (by omega)))) fun _ => cond_d (fun hh => b15 (.inr (.inr (by omega)))) fun _ => ?_
  have hno : ¬ (20 < to.length ∨ 20 < fr.length ∨ 20 < id.length) := by omega
  unfold ref12_Make_j2
  refine cond_d (fun hh => bad 11 w (by unfold rtE; rw [if_neg hno, if_pos (.inl (by omega))]) (by omega) (Fr.refl _ _)) fun _ => ?_
  refine cond_d (fun hh => bad 11 w (by unfold rtE; rw [if_neg hno, if_pos (.inr (by omega))]) (by omega) (Fr.refl _ _)) fun _ => ?_
  have eE : rtE to fr id tok = 0 := by unfold rtE; rw [if_neg hno, if_neg (by omega)]
  have eL : rtL to fr id tok = rtH to fr tok ++ stL id (rtH to fr tok) := by unfold rtL; rw [if_pos eE]
  rw [eE, eL] at hk
  have hHl := rtH_len to fr tok
  have hdl := hdL_len to fr
  have hSE : stE id (rtH to fr tok) = 0 := stE_ok (by omega) (by omega)
  unfold ref12_Make_j1
  subst hl0; subst hl1
  refine refBytes_c h0 (by omega) h1 (by omega) fun q2 d2 w2 f2 hO2 => ⟨_, _, _, _, rfl, ?_⟩
  refine pushN (m := l3) hO2 f2.size (h3.fr0 f2) hl3 (by omega) fun p3' c3' w3 f3 hO3 => ?_
  have f03 : Fr [] w w3 := f2.trans f3 fun z hz => .inr (hO2.2.2 z hz)
  have eH : hdL to fr ++ tok = rtH to fr tok := rfl
  have elH : (hdL to fr).length + l3 = (rtH to fr tok).length := by rw [hHl, hdl, hl3]
  rw [eH, elH] at hO3
  rw [elH]
  refine refStamp_c (h2.fr0 f03) hl2 hO3.row rfl fun q4 d4 w4 f4 hO4 => ⟨_, _, _, _, rfl, ?_⟩
  rw [hSE]
  obtain ⟨S, hS⟩ : ∃ S, S = stL id (rtH to fr tok) := ⟨_, rfl⟩
  have hSl : S.length = 16 := by rw [hS]; exact stL_len (by omega) (by omega)
  rw [← hS] at hO4 hk ⊢
  have f04 := f03.then f4
  have n4 := f4.size; have n3 := f03.size
  refine pushN (m := S.length) (hO3.fr0 f4) (by omega) hO4.row rfl (by omega) fun p5 c5 w5 f5 hO5 => ?_
  have f05 : Fr [] w w5 := f04.trans f5 fun z hz => .inr (hO3.2.2 z hz)
  have el : (rtH to fr tok).length + S.length = (rtH to fr tok ++ S).length := by rw [List.length_append]
  rw [el] at hO5
  rw [el]
  exact hk p5 c5 w5 f05 hO5
end
end Go.Sh
end

section
namespace Go.Sh
open Go Go.Fw Go.Proofs
set_option maxRecDepth 100000
set_option linter.unusedVariables false
section
variable {w : World} {K : Value → World → Prop}
set_option maxHeartbeats 2000000 in
theorem refRetry_c {p : Option Addr} {l c : Nat} {b : List UInt8} (hR : Row w p (b.map vb)) (hl : l = b.length) (hc : l ≤ c) (hlb : b.length ≤ 1000000)
    (hk : ∀ u w', Fr [] w w' → RT.ok w' u → u.su (stP b).e = stP b → K (.tuple #[u.a, .int .i64 (stP b).e]) w') :
    callF Tryz.prog F_ref12_Parse #[.slice p l c] w K := by
  apply ref12_Parse_call
  unfold ref12_Parse
  refine newZ (s := 6) (by kernel_rfl) fun w1 g1 f1 hB1 s1 => ?_
  obtain ⟨k2, hk2⟩ : ∃ k, k = w.heap.size := ⟨_, rfl⟩
  rw [← hk2] at hB1 ⊢
  have bad : ∀ (w9 : World) (e : Int), Blk w9 k2 6 g1 → Fr [] w w9 → stP b = .bad e → ∃ w2, Sto Tryz.prog T_ref12_Retry (.pointer (some ⟨k2, 0, none⟩)) rt0.a w9 w2 ∧ ∃ (a4 : Addr) (v4 : Value), (.pointer (some ⟨k2, 0, none⟩) : Value) = .pointer (some a4) ∧ (loadVar T_ref12_Retry a4).run Tryz.prog w2 = .ok v4 w2 ∧ K (.tuple #[v4, .int .i64 e]) w2 := by
    intro w9 e hB9 f9 hbe
    refine tellC hB9 rt0.v rfl rfl (by kernel_rfl) (by kernel_rfl) (K := fun v w' => K (.tuple #[v, .int .i64 e]) w') fun w10 f10 => ?_
    have := hk rt0 w10 (f9.st f10 (by omega)) (rt0_own _ w10.heap.size).ok
    rw [hbe] at this
    exact this rfl
  refine refHeadParse_c (hR.fr0 f1) hl hc hlb fun u q d w2 f2 hU2 hO2 hu => ⟨_, _, _, _, _, _, _, _, _, _, _, _, rfl, ?_⟩
  obtain ⟨u1, u2, u3, u4⟩ := HF.hu_eq hu
  have f02 := f1.then f2
  have hrl := hdP_rest b
  refine putC (t := T_ref10_Head) u.v rfl rfl (by kernel_rfl) (by kernel_rfl) fun w3 f3 hC3 => ?_
  obtain ⟨k4, hk4⟩ : ∃ k, k = w2.heap.size := ⟨_, rfl⟩
  rw [← hk4] at hC3 ⊢
  have f03 := f02.then f3
  have hB3 := (hB1.fr0 f2).fr0 f3
  refine cond_ne (fun he => bad w3 _ hB3 f03 (by unfold stP; rw [if_pos he])) fun he => ?_
  have he' : ¬ (hdP b).e ≠ 0 := fun hh => hh he
  refine ⟨_, hC3.get (by kernel_rfl) (j := 1) rfl, ?_⟩
  have b14 : ((hdP b).ve ≠ 1 ∨ typN (hdP b).fi ≠ 3) → ref12_Parse_j4 ⟨k2, 0, none⟩ 0 ⟨k4, 0, none⟩ q (hdP b).rest.length d true w3 K := by
    intro hh
    unfold ref12_Parse_j4
    exact cond_t (bad w3 14 hB3 f03 (by unfold stP; rw [if_neg he', if_pos hh]))
  refine cond_ne (fun h1 => b14 (.inl (by omega))) fun h1 => ?_
  have hve : (hdP b).ve = 1 := by omega
  refine ⟨_, hC3.get (by kernel_rfl) (j := 0) rfl, ?_⟩
  have hb1 := hU2.b1
  refine refType_c hb1 ⟨_, rfl, ?_⟩
  by_cases ht : typN u.fi = 3
  · have e1 : (((typN u.fi : Nat) : Int) != 3) = false := by simp [ht]
    rw [e1]
    have hno : ¬ ((hdP b).ve ≠ 1 ∨ typN (hdP b).fi ≠ 3) := by rw [← u1]; omega
    unfold ref12_Parse_j4
    refine cond_f ?_
    unfold ref12_Parse_j3
    have b15 : (20 < (hdP b).to.length ∨ 20 < (hdP b).fr.length) → ref12_Parse_j2 ⟨k2, 0, none⟩ 0 ⟨k4, 0, none⟩ q (hdP b).rest.length d true w3 K := by
      intro hh
      unfold ref12_Parse_j2
      exact cond_t (bad w3 15 hB3 f03 (by unfold stP; rw [if_neg he', if_neg hno, if_pos hh]))
    refine ⟨_, _, _, hC3.get (by kernel_rfl) (j := 2) rfl, cond_d (fun hh => b15 (.inl (by rw [← u3]; omega))) fun hh1 => ?_⟩
    refine ⟨_, _, _, hC3.get (by kernel_rfl) (j := 3) rfl, ?_⟩
    by_cases hh2 : ((u.fr.length : Nat) : Int) > 20
    · rw [decide_eq_true hh2]
      exact b15 (.inr (by rw [← u4]; omega))
    · rw [decide_eq_false hh2]
      have hno2 : ¬ (20 < (hdP b).to.length ∨ 20 < (hdP b).fr.length) := by rw [← u3, ← u4]; omega
      unfold ref12_Parse_j2
      refine cond_f ?_
      unfold ref12_Parse_j1
      rw [wrap64 (n := (((hdP b).rest.length : Nat) : Int) - 16) (by omega) (by omega)]
      refine cond_d (fun hh => bad w3 12 hB3 f03 (by unfold stP; rw [if_neg he', if_neg hno, if_neg hno2, if_pos (by omega)])) fun hh => ?_
      have hgt : ¬ (hdP b).rest.length ≤ 16 := by omega
      have hok : stP b = ⟨0, (hdP b).fi, (hdP b).ve, (hdP b).to, (hdP b).fr, (hdP b).rest.take ((hdP b).rest.length - 16), (hdP b).rest.drop ((hdP b).rest.length - 16)⟩ := by
        unfold stP; rw [if_neg he', if_neg hno, if_neg hno2, if_neg hgt]
      obtain ⟨R, hRr⟩ : ∃ R, R = (hdP b).rest := ⟨_, rfl⟩
      rw [← hRr] at hO2 hrl hgt hok ⊢
      refine Drw.intro fun w4 f4 s4 => ?_
      have hO4 := (hO2.fr0 f3).fr0 f4
      have hU4 := (hU2.fr0 f3).fr0 f4
      have ew : (R.length : Int) - 16 = ((R.length - 16 : Nat) : Int) := by omega
      rw [ew]
      refine slTo hO4.row rfl (n := R.length - 16) (by omega) hO4.cap fun q5 d5 hq5 hl5 hd5 hz5 => ?_
      refine slFrom hO4.row rfl (n := R.length - 16) (by omega) hO4.cap fun q6 d6 hq6 hl6 hd6 hz6 => ?_
      refine ⟨_, _, _, _, _, _, _, _, (hC3.fr0 f4).ld (by kernel_rfl) (by kernel_rfl), ?_⟩
      obtain ⟨v, hv⟩ : ∃ v : RT, v = ⟨u, R.take (R.length - 16), R.drop (R.length - 16), q5, d5, q6, d6⟩ := ⟨_, rfl⟩
      have f04 := f03.then f4
      have hva : (.agg #[.int .u8 (u.fi : Int), .int .u32 (u.ve : Int), .slice u.p1 u.to.length u.c1, .slice u.p2 u.fr.length u.c2, .slice q5 (R.length - 16) d5, .slice q6 (R.length - (R.length - 16)) d6] : Value) = .agg ⟨v.v⟩ := by
        rw [hv]; unfold RT.v; rw [← hl5, ← hl6]
      show ∃ w5, Sto Tryz.prog T_ref12_Retry (.pointer (some ⟨k2, 0, none⟩)) (.agg #[.int .u8 (u.fi : Int), .int .u32 (u.ve : Int), .slice u.p1 u.to.length u.c1, .slice u.p2 u.fr.length u.c2, .slice q5 (R.length - 16) d5, .slice q6 (R.length - (R.length - 16)) d6]) w4 w5 ∧ _
      rw [hva]
      refine tellC (hB3.fr0 f4) v.v rfl rfl (by kernel_rfl) (by kernel_rfl) (K := fun v w' => K (.tuple #[v, .int .i64 0]) w') fun w9 f9 => ?_
      have m1 := f1.size
      have hk2l := hB1.lt
      have hU9 := (hU4.fr_sep f9 (by omega)).ok
      have R9 : ∀ {q' : Option Addr} {xs : List UInt8}, Row w4 q' (xs.map vb) → (∀ z ∈ blks q', z ∈ blks q) → Row w9 q' (xs.map vb) := fun hq hz => rowKeep hq f9 fun h0 z hz' hm => by
        have := hO2.2.2 z (hz z hz')
        simp at hm; omega
      have := hk v w9 (f04.st f9 (by omega))
      rw [hok] at this
      refine this ?_ ?_
      · rw [hv]
        refine ⟨hU9, R9 hq5 hz5, ?_, R9 hq6 hz6, ?_⟩
        · show (R.take (R.length - 16)).length ≤ d5
          omega
        · show (R.drop (R.length - 16)).length ≤ d6
          omega
      · rw [hv]; show (⟨0, u.fi, u.ve, u.to, u.fr, _, _⟩ : SU) = _; rw [u1, u2, u3, u4]
  · have e1 : (((typN u.fi : Nat) : Int) != 3) = true := by simpa using fun hh => ht (by omega)
    rw [e1]
    exact b14 (.inr (by rw [← u1]; exact ht))
set_option maxHeartbeats 1000000 in
theorem refCheck_c {p0 p1 : Option Addr} {l0 c0 l1 c1 : Nat} {b id : List UInt8} (h0 : Row w p0 (b.map vb)) (hl0 : l0 = b.length) (hc0 : l0 ≤ c0) (hlb : b.length ≤ 1000000) (h1 : Row w p1 (id.map vb)) (hl1 : l1 = id.length)
    (hk : ∀ w', Fr [] w w' → K (.int .i64 (ckE b id)) w') : callF Tryz.prog F_ref12_Check #[.slice p0 l0 c0, .slice p1 l1 c1] w K := by
  apply ref12_Check_call
  unfold ref12_Check
  refine refRetry_c h0 hl0 hc0 hlb fun u w1 f1 hU1 hu => ⟨_, _, _, _, _, _, _, _, _, _, _, _, _, _, _, rfl, ?_⟩
  obtain ⟨_, _, _, _, _, u6⟩ := RT.su_eq hu
  refine putC (t := T_ref12_Retry) u.v rfl rfl (by kernel_rfl) (by kernel_rfl) fun w2 f2 hC2 => ?_
  have f02 := f1.then f2
  refine cond_ne (fun he => ?_) fun he => ?_
  · have := hk w2 f02
    unfold ckE at this; rw [if_pos he] at this; exact this
  · have he' : ¬ (stP b).e ≠ 0 := fun hh => hh he
    have h16 := stP_len he
    have ew : IntKind.i64.wrap (((l0 : Nat) : Int) - 16) = ((b.length - 16 : Nat) : Int) := by rw [wrap64 (by omega) (by omega)]; omega
    rw [ew]
    refine slTo (h0.fr0 f02) hl0 (n := b.length - 16) (by omega) hc0 fun q d hq hql hqd _ => ?_
    refine refStamp_c (ahead := ahd b) (h1.fr0 f02) hl1 hq hql fun q3 d3 w3 f3 hO3 => ⟨_, _, _, _, rfl, ?_⟩
    have f03 := f02.then f3
    refine cond_ne (fun h3 => ?_) fun h3 => ?_
    · have := hk w3 f03
      unfold ckE at this; rw [if_neg he', if_pos h3] at this; exact this
    · have hU3 := (hU1.fr0 f2).fr0 f3
      refine ⟨_, _, Ef.toStr (by kernel_rfl) hO3.row rfl, _, _, _, (hC2.fr0 f3).get (by kernel_rfl) (j := 5) rfl, _, _, Ef.toStr (by kernel_rfl) hU3.r4 rfl, _, _, Ef.strNe, ?_⟩
      rw [bstr_eq, u6]
      have := hk w3 f03
      unfold ckE at this
      rw [if_neg he', if_neg (fun hh => hh h3)] at this
      by_cases hs : stL id (ahd b) = (stP b).st
      · rw [if_pos hs] at this
        rw [decide_eq_true hs]
        exact cond_f this
      · rw [if_neg hs] at this
        rw [decide_eq_false hs]
        exact cond_t this
theorem refSameH_c {f g : HF} (hf : HF.ok w f) (hg : HF.ok w g) (hk : ∀ w', Fr [] w w' → K (.bool (decide (f.fi = g.fi ∧ f.ve = g.ve ∧ f.to = g.to ∧ f.fr = g.fr))) w') : callF Tryz.prog F_ref10_Same #[f.a, g.a] w K := by
  apply ref10_Same_call
  unfold ref10_Same
  refine newC (t := T_ref10_Head) f.v fun w1 f1 hC1 s1 => newC (t := T_ref10_Head) g.v fun w2 f2 hC2 s2 => ?_
  have f02 := f1.then f2
  have hC12 := hC1.fr0 f2
  have hf2 := hf.fr0 f02; have hg2 := hg.fr0 f02
  have no : ∀ {P : Prop} [Decidable P], (¬ P) → (decide P) = false := fun h => decide_eq_false h
  refine ⟨_, hC12.get (by kernel_rfl) (j := 0) rfl, _, hC2.get (by kernel_rfl) (j := 0) rfl, cond_eq (fun h1 => ?_) fun h1 => ?_⟩
  · refine ⟨_, hC12.get (by kernel_rfl) (j := 1) rfl, _, hC2.get (by kernel_rfl) (j := 1) rfl, cond_eq (fun h2 => ?_) fun h2 => ?_⟩
    · refine ⟨_, _, _, hC12.get (by kernel_rfl) (j := 2) rfl, _, _, Ef.toStr (by kernel_rfl) hf2.r1 rfl, _, _, _, hC2.get (by kernel_rfl) (j := 2) rfl, _, _, Ef.toStr (by kernel_rfl) hg2.r1 rfl, _, _, Ef.strEq, ?_⟩
      rw [bstr_eq]
      refine cond_d (fun h3 => ?_) fun h3 => ?_
      · refine ⟨_, _, _, hC12.get (by kernel_rfl) (j := 3) rfl, _, _, Ef.toStr (by kernel_rfl) hf2.r2 rfl, _, _, _, hC2.get (by kernel_rfl) (j := 3) rfl, _, _, Ef.toStr (by kernel_rfl) hg2.r2 rfl, _, _, Ef.strEq, ?_⟩
        rw [bstr_eq]
        have e : decide (f.fi = g.fi ∧ f.ve = g.ve ∧ f.to = g.to ∧ f.fr = g.fr) = decide (f.fr = g.fr) := by
          apply decide_eq_decide.2; exact ⟨fun h => h.2.2.2, fun h => ⟨by omega, by omega, h3, h⟩⟩
        have := hk w2 f02
        rw [e] at this; exact this
      · have := hk w2 f02
        rw [decide_eq_false (fun h => h3 h.2.2.1)] at this; exact this
    · have := hk w2 f02
      rw [decide_eq_false (fun h => h2 (by rw [h.2.1]))] at this; exact this
  · have := hk w2 f02
    rw [decide_eq_false (fun h => h1 (by rw [h.1]))] at this; exact this
theorem refSameR_c {f g : RT} (hf : RT.ok w f) (hg : RT.ok w g) {e : Int} (hs : f.su e = g.su e) (hk : ∀ w', Fr [] w w' → K (.bool true) w') : callF Tryz.prog F_ref12_Same #[f.a, g.a] w K := by
  apply ref12_Same_call
  unfold ref12_Same
  unfold RT.su at hs
  simp only [SU.mk.injEq, true_and] at hs
  obtain ⟨h1, h2, h3, h4, h5, h6⟩ := hs
  refine newC (t := T_ref12_Retry) f.v fun w1 f1 hC1 s1 => newC (t := T_ref12_Retry) g.v fun w2 f2 hC2 s2 => ?_
  have f02 := f1.then f2
  have hC12 := hC1.fr0 f2
  refine ⟨_, _, _, _, _, _, _, _, hC12.ld0 (ds := f.h.v) (rs := [.slice f.p3 f.tok.length f.c3, .slice f.p4 f.st.length f.c4]) rfl (by kernel_rfl) (by kernel_rfl), _, _, _, _, _, _, _, _, hC2.ld0 (ds := g.h.v) (rs := [.slice g.p3 g.tok.length g.c3, .slice g.p4 g.st.length g.c4]) rfl (by kernel_rfl) (by kernel_rfl), ?_⟩
  refine refSameH_c (hf.h.fr0 f02) (hg.h.fr0 f02) fun w3 f3 => ⟨_, rfl, ?_⟩
  rw [decide_eq_true ⟨h1, h2, h3, h4⟩]
  have f03 := f02.then f3
  have hf3 := hf.fr0 f03; have hg3 := hg.fr0 f03
  have hC13 := hC12.fr0 f3; have hC23 := hC2.fr0 f3
  refine cond_t ⟨_, _, _, hC13.get (by kernel_rfl) (j := 4) rfl, _, _, Ef.toStr (by kernel_rfl) hf3.r3 rfl, _, _, _, hC23.get (by kernel_rfl) (j := 4) rfl, _, _, Ef.toStr (by kernel_rfl) hg3.r3 rfl, _, _, Ef.strEq, ?_⟩
  rw [bstr_eq, decide_eq_true h5]
  refine cond_t ⟨_, _, _, hC13.get (by kernel_rfl) (j := 5) rfl, _, _, Ef.toStr (by kernel_rfl) hf3.r4 rfl, _, _, _, hC23.get (by kernel_rfl) (j := 5) rfl, _, _, Ef.toStr (by kernel_rfl) hg3.r4 rfl, _, _, Ef.strEq, ?_⟩
  rw [bstr_eq, decide_eq_true h6]
  exact hk w3 f03
set_option maxHeartbeats 1000000 in
theorem headOf_c {f : HF} (hf : HF.ok w f) (hl1 : f.to.length ≤ 1000000) (hl2 : f.fr.length ≤ 1000000) (hk : ∀ g w', Fr [] w w' → HF.own w' g w.heap.size → g.hu 0 [] = f.hu 0 [] → K g.a w') : callF Tryz.prog F_law10_Of #[f.a] w K := by
  apply law10_Of_call
  unfold law10_Of
  refine newC (t := T_head_Head) f.v fun w1 f1 hC1 s1 => newZ (s := 4) (by kernel_rfl) fun w2 g2 f2 hB2 s2 => ?_
  obtain ⟨k1, hk1⟩ : ∃ k, k = w.heap.size := ⟨_, rfl⟩
  rw [← hk1] at hC1 ⊢
  obtain ⟨k2, hk2⟩ : ∃ k, k = w1.heap.size := ⟨_, rfl⟩
  rw [← hk2] at hB2 ⊢
  have hC2 := hC1.fr0 f2
  refine ⟨fun w' => Fr [] w2 w', Drw.intro fun w3 f3 s3 => ?_⟩
  refine ⟨_, ⟨f3, fun w' hw' => (hC2.fr0 hw').get (by kernel_rfl) (j := 0) rfl⟩, _, ⟨f3, fun w' hw' => (hC2.fr0 hw').get (by kernel_rfl) (j := 1) rfl⟩, _, _, _, ⟨f3, fun w' hw' => (hC2.fr0 hw').get (by kernel_rfl) (j := 2) rfl⟩, _, _, _, ⟨f3, fun w' hw' => (hC2.fr0 hw').get (by kernel_rfl) (j := 3) rfl⟩, ?_⟩
  have f03 := (f1.then f2).then f3
  refine CopyOB_c (hf.r1.fr0 f03) rfl (by omega) fun q4 d4 w4 f4 hO4 => ⟨_, _, _, rfl, .inr (f3.then f4), ?_⟩
  have f04 := f03.then f4
  refine CopyOB_c (hf.r2.fr0 f04) rfl (by omega) fun q5 d5 w5 f5 hO5 => ⟨_, _, _, rfl, .inr ((f3.then f4).then f5), ?_⟩
  obtain ⟨g, hg⟩ : ∃ g : HF, g = ⟨f.fi, f.ve, f.to, f.fr, q4, d4, q5, d5⟩ := ⟨_, rfl⟩
  have hga : (.agg #[.int .u8 (f.fi : Int), .int .u32 (f.ve : Int), .slice q4 f.to.length d4, .slice q5 f.fr.length d5] : Value) = .agg ⟨g.v⟩ := by rw [hg]; rfl
  show ∃ w5', Sto Tryz.prog T_ref10_Head (.pointer (some ⟨k2, 0, none⟩)) (.agg #[.int .u8 (f.fi : Int), .int .u32 (f.ve : Int), .slice q4 f.to.length d4, .slice q5 f.fr.length d5]) w5 w5' ∧ _
  rw [hga]
  have m1 := f1.size; have m2 := f2.size; have m3 := f3.size; have m4 := f4.size
  have hk2l := hB2.lt
  refine tellC (((hB2.fr0 f3).fr0 f4).fr0 f5) g.v rfl rfl (by kernel_rfl) (by kernel_rfl) (K := fun v w' => K v w') fun w6 f6 => ?_
  refine hk g w6 ((f04.then f5).st f6 (by omega)) ?_ (by rw [hg]; rfl)
  rw [hg]
  have h4 := (hO4.fr0 f5).fr_sep f6 (by omega)
  have h5 := hO5.fr_sep f6 (by omega)
  exact ⟨h4.mono (by omega), h5.mono (by omega), hf.b1, hf.b2⟩
set_option maxHeartbeats 1000000 in
theorem retryOf_c {f : RT} (hf : RT.ok w f) (hl1 : f.h.to.length ≤ 1000000) (hl2 : f.h.fr.length ≤ 1000000) (hl3 : f.tok.length ≤ 1000000) (hl4 : f.st.length ≤ 1000000) (hk : ∀ g w', Fr [] w w' → RT.ok w' g → (∀ e, g.su e = f.su e) → K g.a w') : callF Tryz.prog F_law12_of #[f.a] w K := by
  apply law12_of_call
  unfold law12_of
  refine newC (t := T_stamp_Retry) f.v fun w1 f1 hC1 s1 => newZ (s := 6) (by kernel_rfl) fun w2 g2 f2 hB2 s2 => ?_
  obtain ⟨k1, hk1⟩ : ∃ k, k = w.heap.size := ⟨_, rfl⟩
  rw [← hk1] at hC1 ⊢
  obtain ⟨k2, hk2⟩ : ∃ k, k = w1.heap.size := ⟨_, rfl⟩
  rw [← hk2] at hB2 ⊢
  have hC2 := hC1.fr0 f2
  refine ⟨fun w' => Fr [] w2 w', Drw.intro fun w3 f3 s3 => ?_⟩
  refine ⟨_, _, _, _, _, _, _, _, ⟨f3, fun w' hw' => (hC2.fr0 hw').ld0 (ds := f.h.v) (rs := [.slice f.p3 f.tok.length f.c3, .slice f.p4 f.st.length f.c4]) rfl (by kernel_rfl) (by kernel_rfl)⟩, _, _, _, ⟨f3, fun w' hw' => (hC2.fr0 hw').get (by kernel_rfl) (j := 4) rfl⟩, _, _, _, ⟨f3, fun w' hw' => (hC2.fr0 hw').get (by kernel_rfl) (j := 5) rfl⟩, ?_⟩
  have f03 := (f1.then f2).then f3
  refine headOf_c (hf.h.fr0 f03) hl1 hl2 fun h w4 f4 hH4 hhe => ⟨_, _, _, _, _, _, _, _, rfl, .inr (f3.then f4), ?_⟩
  have f04 := f03.then f4
  refine CopyOB_c (hf.r3.fr0 f04) rfl (by omega) fun q5 d5 w5 f5 hO5 => ⟨_, _, _, rfl, .inr ((f3.then f4).then f5), ?_⟩
  have f05 := f04.then f5
  refine CopyOB_c (hf.r4.fr0 f05) rfl (by omega) fun q6 d6 w6 f6 hO6 => ⟨_, _, _, rfl, ?_⟩
  obtain ⟨g, hg⟩ : ∃ g : RT, g = ⟨h, f.tok, f.st, q5, d5, q6, d6⟩ := ⟨_, rfl⟩
  have hga : (.agg #[.int .u8 (h.fi : Int), .int .u32 (h.ve : Int), .slice h.p1 h.to.length h.c1, .slice h.p2 h.fr.length h.c2, .slice q5 f.tok.length d5, .slice q6 f.st.length d6] : Value) = .agg ⟨g.v⟩ := by rw [hg]; rfl
  show ∃ w5', Sto Tryz.prog T_ref12_Retry (.pointer (some ⟨k2, 0, none⟩)) (.agg #[.int .u8 (h.fi : Int), .int .u32 (h.ve : Int), .slice h.p1 h.to.length h.c1, .slice h.p2 h.fr.length h.c2, .slice q5 f.tok.length d5, .slice q6 f.st.length d6]) w6 w5' ∧ _
  rw [hga]
  have m1 := f1.size; have m2 := f2.size; have m3 := f3.size; have m4 := f4.size; have m5 := f5.size
  have hk2l := hB2.lt
  have hh1 : h.to = f.h.to := congrArg HU.to hhe
  have hh2 : h.fr = f.h.fr := congrArg HU.fr hhe
  have hh3 : h.fi = f.h.fi := congrArg HU.fi hhe
  have hh4 : h.ve = f.h.ve := congrArg HU.ve hhe
  refine tellC ((((hB2.fr0 f3).fr0 f4).fr0 f5).fr0 f6) g.v rfl rfl (by kernel_rfl) (by kernel_rfl) (K := fun v w' => K v w') fun w7 f7 => ?_
  refine hk g w7 ((f05.then f6).st f7 (by omega)) ?_ fun e => by rw [hg]; show (⟨e, h.fi, h.ve, h.to, h.fr, _, _⟩ : SU) = _; rw [hh1, hh2, hh3, hh4]; rfl
  rw [hg]
  have h4 := ((hH4.fr0 f5).fr0 f6).fr_sep f7 (by omega)
  have h5 := (hO5.fr0 f6).fr_sep f7 (by omega)
  have h6 := hO6.fr_sep f7 (by omega)
  exact ⟨h4.ok, h5.row, h5.cap, h6.row, h6.cap⟩
end
end Go.Sh
end

section
namespace Go.Sh
open Go Go.Fw Go.Proofs
set_option maxRecDepth 100000
set_option linter.unusedVariables false
def aId : List UInt8 := [0x83, 0x94, 0xc8, 0xf0, 0x3e, 0x51, 0x57, 0x08]
def aFrom : List UInt8 := [0xf0, 0x67, 0xa5, 0x50, 0x2a, 0x42, 0x62, 0xb5]
def aTok : List UInt8 := [116, 111, 107, 101, 110]
def aTag : List UInt8 := [4, 162, 101, 186, 46, 255, 77, 130, 144, 88, 251, 63, 15, 36, 150, 186]
def aHd : List UInt8 := [255, 0, 0, 0, 1, 0, 8, 240, 103, 165, 80, 42, 66, 98, 181, 116, 111, 107, 101, 110]
def aB : List UInt8 := [255, 0, 0, 0, 1, 0, 8, 240, 103, 165, 80, 42, 66, 98, 181, 116, 111, 107, 101, 110, 4, 162, 101, 186, 46, 255, 77, 130, 144, 88, 251, 63, 15, 36, 150, 186]
def aBs : List UInt8 := [102, 102, 48, 48, 48, 48, 48, 48, 48, 49, 48, 48, 48, 56, 102, 48, 54, 55, 97, 53, 53, 48, 50, 97, 52, 50, 54, 50, 98, 53, 55, 52, 54, 102, 54, 98, 54, 53, 54, 101, 48, 52, 97, 50, 54, 53, 98, 97, 50, 101, 102, 102, 52, 100, 56, 50, 57, 48, 53, 56, 102, 98, 51, 102, 48, 102, 50, 52, 57, 54, 98, 97]
def aIds : List UInt8 := [56, 51, 57, 52, 99, 56, 102, 48, 51, 101, 53, 49, 53, 55, 48, 56]
def aFroms : List UInt8 := [102, 48, 54, 55, 97, 53, 53, 48, 50, 97, 52, 50, 54, 50, 98, 53]
theorem hexAll {xs : List UInt8} (h : xs.all (fun x => decide (hexv x < 16)) = true) : ∀ x ∈ xs, hexv x < 16 := fun x hx => of_decide_eq_true (List.all_eq_true.1 h x hx)
def stEk : List UInt8 := [85, 94, 75, 116, 147, 85, 110, 234, 175, 117, 211, 91, 215, 251, 165, 216]
theorem st_key : hKey stK = 152307799178316052382387874190681185607 := by
  unfold hKey
  have : aencL stK (List.replicate 16 0) = [114, 149, 106, 69, 79, 250, 255, 84, 133, 161, 58, 18, 68, 208, 29, 71] := by rw [aencL_eval]; kernel_rfl
  rw [this]; decide +kernel
theorem st_first : aencL stK (firstL stN) = stEk := by rw [aencL_eval]; kernel_rfl
theorem turn_nil (key nonce : List UInt8) : gturnL key nonce [] = [] := List.length_eq_zero_iff.1 (by rw [gturnL_len]; rfl)
theorem st_eval {id ahead G : List UInt8} (h1 : id.length ≤ 20) (h2 : ahead.length ≤ 65000) (hg : ghashL 152307799178316052382387874190681185607 (stNote id ahead) [] = G) : stL id ahead = xorL G stEk := by
  rw [stL_ok h1 h2]
  unfold slL
  rw [if_pos (show okG stN.length [[], stNote id ahead] from okG_iff.2 ⟨rfl, by show 0 ≤ 65535; omega, by rw [stNote_len]; omega⟩), turn_nil, List.nil_append]
  unfold gtagL
  rw [st_key, st_first, hg]
theorem a_st : stL aId aHd = aTag := by
  rw [st_eval (G := [81, 252, 46, 206, 189, 170, 35, 104, 63, 45, 40, 100, 216, 223, 51, 98]) (by decide) (by decide) (by kernel_rfl)]; decide
theorem a_st2 : stL aFrom aHd ≠ aTag := by
  rw [st_eval (G := [156, 43, 188, 207, 67, 150, 32, 166, 110, 6, 143, 25, 30, 199, 69, 167]) (by decide) (by decide) (by kernel_rfl)]; decide
theorem a_rtE : rtE [] aFrom aId aTok = 0 := by decide
theorem a_rtL : rtL [] aFrom aId aTok = aB := by
  unfold rtL
  rw [if_pos a_rtE]
  have : rtH [] aFrom aTok = aHd := by decide
  rw [this, a_st]; rfl
theorem a_stP : stP aB = ⟨0, 255, 1, [], aFrom, aTok, aTag⟩ := by kernel_rfl
theorem a_stP30 : (stP (aB.take 30)).e = 12 := by kernel_rfl
theorem a_ck : ckE aB aId = 0 := by
  unfold ckE
  rw [a_stP]
  have : ahd aB = aHd := by decide
  rw [this, a_st, if_neg (fun h => h rfl), if_neg (by decide), if_pos rfl]
theorem a_ck2 : ckE aB aFrom = 13 := by
  unfold ckE
  rw [a_stP]
  have : ahd aB = aHd := by decide
  rw [this, if_neg (fun h => h rfl), if_neg (by decide), if_neg a_st2]
section
variable {w : World} {K : Value → World → Prop}
theorem constL {xs : List UInt8} {n : Nat} {ps : Array (Nat × Value)} (hr : (Instr.buildSlice T_S_uint8 n ps).run Tryz.prog w = .ok (.slice (some ⟨w.heap.size, 0, none⟩) n n) (w.alloc (.cells (xs.map vb).toArray T_uint8)))
    {K : Option Addr → Nat → Nat → World → Prop} (h : ∀ p w', Fr [] w w' → Row w' p (xs.map vb) → K p n n w') :
    ∃ p l c w', Ef Tryz.prog (Instr.buildSlice T_S_uint8 n ps) w (.slice p l c) w' ∧ ∃ p2 l2 c2 w2, Ef Tryz.prog (convert T_S_uint8 T_S_uint8 (.slice p l c)) w' (.slice p2 l2 c2) w2 ∧ K p2 l2 c2 w2 := by
  refine ⟨_, _, _, _, hr, _, _, _, _, Lib.run_convert_bytes_const w T_S_uint8 T_uint8 _ n n (by kernel_rfl) (by kernel_rfl), h _ _ (Fr.alloc _ _) (.inr ⟨w.heap.size, 0, rfl, fun j v hj => ?_⟩)⟩
  have e : ∀ o : Obj, (w.alloc o).heap[w.heap.size]? = some o := fun o => by show (w.heap.push o)[w.heap.size]? = _; simp
  unfold World.cell?
  rw [e, Nat.zero_add]
  simpa using hj
set_option maxHeartbeats 4000000 in
theorem alive12_c (h : ∀ w', Fr [] w w' → K (.bool true) w') : callF Tryz.prog F_law12_alive #[] w K := by
  apply law12_alive_call
  unfold law12_alive
  refine refUnhex_c (xs := aBs) (m := 36) rfl (by omega) (hexAll (by kernel_rfl)) fun qb db w1 f1 hb1 => ⟨_, _, _, _, rfl, ?_⟩
  rw [show unhexL aBs = aB by kernel_rfl] at hb1
  refine refUnhex_c (xs := aIds) (m := 8) rfl (by omega) (hexAll (by kernel_rfl)) fun qi di w2 f2 hi2 => ⟨_, _, _, _, rfl, ?_⟩
  rw [show unhexL aIds = aId by kernel_rfl] at hi2
  refine refUnhex_c (xs := aFroms) (m := 8) rfl (by omega) (hexAll (by kernel_rfl)) fun qf df w3 f3 hf3 => ⟨_, _, _, _, rfl, ?_⟩
  rw [show unhexL aFroms = aFrom by kernel_rfl] at hf3
  refine constL (n := 5) (xs := aTok) (by kernel_rfl) fun qt w4 f4 ht4 => ?_
  have g13 := f2.then f3
  have f03 := f1.then g13
  have g14 := g13.then f4
  have f04 := f1.then g14
  refine stampMake_c (to := []) (fr := aFrom) (id := aId) (tok := aTok) (rowNil _) rfl (by omega) (hf3.fr0 f4).row rfl hf3.cap ((hi2.fr0 f3).fr0 f4).row rfl hi2.cap ht4 rfl (by omega) fun qm dm w5 f5 hm5 => ⟨_, _, _, _, rfl, ?_⟩
  rw [a_rtL] at hm5
  rw [a_rtL, a_rtE]
  have g15 := g14.then f5
  refine stampParse_c (b := aB) (hb1.fr0 g15).row rfl hb1.cap (by decide) fun u w6 f6 hU6 hu => ⟨_, _, _, _, _, _, _, _, _, _, _, _, _, _, _, rfl, ?_⟩
  obtain ⟨_, _, _, u4, u5, u6⟩ := RT.su_eq hu
  rw [a_stP] at u4 u5 u6 ⊢
  refine putC (t := T_stamp_Retry) u.v rfl rfl (by kernel_rfl) (by kernel_rfl) fun w7 f7 hC7 => ?_
  have g57 := f6.then f7
  have g17 := g15.then g57
  refine stampMake_c (to := []) (fr := []) (id := []) (tok := []) (rowNil _) rfl (by omega) (rowNil _) rfl (by omega) (rowNil _) rfl (by omega) (rowNil _) rfl (by omega) fun q8 d8 w8 f8 _ => ⟨_, _, _, _, rfl, ?_⟩
  rw [show rtE [] [] [] [] = 11 by decide]
  refine mkN (n := 21) (c := 21) (by omega) (by omega) fun q9 w9 f9 h9 s9 => ?_
  refine stampMake_c (to := List.replicate 21 0) (fr := []) (id := []) (tok := []) h9.row (by decide) (by omega) (rowNil _) rfl (by omega) (rowNil _) rfl (by omega) (rowNil _) rfl (by omega) fun q10 d10 w10 f10 _ => ⟨_, _, _, _, rfl, ?_⟩
  rw [show rtE (List.replicate 21 0) [] [] [] = 15 by decide]
  have g710 := (f8.then f9).then f10
  have g110 := g17.then g710
  refine slTo (hb1.fr0 g110).row rfl (n := 30) (by decide) hb1.cap fun q11 d11 h11 hl11 hd11 _ => ?_
  refine stampParse_c (b := aB.take 30) h11 hl11 hd11 (by decide) fun v w12 f12 hV12 hv => ⟨_, _, _, _, _, _, _, _, _, _, _, _, _, _, _, rfl, ?_⟩
  rw [a_stP30]
  refine putC (t := T_stamp_Retry) v.v rfl rfl (by kernel_rfl) (by kernel_rfl) fun w13 f13 hC13 => ?_
  have g713 := (g710.then f12).then f13
  have g113 := g17.then g713
  refine slTo (hb1.fr0 g113).row rfl (n := 20) (by decide) hb1.cap fun q14 d14 h14 hl14 hd14 _ => ?_
  refine stampStamp_c (id := aId) (ahead := aB.take 20) ((hi2.fr0 f3).fr0 (((f4.then f5).then g57).then g713)).row rfl hi2.cap h14 hl14 hd14 fun q15 d15 w15 f15 h15 => ⟨_, _, _, _, rfl, ?_⟩
  rw [show aB.take 20 = aHd by decide, a_st] at h15
  rw [show aB.take 20 = aHd by decide, a_st, show stE aId aHd = 0 by decide]
  have g715 := g713.then f15
  have g115 := g17.then g715
  refine cond_t (cond_t (cond_t (cond_t (cond_t (cond_t ?_)))))
  refine SameBytes_c (hm5.fr0 (g57.then g715)).row rfl (hb1.fr0 g115).row rfl (by decide) fun w16 f16 => ⟨_, rfl, ?_⟩
  rw [decide_eq_true rfl]
  refine cond_t ⟨_, _, _, (hC7.fr0 (g715.then f16)).get (by kernel_rfl) (j := 4) rfl, ?_⟩
  refine constL (n := 5) (xs := aTok) (by kernel_rfl) fun qt2 w17 f17 ht17 => ?_
  have g717 := (g715.then f16).then f17
  have hU17 := hU6.fr0 (f7.then g717)
  have l5 : u.tok.length < 9223372036854775807 := by rw [u5]; decide
  have l4 : u.h.fr.length < 9223372036854775807 := by rw [u4]; decide
  have l6 : u.st.length < 9223372036854775807 := by rw [u6]; decide
  refine SameBytes_c hU17.o3.row rfl ht17 rfl l5 fun w18 f18 => ⟨_, rfl, ?_⟩
  rw [u5, decide_eq_true rfl]
  have g718 := g717.then f18
  refine cond_t ⟨_, _, _, (hC7.fr0 g718).get0 (by kernel_rfl) (j := 3) rfl, ?_⟩
  have hU18 := hU6.fr0 (f7.then g718)
  refine SameBytes_c hU18.h.o2.row rfl (hf3.fr0 (((f4.then f5).then g57).then g718)).row rfl l4 fun w19 f19 => ⟨_, rfl, ?_⟩
  rw [u4, decide_eq_true rfl]
  have g719 := g718.then f19
  refine cond_t ⟨_, _, _, (hC7.fr0 g719).get (by kernel_rfl) (j := 5) rfl, ?_⟩
  have hU19 := hU6.fr0 (f7.then g719)
  have h1519 := h15.fr0 (((f16.then f17).then f18).then f19)
  refine SameBytes_c hU19.o4.row rfl h1519.row rfl l6 fun w20 f20 => ⟨_, rfl, ?_⟩
  rw [u6, decide_eq_true rfl]
  have g720 := g719.then f20
  refine cond_t ?_
  refine slFrom (hb1.fr0 (g17.then g720)).row (n := 20) rfl (by decide) hb1.cap fun q21 d21 h21 hl21 hd21 _ => ?_
  refine SameBytes_c (h1519.fr0 f20).row rfl h21 hl21 (by decide) fun w22 f22 => ⟨_, rfl, ?_⟩
  rw [show decide (aTag = aB.drop 20) = true by decide]
  have g722 := g720.then f22
  refine cond_t ?_
  refine stampCheck_c (b := aB) (id := aId) (hb1.fr0 (g17.then g722)).row rfl hb1.cap (by decide) ((hi2.fr0 f3).fr0 (((f4.then f5).then g57).then g722)).row rfl hi2.cap fun w23 f23 => ⟨_, rfl, ?_⟩
  rw [a_ck]
  have g723 := g722.then f23
  refine cond_t ?_
  refine stampCheck_c (b := aB) (id := aFrom) (hb1.fr0 (g17.then g723)).row rfl hb1.cap (by decide) (hf3.fr0 (((f4.then f5).then g57).then g723)).row rfl hf3.cap fun w24 f24 => ⟨_, rfl, ?_⟩
  rw [a_ck2]
  exact h w24 ((f1.then (g17.then g723)).then f24)
end
end Go.Sh
end

section
namespace Go.Sh
open Go Go.Fw Go.Proofs
set_option maxRecDepth 100000
set_option linter.unusedVariables false
theorem shortP_mk {to r : List UInt8} (h : to.length ≤ 255) : shortP (0, UInt8.ofNat to.length :: (to ++ r)) = (to, (0, r)) := by
  have e0 : (fl (UInt8.ofNat to.length :: (to ++ r)) 0).toNat = to.length := by
    show (UInt8.ofNat to.length).toNat = _
    rw [UInt8.toNat_ofNat']; omega
  rw [shortP_val (by rw [e0]; simp), e0]
  simp
theorem hdP_make {to fr r : List UInt8} (h1 : to.length ≤ 255) (h2 : fr.length ≤ 255) : hdP (hdL to fr ++ r) = ⟨0, 255, 1, to, fr, r⟩ := by
  have hb : hdL to fr ++ r = 255 :: 0 :: 0 :: 0 :: 1 :: (UInt8.ofNat to.length :: (to ++ (UInt8.ofNat fr.length :: (fr ++ r)))) := by simp [hdL]
  have hd5 : (hdL to fr ++ r).drop 5 = UInt8.ofNat to.length :: (to ++ (UInt8.ofNat fr.length :: (fr ++ r))) := by rw [hb]; rfl
  have hs := shortP_mk (r := UInt8.ofNat fr.length :: (fr ++ r)) h1
  have hs2 := shortP_mk (r := r) h2
  have f0 : (fl (hdL to fr ++ r) 0).toNat = 255 := by rw [hb]; rfl
  have hN : numL (((hdL to fr ++ r).drop 1).take 4) = 1 := by rw [hb]; rfl
  rw [hdP_ok (r := UInt8.ofNat fr.length :: (fr ++ r)) (by rw [hb]; simp) (by rw [f0]; omega) (by rw [hd5, hs]) (by rw [hd5, hs]) (by rw [hs2]), f0, hN, hd5, hs, hs2]
theorem stP_make {to fr tok S : List UInt8} (h1 : to.length ≤ 20) (h2 : fr.length ≤ 20) (h3 : 1 ≤ tok.length) (hS : S.length = 16) : stP (rtH to fr tok ++ S) = ⟨0, 255, 1, to, fr, tok, S⟩ := by
  have hb : rtH to fr tok ++ S = hdL to fr ++ (tok ++ S) := by simp [rtH]
  have hl : (tok ++ S).length - 16 = tok.length := by rw [List.length_append, hS]; omega
  unfold stP
  rw [hb, hdP_make (by omega) (by omega)]
  show (if (0 : Int) ≠ 0 then _ else if (1 : Nat) ≠ 1 ∨ typN 255 ≠ 3 then _ else if 20 < to.length ∨ 20 < fr.length then _ else if (tok ++ S).length ≤ 16 then _ else (⟨0, 255, 1, to, fr, (tok ++ S).take ((tok ++ S).length - 16), (tok ++ S).drop ((tok ++ S).length - 16)⟩ : SU)) = _
  rw [if_neg (fun h => h rfl), if_neg (by decide), if_neg (by omega), if_neg (by rw [List.length_append, hS]; omega), hl]
  simp
theorem ahd_make {H S : List UInt8} (hS : S.length = 16) : ahd (H ++ S) = H := by
  unfold ahd
  rw [List.length_append, hS]
  have : H.length + 16 - 16 = H.length := by omega
  rw [this]; simp
theorem ck_make {to fr tok S id : List UInt8} (h1 : to.length ≤ 20) (h2 : fr.length ≤ 20) (h3 : 1 ≤ tok.length) (h4 : tok.length ≤ 4096) (hi : id.length ≤ 20) (hS : S.length = 16) :
    ckE (rtH to fr tok ++ S) id = if stL id (rtH to fr tok) = S then 0 else 13 := by
  unfold ckE
  have hH := rtH_len to fr tok
  rw [stP_make h1 h2 h3 hS, ahd_make hS, if_neg (fun h => h rfl), if_neg (fun h => h (stE_ok hi (by omega)))]
theorem rt_ok {to fr id tok : List UInt8} (h1 : to.length ≤ 20) (h2 : fr.length ≤ 20) (hi : id.length ≤ 20) (h3 : 1 ≤ tok.length) (h4 : tok.length ≤ 4096) : rtE to fr id tok = 0 ∧ rtL to fr id tok = rtH to fr tok ++ stL id (rtH to fr tok) := by
  have e : rtE to fr id tok = 0 := by unfold rtE; rw [if_neg (by omega), if_neg (by omega)]
  exact ⟨e, by unfold rtL; rw [if_pos e]⟩
theorem inc8 (x : UInt8) : IntKind.u8.wrap ((x.toNat : Int) + 1) = ((x + 1).toNat : Int) := by
  have := all256 (p := fun x => decide (IntKind.u8.wrap ((x.toNat : Int) + 1) = ((x + 1).toNat : Int))) (by kernel_rfl) x
  exact of_decide_eq_true this
theorem cond_same {n : Int} {A B : Prop} (h : B) : cond (n != n) A B := by
  have : (n != n) = false := by simp
  rw [this]; exact h
theorem cond_sameT {n : Int} {A B : Prop} (h : A) : cond (n == n) A B := by
  have : (n == n) = true := by simp
  rw [this]; exact h
section
variable {w : World} {K : Value → World → Prop}
set_option maxHeartbeats 2000000 in
theorem StampMakes_c {p0 p1 p2 p3 : Option Addr} {l0 c0 l1 c1 l2 c2 l3 c3 : Nat} {to fr id tok : List UInt8} (h0 : Row w p0 (to.map vb)) (hl0 : l0 = to.length) (hc0 : l0 ≤ c0) (h1 : Row w p1 (fr.map vb)) (hl1 : l1 = fr.length) (hc1 : l1 ≤ c1)
    (h2 : Row w p2 (id.map vb)) (hl2 : l2 = id.length) (hc2 : l2 ≤ c2) (h3 : Row w p3 (tok.map vb)) (hl3 : l3 = tok.length) (hc3 : l3 ≤ c3) (h : ∀ w', Fr [] w w' → K (.bool true) w') :
    callF Tryz.prog F_law12_StampMakes #[.slice p0 l0 c0, .slice p1 l1 c1, .slice p2 l2 c2, .slice p3 l3 c3] w K := by
  apply law12_StampMakes_call
  unfold law12_StampMakes
  refine alive12_c fun w1 f1 => ⟨_, rfl, cond_f ?_⟩
  have main : l3 ≤ 5000 → l2 ≤ 100 → law12_StampMakes_j2 p0 l0 c0 p1 l1 c1 p2 l2 c2 p3 l3 c3 false w1 K := by
    intro h5 h100
    unfold law12_StampMakes_j2
    refine CopyOB_c (h3.fr0 f1) hl3 (by omega) fun q2 d2 w2 f2 hO2 => ⟨_, _, _, rfl, ?_⟩
    have f02 := f1.then f2
    refine stampMake_c (h0.fr0 f02) hl0 hc0 (h1.fr0 f02) hl1 hc1 (h2.fr0 f02) hl2 hc2 hO2.row hl3 hO2.cap fun q3 d3 w3 f3 hO3 => ⟨_, _, _, _, rfl, ?_⟩
    have f03 := f02.then f3
    refine refMake_c (h0.fr0 f03) hl0 (h1.fr0 f03) hl1 (h2.fr0 f03) hl2 (h3.fr0 f03) hl3 fun q4 d4 w4 f4 hO4 => ⟨_, _, _, _, rfl, cond_same ?_⟩
    have f04 := f03.then f4
    have hll : (rtL to fr id tok).length < 9223372036854775807 := by
      unfold rtL
      split
      · rename_i hE
        unfold rtE at hE
        split at hE
        · exact absurd hE (by omega)
        · rename_i hb
          have hH := rtH_len to fr tok
          have hs : (stL id (rtH to fr tok)).length = 16 := stL_len (by omega) (by omega)
          rw [List.length_append]; omega
      · simp
    refine SameBytes_c (hO3.fr0 f4).row rfl hO4.row rfl hll fun w5 f5 => ⟨_, rfl, ?_⟩
    rw [decide_eq_true rfl]
    have f05 := f04.then f5
    refine cond_f ?_
    refine SameBytes_c (hO2.fr0 ((f3.then f4).then f5)).row hl3 (h3.fr0 f05) hl3 (by omega) fun w6 f6 => ⟨_, rfl, ?_⟩
    rw [decide_eq_true rfl]
    have f06 := f05.then f6
    refine cond_f ?_
    unfold law12_StampMakes_j1
    refine cond_d (fun _ => h w6 f06) fun h200 => ?_
    refine stampStamp_c (h2.fr0 f06) hl2 hc2 (hO2.fr0 (((f3.then f4).then f5).then f6)).row hl3 hO2.cap fun q7 d7 w7 f7 hO7 => ⟨_, _, _, _, rfl, ?_⟩
    have f07 := f06.then f7
    refine refStamp_c (h2.fr0 f07) hl2 (h3.fr0 f07) hl3 fun q8 d8 w8 f8 hO8 => ⟨_, _, _, _, rfl, cond_sameT ?_⟩
    have hsl : (stL id tok).length < 9223372036854775807 := by
      unfold stL
      split
      · rename_i hE
        have h1 := stOk hE
        have := stL_len h1.1 h1.2
        unfold stL at this
        rw [if_pos hE] at this
        omega
      · simp
    refine SameBytes_c (hO7.fr0 f8).row rfl hO8.row rfl hsl fun w9 f9 => ⟨_, rfl, ?_⟩
    rw [decide_eq_true rfl]
    exact h w9 ((f07.then f8).then f9)
  refine cond_d (fun _ => h w1 f1) fun _ => cond_d (fun _ => h w1 f1) fun _ => cond_d (fun _ => h w1 f1) fun h100 => cond_d (fun _ => ?_) fun _ => ?_
  · exact cond_d (fun _ => h w1 f1) fun _ => cond_d (fun _ => h w1 f1) fun _ => main (by omega) (by omega)
  · exact cond_d (fun _ => h w1 f1) fun _ => main (by omega) (by omega)
set_option maxHeartbeats 4000000 in
theorem StampParses_c {p0 p1 : Option Addr} {l0 c0 l1 c1 : Nat} {b id : List UInt8} (h0 : Row w p0 (b.map vb)) (hl0 : l0 = b.length) (hc0 : l0 ≤ c0) (h1 : Row w p1 (id.map vb)) (hl1 : l1 = id.length) (hc1 : l1 ≤ c1) (h : ∀ w', Fr [] w w' → K (.bool true) w') :
    callF Tryz.prog F_law12_StampParses #[.slice p0 l0 c0, .slice p1 l1 c1] w K := by
  apply law12_StampParses_call
  unfold law12_StampParses
  refine alive12_c fun w1 f1 => ⟨_, rfl, cond_f ?_⟩
  refine cond_d (fun _ => h w1 f1) fun hb => cond_d (fun _ => h w1 f1) fun hi => ?_
  unfold law12_StampParses_j2
  refine CopyOB_c (h0.fr0 f1) hl0 (by omega) fun q2 d2 w2 f2 hO2 => ⟨_, _, _, rfl, ?_⟩
  have f02 := f1.then f2
  have hlt2 := hO2.lt
  refine stampParse_c hO2.row hl0 hO2.cap (by omega) fun u w3 f3 hU3 hu => ⟨_, _, _, _, _, _, _, _, _, _, _, _, _, _, _, rfl, ?_⟩
  have f03 := f02.then f3
  refine putC (t := T_stamp_Retry) u.v rfl rfl (by kernel_rfl) (by kernel_rfl) fun w4 f4 hC4 => ?_
  obtain ⟨k6, hk6⟩ : ∃ k, k = w3.heap.size := ⟨_, rfl⟩
  rw [← hk6] at hC4 ⊢
  have f04 := f03.then f4
  refine refRetry_c (h0.fr0 f04) hl0 hc0 (by omega) fun v w5 f5 hV5 hv => ⟨_, _, _, _, _, _, _, _, _, _, _, _, _, _, _, rfl, ?_⟩
  have f05 := f04.then f5
  refine putC (t := T_ref12_Retry) v.v rfl rfl (by kernel_rfl) (by kernel_rfl) fun w6 f6 hC6 => ?_
  obtain ⟨k8, hk8⟩ : ∃ k, k = w5.heap.size := ⟨_, rfl⟩
  rw [← hk8] at hC6 ⊢
  have f06 := f05.then f6
  have hC46 := (hC4.fr0 f5).fr0 f6
  refine ⟨fun w' => Fr [] w6 w', Drw.intro fun w7 f7 s7 => cond_same ?_⟩
  refine ⟨_, _, _, _, _, _, _, _, _, _, _, _, _, _, ⟨f7, fun w' hw' => (hC46.fr0 hw').ld (by kernel_rfl) (by kernel_rfl)⟩, _, _, _, _, _, _, _, _, _, _, _, _, _, _, ⟨f7, fun w' hw' => (hC6.fr0 hw').ld (by kernel_rfl) (by kernel_rfl)⟩, ?_⟩
  have g37 := ((f4.then f5).then f6).then f7
  have f07 := f06.then f7
  have hU7 := hU3.fr0 g37
  obtain ⟨_, _, u3, u4, u5, u6⟩ := RT.su_eq hu
  have hrl := hdP_rest b
  have len : u.h.to.length ≤ 1000000 ∧ u.h.fr.length ≤ 1000000 ∧ u.tok.length ≤ 1000000 ∧ u.st.length ≤ 1000000 := by
    rw [u3, u4, u5, u6]
    unfold stP
    split
    · simp [SU.bad]
    · split
      · simp [SU.bad]
      · split
        · simp [SU.bad]
        · split
          · simp [SU.bad]
          · rename_i h20 _
            refine ⟨by show (hdP b).to.length ≤ _; omega, by show (hdP b).fr.length ≤ _; omega, ?_, ?_⟩
            · show ((hdP b).rest.take _).length ≤ _; rw [List.length_take]; omega
            · show ((hdP b).rest.drop _).length ≤ _; rw [List.length_drop]; omega
  refine retryOf_c hU7.ok len.1 len.2.1 len.2.2.1 len.2.2.2 fun g w8 f8 hG8 hg => ⟨_, _, _, _, _, _, _, _, _, _, _, _, _, _, rfl, .inr (f7.then f8), ?_⟩
  have g78 := f7.then f8
  have hV8 := (hV5.fr0 f6).fr0 g78
  refine refSameR_c hG8 hV8 (e := (stP b).e) (by rw [hg, hu, hv]) fun w9 f9 => ⟨_, rfl, cond_f ?_⟩
  have g39 := (g37.then f8).then f9
  have f09 := (f07.then f8).then f9
  have hO9 := (hO2.fr0 f3).fr0 g39
  refine stampCheck_c hO9.row hl0 hO9.cap (by omega) (h1.fr0 f09) hl1 hc1 fun w10 f10 => ⟨_, rfl, ?_⟩
  refine refCheck_c ((h0.fr0 f09).fr0 f10) hl0 hc0 (by omega) ((h1.fr0 f09).fr0 f10) hl1 fun w11 f11 => ⟨_, rfl, cond_same ?_⟩
  have g311 := (g39.then f10).then f11
  have f011 := (f09.then f10).then f11
  have hT11 := (hU3.fr0 g311).o3
  have hO11 := (hO2.fr0 f3).fr0 g311
  have hC11 := hC4.fr0 ((((((f5.then f6).then f7).then f8).then f9).then f10).then f11)
  unfold law12_StampParses_j1
  refine LoopS.ind (fun k us w' => ∃ (i : Nat) (xs : List UInt8), i + k = u.tok.length ∧ us = [.slice p0 l0 c0, .bool false, .slice q2 l0 d2, .pointer (some ⟨k6, 0, none⟩), .int .i64 (i : Int)] ∧ CAt w' k6 u.v ∧ OB w' u.p3 u.tok.length u.c3 xs w2.heap.size ∧ OB w' q2 l0 d2 b w1.heap.size ∧ Fr [] w w') u.tok.length
    ⟨0, u.tok, by omega, rfl, hC11, hT11, hO11, f011⟩ ?_
  rintro k us rr w12 I μ hgo ⟨i, xs, hik, rfl, hC12, hT12, hO12, f12⟩
  refine ⟨_, _, _, _, _, _, _, _, _, rfl, _, _, _, hC12.get (by kernel_rfl) (j := 4) rfl, cond_d (fun hlt => ?_) fun hge => ?_⟩
  · obtain ⟨a, ha, hca⟩ := hT12.get (k := .i64) (i := i) (by omega)
    refine ⟨_, _, _, hC12.get (by kernel_rfl) (j := 4) rfl, _, ha, _, Ld.cell (by kernel_rfl) hca, ?_⟩
    rw [inc8 (fl xs i), wrap64 (n := (i : Int) + 1) (by omega) (by omega)]
    refine hT12.sto (i := i) (by omega) fun w13 f13 hT13 s13 => ?_
    have m1 := f1.size; have m2 := f2.size
    have hkb : k6 ∉ blks u.p3 := by
      intro hm
      have := hU3.o3.lt k6 hm
      omega
    refine hgo _ _ _ (k - 1) (by omega) ⟨i + 1, _, by omega, rfl, hC12.fr f13 hkb, hT13, hO12.fr f13 fun z hz hm => ?_, f12.trans f13 fun z hz => .inr (by have := hT12.2.2 z hz; omega)⟩
    have h1 := hT12.2.2 z hm
    have h2 := hlt2 z hz
    omega
  · refine SameBytes_c hO12.row hl0 (h0.fr0 f12) hl0 (by omega) fun w13 f13 => ⟨_, rfl, ?_⟩
    rw [decide_eq_true rfl]
    exact h w13 (f12.then f13)
end
end Go.Sh
end

section
namespace Go.Sh
open Go Go.Fw Go.Proofs
set_option maxRecDepth 100000
set_option linter.unusedVariables false
section
variable {w : World} {K : Value → World → Prop}
set_option maxHeartbeats 2000000 in
theorem StampEnds_c {p0 p1 p2 p3 p4 : Option Addr} {l0 c0 l1 c1 l2 c2 l3 c3 l4 c4 : Nat} {to fr id other tok : List UInt8} (h0 : Row w p0 (to.map vb)) (hl0 : l0 = to.length) (hc0 : l0 ≤ c0) (h1 : Row w p1 (fr.map vb)) (hl1 : l1 = fr.length) (hc1 : l1 ≤ c1)
    (h2 : Row w p2 (id.map vb)) (hl2 : l2 = id.length) (hc2 : l2 ≤ c2) (h3 : Row w p3 (other.map vb)) (hl3 : l3 = other.length) (hc3 : l3 ≤ c3) (h4 : Row w p4 (tok.map vb)) (hl4 : l4 = tok.length) (hc4 : l4 ≤ c4) (h : ∀ w', Fr [] w w' → K (.bool true) w') :
    callF Tryz.prog F_law12_StampEnds #[.slice p0 l0 c0, .slice p1 l1 c1, .slice p2 l2 c2, .slice p3 l3 c3, .slice p4 l4 c4] w K := by
  apply law12_StampEnds_call
  unfold law12_StampEnds
  refine alive12_c fun w1 f1 => ⟨_, rfl, cond_f ?_⟩
  refine cond_d (fun _ => h w1 f1) fun _ => cond_d (fun _ => h w1 f1) fun _ => cond_d (fun _ => h w1 f1) fun _ => cond_d (fun _ => h w1 f1) fun _ => cond_d (fun _ => h w1 f1) fun _ => cond_d (fun _ => h w1 f1) fun _ => ?_
  have hto : to.length ≤ 20 := by omega
  have hfr : fr.length ≤ 20 := by omega
  have hid : id.length ≤ 20 := by omega
  have hot : other.length ≤ 20 := by omega
  have ht1 : 1 ≤ tok.length := by omega
  have ht2 : tok.length ≤ 100 := by omega
  obtain ⟨eE, eL⟩ := rt_ok hto hfr hid ht1 (by omega)
  obtain ⟨eE2, eL2⟩ := rt_ok (id := other) hto hfr hot ht1 (by omega)
  obtain ⟨H, hH⟩ : ∃ H, H = rtH to fr tok := ⟨_, rfl⟩
  have hHl : H.length = 7 + to.length + fr.length + tok.length := by rw [hH]; exact rtH_len _ _ _
  obtain ⟨S, hS⟩ : ∃ S, S = stL id H := ⟨_, rfl⟩
  obtain ⟨T, hT⟩ : ∃ T, T = stL other H := ⟨_, rfl⟩
  have hSl : S.length = 16 := by rw [hS]; exact stL_len hid (by omega)
  have hTl : T.length = 16 := by rw [hT]; exact stL_len hot (by omega)
  rw [← hH, ← hS] at eL
  rw [← hH, ← hT] at eL2
  unfold law12_StampEnds_j2
  refine stampMake_c (h0.fr0 f1) hl0 hc0 (h1.fr0 f1) hl1 hc1 (h2.fr0 f1) hl2 hc2 (h4.fr0 f1) hl4 hc4 fun qa da w2 f2 ha2 => ⟨_, _, _, _, rfl, ?_⟩
  have f02 := f1.then f2
  refine stampMake_c (h0.fr0 f02) hl0 hc0 (h1.fr0 f02) hl1 hc1 (h3.fr0 f02) hl3 hc3 (h4.fr0 f02) hl4 hc4 fun qb db w3 f3 hb3 => ⟨_, _, _, _, rfl, ?_⟩
  rw [eL] at ha2
  rw [eL2] at hb3
  rw [eE, eE2, eL, eL2]
  have f03 := f02.then f3
  have hal : (H ++ S).length = H.length + 16 := by rw [List.length_append, hSl]
  have hbl : (H ++ T).length = H.length + 16 := by rw [List.length_append, hTl]
  rw [hal] at ha2 ⊢
  rw [hbl] at hb3 ⊢
  refine cond_f (cond_f ?_)
  have el : IntKind.i64.wrap (IntKind.i64.wrap (IntKind.i64.wrap (IntKind.i64.wrap (24 + ((l0 : Nat) : Int)) + ((l1 : Nat) : Int)) + ((l4 : Nat) : Int)) - 1) = ((H.length + 16 : Nat) : Int) := by
    rw [wrap64 (n := 24 + ((l0 : Nat) : Int)) (by omega) (by omega), wrap64 (n := 24 + ((l0 : Nat) : Int) + ((l1 : Nat) : Int)) (by omega) (by omega), wrap64 (n := 24 + ((l0 : Nat) : Int) + ((l1 : Nat) : Int) + ((l4 : Nat) : Int)) (by omega) (by omega), wrap64 (by omega) (by omega)]
    omega
  rw [el]
  refine cond_same (cond_same ?_)
  unfold law12_StampEnds_j1
  have ew : IntKind.i64.wrap (((H.length + 16 : Nat) : Int) - 16) = ((H.length : Nat) : Int) := by rw [wrap64 (by omega) (by omega)]; omega
  rw [ew]
  have eta : (H ++ S).take H.length = H := by simp
  have eda : (H ++ S).drop H.length = S := by simp
  have etb : (H ++ T).take H.length = H := by simp
  have edb : (H ++ T).drop H.length = T := by simp
  have ha3 := ha2.fr0 f3
  refine slTo ha3.row (by omega) (n := H.length) (by omega) ha3.cap fun q4 d4 hq4 hl4' hd4 _ => ?_
  rw [eta] at hq4 hl4'
  refine stampStamp_c (h2.fr0 f03) hl2 hc2 hq4 hl4' hd4 fun q5 d5 w5 f5 hO5 => ⟨_, _, _, _, rfl, ?_⟩
  rw [← hS] at hO5
  rw [← hS, stE_ok hid (by omega)]
  have f05 := f03.then f5
  have hb5 := hb3.fr0 f5
  have hpT : stP (H ++ T) = ⟨0, 255, 1, to, fr, tok, T⟩ := by rw [hH]; exact stP_make hto hfr ht1 hTl
  refine stampParse_c (b := H ++ T) hb5.row (by omega) hb5.cap (by omega) fun u w6 f6 hU6 hu => ⟨_, _, _, _, _, _, _, _, _, _, _, _, _, _, _, rfl, ?_⟩
  obtain ⟨_, _, _, _, _, u6⟩ := RT.su_eq hu
  rw [hpT] at u6 ⊢
  refine putC (t := T_stamp_Retry) u.v rfl rfl (by kernel_rfl) (by kernel_rfl) fun w7 f7 hC7 => Drw.intro fun w8 f8 s8 => ?_
  refine cond_t (cond_t ?_)
  have g58 := (f6.then f7).then f8
  have g38 := f5.then g58
  have ha8 := ha3.fr0 g38
  refine slFrom ha8.row (by omega) (n := H.length) (by omega) ha8.cap fun q9 d9 hq9 hl9 hd9 _ => ?_
  rw [eda] at hq9 hl9
  refine SameBytes_c (hO5.fr0 g58).row rfl hq9 hl9 (by omega) fun w9 f9 => ⟨_, rfl, ?_⟩
  rw [decide_eq_true rfl]
  refine cond_t ?_
  have g39 := g38.then f9
  refine slTo (ha3.fr0 g39).row (by omega) (n := H.length) (by omega) ha3.cap fun q10 d10 hq10 hl10 hd10 _ => ?_
  refine slTo (hb3.fr0 g39).row (by omega) (n := H.length) (by omega) hb3.cap fun q11 d11 hq11 hl11 hd11 _ => ?_
  rw [eta] at hq10 hl10
  rw [etb] at hq11 hl11
  refine SameBytes_c hq10 hl10 hq11 hl11 (by omega) fun w12 f12 => ⟨_, rfl, ?_⟩
  rw [decide_eq_true rfl]
  refine cond_t ?_
  have g312 := g39.then f12
  refine slFrom (hb3.fr0 g312).row (by omega) (n := H.length) (by omega) hb3.cap fun q13 d13 hq13 hl13 hd13 _ => ?_
  rw [edb] at hq13 hl13
  have g712 := (f8.then f9).then f12
  refine ⟨_, _, _, (hC7.fr0 g712).get (by kernel_rfl) (j := 5) rfl, ?_⟩
  refine SameBytes_c (hU6.fr0 (f7.then g712)).o4.row rfl hq13 hl13 (by rw [u6]; show T.length < _; omega) fun w14 f14 => ⟨_, rfl, ?_⟩
  rw [u6]
  refine cond_tr (decide_eq_true rfl) ?_
  have g314 := g312.then f14
  refine stampCheck_c (b := H ++ S) (id := other) (ha3.fr0 g314).row (by omega) ha3.cap (by omega) ((h3.fr0 f03).fr0 g314) hl3 hc3 fun w15 f15 => ⟨_, rfl, ?_⟩
  have g315 := g314.then f15
  have hck : ckE (H ++ S) other = if T = S then 0 else 13 := by rw [hT, hH]; exact ck_make hto hfr ht1 (by omega) hot hSl
  refine SameBytes_c (ha3.fr0 g315).row (by omega) (hb3.fr0 g315).row (by omega) (by omega) fun w16 f16 => ⟨_, rfl, ?_⟩
  have hfin := h w16 ((f03.then g315).then f16)
  rw [hck]
  by_cases hTS : T = S
  · rw [if_pos hTS, hTS, decide_eq_true rfl]
    exact hfin
  · rw [if_neg hTS, decide_eq_false (fun hh => hTS (List.append_cancel_left hh).symm)]
    exact hfin
set_option maxHeartbeats 1000000 in
theorem initCheck_c {f : HF} (hf : HF.ok w f) (hb : 128 ≤ f.fi) (hv : f.ve = 1) (ht : typN f.fi ≠ 0) (h : ∀ w', Fr [] w w' → K (.int .i64 14) w') : callF Tryz.prog F_initial_check #[f.a] w K := by
  apply initial_check_call
  unfold initial_check
  refine newC (t := T_head_Head) f.v fun w1 f1 hC1 s1 => ?_
  have hb1 := hf.b1
  refine ⟨_, hC1.get (by kernel_rfl) (j := 0) rfl, ?_⟩
  have ef : (f.fi : Int) = ((UInt8.ofNat f.fi).toNat : Int) := by rw [UInt8.toNat_ofNat']; omega
  rw [ef]
  refine mkL (n := 1) (xs := [UInt8.ofNat f.fi]) rfl rfl (by kernel_rfl) fun p2 w2 f2 hO2 s2 => ?_
  have f02 := f1.then f2
  refine headLong_c (l := 1) (b := [UInt8.ofNat f.fi]) hO2.row rfl ⟨_, rfl, ?_⟩
  have e1 : decide (0 < [UInt8.ofNat f.fi].length ∧ 128 ≤ (fl [UInt8.ofNat f.fi] 0).toNat) = true := by
    refine decide_eq_true ⟨by simp, ?_⟩
    show 128 ≤ (UInt8.ofNat f.fi).toNat
    rw [UInt8.toNat_ofNat']; omega
  rw [e1]
  refine cond_f ⟨_, (hC1.fr0 f2).get (by kernel_rfl) (j := 1) rfl, cond_ne (fun hh => by omega) fun _ => ⟨_, (hC1.fr0 f2).get (by kernel_rfl) (j := 0) rfl, ?_⟩⟩
  refine initType_c hb1 ⟨_, rfl, ?_⟩
  have e2 : (((typN f.fi : Nat) : Int) != 0) = true := by simpa using ht
  rw [e2]
  unfold initial_check_j1
  exact cond_t (h w2 f02)
set_option maxHeartbeats 1000000 in
theorem initNot_c {p : Option Addr} {l c : Nat} {b : List UInt8} (hR : Row w p (b.map vb)) (hl : l = b.length) (hc : l ≤ c) (hlb : b.length ≤ 1000000) (he : (hdP b).e = 0) (hb : 128 ≤ (hdP b).fi) (hv : (hdP b).ve = 1) (ht : typN (hdP b).fi ≠ 0)
    (hk : ∀ w', Fr [] w w' → K (.tuple #[rt0.a, .int .i64 14]) w') : callF Tryz.prog F_initial_Parse #[.slice p l c] w K := by
  apply initial_Parse_call
  unfold initial_Parse
  refine newZ (s := 6) (by kernel_rfl) fun w1 g1 f1 hB1 s1 => ?_
  obtain ⟨k2, hk2⟩ : ∃ k, k = w.heap.size := ⟨_, rfl⟩
  rw [← hk2] at hB1 ⊢
  refine headParse_c (hR.fr0 f1) hl hc hlb fun u q d w2 f2 hU2 hO2 hu => ⟨_, _, _, _, _, _, _, _, _, _, _, _, rfl, ?_⟩
  obtain ⟨u1, u2, u3, u4⟩ := HF.hu_eq hu
  rw [he]
  refine putC (t := T_head_Head) u.v rfl rfl (by kernel_rfl) (by kernel_rfl) fun w3 f3 hC3 => cond_f ?_
  refine ⟨_, _, _, _, _, _, _, _, hC3.ld (by kernel_rfl) (by kernel_rfl), ?_⟩
  refine initCheck_c ((hU2.fr0 f3).ok) (by rw [u1]; exact hb) (by rw [u2]; exact hv) (by rw [u1]; exact ht) fun w4 f4 => ⟨_, rfl, cond_t ?_⟩
  have f04 := ((f1.then f2).then f3).then f4
  refine tellC (((hB1.fr0 f2).fr0 f3).fr0 f4) rt0.v rfl rfl (by kernel_rfl) (by kernel_rfl) (K := fun v w' => K (.tuple #[v, .int .i64 14]) w') fun w5 f5 => ?_
  exact hk w5 (f04.st f5 (by omega))
set_option maxHeartbeats 2000000 in
theorem StampBack_c {p0 p1 p2 p3 : Option Addr} {l0 c0 l1 c1 l2 c2 l3 c3 : Nat} {to fr id tok : List UInt8} {at' : Int} {by' : UInt8} (h0 : Row w p0 (to.map vb)) (hl0 : l0 = to.length) (hc0 : l0 ≤ c0) (h1 : Row w p1 (fr.map vb)) (hl1 : l1 = fr.length) (hc1 : l1 ≤ c1)
    (h2 : Row w p2 (id.map vb)) (hl2 : l2 = id.length) (hc2 : l2 ≤ c2) (h3 : Row w p3 (tok.map vb)) (hl3 : l3 = tok.length) (hc3 : l3 ≤ c3) (h : ∀ w', Fr [] w w' → K (.bool true) w') :
    callF Tryz.prog F_law12_StampBack #[.slice p0 l0 c0, .slice p1 l1 c1, .slice p2 l2 c2, .slice p3 l3 c3, .int .i64 at', .int .u8 (by'.toNat : Int)] w K := by
  apply law12_StampBack_call
  unfold law12_StampBack
  refine alive12_c fun w1 f1 => ⟨_, rfl, cond_f ?_⟩
  refine cond_d (fun _ => h w1 f1) fun _ => cond_d (fun _ => h w1 f1) fun _ => cond_d (fun _ => h w1 f1) fun _ => cond_d (fun _ => h w1 f1) fun _ => cond_d (fun _ => h w1 f1) fun _ => ?_
  have hto : to.length ≤ 20 := by omega
  have hfr : fr.length ≤ 20 := by omega
  have hid : id.length ≤ 20 := by omega
  have ht1 : 1 ≤ tok.length := by omega
  have ht2 : tok.length ≤ 200 := by omega
  obtain ⟨eE, eL⟩ := rt_ok hto hfr hid ht1 (by omega)
  obtain ⟨H, hH⟩ : ∃ H, H = rtH to fr tok := ⟨_, rfl⟩
  have hHl : H.length = 7 + to.length + fr.length + tok.length := by rw [hH]; exact rtH_len _ _ _
  obtain ⟨S, hS⟩ : ∃ S, S = stL id H := ⟨_, rfl⟩
  have hSl : S.length = 16 := by rw [hS]; exact stL_len hid (by omega)
  rw [← hH, ← hS] at eL
  have hal : (H ++ S).length = H.length + 16 := by rw [List.length_append, hSl]
  have hP : stP (H ++ S) = ⟨0, 255, 1, to, fr, tok, S⟩ := by rw [hH]; exact stP_make hto hfr ht1 hSl
  have hCk : ckE (H ++ S) id = 0 := by
    have := ck_make (S := S) hto hfr ht1 (by omega) hid hSl
    rw [← hH, ← hS, if_pos rfl] at this; exact this
  have hD : hdP (H ++ S) = ⟨0, 255, 1, to, fr, tok ++ S⟩ := by
    have : H ++ S = hdL to fr ++ (tok ++ S) := by rw [hH]; simp [rtH]
    rw [this]; exact hdP_make (by omega) (by omega)
  unfold law12_StampBack_j4
  refine stampMake_c (h0.fr0 f1) hl0 hc0 (h1.fr0 f1) hl1 hc1 (h2.fr0 f1) hl2 hc2 (h3.fr0 f1) hl3 hc3 fun qa da w2 f2 ha2 => ⟨_, _, _, _, rfl, ?_⟩
  rw [eL, hal] at ha2
  rw [eE, eL, hal]
  have f02 := f1.then f2
  refine stampParse_c (b := H ++ S) ha2.row (by omega) ha2.cap (by omega) fun u w3 f3 hU3 hu => ⟨_, _, _, _, _, _, _, _, _, _, _, _, _, _, _, rfl, ?_⟩
  obtain ⟨_, _, u3, u4, u5, u6⟩ := RT.su_eq hu
  rw [hP] at u3 u4 u5 u6 ⊢
  refine putC (t := T_stamp_Retry) u.v rfl rfl (by kernel_rfl) (by kernel_rfl) fun w4 f4 hC4 => cond_f (cond_f ?_)
  have g24 := f3.then f4
  have f04 := f02.then g24
  refine ⟨_, _, _, hC4.get0 (by kernel_rfl) (j := 2) rfl, SameBytes_c (hU3.fr0 f4).h.o1.row rfl (h0.fr0 f04) hl0 (by rw [u3]; show to.length < _; omega) fun w5 f5 => ⟨_, rfl, ?_⟩⟩
  rw [u3, decide_eq_true rfl]
  have g45 := f5
  refine cond_f ⟨_, _, _, (hC4.fr0 g45).get0 (by kernel_rfl) (j := 3) rfl, SameBytes_c (hU3.fr0 (f4.then g45)).h.o2.row rfl ((h1.fr0 f04).fr0 g45) hl1 (by rw [u4]; show fr.length < _; omega) fun w6 f6 => ⟨_, rfl, ?_⟩⟩
  rw [u4, decide_eq_true rfl]
  have g46 := g45.then f6
  refine cond_f ⟨_, _, _, (hC4.fr0 g46).get (by kernel_rfl) (j := 4) rfl, SameBytes_c (hU3.fr0 (f4.then g46)).o3.row rfl ((h3.fr0 f04).fr0 g46) hl3 (by rw [u5]; show tok.length < _; omega) fun w7 f7 => ⟨_, rfl, ?_⟩⟩
  rw [u5, decide_eq_true rfl]
  have g47 := g46.then f7
  have g27 := g24.then g47
  have f07 := f02.then g27
  refine cond_f ⟨_, _, _, (hC4.fr0 g47).get (by kernel_rfl) (j := 5) rfl, ?_⟩
  rw [u6]
  show cond (((S.length : Nat) : Int) != 16) _ _
  rw [hSl]
  refine cond_f ?_
  refine stampCheck_c (b := H ++ S) (ha2.fr0 g27).row (by omega) ha2.cap (by omega) (h2.fr0 f07) hl2 hc2 fun w8 f8 => ⟨_, rfl, ?_⟩
  rw [hCk]
  refine cond_f ?_
  unfold law12_StampBack_j3
  have g28 := g27.then f8
  have ha8 := ha2.fr0 g28
  refine initNot_c (b := H ++ S) ha8.row (by omega) ha8.cap (by omega) (by rw [hD]) (by rw [hD]; show 128 ≤ 255; omega) (by rw [hD]) (by rw [hD]; show typN 255 ≠ 0; decide) fun w9 f9 => ⟨_, _, _, _, _, _, _, _, _, _, _, _, _, _, _, rfl, ?_⟩
  refine putC (t := T_initial_Initial) rt0.v rfl rfl (by kernel_rfl) (by kernel_rfl) fun w10 f10 hC10 => cond_f ?_
  have ha10 := (ha8.fr0 f9).fr0 f10
  obtain ⟨a, ha, hca⟩ := ha10.get (k := .i64) (i := 0) (by omega)
  refine ⟨_, ha, _, Ld.cell (by kernel_rfl) hca, ?_⟩
  have e0 : fl (H ++ S) 0 = 255 := by rw [hH]; rfl
  rw [e0]
  have f010 := (f02.then g28).then (f9.then f10)
  refine initType_c (n := 255) (by omega) ⟨_, rfl, cond_f ?_⟩
  unfold law12_StampBack_j2
  refine cond_d (fun _ => h w10 f010) fun hat0 => cond_d (fun _ => h w10 f010) fun hat15 => cond_eq (fun _ => h w10 f010) fun hby => ?_
  unfold law12_StampBack_j1
  obtain ⟨i, hi⟩ : ∃ i : Nat, at' = (i : Int) := Int.eq_ofNat_of_zero_le (by omega)
  subst hi
  have ei : IntKind.i64.wrap (IntKind.i64.wrap (((H.length + 16 : Nat) : Int) - 16) + (i : Int)) = ((H.length + i : Nat) : Int) := by
    rw [wrap64 (n := ((H.length + 16 : Nat) : Int) - 16) (by omega) (by omega), wrap64 (by omega) (by omega)]; omega
  rw [ei]
  obtain ⟨a2, ha2', hca2⟩ := ha10.get (k := .i64) (i := H.length + i) (by omega)
  refine ⟨_, ha2', _, Ld.cell (by kernel_rfl) hca2, ?_⟩
  rw [xor8 (fl (H ++ S) (H.length + i)) by']
  refine ha10.sto (i := H.length + i) (by omega) fun w11 f11 hO11 s11 => ?_
  have f011 : Fr [] w w11 := f010.trans f11 fun z hz => .inr (by have := ha10.2.2 z hz; have := f1.size; omega)
  obtain ⟨y, hy⟩ : ∃ y, y = fl (H ++ S) (H.length + i) ^^^ by' := ⟨_, rfl⟩
  rw [← hy] at hO11
  have hset : (H ++ S).set (H.length + i) y = H ++ S.set i y := by
    rw [List.set_append_right _ _ (by omega)]
    congr 2; omega
  rw [hset] at hO11
  have hsl : (S.set i y).length = 16 := by rw [List.length_set, hSl]
  have hll : (H ++ S.set i y).length = H.length + 16 := by rw [List.length_append, hsl]
  have hne : ¬ S = S.set i y := by
    intro hh
    have h1 := congrArg (fun l => l.getD i 0) hh
    simp only [List.getD_eq_getElem?_getD, List.getElem?_set, if_pos (show i < S.length by omega), if_true, Option.getD_some] at h1
    have h2 : fl (H ++ S) (H.length + i) = S[i]?.getD 0 := by
      show (H ++ S).getD (H.length + i) 0 = _
      rw [List.getD_eq_getElem?_getD, List.getElem?_append_right (by omega)]
      congr 2; omega
    rw [hy, h2] at h1
    have h3 : S[i]?.getD 0 ^^^ (S[i]?.getD 0) = S[i]?.getD 0 ^^^ (S[i]?.getD 0 ^^^ by') := by rw [← h1]
    rw [UInt8.xor_self, ← UInt8.xor_assoc, UInt8.xor_self, UInt8.zero_xor] at h3
    exact hby (by rw [← h3]; rfl)
  refine stampCheck_c (b := H ++ S.set i y) hO11.row (by omega) hO11.cap (by omega) (h2.fr0 f011) hl2 hc2 fun w12 f12 => ⟨_, rfl, ?_⟩
  have hck2 : ckE (H ++ S.set i y) id = 13 := by
    have := ck_make (S := S.set i y) hto hfr ht1 (by omega) hid hsl
    rw [← hH, ← hS, if_neg hne] at this; exact this
  rw [hck2]
  exact h w12 (f011.then f12)
end
end Go.Sh
end
