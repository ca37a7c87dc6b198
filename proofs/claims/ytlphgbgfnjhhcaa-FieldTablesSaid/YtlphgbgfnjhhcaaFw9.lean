/- A part of a proof of a given law of this program: lemmas, printed forms of its functions, contracts. It has no conditions of its own. -/
import Derived.Test.YtlphgbgfnjhhcaaFw8
import Derived.Laws.MakeOwn
namespace Go.Fw
open Go

/-! ### Slices that the call owns: append, make -/
/-- A slice of one-cell elements whose row may be written: it shows vs; behind them it has room up to c. -/
def OwnS (w : World) (p : Option Addr) (l c : Nat) (vs : List Value) : Prop :=
  l = vs.length ∧ ((p = none ∧ l = 0 ∧ c = 0) ∨ ∃ g o N f, p = some ⟨g, o, none⟩ ∧ Blk w g N f ∧ o + c ≤ N ∧ l ≤ c ∧ ∀ i v, vs[i]? = some v → f (o + i) = v)
/-- The blocks of a slice's row. -/
def blks (p : Option Addr) : List Nat := match p with | some a => [a.block] | none => []
theorem OwnS.row {w : World} {p : Option Addr} {l c : Nat} {vs : List Value} (h : OwnS w p l c vs) : Row w p vs := by
  obtain ⟨hl, ⟨_, h0, _⟩ | ⟨g, o, N, f, rfl, hB, hc, hlc, hf⟩⟩ := h
  · exact .inl (List.length_eq_zero_iff.1 (by omega))
  · refine hB.row o vs fun j v hj => ⟨?_, hf j v hj⟩
    have := (List.getElem?_eq_some_iff.1 hj).1
    omega
theorem OwnS.fr {l0 : List Nat} {w w' : World} {p : Option Addr} {l c : Nat} {vs : List Value} (h : OwnS w p l c vs) (hf : Fr l0 w w') (hn : ∀ k ∈ blks p, k ∉ l0) : OwnS w' p l c vs := by
  obtain ⟨hl, h | ⟨g, o, N, f, rfl, hB, rest⟩⟩ := h
  · exact ⟨hl, .inl h⟩
  · exact ⟨hl, .inr ⟨g, o, N, f, rfl, hB.fr hf (hn g (by simp [blks])), rest⟩⟩
theorem OwnS.fr0 {w w' : World} {p : Option Addr} {l c : Nat} {vs : List Value} (h : OwnS w p l c vs) (hf : Fr [] w w') : OwnS w' p l c vs := h.fr hf (by simp)
theorem OwnS.nil (w : World) : OwnS w none 0 0 [] := ⟨rfl, .inl ⟨rfl, rfl, rfl⟩⟩
theorem OwnS.lt {w : World} {p : Option Addr} {l c : Nat} {vs : List Value} (h : OwnS w p l c vs) : ∀ k ∈ blks p, k < w.heap.size := by
  obtain ⟨hl, ⟨rfl, _⟩ | ⟨g, o, N, f, rfl, hB, rest⟩⟩ := h
  · simp [blks]
  · simp [blks]; exact hB.lt
def appB (P : Program) (t : TypeId) : Bool :=
  match P.underlying t with
  | some (.slice e) => (match P.info? e with | some i => i.size == 1 && (match i.zero with | some z => z.cells.size == 1 | none => false) && Nat.ble i.bytes 4096 | none => false)
  | _ => false
theorem appB_out {P : Program} {t : TypeId} (h : appB P t = true) : ∃ e i z, P.underlying t = some (.slice e) ∧ P.info? e = some i ∧ i.size = 1 ∧ i.zero = some z ∧ z.cells.size = 1 ∧ i.bytes ≤ 4096 := by
  unfold appB at h
  split at h
  · rename_i e he
    split at h
    · rename_i i hi
      split at h
      · rename_i z hz
        simp only [Bool.and_eq_true, beq_iff_eq] at h
        exact ⟨e, i, z, he, hi, h.1.1, hz, h.1.2, Nat.le_of_ble_eq_true h.2⟩
      · simp at h
    · cases h
  · cases h
theorem run_firstCells {P : Program} {w : World} {p : Option Addr} {vs : List Value} (h : Row w p vs) {n len cap : Nat} (hl : vs.length = n) : (Builtin.firstCells 1 n (.slice p len cap)).run P w = .ok vs.toArray w := by
  rcases h with rfl | ⟨b, o, rfl, h⟩
  · cases p with
    | none => simp [Builtin.firstCells]
    | some a => exact run_firstCells_some w 1 n a len cap [] (by simp at hl ⊢; omega) (by simp)
  · exact run_firstCells_some w 1 n ⟨b, o, none⟩ len cap vs (by omega) fun j v hj => by rw [add_mk]; exact h j v hj
theorem getD_append_left {xs ys : List Value} {i : Nat} (h : i < xs.length) : (xs ++ ys)[i]? = xs[i]? := List.getElem?_append_left h

theorem Ef.append {P : Program} {t ty : TypeId} (ht : appB P t = true) {w : World} {p : Option Addr} {l c : Nat} {vs : List Value} (hO : OwnS w p l c vs) {q : Option Addr} {m d : Nat} {us : List Value} (hR : Row w q us) (hm : m = us.length)
    (h1 : ∀ u ∈ us, u.oneCell' = true) (hlen : l + m ≤ 1073741824) :
    ∃ p' c' w', Ef P (Builtin.append_ #[t, t] ty #[.slice p l c, .slice q m d]) w (.slice p' (l + m) c') w' ∧ OwnS w' p' (l + m) c' (vs ++ us) ∧ Fr (blks p) w w' ∧
      ((p' = p ∧ c' = c ∧ w'.heap.size = w.heap.size) ∨ (p' = some ⟨w.heap.size, 0, none⟩ ∧ Fr [] w w' ∧ w'.heap.size = w.heap.size + 1)) := by
  obtain ⟨e, i, z, hu, hi, hsz, hz, hzc, hby⟩ := appB_out ht
  have hvl := hO.1
  by_cases hn : l + m ≤ c
  · -- in place
    obtain ⟨hl, ⟨rfl, h0, hc0⟩ | ⟨g, o, N, f, rfl, hB, hoc, hlc, hf⟩⟩ := hO
    · -- nil and nothing new
      have hm0 : m = 0 := by omega
      have hus : us = [] := List.length_eq_zero_iff.1 (by omega)
      have hvs : vs = [] := List.length_eq_zero_iff.1 (by omega)
      subst hm0; subst hus; subst hvs; subst h0; subst hc0
      have hfc := run_firstCells (P := P) (n := 0) (len := 0) (cap := d) hR rfl
      refine ⟨none, 0, w, ?_, ⟨rfl, .inl ⟨rfl, rfl, rfl⟩⟩, Fr.refl _ _, .inl ⟨rfl, rfl, rfl⟩⟩
      show (Builtin.append_ #[t, t] ty #[.slice none 0 0, .slice q 0 d]).run P w = _
      simp [Builtin.append_, run_underlying hu, sizeOf, typeInfo, hi, hsz, Builtin.lenOf, hfc]
    · have hfc := run_firstCells (P := P) (n := m) (len := m) (cap := d) hR hm.symm
      obtain ⟨w', hst, hfr, hB', hsize⟩ := run_storeCells (P := P) us 0 g N (o + l) f w hB (by omega) h1
      refine ⟨some ⟨g, o, none⟩, c, w', ?_, ⟨by simp; omega, .inr ⟨g, o, N, _, rfl, hB', hoc, hn, ?_⟩⟩, hfr, .inl ⟨rfl, rfl, hsize⟩⟩
      · have e1 : (⟨g, o, none⟩ : Addr).add l = ⟨g, o + l, none⟩ := add_mk _ _ _
        show (Builtin.append_ #[t, t] ty #[.slice (some ⟨g, o, none⟩) l c, .slice q m d]).run P w = _
        simp [Builtin.append_, run_underlying hu, sizeOf, typeInfo, hi, hsz, Builtin.lenOf, hn, hfc, e1, hst]
      · intro j v hj
        unfold updN
        by_cases hjl : j < vs.length
        · rw [dif_neg (by omega)]
          rw [List.getElem?_append_left hjl] at hj
          exact hf j v hj
        · rw [List.getElem?_append_right (by omega)] at hj
          have hlt := (List.getElem?_eq_some_iff.1 hj).1
          rw [dif_pos (by omega)]
          have e2 : o + j - (o + l + 0) = j - vs.length := by omega
          rw [List.getElem?_eq_some_iff] at hj
          obtain ⟨_, hj⟩ := hj
          simp only [e2]
          exact hj
  · -- a new row
    have h63' : ¬ (9223372036854775807 < ((l : Int) + (m : Int))) := by omega
    have hbb : (l + m) * i.bytes ≤ 140737488355328 := Nat.le_trans (Nat.mul_le_mul hlen hby) (by decide)
    have h48' : ¬ (281474976710656 < Builtin.nextslicecap (l + m) c * i.bytes) := by have := growslice_fits (need := l + m) (old := c) (by omega) hbb; omega
    have hf := run_firstCells (P := P) (w := w.drew) (n := m) (len := m) (cap := d) (hR.fr0 (Fr.drew w)) hm.symm
    have hfo := run_firstCells (P := P) (w := w.drew) (n := l) (len := l) (cap := c) (hO.row.fr0 (Fr.drew w)) hvl.symm
    have hge := grownCap_ge w (l + m) c e
    refine ⟨some ⟨w.heap.size, 0, none⟩, grownCap w (l + m) c e, w.drew.alloc (.cells (vs.toArray ++ us.toArray ++ Builtin.zeroCells z.cells (grownCap w (l + m) c e - (l + m))) e), ?_, ?_, ?_, .inr ⟨rfl, ?_, by simp⟩⟩
    · show (Builtin.append_ #[t, t] ty #[.slice p l c, .slice q m d]).run P w = _
      simp [Builtin.append_, run_underlying hu, sizeOf, typeInfo, zeroValue, hi, hz, hsz, Builtin.lenOf, hn, h63', h48', Question.forced, hf, hfo, newRow, grownCap]
      congr 2
      apply Array.ext'
      simp [List.append_assoc]
    · refine ⟨by simp; omega, .inr ⟨w.heap.size, 0, (vs.toArray ++ us.toArray ++ Builtin.zeroCells z.cells (grownCap w (l + m) c e - (l + m))).size, fun i => (vs.toArray ++ us.toArray ++ Builtin.zeroCells z.cells (grownCap w (l + m) c e - (l + m))).getD i undef, rfl, ?_, ?_, hge, ?_⟩⟩
      · have := Blk.new w.drew (vs.toArray ++ us.toArray ++ Builtin.zeroCells z.cells (grownCap w (l + m) c e - (l + m))) e (fun i => (vs.toArray ++ us.toArray ++ Builtin.zeroCells z.cells (grownCap w (l + m) c e - (l + m))).getD i undef) (fun i hi => by rw [Array.getD_eq_getD_getElem?, Array.getElem?_eq_getElem hi]; rfl)
        exact this
      · simp [size_zeroCells, hzc]; omega
      · intro j v hj
        have hlt := (List.getElem?_eq_some_iff.1 hj).1
        rw [Nat.zero_add]
        show (vs.toArray ++ us.toArray ++ Builtin.zeroCells z.cells (grownCap w (l + m) c e - (l + m))).getD j undef = v
        rw [Array.getD_eq_getD_getElem?, Array.getElem?_append_left (by simpa using hlt)]
        have e3 : (vs.toArray ++ us.toArray)[j]? = some v := by rw [← hj]; simp
        rw [e3]; rfl
    · exact ((Fr.drew w).then (Fr.alloc _ _)).mono (by simp)
    · exact (Fr.drew w).then (Fr.alloc _ _)

/-- The zero of a slice's elements (of one cell). -/
def zeroE (P : Program) (t : TypeId) : Option Value :=
  match P.underlying t with
  | some (.slice e) => (match P.info? e with | some i => i.zero | none => none)
  | _ => none
theorem Ef.make {P : Program} {t : TypeId} (ht : appB P t = true) {z : Value} (hz0 : zeroE P t = some z) (hzc0 : z.cells = #[z]) {w : World} {k k' : IntKind} {l c : Nat} (hlc : l ≤ c) (hc : c ≤ 1073741824) :
    ∃ w', Ef P (Instr.makeSlice t (.int k l) (.int k' c)) w (.slice (some ⟨w.heap.size, 0, none⟩) l c) w' ∧ Fr [] w w' ∧ Blk w' w.heap.size c (fun _ => z) ∧ w'.heap.size = w.heap.size + 1 := by
  obtain ⟨e, i, z', hu, hi, hsz, hz, hzc, hby⟩ := appB_out ht
  have hzz : z' = z := by
    unfold zeroE at hz0
    rw [hu] at hz0
    simp only [hi, hz] at hz0
    exact Option.some.inj hz0
  subst hzz
  have hb : ((i.bytes : Int) * (c : Int)) ≤ 281474976710656 := by
    have h : i.bytes * c ≤ 4096 * 1073741824 := Nat.mul_le_mul hby hc
    have h2 : ((i.bytes * c : Nat) : Int) ≤ 281474976710656 := by omega
    rwa [Int.natCast_mul] at h2
  have hr := run_make (P := P) w t e i z' hu hi hz k k' l c (by omega) (by omega) hb (by omega)
  refine ⟨_, hr, Fr.alloc _ _, ?_, by simp⟩
  have hs : (madeCells z'.cells ((c : Int).toNat * i.size)).size = c := by rw [size_madeCells, hsz]; simp
  have := Blk.new w (madeCells z'.cells ((c : Int).toNat * i.size)) e (fun _ => z') (fun j hj => by
    rw [hs] at hj
    simp [madeCells, hzc0, hsz, hj, Nat.mod_one])
  rwa [hs] at this

/-- A new block, as a row. -/
theorem Blk.rowL {w : World} {b : Nat} {cs : List Value} (h : Blk w b cs.toArray.size (fun i => cs.toArray.getD i undef)) : Row w (some ⟨b, 0, none⟩) cs := by
  refine h.row 0 cs fun j v hj => ?_
  have hlt := (List.getElem?_eq_some_iff.1 hj).1
  refine ⟨by simpa using hlt, ?_⟩
  show cs.toArray.getD (0 + j) undef = v
  rw [Nat.zero_add, Array.getD_eq_getD_getElem?, List.getElem?_toArray, hj]
  rfl
theorem Blk.own {w : World} {b : Nat} {cs : List Value} (h : Blk w b cs.toArray.size (fun i => cs.toArray.getD i undef)) : OwnS w (some ⟨b, 0, none⟩) cs.length cs.length cs := by
  refine ⟨rfl, .inr ⟨b, 0, _, _, rfl, h, by simp, Nat.le_refl _, fun j v hj => ?_⟩⟩
  show cs.toArray.getD (0 + j) undef = v
  rw [Nat.zero_add, Array.getD_eq_getD_getElem?, List.getElem?_toArray, hj]
  rfl

def makB (P : Program) (t : TypeId) (s : Nat) : Bool :=
  match P.underlying t with
  | some (.slice e) => (match P.info? e with | some i => i.size == s && i.zero.isSome && Nat.ble i.bytes 4096 | none => false)
  | _ => false
/-- A new row whatever its elements' size; what its cells hold is not told. -/
theorem Ef.makeN {P : Program} {t : TypeId} {s : Nat} (ht : makB P t s = true) {w : World} {k k' : IntKind} {l c : Nat} (hlc : l ≤ c) (hc : c ≤ 1073741824) :
    ∃ f w', Ef P (Instr.makeSlice t (.int k l) (.int k' c)) w (.slice (some ⟨w.heap.size, 0, none⟩) l c) w' ∧ Fr [] w w' ∧ Blk w' w.heap.size (c * s) f ∧ w'.heap.size = w.heap.size + 1 := by
  unfold makB at ht
  split at ht
  · rename_i e hu
    split at ht
    · rename_i i hi
      simp only [Bool.and_eq_true, beq_iff_eq] at ht
      obtain ⟨⟨hsz, hz⟩, hby⟩ := ht
      have hby := Nat.le_of_ble_eq_true hby
      obtain ⟨z', hz⟩ := Option.isSome_iff_exists.1 hz
      have hb : ((i.bytes : Int) * (c : Int)) ≤ 281474976710656 := by
        have h : i.bytes * c ≤ 4096 * 1073741824 := Nat.mul_le_mul hby hc
        have h2 : ((i.bytes * c : Nat) : Int) ≤ 281474976710656 := by omega
        rwa [Int.natCast_mul] at h2
      have hr := run_make (P := P) w t e i z' hu hi hz k k' l c (by omega) (by omega) hb (by omega)
      refine ⟨fun j => (madeCells z'.cells ((c : Int).toNat * i.size)).getD j undef, _, hr, Fr.alloc _ _, ?_, by simp⟩
      have hs : (madeCells z'.cells ((c : Int).toNat * i.size)).size = c * s := by rw [size_madeCells, hsz]; simp
      have := Blk.new w (madeCells z'.cells ((c : Int).toNat * i.size)) e (fun j => (madeCells z'.cells ((c : Int).toNat * i.size)).getD j undef) (fun j hj => by rw [Array.getD_eq_getD_getElem?, Array.getElem?_eq_getElem hj]; rfl)
      rwa [hs] at this
    · cases ht
  · cases ht
end Go.Fw
