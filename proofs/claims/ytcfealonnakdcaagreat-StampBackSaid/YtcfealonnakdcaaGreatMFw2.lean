/- A part of a proof of a given law of this program: lemmas, printed forms of its functions, contracts. It has no conditions of its own. -/
import Derived.Maps.RangeRun
import Derived.Test.YtcfealonnakdcaaGreatMFw

section
namespace Go.Fw
open Go
def intB (P : Program) (t : TypeId) : Bool := match P.underlying t with | some (.int _) => true | _ => false
theorem intB_out {P : Program} {t : TypeId} (h : intB P t = true) : ∃ k, P.underlying t = some (.int k) := by
  unfold intB at h
  split at h
  · rename_i k hk; exact ⟨k, hk⟩
  · cases h
theorem Ef.appendZ {P : Program} {t ti ty : TypeId} (ht : appB P t = true) (hti : intB P ti = true) {w : World} {n : Nat} (h0 : 0 < n) (hn : n ≤ 1073741824) :
    ∃ c' w', Ef P (Builtin.append_ #[t, ti] ty #[.slice none 0 0, .int .i64 (n : Int)]) w (.slice (some ⟨w.heap.size, 0, none⟩) n c') w' ∧ n ≤ c' ∧ Fr [] w w' ∧ (∃ f, Blk w' w.heap.size c' f) ∧ w'.heap.size = w.heap.size + 1 := by
  obtain ⟨e, i, z, hu, hi, hsz, hz, hzc, hby⟩ := appB_out ht
  obtain ⟨k, hk⟩ := intB_out hti
  have hbb : n * i.bytes ≤ 140737488355328 := Nat.le_trans (Nat.mul_le_mul hn hby) (by decide)
  have h48' : ¬ (281474976710656 < Builtin.nextslicecap n 0 * i.bytes) := by have := growslice_fits (need := n) (old := 0) (by omega) hbb; omega
  have hbi : ¬ (281474976710656 < (n : Int) * (i.bytes : Int)) := by
    have : ((n * i.bytes : Nat) : Int) ≤ 140737488355328 := by omega
    rw [Int.natCast_mul] at this; omega
  have hw : IntKind.i64.wrap (n : Int) = (n : Int) := by rw [IntKind.wrap_i64]; omega
  have hn0 : ¬ (n ≤ 0) := by omega
  have hn0' : n ≠ 0 := by omega
  have h63' : ¬ (9223372036854775807 < (n : Int)) := by omega
  have hge := grownCap_ge w n 0 e
  have hneg : ¬ ((n : Int) < 0) := by omega
  have ha : Sem.run P (asIntOf (.int .i64 (n : Int))) w = .ok (.i64, (n : Int)) w := rfl
  refine ⟨grownCap w n 0 e, w.drew.alloc (.cells (Builtin.zeroCells z.cells n ++ Builtin.zeroCells z.cells (grownCap w n 0 e - n)) e), ?_, hge, (Fr.drew w).then (Fr.alloc _ _), ?_, by simp⟩
  · show (Builtin.append_ #[t, ti] ty #[.slice none 0 0, .int .i64 (n : Int)]).run P w = _
    simp [Builtin.append_, run_underlying hu, run_underlying hk, sizeOf, typeInfo, zeroValue, hi, hz, hsz, Builtin.lenOf, hw, hneg, hbi, hn0', h63', h48', Question.forced, Builtin.firstCells, newRow, grownCap, asInt, ha]
  · have := Blk.new w.drew (Builtin.zeroCells z.cells n ++ Builtin.zeroCells z.cells (grownCap w n 0 e - n)) e (fun i => (Builtin.zeroCells z.cells n ++ Builtin.zeroCells z.cells (grownCap w n 0 e - n)).getD i undef) (fun i hi => by rw [Array.getD_eq_getD_getElem?, Array.getElem?_eq_getElem hi]; rfl)
    have hs : (Builtin.zeroCells z.cells n ++ Builtin.zeroCells z.cells (grownCap w n 0 e - n)).size = grownCap w n 0 e := by simp [size_zeroCells, hzc]; omega
    rw [hs] at this
    exact ⟨_, this⟩
theorem res_bounds3 {P : Program} {isS : Bool} {len cap : Nat} {kh km : IntKind} {hi mx : Int} (h0 : 0 ≤ hi) (h2 : hi ≤ mx) (h3 : mx ≤ cap) :
    res P (Instr.sliceBounds isS len cap none (some (.int kh hi)) (some (.int km mx))) = some (0, hi.toNat, mx.toNat) := by
  show res P ((Instr.sliceBound (.int km mx) cap _).bind fun m => (Instr.sliceBound (.int kh hi) m _).bind fun h => pure (0, h, m)) = _
  rw [res_bind, res_bound (by omega) h3]
  show res P ((Instr.sliceBound (.int kh hi) mx.toNat _).bind fun h => pure (0, h, mx.toNat)) = _
  rw [res_bind, res_bound h0 (by omega)]
  rfl
theorem PuSl3 {P : Program} {t : TypeId} {s : Nat} (ht : sliceB P t s = true) {p : Option Addr} {len cap : Nat} {kh km : IntKind} {hi mx : Int} (h0 : 0 ≤ hi) (h2 : hi ≤ mx) (h3 : mx ≤ cap) :
    Pu P (Instr.sliceAt t (.slice p len cap) none (some (.int kh hi)) (some (.int km mx))) (.slice (partAt p mx.toNat 0 s) hi.toNat mx.toNat) := by
  obtain ⟨e, hu, hs⟩ := sliceB_out ht
  have hb := res_bounds3 (P := P) (isS := true) (len := len) (kh := kh) (km := km) h0 h2 h3
  show res P ((underlying t).bind _) = _
  rw [res_bind, res_underlying hu]
  show res P ((underlying t).bind _) = _
  rw [res_bind, res_underlying hu]
  show res P ((Instr.sliceBounds true len cap none (some (.int kh hi)) (some (.int km mx))).bind _) = _
  rw [res_bind, hb]
  show res P ((sizeOf e).bind _) = _
  rw [res_bind, hs]
  rfl
end Go.Fw
end

section
namespace Go.Fw
open Go
open Go.ChangeMaps (setBlock)
def MapAt (w : World) (b : Nat) (es : Array MapEntry) (clock : Nat) : Prop := w.heap[b]? = some (.map es clock)
def ItAt (w : World) (r b since : Nat) (seen : Array Nat) (last : Nat) : Prop := w.heap[r]? = some (.mapIter (some b) since seen last)
theorem heap_lt {w : World} {b : Nat} {o : Obj} (h : w.heap[b]? = some o) : b < w.heap.size := by
  rcases Nat.lt_or_ge b w.heap.size with h' | h'
  · exact h'
  · rw [Array.getElem?_eq_none h'] at h; cases h
theorem MapAt.fr {l : List Nat} {w w' : World} {b : Nat} {es : Array MapEntry} {c : Nat} (h : MapAt w b es c) (hf : Fr l w w') (hn : b ∉ l) : MapAt w' b es c := (hf.block b (heap_lt h) hn).trans h
theorem ItAt.fr {l : List Nat} {w w' : World} {r b s : Nat} {seen : Array Nat} {c : Nat} (h : ItAt w r b s seen c) (hf : Fr l w w') (hn : r ∉ l) : ItAt w' r b s seen c := (hf.block r (heap_lt h) hn).trans h
theorem Ef.makeMap {P : Program} {t : TypeId} {w : World} : ∃ w', Ef P (Instr.makeMap t none) w (.map (some w.heap.size)) w' ∧ Fr [] w w' ∧ MapAt w' w.heap.size #[] 0 ∧ w'.heap.size = w.heap.size + 1 := by
  refine ⟨w.alloc (.map #[] 0), rfl, Fr.alloc _ _, ?_, by simp⟩
  show (w.heap.push _)[w.heap.size]? = _
  simp
def mapB (P : Program) (t : TypeId) : Bool := match P.underlying t with | some (.map _ _) => true | _ => false
theorem Ef.range {P : Program} {t : TypeId} (ht : mapB P t = true) {w : World} {b : Nat} {es : Array MapEntry} {c : Nat} (hM : MapAt w b es c) :
    ∃ w', Ef P (Instr.range t (.map (some b))) w (.pointer (some ⟨w.heap.size, 0, none⟩)) w' ∧ Fr [] w w' ∧ ItAt w' w.heap.size b c #[] c ∧ w'.heap.size = w.heap.size + 1 := by
  unfold mapB at ht
  split at ht
  · rename_i k e hu
    have hM' : w.heap[b]? = some (.map es c) := hM
    refine ⟨w.alloc (.mapIter (some b) c #[] c), ?_, Fr.alloc _ _, ?_, by simp⟩
    · show (Instr.range t (.map (some b))).run P w = _
      simp [Instr.range, run_underlying hu, getObj, Sem.run, hM', newObj]
    · show (w.heap.push _)[w.heap.size]? = _
      simp
  · cases ht
theorem Ef.next {P : Program} {ty : TypeId} {w : World} {r b since c : Nat} {seen : Array Nat} {es : Array MapEntry} (hI : ItAt w r b since seen c) (hM : MapAt w b es c) (hold : ∀ x ∈ es.toList, x.born < since) (hsc : since ≤ c) :
    ((∀ x ∈ es.toList, seen.contains x.born = true) ∧ Ef P (Instr.next (.pointer (some ⟨r, 0, none⟩)) false ty) w (.tuple ⟨.bool false :: []⟩) w) ∨
    ∃ e ∈ es.toList, seen.contains e.born = false ∧ ∃ w', Ef P (Instr.next (.pointer (some ⟨r, 0, none⟩)) false ty) w (.tuple ⟨.bool true :: [e.key, e.val]⟩) w' ∧ Fr [r] w w' ∧ ItAt w' r b since (seen.push e.born) c ∧ w'.heap.size = w.heap.size := by
  have hlt := heap_lt hI
  rcases run_next_at (P := P) w ty r b since c seen es c hI hM hold hsc with ⟨h0, h1⟩ | ⟨e, he, w1, hw1, h1⟩
  · left
    refine ⟨fun x hx => ?_, h1⟩
    cases hc : seen.contains x.born with
    | true => rfl
    | false =>
      exfalso
      have : x ∈ (leftOf es seen).toList := by unfold leftOf; simp at hx ⊢; exact ⟨hx, by simpa using hc⟩
      have := List.length_pos_of_mem this
      simp at this
      omega
  · right
    obtain ⟨h2, h3⟩ := mem_left he
    refine ⟨e, h2, h3, _, h1, ?_, ?_, ?_⟩
    · rcases hw1 with rfl | rfl
      · exact Fr.setHeap (b := r) rfl
      · exact (Fr.drew w).mono (by simp) |>.trans (Fr.setHeap (w := w.drew) (b := r) rfl) (fun _ h => .inl h)
    · rcases hw1 with rfl | rfl
      · show (w1.heap.setIfInBounds r _)[r]? = _; simp [hlt]
      · show (w.drew.heap.setIfInBounds r _)[r]? = _
        have : w.drew.heap = w.heap := rfl
        rw [this]; simp [hlt]
    · rcases hw1 with rfl | rfl
      · simp [setBlock]
      · show (w.drew.heap.setIfInBounds r _).size = _
        have : w.drew.heap = w.heap := rfl
        rw [this]; simp
theorem Ef.entry {P : Program} {w : World} {r b since c : Nat} {seen : Array Nat} {es : Array MapEntry} {e : MapEntry} (hI : ItAt w r b since (seen.push e.born) c) (hM : MapAt w b es c) (he : e ∈ es.toList) (hn : (es.toList.map (·.born)).Nodup) :
    Ef P (Instr.entry (.pointer (some ⟨r, 0, none⟩))) w (.tuple #[e.key, e.val]) w := run_entry_at w r b since seen es c e hI hM he hn
end Go.Fw
end
