/- A part of a proof of a given law of this program: lemmas, printed forms of its functions, contracts. It has no conditions of its own. -/
import Derived.Test.YtlphgbgfnjhhcaaMFw

section
namespace Go.Fw
open Go
def intB (P : Program) (t : TypeId) : Bool := match P.underlying t with | some (.int _) => true | _ => false
theorem intB_out {P : Program} {t : TypeId} (h : intB P t = true) : ∃ k, P.underlying t = some (.int k) := by
  unfold intB at h
  split at h
  · rename_i k hk; exact ⟨k, hk⟩
  · cases h
/-- So many zeros behind nil. -/
theorem Ef.appendZ {P : Program} {t ti ty : TypeId} (ht : appB P t = true) (hti : intB P ti = true) {w : World} {n : Nat} (h0 : 0 < n) (hn : n ≤ 1073741824) :
    ∃ c' w', Ef P (Builtin.append_ #[t, ti] ty #[.slice none 0 0, .int .i64 (n : Int)]) w (.slice (some ⟨w.heap.size, 0, none⟩) n c') w' ∧ n ≤ c' ∧ Fr [] w w' ∧ (∃ f, Blk w' w.heap.size c' f) ∧ w'.heap.size = w.heap.size + 1 := by
  obtain ⟨e, i, z, hu, hi, hsz, hz, hzc, hby⟩ := appB_out ht
  obtain ⟨k, hk⟩ := intB_out hti
  have hbb : n * i.bytes ≤ 140737488355328 := Nat.le_trans (Nat.mul_le_mul hn hby) (by decide)
  have h48' : ¬ (281474976710656 < Builtin.nextslicecap n 0 * i.bytes) := by have := growslice_fits (need := n) (old := 0) (by omega) hbb; omega
  have hbi : ¬ (281474976710656 < (n : Int) * (i.bytes : Int)) := by
    have : ((n * i.bytes : Nat) : Int) ≤ 140737488355328 := by omega
    rw [Int.natCast_mul] at this; omega
  have hw : IntKind.i64.wrap (n : Int) = (n : Int) := by rw [IntKind.wrap_i64]; omega
  have hn0 : ¬ (n ≤ 0) := by omega
  have hn0' : n ≠ 0 := by omega
  have h63' : ¬ (9223372036854775807 < (n : Int)) := by omega
  have hge := grownCap_ge w n 0 e
  have hneg : ¬ ((n : Int) < 0) := by omega
  have ha : Sem.run P (asIntOf (.int .i64 (n : Int))) w = .ok (.i64, (n : Int)) w := rfl
  refine ⟨grownCap w n 0 e, w.drew.alloc (.cells (Builtin.zeroCells z.cells n ++ Builtin.zeroCells z.cells (grownCap w n 0 e - n)) e), ?_, hge, (Fr.drew w).then (Fr.alloc _ _), ?_, by simp⟩
  · show (Builtin.append_ #[t, ti] ty #[.slice none 0 0, .int .i64 (n : Int)]).run P w = _
    simp [Builtin.append_, run_underlying hu, run_underlying hk, sizeOf, typeInfo, zeroValue, hi, hz, hsz, Builtin.lenOf, hw, hneg, hbi, hn0', h63', h48', Question.forced, Builtin.firstCells, newRow, grownCap, asInt, ha]
  · have := Blk.new w.drew (Builtin.zeroCells z.cells n ++ Builtin.zeroCells z.cells (grownCap w n 0 e - n)) e (fun i => (Builtin.zeroCells z.cells n ++ Builtin.zeroCells z.cells (grownCap w n 0 e - n)).getD i undef) (fun i hi => by rw [Array.getD_eq_getD_getElem?, Array.getElem?_eq_getElem hi]; rfl)
    have hs : (Builtin.zeroCells z.cells n ++ Builtin.zeroCells z.cells (grownCap w n 0 e - n)).size = grownCap w n 0 e := by simp [size_zeroCells, hzc]; omega
    rw [hs] at this
    exact ⟨_, this⟩
/-- A part with a bound of its room. -/
theorem res_bounds3 {P : Program} {isS : Bool} {len cap : Nat} {kh km : IntKind} {hi mx : Int} (h0 : 0 ≤ hi) (h2 : hi ≤ mx) (h3 : mx ≤ cap) :
    res P (Instr.sliceBounds isS len cap none (some (.int kh hi)) (some (.int km mx))) = some (0, hi.toNat, mx.toNat) := by
  show res P ((Instr.sliceBound (.int km mx) cap _).bind fun m => (Instr.sliceBound (.int kh hi) m _).bind fun h => pure (0, h, m)) = _
  rw [res_bind, res_bound (by omega) h3]
  show res P ((Instr.sliceBound (.int kh hi) mx.toNat _).bind fun h => pure (0, h, mx.toNat)) = _
  rw [res_bind, res_bound h0 (by omega)]
  rfl
theorem PuSl3 {P : Program} {t : TypeId} {s : Nat} (ht : sliceB P t s = true) {p : Option Addr} {len cap : Nat} {kh km : IntKind} {hi mx : Int} (h0 : 0 ≤ hi) (h2 : hi ≤ mx) (h3 : mx ≤ cap) :
    Pu P (Instr.sliceAt t (.slice p len cap) none (some (.int kh hi)) (some (.int km mx))) (.slice (partAt p mx.toNat 0 s) hi.toNat mx.toNat) := by
  obtain ⟨e, hu, hs⟩ := sliceB_out ht
  have hb := res_bounds3 (P := P) (isS := true) (len := len) (kh := kh) (km := km) h0 h2 h3
  show res P ((underlying t).bind _) = _
  rw [res_bind, res_underlying hu]
  show res P ((underlying t).bind _) = _
  rw [res_bind, res_underlying hu]
  show res P ((Instr.sliceBounds true len cap none (some (.int kh hi)) (some (.int km mx))).bind _) = _
  rw [res_bind, hb]
  show res P ((sizeOf e).bind _) = _
  rw [res_bind, hs]
  rfl
end Go.Fw
end
