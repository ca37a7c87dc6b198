/- A part of a proof of a given law of this program: lemmas, printed forms of its functions, contracts. It has no conditions of its own. -/
import Derived.Stop.BytesEq
import Derived.ChangeKeysEq
import Derived.OpenShut
import Derived.Test.YtlphgbgfnjhhcaaGreatMFw2
import Derived.Test.YtlphgbgfnjhhcaaGreatMFw

section
namespace Go.Fw
open Go
def isU8 (P : Program) (e : TypeId) : Bool := match P.underlying e with | some (.int .u8) => true | _ => false
def is64 (P : Program) (e : TypeId) : Bool := match P.underlying e with | some (.int .i64) => true | _ => false
theorem isU8_out {P : Program} {e : TypeId} (h : isU8 P e = true) : P.underlying e = some (.int .u8) := by unfold isU8 at h; split at h <;> first | assumption | cases h
theorem is64_out {P : Program} {e : TypeId} (h : is64 P e = true) : P.underlying e = some (.int .i64) := by unfold is64 at h; split at h <;> first | assumption | cases h
def arr8B (P : Program) (t : TypeId) (n : Nat) : Bool :=
  match P.underlying t with
  | some (.array m e) => m == n && isU8 P e && (match res P (sizeOf e) with | some k => k == 1 | none => false)
  | _ => false
theorem arr8B_out {P : Program} {t : TypeId} {n : Nat} (h : arr8B P t n = true) : ∃ e, P.underlying t = some (.array n e) ∧ P.underlying e = some (.int .u8) ∧ ∀ w, (sizeOf e).run P w = .ok 1 w := by
  unfold arr8B at h
  split at h
  · rename_i m e he
    simp only [Bool.and_eq_true, beq_iff_eq] at h
    obtain ⟨⟨rfl, h2⟩, h3⟩ := h
    refine ⟨e, he, isU8_out h2, fun w => ?_⟩
    split at h3
    · rename_i k hk
      have : k = 1 := by simpa using h3
      subst this
      exact run_of_res hk w
    · cases h3
  · cases h
theorem cell_eq : Extern.Stop.cell = fun x : UInt8 => Value.int .u8 (x.toNat : Int) := rfl
theorem eqIn_bytes {P : Program} {t : TypeId} {n : Nat} (ht : arr8B P t n = true) {xs ys : List UInt8} (hx : xs.length = n) (hy : ys.length = n) (d : Nat) (w : World) :
    (Op.equalIn (d + 2) t (.agg ⟨xs.map fun x => .int .u8 (x.toNat : Int)⟩) (.agg ⟨ys.map fun x => .int .u8 (x.toNat : Int)⟩)).run P w = .ok (decide (xs = ys)) w := by
  obtain ⟨e, h1, h2, h3⟩ := arr8B_out ht
  have := run_equalIn_bytes w d t e n h1 h2 h3 xs ys hx hy
  rw [cell_eq] at this
  rw [this]
  congr 1
  rw [Bool.eq_iff_iff, beq_iff_eq, decide_eq_true_iff]
theorem Ef.eqBytes {P : Program} {t : TypeId} {n : Nat} (ht : arr8B P t n = true) (hg : P.eqGuardType P.depth t = false) {x y : Operand} {xs ys : List UInt8} (hx : xs.length = n) (hy : ys.length = n) {w : World} :
    Ef P (do eqGuard .eql t x y (.agg ⟨xs.map fun x => .int .u8 (x.toNat : Int)⟩) (.agg ⟨ys.map fun x => .int .u8 (x.toNat : Int)⟩); binOp .eql t (.agg ⟨xs.map fun x => .int .u8 (x.toNat : Int)⟩) (.agg ⟨ys.map fun x => .int .u8 (x.toNat : Int)⟩) : Sem Value) w (.bool (decide (xs = ys))) w := by
  show (do eqGuard .eql t x y _ _; binOp .eql t _ _ : Sem Value).run P w = _
  rw [Sem.run_bind, run_eqGuard_agg w .eql t x y _ _ hg]
  show (binOp .eql t _ _).run P w = _
  rw [run_eql_struct, eqIn_bytes ht hx hy 9998]
  rfl
def cfgV (m s n : Int) (key : List UInt8) : List Value := .int .i64 m :: .int .i64 s :: .int .i64 n :: key.map fun x => .int .u8 (x.toNat : Int)
end Go.Fw
end

section
namespace Go.Fw
open Go
def Came2 (P : Program) (w : World) : Nat → TypeId → List Value → Prop
  | 0, _, _ => False
  | n + 1, t, cs =>
    match P.underlying t with
    | some .bool => ∃ b, cs = [.bool b]
    | some (.int k) => ∃ i, cs = [.int k i] ∧ (Lit.int k i).wf = true
    | some .string => ∃ s : ByteArray, cs = [.string s] ∧ s.size ≤ maxLen
    | some (.slice e) => cs = [.slice none 0 0] ∨ ∃ a len cap, cs = [.slice (some a) len cap] ∧ len ≤ cap ∧ cap ≤ maxLen ∧ ∀ i, i < cap → ∃ cs', w.cells? 0 (a.add (i * P.cellsOf e)) (P.cellsOf e) = some cs' ∧ Came2 P w n e cs'
    | some (.struct fs) => cs.length = P.cellsOf t ∧ ∀ (i : Nat) (f : Field), fs[i]? = some f → Came2 P w n f.type ((cs.drop f.offset).take (P.cellsOf f.type))
    | some (.array m e) => cs.length = P.cellsOf t ∧ ∀ i, i < m → Came2 P w n e ((cs.drop (i * P.cellsOf e)).take (P.cellsOf e))
    | _ => True
def IsCame2 (P : Program) (w : World) (t : TypeId) (v : Value) : Prop := ∃ n, Came2 P w n t v.cells.toList
theorem came2 {H : Type} {enc : TypeId × Value → H} {P : Program} {w : World} : ∀ {fuel : Nat} {t : TypeId} {cs : List Value} {x : DataW H × List MemPlace}, DataW.trod enc P w 0 (fun _ => true) true fuel t cs = some x → Came2 P w fuel t cs := by
  intro fuel
  induction fuel with
  | zero => intro t cs x h; simp [DataW.trod] at h
  | succ n ih =>
    intro t cs x h
    unfold Came2
    split
    · rename_i ht; obtain ⟨b, hb, _⟩ := DataW.trod_bool ht h; exact ⟨b, hb⟩
    · rename_i k ht; obtain ⟨i, hi, _, hw⟩ := DataW.trod_int ht h; exact ⟨i, hi, hw⟩
    · rename_i ht; obtain ⟨s, hs, _, hw⟩ := DataW.trod_string ht h; exact ⟨s, hs, hw⟩
    · rename_i e ht
      rcases DataW.trod_slice ht h with ⟨h0, _⟩ | ⟨a, len, cap, elems, rest, m, hm, hcs, hx, hb, hl, hc, hlen, hel, hsp, _⟩
      · exact .inl h0
      · obtain rfl : n = m := by omega
        refine .inr ⟨a, len, cap, hcs, hl, hc, fun i hi => ?_⟩
        have key : ∃ y, (w.cells? 0 (a.add (i * P.cellsOf e)) (P.cellsOf e)).bind (DataW.trod enc P w 0 (fun _ => true) true n e) = some y := by
          by_cases hil : i < len
          · rw [hel i hil]; exact ⟨_, List.getElem?_eq_getElem (by omega)⟩
          · have h2 := hsp rfl
            have h3 := h2.2 (i - len) (by omega)
            rw [show len + (i - len) = i by omega] at h3
            rw [h3]; exact ⟨_, List.getElem?_eq_getElem (by omega)⟩
        obtain ⟨y, hy⟩ := key
        obtain ⟨cs', h1, h2⟩ := Option.bind_eq_some_iff.1 hy
        exact ⟨cs', h1, ih h2⟩
    · rename_i fs ht
      obtain ⟨xs, m, hm, hx, hl, hxl, hf⟩ := DataW.trod_struct ht h
      obtain rfl : n = m := by omega
      refine ⟨hl, fun i f hi => ?_⟩
      have h1 := hf i f hi
      have hlt : i < xs.length := by
        rw [hxl]
        exact (Array.getElem?_eq_some_iff.1 hi).1
      rw [List.getElem?_eq_getElem hlt] at h1
      exact ih h1
    · rename_i m e ht
      obtain ⟨xs, m', hm, hx, hl, hxl, hf⟩ := DataW.trod_array ht h
      obtain rfl : n = m' := by omega
      refine ⟨hl, fun i hi => ?_⟩
      have h1 := hf i hi
      have hlt : i < xs.length := by rw [hxl]; exact hi
      rw [List.getElem?_eq_getElem hlt] at h1
      exact ih h1
    · trivial
theorem isCame2 {H : Type} {enc : TypeId × Value → H} {P : Program} {w : World} {t : TypeId} {v : Value} {d : DataW H} {ps : List MemPlace} (h : DataW.Trod enc P w 0 (fun _ => true) true t v d ps) : IsCame2 P w t v := by
  obtain ⟨n, h⟩ := h
  exact ⟨n, came2 h⟩
theorem came2_int {P : Program} {w : World} {n : Nat} {t : TypeId} {k : IntKind} (ht : P.underlying t = some (.int k)) {cs : List Value} (h : Came2 P w n t cs) : ∃ i, cs = [.int k i] ∧ (Lit.int k i).wf = true := by
  cases n with
  | zero => exact h.elim
  | succ n => unfold Came2 at h; rw [ht] at h; exact h
theorem came2_bytes {P : Program} {w : World} {n m : Nat} {t e : TypeId} (ht : P.underlying t = some (.array m e)) (he : P.underlying e = some (.int .u8)) (h1 : P.cellsOf e = 1) (hs : P.cellsOf t = m) {cs : List Value} (h : Came2 P w n t cs) :
    ∃ xs : List UInt8, xs.length = m ∧ cs = xs.map fun x => .int .u8 (x.toNat : Int) := by
  cases n with
  | zero => exact h.elim
  | succ n =>
    unfold Came2 at h; rw [ht] at h
    obtain ⟨hl, hi⟩ := h
    rw [hs] at hl
    have each : ∀ v ∈ cs, ∃ b : UInt8, v = .int .u8 (b.toNat : Int) := by
      intro v hv
      obtain ⟨i, hlt, rfl⟩ := List.getElem_of_mem hv
      obtain ⟨j, hj, hw⟩ := came2_int he (hi i (by omega))
      rw [h1, Nat.mul_one] at hj
      have e1 : (cs.drop i).take 1 = [cs[i]] := by
        rw [List.drop_eq_getElem_cons hlt]; rfl
      rw [e1] at hj
      injection hj with hj _
      have h4 : 0 ≤ j ∧ j < 256 := by simp [Lit.wf, IntKind.min, IntKind.max, IntKind.bits, IntKind.signed] at hw; omega
      refine ⟨UInt8.ofNat j.toNat, ?_⟩
      rw [hj]
      have : ((UInt8.ofNat j.toNat).toNat : Int) = j := by simp; omega
      rw [this]
    have : ∀ vs : List Value, (∀ v ∈ vs, ∃ b : UInt8, v = .int .u8 (b.toNat : Int)) → ∃ xs : List UInt8, vs = xs.map fun x => .int .u8 (x.toNat : Int) := by
      intro vs
      induction vs with
      | nil => intro _; exact ⟨[], rfl⟩
      | cons v vs ih =>
        intro hv
        obtain ⟨b, rfl⟩ := hv v (by simp)
        obtain ⟨xs, rfl⟩ := ih (fun u hu => hv u (by simp [hu]))
        exact ⟨b :: xs, rfl⟩
    obtain ⟨xs, rfl⟩ := this cs each
    exact ⟨xs, by simpa using hl, rfl⟩
def cfgC (P : Program) (t : TypeId) (n : Nat) : Bool :=
  match P.underlying t with
  | some (.struct fs) => (match fs.toList with
    | [a, b, c, d] => is64 P a.type && is64 P b.type && is64 P c.type && P.cellsOf a.type == 1 && P.cellsOf b.type == 1 && P.cellsOf c.type == 1 && P.cellsOf d.type == n && a.offset == 0 && b.offset == 1 && c.offset == 2 && d.offset == 3 && P.cellsOf t == n + 3 &&
      (match P.underlying d.type with | some (.array m e) => m == n && isU8 P e && P.cellsOf e == 1 | _ => false)
    | _ => false)
  | _ => false
theorem came_cfg {P : Program} {w : World} {t : TypeId} {n : Nat} (ht : cfgC P t n = true) {cs : Array Value} (h : IsCame2 P w t (.agg cs)) :
    ∃ (m s k : Int) (key : List UInt8), cs = ⟨cfgV m s k key⟩ ∧ key.length = n ∧ (Lit.int .i64 m).wf = true ∧ (Lit.int .i64 s).wf = true ∧ (Lit.int .i64 k).wf = true := by
  unfold cfgC at ht
  split at ht
  · rename_i fs hu
    split at ht
    · rename_i a b c d hfs
      simp only [Bool.and_eq_true, beq_iff_eq] at ht
      obtain ⟨⟨⟨⟨⟨⟨⟨⟨⟨⟨⟨⟨ta, tb⟩, tc⟩, sa⟩, sb⟩, sc⟩, sd⟩, oa⟩, ob⟩, oc⟩, od⟩, st⟩, td⟩ := ht
      obtain ⟨f, h⟩ := h
      cases f with
      | zero => exact h.elim
      | succ f =>
        unfold Came2 at h
        rw [hu] at h
        obtain ⟨hl, hf⟩ := h
        have g : ∀ (i : Nat) (x : Field), fs.toList[i]? = some x → Came2 P w f x.type ((cs.toList.drop x.offset).take (P.cellsOf x.type)) := fun i x hx => hf i x (by rw [← hx]; simp)
        rw [hfs] at g
        have g0 := g 0 a rfl; have g1 := g 1 b rfl; have g2 := g 2 c rfl; have g3 := g 3 d rfl
        rw [oa, sa] at g0; rw [ob, sb] at g1; rw [oc, sc] at g2; rw [od, sd] at g3
        obtain ⟨m, e0, w0⟩ := came2_int (is64_out ta) g0
        obtain ⟨s, e1, w1⟩ := came2_int (is64_out tb) g1
        obtain ⟨k, e2, w2⟩ := came2_int (is64_out tc) g2
        split at td
        · rename_i m' e' hd
          simp only [Bool.and_eq_true, beq_iff_eq] at td
          obtain ⟨⟨rfl, t8⟩, c1⟩ := td
          obtain ⟨key, hk, e3⟩ := came2_bytes hd (isU8_out t8) c1 sd g3
          have hl' : cs.toList.length = m' + 3 := by rw [← st]; exact hl
          refine ⟨m, s, k, key, ?_, hk, w0, w1, w2⟩
          apply Array.ext'
          show cs.toList = cfgV m s k key
          obtain ⟨L, hL⟩ : ∃ L, L = cs.toList := ⟨_, rfl⟩
          rw [← hL] at e0 e1 e2 e3 hl' ⊢
          match L, hl' with
          | x0 :: x1 :: x2 :: r, hl' =>
            simp only [List.drop_zero, List.take_succ_cons, List.take_zero, List.drop_succ_cons, List.cons.injEq, and_true] at e0 e1 e2 e3
            rw [List.take_of_length_le (by simp at hl'; omega)] at e3
            rw [e0, e1, e2, e3]; rfl
          | [], hl' => simp at hl'
          | [_], hl' => simp at hl'
          | [_, _], hl' => simp at hl'
        · cases td
    · cases ht
  · cases ht
end Go.Fw
end
