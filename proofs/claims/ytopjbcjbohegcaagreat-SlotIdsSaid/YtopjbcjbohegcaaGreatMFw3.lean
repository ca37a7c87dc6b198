/- A part of a proof of a given law of this program: lemmas, printed forms of its functions, contracts. It has no conditions of its own. -/
import Derived.Stop.BytesEq
import Derived.ChangeKeysEq
import Derived.OpenShut
import Derived.Test.YtopjbcjbohegcaaGreatMFw2
import Derived.Test.YtopjbcjbohegcaaGreatMFw

section
namespace Go.Fw
open Go
def isU8 (P : Program) (e : TypeId) : Bool := match P.underlying e with | some (.int .u8) => true | _ => false
def is64 (P : Program) (e : TypeId) : Bool := match P.underlying e with | some (.int .i64) => true | _ => false
theorem isU8_out {P : Program} {e : TypeId} (h : isU8 P e = true) : P.underlying e = some (.int .u8) := by unfold isU8 at h; split at h <;> first | assumption | cases h
theorem is64_out {P : Program} {e : TypeId} (h : is64 P e = true) : P.underlying e = some (.int .i64) := by unfold is64 at h; split at h <;> first | assumption | cases h
def arr8B (P : Program) (t : TypeId) (n : Nat) : Bool :=
  match P.underlying t with
  | some (.array m e) => m == n && isU8 P e && (match res P (sizeOf e) with | some k => k == 1 | none => false)
  | _ => false
theorem arr8B_out {P : Program} {t : TypeId} {n : Nat} (h : arr8B P t n = true) : ∃ e, P.underlying t = some (.array n e) ∧ P.underlying e = some (.int .u8) ∧ ∀ w, (sizeOf e).run P w = .ok 1 w := by
  unfold arr8B at h
  split at h
  · rename_i m e he
    simp only [Bool.and_eq_true, beq_iff_eq] at h
    obtain ⟨⟨rfl, h2⟩, h3⟩ := h
    refine ⟨e, he, isU8_out h2, fun w => ?_⟩
    split at h3
    · rename_i k hk
      have : k = 1 := by simpa using h3
      subst this
      exact run_of_res hk w
    · cases h3
  · cases h
theorem cell_eq : Extern.Stop.cell = fun x : UInt8 => Value.int .u8 (x.toNat : Int) := rfl
theorem eqIn_bytes {P : Program} {t : TypeId} {n : Nat} (ht : arr8B P t n = true) {xs ys : List UInt8} (hx : xs.length = n) (hy : ys.length = n) (d : Nat) (w : World) :
    (Op.equalIn (d + 2) t (.agg ⟨xs.map fun x => .int .u8 (x.toNat : Int)⟩) (.agg ⟨ys.map fun x => .int .u8 (x.toNat : Int)⟩)).run P w = .ok (decide (xs = ys)) w := by
  obtain ⟨e, h1, h2, h3⟩ := arr8B_out ht
  have := run_equalIn_bytes w d t e n h1 h2 h3 xs ys hx hy
  rw [cell_eq] at this
  rw [this]
  congr 1
  rw [Bool.eq_iff_iff, beq_iff_eq, decide_eq_true_iff]
theorem Ef.eqBytes {P : Program} {t : TypeId} {n : Nat} (ht : arr8B P t n = true) (hg : P.eqGuardType P.depth t = false) {x y : Operand} {xs ys : List UInt8} (hx : xs.length = n) (hy : ys.length = n) {w : World} :
    Ef P (do eqGuard .eql t x y (.agg ⟨xs.map fun x => .int .u8 (x.toNat : Int)⟩) (.agg ⟨ys.map fun x => .int .u8 (x.toNat : Int)⟩); binOp .eql t (.agg ⟨xs.map fun x => .int .u8 (x.toNat : Int)⟩) (.agg ⟨ys.map fun x => .int .u8 (x.toNat : Int)⟩) : Sem Value) w (.bool (decide (xs = ys))) w := by
  show (do eqGuard .eql t x y _ _; binOp .eql t _ _ : Sem Value).run P w = _
  rw [Sem.run_bind, run_eqGuard_agg w .eql t x y _ _ hg]
  show (binOp .eql t _ _).run P w = _
  rw [run_eql_struct, eqIn_bytes ht hx hy 9998]
  rfl
def cfgB (P : Program) (t : TypeId) (n : Nat) : Bool :=
  (match P.underlying t with
  | some (.struct fs) => (match fs.toList with
    | [a, b, c, d] => a.name != "_" && b.name != "_" && c.name != "_" && d.name != "_" && is64 P a.type && is64 P b.type && is64 P c.type && arr8B P d.type n && (match res P (sizeOf d.type) with | some k => k == n | none => false) && a.offset == 0 && b.offset == 1 && c.offset == 2 && d.offset == 3
    | _ => false)
  | _ => false) && !P.stoodInHeld t && !P.eqGuardType P.depth t
def cfgV (m s n : Int) (key : List UInt8) : List Value := .int .i64 m :: .int .i64 s :: .int .i64 n :: key.map fun x => .int .u8 (x.toNat : Int)
theorem part_cell {P : Program} {e : TypeId} {k : IntKind} (he : P.underlying e = some (.int k)) {cs : List Value} {o : Nat} {v : Value} (hv : cs[o]? = some v) (w : World) : (part e ⟨cs⟩ o).run P w = .ok v w :=
  run_part_plain w (by unfold Program.plainKey; rw [he]) (by simpa using hv)
theorem eqCfg {P : Program} {t : TypeId} {n : Nat} (ht : cfgB P t n = true) {m1 s1 n1 m2 s2 n2 : Int} {k1 k2 : List UInt8} (h1 : k1.length = n) (h2 : k2.length = n) (w : World) :
    (Op.equalIn 10000 t (.agg ⟨cfgV m1 s1 n1 k1⟩) (.agg ⟨cfgV m2 s2 n2 k2⟩)).run P w = .ok (decide (m1 = m2 ∧ s1 = s2 ∧ n1 = n2 ∧ k1 = k2)) w := by
  unfold cfgB at ht
  simp only [Bool.and_eq_true, Bool.not_eq_true'] at ht
  obtain ⟨⟨ht, hst⟩, _⟩ := ht
  split at ht
  · rename_i fs hu
    split at ht
    · rename_i a b c d hfs
      simp only [Bool.and_eq_true, beq_iff_eq, bne_iff_ne] at ht
      obtain ⟨⟨⟨⟨⟨⟨⟨⟨⟨⟨⟨⟨na, nb⟩, nc⟩, nd⟩, ta⟩, tb⟩, tc⟩, td⟩, sz⟩, oa⟩, ob⟩, oc⟩, od⟩ := ht
      have hf : P.fieldsOf t = fs := by simp [Program.fieldsOf, hu]
      rw [run_equalIn_struct w 9999 t _ _ (by rw [hf]; exact hu) hst, hf, hfs]
      have ua := is64_out ta; have ub := is64_out tb; have uc := is64_out tc
      have step : ∀ (f : Field) (fl : List Field) (o : Nat) (x y : Int), f.name ≠ "_" → f.offset = o → P.underlying f.type = some (.int .i64) → (cfgV m1 s1 n1 k1)[o]? = some (.int .i64 x) → (cfgV m2 s2 n2 k2)[o]? = some (.int .i64 y) →
          (Op.eqFields 9999 ⟨cfgV m1 s1 n1 k1⟩ ⟨cfgV m2 s2 n2 k2⟩ (f :: fl)).run P w = if x = y then (Op.eqFields 9999 ⟨cfgV m1 s1 n1 k1⟩ ⟨cfgV m2 s2 n2 k2⟩ fl).run P w else .ok false w := by
        intro f fl o x y hn ho hu hx hy
        rw [Op.eqFields, if_pos hn]
        rw [Sem.run_bind, ho, part_cell hu hx]
        show (do let b ← part f.type ⟨cfgV m2 s2 n2 k2⟩ o; let r ← Op.equalIn 9999 f.type (.int .i64 x) b; if (!r) = true then pure false else Op.eqFields 9999 ⟨cfgV m1 s1 n1 k1⟩ ⟨cfgV m2 s2 n2 k2⟩ fl : Sem Bool).run P w = _
        rw [Sem.run_bind, part_cell hu hy]
        show (do let r ← Op.equalIn 9999 f.type (.int .i64 x) (.int .i64 y); if (!r) = true then pure false else Op.eqFields 9999 ⟨cfgV m1 s1 n1 k1⟩ ⟨cfgV m2 s2 n2 k2⟩ fl : Sem Bool).run P w = _
        rw [Sem.run_bind, run_equalIn_int w 9998 f.type .i64 .i64 x y hu]
        show (if (!(x == y)) = true then pure false else Op.eqFields 9999 ⟨cfgV m1 s1 n1 k1⟩ ⟨cfgV m2 s2 n2 k2⟩ fl : Sem Bool).run P w = _
        by_cases h : x = y
        · subst h; simp
        · rw [if_neg h]
          have : (x == y) = false := by simpa using h
          rw [this]; rfl
      rw [step a _ 0 m1 m2 na oa ua rfl rfl, step b _ 1 s1 s2 nb ob ub rfl rfl, step c _ 2 n1 n2 nc oc uc rfl rfl]
      have last : (Op.eqFields 9999 ⟨cfgV m1 s1 n1 k1⟩ ⟨cfgV m2 s2 n2 k2⟩ [d]).run P w = .ok (decide (k1 = k2)) w := by
        have pd : ∀ (m s n' : Int) (k : List UInt8), k.length = n → (part d.type ⟨cfgV m s n' k⟩ 3).run P w = .ok (.agg ⟨k.map fun x => .int .u8 (x.toNat : Int)⟩) w := by
          intro m s n' k hk
          obtain ⟨e, g1, _, _⟩ := arr8B_out td
          have hagg : (isAgg d.type).run P w = .ok true w := by
            unfold isAgg; rw [Sem.run_bind, run_of_res (res_underlying g1)]; rfl
          have hsz : (sizeOf d.type).run P w = .ok n w := by
            split at sz
            · rename_i j hj; have : j = n := by simpa using sz
              subst this; exact run_of_res hj w
            · cases sz
          unfold part
          rw [Sem.run_bind, hagg]
          show (do pure (Value.agg (Array.extract ⟨cfgV m s n' k⟩ 3 (3 + (← sizeOf d.type)))) : Sem Value).run P w = _
          rw [Sem.run_bind, hsz]
          show Result.ok (Value.agg _) w = _
          congr 2
          apply Array.ext'
          simp only [cfgV, Array.toList_extract, List.extract_eq_take_drop, List.drop_succ_cons, List.drop_zero, Nat.add_sub_cancel_left]
          rw [List.take_of_length_le (by rw [List.length_map]; omega)]
        rw [Op.eqFields, if_pos nd, Sem.run_bind, od, pd _ _ _ _ h1]
        show (do let b ← part d.type ⟨cfgV m2 s2 n2 k2⟩ 3; let r ← Op.equalIn 9999 d.type _ b; if (!r) = true then pure false else Op.eqFields 9999 ⟨cfgV m1 s1 n1 k1⟩ ⟨cfgV m2 s2 n2 k2⟩ [] : Sem Bool).run P w = _
        rw [Sem.run_bind, pd _ _ _ _ h2]
        show (do let r ← Op.equalIn 9999 d.type _ _; if (!r) = true then pure false else Op.eqFields 9999 ⟨cfgV m1 s1 n1 k1⟩ ⟨cfgV m2 s2 n2 k2⟩ [] : Sem Bool).run P w = _
        rw [Sem.run_bind, eqIn_bytes td h1 h2 9997]
        show (if (!(decide (k1 = k2))) = true then pure false else Op.eqFields 9999 ⟨cfgV m1 s1 n1 k1⟩ ⟨cfgV m2 s2 n2 k2⟩ [] : Sem Bool).run P w = _
        by_cases h : k1 = k2
        · rw [decide_eq_true h]; rfl
        · rw [decide_eq_false h]; rfl
      rw [last]
      by_cases e1 : m1 = m2 <;> by_cases e2 : s1 = s2 <;> by_cases e3 : n1 = n2 <;> simp [e1, e2, e3]
    · cases ht
  · cases ht
theorem Ef.eqCfg {P : Program} {t : TypeId} {n : Nat} (ht : cfgB P t n = true) {x y : Operand} {m1 s1 n1 m2 s2 n2 : Int} {k1 k2 : List UInt8} (h1 : k1.length = n) (h2 : k2.length = n) {w : World} :
    Ef P (do eqGuard .eql t x y (.agg ⟨cfgV m1 s1 n1 k1⟩) (.agg ⟨cfgV m2 s2 n2 k2⟩); binOp .eql t (.agg ⟨cfgV m1 s1 n1 k1⟩) (.agg ⟨cfgV m2 s2 n2 k2⟩) : Sem Value) w (.bool (decide (m1 = m2 ∧ s1 = s2 ∧ n1 = n2 ∧ k1 = k2))) w := by
  have hg : P.eqGuardType P.depth t = false := by
    unfold cfgB at ht
    simp only [Bool.and_eq_true, Bool.not_eq_true'] at ht
    exact ht.2
  show (do eqGuard .eql t x y _ _; binOp .eql t _ _ : Sem Value).run P w = _
  rw [Sem.run_bind, run_eqGuard_agg w .eql t x y _ _ hg]
  show (binOp .eql t _ _).run P w = _
  rw [run_eql_struct, Go.Fw.eqCfg ht h1 h2]
  rfl
theorem Ef.neCfg {P : Program} {t : TypeId} {n : Nat} (ht : cfgB P t n = true) {x y : Operand} {m1 s1 n1 m2 s2 n2 : Int} {k1 k2 : List UInt8} (h1 : k1.length = n) (h2 : k2.length = n) {w : World} :
    Ef P (do eqGuard .neq t x y (.agg ⟨cfgV m1 s1 n1 k1⟩) (.agg ⟨cfgV m2 s2 n2 k2⟩); binOp .neq t (.agg ⟨cfgV m1 s1 n1 k1⟩) (.agg ⟨cfgV m2 s2 n2 k2⟩) : Sem Value) w (.bool (!decide (m1 = m2 ∧ s1 = s2 ∧ n1 = n2 ∧ k1 = k2))) w := by
  have hg : P.eqGuardType P.depth t = false := by
    unfold cfgB at ht
    simp only [Bool.and_eq_true, Bool.not_eq_true'] at ht
    exact ht.2
  show (do eqGuard .neq t x y _ _; binOp .neq t _ _ : Sem Value).run P w = _
  rw [Sem.run_bind, run_eqGuard_agg w .neq t x y _ _ hg]
  show (binOp .neq t _ _).run P w = _
  rw [run_neq_struct, Go.Fw.eqCfg ht h1 h2]
  rfl
end Go.Fw
end

section
namespace Go.Fw
open Go
def Came2 (P : Program) (w : World) : Nat → TypeId → List Value → Prop
  | 0, _, _ => False
  | n + 1, t, cs =>
    match P.underlying t with
    | some .bool => ∃ b, cs = [.bool b]
    | some (.int k) => ∃ i, cs = [.int k i] ∧ (Lit.int k i).wf = true
    | some .string => ∃ s : ByteArray, cs = [.string s] ∧ s.size ≤ maxLen
    | some (.slice e) => cs = [.slice none 0 0] ∨ ∃ a len cap, cs = [.slice (some a) len cap] ∧ len ≤ cap ∧ cap ≤ maxLen ∧ ∀ i, i < cap → ∃ cs', w.cells? 0 (a.add (i * P.cellsOf e)) (P.cellsOf e) = some cs' ∧ Came2 P w n e cs'
    | some (.struct fs) => cs.length = P.cellsOf t ∧ ∀ (i : Nat) (f : Field), fs[i]? = some f → Came2 P w n f.type ((cs.drop f.offset).take (P.cellsOf f.type))
    | some (.array m e) => cs.length = P.cellsOf t ∧ ∀ i, i < m → Came2 P w n e ((cs.drop (i * P.cellsOf e)).take (P.cellsOf e))
    | _ => True
def IsCame2 (P : Program) (w : World) (t : TypeId) (v : Value) : Prop := ∃ n, Came2 P w n t v.cells.toList
theorem came2 {H : Type} {enc : TypeId × Value → H} {P : Program} {w : World} : ∀ {fuel : Nat} {t : TypeId} {cs : List Value} {x : DataW H × List MemPlace}, DataW.trod enc P w 0 (fun _ => true) true fuel t cs = some x → Came2 P w fuel t cs := by
  intro fuel
  induction fuel with
  | zero => intro t cs x h; simp [DataW.trod] at h
  | succ n ih =>
    intro t cs x h
    unfold Came2
    split
    · rename_i ht; obtain ⟨b, hb, _⟩ := DataW.trod_bool ht h; exact ⟨b, hb⟩
    · rename_i k ht; obtain ⟨i, hi, _, hw⟩ := DataW.trod_int ht h; exact ⟨i, hi, hw⟩
    · rename_i ht; obtain ⟨s, hs, _, hw⟩ := DataW.trod_string ht h; exact ⟨s, hs, hw⟩
    · rename_i e ht
      rcases DataW.trod_slice ht h with ⟨h0, _⟩ | ⟨a, len, cap, elems, rest, m, hm, hcs, hx, hb, hl, hc, hlen, hel, hsp, _⟩
      · exact .inl h0
      · obtain rfl : n = m := by omega
        refine .inr ⟨a, len, cap, hcs, hl, hc, fun i hi => ?_⟩
        have key : ∃ y, (w.cells? 0 (a.add (i * P.cellsOf e)) (P.cellsOf e)).bind (DataW.trod enc P w 0 (fun _ => true) true n e) = some y := by
          by_cases hil : i < len
          · rw [hel i hil]; exact ⟨_, List.getElem?_eq_getElem (by omega)⟩
          · have h2 := hsp rfl
            have h3 := h2.2 (i - len) (by omega)
            rw [show len + (i - len) = i by omega] at h3
            rw [h3]; exact ⟨_, List.getElem?_eq_getElem (by omega)⟩
        obtain ⟨y, hy⟩ := key
        obtain ⟨cs', h1, h2⟩ := Option.bind_eq_some_iff.1 hy
        exact ⟨cs', h1, ih h2⟩
    · rename_i fs ht
      obtain ⟨xs, m, hm, hx, hl, hxl, hf⟩ := DataW.trod_struct ht h
      obtain rfl : n = m := by omega
      refine ⟨hl, fun i f hi => ?_⟩
      have h1 := hf i f hi
      have hlt : i < xs.length := by
        rw [hxl]
        exact (Array.getElem?_eq_some_iff.1 hi).1
      rw [List.getElem?_eq_getElem hlt] at h1
      exact ih h1
    · rename_i m e ht
      obtain ⟨xs, m', hm, hx, hl, hxl, hf⟩ := DataW.trod_array ht h
      obtain rfl : n = m' := by omega
      refine ⟨hl, fun i hi => ?_⟩
      have h1 := hf i hi
      have hlt : i < xs.length := by rw [hxl]; exact hi
      rw [List.getElem?_eq_getElem hlt] at h1
      exact ih h1
    · trivial
theorem isCame2 {H : Type} {enc : TypeId × Value → H} {P : Program} {w : World} {t : TypeId} {v : Value} {d : DataW H} {ps : List MemPlace} (h : DataW.Trod enc P w 0 (fun _ => true) true t v d ps) : IsCame2 P w t v := by
  obtain ⟨n, h⟩ := h
  exact ⟨n, came2 h⟩
theorem came2_int {P : Program} {w : World} {n : Nat} {t : TypeId} {k : IntKind} (ht : P.underlying t = some (.int k)) {cs : List Value} (h : Came2 P w n t cs) : ∃ i, cs = [.int k i] ∧ (Lit.int k i).wf = true := by
  cases n with
  | zero => exact h.elim
  | succ n => unfold Came2 at h; rw [ht] at h; exact h
theorem came2_bytes {P : Program} {w : World} {n m : Nat} {t e : TypeId} (ht : P.underlying t = some (.array m e)) (he : P.underlying e = some (.int .u8)) (h1 : P.cellsOf e = 1) (hs : P.cellsOf t = m) {cs : List Value} (h : Came2 P w n t cs) :
    ∃ xs : List UInt8, xs.length = m ∧ cs = xs.map fun x => .int .u8 (x.toNat : Int) := by
  cases n with
  | zero => exact h.elim
  | succ n =>
    unfold Came2 at h; rw [ht] at h
    obtain ⟨hl, hi⟩ := h
    rw [hs] at hl
    have each : ∀ v ∈ cs, ∃ b : UInt8, v = .int .u8 (b.toNat : Int) := by
      intro v hv
      obtain ⟨i, hlt, rfl⟩ := List.getElem_of_mem hv
      obtain ⟨j, hj, hw⟩ := came2_int he (hi i (by omega))
      rw [h1, Nat.mul_one] at hj
      have e1 : (cs.drop i).take 1 = [cs[i]] := by
        rw [List.drop_eq_getElem_cons hlt]; rfl
      rw [e1] at hj
      injection hj with hj _
      have h4 : 0 ≤ j ∧ j < 256 := by simp [Lit.wf, IntKind.min, IntKind.max, IntKind.bits, IntKind.signed] at hw; omega
      refine ⟨UInt8.ofNat j.toNat, ?_⟩
      rw [hj]
      have : ((UInt8.ofNat j.toNat).toNat : Int) = j := by simp; omega
      rw [this]
    have : ∀ vs : List Value, (∀ v ∈ vs, ∃ b : UInt8, v = .int .u8 (b.toNat : Int)) → ∃ xs : List UInt8, vs = xs.map fun x => .int .u8 (x.toNat : Int) := by
      intro vs
      induction vs with
      | nil => intro _; exact ⟨[], rfl⟩
      | cons v vs ih =>
        intro hv
        obtain ⟨b, rfl⟩ := hv v (by simp)
        obtain ⟨xs, rfl⟩ := ih (fun u hu => hv u (by simp [hu]))
        exact ⟨b :: xs, rfl⟩
    obtain ⟨xs, rfl⟩ := this cs each
    exact ⟨xs, by simpa using hl, rfl⟩
end Go.Fw
end

section
namespace Go.Fw
open Go
theorem Fr.st {a b c : World} {k : Nat} (h : Fr [] a b) (f : Fr [k] b c) (hk : a.heap.size ≤ k) : Fr [] a c := h.trans f (fun z hz => .inr (by simp at hz; omega))
def LpAt (w : World) (l : Nat) (r : Loop) : Prop := w.heap[l]? = some (.loop r)
def DfAt (w : World) (d : Nat) : Prop := w.heap[d]? = some (.deferred (some []))
theorem LpAt.fr {L : List Nat} {w w' : World} {l : Nat} {r : Loop} (h : LpAt w l r) (hf : Fr L w w') (hn : l ∉ L) : LpAt w' l r := (hf.block l (heap_lt h) hn).trans h
theorem LpAt.fr0 {w w' : World} {l : Nat} {r : Loop} (h : LpAt w l r) (hf : Fr [] w w') : LpAt w' l r := h.fr hf (by simp)
theorem DfAt.fr {L : List Nat} {w w' : World} {d : Nat} (h : DfAt w d) (hf : Fr L w w') (hn : d ∉ L) : DfAt w' d := (hf.block d (heap_lt h) hn).trans h
theorem DfAt.fr0 {w w' : World} {d : Nat} (h : DfAt w d) (hf : Fr [] w w') : DfAt w' d := h.fr hf (by simp)
def EndR (P : Program) (l : Nat) (j : Option Code) (b : Bool) (w : World) (K : Value → World → Prop) : Prop := ∃ w', (Instr.endRound l j).run P w = .ok (.bool b) w' ∧ K (.bool b) w'
def BegR (P : Program) (l : Nat) (w : World) (K : World → Prop) : Prop := ∃ w', (Instr.beginRound l).run P w = .ok () w' ∧ K w'
def roundK (P : Program) (l : Nat) (K : Value → World → Prop) : KS
  | .normal, _, w => EndR P l none true w K
  | .ret, _, w => EndR P l (some .ret) false w K
  | _, _, _ => False
def begK (P : Program) (l : Nat) (nt : Nat) (tt : Nat → List (Nat × TypeId)) (body : Code) (K : Value → World → Prop) : KS
  | .normal, s, w => BegR P l w fun w₂ => sw P (some l) nt tt body 0 (roundK P l K) s w₂
  | _, _, _ => False
theorem round_of_sw {P : Program} {l : Nat} {f : FuncId} {tmps : List Value} {nt : Nat} {assign body : Code} {w : World} {K : Value → World → Prop} (tt1 tt2 : Nat → List (Nat × TypeId)) (hn : tmps.length = nt)
    (h : sw P (some l) nt tt1 assign 0 (begK P l nt tt2 body K) ⟨regs tmps, []⟩ w) : RoundIn (fen none) 0 P l f ⟨tmps⟩ assign body w fun e w' => ∃ v, e = .returned v ∧ K v w' := by
  subst hn
  have hrep : Rep tmps.length { tmps := (⟨tmps⟩ : Array Value), defers := [] } ⟨regs tmps, []⟩ := ⟨rfl, fun t => by simp [regs, Array.getD_eq_getD_getElem?, List.getD_eq_getElem?_getD], rfl⟩
  refine roundIn_of_wpIn (F := fen none) (n := 0) (l := l) trivial ?_
  refine wpIn_mono (sw_sound (ro := some l) assign 0 _ _ _ w hrep h) ?_
  intro e a w1 hp
  cases e with
  | normal =>
    obtain ⟨s, hr, hb⟩ := hp
    obtain ⟨w2, hbr, hb⟩ := hb
    refine ⟨w2, hbr, wpIn_mono (sw_sound (ro := some l) body 0 _ _ _ w2 hr hb) ?_⟩
    intro e2 a2 w3 hp2
    cases e2 with
    | normal => obtain ⟨s, _, w4, h4, hk⟩ := hp2; exact ⟨_, w4, h4, _, rfl, hk⟩
    | ret => obtain ⟨s, _, w4, h4, hk⟩ := hp2; exact ⟨_, w4, h4, _, rfl, hk⟩
    | exit i => obtain ⟨s, _, hk⟩ := hp2; exact hk.elim
    | goto i => obtain ⟨s, _, hk⟩ := hp2; exact hk.elim
    | panic c => exact hp2.elim
    | outgrown => exact hp2.elim
  | ret => obtain ⟨s, _, hk⟩ := hp; exact hk.elim
  | exit i => obtain ⟨s, _, hk⟩ := hp; exact hk.elim
  | goto i => obtain ⟨s, _, hk⟩ := hp; exact hk.elim
  | panic c => exact hp.elim
  | outgrown => exact hp.elim
theorem run_getLoop {P : Program} {w : World} {l : Nat} {r : Loop} (h : LpAt w l r) : (Instr.getLoop l).run P w = .ok r w := by
  unfold LpAt at h
  show ((getObj l >>= _ : Sem Loop)).run P w = _
  rw [Sem.run_bind]
  have : (getObj l).run P w = .ok (.loop r) w := by simp [getObj, Sem.run, h]
  rw [this]; rfl
def setO (w : World) (l : Nat) (o : Obj) : World := { w with heap := w.heap.setIfInBounds l o }
theorem run_setLoop {P : Program} {w : World} {l : Nat} {r : Loop} (h : LpAt w l r) (o : Obj) : (setObj l o).run P w = .ok () (setO w l o) := by
  unfold LpAt at h
  show (match w.heap[l]? with | some (.cells ..) => _ | some _ => _ | none => _ : Result Unit) = _
  rw [h]; rfl
theorem setO_fr (w : World) (l : Nat) (o : Obj) : Fr [l] w (setO w l o) := Fr.setHeap rfl
theorem setO_lp {w : World} {l : Nat} {r : Loop} (h : LpAt w l r) (r' : Loop) : LpAt (setO w l (.loop r')) l r' := by
  have := heap_lt h
  unfold LpAt setO
  simp [this]
theorem setO_size (w : World) (l : Nat) (o : Obj) : (setO w l o).heap.size = w.heap.size := by simp [setO]
theorem BegR.of {P : Program} {w : World} {l : Nat} {r : Loop} (h : LpAt w l r) (hs : r.state = .ready) {K : World → Prop} (hk : ∀ w', Fr [l] w w' → LpAt w' l { r with state := .busy } → w'.heap.size = w.heap.size → K w') : BegR P l w K := by
  refine ⟨setO w l (.loop { r with state := .busy }), ?_, hk _ (setO_fr _ _ _) (setO_lp h _) (setO_size _ _ _)⟩
  show ((Instr.getLoop l >>= _ : Sem Unit)).run P w = _
  rw [Sem.run_bind, run_getLoop h]
  show ((setObj l _ >>= _ : Sem Unit)).run P w = _
  rw [Sem.run_bind, run_setLoop h]
  show ((match r.state with | .ready => pure () | .done => _ | .busy => _ | .exhausted => _ : Sem Unit)).run P _ = _
  rw [hs]; rfl
theorem EndR.of {P : Program} {w : World} {l : Nat} {r : Loop} (h : LpAt w l r) (j : Option Code) {b : Bool} (hb : b = j.isNone) {K : Value → World → Prop} (hk : ∀ w', Fr [l] w w' → LpAt w' l { r with state := if j.isNone then .ready else .done, pending := j } → w'.heap.size = w.heap.size → K (.bool b) w') : EndR P l j b w K := by
  subst hb
  refine ⟨setO w l (.loop { r with state := if j.isNone then .ready else .done, pending := j }), ?_, hk _ (setO_fr _ _ _) (setO_lp h _) (setO_size _ _ _)⟩
  show ((Instr.getLoop l >>= _ : Sem Value)).run P w = _
  rw [Sem.run_bind, run_getLoop h]
  show ((setObj l _ >>= _ : Sem Value)).run P w = _
  rw [Sem.run_bind, run_setLoop h]; rfl
theorem Tk.of {P : Program} {w : World} {d : Nat} (h : DfAt w d) : ∃ w', Tk P d w w' ∧ Fr [d] w w' ∧ w'.heap.size = w.heap.size := by
  refine ⟨setO w d (.deferred none), ?_, setO_fr _ _ _, setO_size _ _ _⟩
  unfold DfAt at h
  show ((getObj d >>= _ : Sem (List Deferred))).run P w = _
  rw [Sem.run_bind]
  have e1 : (getObj d).run P w = .ok (.deferred (some [])) w := by simp [getObj, Sem.run, h]
  rw [e1]
  show ((setObj d _ >>= _ : Sem (List Deferred))).run P w = _
  rw [Sem.run_bind]
  have e2 : (setObj d (.deferred none)).run P w = .ok () (setO w d (.deferred none)) := by
    show (match w.heap[d]? with | some (.cells ..) => _ | some _ => _ | none => _ : Result Unit) = _
    rw [h]; rfl
  rw [e2]; rfl
theorem yield_c {P : Program} {w : World} {l : Nat} {r : Loop} (h : LpAt w l r) {args : List Value} (ha : args.length = r.params.size) {tmps : Array Value}
    (ht : (r.params.zip ⟨args⟩).foldl (fun tmps (t, a) => tmps.setIfInBounds t a) r.tmps = tmps) {K : Value → World → Prop}
    (hr : RoundIn (fen none) 0 P l r.fn tmps r.assign r.body w fun e w' => ∃ v, e = .returned v ∧ K v w') : callV P (.func (.yield l) #[] #[]) args w K := by
  refine callV_in ?_
  show yieldK P l ⟨[] ++ args⟩ w K
  refine ⟨r.fn, tmps, r.assign, r.body, w, ?_, hr⟩
  show ((Instr.getLoop l >>= _ : Sem Next)).run P w = _
  rw [Sem.run_bind, run_getLoop h]
  show ((if (⟨args⟩ : Array Value).size ≠ r.params.size then stuck _ >>= _ else _ : Sem Next)).run P w = _
  rw [if_neg (by simpa using ha)]
  show Result.ok (Next.round l r.fn ((r.params.zip ⟨args⟩).foldl (fun tmps (t, a) => tmps.setIfInBounds t a) r.tmps) r.assign r.body) w = _
  rw [ht]
theorem yield_r {P : Program} {w : World} {l df : Nat} {fn : FuncId} {tmps0 : Array Value} {ps : Array Tmp} {assign body : Code} (h : LpAt w l (rec0 fn tmps0 ps assign body df)) {args : List Value} {tmps : Array Value} {K : Value → World → Prop} (ha : args.length = ps.size)
    (ht : (ps.zip ⟨args⟩).foldl (fun tmps (t, a) => tmps.setIfInBounds t a) tmps0 = tmps)
    (hr : RoundIn (fen none) 0 P l fn tmps assign body w fun e w' => ∃ v, e = .returned v ∧ K v w') : callV P (.func (.yield l) #[] #[]) args w K := yield_c h ha ht hr
theorem RangeF.of {P : Program} {gf : FuncId} {cap : List Value} {tmps : Array Value} {rf : Array Tmp × Code × Code} {w : World} {Kn Kr : Nat → World → Prop} (he : ∀ args w, (callFunc gf args).run P w = .ok (.enter gf args) w)
    (h : ∀ fn w2, Fr [] w w2 → w2.heap.size = w.heap.size + 2 → DfAt w2 w.heap.size → LpAt w2 (w.heap.size + 1) (rec0 fn tmps rf.1 rf.2.1 rf.2.2 w.heap.size) →
      callF P gf ⟨.func (.yield (w.heap.size + 1)) #[] #[] :: cap⟩ w2 fun _ w3 => ∃ r, LpAt w3 (w.heap.size + 1) r ∧ r.state ≠ .busy ∧
        ∀ w4, Fr [w.heap.size + 1] w3 w4 → w4.heap.size = w3.heap.size → (match r.pending with | none => Kn w.heap.size w4 | some .ret => Kr w.heap.size w4 | _ => False)) :
    RangeF P (.func (.func gf) #[] ⟨cap⟩) tmps rf w Kn Kr := by
  refine ⟨gf, #[], ⟨cap⟩, rfl, he, fun fn => ?_⟩
  have f1 := Fr.alloc w (.deferred (some []))
  have f2 := Fr.alloc (w.alloc (.deferred (some []))) (.loop (rec0 fn tmps rf.1 rf.2.1 rf.2.2 w.heap.size))
  have s1 : (w.alloc (.deferred (some []))).heap.size = w.heap.size + 1 := by simp
  have hD : DfAt (w.alloc (.deferred (some []))) w.heap.size := by show (w.heap.push _)[w.heap.size]? = _; simp
  have hL : LpAt ((w.alloc (.deferred (some []))).alloc (.loop (rec0 fn tmps rf.1 rf.2.1 rf.2.2 w.heap.size))) (w.heap.size + 1) (rec0 fn tmps rf.1 rf.2.1 rf.2.2 w.heap.size) := by
    show ((w.alloc (.deferred (some []))).heap.push _)[w.heap.size + 1]? = _
    rw [Array.getElem?_push, if_pos s1.symm]
  have h1 := h fn _ (f1.then f2) (by simp) (hD.fr0 f2) hL
  refine callK_of_callF (he _ _) (callF_mono (fun v w3 hw => ?_) h1)
  obtain ⟨r, hr, hb, hk⟩ := hw
  refine ⟨r.pending, setO w3 (w.heap.size + 1) (.loop { r with state := .exhausted }), ?_, ?_⟩
  · show ((Instr.getLoop (w.heap.size + 1) >>= _ : Sem (Option Code))).run P w3 = _
    rw [Sem.run_bind, run_getLoop hr]
    have hb' : (r.state == .busy) = false := by cases hst : r.state <;> first | rfl | exact absurd hst hb
    show ((if (r.state == .busy) = true then runtimePanic _ >>= _ else _ : Sem (Option Code))).run P w3 = _
    rw [hb']
    show ((setObj (w.heap.size + 1) _ >>= _ : Sem (Option Code))).run P w3 = _
    rw [Sem.run_bind, run_setLoop hr]; rfl
  · exact hk (setO w3 (w.heap.size + 1) (.loop { r with state := .exhausted })) (setO_fr _ _ _) (setO_size _ _ _)
end Go.Fw
end

section
namespace Go.Fw
open Go
def OwnN (s : Nat) (w : World) (p : Option Addr) (l c : Nat) (vs : List Value) : Prop :=
  vs.length = l * s ∧ ((p = none ∧ l = 0 ∧ c = 0) ∨ ∃ g o N f, p = some ⟨g, o, none⟩ ∧ Blk w g N f ∧ o + c * s ≤ N ∧ l ≤ c ∧ ∀ i v, vs[i]? = some v → f (o + i) = v)
section
variable {s : Nat} {w : World} {p : Option Addr} {l c : Nat} {vs : List Value}
theorem OwnN.row (h : OwnN s w p l c vs) : Row w p vs := by
  obtain ⟨hl, ⟨_, h0, _⟩ | ⟨g, o, N, f, rfl, hB, hc, hlc, hf⟩⟩ := h
  · exact .inl (List.length_eq_zero_iff.1 (by rw [hl, h0, Nat.zero_mul]))
  · refine hB.row o vs fun j v hj => ⟨?_, hf j v hj⟩
    have := (List.getElem?_eq_some_iff.1 hj).1
    have := Nat.mul_le_mul_right s hlc
    omega
theorem OwnN.fr {l0 : List Nat} {w' : World} (h : OwnN s w p l c vs) (hf : Fr l0 w w') (hn : ∀ k ∈ blks p, k ∉ l0) : OwnN s w' p l c vs := by
  obtain ⟨hl, h | ⟨g, o, N, f, rfl, hB, rest⟩⟩ := h
  · exact ⟨hl, .inl h⟩
  · exact ⟨hl, .inr ⟨g, o, N, f, rfl, hB.fr hf (hn g (by simp [blks])), rest⟩⟩
theorem OwnN.fr0 {w' : World} (h : OwnN s w p l c vs) (hf : Fr [] w w') : OwnN s w' p l c vs := h.fr hf (by simp)
theorem OwnN.nil (s : Nat) (w : World) : OwnN s w none 0 0 [] := ⟨by simp, .inl ⟨rfl, rfl, rfl⟩⟩
theorem OwnN.lt (h : OwnN s w p l c vs) : ∀ k ∈ blks p, k < w.heap.size := by
  obtain ⟨hl, ⟨rfl, _⟩ | ⟨g, o, N, f, rfl, hB, rest⟩⟩ := h
  · simp [blks]
  · simp [blks]; exact hB.lt
theorem OwnN.cap (h : OwnN s w p l c vs) : l ≤ c := by
  obtain ⟨hl, ⟨_, h0, h1⟩ | ⟨g, o, N, f, rfl, hB, hc, hlc, hf⟩⟩ := h <;> omega
end
theorem OwnN.cellAt {s : Nat} {w : World} {p : Option Addr} {l c : Nat} {vs : List Value} (h : OwnN s w p l c vs) {P : Program} {t : TypeId} (ht : sliceB P t s = true) {k : IntKind} {i : Nat} (hi : i < l) (_hs : 0 < s) :
    ∃ b o, IxA P t (.slice p l c) (.int k (i : Int)) ⟨b, o, none⟩ ∧ b ∈ blks p ∧ ∀ j v, j < s → vs[i * s + j]? = some v → w.cell? ⟨b, o + j, none⟩ = some v := by
  obtain ⟨hl, ⟨_, h0, _⟩ | ⟨g, o, N, f, rfl, hB, hc, hlc, hf⟩⟩ := h
  · omega
  · have hx := ixS (P := P) ht (b := g) (o := o) (len := l) (cap := c) (k := k) (i := (i : Int)) (by omega) (by omega)
    rw [Int.toNat_natCast] at hx
    refine ⟨g, o + i * s, hx, by simp [blks], fun j v hj hv => ?_⟩
    have h1 : (i + 1) * s ≤ c * s := Nat.mul_le_mul_right s (by omega)
    rw [Nat.add_mul, Nat.one_mul] at h1
    rw [hB.cell (by omega), show o + i * s + j = o + (i * s + j) by omega, hf _ _ hv]
theorem Row.cellAt {s : Nat} {w : World} {p : Option Addr} {vs : List Value} (h : Row w p vs) {P : Program} {t : TypeId} (ht : sliceB P t s = true) {k : IntKind} {l c i : Nat} (hl : vs.length = l * s) (hi : i < l) (_hs : 0 < s) :
    ∃ b o, IxA P t (.slice p l c) (.int k (i : Int)) ⟨b, o, none⟩ ∧ b ∈ blks p ∧ ∀ j v, j < s → vs[i * s + j]? = some v → w.cell? ⟨b, o + j, none⟩ = some v := by
  rcases h with h0 | ⟨g, o, rfl, hf⟩
  · subst h0
    have h1 : 1 * s ≤ l * s := Nat.mul_le_mul_right s (by omega)
    simp at hl; omega
  · have hx := ixS (P := P) ht (b := g) (o := o) (len := l) (cap := c) (k := k) (i := (i : Int)) (by omega) (by omega)
    rw [Int.toNat_natCast] at hx
    refine ⟨g, o + i * s, hx, by simp [blks], fun j v hj hv => ?_⟩
    rw [show o + i * s + j = o + (i * s + j) by omega]
    exact hf _ _ hv
end Go.Fw
end

section
namespace Go.Fw
open Go
inductive Leaf where
  | int (k : IntKind)
  | bool
  | str
  | bytes
  | arr8 (n : Nat)
  | other (n : Nat)
def DecLeaf (w : World) : Leaf → List Value → Prop
  | .int k, cs => ∃ i, cs = [.int k i] ∧ (Lit.int k i).wf = true
  | .bool, cs => ∃ b, cs = [.bool b]
  | .str, cs => ∃ s : ByteArray, cs = [.string s] ∧ s.size ≤ maxLen
  | .bytes, cs => ∃ (q : Option Addr) (xs : List UInt8) (c : Nat), cs = [.slice q xs.length c] ∧ xs.length ≤ c ∧ xs.length ≤ maxLen ∧ Row w q (xs.map fun x => .int .u8 (x.toNat : Int))
  | .arr8 n, cs => ∃ xs : List UInt8, xs.length = n ∧ cs = xs.map fun x => .int .u8 (x.toNat : Int)
  | .other n, cs => cs.length = n
def DecL (w : World) : List Leaf → List Value → Prop
  | [], cs => cs = []
  | l :: ls, cs => ∃ c1 c2, cs = c1 ++ c2 ∧ DecLeaf w l c1 ∧ DecL w ls c2
theorem DecL.append {w : World} : ∀ {l1 l2 : List Leaf} {c1 c2 : List Value}, DecL w l1 c1 → DecL w l2 c2 → DecL w (l1 ++ l2) (c1 ++ c2) := by
  intro l1
  induction l1 with
  | nil => intro l2 c1 c2 h1 h2; subst h1; exact h2
  | cons l ls ih =>
    intro l2 c1 c2 h1 h2
    obtain ⟨a, b, rfl, ha, hb⟩ := h1
    exact ⟨a, b ++ c2, by rw [List.append_assoc], ha, ih hb h2⟩
theorem DecL.one {w : World} {l : Leaf} {cs : List Value} (h : DecLeaf w l cs) : DecL w [l] cs := ⟨cs, [], by simp, h, rfl⟩
def leavesF (P : Program) (rec : TypeId → Option (List Leaf)) : List Field → Nat → Option (List Leaf × Nat)
  | [], o => some ([], o)
  | f :: fs, o => if f.offset == o then (match rec f.type with | some l => (match leavesF P rec fs (o + P.cellsOf f.type) with | some (ls, e) => some (l ++ ls, e) | none => none) | none => none) else none
def leaves (P : Program) : Nat → TypeId → Option (List Leaf)
  | 0, _ => none
  | n + 1, t =>
    match P.underlying t with
    | some .bool => some [.bool]
    | some (.int k) => some [.int k]
    | some .string => some [.str]
    | some (.slice e) => if isU8 P e && P.cellsOf e == 1 then some [.bytes] else none
    | some (.array m e) => if isU8 P e && P.cellsOf e == 1 && P.cellsOf t == m then some [.arr8 m] else none
    | some (.struct fs) => (match leavesF P (leaves P n) fs.toList 0 with | some (ls, e) => if P.cellsOf t == e then some ls else none | none => none)
    | _ => none
theorem came2_slice8 {P : Program} {w : World} {n : Nat} {t e : TypeId} (ht : P.underlying t = some (.slice e)) (he : P.underlying e = some (.int .u8)) (h1 : P.cellsOf e = 1) {cs : List Value} (h : Came2 P w n t cs) : DecLeaf w .bytes cs := by
  cases n with
  | zero => exact h.elim
  | succ n =>
    have h' := h
    unfold Came2 at h; rw [ht] at h
    have hb : bytesB P t = true := by unfold bytesB; rw [ht]; simp only []; rw [he]; simp [h1]
    -- the same data as Came tells
    rcases h with rfl | ⟨a, len, cap, rfl, hl, hc, hx⟩
    · exact ⟨none, [], 0, rfl, Nat.le_refl _, Nat.zero_le _, Row.nil _ _⟩
    · have hcm : IsCame P w t (.slice (some a) len cap) := by
        refine ⟨n + 1, ?_⟩
        show Came P w (n + 1) t [.slice (some a) len cap]
        unfold Came; rw [ht]
        refine .inr ⟨a, len, cap, rfl, hl, hc, fun i hi => ?_⟩
        obtain ⟨cs', g1, g2⟩ := hx i hi
        refine ⟨cs', g1, ?_⟩
        cases n with
        | zero => exact g2.elim
        | succ n => unfold Came2 at g2; rw [he] at g2; unfold Came; rw [he]; exact g2
      obtain ⟨xs, h2, h3, h4, h5⟩ := came_bytes hb hcm
      subst h2
      exact ⟨_, xs, cap, rfl, h4, h3, h5⟩
theorem decF {P : Program} {w : World} {m : Nat} {rec : TypeId → Option (List Leaf)} (hrec : ∀ t L cs, rec t = some L → Came2 P w m t cs → DecL w L cs) : ∀ {fs : List Field} {o e : Nat} {L : List Leaf} {cs : List Value}, leavesF P rec fs o = some (L, e) → cs.length = e →
    (∀ f ∈ fs, Came2 P w m f.type ((cs.drop f.offset).take (P.cellsOf f.type))) → DecL w L (cs.drop o) := by
  intro fs
  induction fs with
  | nil =>
    intro o e L cs h hl hf
    simp [leavesF] at h
    obtain ⟨rfl, rfl⟩ := h
    show cs.drop o = []
    rw [List.drop_eq_nil_iff]; omega
  | cons f fs ih =>
    intro o e L cs h hl hf
    unfold leavesF at h
    split at h
    · rename_i ho
      rw [beq_iff_eq] at ho
      split at h
      · rename_i l hl1
        split at h
        · rename_i ls e' hr
          simp at h
          obtain ⟨rfl, rfl⟩ := h
          have h1 := hrec _ _ _ hl1 (hf f (by simp))
          have h2 := ih hr hl (fun g hg => hf g (by simp [hg]))
          rw [ho] at h1
          have := DecL.append h1 h2
          rw [← List.drop_drop, List.take_append_drop] at this
          exact this
        · cases h
      · cases h
    · cases h
theorem dec {P : Program} {w : World} : ∀ {n m : Nat} {t : TypeId} {L : List Leaf} {cs : List Value}, leaves P n t = some L → Came2 P w m t cs → DecL w L cs := by
  intro n
  induction n with
  | zero => intro m t L cs h; simp [leaves] at h
  | succ n ih =>
    intro m t L cs h hc
    cases m with
    | zero => exact hc.elim
    | succ m =>
    have hc' := hc
    unfold leaves at h
    unfold Came2 at hc
    split at h
    · rename_i ht; rw [ht] at hc; simp at h; subst h; exact DecL.one hc
    · rename_i k ht; rw [ht] at hc; simp at h; subst h; exact DecL.one hc
    · rename_i ht; rw [ht] at hc; simp at h; subst h; exact DecL.one hc
    · rename_i e ht
      split at h
      · rename_i hb
        simp only [Bool.and_eq_true, beq_iff_eq] at hb
        simp at h; subst h
        exact DecL.one (came2_slice8 ht (isU8_out hb.1) hb.2 hc')
      · cases h
    · rename_i k e ht
      split at h
      · rename_i hb
        simp only [Bool.and_eq_true, beq_iff_eq] at hb
        simp at h; subst h
        exact DecL.one (came2_bytes ht (isU8_out hb.1.1) hb.1.2 hb.2 hc')
      · cases h
    · rename_i fs ht
      rw [ht] at hc
      obtain ⟨hl, hf⟩ := hc
      split at h
      · rename_i ls e hF
        split at h
        · rename_i he
          rw [beq_iff_eq] at he
          simp at h; subst h
          have := decF (P := P) (w := w) (m := m) (rec := leaves P n) (fun t L cs h1 h2 => ih h1 h2) hF (cs := cs) (by omega) (fun f hm => by
            obtain ⟨i, hi, rfl⟩ := List.getElem_of_mem hm
            exact hf i _ (by rw [← Array.getElem?_toList, List.getElem?_eq_getElem hi]))
          rwa [List.drop_zero] at this
        · cases h
      · cases h
    · cases h
theorem came_list {P : Program} {w : World} {t e : TypeId} {s n : Nat} {L : List Leaf} (ht : P.underlying t = some (.slice e)) (hs : P.cellsOf e = s) (hs0 : 0 < s) (hL : leaves P n e = some L) {a : Option Addr} {len cap : Nat} (h : IsCame2 P w t (.slice a len cap)) :
    ∃ vss : List (List Value), vss.length = len ∧ len ≤ maxLen ∧ len ≤ cap ∧ Row w a vss.flatten ∧ vss.flatten.length = len * s ∧ ∀ vs ∈ vss, vs.length = s ∧ DecL w L vs := by
  obtain ⟨m, h⟩ := h
  cases m with
  | zero => exact h.elim
  | succ m =>
    unfold Came2 at h
    rw [ht] at h
    rcases h with h | ⟨x, l, c, h1, h2, h3, h4⟩
    · simp [Value.cells] at h
      obtain ⟨rfl, rfl, rfl⟩ := h
      exact ⟨[], rfl, Nat.zero_le _, Nat.le_refl _, Row.nil _ _, by simp, by simp⟩
    · simp [Value.cells] at h1
      obtain ⟨rfl, rfl, rfl⟩ := h1
      rw [hs] at h4
      by_cases h0 : cap = 0
      · have hl0 : len = 0 := by omega
        subst hl0
        exact ⟨[], rfl, Nat.zero_le _, h2, Row.nil _ _, by simp, by simp⟩
      · have each : ∀ i, i < cap → ∃ cs : List Value, cs.length = s ∧ DecL w L cs ∧ ∀ j v, cs[j]? = some v → w.cell? ((x.add (i * s)).add j) = some v := by
          intro i hi
          obtain ⟨cs', g1, g2⟩ := h4 i hi
          obtain ⟨_, g3, g4⟩ := World.cells?_some g1
          refine ⟨cs', g3, dec hL g2, fun j v hj => ?_⟩
          have hlt := (List.getElem?_eq_some_iff.1 hj).1
          rw [← hj]
          exact g4 j (by omega)
        obtain ⟨c0, hc0, _, hx0⟩ := each 0 (by omega)
        have hsp : x.spot = none := by
          have hlt : 0 < c0.length := by omega
          have := hx0 0 _ (List.getElem?_eq_getElem hlt)
          have e0 : (x.add (0 * s)).add 0 = x := by rw [Nat.zero_mul]; rfl
          rw [e0] at this
          exact spot_none this
        obtain ⟨b, o, sp⟩ := x
        simp only at hsp
        subst hsp
        have : ∃ f : Nat → List Value, ∀ i, i < cap → (f i).length = s ∧ DecL w L (f i) ∧ ∀ j v, (f i)[j]? = some v → w.cell? ⟨b, o + i * s + j, none⟩ = some v := by
          classical
          refine ⟨fun i => if hi : i < cap then Classical.choose (each i hi) else [], fun i hi => ?_⟩
          simp only [dif_pos hi]
          obtain ⟨q1, q2, q3⟩ := Classical.choose_spec (each i hi)
          refine ⟨q1, q2, fun j v hj => ?_⟩
          have := q3 j v hj
          rw [add_mk, add_mk] at this
          exact this
        obtain ⟨f, hf⟩ := this
        have hall : ∀ k, k ≤ len → ∃ vss : List (List Value), vss.length = k ∧ vss.flatten.length = k * s ∧ (∀ vs ∈ vss, vs.length = s ∧ DecL w L vs) ∧ ∀ j v, vss.flatten[j]? = some v → w.cell? ⟨b, o + j, none⟩ = some v := by
          intro k
          induction k with
          | zero => intro _; exact ⟨[], rfl, by simp, by simp, by simp⟩
          | succ k ih =>
            intro hk
            obtain ⟨vss, v1, v2, v3, v4⟩ := ih (by omega)
            obtain ⟨f1, f2, f3⟩ := hf k (by omega)
            refine ⟨vss ++ [f k], by simp [v1], by simp [v2, f1, Nat.add_mul], fun vs hvs => ?_, fun j v hj => ?_⟩
            · rcases List.mem_append.1 hvs with h | h
              · exact v3 vs h
              · simp at h; subst h; exact ⟨f1, f2⟩
            · rw [List.flatten_append] at hj
              simp only [List.flatten_cons, List.flatten_nil, List.append_nil] at hj
              by_cases hjl : j < vss.flatten.length
              · rw [List.getElem?_append_left hjl] at hj; exact v4 j v hj
              · rw [List.getElem?_append_right (by omega)] at hj
                have := f3 _ v hj
                rw [v2] at this
                rw [show o + j = o + k * s + (j - k * s) by omega]
                exact this
        obtain ⟨vss, v1, v2, v3, v4⟩ := hall len (Nat.le_refl _)
        exact ⟨vss, v1, by omega, h2, .inr ⟨b, o, rfl, v4⟩, v2, v3⟩
theorem came_struct {P : Program} {w : World} {t : TypeId} {n : Nat} {L : List Leaf} (hL : leaves P n t = some L) {cs : Array Value} (h : IsCame2 P w t (.agg cs)) : DecL w L cs.toList := by
  obtain ⟨m, h⟩ := h
  exact dec hL h
end Go.Fw
end

section
namespace Go.Fw
open Go
set_option linter.unusedSimpArgs false
theorem newAs {cs cs' : Array Value} {t : TypeId} {w : World} {K : Nat → World → Prop} (he : cs = cs') (h : New cs' t w K) : New cs t w K := by subst he; exact h
theorem eqCfgD {P : Program} {t : TypeId} {n : Nat} (dd : Nat) (ht : cfgB P t n = true) {m1 s1 n1 m2 s2 n2 : Int} {k1 k2 : List UInt8} (h1 : k1.length = n) (h2 : k2.length = n) (w : World) :
    (Op.equalIn (dd + 3) t (.agg ⟨cfgV m1 s1 n1 k1⟩) (.agg ⟨cfgV m2 s2 n2 k2⟩)).run P w = .ok (decide (m1 = m2 ∧ s1 = s2 ∧ n1 = n2 ∧ k1 = k2)) w := by
  unfold cfgB at ht
  simp only [Bool.and_eq_true, Bool.not_eq_true'] at ht
  obtain ⟨⟨ht, hst⟩, _⟩ := ht
  split at ht
  · rename_i fs hu
    split at ht
    · rename_i a b c d hfs
      simp only [Bool.and_eq_true, beq_iff_eq, bne_iff_ne] at ht
      obtain ⟨⟨⟨⟨⟨⟨⟨⟨⟨⟨⟨⟨na, nb⟩, nc⟩, nd⟩, ta⟩, tb⟩, tc⟩, td⟩, sz⟩, oa⟩, ob⟩, oc⟩, od⟩ := ht
      have hf : P.fieldsOf t = fs := by simp [Program.fieldsOf, hu]
      rw [run_equalIn_struct w (dd + 2) t _ _ (by rw [hf]; exact hu) hst, hf, hfs]
      have ua := is64_out ta; have ub := is64_out tb; have uc := is64_out tc
      have step : ∀ (f : Field) (fl : List Field) (o : Nat) (x y : Int), f.name ≠ "_" → f.offset = o → P.underlying f.type = some (.int .i64) → (cfgV m1 s1 n1 k1)[o]? = some (.int .i64 x) → (cfgV m2 s2 n2 k2)[o]? = some (.int .i64 y) →
          (Op.eqFields (dd + 2) ⟨cfgV m1 s1 n1 k1⟩ ⟨cfgV m2 s2 n2 k2⟩ (f :: fl)).run P w = if x = y then (Op.eqFields (dd + 2) ⟨cfgV m1 s1 n1 k1⟩ ⟨cfgV m2 s2 n2 k2⟩ fl).run P w else .ok false w := by
        intro f fl o x y hn ho hu hx hy
        rw [Op.eqFields, if_pos hn]
        rw [Sem.run_bind, ho, part_cell hu hx]
        show (do let b ← part f.type ⟨cfgV m2 s2 n2 k2⟩ o; let r ← Op.equalIn (dd + 2) f.type (.int .i64 x) b; if (!r) = true then pure false else Op.eqFields (dd + 2) ⟨cfgV m1 s1 n1 k1⟩ ⟨cfgV m2 s2 n2 k2⟩ fl : Sem Bool).run P w = _
        rw [Sem.run_bind, part_cell hu hy]
        show (do let r ← Op.equalIn (dd + 2) f.type (.int .i64 x) (.int .i64 y); if (!r) = true then pure false else Op.eqFields (dd + 2) ⟨cfgV m1 s1 n1 k1⟩ ⟨cfgV m2 s2 n2 k2⟩ fl : Sem Bool).run P w = _
        rw [Sem.run_bind, run_equalIn_int w (dd + 1) f.type .i64 .i64 x y hu]
        show (if (!(x == y)) = true then pure false else Op.eqFields (dd + 2) ⟨cfgV m1 s1 n1 k1⟩ ⟨cfgV m2 s2 n2 k2⟩ fl : Sem Bool).run P w = _
        by_cases h : x = y
        · subst h; simp
        · rw [if_neg h]
          have : (x == y) = false := by simpa using h
          rw [this]; rfl
      rw [step a _ 0 m1 m2 na oa ua rfl rfl, step b _ 1 s1 s2 nb ob ub rfl rfl, step c _ 2 n1 n2 nc oc uc rfl rfl]
      have last : (Op.eqFields (dd + 2) ⟨cfgV m1 s1 n1 k1⟩ ⟨cfgV m2 s2 n2 k2⟩ [d]).run P w = .ok (decide (k1 = k2)) w := by
        have pd : ∀ (m s n' : Int) (k : List UInt8), k.length = n → (part d.type ⟨cfgV m s n' k⟩ 3).run P w = .ok (.agg ⟨k.map fun x => .int .u8 (x.toNat : Int)⟩) w := by
          intro m s n' k hk
          obtain ⟨e, g1, _, _⟩ := arr8B_out td
          have hagg : (isAgg d.type).run P w = .ok true w := by
            unfold isAgg; rw [Sem.run_bind, run_of_res (res_underlying g1)]; rfl
          have hsz : (sizeOf d.type).run P w = .ok n w := by
            split at sz
            · rename_i j hj; have : j = n := by simpa using sz
              subst this; exact run_of_res hj w
            · cases sz
          unfold part
          rw [Sem.run_bind, hagg]
          show (do pure (Value.agg (Array.extract ⟨cfgV m s n' k⟩ 3 (3 + (← sizeOf d.type)))) : Sem Value).run P w = _
          rw [Sem.run_bind, hsz]
          show Result.ok (Value.agg _) w = _
          congr 2
          apply Array.ext'
          simp only [cfgV, Array.toList_extract, List.extract_eq_take_drop, List.drop_succ_cons, List.drop_zero, Nat.add_sub_cancel_left]
          rw [List.take_of_length_le (by rw [List.length_map]; omega)]
        rw [Op.eqFields, if_pos nd, Sem.run_bind, od, pd _ _ _ _ h1]
        show (do let b ← part d.type ⟨cfgV m2 s2 n2 k2⟩ 3; let r ← Op.equalIn (dd + 2) d.type _ b; if (!r) = true then pure false else Op.eqFields (dd + 2) ⟨cfgV m1 s1 n1 k1⟩ ⟨cfgV m2 s2 n2 k2⟩ [] : Sem Bool).run P w = _
        rw [Sem.run_bind, pd _ _ _ _ h2]
        show (do let r ← Op.equalIn (dd + 2) d.type _ _; if (!r) = true then pure false else Op.eqFields (dd + 2) ⟨cfgV m1 s1 n1 k1⟩ ⟨cfgV m2 s2 n2 k2⟩ [] : Sem Bool).run P w = _
        rw [Sem.run_bind, eqIn_bytes td h1 h2 dd]
        show (if (!(decide (k1 = k2))) = true then pure false else Op.eqFields (dd + 2) ⟨cfgV m1 s1 n1 k1⟩ ⟨cfgV m2 s2 n2 k2⟩ [] : Sem Bool).run P w = _
        by_cases h : k1 = k2
        · rw [decide_eq_true h]; rfl
        · rw [decide_eq_false h]; rfl
      rw [last]
      by_cases e1 : m1 = m2 <;> by_cases e2 : s1 = s2 <;> by_cases e3 : n1 = n2 <;> simp [e1, e2, e3]
    · cases ht
  · cases ht
def slotB (P : Program) (t : TypeId) (n : Nat) : Bool :=
  (match P.underlying t with
  | some (.struct fs) => (match fs.toList with
    | [a, b] => a.name != "_" && b.name != "_" && cfgB P a.type n && is64 P b.type && (match res P (sizeOf a.type) with | some k => k == 3 + n | none => false) && (match res P (isAgg a.type) with | some k => k | none => false) && a.offset == 0 && b.offset == 3 + n
    | _ => false)
  | _ => false) && !P.stoodInHeld t && !P.eqGuardType P.depth t
def slotV (m s n : Int) (key : List UInt8) (st : Int) : List Value := cfgV m s n key ++ [.int .i64 st]
theorem cfgV_len3 (m s n : Int) (key : List UInt8) : (cfgV m s n key).length = 3 + key.length := by simp [cfgV]; omega
theorem eqSlot {P : Program} {t : TypeId} {n : Nat} (ht : slotB P t n = true) {m1 s1 n1 m2 s2 n2 t1 t2 : Int} {k1 k2 : List UInt8} (h1 : k1.length = n) (h2 : k2.length = n) (w : World) :
    (Op.equalIn 10000 t (.agg ⟨slotV m1 s1 n1 k1 t1⟩) (.agg ⟨slotV m2 s2 n2 k2 t2⟩)).run P w = .ok (decide ((m1 = m2 ∧ s1 = s2 ∧ n1 = n2 ∧ k1 = k2) ∧ t1 = t2)) w := by
  unfold slotB at ht
  simp only [Bool.and_eq_true, Bool.not_eq_true'] at ht
  obtain ⟨⟨ht, hst⟩, _⟩ := ht
  split at ht
  · rename_i fs hu
    split at ht
    · rename_i a b hfs
      simp only [Bool.and_eq_true, beq_iff_eq, bne_iff_ne] at ht
      obtain ⟨⟨⟨⟨⟨⟨⟨na, nb⟩, ta⟩, tb⟩, sz⟩, ag⟩, oa⟩, ob⟩ := ht
      have hf : P.fieldsOf t = fs := by simp [Program.fieldsOf, hu]
      rw [run_equalIn_struct w 9999 t _ _ (by rw [hf]; exact hu) hst, hf, hfs]
      have ub := is64_out tb
      have hagg : (isAgg a.type).run P w = .ok true w := by
        split at ag
        · rename_i k hk; subst ag; exact run_of_res hk w
        · cases ag
      have hsz : (sizeOf a.type).run P w = .ok (3 + n) w := by
        split at sz
        · rename_i j hj; have : j = 3 + n := by simpa using sz
          subst this; exact run_of_res hj w
        · cases sz
      have pa : ∀ (m s n' t' : Int) (k : List UInt8), k.length = n → (part a.type ⟨slotV m s n' k t'⟩ 0).run P w = .ok (.agg ⟨cfgV m s n' k⟩) w := by
        intro m s n' t' k hk
        unfold part
        rw [Sem.run_bind, hagg]
        show (do pure (Value.agg (Array.extract ⟨slotV m s n' k t'⟩ 0 (0 + (← sizeOf a.type)))) : Sem Value).run P w = _
        rw [Sem.run_bind, hsz]
        show Result.ok (Value.agg _) w = _
        congr 2
        apply Array.ext'
        simp only [slotV, Array.toList_extract, List.extract_eq_take_drop, List.drop_zero]
        rw [List.take_append_of_le_length (by rw [cfgV_len3]; omega), List.take_of_length_le (by rw [cfgV_len3]; omega)]
      have pb : ∀ (m s n' t' : Int) (k : List UInt8), k.length = n → (slotV m s n' k t')[3 + n]? = some (.int .i64 t') := by
        intro m s n' t' k hk
        unfold slotV
        rw [List.getElem?_append_right (by rw [cfgV_len3]; omega), cfgV_len3, show 3 + n - (3 + k.length) = 0 by omega]; rfl
      rw [Op.eqFields, if_pos na, Sem.run_bind, oa, pa _ _ _ _ _ h1]
      show (do let y ← part a.type ⟨slotV m2 s2 n2 k2 t2⟩ 0; let r ← Op.equalIn 9999 a.type _ y; if (!r) = true then pure false else Op.eqFields 9999 ⟨slotV m1 s1 n1 k1 t1⟩ ⟨slotV m2 s2 n2 k2 t2⟩ [b] : Sem Bool).run P w = _
      rw [Sem.run_bind, pa _ _ _ _ _ h2]
      show (do let r ← Op.equalIn 9999 a.type _ _; if (!r) = true then pure false else Op.eqFields 9999 ⟨slotV m1 s1 n1 k1 t1⟩ ⟨slotV m2 s2 n2 k2 t2⟩ [b] : Sem Bool).run P w = _
      rw [Sem.run_bind, eqCfgD 9996 ta h1 h2]
      show (if (!(decide (m1 = m2 ∧ s1 = s2 ∧ n1 = n2 ∧ k1 = k2))) = true then pure false else Op.eqFields 9999 ⟨slotV m1 s1 n1 k1 t1⟩ ⟨slotV m2 s2 n2 k2 t2⟩ [b] : Sem Bool).run P w = _
      by_cases hc : m1 = m2 ∧ s1 = s2 ∧ n1 = n2 ∧ k1 = k2
      · rw [decide_eq_true hc]
        show (Op.eqFields 9999 ⟨slotV m1 s1 n1 k1 t1⟩ ⟨slotV m2 s2 n2 k2 t2⟩ [b]).run P w = _
        rw [Op.eqFields, if_pos nb, Sem.run_bind, ob, part_cell ub (pb _ _ _ _ _ h1)]
        show (do let y ← part b.type ⟨slotV m2 s2 n2 k2 t2⟩ (3 + n); let r ← Op.equalIn 9999 b.type (.int .i64 t1) y; if (!r) = true then pure false else Op.eqFields 9999 ⟨slotV m1 s1 n1 k1 t1⟩ ⟨slotV m2 s2 n2 k2 t2⟩ [] : Sem Bool).run P w = _
        rw [Sem.run_bind, part_cell ub (pb _ _ _ _ _ h2)]
        show (do let r ← Op.equalIn 9999 b.type (.int .i64 t1) (.int .i64 t2); if (!r) = true then pure false else Op.eqFields 9999 ⟨slotV m1 s1 n1 k1 t1⟩ ⟨slotV m2 s2 n2 k2 t2⟩ [] : Sem Bool).run P w = _
        rw [Sem.run_bind, run_equalIn_int w 9998 b.type .i64 .i64 t1 t2 ub]
        show (if (!(t1 == t2)) = true then pure false else Op.eqFields 9999 ⟨slotV m1 s1 n1 k1 t1⟩ ⟨slotV m2 s2 n2 k2 t2⟩ [] : Sem Bool).run P w = _
        by_cases h : t1 = t2
        · subst h
          have e : decide ((m1 = m2 ∧ s1 = s2 ∧ n1 = n2 ∧ k1 = k2) ∧ t1 = t1) = true := decide_eq_true ⟨hc, rfl⟩
          rw [e]; simp; rfl
        · have : (t1 == t2) = false := by simpa using h
          have e : decide ((m1 = m2 ∧ s1 = s2 ∧ n1 = n2 ∧ k1 = k2) ∧ t1 = t2) = false := decide_eq_false fun hh => h hh.2
          rw [this, e]; rfl
      · rw [decide_eq_false hc]
        have e : decide ((m1 = m2 ∧ s1 = s2 ∧ n1 = n2 ∧ k1 = k2) ∧ t1 = t2) = false := decide_eq_false fun hh => hc hh.1
        rw [e]; rfl
    · cases ht
  · cases ht
theorem Ef.eqSlot {P : Program} {t : TypeId} {n : Nat} (ht : slotB P t n = true) {x y : Operand} {m1 s1 n1 m2 s2 n2 t1 t2 : Int} {k1 k2 : List UInt8} (h1 : k1.length = n) (h2 : k2.length = n) {w : World} :
    Ef P (do eqGuard .eql t x y (.agg ⟨slotV m1 s1 n1 k1 t1⟩) (.agg ⟨slotV m2 s2 n2 k2 t2⟩); binOp .eql t (.agg ⟨slotV m1 s1 n1 k1 t1⟩) (.agg ⟨slotV m2 s2 n2 k2 t2⟩) : Sem Value) w (.bool (decide ((m1 = m2 ∧ s1 = s2 ∧ n1 = n2 ∧ k1 = k2) ∧ t1 = t2))) w := by
  have hg : P.eqGuardType P.depth t = false := by
    unfold slotB at ht
    simp only [Bool.and_eq_true, Bool.not_eq_true'] at ht
    exact ht.2
  show (do eqGuard .eql t x y _ _; binOp .eql t _ _ : Sem Value).run P w = _
  rw [Sem.run_bind, run_eqGuard_agg w .eql t x y _ _ hg]
  show (binOp .eql t _ _).run P w = _
  rw [run_eql_struct, Go.Fw.eqSlot ht h1 h2]
  rfl
end Go.Fw
end
