/- A part of a proof of a given law of this program: lemmas, printed forms of its functions, contracts. It has no conditions of its own. -/
import Derived.Test.YtlphgbgfnjhhcaaFw5
namespace Go.Fw
open Go

/-! ### Addresses of elements -/
theorem res_underlying {P : Program} {t : TypeId} {d : TypeDesc} (h : P.underlying t = some d) : res P (underlying t) = some d := by
  show res P ((program.bind fun p => match p.underlying t with | some d => pure d | none => stuck "no such type") : Sem TypeDesc) = _
  rw [res_bind]
  show (some P).bind _ = _
  simp only [Option.bind, h]
  rfl
theorem IxA.slice {P : Program} {t e : TypeId} {s : Nat} (ht : P.underlying t = some (.slice e)) (hs : res P (sizeOf e) = some s) {b o len cap : Nat} {k : IntKind} {i : Int} (h0 : 0 ≤ i) (h1 : i < len) :
    IxA P t (.slice (some ⟨b, o, none⟩) len cap) (.int k i) ⟨b, o + i.toNat * s, none⟩ := by
  show res P ((do
    let (k, i) ← asIntOf (.int k i)
    let (base, len, elem) ← match ← underlying t, Value.slice (some ⟨b, o, none⟩) len cap with
      | .array len elem, x => do pure (some (← Instr.sureAddr x), len, elem)
      | .slice elem, .slice base len _ => pure (base, len, elem)
      | _, _ => stuck "indexAddr: an array's address or a slice expected"
    let tiny := len ≤ 1 && (match ← underlying t with | .array .. => true | _ => false)
    match base with
    | some a =>
      if 0 ≤ i ∧ i < len then pure (.pointer (some (a.add (i.toNat * (← sizeOf elem)))))
      else if tiny then unsupported (.noEntry "op/indexAddr.an index out of range at an array of length 0 or 1 (ledger 616)")
      else boundsPanic k i len .index
    | none => boundsPanic k i 0 .index) : Sem Value) = _
  rw [← add_mk b o]
  simp only [bind, res_bind, res_underlying ht, Option.bind]
  show res P ((if 0 ≤ i ∧ i < len then _ else _) : Sem Value) = _
  rw [if_pos ⟨h0, h1⟩]
  show res P ((sizeOf e).bind _) = _
  rw [res_bind, hs]
  rfl
theorem IxA.arr {P : Program} {t e : TypeId} {s n : Nat} (ht : P.underlying t = some (.array n e)) (hs : res P (sizeOf e) = some s) {b o : Nat} {k : IntKind} {i : Int} (h0 : 0 ≤ i) (h1 : i < n) :
    IxA P t (.pointer (some ⟨b, o, none⟩)) (.int k i) ⟨b, o + i.toNat * s, none⟩ := by
  show res P ((do
    let (k, i) ← asIntOf (.int k i)
    let (base, len, elem) ← match ← underlying t, Value.pointer (some ⟨b, o, none⟩) with
      | .array len elem, x => do pure (some (← Instr.sureAddr x), len, elem)
      | .slice elem, .slice base len _ => pure (base, len, elem)
      | _, _ => stuck "indexAddr: an array's address or a slice expected"
    let tiny := len ≤ 1 && (match ← underlying t with | .array .. => true | _ => false)
    match base with
    | some a =>
      if 0 ≤ i ∧ i < len then pure (.pointer (some (a.add (i.toNat * (← sizeOf elem)))))
      else if tiny then unsupported (.noEntry "op/indexAddr.an index out of range at an array of length 0 or 1 (ledger 616)")
      else boundsPanic k i len .index
    | none => boundsPanic k i 0 .index) : Sem Value) = _
  rw [← add_mk b o]
  simp only [bind, res_bind, res_underlying ht, Option.bind]
  show res P ((if 0 ≤ i ∧ i < n then _ else _) : Sem Value) = _
  rw [if_pos ⟨h0, h1⟩]
  show res P ((sizeOf e).bind _) = _
  rw [res_bind, hs]
  rfl
theorem IxA.slice1 {P : Program} {t e : TypeId} (ht : P.underlying t = some (.slice e)) (hs : res P (sizeOf e) = some 1) {b o len cap : Nat} {k : IntKind} {i : Int} (h0 : 0 ≤ i) (h1 : i < len) :
    IxA P t (.slice (some ⟨b, o, none⟩) len cap) (.int k i) ⟨b, o + i.toNat, none⟩ := by
  have := IxA.slice (P := P) (cap := cap) (k := k) (b := b) (o := o) ht hs h0 h1
  rwa [Nat.mul_one] at this
theorem IxA.arr1 {P : Program} {t e : TypeId} {n : Nat} (ht : P.underlying t = some (.array n e)) (hs : res P (sizeOf e) = some 1) {b o : Nat} {k : IntKind} {i : Int} (h0 : 0 ≤ i) (h1 : i < n) :
    IxA P t (.pointer (some ⟨b, o, none⟩)) (.int k i) ⟨b, o + i.toNat, none⟩ := by
  have := IxA.arr (P := P) (k := k) (b := b) (o := o) ht hs h0 h1
  rwa [Nat.mul_one] at this

/-! ### Rows: what a slice shows -/
/-- From the address on there stand these values (where there are none, it may be nil). -/
def Row (w : World) (p : Option Addr) (vs : List Value) : Prop := vs = [] ∨ ∃ b o, p = some ⟨b, o, none⟩ ∧ ∀ j v, vs[j]? = some v → w.cell? ⟨b, o + j, none⟩ = some v
theorem Row.nil (w : World) (p : Option Addr) : Row w p [] := .inl rfl
theorem Row.fr {l : List Nat} {w w' : World} {p : Option Addr} {vs : List Value} (h : Row w p vs) (hf : Fr l w w') (hn : ∀ a, p = some a → a.block ∉ l) : Row w' p vs := by
  rcases h with h | ⟨b, o, rfl, h⟩
  · exact .inl h
  · exact .inr ⟨b, o, rfl, fun j v hj => hf.cell (h j v hj) (hn ⟨b, o, none⟩ rfl)⟩
theorem Row.fr0 {w w' : World} {p : Option Addr} {vs : List Value} (h : Row w p vs) (hf : Fr [] w w') : Row w' p vs := h.fr hf (by simp)
/-- The element at a number: its address, and what stands there. -/
theorem Row.ix {P : Program} {t e : TypeId} (ht : P.underlying t = some (.slice e)) (hs : res P (sizeOf e) = some 1) {w : World} {p : Option Addr} {vs : List Value} (h : Row w p vs) {len cap : Nat} {k : IntKind} {i : Int}
    (hl : len = vs.length) (h0 : 0 ≤ i) (h1 : i < len) {v : Value} (hv : vs[i.toNat]? = some v) : ∃ a, IxA P t (.slice p len cap) (.int k i) a ∧ w.cell? a = some v := by
  rcases h with rfl | ⟨b, o, rfl, h⟩
  · simp at hl; omega
  · exact ⟨_, IxA.slice1 ht hs h0 h1, h _ _ hv⟩
/-- A part of a block is a row. -/
theorem Blk.row {w : World} {b n : Nat} {f : Nat → Value} (h : Blk w b n f) (o : Nat) (vs : List Value) (hv : ∀ j v, vs[j]? = some v → o + j < n ∧ f (o + j) = v) : Row w (some ⟨b, o, none⟩) vs :=
  .inr ⟨b, o, rfl, fun j v hj => by rw [h.cell (hv j v hj).1, (hv j v hj).2]⟩

/-! ### Stores -/
theorem Sto.blk {P : Program} {t : TypeId} (hs : res P (sizeOf t) = some 1) {b n o : Nat} {f : Nat → Value} {w : World} {v : Value} (hB : Blk w b n f) (ho : o < n) (hv : v.oneCell' = true) (hc : v.cells = #[v]) {K : World → Prop}
    (h : ∀ w', Fr [b] w w' → Blk w' b n (upd f o v) → w'.heap.size = w.heap.size → K w') : ∃ w', Sto P t (.pointer (some ⟨b, o, none⟩)) v w w' ∧ K w' :=
  ⟨_, run_storeVar hs hv hc (hB.cell ho) (hB.frozen o), h _ (Fr.setCell w ⟨b, o, none⟩ v) (hB.set ho v) (by simp)⟩
theorem updN_cons (f : Nat → Value) (o : Nat) (v : Value) (vs : List Value) : updN f o (v :: vs) = updN (upd f o v) (o + 1) vs := by
  funext i
  unfold updN upd
  by_cases h1 : i = o
  · subst h1
    have h2 : i ≤ i ∧ i - i < (v :: vs).length := by simp
    have h3 : ¬ (i + 1 ≤ i ∧ i - (i + 1) < vs.length) := by omega
    rw [dif_pos h2, dif_neg h3, if_pos rfl]
    simp
  · by_cases h2 : o ≤ i ∧ i - o < (v :: vs).length
    · have h3 : o + 1 ≤ i ∧ i - (o + 1) < vs.length := by simp only [List.length_cons] at h2; omega
      rw [dif_pos h2, dif_pos h3]
      have : i - o = (i - (o + 1)) + 1 := by omega
      simp only [this, List.getElem_cons_succ]
    · have h3 : ¬ (o + 1 ≤ i ∧ i - (o + 1) < vs.length) := by simp only [List.length_cons] at h2; omega
      rw [dif_neg h2, dif_neg h3, if_neg h1]
theorem run_storeCells {P : Program} : ∀ (vs : List Value) (i b n o : Nat) (f : Nat → Value) (w : World), Blk w b n f → o + i + vs.length ≤ n → (∀ v ∈ vs, v.oneCell' = true) →
    ∃ w', (storeCells ⟨b, o, none⟩ vs i).run P w = .ok () w' ∧ Fr [b] w w' ∧ Blk w' b n (updN f (o + i) vs) ∧ w'.heap.size = w.heap.size := by
  intro vs
  induction vs with
  | nil =>
    intro i b n o f w hB hl hv
    refine ⟨w, rfl, Fr.refl _ _, ?_, rfl⟩
    exact hB.ext fun i hi => by unfold updN; rw [dif_neg (by simp)]
  | cons v vs ih =>
    intro i b n o f w hB hl hv
    simp only [List.length_cons] at hl
    obtain ⟨w', h1, h2, h3, h4⟩ := ih (i + 1) b n o (upd f (o + i) v) (w.setCell ⟨b, o + i, none⟩ v) (hB.set (by omega) v) (by omega) (fun u hu => hv u (by simp [hu]))
    refine ⟨w', ?_, (Fr.setCell w ⟨b, o + i, none⟩ v).trans h2 (by simp), ?_, by simpa using h4⟩
    · unfold storeCells
      rw [Sem.run_bind, add_mk, run_store _ _ _ _ _ (hv v (by simp)), hB.cell (by omega), hB.frozen]
      exact h1
    · rw [updN_cons]; exact h3
/-- A store of an array or a struct that is told as its cells. -/
theorem Sto.agg {P : Program} {t : TypeId} {m : Nat} (hs : res P (sizeOf t) = some m) {b n o : Nat} {f : Nat → Value} {w : World} {cs : List Value} (hm : cs.length = m) (hB : Blk w b n f) (ho : o + m ≤ n) (hv : ∀ v ∈ cs, v.oneCell' = true) {K : World → Prop}
    (h : ∀ w', Fr [b] w w' → Blk w' b n (updN f o cs) → w'.heap.size = w.heap.size → K w') : ∃ w', Sto P t (.pointer (some ⟨b, o, none⟩)) (.agg ⟨cs⟩) w w' ∧ K w' := by
  obtain ⟨w', h1, h2, h3, h4⟩ := run_storeCells (P := P) cs 0 b n o f w hB (by omega) hv
  refine ⟨w', ?_, h w' h2 h3 h4⟩
  show (storeVar t ⟨b, o, none⟩ (.agg ⟨cs⟩)).run P w = _
  unfold storeVar
  rw [Sem.run_bind, run_of_res hs]
  simp only [Result.andThen, Value.cells, List.size_toArray, hm, ne_eq, not_true_eq_false, if_false]
  exact h1

/-! ### New memory -/
theorem Ef.new {P : Program} {m : Sem Value} {w : World} {v : Value} {cs : Array Value} {e : TypeId} (hr : m.run P w = .ok v (w.alloc (.cells cs e))) {K : World → Prop}
    (h : ∀ w', Fr [] w w' → Blk w' w.heap.size cs.size (fun i => cs.getD i undef) → w'.heap.size = w.heap.size + 1 → K w') : ∃ w', Ef P m w v w' ∧ K w' := by
  refine ⟨_, hr, h _ (Fr.alloc _ _) (Blk.new _ _ _ _ fun i hi => ?_) (by simp)⟩
  rw [Array.getD_eq_getD_getElem?, Array.getElem?_eq_getElem hi]; rfl
end Go.Fw
