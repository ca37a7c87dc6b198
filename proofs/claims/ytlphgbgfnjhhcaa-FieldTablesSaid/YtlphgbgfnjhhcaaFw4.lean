/- A part of a proof of a given law of this program: lemmas, printed forms of its functions, contracts. It has no conditions of its own. -/
import Derived.Test.YtlphgbgfnjhhcaaFw3
import Derived.Laws.LoneSync
import Derived.Below
import Derived.Laws.Slices
import Derived.Laws.AppendOwn
import Derived.Laws.Cells
namespace Go.Fw
open Go

/-! ### Tests -/
theorem cond_intro {b : Bool} {A B : Prop} (h1 : b = true → A) (h2 : b = false → B) : cond b A B := by
  cases b with
  | true => exact h1 rfl
  | false => exact h2 rfl
theorem cond_d {p : Prop} [d : Decidable p] {A B : Prop} (h1 : p → A) (h2 : ¬ p → B) : cond (decide p) A B := by
  cases d with
  | isTrue h => exact h1 h
  | isFalse h => exact h2 h
theorem cond_eq {x y : Int} {A B : Prop} (h1 : x = y → A) (h2 : x ≠ y → B) : cond (x == y) A B :=
  cond_intro (fun h => h1 (by simpa using h)) (fun h => h2 (by simpa using h))
theorem cond_ne {x y : Int} {A B : Prop} (h1 : x ≠ y → A) (h2 : x = y → B) : cond (x != y) A B :=
  cond_intro (fun h => h1 (by simpa using h)) (fun h => h2 (by simpa using h))
theorem cond_not {b : Bool} {A B : Prop} (h1 : b = false → A) (h2 : b = true → B) : cond (!b) A B := by
  cases b with
  | true => exact h2 rfl
  | false => exact h1 rfl
theorem cond_t {A B : Prop} (h : A) : cond true A B := h
theorem cond_f {A B : Prop} (h : B) : cond false A B := h

/-! ### Loops: an invariant with a bound of the rounds that are left -/
theorem least {p : Nat → Prop} (h : ∃ k, p k) : ∃ k, p k ∧ ∀ j, p j → k ≤ j := by
  obtain ⟨k, hk⟩ := h
  induction k using Nat.strongRecOn with
  | ind k ih =>
    by_cases h : ∃ j, j < k ∧ p j
    · obtain ⟨j, hj, hp⟩ := h; exact ih j hj hp
    · refine ⟨k, hk, fun j hp => ?_⟩
      rcases Nat.lt_or_ge j k with hj | hj
      · exact absurd ⟨j, hj, hp⟩ h
      · exact hj
noncomputable def leastOf (p : Nat → Prop) : Nat := open Classical in if h : ∃ k, p k then (least h).choose else 0
theorem leastOf_spec {p : Nat → Prop} (h : ∃ k, p k) : p (leastOf p) ∧ ∀ j, p j → leastOf p ≤ j := by
  unfold leastOf
  rw [dif_pos h]
  exact (least h).choose_spec
theorem LoopS.ind {vs : List Value} {w : World} {step : Inv → Meas → List Value → (Nat → Value) → World → Prop} (J : Nat → Inv) (k0 : Nat) (h0 : J k0 vs w)
    (h : ∀ k us r w I μ, (∀ ds us' w' k', k' < k → J k' us' w' → goesOn ds ds I μ us us' w w') → J k us w → step I μ us r w) : LoopS vs w step := by
  refine ⟨fun us w => ∃ k, J k us w, fun us w => leastOf fun k => J k us w, ⟨k0, h0⟩, ?_⟩
  intro us r w hex
  refine h (leastOf fun k => J k us w) us r w _ _ ?_ (leastOf_spec hex).1
  intro ds us' w' k' hk hJ
  exact ⟨rfl, ⟨k', hJ⟩, Nat.lt_of_le_of_lt ((leastOf_spec ⟨k', hJ⟩).2 k' hJ) hk⟩

/-! ### Memory: what may have turned -/
/-- Of the blocks that were there, none but those named has turned. -/
structure Fr (l : List Nat) (w w' : World) : Prop where
  os : w'.os = w.os
  tape : w'.tape = w.tape
  output : w'.output = w.output
  size : w.heap.size ≤ w'.heap.size
  block : ∀ k, k < w.heap.size → k ∉ l → w'.heap[k]? = w.heap[k]?
theorem Fr.refl (l : List Nat) (w : World) : Fr l w w := ⟨rfl, rfl, rfl, Nat.le_refl _, fun _ _ _ => rfl⟩
theorem Fr.mono {l l' : List Nat} {w w' : World} (h : Fr l w w') (hl : ∀ k ∈ l, k ∈ l') : Fr l' w w' :=
  ⟨h.os, h.tape, h.output, h.size, fun k hk hn => h.block k hk fun hm => hn (hl k hm)⟩
/-- One behind the other: what the second turns is among the first's, or is new. -/
theorem Fr.trans {l l1 : List Nat} {a b c : World} (h : Fr l a b) (k : Fr l1 b c) (hl : ∀ x ∈ l1, x ∈ l ∨ a.heap.size ≤ x) : Fr l a c :=
  ⟨k.os.trans h.os, k.tape.trans h.tape, k.output.trans h.output, Nat.le_trans h.size k.size, fun i hi hn =>
    (k.block i (Nat.lt_of_lt_of_le hi h.size) fun hm => by rcases hl i hm with h | h; exact hn h; omega).trans (h.block i hi hn)⟩
theorem Fr.then {l : List Nat} {a b c : World} (h : Fr l a b) (k : Fr [] b c) : Fr l a c := h.trans k (by simp)
theorem Fr.after {l : List Nat} {a b c : World} (h : Fr [] a b) (k : Fr l b c) : Fr l a c := (h.mono (by simp)).trans k (fun _ h => .inl h)
/-- What is turned is new. -/
theorem Fr.new {l : List Nat} {a b : World} (h : Fr l a b) (hl : ∀ x ∈ l, a.heap.size ≤ x) : Fr [] a b := (Fr.refl [] a).trans h (fun x hx => .inr (hl x hx))
theorem Fr.below {w w' : World} (h : Fr [] w w') : RowKit.Below w.heap.size w w' := ⟨h.os, h.tape, h.output, h.size, fun k hk => h.block k hk (by simp)⟩
theorem Fr.drew (w : World) : Fr [] w w.drew := ⟨rfl, rfl, rfl, Nat.le_refl _, fun _ _ _ => rfl⟩
theorem Fr.alloc (w : World) (o : Obj) : Fr [] w (w.alloc o) := ⟨rfl, rfl, rfl, by simp, fun k hk _ => by show (w.heap.push o)[k]? = _; rw [Array.getElem?_push, if_neg (by omega)]⟩
theorem Fr.setCell (w : World) (a : Addr) (v : Value) : Fr [a.block] w (w.setCell a v) :=
  ⟨rfl, rfl, rfl, by simp, fun k _ hn => by simp only [World.setCell, Array.getElem?_modify]; rw [if_neg (by simp at hn; omega)]⟩
theorem Fr.setHeap {w w' : World} {b : Nat} {o : Obj} (h : w' = { w with heap := w.heap.setIfInBounds b o }) : Fr [b] w w' := by
  subst h
  exact ⟨rfl, rfl, rfl, by simp, fun k _ hn => by rw [Array.getElem?_setIfInBounds_ne]; simp at hn; omega⟩
theorem Fr.cell {l : List Nat} {w w' : World} (h : Fr l w w') {a : Addr} {v : Value} (hc : w.cell? a = some v) (hn : a.block ∉ l) : w'.cell? a = some v := by
  rw [← hc]
  exact World.cell?_of_block (h.block _ (World.block_lt_of_cell? w a hc) hn)

/-! ### A block -/
/-- Block b has n cells, as f tells; nobody shares its bytes. -/
def Blk (w : World) (b n : Nat) (f : Nat → Value) : Prop := ∃ cs e, w.heap[b]? = some (.cells cs e) ∧ cs.size = n ∧ ∀ i, i < n → cs[i]? = some (f i)
theorem Blk.lt {w : World} {b n : Nat} {f : Nat → Value} (h : Blk w b n f) : b < w.heap.size := by
  obtain ⟨cs, e, h, _⟩ := h
  rcases Nat.lt_or_ge b w.heap.size with h' | h'
  · exact h'
  · rw [Array.getElem?_eq_none h'] at h; cases h
theorem Blk.fr {l : List Nat} {w w' : World} {b n : Nat} {f : Nat → Value} (h : Blk w b n f) (hf : Fr l w w') (hn : b ∉ l) : Blk w' b n f := by
  have hl := h.lt
  obtain ⟨cs, e, h, h2⟩ := h
  exact ⟨cs, e, (hf.block b hl hn).trans h, h2⟩
theorem Blk.fr0 {w w' : World} {b n : Nat} {f : Nat → Value} (h : Blk w b n f) (hf : Fr [] w w') : Blk w' b n f := h.fr hf (by simp)
theorem Blk.cell {w : World} {b n : Nat} {f : Nat → Value} (h : Blk w b n f) {o : Nat} (ho : o < n) : w.cell? ⟨b, o, none⟩ = some (f o) := by
  obtain ⟨cs, e, h, hs, hc⟩ := h
  simp only [World.cell?, h]
  simpa using hc o ho
theorem Blk.frozen {w : World} {b n : Nat} {f : Nat → Value} (h : Blk w b n f) (o : Nat) : w.frozen? ⟨b, o, none⟩ = false := by
  obtain ⟨cs, e, h, hs, hc⟩ := h
  simp [World.frozen?, h]
/-- A function turned at one place. -/
def upd (f : Nat → Value) (o : Nat) (v : Value) : Nat → Value := fun i => if i = o then v else f i
theorem upd_same (f : Nat → Value) (o : Nat) (v : Value) : upd f o v o = v := by simp [upd]
theorem upd_ne (f : Nat → Value) (o : Nat) (v : Value) {i : Nat} (h : i ≠ o) : upd f o v i = f i := by simp [upd, h]
/-- .. at a row of places. -/
def updN (f : Nat → Value) (o : Nat) (vs : List Value) : Nat → Value := fun i => if h : o ≤ i ∧ i - o < vs.length then vs[i - o]'h.2 else f i
theorem Blk.set {w : World} {b n : Nat} {f : Nat → Value} (h : Blk w b n f) {o : Nat} (ho : o < n) (v : Value) : Blk (w.setCell ⟨b, o, none⟩ v) b n (upd f o v) := by
  obtain ⟨cs, e, h, hs, hc⟩ := h
  refine ⟨cs.setIfInBounds o v, e, ?_, by simpa using hs, fun i hi => ?_⟩
  · simp only [World.setCell, Array.getElem?_modify, ↓reduceIte, h, Option.map_some]
    rfl
  · simp only [upd]
    by_cases hio : i = o
    · subst hio; simp [hs, hi]
    · rw [if_neg hio, Array.getElem?_setIfInBounds_ne (Ne.symm hio)]; exact hc i hi
theorem Blk.new (w : World) (cs : Array Value) (t : TypeId) (f : Nat → Value) (hf : ∀ i, i < cs.size → cs[i]? = some (f i)) : Blk (w.alloc (.cells cs t)) w.heap.size cs.size f :=
  ⟨cs, t, by show (w.heap.push _)[w.heap.size]? = _; simp, rfl, hf⟩
theorem Blk.ext {w : World} {b n : Nat} {f g : Nat → Value} (h : Blk w b n f) (hg : ∀ i, i < n → f i = g i) : Blk w b n g := by
  obtain ⟨cs, e, h, hs, hc⟩ := h
  exact ⟨cs, e, h, hs, fun i hi => (hc i hi).trans (by rw [hg i hi])⟩
/-- A new block's cells, from a list. -/
def ofL (l : List Value) : Nat → Value := fun i => l.getD i undef

/-! ### The words of the printed forms, one by one -/
theorem New.intro {cs : Array Value} {t : TypeId} {w : World} {K : Nat → World → Prop} (h : ∀ w', Fr [] w w' → Blk w' w.heap.size cs.size (fun i => cs.getD i undef) → w'.heap.size = w.heap.size + 1 → K w.heap.size w') : New cs t w K := by
  refine h _ (Fr.alloc _ _) (Blk.new _ _ _ _ fun i hi => ?_) (by simp)
  rw [Array.getD_eq_getD_getElem?, Array.getElem?_eq_getElem hi]; rfl
theorem Drw.intro {w : World} {K : World → Prop} (h : ∀ w', Fr [] w w' → w'.heap.size = w.heap.size → K w') : Drw w K := h _ (Fr.drew w) rfl

theorem run_loadVar {P : Program} {t : TypeId} (ht : res P (isAgg t) = some false) {a : Addr} {w : World} {v : Value} (hc : w.cell? a = some v) : (loadVar t a).run P w = .ok v w := by
  unfold loadVar
  rw [Sem.run_bind, run_of_res ht]
  show (load a).run P w = _
  rw [run_load, hc]
theorem Ld.cell {P : Program} {t : TypeId} (ht : res P (isAgg t) = some false) {a : Addr} {w : World} {v : Value} (hc : w.cell? a = some v) : Ld P t (.pointer (some a)) w v := by
  show (loadVar t a).run P w = _
  exact run_loadVar ht hc
theorem Ld.blk {P : Program} {t : TypeId} (ht : res P (isAgg t) = some false) {b n o : Nat} {f : Nat → Value} {w : World} {v : Value} (h : Blk w b n f) (ho : o < n) (hv : f o = v) : Ld P t (.pointer (some ⟨b, o, none⟩)) w v :=
  Ld.cell ht (by rw [h.cell ho, hv])
theorem add_mk (b o n : Nat) : (⟨b, o, none⟩ : Addr).add n = ⟨b, o + n, none⟩ := by
  unfold Addr.add; split <;> simp_all
/-- A load of an array or a struct that is told as its cells. -/
theorem Ld.agg {P : Program} {t : TypeId} {n : Nat} (ht : res P (isAgg t) = some true) (hs : res P (sizeOf t) = some n) {a : Addr} {w : World} {cs : List Value} (hn : cs.length = n) (hc : ∀ j v, cs[j]? = some v → w.cell? (a.add j) = some v) :
    Ld P t (.pointer (some a)) w (.agg ⟨cs⟩) := by
  show (loadVar t a).run P w = _
  unfold loadVar
  rw [Sem.run_bind, run_of_res ht]
  show (do pure (Value.agg (← loadCells a (← sizeOf t))) : Sem Value).run P w = _
  rw [Sem.run_bind, run_of_res hs]
  show (do pure (Value.agg (← loadCells a n)) : Sem Value).run P w = _
  rw [Sem.run_bind, ← hn, run_loadCells_list w a cs hc]
  rfl
theorem run_storeVar {P : Program} {t : TypeId} (hs : res P (sizeOf t) = some 1) {a : Addr} {w : World} {v : Value} (hv : v.oneCell' = true) (hc1 : v.cells = #[v]) {u : Value} (hc : w.cell? a = some u) (hz : w.frozen? a = false) :
    (storeVar t a v).run P w = .ok () (w.setCell a v) := by
  have e : a.add 0 = a := rfl
  unfold storeVar
  rw [Sem.run_bind, run_of_res hs]
  simp [hc1, storeCells, e, run_store _ _ _ _ _ hv, hc, hz, Result.andThen]
end Go.Fw
