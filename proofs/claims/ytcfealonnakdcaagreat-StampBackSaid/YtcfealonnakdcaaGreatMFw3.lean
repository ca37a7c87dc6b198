/- A part of a proof of a given law of this program: lemmas, printed forms of its functions, contracts. It has no conditions of its own. -/
import Derived.Stop.BytesEq
import Derived.ChangeKeysEq
import Derived.OpenShut
import Derived.Laws.BytesString
import Derived.Laws.Externs
import Derived.Test.YtcfealonnakdcaaGreatMFw2
import Derived.Test.YtcfealonnakdcaaGreatMFw

section
namespace Go.Fw
open Go
def isU8 (P : Program) (e : TypeId) : Bool := match P.underlying e with | some (.int .u8) => true | _ => false
theorem isU8_out {P : Program} {e : TypeId} (h : isU8 P e = true) : P.underlying e = some (.int .u8) := by unfold isU8 at h; split at h <;> first | assumption | cases h
end Go.Fw
end

section
namespace Go.Fw
open Go
theorem Fr.st {a b c : World} {k : Nat} (h : Fr [] a b) (f : Fr [k] b c) (hk : a.heap.size ≤ k) : Fr [] a c := h.trans f (fun z hz => .inr (by simp at hz; omega))
def LpAt (w : World) (l : Nat) (r : Loop) : Prop := w.heap[l]? = some (.loop r)
def DfAt (w : World) (d : Nat) : Prop := w.heap[d]? = some (.deferred (some []))
theorem LpAt.fr {L : List Nat} {w w' : World} {l : Nat} {r : Loop} (h : LpAt w l r) (hf : Fr L w w') (hn : l ∉ L) : LpAt w' l r := (hf.block l (heap_lt h) hn).trans h
theorem LpAt.fr0 {w w' : World} {l : Nat} {r : Loop} (h : LpAt w l r) (hf : Fr [] w w') : LpAt w' l r := h.fr hf (by simp)
theorem DfAt.fr {L : List Nat} {w w' : World} {d : Nat} (h : DfAt w d) (hf : Fr L w w') (hn : d ∉ L) : DfAt w' d := (hf.block d (heap_lt h) hn).trans h
theorem DfAt.fr0 {w w' : World} {d : Nat} (h : DfAt w d) (hf : Fr [] w w') : DfAt w' d := h.fr hf (by simp)
def EndR (P : Program) (l : Nat) (j : Option Code) (b : Bool) (w : World) (K : Value → World → Prop) : Prop := ∃ w', (Instr.endRound l j).run P w = .ok (.bool b) w' ∧ K (.bool b) w'
def BegR (P : Program) (l : Nat) (w : World) (K : World → Prop) : Prop := ∃ w', (Instr.beginRound l).run P w = .ok () w' ∧ K w'
def roundK (P : Program) (l : Nat) (K : Value → World → Prop) : KS
  | .normal, _, w => EndR P l none true w K
  | .ret, _, w => EndR P l (some .ret) false w K
  | _, _, _ => False
def begK (P : Program) (l : Nat) (nt : Nat) (tt : Nat → List (Nat × TypeId)) (body : Code) (K : Value → World → Prop) : KS
  | .normal, s, w => BegR P l w fun w₂ => sw P (some l) nt tt body 0 (roundK P l K) s w₂
  | _, _, _ => False
theorem round_of_sw {P : Program} {l : Nat} {f : FuncId} {tmps : List Value} {nt : Nat} {assign body : Code} {w : World} {K : Value → World → Prop} (tt1 tt2 : Nat → List (Nat × TypeId)) (hn : tmps.length = nt)
    (h : sw P (some l) nt tt1 assign 0 (begK P l nt tt2 body K) ⟨regs tmps, []⟩ w) : RoundIn (fen none) 0 P l f ⟨tmps⟩ assign body w fun e w' => ∃ v, e = .returned v ∧ K v w' := by
  subst hn
  have hrep : Rep tmps.length { tmps := (⟨tmps⟩ : Array Value), defers := [] } ⟨regs tmps, []⟩ := ⟨rfl, fun t => by simp [regs, Array.getD_eq_getD_getElem?, List.getD_eq_getElem?_getD], rfl⟩
  refine roundIn_of_wpIn (F := fen none) (n := 0) (l := l) trivial ?_
  refine wpIn_mono (sw_sound (ro := some l) assign 0 _ _ _ w hrep h) ?_
  intro e a w1 hp
  cases e with
  | normal =>
    obtain ⟨s, hr, hb⟩ := hp
    obtain ⟨w2, hbr, hb⟩ := hb
    refine ⟨w2, hbr, wpIn_mono (sw_sound (ro := some l) body 0 _ _ _ w2 hr hb) ?_⟩
    intro e2 a2 w3 hp2
    cases e2 with
    | normal => obtain ⟨s, _, w4, h4, hk⟩ := hp2; exact ⟨_, w4, h4, _, rfl, hk⟩
    | ret => obtain ⟨s, _, w4, h4, hk⟩ := hp2; exact ⟨_, w4, h4, _, rfl, hk⟩
    | exit i => obtain ⟨s, _, hk⟩ := hp2; exact hk.elim
    | goto i => obtain ⟨s, _, hk⟩ := hp2; exact hk.elim
    | panic c => exact hp2.elim
    | outgrown => exact hp2.elim
  | ret => obtain ⟨s, _, hk⟩ := hp; exact hk.elim
  | exit i => obtain ⟨s, _, hk⟩ := hp; exact hk.elim
  | goto i => obtain ⟨s, _, hk⟩ := hp; exact hk.elim
  | panic c => exact hp.elim
  | outgrown => exact hp.elim
theorem run_getLoop {P : Program} {w : World} {l : Nat} {r : Loop} (h : LpAt w l r) : (Instr.getLoop l).run P w = .ok r w := by
  unfold LpAt at h
  show ((getObj l >>= _ : Sem Loop)).run P w = _
  rw [Sem.run_bind]
  have : (getObj l).run P w = .ok (.loop r) w := by simp [getObj, Sem.run, h]
  rw [this]; rfl
def setO (w : World) (l : Nat) (o : Obj) : World := { w with heap := w.heap.setIfInBounds l o }
theorem run_setLoop {P : Program} {w : World} {l : Nat} {r : Loop} (h : LpAt w l r) (o : Obj) : (setObj l o).run P w = .ok () (setO w l o) := by
  unfold LpAt at h
  show (match w.heap[l]? with | some (.cells ..) => _ | some _ => _ | none => _ : Result Unit) = _
  rw [h]; rfl
theorem setO_fr (w : World) (l : Nat) (o : Obj) : Fr [l] w (setO w l o) := Fr.setHeap rfl
theorem setO_lp {w : World} {l : Nat} {r : Loop} (h : LpAt w l r) (r' : Loop) : LpAt (setO w l (.loop r')) l r' := by
  have := heap_lt h
  unfold LpAt setO
  simp [this]
theorem setO_size (w : World) (l : Nat) (o : Obj) : (setO w l o).heap.size = w.heap.size := by simp [setO]
theorem BegR.of {P : Program} {w : World} {l : Nat} {r : Loop} (h : LpAt w l r) (hs : r.state = .ready) {K : World → Prop} (hk : ∀ w', Fr [l] w w' → LpAt w' l { r with state := .busy } → w'.heap.size = w.heap.size → K w') : BegR P l w K := by
  refine ⟨setO w l (.loop { r with state := .busy }), ?_, hk _ (setO_fr _ _ _) (setO_lp h _) (setO_size _ _ _)⟩
  show ((Instr.getLoop l >>= _ : Sem Unit)).run P w = _
  rw [Sem.run_bind, run_getLoop h]
  show ((setObj l _ >>= _ : Sem Unit)).run P w = _
  rw [Sem.run_bind, run_setLoop h]
  show ((match r.state with | .ready => pure () | .done => _ | .busy => _ | .exhausted => _ : Sem Unit)).run P _ = _
  rw [hs]; rfl
theorem EndR.of {P : Program} {w : World} {l : Nat} {r : Loop} (h : LpAt w l r) (j : Option Code) {b : Bool} (hb : b = j.isNone) {K : Value → World → Prop} (hk : ∀ w', Fr [l] w w' → LpAt w' l { r with state := if j.isNone then .ready else .done, pending := j } → w'.heap.size = w.heap.size → K (.bool b) w') : EndR P l j b w K := by
  subst hb
  refine ⟨setO w l (.loop { r with state := if j.isNone then .ready else .done, pending := j }), ?_, hk _ (setO_fr _ _ _) (setO_lp h _) (setO_size _ _ _)⟩
  show ((Instr.getLoop l >>= _ : Sem Value)).run P w = _
  rw [Sem.run_bind, run_getLoop h]
  show ((setObj l _ >>= _ : Sem Value)).run P w = _
  rw [Sem.run_bind, run_setLoop h]; rfl
theorem Tk.of {P : Program} {w : World} {d : Nat} (h : DfAt w d) : ∃ w', Tk P d w w' ∧ Fr [d] w w' ∧ w'.heap.size = w.heap.size := by
  refine ⟨setO w d (.deferred none), ?_, setO_fr _ _ _, setO_size _ _ _⟩
  unfold DfAt at h
  show ((getObj d >>= _ : Sem (List Deferred))).run P w = _
  rw [Sem.run_bind]
  have e1 : (getObj d).run P w = .ok (.deferred (some [])) w := by simp [getObj, Sem.run, h]
  rw [e1]
  show ((setObj d _ >>= _ : Sem (List Deferred))).run P w = _
  rw [Sem.run_bind]
  have e2 : (setObj d (.deferred none)).run P w = .ok () (setO w d (.deferred none)) := by
    show (match w.heap[d]? with | some (.cells ..) => _ | some _ => _ | none => _ : Result Unit) = _
    rw [h]; rfl
  rw [e2]; rfl
theorem yield_c {P : Program} {w : World} {l : Nat} {r : Loop} (h : LpAt w l r) {args : List Value} (ha : args.length = r.params.size) {tmps : Array Value}
    (ht : (r.params.zip ⟨args⟩).foldl (fun tmps (t, a) => tmps.setIfInBounds t a) r.tmps = tmps) {K : Value → World → Prop}
    (hr : RoundIn (fen none) 0 P l r.fn tmps r.assign r.body w fun e w' => ∃ v, e = .returned v ∧ K v w') : callV P (.func (.yield l) #[] #[]) args w K := by
  refine callV_in ?_
  show yieldK P l ⟨[] ++ args⟩ w K
  refine ⟨r.fn, tmps, r.assign, r.body, w, ?_, hr⟩
  show ((Instr.getLoop l >>= _ : Sem Next)).run P w = _
  rw [Sem.run_bind, run_getLoop h]
  show ((if (⟨args⟩ : Array Value).size ≠ r.params.size then stuck _ >>= _ else _ : Sem Next)).run P w = _
  rw [if_neg (by simpa using ha)]
  show Result.ok (Next.round l r.fn ((r.params.zip ⟨args⟩).foldl (fun tmps (t, a) => tmps.setIfInBounds t a) r.tmps) r.assign r.body) w = _
  rw [ht]
theorem yield_r {P : Program} {w : World} {l df : Nat} {fn : FuncId} {tmps0 : Array Value} {ps : Array Tmp} {assign body : Code} (h : LpAt w l (rec0 fn tmps0 ps assign body df)) {args : List Value} {tmps : Array Value} {K : Value → World → Prop} (ha : args.length = ps.size)
    (ht : (ps.zip ⟨args⟩).foldl (fun tmps (t, a) => tmps.setIfInBounds t a) tmps0 = tmps)
    (hr : RoundIn (fen none) 0 P l fn tmps assign body w fun e w' => ∃ v, e = .returned v ∧ K v w') : callV P (.func (.yield l) #[] #[]) args w K := yield_c h ha ht hr
theorem RangeF.of {P : Program} {gf : FuncId} {cap : List Value} {tmps : Array Value} {rf : Array Tmp × Code × Code} {w : World} {Kn Kr : Nat → World → Prop} (he : ∀ args w, (callFunc gf args).run P w = .ok (.enter gf args) w)
    (h : ∀ fn w2, Fr [] w w2 → w2.heap.size = w.heap.size + 2 → DfAt w2 w.heap.size → LpAt w2 (w.heap.size + 1) (rec0 fn tmps rf.1 rf.2.1 rf.2.2 w.heap.size) →
      callF P gf ⟨.func (.yield (w.heap.size + 1)) #[] #[] :: cap⟩ w2 fun _ w3 => ∃ r, LpAt w3 (w.heap.size + 1) r ∧ r.state ≠ .busy ∧
        ∀ w4, Fr [w.heap.size + 1] w3 w4 → w4.heap.size = w3.heap.size → (match r.pending with | none => Kn w.heap.size w4 | some .ret => Kr w.heap.size w4 | _ => False)) :
    RangeF P (.func (.func gf) #[] ⟨cap⟩) tmps rf w Kn Kr := by
  refine ⟨gf, #[], ⟨cap⟩, rfl, he, fun fn => ?_⟩
  have f1 := Fr.alloc w (.deferred (some []))
  have f2 := Fr.alloc (w.alloc (.deferred (some []))) (.loop (rec0 fn tmps rf.1 rf.2.1 rf.2.2 w.heap.size))
  have s1 : (w.alloc (.deferred (some []))).heap.size = w.heap.size + 1 := by simp
  have hD : DfAt (w.alloc (.deferred (some []))) w.heap.size := by show (w.heap.push _)[w.heap.size]? = _; simp
  have hL : LpAt ((w.alloc (.deferred (some []))).alloc (.loop (rec0 fn tmps rf.1 rf.2.1 rf.2.2 w.heap.size))) (w.heap.size + 1) (rec0 fn tmps rf.1 rf.2.1 rf.2.2 w.heap.size) := by
    show ((w.alloc (.deferred (some []))).heap.push _)[w.heap.size + 1]? = _
    rw [Array.getElem?_push, if_pos s1.symm]
  have h1 := h fn _ (f1.then f2) (by simp) (hD.fr0 f2) hL
  refine callK_of_callF (he _ _) (callF_mono (fun v w3 hw => ?_) h1)
  obtain ⟨r, hr, hb, hk⟩ := hw
  refine ⟨r.pending, setO w3 (w.heap.size + 1) (.loop { r with state := .exhausted }), ?_, ?_⟩
  · show ((Instr.getLoop (w.heap.size + 1) >>= _ : Sem (Option Code))).run P w3 = _
    rw [Sem.run_bind, run_getLoop hr]
    have hb' : (r.state == .busy) = false := by cases hst : r.state <;> first | rfl | exact absurd hst hb
    show ((if (r.state == .busy) = true then runtimePanic _ >>= _ else _ : Sem (Option Code))).run P w3 = _
    rw [hb']
    show ((setObj (w.heap.size + 1) _ >>= _ : Sem (Option Code))).run P w3 = _
    rw [Sem.run_bind, run_setLoop hr]; rfl
  · exact hk (setO w3 (w.heap.size + 1) (.loop { r with state := .exhausted })) (setO_fr _ _ _) (setO_size _ _ _)
end Go.Fw
end

section
namespace Go.Fw
open Go
def OwnN (s : Nat) (w : World) (p : Option Addr) (l c : Nat) (vs : List Value) : Prop :=
  vs.length = l * s ∧ ((p = none ∧ l = 0 ∧ c = 0) ∨ ∃ g o N f, p = some ⟨g, o, none⟩ ∧ Blk w g N f ∧ o + c * s ≤ N ∧ l ≤ c ∧ ∀ i v, vs[i]? = some v → f (o + i) = v)
section
variable {s : Nat} {w : World} {p : Option Addr} {l c : Nat} {vs : List Value}
theorem OwnN.row (h : OwnN s w p l c vs) : Row w p vs := by
  obtain ⟨hl, ⟨_, h0, _⟩ | ⟨g, o, N, f, rfl, hB, hc, hlc, hf⟩⟩ := h
  · exact .inl (List.length_eq_zero_iff.1 (by rw [hl, h0, Nat.zero_mul]))
  · refine hB.row o vs fun j v hj => ⟨?_, hf j v hj⟩
    have := (List.getElem?_eq_some_iff.1 hj).1
    have := Nat.mul_le_mul_right s hlc
    omega
theorem OwnN.fr {l0 : List Nat} {w' : World} (h : OwnN s w p l c vs) (hf : Fr l0 w w') (hn : ∀ k ∈ blks p, k ∉ l0) : OwnN s w' p l c vs := by
  obtain ⟨hl, h | ⟨g, o, N, f, rfl, hB, rest⟩⟩ := h
  · exact ⟨hl, .inl h⟩
  · exact ⟨hl, .inr ⟨g, o, N, f, rfl, hB.fr hf (hn g (by simp [blks])), rest⟩⟩
theorem OwnN.fr0 {w' : World} (h : OwnN s w p l c vs) (hf : Fr [] w w') : OwnN s w' p l c vs := h.fr hf (by simp)
theorem OwnN.nil (s : Nat) (w : World) : OwnN s w none 0 0 [] := ⟨by simp, .inl ⟨rfl, rfl, rfl⟩⟩
theorem OwnN.lt (h : OwnN s w p l c vs) : ∀ k ∈ blks p, k < w.heap.size := by
  obtain ⟨hl, ⟨rfl, _⟩ | ⟨g, o, N, f, rfl, hB, rest⟩⟩ := h
  · simp [blks]
  · simp [blks]; exact hB.lt
theorem OwnN.cap (h : OwnN s w p l c vs) : l ≤ c := by
  obtain ⟨hl, ⟨_, h0, h1⟩ | ⟨g, o, N, f, rfl, hB, hc, hlc, hf⟩⟩ := h <;> omega
end
def appNB (P : Program) (t : TypeId) (s : Nat) : Bool :=
  match P.underlying t with
  | some (.slice e) => (match P.info? e with | some i => i.size == s && (match i.zero with | some z => z.cells.size == s | none => false) && Nat.ble i.bytes 4096 && Nat.ble 1 i.bytes | none => false)
  | _ => false
theorem appNB_out {P : Program} {t : TypeId} {s : Nat} (h : appNB P t s = true) : ∃ e i z, P.underlying t = some (.slice e) ∧ P.info? e = some i ∧ i.size = s ∧ i.zero = some z ∧ z.cells.size = s ∧ i.bytes ≤ 4096 := by
  unfold appNB at h
  split at h
  · rename_i e he
    split at h
    · rename_i i hi
      split at h
      · rename_i z hz
        simp only [Bool.and_eq_true, beq_iff_eq] at h
        exact ⟨e, i, z, he, hi, h.1.1.1, hz, h.1.1.2, Nat.le_of_ble_eq_true h.1.2⟩
      · simp at h
    · cases h
  · cases h
theorem run_firstCellsN {P : Program} {w : World} {p : Option Addr} {vs : List Value} (h : Row w p vs) {s n len cap : Nat} (hl : vs.length = n * s) : (Builtin.firstCells s n (.slice p len cap)).run P w = .ok vs.toArray w := by
  rcases h with rfl | ⟨b, o, rfl, h⟩
  · cases p with
    | none => simp [Builtin.firstCells]
    | some a => exact run_firstCells_some w s n a len cap [] (by simp at hl ⊢; omega) (by simp)
  · exact run_firstCells_some w s n ⟨b, o, none⟩ len cap vs (by omega) fun j v hj => by rw [add_mk]; exact h j v hj
theorem Ef.appendN {P : Program} {t ty : TypeId} {s : Nat} (ht : appNB P t s = true) {w : World} {p : Option Addr} {l c : Nat} {vs : List Value} (hO : OwnN s w p l c vs) {q : Option Addr} {m d : Nat} {us : List Value} (hR : Row w q us) (hm : us.length = m * s)
    (h1 : ∀ u ∈ us, u.oneCell' = true) (hlen : l + m ≤ 1073741824) :
    ∃ p' c' w', Ef P (Builtin.append_ #[t, t] ty #[.slice p l c, .slice q m d]) w (.slice p' (l + m) c') w' ∧ OwnN s w' p' (l + m) c' (vs ++ us) ∧ Fr (blks p) w w' ∧
      ((p' = p ∧ c' = c ∧ w'.heap.size = w.heap.size) ∨ (p' = some ⟨w.heap.size, 0, none⟩ ∧ Fr [] w w' ∧ w'.heap.size = w.heap.size + 1)) := by
  obtain ⟨e, i, z, hu, hi, hsz, hz, hzc, hby⟩ := appNB_out ht
  have hvl := hO.1
  have hsum : (vs ++ us).length = (l + m) * s := by rw [List.length_append, hvl, hm, Nat.add_mul]
  by_cases hn : l + m ≤ c
  · obtain ⟨hl, ⟨rfl, h0, hc0⟩ | ⟨g, o, N, f, rfl, hB, hoc, hlc, hf⟩⟩ := hO
    · have hm0 : m = 0 := by omega
      subst hm0; subst h0; subst hc0
      have hus : us = [] := List.length_eq_zero_iff.1 (by omega)
      have hvs : vs = [] := List.length_eq_zero_iff.1 (by omega)
      subst hus; subst hvs
      have hfc := run_firstCellsN (P := P) (s := s) (n := 0) (len := 0) (cap := d) hR (by simp)
      refine ⟨none, 0, w, ?_, ⟨by simp, .inl ⟨rfl, rfl, rfl⟩⟩, Fr.refl _ _, .inl ⟨rfl, rfl, rfl⟩⟩
      show (Builtin.append_ #[t, t] ty #[.slice none 0 0, .slice q 0 d]).run P w = _
      simp [Builtin.append_, run_underlying hu, sizeOf, typeInfo, hi, hsz, Builtin.lenOf, hfc]
    · have hfc := run_firstCellsN (P := P) (s := s) (n := m) (len := m) (cap := d) hR hm
      have hcs : (l + m) * s ≤ c * s := Nat.mul_le_mul_right s hn
      rw [Nat.add_mul] at hcs
      obtain ⟨w', hst, hfr, hB', hsize⟩ := run_storeCells (P := P) us 0 g N (o + l * s) f w hB (by omega) h1
      refine ⟨some ⟨g, o, none⟩, c, w', ?_, ⟨hsum, .inr ⟨g, o, N, _, rfl, hB', hoc, hn, ?_⟩⟩, hfr, .inl ⟨rfl, rfl, hsize⟩⟩
      · have e1 : (⟨g, o, none⟩ : Addr).add (l * s) = ⟨g, o + l * s, none⟩ := add_mk _ _ _
        show (Builtin.append_ #[t, t] ty #[.slice (some ⟨g, o, none⟩) l c, .slice q m d]).run P w = _
        simp [Builtin.append_, run_underlying hu, sizeOf, typeInfo, hi, hsz, Builtin.lenOf, hn, hfc, e1, hst]
      · intro j v hj
        unfold updN
        by_cases hjl : j < vs.length
        · rw [dif_neg (by omega)]
          rw [List.getElem?_append_left hjl] at hj
          exact hf j v hj
        · rw [List.getElem?_append_right (by omega)] at hj
          have hlt := (List.getElem?_eq_some_iff.1 hj).1
          rw [dif_pos (by omega)]
          have e2 : o + j - (o + l * s + 0) = j - vs.length := by omega
          rw [List.getElem?_eq_some_iff] at hj
          obtain ⟨_, hj⟩ := hj
          simp only [e2]
          exact hj
  · have h63' : ¬ (9223372036854775807 < ((l : Int) + (m : Int))) := by omega
    have hbb : (l + m) * i.bytes ≤ 140737488355328 := Nat.le_trans (Nat.mul_le_mul hlen hby) (by decide)
    have h48' : ¬ (281474976710656 < Builtin.nextslicecap (l + m) c * i.bytes) := by
      have hlc := hO.cap
      have := growslice_fits (need := l + m) (old := c) (by omega) hbb; omega
    have hf := run_firstCellsN (P := P) (w := w.drew) (s := s) (n := m) (len := m) (cap := d) (hR.fr0 (Fr.drew w)) hm
    have hfo := run_firstCellsN (P := P) (w := w.drew) (s := s) (n := l) (len := l) (cap := c) (hO.row.fr0 (Fr.drew w)) hvl
    have hge := grownCap_ge w (l + m) c e
    refine ⟨some ⟨w.heap.size, 0, none⟩, grownCap w (l + m) c e, w.drew.alloc (.cells (vs.toArray ++ us.toArray ++ Builtin.zeroCells z.cells (grownCap w (l + m) c e - (l + m))) e), ?_, ?_, ?_, .inr ⟨rfl, ?_, by simp⟩⟩
    · show (Builtin.append_ #[t, t] ty #[.slice p l c, .slice q m d]).run P w = _
      simp [Builtin.append_, run_underlying hu, sizeOf, typeInfo, zeroValue, hi, hz, hsz, Builtin.lenOf, hn, h63', h48', Question.forced, hf, hfo, newRow, grownCap]
      congr 2
      apply Array.ext'
      simp [List.append_assoc]
    · refine ⟨hsum, .inr ⟨w.heap.size, 0, (vs.toArray ++ us.toArray ++ Builtin.zeroCells z.cells (grownCap w (l + m) c e - (l + m))).size, fun i => (vs.toArray ++ us.toArray ++ Builtin.zeroCells z.cells (grownCap w (l + m) c e - (l + m))).getD i undef, rfl, ?_, ?_, hge, ?_⟩⟩
      · exact Blk.new w.drew (vs.toArray ++ us.toArray ++ Builtin.zeroCells z.cells (grownCap w (l + m) c e - (l + m))) e (fun i => (vs.toArray ++ us.toArray ++ Builtin.zeroCells z.cells (grownCap w (l + m) c e - (l + m))).getD i undef) (fun i hi => by rw [Array.getD_eq_getD_getElem?, Array.getElem?_eq_getElem hi]; rfl)
      · have hk : (l + m) * s + (grownCap w (l + m) c e - (l + m)) * s = grownCap w (l + m) c e * s := by rw [← Nat.add_mul]; congr 1; omega
        have hk2 : (l + m) * s = l * s + m * s := Nat.add_mul _ _ _
        simp [size_zeroCells, hzc]; omega
      · intro j v hj
        have hlt := (List.getElem?_eq_some_iff.1 hj).1
        rw [Nat.zero_add]
        show (vs.toArray ++ us.toArray ++ Builtin.zeroCells z.cells (grownCap w (l + m) c e - (l + m))).getD j undef = v
        rw [Array.getD_eq_getD_getElem?, Array.getElem?_append_left (by simpa using hlt)]
        have e3 : (vs.toArray ++ us.toArray)[j]? = some v := by rw [← hj]; simp
        rw [e3]; rfl
    · exact ((Fr.drew w).then (Fr.alloc _ _)).mono (by simp)
    · exact (Fr.drew w).then (Fr.alloc _ _)
theorem OwnN.cellAt {s : Nat} {w : World} {p : Option Addr} {l c : Nat} {vs : List Value} (h : OwnN s w p l c vs) {P : Program} {t : TypeId} (ht : sliceB P t s = true) {k : IntKind} {i : Nat} (hi : i < l) (_hs : 0 < s) :
    ∃ b o, IxA P t (.slice p l c) (.int k (i : Int)) ⟨b, o, none⟩ ∧ b ∈ blks p ∧ ∀ j v, j < s → vs[i * s + j]? = some v → w.cell? ⟨b, o + j, none⟩ = some v := by
  obtain ⟨hl, ⟨_, h0, _⟩ | ⟨g, o, N, f, rfl, hB, hc, hlc, hf⟩⟩ := h
  · omega
  · have hx := ixS (P := P) ht (b := g) (o := o) (len := l) (cap := c) (k := k) (i := (i : Int)) (by omega) (by omega)
    rw [Int.toNat_natCast] at hx
    refine ⟨g, o + i * s, hx, by simp [blks], fun j v hj hv => ?_⟩
    have h1 : (i + 1) * s ≤ c * s := Nat.mul_le_mul_right s (by omega)
    rw [Nat.add_mul, Nat.one_mul] at h1
    rw [hB.cell (by omega), show o + i * s + j = o + (i * s + j) by omega, hf _ _ hv]
theorem Row.cellAt {s : Nat} {w : World} {p : Option Addr} {vs : List Value} (h : Row w p vs) {P : Program} {t : TypeId} (ht : sliceB P t s = true) {k : IntKind} {l c i : Nat} (hl : vs.length = l * s) (hi : i < l) (_hs : 0 < s) :
    ∃ b o, IxA P t (.slice p l c) (.int k (i : Int)) ⟨b, o, none⟩ ∧ b ∈ blks p ∧ ∀ j v, j < s → vs[i * s + j]? = some v → w.cell? ⟨b, o + j, none⟩ = some v := by
  rcases h with h0 | ⟨g, o, rfl, hf⟩
  · subst h0
    have h1 : 1 * s ≤ l * s := Nat.mul_le_mul_right s (by omega)
    simp at hl; omega
  · have hx := ixS (P := P) ht (b := g) (o := o) (len := l) (cap := c) (k := k) (i := (i : Int)) (by omega) (by omega)
    rw [Int.toNat_natCast] at hx
    refine ⟨g, o + i * s, hx, by simp [blks], fun j v hj hv => ?_⟩
    rw [show o + i * s + j = o + (i * s + j) by omega]
    exact hf _ _ hv
end Go.Fw
end

section
namespace Go.Fw
open Go
inductive Leaf where
  | int (k : IntKind)
  | bool
  | str
  | bytes
  | arr8 (n : Nat)
  | other (n : Nat)
def DecLeaf (w : World) : Leaf → List Value → Prop
  | .int k, cs => ∃ i, cs = [.int k i] ∧ (Lit.int k i).wf = true
  | .bool, cs => ∃ b, cs = [.bool b]
  | .str, cs => ∃ s : ByteArray, cs = [.string s] ∧ s.size ≤ maxLen
  | .bytes, cs => ∃ (q : Option Addr) (xs : List UInt8) (c : Nat), cs = [.slice q xs.length c] ∧ xs.length ≤ c ∧ xs.length ≤ maxLen ∧ Row w q (xs.map fun x => .int .u8 (x.toNat : Int))
  | .arr8 n, cs => ∃ xs : List UInt8, xs.length = n ∧ cs = xs.map fun x => .int .u8 (x.toNat : Int)
  | .other n, cs => cs.length = n
def DecL (w : World) : List Leaf → List Value → Prop
  | [], cs => cs = []
  | l :: ls, cs => ∃ c1 c2, cs = c1 ++ c2 ∧ DecLeaf w l c1 ∧ DecL w ls c2
theorem DecL.append {w : World} : ∀ {l1 l2 : List Leaf} {c1 c2 : List Value}, DecL w l1 c1 → DecL w l2 c2 → DecL w (l1 ++ l2) (c1 ++ c2) := by
  intro l1
  induction l1 with
  | nil => intro l2 c1 c2 h1 h2; subst h1; exact h2
  | cons l ls ih =>
    intro l2 c1 c2 h1 h2
    obtain ⟨a, b, rfl, ha, hb⟩ := h1
    exact ⟨a, b ++ c2, by rw [List.append_assoc], ha, ih hb h2⟩
theorem DecL.one {w : World} {l : Leaf} {cs : List Value} (h : DecLeaf w l cs) : DecL w [l] cs := ⟨cs, [], by simp, h, rfl⟩
def leavesF (P : Program) (rec : TypeId → Option (List Leaf)) : List Field → Nat → Option (List Leaf × Nat)
  | [], o => some ([], o)
  | f :: fs, o => if f.offset == o then (match rec f.type with | some l => (match leavesF P rec fs (o + P.cellsOf f.type) with | some (ls, e) => some (l ++ ls, e) | none => none) | none => none) else none
def leaves (P : Program) : Nat → TypeId → Option (List Leaf)
  | 0, _ => none
  | n + 1, t =>
    match P.underlying t with
    | some .bool => some [.bool]
    | some (.int k) => some [.int k]
    | some .string => some [.str]
    | some (.slice e) => if isU8 P e && P.cellsOf e == 1 then some [.bytes] else none
    | some (.array m e) => if isU8 P e && P.cellsOf e == 1 && P.cellsOf t == m then some [.arr8 m] else none
    | some (.struct fs) => (match leavesF P (leaves P n) fs.toList 0 with | some (ls, e) => if P.cellsOf t == e then some ls else none | none => none)
    | _ => none
end Go.Fw
end

section
namespace Go.Fw
open Go
theorem Ef.appendZN {P : Program} {t ti ty : TypeId} {s : Nat} (ht : appNB P t s = true) (hs0 : s ≠ 0) (hti : intB P ti = true) {w : World} {n : Nat} (h0 : 0 < n) (hn : n ≤ 1073741824) :
    ∃ c' w', Ef P (Builtin.append_ #[t, ti] ty #[.slice none 0 0, .int .i64 (n : Int)]) w (.slice (some ⟨w.heap.size, 0, none⟩) n c') w' ∧ n ≤ c' ∧ Fr [] w w' ∧ (∃ f, Blk w' w.heap.size (c' * s) f) ∧ w'.heap.size = w.heap.size + 1 := by
  obtain ⟨e, i, z, hu, hi, hsz, hz, hzc, hby⟩ := appNB_out ht
  obtain ⟨k, hk⟩ := intB_out hti
  have hbb : n * i.bytes ≤ 140737488355328 := Nat.le_trans (Nat.mul_le_mul hn hby) (by decide)
  have h48' : ¬ (281474976710656 < Builtin.nextslicecap n 0 * i.bytes) := by have := growslice_fits (need := n) (old := 0) (by omega) hbb; omega
  have hbi : ¬ (281474976710656 < (n : Int) * (i.bytes : Int)) := by
    have : ((n * i.bytes : Nat) : Int) ≤ 140737488355328 := by omega
    rw [Int.natCast_mul] at this; omega
  have hw : IntKind.i64.wrap (n : Int) = (n : Int) := by rw [IntKind.wrap_i64]; omega
  have hn0 : ¬ (n ≤ 0) := by omega
  have hn0' : n ≠ 0 := by omega
  have h63' : ¬ (9223372036854775807 < (n : Int)) := by omega
  have hge := grownCap_ge w n 0 e
  have hneg : ¬ ((n : Int) < 0) := by omega
  have ha : Sem.run P (asIntOf (.int .i64 (n : Int))) w = .ok (.i64, (n : Int)) w := rfl
  refine ⟨grownCap w n 0 e, w.drew.alloc (.cells (Builtin.zeroCells z.cells n ++ Builtin.zeroCells z.cells (grownCap w n 0 e - n)) e), ?_, hge, (Fr.drew w).then (Fr.alloc _ _), ?_, by simp⟩
  · show (Builtin.append_ #[t, ti] ty #[.slice none 0 0, .int .i64 (n : Int)]).run P w = _
    simp [Builtin.append_, run_underlying hu, run_underlying hk, sizeOf, typeInfo, zeroValue, hi, hz, hsz, Builtin.lenOf, hw, hneg, hbi, hn0', h63', h48', Question.forced, Builtin.firstCells, newRow, grownCap, asInt, ha]
    intro h; exact absurd h (Nat.mul_ne_zero hn0' hs0)
  · have := Blk.new w.drew (Builtin.zeroCells z.cells n ++ Builtin.zeroCells z.cells (grownCap w n 0 e - n)) e (fun i => (Builtin.zeroCells z.cells n ++ Builtin.zeroCells z.cells (grownCap w n 0 e - n)).getD i undef) (fun i hi => by rw [Array.getD_eq_getD_getElem?, Array.getElem?_eq_getElem hi]; rfl)
    have hs : (Builtin.zeroCells z.cells n ++ Builtin.zeroCells z.cells (grownCap w n 0 e - n)).size = grownCap w n 0 e * s := by
      rw [Array.size_append, size_zeroCells, size_zeroCells, hzc, ← Nat.add_mul]; congr 1; omega
    rw [hs] at this
    exact ⟨_, this⟩
theorem PuSl4 {P : Program} {t : TypeId} {s : Nat} (ht : sliceB P t s = true) {p : Option Addr} {len cap : Nat} {kl kh km : IntKind} {lo hi mx : Int} (h0 : 0 ≤ lo) (h1 : lo ≤ hi) (h2 : hi ≤ mx) (h3 : mx ≤ cap) :
    Pu P (Instr.sliceAt t (.slice p len cap) (some (.int kl lo)) (some (.int kh hi)) (some (.int km mx))) (.slice (partAt p mx.toNat lo.toNat s) (hi.toNat - lo.toNat) (mx.toNat - lo.toNat)) := by
  obtain ⟨e, hu, hs⟩ := sliceB_out ht
  have hb : res P (Instr.sliceBounds true len cap (some (.int kl lo)) (some (.int kh hi)) (some (.int km mx))) = some (lo.toNat, hi.toNat, mx.toNat) := by
    show res P ((Instr.sliceBound (.int km mx) cap _).bind fun m => (Instr.sliceBound (.int kh hi) m _).bind fun h => (Instr.sliceBound (.int kl lo) h _).bind fun l => pure (l, h, m)) = _
    rw [res_bind, res_bound (by omega) h3]
    show res P ((Instr.sliceBound (.int kh hi) mx.toNat _).bind fun h => (Instr.sliceBound (.int kl lo) h _).bind fun l => pure (l, h, mx.toNat)) = _
    rw [res_bind, res_bound (by omega) (by omega)]
    show res P ((Instr.sliceBound (.int kl lo) hi.toNat _).bind fun l => pure (l, hi.toNat, mx.toNat)) = _
    rw [res_bind, res_bound h0 (by omega)]
    rfl
  show res P ((underlying t).bind _) = _
  rw [res_bind, res_underlying hu]
  show res P ((underlying t).bind _) = _
  rw [res_bind, res_underlying hu]
  show res P ((Instr.sliceBounds true len cap (some (.int kl lo)) (some (.int kh hi)) (some (.int km mx))).bind _) = _
  rw [res_bind, hb]
  show res P ((sizeOf e).bind _) = _
  rw [res_bind, hs]
  rfl
end Go.Fw
end

section
namespace Go.Fw
open Go
def bstr (xs : List UInt8) : ByteArray := xs.foldl (fun r x => r.push x) ByteArray.empty
theorem bstr_data : ∀ (xs : List UInt8) (b : ByteArray), (xs.foldl (fun r x => r.push x) b).data = b.data ++ xs.toArray
  | [], b => by simp
  | x :: xs, b => by
    rw [List.foldl_cons, bstr_data xs (b.push x)]
    simp [ByteArray.push]
theorem bstr_list (xs : List UInt8) : (bstr xs).toList = xs := by
  rw [ByteArray.toList_eq]
  unfold bstr
  rw [bstr_data]
  simp
theorem bstr_eq (xs ys : List UInt8) : ((bstr xs).toList == (bstr ys).toList) = decide (xs = ys) := by
  rw [bstr_list, bstr_list, Bool.eq_iff_iff]; simp
def strB (P : Program) (src dst : TypeId) : Bool :=
  match P.underlying src with
  | some (.slice e) => isU8 P e && (match P.underlying dst with | some .string => true | _ => false)
  | _ => false
theorem strB_out {P : Program} {src dst : TypeId} (h : strB P src dst = true) : ∃ e, P.underlying src = some (.slice e) ∧ P.underlying e = some (.int .u8) ∧ P.underlying dst = some .string := by
  unfold strB at h
  split at h
  · rename_i e he
    simp only [Bool.and_eq_true] at h
    refine ⟨e, he, isU8_out h.1, ?_⟩
    have h2 := h.2
    split at h2
    · assumption
    · cases h2
  · cases h
theorem Ef.toStr {P : Program} {src dst : TypeId} (ht : strB P src dst = true) {w : World} {p : Option Addr} {l c : Nat} {xs : List UInt8} (hR : Row w p (xs.map fun x => .int .u8 (x.toNat : Int))) (hl : l = xs.length) :
    Ef P (convert src dst (.slice p l c)) w (.string (bstr xs)) w := by
  obtain ⟨e, hs, he, hd⟩ := strB_out ht
  show (convert src dst (.slice p l c)).run P w = _
  rw [run_convert_bytes_string w src dst e p l c hs he hd]
  have e1 : ∀ (ys : List UInt8) (b : ByteArray), (ys.map fun x => (x.toNat : Int)).foldl (fun r n => r.push (UInt8.ofNat n.toNat)) b = ys.foldl (fun r x => r.push x) b := by
    intro ys
    induction ys with
    | nil => intro b; rfl
    | cons y ys ih =>
      intro b
      rw [List.map_cons, List.foldl_cons, List.foldl_cons, Int.toNat_natCast, UInt8.ofNat_toNat, ih]
  cases p with
  | none =>
    rcases hR with h0 | ⟨b, o, hb, _⟩
    · have : xs = [] := by simpa using h0
      subst this; rfl
    · cases hb
  | some a =>
    have hcell : ∀ j v, (xs.map fun x => (Value.int .u8 (x.toNat : Int)))[j]? = some v → w.cell? (a.add j) = some v := by
      rcases hR with h0 | ⟨b, o, hb, hf⟩
      · intro j v hj; rw [h0] at hj; simp at hj
      · cases hb
        intro j v hj; rw [add_mk]; exact hf j v hj
    have hl2 : l = (xs.map fun x => (Value.int .u8 (x.toNat : Int))).length := by simpa using hl
    have h1 := run_loadCells_list (P := P) (w := w) a (xs.map fun x => (Value.int .u8 (x.toNat : Int))) hcell
    rw [← hl2] at h1
    rw [run_bytesToString w a l c (xs.map fun x => (x.toNat : Int)) (by rw [h1, List.map_map]; rfl)]
    unfold bstr
    rw [e1]
end Go.Fw
end

section
namespace Go.Fw
open Go
def lstr (xs : List UInt8) : ByteArray := ⟨⟨xs⟩⟩
theorem lstr_size (xs : List UInt8) : (lstr xs).size = xs.length := rfl
theorem lstr_list (xs : List UInt8) : (lstr xs).toList = xs := by rw [ByteArray.toList_eq]; rfl
theorem lstr_get {xs : List UInt8} {i : Nat} (h : i < xs.length) : (lstr xs)[i]? = some (xs.getD i 0) := by
  rw [ByteArray.getElem?_lt' (lstr xs) i h, List.getD_eq_getElem?_getD, List.getElem?_eq_getElem h]
  rfl
theorem lstr_extract (xs : List UInt8) (n : Nat) : (lstr xs).extract n xs.length = lstr (xs.drop n) := by
  apply ByteArray.ext
  rw [ByteArray.data_extract]
  show (xs.toArray.extract n xs.length) = (xs.drop n).toArray
  apply Array.ext'
  simp
  exact List.take_of_length_le (by simp)
def strT (P : Program) (t : TypeId) : Bool := match P.underlying t with | some .string => true | _ => false
theorem strT_out {P : Program} {t : TypeId} (h : strT P t = true) : P.underlying t = some .string := by
  unfold strT at h
  split at h
  · assumption
  · cases h
theorem PuStrIx {P : Program} {t : TypeId} (ht : strT P t = true) {xs : List UInt8} {k : IntKind} {i : Nat} (h : i < xs.length) : Pu P (Instr.index t (.string (lstr xs)) (.int k (i : Int))) (.int .u8 ((xs.getD i 0).toNat : Int)) := by
  have he := strT_out ht
  show res P ((underlying t).bind fun d => match d, Value.string (lstr xs) with
    | .array len elem, .agg cs => if 0 ≤ (i : Int) ∧ (i : Int) < len then (do part elem cs ((i : Int).toNat * (← sizeOf elem))) else boundsPanic k i len .index
    | .string, .string s => (match (if 0 ≤ (i : Int) then s[(i : Int).toNat]? else none) with | some b => pure (.int .u8 b.toNat) | none => boundsPanic k i s.size .index)
    | _, _ => stuck "Index: array or string expected") = _
  rw [res_bind, res_underlying he]
  show res P (match (if 0 ≤ (i : Int) then (lstr xs)[(i : Int).toNat]? else none) with | some b => (pure (Value.int .u8 (b.toNat : Int)) : Sem Value) | none => boundsPanic k i (lstr xs).size .index) = _
  rw [if_pos (by omega), Int.toNat_natCast, lstr_get h]
  rfl
theorem PuStrFrom {P : Program} {t : TypeId} (ht : strT P t = true) {xs : List UInt8} {k : IntKind} {n : Nat} (h : n ≤ xs.length) : Pu P (Instr.sliceAt t (.string (lstr xs)) (some (.int k (n : Int))) none none) (.string (lstr (xs.drop n))) := by
  have he := strT_out ht
  have hb := res_bounds (P := P) (isS := false) (len := (lstr xs).size) (cap := (lstr xs).size) (kl := k) (kh := k) (lo := some (n : Int)) (hi := none) (by show (0 : Int) ≤ n; omega) (by show (n : Int) ≤ _; rw [lstr_size]; show (n : Int) ≤ (xs.length : Int); omega) (by show ((lstr xs).size : Int) ≤ _; omega)
  show res P ((underlying t).bind _) = _
  rw [res_bind, res_underlying he]
  show res P ((underlying t).bind _) = _
  rw [res_bind, res_underlying he]
  show res P ((Instr.sliceBounds false (lstr xs).size (lstr xs).size (lowV k (some (n : Int))) (lowV k none) none).bind _) = _
  rw [res_bind, hb]
  show some (Value.string ((lstr xs).extract (n : Int).toNat (lstr xs).size)) = _
  rw [Int.toNat_natCast, lstr_size, lstr_extract]
theorem indexByte_c {P : Program} {f : FuncId} {fn : Func} (hf : P.funcs[f]? = some fn) (hname : (fn.name == "runtime.NumGoroutine") = false) (hb : fn.body.isNone = true) (hn : Extern.findNext fn = none) (he : Extern.find fn = some Extern.BytealgIndexByte.indexByte)
    {s : ByteArray} {c : Int} {w : World} {K : Value → World → Prop} (h : K (.int .i64 (firstIdx s c.toNat.toUInt8)) w) : callF P f #[.string s, .int .u8 c] w K :=
  callF_value (by rw [run_callFunc_extern hf hname hb hn he, run_indexByte_string]; rfl) h
end Go.Fw
end
