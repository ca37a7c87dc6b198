/- A part of a proof of a given law of this program: lemmas, printed forms of its functions, contracts. It has no conditions of its own. -/
import Derived.Stop.BytesEq
import Derived.ChangeKeysEq
import Derived.OpenShut
import Derived.Laws.BytesString
import Derived.Test.YtcfealonnakdcaaGreatMFw2
import Derived.Test.YtcfealonnakdcaaGreatMFw

section
namespace Go.Fw
open Go
def isU8 (P : Program) (e : TypeId) : Bool := match P.underlying e with | some (.int .u8) => true | _ => false
theorem isU8_out {P : Program} {e : TypeId} (h : isU8 P e = true) : P.underlying e = some (.int .u8) := by unfold isU8 at h; split at h <;> first | assumption | cases h
end Go.Fw
end

section
namespace Go.Fw
open Go
def Came2 (P : Program) (w : World) : Nat → TypeId → List Value → Prop
  | 0, _, _ => False
  | n + 1, t, cs =>
    match P.underlying t with
    | some .bool => ∃ b, cs = [.bool b]
    | some (.int k) => ∃ i, cs = [.int k i] ∧ (Lit.int k i).wf = true
    | some .string => ∃ s : ByteArray, cs = [.string s] ∧ s.size ≤ maxLen
    | some (.slice e) => cs = [.slice none 0 0] ∨ ∃ a len cap, cs = [.slice (some a) len cap] ∧ len ≤ cap ∧ cap ≤ maxLen ∧ ∀ i, i < cap → ∃ cs', w.cells? 0 (a.add (i * P.cellsOf e)) (P.cellsOf e) = some cs' ∧ Came2 P w n e cs'
    | some (.struct fs) => cs.length = P.cellsOf t ∧ ∀ (i : Nat) (f : Field), fs[i]? = some f → Came2 P w n f.type ((cs.drop f.offset).take (P.cellsOf f.type))
    | some (.array m e) => cs.length = P.cellsOf t ∧ ∀ i, i < m → Came2 P w n e ((cs.drop (i * P.cellsOf e)).take (P.cellsOf e))
    | _ => True
def IsCame2 (P : Program) (w : World) (t : TypeId) (v : Value) : Prop := ∃ n, Came2 P w n t v.cells.toList
theorem came2 {H : Type} {enc : TypeId × Value → H} {P : Program} {w : World} : ∀ {fuel : Nat} {t : TypeId} {cs : List Value} {x : DataW H × List MemPlace}, DataW.trod enc P w 0 (fun _ => true) true fuel t cs = some x → Came2 P w fuel t cs := by
  intro fuel
  induction fuel with
  | zero => intro t cs x h; simp [DataW.trod] at h
  | succ n ih =>
    intro t cs x h
    unfold Came2
    split
    · rename_i ht; obtain ⟨b, hb, _⟩ := DataW.trod_bool ht h; exact ⟨b, hb⟩
    · rename_i k ht; obtain ⟨i, hi, _, hw⟩ := DataW.trod_int ht h; exact ⟨i, hi, hw⟩
    · rename_i ht; obtain ⟨s, hs, _, hw⟩ := DataW.trod_string ht h; exact ⟨s, hs, hw⟩
    · rename_i e ht
      rcases DataW.trod_slice ht h with ⟨h0, _⟩ | ⟨a, len, cap, elems, rest, m, hm, hcs, hx, hb, hl, hc, hlen, hel, hsp, _⟩
      · exact .inl h0
      · obtain rfl : n = m := by omega
        refine .inr ⟨a, len, cap, hcs, hl, hc, fun i hi => ?_⟩
        have key : ∃ y, (w.cells? 0 (a.add (i * P.cellsOf e)) (P.cellsOf e)).bind (DataW.trod enc P w 0 (fun _ => true) true n e) = some y := by
          by_cases hil : i < len
          · rw [hel i hil]; exact ⟨_, List.getElem?_eq_getElem (by omega)⟩
          · have h2 := hsp rfl
            have h3 := h2.2 (i - len) (by omega)
            rw [show len + (i - len) = i by omega] at h3
            rw [h3]; exact ⟨_, List.getElem?_eq_getElem (by omega)⟩
        obtain ⟨y, hy⟩ := key
        obtain ⟨cs', h1, h2⟩ := Option.bind_eq_some_iff.1 hy
        exact ⟨cs', h1, ih h2⟩
    · rename_i fs ht
      obtain ⟨xs, m, hm, hx, hl, hxl, hf⟩ := DataW.trod_struct ht h
      obtain rfl : n = m := by omega
      refine ⟨hl, fun i f hi => ?_⟩
      have h1 := hf i f hi
      have hlt : i < xs.length := by
        rw [hxl]
        exact (Array.getElem?_eq_some_iff.1 hi).1
      rw [List.getElem?_eq_getElem hlt] at h1
      exact ih h1
    · rename_i m e ht
      obtain ⟨xs, m', hm, hx, hl, hxl, hf⟩ := DataW.trod_array ht h
      obtain rfl : n = m' := by omega
      refine ⟨hl, fun i hi => ?_⟩
      have h1 := hf i hi
      have hlt : i < xs.length := by rw [hxl]; exact hi
      rw [List.getElem?_eq_getElem hlt] at h1
      exact ih h1
    · trivial
theorem isCame2 {H : Type} {enc : TypeId × Value → H} {P : Program} {w : World} {t : TypeId} {v : Value} {d : DataW H} {ps : List MemPlace} (h : DataW.Trod enc P w 0 (fun _ => true) true t v d ps) : IsCame2 P w t v := by
  obtain ⟨n, h⟩ := h
  exact ⟨n, came2 h⟩
theorem came2_int {P : Program} {w : World} {n : Nat} {t : TypeId} {k : IntKind} (ht : P.underlying t = some (.int k)) {cs : List Value} (h : Came2 P w n t cs) : ∃ i, cs = [.int k i] ∧ (Lit.int k i).wf = true := by
  cases n with
  | zero => exact h.elim
  | succ n => unfold Came2 at h; rw [ht] at h; exact h
theorem came2_bytes {P : Program} {w : World} {n m : Nat} {t e : TypeId} (ht : P.underlying t = some (.array m e)) (he : P.underlying e = some (.int .u8)) (h1 : P.cellsOf e = 1) (hs : P.cellsOf t = m) {cs : List Value} (h : Came2 P w n t cs) :
    ∃ xs : List UInt8, xs.length = m ∧ cs = xs.map fun x => .int .u8 (x.toNat : Int) := by
  cases n with
  | zero => exact h.elim
  | succ n =>
    unfold Came2 at h; rw [ht] at h
    obtain ⟨hl, hi⟩ := h
    rw [hs] at hl
    have each : ∀ v ∈ cs, ∃ b : UInt8, v = .int .u8 (b.toNat : Int) := by
      intro v hv
      obtain ⟨i, hlt, rfl⟩ := List.getElem_of_mem hv
      obtain ⟨j, hj, hw⟩ := came2_int he (hi i (by omega))
      rw [h1, Nat.mul_one] at hj
      have e1 : (cs.drop i).take 1 = [cs[i]] := by
        rw [List.drop_eq_getElem_cons hlt]; rfl
      rw [e1] at hj
      injection hj with hj _
      have h4 : 0 ≤ j ∧ j < 256 := by simp [Lit.wf, IntKind.min, IntKind.max, IntKind.bits, IntKind.signed] at hw; omega
      refine ⟨UInt8.ofNat j.toNat, ?_⟩
      rw [hj]
      have : ((UInt8.ofNat j.toNat).toNat : Int) = j := by simp; omega
      rw [this]
    have : ∀ vs : List Value, (∀ v ∈ vs, ∃ b : UInt8, v = .int .u8 (b.toNat : Int)) → ∃ xs : List UInt8, vs = xs.map fun x => .int .u8 (x.toNat : Int) := by
      intro vs
      induction vs with
      | nil => intro _; exact ⟨[], rfl⟩
      | cons v vs ih =>
        intro hv
        obtain ⟨b, rfl⟩ := hv v (by simp)
        obtain ⟨xs, rfl⟩ := ih (fun u hu => hv u (by simp [hu]))
        exact ⟨b :: xs, rfl⟩
    obtain ⟨xs, rfl⟩ := this cs each
    exact ⟨xs, by simpa using hl, rfl⟩
end Go.Fw
end

section
namespace Go.Fw
open Go
theorem Fr.st {a b c : World} {k : Nat} (h : Fr [] a b) (f : Fr [k] b c) (hk : a.heap.size ≤ k) : Fr [] a c := h.trans f (fun z hz => .inr (by simp at hz; omega))
def LpAt (w : World) (l : Nat) (r : Loop) : Prop := w.heap[l]? = some (.loop r)
def DfAt (w : World) (d : Nat) : Prop := w.heap[d]? = some (.deferred (some []))
theorem LpAt.fr {L : List Nat} {w w' : World} {l : Nat} {r : Loop} (h : LpAt w l r) (hf : Fr L w w') (hn : l ∉ L) : LpAt w' l r := (hf.block l (heap_lt h) hn).trans h
theorem LpAt.fr0 {w w' : World} {l : Nat} {r : Loop} (h : LpAt w l r) (hf : Fr [] w w') : LpAt w' l r := h.fr hf (by simp)
theorem DfAt.fr {L : List Nat} {w w' : World} {d : Nat} (h : DfAt w d) (hf : Fr L w w') (hn : d ∉ L) : DfAt w' d := (hf.block d (heap_lt h) hn).trans h
theorem DfAt.fr0 {w w' : World} {d : Nat} (h : DfAt w d) (hf : Fr [] w w') : DfAt w' d := h.fr hf (by simp)
def EndR (P : Program) (l : Nat) (j : Option Code) (b : Bool) (w : World) (K : Value → World → Prop) : Prop := ∃ w', (Instr.endRound l j).run P w = .ok (.bool b) w' ∧ K (.bool b) w'
def BegR (P : Program) (l : Nat) (w : World) (K : World → Prop) : Prop := ∃ w', (Instr.beginRound l).run P w = .ok () w' ∧ K w'
def roundK (P : Program) (l : Nat) (K : Value → World → Prop) : KS
  | .normal, _, w => EndR P l none true w K
  | .ret, _, w => EndR P l (some .ret) false w K
  | _, _, _ => False
def begK (P : Program) (l : Nat) (nt : Nat) (tt : Nat → List (Nat × TypeId)) (body : Code) (K : Value → World → Prop) : KS
  | .normal, s, w => BegR P l w fun w₂ => sw P (some l) nt tt body 0 (roundK P l K) s w₂
  | _, _, _ => False
theorem round_of_sw {P : Program} {l : Nat} {f : FuncId} {tmps : List Value} {nt : Nat} {assign body : Code} {w : World} {K : Value → World → Prop} (tt1 tt2 : Nat → List (Nat × TypeId)) (hn : tmps.length = nt)
    (h : sw P (some l) nt tt1 assign 0 (begK P l nt tt2 body K) ⟨regs tmps, []⟩ w) : RoundIn (fen none) 0 P l f ⟨tmps⟩ assign body w fun e w' => ∃ v, e = .returned v ∧ K v w' := by
  subst hn
  have hrep : Rep tmps.length { tmps := (⟨tmps⟩ : Array Value), defers := [] } ⟨regs tmps, []⟩ := ⟨rfl, fun t => by simp [regs, Array.getD_eq_getD_getElem?, List.getD_eq_getElem?_getD], rfl⟩
  refine roundIn_of_wpIn (F := fen none) (n := 0) (l := l) trivial ?_
  refine wpIn_mono (sw_sound (ro := some l) assign 0 _ _ _ w hrep h) ?_
  intro e a w1 hp
  cases e with
  | normal =>
    obtain ⟨s, hr, hb⟩ := hp
    obtain ⟨w2, hbr, hb⟩ := hb
    refine ⟨w2, hbr, wpIn_mono (sw_sound (ro := some l) body 0 _ _ _ w2 hr hb) ?_⟩
    intro e2 a2 w3 hp2
    cases e2 with
    | normal => obtain ⟨s, _, w4, h4, hk⟩ := hp2; exact ⟨_, w4, h4, _, rfl, hk⟩
    | ret => obtain ⟨s, _, w4, h4, hk⟩ := hp2; exact ⟨_, w4, h4, _, rfl, hk⟩
    | exit i => obtain ⟨s, _, hk⟩ := hp2; exact hk.elim
    | goto i => obtain ⟨s, _, hk⟩ := hp2; exact hk.elim
    | panic c => exact hp2.elim
    | outgrown => exact hp2.elim
  | ret => obtain ⟨s, _, hk⟩ := hp; exact hk.elim
  | exit i => obtain ⟨s, _, hk⟩ := hp; exact hk.elim
  | goto i => obtain ⟨s, _, hk⟩ := hp; exact hk.elim
  | panic c => exact hp.elim
  | outgrown => exact hp.elim
theorem run_getLoop {P : Program} {w : World} {l : Nat} {r : Loop} (h : LpAt w l r) : (Instr.getLoop l).run P w = .ok r w := by
  unfold LpAt at h
  show ((getObj l >>= _ : Sem Loop)).run P w = _
  rw [Sem.run_bind]
  have : (getObj l).run P w = .ok (.loop r) w := by simp [getObj, Sem.run, h]
  rw [this]; rfl
def setO (w : World) (l : Nat) (o : Obj) : World := { w with heap := w.heap.setIfInBounds l o }
theorem run_setLoop {P : Program} {w : World} {l : Nat} {r : Loop} (h : LpAt w l r) (o : Obj) : (setObj l o).run P w = .ok () (setO w l o) := by
  unfold LpAt at h
  show (match w.heap[l]? with | some (.cells ..) => _ | some _ => _ | none => _ : Result Unit) = _
  rw [h]; rfl
theorem setO_fr (w : World) (l : Nat) (o : Obj) : Fr [l] w (setO w l o) := Fr.setHeap rfl
theorem setO_lp {w : World} {l : Nat} {r : Loop} (h : LpAt w l r) (r' : Loop) : LpAt (setO w l (.loop r')) l r' := by
  have := heap_lt h
  unfold LpAt setO
  simp [this]
theorem setO_size (w : World) (l : Nat) (o : Obj) : (setO w l o).heap.size = w.heap.size := by simp [setO]
theorem BegR.of {P : Program} {w : World} {l : Nat} {r : Loop} (h : LpAt w l r) (hs : r.state = .ready) {K : World → Prop} (hk : ∀ w', Fr [l] w w' → LpAt w' l { r with state := .busy } → w'.heap.size = w.heap.size → K w') : BegR P l w K := by
  refine ⟨setO w l (.loop { r with state := .busy }), ?_, hk _ (setO_fr _ _ _) (setO_lp h _) (setO_size _ _ _)⟩
  show ((Instr.getLoop l >>= _ : Sem Unit)).run P w = _
  rw [Sem.run_bind, run_getLoop h]
  show ((setObj l _ >>= _ : Sem Unit)).run P w = _
  rw [Sem.run_bind, run_setLoop h]
  show ((match r.state with | .ready => pure () | .done => _ | .busy => _ | .exhausted => _ : Sem Unit)).run P _ = _
  rw [hs]; rfl
theorem EndR.of {P : Program} {w : World} {l : Nat} {r : Loop} (h : LpAt w l r) (j : Option Code) {b : Bool} (hb : b = j.isNone) {K : Value → World → Prop} (hk : ∀ w', Fr [l] w w' → LpAt w' l { r with state := if j.isNone then .ready else .done, pending := j } → w'.heap.size = w.heap.size → K (.bool b) w') : EndR P l j b w K := by
  subst hb
  refine ⟨setO w l (.loop { r with state := if j.isNone then .ready else .done, pending := j }), ?_, hk _ (setO_fr _ _ _) (setO_lp h _) (setO_size _ _ _)⟩
  show ((Instr.getLoop l >>= _ : Sem Value)).run P w = _
  rw [Sem.run_bind, run_getLoop h]
  show ((setObj l _ >>= _ : Sem Value)).run P w = _
  rw [Sem.run_bind, run_setLoop h]; rfl
theorem Tk.of {P : Program} {w : World} {d : Nat} (h : DfAt w d) : ∃ w', Tk P d w w' ∧ Fr [d] w w' ∧ w'.heap.size = w.heap.size := by
  refine ⟨setO w d (.deferred none), ?_, setO_fr _ _ _, setO_size _ _ _⟩
  unfold DfAt at h
  show ((getObj d >>= _ : Sem (List Deferred))).run P w = _
  rw [Sem.run_bind]
  have e1 : (getObj d).run P w = .ok (.deferred (some [])) w := by simp [getObj, Sem.run, h]
  rw [e1]
  show ((setObj d _ >>= _ : Sem (List Deferred))).run P w = _
  rw [Sem.run_bind]
  have e2 : (setObj d (.deferred none)).run P w = .ok () (setO w d (.deferred none)) := by
    show (match w.heap[d]? with | some (.cells ..) => _ | some _ => _ | none => _ : Result Unit) = _
    rw [h]; rfl
  rw [e2]; rfl
theorem yield_c {P : Program} {w : World} {l : Nat} {r : Loop} (h : LpAt w l r) {args : List Value} (ha : args.length = r.params.size) {tmps : Array Value}
    (ht : (r.params.zip ⟨args⟩).foldl (fun tmps (t, a) => tmps.setIfInBounds t a) r.tmps = tmps) {K : Value → World → Prop}
    (hr : RoundIn (fen none) 0 P l r.fn tmps r.assign r.body w fun e w' => ∃ v, e = .returned v ∧ K v w') : callV P (.func (.yield l) #[] #[]) args w K := by
  refine callV_in ?_
  show yieldK P l ⟨[] ++ args⟩ w K
  refine ⟨r.fn, tmps, r.assign, r.body, w, ?_, hr⟩
  show ((Instr.getLoop l >>= _ : Sem Next)).run P w = _
  rw [Sem.run_bind, run_getLoop h]
  show ((if (⟨args⟩ : Array Value).size ≠ r.params.size then stuck _ >>= _ else _ : Sem Next)).run P w = _
  rw [if_neg (by simpa using ha)]
  show Result.ok (Next.round l r.fn ((r.params.zip ⟨args⟩).foldl (fun tmps (t, a) => tmps.setIfInBounds t a) r.tmps) r.assign r.body) w = _
  rw [ht]
theorem yield_r {P : Program} {w : World} {l df : Nat} {fn : FuncId} {tmps0 : Array Value} {ps : Array Tmp} {assign body : Code} (h : LpAt w l (rec0 fn tmps0 ps assign body df)) {args : List Value} {tmps : Array Value} {K : Value → World → Prop} (ha : args.length = ps.size)
    (ht : (ps.zip ⟨args⟩).foldl (fun tmps (t, a) => tmps.setIfInBounds t a) tmps0 = tmps)
    (hr : RoundIn (fen none) 0 P l fn tmps assign body w fun e w' => ∃ v, e = .returned v ∧ K v w') : callV P (.func (.yield l) #[] #[]) args w K := yield_c h ha ht hr
theorem RangeF.of {P : Program} {gf : FuncId} {cap : List Value} {tmps : Array Value} {rf : Array Tmp × Code × Code} {w : World} {Kn Kr : Nat → World → Prop} (he : ∀ args w, (callFunc gf args).run P w = .ok (.enter gf args) w)
    (h : ∀ fn w2, Fr [] w w2 → w2.heap.size = w.heap.size + 2 → DfAt w2 w.heap.size → LpAt w2 (w.heap.size + 1) (rec0 fn tmps rf.1 rf.2.1 rf.2.2 w.heap.size) →
      callF P gf ⟨.func (.yield (w.heap.size + 1)) #[] #[] :: cap⟩ w2 fun _ w3 => ∃ r, LpAt w3 (w.heap.size + 1) r ∧ r.state ≠ .busy ∧
        ∀ w4, Fr [w.heap.size + 1] w3 w4 → w4.heap.size = w3.heap.size → (match r.pending with | none => Kn w.heap.size w4 | some .ret => Kr w.heap.size w4 | _ => False)) :
    RangeF P (.func (.func gf) #[] ⟨cap⟩) tmps rf w Kn Kr := by
  refine ⟨gf, #[], ⟨cap⟩, rfl, he, fun fn => ?_⟩
  have f1 := Fr.alloc w (.deferred (some []))
  have f2 := Fr.alloc (w.alloc (.deferred (some []))) (.loop (rec0 fn tmps rf.1 rf.2.1 rf.2.2 w.heap.size))
  have s1 : (w.alloc (.deferred (some []))).heap.size = w.heap.size + 1 := by simp
  have hD : DfAt (w.alloc (.deferred (some []))) w.heap.size := by show (w.heap.push _)[w.heap.size]? = _; simp
  have hL : LpAt ((w.alloc (.deferred (some []))).alloc (.loop (rec0 fn tmps rf.1 rf.2.1 rf.2.2 w.heap.size))) (w.heap.size + 1) (rec0 fn tmps rf.1 rf.2.1 rf.2.2 w.heap.size) := by
    show ((w.alloc (.deferred (some []))).heap.push _)[w.heap.size + 1]? = _
    rw [Array.getElem?_push, if_pos s1.symm]
  have h1 := h fn _ (f1.then f2) (by simp) (hD.fr0 f2) hL
  refine callK_of_callF (he _ _) (callF_mono (fun v w3 hw => ?_) h1)
  obtain ⟨r, hr, hb, hk⟩ := hw
  refine ⟨r.pending, setO w3 (w.heap.size + 1) (.loop { r with state := .exhausted }), ?_, ?_⟩
  · show ((Instr.getLoop (w.heap.size + 1) >>= _ : Sem (Option Code))).run P w3 = _
    rw [Sem.run_bind, run_getLoop hr]
    have hb' : (r.state == .busy) = false := by cases hst : r.state <;> first | rfl | exact absurd hst hb
    show ((if (r.state == .busy) = true then runtimePanic _ >>= _ else _ : Sem (Option Code))).run P w3 = _
    rw [hb']
    show ((setObj (w.heap.size + 1) _ >>= _ : Sem (Option Code))).run P w3 = _
    rw [Sem.run_bind, run_setLoop hr]; rfl
  · exact hk (setO w3 (w.heap.size + 1) (.loop { r with state := .exhausted })) (setO_fr _ _ _) (setO_size _ _ _)
end Go.Fw
end

section
namespace Go.Fw
open Go
def OwnN (s : Nat) (w : World) (p : Option Addr) (l c : Nat) (vs : List Value) : Prop :=
  vs.length = l * s ∧ ((p = none ∧ l = 0 ∧ c = 0) ∨ ∃ g o N f, p = some ⟨g, o, none⟩ ∧ Blk w g N f ∧ o + c * s ≤ N ∧ l ≤ c ∧ ∀ i v, vs[i]? = some v → f (o + i) = v)
section
variable {s : Nat} {w : World} {p : Option Addr} {l c : Nat} {vs : List Value}
theorem OwnN.row (h : OwnN s w p l c vs) : Row w p vs := by
  obtain ⟨hl, ⟨_, h0, _⟩ | ⟨g, o, N, f, rfl, hB, hc, hlc, hf⟩⟩ := h
  · exact .inl (List.length_eq_zero_iff.1 (by rw [hl, h0, Nat.zero_mul]))
  · refine hB.row o vs fun j v hj => ⟨?_, hf j v hj⟩
    have := (List.getElem?_eq_some_iff.1 hj).1
    have := Nat.mul_le_mul_right s hlc
    omega
theorem OwnN.fr {l0 : List Nat} {w' : World} (h : OwnN s w p l c vs) (hf : Fr l0 w w') (hn : ∀ k ∈ blks p, k ∉ l0) : OwnN s w' p l c vs := by
  obtain ⟨hl, h | ⟨g, o, N, f, rfl, hB, rest⟩⟩ := h
  · exact ⟨hl, .inl h⟩
  · exact ⟨hl, .inr ⟨g, o, N, f, rfl, hB.fr hf (hn g (by simp [blks])), rest⟩⟩
theorem OwnN.fr0 {w' : World} (h : OwnN s w p l c vs) (hf : Fr [] w w') : OwnN s w' p l c vs := h.fr hf (by simp)
theorem OwnN.nil (s : Nat) (w : World) : OwnN s w none 0 0 [] := ⟨by simp, .inl ⟨rfl, rfl, rfl⟩⟩
theorem OwnN.lt (h : OwnN s w p l c vs) : ∀ k ∈ blks p, k < w.heap.size := by
  obtain ⟨hl, ⟨rfl, _⟩ | ⟨g, o, N, f, rfl, hB, rest⟩⟩ := h
  · simp [blks]
  · simp [blks]; exact hB.lt
theorem OwnN.cap (h : OwnN s w p l c vs) : l ≤ c := by
  obtain ⟨hl, ⟨_, h0, h1⟩ | ⟨g, o, N, f, rfl, hB, hc, hlc, hf⟩⟩ := h <;> omega
end
def appNB (P : Program) (t : TypeId) (s : Nat) : Bool :=
  match P.underlying t with
  | some (.slice e) => (match P.info? e with | some i => i.size == s && (match i.zero with | some z => z.cells.size == s | none => false) && Nat.ble i.bytes 4096 && Nat.ble 1 i.bytes | none => false)
  | _ => false
theorem appNB_out {P : Program} {t : TypeId} {s : Nat} (h : appNB P t s = true) : ∃ e i z, P.underlying t = some (.slice e) ∧ P.info? e = some i ∧ i.size = s ∧ i.zero = some z ∧ z.cells.size = s ∧ i.bytes ≤ 4096 := by
  unfold appNB at h
  split at h
  · rename_i e he
    split at h
    · rename_i i hi
      split at h
      · rename_i z hz
        simp only [Bool.and_eq_true, beq_iff_eq] at h
        exact ⟨e, i, z, he, hi, h.1.1.1, hz, h.1.1.2, Nat.le_of_ble_eq_true h.1.2⟩
      · simp at h
    · cases h
  · cases h
theorem run_firstCellsN {P : Program} {w : World} {p : Option Addr} {vs : List Value} (h : Row w p vs) {s n len cap : Nat} (hl : vs.length = n * s) : (Builtin.firstCells s n (.slice p len cap)).run P w = .ok vs.toArray w := by
  rcases h with rfl | ⟨b, o, rfl, h⟩
  · cases p with
    | none => simp [Builtin.firstCells]
    | some a => exact run_firstCells_some w s n a len cap [] (by simp at hl ⊢; omega) (by simp)
  · exact run_firstCells_some w s n ⟨b, o, none⟩ len cap vs (by omega) fun j v hj => by rw [add_mk]; exact h j v hj
theorem Ef.appendN {P : Program} {t ty : TypeId} {s : Nat} (ht : appNB P t s = true) {w : World} {p : Option Addr} {l c : Nat} {vs : List Value} (hO : OwnN s w p l c vs) {q : Option Addr} {m d : Nat} {us : List Value} (hR : Row w q us) (hm : us.length = m * s)
    (h1 : ∀ u ∈ us, u.oneCell' = true) (hlen : l + m ≤ 1073741824) :
    ∃ p' c' w', Ef P (Builtin.append_ #[t, t] ty #[.slice p l c, .slice q m d]) w (.slice p' (l + m) c') w' ∧ OwnN s w' p' (l + m) c' (vs ++ us) ∧ Fr (blks p) w w' ∧
      ((p' = p ∧ c' = c ∧ w'.heap.size = w.heap.size) ∨ (p' = some ⟨w.heap.size, 0, none⟩ ∧ Fr [] w w' ∧ w'.heap.size = w.heap.size + 1)) := by
  obtain ⟨e, i, z, hu, hi, hsz, hz, hzc, hby⟩ := appNB_out ht
  have hvl := hO.1
  have hsum : (vs ++ us).length = (l + m) * s := by rw [List.length_append, hvl, hm, Nat.add_mul]
  by_cases hn : l + m ≤ c
  · obtain ⟨hl, ⟨rfl, h0, hc0⟩ | ⟨g, o, N, f, rfl, hB, hoc, hlc, hf⟩⟩ := hO
    · have hm0 : m = 0 := by omega
      subst hm0; subst h0; subst hc0
      have hus : us = [] := List.length_eq_zero_iff.1 (by omega)
      have hvs : vs = [] := List.length_eq_zero_iff.1 (by omega)
      subst hus; subst hvs
      have hfc := run_firstCellsN (P := P) (s := s) (n := 0) (len := 0) (cap := d) hR (by simp)
      refine ⟨none, 0, w, ?_, ⟨by simp, .inl ⟨rfl, rfl, rfl⟩⟩, Fr.refl _ _, .inl ⟨rfl, rfl, rfl⟩⟩
      show (Builtin.append_ #[t, t] ty #[.slice none 0 0, .slice q 0 d]).run P w = _
      simp [Builtin.append_, run_underlying hu, sizeOf, typeInfo, hi, hsz, Builtin.lenOf, hfc]
    · have hfc := run_firstCellsN (P := P) (s := s) (n := m) (len := m) (cap := d) hR hm
      have hcs : (l + m) * s ≤ c * s := Nat.mul_le_mul_right s hn
      rw [Nat.add_mul] at hcs
      obtain ⟨w', hst, hfr, hB', hsize⟩ := run_storeCells (P := P) us 0 g N (o + l * s) f w hB (by omega) h1
      refine ⟨some ⟨g, o, none⟩, c, w', ?_, ⟨hsum, .inr ⟨g, o, N, _, rfl, hB', hoc, hn, ?_⟩⟩, hfr, .inl ⟨rfl, rfl, hsize⟩⟩
      · have e1 : (⟨g, o, none⟩ : Addr).add (l * s) = ⟨g, o + l * s, none⟩ := add_mk _ _ _
        show (Builtin.append_ #[t, t] ty #[.slice (some ⟨g, o, none⟩) l c, .slice q m d]).run P w = _
        simp [Builtin.append_, run_underlying hu, sizeOf, typeInfo, hi, hsz, Builtin.lenOf, hn, hfc, e1, hst]
      · intro j v hj
        unfold updN
        by_cases hjl : j < vs.length
        · rw [dif_neg (by omega)]
          rw [List.getElem?_append_left hjl] at hj
          exact hf j v hj
        · rw [List.getElem?_append_right (by omega)] at hj
          have hlt := (List.getElem?_eq_some_iff.1 hj).1
          rw [dif_pos (by omega)]
          have e2 : o + j - (o + l * s + 0) = j - vs.length := by omega
          rw [List.getElem?_eq_some_iff] at hj
          obtain ⟨_, hj⟩ := hj
          simp only [e2]
          exact hj
  · have h63' : ¬ (9223372036854775807 < ((l : Int) + (m : Int))) := by omega
    have hbb : (l + m) * i.bytes ≤ 140737488355328 := Nat.le_trans (Nat.mul_le_mul hlen hby) (by decide)
    have h48' : ¬ (281474976710656 < Builtin.nextslicecap (l + m) c * i.bytes) := by
      have hlc := hO.cap
      have := growslice_fits (need := l + m) (old := c) (by omega) hbb; omega
    have hf := run_firstCellsN (P := P) (w := w.drew) (s := s) (n := m) (len := m) (cap := d) (hR.fr0 (Fr.drew w)) hm
    have hfo := run_firstCellsN (P := P) (w := w.drew) (s := s) (n := l) (len := l) (cap := c) (hO.row.fr0 (Fr.drew w)) hvl
    have hge := grownCap_ge w (l + m) c e
    refine ⟨some ⟨w.heap.size, 0, none⟩, grownCap w (l + m) c e, w.drew.alloc (.cells (vs.toArray ++ us.toArray ++ Builtin.zeroCells z.cells (grownCap w (l + m) c e - (l + m))) e), ?_, ?_, ?_, .inr ⟨rfl, ?_, by simp⟩⟩
    · show (Builtin.append_ #[t, t] ty #[.slice p l c, .slice q m d]).run P w = _
      simp [Builtin.append_, run_underlying hu, sizeOf, typeInfo, zeroValue, hi, hz, hsz, Builtin.lenOf, hn, h63', h48', Question.forced, hf, hfo, newRow, grownCap]
      congr 2
      apply Array.ext'
      simp [List.append_assoc]
    · refine ⟨hsum, .inr ⟨w.heap.size, 0, (vs.toArray ++ us.toArray ++ Builtin.zeroCells z.cells (grownCap w (l + m) c e - (l + m))).size, fun i => (vs.toArray ++ us.toArray ++ Builtin.zeroCells z.cells (grownCap w (l + m) c e - (l + m))).getD i undef, rfl, ?_, ?_, hge, ?_⟩⟩
      · exact Blk.new w.drew (vs.toArray ++ us.toArray ++ Builtin.zeroCells z.cells (grownCap w (l + m) c e - (l + m))) e (fun i => (vs.toArray ++ us.toArray ++ Builtin.zeroCells z.cells (grownCap w (l + m) c e - (l + m))).getD i undef) (fun i hi => by rw [Array.getD_eq_getD_getElem?, Array.getElem?_eq_getElem hi]; rfl)
      · have hk : (l + m) * s + (grownCap w (l + m) c e - (l + m)) * s = grownCap w (l + m) c e * s := by rw [← Nat.add_mul]; congr 1; omega
        have hk2 : (l + m) * s = l * s + m * s := Nat.add_mul _ _ _
        simp [size_zeroCells, hzc]; omega
      · intro j v hj
        have hlt := (List.getElem?_eq_some_iff.1 hj).1
        rw [Nat.zero_add]
        show (vs.toArray ++ us.toArray ++ Builtin.zeroCells z.cells (grownCap w (l + m) c e - (l + m))).getD j undef = v
        rw [Array.getD_eq_getD_getElem?, Array.getElem?_append_left (by simpa using hlt)]
        have e3 : (vs.toArray ++ us.toArray)[j]? = some v := by rw [← hj]; simp
        rw [e3]; rfl
    · exact ((Fr.drew w).then (Fr.alloc _ _)).mono (by simp)
    · exact (Fr.drew w).then (Fr.alloc _ _)
theorem OwnN.cellAt {s : Nat} {w : World} {p : Option Addr} {l c : Nat} {vs : List Value} (h : OwnN s w p l c vs) {P : Program} {t : TypeId} (ht : sliceB P t s = true) {k : IntKind} {i : Nat} (hi : i < l) (_hs : 0 < s) :
    ∃ b o, IxA P t (.slice p l c) (.int k (i : Int)) ⟨b, o, none⟩ ∧ b ∈ blks p ∧ ∀ j v, j < s → vs[i * s + j]? = some v → w.cell? ⟨b, o + j, none⟩ = some v := by
  obtain ⟨hl, ⟨_, h0, _⟩ | ⟨g, o, N, f, rfl, hB, hc, hlc, hf⟩⟩ := h
  · omega
  · have hx := ixS (P := P) ht (b := g) (o := o) (len := l) (cap := c) (k := k) (i := (i : Int)) (by omega) (by omega)
    rw [Int.toNat_natCast] at hx
    refine ⟨g, o + i * s, hx, by simp [blks], fun j v hj hv => ?_⟩
    have h1 : (i + 1) * s ≤ c * s := Nat.mul_le_mul_right s (by omega)
    rw [Nat.add_mul, Nat.one_mul] at h1
    rw [hB.cell (by omega), show o + i * s + j = o + (i * s + j) by omega, hf _ _ hv]
theorem Row.cellAt {s : Nat} {w : World} {p : Option Addr} {vs : List Value} (h : Row w p vs) {P : Program} {t : TypeId} (ht : sliceB P t s = true) {k : IntKind} {l c i : Nat} (hl : vs.length = l * s) (hi : i < l) (_hs : 0 < s) :
    ∃ b o, IxA P t (.slice p l c) (.int k (i : Int)) ⟨b, o, none⟩ ∧ b ∈ blks p ∧ ∀ j v, j < s → vs[i * s + j]? = some v → w.cell? ⟨b, o + j, none⟩ = some v := by
  rcases h with h0 | ⟨g, o, rfl, hf⟩
  · subst h0
    have h1 : 1 * s ≤ l * s := Nat.mul_le_mul_right s (by omega)
    simp at hl; omega
  · have hx := ixS (P := P) ht (b := g) (o := o) (len := l) (cap := c) (k := k) (i := (i : Int)) (by omega) (by omega)
    rw [Int.toNat_natCast] at hx
    refine ⟨g, o + i * s, hx, by simp [blks], fun j v hj hv => ?_⟩
    rw [show o + i * s + j = o + (i * s + j) by omega]
    exact hf _ _ hv
end Go.Fw
end

section
namespace Go.Fw
open Go
inductive Leaf where
  | int (k : IntKind)
  | bool
  | str
  | bytes
  | arr8 (n : Nat)
  | other (n : Nat)
def DecLeaf (w : World) : Leaf → List Value → Prop
  | .int k, cs => ∃ i, cs = [.int k i] ∧ (Lit.int k i).wf = true
  | .bool, cs => ∃ b, cs = [.bool b]
  | .str, cs => ∃ s : ByteArray, cs = [.string s] ∧ s.size ≤ maxLen
  | .bytes, cs => ∃ (q : Option Addr) (xs : List UInt8) (c : Nat), cs = [.slice q xs.length c] ∧ xs.length ≤ c ∧ xs.length ≤ maxLen ∧ Row w q (xs.map fun x => .int .u8 (x.toNat : Int))
  | .arr8 n, cs => ∃ xs : List UInt8, xs.length = n ∧ cs = xs.map fun x => .int .u8 (x.toNat : Int)
  | .other n, cs => cs.length = n
def DecL (w : World) : List Leaf → List Value → Prop
  | [], cs => cs = []
  | l :: ls, cs => ∃ c1 c2, cs = c1 ++ c2 ∧ DecLeaf w l c1 ∧ DecL w ls c2
theorem DecL.append {w : World} : ∀ {l1 l2 : List Leaf} {c1 c2 : List Value}, DecL w l1 c1 → DecL w l2 c2 → DecL w (l1 ++ l2) (c1 ++ c2) := by
  intro l1
  induction l1 with
  | nil => intro l2 c1 c2 h1 h2; subst h1; exact h2
  | cons l ls ih =>
    intro l2 c1 c2 h1 h2
    obtain ⟨a, b, rfl, ha, hb⟩ := h1
    exact ⟨a, b ++ c2, by rw [List.append_assoc], ha, ih hb h2⟩
theorem DecL.one {w : World} {l : Leaf} {cs : List Value} (h : DecLeaf w l cs) : DecL w [l] cs := ⟨cs, [], by simp, h, rfl⟩
def leavesF (P : Program) (rec : TypeId → Option (List Leaf)) : List Field → Nat → Option (List Leaf × Nat)
  | [], o => some ([], o)
  | f :: fs, o => if f.offset == o then (match rec f.type with | some l => (match leavesF P rec fs (o + P.cellsOf f.type) with | some (ls, e) => some (l ++ ls, e) | none => none) | none => none) else none
def leaves (P : Program) : Nat → TypeId → Option (List Leaf)
  | 0, _ => none
  | n + 1, t =>
    match P.underlying t with
    | some .bool => some [.bool]
    | some (.int k) => some [.int k]
    | some .string => some [.str]
    | some (.slice e) => if isU8 P e && P.cellsOf e == 1 then some [.bytes] else none
    | some (.array m e) => if isU8 P e && P.cellsOf e == 1 && P.cellsOf t == m then some [.arr8 m] else none
    | some (.struct fs) => (match leavesF P (leaves P n) fs.toList 0 with | some (ls, e) => if P.cellsOf t == e then some ls else none | none => none)
    | _ => none
theorem came2_slice8 {P : Program} {w : World} {n : Nat} {t e : TypeId} (ht : P.underlying t = some (.slice e)) (he : P.underlying e = some (.int .u8)) (h1 : P.cellsOf e = 1) {cs : List Value} (h : Came2 P w n t cs) : DecLeaf w .bytes cs := by
  cases n with
  | zero => exact h.elim
  | succ n =>
    have h' := h
    unfold Came2 at h; rw [ht] at h
    have hb : bytesB P t = true := by unfold bytesB; rw [ht]; simp only []; rw [he]; simp [h1]
    -- the same data as Came tells
    rcases h with rfl | ⟨a, len, cap, rfl, hl, hc, hx⟩
    · exact ⟨none, [], 0, rfl, Nat.le_refl _, Nat.zero_le _, Row.nil _ _⟩
    · have hcm : IsCame P w t (.slice (some a) len cap) := by
        refine ⟨n + 1, ?_⟩
        show Came P w (n + 1) t [.slice (some a) len cap]
        unfold Came; rw [ht]
        refine .inr ⟨a, len, cap, rfl, hl, hc, fun i hi => ?_⟩
        obtain ⟨cs', g1, g2⟩ := hx i hi
        refine ⟨cs', g1, ?_⟩
        cases n with
        | zero => exact g2.elim
        | succ n => unfold Came2 at g2; rw [he] at g2; unfold Came; rw [he]; exact g2
      obtain ⟨xs, h2, h3, h4, h5⟩ := came_bytes hb hcm
      subst h2
      exact ⟨_, xs, cap, rfl, h4, h3, h5⟩
theorem decF {P : Program} {w : World} {m : Nat} {rec : TypeId → Option (List Leaf)} (hrec : ∀ t L cs, rec t = some L → Came2 P w m t cs → DecL w L cs) : ∀ {fs : List Field} {o e : Nat} {L : List Leaf} {cs : List Value}, leavesF P rec fs o = some (L, e) → cs.length = e →
    (∀ f ∈ fs, Came2 P w m f.type ((cs.drop f.offset).take (P.cellsOf f.type))) → DecL w L (cs.drop o) := by
  intro fs
  induction fs with
  | nil =>
    intro o e L cs h hl hf
    simp [leavesF] at h
    obtain ⟨rfl, rfl⟩ := h
    show cs.drop o = []
    rw [List.drop_eq_nil_iff]; omega
  | cons f fs ih =>
    intro o e L cs h hl hf
    unfold leavesF at h
    split at h
    · rename_i ho
      rw [beq_iff_eq] at ho
      split at h
      · rename_i l hl1
        split at h
        · rename_i ls e' hr
          simp at h
          obtain ⟨rfl, rfl⟩ := h
          have h1 := hrec _ _ _ hl1 (hf f (by simp))
          have h2 := ih hr hl (fun g hg => hf g (by simp [hg]))
          rw [ho] at h1
          have := DecL.append h1 h2
          rw [← List.drop_drop, List.take_append_drop] at this
          exact this
        · cases h
      · cases h
    · cases h
theorem dec {P : Program} {w : World} : ∀ {n m : Nat} {t : TypeId} {L : List Leaf} {cs : List Value}, leaves P n t = some L → Came2 P w m t cs → DecL w L cs := by
  intro n
  induction n with
  | zero => intro m t L cs h; simp [leaves] at h
  | succ n ih =>
    intro m t L cs h hc
    cases m with
    | zero => exact hc.elim
    | succ m =>
    have hc' := hc
    unfold leaves at h
    unfold Came2 at hc
    split at h
    · rename_i ht; rw [ht] at hc; simp at h; subst h; exact DecL.one hc
    · rename_i k ht; rw [ht] at hc; simp at h; subst h; exact DecL.one hc
    · rename_i ht; rw [ht] at hc; simp at h; subst h; exact DecL.one hc
    · rename_i e ht
      split at h
      · rename_i hb
        simp only [Bool.and_eq_true, beq_iff_eq] at hb
        simp at h; subst h
        exact DecL.one (came2_slice8 ht (isU8_out hb.1) hb.2 hc')
      · cases h
    · rename_i k e ht
      split at h
      · rename_i hb
        simp only [Bool.and_eq_true, beq_iff_eq] at hb
        simp at h; subst h
        exact DecL.one (came2_bytes ht (isU8_out hb.1.1) hb.1.2 hb.2 hc')
      · cases h
    · rename_i fs ht
      rw [ht] at hc
      obtain ⟨hl, hf⟩ := hc
      split at h
      · rename_i ls e hF
        split at h
        · rename_i he
          rw [beq_iff_eq] at he
          simp at h; subst h
          have := decF (P := P) (w := w) (m := m) (rec := leaves P n) (fun t L cs h1 h2 => ih h1 h2) hF (cs := cs) (by omega) (fun f hm => by
            obtain ⟨i, hi, rfl⟩ := List.getElem_of_mem hm
            exact hf i _ (by rw [← Array.getElem?_toList, List.getElem?_eq_getElem hi]))
          rwa [List.drop_zero] at this
        · cases h
      · cases h
    · cases h
theorem came_list {P : Program} {w : World} {t e : TypeId} {s n : Nat} {L : List Leaf} (ht : P.underlying t = some (.slice e)) (hs : P.cellsOf e = s) (hs0 : 0 < s) (hL : leaves P n e = some L) {a : Option Addr} {len cap : Nat} (h : IsCame2 P w t (.slice a len cap)) :
    ∃ vss : List (List Value), vss.length = len ∧ len ≤ maxLen ∧ len ≤ cap ∧ Row w a vss.flatten ∧ vss.flatten.length = len * s ∧ ∀ vs ∈ vss, vs.length = s ∧ DecL w L vs := by
  obtain ⟨m, h⟩ := h
  cases m with
  | zero => exact h.elim
  | succ m =>
    unfold Came2 at h
    rw [ht] at h
    rcases h with h | ⟨x, l, c, h1, h2, h3, h4⟩
    · simp [Value.cells] at h
      obtain ⟨rfl, rfl, rfl⟩ := h
      exact ⟨[], rfl, Nat.zero_le _, Nat.le_refl _, Row.nil _ _, by simp, by simp⟩
    · simp [Value.cells] at h1
      obtain ⟨rfl, rfl, rfl⟩ := h1
      rw [hs] at h4
      by_cases h0 : cap = 0
      · have hl0 : len = 0 := by omega
        subst hl0
        exact ⟨[], rfl, Nat.zero_le _, h2, Row.nil _ _, by simp, by simp⟩
      · have each : ∀ i, i < cap → ∃ cs : List Value, cs.length = s ∧ DecL w L cs ∧ ∀ j v, cs[j]? = some v → w.cell? ((x.add (i * s)).add j) = some v := by
          intro i hi
          obtain ⟨cs', g1, g2⟩ := h4 i hi
          obtain ⟨_, g3, g4⟩ := World.cells?_some g1
          refine ⟨cs', g3, dec hL g2, fun j v hj => ?_⟩
          have hlt := (List.getElem?_eq_some_iff.1 hj).1
          rw [← hj]
          exact g4 j (by omega)
        obtain ⟨c0, hc0, _, hx0⟩ := each 0 (by omega)
        have hsp : x.spot = none := by
          have hlt : 0 < c0.length := by omega
          have := hx0 0 _ (List.getElem?_eq_getElem hlt)
          have e0 : (x.add (0 * s)).add 0 = x := by rw [Nat.zero_mul]; rfl
          rw [e0] at this
          exact spot_none this
        obtain ⟨b, o, sp⟩ := x
        simp only at hsp
        subst hsp
        have : ∃ f : Nat → List Value, ∀ i, i < cap → (f i).length = s ∧ DecL w L (f i) ∧ ∀ j v, (f i)[j]? = some v → w.cell? ⟨b, o + i * s + j, none⟩ = some v := by
          classical
          refine ⟨fun i => if hi : i < cap then Classical.choose (each i hi) else [], fun i hi => ?_⟩
          simp only [dif_pos hi]
          obtain ⟨q1, q2, q3⟩ := Classical.choose_spec (each i hi)
          refine ⟨q1, q2, fun j v hj => ?_⟩
          have := q3 j v hj
          rw [add_mk, add_mk] at this
          exact this
        obtain ⟨f, hf⟩ := this
        have hall : ∀ k, k ≤ len → ∃ vss : List (List Value), vss.length = k ∧ vss.flatten.length = k * s ∧ (∀ vs ∈ vss, vs.length = s ∧ DecL w L vs) ∧ ∀ j v, vss.flatten[j]? = some v → w.cell? ⟨b, o + j, none⟩ = some v := by
          intro k
          induction k with
          | zero => intro _; exact ⟨[], rfl, by simp, by simp, by simp⟩
          | succ k ih =>
            intro hk
            obtain ⟨vss, v1, v2, v3, v4⟩ := ih (by omega)
            obtain ⟨f1, f2, f3⟩ := hf k (by omega)
            refine ⟨vss ++ [f k], by simp [v1], by simp [v2, f1, Nat.add_mul], fun vs hvs => ?_, fun j v hj => ?_⟩
            · rcases List.mem_append.1 hvs with h | h
              · exact v3 vs h
              · simp at h; subst h; exact ⟨f1, f2⟩
            · rw [List.flatten_append] at hj
              simp only [List.flatten_cons, List.flatten_nil, List.append_nil] at hj
              by_cases hjl : j < vss.flatten.length
              · rw [List.getElem?_append_left hjl] at hj; exact v4 j v hj
              · rw [List.getElem?_append_right (by omega)] at hj
                have := f3 _ v hj
                rw [v2] at this
                rw [show o + j = o + k * s + (j - k * s) by omega]
                exact this
        obtain ⟨vss, v1, v2, v3, v4⟩ := hall len (Nat.le_refl _)
        exact ⟨vss, v1, by omega, h2, .inr ⟨b, o, rfl, v4⟩, v2, v3⟩
theorem came_struct {P : Program} {w : World} {t : TypeId} {n : Nat} {L : List Leaf} (hL : leaves P n t = some L) {cs : Array Value} (h : IsCame2 P w t (.agg cs)) : DecL w L cs.toList := by
  obtain ⟨m, h⟩ := h
  exact dec hL h
end Go.Fw
end

section
namespace Go.Fw
open Go
theorem Ef.appendZN {P : Program} {t ti ty : TypeId} {s : Nat} (ht : appNB P t s = true) (hs0 : s ≠ 0) (hti : intB P ti = true) {w : World} {n : Nat} (h0 : 0 < n) (hn : n ≤ 1073741824) :
    ∃ c' w', Ef P (Builtin.append_ #[t, ti] ty #[.slice none 0 0, .int .i64 (n : Int)]) w (.slice (some ⟨w.heap.size, 0, none⟩) n c') w' ∧ n ≤ c' ∧ Fr [] w w' ∧ (∃ f, Blk w' w.heap.size (c' * s) f) ∧ w'.heap.size = w.heap.size + 1 := by
  obtain ⟨e, i, z, hu, hi, hsz, hz, hzc, hby⟩ := appNB_out ht
  obtain ⟨k, hk⟩ := intB_out hti
  have hbb : n * i.bytes ≤ 140737488355328 := Nat.le_trans (Nat.mul_le_mul hn hby) (by decide)
  have h48' : ¬ (281474976710656 < Builtin.nextslicecap n 0 * i.bytes) := by have := growslice_fits (need := n) (old := 0) (by omega) hbb; omega
  have hbi : ¬ (281474976710656 < (n : Int) * (i.bytes : Int)) := by
    have : ((n * i.bytes : Nat) : Int) ≤ 140737488355328 := by omega
    rw [Int.natCast_mul] at this; omega
  have hw : IntKind.i64.wrap (n : Int) = (n : Int) := by rw [IntKind.wrap_i64]; omega
  have hn0 : ¬ (n ≤ 0) := by omega
  have hn0' : n ≠ 0 := by omega
  have h63' : ¬ (9223372036854775807 < (n : Int)) := by omega
  have hge := grownCap_ge w n 0 e
  have hneg : ¬ ((n : Int) < 0) := by omega
  have ha : Sem.run P (asIntOf (.int .i64 (n : Int))) w = .ok (.i64, (n : Int)) w := rfl
  refine ⟨grownCap w n 0 e, w.drew.alloc (.cells (Builtin.zeroCells z.cells n ++ Builtin.zeroCells z.cells (grownCap w n 0 e - n)) e), ?_, hge, (Fr.drew w).then (Fr.alloc _ _), ?_, by simp⟩
  · show (Builtin.append_ #[t, ti] ty #[.slice none 0 0, .int .i64 (n : Int)]).run P w = _
    simp [Builtin.append_, run_underlying hu, run_underlying hk, sizeOf, typeInfo, zeroValue, hi, hz, hsz, Builtin.lenOf, hw, hneg, hbi, hn0', h63', h48', Question.forced, Builtin.firstCells, newRow, grownCap, asInt, ha]
    intro h; exact absurd h (Nat.mul_ne_zero hn0' hs0)
  · have := Blk.new w.drew (Builtin.zeroCells z.cells n ++ Builtin.zeroCells z.cells (grownCap w n 0 e - n)) e (fun i => (Builtin.zeroCells z.cells n ++ Builtin.zeroCells z.cells (grownCap w n 0 e - n)).getD i undef) (fun i hi => by rw [Array.getD_eq_getD_getElem?, Array.getElem?_eq_getElem hi]; rfl)
    have hs : (Builtin.zeroCells z.cells n ++ Builtin.zeroCells z.cells (grownCap w n 0 e - n)).size = grownCap w n 0 e * s := by
      rw [Array.size_append, size_zeroCells, size_zeroCells, hzc, ← Nat.add_mul]; congr 1; omega
    rw [hs] at this
    exact ⟨_, this⟩
theorem PuSl4 {P : Program} {t : TypeId} {s : Nat} (ht : sliceB P t s = true) {p : Option Addr} {len cap : Nat} {kl kh km : IntKind} {lo hi mx : Int} (h0 : 0 ≤ lo) (h1 : lo ≤ hi) (h2 : hi ≤ mx) (h3 : mx ≤ cap) :
    Pu P (Instr.sliceAt t (.slice p len cap) (some (.int kl lo)) (some (.int kh hi)) (some (.int km mx))) (.slice (partAt p mx.toNat lo.toNat s) (hi.toNat - lo.toNat) (mx.toNat - lo.toNat)) := by
  obtain ⟨e, hu, hs⟩ := sliceB_out ht
  have hb : res P (Instr.sliceBounds true len cap (some (.int kl lo)) (some (.int kh hi)) (some (.int km mx))) = some (lo.toNat, hi.toNat, mx.toNat) := by
    show res P ((Instr.sliceBound (.int km mx) cap _).bind fun m => (Instr.sliceBound (.int kh hi) m _).bind fun h => (Instr.sliceBound (.int kl lo) h _).bind fun l => pure (l, h, m)) = _
    rw [res_bind, res_bound (by omega) h3]
    show res P ((Instr.sliceBound (.int kh hi) mx.toNat _).bind fun h => (Instr.sliceBound (.int kl lo) h _).bind fun l => pure (l, h, mx.toNat)) = _
    rw [res_bind, res_bound (by omega) (by omega)]
    show res P ((Instr.sliceBound (.int kl lo) hi.toNat _).bind fun l => pure (l, hi.toNat, mx.toNat)) = _
    rw [res_bind, res_bound h0 (by omega)]
    rfl
  show res P ((underlying t).bind _) = _
  rw [res_bind, res_underlying hu]
  show res P ((underlying t).bind _) = _
  rw [res_bind, res_underlying hu]
  show res P ((Instr.sliceBounds true len cap (some (.int kl lo)) (some (.int kh hi)) (some (.int km mx))).bind _) = _
  rw [res_bind, hb]
  show res P ((sizeOf e).bind _) = _
  rw [res_bind, hs]
  rfl
end Go.Fw
end

section
namespace Go.Fw
open Go
section
variable {α : Type} {v : α → List Value} {s : Nat}
theorem fm_len (hv : ∀ x, (v x).length = s) : ∀ l : List α, (l.flatMap v).length = l.length * s
  | [] => by simp
  | x :: l => by rw [List.flatMap_cons, List.length_append, hv, fm_len hv l, List.length_cons, Nat.add_mul]; omega
theorem fm_get (hv : ∀ x, (v x).length = s) : ∀ {l : List α} {i j : Nat} {x : α} {y : Value}, l[i]? = some x → (v x)[j]? = some y → (l.flatMap v)[i * s + j]? = some y
  | [], i, j, x, y, hi, hj => by simp at hi
  | z :: l, 0, j, x, y, hi, hj => by
    simp at hi; subst hi
    rw [List.flatMap_cons, Nat.zero_mul, Nat.zero_add, List.getElem?_append_left (List.getElem?_eq_some_iff.1 hj).1]; exact hj
  | z :: l, i + 1, j, x, y, hi, hj => by
    rw [List.flatMap_cons, List.getElem?_append_right (by rw [hv, Nat.add_mul]; omega), hv, show (i + 1) * s + j - s = i * s + j by rw [Nat.add_mul]; omega]
    exact fm_get hv (by simpa using hi) hj
theorem fm_take (hv : ∀ x, (v x).length = s) : ∀ (l : List α) (i : Nat), (l.flatMap v).take (i * s) = (l.take i).flatMap v
  | [], i => by simp
  | x :: l, 0 => by simp
  | x :: l, i + 1 => by
    rw [List.flatMap_cons, List.take_succ_cons, List.flatMap_cons, List.take_append, hv, ← fm_take hv l i, List.take_of_length_le (by rw [hv, Nat.add_mul]; omega), show (i + 1) * s - s = i * s by rw [Nat.add_mul]; omega]
theorem fm_drop (hv : ∀ x, (v x).length = s) : ∀ (l : List α) (i : Nat), (l.flatMap v).drop (i * s) = (l.drop i).flatMap v
  | [], i => by simp
  | x :: l, 0 => by simp
  | x :: l, i + 1 => by
    rw [List.flatMap_cons, List.drop_succ_cons, List.drop_append, hv, ← fm_drop hv l i, List.drop_of_length_le (by rw [hv, Nat.add_mul]; omega), List.nil_append, show (i + 1) * s - s = i * s by rw [Nat.add_mul]; omega]
theorem fm_all {Q : Value → Prop} (hv : ∀ x, ∀ y ∈ v x, Q y) (l : List α) : ∀ y ∈ l.flatMap v, Q y := by
  intro y hy
  obtain ⟨x, _, hx⟩ := List.mem_flatMap.1 hy
  exact hv x y hx
end
theorem partAt_zero (b o c s : Nat) : partAt (some ⟨b, o, none⟩) c 0 s = some ⟨b, o, none⟩ := by
  unfold partAt
  split
  · rfl
  · show some ((⟨b, o, none⟩ : Addr).add (0 * s)) = _
    rw [add_mk, Nat.zero_mul, Nat.add_zero]
theorem partAt_at {b o c i s : Nat} (h : c ≠ i) : partAt (some ⟨b, o, none⟩) c i s = some ⟨b, o + i * s, none⟩ := by
  unfold partAt
  rw [if_neg h]
  show some ((⟨b, o, none⟩ : Addr).add (i * s)) = _
  rw [add_mk]
section
variable {P : Program} {t : TypeId} {s : Nat} {p : Option Addr} {len cap : Nat}
theorem PuTo (ht : sliceB P t s = true) {n : Nat} (hn : n ≤ cap) : Pu P (Instr.sliceAt t (.slice p len cap) none (some (.int .i64 (n : Int))) none) (.slice (partAt p cap 0 s) n cap) := by
  have h := PuSl (P := P) (t := t) (s := s) (p := p) (len := len) (cap := cap) (kl := .i64) (kh := .i64) (lo := none) (hi := some (n : Int)) ht (by show (0 : Int) ≤ 0; omega) (by show (0 : Int) ≤ (n : Int); omega) (by show (n : Int) ≤ (cap : Int); omega)
  have e : (Option.getD (some (n : Int)) (len : Int)).toNat - (Option.getD (none : Option Int) 0).toNat = n := by show ((n : Int)).toNat - 0 = n; omega
  rw [e] at h
  exact h
theorem PuFrom (ht : sliceB P t s = true) {n : Nat} (hn : n ≤ len) (hc : len ≤ cap) : Pu P (Instr.sliceAt t (.slice p len cap) (some (.int .i64 (n : Int))) none none) (.slice (partAt p cap n s) (len - n) (cap - n)) := by
  have h := PuSl (P := P) (t := t) (s := s) (p := p) (len := len) (cap := cap) (kl := .i64) (kh := .i64) (lo := some (n : Int)) (hi := none) ht (by show (0 : Int) ≤ (n : Int); omega) (by show (n : Int) ≤ (len : Int); omega) (by show (len : Int) ≤ (cap : Int); omega)
  have e : (Option.getD (none : Option Int) (len : Int)).toNat - (Option.getD (some (n : Int)) 0).toNat = len - n := by show ((len : Int)).toNat - ((n : Int)).toNat = len - n; omega
  have e5 : (Option.getD (some (n : Int)) 0).toNat = n := by show ((n : Int)).toNat = n; omega
  rw [e, e5] at h
  exact h
theorem PuMid (ht : sliceB P t s = true) {a b : Nat} (hab : a ≤ b) (hb : b ≤ cap) : Pu P (Instr.sliceAt t (.slice p len cap) (some (.int .i64 (a : Int))) (some (.int .i64 (b : Int))) none) (.slice (partAt p cap a s) (b - a) (cap - a)) := by
  have h := PuSl (P := P) (t := t) (s := s) (p := p) (len := len) (cap := cap) (kl := .i64) (kh := .i64) (lo := some (a : Int)) (hi := some (b : Int)) ht (by show (0 : Int) ≤ (a : Int); omega) (by show (a : Int) ≤ (b : Int); omega) (by show (b : Int) ≤ (cap : Int); omega)
  have e : (Option.getD (some (b : Int)) (len : Int)).toNat - (Option.getD (some (a : Int)) 0).toNat = b - a := by show ((b : Int)).toNat - ((a : Int)).toNat = b - a; omega
  have e5 : (Option.getD (some (a : Int)) 0).toNat = a := by show ((a : Int)).toNat = a; omega
  rw [e, e5] at h
  exact h
end
theorem Row.partN {w : World} {p : Option Addr} {vs : List Value} (h : Row w p vs) {c i s : Nat} (_hs : 0 < s) (hc : vs.length ≤ c * s) : Row w (partAt p c i s) (vs.drop (i * s)) := by
  rcases h with rfl | ⟨b, o, rfl, hf⟩
  · left; simp
  · by_cases hci : c = i
    · left
      apply List.drop_eq_nil_of_le
      subst hci; exact hc
    · right
      refine ⟨b, o + i * s, partAt_at hci, fun j v hj => ?_⟩
      rw [List.getElem?_drop] at hj
      rw [Nat.add_assoc]; exact hf _ v hj
theorem OwnN.cut {s : Nat} {w : World} {p : Option Addr} {l c : Nat} {vs : List Value} (h : OwnN s w p l c vs) {i : Nat} (hi : i ≤ l) : OwnN s w p i c (vs.take (i * s)) := by
  have hm := Nat.mul_le_mul_right s hi
  obtain ⟨hl, ⟨rfl, h0, hc0⟩ | ⟨g, o, N, f, rfl, hB, hoc, hlc, hf⟩⟩ := h
  · refine ⟨by rw [List.length_take]; omega, .inl ⟨rfl, by omega, hc0⟩⟩
  · refine ⟨by rw [List.length_take]; omega, .inr ⟨g, o, N, f, rfl, hB, hoc, by omega, fun j v hj => ?_⟩⟩
    rw [List.getElem?_take] at hj
    split at hj
    · exact hf j v hj
    · cases hj
theorem Ef.appendIn {P : Program} {t ty : TypeId} {s : Nat} (ht : appNB P t s = true) {w : World} {p : Option Addr} {l c : Nat} {vs : List Value} (hO : OwnN s w p l c vs) {q : Option Addr} {m d : Nat} {us : List Value} (hR : Row w q us) (hm : us.length = m * s)
    (h1 : ∀ u ∈ us, u.oneCell' = true) (hn : l + m ≤ c) :
    ∃ w', Ef P (Builtin.append_ #[t, t] ty #[.slice p l c, .slice q m d]) w (.slice p (l + m) c) w' ∧ OwnN s w' p (l + m) c (vs ++ us) ∧ Fr (blks p) w w' ∧ w'.heap.size = w.heap.size := by
  obtain ⟨e, i, z, hu, hi, hsz, hz, hzc, hby⟩ := appNB_out ht
  have hvl := hO.1
  have hsum : (vs ++ us).length = (l + m) * s := by rw [List.length_append, hvl, hm, Nat.add_mul]
  obtain ⟨hl, ⟨rfl, h0, hc0⟩ | ⟨g, o, N, f, rfl, hB, hoc, hlc, hf⟩⟩ := hO
  · have hm0 : m = 0 := by omega
    subst hm0; subst h0; subst hc0
    have hus : us = [] := List.length_eq_zero_iff.1 (by omega)
    have hvs : vs = [] := List.length_eq_zero_iff.1 (by omega)
    subst hus; subst hvs
    have hfc := run_firstCellsN (P := P) (s := s) (n := 0) (len := 0) (cap := d) hR (by simp)
    refine ⟨w, ?_, ⟨by simp, .inl ⟨rfl, rfl, rfl⟩⟩, Fr.refl _ _, rfl⟩
    show (Builtin.append_ #[t, t] ty #[.slice none 0 0, .slice q 0 d]).run P w = _
    simp [Builtin.append_, run_underlying hu, sizeOf, typeInfo, hi, hsz, Builtin.lenOf, hfc]
  · have hfc := run_firstCellsN (P := P) (s := s) (n := m) (len := m) (cap := d) hR hm
    have hcs : (l + m) * s ≤ c * s := Nat.mul_le_mul_right s hn
    rw [Nat.add_mul] at hcs
    obtain ⟨w', hst, hfr, hB', hsize⟩ := run_storeCells (P := P) us 0 g N (o + l * s) f w hB (by omega) h1
    refine ⟨w', ?_, ⟨hsum, .inr ⟨g, o, N, _, rfl, hB', hoc, hn, ?_⟩⟩, hfr, hsize⟩
    · have e1 : (⟨g, o, none⟩ : Addr).add (l * s) = ⟨g, o + l * s, none⟩ := add_mk _ _ _
      show (Builtin.append_ #[t, t] ty #[.slice (some ⟨g, o, none⟩) l c, .slice q m d]).run P w = _
      simp [Builtin.append_, run_underlying hu, sizeOf, typeInfo, hi, hsz, Builtin.lenOf, hn, hfc, e1, hst]
    · intro j v hj
      unfold updN
      by_cases hjl : j < vs.length
      · rw [dif_neg (by omega)]
        rw [List.getElem?_append_left hjl] at hj
        exact hf j v hj
      · rw [List.getElem?_append_right (by omega)] at hj
        have hlt := (List.getElem?_eq_some_iff.1 hj).1
        rw [dif_pos (by omega)]
        have e2 : o + j - (o + l * s + 0) = j - vs.length := by omega
        rw [List.getElem?_eq_some_iff] at hj
        obtain ⟨_, hj⟩ := hj
        simp only [e2]
        exact hj
def clrB (P : Program) (t : TypeId) (s : Nat) : Bool :=
  match P.underlying t with
  | some (.slice e) => (match P.info? e with | some i => (match i.zero with | some z => z.cells.size == s && z.cells.toList.all (·.oneCell') | none => false) | none => false)
  | _ => false
theorem clrB_out {P : Program} {t : TypeId} {s : Nat} (h : clrB P t s = true) : ∃ e i z, P.underlying t = some (.slice e) ∧ P.info? e = some i ∧ i.zero = some z ∧ z.cells.size = s ∧ ∀ u ∈ z.cells.toList, u.oneCell' = true := by
  unfold clrB at h
  split at h
  · rename_i e he
    split at h
    · rename_i i hi
      split at h
      · rename_i z hz
        simp only [Bool.and_eq_true, beq_iff_eq] at h
        exact ⟨e, i, z, he, hi, hz, h.1, fun u hu => List.all_eq_true.1 h.2 u hu⟩
      · simp at h
    · cases h
  · cases h
theorem zeroCells_one {zs : Array Value} (h : ∀ u ∈ zs.toList, u.oneCell' = true) (n : Nat) : ∀ u ∈ (Builtin.zeroCells zs n).toList, u.oneCell' = true := by
  intro u hu
  unfold Builtin.zeroCells at hu
  rw [Array.toList_map, List.mem_map] at hu
  obtain ⟨i, hi, rfl⟩ := hu
  have hi' : i < n * zs.size := by simpa using hi
  have hs : 0 < zs.size := Nat.pos_of_ne_zero fun h0 => by rw [h0] at hi'; simp at hi'
  have hlt := Nat.mod_lt i hs
  apply h
  rw [getElem!_pos zs _ hlt]
  exact Array.getElem_mem_toList hlt
theorem Ef.clearN {P : Program} {t : TypeId} {s : Nat} (ht : clrB P t s = true) {w : World} {g o N n d : Nat} {f : Nat → Value} (hB : Blk w g N f) (hn : o + n * s ≤ N) :
    ∃ w' zs, Ef P (Builtin.clear_ #[t] 0 #[.slice (some ⟨g, o, none⟩) n d]) w (.tuple #[]) w' ∧ Fr [g] w w' ∧ zs.length = n * s ∧ Blk w' g N (updN f o zs) ∧ w'.heap.size = w.heap.size := by
  obtain ⟨e, i, z, hu, hi, hz, hzc, h1⟩ := clrB_out ht
  cases n with
  | zero =>
    refine ⟨w, [], ?_, Fr.refl _ _, by simp, hB.ext fun j _ => ?_, rfl⟩
    · show (Builtin.clear_ #[t] 0 #[.slice (some ⟨g, o, none⟩) 0 d]).run P w = _
      simp [Builtin.clear_, run_underlying hu]
    · unfold updN; rw [dif_neg (by simp)]
  | succ n =>
    have hl : (Builtin.zeroCells z.cells (n + 1)).toList.length = (n + 1) * s := by simp [size_zeroCells, hzc]
    obtain ⟨w', hst, hfr, hB', hsize⟩ := run_storeCells (P := P) (Builtin.zeroCells z.cells (n + 1)).toList 0 g N o f w hB (by omega) (zeroCells_one h1 _)
    refine ⟨w', _, ?_, hfr, hl, by simpa using hB', hsize⟩
    show (Builtin.clear_ #[t] 0 #[.slice (some ⟨g, o, none⟩) (n + 1) d]).run P w = _
    simp [Builtin.clear_, run_underlying hu, zeroValue, typeInfo, hi, hz, hst]
end Go.Fw
end

section
namespace Go.Fw
open Go
def bstr (xs : List UInt8) : ByteArray := xs.foldl (fun r x => r.push x) ByteArray.empty
theorem bstr_data : ∀ (xs : List UInt8) (b : ByteArray), (xs.foldl (fun r x => r.push x) b).data = b.data ++ xs.toArray
  | [], b => by simp
  | x :: xs, b => by
    rw [List.foldl_cons, bstr_data xs (b.push x)]
    simp [ByteArray.push]
theorem bstr_list (xs : List UInt8) : (bstr xs).toList = xs := by
  rw [ByteArray.toList_eq]
  unfold bstr
  rw [bstr_data]
  simp
theorem bstr_eq (xs ys : List UInt8) : ((bstr xs).toList == (bstr ys).toList) = decide (xs = ys) := by
  rw [bstr_list, bstr_list, Bool.eq_iff_iff]; simp
def strB (P : Program) (src dst : TypeId) : Bool :=
  match P.underlying src with
  | some (.slice e) => isU8 P e && (match P.underlying dst with | some .string => true | _ => false)
  | _ => false
theorem strB_out {P : Program} {src dst : TypeId} (h : strB P src dst = true) : ∃ e, P.underlying src = some (.slice e) ∧ P.underlying e = some (.int .u8) ∧ P.underlying dst = some .string := by
  unfold strB at h
  split at h
  · rename_i e he
    simp only [Bool.and_eq_true] at h
    refine ⟨e, he, isU8_out h.1, ?_⟩
    have h2 := h.2
    split at h2
    · assumption
    · cases h2
  · cases h
theorem Ef.toStr {P : Program} {src dst : TypeId} (ht : strB P src dst = true) {w : World} {p : Option Addr} {l c : Nat} {xs : List UInt8} (hR : Row w p (xs.map fun x => .int .u8 (x.toNat : Int))) (hl : l = xs.length) :
    Ef P (convert src dst (.slice p l c)) w (.string (bstr xs)) w := by
  obtain ⟨e, hs, he, hd⟩ := strB_out ht
  show (convert src dst (.slice p l c)).run P w = _
  rw [run_convert_bytes_string w src dst e p l c hs he hd]
  have e1 : ∀ (ys : List UInt8) (b : ByteArray), (ys.map fun x => (x.toNat : Int)).foldl (fun r n => r.push (UInt8.ofNat n.toNat)) b = ys.foldl (fun r x => r.push x) b := by
    intro ys
    induction ys with
    | nil => intro b; rfl
    | cons y ys ih =>
      intro b
      rw [List.map_cons, List.foldl_cons, List.foldl_cons, Int.toNat_natCast, UInt8.ofNat_toNat, ih]
  cases p with
  | none =>
    rcases hR with h0 | ⟨b, o, hb, _⟩
    · have : xs = [] := by simpa using h0
      subst this; rfl
    · cases hb
  | some a =>
    have hcell : ∀ j v, (xs.map fun x => (Value.int .u8 (x.toNat : Int)))[j]? = some v → w.cell? (a.add j) = some v := by
      rcases hR with h0 | ⟨b, o, hb, hf⟩
      · intro j v hj; rw [h0] at hj; simp at hj
      · cases hb
        intro j v hj; rw [add_mk]; exact hf j v hj
    have hl2 : l = (xs.map fun x => (Value.int .u8 (x.toNat : Int))).length := by simpa using hl
    have h1 := run_loadCells_list (P := P) (w := w) a (xs.map fun x => (Value.int .u8 (x.toNat : Int))) hcell
    rw [← hl2] at h1
    rw [run_bytesToString w a l c (xs.map fun x => (x.toNat : Int)) (by rw [h1, List.map_map]; rfl)]
    unfold bstr
    rw [e1]
end Go.Fw
end
