/- A part of a proof of a given law of this program: lemmas, printed forms of its functions, contracts. It has no conditions of its own. -/
import Derived.Test.YtlphgbgfnjhhcaaFw2
import Derived.Laws.Sem
namespace Go.Fw
open Go

/-! ### A function's results -/
def resVs (P : Program) (w : World) : List ResultVar → St → (List Value → Prop) → Prop
  | [], _, K => K []
  | .tmp t :: rs, s, K => resVs P w rs s fun vs => K (s.r t :: vs)
  | .cell a t :: rs, s, K => ∃ p v, s.r a = .pointer (some p) ∧ (loadVar t p).run P w = .ok v w ∧ resVs P w rs s fun vs => K (v :: vs)
def oneOf : List Value → Value
  | [v] => v
  | vs => .tuple ⟨vs⟩
def resK (P : Program) (rs : List ResultVar) (s : St) (w : World) (K : Value → World → Prop) : Prop := resVs P w rs s fun vs => K (oneOf vs) w

theorem resVs_run {P : Program} {w : World} {nt : Nat} {a : Act} {s : St} (hrep : Rep nt a s) : ∀ (rs : List ResultVar) (K : List Value → Prop), resVs P w rs s K →
    ∃ vs, (rs.mapM (fun
      | .tmp t => pure (a.tmps.getD t undef)
      | .cell b t => do loadVar t (← asAddr (a.tmps.getD b undef)) : ResultVar → Sem Value)).run P w = .ok vs w ∧ K vs := by
  intro rs
  induction rs with
  | nil => exact fun K h => ⟨[], rfl, h⟩
  | cons x rs ih =>
    intro K h
    cases x with
    | tmp t =>
      obtain ⟨vs, hr, hk⟩ := ih _ h
      refine ⟨s.r t :: vs, ?_, hk⟩
      rw [List.mapM_cons, ← hrep.val t]
      show ((_ : Sem Value) >>= _).run P w = _
      rw [Sem.run_bind]
      show ((_ : Sem (List Value)) >>= _).run P w = _
      rw [Sem.run_bind, hr]
      rfl
    | cell b t =>
      obtain ⟨p, v, hp, hv, h⟩ := h
      obtain ⟨vs, hr, hk⟩ := ih _ h
      refine ⟨v :: vs, ?_, hk⟩
      rw [List.mapM_cons]
      rw [Sem.run_bind]
      have hb : a.tmps.getD b undef = .pointer (some p) := (hrep.val b).trans hp
      have e : (do loadVar t (← asAddr (a.tmps.getD b undef)) : Sem Value).run P w = .ok v w := by
        rw [hb]
        exact hv
      rw [e]
      show ((_ : Sem (List Value)) >>= _).run P w = _
      rw [Sem.run_bind, hr]
      rfl

theorem resK_run {P : Program} {w : World} {nt : Nat} {a : Act} {s : St} {fn : Func} {K : Value → World → Prop} (hrep : Rep nt a s) (h : resK P fn.results.toList s w K) :
    ∃ v, (results fn a.tmps).run P w = .ok v w ∧ K v w := by
  obtain ⟨vs, hr, hk⟩ := resVs_run hrep _ _ h
  refine ⟨oneOf vs, ?_, hk⟩
  unfold results
  have e : fn.results = fn.results.toList.toArray := by simp
  rw [e, List.mapM_toArray, Sem.run_bind]
  show ((List.toArray <$> _ : Sem (Array Value)).run P w).andThen _ = _
  rw [← bind_pure_comp, Sem.run_bind]
  refine (congrArg (fun r => Result.andThen (Result.andThen r _) _) hr).trans ?_
  show Result.ok (if h : vs.toArray.size = 1 then vs.toArray[0] else .tuple vs.toArray) w = _
  congr 1
  match vs with
  | [] => rfl
  | [v] => rfl
  | _ :: _ :: _ => rfl

/-- The deferred calls of a range over a function are taken over. -/
def Tk (P : Program) (r : Nat) (w w' : World) : Prop := (Instr.takeDeferred r).run P w = .ok [] w'
/-- A deferred call, where the frame below is returning. -/
def callD (P : Program) (f : FuncId) (args : Array Value) (w : World) (K : World → Prop) : Prop :=
  CallsDIn (fen none) 0 P f args .returning w fun e u' w' => u' = .returning ∧ ∃ v, e = .returned v ∧ K w'
/-- The same, by the function's number. -/
def callDF (P : Program) (f : FuncId) (args : Array Value) (w : World) (K : World → Prop) : Prop := (∀ args w, (callFunc f args).run P w = .ok (.enter f args) w) ∧ callD P f args w K
def leaveK (P : Program) (rs : List ResultVar) (s : St) (K : Value → World → Prop) : List Deferred → World → Prop
  | [], w => resK P rs s w K
  | d :: ds, w =>
    match d.target with
    | .collected r => ∃ w', Tk P r w w' ∧ leaveK P rs s K ds w'
    | .fn (.func f) cap => callDF P f ⟨d.args.toList ++ cap.toList⟩ w fun w' => leaveK P rs s K ds w'
    | _ => False
/-- What a function's body ends in. -/
def endK (P : Program) (rs : List ResultVar) (K : Value → World → Prop) : KS
  | .normal, s, w => leaveK P rs s K s.ds w
  | .ret, s, w => leaveK P rs s K s.ds w
  | _, _, _ => False

theorem leaveK_out {P : Program} {fn : Func} {nt : Nat} {a : Act} {s : St} {K : Value → World → Prop} (hrep : Rep nt a s) : ∀ (ds : List Deferred) (w : World),
    leaveK P fn.results.toList s K ds w → LeavesInM (fen none) 0 P fn a.tmps (fun e w' => ∃ v, e = .returned v ∧ K v w') ds .returning w := by
  intro ds
  induction ds with
  | nil =>
    intro w h
    obtain ⟨v, hv, hk⟩ := resK_run hrep h
    exact ⟨v, hv, v, rfl, hk⟩
  | cons d ds ih =>
    intro w h
    refine ⟨by simp, ?_⟩
    simp only [leaveK] at h
    split at h
    · rename_i r ht
      obtain ⟨w', hr, h⟩ := h
      exact .inl ⟨r, w', ht, hr, ih w' h⟩
    · rename_i f cap ht
      obtain ⟨hc, h⟩ := h
      refine .inr ⟨fun h => by simp [fen] at h, .func f, cap, f, ⟨d.args.toList ++ cap.toList⟩, ht, ?_, fun _ _ => trivial, ?_⟩
      · rw [ht]
        have e : (d.args ++ cap : Array Value) = ⟨d.args.toList ++ cap.toList⟩ := by apply Array.toList_inj.1; simp
        rw [← e]
        exact hc _ _
      · refine ⟨h.1, fun c cs hm hr => ?_⟩
        obtain ⟨e, u', w', fr, ⟨hu, v, he, hk⟩, rest⟩ := h.2 c cs hm hr
        subst hu; subst he
        exact ⟨_, _, w', fr, ih w' hk, rest⟩
    · exact h.elim

theorem endK_out {P : Program} {fn : Func} {nt : Nat} {K : Value → World → Prop} : ∀ e a w, post nt (endK P fn.results.toList K) e a w → bodyPostM (fen none) 0 P fn (fun e w' => ∃ v, e = .returned v ∧ K v w') e a w := by
  intro e a w h
  cases e with
  | normal =>
    obtain ⟨s, hr, h⟩ := h
    have h2 := leaveK_out hr _ w h
    rw [← hr.ds] at h2
    exact h2
  | ret =>
    obtain ⟨s, hr, h⟩ := h
    have h2 := leaveK_out hr _ w h
    rw [← hr.ds] at h2
    exact h2
  | exit i => obtain ⟨s, hr, h⟩ := h; exact h.elim
  | goto l => obtain ⟨s, hr, h⟩ := h; exact h.elim
  | panic c => exact h.elim
  | outgrown => exact h.elim

theorem rep_start (args : List Value) (nt : Nat) (h : args.length ≤ nt) : Rep nt { tmps := (⟨args⟩ : Array Value) ++ Array.replicate (nt - (⟨args⟩ : Array Value).size) undef, defers := [] } ⟨regs args, []⟩ := by
  refine ⟨by simp; omega, fun t => ?_, rfl⟩
  simp only [regs, Array.getD_eq_getD_getElem?, Array.getElem?_append, List.getD_eq_getElem?_getD]
  by_cases ht : t < args.length
  · simp [ht]
  · have h2 : args[t]? = none := by simp; omega
    simp only [List.size_toArray, ht, if_false, h2, Option.getD_none]
    by_cases h3 : t - args.length < nt - args.length
    · simp [h3]
    · simp [h3]

/-- **A function's contract out of its body.** -/
theorem callK_of_sw {P : Program} {f : FuncId} {fn : Func} {c : Code} {args : List Value} {w : World} {K : Value → World → Prop} (tt : Nat → List (Nat × TypeId)) (hf : P.funcs[f]? = some fn) (hb : fn.body = some c)
    (hn : Nat.ble args.length fn.ntmps = true) (h : sw P none fn.ntmps tt c 0 (endK P fn.results.toList K) ⟨regs args, []⟩ w) : callK P f ⟨args⟩ w K := by
  have h1 := sw_sound c 0 _ _ _ w (rep_start args fn.ntmps (Nat.le_of_ble_eq_true hn)) h
  exact callsIn_wide.1 (callsIn_of_wp_marks hf hb trivial (wpIn_mono h1 endK_out) rfl)

/-- What a deferred function's body ends in. -/
def endD (P : Program) (rs : List ResultVar) (K : World → Prop) : KS
  | .normal, s, w => match s.ds with | [] => resK P rs s w fun _ w => K w | _ => False
  | .ret, s, w => match s.ds with | [] => resK P rs s w fun _ w => K w | _ => False
  | _, _, _ => False
theorem callD_of_sw {P : Program} {f : FuncId} {fn : Func} {c : Code} {args : List Value} {w : World} {K : World → Prop} (tt : Nat → List (Nat × TypeId)) (hf : P.funcs[f]? = some fn) (hb : fn.body = some c)
    (hn : Nat.ble args.length fn.ntmps = true) (h : sw P none fn.ntmps tt c 0 (endD P fn.results.toList K) ⟨regs args, []⟩ w) : callD P f ⟨args⟩ w K := by
  have h1 := sw_sound c 0 _ _ _ w (rep_start args fn.ntmps (Nat.le_of_ble_eq_true hn)) h
  have h2 : CallsDIn (fen none) 0 P f ⟨args⟩ .returning w fun e u' w' => u' = .returning ∧ ∃ v, e = .returned v ∧ K w' := by
    refine callsDIn_of_wp (R := fun e w' => ∃ v, e = .returned v ∧ K w') hf hb trivial (wpIn_mono h1 ?_) rfl
    have key : ∀ (a : Act) (s : St) (w : World), Rep fn.ntmps a s → (match s.ds with | [] => resK P fn.results.toList s w (fun _ w => K w) | _ => False) → a.defers = [] ∧ ∃ v, (results fn a.tmps).run P w = .ok v w ∧ ∃ v', Ending.returned v = .returned v' ∧ K w := by
      intro a s w hr h
      cases hds : s.ds with
      | nil => rw [hds] at h; obtain ⟨v, hv, hk⟩ := resK_run hr h; exact ⟨by rw [hr.ds, hds], v, hv, v, rfl, hk⟩
      | cons d l => rw [hds] at h; exact h.elim
    intro e a w h
    cases e with
    | normal => obtain ⟨s, hr, h⟩ := h; exact key a s w hr h
    | ret => obtain ⟨s, hr, h⟩ := h; exact key a s w hr h
    | exit i => obtain ⟨s, hr, h⟩ := h; exact h.elim
    | goto l => obtain ⟨s, hr, h⟩ := h; exact h.elim
    | panic c => exact h.elim
    | outgrown => exact h.elim
  exact h2

/-- A call by its number, of a function with a body. -/
theorem callF_of {P : Program} {f : FuncId} {args : Array Value} {w : World} {K : Value → World → Prop} (he : ∀ args w, (callFunc f args).run P w = .ok (.enter f args) w) (h : callK P f args w K) : callF P f args w K :=
  callF_in (.inl ⟨he args w, h⟩)

/-- A call of a function's contract, for whatever comes behind it. -/
theorem callF_mono' {P : Program} {f : FuncId} {args : Array Value} {w : World} {K K' : Value → World → Prop} (h : callF P f args w K) (hk : ∀ v w, K v w → K' v w) : callF P f args w K' := callF_mono hk h

/-! ### Words of the printed forms -/
/-- A new block. -/
def New (cs : Array Value) (t : TypeId) (w : World) (K : Nat → World → Prop) : Prop := K w.heap.size (w.alloc (.cells cs t))
/-- A draw of an order. -/
def Drw (w : World) (K : World → Prop) : Prop := K w.drew
/-- The ranges over functions in a body. -/
def rfs : Code → List (Array Tmp × Code × Code)
  | .seq a b => rfs a ++ rfs b
  | .cond _ a b => rfs a ++ rfs b
  | .block _ b => rfs b
  | .loop b => rfs b
  | .rangeFunc _ ps a b => [(ps, a, b)]
  | _ => []
def RangeF (P : Program) (g : Value) (tmps : Array Value) (rf : Array Tmp × Code × Code) (w : World) (Kn Kr : Nat → World → Prop) : Prop :=
  ∃ gf first cap, g = .func (.func gf) first cap ∧
    (∀ args w, (callFunc gf args).run P w = .ok (.enter gf args) w) ∧
    ∀ fn : FuncId, callK P gf ⟨first.toList ++ [.func (.yield (w.heap.size + 1)) #[] #[]] ++ cap.toList⟩
      ((w.alloc (.deferred (some []))).alloc (.loop (rec0 fn tmps rf.1 rf.2.1 rf.2.2 w.heap.size)))
      fun _ w' => ∃ jump w'', (Instr.endLoop (w.heap.size + 1)).run P w' = .ok jump w'' ∧
        match jump with
        | none => Kn w.heap.size w''
        | some .ret => Kr w.heap.size w''
        | _ => False
end Go.Fw
