/- A part of a proof of a given law of this program: lemmas, printed forms of its functions, contracts. It has no conditions of its own. -/
import Derived.Test.YtlphgbgfnjhhcaaFw1
namespace Go.Fw
open Go

abbrev KS := Exit → St → World → Prop

def put (nt : Nat) (dst : Option Tmp) (v : Value) (s : St) (K : St → Prop) : Prop :=
  match dst with
  | none => K s
  | some d => bif Nat.blt d nt then K (s.up d v) else False
/-- Which way a guard goes. -/
def gK (b want : Bool) (A B : Prop) : Prop := match want with | true => cond b A B | false => cond b B A

/-- One operation and what it leaves in its register; a deferred call is laid. -/
def runOp (P : Program) (nt : Nat) (df : Bool) (o : Oper) (s : St) (w : World) (next : St → World → Prop) : Prop :=
  match o.op with
  | .defer c =>
    match c.callee with
    | .value (.func f) => bif df then put nt o.dst undef ⟨s.r, { target := .fn (.func f) #[], args := ⟨c.args.toList.map s.ev⟩ } :: s.ds⟩ fun s' => next s' w else False
    | _ => False
  | _ => swOp P o s w fun v w' => put nt o.dst v s fun s' => next s' w'
def swOps (P : Program) (nt : Nat) (df : Bool) (all : Array Oper) : List Oper → St → World → (St → World → Prop) → Prop
  | [], s, w, K => K s w
  | o :: rest, s, w, K =>
    match o.guard with
    | none => runOp P nt df o s w fun s' w' => swOps P nt df all rest s' w' K
    | some (j, want) =>
      match (all[j]?).bind (·.dst) with
      | none => put nt o.dst undef s fun s' => swOps P nt df all rest s' w K
      | some d =>
        match s.r d with
        | .bool b =>
          gK b want
            (runOp P nt df o (s.up d (.bool want)) w fun s' w' => swOps P nt df all rest s' w' K)
            (put nt o.dst undef (s.up d (.bool (!want))) fun s' => swOps P nt df all rest s' w K)
        | .tuple _ => put nt o.dst undef s fun s' => swOps P nt df all rest s' w K
        | _ => False

/-! ### A region that draws its order -/
def isPure (P : Program) (o : Oper) : Bool :=
  match o.op with
  | .move _ | .assign _ | .pick .. | .extract .. | .build .. | .fieldAddr .. | .makeFunc .. | .unOp .. | .nilCheck _ | .indexAddr .. | .index .. | .slice .. | .sliceToArrayPointer .. | .field .. => true
  | .binOp op t _ y _ => directBin P op t y || isInt P t
  | .convert src dst _ => isInt P src && isInt P dst
  | .call { callee := .builtin .len, argTypes := ats, .. } => !isMapT P (ats.getD 0 0)
  | .call { callee := .builtin .min, .. } | .call { callee := .builtin .max, .. } | .call { callee := .builtin .cap, .. } => true
  | _ => false
def noDefer (ops : Array Oper) : Bool := ops.toList.all fun o => match o.op with | .defer _ => false | .select .. => false | _ => true
def planOk (P : Program) (ops : Array Oper) : List Nat → Array Bool → Bool
  | [], listed => (Region.ready .any ops listed).isEmpty
  | i :: l, listed =>
    (match ops[i]? with
      | some o => (isPure P o && Region.free .any ops listed i && (Region.ready .any ops listed).contains i) || Region.ready .any ops listed == [i]
      | none => false) && planOk P ops l (listed.setIfInBounds i true)
/-- The first of the operations that may come that is pure and apart from all others; else the only one. -/
def nextOp (P : Program) (ops : Array Oper) (listed : Array Bool) : Option Nat :=
  match (Region.ready .any ops listed).find? fun i => match ops[i]? with | some o => isPure P o && Region.free .any ops listed i | none => false with
  | some i => some i
  | none => match Region.ready .any ops listed with | [i] => some i | _ => none
def planFrom (P : Program) (ops : Array Oper) : Nat → Array Bool → List Nat
  | 0, _ => []
  | n + 1, listed => match nextOp P ops listed with | some i => i :: planFrom P ops n (listed.setIfInBounds i true) | none => []
def plan (P : Program) (ops : Array Oper) : List Nat := planFrom P ops ops.size (Array.replicate ops.size false)
def planned (P : Program) (ops : Array Oper) : Bool :=
  planOk P ops (plan P ops) (Array.replicate ops.size false) && noDefer ops && P.follows .mixedOrders && Nat.beq (plan P ops).length ops.size
/-! #### A load that nobody in the region writes: held -/
def isLoad (o : Oper) : Bool := match o.op with | .load .. => true | _ => false
/-- Does number j wait for number i? -/
def waits (ops : Array Oper) : Nat → Nat → Nat → Bool
  | 0, _, _ => false
  | n + 1, j, i => match ops[j]? with | some o => o.after.toList.any fun e => Region.binds .any e && (e.on == i || waits ops n e.on i) | none => false
/-- Is there a held load that may come behind number j? -/
def flagged (ops : Array Oper) (held : List Nat) (j : Nat) : Bool := held.any fun i => i != j && !waits ops ops.size j i
def nextOpH (P : Program) (ops : Array Oper) (listed : Array Bool) : Option (Nat × Bool) :=
  match nextOp P ops listed with
  | some i => some (i, false)
  | none =>
    match (Region.ready .any ops listed).find? fun i => match ops[i]? with | some o => isLoad o && Region.free .any ops listed i | none => false with
    | some i => some (i, true)
    | none => none
def planFromH (P : Program) (ops : Array Oper) : Nat → Array Bool → List (Nat × Bool)
  | 0, _ => []
  | n + 1, listed => match nextOpH P ops listed with | some (i, h) => (i, h) :: planFromH P ops n (listed.setIfInBounds i true) | none => []
def planH (P : Program) (ops : Array Oper) : List (Nat × Bool) := planFromH P ops ops.size (Array.replicate ops.size false)
def heldOf (l : List (Nat × Bool)) : List Nat := (l.filter fun p => p.2).map fun p => p.1
def planOkH (P : Program) (ops : Array Oper) (held : List Nat) : List (Nat × Bool) → Array Bool → Bool
  | [], listed => (Region.ready .any ops listed).isEmpty
  | (i, h) :: l, listed =>
    (match ops[i]? with
      | some o =>
        bif h then isLoad o && held.contains i && Region.free .any ops listed i && (Region.ready .any ops listed).contains i
        else bif isPure P o then Region.free .any ops listed i && (Region.ready .any ops listed).contains i else Region.ready .any ops listed == [i]
      | none => false) && planOkH P ops held l (listed.setIfInBounds i true)
def plannedH (P : Program) (ops : Array Oper) : Bool :=
  planOkH P ops (heldOf (planH P ops)) (planH P ops) (Array.replicate ops.size false) && noDefer ops && P.follows .mixedOrders && Nat.beq (planH P ops).length ops.size
/-- A load that gives u in every world that meets S, this one among them. -/
def HLd (P : Program) (S : World → Prop) (t : TypeId) (x : Value) (w : World) (u : Value) : Prop := S w ∧ ∀ w', S w' → Ld P t x w' u
def swOpH (P : Program) (S : World → Prop) (o : Oper) (s : St) (w : World) (K : Value → World → Prop) : Prop :=
  match o.op with
  | .load t x => exVal P t fun u => HLd P S t (s.ev x) w u ∧ K u w
  | _ => False
def keepsS (P : Program) (ops : Array Oper) (held : List Nat) (S : World → Prop) (i : Nat) (o : Oper) (w w' : World) (A : Prop) : Prop :=
  bif isPure P o then A else bif flagged ops held i then (w' = w ∨ S w') ∧ A else A
def runH (P : Program) (nt : Nat) (all : Array Oper) (held : List Nat) (S : World → Prop) (i : Nat) (h : Bool) (o : Oper) (s : St) (w : World) (next : St → World → Prop) : Prop :=
  bif h then swOpH P S o s w fun v w' => put nt o.dst v s fun s' => next s' w'
  else swOp P o s w fun v w' => keepsS P all held S i o w w' (put nt o.dst v s fun s' => next s' w')
def swOpsH (P : Program) (nt : Nat) (all : Array Oper) (held : List Nat) (S : World → Prop) : List (Nat × Bool) → St → World → (St → World → Prop) → Prop
  | [], s, w, K => K s w
  | (i, h) :: rest, s, w, K =>
    match all[i]? with
    | none => False
    | some o =>
      match o.guard with
      | none => runH P nt all held S i h o s w fun s' w' => swOpsH P nt all held S rest s' w' K
      | some (j, want) =>
        match (all[j]?).bind (·.dst) with
        | none => put nt o.dst undef s fun s' => swOpsH P nt all held S rest s' w K
        | some d =>
          match s.r d with
          | .bool b =>
            gK b want (runH P nt all held S i h o (s.up d (.bool want)) w fun s' w' => swOpsH P nt all held S rest s' w' K)
              (put nt o.dst undef (s.up d (.bool (!want))) fun s' => swOpsH P nt all held S rest s' w K)
          | .tuple _ => put nt o.dst undef s fun s' => swOpsH P nt all held S rest s' w K
          | _ => False
def pickOps (ops : Array Oper) (l : List Nat) : List Oper := l.filterMap fun i => ops[i]?

/-! ### Code -/
def thenK (N : St → World → Prop) (K : KS) : KS
  | .normal, s, w => N s w
  | .exit i, s, w => K (.exit i) s w
  | .ret, s, w => K .ret s w
  | .goto l, s, w => K (.goto l) s w
  | _, _, _ => False
def blockK (id : Nat) (K : KS) : KS
  | .normal, s, w => K .normal s w
  | .exit i, s, w => bif Nat.beq i id then K .normal s w else K (.exit i) s w
  | .ret, s, w => K .ret s w
  | .goto l, s, w => K (.goto l) s w
  | _, _, _ => False
/-- The registers named, over others. -/
def overlay : List (Nat × TypeId) → List Value → (Nat → Value) → Nat → Value
  | (d, _) :: l, v :: vs, r, t => bif Nat.beq t d then v else overlay l vs r t
  | _, _, r, t => r t
abbrev Inv := List Value → World → Prop
abbrev Meas := List Value → World → Nat
/-- A loop over the values of the registers that it needs: an invariant and a measure. -/
def LoopS (vs : List Value) (w : World) (step : Inv → Meas → List Value → (Nat → Value) → World → Prop) : Prop :=
  ∃ (I : Inv) (μ : Meas), I vs w ∧ ∀ us r w, I us w → step I μ us r w
/-- The round goes on. -/
def goesOn (ds ds' : List Deferred) (I : Inv) (μ : Meas) (us us' : List Value) (w w' : World) : Prop := ds' = ds ∧ I us' w' ∧ μ us' w' < μ us w
/-- The shape of a register at a loop's head; 1000000: an address that is none's. -/
def exLive (P : Program) (t : TypeId) (K : Value → Prop) : Prop := bif Nat.beq t 1000000 then ∃ a, K (.pointer (some a)) else exVal P t K
def exLives (P : Program) : List TypeId → (List Value → Prop) → Prop
  | [], K => K []
  | t :: ts, K => exLive P t fun v => exLives P ts fun vs => K (v :: vs)
theorem exLives_elim {P : Program} {ts : List TypeId} {K : List Value → Prop} (h : exLives P ts K) : ∃ vs, K vs := by
  induction ts generalizing K with
  | nil => exact ⟨[], h⟩
  | cons t ts ih =>
    have : ∃ v, exLives P ts fun vs => K (v :: vs) := by
      unfold exLives exLive at h
      cases hb : Nat.beq t 1000000 <;> rw [hb] at h
      · exact exVal_elim h
      · obtain ⟨a, h⟩ := h; exact ⟨_, h⟩
    obtain ⟨v, h⟩ := this
    obtain ⟨vs, h⟩ := ih h
    exact ⟨_, h⟩
def LoopK (P : Program) (live : List (Nat × TypeId)) (step : KS → St → World → Prop) (K : KS) (s : St) (w : World) : Prop :=
  LoopS (live.map fun p => s.r p.1) w fun I μ us r w =>
    exLives P (live.map fun p => p.2) fun vs => us = vs ∧
      step (thenK (fun s' w' => goesOn s.ds s'.ds I μ us (live.map fun p => s'.r p.1) w w') K) ⟨overlay live vs r, s.ds⟩ w
theorem overlay_self (r : Nat → Value) : ∀ (live : List (Nat × TypeId)), overlay live (live.map fun p => r p.1) r = r := by
  intro live
  induction live with
  | nil => rfl
  | cons p l ih =>
    funext t
    show (bif Nat.beq t p.1 then r p.1 else overlay l (l.map fun p => r p.1) r t) = r t
    rw [ih]
    cases hb : Nat.beq t p.1 with
    | false => rfl
    | true => rw [Nat.eq_of_beq_eq_true hb]; rfl
def St.tmps (s : St) (nt : Nat) : Array Value := ((List.range nt).map s.r).toArray
/-- The loop's record, as a range over a function lays it. -/
def rec0 (fn : FuncId) (tmps : Array Value) (ps : Array Tmp) (assign body : Code) (df : Nat) : Loop :=
  { state := .ready, pending := none, fn, tmps, params := ps, assign, body, defers := df }
/-- Behind a range over a function: what the rounds have left pending. -/
def rangeEnd (P : Program) (l : Nat) (s : St) (K : KS) (w : World) : Prop :=
  ∃ jump w', (Instr.endLoop l).run P w = .ok jump w' ∧
    match jump with
    | none => K .normal s w'
    | some .ret => K .ret s w'
    | _ => False
/-- 'for .. := range g { .. }' in a function's own frame: the block for the deferred calls, the record, the call. -/
def rangeK (P : Program) (ro : Option Nat) (nt : Nat) (g : Value) (ps : Array Tmp) (assign body : Code) (s : St) (w : World) (K : KS) : Prop :=
  match ro with
  | none => ∃ gf first cap, g = .func (.func gf) first cap ∧
    (∀ args w, (callFunc gf args).run P w = .ok (.enter gf args) w) ∧
    ∀ fn : FuncId, callK P gf ⟨first.toList ++ [.func (.yield (w.heap.size + 1)) #[] #[]] ++ cap.toList⟩
      ((w.alloc (.deferred (some []))).alloc (.loop (rec0 fn (s.tmps nt) ps assign body w.heap.size)))
      fun _ w' => rangeEnd P (w.heap.size + 1) ⟨s.r, { target := .collected w.heap.size, args := #[] } :: s.ds⟩ K w'
  | some _ => False
def sw (P : Program) (ro : Option Nat) (nt : Nat) (tt : Nat → List (Nat × TypeId)) : Code → Nat → KS → St → World → Prop
  | .skip, _, K, s, w => K .normal s w
  | .region _ ops draw, _, K, s, w =>
    match draw with
    | false => swOps P nt ro.isNone ops ops.toList s w fun s w => K .normal s w
    | true =>
      bif planned P ops then swOps P nt false ops (pickOps ops (plan P ops)) s w.drew fun s w => K .normal s w
      else bif plannedH P ops then ∃ S : World → Prop, swOpsH P nt ops (heldOf (planH P ops)) S (planH P ops) s w.drew fun s w => K .normal s w
      else False
  | .seq a b, n, K, s, w => sw P ro nt tt a n (thenK (fun s w => sw P ro nt tt b n K s w) K) s w
  | .cond c t e, n, K, s, w => match s.ev c with | .bool b => cond b (sw P ro nt tt t n K s w) (sw P ro nt tt e n K s w) | _ => False
  | .block id b, _, K, s, w => sw P ro nt tt b id (blockK id K) s w
  | .loop b, n, K, s, w => LoopK P (tt n) (fun K s w => sw P ro nt tt b n K s w) K s w
  | .exit id, _, K, s, w => K (.exit id) s w
  | .ret, _, K, s, w => K .ret s w
  | .rangeFunc g ps assign body, _, K, s, w => rangeK P ro nt (s.ev g) ps assign body s w K
  | _, _, _, _, _ => False

/-! ### Soundness -/
/-- What a fenced walk is asked to end in. -/
def post (nt : Nat) (K : KS) : Exit → Act → World → Prop
  | .panic _, _, _ => False
  | .outgrown, _, _ => False
  | e, a, w => ∃ s, Rep nt a s ∧ K e s w

theorem opOut_wp {P : Program} {ro : Option Nat} {o : Oper} {nt : Nat} {a : Act} {s : St} {w : World} {K : Value → World → Prop} {next : Act → World → Prop} {Q : Exit → Act → World → Prop}
    (hrep : Rep nt a s) (hd : ∀ c, o.op ≠ .defer c) (h : opOut P o s w K) (hk : ∀ v w', K v w' → next (a.put o.dst v) w') : o.wpIn (fen ro) 0 P a w next Q := by
  refine ⟨fun f _ => trivial, ?_⟩
  have hs : o.semAt (fen ro).round a.eval = execOp s.ev o := by rw [Oper.semAt_eq _ _ _ hd, hrep.eval]
  rw [hs]
  rcases h with ⟨v, w', hr, h⟩ | ⟨w', hr, h⟩ | ⟨f, args, w', hr, h⟩ | ⟨l, f, tmps, assign, body, w', hr, h⟩
  · rw [hr]; exact hk _ _ h
  · rw [hr]; exact hk _ _ h
  · rw [hr]
    refine ⟨fun h => by simp [fen] at h, ?_⟩
    have h2 : CallsIn (fen none) 0 P f args w' fun e w' => ∃ v, e = .returned v ∧ K v w' := callsIn_wide.2 h
    have h3 : CallsIn (fen ro) 0 P f args w' fun e w' => ∃ v, e = .returned v ∧ K v w' := by
      cases ro with
      | none => exact h2
      | some l => exact h2
    refine h3.mono ?_
    rintro e w'' ⟨v, rfl, hv⟩
    exact hk _ _ hv
  · rw [hr]
    refine ⟨fun h => by simp [fen] at h, ?_⟩
    have h3 : RoundIn (fen ro) 0 P l f tmps assign body w' fun e w' => ∃ v, e = .returned v ∧ K v w' := by
      cases ro with
      | none => exact h
      | some l => exact h
    refine h3.mono ?_
    rintro e w'' ⟨v, rfl, hv⟩
    exact hk _ _ hv

theorem swOp_noDefer {P : Program} {o : Oper} {s : St} {w : World} {K : Value → World → Prop} (h : swOp P o s w K) : ∀ c, o.op ≠ .defer c := by
  intro c hc
  simp only [swOp, hc] at h

theorem put_out {nt : Nat} {dst : Option Tmp} {v : Value} {a : Act} {s : St} {K : St → Prop} (hrep : Rep nt a s) (h : put nt dst v s K) : ∃ s', Rep nt (a.put dst v) s' ∧ K s' := by
  cases dst with
  | none => exact ⟨s, hrep, h⟩
  | some d =>
    simp only [put] at h
    cases hb : Nat.blt d nt <;> rw [hb] at h
    · exact h.elim
    · exact ⟨_, hrep.up (Nat.le_of_ble_eq_true (show Nat.ble (d + 1) nt = true from hb)) v, h⟩

theorem yielded_bool {ops : Array Oper} {nt : Nat} {a : Act} {s : St} {j d : Nat} {b : Bool} (hrep : Rep nt a s) (hd : (ops[j]?).bind (·.dst) = some d) (hv : s.r d = .bool b) :
    yielded ops a.tmps j = some b := by
  have h1 : a.tmps.getD d undef = .bool b := (hrep.val d).trans hv
  have h2 : a.tmps[d]? = some (.bool b) := by
    rw [Array.getD_eq_getD_getElem?] at h1
    cases h : a.tmps[d]? with
    | none => rw [h] at h1; simp [undef] at h1
    | some x => rw [h] at h1; simpa using h1
  simp [yielded, hd, h2]
theorem yielded_tuple {ops : Array Oper} {nt : Nat} {a : Act} {s : St} {j d : Nat} {vs : Array Value} (hrep : Rep nt a s) (hd : (ops[j]?).bind (·.dst) = some d) (hv : s.r d = .tuple vs) :
    yielded ops a.tmps j = none := by
  have h1 : a.tmps.getD d undef = .tuple vs := (hrep.val d).trans hv
  rw [Array.getD_eq_getD_getElem?] at h1
  unfold yielded
  rw [hd]
  cases h : a.tmps[d]? with
  | none => simp [h]
  | some x => rw [h] at h1; simp at h1; subst h1; simp [h]
theorem yielded_none {ops : Array Oper} {tmps : Array Value} {j : Nat} (hd : (ops[j]?).bind (·.dst) = none) : yielded ops tmps j = none := by
  simp [yielded, hd]

/-- One operation of a region: what 'swOps' asks at its head. -/
theorem swOps_head {P : Program} {ro : Option Nat} {nt : Nat} {df : Bool} (hdf : df = true → ro = none) {all : Array Oper} {o : Oper} {rest : List Oper} {a : Act} {s : St} {w : World} {K : St → World → Prop}
    {next : Act → World → Prop} {Q : Exit → Act → World → Prop} (hrep : Rep nt a s) (h : swOps P nt df all (o :: rest) s w K)
    (hn : ∀ a' s' w', Rep nt a' s' → swOps P nt df all rest s' w' K → next a' w') :
    if Region.wanted o (yielded all a.tmps) then o.wpIn (fen ro) 0 P a w next Q
      else (∀ f, o.about P w a.eval = some f → (fen ro).fn f) ∧ next (a.put o.dst undef) w := by
  simp only [swOps] at h
  have skip : ∀ {s : St}, Rep nt a s → put nt o.dst undef s (fun s' => swOps P nt df all rest s' w K) → (∀ f, o.about P w a.eval = some f → (fen ro).fn f) ∧ next (a.put o.dst undef) w := by
    intro s hrep h
    obtain ⟨s', hr', h'⟩ := put_out hrep h
    exact ⟨fun _ _ => trivial, hn _ _ _ hr' h'⟩
  have go : ∀ {s : St}, Rep nt a s → runOp P nt df o s w (fun s' w' => swOps P nt df all rest s' w' K) → o.wpIn (fen ro) 0 P a w next Q := by
    intro s hrep h
    by_cases hisd : ∃ c, o.op = .defer c
    · obtain ⟨c, hc⟩ := hisd
      simp only [runOp, hc] at h
      split at h
      case h_2 => exact h.elim
      rename_i f hf
      cases hd : df <;> rw [hd] at h
      · exact h.elim
      obtain rfl := hdf hd
      have hput : put nt o.dst undef ⟨s.r, { target := .fn (.func f) #[], args := ⟨c.args.toList.map s.ev⟩ } :: s.ds⟩ fun s' => swOps P nt true all rest s' w K := h
      have hr : (resolve s.ev c o.type).run P w = .ok { target := .fn (.func f) #[], args := ⟨c.args.toList.map s.ev⟩ } w := by
        have e : (#[] ++ c.args.map s.ev : Array Value) = ⟨c.args.toList.map s.ev⟩ := by apply Array.toList_inj.1; simp
        simp only [resolve, hf]
        rw [← e]
        rfl
      refine ⟨fun f _ => trivial, ?_⟩
      have e : o.semAt (fen none).round a.eval = (do pure (.defer (← resolve a.eval c o.type))) := by
        obtain ⟨dst, op, ty, pos, after, guard⟩ := o
        subst hc
        rfl
      have e2 : (do pure (.defer (← resolve a.eval c o.type)) : Sem Next).run P w = .ok (.defer { target := .fn (.func f) #[], args := ⟨c.args.toList.map s.ev⟩ }) w := by
        rw [hrep.eval, Sem.run_bind, hr]; rfl
      rw [e, e2]
      have hr2 : Rep nt { a with defers := { target := .fn (.func f) #[], args := ⟨c.args.toList.map s.ev⟩ } :: a.defers } ⟨s.r, { target := .fn (.func f) #[], args := ⟨c.args.toList.map s.ev⟩ } :: s.ds⟩ :=
        ⟨hrep.size, hrep.val, by rw [hrep.ds]⟩
      obtain ⟨s', hr', h'⟩ := put_out hr2 hput
      exact hn _ _ _ hr' (by rw [hd]; exact h')
    have h : swOp P o s w fun v w' => put nt o.dst v s fun s' => swOps P nt df all rest s' w' K := by
      unfold runOp at h
      split at h
      · rename_i c hc; exact absurd ⟨c, hc⟩ hisd
      · exact h
    refine opOut_wp hrep (swOp_noDefer h) (swOp_out h) fun v w' hp => ?_
    obtain ⟨s', hr', h'⟩ := put_out hrep hp
    exact hn _ _ _ hr' h'
  cases hg : o.guard with
  | none =>
    rw [hg] at h
    rw [if_pos (by simp [Region.wanted, hg])]
    exact go hrep h
  | some jw =>
    obtain ⟨j, want⟩ := jw
    rw [hg] at h
    dsimp only at h
    cases hd : (all[j]?).bind (·.dst) with
    | none =>
      rw [hd] at h
      rw [if_neg (by simp [Region.wanted, hg, yielded_none hd])]
      exact skip hrep h
    | some d =>
      rw [hd] at h
      dsimp only at h
      split at h
      · rename_i b hb
        have hy := yielded_bool hrep hd hb
        unfold gK at h
        by_cases hw : b = want
        · subst hw
          rw [if_pos (by simp [Region.wanted, hg, hy])]
          have h' : runOp P nt df o (s.up d (.bool b)) w fun s' w' => swOps P nt df all rest s' w' K := by
            cases b <;> exact h
          exact go (hrep.same hb) h'
        · have hw' : (!want) = b := by cases b <;> cases want <;> simp at hw ⊢
          rw [if_neg (by simp [Region.wanted, hg, hy, hw])]
          have h' : put nt o.dst undef (s.up d (.bool (!want))) fun s' => swOps P nt df all rest s' w K := by
            cases b <;> cases want <;> first | exact h | simp at hw
          exact skip (hrep.same (by rw [hb, hw'])) h'
      · rename_i vs hb
        rw [if_neg (by simp [Region.wanted, hg, yielded_tuple hrep hd hb])]
        exact skip hrep h
      · exact h.elim

theorem swOps_sound {P : Program} {ro : Option Nat} {nt : Nat} {df : Bool} (hdf : df = true → ro = none) {ops : Array Oper} {K : KS} : ∀ (l : List Oper) (k : Nat) (a : Act) (s : St) (w : World), (∀ j, l[j]? = ops[k + j]?) → Rep nt a s →
    swOps P nt df ops l s w (fun s w => K .normal s w) → wpOpsIn (fen ro) 0 P ops (post nt K) (List.range' k l.length) a w := by
  intro l
  induction l with
  | nil => intro k a s w _ hrep h; exact ⟨s, hrep, h⟩
  | cons o rest ih =>
    intro k a s w hl hrep h
    have h0 : ops[k]? = some o := by simpa using (hl 0).symm
    simp only [List.length_cons, List.range'_succ, wpOpsIn, h0]
    exact swOps_head hdf hrep h fun a' s' w' hr' h' => ih (k + 1) a' s' w' (fun j => by have := hl (j + 1); simpa [Nat.add_assoc, Nat.add_comm 1 j] using this) hr' h'

theorem swOp_pure {P : Program} {o : Oper} {s : St} {w : World} {K : Value → World → Prop} (hp : isPure P o = true) (h : swOp P o s w K) : ∃ v, res P (execOp s.ev o) = some (.value v) ∧ K v w := by
  obtain ⟨dst, op, ty, pos, after, guard⟩ := o
  have pe : ∀ {m : Sem Value} {t : TypeId}, execOp s.ev ⟨dst, op, ty, pos, after, guard⟩ = (do pure (.value (← m))) → pureE P t m (fun v => K v w) → ∃ v, res P (execOp s.ev ⟨dst, op, ty, pos, after, guard⟩) = some (.value v) ∧ K v w := by
    rintro m t e h
    obtain ⟨v, hv, hk⟩ := exVal_elim h
    exact ⟨v, by rw [e]; exact res_value hv, hk⟩
  cases op with
  | move x => exact ⟨_, rfl, h⟩
  | assign x => exact ⟨_, rfl, h⟩
  | pick c a b =>
    simp only [swOp] at h
    split at h
    · rename_i t hc
      refine ⟨_, ?_, h⟩
      simp only [execOp, hc]
      cases t <;> rfl
    · exact h.elim
  | extract => exact pureD_out h
  | build t ps =>
    simp only [swOp] at h
    cases hb : directBuild P t ps <;> rw [hb] at h
    · refine pe (m := Instr.build t ⟨ps.toList.map fun (p : Nat × Operand) => (p.1, s.ev p.2)⟩) (t := t) ?_ h
      have e : (ps.map fun (i, x) => (i, s.ev x) : Array (Nat × Value)) = ⟨ps.toList.map fun p => (p.1, s.ev p.2)⟩ := by
        apply Array.toList_inj.1; rw [Array.toList_map]
      simp only [execOp, e]
    · exact pureD_out h
  | fieldAddr => exact pureD_out h
  | makeFunc => exact pureD_out h
  | unOp => exact pureD_out h
  | nilCheck x =>
    simp only [swOp, nilK] at h
    split at h
    · rename_i p hx
      obtain ⟨a, rfl, hk⟩ := h
      exact ⟨_, by simp only [execOp, hx]; rfl, hk⟩
    · rename_i g first cap hx
      exact ⟨_, by simp only [execOp, hx]; rfl, h⟩
    · rename_i g first cap hx
      exact ⟨_, by simp only [execOp, hx]; rfl, h⟩
    · exact h.elim
  | indexAddr t x i =>
    obtain ⟨a, hr, hk⟩ := h
    exact ⟨_, res_value hr, hk⟩
  | index => exact pe rfl h
  | slice => exact pe rfl h
  | sliceToArrayPointer => exact pe rfl h
  | field t x i =>
    simp only [swOp] at h
    cases hb : smallAgg P t <;> rw [hb] at h
    · exact pe rfl h
    · exact pureD_out h
  | binOp bo t x y yt =>
    simp only [swOp] at h
    simp only [isPure, Bool.or_eq_true] at hp
    cases hb : directBin P bo t y <;> rw [hb] at h
    · have hi : isInt P t = true := by rcases hp with hp | hp; rw [hb] at hp; cases hp; exact hp
      rw [hi] at h
      exact pe rfl h
    · exact pureD_out h
  | convert src dst' x =>
    simp only [swOp] at h
    simp only [isPure] at hp
    rw [hp] at h
    exact pureD_out h
  | call c =>
    obtain ⟨callee, args, ats⟩ := c
    have eargs : (args.map s.ev : Array Value) = ⟨args.toList.map s.ev⟩ := by apply Array.toList_inj.1; simp
    have ofP : ∀ {b : Builtin} {m : Array TypeId → TypeId → Array Value → Sem Value}, callee = .builtin b →
        (∀ consts as, builtin b ats ty consts as = (do pure (.value (← m ats ty as)))) →
        pureE P ty (m ats ty ⟨args.toList.map s.ev⟩) (fun v => K v w) → ∃ v, res P (execOp s.ev ⟨dst, .call ⟨callee, args, ats⟩, ty, pos, after, guard⟩) = some (.value v) ∧ K v w := by
      rintro b m rfl hb h
      obtain ⟨v, hv, hk⟩ := exVal_elim h
      refine ⟨v, ?_, hk⟩
      rw [exec_call]
      simp only [resolve, eargs]
      exact (congrArg (fun (z : Sem Next) => res P z) (hb _ _)).trans (res_value hv)
    cases callee with
    | value x => simp [isPure] at hp
    | invoke => exact h.elim
    | builtin b =>
      cases b with
      | len =>
        simp only [swOp] at h
        simp only [isPure, Bool.not_eq_true'] at hp
        rw [hp] at h
        exact pureD_out h
      | min => exact ofP rfl (fun _ _ => rfl) h
      | max => exact ofP rfl (fun _ _ => rfl) h
      | cap => exact ofP rfl (fun _ _ => rfl) h
      | _ => simp [isPure] at hp
  | _ => simp [isPure] at hp

theorem isPure_about {P : Program} {o : Oper} {w : World} {ρ : Operand → Value} (hp : isPure P o = true) : o.about P w ρ = none := by
  obtain ⟨dst, op, ty, pos, after, guard⟩ := o
  cases op with
  | call c =>
    obtain ⟨callee, args, ats⟩ := c
    cases callee with
    | value x => simp [isPure] at hp
    | invoke => simp [isPure] at hp
    | builtin b => rfl
  | _ => rfl

theorem follows_plan {P : Program} {nt : Nat} {ops : Array Oper} {K : KS} (hsel : Region.noSelect ops = true) : ∀ (l : List Nat) (fuel : Nat) (listed : Array Bool) (a : Act) (s : St) (w : World),
    planOk P ops l listed = true → l.length ≤ fuel → Rep nt a s → swOps P nt false ops (pickOps ops l) s w (fun s w => K .normal s w) →
    wpAnyIn (fen none) 0 P .any ops (post nt K) fuel listed a w := by
  intro l
  induction l with
  | nil =>
    intro fuel listed a s w hp _ hrep h
    refine wpAnyIn_done ?_ ⟨s, hrep, h⟩ fuel
    simpa [planOk] using hp
  | cons i l ih =>
    intro fuel listed a s w hp hf hrep h
    obtain ⟨fuel, rfl⟩ : ∃ m, fuel = m + 1 := ⟨fuel - 1, by simp at hf; omega⟩
    simp only [planOk, Bool.and_eq_true] at hp
    obtain ⟨hi, hp⟩ := hp
    cases ho : ops[i]? with
    | none => rw [ho] at hi; simp at hi
    | some o =>
      rw [ho] at hi
      simp only [Bool.or_eq_true, Bool.and_eq_true, beq_iff_eq] at hi
      have hpick : pickOps ops (i :: l) = o :: pickOps ops l := by simp [pickOps, ho]
      rw [hpick] at h
      have hf' : l.length ≤ fuel := by simp at hf; omega
      rcases hi with ⟨⟨hpure, hfree⟩, hready⟩ | hone
      · -- a pure one, first
        have key : ∃ v s', YieldsFenced P ops o v a ∧ Rep nt (a.put o.dst v) s' ∧ swOps P nt false ops (pickOps ops l) s' w (fun s w => K .normal s w) := by
          simp only [swOps] at h
          have skip : ∀ {s : St}, Rep nt a s → Region.wanted o (yielded ops a.tmps) = false → put nt o.dst undef s (fun s' => swOps P nt false ops (pickOps ops l) s' w (fun s w => K .normal s w)) →
              ∃ v s', YieldsFenced P ops o v a ∧ Rep nt (a.put o.dst v) s' ∧ swOps P nt false ops (pickOps ops l) s' w (fun s w => K .normal s w) := by
            intro s hrep hw h
            obtain ⟨s', hr', h'⟩ := put_out hrep h
            exact ⟨undef, s', ⟨.inr ⟨hw, rfl⟩, fun _ => isPure_about hpure⟩, hr', h'⟩
          have go : ∀ {s : St}, Rep nt a s → Region.wanted o (yielded ops a.tmps) = true → runOp P nt false o s w (fun s' w' => swOps P nt false ops (pickOps ops l) s' w' (fun s w => K .normal s w)) →
              ∃ v s', YieldsFenced P ops o v a ∧ Rep nt (a.put o.dst v) s' ∧ swOps P nt false ops (pickOps ops l) s' w (fun s w => K .normal s w) := by
            intro s hrep hw h
            have h : swOp P o s w fun v w' => put nt o.dst v s fun s' => swOps P nt false ops (pickOps ops l) s' w' (fun s w => K .normal s w) := by
              unfold runOp at h
              split at h
              · split at h <;> exact h.elim
              · exact h
            obtain ⟨v, hv, hput⟩ := swOp_pure hpure h
            obtain ⟨s', hr', h'⟩ := put_out hrep hput
            exact ⟨v, s', ⟨.inl ⟨hw, fun w => by rw [hrep.eval]; exact run_of_res hv w⟩, fun _ => isPure_about hpure⟩, hr', h'⟩
          cases hg : o.guard with
          | none => rw [hg] at h; exact go hrep (by simp [Region.wanted, hg]) h
          | some jw =>
            obtain ⟨j, want⟩ := jw
            rw [hg] at h
            dsimp only at h
            cases hd : (ops[j]?).bind (·.dst) with
            | none => rw [hd] at h; exact skip hrep (by simp [Region.wanted, hg, yielded_none hd]) h
            | some d =>
              rw [hd] at h
              dsimp only at h
              split at h
              · rename_i b hb
                have hy := yielded_bool hrep hd hb
                unfold gK at h
                by_cases hw : b = want
                · subst hw
                  have h' : runOp P nt false o (s.up d (.bool b)) w fun s' w' => swOps P nt false ops (pickOps ops l) s' w' (fun s w => K .normal s w) := by
                    cases b <;> exact h
                  exact go (hrep.same hb) (by simp [Region.wanted, hg, hy]) h'
                · have hw' : (!want) = b := by cases b <;> cases want <;> simp at hw ⊢
                  have h' : put nt o.dst undef (s.up d (.bool (!want))) fun s' => swOps P nt false ops (pickOps ops l) s' w (fun s w => K .normal s w) := by
                    cases b <;> cases want <;> first | exact h | simp at hw
                  exact skip (hrep.same (by rw [hb, hw'])) (by simp [Region.wanted, hg, hy, hw]) h'
              · rename_i vs hb
                exact skip hrep (by simp [Region.wanted, hg, yielded_tuple hrep hd hb]) h
              · exact h.elim
        obtain ⟨v, s', hy, hr', h'⟩ := key
        exact wpAnyIn_take rfl ho hsel hfree hready (fun c a w hq => hq) hy (ih fuel _ _ s' w hp hf' hr' h')
      · -- the only one
        refine wpAnyIn_all hone (by simp) ?_
        intro j hj
        obtain rfl : j = i := by simpa using hj
        unfold wpOpIn
        simp only [ho]
        exact swOps_head (df := false) (fun h => by simp at h) hrep h fun a' s' w' hr' h' => ih fuel _ a' s' w' hp hf' hr' h'

/-! #### Soundness of the held plan -/
/-- Whatever order is picked: and behind each operation that a held load may follow S holds, or the world is as it was. -/
def wpAnyK (P : Program) (ops : Array Oper) (Q : Exit → Act → World → Prop) (held : List Nat) (S : World → Prop) : Nat → Array Bool → Act → World → Prop
  | 0, listed, a, w => Region.ready .any ops listed = [] ∧ Q .normal a w
  | fuel + 1, listed, a, w =>
    (Region.ready .any ops listed = [] → Q .normal a w) ∧
    ∀ i ∈ Region.ready .any ops listed, wpOpIn (fen none) 0 P ops Q i (fun a' w' => (flagged ops held i = true → w' = w ∨ S w') ∧ wpAnyK P ops Q held S fuel (listed.setIfInBounds i true) a' w') a w

theorem wpAnyK_any {P : Program} {ops : Array Oper} {Q : Exit → Act → World → Prop} {held : List Nat} {S : World → Prop} : ∀ (fuel : Nat) (listed : Array Bool) (a : Act) (w : World),
    wpAnyK P ops Q held S fuel listed a w → wpAnyIn (fen none) 0 P .any ops Q fuel listed a w
  | 0, _, _, _, h => h
  | fuel + 1, _, _, _, h => ⟨h.1, fun i hi => wpOpIn_mono (fun a' w' h' => wpAnyK_any fuel _ a' w' h'.2) (h.2 i hi)⟩

/-- What has come up is closed: whatever it waited for has come up. -/
def Closed (ops : Array Oper) (listed : Array Bool) : Prop := ∀ (j : Nat) (o : Oper), ops[j]? = some o → listed.getD j true = true → ∀ e ∈ o.after, Region.binds .any e = true → listed.getD e.on false = true

theorem waits_listed {ops : Array Oper} {listed : Array Bool} (hc : Closed ops listed) : ∀ (n j i : Nat), (∀ (o : Oper), ops[j]? = some o → ∀ e ∈ o.after, Region.binds .any e = true → listed.getD e.on false = true) →
    waits ops n j i = true → listed.getD i false = true := by
  intro n
  induction n with
  | zero => intro j i _ h; simp [waits] at h
  | succ n ih =>
    intro j i hj h
    unfold waits at h
    cases ho : ops[j]? with
    | none => rw [ho] at h; simp at h
    | some o =>
      rw [ho] at h
      simp only [List.any_eq_true, Bool.and_eq_true, Bool.or_eq_true, beq_iff_eq] at h
      obtain ⟨e, he, hb, h⟩ := h
      have he' : e ∈ o.after := by simpa using he
      have hl := hj o ho e he' hb
      rcases h with rfl | h
      · exact hl
      · refine ih e.on i (fun o' ho' => hc e.on o' ho' ?_) h
        have hlt : e.on < listed.size := by
          rcases Nat.lt_or_ge e.on listed.size with h' | h'
          · exact h'
          · simp [Array.getElem?_eq_none h'] at hl
        simp [hlt] at hl ⊢
        exact hl

theorem ready_flagged {ops : Array Oper} {listed : Array Bool} {held : List Nat} {i j : Nat} (hc : Closed ops listed) (hi : i ∈ Region.ready .any ops listed) (hj : j ∈ Region.ready .any ops listed)
    (hne : j ≠ i) (hh : i ∈ held) : flagged ops held j = true := by
  unfold flagged
  rw [List.any_eq_true]
  refine ⟨i, hh, ?_⟩
  simp only [Bool.and_eq_true, bne_iff_ne, ne_eq, Bool.not_eq_true']
  refine ⟨Ne.symm hne, ?_⟩
  cases hw : waits ops ops.size j i with
  | false => rfl
  | true =>
    obtain ⟨_, oj, hoj, hall⟩ := mem_ready.1 hj
    have h1 := waits_listed hc ops.size j i (fun o ho e he hb => by rw [hoj] at ho; obtain rfl := Option.some.inj ho; exact hall e he hb) hw
    have h2 := (mem_ready.1 hi).1
    have hlt : i < listed.size := by
      rcases Nat.lt_or_ge i listed.size with h' | h'
      · exact h'
      · simp [Array.getElem?_eq_none h'] at h1
    simp [hlt] at h1 h2
    rw [h1] at h2
    cases h2

theorem Closed.set {ops : Array Oper} {listed : Array Bool} {i : Nat} (hc : Closed ops listed) (hi : i ∈ Region.ready .any ops listed) : Closed ops (listed.setIfInBounds i true) := by
  intro j o ho hl e he hb
  by_cases hji : j = i
  · subst hji
    obtain ⟨_, oj, hoj, hall⟩ := mem_ready.1 hi
    rw [ho] at hoj
    obtain rfl := Option.some.inj hoj
    exact getD_set_true (hall e he hb)
  · rw [getD_set_ne true (Ne.symm hji)] at hl
    exact getD_set_true (hc j o ho hl e he hb)

/-- An operation that yields its value in every world that meets T, and is about to make no call. -/
def YieldsT (P : Program) (ops : Array Oper) (T : World → Prop) (o : Oper) (v : Value) (a : Act) : Prop := YieldsIf P ops T o v a ∧ ∀ w, o.about P w a.eval = none

theorem YieldsT.wpOpIn {P : Program} {ops : Array Oper} {T : World → Prop} {Q : Exit → Act → World → Prop} {i : Nat} {o : Oper} {v : Value} {a : Act} (hi : ops[i]? = some o) (hy : YieldsT P ops T o v a)
    {K : Act → World → Prop} {w : World} (hT : T w) (h : K (a.put o.dst v) w) : wpOpIn (fen none) 0 P ops Q i K a w := by
  unfold Go.wpOpIn
  simp only [hi]
  rcases hy.1 with ⟨hw, hv⟩ | ⟨hw, rfl⟩
  · rw [if_pos hw]
    refine ⟨fun _ _ => trivial, ?_⟩
    show o.uponIn (fen none) 0 P a K Q ((execOp a.eval o).run P w)
    rw [hv w hT]
    exact h
  · rw [if_neg (by rw [hw]; simp)]
    exact ⟨fun _ _ => trivial, h⟩

theorem YieldsT.of_same {P : Program} {ops : Array Oper} {T : World → Prop} {o : Oper} {v : Value} {a a' : Act} (hy : YieldsT P ops T o v a) (he : execOp a'.eval o = execOp a.eval o)
    (hw : Region.wanted o (yielded ops a'.tmps) = Region.wanted o (yielded ops a.tmps)) (hb : ∀ w, o.about P w a'.eval = o.about P w a.eval) : YieldsT P ops T o v a' :=
  ⟨hy.1.of_same he hw, fun w => by rw [hb w]; exact hy.2 w⟩

theorem wpOpIn_putT {P : Program} {ops : Array Oper} {T : World → Prop} {Q : Exit → Act → World → Prop} {j : Nat} {oi oj : Oper} {v : Value} (hj : ops[j]? = some oj) (hap : oi.apart ops oj = true)
    (hsi : ∀ cs b, oi.op ≠ .select cs b) (hsj : ∀ cs b, oj.op ≠ .select cs b)
    (hQ : ∀ c a w, Q (.panic c) (a.put oi.dst v) w → Q (.panic c) a w) {K : Act → World → Prop} {a : Act} {w : World}
    (hy : YieldsT P ops T oi v a) (h : wpOpIn (fen none) 0 P ops Q j K (a.put oi.dst v) w) :
    wpOpIn (fen none) 0 P ops Q j (fun a' w' => YieldsT P ops T oi v a' ∧ K (a'.put oi.dst v) w') a w := by
  obtain ⟨h1, h2, h3⟩ := Oper.apart_spec hap
  have keep : ∀ (a : Act), YieldsT P ops T oi v a → ∀ u, YieldsT P ops T oi v (a.put oj.dst u) := fun a hy u =>
    hy.of_same (execOp_put oi hsi a oj.dst u h3) (wanted_put oi a oj.dst u h3) (fun w => about_put oi w a oj.dst u h3)
  have keepD : ∀ d, YieldsT P ops T oi v { a with defers := d :: a.defers } := fun d => hy.of_same rfl rfl (fun _ => rfl)
  unfold wpOpIn at *
  simp only [hj] at *
  rw [wanted_put oj a oi.dst v h1] at h
  split
  · rename_i hw
    rw [if_pos hw] at h
    refine ⟨fun _ _ => trivial, ?_⟩
    have h := h.2
    change oj.uponIn (fen none) 0 P (a.put oi.dst v) K Q ((execOp (a.put oi.dst v).eval oj).run P w) at h
    change oj.uponIn (fen none) 0 P a _ Q ((execOp a.eval oj).run P w)
    rw [execOp_put oj hsj a oi.dst v h1] at h
    generalize (execOp a.eval oj).run P w = r at *
    cases r with
    | ok x w' =>
      cases x <;> simp only [Oper.uponIn] at h ⊢
      case value u => exact ⟨keep a hy u, by rw [← Act.put_comm a v u h2]; exact h⟩
      case skip => exact ⟨keep a hy _, by rw [← Act.put_comm a v undef h2]; exact h⟩
      case defer d =>
        refine ⟨keep _ (keepD d) _, ?_⟩
        rw [← Act.put_comm _ v undef h2, ← Act.put_defers]
        exact h
      case enter f args =>
        refine ⟨h.1, CallsIn.mono h.2 fun e w'' he => ?_⟩
        cases e with
        | returned u => exact ⟨keep a hy u, by rw [← Act.put_comm a v u h2]; exact he⟩
        | panicked c => exact hQ _ _ _ he
        | outgrown => exact he
      case row row args => exact ⟨h.1, RowsIn.mono h.2 fun u w'' he => ⟨keep a hy u, by rw [← Act.put_comm a v u h2]; exact he⟩⟩
      case round l f tmps assign body =>
        refine ⟨h.1, RoundIn.mono h.2 fun e w'' he => ?_⟩
        cases e with
        | returned u => exact ⟨keep a hy u, by rw [← Act.put_comm a v u h2]; exact he⟩
        | panicked c => exact hQ _ _ _ he
        | outgrown => exact he
    | halt x w' =>
      cases x <;> simp only [Oper.uponIn] at h ⊢
      case panic u => exact hQ _ _ _ h
  · rename_i hw
    rw [if_neg hw] at h
    exact ⟨fun _ _ => trivial, keep a hy _, by rw [← Act.put_comm a v undef h2]; exact h.2⟩

/-- **Taken first**: an operation that yields in every world that meets T, where T is left by no operation that may come before it. -/
theorem wpAnyK_first {P : Program} {ops : Array Oper} {held : List Nat} {S T : World → Prop} {Q : Exit → Act → World → Prop} {i : Nat} {oi : Oper} {v : Value} (hi : ops[i]? = some oi)
    (hsel : ∀ (j : Nat) (o : Oper) cs b, ops[j]? = some o → o.op ≠ .select cs b)
    (hQ : ∀ c a w, Q (.panic c) (a.put oi.dst v) w → Q (.panic c) a w)
    (hT : (∀ w, T w) ∨ (i ∈ held ∧ T = S)) :
    ∀ (fuel : Nat) (listed : Array Bool) (a : Act) (w : World), Closed ops listed → listed.size = ops.size →
      (∀ j oj, ops[j]? = some oj → j ≠ i → listed.getD j true = false → (∀ e ∈ oj.after, Region.binds .any e = true → e.on ≠ i) → oi.apart ops oj = true) →
      i ∈ Region.ready .any ops listed → YieldsT P ops T oi v a → T w →
      wpAnyK P ops Q held S fuel (listed.setIfInBounds i true) (a.put oi.dst v) w → wpAnyK P ops Q held S (fuel + 1) listed a w := by
  intro fuel
  induction fuel with
  | zero =>
    intro listed a w _ _ _ hr hy hw H
    refine ⟨fun h => (by rw [h] at hr; cases hr), fun j hj => ?_⟩
    by_cases hji : j = i
    · subst hji; exact hy.wpOpIn hi hw ⟨fun _ => .inl rfl, H⟩
    · have := ready_mono hj hji
      rw [H.1] at this
      cases this
  | succ fuel ih =>
    intro listed a w hc hs hfree hr hy hw H
    refine ⟨fun h => (by rw [h] at hr; cases hr), fun j hj => ?_⟩
    by_cases hji : j = i
    · subst hji; exact hy.wpOpIn hi hw ⟨fun _ => .inl rfl, H⟩
    · have h1 := H.2 j (ready_mono hj hji)
      obtain ⟨hjun, oj, hoj, hall⟩ := mem_ready.1 hj
      have hnot : ∀ e ∈ oj.after, Region.binds .any e = true → e.on ≠ i := fun e he hb heq => by
        have h1 := hall e he hb
        have h0 := (mem_ready.1 hr).1
        rw [heq] at h1
        rcases Nat.lt_or_ge i listed.size with h' | h'
        · simp [h'] at h0 h1; rw [h0] at h1; cases h1
        · simp [Array.getElem?_eq_none h'] at h1
      have h2 := wpOpIn_putT hoj (hfree j oj hoj hji hjun hnot) (fun cs b => hsel i oi cs b hi) (fun cs b => hsel j oj cs b hoj) hQ hy h1
      have hfree' : ∀ k ok, ops[k]? = some ok → k ≠ i → (listed.setIfInBounds j true).getD k true = false →
          (∀ e ∈ ok.after, Region.binds .any e = true → e.on ≠ i) → oi.apart ops ok = true := fun k ok hk hki hun hno => by
        refine hfree k ok hk hki ?_ hno
        by_cases hjk : j = k
        · subst hjk; exact hjun
        · rw [getD_set_ne true hjk] at hun; exact hun
      refine wpOpIn_mono (fun a' w' h3 => ⟨h3.2.1, ?_⟩) h2
      have hw' : T w' := by
        rcases hT with hT | ⟨hh, rfl⟩
        · exact hT w'
        · rcases h3.2.1 (ready_flagged hc hr hj hji hh) with rfl | h
          · exact hw
          · exact h
      refine ih (listed.setIfInBounds j true) a' w' (hc.set hj) (by simpa using hs) hfree' (ready_mono hr (Ne.symm hji)) h3.1 hw' ?_
      rw [Array.setIfInBounds_comm _ _ hji]
      exact h3.2.2

theorem follows_planH {P : Program} {nt : Nat} {ops : Array Oper} {held : List Nat} {S : World → Prop} {K : KS} (hsel : Region.noSelect ops = true) : ∀ (l : List (Nat × Bool)) (fuel : Nat) (listed : Array Bool) (a : Act) (s : St) (w : World),
    planOkH P ops held l listed = true → l.length ≤ fuel → Closed ops listed → listed.size = ops.size → Rep nt a s → swOpsH P nt ops held S l s w (fun s w => K .normal s w) →
    wpAnyK P ops (post nt K) held S fuel listed a w := by
  intro l
  induction l with
  | nil =>
    intro fuel listed a s w hp _ _ _ hrep h
    have hr : Region.ready .any ops listed = [] := by simpa [planOkH] using hp
    cases fuel with
    | zero => exact ⟨hr, s, hrep, h⟩
    | succ n => exact ⟨fun _ => ⟨s, hrep, h⟩, by rw [hr]; simp⟩
  | cons ih' l ih =>
    obtain ⟨i, hd⟩ := ih'
    intro fuel listed a s w hp hf hc hs hrep h
    obtain ⟨fuel, rfl⟩ : ∃ m, fuel = m + 1 := ⟨fuel - 1, by simp at hf; omega⟩
    simp only [planOkH, Bool.and_eq_true] at hp
    obtain ⟨hi, hp⟩ := hp
    have hf' : l.length ≤ fuel := by simp at hf; omega
    cases ho : ops[i]? with
    | none => rw [ho] at hi; simp at hi
    | some o =>
      rw [ho] at hi
      simp only [swOpsH, ho] at h
      -- the guard, once for all
      have guard : ∀ {C : Prop} {run : St → Prop},
          (match o.guard with
            | none => run s
            | some (j, want) =>
              match (ops[j]?).bind (·.dst) with
              | none => put nt o.dst undef s fun s' => swOpsH P nt ops held S l s' w fun s w => K .normal s w
              | some d =>
                match s.r d with
                | .bool b => gK b want (run (s.up d (.bool want))) (put nt o.dst undef (s.up d (.bool (!want))) fun s' => swOpsH P nt ops held S l s' w fun s w => K .normal s w)
                | .tuple _ => put nt o.dst undef s fun s' => swOpsH P nt ops held S l s' w fun s w => K .normal s w
                | _ => False) →
          (∀ s, Rep nt a s → Region.wanted o (yielded ops a.tmps) = true → run s → C) →
          (∀ s, Rep nt a s → Region.wanted o (yielded ops a.tmps) = false → (put nt o.dst undef s fun s' => swOpsH P nt ops held S l s' w fun s w => K .normal s w) → C) → C := by
        intro C run h hgo hskip
        cases hg : o.guard with
        | none => rw [hg] at h; exact hgo s hrep (by simp [Region.wanted, hg]) h
        | some jw =>
          obtain ⟨j, want⟩ := jw
          rw [hg] at h
          dsimp only at h
          cases hd : (ops[j]?).bind (·.dst) with
          | none => rw [hd] at h; exact hskip s hrep (by simp [Region.wanted, hg, yielded_none hd]) h
          | some d =>
            rw [hd] at h
            dsimp only at h
            split at h
            · rename_i b hb
              have hy := yielded_bool hrep hd hb
              unfold gK at h
              by_cases hw : b = want
              · subst hw
                have h' : run (s.up d (.bool b)) := by cases b <;> exact h
                exact hgo _ (hrep.same hb) (by simp [Region.wanted, hg, hy]) h'
              · have hw' : (!want) = b := by cases b <;> cases want <;> simp at hw ⊢
                have h' : put nt o.dst undef (s.up d (.bool (!want))) fun s' => swOpsH P nt ops held S l s' w fun s w => K .normal s w := by
                  cases b <;> cases want <;> first | exact h | simp at hw
                exact hskip _ (hrep.same (by rw [hb, hw'])) (by simp [Region.wanted, hg, hy, hw]) h'
            · rename_i vs hb
              exact hskip s hrep (by simp [Region.wanted, hg, yielded_tuple hrep hd hb]) h
            · exact h.elim
      have go : ∀ (s' : St) (a' : Act) (w' : World), i ∈ Region.ready .any ops listed → Rep nt a' s' → swOpsH P nt ops held S l s' w' (fun s w => K .normal s w) → wpAnyK P ops (post nt K) held S fuel (listed.setIfInBounds i true) a' w' :=
        fun s' a' w' hir hr' h' => ih fuel _ a' s' w' hp hf' (hc.set hir) (by simpa using hs) hr' h'
      cases hd with
      | true =>
        simp only [cond_true, Bool.and_eq_true] at hi
        obtain ⟨⟨⟨hl, hheld⟩, hfree⟩, hready⟩ := hi
        have hir : i ∈ Region.ready .any ops listed := by simpa using hready
        have hih : i ∈ held := by simpa using hheld
        have hab : ∀ w, o.about P w a.eval = none := by
          intro w
          unfold isLoad at hl
          unfold Oper.about
          cases hop : o.op <;> rw [hop] at hl <;> simp at hl ⊢
        refine guard (run := fun s => runH P nt ops held S i true o s w fun s' w' => swOpsH P nt ops held S l s' w' fun s w => K .normal s w) h ?_ ?_
        · intro s hrep hw h
          simp only [runH, cond_true] at h
          unfold isLoad at hl
          cases hop : o.op <;> rw [hop] at hl <;> simp only [Bool.false_eq_true] at hl
          rename_i t x
          simp only [swOpH, hop] at h
          obtain ⟨v, ⟨hS, hld⟩, hput⟩ := exVal_elim h
          obtain ⟨s', hr', h'⟩ := put_out hrep hput
          refine wpAnyK_first (T := S) (v := v) ho (Region.noSelect_spec hsel) (fun c a w hq => hq) (.inr ⟨hih, rfl⟩) fuel listed a w hc hs (Region.free_spec ho hfree) hir ⟨.inl ⟨hw, fun w' hw' => ?_⟩, hab⟩ hS (go s' _ w hir hr' h')
          rw [hrep.eval]
          obtain ⟨dst, op, ty, pos, after, guard⟩ := o
          subst hop
          exact run_value (hld w' hw')
        · intro s hrep hw h
          obtain ⟨s', hr', h'⟩ := put_out hrep h
          exact wpAnyK_first (T := fun _ => True) (v := undef) ho (Region.noSelect_spec hsel) (fun c a w hq => hq) (.inl fun _ => trivial) fuel listed a w hc hs (Region.free_spec ho hfree) hir ⟨.inr ⟨hw, rfl⟩, hab⟩ trivial (go s' _ w hir hr' h')
      | false =>
        simp only [cond_false] at hi
        cases hpure : isPure P o with
        | true =>
          simp only [hpure, cond_true, Bool.and_eq_true] at hi
          obtain ⟨hfree, hready⟩ := hi
          have hir : i ∈ Region.ready .any ops listed := by simpa using hready
          refine guard (run := fun s => runH P nt ops held S i false o s w fun s' w' => swOpsH P nt ops held S l s' w' fun s w => K .normal s w) h ?_ ?_
          · intro s hrep hw h
            simp only [runH, cond_false] at h
            obtain ⟨v, hv, hput⟩ := swOp_pure hpure h
            simp only [keepsS, hpure, cond_true] at hput
            obtain ⟨s', hr', h'⟩ := put_out hrep hput
            exact wpAnyK_first (T := fun _ => True) (v := v) ho (Region.noSelect_spec hsel) (fun c a w hq => hq) (.inl fun _ => trivial) fuel listed a w hc hs (Region.free_spec ho hfree) hir
              ⟨.inl ⟨hw, fun w' _ => by rw [hrep.eval]; exact run_of_res hv w'⟩, fun _ => isPure_about hpure⟩ trivial (go s' _ w hir hr' h')
          · intro s hrep hw h
            obtain ⟨s', hr', h'⟩ := put_out hrep h
            exact wpAnyK_first (T := fun _ => True) (v := undef) ho (Region.noSelect_spec hsel) (fun c a w hq => hq) (.inl fun _ => trivial) fuel listed a w hc hs (Region.free_spec ho hfree) hir
              ⟨.inr ⟨hw, rfl⟩, fun _ => isPure_about hpure⟩ trivial (go s' _ w hir hr' h')
        | false =>
          simp only [hpure, cond_false, beq_iff_eq] at hi
          have hir : i ∈ Region.ready .any ops listed := by rw [hi]; simp
          refine ⟨fun h0 => (by rw [h0] at hir; cases hir), ?_⟩
          intro j hj
          obtain rfl : j = i := by rw [hi] at hj; simpa using hj
          unfold wpOpIn
          simp only [ho]
          refine guard (run := fun s => runH P nt ops held S j false o s w fun s' w' => swOpsH P nt ops held S l s' w' fun s w => K .normal s w) h ?_ ?_
          · intro s hrep hw h
            rw [if_pos hw]
            simp only [runH, cond_false] at h
            refine opOut_wp hrep (swOp_noDefer h) (swOp_out h) fun v w' hp => ?_
            simp only [keepsS, hpure, cond_false] at hp
            cases hfl : flagged ops held j <;> rw [hfl] at hp
            · simp only [cond_false] at hp
              obtain ⟨s', hr', h'⟩ := put_out hrep hp
              exact ⟨fun h => by simp at h, go s' _ w' hir hr' h'⟩
            · simp only [cond_true] at hp
              obtain ⟨s', hr', h'⟩ := put_out hrep hp.2
              exact ⟨fun _ => hp.1, go s' _ w' hir hr' h'⟩
          · intro s hrep hw h
            rw [if_neg (by rw [hw]; simp)]
            obtain ⟨s', hr', h'⟩ := put_out hrep h
            refine ⟨fun _ _ => trivial, ?_, go s' _ w hir hr' h'⟩
            simp

theorem noDefer_spec {ops : Array Oper} (h : noDefer ops = true) : Region.noSelect ops = true ∧ ∀ (i : Nat) (o : Oper), ops[i]? = some o → ∀ c, o.op ≠ .defer c := by
  unfold noDefer at h
  rw [List.all_eq_true] at h
  constructor
  · unfold Region.noSelect
    rw [Array.all_eq_true_iff_forall_mem]
    intro o ho
    have := h o (by simpa using ho)
    revert this
    cases o.op <;> simp
  · intro i o ho c hc
    have := h o (by simpa using Array.mem_of_getElem? ho)
    rw [hc] at this
    simp at this

theorem wpOpsIn_round {P : Program} {ops : Array Oper} {Q : Exit → Act → World → Prop} (hd : ∀ (i : Nat) (o : Oper), ops[i]? = some o → ∀ c, o.op ≠ .defer c) (ro : Option Nat) :
    ∀ (l : List Nat) (a : Act) (w : World), wpOpsIn (fen none) 0 P ops Q l a w → wpOpsIn (fen ro) 0 P ops Q l a w := by
  intro l
  induction l with
  | nil => exact fun a w h => h
  | cons i rest ih =>
    intro a w h
    rw [wpOpsIn_cons] at h ⊢
    have h' := wpOpIn_mono (fun a w h => ih a w h) h
    unfold wpOpIn at h' ⊢
    cases ho : ops[i]? with
    | none => rw [ho] at h'; exact h'
    | some o =>
      rw [ho] at h'
      dsimp only at h' ⊢
      split
      · rename_i hw
        rw [if_pos hw] at h'
        refine ⟨fun _ _ => trivial, ?_⟩
        have h2 := h'.2
        rw [Oper.semAt_eq _ _ _ (hd i o ho)] at h2 ⊢
        cases ro with
        | none => exact h2
        | some l =>
          generalize (execOp a.eval o).run P w = r at h2 ⊢
          cases r with
          | ok n w' => cases n <;> exact h2
          | halt x w' => cases x <;> exact h2
      · rename_i hw
        rw [if_neg hw] at h'
        exact ⟨fun _ _ => trivial, h'.2⟩

theorem thenK_post {nt : Nat} {N : St → World → Prop} {K : KS} {N' : Act → World → Prop} (hN : ∀ a s w, Rep nt a s → N s w → N' a w) :
    ∀ e a w, post nt (thenK N K) e a w → Exit.then N' (post nt K) e a w := by
  intro e a w h
  cases e with
  | normal => obtain ⟨s, hr, h⟩ := h; exact hN a s w hr h
  | exit i => exact h
  | goto l => exact h
  | ret => exact h
  | panic c => exact h.elim
  | outgrown => exact h.elim

theorem blockK_post {nt id : Nat} {K : KS} : ∀ e a w, post nt (blockK id K) e a w → Exit.inBlock id (post nt K) e a w := by
  intro e a w h
  cases e with
  | normal => exact h
  | exit i =>
    obtain ⟨s, hr, h⟩ := h
    simp only [blockK] at h
    unfold Exit.inBlock
    by_cases hi : i = id
    · subst hi
      simp only [if_true]
      have : Nat.beq i i = true := by simp
      rw [this] at h
      exact ⟨s, hr, h⟩
    · have hb : Nat.beq i id = false := by
        cases hb : Nat.beq i id with
        | false => rfl
        | true => exact absurd (Nat.eq_of_beq_eq_true hb) hi
      rw [hb] at h
      simp only [hi, if_false]
      exact ⟨s, hr, h⟩
  | goto l => exact h
  | ret => exact h
  | panic c => exact h.elim
  | outgrown => exact h.elim

theorem tmps_eq {nt : Nat} {a : Act} {s : St} (hrep : Rep nt a s) : a.tmps = s.tmps nt := by
  unfold St.tmps
  apply Array.ext
  · simp [hrep.size]
  · intro i h1 h2
    have := hrep.val i
    rw [Array.getD_eq_getD_getElem?, Array.getElem?_eq_getElem h1] at this
    simpa using this

theorem rangeK_inv {P : Program} {ro : Option Nat} {nt : Nat} {g : Value} {ps : Array Tmp} {assign body : Code} {s : St} {w : World} {K : KS} (h : rangeK P ro nt g ps assign body s w K) :
    ro = none ∧ ∃ gf first cap, g = .func (.func gf) first cap ∧ (∀ args w, (callFunc gf args).run P w = .ok (.enter gf args) w) ∧
      ∀ fn : FuncId, callK P gf ⟨first.toList ++ [.func (.yield (w.heap.size + 1)) #[] #[]] ++ cap.toList⟩
        ((w.alloc (.deferred (some []))).alloc (.loop (rec0 fn (s.tmps nt) ps assign body w.heap.size)))
        fun _ w' => rangeEnd P (w.heap.size + 1) ⟨s.r, { target := .collected w.heap.size, args := #[] } :: s.ds⟩ K w' := by
  cases ro with
  | some l => exact h.elim
  | none => exact ⟨rfl, h⟩

theorem sw_sound {P : Program} {ro : Option Nat} {nt : Nat} {tt : Nat → List (Nat × TypeId)} (c : Code) : ∀ (n : Nat) (K : KS) (a : Act) (s : St) (w : World), Rep nt a s → sw P ro nt tt c n K s w → c.wpIn (fen ro) 0 P (post nt K) a w := by
  induction c with
  | skip => exact fun n K a s w hrep h => wpIn_skip ⟨s, hrep, h⟩
  | region id ops draw =>
    intro n K a s w hrep h
    cases draw with
    | false =>
      refine wpIn_region ?_
      rw [List.range_eq_range', ← Array.length_toList]
      exact swOps_sound (df := ro.isNone) (fun h => by simpa using h) ops.toList 0 a s w (by simp) hrep h
    | true =>
      simp only [sw] at h
      cases hp : planned P ops <;> rw [hp] at h
      · cases hp : plannedH P ops <;> rw [hp] at h
        · exact h.elim
        obtain ⟨S, h⟩ := h
        simp only [plannedH, Bool.and_eq_true] at hp
        obtain ⟨⟨⟨h1, h2⟩, h3⟩, h4⟩ := hp
        obtain ⟨hs, hd⟩ := noDefer_spec h2
        have hlen : (planH P ops).length = ops.size := Nat.eq_of_beq_eq_true h4
        refine wpIn_region_draw fun t => wpOpsIn_round hd ro _ _ _ ?_
        simp only [Region.schedule, h3, Bool.true_or, if_true]
        refine wpAnyIn_sound ops.size t _ a _ (wpAnyK_any _ _ _ _ (follows_planH (S := S) hs (planH P ops) ops.size _ a s w.drew h1 (by omega) ?_ (by simp) hrep h))
        intro j o ho hl
        have hlt : j < ops.size := (Array.getElem?_eq_some_iff.1 ho).1
        simp [hlt] at hl
      simp only [planned, Bool.and_eq_true] at hp
      obtain ⟨⟨⟨h1, h2⟩, h3⟩, h4⟩ := hp
      obtain ⟨hs, hd⟩ := noDefer_spec h2
      have hlen : (plan P ops).length = ops.size := Nat.eq_of_beq_eq_true h4
      refine wpIn_region_draw fun t => wpOpsIn_round hd ro _ _ _ ?_
      simp only [Region.schedule, h3, Bool.true_or, if_true]
      exact wpAnyIn_sound ops.size t _ a _ (follows_plan hs (plan P ops) ops.size _ a s w.drew h1 (by omega) hrep h)
  | seq x y ihx ihy =>
    intro n K a s w hrep h
    exact wpIn_seq (wpIn_mono (ihx n _ a s w hrep h) (thenK_post fun a' s' w' hr' h' => ihy n K a' s' w' hr' h'))
  | cond c t e iht ihe =>
    intro n K a s w hrep h
    simp only [sw] at h
    split at h
    · rename_i b hb
      rw [← hrep.eval] at hb
      cases b with
      | true => exact wpIn_cond_true hb (iht n K a s w hrep h)
      | false => exact wpIn_cond_false hb (ihe n K a s w hrep h)
    · exact h.elim
  | block id b ih =>
    intro n K a s w hrep h
    exact wpIn_block (wpIn_mono (ih id _ a s w hrep h) blockK_post)
  | loop b ih =>
    intro n K a s w hrep h
    obtain ⟨I, μ, h0, hstep⟩ := h
    refine wpIn_loop (fun a' w' => Rep nt a' ⟨fun t => a'.tmps.getD t undef, s.ds⟩ ∧ I ((tt n).map fun p => a'.tmps.getD p.1 undef) w')
      (fun a' w' => μ ((tt n).map fun p => a'.tmps.getD p.1 undef) w') ?_ ?_
    · have : (fun t => a.tmps.getD t undef) = s.r := funext hrep.val
      rw [this]
      refine ⟨hrep, ?_⟩
      have e : ((tt n).map fun p => a.tmps.getD p.1 undef) = (tt n).map fun p => s.r p.1 := List.map_congr_left fun p _ => hrep.val p.1
      rw [e]
      exact h0
    · rintro a' w' ⟨hr', hI⟩
      obtain ⟨vs, hvs, hb⟩ := exLives_elim (hstep _ (fun t => a'.tmps.getD t undef) w' hI)
      have ho := overlay_self (fun t => a'.tmps.getD t undef) (tt n)
      rw [← hvs, ho] at hb
      refine wpIn_mono (ih n _ a' _ w' hr' hb) (thenK_post ?_)
      rintro a'' s'' w'' hr'' ⟨hds, hI', hμ⟩
      have e : ((tt n).map fun p => a''.tmps.getD p.1 undef) = (tt n).map fun p => s''.r p.1 := List.map_congr_left fun p _ => hr''.val p.1
      rw [e]
      refine ⟨⟨?_, hI'⟩, hμ⟩
      have hfun : (fun t => a''.tmps.getD t undef) = s''.r := funext hr''.val
      rw [hfun, ← hds]
      exact hr''
  | exit id => exact fun n K a s w hrep h => wpIn_exit ⟨s, hrep, h⟩
  | ret => exact fun n K a s w hrep h => wpIn_ret ⟨s, hrep, h⟩
  | rangeFunc g ps assign body _ _ =>
    intro n K a s w hrep h
    obtain ⟨hro, gf, first, cap, hg, henter, hcalls⟩ := rangeK_inv (show rangeK P ro nt (s.ev g) ps assign body s w K from h)
    subst hro
    refine wpIn_rangeFunc fun fn _ => ?_
    have hcall := hcalls fn
    rw [← hrep.eval] at hg
    have hargs : (first ++ #[Value.func (.yield (w.heap.size + 1)) #[] #[]] ++ cap : Array Value) = ⟨first.toList ++ [.func (.yield (w.heap.size + 1)) #[] #[]] ++ cap.toList⟩ := by
      apply Array.toList_inj.1; simp
    have he : (Instr.enterLoop fn a.tmps ps assign body (fen none).round).run P w =
        .ok (w.heap.size + 1, [{ target := .collected w.heap.size, args := #[] }]) ((w.alloc (.deferred (some []))).alloc (.loop (rec0 fn (s.tmps nt) ps assign body w.heap.size))) := by
      rw [tmps_eq hrep]
      have : (w.alloc (Obj.deferred (some []))).heap.size = w.heap.size + 1 := by simp
      rw [← this]
      rfl
    refine ⟨w.heap.size + 1, [{ target := .collected w.heap.size, args := #[] }], ((w.alloc (.deferred (some []))).alloc (.loop (rec0 fn (s.tmps nt) ps assign body w.heap.size))), { target := .fn (.func gf) cap, args := first ++ #[.func (.yield (w.heap.size + 1)) #[] #[]] }, ((w.alloc (.deferred (some []))).alloc (.loop (rec0 fn (s.tmps nt) ps assign body w.heap.size))), gf,
      first ++ #[.func (.yield (w.heap.size + 1)) #[] #[]] ++ cap, ((w.alloc (.deferred (some []))).alloc (.loop (rec0 fn (s.tmps nt) ps assign body w.heap.size))), he, ?_, fun _ _ => trivial, ?_, fun h => by simp [fen] at h, ?_⟩
    · have hyl : a.eval (.const (.func (.yield (w.heap.size + 1)) #[] #[])) = .func (.yield (w.heap.size + 1)) #[] #[] := rfl
      have hmap : Array.map a.eval #[Operand.const (.func (.yield (w.heap.size + 1)) #[] #[])] = #[.func (.yield (w.heap.size + 1)) #[] #[]] := by simp [hyl]
      simp only [resolve, hg, Deferred.ofValue, hmap]
      rfl
    · exact henter _ _
    · rw [hargs]
      have h2 : CallsIn (fen none) 0 P gf _ _ _ := callsIn_wide.2 hcall
      refine h2.mono ?_
      rintro e w' ⟨v, rfl, jump, w'', hend, hj⟩
      refine ⟨jump, w'', hend, ?_⟩
      have hr2 : Rep nt { a with defers := [{ target := .collected w.heap.size, args := #[] }] ++ a.defers } ⟨s.r, { target := .collected w.heap.size, args := #[] } :: s.ds⟩ :=
        ⟨hrep.size, hrep.val, by rw [← hrep.ds]; rfl⟩
      cases jump with
      | none => exact ⟨_, hr2, hj⟩
      | some c =>
        cases c with
        | ret => exact wpIn_ret ⟨_, hr2, hj⟩
        | exit i => exact hj.elim
        | _ => exact hj.elim
  | _ => exact fun n K a s w hrep h => h.elim

end Go.Fw
