/- A part of a proof of a given law of this program: lemmas, printed forms of its functions, contracts. It has no conditions of its own. -/
import Derived.OrdersIn
import Derived.OrdersHeld
import Derived.RangeFuncLeaves
import Derived.RangeFuncCalls
import Derived.Laws.World
import Derived.KernelRfl
namespace Go.Fw
open Go

/-! ### The fence without bars, in a round or not -/
def fen (ro : Option Nat) : Fence := { fn := fun _ => True, depth := none, alive := false, round := ro }
theorem fen_none : fen none = Fence.wide := rfl

/-! ### Runs that hang on no world -/
def res (P : Program) {α : Type} : Sem α → Option α
  | .pure a => some a
  | .program k => res P (k P)
  | _ => none

theorem run_of_res {P : Program} {α : Type} {m : Sem α} {a : α} (h : res P m = some a) (w : World) : m.run P w = .ok a w := by
  induction m with
  | pure b => simp only [res, Option.some.injEq] at h; subst h; rfl
  | program k ih => simp only [res] at h; exact ih P h
  | _ => simp [res] at h

/-! ### States: registers as a function -/
structure St where
  r : Nat → Value
  ds : List Deferred
def St.up (s : St) (d : Nat) (v : Value) : St := ⟨fun t => bif Nat.beq t d then v else s.r t, s.ds⟩
def St.ev (s : St) : Operand → Value
  | .tmp t => s.r t
  | .const v => v
  | .global g => .pointer (some ⟨g, 0, none⟩)
  | .func f => .func (.func f) #[] #[]
def St.ups (s : St) : List (Nat × Value) → St
  | [] => s
  | (d, v) :: l => (s.up d v).ups l
def regs (args : List Value) : Nat → Value
  | t => args.getD t undef

theorem St.up_r (s : St) (d : Nat) (v : Value) (t : Nat) : (s.up d v).r t = if t = d then v else s.r t := by
  unfold St.up
  by_cases h : t = d
  · simp [h]
  · have hb : Nat.beq t d = false := by
      cases hb : Nat.beq t d with
      | false => rfl
      | true => exact absurd (Nat.eq_of_beq_eq_true hb) h
    simp [h, hb]
theorem St.up_ds (s : St) (d : Nat) (v : Value) : (s.up d v).ds = s.ds := rfl

structure Rep (nt : Nat) (a : Act) (s : St) : Prop where
  size : a.tmps.size = nt
  val : ∀ t, a.tmps.getD t undef = s.r t
  ds : a.defers = s.ds

theorem Rep.eval {nt : Nat} {a : Act} {s : St} (h : Rep nt a s) : a.eval = s.ev := by
  funext x
  cases x with
  | tmp t => exact h.val t
  | _ => rfl

theorem Rep.up {nt : Nat} {a : Act} {s : St} (h : Rep nt a s) {d : Nat} (hd : d < nt) (v : Value) : Rep nt (a.put (some d) v) (s.up d v) := by
  refine ⟨by simp [Act.put, h.size], fun t => ?_, h.ds⟩
  rw [St.up_r]
  simp only [Act.put]
  by_cases ht : t = d
  · subst ht
    simp [h.size, hd]
  · rw [if_neg ht, ← h.val t]
    simp [Array.getD_eq_getD_getElem?, Array.getElem?_setIfInBounds_ne (Ne.symm ht)]

theorem Rep.same {nt : Nat} {a : Act} {s : St} (h : Rep nt a s) {d : Nat} {v : Value} (hv : s.r d = v) : Rep nt a (s.up d v) :=
  ⟨h.size, fun t => by
    rw [St.up_r]
    by_cases ht : t = d
    · rw [if_pos ht, ht, ← hv]; exact h.val d
    · rw [if_neg ht]; exact h.val t, h.ds⟩

/-! ### Shapes: of a type's values -/
def exScalar (P : Program) (t : TypeId) (K : Value → Prop) : Prop :=
  match P.underlying t with
  | some .bool => ∃ b, K (.bool b)
  | some (.int k) => ∃ n, K (.int k n)
  | some .string => ∃ s, K (.string s)
  | some (.pointer _) => ∃ p, K (.pointer p)
  | some (.slice _) => ∃ p l c, K (.slice p l c)
  | some (.map _ _) => ∃ p, K (.map p)
  | _ => ∃ v, K v
def cellTypes (P : Program) : Nat → TypeId → List TypeId
  | 0, t => [t]
  | n + 1, t =>
    match P.underlying t with
    | some (.struct fs) => fs.toList.flatMap fun f => cellTypes P n f.type
    | some (.array k e) => (List.replicate k (cellTypes P n e)).flatten
    | _ => [t]
def exScalars (P : Program) : List TypeId → (List Value → Prop) → Prop
  | [], K => K []
  | t :: ts, K => exScalar P t fun v => exScalars P ts fun vs => K (v :: vs)
def exOne (P : Program) (t : TypeId) (K : Value → Prop) : Prop :=
  match P.underlying t with
  | some (.struct _) => bif Nat.ble (P.cellsOf t) 8 then exScalars P (cellTypes P 9 t) (fun cs => K (.agg ⟨cs⟩)) else ∃ cs, K (.agg cs)
  | some (.array _ _) => ∃ cs, K (.agg cs)
  | _ => exScalar P t K
def exOnes (P : Program) : List TypeId → (List Value → Prop) → Prop
  | [], K => K []
  | t :: ts, K => exOne P t fun v => exOnes P ts fun vs => K (v :: vs)
def exVal (P : Program) (t : TypeId) (K : Value → Prop) : Prop :=
  match P.underlying t with
  | some (.tuple ts) => exOnes P ts.toList fun vs => K (.tuple ⟨vs⟩)
  | _ => exOne P t K
theorem exScalar_elim {P : Program} {t : TypeId} {K : Value → Prop} (h : exScalar P t K) : ∃ v, K v := by
  unfold exScalar at h
  split at h
  all_goals first
    | (obtain ⟨b, h⟩ := h; exact ⟨_, h⟩)
    | (obtain ⟨b, c, d, h⟩ := h; exact ⟨_, h⟩)
theorem exScalars_elim {P : Program} {ts : List TypeId} {K : List Value → Prop} (h : exScalars P ts K) : ∃ vs, K vs := by
  induction ts generalizing K with
  | nil => exact ⟨[], h⟩
  | cons t ts ih =>
    obtain ⟨v, h⟩ := exScalar_elim h
    obtain ⟨vs, h⟩ := ih h
    exact ⟨_, h⟩
theorem exOne_elim {P : Program} {t : TypeId} {K : Value → Prop} (h : exOne P t K) : ∃ v, K v := by
  unfold exOne at h
  split at h
  · cases hb : Nat.ble (P.cellsOf t) 8 <;> rw [hb] at h
    · obtain ⟨cs, h⟩ := h; exact ⟨_, h⟩
    · obtain ⟨vs, h⟩ := exScalars_elim h; exact ⟨_, h⟩
  · obtain ⟨cs, h⟩ := h; exact ⟨_, h⟩
  · exact exScalar_elim h
theorem exOnes_elim {P : Program} {ts : List TypeId} {K : List Value → Prop} (h : exOnes P ts K) : ∃ vs, K vs := by
  induction ts generalizing K with
  | nil => exact ⟨[], h⟩
  | cons t ts ih =>
    obtain ⟨v, h⟩ := exOne_elim h
    obtain ⟨vs, h⟩ := ih h
    exact ⟨_, h⟩
theorem exVal_elim {P : Program} {t : TypeId} {K : Value → Prop} (h : exVal P t K) : ∃ v, K v := by
  unfold exVal at h
  split at h
  · obtain ⟨vs, h⟩ := exOnes_elim h; exact ⟨_, h⟩
  · exact exOne_elim h

/-! ### Whole numbers' bits, as the model reckons them -/
def iand (k : IntKind) (a b : Int) : Int := k.wrap ((BitVec.ofInt k.bits a &&& BitVec.ofInt k.bits b).toNat : Nat)
def ior (k : IntKind) (a b : Int) : Int := k.wrap ((BitVec.ofInt k.bits a ||| BitVec.ofInt k.bits b).toNat : Nat)
def ixor (k : IntKind) (a b : Int) : Int := k.wrap ((BitVec.ofInt k.bits a ^^^ BitVec.ofInt k.bits b).toNat : Nat)
def iandNot (k : IntKind) (a b : Int) : Int := k.wrap ((BitVec.ofInt k.bits a &&& ~~~ (BitVec.ofInt k.bits b)).toNat : Nat)

/-! ### The operations -/
/-- A pure operation, reckoned. -/
def pureD (P : Program) (m : Sem Next) (K : Value → Prop) : Prop :=
  match res P m with
  | some (.value v) => K v
  | _ => False
/-- A run that hangs on no world gives u. -/
def Pu (P : Program) (m : Sem Value) (u : Value) : Prop := res P m = some u
/-- A run from w gives u and ends in w'. -/
def Ef (P : Program) (m : Sem Value) (w : World) (u : Value) (w' : World) : Prop := m.run P w = .ok u w'
def EfU (P : Program) (m : Sem Unit) (w w' : World) : Prop := m.run P w = .ok () w'
/-- A load gives u. -/
def Ld (P : Program) (t : TypeId) (x : Value) (w : World) (u : Value) : Prop := (Instr.loadAt t x).run P w = .ok u w
def Sto (P : Program) (t : TypeId) (x v : Value) (w w' : World) : Prop := (Instr.storeAt t x v).run P w = .ok () w'
/-- An element's address. -/
def IxA (P : Program) (t : TypeId) (x i : Value) (a : Addr) : Prop := res P (Instr.indexAt t x i) = some (.pointer (some a))

/-- A pure operation that may not go through. -/
def pureE (P : Program) (t : TypeId) (m : Sem Value) (K : Value → Prop) : Prop := exVal P t fun u => Pu P m u ∧ K u
def nilK (v : Value) (K : Value → Prop) : Prop :=
  match v with
  | .pointer p => ∃ a, p = some a ∧ K (.pointer (some a))
  | .func (.func g) first cap => K (.func (.func g) first cap)
  | .func (.yield l) first cap => K (.func (.yield l) first cap)
  | _ => False
def idxAddrK (P : Program) (t : TypeId) (x i : Value) (K : Value → Prop) : Prop := ∃ a, IxA P t x i a ∧ K (.pointer (some a))
def loadK (P : Program) (t : TypeId) (x : Value) (w : World) (K : Value → Prop) : Prop := exVal P t fun u => Ld P t x w u ∧ K u
def storeK (P : Program) (t : TypeId) (x v : Value) (w : World) (K : World → Prop) : Prop := ∃ w', Sto P t x v w w' ∧ K w'
def allocK (P : Program) (t : TypeId) (w : World) (K : Value → World → Prop) : Prop :=
  ∃ z, Pu P (zeroValue t) z ∧ K (.pointer (some ⟨w.heap.size, 0, none⟩)) (w.alloc (.cells z.cells t))
def effK (P : Program) (t : TypeId) (m : Sem Value) (w : World) (K : Value → World → Prop) : Prop := exVal P t fun u => ∃ w', Ef P m w u w' ∧ K u w'
def effU (P : Program) (m : Sem Unit) (w : World) (K : World → Prop) : Prop := ∃ w', EfU P m w w' ∧ K w'
/-- A call of a function with a body. -/
def callK (P : Program) (f : FuncId) (args : Array Value) (w : World) (K : Value → World → Prop) : Prop :=
  Calls P f args w fun e w' => ∃ v, e = .returned v ∧ K v w'
/-- A call of a function by its number: with a body, or one that the model stands in for. -/
def callF0 (P : Program) (f : FuncId) (args : Array Value) (w : World) (K : Value → World → Prop) : Prop :=
  ((callFunc f args).run P w = .ok (.enter f args) w ∧ callK P f args w K) ∨ ∃ v w', (callFunc f args).run P w = .ok (.value v) w' ∧ K v w'
/-- The same, with what comes behind it named once. -/
def callF (P : Program) (f : FuncId) (args : Array Value) (w : World) (K : Value → World → Prop) : Prop := ∃ R : Value → World → Prop, (∀ v w', R v w' → K v w') ∧ callF0 P f args w R
/-- One round of a range over a function. -/
def yieldK (P : Program) (l : Nat) (args : Array Value) (w : World) (K : Value → World → Prop) : Prop :=
  ∃ f tmps assign body w₁, (Instr.yield l args).run P w = .ok (.round l f tmps assign body) w₁ ∧
    RoundIn (fen none) 0 P l f tmps assign body w₁ fun e w' => ∃ v, e = .returned v ∧ K v w'
/-- A call of a function value. -/
def callV0 (P : Program) (f : Value) (args : List Value) (w : World) (K : Value → World → Prop) : Prop :=
  match f with
  | .func (.func g) first cap => callF P g ⟨first.toList ++ args ++ cap.toList⟩ w K
  | .func (.yield l) first _ => yieldK P l ⟨first.toList ++ args⟩ w K
  | .func fn first cap => ∃ g as, (invoke (.fn fn cap) ⟨first.toList ++ args⟩).run P w = .ok (.enter g as) w ∧ callK P g as w K
  | _ => False
def callV (P : Program) (f : Value) (args : List Value) (w : World) (K : Value → World → Prop) : Prop := ∃ R : Value → World → Prop, (∀ v w', R v w' → K v w') ∧ callV0 P f args w R

def isInt (P : Program) (t : TypeId) : Bool := match P.underlying t with | some (.int _) => true | _ => false
def isMapT (P : Program) (t : TypeId) : Bool := match P.underlying t with | some (.map _ _) => true | some (.chan _ _) => true | _ => false
def litInt : Operand → Bool
  | .const (.int _ n) => !(n == 0) && (0 ≤ n : Bool)
  | _ => false
/-- Is such an operation reckoned? -/
def directBin (P : Program) (op : BinOp) (t : TypeId) (y : Operand) : Bool :=
  match op with
  | .add | .sub | .mul | .and | .or | .xor | .andNot | .lss | .leq | .gtr | .geq => isInt P t
  | .eql | .neq => isInt P t || (match P.underlying t with | some .bool => true | _ => false)
  | .quo | .rem | .shl | .shr => isInt P t && litInt y
/-- Is a value of this type laid open where it is met? -/
def openT (P : Program) (t : TypeId) : Bool :=
  match P.underlying t with
  | some (.array _ _) => false
  | some (.struct _) => Nat.ble (P.cellsOf t) 8
  | _ => true
def directBuild (P : Program) (t : TypeId) (ps : Array (Nat × Operand)) : Bool :=
  match P.underlying t with
  | some (.struct fs) => ps.toList.all fun p => match fs.toList[p.1]? with | some f => openT P f.type | none => false
  | some (.array _ e) => openT P e
  | _ => false
def smallAgg (P : Program) (t : TypeId) : Bool := match P.underlying t with | some (.struct _) => Nat.ble (P.cellsOf t) 8 | _ => false

def swOp (P : Program) (o : Oper) (s : St) (w : World) (K : Value → World → Prop) : Prop :=
  match o.op with
  | .move x | .assign x => K (s.ev x) w
  | .pick c a b => match s.ev c with | .bool t => K (cond t (s.ev a) (s.ev b)) w | _ => False
  | .extract .. | .fieldAddr .. | .makeFunc .. | .unOp .. => pureD P (execOp s.ev o) fun v => K v w
  | .build t ps => bif directBuild P t ps then pureD P (execOp s.ev o) fun v => K v w else pureE P t (Instr.build t ⟨ps.toList.map fun p => (p.1, s.ev p.2)⟩) fun v => K v w
  | .nilCheck x => nilK (s.ev x) fun v => K v w
  | .indexAddr t x i => idxAddrK P t (s.ev x) (s.ev i) fun v => K v w
  | .index t x i => pureE P o.type (Instr.index t (s.ev x) (s.ev i)) fun v => K v w
  | .slice t x lo hi mx => pureE P o.type (Instr.sliceAt t (s.ev x) (lo.map s.ev) (hi.map s.ev) (mx.map s.ev)) fun v => K v w
  | .sliceToArrayPointer t x => pureE P o.type (Instr.arrayAt t (s.ev x)) fun v => K v w
  | .field t x i => bif smallAgg P t then pureD P (execOp s.ev o) fun v => K v w else pureE P o.type (Instr.field t (s.ev x) i) fun v => K v w
  | .binOp op t x y _ =>
    bif directBin P op t y then pureD P (execOp s.ev o) fun v => K v w
    else bif isInt P t then pureE P o.type (do eqGuard op t x y (s.ev x) (s.ev y); binOp op t (s.ev x) (s.ev y)) fun v => K v w
    else effK P o.type (do eqGuard op t x y (s.ev x) (s.ev y); binOp op t (s.ev x) (s.ev y)) w K
  | .convert src dst x => bif isInt P src && isInt P dst then pureD P (execOp s.ev o) fun v => K v w else effK P o.type (convert src dst (s.ev x)) w K
  | .load t x => loadK P t (s.ev x) w fun v => K v w
  | .store t x v => storeK P t (s.ev x) (s.ev v) w fun w' => K undef w'
  | .alloc t => allocK P t w K
  | .box t x => K (.pointer (some ⟨w.heap.size, 0, none⟩)) (w.alloc (.cells (s.ev x).cells t))
  | .buildSlice t n ps => effK P o.type (Instr.buildSlice t n ⟨ps.toList.map fun p => (p.1, s.ev p.2)⟩) w K
  | .makeSlice t l c => effK P o.type (Instr.makeSlice t (s.ev l) (s.ev c)) w K
  | .makeMap t r => effK P o.type (Instr.makeMap t (r.map s.ev)) w K
  | .makeInterface t x => effK P o.type (Instr.makeInterface t (s.ev x)) w K
  | .lookup t x i ok => effK P o.type (Instr.lookup t (s.ev x) (s.ev i) ok) w K
  | .mapUpdate t m k x => effU P (Instr.mapUpdate t (s.ev m) (s.ev k) (s.ev x)) w fun w' => K undef w'
  | .insert t m k x => effU P (Instr.mapUpdate t (s.ev m) (s.ev k) (s.ev x)) w fun w' => K undef w'
  | .mapEntry t m k => effK P o.type (Instr.mapEntry t (s.ev m) (s.ev k)) w K
  | .entryStore t m st x => effU P (Instr.entryStore t (s.ev m) (s.ev st) (s.ev x)) w fun w' => K undef w'
  | .range t x => effK P o.type (Instr.range t (s.ev x)) w K
  | .next it isS => effK P o.type (Instr.next (s.ev it) isS o.type) w K
  | .entry it => effK P o.type (Instr.entry (s.ev it)) w K
  | .call c =>
    match c.callee with
    | .value (.func f) => callF P f ⟨c.args.toList.map s.ev⟩ w fun v w' => exVal P o.type fun u => v = u ∧ K u w'
    | .value x => callV P (s.ev x) (c.args.toList.map s.ev) w fun v w' => exVal P o.type fun u => v = u ∧ K u w'
    | .builtin .len =>
      bif isMapT P (c.argTypes.getD 0 0) then effK P o.type (Builtin.len_ c.argTypes o.type ⟨c.args.toList.map s.ev⟩) w K
      else pureD P (execOp s.ev o) fun v => K v w
    | .builtin .append => effK P o.type (Builtin.append_ c.argTypes o.type ⟨c.args.toList.map s.ev⟩) w K
    | .builtin .copy => effK P o.type (Builtin.copy_ c.argTypes o.type ⟨c.args.toList.map s.ev⟩) w K
    | .builtin .clear => effK P o.type (Builtin.clear_ c.argTypes o.type ⟨c.args.toList.map s.ev⟩) w K
    | .builtin .delete => effK P o.type (Builtin.delete_ c.argTypes o.type ⟨c.args.toList.map s.ev⟩) w K
    | .builtin .min => pureE P o.type (Builtin.min_ c.argTypes o.type ⟨c.args.toList.map s.ev⟩) fun v => K v w
    | .builtin .max => pureE P o.type (Builtin.max_ c.argTypes o.type ⟨c.args.toList.map s.ev⟩) fun v => K v w
    | .builtin .cap => pureE P o.type (Builtin.cap_ c.argTypes o.type ⟨c.args.toList.map s.ev⟩) fun v => K v w
    | .builtin .unsafeString => effK P o.type (Builtin.unsafeString_ c.argTypes o.type ⟨c.args.toList.map s.ev⟩) w K
    | .builtin .unsafeSliceData => effK P o.type (Builtin.unsafeSliceData_ c.argTypes o.type ⟨c.args.toList.map s.ev⟩) w K
    | .builtin .unsafeStringData => effK P o.type (Builtin.unsafeStringData_ c.argTypes o.type ⟨c.args.toList.map s.ev⟩) w K
    | .builtin .unsafeSlice => effK P o.type (Builtin.unsafeSlice_ c.argTypes o.type ⟨c.args.toList.map s.ev⟩) w K
    | _ => False
  | _ => False


/-! ### That these words are the model's -/
theorem res_bind {P : Program} {α β : Type} (m : Sem α) (f : α → Sem β) : res P (m.bind f) = (res P m).bind fun a => res P (f a) := by
  induction m with
  | pure a => rfl
  | program k ih => simp only [Sem.bind, res]; exact ih P
  | _ => rfl
theorem res_value {P : Program} {m : Sem Value} {v : Value} (h : res P m = some v) : res P (do pure (.value (← m)) : Sem Next) = some (.value v) := by
  show res P (m.bind fun v => Sem.pure (Next.value v)) = _
  rw [res_bind, h]; rfl
theorem run_value {P : Program} {m : Sem Value} {v : Value} {w w' : World} (h : m.run P w = .ok v w') : (do pure (.value (← m)) : Sem Next).run P w = .ok (.value v) w' := by
  rw [Sem.run_bind, h]; rfl
theorem run_skip {P : Program} {m : Sem Unit} {w w' : World} (h : m.run P w = .ok () w') : (do m; pure .skip : Sem Next).run P w = .ok .skip w' := by
  rw [Sem.run_bind, h]; rfl
theorem pureD_out {P : Program} {m : Sem Next} {K : Value → Prop} (h : pureD P m K) : ∃ v, res P m = some (.value v) ∧ K v := by
  unfold pureD at h
  split at h
  · rename_i v hv; exact ⟨v, hv, h⟩
  · exact h.elim

/-- What an operation comes to, in the model's own words. -/
def opOut (P : Program) (o : Oper) (s : St) (w : World) (K : Value → World → Prop) : Prop :=
  (∃ v w', (execOp s.ev o).run P w = .ok (.value v) w' ∧ K v w') ∨ (∃ w', (execOp s.ev o).run P w = .ok .skip w' ∧ K undef w') ∨
  (∃ f args w', (execOp s.ev o).run P w = .ok (.enter f args) w' ∧ callK P f args w' K) ∨
  (∃ l f tmps assign body w', (execOp s.ev o).run P w = .ok (.round l f tmps assign body) w' ∧ RoundIn (fen none) 0 P l f tmps assign body w' fun e w' => ∃ v, e = .returned v ∧ K v w')

theorem callK_mono {P : Program} {f : FuncId} {args : Array Value} {w : World} {K K' : Value → World → Prop} (hk : ∀ v w, K v w → K' v w) (h : callK P f args w K) : callK P f args w K' :=
  Calls.mono h fun _ _ ⟨v, he, hv⟩ => ⟨v, he, hk _ _ hv⟩
theorem yieldK_mono {P : Program} {l : Nat} {args : Array Value} {w : World} {K K' : Value → World → Prop} (hk : ∀ v w, K v w → K' v w) (h : yieldK P l args w K) : yieldK P l args w K' := by
  obtain ⟨f, tmps, assign, body, w₁, h1, h2⟩ := h
  exact ⟨f, tmps, assign, body, w₁, h1, h2.mono fun _ _ ⟨v, he, hv⟩ => ⟨v, he, hk _ _ hv⟩⟩
theorem callF0_mono {P : Program} {f : FuncId} {args : Array Value} {w : World} {K K' : Value → World → Prop} (hk : ∀ v w, K v w → K' v w) (h : callF0 P f args w K) : callF0 P f args w K' := by
  rcases h with ⟨h1, h2⟩ | ⟨v, w', h1, h2⟩
  · exact .inl ⟨h1, callK_mono hk h2⟩
  · exact .inr ⟨v, w', h1, hk _ _ h2⟩
theorem callF_mono {P : Program} {f : FuncId} {args : Array Value} {w : World} {K K' : Value → World → Prop} (hk : ∀ v w, K v w → K' v w) (h : callF P f args w K) : callF P f args w K' := by
  obtain ⟨R, hR, h⟩ := h
  exact ⟨R, fun v w h => hk _ _ (hR _ _ h), h⟩
theorem callF_out {P : Program} {f : FuncId} {args : Array Value} {w : World} {K : Value → World → Prop} (h : callF P f args w K) : callF0 P f args w K := by
  obtain ⟨R, hR, h⟩ := h
  exact callF0_mono hR h
theorem callF_in {P : Program} {f : FuncId} {args : Array Value} {w : World} {K : Value → World → Prop} (h : callF0 P f args w K) : callF P f args w K := ⟨K, fun _ _ h => h, h⟩
theorem callV0_mono {P : Program} {f : Value} {args : List Value} {w : World} {K K' : Value → World → Prop} (hk : ∀ v w, K v w → K' v w) (h : callV0 P f args w K) : callV0 P f args w K' := by
  cases f with
  | func fn first cap =>
    cases fn with
    | func g => exact callF_mono hk h
    | yield l => exact yieldK_mono hk h
    | _ => obtain ⟨g, as, h1, h2⟩ := h; exact ⟨g, as, h1, callK_mono hk h2⟩
  | _ => exact h
theorem callV_mono {P : Program} {f : Value} {args : List Value} {w : World} {K K' : Value → World → Prop} (hk : ∀ v w, K v w → K' v w) (h : callV P f args w K) : callV P f args w K' := by
  obtain ⟨R, hR, h⟩ := h
  exact ⟨R, fun v w h => hk _ _ (hR _ _ h), h⟩
theorem callV_out {P : Program} {f : Value} {args : List Value} {w : World} {K : Value → World → Prop} (h : callV P f args w K) : callV0 P f args w K := by
  obtain ⟨R, hR, h⟩ := h
  exact callV0_mono hR h
theorem callV_in {P : Program} {f : Value} {args : List Value} {w : World} {K : Value → World → Prop} (h : callV0 P f args w K) : callV P f args w K := ⟨K, fun _ _ h => h, h⟩

theorem exec_call {ρ : Operand → Value} {dst : Option Tmp} {c : Call} {ty : TypeId} {pos : String} {after : Array Edge} {guard : Option (Nat × Bool)} :
    execOp ρ { dst, op := .call c, type := ty, pos, after, guard } = (do let d ← resolve ρ c ty; invoke d.target d.args) := rfl

theorem callee_value {P : Program} {ρ : Operand → Value} {x : Operand} {args : Array Operand} {ats : Array TypeId} {dst : Option Tmp} {ty : TypeId} {pos : String} {after : Array Edge}
    {guard : Option (Nat × Bool)} {fn : Fn} {first cap : Array Value} (hx : ρ x = .func fn first cap) (w : World) :
    (execOp ρ { dst, op := .call { callee := .value x, args := args, argTypes := ats }, type := ty, pos, after, guard }).run P w =
      (invoke (.fn fn cap) ⟨first.toList ++ args.toList.map ρ⟩).run P w := by
  have e : (first ++ args.map ρ : Array Value) = ⟨first.toList ++ args.toList.map ρ⟩ := by
    apply Array.toList_inj.1; simp
  rw [exec_call, ← e]
  simp only [resolve, hx, Deferred.ofValue]
  rfl

set_option maxHeartbeats 4000000 in
theorem swOp_out {P : Program} {o : Oper} {s : St} {w : World} {K : Value → World → Prop} (h : swOp P o s w K) : opOut P o s w K := by
  obtain ⟨dst, op, ty, pos, after, guard⟩ := o
  have pd : ∀ {m : Sem Next}, execOp s.ev ⟨dst, op, ty, pos, after, guard⟩ = m → pureD P m (fun v => K v w) → opOut P ⟨dst, op, ty, pos, after, guard⟩ s w K := by
    rintro m rfl h
    obtain ⟨v, hv, hk⟩ := pureD_out h
    exact .inl ⟨v, w, run_of_res hv w, hk⟩
  have pe : ∀ {m : Sem Value} {t : TypeId}, execOp s.ev ⟨dst, op, ty, pos, after, guard⟩ = (do pure (.value (← m))) → pureE P t m (fun v => K v w) → opOut P ⟨dst, op, ty, pos, after, guard⟩ s w K := by
    rintro m t e h
    obtain ⟨v, hv, hk⟩ := exVal_elim h
    exact .inl ⟨v, w, by rw [e]; exact run_of_res (res_value hv) w, hk⟩
  have ef : ∀ {m : Sem Value} {t : TypeId}, execOp s.ev ⟨dst, op, ty, pos, after, guard⟩ = (do pure (.value (← m))) → effK P t m w K → opOut P ⟨dst, op, ty, pos, after, guard⟩ s w K := by
    rintro m t e h
    obtain ⟨v, w', hv, hk⟩ := exVal_elim h
    exact .inl ⟨v, w', by rw [e]; exact run_value hv, hk⟩
  have eu : ∀ {m : Sem Unit}, execOp s.ev ⟨dst, op, ty, pos, after, guard⟩ = (do m; pure .skip) → effU P m w (fun w' => K undef w') → opOut P ⟨dst, op, ty, pos, after, guard⟩ s w K := by
    rintro m e ⟨w', hv, hk⟩
    exact .inr (.inl ⟨w', by rw [e]; exact run_skip hv, hk⟩)
  cases op with
  | move x => exact .inl ⟨_, _, rfl, h⟩
  | assign x => exact .inl ⟨_, _, rfl, h⟩
  | pick c a b =>
    simp only [swOp] at h
    split at h
    · rename_i t hc
      refine .inl ⟨_, _, ?_, h⟩
      simp only [execOp, hc]
      cases t <;> rfl
    · exact h.elim
  | extract => exact pd rfl h
  | build t ps =>
    simp only [swOp] at h
    cases hb : directBuild P t ps <;> rw [hb] at h
    · refine pe (m := Instr.build t ⟨ps.toList.map fun (p : Nat × Operand) => (p.1, s.ev p.2)⟩) (t := t) ?_ h
      have e : (ps.map fun (i, x) => (i, s.ev x) : Array (Nat × Value)) = ⟨ps.toList.map fun p => (p.1, s.ev p.2)⟩ := by
        apply Array.toList_inj.1; rw [Array.toList_map]
      simp only [execOp, e]
    · exact pd rfl h
  | fieldAddr => exact pd rfl h
  | makeFunc => exact pd rfl h
  | unOp => exact pd rfl h
  | nilCheck x =>
    simp only [swOp, nilK] at h
    split at h
    · rename_i p hx
      obtain ⟨a, rfl, hk⟩ := h
      exact .inl ⟨_, w, by simp only [execOp, hx]; rfl, hk⟩
    · rename_i g first cap hx
      exact .inl ⟨_, w, by simp only [execOp, hx]; rfl, h⟩
    · rename_i g first cap hx
      exact .inl ⟨_, w, by simp only [execOp, hx]; rfl, h⟩
    · exact h.elim
  | indexAddr t x i =>
    obtain ⟨a, hr, hk⟩ := h
    exact .inl ⟨_, w, run_of_res (res_value hr) w, hk⟩
  | index => exact pe rfl h
  | slice => exact pe rfl h
  | sliceToArrayPointer => exact pe rfl h
  | field t x i =>
    simp only [swOp] at h
    cases hb : smallAgg P t <;> rw [hb] at h
    · exact pe rfl h
    · exact pd rfl h
  | binOp bo t x y yt =>
    simp only [swOp] at h
    cases hb : directBin P bo t y <;> rw [hb] at h
    · cases hi : isInt P t <;> rw [hi] at h
      · exact ef rfl h
      · exact pe rfl h
    · exact pd rfl h
  | convert src dst' x =>
    simp only [swOp] at h
    cases hb : isInt P src && isInt P dst' <;> rw [hb] at h
    · exact ef rfl h
    · exact pd rfl h
  | load t x =>
    have h' : loadK P t (s.ev x) w fun v => K v w := h
    unfold loadK at h'
    obtain ⟨v, hv, hk⟩ := exVal_elim h'
    exact .inl ⟨v, w, run_value hv, hk⟩
  | store t x v => exact eu rfl h
  | alloc t =>
    obtain ⟨z, hz, hk⟩ := h
    refine .inl ⟨_, _, ?_, hk⟩
    have hz' := run_of_res hz w
    have : (Instr.alloc t true (.tuple #[])).run P w = .ok (.pointer (some ⟨w.heap.size, 0, none⟩)) (w.alloc (.cells z.cells t)) := by
      unfold Instr.alloc
      rw [Sem.run_bind, hz']; rfl
    exact run_value this
  | box t x => exact .inl ⟨_, _, rfl, h⟩
  | buildSlice t n ps =>
    refine ef (m := Instr.buildSlice t n ⟨ps.toList.map fun (p : Nat × Operand) => (p.1, s.ev p.2)⟩) (t := ty) ?_ h
    have e : (ps.map fun (i, x) => (i, s.ev x) : Array (Nat × Value)) = ⟨ps.toList.map fun p => (p.1, s.ev p.2)⟩ := by
      apply Array.toList_inj.1; rw [Array.toList_map]
    simp only [execOp, e]
  | makeSlice => exact ef rfl h
  | makeMap => exact ef rfl h
  | makeInterface => exact ef rfl h
  | lookup => exact ef rfl h
  | mapUpdate => exact eu rfl h
  | insert => exact eu rfl h
  | mapEntry => exact ef rfl h
  | entryStore => exact eu rfl h
  | range => exact ef rfl h
  | next => exact ef rfl h
  | entry => exact ef rfl h
  | call c =>
    obtain ⟨callee, args, ats⟩ := c
    have eargs : (args.map s.ev : Array Value) = ⟨args.toList.map s.ev⟩ := by apply Array.toList_inj.1; simp
    have ofV : ∀ {x : Operand}, callee = .value x → callV P (s.ev x) (args.toList.map s.ev) w K → opOut P ⟨dst, .call ⟨callee, args, ats⟩, ty, pos, after, guard⟩ s w K := by
      rintro x rfl h
      have h := callV_out h
      unfold callV0 at h
      split at h
      · rename_i g first cap hx
        have e0 := callee_value (P := P) (args := args) (ats := ats) (dst := dst) (ty := ty) (pos := pos) (after := after) (guard := guard) hx w
        have e1 : invoke (.fn (.func g) cap) ⟨first.toList ++ args.toList.map s.ev⟩ = callFunc g ⟨first.toList ++ args.toList.map s.ev ++ cap.toList⟩ := by
          have e2 : ((⟨first.toList ++ args.toList.map s.ev⟩ : Array Value) ++ cap) = ⟨first.toList ++ args.toList.map s.ev ++ cap.toList⟩ := by
            apply Array.toList_inj.1; simp
          rw [← e2]; rfl
        rw [e1] at e0
        rcases callF_out h with ⟨h1, h2⟩ | ⟨v, w', h1, h2⟩
        · exact .inr (.inr (.inl ⟨_, _, _, e0.trans h1, h2⟩))
        · exact .inl ⟨_, _, e0.trans h1, h2⟩
      · rename_i l first cap hx
        have e0 := callee_value (P := P) (args := args) (ats := ats) (dst := dst) (ty := ty) (pos := pos) (after := after) (guard := guard) hx w
        obtain ⟨f, tmps, assign, body, w₁, h1, h2⟩ := h
        exact .inr (.inr (.inr ⟨l, f, tmps, assign, body, w₁, e0.trans h1, h2⟩))
      · rename_i fn first cap _ _ hx
        have e0 := callee_value (P := P) (args := args) (ats := ats) (dst := dst) (ty := ty) (pos := pos) (after := after) (guard := guard) hx w
        obtain ⟨g, as, h1, h2⟩ := h
        exact .inr (.inr (.inl ⟨_, _, _, e0.trans h1, h2⟩))
      · exact h.elim
    have ofB : ∀ {b : Builtin} {m : Array TypeId → TypeId → Array Value → Sem Value}, callee = .builtin b →
        (∀ consts as, builtin b ats ty consts as = (do pure (.value (← m ats ty as)))) →
        effK P ty (m ats ty ⟨args.toList.map s.ev⟩) w K → opOut P ⟨dst, .call ⟨callee, args, ats⟩, ty, pos, after, guard⟩ s w K := by
      rintro b m rfl hb h
      obtain ⟨v, w', hv, hk⟩ := exVal_elim h
      refine .inl ⟨v, w', ?_, hk⟩
      rw [exec_call]
      simp only [resolve, eargs]
      exact (congrArg (fun (z : Sem Next) => z.run P w) (hb _ _)).trans (run_value hv)
    have ofP : ∀ {b : Builtin} {m : Array TypeId → TypeId → Array Value → Sem Value}, callee = .builtin b →
        (∀ consts as, builtin b ats ty consts as = (do pure (.value (← m ats ty as)))) →
        pureE P ty (m ats ty ⟨args.toList.map s.ev⟩) (fun v => K v w) → opOut P ⟨dst, .call ⟨callee, args, ats⟩, ty, pos, after, guard⟩ s w K := by
      rintro b m rfl hb h
      obtain ⟨v, hv, hk⟩ := exVal_elim h
      refine .inl ⟨v, w, ?_, hk⟩
      rw [exec_call]
      simp only [resolve, eargs]
      exact (congrArg (fun (z : Sem Next) => z.run P w) (hb _ _)).trans (run_value (run_of_res hv w))
    cases callee with
    | value x =>
      have hx : callV P (s.ev x) (args.toList.map s.ev) w K := by
        cases x with
        | func f =>
          refine callV_in ?_
          have e0 : callV0 P (s.ev (.func f)) (args.toList.map s.ev) w K = callF P f ⟨[] ++ args.toList.map s.ev ++ []⟩ w K := rfl
          rw [e0, List.nil_append, List.append_nil]
          exact callF_mono (K := fun v w' => exVal P ty fun u => v = u ∧ K u w') (fun v w' h => by obtain ⟨u, rfl, hk⟩ := exVal_elim h; exact hk) h
        | tmp t => exact callV_mono (K := fun v w' => exVal P ty fun u => v = u ∧ K u w') (fun v w' h => by obtain ⟨u, rfl, hk⟩ := exVal_elim h; exact hk) h
        | const c => exact callV_mono (K := fun v w' => exVal P ty fun u => v = u ∧ K u w') (fun v w' h => by obtain ⟨u, rfl, hk⟩ := exVal_elim h; exact hk) h
        | global g => exact callV_mono (K := fun v w' => exVal P ty fun u => v = u ∧ K u w') (fun v w' h => by obtain ⟨u, rfl, hk⟩ := exVal_elim h; exact hk) h
      exact ofV rfl hx
    | invoke => exact h.elim
    | builtin b =>
      cases b with
      | len =>
        simp only [swOp] at h
        cases hb : isMapT P (ats.getD 0 0) <;> rw [hb] at h
        · exact pd rfl h
        · exact ofB rfl (fun _ _ => rfl) h
      | append => exact ofB rfl (fun _ _ => rfl) h
      | copy => exact ofB rfl (fun _ _ => rfl) h
      | clear => exact ofB rfl (fun _ _ => rfl) h
      | delete => exact ofB rfl (fun _ _ => rfl) h
      | min => exact ofP rfl (fun _ _ => rfl) h
      | max => exact ofP rfl (fun _ _ => rfl) h
      | cap => exact ofP rfl (fun _ _ => rfl) h
      | unsafeString => exact ofB rfl (fun _ _ => rfl) h
      | unsafeSliceData => exact ofB rfl (fun _ _ => rfl) h
      | unsafeStringData => exact ofB rfl (fun _ _ => rfl) h
      | unsafeSlice => exact ofB rfl (fun _ _ => rfl) h
      | _ => exact h.elim
  | _ => exact h.elim

end Go.Fw
