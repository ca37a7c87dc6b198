/- A part of a proof of a given law of this program: lemmas, printed forms of its functions, contracts. It has no conditions of its own. -/
import Derived.OrdersIn
import Derived.OrdersHeld
import Derived.RangeFuncLeaves
import Derived.RangeFuncCalls
import Derived.Laws.World
import Derived.KernelRfl
import Derived.Laws.Sem
import Derived.Laws.LoneSync
import Derived.Below
import Derived.Laws.Slices
import Derived.Laws.AppendOwn
import Derived.Laws.Cells
import Derived.Laws.BitsAllLaws
import Derived.Laws.Runes
import Derived.Laws.MakeOwn

set_option maxHeartbeats 16000000
section
namespace Go.Fw
open Go
abbrev VWP:=Value→World→Prop
def fen (ro:Option Nat):Fence:={ fn:=fun _=>True,depth:=none,alive:=false,round:=ro }
def res (P:Program) {α:Type}:Sem α→Option α
  | .pure a=>some a
  | .program k=>res P (k P)
  | _=>none
theorem Xx {P:Program} {α:Type} {m:Sem α} {a:α} (h:res P m=some a) (w:World):m.run P w=.ok a w:=by
  induction m with
  | pure b=>simp only [res,Option.some.injEq] at h; subst h; rfl
  | program k ih=>simp only [res] at h; exact ih P h
  | _=>simp [res] at h
structure St where
  r:Nat→Value
  ds:List Deferred
def St.up (s:St) (d:Nat) (v:Value):St:=⟨fun t=>bif Nat.beq t d then v else s.r t,s.ds⟩
def St.ev (s:St):Operand→Value
  | .tmp t=>s.r t
  | .const v=>v
  | .global g=>.pointer (some ⟨g,0,none⟩)
  | .func f=>.func (.func f) #[] #[]
def Y6 (args:List Value):Nat→Value
  | t=>args.getD t undef
theorem St.up_r (s:St) (d:Nat) (v:Value) (t:Nat):(s.up d v).r t=if t=d then v else s.r t:=by
  unfold St.up
  by_cases h:t=d
  · simp [h]
  · have hb : Nat.beq t d = false := by
      cases hb:Nat.beq t d with
      | false=>rfl
      | true=>exact absurd (Nat.eq_of_beq_eq_true hb) h
    simp [h,hb]
structure Rep (nt:Nat) (a:Act) (s:St):Prop where
  size:a.tmps.size=nt
  val:∀ t,a.tmps.getD t undef=s.r t
  ds:a.defers=s.ds
theorem Rep.eval {nt:Nat} {a:Act} {s:St} (h:Rep nt a s):a.eval=s.ev:=by
  funext x
  cases x with
  | tmp t=>exact h.val t
  | _=>rfl
theorem Rep.up {nt:Nat} {a:Act} {s:St} (h:Rep nt a s) {d:Nat} (hd:d<nt) (v:Value):Rep nt (a.put (some d) v) (s.up d v):=by
  refine ⟨by simp [Act.put,h.size],fun t=>?_,h.ds⟩
  rw [St.up_r]
  simp only [Act.put]
  by_cases ht:t=d
  · subst ht
    simp [h.size,hd]
  · rw [if_neg ht,← h.val t]
    simp [Array.getD_eq_getD_getElem?,Array.getElem?_setIfInBounds_ne (Ne.symm ht)]
theorem Rep.same {nt:Nat} {a:Act} {s:St} (h:Rep nt a s) {d:Nat} {v:Value} (hv:s.r d=v):Rep nt a (s.up d v):=
  ⟨h.size,fun t=>by
    rw [St.up_r]
    by_cases ht:t=d
    · rw [if_pos ht,ht,← hv]; exact h.val d
    · rw [if_neg ht]; exact h.val t,h.ds⟩
def JZ (P:Program) (t:TypeId) (K:Value→Prop):Prop:=
  match P.underlying t with
  | some .bool=>∃ b,K (.bool b)
  | some (.int k)=>∃ n,K (.int k n)
  | some .string=>∃ s,K (.string s)
  | some (.pointer _)=>∃ p,K (.pointer p)
  | some (.slice _)=>∃ p l c,K (.slice p l c)
  | some (.map _ _)=>∃ p,K (.map p)
  | _=>∃ v,K v
def Q7 (P:Program):Nat→TypeId→List TypeId
  | 0,t=>[t]
  | n+1,t=>
    match P.underlying t with
    | some (.struct fs)=>fs.toList.flatMap fun f=>Q7 P n f.type
    | some (.array k e)=>(List.replicate k (Q7 P n e)).flatten
    | _=>[t]
def V7 (P:Program):List TypeId→(List Value→Prop)→Prop
  | [],K=>K []
  | t::ts,K=>JZ P t fun v=>V7 P ts fun vs=>K (v::vs)
def Q8 (P:Program) (t:TypeId) (K:Value→Prop):Prop:=
  match P.underlying t with
  | some (.struct _)=>bif Nat.ble (P.cellsOf t) 8 then V7 P (Q7 P 9 t) (fun cs=>K (.agg ⟨cs⟩)) else ∃ cs,K (.agg cs)
  | some (.array _ _)=>∃ cs,K (.agg cs)
  | _=>JZ P t K
def Xdz (P:Program):List TypeId→(List Value→Prop)→Prop
  | [],K=>K []
  | t::ts,K=>Q8 P t fun v=>Xdz P ts fun vs=>K (v::vs)
def YO (P:Program) (t:TypeId) (K:Value→Prop):Prop:=
  match P.underlying t with
  | some (.tuple ts)=>Xdz P ts.toList fun vs=>K (.tuple ⟨vs⟩)
  | _=>Q8 P t K
theorem XcR {P:Program} {t:TypeId} {K:Value→Prop} (h:JZ P t K):∃ v,K v:=by
  unfold JZ at h
  split at h
  all_goals first
    | (obtain ⟨b,h⟩:=h; exact ⟨_,h⟩)
    | (obtain ⟨b,c,d,h⟩:=h; exact ⟨_,h⟩)
theorem Xjp {P:Program} {ts:List TypeId} {K:List Value→Prop} (h:V7 P ts K):∃ vs,K vs:=by
  induction ts generalizing K with
  | nil=>exact ⟨[],h⟩
  | cons t ts ih=>
    obtain ⟨v,h⟩:=XcR h
    obtain ⟨vs,h⟩:=ih h
    exact ⟨_,h⟩
theorem Xhm {P:Program} {t:TypeId} {K:Value→Prop} (h:Q8 P t K):∃ v,K v:=by
  unfold Q8 at h
  split at h
  · cases hb:Nat.ble (P.cellsOf t) 8 <;> rw [hb] at h
    · obtain ⟨cs,h⟩:=h; exact ⟨_,h⟩
    · obtain ⟨vs,h⟩:=Xjp h; exact ⟨_,h⟩
  · obtain ⟨cs,h⟩:=h; exact ⟨_,h⟩
  · exact XcR h
theorem XoK {P:Program} {ts:List TypeId} {K:List Value→Prop} (h:Xdz P ts K):∃ vs,K vs:=by
  induction ts generalizing K with
  | nil=>exact ⟨[],h⟩
  | cons t ts ih=>
    obtain ⟨v,h⟩:=Xhm h
    obtain ⟨vs,h⟩:=ih h
    exact ⟨_,h⟩
theorem X1 {P:Program} {t:TypeId} {K:Value→Prop} (h:YO P t K):∃ v,K v:=by
  unfold YO at h
  split at h
  · obtain ⟨vs,h⟩:=XoK h; exact ⟨_,h⟩
  · exact Xhm h
def J0 (k:IntKind) (a b:Int):Int:=k.wrap ((BitVec.ofInt k.bits a &&& BitVec.ofInt k.bits b).toNat:Nat)
def ior (k:IntKind) (a b:Int):Int:=k.wrap ((BitVec.ofInt k.bits a ||| BitVec.ofInt k.bits b).toNat:Nat)
def YE (k:IntKind) (a b:Int):Int:=k.wrap ((BitVec.ofInt k.bits a ^^^ BitVec.ofInt k.bits b).toNat:Nat)
def Vb (P:Program) (m:Sem Next) (K:Value→Prop):Prop:=
  match res P m with
  | some (.value v)=>K v
  | _=>False
def Pu (P:Program) (m:Sem Value) (u:Value):Prop:=res P m=some u
def Ef (P:Program) (m:Sem Value) (w:World) (u:Value) (w':World):Prop:=m.run P w=.ok u w'
def EfU (P:Program) (m:Sem Unit) (w w':World):Prop:=m.run P w=.ok () w'
def Ld (P:Program) (t:TypeId) (x:Value) (w:World) (u:Value):Prop:=(Instr.loadAt t x).run P w=.ok u w
def Sto (P:Program) (t:TypeId) (x v:Value) (w w':World):Prop:=(Instr.storeAt t x v).run P w=.ok () w'
def IxA (P:Program) (t:TypeId) (x i:Value) (a:Addr):Prop:=res P (Instr.indexAt t x i)=some (.pointer (some a))
def Uh (P:Program) (t:TypeId) (m:Sem Value) (K:Value→Prop):Prop:=YO P t fun u=>Pu P m u∧K u
def Xjq (v:Value) (K:Value→Prop):Prop:=
  match v with
  | .pointer p=>∃ a,p=some a∧K (.pointer (some a))
  | .func (.func g) first cap=>K (.func (.func g) first cap)
  | .func (.yield l) first cap=>K (.func (.yield l) first cap)
  | _=>False
def Xtj (P:Program) (t:TypeId) (x i:Value) (K:Value→Prop):Prop:=∃ a,IxA P t x i a∧K (.pointer (some a))
def Xqs (P:Program) (t:TypeId) (x:Value) (w:World) (K:Value→Prop):Prop:=YO P t fun u=>Ld P t x w u∧K u
def XvF (P:Program) (t:TypeId) (x v:Value) (w:World) (K:World→Prop):Prop:=∃ w',Sto P t x v w w'∧K w'
def XrL (P:Program) (t:TypeId) (w:World) (K:VWP):Prop:=
  ∃ z,Pu P (zeroValue t) z∧K (.pointer (some ⟨w.heap.size,0,none⟩)) (w.alloc (.cells z.cells t))
def Ym (P:Program) (t:TypeId) (m:Sem Value) (w:World) (K:VWP):Prop:=YO P t fun u=>∃ w',Ef P m w u w'∧K u w'
def XpM (P:Program) (m:Sem Value) (w:World) (K:VWP):Prop:=∃ (a:Addr) (w':World),Ef P m w (.pointer (some a)) w'∧K (.pointer (some a)) w'
def Xms (P:Program) (m:Sem Value) (w:World) (K:VWP):Prop:=∃ (b:Bool) (r:List Value) (w':World),Ef P m w (.tuple ⟨.bool b::r⟩) w'∧K (.tuple ⟨.bool b::r⟩) w'
def XpN (P:Program) (m:Sem Value) (w:World) (K:VWP):Prop:=∃ (k v:Value) (w':World),Ef P m w (.tuple #[k,v]) w'∧K (.tuple #[k,v]) w'
def Xqt (P:Program) (m:Sem Unit) (w:World) (K:World→Prop):Prop:=∃ w',EfU P m w w'∧K w'
def UJ (P:Program) (f:FuncId) (args:Array Value) (w:World) (K:VWP):Prop:=
  Calls P f args w fun e w'=>∃ v,e=.returned v∧K v w'
def XdA (P:Program) (f:FuncId) (args:Array Value) (w:World) (K:VWP):Prop:=
  ((callFunc f args).run P w=.ok (.enter f args) w∧UJ P f args w K)∨∃ v w',(callFunc f args).run P w=.ok (.value v) w'∧K v w'
def Xa (P:Program) (f:FuncId) (args:Array Value) (w:World) (K:VWP):Prop:=∃ R:VWP,(∀ v w',R v w'→K v w')∧XdA P f args w R
def Qi (P:Program) (l:Nat) (args:Array Value) (w:World) (K:VWP):Prop:=
  ∃ f tmps assign body w₁,(Instr.yield l args).run P w=.ok (.round l f tmps assign body) w₁∧
    RoundIn (fen none) 0 P l f tmps assign body w₁ fun e w'=>∃ v,e=.returned v∧K v w'
def V8 (P:Program) (f:Value) (args:List Value) (w:World) (K:VWP):Prop:=
  match f with
  | .func (.func g) first cap=>Xa P g ⟨first.toList++args++cap.toList⟩ w K
  | .func (.yield l) first _=>Qi P l ⟨first.toList++args⟩ w K
  | .func fn first cap=>∃ g as,(invoke (.fn fn cap) ⟨first.toList++args⟩).run P w=.ok (.enter g as) w∧UJ P g as w K
  | _=>False
def Yv (P:Program) (f:Value) (args:List Value) (w:World) (K:VWP):Prop:=∃ R:VWP,(∀ v w',R v w'→K v w')∧V8 P f args w R
def XO (P:Program) (t:TypeId):Bool:=match P.underlying t with | some (.int _)=>true | _=>false
def V9 (P:Program) (t:TypeId):Bool:=match P.underlying t with | some (.map _ _)=>true | some (.chan _ _)=>true | _=>false
def XvG:Operand→Bool
  | .const (.int _ n)=>!(n == 0) && (0≤n:Bool)
  | _=>false
def U2 (P:Program) (op:BinOp) (t:TypeId) (y:Operand):Bool:=
  match op with
  | .add | .sub | .mul | .and | .or | .xor | .andNot | .lss | .leq | .gtr | .geq=>XO P t
  | .eql | .neq=>XO P t || (match P.underlying t with | some .bool=>true | _=>false)
  | .quo | .rem | .shl | .shr=>XO P t && XvG y
def Xun (P:Program) (t:TypeId):Bool:=
  match P.underlying t with
  | some (.array _ _)=>false
  | some (.struct _)=>Nat.ble (P.cellsOf t) 8
  | _=>true
def Uy (P:Program) (t:TypeId) (ps:Array (Nat×Operand)):Bool:=
  match P.underlying t with
  | some (.struct fs)=>ps.toList.all fun p=>match fs.toList[p.1]? with | some f=>Xun P f.type | none=>false
  | some (.array _ e)=>Xun P e
  | _=>false
def Qj (P:Program) (t:TypeId):Bool:=match P.underlying t with | some (.struct _)=>Nat.ble (P.cellsOf t) 8 | _=>false
def X5 (P:Program) (o:Oper) (s:St) (w:World) (K:VWP):Prop:=
  match o.op with
  | .move x | .assign x=>K (s.ev x) w
  | .pick c a b=>match s.ev c with | .bool t=>K (cond t (s.ev a) (s.ev b)) w | _=>False
  | .extract .. | .fieldAddr .. | .makeFunc .. | .unOp ..=>Vb P (execOp s.ev o) fun v=>K v w
  | .build t ps=>bif Uy P t ps then Vb P (execOp s.ev o) fun v=>K v w else Uh P t (Instr.build t ⟨ps.toList.map fun p=>(p.1,s.ev p.2)⟩) fun v=>K v w
  | .nilCheck x=>Xjq (s.ev x) fun v=>K v w
  | .indexAddr t x i=>Xtj P t (s.ev x) (s.ev i) fun v=>K v w
  | .index t x i=>Uh P o.type (Instr.index t (s.ev x) (s.ev i)) fun v=>K v w
  | .slice t x lo hi mx=>Uh P o.type (Instr.sliceAt t (s.ev x) (lo.map s.ev) (hi.map s.ev) (mx.map s.ev)) fun v=>K v w
  | .sliceToArrayPointer t x=>∃ p:Option Addr,Pu P (Instr.arrayAt t (s.ev x)) (.pointer p)∧K (.pointer p) w
  | .field t x i=>bif Qj P t then Vb P (execOp s.ev o) fun v=>K v w else Uh P o.type (Instr.field t (s.ev x) i) fun v=>K v w
  | .binOp op t x y _=>
    bif U2 P op t y then Vb P (execOp s.ev o) fun v=>K v w
    else bif XO P t then Uh P o.type (do eqGuard op t x y (s.ev x) (s.ev y); binOp op t (s.ev x) (s.ev y)) fun v=>K v w
    else Ym P o.type (do eqGuard op t x y (s.ev x) (s.ev y); binOp op t (s.ev x) (s.ev y)) w K
  | .convert src dst x=>bif XO P src && XO P dst then Vb P (execOp s.ev o) fun v=>K v w else Ym P o.type (convert src dst (s.ev x)) w K
  | .load t x=>Xqs P t (s.ev x) w fun v=>K v w
  | .store t x v=>XvF P t (s.ev x) (s.ev v) w fun w'=>K undef w'
  | .alloc t=>XrL P t w K
  | .box t x=>K (.pointer (some ⟨w.heap.size,0,none⟩)) (w.alloc (.cells (s.ev x).cells t))
  | .buildSlice t n ps=>Ym P o.type (Instr.buildSlice t n ⟨ps.toList.map fun p=>(p.1,s.ev p.2)⟩) w K
  | .makeSlice t l c=>Ym P o.type (Instr.makeSlice t (s.ev l) (s.ev c)) w K
  | .makeMap t r=>Ym P o.type (Instr.makeMap t (r.map s.ev)) w K
  | .makeInterface t x=>Ym P o.type (Instr.makeInterface t (s.ev x)) w K
  | .lookup t x i ok=>Ym P o.type (Instr.lookup t (s.ev x) (s.ev i) ok) w K
  | .mapUpdate t m k x=>Xqt P (Instr.mapUpdate t (s.ev m) (s.ev k) (s.ev x)) w fun w'=>K undef w'
  | .insert t m k x=>Xqt P (Instr.mapUpdate t (s.ev m) (s.ev k) (s.ev x)) w fun w'=>K undef w'
  | .mapEntry t m k=>Ym P o.type (Instr.mapEntry t (s.ev m) (s.ev k)) w K
  | .entryStore t m st x=>Xqt P (Instr.entryStore t (s.ev m) (s.ev st) (s.ev x)) w fun w'=>K undef w'
  | .range t x=>XpM P (Instr.range t (s.ev x)) w K
  | .next it isS=>Xms P (Instr.next (s.ev it) isS o.type) w K
  | .entry it=>XpN P (Instr.entry (s.ev it)) w K
  | .call c=>
    match c.callee with
    | .value (.func f)=>Xa P f ⟨c.args.toList.map s.ev⟩ w fun v w'=>YO P o.type fun u=>v=u∧K u w'
    | .value x=>Yv P (s.ev x) (c.args.toList.map s.ev) w fun v w'=>YO P o.type fun u=>v=u∧K u w'
    | .builtin .len=>
      bif V9 P (c.argTypes.getD 0 0) then Ym P o.type (Builtin.len_ c.argTypes o.type ⟨c.args.toList.map s.ev⟩) w K
      else Vb P (execOp s.ev o) fun v=>K v w
    | .builtin .append=>Ym P o.type (Builtin.append_ c.argTypes o.type ⟨c.args.toList.map s.ev⟩) w K
    | .builtin .copy=>Ym P o.type (Builtin.copy_ c.argTypes o.type ⟨c.args.toList.map s.ev⟩) w K
    | .builtin .clear=>Ym P o.type (Builtin.clear_ c.argTypes o.type ⟨c.args.toList.map s.ev⟩) w K
    | .builtin .delete=>Ym P o.type (Builtin.delete_ c.argTypes o.type ⟨c.args.toList.map s.ev⟩) w K
    | .builtin .min=>Uh P o.type (Builtin.min_ c.argTypes o.type ⟨c.args.toList.map s.ev⟩) fun v=>K v w
    | .builtin .max=>Uh P o.type (Builtin.max_ c.argTypes o.type ⟨c.args.toList.map s.ev⟩) fun v=>K v w
    | .builtin .cap=>Uh P o.type (Builtin.cap_ c.argTypes o.type ⟨c.args.toList.map s.ev⟩) fun v=>K v w
    | .builtin .unsafeString=>Ym P o.type (Builtin.unsafeString_ c.argTypes o.type ⟨c.args.toList.map s.ev⟩) w K
    | .builtin .unsafeSliceData=>Ym P o.type (Builtin.unsafeSliceData_ c.argTypes o.type ⟨c.args.toList.map s.ev⟩) w K
    | .builtin .unsafeStringData=>Ym P o.type (Builtin.unsafeStringData_ c.argTypes o.type ⟨c.args.toList.map s.ev⟩) w K
    | .builtin .unsafeSlice=>Ym P o.type (Builtin.unsafeSlice_ c.argTypes o.type ⟨c.args.toList.map s.ev⟩) w K
    | _=>False
  | _=>False
theorem Xm {P:Program} {α β:Type} (m:Sem α) (f:α→Sem β):res P (m.bind f)=(res P m).bind fun a=>res P (f a):=by
  induction m with
  | pure a=>rfl
  | program k ih=>simp only [Sem.bind,res]; exact ih P
  | _=>rfl
theorem Jm {P:Program} {m:Sem Value} {v:Value} (h:res P m=some v):res P (do pure (.value (← m)):Sem Next)=some (.value v):=by
  show res P (m.bind fun v=>Sem.pure (Next.value v))=_
  rw [Xm,h]; rfl
theorem Ze {P:Program} {m:Sem Value} {v:Value} {w w':World} (h:m.run P w=.ok v w'):(do pure (.value (← m)):Sem Next).run P w=.ok (.value v) w':=by
  rw [Sem.run_bind,h]; rfl
theorem Xtk {P:Program} {m:Sem Unit} {w w':World} (h:m.run P w=.ok () w'):(do m; pure .skip:Sem Next).run P w=.ok .skip w':=by
  rw [Sem.run_bind,h]; rfl
theorem Zf {P:Program} {m:Sem Next} {K:Value→Prop} (h:Vb P m K):∃ v,res P m=some (.value v)∧K v:=by
  unfold Vb at h
  split at h
  · rename_i v hv; exact ⟨v,hv,h⟩
  · exact h.elim
def W1 (P:Program) (o:Oper) (s:St) (w:World) (K:VWP):Prop:=
  (∃ v w',(execOp s.ev o).run P w=.ok (.value v) w'∧K v w')∨(∃ w',(execOp s.ev o).run P w=.ok .skip w'∧K undef w') ∨
  (∃ f args w',(execOp s.ev o).run P w=.ok (.enter f args) w'∧UJ P f args w' K) ∨
  (∃ l f tmps assign body w',(execOp s.ev o).run P w=.ok (.round l f tmps assign body) w'∧RoundIn (fen none) 0 P l f tmps assign body w' fun e w'=>∃ v,e=.returned v∧K v w')
theorem Xhn {P:Program} {f:FuncId} {args:Array Value} {w:World} {K K':VWP} (hk:∀ v w,K v w→K' v w) (h:UJ P f args w K):UJ P f args w K':=
  Calls.mono h fun _ _ ⟨v,he,hv⟩=>⟨v,he,hk _ _ hv⟩
theorem XoL {P:Program} {l:Nat} {args:Array Value} {w:World} {K K':VWP} (hk:∀ v w,K v w→K' v w) (h:Qi P l args w K):Qi P l args w K':=by
  obtain ⟨f,tmps,assign,body,w₁,h1,h2⟩:=h
  exact ⟨f,tmps,assign,body,w₁,h1,h2.mono fun _ _ ⟨v,he,hv⟩=>⟨v,he,hk _ _ hv⟩⟩
theorem XoM {P:Program} {f:FuncId} {args:Array Value} {w:World} {K K':VWP} (hk:∀ v w,K v w→K' v w) (h:XdA P f args w K):XdA P f args w K':=by
  rcases h with ⟨h1,h2⟩ | ⟨v,w',h1,h2⟩
  · exact .inl ⟨h1,Xhn hk h2⟩
  · exact .inr ⟨v,w',h1,hk _ _ h2⟩
theorem XbQ {P:Program} {f:FuncId} {args:Array Value} {w:World} {K K':VWP} (hk:∀ v w,K v w→K' v w) (h:Xa P f args w K):Xa P f args w K':=by
  obtain ⟨R,hR,h⟩:=h
  exact ⟨R,fun v w h=>hk _ _ (hR _ _ h),h⟩
theorem XkA {P:Program} {f:FuncId} {args:Array Value} {w:World} {K:VWP} (h:Xa P f args w K):XdA P f args w K:=by
  obtain ⟨R,hR,h⟩:=h
  exact XoM hR h
theorem Xmt {P:Program} {f:FuncId} {args:Array Value} {w:World} {K:VWP} (h:XdA P f args w K):Xa P f args w K:=⟨K,fun _ _ h=>h,h⟩
theorem XoN {P:Program} {f:Value} {args:List Value} {w:World} {K K':VWP} (hk:∀ v w,K v w→K' v w) (h:V8 P f args w K):V8 P f args w K':=by
  cases f with
  | func fn first cap=>
    cases fn with
    | func g=>exact XbQ hk h
    | yield l=>exact XoL hk h
    | _=>obtain ⟨g,as,h1,h2⟩:=h; exact ⟨g,as,h1,Xhn hk h2⟩
  | _=>exact h
theorem W2 {P:Program} {f:Value} {args:List Value} {w:World} {K K':VWP} (hk:∀ v w,K v w→K' v w) (h:Yv P f args w K):Yv P f args w K':=by
  obtain ⟨R,hR,h⟩:=h
  exact ⟨R,fun v w h=>hk _ _ (hR _ _ h),h⟩
theorem XdB {P:Program} {f:Value} {args:List Value} {w:World} {K:VWP} (h:Yv P f args w K):V8 P f args w K:=by
  obtain ⟨R,hR,h⟩:=h
  exact XoN hR h
theorem Js {P:Program} {f:Value} {args:List Value} {w:World} {K:VWP} (h:V8 P f args w K):Yv P f args w K:=⟨K,fun _ _ h=>h,h⟩
theorem Q9 {ρ:Operand→Value} {dst:Option Tmp} {c:Call} {ty:TypeId} {pos:String} {after:Array Edge} {guard:Option (Nat×Bool)} :
    execOp ρ { dst,op:=.call c,type:=ty,pos,after,guard }=(do let d ← resolve ρ c ty; invoke d.target d.args):=rfl
theorem Qk {P:Program} {ρ:Operand→Value} {x:Operand} {args:Array Operand} {ats:Array TypeId} {dst:Option Tmp} {ty:TypeId} {pos:String} {after:Array Edge}
    {guard:Option (Nat×Bool)} {fn:Fn} {first cap:Array Value} (hx:ρ x=.func fn first cap) (w:World) :
    (execOp ρ { dst,op:=.call { callee:=.value x,args:=args,argTypes:=ats },type:=ty,pos,after,guard }).run P w =
      (invoke (.fn fn cap) ⟨first.toList++args.toList.map ρ⟩).run P w:=by
  have e:(first++args.map ρ:Array Value)=⟨first.toList++args.toList.map ρ⟩:=by
    apply Array.toList_inj.1; simp
  rw [Q9,← e]
  simp only [resolve,hx,Deferred.ofValue]
  rfl
theorem Xgn {P:Program} {o:Oper} {s:St} {w:World} {K:VWP} (h:X5 P o s w K):W1 P o s w K:=by
  obtain ⟨dst,op,ty,pos,after,guard⟩:=o
  have pd:∀ {m:Sem Next},execOp s.ev ⟨dst,op,ty,pos,after,guard⟩=m→Vb P m (fun v=>K v w)→W1 P ⟨dst,op,ty,pos,after,guard⟩ s w K:=by
    rintro m rfl h
    obtain ⟨v,hv,hk⟩:=Zf h
    exact .inl ⟨v,w,Xx hv w,hk⟩
  have pe:∀ {m:Sem Value} {t:TypeId},execOp s.ev ⟨dst,op,ty,pos,after,guard⟩=(do pure (.value (← m)))→Uh P t m (fun v=>K v w)→W1 P ⟨dst,op,ty,pos,after,guard⟩ s w K:=by
    rintro m t e h
    obtain ⟨v,hv,hk⟩:=X1 h
    exact .inl ⟨v,w,by rw [e]; exact Xx (Jm hv) w,hk⟩
  have ef:∀ {m:Sem Value} {t:TypeId},execOp s.ev ⟨dst,op,ty,pos,after,guard⟩=(do pure (.value (← m)))→Ym P t m w K→W1 P ⟨dst,op,ty,pos,after,guard⟩ s w K:=by
    rintro m t e h
    obtain ⟨v,w',hv,hk⟩:=X1 h
    exact .inl ⟨v,w',by rw [e]; exact Ze hv,hk⟩
  have eu:∀ {m:Sem Unit},execOp s.ev ⟨dst,op,ty,pos,after,guard⟩=(do m; pure .skip)→Xqt P m w (fun w'=>K undef w')→W1 P ⟨dst,op,ty,pos,after,guard⟩ s w K:=by
    rintro m e ⟨w',hv,hk⟩
    exact .inr (.inl ⟨w',by rw [e]; exact Xtk hv,hk⟩)
  cases op with
  | move x=>exact .inl ⟨_,_,rfl,h⟩
  | assign x=>exact .inl ⟨_,_,rfl,h⟩
  | pick c a b=>
    simp only [X5] at h
    split at h
    · rename_i t hc
      refine .inl ⟨_,_,?_,h⟩
      simp only [execOp,hc]
      cases t <;> rfl
    · exact h.elim
  | extract=>exact pd rfl h
  | build t ps=>
    simp only [X5] at h
    cases hb:Uy P t ps <;> rw [hb] at h
    · refine pe (m:=Instr.build t ⟨ps.toList.map fun (p:Nat×Operand)=>(p.1,s.ev p.2)⟩) (t:=t) ?_ h
      have e:(ps.map fun (i,x)=>(i,s.ev x):Array (Nat×Value))=⟨ps.toList.map fun p=>(p.1,s.ev p.2)⟩:=by
        apply Array.toList_inj.1; rw [Array.toList_map]
      simp only [execOp,e]
    · exact pd rfl h
  | fieldAddr=>exact pd rfl h
  | makeFunc=>exact pd rfl h
  | unOp=>exact pd rfl h
  | nilCheck x=>
    simp only [X5,Xjq] at h
    split at h
    · rename_i p hx
      obtain ⟨a,rfl,hk⟩:=h
      exact .inl ⟨_,w,by simp only [execOp,hx]; rfl,hk⟩
    · rename_i g first cap hx
      exact .inl ⟨_,w,by simp only [execOp,hx]; rfl,h⟩
    · rename_i g first cap hx
      exact .inl ⟨_,w,by simp only [execOp,hx]; rfl,h⟩
    · exact h.elim
  | indexAddr t x i=>
    obtain ⟨a,hr,hk⟩:=h
    exact .inl ⟨_,w,Xx (Jm hr) w,hk⟩
  | index=>exact pe rfl h
  | slice=>exact pe rfl h
  | sliceToArrayPointer=>
    obtain ⟨p,hr,hk⟩:=h
    exact .inl ⟨_,w,Xx (Jm hr) w,hk⟩
  | field t x i=>
    simp only [X5] at h
    cases hb:Qj P t <;> rw [hb] at h
    · exact pe rfl h
    · exact pd rfl h
  | binOp bo t x y yt=>
    simp only [X5] at h
    cases hb:U2 P bo t y <;> rw [hb] at h
    · cases hi:XO P t <;> rw [hi] at h
      · exact ef rfl h
      · exact pe rfl h
    · exact pd rfl h
  | convert src dst' x=>
    simp only [X5] at h
    cases hb:XO P src && XO P dst' <;> rw [hb] at h
    · exact ef rfl h
    · exact pd rfl h
  | load t x=>
    have h':Xqs P t (s.ev x) w fun v=>K v w:=h
    unfold Xqs at h'
    obtain ⟨v,hv,hk⟩:=X1 h'
    exact .inl ⟨v,w,Ze hv,hk⟩
  | store t x v=>exact eu rfl h
  | alloc t=>
    obtain ⟨z,hz,hk⟩:=h
    refine .inl ⟨_,_,?_,hk⟩
    have hz':=Xx hz w
    have:(Instr.alloc t true (.tuple #[])).run P w=.ok (.pointer (some ⟨w.heap.size,0,none⟩)) (w.alloc (.cells z.cells t)):=by
      unfold Instr.alloc
      rw [Sem.run_bind,hz']; rfl
    exact Ze this
  | box t x=>exact .inl ⟨_,_,rfl,h⟩
  | buildSlice t n ps=>
    refine ef (m:=Instr.buildSlice t n ⟨ps.toList.map fun (p:Nat×Operand)=>(p.1,s.ev p.2)⟩) (t:=ty) ?_ h
    have e:(ps.map fun (i,x)=>(i,s.ev x):Array (Nat×Value))=⟨ps.toList.map fun p=>(p.1,s.ev p.2)⟩:=by
      apply Array.toList_inj.1; rw [Array.toList_map]
    simp only [execOp,e]
  | makeSlice=>exact ef rfl h
  | makeMap=>exact ef rfl h
  | makeInterface=>exact ef rfl h
  | lookup=>exact ef rfl h
  | mapUpdate=>exact eu rfl h
  | insert=>exact eu rfl h
  | mapEntry=>exact ef rfl h
  | entryStore=>exact eu rfl h
  | range=>obtain ⟨a,w',hv,hk⟩:=h; exact .inl ⟨_,w',Ze hv,hk⟩
  | next=>obtain ⟨b,r,w',hv,hk⟩:=h; exact .inl ⟨_,w',Ze hv,hk⟩
  | entry=>obtain ⟨k,v,w',hv,hk⟩:=h; exact .inl ⟨_,w',Ze hv,hk⟩
  | call c=>
    obtain ⟨callee,args,ats⟩:=c
    have eargs:(args.map s.ev:Array Value)=⟨args.toList.map s.ev⟩:=by apply Array.toList_inj.1; simp
    have ofV:∀ {x:Operand},callee=.value x→Yv P (s.ev x) (args.toList.map s.ev) w K→W1 P ⟨dst,.call ⟨callee,args,ats⟩,ty,pos,after,guard⟩ s w K:=by
      rintro x rfl h
      have h:=XdB h
      unfold V8 at h
      split at h
      · rename_i g first cap hx
        have e0:=Qk (P:=P) (args:=args) (ats:=ats) (dst:=dst) (ty:=ty) (pos:=pos) (after:=after) (guard:=guard) hx w
        have e1:invoke (.fn (.func g) cap) ⟨first.toList++args.toList.map s.ev⟩=callFunc g ⟨first.toList++args.toList.map s.ev++cap.toList⟩:=by
          have e2:((⟨first.toList++args.toList.map s.ev⟩:Array Value)++cap)=⟨first.toList++args.toList.map s.ev++cap.toList⟩:=by
            apply Array.toList_inj.1; simp
          rw [← e2]; rfl
        rw [e1] at e0
        rcases XkA h with ⟨h1,h2⟩ | ⟨v,w',h1,h2⟩
        · exact .inr (.inr (.inl ⟨_,_,_,e0.trans h1,h2⟩))
        · exact .inl ⟨_,_,e0.trans h1,h2⟩
      · rename_i l first cap hx
        have e0:=Qk (P:=P) (args:=args) (ats:=ats) (dst:=dst) (ty:=ty) (pos:=pos) (after:=after) (guard:=guard) hx w
        obtain ⟨f,tmps,assign,body,w₁,h1,h2⟩:=h
        exact .inr (.inr (.inr ⟨l,f,tmps,assign,body,w₁,e0.trans h1,h2⟩))
      · rename_i fn first cap _ _ hx
        have e0:=Qk (P:=P) (args:=args) (ats:=ats) (dst:=dst) (ty:=ty) (pos:=pos) (after:=after) (guard:=guard) hx w
        obtain ⟨g,as,h1,h2⟩:=h
        exact .inr (.inr (.inl ⟨_,_,_,e0.trans h1,h2⟩))
      · exact h.elim
    have ofB : ∀ {b : Builtin} {m : Array TypeId → TypeId → Array Value → Sem Value}, callee = .builtin b →
        (∀ consts as,builtin b ats ty consts as=(do pure (.value (← m ats ty as))))→
        Ym P ty (m ats ty ⟨args.toList.map s.ev⟩) w K→W1 P ⟨dst,.call ⟨callee,args,ats⟩,ty,pos,after,guard⟩ s w K:=by
      rintro b m rfl hb h
      obtain ⟨v,w',hv,hk⟩:=X1 h
      refine .inl ⟨v,w',?_,hk⟩
      rw [Q9]
      simp only [resolve,eargs]
      exact (congrArg (fun (z:Sem Next)=>z.run P w) (hb _ _)).trans (Ze hv)
    have ofP : ∀ {b : Builtin} {m : Array TypeId → TypeId → Array Value → Sem Value}, callee = .builtin b →
        (∀ consts as,builtin b ats ty consts as=(do pure (.value (← m ats ty as))))→
        Uh P ty (m ats ty ⟨args.toList.map s.ev⟩) (fun v=>K v w)→W1 P ⟨dst,.call ⟨callee,args,ats⟩,ty,pos,after,guard⟩ s w K:=by
      rintro b m rfl hb h
      obtain ⟨v,hv,hk⟩:=X1 h
      refine .inl ⟨v,w,?_,hk⟩
      rw [Q9]
      simp only [resolve,eargs]
      exact (congrArg (fun (z:Sem Next)=>z.run P w) (hb _ _)).trans (Ze (Xx hv w))
    cases callee with
    | value x=>
      have hx:Yv P (s.ev x) (args.toList.map s.ev) w K:=by
        cases x with
        | func f=>
          refine Js ?_
          have e0:V8 P (s.ev (.func f)) (args.toList.map s.ev) w K=Xa P f ⟨[]++args.toList.map s.ev++[]⟩ w K:=rfl
          rw [e0,List.nil_append,List.append_nil]
          exact XbQ (K:=fun v w'=>YO P ty fun u=>v=u∧K u w') (fun v w' h=>by obtain ⟨u,rfl,hk⟩:=X1 h; exact hk) h
        | tmp t=>exact W2 (K:=fun v w'=>YO P ty fun u=>v=u∧K u w') (fun v w' h=>by obtain ⟨u,rfl,hk⟩:=X1 h; exact hk) h
        | const c=>exact W2 (K:=fun v w'=>YO P ty fun u=>v=u∧K u w') (fun v w' h=>by obtain ⟨u,rfl,hk⟩:=X1 h; exact hk) h
        | global g=>exact W2 (K:=fun v w'=>YO P ty fun u=>v=u∧K u w') (fun v w' h=>by obtain ⟨u,rfl,hk⟩:=X1 h; exact hk) h
      exact ofV rfl hx
    | invoke=>exact h.elim
    | builtin b=>
      cases b with
      | len=>
        simp only [X5] at h
        cases hb:V9 P (ats.getD 0 0) <;> rw [hb] at h
        · exact pd rfl h
        · exact ofB rfl (fun _ _=>rfl) h
      | append=>exact ofB rfl (fun _ _=>rfl) h
      | copy=>exact ofB rfl (fun _ _=>rfl) h
      | clear=>exact ofB rfl (fun _ _=>rfl) h
      | delete=>exact ofB rfl (fun _ _=>rfl) h
      | min=>exact ofP rfl (fun _ _=>rfl) h
      | max=>exact ofP rfl (fun _ _=>rfl) h
      | cap=>exact ofP rfl (fun _ _=>rfl) h
      | unsafeString=>exact ofB rfl (fun _ _=>rfl) h
      | unsafeSliceData=>exact ofB rfl (fun _ _=>rfl) h
      | unsafeStringData=>exact ofB rfl (fun _ _=>rfl) h
      | unsafeSlice=>exact ofB rfl (fun _ _=>rfl) h
      | _=>exact h.elim
  | _=>exact h.elim
end Go.Fw
end

section
namespace Go.Fw
open Go
abbrev KS:=Exit→St→World→Prop
def put (nt:Nat) (dst:Option Tmp) (v:Value) (s:St) (K:St→Prop):Prop:=
  match dst with
  | none=>K s
  | some d=>bif Nat.blt d nt then K (s.up d v) else False
def gK (b want:Bool) (A B:Prop):Prop:=match want with | true=>cond b A B | false=>cond b B A
def UK (P:Program) (nt:Nat) (df:Bool) (o:Oper) (s:St) (w:World) (next:St→World→Prop):Prop:=
  match o.op with
  | .defer c=>
    match c.callee with
    | .value (.func f)=>bif df then put nt o.dst undef ⟨s.r,{ target:=.fn (.func f) #[],args:=⟨c.args.toList.map s.ev⟩ }::s.ds⟩ fun s'=>next s' w else False
    | _=>False
  | _=>X5 P o s w fun v w'=>put nt o.dst v s fun s'=>next s' w'
def XQ (P:Program) (nt:Nat) (df:Bool) (all:Array Oper):List Oper→St→World→(St→World→Prop)→Prop
  | [],s,w,K=>K s w
  | o::rest,s,w,K=>
    match o.guard with
    | none=>UK P nt df o s w fun s' w'=>XQ P nt df all rest s' w' K
    | some (j,want)=>
      match (all[j]?).bind (·.dst) with
      | none=>put nt o.dst undef s fun s'=>XQ P nt df all rest s' w K
      | some d=>
        match s.r d with
        | .bool b=>
          gK b want
            (UK P nt df o (s.up d (.bool want)) w fun s' w'=>XQ P nt df all rest s' w' K)
            (put nt o.dst undef (s.up d (.bool (!want))) fun s'=>XQ P nt df all rest s' w K)
        | .tuple _=>put nt o.dst undef s fun s'=>XQ P nt df all rest s' w K
        | _=>False
def XP (P:Program) (o:Oper):Bool:=
  match o.op with
  | .move _ | .assign _ | .pick .. | .extract .. | .build .. | .fieldAddr .. | .makeFunc .. | .unOp .. | .nilCheck _ | .indexAddr .. | .index .. | .slice .. | .sliceToArrayPointer .. | .field ..=>true
  | .binOp op t _ y _=>U2 P op t y || XO P t
  | .convert src dst _=>XO P src && XO P dst
  | .call { callee:=.builtin .len,argTypes:=ats,.. }=>!V9 P (ats.getD 0 0)
  | .call { callee:=.builtin .min,.. } | .call { callee:=.builtin .max,.. } | .call { callee:=.builtin .cap,.. }=>true
  | _=>false
def Xa6 (ops:Array Oper):Bool:=ops.toList.all fun o=>match o.op with | .defer _=>false | .select ..=>false | _=>true
def XdC (P:Program) (ops:Array Oper):List Nat→Array Bool→Bool
  | [],listed=>(Region.ready .any ops listed).isEmpty
  | i::l,listed=>
    (match ops[i]? with
      | some o=>(XP P o && Region.free .any ops listed i && (Region.ready .any ops listed).contains i) || Region.ready .any ops listed == [i]
      | none=>false) && XdC P ops l (listed.setIfInBounds i true)
def Xa7 (P:Program) (ops:Array Oper) (listed:Array Bool):Option Nat:=
  match (Region.ready .any ops listed).find? fun i=>match ops[i]? with | some o=>XP P o && Region.free .any ops listed i | none=>false with
  | some i=>some i
  | none=>match Region.ready .any ops listed with | [i]=>some i | _=>none
def Xmu (P:Program) (ops:Array Oper):Nat→Array Bool→List Nat
  | 0,_=>[]
  | n+1,listed=>match Xa7 P ops listed with | some i=>i::Xmu P ops n (listed.setIfInBounds i true) | none=>[]
def Xmv (P:Program) (ops:Array Oper):List Nat:=Xmu P ops ops.size (Array.replicate ops.size false)
def Xjr (P:Program) (ops:Array Oper):Bool:=
  XdC P ops (Xmv P ops) (Array.replicate ops.size false) && Xa6 ops && P.follows .mixedOrders && Nat.beq (Xmv P ops).length ops.size
def Z8 (o:Oper):Bool:=match o.op with | .load ..=>true | _=>false
def V0 (ops:Array Oper):Nat→Nat→Nat→Bool
  | 0,_,_=>false
  | n+1,j,i=>match ops[j]? with | some o=>o.after.toList.any fun e=>Region.binds .any e && (e.on == i || V0 ops n e.on i) | none=>false
def Z9 (ops:Array Oper) (held:List Nat) (j:Nat):Bool:=held.any fun i=>i != j && !V0 ops ops.size j i
def YB (P:Program) (ops:Array Oper) (listed:Array Bool):Option (Nat×Bool):=
  match Xa7 P ops listed with
  | some i=>some (i,false)
  | none=>
    match (Region.ready .any ops listed).find? fun i=>match ops[i]? with | some o=>Z8 o && Region.free .any ops listed i | none=>false with
    | some i=>some (i,true)
    | none=>none
def XkB (P:Program) (ops:Array Oper):Nat→Array Bool→List (Nat×Bool)
  | 0,_=>[]
  | n+1,listed=>match YB P ops listed with | some (i,h)=>(i,h)::XkB P ops n (listed.setIfInBounds i true) | none=>[]
def XbR (P:Program) (ops:Array Oper):List (Nat×Bool):=XkB P ops ops.size (Array.replicate ops.size false)
def XrM (l:List (Nat×Bool)):List Nat:=(l.filter fun p=>p.2).map fun p=>p.1
def Xa8 (P:Program) (ops:Array Oper) (held:List Nat):List (Nat×Bool)→Array Bool→Bool
  | [],listed=>(Region.ready .any ops listed).isEmpty
  | (i,h)::l,listed=>
    (match ops[i]? with
      | some o=>
        bif h then Z8 o && held.contains i && Region.free .any ops listed i && (Region.ready .any ops listed).contains i
        else bif XP P o then Region.free .any ops listed i && (Region.ready .any ops listed).contains i else Region.ready .any ops listed == [i]
      | none=>false) && Xa8 P ops held l (listed.setIfInBounds i true)
def Xgo (P:Program) (ops:Array Oper):Bool:=
  Xa8 P ops (XrM (XbR P ops)) (XbR P ops) (Array.replicate ops.size false) && Xa6 ops && P.follows .mixedOrders && Nat.beq (XbR P ops).length ops.size
def HLd (P:Program) (S:World→Prop) (t:TypeId) (x:Value) (w:World) (u:Value):Prop:=S w∧∀ w',S w'→Ld P t x w' u
def Xl9 (P:Program) (S:World→Prop) (o:Oper) (s:St) (w:World) (K:VWP):Prop:=
  match o.op with
  | .load t x=>YO P t fun u=>HLd P S t (s.ev x) w u∧K u w
  | _=>False
def Wa (P:Program) (ops:Array Oper) (held:List Nat) (S:World→Prop) (i:Nat) (o:Oper) (w w':World) (A:Prop):Prop:=
  bif XP P o then A else bif Z9 ops held i then (w'=w∨S w')∧A else A
def Zv (P:Program) (nt:Nat) (all:Array Oper) (held:List Nat) (S:World→Prop) (i:Nat) (h:Bool) (o:Oper) (s:St) (w:World) (next:St→World→Prop):Prop:=
  bif h then Xl9 P S o s w fun v w'=>put nt o.dst v s fun s'=>next s' w'
  else X5 P o s w fun v w'=>Wa P all held S i o w w' (put nt o.dst v s fun s'=>next s' w')
def XbS (ops:Array Oper) (held:List Nat) (j:Nat):Bool:=
  (match ops[j]? with | some o=>(match o.op with | .call { callee:=.builtin _,.. }=>false | .call _=>true | _=>false) | none=>false) && held.any fun i=>V0 ops ops.size i j
def Ql (c:Bool) (S:World→Prop) (F:(World→Prop)→Prop):Prop:=bif c then ∃ S':World→Prop,(∀ v,S' v→S v)∧F S' else F S
def YH (P:Program) (nt:Nat) (all:Array Oper) (held:List Nat):(World→Prop)→List (Nat×Bool)→St→World→(St→World→Prop)→Prop
  | _,[],s,w,K=>K s w
  | S,(i,h)::rest,s,w,K=>
    match all[i]? with
    | none=>False
    | some o=>
      match o.guard with
      | none=>Zv P nt all held S i h o s w fun s' w'=>Ql (XbS all held i) S fun S'=>YH P nt all held S' rest s' w' K
      | some (j,want)=>
        match (all[j]?).bind (·.dst) with
        | none=>put nt o.dst undef s fun s'=>YH P nt all held S rest s' w K
        | some d=>
          match s.r d with
          | .bool b=>
            gK b want (Zv P nt all held S i h o (s.up d (.bool want)) w fun s' w'=>Ql (XbS all held i) S fun S'=>YH P nt all held S' rest s' w' K)
              (put nt o.dst undef (s.up d (.bool (!want))) fun s'=>YH P nt all held S rest s' w K)
          | .tuple _=>put nt o.dst undef s fun s'=>YH P nt all held S rest s' w K
          | _=>False
def XbT (P:Program) (nt:Nat) (all:Array Oper) (held:List Nat) (S:World→Prop) (i:Nat) (h:Bool) (o:Oper) (s:St) (w:World) (next:St→World→Prop):Prop:=
  match o.guard with
  | none=>Zv P nt all held S i h o s w next
  | some (j,want)=>
    match (all[j]?).bind (·.dst) with
    | none=>put nt o.dst undef s fun s'=>next s' w
    | some d=>
      match s.r d with
      | .bool b=>gK b want (Zv P nt all held S i h o (s.up d (.bool want)) w next) (put nt o.dst undef (s.up d (.bool (!want))) fun s'=>next s' w)
      | .tuple _=>put nt o.dst undef s fun s'=>next s' w
      | _=>False
def Xe1:List Nat→(Nat→Prop)→Prop
  | [],_=>True
  | i::l,f=>match l with | []=>f i | _::_=>f i∧Xe1 l f
theorem XfO {f:Nat→Prop}:∀ {l:List Nat},Xe1 l f→∀ i∈l,f i
  | [],_,i,h=>by cases h
  | [a],h,i,hi=>by simp at hi; subst hi; exact h
  | a::b::l,h,i,hi=>by
    rcases List.mem_cons.1 hi with rfl | hi
    · exact h.1
    · exact XfO (l:=b::l) h.2 i hi
def XU (P:Program) (nt:Nat) (all:Array Oper) (held:List Nat) (S:World→Prop):Nat→Array Bool→St→World→(St→World→Prop)→Prop
  | 0,listed,s,w,K=>bif (Region.ready .any all listed).isEmpty then K s w else False
  | n+1,listed,s,w,K=>
    match YB P all listed with
    | some (i,h)=>
      match all[i]? with
      | some o=>bif !h || held.contains i then XbT P nt all held S i h o s w fun s' w'=>XU P nt all held S n (listed.setIfInBounds i true) s' w' K else False
      | none=>False
    | none=>
      match Region.ready .any all listed with
      | []=>K s w
      | i::l=>Xe1 (i::l) fun i=>
        match all[i]? with
        | some o=>XbT P nt all held S i false o s w fun s' w'=>XU P nt all held S n (listed.setIfInBounds i true) s' w' K
        | none=>False
def Vc (P:Program) (ops:Array Oper):Bool:=Xa6 ops && P.follows .mixedOrders
def U3 (P:Program) (ops:Array Oper):Nat→Array Bool→List Nat
  | 0,_=>[]
  | n+1,listed=>
    match YB P ops listed with
    | some (i,h)=>bif h then i::U3 P ops n (listed.setIfInBounds i true) else U3 P ops n (listed.setIfInBounds i true)
    | none=>
      match Region.ready .any ops listed with
      | []=>[]
      | i::_=>U3 P ops n (listed.setIfInBounds i true)
def Xma (P:Program) (ops:Array Oper):List Nat:=U3 P ops ops.size (Array.replicate ops.size false)
def Zi (ops:Array Oper) (l:List Nat):List Oper:=l.filterMap fun i=>ops[i]?
def Xmb (N:St→World→Prop) (K:KS):KS
  | .normal,s,w=>N s w
  | .exit i,s,w=>K (.exit i) s w
  | .ret,s,w=>K .ret s w
  | .goto l,s,w=>K (.goto l) s w
  | _,_,_=>False
def XdD (id:Nat) (K:KS):KS
  | .normal,s,w=>K .normal s w
  | .exit i,s,w=>bif Nat.beq i id then K .normal s w else K (.exit i) s w
  | .ret,s,w=>K .ret s w
  | .goto l,s,w=>K (.goto l) s w
  | _,_,_=>False
def Ui:List (Nat×TypeId)→List Value→(Nat→Value)→Nat→Value
  | (d,_)::l,v::vs,r,t=>bif Nat.beq t d then v else Ui l vs r t
  | _,_,r,t=>r t
abbrev Inv:=List Value→World→Prop
abbrev J1:=List Value→World→Nat
def LoopS (vs:List Value) (w:World) (step:Inv→J1→List Value→(Nat→Value)→World→Prop):Prop:=
  ∃ (I:Inv) (μ:J1),I vs w∧∀ us r w,I us w→step I μ us r w
def Xj (ds ds':List Deferred) (I:Inv) (μ:J1) (us us':List Value) (w w':World):Prop:=ds'=ds∧I us' w'∧μ us' w' < μ us w
def Xmw (P:Program) (t:TypeId) (K:Value→Prop):Prop:=bif Nat.beq t 1000000 then ∃ a,K (.pointer (some a)) else YO P t K
def VI (P:Program):List TypeId→(List Value→Prop)→Prop
  | [],K=>K []
  | t::ts,K=>Xmw P t fun v=>VI P ts fun vs=>K (v::vs)
theorem XdE {P:Program} {ts:List TypeId} {K:List Value→Prop} (h:VI P ts K):∃ vs,K vs:=by
  induction ts generalizing K with
  | nil=>exact ⟨[],h⟩
  | cons t ts ih=>
    have:∃ v,VI P ts fun vs=>K (v::vs):=by
      unfold VI Xmw at h
      cases hb:Nat.beq t 1000000 <;> rw [hb] at h
      · exact X1 h
      · obtain ⟨a,h⟩:=h; exact ⟨_,h⟩
    obtain ⟨v,h⟩:=this
    obtain ⟨vs,h⟩:=ih h
    exact ⟨_,h⟩
def Xqu (P:Program) (live:List (Nat×TypeId)) (step:KS→St→World→Prop) (K:KS) (s:St) (w:World):Prop:=
  LoopS (live.map fun p=>s.r p.1) w fun I μ us r w=>
    VI P (live.map fun p=>p.2) fun vs=>us=vs∧
      step (Xmb (fun s' w'=>Xj s.ds s'.ds I μ us (live.map fun p=>s'.r p.1) w w') K) ⟨Ui live vs r,s.ds⟩ w
theorem XdF (r:Nat→Value):∀ (live:List (Nat×TypeId)),Ui live (live.map fun p=>r p.1) r=r:=by
  intro live
  induction live with
  | nil=>rfl
  | cons p l ih=>
    funext t
    show (bif Nat.beq t p.1 then r p.1 else Ui l (l.map fun p=>r p.1) r t)=r t
    rw [ih]
    cases hb:Nat.beq t p.1 with
    | false=>rfl
    | true=>rw [Nat.eq_of_beq_eq_true hb]; rfl
def St.tmps (s:St) (nt:Nat):Array Value:=((List.range nt).map s.r).toArray
def YL (fn:FuncId) (tmps:Array Value) (ps:Array Tmp) (assign body:Code) (df:Nat):Loop:=
  { state:=.ready,pending:=none,fn,tmps,params:=ps,assign,body,defers:=df }
def Xmx (P:Program) (l:Nat) (s:St) (K:KS) (w:World):Prop:=
  ∃ jump w',(Instr.endLoop l).run P w=.ok jump w'∧
    match jump with
    | none=>K .normal s w'
    | some .ret=>K .ret s w'
    | _=>False
def Xa9 (P:Program) (ro:Option Nat) (nt:Nat) (g:Value) (ps:Array Tmp) (assign body:Code) (s:St) (w:World) (K:KS):Prop:=
  match ro with
  | none=>∃ gf first cap,g=.func (.func gf) first cap∧
    (∀ args w,(callFunc gf args).run P w=.ok (.enter gf args) w)∧
    ∀ fn:FuncId,UJ P gf ⟨first.toList++[.func (.yield (w.heap.size+1)) #[] #[]]++cap.toList⟩
      ((w.alloc (.deferred (some []))).alloc (.loop (YL fn (s.tmps nt) ps assign body w.heap.size)))
      fun _ w'=>Xmx P (w.heap.size+1) ⟨s.r,{ target:=.collected w.heap.size,args:=#[] }::s.ds⟩ K w'
  | some _=>False
def sw (P:Program) (ro:Option Nat) (nt:Nat) (tt:Nat→List (Nat×TypeId)):Code→Nat→KS→St→World→Prop
  | .skip,_,K,s,w=>K .normal s w
  | .region _ ops draw,_,K,s,w=>
    match draw with
    | false=>XQ P nt ro.isNone ops ops.toList s w fun s w=>K .normal s w
    | true=>
      bif Xjr P ops then XQ P nt false ops (Zi ops (Xmv P ops)) s w.drew fun s w=>K .normal s w
      else bif Xgo P ops then ∃ S:World→Prop,YH P nt ops (XrM (XbR P ops)) S (XbR P ops) s w.drew fun s w=>K .normal s w
      else bif Vc P ops then ∃ S:World→Prop,XU P nt ops (Xma P ops) S ops.size (Array.replicate ops.size false) s w.drew fun s w=>K .normal s w
      else False
  | .seq a b,n,K,s,w=>sw P ro nt tt a n (Xmb (fun s w=>sw P ro nt tt b n K s w) K) s w
  | .cond c t e,n,K,s,w=>match s.ev c with | .bool b=>cond b (sw P ro nt tt t n K s w) (sw P ro nt tt e n K s w) | _=>False
  | .block id b,_,K,s,w=>sw P ro nt tt b id (XdD id K) s w
  | .loop b,n,K,s,w=>Xqu P (tt n) (fun K s w=>sw P ro nt tt b n K s w) K s w
  | .exit id,_,K,s,w=>K (.exit id) s w
  | .ret,_,K,s,w=>K .ret s w
  | .rangeFunc g ps assign body,_,K,s,w=>Xa9 P ro nt (s.ev g) ps assign body s w K
  | _,_,_,_,_=>False
def post (nt:Nat) (K:KS):Exit→Act→World→Prop
  | .panic _,_,_=>False
  | .outgrown,_,_=>False
  | e,a,w=>∃ s,Rep nt a s∧K e s w
theorem Xgp {P:Program} {ro:Option Nat} {o:Oper} {nt:Nat} {a:Act} {s:St} {w:World} {K:VWP} {next:Act→World→Prop} {Q:Exit→Act→World→Prop}
    (hrep:Rep nt a s) (hd:∀ c,o.op≠.defer c) (h:W1 P o s w K) (hk:∀ v w',K v w'→next (a.put o.dst v) w'):o.wpIn (fen ro) 0 P a w next Q:=by
  refine ⟨fun f _=>trivial,?_⟩
  have hs:o.semAt (fen ro).round a.eval=execOp s.ev o:=by rw [Oper.semAt_eq _ _ _ hd,hrep.eval]
  rw [hs]
  rcases h with ⟨v,w',hr,h⟩ | ⟨w',hr,h⟩ | ⟨f,args,w',hr,h⟩ | ⟨l,f,tmps,assign,body,w',hr,h⟩
  · rw [hr]; exact hk _ _ h
  · rw [hr]; exact hk _ _ h
  · rw [hr]
    refine ⟨fun h=>by simp [fen] at h,?_⟩
    have h2:CallsIn (fen none) 0 P f args w' fun e w'=>∃ v,e=.returned v∧K v w':=callsIn_wide.2 h
    have h3:CallsIn (fen ro) 0 P f args w' fun e w'=>∃ v,e=.returned v∧K v w':=by
      cases ro with
      | none=>exact h2
      | some l=>exact h2
    refine h3.mono ?_
    rintro e w'' ⟨v,rfl,hv⟩
    exact hk _ _ hv
  · rw [hr]
    refine ⟨fun h=>by simp [fen] at h,?_⟩
    have h3:RoundIn (fen ro) 0 P l f tmps assign body w' fun e w'=>∃ v,e=.returned v∧K v w':=by
      cases ro with
      | none=>exact h
      | some l=>exact h
    refine h3.mono ?_
    rintro e w'' ⟨v,rfl,hv⟩
    exact hk _ _ hv
theorem Qm {P:Program} {o:Oper} {s:St} {w:World} {K:VWP} (h:X5 P o s w K):∀ c,o.op≠.defer c:=by
  intro c hc
  simp only [X5,hc] at h
theorem XW {nt:Nat} {dst:Option Tmp} {v:Value} {a:Act} {s:St} {K:St→Prop} (hrep:Rep nt a s) (h:put nt dst v s K):∃ s',Rep nt (a.put dst v) s'∧K s':=by
  cases dst with
  | none=>exact ⟨s,hrep,h⟩
  | some d=>
    simp only [put] at h
    cases hb:Nat.blt d nt <;> rw [hb] at h
    · exact h.elim
    · exact ⟨_,hrep.up (Nat.le_of_ble_eq_true (show Nat.ble (d+1) nt=true from hb)) v,h⟩
theorem Vd {ops:Array Oper} {nt:Nat} {a:Act} {s:St} {j d:Nat} {b:Bool} (hrep:Rep nt a s) (hd:(ops[j]?).bind (·.dst)=some d) (hv:s.r d=.bool b) :
    yielded ops a.tmps j=some b:=by
  have h1:a.tmps.getD d undef=.bool b:=(hrep.val d).trans hv
  have h2:a.tmps[d]?=some (.bool b):=by
    rw [Array.getD_eq_getD_getElem?] at h1
    cases h:a.tmps[d]? with
    | none=>rw [h] at h1; simp [undef] at h1
    | some x=>rw [h] at h1; simpa using h1
  simp [yielded,hd,h2]
theorem UL {ops:Array Oper} {nt:Nat} {a:Act} {s:St} {j d:Nat} {vs:Array Value} (hrep:Rep nt a s) (hd:(ops[j]?).bind (·.dst)=some d) (hv:s.r d=.tuple vs) :
    yielded ops a.tmps j=none:=by
  have h1:a.tmps.getD d undef=.tuple vs:=(hrep.val d).trans hv
  rw [Array.getD_eq_getD_getElem?] at h1
  unfold yielded
  rw [hd]
  cases h:a.tmps[d]? with
  | none=>simp [h]
  | some x=>rw [h] at h1; simp at h1; subst h1; simp [h]
theorem Ve {ops:Array Oper} {tmps:Array Value} {j:Nat} (hd:(ops[j]?).bind (·.dst)=none):yielded ops tmps j=none:=by
  simp [yielded,hd]
theorem Xho {P:Program} {ro:Option Nat} {nt:Nat} {df:Bool} (hdf:df=true→ro=none) {all:Array Oper} {o:Oper} {rest:List Oper} {a:Act} {s:St} {w:World} {K:St→World→Prop}
    {next:Act→World→Prop} {Q:Exit→Act→World→Prop} (hrep:Rep nt a s) (h:XQ P nt df all (o::rest) s w K)
    (hn:∀ a' s' w',Rep nt a' s'→XQ P nt df all rest s' w' K→next a' w') :
    if Region.wanted o (yielded all a.tmps) then o.wpIn (fen ro) 0 P a w next Q
      else (∀ f,o.about P w a.eval=some f→(fen ro).fn f)∧next (a.put o.dst undef) w:=by
  simp only [XQ] at h
  have skip:∀ {s:St},Rep nt a s→put nt o.dst undef s (fun s'=>XQ P nt df all rest s' w K)→(∀ f,o.about P w a.eval=some f→(fen ro).fn f)∧next (a.put o.dst undef) w:=by
    intro s hrep h
    obtain ⟨s',hr',h'⟩:=XW hrep h
    exact ⟨fun _ _=>trivial,hn _ _ _ hr' h'⟩
  have go:∀ {s:St},Rep nt a s→UK P nt df o s w (fun s' w'=>XQ P nt df all rest s' w' K)→o.wpIn (fen ro) 0 P a w next Q:=by
    intro s hrep h
    by_cases hisd:∃ c,o.op=.defer c
    · obtain ⟨c,hc⟩:=hisd
      simp only [UK,hc] at h
      split at h
      case h_2=>exact h.elim
      rename_i f hf
      cases hd:df <;> rw [hd] at h
      · exact h.elim
      obtain rfl:=hdf hd
      have hput:put nt o.dst undef ⟨s.r,{ target:=.fn (.func f) #[],args:=⟨c.args.toList.map s.ev⟩ }::s.ds⟩ fun s'=>XQ P nt true all rest s' w K:=h
      have hr:(resolve s.ev c o.type).run P w=.ok { target:=.fn (.func f) #[],args:=⟨c.args.toList.map s.ev⟩ } w:=by
        have e:(#[]++c.args.map s.ev:Array Value)=⟨c.args.toList.map s.ev⟩:=by apply Array.toList_inj.1; simp
        simp only [resolve,hf]
        rw [← e]
        rfl
      refine ⟨fun f _=>trivial,?_⟩
      have e:o.semAt (fen none).round a.eval=(do pure (.defer (← resolve a.eval c o.type))):=by
        obtain ⟨dst,op,ty,pos,after,guard⟩:=o
        subst hc
        rfl
      have e2:(do pure (.defer (← resolve a.eval c o.type)):Sem Next).run P w=.ok (.defer { target:=.fn (.func f) #[],args:=⟨c.args.toList.map s.ev⟩ }) w:=by
        rw [hrep.eval,Sem.run_bind,hr]; rfl
      rw [e,e2]
      have hr2:Rep nt { a with defers:={ target:=.fn (.func f) #[],args:=⟨c.args.toList.map s.ev⟩ }::a.defers } ⟨s.r,{ target:=.fn (.func f) #[],args:=⟨c.args.toList.map s.ev⟩ }::s.ds⟩:=
        ⟨hrep.size,hrep.val,by rw [hrep.ds]⟩
      obtain ⟨s',hr',h'⟩:=XW hr2 hput
      exact hn _ _ _ hr' (by rw [hd]; exact h')
    have h:X5 P o s w fun v w'=>put nt o.dst v s fun s'=>XQ P nt df all rest s' w' K:=by
      unfold UK at h
      split at h
      · rename_i c hc; exact absurd ⟨c,hc⟩ hisd
      · exact h
    refine Xgp hrep (Qm h) (Xgn h) fun v w' hp=>?_
    obtain ⟨s',hr',h'⟩:=XW hrep hp
    exact hn _ _ _ hr' h'
  cases hg:o.guard with
  | none=>
    rw [hg] at h
    rw [if_pos (by simp [Region.wanted,hg])]
    exact go hrep h
  | some jw=>
    obtain ⟨j,want⟩:=jw
    rw [hg] at h
    dsimp only at h
    cases hd:(all[j]?).bind (·.dst) with
    | none=>
      rw [hd] at h
      rw [if_neg (by simp [Region.wanted,hg,Ve hd])]
      exact skip hrep h
    | some d=>
      rw [hd] at h
      dsimp only at h
      split at h
      · rename_i b hb
        have hy:=Vd hrep hd hb
        unfold gK at h
        by_cases hw:b=want
        · subst hw
          rw [if_pos (by simp [Region.wanted,hg,hy])]
          have h':UK P nt df o (s.up d (.bool b)) w fun s' w'=>XQ P nt df all rest s' w' K:=by
            cases b <;> exact h
          exact go (hrep.same hb) h'
        · have hw':(!want)=b:=by cases b <;> cases want <;> simp at hw ⊢
          rw [if_neg (by simp [Region.wanted,hg,hy,hw])]
          have h':put nt o.dst undef (s.up d (.bool (!want))) fun s'=>XQ P nt df all rest s' w K:=by
            cases b <;> cases want <;> first | exact h | simp at hw
          exact skip (hrep.same (by rw [hb,hw'])) h'
      · rename_i vs hb
        rw [if_neg (by simp [Region.wanted,hg,UL hrep hd hb])]
        exact skip hrep h
      · exact h.elim
theorem XfP {P:Program} {ro:Option Nat} {nt:Nat} {df:Bool} (hdf:df=true→ro=none) {ops:Array Oper} {K:KS}:∀ (l:List Oper) (k:Nat) (a:Act) (s:St) (w:World),(∀ j,l[j]?=ops[k+j]?)→Rep nt a s→
    XQ P nt df ops l s w (fun s w=>K .normal s w)→wpOpsIn (fen ro) 0 P ops (post nt K) (List.range' k l.length) a w:=by
  intro l
  induction l with
  | nil=>intro k a s w _ hrep h; exact ⟨s,hrep,h⟩
  | cons o rest ih=>
    intro k a s w hl hrep h
    have h0:ops[k]?=some o:=by simpa using (hl 0).symm
    simp only [List.length_cons,List.range'_succ,wpOpsIn,h0]
    exact Xho hdf hrep h fun a' s' w' hr' h'=>ih (k+1) a' s' w' (fun j=>by have:=hl (j+1); simpa [Nat.add_assoc,Nat.add_comm 1 j] using this) hr' h'
theorem Xaa {P:Program} {o:Oper} {s:St} {w:World} {K:VWP} (hp:XP P o=true) (h:X5 P o s w K):∃ v,res P (execOp s.ev o)=some (.value v)∧K v w:=by
  obtain ⟨dst,op,ty,pos,after,guard⟩:=o
  have pe:∀ {m:Sem Value} {t:TypeId},execOp s.ev ⟨dst,op,ty,pos,after,guard⟩=(do pure (.value (← m)))→Uh P t m (fun v=>K v w)→∃ v,res P (execOp s.ev ⟨dst,op,ty,pos,after,guard⟩)=some (.value v)∧K v w:=by
    rintro m t e h
    obtain ⟨v,hv,hk⟩:=X1 h
    exact ⟨v,by rw [e]; exact Jm hv,hk⟩
  cases op with
  | move x=>exact ⟨_,rfl,h⟩
  | assign x=>exact ⟨_,rfl,h⟩
  | pick c a b=>
    simp only [X5] at h
    split at h
    · rename_i t hc
      refine ⟨_,?_,h⟩
      simp only [execOp,hc]
      cases t <;> rfl
    · exact h.elim
  | extract=>exact Zf h
  | build t ps=>
    simp only [X5] at h
    cases hb:Uy P t ps <;> rw [hb] at h
    · refine pe (m:=Instr.build t ⟨ps.toList.map fun (p:Nat×Operand)=>(p.1,s.ev p.2)⟩) (t:=t) ?_ h
      have e:(ps.map fun (i,x)=>(i,s.ev x):Array (Nat×Value))=⟨ps.toList.map fun p=>(p.1,s.ev p.2)⟩:=by
        apply Array.toList_inj.1; rw [Array.toList_map]
      simp only [execOp,e]
    · exact Zf h
  | fieldAddr=>exact Zf h
  | makeFunc=>exact Zf h
  | unOp=>exact Zf h
  | nilCheck x=>
    simp only [X5,Xjq] at h
    split at h
    · rename_i p hx
      obtain ⟨a,rfl,hk⟩:=h
      exact ⟨_,by simp only [execOp,hx]; rfl,hk⟩
    · rename_i g first cap hx
      exact ⟨_,by simp only [execOp,hx]; rfl,h⟩
    · rename_i g first cap hx
      exact ⟨_,by simp only [execOp,hx]; rfl,h⟩
    · exact h.elim
  | indexAddr t x i=>
    obtain ⟨a,hr,hk⟩:=h
    exact ⟨_,Jm hr,hk⟩
  | index=>exact pe rfl h
  | slice=>exact pe rfl h
  | sliceToArrayPointer=>
    obtain ⟨p,hr,hk⟩:=h
    exact ⟨_,Jm hr,hk⟩
  | field t x i=>
    simp only [X5] at h
    cases hb:Qj P t <;> rw [hb] at h
    · exact pe rfl h
    · exact Zf h
  | binOp bo t x y yt=>
    simp only [X5] at h
    simp only [XP,Bool.or_eq_true] at hp
    cases hb:U2 P bo t y <;> rw [hb] at h
    · have hi:XO P t=true:=by rcases hp with hp | hp; rw [hb] at hp; cases hp; exact hp
      rw [hi] at h
      exact pe rfl h
    · exact Zf h
  | convert src dst' x=>
    simp only [X5] at h
    simp only [XP] at hp
    rw [hp] at h
    exact Zf h
  | call c=>
    obtain ⟨callee,args,ats⟩:=c
    have eargs:(args.map s.ev:Array Value)=⟨args.toList.map s.ev⟩:=by apply Array.toList_inj.1; simp
    have ofP : ∀ {b : Builtin} {m : Array TypeId → TypeId → Array Value → Sem Value}, callee = .builtin b →
        (∀ consts as,builtin b ats ty consts as=(do pure (.value (← m ats ty as))))→
        Uh P ty (m ats ty ⟨args.toList.map s.ev⟩) (fun v=>K v w)→∃ v,res P (execOp s.ev ⟨dst,.call ⟨callee,args,ats⟩,ty,pos,after,guard⟩)=some (.value v)∧K v w:=by
      rintro b m rfl hb h
      obtain ⟨v,hv,hk⟩:=X1 h
      refine ⟨v,?_,hk⟩
      rw [Q9]
      simp only [resolve,eargs]
      exact (congrArg (fun (z:Sem Next)=>res P z) (hb _ _)).trans (Jm hv)
    cases callee with
    | value x=>simp [XP] at hp
    | invoke=>exact h.elim
    | builtin b=>
      cases b with
      | len=>
        simp only [X5] at h
        simp only [XP,Bool.not_eq_true'] at hp
        rw [hp] at h
        exact Zf h
      | min=>exact ofP rfl (fun _ _=>rfl) h
      | max=>exact ofP rfl (fun _ _=>rfl) h
      | cap=>exact ofP rfl (fun _ _=>rfl) h
      | _=>simp [XP] at hp
  | _=>simp [XP] at hp
theorem YR {P:Program} {o:Oper} {w:World} {ρ:Operand→Value} (hp:XP P o=true):o.about P w ρ=none:=by
  obtain ⟨dst,op,ty,pos,after,guard⟩:=o
  cases op with
  | call c=>
    obtain ⟨callee,args,ats⟩:=c
    cases callee with
    | value x=>simp [XP] at hp
    | invoke=>simp [XP] at hp
    | builtin b=>rfl
  | _=>rfl
theorem Xmy {P:Program} {nt:Nat} {ops:Array Oper} {K:KS} (hsel:Region.noSelect ops=true):∀ (l:List Nat) (fuel:Nat) (listed:Array Bool) (a:Act) (s:St) (w:World),
    XdC P ops l listed=true→l.length≤fuel→Rep nt a s→XQ P nt false ops (Zi ops l) s w (fun s w=>K .normal s w)→
    wpAnyIn (fen none) 0 P .any ops (post nt K) fuel listed a w:=by
  intro l
  induction l with
  | nil=>
    intro fuel listed a s w hp _ hrep h
    refine wpAnyIn_done ?_ ⟨s,hrep,h⟩ fuel
    simpa [XdC] using hp
  | cons i l ih=>
    intro fuel listed a s w hp hf hrep h
    obtain ⟨fuel,rfl⟩:∃ m,fuel=m+1:=⟨fuel - 1,by simp at hf; omega⟩
    simp only [XdC,Bool.and_eq_true] at hp
    obtain ⟨hi,hp⟩:=hp
    cases ho:ops[i]? with
    | none=>rw [ho] at hi; simp at hi
    | some o=>
      rw [ho] at hi
      simp only [Bool.or_eq_true,Bool.and_eq_true,beq_iff_eq] at hi
      have hpick:Zi ops (i::l)=o::Zi ops l:=by simp [Zi,ho]
      rw [hpick] at h
      have hf':l.length≤fuel:=by simp at hf; omega
      rcases hi with ⟨⟨hpure,hfree⟩,hready⟩ | hone
      ·
        have key:∃ v s',YieldsFenced P ops o v a∧Rep nt (a.put o.dst v) s'∧XQ P nt false ops (Zi ops l) s' w (fun s w=>K .normal s w):=by
          simp only [XQ] at h
          have skip : ∀ {s : St}, Rep nt a s → Region.wanted o (yielded ops a.tmps) = false → put nt o.dst undef s (fun s' => XQ P nt false ops (Zi ops l) s' w (fun s w => K .normal s w)) →
              ∃ v s',YieldsFenced P ops o v a∧Rep nt (a.put o.dst v) s'∧XQ P nt false ops (Zi ops l) s' w (fun s w=>K .normal s w):=by
            intro s hrep hw h
            obtain ⟨s',hr',h'⟩:=XW hrep h
            exact ⟨undef,s',⟨.inr ⟨hw,rfl⟩,fun _=>YR hpure⟩,hr',h'⟩
          have go : ∀ {s : St}, Rep nt a s → Region.wanted o (yielded ops a.tmps) = true → UK P nt false o s w (fun s' w' => XQ P nt false ops (Zi ops l) s' w' (fun s w => K .normal s w)) →
              ∃ v s',YieldsFenced P ops o v a∧Rep nt (a.put o.dst v) s'∧XQ P nt false ops (Zi ops l) s' w (fun s w=>K .normal s w):=by
            intro s hrep hw h
            have h:X5 P o s w fun v w'=>put nt o.dst v s fun s'=>XQ P nt false ops (Zi ops l) s' w' (fun s w=>K .normal s w):=by
              unfold UK at h
              split at h
              · split at h <;> exact h.elim
              · exact h
            obtain ⟨v,hv,hput⟩:=Xaa hpure h
            obtain ⟨s',hr',h'⟩:=XW hrep hput
            exact ⟨v,s',⟨.inl ⟨hw,fun w=>by rw [hrep.eval]; exact Xx hv w⟩,fun _=>YR hpure⟩,hr',h'⟩
          cases hg:o.guard with
          | none=>rw [hg] at h; exact go hrep (by simp [Region.wanted,hg]) h
          | some jw=>
            obtain ⟨j,want⟩:=jw
            rw [hg] at h
            dsimp only at h
            cases hd:(ops[j]?).bind (·.dst) with
            | none=>rw [hd] at h; exact skip hrep (by simp [Region.wanted,hg,Ve hd]) h
            | some d=>
              rw [hd] at h
              dsimp only at h
              split at h
              · rename_i b hb
                have hy:=Vd hrep hd hb
                unfold gK at h
                by_cases hw:b=want
                · subst hw
                  have h':UK P nt false o (s.up d (.bool b)) w fun s' w'=>XQ P nt false ops (Zi ops l) s' w' (fun s w=>K .normal s w):=by
                    cases b <;> exact h
                  exact go (hrep.same hb) (by simp [Region.wanted,hg,hy]) h'
                · have hw':(!want)=b:=by cases b <;> cases want <;> simp at hw ⊢
                  have h':put nt o.dst undef (s.up d (.bool (!want))) fun s'=>XQ P nt false ops (Zi ops l) s' w (fun s w=>K .normal s w):=by
                    cases b <;> cases want <;> first | exact h | simp at hw
                  exact skip (hrep.same (by rw [hb,hw'])) (by simp [Region.wanted,hg,hy,hw]) h'
              · rename_i vs hb
                exact skip hrep (by simp [Region.wanted,hg,UL hrep hd hb]) h
              · exact h.elim
        obtain ⟨v,s',hy,hr',h'⟩:=key
        exact wpAnyIn_take rfl ho hsel hfree hready (fun c a w hq=>hq) hy (ih fuel _ _ s' w hp hf' hr' h')
      ·
        refine wpAnyIn_all hone (by simp) ?_
        intro j hj
        obtain rfl:j=i:=by simpa using hj
        unfold wpOpIn
        simp only [ho]
        exact Xho (df:=false) (fun h=>by simp at h) hrep h fun a' s' w' hr' h'=>ih fuel _ a' s' w' hp hf' hr' h'
def Ja (P:Program) (ops:Array Oper) (Q:Exit→Act→World→Prop) (held:List Nat) (S:World→Prop):Nat→Array Bool→Act→World→Prop
  | 0,listed,a,w=>Region.ready .any ops listed=[]∧Q .normal a w
  | fuel+1,listed,a,w=>
    (Region.ready .any ops listed=[]→Q .normal a w)∧
    ∀ i∈Region.ready .any ops listed,wpOpIn (fen none) 0 P ops Q i (fun a' w'=>(Z9 ops held i=true→w'=w∨S w')∧Ja P ops Q held S fuel (listed.setIfInBounds i true) a' w') a w
theorem XfQ {P:Program} {ops:Array Oper} {Q:Exit→Act→World→Prop} {held:List Nat} {S S':World→Prop} (hS:∀ v,S' v→S v):∀ (fuel:Nat) (listed:Array Bool) (a:Act) (w:World),
    Ja P ops Q held S' fuel listed a w→Ja P ops Q held S fuel listed a w
  | 0,_,_,_,h=>h
  | fuel+1,_,_,_,h=>⟨h.1,fun i hi=>wpOpIn_mono (fun a' w' h'=>⟨fun hf=>(h'.1 hf).imp id (hS w'),XfQ hS fuel _ a' w' h'.2⟩) (h.2 i hi)⟩
theorem W3 {P:Program} {ops:Array Oper} {Q:Exit→Act→World→Prop} {held:List Nat} {S:World→Prop}:∀ (fuel:Nat) (listed:Array Bool) (a:Act) (w:World),
    Ja P ops Q held S fuel listed a w→wpAnyIn (fen none) 0 P .any ops Q fuel listed a w
  | 0,_,_,_,h=>h
  | fuel+1,_,_,_,h=>⟨h.1,fun i hi=>wpOpIn_mono (fun a' w' h'=>W3 fuel _ a' w' h'.2) (h.2 i hi)⟩
def Closed (ops:Array Oper) (listed:Array Bool):Prop:=∀ (j:Nat) (o:Oper),ops[j]?=some o→listed.getD j true=true→∀ e∈o.after,Region.binds .any e=true→listed.getD e.on false=true
theorem Xmz {ops:Array Oper} {listed:Array Bool} (hc:Closed ops listed):∀ (n j i:Nat),(∀ (o:Oper),ops[j]?=some o→∀ e∈o.after,Region.binds .any e=true→listed.getD e.on false=true)→
    V0 ops n j i=true→listed.getD i false=true:=by
  intro n
  induction n with
  | zero=>intro j i _ h; simp [V0] at h
  | succ n ih=>
    intro j i hj h
    unfold V0 at h
    cases ho:ops[j]? with
    | none=>rw [ho] at h; simp at h
    | some o=>
      rw [ho] at h
      simp only [List.any_eq_true,Bool.and_eq_true,Bool.or_eq_true,beq_iff_eq] at h
      obtain ⟨e,he,hb,h⟩:=h
      have he':e∈o.after:=by simpa using he
      have hl:=hj o ho e he' hb
      rcases h with rfl | h
      · exact hl
      · refine ih e.on i (fun o' ho'=>hc e.on o' ho' ?_) h
        have hlt:e.on<listed.size:=by
          rcases Nat.lt_or_ge e.on listed.size with h' | h'
          · exact h'
          · simp [Array.getElem?_eq_none h'] at hl
        simp [hlt] at hl ⊢
        exact hl
theorem Xlr {ops:Array Oper} {listed:Array Bool} {held:List Nat} {i j:Nat} (hc:Closed ops listed) (hi:i∈Region.ready .any ops listed) (hj:j∈Region.ready .any ops listed)
    (hne:j≠i) (hh:i∈held):Z9 ops held j=true:=by
  unfold Z9
  rw [List.any_eq_true]
  refine ⟨i,hh,?_⟩
  simp only [Bool.and_eq_true,bne_iff_ne,ne_eq,Bool.not_eq_true']
  refine ⟨Ne.symm hne,?_⟩
  cases hw:V0 ops ops.size j i with
  | false=>rfl
  | true=>
    obtain ⟨_,oj,hoj,hall⟩:=mem_ready.1 hj
    have h1:=Xmz hc ops.size j i (fun o ho e he hb=>by rw [hoj] at ho; obtain rfl:=Option.some.inj ho; exact hall e he hb) hw
    have h2:=(mem_ready.1 hi).1
    have hlt:i<listed.size:=by
      rcases Nat.lt_or_ge i listed.size with h' | h'
      · exact h'
      · simp [Array.getElem?_eq_none h'] at h1
    simp [hlt] at h1 h2
    rw [h1] at h2
    cases h2
theorem Closed.set {ops:Array Oper} {listed:Array Bool} {i:Nat} (hc:Closed ops listed) (hi:i∈Region.ready .any ops listed):Closed ops (listed.setIfInBounds i true):=by
  intro j o ho hl e he hb
  by_cases hji:j=i
  · subst hji
    obtain ⟨_,oj,hoj,hall⟩:=mem_ready.1 hi
    rw [ho] at hoj
    obtain rfl:=Option.some.inj hoj
    exact getD_set_true (hall e he hb)
  · rw [getD_set_ne true (Ne.symm hji)] at hl
    exact getD_set_true (hc j o ho hl e he hb)
def YieldsT (P:Program) (ops:Array Oper) (T:World→Prop) (o:Oper) (v:Value) (a:Act):Prop:=YieldsIf P ops T o v a∧∀ w,o.about P w a.eval=none
theorem YieldsT.wpOpIn {P:Program} {ops:Array Oper} {T:World→Prop} {Q:Exit→Act→World→Prop} {i:Nat} {o:Oper} {v:Value} {a:Act} (hi:ops[i]?=some o) (hy:YieldsT P ops T o v a)
    {K:Act→World→Prop} {w:World} (hT:T w) (h:K (a.put o.dst v) w):wpOpIn (fen none) 0 P ops Q i K a w:=by
  unfold Go.wpOpIn
  simp only [hi]
  rcases hy.1 with ⟨hw,hv⟩ | ⟨hw,rfl⟩
  · rw [if_pos hw]
    refine ⟨fun _ _=>trivial,?_⟩
    show o.uponIn (fen none) 0 P a K Q ((execOp a.eval o).run P w)
    rw [hv w hT]
    exact h
  · rw [if_neg (by rw [hw]; simp)]
    exact ⟨fun _ _=>trivial,h⟩
theorem YieldsT.of_same {P:Program} {ops:Array Oper} {T:World→Prop} {o:Oper} {v:Value} {a a':Act} (hy:YieldsT P ops T o v a) (he:execOp a'.eval o=execOp a.eval o)
    (hw:Region.wanted o (yielded ops a'.tmps)=Region.wanted o (yielded ops a.tmps)) (hb:∀ w,o.about P w a'.eval=o.about P w a.eval):YieldsT P ops T o v a':=
  ⟨hy.1.of_same he hw,fun w=>by rw [hb w]; exact hy.2 w⟩
theorem XoO {P:Program} {ops:Array Oper} {T:World→Prop} {Q:Exit→Act→World→Prop} {j:Nat} {oi oj:Oper} {v:Value} (hj:ops[j]?=some oj) (hap:oi.apart ops oj=true)
    (hsi:∀ cs b,oi.op≠.select cs b) (hsj:∀ cs b,oj.op≠.select cs b)
    (hQ:∀ c a w,Q (.panic c) (a.put oi.dst v) w→Q (.panic c) a w) {K:Act→World→Prop} {a:Act} {w:World}
    (hy:YieldsT P ops T oi v a) (h:wpOpIn (fen none) 0 P ops Q j K (a.put oi.dst v) w) :
    wpOpIn (fen none) 0 P ops Q j (fun a' w'=>YieldsT P ops T oi v a'∧K (a'.put oi.dst v) w') a w:=by
  obtain ⟨h1,h2,h3⟩:=Oper.apart_spec hap
  have keep:∀ (a:Act),YieldsT P ops T oi v a→∀ u,YieldsT P ops T oi v (a.put oj.dst u):=fun a hy u=>
    hy.of_same (execOp_put oi hsi a oj.dst u h3) (wanted_put oi a oj.dst u h3) (fun w=>about_put oi w a oj.dst u h3)
  have keepD:∀ d,YieldsT P ops T oi v { a with defers:=d::a.defers }:=fun d=>hy.of_same rfl rfl (fun _=>rfl)
  unfold wpOpIn at *
  simp only [hj] at *
  rw [wanted_put oj a oi.dst v h1] at h
  split
  · rename_i hw
    rw [if_pos hw] at h
    refine ⟨fun _ _=>trivial,?_⟩
    have h:=h.2
    change oj.uponIn (fen none) 0 P (a.put oi.dst v) K Q ((execOp (a.put oi.dst v).eval oj).run P w) at h
    change oj.uponIn (fen none) 0 P a _ Q ((execOp a.eval oj).run P w)
    rw [execOp_put oj hsj a oi.dst v h1] at h
    generalize (execOp a.eval oj).run P w=r at *
    cases r with
    | ok x w'=>
      cases x <;> simp only [Oper.uponIn] at h ⊢
      case value u=>exact ⟨keep a hy u,by rw [← Act.put_comm a v u h2]; exact h⟩
      case skip=>exact ⟨keep a hy _,by rw [← Act.put_comm a v undef h2]; exact h⟩
      case defer d=>
        refine ⟨keep _ (keepD d) _,?_⟩
        rw [← Act.put_comm _ v undef h2,← Act.put_defers]
        exact h
      case enter f args=>
        refine ⟨h.1,CallsIn.mono h.2 fun e w'' he=>?_⟩
        cases e with
        | returned u=>exact ⟨keep a hy u,by rw [← Act.put_comm a v u h2]; exact he⟩
        | panicked c=>exact hQ _ _ _ he
        | outgrown=>exact he
      case row row args=>exact ⟨h.1,RowsIn.mono h.2 fun u w'' he=>⟨keep a hy u,by rw [← Act.put_comm a v u h2]; exact he⟩⟩
      case round l f tmps assign body=>
        refine ⟨h.1,RoundIn.mono h.2 fun e w'' he=>?_⟩
        cases e with
        | returned u=>exact ⟨keep a hy u,by rw [← Act.put_comm a v u h2]; exact he⟩
        | panicked c=>exact hQ _ _ _ he
        | outgrown=>exact he
    | halt x w'=>
      cases x <;> simp only [Oper.uponIn] at h ⊢
      case panic u=>exact hQ _ _ _ h
  · rename_i hw
    rw [if_neg hw] at h
    exact ⟨fun _ _=>trivial,keep a hy _,by rw [← Act.put_comm a v undef h2]; exact h.2⟩
theorem YS {P:Program} {ops:Array Oper} {held:List Nat} {S T:World→Prop} {Q:Exit→Act→World→Prop} {i:Nat} {oi:Oper} {v:Value} (hi:ops[i]?=some oi)
    (hsel:∀ (j:Nat) (o:Oper) cs b,ops[j]?=some o→o.op≠.select cs b)
    (hQ:∀ c a w,Q (.panic c) (a.put oi.dst v) w→Q (.panic c) a w)
    (hT:(∀ w,T w)∨(i∈held∧T=S)) :
    ∀ (fuel:Nat) (listed:Array Bool) (a:Act) (w:World),Closed ops listed→listed.size=ops.size→
      (∀ j oj,ops[j]?=some oj→j≠i→listed.getD j true=false→(∀ e∈oj.after,Region.binds .any e=true→e.on≠i)→oi.apart ops oj=true)→
      i∈Region.ready .any ops listed→YieldsT P ops T oi v a→T w→
      Ja P ops Q held S fuel (listed.setIfInBounds i true) (a.put oi.dst v) w→Ja P ops Q held S (fuel+1) listed a w:=by
  intro fuel
  induction fuel with
  | zero=>
    intro listed a w _ _ _ hr hy hw H
    refine ⟨fun h=>(by rw [h] at hr; cases hr),fun j hj=>?_⟩
    by_cases hji:j=i
    · subst hji; exact hy.wpOpIn hi hw ⟨fun _=>.inl rfl,H⟩
    · have:=ready_mono hj hji
      rw [H.1] at this
      cases this
  | succ fuel ih=>
    intro listed a w hc hs hfree hr hy hw H
    refine ⟨fun h=>(by rw [h] at hr; cases hr),fun j hj=>?_⟩
    by_cases hji:j=i
    · subst hji; exact hy.wpOpIn hi hw ⟨fun _=>.inl rfl,H⟩
    · have h1:=H.2 j (ready_mono hj hji)
      obtain ⟨hjun,oj,hoj,hall⟩:=mem_ready.1 hj
      have hnot:∀ e∈oj.after,Region.binds .any e=true→e.on≠i:=fun e he hb heq=>by
        have h1:=hall e he hb
        have h0:=(mem_ready.1 hr).1
        rw [heq] at h1
        rcases Nat.lt_or_ge i listed.size with h' | h'
        · simp [h'] at h0 h1; rw [h0] at h1; cases h1
        · simp [Array.getElem?_eq_none h'] at h1
      have h2:=XoO hoj (hfree j oj hoj hji hjun hnot) (fun cs b=>hsel i oi cs b hi) (fun cs b=>hsel j oj cs b hoj) hQ hy h1
      have hfree' : ∀ k ok, ops[k]? = some ok → k ≠ i → (listed.setIfInBounds j true).getD k true = false →
          (∀ e∈ok.after,Region.binds .any e=true→e.on≠i)→oi.apart ops ok=true:=fun k ok hk hki hun hno=>by
        refine hfree k ok hk hki ?_ hno
        by_cases hjk:j=k
        · subst hjk; exact hjun
        · rw [getD_set_ne true hjk] at hun; exact hun
      refine wpOpIn_mono (fun a' w' h3=>⟨h3.2.1,?_⟩) h2
      have hw':T w':=by
        rcases hT with hT | ⟨hh,rfl⟩
        · exact hT w'
        · rcases h3.2.1 (Xlr hc hr hj hji hh) with rfl | h
          · exact hw
          · exact h
      refine ih (listed.setIfInBounds j true) a' w' (hc.set hj) (by simpa using hs) hfree' (ready_mono hr (Ne.symm hji)) h3.1 hw' ?_
      rw [Array.setIfInBounds_comm _ _ hji]
      exact h3.2.2
theorem Xls {P:Program} {nt:Nat} {ops:Array Oper} {held:List Nat} {K:KS} (hsel:Region.noSelect ops=true):∀ (l:List (Nat×Bool)) (S:World→Prop) (fuel:Nat) (listed:Array Bool) (a:Act) (s:St) (w:World),
    Xa8 P ops held l listed=true→l.length≤fuel→Closed ops listed→listed.size=ops.size→Rep nt a s→YH P nt ops held S l s w (fun s w=>K .normal s w)→
    Ja P ops (post nt K) held S fuel listed a w:=by
  intro l
  induction l with
  | nil=>
    intro S fuel listed a s w hp _ _ _ hrep h
    have hr:Region.ready .any ops listed=[]:=by simpa [Xa8] using hp
    cases fuel with
    | zero=>exact ⟨hr,s,hrep,h⟩
    | succ n=>exact ⟨fun _=>⟨s,hrep,h⟩,by rw [hr]; simp⟩
  | cons ih' l ih=>
    obtain ⟨i,hd⟩:=ih'
    intro S fuel listed a s w hp hf hc hs hrep h
    obtain ⟨fuel,rfl⟩:∃ m,fuel=m+1:=⟨fuel - 1,by simp at hf; omega⟩
    simp only [Xa8,Bool.and_eq_true] at hp
    obtain ⟨hi,hp⟩:=hp
    have hf':l.length≤fuel:=by simp at hf; omega
    cases ho:ops[i]? with
    | none=>rw [ho] at hi; simp at hi
    | some o=>
      rw [ho] at hi
      simp only [YH,ho] at h
      have guard : ∀ {C : Prop} {run : St → Prop},
          (match o.guard with
            | none=>run s
            | some (j,want)=>
              match (ops[j]?).bind (·.dst) with
              | none=>put nt o.dst undef s fun s'=>YH P nt ops held S l s' w fun s w=>K .normal s w
              | some d=>
                match s.r d with
                | .bool b=>gK b want (run (s.up d (.bool want))) (put nt o.dst undef (s.up d (.bool (!want))) fun s'=>YH P nt ops held S l s' w fun s w=>K .normal s w)
                | .tuple _=>put nt o.dst undef s fun s'=>YH P nt ops held S l s' w fun s w=>K .normal s w
                | _=>False)→
          (∀ s,Rep nt a s→Region.wanted o (yielded ops a.tmps)=true→run s→C)→
          (∀ s,Rep nt a s→Region.wanted o (yielded ops a.tmps)=false→(put nt o.dst undef s fun s'=>YH P nt ops held S l s' w fun s w=>K .normal s w)→C)→C:=by
        intro C run h hgo hskip
        cases hg:o.guard with
        | none=>rw [hg] at h; exact hgo s hrep (by simp [Region.wanted,hg]) h
        | some jw=>
          obtain ⟨j,want⟩:=jw
          rw [hg] at h
          dsimp only at h
          cases hd:(ops[j]?).bind (·.dst) with
          | none=>rw [hd] at h; exact hskip s hrep (by simp [Region.wanted,hg,Ve hd]) h
          | some d=>
            rw [hd] at h
            dsimp only at h
            split at h
            · rename_i b hb
              have hy:=Vd hrep hd hb
              unfold gK at h
              by_cases hw:b=want
              · subst hw
                have h':run (s.up d (.bool b)):=by cases b <;> exact h
                exact hgo _ (hrep.same hb) (by simp [Region.wanted,hg,hy]) h'
              · have hw':(!want)=b:=by cases b <;> cases want <;> simp at hw ⊢
                have h':put nt o.dst undef (s.up d (.bool (!want))) fun s'=>YH P nt ops held S l s' w fun s w=>K .normal s w:=by
                  cases b <;> cases want <;> first | exact h | simp at hw
                exact hskip _ (hrep.same (by rw [hb,hw'])) (by simp [Region.wanted,hg,hy,hw]) h'
            · rename_i vs hb
              exact hskip s hrep (by simp [Region.wanted,hg,UL hrep hd hb]) h
            · exact h.elim
      have go:∀ (s':St) (a':Act) (w':World),i∈Region.ready .any ops listed→Rep nt a' s'→YH P nt ops held S l s' w' (fun s w=>K .normal s w)→Ja P ops (post nt K) held S fuel (listed.setIfInBounds i true) a' w':=
        fun s' a' w' hir hr' h'=>ih S fuel _ a' s' w' hp hf' (hc.set hir) (by simpa using hs) hr' h'
      have goC:∀ (s':St) (a':Act) (w':World),i∈Region.ready .any ops listed→Rep nt a' s'→Ql (XbS ops held i) S (fun S'=>YH P nt ops held S' l s' w' (fun s w=>K .normal s w))→Ja P ops (post nt K) held S fuel (listed.setIfInBounds i true) a' w':=by
        intro s' a' w' hir hr' h'
        unfold Ql at h'
        cases ho:XbS ops held i with
        | false=>rw [ho] at h'; exact go s' a' w' hir hr' h'
        | true=>
          rw [ho] at h'
          obtain ⟨S',hS',h'⟩:=h'
          exact XfQ hS' _ _ _ _ (ih S' fuel _ a' s' w' hp hf' (hc.set hir) (by simpa using hs) hr' h')
      cases hd with
      | true=>
        simp only [cond_true,Bool.and_eq_true] at hi
        obtain ⟨⟨⟨hl,hheld⟩,hfree⟩,hready⟩:=hi
        have hir:i∈Region.ready .any ops listed:=by simpa using hready
        have hih:i∈held:=by simpa using hheld
        have hab:∀ w,o.about P w a.eval=none:=by
          intro w
          unfold Z8 at hl
          unfold Oper.about
          cases hop:o.op <;> rw [hop] at hl <;> simp at hl ⊢
        refine guard (run:=fun s=>Zv P nt ops held S i true o s w fun s' w'=>Ql (XbS ops held i) S fun S'=>YH P nt ops held S' l s' w' fun s w=>K .normal s w) h ?_ ?_
        · intro s hrep hw h
          simp only [Zv,cond_true] at h
          unfold Z8 at hl
          cases hop:o.op <;> rw [hop] at hl <;> simp only [Bool.false_eq_true] at hl
          rename_i t x
          simp only [Xl9,hop] at h
          obtain ⟨v,⟨hS,hld⟩,hput⟩:=X1 h
          obtain ⟨s',hr',h'⟩:=XW hrep hput
          refine YS (T:=S) (v:=v) ho (Region.noSelect_spec hsel) (fun c a w hq=>hq) (.inr ⟨hih,rfl⟩) fuel listed a w hc hs (Region.free_spec ho hfree) hir ⟨.inl ⟨hw,fun w' hw'=>?_⟩,hab⟩ hS (goC s' _ w hir hr' h')
          rw [hrep.eval]
          obtain ⟨dst,op,ty,pos,after,guard⟩:=o
          subst hop
          exact Ze (hld w' hw')
        · intro s hrep hw h
          obtain ⟨s',hr',h'⟩:=XW hrep h
          exact YS (T:=fun _=>True) (v:=undef) ho (Region.noSelect_spec hsel) (fun c a w hq=>hq) (.inl fun _=>trivial) fuel listed a w hc hs (Region.free_spec ho hfree) hir ⟨.inr ⟨hw,rfl⟩,hab⟩ trivial (go s' _ w hir hr' h')
      | false=>
        simp only [cond_false] at hi
        cases hpure:XP P o with
        | true=>
          simp only [hpure,cond_true,Bool.and_eq_true] at hi
          obtain ⟨hfree,hready⟩:=hi
          have hir:i∈Region.ready .any ops listed:=by simpa using hready
          refine guard (run:=fun s=>Zv P nt ops held S i false o s w fun s' w'=>Ql (XbS ops held i) S fun S'=>YH P nt ops held S' l s' w' fun s w=>K .normal s w) h ?_ ?_
          · intro s hrep hw h
            simp only [Zv,cond_false] at h
            obtain ⟨v,hv,hput⟩:=Xaa hpure h
            simp only [Wa,hpure,cond_true] at hput
            obtain ⟨s',hr',h'⟩:=XW hrep hput
            exact YS (T:=fun _=>True) (v:=v) ho (Region.noSelect_spec hsel) (fun c a w hq=>hq) (.inl fun _=>trivial) fuel listed a w hc hs (Region.free_spec ho hfree) hir
              ⟨.inl ⟨hw,fun w' _=>by rw [hrep.eval]; exact Xx hv w'⟩,fun _=>YR hpure⟩ trivial (goC s' _ w hir hr' h')
          · intro s hrep hw h
            obtain ⟨s',hr',h'⟩:=XW hrep h
            exact YS (T:=fun _=>True) (v:=undef) ho (Region.noSelect_spec hsel) (fun c a w hq=>hq) (.inl fun _=>trivial) fuel listed a w hc hs (Region.free_spec ho hfree) hir
              ⟨.inr ⟨hw,rfl⟩,fun _=>YR hpure⟩ trivial (go s' _ w hir hr' h')
        | false=>
          simp only [hpure,cond_false,beq_iff_eq] at hi
          have hir:i∈Region.ready .any ops listed:=by rw [hi]; simp
          refine ⟨fun h0=>(by rw [h0] at hir; cases hir),?_⟩
          intro j hj
          obtain rfl:j=i:=by rw [hi] at hj; simpa using hj
          unfold wpOpIn
          simp only [ho]
          refine guard (run:=fun s=>Zv P nt ops held S j false o s w fun s' w'=>Ql (XbS ops held j) S fun S'=>YH P nt ops held S' l s' w' fun s w=>K .normal s w) h ?_ ?_
          · intro s hrep hw h
            rw [if_pos hw]
            simp only [Zv,cond_false] at h
            refine Xgp hrep (Qm h) (Xgn h) fun v w' hp=>?_
            simp only [Wa,hpure,cond_false] at hp
            cases hfl:Z9 ops held j <;> rw [hfl] at hp
            · simp only [cond_false] at hp
              obtain ⟨s',hr',h'⟩:=XW hrep hp
              exact ⟨fun h=>by simp at h,goC s' _ w' hir hr' h'⟩
            · simp only [cond_true] at hp
              obtain ⟨s',hr',h'⟩:=XW hrep hp.2
              exact ⟨fun _=>hp.1,goC s' _ w' hir hr' h'⟩
          · intro s hrep hw h
            rw [if_neg (by rw [hw]; simp)]
            obtain ⟨s',hr',h'⟩:=XW hrep h
            refine ⟨fun _ _=>trivial,?_,go s' _ w hir hr' h'⟩
            simp
theorem XmA {P:Program} {nt:Nat} {ops:Array Oper} {held:List Nat} {S:World→Prop} {K:KS} (hsel:Region.noSelect ops=true) {i:Nat} {hd':Bool} {o:Oper} {fuel:Nat} {listed:Array Bool} {a:Act} {s:St} {w:World} {next:St→World→Prop}
    (ho:ops[i]?=some o) (hc:Closed ops listed) (hs:listed.size=ops.size) (hrep:Rep nt a s) (hir:i∈Region.ready .any ops listed)
    (hn:∀ s' a' w',Rep nt a' s'→next s' w'→Ja P ops (post nt K) held S fuel (listed.setIfInBounds i true) a' w')
    (h:XbT P nt ops held S i hd' o s w next) :
    ((hd'=true→Z8 o=true∧i∈held)→(hd'=true∨XP P o=true)→Region.free .any ops listed i=true→Ja P ops (post nt K) held S (fuel+1) listed a w)∧
    (hd'=false→wpOpIn (fen none) 0 P ops (post nt K) i (fun a' w'=>(Z9 ops held i=true→w'=w∨S w')∧Ja P ops (post nt K) held S fuel (listed.setIfInBounds i true) a' w') a w):=by
  have guard : ∀ {C : Prop}, (∀ s, Rep nt a s → Region.wanted o (yielded ops a.tmps) = true → Zv P nt ops held S i hd' o s w next → C) →
      (∀ s,Rep nt a s→Region.wanted o (yielded ops a.tmps)=false→(put nt o.dst undef s fun s'=>next s' w)→C)→C:=by
    intro C hgo hskip
    unfold XbT at h
    cases hg:o.guard with
    | none=>rw [hg] at h; exact hgo s hrep (by simp [Region.wanted,hg]) h
    | some jw=>
      obtain ⟨j,want⟩:=jw
      rw [hg] at h
      dsimp only at h
      cases hd:(ops[j]?).bind (·.dst) with
      | none=>rw [hd] at h; exact hskip s hrep (by simp [Region.wanted,hg,Ve hd]) h
      | some d=>
        rw [hd] at h
        dsimp only at h
        split at h
        · rename_i b hb
          have hy:=Vd hrep hd hb
          unfold gK at h
          by_cases hw:b=want
          · subst hw
            have h':=show Zv P nt ops held S i hd' o (s.up d (.bool b)) w next by cases b <;> exact h
            exact hgo _ (hrep.same hb) (by simp [Region.wanted,hg,hy]) h'
          · have hw':(!want)=b:=by cases b <;> cases want <;> simp at hw ⊢
            have h':put nt o.dst undef (s.up d (.bool (!want))) fun s'=>next s' w:=by
              cases b <;> cases want <;> first | exact h | simp at hw
            exact hskip _ (hrep.same (by rw [hb,hw'])) (by simp [Region.wanted,hg,hy,hw]) h'
        · rename_i vs hb
          exact hskip s hrep (by simp [Region.wanted,hg,UL hrep hd hb]) h
        · exact h.elim
  constructor
  · intro hld hkind hfree
    cases hd' with
    | true=>
      obtain ⟨hl,hih⟩:=hld rfl
      have hab:∀ w,o.about P w a.eval=none:=by
        intro w
        unfold Z8 at hl
        unfold Oper.about
        cases hop:o.op <;> rw [hop] at hl <;> simp at hl ⊢
      refine guard ?_ ?_
      · intro s hrep hw h
        simp only [Zv,cond_true] at h
        unfold Z8 at hl
        cases hop:o.op <;> rw [hop] at hl <;> simp only [Bool.false_eq_true] at hl
        rename_i t x
        simp only [Xl9,hop] at h
        obtain ⟨v,⟨hS,hldd⟩,hput⟩:=X1 h
        obtain ⟨s',hr',h'⟩:=XW hrep hput
        refine YS (T:=S) (v:=v) ho (Region.noSelect_spec hsel) (fun c a w hq=>hq) (.inr ⟨hih,rfl⟩) fuel listed a w hc hs (Region.free_spec ho hfree) hir ⟨.inl ⟨hw,fun w' hw'=>?_⟩,hab⟩ hS (hn s' _ w hr' h')
        rw [hrep.eval]
        obtain ⟨dst,op,ty,pos,after,guard⟩:=o
        subst hop
        exact Ze (hldd w' hw')
      · intro s hrep hw h
        obtain ⟨s',hr',h'⟩:=XW hrep h
        exact YS (T:=fun _=>True) (v:=undef) ho (Region.noSelect_spec hsel) (fun c a w hq=>hq) (.inl fun _=>trivial) fuel listed a w hc hs (Region.free_spec ho hfree) hir ⟨.inr ⟨hw,rfl⟩,hab⟩ trivial (hn s' _ w hr' h')
    | false=>
      have hpure:XP P o=true:=by rcases hkind with h | h; cases h; exact h
      refine guard ?_ ?_
      · intro s hrep hw h
        simp only [Zv,cond_false] at h
        obtain ⟨v,hv,hput⟩:=Xaa hpure h
        simp only [Wa,hpure,cond_true] at hput
        obtain ⟨s',hr',h'⟩:=XW hrep hput
        exact YS (T:=fun _=>True) (v:=v) ho (Region.noSelect_spec hsel) (fun c a w hq=>hq) (.inl fun _=>trivial) fuel listed a w hc hs (Region.free_spec ho hfree) hir
          ⟨.inl ⟨hw,fun w' _=>by rw [hrep.eval]; exact Xx hv w'⟩,fun _=>YR hpure⟩ trivial (hn s' _ w hr' h')
      · intro s hrep hw h
        obtain ⟨s',hr',h'⟩:=XW hrep h
        exact YS (T:=fun _=>True) (v:=undef) ho (Region.noSelect_spec hsel) (fun c a w hq=>hq) (.inl fun _=>trivial) fuel listed a w hc hs (Region.free_spec ho hfree) hir
          ⟨.inr ⟨hw,rfl⟩,fun _=>YR hpure⟩ trivial (hn s' _ w hr' h')
  · rintro rfl
    cases hpure:XP P o with
    | true=>
      refine guard ?_ ?_
      · intro s hrep hw h
        simp only [Zv,cond_false] at h
        obtain ⟨v,hv,hput⟩:=Xaa hpure h
        simp only [Wa,hpure,cond_true] at hput
        obtain ⟨s',hr',h'⟩:=XW hrep hput
        exact YieldsT.wpOpIn (T:=fun _=>True) (v:=v) ho ⟨.inl ⟨hw,fun w' _=>by rw [hrep.eval]; exact Xx hv w'⟩,fun _=>YR hpure⟩ trivial ⟨fun _=>.inl rfl,hn s' _ w hr' h'⟩
      · intro s hrep hw h
        obtain ⟨s',hr',h'⟩:=XW hrep h
        exact YieldsT.wpOpIn (T:=fun _=>True) (v:=undef) ho ⟨.inr ⟨hw,rfl⟩,fun _=>YR hpure⟩ trivial ⟨fun _=>.inl rfl,hn s' _ w hr' h'⟩
    | false=>
      unfold wpOpIn
      simp only [ho]
      refine guard ?_ ?_
      · intro s hrep hw h
        rw [if_pos hw]
        simp only [Zv,cond_false] at h
        refine Xgp hrep (Qm h) (Xgn h) fun v w' hp=>?_
        simp only [Wa,hpure,cond_false] at hp
        cases hfl:Z9 ops held i <;> rw [hfl] at hp
        · simp only [cond_false] at hp
          obtain ⟨s',hr',h'⟩:=XW hrep hp
          exact ⟨fun h=>by simp at h,hn s' _ w' hr' h'⟩
        · simp only [cond_true] at hp
          obtain ⟨s',hr',h'⟩:=XW hrep hp.2
          exact ⟨fun _=>hp.1,hn s' _ w' hr' h'⟩
      · intro s hrep hw h
        rw [if_neg (by rw [hw]; simp)]
        obtain ⟨s',hr',h'⟩:=XW hrep h
        refine ⟨fun _ _=>trivial,?_,hn s' _ w hr' h'⟩
        simp
theorem XdG {P:Program} {nt:Nat} {ops:Array Oper} {held:List Nat} {S:World→Prop} {K:KS} (hsel:Region.noSelect ops=true):∀ (fuel:Nat) (listed:Array Bool) (a:Act) (s:St) (w:World),
    Closed ops listed→listed.size=ops.size→Rep nt a s→XU P nt ops held S fuel listed s w (fun s w=>K .normal s w)→Ja P ops (post nt K) held S fuel listed a w:=by
  intro fuel
  induction fuel with
  | zero=>
    intro listed a s w hc hs hrep h
    unfold XU at h
    cases hr:Region.ready .any ops listed with
    | nil=>rw [hr] at h; exact ⟨hr,s,hrep,h⟩
    | cons i l=>rw [hr] at h; exact h.elim
  | succ fuel ih=>
    intro listed a s w hc hs hrep h
    unfold XU at h
    cases hn:YB P ops listed with
    | some ih'=>
      obtain ⟨i,hd⟩:=ih'
      rw [hn] at h
      dsimp only at h
      cases ho:ops[i]? with
      | none=>rw [ho] at h; exact h.elim
      | some o=>
        rw [ho] at h
        dsimp only at h
        cases hh:(!hd || held.contains i) with
        | false=>rw [hh] at h; exact h.elim
        | true=>
          rw [hh] at h
          have h':XbT P nt ops held S i hd o s w fun s' w'=>XU P nt ops held S fuel (listed.setIfInBounds i true) s' w' (fun s w=>K .normal s w):=h
          have key:i∈Region.ready .any ops listed∧((Region.free .any ops listed i=true∧(hd=true∨XP P o=true)∧(hd=true→Z8 o=true))∨(hd=false∧Region.ready .any ops listed=[i])):=by
            unfold YB at hn
            split at hn
            · rename_i j hj
              simp only [Option.some.injEq,Prod.mk.injEq] at hn
              obtain ⟨rfl,rfl⟩:=hn
              unfold Xa7 at hj
              split at hj
              · rename_i k hk
                simp only [Option.some.injEq] at hj
                subst hj
                have h1:=List.mem_of_find?_eq_some hk
                have h2:=List.find?_some hk
                rw [ho] at h2
                simp only [Bool.and_eq_true] at h2
                exact ⟨h1,.inl ⟨h2.2,.inr h2.1,fun h=>by cases h⟩⟩
              · split at hj
                · rename_i k hk
                  simp only [Option.some.injEq] at hj
                  subst hj
                  exact ⟨by rw [hk]; simp,.inr ⟨rfl,hk⟩⟩
                · cases hj
            · split at hn
              · rename_i k hk
                simp only [Option.some.injEq,Prod.mk.injEq] at hn
                obtain ⟨rfl,rfl⟩:=hn
                have h1:=List.mem_of_find?_eq_some hk
                have h2:=List.find?_some hk
                rw [ho] at h2
                simp only [Bool.and_eq_true] at h2
                exact ⟨h1,.inl ⟨h2.2,.inl rfl,fun _=>h2.1⟩⟩
              · cases hn
          obtain ⟨hir,hk⟩:=key
          have hstep:=XmA hsel ho hc hs hrep hir (fun s' a' w' hr' h'=>ih _ a' s' w' (hc.set hir) (by simpa using hs) hr' h') h'
          rcases hk with ⟨hf,hkind,hl⟩ | ⟨rfl,hone⟩
          · refine hstep.1 (fun hd'=>⟨hl hd',?_⟩) hkind hf
            subst hd'
            simpa using hh
          · refine ⟨fun h0=>(by rw [h0] at hir; cases hir),fun j hj=>?_⟩
            obtain rfl:j=i:=by rw [hone] at hj; simpa using hj
            exact hstep.2 rfl
    | none=>
      rw [hn] at h
      dsimp only at h
      cases hr:Region.ready .any ops listed with
      | nil=>
        rw [hr] at h
        exact ⟨fun _=>⟨s,hrep,h⟩,by rw [hr]; simp⟩
      | cons i0 l0=>
        rw [hr] at h
        refine ⟨fun h0=>(by rw [hr] at h0; cases h0),fun j hj=>?_⟩
        have hj':j∈i0::l0:=by rw [← hr]; exact hj
        have h1:=XfO h j hj'
        cases ho:ops[j]? with
        | none=>rw [ho] at h1; exact h1.elim
        | some o=>
          rw [ho] at h1
          exact (XmA hsel ho hc hs hrep hj (fun s' a' w' hr' h'=>ih _ a' s' w' (hc.set hj) (by simpa using hs) hr' h') h1).2 rfl
theorem Vf {ops:Array Oper} (h:Xa6 ops=true):Region.noSelect ops=true∧∀ (i:Nat) (o:Oper),ops[i]?=some o→∀ c,o.op≠.defer c:=by
  unfold Xa6 at h
  rw [List.all_eq_true] at h
  constructor
  · unfold Region.noSelect
    rw [Array.all_eq_true_iff_forall_mem]
    intro o ho
    have:=h o (by simpa using ho)
    revert this
    cases o.op <;> simp
  · intro i o ho c hc
    have:=h o (by simpa using Array.mem_of_getElem? ho)
    rw [hc] at this
    simp at this
theorem UM {P:Program} {ops:Array Oper} {Q:Exit→Act→World→Prop} (hd:∀ (i:Nat) (o:Oper),ops[i]?=some o→∀ c,o.op≠.defer c) (ro:Option Nat) :
    ∀ (l:List Nat) (a:Act) (w:World),wpOpsIn (fen none) 0 P ops Q l a w→wpOpsIn (fen ro) 0 P ops Q l a w:=by
  intro l
  induction l with
  | nil=>exact fun a w h=>h
  | cons i rest ih=>
    intro a w h
    rw [wpOpsIn_cons] at h ⊢
    have h':=wpOpIn_mono (fun a w h=>ih a w h) h
    unfold wpOpIn at h' ⊢
    cases ho:ops[i]? with
    | none=>rw [ho] at h'; exact h'
    | some o=>
      rw [ho] at h'
      dsimp only at h' ⊢
      split
      · rename_i hw
        rw [if_pos hw] at h'
        refine ⟨fun _ _=>trivial,?_⟩
        have h2:=h'.2
        rw [Oper.semAt_eq _ _ _ (hd i o ho)] at h2 ⊢
        cases ro with
        | none=>exact h2
        | some l=>
          generalize (execOp a.eval o).run P w=r at h2 ⊢
          cases r with
          | ok n w'=>cases n <;> exact h2
          | halt x w'=>cases x <;> exact h2
      · rename_i hw
        rw [if_neg hw] at h'
        exact ⟨fun _ _=>trivial,h'.2⟩
theorem W4 {nt:Nat} {N:St→World→Prop} {K:KS} {N':Act→World→Prop} (hN:∀ a s w,Rep nt a s→N s w→N' a w) :
    ∀ e a w,post nt (Xmb N K) e a w→Exit.then N' (post nt K) e a w:=by
  intro e a w h
  cases e with
  | normal=>obtain ⟨s,hr,h⟩:=h; exact hN a s w hr h
  | exit i=>exact h
  | goto l=>exact h
  | ret=>exact h
  | panic c=>exact h.elim
  | outgrown=>exact h.elim
theorem XfR {nt id:Nat} {K:KS}:∀ e a w,post nt (XdD id K) e a w→Exit.inBlock id (post nt K) e a w:=by
  intro e a w h
  cases e with
  | normal=>exact h
  | exit i=>
    obtain ⟨s,hr,h⟩:=h
    simp only [XdD] at h
    unfold Exit.inBlock
    by_cases hi:i=id
    · subst hi
      simp only [if_true]
      have:Nat.beq i i=true:=by simp
      rw [this] at h
      exact ⟨s,hr,h⟩
    · have hb : Nat.beq i id = false := by
        cases hb:Nat.beq i id with
        | false=>rfl
        | true=>exact absurd (Nat.eq_of_beq_eq_true hb) hi
      rw [hb] at h
      simp only [hi,if_false]
      exact ⟨s,hr,h⟩
  | goto l=>exact h
  | ret=>exact h
  | panic c=>exact h.elim
  | outgrown=>exact h.elim
theorem XpO {nt:Nat} {a:Act} {s:St} (hrep:Rep nt a s):a.tmps=s.tmps nt:=by
  unfold St.tmps
  apply Array.ext
  · simp [hrep.size]
  · intro i h1 h2
    have:=hrep.val i
    rw [Array.getD_eq_getD_getElem?,Array.getElem?_eq_getElem h1] at this
    simpa using this
theorem Xhp {P:Program} {ro:Option Nat} {nt:Nat} {g:Value} {ps:Array Tmp} {assign body:Code} {s:St} {w:World} {K:KS} (h:Xa9 P ro nt g ps assign body s w K) :
    ro=none∧∃ gf first cap,g=.func (.func gf) first cap∧(∀ args w,(callFunc gf args).run P w=.ok (.enter gf args) w)∧
      ∀ fn:FuncId,UJ P gf ⟨first.toList++[.func (.yield (w.heap.size+1)) #[] #[]]++cap.toList⟩
        ((w.alloc (.deferred (some []))).alloc (.loop (YL fn (s.tmps nt) ps assign body w.heap.size)))
        fun _ w'=>Xmx P (w.heap.size+1) ⟨s.r,{ target:=.collected w.heap.size,args:=#[] }::s.ds⟩ K w':=by
  cases ro with
  | some l=>exact h.elim
  | none=>exact ⟨rfl,h⟩
theorem XbU {P:Program} {ro:Option Nat} {nt:Nat} {tt:Nat→List (Nat×TypeId)} (c:Code):∀ (n:Nat) (K:KS) (a:Act) (s:St) (w:World),Rep nt a s→sw P ro nt tt c n K s w→c.wpIn (fen ro) 0 P (post nt K) a w:=by
  induction c with
  | skip=>exact fun n K a s w hrep h=>wpIn_skip ⟨s,hrep,h⟩
  | region id ops draw=>
    intro n K a s w hrep h
    cases draw with
    | false=>
      refine wpIn_region ?_
      rw [List.range_eq_range',← Array.length_toList]
      exact XfP (df:=ro.isNone) (fun h=>by simpa using h) ops.toList 0 a s w (by simp) hrep h
    | true=>
      simp only [sw] at h
      cases hp:Xjr P ops <;> rw [hp] at h
      · cases hp:Xgo P ops <;> rw [hp] at h
        · cases hp:Vc P ops <;> rw [hp] at h
          · exact h.elim
          obtain ⟨S,h⟩:=h
          simp only [Vc,Bool.and_eq_true] at hp
          obtain ⟨h2,h3⟩:=hp
          obtain ⟨hs,hd⟩:=Vf h2
          refine wpIn_region_draw fun t=>UM hd ro _ _ _ ?_
          simp only [Region.schedule,h3,Bool.true_or,if_true]
          refine wpAnyIn_sound ops.size t _ a _ (W3 _ _ _ _ (XdG (S:=S) hs ops.size _ a s w.drew ?_ (by simp) hrep h))
          intro j o ho hl
          have hlt:j<ops.size:=(Array.getElem?_eq_some_iff.1 ho).1
          simp [hlt] at hl
        obtain ⟨S,h⟩:=h
        simp only [Xgo,Bool.and_eq_true] at hp
        obtain ⟨⟨⟨h1,h2⟩,h3⟩,h4⟩:=hp
        obtain ⟨hs,hd⟩:=Vf h2
        have hlen:(XbR P ops).length=ops.size:=Nat.eq_of_beq_eq_true h4
        refine wpIn_region_draw fun t=>UM hd ro _ _ _ ?_
        simp only [Region.schedule,h3,Bool.true_or,if_true]
        refine wpAnyIn_sound ops.size t _ a _ (W3 _ _ _ _ (Xls (S:=S) hs (XbR P ops) ops.size _ a s w.drew h1 (by omega) ?_ (by simp) hrep h))
        intro j o ho hl
        have hlt:j<ops.size:=(Array.getElem?_eq_some_iff.1 ho).1
        simp [hlt] at hl
      simp only [Xjr,Bool.and_eq_true] at hp
      obtain ⟨⟨⟨h1,h2⟩,h3⟩,h4⟩:=hp
      obtain ⟨hs,hd⟩:=Vf h2
      have hlen:(Xmv P ops).length=ops.size:=Nat.eq_of_beq_eq_true h4
      refine wpIn_region_draw fun t=>UM hd ro _ _ _ ?_
      simp only [Region.schedule,h3,Bool.true_or,if_true]
      exact wpAnyIn_sound ops.size t _ a _ (Xmy hs (Xmv P ops) ops.size _ a s w.drew h1 (by omega) hrep h)
  | seq x y ihx ihy=>
    intro n K a s w hrep h
    exact wpIn_seq (wpIn_mono (ihx n _ a s w hrep h) (W4 fun a' s' w' hr' h'=>ihy n K a' s' w' hr' h'))
  | cond c t e iht ihe=>
    intro n K a s w hrep h
    simp only [sw] at h
    split at h
    · rename_i b hb
      rw [← hrep.eval] at hb
      cases b with
      | true=>exact wpIn_cond_true hb (iht n K a s w hrep h)
      | false=>exact wpIn_cond_false hb (ihe n K a s w hrep h)
    · exact h.elim
  | block id b ih=>
    intro n K a s w hrep h
    exact wpIn_block (wpIn_mono (ih id _ a s w hrep h) XfR)
  | loop b ih=>
    intro n K a s w hrep h
    obtain ⟨I,μ,h0,hstep⟩:=h
    refine wpIn_loop (fun a' w'=>Rep nt a' ⟨fun t=>a'.tmps.getD t undef,s.ds⟩∧I ((tt n).map fun p=>a'.tmps.getD p.1 undef) w')
      (fun a' w'=>μ ((tt n).map fun p=>a'.tmps.getD p.1 undef) w') ?_ ?_
    · have:(fun t=>a.tmps.getD t undef)=s.r:=funext hrep.val
      rw [this]
      refine ⟨hrep,?_⟩
      have e:((tt n).map fun p=>a.tmps.getD p.1 undef)=(tt n).map fun p=>s.r p.1:=List.map_congr_left fun p _=>hrep.val p.1
      rw [e]
      exact h0
    · rintro a' w' ⟨hr',hI⟩
      obtain ⟨vs,hvs,hb⟩:=XdE (hstep _ (fun t=>a'.tmps.getD t undef) w' hI)
      have ho:=XdF (fun t=>a'.tmps.getD t undef) (tt n)
      rw [← hvs,ho] at hb
      refine wpIn_mono (ih n _ a' _ w' hr' hb) (W4 ?_)
      rintro a'' s'' w'' hr'' ⟨hds,hI',hμ⟩
      have e:((tt n).map fun p=>a''.tmps.getD p.1 undef)=(tt n).map fun p=>s''.r p.1:=List.map_congr_left fun p _=>hr''.val p.1
      rw [e]
      refine ⟨⟨?_,hI'⟩,hμ⟩
      have hfun:(fun t=>a''.tmps.getD t undef)=s''.r:=funext hr''.val
      rw [hfun,← hds]
      exact hr''
  | exit id=>exact fun n K a s w hrep h=>wpIn_exit ⟨s,hrep,h⟩
  | ret=>exact fun n K a s w hrep h=>wpIn_ret ⟨s,hrep,h⟩
  | rangeFunc g ps assign body _ _=>
    intro n K a s w hrep h
    obtain ⟨hro,gf,first,cap,hg,henter,hcalls⟩:=Xhp (show Xa9 P ro nt (s.ev g) ps assign body s w K from h)
    subst hro
    refine wpIn_rangeFunc fun fn _=>?_
    have hcall:=hcalls fn
    rw [← hrep.eval] at hg
    have hargs:(first++#[Value.func (.yield (w.heap.size+1)) #[] #[]]++cap:Array Value)=⟨first.toList++[.func (.yield (w.heap.size+1)) #[] #[]]++cap.toList⟩:=by
      apply Array.toList_inj.1; simp
    have he : (Instr.enterLoop fn a.tmps ps assign body (fen none).round).run P w =
        .ok (w.heap.size+1,[{ target:=.collected w.heap.size,args:=#[] }]) ((w.alloc (.deferred (some []))).alloc (.loop (YL fn (s.tmps nt) ps assign body w.heap.size))):=by
      rw [XpO hrep]
      have:(w.alloc (Obj.deferred (some []))).heap.size=w.heap.size+1:=by simp
      rw [← this]
      rfl
    refine ⟨w.heap.size+1,[{ target:=.collected w.heap.size,args:=#[] }],((w.alloc (.deferred (some []))).alloc (.loop (YL fn (s.tmps nt) ps assign body w.heap.size))),{ target:=.fn (.func gf) cap,args:=first++#[.func (.yield (w.heap.size+1)) #[] #[]] },((w.alloc (.deferred (some []))).alloc (.loop (YL fn (s.tmps nt) ps assign body w.heap.size))),gf,
      first++#[.func (.yield (w.heap.size+1)) #[] #[]]++cap,((w.alloc (.deferred (some []))).alloc (.loop (YL fn (s.tmps nt) ps assign body w.heap.size))),he,?_,fun _ _=>trivial,?_,fun h=>by simp [fen] at h,?_⟩
    · have hyl:a.eval (.const (.func (.yield (w.heap.size+1)) #[] #[]))=.func (.yield (w.heap.size+1)) #[] #[]:=rfl
      have hmap:Array.map a.eval #[Operand.const (.func (.yield (w.heap.size+1)) #[] #[])]=#[.func (.yield (w.heap.size+1)) #[] #[]]:=by simp [hyl]
      simp only [resolve,hg,Deferred.ofValue,hmap]
      rfl
    · exact henter _ _
    · rw [hargs]
      have h2:CallsIn (fen none) 0 P gf _ _ _:=callsIn_wide.2 hcall
      refine h2.mono ?_
      rintro e w' ⟨v,rfl,jump,w'',hend,hj⟩
      refine ⟨jump,w'',hend,?_⟩
      have hr2:Rep nt { a with defers:=[{ target:=.collected w.heap.size,args:=#[] }]++a.defers } ⟨s.r,{ target:=.collected w.heap.size,args:=#[] }::s.ds⟩:=
        ⟨hrep.size,hrep.val,by rw [← hrep.ds]; rfl⟩
      cases jump with
      | none=>exact ⟨_,hr2,hj⟩
      | some c=>
        cases c with
        | ret=>exact wpIn_ret ⟨_,hr2,hj⟩
        | exit i=>exact hj.elim
        | _=>exact hj.elim
  | _=>exact fun n K a s w hrep h=>h.elim
end Go.Fw
end

section
namespace Go.Fw
open Go
def Xhq (P:Program) (w:World):List ResultVar→St→(List Value→Prop)→Prop
  | [],_,K=>K []
  | .tmp t::rs,s,K=>Xhq P w rs s fun vs=>K (s.r t::vs)
  | .cell a t::rs,s,K=>∃ p v,s.r a=.pointer (some p)∧(loadVar t p).run P w=.ok v w∧Xhq P w rs s fun vs=>K (v::vs)
def Xe2:List Value→Value
  | [v]=>v
  | vs=>.tuple ⟨vs⟩
def Xjs (P:Program) (rs:List ResultVar) (s:St) (w:World) (K:VWP):Prop:=Xhq P w rs s fun vs=>K (Xe2 vs) w
theorem XrN {P:Program} {w:World} {nt:Nat} {a:Act} {s:St} (hrep:Rep nt a s):∀ (rs:List ResultVar) (K:List Value→Prop),Xhq P w rs s K→
    ∃ vs,(rs.mapM (fun
      | .tmp t=>pure (a.tmps.getD t undef)
      | .cell b t=>do loadVar t (← asAddr (a.tmps.getD b undef)):ResultVar→Sem Value)).run P w=.ok vs w∧K vs:=by
  intro rs
  induction rs with
  | nil=>exact fun K h=>⟨[],rfl,h⟩
  | cons x rs ih=>
    intro K h
    cases x with
    | tmp t=>
      obtain ⟨vs,hr,hk⟩:=ih _ h
      refine ⟨s.r t::vs,?_,hk⟩
      rw [List.mapM_cons,← hrep.val t]
      show ((_:Sem Value) >>= _).run P w=_
      rw [Sem.run_bind]
      show ((_:Sem (List Value)) >>= _).run P w=_
      rw [Sem.run_bind,hr]
      rfl
    | cell b t=>
      obtain ⟨p,v,hp,hv,h⟩:=h
      obtain ⟨vs,hr,hk⟩:=ih _ h
      refine ⟨v::vs,?_,hk⟩
      rw [List.mapM_cons]
      rw [Sem.run_bind]
      have hb:a.tmps.getD b undef=.pointer (some p):=(hrep.val b).trans hp
      have e:(do loadVar t (← asAddr (a.tmps.getD b undef)):Sem Value).run P w=.ok v w:=by
        rw [hb]
        exact hv
      rw [e]
      show ((_:Sem (List Value)) >>= _).run P w=_
      rw [Sem.run_bind,hr]
      rfl
theorem XmB {P:Program} {w:World} {nt:Nat} {a:Act} {s:St} {fn:Func} {K:VWP} (hrep:Rep nt a s) (h:Xjs P fn.results.toList s w K) :
    ∃ v,(results fn a.tmps).run P w=.ok v w∧K v w:=by
  obtain ⟨vs,hr,hk⟩:=XrN hrep _ _ h
  refine ⟨Xe2 vs,?_,hk⟩
  unfold results
  have e:fn.results=fn.results.toList.toArray:=by simp
  rw [e,List.mapM_toArray,Sem.run_bind]
  show ((List.toArray <$> _:Sem (Array Value)).run P w).andThen _=_
  rw [← bind_pure_comp,Sem.run_bind]
  refine (congrArg (fun r=>Result.andThen (Result.andThen r _) _) hr).trans ?_
  show Result.ok (if h:vs.toArray.size=1 then vs.toArray[0] else .tuple vs.toArray) w=_
  congr 1
  match vs with
  | []=>rfl
  | [v]=>rfl
  | _::_::_=>rfl
def Tk (P:Program) (r:Nat) (w w':World):Prop:=(Instr.takeDeferred r).run P w=.ok [] w'
def Xuo (P:Program) (f:FuncId) (args:Array Value) (w:World) (K:World→Prop):Prop:=
  CallsDIn (fen none) 0 P f args .returning w fun e u' w'=>u'=.returning∧∃ v,e=.returned v∧K w'
def Xba (P:Program) (f:FuncId) (args:Array Value) (w:World) (K:World→Prop):Prop:=(∀ args w,(callFunc f args).run P w=.ok (.enter f args) w)∧Xuo P f args w K
def Wb (P:Program) (rs:List ResultVar) (s:St) (K:VWP):List Deferred→World→Prop
  | [],w=>Xjs P rs s w K
  | d::ds,w=>
    match d.target with
    | .collected r=>∃ w',Tk P r w w'∧Wb P rs s K ds w'
    | .fn (.func f) cap=>Xba P f ⟨d.args.toList++cap.toList⟩ w fun w'=>Wb P rs s K ds w'
    | _=>False
def Xqv (P:Program) (rs:List ResultVar) (K:VWP):KS
  | .normal,s,w=>Wb P rs s K s.ds w
  | .ret,s,w=>Wb P rs s K s.ds w
  | _,_,_=>False
theorem Xhr {P:Program} {fn:Func} {nt:Nat} {a:Act} {s:St} {K:VWP} (hrep:Rep nt a s):∀ (ds:List Deferred) (w:World),
    Wb P fn.results.toList s K ds w→LeavesInM (fen none) 0 P fn a.tmps (fun e w'=>∃ v,e=.returned v∧K v w') ds .returning w:=by
  intro ds
  induction ds with
  | nil=>
    intro w h
    obtain ⟨v,hv,hk⟩:=XmB hrep h
    exact ⟨v,hv,v,rfl,hk⟩
  | cons d ds ih=>
    intro w h
    refine ⟨by simp,?_⟩
    simp only [Wb] at h
    split at h
    · rename_i r ht
      obtain ⟨w',hr,h⟩:=h
      exact .inl ⟨r,w',ht,hr,ih w' h⟩
    · rename_i f cap ht
      obtain ⟨hc,h⟩:=h
      refine .inr ⟨fun h=>by simp [fen] at h,.func f,cap,f,⟨d.args.toList++cap.toList⟩,ht,?_,fun _ _=>trivial,?_⟩
      · rw [ht]
        have e:(d.args++cap:Array Value)=⟨d.args.toList++cap.toList⟩:=by apply Array.toList_inj.1; simp
        rw [← e]
        exact hc _ _
      · refine ⟨h.1,fun c cs hm hr=>?_⟩
        obtain ⟨e,u',w',fr,⟨hu,v,he,hk⟩,rest⟩:=h.2 c cs hm hr
        subst hu; subst he
        exact ⟨_,_,w',fr,ih w' hk,rest⟩
    · exact h.elim
theorem XmC {P:Program} {fn:Func} {nt:Nat} {K:VWP}:∀ e a w,post nt (Xqv P fn.results.toList K) e a w→bodyPostM (fen none) 0 P fn (fun e w'=>∃ v,e=.returned v∧K v w') e a w:=by
  intro e a w h
  cases e with
  | normal=>
    obtain ⟨s,hr,h⟩:=h
    have h2:=Xhr hr _ w h
    rw [← hr.ds] at h2
    exact h2
  | ret=>
    obtain ⟨s,hr,h⟩:=h
    have h2:=Xhr hr _ w h
    rw [← hr.ds] at h2
    exact h2
  | exit i=>obtain ⟨s,hr,h⟩:=h; exact h.elim
  | goto l=>obtain ⟨s,hr,h⟩:=h; exact h.elim
  | panic c=>exact h.elim
  | outgrown=>exact h.elim
theorem XdH (args:List Value) (nt:Nat) (h:args.length≤nt):Rep nt { tmps:=(⟨args⟩:Array Value)++Array.replicate (nt - (⟨args⟩:Array Value).size) undef,defers:=[] } ⟨Y6 args,[]⟩:=by
  refine ⟨by simp; omega,fun t=>?_,rfl⟩
  simp only [Y6,Array.getD_eq_getD_getElem?,Array.getElem?_append,List.getD_eq_getElem?_getD]
  by_cases ht:t<args.length
  · simp [ht]
  · have h2:args[t]?=none:=by simp; omega
    simp only [List.size_toArray,ht,if_false,h2,Option.getD_none]
    by_cases h3:t - args.length<nt - args.length
    · simp [h3]
    · simp [h3]
theorem XoP {P:Program} {f:FuncId} {fn:Func} {c:Code} {args:List Value} {w:World} {K:VWP} (tt:Nat→List (Nat×TypeId)) (hf:P.funcs[f]?=some fn) (hb:fn.body=some c)
    (hn:Nat.ble args.length fn.ntmps=true) (h:sw P none fn.ntmps tt c 0 (Xqv P fn.results.toList K) ⟨Y6 args,[]⟩ w):UJ P f ⟨args⟩ w K:=by
  have h1:=XbU c 0 _ _ _ w (XdH args fn.ntmps (Nat.le_of_ble_eq_true hn)) h
  exact callsIn_wide.1 (callsIn_of_wp_marks hf hb trivial (wpIn_mono h1 XmC) rfl)
def XmD (P:Program) (rs:List ResultVar) (K:World→Prop):KS
  | .normal,s,w=>match s.ds with | []=>Xjs P rs s w fun _ w=>K w | _=>False
  | .ret,s,w=>match s.ds with | []=>Xjs P rs s w fun _ w=>K w | _=>False
  | _,_,_=>False
theorem XfS {P:Program} {f:FuncId} {fn:Func} {c:Code} {args:List Value} {w:World} {K:World→Prop} (tt:Nat→List (Nat×TypeId)) (hf:P.funcs[f]?=some fn) (hb:fn.body=some c)
    (hn:Nat.ble args.length fn.ntmps=true) (h:sw P none fn.ntmps tt c 0 (XmD P fn.results.toList K) ⟨Y6 args,[]⟩ w):Xuo P f ⟨args⟩ w K:=by
  have h1:=XbU c 0 _ _ _ w (XdH args fn.ntmps (Nat.le_of_ble_eq_true hn)) h
  have h2:CallsDIn (fen none) 0 P f ⟨args⟩ .returning w fun e u' w'=>u'=.returning∧∃ v,e=.returned v∧K w':=by
    refine callsDIn_of_wp (R:=fun e w'=>∃ v,e=.returned v∧K w') hf hb trivial (wpIn_mono h1 ?_) rfl
    have key:∀ (a:Act) (s:St) (w:World),Rep fn.ntmps a s→(match s.ds with | []=>Xjs P fn.results.toList s w (fun _ w=>K w) | _=>False)→a.defers=[]∧∃ v,(results fn a.tmps).run P w=.ok v w∧∃ v',Ending.returned v=.returned v'∧K w:=by
      intro a s w hr h
      cases hds:s.ds with
      | nil=>rw [hds] at h; obtain ⟨v,hv,hk⟩:=XmB hr h; exact ⟨by rw [hr.ds,hds],v,hv,v,rfl,hk⟩
      | cons d l=>rw [hds] at h; exact h.elim
    intro e a w h
    cases e with
    | normal=>obtain ⟨s,hr,h⟩:=h; exact key a s w hr h
    | ret=>obtain ⟨s,hr,h⟩:=h; exact key a s w hr h
    | exit i=>obtain ⟨s,hr,h⟩:=h; exact h.elim
    | goto l=>obtain ⟨s,hr,h⟩:=h; exact h.elim
    | panic c=>exact h.elim
    | outgrown=>exact h.elim
  exact h2
theorem XmE {P:Program} {f:FuncId} {args:Array Value} {w:World} {K:VWP} (he:∀ args w,(callFunc f args).run P w=.ok (.enter f args) w) (h:UJ P f args w K):Xa P f args w K:=
  Xmt (.inl ⟨he args w,h⟩)
theorem Xd {P:Program} {f:FuncId} {fn:Func} {args:List Value} {w:World} {K:VWP} {A:Prop} (tt:Nat→List (Nat×TypeId)) (hf:P.funcs[f]?=some fn) (h:A)
    (he:∀ args w,(callFunc f args).run P w=.ok (.enter f args) w) (hb:fn.body=some (fn.body.getD .skip)) (hn:Nat.ble args.length fn.ntmps=true)
    (hA:A=sw P none fn.ntmps tt (fn.body.getD .skip) 0 (Xqv P fn.results.toList K) ⟨Y6 args,[]⟩ w):Xa P f ⟨args⟩ w K:=
  XmE he (XoP tt hf hb hn (Eq.mp hA h))
def New (cs:Array Value) (t:TypeId) (w:World) (K:Nat→World→Prop):Prop:=K w.heap.size (w.alloc (.cells cs t))
def Drw (w:World) (K:World→Prop):Prop:=K w.drew
def rfs:Code→List (Array Tmp×Code×Code)
  | .seq a b=>rfs a++rfs b
  | .cond _ a b=>rfs a++rfs b
  | .block _ b=>rfs b
  | .loop b=>rfs b
  | .rangeFunc _ ps a b=>[(ps,a,b)]
  | _=>[]
def RangeF (P:Program) (g:Value) (tmps:Array Value) (rf:Array Tmp×Code×Code) (w:World) (Kn Kr:Nat→World→Prop):Prop:=
  ∃ gf first cap,g=.func (.func gf) first cap∧
    (∀ args w,(callFunc gf args).run P w=.ok (.enter gf args) w)∧
    ∀ fn:FuncId,UJ P gf ⟨first.toList++[.func (.yield (w.heap.size+1)) #[] #[]]++cap.toList⟩
      ((w.alloc (.deferred (some []))).alloc (.loop (YL fn tmps rf.1 rf.2.1 rf.2.2 w.heap.size)))
      fun _ w'=>∃ jump w'',(Instr.endLoop (w.heap.size+1)).run P w'=.ok jump w''∧
        match jump with
        | none=>Kn w.heap.size w''
        | some .ret=>Kr w.heap.size w''
        | _=>False
end Go.Fw
end

section
namespace Go.Fw
open Go
theorem XR {b:Bool} {A B:Prop} (h1:b=true→A) (h2:b=false→B):cond b A B:=by
  cases b with
  | true=>exact h1 rfl
  | false=>exact h2 rfl
theorem Xc {p:Prop} [d:Decidable p] {A B:Prop} (h1:p→A) (h2:¬ p→B):cond (decide p) A B:=by
  cases d with
  | isTrue h=>exact h1 h
  | isFalse h=>exact h2 h
theorem Yn {x y:Int} {A B:Prop} (h1:x=y→A) (h2:x≠y→B):cond (x == y) A B:=
  XR (fun h=>h1 (by simpa using h)) (fun h=>h2 (by simpa using h))
theorem XF {x y:Int} {A B:Prop} (h1:x≠y→A) (h2:x=y→B):cond (x != y) A B:=
  XR (fun h=>h1 (by simpa using h)) (fun h=>h2 (by simpa using h))
theorem X2 {A B:Prop} (h:A):cond true A B:=h
theorem Xz {A B:Prop} (h:B):cond false A B:=h
theorem W5 {p:Nat→Prop} (h:∃ k,p k):∃ k,p k∧∀ j,p j→k≤j:=by
  obtain ⟨k,hk⟩:=h
  induction k using Nat.strongRecOn with
  | ind k ih=>
    by_cases h:∃ j,j<k∧p j
    · obtain ⟨j,hj,hp⟩:=h; exact ih j hj hp
    · refine ⟨k,hk,fun j hp=>?_⟩
      rcases Nat.lt_or_ge j k with hj | hj
      · exact absurd ⟨j,hj,hp⟩ h
      · exact hj
noncomputable def Xbb (p:Nat→Prop):Nat:=open Classical in if h:∃ k,p k then (W5 h).choose else 0
theorem XdI {p:Nat→Prop} (h:∃ k,p k):p (Xbb p)∧∀ j,p j→Xbb p≤j:=by
  unfold Xbb
  rw [dif_pos h]
  exact (W5 h).choose_spec
theorem LoopS.ind {vs:List Value} {w:World} {step:Inv→J1→List Value→(Nat→Value)→World→Prop} (J:Nat→Inv) (k0:Nat) (h0:J k0 vs w)
    (h:∀ k us r w I μ,(∀ ds us' w' k',k' < k→J k' us' w'→Xj ds ds I μ us us' w w')→J k us w→step I μ us r w):LoopS vs w step:=by
  refine ⟨fun us w=>∃ k,J k us w,fun us w=>Xbb fun k=>J k us w,⟨k0,h0⟩,?_⟩
  intro us r w hex
  refine h (Xbb fun k=>J k us w) us r w _ _ ?_ (XdI hex).1
  intro ds us' w' k' hk hJ
  exact ⟨rfl,⟨k',hJ⟩,Nat.lt_of_le_of_lt ((XdI ⟨k',hJ⟩).2 k' hJ) hk⟩
structure Fr (l:List Nat) (w w':World):Prop where
  os:w'.os=w.os
  tape:w'.tape=w.tape
  output:w'.output=w.output
  size:w.heap.size≤w'.heap.size
  block:∀ k,k<w.heap.size→k∉l→w'.heap[k]?=w.heap[k]?
theorem Fr.refl (l:List Nat) (w:World):Fr l w w:=⟨rfl,rfl,rfl,Nat.le_refl _,fun _ _ _=>rfl⟩
theorem Fr.mono {l l':List Nat} {w w':World} (h:Fr l w w') (hl:∀ k∈l,k∈l'):Fr l' w w':=
  ⟨h.os,h.tape,h.output,h.size,fun k hk hn=>h.block k hk fun hm=>hn (hl k hm)⟩
theorem Fr.trans {l l1:List Nat} {a b c:World} (h:Fr l a b) (k:Fr l1 b c) (hl:∀ x∈l1,x∈l∨a.heap.size≤x):Fr l a c:=
  ⟨k.os.trans h.os,k.tape.trans h.tape,k.output.trans h.output,Nat.le_trans h.size k.size,fun i hi hn=>
    (k.block i (Nat.lt_of_lt_of_le hi h.size) fun hm=>by rcases hl i hm with h | h; exact hn h; omega).trans (h.block i hi hn)⟩
theorem Fr.then {l:List Nat} {a b c:World} (h:Fr l a b) (k:Fr [] b c):Fr l a c:=h.trans k (by simp)
theorem Fr.after {l:List Nat} {a b c:World} (h:Fr [] a b) (k:Fr l b c):Fr l a c:=(h.mono (by simp)).trans k (fun _ h=>.inl h)
theorem Fr.new {l:List Nat} {a b:World} (h:Fr l a b) (hl:∀ x∈l,a.heap.size≤x):Fr [] a b:=(Fr.refl [] a).trans h (fun x hx=>.inr (hl x hx))
theorem Fr.below {w w':World} (h:Fr [] w w'):RowKit.Below w.heap.size w w':=⟨h.os,h.tape,h.output,h.size,fun k hk=>h.block k hk (by simp)⟩
theorem Fr.drew (w:World):Fr [] w w.drew:=⟨rfl,rfl,rfl,Nat.le_refl _,fun _ _ _=>rfl⟩
theorem Fr.alloc (w:World) (o:Obj):Fr [] w (w.alloc o):=⟨rfl,rfl,rfl,by simp,fun k hk _=>by show (w.heap.push o)[k]?=_; rw [Array.getElem?_push,if_neg (by omega)]⟩
theorem Fr.setCell (w:World) (a:Addr) (v:Value):Fr [a.block] w (w.setCell a v):=
  ⟨rfl,rfl,rfl,by simp,fun k _ hn=>by simp only [World.setCell,Array.getElem?_modify]; rw [if_neg (by simp at hn; omega)]⟩
theorem Fr.setHeap {w w':World} {b:Nat} {o:Obj} (h:w'={ w with heap:=w.heap.setIfInBounds b o }):Fr [b] w w':=by
  subst h
  exact ⟨rfl,rfl,rfl,by simp,fun k _ hn=>by rw [Array.getElem?_setIfInBounds_ne]; simp at hn; omega⟩
theorem Fr.cell {l:List Nat} {w w':World} (h:Fr l w w') {a:Addr} {v:Value} (hc:w.cell? a=some v) (hn:a.block∉l):w'.cell? a=some v:=by
  rw [← hc]
  exact World.cell?_of_block (h.block _ (World.block_lt_of_cell? w a hc) hn)
def Blk (w:World) (b n:Nat) (f:Nat→Value):Prop:=∃ cs e,w.heap[b]?=some (.cells cs e)∧cs.size=n∧∀ i,i<n→cs[i]?=some (f i)
theorem Blk.lt {w:World} {b n:Nat} {f:Nat→Value} (h:Blk w b n f):b<w.heap.size:=by
  obtain ⟨cs,e,h,_⟩:=h
  rcases Nat.lt_or_ge b w.heap.size with h' | h'
  · exact h'
  · rw [Array.getElem?_eq_none h'] at h; cases h
theorem Blk.fr {l:List Nat} {w w':World} {b n:Nat} {f:Nat→Value} (h:Blk w b n f) (hf:Fr l w w') (hn:b∉l):Blk w' b n f:=by
  have hl:=h.lt
  obtain ⟨cs,e,h,h2⟩:=h
  exact ⟨cs,e,(hf.block b hl hn).trans h,h2⟩
theorem Blk.fr0 {w w':World} {b n:Nat} {f:Nat→Value} (h:Blk w b n f) (hf:Fr [] w w'):Blk w' b n f:=h.fr hf (by simp)
theorem Blk.cell {w:World} {b n:Nat} {f:Nat→Value} (h:Blk w b n f) {o:Nat} (ho:o<n):w.cell? ⟨b,o,none⟩=some (f o):=by
  obtain ⟨cs,e,h,hs,hc⟩:=h
  simp only [World.cell?,h]
  simpa using hc o ho
theorem Blk.frozen {w:World} {b n:Nat} {f:Nat→Value} (h:Blk w b n f) (o:Nat):w.frozen? ⟨b,o,none⟩=false:=by
  obtain ⟨cs,e,h,hs,hc⟩:=h
  simp [World.frozen?,h]
def upd (f:Nat→Value) (o:Nat) (v:Value):Nat→Value:=fun i=>if i=o then v else f i
theorem upd_same (f:Nat→Value) (o:Nat) (v:Value):upd f o v o=v:=by simp [upd]
theorem upd_ne (f:Nat→Value) (o:Nat) (v:Value) {i:Nat} (h:i≠o):upd f o v i=f i:=by simp [upd,h]
def updN (f:Nat→Value) (o:Nat) (vs:List Value):Nat→Value:=fun i=>if h:o≤i∧i - o<vs.length then vs[i - o]'h.2 else f i
theorem Blk.set {w:World} {b n:Nat} {f:Nat→Value} (h:Blk w b n f) {o:Nat} (ho:o<n) (v:Value):Blk (w.setCell ⟨b,o,none⟩ v) b n (upd f o v):=by
  obtain ⟨cs,e,h,hs,hc⟩:=h
  refine ⟨cs.setIfInBounds o v,e,?_,by simpa using hs,fun i hi=>?_⟩
  · simp only [World.setCell,Array.getElem?_modify,↓reduceIte,h,Option.map_some]
    rfl
  · simp only [upd]
    by_cases hio:i=o
    · subst hio; simp [hs,hi]
    · rw [if_neg hio,Array.getElem?_setIfInBounds_ne (Ne.symm hio)]; exact hc i hi
theorem Blk.new (w:World) (cs:Array Value) (t:TypeId) (f:Nat→Value) (hf:∀ i,i<cs.size→cs[i]?=some (f i)):Blk (w.alloc (.cells cs t)) w.heap.size cs.size f:=
  ⟨cs,t,by show (w.heap.push _)[w.heap.size]?=_; simp,rfl,hf⟩
theorem Blk.ext {w:World} {b n:Nat} {f g:Nat→Value} (h:Blk w b n f) (hg:∀ i,i<n→f i=g i):Blk w b n g:=by
  obtain ⟨cs,e,h,hs,hc⟩:=h
  exact ⟨cs,e,h,hs,fun i hi=>(hc i hi).trans (by rw [hg i hi])⟩
theorem New.intro {cs:Array Value} {t:TypeId} {w:World} {K:Nat→World→Prop} (h:∀ w',Fr [] w w'→Blk w' w.heap.size cs.size (fun i=>cs.getD i undef)→w'.heap.size=w.heap.size+1→K w.heap.size w'):New cs t w K:=by
  refine h _ (Fr.alloc _ _) (Blk.new _ _ _ _ fun i hi=>?_) (by simp)
  rw [Array.getD_eq_getD_getElem?,Array.getElem?_eq_getElem hi]; rfl
theorem Drw.intro {w:World} {K:World→Prop} (h:∀ w',Fr [] w w'→w'.heap.size=w.heap.size→K w'):Drw w K:=h _ (Fr.drew w) rfl
theorem XoQ {P:Program} {t:TypeId} (ht:res P (isAgg t)=some false) {a:Addr} {w:World} {v:Value} (hc:w.cell? a=some v):(loadVar t a).run P w=.ok v w:=by
  unfold loadVar
  rw [Sem.run_bind,Xx ht]
  show (load a).run P w=_
  rw [run_load,hc]
theorem Ld.cell {P:Program} {t:TypeId} (ht:res P (isAgg t)=some false) {a:Addr} {w:World} {v:Value} (hc:w.cell? a=some v):Ld P t (.pointer (some a)) w v:=by
  show (loadVar t a).run P w=_
  exact XoQ ht hc
theorem Ld.blk {P:Program} {t:TypeId} (ht:res P (isAgg t)=some false) {b n o:Nat} {f:Nat→Value} {w:World} {v:Value} (h:Blk w b n f) (ho:o<n) (hv:f o=v):Ld P t (.pointer (some ⟨b,o,none⟩)) w v:=
  Ld.cell ht (by rw [h.cell ho,hv])
theorem Xi (b o n:Nat):(⟨b,o,none⟩:Addr).add n=⟨b,o+n,none⟩:=by
  unfold Addr.add; split <;> simp_all
theorem Ld.agg {P:Program} {t:TypeId} {n:Nat} (ht:res P (isAgg t)=some true) (hs:res P (sizeOf t)=some n) {a:Addr} {w:World} {cs:List Value} (hn:cs.length=n) (hc:∀ j v,cs[j]?=some v→w.cell? (a.add j)=some v) :
    Ld P t (.pointer (some a)) w (.agg ⟨cs⟩):=by
  show (loadVar t a).run P w=_
  unfold loadVar
  rw [Sem.run_bind,Xx ht]
  show (do pure (Value.agg (← loadCells a (← sizeOf t))):Sem Value).run P w=_
  rw [Sem.run_bind,Xx hs]
  show (do pure (Value.agg (← loadCells a n)):Sem Value).run P w=_
  rw [Sem.run_bind,← hn,run_loadCells_list w a cs hc]
  rfl
theorem XmF {P:Program} {t:TypeId} (hs:res P (sizeOf t)=some 1) {a:Addr} {w:World} {v:Value} (hv:v.oneCell'=true) (hc1:v.cells=#[v]) {u:Value} (hc:w.cell? a=some u) (hz:w.frozen? a=false) :
    (storeVar t a v).run P w=.ok () (w.setCell a v):=by
  have e:a.add 0=a:=rfl
  unfold storeVar
  rw [Sem.run_bind,Xx hs]
  simp [hc1,storeCells,e,run_store _ _ _ _ _ hv,hc,hz,Result.andThen]
end Go.Fw
end

section
namespace Go.Fw
open Go
theorem Xe {n:Int} (h0:-9223372036854775808≤n) (h1:n<9223372036854775808):IntKind.i64.wrap n=n:=by rw [IntKind.wrap_i64]; omega
theorem Xhs {n:Int} (h0:0≤n) (h1:n<256):IntKind.u8.wrap n=n:=by rw [IntKind.wrap_u8]; omega
theorem XC {n:Int} (h0:0≤n) (h1:n<18446744073709551616):IntKind.u64.wrap n=n:=by rw [IntKind.wrap_u64]; omega
theorem Yg (w n:Nat):BitVec.ofInt w (n:Int)=BitVec.ofNat w n:=BitVec.ofInt_ofNat ..
theorem XvH (x y:UInt8):J0 .u8 x.toNat y.toNat=((x &&& y).toNat:Int):=by
  have h:(x &&& y).toNat=x.toNat &&& y.toNat:=UInt8.toNat_and x y
  have hx:=x.toNat_lt; have hy:=y.toNat_lt; have hz:=(x &&& y).toNat_lt
  show IntKind.u8.wrap (((BitVec.ofInt 8 (x.toNat:Int) &&& BitVec.ofInt 8 (y.toNat:Int)).toNat:Nat):Int)=_
  rw [Yg,Yg,BitVec.toNat_and,BitVec.toNat_ofNat,BitVec.toNat_ofNat,Nat.mod_eq_of_lt hx,Nat.mod_eq_of_lt hy,← h]
  have e:IntKind.u8.wrap ((x &&& y).toNat:Int)=(((x &&& y).toNat:Nat):Int) % (2 ^ 8:Int):=by simp [IntKind.wrap,IntKind.bits,IntKind.signed]
  rw [e]; omega
theorem Xup (x y:UInt64):J0 .u64 x.toNat y.toNat=((x &&& y).toNat:Int):=by
  have h:(x &&& y).toNat=x.toNat &&& y.toNat:=UInt64.toNat_and x y
  have hx:=x.toNat_lt; have hy:=y.toNat_lt; have hz:=(x &&& y).toNat_lt
  show IntKind.u64.wrap (((BitVec.ofInt 64 (x.toNat:Int) &&& BitVec.ofInt 64 (y.toNat:Int)).toNat:Nat):Int)=_
  rw [Yg,Yg,BitVec.toNat_and,BitVec.toNat_ofNat,BitVec.toNat_ofNat,Nat.mod_eq_of_lt hx,Nat.mod_eq_of_lt hy,← h]
  have e:IntKind.u64.wrap ((x &&& y).toNat:Int)=(((x &&& y).toNat:Nat):Int) % (2 ^ 64:Int):=by simp [IntKind.wrap,IntKind.bits,IntKind.signed]
  rw [e]; omega
theorem UV (x y:UInt8):YE .u8 x.toNat y.toNat=((x ^^^ y).toNat:Int):=by
  have h:(x ^^^ y).toNat=x.toNat ^^^ y.toNat:=UInt8.toNat_xor x y
  have hx:=x.toNat_lt; have hy:=y.toNat_lt; have hz:=(x ^^^ y).toNat_lt
  show IntKind.u8.wrap (((BitVec.ofInt 8 (x.toNat:Int) ^^^ BitVec.ofInt 8 (y.toNat:Int)).toNat:Nat):Int)=_
  rw [Yg,Yg,BitVec.toNat_xor,BitVec.toNat_ofNat,BitVec.toNat_ofNat,Nat.mod_eq_of_lt hx,Nat.mod_eq_of_lt hy,← h]
  have e:IntKind.u8.wrap ((x ^^^ y).toNat:Int)=(((x ^^^ y).toNat:Nat):Int) % (2 ^ 8:Int):=by simp [IntKind.wrap,IntKind.bits,IntKind.signed]
  rw [e]; omega
theorem XwC (x y:UInt64):YE .u64 x.toNat y.toNat=((x ^^^ y).toNat:Int):=by
  have h:(x ^^^ y).toNat=x.toNat ^^^ y.toNat:=UInt64.toNat_xor x y
  have hx:=x.toNat_lt; have hy:=y.toNat_lt; have hz:=(x ^^^ y).toNat_lt
  show IntKind.u64.wrap (((BitVec.ofInt 64 (x.toNat:Int) ^^^ BitVec.ofInt 64 (y.toNat:Int)).toNat:Nat):Int)=_
  rw [Yg,Yg,BitVec.toNat_xor,BitVec.toNat_ofNat,BitVec.toNat_ofNat,Nat.mod_eq_of_lt hx,Nat.mod_eq_of_lt hy,← h]
  have e:IntKind.u64.wrap ((x ^^^ y).toNat:Int)=(((x ^^^ y).toNat:Nat):Int) % (2 ^ 64:Int):=by simp [IntKind.wrap,IntKind.bits,IntKind.signed]
  rw [e]; omega
theorem or8 (x y:UInt8):ior .u8 x.toNat y.toNat=((x ||| y).toNat:Int):=by
  have h:(x ||| y).toNat=x.toNat ||| y.toNat:=UInt8.toNat_or x y
  have hx:=x.toNat_lt; have hy:=y.toNat_lt; have hz:=(x ||| y).toNat_lt
  show IntKind.u8.wrap (((BitVec.ofInt 8 (x.toNat:Int) ||| BitVec.ofInt 8 (y.toNat:Int)).toNat:Nat):Int)=_
  rw [Yg,Yg,BitVec.toNat_or,BitVec.toNat_ofNat,BitVec.toNat_ofNat,Nat.mod_eq_of_lt hx,Nat.mod_eq_of_lt hy,← h]
  have e:IntKind.u8.wrap ((x ||| y).toNat:Int)=(((x ||| y).toNat:Nat):Int) % (2 ^ 8:Int):=by simp [IntKind.wrap,IntKind.bits,IntKind.signed]
  rw [e]; omega
theorem XvI (x y:UInt64):ior .u64 x.toNat y.toNat=((x ||| y).toNat:Int):=by
  have h:(x ||| y).toNat=x.toNat ||| y.toNat:=UInt64.toNat_or x y
  have hx:=x.toNat_lt; have hy:=y.toNat_lt; have hz:=(x ||| y).toNat_lt
  show IntKind.u64.wrap (((BitVec.ofInt 64 (x.toNat:Int) ||| BitVec.ofInt 64 (y.toNat:Int)).toNat:Nat):Int)=_
  rw [Yg,Yg,BitVec.toNat_or,BitVec.toNat_ofNat,BitVec.toNat_ofNat,Nat.mod_eq_of_lt hx,Nat.mod_eq_of_lt hy,← h]
  have e:IntKind.u64.wrap ((x ||| y).toNat:Int)=(((x ||| y).toNat:Nat):Int) % (2 ^ 64:Int):=by simp [IntKind.wrap,IntKind.bits,IntKind.signed]
  rw [e]; omega
theorem VJ (a b:Nat):Int.fdiv (a:Int) (b:Int)=((a / b:Nat):Int):=by
  rw [Int.fdiv_eq_ediv_of_nonneg _ (by omega)]; rfl
theorem XvJ (x:UInt8) (k:Nat) (hk:k<8):Int.fdiv (x.toNat:Int) (2 ^ k)=((x >>> UInt8.ofNat k).toNat:Int):=by
  have e:((2:Int) ^ k)=((2 ^ k:Nat):Int):=by simp
  rw [e,VJ,UInt8.toNat_shiftRight,Nat.shiftRight_eq_div_pow]
  have:(UInt8.ofNat k).toNat % 8=k:=by simp; omega
  rw [this]
theorem XwD (x:UInt64) (k:Nat) (hk:k<64):Int.fdiv (x.toNat:Int) (2 ^ k)=((x >>> UInt64.ofNat k).toNat:Int):=by
  have e:((2:Int) ^ k)=((2 ^ k:Nat):Int):=by simp
  rw [e,VJ,UInt64.toNat_shiftRight,Nat.shiftRight_eq_div_pow]
  have:(UInt64.ofNat k).toNat % 64=k:=by simp; omega
  rw [this]
theorem XvK (x:UInt8) (k:Nat) (hk:k<8):IntKind.u8.wrap ((x.toNat:Int)*2 ^ k)=((x <<< UInt8.ofNat k).toNat:Int):=by
  have e:((2:Int) ^ k)=((2 ^ k:Nat):Int):=by simp
  have hk':(UInt8.ofNat k).toNat % 8=k:=by simp; omega
  rw [e,IntKind.wrap_u8,UInt8.toNat_shiftLeft,hk',Nat.shiftLeft_eq]
  omega
theorem Xgq {p:UInt8→Bool} (h:(List.range 256).all (fun n=>p (UInt8.ofNat n))=true) (x:UInt8):p x=true:=by
  have:=List.all_eq_true.1 h x.toNat (by simpa using x.toNat_lt)
  simpa using this
theorem byte_of {n:Int} (h0:0≤n) (h1:n<256):∃ x:UInt8,n=(x.toNat:Int):=⟨UInt8.ofNat n.toNat,by simp; omega⟩
theorem eq8 {x y:UInt8}:((x.toNat:Int)=y.toNat)↔x=y:=by
  rw [← UInt8.toNat_inj]; omega
theorem XmG (x y:UInt8):((x.toNat:Int) == (y.toNat:Int))=(x == y):=by
  rw [Bool.eq_iff_iff]; simp [eq8]
theorem Xw0 {x y:UInt64}:((x.toNat:Int)=y.toNat)↔x=y:=by
  rw [← UInt64.toNat_inj]; omega
end Go.Fw
end

section
namespace Go.Fw
open Go
theorem Xk {P:Program} {t:TypeId} {d:TypeDesc} (h:P.underlying t=some d):res P (underlying t)=some d:=by
  show res P ((program.bind fun p => match p.underlying t with | some d => pure d | none => stuck "no such type") : Sem TypeDesc) = _
  rw [Xm]
  show (some P).bind _=_
  simp only [Option.bind,h]
  rfl
theorem IxA.slice {P:Program} {t e:TypeId} {s:Nat} (ht:P.underlying t=some (.slice e)) (hs:res P (sizeOf e)=some s) {b o len cap:Nat} {k:IntKind} {i:Int} (h0:0≤i) (h1:i<len) :
    IxA P t (.slice (some ⟨b,o,none⟩) len cap) (.int k i) ⟨b,o+i.toNat*s,none⟩:=by
  show res P ((do
    let (k,i) ← asIntOf (.int k i)
    let (base,len,elem) ← match ← underlying t,Value.slice (some ⟨b,o,none⟩) len cap with
      | .array len elem,x=>do pure (some (← Instr.sureAddr x),len,elem)
      | .slice elem,.slice base len _=>pure (base,len,elem)
      | _, _ => stuck "indexAddr: an array's address or a slice expected"
    let tiny:=len≤1 && (match ← underlying t with | .array ..=>true | _=>false)
    match base with
    | some a=>
      if 0≤i∧i<len then pure (.pointer (some (a.add (i.toNat*(← sizeOf elem)))))
      else if tiny then unsupported (.noEntry "op/indexAddr.an index out of range at an array of length 0 or 1 (ledger 616)")
      else boundsPanic k i len .index
    | none=>boundsPanic k i 0 .index):Sem Value)=_
  rw [← Xi b o]
  simp only [bind,Xm,Xk ht,Option.bind]
  show res P ((if 0≤i∧i<len then _ else _):Sem Value)=_
  rw [if_pos ⟨h0,h1⟩]
  show res P ((sizeOf e).bind _)=_
  rw [Xm,hs]
  rfl
theorem IxA.arr {P:Program} {t e:TypeId} {s n:Nat} (ht:P.underlying t=some (.array n e)) (hs:res P (sizeOf e)=some s) {b o:Nat} {k:IntKind} {i:Int} (h0:0≤i) (h1:i<n) :
    IxA P t (.pointer (some ⟨b,o,none⟩)) (.int k i) ⟨b,o+i.toNat*s,none⟩:=by
  show res P ((do
    let (k,i) ← asIntOf (.int k i)
    let (base,len,elem) ← match ← underlying t,Value.pointer (some ⟨b,o,none⟩) with
      | .array len elem,x=>do pure (some (← Instr.sureAddr x),len,elem)
      | .slice elem,.slice base len _=>pure (base,len,elem)
      | _, _ => stuck "indexAddr: an array's address or a slice expected"
    let tiny:=len≤1 && (match ← underlying t with | .array ..=>true | _=>false)
    match base with
    | some a=>
      if 0≤i∧i<len then pure (.pointer (some (a.add (i.toNat*(← sizeOf elem)))))
      else if tiny then unsupported (.noEntry "op/indexAddr.an index out of range at an array of length 0 or 1 (ledger 616)")
      else boundsPanic k i len .index
    | none=>boundsPanic k i 0 .index):Sem Value)=_
  rw [← Xi b o]
  simp only [bind,Xm,Xk ht,Option.bind]
  show res P ((if 0≤i∧i<n then _ else _):Sem Value)=_
  rw [if_pos ⟨h0,h1⟩]
  show res P ((sizeOf e).bind _)=_
  rw [Xm,hs]
  rfl
theorem IxA.slice1 {P:Program} {t e:TypeId} (ht:P.underlying t=some (.slice e)) (hs:res P (sizeOf e)=some 1) {b o len cap:Nat} {k:IntKind} {i:Int} (h0:0≤i) (h1:i<len) :
    IxA P t (.slice (some ⟨b,o,none⟩) len cap) (.int k i) ⟨b,o+i.toNat,none⟩:=by
  have:=IxA.slice (P:=P) (cap:=cap) (k:=k) (b:=b) (o:=o) ht hs h0 h1
  rwa [Nat.mul_one] at this
theorem IxA.arr1 {P:Program} {t e:TypeId} {n:Nat} (ht:P.underlying t=some (.array n e)) (hs:res P (sizeOf e)=some 1) {b o:Nat} {k:IntKind} {i:Int} (h0:0≤i) (h1:i<n) :
    IxA P t (.pointer (some ⟨b,o,none⟩)) (.int k i) ⟨b,o+i.toNat,none⟩:=by
  have:=IxA.arr (P:=P) (k:=k) (b:=b) (o:=o) ht hs h0 h1
  rwa [Nat.mul_one] at this
def Row (w:World) (p:Option Addr) (vs:List Value):Prop:=vs=[]∨∃ b o,p=some ⟨b,o,none⟩∧∀ j v,vs[j]?=some v→w.cell? ⟨b,o+j,none⟩=some v
theorem Row.nil (w:World) (p:Option Addr):Row w p []:=.inl rfl
theorem Row.fr {l:List Nat} {w w':World} {p:Option Addr} {vs:List Value} (h:Row w p vs) (hf:Fr l w w') (hn:∀ a,p=some a→a.block∉l):Row w' p vs:=by
  rcases h with h | ⟨b,o,rfl,h⟩
  · exact .inl h
  · exact .inr ⟨b,o,rfl,fun j v hj=>hf.cell (h j v hj) (hn ⟨b,o,none⟩ rfl)⟩
theorem Row.fr0 {w w':World} {p:Option Addr} {vs:List Value} (h:Row w p vs) (hf:Fr [] w w'):Row w' p vs:=h.fr hf (by simp)
theorem Row.ix {P:Program} {t e:TypeId} (ht:P.underlying t=some (.slice e)) (hs:res P (sizeOf e)=some 1) {w:World} {p:Option Addr} {vs:List Value} (h:Row w p vs) {len cap:Nat} {k:IntKind} {i:Int}
    (hl:len=vs.length) (h0:0≤i) (h1:i<len) {v:Value} (hv:vs[i.toNat]?=some v):∃ a,IxA P t (.slice p len cap) (.int k i) a∧w.cell? a=some v:=by
  rcases h with rfl | ⟨b,o,rfl,h⟩
  · simp at hl; omega
  · exact ⟨_,IxA.slice1 ht hs h0 h1,h _ _ hv⟩
theorem Blk.row {w:World} {b n:Nat} {f:Nat→Value} (h:Blk w b n f) (o:Nat) (vs:List Value) (hv:∀ j v,vs[j]?=some v→o+j<n∧f (o+j)=v):Row w (some ⟨b,o,none⟩) vs:=
  .inr ⟨b,o,rfl,fun j v hj=>by rw [h.cell (hv j v hj).1,(hv j v hj).2]⟩
theorem Sto.blk {P:Program} {t:TypeId} (hs:res P (sizeOf t)=some 1) {b n o:Nat} {f:Nat→Value} {w:World} {v:Value} (hB:Blk w b n f) (ho:o<n) (hv:v.oneCell'=true) (hc:v.cells=#[v]) {K:World→Prop}
    (h:∀ w',Fr [b] w w'→Blk w' b n (upd f o v)→w'.heap.size=w.heap.size→K w'):∃ w',Sto P t (.pointer (some ⟨b,o,none⟩)) v w w'∧K w':=
  ⟨_,XmF hs hv hc (hB.cell ho) (hB.frozen o),h _ (Fr.setCell w ⟨b,o,none⟩ v) (hB.set ho v) (by simp)⟩
theorem XrO (f:Nat→Value) (o:Nat) (v:Value) (vs:List Value):updN f o (v::vs)=updN (upd f o v) (o+1) vs:=by
  funext i
  unfold updN upd
  by_cases h1:i=o
  · subst h1
    have h2:i≤i∧i - i<(v::vs).length:=by simp
    have h3:¬ (i+1≤i∧i - (i+1)<vs.length):=by omega
    rw [dif_pos h2,dif_neg h3,if_pos rfl]
    simp
  · by_cases h2:o≤i∧i - o<(v::vs).length
    · have h3:o+1≤i∧i - (o+1)<vs.length:=by simp only [List.length_cons] at h2; omega
      rw [dif_pos h2,dif_pos h3]
      have:i - o=(i - (o+1))+1:=by omega
      simp only [this,List.getElem_cons_succ]
    · have h3:¬ (o+1≤i∧i - (o+1)<vs.length):=by simp only [List.length_cons] at h2; omega
      rw [dif_neg h2,dif_neg h3,if_neg h1]
theorem Zj {P:Program}:∀ (vs:List Value) (i b n o:Nat) (f:Nat→Value) (w:World),Blk w b n f→o+i+vs.length≤n→(∀ v∈vs,v.oneCell'=true)→
    ∃ w',(storeCells ⟨b,o,none⟩ vs i).run P w=.ok () w'∧Fr [b] w w'∧Blk w' b n (updN f (o+i) vs)∧w'.heap.size=w.heap.size:=by
  intro vs
  induction vs with
  | nil=>
    intro i b n o f w hB hl hv
    refine ⟨w,rfl,Fr.refl _ _,?_,rfl⟩
    exact hB.ext fun i hi=>by unfold updN; rw [dif_neg (by simp)]
  | cons v vs ih=>
    intro i b n o f w hB hl hv
    simp only [List.length_cons] at hl
    obtain ⟨w',h1,h2,h3,h4⟩:=ih (i+1) b n o (upd f (o+i) v) (w.setCell ⟨b,o+i,none⟩ v) (hB.set (by omega) v) (by omega) (fun u hu=>hv u (by simp [hu]))
    refine ⟨w',?_,(Fr.setCell w ⟨b,o+i,none⟩ v).trans h2 (by simp),?_,by simpa using h4⟩
    · unfold storeCells
      rw [Sem.run_bind,Xi,run_store _ _ _ _ _ (hv v (by simp)),hB.cell (by omega),hB.frozen]
      exact h1
    · rw [XrO]; exact h3
theorem Sto.agg {P:Program} {t:TypeId} {m:Nat} (hs:res P (sizeOf t)=some m) {b n o:Nat} {f:Nat→Value} {w:World} {cs:List Value} (hm:cs.length=m) (hB:Blk w b n f) (ho:o+m≤n) (hv:∀ v∈cs,v.oneCell'=true) {K:World→Prop}
    (h:∀ w',Fr [b] w w'→Blk w' b n (updN f o cs)→w'.heap.size=w.heap.size→K w'):∃ w',Sto P t (.pointer (some ⟨b,o,none⟩)) (.agg ⟨cs⟩) w w'∧K w':=by
  obtain ⟨w',h1,h2,h3,h4⟩:=Zj (P:=P) cs 0 b n o f w hB (by omega) hv
  refine ⟨w',?_,h w' h2 h3 h4⟩
  show (storeVar t ⟨b,o,none⟩ (.agg ⟨cs⟩)).run P w=_
  unfold storeVar
  rw [Sem.run_bind,Xx hs]
  simp only [Result.andThen,Value.cells,List.size_toArray,hm,ne_eq,not_true_eq_false,if_false]
  exact h1
theorem Ef.new {P:Program} {m:Sem Value} {w:World} {v:Value} {cs:Array Value} {e:TypeId} (hr:m.run P w=.ok v (w.alloc (.cells cs e))) {K:World→Prop}
    (h:∀ w',Fr [] w w'→Blk w' w.heap.size cs.size (fun i=>cs.getD i undef)→w'.heap.size=w.heap.size+1→K w'):∃ w',Ef P m w v w'∧K w':=by
  refine ⟨_,hr,h _ (Fr.alloc _ _) (Blk.new _ _ _ _ fun i hi=>?_) (by simp)⟩
  rw [Array.getD_eq_getD_getElem?,Array.getElem?_eq_getElem hi]; rfl
end Go.Fw
end

section
namespace Go.Fw
open Go
section
variable {P:Program} {t:TypeId} {x y:Operand}
theorem Pu.shl {k k':IntKind} {a s:Int} (h0:0≤s):Pu P (do eqGuard .shl t x y (.int k a) (.int k' s); binOp .shl t (.int k a) (.int k' s):Sem Value) (.int k (k.wrap (a*2 ^ min s.toNat k.bits))):=by
  show res P (Op.shift .shl k a k' s)=_
  unfold Op.shift
  rw [if_neg (by omega)]
  rfl
theorem Pu.shr {k k':IntKind} {a s:Int} (h0:0≤s):Pu P (do eqGuard .shr t x y (.int k a) (.int k' s); binOp .shr t (.int k a) (.int k' s):Sem Value) (.int k (a.fdiv (2 ^ min s.toNat k.bits))):=by
  show res P (Op.shift .shr k a k' s)=_
  unfold Op.shift
  rw [if_neg (by omega)]
  rfl
theorem Pu.quo {k:IntKind} {a b:Int} (h0:b≠0):Pu P (do eqGuard .quo t x y (.int k a) (.int k b); binOp .quo t (.int k a) (.int k b):Sem Value) (.int k (k.wrap (a.tdiv b))):=by
  show res P (if k ≠ k then stuck "BinOp: operands of different kinds" else Op.intDiv .quo k a b) = _
  rw [if_neg (by simp)]
  unfold Op.intDiv
  rw [if_neg h0]
  rfl
theorem Pu.rem {k:IntKind} {a b:Int} (h0:b≠0):Pu P (do eqGuard .rem t x y (.int k a) (.int k b); binOp .rem t (.int k a) (.int k b):Sem Value) (.int k (a.tmod b)):=by
  show res P (if k ≠ k then stuck "BinOp: operands of different kinds" else Op.intDiv .rem k a b) = _
  rw [if_neg (by simp)]
  unfold Op.intDiv
  rw [if_neg h0]
  rfl
theorem Ef.ptrNil {p:Option Addr} {w:World} {e:TypeId} (ht:P.underlying t=some (.pointer e)):Ef P (do eqGuard .eql t x y (.pointer p) (.pointer none); binOp .eql t (.pointer p) (.pointer none):Sem Value) w (.bool p.isNone) w:=by
  have h:res P (do eqGuard .eql t x y (.pointer p) (.pointer none); binOp .eql t (.pointer p) (.pointer none):Sem Value)=some (.bool p.isNone):=by
    cases p with
    | none=>
      show res P ((Op.equalIn Op.maxDepth t (.pointer none) (.pointer none)).bind fun b=>pure (Value.bool b))=_
      rw [Xm]
      have:res P (Op.equalIn Op.maxDepth t (.pointer none) (.pointer none))=some true:=by
        show res P ((underlying t).bind _)=_
        rw [Xm,Xk ht]
        rfl
      rw [this]
      rfl
    | some a=>
      show res P ((Op.equalIn Op.maxDepth t (.pointer (some a)) (.pointer none)).bind fun b=>pure (Value.bool b))=_
      rw [Xm]
      have:res P (Op.equalIn Op.maxDepth t (.pointer (some a)) (.pointer none))=some false:=by
        show res P ((underlying t).bind _)=_
        rw [Xm,Xk ht]
        rfl
      rw [this]
      rfl
  exact Xx h w
theorem Ef.sliceNil {p:Option Addr} {l c:Nat} {w:World} {e:TypeId} (ht:P.underlying t=some (.slice e)):Ef P (do eqGuard .eql t x y (.slice p l c) (.slice none 0 0); binOp .eql t (.slice p l c) (.slice none 0 0):Sem Value) w (.bool p.isNone) w:=by
  have h:res P (do eqGuard .eql t x y (.slice p l c) (.slice none 0 0); binOp .eql t (.slice p l c) (.slice none 0 0):Sem Value)=some (.bool p.isNone):=by
    show res P ((Op.equalIn Op.maxDepth t (.slice p l c) (.slice none 0 0)).bind fun b=>pure (Value.bool b))=_
    rw [Xm]
    have:res P (Op.equalIn Op.maxDepth t (.slice p l c) (.slice none 0 0))=some p.isNone:=by
      show res P ((underlying t).bind _)=_
      rw [Xm,Xk ht]
      cases p <;> cases l <;> cases c <;> rfl
    rw [this]
    rfl
  exact Xx h w
theorem Ef.strEq {a b:ByteArray} {w:World}:Ef P (do eqGuard .eql t x y (.string a) (.string b); binOp .eql t (.string a) (.string b):Sem Value) w (.bool (a.toList == b.toList)) w:=by
  refine Xx ?_ w
  show res P (Op.stringOp .eql a b)=_
  rfl
end
def Xxb (P:Program) (f:FuncId) (e:Array Value→Sem Value):Prop:=∀ args w,(callFunc f args).run P w=((e args).run P w).andThen fun v w'=>.ok (.value v) w'
theorem Yx {P:Program} {f:FuncId} {args:Array Value} {w w':World} {v:Value} {K:VWP} (h:(callFunc f args).run P w=.ok (.value v) w') (hk:K v w'):Xa P f args w K:=
  Xmt (.inr ⟨v,w',h,hk⟩)
end Go.Fw
end

section
namespace Go.Fw
open Go
theorem XpP {P : Program} {f : FuncId} {fn : Func} (hf : P.funcs[f]? = some fn) (hname : (fn.name == "runtime.NumGoroutine") = false) (hb : fn.body.isNone = true) (hn : Extern.findNext fn = none) (m : Mark) (he : Extern.find fn = some (fun _ => do mark m; pure Extern.Race.none_)) {w : World} {K : Value → World → Prop} (h : K (.tuple #[]) w) : Xa P f #[] w K :=
  Yx (run_call_mark0 hf hname hb hn m he w) h
theorem XmH {P : Program} {f : FuncId} {fn : Func} (hf : P.funcs[f]? = some fn) (hname : (fn.name == "runtime.NumGoroutine") = false) (hb : fn.body.isNone = true) (hn : Extern.findNext fn = none) (m : Addr → Mark) (he : Extern.find fn = some (Extern.Race.marked m)) {a : Addr} {w : World} {K : Value → World → Prop} (h : K (.tuple #[]) w) : Xa P f #[.pointer (some a)] w K :=
  Yx (run_call_marked hf hname hb hn m he a w) h
theorem XwE {P : Program} {f : FuncId} {fn : Func} (hf : P.funcs[f]? = some fn) (hname : (fn.name == "runtime.NumGoroutine") = false) (hb : fn.body.isNone = true) (hn : Extern.findNext fn = none) (k : IntKind) (he : Extern.find fn = some (Extern.Atomic.casT (.int k))) {b n o : Nat} {g : Nat → Value} {x y : Int} {w : World} (hB : Blk w b n g) (ho : o < n) (hv : g o = .int k x) {K : Value → World → Prop}
    (h:∀ w',Fr [b] w w'→Blk w' b n (upd g o (.int k y))→w'.heap.size=w.heap.size→K (.bool true) w'):Xa P f #[.pointer (some ⟨b,o,none⟩),.int k x,.int k y] w K:=
  Yx (run_call_cas_hit hf hname hb hn k he (by rw [hB.cell ho,hv]) (hB.frozen o)) (h _ (Fr.setCell w ⟨b,o,none⟩ _) (hB.set ho _) (by simp))
theorem XvL {P : Program} {f : FuncId} {fn : Func} (hf : P.funcs[f]? = some fn) (hname : (fn.name == "runtime.NumGoroutine") = false) (hb : fn.body.isNone = true) (hn : Extern.findNext fn = none) (k : IntKind) (he : Extern.find fn = some (Extern.Atomic.loadT (.int k))) {b n o : Nat} {g : Nat → Value} {x : Int} {w : World} (hB : Blk w b n g) (ho : o < n) (hv : g o = .int k x) {K : Value → World → Prop}
    (h:K (.int k x) w):Xa P f #[.pointer (some ⟨b,o,none⟩)] w K:=
  Yx (run_call_load hf hname hb hn k he (by rw [hB.cell ho,hv])) h
theorem Xtl {P : Program} {f : FuncId} {fn : Func} (hf : P.funcs[f]? = some fn) (hname : (fn.name == "runtime.NumGoroutine") = false) (hb : fn.body.isNone = true) (hn : Extern.findNext fn = none) (he : Extern.find fn = some Extern.Atomic.storeT) {k : IntKind} {b n o : Nat} {g : Nat → Value} {y : Int} {w : World} (hB : Blk w b n g) (ho : o < n) {K : Value → World → Prop}
    (h:∀ w',Fr [b] w w'→Blk w' b n (upd g o (.int k y))→w'.heap.size=w.heap.size→K (.tuple #[]) w'):Xa P f #[.pointer (some ⟨b,o,none⟩),.int k y] w K:=
  Yx (run_call_store hf hname hb hn he (hB.cell ho) (hB.frozen o)) (h _ (Fr.setCell w ⟨b,o,none⟩ _) (hB.set ho _) (by simp))
theorem Xuq {P : Program} {f : FuncId} {fn : Func} (hf : P.funcs[f]? = some fn) (hname : (fn.name == "runtime.NumGoroutine") = false) (hb : fn.body.isNone = true) (hn : Extern.findNext fn = none) (k : IntKind) (he : Extern.find fn = some (Extern.Atomic.update (Op.intArith .add) k true)) {b n o : Nat} {g : Nat → Value} {x y : Int} {w : World} (hB : Blk w b n g) (ho : o < n) (hv : g o = .int k x) {K : Value → World → Prop}
    (h:∀ w',Fr [b] w w'→Blk w' b n (upd g o (.int k (k.wrap (x+y))))→w'.heap.size=w.heap.size→K (.int k (k.wrap (x+y))) w'):Xa P f #[.pointer (some ⟨b,o,none⟩),.int k y] w K:=
  Yx (run_call_add hf hname hb hn k he (by rw [hB.cell ho,hv]) (hB.frozen o) rfl) (h _ (Fr.setCell w ⟨b,o,none⟩ _) (hB.set ho _) (by simp))
theorem XoR {P:Program} {src dst t:TypeId} (hs:P.underlying src=some (.pointer t)) (hd:P.underlying dst=some .unsafePointer) (hsz:(P.info? t).map (fun i=>decide (i.size=0))=some false)
    {b n o:Nat} {g:Nat→Value} {w:World} (hB:Blk w b n g) (ho:o<n):Ef P (convert src dst (.pointer (some ⟨b,o,none⟩))) w (.pointer (some ⟨b,o,none⟩)) w:=
  run_convert_to_unsafe hs hd hsz (hB.cell ho)
def XpQ (P:Program) (src dst:TypeId):Bool:=
  match P.underlying src,P.underlying dst with
  | some (.pointer t),some .unsafePointer=>(match P.info? t with | some i=>!(i.size == 0) | none=>false)
  | _,_=>false
def YT (P:Program) (t:TypeId) (s:Nat):Bool:=
  match P.underlying t with
  | some (.slice e)=>(match res P (sizeOf e) with | some k=>k == s | none=>false)
  | _=>false
def Xjt (P:Program) (t:TypeId) (n s:Nat):Bool:=
  match P.underlying t with
  | some (.array m e)=>m == n && (match res P (sizeOf e) with | some k=>k == s | none=>false)
  | _=>false
def XvM (P:Program) (t:TypeId):Bool:=match P.underlying t with | some (.pointer _)=>true | _=>false
def XpR (P:Program) (t:TypeId):Bool:=match P.underlying t with | some (.slice _)=>true | _=>false
theorem Jt {P:Program} {t:TypeId} {s:Nat} (h:YT P t s=true):∃ e,P.underlying t=some (.slice e)∧res P (sizeOf e)=some s:=by
  unfold YT at h
  split at h
  · rename_i e he
    split at h
    · rename_i k hk
      exact ⟨e,he,by rw [hk]; simpa using h⟩
    · cases h
  · cases h
theorem XbV {P:Program} {t:TypeId} {n s:Nat} (h:Xjt P t n s=true):∃ e,P.underlying t=some (.array n e)∧res P (sizeOf e)=some s:=by
  unfold Xjt at h
  split at h
  · rename_i m e he
    split at h
    · rename_i k hk
      simp only [Bool.and_eq_true,beq_iff_eq] at h
      exact ⟨e,by rw [he,h.1],by rw [hk,h.2]⟩
    · simp at h
  · cases h
theorem uns {P:Program} {src dst:TypeId} (ht:XpQ P src dst=true) {b n o:Nat} {g:Nat→Value} {w:World} (hB:Blk w b n g) (ho:o<n):Ef P (convert src dst (.pointer (some ⟨b,o,none⟩))) w (.pointer (some ⟨b,o,none⟩)) w:=by
  unfold XpQ at ht
  split at ht
  · rename_i t h1 h2
    split at ht
    · rename_i i h3
      refine XoR h1 h2 ?_ hB ho
      rw [h3]; simpa using ht
    · cases ht
  · cases ht
theorem ixS {P:Program} {t:TypeId} {s:Nat} (ht:YT P t s=true) {b o len cap:Nat} {k:IntKind} {i:Int} (h0:0≤i) (h1:i<len):IxA P t (.slice (some ⟨b,o,none⟩) len cap) (.int k i) ⟨b,o+i.toNat*s,none⟩:=by
  obtain ⟨e,h2,h3⟩:=Jt ht; exact IxA.slice h2 h3 h0 h1
theorem Xw1 {P:Program} {t:TypeId} (ht:YT P t 1=true) {b o len cap:Nat} {k:IntKind} {i:Int} (h0:0≤i) (h1:i<len):IxA P t (.slice (some ⟨b,o,none⟩) len cap) (.int k i) ⟨b,o+i.toNat,none⟩:=by
  obtain ⟨e,h2,h3⟩:=Jt ht; exact IxA.slice1 h2 h3 h0 h1
theorem ixA {P:Program} {t:TypeId} {n s:Nat} (ht:Xjt P t n s=true) {b o:Nat} {k:IntKind} {i:Int} (h0:0≤i) (h1:i<n):IxA P t (.pointer (some ⟨b,o,none⟩)) (.int k i) ⟨b,o+i.toNat*s,none⟩:=by
  obtain ⟨e,h2,h3⟩:=XbV ht; exact IxA.arr h2 h3 h0 h1
theorem YM {P:Program} {t:TypeId} {n:Nat} (ht:Xjt P t n 1=true) {b o:Nat} {k:IntKind} {i:Int} (h0:0≤i) (h1:i<n):IxA P t (.pointer (some ⟨b,o,none⟩)) (.int k i) ⟨b,o+i.toNat,none⟩:=by
  obtain ⟨e,h2,h3⟩:=XbV ht; exact IxA.arr1 h2 h3 h0 h1
theorem ixR {P:Program} {t:TypeId} (ht:YT P t 1=true) {w:World} {p:Option Addr} {vs:List Value} (h:Row w p vs) {len cap:Nat} {k:IntKind} {i:Int} (hl:len=vs.length) (h0:0≤i) (h1:i<len) {v:Value} (hv:vs[i.toNat]?=some v) :
    ∃ a,IxA P t (.slice p len cap) (.int k i) a∧w.cell? a=some v:=by
  obtain ⟨e,h2,h3⟩:=Jt ht; exact Row.ix h2 h3 h hl h0 h1 hv
theorem ptrNil {P:Program} {t:TypeId} {x y:Operand} (ht:XvM P t=true) {p:Option Addr} {w:World}:Ef P (do eqGuard .eql t x y (.pointer p) (.pointer none); binOp .eql t (.pointer p) (.pointer none):Sem Value) w (.bool p.isNone) w:=by
  unfold XvM at ht
  split at ht
  · rename_i e h; exact Ef.ptrNil h
  · cases ht
theorem sliceNil {P:Program} {t:TypeId} {x y:Operand} (ht:XpR P t=true) {p:Option Addr} {l c:Nat} {w:World}:Ef P (do eqGuard .eql t x y (.slice p l c) (.slice none 0 0); binOp .eql t (.slice p l c) (.slice none 0 0):Sem Value) w (.bool p.isNone) w:=by
  unfold XpR at ht
  split at ht
  · rename_i e h; exact Ef.sliceNil h
  · cases ht
theorem callK_of_callF {P:Program} {f:FuncId} {args:Array Value} {w:World} {K:VWP} (he:(callFunc f args).run P w=.ok (.enter f args) w) (h:Xa P f args w K):UJ P f args w K:=by
  rcases XkA h with ⟨_,h⟩ | ⟨v,w',h1,_⟩
  · exact h
  · rw [he] at h1; cases h1
end Go.Fw
end

section
namespace Go.Fw
open Go
def OwnS (w:World) (p:Option Addr) (l c:Nat) (vs:List Value):Prop:=
  l=vs.length∧((p=none∧l=0∧c=0)∨∃ g o N f,p=some ⟨g,o,none⟩∧Blk w g N f∧o+c≤N∧l≤c∧∀ i v,vs[i]?=some v→f (o+i)=v)
def Xb (p:Option Addr):List Nat:=match p with | some a=>[a.block] | none=>[]
theorem OwnS.row {w:World} {p:Option Addr} {l c:Nat} {vs:List Value} (h:OwnS w p l c vs):Row w p vs:=by
  obtain ⟨hl,⟨_,h0,_⟩ | ⟨g,o,N,f,rfl,hB,hc,hlc,hf⟩⟩:=h
  · exact .inl (List.length_eq_zero_iff.1 (by omega))
  · refine hB.row o vs fun j v hj=>⟨?_,hf j v hj⟩
    have:=(List.getElem?_eq_some_iff.1 hj).1
    omega
theorem OwnS.fr {l0:List Nat} {w w':World} {p:Option Addr} {l c:Nat} {vs:List Value} (h:OwnS w p l c vs) (hf:Fr l0 w w') (hn:∀ k∈Xb p,k∉l0):OwnS w' p l c vs:=by
  obtain ⟨hl,h | ⟨g,o,N,f,rfl,hB,rest⟩⟩:=h
  · exact ⟨hl,.inl h⟩
  · exact ⟨hl,.inr ⟨g,o,N,f,rfl,hB.fr hf (hn g (by simp [Xb])),rest⟩⟩
theorem OwnS.fr0 {w w':World} {p:Option Addr} {l c:Nat} {vs:List Value} (h:OwnS w p l c vs) (hf:Fr [] w w'):OwnS w' p l c vs:=h.fr hf (by simp)
theorem OwnS.nil (w:World):OwnS w none 0 0 []:=⟨rfl,.inl ⟨rfl,rfl,rfl⟩⟩
theorem OwnS.lt {w:World} {p:Option Addr} {l c:Nat} {vs:List Value} (h:OwnS w p l c vs):∀ k∈Xb p,k<w.heap.size:=by
  obtain ⟨hl,⟨rfl,_⟩ | ⟨g,o,N,f,rfl,hB,rest⟩⟩:=h
  · simp [Xb]
  · simp [Xb]; exact hB.lt
def XmI (P:Program) (t:TypeId):Bool:=
  match P.underlying t with
  | some (.slice e)=>(match P.info? e with | some i=>i.size == 1 && (match i.zero with | some z=>z.cells.size == 1 | none=>false) && Nat.ble i.bytes 4096 | none=>false)
  | _=>false
theorem Xgr {P:Program} {t:TypeId} (h:XmI P t=true):∃ e i z,P.underlying t=some (.slice e)∧P.info? e=some i∧i.size=1∧i.zero=some z∧z.cells.size=1∧i.bytes≤4096:=by
  unfold XmI at h
  split at h
  · rename_i e he
    split at h
    · rename_i i hi
      split at h
      · rename_i z hz
        simp only [Bool.and_eq_true,beq_iff_eq] at h
        exact ⟨e,i,z,he,hi,h.1.1,hz,h.1.2,Nat.le_of_ble_eq_true h.2⟩
      · simp at h
    · cases h
  · cases h
theorem Jb {P:Program} {w:World} {p:Option Addr} {vs:List Value} (h:Row w p vs) {n len cap:Nat} (hl:vs.length=n):(Builtin.firstCells 1 n (.slice p len cap)).run P w=.ok vs.toArray w:=by
  rcases h with rfl | ⟨b,o,rfl,h⟩
  · cases p with
    | none=>simp [Builtin.firstCells]
    | some a=>exact run_firstCells_some w 1 n a len cap [] (by simp at hl ⊢; omega) (by simp)
  · exact run_firstCells_some w 1 n ⟨b,o,none⟩ len cap vs (by omega) fun j v hj=>by rw [Xi]; exact h j v hj
theorem Ef.append {P:Program} {t ty:TypeId} (ht:XmI P t=true) {w:World} {p:Option Addr} {l c:Nat} {vs:List Value} (hO:OwnS w p l c vs) {q:Option Addr} {m d:Nat} {us:List Value} (hR:Row w q us) (hm:m=us.length)
    (h1:∀ u∈us,u.oneCell'=true) (hlen:l+m≤1073741824) :
    ∃ p' c' w',Ef P (Builtin.append_ #[t,t] ty #[.slice p l c,.slice q m d]) w (.slice p' (l+m) c') w'∧OwnS w' p' (l+m) c' (vs++us)∧Fr (Xb p) w w'∧
      ((p'=p∧c'=c∧w'.heap.size=w.heap.size)∨(p'=some ⟨w.heap.size,0,none⟩∧Fr [] w w'∧w'.heap.size=w.heap.size+1)):=by
  obtain ⟨e,i,z,hu,hi,hsz,hz,hzc,hby⟩:=Xgr ht
  have hvl:=hO.1
  by_cases hn:l+m≤c
  ·
    obtain ⟨hl,⟨rfl,h0,hc0⟩ | ⟨g,o,N,f,rfl,hB,hoc,hlc,hf⟩⟩:=hO
    ·
      have hm0:m=0:=by omega
      have hus:us=[]:=List.length_eq_zero_iff.1 (by omega)
      have hvs:vs=[]:=List.length_eq_zero_iff.1 (by omega)
      subst hm0; subst hus; subst hvs; subst h0; subst hc0
      have hfc:=Jb (P:=P) (n:=0) (len:=0) (cap:=d) hR rfl
      refine ⟨none,0,w,?_,⟨rfl,.inl ⟨rfl,rfl,rfl⟩⟩,Fr.refl _ _,.inl ⟨rfl,rfl,rfl⟩⟩
      show (Builtin.append_ #[t,t] ty #[.slice none 0 0,.slice q 0 d]).run P w=_
      simp [Builtin.append_,run_underlying hu,sizeOf,typeInfo,hi,hsz,Builtin.lenOf,hfc]
    · have hfc:=Jb (P:=P) (n:=m) (len:=m) (cap:=d) hR hm.symm
      obtain ⟨w',hst,hfr,hB',hsize⟩:=Zj (P:=P) us 0 g N (o+l) f w hB (by omega) h1
      refine ⟨some ⟨g,o,none⟩,c,w',?_,⟨by simp; omega,.inr ⟨g,o,N,_,rfl,hB',hoc,hn,?_⟩⟩,hfr,.inl ⟨rfl,rfl,hsize⟩⟩
      · have e1:(⟨g,o,none⟩:Addr).add l=⟨g,o+l,none⟩:=Xi _ _ _
        show (Builtin.append_ #[t,t] ty #[.slice (some ⟨g,o,none⟩) l c,.slice q m d]).run P w=_
        simp [Builtin.append_,run_underlying hu,sizeOf,typeInfo,hi,hsz,Builtin.lenOf,hn,hfc,e1,hst]
      · intro j v hj
        unfold updN
        by_cases hjl:j<vs.length
        · rw [dif_neg (by omega)]
          rw [List.getElem?_append_left hjl] at hj
          exact hf j v hj
        · rw [List.getElem?_append_right (by omega)] at hj
          have hlt:=(List.getElem?_eq_some_iff.1 hj).1
          rw [dif_pos (by omega)]
          have e2:o+j - (o+l+0)=j - vs.length:=by omega
          rw [List.getElem?_eq_some_iff] at hj
          obtain ⟨_,hj⟩:=hj
          simp only [e2]
          exact hj
  ·
    have h63':¬ (9223372036854775807<((l:Int)+(m:Int))):=by omega
    have hbb:(l+m)*i.bytes≤140737488355328:=Nat.le_trans (Nat.mul_le_mul hlen hby) (by decide)
    have h48':¬ (281474976710656<Builtin.nextslicecap (l+m) c*i.bytes):=by have:=growslice_fits (need:=l+m) (old:=c) (by omega) hbb; omega
    have hf:=Jb (P:=P) (w:=w.drew) (n:=m) (len:=m) (cap:=d) (hR.fr0 (Fr.drew w)) hm.symm
    have hfo:=Jb (P:=P) (w:=w.drew) (n:=l) (len:=l) (cap:=c) (hO.row.fr0 (Fr.drew w)) hvl.symm
    have hge:=grownCap_ge w (l+m) c e
    refine ⟨some ⟨w.heap.size,0,none⟩,grownCap w (l+m) c e,w.drew.alloc (.cells (vs.toArray++us.toArray++Builtin.zeroCells z.cells (grownCap w (l+m) c e - (l+m))) e),?_,?_,?_,.inr ⟨rfl,?_,by simp⟩⟩
    · show (Builtin.append_ #[t,t] ty #[.slice p l c,.slice q m d]).run P w=_
      simp [Builtin.append_,run_underlying hu,sizeOf,typeInfo,zeroValue,hi,hz,hsz,Builtin.lenOf,hn,h63',h48',Question.forced,hf,hfo,newRow,grownCap]
      congr 2
      apply Array.ext'
      simp [List.append_assoc]
    · refine ⟨by simp; omega,.inr ⟨w.heap.size,0,(vs.toArray++us.toArray++Builtin.zeroCells z.cells (grownCap w (l+m) c e - (l+m))).size,fun i=>(vs.toArray++us.toArray++Builtin.zeroCells z.cells (grownCap w (l+m) c e - (l+m))).getD i undef,rfl,?_,?_,hge,?_⟩⟩
      · have:=Blk.new w.drew (vs.toArray++us.toArray++Builtin.zeroCells z.cells (grownCap w (l+m) c e - (l+m))) e (fun i=>(vs.toArray++us.toArray++Builtin.zeroCells z.cells (grownCap w (l+m) c e - (l+m))).getD i undef) (fun i hi=>by rw [Array.getD_eq_getD_getElem?,Array.getElem?_eq_getElem hi]; rfl)
        exact this
      · simp [size_zeroCells,hzc]; omega
      · intro j v hj
        have hlt:=(List.getElem?_eq_some_iff.1 hj).1
        rw [Nat.zero_add]
        show (vs.toArray++us.toArray++Builtin.zeroCells z.cells (grownCap w (l+m) c e - (l+m))).getD j undef=v
        rw [Array.getD_eq_getD_getElem?,Array.getElem?_append_left (by simpa using hlt)]
        have e3:(vs.toArray++us.toArray)[j]?=some v:=by rw [← hj]; simp
        rw [e3]; rfl
    · exact ((Fr.drew w).then (Fr.alloc _ _)).mono (by simp)
    · exact (Fr.drew w).then (Fr.alloc _ _)
def Xur (P:Program) (t:TypeId):Option Value:=
  match P.underlying t with
  | some (.slice e)=>(match P.info? e with | some i=>i.zero | none=>none)
  | _=>none
theorem Ef.make {P:Program} {t:TypeId} (ht:XmI P t=true) {z:Value} (hz0:Xur P t=some z) (hzc0:z.cells=#[z]) {w:World} {k k':IntKind} {l c:Nat} (hlc:l≤c) (hc:c≤1073741824) :
    ∃ w',Ef P (Instr.makeSlice t (.int k l) (.int k' c)) w (.slice (some ⟨w.heap.size,0,none⟩) l c) w'∧Fr [] w w'∧Blk w' w.heap.size c (fun _=>z)∧w'.heap.size=w.heap.size+1:=by
  obtain ⟨e,i,z',hu,hi,hsz,hz,hzc,hby⟩:=Xgr ht
  have hzz:z'=z:=by
    unfold Xur at hz0
    rw [hu] at hz0
    simp only [hi,hz] at hz0
    exact Option.some.inj hz0
  subst hzz
  have hb:((i.bytes:Int)*(c:Int))≤281474976710656:=by
    have h:i.bytes*c≤4096*1073741824:=Nat.mul_le_mul hby hc
    have h2:((i.bytes*c:Nat):Int)≤281474976710656:=by omega
    rwa [Int.natCast_mul] at h2
  have hr:=run_make (P:=P) w t e i z' hu hi hz k k' l c (by omega) (by omega) hb (by omega)
  refine ⟨_,hr,Fr.alloc _ _,?_,by simp⟩
  have hs:(madeCells z'.cells ((c:Int).toNat*i.size)).size=c:=by rw [size_madeCells,hsz]; simp
  have:=Blk.new w (madeCells z'.cells ((c:Int).toNat*i.size)) e (fun _=>z') (fun j hj=>by
    rw [hs] at hj
    simp [madeCells,hzc0,hsz,hj,Nat.mod_one])
  rwa [hs] at this
theorem Blk.rowL {w:World} {b:Nat} {cs:List Value} (h:Blk w b cs.toArray.size (fun i=>cs.toArray.getD i undef)):Row w (some ⟨b,0,none⟩) cs:=by
  refine h.row 0 cs fun j v hj=>?_
  have hlt:=(List.getElem?_eq_some_iff.1 hj).1
  refine ⟨by simpa using hlt,?_⟩
  show cs.toArray.getD (0+j) undef=v
  rw [Nat.zero_add,Array.getD_eq_getD_getElem?,List.getElem?_toArray,hj]
  rfl
theorem Blk.own {w:World} {b:Nat} {cs:List Value} (h:Blk w b cs.toArray.size (fun i=>cs.toArray.getD i undef)):OwnS w (some ⟨b,0,none⟩) cs.length cs.length cs:=by
  refine ⟨rfl,.inr ⟨b,0,_,_,rfl,h,by simp,Nat.le_refl _,fun j v hj=>?_⟩⟩
  show cs.toArray.getD (0+j) undef=v
  rw [Nat.zero_add,Array.getD_eq_getD_getElem?,List.getElem?_toArray,hj]
  rfl
def XvN (P:Program) (t:TypeId) (s:Nat):Bool:=
  match P.underlying t with
  | some (.slice e)=>(match P.info? e with | some i=>i.size == s && i.zero.isSome && Nat.ble i.bytes 4096 | none=>false)
  | _=>false
theorem Ef.makeN {P:Program} {t:TypeId} {s:Nat} (ht:XvN P t s=true) {w:World} {k k':IntKind} {l c:Nat} (hlc:l≤c) (hc:c≤1073741824) :
    ∃ f w',Ef P (Instr.makeSlice t (.int k l) (.int k' c)) w (.slice (some ⟨w.heap.size,0,none⟩) l c) w'∧Fr [] w w'∧Blk w' w.heap.size (c*s) f∧w'.heap.size=w.heap.size+1:=by
  unfold XvN at ht
  split at ht
  · rename_i e hu
    split at ht
    · rename_i i hi
      simp only [Bool.and_eq_true,beq_iff_eq] at ht
      obtain ⟨⟨hsz,hz⟩,hby⟩:=ht
      have hby:=Nat.le_of_ble_eq_true hby
      obtain ⟨z',hz⟩:=Option.isSome_iff_exists.1 hz
      have hb:((i.bytes:Int)*(c:Int))≤281474976710656:=by
        have h:i.bytes*c≤4096*1073741824:=Nat.mul_le_mul hby hc
        have h2:((i.bytes*c:Nat):Int)≤281474976710656:=by omega
        rwa [Int.natCast_mul] at h2
      have hr:=run_make (P:=P) w t e i z' hu hi hz k k' l c (by omega) (by omega) hb (by omega)
      refine ⟨fun j=>(madeCells z'.cells ((c:Int).toNat*i.size)).getD j undef,_,hr,Fr.alloc _ _,?_,by simp⟩
      have hs:(madeCells z'.cells ((c:Int).toNat*i.size)).size=c*s:=by rw [size_madeCells,hsz]; simp
      have:=Blk.new w (madeCells z'.cells ((c:Int).toNat*i.size)) e (fun j=>(madeCells z'.cells ((c:Int).toNat*i.size)).getD j undef) (fun j hj=>by rw [Array.getD_eq_getD_getElem?,Array.getElem?_eq_getElem hj]; rfl)
      rwa [hs] at this
    · cases ht
  · cases ht
end Go.Fw
end
