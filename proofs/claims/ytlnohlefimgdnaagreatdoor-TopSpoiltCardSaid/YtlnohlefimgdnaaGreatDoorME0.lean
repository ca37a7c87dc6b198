/- A part of a proof of a given law of this program: lemmas, printed forms of its functions, contracts. It has no conditions of its own. -/
import Derived.Test.YtlnohlefimgdnaaGreatDoorMW1

set_option maxHeartbeats 16000000
set_option linter.unusedVariables false
set_option linter.unusedSimpArgs false
section
namespace Go.Fw
open Go
inductive Tr (α:Type) where
  | nil
  | node (v:Option α) (l r:Tr α)
noncomputable def Tr.get {α:Type} (t:Tr α):Nat→Option α:=
  Tr.rec (motive:=fun _=>Nat→Option α) (fun _=>none) (fun v _ _ gl gr k=>Bool.rec (Bool.rec (gr (Nat.sub (Nat.div k 2) 1)) (gl (Nat.div k 2)) (Nat.beq (Nat.mod k 2) 1)) v (Nat.beq k 0)) t
noncomputable def Tr.set {α:Type} (d:Nat):Tr α→Nat→Option α→Tr α:=
  Nat.rec (motive:=fun _=>Tr α→Nat→Option α→Tr α) (fun t _ _=>t)
    (fun _ ih t k x=>Tr.rec (motive:=fun _=>Tr α)
      (Bool.rec (Bool.rec (.node none .nil (ih .nil (Nat.sub (Nat.div k 2) 1) x)) (.node none (ih .nil (Nat.div k 2) x) .nil) (Nat.beq (Nat.mod k 2) 1)) (.node x .nil .nil) (Nat.beq k 0))
      (fun v l r _ _=>Bool.rec (Bool.rec (.node v l (ih r (Nat.sub (Nat.div k 2) 1) x)) (.node v (ih l (Nat.div k 2) x) r) (Nat.beq (Nat.mod k 2) 1)) (.node x l r) (Nat.beq k 0)) t) d
theorem beq_iff {a b:Nat}:Nat.beq a b=true↔a=b:=⟨Nat.eq_of_beq_eq_true,fun h=>by subst h; exact Nat.beq_refl a⟩
theorem Zk {a b:Nat}:Nat.beq a b=false↔a≠b:=by
  cases h:Nat.beq a b with
  | true=>rw [beq_iff] at h; simp [h]
  | false=>simp; intro e; rw [beq_iff.2 e] at h; cases h
theorem Xtp {α:Type} {b:Bool} {x y:α}:(Bool.rec y x b:α)=if b=true then x else y:=by cases b <;> rfl
theorem Xtq {a b:Nat}:(Nat.beq a b=true)=(a=b):=propext beq_iff
theorem Tr.get_node {α:Type} (v:Option α) (l r:Tr α) (k:Nat):(Tr.node v l r).get k=if k=0 then v else if k % 2=1 then l.get (k / 2) else r.get (k / 2 - 1):=by
  show (Bool.rec (Bool.rec (r.get (k / 2 - 1)) (l.get (k / 2)) (Nat.beq (k % 2) 1)) v (Nat.beq k 0):Option α)=_
  simp only [Xtp,Xtq]
theorem Tr.set_nil {α:Type} (d k:Nat) (x:Option α):Tr.set (d+1) (.nil:Tr α) k x=if k=0 then .node x .nil .nil else if k % 2=1 then .node none (Tr.set d .nil (k / 2) x) .nil else .node none .nil (Tr.set d .nil (k / 2 - 1) x):=by
  show (Bool.rec (Bool.rec (.node none .nil (Tr.set d .nil (k / 2 - 1) x)) (.node none (Tr.set d .nil (k / 2) x) .nil) (Nat.beq (k % 2) 1)) (.node x .nil .nil) (Nat.beq k 0):Tr α)=_
  simp only [Xtp,Xtq]
theorem Tr.set_node {α:Type} (d k:Nat) (x v:Option α) (l r:Tr α):Tr.set (d+1) (.node v l r) k x=if k=0 then .node x l r else if k % 2=1 then .node v (Tr.set d l (k / 2) x) r else .node v l (Tr.set d r (k / 2 - 1) x):=by
  show (Bool.rec (Bool.rec (.node v l (Tr.set d r (k / 2 - 1) x)) (.node v (Tr.set d l (k / 2) x) r) (Nat.beq (k % 2) 1)) (.node x l r) (Nat.beq k 0):Tr α)=_
  simp only [Xtp,Xtq]
theorem Tr.get_set {α:Type}:∀ (d:Nat) (t:Tr α) (k:Nat) (x:Option α) (j:Nat),k+1<2 ^ d→(Tr.set d t k x).get j=if j=k then x else t.get j:=by
  intro d
  induction d with
  | zero=>intro t k x j h; simp at h
  | succ d ih=>
    intro t k x j h
    have hp:2 ^ (d+1)=2*2 ^ d:=by rw [Nat.pow_succ]; omega
    have nil_get:∀ n,(Tr.nil:Tr α).get n=none:=fun _=>rfl
    cases t with
    | nil=>
      rw [Tr.set_nil]
      by_cases h0:k=0
      · subst h0
        rw [if_pos rfl,Tr.get_node]
        by_cases hj:j=0
        · rw [if_pos hj,if_pos hj]
        · rw [if_neg hj,if_neg hj]; simp [nil_get]
      · rw [if_neg h0]
        by_cases h1:k % 2=1
        · rw [if_pos h1,Tr.get_node,ih _ _ _ _ (by omega)]
          by_cases hj:j=0
          · rw [if_pos hj,if_neg (by omega)]; rfl
          · rw [if_neg hj]
            by_cases hj1:j % 2=1
            · rw [if_pos hj1]
              by_cases hk:j=k
              · rw [if_pos hk,if_pos (by omega)]
              · rw [if_neg hk,if_neg (by omega)]; rfl
            · rw [if_neg hj1,if_neg (by omega)]; rfl
        · rw [if_neg h1,Tr.get_node,ih _ _ _ _ (by omega)]
          by_cases hj:j=0
          · rw [if_pos hj,if_neg (by omega)]; rfl
          · rw [if_neg hj]
            by_cases hj1:j % 2=1
            · rw [if_pos hj1,if_neg (by omega)]; rfl
            · rw [if_neg hj1]
              by_cases hk:j=k
              · rw [if_pos hk,if_pos (by omega)]
              · rw [if_neg hk,if_neg (by omega)]; rfl
    | node v l r=>
      rw [Tr.set_node]
      by_cases h0:k=0
      · subst h0
        rw [if_pos rfl,Tr.get_node,Tr.get_node]
        by_cases hj:j=0
        · rw [if_pos hj,if_pos hj]
        · rw [if_neg hj,if_neg hj,if_neg hj]
      · rw [if_neg h0]
        by_cases h1:k % 2=1
        · rw [if_pos h1,Tr.get_node,Tr.get_node,ih _ _ _ _ (by omega)]
          by_cases hj:j=0
          · rw [if_pos hj,if_pos hj,if_neg (by omega)]
          · rw [if_neg hj,if_neg hj]
            by_cases hj1:j % 2=1
            · rw [if_pos hj1,if_pos hj1]
              by_cases hk:j=k
              · rw [if_pos hk,if_pos (by omega)]
              · rw [if_neg hk,if_neg (by omega)]
            · rw [if_neg hj1,if_neg hj1,if_neg (by omega)]
        · rw [if_neg h1,Tr.get_node,Tr.get_node,ih _ _ _ _ (by omega)]
          by_cases hj:j=0
          · rw [if_pos hj,if_pos hj,if_neg (by omega)]
          · rw [if_neg hj,if_neg hj]
            by_cases hj1:j % 2=1
            · rw [if_pos hj1,if_pos hj1,if_neg (by omega)]
            · rw [if_neg hj1,if_neg hj1]
              by_cases hk:j=k
              · rw [if_pos hk,if_pos (by omega)]
              · rw [if_neg hk,if_neg (by omega)]
structure Img where
  b:Nat
  base:Nat
  size:Nat
  op:Nat
abbrev Rho:=Nat→Option Img
def XJ:Nat:=9223372036854775808
def Rho.le (ρ ρ':Rho):Prop:=∀ i m,ρ i=some m→ρ' i=some m
inductive VR (ρ:Rho):Value→Value→Prop where
  | bool (b:Bool):VR ρ (.bool b) (.bool b)
  | int (k:IntKind) (n:Int):VR ρ (.int k n) (.int k n)
  | str (s:ByteArray):VR ρ (.string s) (.string s)
  | ptr0:VR ρ (.pointer none) (.pointer none)
  | slice0 (l c:Nat):VR ρ (.slice none l c) (.slice none l c)
  | map0:VR ρ (.map none) (.map none)
  | nilFunc:VR ρ .nilFunc .nilFunc
  | nilIface:VR ρ .nilIface .nilIface
  | ptr {i o:Nat} {m:Img} (h:ρ i=some m):VR ρ (.pointer (some ⟨i,o,none⟩)) (.pointer (some ⟨m.b,m.base+o,none⟩))
  | slice {i o l c:Nat} {m:Img} (h:ρ i=some m) (h0:Nat.blt c XJ=true):VR ρ (.slice (some ⟨i,o,none⟩) l c) (.slice (some ⟨m.b,m.base+o,none⟩) l c)
  | sliceO {i o l c c':Nat} {m:Img} (h:ρ i=some m) (h0:m.op≠0) (hO:c=XJ+m.op) (hc:m.base+o+c' * m.op=m.size) (hl:l≤c'):VR ρ (.slice (some ⟨i,o,none⟩) l c) (.slice (some ⟨m.b,m.base+o,none⟩) l c')
  | sliceE (i o:Nat) (a:Addr) {c:Nat} (c':Nat) (hE:c=XJ):VR ρ (.slice (some ⟨i,o,none⟩) 0 c) (.slice (some a) 0 c')
  | map {i:Nat} {m:Img} (h:ρ i=some m):VR ρ (.map (some i)) (.map (some m.b))
  | func {f : FuncId} {as bs cs ds : List Value} (h1 : as.length = bs.length) (h2 : ∀ (i : Nat) (x y : Value), as[i]? = some x → bs[i]? = some y → VR ρ x y) (h3 : cs.length = ds.length)
      (h4:∀ (i:Nat) (x y:Value),cs[i]?=some x→ds[i]?=some y→VR ρ x y):VR ρ (.func (.func f) ⟨as⟩ ⟨cs⟩) (.func (.func f) ⟨bs⟩ ⟨ds⟩)
  | yield {i:Nat} {m:Img} (h:ρ i=some m):VR ρ (.func (.yield i) #[] #[]) (.func (.yield m.b) #[] #[])
  | iface {t:TypeId} {x y:Value} (h:VR ρ x y):VR ρ (.iface t x) (.iface t y)
  | agg {as bs:List Value} (h1:as.length=bs.length) (h2:∀ (i:Nat) (x y:Value),as[i]?=some x→bs[i]?=some y→VR ρ x y):VR ρ (.agg ⟨as⟩) (.agg ⟨bs⟩)
  | tuple {as bs:List Value} (h1:as.length=bs.length) (h2:∀ (i:Nat) (x y:Value),as[i]?=some x→bs[i]?=some y→VR ρ x y):VR ρ (.tuple ⟨as⟩) (.tuple ⟨bs⟩)
def VRs (ρ:Rho) (as bs:List Value):Prop:=as.length=bs.length∧∀ (i:Nat) (x y:Value),as[i]?=some x→bs[i]?=some y→VR ρ x y
theorem VR.mono {ρ ρ':Rho} (hr:ρ.le ρ') {c v:Value} (h:VR ρ c v):VR ρ' c v:=by
  induction h with
  | bool=>exact .bool _
  | int=>exact .int _ _
  | str=>exact .str _
  | ptr0=>exact .ptr0
  | slice0=>exact .slice0 _ _
  | map0=>exact .map0
  | nilFunc=>exact .nilFunc
  | nilIface=>exact .nilIface
  | ptr h=>exact .ptr (hr _ _ h)
  | slice h h0=>exact .slice (hr _ _ h) h0
  | sliceO h h0 hO hc hl=>exact .sliceO (hr _ _ h) h0 hO hc hl
  | sliceE _ _ _ _ hE=>exact .sliceE _ _ _ _ hE
  | map h=>exact .map (hr _ _ h)
  | func h1 _ h3 _ ih1 ih2=>exact .func h1 ih1 h3 ih2
  | yield h=>exact .yield (hr _ _ h)
  | iface _ ih=>exact .iface ih
  | agg h1 _ ih=>exact .agg h1 ih
  | tuple h1 _ ih=>exact .tuple h1 ih
theorem VRs.mono {ρ ρ':Rho} (hr:ρ.le ρ') {as bs:List Value} (h:VRs ρ as bs):VRs ρ' as bs:=⟨h.1,fun i x y h1 h2=>(h.2 i x y h1 h2).mono hr⟩
theorem Rho.le.refl (ρ:Rho):ρ.le ρ:=fun _ _ h=>h
theorem Rho.le.trans {a b c:Rho} (h:a.le b) (k:b.le c):a.le c:=fun i m e=>k i m (h i m e)
theorem X3 {as bs cs:List Value} (h1:as.length=bs.length) (h2:as.length=cs.length) (h:∀ (i:Nat) (x y z:Value),as[i]?=some x→bs[i]?=some y→cs[i]?=some z→y=z):bs=cs:=by
  apply List.ext_getElem?
  intro i
  by_cases hi:i<as.length
  · have e1:=List.getElem?_eq_getElem hi
    have e2:=List.getElem?_eq_getElem (h1 ▸ hi)
    have e3:=List.getElem?_eq_getElem (h2 ▸ hi)
    rw [e2,e3,h i _ _ _ e1 e2 e3]
  · rw [List.getElem?_eq_none (by omega),List.getElem?_eq_none (by omega)]
def Xac:Value→Bool
  | .bool _ | .int _ _ | .string _ | .pointer _ | .map _ | .nilFunc | .nilIface=>true
  | .slice _ _ c=>!Nat.beq c XJ
  | _=>false
def Qp:Value→Bool
  | .agg cs=>cs.toList.all Xac
  | .tuple cs=>cs.toList.all Xac
  | .func _ fs cs=>fs.toList.all Xac && cs.toList.all Xac
  | v=>Xac v
theorem ZM {c:Nat} (h:Nat.blt c XJ=true):c<XJ:=Nat.le_of_ble_eq_true (show Nat.ble (c+1) XJ=true from h)
theorem VR.det1 {ρ:Rho} {c v u:Value} (hs:Xac c=true) (h:VR ρ c v) (k:VR ρ c u):v=u:=by
  cases h with
  | bool=>cases k; rfl
  | int=>cases k; rfl
  | str=>cases k; rfl
  | ptr0=>cases k; rfl
  | slice0=>cases k; rfl
  | map0=>cases k; rfl
  | nilFunc=>cases k; rfl
  | nilIface=>cases k; rfl
  | ptr h=>cases k with | ptr h'=>rw [h] at h'; cases h'; rfl
  | slice h h0=>
    have:=ZM h0
    cases k with
    | slice h' _=>rw [h] at h'; cases h'; rfl
    | sliceO h' h1 hO _ _=>omega
    | sliceE _ _ _ _ hE=>omega
  | sliceO h h0 hO hc hl=>
    cases k with
    | slice h' h1=>exact absurd (ZM h1) (by omega)
    | sliceO h' h1 hO' hc' hl'=>
      rw [h] at h'; cases h'
      have e:=Nat.eq_of_mul_eq_mul_right (Nat.pos_of_ne_zero h0) (Nat.add_left_cancel (hc.trans hc'.symm))
      subst e; rfl
    | sliceE _ _ _ _ hE=>omega
  | sliceE _ _ _ _ hE=>subst hE; exact absurd hs (by simp [Xac,XJ])
  | map h=>cases k with | map h'=>rw [h] at h'; cases h'; rfl
  | func=>cases hs
  | yield=>cases hs
  | iface=>cases hs
  | agg=>cases hs
  | tuple=>cases hs
theorem Xjz {l:List Value} {f:Value→Bool} (h:l.all f=true) {i:Nat} {x:Value} (hx:l[i]?=some x):f x=true:=List.all_eq_true.1 h x (List.mem_of_getElem? hx)
theorem VR.det {ρ:Rho} {c v u:Value} (hs:Qp c=true) (h:VR ρ c v) (k:VR ρ c u):v=u:=by
  unfold Qp at hs
  split at hs
  · cases h with
    | agg h1 h2=>cases k with | agg k1 k2=>rw [X3 h1 k1 fun i x y z e1 e2 e3=>VR.det1 (Xjz hs e1) (h2 i x y e1 e2) (k2 i x z e1 e3)]
  · cases h with
    | tuple h1 h2=>cases k with | tuple k1 k2=>rw [X3 h1 k1 fun i x y z e1 e2 e3=>VR.det1 (Xjz hs e1) (h2 i x y e1 e2) (k2 i x z e1 e3)]
  · rw [Bool.and_eq_true] at hs
    cases h with
    | func h1 h2 h3 h4=>
      cases k with
      | func k1 k2 k3 k4=>
        rw [X3 h1 k1 fun i x y z e1 e2 e3=>VR.det1 (Xjz hs.1 e1) (h2 i x y e1 e2) (k2 i x z e1 e3),X3 h3 k3 fun i x y z e1 e2 e3=>VR.det1 (Xjz hs.2 e1) (h4 i x y e1 e2) (k4 i x z e1 e3)]
    | yield h=>cases k with | yield h'=>rw [h] at h'; cases h'; rfl
  · exact VR.det1 hs h k
def JP:Value→Bool
  | .bool _ | .int _ _ | .string _ | .pointer none | .map none | .nilFunc | .nilIface=>true
  | .slice none _ c=>!Nat.beq c XJ
  | _=>false
def gr:Value→Bool
  | .agg cs=>cs.toList.all JP
  | .tuple cs=>cs.toList.all JP
  | v=>JP v
theorem Xad (ρ:Rho) {v:Value} (h:JP v=true):VR ρ v v:=by
  unfold JP at h
  split at h
  case h_9=>cases h
  all_goals first | exact .bool _ | exact .int _ _ | exact .str _ | exact .ptr0 | exact .slice0 _ _ | exact .map0 | exact .nilFunc | exact .nilIface
theorem XdK {v:Value} (h:JP v=true):Xac v=true:=by
  unfold JP at h
  split at h
  all_goals first | rfl | exact h | cases h
theorem XuR {v:Value} (h:gr v=true):Qp v=true:=by
  unfold gr at h
  split at h
  · exact List.all_eq_true.2 fun x hx=>XdK (List.all_eq_true.1 h x hx)
  · exact List.all_eq_true.2 fun x hx=>XdK (List.all_eq_true.1 h x hx)
  · unfold Qp
    split
    · cases h
    · cases h
    · cases h
    · exact XdK h
theorem YY (ρ:Rho) {v:Value} (h:gr v=true):VR ρ v v:=by
  unfold gr at h
  split at h
  · rename_i cs
    exact .agg rfl fun i x y h1 h2=>by
      rw [h1] at h2; cases h2
      exact Xad ρ (List.all_eq_true.1 h x (List.mem_of_getElem? h1))
  · rename_i cs
    exact .tuple rfl fun i x y h1 h2=>by
      rw [h1] at h2; cases h2
      exact Xad ρ (List.all_eq_true.1 h x (List.mem_of_getElem? h1))
  · exact Xad ρ h
theorem Xae {ρ:Rho} {c v:Value} (h:gr c=true) (k:VR ρ c v):v=c:=VR.det (XuR h) k (YY ρ h)
end Go.Fw
end

section
namespace Go.Fw
open Go
noncomputable section
inductive Ob where
  | dead
  | cells (wr:Bool) (cs:List Value) (e:TypeId) (zb:Bool)
  | map (es:List (Value×Value×Option Nat)) (clock:Nat)
  | mit (m since:Nat) (seen:List Nat) (last:Nat)
  | loop (r:Tr Value) (nt:Nat) (ps:List Tmp) (assign body:Code)
  | df
structure HT where
  d:Nat→Option Ob
  tr:Tr Ob
def HT.get (t:HT) (i:Nat):Option Ob:=match t with | ⟨d,tr⟩=>(match tr.get i with | some o=>some o | none=>d i)
def inR (lo hi i:Nat):Bool:=Nat.ble lo i && Nat.blt i hi
def HT.hole (lo hi:Nat):HT:=⟨fun i=>bif inR lo hi i then none else some .dead,.nil⟩
def HT.all:HT:=HT.hole 0 4096
structure Hp where
  n:Nat
  t:HT
def RR (ρ:Rho) (r:Tr Value) (f:Nat→Value):Prop:=∀ t c,r.get t=some c→VR ρ c (f t)
def OR (ρ:Rho) (m:Img):Ob→Obj→Prop
  | .dead,_=>True
  | .cells wr cs e zb,O=>∃ c z,O=.cells c e z∧(c.size=m.size∧(zb=true→m.base=0))∧(wr=true→z=(0,0))∧∀ (j:Nat) (x:Value),cs[j]?=some x→∃ y,c[m.base+j]?=some y∧VR ρ x y
  | .map es clock, O => ∃ es' l, O = .map es' clock ∧ es'.toList.Perm l ∧ l.length = es.length ∧ (l.map (·.born)).Nodup ∧ (∀ x ∈ l, x.born < clock) ∧
      ∀ (j:Nat) (x:Value×Value×Option Nat) (y:MapEntry),es[j]?=some x→l[j]?=some y→VR ρ x.1 y.key∧VR ρ x.2.1 y.val∧(∀ b,x.2.2=some b→y.born=b)
  | .mit i since seen last,O=>m.base=0∧∃ mm,ρ i=some mm∧O=.mapIter (some mm.b) since ⟨seen⟩ last
  | .loop r nt ps assign body,O=>∃ fn tmps df,O=.loop (YL fn tmps ⟨ps⟩ assign body df)∧(tmps.size=nt∧∀ t c,r.get t=some c→t<nt)∧RR ρ r (fun t=>tmps.getD t undef)
  | .df,O=>O=.deferred (some [])
def Ob.isDead:Ob→Bool
  | .dead=>true
  | _=>false
theorem RR.mono {ρ ρ':Rho} (hr:ρ.le ρ') {r:Tr Value} {f:Nat→Value} (h:RR ρ r f):RR ρ' r f:=fun t c hc=>(h t c hc).mono hr
theorem OR.mono {ρ ρ':Rho} (hr:ρ.le ρ') {m:Img} {o:Ob} {O:Obj} (h:OR ρ m o O):OR ρ' m o O:=by
  cases o with
  | dead=>trivial
  | cells wr cs e zb=>
    obtain ⟨c,z,h1,h2,h3,h4⟩:=h
    exact ⟨c,z,h1,h2,h3,fun j x hx=>by obtain ⟨y,hy,hv⟩:=h4 j x hx; exact ⟨y,hy,hv.mono hr⟩⟩
  | map es clock=>
    obtain ⟨es',l,h1,h2,h3,h4,h5,h6⟩:=h
    exact ⟨es',l,h1,h2,h3,h4,h5,fun j x y hx hy=>by obtain ⟨a,b,c⟩:=h6 j x y hx hy; exact ⟨a.mono hr,b.mono hr,c⟩⟩
  | mit i s se la=>obtain ⟨h0,mm,h1,h2⟩:=h; exact ⟨h0,mm,hr _ _ h1,h2⟩
  | loop r nt ps a b=>obtain ⟨fn,tm,df,h1,h2,h3⟩:=h; exact ⟨fn,tm,df,h1,h2,h3.mono hr⟩
  | df=>exact h
def Lv (t:HT) (i:Nat):Prop:=∃ o,t.get i=some o∧o.isDead=false
def Lb (ρ:Rho) (t:HT) (b:Nat):Prop:=∃ i m,Lv t i∧ρ i=some m∧m.b=b
structure Rel (ρ:Rho) (t:HT) (w:World):Prop where
  dom:∀ i m,ρ i=some m→(t.get i).isSome=true
  live:∀ i o,t.get i=some o→o.isDead=false→∃ m O,ρ i=some m∧w.heap[m.b]?=some O∧OR ρ m o O
  inj:∀ i j m m',Lv t i→Lv t j→ρ i=some m→ρ j=some m'→m.b=m'.b→i=j
structure Ext (ρ:Rho) (t:HT) (w:World) (ρ':Rho) (t':HT) (w':World):Prop where
  le:ρ.le ρ'
  new:∀ b,Lb ρ' t' b→w.heap.size≤b∨Lb ρ t b
  keep:∀ b,b<w.heap.size→¬ Lb ρ t b→w'.heap[b]?=w.heap[b]?
  size:w.heap.size≤w'.heap.size
  os:w'.os=w.os
  tape:w'.tape=w.tape
  output:w'.output=w.output
  fresh:∀ i,(t.get i).isSome=true→ρ' i=ρ i
  grow:∀ i,(t.get i).isSome=true→(t'.get i).isSome=true
theorem Ext.refl (ρ:Rho) (t:HT) (w:World):Ext ρ t w ρ t w:=⟨.refl ρ,fun _ h=>.inr h,fun _ _ _=>rfl,Nat.le_refl _,rfl,rfl,rfl,fun _ _=>rfl,fun _ h=>h⟩
theorem Ext.trans {ρ ρ' ρ'':Rho} {t t' t'':HT} {w w' w'':World} (h:Ext ρ t w ρ' t' w') (k:Ext ρ' t' w' ρ'' t'' w''):Ext ρ t w ρ'' t'' w'' where
  le:=h.le.trans k.le
  new:=fun b hb=>by
    rcases k.new b hb with h1 | h1
    · exact .inl (Nat.le_trans h.size h1)
    · exact h.new b h1
  keep:=fun b hb hn=>by
    rw [k.keep b (Nat.lt_of_lt_of_le hb h.size) (fun hl=>?_),h.keep b hb hn]
    rcases h.new b hl with h1 | h1
    · omega
    · exact hn h1
  size:=Nat.le_trans h.size k.size
  os:=k.os.trans h.os
  tape:=k.tape.trans h.tape
  output:=k.output.trans h.output
  fresh:=fun i hi=>(k.fresh i (h.grow i hi)).trans (h.fresh i hi)
  grow:=fun i hi=>k.grow i (h.grow i hi)
theorem HT.hole_get (lo hi i:Nat):(HT.hole lo hi).get i=if inR lo hi i=true then none else some .dead:=by
  show (bif inR lo hi i then none else some Ob.dead)=_
  cases inR lo hi i <;> rfl
theorem Lv.hole {lo hi i:Nat}:¬ Lv (HT.hole lo hi) i:=fun ⟨o,h1,h2⟩=>by
  rw [HT.hole_get] at h1
  split at h1
  · cases h1
  · cases h1; cases h2
theorem Ext.fr {ρ':Rho} {t':HT} {w w':World} {ρ:Rho} {lo hi:Nat} (h:Ext ρ (HT.hole lo hi) w ρ' t' w'):Fr [] w w':=
  ⟨h.os,h.tape,h.output,h.size,fun k hk _=>h.keep k hk fun ⟨_,_,hl,_⟩=>Lv.hole hl⟩
theorem Ext.same {ρ:Rho} {t:HT} {w w':World} (h:Fr [] w w'):Ext ρ t w ρ t w':=⟨.refl ρ,fun _ h=>.inr h,fun b hb _=>h.block b hb (by simp),h.size,h.os,h.tape,h.output,fun _ _=>rfl,fun _ h=>h⟩
theorem Rel.lt {ρ:Rho} {t:HT} {w:World} (h:Rel ρ t w) {b:Nat} (hb:Lb ρ t b):b<w.heap.size:=by
  obtain ⟨i,m,⟨o,h1,h2⟩,h3,rfl⟩:=hb
  obtain ⟨m',O,h4,h5,_⟩:=h.live i o h1 h2
  rw [h3] at h4; cases h4
  exact Yh h5
theorem Rel.same {ρ:Rho} {t:HT} {w w':World} (h:Rel ρ t w) (hf:Fr [] w w'):Rel ρ t w':=
  ⟨h.dom,fun i o h1 h2=>by
    obtain ⟨m,O,h3,h4,h5⟩:=h.live i o h1 h2
    exact ⟨m,O,h3,(hf.block _ (Yh h4) (by simp)).trans h4,h5⟩,h.inj⟩
def Rho.put (ρ:Rho) (i:Nat) (m:Img):Rho:=fun j=>if j=i then some m else ρ j
theorem Rho.le_put {ρ:Rho} {i:Nat} {m:Img} (h:ρ i=none):ρ.le (ρ.put i m):=fun j m' hj=>by
  unfold Rho.put
  by_cases e:j=i
  · subst e; rw [h] at hj; cases hj
  · rw [if_neg e]; exact hj
theorem Rho.put_same (ρ:Rho) (i:Nat) (m:Img):ρ.put i m i=some m:=by simp [Rho.put]
theorem Rho.put_ne (ρ:Rho) {i j:Nat} (m:Img) (h:j≠i):ρ.put i m j=ρ j:=by simp [Rho.put,h]
theorem Rel.gone {ρ:Rho} {t:HT} {w:World} (h:Rel ρ t w) {i:Nat} (hi:t.get i=none):ρ i=none:=by
  cases e:ρ i with
  | none=>rfl
  | some m=>have:=h.dom i m e; rw [hi] at this; cases this
def Dp:Nat:=12
def XS (i:Nat):Bool:=Nat.blt (i+1) 4096
theorem XmN {i:Nat} (h:XS i=true):i+1<2 ^ Dp:=Nat.le_of_ble_eq_true (show Nat.ble (i+1+1) 4096=true from h)
def Hp.put (t:HT) (i:Nat) (o:Ob):HT:=match t with | ⟨d,tr⟩=>⟨d,Tr.set 12 tr i (some o)⟩
theorem Hp.get_put {t:HT} {i:Nat} (h:XS i=true) (o:Ob) (j:Nat):(Hp.put t i o).get j=if j=i then some o else t.get j:=by
  unfold HT.get Hp.put
  dsimp only
  rw [Tr.get_set 12 t.tr i _ j (XmN h)]
  by_cases e:j=i
  · rw [if_pos e,if_pos e]
  · rw [if_neg e,if_neg e]
theorem Hp.put_grow {t:HT} {i:Nat} (h:XS i=true) (o:Ob) {j:Nat} (hj:(t.get j).isSome=true):((Hp.put t i o).get j).isSome=true:=by
  rw [Hp.get_put h]
  by_cases e:j=i
  · rw [if_pos e]; rfl
  · rw [if_neg e]; exact hj
theorem Rel.new {ρ:Rho} {t:HT} {w w':World} (h:Rel ρ t w) {i:Nat} {o:Ob} {O:Obj} {m:Img} (hi:t.get i=none) (hk:XS i=true) (hf:Fr [] w w') (hb:w.heap.size≤m.b) (hO:w'.heap[m.b]?=some O) (ho:OR ρ m o O) :
    Rel (ρ.put i m) (Hp.put t i o) w'∧Ext ρ t w (ρ.put i m) (Hp.put t i o) w':=by
  have hle:=Rho.le_put (m:=m) (h.gone hi)
  have hlv:∀ j,j≠i→Lv (Hp.put t i o) j→Lv t j:=fun j hj ⟨o',h1,h2⟩=>by rw [Hp.get_put hk,if_neg hj] at h1; exact ⟨o',h1,h2⟩
  refine ⟨⟨fun j m' hj=>?_,fun j o' h1 h2=>?_,fun j k m1 m2 h1 h2 h3 h4 h5=>?_⟩,⟨hle,fun b hb'=>?_,fun b hb _=>hf.block b hb (by simp),hf.size,hf.os,hf.tape,hf.output,fun j hj=>Rho.put_ne _ _ (fun e=>by rw [e,hi] at hj; cases hj),fun j hj=>Hp.put_grow hk o hj⟩⟩
  · rw [Hp.get_put hk]
    by_cases e:j=i
    · rw [if_pos e]; rfl
    · rw [if_neg e]; rw [Rho.put_ne _ _ e] at hj; exact h.dom j m' hj
  · rw [Hp.get_put hk] at h1
    by_cases e:j=i
    · rw [if_pos e] at h1; cases h1; subst e
      exact ⟨m,O,Rho.put_same ..,hO,ho.mono hle⟩
    · rw [if_neg e] at h1
      obtain ⟨m',O',h3,h4,h5⟩:=h.live j o' h1 h2
      exact ⟨m',O',hle _ _ h3,(hf.block _ (Yh h4) (by simp)).trans h4,h5.mono hle⟩
  · have key : ∀ {j k m1 m2}, j ≠ i → k = i → Lv (Hp.put t i o) j → (ρ.put i m) j = some m1 → (ρ.put i m) k = some m2 → m1.b = m2.b → False := by
      intro j k m1 m2 hj hk' h1 h3 h4 h5
      subst hk'
      rw [Rho.put_same] at h4; cases h4
      rw [Rho.put_ne _ _ hj] at h3
      have:=h.lt ⟨j,m1,hlv j hj h1,h3,rfl⟩
      omega
    by_cases ej:j=i
    · by_cases ek:k=i
      · rw [ej,ek]
      · exact (key ek ej h2 h4 h3 h5.symm).elim
    · by_cases ek:k=i
      · exact (key ej ek h1 h3 h4 h5).elim
      · rw [Rho.put_ne _ _ ej] at h3; rw [Rho.put_ne _ _ ek] at h4
        exact h.inj j k m1 m2 (hlv j ej h1) (hlv k ek h2) h3 h4 h5
  · obtain ⟨j,m',h1,h2,rfl⟩:=hb'
    by_cases e:j=i
    · subst e; rw [Rho.put_same] at h2; cases h2; exact .inl hb
    · rw [Rho.put_ne _ _ e] at h2; exact .inr ⟨j,m',hlv j e h1,h2,rfl⟩
theorem Rel.turn {ρ:Rho} {t:HT} {w w':World} (h:Rel ρ t w) {i:Nat} {o o2:Ob} {O:Obj} {m:Img} (hi:t.get i=some o) (ho:o.isDead=false) (hm:ρ i=some m) (hk:XS i=true) (hf:Fr [m.b] w w') (hO:w'.heap[m.b]?=some O)
    (h2:OR ρ m o2 O):Rel ρ (Hp.put t i o2) w'∧Ext ρ t w ρ (Hp.put t i o2) w':=by
  have hlv:∀ j,Lv (Hp.put t i o2) j→Lv t j:=fun j ⟨o',h1,h2⟩=>by
    rw [Hp.get_put hk] at h1
    by_cases e:j=i
    · subst e; exact ⟨o,hi,ho⟩
    · rw [if_neg e] at h1; exact ⟨o',h1,h2⟩
  refine ⟨⟨fun j m' hj=>?_,fun j o' h1 h3=>?_,fun j k m1 m2 h1 h2 h3 h4 h5=>h.inj j k m1 m2 (hlv j h1) (hlv k h2) h3 h4 h5⟩,⟨.refl ρ,fun b hb'=>?_,fun b hb hn=>hf.block b hb ?_,hf.size,hf.os,hf.tape,hf.output,fun _ _=>rfl,fun j hj=>Hp.put_grow hk o2 hj⟩⟩
  · rw [Hp.get_put hk]
    by_cases e:j=i
    · rw [if_pos e]; rfl
    · rw [if_neg e]; exact h.dom j m' hj
  · rw [Hp.get_put hk] at h1
    by_cases e:j=i
    · rw [if_pos e] at h1; cases h1; subst e
      exact ⟨m,O,hm,hO,h2⟩
    · rw [if_neg e] at h1
      obtain ⟨m',O',h4,h5,h6⟩:=h.live j o' h1 h3
      refine ⟨m',O',h4,(hf.block _ (Yh h5) ?_).trans h5,h6⟩
      simp only [List.mem_singleton]
      exact fun hb=>e (h.inj j i m' m ⟨o',h1,h3⟩ ⟨o,hi,ho⟩ h4 hm hb)
  · obtain ⟨j,m',h1,h3,rfl⟩:=hb'
    exact .inr ⟨j,m',hlv j h1,h3,rfl⟩
  · simp only [List.mem_singleton]
    exact fun hb=>hn ⟨i,m,⟨o,hi,ho⟩,hm,hb.symm⟩
theorem Rel.kill {ρ:Rho} {t:HT} {w:World} (h:Rel ρ t w) {i:Nat} (hk:XS i=true):Rel ρ (Hp.put t i .dead) w∧Ext ρ t w ρ (Hp.put t i .dead) w:=by
  have hlv:∀ j,Lv (Hp.put t i .dead) j→Lv t j∧j≠i:=fun j ⟨o',h1,h2⟩=>by
    rw [Hp.get_put hk] at h1
    by_cases e:j=i
    · rw [if_pos e] at h1; cases h1; cases h2
    · rw [if_neg e] at h1; exact ⟨⟨o',h1,h2⟩,e⟩
  refine ⟨⟨fun j m' hj=>?_,fun j o' h1 h3=>?_,fun j k m1 m2 h1 h2 h3 h4 h5=>h.inj j k m1 m2 (hlv j h1).1 (hlv k h2).1 h3 h4 h5⟩,⟨.refl ρ,fun b hb'=>?_,fun _ _ _=>rfl,Nat.le_refl _,rfl,rfl,rfl,fun _ _=>rfl,fun j hj=>Hp.put_grow hk .dead hj⟩⟩
  · rw [Hp.get_put hk]
    by_cases e:j=i
    · rw [if_pos e]; rfl
    · rw [if_neg e]; exact h.dom j m' hj
  · rw [Hp.get_put hk] at h1
    by_cases e:j=i
    · rw [if_pos e] at h1; cases h1; cases h3
    · rw [if_neg e] at h1; exact h.live j o' h1 h3
  · obtain ⟨j,m',h1,h3,rfl⟩:=hb'
    exact .inr ⟨j,m',(hlv j h1).1,h3,rfl⟩
theorem Rel.move {ρ:Rho} {t:HT} {w w':World} (h:Rel ρ t w) {i k:Nat} {o o2:Ob} {O:Obj} {m m2:Img} (hi:t.get i=some o) (ho:o.isDead=false) (hm:ρ i=some m) (hk:XS i=true) (hn:t.get k=none) (hkk:XS k=true)
    (hb:m2.b=m.b) (hf:Fr [m.b] w w') (hO:w'.heap[m.b]?=some O) (h2:OR ρ m2 o2 O) :
    Rel (ρ.put k m2) (Hp.put (Hp.put t i .dead) k o2) w'∧Ext ρ t w (ρ.put k m2) (Hp.put (Hp.put t i .dead) k o2) w':=by
  have hle:=Rho.le_put (m:=m2) (h.gone hn)
  have hik:i≠k:=fun e=>by subst e; rw [hi] at hn; cases hn
  have hg:∀ j,(Hp.put (Hp.put t i .dead) k o2).get j=if j=k then some o2 else if j=i then some .dead else t.get j:=fun j=>by rw [Hp.get_put hkk,Hp.get_put hk]
  have hlv:∀ j,j≠k→Lv (Hp.put (Hp.put t i .dead) k o2) j→Lv t j∧j≠i:=fun j hj ⟨o',h1,h2⟩=>by
    rw [hg,if_neg hj] at h1
    by_cases e:j=i
    · rw [if_pos e] at h1; cases h1; cases h2
    · rw [if_neg e] at h1; exact ⟨⟨o',h1,h2⟩,e⟩
  refine ⟨⟨fun j m' hj=>?_,fun j o' h1 h3=>?_,fun j l m1 m3 h1 h2 h3 h4 h5=>?_⟩,⟨hle,fun b hb'=>?_,fun b hb' hnl=>hf.block b hb' ?_,hf.size,hf.os,hf.tape,hf.output,fun j hj=>Rho.put_ne _ _ (fun e=>by rw [e,hn] at hj; cases hj),fun j hj=>Hp.put_grow hkk o2 (Hp.put_grow hk .dead hj)⟩⟩
  · rw [hg]
    by_cases e:j=k
    · rw [if_pos e]; rfl
    · rw [if_neg e]; rw [Rho.put_ne _ _ e] at hj
      by_cases e2:j=i
      · rw [if_pos e2]; rfl
      · rw [if_neg e2]; exact h.dom j m' hj
  · rw [hg] at h1
    by_cases e:j=k
    · rw [if_pos e] at h1; cases h1; subst e
      exact ⟨m2,O,Rho.put_same ..,by rw [hb]; exact hO,h2.mono hle⟩
    · rw [if_neg e] at h1
      by_cases e2:j=i
      · rw [if_pos e2] at h1; cases h1; cases h3
      · rw [if_neg e2] at h1
        obtain ⟨m',O',h4,h5,h6⟩:=h.live j o' h1 h3
        refine ⟨m',O',hle _ _ h4,(hf.block _ (Yh h5) ?_).trans h5,h6.mono hle⟩
        simp only [List.mem_singleton]
        exact fun hb=>e2 (h.inj j i m' m ⟨o',h1,h3⟩ ⟨o,hi,ho⟩ h4 hm hb)
  · have key : ∀ {j l m1 m3}, j ≠ k → l = k → Lv (Hp.put (Hp.put t i .dead) k o2) j → (ρ.put k m2) j = some m1 → (ρ.put k m2) l = some m3 → m1.b = m3.b → False := by
      intro j l m1 m3 hj hl h1 h3 h4 h5
      subst hl
      rw [Rho.put_same] at h4; cases h4
      rw [Rho.put_ne _ _ hj] at h3
      obtain ⟨h6,h7⟩:=hlv j hj h1
      exact h7 (h.inj j i m1 m h6 ⟨o,hi,ho⟩ h3 hm (h5.trans hb))
    by_cases ej:j=k
    · by_cases ek:l=k
      · rw [ej,ek]
      · exact (key ek ej h2 h4 h3 h5.symm).elim
    · by_cases ek:l=k
      · exact (key ej ek h1 h3 h4 h5).elim
      · rw [Rho.put_ne _ _ ej] at h3; rw [Rho.put_ne _ _ ek] at h4
        exact h.inj j l m1 m3 (hlv j ej h1).1 (hlv l ek h2).1 h3 h4 h5
  · obtain ⟨j,m',h1,h3,rfl⟩:=hb'
    by_cases e:j=k
    · subst e; rw [Rho.put_same] at h3; cases h3; exact .inr ⟨i,m,⟨o,hi,ho⟩,hm,hb.symm⟩
    · rw [Rho.put_ne _ _ e] at h3; exact .inr ⟨j,m',(hlv j e h1).1,h3,rfl⟩
  · simp only [List.mem_singleton]
    exact fun hb=>hnl ⟨i,m,⟨o,hi,ho⟩,hm,hb.symm⟩
end
end Go.Fw
end

section
namespace Go.Fw
open Go
noncomputable section
def XqA {α:Type}:List α→Nat→Tr α→Tr α
  | [],_,t=>t
  | a::l,i,t=>XqA l (i+1) (Tr.set 12 t i (some a))
theorem XmO {α:Type}:∀ (l:List α) (i:Nat) (t:Tr α),i+l.length≤4000→∀ k,(XqA l i t).get k=if i≤k∧k<i+l.length then l[k - i]? else t.get k
  | [],i,t,_,k=>by rw [if_neg (by simp)]; rfl
  | a::l,i,t,h,k=>by
    simp only [List.length_cons] at h ⊢
    unfold XqA
    rw [XmO l (i+1) _ (by omega),Tr.get_set 12 t i (some a) k (by omega)]
    by_cases e:k=i
    · subst e
      rw [if_neg (by omega),if_pos rfl,if_pos (by omega),Nat.sub_self]; rfl
    · by_cases h2:i≤k∧k<i+(l.length+1)
      · rw [if_pos (by omega),if_pos h2,show k - i=(k - (i+1))+1 from by omega,List.getElem?_cons_succ]
      · rw [if_neg (by omega),if_neg e,if_neg h2]
def XmP {α:Type} (l:List α):Tr α:=bif Nat.ble l.length 4000 then XqA l 0 .nil else .nil
theorem Xgt {α:Type} {l:List α} {k:Nat} {a:α} (h:(XmP l).get k=some a):l[k]?=some a:=by
  unfold XmP at h
  cases hb:Nat.ble l.length 4000 with
  | false=>rw [hb] at h; cases h
  | true=>
    rw [hb,cond_true,XmO l 0 .nil (by have:=Nat.le_of_ble_eq_true hb; omega)] at h
    split at h
    · rw [Nat.sub_zero] at h; exact h
    · cases h
def fnF (P:Program) (f:FuncId):Option Func:=match (XmP P.funcs.toList).get f with | some fn=>some fn | none=>P.funcs[f]?
theorem XrW (P:Program) (f:FuncId):fnF P f=P.funcs[f]?:=by
  unfold fnF
  split
  · rename_i fn h
    have:=Xgt h
    rw [Array.getElem?_toList] at this
    exact this.symm
  · rfl
def Xe3 (P:Program) (t:TypeId):Option TypeInfo:=match (XmP P.types.toList).get t with | some i=>some i | none=>P.info? t
theorem Qq (P:Program) (t:TypeId):Xe3 P t=P.info? t:=by
  unfold Xe3
  split
  · rename_i i h
    have:=Xgt h
    rw [Array.getElem?_toList] at this
    have hlt:=(Array.getElem?_eq_some_iff.1 this).1
    unfold Tables.info?
    rw [if_pos hlt]
    exact this.symm
  · rfl
def und (P:Program) (t:TypeId):Option TypeDesc:=
  match Xe3 P t with
  | some i=>(match i.desc with | .named _ u=>(match Xe3 P u with | some j=>some j.desc | none=>none) | d=>some d)
  | none=>none
theorem Xu (P:Program) (t:TypeId):und P t=P.underlying t:=by
  unfold und Program.underlying
  rw [Qq]
  cases P.info? t with
  | none=>rfl
  | some i=>
    obtain ⟨d,_⟩:=i
    cases d <;> first | rfl | (dsimp only; rw [Qq]; cases P.info? _ <;> rfl)
def kB (j k:IntKind):Bool:=match j,k with
  | .i8,.i8 | .i16,.i16 | .i32,.i32 | .i64,.i64 | .u8,.u8 | .u16,.u16 | .u32,.u32 | .u64,.u64=>true
  | _,_=>false
def shS (P:Program) (t:TypeId) (v:Value):Bool:=
  match und P t with
  | some .bool=>(match v with | .bool _=>true | _=>false)
  | some (.int k)=>(match v with | .int j _=>kB j k | _=>false)
  | some .string=>(match v with | .string _=>true | _=>false)
  | some (.pointer _)=>(match v with | .pointer _=>true | _=>false)
  | some (.slice _)=>(match v with | .slice _ _ _=>true | _=>false)
  | some (.map _ _)=>(match v with | .map _=>true | _=>false)
  | _=>true
def XqB (P:Program):List TypeId→List Value→Bool
  | [],[]=>true
  | t::ts,v::vs=>shS P t v && XqB P ts vs
  | _,_=>false
def Xmd (P:Program) (t:TypeId) (v:Value):Bool:=
  match und P t with
  | some (.struct _)=>(match v with | .agg cs=>bif Nat.ble (P.cellsOf t) 8 then XqB P (Q7 P 9 t) cs.toList else true | _=>false)
  | some (.array _ _)=>(match v with | .agg _=>true | _=>false)
  | _=>shS P t v
def Xhv (P:Program):List TypeId→List Value→Bool
  | [],[]=>true
  | t::ts,v::vs=>Xmd P t v && Xhv P ts vs
  | _,_=>false
def Zp (P:Program) (t:TypeId) (v:Value):Bool:=
  match und P t with
  | some (.tuple ts)=>(match v with | .tuple vs=>Xhv P ts.toList vs.toList | _=>false)
  | _=>Xmd P t v
def evO (r:Tr Value):Operand→Option Value
  | .tmp t=>r.get t
  | .const v=>bif gr v then some v else none
  | .func f=>some (.func (.func f) #[] #[])
  | .global _=>none
def evL (r:Tr Value):List Operand→Option (List Value)
  | []=>some []
  | x::l=>match evO r x with
    | none=>none
    | some v=>match evL r l with | none=>none | some vs=>some (v::vs)
def evP (r:Tr Value):List (Nat×Operand)→Option (List (Nat×Value))
  | []=>some []
  | x::l=>match evO r x.2 with
    | none=>none
    | some v=>match evP r l with | none=>none | some vs=>some ((x.1,v)::vs)
def evM (r:Tr Value) (y:Option Operand):Option (Option Value):=match y with | none=>some none | some z=>(match evO r z with | some v=>some (some v) | none=>none)
def XaH (P:Program) (m:Sem Value):Option Value:=match res P m with | some v=>bif gr v then some v else none | none=>none
def grs (l:List Value):Bool:=l.all gr
def W6:Nat→List Value→Option (List Value)
  | 0,_=>some []
  | n+1,x::l=>(match W6 n l with | some r=>some (x::r) | none=>none)
  | _+1,[]=>none
def Xgu:Nat→List Value→List Value→Option (List Value)
  | 0,[],cs=>some cs
  | 0,v::vs,_::cs=>(match Xgu 0 vs cs with | some r=>some (v::r) | none=>none)
  | 0,v::vs,[]=>some (v::vs)
  | o+1,vs,c::cs=>(match Xgu o vs cs with | some r=>some (c::r) | none=>none)
  | _+1,_,[]=>none
def XX (H:Hp) (i o n:Nat):Option (List Value):=match H.t.get i with | some (.cells _ cs _ _)=>W6 n (cs.drop o) | _=>none
def Vg (H:Hp) (sz n:Nat):Value→Option (List Value)
  | .slice none _ _=>bif Nat.beq n 0 then some [] else none
  | .slice (some ⟨i,o,none⟩) _ c=>bif Nat.beq (n*sz) 0 then some [] else bif Nat.beq c XJ then none else XX H i o (n*sz)
  | .string s=>W6 n (s.data.toList.map fun b=>.int .u8 b.toNat)
  | _=>none
def YP (z:List Value) (n:Nat):List Value:=(List.range n).map fun i=>z.getD (i % z.length) undef
def Xgv:Value→Option Nat
  | .slice _ n _=>some n
  | .string s=>some s.size
  | _=>none
def Hp.new (H:Hp) (o:Ob):Option (Nat×Hp):=
  match H.t.get H.n with
  | none=>bif XS H.n then some (H.n,⟨H.n+1,Hp.put H.t H.n o⟩) else none
  | some _=>none
def Wc (H:Hp) (cs:List Value) (e:TypeId) (zb:Bool):Option (Nat×Hp):=bif cs.all Value.oneCell' then H.new (.cells true cs e zb) else none
def ZN (H:Hp) (cs:List Value) (e:TypeId):Option (Nat×Hp):=Wc H cs e true
def Zl (H:Hp) (i o:Nat) (vs:List Value):Option Hp:=
  match H.t.get i with
  | some (.cells true cs e zb)=>bif Nat.ble (o+vs.length) cs.length && XS i && vs.all Value.oneCell' then (match Xgu o vs cs with | some cs'=>some ⟨H.n,Hp.put H.t i (.cells true cs' e zb)⟩ | none=>none) else none
  | _=>none
def Uj (P:Program) (t:TypeId):Option Value:=res P (zeroValue t)
def Xaf (P:Program) (t:TypeId):Option Value:=match Xe3 P t with | some i=>i.zero | none=>none
theorem Xn (P:Program) (t:TypeId):Xaf P t=Uj P t:=by
  unfold Xaf Uj zeroValue typeInfo
  rw [Qq]
  show _ = res P (((match P.info? t with | some i => pure i | none => stuck "no such type" : Sem TypeInfo)).bind fun i => (match i.zero with | some v => pure v | none => unsupported (.resourceLimit "a value of more than 2^22 cells")))
  cases P.info? t with
  | none=>rfl
  | some i=>
    show i.zero = res P (match i.zero with | some v => pure v | none => unsupported (.resourceLimit "a value of more than 2^22 cells") : Sem Value)
    cases i.zero <;> rfl
def sz (P:Program) (t:TypeId):Option Nat:=res P (sizeOf t)
def szF (P:Program) (t:TypeId):Option Nat:=match Xe3 P t with | some i=>some i.size | none=>none
theorem Xw (P:Program) (t:TypeId):szF P t=sz P t:=by
  unfold szF sz sizeOf typeInfo
  rw [Qq]
  show _ = res P (((match P.info? t with | some i => pure i | none => stuck "no such type" : Sem TypeInfo)).bind fun i => pure i.size)
  cases P.info? t <;> rfl
def XmQ (P:Program) (t:TypeId):Option Bool:=match und P t with | some (.struct _)=>some true | some (.array _ _)=>some true | some _=>some false | none=>none
theorem Xq (P:Program) (t:TypeId):XmQ P t=res P (isAgg t):=by
  unfold XmQ isAgg
  rw [Xu]
  show _ = res P ((match P.underlying t with | some d => pure d | none => stuck "no such type" : Sem TypeDesc).bind fun d => (match d with | .struct _ | .array _ _ => pure true | _ => pure false))
  cases P.underlying t with
  | none=>rfl
  | some d=>cases d <;> rfl
def Xe4 (place:Nat→Option (Nat×Nat)):List Value→List (Nat×Value)→Option (List Value)
  | cells,[]=>some cells
  | cells,x::rest=>
    match place x.1 with
    | none=>none
    | some (off,size)=>bif Nat.beq x.2.cells.toList.length size && Nat.ble (off+size) cells.length then (match Xgu off x.2.cells.toList cells with | some c=>Xe4 place c rest | none=>none) else none
def Xe5 (P:Program):List Field→Option (List (Nat×Nat))
  | []=>some []
  | f::fs=>match szF P f.type with
    | none=>none
    | some n=>match Xe5 P fs with | none=>none | some r=>some ((f.offset,n)::r)
def Xgw {α:Type}:List α→Nat→Option α
  | [],_=>none
  | a::l,i=>Nat.rec (motive:=fun _=>Option α) (some a) (fun j _=>Xgw l j) i
def XmR (P:Program) (t:TypeId) (z:Value) (vs:List (Nat×Value)):Option Value:=
  match und P t with
  | some (.struct fs)=>(match Xe5 P fs.toList with | some pl=>(match Xe4 (Xgw pl) z.cells.toList vs with | some out=>some (.agg ⟨out⟩) | none=>none) | none=>none)
  | some (.array _ e)=>(match szF P e with | some s=>(match Xe4 (fun i=>some (i*s,s)) z.cells.toList vs with | some out=>some (.agg ⟨out⟩) | none=>none) | none=>none)
  | _=>none
def XmS (P:Program) (t:TypeId) (c:Value) (i:Nat):Option Value:=
  match und P t,c with
  | some (.struct fs),.agg cs=>
    (match Xgw fs.toList i with
    | some f=>(match XmQ P f.type with
      | some true=>(match szF P f.type with | some n=>(match W6 n (cs.toList.drop f.offset) with | some l=>some (.agg ⟨l⟩) | none=>none) | none=>none)
      | some false=>Xgw cs.toList f.offset
      | none=>none)
    | none=>none)
  | _,_=>none
def bnd (x:Option Value) (d top:Nat):Option Nat:=
  match x with
  | none=>some d
  | some (.int _ (.ofNat n))=>bif Nat.ble n top then some n else none
  | _=>none
def Ur (lo hi mx:Option Value) (len cap:Nat):Option (Nat×Nat×Nat):=
  bif mx.isNone || hi.isSome then
    (match bnd mx cap cap with
    | none=>none
    | some m=>match bnd hi len m with
      | none=>none
      | some h=>match bnd lo 0 h with
        | none=>none
        | some l=>some (l,h,m))
  else none
def cut (i o l h m s:Nat):Value:=.slice (some ⟨i,bif Nat.beq m l then o else o+l*s,none⟩) (h - l) (m - l)
def grO (x:Option Value):Bool:=match x with | some v=>gr v | none=>true
def Xtr (P:Program) (t:TypeId) (x:Value) (lo hi mx:Option Value):Option Value:=
  match und P t with
  | some (.array n e)=>
    (match x,mx with
    | .pointer (some ⟨i,o,none⟩),none=>(match Ur lo hi none n n,szF P e with | some (l,h,m),some s=>bif Nat.blt n XJ then some (cut i o l h m s) else none | _,_=>none)
    | _,_=>none)
  | some (.slice e)=>
    (match x,szF P e with
    | .slice (some ⟨i,o,none⟩) len c,some s=>
      bif Nat.blt c XJ then (match Ur lo hi mx len c with | some (l,h,m)=>some (cut i o l h m s) | none=>none)
      else bif Nat.beq c XJ then (match Ur lo hi mx 0 0 with | some _=>bif Nat.beq len 0 then some (.slice (some ⟨0,0,none⟩) 0 XJ) else none | none=>none)
      else bif Nat.beq c (XJ+s) then
        (match mx with
        | none=>(match Ur lo hi none len len with
          | some (l,h,_)=>bif Nat.beq l 0 then some (.slice (some ⟨i,o,none⟩) h c) else bif Nat.blt l len then some (.slice (some ⟨i,o+l*s,none⟩) (h - l) c) else some (.slice (some ⟨0,0,none⟩) 0 XJ)
          | none=>none)
        | some y=>(match Ur lo hi (some y) len len with | some (l,h,m)=>bif Nat.blt len XJ then some (cut i o l h m s) else none | none=>none))
      else none
    | .slice none _ _,_=>bif grO lo && grO hi && grO mx then XaH P (Instr.sliceAt t x lo hi mx) else none
    | _,_=>none)
  | some .string=>bif gr x && grO lo && grO hi && grO mx then XaH P (Instr.sliceAt t x lo hi mx) else none
  | _=>none
def Xme (P:Program) (t:TypeId) (x y:Value):Option Bool:=
  match und P t,x,y with
  | some (.pointer _),.pointer (some _),.pointer none=>some false
  | some (.pointer _),.pointer none,.pointer (some _)=>some false
  | some (.pointer e),.pointer (some ⟨i,o,none⟩),.pointer (some ⟨j,p,none⟩)=>bif Nat.beq i j && Nat.beq o p && (szF P e).isSome then some true else none
  | some (.slice _),.slice (some _) _ _,.slice none _ _=>some false
  | some (.func _ _ _),.func _ _ _,.nilFunc=>some false
  | some (.func _ _ _),.nilFunc,.func _ _ _=>some false
  | some (.map _ _),.map (some _),.map none=>some false
  | _,_,_=>none
def XqC (P:Program) (op:BinOp) (t:TypeId) (x y:Operand) (a b:Value):Option Value:=
  bif gr a && gr b then XaH P (do eqGuard op t x y a b; binOp op t a b)
  else match op with
    | .eql=>(match Xme P t a b with | some e=>some (.bool e) | none=>none)
    | .neq=>(match Xme P t a b with | some e=>some (.bool (!e)) | none=>none)
    | _=>none
def XmT (P:Program) (s:TypeId) (k:Nat):Option Nat:=
  match und P s with
  | some (.struct fs)=>(match fs[k]? with | some f=>(match szF P f.type with | some (_+1)=>some f.offset | _=>none) | none=>none)
  | _=>none
def pv1 (P:Program) (ty:TypeId) (r:Tr Value) (c:Operand) (a:Operand) (b:Operand):Option Value:=(match evO r c with | some (.bool t)=>evO r (bif t then a else b) | _=>none)
def pv2 (P:Program) (ty:TypeId) (r:Tr Value) (x:Operand) (i:Nat):Option Value:=(match evO r x with | some (.tuple vs)=>vs.toList[i]? | _=>none)
def pv3 (P:Program) (ty:TypeId) (r:Tr Value) (t:TypeId) (ps:Array (Nat×Operand)):Option Value:=(match evP r ps.toList,Xaf P t with | some vs,some z=>bif z.cells.toList.all JP then (match XmR P t z vs with | some v=>bif Uy P t ps || Zp P t v then some v else none | none=>none) else none | _,_=>none)
def pv4 (P:Program) (ty:TypeId) (r:Tr Value) (f:FuncId) (as:Array Operand) (cs:Array Operand):Option Value:=(match evL r as.toList,evL r cs.toList with | some xs,some ys=>some (.func (.func f) ⟨xs⟩ ⟨ys⟩) | _,_=>none)
def pv5 (P:Program) (ty:TypeId) (r:Tr Value) (op:UnOp) (x:Operand):Option Value:=(match evO r x with | some v=>bif gr v then XaH P (Op.unary op v) else none | none=>none)
def pv6 (P:Program) (ty:TypeId) (r:Tr Value) (x:Operand):Option Value:=(match evO r x with | some (.pointer (some a))=>some (.pointer (some a)) | some (.func (.func f) a b)=>some (.func (.func f) a b) | some (.func (.yield l) a b)=>some (.func (.yield l) a b) | _=>none)
def pv7 (P:Program) (ty:TypeId) (r:Tr Value) (s:TypeId) (x:Operand) (k:Nat):Option Value:=(match evO r x,XmT P s k with | some (.pointer (some ⟨i,o,none⟩)),some f=>some (.pointer (some ⟨i,o+f,none⟩)) | _,_=>none)
def pv8 (P:Program) (ty:TypeId) (r:Tr Value) (t:TypeId) (x:Operand) (i:Operand):Option Value:=
    (match evO r x,evO r i with
    | some vx,some (.int _ (.ofNat n))=>
      (match und P t with
      | some (.array m e)=>(match vx,szF P e with | .pointer (some ⟨b,o,none⟩),some s=>bif Nat.blt n m then some (.pointer (some ⟨b,o+n*s,none⟩)) else none | _,_=>none)
      | some (.slice e)=>(match vx,szF P e with | .slice (some ⟨b,o,none⟩) l _,some s=>bif Nat.blt n l then some (.pointer (some ⟨b,o+n*s,none⟩)) else none | _,_=>none)
      | _=>none)
    | _,_=>none)
def pv9 (P:Program) (ty:TypeId) (r:Tr Value) (t:TypeId) (x:Operand) (i:Operand):Option Value:=(match evO r x,evO r i with | some a,some b=>bif gr a && gr b then (match XaH P (Instr.index t a b) with | some v=>bif Zp P ty v then some v else none | none=>none) else none | _,_=>none)
def Ju (P:Program) (ty:TypeId) (r:Tr Value) (t:TypeId) (x:Operand) (lo:Option Operand) (hi:Option Operand) (mx:Option Operand):Option Value:=
    (match evO r x with
    | none=>none
    | some a=>
      match evM r lo,evM r hi,evM r mx with
      | some l,some h,some m=>(match Xtr P t a l h m with | some v=>bif Zp P ty v then some v else none | none=>none)
      | _,_,_=>none)
def Jv (P:Program) (ty:TypeId) (r:Tr Value) (t:TypeId) (x:Operand):Option Value:=(match und P t,evO r x with | some (.array n _),some (.slice (some ⟨i,b,none⟩) l c)=>bif Nat.ble n l && !Nat.beq c XJ then some (.pointer (some ⟨i,b,none⟩)) else none | _,_=>none)
def Jw (P:Program) (ty:TypeId) (r:Tr Value) (t:TypeId) (x:Operand) (i:Nat):Option Value:=(match evO r x with | some v=>(match XmS P t v i with | some u=>bif Qj P t || Zp P ty u then some u else none | none=>none) | none=>none)
def Jx (P:Program) (ty:TypeId) (r:Tr Value) (op:BinOp) (t:TypeId) (x:Operand) (y:Operand):Option Value:=(match evO r x,evO r y with | some a,some b=>(match XqC P op t x y a b with | some v=>bif U2 P op t y || Zp P ty v then some v else none | none=>none) | _,_=>none)
def Jy (P:Program) (ty:TypeId) (r:Tr Value) (src:TypeId) (dst:TypeId) (x:Operand):Option Value:=
    (match evO r x with
    | some v=>bif gr v then (match und P src,und P dst with | some (.int _),some (.int _)=>XaH P (convert src dst v) | _,_=>none) else none
    | none=>none)
def Jz (P:Program) (ty:TypeId) (r:Tr Value) (as:Array Operand) (ts:Array TypeId):Option Value:=
    (match evL r as.toList,ts[0]? with
    | some [x],some t=>(match und P t,x with
      | some (.slice _),.slice _ n _=>some (.int .i64 n)
      | some .string,.string b=>some (.int .i64 b.size)
      | some (.array n _),_=>some (.int .i64 n)
      | _,_=>none)
    | _,_=>none)
def JA (P:Program) (ty:TypeId) (r:Tr Value) (as:Array Operand) (ts:Array TypeId):Option Value:=
    (match evL r as.toList,ts[0]? with
    | some [x],some t=>(match und P t,x with
      | some (.slice _),.slice _ _ c=>bif Nat.blt c XJ && Zp P ty (.int .i64 c) then some (.int .i64 c) else none
      | _,_=>none)
    | _,_=>none)
def JB (P:Program) (ty:TypeId) (r:Tr Value) (as:Array Operand) (ts:Array TypeId):Option Value:=(match evL r as.toList with | some l=>bif grs l then (match XaH P (Builtin.min_ ts ty ⟨l⟩) with | some v=>bif Zp P ty v then some v else none | none=>none) else none | none=>none)
def JC (P:Program) (ty:TypeId) (r:Tr Value) (as:Array Operand) (ts:Array TypeId):Option Value:=(match evL r as.toList with | some l=>bif grs l then (match XaH P (Builtin.max_ ts ty ⟨l⟩) with | some v=>bif Zp P ty v then some v else none | none=>none) else none | none=>none)
def Yo (P:Program) (q:Op) (ty:TypeId) (r:Tr Value):Option Value:=
  match q with
  | .move x | .assign x=>evO r x
  | .pick c a b=>pv1 P ty r c a b
  | .extract x i=>pv2 P ty r x i
  | .build t ps=>pv3 P ty r t ps
  | .makeFunc (.func f) as cs=>pv4 P ty r f as cs
  | .unOp op _ x=>pv5 P ty r op x
  | .nilCheck x=>pv6 P ty r x
  | .fieldAddr s x k=>pv7 P ty r s x k
  | .indexAddr t x i=>pv8 P ty r t x i
  | .index t x i=>pv9 P ty r t x i
  | .slice t x lo hi mx=>Ju P ty r t x lo hi mx
  | .sliceToArrayPointer t x=>Jv P ty r t x
  | .field t x i=>Jw P ty r t x i
  | .binOp op t x y _=>Jx P ty r op t x y
  | .convert src dst x=>Jy P ty r src dst x
  | .call { callee:=.builtin .len,args:=as,argTypes:=ts }=>Jz P ty r as ts
  | .call { callee:=.builtin .cap,args:=as,argTypes:=ts }=>JA P ty r as ts
  | .call { callee:=.builtin .min,args:=as,argTypes:=ts }=>JB P ty r as ts
  | .call { callee:=.builtin .max,args:=as,argTypes:=ts }=>JC P ty r as ts
  | _=>none
inductive Tg where
  | f (f:FuncId)
  | y (l:Nat)
abbrev Xv:=Tg→List Value→Hp→Option (Value×Hp)
def Qr (P:Program) (H:Hp) (t:TypeId) (x:Value):Option Value:=
  match x with
  | .pointer (some ⟨i,o,none⟩)=>
    (match XmQ P t,szF P t with
    | some true,some n=>(match XX H i o n with | some l=>some (.agg ⟨l⟩) | none=>none)
    | some false,_=>(match XX H i o 1 with | some [v]=>some v | _=>none)
    | _,_=>none)
  | _=>none
def XjA (P:Program) (H:Hp) (t:TypeId) (x v:Value):Option Hp:=
  match x,szF P t with
  | .pointer (some ⟨i,o,none⟩),some n=>bif Nat.beq v.cells.size n then Zl H i o v.cells.toList else none
  | _,_=>none
def XmU (P:Program) (H:Hp) (e:TypeId) (k:Nat) (d:TypeDesc) (x:Value):Option (Nat×List Value):=
  match d with
  | .int _=>(match x,Xaf P e with | .int _ (.ofNat n),some z=>bif Nat.ble n 1000 && (YP z.cells.toList (n*k)).all JP then some (n,YP z.cells.toList (n*k)) else none | _,_=>none)
  | .slice _ | .string=>(match Xgv x with | some n=>(match Vg H k n x with | some new=>some (n,new) | none=>none) | none=>none)
  | _=>none
def Xgx (H:Hp) (e:TypeId) (s:Value) (sz n:Nat) (new:List Value):Option (Value×Hp):=
  bif Nat.beq new.length (n*sz) && Nat.ble n 1000 && !Nat.beq sz 0 then
    (match s with
      | .slice none l c=>
        bif Nat.beq n 0 then (bif Nat.ble l c && Nat.ble l 1000 then some (.slice none l c,H) else none)
        else bif Nat.beq l 0 && Nat.beq c 0 then (match ZN H new e with | some (k,H')=>some (.slice (some ⟨k,0,none⟩) n (XJ+sz),H') | none=>none)
        else none
      | .slice (some ⟨i,o,none⟩) l c=>
        bif Nat.ble l c && Nat.ble l 1000 then
          (bif Nat.beq n 0 then some (.slice (some ⟨i,o,none⟩) l c,H)
          else bif Nat.blt c XJ then
            bif Nat.ble (l+n) c then (match Zl H i (o+l*sz) new with | some H'=>some (.slice (some ⟨i,o,none⟩) (l+n) c,H') | none=>none)
            else (match Vg H sz l s with
              | some old=>(match ZN H (old++new) e with | some (k,H')=>some (.slice (some ⟨k,0,none⟩) (l+n) (XJ+sz),H') | none=>none)
              | none=>none)
          else bif Nat.beq c (XJ+sz) then
            (match H.t.get i with
            | some (.cells true cs e' zb)=>
              bif Nat.ble (o+(l+n)*sz) cs.length then (match Zl H i (o+l*sz) new with | some H'=>some (.slice (some ⟨i,o,none⟩) (l+n) c,H') | none=>none)
              else bif Nat.beq e e' && XS i && new.all Value.oneCell' then (match W6 (l*sz) (cs.drop o) with
                | some old=>(match Wc ⟨H.n,Hp.put H.t i .dead⟩ (old++new) e (zb && Nat.beq o 0) with | some (k,H')=>some (.slice (some ⟨k,0,none⟩) (l+n) (XJ+sz),H') | none=>none)
                | none=>none)
              else none
            | _=>none)
          else none)
        else none
      | _=>none)
  else none
def XbW:List Value→Option (List UInt8)
  | []=>some []
  | .int .u8 (.ofNat n)::l=>bif Nat.blt n 256 then (match XbW l with | some r=>some (UInt8.ofNat n::r) | none=>none) else none
  | _=>none
def JU (ty:TypeDesc) (k:Value):List (Value×Value×Option Nat)→Option (Option Value)
  | []=>some none
  | e::es=>match Instr.sameNow ty k e.1 with
    | some true=>(match JU ty k es with | some none=>some (some e.2.1) | _=>none)
    | some false=>JU ty k es
    | none=>none
def ckB (P:Program) (b:Bool) (kt:TypeId) (k:Value):Bool:=match res P (Instr.checkKey b 10000 kt k) with | some ()=>true | none=>false
def Xe6 (P:Program) (H:Hp) (t:TypeId) (m k v:Value):Option Hp:=
  match und P t,m with
  | some (.map kt _),.map (some i)=>
    (match H.t.get i,und P kt with
    | some (.map es c),some ty=>bif gr k && XS i && ckB P false kt k then (match JU ty k es with | some none=>some ⟨H.n,Hp.put H.t i (.map (es++[(k,v,some c)]) (c+1))⟩ | _=>none) else none
    | _,_=>none)
  | _,_=>none
def okV (P:Program) (t:TypeId) (x:Option (Value×Hp)):Option (Value×Hp):=match x with | some (v,H')=>bif Zp P t v then some (v,H') else none | none=>none
def ef0 (P:Program) (E:Xv) (ty:TypeId) (r:Tr Value) (H:Hp) (t:TypeId) (x:Operand):Option (Value×Hp):=(match evO r x with | some a=>(match Qr P H t a with | some v=>bif Zp P t v then some (v,H) else none | none=>none) | none=>none)
def ef1 (P:Program) (E:Xv) (ty:TypeId) (r:Tr Value) (H:Hp) (t:TypeId) (x:Operand) (v:Operand):Option (Value×Hp):=(match evO r x,evO r v with | some a,some b=>(match XjA P H t a b with | some H'=>some (undef,H') | none=>none) | _,_=>none)
def ef2 (P:Program) (E:Xv) (ty:TypeId) (r:Tr Value) (H:Hp) (t:TypeId):Option (Value×Hp):=(match Xaf P t with | some z=>bif z.cells.toList.all JP then (match ZN H z.cells.toList t with | some (k,H')=>some (.pointer (some ⟨k,0,none⟩),H') | none=>none) else none | none=>none)
def ef3 (P:Program) (E:Xv) (ty:TypeId) (r:Tr Value) (H:Hp) (t:TypeId) (x:Operand):Option (Value×Hp):=(match evO r x with | some v=>(match ZN H v.cells.toList t with | some (k,H')=>some (.pointer (some ⟨k,0,none⟩),H') | none=>none) | none=>none)
def ef4 (P:Program) (E:Xv) (ty:TypeId) (r:Tr Value) (H:Hp) (t:TypeId) (n:Nat) (ps:Array (Nat×Operand)):Option (Value×Hp):=
    (match und P t,evP r ps.toList with
    | some (.slice e),some vs=>
      (match szF P e,Xaf P e with
      | some s, some z => bif Nat.beq z.cells.size s && Nat.ble (n * s) 1000 && (YP z.cells.toList (n * s)).all JP && Nat.blt n XJ then
          (match Xe4 (fun i=>some (i*s,s)) (YP z.cells.toList (n*s)) vs with
          | some cells=>(match ZN H cells e with | some (k,H')=>okV P ty (some (.slice (some ⟨k,0,none⟩) n n,H')) | none=>none)
          | none=>none) else none
      | _,_=>none)
    | _,_=>none)
def ef5 (P:Program) (E:Xv) (ty:TypeId) (r:Tr Value) (H:Hp) (t:TypeId) (l:Operand) (c:Operand):Option (Value×Hp):=
    (match und P t,evO r l,evO r c with
    | some (.slice e),some (.int _ (.ofNat l)),some (.int _ (.ofNat c))=>
      (match szF P e,Xaf P e with
      | some s, some z => bif V3 P t s && Nat.ble l c && Nat.ble c 1000 && (YP z.cells.toList (c * s)).all JP then
          (match ZN H (YP z.cells.toList (c*s)) e with | some (k,H')=>okV P ty (some (.slice (some ⟨k,0,none⟩) l c,H')) | none=>none) else none
      | _,_=>none)
    | _,_,_=>none)
def ef6 (P:Program) (E:Xv) (ty:TypeId) (r:Tr Value) (H:Hp)  : Option (Value×Hp):=(match H.new (.map [] 0) with | some (k,H')=>okV P ty (some (.map (some k),H')) | none=>none)
def ef7 (P:Program) (E:Xv) (ty:TypeId) (r:Tr Value) (H:Hp) (t:TypeId) (x:Operand):Option (Value×Hp):=(match und P t,evO r x with | some (.map _ _),some (.int _ _)=>(match H.new (.map [] 0) with | some (k,H')=>okV P ty (some (.map (some k),H')) | none=>none) | _,_=>none)
def ef8 (P:Program) (E:Xv) (ty:TypeId) (r:Tr Value) (H:Hp) (t:TypeId) (x:Operand) (k:Operand) (cok:Bool):Option (Value×Hp):=
    (match und P t,evO r x,evO r k with
    | some (.map kt e),some (.map (some i)),some kv=>
      (match H.t.get i,und P kt,Xaf P e with
      | some (.map es _), some kd, some z => bif gr kv && ckB P es.isEmpty kt kv && z.cells.toList.all JP && gr z then
          (match JU kd kv es with
          | some (some v)=>okV P ty (some (bif cok then .tuple #[v,.bool true] else v,H))
          | some none=>okV P ty (some (bif cok then .tuple #[z,.bool false] else z,H))
          | none=>none) else none
      | _,_,_=>none)
    | _,_,_=>none)
def ef9 (P:Program) (E:Xv) (ty:TypeId) (r:Tr Value) (H:Hp) (t:TypeId) (m:Operand) (k:Operand) (x:Operand):Option (Value×Hp):=(match evO r m,evO r k,evO r x with | some m,some k,some x=>(match Xe6 P H t m k x with | some H'=>some (undef,H') | none=>none) | _,_,_=>none)
def ZO (P:Program) (E:Xv) (ty:TypeId) (r:Tr Value) (H:Hp) (t:TypeId) (m:Operand) (k:Operand) (x:Operand):Option (Value×Hp):=(match evO r m,evO r k,evO r x with | some m,some k,some x=>(match Xe6 P H t m k x with | some H'=>some (undef,H') | none=>none) | _,_,_=>none)
def ZP (P:Program) (E:Xv) (ty:TypeId) (r:Tr Value) (H:Hp) (t:TypeId) (x:Operand):Option (Value×Hp):=
    (match und P t,evO r x with
    | some (.map _ _),some (.map (some i))=>(match H.t.get i with | some (.map _ c)=>(match H.new (.mit i c [] c) with | some (k,H')=>some (.pointer (some ⟨k,0,none⟩),H') | none=>none) | _=>none)
    | _,_=>none)
def ZQ (P:Program) (E:Xv) (ty:TypeId) (r:Tr Value) (H:Hp) (it:Operand):Option (Value×Hp):=
    (match evO r it with
    | some (.pointer (some ⟨k,0,none⟩))=>
      (match H.t.get k with
      | some (.mit i since seen last)=>
        (match H.t.get i,seen with
        | some (.map [] c),[]=>bif Nat.beq c last && Nat.ble since c then some (.tuple #[.bool false],H) else none
        | some (.map [(key,v,some b)] c),[]=>bif Nat.blt b since && Nat.beq c last && Nat.ble since c && XS k then some (.tuple #[.bool true,key,v],⟨H.n,Hp.put H.t k (.mit i since [b] c)⟩) else none
        | some (.map [(_,_,some b)] c),[b']=>bif Nat.beq b b' && Nat.blt b since && Nat.beq c last && Nat.ble since c then some (.tuple #[.bool false],H) else none
        | _,_=>none)
      | _=>none)
    | _=>none)
def ZR (P:Program) (E:Xv) (ty:TypeId) (r:Tr Value) (H:Hp) (it:Operand):Option (Value×Hp):=
    (match evO r it with
    | some (.pointer (some ⟨k,0,none⟩))=>
      (match H.t.get k with
      | some (.mit i _ [b'] last)=>(match H.t.get i with | some (.map [(key,v,some b)] c)=>bif Nat.beq b b' && Nat.beq c last then some (.tuple #[key,v],H) else none | _=>none)
      | _=>none)
    | _=>none)
def ZS (P:Program) (E:Xv) (ty:TypeId) (r:Tr Value) (H:Hp) (src:TypeId) (dst:TypeId) (x:Operand):Option (Value×Hp):=
    (match und P src,und P dst,evO r x with
    | some .string,some (.slice e),some (.string s)=>(match und P e with | some (.int .u8)=>(match H.new (.cells false (s.data.toList.map fun b=>.int .u8 b.toNat) e true) with | some (k,H')=>okV P ty (some (.slice (some ⟨k,0,none⟩) s.size (XJ+1),H')) | none=>none) | _=>none)
    | some (.slice e),some .string,some v=>
      (match und P e,v with
      | some (.int .u8),.slice _ n _=>(match Vg H 1 n v with | some l=>(match XbW l with | some s=>okV P ty (some (.string ⟨⟨s⟩⟩,H)) | none=>none) | none=>none)
      | _,_=>none)
    | some (.pointer t),some .unsafePointer,some (.pointer (some ⟨i,o,none⟩))=>(match szF P t,XX H i o 1 with | some (_+1),some _=>okV P ty (some (.pointer (some ⟨i,o,none⟩),H)) | _,_=>none)
    | some .unsafePointer,some (.pointer u),some (.pointer (some ⟨i,o,none⟩))=>
      (match H.t.get i,szF P u with
      | some (.cells _ cs e true),some (_+1)=>bif liesAt P P.depth e (cs.length / P.cellsOf e) o u 1 && !Nat.beq cs.length 0 then okV P ty (some (.pointer (some ⟨i,o,none⟩),H)) else none
      | _,_=>none)
    | _,_,_=>none)
def ZT (P:Program) (E:Xv) (ty:TypeId) (r:Tr Value) (H:Hp) (x:Operand) (as:Array Operand):Option (Value×Hp):=
    (match evO r x,evL r as.toList with
    | some (.func (.func g) fs cs),some vs=>okV P ty (E (.f g) (fs.toList++vs++cs.toList) H)
    | some (.func (.yield l) _ _),some vs=>okV P ty (E (.y l) vs H)
    | _,_=>none)
def ZU (P:Program) (E:Xv) (ty:TypeId) (r:Tr Value) (H:Hp) (as:Array Operand) (ts:Array TypeId):Option (Value×Hp):=
    (match ts.toList,evL r as.toList with
    | [t,tx],some [s,x]=>
      (match und P t,und P tx with
      | some (.slice e),some d=>
        (match szF P e with
        | some k=>bif V3 P t k then (match XmU P H e k d x with | some (n,new)=>okV P ty (Xgx H e s k n new) | none=>none) else none
        | none=>none)
      | _,_=>none)
    | _,_=>none)
def ZV (P:Program) (E:Xv) (ty:TypeId) (r:Tr Value) (H:Hp) (as:Array Operand) (ts:Array TypeId):Option (Value×Hp):=
    (match ts.toList,evL r as.toList with
    | [t,_],some [.slice (some ⟨i,o,none⟩) dl c,x]=>
      (match und P t with
      | some (.slice e)=>
        (match szF P e,Xgv x with
        | some s,some n=>(match Vg H s (Nat.min n dl) x with | some l=>(match Zl H i o l with | some H'=>bif !Nat.beq c XJ then okV P ty (some (.int .i64 (Nat.min n dl:Nat),H')) else none | none=>none) | none=>none)
        | _,_=>none)
      | _=>none)
    | _,_=>none)
def ZW (P:Program) (E:Xv) (ty:TypeId) (r:Tr Value) (H:Hp) (as:Array Operand):Option (Value×Hp):=
    (match evL r as.toList with
    | some [.slice none _ _]=>okV P ty (some (.pointer none,H))
    | some [.slice (some ⟨i,o,none⟩) (l+1) c]=>bif !Nat.beq c XJ && Nat.ble (l+1) c then okV P ty (some (.pointer (some ⟨i,o,none⟩),H)) else none
    | _=>none)
def ZX (P:Program) (E:Xv) (ty:TypeId) (r:Tr Value) (H:Hp) (as:Array Operand) (ts:Array TypeId):Option (Value×Hp):=
    (match ts.toList,evL r as.toList with
    | [pt,_],some [.pointer p,.int .i64 (.ofNat n)]=>
      bif Nat.beq n 0 then okV P ty (some (.string ⟨⟨[]⟩⟩,H))
      else (match p with
      | some ⟨i,0,none⟩=>
        (match und P pt,H.t.get i with
        | some (.pointer u),some (.cells _ cs e true)=>
          (match W6 n cs with
          | some l=>(match XbW l with | some s=>bif XS i && Nat.beq u e && Nat.beq (P.cellsOf e) 1 && Nat.ble n 1000000 then okV P ty (some (.string ⟨⟨s⟩⟩,⟨H.n,Hp.put H.t i (.cells false cs e true)⟩)) else none | none=>none)
          | none=>none)
        | _,_=>none)
      | _=>none)
    | _,_=>none)
def Yw (P:Program) (E:Xv) (q:Op) (ty:TypeId) (r:Tr Value) (H:Hp):Option (Value×Hp):=
  match q with
  | .load t x=>ef0 P E ty r H t x
  | .store t x v=>ef1 P E ty r H t x v
  | .alloc t=>ef2 P E ty r H t
  | .box t x=>ef3 P E ty r H t x
  | .buildSlice t n ps=>ef4 P E ty r H t n ps
  | .makeSlice t l c=>ef5 P E ty r H t l c
  | .makeMap _ none=>ef6 P E ty r H 
  | .makeMap t (some x)=>ef7 P E ty r H t x
  | .lookup t x k cok=>ef8 P E ty r H t x k cok
  | .mapUpdate t m k x=>ef9 P E ty r H t m k x
  | .insert t m k x=>ZO P E ty r H t m k x
  | .range t x=>ZP P E ty r H t x
  | .next it false=>ZQ P E ty r H it
  | .entry it=>ZR P E ty r H it
  | .convert src dst x=>ZS P E ty r H src dst x
  | .call { callee:=.value x,args:=as,.. }=>ZT P E ty r H x as
  | .call { callee:=.builtin .append,args:=as,argTypes:=ts }=>ZU P E ty r H as ts
  | .call { callee:=.builtin .copy,args:=as,argTypes:=ts }=>ZV P E ty r H as ts
  | .call { callee:=.builtin .unsafeSliceData,args:=as,.. }=>ZW P E ty r H as
  | .call { callee:=.builtin .unsafeString,args:=as,argTypes:=ts }=>ZX P E ty r H as ts
  | _=>none
def Xmf (P:Program) (q:Op):Bool:=
  match q with
  | .convert src dst _=>(match und P src,und P dst with | some (.int _),some (.int _)=>false | _,_=>true)
  | .load .. | .store .. | .alloc .. | .box .. | .buildSlice .. | .makeSlice .. | .makeMap .. | .lookup .. | .mapUpdate .. | .insert .. | .range .. | .next .. | .entry ..=>true
  | .call { callee:=.value _,.. } | .call { callee:=.builtin .append,.. } | .call { callee:=.builtin .copy,.. } | .call { callee:=.builtin .unsafeSliceData,.. } | .call { callee:=.builtin .unsafeString,.. }=>true
  | _=>false
def XqD (P:Program) (E:Xv) (q:Op) (ty:TypeId) (r:Tr Value) (H:Hp):Option (Value×Hp):=
  bif Xmf P q then Yw P E q ty r H else (match Yo P q ty r with | some v=>some (v,H) | none=>none)
def XaI (P:Program) (E:Xv) (q:Op) (ty:TypeId) (r:Tr Value) (H:Hp):Option (Value×Hp):=
  match q with
  | .move x | .assign x=>(match evO r x with | some v=>some (v,H) | none=>none)
  | _=>XqD P E q ty r H
end
end Go.Fw
end

section
namespace Go.Fw
open Go
theorem XrX {j k:IntKind} (h:kB j k=true):j=k:=by cases j <;> cases k <;> first | rfl | cases h
theorem XmV {P:Program} {ρ:Rho} {t:TypeId} {c v:Value} (h:VR ρ c v) (hs:shS P t c=true) {K:Value→Prop} (hk:K v):JZ P t K:=by
  unfold JZ
  unfold shS at hs
  rw [Xu] at hs
  cases hu:P.underlying t with
  | none=>exact ⟨_,hk⟩
  | some d=>
    rw [hu] at hs
    cases d with
    | bool=>cases c <;> first | (cases h; exact ⟨_,hk⟩) | cases hs
    | int k=>
      cases c with
      | int j n=>have:=XrX hs; subst this; cases h; exact ⟨_,hk⟩
      | _=>cases hs
    | string=>cases c <;> first | (cases h; exact ⟨_,hk⟩) | cases hs
    | pointer e=>cases c <;> first | (cases h <;> exact ⟨_,hk⟩) | cases hs
    | slice e=>cases c <;> first | (cases h <;> exact ⟨_,_,_,hk⟩) | cases hs
    | map a b=>cases c <;> first | (cases h <;> exact ⟨_,hk⟩) | cases hs
    | _=>exact ⟨_,hk⟩
theorem VRs.cons_inv {ρ:Rho} {a:Value} {as bs:List Value} (h:VRs ρ (a::as) bs):∃ b bs',bs=b::bs'∧VR ρ a b∧VRs ρ as bs':=by
  cases bs with
  | nil=>exact absurd h.1 (by simp)
  | cons b bs'=>exact ⟨b,bs',rfl,h.2 0 a b rfl rfl,by have:=h.1; simpa using this,fun i x y h1 h2=>h.2 (i+1) x y h1 h2⟩
theorem VRs.nil_inv {ρ:Rho} {bs:List Value} (h:VRs ρ [] bs):bs=[]:=List.length_eq_zero_iff.1 h.1.symm
theorem VRs.nil (ρ:Rho):VRs ρ [] []:=⟨rfl,fun i x y h1 _=>by simp at h1⟩
theorem VRs.cons {ρ:Rho} {a b:Value} {as bs:List Value} (h:VR ρ a b) (k:VRs ρ as bs):VRs ρ (a::as) (b::bs):=
  ⟨by simp [k.1],fun i x y h1 h2=>by
    cases i with
    | zero=>simp at h1 h2; subst h1; subst h2; exact h
    | succ i=>exact k.2 i x y (by simpa using h1) (by simpa using h2)⟩
theorem VRs.append {ρ:Rho}:∀ {as bs cs ds:List Value},VRs ρ as bs→VRs ρ cs ds→VRs ρ (as++cs) (bs++ds)
  | [],bs,cs,ds,h,k=>by rw [h.nil_inv]; exact k
  | a::as,bs,cs,ds,h,k=>by
    obtain ⟨b,bs',rfl,h1,h2⟩:=h.cons_inv
    exact .cons h1 (VRs.append h2 k)
theorem VR.agg_inv {ρ:Rho} {as:Array Value} {v:Value} (h:VR ρ (.agg as) v):∃ bs,v=.agg ⟨bs⟩∧VRs ρ as.toList bs:=by
  cases h with | agg h1 h2=>exact ⟨_,rfl,h1,h2⟩
theorem VR.tuple_inv {ρ:Rho} {as:Array Value} {v:Value} (h:VR ρ (.tuple as) v):∃ bs,v=.tuple ⟨bs⟩∧VRs ρ as.toList bs:=by
  cases h with | tuple h1 h2=>exact ⟨_,rfl,h1,h2⟩
theorem VRs.agg {ρ:Rho} {as bs:List Value} (h:VRs ρ as bs):VR ρ (.agg ⟨as⟩) (.agg ⟨bs⟩):=.agg h.1 h.2
theorem VRs.tuple {ρ:Rho} {as bs:List Value} (h:VRs ρ as bs):VR ρ (.tuple ⟨as⟩) (.tuple ⟨bs⟩):=.tuple h.1 h.2
theorem XpT {P:Program} {ρ:Rho}:∀ {ts:List TypeId} {cs vs:List Value} {K:List Value→Prop},VRs ρ cs vs→XqB P ts cs=true→K vs→V7 P ts K
  | [],[],vs,K,h,_,hk=>by rw [h.nil_inv] at hk; exact hk
  | [],_::_,_,_,_,hs,_=>by cases hs
  | _::_,[],_,_,_,hs,_=>by cases hs
  | t::ts,c::cs,vs,K,h,hs,hk=>by
    obtain ⟨v,vs',rfl,h1,h2⟩:=h.cons_inv
    simp only [XqB,Bool.and_eq_true] at hs
    exact XmV h1 hs.1 (K:=fun v=>V7 P ts fun vs=>K (v::vs)) (XpT h2 hs.2 hk)
theorem Xgy {P:Program} {ρ:Rho} {t:TypeId} {c v:Value} (h:VR ρ c v) (hs:Xmd P t c=true) {K:Value→Prop} (hk:K v):Q8 P t K:=by
  unfold Q8
  unfold Xmd at hs
  rw [Xu] at hs
  cases hu:P.underlying t with
  | none=>rw [hu] at hs; exact XmV h hs hk
  | some d=>
    rw [hu] at hs
    cases d with
    | struct fs=>
      cases c with
      | agg cs=>
        obtain ⟨bs,rfl,hb⟩:=h.agg_inv
        cases hb8:Nat.ble (P.cellsOf t) 8 with
        | false=>exact ⟨_,hk⟩
        | true=>simp only [hb8,cond_true] at hs; exact XpT hb hs hk
      | _=>cases hs
    | array n e=>
      cases c with
      | agg cs=>obtain ⟨bs,rfl,hb⟩:=h.agg_inv; exact ⟨_,hk⟩
      | _=>cases hs
    | _=>exact XmV h hs hk
theorem XkG {P:Program} {ρ:Rho}:∀ {ts:List TypeId} {cs vs:List Value} {K:List Value→Prop},VRs ρ cs vs→Xhv P ts cs=true→K vs→Xdz P ts K
  | [],[],vs,K,h,_,hk=>by rw [h.nil_inv] at hk; exact hk
  | [],_::_,_,_,_,hs,_=>by cases hs
  | _::_,[],_,_,_,hs,_=>by cases hs
  | t::ts,c::cs,vs,K,h,hs,hk=>by
    obtain ⟨v,vs',rfl,h1,h2⟩:=h.cons_inv
    simp only [Xhv,Bool.and_eq_true] at hs
    exact Xgy h1 hs.1 (K:=fun v=>Xdz P ts fun vs=>K (v::vs)) (XkG h2 hs.2 hk)
theorem Qs {P:Program} {ρ:Rho} {t:TypeId} {c v:Value} (h:VR ρ c v) (hs:Zp P t c=true) {K:Value→Prop} (hk:K v):YO P t K:=by
  unfold YO
  unfold Zp at hs
  rw [Xu] at hs
  cases hu:P.underlying t with
  | none=>rw [hu] at hs; exact Xgy h hs hk
  | some d=>
    rw [hu] at hs
    cases d with
    | tuple ts=>
      cases c with
      | tuple cs=>obtain ⟨bs,rfl,hb⟩:=h.tuple_inv; exact XkG (K:=fun vs=>K (.tuple ⟨vs⟩)) hb hs hk
      | _=>cases hs
    | _=>exact Xgy h hs hk
theorem Xo {ρ:Rho} {r:Tr Value} {s:St} (hr:RR ρ r s.r) {x:Operand} {c:Value} (h:evO r x=some c):VR ρ c (s.ev x):=by
  cases x with
  | tmp t=>exact hr t c h
  | const v=>
    simp only [evO] at h
    cases hg:gr v with
    | false=>rw [hg] at h; cases h
    | true=>rw [hg] at h; cases h; exact YY ρ hg
  | global g=>cases h
  | func f=>cases h; exact VR.func (as:=[]) (bs:=[]) (cs:=[]) (ds:=[]) rfl (by simp) rfl (by simp)
theorem XdL {ρ:Rho} {r:Tr Value} {s:St} (hr:RR ρ r s.r) {x:Operand} {c:Value} (h:evO r x=some c) (hg:gr c=true):s.ev x=c:=Xae hg (Xo hr h)
theorem JI {ρ:Rho} {r:Tr Value} {s:St} (hr:RR ρ r s.r):∀ {xs:List Operand} {cs:List Value},evL r xs=some cs→VRs ρ cs (xs.map s.ev)
  | [],cs,h=>by cases h; exact .nil ρ
  | x::xs,cs,h=>by
    simp only [evL] at h
    split at h
    · cases h
    · rename_i v hv
      split at h
      · cases h
      · rename_i vs hvs; cases h
        exact .cons (Xo hr hv) (JI hr hvs)
theorem XmW {ρ:Rho}:∀ {cs vs:List Value},grs cs=true→VRs ρ cs vs→vs=cs
  | [],vs,_,h=>h.nil_inv
  | c::cs,vs,hg,h=>by
    obtain ⟨v,vs',rfl,h1,h2⟩:=h.cons_inv
    unfold grs at hg
    rw [List.all_cons,Bool.and_eq_true] at hg
    rw [Xae hg.1 h1,XmW (cs:=cs) hg.2 h2]
theorem J3 {P:Program} {m:Sem Value} {v:Value} (h:XaH P m=some v):res P m=some v∧gr v=true:=by
  unfold XaH at h
  split at h
  · rename_i u hu
    cases hg:gr u with
    | false=>rw [hg] at h; cases h
    | true=>rw [hg] at h; cases h; exact ⟨hu,hg⟩
  · cases h
def VPs (ρ:Rho):List (Nat×Value)→List (Nat×Value)→Prop
  | [],[]=>True
  | a::as,b::bs=>a.1=b.1∧VR ρ a.2 b.2∧VPs ρ as bs
  | _,_=>False
theorem XmX {ρ:Rho} {r:Tr Value} {s:St} (hr:RR ρ r s.r):∀ {xs:List (Nat×Operand)} {cs:List (Nat×Value)},evP r xs=some cs→VPs ρ cs (xs.map fun p=>(p.1,s.ev p.2))
  | [],cs,h=>by cases h; trivial
  | x::xs,cs,h=>by
    simp only [evP] at h
    split at h
    · cases h
    · rename_i v hv
      split at h
      · cases h
      · rename_i vs hvs; cases h
        exact ⟨rfl,Xo hr hv,XmX hr hvs⟩
theorem JD {P:Program} {m:Sem Value} {u:Value} (h:res P m=some u) {K:Value→Prop} (hk:K u):Vb P (do pure (.value (← m))) K:=by
  unfold Vb
  rw [Jm h]
  exact hk
end Go.Fw
end

section
namespace Go.Fw
open Go
theorem VR.cells {ρ:Rho} {c v:Value} (h:VR ρ c v):VRs ρ c.cells.toList v.cells.toList:=by
  cases h with
  | agg h1 h2=>exact ⟨h1,h2⟩
  | _=>exact .cons (by constructor <;> assumption) (.nil ρ)
theorem VRs.set {ρ:Rho} {as bs:List Value} (h:VRs ρ as bs) {a b:Value} (k:VR ρ a b) (i:Nat):VRs ρ (as.set i a) (bs.set i b):=
  ⟨by simp [h.1],fun j x y h1 h2=>by
    rw [List.getElem?_set] at h1 h2
    by_cases e:i=j
    · rw [if_pos e] at h1 h2
      by_cases hl:i<as.length
      · rw [if_pos hl] at h1; rw [if_pos (h.1 ▸ hl)] at h2; cases h1; cases h2; exact k
      · rw [if_neg hl] at h1; cases h1
    · rw [if_neg e] at h1 h2; exact h.2 j x y h1 h2⟩
theorem XfU {ρ:Rho} (off:Nat):∀ {l l':List Value} {a a':Array Value} (k:Nat),VRs ρ l l'→VRs ρ a.toList a'.toList→
    VRs ρ ((l.zipIdx k).foldl (fun cs x=>cs.setIfInBounds (off+x.2) x.1) a).toList ((l'.zipIdx k).foldl (fun cs x=>cs.setIfInBounds (off+x.2) x.1) a').toList
  | [],l',a,a',k,h,ha=>by rw [h.nil_inv]; exact ha
  | x::l,l',a,a',k,h,ha=>by
    obtain ⟨y,l'',rfl,h1,h2⟩:=h.cons_inv
    simp only [List.zipIdx_cons,List.foldl_cons]
    exact XfU off (k+1) h2 (by simp only [Array.toList_setIfInBounds]; exact ha.set h1 _)
theorem XbX {ρ:Rho} {place:Nat→Option (Nat×Nat)}:∀ {ps qs:List (Nat×Value)} {a a' out:Array Value},VPs ρ ps qs→VRs ρ a.toList a'.toList→Instr.fill place a ps=some out→
    ∃ out',Instr.fill place a' qs=some out'∧VRs ρ out.toList out'.toList
  | [],[],a,a',out,_,ha,h=>by cases h; exact ⟨_,rfl,ha⟩
  | [],_::_,_,_,_,hp,_,_=>hp.elim
  | _::_,[],_,_,_,hp,_,_=>hp.elim
  | (i,v)::ps,(j,u)::qs,a,a',out,hp,ha,h=>by
    obtain ⟨rfl,hv,hp⟩:=hp
    have hc:=VR.cells hv
    have e1:v.cells.size=u.cells.size:=hc.1
    have e2:a.size=a'.size:=ha.1
    unfold Instr.fill at h ⊢
    dsimp only at h ⊢
    cases hpl:place i with
    | none=>rw [hpl] at h; cases h
    | some p=>
      obtain ⟨off,size⟩:=p
      rw [hpl] at h
      dsimp only at h ⊢
      rw [← e1,← e2]
      split at h
      · cases h
      · rename_i hno
        rw [if_neg hno]
        refine XbX hp ?_ h
        have key:∀ (x:Array Value) (b:Array Value),(x.zipIdx.foldl (fun cs (c,j)=>cs.setIfInBounds (off+j) c) b)=(x.toList.zipIdx 0).foldl (fun cs x=>cs.setIfInBounds (off+x.2) x.1) b:=fun x b=>by
          rw [← Array.foldl_toList,Array.toList_zipIdx]
        rw [key,key]
        exact XfU off 0 hc ha
theorem Uk {ρ:Rho} {l:List Value} (h:l.all JP=true):VRs ρ l l:=⟨rfl,fun i x y h1 h2=>by rw [h1] at h2; cases h2; exact Xad ρ (Xjz h h1)⟩
theorem VRs.arr {ρ:Rho} {a b:Array Value} (h:VRs ρ a.toList b.toList):VR ρ (.agg a) (.agg b):=by
  cases a; cases b; exact .agg h.1 h.2
theorem YC {P:Program} {α β:Type} {m:Sem α} {f:α→Sem β} {b:β} (h:res P (m.bind f)=some b):∃ a,res P m=some a∧res P (f a)=some b:=by
  rw [Xm] at h
  cases hm:res P m with
  | none=>rw [hm] at h; cases h
  | some a=>rw [hm] at h; exact ⟨a,rfl,h⟩
theorem Xh {P:Program} {α β:Type} {m:Sem α} {f:α→Sem β} {a:α} (h:res P m=some a):res P (m.bind f)=res P (f a):=by rw [Xm,h]; rfl
theorem XrY {P:Program} {ρ:Rho} {t:TypeId} {ps qs:List (Nat×Value)} {c z:Value} (hp:VPs ρ ps qs) (hz:Uj P t=some z) (hza:z.cells.toList.all JP=true) (h:res P (Instr.build t ⟨ps⟩)=some c) :
    ∃ v,res P (Instr.build t ⟨qs⟩)=some v∧VR ρ c v:=by
  unfold Instr.build at h ⊢
  obtain ⟨z',h1,h⟩:=YC h
  obtain rfl:z=z':=by unfold Uj at hz; rw [hz] at h1; cases h1; rfl
  obtain ⟨d,h2,h⟩:=YC h
  have e1:=Xh (f:=fun zero=>(underlying t).bind fun d=>(match d with
    | .struct fields=>do
      let places ← fields.mapM fun f=>do pure (f.offset,← sizeOf f.type)
      let some cells := Instr.fill (places[·]?) zero.cells qs | stuck "build: no such field, or a part of the wrong size"
      pure (.agg cells)
    | .array _ elem=>do
      let size ← sizeOf elem
      let some cells := Instr.fill (fun i => some (i * size, size)) zero.cells qs | stuck "build: a part of the wrong size"
      pure (.agg cells)
    | _ => stuck "build: struct or array type expected" : Sem Value)) h1
  refine Exists.imp (fun v=>And.imp_left fun hv=>e1.trans hv) ?_
  rw [Xh h2]
  cases d with
  | struct fields=>
    dsimp only at h ⊢
    obtain ⟨places,h3,h⟩:=YC h
    have e2 := Xh (f := fun (places : Array (Nat × Nat)) => (match Instr.fill (places[·]?) z.cells qs with | some cells => pure (.agg cells) | _ => stuck "build: no such field, or a part of the wrong size" : Sem Value)) h3
    refine Exists.imp (fun v=>And.imp_left fun hv=>e2.trans hv) ?_
    have hs:∃ cells,Instr.fill (places[·]?) z.cells ps=some cells∧c=.agg cells:=by
      split at h
      · rename_i cells hc; exact ⟨cells,hc,by cases h; rfl⟩
      · cases h
    obtain ⟨cells,hc,rfl⟩:=hs
    obtain ⟨out',ho,hr⟩:=XbX hp (Uk hza) hc
    exact ⟨.agg out',by rw [ho]; rfl,hr.arr⟩
  | array n elem=>
    dsimp only at h ⊢
    obtain ⟨size,h3,h⟩:=YC h
    have e2 := Xh (f := fun (size : Nat) => (match Instr.fill (fun i => some (i * size, size)) z.cells qs with | some cells => pure (.agg cells) | _ => stuck "build: a part of the wrong size" : Sem Value)) h3
    refine Exists.imp (fun v=>And.imp_left fun hv=>e2.trans hv) ?_
    have hs:∃ cells,Instr.fill (fun i=>some (i*size,size)) z.cells ps=some cells∧c=.agg cells:=by
      split at h
      · rename_i cells hc; exact ⟨cells,hc,by cases h; rfl⟩
      · cases h
    obtain ⟨cells,hc,rfl⟩:=hs
    obtain ⟨out',ho,hr⟩:=XbX hp (Uk hza) hc
    exact ⟨.agg out',by rw [ho]; rfl,hr.arr⟩
  | _=>cases h
end Go.Fw
end

section
namespace Go.Fw
open Go
theorem VRs.get {ρ:Rho} {as bs:List Value} (h:VRs ρ as bs) {i:Nat} {x:Value} (hx:as[i]?=some x):∃ y,bs[i]?=some y∧VR ρ x y:=by
  have hi:i<bs.length:=h.1 ▸ (List.getElem?_eq_some_iff.1 hx).1
  exact ⟨bs[i],List.getElem?_eq_getElem hi,h.2 i x _ hx (List.getElem?_eq_getElem hi)⟩
theorem VRs.take {ρ:Rho} {as bs:List Value} (h:VRs ρ as bs) (n:Nat):VRs ρ (as.take n) (bs.take n):=
  ⟨by simp [h.1],fun i x y h1 h2=>by
    rw [List.getElem?_take] at h1 h2
    by_cases e:i<n
    · rw [if_pos e] at h1 h2; exact h.2 i x y h1 h2
    · rw [if_neg e] at h1; cases h1⟩
theorem VRs.drop {ρ:Rho} {as bs:List Value} (h:VRs ρ as bs) (n:Nat):VRs ρ (as.drop n) (bs.drop n):=
  ⟨by simp [h.1],fun i x y h1 h2=>by rw [List.getElem?_drop] at h1 h2; exact h.2 _ x y h1 h2⟩
theorem Xts {P:Program} {ρ:Rho} {t:TypeId} {a b:Array Value} {off:Nat} {u:Value} (h:VRs ρ a.toList b.toList) (hp:res P (part t a off)=some u):∃ v,res P (part t b off)=some v∧VR ρ u v:=by
  unfold part at hp ⊢
  obtain ⟨g,h1,hp⟩:=YC hp
  refine Exists.imp (fun v=>And.imp_left (Eq.trans (Xh h1))) ?_
  cases g with
  | true=>
    obtain ⟨n,h2,hp⟩:=YC hp
    cases hp
    refine ⟨.agg (b.extract off (off+n)),?_,?_⟩
    · show res P ((sizeOf t).bind _)=_
      rw [Xh h2]; rfl
    · refine VRs.arr ?_
      rw [Array.toList_extract,Array.toList_extract]
      exact (h.drop off).take _
  | false=>
    have hp : res P (match a[off]? with | some v => pure v | none => stuck "part: no such cell" : Sem Value) = some u := hp
    cases hx:a[off]? with
    | none=>rw [hx] at hp; cases hp
    | some x=>
      rw [hx] at hp; cases hp
      obtain ⟨y,hy,hv⟩:=h.get (i:=off) (x:=u) (by simpa using hx)
      refine ⟨y,?_,hv⟩
      show res P (match b[off]? with | some v => pure v | none => stuck "part: no such cell" : Sem Value) = _
      have:b[off]?=some y:=by simpa using hy
      rw [this]; rfl
theorem XrZ {P:Program} {ρ:Rho} {t:TypeId} {c v u:Value} {i:Nat} (h:VR ρ c v) (hp:res P (Instr.field t c i)=some u):∃ v',res P (Instr.field t v i)=some v'∧VR ρ u v':=by
  unfold Instr.field at hp ⊢
  obtain ⟨d,h1,hp⟩:=YC hp
  cases d with
  | struct fs=>
    cases hf:fs[i]? with
    | none=>dsimp only at hp; rw [hf] at hp; cases hp
    | some f=>
      dsimp only at hp
      rw [hf] at hp
      obtain ⟨a,h2,hp⟩:=YC hp
      cases c with
      | agg cs=>
        cases h2
        obtain ⟨bs,rfl,hb⟩:=h.agg_inv
        obtain ⟨v',h3,h4⟩:=Xts (b:=⟨bs⟩) hb hp
        refine ⟨v',?_,h4⟩
        show res P ((underlying t).bind _)=_
        rw [Xh h1]
        dsimp only
        rw [hf]
        exact h3
      | _=>cases h2
  | _=>cases hp
theorem XqE {P:Program} {s:TypeId} {k off:Nat} (h:XmT P s k=some off) (a:Addr):res P (Instr.fieldAt s (.pointer (some a)) k)=some (.pointer (some (a.add off))):=by
  unfold XmT at h
  simp only [Xu,Xw,Xn,Xq] at h
  split at h
  · rename_i fs hu
    split at h
    · rename_i f hf
      split at h
      · rename_i n hn
        cases h
        unfold Instr.fieldAt
        show res P ((underlying s).bind _)=_
        rw [Xh (Xk hu)]
        dsimp only
        rw [hf]
        show res P ((fieldPlace a f).bind _)=_
        have:res P (fieldPlace a f)=some (a.add f.offset):=by
          unfold fieldPlace
          show res P ((sizeOf f.type).bind _)=_
          rw [Xh (show res P (sizeOf f.type)=some (n+1) from hn)]
          rfl
        rw [Xh this]
        rfl
      · cases h
    · cases h
  · cases h
end Go.Fw
end

section
namespace Go.Fw
open Go
theorem Zy {x:Option Value} {d top n:Nat} (h:bnd x d top=some n):(x=none∧n=d)∨∃ k,x=some (.int k (n:Int))∧n≤top:=by
  unfold bnd at h
  split at h
  · cases h; exact .inl ⟨rfl,rfl⟩
  · rename_i k m
    cases hb:Nat.ble m top with
    | false=>rw [hb] at h; cases h
    | true=>rw [hb] at h; cases h; exact .inr ⟨k,rfl,Nat.le_of_ble_eq_true hb⟩
  · cases h
theorem Xtt {x:Option Value} {d top top' n:Nat} (ht:top≤top') (h:bnd x d top=some n):bnd x d top'=some n:=by
  rcases Zy h with ⟨rfl,rfl⟩ | ⟨k,rfl,hn⟩
  · rfl
  · show (bif Nat.ble n top' then some n else none)=_
    rw [Nat.ble_eq_true_of_le (Nat.le_trans hn ht)]; rfl
theorem Xbe {P:Program} {k:IntKind} {n y:Nat} {code:BoundsCode} (h:n≤y):res P (Instr.sliceBound (.int k (n:Int)) y code)=some n:=by
  show res P (if 0≤(n:Int)∧(n:Int)≤y then pure (n:Int).toNat else _:Sem Nat)=_
  rw [if_pos ⟨by omega,by omega⟩]
  rfl
theorem XpU {P:Program} {isS:Bool} {lo hi mx:Option Value} {len cap l h m:Nat} (hb:Ur lo hi mx len cap=some (l,h,m)):res P (Instr.sliceBounds isS len cap lo hi mx)=some (l,h,m):=by
  unfold Ur at hb
  cases hc:(mx.isNone || hi.isSome) with
  | false=>rw [hc] at hb; cases hb
  | true=>
    rw [hc,cond_true] at hb
    split at hb
    · cases hb
    rename_i m' hm
    split at hb
    · cases hb
    rename_i h' hh
    split at hb
    · cases hb
    rename_i l' hl
    cases hb
    unfold Instr.sliceBounds
    rcases Zy hm with ⟨rfl,rfl⟩ | ⟨k1,rfl,h1⟩
    · rcases Zy hh with ⟨rfl,rfl⟩ | ⟨k2,rfl,h2⟩
      · rcases Zy hl with ⟨rfl,rfl⟩ | ⟨k3,rfl,h3⟩
        · rfl
        · exact (Xh (Xbe h3)).trans rfl
      · refine (Xh (Xbe h2)).trans ?_
        rcases Zy hl with ⟨rfl,rfl⟩ | ⟨k3,rfl,h3⟩
        · rfl
        · exact (Xh (Xbe h3)).trans rfl
    · rcases Zy hh with ⟨rfl,rfl⟩ | ⟨k2,rfl,h2⟩
      · cases hc
      · refine (Xh (Xbe h1)).trans ((Xh (Xbe h2)).trans ?_)
        rcases Zy hl with ⟨rfl,rfl⟩ | ⟨k3,rfl,h3⟩
        · rfl
        · exact (Xh (Xbe h3)).trans rfl
theorem Xbf {lo hi mx:Option Value} {len cap l h m:Nat} (hb:Ur lo hi mx len cap=some (l,h,m)):l≤h∧(h≤m∨h=len)∧m≤cap:=by
  unfold Ur at hb
  cases hc:(mx.isNone || hi.isSome) with
  | false=>rw [hc] at hb; cases hb
  | true=>
    rw [hc,cond_true] at hb
    split at hb
    · cases hb
    rename_i m' hm
    split at hb
    · cases hb
    rename_i h' hh
    split at hb
    · cases hb
    rename_i l' hl
    cases hb
    refine ⟨?_,?_,?_⟩
    · rcases Zy hl with ⟨rfl,rfl⟩ | ⟨k,rfl,hn⟩
      · exact Nat.zero_le _
      · exact hn
    · rcases Zy hh with ⟨rfl,rfl⟩ | ⟨k,rfl,hn⟩
      · exact .inr rfl
      · exact .inl hn
    · rcases Zy hm with ⟨rfl,rfl⟩ | ⟨k,rfl,hn⟩
      · exact Nat.le_refl _
      · exact hn
theorem XdM {lo hi mx:Option Value} {len c c' l h m:Nat} (ht:c≤c') (hb:Ur lo hi mx len c=some (l,h,m)):∃ m',Ur lo hi mx len c'=some (l,h,m')∧(mx=none∧m'=c'∨mx.isSome=true∧m'=m):=by
  unfold Ur at hb ⊢
  cases hc:(mx.isNone || hi.isSome) with
  | false=>rw [hc] at hb; cases hb
  | true=>
    rw [hc,cond_true] at hb
    rw [cond_true]
    split at hb
    · cases hb
    rename_i m' hm
    split at hb
    · cases hb
    rename_i h' hh
    split at hb
    · cases hb
    rename_i l' hl
    cases hb
    rcases Zy hm with ⟨rfl,rfl⟩ | ⟨k,rfl,hn⟩
    · refine ⟨c',?_,.inl ⟨rfl,rfl⟩⟩
      show (match bnd hi len c' with | none=>none | some h=>match bnd lo 0 h with | none=>none | some l=>some (l,h,c'))=_
      rw [Xtt ht hh]
      dsimp only
      rw [hl]
    · refine ⟨m,?_,.inr ⟨rfl,rfl⟩⟩
      have e:bnd (some (Value.int k (m:Int))) c' c'=some m:=by
        show (bif Nat.ble m c' then some m else none)=_
        rw [Nat.ble_eq_true_of_le (Nat.le_trans hn ht)]; rfl
      rw [e]
      dsimp only
      rw [hh]
      dsimp only
      rw [hl]
theorem XvS {i o l h m s:Nat}:cut i o l h m s=.slice (some ⟨i,if m=l then o else o+l*s,none⟩) (h - l) (m - l):=by
  unfold cut
  by_cases e:m=l
  · rw [beq_iff.2 e,if_pos e]; rfl
  · rw [Zk.2 e,if_neg e]; rfl
theorem XjB {ρ:Rho} {i o l h m s:Nat} {g:Img} (hg:ρ i=some g) (hm:m<XJ):VR ρ (cut i o l h m s) (.slice (if m=l then some ⟨g.b,g.base+o,none⟩ else (some ⟨g.b,g.base+o,none⟩:Option Addr).map (·.add (l*s))) (h - l) (m - l)):=by
  rw [XvS]
  by_cases e:m=l
  · rw [if_pos e,if_pos e]
    exact .slice hg (Nat.ble_eq_true_of_le (by show m - l+1≤XJ; omega))
  · rw [if_neg e,if_neg e]
    show VR ρ _ (.slice (some ((⟨g.b,g.base+o,none⟩:Addr).add (l*s))) (h - l) (m - l))
    rw [Xi,Nat.add_assoc]
    exact .slice hg (Nat.ble_eq_true_of_le (by show m - l+1≤XJ; omega))
theorem W7 {P:Program} {t e:TypeId} {s:Nat} (ht:P.underlying t=some (.slice e)) (hs:res P (sizeOf e)=some s) {a:Option Addr} {len cap l h m:Nat} {lo hi mx:Option Value} (hb:Ur lo hi mx len cap=some (l,h,m)) :
    res P (Instr.sliceAt t (.slice a len cap) lo hi mx)=some (.slice (if m=l then a else a.map (·.add (l*s))) (h - l) (m - l)):=by
  unfold Instr.sliceAt
  refine (Xh (Xk ht)).trans ?_
  show res P (Instr.slice t (.slice a len cap) lo hi mx)=_
  unfold Instr.slice
  refine (Xh (Xk ht)).trans ?_
  exact (Xh (XpU hb)).trans ((Xh hs).trans rfl)
theorem XqF {P:Program} {t e:TypeId} {s n:Nat} (ht:P.underlying t=some (.array n e)) (hs:res P (sizeOf e)=some s) {a:Addr} {l h m:Nat} {lo hi:Option Value} (hb:Ur lo hi none n n=some (l,h,m)) :
    res P (Instr.sliceAt t (.pointer (some a)) lo hi none)=some (.slice (some (if m=l then a else a.add (l*s))) (h - l) (m - l)):=by
  unfold Instr.sliceAt
  refine (Xh (Xk ht)).trans ?_
  exact (Xh (a:=a) rfl).trans ((Xh (XpU hb)).trans ((Xh hs).trans rfl))
end Go.Fw
end

section
namespace Go.Fw
open Go
def RO (ρ:Rho):Option Value→Option Value→Prop
  | none,none=>True
  | some x,some y=>VR ρ x y
  | _,_=>False
theorem XmY {ρ:Rho} {r:Tr Value} {s:St} (hr:RR ρ r s.r) {x:Option Operand} {c:Option Value} (h:evM r x=some c):RO ρ c (x.map s.ev):=by
  unfold evM at h
  cases x with
  | none=>cases h; trivial
  | some z=>
    dsimp only at h
    split at h
    · rename_i v hv; cases h; exact Xo hr hv
    · cases h
theorem RO.int {ρ:Rho} {x y:Option Value} {d top n:Nat} (h:RO ρ x y) (hb:bnd x d top=some n):y=x:=by
  rcases Zy hb with ⟨rfl,_⟩ | ⟨k,rfl,_⟩
  · cases y with
    | none=>rfl
    | some v=>exact h.elim
  · cases y with
    | none=>exact h.elim
    | some v=>have h:VR ρ _ v:=h; cases h; rfl
theorem RO.gr {ρ:Rho} {x y:Option Value} (h:RO ρ x y) (hg:grO x=true):y=x:=by
  cases x with
  | none=>cases y with
    | none=>rfl
    | some v=>exact h.elim
  | some c=>cases y with
    | none=>exact h.elim
    | some v=>rw [Xae hg h]
theorem Wd {ρ:Rho} {lo hi mx lo' hi' mx':Option Value} {len cap:Nat} {q:Nat×Nat×Nat} (hb:Ur lo hi mx len cap=some q) (h1:RO ρ lo lo') (h2:RO ρ hi hi') (h3:RO ρ mx mx'):lo'=lo∧hi'=hi∧mx'=mx:=by
  unfold Ur at hb
  cases hc:(mx.isNone || hi.isSome) with
  | false=>rw [hc] at hb; cases hb
  | true=>
    rw [hc,cond_true] at hb
    split at hb
    · cases hb
    rename_i m' hm
    split at hb
    · cases hb
    rename_i h' hh
    split at hb
    · cases hb
    rename_i l' hl
    exact ⟨h1.int hl,h2.int hh,h3.int hm⟩
theorem Xf {α:Type} {b:Bool} {x:Option α} {y:α} (h:(bif b then x else none)=some y):b=true∧x=some y:=by
  cases b with
  | true=>exact ⟨rfl,h⟩
  | false=>cases h
theorem XuS {P:Program} {ρ:Rho} {t:TypeId} {x vx c:Value} {lo hi mx lo' hi' mx':Option Value} (h:Xtr P t x lo hi mx=some c) (hx:VR ρ x vx) (h1:RO ρ lo lo') (h2:RO ρ hi hi') (h3:RO ρ mx mx') :
    ∃ v,res P (Instr.sliceAt t vx lo' hi' mx')=some v∧VR ρ c v:=by
  unfold Xtr at h
  simp only [Xu,Xw,Xn,Xq] at h
  split at h
  · rename_i n e hu
    split at h
    · rename_i i o
      split at h
      · rename_i l hh m s hb hs
        obtain ⟨hn,h⟩:=Xf h
        cases h
        obtain ⟨rfl,rfl,rfl⟩:=Wd hb h1 h2 h3
        cases hx with
        | ptr hg=>
          rename_i g
          refine ⟨_,XqF hu hs hb,?_⟩
          have hr:=XjB (o:=o) (l:=l) (h:=hh) (s:=s) hg (Nat.lt_of_le_of_lt (Xbf hb).2.2 (ZM hn))
          by_cases e1:m=l
          · rw [if_pos e1] at hr ⊢; exact hr
          · rw [if_neg e1] at hr ⊢; exact hr
      · cases h
    · cases h
  · rename_i e hu
    split at h
    · rename_i i o len cp s hs
      cases hc1:Nat.blt cp XJ with
      | true=>
        rw [hc1,cond_true] at h
        split at h
        · rename_i l hh m hb
          cases h
          obtain ⟨rfl,rfl,rfl⟩:=Wd hb h1 h2 h3
          have hc2:=ZM hc1
          cases hx with
          | slice hg h0=>exact ⟨_,W7 hu hs hb,XjB hg (Nat.lt_of_le_of_lt (Xbf hb).2.2 hc2)⟩
          | sliceO _ _ hO=>omega
          | sliceE _ _ _ _ hE=>omega
        · cases h
      | false=>
        rw [hc1,cond_false] at h
        have hc0:¬ cp<XJ:=fun hh=>by rw [show Nat.blt cp XJ=true from Nat.ble_eq_true_of_le hh] at hc1; cases hc1
        cases hc2:Nat.beq cp XJ with
        | true=>
          have hcE:=beq_iff.1 hc2
          rw [hc2,cond_true] at h
          split at h
          · rename_i q hb
            obtain ⟨hz,h⟩:=Xf h
            cases h
            obtain rfl:=beq_iff.1 hz
            obtain ⟨rfl,rfl,rfl⟩:=Wd hb h1 h2 h3
            cases hx with
            | slice hg h0=>exact absurd (ZM h0) hc0
            | sliceO _ h0 hO=>omega
            | sliceE _ _ a c' hE=>
              obtain ⟨l,hh,m⟩:=q
              obtain ⟨m',hb',hm'⟩:=XdM (Nat.zero_le c') hb
              refine ⟨_,W7 hu hs hb',?_⟩
              have hle:=Xbf hb
              have e2:hh - l=0:=by omega
              rw [e2]
              by_cases e1:m'=l
              · rw [if_pos e1]; exact .sliceE _ _ _ _ rfl
              · rw [if_neg e1]; exact .sliceE _ _ _ _ rfl
          · cases h
        | false=>
          rw [hc2,cond_false] at h
          have hcE:=Zk.1 hc2
          have hbn:=Xf h
          clear h
          obtain ⟨hc3,h⟩:=hbn
          have hcO:=beq_iff.1 hc3
          cases hx with
          | slice hg h0=>exact absurd (ZM h0) hc0
          | sliceE _ _ _ _ hE=>omega
          | sliceO hg h0 hO hcap hl=>
            rename_i c' g
            have hop:g.op=s:=by omega
            split at h
            · split at h
              · rename_i l hh m0 hb
                obtain ⟨rfl,rfl,rfl⟩:=Wd hb h1 h2 h3
                obtain ⟨m',hb',hm' | hm'⟩:=XdM hl hb
                · obtain ⟨_,rfl⟩:=hm'
                  have hle:=Xbf hb
                  have hhl:hh≤len:=by omega
                  refine ⟨_,W7 hu hs hb',?_⟩
                  cases hz:Nat.beq l 0 with
                  | true=>
                    obtain rfl:=beq_iff.1 hz
                    rw [hz,cond_true] at h; cases h
                    have:(if m'=0 then (some ⟨g.b,g.base+o,none⟩:Option Addr) else (some ⟨g.b,g.base+o,none⟩:Option Addr).map (·.add (0*s)))=some ⟨g.b,g.base+o,none⟩:=by
                      by_cases e1:m'=0
                      · rw [if_pos e1]
                      · rw [if_neg e1]; show some ((⟨g.b,g.base+o,none⟩:Addr).add (0*s))=_; rw [Xi]; simp
                    rw [this,Nat.sub_zero,Nat.sub_zero]
                    exact .sliceO hg h0 hO hcap (Nat.le_trans hhl hl)
                  | false=>
                    rw [hz,cond_false] at h
                    cases hz2:Nat.blt l len with
                    | true=>
                      have hz2':l+1≤len:=Nat.le_of_ble_eq_true hz2
                      rw [hz2,cond_true] at h; cases h
                      rw [if_neg (by omega)]
                      show VR ρ _ (.slice (some ((⟨g.b,g.base+o,none⟩:Addr).add (l*s))) (hh - l) (m' - l))
                      rw [Xi,Nat.add_assoc]
                      refine .sliceO hg h0 hO ?_ (by omega)
                      have e3:(m' - l)*g.op+l*g.op=m' * g.op:=by rw [← Nat.add_mul]; congr 1; omega
                      rw [hop] at e3 hcap ⊢
                      omega
                    | false=>
                      rw [hz2,cond_false] at h; cases h
                      have hz3:¬ l<len:=fun hh=>by rw [show Nat.blt l len=true from Nat.ble_eq_true_of_le hh] at hz2; cases hz2
                      have e2:hh - l=0:=by omega
                      rw [e2]
                      by_cases e1:m'=l
                      · rw [if_pos e1]; exact .sliceE _ _ _ _ rfl
                      · rw [if_neg e1]; exact .sliceE _ _ _ _ rfl
                · cases hm'.1
              · cases h
            · split at h
              · rename_i l hh m hb
                obtain ⟨hn,h⟩:=Xf h
                cases h
                obtain ⟨rfl,rfl,rfl⟩:=Wd hb h1 h2 h3
                obtain ⟨m',hb',hm' | hm'⟩:=XdM hl hb
                · cases hm'.1
                · obtain ⟨_,rfl⟩:=hm'
                  exact ⟨_,W7 hu hs hb',XjB hg (Nat.lt_of_le_of_lt (Xbf hb).2.2 (ZM hn))⟩
              · cases h
    · obtain ⟨hg,h⟩:=Xf h
      rw [Bool.and_eq_true,Bool.and_eq_true] at hg
      obtain rfl:=h1.gr hg.1.1
      obtain rfl:=h2.gr hg.1.2
      obtain rfl:=h3.gr hg.2
      obtain ⟨hr,hgr⟩:=J3 h
      cases hx
      exact ⟨c,hr,YY ρ hgr⟩
    · cases h
  · obtain ⟨hg,h⟩:=Xf h
    rw [Bool.and_eq_true,Bool.and_eq_true,Bool.and_eq_true] at hg
    obtain rfl:=h1.gr hg.1.1.2
    obtain rfl:=h2.gr hg.1.2
    obtain rfl:=h3.gr hg.2
    obtain ⟨hr,hgr⟩:=J3 h
    obtain rfl:=Xae hg.1.1.1 hx
    exact ⟨c,hr,YY ρ hgr⟩
  · cases h
end Go.Fw
end

section
namespace Go.Fw
open Go
theorem VR.int_inv {ρ:Rho} {k:IntKind} {n:Int} {v:Value} (h:VR ρ (.int k n) v):v=.int k n:=by cases h; rfl
theorem VR.bool_inv {ρ:Rho} {b:Bool} {v:Value} (h:VR ρ (.bool b) v):v=.bool b:=by cases h; rfl
theorem VR.ptr_inv {ρ:Rho} {i o:Nat} {v:Value} (h:VR ρ (.pointer (some ⟨i,o,none⟩)) v):∃ m,ρ i=some m∧v=.pointer (some ⟨m.b,m.base+o,none⟩):=by cases h with | ptr hm=>exact ⟨_,hm,rfl⟩
theorem JE {P:Program} {t:TypeId} {a b:Value} {x y:Operand} {e:Bool} (hna:eqGuard .eql t x y a b=pure ()) (hnb:eqGuard .neq t x y a b=pure ())
    (hb:binOp .eql t a b=(do pure (.bool (← Op.equal t a b)))) (hc:binOp .neq t a b=(do pure (.bool (!(← Op.equal t a b))))) (h:res P (Op.equal t a b)=some e) :
    res P (do eqGuard .eql t x y a b; binOp .eql t a b:Sem Value)=some (.bool e)∧res P (do eqGuard .neq t x y a b; binOp .neq t a b:Sem Value)=some (.bool (!e)):=by
  rw [hna,hnb,hb,hc]
  exact ⟨(Xh h).trans rfl,(Xh h).trans rfl⟩
theorem XmZ {P:Program} {ρ:Rho} {t:TypeId} {a b va vb:Value} {x y:Operand} {e:Bool} (h:Xme P t a b=some e) (ha:VR ρ a va) (hb:VR ρ b vb) :
    res P (do eqGuard .eql t x y va vb; binOp .eql t va vb:Sem Value)=some (.bool e)∧res P (do eqGuard .neq t x y va vb; binOp .neq t va vb:Sem Value)=some (.bool (!e)):=by
  unfold Xme at h
  simp only [Xu,Xw,Xn,Xq] at h
  split at h
  · rename_i e1 a1 hu
    cases h
    cases hb
    cases ha with
    | ptr hm=>exact JE rfl rfl rfl rfl ((Xh (Xk hu)).trans rfl)
  · rename_i e1 a1 hu
    cases h
    cases ha
    cases hb with
    | ptr hm=>exact JE rfl rfl rfl rfl ((Xh (Xk hu)).trans rfl)
  · rename_i e1 i o j p hu
    obtain ⟨hij,h⟩:=Xf h
    cases h
    rw [Bool.and_eq_true,Bool.and_eq_true] at hij
    obtain rfl:=beq_iff.1 hij.1.1
    obtain rfl:=beq_iff.1 hij.1.2
    obtain ⟨n,hn⟩:=Option.isSome_iff_exists.1 hij.2
    obtain ⟨m,hm,rfl⟩:=ha.ptr_inv
    obtain ⟨m',hm',rfl⟩:=hb.ptr_inv
    rw [hm] at hm'; cases hm'
    refine JE rfl rfl rfl rfl ((Xh (Xk hu)).trans ?_)
    refine (Xh (show res P (sizeOf e1)=some n from hn)).trans ?_
    show res P (if n≠0 then _ else _:Sem Bool)=_
    by_cases h0:n≠0
    · rw [if_pos h0]
      show res P (if ((⟨m.b,m.base+o,none⟩:Addr).block == (⟨m.b,m.base+o,none⟩:Addr).block)=true then _ else _:Sem Bool)=_
      rw [if_pos (by simp)]
      show some ((⟨m.b,m.base+o,none⟩:Addr) == (⟨m.b,m.base+o,none⟩:Addr))=_
      simp
    · rw [if_neg h0]
      show res P (if ((⟨m.b,m.base+o,none⟩:Addr) == (⟨m.b,m.base+o,none⟩:Addr))=true then _ else _:Sem Bool)=_
      rw [if_pos (by simp)]
      rfl
  · rename_i e1 a1 _ _ _ _ hu
    cases h
    cases hb
    cases ha <;> exact JE rfl rfl rfl rfl ((Xh (Xk hu)).trans rfl)
  · rename_i hu
    cases h
    cases hb
    cases ha <;> exact JE rfl rfl rfl rfl ((Xh (Xk hu)).trans rfl)
  · rename_i hu
    cases h
    cases ha
    cases hb <;> exact JE rfl rfl rfl rfl ((Xh (Xk hu)).trans rfl)
  · rename_i hu
    cases h
    cases hb
    cases ha <;> exact JE rfl rfl rfl rfl ((Xh (Xk hu)).trans rfl)
  · cases h
theorem Xtu {P:Program} {ρ:Rho} {op:BinOp} {t:TypeId} {x y:Operand} {a b va vb c:Value} (h:XqC P op t x y a b=some c) (ha:VR ρ a va) (hb:VR ρ b vb) :
    res P (do eqGuard op t x y va vb; binOp op t va vb:Sem Value)=some c∧gr c=true:=by
  unfold XqC at h
  cases hg:gr a && gr b with
  | true=>
    rw [hg,cond_true] at h
    rw [Bool.and_eq_true] at hg
    rw [Xae hg.1 ha,Xae hg.2 hb]
    exact J3 h
  | false=>
    rw [hg,cond_false] at h
    split at h
    · split at h
      · rename_i e he; cases h; exact ⟨(XmZ he ha hb).1,rfl⟩
      · cases h
    · split at h
      · rename_i e he; cases h; exact ⟨(XmZ he ha hb).2,rfl⟩
      · cases h
    · cases h
end Go.Fw
end

section
namespace Go.Fw
open Go
theorem U4:∀ {n:Nat} {l r:List Value},W6 n l=some r→r=l.take n∧r.length=n
  | 0,l,r,h=>by cases l <;> (cases h; exact ⟨by simp,rfl⟩)
  | n+1,[],r,h=>by cases h
  | n+1,x::l,r,h=>by
    simp only [W6] at h
    split at h
    · rename_i q hq
      cases h
      obtain ⟨h1,h2⟩:=U4 hq
      exact ⟨by rw [h1]; rfl,by simp [h2]⟩
    · cases h
theorem XbY:∀ {o:Nat} {vs cs r:List Value},Xgu o vs cs=some r→o+vs.length≤cs.length→r.length=cs.length∧∀ j,r[j]?=if o≤j∧j<o+vs.length then vs[j - o]? else cs[j]?
  | 0,[],cs,r,h,_=>by
    cases cs <;> (cases h; exact ⟨rfl,fun j=>by rw [if_neg (by simp)]⟩)
  | 0,v::vs,[],r,h,hl=>by simp at hl
  | 0,v::vs,c::cs,r,h,hl=>by
    simp only [Xgu] at h
    split at h
    · rename_i q hq
      cases h
      obtain ⟨h1,h2⟩:=XbY hq (by simp at hl ⊢; omega)
      refine ⟨by simp [h1],fun j=>?_⟩
      cases j with
      | zero=>rw [if_pos (by simp)]; rfl
      | succ j=>
        rw [List.getElem?_cons_succ,h2]
        by_cases ha:j<vs.length
        · rw [if_pos (by simp; omega),if_pos (by simp; omega)]; rfl
        · rw [if_neg (by simp; omega),if_neg (by simp; omega)]; rfl
    · cases h
  | o+1,vs,[],r,h,hl=>by simp at hl
  | o+1,vs,c::cs,r,h,hl=>by
    simp only [Xgu] at h
    split at h
    · rename_i q hq
      cases h
      obtain ⟨h1,h2⟩:=XbY hq (by simp at hl ⊢; omega)
      refine ⟨by simp [h1],fun j=>?_⟩
      cases j with
      | zero=>rw [if_neg (by omega)]; rfl
      | succ j=>
        rw [List.getElem?_cons_succ,h2]
        by_cases ha:o≤j∧j<o+vs.length
        · rw [if_pos ha,if_pos (by omega),show j+1 - (o+1)=j - o from by omega]
        · rw [if_neg ha,if_neg (by omega)]; rfl
    · cases h
theorem Xe7 {α:Type}:∀ (l:List α) (i:Nat),Xgw l i=l[i]?
  | [],i=>rfl
  | a::l,0=>rfl
  | a::l,i+1=>by
    show Xgw l i=_
    rw [Xe7 l i,List.getElem?_cons_succ]
theorem XfV (off:Nat):∀ (l:List Value) (k:Nat) (a:Array Value),off+k+l.length≤a.size→((l.zipIdx k).foldl (fun cs x=>cs.setIfInBounds (off+x.2) x.1) a).size=a.size∧
    ∀ j,((l.zipIdx k).foldl (fun cs x=>cs.setIfInBounds (off+x.2) x.1) a)[j]?=if off+k≤j∧j<off+k+l.length then l[j - (off+k)]? else a[j]?
  | [],k,a,_=>⟨rfl,fun j=>by rw [if_neg (by simp)]; rfl⟩
  | x::l,k,a,h=>by
    simp only [List.length_cons] at h
    obtain ⟨h1,h2⟩:=XfV off l (k+1) (a.setIfInBounds (off+k) x) (by simp; omega)
    rw [List.zipIdx_cons,List.foldl_cons]
    refine ⟨by rw [h1]; simp,fun j=>?_⟩
    rw [h2]
    by_cases e:off+(k+1)≤j∧j<off+(k+1)+l.length
    · rw [if_pos e,if_pos (by simp; omega),show j - (off+k)=(j - (off+(k+1)))+1 from by omega,List.getElem?_cons_succ]
    · rw [if_neg e]
      by_cases e2:j=off+k
      · subst e2
        rw [if_pos (by simp),Nat.sub_self]
        simp [show off+k<a.size from by omega]
      · rw [if_neg (by simp only [List.length_cons]; omega),Array.getElem?_setIfInBounds_ne (by omega)]
theorem XbZ {place:Nat→Option (Nat×Nat)}:∀ {ps:List (Nat×Value)} {cells out:List Value},Xe4 place cells ps=some out→Instr.fill place ⟨cells⟩ ps=some ⟨out⟩
  | [],cells,out,h=>by cases h; rfl
  | (i,v)::ps,cells,out,h=>by
    unfold Xe4 at h
    dsimp only at h
    unfold Instr.fill
    dsimp only
    cases hp:place i with
    | none=>rw [hp] at h; cases h
    | some q=>
      obtain ⟨off,size⟩:=q
      rw [hp] at h
      dsimp only at h ⊢
      obtain ⟨hc,h⟩:=Xf h
      rw [Bool.and_eq_true] at hc
      have h1:v.cells.size=size:=beq_iff.1 hc.1
      have h2:off+size≤cells.length:=Nat.le_of_ble_eq_true hc.2
      split at h
      · rename_i c hset
        rw [if_neg (by rw [h1]; simp; omega)]
        have hlen:off+v.cells.toList.length≤cells.length:=by rw [Array.length_toList,h1]; exact h2
        obtain ⟨h3,h4⟩:=XbY hset hlen
        have e:(v.cells.zipIdx.foldl (fun cs (c,j)=>cs.setIfInBounds (off+j) c) (⟨cells⟩:Array Value))=⟨c⟩:=by
          have key:(v.cells.zipIdx.foldl (fun cs (c,j)=>cs.setIfInBounds (off+j) c) (⟨cells⟩:Array Value))=(v.cells.toList.zipIdx 0).foldl (fun cs x=>cs.setIfInBounds (off+x.2) x.1) ⟨cells⟩:=by
            rw [← Array.foldl_toList,Array.toList_zipIdx]
          rw [key]
          obtain ⟨h5,h6⟩:=XfV off v.cells.toList 0 ⟨cells⟩ (by simpa using hlen)
          apply Array.ext_getElem?
          intro j
          rw [h6]
          have h7:=h4 j
          simp only [Nat.add_zero]
          rw [List.getElem?_toArray,List.getElem?_toArray,h7]
        rw [e]
        exact XbZ h
      · cases h
theorem XfW {P:Program}:∀ {fs:List Field} {pl:List (Nat×Nat)},Xe5 P fs=some pl→fs.mapM (fun f=>(P.info? f.type).map fun i=>(f.offset,i.size))=some pl
  | [],pl,h=>by cases h; rfl
  | f::fs,pl,h=>by
    unfold Xe5 at h
    split at h
    · cases h
    · rename_i n hn
      split at h
      · cases h
      · rename_i r hr
        cases h
        unfold szF at hn
        rw [Qq] at hn
        split at hn
        · rename_i i hi
          cases hn
          simp [List.mapM_cons,hi,XfW hr]
        · cases hn
theorem Xhw {P:Program}:∀ {fs:List Field} {pl:List (Nat×Nat)},fs.mapM (fun f=>(P.info? f.type).map fun i=>(f.offset,i.size))=some pl→res P (fs.mapM fun f=>(do pure (f.offset,← sizeOf f.type):Sem (Nat×Nat)))=some pl
  | [],pl,h=>by simp at h; subst h; rfl
  | f::fs,pl,h=>by
    simp only [List.mapM_cons,Option.bind_eq_bind,Option.pure_def] at h
    cases hi:P.info? f.type with
    | none=>simp [hi] at h
    | some i=>
      cases hr:fs.mapM (fun f=>(P.info? f.type).map fun i=>(f.offset,i.size)) with
      | none=>simp [hi,hr] at h
      | some rest=>
        simp [hi,hr] at h
        subst h
        rw [List.mapM_cons]
        have hs:res P (do pure (f.offset,← sizeOf f.type):Sem (Nat×Nat))=some (f.offset,i.size):=by
          show res P ((sizeOf f.type).bind fun n=>pure (f.offset,n))=_
          have:res P (sizeOf f.type)=some i.size:=by
            show res P (((match P.info? f.type with | some i => pure i | none => stuck "no such type" : Sem TypeInfo)).bind fun i => pure i.size) = _
            rw [hi]; rfl
          rw [Xh this]; rfl
        refine (Xh hs).trans ?_
        exact (Xh (Xhw hr)).trans rfl
theorem Xr0 {P:Program} {t:TypeId} {z c:Value} {vs:List (Nat×Value)} (hz:Uj P t=some z) (h:XmR P t z vs=some c):res P (Instr.build t ⟨vs⟩)=some c:=by
  unfold XmR at h
  simp only [Xu,Xw] at h
  unfold Instr.build
  refine (Xh (show res P (zeroValue t)=some z from hz)).trans ?_
  split at h
  · rename_i fs hu
    refine (Xh (Xk hu)).trans ?_
    dsimp only
    split at h
    · rename_i pl hpl
      split at h
      · rename_i out hf
        cases h
        have hm:res P (fs.mapM fun f=>(do pure (f.offset,← sizeOf f.type):Sem (Nat×Nat)))=some ⟨pl⟩:=by
          have e:fs=fs.toList.toArray:=by simp
          rw [e,List.mapM_toArray]
          show res P ((fs.toList.mapM fun f=>(do pure (f.offset,← sizeOf f.type):Sem (Nat×Nat))).bind fun l=>pure l.toArray)=_
          rw [Xh (Xhw (XfW hpl))]; rfl
        refine (Xh hm).trans ?_
        have hf2:=XbZ hf
        have e2:(fun i=>Xgw pl i)=fun i=>(⟨pl⟩:Array (Nat×Nat))[i]?:=by
          funext i; rw [Xe7,List.getElem?_toArray]
        have hf3:Instr.fill (fun i=>(⟨pl⟩:Array (Nat×Nat))[i]?) z.cells vs=some ⟨out⟩:=by rw [← e2]; exact hf2
        rw [hf3]; rfl
      · cases h
    · cases h
  · rename_i n e hu
    refine (Xh (Xk hu)).trans ?_
    dsimp only
    split at h
    · rename_i s hs
      split at h
      · rename_i out hf
        cases h
        refine (Xh (show res P (sizeOf e)=some s from hs)).trans ?_
        have hf2:Instr.fill (fun i=>some (i*s,s)) z.cells vs=some ⟨out⟩:=XbZ hf
        rw [hf2]; rfl
      · cases h
    · cases h
  · cases h
theorem Xr1 {P:Program} {t:TypeId} {c u:Value} {i:Nat} (h:XmS P t c i=some u):res P (Instr.field t c i)=some u:=by
  unfold XmS at h
  simp only [Xu,Xw,Xq] at h
  split at h
  · rename_i fs cs hu
    split at h
    · rename_i f hf
      rw [Xe7,Array.getElem?_toList] at hf
      unfold Instr.field
      refine (Xh (Xk hu)).trans ?_
      dsimp only
      rw [hf]
      show res P (part f.type cs f.offset)=_
      unfold part
      split at h
      · rename_i ha
        refine (Xh ha).trans ?_
        split at h
        · rename_i n hn
          split at h
          · rename_i l hl
            cases h
            obtain ⟨h1,h2⟩:=U4 hl
            refine (Xh (show res P (sizeOf f.type)=some n from hn)).trans ?_
            show some (Value.agg (cs.extract f.offset (f.offset+n)))=_
            congr 2
            apply Array.toList_inj.1
            rw [Array.toList_extract,h1]
            simp [List.extract]
          · cases h
        · cases h
      · rename_i ha
        refine (Xh ha).trans ?_
        rw [Xe7,Array.getElem?_toList] at h
        show res P (match cs[f.offset]? with | some v => pure v | none => stuck "part: no such cell" : Sem Value) = _
        rw [h]; rfl
      · cases h
    · cases h
  · cases h
end Go.Fw
end
