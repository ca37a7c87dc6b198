/- A part of a proof of a given law of this program: lemmas, printed forms of its functions, contracts. It has no conditions of its own. -/
import Derived.ChangeArms
import Derived.DataReads
import Derived.Maps.RangeRun
import Derived.Stop.BytesEq
import Derived.ChangeKeysEq
import Derived.OpenShut
import Derived.Laws.BytesString
import Derived.Test.YtlnohlefimgdnaaGreatDoorMW0

set_option maxHeartbeats 16000000
section
namespace Go.Fw
open Go
def zsB (P:Program) (t:TypeId) (s:Nat):Bool:=match P.info? t with | some i=>(match i.zero with | some z=>z.cells.size == s | none=>false) | none=>false
theorem XmJ {P:Program} {t:TypeId} {i:TypeInfo} (h:P.info? t=some i):res P (typeInfo t)=some i:=by
  show res P ((program.bind fun p => match p.info? t with | some i => pure i | none => stuck "no such type") : Sem TypeInfo) = _
  rw [Xm]
  show (some P).bind _=_
  simp only [Option.bind,h]
  rfl
theorem ZL {P:Program} {t:TypeId} {s:Nat} (hz:zsB P t s=true) {w:World} {K:Nat→World→Prop}
    (h:∀ w' f,Fr [] w w'→Blk w' w.heap.size s f→w'.heap.size=w.heap.size+1→K w.heap.size w'):∃ z,Pu P (zeroValue t) z∧New z.cells t w K:=by
  unfold zsB at hz
  split at hz
  · rename_i i hi
    split at hz
    · rename_i z hzz
      have hs:z.cells.size=s:=by simpa using hz
      refine ⟨z,?_,New.intro fun w' f1 hB hs'=>h w' _ f1 (hs ▸ hB) hs'⟩
      show res P ((typeInfo t).bind fun i => match i.zero with | some v => pure v | none => unsupported (.resourceLimit "a value of more than 2^22 cells")) = _
      rw [Xm,XmJ hi]
      simp only [Option.bind,hzz]
      rfl
    · cases hz
  · cases hz
theorem LdA {P:Program} {t:TypeId} {m:Nat} (ht:res P (isAgg t)=some true) (hs:res P (sizeOf t)=some m) {b n o:Nat} {f:Nat→Value} {w:World} (hB:Blk w b n f) (ho:o+m≤n) (cs:List Value) (hm:cs.length=m)
    (hc:∀ j v,cs[j]?=some v→f (o+j)=v):Ld P t (.pointer (some ⟨b,o,none⟩)) w (.agg ⟨cs⟩):=by
  refine Ld.agg ht hs hm fun j v hj=>?_
  have hlt:=(List.getElem?_eq_some_iff.1 hj).1
  rw [Xi,hB.cell (by omega),hc j v hj]
def Xqw (P:Program) (t:TypeId) (n:Nat):Bool:=
  match P.underlying t with
  | some (.array m e)=>m == n && (match res P (sizeOf e) with | some k=>k == 1 | none=>false) && (match res P (isAgg e) with | some false=>true | _=>false)
  | _=>false
theorem XrP {P:Program} {t:TypeId} {n:Nat} (h:Xqw P t n=true):∃ e,P.underlying t=some (.array n e)∧res P (sizeOf e)=some 1∧res P (isAgg e)=some false:=by
  unfold Xqw at h
  split at h
  · rename_i m e he
    simp only [Bool.and_eq_true,beq_iff_eq] at h
    obtain ⟨⟨h1,h2⟩,h3⟩:=h
    refine ⟨e,by rw [he,h1],?_,?_⟩
    · split at h2
      · rename_i k hk; rw [hk]; simpa using h2
      · cases h2
    · split at h3
      · assumption
      · cases h3
  · cases h
theorem XvO {P:Program} {t:TypeId} {n:Nat} (ht:Xqw P t n=true) {cs:List Value} {k:IntKind} {i:Int} (h0:0≤i) (h1:i<n) {v:Value} (hv:cs[i.toNat]?=some v):Pu P (Instr.index t (.agg ⟨cs⟩) (.int k i)) v:=by
  obtain ⟨e,he,hs,ha⟩:=XrP ht
  show res P ((underlying t).bind fun d=>match d,Value.agg ⟨cs⟩ with
    | .array len elem,.agg cs=>if 0≤i∧i<len then (do part elem cs (i.toNat*(← sizeOf elem))) else boundsPanic k i len .index
    | .string,.string s=>(match (if 0≤i then s[i.toNat]? else none) with | some b=>pure (.int .u8 b.toNat) | none=>boundsPanic k i s.size .index)
    | _, _ => stuck "Index: array or string expected") = _
  rw [Xm,Xk he]
  show res P (if 0≤i∧i<(n:Int) then _ else _)=_
  rw [if_pos ⟨h0,h1⟩]
  show res P ((sizeOf e).bind fun s=>part e ⟨cs⟩ (i.toNat*s))=_
  rw [Xm,hs]
  show res P (part e ⟨cs⟩ (i.toNat*1))=_
  rw [Nat.mul_one]
  show res P ((isAgg e).bind fun b=>if b=true then _ else _)=_
  rw [Xm,ha]
  show res P (match (⟨cs⟩ : Array Value)[i.toNat]? with | some v => pure v | none => stuck "part: no such cell") = _
  have:(⟨cs⟩:Array Value)[i.toNat]?=some v:=by rw [← hv]; simp
  rw [this]
  rfl
theorem Xus {P:Program} {t:TypeId} {n s:Nat} (ht:Xjt P t n s=true) {p:Option Addr} {l c:Nat} (h:n≤l):Pu P (Instr.arrayAt t (.slice p l c)) (.pointer p):=by
  obtain ⟨e,he,hs⟩:=XbV ht
  show res P ((underlying t).bind fun d=>match d with
    | .array n _=>if l<n then runtimePanic (.bounds n l false .convert) else pure (Value.pointer p)
    | _ => stuck "sliceToArrayPointer: array type expected") = _
  rw [Xm,Xk he]
  show res P (if l<n then _ else _)=_
  rw [if_neg (by omega)]
  rfl
theorem Row.take {w:World} {p:Option Addr} {vs:List Value} (h:Row w p vs) (n:Nat):Row w p (vs.take n):=by
  rcases h with rfl | ⟨b,o,rfl,h⟩
  · exact .inl (by simp)
  · refine .inr ⟨b,o,rfl,fun j v hj=>?_⟩
    rw [List.getElem?_take] at hj
    split at hj
    · exact h j v hj
    · cases hj
theorem Row.drop {w:World} {b o:Nat} {vs:List Value} (h:Row w (some ⟨b,o,none⟩) vs) (n:Nat):Row w (some ⟨b,o+n,none⟩) (vs.drop n):=by
  rcases h with rfl | ⟨b',o',he,h⟩
  · exact .inl (by simp)
  · obtain ⟨rfl,rfl⟩:b=b'∧o=o':=by simpa using he
    refine .inr ⟨b,o+n,rfl,fun j v hj=>?_⟩
    rw [List.getElem?_drop] at hj
    have:=h (n+j) v hj
    rwa [show o+(n+j)=o+n+j by omega] at this
theorem Ef.copy {P:Program} {t ty:TypeId} (ht:YT P t 1=true) {w:World} {g o N:Nat} {f:Nat→Value} {dl dc:Nat} (hB:Blk w g N f) {q:Option Addr} {m d:Nat} {us:List Value} (hR:Row w q us) (hm:m=us.length)
    (h1:∀ u∈us,u.oneCell'=true) (hfit:o+min m dl≤N) :
    ∃ w',Ef P (Builtin.copy_ #[t,t] ty #[.slice (some ⟨g,o,none⟩) dl dc,.slice q m d]) w (.int .i64 ((min m dl:Nat):Int)) w'∧Fr [g] w w'∧Blk w' g N (updN f o (us.take (min m dl)))∧w'.heap.size=w.heap.size:=by
  obtain ⟨e,hu,hs⟩:=Jt ht
  have hlen:(us.take (min m dl)).length=min m dl:=by rw [List.length_take]; omega
  have hfc:=Jb (P:=P) (n:=min m dl) (len:=m) (cap:=d) (hR.take (min m dl)) hlen
  obtain ⟨w',hst,hfr,hB',hsize⟩:=Zj (P:=P) (us.take (min m dl)) 0 g N o f w hB (by rw [hlen]; omega) (fun u hu=>h1 u (List.mem_of_mem_take hu))
  refine ⟨w',?_,hfr,hB',hsize⟩
  show (Builtin.copy_ #[t,t] ty #[.slice (some ⟨g,o,none⟩) dl dc,.slice q m d]).run P w=_
  have hs':=Xx hs w
  have hmin:Nat.min m dl=min m dl:=rfl
  simp [Builtin.copy_,run_underlying hu,Builtin.lenOf,hs',hmin,hfc,hst,goInt]
end Go.Fw
end

section
namespace Go.Fw
open Go
theorem ZA {P:Program} {k:IntKind} {i:Int} {y:Nat} {code:BoundsCode} (h0:0≤i) (h1:i≤y):res P (Instr.sliceBound (.int k i) y code)=some i.toNat:=by
  show res P (if 0≤i∧i≤(y:Int) then pure i.toNat else boundsPanic k i y code)=_
  rw [if_pos ⟨h0,h1⟩]; rfl
def Qn (k:IntKind):Option Int→Option Value | none=>none | some i=>some (.int k i)
theorem Xht {P:Program} {isS:Bool} {len cap:Nat} {kl kh:IntKind} {lo hi:Option Int} (h1:0≤lo.getD 0) (h2:lo.getD 0≤hi.getD len) (h3:hi.getD len≤cap) :
    res P (Instr.sliceBounds isS len cap (Qn kl lo) (Qn kh hi) none)=some ((lo.getD 0).toNat,(hi.getD len).toNat,cap):=by
  cases lo with
  | none=>
    cases hi with
    | none=>simp only [Qn,Instr.sliceBounds]; rfl
    | some i=>
      simp only [Option.getD] at h1 h2 h3
      show res P ((Instr.sliceBound (.int kh i) cap _).bind fun h=>pure (0,h,cap))=_
      rw [Xm,ZA (by omega) h3]; rfl
  | some j=>
    cases hi with
    | none=>
      simp only [Option.getD] at h1 h2 h3
      show res P ((Instr.sliceBound (.int kl j) len _).bind fun l=>pure (l,len,cap))=_
      rw [Xm,ZA h1 (by omega)]; rfl
    | some i=>
      simp only [Option.getD] at h1 h2 h3
      show res P ((Instr.sliceBound (.int kh i) cap _).bind fun h=>(Instr.sliceBound (.int kl j) h _).bind fun l=>pure (l,h,cap))=_
      rw [Xm,ZA (by omega) h3]
      show res P ((Instr.sliceBound (.int kl j) i.toNat _).bind fun l=>pure (l,i.toNat,cap))=_
      rw [Xm,ZA h1 (by omega)]; rfl
def partAt (p:Option Addr) (c l s:Nat):Option Addr:=if c=l then p else p.map fun a=>a.add (l*s)
theorem VK {P:Program} {t:TypeId} {s:Nat} (ht:YT P t s=true) {p:Option Addr} {len cap:Nat} {kl kh:IntKind} {lo hi:Option Int} (h1:0≤lo.getD 0) (h2:lo.getD 0≤hi.getD len) (h3:hi.getD len≤cap) :
    Pu P (Instr.sliceAt t (.slice p len cap) (Qn kl lo) (Qn kh hi) none) (.slice (partAt p cap (lo.getD 0).toNat s) ((hi.getD len).toNat - (lo.getD 0).toNat) (cap - (lo.getD 0).toNat)):=by
  obtain ⟨e,hu,hs⟩:=Jt ht
  have hb:=Xht (P:=P) (isS:=true) (kl:=kl) (kh:=kh) h1 h2 h3
  show res P ((underlying t).bind _)=_
  rw [Xm,Xk hu]
  show res P ((underlying t).bind _)=_
  rw [Xm,Xk hu]
  show res P ((Instr.sliceBounds true len cap (Qn kl lo) (Qn kh hi) none).bind _)=_
  rw [Xm,hb]
  show res P ((sizeOf e).bind _)=_
  rw [Xm,hs]
  rfl
theorem Xmc {P:Program} {t:TypeId} {n s:Nat} (ht:Xjt P t n s=true) {a:Addr} {kl kh:IntKind} {lo hi:Option Int} (h1:0≤lo.getD 0) (h2:lo.getD 0≤hi.getD n) (h3:hi.getD n≤n) :
    Pu P (Instr.sliceAt t (.pointer (some a)) (Qn kl lo) (Qn kh hi) none) (.slice (partAt (some a) n (lo.getD 0).toNat s) ((hi.getD n).toNat - (lo.getD 0).toNat) (n - (lo.getD 0).toNat)):=by
  obtain ⟨e,hu,hs⟩:=XbV ht
  have hb:=Xht (P:=P) (isS:=false) (kl:=kl) (kh:=kh) h1 h2 h3
  have hp:partAt (some a) n (lo.getD 0).toNat s=some (if n=(lo.getD 0).toNat then a else a.add ((lo.getD 0).toNat*s)):=by
    unfold partAt; split <;> rfl
  rw [hp]
  show res P ((underlying t).bind _)=_
  rw [Xm,Xk hu]
  show res P ((Instr.sliceBounds false n n (Qn kl lo) (Qn kh hi) none).bind _)=_
  rw [Xm,hb]
  show res P ((sizeOf e).bind _)=_
  rw [Xm,hs]
  rfl
theorem Row.part {w:World} {p:Option Addr} {vs:List Value} (h:Row w p vs) {c l:Nat} (hc:vs.length≤c):Row w (partAt p c l 1) (vs.drop l):=by
  unfold partAt
  by_cases hcl:c=l
  · rw [if_pos hcl]
    exact .inl (List.drop_eq_nil_of_le (by omega))
  · rw [if_neg hcl]
    rcases h with rfl | ⟨b,o,rfl,h⟩
    · exact .inl (by simp)
    · have:=Row.drop (w:=w) (b:=b) (o:=o) (vs:=vs) (.inr ⟨b,o,rfl,h⟩) l
      rw [Nat.mul_one]
      show Row w (some ((⟨b,o,none⟩:Addr).add l)) _
      rw [Xi]
      exact this
theorem XfT {p:Option Addr} {c l s:Nat}:∀ k∈Xb (partAt p c l s),k∈Xb p:=by
  intro k hk
  unfold partAt at hk
  split at hk
  · exact hk
  · cases p with
    | none=>exact hk
    | some a=>
      have e:(a.add (l*s)).block=a.block:=by unfold Addr.add; split <;> rfl
      simp only [Option.map,Xb,List.mem_singleton,e] at hk ⊢
      exact hk
theorem OwnS.part {w:World} {p:Option Addr} {len c:Nat} {vs:List Value} (h:OwnS w p len c vs) {l hi:Nat} (h1:l≤hi) (h2:hi≤len):OwnS w (partAt p c l 1) (hi - l) (c - l) ((vs.take hi).drop l):=by
  obtain ⟨hl,⟨rfl,h0,hc0⟩ | ⟨g,o,N,f,rfl,hB,hoc,hlc,hf⟩⟩:=h
  · refine ⟨by simp; omega,.inl ⟨?_,by omega,by omega⟩⟩
    unfold partAt; split <;> rfl
  · refine ⟨by simp; omega,.inr ⟨g,if c=l then o else o+l,N,f,?_,hB,?_,by omega,?_⟩⟩
    · unfold partAt
      split
      · rfl
      · show some ((⟨g,o,none⟩:Addr).add (l*1))=_
        rw [Xi,Nat.mul_one]
    · split <;> omega
    · intro j v hj
      rw [List.getElem?_drop,List.getElem?_take] at hj
      split at hj
      · have hlt:=(List.getElem?_eq_some_iff.1 hj).1
        rw [if_neg (by omega)]
        have:=hf (l+j) v hj
        rwa [show o+(l+j)=o+l+j by omega] at this
      · cases hj
end Go.Fw
end

section
namespace Go.Fw
open Go
def Qo (P:Program) (w:World):Nat→TypeId→List Value→Prop
  | 0,_,_=>False
  | n+1,t,cs=>
    match P.underlying t with
    | some .bool=>∃ b,cs=[.bool b]
    | some (.int k)=>∃ i,cs=[.int k i]∧(Lit.int k i).wf=true
    | some .string=>∃ s:ByteArray,cs=[.string s]∧s.size≤maxLen
    | some (.slice e)=>cs=[.slice none 0 0]∨∃ a len cap,cs=[.slice (some a) len cap]∧len≤cap∧cap≤maxLen∧∀ i,i<cap→∃ cs',w.cells? 0 (a.add (i*P.cellsOf e)) (P.cellsOf e)=some cs'∧Qo P w n e cs'
    | some (.struct fs)=>cs.length=P.cellsOf t∧∀ (i:Nat) (f:Field),fs[i]?=some f→Qo P w n f.type ((cs.drop f.offset).take (P.cellsOf f.type))
    | _=>True
def IsCame (P:Program) (w:World) (t:TypeId) (v:Value):Prop:=∃ n,Qo P w n t v.cells.toList
theorem Xw2 {H:Type} {enc:TypeId×Value→H} {P:Program} {w:World}:∀ {fuel:Nat} {t:TypeId} {cs:List Value} {x:DataW H×List MemPlace},DataW.trod enc P w 0 (fun _=>true) true fuel t cs=some x→Qo P w fuel t cs:=by
  intro fuel
  induction fuel with
  | zero=>intro t cs x h; simp [DataW.trod] at h
  | succ n ih=>
    intro t cs x h
    unfold Qo
    split
    · rename_i ht; obtain ⟨b,hb,_⟩:=DataW.trod_bool ht h; exact ⟨b,hb⟩
    · rename_i k ht; obtain ⟨i,hi,_,hw⟩:=DataW.trod_int ht h; exact ⟨i,hi,hw⟩
    · rename_i ht; obtain ⟨s,hs,_,hw⟩:=DataW.trod_string ht h; exact ⟨s,hs,hw⟩
    · rename_i e ht
      rcases DataW.trod_slice ht h with ⟨h0,_⟩ | ⟨a,len,cap,elems,rest,m,hm,hcs,hx,hb,hl,hc,hlen,hel,hsp,_⟩
      · exact .inl h0
      · obtain rfl:n=m:=by omega
        refine .inr ⟨a,len,cap,hcs,hl,hc,fun i hi=>?_⟩
        have key:∃ y,(w.cells? 0 (a.add (i*P.cellsOf e)) (P.cellsOf e)).bind (DataW.trod enc P w 0 (fun _=>true) true n e)=some y:=by
          by_cases hil:i<len
          · rw [hel i hil]; exact ⟨_,List.getElem?_eq_getElem (by omega)⟩
          · have h2:=hsp rfl
            have h3:=h2.2 (i - len) (by omega)
            rw [show len+(i - len)=i by omega] at h3
            rw [h3]; exact ⟨_,List.getElem?_eq_getElem (by omega)⟩
        obtain ⟨y,hy⟩:=key
        obtain ⟨cs',h1,h2⟩:=Option.bind_eq_some_iff.1 hy
        exact ⟨cs',h1,ih h2⟩
    · rename_i fs ht
      obtain ⟨xs,m,hm,hx,hl,hxl,hf⟩:=DataW.trod_struct ht h
      obtain rfl:n=m:=by omega
      refine ⟨hl,fun i f hi=>?_⟩
      have h1:=hf i f hi
      have hlt:i<xs.length:=by
        rw [hxl]
        exact (Array.getElem?_eq_some_iff.1 hi).1
      rw [List.getElem?_eq_getElem hlt] at h1
      exact ih h1
    · trivial
theorem isCame {H:Type} {enc:TypeId×Value→H} {P:Program} {w:World} {t:TypeId} {v:Value} {d:DataW H} {ps:List MemPlace} (h:DataW.Trod enc P w 0 (fun _=>true) true t v d ps):IsCame P w t v:=by
  obtain ⟨n,h⟩:=h
  exact ⟨n,Xw2 h⟩
theorem IsCame.slice {P:Program} {w:World} {t e:TypeId} (ht:P.underlying t=some (.slice e)) {a:Option Addr} {len cap:Nat} (h:IsCame P w t (.slice a len cap)) :
    (a=none∧len=0∧cap=0)∨∃ x n,a=some x∧len≤cap∧cap≤maxLen∧∀ i,i<cap→∃ cs',w.cells? 0 (x.add (i*P.cellsOf e)) (P.cellsOf e)=some cs'∧Qo P w n e cs':=by
  obtain ⟨n,h⟩:=h
  cases n with
  | zero=>exact h.elim
  | succ n=>
    unfold Qo at h
    rw [ht] at h
    rcases h with h | ⟨x,l,c,h1,h2,h3,h4⟩
    · simp [Value.cells] at h; exact .inl h
    · simp [Value.cells] at h1
      obtain ⟨rfl,rfl,rfl⟩:=h1
      exact .inr ⟨x,n,rfl,h2,h3,h4⟩
theorem XkC {w:World} {x:Addr} {v:Value} (hc:w.cell? x=some v):x.spot=none:=by
  unfold World.cell? at hc
  split at hc
  · split at hc
    · cases hc
    · rename_i h; simpa using h
  · cases hc
def XdJ (P:Program) (t:TypeId):Bool:=
  match P.underlying t with
  | some (.slice e)=>(match P.underlying e with | some (.int .u8)=>P.cellsOf e == 1 | _=>false)
  | _=>false
theorem Xqx {P:Program} {t:TypeId} (h:XdJ P t=true):∃ e,P.underlying t=some (.slice e)∧P.underlying e=some (.int .u8)∧P.cellsOf e=1:=by
  unfold XdJ at h
  split at h
  · rename_i e he
    split at h
    · rename_i h2; exact ⟨e,he,h2,by simpa using h⟩
    · cases h
  · cases h
theorem came_bytes {P:Program} {w:World} {t:TypeId} (ht:XdJ P t=true) {a:Option Addr} {len cap:Nat} (h:IsCame P w t (.slice a len cap)) :
    ∃ xs:List UInt8,xs.length=len∧len≤maxLen∧len≤cap∧Row w a (xs.map fun x=>.int .u8 (x.toNat:Int)):=by
  obtain ⟨e,h1,h2,h3⟩:=Xqx ht
  rcases h.slice h1 with ⟨rfl,rfl,rfl⟩ | ⟨x,n,rfl,hl,hm,hc⟩
  · exact ⟨[],rfl,Nat.zero_le _,Nat.le_refl _,Row.nil _ _⟩
  · rw [h3] at hc
    have each:∀ i,i<cap→∃ b:UInt8,w.cell? (x.add i)=some (.int .u8 (b.toNat:Int)):=by
      intro i hi
      obtain ⟨cs',g1,g2⟩:=hc i hi
      rw [Nat.mul_one] at g1
      obtain ⟨_,g3,g4⟩:=World.cells?_some g1
      have g5:=g4 0 (by omega)
      have e0:(x.add i).add 0=x.add i:=rfl
      rw [e0] at g5
      cases n with
      | zero=>exact g2.elim
      | succ n=>
        unfold Qo at g2
        rw [h2] at g2
        obtain ⟨v,rfl,hw⟩:=g2
        have h4:0≤v∧v<256:=by simp [Lit.wf,IntKind.min,IntKind.max,IntKind.bits,IntKind.signed] at hw; omega
        refine ⟨UInt8.ofNat v.toNat,?_⟩
        rw [g5]
        have:((UInt8.ofNat v.toNat).toNat:Int)=v:=by simp; omega
        rw [this]; rfl
    by_cases h0:cap=0
    · exact ⟨[],by simp; omega,by omega,hl,Row.nil _ _⟩
    · obtain ⟨b0,hb0⟩:=each 0 (by omega)
      have hsp:x.spot=none:=XkC (x:=x) hb0
      obtain ⟨b,o,sp⟩:=x
      simp only at hsp
      subst hsp
      have each2:∀ i,i<cap→∃ y:UInt8,w.cell? ⟨b,o+i,none⟩=some (.int .u8 (y.toNat:Int)):=by
        intro i hi
        obtain ⟨y,hy⟩:=each i hi
        rw [Xi] at hy
        exact ⟨y,hy⟩
      have:∃ f:Nat→UInt8,∀ i,i<cap→w.cell? ⟨b,o+i,none⟩=some (.int .u8 ((f i).toNat:Int)):=by
        classical
        refine ⟨fun i=>if hi:i<cap then Classical.choose (each2 i hi) else 0,fun i hi=>?_⟩
        simp only [dif_pos hi]
        exact Classical.choose_spec (each2 i hi)
      obtain ⟨f,hf⟩:=this
      refine ⟨(List.range len).map f,by simp,by omega,hl,.inr ⟨b,o,rfl,fun j v hj=>?_⟩⟩
      simp only [List.map_map,List.getElem?_map] at hj
      rw [Option.map_eq_some_iff] at hj
      obtain ⟨i,hi,rfl⟩:=hj
      rw [List.getElem?_eq_some_iff] at hi
      obtain ⟨hi,rfl⟩:=hi
      simp at hi
      rw [hf j (by omega)]
      simp
def ByS (w:World) (v:Value) (r:List UInt8):Prop:=∃ q c,v=.slice q r.length c∧r.length≤c∧Row w q (r.map fun x=>.int .u8 (x.toNat:Int))
theorem ByS.fr0 {w w':World} {v:Value} {r:List UInt8} (h:ByS w v r) (hf:Fr [] w w'):ByS w' v r:=by
  obtain ⟨q,c,h1,hc,h2⟩:=h
  exact ⟨q,c,h1,hc,h2.fr0 hf⟩
def RowB (w:World) (p:Option Addr) (rs:List (List UInt8)):Prop:=∃ vs:List Value,Row w p vs∧vs.length=rs.length∧∀ (j:Nat) (r:List UInt8),rs[j]?=some r→∃ v,vs[j]?=some v∧ByS w v r
theorem RowB.fr0 {w w':World} {p:Option Addr} {rs:List (List UInt8)} (h:RowB w p rs) (hf:Fr [] w w'):RowB w' p rs:=by
  obtain ⟨vs,h1,h2,h3⟩:=h
  refine ⟨vs,h1.fr0 hf,h2,fun j r hj=>?_⟩
  obtain ⟨v,a,b⟩:=h3 j r hj
  exact ⟨v,a,b.fr0 hf⟩
end Go.Fw
end

section
namespace Go.Fw
open Go
def Xqy (P:Program) (t:TypeId) (n s:Nat):Bool:=
  match P.underlying t with
  | some (.array m e)=>m == n && (match res P (sizeOf e) with | some k=>k == s | none=>false) && (match res P (isAgg e) with | some true=>true | _=>false)
  | _=>false
theorem XrQ {P:Program} {t:TypeId} {n s:Nat} (h:Xqy P t n s=true):∃ e,P.underlying t=some (.array n e)∧res P (sizeOf e)=some s∧res P (isAgg e)=some true:=by
  unfold Xqy at h
  split at h
  · rename_i m e he
    simp only [Bool.and_eq_true,beq_iff_eq] at h
    obtain ⟨⟨h1,h2⟩,h3⟩:=h
    refine ⟨e,by rw [he,h1],?_,?_⟩
    · split at h2
      · rename_i k hk; rw [hk]; simpa using h2
      · cases h2
    · split at h3
      · assumption
      · cases h3
  · cases h
theorem XwF {P:Program} {t:TypeId} {n s:Nat} (ht:Xqy P t n s=true) {cs:List Value} {k:IntKind} {i:Int} (h0:0≤i) (h1:i<n):Pu P (Instr.index t (.agg ⟨cs⟩) (.int k i)) (.agg ⟨(cs.drop (i.toNat*s)).take s⟩):=by
  obtain ⟨e,he,hs,ha⟩:=XrQ ht
  show res P ((underlying t).bind fun d=>match d,Value.agg ⟨cs⟩ with
    | .array len elem,.agg cs=>if 0≤i∧i<len then (do part elem cs (i.toNat*(← sizeOf elem))) else boundsPanic k i len .index
    | .string,.string s=>(match (if 0≤i then s[i.toNat]? else none) with | some b=>pure (.int .u8 b.toNat) | none=>boundsPanic k i s.size .index)
    | _, _ => stuck "Index: array or string expected") = _
  rw [Xm,Xk he]
  show res P (if 0≤i∧i<(n:Int) then _ else _)=_
  rw [if_pos ⟨h0,h1⟩]
  show res P ((sizeOf e).bind fun s=>part e ⟨cs⟩ (i.toNat*s))=_
  rw [Xm,hs]
  show res P (part e ⟨cs⟩ (i.toNat*s))=_
  show res P ((isAgg e).bind fun b=>if b=true then ((sizeOf e).bind fun s'=>pure (Value.agg ((⟨cs⟩:Array Value).extract (i.toNat*s) (i.toNat*s+s')))) else _)=_
  rw [Xm,ha]
  show res P ((sizeOf e).bind fun s'=>pure (Value.agg ((⟨cs⟩:Array Value).extract (i.toNat*s) (i.toNat*s+s'))))=_
  rw [Xm,hs]
  show some (Value.agg ((⟨cs⟩:Array Value).extract (i.toNat*s) (i.toNat*s+s)))=_
  congr 2
  apply Array.toList_inj.1
  simp [List.extract_eq_take_drop]
theorem V1 {b o c l s:Nat} (h:c≠l):partAt (some ⟨b,o,none⟩) c l s=some ⟨b,o+l*s,none⟩:=by
  unfold partAt
  rw [if_neg h]
  show some ((⟨b,o,none⟩:Addr).add (l*s))=_
  rw [Xi]
end Go.Fw
end

section
namespace Go.Fw
open Go
def Xqz (P:Program) (t:TypeId):Bool:=match P.underlying t with | some (.int _)=>true | _=>false
theorem XmK {P:Program} {t:TypeId} (h:Xqz P t=true):∃ k,P.underlying t=some (.int k):=by
  unfold Xqz at h
  split at h
  · rename_i k hk; exact ⟨k,hk⟩
  · cases h
theorem Ef.appendZ {P:Program} {t ti ty:TypeId} (ht:XmI P t=true) (hti:Xqz P ti=true) {w:World} {n:Nat} (h0:0<n) (hn:n≤1073741824) :
    ∃ c' w',Ef P (Builtin.append_ #[t,ti] ty #[.slice none 0 0,.int .i64 (n:Int)]) w (.slice (some ⟨w.heap.size,0,none⟩) n c') w'∧n≤c'∧Fr [] w w'∧(∃ f,Blk w' w.heap.size c' f)∧w'.heap.size=w.heap.size+1:=by
  obtain ⟨e,i,z,hu,hi,hsz,hz,hzc,hby⟩:=Xgr ht
  obtain ⟨k,hk⟩:=XmK hti
  have hbb:n*i.bytes≤140737488355328:=Nat.le_trans (Nat.mul_le_mul hn hby) (by decide)
  have h48':¬ (281474976710656<Builtin.nextslicecap n 0*i.bytes):=by have:=growslice_fits (need:=n) (old:=0) (by omega) hbb; omega
  have hbi:¬ (281474976710656<(n:Int)*(i.bytes:Int)):=by
    have:((n*i.bytes:Nat):Int)≤140737488355328:=by omega
    rw [Int.natCast_mul] at this; omega
  have hw:IntKind.i64.wrap (n:Int)=(n:Int):=by rw [IntKind.wrap_i64]; omega
  have hn0:¬ (n≤0):=by omega
  have hn0':n≠0:=by omega
  have h63':¬ (9223372036854775807<(n:Int)):=by omega
  have hge:=grownCap_ge w n 0 e
  have hneg:¬ ((n:Int)<0):=by omega
  have ha:Sem.run P (asIntOf (.int .i64 (n:Int))) w=.ok (.i64,(n:Int)) w:=rfl
  refine ⟨grownCap w n 0 e,w.drew.alloc (.cells (Builtin.zeroCells z.cells n++Builtin.zeroCells z.cells (grownCap w n 0 e - n)) e),?_,hge,(Fr.drew w).then (Fr.alloc _ _),?_,by simp⟩
  · show (Builtin.append_ #[t,ti] ty #[.slice none 0 0,.int .i64 (n:Int)]).run P w=_
    simp [Builtin.append_,run_underlying hu,run_underlying hk,sizeOf,typeInfo,zeroValue,hi,hz,hsz,Builtin.lenOf,hw,hneg,hbi,hn0',h63',h48',Question.forced,Builtin.firstCells,newRow,grownCap,asInt,ha]
  · have:=Blk.new w.drew (Builtin.zeroCells z.cells n++Builtin.zeroCells z.cells (grownCap w n 0 e - n)) e (fun i=>(Builtin.zeroCells z.cells n++Builtin.zeroCells z.cells (grownCap w n 0 e - n)).getD i undef) (fun i hi=>by rw [Array.getD_eq_getD_getElem?,Array.getElem?_eq_getElem hi]; rfl)
    have hs:(Builtin.zeroCells z.cells n++Builtin.zeroCells z.cells (grownCap w n 0 e - n)).size=grownCap w n 0 e:=by simp [size_zeroCells,hzc]; omega
    rw [hs] at this
    exact ⟨_,this⟩
theorem XoS {P:Program} {isS:Bool} {len cap:Nat} {kh km:IntKind} {hi mx:Int} (h0:0≤hi) (h2:hi≤mx) (h3:mx≤cap) :
    res P (Instr.sliceBounds isS len cap none (some (.int kh hi)) (some (.int km mx)))=some (0,hi.toNat,mx.toNat):=by
  show res P ((Instr.sliceBound (.int km mx) cap _).bind fun m=>(Instr.sliceBound (.int kh hi) m _).bind fun h=>pure (0,h,m))=_
  rw [Xm,ZA (by omega) h3]
  show res P ((Instr.sliceBound (.int kh hi) mx.toNat _).bind fun h=>pure (0,h,mx.toNat))=_
  rw [Xm,ZA h0 (by omega)]
  rfl
theorem XwG {P:Program} {t:TypeId} {s:Nat} (ht:YT P t s=true) {p:Option Addr} {len cap:Nat} {kh km:IntKind} {hi mx:Int} (h0:0≤hi) (h2:hi≤mx) (h3:mx≤cap) :
    Pu P (Instr.sliceAt t (.slice p len cap) none (some (.int kh hi)) (some (.int km mx))) (.slice (partAt p mx.toNat 0 s) hi.toNat mx.toNat):=by
  obtain ⟨e,hu,hs⟩:=Jt ht
  have hb:=XoS (P:=P) (isS:=true) (len:=len) (kh:=kh) (km:=km) h0 h2 h3
  show res P ((underlying t).bind _)=_
  rw [Xm,Xk hu]
  show res P ((underlying t).bind _)=_
  rw [Xm,Xk hu]
  show res P ((Instr.sliceBounds true len cap none (some (.int kh hi)) (some (.int km mx))).bind _)=_
  rw [Xm,hb]
  show res P ((sizeOf e).bind _)=_
  rw [Xm,hs]
  rfl
end Go.Fw
end

section
namespace Go.Fw
open Go
open Go.ChangeMaps (setBlock)
def MapAt (w:World) (b:Nat) (es:Array MapEntry) (clock:Nat):Prop:=w.heap[b]?=some (.map es clock)
def ItAt (w:World) (r b since:Nat) (seen:Array Nat) (last:Nat):Prop:=w.heap[r]?=some (.mapIter (some b) since seen last)
theorem Yh {w:World} {b:Nat} {o:Obj} (h:w.heap[b]?=some o):b<w.heap.size:=by
  rcases Nat.lt_or_ge b w.heap.size with h' | h'
  · exact h'
  · rw [Array.getElem?_eq_none h'] at h; cases h
theorem MapAt.fr {l:List Nat} {w w':World} {b:Nat} {es:Array MapEntry} {c:Nat} (h:MapAt w b es c) (hf:Fr l w w') (hn:b∉l):MapAt w' b es c:=(hf.block b (Yh h) hn).trans h
theorem ItAt.fr {l:List Nat} {w w':World} {r b s:Nat} {seen:Array Nat} {c:Nat} (h:ItAt w r b s seen c) (hf:Fr l w w') (hn:r∉l):ItAt w' r b s seen c:=(hf.block r (Yh h) hn).trans h
theorem Ef.makeMap {P:Program} {t:TypeId} {w:World}:∃ w',Ef P (Instr.makeMap t none) w (.map (some w.heap.size)) w'∧Fr [] w w'∧MapAt w' w.heap.size #[] 0∧w'.heap.size=w.heap.size+1:=by
  refine ⟨w.alloc (.map #[] 0),rfl,Fr.alloc _ _,?_,by simp⟩
  show (w.heap.push _)[w.heap.size]?=_
  simp
def XvP (P:Program) (t:TypeId):Bool:=match P.underlying t with | some (.map _ _)=>true | _=>false
theorem Ef.range {P:Program} {t:TypeId} (ht:XvP P t=true) {w:World} {b:Nat} {es:Array MapEntry} {c:Nat} (hM:MapAt w b es c) :
    ∃ w',Ef P (Instr.range t (.map (some b))) w (.pointer (some ⟨w.heap.size,0,none⟩)) w'∧Fr [] w w'∧ItAt w' w.heap.size b c #[] c∧w'.heap.size=w.heap.size+1:=by
  unfold XvP at ht
  split at ht
  · rename_i k e hu
    have hM':w.heap[b]?=some (.map es c):=hM
    refine ⟨w.alloc (.mapIter (some b) c #[] c),?_,Fr.alloc _ _,?_,by simp⟩
    · show (Instr.range t (.map (some b))).run P w=_
      simp [Instr.range,run_underlying hu,getObj,Sem.run,hM',newObj]
    · show (w.heap.push _)[w.heap.size]?=_
      simp
  · cases ht
theorem Ef.next {P:Program} {ty:TypeId} {w:World} {r b since c:Nat} {seen:Array Nat} {es:Array MapEntry} (hI:ItAt w r b since seen c) (hM:MapAt w b es c) (hold:∀ x∈es.toList,x.born<since) (hsc:since≤c) :
    ((∀ x∈es.toList,seen.contains x.born=true)∧Ef P (Instr.next (.pointer (some ⟨r,0,none⟩)) false ty) w (.tuple ⟨.bool false::[]⟩) w) ∨
    ∃ e∈es.toList,seen.contains e.born=false∧∃ w',Ef P (Instr.next (.pointer (some ⟨r,0,none⟩)) false ty) w (.tuple ⟨.bool true::[e.key,e.val]⟩) w'∧Fr [r] w w'∧ItAt w' r b since (seen.push e.born) c∧w'.heap.size=w.heap.size:=by
  have hlt:=Yh hI
  rcases run_next_at (P:=P) w ty r b since c seen es c hI hM hold hsc with ⟨h0,h1⟩ | ⟨e,he,w1,hw1,h1⟩
  · left
    refine ⟨fun x hx=>?_,h1⟩
    cases hc:seen.contains x.born with
    | true=>rfl
    | false=>
      exfalso
      have:x∈(leftOf es seen).toList:=by unfold leftOf; simp at hx ⊢; exact ⟨hx,by simpa using hc⟩
      have:=List.length_pos_of_mem this
      simp at this
      omega
  · right
    obtain ⟨h2,h3⟩:=mem_left he
    refine ⟨e,h2,h3,_,h1,?_,?_,?_⟩
    · rcases hw1 with rfl | rfl
      · exact Fr.setHeap (b:=r) rfl
      · exact (Fr.drew w).mono (by simp) |>.trans (Fr.setHeap (w:=w.drew) (b:=r) rfl) (fun _ h=>.inl h)
    · rcases hw1 with rfl | rfl
      · show (w1.heap.setIfInBounds r _)[r]?=_; simp [hlt]
      · show (w.drew.heap.setIfInBounds r _)[r]?=_
        have:w.drew.heap=w.heap:=rfl
        rw [this]; simp [hlt]
    · rcases hw1 with rfl | rfl
      · simp [setBlock]
      · show (w.drew.heap.setIfInBounds r _).size=_
        have:w.drew.heap=w.heap:=rfl
        rw [this]; simp
theorem Ef.entry {P:Program} {w:World} {r b since c:Nat} {seen:Array Nat} {es:Array MapEntry} {e:MapEntry} (hI:ItAt w r b since (seen.push e.born) c) (hM:MapAt w b es c) (he:e∈es.toList) (hn:(es.toList.map (·.born)).Nodup) :
    Ef P (Instr.entry (.pointer (some ⟨r,0,none⟩))) w (.tuple #[e.key,e.val]) w:=run_entry_at w r b since seen es c e hI hM he hn
end Go.Fw
end

section
namespace Go.Fw
open Go
def XmL (P:Program) (e:TypeId):Bool:=match P.underlying e with | some (.int .u8)=>true | _=>false
theorem Xgs {P:Program} {e:TypeId} (h:XmL P e=true):P.underlying e=some (.int .u8):=by unfold XmL at h; split at h <;> first | assumption | cases h
end Go.Fw
end

section
namespace Go.Fw
open Go
def Zo (P:Program) (w:World):Nat→TypeId→List Value→Prop
  | 0,_,_=>False
  | n+1,t,cs=>
    match P.underlying t with
    | some .bool=>∃ b,cs=[.bool b]
    | some (.int k)=>∃ i,cs=[.int k i]∧(Lit.int k i).wf=true
    | some .string=>∃ s:ByteArray,cs=[.string s]∧s.size≤maxLen
    | some (.slice e)=>cs=[.slice none 0 0]∨∃ a len cap,cs=[.slice (some a) len cap]∧len≤cap∧cap≤maxLen∧∀ i,i<cap→∃ cs',w.cells? 0 (a.add (i*P.cellsOf e)) (P.cellsOf e)=some cs'∧Zo P w n e cs'
    | some (.struct fs)=>cs.length=P.cellsOf t∧∀ (i:Nat) (f:Field),fs[i]?=some f→Zo P w n f.type ((cs.drop f.offset).take (P.cellsOf f.type))
    | some (.array m e)=>cs.length=P.cellsOf t∧∀ i,i<m→Zo P w n e ((cs.drop (i*P.cellsOf e)).take (P.cellsOf e))
    | _=>True
def IsCame2 (P:Program) (w:World) (t:TypeId) (v:Value):Prop:=∃ n,Zo P w n t v.cells.toList
theorem XwH {H:Type} {enc:TypeId×Value→H} {P:Program} {w:World}:∀ {fuel:Nat} {t:TypeId} {cs:List Value} {x:DataW H×List MemPlace},DataW.trod enc P w 0 (fun _=>true) true fuel t cs=some x→Zo P w fuel t cs:=by
  intro fuel
  induction fuel with
  | zero=>intro t cs x h; simp [DataW.trod] at h
  | succ n ih=>
    intro t cs x h
    unfold Zo
    split
    · rename_i ht; obtain ⟨b,hb,_⟩:=DataW.trod_bool ht h; exact ⟨b,hb⟩
    · rename_i k ht; obtain ⟨i,hi,_,hw⟩:=DataW.trod_int ht h; exact ⟨i,hi,hw⟩
    · rename_i ht; obtain ⟨s,hs,_,hw⟩:=DataW.trod_string ht h; exact ⟨s,hs,hw⟩
    · rename_i e ht
      rcases DataW.trod_slice ht h with ⟨h0,_⟩ | ⟨a,len,cap,elems,rest,m,hm,hcs,hx,hb,hl,hc,hlen,hel,hsp,_⟩
      · exact .inl h0
      · obtain rfl:n=m:=by omega
        refine .inr ⟨a,len,cap,hcs,hl,hc,fun i hi=>?_⟩
        have key:∃ y,(w.cells? 0 (a.add (i*P.cellsOf e)) (P.cellsOf e)).bind (DataW.trod enc P w 0 (fun _=>true) true n e)=some y:=by
          by_cases hil:i<len
          · rw [hel i hil]; exact ⟨_,List.getElem?_eq_getElem (by omega)⟩
          · have h2:=hsp rfl
            have h3:=h2.2 (i - len) (by omega)
            rw [show len+(i - len)=i by omega] at h3
            rw [h3]; exact ⟨_,List.getElem?_eq_getElem (by omega)⟩
        obtain ⟨y,hy⟩:=key
        obtain ⟨cs',h1,h2⟩:=Option.bind_eq_some_iff.1 hy
        exact ⟨cs',h1,ih h2⟩
    · rename_i fs ht
      obtain ⟨xs,m,hm,hx,hl,hxl,hf⟩:=DataW.trod_struct ht h
      obtain rfl:n=m:=by omega
      refine ⟨hl,fun i f hi=>?_⟩
      have h1:=hf i f hi
      have hlt:i<xs.length:=by
        rw [hxl]
        exact (Array.getElem?_eq_some_iff.1 hi).1
      rw [List.getElem?_eq_getElem hlt] at h1
      exact ih h1
    · rename_i m e ht
      obtain ⟨xs,m',hm,hx,hl,hxl,hf⟩:=DataW.trod_array ht h
      obtain rfl:n=m':=by omega
      refine ⟨hl,fun i hi=>?_⟩
      have h1:=hf i hi
      have hlt:i<xs.length:=by rw [hxl]; exact hi
      rw [List.getElem?_eq_getElem hlt] at h1
      exact ih h1
    · trivial
theorem isCame2 {H:Type} {enc:TypeId×Value→H} {P:Program} {w:World} {t:TypeId} {v:Value} {d:DataW H} {ps:List MemPlace} (h:DataW.Trod enc P w 0 (fun _=>true) true t v d ps):IsCame2 P w t v:=by
  obtain ⟨n,h⟩:=h
  exact ⟨n,XwH h⟩
theorem XrR {P:Program} {w:World} {n:Nat} {t:TypeId} {k:IntKind} (ht:P.underlying t=some (.int k)) {cs:List Value} (h:Zo P w n t cs):∃ i,cs=[.int k i]∧(Lit.int k i).wf=true:=by
  cases n with
  | zero=>exact h.elim
  | succ n=>unfold Zo at h; rw [ht] at h; exact h
theorem XoT {P:Program} {w:World} {n m:Nat} {t e:TypeId} (ht:P.underlying t=some (.array m e)) (he:P.underlying e=some (.int .u8)) (h1:P.cellsOf e=1) (hs:P.cellsOf t=m) {cs:List Value} (h:Zo P w n t cs) :
    ∃ xs:List UInt8,xs.length=m∧cs=xs.map fun x=>.int .u8 (x.toNat:Int):=by
  cases n with
  | zero=>exact h.elim
  | succ n=>
    unfold Zo at h; rw [ht] at h
    obtain ⟨hl,hi⟩:=h
    rw [hs] at hl
    have each:∀ v∈cs,∃ b:UInt8,v=.int .u8 (b.toNat:Int):=by
      intro v hv
      obtain ⟨i,hlt,rfl⟩:=List.getElem_of_mem hv
      obtain ⟨j,hj,hw⟩:=XrR he (hi i (by omega))
      rw [h1,Nat.mul_one] at hj
      have e1:(cs.drop i).take 1=[cs[i]]:=by
        rw [List.drop_eq_getElem_cons hlt]; rfl
      rw [e1] at hj
      injection hj with hj _
      have h4:0≤j∧j<256:=by simp [Lit.wf,IntKind.min,IntKind.max,IntKind.bits,IntKind.signed] at hw; omega
      refine ⟨UInt8.ofNat j.toNat,?_⟩
      rw [hj]
      have:((UInt8.ofNat j.toNat).toNat:Int)=j:=by simp; omega
      rw [this]
    have:∀ vs:List Value,(∀ v∈vs,∃ b:UInt8,v=.int .u8 (b.toNat:Int))→∃ xs:List UInt8,vs=xs.map fun x=>.int .u8 (x.toNat:Int):=by
      intro vs
      induction vs with
      | nil=>intro _; exact ⟨[],rfl⟩
      | cons v vs ih=>
        intro hv
        obtain ⟨b,rfl⟩:=hv v (by simp)
        obtain ⟨xs,rfl⟩:=ih (fun u hu=>hv u (by simp [hu]))
        exact ⟨b::xs,rfl⟩
    obtain ⟨xs,rfl⟩:=this cs each
    exact ⟨xs,by simpa using hl,rfl⟩
end Go.Fw
end

section
namespace Go.Fw
open Go
theorem Fr.st {a b c:World} {k:Nat} (h:Fr [] a b) (f:Fr [k] b c) (hk:a.heap.size≤k):Fr [] a c:=h.trans f (fun z hz=>.inr (by simp at hz; omega))
def LpAt (w:World) (l:Nat) (r:Loop):Prop:=w.heap[l]?=some (.loop r)
def DfAt (w:World) (d:Nat):Prop:=w.heap[d]?=some (.deferred (some []))
theorem LpAt.fr {L:List Nat} {w w':World} {l:Nat} {r:Loop} (h:LpAt w l r) (hf:Fr L w w') (hn:l∉L):LpAt w' l r:=(hf.block l (Yh h) hn).trans h
theorem LpAt.fr0 {w w':World} {l:Nat} {r:Loop} (h:LpAt w l r) (hf:Fr [] w w'):LpAt w' l r:=h.fr hf (by simp)
theorem DfAt.fr {L:List Nat} {w w':World} {d:Nat} (h:DfAt w d) (hf:Fr L w w') (hn:d∉L):DfAt w' d:=(hf.block d (Yh h) hn).trans h
theorem DfAt.fr0 {w w':World} {d:Nat} (h:DfAt w d) (hf:Fr [] w w'):DfAt w' d:=h.fr hf (by simp)
def EndR (P:Program) (l:Nat) (j:Option Code) (b:Bool) (w:World) (K:VWP):Prop:=∃ w',(Instr.endRound l j).run P w=.ok (.bool b) w'∧K (.bool b) w'
def BegR (P:Program) (l:Nat) (w:World) (K:World→Prop):Prop:=∃ w',(Instr.beginRound l).run P w=.ok () w'∧K w'
def XrS (P:Program) (l:Nat) (K:VWP):KS
  | .normal,_,w=>EndR P l none true w K
  | .ret,_,w=>EndR P l (some .ret) false w K
  | _,_,_=>False
def XvQ (P:Program) (l:Nat) (nt:Nat) (tt:Nat→List (Nat×TypeId)) (body:Code) (K:VWP):KS
  | .normal,s,w=>BegR P l w fun w₂=>sw P (some l) nt tt body 0 (XrS P l K) s w₂
  | _,_,_=>False
theorem XoU {P:Program} {l:Nat} {f:FuncId} {tmps:List Value} {nt:Nat} {assign body:Code} {w:World} {K:VWP} (tt1 tt2:Nat→List (Nat×TypeId)) (hn:tmps.length=nt)
    (h:sw P (some l) nt tt1 assign 0 (XvQ P l nt tt2 body K) ⟨Y6 tmps,[]⟩ w):RoundIn (fen none) 0 P l f ⟨tmps⟩ assign body w fun e w'=>∃ v,e=.returned v∧K v w':=by
  subst hn
  have hrep:Rep tmps.length { tmps:=(⟨tmps⟩:Array Value),defers:=[] } ⟨Y6 tmps,[]⟩:=⟨rfl,fun t=>by simp [Y6,Array.getD_eq_getD_getElem?,List.getD_eq_getElem?_getD],rfl⟩
  refine roundIn_of_wpIn (F:=fen none) (n:=0) (l:=l) trivial ?_
  refine wpIn_mono (XbU (ro:=some l) assign 0 _ _ _ w hrep h) ?_
  intro e a w1 hp
  cases e with
  | normal=>
    obtain ⟨s,hr,hb⟩:=hp
    obtain ⟨w2,hbr,hb⟩:=hb
    refine ⟨w2,hbr,wpIn_mono (XbU (ro:=some l) body 0 _ _ _ w2 hr hb) ?_⟩
    intro e2 a2 w3 hp2
    cases e2 with
    | normal=>obtain ⟨s,_,w4,h4,hk⟩:=hp2; exact ⟨_,w4,h4,_,rfl,hk⟩
    | ret=>obtain ⟨s,_,w4,h4,hk⟩:=hp2; exact ⟨_,w4,h4,_,rfl,hk⟩
    | exit i=>obtain ⟨s,_,hk⟩:=hp2; exact hk.elim
    | goto i=>obtain ⟨s,_,hk⟩:=hp2; exact hk.elim
    | panic c=>exact hp2.elim
    | outgrown=>exact hp2.elim
  | ret=>obtain ⟨s,_,hk⟩:=hp; exact hk.elim
  | exit i=>obtain ⟨s,_,hk⟩:=hp; exact hk.elim
  | goto i=>obtain ⟨s,_,hk⟩:=hp; exact hk.elim
  | panic c=>exact hp.elim
  | outgrown=>exact hp.elim
theorem Uz {P:Program} {w:World} {l:Nat} {r:Loop} (h:LpAt w l r):(Instr.getLoop l).run P w=.ok r w:=by
  unfold LpAt at h
  show ((getObj l >>= _:Sem Loop)).run P w=_
  rw [Sem.run_bind]
  have:(getObj l).run P w=.ok (.loop r) w:=by simp [getObj,Sem.run,h]
  rw [this]; rfl
def VL (w:World) (l:Nat) (o:Obj):World:={ w with heap:=w.heap.setIfInBounds l o }
theorem V2 {P:Program} {w:World} {l:Nat} {r:Loop} (h:LpAt w l r) (o:Obj):(setObj l o).run P w=.ok () (VL w l o):=by
  unfold LpAt at h
  show (match w.heap[l]? with | some (.cells ..)=>_ | some _=>_ | none=>_:Result Unit)=_
  rw [h]; rfl
theorem Xbc (w:World) (l:Nat) (o:Obj):Fr [l] w (VL w l o):=Fr.setHeap rfl
theorem Xju {w:World} {l:Nat} {r:Loop} (h:LpAt w l r) (r':Loop):LpAt (VL w l (.loop r')) l r':=by
  have:=Yh h
  unfold LpAt VL
  simp [this]
theorem Xab (w:World) (l:Nat) (o:Obj):(VL w l o).heap.size=w.heap.size:=by simp [VL]
theorem BegR.of {P:Program} {w:World} {l:Nat} {r:Loop} (h:LpAt w l r) (hs:r.state=.ready) {K:World→Prop} (hk:∀ w',Fr [l] w w'→LpAt w' l { r with state:=.busy }→w'.heap.size=w.heap.size→K w'):BegR P l w K:=by
  refine ⟨VL w l (.loop { r with state:=.busy }),?_,hk _ (Xbc _ _ _) (Xju h _) (Xab _ _ _)⟩
  show ((Instr.getLoop l >>= _:Sem Unit)).run P w=_
  rw [Sem.run_bind,Uz h]
  show ((setObj l _ >>= _:Sem Unit)).run P w=_
  rw [Sem.run_bind,V2 h]
  show ((match r.state with | .ready=>pure () | .done=>_ | .busy=>_ | .exhausted=>_:Sem Unit)).run P _=_
  rw [hs]; rfl
theorem EndR.of {P:Program} {w:World} {l:Nat} {r:Loop} (h:LpAt w l r) (j:Option Code) {b:Bool} (hb:b=j.isNone) {K:VWP} (hk:∀ w',Fr [l] w w'→LpAt w' l { r with state:=if j.isNone then .ready else .done,pending:=j }→w'.heap.size=w.heap.size→K (.bool b) w'):EndR P l j b w K:=by
  subst hb
  refine ⟨VL w l (.loop { r with state:=if j.isNone then .ready else .done,pending:=j }),?_,hk _ (Xbc _ _ _) (Xju h _) (Xab _ _ _)⟩
  show ((Instr.getLoop l >>= _:Sem Value)).run P w=_
  rw [Sem.run_bind,Uz h]
  show ((setObj l _ >>= _:Sem Value)).run P w=_
  rw [Sem.run_bind,V2 h]; rfl
theorem Tk.of {P:Program} {w:World} {d:Nat} (h:DfAt w d):∃ w',Tk P d w w'∧Fr [d] w w'∧w'.heap.size=w.heap.size:=by
  refine ⟨VL w d (.deferred none),?_,Xbc _ _ _,Xab _ _ _⟩
  unfold DfAt at h
  show ((getObj d >>= _:Sem (List Deferred))).run P w=_
  rw [Sem.run_bind]
  have e1:(getObj d).run P w=.ok (.deferred (some [])) w:=by simp [getObj,Sem.run,h]
  rw [e1]
  show ((setObj d _ >>= _:Sem (List Deferred))).run P w=_
  rw [Sem.run_bind]
  have e2:(setObj d (.deferred none)).run P w=.ok () (VL w d (.deferred none)):=by
    show (match w.heap[d]? with | some (.cells ..)=>_ | some _=>_ | none=>_:Result Unit)=_
    rw [h]; rfl
  rw [e2]; rfl
theorem XpS {P:Program} {w:World} {l:Nat} {r:Loop} (h:LpAt w l r) {args:List Value} (ha:args.length=r.params.size) {tmps:Array Value}
    (ht:(r.params.zip ⟨args⟩).foldl (fun tmps (t,a)=>tmps.setIfInBounds t a) r.tmps=tmps) {K:VWP}
    (hr:RoundIn (fen none) 0 P l r.fn tmps r.assign r.body w fun e w'=>∃ v,e=.returned v∧K v w'):Yv P (.func (.yield l) #[] #[]) args w K:=by
  refine Js ?_
  show Qi P l ⟨[]++args⟩ w K
  refine ⟨r.fn,tmps,r.assign,r.body,w,?_,hr⟩
  show ((Instr.getLoop l >>= _:Sem Next)).run P w=_
  rw [Sem.run_bind,Uz h]
  show ((if (⟨args⟩:Array Value).size≠r.params.size then stuck _ >>= _ else _:Sem Next)).run P w=_
  rw [if_neg (by simpa using ha)]
  show Result.ok (Next.round l r.fn ((r.params.zip ⟨args⟩).foldl (fun tmps (t,a)=>tmps.setIfInBounds t a) r.tmps) r.assign r.body) w=_
  rw [ht]
theorem XuP {P:Program} {w:World} {l df:Nat} {fn:FuncId} {tmps0:Array Value} {ps:Array Tmp} {assign body:Code} (h:LpAt w l (YL fn tmps0 ps assign body df)) {args:List Value} {tmps:Array Value} {K:VWP} (ha:args.length=ps.size)
    (ht:(ps.zip ⟨args⟩).foldl (fun tmps (t,a)=>tmps.setIfInBounds t a) tmps0=tmps)
    (hr:RoundIn (fen none) 0 P l fn tmps assign body w fun e w'=>∃ v,e=.returned v∧K v w'):Yv P (.func (.yield l) #[] #[]) args w K:=XpS h ha ht hr
theorem RangeF.of {P:Program} {gf:FuncId} {cap:List Value} {tmps:Array Value} {rf:Array Tmp×Code×Code} {w:World} {Kn Kr:Nat→World→Prop} (he:∀ args w,(callFunc gf args).run P w=.ok (.enter gf args) w)
    (h:∀ fn w2,Fr [] w w2→w2.heap.size=w.heap.size+2→DfAt w2 w.heap.size→LpAt w2 (w.heap.size+1) (YL fn tmps rf.1 rf.2.1 rf.2.2 w.heap.size)→
      Xa P gf ⟨.func (.yield (w.heap.size+1)) #[] #[]::cap⟩ w2 fun _ w3=>∃ r,LpAt w3 (w.heap.size+1) r∧r.state≠.busy∧
        ∀ w4,Fr [w.heap.size+1] w3 w4→w4.heap.size=w3.heap.size→(match r.pending with | none=>Kn w.heap.size w4 | some .ret=>Kr w.heap.size w4 | _=>False)) :
    RangeF P (.func (.func gf) #[] ⟨cap⟩) tmps rf w Kn Kr:=by
  refine ⟨gf,#[],⟨cap⟩,rfl,he,fun fn=>?_⟩
  have f1:=Fr.alloc w (.deferred (some []))
  have f2:=Fr.alloc (w.alloc (.deferred (some []))) (.loop (YL fn tmps rf.1 rf.2.1 rf.2.2 w.heap.size))
  have s1:(w.alloc (.deferred (some []))).heap.size=w.heap.size+1:=by simp
  have hD:DfAt (w.alloc (.deferred (some []))) w.heap.size:=by show (w.heap.push _)[w.heap.size]?=_; simp
  have hL:LpAt ((w.alloc (.deferred (some []))).alloc (.loop (YL fn tmps rf.1 rf.2.1 rf.2.2 w.heap.size))) (w.heap.size+1) (YL fn tmps rf.1 rf.2.1 rf.2.2 w.heap.size):=by
    show ((w.alloc (.deferred (some []))).heap.push _)[w.heap.size+1]?=_
    rw [Array.getElem?_push,if_pos s1.symm]
  have h1:=h fn _ (f1.then f2) (by simp) (hD.fr0 f2) hL
  refine callK_of_callF (he _ _) (XbQ (fun v w3 hw=>?_) h1)
  obtain ⟨r,hr,hb,hk⟩:=hw
  refine ⟨r.pending,VL w3 (w.heap.size+1) (.loop { r with state:=.exhausted }),?_,?_⟩
  · show ((Instr.getLoop (w.heap.size+1) >>= _:Sem (Option Code))).run P w3=_
    rw [Sem.run_bind,Uz hr]
    have hb':(r.state == .busy)=false:=by cases hst:r.state <;> first | rfl | exact absurd hst hb
    show ((if (r.state == .busy)=true then runtimePanic _ >>= _ else _:Sem (Option Code))).run P w3=_
    rw [hb']
    show ((setObj (w.heap.size+1) _ >>= _:Sem (Option Code))).run P w3=_
    rw [Sem.run_bind,V2 hr]; rfl
  · exact hk (VL w3 (w.heap.size+1) (.loop { r with state:=.exhausted })) (Xbc _ _ _) (Xab _ _ _)
end Go.Fw
end

section
namespace Go.Fw
open Go
def OwnN (s:Nat) (w:World) (p:Option Addr) (l c:Nat) (vs:List Value):Prop:=
  vs.length=l*s∧((p=none∧l=0∧c=0)∨∃ g o N f,p=some ⟨g,o,none⟩∧Blk w g N f∧o+c*s≤N∧l≤c∧∀ i v,vs[i]?=some v→f (o+i)=v)
section
variable {s:Nat} {w:World} {p:Option Addr} {l c:Nat} {vs:List Value}
theorem OwnN.row (h:OwnN s w p l c vs):Row w p vs:=by
  obtain ⟨hl,⟨_,h0,_⟩ | ⟨g,o,N,f,rfl,hB,hc,hlc,hf⟩⟩:=h
  · exact .inl (List.length_eq_zero_iff.1 (by rw [hl,h0,Nat.zero_mul]))
  · refine hB.row o vs fun j v hj=>⟨?_,hf j v hj⟩
    have:=(List.getElem?_eq_some_iff.1 hj).1
    have:=Nat.mul_le_mul_right s hlc
    omega
theorem OwnN.fr {l0:List Nat} {w':World} (h:OwnN s w p l c vs) (hf:Fr l0 w w') (hn:∀ k∈Xb p,k∉l0):OwnN s w' p l c vs:=by
  obtain ⟨hl,h | ⟨g,o,N,f,rfl,hB,rest⟩⟩:=h
  · exact ⟨hl,.inl h⟩
  · exact ⟨hl,.inr ⟨g,o,N,f,rfl,hB.fr hf (hn g (by simp [Xb])),rest⟩⟩
theorem OwnN.fr0 {w':World} (h:OwnN s w p l c vs) (hf:Fr [] w w'):OwnN s w' p l c vs:=h.fr hf (by simp)
theorem OwnN.nil (s:Nat) (w:World):OwnN s w none 0 0 []:=⟨by simp,.inl ⟨rfl,rfl,rfl⟩⟩
theorem OwnN.lt (h:OwnN s w p l c vs):∀ k∈Xb p,k<w.heap.size:=by
  obtain ⟨hl,⟨rfl,_⟩ | ⟨g,o,N,f,rfl,hB,rest⟩⟩:=h
  · simp [Xb]
  · simp [Xb]; exact hB.lt
theorem OwnN.cap (h:OwnN s w p l c vs):l≤c:=by
  obtain ⟨hl,⟨_,h0,h1⟩ | ⟨g,o,N,f,rfl,hB,hc,hlc,hf⟩⟩:=h <;> omega
end
def V3 (P:Program) (t:TypeId) (s:Nat):Bool:=
  match P.underlying t with
  | some (.slice e)=>(match P.info? e with | some i=>i.size == s && (match i.zero with | some z=>z.cells.size == s | none=>false) && Nat.ble i.bytes 4096 && Nat.ble 1 i.bytes | none=>false)
  | _=>false
theorem J2 {P:Program} {t:TypeId} {s:Nat} (h:V3 P t s=true):∃ e i z,P.underlying t=some (.slice e)∧P.info? e=some i∧i.size=s∧i.zero=some z∧z.cells.size=s∧i.bytes≤4096:=by
  unfold V3 at h
  split at h
  · rename_i e he
    split at h
    · rename_i i hi
      split at h
      · rename_i z hz
        simp only [Bool.and_eq_true,beq_iff_eq] at h
        exact ⟨e,i,z,he,hi,h.1.1.1,hz,h.1.1.2,Nat.le_of_ble_eq_true h.1.2⟩
      · simp at h
    · cases h
  · cases h
theorem YX {P:Program} {w:World} {p:Option Addr} {vs:List Value} (h:Row w p vs) {s n len cap:Nat} (hl:vs.length=n*s):(Builtin.firstCells s n (.slice p len cap)).run P w=.ok vs.toArray w:=by
  rcases h with rfl | ⟨b,o,rfl,h⟩
  · cases p with
    | none=>simp [Builtin.firstCells]
    | some a=>exact run_firstCells_some w s n a len cap [] (by simp at hl ⊢; omega) (by simp)
  · exact run_firstCells_some w s n ⟨b,o,none⟩ len cap vs (by omega) fun j v hj=>by rw [Xi]; exact h j v hj
theorem Ef.appendN {P:Program} {t ty:TypeId} {s:Nat} (ht:V3 P t s=true) {w:World} {p:Option Addr} {l c:Nat} {vs:List Value} (hO:OwnN s w p l c vs) {q:Option Addr} {m d:Nat} {us:List Value} (hR:Row w q us) (hm:us.length=m*s)
    (h1:∀ u∈us,u.oneCell'=true) (hlen:l+m≤1073741824) :
    ∃ p' c' w',Ef P (Builtin.append_ #[t,t] ty #[.slice p l c,.slice q m d]) w (.slice p' (l+m) c') w'∧OwnN s w' p' (l+m) c' (vs++us)∧Fr (Xb p) w w'∧
      ((p'=p∧c'=c∧w'.heap.size=w.heap.size)∨(p'=some ⟨w.heap.size,0,none⟩∧Fr [] w w'∧w'.heap.size=w.heap.size+1)):=by
  obtain ⟨e,i,z,hu,hi,hsz,hz,hzc,hby⟩:=J2 ht
  have hvl:=hO.1
  have hsum:(vs++us).length=(l+m)*s:=by rw [List.length_append,hvl,hm,Nat.add_mul]
  by_cases hn:l+m≤c
  · obtain ⟨hl,⟨rfl,h0,hc0⟩ | ⟨g,o,N,f,rfl,hB,hoc,hlc,hf⟩⟩:=hO
    · have hm0:m=0:=by omega
      subst hm0; subst h0; subst hc0
      have hus:us=[]:=List.length_eq_zero_iff.1 (by omega)
      have hvs:vs=[]:=List.length_eq_zero_iff.1 (by omega)
      subst hus; subst hvs
      have hfc:=YX (P:=P) (s:=s) (n:=0) (len:=0) (cap:=d) hR (by simp)
      refine ⟨none,0,w,?_,⟨by simp,.inl ⟨rfl,rfl,rfl⟩⟩,Fr.refl _ _,.inl ⟨rfl,rfl,rfl⟩⟩
      show (Builtin.append_ #[t,t] ty #[.slice none 0 0,.slice q 0 d]).run P w=_
      simp [Builtin.append_,run_underlying hu,sizeOf,typeInfo,hi,hsz,Builtin.lenOf,hfc]
    · have hfc:=YX (P:=P) (s:=s) (n:=m) (len:=m) (cap:=d) hR hm
      have hcs:(l+m)*s≤c*s:=Nat.mul_le_mul_right s hn
      rw [Nat.add_mul] at hcs
      obtain ⟨w',hst,hfr,hB',hsize⟩:=Zj (P:=P) us 0 g N (o+l*s) f w hB (by omega) h1
      refine ⟨some ⟨g,o,none⟩,c,w',?_,⟨hsum,.inr ⟨g,o,N,_,rfl,hB',hoc,hn,?_⟩⟩,hfr,.inl ⟨rfl,rfl,hsize⟩⟩
      · have e1:(⟨g,o,none⟩:Addr).add (l*s)=⟨g,o+l*s,none⟩:=Xi _ _ _
        show (Builtin.append_ #[t,t] ty #[.slice (some ⟨g,o,none⟩) l c,.slice q m d]).run P w=_
        simp [Builtin.append_,run_underlying hu,sizeOf,typeInfo,hi,hsz,Builtin.lenOf,hn,hfc,e1,hst]
      · intro j v hj
        unfold updN
        by_cases hjl:j<vs.length
        · rw [dif_neg (by omega)]
          rw [List.getElem?_append_left hjl] at hj
          exact hf j v hj
        · rw [List.getElem?_append_right (by omega)] at hj
          have hlt:=(List.getElem?_eq_some_iff.1 hj).1
          rw [dif_pos (by omega)]
          have e2:o+j - (o+l*s+0)=j - vs.length:=by omega
          rw [List.getElem?_eq_some_iff] at hj
          obtain ⟨_,hj⟩:=hj
          simp only [e2]
          exact hj
  · have h63':¬ (9223372036854775807<((l:Int)+(m:Int))):=by omega
    have hbb:(l+m)*i.bytes≤140737488355328:=Nat.le_trans (Nat.mul_le_mul hlen hby) (by decide)
    have h48':¬ (281474976710656<Builtin.nextslicecap (l+m) c*i.bytes):=by
      have hlc:=hO.cap
      have:=growslice_fits (need:=l+m) (old:=c) (by omega) hbb; omega
    have hf:=YX (P:=P) (w:=w.drew) (s:=s) (n:=m) (len:=m) (cap:=d) (hR.fr0 (Fr.drew w)) hm
    have hfo:=YX (P:=P) (w:=w.drew) (s:=s) (n:=l) (len:=l) (cap:=c) (hO.row.fr0 (Fr.drew w)) hvl
    have hge:=grownCap_ge w (l+m) c e
    refine ⟨some ⟨w.heap.size,0,none⟩,grownCap w (l+m) c e,w.drew.alloc (.cells (vs.toArray++us.toArray++Builtin.zeroCells z.cells (grownCap w (l+m) c e - (l+m))) e),?_,?_,?_,.inr ⟨rfl,?_,by simp⟩⟩
    · show (Builtin.append_ #[t,t] ty #[.slice p l c,.slice q m d]).run P w=_
      simp [Builtin.append_,run_underlying hu,sizeOf,typeInfo,zeroValue,hi,hz,hsz,Builtin.lenOf,hn,h63',h48',Question.forced,hf,hfo,newRow,grownCap]
      congr 2
      apply Array.ext'
      simp [List.append_assoc]
    · refine ⟨hsum,.inr ⟨w.heap.size,0,(vs.toArray++us.toArray++Builtin.zeroCells z.cells (grownCap w (l+m) c e - (l+m))).size,fun i=>(vs.toArray++us.toArray++Builtin.zeroCells z.cells (grownCap w (l+m) c e - (l+m))).getD i undef,rfl,?_,?_,hge,?_⟩⟩
      · exact Blk.new w.drew (vs.toArray++us.toArray++Builtin.zeroCells z.cells (grownCap w (l+m) c e - (l+m))) e (fun i=>(vs.toArray++us.toArray++Builtin.zeroCells z.cells (grownCap w (l+m) c e - (l+m))).getD i undef) (fun i hi=>by rw [Array.getD_eq_getD_getElem?,Array.getElem?_eq_getElem hi]; rfl)
      · have hk:(l+m)*s+(grownCap w (l+m) c e - (l+m))*s=grownCap w (l+m) c e*s:=by rw [← Nat.add_mul]; congr 1; omega
        have hk2:(l+m)*s=l*s+m*s:=Nat.add_mul _ _ _
        simp [size_zeroCells,hzc]; omega
      · intro j v hj
        have hlt:=(List.getElem?_eq_some_iff.1 hj).1
        rw [Nat.zero_add]
        show (vs.toArray++us.toArray++Builtin.zeroCells z.cells (grownCap w (l+m) c e - (l+m))).getD j undef=v
        rw [Array.getD_eq_getD_getElem?,Array.getElem?_append_left (by simpa using hlt)]
        have e3:(vs.toArray++us.toArray)[j]?=some v:=by rw [← hj]; simp
        rw [e3]; rfl
    · exact ((Fr.drew w).then (Fr.alloc _ _)).mono (by simp)
    · exact (Fr.drew w).then (Fr.alloc _ _)
theorem OwnN.cellAt {s:Nat} {w:World} {p:Option Addr} {l c:Nat} {vs:List Value} (h:OwnN s w p l c vs) {P:Program} {t:TypeId} (ht:YT P t s=true) {k:IntKind} {i:Nat} (hi:i<l) (_hs:0<s) :
    ∃ b o,IxA P t (.slice p l c) (.int k (i:Int)) ⟨b,o,none⟩∧b∈Xb p∧∀ j v,j<s→vs[i*s+j]?=some v→w.cell? ⟨b,o+j,none⟩=some v:=by
  obtain ⟨hl,⟨_,h0,_⟩ | ⟨g,o,N,f,rfl,hB,hc,hlc,hf⟩⟩:=h
  · omega
  · have hx:=ixS (P:=P) ht (b:=g) (o:=o) (len:=l) (cap:=c) (k:=k) (i:=(i:Int)) (by omega) (by omega)
    rw [Int.toNat_natCast] at hx
    refine ⟨g,o+i*s,hx,by simp [Xb],fun j v hj hv=>?_⟩
    have h1:(i+1)*s≤c*s:=Nat.mul_le_mul_right s (by omega)
    rw [Nat.add_mul,Nat.one_mul] at h1
    rw [hB.cell (by omega),show o+i*s+j=o+(i*s+j) by omega,hf _ _ hv]
theorem Row.cellAt {s:Nat} {w:World} {p:Option Addr} {vs:List Value} (h:Row w p vs) {P:Program} {t:TypeId} (ht:YT P t s=true) {k:IntKind} {l c i:Nat} (hl:vs.length=l*s) (hi:i<l) (_hs:0<s) :
    ∃ b o,IxA P t (.slice p l c) (.int k (i:Int)) ⟨b,o,none⟩∧b∈Xb p∧∀ j v,j<s→vs[i*s+j]?=some v→w.cell? ⟨b,o+j,none⟩=some v:=by
  rcases h with h0 | ⟨g,o,rfl,hf⟩
  · subst h0
    have h1:1*s≤l*s:=Nat.mul_le_mul_right s (by omega)
    simp at hl; omega
  · have hx:=ixS (P:=P) ht (b:=g) (o:=o) (len:=l) (cap:=c) (k:=k) (i:=(i:Int)) (by omega) (by omega)
    rw [Int.toNat_natCast] at hx
    refine ⟨g,o+i*s,hx,by simp [Xb],fun j v hj hv=>?_⟩
    rw [show o+i*s+j=o+(i*s+j) by omega]
    exact hf _ _ hv
end Go.Fw
end

section
namespace Go.Fw
open Go
inductive Wz where
  | int (k:IntKind)
  | bool
  | str
  | bytes
  | arr8 (n:Nat)
  | other (n:Nat)
def Xjv (w:World):Wz→List Value→Prop
  | .int k,cs=>∃ i,cs=[.int k i]∧(Lit.int k i).wf=true
  | .bool,cs=>∃ b,cs=[.bool b]
  | .str,cs=>∃ s:ByteArray,cs=[.string s]∧s.size≤maxLen
  | .bytes,cs=>∃ (q:Option Addr) (xs:List UInt8) (c:Nat),cs=[.slice q xs.length c]∧xs.length≤c∧xs.length≤maxLen∧Row w q (xs.map fun x=>.int .u8 (x.toNat:Int))
  | .arr8 n,cs=>∃ xs:List UInt8,xs.length=n∧cs=xs.map fun x=>.int .u8 (x.toNat:Int)
  | .other n,cs=>cs.length=n
def DecL (w:World):List Wz→List Value→Prop
  | [],cs=>cs=[]
  | l::ls,cs=>∃ c1 c2,cs=c1++c2∧Xjv w l c1∧DecL w ls c2
theorem DecL.append {w:World}:∀ {l1 l2:List Wz} {c1 c2:List Value},DecL w l1 c1→DecL w l2 c2→DecL w (l1++l2) (c1++c2):=by
  intro l1
  induction l1 with
  | nil=>intro l2 c1 c2 h1 h2; subst h1; exact h2
  | cons l ls ih=>
    intro l2 c1 c2 h1 h2
    obtain ⟨a,b,rfl,ha,hb⟩:=h1
    exact ⟨a,b++c2,by rw [List.append_assoc],ha,ih hb h2⟩
theorem DecL.one {w:World} {l:Wz} {cs:List Value} (h:Xjv w l cs):DecL w [l] cs:=⟨cs,[],by simp,h,rfl⟩
def Xbd (P:Program) (rec:TypeId→Option (List Wz)):List Field→Nat→Option (List Wz×Nat)
  | [],o=>some ([],o)
  | f::fs,o=>if f.offset == o then (match rec f.type with | some l=>(match Xbd P rec fs (o+P.cellsOf f.type) with | some (ls,e)=>some (l++ls,e) | none=>none) | none=>none) else none
def leaves (P:Program):Nat→TypeId→Option (List Wz)
  | 0,_=>none
  | n+1,t=>
    match P.underlying t with
    | some .bool=>some [.bool]
    | some (.int k)=>some [.int k]
    | some .string=>some [.str]
    | some (.slice e)=>if XmL P e && P.cellsOf e == 1 then some [.bytes] else none
    | some (.array m e)=>if XmL P e && P.cellsOf e == 1 && P.cellsOf t == m then some [.arr8 m] else none
    | some (.struct fs)=>(match Xbd P (leaves P n) fs.toList 0 with | some (ls,e)=>if P.cellsOf t == e then some ls else none | none=>none)
    | _=>none
theorem XmM {P:Program} {w:World} {n:Nat} {t e:TypeId} (ht:P.underlying t=some (.slice e)) (he:P.underlying e=some (.int .u8)) (h1:P.cellsOf e=1) {cs:List Value} (h:Zo P w n t cs):Xjv w .bytes cs:=by
  cases n with
  | zero=>exact h.elim
  | succ n=>
    have h':=h
    unfold Zo at h; rw [ht] at h
    have hb:XdJ P t=true:=by unfold XdJ; rw [ht]; simp only []; rw [he]; simp [h1]
    rcases h with rfl | ⟨a,len,cap,rfl,hl,hc,hx⟩
    · exact ⟨none,[],0,rfl,Nat.le_refl _,Nat.zero_le _,Row.nil _ _⟩
    · have hcm : IsCame P w t (.slice (some a) len cap) := by
        refine ⟨n+1,?_⟩
        show Qo P w (n+1) t [.slice (some a) len cap]
        unfold Qo; rw [ht]
        refine .inr ⟨a,len,cap,rfl,hl,hc,fun i hi=>?_⟩
        obtain ⟨cs',g1,g2⟩:=hx i hi
        refine ⟨cs',g1,?_⟩
        cases n with
        | zero=>exact g2.elim
        | succ n=>unfold Zo at g2; rw [he] at g2; unfold Qo; rw [he]; exact g2
      obtain ⟨xs,h2,h3,h4,h5⟩:=came_bytes hb hcm
      subst h2
      exact ⟨_,xs,cap,rfl,h4,h3,h5⟩
theorem Xw3 {P:Program} {w:World} {m:Nat} {rec:TypeId→Option (List Wz)} (hrec:∀ t L cs,rec t=some L→Zo P w m t cs→DecL w L cs):∀ {fs:List Field} {o e:Nat} {L:List Wz} {cs:List Value},Xbd P rec fs o=some (L,e)→cs.length=e→
    (∀ f∈fs,Zo P w m f.type ((cs.drop f.offset).take (P.cellsOf f.type)))→DecL w L (cs.drop o):=by
  intro fs
  induction fs with
  | nil=>
    intro o e L cs h hl hf
    simp [Xbd] at h
    obtain ⟨rfl,rfl⟩:=h
    show cs.drop o=[]
    rw [List.drop_eq_nil_iff]; omega
  | cons f fs ih=>
    intro o e L cs h hl hf
    unfold Xbd at h
    split at h
    · rename_i ho
      rw [beq_iff_eq] at ho
      split at h
      · rename_i l hl1
        split at h
        · rename_i ls e' hr
          simp at h
          obtain ⟨rfl,rfl⟩:=h
          have h1:=hrec _ _ _ hl1 (hf f (by simp))
          have h2:=ih hr hl (fun g hg=>hf g (by simp [hg]))
          rw [ho] at h1
          have:=DecL.append h1 h2
          rw [← List.drop_drop,List.take_append_drop] at this
          exact this
        · cases h
      · cases h
    · cases h
theorem dec {P:Program} {w:World}:∀ {n m:Nat} {t:TypeId} {L:List Wz} {cs:List Value},leaves P n t=some L→Zo P w m t cs→DecL w L cs:=by
  intro n
  induction n with
  | zero=>intro m t L cs h; simp [leaves] at h
  | succ n ih=>
    intro m t L cs h hc
    cases m with
    | zero=>exact hc.elim
    | succ m=>
    have hc':=hc
    unfold leaves at h
    unfold Zo at hc
    split at h
    · rename_i ht; rw [ht] at hc; simp at h; subst h; exact DecL.one hc
    · rename_i k ht; rw [ht] at hc; simp at h; subst h; exact DecL.one hc
    · rename_i ht; rw [ht] at hc; simp at h; subst h; exact DecL.one hc
    · rename_i e ht
      split at h
      · rename_i hb
        simp only [Bool.and_eq_true,beq_iff_eq] at hb
        simp at h; subst h
        exact DecL.one (XmM ht (Xgs hb.1) hb.2 hc')
      · cases h
    · rename_i k e ht
      split at h
      · rename_i hb
        simp only [Bool.and_eq_true,beq_iff_eq] at hb
        simp at h; subst h
        exact DecL.one (XoT ht (Xgs hb.1.1) hb.1.2 hb.2 hc')
      · cases h
    · rename_i fs ht
      rw [ht] at hc
      obtain ⟨hl,hf⟩:=hc
      split at h
      · rename_i ls e hF
        split at h
        · rename_i he
          rw [beq_iff_eq] at he
          simp at h; subst h
          have:=Xw3 (P:=P) (w:=w) (m:=m) (rec:=leaves P n) (fun t L cs h1 h2=>ih h1 h2) hF (cs:=cs) (by omega) (fun f hm=>by
            obtain ⟨i,hi,rfl⟩:=List.getElem_of_mem hm
            exact hf i _ (by rw [← Array.getElem?_toList,List.getElem?_eq_getElem hi]))
          rwa [List.drop_zero] at this
        · cases h
      · cases h
    · cases h
theorem came_list {P:Program} {w:World} {t e:TypeId} {s n:Nat} {L:List Wz} (ht:P.underlying t=some (.slice e)) (hs:P.cellsOf e=s) (hs0:0<s) (hL:leaves P n e=some L) {a:Option Addr} {len cap:Nat} (h:IsCame2 P w t (.slice a len cap)) :
    ∃ vss:List (List Value),vss.length=len∧len≤maxLen∧len≤cap∧Row w a vss.flatten∧vss.flatten.length=len*s∧∀ vs∈vss,vs.length=s∧DecL w L vs:=by
  obtain ⟨m,h⟩:=h
  cases m with
  | zero=>exact h.elim
  | succ m=>
    unfold Zo at h
    rw [ht] at h
    rcases h with h | ⟨x,l,c,h1,h2,h3,h4⟩
    · simp [Value.cells] at h
      obtain ⟨rfl,rfl,rfl⟩:=h
      exact ⟨[],rfl,Nat.zero_le _,Nat.le_refl _,Row.nil _ _,by simp,by simp⟩
    · simp [Value.cells] at h1
      obtain ⟨rfl,rfl,rfl⟩:=h1
      rw [hs] at h4
      by_cases h0:cap=0
      · have hl0:len=0:=by omega
        subst hl0
        exact ⟨[],rfl,Nat.zero_le _,h2,Row.nil _ _,by simp,by simp⟩
      · have each : ∀ i, i < cap → ∃ cs : List Value, cs.length = s ∧ DecL w L cs ∧ ∀ j v, cs[j]? = some v → w.cell? ((x.add (i * s)).add j) = some v := by
          intro i hi
          obtain ⟨cs',g1,g2⟩:=h4 i hi
          obtain ⟨_,g3,g4⟩:=World.cells?_some g1
          refine ⟨cs',g3,dec hL g2,fun j v hj=>?_⟩
          have hlt:=(List.getElem?_eq_some_iff.1 hj).1
          rw [← hj]
          exact g4 j (by omega)
        obtain ⟨c0,hc0,_,hx0⟩:=each 0 (by omega)
        have hsp:x.spot=none:=by
          have hlt:0<c0.length:=by omega
          have:=hx0 0 _ (List.getElem?_eq_getElem hlt)
          have e0:(x.add (0*s)).add 0=x:=by rw [Nat.zero_mul]; rfl
          rw [e0] at this
          exact XkC this
        obtain ⟨b,o,sp⟩:=x
        simp only at hsp
        subst hsp
        have:∃ f:Nat→List Value,∀ i,i<cap→(f i).length=s∧DecL w L (f i)∧∀ j v,(f i)[j]?=some v→w.cell? ⟨b,o+i*s+j,none⟩=some v:=by
          classical
          refine ⟨fun i=>if hi:i<cap then Classical.choose (each i hi) else [],fun i hi=>?_⟩
          simp only [dif_pos hi]
          obtain ⟨q1,q2,q3⟩:=Classical.choose_spec (each i hi)
          refine ⟨q1,q2,fun j v hj=>?_⟩
          have:=q3 j v hj
          rw [Xi,Xi] at this
          exact this
        obtain ⟨f,hf⟩:=this
        have hall:∀ k,k≤len→∃ vss:List (List Value),vss.length=k∧vss.flatten.length=k*s∧(∀ vs∈vss,vs.length=s∧DecL w L vs)∧∀ j v,vss.flatten[j]?=some v→w.cell? ⟨b,o+j,none⟩=some v:=by
          intro k
          induction k with
          | zero=>intro _; exact ⟨[],rfl,by simp,by simp,by simp⟩
          | succ k ih=>
            intro hk
            obtain ⟨vss,v1,v2,v3,v4⟩:=ih (by omega)
            obtain ⟨f1,f2,f3⟩:=hf k (by omega)
            refine ⟨vss++[f k],by simp [v1],by simp [v2,f1,Nat.add_mul],fun vs hvs=>?_,fun j v hj=>?_⟩
            · rcases List.mem_append.1 hvs with h | h
              · exact v3 vs h
              · simp at h; subst h; exact ⟨f1,f2⟩
            · rw [List.flatten_append] at hj
              simp only [List.flatten_cons,List.flatten_nil,List.append_nil] at hj
              by_cases hjl:j<vss.flatten.length
              · rw [List.getElem?_append_left hjl] at hj; exact v4 j v hj
              · rw [List.getElem?_append_right (by omega)] at hj
                have:=f3 _ v hj
                rw [v2] at this
                rw [show o+j=o+k*s+(j - k*s) by omega]
                exact this
        obtain ⟨vss,v1,v2,v3,v4⟩:=hall len (Nat.le_refl _)
        exact ⟨vss,v1,by omega,h2,.inr ⟨b,o,rfl,v4⟩,v2,v3⟩
theorem came_struct {P:Program} {w:World} {t:TypeId} {n:Nat} {L:List Wz} (hL:leaves P n t=some L) {cs:Array Value} (h:IsCame2 P w t (.agg cs)):DecL w L cs.toList:=by
  obtain ⟨m,h⟩:=h
  exact dec hL h
end Go.Fw
end

section
namespace Go.Fw
open Go
theorem Ef.appendZN {P:Program} {t ti ty:TypeId} {s:Nat} (ht:V3 P t s=true) (hs0:s≠0) (hti:Xqz P ti=true) {w:World} {n:Nat} (h0:0<n) (hn:n≤1073741824) :
    ∃ c' w',Ef P (Builtin.append_ #[t,ti] ty #[.slice none 0 0,.int .i64 (n:Int)]) w (.slice (some ⟨w.heap.size,0,none⟩) n c') w'∧n≤c'∧Fr [] w w'∧(∃ f,Blk w' w.heap.size (c' * s) f)∧w'.heap.size=w.heap.size+1:=by
  obtain ⟨e,i,z,hu,hi,hsz,hz,hzc,hby⟩:=J2 ht
  obtain ⟨k,hk⟩:=XmK hti
  have hbb:n*i.bytes≤140737488355328:=Nat.le_trans (Nat.mul_le_mul hn hby) (by decide)
  have h48':¬ (281474976710656<Builtin.nextslicecap n 0*i.bytes):=by have:=growslice_fits (need:=n) (old:=0) (by omega) hbb; omega
  have hbi:¬ (281474976710656<(n:Int)*(i.bytes:Int)):=by
    have:((n*i.bytes:Nat):Int)≤140737488355328:=by omega
    rw [Int.natCast_mul] at this; omega
  have hw:IntKind.i64.wrap (n:Int)=(n:Int):=by rw [IntKind.wrap_i64]; omega
  have hn0:¬ (n≤0):=by omega
  have hn0':n≠0:=by omega
  have h63':¬ (9223372036854775807<(n:Int)):=by omega
  have hge:=grownCap_ge w n 0 e
  have hneg:¬ ((n:Int)<0):=by omega
  have ha:Sem.run P (asIntOf (.int .i64 (n:Int))) w=.ok (.i64,(n:Int)) w:=rfl
  refine ⟨grownCap w n 0 e,w.drew.alloc (.cells (Builtin.zeroCells z.cells n++Builtin.zeroCells z.cells (grownCap w n 0 e - n)) e),?_,hge,(Fr.drew w).then (Fr.alloc _ _),?_,by simp⟩
  · show (Builtin.append_ #[t,ti] ty #[.slice none 0 0,.int .i64 (n:Int)]).run P w=_
    simp [Builtin.append_,run_underlying hu,run_underlying hk,sizeOf,typeInfo,zeroValue,hi,hz,hsz,Builtin.lenOf,hw,hneg,hbi,hn0',h63',h48',Question.forced,Builtin.firstCells,newRow,grownCap,asInt,ha]
    intro h; exact absurd h (Nat.mul_ne_zero hn0' hs0)
  · have:=Blk.new w.drew (Builtin.zeroCells z.cells n++Builtin.zeroCells z.cells (grownCap w n 0 e - n)) e (fun i=>(Builtin.zeroCells z.cells n++Builtin.zeroCells z.cells (grownCap w n 0 e - n)).getD i undef) (fun i hi=>by rw [Array.getD_eq_getD_getElem?,Array.getElem?_eq_getElem hi]; rfl)
    have hs:(Builtin.zeroCells z.cells n++Builtin.zeroCells z.cells (grownCap w n 0 e - n)).size=grownCap w n 0 e*s:=by
      rw [Array.size_append,size_zeroCells,size_zeroCells,hzc,← Nat.add_mul]; congr 1; omega
    rw [hs] at this
    exact ⟨_,this⟩
theorem Xut {P:Program} {t:TypeId} {s:Nat} (ht:YT P t s=true) {p:Option Addr} {len cap:Nat} {kl kh km:IntKind} {lo hi mx:Int} (h0:0≤lo) (h1:lo≤hi) (h2:hi≤mx) (h3:mx≤cap) :
    Pu P (Instr.sliceAt t (.slice p len cap) (some (.int kl lo)) (some (.int kh hi)) (some (.int km mx))) (.slice (partAt p mx.toNat lo.toNat s) (hi.toNat - lo.toNat) (mx.toNat - lo.toNat)):=by
  obtain ⟨e,hu,hs⟩:=Jt ht
  have hb:res P (Instr.sliceBounds true len cap (some (.int kl lo)) (some (.int kh hi)) (some (.int km mx)))=some (lo.toNat,hi.toNat,mx.toNat):=by
    show res P ((Instr.sliceBound (.int km mx) cap _).bind fun m=>(Instr.sliceBound (.int kh hi) m _).bind fun h=>(Instr.sliceBound (.int kl lo) h _).bind fun l=>pure (l,h,m))=_
    rw [Xm,ZA (by omega) h3]
    show res P ((Instr.sliceBound (.int kh hi) mx.toNat _).bind fun h=>(Instr.sliceBound (.int kl lo) h _).bind fun l=>pure (l,h,mx.toNat))=_
    rw [Xm,ZA (by omega) (by omega)]
    show res P ((Instr.sliceBound (.int kl lo) hi.toNat _).bind fun l=>pure (l,hi.toNat,mx.toNat))=_
    rw [Xm,ZA h0 (by omega)]
    rfl
  show res P ((underlying t).bind _)=_
  rw [Xm,Xk hu]
  show res P ((underlying t).bind _)=_
  rw [Xm,Xk hu]
  show res P ((Instr.sliceBounds true len cap (some (.int kl lo)) (some (.int kh hi)) (some (.int km mx))).bind _)=_
  rw [Xm,hb]
  show res P ((sizeOf e).bind _)=_
  rw [Xm,hs]
  rfl
end Go.Fw
end

section
namespace Go.Fw
open Go
section
variable {α:Type} {v:α→List Value} {s:Nat}
theorem XrT (hv:∀ x,(v x).length=s):∀ l:List α,(l.flatMap v).length=l.length*s
  | []=>by simp
  | x::l=>by rw [List.flatMap_cons,List.length_append,hv,XrT hv l,List.length_cons,Nat.add_mul]; omega
theorem Xhu (hv:∀ x,(v x).length=s):∀ {l:List α} {i j:Nat} {x:α} {y:Value},l[i]?=some x→(v x)[j]?=some y→(l.flatMap v)[i*s+j]?=some y
  | [],i,j,x,y,hi,hj=>by simp at hi
  | z::l,0,j,x,y,hi,hj=>by
    simp at hi; subst hi
    rw [List.flatMap_cons,Nat.zero_mul,Nat.zero_add,List.getElem?_append_left (List.getElem?_eq_some_iff.1 hj).1]; exact hj
  | z::l,i+1,j,x,y,hi,hj=>by
    rw [List.flatMap_cons,List.getElem?_append_right (by rw [hv,Nat.add_mul]; omega),hv,show (i+1)*s+j - s=i*s+j by rw [Nat.add_mul]; omega]
    exact Xhu hv (by simpa using hi) hj
theorem Xjw (hv:∀ x,(v x).length=s):∀ (l:List α) (i:Nat),(l.flatMap v).take (i*s)=(l.take i).flatMap v
  | [],i=>by simp
  | x::l,0=>by simp
  | x::l,i+1=>by
    rw [List.flatMap_cons,List.take_succ_cons,List.flatMap_cons,List.take_append,hv,← Xjw hv l i,List.take_of_length_le (by rw [hv,Nat.add_mul]; omega),show (i+1)*s - s=i*s by rw [Nat.add_mul]; omega]
theorem Xjx (hv:∀ x,(v x).length=s):∀ (l:List α) (i:Nat),(l.flatMap v).drop (i*s)=(l.drop i).flatMap v
  | [],i=>by simp
  | x::l,0=>by simp
  | x::l,i+1=>by
    rw [List.flatMap_cons,List.drop_succ_cons,List.drop_append,hv,← Xjx hv l i,List.drop_of_length_le (by rw [hv,Nat.add_mul]; omega),List.nil_append,show (i+1)*s - s=i*s by rw [Nat.add_mul]; omega]
theorem XrU {Q:Value→Prop} (hv:∀ x,∀ y∈v x,Q y) (l:List α):∀ y∈l.flatMap v,Q y:=by
  intro y hy
  obtain ⟨x,_,hx⟩:=List.mem_flatMap.1 hy
  exact hv x y hx
end
theorem XoV (b o c s:Nat):partAt (some ⟨b,o,none⟩) c 0 s=some ⟨b,o,none⟩:=by
  unfold partAt
  split
  · rfl
  · show some ((⟨b,o,none⟩:Addr).add (0*s))=_
    rw [Xi,Nat.zero_mul,Nat.add_zero]
theorem XkD {b o c i s:Nat} (h:c≠i):partAt (some ⟨b,o,none⟩) c i s=some ⟨b,o+i*s,none⟩:=by
  unfold partAt
  rw [if_neg h]
  show some ((⟨b,o,none⟩:Addr).add (i*s))=_
  rw [Xi]
section
variable {P:Program} {t:TypeId} {s:Nat} {p:Option Addr} {len cap:Nat}
theorem XvR (ht:YT P t s=true) {n:Nat} (hn:n≤cap):Pu P (Instr.sliceAt t (.slice p len cap) none (some (.int .i64 (n:Int))) none) (.slice (partAt p cap 0 s) n cap):=by
  have h:=VK (P:=P) (t:=t) (s:=s) (p:=p) (len:=len) (cap:=cap) (kl:=.i64) (kh:=.i64) (lo:=none) (hi:=some (n:Int)) ht (by show (0:Int)≤0; omega) (by show (0:Int)≤(n:Int); omega) (by show (n:Int)≤(cap:Int); omega)
  have e:(Option.getD (some (n:Int)) (len:Int)).toNat - (Option.getD (none:Option Int) 0).toNat=n:=by show ((n:Int)).toNat - 0=n; omega
  rw [e] at h
  exact h
theorem XrV (ht:YT P t s=true) {n:Nat} (hn:n≤len) (hc:len≤cap):Pu P (Instr.sliceAt t (.slice p len cap) (some (.int .i64 (n:Int))) none none) (.slice (partAt p cap n s) (len - n) (cap - n)):=by
  have h:=VK (P:=P) (t:=t) (s:=s) (p:=p) (len:=len) (cap:=cap) (kl:=.i64) (kh:=.i64) (lo:=some (n:Int)) (hi:=none) ht (by show (0:Int)≤(n:Int); omega) (by show (n:Int)≤(len:Int); omega) (by show (len:Int)≤(cap:Int); omega)
  have e:(Option.getD (none:Option Int) (len:Int)).toNat - (Option.getD (some (n:Int)) 0).toNat=len - n:=by show ((len:Int)).toNat - ((n:Int)).toNat=len - n; omega
  have e5:(Option.getD (some (n:Int)) 0).toNat=n:=by show ((n:Int)).toNat=n; omega
  rw [e,e5] at h
  exact h
theorem XwI (ht:YT P t s=true) {a b:Nat} (hab:a≤b) (hb:b≤cap):Pu P (Instr.sliceAt t (.slice p len cap) (some (.int .i64 (a:Int))) (some (.int .i64 (b:Int))) none) (.slice (partAt p cap a s) (b - a) (cap - a)):=by
  have h:=VK (P:=P) (t:=t) (s:=s) (p:=p) (len:=len) (cap:=cap) (kl:=.i64) (kh:=.i64) (lo:=some (a:Int)) (hi:=some (b:Int)) ht (by show (0:Int)≤(a:Int); omega) (by show (a:Int)≤(b:Int); omega) (by show (b:Int)≤(cap:Int); omega)
  have e:(Option.getD (some (b:Int)) (len:Int)).toNat - (Option.getD (some (a:Int)) 0).toNat=b - a:=by show ((b:Int)).toNat - ((a:Int)).toNat=b - a; omega
  have e5:(Option.getD (some (a:Int)) 0).toNat=a:=by show ((a:Int)).toNat=a; omega
  rw [e,e5] at h
  exact h
end
theorem Row.partN {w:World} {p:Option Addr} {vs:List Value} (h:Row w p vs) {c i s:Nat} (_hs:0<s) (hc:vs.length≤c*s):Row w (partAt p c i s) (vs.drop (i*s)):=by
  rcases h with rfl | ⟨b,o,rfl,hf⟩
  · left; simp
  · by_cases hci:c=i
    · left
      apply List.drop_eq_nil_of_le
      subst hci; exact hc
    · right
      refine ⟨b,o+i*s,XkD hci,fun j v hj=>?_⟩
      rw [List.getElem?_drop] at hj
      rw [Nat.add_assoc]; exact hf _ v hj
theorem OwnN.cut {s:Nat} {w:World} {p:Option Addr} {l c:Nat} {vs:List Value} (h:OwnN s w p l c vs) {i:Nat} (hi:i≤l):OwnN s w p i c (vs.take (i*s)):=by
  have hm:=Nat.mul_le_mul_right s hi
  obtain ⟨hl,⟨rfl,h0,hc0⟩ | ⟨g,o,N,f,rfl,hB,hoc,hlc,hf⟩⟩:=h
  · refine ⟨by rw [List.length_take]; omega,.inl ⟨rfl,by omega,hc0⟩⟩
  · refine ⟨by rw [List.length_take]; omega,.inr ⟨g,o,N,f,rfl,hB,hoc,by omega,fun j v hj=>?_⟩⟩
    rw [List.getElem?_take] at hj
    split at hj
    · exact hf j v hj
    · cases hj
theorem Ef.appendIn {P:Program} {t ty:TypeId} {s:Nat} (ht:V3 P t s=true) {w:World} {p:Option Addr} {l c:Nat} {vs:List Value} (hO:OwnN s w p l c vs) {q:Option Addr} {m d:Nat} {us:List Value} (hR:Row w q us) (hm:us.length=m*s)
    (h1:∀ u∈us,u.oneCell'=true) (hn:l+m≤c) :
    ∃ w',Ef P (Builtin.append_ #[t,t] ty #[.slice p l c,.slice q m d]) w (.slice p (l+m) c) w'∧OwnN s w' p (l+m) c (vs++us)∧Fr (Xb p) w w'∧w'.heap.size=w.heap.size:=by
  obtain ⟨e,i,z,hu,hi,hsz,hz,hzc,hby⟩:=J2 ht
  have hvl:=hO.1
  have hsum:(vs++us).length=(l+m)*s:=by rw [List.length_append,hvl,hm,Nat.add_mul]
  obtain ⟨hl,⟨rfl,h0,hc0⟩ | ⟨g,o,N,f,rfl,hB,hoc,hlc,hf⟩⟩:=hO
  · have hm0:m=0:=by omega
    subst hm0; subst h0; subst hc0
    have hus:us=[]:=List.length_eq_zero_iff.1 (by omega)
    have hvs:vs=[]:=List.length_eq_zero_iff.1 (by omega)
    subst hus; subst hvs
    have hfc:=YX (P:=P) (s:=s) (n:=0) (len:=0) (cap:=d) hR (by simp)
    refine ⟨w,?_,⟨by simp,.inl ⟨rfl,rfl,rfl⟩⟩,Fr.refl _ _,rfl⟩
    show (Builtin.append_ #[t,t] ty #[.slice none 0 0,.slice q 0 d]).run P w=_
    simp [Builtin.append_,run_underlying hu,sizeOf,typeInfo,hi,hsz,Builtin.lenOf,hfc]
  · have hfc:=YX (P:=P) (s:=s) (n:=m) (len:=m) (cap:=d) hR hm
    have hcs:(l+m)*s≤c*s:=Nat.mul_le_mul_right s hn
    rw [Nat.add_mul] at hcs
    obtain ⟨w',hst,hfr,hB',hsize⟩:=Zj (P:=P) us 0 g N (o+l*s) f w hB (by omega) h1
    refine ⟨w',?_,⟨hsum,.inr ⟨g,o,N,_,rfl,hB',hoc,hn,?_⟩⟩,hfr,hsize⟩
    · have e1:(⟨g,o,none⟩:Addr).add (l*s)=⟨g,o+l*s,none⟩:=Xi _ _ _
      show (Builtin.append_ #[t,t] ty #[.slice (some ⟨g,o,none⟩) l c,.slice q m d]).run P w=_
      simp [Builtin.append_,run_underlying hu,sizeOf,typeInfo,hi,hsz,Builtin.lenOf,hn,hfc,e1,hst]
    · intro j v hj
      unfold updN
      by_cases hjl:j<vs.length
      · rw [dif_neg (by omega)]
        rw [List.getElem?_append_left hjl] at hj
        exact hf j v hj
      · rw [List.getElem?_append_right (by omega)] at hj
        have hlt:=(List.getElem?_eq_some_iff.1 hj).1
        rw [dif_pos (by omega)]
        have e2:o+j - (o+l*s+0)=j - vs.length:=by omega
        rw [List.getElem?_eq_some_iff] at hj
        obtain ⟨_,hj⟩:=hj
        simp only [e2]
        exact hj
def Xtm (P:Program) (t:TypeId) (s:Nat):Bool:=
  match P.underlying t with
  | some (.slice e)=>(match P.info? e with | some i=>(match i.zero with | some z=>z.cells.size == s && z.cells.toList.all (·.oneCell') | none=>false) | none=>false)
  | _=>false
theorem Xtn {P:Program} {t:TypeId} {s:Nat} (h:Xtm P t s=true):∃ e i z,P.underlying t=some (.slice e)∧P.info? e=some i∧i.zero=some z∧z.cells.size=s∧∀ u∈z.cells.toList,u.oneCell'=true:=by
  unfold Xtm at h
  split at h
  · rename_i e he
    split at h
    · rename_i i hi
      split at h
      · rename_i z hz
        simp only [Bool.and_eq_true,beq_iff_eq] at h
        exact ⟨e,i,z,he,hi,hz,h.1,fun u hu=>List.all_eq_true.1 h.2 u hu⟩
      · simp at h
    · cases h
  · cases h
theorem Xlt {zs:Array Value} (h:∀ u∈zs.toList,u.oneCell'=true) (n:Nat):∀ u∈(Builtin.zeroCells zs n).toList,u.oneCell'=true:=by
  intro u hu
  unfold Builtin.zeroCells at hu
  rw [Array.toList_map,List.mem_map] at hu
  obtain ⟨i,hi,rfl⟩:=hu
  have hi':i<n*zs.size:=by simpa using hi
  have hs:0<zs.size:=Nat.pos_of_ne_zero fun h0=>by rw [h0] at hi'; simp at hi'
  have hlt:=Nat.mod_lt i hs
  apply h
  rw [getElem!_pos zs _ hlt]
  exact Array.getElem_mem_toList hlt
theorem Ef.clearN {P:Program} {t:TypeId} {s:Nat} (ht:Xtm P t s=true) {w:World} {g o N n d:Nat} {f:Nat→Value} (hB:Blk w g N f) (hn:o+n*s≤N) :
    ∃ w' zs,Ef P (Builtin.clear_ #[t] 0 #[.slice (some ⟨g,o,none⟩) n d]) w (.tuple #[]) w'∧Fr [g] w w'∧zs.length=n*s∧Blk w' g N (updN f o zs)∧w'.heap.size=w.heap.size:=by
  obtain ⟨e,i,z,hu,hi,hz,hzc,h1⟩:=Xtn ht
  cases n with
  | zero=>
    refine ⟨w,[],?_,Fr.refl _ _,by simp,hB.ext fun j _=>?_,rfl⟩
    · show (Builtin.clear_ #[t] 0 #[.slice (some ⟨g,o,none⟩) 0 d]).run P w=_
      simp [Builtin.clear_,run_underlying hu]
    · unfold updN; rw [dif_neg (by simp)]
  | succ n=>
    have hl:(Builtin.zeroCells z.cells (n+1)).toList.length=(n+1)*s:=by simp [size_zeroCells,hzc]
    obtain ⟨w',hst,hfr,hB',hsize⟩:=Zj (P:=P) (Builtin.zeroCells z.cells (n+1)).toList 0 g N o f w hB (by omega) (Xlt h1 _)
    refine ⟨w',_,?_,hfr,hl,by simpa using hB',hsize⟩
    show (Builtin.clear_ #[t] 0 #[.slice (some ⟨g,o,none⟩) (n+1) d]).run P w=_
    simp [Builtin.clear_,run_underlying hu,zeroValue,typeInfo,hi,hz,hst]
end Go.Fw
end

section
namespace Go.Fw
open Go
def Xjy (xs:List UInt8):ByteArray:=xs.foldl (fun r x=>r.push x) ByteArray.empty
theorem XkE:∀ (xs:List UInt8) (b:ByteArray),(xs.foldl (fun r x=>r.push x) b).data=b.data++xs.toArray
  | [],b=>by simp
  | x::xs,b=>by
    rw [List.foldl_cons,XkE xs (b.push x)]
    simp [ByteArray.push]
theorem XkF (xs:List UInt8):(Xjy xs).toList=xs:=by
  rw [ByteArray.toList_eq]
  unfold Xjy
  rw [XkE]
  simp
theorem XuQ (xs ys:List UInt8):((Xjy xs).toList == (Xjy ys).toList)=decide (xs=ys):=by
  rw [XkF,XkF,Bool.eq_iff_iff]; simp
def JO (P:Program) (src dst:TypeId):Bool:=
  match P.underlying src with
  | some (.slice e)=>XmL P e && (match P.underlying dst with | some .string=>true | _=>false)
  | _=>false
theorem Xto {P:Program} {src dst:TypeId} (h:JO P src dst=true):∃ e,P.underlying src=some (.slice e)∧P.underlying e=some (.int .u8)∧P.underlying dst=some .string:=by
  unfold JO at h
  split at h
  · rename_i e he
    simp only [Bool.and_eq_true] at h
    refine ⟨e,he,Xgs h.1,?_⟩
    have h2:=h.2
    split at h2
    · assumption
    · cases h2
  · cases h
theorem Ef.toStr {P:Program} {src dst:TypeId} (ht:JO P src dst=true) {w:World} {p:Option Addr} {l c:Nat} {xs:List UInt8} (hR:Row w p (xs.map fun x=>.int .u8 (x.toNat:Int))) (hl:l=xs.length) :
    Ef P (convert src dst (.slice p l c)) w (.string (Xjy xs)) w:=by
  obtain ⟨e,hs,he,hd⟩:=Xto ht
  show (convert src dst (.slice p l c)).run P w=_
  rw [run_convert_bytes_string w src dst e p l c hs he hd]
  have e1:∀ (ys:List UInt8) (b:ByteArray),(ys.map fun x=>(x.toNat:Int)).foldl (fun r n=>r.push (UInt8.ofNat n.toNat)) b=ys.foldl (fun r x=>r.push x) b:=by
    intro ys
    induction ys with
    | nil=>intro b; rfl
    | cons y ys ih=>
      intro b
      rw [List.map_cons,List.foldl_cons,List.foldl_cons,Int.toNat_natCast,UInt8.ofNat_toNat,ih]
  cases p with
  | none=>
    rcases hR with h0 | ⟨b,o,hb,_⟩
    · have:xs=[]:=by simpa using h0
      subst this; rfl
    · cases hb
  | some a=>
    have hcell:∀ j v,(xs.map fun x=>(Value.int .u8 (x.toNat:Int)))[j]?=some v→w.cell? (a.add j)=some v:=by
      rcases hR with h0 | ⟨b,o,hb,hf⟩
      · intro j v hj; rw [h0] at hj; simp at hj
      · cases hb
        intro j v hj; rw [Xi]; exact hf j v hj
    have hl2:l=(xs.map fun x=>(Value.int .u8 (x.toNat:Int))).length:=by simpa using hl
    have h1:=run_loadCells_list (P:=P) (w:=w) a (xs.map fun x=>(Value.int .u8 (x.toNat:Int))) hcell
    rw [← hl2] at h1
    rw [run_bytesToString w a l c (xs.map fun x=>(x.toNat:Int)) (by rw [h1,List.map_map]; rfl)]
    unfold Xjy
    rw [e1]
end Go.Fw
end
