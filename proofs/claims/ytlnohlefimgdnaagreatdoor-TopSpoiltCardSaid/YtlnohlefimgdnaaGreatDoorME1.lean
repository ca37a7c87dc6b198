/- A part of a proof of a given law of this program: lemmas, printed forms of its functions, contracts. It has no conditions of its own. -/
import Derived.Lib.UnsafeStr
import Derived.Laws.IdiomStrings
import Derived.Test.YtlnohlefimgdnaaGreatDoorME0

set_option maxHeartbeats 16000000
set_option linter.unusedVariables false
set_option linter.unusedSimpArgs false
section
namespace Go.Fw
open Go
theorem J4 {P:Program} {ρ:Rho} {t:TypeId} {m:Sem Value} {c u:Value} (hv:VR ρ c u) (hs:Zp P t c=true) (h:res P m=some u) {K:Value→Prop} (hk:K u):Uh P t m K:=
  Qs hv hs (K:=fun u=>Pu P m u∧K u) ⟨h,hk⟩
theorem VM {P:Program} {ρ:Rho} {t:TypeId} {m:Sem Value} {w w':World} {c u:Value} (hv:VR ρ c u) (hs:Zp P t c=true) (h:m.run P w=.ok u w') {K:VWP} (hk:K u w'):Ym P t m w K:=
  Qs hv hs (K:=fun u=>∃ w',Ef P m w u w'∧K u w') ⟨w',h,hk⟩
theorem VPs.toArr {P:Program} {s:St} {ps:Array (Nat×Operand)}:(⟨ps.toList.map fun p=>(p.1,s.ev p.2)⟩:Array (Nat×Value))=ps.map fun (i,x)=>(i,s.ev x):=by
  apply Array.toList_inj.1; rw [Array.toList_map]
theorem Xgz {a b:Bool} (h:(a || b)=true):a=true∨(a=false∧b=true):=by cases a <;> simp_all
theorem Xr2 {P:Program} {ρ:Rho} {o:Oper} {r:Tr Value} {s:St} {w:World} (hr:RR ρ r s.r) {c:Value} (h:Yo P o.op o.type r=some c) (he:Xmf P o.op=false) {K:VWP} (hk:∀ v,VR ρ c v→K v w):X5 P o s w K:=by
  obtain ⟨dst,op,ty,pos,after,guard⟩:=o
  cases op with
  | move x=>exact hk _ (Xo hr h)
  | assign x=>exact hk _ (Xo hr h)
  | pick x a b=>
    dsimp only [Yo,pv1,pv2,pv3,pv4,pv5,pv6,pv7,pv8,pv9,Ju,Jv,Jw,Jx,Jy,Jz,JA,JB,JC] at h
    try simp only [Xu,Xw,Xn,Xq] at h
    split at h
    · rename_i t ht
      have hx:=(Xo hr ht).bool_inv
      simp only [X5,hx]
      cases t
      · exact hk _ (Xo hr h)
      · exact hk _ (Xo hr h)
    · cases h
  | extract x i=>
    dsimp only [Yo,pv1,pv2,pv3,pv4,pv5,pv6,pv7,pv8,pv9,Ju,Jv,Jw,Jx,Jy,Jz,JA,JB,JC] at h
    try simp only [Xu,Xw,Xn,Xq] at h
    split at h
    · rename_i vs hvs
      obtain ⟨bs,hb,hbs⟩:=(Xo hr hvs).tuple_inv
      obtain ⟨y,hy,hv⟩:=hbs.get h
      refine JD (m:=Instr.extract (s.ev x) i) (u:=y) ?_ (hk _ hv)
      rw [hb]
      show res P (match (⟨bs⟩ : Array Value)[i]? with | some v => pure v | none => stuck "Extract: no such component" : Sem Value) = _
      have:(⟨bs⟩:Array Value)[i]?=some y:=by simpa using hy
      rw [this]; rfl
    · cases h
  | build t ps=>
    dsimp only [Yo,pv1,pv2,pv3,pv4,pv5,pv6,pv7,pv8,pv9,Ju,Jv,Jw,Jx,Jy,Jz,JA,JB,JC] at h
    try simp only [Xu,Xw,Xn,Xq] at h
    split at h
    · rename_i vs z hvs hz
      obtain ⟨hza,h⟩:=Xf h
      split at h
      · rename_i v hb
        obtain ⟨hs,h⟩:=Xf h
        cases h
        obtain ⟨u,hu,hv⟩:=XrY (XmX hr hvs) hz hza (Xr0 hz hb)
        show bif Uy P t ps then _ else _
        rcases Xgz hs with hd | ⟨hd,hsh⟩
        · rw [hd,cond_true]
          refine JD (m:=Instr.build t (ps.map fun (i,x)=>(i,s.ev x))) (u:=u) ?_ (K:=fun v=>K v w) (hk _ hv)
          rw [← VPs.toArr (P:=P)]; exact hu
        · rw [hd,cond_false]
          exact J4 hv hsh hu (hk _ hv)
      · cases h
    · cases h
  | makeFunc fn as cs=>
    cases fn with
    | func f=>
      dsimp only [Yo,pv1,pv2,pv3,pv4,pv5,pv6,pv7,pv8,pv9,Ju,Jv,Jw,Jx,Jy,Jz,JA,JB,JC] at h
      try simp only [Xu,Xw,Xn,Xq] at h
      split at h
      · rename_i xs ys hx hy
        cases h
        have h1:=JI hr hx
        have h2:=JI hr hy
        refine JD (P:=P) (m:=Instr.makeFunc (.func f) (as.map s.ev) (cs.map s.ev)) (u:=.func (.func f) ⟨as.toList.map s.ev⟩ ⟨cs.toList.map s.ev⟩) ?_ (K:=fun v=>K v w) (hk _ (.func h1.1 h1.2 h2.1 h2.2))
        have e1:(as.map s.ev:Array Value)=⟨as.toList.map s.ev⟩:=by apply Array.toList_inj.1; simp
        have e2:(cs.map s.ev:Array Value)=⟨cs.toList.map s.ev⟩:=by apply Array.toList_inj.1; simp
        rw [e1,e2]; rfl
      · cases h
    | _=>cases h
  | unOp op t x=>
    dsimp only [Yo,pv1,pv2,pv3,pv4,pv5,pv6,pv7,pv8,pv9,Ju,Jv,Jw,Jx,Jy,Jz,JA,JB,JC] at h
    try simp only [Xu,Xw,Xn,Xq] at h
    split at h
    · rename_i v hv
      obtain ⟨hg,h⟩:=Xf h
      obtain ⟨h1,h2⟩:=J3 h
      refine JD (m:=Op.unary op (s.ev x)) (u:=c) ?_ (hk _ (YY ρ h2))
      rw [XdL hr hv hg]; exact h1
    · cases h
  | nilCheck x=>
    dsimp only [Yo,pv1,pv2,pv3,pv4,pv5,pv6,pv7,pv8,pv9,Ju,Jv,Jw,Jx,Jy,Jz,JA,JB,JC] at h
    try simp only [Xu,Xw,Xn,Xq] at h
    split at h
    · rename_i a ha
      cases h
      have hv:=Xo hr ha
      show Xjq (s.ev x) fun v=>K v w
      cases e:s.ev x <;> rw [e] at hv <;> cases hv
      exact ⟨_,rfl,hk _ (.ptr ‹_›)⟩
    · rename_i f a b ha
      cases h
      have hv:=Xo hr ha
      show Xjq (s.ev x) fun v=>K v w
      cases e:s.ev x <;> rw [e] at hv <;> cases hv
      exact hk _ (.func ‹_› ‹_› ‹_› ‹_›)
    · rename_i f a b ha
      cases h
      have hv:=Xo hr ha
      show Xjq (s.ev x) fun v=>K v w
      cases e:s.ev x <;> rw [e] at hv <;> cases hv
      exact hk _ (.yield ‹_›)
    · cases h
  | fieldAddr t x k=>
    dsimp only [Yo,pv1,pv2,pv3,pv4,pv5,pv6,pv7,pv8,pv9,Ju,Jv,Jw,Jx,Jy,Jz,JA,JB,JC] at h
    try simp only [Xu,Xw,Xn,Xq] at h
    split at h
    · rename_i i o f ha hf
      cases h
      obtain ⟨m,hm,hv⟩:=(Xo hr ha).ptr_inv
      refine JD (m:=Instr.fieldAt t (s.ev x) k) (u:=.pointer (some ⟨m.b,m.base+(o+f),none⟩)) ?_ (hk _ (.ptr hm))
      rw [hv,XqE hf,Xi,Nat.add_assoc]
    · cases h
  | indexAddr t x i=>
    dsimp only [Yo,pv1,pv2,pv3,pv4,pv5,pv6,pv7,pv8,pv9,Ju,Jv,Jw,Jx,Jy,Jz,JA,JB,JC] at h
    try simp only [Xu,Xw,Xn,Xq] at h
    split at h
    · rename_i vx k n hx hi
      have hi':=(Xo hr hi).int_inv
      split at h
      · rename_i m e hu
        split at h
        · rename_i b o sz hs
          obtain ⟨hn,h⟩:=Xf h
          cases h
          obtain ⟨g,hg,hv⟩:=(Xo hr hx).ptr_inv
          refine ⟨⟨g.b,g.base+(o+n*sz),none⟩,?_,hk _ (.ptr hg)⟩
          rw [hv,hi',← Nat.add_assoc]
          exact IxA.arr hu hs (Int.natCast_nonneg n) (by have:n+1≤m:=Nat.le_of_ble_eq_true hn; show (n:Int)<m; omega)
        · cases h
      · rename_i e hu
        split at h
        · rename_i b o l cp sz hs
          obtain ⟨hn,h⟩:=Xf h
          cases h
          have hn':n+1≤l:=Nat.le_of_ble_eq_true hn
          have hv:=Xo hr hx
          cases e0:s.ev x <;> rw [e0] at hv <;> cases hv
          · rename_i g hg h0
            refine ⟨⟨g.b,g.base+(o+n*sz),none⟩,?_,hk _ (.ptr hg)⟩
            rw [e0,hi',← Nat.add_assoc]
            exact IxA.slice hu hs (Int.natCast_nonneg n) (by show (n:Int)<l; omega)
          · rename_i g _ _ _ _ _
            refine ⟨⟨g.b,g.base+(o+n*sz),none⟩,?_,hk _ (.ptr (by assumption))⟩
            rw [e0,hi',← Nat.add_assoc]
            exact IxA.slice hu hs (Int.natCast_nonneg n) (by show (n:Int)<l; omega)
          · omega
        · cases h
      · cases h
    · cases h
  | index t x i=>
    dsimp only [Yo,pv1,pv2,pv3,pv4,pv5,pv6,pv7,pv8,pv9,Ju,Jv,Jw,Jx,Jy,Jz,JA,JB,JC] at h
    try simp only [Xu,Xw,Xn,Xq] at h
    split at h
    · rename_i a b ha hb
      obtain ⟨hg,h⟩:=Xf h
      rw [Bool.and_eq_true] at hg
      split at h
      · rename_i v hv
        obtain ⟨hs,h⟩:=Xf h
        cases h
        obtain ⟨h1,h2⟩:=J3 hv
        refine J4 (YY ρ h2) hs ?_ (hk _ (YY ρ h2))
        rw [XdL hr ha hg.1,XdL hr hb hg.2]; exact h1
      · cases h
    · cases h
  | slice t x lo hi mx=>
    dsimp only [Yo,pv1,pv2,pv3,pv4,pv5,pv6,pv7,pv8,pv9,Ju,Jv,Jw,Jx,Jy,Jz,JA,JB,JC] at h
    try simp only [Xu,Xw,Xn,Xq] at h
    split at h
    · cases h
    · rename_i a ha
      split at h
      · rename_i l hh m h1 h2 h3
        split at h
        · rename_i v hv
          obtain ⟨hs,h⟩:=Xf h
          cases h
          obtain ⟨u,hu,hvr⟩:=XuS hv (Xo hr ha) (XmY hr h1) (XmY hr h2) (XmY hr h3)
          exact J4 hvr hs hu (hk _ hvr)
        · cases h
      · cases h
  | sliceToArrayPointer t x=>
    dsimp only [Yo,pv1,pv2,pv3,pv4,pv5,pv6,pv7,pv8,pv9,Ju,Jv,Jw,Jx,Jy,Jz,JA,JB,JC] at h
    try simp only [Xu,Xw,Xn,Xq] at h
    split at h
    · rename_i n e i b l cp hu ha
      obtain ⟨hn,h⟩:=Xf h
      cases h
      rw [Bool.and_eq_true] at hn
      have hl:=Nat.le_of_ble_eq_true hn.1
      have hcp:cp≠XJ:=by have:=hn.2; rw [Bool.not_eq_true'] at this; exact Zk.1 this
      have key:∀ (q:Option Addr) (k:Nat),res P (Instr.arrayAt t (.slice q l k))=some (.pointer q):=fun q k=>by
        unfold Instr.arrayAt
        refine (Xh (Xk hu)).trans ?_
        show res P (if l<n then _ else _:Sem Value)=_
        rw [if_neg (by omega)]; rfl
      have hv:=Xo hr ha
      cases e0:s.ev x <;> rw [e0] at hv <;> cases hv
      · rename_i g hg h0
        exact ⟨_,by show res P (Instr.arrayAt t (s.ev x))=_; rw [e0]; exact key _ _,hk _ (.ptr hg)⟩
      · exact ⟨_,by show res P (Instr.arrayAt t (s.ev x))=_; rw [e0]; exact key _ _,hk _ (.ptr (by assumption))⟩
      · omega
    · cases h
  | field t x i=>
    dsimp only [Yo,pv1,pv2,pv3,pv4,pv5,pv6,pv7,pv8,pv9,Ju,Jv,Jw,Jx,Jy,Jz,JA,JB,JC] at h
    try simp only [Xu,Xw,Xn,Xq] at h
    split at h
    · rename_i v hv
      split at h
      · rename_i u hu
        obtain ⟨hs,h⟩:=Xf h
        cases h
        obtain ⟨u',hu',hvr⟩:=XrZ (Xo hr hv) (Xr1 hu)
        show bif Qj P t then _ else _
        rcases Xgz hs with hd | ⟨hd,hsh⟩
        · rw [hd,cond_true]; exact JD (m:=Instr.field t (s.ev x) i) hu' (hk _ hvr)
        · rw [hd,cond_false]; exact J4 hvr hsh hu' (hk _ hvr)
      · cases h
    · cases h
  | binOp op t x y yt=>
    dsimp only [Yo,pv1,pv2,pv3,pv4,pv5,pv6,pv7,pv8,pv9,Ju,Jv,Jw,Jx,Jy,Jz,JA,JB,JC] at h
    try simp only [Xu,Xw,Xn,Xq] at h
    split at h
    · rename_i a b ha hb
      split at h
      · rename_i v hv
        obtain ⟨hs,h⟩:=Xf h
        cases h
        obtain ⟨h1,h2⟩:=Xtu hv (Xo hr ha) (Xo hr hb)
        have hvr:=YY ρ h2
        show bif U2 P op t y then _ else _
        rcases Xgz hs with hd | ⟨hd,hsh⟩
        · rw [hd,cond_true]; exact JD (m:=do eqGuard op t x y (s.ev x) (s.ev y); binOp op t (s.ev x) (s.ev y)) h1 (hk _ hvr)
        · rw [hd,cond_false]
          show bif XO P t then _ else _
          cases XO P t
          · exact VM hvr hsh (Xx h1 w) (hk _ hvr)
          · exact J4 hvr hsh h1 (hk _ hvr)
      · cases h
    · cases h
  | convert src dst' x=>
    dsimp only [Yo,pv1,pv2,pv3,pv4,pv5,pv6,pv7,pv8,pv9,Ju,Jv,Jw,Jx,Jy,Jz,JA,JB,JC] at h
    try simp only [Xu,Xw,Xn,Xq] at h
    split at h
    · rename_i v hv
      obtain ⟨hg,h⟩:=Xf h
      split at h
      · rename_i k1 k2 hu1 hu2
        obtain ⟨h1,h2⟩:=J3 h
        show bif XO P src && XO P dst' then _ else _
        have e1:XO P src=true:=by unfold XO; rw [hu1]
        have e2:XO P dst'=true:=by unfold XO; rw [hu2]
        rw [e1,e2]
        refine JD (m:=convert src dst' (s.ev x)) (u:=c) ?_ (hk _ (YY ρ h2))
        rw [XdL hr hv hg]; exact h1
      · cases h
    · cases h
  | call cl=>
    obtain ⟨callee,as,ts⟩:=cl
    cases callee with
    | builtin b=>
      cases b with
      | len=>
        dsimp only [Yo,pv1,pv2,pv3,pv4,pv5,pv6,pv7,pv8,pv9,Ju,Jv,Jw,Jx,Jy,Jz,JA,JB,JC] at h
        try simp only [Xu,Xw,Xn,Xq] at h
        split at h
        · rename_i x t ha ht
          have hgt:ts.getD 0 0=t:=by rw [Array.getD_eq_getD_getElem?,ht]; rfl
          obtain ⟨y,ys,e1,hy,hys⟩:=(JI hr ha).cons_inv
          have e2:=hys.nil_inv
          subst e2
          have e3:(as.map s.ev:Array Value)=⟨[y]⟩:=by apply Array.toList_inj.1; simpa using e1
          have fin:∀ {n:Nat},c=.int .i64 n→V9 P t=false→res P (Builtin.len_ ts ty ⟨[y]⟩)=some (.int .i64 n)→X5 P ⟨dst,.call ⟨.builtin .len,as,ts⟩,ty,pos,after,guard⟩ s w K:=by
            rintro n rfl hm hl
            show bif V9 P (ts.getD 0 0) then _ else _
            rw [hgt,hm,cond_false]
            refine JD (P:=P) (m:=Builtin.len_ ts ty (as.map s.ev)) (u:=.int .i64 n) ?_ (K:=fun v=>K v w) (hk _ (.int _ _))
            rw [e3]; exact hl
          split at h
          · rename_i e q n cp hu
            cases h
            refine fin rfl (by unfold V9; rw [hu]) ?_
            unfold Builtin.len_
            rw [ht]
            cases hy <;> exact (Xh (Xk hu)).trans rfl
          · rename_i b hu
            cases h
            refine fin rfl (by unfold V9; rw [hu]) ?_
            unfold Builtin.len_
            rw [ht]
            cases hy
            exact (Xh (Xk hu)).trans rfl
          · rename_i n e hu
            cases h
            refine fin rfl (by unfold V9; rw [hu]) ?_
            unfold Builtin.len_
            rw [ht]
            exact (Xh (Xk hu)).trans rfl
          · cases h
        · cases h
      | cap=>
        dsimp only [Yo,pv1,pv2,pv3,pv4,pv5,pv6,pv7,pv8,pv9,Ju,Jv,Jw,Jx,Jy,Jz,JA,JB,JC] at h
        try simp only [Xu,Xw,Xn,Xq] at h
        split at h
        · rename_i x t ha ht
          obtain ⟨y,ys,e1,hy,hys⟩:=(JI hr ha).cons_inv
          have e2:=hys.nil_inv
          subst e2
          split at h
          · rename_i e q n cp hu
            obtain ⟨hs,h⟩:=Xf h
            cases h
            rw [Bool.and_eq_true] at hs
            have hc:=ZM hs.1
            refine J4 (ρ:=ρ) (m:=Builtin.cap_ ts ty ⟨as.toList.map s.ev⟩) (.int _ _) hs.2 ?_ (hk _ (.int _ _))
            rw [e1]
            unfold Builtin.cap_
            rw [ht]
            cases hy
            · exact (Xh (Xk hu)).trans rfl
            · exact (Xh (Xk hu)).trans rfl
            · omega
            · omega
          · cases h
        · cases h
      | min=>
        dsimp only [Yo,pv1,pv2,pv3,pv4,pv5,pv6,pv7,pv8,pv9,Ju,Jv,Jw,Jx,Jy,Jz,JA,JB,JC] at h
        try simp only [Xu,Xw,Xn,Xq] at h
        split at h
        · rename_i l ha
          obtain ⟨hg,h⟩:=Xf h
          split at h
          · rename_i v hv
            obtain ⟨hs,h⟩:=Xf h
            cases h
            obtain ⟨h1,h2⟩:=J3 hv
            refine J4 (m:=Builtin.min_ ts ty ⟨as.toList.map s.ev⟩) (YY ρ h2) hs ?_ (hk _ (YY ρ h2))
            rw [XmW hg (JI hr ha)]; exact h1
          · cases h
        · cases h
      | max=>
        dsimp only [Yo,pv1,pv2,pv3,pv4,pv5,pv6,pv7,pv8,pv9,Ju,Jv,Jw,Jx,Jy,Jz,JA,JB,JC] at h
        try simp only [Xu,Xw,Xn,Xq] at h
        split at h
        · rename_i l ha
          obtain ⟨hg,h⟩:=Xf h
          split at h
          · rename_i v hv
            obtain ⟨hs,h⟩:=Xf h
            cases h
            obtain ⟨h1,h2⟩:=J3 hv
            refine J4 (m:=Builtin.max_ ts ty ⟨as.toList.map s.ev⟩) (YY ρ h2) hs ?_ (hk _ (YY ρ h2))
            rw [XmW hg (JI hr ha)]; exact h1
          · cases h
        · cases h
      | _=>cases h
    | _=>cases h
  | _=>cases h
end Go.Fw
end

section
namespace Go.Fw
open Go
theorem Zm {ρ:Rho} {H:Hp} {w:World} (hR:Rel ρ H.t w) {i o n:Nat} {l:List Value} (h:XX H i o n=some l) :
    ∃ m vs,ρ i=some m∧VRs ρ l vs∧l.length=n∧∀ (j:Nat) (v:Value),vs[j]?=some v→w.cell? ⟨m.b,m.base+o+j,none⟩=some v:=by
  unfold XX at h
  split at h
  · rename_i wr cs e zb hg
    obtain ⟨h1,h2⟩:=U4 h
    obtain ⟨m,O,hm,hO,c,z,rfl,⟨hsz,hb0⟩,hz,hc⟩:=hR.live i _ hg rfl
    have hat:∀ (j:Nat) (x:Value),l[j]?=some x→∃ y,w.cell? ⟨m.b,m.base+o+j,none⟩=some y∧VR ρ x y:=by
      intro j x hx
      rw [h1,List.getElem?_take] at hx
      by_cases hj:j<n
      · rw [if_pos hj,List.getElem?_drop] at hx
        obtain ⟨y,hy,hv⟩:=hc (o+j) x hx
        refine ⟨y,?_,hv⟩
        unfold World.cell?
        rw [hO]
        show (if (none:Option Nat).isSome=true then none else c[m.base+o+j]?)=some y
        rw [if_neg (by simp),Nat.add_assoc]
        exact hy
      · rw [if_neg hj] at hx; cases hx
    have:∃ vs,VRs ρ l vs∧∀ (j:Nat) (v:Value),vs[j]?=some v→w.cell? ⟨m.b,m.base+o+j,none⟩=some v:=by
      clear h h1 h2
      generalize m.base+o=k at hat
      induction l generalizing k with
      | nil=>exact ⟨[],.nil ρ,fun j v hv=>by simp at hv⟩
      | cons x l ih=>
        obtain ⟨y,hy,hv⟩:=hat 0 x rfl
        obtain ⟨vs,h3,h4⟩:=ih (k+1) (fun j x hx=>by
          obtain ⟨y,h5,h6⟩:=hat (j+1) x hx
          exact ⟨y,by rw [show k+1+j=k+(j+1) from by omega]; exact h5,h6⟩)
        refine ⟨y::vs,.cons hv h3,fun j v hj=>?_⟩
        cases j with
        | zero=>cases hj; exact hy
        | succ j=>rw [show k+(j+1)=k+1+j from by omega]; exact h4 j v hj
    obtain ⟨vs,h3,h4⟩:=this
    exact ⟨m,vs,hm,h3,h2,h4⟩
  · cases h
theorem XkH {P:Program} {ρ:Rho} {H:Hp} {w:World} (hR:Rel ρ H.t w) {t:TypeId} {x vx c:Value} (h:Qr P H t x=some c) (hx:VR ρ x vx):∃ v,Ld P t vx w v∧VR ρ c v:=by
  unfold Qr at h
  simp only [Xu,Xw,Xn,Xq] at h
  split at h
  · rename_i i o
    obtain ⟨m,hm,rfl⟩:=hx.ptr_inv
    split at h
    · rename_i n ha hs
      split at h
      · rename_i l hl
        cases h
        obtain ⟨m',vs,hm',hv,hn,hc⟩:=Zm hR hl
        rw [hm] at hm'; cases hm'
        exact ⟨.agg ⟨vs⟩,Ld.agg ha hs (by rw [← hv.1,hn]) (fun j v hj=>by rw [Xi]; exact hc j v hj),hv.agg⟩
      · cases h
    · rename_i ha
      split at h
      · rename_i v hl
        cases h
        obtain ⟨m',vs,hm',hv,hn,hc⟩:=Zm hR hl
        rw [hm] at hm'; cases hm'
        obtain ⟨y,ys,rfl,hy,_⟩:=hv.cons_inv
        exact ⟨y,Ld.cell ha (hc 0 y rfl),hy⟩
      · cases h
    · cases h
  · cases h
end Go.Fw
end

section
namespace Go.Fw
open Go
theorem XqG {w:World} {b o:Nat} {c:Array Value} {e:TypeId} (h:w.heap[b]?=some (.cells c e)) (v:Value):(w.setCell ⟨b,o,none⟩ v).heap[b]?=some (.cells (c.setIfInBounds o v) e):=by
  simp only [World.setCell,Array.getElem?_modify,h,if_pos,Option.map_some]
  rfl
theorem Xhx {P:Program}:∀ (vs:List Value) (i b o:Nat) (c:Array Value) (e:TypeId) (w:World),w.heap[b]?=some (.cells c e)→o+i+vs.length≤c.size→(∀ v∈vs,v.oneCell'=true)→
    ∃ w',(storeCells ⟨b,o,none⟩ vs i).run P w=.ok () w'∧Fr [b] w w'∧∃ c',w'.heap[b]?=some (.cells c' e)∧c'.size=c.size∧
      ∀ j,c'[j]?=if o+i≤j∧j<o+i+vs.length then vs[j - (o+i)]? else c[j]?:=by
  intro vs
  induction vs with
  | nil=>
    intro i b o c e w hb hl hv
    exact ⟨w,rfl,Fr.refl _ _,c,hb,rfl,fun j=>by rw [if_neg (by simp)]⟩
  | cons v vs ih=>
    intro i b o c e w hb hl hv
    simp only [List.length_cons] at hl
    have h1:=XqG (o:=o+i) hb v
    obtain ⟨w',h2,h3,c',h4,h5,h6⟩:=ih (i+1) b o (c.setIfInBounds (o+i) v) e (w.setCell ⟨b,o+i,none⟩ v) h1 (by simp; omega) (fun u hu=>hv u (by simp [hu]))
    refine ⟨w',?_,(Fr.setCell w ⟨b,o+i,none⟩ v).trans h3 (by simp),c',h4,by simpa using h5,fun j=>?_⟩
    · have hcell : w.cell? ⟨b, o + i, none⟩ = some c[o + i] := by
        unfold World.cell?
        rw [hb]
        show (if (none:Option Nat).isSome=true then none else c[o+i]?)=_
        rw [if_neg (by simp),Array.getElem?_eq_getElem (by omega)]
      have hfz:w.frozen? ⟨b,o+i,none⟩=false:=by
        unfold World.frozen?
        rw [hb]
        simp
      unfold storeCells
      rw [Sem.run_bind,Xi,run_store _ _ _ _ _ (hv v (by simp)),hcell]
      show (if w.frozen? ⟨b,o+i,none⟩=true then _ else _:Result Unit).andThen _=_
      rw [hfz]
      exact h2
    · rw [h6]
      by_cases ha:o+(i+1)≤j∧j<o+(i+1)+vs.length
      · rw [if_pos ha,if_pos (by simp; omega)]
        rw [show j - (o+i)=(j - (o+(i+1)))+1 from by omega,List.getElem?_cons_succ]
      · rw [if_neg ha]
        by_cases hj:j=o+i
        · subst hj
          rw [if_pos (by simp),Nat.sub_self]
          simp [show o+i<c.size from by omega]
        · rw [if_neg (by simp only [List.length_cons]; omega),Array.getElem?_setIfInBounds_ne (by omega)]
end Go.Fw
end

section
namespace Go.Fw
open Go
theorem VR.one {ρ:Rho} {c v:Value} (h:VR ρ c v) (k:c.oneCell'=true):v.oneCell'=true:=by cases h <;> first | rfl | cases k
theorem VRs.one {ρ:Rho}:∀ {cs vs:List Value},VRs ρ cs vs→cs.all Value.oneCell'=true→∀ v∈vs,v.oneCell'=true
  | [],vs,h,_=>by rw [h.nil_inv]; simp
  | c::cs,vs,h,k=>by
    obtain ⟨v,vs',rfl,h1,h2⟩:=h.cons_inv
    rw [List.all_cons,Bool.and_eq_true] at k
    intro u hu
    rcases List.mem_cons.1 hu with rfl | hu
    · exact h1.one k.1
    · exact VRs.one h2 k.2 u hu
theorem Xag {H H':Hp} {o:Ob} {k:Nat} (h:H.new o=some (k,H')):H.t.get k=none∧XS k=true∧H'.t=Hp.put H.t k o:=by
  unfold Hp.new at h
  split at h
  · rename_i hg
    obtain ⟨hk,h⟩:=Xf h
    cases h
    exact ⟨hg,hk,rfl⟩
  · cases h
theorem UA {ρ:Rho} {H H':Hp} {w w':World} {k:Nat} {cs vs:List Value} {e:TypeId} {zb:Bool} (h:Wc H cs e zb=some (k,H')) (hR:Rel ρ H.t w) (hv:VRs ρ cs vs) (hf:Fr [] w w') {c:Array Value}
    (hO:w'.heap[w.heap.size]?=some (.cells c e)) (hc:∀ (j:Nat) (v:Value),vs[j]?=some v→c[j]?=some v) (op:Nat) :
    ∃ ρ',Ext ρ H.t w ρ' H'.t w'∧Rel ρ' H'.t w'∧ρ' k=some ⟨w.heap.size,0,c.size,op⟩:=by
  obtain ⟨_,h⟩:=Xf h
  obtain ⟨h1,h2,h3⟩:=Xag h
  have hor:OR ρ ⟨w.heap.size,0,c.size,op⟩ (.cells true cs e zb) (.cells c e):=
    ⟨c,(0,0),rfl,⟨rfl,fun _=>rfl⟩,fun _=>rfl,fun j x hx=>by
      obtain ⟨y,hy,hvr⟩:=hv.get hx
      exact ⟨y,by rw [Nat.zero_add]; exact hc j y hy,hvr⟩⟩
  obtain ⟨hR',hE⟩:=hR.new (m:=⟨w.heap.size,0,c.size,op⟩) h1 h2 hf (Nat.le_refl _) hO hor
  exact ⟨_,by rw [h3]; exact hE,by rw [h3]; exact hR',Rho.put_same ..⟩
theorem UB {P:Program} {ρ:Rho} {H H':Hp} {w:World} {i o:Nat} {cs vs:List Value} (h:Zl H i o cs=some H') (hR:Rel ρ H.t w) (hv:VRs ρ cs vs) {m:Img} (hm:ρ i=some m) :
    ∃ w',(storeCells ⟨m.b,m.base+o,none⟩ vs).run P w=.ok () w'∧Ext ρ H.t w ρ H'.t w'∧Rel ρ H'.t w':=by
  unfold Zl at h
  split at h
  · rename_i ds e zb hg
    obtain ⟨hb,h⟩:=Xf h
    rw [Bool.and_eq_true,Bool.and_eq_true] at hb
    split at h
    · rename_i ds' hs
      cases h
      obtain ⟨m',O,hm',hO,c,z,rfl,⟨hsz,hb0⟩,hz,hc⟩:=hR.live i _ hg rfl
      rw [hm] at hm'; cases hm'
      obtain rfl:=hz rfl
      have hle:o+cs.length≤ds.length:=Nat.le_of_ble_eq_true hb.1.1
      obtain ⟨h1,h2⟩:=XbY hs hle
      obtain ⟨w', h3, h4, c', h5, h6, h7⟩ : ∃ w', (storeCells ⟨m.b, m.base + o, none⟩ vs).run P w = .ok () w' ∧ Fr [m.b] w w' ∧ ∃ c', w'.heap[m.b]? = some (.cells c' e) ∧ c'.size = c.size ∧
          ∀ j,c'[j]?=if m.base+o+0≤j∧j<m.base+o+0+vs.length then vs[j - (m.base+o+0)]? else c[j]?:=by
        by_cases h0:vs=[]
        · subst h0
          exact ⟨w,rfl,Fr.refl _ _,c,hO,rfl,fun j=>by rw [if_neg (by simp)]⟩
        · have h0':cs.length≠0:=by rw [hv.1]; exact fun e=>h0 (List.length_eq_zero_iff.1 e)
          have hx:=List.getElem?_eq_getElem (l:=ds) (i:=o+cs.length - 1) (by omega)
          obtain ⟨y,hy,_⟩:=hc _ _ hx
          have:=(Array.getElem?_eq_some_iff.1 hy).1
          have hl:=hv.1
          exact Xhx (P:=P) vs 0 m.b (m.base+o) c e w hO (by omega) (hv.one hb.2)
      have hor:OR ρ m (.cells true ds' e zb) (.cells c' e):=⟨c',(0,0),rfl,⟨by rw [h6,hsz],hb0⟩,fun _=>rfl,fun j x hx=>by
        rw [h2] at hx
        rw [h7]
        by_cases ha:o≤j∧j<o+cs.length
        · rw [if_pos ha] at hx
          rw [if_pos (by rw [← hv.1]; omega)]
          obtain ⟨y,hy,hvr⟩:=hv.get hx
          exact ⟨y,by rw [show m.base+j - (m.base+o+0)=j - o from by omega]; exact hy,hvr⟩
        · rw [if_neg ha] at hx
          rw [if_neg (by rw [← hv.1]; omega)]
          exact hc j x hx⟩
      obtain ⟨hR',hE⟩:=hR.turn hg rfl hm hb.1.2 h4 h5 hor
      exact ⟨w',h3,hE,hR'⟩
    · cases h
  · cases h
theorem XqH {P:Program} {ρ:Rho} {H H':Hp} {w:World} (hR:Rel ρ H.t w) {t:TypeId} {x vx v vv:Value} (h:XjA P H t x v=some H') (hx:VR ρ x vx) (hv:VR ρ v vv) :
    ∃ w',Sto P t vx vv w w'∧Ext ρ H.t w ρ H'.t w'∧Rel ρ H'.t w':=by
  unfold XjA at h
  simp only [Xu,Xw,Xn,Xq] at h
  split at h
  · rename_i i o n hs
    obtain ⟨hn,h⟩:=Xf h
    have hn:=beq_iff.1 hn
    obtain ⟨m,hm,rfl⟩:=hx.ptr_inv
    have hcs:=VR.cells hv
    obtain ⟨w',h1,h2,h3⟩:=UB (P:=P) h hR hcs hm
    refine ⟨w',?_,h2,h3⟩
    show (storeVar t ⟨m.b,m.base+o,none⟩ vv).run P w=_
    unfold storeVar
    rw [Sem.run_bind,Xx (show res P (sizeOf t)=some n from hs)]
    have hsz:vv.cells.size=n:=by rw [← hn]; exact hcs.1.symm
    simp only [Result.andThen,hsz,ne_eq,not_true_eq_false,if_false]
    exact h1
  · cases h
end Go.Fw
end

section
namespace Go.Fw
open Go
def Kok (ρ:Rho) (t:HT) (w:World) (c:Value) (t':HT) (K:VWP):Prop:=∀ ρ' w' v,Ext ρ t w ρ' t' w'→Rel ρ' t' w'→VR ρ' c v→K v w'
theorem XqI {P:Program} {ρ:Rho} {H H':Hp} {w:World} {k:Nat} {z:Value} {t:TypeId} (hz:Uj P t=some z) (hza:z.cells.toList.all JP=true) (h:ZN H z.cells.toList t=some (k,H')) (hR:Rel ρ H.t w)
    {K:VWP} (hk:Kok ρ H.t w (.pointer (some ⟨k,0,none⟩)) H'.t K):XrL P t w K:=by
  refine ⟨z,hz,?_⟩
  obtain ⟨ρ',h1,h2,h3⟩:=UA (w':=w.alloc (.cells z.cells t)) (c:=z.cells) h hR (Uk (ρ:=ρ) hza) (Fr.alloc _ _) (by show (w.heap.push _)[w.heap.size]?=_; simp) (fun j v hv=>by simpa using hv) 0
  have:=hk ρ' _ _ h1 h2 (.ptr h3)
  simpa using this
theorem Xtv {ρ:Rho} {H H':Hp} {w:World} {k:Nat} {c v:Value} {t:TypeId} (hv:VR ρ c v) (h:ZN H c.cells.toList t=some (k,H')) (hR:Rel ρ H.t w)
    {K:VWP} (hk:Kok ρ H.t w (.pointer (some ⟨k,0,none⟩)) H'.t K):K (.pointer (some ⟨w.heap.size,0,none⟩)) (w.alloc (.cells v.cells t)):=by
  obtain ⟨ρ',h1,h2,h3⟩:=UA (w':=w.alloc (.cells v.cells t)) (c:=v.cells) h hR (VR.cells hv) (Fr.alloc _ _) (by show (w.heap.push _)[w.heap.size]?=_; simp) (fun j u hu=>by simpa using hu) 0
  have:=hk ρ' _ _ h1 h2 (.ptr h3)
  simpa using this
end Go.Fw
end

section
namespace Go.Fw
open Go
theorem Xb0 {P:Program} {e:TypeId} {i:TypeInfo} {z:Value} (hi:P.info? e=some i) (hz:i.zero=some z):Uj P e=some z:=by
  unfold Uj zeroValue typeInfo
  show res P (((match P.info? e with | some i => pure i | none => stuck "no such type" : Sem TypeInfo)).bind fun i => (match i.zero with | some v => pure v | none => unsupported (.resourceLimit "a value of more than 2^22 cells"))) = _
  rw [hi]
  show res P (match i.zero with | some v => pure v | none => unsupported (.resourceLimit "a value of more than 2^22 cells") : Sem Value) = _
  rw [hz]; rfl
def Xm0 (P:Program) (s:Nat) (z:Value) (tx:TypeId) (x:Value) (n:Nat) (new:List Value) (w:World):Prop:=
  (∃ k kk,P.underlying tx=some (.int k)∧x=.int kk (n:Int)∧new=(Builtin.zeroCells z.cells n).toList) ∨
  (((∃ e,P.underlying tx=some (.slice e))∨P.underlying tx=some .string)∧Xgv x=some n∧(Builtin.firstCells s n x).run P w=.ok new.toArray w∧(Builtin.firstCells s n x).run P w.drew=.ok new.toArray w.drew)
theorem XdN {x:Value} {n:Nat} (h:Xgv x=some n):Builtin.lenOf x=pure n:=by
  cases x <;> first | (cases h; rfl) | cases h
def Xr3 (base:Option Addr) (k:Nat) (new:List Value):Sem Unit:=match base with | some a=>storeCells (a.add k) new | none=>pure ()
section
variable {P:Program} {t tx ty e:TypeId} {s:Nat} {z:Value} {w:World} {base:Option Addr} {l c n:Nat} {x:Value} {new:List Value} {i:TypeInfo}
theorem Xm1 (hlen:l+n≤1000000) (hby:i.bytes≤4096):¬ (281474976710656<(n:Int)*(i.bytes:Int)):=by
  have hbb:(l+n)*i.bytes≤140737488355328:=Nat.le_trans (Nat.mul_le_mul hlen hby) (by decide)
  have h1:n*i.bytes≤(l+n)*i.bytes:=Nat.mul_le_mul_right _ (by omega)
  have:((n*i.bytes:Nat):Int)≤140737488355328:=by omega
  rw [Int.natCast_mul] at this; omega
theorem J5 (hu:P.underlying t=some (.slice e)) (hi:P.info? e=some i) (hz:i.zero=some z) (hby:i.bytes≤4096) (hs0:i.size≠0) (hlen:l+n≤1000000) (hx:Xm0 P i.size z tx x n new w) (hn:l+n≤c) {w':World}
    (hst:(Xr3 base (l*i.size) new).run P w=.ok () w'):(Builtin.append_ #[t,tx] ty #[.slice base l c,x]).run P w=.ok (.slice base (l+n) c) w':=by
  rcases hx with ⟨k,kk,hk,rfl,rfl⟩ | ⟨hk,hl,hf,hf2⟩
  · have hw:IntKind.i64.wrap (n:Int)=(n:Int):=by rw [IntKind.wrap_i64]; omega
    have hneg:¬ ((n:Int)<0):=by omega
    have hbi:=Xm1 hlen hby
    have ha:Sem.run P (asIntOf (.int kk (n:Int))) w=.ok (kk,(n:Int)) w:=rfl
    by_cases hn0:n=0
    · subst hn0
      have e0:(Builtin.zeroCells z.cells 0).toList=[]:=by simp [Builtin.zeroCells]
      rw [e0] at hst
      have hw0:w'=w:=by
        cases base with
        | none=>cases hst; rfl
        | some a=>cases hst; rfl
      subst hw0
      have hw:IntKind.i64.wrap 0=0:=hw
      have hl:l≤c:=hn
      have ha:Sem.run P (asIntOf (.int kk 0)) w'=.ok (kk,0) w':=rfl
      cases base <;> simp [Builtin.append_,run_underlying hu,run_underlying hk,sizeOf,typeInfo,hi,hw,asInt,ha,hl,storeCells]
    · have h0:n*i.size≠0:=Nat.mul_ne_zero hn0 hs0
      cases base with
      | none=>cases hst; simp [Builtin.append_,run_underlying hu,run_underlying hk,sizeOf,typeInfo,zeroValue,hi,hz,hw,hneg,hbi,asInt,ha,hn]
      | some a=>
        have hst:(storeCells (a.add (l*i.size)) (Builtin.zeroCells z.cells n).toList).run P w=.ok () w':=hst
        simp [Builtin.append_,run_underlying hu,run_underlying hk,sizeOf,typeInfo,zeroValue,hi,hz,hw,hneg,hbi,asInt,ha,hn,hst]
        exact fun h=>absurd h h0
  · have hl:=XdN hl
    rcases hk with ⟨e',hk⟩ | hk
    · cases base with
      | none=>cases hst; simp [Builtin.append_,run_underlying hu,run_underlying hk,sizeOf,typeInfo,hi,hl,hn,hf]
      | some a=>
        have hst:(storeCells (a.add (l*i.size)) new).run P w=.ok () w':=hst
        simp [Builtin.append_,run_underlying hu,run_underlying hk,sizeOf,typeInfo,hi,hl,hn,hf,hst]
    · cases base with
      | none=>cases hst; simp [Builtin.append_,run_underlying hu,run_underlying hk,sizeOf,typeInfo,hi,hl,hn,hf]
      | some a=>
        have hst:(storeCells (a.add (l*i.size)) new).run P w=.ok () w':=hst
        simp [Builtin.append_,run_underlying hu,run_underlying hk,sizeOf,typeInfo,hi,hl,hn,hf,hst]
theorem WA (hu:P.underlying t=some (.slice e)) (hi:P.info? e=some i) (hz:i.zero=some z) (hzc:z.cells.size=i.size) (hby:i.bytes≤4096) (hs0:i.size≠0) (hlen:l+n≤1000000) (hx:Xm0 P i.size z tx x n new w) (hn:¬ l+n≤c) (hlc:l≤c)
    {old:List Value} (ho:(Builtin.firstCells i.size l (.slice base l c)).run P w.drew=.ok old.toArray w.drew):∃ C rest,l+n≤C∧rest.length=(C - (l+n))*i.size∧
      (Builtin.append_ #[t,tx] ty #[.slice base l c,x]).run P w=.ok (.slice (some ⟨w.heap.size,0,none⟩) (l+n) C) (w.drew.alloc (.cells (old++new++rest).toArray e)):=by
  have h63':¬ (9223372036854775807<((l:Int)+(n:Int))):=by omega
  have hbb:(l+n)*i.bytes≤140737488355328:=Nat.le_trans (Nat.mul_le_mul hlen hby) (by decide)
  have h48':¬ (281474976710656<Builtin.nextslicecap (l+n) c*i.bytes):=by
    have:=growslice_fits (need:=l+n) (old:=c) (by omega) hbb; omega
  refine ⟨grownCap w (l+n) c e,(Builtin.zeroCells z.cells (grownCap w (l+n) c e - (l+n))).toList,grownCap_ge w (l+n) c e,by simp [size_zeroCells,hzc],?_⟩
  rcases hx with ⟨k,kk,hk,rfl,rfl⟩ | ⟨hk,hl,hf,hf2⟩
  · have hw:IntKind.i64.wrap (n:Int)=(n:Int):=by rw [IntKind.wrap_i64]; omega
    have hneg:¬ ((n:Int)<0):=by omega
    have hbi:=Xm1 hlen hby
    have ha:Sem.run P (asIntOf (.int kk (n:Int))) w=.ok (kk,(n:Int)) w:=rfl
    have hn0:n≠0:=by omega
    simp [Builtin.append_,run_underlying hu,run_underlying hk,sizeOf,typeInfo,zeroValue,hi,hz,hw,hneg,hbi,asInt,ha,hn,h63',h48',Question.forced,ho,newRow,grownCap]
    rw [if_neg (Nat.mul_ne_zero hn0 hs0)]
    congr 3
    apply Array.ext'
    simp [List.append_assoc]
  · have hl:=XdN hl
    rcases hk with ⟨e',hk⟩ | hk
    · simp [Builtin.append_,run_underlying hu,run_underlying hk,sizeOf,typeInfo,zeroValue,hi,hz,hl,hn,h63',h48',Question.forced,hf2,ho,newRow,grownCap]
      congr 2
      apply Array.ext'
      simp [List.append_assoc]
    · simp [Builtin.append_,run_underlying hu,run_underlying hk,sizeOf,typeInfo,zeroValue,hi,hz,hl,hn,h63',h48',Question.forced,hf2,ho,newRow,grownCap]
      congr 2
      apply Array.ext'
      simp [List.append_assoc]
end
end Go.Fw
end

section
namespace Go.Fw
open Go
theorem Xr4 {H:Hp} {sz n:Nat} {x:Value} {l:List Value} (h:Vg H sz n x=some l):l.length=n*sz∨∃ s,x=.string s:=by
  unfold Vg at h
  split at h
  · obtain ⟨h0,h⟩:=Xf h
    cases h
    have:=beq_iff.1 h0
    subst this; exact .inl (by simp)
  · cases hb:Nat.beq (n*sz) 0 with
    | true=>rw [hb] at h; cases h; exact .inl (by rw [beq_iff.1 hb]; rfl)
    | false=>
      rw [hb] at h
      simp only [cond_false] at h
      rename_i c
      cases hO:Nat.beq c XJ with
      | true=>rw [hO] at h; cases h
      | false=>
        rw [hO] at h
        simp only [cond_false,XX] at h
        split at h
        · exact .inl (U4 h).2
        · cases h
  · exact .inr ⟨_,rfl⟩
  · cases h
theorem Xb1 {P:Program} {ρ:Rho} {H:Hp} {w:World} (hR:Rel ρ H.t w) {sz n:Nat} {x vx:Value} {l:List Value} (h:Vg H sz n x=some l) (hx:VR ρ x vx) :
    ∃ vs,VRs ρ l vs∧∀ w',Fr [] w w'→(Builtin.firstCells sz n vx).run P w'=.ok vs.toArray w':=by
  unfold Vg at h
  split at h
  · obtain ⟨h0,h⟩:=Xf h
    cases h
    cases hx
    exact ⟨[],.nil ρ,fun w' _=>by simp [Builtin.firstCells]⟩
  · rename_i i o len c
    cases hb:Nat.beq (n*sz) 0 with
    | true=>
      rw [hb] at h; cases h
      have hb:=beq_iff.1 hb
      have key:∀ (q:Option Addr) (k:Nat) (w':World),(Builtin.firstCells sz n (.slice q len k)).run P w'=.ok ([]:List Value).toArray w':=fun q k w'=>by
        cases q with
        | none=>simp [Builtin.firstCells]
        | some q=>exact run_firstCells_some w' sz n q len k [] (by simp [hb]) (by simp)
      cases hx
      · exact ⟨[],.nil ρ,fun w' _=>key _ _ w'⟩
      · exact ⟨[],.nil ρ,fun w' _=>key _ _ w'⟩
      · exact ⟨[],.nil ρ,fun w' _=>key _ _ w'⟩
    | false=>
      rw [hb] at h
      simp only [cond_false] at h
      cases hO:Nat.beq c XJ with
      | true=>rw [hO] at h; cases h
      | false=>
        rw [hO] at h
        simp only [cond_false] at h
        have hO:=Zk.1 hO
        obtain ⟨m,vs,hm,hv,hl,hc⟩:=Zm hR h
        have key:∀ (k:Nat) (w':World),Fr [] w w'→(Builtin.firstCells sz n (.slice (some ⟨m.b,m.base+o,none⟩) len k)).run P w'=.ok vs.toArray w':=fun k w' hf=>
          run_firstCells_some w' sz n _ len k vs (by rw [← hv.1,hl]) fun j v hj=>by rw [Xi]; exact hf.cell (hc j v hj) (by simp)
        cases hx with
        | slice h h0=>rw [hm] at h; cases h; exact ⟨vs,hv,fun w' hf=>key _ w' hf⟩
        | sliceO h h0 hO hc' hl'=>rw [hm] at h; cases h; exact ⟨vs,hv,fun w' hf=>key _ w' hf⟩
        | sliceE i o a c' hE=>exact absurd hE hO
  · rename_i s
    cases hx
    obtain ⟨h1,h2⟩:=U4 h
    subst h1
    refine ⟨(s.data.toList.map fun b=>Value.int .u8 b.toNat).take n,⟨rfl,fun i x y h1 h2=>?_⟩,fun w' _=>?_⟩
    · rw [h1] at h2; cases h2
      have hm:=List.mem_of_getElem? h1
      have hm:=List.mem_of_mem_take hm
      obtain ⟨b,_,rfl⟩:=List.mem_map.1 hm
      exact .int _ _
    · have : ((s.extract 0 n).data.map fun b => Value.int .u8 b.toNat) = ((s.data.toList.map fun b => Value.int .u8 b.toNat).take n).toArray := by
        apply Array.ext'
        simp [List.map_take]
      show Sem.run P (pure ((s.extract 0 n).data.map fun b=>Value.int .u8 b.toNat):Sem (Array Value)) w'=_
      rw [this]; rfl
  · cases h
end Go.Fw
end

section
namespace Go.Fw
open Go
def Ok (P:Program) (ρ:Rho) (t:HT) (w:World) (m:Sem Value) (c:Value) (t':HT):Prop:=∃ ρ' w' v,m.run P w=.ok v w'∧Ext ρ t w ρ' t' w'∧Rel ρ' t' w'∧VR ρ' c v
theorem Xm2 {H H':Hp} {cs:List Value} {e:TypeId} {zb:Bool} {k:Nat} (h:Wc H cs e zb=some (k,H')):cs.all Value.oneCell'=true∧H.t.get k=none∧XS k=true∧H'.t=Hp.put H.t k (.cells true cs e zb):=by
  obtain ⟨h0,h⟩:=Xf h
  exact ⟨h0,Xag h⟩
theorem XdO {ρ:Rho} {H H':Hp} {w:World} {k:Nat} {cs vs rest:List Value} {e:TypeId} {zb:Bool} (h:Wc H cs e zb=some (k,H')) (hR:Rel ρ H.t w) (hv:VRs ρ cs vs) (op:Nat) :
    ∃ ρ',Ext ρ H.t w ρ' H'.t (w.drew.alloc (.cells (vs++rest).toArray e))∧Rel ρ' H'.t (w.drew.alloc (.cells (vs++rest).toArray e))∧ρ' k=some ⟨w.heap.size,0,vs.length+rest.length,op⟩:=by
  obtain ⟨ρ',h1,h2,h3⟩:=UA (w':=w.drew.alloc (.cells (vs++rest).toArray e)) (c:=(vs++rest).toArray) h hR hv ((Fr.drew w).then (Fr.alloc _ _)) (by show (w.heap.push _)[w.heap.size]?=_; simp)
    (fun j v hj=>by rw [List.getElem?_toArray,List.getElem?_append_left (List.getElem?_eq_some_iff.1 hj).1]; exact hj) op
  exact ⟨ρ',h1,h2,by simpa using h3⟩
section
variable {P:Program} {t tx ty e:TypeId} {k:Nat} {z:Value} {ρ:Rho} {H H':Hp} {w:World} {n:Nat} {x:Value} {new news:List Value}
theorem XoW (ht:V3 P t k=true) (hu:P.underlying t=some (.slice e)) (hz:Uj P e=some z) (hR:Rel ρ H.t w) {s vs c:Value} (hs:VR ρ s vs) (hx:Xm0 P k z tx x n news w) (hv:VRs ρ new news)
    (h:Xgx H e s k n new=some (c,H')):Ok P ρ H.t w (Builtin.append_ #[t,tx] ty #[vs,x]) c H'.t:=by
  obtain ⟨e',i,z',hu',hi,hsz,hz',hzc,hby⟩:=J2 ht
  rw [hu] at hu'; cases hu'
  have hzz:z=z':=by rw [Xb0 hi hz'] at hz; cases hz; rfl
  subst hzz
  subst hsz
  unfold Xgx at h
  obtain ⟨hc,h⟩:=Xf h
  rw [Bool.and_eq_true,Bool.and_eq_true] at hc
  have hnl:=beq_iff.1 hc.1.1
  have hn1:n≤1000:=Nat.le_of_ble_eq_true hc.1.2
  have hs0:i.size≠0:=by have:=hc.2; rw [Bool.not_eq_true'] at this; exact Zk.1 this
  have hnews:news.length=n*i.size:=by rw [← hv.1]; exact hnl
  cases s with
  | slice q l cp=>
   cases q with
   | none=>
    dsimp only at h
    cases hs
    cases hb:Nat.beq n 0 with
    | true=>
      rw [hb] at h
      obtain ⟨hl,h⟩:=Xf h
      cases h
      rw [Bool.and_eq_true] at hl
      have h1:l≤cp:=Nat.le_of_ble_eq_true hl.1
      have h2:l≤1000:=Nat.le_of_ble_eq_true hl.2
      have:=beq_iff.1 hb
      subst this
      exact ⟨ρ,w,_,J5 (w':=w) hu hi hz' hby hs0 (by omega) hx h1 rfl,Ext.refl ..,hR,.slice0 _ _⟩
    | false=>
      rw [hb] at h
      have hb:=Zk.1 hb
      simp only [cond_false] at h
      obtain ⟨hl,h⟩:=Xf h
      rw [Bool.and_eq_true] at hl
      obtain rfl:=beq_iff.1 hl.1
      obtain rfl:=beq_iff.1 hl.2
      split at h
      · rename_i b H2 hnew
        cases h
        obtain ⟨C,rest,hC,hrest,hrun⟩:=WA (ty:=ty) (base:=none) (l:=0) (c:=0) (old:=[]) hu hi hz' hzc hby hs0 (by omega) hx (by omega) (by omega) (by simp [Builtin.firstCells])
        obtain ⟨ρ',h1,h2,h3⟩:=XdO (rest:=rest) hnew hR hv i.size
        refine ⟨ρ',_,_,hrun,by simpa using h1,by simpa using h2,?_⟩
        rw [Nat.zero_add] at *
        refine .sliceO (m:=⟨w.heap.size,0,news.length+rest.length,i.size⟩) h3 hs0 rfl ?_ hC
        show 0+0+C*i.size=news.length+rest.length
        rw [hnews,hrest,← Nat.add_mul,show n+(C - n)=C from by omega]
        omega
      · cases h
   | some a=>
    obtain ⟨b,o,sp⟩:=a
    cases sp with
    | some q=>cases h
    | none=>
    dsimp only at h
    obtain ⟨hl,h⟩:=Xf h
    rw [Bool.and_eq_true] at hl
    have hl1:l≤cp:=Nat.le_of_ble_eq_true hl.1
    have hl2:l≤1000:=Nat.le_of_ble_eq_true hl.2
    cases hb:Nat.beq n 0 with
    | true=>
      rw [hb] at h
      cases h
      obtain rfl:=beq_iff.1 hb
      have hnil:news=[]:=List.length_eq_zero_iff.1 (by rw [hnews,Nat.zero_mul])
      subst hnil
      have hst:∀ a k,(Xr3 (some a) k []).run P w=.ok () w:=fun a k=>rfl
      have key:∀ (a:Addr) (c':Nat),l≤c'→(Builtin.append_ #[t,tx] ty #[.slice (some a) l c',x]).run P w=.ok (.slice (some a) (l+0) c') w:=fun a c' hle=>
        J5 (w':=w) hu hi hz' hby hs0 (by omega) hx hle rfl
      cases hs with
      | slice hm h0=>exact ⟨ρ,w,_,key _ _ hl1,Ext.refl ..,hR,.slice hm h0⟩
      | sliceO hm h0 hO hcc hll=>exact ⟨ρ,w,_,key _ _ hll,Ext.refl ..,hR,.sliceO hm h0 hO hcc hll⟩
      | sliceE i o a c' hE=>exact ⟨ρ,w,_,key _ _ (Nat.zero_le _),Ext.refl ..,hR,.sliceE _ _ _ _ hE⟩
    | false=>
      rw [hb] at h
      have hb:=Zk.1 hb
      simp only [cond_false] at h
      cases hop:Nat.blt cp XJ with
      | true=>
        rw [hop] at h
        simp only [cond_true] at h
        have hop':=ZM hop
        cases hs with
        | sliceO hm h0 hO hcc hll=>exact absurd hop' (by omega)
        | sliceE i o a c' hE=>exact absurd hop' (by omega)
        | slice hm h0=>
          rename_i m
          cases hfit:Nat.ble (l+n) cp with
          | true=>
            rw [hfit] at h
            simp only [cond_true] at h
            split at h
            · rename_i H2 hput
              cases h
              obtain ⟨w',h1,h2,h3⟩:=UB (P:=P) hput hR hv hm
              refine ⟨ρ,w',_,J5 (w':=w') hu hi hz' hby hs0 (by omega) hx (Nat.le_of_ble_eq_true hfit) ?_,h2,h3,.slice hm h0⟩
              show (storeCells ((⟨m.b,m.base+o,none⟩:Addr).add (l*i.size)) news).run P w=_
              rw [Xi,Nat.add_assoc]; exact h1
            · cases h
          | false=>
            rw [hfit] at h
            simp only [cond_false] at h
            have hnf:¬ l+n≤cp:=fun hle=>by rw [Nat.ble_eq_true_of_le hle] at hfit; cases hfit
            split at h
            · rename_i old hold
              split at h
              · rename_i b2 H2 hnew
                cases h
                obtain ⟨vs,hvs,hrd⟩:=Xb1 (P:=P) hR hold (.slice hm h0)
                obtain ⟨C,rest,hC,hrest,hrun⟩:=WA (ty:=ty) (base:=some ⟨m.b,m.base+o,none⟩) (l:=l) (c:=cp) (old:=vs) hu hi hz' hzc hby hs0 (by omega) hx hnf hl1 (hrd _ (Fr.drew w))
                obtain ⟨ρ',h1,h2,h3⟩:=XdO (rest:=rest) hnew hR (hvs.append hv) i.size
                have hol:vs.length=l*i.size:=by
                  rcases Xr4 hold with h | ⟨_,h⟩
                  · rw [← hvs.1]; exact h
                  · cases h
                refine ⟨ρ',_,_,hrun,h1,h2,?_⟩
                refine .sliceO (m:=⟨w.heap.size,0,(vs++news).length+rest.length,i.size⟩) h3 hs0 rfl ?_ hC
                show 0+0+C*i.size=(vs++news).length+rest.length
                rw [List.length_append,hol,hnews,hrest,← Nat.add_mul,← Nat.add_mul,show l+n+(C - (l+n))=C from by omega]
                omega
              · cases h
            · cases h
      | false=>
        rw [hop] at h
        simp only [cond_false] at h
        obtain ⟨hcp,h⟩:=Xf h
        have hcp:=beq_iff.1 hcp
        cases hs with
        | slice hm h0=>rw [h0] at hop; cases hop
        | sliceE i o a c' hE=>omega
        | sliceO hm h0 hO hcc hll=>
          rename_i c' m
          have hopsz:m.op=i.size:=by omega
          split at h
          · rename_i cs e2 zb hg
            obtain ⟨m',O,hm',hO',c,zz,rfl,⟨hsz,hb0⟩,hz2,hcs⟩:=hR.live b _ hg rfl
            rw [hm] at hm'; cases hm'
            obtain rfl:=hz2 rfl
            cases hfit:Nat.ble (o+(l+n)*i.size) cs.length with
            | true=>
              rw [hfit] at h
              simp only [cond_true] at h
              have hfit:=Nat.le_of_ble_eq_true hfit
              split at h
              · rename_i H2 hput
                cases h
                obtain ⟨w',h1,h2,h3⟩:=UB (P:=P) hput hR hv hm
                have hroom:l+n≤c':=by
                  have hpos:0<(l+n)*i.size:=Nat.mul_pos (by omega) (Nat.pos_of_ne_zero hs0)
                  have hlast:=List.getElem?_eq_getElem (l:=cs) (i:=o+(l+n)*i.size - 1) (by omega)
                  obtain ⟨y,hy,_⟩:=hcs _ _ hlast
                  have hlt:=(Array.getElem?_eq_some_iff.1 hy).1
                  rw [hopsz] at hcc
                  have hle:(l+n)*i.size≤c' * i.size:=by omega
                  exact Nat.le_of_mul_le_mul_right hle (Nat.pos_of_ne_zero hs0)
                refine ⟨ρ,w',_,J5 (w':=w') hu hi hz' hby hs0 (by omega) hx hroom ?_,h2,h3,.sliceO hm h0 hO hcc hroom⟩
                show (storeCells ((⟨m.b,m.base+o,none⟩:Addr).add (l*i.size)) news).run P w=_
                rw [Xi,Nat.add_assoc]; exact h1
              · cases h
            | false=>
              rw [hfit] at h
              simp only [cond_false] at h
              obtain ⟨hq,hh⟩:=Xf h
              rw [Bool.and_eq_true,Bool.and_eq_true] at hq
              obtain rfl:=beq_iff.1 hq.1.1
              split at hh
              · rename_i old hold
                split at hh
                · rename_i k2 H2 hnew
                  cases hh
                  obtain ⟨hone,hgk,hkk,hHt⟩:=Xm2 hnew
                  have hbk:b≠k2:=fun hE=>by
                    have hgk:(Hp.put H.t b .dead).get k2=none:=hgk
                    rw [Hp.get_put hq.1.2,if_pos hE.symm] at hgk; cases hgk
                  have hgk':H.t.get k2=none:=by
                    have hgk:(Hp.put H.t b .dead).get k2=none:=hgk
                    rw [Hp.get_put hq.1.2,if_neg (Ne.symm hbk)] at hgk; exact hgk
                  have hcells:XX H b o (l*i.size)=some old:=by unfold XX; rw [hg]; exact hold
                  obtain ⟨m',vs,hm',hvs,hol,hcell⟩:=Zm hR hcells
                  rw [hm] at hm'; cases hm'
                  have hol':vs.length=l*i.size:=by rw [← hvs.1]; exact hol
                  by_cases hroom:l+n≤c'
                  ·
                    have hfit2:m.base+(o+l*i.size)+0+news.length≤c.size:=by
                      rw [hsz,← hcc,hnews,hopsz]
                      have:(l+n)*i.size≤c' * i.size:=Nat.mul_le_mul_right _ hroom
                      rw [Nat.add_mul] at this
                      omega
                    have hone2:∀ v∈news,v.oneCell'=true:=hv.one hq.2
                    obtain ⟨w',h3,h4,c2,h5,h6,h7⟩:=Xhx (P:=P) news 0 m.b (m.base+(o+l*i.size)) c e w hO' hfit2 hone2
                    have hor:OR ρ ⟨m.b,m.base+o,m.size,m.op⟩ (.cells true (old++new) e (zb && Nat.beq o 0)) (.cells c2 e):=by
                      refine ⟨c2,(0,0),rfl,⟨by rw [h6,hsz],fun hz=>by rw [Bool.and_eq_true] at hz; show m.base+o=0; rw [hb0 hz.1,beq_iff.1 hz.2]⟩,fun _=>rfl,fun j y hy=>?_⟩
                      show ∃ y',c2[m.base+o+j]?=some y'∧VR ρ y y'
                      rw [h7]
                      have hold':old.length=l*i.size:=hol
                      by_cases hj:j<old.length
                      · rw [List.getElem?_append_left hj] at hy
                        rw [if_neg (by omega)]
                        obtain ⟨y',hy',hvr⟩:=hvs.get hy
                        have:=hcell j y' hy'
                        unfold World.cell? at this
                        rw [hO'] at this
                        refine ⟨y',?_,hvr⟩
                        have h8:(if (none:Option Nat).isSome=true then none else c[m.base+o+j]?)=some y':=this
                        rwa [if_neg (by simp)] at h8
                      · rw [List.getElem?_append_right (by omega)] at hy
                        obtain ⟨y',hy',hvr⟩:=hv.get hy
                        have hlt:=(List.getElem?_eq_some_iff.1 hy').1
                        rw [if_pos (by omega)]
                        exact ⟨y',by rw [show m.base+o+j - (m.base+(o+l*i.size)+0)=j - old.length from by omega]; exact hy',hvr⟩
                    obtain ⟨hR',hE⟩:=hR.move (m2:=⟨m.b,m.base+o,m.size,m.op⟩) hg rfl hm hq.1.2 hgk' hkk rfl h4 h5 hor
                    refine ⟨_,w',_,J5 (w':=w') hu hi hz' hby hs0 (by omega) hx hroom ?_,by rw [hHt]; exact hE,by rw [hHt]; exact hR',?_⟩
                    · show (storeCells ((⟨m.b,m.base+o,none⟩:Addr).add (l*i.size)) news).run P w=_
                      rw [Xi,Nat.add_assoc]; exact h3
                    · exact .sliceO (m:=⟨m.b,m.base+o,m.size,m.op⟩) (Rho.put_same ..) h0 (by rw [hopsz]) hcc hroom
                  ·
                    have hk1:=hR.kill hq.1.2
                    obtain ⟨C,rest,hC,hrest,hrun⟩:=WA (ty:=ty) (base:=some ⟨m.b,m.base+o,none⟩) (l:=l) (c:=c') (old:=vs) hu hi hz' hzc hby hs0 (by omega) hx hroom hll
                      (run_firstCells_some _ i.size l _ l c' vs hol' fun j v hj=>by rw [Xi]; exact (Fr.drew w).cell (hcell j v hj) (by simp))
                    obtain ⟨ρ',h1,h2,h3⟩:=XdO (rest:=rest) hnew hk1.1 (hvs.append hv) i.size
                    refine ⟨ρ',_,_,hrun,hk1.2.trans h1,h2,?_⟩
                    refine .sliceO (m:=⟨w.heap.size,0,(vs++news).length+rest.length,i.size⟩) h3 hs0 rfl ?_ hC
                    show 0+0+C*i.size=(vs++news).length+rest.length
                    rw [List.length_append,hol',hnews,hrest,← Nat.add_mul,← Nat.add_mul,show l+n+(C - (l+n))=C from by omega]
                    omega
                · cases hh
              · cases hh
          · cases h
  | _=>cases h
end
end Go.Fw
end

section
namespace Go.Fw
open Go
theorem Xw4 {z:Array Value} {i:Nat} (h:i<z.size):z[i]! = z.toList.getD i undef:=by
  rw [getElem!_pos z i h,List.getD_eq_getElem?_getD,List.getElem?_eq_getElem (by simpa using h)]
  simp
theorem XgA {z:Array Value} {n:Nat} (h:n=0∨0<z.size):(Array.range n).map (fun i=>z[i % z.size]!)=⟨YP z.toList n⟩:=by
  apply Array.ext'
  rw [Array.toList_map,Array.toList_range]
  unfold YP
  apply List.map_congr_left
  intro i hi
  have hi:=List.mem_range.1 hi
  rw [Xw4 (Nat.mod_lt _ (by omega))]
  simp
theorem Xm3 {z:Array Value} {n:Nat} (h:n=0∨0<z.size):madeCells z n=⟨YP z.toList n⟩:=XgA h
theorem Xm4 {z:Array Value} {n:Nat} (h:n=0∨0<z.size):Builtin.zeroCells z n=⟨YP z.toList (n*z.size)⟩:=XgA (by rcases h with h | h <;> simp [h])
theorem Jc {P:Program} {ρ:Rho} {H H':Hp} {w:World} {m:Sem Value} {t:TypeId} {c:Value} (h:Ok P ρ H.t w m c H'.t) (hs:Zp P t c=true) {K:VWP} (hk:Kok ρ H.t w c H'.t K):Ym P t m w K:=by
  obtain ⟨ρ',w',v,h1,h2,h3,h4⟩:=h
  exact VM h4 hs h1 (hk _ _ _ h2 h3 h4)
theorem Xr5 {P:Program} {t tx e:TypeId} {d:TypeDesc} {k n:Nat} {z:Value} {ρ:Rho} {H:Hp} {w:World} {x vx:Value} {new:List Value} (ht:V3 P t k=true) (hu:P.underlying t=some (.slice e)) (hz:Uj P e=some z)
    (htx:P.underlying tx=some d) (hR:Rel ρ H.t w) (hx:VR ρ x vx) (h:XmU P H e k d x=some (n,new)):∃ news,Xm0 P k z tx vx n news w∧VRs ρ new news:=by
  obtain ⟨e',i,z',hu',hi,hsz,hz',hzc,hby⟩:=J2 ht
  rw [hu] at hu'; cases hu'
  have hzz:z=z':=by rw [Xb0 hi hz'] at hz; cases hz; rfl
  subst hzz
  have row:((∃ e,P.underlying tx=some (.slice e))∨P.underlying tx=some .string)→(match Xgv x with | some n=>(match Vg H k n x with | some new=>some (n,new) | none=>none) | none=>none)=some (n,new)→∃ news,Xm0 P k z tx vx n news w∧VRs ρ new news:=by
    intro ho h
    split at h
    · rename_i n' hn
      split at h
      · rename_i new' hnew
        cases h
        obtain ⟨vs,hvs,hrd⟩:=Xb1 (P:=P) hR hnew hx
        refine ⟨vs,.inr ⟨ho,?_,hrd _ (Fr.refl _ _),hrd _ (Fr.drew w)⟩,hvs⟩
        cases x <;> first | (cases hn; cases hx <;> rfl) | cases hn
      · cases h
    · cases h
  cases d with
  | int kk=>
    dsimp only [XmU] at h
    try simp only [Xu,Xw,Xn,Xq] at h
    split at h
    · rename_i k' n' z2 hz2
      obtain ⟨hc,h⟩:=Xf h
      cases h
      rw [hz] at hz2; cases hz2
      rw [Bool.and_eq_true] at hc
      refine ⟨YP z.cells.toList (n*k),.inl ⟨kk,k',htx,by cases hx; rfl,?_⟩,Uk hc.2⟩
      by_cases h0:n=0
      · subst h0; simp [YP,Builtin.zeroCells]
      · by_cases hk:z.cells.size=0
        · have hk0:k=0:=by rw [← hzc,hk]
          subst hk0
          simp [YP,Builtin.zeroCells,hk]
        · rw [Xm4 (.inr (Nat.pos_of_ne_zero hk)),hzc]
    · cases h
  | slice e2=>exact row (.inl ⟨e2,htx⟩) h
  | string=>exact row (.inr htx) h
  | _=>cases h
end Go.Fw
end

section
namespace Go.Fw
open Go
section
variable {P:Program} {ρ:Rho} {H H':Hp} {w:World}
theorem Xr6 {t tx ty e:TypeId} {s n i o dl cp:Nat} {x vx vd:Value} {l:List Value} (hu:P.underlying t=some (.slice e)) (hs:sz P e=some s) (hn:Xgv x=some n) (hR:Rel ρ H.t w) (hrow:Vg H s (Nat.min n dl) x=some l)
    (hput:Zl H i o l=some H') (hc:cp≠XJ) (hx:VR ρ x vx) (hd:VR ρ (.slice (some ⟨i,o,none⟩) dl cp) vd):Ok P ρ H.t w (Builtin.copy_ #[t,tx] ty #[vd,vx]) (.int .i64 (Nat.min n dl:Nat)) H'.t:=by
  obtain ⟨vs,hvs,hrd⟩:=Xb1 (P:=P) hR hrow hx
  have hn':Xgv vx=some n:=by cases x <;> first | (cases hn; cases hx <;> rfl) | cases hn
  have hs':=Xx (show res P (sizeOf e)=some s from hs) w
  have key:∀ (m:Img) (c':Nat),ρ i=some m→Ok P ρ H.t w (Builtin.copy_ #[t,tx] ty #[.slice (some ⟨m.b,m.base+o,none⟩) dl c',vx]) (.int .i64 (Nat.min n dl:Nat)) H'.t:=by
    intro m c' hm
    obtain ⟨w',h1,h2,h3⟩:=UB (P:=P) hput hR hvs hm
    refine ⟨ρ,w',.int .i64 (Nat.min n dl:Nat),?_,h2,h3,.int _ _⟩
    have h4:=hrd _ (Fr.refl _ w)
    have hmin:Nat.min n dl=min n dl:=rfl
    rw [hmin] at h4 ⊢
    simp [Builtin.copy_,run_underlying hu,XdN hn',hs',hmin,h4,h1,goInt]
  cases hd with
  | slice hm h0=>exact key _ _ hm
  | sliceO hm h0 hO hcc hll=>exact key _ _ hm
  | sliceE i o a c' hE=>exact absurd hE hc
theorem Xr7 {t e:TypeId} {s l c k:Nat} {z:Value} {kl kc:IntKind} (ht:V3 P t s=true) (hu:P.underlying t=some (.slice e)) (hz:Uj P e=some z) (hlc:l≤c) (hc:c≤1000) (ha:(YP z.cells.toList (c*s)).all JP=true)
    (hR:Rel ρ H.t w) (h:ZN H (YP z.cells.toList (c*s)) e=some (k,H')):Ok P ρ H.t w (Instr.makeSlice t (.int kl (l:Int)) (.int kc (c:Int))) (.slice (some ⟨k,0,none⟩) l c) H'.t:=by
  obtain ⟨e',i,z',hu',hi,hsz,hz',hzc,hby⟩:=J2 ht
  rw [hu] at hu'; cases hu'
  have hzz:z=z':=by rw [Xb0 hi hz'] at hz; cases hz; rfl
  subst hzz
  have hb:((i.bytes:Int)*(c:Int))≤281474976710656:=by
    have h:i.bytes*c≤4096*1000:=Nat.mul_le_mul hby hc
    have h2:((i.bytes*c:Nat):Int)≤281474976710656:=by omega
    rwa [Int.natCast_mul] at h2
  have hr:=run_make (P:=P) w t e i z hu hi hz' kl kc l c (by omega) (by omega) hb (by omega)
  rw [Int.toNat_natCast,Int.toNat_natCast,Xm3 (by rw [hzc,hsz]; rcases Nat.eq_zero_or_pos s with h | h <;> simp [h]),hsz] at hr
  obtain ⟨ρ',h1,h2,h3⟩:=UA (w':=w.alloc (.cells ⟨YP z.cells.toList (c*s)⟩ e)) (c:=⟨YP z.cells.toList (c*s)⟩) h hR (Uk ha) (Fr.alloc _ _) (by show (w.heap.push _)[w.heap.size]?=_; simp) (fun j u hu=>by simpa using hu) 0
  refine ⟨ρ',_,_,hr,h1,h2,?_⟩
  exact VR.slice (m:=⟨w.heap.size,0,_,0⟩) h3 (Nat.ble_eq_true_of_le (by show c+1≤XJ; unfold XJ; omega))
theorem XqJ {t e:TypeId} {s n k:Nat} {z:Value} {ps qs:List (Nat×Value)} {cells:Array Value} (hu:P.underlying t=some (.slice e)) (hs:sz P e=some s) (hz:Uj P e=some z) (hzs:z.cells.size=s) (hle:n*s≤1000)
    (ha:(YP z.cells.toList (n*s)).all JP=true) (hp:VPs ρ ps qs) (hf:Instr.fill (fun i=>some (i*s,s)) ⟨YP z.cells.toList (n*s)⟩ ps=some cells)
    (hR:Rel ρ H.t w) (h:ZN H cells.toList e=some (k,H')) (hn:n<XJ):Ok P ρ H.t w (Instr.buildSlice t n ⟨qs⟩) (.slice (some ⟨k,0,none⟩) n n) H'.t:=by
  obtain ⟨out,ho,hv⟩:=XbX (a':=⟨YP z.cells.toList (n*s)⟩) hp (Uk (ρ:=ρ) ha) hf
  have hs':=Xx (show res P (sizeOf e)=some s from hs)
  have hz':=Xx (show res P (zeroValue e)=some z from hz)
  obtain ⟨ρ',h1,h2,h3⟩:=UA (w':=w.alloc (.cells out e)) (c:=out) h hR hv (Fr.alloc _ _) (by show (w.heap.push _)[w.heap.size]?=_; simp) (fun j u hu=>by simpa using hu) 0
  refine ⟨ρ',w.alloc (.cells out e),.slice (some ⟨w.heap.size,0,none⟩) n n,?_,h1,h2,VR.slice (m:=⟨w.heap.size,0,_,0⟩) h3 (Nat.ble_eq_true_of_le hn)⟩
  have hno:¬ (2 ^ 24<n*s):=by omega
  by_cases h0:n*s=0
  · have e0:YP z.cells.toList (n*s)=[]:=by rw [h0]; rfl
    rw [e0] at ho
    have e2:(Array.map (fun _=>(default:Value)) (Array.range 0))=⟨[]⟩:=by simp
    simp [Instr.buildSlice,run_underlying hu,hs',h0,newRow]
    rw [e2,ho]; rfl
  · have e1:=XgA (z:=z.cells) (n:=n*s) (.inr (by rw [hzs]; exact Nat.pos_of_ne_zero (fun h=>h0 (by rw [h,Nat.mul_zero]))))
    simp [Instr.buildSlice,run_underlying hu,hs',hno,h0,hz',newRow,e1,ho]
end
end Go.Fw
end

section
namespace Go.Fw
open Go
open Go.Instr (sameNow findNow)
theorem W8 {ρ:Rho} {ty:TypeDesc} {k c v:Value} {b:Bool} (h:sameNow ty k c=some b) (hv:VR ρ c v):sameNow ty k v=some b:=by
  unfold sameNow at h
  split at h
  all_goals first | (cases hv; exact h) | cases h
theorem Xb2 {ty:TypeDesc} {k:Value}:∀ {es:List (Value×Value×Option Nat)},JU ty k es=some none→∀ x∈es,sameNow ty k x.1=some false
  | [],_,x,hx=>by cases hx
  | e::es,h,x,hx=>by
    unfold JU at h
    split at h
    · split at h
      · cases h
      · cases h
    · rename_i hs
      rcases List.mem_cons.1 hx with rfl | hx
      · exact hs
      · exact Xb2 h x hx
    · cases h
theorem Xhy {ty:TypeDesc} {k v:Value}:∀ {es:List (Value×Value×Option Nat)},JU ty k es=some (some v)→∃ (j:Nat) (x:Value×Value×Option Nat),es[j]?=some x∧x.2.1=v∧sameNow ty k x.1=some true∧∀ (i:Nat) (y:Value×Value×Option Nat),es[i]?=some y→i≠j→sameNow ty k y.1=some false
  | [],h=>by cases h
  | e::es,h=>by
    unfold JU at h
    split at h
    · rename_i hs
      split at h
      · rename_i hn
        cases h
        refine ⟨0,e,rfl,rfl,hs,fun i y hy hi=>?_⟩
        cases i with
        | zero=>exact absurd rfl hi
        | succ i=>exact Xb2 hn y (List.mem_of_getElem? (by simpa using hy))
      · cases h
    · rename_i hs
      obtain ⟨j,x,h1,h2,h3,h4⟩:=Xhy h
      refine ⟨j+1,x,by simpa using h1,h2,h3,fun i y hy hi=>?_⟩
      cases i with
      | zero=>simp at hy; subst hy; exact hs
      | succ i=>exact h4 i y (by simpa using hy) (by omega)
    · cases h
theorem XdP {ty:TypeDesc} {k:Value}:∀ {L:List MapEntry} (i:Nat),(∀ e∈L,sameNow ty k e.key=some false)→findNow ty k L i=some none
  | [],_,_=>rfl
  | e::L,i,h=>by
    unfold findNow
    rw [h e (by simp)]
    exact XdP (i+1) fun x hx=>h x (by simp [hx])
theorem XdQ {ty:TypeDesc} {k v:Value}:∀ {L:List MapEntry} (i:Nat),(∀ e∈L,(sameNow ty k e.key=some true∧e.val=v)∨sameNow ty k e.key=some false)→(∃ e∈L,sameNow ty k e.key=some true)→∃ j,findNow ty k L i=some (some (j,v))
  | [],_,_,⟨_,h,_⟩=>by cases h
  | e::L,i,h,⟨e0,h0,h1⟩=>by
    unfold findNow
    rcases h e (by simp) with ⟨h2,h3⟩ | h2
    · rw [h2]; exact ⟨i,by rw [h3]⟩
    · rw [h2]
      refine XdQ (i+1) (fun x hx=>h x (by simp [hx])) ⟨e0,?_,h1⟩
      rcases List.mem_cons.1 h0 with rfl | h0
      · rw [h1] at h2; cases h2
      · exact h0
theorem XpV {P:Program} {b:Bool} {kt:TypeId} {k:Value} (h:ckB P b kt k=true):res P (Instr.checkKey b 10000 kt k)=some ():=by
  unfold ckB at h
  split at h
  · assumption
  · cases h
section
variable {P:Program} {ρ:Rho} {H H':Hp} {w:World}
theorem Xbg (hR:Rel ρ H.t w) {i c:Nat} {es:List (Value×Value×Option Nat)} (hg:H.t.get i=some (.map es c)):∃ m es' l,ρ i=some m∧w.heap[m.b]?=some (.map es' c)∧es'.toList.Perm l∧l.length=es.length∧(l.map (·.born)).Nodup∧(∀ x∈l,x.born<c)∧
      ∀ (j:Nat) (x:Value×Value×Option Nat) (y:MapEntry),es[j]?=some x→l[j]?=some y→VR ρ x.1 y.key∧VR ρ x.2.1 y.val∧(∀ b,x.2.2=some b→y.born=b):=by
  obtain ⟨m,O,hm,hO,es',l,rfl,h⟩:=hR.live i _ hg rfl
  exact ⟨m,es',l,hm,hO,h⟩
theorem XdR {t:TypeId} {x:Option Value} {k:Nat} (hx:x=none∨∃ a b kk n,P.underlying t=some (.map a b)∧x=some (.int kk n)) (h:H.new (.map [] 0)=some (k,H')) (hR:Rel ρ H.t w):Ok P ρ H.t w (Instr.makeMap t x) (.map (some k)) H'.t:=by
  obtain ⟨h1,h2,h3⟩:=Xag h
  have hor:OR ρ ⟨w.heap.size,0,0,0⟩ (.map [] 0) (.map #[] 0):=⟨#[],[],rfl,by simp,rfl,by simp,by simp,by simp⟩
  obtain ⟨hR',hE⟩:=hR.new (m:=⟨w.heap.size,0,0,0⟩) (w':=w.alloc (.map #[] 0)) h1 h2 (Fr.alloc _ _) (Nat.le_refl _) (by show (w.heap.push _)[w.heap.size]?=_; simp) hor
  refine ⟨_,w.alloc (.map #[] 0),.map (some w.heap.size),?_,by rw [h3]; exact hE,by rw [h3]; exact hR',.map (m:=⟨w.heap.size,0,0,0⟩) (Rho.put_same ..)⟩
  rcases hx with rfl | ⟨a,b,kk,n,hu,rfl⟩
  · rfl
  · have ha:Sem.run P (asIntOf (.int kk n)) w=.ok (kk,n) w:=rfl
    simp [Instr.makeMap,run_underlying hu,asInt,ha,newObj]
    rfl
theorem XpW (hR:Rel ρ H.t w) {i c:Nat} {es:List (Value×Value×Option Nat)} (hg:H.t.get i=some (.map es c)) {kt:TypeId} {ty:TypeDesc} {k:Value} {q:Option Value} (hkt:P.underlying kt=some ty) (hf:JU ty k es=some q) :
    ∃ m es',ρ i=some m∧w.heap[m.b]?=some (.map es' c)∧es'.isEmpty=es.isEmpty∧match q with
      | none=>(Instr.findKey kt k es'.toList).run P w=.ok none w
      | some v=>∃ j u,(Instr.findKey kt k es'.toList).run P w=.ok (some (j,u)) w∧VR ρ v u:=by
  obtain ⟨m,es',l,hm,hO,hp,hlen,hnd,hb,hv⟩:=Xbg hR hg
  have hz:es'.isEmpty=es.isEmpty:=by
    have h1:=hp.length_eq
    rw [Array.length_toList] at h1
    cases es with
    | nil=>simp at hlen; subst hlen; simp at h1; simp [Array.isEmpty,h1]
    | cons a es=>simp [Array.isEmpty]; intro h0; rw [h0] at h1; simp at h1; rw [← h1] at hlen; simp at hlen
  have hrun:∀ r,findNow ty k es'.toList 0=some r→(Instr.findKey kt k es'.toList).run P w=.ok r w:=fun r hr=>by
    unfold Instr.findKey
    rw [Sem.run_bind,run_underlying hkt]
    simp only [Result.andThen,hr]
    rfl
  have idx:∀ y∈l,∃ j x,l[j]?=some y∧es[j]?=some x:=fun y hy=>by
    obtain ⟨j,hj⟩:=List.getElem?_of_mem hy
    have hlt:=(List.getElem?_eq_some_iff.1 hj).1
    exact ⟨j,es[j],hj,List.getElem?_eq_getElem (by omega)⟩
  refine ⟨m,es',hm,hO,hz,?_⟩
  cases q with
  | none=>
    refine hrun none (XdP 0 fun e he=>?_)
    obtain ⟨j,x,h1,h2⟩:=idx e (hp.mem_iff.1 he)
    exact W8 (Xb2 hf x (List.mem_of_getElem? h2)) (hv j x e h2 h1).1
  | some v=>
    obtain ⟨j,x,h1,h2,h3,h4⟩:=Xhy hf
    have hlt:=(List.getElem?_eq_some_iff.1 h1).1
    have hy:=List.getElem?_eq_getElem (l:=l) (i:=j) (by omega)
    obtain ⟨h5,h6,_⟩:=hv j x _ h1 hy
    obtain ⟨p,hp'⟩:=XdQ (L:=es'.toList) (ty:=ty) (k:=k) (v:=l[j].val) 0 (fun e he=>by
      obtain ⟨j2,x2,h7,h8⟩:=idx e (hp.mem_iff.1 he)
      by_cases hj:j2=j
      · subst hj
        rw [hy] at h7; cases h7
        exact .inl ⟨W8 h3 h5,rfl⟩
      · exact .inr (W8 (h4 j2 x2 h8 hj) (hv j2 x2 e h8 h7).1)) ⟨l[j],hp.mem_iff.2 (List.mem_of_getElem? hy),W8 h3 h5⟩
    exact ⟨p,_,hrun _ hp',by rw [← h2]; exact h6⟩
theorem XfX {t kt e:TypeId} {ty:TypeDesc} {i c:Nat} {es:List (Value×Value×Option Nat)} {k z:Value} {q:Option Value} {cok:Bool} {mv:Value} (hu:P.underlying t=some (.map kt e)) (hkt:P.underlying kt=some ty) (hz:Uj P e=some z) (hgz:gr z=true)
    (hR:Rel ρ H.t w) (hg:H.t.get i=some (.map es c)) (hm:VR ρ (.map (some i)) mv) (hck:ckB P es.isEmpty kt k=true) (hf:JU ty k es=some q) :
    Ok P ρ H.t w (Instr.lookup t mv k cok) (match q with | some v=>bif cok then .tuple #[v,.bool true] else v | none=>bif cok then .tuple #[z,.bool false] else z) H.t:=by
  obtain ⟨m,es',hm',hO,hemp,hq⟩:=XpW (P:=P) hR hg hkt hf
  have hz':=Xx (show res P (zeroValue e)=some z from hz)
  cases hm with
  | map h=>
    rw [hm'] at h; cases h
    have hck':=Xx (XpV hck) w
    rw [← hemp] at hck'
    have pair:∀ {c v:Value} {b:Bool},VR ρ c v→VR ρ (bif cok then .tuple #[c,.bool b] else c) (if cok then .tuple #[v,.bool b] else v):=fun h=>by
      cases cok
      · exact h
      · exact VRs.tuple (.cons h (.cons (.bool _) (.nil ρ)))
    cases q with
    | none=>
      refine ⟨ρ,w,_,?_,Ext.refl ..,hR,pair (YY ρ hgz)⟩
      simp only [Instr.lookup,Sem.run_bind,run_underlying hu,Result.andThen,getObj,Sem.run,hO]
      simp [hck',hq,hz']
    | some v=>
      obtain ⟨j,u,h1,h2⟩:=hq
      refine ⟨ρ,w,_,?_,Ext.refl ..,hR,pair h2⟩
      simp only [Instr.lookup,Sem.run_bind,run_underlying hu,Result.andThen,getObj,Sem.run,hO]
      simp [hck',h1]
end
end Go.Fw
end

section
namespace Go.Fw
open Go
open Go.Instr (sameNow findNow)
section
variable {P:Program} {ρ:Rho} {H H':Hp} {w:World}
theorem XgB {t:TypeId} {m k v mm kk vv:Value} (h:Xe6 P H t m k v=some H') (hR:Rel ρ H.t w) (hm:VR ρ m mm) (hk:VR ρ k kk) (hv:VR ρ v vv) :
    ∃ w',EfU P (Instr.mapUpdate t mm kk vv) w w'∧Ext ρ H.t w ρ H'.t w'∧Rel ρ H'.t w':=by
  unfold Xe6 at h
  simp only [Xu,Xw,Xn,Xq] at h
  split at h
  · rename_i kt e i hu
    split at h
    · rename_i es c ty hg hkt
      obtain ⟨hc,h⟩:=Xf h
      rw [Bool.and_eq_true,Bool.and_eq_true] at hc
      obtain ⟨⟨hgk,hid⟩,hck⟩:=hc
      obtain rfl:=Xae hgk hk
      split at h
      · rename_i hf
        cases h
        obtain ⟨g,es',l,hm',hO,hp,hlen,hnd,hb,hrel⟩:=Xbg hR hg
        obtain ⟨g2,es2,hm2,hO2,hemp,hq⟩:=XpW (P:=P) hR hg hkt hf
        rw [hm'] at hm2; cases hm2
        rw [hO] at hO2; cases hO2
        cases hm with
        | map hmm=>
          rw [hm'] at hmm; cases hmm
          have hlt:=Yh hO
          have hor:OR ρ g (.map (es++[(kk,v,some c)]) (c+1)) (.map (es'.push { key:=kk,val:=vv,born:=c }) (c+1)):=by
            refine ⟨_,l++[{ key:=kk,val:=vv,born:=c }],rfl,?_,by simp [hlen],?_,?_,?_⟩
            · rw [Array.toList_push]; exact hp.append_right _
            · rw [List.map_append,List.nodup_append]
              refine ⟨hnd,by simp,fun a ha b hb'=>?_⟩
              obtain ⟨x,hx,rfl⟩:=List.mem_map.1 ha
              simp at hb'
              have:=hb x hx
              omega
            · intro x hx
              rcases List.mem_append.1 hx with hx | hx
              · have:=hb x hx; omega
              · simp at hx; subst hx; show c<c+1; omega
            · intro j x y hx hy
              by_cases hj:j<es.length
              · rw [List.getElem?_append_left hj] at hx
                rw [List.getElem?_append_left (by omega)] at hy
                exact hrel j x y hx hy
              · rw [List.getElem?_append_right (by omega)] at hx
                rw [List.getElem?_append_right (by omega),hlen] at hy
                have hj0:j - es.length=0:=by have:=(List.getElem?_eq_some_iff.1 hx).1; simp at this; omega
                rw [hj0] at hx hy
                cases hx; cases hy
                exact ⟨hk,hv,fun b hb=>by cases hb; rfl⟩
          obtain ⟨hR',hE⟩:=hR.turn (o2:=.map (es++[(kk,v,some c)]) (c+1)) (w':={ w with heap:=w.heap.setIfInBounds g.b (.map (es'.push { key:=kk,val:=vv,born:=c }) (c+1)) }) hg rfl hm' hid (Fr.setHeap rfl) (by show (w.heap.setIfInBounds _ _)[g.b]?=_; simp [hlt]) hor
          refine ⟨_,?_,hE,hR'⟩
          show (Instr.mapUpdate t (.map (some g.b)) kk vv).run P w=_
          have hck':=Xx (XpV hck) w
          simp only [Instr.mapUpdate,Sem.run_bind,run_underlying hu,Result.andThen,getObj,Sem.run,hO]
          simp [hck',hq,setObj,Sem.run,hO]
      · cases h
    · cases h
  · cases h
theorem XqK {t kt e:TypeId} {i c k:Nat} {es:List (Value×Value×Option Nat)} {mv:Value} (hu:P.underlying t=some (.map kt e)) (hg:H.t.get i=some (.map es c)) (h:H.new (.mit i c [] c)=some (k,H')) (hR:Rel ρ H.t w) (hm:VR ρ (.map (some i)) mv)
    {K:VWP} (hk:Kok ρ H.t w (.pointer (some ⟨k,0,none⟩)) H'.t K):XpM P (Instr.range t mv) w K:=by
  obtain ⟨g,es',l,hm',hO,_⟩:=Xbg hR hg
  obtain ⟨h1,h2,h3⟩:=Xag h
  cases hm with
  | map hmm=>
    rw [hm'] at hmm; cases hmm
    have hor:OR ρ ⟨w.heap.size,0,0,0⟩ (.mit i c [] c) (.mapIter (some g.b) c #[] c):=⟨rfl,g,hm',rfl⟩
    obtain ⟨hR',hE⟩:=hR.new (m:=⟨w.heap.size,0,0,0⟩) (w':=w.alloc (.mapIter (some g.b) c #[] c)) h1 h2 (Fr.alloc _ _) (Nat.le_refl _) (by show (w.heap.push _)[w.heap.size]?=_; simp) hor
    refine ⟨⟨w.heap.size,0,none⟩,w.alloc (.mapIter (some g.b) c #[] c),?_,?_⟩
    · show (Instr.range t (.map (some g.b))).run P w=_
      simp [Instr.range,run_underlying hu,getObj,Sem.run,hO,newObj]
    · have:=hk _ _ _ (by rw [h3]; exact hE) (by rw [h3]; exact hR') (.ptr (o:=0) (m:=⟨w.heap.size,0,0,0⟩) (Rho.put_same ..))
      simpa using this
theorem Xm5 (hR:Rel ρ H.t w) {k i since last:Nat} {seen:List Nat} (hg:H.t.get k=some (.mit i since seen last)) {v:Value} (hv:VR ρ (.pointer (some ⟨k,0,none⟩)) v) :
    ∃ m mm,ρ k=some m∧ρ i=some mm∧v=.pointer (some ⟨m.b,0,none⟩)∧ItAt w m.b mm.b since ⟨seen⟩ last:=by
  obtain ⟨m,O,hm,hO,h0,mm,hmm,rfl⟩:=hR.live k _ hg rfl
  obtain ⟨m',hm',rfl⟩:=hv.ptr_inv
  rw [hm] at hm'; cases hm'
  exact ⟨m,mm,hm,hmm,by rw [h0],hO⟩
theorem Xhz {i k since c:Nat} {seen:List Nat} {es:List (Value×Value×Option Nat)} {v:Value} {ty:TypeId} (hR:Rel ρ H.t w) (hg:H.t.get k=some (.mit i since seen c)) (hm:H.t.get i=some (.map es c)) (hv:VR ρ (.pointer (some ⟨k,0,none⟩)) v)
    (hsc:since≤c) (hall:∀ x∈es,∃ b,x.2.2=some b∧b<since∧b∈seen) {K:VWP} (hk:Kok ρ H.t w (.tuple #[.bool false]) H.t K):Xms P (Instr.next v false ty) w K:=by
  obtain ⟨m,mm,h1,h2,rfl,hI⟩:=Xm5 hR hg hv
  obtain ⟨g,es',l,hm',hO,hp,hlen,hnd,hb,hrel⟩:=Xbg hR hm
  rw [h2] at hm'; cases hm'
  have hbs:∀ y∈es'.toList,y.born<since∧(⟨seen⟩:Array Nat).contains y.born=true:=fun y hy=>by
    obtain ⟨j,hj⟩:=List.getElem?_of_mem (hp.mem_iff.1 hy)
    have hlt:=(List.getElem?_eq_some_iff.1 hj).1
    have hx:=List.getElem?_eq_getElem (l:=es) (i:=j) (by omega)
    obtain ⟨b,h3,h4,h5⟩:=hall _ (List.mem_of_getElem? hx)
    obtain rfl:=(hrel j _ y hx hj).2.2 b h3
    exact ⟨h4,by simpa using h5⟩
  rcases Ef.next (P:=P) (ty:=ty) hI hO (fun x hx=>(hbs x hx).1) hsc with ⟨_,h3⟩ | ⟨e,he,h3,_⟩
  · exact ⟨false,[],w,h3,hk ρ w _ (Ext.refl ..) hR (VRs.tuple (.cons (.bool _) (.nil ρ)))⟩
  · rw [(hbs e he).2] at h3; cases h3
theorem Xr8 {i k since c b:Nat} {key val v:Value} {ty:TypeId} (hR:Rel ρ H.t w) (hg:H.t.get k=some (.mit i since [] c)) (hm:H.t.get i=some (.map [(key,val,some b)] c)) (hv:VR ρ (.pointer (some ⟨k,0,none⟩)) v) (hid:XS k=true)
    (hsc:since≤c) (hb:b<since) {K:VWP} (hk:Kok ρ H.t w (.tuple #[.bool true,key,val]) (Hp.put H.t k (.mit i since [b] c)) K):Xms P (Instr.next v false ty) w K:=by
  obtain ⟨m,mm,h1,h2,rfl,hI⟩:=Xm5 hR hg hv
  obtain ⟨g,es',l,hm',hO,hp,hlen,hnd,_,hrel⟩:=Xbg hR hm
  rw [h2] at hm'; cases hm'
  obtain ⟨y,rfl⟩:∃ y,l=[y]:=by
    cases l with
    | nil=>cases hlen
    | cons y l=>cases l with | nil=>exact ⟨y,rfl⟩ | cons _ _=>cases hlen
  have hes:es'.toList=[y]:=List.perm_singleton.1 hp
  obtain ⟨hk1,hv1,hb1⟩:=hrel 0 _ y rfl rfl
  have hb1:=hb1 b rfl
  rcases Ef.next (P:=P) (ty:=ty) hI hO (fun x hx=>by rw [hes] at hx; simp at hx; subst hx; omega) hsc with ⟨h3,_⟩ | ⟨e,he,_,w',h3,h4,h5,_⟩
  · have:=h3 y (by rw [hes]; simp)
    simp at this
  · rw [hes] at he; simp at he; subst he
    have hor:OR ρ m (.mit i since [b] c) (.mapIter (some mm.b) since ((⟨[]⟩:Array Nat).push e.born) c):=by
      obtain ⟨m2,O2,hm2,_,h0,_⟩:=hR.live k _ hg rfl
      rw [h1] at hm2; cases hm2
      exact ⟨h0,mm,h2,by rw [hb1]; rfl⟩
    obtain ⟨hR',hE⟩:=hR.turn hg rfl h1 hid h4 h5 hor
    exact ⟨true,_,w',h3,hk ρ w' _ hE hR' (VRs.tuple (.cons (.bool _) (.cons hk1 (.cons hv1 (.nil ρ)))))⟩
theorem XqL {i k since c b:Nat} {key val v:Value} (hR:Rel ρ H.t w) (hg:H.t.get k=some (.mit i since [b] c)) (hm:H.t.get i=some (.map [(key,val,some b)] c)) (hv:VR ρ (.pointer (some ⟨k,0,none⟩)) v)
    {K:VWP} (hk:Kok ρ H.t w (.tuple #[key,val]) H.t K):XpN P (Instr.entry v) w K:=by
  obtain ⟨m,mm,h1,h2,rfl,hI⟩:=Xm5 hR hg hv
  obtain ⟨g,es',l,hm',hO,hp,hlen,hnd,_,hrel⟩:=Xbg hR hm
  rw [h2] at hm'; cases hm'
  obtain ⟨y,rfl⟩:∃ y,l=[y]:=by
    cases l with
    | nil=>cases hlen
    | cons y l=>cases l with | nil=>exact ⟨y,rfl⟩ | cons _ _=>cases hlen
  have hes:es'.toList=[y]:=List.perm_singleton.1 hp
  obtain ⟨hk1,hv1,hb1⟩:=hrel 0 _ y rfl rfl
  have hb1:=hb1 b rfl
  have hI':ItAt w m.b mm.b since ((⟨[]⟩:Array Nat).push y.born) c:=by rw [hb1]; exact hI
  exact ⟨_,_,w,Ef.entry hI' hO (e:=y) (by rw [hes]; simp) (by rw [hes]; simp),hk ρ w _ (Ext.refl ..) hR (VRs.tuple (.cons hk1 (.cons hv1 (.nil ρ))))⟩
end
end Go.Fw
end

section
namespace Go.Fw
open Go
theorem XdS:∀ {l:List Value} {s:List UInt8},XbW l=some s→l=s.map fun x=>Value.int .u8 (x.toNat:Int)
  | [],s,h=>by cases h; rfl
  | v::l,s,h=>by
    unfold XbW at h
    split at h
    · rename_i heq; cases heq
    · rename_i n l' heq
      cases heq
      obtain ⟨hn,h⟩:=Xf h
      split at h
      · rename_i r hr
        cases h
        rw [List.map_cons,← XdS hr]
        have hn:n<256:=Nat.le_of_ble_eq_true hn
        have:(UInt8.ofNat n).toNat=n:=by simp; omega
        rw [this]; rfl
      · cases h
    · cases h
theorem XuT {ρ:Rho} {s:List UInt8} {vs:List Value} (h:VRs ρ (s.map fun x=>Value.int .u8 (x.toNat:Int)) vs):vs=s.map fun x=>Value.int .u8 (x.toNat:Int):=by
  refine X3 (h:=fun i x y z h1 h2 h3=>?_) h.1 rfl
  have hv:=h.2 i x y h1 h2
  rw [h1] at h3; cases h3
  obtain ⟨b,_,rfl⟩:=List.mem_map.1 (List.mem_of_getElem? h1)
  cases hv; rfl
section
variable {P:Program} {ρ:Rho} {H H':Hp} {w:World}
theorem XqM {src dst e:TypeId} {s:ByteArray} {k:Nat} (hs:P.underlying src=some .string) (hd:P.underlying dst=some (.slice e)) (he:P.underlying e=some (.int .u8)) (hR:Rel ρ H.t w)
    (h:H.new (.cells false (s.data.toList.map fun b=>.int .u8 b.toNat) e true)=some (k,H')):Ok P ρ H.t w (convert src dst (.string s)) (.slice (some ⟨k,0,none⟩) s.size (XJ+1)) H'.t:=by
  obtain ⟨h1,h2,h3⟩:=Xag h
  have hge:=grownCap_ge w s.size 0 e
  have hsz:(bytesRow s (grownCap w s.size 0 e)).size=grownCap w s.size 0 e:=by
    unfold bytesRow
    simp
    have:s.data.size=s.size:=rfl
    omega
  have hor : OR ρ ⟨w.heap.size, 0, grownCap w s.size 0 e, 1⟩ (.cells false (s.data.toList.map fun b => .int .u8 b.toNat) e true)
      (.cells (bytesRow s (grownCap w s.size 0 e)) e ((bytesRow s (grownCap w s.size 0 e)).size,(bytesRow s (grownCap w s.size 0 e)).size+1)):=by
    refine ⟨_,_,rfl,⟨hsz,fun _=>rfl⟩,fun h=>by (cases h),fun j x hx=>⟨x,?_,?_⟩⟩
    · show (bytesRow s _)[0+j]?=_
      rw [Nat.zero_add]
      unfold bytesRow
      have hlt:=(List.getElem?_eq_some_iff.1 hx).1
      rw [Array.getElem?_append_left (by simpa using hlt),← Array.getElem?_toList,Array.toList_map]
      exact hx
    · obtain ⟨b,_,rfl⟩:=List.mem_map.1 (List.mem_of_getElem? hx)
      exact .int _ _
  obtain ⟨hR',hE⟩:=hR.new (m:=⟨w.heap.size,0,grownCap w s.size 0 e,1⟩)
    (w':=w.drew.alloc (.cells (bytesRow s (grownCap w s.size 0 e)) e ((bytesRow s (grownCap w s.size 0 e)).size,(bytesRow s (grownCap w s.size 0 e)).size+1)))
    h1 h2 ((Fr.drew w).then (Fr.alloc _ _)) (Nat.le_refl _) (by show (w.heap.push _)[w.heap.size]?=_; simp) hor
  refine ⟨_,_,_,run_bytes_of_string w src dst e s hs hd he,by rw [h3]; exact hE,by rw [h3]; exact hR',?_⟩
  exact .sliceO (m:=⟨w.heap.size,0,grownCap w s.size 0 e,1⟩) (Rho.put_same ..) (by show (1:Nat)≠0; omega) rfl (by show 0+0+grownCap w s.size 0 e*1=grownCap w s.size 0 e; omega) hge
theorem XoX {src dst e:TypeId} {q:Option Addr} {n c:Nat} {v:Value} {l:List Value} {s:List UInt8} (hs:P.underlying src=some (.slice e)) (hd:P.underlying dst=some .string) (he:P.underlying e=some (.int .u8)) (hR:Rel ρ H.t w)
    (hrow:Vg H 1 n (.slice q n c)=some l) (hst:XbW l=some s) (hv:VR ρ (.slice q n c) v):Ok P ρ H.t w (convert src dst v) (.string ⟨⟨s⟩⟩) H.t:=by
  obtain rfl:=XdS hst
  obtain ⟨vs,hvs,hrd⟩:=Xb1 (P:=P) hR hrow hv
  have hvs2:=XuT hvs
  subst hvs2
  have hrd:=hrd w (Fr.refl _ _)
  refine ⟨ρ,w,.string ⟨⟨s⟩⟩,?_,Ext.refl ..,hR,.str _⟩
  have hfold:∀ (s:List UInt8),(s.map fun x=>(x.toNat:Int)).foldl (fun r n=>r.push (UInt8.ofNat n.toNat)) ByteArray.empty=⟨⟨s⟩⟩:=fun s=>by
    rw [foldl_push_byteCells]; simp
  have key:∀ (q':Option Addr) (c':Nat),(Builtin.firstCells 1 n (.slice q' n c')).run P w=.ok (s.map fun x=>Value.int .u8 (x.toNat:Int)).toArray w→(convert src dst (.slice q' n c')).run P w=.ok (.string ⟨⟨s⟩⟩) w:=fun q' c' hf=>by
    rw [run_convert_bytes_string w src dst e q' n c' hs he hd]
    cases q' with
    | none=>
      have hf':(Result.ok #[] w:Result (Array Value))=.ok (s.map fun x=>Value.int .u8 (x.toNat:Int)).toArray w:=hf
      injection hf' with h1 h2
      have:s=[]:=by
        cases s with
        | nil=>rfl
        | cons a s=>simp at h1
      subst this; rfl
    | some a=>
      have hf':(loadCells a (n*1)).run P w=.ok (s.map fun x=>Value.int .u8 (x.toNat:Int)).toArray w:=hf
      rw [Nat.mul_one] at hf'
      rw [run_bytesToString w a n c' (s.map fun x=>(x.toNat:Int)) (by rw [hf',List.map_map]; rfl),hfold]
  cases hv <;> exact key _ _ hrd
theorem Xr9 (w:World) (a:Addr) (n:Nat):Fr [a.block] w (w.freeze a n):=by
  unfold World.freeze
  split
  · exact Fr.refl _ _
  · refine ⟨rfl,rfl,rfl,by simp,fun k hk hn=>?_⟩
    simp only [Array.getElem?_modify]
    rw [if_neg (fun h=>hn (by simp [h]))]
theorem Xsa {pt it ty e:TypeId} {i n:Nat} {wr:Bool} {cs l:List Value} {s:List UInt8} {pv:Value} (hp:P.underlying pt=some (.pointer e)) (hc:P.cellsOf e=1) (hR:Rel ρ H.t w) (hg:H.t.get i=some (.cells wr cs e true)) (hid:XS i=true)
    (hl:W6 n cs=some l) (hst:XbW l=some s) (hn0:n≠0) (hn:n≤1000000) (hv:VR ρ (.pointer (some ⟨i,0,none⟩)) pv) :
    Ok P ρ H.t w (Builtin.unsafeString_ #[pt,it] ty #[pv,.int .i64 (n:Int)]) (.string ⟨⟨s⟩⟩) (Hp.put H.t i (.cells false cs e true)):=by
  obtain rfl:=XdS hst
  obtain ⟨hl1,hl2⟩:=U4 hl
  obtain ⟨m,O,hm,hO,c,z,rfl,⟨hsz,hb0⟩,hz,hcs⟩:=hR.live i _ hg rfl
  have hb0:=hb0 rfl
  obtain ⟨m',hm',rfl⟩:=hv.ptr_inv
  rw [hm] at hm'; cases hm'
  rw [hb0,Nat.add_zero]
  have hsn:s.length=n:=by simpa using hl2
  subst hsn
  have hcell:∀ (j:Nat) (x:UInt8),s[j]?=some x→w.cell? ((⟨m.b,0,none⟩:Addr).add j)=some (.int .u8 x.toNat):=fun j x hj=>by
    have hx:(s.map fun x=>Value.int .u8 (x.toNat:Int))[j]?=some (.int .u8 (x.toNat:Int)):=by rw [List.getElem?_map,hj]; rfl
    rw [hl1,List.getElem?_take] at hx
    have hlt:=(List.getElem?_eq_some_iff.1 hj).1
    rw [if_pos hlt] at hx
    obtain ⟨y,hy,hvr⟩:=hcs j _ hx
    cases hvr
    rw [hb0,Nat.zero_add] at hy
    rw [Xi,Nat.zero_add]
    unfold World.cell?
    rw [hO]
    show (if (none:Option Nat).isSome=true then none else c[j]?)=_
    rw [if_neg (by simp)]
    exact hy
  have hle:s.length≤c.size:=by
    have hpos:s.length - 1<s.length:=by omega
    have:=hcell (s.length - 1) _ (List.getElem?_eq_getElem hpos)
    rw [Xi,Nat.zero_add] at this
    unfold World.cell? at this
    rw [hO] at this
    have h8:(if (none:Option Nat).isSome=true then none else c[s.length - 1]?)=_:=this
    rw [if_neg (by simp)] at h8
    have:=(Array.getElem?_eq_some_iff.1 h8).1
    omega
  have hsh:w.shape? m.b=some (e,c.size):=by unfold World.shape?; rw [hO]
  have hrun:=Go.Lib.run_unsafeString_row (P:=P) w pt it ty e hp hc m.b c.size hsh s (fun h=>hn0 (by rw [h]; rfl)) hle (by omega) hcell
  have hO':∃ z',(w.freeze ⟨m.b,0,none⟩ s.length).heap[m.b]?=some (.cells c e z'):=by
    unfold World.freeze
    rw [if_neg hn0]
    simp only [Array.getElem?_modify,if_pos,hO,Option.map_some]
    exact ⟨_,rfl⟩
  obtain ⟨z',hO'⟩:=hO'
  have hor:OR ρ m (.cells false cs e true) (.cells c e z'):=⟨c,z',rfl,⟨hsz,fun _=>hb0⟩,fun h=>by (cases h),hcs⟩
  obtain ⟨hR',hE⟩:=hR.turn hg rfl hm hid (Xr9 w ⟨m.b,0,none⟩ s.length) hO' hor
  exact ⟨ρ,_,_,hrun,hE,hR',.str _⟩
end
end Go.Fw
end

section
namespace Go.Fw
open Go
theorem XqN {p:Program} {fits:TypeId→Bool}:∀ (d:Nat) (e:TypeId) (c c' off n:Nat),c≤c'→rowAt p fits d e c off n=true→rowAt p fits d e c' off n=true
  | 0,_,_,_,_,_,_,h=>by cases h
  | d+1,e,c,c',off,n,hle,h=>by
    unfold rowAt at h ⊢
    dsimp only at h ⊢
    split at h
    · cases h
    · rename_i hs
      rw [if_neg hs]
      rw [Bool.or_eq_true] at h ⊢
      rcases h with h | h
      · left
        simp only [Bool.and_eq_true,beq_iff_eq,decide_eq_true_eq] at h ⊢
        exact ⟨⟨h.1.1,by omega⟩,h.2⟩
      · right
        rw [Bool.and_eq_true] at h ⊢
        exact ⟨by have:=h.1; simp only [decide_eq_true_eq] at this ⊢; omega,h.2⟩
theorem XfY {p:Program}:∀ (d:Nat) (e:TypeId) (c c' off:Nat) (u:TypeId) (n:Nat),c≤c'→liesAt p d e c off u n=true→liesAt p d e c' off u n=true
  | 0,_,_,_,_,_,_,_,h=>by cases h
  | d+1,e,c,c',off,u,n,hle,h=>by
    unfold liesAt at h ⊢
    rw [Bool.or_eq_true] at h ⊢
    rcases h with h | h
    · exact .inl (XqN _ _ _ _ _ _ hle h)
    · right
      split at h
      · rename_i m u' hu
        exact XfY d e c c' off u' (n*m) hle h
      · cases h
section
variable {P:Program} {ρ:Rho} {H H':Hp} {w:World}
theorem Xtw {src dst t:TypeId} {i o n:Nat} {l:List Value} {pv:Value} (hs:P.underlying src=some (.pointer t)) (hd:P.underlying dst=some .unsafePointer) (hn:sz P t=some (n+1)) (hl:XX H i o 1=some l) (hR:Rel ρ H.t w)
    (hv:VR ρ (.pointer (some ⟨i,o,none⟩)) pv):(convert src dst pv).run P w=.ok pv w:=by
  obtain ⟨m,hm,rfl⟩:=hv.ptr_inv
  obtain ⟨m',vs,hm',hvs,hlen,hc⟩:=Zm hR hl
  rw [hm] at hm'; cases hm'
  obtain ⟨y,hy⟩:∃ y,vs[0]?=some y:=⟨vs[0]'(by rw [← hvs.1,hlen]; omega),List.getElem?_eq_getElem _⟩
  have hcell:=hc 0 y hy
  rw [Nat.add_zero] at hcell
  unfold World.cell? at hcell
  cases hO:w.heap[m.b]? with
  | none=>dsimp only at hcell; rw [hO] at hcell; cases hcell
  | some O=>
    dsimp only at hcell
    rw [hO] at hcell
    cases O with
    | cells c e z=>
      have h8:(if (none:Option Nat).isSome=true then none else c[m.base+o]?)=some y:=hcell
      rw [if_neg (by simp)] at h8
      have hlt:=(Array.getElem?_eq_some_iff.1 h8).1
      have hsh:w.shape? m.b=some (e,c.size):=by unfold World.shape?; rw [hO]
      have hz:=Xx (show res P (sizeOf t)=some (n+1) from hn)
      have hno:¬ (c.size≤m.base+o):=by omega
      simp [convert,run_underlying hs,run_underlying hd,Conv.unsafePointer,Conv.seenAt,viewAt,cellsIn,hsh,hz,hno]
    | _=>cases hcell
theorem Xtx {src dst u:TypeId} {i o n:Nat} {wr:Bool} {cs:List Value} {e:TypeId} {pv:Value} (hs:P.underlying src=some .unsafePointer) (hd:P.underlying dst=some (.pointer u)) (hn:sz P u=some (n+1)) (hg:H.t.get i=some (.cells wr cs e true))
    (hl:liesAt P P.depth e (cs.length / P.cellsOf e) o u 1=true) (h0:cs.length≠0) (hR:Rel ρ H.t w) (hv:VR ρ (.pointer (some ⟨i,o,none⟩)) pv):(convert src dst pv).run P w=.ok pv w:=by
  obtain ⟨m,O,hm,hO,c,z,rfl,⟨hsz,hb0⟩,hz,hcs⟩:=hR.live i _ hg rfl
  obtain ⟨m',hm',rfl⟩:=hv.ptr_inv
  rw [hm] at hm'; cases hm'
  have hb0:=hb0 rfl
  have hle:cs.length≤c.size:=by
    obtain ⟨y,hy,_⟩:=hcs (cs.length - 1) _ (List.getElem?_eq_getElem (by omega))
    have:=(Array.getElem?_eq_some_iff.1 hy).1
    omega
  have hsh:w.shape? m.b=some (e,c.size):=by unfold World.shape?; rw [hO]
  have hz:=Xx (show res P (sizeOf u)=some (n+1) from hn)
  have hlies:=XfY _ _ _ (c.size / P.cellsOf e) _ _ _ (Nat.div_le_div_right hle) hl
  rw [hb0,Nat.zero_add]
  simp [convert,run_underlying hs,run_underlying hd,Conv.unsafePointer,Conv.seenAt,viewAt,hsh,hz,variablesAt,hlies]
theorem Xm6 {ts:Array TypeId} {ty:TypeId} {i o l c:Nat} {v:Value} (hc:c≠XJ) (hl:l+1≤c) (hv:VR ρ (.slice (some ⟨i,o,none⟩) (l+1) c) v):∃ p,(Builtin.unsafeSliceData_ ts ty #[v]).run P w=.ok p w∧VR ρ (.pointer (some ⟨i,o,none⟩)) p:=by
  cases hv with
  | slice hm h0=>exact ⟨_,Go.Lib.run_unsafeSliceData_row w ts ty _ _ _ (by omega),.ptr hm⟩
  | sliceO hm h0 hO hcc hll=>exact ⟨_,Go.Lib.run_unsafeSliceData_row w ts ty _ _ _ (by omega),.ptr hm⟩
end
end Go.Fw
end

section
namespace Go.Fw
open Go
def Yi (P:Program) (E:Xv):Prop:=∀ (tg:Tg) (args:List Value) (H:Hp) (c:Value) (H':Hp),E tg args H=some (c,H')→∀ (ρ:Rho) (w:World) (vs:List Value) (K:VWP),Rel ρ H.t w→VRs ρ args vs→Kok ρ H.t w c H'.t K→
  match tg with
  | .f f=>Xa P f ⟨vs⟩ w K
  | .y l=>∀ m,ρ l=some m→Qi P m.b ⟨vs⟩ w K
theorem okk {P:Program} {t:TypeId} {x:Option (Value×Hp)} {c:Value} {H':Hp} (h:(match x with | some (v,H')=>bif Zp P t v then some (v,H') else none | none=>none)=some (c,H')):x=some (c,H')∧Zp P t c=true:=by
  split at h
  · obtain ⟨h1,h2⟩:=Xf h
    cases h2
    exact ⟨rfl,h1⟩
  · cases h
theorem Kok.here {ρ:Rho} {t:HT} {w:World} {c:Value} {K:VWP} (hk:Kok ρ t w c t K) (hR:Rel ρ t w) {v:Value} (hv:VR ρ c v):K v w:=hk ρ w v (Ext.refl ..) hR hv
theorem Kok.ex {P:Program} {ρ:Rho} {t t':HT} {w:World} {c:Value} {ty:TypeId} {K:VWP} (hk:Kok ρ t w c t' K) (hs:Zp P ty c=true):Kok ρ t w c t' fun v w'=>YO P ty fun u=>v=u∧K u w':=
  fun ρ' w' v h1 h2 h3=>Qs h3 hs (K:=fun u=>v=u∧K u w') ⟨rfl,hk ρ' w' v h1 h2 h3⟩
theorem XqO {s:St} {r:Tr Value} {ρ:Rho} (hr:RR ρ r s.r) {as:Array Operand} {a b:Value} (h:evL r as.toList=some [a,b]):∃ x y,as.toList.map s.ev=[x,y]∧VR ρ a x∧VR ρ b y:=by
  obtain ⟨x,l,e1,h1,h2⟩:=(JI hr h).cons_inv
  obtain ⟨y,l2,rfl,h3,h4⟩:=h2.cons_inv
  rw [h4.nil_inv] at e1
  exact ⟨x,y,e1,h1,h3⟩
theorem ts2 {ts:Array TypeId} {a b:TypeId} (h:ts.toList=[a,b]):ts=#[a,b]:=by apply Array.toList_inj.1; rw [h]
theorem Xty {P:Program} {E:Xv} (hE:Yi P E) {ρ:Rho} {o:Oper} {r:Tr Value} {H H':Hp} {s:St} {w:World} (hr:RR ρ r s.r) (hR:Rel ρ H.t w) {c:Value} (h:Yw P E o.op o.type r H=some (c,H')) (hi:Xmf P o.op=true) {K:VWP}
    (hk:Kok ρ H.t w c H'.t K):X5 P o s w K:=by
  obtain ⟨dst,op,ty,pos,after,guard⟩:=o
  cases op with
  | load t x=>
    dsimp only [Yw,okV,ef0,ef1,ef2,ef3,ef4,ef5,ef6,ef7,ef8,ef9,ZO,ZP,ZQ,ZR,ZS,ZT,ZU,ZV,ZW,ZX] at h
    try simp only [Xu,Xw,Xn,Xq] at h
    split at h
    · rename_i a ha
      split at h
      · rename_i v hv
        obtain ⟨hs,h⟩:=Xf h
        cases h
        obtain ⟨u,hu,hvr⟩:=XkH hR hv (Xo hr ha)
        exact Qs hvr hs (K:=fun u=>Ld P t (s.ev x) w u∧K u w) ⟨hu,hk.here hR hvr⟩
      · cases h
    · cases h
  | store t x v=>
    dsimp only [Yw,okV,ef0,ef1,ef2,ef3,ef4,ef5,ef6,ef7,ef8,ef9,ZO,ZP,ZQ,ZR,ZS,ZT,ZU,ZV,ZW,ZX] at h
    try simp only [Xu,Xw,Xn,Xq] at h
    split at h
    · rename_i a b ha hb
      split at h
      · rename_i H2 hs
        cases h
        obtain ⟨w',h1,h2,h3⟩:=XqH (P:=P) hR hs (Xo hr ha) (Xo hr hb)
        exact ⟨w',h1,hk ρ w' undef h2 h3 (VRs.tuple (.nil ρ))⟩
      · cases h
    · cases h
  | alloc t=>
    dsimp only [Yw,okV,ef0,ef1,ef2,ef3,ef4,ef5,ef6,ef7,ef8,ef9,ZO,ZP,ZQ,ZR,ZS,ZT,ZU,ZV,ZW,ZX] at h
    try simp only [Xu,Xw,Xn,Xq] at h
    split at h
    · rename_i z hz
      obtain ⟨hza,h⟩:=Xf h
      split at h
      · rename_i k H2 hn
        cases h
        exact XqI hz hza hn hR hk
      · cases h
    · cases h
  | box t x=>
    dsimp only [Yw,okV,ef0,ef1,ef2,ef3,ef4,ef5,ef6,ef7,ef8,ef9,ZO,ZP,ZQ,ZR,ZS,ZT,ZU,ZV,ZW,ZX] at h
    try simp only [Xu,Xw,Xn,Xq] at h
    split at h
    · rename_i v hv
      split at h
      · rename_i k H2 hn
        cases h
        exact Xtv (Xo hr hv) hn hR hk
      · cases h
    · cases h
  | buildSlice t n ps=>
    dsimp only [Yw,okV,ef0,ef1,ef2,ef3,ef4,ef5,ef6,ef7,ef8,ef9,ZO,ZP,ZQ,ZR,ZS,ZT,ZU,ZV,ZW,ZX] at h
    try simp only [Xu,Xw,Xn,Xq] at h
    split at h
    · rename_i e vs hu hvs
      split at h
      · rename_i sz z hs hz
        obtain ⟨hc,h⟩:=Xf h
        rw [Bool.and_eq_true,Bool.and_eq_true,Bool.and_eq_true] at hc
        split at h
        · rename_i cells hf
          split at h
          · rename_i k H2 hn
            obtain ⟨hs2,h⟩:=Xf h
            cases h
            exact Jc (XqJ hu hs hz (beq_iff.1 hc.1.1.1) (Nat.le_of_ble_eq_true hc.1.1.2) hc.1.2 (XmX hr hvs) (XbZ hf) hR hn (ZM hc.2)) hs2 hk
          · cases h
        · cases h
      · cases h
    · cases h
  | makeSlice t l cp=>
    dsimp only [Yw,okV,ef0,ef1,ef2,ef3,ef4,ef5,ef6,ef7,ef8,ef9,ZO,ZP,ZQ,ZR,ZS,ZT,ZU,ZV,ZW,ZX] at h
    try simp only [Xu,Xw,Xn,Xq] at h
    split at h
    · rename_i e kl l kc cp hu hl hcp
      split at h
      · rename_i sz z hs hz
        obtain ⟨hc,h⟩:=Xf h
        rw [Bool.and_eq_true,Bool.and_eq_true,Bool.and_eq_true] at hc
        split at h
        · rename_i k H2 hn
          obtain ⟨hs2,h⟩:=Xf h
          cases h
          have e1:=(Xo hr hl).int_inv
          have e2:=(Xo hr hcp).int_inv
          show Ym P ty (Instr.makeSlice t _ _) w K
          rw [e1,e2]
          exact Jc (Xr7 hc.1.1.1 hu hz (Nat.le_of_ble_eq_true hc.1.1.2) (Nat.le_of_ble_eq_true hc.1.2) hc.2 hR hn) hs2 hk
        · cases h
      · cases h
    · cases h
  | makeMap t rs=>
    cases rs with
    | none=>
      dsimp only [Yw,okV,ef0,ef1,ef2,ef3,ef4,ef5,ef6,ef7,ef8,ef9,ZO,ZP,ZQ,ZR,ZS,ZT,ZU,ZV,ZW,ZX] at h
      try simp only [Xu,Xw,Xn,Xq] at h
      split at h
      · rename_i k H2 hn
        obtain ⟨hs2,h⟩:=Xf h
        cases h
        exact Jc (XdR (.inl rfl) hn hR) hs2 hk
      · cases h
    | some x=>
      dsimp only [Yw,okV,ef0,ef1,ef2,ef3,ef4,ef5,ef6,ef7,ef8,ef9,ZO,ZP,ZQ,ZR,ZS,ZT,ZU,ZV,ZW,ZX] at h
      try simp only [Xu,Xw,Xn,Xq] at h
      split at h
      · rename_i a b kk n hu hx
        split at h
        · rename_i k H2 hn
          obtain ⟨hs2,h⟩:=Xf h
          cases h
          have e1:=(Xo hr hx).int_inv
          show Ym P ty (Instr.makeMap t (some (s.ev x))) w K
          rw [e1]
          exact Jc (XdR (.inr ⟨a,b,kk,n,hu,rfl⟩) hn hR) hs2 hk
        · cases h
      · cases h
  | lookup t x k cok=>
    dsimp only [Yw,okV,ef0,ef1,ef2,ef3,ef4,ef5,ef6,ef7,ef8,ef9,ZO,ZP,ZQ,ZR,ZS,ZT,ZU,ZV,ZW,ZX] at h
    try simp only [Xu,Xw,Xn,Xq] at h
    split at h
    · rename_i kt e i kv hu hx hkv
      split at h
      · rename_i es cl ty' z hg hkt hz
        obtain ⟨hc,h⟩:=Xf h
        rw [Bool.and_eq_true,Bool.and_eq_true,Bool.and_eq_true] at hc
        have ek:=XdL hr hkv hc.1.1.1
        split at h
        · rename_i v hf
          obtain ⟨hs2,h⟩:=Xf h
          cases h
          show Ym P ty (Instr.lookup t _ _ _) w K
          rw [ek]
          exact Jc (XfX hu hkt hz hc.2 hR hg (Xo hr hx) hc.1.1.2 hf) hs2 hk
        · rename_i hf
          obtain ⟨hs2,h⟩:=Xf h
          cases h
          show Ym P ty (Instr.lookup t _ _ _) w K
          rw [ek]
          exact Jc (XfX hu hkt hz hc.2 hR hg (Xo hr hx) hc.1.1.2 hf) hs2 hk
        · cases h
      · cases h
    · cases h
  | mapUpdate t m k x=>
    dsimp only [Yw,okV,ef0,ef1,ef2,ef3,ef4,ef5,ef6,ef7,ef8,ef9,ZO,ZP,ZQ,ZR,ZS,ZT,ZU,ZV,ZW,ZX] at h
    try simp only [Xu,Xw,Xn,Xq] at h
    split at h
    · rename_i m' k' x' h1 h2 h3
      split at h
      · rename_i H2 hp
        cases h
        obtain ⟨w',h4,h5,h6⟩:=XgB (P:=P) hp hR (Xo hr h1) (Xo hr h2) (Xo hr h3)
        exact ⟨w',h4,hk ρ w' undef h5 h6 (VRs.tuple (.nil ρ))⟩
      · cases h
    · cases h
  | insert t m k x=>
    dsimp only [Yw,okV,ef0,ef1,ef2,ef3,ef4,ef5,ef6,ef7,ef8,ef9,ZO,ZP,ZQ,ZR,ZS,ZT,ZU,ZV,ZW,ZX] at h
    try simp only [Xu,Xw,Xn,Xq] at h
    split at h
    · rename_i m' k' x' h1 h2 h3
      split at h
      · rename_i H2 hp
        cases h
        obtain ⟨w',h4,h5,h6⟩:=XgB (P:=P) hp hR (Xo hr h1) (Xo hr h2) (Xo hr h3)
        exact ⟨w',h4,hk ρ w' undef h5 h6 (VRs.tuple (.nil ρ))⟩
      · cases h
    · cases h
  | range t x=>
    dsimp only [Yw,okV,ef0,ef1,ef2,ef3,ef4,ef5,ef6,ef7,ef8,ef9,ZO,ZP,ZQ,ZR,ZS,ZT,ZU,ZV,ZW,ZX] at h
    try simp only [Xu,Xw,Xn,Xq] at h
    split at h
    · rename_i kt e i hu hx
      split at h
      · rename_i es cl hg
        split at h
        · rename_i k H2 hn
          cases h
          exact XqK hu hg hn hR (Xo hr hx) hk
        · cases h
      · cases h
    · cases h
  | next it isS=>
    cases isS with
    | true=>cases h
    | false=>
      dsimp only [Yw,okV,ef0,ef1,ef2,ef3,ef4,ef5,ef6,ef7,ef8,ef9,ZO,ZP,ZQ,ZR,ZS,ZT,ZU,ZV,ZW,ZX] at h
      try simp only [Xu,Xw,Xn,Xq] at h
      split at h
      · rename_i k hx
        split at h
        · rename_i i since seen last hg
          split at h
          · rename_i cl hm
            obtain ⟨hc,h⟩:=Xf h
            cases h
            rw [Bool.and_eq_true] at hc
            obtain rfl:=beq_iff.1 hc.1
            exact Xhz hR hg hm (Xo hr hx) (Nat.le_of_ble_eq_true hc.2) (by simp) hk
          · rename_i key v b cl hm
            obtain ⟨hc,h⟩:=Xf h
            cases h
            rw [Bool.and_eq_true,Bool.and_eq_true,Bool.and_eq_true] at hc
            obtain rfl:=beq_iff.1 hc.1.1.2
            exact Xr8 hR hg hm (Xo hr hx) hc.2 (Nat.le_of_ble_eq_true hc.1.2) (Nat.le_of_ble_eq_true hc.1.1.1) hk
          · rename_i b cl b' key v hm
            obtain ⟨hc,h⟩:=Xf h
            cases h
            rw [Bool.and_eq_true,Bool.and_eq_true,Bool.and_eq_true] at hc
            obtain rfl:=beq_iff.1 hc.1.2
            obtain rfl:=beq_iff.1 hc.1.1.1
            have hb:=Nat.le_of_ble_eq_true hc.1.1.2
            exact Xhz hR hg hm (Xo hr hx) (Nat.le_of_ble_eq_true hc.2) (fun x hx=>by simp at hx; subst hx; exact ⟨_,rfl,hb,by simp⟩) hk
          · cases h
        · cases h
      · cases h
  | entry it=>
    dsimp only [Yw,okV,ef0,ef1,ef2,ef3,ef4,ef5,ef6,ef7,ef8,ef9,ZO,ZP,ZQ,ZR,ZS,ZT,ZU,ZV,ZW,ZX] at h
    try simp only [Xu,Xw,Xn,Xq] at h
    split at h
    · rename_i k hx
      split at h
      · rename_i i since b' last hg
        split at h
        · rename_i key v b cl hm
          obtain ⟨hc,h⟩:=Xf h
          cases h
          rw [Bool.and_eq_true] at hc
          obtain rfl:=beq_iff.1 hc.1
          obtain rfl:=beq_iff.1 hc.2
          exact XqL hR hg hm (Xo hr hx) hk
        · cases h
      · cases h
    · cases h
  | convert src dst' x=>
    have hn:∀ {a b:TypeDesc},P.underlying src=some a→P.underlying dst'=some b→(match a,b with | .int _,.int _=>false | _,_=>true)=true→(XO P src && XO P dst')=false:=by
      intro a b h1 h2 h3
      unfold XO
      rw [h1,h2]
      cases a <;> cases b <;> first | rfl | cases h3
    dsimp only [Yw,okV,ef0,ef1,ef2,ef3,ef4,ef5,ef6,ef7,ef8,ef9,ZO,ZP,ZQ,ZR,ZS,ZT,ZU,ZV,ZW,ZX] at h
    try simp only [Xu,Xw,Xn,Xq] at h
    split at h
    · rename_i e bs hu1 hu2 hx
      split at h
      · rename_i he
        split at h
        · rename_i k H2 hnw
          obtain ⟨hs2,h⟩:=Xf h
          cases h
          show bif XO P src && XO P dst' then _ else _
          rw [hn hu1 hu2 rfl]
          show Ym P ty (convert src dst' (s.ev x)) w K
          have hv:=Xo hr hx
          cases e1:s.ev x <;> rw [e1] at hv <;> cases hv
          exact Jc (XqM hu1 hu2 he hR hnw) hs2 hk
        · cases h
      · cases h
    · rename_i e v hu1 hu2 hx
      split at h
      · rename_i q n cp he
        split at h
        · rename_i l hrow
          split at h
          · rename_i bs hst
            obtain ⟨hs2,h⟩:=Xf h
            cases h
            show bif XO P src && XO P dst' then _ else _
            rw [hn hu1 hu2 rfl]
            exact Jc (XoX hu1 hu2 he hR hrow hst (Xo hr hx)) hs2 hk
          · cases h
        · cases h
      · cases h
    · rename_i t i of hu1 hu2 hx
      split at h
      · rename_i n l hz hl
        obtain ⟨hs2,h⟩:=Xf h
        cases h
        show bif XO P src && XO P dst' then _ else _
        rw [hn hu1 hu2 rfl]
        exact VM (Xo hr hx) hs2 (Xtw hu1 hu2 hz hl hR (Xo hr hx)) (hk.here hR (Xo hr hx))
      · cases h
    · rename_i u i of hu1 hu2 hx
      split at h
      · rename_i wr cs e n hg hz
        obtain ⟨hc,h⟩:=Xf h
        obtain ⟨hs2,h⟩:=Xf h
        cases h
        rw [Bool.and_eq_true,Bool.not_eq_true'] at hc
        show bif XO P src && XO P dst' then _ else _
        rw [hn hu1 hu2 rfl]
        exact VM (Xo hr hx) hs2 (Xtx hu1 hu2 hz hg hc.1 (Zk.1 hc.2) hR (Xo hr hx)) (hk.here hR (Xo hr hx))
      · cases h
    · cases h
  | call cl=>
    obtain ⟨callee,as,ts⟩:=cl
    cases callee with
    | value x=>
      have key:Yv P (s.ev x) (as.toList.map s.ev) w (fun v w'=>YO P ty fun u=>v=u∧K u w'):=by
        refine Js ?_
        dsimp only [Yw,okV,ef0,ef1,ef2,ef3,ef4,ef5,ef6,ef7,ef8,ef9,ZO,ZP,ZQ,ZR,ZS,ZT,ZU,ZV,ZW,ZX] at h
        try simp only [Xu,Xw,Xn,Xq] at h
        split at h
        · rename_i g fs cs vs hx hvs
          obtain ⟨h,hs2⟩:=okk h
          have hv:=Xo hr hx
          have hargs:=JI hr hvs
          cases e1:s.ev x with
          | func fn first cap=>
            rw [e1] at hv
            cases hv with
            | func h1 h2 h3 h4=>
              exact hE (.f g) _ H c H' h ρ w _ _ hR (VRs.append (VRs.append ⟨h1,h2⟩ hargs) ⟨h3,h4⟩) (hk.ex hs2)
          | _=>rw [e1] at hv; cases hv
        · rename_i l fs cs vs hx hvs
          obtain ⟨h,hs2⟩:=okk h
          have hv:=Xo hr hx
          have hargs:=JI hr hvs
          cases e1:s.ev x with
          | func fn first cap=>
            rw [e1] at hv
            cases hv with
            | yield hm=>exact hE (.y l) _ H c H' h ρ w _ _ hR hargs (hk.ex hs2) _ hm
          | _=>rw [e1] at hv; cases hv
        · cases h
      cases x with
      | func f=>
        have h2:=XdB key
        have e0:V8 P (s.ev (.func f)) (as.toList.map s.ev) w (fun v w'=>YO P ty fun u=>v=u∧K u w')=Xa P f ⟨[]++as.toList.map s.ev++[]⟩ w (fun v w'=>YO P ty fun u=>v=u∧K u w'):=rfl
        rw [e0,List.nil_append,List.append_nil] at h2
        exact h2
      | tmp t=>exact key
      | const v=>exact key
      | global g=>exact key
    | invoke=>cases h
    | builtin b=>
      cases b with
      | append=>
        dsimp only [Yw,okV,ef0,ef1,ef2,ef3,ef4,ef5,ef6,ef7,ef8,ef9,ZO,ZP,ZQ,ZR,ZS,ZT,ZU,ZV,ZW,ZX] at h
        try simp only [Xu,Xw,Xn,Xq] at h
        split at h
        · rename_i t tx sv xv hts hl
          have hts:=ts2 hts
          subst hts
          obtain ⟨vs,vx,e1,hvs,hvx⟩:=XqO hr hl
          split at h
          · rename_i e d hu hux
            split at h
            · rename_i k hsz
              obtain ⟨hab,h⟩:=Xf h
              split at h
              · rename_i n new harg
                obtain ⟨h,hs2⟩:=okk h
                obtain ⟨e',i',z',hu',hi',hsz',hz',hzc,hby⟩:=J2 hab
                rw [hu] at hu'; cases hu'
                have hz:=Xb0 hi' hz'
                obtain ⟨news,hax,hnv⟩:=Xr5 hab hu hz hux hR hvx harg
                show Ym P ty (Builtin.append_ #[t,tx] ty ⟨as.toList.map s.ev⟩) w K
                rw [e1]
                exact Jc (XoW hab hu hz hR hvs hax hnv h) hs2 hk
              · cases h
            · cases h
          · cases h
        · cases h
      | copy=>
        dsimp only [Yw,okV,ef0,ef1,ef2,ef3,ef4,ef5,ef6,ef7,ef8,ef9,ZO,ZP,ZQ,ZR,ZS,ZT,ZU,ZV,ZW,ZX] at h
        try simp only [Xu,Xw,Xn,Xq] at h
        split at h
        · rename_i t tx i of dl cp xv hts hl
          have hts:=ts2 hts
          subst hts
          obtain ⟨vs,vx,e1,hvs,hvx⟩:=XqO hr hl
          split at h
          · rename_i e hu
            split at h
            · rename_i sz n hsz hn
              split at h
              · rename_i l hrow
                split at h
                · rename_i H2 hput
                  obtain ⟨hc,h⟩:=Xf h
                  obtain ⟨hs2,h⟩:=Xf h
                  cases h
                  rw [Bool.not_eq_true'] at hc
                  show Ym P ty (Builtin.copy_ #[t,tx] ty ⟨as.toList.map s.ev⟩) w K
                  rw [e1]
                  exact Jc (Xr6 hu hsz hn hR hrow hput (Zk.1 hc) hvx hvs) hs2 hk
                · cases h
              · cases h
            · cases h
          · cases h
        · cases h
      | unsafeSliceData=>
        dsimp only [Yw,okV,ef0,ef1,ef2,ef3,ef4,ef5,ef6,ef7,ef8,ef9,ZO,ZP,ZQ,ZR,ZS,ZT,ZU,ZV,ZW,ZX] at h
        try simp only [Xu,Xw,Xn,Xq] at h
        split at h
        · rename_i l cp hl
          obtain ⟨hs2,h⟩:=Xf h
          cases h
          obtain ⟨x,xs,e1,hx,hxs⟩:=(JI hr hl).cons_inv
          rw [hxs.nil_inv] at e1
          cases hx
          show Ym P ty (Builtin.unsafeSliceData_ ts ty ⟨as.toList.map s.ev⟩) w K
          rw [e1]
          exact VM (ρ:=ρ) .ptr0 hs2 (Go.Lib.run_unsafeSliceData_nil w ts ty _ _) (hk.here hR .ptr0)
        · rename_i i of l cp hl
          obtain ⟨hc,h⟩:=Xf h
          obtain ⟨hs2,h⟩:=Xf h
          cases h
          rw [Bool.and_eq_true,Bool.not_eq_true'] at hc
          obtain ⟨x,xs,e1,hx,hxs⟩:=(JI hr hl).cons_inv
          rw [hxs.nil_inv] at e1
          obtain ⟨p,h1,h2⟩:=Xm6 (P:=P) (w:=w) (ts:=ts) (ty:=ty) (Zk.1 hc.1) (Nat.le_of_ble_eq_true hc.2) hx
          show Ym P ty (Builtin.unsafeSliceData_ ts ty ⟨as.toList.map s.ev⟩) w K
          rw [e1]
          exact VM h2 hs2 h1 (hk.here hR h2)
        · cases h
      | unsafeString=>
        dsimp only [Yw,okV,ef0,ef1,ef2,ef3,ef4,ef5,ef6,ef7,ef8,ef9,ZO,ZP,ZQ,ZR,ZS,ZT,ZU,ZV,ZW,ZX] at h
        try simp only [Xu,Xw,Xn,Xq] at h
        split at h
        · rename_i pt it p n hts hl
          have hts:=ts2 hts
          subst hts
          obtain ⟨vp,vn,e1,hvp,hvn⟩:=XqO hr hl
          have en:=hvn.int_inv
          subst en
          show Ym P ty (Builtin.unsafeString_ #[pt,it] ty ⟨as.toList.map s.ev⟩) w K
          rw [e1]
          cases h0:Nat.beq n 0 with
          | true=>
            rw [h0] at h
            obtain rfl:=beq_iff.1 h0
            obtain ⟨hs2,h⟩:=Xf h
            cases h
            obtain ⟨q,hq⟩:∃ q,vp=.pointer q:=by cases hvp <;> exact ⟨_,rfl⟩
            subst hq
            exact VM (ρ:=ρ) (.str _) hs2 (Go.Lib.run_unsafeString_none w pt it ty q) (hk.here hR (.str _))
          | false=>
            rw [h0] at h
            simp only [cond_false] at h
            split at h
            · rename_i i
              split at h
              · rename_i u wr cs e hu hg
                split at h
                · rename_i l hl2
                  split at h
                  · rename_i bs hst
                    obtain ⟨hc,h⟩:=Xf h
                    obtain ⟨hs2,h⟩:=Xf h
                    cases h
                    rw [Bool.and_eq_true,Bool.and_eq_true,Bool.and_eq_true] at hc
                    obtain rfl:=beq_iff.1 hc.1.1.2
                    exact Jc (H':=⟨H.n,Hp.put H.t i (.cells false cs u true)⟩) (Xsa hu (beq_iff.1 hc.1.2) hR hg hc.1.1.1 hl2 hst (Zk.1 h0) (Nat.le_of_ble_eq_true hc.2) hvp) hs2 hk
                  · cases h
                · cases h
              · cases h
            · cases h
        · cases h
      | _=>cases h
  | _=>cases h
end Go.Fw
end

section
namespace Go.Fw
open Go
noncomputable section
abbrev Ss:=Tr Value×Hp
def XdT (nt:Nat) (dst:Option Tmp) (v:Value) (r:Tr Value):Option (Tr Value):=
  match dst with
  | none=>some r
  | some d=>bif Nat.blt d nt && XS d then some (Tr.set 12 r d (some v)) else none
def XdU (P:Program) (E:Xv) (nt:Nat) (o:Oper) (r:Tr Value) (H:Hp):Option Ss:=
  match o with
  | ⟨dst,q,ty,_,_,_⟩=>match XaI P E q ty r H with | some (v,H')=>(match XdT nt dst v r with | some r'=>some (r',H') | none=>none) | none=>none
def XdV (nt:Nat) (o:Oper) (r:Tr Value) (H:Hp):Option Ss:=match XdT nt o.dst undef r with | some r'=>some (r',H) | none=>none
def Xmg (P:Program) (E:Xv) (nt:Nat) (all:Array Oper) (o:Oper) (r:Tr Value) (H:Hp):Option Ss:=
  match o.guard with
  | none=>XdU P E nt o r H
  | some (j,want)=>
    match (all[j]?).bind (·.dst) with
    | none=>XdV nt o r H
    | some d=>match r.get d with
      | some (.bool b)=>(match want,b with | true,true | false,false=>XdU P E nt o r H | _,_=>XdV nt o r H)
      | some (.tuple _)=>XdV nt o r H
      | _=>none
def Xmh (P:Program) (E:Xv) (nt:Nat) (all:Array Oper):List Oper→Tr Value→Hp→Option Ss
  | [],r,H=>some (r,H)
  | o::rest,r,H=>match Xmg P E nt all o r H with | some (r',H')=>Xmh P E nt all rest r' H' | none=>none
def cellB:Value→Value→Bool
  | .bool a,.bool b=>(match a,b with | true,true | false,false=>true | _,_=>false)
  | .int j a,.int k b=>kB j k && (match a,b with | .ofNat x,.ofNat y=>Nat.beq x y | .negSucc x,.negSucc y=>Nat.beq x y | _,_=>false)
  | .string a,.string b=>a.data.toList == b.data.toList
  | .pointer none,.pointer none=>true
  | .pointer (some ⟨i,o,none⟩),.pointer (some ⟨j,p,none⟩)=>Nat.beq i j && Nat.beq o p
  | .slice none a b,.slice none c d=>Nat.beq a c && Nat.beq b d
  | .slice (some ⟨i,o,none⟩) a b,.slice (some ⟨j,p,none⟩) c d=>Nat.beq i j && Nat.beq o p && Nat.beq a c && Nat.beq b d
  | .map none,.map none=>true
  | .map (some i),.map (some j)=>Nat.beq i j
  | .nilFunc,.nilFunc=>true
  | .nilIface,.nilIface=>true
  | _,_=>false
def XdW:List Value→List Value→Bool
  | [],[]=>true
  | a::l,b::m=>cellB a b && XdW l m
  | _,_=>false
def XqP:Value→Value→Bool
  | .func (.func f) as cs,.func (.func g) bs ds=>Nat.beq f g && XdW as.toList bs.toList && XdW cs.toList ds.toList
  | a,b=>cellB a b
def XhA:List Value→List Value→Bool
  | [],[]=>true
  | a::l,b::m=>XqP a b && XhA l m
  | _,_=>false
structure Hold where
  i:Nat
  o:Nat
  vs:List Value
def Hold.ok (h:Hold) (t:HT):Bool:=match XX ⟨0,t⟩ h.i h.o h.vs.length with | some l=>XhA h.vs l | none=>false
def XgC (P:Program) (o:Oper) (r:Tr Value) (H:Hp):Option Hold:=
  match o.op with
  | .load t x=>(match evO r x,XmQ P t,szF P t with
    | some (.pointer (some ⟨i,f,none⟩)),some true,some n=>(match XX H i f n with | some l=>some ⟨i,f,l⟩ | none=>none)
    | some (.pointer (some ⟨i,f,none⟩)),some false,_=>(match XX H i f 1 with | some l=>some ⟨i,f,l⟩ | none=>none)
    | _,_,_=>none)
  | _=>none
abbrev WB:=List Hold×List HT
def XpX (s:WB) (t:HT):Bool:=s.1.all fun y=>y.vs.all Qp && y.ok t && s.2.all fun t'=>y.ok t'
def Vh (P:Program) (all:Array Oper) (held:List Nat) (i:Nat) (h:Bool) (o:Oper) (r:Tr Value) (H H':Hp) (s:WB):WB:=
  bif h then (match XgC P o r H with | some y=>(y::s.1,H.t::s.2) | none=>s)
  else bif XP P o || !Z9 all held i then s else (s.1,H'.t::s.2)
inductive Xt where
  | normal
  | exit (i:Nat)
  | ret
abbrev Cs:=Xt×Tr Value×Hp×List Nat
def Xbh (body:Tr Value→Hp→Option Cs):Nat→Tr Value→Hp→Option Cs
  | 0,_,_=>none
  | k+1,r,H=>match body r H with
    | some (.normal,r',H',_)=>Xbh body k r' H'
    | x=>x
def XhB:List Nat→List Nat→Bool
  | [],[]=>true
  | a::l,b::m=>Nat.beq a b && XhB l m
  | _,_=>false
def Xe8 (fn : Func) : Bool := !(fn.name == "runtime.NumGoroutine")
def XhC (P:Program) (f:FuncId):Bool:=match fnF P f with | some fn=>Xe8 fn && fn.body.isSome | none=>false
def Xuu (P:Program) (E:Xv) (nt:Nat) (fork:Array Oper→Tr Value→Hp→Option Ss) (ops:Array Oper) (draw:Bool) (r:Tr Value) (H:Hp) (ds:List Nat):Option Cs:=
  let out (x:Option Ss):Option Cs:=match x with | some (r',H')=>some (.normal,r',H',ds) | none=>none
  match draw with
  | false=>out (Xmh P E nt ops ops.toList r H)
  | true=>
    bif Vc P ops then out (fork ops r H) else none
def Xm7 (P:Program) (E:Xv) (nt:Nat) (g:Operand) (ps:Array Tmp) (assign body:Code) (r:Tr Value) (H:Hp) (ds:List Nat):Option Cs:=

      (match evO r g with
      | some (.func (.func gf) fs cs)=>
        bif XhC P gf then (match H.new .df with
        | none=>none
        | some (d,H1)=>match H1.new (.loop r nt ps.toList assign body) with
          | none=>none
          | some (l,H2)=>match E (.f gf) (fs.toList++[.func (.yield l) #[] #[]]++cs.toList) H2 with
            | none=>none
            | some (_,H3)=>match H3.t.get l with
              | some (.loop _ _ _ _ _)=>bif XS l then some (.normal,r,⟨H3.n,Hp.put H3.t l .dead⟩,d::ds) else none
              | _=>none) else none
      | _=>none)
def evC (P:Program) (E:Xv) (nt:Nat) (own:Bool) (fuel:Nat) (fork:Array Oper→Tr Value→Hp→Option Ss):Code→Tr Value→Hp→List Nat→Option Cs
  | .skip,r,H,ds=>some (.normal,r,H,ds)
  | .region _ ops draw,r,H,ds=>Xuu P E nt fork ops draw r H ds
  | .seq a b,r,H,ds=>
    (match evC P E nt own fuel fork a r H ds with
    | some (.normal,r',H',ds')=>evC P E nt own fuel fork b r' H' ds'
    | x=>x)
  | .cond c t e,r,H,ds=>(match evO r c with | some (.bool b)=>(match b with | true=>evC P E nt own fuel fork t r H ds | false=>evC P E nt own fuel fork e r H ds) | _=>none)
  | .block id b,r,H,ds=>
    (match evC P E nt own fuel fork b r H ds with
    | some (.exit i,r',H',ds')=>bif Nat.beq i id then some (.normal,r',H',ds') else some (.exit i,r',H',ds')
    | x=>x)
  | .loop b,r,H,ds=>Xbh (fun r H=>match evC P E nt own fuel fork b r H ds with | some (.normal,r',H',ds')=>bif XhB ds ds' then some (.normal,r',H',ds') else none | x=>x) fuel r H
  | .exit id,r,H,ds=>some (.exit id,r,H,ds)
  | .ret,r,H,ds=>some (.ret,r,H,ds)
  | .rangeFunc g ps assign body,r,H,ds=>bif own then Xm7 P E nt g ps assign body r H ds else none
  | _,_,_,_=>none
def Xbi:List Nat→Hp→Option Hp
  | [],H=>some H
  | d::ds,H=>match H.t.get d with
    | some .df=>bif XS d then Xbi ds ⟨H.n,Hp.put H.t d .dead⟩ else none
    | _=>none
def Xbj:List Value→Nat→Tr Value→Tr Value
  | [],_,r=>r
  | v::vs,i,r=>Xbj vs (i+1) (Tr.set 12 r i (some v))
def XhD (nt:Nat):List Tmp→List Value→Tr Value→Option (Tr Value)
  | [],[],r=>some r
  | p::ps,v::vs,r=>bif XS p && Nat.blt p nt then XhD nt ps vs (Tr.set 12 r p (some v)) else none
  | _,_,_=>none
def Xb3 (P:Program) (r:Tr Value) (H:Hp):List ResultVar→Option (List Value)
  | []=>some []
  | .tmp t::rs=>(match r.get t,Xb3 P r H rs with | some v,some vs=>some (v::vs) | _,_=>none)
  | .cell a t::rs=>(match r.get a,Xb3 P r H rs with
    | some x,some vs=>(match Qr P H t x with | some v=>some (v::vs) | none=>none)
    | _,_=>none)
def XhE (P:Program) (X:FuncId→List Value→Hp→Option (Value×Hp)) (fuel:Nat) (fork:Xv→Nat→Array Oper→Tr Value→Hp→Option Ss) (E:Xv):Xv
  | .f f,args,H=>
    (match X f args H with
    | some x=>some x
    | none=>
      match fnF P f with
      | none=>none
      | some fn=>match fn.body with
        | none=>none
        | some c=>bif Xe8 fn && Nat.ble args.length fn.ntmps && Nat.ble fn.ntmps 4000 then
          (match evC P E fn.ntmps true fuel (fork E fn.ntmps) c (Xbj args 0 .nil) H [] with
          | some (.exit _,_)=>none
          | some (_,r,H',ds)=>(match Xbi ds H' with
            | some H''=>(match Xb3 P r H'' fn.results.toList with | some vs=>some (Xe2 vs,H'') | none=>none)
            | none=>none)
          | none=>none) else none)
  | .y l,args,H=>
    (match H.t.get l with
    | some (.loop r nt ps assign body)=>
      bif XS l then
        (match XhD nt ps args r with
        | some r1=>(match evC P E nt false fuel (fork E nt) assign r1 ⟨H.n,Hp.put H.t l .dead⟩ [] with
          | some (.normal,r2,H2,[])=>(match evC P E nt false fuel (fork E nt) body r2 H2 [] with
            | some (.normal,_,H3,[])=>(match H3.t.get l with | some .dead=>some (.bool true,⟨H3.n,Hp.put H3.t l (.loop r nt ps assign body)⟩) | _=>none)
            | _=>none)
          | _=>none)
        | none=>none)
      else none
    | _=>none)
def evN (P:Program) (X:FuncId→List Value→Hp→Option (Value×Hp)) (fuel:Nat) (fork:Xv→Nat→Array Oper→Tr Value→Hp→Option Ss):Nat→Xv
  | 0=>fun _ _ _=>none
  | n+1=>XhE P X fuel fork (evN P X fuel fork n)
end
end Go.Fw
end
