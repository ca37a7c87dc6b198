/- A part of a proof of a given law of this program: lemmas, printed forms of its functions, contracts. It has no conditions of its own. -/
import Derived.Test.YtlnohlefimgdnaaGreatDoorME1

set_option maxHeartbeats 16000000
set_option linter.unusedVariables false
set_option linter.unusedSimpArgs false
section
namespace Go.Fw
open Go
def RN (nt:Nat) (r:Tr Value):Prop:=∀ t c,r.get t=some c→t<nt
structure Sm (ρ:Rho) (nt:Nat) (r:Tr Value) (t:HT) (s:St) (w:World):Prop where
  rr:RR ρ r s.r
  rn:RN nt r
  rel:Rel ρ t w
def Nx (ρ:Rho) (t:HT) (w:World) (ds:List Deferred) (nt:Nat) (r':Tr Value) (t':HT) (next:St→World→Prop):Prop:=∀ ρ' w' s',Ext ρ t w ρ' t' w'→Sm ρ' nt r' t' s' w'→s'.ds=ds→next s' w'
theorem Jn {r:Tr Value} {d:Nat} (h:XS d=true) (x:Option Value) (j:Nat):(Tr.set 12 r d x).get j=if j=d then x else r.get j:=Tr.get_set 12 r d x j (XmN h)
theorem RR.set {ρ:Rho} {r:Tr Value} {s:St} (hr:RR ρ r s.r) {d:Nat} (h:XS d=true) {c v:Value} (hv:VR ρ c v):RR ρ (Tr.set 12 r d (some c)) (s.up d v).r:=fun t x hx=>by
  rw [Jn h] at hx
  rw [St.up_r]
  by_cases e:t=d
  · rw [if_pos e] at hx ⊢; cases hx; exact hv
  · rw [if_neg e] at hx ⊢; exact hr t x hx
theorem RN.set {nt:Nat} {r:Tr Value} (hr:RN nt r) {d:Nat} (h:XS d=true) (hd:d<nt) (c:Value):RN nt (Tr.set 12 r d (some c)):=fun t x hx=>by
  rw [Jn h] at hx
  by_cases e:t=d
  · rw [e]; exact hd
  · rw [if_neg e] at hx; exact hr t x hx
theorem Xah {nt:Nat} {dst:Option Tmp} {c v:Value} {r r':Tr Value} {ρ:Rho} {s:St} (h:XdT nt dst c r=some r') (hr:RR ρ r s.r) (hn:RN nt r) (hv:VR ρ c v) {K:St→Prop} (hk:∀ s',RR ρ r' s'.r→RN nt r'→s'.ds=s.ds→K s'):put nt dst v s K:=by
  unfold XdT at h
  cases dst with
  | none=>cases h; exact hk s hr hn rfl
  | some d=>
    obtain ⟨hc,h⟩:=Xf h
    cases h
    rw [Bool.and_eq_true] at hc
    show bif Nat.blt d nt then K (s.up d v) else False
    rw [hc.1]
    exact hk _ (hr.set hc.2 hv) (hn.set hc.2 (Nat.le_of_ble_eq_true hc.1) c) rfl
theorem Xe9 {s:St} {d:Nat} {v:Value} (h:s.r d=v):s.up d v=s:=by
  have:(s.up d v).r=s.r:=by
    funext t
    rw [St.up_r]
    by_cases e:t=d
    · rw [if_pos e,e,h]
    · rw [if_neg e]
  cases s
  unfold St.up at this ⊢
  simp only at this ⊢
  rw [this]
section
variable {P:Program} {E:Xv}
theorem Xtz (hE:Yi P E) {ρ:Rho} {o:Oper} {r:Tr Value} {H H':Hp} {s:St} {w:World} (hr:RR ρ r s.r) (hR:Rel ρ H.t w) {c:Value} (h:XqD P E o.op o.type r H=some (c,H')) {K:VWP} (hk:Kok ρ H.t w c H'.t K):X5 P o s w K:=by
  unfold XqD at h
  cases hi:Xmf P o.op with
  | true=>rw [hi] at h; exact Xty hE hr hR h hi hk
  | false=>
    rw [hi] at h
    simp only [cond_false] at h
    split at h
    · rename_i v hv
      cases h
      exact Xr2 hr hv hi fun u hu=>hk.here hR hu
    · cases h
theorem Xbk (hE:Yi P E) {ρ:Rho} {o:Oper} {r:Tr Value} {H H':Hp} {s:St} {w:World} (hr:RR ρ r s.r) (hR:Rel ρ H.t w) {c:Value} (h:XaI P E o.op o.type r H=some (c,H')) {K:VWP} (hk:Kok ρ H.t w c H'.t K):X5 P o s w K:=by
  have fast:∀ (x:Operand),(o.op=.move x∨o.op=.assign x)→(match evO r x with | some v=>some (v,H) | none=>none)=some (c,H')→X5 P o s w K:=by
    intro x hx h
    split at h
    · rename_i v hv
      cases h
      have:=hk.here hR (Xo hr hv)
      rcases hx with hx | hx
      · unfold X5; rw [hx]; exact this
      · unfold X5; rw [hx]; exact this
    · cases h
  unfold XaI at h
  split at h
  · rename_i x hx; exact fast x (.inl hx) h
  · rename_i x hx; exact fast x (.inr hx) h
  · exact Xtz hE hr hR h hk
theorem Xb4 {nt:Nat} {o:Oper} {r:Tr Value} {H:Hp} {x:Ss} (h:XdU P E nt o r H=some x):∃ v H',XaI P E o.op o.type r H=some (v,H')∧XdT nt o.dst v r=some x.1∧x.2=H':=by
  obtain ⟨dst,q,ty,pos,after,guard⟩:=o
  unfold XdU at h
  dsimp only at h
  split at h
  · rename_i v H' ho
    split at h
    · rename_i r' hp
      cases h
      exact ⟨v,H',ho,hp,rfl⟩
    · cases h
  · cases h
theorem XuU (hE:Yi P E) {nt:Nat} {o:Oper} {r r':Tr Value} {H H':Hp} {ρ:Rho} {s:St} {w:World} (hS:Sm ρ nt r H.t s w) (h:XdU P E nt o r H=some (r',H')) {next:St→World→Prop} (hk:Nx ρ H.t w s.ds nt r' H'.t next) :
    X5 P o s w fun v w'=>put nt o.dst v s fun s'=>next s' w':=by
  obtain ⟨v,H2,h1,h2,h3⟩:=Xb4 h
  cases h3
  exact Xbk hE hS.rr hS.rel h1 fun ρ' w' u hx hR hv=>Xah h2 (hS.rr.mono hx.le) hS.rn hv fun s' hr' hn' hd=>hk ρ' w' s' hx ⟨hr',hn',hR⟩ hd
theorem Xai {nt:Nat} {o:Oper} {r r':Tr Value} {H H':Hp} {ρ:Rho} {s:St} {w:World} (hS:Sm ρ nt r H.t s w) (h:XdV nt o r H=some (r',H')) {next:St→World→Prop} (hk:Nx ρ H.t w s.ds nt r' H'.t next) :
    put nt o.dst undef s fun s'=>next s' w:=by
  unfold XdV at h
  split at h
  · rename_i r2 hp
    cases h
    exact Xah hp hS.rr hS.rn (VRs.tuple (.nil ρ)) fun s' hr' hn' hd=>hk ρ w s' (Ext.refl ..) ⟨hr',hn',hS.rel⟩ hd
  · cases h
def Head (nt:Nat) (all:Array Oper) (o:Oper) (s:St) (w:World) (run:St→Prop) (next:St→World→Prop):Prop:=
  match o.guard with
  | none=>run s
  | some (j,want)=>
    match (all[j]?).bind (·.dst) with
    | none=>put nt o.dst undef s fun s'=>next s' w
    | some d=>
      match s.r d with
      | .bool b=>gK b want (run (s.up d (.bool want))) (put nt o.dst undef (s.up d (.bool (!want))) fun s'=>next s' w)
      | .tuple _=>put nt o.dst undef s fun s'=>next s' w
      | _=>False
theorem XhF {nt:Nat} {all:Array Oper} {o:Oper} {r r':Tr Value} {H H':Hp} {ρ:Rho} {s:St} {w:World} (hS:Sm ρ nt r H.t s w) (h:Xmg P E nt all o r H=some (r',H')) {run:St→Prop} {next:St→World→Prop}
    (hrun:XdU P E nt o r H=some (r',H')→run s) (hk:Nx ρ H.t w s.ds nt r' H'.t next):Head nt all o s w run next:=by
  unfold Xmg at h
  unfold Head
  cases hg:o.guard with
  | none=>rw [hg] at h; exact hrun h
  | some jw=>
    obtain ⟨j,want⟩:=jw
    rw [hg] at h
    dsimp only at h ⊢
    cases hd:(all[j]?).bind (·.dst) with
    | none=>rw [hd] at h; exact Xai hS h hk
    | some d=>
      rw [hd] at h
      dsimp only at h ⊢
      split at h
      · rename_i b hb
        have hv:=(hS.rr d _ hb).bool_inv
        rw [hv]
        dsimp only
        split at h
        · rw [Xe9 hv]; exact hrun h
        · rw [Xe9 hv]; exact hrun h
        · rename_i h1 h2
          cases want <;> cases b
          · exact (h2 rfl rfl).elim
          · show put nt o.dst undef (s.up d (.bool (!false))) (fun s'=>next s' w); rw [Xe9 (by rw [hv]; rfl)]; exact Xai hS h hk
          · show put nt o.dst undef (s.up d (.bool (!true))) (fun s'=>next s' w); rw [Xe9 (by rw [hv]; rfl)]; exact Xai hS h hk
          · exact (h1 rfl rfl).elim
      · rename_i vs hb
        obtain ⟨bs,hv,_⟩:=(hS.rr d _ hb).tuple_inv
        rw [hv]
        exact Xai hS h hk
      · cases h
theorem Xm8 {nt:Nat} {o:Oper} {r:Tr Value} {H:Hp} {x:Ss} (h:XdU P E nt o r H=some x):∀ c,o.op≠.defer c:=by
  intro c hc
  obtain ⟨v,H2,h1,_,_⟩:=Xb4 h
  obtain ⟨dst,op,ty,pos,after,guard⟩:=o
  simp only at hc
  subst hc
  cases h1
theorem XtA {nt:Nat} {df:Bool} {o:Oper} {s:St} {w:World} {next:St→World→Prop} (hd:∀ c,o.op≠.defer c) (h:X5 P o s w fun v w'=>put nt o.dst v s fun s'=>next s' w'):UK P nt df o s w next:=by
  unfold UK
  split
  · rename_i c hc; exact absurd hc (hd c)
  · exact h
theorem Xm9 (hE:Yi P E) {nt:Nat} {df:Bool} {all:Array Oper}:∀ {l:List Oper} {r r':Tr Value} {H H':Hp} {ρ:Rho} {s:St} {w:World} {K:St→World→Prop},Xmh P E nt all l r H=some (r',H')→Sm ρ nt r H.t s w→Nx ρ H.t w s.ds nt r' H'.t K→
    XQ P nt df all l s w K
  | [],r,r',H,H',ρ,s,w,K,h,hS,hk=>by cases h; exact hk ρ w s (Ext.refl ..) hS rfl
  | o::rest,r,r',H,H',ρ,s,w,K,h,hS,hk=>by
    unfold Xmh at h
    split at h
    · rename_i r1 H1 h1
      have hk1:Nx ρ H.t w s.ds nt r1 H1.t fun s' w'=>XQ P nt df all rest s' w' K:=fun ρ1 w1 s1 hx hS1 hd=>
        Xm9 hE h hS1 fun ρ2 w2 s2 hx2 hS2 hd2=>hk ρ2 w2 s2 (hx.trans hx2) hS2 (hd2.trans hd)
      exact XhF (run:=fun s=>UK P nt df o s w fun s' w'=>XQ P nt df all rest s' w' K) hS h1 (fun hg=>XtA (Xm8 hg) (XuU hE hS hg hk1)) hk1
    · cases h
end
end Go.Fw
end

section
namespace Go.Fw
open Go
theorem Xna {a b:Value} (h:cellB a b=true):a=b:=by
  unfold cellB at h
  split at h
  · split at h <;> first | rfl | cases h
  · rw [Bool.and_eq_true] at h
    obtain ⟨h1,h2⟩:=h
    have:=XrX h1
    subst this
    split at h2
    · rw [beq_iff.1 h2]
    · rw [beq_iff.1 h2]
    · cases h2
  · rename_i a b
    have h:=eq_of_beq h
    have:a=b:=by
      cases a; cases b
      congr 1
      exact Array.toList_inj.1 h
    rw [this]
  · rfl
  · rw [Bool.and_eq_true] at h
    rw [beq_iff.1 h.1,beq_iff.1 h.2]
  · rw [Bool.and_eq_true] at h
    rw [beq_iff.1 h.1,beq_iff.1 h.2]
  · rw [Bool.and_eq_true,Bool.and_eq_true,Bool.and_eq_true] at h
    rw [beq_iff.1 h.1.1.1,beq_iff.1 h.1.1.2,beq_iff.1 h.1.2,beq_iff.1 h.2]
  · rfl
  · rw [beq_iff.1 h]
  · rfl
  · rfl
  · cases h
theorem XdX:∀ {a b:List Value},XdW a b=true→a=b
  | [],[],_=>rfl
  | [],_::_,h=>by cases h
  | _::_,[],h=>by cases h
  | a::l,b::m,h=>by
    unfold XdW at h
    rw [Bool.and_eq_true] at h
    rw [Xna h.1,XdX h.2]
theorem XtB {a b:Value} (h:XqP a b=true):a=b:=by
  unfold XqP at h
  split at h
  · rw [Bool.and_eq_true,Bool.and_eq_true] at h
    rw [beq_iff.1 h.1.1,Array.toList_inj.1 (XdX h.1.2),Array.toList_inj.1 (XdX h.2)]
  · exact Xna h
theorem XkI:∀ {a b:List Value},XhA a b=true→a=b
  | [],[],_=>rfl
  | [],_::_,h=>by cases h
  | _::_,[],h=>by cases h
  | a::l,b::m,h=>by
    unfold XhA at h
    rw [Bool.and_eq_true] at h
    rw [XtB h.1,XkI h.2]
theorem Hold.ok_out {y:Hold} {t:HT} (h:y.ok t=true):XX ⟨0,t⟩ y.i y.o y.vs.length=some y.vs:=by
  unfold Hold.ok at h
  split at h
  · rename_i l hl
    rw [hl,XkI h]
  · cases h
def HoldS (ρ:Rho) (w0:World) (Y:List Hold) (w':World):Prop:=∀ y∈Y,∀ m,ρ y.i=some m→∀ j,j<y.vs.length→w'.cell? ⟨m.b,m.base+y.o+j,none⟩=w0.cell? ⟨m.b,m.base+y.o+j,none⟩
theorem HoldS.of {ρ0 ρ:Rho} {t0 t:HT} {w0 w:World} {Y:List Hold} (h0:Rel ρ0 t0 w0) (hR:Rel ρ t w) (hle:ρ0.le ρ) (hY:∀ y∈Y,y.vs.all Qp=true∧y.ok t0=true∧y.ok t=true):HoldS ρ0 w0 Y w:=by
  intro y hy m hm j hj
  obtain ⟨hs,h1,h2⟩:=hY y hy
  obtain ⟨m1,vs1,hm1,hv1,hl1,hc1⟩:=Zm (H:=⟨0,t0⟩) h0 (Hold.ok_out h1)
  obtain ⟨m2,vs2,hm2,hv2,hl2,hc2⟩:=Zm (H:=⟨0,t⟩) hR (Hold.ok_out h2)
  rw [hm] at hm1; cases hm1
  rw [hle _ _ hm] at hm2; cases hm2
  have e:vs1=vs2:=X3 hv1.1 hv2.1 fun i x a b h3 h4 h5=>VR.det (Xjz hs h3) ((hv1.2 i x a h3 h4).mono hle) (hv2.2 i x b h3 h5)
  subst e
  have hjl:j<vs1.length:=by rw [← hv1.1]; exact hj
  rw [hc1 j _ (List.getElem?_eq_getElem hjl),hc2 j _ (List.getElem?_eq_getElem hjl)]
theorem Xsb {P:Program} {ρ:Rho} {H:Hp} {w:World} (hR:Rel ρ H.t w) {t:TypeId} {x vx c:Value} (h:Qr P H t x=some c) (hx:VR ρ x vx):∃ (i o:Nat) (l:List Value) (m:Img) (v:Value),x=.pointer (some ⟨i,o,none⟩)∧ρ i=some m∧VR ρ c v∧
    (match res P (isAgg t),sz P t with
      | some true,some n=>(match XX H i o n with | some l=>some (⟨i,o,l⟩:Hold) | none=>none)
      | some false,_=>(match XX H i o 1 with | some l=>some ⟨i,o,l⟩ | none=>none)
      | _,_=>none)=some ⟨i,o,l⟩∧
    ∀ w',(∀ j,j<l.length→w'.cell? ⟨m.b,m.base+o+j,none⟩=w.cell? ⟨m.b,m.base+o+j,none⟩)→Ld P t vx w' v:=by
  unfold Qr at h
  simp only [Xu,Xw,Xn,Xq] at h
  split at h
  · rename_i i o
    obtain ⟨m,hm,rfl⟩:=hx.ptr_inv
    split at h
    · rename_i n ha hs
      split at h
      · rename_i l hl
        cases h
        obtain ⟨m',vs,hm',hv,hn,hc⟩:=Zm hR hl
        rw [hm] at hm'; cases hm'
        refine ⟨i,o,l,m,.agg ⟨vs⟩,rfl,hm,hv.agg,by rw [ha,hs]; dsimp only; rw [hl],fun w' hw=>?_⟩
        refine Ld.agg ha hs (by rw [← hv.1,hn]) (fun j v hj=>?_)
        have hlt:=(List.getElem?_eq_some_iff.1 hj).1
        rw [Xi,hw j (by rw [hv.1]; exact hlt)]
        exact hc j v hj
      · cases h
    · rename_i ha
      split at h
      · rename_i v hl
        cases h
        obtain ⟨m',vs,hm',hv,hn,hc⟩:=Zm hR hl
        rw [hm] at hm'; cases hm'
        obtain ⟨y,ys,rfl,hy,_⟩:=hv.cons_inv
        refine ⟨i,o,[c],m,y,rfl,hm,hy,by rw [ha]; dsimp only; rw [hl],fun w' hw=>?_⟩
        have h0:=hw 0 (by simp)
        rw [Nat.add_zero] at h0
        exact Ld.cell ha (by rw [h0]; exact hc 0 y rfl)
      · cases h
    · cases h
  · cases h
section
variable {P:Program} {E:Xv}
theorem XuV (hE:Yi P E) {nt:Nat} {all:Array Oper} {held:List Nat} {i:Nat} {h:Bool} {o:Oper} {r r':Tr Value} {H H':Hp} {ρ ρ0:Rho} {t0:HT} {w0:World} {s:St} {w:World} {Y:List Hold} {T:List HT} {sn:WB} (h0:Rel ρ0 t0 w0) (hle:ρ0.le ρ)
    (hS:Sm ρ nt r H.t s w) (hg:XdU P E nt o r H=some (r',H')) (hl:h=true→Z8 o=true) (hok:∀ y∈Y,y.vs.all Qp=true∧y.ok t0=true∧∀ t∈T,y.ok t=true)
    (hYs:∀ y∈(Vh P all held i h o r H H' sn).1,y∈Y) (hTs:∀ t∈(Vh P all held i h o r H H' sn).2,t∈T)
    {next:St→World→Prop} (hk:Nx ρ H.t w s.ds nt r' H'.t next):Zv P nt all held (HoldS ρ0 w0 Y) i h o s w next:=by
  have hold:∀ {ρ':Rho} {t':HT} {w':World},ρ0.le ρ'→Rel ρ' t' w'→t'∈T→HoldS ρ0 w0 Y w':=fun hle' hR' hm=>HoldS.of h0 hR' hle' fun y hy=>⟨(hok y hy).1,(hok y hy).2.1,(hok y hy).2.2 _ hm⟩
  cases h with
  | false=>
    unfold Zv
    rw [cond_false]
    obtain ⟨v,H2,h1,h2,h3⟩:=Xb4 hg
    cases h3
    refine Xbk hE hS.rr hS.rel h1 fun ρ' w' u hx hR hv=>?_
    have hput:put nt o.dst u s fun s'=>next s' w':=Xah h2 (hS.rr.mono hx.le) hS.rn hv fun s' hr' hn' hd=>hk ρ' w' s' hx ⟨hr',hn',hR⟩ hd
    unfold Wa
    cases hp:XP P o with
    | true=>exact hput
    | false=>
      cases hf:Z9 all held i with
      | false=>exact hput
      | true=>
        refine ⟨.inr (hold (hle.trans hx.le) hR (hTs _ ?_)),hput⟩
        unfold Vh
        rw [hp,hf]
        simp
  | true=>
    unfold Zv
    rw [cond_true]
    have hlo:=hl rfl
    obtain ⟨dst,op,ty,pos,after,guard⟩:=o
    cases op with
    | load t x=>
      obtain ⟨v,H2,h1,h2,h3⟩:=Xb4 hg
      cases h3
      have h1:Yw P E (.load t x) ty r H=some (v,H'):=h1
      dsimp only [Yw,ef0] at h1
      split at h1
      · rename_i a ha
        split at h1
        · rename_i c hc
          obtain ⟨hsh,h1⟩:=Xf h1
          cases h1
          obtain ⟨a',f,l,m,u,rfl,hm,hv,hadr,hld⟩:=Xsb hS.rel hc (Xo hS.rr ha)
          have hla:XgC P ⟨dst,.load t x,ty,pos,after,guard⟩ r H=some ⟨a',f,l⟩:=by
            unfold XgC
            dsimp only
            simp only [Xu,Xw,Xn,Xq]
            rw [ha]
            revert hadr
            cases res P (isAgg t) with
            | none=>exact fun h=>h
            | some b=>cases b <;> cases sz P t <;> exact fun h=>h
          have hyY:(⟨a',f,l⟩:Hold)∈Y:=hYs _ (by unfold Vh; rw [hla]; simp)
          have hT:H.t∈T:=hTs _ (by unfold Vh; rw [hla]; simp)
          have hSw:=hold hle hS.rel hT
          obtain ⟨m0,vs0,hm0,_⟩:=Zm (H:=⟨0,t0⟩) h0 (Hold.ok_out (hok _ hyY).2.1)
          have hmm:m0=m:=by have:=hle _ _ hm0; rw [hm] at this; cases this; rfl
          subst hmm
          unfold Xl9
          dsimp only
          refine Qs hv hsh (K:=fun u=>HLd P (HoldS ρ0 w0 Y) t (s.ev x) w u∧put nt dst u s fun s'=>next s' w) ⟨⟨hSw,fun w' hw'=>hld w' fun j hj=>?_⟩,?_⟩
          · rw [hw' _ hyY m0 hm0 j hj,hSw _ hyY m0 hm0 j hj]
          · exact Xah h2 hS.rr hS.rn hv fun s' hr' hn' hd=>hk ρ w s' (Ext.refl ..) ⟨hr',hn',hS.rel⟩ hd
        · cases h1
      · cases h1
    | _=>cases hlo
end
end Go.Fw
end

section
namespace Go.Fw
open Go
theorem XhG {P:Program} {all:Array Oper} {held:List Nat} {i:Nat} {h:Bool} {o:Oper} {r:Tr Value} {H H':Hp} {s:WB}:(∀ y∈s.1,y∈(Vh P all held i h o r H H' s).1)∧∀ t∈s.2,t∈(Vh P all held i h o r H H' s).2:=by
  unfold Vh
  cases h with
  | true=>
    rw [cond_true]
    split
    · exact ⟨fun y hy=>List.mem_cons_of_mem _ hy,fun t ht=>List.mem_cons_of_mem _ ht⟩
    · exact ⟨fun _ h=>h,fun _ h=>h⟩
  | false=>
    rw [cond_false]
    cases (XP P o || !Z9 all held i) with
    | true=>exact ⟨fun _ h=>h,fun _ h=>h⟩
    | false=>exact ⟨fun _ h=>h,fun t ht=>List.mem_cons_of_mem _ ht⟩
theorem XoY {s:WB} {t:HT} (h:XpX s t=true):∀ y∈s.1,y.vs.all Qp=true∧y.ok t=true∧∀ t'∈s.2,y.ok t'=true:=by
  intro y hy
  have:=List.all_eq_true.1 h y hy
  rw [Bool.and_eq_true,Bool.and_eq_true] at this
  exact ⟨this.1.1,this.1.2,fun t' ht=>List.all_eq_true.1 this.2 t' ht⟩
end Go.Fw
end

section
namespace Go.Fw
open Go
theorem Rel.sub {ρ:Rho} {T F:HT} {w:World} (h:Rel ρ T w) (h1:∀ i o,F.get i=some o→o.isDead=false→T.get i=some o) (h2:∀ i,(T.get i).isSome=true→(F.get i).isSome=true):Rel ρ F w:=
  ⟨fun i m hm=>h2 i (h.dom i m hm),fun i o ho hd=>h.live i o (h1 i o ho hd) hd,fun i j m m' ⟨o,ho,hd⟩ ⟨o',ho',hd'⟩=>h.inj i j m m' ⟨o,h1 i o ho hd,hd⟩ ⟨o',h1 j o' ho' hd',hd'⟩⟩
theorem Lb.sub {ρ:Rho} {T F:HT} (h1:∀ i o,F.get i=some o→o.isDead=false→T.get i=some o) {b:Nat} (h:Lb ρ F b):Lb ρ T b:=by
  obtain ⟨i,m,⟨o,ho,hd⟩,hm,hb⟩:=h
  exact ⟨i,m,⟨o,h1 i o ho hd,hd⟩,hm,hb⟩
theorem frame {ρ ρ':Rho} {T F F' T':HT} {w w':World} (hT:Rel ρ T w) (h1:∀ i o,F.get i=some o→o.isDead=false→T.get i=some o) (h2:∀ i,(T.get i).isSome=true→(F.get i).isSome=true)
    (hE:Ext ρ F w ρ' F' w') (hF:Rel ρ' F' w') (A:Nat→Prop) (hA:∀ i,¬ A i→¬ Lv F i∧F.get i≠none) (c1:∀ i,A i→T'.get i=F'.get i) (c2:∀ i,¬ A i→T'.get i=T.get i):Rel ρ' T' w'∧Ext ρ T w ρ' T' w':=by
  have inF:∀ i o,T'.get i=some o→o.isDead=false→(F'.get i=some o∧A i)∨(T.get i=some o∧¬ Lv F i∧F.get i≠none):=fun i o ho hd=>by
    by_cases ha:A i
    · exact .inl ⟨by rw [← c1 i ha]; exact ho,ha⟩
    · exact .inr ⟨by rw [← c2 i ha]; exact ho,hA i ha⟩
  have notF:∀ {i o m},T.get i=some o→o.isDead=false→¬ Lv F i→ρ i=some m→¬ Lb ρ F m.b:=fun {i o m} ho hd hn hm ⟨j,mj,hj,hmj,hb⟩=>by
    obtain ⟨oj,hoj,hdj⟩:=hj
    have:=hT.inj j i mj m ⟨oj,h1 j oj hoj hdj,hdj⟩ ⟨o,ho,hd⟩ hmj hm hb
    subst this
    exact hn ⟨oj,hoj,hdj⟩
  have lv':∀ {i o},F'.get i=some o→o.isDead=false→∃ m,ρ' i=some m∧Lb ρ' F' m.b:=fun {i o} ho hd=>by
    obtain ⟨m,O,hm,_⟩:=hF.live i o ho hd
    exact ⟨m,hm,i,m,⟨o,ho,hd⟩,hm,rfl⟩
  have oldT:∀ {i o},T.get i=some o→o.isDead=false→∃ m O,ρ i=some m∧w.heap[m.b]?=some O∧OR ρ m o O:=fun ho hd=>hT.live _ _ ho hd
  refine ⟨⟨fun i m hm=>?_,fun i o ho hd=>?_,fun i j m m' ⟨o,ho,hd⟩ ⟨o',ho',hd'⟩ hm hm' hb=>?_⟩,⟨hE.le,fun b ⟨i,m,⟨o,ho,hd⟩,hm,hb⟩=>?_,fun b hb hn=>hE.keep b hb fun h=>hn (h.sub h1),hE.size,hE.os,hE.tape,hE.output,fun i hi=>hE.fresh i (h2 i hi),fun i hi=>?_⟩⟩
  · have hf:=hF.dom i m hm
    by_cases ha:A i
    · rw [c1 i ha]; exact hf
    · have hb:=hA i ha
      rw [c2 i ha]
      have hs:(F.get i).isSome=true:=by cases e:F.get i with | none=>exact absurd e hb.2 | some _=>rfl
      rw [hE.fresh i hs] at hm
      exact hT.dom i m hm
  · rcases inF i o ho hd with ⟨hf,_⟩ | ⟨ht,hn,_⟩
    · exact hF.live i o hf hd
    · obtain ⟨m,O,hm,hO,hor⟩:=oldT ht hd
      exact ⟨m,O,hE.le _ _ hm,(hE.keep _ (Yh hO) (notF ht hd hn hm)).trans hO,hor.mono hE.le⟩
  · have mixed : ∀ {i j o o' m m'}, F'.get i = some o → o.isDead = false → T.get j = some o' → o'.isDead = false → ¬ Lv F j → ρ' i = some m → ρ' j = some m' → m.b = m'.b → False := by
      intro i j o o' m m' hi hdi hj hdj hnj hmi hmj hb
      obtain ⟨m2,O,hm2,hO,_⟩:=oldT hj hdj
      have:=hE.le _ _ hm2
      rw [hmj] at this; cases this
      rcases hE.new m.b ⟨i,m,⟨o,hi,hdi⟩,hmi,rfl⟩ with h3 | h3
      · have:=Yh hO; omega
      · rw [hb] at h3; exact notF hj hdj hnj hm2 h3
    rcases inF i o ho hd with ⟨hf,_⟩ | ⟨ht,hn,_⟩
    · rcases inF j o' ho' hd' with ⟨hf',_⟩ | ⟨ht',hn',_⟩
      · exact hF.inj i j m m' ⟨o,hf,hd⟩ ⟨o',hf',hd'⟩ hm hm' hb
      · exact (mixed hf hd ht' hd' hn' hm hm' hb).elim
    · rcases inF j o' ho' hd' with ⟨hf',_⟩ | ⟨ht',hn',_⟩
      · exact (mixed hf' hd' ht hd hn hm' hm hb.symm).elim
      · obtain ⟨m2,O,hm2,_⟩:=oldT ht hd
        obtain ⟨m3,O3,hm3,_⟩:=oldT ht' hd'
        have e2:=hE.le _ _ hm2
        have e3:=hE.le _ _ hm3
        rw [hm] at e2; cases e2
        rw [hm'] at e3; cases e3
        exact hT.inj i j _ _ ⟨o,ht,hd⟩ ⟨o',ht',hd'⟩ hm2 hm3 hb
  · rcases inF i o ho hd with ⟨hf,_⟩ | ⟨ht,hn,_⟩
    · rcases hE.new b ⟨i,m,⟨o,hf,hd⟩,hm,hb⟩ with h3 | h3
      · exact .inl h3
      · exact .inr (h3.sub h1)
    · obtain ⟨m2,O,hm2,_⟩:=oldT ht hd
      have e2:=hE.le _ _ hm2
      rw [hm] at e2; cases e2
      exact .inr ⟨i,_,⟨o,ht,hd⟩,hm2,hb⟩
  · by_cases ha:A i
    · rw [c1 i ha]; exact hE.grow i (h2 i hi)
    · rw [c2 i ha]; exact hi
theorem Rel.free {ρ:Rho} {t:HT} {w w':World} (h:Rel ρ t w) {b:Nat} (hb:¬ Lb ρ t b) (hf:Fr [b] w w'):Rel ρ t w':=
  ⟨h.dom,fun i o ho hd=>by
    obtain ⟨m,O,hm,hO,hor⟩:=h.live i o ho hd
    exact ⟨m,O,hm,(hf.block _ (Yh hO) (by simp only [List.mem_singleton]; exact fun e=>hb ⟨i,m,⟨o,ho,hd⟩,hm,e⟩)).trans hO,hor⟩,h.inj⟩
theorem Ext.free {ρ ρ':Rho} {t t':HT} {w w' w2:World} (h:Ext ρ t w ρ' t' w') {b:Nat} (hb:Lb ρ t b) (hf:Fr [b] w' w2):Ext ρ t w ρ' t' w2:=
  ⟨h.le,h.new,fun c hc hn=>(hf.block c (Nat.lt_of_lt_of_le hc h.size) (by simp only [List.mem_singleton]; exact fun e=>hn (e ▸ hb))).trans (h.keep c hc hn),Nat.le_trans h.size hf.size,hf.os.trans h.os,hf.tape.trans h.tape,hf.output.trans h.output,h.fresh,h.grow⟩
theorem Rel.revive {ρ:Rho} {t:HT} {w w':World} (h:Rel ρ t w) {l:Nat} {m:Img} {o:Ob} {O:Obj} (hm:ρ l=some m) (hk:XS l=true) (hb:¬ Lb ρ t m.b) (hf:Fr [m.b] w w') (hO:w'.heap[m.b]?=some O) (hor:OR ρ m o O):Rel ρ (Hp.put t l o) w':=by
  have h':=h.free hb hf
  refine ⟨fun i mi hi=>Hp.put_grow hk o (h.dom i mi hi),fun i oi hi hd=>?_,fun i j mi mj hi hj hmi hmj he=>?_⟩
  · rw [Hp.get_put hk] at hi
    by_cases e:i=l
    · rw [if_pos e] at hi; cases hi; subst e; exact ⟨m,O,hm,hO,hor⟩
    · rw [if_neg e] at hi; exact h'.live i oi hi hd
  · have lv:∀ {k},k≠l→Lv (Hp.put t l o) k→Lv t k:=fun {k} hkl ⟨ok,h1,h2⟩=>by rw [Hp.get_put hk,if_neg hkl] at h1; exact ⟨ok,h1,h2⟩
    by_cases ei:i=l
    · by_cases ej:j=l
      · rw [ei,ej]
      · subst ei; rw [hm] at hmi; cases hmi
        exact (hb ⟨j,mj,lv ej hj,hmj,he.symm⟩).elim
    · by_cases ej:j=l
      · subst ej; rw [hm] at hmj; cases hmj
        exact (hb ⟨i,mi,lv ei hi,hmi,he⟩).elim
      · exact h'.inj i j mi mj (lv ei hi) (lv ej hj) hmi hmj he
theorem Ext.revive {ρ ρ':Rho} {t t':HT} {w w':World} (h:Ext ρ t w ρ' t' w') {l:Nat} {m:Img} {o:Ob} (hm:ρ l=some m) (hle:ρ' l=some m) (hk:XS l=true) (hb:Lb ρ t m.b):Ext ρ t w ρ' (Hp.put t' l o) w':=
  ⟨h.le,fun b ⟨i,mi,⟨oi,h1,h2⟩,hmi,he⟩=>by
    rw [Hp.get_put hk] at h1
    by_cases e:i=l
    · subst e; rw [hle] at hmi; cases hmi; rw [← he]; exact .inr hb
    · rw [if_neg e] at h1; exact h.new b ⟨i,mi,⟨oi,h1,h2⟩,hmi,he⟩,h.keep,h.size,h.os,h.tape,h.output,h.fresh,fun i hi=>Hp.put_grow hk o (h.grow i hi)⟩
end Go.Fw
end

section
namespace Go.Fw
open Go
def swE (P:Program) (ro:Option Nat) (nt:Nat) (tt:Nat→List (Nat×TypeId)):Code→Nat→KS→St→World→Prop
  | .skip,_,K,s,w=>K .normal s w
  | .region _ ops draw,_,K,s,w=>
    match draw with
    | false=>XQ P nt ro.isNone ops ops.toList s w fun s w=>K .normal s w
    | true=>bif Vc P ops then ∃ S:World→Prop,XU P nt ops (Xma P ops) S ops.size (Array.replicate ops.size false) s w.drew fun s w=>K .normal s w else False
  | .seq a b,n,K,s,w=>swE P ro nt tt a n (Xmb (fun s w=>swE P ro nt tt b n K s w) K) s w
  | .cond c t e,n,K,s,w=>match s.ev c with | .bool b=>cond b (swE P ro nt tt t n K s w) (swE P ro nt tt e n K s w) | _=>False
  | .block id b,_,K,s,w=>swE P ro nt tt b id (XdD id K) s w
  | .loop b,n,K,s,w=>Xqu P (tt n) (fun K s w=>swE P ro nt tt b n K s w) K s w
  | .exit id,_,K,s,w=>K (.exit id) s w
  | .ret,_,K,s,w=>K .ret s w
  | .rangeFunc g ps assign body,_,K,s,w=>Xa9 P ro nt (s.ev g) ps assign body s w K
  | _,_,_,_,_=>False
theorem XdY {P:Program} {ro:Option Nat} {nt:Nat} {tt:Nat→List (Nat×TypeId)} (c:Code):∀ (n:Nat) (K:KS) (a:Act) (s:St) (w:World),Rep nt a s→swE P ro nt tt c n K s w→c.wpIn (fen ro) 0 P (post nt K) a w:=by
  induction c with
  | skip=>exact fun n K a s w hrep h=>wpIn_skip ⟨s,hrep,h⟩
  | region id ops draw=>
    intro n K a s w hrep h
    cases draw with
    | false=>
      refine wpIn_region ?_
      rw [List.range_eq_range',← Array.length_toList]
      exact XfP (df:=ro.isNone) (fun h=>by simpa using h) ops.toList 0 a s w (by simp) hrep h
    | true=>
      simp only [swE] at h
      cases hp:Vc P ops <;> rw [hp] at h
      · exact h.elim
      obtain ⟨S,h⟩:=h
      simp only [Vc,Bool.and_eq_true] at hp
      obtain ⟨h2,h3⟩:=hp
      obtain ⟨hs,hd⟩:=Vf h2
      refine wpIn_region_draw fun t=>UM hd ro _ _ _ ?_
      simp only [Region.schedule,h3,Bool.true_or,if_true]
      refine wpAnyIn_sound ops.size t _ a _ (W3 _ _ _ _ (XdG (S:=S) hs ops.size _ a s w.drew ?_ (by simp) hrep h))
      intro j o ho hl
      have hlt:j<ops.size:=(Array.getElem?_eq_some_iff.1 ho).1
      simp [hlt] at hl
  | seq x y ihx ihy=>
    intro n K a s w hrep h
    exact wpIn_seq (wpIn_mono (ihx n _ a s w hrep h) (W4 fun a' s' w' hr' h'=>ihy n K a' s' w' hr' h'))
  | cond c t e iht ihe=>
    intro n K a s w hrep h
    simp only [swE] at h
    split at h
    · rename_i b hb
      rw [← hrep.eval] at hb
      cases b with
      | true=>exact wpIn_cond_true hb (iht n K a s w hrep h)
      | false=>exact wpIn_cond_false hb (ihe n K a s w hrep h)
    · exact h.elim
  | block id b ih=>
    intro n K a s w hrep h
    exact wpIn_block (wpIn_mono (ih id _ a s w hrep h) XfR)
  | loop b ih=>
    intro n K a s w hrep h
    obtain ⟨I,μ,h0,hstep⟩:=h
    refine wpIn_loop (fun a' w'=>Rep nt a' ⟨fun t=>a'.tmps.getD t undef,s.ds⟩∧I ((tt n).map fun p=>a'.tmps.getD p.1 undef) w')
      (fun a' w'=>μ ((tt n).map fun p=>a'.tmps.getD p.1 undef) w') ?_ ?_
    · have:(fun t=>a.tmps.getD t undef)=s.r:=funext hrep.val
      rw [this]
      refine ⟨hrep,?_⟩
      have e:((tt n).map fun p=>a.tmps.getD p.1 undef)=(tt n).map fun p=>s.r p.1:=List.map_congr_left fun p _=>hrep.val p.1
      rw [e]
      exact h0
    · rintro a' w' ⟨hr',hI⟩
      obtain ⟨vs,hvs,hb⟩:=XdE (hstep _ (fun t=>a'.tmps.getD t undef) w' hI)
      have ho:=XdF (fun t=>a'.tmps.getD t undef) (tt n)
      rw [← hvs,ho] at hb
      refine wpIn_mono (ih n _ a' _ w' hr' hb) (W4 ?_)
      rintro a'' s'' w'' hr'' ⟨hds,hI',hμ⟩
      have e:((tt n).map fun p=>a''.tmps.getD p.1 undef)=(tt n).map fun p=>s''.r p.1:=List.map_congr_left fun p _=>hr''.val p.1
      rw [e]
      refine ⟨⟨?_,hI'⟩,hμ⟩
      have hfun:(fun t=>a''.tmps.getD t undef)=s''.r:=funext hr''.val
      rw [hfun,← hds]
      exact hr''
  | exit id=>exact fun n K a s w hrep h=>wpIn_exit ⟨s,hrep,h⟩
  | ret=>exact fun n K a s w hrep h=>wpIn_ret ⟨s,hrep,h⟩
  | rangeFunc g ps assign body _ _=>
    intro n K a s w hrep h
    obtain ⟨hro,gf,first,cap,hg,henter,hcalls⟩:=Xhp (show Xa9 P ro nt (s.ev g) ps assign body s w K from h)
    subst hro
    refine wpIn_rangeFunc fun fn _=>?_
    have hcall:=hcalls fn
    rw [← hrep.eval] at hg
    have hargs:(first++#[Value.func (.yield (w.heap.size+1)) #[] #[]]++cap:Array Value)=⟨first.toList++[.func (.yield (w.heap.size+1)) #[] #[]]++cap.toList⟩:=by
      apply Array.toList_inj.1; simp
    have he : (Instr.enterLoop fn a.tmps ps assign body (fen none).round).run P w =
        .ok (w.heap.size+1,[{ target:=.collected w.heap.size,args:=#[] }]) ((w.alloc (.deferred (some []))).alloc (.loop (YL fn (s.tmps nt) ps assign body w.heap.size))):=by
      rw [XpO hrep]
      have:(w.alloc (Obj.deferred (some []))).heap.size=w.heap.size+1:=by simp
      rw [← this]
      rfl
    refine ⟨w.heap.size+1,[{ target:=.collected w.heap.size,args:=#[] }],((w.alloc (.deferred (some []))).alloc (.loop (YL fn (s.tmps nt) ps assign body w.heap.size))),{ target:=.fn (.func gf) cap,args:=first++#[.func (.yield (w.heap.size+1)) #[] #[]] },((w.alloc (.deferred (some []))).alloc (.loop (YL fn (s.tmps nt) ps assign body w.heap.size))),gf,
      first++#[.func (.yield (w.heap.size+1)) #[] #[]]++cap,((w.alloc (.deferred (some []))).alloc (.loop (YL fn (s.tmps nt) ps assign body w.heap.size))),he,?_,fun _ _=>trivial,?_,fun h=>by simp [fen] at h,?_⟩
    · have hyl:a.eval (.const (.func (.yield (w.heap.size+1)) #[] #[]))=.func (.yield (w.heap.size+1)) #[] #[]:=rfl
      have hmap:Array.map a.eval #[Operand.const (.func (.yield (w.heap.size+1)) #[] #[])]=#[.func (.yield (w.heap.size+1)) #[] #[]]:=by simp [hyl]
      simp only [resolve,hg,Deferred.ofValue,hmap]
      rfl
    · exact henter _ _
    · rw [hargs]
      have h2:CallsIn (fen none) 0 P gf _ _ _:=callsIn_wide.2 hcall
      refine h2.mono ?_
      rintro e w' ⟨v,rfl,jump,w'',hend,hj⟩
      refine ⟨jump,w'',hend,?_⟩
      have hr2:Rep nt { a with defers:=[{ target:=.collected w.heap.size,args:=#[] }]++a.defers } ⟨s.r,{ target:=.collected w.heap.size,args:=#[] }::s.ds⟩:=
        ⟨hrep.size,hrep.val,by rw [← hrep.ds]; rfl⟩
      cases jump with
      | none=>exact ⟨_,hr2,hj⟩
      | some c=>
        cases c with
        | ret=>exact wpIn_ret ⟨_,hr2,hj⟩
        | exit i=>exact hj.elim
        | _=>exact hj.elim
  | _=>exact fun n K a s w hrep h=>h.elim
theorem Xnb {P:Program} {f:FuncId} {fn:Func} {c:Code} {args:List Value} {w:World} {K:VWP} (tt:Nat→List (Nat×TypeId)) (hf:P.funcs[f]?=some fn) (hb:fn.body=some c)
    (hn:Nat.ble args.length fn.ntmps=true) (h:swE P none fn.ntmps tt c 0 (Xqv P fn.results.toList K) ⟨Y6 args,[]⟩ w):UJ P f ⟨args⟩ w K:=by
  have h1:=XdY c 0 _ _ _ w (XdH args fn.ntmps (Nat.le_of_ble_eq_true hn)) h
  exact callsIn_wide.1 (callsIn_of_wp_marks hf hb trivial (wpIn_mono h1 XmC) rfl)
def Xw5 (P:Program) (l:Nat) (nt:Nat) (tt:Nat→List (Nat×TypeId)) (body:Code) (K:VWP):KS
  | .normal,s,w=>BegR P l w fun w₂=>swE P (some l) nt tt body 0 (XrS P l K) s w₂
  | _,_,_=>False
theorem Xnc {P:Program} {l:Nat} {f:FuncId} {tmps:List Value} {nt:Nat} {assign body:Code} {w:World} {K:VWP} (tt1 tt2:Nat→List (Nat×TypeId)) (hn:tmps.length=nt)
    (h:swE P (some l) nt tt1 assign 0 (Xw5 P l nt tt2 body K) ⟨Y6 tmps,[]⟩ w):RoundIn (fen none) 0 P l f ⟨tmps⟩ assign body w fun e w'=>∃ v,e=.returned v∧K v w':=by
  subst hn
  have hrep:Rep tmps.length { tmps:=(⟨tmps⟩:Array Value),defers:=[] } ⟨Y6 tmps,[]⟩:=⟨rfl,fun t=>by simp [Y6,Array.getD_eq_getD_getElem?,List.getD_eq_getElem?_getD],rfl⟩
  refine roundIn_of_wpIn (F:=fen none) (n:=0) (l:=l) trivial ?_
  refine wpIn_mono (XdY (ro:=some l) assign 0 _ _ _ w hrep h) ?_
  intro e a w1 hp
  cases e with
  | normal=>
    obtain ⟨s,hr,hb⟩:=hp
    obtain ⟨w2,hbr,hb⟩:=hb
    refine ⟨w2,hbr,wpIn_mono (XdY (ro:=some l) body 0 _ _ _ w2 hr hb) ?_⟩
    intro e2 a2 w3 hp2
    cases e2 with
    | normal=>obtain ⟨s,_,w4,h4,hk⟩:=hp2; exact ⟨_,w4,h4,_,rfl,hk⟩
    | ret=>obtain ⟨s,_,w4,h4,hk⟩:=hp2; exact ⟨_,w4,h4,_,rfl,hk⟩
    | exit i=>obtain ⟨s,_,hk⟩:=hp2; exact hk.elim
    | goto i=>obtain ⟨s,_,hk⟩:=hp2; exact hk.elim
    | panic c=>exact hp2.elim
    | outgrown=>exact hp2.elim
  | ret=>obtain ⟨s,_,hk⟩:=hp; exact hk.elim
  | exit i=>obtain ⟨s,_,hk⟩:=hp; exact hk.elim
  | goto i=>obtain ⟨s,_,hk⟩:=hp; exact hk.elim
  | panic c=>exact hp.elim
  | outgrown=>exact hp.elim
end Go.Fw
end

section
namespace Go.Fw
open Go
def JF (nt:Nat):Nat→List (Nat×TypeId):=fun _=>(List.range nt).map fun d=>(d,999999)
theorem XqQ {P:Program} (hU:P.underlying 999999=none) {K:Value→Prop} {v:Value} (h:K v):Xmw P 999999 K:=by
  show YO P 999999 K
  unfold YO
  rw [hU]
  show Q8 P 999999 K
  unfold Q8
  rw [hU]
  show JZ P 999999 K
  unfold JZ
  rw [hU]
  exact ⟨v,h⟩
theorem XfZ {P:Program} (hU:P.underlying 999999=none):∀ {us:List Value} {K:List Value→Prop},K us→VI P (List.replicate us.length 999999) K
  | [],_,h=>h
  | u::us,K,h=>XqQ hU (K:=fun v=>VI P (List.replicate us.length 999999) fun vs=>K (v::vs)) (v:=u) (XfZ hU h)
theorem XhH:∀ (n k:Nat) (us:List Value) (r:Nat→Value),us.length=n→∀ t,Ui ((List.range' k n).map fun d=>(d,999999)) us r t=if k≤t∧t<k+n then us.getD (t - k) undef else r t
  | 0,k,us,r,h,t=>by
    have:us=[]:=List.length_eq_zero_iff.1 h
    subst this
    rw [if_neg (by omega)]; rfl
  | n+1,k,[],r,h,t=>by cases h
  | n+1,k,u::us,r,h,t=>by
    show (bif Nat.beq t k then u else Ui ((List.range' (k+1) n).map fun d=>(d,999999)) us r t)=_
    by_cases e:t=k
    · subst e
      rw [beq_iff.2 rfl,if_pos (by omega),Nat.sub_self]; rfl
    · rw [Zk.2 e,cond_false,XhH n (k+1) us r (by simpa using h) t]
      by_cases h2:k≤t∧t<k+(n+1)
      · rw [if_pos h2,if_pos (by omega),show t - k=(t - (k+1))+1 from by omega]; rfl
      · rw [if_neg h2,if_neg (by omega)]
theorem XoZ {nt:Nat} {us:List Value} (h:us.length=nt) (r:Nat→Value) {n t:Nat} (ht:t<nt):Ui (JF nt n) us r t=us.getD t undef:=by
  unfold JF
  rw [List.range_eq_range',XhH nt 0 us r h t,if_pos (by omega),Nat.sub_zero]
def DS (ρ:Rho):List Nat→List Deferred→Prop
  | [],[]=>True
  | d::ds,x::l=>(∃ m,ρ d=some m∧x={ target:=.collected m.b,args:=#[] })∧DS ρ ds l
  | _,_=>False
theorem DS.mono {ρ ρ':Rho} (h:ρ.le ρ'):∀ {ds:List Nat} {l:List Deferred},DS ρ ds l→DS ρ' ds l
  | [],[],_=>trivial
  | [],_::_,k=>k.elim
  | _::_,[],k=>k.elim
  | _::_,_::_,⟨⟨m,h1,h2⟩,k⟩=>⟨⟨m,h _ _ h1,h2⟩,k.mono h⟩
theorem DS.det {ρ:Rho}:∀ {ds:List Nat} {l l':List Deferred},DS ρ ds l→DS ρ ds l'→l=l'
  | [],[],[],_,_=>rfl
  | [],_::_,_,k,_=>k.elim
  | [],[],_::_,_,k=>k.elim
  | _::_,[],_,k,_=>k.elim
  | _::_,_::_,[],_,k=>k.elim
  | _::_,_::_,_::_,⟨⟨m,h1,h2⟩,k⟩,⟨⟨m',h1',h2'⟩,k'⟩=>by
    rw [h1] at h1'; cases h1'
    rw [h2,h2',DS.det k k']
theorem Xnd:∀ {a b:List Nat},XhB a b=true→a=b
  | [],[],_=>rfl
  | [],_::_,h=>by cases h
  | _::_,[],h=>by cases h
  | a::l,b::m,h=>by
    unfold XhB at h
    rw [Bool.and_eq_true] at h
    rw [beq_iff.1 h.1,Xnd h.2]
def Xt.ex:Xt→Exit
  | .normal=>.normal
  | .exit i=>.exit i
  | .ret=>.ret
def XdZ (P:Program) (nt:Nat) (fork:Array Oper→Tr Value→Hp→Option Ss):Prop:=∀ (ops:Array Oper) (r:Tr Value) (H:Hp) (x:Ss),fork ops r H=some x→Vc P ops=true→∀ (ρ:Rho) (s:St) (w:World) (K:St→World→Prop),
  Sm ρ nt r H.t s w→Nx ρ H.t w s.ds nt x.1 x.2.t K→∃ S:World→Prop,XU P nt ops (Xma P ops) S ops.size (Array.replicate ops.size false) s w.drew K
def Cx (ρ:Rho) (t:HT) (w:World) (nt:Nat) (y:Cs) (K:KS):Prop:=∀ ρ' w' s',Ext ρ t w ρ' y.2.2.1.t w'→Sm ρ' nt y.2.1 y.2.2.1.t s' w'→DS ρ' y.2.2.2 s'.ds→K y.1.ex s' w'
theorem Cx.then {ρ ρ':Rho} {t t':HT} {w w':World} {nt:Nat} {y:Cs} {K:KS} (h:Cx ρ t w nt y K) (hx:Ext ρ t w ρ' t' w'):Cx ρ' t' w' nt y K:=fun ρ2 w2 s2 hx2=>h ρ2 w2 s2 (hx.trans hx2)
theorem Xsc {P:Program} (hU:P.underlying 999999=none) {nt:Nat} {ds:List Nat} {f:Tr Value→Hp→Option Cs} {step:KS→St→World→Prop}
    (hf:∀ (r:Tr Value) (H:Hp) (y:Cs),f r H=some y→(y.1=.normal→y.2.2.2=ds)∧∀ (ρ:Rho) (s:St) (w:World) (K:KS),Sm ρ nt r H.t s w→DS ρ ds s.ds→Cx ρ H.t w nt y K→step K s w)
    {fuel n:Nat} {r:Tr Value} {H:Hp} {y:Cs} (h:Xbh f fuel r H=some y) {ρ:Rho} {s:St} {w:World} {K:KS} (hS:Sm ρ nt r H.t s w) (hD:DS ρ ds s.ds) (hk:Cx ρ H.t w nt y K):Xqu P (JF nt n) step K s w:=by
  classical
  let Q:Nat→List Value→World→Prop:=fun k us w1=>us.length=nt∧∃ ρ1 r1 H1,Ext ρ H.t w ρ1 H1.t w1∧Sm ρ1 nt r1 H1.t ⟨fun t=>us.getD t undef,s.ds⟩ w1∧Xbh f k r1 H1=some y
  have live_r:∀ s':St,((JF nt n).map fun p=>s'.r p.1)=(List.range nt).map s'.r:=fun s'=>by
    unfold JF; rw [List.map_map]; rfl
  have start:∀ {ρ1:Rho} {r1:Tr Value} {H1:Hp} {s1:St} {w1:World} {k:Nat},s1.ds=s.ds→Ext ρ H.t w ρ1 H1.t w1→Sm ρ1 nt r1 H1.t s1 w1→Xbh f k r1 H1=some y→Q k ((JF nt n).map fun p=>s1.r p.1) w1:=by
    intro ρ1 r1 H1 s1 w1 k hds hx hS1 hl
    rw [live_r]
    refine ⟨by simp,ρ1,r1,H1,hx,⟨fun t c hc=>?_,hS1.rn,hS1.rel⟩,hl⟩
    have ht:=hS1.rn t c hc
    show VR ρ1 c (((List.range nt).map s1.r).getD t undef)
    rw [List.getD_eq_getElem?_getD,List.getElem?_map,List.getElem?_range ht]
    exact hS1.rr t c hc
  let I:Inv:=fun us w1=>∃ k,Q k us w1
  let μ:J1:=fun us w1=>if h:∃ k,Q k us w1 then Classical.choose (W5 h) else 0
  refine ⟨I,μ,⟨fuel,start rfl (Ext.refl ..) hS h⟩,fun us rr w1 hI=>?_⟩
  have hQ:=(Classical.choose_spec (W5 hI)).1
  have hμ:μ us w1=Classical.choose (W5 hI):=dif_pos hI
  generalize Classical.choose (W5 hI)=k0 at hQ hμ
  obtain ⟨hlen,ρ1,r1,H1,hx,hS1,hl⟩:=hQ
  have hty:((JF nt n).map fun p=>p.2)=List.replicate us.length 999999:=by
    unfold JF
    rw [List.map_map,hlen]
    apply List.ext_getElem <;> simp
  rw [hty]
  refine XfZ hU (us:=us) ⟨rfl,?_⟩
  have hS2:Sm ρ1 nt r1 H1.t ⟨Ui (JF nt n) us rr,s.ds⟩ w1:=⟨fun t c hc=>by
    show VR ρ1 c (Ui (JF nt n) us rr t)
    rw [XoZ hlen rr (hS1.rn t c hc)]
    exact hS1.rr t c hc,hS1.rn,hS1.rel⟩
  cases k0 with
  | zero=>cases hl
  | succ k=>
    unfold Xbh at hl
    split at hl
    · rename_i r2 H2 ds2 hb
      obtain ⟨h1,h2⟩:=hf _ _ _ hb
      have hds:=h1 rfl
      refine h2 ρ1 _ w1 _ hS2 (hD.mono hx.le) fun ρ2 w2 s2 hx2 hS3 hD2=>?_
      dsimp only at hds hx2 hS3 hD2
      subst hds
      have e:=DS.det ((hD.mono hx.le).mono hx2.le) hD2
      show Xj s.ds s2.ds I μ us _ w1 w2
      have hq:=start (k:=k) e.symm (hx.trans hx2) hS3 hl
      refine ⟨e.symm,⟨k,hq⟩,?_⟩
      have hI2:∃ k,Q k ((JF nt n).map fun p=>s2.r p.1) w2:=⟨k,hq⟩
      have hμ2:μ ((JF nt n).map fun p=>s2.r p.1) w2=Classical.choose (W5 hI2):=dif_pos hI2
      rw [hμ2,hμ]
      have:=(Classical.choose_spec (W5 hI2)).2 k hq
      omega
    · rename_i hno
      obtain ⟨h1,h2⟩:=hf _ _ _ hl
      refine h2 ρ1 _ w1 _ hS2 (hD.mono hx.le) fun ρ2 w2 s2 hx2 hS3 hD2=>?_
      have:=hk ρ2 w2 s2 (hx.trans hx2) hS3 hD2
      obtain ⟨x,r3,H3,ds3⟩:=y
      cases x with
      | normal=>exact (hno r3 H3 ds3 hl).elim
      | exit i=>exact this
      | ret=>exact this
end Go.Fw
end

section
namespace Go.Fw
open Go
theorem Xne {ds:List Nat} {x:Option Ss} {y:Cs} (h:(match x with | some (r',H')=>some (Xt.normal,r',H',ds) | none=>none)=some y):∃ r' H',x=some (r',H')∧y=(.normal,r',H',ds):=by
  split at h
  · rename_i r' H'; cases h; exact ⟨r',H',rfl,rfl⟩
  · cases h
theorem Xsd {P:Program} {f:FuncId} {fn:Func} (hf:P.funcs[f]?=some fn) (he:Xe8 fn=true) (hb:fn.body.isSome=true) (args:Array Value) (w:World):(callFunc f args).run P w=.ok (.enter f args) w:=by
  have h1 : fn.name ≠ "runtime.NumGoroutine" := by
    unfold Xe8 at he
    simpa using he
  obtain ⟨c,hc⟩:=Option.isSome_iff_exists.1 hb
  simp [callFunc,hf,h1,hc]
theorem VR.func_inv {ρ:Rho} {f:FuncId} {fs cs:Array Value} {v:Value} (h:VR ρ (.func (.func f) fs cs) v):∃ as bs,v=.func (.func f) as bs∧VRs ρ fs.toList as.toList∧VRs ρ cs.toList bs.toList:=by
  cases h with | func h1 h2 h3 h4=>exact ⟨_,_,rfl,⟨h1,h2⟩,⟨h3,h4⟩⟩
theorem XhI {P:Program} {f:FuncId} (h:XhC P f=true) (args:Array Value) (w:World):(callFunc f args).run P w=.ok (.enter f args) w:=by
  unfold XhC at h
  rw [XrW] at h
  split at h
  · rename_i fn hf
    rw [Bool.and_eq_true] at h
    exact Xsd hf h.1 h.2 args w
  · cases h
section
variable {P:Program} {E:Xv}
theorem Xnf {ρ:Rho} {nt:Nat} {g:Operand} {ps:Array Tmp} {assign body:Code} {r:Tr Value} {H H1 H2 H3:Hp} {ds:List Nat} {s:St} {w:World} {K:KS} {gf:FuncId} {fs cs:Array Value} {d l nt':Nat} {v:Value} {rr:Tr Value} {ps':List Tmp} {a' b':Code} (hE:Yi P E)
    (hg:evO r g=some (.func (.func gf) fs cs)) (hen:XhC P gf=true) (h1:H.new .df=some (d,H1)) (h2:H1.new (.loop r nt ps.toList assign body)=some (l,H2)) (h3:E (.f gf) (fs.toList++[.func (.yield l) #[] #[]]++cs.toList) H2=some (v,H3)) (h4:H3.t.get l=some (.loop rr nt' ps' a' b'))
    (hkl:XS l=true) (hS:Sm ρ nt r H.t s w) (hD:DS ρ ds s.ds) (hk:Cx ρ H.t w nt (.normal,r,⟨H3.n,Hp.put H3.t l .dead⟩,d::ds) K):Xa9 P none nt (s.ev g) ps assign body s w K:=by
  obtain ⟨i1,i2,i3⟩:=Xag h1
  obtain ⟨j1,j2,j3⟩:=Xag h2
  obtain ⟨first,cap,e,hfa,hcb⟩:=(Xo hS.rr hg).func_inv
  refine ⟨gf,first,cap,e,XhI hen,fun fn=>?_⟩
  obtain ⟨hR1,hE1⟩:=hS.rel.new (m:=⟨w.heap.size,0,0,0⟩) (w':=w.alloc (.deferred (some []))) (o:=.df) i1 i2 (Fr.alloc _ _) (Nat.le_refl _) (by show (w.heap.push _)[w.heap.size]?=_; simp) rfl
  have hsz:(w.alloc (Obj.deferred (some []))).heap.size=w.heap.size+1:=by simp
  have hor:OR (ρ.put d ⟨w.heap.size,0,0,0⟩) ⟨w.heap.size+1,0,0,0⟩ (.loop r nt ps.toList assign body) (.loop (YL fn (s.tmps nt) ps assign body w.heap.size)):=by
    refine ⟨fn,s.tmps nt,w.heap.size,rfl,⟨by simp [St.tmps],hS.rn⟩,fun t c hc=>?_⟩
    have ht:=hS.rn t c hc
    have:(s.tmps nt).getD t undef=s.r t:=by
      unfold St.tmps
      simp [Array.getD_eq_getD_getElem?,ht]
    show VR _ c ((s.tmps nt).getD t undef)
    rw [this]
    exact (hS.rr t c hc).mono hE1.le
  have j1':(Hp.put H.t d .df).get l=none:=by rw [← i3]; exact j1
  obtain ⟨hR2,hE2⟩:=hR1.new (m:=⟨w.heap.size+1,0,0,0⟩) (w':=(w.alloc (.deferred (some []))).alloc (.loop (YL fn (s.tmps nt) ps assign body w.heap.size))) (o:=.loop r nt ps.toList assign body) j1' j2 (Fr.alloc _ _) (by rw [hsz]; exact Nat.le_refl _)
    (by show ((w.alloc (.deferred (some []))).heap.push _)[w.heap.size+1]?=_; rw [Array.getElem?_push,if_pos hsz.symm]) hor
  have hHt:H2.t=Hp.put (Hp.put H.t d .df) l (.loop r nt ps.toList assign body):=by rw [j3,i3]
  rw [← hHt] at hR2 hE2
  have hld:d≠l:=fun h=>by rw [h,Hp.get_put (h ▸ i2),if_pos rfl] at j1'; cases j1'
  have hρl:((ρ.put d ⟨w.heap.size,0,0,0⟩).put l ⟨w.heap.size+1,0,0,0⟩) l=some ⟨w.heap.size+1,0,0,0⟩:=Rho.put_same ..
  have hρd:((ρ.put d ⟨w.heap.size,0,0,0⟩).put l ⟨w.heap.size+1,0,0,0⟩) d=some ⟨w.heap.size,0,0,0⟩:=by rw [Rho.put_ne _ _ hld]; exact Rho.put_same ..
  have hx2:Ext ρ H.t w _ H2.t _:=hE1.trans hE2
  have hargs:VRs ((ρ.put d ⟨w.heap.size,0,0,0⟩).put l ⟨w.heap.size+1,0,0,0⟩) (fs.toList++[.func (.yield l) #[] #[]]++cs.toList) (first.toList++[.func (.yield (w.heap.size+1)) #[] #[]]++cap.toList):=
    VRs.append (VRs.append (VRs.mono hx2.le hfa) (.cons (.yield hρl) (.nil _))) (VRs.mono hx2.le hcb)
  refine callK_of_callF (XhI hen _ _) ?_
  refine hE (.f gf) _ H2 v H3 h3 _ _ _ _ hR2 hargs fun ρ3 w3 v3 hx3 hR3 hv3=>?_
  obtain ⟨m,O,hm,hO,fn',tm,df,rfl,⟨htm,hrn⟩,hrr⟩:=hR3.live l _ h4 rfl
  have hm':=hx3.le _ _ hρl
  rw [hm] at hm'; cases hm'
  have hL:LpAt w3 (w.heap.size+1) (YL fn' tm ⟨ps'⟩ a' b' df):=hO
  refine ⟨none,VL w3 (w.heap.size+1) (.loop { YL fn' tm ⟨ps'⟩ a' b' df with state:=.exhausted }),?_,?_⟩
  · show ((Instr.getLoop (w.heap.size+1) >>= _:Sem (Option Code))).run P w3=_
    rw [Sem.run_bind,Uz hL]
    show ((setObj (w.heap.size+1) _ >>= _:Sem (Option Code))).run P w3=_
    rw [Sem.run_bind,V2 hL]; rfl
  · obtain ⟨hR4,hE4⟩:=hR3.turn (o2:=.dead) h4 rfl hm hkl (Xbc w3 (w.heap.size+1) (.loop { YL fn' tm ⟨ps'⟩ a' b' df with state:=.exhausted })) (Xju hL _) trivial
    have hx4:=(hx2.trans hx3).trans hE4
    refine hk _ _ ⟨s.r,{ target:=.collected w.heap.size,args:=#[] }::s.ds⟩ hx4 ⟨hS.rr.mono hx4.le,hS.rn,hR4⟩ ⟨⟨_,hx3.le _ _ hρd,rfl⟩,hD.mono hx4.le⟩
theorem Xng (hE:Yi P E) (hU:P.underlying 999999=none) {nt fuel:Nat} {fork:Array Oper→Tr Value→Hp→Option Ss} (hF:XdZ P nt fork) {ro:Option Nat} {own:Bool} (hown:own=ro.isNone) (c:Code) :
    ∀ {n:Nat} {r:Tr Value} {H:Hp} {ds:List Nat} {y:Cs} {ρ:Rho} {s:St} {w:World} {K:KS},evC P E nt own fuel fork c r H ds=some y→Sm ρ nt r H.t s w→DS ρ ds s.ds→Cx ρ H.t w nt y K→swE P ro nt (JF nt) c n K s w:=by
  induction c with
  | skip=>intro n r H ds y ρ s w K h hS hD hk; cases h; exact hk ρ w s (Ext.refl ..) hS hD
  | exit id=>intro n r H ds y ρ s w K h hS hD hk; cases h; exact hk ρ w s (Ext.refl ..) hS hD
  | ret=>intro n r H ds y ρ s w K h hS hD hk; cases h; exact hk ρ w s (Ext.refl ..) hS hD
  | region id ops draw=>
    intro n r H ds y ρ s w K h hS hD hk
    have nx:∀ {r':Tr Value} {H':Hp},y=(.normal,r',H',ds)→Nx ρ H.t w s.ds nt r' H'.t fun s w=>K .normal s w:=by
      rintro r' H' rfl ρ' w' s' hx hS' hd
      exact hk ρ' w' s' hx hS' (by rw [hd]; exact hD.mono hx.le)
    cases draw with
    | false=>
      obtain ⟨r',H',h1,h2⟩:=Xne h
      exact Xm9 hE h1 hS (nx h2)
    | true=>
      unfold evC Xuu at h
      dsimp only at h
      obtain ⟨hfk,h⟩:=Xf h
      obtain ⟨r',H',h1,h2⟩:=Xne h
      show bif Vc P ops then _ else _
      rw [hfk,cond_true]
      exact hF ops r H _ h1 hfk ρ s w _ hS (nx h2)
  | seq a b iha ihb=>
    intro n r H ds y ρ s w K h hS hD hk
    unfold evC at h
    split at h
    · rename_i r1 H1 ds1 h1
      refine iha h1 hS hD fun ρ1 w1 s1 hx hS1 hD1=>?_
      exact ihb h hS1 hD1 (hk.then hx)
    · rename_i hno
      refine iha h hS hD fun ρ1 w1 s1 hx hS1 hD1=>?_
      have:=hk ρ1 w1 s1 hx hS1 hD1
      obtain ⟨x,r3,H3,ds3⟩:=y
      cases x with
      | normal=>exact (hno r3 H3 ds3 h).elim
      | exit i=>exact this
      | ret=>exact this
  | cond c t e iht ihe=>
    intro n r H ds y ρ s w K h hS hD hk
    unfold evC at h
    split at h
    · rename_i b hb
      have hv:=(Xo hS.rr hb).bool_inv
      show match s.ev c with | .bool b=>cond b (swE P ro nt (JF nt) t n K s w) (swE P ro nt (JF nt) e n K s w) | _=>False
      rw [hv]
      cases b with
      | true=>exact iht h hS hD hk
      | false=>exact ihe h hS hD hk
    · cases h
  | block id b ih=>
    intro n r H ds y ρ s w K h hS hD hk
    unfold evC at h
    show swE P ro nt (JF nt) b id (XdD id K) s w
    split at h
    · rename_i i r1 H1 ds1 h1
      refine ih h1 hS hD fun ρ1 w1 s1 hx hS1 hD1=>?_
      show bif Nat.beq i id then K .normal s1 w1 else K (.exit i) s1 w1
      cases hb:Nat.beq i id with
      | true=>rw [hb] at h; cases h; exact hk ρ1 w1 s1 hx hS1 hD1
      | false=>rw [hb] at h; cases h; exact hk ρ1 w1 s1 hx hS1 hD1
    · rename_i hno
      refine ih h hS hD fun ρ1 w1 s1 hx hS1 hD1=>?_
      have:=hk ρ1 w1 s1 hx hS1 hD1
      obtain ⟨x,r3,H3,ds3⟩:=y
      cases x with
      | normal=>exact this
      | exit i=>exact (hno i r3 H3 ds3 h).elim
      | ret=>exact this
  | loop b ih=>
    intro n r H ds y ρ s w K h hS hD hk
    refine Xsc hU (ds:=ds) (f:=fun r H=>match evC P E nt own fuel fork b r H ds with | some (.normal,r',H',ds')=>bif XhB ds ds' then some (.normal,r',H',ds') else none | x=>x) ?_ h hS hD hk
    intro r1 H1 y1 h1
    split at h1
    · rename_i r2 H2 ds2 h2
      obtain ⟨hs,h1⟩:=Xf h1
      cases h1
      exact ⟨fun _=>(Xnd hs).symm,fun ρ s w K hS hD hk=>ih h2 hS hD hk⟩
    · rename_i hno
      refine ⟨fun hy=>?_,fun ρ s w K hS hD hk=>ih h1 hS hD hk⟩
      obtain ⟨x,r3,H3,ds3⟩:=y1
      dsimp only at hy
      subst hy
      exact (hno r3 H3 ds3 h1).elim
  | rangeFunc g ps assign body _ _=>
    intro n r H ds y ρ s w K h hS hD hk
    unfold evC at h
    obtain ⟨ho,h⟩:=Xf h
    cases ro with
    | some l=>rw [hown] at ho; cases ho
    | none=>
      unfold Xm7 at h
      split at h
      · rename_i gf fs cs hg
        obtain ⟨hen,h⟩:=Xf h
        split at h
        · cases h
        · rename_i d H1 h1
          split at h
          · cases h
          · rename_i l H2 h2
            split at h
            · cases h
            · rename_i v H3 h3
              split at h
              · rename_i rr nt' ps' a' b' h4
                obtain ⟨hok,h⟩:=Xf h
                cases h
                exact Xnf hE hg hen h1 h2 h3 h4 hok hS hD hk
              · cases h
      · cases h
  | _=>intro n r H ds y ρ s w K h; cases h
end
end Go.Fw
end

section
namespace Go.Fw
open Go
theorem Xf0:∀ (vs:List Value) (i:Nat) (r:Tr Value),i+vs.length≤4000→∀ t,(Xbj vs i r).get t=if i≤t∧t<i+vs.length then vs[t - i]? else r.get t
  | [],i,r,_,t=>by rw [if_neg (by simp)]; rfl
  | v::vs,i,r,h,t=>by
    have hk:XS i=true:=Nat.ble_eq_true_of_le (by simp at h; omega)
    show (Xbj vs (i+1) (Tr.set 12 r i (some v))).get t=_
    rw [Xf0 vs (i+1) _ (by simp at h ⊢; omega),Jn hk]
    by_cases e:t=i
    · subst e
      rw [if_neg (by omega),if_pos rfl,if_pos (by simp),Nat.sub_self]; rfl
    · by_cases h2:i≤t∧t<i+(vs.length+1)
      · rw [if_pos (by omega),if_pos (by simpa using h2),show t - i=(t - (i+1))+1 from by omega,List.getElem?_cons_succ]
      · rw [if_neg (by omega),if_neg e,if_neg (by simpa using h2)]
section
variable {P:Program}
theorem Xnh {rs:List ResultVar} {s:St} {K:VWP} {ρ:Rho}:∀ {ds:List Nat} {l:List Deferred} {H H2:Hp} {w:World},Xbi ds H=some H2→DS ρ ds l→Rel ρ H.t w→(∀ w',Ext ρ H.t w ρ H2.t w'→Rel ρ H2.t w'→Xjs P rs s w' K)→Wb P rs s K l w
  | [],[],H,H2,w,h,_,hR,hk=>by cases h; exact hk w (Ext.refl ..) hR
  | [],_::_,_,_,_,_,hD,_,_=>hD.elim
  | _::_,[],_,_,_,_,hD,_,_=>hD.elim
  | d::ds,x::l,H,H2,w,h,hD,hR,hk=>by
    obtain ⟨⟨m,hm,rfl⟩,hD⟩:=hD
    unfold Xbi at h
    split at h
    · rename_i hg
      obtain ⟨hid,h⟩:=Xf h
      obtain ⟨m',O,hm',hO,hor⟩:=hR.live d _ hg rfl
      rw [hm] at hm'; cases hm'
      have hor:O=.deferred (some []):=hor
      subst hor
      obtain ⟨w',h1,h2,h3⟩:=Tk.of (P:=P) (show DfAt w m.b from hO)
      have hlt:=Yh hO
      have hO':=Array.getElem?_eq_getElem (xs:=w'.heap) (i:=m.b) (by omega)
      obtain ⟨hR',hE'⟩:=hR.turn (o2:=.dead) hg rfl hm hid h2 hO' trivial
      exact ⟨w',h1,Xnh h hD hR' fun w2 hx2 hR2=>hk w2 (hE'.trans hx2) hR2⟩
    · cases h
theorem XgD {r:Tr Value} {H:Hp} {s:St} {w:World} {ρ:Rho} (hr:RR ρ r s.r) (hR:Rel ρ H.t w):∀ {rs:List ResultVar} {cs:List Value},Xb3 P r H rs=some cs→∃ us,VRs ρ cs us∧∀ K,K us→Xhq P w rs s K
  | [],cs,h=>by cases h; exact ⟨[],.nil ρ,fun K h=>h⟩
  | .tmp t::rs,cs,h=>by
    unfold Xb3 at h
    split at h
    · rename_i v vs hv hvs
      cases h
      obtain ⟨us,h1,h2⟩:=XgD hr hR hvs
      exact ⟨s.r t::us,.cons (hr t v hv) h1,fun K hk=>h2 _ hk⟩
    · cases h
  | .cell a t::rs,cs,h=>by
    unfold Xb3 at h
    split at h
    · rename_i x vs hx hvs
      split at h
      · rename_i v hv
        cases h
        obtain ⟨us,h1,h2⟩:=XgD hr hR hvs
        obtain ⟨u,hu,hvr⟩:=XkH (P:=P) hR hv (hr a x hx)
        obtain ⟨i,o,rfl⟩:∃ i o,x=.pointer (some ⟨i,o,none⟩):=by
          unfold Qr at hv
          split at hv
          · exact ⟨_,_,rfl⟩
          · cases hv
        obtain ⟨m,hm,he⟩:=(hr a _ hx).ptr_inv
        rw [he] at hu
        exact ⟨u::us,.cons hvr h1,fun K hk=>⟨_,u,he,hu,h2 _ hk⟩⟩
      · cases h
    · cases h
theorem XtC {ρ:Rho}:∀ {cs us:List Value},VRs ρ cs us→VR ρ (Xe2 cs) (Xe2 us)
  | [],us,h=>by rw [h.nil_inv]; exact VRs.tuple (.nil ρ)
  | [c],us,h=>by
    obtain ⟨u,l,rfl,h1,h2⟩:=h.cons_inv
    rw [h2.nil_inv]; exact h1
  | c::d::cs,us,h=>by
    obtain ⟨u,l,rfl,h1,h2⟩:=h.cons_inv
    obtain ⟨u2,l2,rfl,h3,h4⟩:=h2.cons_inv
    exact VRs.tuple (.cons h1 (.cons h3 h4))
theorem Xni {nt:Nat} {ρ:Rho}:∀ {ps:List Tmp} {cs vs:List Value} {r r1:Tr Value} {tm:Array Value},XhD nt ps cs r=some r1→VRs ρ cs vs→RR ρ r (fun t=>tm.getD t undef)→RN nt r→tm.size=nt→
    ps.length=vs.length∧RR ρ r1 (fun t=>((ps.zip vs).foldl (fun tm (x:Tmp×Value)=>tm.setIfInBounds x.1 x.2) tm).getD t undef)∧RN nt r1∧((ps.zip vs).foldl (fun tm (x:Tmp×Value)=>tm.setIfInBounds x.1 x.2) tm).size=nt
  | [],[],vs,r,r1,tm,h,hv,hr,hn,hs=>by cases h; rw [hv.nil_inv]; exact ⟨rfl,hr,hn,hs⟩
  | [],_::_,_,_,_,_,h,_,_,_,_=>by cases h
  | _::_,[],_,_,_,_,h,_,_,_,_=>by cases h
  | p::ps,c::cs,vs,r,r1,tm,h,hv,hr,hn,hs=>by
    obtain ⟨v,vs',rfl,h1,h2⟩:=hv.cons_inv
    unfold XhD at h
    obtain ⟨hc,h⟩:=Xf h
    rw [Bool.and_eq_true] at hc
    have hp:p<nt:=Nat.le_of_ble_eq_true hc.2
    obtain ⟨h3,h4,h5,h6⟩:=Xni (tm:=tm.setIfInBounds p v) h h2 (fun t x hx=>by
      rw [Jn hc.1] at hx
      by_cases e:t=p
      · rw [if_pos e] at hx; cases hx; subst e
        have:(tm.setIfInBounds t v).getD t undef=v:=by simp [Array.getD_eq_getD_getElem?,hs,hp]
        show VR ρ c ((tm.setIfInBounds t v).getD t undef)
        rw [this]; exact h1
      · rw [if_neg e] at hx
        have:(tm.setIfInBounds p v).getD t undef=tm.getD t undef:=by simp [Array.getD_eq_getD_getElem?,Array.getElem?_setIfInBounds_ne (Ne.symm e)]
        show VR ρ x ((tm.setIfInBounds p v).getD t undef)
        rw [this]; exact hr t x hx) (hn.set hc.1 hp c) (by simpa using hs)
    exact ⟨by simp [h3],h4,h5,h6⟩
def XOk (P:Program) (X:FuncId→List Value→Hp→Option (Value×Hp)):Prop:=∀ (f:FuncId) (args:List Value) (H:Hp) (c:Value) (H':Hp),X f args H=some (c,H')→∀ (ρ:Rho) (w:World) (vs:List Value) (K:VWP),Rel ρ H.t w→VRs ρ args vs→Kok ρ H.t w c H'.t K→
  Xa P f ⟨vs⟩ w K
theorem XqR {E:Xv} (hE:Yi P E) (hU:P.underlying 999999=none) {fuel nt l:Nat} {fork:Array Oper→Tr Value→Hp→Option Ss} (hF:XdZ P nt fork) {args vs:List Value} {H H2 H3:Hp} {r r1 r2 r3:Tr Value} {ps:List Tmp} {assign body:Code} {ρ:Rho} {w:World} {K:VWP}
    (hg:H.t.get l=some (.loop r nt ps assign body)) (hid:XS l=true) (h1:XhD nt ps args r=some r1) (h2:evC P E nt false fuel fork assign r1 ⟨H.n,Hp.put H.t l .dead⟩ []=some (.normal,r2,H2,[])) (h3:evC P E nt false fuel fork body r2 H2 []=some (.normal,r3,H3,[]))
    (hR:Rel ρ H.t w) (hv:VRs ρ args vs) (hk:Kok ρ H.t w (.bool true) (Hp.put H3.t l (.loop r nt ps assign body)) K) {m:Img} (hm:ρ l=some m):Qi P m.b ⟨vs⟩ w K:=by
  obtain ⟨m',O,hm',hO,fn,tm,df,rfl,⟨htm,hrn⟩,hrr⟩:=hR.live l _ hg rfl
  rw [hm] at hm'; cases hm'
  have hL:LpAt w m.b (YL fn tm ⟨ps⟩ assign body df):=hO
  obtain ⟨hp1,hp2,hp3,hp4⟩:=Xni h1 hv hrr hrn htm
  have hLb:Lb ρ H.t m.b:=⟨l,m,⟨_,hg,rfl⟩,hm,rfl⟩
  obtain ⟨hR0,hx0⟩:=hR.kill hid
  have hn0:¬ Lb ρ (Hp.put H.t l .dead) m.b:=fun ⟨i,mi,⟨o,ho,hd⟩,hmi,he⟩=>by
    rw [Hp.get_put hid] at ho
    by_cases e:i=l
    · rw [if_pos e] at ho; cases ho; cases hd
    · rw [if_neg e] at ho
      exact e (hR.inj i l mi m ⟨o,ho,hd⟩ ⟨_,hg,rfl⟩ hmi hm he)
  have hlt:=Yh hO
  have nolb:∀ {ρ':Rho} {t':HT} {w':World},Ext ρ (Hp.put H.t l .dead) w ρ' t' w'→¬ Lb ρ' t' m.b:=fun hx hb=>by
    rcases hx.new _ hb with h | h
    · omega
    · exact hn0 h
  generalize htl:((ps.zip vs).foldl (fun tm (x:Tmp×Value)=>tm.setIfInBounds x.1 x.2) tm)=tm2 at hp2 hp4
  have hcall:Yv P (.func (.yield m.b) #[] #[]) vs w K:=by
    refine XpS hL (args:=vs) (tmps:=⟨tm2.toList⟩) (by show vs.length=(⟨ps⟩:Array Tmp).size; simpa using hp1.symm) ?_ (Xnc (JF nt) (JF nt) (nt:=nt) (by simpa using hp4) ?_)
    · show ((⟨ps⟩:Array Tmp).zip ⟨vs⟩).foldl _ tm=_
      rw [← Array.foldl_toList,Array.toList_zip]
      exact htl
    · have hS1 : Sm ρ nt r1 (Hp.put H.t l .dead) ⟨Y6 tm2.toList, []⟩ w := ⟨fun t c hc => by
        have:=hp2 t c hc
        have e:Y6 tm2.toList t=tm2.getD t undef:=by simp [Y6,Array.getD_eq_getD_getElem?,List.getD_eq_getElem?_getD]
        show VR ρ c (Y6 tm2.toList t)
        rw [e]; exact this,hp3,hR0⟩
      refine Xng hE hU hF (ro:=some m.b) rfl assign h2 hS1 trivial fun ρ1 w1 s1 hx1 hS2 hD1=>?_
      dsimp only at hx1 hS2 hD1
      have hL1:LpAt w1 m.b (YL fn tm ⟨ps⟩ assign body df):=(hx1.keep _ hlt hn0).trans hL
      have hn1:=nolb hx1
      refine BegR.of hL1 rfl fun w2 hf2 hL2 hsz2=>?_
      have hS3:Sm ρ1 nt r2 H2.t s1 w2:=⟨hS2.rr,hS2.rn,hS2.rel.free hn1 hf2⟩
      refine Xng hE hU hF (ro:=some m.b) rfl body h3 hS3 hD1 fun ρ2 w3 s3 hx3 hS4 hD3=>?_
      dsimp only at hx3 hS4 hD3
      have hlt2:m.b<w2.heap.size:=Yh hL2
      have hL3:LpAt w3 m.b { YL fn tm ⟨ps⟩ assign body df with state:=.busy }:=(hx3.keep _ hlt2 hn1).trans hL2
      have hn3:¬ Lb ρ2 H3.t m.b:=fun hb=>by
        rcases hx3.new _ hb with h | h
        · omega
        · exact hn1 h
      refine EndR.of hL3 none rfl fun w4 hf4 hL4 hsz4=>?_
      have hm2:ρ2 l=some m:=hx3.le _ _ (hx1.le _ _ hm)
      have hxw1:Ext ρ H.t w ρ1 H2.t w1:=hx0.trans hx1
      have hxw3:Ext ρ H.t w ρ2 H3.t w3:=(hxw1.free hLb hf2).trans hx3
      have hxw4:Ext ρ H.t w ρ2 (Hp.put H3.t l (.loop r nt ps assign body)) w4:=(hxw3.free hLb hf4).revive hm hm2 hid hLb
      exact hk ρ2 w4 (.bool true) hxw4 (hS4.rel.revive hm2 hid hn3 hf4 hL4 ⟨fn,tm,df,rfl,⟨htm,hrn⟩,hrr.mono hxw4.le⟩) (.bool true)
  exact XdB hcall
theorem Xse {E:Xv} (hE:Yi P E) (hU:P.underlying 999999=none) {X:FuncId→List Value→Hp→Option (Value×Hp)} (hX:XOk P X) {fuel:Nat} {fork:Xv→Nat→Array Oper→Tr Value→Hp→Option Ss} (hF:∀ nt,XdZ P nt (fork E nt)):Yi P (XhE P X fuel fork E):=by
  intro tg args H c H' h ρ w vs K hR hv hk
  cases tg with
  | f f=>
    show Xa P f ⟨vs⟩ w K
    unfold XhE at h
    simp only [XrW] at h
    split at h
    · rename_i x hx
      cases h
      exact hX f args H c H' hx ρ w vs K hR hv hk
    · split at h
      · cases h
      · rename_i fn hf
        split at h
        · cases h
        · rename_i b hb
          obtain ⟨hc,h⟩:=Xf h
          rw [Bool.and_eq_true,Bool.and_eq_true] at hc
          have hn:args.length≤fn.ntmps:=Nat.le_of_ble_eq_true hc.1.2
          have hn4:fn.ntmps≤4000:=Nat.le_of_ble_eq_true hc.2
          refine XmE (fun args w=>Xsd hf hc.1.1 (by rw [hb]; rfl) args w) (Xnb (JF fn.ntmps) hf hb (by rw [← hv.1]; exact hc.1.2) ?_)
          have hget:=Xf0 args 0 .nil (by omega)
          have hS:Sm ρ fn.ntmps (Xbj args 0 .nil) H.t ⟨Y6 vs,[]⟩ w:=by
            refine ⟨fun t x hx=>?_,fun t x hx=>?_,hR⟩
            · rw [hget] at hx
              by_cases e:0≤t∧t<0+args.length
              · rw [if_pos e,Nat.sub_zero] at hx
                obtain ⟨y,hy,hvr⟩:=hv.get hx
                have:Y6 vs t=y:=by simp [Y6,List.getD_eq_getElem?_getD,hy]
                show VR ρ x (Y6 vs t)
                rw [this]; exact hvr
              · rw [if_neg e] at hx; cases hx
            · rw [hget] at hx
              by_cases e:0≤t∧t<0+args.length
              · omega
              · rw [if_neg e] at hx; cases hx
          have fin:∀ {r':Tr Value} {H2 H3:Hp} {ds:List Nat} {cs:List Value},Xbi ds H2=some H3→Xb3 P r' H3 fn.results.toList=some cs→c=Xe2 cs→H'=H3→∀ ρ' w' s',Ext ρ H.t w ρ' H2.t w'→Sm ρ' fn.ntmps r' H2.t s' w'→DS ρ' ds s'.ds→Wb P fn.results.toList s' K s'.ds w':=by
            rintro r' H2 H3 ds cs hkl hrs rfl rfl ρ' w' s' hx hS' hD'
            refine Xnh hkl hD' hS'.rel fun w2 hx2 hR2=>?_
            obtain ⟨us,h1,h2⟩:=XgD (P:=P) hS'.rr hR2 hrs
            exact h2 _ (hk ρ' w2 _ (hx.trans hx2) hR2 (XtC h1))
          split at h
          · cases h
          · rename_i x r' H2 ds hno hev
            split at h
            · rename_i H3 hkl
              split at h
              · rename_i cs hrs
                cases h
                refine Xng hE hU (hF _) (ro:=none) rfl b hev hS trivial fun ρ' w' s' hx hS' hD'=>?_
                cases x with
                | normal=>exact fin hkl hrs rfl rfl ρ' w' s' hx hS' hD'
                | ret=>exact fin hkl hrs rfl rfl ρ' w' s' hx hS' hD'
                | exit i=>exact (hno i rfl).elim
              · cases h
            · cases h
          · cases h
  | y l=>
    show ∀ m,ρ l=some m→Qi P m.b ⟨vs⟩ w K
    intro m hm
    unfold XhE at h
    dsimp only at h
    split at h
    · rename_i r nt ps assign body hg
      obtain ⟨hid,h⟩:=Xf h
      split at h
      · rename_i r1 h1
        split at h
        · rename_i r2 H2 h2
          split at h
          · rename_i r3 H3 h3
            split at h
            · cases h
              exact XqR hE hU (hF nt) hg hid h1 h2 h3 hR hv hk hm
            · cases h
          · cases h
        · cases h
      · cases h
    · cases h
theorem Xnj (hU:P.underlying 999999=none) {X:FuncId→List Value→Hp→Option (Value×Hp)} (hX:XOk P X) {fuel:Nat} {fork:Xv→Nat→Array Oper→Tr Value→Hp→Option Ss} (hF:∀ E,Yi P E→∀ nt,XdZ P nt (fork E nt)):∀ n,Yi P (evN P X fuel fork n)
  | 0=>fun _ _ _ _ _ h=>by cases h
  | n+1=>Xse (Xnj hU hX hF n) hU hX (hF _ (Xnj hU hX hF n))
end
end Go.Fw
end

section
namespace Go.Fw
open Go
noncomputable section
def Jd (m i:Nat):Bool:=Nat.beq (Nat.mod (Nat.div m (Nat.pow 2 i)) 2) 1
def Xb5 (m i:Nat):Nat:=Nat.lor m (Nat.pow 2 i)
theorem XjC (m i:Nat):Jd m i=Nat.testBit m i:=by
  rw [Nat.testBit_eq_decide_div_mod_eq]
  unfold Jd
  show Nat.beq (m / 2 ^ i % 2) 1=_
  cases h:Nat.beq (m / 2 ^ i % 2) 1 with
  | true=>rw [eq_comm,decide_eq_true_eq]; exact beq_iff.1 h
  | false=>rw [eq_comm,decide_eq_false_iff_not]; exact Zk.1 h
theorem XtD (m i j:Nat):Jd (Xb5 m i) j=if j=i then true else Jd m j:=by
  rw [XjC,XjC]
  show Nat.testBit (m ||| 2 ^ i) j=_
  rw [Nat.testBit_or,Nat.testBit_two_pow]
  by_cases e:j=i
  · rw [if_pos e,e]; simp
  · rw [if_neg e]; simp [Ne.symm e]
theorem Xsf (i:Nat):Jd 0 i=false:=by rw [XjC]; simp
def lst (l:Array Bool) (i:Nat):Bool:=l.getD i false
theorem Yp {l:Array Bool} {i:Nat} (hi:i<l.size) (j:Nat):lst (l.setIfInBounds i true) j=if j=i then true else lst l j:=by
  unfold lst
  by_cases h:j=i
  · subst h; simp [Array.getD_eq_getD_getElem?,hi]
  · rw [if_neg h]; simp [Array.getD_eq_getD_getElem?,Array.getElem?_setIfInBounds_ne (Ne.symm h)]
def MA (l:Array Bool) (m:Nat):Prop:=∀ j,Jd m j=lst l j
theorem MA.set {l:Array Bool} {m i:Nat} (h:MA l m) (hi:i<l.size):MA (l.setIfInBounds i true) (Xb5 m i):=fun j=>by rw [XtD,Yp hi,h j]
theorem MA.zero (n:Nat):MA (Array.replicate n false) 0:=fun j=>by
  rw [Xsf]
  unfold lst
  rw [Array.getD_eq_getD_getElem?]
  by_cases h:j<n
  · simp [h]
  · simp [h]
def opF (all:Array Oper) (i:Nat):Option Oper:=match (XmP all.toList).get i with | some o=>some o | none=>all[i]?
theorem Xbl (all:Array Oper) (i:Nat):opF all i=all[i]?:=by
  unfold opF
  split
  · rename_i o h
    have:=Xgt h
    rw [Array.getElem?_toList] at this
    exact this.symm
  · rfl
def Xbm (m:Nat) (o:Oper):Bool:=o.after.toList.all fun e=>!Region.binds .any e || Jd m e.on
def Yq (m:Nat):List Oper→Nat→List Nat
  | [],_=>[]
  | o::l,i=>bif Jd m i then Yq m l (Nat.succ i) else bif Xbm m o then i::Yq m l (Nat.succ i) else Yq m l (Nat.succ i)
theorem Xaj {all:Array Oper} {l:Array Bool} {m:Nat} (h:MA l m) (hs:l.size=all.size):Region.ready .any all l=Yq m all.toList 0:=by
  have key:∀ (q:List Oper) (k:Nat),(∀ j,q[j]?=all[k+j]?)→(List.range' k q.length).filter (fun i=>!l.getD i true && ((all[i]?).map (·.after.all fun e=>!Region.binds .any e || l.getD e.on false)).getD false)=Yq m q k:=by
    intro q
    induction q with
    | nil=>intro k _; rfl
    | cons o q ih=>
      intro k hq
      have h0:all[k]?=some o:=by simpa using (hq 0).symm
      have hlt:k<l.size:=by rw [hs]; exact (Array.getElem?_eq_some_iff.1 h0).1
      have hb:Jd m k=l.getD k true:=by
        rw [h k]; unfold lst; simp [Array.getD_eq_getD_getElem?,hlt]
      have hd:Xbm m o=(o.after.all fun e=>!Region.binds .any e || l.getD e.on false):=by
        unfold Xbm
        rw [← Array.all_toList]
        congr 1
        funext e
        rw [h e.on]; rfl
      rw [List.length_cons,List.range'_succ,List.filter_cons,ih (k+1) fun j=>by have:=hq (j+1); simpa [Nat.add_assoc,Nat.add_comm 1 j] using this]
      have e:Yq m (o::q) k=(bif Jd m k then Yq m q (k+1) else bif Xbm m o then k::Yq m q (k+1) else Yq m q (k+1)):=rfl
      rw [e,h0,← hb,show ((some o).map (·.after.all fun e=>!Region.binds .any e || l.getD e.on false)).getD false=Xbm m o from hd.symm]
      generalize Yq m q (k+1)=R
      cases Jd m k <;> cases Xbm m o <;> rfl
  unfold Region.ready
  rw [List.range_eq_range',← Array.length_toList]
  exact key all.toList 0 (by simp)
def XhJ (all:Array Oper) (m i:Nat) (oi:Oper):List Oper→Nat→Bool
  | [],_=>true
  | oj::l,j=>(Nat.beq j i || Jd m j || ((oj.after.toList.any fun e=>Region.binds .any e && Nat.beq e.on i) || oi.apart all oj)) && XhJ all m i oi l (Nat.succ j)
def XhK (all:Array Oper) (m i:Nat):Bool:=match opF all i with | none=>false | some oi=>XhJ all m i oi all.toList 0
theorem XvT (a b:Nat):(a == b)=Nat.beq a b:=by rw [Bool.eq_iff_iff,beq_iff_eq]; exact beq_iff.symm
theorem XtE {all:Array Oper} {l:Array Bool} {m:Nat} (h:MA l m) (hs:l.size=all.size) (i:Nat):Region.free .any all l i=XhK all m i:=by
  unfold Region.free XhK
  rw [Xbl]
  cases hi:all[i]? with
  | none=>rfl
  | some oi=>
    dsimp only
    have key:∀ (q:List Oper) (k:Nat),(∀ j,q[j]?=all[k+j]?)→(List.range' k q.length).all (fun j=>j == i || l.getD j true || match all[j]? with
      | some oj=>oj.after.any (fun e=>Region.binds .any e && e.on == i) || oi.apart all oj
      | none=>true)=XhJ all m i oi q k:=by
      intro q
      induction q with
      | nil=>intro k _; rfl
      | cons o q ih=>
        intro k hq
        have h0:all[k]?=some o:=by simpa using (hq 0).symm
        have hlt:k<l.size:=by rw [hs]; exact (Array.getElem?_eq_some_iff.1 h0).1
        have hb:Jd m k=l.getD k true:=by
          rw [h k]; unfold lst; simp [Array.getD_eq_getD_getElem?,hlt]
        rw [List.length_cons,List.range'_succ,List.all_cons,ih (k+1) fun j=>by have:=hq (j+1); simpa [Nat.add_assoc,Nat.add_comm 1 j] using this]
        have e:XhJ all m i oi (o::q) k=((Nat.beq k i || Jd m k || ((o.after.toList.any fun e=>Region.binds .any e && Nat.beq e.on i) || oi.apart all o)) && XhJ all m i oi q (k+1)):=rfl
        rw [e,h0,← hb]
        dsimp only
        rw [← Array.any_toList]
        simp only [XvT]
    rw [List.range_eq_range',← Array.length_toList]
    exact key all.toList 0 (by simp)
def XhL (P:Program) (all:Array Oper) (m:Nat):Option (Nat×Bool):=
  match (Yq m all.toList 0).find? fun i=>match opF all i with | some o=>XP P o && XhK all m i | none=>false with
  | some i=>some (i,false)
  | none=>match Yq m all.toList 0 with
    | [i]=>some (i,false)
    | q=>match q.find? fun i=>match opF all i with | some o=>Z8 o && XhK all m i | none=>false with
      | some i=>some (i,true)
      | none=>none
theorem XgE {P:Program} {all:Array Oper} {l:Array Bool} {m:Nat} (h:MA l m) (hs:l.size=all.size):YB P all l=XhL P all m:=by
  unfold YB Xa7 XhL
  rw [Xaj h hs]
  simp only [XtE h hs,Xbl]
  cases (Yq m all.toList 0).find? fun i=>match all[i]? with | some o=>XP P o && XhK all m i | none=>false with
  | some i=>rfl
  | none=>
    dsimp only
    cases hq:Yq m all.toList 0 with
    | nil=>rfl
    | cons a q=>
      cases q with
      | nil=>rfl
      | cons b q=>rfl
def Xb6 (P:Program) (all:Array Oper):Nat→Nat→List Nat
  | 0,_=>[]
  | n+1,m=>
    match XhL P all m with
    | some (i,h)=>bif h then i::Xb6 P all n (Xb5 m i) else Xb6 P all n (Xb5 m i)
    | none=>
      match Yq m all.toList 0 with
      | []=>[]
      | i::_=>Xb6 P all n (Xb5 m i)
theorem Qt {all:Array Oper} {l:Array Bool} (hs:l.size=all.size) {i:Nat} (h:i∈Region.ready .any all l):i<l.size:=by
  obtain ⟨_,o,ho,_⟩:=mem_ready.1 h
  rw [hs]; exact (Array.getElem?_eq_some_iff.1 ho).1
theorem XgF {P:Program} {all:Array Oper}:∀ {n:Nat} {l:Array Bool} {m:Nat},MA l m→l.size=all.size→U3 P all n l=Xb6 P all n m
  | 0,_,_,_,_=>rfl
  | n+1,l,m,h,hs=>by
    unfold U3 Xb6
    have e:=XgE (P:=P) h hs
    rw [← e,← Xaj h hs]
    cases hn:YB P all l with
    | some q=>
      obtain ⟨i,hd⟩:=q
      have hr:i∈Region.ready .any all l:=by
        unfold YB at hn
        split at hn
        · rename_i j hj
          simp only [Option.some.injEq,Prod.mk.injEq] at hn
          obtain ⟨rfl,rfl⟩:=hn
          unfold Xa7 at hj
          split at hj
          · rename_i k hk; cases hj; exact List.mem_of_find?_eq_some hk
          · split at hj
            · rename_i k hk; cases hj; rw [hk]; simp
            · cases hj
        · split at hn
          · rename_i k hk
            simp only [Option.some.injEq,Prod.mk.injEq] at hn
            obtain ⟨rfl,rfl⟩:=hn
            exact List.mem_of_find?_eq_some hk
          · cases hn
      dsimp only
      rw [XgF (h.set (Qt hs hr)) (by simpa using hs)]
    | none=>
      dsimp only
      cases hr:Region.ready .any all l with
      | nil=>rfl
      | cons i q=>
        dsimp only
        exact XgF (h.set (Qt hs (by rw [hr]; simp))) (by simpa using hs)
end
end Go.Fw
end

section
namespace Go.Fw
open Go
noncomputable section
structure It where
  i:Nat
  o:Oper
  kd:Nat
  lo:Nat
  hi:Nat
  v:Value
  key:Value
  u:Value
  D:HT
def isK (k:Nat) (x:It):Bool:=Nat.beq x.kd k
def XL (L:List It) (l:Array Bool):List (Value×Value×Option Nat):=(L.filter fun x=>isK 2 x && lst l x.i).map fun x=>(x.key,x.u,none)
def W9 (L:List It) (l:Array Bool) (x:It) (id:Nat):Option Ob:=bif isK 3 x then (bif Nat.beq id x.lo then some (.map (XL L l) (XL L l).length) else none) else x.D.get id
structure Pl where
  n0:Nat
  n1:Nat
  L:List It
  t0:HT
  th:HT
def TF (p:Pl) (l:Array Bool) (id:Nat):Option Ob:=
  bif inR p.n0 p.n1 id then (match p.L.find? (fun x=>inR x.lo x.hi id) with | some x=>bif lst l x.i then W9 p.L l x id else none | none=>none)
  else bif p.L.any (fun x=>isK 1 x && lst l x.i) then p.th.get id else p.t0.get id
def Xmi (L:List It):List (Value×Value×Option Nat):=(L.filter (isK 2)).map fun x=>(x.key,x.u,none)
def TA (p:Pl) (id:Nat):Option Ob:=
  bif inR p.n0 p.n1 id then (match p.L.find? (fun x=>inR x.lo x.hi id) with
    | some x=>bif isK 3 x then (bif Nat.beq id x.lo then some (.map (Xmi p.L) (Xmi p.L).length) else none) else x.D.get id
    | none=>none)
  else bif p.L.any (isK 1) then p.th.get id else p.t0.get id
def TT (p:Pl) (l:Array Bool):HT:=⟨TF p l,.nil⟩
def UN (o:Oper) (i:Nat):Bool:=o.after.toList.any fun e=>Region.binds .any e && Nat.beq e.on i
def YI (rb:Tr Value) (o:Oper):List It→Tr Value
  | []=>rb
  | y::l=>bif UN o y.i then (match y.o.dst with | some d=>Tr.set 12 (YI rb o l) d (some y.v) | none=>YI rb o l) else YI rb o l
def Xd0 (f:Nat→Ob):Nat→Nat→HT→HT
  | 0,_,t=>t
  | n+1,k,t=>Xd0 f n (k+1) (Hp.put t k (f k))
def XpY (o:Oper):Bool:=match o.op with | .call { callee:=.value _,.. }=>true | _=>false
def XqS (P:Program) (many:Bool) (o:Oper):Nat×Nat:=
  match o.op with
  | .insert ..=>(2,0)
  | .makeMap ..=>(3,1)
  | .alloc _ | .box .. | .buildSlice .. | .makeSlice ..=>(0,1)
  | .call { callee:=.value _,.. }=>bif many then (0,24) else (1,0)
  | .binOp ..=>(0,0)
  | _=>bif XP P o then (0,0) else (1,0)
def XjD (P:Program) (all:Array Oper) (many:Bool):List Nat→Nat→Option (List It×Nat)
  | [],n=>some ([],n)
  | i::l,n=>
    match opF all i with
    | none=>none
    | some o=>match XjD P all many l (n+(XqS P many o).2) with
      | none=>none
      | some (r,n')=>some (⟨i,o,(XqS P many o).1,n,n+(XqS P many o).2,undef,undef,undef,.all⟩::r,n')
def Xnk (P:Program) (E:Xv) (n1:Nat) (rb:Tr Value) (td:HT) (dn:List It):It→Option (It×Option Hp)
  | ⟨i,o,1,lo,hi,_,key,u,D⟩=>(match XaI P E o.op o.type (YI rb o dn) ⟨n1,td⟩ with | some (v,H')=>some (⟨i,o,1,lo,hi,v,key,u,D⟩,some H') | none=>none)
  | ⟨i,o,2,lo,hi,v,_,_,D⟩=>
    (match o.op with
    | .insert t m k x=>(match evO (YI rb o dn) m,evO (YI rb o dn) k,evO (YI rb o dn) x,P.underlying t with
      | some (.map (some mp)),some kv,some uv,some (.map kt _)=>bif gr kv && ckB P false kt kv && (P.underlying kt).isSome && dn.any (fun y=>isK 3 y && Nat.beq y.lo mp && UN o y.i) then some (⟨i,o,2,lo,hi,v,kv,uv,D⟩,none) else none
      | _,_,_,_=>none)
    | _=>none)
  | ⟨i,o,3,lo,hi,_,key,u,D⟩=>
    (match XaI P E o.op o.type (YI rb o dn) ⟨lo,.hole lo hi⟩ with
    | some (.map (some mp),H')=>bif Nat.beq mp lo then (match H'.t.get lo with | some (.map [] 0)=>some (⟨i,o,3,lo,hi,.map (some lo),key,u,D⟩,none) | _=>none) else none
    | _=>none)
  | ⟨i,o,0,lo,hi,_,key,u,_⟩=>(match XaI P E o.op o.type (YI rb o dn) ⟨lo,.hole lo hi⟩ with | some (v,H')=>some (⟨i,o,0,lo,hi,v,key,u,H'.t⟩,none) | none=>none)
  | _=>none
def Xfa (P:Program) (E:Xv) (n1:Nat) (rb:Tr Value) (td:HT):List It→List It→Option (List It×Option Hp)
  | [],_=>some ([],none)
  | x::l,dn=>
    match Xnk P E n1 rb td dn x with
    | none=>none
    | some (y,h)=>match Xfa P E n1 rb td l (y::dn) with
      | none=>none
      | some (r,h')=>match h,h' with
        | some _,some _=>none
        | some H,none=>some (y::r,some H)
        | none,h'=>some (y::r,h')
def XgG (P:Program) (x y:It):Bool:=
  match x.o.op with
  | .insert t _ _ _=>(match P.underlying t with
    | some (.map kt _)=>(match P.underlying kt with | some ty=>(match Instr.sameNow ty x.key y.key with | some false=>true | _=>false) | none=>false)
    | _=>false)
  | _=>false
def Qu (P:Program) (x y:It):Bool:=
  (Nat.ble x.hi y.lo || Nat.ble y.hi x.lo) && (match x.o.dst,y.o.dst with | some a,some b=>!Nat.beq a b | _,_=>true) && (bif isK 2 x && isK 2 y then XgG P x y else true) && !(isK 3 x && isK 3 y) && !(isK 1 x && isK 1 y)
def XhM (nt n0 n1:Nat) (x:It):Bool:=x.o.guard.isNone && !Z8 x.o && (match x.o.dst with | some d=>Nat.blt d nt && XS d | none=>true) && Nat.ble n0 x.lo && Nat.ble x.hi n1 && (bif isK 3 x then Nat.beq x.hi (Nat.succ x.lo) else true) && (bif isK 0 x || isK 3 x then true else Nat.beq x.hi x.lo)
def XqT:List Nat→Bool
  | []=>true
  | a::l=>!(l.any (Nat.beq a)) && XqT l
def XhN (t:HT):Nat→Nat→Bool
  | 0,_=>true
  | n+1,k=>(t.get k).isNone && XhN t n (k+1)
def Xb7 (all:Array Oper) (l:Array Bool) (M:List Nat):Bool:=
  ((List.range all.size).all fun j=>lst l j || M.any (Nat.beq j) || (match all[j]? with | some o=>M.all fun m=>UN o m | none=>true)) &&
  M.all fun i=>match all[i]? with | some o=>o.after.toList.all fun e=>!Region.binds .any e || lst l e.on || (M.any (Nat.beq e.on) && Nat.blt e.on i) | none=>false
def XjE (all:Array Oper) (m:Nat) (M:List Nat):Bool:=
  ((List.range all.size).all fun j=>Jd m j || M.any (Nat.beq j) || (match opF all j with | some o=>M.all fun k=>UN o k | none=>true)) &&
  M.all fun i=>match opF all i with | some o=>o.after.toList.all fun e=>!Region.binds .any e || Jd m e.on || (M.any (Nat.beq e.on) && Nat.blt e.on i) | none=>false
def Xfb (l:Array Bool) (M:List Nat):Bool:=M.all fun i=>lst l i
def We (P:Program) (all:Array Oper) (M:List Nat):Nat→Array Bool→Bool
  | 0,l=>Xfb l M
  | n+1,l=>bif Xfb l M then true else (match YB P all l with
    | some (i,_)=>M.any (Nat.beq i) && We P all M n (l.setIfInBounds i true)
    | none=>(match Region.ready .any all l with
      | []=>false
      | q=>q.all fun i=>M.any (Nat.beq i) && We P all M n (l.setIfInBounds i true)))
def Xnl (m:Nat) (M:List Nat):Bool:=M.all fun i=>Jd m i
def Xfc (P:Program) (all:Array Oper) (M:List Nat):Nat→Nat→Bool
  | 0,m=>Xnl m M
  | n+1,m=>bif Xnl m M then true else (match XhL P all m with
    | some (i,_)=>M.any (Nat.beq i) && Xfc P all M n (Xb5 m i)
    | none=>(match Yq m all.toList 0 with
      | []=>false
      | q=>q.all fun i=>M.any (Nat.beq i) && Xfc P all M n (Xb5 m i)))
def XqU (m:Nat):List Nat→Nat
  | []=>m
  | i::M=>XqU (Xb5 m i) M
def setAll (l:Array Bool):List Nat→Array Bool
  | []=>l
  | i::M=>setAll (l.setIfInBounds i true) M
def Vi (r:Tr Value):List It→Tr Value
  | []=>r
  | x::L=>match x.o.dst with | some d=>Tr.set 12 (Vi r L) d none | none=>Vi r L
def XhO (r:Tr Value):List It→Tr Value
  | []=>r
  | x::L=>match x.o.dst with | some d=>Tr.set 12 (XhO r L) d (some x.v) | none=>XhO r L
def XvU (hh:Option Hp) (td:HT):HT:=match hh with | some h=>h.t | none=>td
def XvV (hh:Option Hp) (n1:Nat):Nat:=match hh with | some h=>h.n | none=>n1
def Xnm (o:Option Ob):Ob:=match o with | some o=>o | none=>.dead
def XqV (P:Program) (E:Xv) (nt:Nat) (all:Array Oper) (n:Nat) (m:Nat) (r:Tr Value) (H:Hp):Option ((Nat×Nat)×Ss×WB):=
  let R0:=Yq m all.toList 0
  let M:=(List.range all.size).filter fun i=>!Jd m i && R0.any fun k=>Nat.beq k i || !V0 all all.size i k
  let many:=Nat.ble 2 (M.filter fun i=>match opF all i with | some o=>XpY o | none=>false).length
  match XjD P all many M H.n with
  | none=>none
  | some (sk,n1)=>
    let td:=Xd0 (fun _=>.dead) (n1 - H.n) H.n H.t
    let rb:=Vi r sk
    match Xfa P E n1 rb td sk [] with
    | none=>none
    | some (L,hh)=>
      let th:=XvU hh td
      let nn:=XvV hh n1
      let p:Pl:=⟨H.n,n1,L,H.t,th⟩
      bif Nat.ble n1 4000 && Nat.ble H.n n1 && XhN H.t (n1 - H.n) H.n && L.all (XhM nt H.n n1) && XqT M && Nat.ble M.length n && (L.all fun x=>L.all fun y=>Nat.beq x.i y.i || Qu P x y) && (XjE all m M || Xfc P all M M.length m) then
        some ((n - M.length,XqU m M),(XhO rb L,⟨nn,Xd0 (fun id=>Xnm (TA p id)) (n1 - H.n) H.n th⟩),([],[H.t,th]))
      else none
def Xmj (P:Program) (E:Xv) (nt:Nat) (all:Array Oper) (held:List Nat):Nat→Nat→Tr Value→Hp→Option ((Nat×Nat)×Ss×WB)
  | 0,l,r,H=>some ((0,l),(r,H),([],[]))
  | n+1,l,r,H=>
    match XhL P all l with
    | none=>some ((n+1,l),(r,H),([],[]))
    | some (i,h)=>
      match opF all i with
      | none=>none
      | some o=>
        bif !h || held.contains i then
          (match Xmg P E nt all o r H with
          | none=>none
          | some (r',H')=>match Xmj P E nt all held n (Xb5 l i) r' H' with
            | none=>none
            | some (q,x,s)=>some (q,x,Vh P all held i h o r H H' s))
        else none
def XqW (P:Program) (E:Xv) (nt:Nat) (all:Array Oper) (held:List Nat):Nat→Nat→Nat→Tr Value→Hp→Option (Ss×WB)
  | 0,_,_,_,_=>none
  | k+1,n,l,r,H=>
    match Xmj P E nt all held n l r H with
    | none=>none
    | some ((n1,l1),(r1,H1),s1)=>
      match Yq l1 all.toList 0 with
      | []=>some ((r1,H1),s1)
      | _::_=>match XqV P E nt all n1 l1 r1 H1 with
        | none=>none
        | some ((n2,l2),(r2,H2),s2)=>match XqW P E nt all held k n2 l2 r2 H2 with
          | none=>none
          | some (x,s3)=>some (x,(s1.1++s2.1++s3.1,s1.2++s2.2++s3.2))
def Xnn (P:Program) (E:Xv) (nt:Nat) (ops:Array Oper) (r:Tr Value) (H:Hp):Option Ss:=
  match XqW P E nt ops (Xb6 P ops ops.size 0) 4 ops.size 0 r H with
  | some (x,s)=>bif XpX s H.t then some x else none
  | none=>none
end
end Go.Fw
end

section
namespace Go.Fw
open Go
theorem Je {lo hi i:Nat}:inR lo hi i=true↔lo≤i∧i<hi:=by
  unfold inR
  rw [Bool.and_eq_true]
  exact ⟨fun h=>⟨Nat.le_of_ble_eq_true h.1,Nat.le_of_ble_eq_true h.2⟩,fun h=>⟨Nat.ble_eq_true_of_le h.1,Nat.ble_eq_true_of_le h.2⟩⟩
theorem XY {k:Nat} {x:It}:isK k x=true↔x.kd=k:=beq_iff
theorem Yd (p:Pl) (l:Array Bool) (id:Nat):(TT p l).get id=TF p l id:=rfl
def XqX (P:Program) (E:Xv) (p:Pl) (rb:Tr Value) (td:HT) (dn:List It) (x:It):Prop:=
  (x.kd=1∧∃ n H',XaI P E x.o.op x.o.type (YI rb x.o dn) ⟨n,td⟩=some (x.v,H')∧H'.t=p.th) ∨
  (x.kd=2∧∃ t m k xx kt vt y,x.o.op=.insert t m k xx∧y∈dn∧y.kd=3∧UN x.o y.i=true∧evO (YI rb x.o dn) m=some (.map (some y.lo))∧evO (YI rb x.o dn) k=some x.key∧evO (YI rb x.o dn) xx=some x.u∧
    P.underlying t=some (.map kt vt)∧gr x.key=true∧ckB P false kt x.key=true∧x.v=undef∧(P.underlying kt).isSome=true) ∨
  (x.kd=3∧∃ n H',XaI P E x.o.op x.o.type (YI rb x.o dn) ⟨n,.hole x.lo x.hi⟩=some (x.v,H')∧H'.t.get x.lo=some (.map [] 0)) ∨
  (x.kd=0∧∃ n H',XaI P E x.o.op x.o.type (YI rb x.o dn) ⟨n,.hole x.lo x.hi⟩=some (x.v,H')∧H'.t=x.D)
structure PF (P:Program) (E:Xv) (nt:Nat) (all:Array Oper) (p:Pl) (rb:Tr Value) (td:HT):Prop where
  its:∀ x∈p.L,∃ dn,(∀ y∈dn,y∈p.L)∧XqX P E p rb td dn x
  one:∀ x∈p.L,XhM nt p.n0 p.n1 x=true
  get:∀ x∈p.L,all[x.i]?=some x.o
  pair:∀ x∈p.L,∀ y∈p.L,x.i≠y.i→Qu P x y=true
  inj:∀ x∈p.L,∀ y∈p.L,x.i=y.i→x=y
  rbd:∀ x∈p.L,∀ d,x.o.dst=some d→rb.get d=none
  fresh:∀ id,inR p.n0 p.n1 id=true→p.t0.get id=none
  tdg:∀ id,td.get id=if inR p.n0 p.n1 id=true then some .dead else p.t0.get id
  top:p.n1≤4000
  nd:(p.L.map (·.i)).Nodup
section
variable {P:Program} {E:Xv} {nt:Nat} {all:Array Oper} {p:Pl} {rb:Tr Value} {td:HT}
theorem PF.oneO (hp:PF P E nt all p rb td) {x:It} (hx:x∈p.L):x.o.guard=none∧Z8 x.o=false∧(∀ d,x.o.dst=some d→d<nt∧XS d=true)∧p.n0≤x.lo∧x.hi≤p.n1∧(x.kd=3→x.hi=x.lo+1)∧(x.kd=1∨x.kd=2→x.hi=x.lo):=by
  have h:=hp.one x hx
  unfold XhM at h
  simp only [Bool.and_eq_true] at h
  obtain ⟨⟨⟨⟨⟨⟨h1,h2⟩,h3⟩,h4⟩,h5⟩,h6⟩,h7⟩:=h
  refine ⟨by simpa using h1,by simpa using h2,fun d hd=>?_,Nat.le_of_ble_eq_true h4,Nat.le_of_ble_eq_true h5,fun h3'=>?_,fun h12=>?_⟩
  · rw [hd] at h3
    rw [Bool.and_eq_true] at h3
    exact ⟨Nat.le_of_ble_eq_true h3.1,h3.2⟩
  · rw [XY.2 h3'] at h6
    exact beq_iff.1 h6
  · have e0:isK 0 x=false:=by cases hk:isK 0 x with | false=>rfl | true=>have:=XY.1 hk; omega
    have e3:isK 3 x=false:=by cases hk:isK 3 x with | false=>rfl | true=>have:=XY.1 hk; omega
    rw [e0,e3] at h7
    exact beq_iff.1 h7
theorem PF.ranges (hp:PF P E nt all p rb td) {x y:It} (hx:x∈p.L) (hy:y∈p.L) {id:Nat} (h1:inR x.lo x.hi id=true) (h2:inR y.lo y.hi id=true):x=y:=by
  by_cases e:x.i=y.i
  · exact hp.inj x hx y hy e
  · have h:=hp.pair x hx y hy e
    unfold Qu at h
    simp only [Bool.and_eq_true,Bool.or_eq_true] at h
    rw [Je] at h1 h2
    rcases h.1.1.1.1 with h | h
    · have:=Nat.le_of_ble_eq_true h; omega
    · have:=Nat.le_of_ble_eq_true h; omega
theorem PF.find (hp:PF P E nt all p rb td) {x:It} (hx:x∈p.L) {id:Nat} (h:inR x.lo x.hi id=true):p.L.find? (fun x=>inR x.lo x.hi id)=some x:=by
  cases e:p.L.find? (fun x=>inR x.lo x.hi id) with
  | none=>
    have:=List.find?_eq_none.1 e x hx
    rw [h] at this; exact absurd rfl this
  | some y=>
    have h1:=List.mem_of_find?_eq_some e
    have h2:=List.find?_some e
    rw [hp.ranges hx h1 h h2]
theorem PF.inside (hp:PF P E nt all p rb td) {x:It} (hx:x∈p.L) {id:Nat} (h:inR x.lo x.hi id=true):inR p.n0 p.n1 id=true:=by
  obtain ⟨_,_,_,h1,h2,_⟩:=hp.oneO hx
  rw [Je] at h ⊢
  omega
theorem PF.oneHeavy (hp:PF P E nt all p rb td) {x y:It} (hx:x∈p.L) (hy:y∈p.L) (h1:x.kd=1) (h2:y.kd=1):x=y:=by
  by_cases e:x.i=y.i
  · exact hp.inj x hx y hy e
  · have h:=hp.pair x hx y hy e
    unfold Qu at h
    simp only [Bool.and_eq_true] at h
    have h3:=h.2
    rw [XY.2 h1,XY.2 h2] at h3
    cases h3
theorem PF.oneMap (hp:PF P E nt all p rb td) {x y:It} (hx:x∈p.L) (hy:y∈p.L) (h1:x.kd=3) (h2:y.kd=3):x=y:=by
  by_cases e:x.i=y.i
  · exact hp.inj x hx y hy e
  · have h:=hp.pair x hx y hy e
    unfold Qu at h
    simp only [Bool.and_eq_true] at h
    have h3:=h.1.2
    rw [XY.2 h1,XY.2 h2] at h3
    cases h3
theorem PF.ents_set (hp:PF P E nt all p rb td) {x:It} (hx:x∈p.L) (h:x.kd≠2) {l:Array Bool} (hi:x.i<l.size):XL p.L (l.setIfInBounds x.i true)=XL p.L l:=by
  unfold XL
  congr 1
  apply List.filter_congr
  intro z hz
  rw [Yp hi]
  by_cases e:z.i=x.i
  · have:=hp.inj z hz x hx e
    subst this
    have:isK 2 z=false:=by cases hk:isK 2 z with | false=>rfl | true=>exact absurd (XY.1 hk) h
    rw [this]; rfl
  · rw [if_neg e]
theorem PF.heavy_set (hp:PF P E nt all p rb td) {x:It} (hx:x∈p.L) (h:x.kd≠1) {l:Array Bool} (hi:x.i<l.size):p.L.any (fun z=>isK 1 z && lst (l.setIfInBounds x.i true) z.i)=p.L.any (fun z=>isK 1 z && lst l z.i):=by
  rw [Bool.eq_iff_iff,List.any_eq_true,List.any_eq_true]
  constructor
  · rintro ⟨z,hz,h1⟩
    rw [Bool.and_eq_true,Yp hi] at h1
    refine ⟨z,hz,?_⟩
    by_cases e:z.i=x.i
    · have:=hp.inj z hz x hx e
      subst this
      exact absurd (XY.1 h1.1) h
    · rw [if_neg e] at h1; rw [Bool.and_eq_true]; exact h1
  · rintro ⟨z,hz,h1⟩
    rw [Bool.and_eq_true] at h1
    refine ⟨z,hz,?_⟩
    rw [Bool.and_eq_true,Yp hi]
    refine ⟨h1.1,?_⟩
    split
    · rfl
    · exact h1.2
theorem PF.TF_other (hp:PF P E nt all p rb td) {x:It} (hx:x∈p.L) (h:x.kd≠2) {l:Array Bool} (hi:x.i<l.size) {id:Nat} (hr:inR p.n0 p.n1 id=true) (hn:inR x.lo x.hi id=false):TF p (l.setIfInBounds x.i true) id=TF p l id:=by
  unfold TF
  rw [hr,cond_true,cond_true]
  cases e:p.L.find? (fun x=>inR x.lo x.hi id) with
  | none=>rfl
  | some y=>
    dsimp only
    have hy:=List.mem_of_find?_eq_some e
    have h2:=List.find?_some e
    have hne:y.i≠x.i:=fun he=>by
      have:=hp.inj y hy x hx he
      subst this
      have h2:inR y.lo y.hi id=true:=h2
      rw [hn] at h2; cases h2
    rw [Yp hi,if_neg hne]
    unfold W9
    rw [hp.ents_set hx h hi]
theorem PF.TF_own (hp:PF P E nt all p rb td) {x:It} (hx:x∈p.L) {l:Array Bool} {id:Nat} (h:inR x.lo x.hi id=true):TF p l id=bif lst l x.i then W9 p.L l x id else none:=by
  unfold TF
  rw [hp.inside hx h,cond_true,hp.find hx h]
theorem PF.TF_out (hp:PF P E nt all p rb td) {x:It} (hx:x∈p.L) (h:x.kd≠1) {l:Array Bool} (hi:x.i<l.size) {id:Nat} (hr:inR p.n0 p.n1 id=false):TF p (l.setIfInBounds x.i true) id=TF p l id:=by
  unfold TF
  rw [hr,cond_false,cond_false,hp.heavy_set hx h hi]
theorem PF.TF_set0 (hp:PF P E nt all p rb td) {x:It} (hx:x∈p.L) (h:x.kd=0) {l:Array Bool} (hi:x.i<l.size) (id:Nat):TF p (l.setIfInBounds x.i true) id=if inR x.lo x.hi id=true then x.D.get id else TF p l id:=by
  have h2:x.kd≠2:=by omega
  cases e:inR x.lo x.hi id with
  | true=>
    rw [hp.TF_own hx e,Yp hi,if_pos rfl,cond_true,if_pos rfl]
    unfold W9
    have:isK 3 x=false:=by cases hk:isK 3 x with | false=>rfl | true=>have:=XY.1 hk; omega
    rw [this,cond_false]
  | false=>
    rw [if_neg (by simp)]
    cases hr:inR p.n0 p.n1 id with
    | true=>exact hp.TF_other hx h2 hi hr e
    | false=>exact hp.TF_out hx (by omega) hi hr
theorem PF.TF_set1 (hp:PF P E nt all p rb td) {x:It} (hx:x∈p.L) (h:x.kd=1) {l:Array Bool} (hi:x.i<l.size) (id:Nat):TF p (l.setIfInBounds x.i true) id=if inR p.n0 p.n1 id=true then TF p l id else p.th.get id:=by
  cases hr:inR p.n0 p.n1 id with
  | true=>
    rw [if_pos rfl]
    obtain ⟨_,_,_,_,_,_,h1⟩:=hp.oneO hx
    have h1:=h1 (.inl h)
    exact hp.TF_other hx (by omega) hi hr (by cases e:inR x.lo x.hi id with | false=>rfl | true=>have:=Je.1 e; omega)
  | false=>
    rw [if_neg (by simp)]
    unfold TF
    rw [hr,cond_false]
    have:p.L.any (fun z=>isK 1 z && lst (l.setIfInBounds x.i true) z.i)=true:=by
      rw [List.any_eq_true]
      exact ⟨x,hx,by rw [Bool.and_eq_true,Yp hi,if_pos rfl]; exact ⟨XY.2 h,rfl⟩⟩
    rw [this,cond_true]
theorem PF.TF_set3 (hp:PF P E nt all p rb td) {x:It} (hx:x∈p.L) (h:x.kd=3) {l:Array Bool} (hi:x.i<l.size) (he:XL p.L l=[]) (id:Nat):TF p (l.setIfInBounds x.i true) id=if id=x.lo then some (.map [] 0) else TF p l id:=by
  obtain ⟨_,_,_,_,_,h1,_⟩:=hp.oneO hx
  have h1:=h1 h
  by_cases e:id=x.lo
  · subst e
    have hr:inR x.lo x.hi x.lo=true:=Je.2 (by omega)
    rw [hp.TF_own hx hr,Yp hi,if_pos rfl,cond_true,if_pos rfl]
    unfold W9
    rw [XY.2 h,cond_true,beq_iff.2 rfl,cond_true,hp.ents_set hx (by omega) hi,he]
    rfl
  · rw [if_neg e]
    have hn:inR x.lo x.hi id=false:=by cases hb:inR x.lo x.hi id with | false=>rfl | true=>have:=Je.1 hb; omega
    cases hr:inR p.n0 p.n1 id with
    | true=>exact hp.TF_other hx (by omega) hi hr hn
    | false=>exact hp.TF_out hx (by omega) hi hr
theorem PF.TF_set2 (hp:PF P E nt all p rb td) {x y:It} (hx:x∈p.L) (h:x.kd=2) (hy:y∈p.L) (hy3:y.kd=3) {l:Array Bool} (hi:x.i<l.size) (hyl:lst l y.i=true) (id:Nat) :
    TF p (l.setIfInBounds x.i true) id=if id=y.lo then some (.map (XL p.L (l.setIfInBounds x.i true)) (XL p.L (l.setIfInBounds x.i true)).length) else TF p l id:=by
  obtain ⟨_,_,_,_,_,h1,_⟩:=hp.oneO hy
  have h1:=h1 hy3
  have hne:y.i≠x.i:=fun e=>by have:=hp.inj y hy x hx e; subst this; omega
  by_cases e:id=y.lo
  · subst e
    have hr:inR y.lo y.hi y.lo=true:=Je.2 (by omega)
    rw [hp.TF_own hy hr,Yp hi,if_neg hne,hyl,cond_true,if_pos rfl]
    unfold W9
    rw [XY.2 hy3,cond_true,beq_iff.2 rfl,cond_true]
  · rw [if_neg e]
    cases hr:inR p.n0 p.n1 id with
    | false=>exact hp.TF_out hx (by omega) hi hr
    | true=>
      unfold TF
      rw [hr,cond_true,cond_true]
      cases ef:p.L.find? (fun x=>inR x.lo x.hi id) with
      | none=>rfl
      | some z=>
        dsimp only
        have hz:=List.mem_of_find?_eq_some ef
        have hzr:inR z.lo z.hi id=true:=by have h9:=List.find?_some ef; exact h9
        by_cases ez:z.i=x.i
        · have:=hp.inj z hz x hx ez
          subst this
          obtain ⟨_,_,_,_,_,_,h2⟩:=hp.oneO hz
          have h2:=h2 (.inr h)
          have:=Je.1 hzr
          omega
        · rw [Yp hi,if_neg ez]
          unfold W9
          cases hk:isK 3 z with
          | false=>rfl
          | true=>
            have:=hp.oneMap hz hy (XY.1 hk) hy3
            subst this
            rw [Zk.2 e]; rfl
end
end Go.Fw
end

section
namespace Go.Fw
open Go
def ME (ρ:Rho):List (Value×Value×Option Nat)→List MapEntry→Prop
  | [],[]=>True
  | x::a,y::b=>(VR ρ x.1 y.key∧VR ρ x.2.1 y.val∧∀ b,x.2.2=some b→y.born=b)∧ME ρ a b
  | _,_=>False
theorem ME.iff {ρ:Rho}:∀ {a:List (Value×Value×Option Nat)} {b:List MapEntry},ME ρ a b↔b.length=a.length∧∀ (j:Nat) (x:Value×Value×Option Nat) (y:MapEntry),a[j]?=some x→b[j]?=some y→VR ρ x.1 y.key∧VR ρ x.2.1 y.val∧(∀ b,x.2.2=some b→y.born=b)
  | [],[]=>⟨fun _=>⟨rfl,fun j x y h _=>by simp at h⟩,fun _=>trivial⟩
  | [],_::_=>⟨fun h=>h.elim,fun h=>by cases h.1⟩
  | _::_,[]=>⟨fun h=>h.elim,fun h=>by cases h.1⟩
  | x::a,y::b=>by
    constructor
    · rintro ⟨h1,h2⟩
      obtain ⟨h3,h4⟩:=ME.iff.1 h2
      refine ⟨by simp [h3],fun j u v hu hv=>?_⟩
      cases j with
      | zero=>simp at hu hv; subst hu; subst hv; exact h1
      | succ j=>exact h4 j u v (by simpa using hu) (by simpa using hv)
    · rintro ⟨h1,h2⟩
      exact ⟨h2 0 x y rfl rfl,ME.iff.2 ⟨by simpa using h1,fun j u v hu hv=>h2 (j+1) u v (by simpa using hu) (by simpa using hv)⟩⟩
theorem ME.append {ρ:Rho}:∀ {a c:List (Value×Value×Option Nat)} {b:List MapEntry},ME ρ (a++c) b↔∃ b1 b2,b=b1++b2∧ME ρ a b1∧ME ρ c b2
  | [],c,b=>⟨fun h=>⟨[],b,rfl,trivial,h⟩,fun ⟨b1,b2,h1,h2,h3⟩=>by cases b1 with | nil=>rw [h1]; exact h3 | cons _ _=>exact h2.elim⟩
  | x::a,c,[]=>⟨fun h=>h.elim,fun ⟨b1,b2,h1,h2,h3⟩=>by cases b1 with | nil=>exact h2.elim | cons _ _=>cases h1⟩
  | x::a,c,y::b=>by
    constructor
    · rintro ⟨h1,h2⟩
      obtain ⟨b1,b2,rfl,h3,h4⟩:=ME.append.1 h2
      exact ⟨y::b1,b2,rfl,⟨h1,h3⟩,h4⟩
    · rintro ⟨b1,b2,h1,h2,h3⟩
      cases b1 with
      | nil=>exact h2.elim
      | cons z b1=>
        cases h1
        exact ⟨h2.1,ME.append.2 ⟨b1,b2,rfl,h2.2,h3⟩⟩
theorem XvW {ρ:Rho} {m:Img} {A B:List (Value×Value×Option Nat)} {k v:Value} {b:Option Nat} {c:Nat} {O:Obj} (h:OR ρ m (.map ((A++B)++[(k,v,b)]) c) O):OR ρ m (.map (A++(k,v,none)::B) c) O:=by
  obtain ⟨es,l,h1,h2,h3,h4,h5,h6⟩:=h
  have hm:ME ρ ((A++B)++[(k,v,b)]) l:=ME.iff.2 ⟨h3,h6⟩
  obtain ⟨l1,l2,rfl,hAB,hx⟩:=ME.append.1 hm
  obtain ⟨lA,lB,rfl,hA,hB⟩:=ME.append.1 hAB
  cases l2 with
  | nil=>exact hx.elim
  | cons y l2=>
    cases l2 with
    | cons _ _=>exact hx.2.elim
    | nil=>
      have hp:((lA++lB)++[y]).Perm (lA++y::lB):=by
        rw [List.append_assoc]
        exact List.Perm.append_left lA (List.perm_append_comm (l₁:=lB) (l₂:=[y]))
      have hm2:ME ρ (A++(k,v,none)::B) (lA++y::lB):=ME.append.2 ⟨lA,y::lB,rfl,hA,⟨hx.1.1,hx.1.2.1,fun b hb=>by cases hb⟩,hB⟩
      obtain ⟨h7,h8⟩:=ME.iff.1 hm2
      refine ⟨es,lA++y::lB,h1,h2.trans hp,h7,((hp.map _).nodup_iff).1 h4,fun z hz=>h5 z (hp.mem_iff.2 hz),h8⟩
theorem XkJ {ρ:Rho} {rb:Tr Value} {o:Oper} {s:St} (hb:∀ t c,rb.get t=some c→VR ρ c (s.r t)):∀ {dn:List It},(∀ y∈dn,UN o y.i=true→∀ d,y.o.dst=some d→XS d=true∧VR ρ y.v (s.r d))→RR ρ (YI rb o dn) s.r
  | [],_=>fun t c hc=>hb t c hc
  | y::l,h=>by
    have ih:=XkJ hb (dn:=l) fun z hz=>h z (by simp [hz])
    unfold YI
    cases hd:UN o y.i with
    | false=>exact ih
    | true=>
      rw [cond_true]
      cases e:y.o.dst with
      | none=>exact ih
      | some d=>
        obtain ⟨h1,h2⟩:=h y (by simp) hd d e
        intro t c hc
        dsimp only at hc
        rw [Jn h1] at hc
        by_cases et:t=d
        · rw [if_pos et] at hc; cases hc; subst et; exact h2
        · rw [if_neg et] at hc; exact ih t c hc
structure PV (p:Pl) (rb:Tr Value) (ρb:Rho) (wb:World) (ds0:List Deferred) (l:Array Bool) (s:St) (w:World) (ρ:Rho):Prop where
  ext:Ext ρb p.t0 wb ρ (TT p l) w
  rel:Rel ρ (TT p l) w
  ds:s.ds=ds0
  base:∀ t c,rb.get t=some c→VR ρ c (s.r t)
  done:∀ x∈p.L,lst l x.i=true→∀ d,x.o.dst=some d→VR ρ x.v (s.r d)
section
variable {P:Program} {E:Xv} {nt:Nat} {all:Array Oper} {p:Pl} {rb:Tr Value} {td:HT}
theorem PF.put_ok (hp:PF P E nt all p rb td) {ρb:Rho} {wb:World} {ds0:List Deferred} {l:Array Bool} {s:St} {w w':World} {ρ ρ':Rho} {x:It} {v:Value} (hx:x∈p.L) (hi:x.i<l.size) (hV:PV p rb ρb wb ds0 l s w ρ)
    (hx':Ext ρ (TT p l) w ρ' (TT p (l.setIfInBounds x.i true)) w') (hR:Rel ρ' (TT p (l.setIfInBounds x.i true)) w') (hv:VR ρ' x.v v) {K:St→Prop} (hk:∀ s',PV p rb ρb wb ds0 (l.setIfInBounds x.i true) s' w' ρ'→K s'):put nt x.o.dst v s K:=by
  cases e:x.o.dst with
  | none=>
    refine hk s ⟨hV.ext.trans hx',hR,hV.ds,fun t c hc=>(hV.base t c hc).mono hx'.le,fun z hz hl d hd=>?_⟩
    rw [Yp hi] at hl
    by_cases ez:z.i=x.i
    · have:=hp.inj z hz x hx ez
      subst this
      rw [e] at hd; cases hd
    · rw [if_neg ez] at hl
      exact (hV.done z hz hl d hd).mono hx'.le
  | some d=>
    obtain ⟨_,_,hd,_⟩:=hp.oneO hx
    obtain ⟨hd1,hd2⟩:=hd d e
    show bif Nat.blt d nt then K (s.up d v) else False
    rw [show Nat.blt d nt=true from Nat.ble_eq_true_of_le hd1,cond_true]
    refine hk _ ⟨hV.ext.trans hx',hR,hV.ds,fun t c hc=>?_,fun z hz hl d' hd'=>?_⟩
    · rw [St.up_r]
      have:t≠d:=fun h=>by rw [h,hp.rbd x hx d e] at hc; cases hc
      rw [if_neg this]
      exact (hV.base t c hc).mono hx'.le
    · rw [St.up_r]
      rw [Yp hi] at hl
      by_cases ez:z.i=x.i
      · have:=hp.inj z hz x hx ez
        subst this
        rw [e] at hd'; cases hd'
        rw [if_pos rfl]; exact hv
      · rw [if_neg ez] at hl
        have h3:=hp.pair z hz x hx ez
        unfold Qu at h3
        simp only [Bool.and_eq_true] at h3
        have h4:=h3.1.1.1.2
        rw [hd',e] at h4
        have h4:(!Nat.beq d' d)=true:=h4
        rw [Bool.not_eq_true'] at h4
        rw [if_neg (Zk.1 h4)]
        exact (hV.done z hz hl d' hd').mono hx'.le
theorem PF.ents_nil (hp:PF P E nt all p rb td) {l:Array Bool} {x:It} (hx:x∈p.L) (h3:x.kd=3) (hu:lst l x.i=false) (hcl:Closed all l):XL p.L l=[]:=by
  unfold XL
  rw [List.map_eq_nil_iff,List.filter_eq_nil_iff]
  intro z hz hb
  rw [Bool.and_eq_true] at hb
  obtain ⟨dn,hdn,hit⟩:=hp.its z hz
  have hk:=XY.1 hb.1
  rcases hit with ⟨h,_⟩ | ⟨_,t,m,k,xx,kt,vt,y,_,hy,hy3,hdep,_⟩ | ⟨h,_⟩ | ⟨h,_⟩
  · omega
  · have:=hp.oneMap (hdn y hy) hx hy3 h3
    subst this
    unfold UN at hdep
    rw [List.any_eq_true] at hdep
    obtain ⟨e,he,hee⟩:=hdep
    rw [Bool.and_eq_true] at hee
    have hj:l.getD z.i true=true:=by
      have h5:=hb.2
      unfold lst at h5
      have hlt:z.i<l.size:=by
        rcases Nat.lt_or_ge z.i l.size with h' | h'
        · exact h'
        · simp [Array.getD_eq_getD_getElem?,Array.getElem?_eq_none h'] at h5
      simp [Array.getD_eq_getD_getElem?,hlt] at h5 ⊢
      exact h5
    have:=hcl z.i z.o (hp.get z hz) hj e (by simpa using he) hee.1
    rw [beq_iff.1 hee.2] at this
    unfold lst at hu
    rw [hu] at this; cases this
  · omega
  · omega
theorem PF.findC_ents (hp:PF P E nt all p rb td) {x:It} (hx:x∈p.L) (h2:x.kd=2) {l:Array Bool} (hu:lst l x.i=false) {t:TypeId} {m k xx:Operand} {kt vt:TypeId} (hop:x.o.op=.insert t m k xx) (ht:P.underlying t=some (.map kt vt)):∃ ty,(XL p.L l≠[]→P.underlying kt=some ty)∧JU ty x.key (XL p.L l)=some none:=by
  have key:∀ z∈p.L,isK 2 z=true→lst l z.i=true→∃ ty,P.underlying kt=some ty∧Instr.sameNow ty x.key z.key=some false:=by
    intro z hz hk hl
    have hne:x.i≠z.i:=fun e=>by rw [e,hl] at hu; cases hu
    have h3:=hp.pair x hx z hz hne
    unfold Qu at h3
    simp only [Bool.and_eq_true] at h3
    have h4:=h3.1.1.2
    rw [XY.2 h2,hk] at h4
    have h4:XgG P x z=true:=h4
    unfold XgG at h4
    rw [hop] at h4
    dsimp only at h4
    rw [ht] at h4
    dsimp only at h4
    split at h4
    · rename_i ty hty
      split at h4
      · rename_i hs; exact ⟨ty,hty,hs⟩
      · cases h4
    · cases h4
  cases hkt:P.underlying kt with
  | none=>
    have hnil:XL p.L l=[]:=by
      unfold XL
      rw [List.map_eq_nil_iff,List.filter_eq_nil_iff]
      intro z hz hb
      rw [Bool.and_eq_true] at hb
      obtain ⟨ty,h,_⟩:=key z hz hb.1 hb.2
      rw [hkt] at h; cases h
    exact ⟨.bool,fun h=>absurd hnil h,by rw [hnil]; rfl⟩
  | some ty=>
    refine ⟨ty,fun _=>rfl,?_⟩
    have gen:∀ q:List It,(∀ z∈q,Instr.sameNow ty x.key z.key=some false)→JU ty x.key (q.map fun x=>(x.key,x.u,none))=some none:=by
      intro q
      induction q with
      | nil=>intro _; rfl
      | cons z q ih=>
        intro h
        rw [List.map_cons]
        unfold JU
        rw [h z (by simp)]
        exact ih fun y hy=>h y (by simp [hy])
    unfold XL
    refine gen _ fun z hz=>?_
    rw [List.mem_filter,Bool.and_eq_true] at hz
    obtain ⟨ty',h1,h3⟩:=key z hz.1 hz.2.1 hz.2.2
    rw [hkt] at h1; cases h1
    exact h3
theorem PF.ents_mid (hp:PF P E nt all p rb td) {x:It} (hx:x∈p.L) (h2:x.kd=2) {l:Array Bool} (hi:x.i<l.size) (hu:lst l x.i=false):∃ A B,XL p.L l=A++B∧XL p.L (l.setIfInBounds x.i true)=A++(x.key,x.u,none)::B:=by
  obtain ⟨a,b,e⟩:=List.append_of_mem hx
  have hnd:=hp.nd
  rw [e,List.map_append,List.map_cons,List.nodup_append] at hnd
  obtain ⟨_,hnb,hab⟩:=hnd
  rw [List.nodup_cons] at hnb
  have hna:∀ z∈a,z.i≠x.i:=fun z hz=>hab z.i (List.mem_map_of_mem hz) x.i (by simp)
  have hnb2:∀ z∈b,z.i≠x.i:=fun z hz h=>hnb.1 (by rw [← h]; exact List.mem_map_of_mem hz)
  have same:∀ q:List It,(∀ z∈q,z.i≠x.i)→q.filter (fun z=>isK 2 z && lst (l.setIfInBounds x.i true) z.i)=q.filter (fun z=>isK 2 z && lst l z.i):=fun q hq=>by
    apply List.filter_congr
    intro z hz
    rw [Yp hi,if_neg (hq z hz)]
  refine ⟨(a.filter fun z=>isK 2 z && lst l z.i).map (fun x=>(x.key,x.u,none)),(b.filter fun z=>isK 2 z && lst l z.i).map (fun x=>(x.key,x.u,none)),?_,?_⟩
  · unfold XL
    rw [e,List.filter_append,List.filter_cons,hu]
    simp
  · unfold XL
    rw [e,List.filter_append,List.filter_cons,Yp hi,if_pos rfl,XY.2 h2,same a hna,same b hnb2]
    simp
theorem PF.step (hp:PF P E nt all p rb td) (hE:Yi P E) {ρb:Rho} {wb:World} {ds0:List Deferred} {l:Array Bool} {s:St} {w:World} {ρ:Rho} {x:It} (hx:x∈p.L) (hi:x.i<l.size) (hu:lst l x.i=false) (hcl:Closed all l) (hdep:∀ y∈p.L,UN x.o y.i=true→lst l y.i=true)
    (hV:PV p rb ρb wb ds0 l s w ρ) {Q:VWP} (hQ:∀ ρ' w' v,Ext ρ (TT p l) w ρ' (TT p (l.setIfInBounds x.i true)) w'→Rel ρ' (TT p (l.setIfInBounds x.i true)) w'→VR ρ' x.v v→Q v w'):X5 P x.o s w Q:=by
  obtain ⟨dn,hdn,hit⟩:=hp.its x hx
  have hr:RR ρ (YI rb x.o dn) s.r:=XkJ hV.base fun y hy hd d e=>⟨((hp.oneO (hdn y hy)).2.2.1 d e).2,hV.done y (hdn y hy) (hdep y (hdn y hy) hd) d e⟩
  have own:∀ {id:Nat},inR x.lo x.hi id=true→TF p l id=none:=fun h=>by rw [hp.TF_own hx h,hu]; rfl
  have hole:Rel ρ (HT.hole x.lo x.hi) w:=hV.rel.sub (fun i o ho hd=>(Lv.hole ⟨o,ho,hd⟩).elim) fun i h=>by
    rw [HT.hole_get]
    split
    · rename_i hr; rw [Yd,own hr] at h; cases h
    · rfl
  have holeA:∀ i,¬ inR x.lo x.hi i=true→¬ Lv (HT.hole x.lo x.hi) i∧(HT.hole x.lo x.hi).get i≠none:=fun i h=>⟨Lv.hole,by rw [HT.hole_get,if_neg h]; simp⟩
  have hole1:∀ i o,(HT.hole x.lo x.hi).get i=some o→o.isDead=false→(TT p l).get i=some o:=fun i o ho hd=>(Lv.hole ⟨o,ho,hd⟩).elim
  have hole2:∀ i,((TT p l).get i).isSome=true→((HT.hole x.lo x.hi).get i).isSome=true:=fun i h=>by
    rw [HT.hole_get]
    split
    · rename_i hr; rw [Yd,own hr] at h; cases h
    · rfl
  rcases hit with ⟨h1,n,H',hev,hth⟩ | ⟨h2,t,m,k,xx,kt,vt,y,hop,hy,hy3,hdy,hm,hk,hxx,ht,hgk,hck,hv,hks⟩ | ⟨h3,n,H',hev,hg⟩ | ⟨h0,n,H',hev,hD⟩
  ·
    have hno:p.L.any (fun z=>isK 1 z && lst l z.i)=false:=by
      rw [List.any_eq_false]
      intro z hz hb
      rw [Bool.and_eq_true] at hb
      have:=hp.oneHeavy hz hx (XY.1 hb.1) h1
      subst this
      rw [hu] at hb; cases hb.2
    have out:∀ {i:Nat},inR p.n0 p.n1 i=false→TF p l i=p.t0.get i:=fun h=>by unfold TF; rw [h,cond_false,hno,cond_false]
    have hf1:∀ i o,td.get i=some o→o.isDead=false→(TT p l).get i=some o:=fun i o ho hd=>by
      rw [hp.tdg] at ho
      cases hr:inR p.n0 p.n1 i with
      | true=>rw [hr,if_pos rfl] at ho; cases ho; cases hd
      | false=>rw [hr,if_neg (by simp)] at ho; rw [Yd,out hr]; exact ho
    have hf2:∀ i,((TT p l).get i).isSome=true→(td.get i).isSome=true:=fun i h=>by
      rw [hp.tdg]
      cases hr:inR p.n0 p.n1 i with
      | true=>rfl
      | false=>rw [if_neg (by simp),← out hr]; exact h
    refine Xbk hE hr (hV.rel.sub hf1 hf2) hev fun ρ' w' v hx' hR' hv'=>?_
    rw [hth] at hx' hR'
    obtain ⟨hR2,hx2⟩:=frame (T':=TT p (l.setIfInBounds x.i true)) hV.rel hf1 hf2 hx' hR' (fun i=>inR p.n0 p.n1 i=false) (fun i h=>by
      have hr:inR p.n0 p.n1 i=true:=by cases e:inR p.n0 p.n1 i with | true=>rfl | false=>exact absurd e h
      have:td.get i=some .dead:=by rw [hp.tdg,hr,if_pos rfl]
      exact ⟨fun ⟨o,ho,hd⟩=>(by rw [this] at ho; cases ho; cases hd),by rw [this]; simp⟩) (fun i h=>by rw [Yd,hp.TF_set1 hx h1 hi,h,if_neg (by simp)])
      (fun i h=>by
        have hr:inR p.n0 p.n1 i=true:=by cases e:inR p.n0 p.n1 i with | true=>rfl | false=>exact absurd e h
        rw [Yd,Yd,hp.TF_set1 hx h1 hi,hr,if_pos rfl])
    exact hQ ρ' w' v hx2 hR2 hv'
  ·
    have hyL:=hdn y hy
    have hyl:=hdep y hyL hdy
    obtain ⟨_,_,_,hy0,hy1,hyh,_⟩:=hp.oneO hyL
    have hyh:=hyh hy3
    have hyr:inR y.lo y.hi y.lo=true:=Je.2 (by omega)
    have hyid:XS y.lo=true:=Nat.ble_eq_true_of_le (by have:=hp.top; omega)
    have hmap:TF p l y.lo=some (.map (XL p.L l) (XL p.L l).length):=by
      rw [hp.TF_own hyL hyr,hyl,cond_true]
      unfold W9
      rw [XY.2 hy3,cond_true,beq_iff.2 rfl,cond_true]
    obtain ⟨ty,hkt,hfc⟩:=hp.findC_ents hx h2 hu hop ht
    obtain ⟨A,B,hA,hA'⟩:=hp.ents_mid hx h2 hi hu
    let F:HT:=⟨fun id=>if id=y.lo then some (.map (XL p.L l) (XL p.L l).length) else some .dead,.nil⟩
    have hF:∀ id,F.get id=if id=y.lo then some (.map (XL p.L l) (XL p.L l).length) else some .dead:=fun _=>rfl
    have hf1:∀ i o,F.get i=some o→o.isDead=false→(TT p l).get i=some o:=fun i o ho hd=>by
      rw [hF] at ho
      by_cases e:i=y.lo
      · rw [if_pos e] at ho; rw [Yd,e,hmap]; exact ho
      · rw [if_neg e] at ho; cases ho; cases hd
    have hf2:∀ i,((TT p l).get i).isSome=true→(F.get i).isSome=true:=fun i _=>by rw [hF]; split <;> rfl
    have hRF:=hV.rel.sub hf1 hf2
    have hgF:F.get y.lo=some (.map (XL p.L l) (XL p.L l).length):=by rw [hF,if_pos rfl]
    have hput:∃ n,Xe6 P ⟨0,F⟩ t (.map (some y.lo)) x.key x.u=some ⟨n,Hp.put F y.lo (.map (XL p.L l++[(x.key,x.u,some (XL p.L l).length)]) ((XL p.L l).length+1))⟩:=by
      cases hkt':P.underlying kt with
      | none=>rw [hkt'] at hks; cases hks
      | some ty'=>
        refine ⟨0,?_⟩
        have hfc':JU ty' x.key (XL p.L l)=some none:=by
          by_cases hn:XL p.L l=[]
          · rw [hn]; rfl
          · have:=hkt hn; rw [hkt'] at this; cases this; exact hfc
        unfold Xe6
        simp only [Xu,Xw,Xn,Xq]
        rw [ht]
        dsimp only
        rw [hgF,hkt']
        dsimp only
        rw [hgk,hyid,hck,hfc']
        rfl
    obtain ⟨n,hput⟩:=hput
    have hvm:=Xo hr hm
    have hvk:=Xo hr hk
    have hvx:=Xo hr hxx
    obtain ⟨w',hw1,hw2,hw3⟩:=XgB (P:=P) hput hRF hvm hvk hvx
    dsimp only at hw2 hw3
    have hg2:(Hp.put F y.lo (.map (XL p.L l++[(x.key,x.u,some (XL p.L l).length)]) ((XL p.L l).length+1))).get y.lo=some (.map (XL p.L l++[(x.key,x.u,some (XL p.L l).length)]) ((XL p.L l).length+1)):=by rw [Hp.get_put hyid,if_pos rfl]
    obtain ⟨mm,O,hmm,hO,hor⟩:=hw3.live y.lo _ hg2 rfl
    rw [hA] at hor
    have hor2:=XvW hor
    have hlen:(A++B).length+1=(XL p.L (l.setIfInBounds x.i true)).length:=by rw [hA']; simp; omega
    rw [hlen,← hA'] at hor2
    obtain ⟨hR3,hx3⟩:=hw3.turn hg2 rfl hmm hyid (Fr.refl _ w') hO hor2
    obtain ⟨hR4,hx4⟩:=frame (T':=TT p (l.setIfInBounds x.i true)) hV.rel hf1 hf2 (hw2.trans hx3) hR3 (fun i=>i=y.lo) (fun i h=>by
      have:F.get i=some .dead:=by rw [hF,if_neg h]
      exact ⟨fun ⟨o,ho,hd⟩=>(by rw [this] at ho; cases ho; cases hd),by rw [this]; simp⟩)
      (fun i h=>by subst h; rw [Yd,hp.TF_set2 hx h2 hyL hy3 hi hyl,if_pos rfl,Hp.get_put hyid,if_pos rfl])
      (fun i h=>by rw [Yd,Yd,hp.TF_set2 hx h2 hyL hy3 hi hyl,if_neg h])
    have hQ':=hQ ρ w' undef hx4 hR4 (by rw [hv]; exact VRs.tuple (.nil ρ))
    show X5 P x.o s w Q
    unfold X5
    rw [hop]
    exact ⟨w',hw1,hQ'⟩
  ·
    obtain ⟨_,_,_,_,_,hh,_⟩:=hp.oneO hx
    have hh:=hh h3
    have he:=hp.ents_nil hx h3 hu hcl
    refine Xbk hE hr hole hev fun ρ' w' v hx' hR' hv'=>?_
    obtain ⟨hR2,hx2⟩:=frame (T':=TT p (l.setIfInBounds x.i true)) hV.rel hole1 hole2 hx' hR' (fun i=>inR x.lo x.hi i=true) holeA
      (fun i h=>by
        have:i=x.lo:=by have:=Je.1 h; omega
        subst this
        rw [Yd,hp.TF_set3 hx h3 hi he,if_pos rfl,hg])
      (fun i h=>by
        have:i≠x.lo:=fun e=>h (by rw [e]; exact Je.2 (by omega))
        rw [Yd,Yd,hp.TF_set3 hx h3 hi he,if_neg this])
    exact hQ ρ' w' v hx2 hR2 hv'
  ·
    refine Xbk hE hr hole hev fun ρ' w' v hx' hR' hv'=>?_
    rw [hD] at hx' hR'
    obtain ⟨hR2,hx2⟩:=frame (T':=TT p (l.setIfInBounds x.i true)) hV.rel hole1 hole2 hx' hR' (fun i=>inR x.lo x.hi i=true) holeA
      (fun i h=>by rw [Yd,hp.TF_set0 hx h0 hi,if_pos h])
      (fun i h=>by rw [Yd,Yd,hp.TF_set0 hx h0 hi,if_neg h])
    exact hQ ρ' w' v hx2 hR2 hv'
end
end Go.Fw
end

section
namespace Go.Fw
open Go
theorem Rel.deaden {ρ:Rho} {T T':HT} {w:World} (h:Rel ρ T w) (h1:∀ i o,T.get i=some o→T'.get i=some o) (h2:∀ i,T.get i=none→T'.get i=none∨T'.get i=some .dead):Rel ρ T' w:=by
  have back:∀ i o,T'.get i=some o→o.isDead=false→T.get i=some o:=fun i o ho hd=>by
    cases e:T.get i with
    | some o'=>have:=h1 i o' e; rw [ho] at this; cases this; rfl
    | none=>rcases h2 i e with h3 | h3 <;> (rw [ho] at h3; cases h3); cases hd
  refine ⟨fun i m hm=>?_,fun i o ho hd=>h.live i o (back i o ho hd) hd,fun i j m m' ⟨o,ho,hd⟩ ⟨o',ho',hd'⟩=>h.inj i j m m' ⟨o,back i o ho hd,hd⟩ ⟨o',back j o' ho' hd',hd'⟩⟩
  have:=h.dom i m hm
  cases e:T.get i with
  | some o'=>rw [h1 i o' e]; rfl
  | none=>rw [e] at this; cases this
theorem Ext.deaden {ρ ρ':Rho} {t T T':HT} {w w':World} (h:Ext ρ t w ρ' T w') (h1:∀ i o,T.get i=some o→T'.get i=some o) (h2:∀ i,T.get i=none→T'.get i=none∨T'.get i=some .dead):Ext ρ t w ρ' T' w':=by
  refine ⟨h.le,fun b ⟨i,m,⟨o,ho,hd⟩,hm,hb⟩=>?_,h.keep,h.size,h.os,h.tape,h.output,h.fresh,fun i hi=>?_⟩
  · cases e:T.get i with
    | some o'=>have:=h1 i o' e; rw [ho] at this; cases this; exact h.new b ⟨i,m,⟨_,e,hd⟩,hm,hb⟩
    | none=>rcases h2 i e with h3 | h3 <;> (rw [ho] at h3; cases h3); cases hd
  · have:=h.grow i hi
    cases e:T.get i with
    | some o'=>rw [h1 i o' e]; rfl
    | none=>rw [e] at this; cases this
theorem XgH:∀ (f:Nat→Ob) (n k:Nat) (t:HT),k+n≤4000→∀ id,(Xd0 f n k t).get id=if k≤id∧id<k+n then some (f id) else t.get id
  | f,0,k,t,_,id=>by rw [if_neg (by omega)]; rfl
  | f,n+1,k,t,h,id=>by
    have hk:XS k=true:=Nat.ble_eq_true_of_le (by omega)
    unfold Xd0
    rw [XgH f n (k+1) _ (by omega),Hp.get_put hk]
    by_cases e:id=k
    · subst e
      rw [if_neg (by omega),if_pos rfl,if_pos (by omega)]
    · by_cases h2:k≤id∧id<k+(n+1)
      · rw [if_pos (by omega),if_pos h2]
      · rw [if_neg (by omega),if_neg e,if_neg h2]
theorem XhP:∀ {t:HT} {n k:Nat},XhN t n k=true→∀ id,k≤id→id<k+n→t.get id=none
  | t,0,k,_,id,h1,h2=>by omega
  | t,n+1,k,h,id,h1,h2=>by
    unfold XhN at h
    rw [Bool.and_eq_true] at h
    by_cases e:id=k
    · subst e; simpa using h.1
    · exact XhP h.2 id (by omega) (by omega)
theorem XhQ {r:Tr Value}:∀ {L:List It},(∀ x∈L,∀ d,x.o.dst=some d→XS d=true)→(∀ x∈L,∀ d,x.o.dst=some d→(Vi r L).get d=none)∧∀ t c,(Vi r L).get t=some c→r.get t=some c
  | [],_=>⟨fun x hx=>(by cases hx),fun t c h=>h⟩
  | x::L,h=>by
    obtain ⟨h1,h2⟩:=XhQ (r:=r) (L:=L) fun z hz=>h z (by simp [hz])
    unfold Vi
    cases e:x.o.dst with
    | none=>
      refine ⟨fun z hz d hd=>?_,h2⟩
      rcases List.mem_cons.1 hz with rfl | hz
      · rw [e] at hd; cases hd
      · exact h1 z hz d hd
    | some d0=>
      have hk:=h x (by simp) d0 e
      refine ⟨fun z hz d hd=>?_,fun t c ht=>?_⟩
      · dsimp only
        rw [Jn hk]
        by_cases ed:d=d0
        · rw [if_pos ed]
        · rw [if_neg ed]
          rcases List.mem_cons.1 hz with rfl | hz
          · rw [e] at hd; cases hd; exact absurd rfl ed
          · exact h1 z hz d hd
      · dsimp only at ht
        rw [Jn hk] at ht
        by_cases ed:t=d0
        · rw [if_pos ed] at ht; cases ht
        · rw [if_neg ed] at ht; exact h2 t c ht
theorem Xd1 {rb:Tr Value}:∀ {L:List It},(∀ x∈L,∀ d,x.o.dst=some d→XS d=true)→∀ t c,(XhO rb L).get t=some c→(∃ x∈L,x.o.dst=some t∧x.v=c)∨rb.get t=some c
  | [],_,t,c,h=>.inr h
  | x::L,h,t,c,ht=>by
    have ih:=Xd1 (rb:=rb) (L:=L) (fun z hz=>h z (by simp [hz])) t c
    unfold XhO at ht
    cases e:x.o.dst with
    | none=>
      rw [e] at ht
      rcases ih ht with ⟨z,hz,h1⟩ | h1
      · exact .inl ⟨z,by simp [hz],h1⟩
      · exact .inr h1
    | some d=>
      rw [e] at ht
      dsimp only at ht
      rw [Jn (h x (by simp) d e)] at ht
      by_cases ed:t=d
      · rw [if_pos ed] at ht; cases ht; subst ed; exact .inl ⟨x,by simp,e,rfl⟩
      · rw [if_neg ed] at ht
        rcases ih ht with ⟨z,hz,h1⟩ | h1
        · exact .inl ⟨z,by simp [hz],h1⟩
        · exact .inr h1
theorem Xno {P:Program} {all:Array Oper} {many:Bool}:∀ {M:List Nat} {n n1:Nat} {sk:List It},XjD P all many M n=some (sk,n1)→sk.map (·.i)=M∧∀ x∈sk,all[x.i]?=some x.o
  | [],n,n1,sk,h=>by cases h; exact ⟨rfl,fun x hx=>by cases hx⟩
  | i::M,n,n1,sk,h=>by
    unfold XjD at h
    rw [Xbl] at h
    split at h
    · cases h
    · rename_i o ho
      split at h
      · cases h
      · rename_i r n' hr
        cases h
        obtain ⟨h1,h2⟩:=Xno hr
        refine ⟨by rw [List.map_cons,h1],fun x hx=>?_⟩
        rcases List.mem_cons.1 hx with rfl | hx
        · exact ho
        · exact h2 x hx
theorem XuW {P:Program} {E:Xv} {n1:Nat} {rb:Tr Value} {td:HT} {dn:List It} {x y:It} {h:Option Hp} (he:Xnk P E n1 rb td dn x=some (y,h)) (hu:x.v=undef) {p:Pl} (hth:∀ H,h=some H→p.th=H.t):y.i=x.i∧y.o=x.o∧XqX P E p rb td dn y:=by
  unfold Xnk at he
  split at he
  · rename_i i o lo hi v0 key u D
    split at he
    · rename_i v H' hv
      cases he
      exact ⟨rfl,rfl,.inl ⟨rfl,n1,H',hv,(hth H' rfl).symm⟩⟩
    · cases he
  · rename_i i o lo hi v key0 u0 D
    split at he
    · rename_i t m k xx hop
      split at he
      · rename_i mp kv uv kt vt h1 h2 h3 h4
        obtain ⟨hc,he⟩:=Xf he
        cases he
        rw [Bool.and_eq_true,Bool.and_eq_true,Bool.and_eq_true,List.any_eq_true] at hc
        obtain ⟨⟨⟨hg,hck⟩,hks⟩,z,hz,hzz⟩:=hc
        rw [Bool.and_eq_true,Bool.and_eq_true] at hzz
        have hl:=beq_iff.1 hzz.1.2
        exact ⟨rfl,rfl,.inr (.inl ⟨rfl,t,m,k,xx,kt,vt,z,hop,hz,XY.1 hzz.1.1,hzz.2,by rw [hl]; exact h1,h2,h3,h4,hg,hck,hu,hks⟩)⟩
      · cases he
    · cases he
  · rename_i i o lo hi v0 key u D
    split at he
    · rename_i mp H' hv
      obtain ⟨hmp,he⟩:=Xf he
      obtain rfl:=beq_iff.1 hmp
      split at he
      · rename_i hg
        cases he
        exact ⟨rfl,rfl,.inr (.inr (.inl ⟨rfl,mp,H',hv,hg⟩))⟩
      · cases he
    · cases he
  · rename_i i o lo hi v0 key u D
    split at he
    · rename_i v H' hv
      cases he
      exact ⟨rfl,rfl,.inr (.inr (.inr ⟨rfl,lo,H',hv,rfl⟩))⟩
    · cases he
  · cases he
theorem Xnp {P:Program} {E:Xv} {n1:Nat} {rb:Tr Value} {td:HT} {p:Pl}:∀ {sk dn L:List It} {hh:Option Hp},Xfa P E n1 rb td sk dn=some (L,hh)→(∀ x∈sk,x.v=undef)→(∀ H,hh=some H→p.th=H.t)→(∀ y∈dn,y∈p.L)→(∀ y∈L,y∈p.L)→
    L.map (fun x=>(x.i,x.o))=sk.map (fun x=>(x.i,x.o))∧∀ x∈L,∃ dn',(∀ y∈dn',y∈p.L)∧XqX P E p rb td dn' x
  | [],dn,L,hh,h,_,_,_,_=>by cases h; exact ⟨rfl,fun x hx=>by cases hx⟩
  | x::sk,dn,L,hh,h,hu,hth,hdn,hL=>by
    unfold Xfa at h
    split at h
    · cases h
    · rename_i y h1 he
      split at h
      · cases h
      · rename_i r h2 hr
        have fin:∀ {hh':Option Hp},L=y::r→hh=hh'→(∀ H,h1=some H→hh'=some H)→(∀ H,h2=some H→hh'=some H)→_:=fun {hh'} hL' hh0 ha hb=>by
          subst hL'; subst hh0
          obtain ⟨e1,e2,e3⟩:=XuW he (hu x (by simp)) (p:=p) fun H hH=>hth H (ha H hH)
          obtain ⟨e4,e5⟩:=Xnp (p:=p) hr (fun z hz=>hu z (by simp [hz])) (fun H hH=>hth H (hb H hH)) (fun z hz=>by
            rcases List.mem_cons.1 hz with rfl | hz
            · exact hL z (by simp)
            · exact hdn z hz) (fun z hz=>hL z (by simp [hz]))
          exact (⟨by rw [List.map_cons,List.map_cons,e4,e1,e2],fun z hz=>by
            rcases List.mem_cons.1 hz with rfl | hz
            · exact ⟨dn,hdn,e3⟩
            · exact e5 z hz⟩:(y::r).map (fun x=>(x.i,x.o))=(x::sk).map (fun x=>(x.i,x.o))∧∀ x∈y::r,∃ dn',(∀ y∈dn',y∈p.L)∧XqX P E p rb td dn' x)
        split at h
        · cases h
        · cases h
          have:=fin rfl rfl (fun H hH=>hH) (fun H hH=>by cases hH)
          exact this
        · cases h
          have:=fin rfl rfl (fun H hH=>by cases hH) (fun H hH=>hH)
          exact this
end Go.Fw
end
