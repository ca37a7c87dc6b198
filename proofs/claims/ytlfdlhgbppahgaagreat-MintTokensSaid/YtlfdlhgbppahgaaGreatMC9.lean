/- A part of a proof of a given law of this program: lemmas, printed forms of its functions, contracts. It has no conditions of its own. -/
import Derived.Test.YtlfdlhgbppahgaaGreatMC8
import Derived.Test.YtlfdlhgbppahgaaGreatMC5

set_option maxHeartbeats 16000000
section
namespace Go.Sh
open Go Go.Fw Go.Proofs
set_option maxRecDepth 100000
set_option linter.unusedVariables false
theorem XqX {ks:List KE} {pl:MP} {act:Bool} {x:VI} (hb:Yj x.f.tok=false) (hr:x.rd=[]) (hk:ks.length≠0) :
    XI ks pl act x=if act=false∧pl.sh=true then JO false else if YS ks x=0 then JO true else if act=false∨YS ks x=13 then Xs (YS ks x) else Xs 21:=by
  unfold XI
  rw [if_neg (by rw [hb]; simp)]
  have:XX ks pl.li x=Xs 21:=by
    unfold XX
    rw [if_neg hk,if_pos (by rw [hr]; show 0<20; omega)]
  rw [this]
theorem Xwo (X:MX) (u:OU):(X.took u).act=X.see.act:=rfl
section
variable {w0 w:World} {b br lo:Nat} {X:MX} {p:Option Addr} {es:List RE} {N:Int} {K:VWP}
theorem MS.copy1 {f:RT} {now:Nat} {pp:Option Addr} {ll cc:Nat} {xs:List UInt8} {S:World→Prop} {J:Addr→World→Prop} (h:MS w0 w b X br p es N lo) (hN:N<10000000) (hX:X.now<1000000∧X.c0<1000000∧X.c1<1000000∧X.c2<1000000)
    (hfo:RT.ok w f) (hoff:(⟨f,none,0,[],none,0,[],now⟩:VI).off (MB b br p es)) (hfew:(⟨f,none,0,xs,none,0,[],now⟩:VI).few) (hrow:Row w pp (xs.map vb)) (hl:ll=xs.length) (hnow:now<18446744073709551616)
    (hS:∀ w',FrP (MB b br p es) w w'→S w')
    (hJ:∀ (o:OC) (k8:Nat) (w9:World),MS w0 w9 b (X.took o.u) br p es (N+2) lo→FrP (MB b br p es) w w9→CAt w9 k8 o.v→w.heap.size≤k8→o.u=JP (es.map RE.ke) X ⟨f,none,0,xs,none,0,[],now⟩→J ⟨k8,0,none⟩ w9) :
    (CpB pp ll cc S w fun q l d w2=>(TkA b f now q l d none 0 0 S J w2)∧(NwO S w2 fun k8 w6=>TkB b f now q l d none 0 0 J k8 w6))∧
    (NwO S w fun k8 w9=>CpB pp ll cc S w9 fun q l d w10=>TkB b f now q l d none 0 0 J k8 w10):=by
  subst hl
  have hS0:∀ w',Fr [] w w'→S w':=fun w' f=>hS w' (FrP.of0 f)
  have l1:xs.length≤1000:=hfew.l1
  have cp:∀ {wa:World} {K:Option Addr→Nat→Nat→World→Prop},Fr [] w wa→(∀ q d w',Fr [] wa w'→OB w' q xs.length d xs w.heap.size→K q xs.length d w')→CpB pp xs.length cc S wa K:=by
    intro wa K fa hK
    refine Z9 (hrow.fr0 fa) rfl (by omega) fun q d w' f hO=>⟨_,_,_,rfl,.inr (hS0 w' (fa.then f)),hK q d w' f (hO.mono fa.size)⟩
  have nw:∀ {wa:World} {K:Nat→World→Prop},Fr [] w wa→(∀ k g w',Fr [] wa w'→Blk w' k 5 g→w.heap.size≤k→K k w')→NwO S wa K:=by
    intro wa K fa hK
    exact XG (s:=5) (by kernel_rfl) fun w' g f hB s=>⟨.inr (hS0 w' (fa.then f)),hK _ g w' f hB fa.size⟩
  have hV:∀ {wa:World} {qa:Option Addr} {da:Nat},Fr [] w wa→OB wa qa xs.length da xs w.heap.size→VI.ok wa ⟨f,qa,da,xs,none,0,[],now⟩∧(⟨f,qa,da,xs,none,0,[],now⟩:VI).off (MB b br p es)∧(⟨f,qa,da,xs,none,0,[],now⟩:VI).few:=by
    intro wa qa da fa hA
    refine ⟨⟨hfo.fr0 fa,hA.row,hA.cap,Row.nil _ _,Nat.le_refl _,hnow⟩,⟨hoff.o1,hoff.o2,hoff.o3,hoff.o4,fun _ z hz hh=>?_,fun h0=>absurd h0 (by show ¬ 0<0; omega)⟩,hfew.l1,hfew.l2,hfew.l3,hfew.l4,hfew.l5,hfew.l6⟩
    have:=hA.2.2 z hz; have:=h.lt hh; omega
  have eq:∀ {qa:Option Addr} {da:Nat},JP (es.map RE.ke) X ⟨f,qa,da,xs,none,0,[],now⟩=JP (es.map RE.ke) X ⟨f,none,0,xs,none,0,[],now⟩:=Xdv rfl rfl rfl rfl rfl rfl
  have tA:∀ {wa:World} {qa:Option Addr} {da:Nat},Fr [] w wa→OB wa qa xs.length da xs w.heap.size→TkA b f now qa xs.length da none 0 0 S J wa:=by
    intro wa qa da fa hA
    obtain ⟨v1,v2,v3⟩:=hV fa hA
    exact h.ordA hN hX fa v1 v2 v3 hS fun o k8 w9 a1 a2 a3 a4 a5 a6 a7=>hJ o k8 w9 a1 a2 a3 a5 (by rw [a7]; exact eq)
  have tB:∀ {wa:World} {qa:Option Addr} {da k8:Nat} {g:Nat→Value},Fr [] w wa→Blk wa k8 5 g→w.heap.size≤k8→OB wa qa xs.length da xs w.heap.size→TkB b f now qa xs.length da none 0 0 J k8 wa:=by
    intro wa qa da k8 g fa hBk h8 hA
    obtain ⟨v1,v2,v3⟩:=hV fa hA
    exact h.ordB hN hX fa hBk h8 v1 v2 v3 fun o k8 w9 a1 a2 a3 a4 a5 a6 a7=>hJ o k8 w9 a1 a2 a3 a5 (by rw [a7]; exact eq)
  exact ⟨cp (Fr.refl _ _) fun qa da w6 f6 hA=>⟨tA f6 hA,nw f6 fun k8 g w11 f11 hBk h8=>tB (f6.then f11) hBk h8 (hA.fr0 f11)⟩,
    nw (Fr.refl _ _) fun k8 g w18 f18 hBk h8=>cp f18 fun qa da w19 f19 hA=>tB (f18.then f19) (hBk.fr0 f19) h8 hA⟩
structure TS (w0 w:World) (b:Nat) (X:MX) (br:Nat) (p:Option Addr) (es:List RE) (N:Int) (lo:Nat) (x:MC) (k8 k15 k18:Nat) (u F:RT):Prop where
  s:MS w0 w b X br p es N lo
  c8:CAt w k8 x.v
  n8:¬ MB b br p es k8
  c15:CAt w k15 u.v
  n15:¬ MB b br p es k15
  c18:CAt w k18 F.v
  n18:¬ MB b br p es k18
  fo:RT.ok w F
  f1:0<F.h.to.length→∀ z∈Xb F.h.p1,¬ MB b br p es z
  f2:0<F.h.fr.length→∀ z∈Xb F.h.p2,¬ MB b br p es z
  f3:0<F.tok.length→∀ z∈Xb F.p3,¬ MB b br p es z
  f4:0<F.st.length→∀ z∈Xb F.p4,¬ MB b br p es z
  t:F.tok=u.tok
  tp:F.p3=u.p3
  tc:F.c3=u.c3
variable {x:MC} {k8 k15 k18:Nat} {u F:RT}
theorem TS.step (h:TS w0 w b X br p es N lo x k8 k15 k18 u F) {w':World} {X':MX} {N':Int} (f:FrP (MB b br p es) w w') (hM:MS w0 w' b X' br p es N' lo):TS w0 w' b X' br p es N' lo x k8 k15 k18 u F:=by
  have hrow:∀ {q:Option Addr} {xs:List UInt8},Row w q (xs.map vb)→(0<xs.length→∀ z∈Xb q,¬ MB b br p es z)→Row w' q (xs.map vb):=fun hR ho=>by
    obtain ⟨L,l1,l2⟩:=f
    exact X8 hR l2 fun h0 z hz hm=>ho h0 z hz (l1 z hm)
  exact ⟨hM,h.c8.frP f h.n8,h.n8,h.c15.frP f h.n15,h.n15,h.c18.frP f h.n18,h.n18,⟨⟨hrow h.fo.h.r1 h.f1,h.fo.h.h1,hrow h.fo.h.r2 h.f2,h.fo.h.h2,h.fo.h.b1,h.fo.h.b2⟩,hrow h.fo.r3 h.f3,h.fo.h3,hrow h.fo.r4 h.f4,h.fo.h4⟩,h.f1,h.f2,h.f3,h.f4,h.t,h.tp,h.tc⟩
theorem TS.fr0 (h:TS w0 w b X br p es N lo x k8 k15 k18 u F) {w':World} (f:Fr [] w w'):TS w0 w' b X br p es N lo x k8 k15 k18 u F:=h.step (FrP.of0 f) (h.s.fr0 f)
theorem TS.off (h:TS w0 w b X br p es N lo x k8 k15 k18 u F) {xs:List UInt8} {now:Nat}:(⟨F,none,0,[],none,0,[],now⟩:VI).off (MB b br p es):=
  ⟨h.f1,h.f2,h.f3,h.f4,fun h0=>absurd h0 (by show ¬ 0<0; omega),fun h0=>absurd h0 (by show ¬ 0<0; omega)⟩
theorem Xsb {po:Option Addr} {lo4 co later k19 k21:Nat} {other:List UInt8} {oy ox:OC} {Y:MX} (h:TS w0 w b Y br p es N lo x k8 k15 k18 u F) (hx:MC.ok w0 x) (hf:x.few) (hor:Row w0 po (other.map vb)) (hol:lo4=other.length) (hoc:lo4≤co) (ho64:lo4≤64)
    (hc19:CAt w k19 ox.v) (hc21:CAt w k21 oy.v) (hnb:Yj u.tok=false) (hl1:29≤u.tok.length) (hl2:u.tok.length≤4096) (hhas:hasK (es.map RE.ke) (tk0 u.tok:Int))
    (hsame:other=x.cl→oy.u.kd=ox.u.kd) (hother:opE (Uz (es.map RE.ke) (tk0 u.tok:Int)) (tkN u.tok) (tkS u.tok) (UInt8.ofNat (tk0 u.tok)::other)≠0→oy.u=Xs 13) (hK:∀ w',Fr [] w0 w'→K (.bool true) w') :
    Yp po lo4 co ⟨k8,0,none⟩ false (some ⟨b,0,none⟩) ⟨k15,0,none⟩ ⟨k19,0,none⟩ ⟨k21,0,none⟩ w K:=by
  subst hol
  unfold Yp
  have hxw:=hx.1.fr0 h.s.f0
  have horw:=hor.fr0 h.s.f0
  have hcl:=hf.l1
  refine ⟨_,_,_,h.c8.get (by kernel_rfl) (j:=6) rfl,XhR horw rfl hxw.r1 rfl (by omega) fun w1 f1=>⟨_,rfl,?_⟩⟩
  by_cases hsm:other=x.cl
  · rw [decide_eq_true (show other=x.vi.cl from hsm)]
    refine Xl ⟨_,(hc21.fr0 f1).get (by kernel_rfl) (j:=0) rfl,_,(hc19.fr0 f1).get (by kernel_rfl) (j:=0) rfl,?_⟩
    rw [hsame hsm,beq_self_eq_true]
    exact hK w1 (h.s.f0.then f1)
  rw [decide_eq_false (show ¬ other=x.vi.cl from hsm)]
  have h1:=h.fr0 f1
  refine Xi ⟨_,_,_,h1.c15.get (by kernel_rfl) (j:=4) rfl,Xd (fun hh=>by omega) fun _=>?_⟩
  refine ⟨fun w'=>Fr [] w1 w',Drw.intro fun w2 f2 s2=>?_⟩
  have hT2:Row w1 u.p3 (u.tok.map vb):=by
    have:=h1.fo.r3
    rw [h.t,h.tp] at this; exact this
  have hTc:u.tok.length≤u.c3:=by
    have:=h1.fo.h3
    rw [h.t,h.tc] at this; exact this
  obtain ⟨a,ha,hca⟩:=Xy (t:=Xf) (by kernel_rfl) hT2 (c:=u.c3) rfl (i:=0) (by omega) (k:=.i64)
  refine ⟨_,_,_,⟨f2,fun w' f=>(h1.c15.fr0 f).get (by kernel_rfl) (j:=4) rfl⟩,_,ha,_,⟨f2,fun w' f=>Ld.cell (by kernel_rfl) (f.cell hca (by simp))⟩,?_⟩
  have h2:=h1.fr0 f2
  refine Zl h2.s.M ⟨_,rfl,.inl rfl,?_⟩
  have hb256:(u.tok.getD 0 0).toNat<256:=(u.tok.getD 0 0).toNat_lt
  rw [Xe (n:=((u.tok.getD 0 0).toNat:Int)) (by omega) (by omega)]
  have etk:(((u.tok.getD 0 0).toNat:Nat):Int)=(tk0 u.tok:Int):=rfl
  rw [etk]
  refine XuY h2.s.M.r (fun e qk dk w4 hs hem hei hes f4 hOk=>⟨_,_,_,_,rfl,?_⟩) fun _ _ _ hh=>absurd hhas hh
  have hkey:=Xmp hei
  have hkl:e.key.length=16:=(h2.s.M.r.ent e hem).1.len
  have f14:=f2.then f4
  have h4:=h2.fr0 f4
  refine ⟨fun w'=>Fr [] w4 w',Drw.intro fun w5 f5 s5=>?_⟩
  have hT5:=hT2.fr0 (f14.then f5)
  refine ⟨_,_,_,⟨f5,fun w' f=>(h4.c15.fr0 f).get (by kernel_rfl) (j:=4) rfl⟩,XkO hT5 rfl (a:=1) (b:=13) (by omega) (by omega) hTc fun qa da hqa hla hda hba=>?_⟩
  refine ⟨_,_,_,⟨f5,fun w' f=>(h4.c15.fr0 f).get (by kernel_rfl) (j:=4) rfl⟩,Wn hT5 rfl (n:=13) (by omega) hTc fun qb db hqb hlb hdb hbb=>?_⟩
  refine ⟨_,_,_,(h4.c15.fr0 f5).get (by kernel_rfl) (j:=4) rfl,.inl rfl,_,ha,_,Ld.cell (by kernel_rfl) ((f14.then f5).cell hca (by simp)),.inl rfl,?_⟩
  refine mk1 (x:=u.tok.getD 0 0) fun p6 w6 f6 hO6 s6=>⟨.inr (f5.then f6),?_⟩
  have horw6:=((horw.fr0 f1).fr0 (f14.then f5)).fr0 f6
  refine XY (m:=other.length) hO6 f6.size horw6 rfl (by omega) fun p7 c7 w7 f7 hO7=>?_
  have f67:Fr [] w5 w7:=hO6.news f6 f7 (Nat.le_refl _)
  refine ⟨.inr (f5.then f67),?_⟩
  have e17:[u.tok.getD 0 0]++other=UInt8.ofNat (tk0 u.tok)::other:=by
    have:u.tok.getD 0 0=UInt8.ofNat (tk0 u.tok):=by
      show _=UInt8.ofNat (u.tok.getD 0 0).toNat
      simp
    rw [← this]; rfl
  rw [e17] at hO7
  have hOk7:=((hOk.fr0 f5).fr0 f67)
  have eN:(u.tok.take 13).drop 1=tkN u.tok:=rfl
  have eS:u.tok.drop 13=tkS u.tok:=rfl
  rw [eN] at hqa hla
  rw [eS] at hqb hlb
  refine Xk1 (key:=e.key) (note:=UInt8.ofNat (tk0 u.tok)::other) hOk7.row hkl.symm hOk.cap rfl (hqa.fr0 f67) hla (hqb.fr0 f67) hlb hdb (by omega) hO7.row hO7.2.1 fun q8 d8 w8 f8 hO8=>⟨_,_,_,_,rfl,?_⟩
  have F18:=(f14.then f5).then (f67.then f8)
  have fin:=hK w8 (h1.s.f0.then F18)
  have hc21w:=(hc21.fr0 f1).fr0 F18
  refine Xx (fun _=>fin) fun hne=>?_
  rw [← hkey] at hne
  have hoy:=hother hne
  refine ⟨_,hc21w.get (by kernel_rfl) (j:=0) rfl,XV (by rw [hoy]; rfl) ⟨_,hc21w.get (by kernel_rfl) (j:=2) rfl,?_⟩⟩
  rw [hoy]
  exact fin
end
end Go.Sh
end

section
namespace Go.Sh
open Go Go.Fw Go.Proofs
set_option maxRecDepth 100000
set_option linter.unusedVariables false
theorem XsR {a b:Bool} {A B:Prop} (h:a=b) (hb:B):cond (!(a == b)) A B:=by subst h; simpa using hb
theorem XxM (X:MX) (h:X.act=true):X.see.act=true:=by
  unfold MX.act at h
  have h:=of_decide_eq_true h
  unfold MX.act MX.see
  refine decide_eq_true ?_
  rcases h with h | ⟨h1,h2 | h2⟩
  · exact .inl h
  · refine .inr ⟨h1,.inl ?_⟩
    show X.pl.th≤((X.now+1:Nat):Int)
    omega
  · exact .inr ⟨h1,.inr h2⟩
theorem MadeT.hasK {ks:List KE} {li:Nat} {x:VI} {B T S:List UInt8} (h:MadeT ks li x B T S) (hs:0≤Yc ks):hasK ks (tk0 T:Int):=by
  have h1:=(QP h.e).1.1
  rw [h.k0]
  have:(((Yc ks).toNat:Nat):Int)=Yc ks:=by omega
  rw [this]; exact h1
theorem Xt7 {ks:List KE} {other tok:List UInt8} {now:Nat} (h1:29≤tok.length) (h2:tok.length≤4096) (hk:hasK ks (tk0 tok:Int)) (ho:other.length≤64) (h:opE (Uz ks (tk0 tok:Int)) (tkN tok) (tkS tok) (UInt8.ofNat (tk0 tok)::other)≠0):(XA ks other tok now).e=13:=by
  have hE:YQ ks other tok=13:=by
    unfold YQ
    rw [if_neg (by omega),if_neg (fun hh=>hh hk),if_neg (by omega),if_pos h]
  unfold XA
  rw [if_pos (by rw [hE]; omega),hE]; rfl
section
variable {w0 w:World} {b br lo:Nat} {X Y:MX} {p:Option Addr} {es:List RE} {N:Int} {K:VWP} {x:MC} {k8 k15 k18:Nat} {u F:RT}
structure TK (ks:List KE) (x:MC) (li later:Nat) (u F:RT) (T:List UInt8):Prop where
  tu:u.tok=T
  tF:F.tok=T
  nb:Yj T=false
  l1:29≤T.length
  l2:T.length≤4096
  has:hasK ks (tk0 T:Int)
  hk:ks.length≠0
  o:(XA ks x.cl T later).e=if XP x.now li<later then 20 else 0
  fw:F.h.to.length≤1000∧F.h.fr.length≤1000∧F.st.length≤1000
theorem Xh2 {po:Option Addr} {lo4 co later li k19:Nat} {other T:List UInt8} {ox:OC} (h:TS w0 w b Y br p es N lo x k8 k15 k18 u F) (hN:N<100000) (hY:Y.now<1000∧Y.c0<1000∧Y.c1<1000∧Y.c2<1000) (hx:MC.ok w0 x) (hf:x.few) (hor:Row w0 po (other.map vb)) (hol:lo4=other.length) (hoc:lo4≤co) (ho64:lo4≤64) (hlat:later<18446744073709551616)
    (hc19:CAt w k19 ox.v) (n19:¬ MB b br p es k19) (tk:TK (es.map RE.ke) x li later u F T) (hsh:¬ (Y.act=false∧Y.pl.sh=true)) (hox:ox.u.kd=if XP x.now li<later then 2 else 0) (hK:∀ w',Fr [] w0 w'→K (.bool true) w') :
    ZE (later:Int) po lo4 co ⟨k8,0,none⟩ false (some ⟨b,0,none⟩) ⟨k15,0,none⟩ ⟨k18,0,none⟩ ⟨k19,0,none⟩ w K:=by
  subst hol
  unfold ZE
  refine ⟨fun w'=>CAt w' k18 F.v,Drw.intro fun w1 f1 s1=>?_⟩
  have h1:=h.fr0 f1
  refine ⟨_,_,_,_,_,_,_,_,_,_,_,_,_,_,⟨h1.c18,fun w' hw=>hw.ld (by kernel_rfl) (by kernel_rfl)⟩,?_⟩
  have hl2:=tk.l2
  have hfew:(⟨F,none,0,other,none,0,[],later⟩:VI).few:=⟨by show other.length≤1000; omega,by show 0≤1000; omega,by show F.tok.length≤5000; rw [tk.tF]; omega,tk.fw.1,tk.fw.2.1,tk.fw.2.2⟩
  refine h1.s.copy1 (J:=fun a w'=>Yp po other.length co ⟨k8,0,none⟩ false (some ⟨b,0,none⟩) ⟨k15,0,none⟩ ⟨k19,0,none⟩ a w' K) (by omega) ⟨by omega,by omega,by omega,by omega⟩ h1.fo (h1.off (xs:=[])) hfew (hor.fr0 h1.s.f0) rfl hlat (fun w' f=>h1.c18.frP f h1.n18) fun o k21 w9 hM9 f9 hC21 h21 hu=>?_
  have h9:=h1.step f9 hM9
  have hju:o.u=XI (es.map RE.ke) Y.pl Y.see.act ⟨F,none,0,other,none,0,[],later⟩:=hu
  have hns:¬ (Y.see.act=false∧Y.pl.sh=true):=fun ⟨e1,e2⟩=>by
    cases ha:Y.act with
    | false=>exact hsh ⟨ha,e2⟩
    | true=>rw [XxM Y ha] at e1; cases e1
  have hV:=XqX (ks:=es.map RE.ke) (pl:=Y.pl) (act:=Y.see.act) (x:=⟨F,none,0,other,none,0,[],later⟩) (by show Yj F.tok=false; rw [tk.tF]; exact tk.nb) rfl tk.hk
  rw [if_neg hns] at hV
  have hop:YS (es.map RE.ke) ⟨F,none,0,other,none,0,[],later⟩=(XA (es.map RE.ke) other T later).e:=by
    show (XA (es.map RE.ke) other F.tok later).e=_
    rw [tk.tF]
  rw [hop] at hV
  rw [hV] at hju
  refine Xsb (later:=later) h9 hx hf hor rfl hoc ho64 ((hc19.fr0 f1).frP f9 n19) hC21 (by rw [tk.tu]; exact tk.nb) (by rw [tk.tu]; exact tk.l1) (by rw [tk.tu]; exact tk.l2) (by rw [tk.tu]; exact tk.has) (fun hsm=>?_) (fun hne=>?_) hK
  · rw [hox,hju,hsm,tk.o]
    by_cases hlt:XP x.now li<later
    · rw [if_pos hlt,if_pos hlt,if_neg (by omega)]
      split <;> rfl
    · rw [if_neg hlt,if_neg hlt,if_pos rfl]; rfl
  · rw [tk.tu] at hne
    rw [hju,Xt7 tk.l1 tk.l2 tk.has ho64 hne,if_neg (by omega),if_pos (.inr rfl)]
theorem Xsc {po:Option Addr} {lo4 co later li k19:Nat} {other T:List UInt8} {ox:OC} (h:TS w0 w b (X.took ox.u) br p es N lo x k8 k15 k18 u F) (hN:N<100000) (hX:X.now<999∧X.c0<999∧X.c1<999∧X.c2<999) (hx:MC.ok w0 x) (hf:x.few) (hor:Row w0 po (other.map vb)) (hol:lo4=other.length) (hoc:lo4≤co) (ho64:lo4≤64) (hlat:later<18446744073709551616) (hli:li≤1099511627776)
    (hc19:CAt w k19 ox.v) (n19:¬ MB b br p es k19) (tk:TK (es.map RE.ke) x li later u F T) (hu:ox.u=JP (es.map RE.ke) X ⟨F,none,0,x.cl,none,0,[],later⟩) (hK:∀ w',Fr [] w0 w'→K (.bool true) w') :
    Yq (later:Int) po lo4 co ⟨k8,0,none⟩ false (some ⟨b,0,none⟩) ⟨k15,0,none⟩ (li:Int) ⟨k18,0,none⟩ ⟨k19,0,none⟩ w K:=by
  have hju:ox.u=XI (es.map RE.ke) X.pl X.see.act ⟨F,none,0,x.cl,none,0,[],later⟩:=hu
  have hV:=XqX (ks:=es.map RE.ke) (pl:=X.pl) (act:=X.see.act) (x:=⟨F,none,0,x.cl,none,0,[],later⟩) (by show Yj F.tok=false; rw [tk.tF]; exact tk.nb) rfl tk.hk
  have hop:YS (es.map RE.ke) ⟨F,none,0,x.cl,none,0,[],later⟩=if XP x.now li<later then 20 else 0:=by
    show (XA (es.map RE.ke) x.cl F.tok later).e=_
    rw [tk.tF]; exact tk.o
  rw [hop] at hV
  rw [hV] at hju
  have hkc:∀ kd:Int,ox.u.kd≤2→True:=fun _ _=>trivial
  have hcb:(X.took ox.u).now<1000∧(X.took ox.u).c0<1000∧(X.took ox.u).c1<1000∧(X.took ox.u).c2<1000:=by
    refine ⟨by show X.now+1<1000; omega,?_,?_,?_⟩
    · show X.c0+(if ox.u.kd=0 then 1 else 0)<1000; split <;> omega
    · show X.c1+(if ox.u.kd=1 then 1 else 0)<1000; split <;> omega
    · show X.c2+(if ox.u.kd=2 then 1 else 0)<1000; split <;> omega
  have hxn:=hx.1.n
  have hxn:x.now<18446744073709551616:=hxn
  have j5:ZG (later:Int) po lo4 co ⟨k8,0,none⟩ false (some ⟨b,0,none⟩) ⟨k15,0,none⟩ ⟨k18,0,none⟩ ⟨k19,0,none⟩ (decide (¬ XP x.now li<later)) w K:=by
    unfold ZG
    refine ⟨_,rfl,Vq h.s.M fun w1 f1=>⟨_,rfl,?_⟩⟩
    have h1:=h.fr0 f1
    have hc1:=hc19.fr0 f1
    rw [Xwo]
    have j3:∀ (w2:World),Fr [] w1 w2→¬ (X.see.act=false∧X.pl.sh=true)→JM (later:Int) po lo4 co ⟨k8,0,none⟩ false (some ⟨b,0,none⟩) ⟨k15,0,none⟩ ⟨k18,0,none⟩ ⟨k19,0,none⟩ (decide (¬ XP x.now li<later)) w2 K:=by
      intro w2 f2 hns
      have h2:=h1.fr0 f2
      have hc2:=hc1.fr0 f2
      have hju2:=hju
      rw [if_neg hns] at hju2
      unfold JM
      refine ⟨_,hc2.get (by kernel_rfl) (j:=0) rfl,?_⟩
      by_cases hlt:XP x.now li<later
      · rw [if_pos hlt,if_neg (by omega)] at hju2
        have hkd:ox.u.kd=2:=by rw [hju2]; split <;> rfl
        rw [hkd,decide_eq_false (fun hh=>hh hlt)]
        refine Xxu rfl (XsR rfl ?_)
        exact Xh2 h2 hN hcb hx hf hor hol hoc ho64 hlat hc2 n19 tk hns (by rw [if_pos hlt]; exact hkd) hK
      · rw [if_neg hlt,if_pos rfl] at hju2
        have hkd:ox.u.kd=0:=by rw [hju2]; rfl
        have hch:ox.u.ch=true:=by rw [hju2]; rfl
        rw [hkd,decide_eq_true hlt]
        refine XV rfl ⟨_,hc2.get (by kernel_rfl) (j:=1) rfl,?_⟩
        rw [hch]
        refine XsR rfl ?_
        exact Xh2 h2 hN hcb hx hf hor hol hoc ho64 hlat hc2 n19 tk hns (by rw [if_neg hlt]; exact hkd) hK
    cases ha:X.see.act with
    | true=>
      refine Xi ?_
      unfold ZF
      exact Xi (j3 w1 (Fr.refl _ _) (by rw [ha]; simp))
    | false=>
      refine Xl (Xdu h1.s.M fun w2 f2=>⟨_,_,_,_,rfl,?_⟩)
      unfold ZF
      show cond X.pl.sh _ _
      cases hs:X.pl.sh with
      | false=>exact Xi (j3 w2 f2 (by rw [hs]; simp))
      | true=>
        rw [if_pos ⟨ha,hs⟩] at hju
        have hc2:=hc1.fr0 f2
        refine Xl ⟨_,hc2.get (by kernel_rfl) (j:=0) rfl,XV (by rw [hju]; rfl) ⟨_,hc2.get (by kernel_rfl) (j:=1) rfl,?_⟩⟩
        rw [show ox.u.ch=false by rw [hju]; rfl]
        exact hK w2 (h1.s.f0.then f2)
  unfold Yq
  refine ⟨_,h.c8.get (by kernel_rfl) (j:=14) rfl,Xd (fun hle=>?_) fun hgt=>⟨_,h.c8.get (by kernel_rfl) (j:=14) rfl,?_⟩⟩
  · rw [decide_eq_true (show ¬ XP x.now li<later by unfold XP; split <;> omega)] at j5
    exact j5
  · have ew:IntKind.u64.wrap ((later:Int) - (x.now:Int))=(later:Int) - (x.now:Int):=by rw [IntKind.wrap_u64]; omega
    rw [ew]
    have e:decide ((later:Int) - (x.now:Int)≤(li:Int))=decide (¬ XP x.now li<later):=decide_eq_decide.2 (by unfold XP; split <;> omega)
    rw [e]; exact j5
theorem Xsd {po:Option Addr} {lo4 co later k11 k14:Nat} {other:List UInt8} {o:OC} {g:MP} (h:MS w0 w b (X.took o.u) br p es N lo) (hN:N<10000) (hX:X.now<900∧X.c0<900∧X.c1<900∧X.c2<900) (hC:CAt w k8 x.v) (n8:¬ MB b br p es k8) (hC11:CAt w k11 g.v) (n11:¬ MB b br p es k11) (hx:MC.ok w0 x) (hf:x.few)
    (hor:Row w0 po (other.map vb)) (hol:lo4=other.length) (hoc:lo4≤co) (ho64:lo4≤64) (hlat:later<18446744073709551616)
    (hC14:CAt w k14 o.v) (hO:OC.own w o w0.heap.size) (hu:o.u=JP (es.map RE.ke) X x.vi) (hK:∀ w',Fr [] w0 w'→K (.bool true) w') :
    X3 (later:Int) po lo4 co ⟨k8,0,none⟩ ⟨k11,0,none⟩ false (some ⟨b,0,none⟩) ⟨k14,0,none⟩ w K:=by
  unfold X3
  have hx0:=hx.1
  refine ⟨_,hC14.get (by kernel_rfl) (j:=0) rfl,Xt (fun _=>hK w h.f0) fun hkd=>?_⟩
  have hju:(XI (es.map RE.ke) X.pl X.see.act x.vi).kd=1:=by rw [← hkd,hu]; rfl
  obtain ⟨m1,m2,m3⟩:=Xvp hju
  have hnK:=h.M.r.newK_le
  obtain ⟨B,T,S,hMd⟩:=Xwm (ks:=es.map RE.ke) (li:=X.pl.li) (x:=x.vi) hnK hx0.n (by rw [← m1]; exact hju)
  have hou:o.u=X0 B:=by rw [hu,← hMd.u,← m1]; rfl
  have hli:X.pl.li≤1099511627776:=h.M.o.2.2.2.2
  obtain ⟨uo,po',co'⟩:=o
  have hou:uo=X0 B:=hou
  subst hou
  have hOB:OB w po' B.length co' B w0.heap.size:=hO
  have hbl:=hMd.bl
  refine ⟨_,_,_,hC14.get (by kernel_rfl) (j:=3) rfl,QO (b:=B) hOB.row rfl hOB.cap (by omega) fun u w1 f1 hU1 hu1=>⟨_,_,_,_,_,_,_,_,_,_,_,_,_,_,_,rfl,?_⟩⟩
  obtain ⟨u1,u2,u3,u4,u5,u6⟩:=RT.su_eq hu1
  rw [hMd.p] at u3 u4 u5 u6 ⊢
  have u4:u.h.fr=XC x.rd:=u4
  have u5:u.tok=T:=u5
  refine UV (t:=ZN) u.v rfl rfl (by kernel_rfl) (by kernel_rfl) fun w3 f3 hC15=>?_
  obtain ⟨k15,hk15⟩:∃ k,k=w1.heap.size:=⟨_,rfl⟩
  rw [← hk15] at hC15 ⊢
  have n1:=f1.size; have n3:=f3.size
  have f03:=f1.then f3
  refine Xt (fun hh=>absurd rfl hh) fun _=>Xdu (h.M.fr0 f03) fun w4 f4=>⟨_,_,_,_,rfl,?_⟩
  have f04:=f03.then f4
  refine ⟨_,_,_,_,(hC11.fr0 f04).ld (by kernel_rfl) (by kernel_rfl),Xgg (q:=g) (h.M.fr0 f04) fun w5 f5 hM5=>⟨_,rfl,?_⟩⟩
  have g5:FrP (MB b br p es) w w5:=(FrP.of0 f04).trans (FrP.of f5 (Yo (.inl rfl)))
  have h5:=h.step g5 hM5
  have hC5:=hC.frP g5 n8
  have n15:¬ MB b br p es k15:=fun hh=>by have:=h.lt hh; omega
  have hC155:CAt w5 k15 u.v:=(hC15.fr0 f4).frP (FrP.of f5 (Yo (P:=MB b br p es) (.inl rfl))) n15
  have hU5:RT.own w5 u w.heap.size:=by
    have hb:=h.M.lt
    exact (((hU1.fr0 f3).fr0 f4).fr_sep f5 hb)
  refine ⟨_,_,_,_,_,_,_,_,_,_,_,_,_,_,MC.ldF hC5,UV (t:=Zd) x.f.v rfl rfl (by kernel_rfl) (by kernel_rfl) fun w7 f7 hC18=>?_⟩
  obtain ⟨k18,hk18⟩:∃ k,k=w5.heap.size:=⟨_,rfl⟩
  rw [← hk18] at hC18 ⊢
  have n5:=g5.size; have n7:=f7.size
  have n18:¬ MB b br p es k18:=fun hh=>by have:=h.lt hh; omega
  have lt15:=hC155.lt
  have lt8:=hC5.lt
  refine ⟨_,_,_,(hC155.fr0 f7).get (by kernel_rfl) (j:=4) rfl,hC18.sto (j:=4) (by show 4<6; omega) (.slice u.p3 u.tok.length u.c3) rfl rfl (by kernel_rfl) fun w8 f8 hC18b s8=>?_⟩
  have hC158:CAt w8 k15 u.v:=(hC155.fr0 f7).fr f8 (by simp; omega)
  refine ⟨_,_,_,hC158.get0 (by kernel_rfl) (j:=3) rfl,hC18b.sto (j:=2) (by show 2<6; omega) (.slice u.h.p2 u.h.fr.length u.h.c2) rfl rfl (by kernel_rfl) fun w9 f9 hC18c s9=>?_⟩
  obtain ⟨F,hF⟩:∃ F:RT,F=⟨⟨x.f.h.fi,x.f.h.ve,u.h.fr,x.f.h.fr,u.h.p2,u.h.c2,x.f.h.p2,x.f.h.c2⟩,u.tok,x.f.st,u.p3,u.c3,x.f.p4,x.f.c4⟩:=⟨_,rfl⟩
  have hC189:CAt w9 k18 F.v:=by rw [hF]; exact hC18c
  have g59:FrP (fun z=>z=k18) w5 w9:=((FrP.of0 f7).trans (FrP.of f8 (Yo (P:=fun z=>z=k18) rfl))).trans (FrP.of f9 (Yo (P:=fun z=>z=k18) rfl))
  have h59:Fr [] w5 w9:=(f7.st f8 (by omega)).st f9 (by omega)
  have h9:=h5.fr0 h59
  have hx9:=hx0.fr0 h9.f0
  have hU9:=hU5.fr0 h59
  have old:=VI.off_old hx0 h.low
  have n8':¬ MB b br p es k8:=n8
  have T9:TS w0 w9 b ((X.took (X0 B)).set g) br p es N lo x k8 k15 k18 u F:=by
    refine ⟨h9,hC5.fr0 h59,n8,hC155.fr0 h59,n15,hC189,n18,?_,?_,?_,?_,?_,by rw [hF],by rw [hF],by rw [hF]⟩
    · rw [hF]; exact ⟨⟨hU9.h.o2.row,hU9.h.o2.cap,hx9.f.h.r2,hx9.f.h.h2,hx9.f.h.b1,hx9.f.h.b2⟩,hU9.o3.row,hU9.o3.cap,hx9.f.r4,hx9.f.h4⟩
    · rw [hF]; exact fun _ z hz hh=>by have:=hU5.h.o2.2.2 z hz; have:=h.lt hh; omega
    · rw [hF]; exact old.o2
    · rw [hF]; exact fun _ z hz hh=>by have:=hU5.o3.2.2 z hz; have:=h.lt hh; omega
    · rw [hF]; exact old.o4
  have tk:TK (es.map RE.ke) x X.pl.li later u F T:=by
    refine ⟨u5,by rw [hF]; exact u5,hMd.nb,hMd.l1,hMd.l2,hMd.hasK hnK.1,hMd.has,?_,?_⟩
    · have:=hMd.o later
      rw [show XA (es.map RE.ke) x.cl T later=_ from this]
      show (if XP x.now X.pl.li<later then UT.bad 20 else (VU X.pl.li x.vi).ut 0).e=_
      split <;> rfl
    · rw [hF]
      have e9:u.h.fr.length=9:=by rw [u4]; exact hMd.sl
      exact ⟨by show u.h.fr.length≤1000; omega,by have:=hf.l4; show x.f.h.fr.length≤1000; omega,by have:=hf.l6; show x.f.st.length≤1000; omega⟩
  refine ⟨fun w'=>CAt w' k8 x.v∧CAt w' k18 F.v,Drw.intro fun wa fa sa=>?_⟩
  have Ta:=T9.fr0 fa
  have hS:∀ w',FrP (MB b br p es) wa w'→CAt w' k8 x.v∧CAt w' k18 F.v:=fun w' f=>⟨Ta.c8.frP f Ta.n8,Ta.c18.frP f Ta.n18⟩
  have hSa:=hS wa (FrP.of0 (Fr.refl _ _))
  refine ⟨_,_,_,⟨hSa,fun w' hw=>hw.1.get (by kernel_rfl) (j:=6) rfl⟩,_,_,_,_,_,_,_,_,_,_,_,_,_,_,⟨hSa,fun w' hw=>hw.2.ld (by kernel_rfl) (by kernel_rfl)⟩,?_⟩
  have hl1:=hf.l1; have hl2:=tk.l2
  have hfew:(⟨F,none,0,x.cl,none,0,[],later⟩:VI).few:=⟨by show x.cl.length≤1000; omega,by show 0≤1000; omega,by show F.tok.length≤5000; rw [tk.tF]; omega,tk.fw.1,tk.fw.2.1,tk.fw.2.2⟩
  have hset:∀ Z:MX,(Z.set g).now=Z.now∧(Z.set g).c0=Z.c0∧(Z.set g).c1=Z.c1∧(Z.set g).c2=Z.c2:=fun Z=>by unfold MX.set; split <;> exact ⟨rfl,rfl,rfl,rfl⟩
  obtain ⟨q1,q2,q3,q4⟩:=hset (X.took (X0 B))
  have b1:(X.took (X0 B)).now=X.now+1:=rfl
  have b2:(X.took (X0 B)).c0≤X.c0+1:=Nat.le_succ _
  have b3:(X.took (X0 B)).c1≤X.c1+1:=Nat.le_refl _
  have b4:(X.took (X0 B)).c2≤X.c2+1:=Nat.le_succ _
  refine Ta.s.copy1 (J:=fun a w'=>Yq (later:Int) po lo4 co ⟨k8,0,none⟩ false (some ⟨b,0,none⟩) ⟨k15,0,none⟩ (X.pl.li:Int) ⟨k18,0,none⟩ a w' K) (by omega) ⟨by omega,by omega,by omega,by omega⟩ Ta.fo (Ta.off (xs:=[])) hfew (hx0.fr0 Ta.s.f0).r1 rfl hlat hS fun o2 k19 wb hMb fb hC19 h19 hu2=>?_
  exact Xsc (Ta.step fb hMb) (by omega) ⟨by omega,by omega,by omega,by omega⟩ hx hf hor hol hoc ho64 hlat hli hC19 (fun hh=>by have:=Ta.s.lt hh; omega) tk hu2 hK
theorem MintTokens_c {g g2:MP} {p1 po:Option Addr} {l1 c1 lo4 co later:Nat} {other:List UInt8} {cs:List MC} {x:MC} (h1':Row w p1 (cs.flatMap MC.v)) (hok':∀ x∈cs,MC.ok w x) (hl1:l1=cs.length) (hx':MC.ok w x) (hor':Row w po (other.map vb)) (hol:lo4=other.length) (hoc:lo4≤co) (hlat:later<18446744073709551616) (h:∀ w',Fr [] w w'→K (.bool true) w') :
    Xa Tryz.prog XeN #[g.a,.slice p1 l1 c1,.agg ⟨x.v⟩,.int .u64 (later:Int),.slice po lo4 co,g2.a] w K:=by
  apply Xcb
  unfold QJ
  refine Y3 (t:=YA) g.v fun w1 f1 hC6 s1=>?_
  obtain ⟨k6,hk6⟩:∃ k,k=w.heap.size:=⟨_,rfl⟩
  rw [← hk6] at hC6 ⊢
  refine Y3 (t:=T_law21_Call) x.v fun w2 f2 hC8 s2=>?_
  obtain ⟨k8,hk8⟩:∃ k,k=w1.heap.size:=⟨_,rfl⟩
  rw [← hk8] at hC8 ⊢
  refine Y3 (t:=YA) g2.v fun w3 f3 hC11 s3=>?_
  obtain ⟨k11,hk11⟩:∃ k,k=w2.heap.size:=⟨_,rfl⟩
  rw [← hk11] at hC11 ⊢
  have f03:=(f1.then f2).then f3
  refine Xvn fun w4 f4=>⟨_,rfl,Xi ?_⟩
  have f04:=f03.then f4
  refine Xnk (h1'.fr0 f04) hl1 (fun w5 f5=>⟨_,rfl,Xl (h w5 (f04.then f5))⟩) fun w5 f5 hfew=>⟨_,rfl,Xi ?_⟩
  have f05:=f04.then f5
  have hC85:=((hC8.fr0 f3).fr0 f4).fr0 f5
  refine ⟨_,hC85.ld (by kernel_rfl) (by rw [x.v_len]; kernel_rfl),XyK fun q w6 f6 hQ6=>?_⟩
  have f06:=f05.then f6
  refine Xnk (cs:=[x]) hQ6 rfl (fun w7 f7=>⟨_,rfl,Xl (h w7 (f06.then f7))⟩) fun w7 f7 hfx=>⟨_,rfl,Xi ?_⟩
  have f07:=f06.then f7
  have hxf:=hfx.2 x (by simp)
  have hC87:=(hC85.fr0 f6).fr0 f7
  refine Xd (fun _=>h w7 f07) fun ho64=>⟨_,_,_,hC87.get (by kernel_rfl) (j:=6) rfl,Xd (fun _=>h w7 f07) fun hc64=>?_⟩
  unfold Vy
  have f37:=((f4.then f5).then f6).then f7
  have hC67:CAt w7 k6 g.v:=((hC6.fr0 f2).fr0 f3).fr0 f37
  have hC117:CAt w7 k11 g2.v:=hC11.fr0 f37
  have hx:=hx'.fr0 f07
  have hor:=hor'.fr0 f07
  have hl60:=hfew.1
  refine Xwn hC67 (h1'.fr0 f07) (fun y hy=>(hok' y hy).fr0 f07) hl1 hfew (fun w' f=>h w' (f07.then f)) fun b X br p es lo c r q rs lo2 wa hg T hn hc=>?_
  have hs:=T.ms
  refine ⟨fun w'=>CAt w' k8 x.v,Drw.intro fun wb fb sb=>?_⟩
  have hsb:=hs.fr0 fb
  have hC8b:=(hC87.fr0 T.f).fr0 fb
  have hC11b:=(hC117.fr0 T.f).fr0 fb
  have n8:¬ MB b br p es k8:=fun hh=>by have:=hs.low k8 hh; have:=hC87.lt; omega
  have n11:¬ MB b br p es k11:=fun hh=>by have:=hs.low k11 hh; have:=hC117.lt; omega
  have hS:∀ w',FrP (MB b br p es) wb w'→CAt w' k8 x.v:=fun w' f=>hC8b.frP f n8
  refine ⟨_,_,_,⟨hC8b,fun w' hw=>hw.get (by kernel_rfl) (j:=6) rfl⟩,_,_,_,_,_,_,_,_,_,_,_,_,_,_,⟨hC8b,fun w' hw=>MC.ldF hw⟩,_,⟨hC8b,fun w' hw=>hw.get (by kernel_rfl) (j:=14) rfl⟩,_,_,_,⟨hC8b,fun w' hw=>hw.get (by kernel_rfl) (j:=7) rfl⟩,?_⟩
  have nb:=hsb.f0.size
  refine hsb.copies (J:=fun a w'=>X3 (later:Int) po lo4 co ⟨k8,0,none⟩ ⟨k11,0,none⟩ false (some ⟨b,0,none⟩) a w' K) (by omega) ⟨by omega,by omega,by omega,by omega⟩ hx hxf hS fun o k14 w9 hM9 f9 hC14 hO h14 hne hu=>?_
  exact Xsd hM9 (by omega) ⟨by omega,by omega,by omega,by omega⟩ (hS w9 f9) n8 (hC11b.frP f9 n11) n11 hx hxf hor hol hoc (by omega) hlat hC14 (OB.mono hO nb) hu fun w' f=>h w' (f07.then f)
end
end Go.Sh
end
