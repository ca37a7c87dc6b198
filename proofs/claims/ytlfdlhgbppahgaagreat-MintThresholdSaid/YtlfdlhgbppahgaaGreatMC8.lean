/- A part of a proof of a given law of this program: lemmas, printed forms of its functions, contracts. It has no conditions of its own. -/
import Derived.Lib.SlBytesConst
import Derived.Test.YtlfdlhgbppahgaaGreatMC7
import Derived.Test.YtlfdlhgbppahgaaGreatMC4

set_option maxHeartbeats 16000000
section
namespace Go.Sh
open Go Go.Fw Go.Proofs
set_option maxRecDepth 100000
set_option linter.unusedVariables false
theorem XtR {ks:List KE} {pl:MP} {act:Bool} {x y:VI} (h1:x.f.h.to=y.f.h.to) (h2:x.f.h.fr=y.f.h.fr) (h3:x.f.tok=y.f.tok) (h4:x.cl=y.cl) (h5:x.rd=y.rd) (h6:x.now=y.now):XQ ks pl act x=XQ ks pl act y:=by
  unfold XQ Yq Z0 QL UN Xdx
  rw [h1,h2,h3,h4,h5,h6]
theorem XsC {to fr id tok:List UInt8} (h:rtE to fr id tok=0):(rtL to fr id tok).length≤5000∧to.length≤20∧fr.length≤20∧id.length≤20∧1≤tok.length∧tok.length≤4096:=by
  have h1:¬ (20<to.length∨20<fr.length∨20<id.length):=fun hh=>by unfold rtE at h; rw [if_pos hh] at h; omega
  have h2:¬ (tok.length<1∨4096<tok.length):=fun hh=>by unfold rtE at h; rw [if_neg h1,if_pos hh] at h; omega
  refine ⟨?_,by omega,by omega,by omega,by omega,by omega⟩
  unfold rtL
  rw [if_pos h,List.length_append,Xcg (by omega) (by rw [W9]; omega),W9]
  omega
theorem Xv1 (ks:List KE) (li:Nat) (x:VI):(Yq ks li x).bs.length≤5000:=by
  unfold Yq
  split
  · show 0≤5000; omega
  · split
    · show 0≤5000; omega
    · split
      · show 0≤5000; omega
      · split
        · show 0≤5000; omega
        · rename_i h
          exact (XsC (by omega)).1
theorem Xv2 (ks:List KE) (pl:MP) (act:Bool) (x:VI):(XQ ks pl act x).bs.length≤5000:=by
  unfold XQ
  have:=Xv1 ks pl.li x
  split
  · split
    · exact this
    · show 0≤5000; omega
  · split
    · show 0≤5000; omega
    · split
      · show 0≤5000; omega
      · split
        · show 0≤5000; omega
        · exact this
structure Cnt (x:MC) (X X':MX):Prop where
  n:X'.now=if x.op=0 then X.now+1 else if x.op=1 then 0 else X.now
  l:X'.last=if x.op=0 then X.last else if x.op=1 then X.now else X.last
  s:X'.c0+X'.c1+X'.c2=X.c0+X.c1+X.c2+if x.op=0 then 1 else 0
structure Two (w0 w:World) (b:Nat) (X:MX) (br:Nat) (p:Option Addr) (es:List RE) (N:Int) (lo c r:Nat) (q:Option Addr) (rs:List RR) (lo2:Nat):Prop where
  M:MintAt w b X br p es N lo
  R:RefMt w c X r q rs lo2
  A:Apart br p es r q rs
  ko:Vg es rs
  m:es.map RE.ke=rs.map RR.ke
  x1:Xbg r q rs b
  x2:offR br p es c
  x3:b≠c
  f:Fr [] w0 w
  b0:w0.heap.size≤b
  c0:w0.heap.size≤c
  g0:w0.heap.size≤br
  r0:w0.heap.size≤r
  l0:w0.heap.size≤lo
  m0:w0.heap.size≤lo2
def TT (b br:Nat) (p:Option Addr) (es:List RE) (c r:Nat) (q:Option Addr) (z:Nat):Prop:=z=b∨z=c∨z∈br::Xb p∨z∈r::Xb q∨inR es z
section
variable {w0 w:World} {b br lo c r lo2:Nat} {X:MX} {p q:Option Addr} {es:List RE} {rs:List RR} {N:Int} {K:VWP} {x:MC}
theorem Two.low (h:Two w0 w b X br p es N lo c r q rs lo2) {z:Nat} (hz:TT b br p es c r q z):w0.heap.size≤z:=by
  rcases hz with rfl | rfl | hz | hz | ⟨e,he,h1,h2⟩
  · exact h.b0
  · exact h.c0
  · rcases List.mem_cons.1 hz with rfl | hz
    · exact h.g0
    · have:=(h.M.r.arr z hz).1; have:=h.l0; omega
  · rcases List.mem_cons.1 hz with rfl | hz
    · exact h.r0
    · have:=(h.R.rf.arr z hz).1; have:=h.m0; omega
  · have:=(h.M.r.ent e he).2.1; have:=h.l0; omega
theorem Two.lt (h:Two w0 w b X br p es N lo c r q rs lo2) {z:Nat} (hz:TT b br p es c r q z):z<w.heap.size:=by
  rcases hz with rfl | rfl | hz | hz | ⟨e,he,h1,h2⟩
  · exact h.M.lt
  · exact h.R.lt
  · exact h.M.r.lt z hz
  · exact h.R.rf.lt z hz
  · have:=(h.M.r.ent e he).1.lh; omega
theorem Two.sq (h:Two w0 w b X br p es N lo c r q rs lo2):∀ e∈rs,e.sq≤127:=by
  intro e he
  have:e.ke∈es.map RE.ke:=by rw [h.m]; exact List.mem_map_of_mem he
  obtain ⟨d,hd,hde⟩:=List.mem_map.1 this
  have h1:=(h.M.r.ent d hd).2.2
  have:d.ke.sq=e.ke.sq:=by rw [hde]
  have e1:d.sq=e.sq:=this
  omega
theorem Two.news (h:Two w0 w b X br p es N lo c r q rs lo2) {w':World} {L:List Nat} (f:Fr L w w') (hL:∀ z∈L,TT b br p es c r q z):Fr [] w0 w':=h.f.trans f fun z hz=>.inr (h.low (hL z hz))
theorem Two.fr0 (h:Two w0 w b X br p es N lo c r q rs lo2) {w':World} (f:Fr [] w w'):Two w0 w' b X br p es N lo c r q rs lo2:=⟨h.M.fr0 f,h.R.fr0 f,h.A,h.ko,h.m,h.x1,h.x2,h.x3,h.f.then f,h.b0,h.c0,h.g0,h.r0,h.l0,h.m0⟩
theorem Two.mono {N':Int} (h:Two w0 w b X br p es N lo c r q rs lo2) (hN:N≤N'):Two w0 w b X br p es N' lo c r q rs lo2:=⟨h.M.mono hN,h.R,h.A,h.ko,h.m,h.x1,h.x2,h.x3,h.f,h.b0,h.c0,h.g0,h.r0,h.l0,h.m0⟩
theorem Two.refOff (h:Two w0 w b X br p es N lo c r q rs lo2) {z:Nat} (hz:z=b∨inR es z):Xbg r q rs z∧z≠c:=by
  rcases hz with rfl | hz
  · exact ⟨h.x1,h.x3⟩
  · refine ⟨Xsr h.A h.ko hz,fun hh=>?_⟩
    obtain ⟨e,he,h1,h2⟩:=hz
    have:=h.x2.2 e he; omega
theorem CAt.ldAt2 {t:TypeId} {k o:Nat} {cs ds:List Value} (h:CAt w k cs) (hl:o+ds.length≤cs.length) (hd:∀ j v,ds[j]?=some v→cs[o+j]?=some v) (ht:res Tryz.prog (isAgg t)=some true) (hs:res Tryz.prog (sizeOf t)=some ds.length):Ld Tryz.prog t (.pointer (some ((⟨k,0,none⟩:Addr).add o))) w (.agg ⟨ds⟩):=by
  obtain ⟨g,hB,hv⟩:=h
  rw [Xh,Nat.zero_add]
  exact LdA (m:=ds.length) ht hs hB (o:=o) hl ds rfl fun j v hj=>hv (o+j) v (hd j v hj)
theorem MC.ldF {k:Nat} (h:CAt w k x.v):Ld Tryz.prog Z4 (.pointer (some ((⟨k,0,none⟩:Addr).add 8))) w x.f.a:=
  h.ldAt2 (ds:=x.f.v) (by show 8+6≤15; omega) (fun j v hj=>by
    match j with
    | 0=>exact hj
    | 1=>exact hj
    | 2=>exact hj
    | 3=>exact hj
    | 4=>exact hj
    | 5=>exact hj
    | j+6=>cases hj) (by kernel_rfl) (by kernel_rfl)
theorem MC.ldP {k:Nat} (h:CAt w k x.v):Ld Tryz.prog Jz (.pointer (some ((⟨k,0,none⟩:Addr).add 2))) w x.pl.a:=
  h.ldAt2 (ds:=x.pl.v) (by show 2+4≤15; omega) (fun j v hj=>by
    match j with
    | 0=>exact hj
    | 1=>exact hj
    | 2=>exact hj
    | 3=>exact hj
    | j+4=>cases hj) (by kernel_rfl) (by kernel_rfl)
theorem Two.rings (h:Two w0 w b X br p es N lo c r q rs lo2) {w':World} {p' q':Option Addr} {es':List RE} {rs':List RR} (f:Fr ((br::Xb p)++(r::Xb q)) w w') (hR:RingAt w' br p' es' N lo) (hS:RefAt w' r q' rs' lo2) (hA:Apart br p' es' r q' rs')
    (hp:∀ k∈Xb p',k∈Xb p∨w.heap.size≤k) (hq:∀ k∈Xb q',k∈Xb q∨w.heap.size≤k) (he:∀ e∈es',e∈es∨w.heap.size≤e.lo) (hr:∀ e∈rs',e∈rs∨∀ k∈Xb e.kp,w.heap.size≤k) (hko:Vg es rs→Vg es' rs') (hm:es'.map RE.ke=rs'.map RR.ke):Two w0 w' b X br p' es' N lo c r q' rs' lo2:=by
  have hbl:=h.M.lt; have hcl:=h.R.lt
  have hb:b∉(br::Xb p)++(r::Xb q):=fun hm=>by
    rcases List.mem_append.1 hm with hm | hm
    · exact h.M.a.1 hm
    · exact h.x1.1 hm
  have hc:c∉(br::Xb p)++(r::Xb q):=fun hm=>by
    rcases List.mem_append.1 hm with hm | hm
    · exact h.x2.1 hm
    · exact h.R.a.1 hm
  refine ⟨⟨h.M.c.fr f hb,hR,Wi h.M.a hbl hp he,h.M.o⟩,⟨h.R.c.fr f hc,hS,XaI h.R.a hcl hq hr,h.R.o⟩,hA,hko h.ko,hm,XaI h.x1 hbl hq hr,Wi h.x2 hcl hp he,h.x3,h.news f fun z hz=>?_,h.b0,h.c0,h.g0,h.r0,h.l0,h.m0⟩
  rcases List.mem_append.1 hz with hz | hz
  · exact .inr (.inr (.inl hz))
  · exact .inr (.inr (.inr (.inl hz)))
theorem Two.entKeep (h:Two w0 w b X br p es N lo c r q rs lo2) {w':World} (f:Fr ((br::Xb p)++(r::Xb q)) w w') {e:RE} (he:e∈es):EntAt w' e N:=
  (h.M.r.ent e he).1.fr f fun z hz=>by
    rcases List.mem_append.1 hz with hz | hz
    · exact h.M.r.sep z hz e he
    · exact (h.A.2 z hz).2 e he
theorem Xyp (h:Two w0 w b X br p es N lo c r q rs lo2) (hN:1≤N∧N<10000000) (hx:MC.ok w0 x) (hf:x.few) (hn:X.now<1000000∧X.c0<1000000∧X.c1<1000000∧X.c2<1000000)
    (hk:∀ w' X' p' es' q' rs' L,Fr L w w'→(∀ z∈L,TT b br p es c r q z)→Two w0 w' b X' br p' es' (N+2) lo c r q' rs' lo2→(∀ k∈Xb p',k∈Xb p∨w.heap.size≤k)→(∀ k∈Xb q',k∈Xb q∨w.heap.size≤k)→(∀ e∈es',e∈es∨w.heap.size≤e.lo)→(∀ e∈es,EntAt w' e (N+2))→Cnt x X X'→K (.bool true) w') :
    Xa Tryz.prog XsR #[.pointer (some ⟨b,0,none⟩),.pointer (some ⟨c,0,none⟩),.agg ⟨x.v⟩] w K:=by
  apply Xn9
  unfold Xp5
  refine Zk (t:=T_law21_Call) x.v fun w1 f1 hC1 s1=>?_
  obtain ⟨k5,hk5⟩:∃ k,k=w.heap.size:=⟨_,rfl⟩
  rw [← hk5] at hC1 ⊢
  have hbl:=h.M.lt; have hcl:=h.R.lt
  have h1:=h.fr0 f1
  refine ⟨_,hC1.get (by kernel_rfl) (j:=0) rfl,Xu (fun hop=>?_) fun hop0=>Xu (fun hop=>?_) fun hop1=>Xu (fun hop=>?_) fun hop2=>Xu (fun hop=>?_) fun hop3=>Xu (fun hop=>?_) fun hop4=>?_⟩
  ·
    have hx0:=hx.1
    have rlt:∀ {q1:Option Addr} {xs:List UInt8},Row w0 q1 (xs.map vb)→0<xs.length→∀ z∈Xb q1,z<w0.heap.size:=fun hR=>XaG hR (Nat.le_refl _)
    refine ⟨fun w'=>CAt w' k5 x.v,Drw.intro fun w2 f2 s2=>?_⟩
    have hC2:=hC1.fr0 f2
    refine ⟨_,_,_,⟨hC2,fun w' hw=>hw.get (by kernel_rfl) (j:=6) rfl⟩,_,_,_,_,_,_,_,_,_,_,_,_,_,_,⟨hC2,fun w' hw=>MC.ldF hw⟩,_,⟨hC2,fun w' hw=>hw.get (by kernel_rfl) (j:=14) rfl⟩,_,_,_,⟨hC2,fun w' hw=>hw.get (by kernel_rfl) (j:=7) rfl⟩,
      _,_,_,⟨hC2,fun w' hw=>hw.get (by kernel_rfl) (j:=6) rfl⟩,_,_,_,_,_,_,_,_,_,_,_,_,_,_,⟨hC2,fun w' hw=>MC.ldF hw⟩,_,⟨hC2,fun w' hw=>hw.get (by kernel_rfl) (j:=14) rfl⟩,_,_,_,⟨hC2,fun w' hw=>hw.get (by kernel_rfl) (j:=7) rfl⟩,?_⟩
    have hl1:=hf.l1; have hl2:=hf.l2; have hl3:=hf.l3; have hl4:=hf.l4; have hl5:=hf.l5; have hl6:=hf.l6
    have f02:=f1.then f2
    have h2:=h.fr0 f02
    have hx2:=hx0.fr0 h2.f
    refine UM hx2.r1 rfl (by show x.cl.length≤_; omega) fun qa da w3 f3 hOa=>⟨_,_,_,rfl,.inr (hC2.fr0 f3),?_⟩
    have h3:=h2.fr0 f3
    have hx3:=hx0.fr0 h3.f
    refine UM hx3.r2 rfl (by show x.rd.length≤_; omega) fun qb db w4 f4 hOb=>⟨_,_,_,rfl,.inr ((hC2.fr0 f3).fr0 f4),?_⟩
    have h4:=h3.fr0 f4
    have hx4:=hx0.fr0 h4.f
    have hC4:=(hC2.fr0 f3).fr0 f4
    have hOa4:=hOa.fr0 f4
    have n02:=f02.size; have n3:=f3.size; have n4:=f4.size; have n1:=f1.size; have n2:=f2.size
    obtain ⟨V,hV⟩:∃ V:VI,V=⟨x.f,qa,da,x.cl,qb,db,x.rd,x.now⟩:=⟨_,rfl⟩
    have hVok:VI.ok w4 V:=by rw [hV]; exact ⟨hx4.f,hOa4.row,hOa4.cap,hOb.row,hOb.cap,hx4.n⟩
    have hTT:∀ z,(z=b∨inR es z)→TT b br p es c r q z:=fun z hz=>by
      rcases hz with hz | hz
      · exact .inl hz
      · exact .inr (.inr (.inr (.inr hz)))
    have old:∀ {q1:Option Addr} {xs:List UInt8},Row w0 q1 (xs.map vb)→0<xs.length→∀ z∈Xb q1,¬ (z=b∨inR es z):=fun hR h0 z hz hh=>by
      have:=rlt hR h0 z hz; have:=h.low (hTT z hh); omega
    have hVoff:V.off fun z=>z=b∨inR es z:=by
      rw [hV]
      refine ⟨old hx0.f.h.r1,old hx0.f.h.r2,old hx0.f.r3,old hx0.f.r4,fun _ z hz hh=>?_,fun _ z hz hh=>?_⟩
      · have:=hOa.2.2 z hz; have:=h2.lt (hTT z hh); omega
      · have:=hOb.2.2 z hz; have:=h3.lt (hTT z hh); omega
    have hVfew:V.few:=by rw [hV]; exact ⟨by show x.cl.length≤1000; omega,by show x.rd.length≤1000; omega,by show x.f.tok.length≤5000; omega,by show x.f.h.to.length≤1000; omega,by show x.f.h.fr.length≤1000; omega,by show x.f.st.length≤1000; omega⟩
    have tk:=W6 (K:=fun v w5=>∃ (n22:Int) (b22:Bool) (n22_1:Int) (p22:Option Addr) (l22 c22:Nat) (n22_2:Int),v=.agg #[.int .i64 n22,.bool b22,.int .i64 n22_1,.slice p22 l22 c22,.int .i64 n22_2]∧∃ (o:OC) (L:List Nat),o.u.kd=n22∧o.u.ch=b22∧o.u.er=n22_1∧o.p=p22∧o.u.bs.length=l22∧o.c=c22∧o.u.us=n22_2∧(∀ z∈L,z=b∨inR es z)∧Fr L w4 w5∧MintAt w5 b (X.took o.u) br p es (N+2) lo∧OC.own w5 o w4.heap.size∧o.u=XiX (es.map RE.ke) X V)
      h4.M hN.2 hVok hVoff hVfew hn fun o L w' hL f hM hO hu=>⟨_,_,_,_,_,_,_,rfl,o,L,rfl,rfl,rfl,rfl,rfl,rfl,rfl,hL,f,hM,hO,hu⟩
    rw [hV] at tk
    refine J2 ?_ tk
    rintro v w5 ⟨n22,b22,n22_1,p22,l22,c22,n22_2,rfl,o,L,rfl,rfl,rfl,rfl,rfl,rfl,rfl,hL,f5,hM5,hO5,hu5⟩
    have hLlt:∀ z∈L,z<w.heap.size:=fun z hz=>h.lt (hTT z (hL z hz))
    have hC5:CAt w5 k5 x.v:=hC4.fr f5 fun hm=>by have:=hLlt _ hm; omega
    refine ⟨_,_,_,_,_,_,_,rfl,.inr hC5,?_⟩
    have fN5:Fr [] w0 w5:=h4.news f5 fun z hz=>hTT z (hL z hz)
    have hx5:=hx0.fr0 fN5
    have hR5:RefMt w5 c X r q rs lo2:=h4.R.fr f5 fun z hz=>h.refOff (hL z hz)
    have n5:=f5.size
    refine XvY hx5.f (by show x.f.h.to.length≤_; omega) (by show x.f.h.fr.length≤_; omega) (by show x.f.tok.length≤_; omega) (by show x.f.st.length≤_; omega) fun g w6 f6 hG6 hgs=>⟨_,_,_,_,_,_,_,_,_,_,_,_,_,_,rfl,.inr (hC5.fr0 f6),?_⟩
    have hR6:=hR5.fr0 f6
    have fN6:=fN5.then f6
    have hx6:=hx0.fr0 fN6
    obtain ⟨U,hU⟩:∃ U:VI,U=⟨g,x.cp,x.cc,x.cl,x.rp,x.rc,x.rd,x.now⟩:=⟨_,rfl⟩
    have hUok:VI.ok w6 U:=by rw [hU]; exact ⟨hG6.ok,hx6.r1,hx6.h1,hx6.r2,hx6.h2,hx6.n⟩
    have oldc:∀ {q1:Option Addr} {xs:List UInt8},Row w0 q1 (xs.map vb)→0<xs.length→∀ z∈Xb q1,¬ z=c:=fun hR h0 z hz hh=>by
      have:=rlt hR h0 z hz; have:=h.c0; omega
    have hUoff:U.off fun z=>z=c:=by
      rw [hU]
      refine ⟨fun _ z hz hh=>?_,fun _ z hz hh=>?_,fun _ z hz hh=>?_,fun _ z hz hh=>?_,oldc hx0.r1,oldc hx0.r2⟩
      · have:=hG6.h.o1.2.2 z hz; omega
      · have:=hG6.h.o2.2.2 z hz; omega
      · have:=hG6.o3.2.2 z hz; omega
      · have:=hG6.o4.2.2 z hz; omega
    have hUfew:U.few:=by
      rw [hU]
      exact ⟨by show x.cl.length≤1000; omega,by show x.rd.length≤1000; omega,by show g.tok.length≤5000; rw [hgs.tok]; omega,by show g.h.to.length≤1000; rw [hgs.to]; omega,by show g.h.fr.length≤1000; rw [hgs.fr]; omega,by show g.st.length≤1000; rw [hgs.st]; omega⟩
    have rk:=Xr0 (K:=fun v w7=>∃ (n33:Int) (b33:Bool) (n33_1:Int) (p33:Option Addr) (l33 c33:Nat) (n33_2:Int),v=.agg #[.int .i64 n33,.bool b33,.int .i64 n33_1,.slice p33 l33 c33,.int .i64 n33_2]∧∃ (s:OC),s.u.kd=n33∧s.u.ch=b33∧s.u.er=n33_1∧s.p=p33∧s.u.bs.length=l33∧s.c=c33∧s.u.us=n33_2∧Fr [c] w6 w7∧RefMt w7 c (X.took s.u) r q rs lo2∧OC.own w7 s w6.heap.size∧s.u=XiX (rs.map RR.ke) X U)
      hR6 h.sq hUok hUoff hUfew hn fun o w' f hM hO hu=>⟨_,_,_,_,_,_,_,rfl,o,rfl,rfl,rfl,rfl,rfl,rfl,rfl,f,hM,hO,hu⟩
    rw [hU] at rk
    refine J2 ?_ rk
    rintro v w7 ⟨n33,b33,n33_1,p33,l33,c33,n33_2,rfl,s,rfl,rfl,rfl,rfl,rfl,rfl,rfl,f7,hR7,hO7,hu7⟩
    refine ⟨_,_,_,_,_,_,_,rfl,?_⟩
    have hus:o.u=s.u:=by
      rw [hu5,hu7,h.m]
      unfold XiX
      exact XtR hgs.to.symm hgs.fr.symm hgs.tok.symm rfl rfl rfl
    have n6:=f6.size; have n7:=f7.size
    have hO7':OC.own w7 o w4.heap.size:=OB.fr (OB.fr0 hO5 f6) f7 fun z hz hm=>by
      have:z=c:=by simpa using hm
      have:=hO5.2.2 z hz
      omega
    have hlen:o.u.bs.length≤1000000:=by
      rw [hu5]; unfold XiX
      exact Nat.le_trans (Xv2 _ _ _ _) (by omega)
    refine Xv0 hO7' hO7 hus hlen fun w8 f8=>⟨_,rfl,?_⟩
    have hM7:MintAt w7 b (X.took o.u) br p es (N+2) lo:=(hM5.fr0 f6).fr f7 fun z hz=>by
      have:z=c:=by simpa using hz
      rw [this]; exact ⟨h.x2,h.x3.symm⟩
    have hM8:=hM7.fr0 f8
    have hkd:o.u.kd=0∨o.u.kd=1∨o.u.kd=2:=by rw [hu5]; exact Xmb _ _ _ _
    have fL:Fr (c::L) w w8:=(((((f02.then f3).then f4).after f5).mono (fun z hz=>List.mem_cons_of_mem _ hz)).trans (f6.mono (by simp)) (fun z hz=>.inl hz)).trans f7 (fun z hz=>.inl (by simp at hz; simp [hz])) |>.then f8
    have hLL:∀ z∈c::L,TT b br p es c r q z:=fun z hz=>by
      rcases List.mem_cons.1 hz with rfl | hz
      · exact .inr (.inl rfl)
      · exact hTT z (hL z hz)
    refine hk w8 (X.took o.u) p es q rs (c::L) fL hLL ⟨hM8,by rw [hus]; exact hR7.fr0 f8,h.A,h.ko,h.m,h.x1,h.x2,h.x3,h.news fL hLL,h.b0,h.c0,h.g0,h.r0,h.l0,h.m0⟩ (fun k hk=>.inl hk) (fun k hk=>.inl hk) (fun e he=>.inl he) (fun e he=>(hM8.r.ent e he).1) ⟨?_,?_,?_⟩
    · rw [if_pos hop]; rfl
    · rw [if_pos hop]; rfl
    · rw [if_pos hop]
      show X.c0+(if o.u.kd=0 then 1 else 0)+(X.c1+(if o.u.kd=1 then 1 else 0))+(X.c2+(if o.u.kd=2 then 1 else 0))=_
      rcases hkd with hh | hh | hh <;> rw [hh] <;> simp <;> omega
  ·
    refine ⟨_,rfl,Xdw h1.M fun w2 f2 hM2=>⟨rfl,?_⟩⟩
    have hR2:RefMt w2 c X r q rs lo2:=h1.R.fr f2 (Zw ⟨h.x1,h.x3⟩)
    refine XrY hR2 fun w3 f3 hR3=>⟨rfl,?_⟩
    have hM3:=hM2.fr f3 (Zw ⟨h.x2,h.x3.symm⟩)
    have fL:Fr [b,c] w w3:=((f1.mono (by simp)).trans f2 fun z hz=>.inl (by simp at hz; simp [hz])).trans f3 fun z hz=>.inl (by simp at hz; simp [hz])
    have hLL:∀ z∈[b,c],TT b br p es c r q z:=fun z hz=>by
      simp at hz
      rcases hz with hz | hz
      · exact .inl hz
      · exact .inr (.inl hz)
    have hM3':=hM3.mono (show N≤N+2 by omega)
    refine hk w3 X.tick p es q rs [b,c] fL hLL ⟨hM3',hR3,h.A,h.ko,h.m,h.x1,h.x2,h.x3,h.news fL hLL,h.b0,h.c0,h.g0,h.r0,h.l0,h.m0⟩ (fun k hk=>.inl hk) (fun k hk=>.inl hk) (fun e he=>.inl he) (fun e he=>(hM3'.r.ent e he).1) ⟨?_,?_,?_⟩
    · rw [if_neg hop0,if_pos hop]; rfl
    · rw [if_neg hop0,if_pos hop]; rfl
    · rw [if_neg hop0]; rfl
  ·
    refine ⟨fun w'=>CAt w' k5 x.v,Drw.intro fun w2 f2 s2=>?_⟩
    have hC2:=hC1.fr0 f2
    have h2:=h1.fr0 f2
    refine ⟨_,_,_,_,⟨hC2,fun w' hw=>MC.ldP hw⟩,_,_,_,_,⟨hC2,fun w' hw=>MC.ldP hw⟩,Xm6 (q:=x.pl) h2.M fun w3 f3 hM3=>⟨_,rfl,.inr (hC2.fr f3 (by simp; omega)),?_⟩⟩
    refine XkV (q:=x.pl) fun w4 f4=>⟨_,_,_,_,rfl,?_⟩
    have hR4:RefMt w4 c X r q rs lo2:=(h2.R.fr f3 (Zw ⟨h.x1,h.x3⟩)).fr0 f4
    refine XtQ (g:=x.pl) hR4 fun w5 f5 hR5=>⟨_,rfl,?_⟩
    have hM5:=((hM3.fr0 f4).fr f5 (Zw ⟨h.x2,h.x3.symm⟩)).mono (show N≤N+2 by omega)
    rw [beq_self_eq_true]
    have fL:Fr [b,c] w w5:=(((f1.then f2).mono (by simp)).trans f3 fun z hz=>.inl (by simp at hz; simp [hz])).trans ((f4.mono (by simp)).trans f5 fun z hz=>.inl hz) fun z hz=>.inl (by simp at hz; simp [hz])
    have hLL:∀ z∈[b,c],TT b br p es c r q z:=fun z hz=>by
      simp at hz
      rcases hz with hz | hz
      · exact .inl hz
      · exact .inr (.inl hz)
    have hS:∀ Y:MX,(Y.set x.pl).now=Y.now∧(Y.set x.pl).last=Y.last∧(Y.set x.pl).c0=Y.c0∧(Y.set x.pl).c1=Y.c1∧(Y.set x.pl).c2=Y.c2:=fun Y=>by
      unfold MX.set; split <;> exact ⟨rfl,rfl,rfl,rfl,rfl⟩
    obtain ⟨s1,s2,s3,s4,s5⟩:=hS X
    refine hk w5 (X.set x.pl) p es q rs [b,c] fL hLL ⟨hM5,hR5,h.A,h.ko,h.m,h.x1,h.x2,h.x3,h.news fL hLL,h.b0,h.c0,h.g0,h.r0,h.l0,h.m0⟩ (fun k hk=>.inl hk) (fun k hk=>.inl hk) (fun e he=>.inl he) (fun e he=>(hM5.r.ent e he).1) ⟨?_,?_,?_⟩
    · rw [if_neg hop0,if_neg hop1,s1]
    · rw [if_neg hop0,if_neg hop1,s2]
    · rw [if_neg hop0,s3,s4,s5]; rfl
  ·
    refine ⟨fun w'=>Fr [] w1 w',Drw.intro fun w2 f2 s2=>?_⟩
    have h2:=h1.fr0 f2
    refine ⟨_,rfl,_,⟨f2,fun w' f=>(h1.fr0 f).R.c.get (by kernel_rfl) (j:=4) rfl⟩,_,⟨f2,fun w' f=>(hC1.fr0 f).get (by kernel_rfl) (j:=1) rfl⟩,_,_,_,⟨f2,fun w' f=>(hC1.fr0 f).get (by kernel_rfl) (j:=7) rfl⟩,Ua h2.M ⟨_,rfl,.inl rfl,?_⟩⟩
    have hx0:=hx.1
    have hxw:=hx0.fr0 h2.f
    refine Xss (x:=⟨0,x.sq,x.rp,x.rc,x.rd⟩) h2.M.r hN.1 h2.R.rf h2.A ⟨hxw.r2,hxw.h2⟩ (fun w' f=>(hx0.fr0 (h2.news f fun z hz=>.inr (.inr (.inl hz)))).r2) hf.l2 fun w3 p3 es3 q3 rs3 bb f3 hR3 hS3 hA3 hp hq he hr hko hm hmr hbb=>⟨_,rfl,?_⟩
    rw [hbb h.m]
    have f02:=f1.then f2
    have T3:=(h2.rings f3 hR3 hS3 hA3 hp hq he hr hko (by rw [hm,hmr,h.m])).mono (show N≤N+2 by omega)
    have n02:=f02.size
    refine hk w3 X p3 es3 q3 rs3 _ (f02.after f3) (fun z hz=>?_) T3 (fun k hk=>?_) (fun k hk=>?_) (fun e hm=>?_) (fun e hm=>(h2.entKeep f3 hm).mono (by omega)) ⟨?_,?_,?_⟩
    · rcases List.mem_append.1 hz with hz | hz
      · exact .inr (.inr (.inl hz))
      · exact .inr (.inr (.inr (.inl hz)))
    · rcases hp k hk with hh | hh
      · exact .inl hh
      · right; omega
    · rcases hq k hk with hh | hh
      · exact .inl hh
      · right; omega
    · rcases he e hm with hh | hh
      · exact .inl hh
      · right; omega
    · rw [if_neg hop0,if_neg hop1]
    · rw [if_neg hop0,if_neg hop1]
    · rw [if_neg hop0]; rfl
  ·
    refine ⟨fun w'=>Fr [] w1 w',Drw.intro fun w2 f2 s2=>?_⟩
    have h2:=h1.fr0 f2
    refine ⟨_,rfl,_,⟨f2,fun w' f=>(h1.fr0 f).R.c.get (by kernel_rfl) (j:=4) rfl⟩,_,⟨f2,fun w' f=>(hC1.fr0 f).get (by kernel_rfl) (j:=1) rfl⟩,Ua h2.M ⟨_,rfl,.inl rfl,?_⟩⟩
    refine Xss (x:=⟨1,x.sq,none,0,[]⟩) h2.M.r hN.1 h2.R.rf h2.A ⟨Row.nil _ _,Nat.le_refl _⟩ (fun w' f=>Row.nil _ _) (by show 0≤100; omega) fun w3 p3 es3 q3 rs3 bb f3 hR3 hS3 hA3 hp hq he hr hko hm hmr hbb=>⟨_,rfl,?_⟩
    rw [hbb h.m]
    have f02:=f1.then f2
    have T3:=(h2.rings f3 hR3 hS3 hA3 hp hq he hr hko (by rw [hm,hmr,h.m])).mono (show N≤N+2 by omega)
    have n02:=f02.size
    refine hk w3 X p3 es3 q3 rs3 _ (f02.after f3) (fun z hz=>?_) T3 (fun k hk=>?_) (fun k hk=>?_) (fun e hm=>?_) (fun e hm=>(h2.entKeep f3 hm).mono (by omega)) ⟨?_,?_,?_⟩
    · rcases List.mem_append.1 hz with hz | hz
      · exact .inr (.inr (.inl hz))
      · exact .inr (.inr (.inr (.inl hz)))
    · rcases hp k hk with hh | hh
      · exact .inl hh
      · right; omega
    · rcases hq k hk with hh | hh
      · exact .inl hh
      · right; omega
    · rcases he e hm with hh | hh
      · exact .inl hh
      · right; omega
    · rw [if_neg hop0,if_neg hop1]
    · rw [if_neg hop0,if_neg hop1]
    · rw [if_neg hop0]; rfl
  · have h1':=h1.mono (show N≤N+2 by omega)
    refine hk w1 X p es q rs [] f1 (by simp) h1' (fun k hk=>.inl hk) (fun k hk=>.inl hk) (fun e he=>.inl he) (fun e he=>(h1'.M.r.ent e he).1) ⟨?_,?_,?_⟩
    · rw [if_neg hop0,if_neg hop1]
    · rw [if_neg hop0,if_neg hop1]
    · rw [if_neg hop0]; rfl
end
end Go.Sh
end

section
namespace Go.Sh
open Go Go.Fw Go.Proofs
set_option maxRecDepth 100000
set_option linter.unusedVariables false
section
variable {w0 w:World} {b br lo c r lo2:Nat} {X:MX} {p q:Option Addr} {es:List RE} {rs:List RR} {N:Int} {K:VWP}
theorem Two.new {w2 w3 w4:World} {g:MP} {l1 l2:Nat} (hM:MintAt w2 b (mx0 g) br none [] 1 l1) (f:Fr [] w0 w2) (h1:w0.heap.size≤br) (h2:w0.heap.size≤l1) (h3:w0.heap.size≤b) (f3:Fr [] w2 w3) (f4:Fr [] w3 w4) (hR:RefMt w4 c (mx0 g) r none [] l2) (h4:w3.heap.size≤r) (h5:w3.heap.size≤l2) (h6:w3.heap.size≤c) :
    Two w0 w4 b (mx0 g) br none [] 1 l1 c r none [] l2:=by
  have hb:=hM.lt
  have hbr:=hM.r.lt br (List.mem_cons_self ..)
  have n3:=f3.size; have n2:=f.size
  refine ⟨hM.fr0 (f3.then f4),hR,⟨fun k hk=>⟨fun hm=>?_,by simp⟩,fun k hk=>⟨fun hm=>?_,by simp⟩⟩,fun z hz=>(by obtain ⟨e,he,_⟩:=hz; cases he),rfl,⟨fun hm=>?_,by simp⟩,⟨fun hm=>?_,by simp⟩,by omega,(f.then f3).then f4,h3,by omega,h1,by omega,h2,by omega⟩
  · simp [Xb] at hk hm; omega
  · simp [Xb] at hk hm; omega
  · simp [Xb] at hm; omega
  · simp [Xb] at hm; omega
end
end Go.Sh
end

section
namespace Go.Sh
open Go Go.Fw Go.Proofs
set_option maxRecDepth 100000
set_option linter.unusedVariables false
def aB:List UInt8:=[255,0,0,0,1,0,8,240,103,165,80,42,66,98,181,116,111,107,101,110,4,162,101,186,46,255,77,130,144,88,251,63,15,36,150,186]
section
variable {w:World} {K:VWP}
end
end Go.Sh
end

section
namespace Go.Sh
open Go Go.Fw Go.Proofs
set_option maxRecDepth 100000
set_option linter.unusedVariables false
theorem Xm8 {to r:List UInt8} (h:to.length≤255):Xn (0,UInt8.ofNat to.length::(to++r))=(to,(0,r)):=by
  have e0:(fl (UInt8.ofNat to.length::(to++r)) 0).toNat=to.length:=by
    show (UInt8.ofNat to.length).toNat=_
    rw [UInt8.toNat_ofNat']; omega
  rw [XtJ (by rw [e0]; simp),e0]
  simp
theorem Xv3 {to fr r:List UInt8} (h1:to.length≤255) (h2:fr.length≤255):hdP (hdL to fr++r)=⟨0,255,1,to,fr,r⟩:=by
  have hb:hdL to fr++r=255::0::0::0::1::(UInt8.ofNat to.length::(to++(UInt8.ofNat fr.length::(fr++r)))):=by simp [hdL]
  have hd5:(hdL to fr++r).drop 5=UInt8.ofNat to.length::(to++(UInt8.ofNat fr.length::(fr++r))):=by rw [hb]; rfl
  have hs:=Xm8 (r:=UInt8.ofNat fr.length::(fr++r)) h1
  have hs2:=Xm8 (r:=r) h2
  have f0:(fl (hdL to fr++r) 0).toNat=255:=by rw [hb]; rfl
  have hN:Xl (((hdL to fr++r).drop 1).take 4)=1:=by rw [hb]; rfl
  rw [Xyl (r:=UInt8.ofNat fr.length::(fr++r)) (by rw [hb]; simp) (by rw [f0]; omega) (by rw [hd5,hs]) (by rw [hd5,hs]) (by rw [hs2]),f0,hN,hd5,hs,hs2]
theorem XqL {to fr tok S:List UInt8} (h1:to.length≤20) (h2:fr.length≤20) (h3:1≤tok.length) (hS:S.length=16):stP (rtH to fr tok++S)=⟨0,255,1,to,fr,tok,S⟩:=by
  have hb:rtH to fr tok++S=hdL to fr++(tok++S):=by simp [rtH]
  have hl:(tok++S).length - 16=tok.length:=by rw [List.length_append,hS]; omega
  unfold stP
  rw [hb,Xv3 (by omega) (by omega)]
  show (if (0:Int)≠0 then _ else if (1:Nat)≠1∨Xbi 255≠3 then _ else if 20<to.length∨20<fr.length then _ else if (tok++S).length≤16 then _ else (⟨0,255,1,to,fr,(tok++S).take ((tok++S).length - 16),(tok++S).drop ((tok++S).length - 16)⟩:SU))=_
  rw [if_neg (fun h=>h rfl),if_neg (by decide),if_neg (by omega),if_neg (by rw [List.length_append,hS]; omega),hl]
  simp
theorem Xv4 {H S:List UInt8} (hS:S.length=16):ahd (H++S)=H:=by
  unfold ahd
  rw [List.length_append,hS]
  have:H.length+16 - 16=H.length:=by omega
  rw [this]; simp
theorem Xxp {to fr tok S id:List UInt8} (h1:to.length≤20) (h2:fr.length≤20) (h3:1≤tok.length) (h4:tok.length≤4096) (hi:id.length≤20) (hS:S.length=16) :
    ckE (rtH to fr tok++S) id=if stL id (rtH to fr tok)=S then 0 else 13:=by
  unfold ckE
  have hH:=W9 to fr tok
  rw [XqL h1 h2 h3 hS,Xv4 hS,if_neg (fun h=>h rfl),if_neg (fun h=>h (Xf7 hi (by omega)))]
section
variable {w:World} {K:VWP}
end
end Go.Sh
end

section
namespace Go.Sh
open Go Go.Fw Go.Proofs
set_option maxRecDepth 100000
set_option linter.unusedVariables false
def R20:List UInt8:=[1,2,3,4,5,6,7,8,9,10,11,12,13,14,15,16,17,18,19,20]
def n21:List UInt8:=[9,10,11,12,13,14,15,16,17,18,19,20]
def t21:List UInt8:=[0,0,0,0,0,0,0,110,2,7,8,9,200,1,2,3,4,5,6,7,8]
def c21:List UInt8:=[96,214,214,106,147,162,7,230,64,133,98,246,166,40,127,67,164,156,101,253,245]
def Z1:List KE:=[⟨4,Z16⟩]
def f21:TF:=⟨110,[7,8],XZ R20,none,0,none,0⟩
def T21:List UInt8:=X3 Z1 4 n21 [5] f21
def pl21:MP:=⟨2,false,1,10⟩
theorem Xch:XZ R20=[200,1,2,3,4,5,6,7,8]:=by kernel_rfl
theorem Xwx:VO R20=n21:=by kernel_rfl
theorem Xu8:XK f21=t21:=by kernel_rfl
theorem Xyq:Y9 z16 (Xv (Xv (YC n21) 1) 0)=[96,214,214,106,147,162,7,136,66,130,106,255,110,41,125,64]:=by rw [Xdf]; kernel_rfl
theorem Xyr:Y9 z16 (Xv (Xv (YC n21) 1) 1)=[160,153,99,250,253,104,90,47,5,159,198,177,41,210,140,31]:=by rw [Xdf]; kernel_rfl
theorem Xys:XG z16 n21 t21=c21:=by
  have e:Wt z16 (Xv (YC n21) 1) 21=[96,214,214,106,147,162,7,136,66,130,106,255,110,41,125,64,160,153,99,250,253]:=by
    show (Ue z16 (Xv (YC n21) 1) 2).take 21=_
    show (([]++Y9 z16 (Xv (Xv (YC n21) 1) 0))++Y9 z16 (Xv (Xv (YC n21) 1) 1)).take 21=_
    rw [Xyq,Xyr]; rfl
  unfold XG Vc
  show Vb (Wt z16 (Xv (YC n21) 1) 21) t21=_
  rw [e]; decide
theorem Xyt:¬ (Uz 0x66e94bd4ef8a2c3b884cfa59ca342b2e [4,6] c21=Uz 0x66e94bd4ef8a2c3b884cfa59ca342b2e [4,5] c21):=by decide +kernel
theorem Xgb:XR Z1 4 n21 [5] f21=0:=by decide
theorem XsD:T21=4::(n21++slL z16 n21 t21 [4,5]):=by
  unfold T21 X3
  rw [if_pos Xgb,Xu8]
  rfl
theorem XaK:T21.length=50:=by unfold T21; rw [(XiW Xgb).2,Xu8]; rfl
theorem Xxq:Yh Z1 [5] T21 110=f21.ut 0:=by unfold T21; rw [Xm7 Xgb (by omega) (by decide),if_neg (by decide)]
theorem Xxr:Yh Z1 [5] T21 111=.bad 20:=by unfold T21; rw [Xm7 Xgb (by omega) (by decide),if_pos (by decide)]
theorem Xyu:tk0 T21=4:=by rw [XsD]; rfl
theorem Xy6 (now:Nat):Yh Z1 [6] T21 now=.bad 13:=by
  have hok:okG n21.length [t21,[4,5]]:=by decide
  have hlen:=XaK
  have hT2:=XsD
  have e0:=Xyu
  obtain ⟨T,hT⟩:∃ T,T=T21:=⟨_,rfl⟩
  rw [← hT] at hlen hT2 e0 ⊢
  obtain ⟨S,hS⟩:∃ S,S=slL z16 n21 t21 [4,5]:=⟨_,rfl⟩
  rw [← hS] at hT2
  have hS2:S=c21++Yg z16 n21 c21 [4,5]:=by rw [hS]; unfold slL; rw [if_pos hok,Xys]
  have hSl:S.length=37:=by rw [hS2,List.length_append,Yp]; rfl
  have eN:tkN T=n21:=by rw [hT2]; unfold tkN; rw [List.take_succ_cons,List.drop_succ_cons,List.drop_zero,List.take_left' (by rfl)]
  have eS:tkS T=S:=by rw [hT2]; unfold tkS; rw [List.drop_succ_cons,List.drop_left' (by rfl)]
  have ht:S.take (S.length - 16)=c21:=by rw [hSl,hS2,List.take_left' (by rfl)]
  have hd:S.drop (S.length - 16)=Yg z16 n21 c21 [4,5]:=by rw [hSl,hS2,List.drop_left' (by rfl)]
  have hop:opE z16 n21 S [4,6]=13:=by
    unfold opE
    rw [ht,hd]
    rw [if_pos (by show okG 12 [c21,[4,6]]; decide),if_neg (by rw [hSl]; decide),if_neg fun hh=>?_]
    unfold Yg at hh
    have:=XvU (by rw [Jq,Ze]) (by rw [Jq,Ze]) hh
    rw [Xy0] at this
    exact Xyt this
  have hkey:VN Z1 (4:Nat)=z16:=by rfl
  have eE:Y2 Z1 [6] T=13:=by
    unfold Y2
    rw [if_neg (by rw [hlen]; decide),e0,if_neg (by decide),if_neg (by rw [hlen]; decide),eN,eS]
    rw [hkey,if_pos (by show opE z16 n21 S [4,6]≠0; rw [hop]; decide)]
  unfold Yh
  rw [if_pos (by rw [eE]; decide),eE]
theorem XqM:Y0 T21=false:=by
  unfold Y0
  rw [Xyu,XaK]; decide
def B21:List UInt8:=rtL [9] (XZ R20) [7,8] T21
theorem Xv5:rtE [9] (XZ R20) [7,8] T21=0:=by
  unfold rtE
  rw [Xch,XaK]; decide
theorem Xu9:B21=rtH [9] (XZ R20) T21++stL [7,8] (rtH [9] (XZ R20) T21):=by unfold B21 rtL; rw [if_pos Xv5]
theorem Xyv:(stL [7,8] (rtH [9] (XZ R20) T21)).length=16:=Xcg (by decide) (by rw [W9,Xch,XaK]; decide)
theorem Xy7:stP B21=⟨0,255,1,[9],XZ R20,T21,stL [7,8] (rtH [9] (XZ R20) T21)⟩:=by
  rw [Xu9]; exact XqL (by decide) (by rw [Xch]; decide) (by rw [XaK]; omega) Xyv
theorem Xzm:ckE B21 [7,8]=0:=by
  rw [Xu9,Xxp (by decide) (by rw [Xch]; decide) (by rw [XaK]; omega) (by rw [XaK]; omega) (by decide) Xyv,if_pos rfl]
theorem Xgn {x:VI} (hto:x.f.h.to=[7,8]) (hfr:x.f.h.fr=[9]) : 
    (x.f.tok=[]→XQ [] pl21 true x=Xt 17)∧(x.f.tok=[]→x.rd=R20→x.cl=[5]→x.now=100→XQ Z1 pl21 true x=YZ B21)∧(x.f.tok=[]→x.rd.length=19→XQ Z1 pl21 true x=Xt 21)∧
    (x.f.tok=T21→x.cl=[5]→x.now=110→XQ Z1 pl21 true x=Uo true)∧(x.f.tok=T21→x.cl=[6]→x.now=110→XQ Z1 pl21 true x=Xt 13)∧
    (x.f.tok=T21→x.cl=[5]→x.now=111→x.rd=R20→(XQ Z1 pl21 true x).kd=1):=by
  have bn:Y0 []=true:=rfl
  refine ⟨fun ht=>?_,fun ht hr hc hn=>?_,fun ht hr=>?_,fun ht hc hn=>?_,fun ht hc hn=>?_,fun ht hc hn hr=>?_⟩
  · unfold XQ; rw [ht,if_pos bn,if_pos rfl]; rfl
  · unfold XQ
    rw [ht,if_pos bn,if_pos rfl]
    have e0:QL Z1 pl21.li x=0:=by
      unfold QL Xdx; rw [hto,hr,hc,hn,Xwx]; exact Xgb
    have e1:UN Z1 pl21.li x=T21:=by
      unfold UN Xdx; rw [hto,hr,hc,hn,Xwx]; rfl
    unfold Yq
    rw [if_neg (by decide),if_neg (by rw [hr]; decide),if_neg (fun hh=>hh e0),e1,hto,hfr,hr,if_neg (fun hh=>hh Xv5)]
    rfl
  · unfold XQ
    rw [ht,if_pos bn,if_pos rfl]
    unfold Yq
    rw [if_neg (by decide),if_pos (by rw [hr]; decide)]
  · unfold XQ Z0
    rw [ht,hc,hn,Xxq,if_neg (by rw [XqM]; decide),if_neg (by decide),if_pos (show (f21.ut 0).e=0 from rfl)]
  · unfold XQ Z0
    rw [ht,hc,Xy6,if_neg (by rw [XqM]; decide),if_neg (by decide),if_neg (by decide),if_pos (.inr rfl)]; rfl
  · unfold XQ Z0
    rw [ht,hc,hn,Xxr,if_neg (by rw [XqM]; decide),if_neg (by decide),if_neg (by decide),if_neg (by decide)]
    have hE:XR Z1 (Un Z1) (VO R20) [5] ⟨Zm 111 pl21.li,[7,8],XZ R20,none,0,none,0⟩=0:=by decide
    have e0:QL Z1 pl21.li x=0:=by
      unfold QL Xdx; rw [hto,hr,hc,hn]; exact hE
    have e1:(UN Z1 pl21.li x).length=50:=by
      unfold UN Xdx; rw [hto,hr,hc,hn,(XiW hE).2,JZ]
      show 29+(10+2+(XZ R20).length)=50
      rw [Xch]; rfl
    have e2:rtE [9] (XZ R20) [7,8] (UN Z1 pl21.li x)=0:=by
      unfold rtE; rw [Xch,e1]; decide
    unfold Yq
    rw [if_neg (by decide),if_neg (by rw [hr]; decide),if_neg (fun hh=>hh e0),hto,hfr,hr,if_neg (fun hh=>hh e2)]
    rfl
end Go.Sh
end

section
namespace Go.Sh
open Go Go.Fw Go.Proofs
set_option maxRecDepth 100000
set_option linter.unusedVariables false
def FrP (P:Nat→Prop) (w w':World):Prop:=∃ L,(∀ z∈L,P z)∧Fr L w w'
section
variable {P:Nat→Prop} {w w1 w2 w0:World}
theorem FrP.of0 (f:Fr [] w w1):FrP P w w1:=⟨[],by simp,f⟩
theorem FrP.of {L:List Nat} (f:Fr L w w1) (h:∀ z∈L,P z):FrP P w w1:=⟨L,h,f⟩
theorem FrP.trans (h:FrP P w w1) (k:FrP P w1 w2):FrP P w w2:=by
  obtain ⟨L,h1,h2⟩:=h
  obtain ⟨M,k1,k2⟩:=k
  exact ⟨L++M,fun z hz=>by rcases List.mem_append.1 hz with hz | hz; exact h1 z hz; exact k1 z hz,(h2.mono (fun z hz=>List.mem_append_left _ hz)).trans k2 (fun z hz=>.inl (List.mem_append_right _ hz))⟩
theorem FrP.then (h:FrP P w w1) (k:Fr [] w1 w2):FrP P w w2:=h.trans (.of0 k)
theorem FrP.size (h:FrP P w w1):w.heap.size≤w1.heap.size:=by obtain ⟨L,_,h2⟩:=h; exact h2.size
theorem FrP.news (h:FrP P w w1) (f:Fr [] w0 w) (hP:∀ z,P z→w0.heap.size≤z):Fr [] w0 w1:=by
  obtain ⟨L,h1,h2⟩:=h
  exact f.trans h2 fun z hz=>.inr (hP z (h1 z hz))
theorem CAt.frP {k:Nat} {cs:List Value} (h:CAt w k cs) (f:FrP P w w1) (hk:¬ P k):CAt w1 k cs:=by
  obtain ⟨L,h1,h2⟩:=f
  exact h.fr h2 fun hm=>hk (h1 k hm)
theorem FrP.row {q:Option Addr} {xs:List UInt8} (f:FrP P w w1) (h:Row w q (xs.map vb)) (hk:∀ z∈Xb q,¬ P z):Row w1 q (xs.map vb):=by
  obtain ⟨L,h1,h2⟩:=f
  exact Row.cells_fr h h2 fun z hz hm=>hk z hz (h1 z hm)
end
def MB (b br:Nat) (p:Option Addr) (es:List RE) (z:Nat):Prop:=z=b∨z∈br::Xb p∨inR es z
structure AS (w0 w:World) (b:Nat) (X:MX) (br:Nat) (p:Option Addr) (es:List RE) (N:Int) (lo:Nat) (k6:Nat) (f:RT) (p5:Option Addr) (k7:Nat) (p7:Option Addr) (c7:Nat):Prop where
  M:MintAt w b X br p es N lo
  ks:es.map RE.ke=Z1
  pl:X.pl=pl21
  f0:Fr [] w0 w
  low:∀ z,MB b br p es z→w0.heap.size≤z
  c6:CAt w k6 f.v
  n6:¬ MB b br p es k6
  g6:w0.heap.size≤k6
  fo:RT.ok w f
  ff:(∀ z∈Xb f.h.p1,¬ (MB b br p es z∨z=k6))∧(∀ z∈Xb f.h.p2,¬ (MB b br p es z∨z=k6))∧(∀ z∈Xb f.p3,¬ (MB b br p es z∨z=k6))∧(∀ z∈Xb f.p4,¬ (MB b br p es z∨z=k6))
  to:f.h.to=[7,8]
  fr:f.h.fr=[9]
  st:f.st=[]
  rr:Row w p5 (R20.map vb)
  rf:∀ z∈Xb p5,¬ (MB b br p es z∨z=k6)
  c7:CAt w k7 (OC.mk (Xt 17) p7 c7).v
  n7:¬ (MB b br p es k7∨k7=k6)
  rl:∀ z,(z∈Xb f.h.p1∨z∈Xb f.h.p2∨z∈Xb f.p3∨z∈Xb f.p4∨z∈Xb p5)→z<w.heap.size
section
variable {w0 w:World} {b br lo k6 k7 c7:Nat} {X:MX} {p p5 p7:Option Addr} {es:List RE} {N:Int} {K:VWP} {f:RT}
theorem MintAt.mbLt (h:MintAt w b X br p es N lo) {z:Nat} (hz:MB b br p es z):z<w.heap.size:=by
  rcases hz with rfl | hz | ⟨e,he,h1,h2⟩
  · exact h.lt
  · exact h.r.lt z hz
  · have:=(h.r.ent e he).1.lh; omega
theorem MB.off {z:Nat} (hz:¬ MB b br p es z):offR br p es z∧z≠b:=
  ⟨⟨fun hm=>hz (.inr (.inl hm)),fun e he=>by
    by_cases h1:z<e.lo
    · exact .inl h1
    · by_cases h2:e.hi≤z
      · exact .inr h2
      · exact absurd (.inr (.inr ⟨e,he,by omega,by omega⟩)) hz⟩,fun hh=>hz (.inl hh)⟩
theorem RT.ok.frP {P:Nat→Prop} {w':World} (h:RT.ok w f) (g:FrP P w w') (h1:∀ z∈Xb f.h.p1,¬ P z) (h2:∀ z∈Xb f.h.p2,¬ P z) (h3:∀ z∈Xb f.p3,¬ P z) (h4:∀ z∈Xb f.p4,¬ P z):RT.ok w' f:=
  ⟨⟨g.row h.h.r1 h1,h.h.h1,g.row h.h.r2 h2,h.h.h2,h.h.b1,h.h.b2⟩,g.row h.r3 h3,h.h3,g.row h.r4 h4,h.h4⟩
theorem AS.step {w':World} {X':MX} {N':Int} (h:AS w0 w b X br p es N lo k6 f p5 k7 p7 c7) (g:FrP (MB b br p es) w w') (hM:MintAt w' b X' br p es N' lo) (hp:X'.pl=pl21):AS w0 w' b X' br p es N' lo k6 f p5 k7 p7 c7:=by
  obtain ⟨f1,f2,f3,f4⟩:=h.ff
  exact ⟨hM,h.ks,hp,g.news h.f0 h.low,h.low,h.c6.frP g h.n6,h.n6,h.g6,h.fo.frP g (fun z hz hh=>f1 z hz (.inl hh)) (fun z hz hh=>f2 z hz (.inl hh)) (fun z hz hh=>f3 z hz (.inl hh)) (fun z hz hh=>f4 z hz (.inl hh)),h.ff,h.to,h.fr,h.st,g.row h.rr fun z hz hh=>h.rf z hz (.inl hh),h.rf,h.c7.frP g fun hh=>h.n7 (.inl hh),h.n7,fun z hz=>Nat.lt_of_lt_of_le (h.rl z hz) g.size⟩
theorem AS.fr0 {w':World} (h:AS w0 w b X br p es N lo k6 f p5 k7 p7 c7) (g:Fr [] w w'):AS w0 w' b X br p es N lo k6 f p5 k7 p7 c7:=h.step (FrP.of0 g) (h.M.fr0 g) h.pl
theorem AS.new (h:AS w0 w b X br p es N lo k6 f p5 k7 p7 c7) {z:Nat} (hz:w.heap.size≤z):¬ (MB b br p es z∨z=k6):=by
  rintro (hh | hh)
  · have:=h.M.mbLt hh; omega
  · have:=h.c6.lt; omega
theorem AS.take {cp rp:Option Addr} {cl rd:List UInt8} {l1 l2 cc rc now:Nat} (h:AS w0 w b X br p es N lo k6 f p5 k7 p7 c7) (hN:N<1000) (hX:X.now<1000000∧X.c0<1000000∧X.c1<1000000∧X.c2<1000000) (hf:f.tok.length≤100)
    (h1:Row w cp (cl.map vb)) (e1:l1=cl.length) (hc1:l1≤cc) (o1:∀ z∈Xb cp,¬ MB b br p es z) (h2:Row w rp (rd.map vb)) (e2:l2=rd.length) (hc2:l2≤rc) (o2:∀ z∈Xb rp,¬ MB b br p es z) (hl1:l1≤100) (hl2:l2≤100) (hnow:now<1000)
    (hk:∀ o w',AS w0 w' b (X.took o.u) br p es (N+2) lo k6 f p5 k7 p7 c7→FrP (MB b br p es) w w'→OC.own w' o w.heap.size→o.u=XQ Z1 pl21 true ⟨f,cp,cc,cl,rp,rc,rd,now⟩→K o.a w') :
    Xa Tryz.prog UF #[.pointer (some ⟨b,0,none⟩),.slice cp l1 cc,f.a,.int .u64 (now:Int),.slice rp l2 rc] w K:=by
  subst e1; subst e2
  obtain ⟨f1,f2,f3,f4⟩:=h.ff
  have hin:∀ z,(z=b∨inR es z)→MB b br p es z:=fun z hz=>by
    rcases hz with hz | hz
    · exact .inl hz
    · exact .inr (.inr hz)
  refine W6 (x:=⟨f,cp,cc,cl,rp,rc,rd,now⟩) h.M (by omega) ⟨h.fo,h1,hc1,h2,hc2,by show now<_; omega⟩ ⟨fun _ z hz hh=>f1 z hz (.inl (hin z hh)),fun _ z hz hh=>f2 z hz (.inl (hin z hh)),fun _ z hz hh=>f3 z hz (.inl (hin z hh)),fun _ z hz hh=>f4 z hz (.inl (hin z hh)),fun _ z hz hh=>o1 z hz (hin z hh),fun _ z hz hh=>o2 z hz (hin z hh)⟩
    ⟨by show cl.length≤1000; omega,by show rd.length≤1000; omega,by show f.tok.length≤5000; omega,by show f.h.to.length≤1000; rw [h.to]; decide,by show f.h.fr.length≤1000; rw [h.fr]; decide,by show f.st.length≤1000; rw [h.st]; decide⟩ hX fun o L w' hL g hM hO hu=>?_
  have gP:FrP (MB b br p es) w w':=FrP.of g fun z hz=>hin z (hL z hz)
  refine hk o w' (h.step gP hM h.pl) gP hO ?_
  rw [hu,h.ks]
  unfold XiX
  rw [h.pl]
  have:X.see.act=true:=by
    unfold MX.act MX.see
    show decide (X.pl.md=2∨_)=true
    rw [h.pl]
    exact decide_eq_true (.inl rfl)
  rw [this]
theorem Xxs:B21.length≤5000:=(XsC Xv5).1
theorem XtS {k8 k9 c8 c9 cap5:Nat} {p8 p9:Option Addr} (h:AS w0 w b ((((mx0 pl21).took (Xt 17)).took (YZ B21)).took (Xt 21)) br p es 7 lo k6 f p5 k7 p7 c7) (ht:f.tok=[]) (h5:20≤cap5)
    (h8:CAt w k8 (OC.mk (YZ B21) p8 c8).v) (n8:¬ (MB b br p es k8∨k8=k6)) (r8:Row w p8 (B21.map vb)) (g8:∀ z∈Xb p8,¬ (MB b br p es z∨z=k6)) (d8:B21.length≤c8)
    (h9:CAt w k9 (OC.mk (Xt 21) p9 c9).v) (n9:¬ (MB b br p es k9∨k9=k6)) (hk:∀ w',Fr [] w0 w'→K (.bool true) w') :
    Zh false (some ⟨b,0,none⟩) p5 20 cap5 ⟨k6,0,none⟩ ⟨k7,0,none⟩ ⟨k8,0,none⟩ ⟨k9,0,none⟩ w K:=by
  unfold Zh
  have hBl:=Xxs
  refine ⟨_,_,_,h8.get (by kernel_rfl) (j:=3) rfl,Xf9 (b:=B21) r8 rfl d8 (by omega) fun u w1 f1 hU1 hu=>⟨_,_,_,_,_,_,_,_,_,_,_,_,_,_,_,rfl,?_⟩⟩
  obtain ⟨u1,u2,u3,u4,u5,u6⟩:=RT.su_eq hu
  rw [Xy7] at u3 u4 u5 u6 ⊢
  have h1:=h.fr0 f1
  refine Vi (t:=Ju) u.v rfl rfl (by kernel_rfl) (by kernel_rfl) fun w3 f3 hC10=>?_
  obtain ⟨k10,hk10⟩:∃ k,k=w1.heap.size:=⟨_,rfl⟩
  rw [← hk10] at hC10 ⊢
  have h3:=h1.fr0 f3
  have hU3:=hU1.fr0 f3
  have hne10:k10≠k6:=by have:=h1.c6.lt; omega
  refine ⟨_,_,_,hC10.get (by kernel_rfl) (j:=4) rfl,?_⟩
  refine h3.c6.sto (j:=4) (by show 4<6; omega) (.slice u.p3 u.tok.length u.c3) rfl rfl (by kernel_rfl) fun w4 f4 hC4 s4=>?_
  have f13:=f1.then f3
  obtain ⟨F,hF⟩:∃ F:RT,F={ f with tok:=u.tok,p3:=u.p3,c3:=u.c3 }:=⟨_,rfl⟩
  have hC4:CAt w4 k6 F.v:=by rw [hF]; exact hC4
  have lt6:=h.c6.lt
  have hU4:RT.own w4 u w.heap.size:=by
    refine ⟨⟨hU3.h.o1.fr_sep f4 (by omega),hU3.h.o2.fr_sep f4 (by omega),hU3.h.b1,hU3.h.b2⟩,hU3.o3.fr_sep f4 (by omega),hU3.o4.fr_sep f4 (by omega)⟩
  have G4:FrP (fun z=>MB b br p es z∨z=k6) w3 w4:=FrP.of f4 (Zw (.inr rfl))
  obtain ⟨g1,g2,g3,g4⟩:=h3.ff
  have fo4:=h3.fo.frP G4 g1 g2 g3 g4
  have hX:((((mx0 pl21).took (Xt 17)).took (YZ B21)).took (Xt 21)).pl=pl21:=rfl
  have A4:AS w0 w4 b ((((mx0 pl21).took (Xt 17)).took (YZ B21)).took (Xt 21)) br p es 7 lo k6 F p5 k7 p7 c7:=by
    refine ⟨h3.M.fr f4 (Zw (MB.off h.n6)),h.ks,hX,h3.f0.st f4 h.g6,h.low,hC4,h.n6,h.g6,?_,?_,?_,?_,?_,G4.row h3.rr h.rf,h.rf,h3.c7.frP G4 h.n7,h.n7,?_⟩
    · rw [hF]; exact ⟨fo4.h,hU4.o3.row,hU4.o3.cap,fo4.r4,fo4.h4⟩
    · rw [hF]; exact ⟨g1,g2,fun z hz=>h.new (hU1.o3.2.2 z hz),g4⟩
    · rw [hF]; exact h.to
    · rw [hF]; exact h.fr
    · rw [hF]; exact h.st
    · rw [hF]
      rintro z (hz | hz | hz | hz | hz)
      · have:=h3.rl z (.inl hz); omega
      · have:=h3.rl z (.inr (.inl hz)); omega
      · exact hU4.o3.lt z hz
      · have:=h3.rl z (.inr (.inr (.inr (.inl hz)))); omega
      · have:=h3.rl z (.inr (.inr (.inr (.inr hz)))); omega
  have hFt:F.tok=T21:=by rw [hF]; exact u5
  have hFl:F.tok.length≤100:=by rw [hFt,XaK]; omega
  have h84:=(h8.fr0 f13).frP G4 n8
  have h94:=(h9.fr0 f13).frP G4 n9
  have r84:=G4.row (r8.fr0 f13) g8
  have n14:=f13.size
  clear h84 h94 r84 hU4 hU3 hU1 fo4 hC4 h3 h1
  refine mkL (n:=1) (xs:=[5]) rfl rfl (by kernel_rfl) fun pd wd fd hOd sd=>?_
  have Ad:=A4.fr0 fd
  refine ⟨_,_,_,_,_,_,_,_,_,_,_,_,_,_,Ad.c6.ld (by kernel_rfl) (by kernel_rfl),?_⟩
  refine Ad.take (cl:=[5]) (rd:=[]) (now:=110) (by omega) ⟨by decide,by decide,by decide,by decide⟩ hFl hOd.row rfl (by omega) (fun z hz hh=>A4.new (hOd.2.2 z hz) (.inl hh)) (Row.nil _ _) rfl (by omega) (by simp [Xb]) (by omega) (by omega) (by omega) fun od we Ae ge hOe hue=>⟨_,_,_,_,_,_,_,rfl,?_⟩
  have hue:od.u=Uo true:=by rw [hue]; exact (Xgn Ad.to Ad.fr).2.2.2.1 hFt rfl rfl
  obtain ⟨ud,po,co⟩:=od
  have hue:ud=Uo true:=hue
  subst hue
  replace Ae:AS w0 we b (((((mx0 pl21).took (Xt 17)).took (YZ B21)).took (Xt 21)).took (Uo true)) br p es (7+2) lo k6 F p5 k7 p7 c7:=Ae
  refine Vi (t:=Xx) (OC.mk (Uo true) po co).v rfl rfl (by kernel_rfl) (by kernel_rfl) fun w8 f8 hC12=>?_
  obtain ⟨k12,hk12⟩:∃ k,k=we.heap.size:=⟨_,rfl⟩
  rw [← hk12] at hC12 ⊢
  have A8:=Ae.fr0 f8
  have n12:¬ (MB b br p es k12∨k12=k6):=Ae.new (by omega)
  refine mkL (n:=1) (xs:=[6]) rfl rfl (by kernel_rfl) fun ph wh fh hOh sh=>?_
  have Ah:=A8.fr0 fh
  refine ⟨_,_,_,_,_,_,_,_,_,_,_,_,_,_,Ah.c6.ld (by kernel_rfl) (by kernel_rfl),?_⟩
  refine Ah.take (cl:=[6]) (rd:=[]) (now:=110) (by omega) ⟨by decide,by decide,by decide,by decide⟩ hFl hOh.row rfl (by omega) (fun z hz hh=>A8.new (hOh.2.2 z hz) (.inl hh)) (Row.nil _ _) rfl (by omega) (by simp [Xb]) (by omega) (by omega) (by omega) fun oh wi Ai gi hOi hui=>⟨_,_,_,_,_,_,_,rfl,?_⟩
  have hui:oh.u=Xt 13:=by rw [hui]; exact (Xgn Ah.to Ah.fr).2.2.2.2.1 hFt rfl rfl
  obtain ⟨uh,po2,co2⟩:=oh
  have hui:uh=Xt 13:=hui
  subst hui
  replace Ai:AS w0 wi b ((((((mx0 pl21).took (Xt 17)).took (YZ B21)).took (Xt 21)).took (Uo true)).took (Xt 13)) br p es (7+2+2) lo k6 F p5 k7 p7 c7:=Ai
  refine Vi (t:=Xx) (OC.mk (Xt 13) po2 co2).v rfl rfl (by kernel_rfl) (by kernel_rfl) fun w12 f12 hC13=>?_
  obtain ⟨k13,hk13⟩:∃ k,k=wi.heap.size:=⟨_,rfl⟩
  rw [← hk13] at hC13 ⊢
  have A12:=Ai.fr0 f12
  have n13:¬ (MB b br p es k13∨k13=k6):=Ai.new (by omega)
  refine mkL (n:=1) (xs:=[5]) rfl rfl (by kernel_rfl) fun pj wj fj hOj sj=>?_
  have Aj:=A12.fr0 fj
  refine ⟨_,_,_,_,_,_,_,_,_,_,_,_,_,_,Aj.c6.ld (by kernel_rfl) (by kernel_rfl),?_⟩
  refine Aj.take (cl:=[5]) (rd:=R20) (now:=111) (by omega) ⟨by decide,by decide,by decide,by decide⟩ hFl hOj.row rfl (by omega) (fun z hz hh=>A12.new (hOj.2.2 z hz) (.inl hh)) Aj.rr rfl h5 (fun z hz hh=>Aj.rf z hz (.inl hh)) (by omega) (by omega) (by omega) fun oi wk Ak gk hOk huk=>⟨_,_,_,_,_,_,_,rfl,?_⟩
  have huk:oi.u.kd=1:=by rw [huk]; exact (Xgn Aj.to Aj.fr).2.2.2.2.2 hFt rfl rfl rfl
  refine Vi (t:=Xx) oi.v rfl rfl (by kernel_rfl) (by kernel_rfl) fun w16 f16 hC14=>?_
  obtain ⟨k14,hk14⟩:∃ k,k=wk.heap.size:=⟨_,rfl⟩
  rw [← hk14] at hC14 ⊢
  have A16:=Ak.fr0 f16
  obtain ⟨X,hXX⟩:∃ X,X=((((((mx0 pl21).took (Xt 17)).took (YZ B21)).took (Xt 21)).took (Uo true)).took (Xt 13)).took oi.u:=⟨_,rfl⟩
  have x1:X.now=6:=by rw [hXX]; rfl
  have x2:X.last=0:=by rw [hXX]; rfl
  have x3:X.c0=1:=by rw [hXX]; show 1+(if oi.u.kd=0 then 1 else 0)=1; rw [huk]; rfl
  have x4:X.c1=2:=by rw [hXX]; show 1+(if oi.u.kd=1 then 1 else 0)=2; rw [huk]; rfl
  have x5:X.c2=3:=by rw [hXX]; show 3+(if oi.u.kd=2 then 1 else 0)=3; rw [huk]; rfl
  have x6:X.pl=pl21:=by rw [hXX]; rfl
  have M16:=A16.M
  rw [← hXX] at M16
  refine ⟨_,rfl,XkS M16 fun w17 f17=>⟨_,_,rfl,_,rfl,?_⟩⟩
  refine Xdw (M16.fr0 f17) fun w18 f18 M18=>⟨rfl,?_⟩
  refine XrX M18 fun dd dr pq w19 f19 MD gz gd=>⟨_,rfl,?_⟩
  have M19:=M18.fr0 f19
  refine Xm6 (q:=⟨3,false,1,0⟩) M19 fun w20 f20 M20=>⟨_,rfl,?_⟩
  have eS:XiV ⟨3,false,1,0⟩=11:=by decide
  have eX:(X.tick).set ⟨3,false,1,0⟩=X.tick:=by unfold MX.set; rw [if_neg (by decide)]
  rw [eX] at M20
  rw [eS]
  refine Xga M20 fun w21 f21=>⟨_,_,_,rfl,_,_,XyG (by kernel_rfl),Xm ⟨_,rfl,?_⟩⟩
  have c0:X.tick.c0=1:=x3
  have c1:X.tick.c1=2:=x4
  have c2:X.tick.c2=3:=x5
  rw [x1,x2,c0,c1,c2]
  have hdb:dd≠b:=by have:=M18.lt; omega
  have MD20:=MD.fr f20 (Zw ⟨MD.a |> fun _=>(by
    refine ⟨fun hm=>?_,fun e he=>M18.a.2 e he⟩
    have:=gz b hm; have:=M18.lt; omega),fun hh=>hdb hh.symm⟩)
  refine Jh (MD20.fr0 f21) fun w23 f23=>⟨_,rfl,?_⟩
  have hact:X.tick.copy.act=true:=by
    unfold MX.act
    exact decide_eq_true (.inl (show X.pl.md=2 by rw [x6]; rfl))
  rw [hact]
  have g23:FrP (MB b br p es) w16 w23:=((((FrP.of0 f17).trans (FrP.of f18 (Zw (.inl rfl)))).then f19).trans (FrP.of f20 (Zw (.inl rfl)))).trans (FrP.of0 (f21.then f23))
  have g423:FrP (MB b br p es) w4 w23:=(((((((FrP.of0 fd).trans ge).then f8).then fh).trans gi).then f12).then fj).trans gk |>.then f16 |>.trans g23
  have gP:∀ {w w'},FrP (MB b br p es) w w'→FrP (fun z=>MB b br p es z∨z=k6) w w':=fun ⟨L,hL,hf⟩=>⟨L,fun z hz=>.inl (hL z hz),hf⟩
  have G3:FrP (fun z=>MB b br p es z∨z=k6) w w23:=((FrP.of0 f13).trans G4).trans (gP g423)
  have C7:=h.c7.frP G3 h.n7
  have C8:=h8.frP G3 n8
  have C9:=h9.frP G3 n9
  have R8:=G3.row r8 g8
  have g823:FrP (fun z=>MB b br p es z∨z=k6) w8 w23:=gP ((((((FrP.of0 fh).trans gi).then f12).then fj).trans gk |>.then f16).trans g23)
  have C12:=hC12.frP g823 n12
  have g1223:FrP (fun z=>MB b br p es z∨z=k6) w12 w23:=gP (((FrP.of0 fj).trans gk |>.then f16).trans g23)
  have C13:=hC13.frP g1223 n13
  have C14:=hC14.frP (gP g23) (Ak.new (by omega))
  have F0:Fr [] w0 w23:=g23.news A16.f0 h.low
  refine Xm ⟨_,C7.get (by kernel_rfl) (j:=0) rfl,X1 rfl ⟨_,C7.get (by kernel_rfl) (j:=2) rfl,X1 rfl ⟨_,C8.get (by kernel_rfl) (j:=0) rfl,X1 rfl ⟨_,C8.get (by kernel_rfl) (j:=4) rfl,X1 rfl (X1 rfl ⟨_,C9.get (by kernel_rfl) (j:=0) rfl,X1 rfl ⟨_,C9.get (by kernel_rfl) (j:=2) rfl,X1 rfl ⟨_,_,_,C8.get (by kernel_rfl) (j:=3) rfl,?_⟩⟩⟩)⟩⟩⟩⟩
  refine mkL (n:=2) (xs:=[7,8]) rfl rfl (by kernel_rfl) fun px wx fx hOx sx=>?_
  refine XqJ (b:=B21) (id:=[7,8]) (R8.fr0 fx) rfl d8 (by omega) hOx.row rfl (by omega) fun wy fy=>⟨_,rfl,?_⟩
  rw [Xzm]
  have fxy:=fx.then fy
  refine X1 rfl ⟨_,(C12.fr0 fxy).get (by kernel_rfl) (j:=0) rfl,X1 rfl ⟨_,(C12.fr0 fxy).get (by kernel_rfl) (j:=1) rfl,X1 rfl ⟨_,(C13.fr0 fxy).get (by kernel_rfl) (j:=0) rfl,X1 rfl ⟨_,(C13.fr0 fxy).get (by kernel_rfl) (j:=2) rfl,X1 rfl ⟨_,(C14.fr0 fxy).get (by kernel_rfl) (j:=0) rfl,?_⟩⟩⟩⟩⟩
  rw [huk]
  refine X1 rfl (X1 rfl (X1 rfl (X1 rfl (X1 rfl (X1 rfl (X1 rfl ?_))))))
  refine XtN ((M20.fr0 (f21.then f23)).fr0 fxy) fun wz fz=>⟨_,_,_,_,rfl,?_⟩
  have e10:X.tick.pl.li=10:=by
    show X.pl.li=10
    rw [x6]; rfl
  rw [e10]
  exact hk wz ((F0.then fxy).then fz)
end
end Go.Sh
end

section
namespace Go.Sh
open Go Go.Fw Go.Proofs
set_option maxRecDepth 100000
set_option linter.unusedVariables false
section
variable {w0 w:World} {b br lo k6 k7 c7:Nat} {X:MX} {p p5 p7:Option Addr} {es:List RE} {N:Int} {K:VWP} {f:RT}
theorem Xyw {P:Nat→Prop} {w w1:World} {k n:Nat} {g:Nat→Value} (h:Blk w k n g) (f:FrP P w w1) (hk:¬ P k):Blk w1 k n g:=by
  obtain ⟨L,h1,h2⟩:=f
  exact h.fr h2 fun hm=>hk (h1 k hm)
theorem XtT {cap5:Nat} (h:AS w0 w b ((mx0 pl21).took (Xt 17)) br p es 3 lo k6 f p5 k7 p7 c7) (ht:f.tok=[]) (h5:20≤cap5) (hk:∀ w',Fr [] w0 w'→K (.bool true) w') :
    Jd false (some ⟨b,0,none⟩) p5 20 cap5 ⟨k6,0,none⟩ ⟨k7,0,none⟩ w K:=by
  unfold Jd
  have hfl:f.tok.length≤100:=by rw [ht]; decide
  refine mkL (n:=1) (xs:=[5]) rfl rfl (by kernel_rfl) fun pa w1 f1 hOa s1=>?_
  have A1:=h.fr0 f1
  refine ⟨_,_,_,_,_,_,_,_,_,_,_,_,_,_,A1.c6.ld (by kernel_rfl) (by kernel_rfl),?_⟩
  refine A1.take (cl:=[5]) (rd:=R20) (now:=100) (by omega) ⟨by decide,by decide,by decide,by decide⟩ hfl hOa.row rfl (by omega) (fun z hz hh=>h.new (hOa.2.2 z hz) (.inl hh)) A1.rr rfl h5 (fun z hz hh=>A1.rf z hz (.inl hh)) (by omega) (by omega) (by omega) fun o w2 A2 g2 hO2 hu2=>⟨_,_,_,_,_,_,_,rfl,?_⟩
  have hu2:o.u=YZ B21:=by rw [hu2]; exact (Xgn A1.to A1.fr).2.1 ht rfl rfl rfl
  obtain ⟨u8,p8,c8⟩:=o
  have hu2:u8=YZ B21:=hu2
  subst hu2
  replace A2:AS w0 w2 b (((mx0 pl21).took (Xt 17)).took (YZ B21)) br p es (3+2) lo k6 f p5 k7 p7 c7:=A2
  have hO2:OB w2 p8 B21.length c8 B21 w1.heap.size:=hO2
  refine Vi (t:=Xx) (OC.mk (YZ B21) p8 c8).v rfl rfl (by kernel_rfl) (by kernel_rfl) fun w4 f4 hC8=>?_
  obtain ⟨k8,hk8⟩:∃ k,k=w2.heap.size:=⟨_,rfl⟩
  rw [← hk8] at hC8 ⊢
  have A4:=A2.fr0 f4
  have n8:¬ (MB b br p es k8∨k8=k6):=A2.new (by omega)
  have r8:Row w4 p8 (B21.map vb):=hO2.row.fr0 f4
  have g8:∀ z∈Xb p8,¬ (MB b br p es z∨z=k6):=fun z hz=>A1.new (hO2.2.2 z hz)
  have gP:∀ {w w'},FrP (MB b br p es) w w'→FrP (fun z=>MB b br p es z∨z=k6) w w':=fun ⟨L,hL,hf⟩=>⟨L,fun z hz=>.inl (hL z hz),hf⟩
  refine ⟨fun w'=>CAt w' k6 f.v,Drw.intro fun w5 f5 s5=>?_⟩
  have A5:=A4.fr0 f5
  refine Wu A5.rr rfl (n:=19) (by decide) h5 fun q80 d80 hq80 hl80 hd80 hb80=>?_
  refine ⟨_,_,_,_,_,_,_,_,_,_,_,_,_,_,⟨A5.c6,fun w' hw=>hw.ld (by kernel_rfl) (by kernel_rfl)⟩,?_⟩
  have n58:k8<w5.heap.size:=by have:=hC8.lt; have:=f5.size; omega
  have n57:k7<w5.heap.size:=A5.c7.lt
  have n5p:∀ z∈Xb p8,z<w5.heap.size:=fun z hz=>by have:=hO2.lt z hz; have:=f4.size; have:=f5.size; omega
  have fin : ∀ (k9 : Nat) (wb w9 : World) (o : OC), AS w0 wb b ((((mx0 pl21).took (Xt 17)).took (YZ B21)).took o.u) br p es (3 + 2 + 2) lo k6 f p5 k7 p7 c7 → FrP (MB b br p es) w5 wb → o.u = Xt 21 → CAt w9 k9 o.v → Fr [k9] wb w9 → w5.heap.size ≤ k9 →
      Zh false (some ⟨b,0,none⟩) p5 20 cap5 ⟨k6,0,none⟩ ⟨k7,0,none⟩ ⟨k8,0,none⟩ ⟨k9,0,none⟩ w9 K:=by
    intro k9 wb w9 o A G hu hC9 f9 h59
    obtain ⟨u9,p9,c9⟩:=o
    have hu:u9=Xt 21:=hu
    subst hu
    replace A:AS w0 wb b ((((mx0 pl21).took (Xt 17)).took (YZ B21)).took (Xt 21)) br p es (3+2+2) lo k6 f p5 k7 p7 c7:=A
    have G9:FrP (fun z=>z=k9) wb w9:=FrP.of f9 (Zw rfl)
    have n9:¬ (MB b br p es k9∨k9=k6):=A5.new h59
    have n5:=A5.f0.size
    have G59:=gP G
    have lt:∀ z,z<w5.heap.size→z≠k9:=fun z hz=>by omega
    have rl:=A5.rl
    have A9:AS w0 w9 b ((((mx0 pl21).took (Xt 17)).took (YZ B21)).took (Xt 21)) br p es 7 lo k6 f p5 k7 p7 c7:=by
      refine ⟨(A.M.fr f9 (Zw (MB.off fun hh=>n9 (.inl hh)))).mono (by omega),A.ks,rfl,A.f0.st f9 (by omega),A.low,A.c6.fr f9 (by simp; exact fun hh=>n9 (.inr hh.symm)),A.n6,A.g6,A.fo.frP G9 (fun z hz=>lt z (rl z (.inl hz))) (fun z hz=>lt z (rl z (.inr (.inl hz)))) (fun z hz=>lt z (rl z (.inr (.inr (.inl hz))))) (fun z hz=>lt z (rl z (.inr (.inr (.inr (.inl hz)))))),A.ff,A.to,A.fr,A.st,G9.row A.rr fun z hz=>lt z (rl z (.inr (.inr (.inr (.inr hz))))),A.rf,A.c7.frP G9 (lt k7 n57),A.n7,fun z hz=>Nat.lt_of_lt_of_le (A.rl z hz) f9.size⟩
    have h89:CAt w9 k8 (OC.mk (YZ B21) p8 c8).v:=((hC8.fr0 f5).frP G59 n8).frP G9 (lt k8 n58)
    have r89:Row w9 p8 (B21.map vb):=G9.row (G59.row (r8.fr0 f5) g8) fun z hz=>lt z (n5p z hz)
    exact XtS A9 ht h5 h89 n8 r89 g8 hO2.cap hC9 n9 hk
  have tk : ∀ {wa : World} {q : Option Addr} {lo' : Nat} {K : Value → World → Prop}, Fr [] w5 wa → OB wa q 1 1 [5] lo' → w5.heap.size ≤ lo' → (∀ (o : OC) (wb : World), AS w0 wb b ((((mx0 pl21).took (Xt 17)).took (YZ B21)).took o.u) br p es (3 + 2 + 2) lo k6 f p5 k7 p7 c7 → FrP (MB b br p es) wa wb → o.u = Xt 21 → K o.a wb) →
      Xa Tryz.prog UF #[.pointer (some ⟨b,0,none⟩),.slice q 1 1,f.a,.int .u64 100,.slice q80 19 d80] wa K:=by
    intro wa q lo' K fa hO hlo hK
    have Aa:=A5.fr0 fa
    refine Aa.take (cl:=[5]) (rd:=R20.take 19) (now:=100) (by omega) ⟨by decide,by decide,by decide,by decide⟩ hfl hO.row rfl (by omega) (fun z hz hh=>A5.new (Nat.le_trans hlo (hO.2.2 z hz)) (.inl hh)) (hq80.fr0 fa) hl80 hd80 (fun z hz hh=>Aa.rf z (hb80 z hz) (.inl hh)) (by omega) (by omega) (by omega) fun o wb Ab gb hOb hub=>hK o wb Ab gb ?_
    rw [hub]; exact (Xgn Aa.to Aa.fr).2.2.1 ht rfl
  constructor
  · refine mkL (n:=1) (xs:=[5]) rfl rfl (by kernel_rfl) fun pc w6 f6 hO6 s6=>⟨.inr (A5.c6.fr0 f6),?_⟩
    constructor
    · refine tk f6 hO6 (Nat.le_refl _) fun o w7 A7 g7 hu7=>⟨_,_,_,_,_,_,_,rfl,?_⟩
      refine XM (s:=5) (by kernel_rfl) fun w8 g f8 hB8 s8=>⟨.inr (A7.c6.fr0 f8),?_⟩
      refine Xqz hB8 o.v rfl rfl (by kernel_rfl) fun w9 f9 hC9 s9=>?_
      have n6:=f6.size; have n7:=g7.size
      exact fin _ w8 w9 o (A7.fr0 f8) (((FrP.of0 f6).trans g7).then f8) hu7 hC9 f9 (by omega)
    · refine XM (s:=5) (by kernel_rfl) fun w7 g f7 hB7 s7=>⟨.inr (A5.c6.fr0 (f6.then f7)),?_⟩
      obtain ⟨k9,hk9⟩:∃ k,k=w6.heap.size:=⟨_,rfl⟩
      rw [← hk9] at hB7 ⊢
      refine tk (f6.then f7) (hO6.fr0 f7) (Nat.le_refl _) fun o w8 A8 g8' hu8=>⟨_,_,_,_,_,_,_,rfl,?_⟩
      have n6:=f6.size
      have n9:¬ (MB b br p es k9∨k9=k6):=A5.new (by omega)
      refine Xqz (Xyw hB7 g8' fun hh=>n9 (.inl hh)) o.v rfl rfl (by kernel_rfl) fun w9 f9 hC9 s9=>?_
      exact fin _ w8 w9 o A8 ((FrP.of0 (f6.then f7)).trans g8') hu8 hC9 f9 (by omega)
  · refine XM (s:=5) (by kernel_rfl) fun w6 g f6 hB6 s6=>⟨.inr (A5.c6.fr0 f6),?_⟩
    obtain ⟨k9,hk9⟩:∃ k,k=w5.heap.size:=⟨_,rfl⟩
    rw [← hk9] at hB6 ⊢
    refine mkL (n:=1) (xs:=[5]) rfl rfl (by kernel_rfl) fun pc w7 f7 hO7 s7=>⟨.inr (A5.c6.fr0 (f6.then f7)),?_⟩
    refine tk (f6.then f7) hO7 f6.size fun o w8 A8 g8' hu8=>⟨_,_,_,_,_,_,_,rfl,?_⟩
    have n9:¬ (MB b br p es k9∨k9=k6):=A5.new (by omega)
    refine Xqz (Xyw (hB6.fr0 f7) g8' fun hh=>n9 (.inl hh)) o.v rfl rfl (by kernel_rfl) fun w9 f9 hC9 s9=>?_
    exact fin _ w8 w9 o A8 ((FrP.of0 (f6.then f7)).trans g8') hu8 hC9 f9 (by omega)
end
end Go.Sh
end

section
namespace Go.Sh
open Go Go.Fw Go.Proofs
set_option maxRecDepth 100000
set_option linter.unusedVariables false
section
variable {w0 w:World} {b br lo:Nat} {K:VWP}
theorem XtU (hM:MintAt w b (mx0 pl21) br none [] 1 lo) (f0:Fr [] w0 w) (hb:w0.heap.size≤b) (hbr:w0.heap.size≤br) (hlo:w0.heap.size≤lo) (hk:∀ w',Fr [] w0 w'→K (.bool true) w') :
    VH false (some ⟨b,0,none⟩) w K:=by
  unfold VH
  have hbl:=hM.lt
  have hbrl:=hM.r.lt br (List.mem_cons_self ..)
  have n0:=f0.size
  refine mkL (n:=20) (xs:=R20) rfl rfl (by kernel_rfl) fun p5 w1 f1 hO5 s1=>?_
  refine Vi (t:=Z4) [.int .u8 0,.int .u32 0,.slice none 0 0,.slice none 0 0,.slice none 0 0,.slice none 0 0] rfl rfl (by kernel_rfl) (by kernel_rfl) fun w3 f3 hC3=>?_
  obtain ⟨k6,hk6⟩:∃ k,k=w1.heap.size:=⟨_,rfl⟩
  rw [← hk6] at hC3 ⊢
  have n1:=f1.size; have n3:=f3.size
  have lt6:=hC3.lt
  refine mkL (n:=2) (xs:=[7,8]) rfl rfl (by kernel_rfl) fun p1 w4 f4 hO1 s4=>?_
  have hC4:=hC3.fr0 f4
  refine hC4.sto (j:=2) (by show 2<6; omega) (.slice p1 2 2) rfl rfl (by kernel_rfl) fun w5 f5 hC5 s5=>?_
  refine mkL (n:=1) (xs:=[9]) rfl rfl (by kernel_rfl) fun p2 w6 f6 hO2 s6=>?_
  refine (hC5.fr0 f6).sto (j:=3) (by show 3<6; omega) (.slice p2 1 1) rfl rfl (by kernel_rfl) fun w7 f7 hC7 s7=>?_
  refine mkL (n:=1) (xs:=[5]) rfl rfl (by kernel_rfl) fun p63 w8 f8 hO63 s8=>?_
  obtain ⟨F,hF⟩:∃ F:RT,F=⟨⟨0,0,[7,8],[9],p1,2,p2,1⟩,[],[],none,0,none,0⟩:=⟨_,rfl⟩
  have hC8:CAt w8 k6 F.v:=by rw [hF]; exact hC7.fr0 f8
  have n4:=f4.size; have n5:=f5.size; have n6:=f6.size; have n7:=f7.size; have n8:=f8.size
  have f13:=f1.then f3
  have k6w:w.heap.size≤k6:=by omega
  have f08:Fr [] w w8:=((((f13.then f4).st f5 k6w).then f6).st f7 k6w).then f8
  have hM8:=hM.fr0 f08
  have hO58:OB w8 p5 20 20 R20 w.heap.size:=by
    have hz:∀ z∈Xb p5,z∉[k6]:=fun z hz hm=>by have:=hO5.lt z hz; have:=List.mem_singleton.1 hm; omega
    exact ((((((hO5.fr0 f3).fr0 f4).fr f5 hz).fr0 f6).fr f7 hz).fr0 f8)
  have hO18:OB w8 p1 2 2 [7,8] w3.heap.size:=((((hO1.fr_sep f5 (by omega)).fr0 f6).fr_sep f7 (by omega)).fr0 f8)
  have hO28:OB w8 p2 1 1 [9] w5.heap.size:=((hO2.fr_sep f7 (by omega)).fr0 f8)
  have hFo:RT.ok w8 F:=by rw [hF]; exact ⟨⟨hO18.row,hO18.cap,hO28.row,hO28.cap,by show 0<256; omega,by show 0<4294967296; omega⟩,Row.nil _ _,Nat.le_refl _,Row.nil _ _,Nat.le_refl _⟩
  refine ⟨_,_,_,_,_,_,_,_,_,_,_,_,_,_,hC8.ld (by kernel_rfl) (by kernel_rfl),?_⟩
  have hno:∀ {z:Nat},z=b∨inR [] z→z=b:=fun hz=>by
    rcases hz with hz | ⟨e,he,_⟩
    · exact hz
    · cases he
  have tk:=W6 (K:=fun v w9=>∃ (n66:Int) (b66:Bool) (n66_1:Int) (p66:Option Addr) (l66 c66:Nat) (n66_2:Int),v=.agg #[.int .i64 n66,.bool b66,.int .i64 n66_1,.slice p66 l66 c66,.int .i64 n66_2]∧∃ o:OC,o.u.kd=n66∧o.u.ch=b66∧o.u.er=n66_1∧o.p=p66∧o.u.bs.length=l66∧o.c=c66∧o.u.us=n66_2∧Fr [b] w8 w9∧MintAt w9 b ((mx0 pl21).took o.u) br none [] 3 lo∧o.u=Xt 17)
    (x:=⟨F,p63,1,[5],p5,20,R20,100⟩) hM8 (by omega) ⟨hFo,hO63.row,by show 1≤1; omega,hO58.row,by show 20≤20; omega,by show 100<_; omega⟩
    ⟨fun _ z hz hh=>by have:=hO18.2.2 z (by rw [hF] at hz; exact hz); have:=hno hh; omega,
     fun _ z hz hh=>by have:=hO28.2.2 z (by rw [hF] at hz; exact hz); have:=hno hh; omega,
     fun _ z hz hh=>by rw [hF] at hz; simp [Xb] at hz,
     fun _ z hz hh=>by rw [hF] at hz; simp [Xb] at hz,
     fun _ z hz hh=>by have:=hO63.2.2 z hz; have:=hno hh; omega,
     fun _ z hz hh=>by have:=hO58.2.2 z hz; have:=hno hh; omega⟩
    ⟨by show 1≤1000; omega,by show 20≤1000; omega,by show F.tok.length≤5000; rw [hF]; show 0≤5000; omega,by show F.h.to.length≤1000; rw [hF]; show 2≤1000; omega,by show F.h.fr.length≤1000; rw [hF]; show 1≤1000; omega,by show F.st.length≤1000; rw [hF]; show 0≤1000; omega⟩
    ⟨by decide,by decide,by decide,by decide⟩ fun o L w' hL f hM' hO hu=>⟨_,_,_,_,_,_,_,rfl,o,rfl,rfl,rfl,rfl,rfl,rfl,rfl,f.mono fun z hz=>by rw [List.mem_singleton]; exact hno (hL z hz),hM',by
      rw [hu]; exact (Xgn (x:=⟨F,p63,1,[5],p5,20,R20,100⟩) (by show F.h.to=_; rw [hF]) (by show F.h.fr=_; rw [hF])).1 (by show F.tok=_; rw [hF])⟩
  refine J2 ?_ tk
  rintro v w9 ⟨_,_,_,_,_,_,_,rfl,o,rfl,rfl,rfl,rfl,rfl,rfl,rfl,f9,hM9,hu⟩
  refine ⟨_,_,_,_,_,_,_,rfl,?_⟩
  obtain ⟨uu,p7,c7⟩:=o
  have hu:uu=Xt 17:=hu
  subst hu
  replace hM9:MintAt w9 b ((mx0 pl21).took (Xt 17)) br none [] 3 lo:=hM9
  refine Vi (t:=Xx) (OC.mk (Xt 17) p7 c7).v rfl rfl (by kernel_rfl) (by kernel_rfl) fun w11 f11 hC7'=>?_
  obtain ⟨k7,hk7⟩:∃ k,k=w9.heap.size:=⟨_,rfl⟩
  rw [← hk7] at hC7' ⊢
  have n9:=f9.size; have n11:=f11.size
  have hM11:=hM9.fr0 f11
  have hC11:CAt w11 k6 F.v:=(hC8.fr f9 (by simp; omega)).fr0 f11
  have rowP:∀ {q:Option Addr} {l c lo':Nat} {xs:List UInt8},OB w8 q l c xs lo'→w.heap.size≤lo'→OB w11 q l c xs lo':=fun hO hl=>(hO.fr_sep f9 (by omega)).fr0 f11
  have hO5b:=rowP hO58 (Nat.le_refl _)
  have hO1b:=rowP hO18 (by omega)
  have hO2b:=rowP hO28 (by omega)
  have f0b:Fr [] w0 w11:=((f0.then f08).st f9 hb).then f11
  have lt7:=hC7'.lt
  have inst : ∀ (wa : World) (pk : Option Addr) (lo' : Nat), Fr [] w11 wa → OB wa pk 16 16 Z16 lo' → Xa Tryz.prog JC #[.pointer (some ⟨br, 0, none⟩), .int .i64 4, .slice pk 16 16] wa fun r70 w15 =>
      ∃ (n70:Int),r70=.int .i64 n70∧Jd false (some ⟨b,0,none⟩) p5 20 20 ⟨k6,0,none⟩ ⟨k7,0,none⟩ w15 K:=by
    intro wa pk lo' fa hOk
    have hMa:=hM11.fr0 fa
    have na:=fa.size
    refine Xcf (s:=4) hMa.r (by omega) hOk.row hOk.2.1 hOk.cap fun wb p' es' fb hR hp he hm=>⟨_,rfl,?_⟩
    have hba:=hMa.lt
    have hne:b≠br:=fun hh=>hMa.a.1 (by rw [hh]; exact List.mem_cons_self ..)
    have fb:Fr [br] wa wb:=fb
    have nb:=fb.size
    have fnb:Fr [] w0 wb:=(f0b.then fa).st fb hbr
    have notMB:∀ {z:Nat},z≠b→z≠br→z<wa.heap.size→¬ MB b br p' es' z:=by
      intro z h1 h2 h3 hh
      rcases hh with hh | hh | ⟨e,hE,h4,h5⟩
      · exact h1 hh
      · rcases List.mem_cons.1 hh with hh | hh
        · exact h2 hh
        · rcases hp z hh with hx | hx
          · simp [Xb] at hx
          · omega
      · rcases he e hE with hx | hx
        · cases hx
        · omega
    have lowMB:∀ z,MB b br p' es' z→w0.heap.size≤z:=by
      intro z hh
      have:=f0b.size
      rcases hh with hh | hh | ⟨e,hE,h4,h5⟩
      · omega
      · rcases List.mem_cons.1 hh with hh | hh
        · omega
        · rcases hp z hh with hx | hx
          · simp [Xb] at hx
          · omega
      · rcases he e hE with hx | hx
        · cases hx
        · omega
    have hrow:∀ {q:Option Addr} {l c lo2:Nat} {xs:List UInt8},OB w11 q l c xs lo2→w.heap.size≤lo2→OB wb q l c xs lo2∧(∀ z∈Xb q,¬ MB b br p' es' z)∧∀ z∈Xb q,z<wb.heap.size:=by
      intro q l c lo2 xs hO hl
      refine ⟨(hO.fr0 fa).fr_sep fb (by omega),fun z hz=>?_,fun z hz=>?_⟩
      · have h1:=hO.2.2 z hz; have h2:=hO.lt z hz
        exact notMB (by omega) (by omega) (by omega)
      · have h2:=hO.lt z hz; omega
    obtain ⟨q5,q5a,q5b⟩:=hrow hO5b (Nat.le_refl _)
    obtain ⟨q1,q1a,q1b⟩:=hrow hO1b (by omega)
    obtain ⟨q2,q2a,q2b⟩:=hrow hO2b (by omega)
    have A:AS w0 wb b ((mx0 pl21).took (Xt 17)) br p' es' 3 lo k6 F p5 k7 p7 c7:=by
      refine ⟨⟨hMa.c.fr fb (by simpa using hne),hR,Wi hMa.a hba hp he,hMa.o⟩,hm.trans (by rfl),rfl,fnb,lowMB,(hC11.fr0 fa).fr fb (by simp; omega),notMB (by omega) (by omega) (by omega),by omega,?_,?_,by rw [hF],by rw [hF],by rw [hF],q5.row,fun z hz hh=>?_,(hC7'.fr0 fa).fr fb (by simp; omega),fun hh=>?_,?_⟩
      · rw [hF]; exact ⟨⟨q1.row,q1.cap,q2.row,q2.cap,by show 0<256; omega,by show 0<4294967296; omega⟩,Row.nil _ _,Nat.le_refl _,Row.nil _ _,Nat.le_refl _⟩
      · rw [hF]
        refine ⟨fun z hz hh=>?_,fun z hz hh=>?_,fun z hz=>by simp [Xb] at hz,fun z hz=>by simp [Xb] at hz⟩
        · rcases hh with hh | hh
          · exact q1a z hz hh
          · have:=hO1b.2.2 z hz; omega
        · rcases hh with hh | hh
          · exact q2a z hz hh
          · have:=hO2b.2.2 z hz; omega
      · rcases hh with hh | hh
        · exact q5a z hz hh
        · have:=hO5.lt z hz; omega
      · rcases hh with hh | hh
        · exact notMB (by omega) (by omega) (by omega) hh
        · omega
      · rw [hF]
        rintro z (hz | hz | hz | hz | hz)
        · exact q1b z hz
        · exact q2b z hz
        · simp [Xb] at hz
        · simp [Xb] at hz
        · exact q5b z hz
    exact XtT A (by rw [hF]) (Nat.le_refl _) hk
  refine ⟨fun _=>True,Drw.intro fun w12 f12 s12=>?_⟩
  constructor
  · refine Ua (hM11.fr0 f12) ⟨_,rfl,mkN (n:=16) (c:=16) (by omega) (by omega) fun pk w14 f14 hOk s14=>?_⟩
    exact inst w14 pk _ (f12.then f14) hOk
  · refine mkN (n:=16) (c:=16) (by omega) (by omega) fun pk w14 f14 hOk s14=>?_
    refine Ua (hM11.fr0 (f12.then f14)) ⟨_,rfl,?_⟩
    exact inst w14 pk _ (f12.then f14) hOk
theorem Xm9 (hk:∀ w',Fr [] w w'→K (.bool true) w'):Xa Tryz.prog Xnd #[] w K:=by
  apply XiE
  unfold XhJ
  refine XaJ (q:=pl21) (fun hh=>absurd (by decide) hh) fun b br lo w1 _ f1 hM e1 e2 e3 e4=>⟨_,_,rfl,?_⟩
  refine XaJ (q:=⟨0,false,0,0⟩) (fun _ w2 f2=>⟨_,_,rfl,?_⟩) fun _ _ _ _ hh=>absurd hh (by decide)
  have hM2:=hM.fr0 f2
  refine ⟨_,_,ptrNil (by kernel_rfl),Xi (Xi (Xi (Ua hM2 ⟨_,rfl,_,_,ptrNil (by kernel_rfl),Xi ⟨_,rfl,Jh hM2 fun w3 f3=>⟨_,rfl,?_⟩⟩⟩)))⟩
  refine Xi (XtU (hM2.fr0 f3) ((f1.then f2).then f3) e3 e1 e2 hk)
end
end Go.Sh
end

section
namespace Go.Sh
open Go Go.Fw Go.Proofs
set_option maxRecDepth 100000
set_option linter.unusedVariables false
section
variable {w:World} {K:VWP}
theorem MintCounts_c {g:MP} {p1:Option Addr} {l1 c1:Nat} {cs:List MC} (h1':Row w p1 (cs.flatMap MC.v)) (hok':∀ x∈cs,MC.ok w x) (hl1:l1=cs.length) (h:∀ w',Fr [] w w'→K (.bool true) w') :
    Xa Tryz.prog XeK #[g.a,.slice p1 l1 c1] w K:=by
  apply Xcb
  unfold QF
  refine Zk (t:=Jz) g.v fun w1 f1 hC s1=>?_
  obtain ⟨k2,hk2⟩:∃ k,k=w.heap.size:=⟨_,rfl⟩
  rw [← hk2] at hC ⊢
  refine Xm9 fun w2 f2=>⟨_,rfl,Xi ?_⟩
  have f02:=f1.then f2
  refine Xu7 (h1'.fr0 f02) hl1 (fun w3 f3=>⟨_,rfl,Xm (h w3 (f02.then f3))⟩) fun w3 f3 hfew=>⟨_,rfl,Xi ?_⟩
  have f03:=f02.then f3
  have hC3:=(hC.fr0 f2).fr0 f3
  have h1:=h1'.fr0 f03
  have hok:∀ x∈cs,MC.ok w3 x:=fun x hx=>(hok' x hx).fr0 f03
  refine ⟨_,_,_,_,hC3.ld (by kernel_rfl) (by kernel_rfl),XaJ (q:=g) (fun hg w4 f4=>⟨_,_,rfl,?_⟩) fun b br lo w4 hg f4 hM e1 e2 e3 e4=>⟨_,_,rfl,?_⟩⟩
  · refine ⟨_,_,_,_,(hC3.fr0 f4).ld (by kernel_rfl) (by kernel_rfl),XkV (q:=g) fun w5 f5=>⟨_,_,_,_,rfl,?_⟩⟩
    refine XkU (g:=g) (fun _ w6 f6=>⟨_,_,rfl,X1 rfl ?_⟩) fun _ _ _ _ hh=>absurd hh hg
    unfold Yi
    have f36:=(f4.then f5).then f6
    refine Xm ⟨_,_,_,_,(hC3.fr0 f36).ld (by kernel_rfl) (by kernel_rfl),XkV (q:=g) fun w7 f7=>⟨_,_,_,_,rfl,QM (g:=g) fun w8 f8=>⟨_,rfl,?_⟩⟩⟩
    rw [decide_eq_false hg]
    exact h w8 ((f03.then f36).then (f7.then f8))
  refine ⟨_,_,_,_,(hC3.fr0 f4).ld (by kernel_rfl) (by kernel_rfl),XkV (q:=g) fun w5 f5=>⟨_,_,_,_,rfl,?_⟩⟩
  refine XkU (g:=g) (fun hh=>absurd hg hh) fun c r lo2 w6 _ f6 hR e5 e6 e7=>⟨_,_,rfl,?_⟩
  have T6:Two w3 w6 b (mx0 g) br none [] 1 lo c r none [] lo2:=Two.new hM f4 (by omega) (by omega) (by omega) f5 f6 hR e5 e6 e7
  refine Xi ⟨_,_,ptrNil (by kernel_rfl),Xi (Ua T6.M ⟨_,rfl,_,_,ptrNil (by kernel_rfl),Xi ⟨_,_,ptrNil (by kernel_rfl),?_⟩⟩)⟩
  unfold Yi
  refine Xi ?_
  unfold Vt
  have hl60:=hfew.1
  refine LoopS.ind (fun k us w'=>∃ (i:Nat) (X:MX) (p q:Option Addr) (es:List RE) (rs:List RR),i+k=l1∧us=[.slice p1 l1 c1,.bool false,.pointer (some ⟨b,0,none⟩),.pointer (some ⟨c,0,none⟩),.int .i64 ((X.c0+X.c1+X.c2:Nat):Int),.int .i64 (X.now:Int),.int .i64 (X.last:Int),.int .i64 (i:Int)]∧Two w3 w' b X br p es (2*(i:Int)+1) lo c r q rs lo2∧X.now≤i∧X.c0+X.c1+X.c2≤i∧X.last≤i) l1
    ⟨0,mx0 g,none,none,[],[],by omega,rfl,T6.mono (by omega),Nat.le_refl _,Nat.le_refl _,Nat.le_refl _⟩ ?_
  rintro k us rr wa I μ hgo ⟨i,X,p,q,es,rs,hik,rfl,T,hn1,hn2,hn3⟩
  refine ⟨_,_,_,_,_,_,_,_,_,_,rfl,Xc (fun hlt=>?_) fun hge=>h wa (f03.then T.f)⟩
  obtain ⟨x,gg,o,hx,hm,ha,hld,_⟩:=Xmc (c0:=c1) (h1.fr0 T.f) hl1 (i:=i) (by omega)
  refine ⟨_,ha,_,hld,Xyp T ⟨by omega,by omega⟩ (hok x hm) (hfew.2 x hm) ⟨by omega,by omega,by omega,by omega⟩ fun w' X' p' es' q' rs' L f hL T' hp hq he hE hc=>⟨_,rfl,?_⟩⟩
  obtain ⟨x2,g2,o2,hx2,_,ha2,_,hop2⟩:=Xmc (c0:=c1) (h1.fr0 T'.f) hl1 (i:=i) (by omega)
  have ex:x2=x:=by rw [hx] at hx2; exact (Option.some.inj hx2).symm
  subst ex
  refine ⟨_,ha2,_,hop2,?_⟩
  have hcn:=hc.n; have hcs:=hc.s; have hcl:=hc.l
  have T'':Two w3 w' b X' br p' es' (2*((i+1:Nat):Int)+1) lo c r q' rs' lo2:=T'.mono (by omega)
  have j1:X'.now≤i+1→X'.c0+X'.c1+X'.c2≤i+1→X'.last≤i+1→Zt I μ [.slice p1 l1 c1,.bool false,.pointer (some ⟨b,0,none⟩),.pointer (some ⟨c,0,none⟩),.int .i64 ((X.c0+X.c1+X.c2:Nat):Int),.int .i64 (X.now:Int),.int .i64 (X.last:Int),.int .i64 (i:Int)] wa p1 l1 c1 false (some ⟨b,0,none⟩) (some ⟨c,0,none⟩) ((X'.c0+X'.c1+X'.c2:Nat):Int) (X'.now:Int) (X'.last:Int) (i:Int) w' K:=by
    intro a1 a2 a3
    unfold Zt
    refine Xga T'.M fun wb fb=>⟨_,_,_,rfl,_,rfl,XkS (T'.M.fr0 fb) fun wc fc=>⟨_,_,rfl,?_⟩⟩
    have e1:IntKind.i64.wrap (IntKind.i64.wrap ((X'.c0:Int)+(X'.c1:Int))+(X'.c2:Int))=((X'.c0+X'.c1+X'.c2:Nat):Int):=by
      rw [Xe (n:=(X'.c0:Int)+(X'.c1:Int)) (by omega) (by omega),Xe (by omega) (by omega)]; omega
    rw [e1]
    refine Xq (fun hh=>absurd rfl hh) fun _=>Xc (fun hh=>absurd hh (by omega)) fun _=>Xc (fun hh=>absurd hh (by omega)) fun _=>Xc (fun hh=>absurd hh (by omega)) fun _=>Xq (fun hh=>absurd rfl hh) fun _=>Xq (fun hh=>absurd rfl hh) fun _=>?_
    rw [Xe (by omega) (by omega)]
    exact hgo _ _ _ (k - 1) (by omega) ⟨i+1,X',p',q',es',rs',by omega,rfl,T''.fr0 (fb.then fc),a1,a2,a3⟩
  refine Xu (fun h0=>?_) fun h0=>?_
  · rw [if_pos h0] at hcn hcs hcl
    have e2:IntKind.i64.wrap (((X.c0+X.c1+X.c2:Nat):Int)+1)=((X'.c0+X'.c1+X'.c2:Nat):Int):=by rw [Xe (by omega) (by omega)]; omega
    have e3:IntKind.i64.wrap ((X.now:Int)+1)=(X'.now:Int):=by rw [Xe (by omega) (by omega)]; omega
    unfold Zu
    refine ⟨_,ha2,_,hop2,Xu (fun hh=>by omega) fun _=>?_⟩
    have j:=j1 (by omega) (by omega) (by omega)
    rw [hcl,← e2,← e3] at j
    exact j
  · rw [if_neg h0] at hcn hcs hcl
    unfold Zu
    refine ⟨_,ha2,_,hop2,Xu (fun h1=>?_) fun h1=>?_⟩
    · rw [if_pos h1] at hcn hcl
      have e2:((X.c0+X.c1+X.c2:Nat):Int)=((X'.c0+X'.c1+X'.c2:Nat):Int):=by omega
      have j:=j1 (by omega) (by omega) (by omega)
      rw [hcn,hcl,← e2] at j
      exact j
    · rw [if_neg h1] at hcn hcl
      have e2:((X.c0+X.c1+X.c2:Nat):Int)=((X'.c0+X'.c1+X'.c2:Nat):Int):=by omega
      have j:=j1 (by omega) (by omega) (by omega)
      rw [hcn,hcl,← e2] at j
      exact j
end
end Go.Sh
end

section
namespace Go.Sh
open Go Go.Fw Go.Proofs
set_option maxRecDepth 100000
set_option linter.unusedVariables false
def V0:VI:=⟨rt0,none,0,[],none,0,[],0⟩
theorem Xy8 (w:World):VI.ok w V0:=⟨⟨⟨Row.nil _ _,Nat.le_refl _,Row.nil _ _,Nat.le_refl _,by show 0<256; omega,by show 0<4294967296; omega⟩,Row.nil _ _,Nat.le_refl _,Row.nil _ _,Nat.le_refl _⟩,Row.nil _ _,Nat.le_refl _,Row.nil _ _,Nat.le_refl _,by show 0<18446744073709551616; omega⟩
theorem Xyx (P:Nat→Prop):V0.off P:=⟨fun h=>absurd h (by decide),fun h=>absurd h (by decide),fun h=>absurd h (by decide),fun h=>absurd h (by decide),fun h=>absurd h (by decide),fun h=>absurd h (by decide)⟩
theorem Xyy:V0.few:=⟨by decide,by decide,by decide,by decide,by decide,by decide⟩
theorem Xyz (pl:MP) (act:Bool):(XQ [] pl act V0).kd=if act=true then 2 else 0:=by
  unfold XQ
  rw [if_pos (show Y0 V0.f.tok=true from rfl)]
  split
  · unfold Yq; rw [if_pos (show ([]:List KE).length=0 from rfl)]; rfl
  · rfl
section
variable {w:World} {K:VWP}
theorem Xgo {a b:Bool} {A B:Prop} (h:a=b) (hb:B):cond (!(a == b)) A B:=by subst h; simpa using hb
theorem MintThreshold_c {th:Int} {p1:Option Addr} {l1 c1:Nat} {bs:List UInt8} (h1':Row w p1 (bs.map vb)) (hl1:l1=bs.length) (h:∀ w',Fr [] w w'→K (.bool true) w') :
    Xa Tryz.prog Xbu #[.int .i64 th,.slice p1 l1 c1] w K:=by
  apply QE
  unfold Vs
  refine Xm9 fun w1 f1=>⟨_,rfl,Xi ?_⟩
  refine Xc (fun _=>h w1 f1) fun hl=>Xc (fun _=>h w1 f1) fun ht1=>Xc (fun _=>h w1 f1) fun ht2=>?_
  unfold Uy
  have h1:=h1'.fr0 f1
  have hg:(⟨1,false,th,0⟩:MP).ok:=⟨by show (0:Int)≤1; omega,by show (1:Int)≤2; omega,by show 1≤th; omega,by show th≤65535; omega,by show 0≤1099511627776; omega⟩
  refine XaJ (q:=⟨1,false,th,0⟩) (fun hh=>absurd hg hh) fun b br lo w2 _ f2 hM e1 e2 e3 e4=>⟨_,_,rfl,_,_,ptrNil (by kernel_rfl),Xi (Xi ?_)⟩
  unfold Ux
  have hactS:∀ X:MX,X.pl=⟨1,false,th,0⟩→X.act=decide (th≤(X.now:Int)∨th≤(X.last:Int)):=fun X hX=>by
    unfold MX.act
    apply decide_eq_decide.2
    rw [hX]
    constructor
    · rintro (hh | hh)
      · exact absurd hh (by show ¬ (1:Int)=2; omega)
      · exact hh.2
    · exact fun hh=>.inr ⟨rfl,hh⟩
  have pb:∀ {wa:World},MintAt wa b (mx0 ⟨1,false,th,0⟩) br none [] 1 lo→True:=fun _=>trivial
  refine LoopS.ind (fun k us w'=>∃ (i:Nat) (X:MX) (N:Int),i+k=l1∧us=[.int .i64 th,.slice p1 l1 c1,.bool false,.pointer (some ⟨b,0,none⟩),.int .i64 (X.last:Int),.int .i64 (i:Int)]∧MintAt w' b X br none [] N lo∧Fr [] w1 w'∧X.pl=⟨1,false,th,0⟩∧X.now=0∧X.last<20∧X.c0+X.c1+X.c2≤20*i∧N≤1+40*(i:Int)∧1≤N) l1
    ⟨0,mx0 ⟨1,false,th,0⟩,1,by omega,rfl,hM,f2,rfl,rfl,by show 0<20; omega,Nat.le_refl _,by omega,by omega⟩ ?_
  rintro k us rr wa I μ hgo ⟨i,X,N,hik,rfl,hMa,fa,hpl,hn0,hll,hcc,hNN,hN1⟩
  refine ⟨_,_,_,_,_,_,_,_,rfl,Xc (fun hlt=>?_) fun hge=>h wa (f1.then fa)⟩
  have hrow:=h1.fr0 fa
  obtain ⟨a0,ha0,hca0⟩:=Xw (t:=Xf) (by kernel_rfl) hrow (c:=c1) hl1 (i:=i) (by omega) (k:=.i64)
  obtain ⟨y,hy⟩:∃ y:Nat,y=(bs.getD i 0).toNat:=⟨_,rfl⟩
  have hy256:y<256:=by rw [hy]; exact (bs.getD i 0).toNat_lt
  have emod:Int.tmod (IntKind.i64.wrap ((bs.getD i 0).toNat:Int)) 20=((y % 20:Nat):Int):=by
    rw [← hy,Xe (by omega) (by omega)]
    rw [Int.tmod_eq_emod_of_nonneg (by omega)]; omega
  have rowAt:∀ {w':World},Fr [] w1 w'→∃ a,IxA Tryz.prog Xf (.slice p1 l1 c1) (.int .i64 (i:Int)) a∧Ld Tryz.prog ZB (.pointer (some a)) w' (.int .u8 ((bs.getD i 0).toNat:Int)):=fun f=>by
    obtain ⟨a0,ha0,hca0⟩:=Xw (t:=Xf) (by kernel_rfl) (h1.fr0 f) (c:=c1) hl1 (i:=i) (by omega) (k:=.i64)
    exact ⟨a0,ha0,Ld.cell (by kernel_rfl) hca0⟩
  have hbw:w1.heap.size≤b:=e3
  refine LoopS.ind (fun k2 us2 w'=>∃ (n:Nat) (Y:MX) (M:Int),n+k2=y % 20∧us2=[.int .i64 th,.slice p1 l1 c1,.bool false,.pointer (some ⟨b,0,none⟩),.int .i64 (X.last:Int),.int .i64 (i:Int),.int .i64 (n:Int)]∧MintAt w' b Y br none [] M lo∧Fr [] w1 w'∧Y.pl=⟨1,false,th,0⟩∧Y.now=n∧Y.last=X.last∧Y.c0+Y.c1+Y.c2≤20*i+n∧M≤1+40*(i:Int)+2*(n:Int)∧1≤M) (y % 20)
    ⟨0,X,N,by omega,rfl,hMa,fa,hpl,hn0,rfl,by omega,by omega,hN1⟩ ?_
  rintro k2 us2 rr2 wb I2 μ2 hgo2 ⟨n,Y,M,hnk,rfl,hMb,fb,hpl2,hnn,hlast,hcc2,hMM,hM1⟩
  obtain ⟨a1,ha1,hl1'⟩:=rowAt fb
  refine ⟨_,_,_,_,_,_,_,_,_,rfl,_,ha1,_,hl1',?_⟩
  rw [emod]
  refine Xc (fun hlt2=>?_) fun hge2=>?_
  · refine W6 (x:=V0) hMb (by omega) (Xy8 _) (Xyx _) Xyy ⟨by omega,by omega,by omega,by omega⟩ fun o L wc hL fc hMc hOc huc=>⟨_,_,_,_,_,_,_,rfl,?_⟩
    have hL':∀ z∈L,z=b:=fun z hz=>by
      rcases hL z hz with hh | ⟨e,he,_⟩
      · exact hh
      · cases he
    have fbc:Fr [] w1 wc:=fb.trans fc fun z hz=>.inr (by have:=hL' z hz; omega)
    have hkd:o.u.kd=if Y.see.act=true then 2 else 0:=by rw [huc]; exact Xyz _ _
    refine Vi (t:=Xx) o.v rfl rfl (by kernel_rfl) (by kernel_rfl) fun wd fd hCd=>?_
    obtain ⟨k10,hk10⟩:∃ k,k=wc.heap.size:=⟨_,rfl⟩
    rw [← hk10] at hCd ⊢
    refine ⟨fun w'=>Fr [] wd w',Drw.intro fun we fe se=>⟨_,rfl,?_⟩⟩
    have hMe:=(hMc.fr0 fd).fr0 fe
    have hact:(Y.took o.u).act=Y.see.act:=by
      rw [hactS _ (show (Y.took o.u).pl=_ from hpl2),hactS _ (show Y.see.pl=_ from hpl2)]; rfl
    have hactY:Y.see.act=decide (th≤((n+1:Nat):Int)∨th≤(X.last:Int)):=by
      rw [hactS _ (show Y.see.pl=_ from hpl2)]
      show decide (th≤((Y.now+1:Nat):Int)∨th≤(Y.last:Int))=_
      rw [hnn,hlast]
    refine Jh hMe fun wf ff=>⟨_,rfl,.inr (fe.then ff),fun w'=>Fr [] wd w',fun _ hh=>hh,?_⟩
    rw [hact]
    have hCf:=(hCd.fr0 fe).fr0 ff
    have fdf:=fe.then ff
    have tail : ∃ (a74 : Addr), (some ⟨b, 0, none⟩ : Option Addr) = some a74 ∧ ∃ (n71 : Int), HLd Tryz.prog (fun w' => Fr [] wd w') X2 (.pointer (some ((⟨k10, 0, none⟩ : Addr).add 0))) wf (.int .i64 n71) ∧
        Xa Tryz.prog Vo #[.pointer (some (a74.add 0))] wf fun r76 w6=>∃ (b76:Bool),r76=.bool b76∧(w6=wf∨Fr [] wd w6)∧
          cond (!((n71 == 0) == (!b76))) (K (.bool false) w6) (Xg [] [] I2 μ2 [.int .i64 th,.slice p1 l1 c1,.bool false,.pointer (some ⟨b,0,none⟩),.int .i64 (X.last:Int),.int .i64 (i:Int),.int .i64 (n:Int)] [.int .i64 th,.slice p1 l1 c1,.bool false,.pointer (some ⟨b,0,none⟩),.int .i64 (X.last:Int),.int .i64 (i:Int),.int .i64 (IntKind.i64.wrap ((n:Int)+1))] wb w6):=by
      refine ⟨_,rfl,_,⟨fdf,fun w' hw=>(hCd.fr0 hw).get (by kernel_rfl) (j:=0) rfl⟩,?_⟩
      refine Jh (hMe.fr0 ff) fun wg fg=>⟨_,rfl,.inr (fdf.then fg),?_⟩
      rw [hact]
      refine Xgo ?_ ?_
      · rw [hkd]
        cases Y.see.act <;> rfl
      · rw [Xe (by omega) (by omega)]
        refine hgo2 _ _ _ (k2 - 1) (by omega) ⟨n+1,Y.took o.u,M+2,by omega,rfl,(hMe.fr0 ff).fr0 fg,((fbc.then fd).then fdf).then fg,hpl2,?_,hlast,?_,by omega,by omega⟩
        · show Y.now+1=n+1; omega
        · show Y.c0+(if o.u.kd=0 then 1 else 0)+(Y.c1+(if o.u.kd=1 then 1 else 0))+(Y.c2+(if o.u.kd=2 then 1 else 0))≤20*i+(n+1)
          rw [hkd]
          cases Y.see.act <;> simp <;> omega
    refine Xc (fun hge3=>?_) fun hlt3=>?_
    · have:Y.see.act=true:=by rw [hactY]; exact decide_eq_true (.inr (by omega))
      refine Xgo this tail
    · rw [Xe (by omega) (by omega)] at tail ⊢
      have:Y.see.act=decide ((n:Int)+1≥th):=by rw [hactY]; exact decide_eq_decide.2 (by omega)
      refine Xgo this tail
  ·
    have hny:n=y % 20:=by omega
    unfold Uw
    obtain ⟨a2,ha2,hl2'⟩:=rowAt fb
    refine ⟨_,ha2,_,hl2',_,rfl,Xdw hMb fun wc fc hMc=>⟨rfl,_,rfl,Jh hMc fun wd fd=>⟨_,rfl,?_⟩⟩⟩
    have hT:Y.tick.act=decide (((y % 20:Nat):Int)≥th):=by
      rw [hactS _ (show Y.tick.pl=_ from hpl2)]
      show decide (th≤((0:Nat):Int)∨th≤(Y.now:Int))=_
      rw [hnn,hny]
      exact decide_eq_decide.2 (by omega)
    rw [emod]
    refine Xgo hT ?_
    rw [Xe (by omega) (by omega)]
    have hym:y % 20<20:=Nat.mod_lt _ (by omega)
    have fbc:Fr [] w1 wc:=fb.st fc hbw
    have el:((y % 20:Nat):Int)=(Y.tick.last:Int):=by show _=(Y.now:Int); rw [hnn,hny]
    rw [el]
    refine hgo _ _ _ (k - 1) (by omega) ⟨i+1,Y.tick,M,by omega,rfl,hMc.fr0 fd,fbc.then fd,hpl2,rfl,?_,?_,by omega,hM1⟩
    · show Y.now<20; omega
    · show Y.c0+Y.c1+Y.c2≤20*(i+1); omega
end
end Go.Sh
end
