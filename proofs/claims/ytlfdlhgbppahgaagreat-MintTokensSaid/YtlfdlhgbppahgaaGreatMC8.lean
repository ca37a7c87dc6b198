/- A part of a proof of a given law of this program: lemmas, printed forms of its functions, contracts. It has no conditions of its own. -/
import Derived.Lib.SlBytesConst
import Derived.Test.YtlfdlhgbppahgaaGreatMC7
import Derived.Test.YtlfdlhgbppahgaaGreatMC4

set_option maxHeartbeats 16000000
section
namespace Go.Sh
open Go Go.Fw Go.Proofs
set_option maxRecDepth 100000
set_option linter.unusedVariables false
theorem Xdv {ks:List KE} {pl:MP} {act:Bool} {x y:VI} (h1:x.f.h.to=y.f.h.to) (h2:x.f.h.fr=y.f.h.fr) (h3:x.f.tok=y.f.tok) (h4:x.cl=y.cl) (h5:x.rd=y.rd) (h6:x.now=y.now):XI ks pl act x=XI ks pl act y:=by
  unfold XI XX YS VV Yw VU
  rw [h1,h2,h3,h4,h5,h6]
theorem Xmr {to fr id tok:List UInt8} (h:rtE to fr id tok=0):(rtL to fr id tok).length≤5000∧to.length≤20∧fr.length≤20∧id.length≤20∧1≤tok.length∧tok.length≤4096:=by
  have h1:¬ (20<to.length∨20<fr.length∨20<id.length):=fun hh=>by unfold rtE at h; rw [if_pos hh] at h; omega
  have h2:¬ (tok.length<1∨4096<tok.length):=fun hh=>by unfold rtE at h; rw [if_neg h1,if_pos hh] at h; omega
  refine ⟨?_,by omega,by omega,by omega,by omega,by omega⟩
  unfold rtL
  rw [if_pos h,List.length_append,Qe (by omega) (by rw [VT]; omega),VT]
  omega
theorem Xwg (ks:List KE) (li:Nat) (x:VI):(XX ks li x).bs.length≤5000:=by
  unfold XX
  split
  · show 0≤5000; omega
  · split
    · show 0≤5000; omega
    · split
      · show 0≤5000; omega
      · split
        · show 0≤5000; omega
        · rename_i h
          exact (Xmr (by omega)).1
theorem Xwh (ks:List KE) (pl:MP) (act:Bool) (x:VI):(XI ks pl act x).bs.length≤5000:=by
  unfold XI
  have:=Xwg ks pl.li x
  split
  · split
    · exact this
    · show 0≤5000; omega
  · split
    · show 0≤5000; omega
    · split
      · show 0≤5000; omega
      · split
        · show 0≤5000; omega
        · exact this
structure Cnt (x:MC) (X X':MX):Prop where
  n:X'.now=if x.op=0 then X.now+1 else if x.op=1 then 0 else X.now
  l:X'.last=if x.op=0 then X.last else if x.op=1 then X.now else X.last
  s:X'.c0+X'.c1+X'.c2=X.c0+X.c1+X.c2+if x.op=0 then 1 else 0
structure Two (w0 w:World) (b:Nat) (X:MX) (br:Nat) (p:Option Addr) (es:List RE) (N:Int) (lo c r:Nat) (q:Option Addr) (rs:List RR) (lo2:Nat):Prop where
  M:MintAt w b X br p es N lo
  R:RefMt w c X r q rs lo2
  A:Apart br p es r q rs
  ko:Vo es rs
  m:es.map RE.ke=rs.map RR.ke
  x1:Xbi r q rs b
  x2:offR br p es c
  x3:b≠c
  f:Fr [] w0 w
  b0:w0.heap.size≤b
  c0:w0.heap.size≤c
  g0:w0.heap.size≤br
  r0:w0.heap.size≤r
  l0:w0.heap.size≤lo
  m0:w0.heap.size≤lo2
def TT (b br:Nat) (p:Option Addr) (es:List RE) (c r:Nat) (q:Option Addr) (z:Nat):Prop:=z=b∨z=c∨z∈br::Xb p∨z∈r::Xb q∨inR es z
section
variable {w0 w:World} {b br lo c r lo2:Nat} {X:MX} {p q:Option Addr} {es:List RE} {rs:List RR} {N:Int} {K:VWP} {x:MC}
theorem Two.low (h:Two w0 w b X br p es N lo c r q rs lo2) {z:Nat} (hz:TT b br p es c r q z):w0.heap.size≤z:=by
  rcases hz with rfl | rfl | hz | hz | ⟨e,he,h1,h2⟩
  · exact h.b0
  · exact h.c0
  · rcases List.mem_cons.1 hz with rfl | hz
    · exact h.g0
    · have:=(h.M.r.arr z hz).1; have:=h.l0; omega
  · rcases List.mem_cons.1 hz with rfl | hz
    · exact h.r0
    · have:=(h.R.rf.arr z hz).1; have:=h.m0; omega
  · have:=(h.M.r.ent e he).2.1; have:=h.l0; omega
theorem Two.lt (h:Two w0 w b X br p es N lo c r q rs lo2) {z:Nat} (hz:TT b br p es c r q z):z<w.heap.size:=by
  rcases hz with rfl | rfl | hz | hz | ⟨e,he,h1,h2⟩
  · exact h.M.lt
  · exact h.R.lt
  · exact h.M.r.lt z hz
  · exact h.R.rf.lt z hz
  · have:=(h.M.r.ent e he).1.lh; omega
theorem Two.sq (h:Two w0 w b X br p es N lo c r q rs lo2):∀ e∈rs,e.sq≤127:=by
  intro e he
  have:e.ke∈es.map RE.ke:=by rw [h.m]; exact List.mem_map_of_mem he
  obtain ⟨d,hd,hde⟩:=List.mem_map.1 this
  have h1:=(h.M.r.ent d hd).2.2
  have:d.ke.sq=e.ke.sq:=by rw [hde]
  have e1:d.sq=e.sq:=this
  omega
theorem Two.news (h:Two w0 w b X br p es N lo c r q rs lo2) {w':World} {L:List Nat} (f:Fr L w w') (hL:∀ z∈L,TT b br p es c r q z):Fr [] w0 w':=h.f.trans f fun z hz=>.inr (h.low (hL z hz))
theorem Two.fr0 (h:Two w0 w b X br p es N lo c r q rs lo2) {w':World} (f:Fr [] w w'):Two w0 w' b X br p es N lo c r q rs lo2:=⟨h.M.fr0 f,h.R.fr0 f,h.A,h.ko,h.m,h.x1,h.x2,h.x3,h.f.then f,h.b0,h.c0,h.g0,h.r0,h.l0,h.m0⟩
theorem Two.mono {N':Int} (h:Two w0 w b X br p es N lo c r q rs lo2) (hN:N≤N'):Two w0 w b X br p es N' lo c r q rs lo2:=⟨h.M.mono hN,h.R,h.A,h.ko,h.m,h.x1,h.x2,h.x3,h.f,h.b0,h.c0,h.g0,h.r0,h.l0,h.m0⟩
theorem Two.refOff (h:Two w0 w b X br p es N lo c r q rs lo2) {z:Nat} (hz:z=b∨inR es z):Xbi r q rs z∧z≠c:=by
  rcases hz with rfl | hz
  · exact ⟨h.x1,h.x3⟩
  · refine ⟨XsE h.A h.ko hz,fun hh=>?_⟩
    obtain ⟨e,he,h1,h2⟩:=hz
    have:=h.x2.2 e he; omega
theorem CAt.ldAt2 {t:TypeId} {k o:Nat} {cs ds:List Value} (h:CAt w k cs) (hl:o+ds.length≤cs.length) (hd:∀ j v,ds[j]?=some v→cs[o+j]?=some v) (ht:res Tryz.prog (isAgg t)=some true) (hs:res Tryz.prog (sizeOf t)=some ds.length):Ld Tryz.prog t (.pointer (some ((⟨k,0,none⟩:Addr).add o))) w (.agg ⟨ds⟩):=by
  obtain ⟨g,hB,hv⟩:=h
  rw [Xg,Nat.zero_add]
  exact LdA (m:=ds.length) ht hs hB (o:=o) hl ds rfl fun j v hj=>hv (o+j) v (hd j v hj)
theorem MC.ldF {k:Nat} (h:CAt w k x.v):Ld Tryz.prog Zd (.pointer (some ((⟨k,0,none⟩:Addr).add 8))) w x.f.a:=
  h.ldAt2 (ds:=x.f.v) (by show 8+6≤15; omega) (fun j v hj=>by
    match j with
    | 0=>exact hj
    | 1=>exact hj
    | 2=>exact hj
    | 3=>exact hj
    | 4=>exact hj
    | 5=>exact hj
    | j+6=>cases hj) (by kernel_rfl) (by kernel_rfl)
theorem MC.ldP {k:Nat} (h:CAt w k x.v):Ld Tryz.prog YA (.pointer (some ((⟨k,0,none⟩:Addr).add 2))) w x.pl.a:=
  h.ldAt2 (ds:=x.pl.v) (by show 2+4≤15; omega) (fun j v hj=>by
    match j with
    | 0=>exact hj
    | 1=>exact hj
    | 2=>exact hj
    | 3=>exact hj
    | j+4=>cases hj) (by kernel_rfl) (by kernel_rfl)
theorem Two.rings (h:Two w0 w b X br p es N lo c r q rs lo2) {w':World} {p' q':Option Addr} {es':List RE} {rs':List RR} (f:Fr ((br::Xb p)++(r::Xb q)) w w') (hR:RingAt w' br p' es' N lo) (hS:RefAt w' r q' rs' lo2) (hA:Apart br p' es' r q' rs')
    (hp:∀ k∈Xb p',k∈Xb p∨w.heap.size≤k) (hq:∀ k∈Xb q',k∈Xb q∨w.heap.size≤k) (he:∀ e∈es',e∈es∨w.heap.size≤e.lo) (hr:∀ e∈rs',e∈rs∨∀ k∈Xb e.kp,w.heap.size≤k) (hko:Vo es rs→Vo es' rs') (hm:es'.map RE.ke=rs'.map RR.ke):Two w0 w' b X br p' es' N lo c r q' rs' lo2:=by
  have hbl:=h.M.lt; have hcl:=h.R.lt
  have hb:b∉(br::Xb p)++(r::Xb q):=fun hm=>by
    rcases List.mem_append.1 hm with hm | hm
    · exact h.M.a.1 hm
    · exact h.x1.1 hm
  have hc:c∉(br::Xb p)++(r::Xb q):=fun hm=>by
    rcases List.mem_append.1 hm with hm | hm
    · exact h.x2.1 hm
    · exact h.R.a.1 hm
  refine ⟨⟨h.M.c.fr f hb,hR,Wp h.M.a hbl hp he,h.M.o⟩,⟨h.R.c.fr f hc,hS,XaM h.R.a hcl hq hr,h.R.o⟩,hA,hko h.ko,hm,XaM h.x1 hbl hq hr,Wp h.x2 hcl hp he,h.x3,h.news f fun z hz=>?_,h.b0,h.c0,h.g0,h.r0,h.l0,h.m0⟩
  rcases List.mem_append.1 hz with hz | hz
  · exact .inr (.inr (.inl hz))
  · exact .inr (.inr (.inr (.inl hz)))
theorem Two.entKeep (h:Two w0 w b X br p es N lo c r q rs lo2) {w':World} (f:Fr ((br::Xb p)++(r::Xb q)) w w') {e:RE} (he:e∈es):EntAt w' e N:=
  (h.M.r.ent e he).1.fr f fun z hz=>by
    rcases List.mem_append.1 hz with hz | hz
    · exact h.M.r.sep z hz e he
    · exact (h.A.2 z hz).2 e he
theorem XyL (h:Two w0 w b X br p es N lo c r q rs lo2) (hN:1≤N∧N<10000000) (hx:MC.ok w0 x) (hf:x.few) (hn:X.now<1000000∧X.c0<1000000∧X.c1<1000000∧X.c2<1000000)
    (hk:∀ w' X' p' es' q' rs' L,Fr L w w'→(∀ z∈L,TT b br p es c r q z)→Two w0 w' b X' br p' es' (N+2) lo c r q' rs' lo2→(∀ k∈Xb p',k∈Xb p∨w.heap.size≤k)→(∀ k∈Xb q',k∈Xb q∨w.heap.size≤k)→(∀ e∈es',e∈es∨w.heap.size≤e.lo)→(∀ e∈es,EntAt w' e (N+2))→Cnt x X X'→K (.bool true) w') :
    Xa Tryz.prog Xs4 #[.pointer (some ⟨b,0,none⟩),.pointer (some ⟨c,0,none⟩),.agg ⟨x.v⟩] w K:=by
  apply Xol
  unfold Xqf
  refine Y3 (t:=T_law21_Call) x.v fun w1 f1 hC1 s1=>?_
  obtain ⟨k5,hk5⟩:∃ k,k=w.heap.size:=⟨_,rfl⟩
  rw [← hk5] at hC1 ⊢
  have hbl:=h.M.lt; have hcl:=h.R.lt
  have h1:=h.fr0 f1
  refine ⟨_,hC1.get (by kernel_rfl) (j:=0) rfl,Xx (fun hop=>?_) fun hop0=>Xx (fun hop=>?_) fun hop1=>Xx (fun hop=>?_) fun hop2=>Xx (fun hop=>?_) fun hop3=>Xx (fun hop=>?_) fun hop4=>?_⟩
  ·
    have hx0:=hx.1
    have rlt:∀ {q1:Option Addr} {xs:List UInt8},Row w0 q1 (xs.map vb)→0<xs.length→∀ z∈Xb q1,z<w0.heap.size:=fun hR=>XaK hR (Nat.le_refl _)
    refine ⟨fun w'=>CAt w' k5 x.v,Drw.intro fun w2 f2 s2=>?_⟩
    have hC2:=hC1.fr0 f2
    refine ⟨_,_,_,⟨hC2,fun w' hw=>hw.get (by kernel_rfl) (j:=6) rfl⟩,_,_,_,_,_,_,_,_,_,_,_,_,_,_,⟨hC2,fun w' hw=>MC.ldF hw⟩,_,⟨hC2,fun w' hw=>hw.get (by kernel_rfl) (j:=14) rfl⟩,_,_,_,⟨hC2,fun w' hw=>hw.get (by kernel_rfl) (j:=7) rfl⟩,
      _,_,_,⟨hC2,fun w' hw=>hw.get (by kernel_rfl) (j:=6) rfl⟩,_,_,_,_,_,_,_,_,_,_,_,_,_,_,⟨hC2,fun w' hw=>MC.ldF hw⟩,_,⟨hC2,fun w' hw=>hw.get (by kernel_rfl) (j:=14) rfl⟩,_,_,_,⟨hC2,fun w' hw=>hw.get (by kernel_rfl) (j:=7) rfl⟩,?_⟩
    have hl1:=hf.l1; have hl2:=hf.l2; have hl3:=hf.l3; have hl4:=hf.l4; have hl5:=hf.l5; have hl6:=hf.l6
    have f02:=f1.then f2
    have h2:=h.fr0 f02
    have hx2:=hx0.fr0 h2.f
    refine Z9 hx2.r1 rfl (by show x.cl.length≤_; omega) fun qa da w3 f3 hOa=>⟨_,_,_,rfl,.inr (hC2.fr0 f3),?_⟩
    have h3:=h2.fr0 f3
    have hx3:=hx0.fr0 h3.f
    refine Z9 hx3.r2 rfl (by show x.rd.length≤_; omega) fun qb db w4 f4 hOb=>⟨_,_,_,rfl,.inr ((hC2.fr0 f3).fr0 f4),?_⟩
    have h4:=h3.fr0 f4
    have hx4:=hx0.fr0 h4.f
    have hC4:=(hC2.fr0 f3).fr0 f4
    have hOa4:=hOa.fr0 f4
    have n02:=f02.size; have n3:=f3.size; have n4:=f4.size; have n1:=f1.size; have n2:=f2.size
    obtain ⟨V,hV⟩:∃ V:VI,V=⟨x.f,qa,da,x.cl,qb,db,x.rd,x.now⟩:=⟨_,rfl⟩
    have hVok:VI.ok w4 V:=by rw [hV]; exact ⟨hx4.f,hOa4.row,hOa4.cap,hOb.row,hOb.cap,hx4.n⟩
    have hTT:∀ z,(z=b∨inR es z)→TT b br p es c r q z:=fun z hz=>by
      rcases hz with hz | hz
      · exact .inl hz
      · exact .inr (.inr (.inr (.inr hz)))
    have old:∀ {q1:Option Addr} {xs:List UInt8},Row w0 q1 (xs.map vb)→0<xs.length→∀ z∈Xb q1,¬ (z=b∨inR es z):=fun hR h0 z hz hh=>by
      have:=rlt hR h0 z hz; have:=h.low (hTT z hh); omega
    have hVoff:V.off fun z=>z=b∨inR es z:=by
      rw [hV]
      refine ⟨old hx0.f.h.r1,old hx0.f.h.r2,old hx0.f.r3,old hx0.f.r4,fun _ z hz hh=>?_,fun _ z hz hh=>?_⟩
      · have:=hOa.2.2 z hz; have:=h2.lt (hTT z hh); omega
      · have:=hOb.2.2 z hz; have:=h3.lt (hTT z hh); omega
    have hVfew:V.few:=by rw [hV]; exact ⟨by show x.cl.length≤1000; omega,by show x.rd.length≤1000; omega,by show x.f.tok.length≤5000; omega,by show x.f.h.to.length≤1000; omega,by show x.f.h.fr.length≤1000; omega,by show x.f.st.length≤1000; omega⟩
    have tk:=Qb (K:=fun v w5=>∃ (n22:Int) (b22:Bool) (n22_1:Int) (p22:Option Addr) (l22 c22:Nat) (n22_2:Int),v=.agg #[.int .i64 n22,.bool b22,.int .i64 n22_1,.slice p22 l22 c22,.int .i64 n22_2]∧∃ (o:OC) (L:List Nat),o.u.kd=n22∧o.u.ch=b22∧o.u.er=n22_1∧o.p=p22∧o.u.bs.length=l22∧o.c=c22∧o.u.us=n22_2∧(∀ z∈L,z=b∨inR es z)∧Fr L w4 w5∧MintAt w5 b (X.took o.u) br p es (N+2) lo∧OC.own w5 o w4.heap.size∧o.u=JP (es.map RE.ke) X V)
      h4.M hN.2 hVok hVoff hVfew hn fun o L w' hL f hM hO hu=>⟨_,_,_,_,_,_,_,rfl,o,L,rfl,rfl,rfl,rfl,rfl,rfl,rfl,hL,f,hM,hO,hu⟩
    rw [hV] at tk
    refine Ue ?_ tk
    rintro v w5 ⟨n22,b22,n22_1,p22,l22,c22,n22_2,rfl,o,L,rfl,rfl,rfl,rfl,rfl,rfl,rfl,hL,f5,hM5,hO5,hu5⟩
    have hLlt:∀ z∈L,z<w.heap.size:=fun z hz=>h.lt (hTT z (hL z hz))
    have hC5:CAt w5 k5 x.v:=hC4.fr f5 fun hm=>by have:=hLlt _ hm; omega
    refine ⟨_,_,_,_,_,_,_,rfl,.inr hC5,?_⟩
    have fN5:Fr [] w0 w5:=h4.news f5 fun z hz=>hTT z (hL z hz)
    have hx5:=hx0.fr0 fN5
    have hR5:RefMt w5 c X r q rs lo2:=h4.R.fr f5 fun z hz=>h.refOff (hL z hz)
    have n5:=f5.size
    refine Xwd hx5.f (by show x.f.h.to.length≤_; omega) (by show x.f.h.fr.length≤_; omega) (by show x.f.tok.length≤_; omega) (by show x.f.st.length≤_; omega) fun g w6 f6 hG6 hgs=>⟨_,_,_,_,_,_,_,_,_,_,_,_,_,_,rfl,.inr (hC5.fr0 f6),?_⟩
    have hR6:=hR5.fr0 f6
    have fN6:=fN5.then f6
    have hx6:=hx0.fr0 fN6
    obtain ⟨U,hU⟩:∃ U:VI,U=⟨g,x.cp,x.cc,x.cl,x.rp,x.rc,x.rd,x.now⟩:=⟨_,rfl⟩
    have hUok:VI.ok w6 U:=by rw [hU]; exact ⟨hG6.ok,hx6.r1,hx6.h1,hx6.r2,hx6.h2,hx6.n⟩
    have oldc:∀ {q1:Option Addr} {xs:List UInt8},Row w0 q1 (xs.map vb)→0<xs.length→∀ z∈Xb q1,¬ z=c:=fun hR h0 z hz hh=>by
      have:=rlt hR h0 z hz; have:=h.c0; omega
    have hUoff:U.off fun z=>z=c:=by
      rw [hU]
      refine ⟨fun _ z hz hh=>?_,fun _ z hz hh=>?_,fun _ z hz hh=>?_,fun _ z hz hh=>?_,oldc hx0.r1,oldc hx0.r2⟩
      · have:=hG6.h.o1.2.2 z hz; omega
      · have:=hG6.h.o2.2.2 z hz; omega
      · have:=hG6.o3.2.2 z hz; omega
      · have:=hG6.o4.2.2 z hz; omega
    have hUfew:U.few:=by
      rw [hU]
      exact ⟨by show x.cl.length≤1000; omega,by show x.rd.length≤1000; omega,by show g.tok.length≤5000; rw [hgs.tok]; omega,by show g.h.to.length≤1000; rw [hgs.to]; omega,by show g.h.fr.length≤1000; rw [hgs.fr]; omega,by show g.st.length≤1000; rw [hgs.st]; omega⟩
    have rk:=Xsa (K:=fun v w7=>∃ (n33:Int) (b33:Bool) (n33_1:Int) (p33:Option Addr) (l33 c33:Nat) (n33_2:Int),v=.agg #[.int .i64 n33,.bool b33,.int .i64 n33_1,.slice p33 l33 c33,.int .i64 n33_2]∧∃ (s:OC),s.u.kd=n33∧s.u.ch=b33∧s.u.er=n33_1∧s.p=p33∧s.u.bs.length=l33∧s.c=c33∧s.u.us=n33_2∧Fr [c] w6 w7∧RefMt w7 c (X.took s.u) r q rs lo2∧OC.own w7 s w6.heap.size∧s.u=JP (rs.map RR.ke) X U)
      hR6 h.sq hUok hUoff hUfew hn fun o w' f hM hO hu=>⟨_,_,_,_,_,_,_,rfl,o,rfl,rfl,rfl,rfl,rfl,rfl,rfl,f,hM,hO,hu⟩
    rw [hU] at rk
    refine Ue ?_ rk
    rintro v w7 ⟨n33,b33,n33_1,p33,l33,c33,n33_2,rfl,s,rfl,rfl,rfl,rfl,rfl,rfl,rfl,f7,hR7,hO7,hu7⟩
    refine ⟨_,_,_,_,_,_,_,rfl,?_⟩
    have hus:o.u=s.u:=by
      rw [hu5,hu7,h.m]
      unfold JP
      exact Xdv hgs.to.symm hgs.fr.symm hgs.tok.symm rfl rfl rfl
    have n6:=f6.size; have n7:=f7.size
    have hO7':OC.own w7 o w4.heap.size:=OB.fr (OB.fr0 hO5 f6) f7 fun z hz hm=>by
      have:z=c:=by simpa using hm
      have:=hO5.2.2 z hz
      omega
    have hlen:o.u.bs.length≤1000000:=by
      rw [hu5]; unfold JP
      exact Nat.le_trans (Xwh _ _ _ _) (by omega)
    refine Xwf hO7' hO7 hus hlen fun w8 f8=>⟨_,rfl,?_⟩
    have hM7:MintAt w7 b (X.took o.u) br p es (N+2) lo:=(hM5.fr0 f6).fr f7 fun z hz=>by
      have:z=c:=by simpa using hz
      rw [this]; exact ⟨h.x2,h.x3.symm⟩
    have hM8:=hM7.fr0 f8
    have hkd:o.u.kd=0∨o.u.kd=1∨o.u.kd=2:=by rw [hu5]; exact Xmq _ _ _ _
    have fL:Fr (c::L) w w8:=(((((f02.then f3).then f4).after f5).mono (fun z hz=>List.mem_cons_of_mem _ hz)).trans (f6.mono (by simp)) (fun z hz=>.inl hz)).trans f7 (fun z hz=>.inl (by simp at hz; simp [hz])) |>.then f8
    have hLL:∀ z∈c::L,TT b br p es c r q z:=fun z hz=>by
      rcases List.mem_cons.1 hz with rfl | hz
      · exact .inr (.inl rfl)
      · exact hTT z (hL z hz)
    refine hk w8 (X.took o.u) p es q rs (c::L) fL hLL ⟨hM8,by rw [hus]; exact hR7.fr0 f8,h.A,h.ko,h.m,h.x1,h.x2,h.x3,h.news fL hLL,h.b0,h.c0,h.g0,h.r0,h.l0,h.m0⟩ (fun k hk=>.inl hk) (fun k hk=>.inl hk) (fun e he=>.inl he) (fun e he=>(hM8.r.ent e he).1) ⟨?_,?_,?_⟩
    · rw [if_pos hop]; rfl
    · rw [if_pos hop]; rfl
    · rw [if_pos hop]
      show X.c0+(if o.u.kd=0 then 1 else 0)+(X.c1+(if o.u.kd=1 then 1 else 0))+(X.c2+(if o.u.kd=2 then 1 else 0))=_
      rcases hkd with hh | hh | hh <;> rw [hh] <;> simp <;> omega
  ·
    refine ⟨_,rfl,Xk6 h1.M fun w2 f2 hM2=>⟨rfl,?_⟩⟩
    have hR2:RefMt w2 c X r q rs lo2:=h1.R.fr f2 (Yo ⟨h.x1,h.x3⟩)
    refine Xr8 hR2 fun w3 f3 hR3=>⟨rfl,?_⟩
    have hM3:=hM2.fr f3 (Yo ⟨h.x2,h.x3.symm⟩)
    have fL:Fr [b,c] w w3:=((f1.mono (by simp)).trans f2 fun z hz=>.inl (by simp at hz; simp [hz])).trans f3 fun z hz=>.inl (by simp at hz; simp [hz])
    have hLL:∀ z∈[b,c],TT b br p es c r q z:=fun z hz=>by
      simp at hz
      rcases hz with hz | hz
      · exact .inl hz
      · exact .inr (.inl hz)
    have hM3':=hM3.mono (show N≤N+2 by omega)
    refine hk w3 X.tick p es q rs [b,c] fL hLL ⟨hM3',hR3,h.A,h.ko,h.m,h.x1,h.x2,h.x3,h.news fL hLL,h.b0,h.c0,h.g0,h.r0,h.l0,h.m0⟩ (fun k hk=>.inl hk) (fun k hk=>.inl hk) (fun e he=>.inl he) (fun e he=>(hM3'.r.ent e he).1) ⟨?_,?_,?_⟩
    · rw [if_neg hop0,if_pos hop]; rfl
    · rw [if_neg hop0,if_pos hop]; rfl
    · rw [if_neg hop0]; rfl
  ·
    refine ⟨fun w'=>CAt w' k5 x.v,Drw.intro fun w2 f2 s2=>?_⟩
    have hC2:=hC1.fr0 f2
    have h2:=h1.fr0 f2
    refine ⟨_,_,_,_,⟨hC2,fun w' hw=>MC.ldP hw⟩,_,_,_,_,⟨hC2,fun w' hw=>MC.ldP hw⟩,Xgg (q:=x.pl) h2.M fun w3 f3 hM3=>⟨_,rfl,.inr (hC2.fr f3 (by simp; omega)),?_⟩⟩
    refine Xk9 (q:=x.pl) fun w4 f4=>⟨_,_,_,_,rfl,?_⟩
    have hR4:RefMt w4 c X r q rs lo2:=(h2.R.fr f3 (Yo ⟨h.x1,h.x3⟩)).fr0 f4
    refine Xt2 (g:=x.pl) hR4 fun w5 f5 hR5=>⟨_,rfl,?_⟩
    have hM5:=((hM3.fr0 f4).fr f5 (Yo ⟨h.x2,h.x3.symm⟩)).mono (show N≤N+2 by omega)
    rw [beq_self_eq_true]
    have fL:Fr [b,c] w w5:=(((f1.then f2).mono (by simp)).trans f3 fun z hz=>.inl (by simp at hz; simp [hz])).trans ((f4.mono (by simp)).trans f5 fun z hz=>.inl hz) fun z hz=>.inl (by simp at hz; simp [hz])
    have hLL:∀ z∈[b,c],TT b br p es c r q z:=fun z hz=>by
      simp at hz
      rcases hz with hz | hz
      · exact .inl hz
      · exact .inr (.inl hz)
    have hS:∀ Y:MX,(Y.set x.pl).now=Y.now∧(Y.set x.pl).last=Y.last∧(Y.set x.pl).c0=Y.c0∧(Y.set x.pl).c1=Y.c1∧(Y.set x.pl).c2=Y.c2:=fun Y=>by
      unfold MX.set; split <;> exact ⟨rfl,rfl,rfl,rfl,rfl⟩
    obtain ⟨s1,s2,s3,s4,s5⟩:=hS X
    refine hk w5 (X.set x.pl) p es q rs [b,c] fL hLL ⟨hM5,hR5,h.A,h.ko,h.m,h.x1,h.x2,h.x3,h.news fL hLL,h.b0,h.c0,h.g0,h.r0,h.l0,h.m0⟩ (fun k hk=>.inl hk) (fun k hk=>.inl hk) (fun e he=>.inl he) (fun e he=>(hM5.r.ent e he).1) ⟨?_,?_,?_⟩
    · rw [if_neg hop0,if_neg hop1,s1]
    · rw [if_neg hop0,if_neg hop1,s2]
    · rw [if_neg hop0,s3,s4,s5]; rfl
  ·
    refine ⟨fun w'=>Fr [] w1 w',Drw.intro fun w2 f2 s2=>?_⟩
    have h2:=h1.fr0 f2
    refine ⟨_,rfl,_,⟨f2,fun w' f=>(h1.fr0 f).R.c.get (by kernel_rfl) (j:=4) rfl⟩,_,⟨f2,fun w' f=>(hC1.fr0 f).get (by kernel_rfl) (j:=1) rfl⟩,_,_,_,⟨f2,fun w' f=>(hC1.fr0 f).get (by kernel_rfl) (j:=7) rfl⟩,Zl h2.M ⟨_,rfl,.inl rfl,?_⟩⟩
    have hx0:=hx.1
    have hxw:=hx0.fr0 h2.f
    refine XsF (x:=⟨0,x.sq,x.rp,x.rc,x.rd⟩) h2.M.r hN.1 h2.R.rf h2.A ⟨hxw.r2,hxw.h2⟩ (fun w' f=>(hx0.fr0 (h2.news f fun z hz=>.inr (.inr (.inl hz)))).r2) hf.l2 fun w3 p3 es3 q3 rs3 bb f3 hR3 hS3 hA3 hp hq he hr hko hm hmr hbb=>⟨_,rfl,?_⟩
    rw [hbb h.m]
    have f02:=f1.then f2
    have T3:=(h2.rings f3 hR3 hS3 hA3 hp hq he hr hko (by rw [hm,hmr,h.m])).mono (show N≤N+2 by omega)
    have n02:=f02.size
    refine hk w3 X p3 es3 q3 rs3 _ (f02.after f3) (fun z hz=>?_) T3 (fun k hk=>?_) (fun k hk=>?_) (fun e hm=>?_) (fun e hm=>(h2.entKeep f3 hm).mono (by omega)) ⟨?_,?_,?_⟩
    · rcases List.mem_append.1 hz with hz | hz
      · exact .inr (.inr (.inl hz))
      · exact .inr (.inr (.inr (.inl hz)))
    · rcases hp k hk with hh | hh
      · exact .inl hh
      · right; omega
    · rcases hq k hk with hh | hh
      · exact .inl hh
      · right; omega
    · rcases he e hm with hh | hh
      · exact .inl hh
      · right; omega
    · rw [if_neg hop0,if_neg hop1]
    · rw [if_neg hop0,if_neg hop1]
    · rw [if_neg hop0]; rfl
  ·
    refine ⟨fun w'=>Fr [] w1 w',Drw.intro fun w2 f2 s2=>?_⟩
    have h2:=h1.fr0 f2
    refine ⟨_,rfl,_,⟨f2,fun w' f=>(h1.fr0 f).R.c.get (by kernel_rfl) (j:=4) rfl⟩,_,⟨f2,fun w' f=>(hC1.fr0 f).get (by kernel_rfl) (j:=1) rfl⟩,Zl h2.M ⟨_,rfl,.inl rfl,?_⟩⟩
    refine XsF (x:=⟨1,x.sq,none,0,[]⟩) h2.M.r hN.1 h2.R.rf h2.A ⟨Row.nil _ _,Nat.le_refl _⟩ (fun w' f=>Row.nil _ _) (by show 0≤100; omega) fun w3 p3 es3 q3 rs3 bb f3 hR3 hS3 hA3 hp hq he hr hko hm hmr hbb=>⟨_,rfl,?_⟩
    rw [hbb h.m]
    have f02:=f1.then f2
    have T3:=(h2.rings f3 hR3 hS3 hA3 hp hq he hr hko (by rw [hm,hmr,h.m])).mono (show N≤N+2 by omega)
    have n02:=f02.size
    refine hk w3 X p3 es3 q3 rs3 _ (f02.after f3) (fun z hz=>?_) T3 (fun k hk=>?_) (fun k hk=>?_) (fun e hm=>?_) (fun e hm=>(h2.entKeep f3 hm).mono (by omega)) ⟨?_,?_,?_⟩
    · rcases List.mem_append.1 hz with hz | hz
      · exact .inr (.inr (.inl hz))
      · exact .inr (.inr (.inr (.inl hz)))
    · rcases hp k hk with hh | hh
      · exact .inl hh
      · right; omega
    · rcases hq k hk with hh | hh
      · exact .inl hh
      · right; omega
    · rcases he e hm with hh | hh
      · exact .inl hh
      · right; omega
    · rw [if_neg hop0,if_neg hop1]
    · rw [if_neg hop0,if_neg hop1]
    · rw [if_neg hop0]; rfl
  · have h1':=h1.mono (show N≤N+2 by omega)
    refine hk w1 X p es q rs [] f1 (by simp) h1' (fun k hk=>.inl hk) (fun k hk=>.inl hk) (fun e he=>.inl he) (fun e he=>(h1'.M.r.ent e he).1) ⟨?_,?_,?_⟩
    · rw [if_neg hop0,if_neg hop1]
    · rw [if_neg hop0,if_neg hop1]
    · rw [if_neg hop0]; rfl
end
end Go.Sh
end

section
namespace Go.Sh
open Go Go.Fw Go.Proofs
set_option maxRecDepth 100000
set_option linter.unusedVariables false
section
variable {w0 w:World} {b br lo c r lo2:Nat} {X:MX} {p q:Option Addr} {es:List RE} {rs:List RR} {N:Int} {K:VWP}
theorem Two.new {w2 w3 w4:World} {g:MP} {l1 l2:Nat} (hM:MintAt w2 b (mx0 g) br none [] 1 l1) (f:Fr [] w0 w2) (h1:w0.heap.size≤br) (h2:w0.heap.size≤l1) (h3:w0.heap.size≤b) (f3:Fr [] w2 w3) (f4:Fr [] w3 w4) (hR:RefMt w4 c (mx0 g) r none [] l2) (h4:w3.heap.size≤r) (h5:w3.heap.size≤l2) (h6:w3.heap.size≤c) :
    Two w0 w4 b (mx0 g) br none [] 1 l1 c r none [] l2:=by
  have hb:=hM.lt
  have hbr:=hM.r.lt br (List.mem_cons_self ..)
  have n3:=f3.size; have n2:=f.size
  refine ⟨hM.fr0 (f3.then f4),hR,⟨fun k hk=>⟨fun hm=>?_,by simp⟩,fun k hk=>⟨fun hm=>?_,by simp⟩⟩,fun z hz=>(by obtain ⟨e,he,_⟩:=hz; cases he),rfl,⟨fun hm=>?_,by simp⟩,⟨fun hm=>?_,by simp⟩,by omega,(f.then f3).then f4,h3,by omega,h1,by omega,h2,by omega⟩
  · simp [Xb] at hk hm; omega
  · simp [Xb] at hk hm; omega
  · simp [Xb] at hm; omega
  · simp [Xb] at hm; omega
theorem Xwi {g:MP} {p1:Option Addr} {l1 c1:Nat} {cs:List MC} (h1:Row w p1 (cs.flatMap MC.v)) (hok:∀ x∈cs,MC.ok w x) (hl1:l1=cs.length) (hfew:Xwe cs)
    (hbad:¬ g.ok→∀ w',Fr [] w w'→K (.pointer none) w') (hk:∀ b X br p es lo c r q rs lo2 w',g.ok→Two w w' b X br p es (2*(l1:Int)+1) lo c r q rs lo2→X.now≤l1→X.c0+X.c1+X.c2≤l1→K (.pointer (some ⟨b,0,none⟩)) w') :
    Xa Tryz.prog XeO #[g.a,.slice p1 l1 c1] w K:=by
  apply XkE
  unfold XkD
  refine Y3 (t:=YA) g.v fun w1 f1 hC s1=>?_
  obtain ⟨k2,hk2⟩:∃ k,k=w.heap.size:=⟨_,rfl⟩
  rw [← hk2] at hC ⊢
  refine ⟨_,_,_,_,hC.ld (by kernel_rfl) (by kernel_rfl),Xgf (q:=g) (fun hg w2 f2=>⟨_,_,rfl,?_⟩) fun b br lo w2 hg f2 hM e1 e2 e3 e4=>⟨_,_,rfl,?_⟩⟩
  · have f02:=f1.then f2
    refine ⟨_,_,_,_,(hC.fr0 f2).ld (by kernel_rfl) (by kernel_rfl),Xk9 (q:=g) fun w3 f3=>⟨_,_,_,_,rfl,?_⟩⟩
    refine Xk8 (g:=g) (fun _ w4 f4=>⟨_,_,rfl,Xl (hbad hg w4 ((f02.then f3).then f4))⟩) fun _ _ _ _ hh=>absurd hh hg
  have f02:=f1.then f2
  have n1:=f1.size
  refine ⟨_,_,_,_,(hC.fr0 f2).ld (by kernel_rfl) (by kernel_rfl),Xk9 (q:=g) fun w3 f3=>⟨_,_,_,_,rfl,?_⟩⟩
  refine Xk8 (g:=g) (fun hh=>absurd hg hh) fun c r lo2 w4 _ f4 hR e5 e6 e7=>⟨_,_,rfl,?_⟩
  have T4:Two w w4 b (mx0 g) br none [] 1 lo c r none [] lo2:=Two.new hM f02 (by omega) (by omega) (by omega) f3 f4 hR e5 e6 e7
  refine Xi ⟨_,_,ptrNil (by kernel_rfl),Xi (Zl T4.M ⟨_,rfl,_,_,ptrNil (by kernel_rfl),Xi ⟨_,_,ptrNil (by kernel_rfl),Xi ?_⟩⟩)⟩
  unfold XdX
  refine LoopS.ind (fun k us w'=>∃ (i:Nat) (X:MX) (p q:Option Addr) (es:List RE) (rs:List RR),i+k=l1∧us=[.slice p1 l1 c1,.pointer none,.pointer (some ⟨b,0,none⟩),.pointer (some ⟨c,0,none⟩),.int .i64 (i:Int)]∧Two w w' b X br p es (2*(i:Int)+1) lo c r q rs lo2∧X.now≤i∧X.c0+X.c1+X.c2≤i) l1
    ⟨0,mx0 g,none,none,[],[],by omega,rfl,T4.mono (by omega),Nat.le_refl _,Nat.le_refl _⟩ ?_
  rintro k us rr wa I μ hgo ⟨i,X,p,q,es,rs,hik,rfl,T,hn1,hn2⟩
  have hl60:=hfew.1
  refine ⟨_,_,_,_,_,_,_,rfl,Xd (fun hlt=>?_) fun hge=>?_⟩
  · obtain ⟨x,gg,o,hx,hm,ha,hld,_⟩:=XsO (c0:=c1) (h1.fr0 T.f) hl1 (i:=i) (by omega)
    refine ⟨_,ha,_,hld,XyL T ⟨by omega,by omega⟩ (hok x hm) (hfew.2 x hm) ⟨by omega,by omega,by omega,by omega⟩ fun w' X' p' es' q' rs' L f hL T' hp hq he hE hc=>⟨_,rfl,?_⟩⟩
    rw [Xe (by omega) (by omega)]
    have hcn:=hc.n; have hcs:=hc.s
    refine hgo _ _ _ (k - 1) (by omega) ⟨i+1,X',p',q',es',rs',by omega,rfl,?_,?_,?_⟩
    · have e:2*((i+1:Nat):Int)+1=2*(i:Int)+1+2:=by omega
      rw [e]; exact T'
    · split at hcn
      · omega
      · split at hcn <;> omega
    · split at hcs <;> omega
  · have e:i=l1:=by omega
    subst e
    exact hk b X br p es lo c r q rs lo2 wa hg T hn1 hn2
end
end Go.Sh
end

section
namespace Go.Sh
open Go Go.Fw Go.Proofs
set_option maxRecDepth 100000
set_option linter.unusedVariables false
def aB:List UInt8:=[255,0,0,0,1,0,8,240,103,165,80,42,66,98,181,116,111,107,101,110,4,162,101,186,46,255,77,130,144,88,251,63,15,36,150,186]
section
variable {w:World} {K:VWP}
end
end Go.Sh
end

section
namespace Go.Sh
open Go Go.Fw Go.Proofs
set_option maxRecDepth 100000
set_option linter.unusedVariables false
theorem Xnl {to r:List UInt8} (h:to.length≤255):Xp (0,UInt8.ofNat to.length::(to++r))=(to,(0,r)):=by
  have e0:(fl (UInt8.ofNat to.length::(to++r)) 0).toNat=to.length:=by
    show (UInt8.ofNat to.length).toNat=_
    rw [UInt8.toNat_ofNat']; omega
  rw [XtV (by rw [e0]; simp),e0]
  simp
theorem Xwj {to fr r:List UInt8} (h1:to.length≤255) (h2:fr.length≤255):hdP (hdL to fr++r)=⟨0,255,1,to,fr,r⟩:=by
  have hb:hdL to fr++r=255::0::0::0::1::(UInt8.ofNat to.length::(to++(UInt8.ofNat fr.length::(fr++r)))):=by simp [hdL]
  have hd5:(hdL to fr++r).drop 5=UInt8.ofNat to.length::(to++(UInt8.ofNat fr.length::(fr++r))):=by rw [hb]; rfl
  have hs:=Xnl (r:=UInt8.ofNat fr.length::(fr++r)) h1
  have hs2:=Xnl (r:=r) h2
  have f0:(fl (hdL to fr++r) 0).toNat=255:=by rw [hb]; rfl
  have hN:Xm (((hdL to fr++r).drop 1).take 4)=1:=by rw [hb]; rfl
  rw [XyG (r:=UInt8.ofNat fr.length::(fr++r)) (by rw [hb]; simp) (by rw [f0]; omega) (by rw [hd5,hs]) (by rw [hd5,hs]) (by rw [hs2]),f0,hN,hd5,hs,hs2]
theorem Xi5 {to fr tok S:List UInt8} (h1:to.length≤20) (h2:fr.length≤20) (h3:1≤tok.length) (hS:S.length=16):stP (rtH to fr tok++S)=⟨0,255,1,to,fr,tok,S⟩:=by
  have hb:rtH to fr tok++S=hdL to fr++(tok++S):=by simp [rtH]
  have hl:(tok++S).length - 16=tok.length:=by rw [List.length_append,hS]; omega
  unfold stP
  rw [hb,Xwj (by omega) (by omega)]
  show (if (0:Int)≠0 then _ else if (1:Nat)≠1∨Xbk 255≠3 then _ else if 20<to.length∨20<fr.length then _ else if (tok++S).length≤16 then _ else (⟨0,255,1,to,fr,(tok++S).take ((tok++S).length - 16),(tok++S).drop ((tok++S).length - 16)⟩:SU))=_
  rw [if_neg (fun h=>h rfl),if_neg (by decide),if_neg (by omega),if_neg (by rw [List.length_append,hS]; omega),hl]
  simp
theorem Xwk {H S:List UInt8} (hS:S.length=16):ahd (H++S)=H:=by
  unfold ahd
  rw [List.length_append,hS]
  have:H.length+16 - 16=H.length:=by omega
  rw [this]; simp
theorem XsP {to fr tok S id:List UInt8} (h1:to.length≤20) (h2:fr.length≤20) (h3:1≤tok.length) (h4:tok.length≤4096) (hi:id.length≤20) (hS:S.length=16) :
    ckE (rtH to fr tok++S) id=if stL id (rtH to fr tok)=S then 0 else 13:=by
  unfold ckE
  have hH:=VT to fr tok
  rw [Xi5 h1 h2 h3 hS,Xwk hS,if_neg (fun h=>h rfl),if_neg (fun h=>h (Xgd hi (by omega)))]
section
variable {w:World} {K:VWP}
end
end Go.Sh
end

section
namespace Go.Sh
open Go Go.Fw Go.Proofs
set_option maxRecDepth 100000
set_option linter.unusedVariables false
def R20:List UInt8:=[1,2,3,4,5,6,7,8,9,10,11,12,13,14,15,16,17,18,19,20]
def n21:List UInt8:=[9,10,11,12,13,14,15,16,17,18,19,20]
def t21:List UInt8:=[0,0,0,0,0,0,0,110,2,7,8,9,200,1,2,3,4,5,6,7,8]
def c21:List UInt8:=[96,214,214,106,147,162,7,230,64,133,98,246,166,40,127,67,164,156,101,253,245]
def Jc:List KE:=[⟨4,Z16⟩]
def f21:TF:=⟨110,[7,8],XC R20,none,0,none,0⟩
def T21:List UInt8:=X6 Jc 4 n21 [5] f21
def pl21:MP:=⟨2,false,1,10⟩
theorem Xcg:XC R20=[200,1,2,3,4,5,6,7,8]:=by kernel_rfl
theorem XwQ:UA R20=n21:=by kernel_rfl
theorem Xvl:XN f21=t21:=by kernel_rfl
theorem XyM:Zk z16 (Xw (Xw (YM n21) 1) 0)=[96,214,214,106,147,162,7,136,66,130,106,255,110,41,125,64]:=by rw [Xdd]; kernel_rfl
theorem XyN:Zk z16 (Xw (Xw (YM n21) 1) 1)=[160,153,99,250,253,104,90,47,5,159,198,177,41,210,140,31]:=by rw [Xdd]; kernel_rfl
theorem XyO:XK z16 n21 t21=c21:=by
  have e:Wz z16 (Xw (YM n21) 1) 21=[96,214,214,106,147,162,7,136,66,130,106,255,110,41,125,64,160,153,99,250,253]:=by
    show (Up z16 (Xw (YM n21) 1) 2).take 21=_
    show (([]++Zk z16 (Xw (Xw (YM n21) 1) 0))++Zk z16 (Xw (Xw (YM n21) 1) 1)).take 21=_
    rw [XyM,XyN]; rfl
  unfold XK Vk
  show Vj (Wz z16 (Xw (YM n21) 1) 21) t21=_
  rw [e]; decide
theorem XyP:¬ (UI 0x66e94bd4ef8a2c3b884cfa59ca342b2e [4,6] c21=UI 0x66e94bd4ef8a2c3b884cfa59ca342b2e [4,5] c21):=by decide +kernel
theorem Xgi:XS Jc 4 n21 [5] f21=0:=by decide
theorem XsQ:T21=4::(n21++slL z16 n21 t21 [4,5]):=by
  unfold T21 X6
  rw [if_pos Xgi,Xvl]
  rfl
theorem XaN:T21.length=50:=by unfold T21; rw [(QP Xgi).2,Xvl]; rfl
theorem XxJ:XA Jc [5] T21 110=f21.ut 0:=by unfold T21; rw [Xgh Xgi (by omega) (by decide),if_neg (by decide)]
theorem XxK:XA Jc [5] T21 111=.bad 20:=by unfold T21; rw [Xgh Xgi (by omega) (by decide),if_pos (by decide)]
theorem XyQ:tk0 T21=4:=by rw [XsQ]; rfl
theorem Xzo (now:Nat):XA Jc [6] T21 now=.bad 13:=by
  have hok:okG n21.length [t21,[4,5]]:=by decide
  have hlen:=XaN
  have hT2:=XsQ
  have e0:=XyQ
  obtain ⟨T,hT⟩:∃ T,T=T21:=⟨_,rfl⟩
  rw [← hT] at hlen hT2 e0 ⊢
  obtain ⟨S,hS⟩:∃ S,S=slL z16 n21 t21 [4,5]:=⟨_,rfl⟩
  rw [← hS] at hT2
  have hS2:S=c21++Yn z16 n21 c21 [4,5]:=by rw [hS]; unfold slL; rw [if_pos hok,XyO]
  have hSl:S.length=37:=by rw [hS2,List.length_append,Yy]; rfl
  have eN:tkN T=n21:=by rw [hT2]; unfold tkN; rw [List.take_succ_cons,List.drop_succ_cons,List.drop_zero,List.take_left' (by rfl)]
  have eS:tkS T=S:=by rw [hT2]; unfold tkS; rw [List.drop_succ_cons,List.drop_left' (by rfl)]
  have ht:S.take (S.length - 16)=c21:=by rw [hSl,hS2,List.take_left' (by rfl)]
  have hd:S.drop (S.length - 16)=Yn z16 n21 c21 [4,5]:=by rw [hSl,hS2,List.drop_left' (by rfl)]
  have hop:opE z16 n21 S [4,6]=13:=by
    unfold opE
    rw [ht,hd]
    rw [if_pos (by show okG 12 [c21,[4,6]]; decide),if_neg (by rw [hSl]; decide),if_neg fun hh=>?_]
    unfold Yn at hh
    have:=Xv9 (by rw [Jy,Zq]) (by rw [Jy,Zq]) hh
    rw [Xzi] at this
    exact XyP this
  have hkey:Uz Jc (4:Nat)=z16:=by rfl
  have eE:YQ Jc [6] T=13:=by
    unfold YQ
    rw [if_neg (by rw [hlen]; decide),e0,if_neg (by decide),if_neg (by rw [hlen]; decide),eN,eS]
    rw [hkey,if_pos (by show opE z16 n21 S [4,6]≠0; rw [hop]; decide)]
  unfold XA
  rw [if_pos (by rw [eE]; decide),eE]
theorem XqW:Yj T21=false:=by
  unfold Yj
  rw [XyQ,XaN]; decide
def B21:List UInt8:=rtL [9] (XC R20) [7,8] T21
theorem Xwl:rtE [9] (XC R20) [7,8] T21=0:=by
  unfold rtE
  rw [Xcg,XaN]; decide
theorem Xvm:B21=rtH [9] (XC R20) T21++stL [7,8] (rtH [9] (XC R20) T21):=by unfold B21 rtL; rw [if_pos Xwl]
theorem XyR:(stL [7,8] (rtH [9] (XC R20) T21)).length=16:=Qe (by decide) (by rw [VT,Xcg,XaN]; decide)
theorem Xzp:stP B21=⟨0,255,1,[9],XC R20,T21,stL [7,8] (rtH [9] (XC R20) T21)⟩:=by
  rw [Xvm]; exact Xi5 (by decide) (by rw [Xcg]; decide) (by rw [XaN]; omega) XyR
theorem XzC:ckE B21 [7,8]=0:=by
  rw [Xvm,XsP (by decide) (by rw [Xcg]; decide) (by rw [XaN]; omega) (by rw [XaN]; omega) (by decide) XyR,if_pos rfl]
theorem Xgu {x:VI} (hto:x.f.h.to=[7,8]) (hfr:x.f.h.fr=[9]) : 
    (x.f.tok=[]→XI [] pl21 true x=Xs 17)∧(x.f.tok=[]→x.rd=R20→x.cl=[5]→x.now=100→XI Jc pl21 true x=X0 B21)∧(x.f.tok=[]→x.rd.length=19→XI Jc pl21 true x=Xs 21)∧
    (x.f.tok=T21→x.cl=[5]→x.now=110→XI Jc pl21 true x=JO true)∧(x.f.tok=T21→x.cl=[6]→x.now=110→XI Jc pl21 true x=Xs 13)∧
    (x.f.tok=T21→x.cl=[5]→x.now=111→x.rd=R20→(XI Jc pl21 true x).kd=1):=by
  have bn:Yj []=true:=rfl
  refine ⟨fun ht=>?_,fun ht hr hc hn=>?_,fun ht hr=>?_,fun ht hc hn=>?_,fun ht hc hn=>?_,fun ht hc hn hr=>?_⟩
  · unfold XI; rw [ht,if_pos bn,if_pos rfl]; rfl
  · unfold XI
    rw [ht,if_pos bn,if_pos rfl]
    have e0:VV Jc pl21.li x=0:=by
      unfold VV VU; rw [hto,hr,hc,hn,XwQ]; exact Xgi
    have e1:Yw Jc pl21.li x=T21:=by
      unfold Yw VU; rw [hto,hr,hc,hn,XwQ]; rfl
    unfold XX
    rw [if_neg (by decide),if_neg (by rw [hr]; decide),if_neg (fun hh=>hh e0),e1,hto,hfr,hr,if_neg (fun hh=>hh Xwl)]
    rfl
  · unfold XI
    rw [ht,if_pos bn,if_pos rfl]
    unfold XX
    rw [if_neg (by decide),if_pos (by rw [hr]; decide)]
  · unfold XI YS
    rw [ht,hc,hn,XxJ,if_neg (by rw [XqW]; decide),if_neg (by decide),if_pos (show (f21.ut 0).e=0 from rfl)]
  · unfold XI YS
    rw [ht,hc,Xzo,if_neg (by rw [XqW]; decide),if_neg (by decide),if_neg (by decide),if_pos (.inr rfl)]; rfl
  · unfold XI YS
    rw [ht,hc,hn,XxK,if_neg (by rw [XqW]; decide),if_neg (by decide),if_neg (by decide),if_neg (by decide)]
    have hE:XS Jc (Yc Jc) (UA R20) [5] ⟨XP 111 pl21.li,[7,8],XC R20,none,0,none,0⟩=0:=by decide
    have e0:VV Jc pl21.li x=0:=by
      unfold VV VU; rw [hto,hr,hc,hn]; exact hE
    have e1:(Yw Jc pl21.li x).length=50:=by
      unfold Yw VU; rw [hto,hr,hc,hn,(QP hE).2,Ub]
      show 29+(10+2+(XC R20).length)=50
      rw [Xcg]; rfl
    have e2:rtE [9] (XC R20) [7,8] (Yw Jc pl21.li x)=0:=by
      unfold rtE; rw [Xcg,e1]; decide
    unfold XX
    rw [if_neg (by decide),if_neg (by rw [hr]; decide),if_neg (fun hh=>hh e0),hto,hfr,hr,if_neg (fun hh=>hh e2)]
    rfl
end Go.Sh
end

section
namespace Go.Sh
open Go Go.Fw Go.Proofs
set_option maxRecDepth 100000
set_option linter.unusedVariables false
def FrP (P:Nat→Prop) (w w':World):Prop:=∃ L,(∀ z∈L,P z)∧Fr L w w'
section
variable {P:Nat→Prop} {w w1 w2 w0:World}
theorem FrP.of0 (f:Fr [] w w1):FrP P w w1:=⟨[],by simp,f⟩
theorem FrP.of {L:List Nat} (f:Fr L w w1) (h:∀ z∈L,P z):FrP P w w1:=⟨L,h,f⟩
theorem FrP.trans (h:FrP P w w1) (k:FrP P w1 w2):FrP P w w2:=by
  obtain ⟨L,h1,h2⟩:=h
  obtain ⟨M,k1,k2⟩:=k
  exact ⟨L++M,fun z hz=>by rcases List.mem_append.1 hz with hz | hz; exact h1 z hz; exact k1 z hz,(h2.mono (fun z hz=>List.mem_append_left _ hz)).trans k2 (fun z hz=>.inl (List.mem_append_right _ hz))⟩
theorem FrP.then (h:FrP P w w1) (k:Fr [] w1 w2):FrP P w w2:=h.trans (.of0 k)
theorem FrP.size (h:FrP P w w1):w.heap.size≤w1.heap.size:=by obtain ⟨L,_,h2⟩:=h; exact h2.size
theorem FrP.news (h:FrP P w w1) (f:Fr [] w0 w) (hP:∀ z,P z→w0.heap.size≤z):Fr [] w0 w1:=by
  obtain ⟨L,h1,h2⟩:=h
  exact f.trans h2 fun z hz=>.inr (hP z (h1 z hz))
theorem CAt.frP {k:Nat} {cs:List Value} (h:CAt w k cs) (f:FrP P w w1) (hk:¬ P k):CAt w1 k cs:=by
  obtain ⟨L,h1,h2⟩:=f
  exact h.fr h2 fun hm=>hk (h1 k hm)
theorem FrP.row {q:Option Addr} {xs:List UInt8} (f:FrP P w w1) (h:Row w q (xs.map vb)) (hk:∀ z∈Xb q,¬ P z):Row w1 q (xs.map vb):=by
  obtain ⟨L,h1,h2⟩:=f
  exact Row.cells_fr h h2 fun z hz hm=>hk z hz (h1 z hm)
end
def MB (b br:Nat) (p:Option Addr) (es:List RE) (z:Nat):Prop:=z=b∨z∈br::Xb p∨inR es z
structure AS (w0 w:World) (b:Nat) (X:MX) (br:Nat) (p:Option Addr) (es:List RE) (N:Int) (lo:Nat) (k6:Nat) (f:RT) (p5:Option Addr) (k7:Nat) (p7:Option Addr) (c7:Nat):Prop where
  M:MintAt w b X br p es N lo
  ks:es.map RE.ke=Jc
  pl:X.pl=pl21
  f0:Fr [] w0 w
  low:∀ z,MB b br p es z→w0.heap.size≤z
  c6:CAt w k6 f.v
  n6:¬ MB b br p es k6
  g6:w0.heap.size≤k6
  fo:RT.ok w f
  ff:(∀ z∈Xb f.h.p1,¬ (MB b br p es z∨z=k6))∧(∀ z∈Xb f.h.p2,¬ (MB b br p es z∨z=k6))∧(∀ z∈Xb f.p3,¬ (MB b br p es z∨z=k6))∧(∀ z∈Xb f.p4,¬ (MB b br p es z∨z=k6))
  to:f.h.to=[7,8]
  fr:f.h.fr=[9]
  st:f.st=[]
  rr:Row w p5 (R20.map vb)
  rf:∀ z∈Xb p5,¬ (MB b br p es z∨z=k6)
  c7:CAt w k7 (OC.mk (Xs 17) p7 c7).v
  n7:¬ (MB b br p es k7∨k7=k6)
  rl:∀ z,(z∈Xb f.h.p1∨z∈Xb f.h.p2∨z∈Xb f.p3∨z∈Xb f.p4∨z∈Xb p5)→z<w.heap.size
section
variable {w0 w:World} {b br lo k6 k7 c7:Nat} {X:MX} {p p5 p7:Option Addr} {es:List RE} {N:Int} {K:VWP} {f:RT}
theorem MintAt.mbLt (h:MintAt w b X br p es N lo) {z:Nat} (hz:MB b br p es z):z<w.heap.size:=by
  rcases hz with rfl | hz | ⟨e,he,h1,h2⟩
  · exact h.lt
  · exact h.r.lt z hz
  · have:=(h.r.ent e he).1.lh; omega
theorem MB.off {z:Nat} (hz:¬ MB b br p es z):offR br p es z∧z≠b:=
  ⟨⟨fun hm=>hz (.inr (.inl hm)),fun e he=>by
    by_cases h1:z<e.lo
    · exact .inl h1
    · by_cases h2:e.hi≤z
      · exact .inr h2
      · exact absurd (.inr (.inr ⟨e,he,by omega,by omega⟩)) hz⟩,fun hh=>hz (.inl hh)⟩
theorem RT.ok.frP {P:Nat→Prop} {w':World} (h:RT.ok w f) (g:FrP P w w') (h1:∀ z∈Xb f.h.p1,¬ P z) (h2:∀ z∈Xb f.h.p2,¬ P z) (h3:∀ z∈Xb f.p3,¬ P z) (h4:∀ z∈Xb f.p4,¬ P z):RT.ok w' f:=
  ⟨⟨g.row h.h.r1 h1,h.h.h1,g.row h.h.r2 h2,h.h.h2,h.h.b1,h.h.b2⟩,g.row h.r3 h3,h.h3,g.row h.r4 h4,h.h4⟩
theorem AS.step {w':World} {X':MX} {N':Int} (h:AS w0 w b X br p es N lo k6 f p5 k7 p7 c7) (g:FrP (MB b br p es) w w') (hM:MintAt w' b X' br p es N' lo) (hp:X'.pl=pl21):AS w0 w' b X' br p es N' lo k6 f p5 k7 p7 c7:=by
  obtain ⟨f1,f2,f3,f4⟩:=h.ff
  exact ⟨hM,h.ks,hp,g.news h.f0 h.low,h.low,h.c6.frP g h.n6,h.n6,h.g6,h.fo.frP g (fun z hz hh=>f1 z hz (.inl hh)) (fun z hz hh=>f2 z hz (.inl hh)) (fun z hz hh=>f3 z hz (.inl hh)) (fun z hz hh=>f4 z hz (.inl hh)),h.ff,h.to,h.fr,h.st,g.row h.rr fun z hz hh=>h.rf z hz (.inl hh),h.rf,h.c7.frP g fun hh=>h.n7 (.inl hh),h.n7,fun z hz=>Nat.lt_of_lt_of_le (h.rl z hz) g.size⟩
theorem AS.fr0 {w':World} (h:AS w0 w b X br p es N lo k6 f p5 k7 p7 c7) (g:Fr [] w w'):AS w0 w' b X br p es N lo k6 f p5 k7 p7 c7:=h.step (FrP.of0 g) (h.M.fr0 g) h.pl
theorem AS.new (h:AS w0 w b X br p es N lo k6 f p5 k7 p7 c7) {z:Nat} (hz:w.heap.size≤z):¬ (MB b br p es z∨z=k6):=by
  rintro (hh | hh)
  · have:=h.M.mbLt hh; omega
  · have:=h.c6.lt; omega
theorem AS.take {cp rp:Option Addr} {cl rd:List UInt8} {l1 l2 cc rc now:Nat} (h:AS w0 w b X br p es N lo k6 f p5 k7 p7 c7) (hN:N<1000) (hX:X.now<1000000∧X.c0<1000000∧X.c1<1000000∧X.c2<1000000) (hf:f.tok.length≤100)
    (h1:Row w cp (cl.map vb)) (e1:l1=cl.length) (hc1:l1≤cc) (o1:∀ z∈Xb cp,¬ MB b br p es z) (h2:Row w rp (rd.map vb)) (e2:l2=rd.length) (hc2:l2≤rc) (o2:∀ z∈Xb rp,¬ MB b br p es z) (hl1:l1≤100) (hl2:l2≤100) (hnow:now<1000)
    (hk:∀ o w',AS w0 w' b (X.took o.u) br p es (N+2) lo k6 f p5 k7 p7 c7→FrP (MB b br p es) w w'→OC.own w' o w.heap.size→o.u=XI Jc pl21 true ⟨f,cp,cc,cl,rp,rc,rd,now⟩→K o.a w') :
    Xa Tryz.prog X9 #[.pointer (some ⟨b,0,none⟩),.slice cp l1 cc,f.a,.int .u64 (now:Int),.slice rp l2 rc] w K:=by
  subst e1; subst e2
  obtain ⟨f1,f2,f3,f4⟩:=h.ff
  have hin:∀ z,(z=b∨inR es z)→MB b br p es z:=fun z hz=>by
    rcases hz with hz | hz
    · exact .inl hz
    · exact .inr (.inr hz)
  refine Qb (x:=⟨f,cp,cc,cl,rp,rc,rd,now⟩) h.M (by omega) ⟨h.fo,h1,hc1,h2,hc2,by show now<_; omega⟩ ⟨fun _ z hz hh=>f1 z hz (.inl (hin z hh)),fun _ z hz hh=>f2 z hz (.inl (hin z hh)),fun _ z hz hh=>f3 z hz (.inl (hin z hh)),fun _ z hz hh=>f4 z hz (.inl (hin z hh)),fun _ z hz hh=>o1 z hz (hin z hh),fun _ z hz hh=>o2 z hz (hin z hh)⟩
    ⟨by show cl.length≤1000; omega,by show rd.length≤1000; omega,by show f.tok.length≤5000; omega,by show f.h.to.length≤1000; rw [h.to]; decide,by show f.h.fr.length≤1000; rw [h.fr]; decide,by show f.st.length≤1000; rw [h.st]; decide⟩ hX fun o L w' hL g hM hO hu=>?_
  have gP:FrP (MB b br p es) w w':=FrP.of g fun z hz=>hin z (hL z hz)
  refine hk o w' (h.step gP hM h.pl) gP hO ?_
  rw [hu,h.ks]
  unfold JP
  rw [h.pl]
  have:X.see.act=true:=by
    unfold MX.act MX.see
    show decide (X.pl.md=2∨_)=true
    rw [h.pl]
    exact decide_eq_true (.inl rfl)
  rw [this]
theorem XxL:B21.length≤5000:=(Xmr Xwl).1
theorem Xt3 {k8 k9 c8 c9 cap5:Nat} {p8 p9:Option Addr} (h:AS w0 w b ((((mx0 pl21).took (Xs 17)).took (X0 B21)).took (Xs 21)) br p es 7 lo k6 f p5 k7 p7 c7) (ht:f.tok=[]) (h5:20≤cap5)
    (h8:CAt w k8 (OC.mk (X0 B21) p8 c8).v) (n8:¬ (MB b br p es k8∨k8=k6)) (r8:Row w p8 (B21.map vb)) (g8:∀ z∈Xb p8,¬ (MB b br p es z∨z=k6)) (d8:B21.length≤c8)
    (h9:CAt w k9 (OC.mk (Xs 21) p9 c9).v) (n9:¬ (MB b br p es k9∨k9=k6)) (hk:∀ w',Fr [] w0 w'→K (.bool true) w') :
    Zt false (some ⟨b,0,none⟩) p5 20 cap5 ⟨k6,0,none⟩ ⟨k7,0,none⟩ ⟨k8,0,none⟩ ⟨k9,0,none⟩ w K:=by
  unfold Zt
  have hBl:=XxL
  refine ⟨_,_,_,h8.get (by kernel_rfl) (j:=3) rfl,QO (b:=B21) r8 rfl d8 (by omega) fun u w1 f1 hU1 hu=>⟨_,_,_,_,_,_,_,_,_,_,_,_,_,_,_,rfl,?_⟩⟩
  obtain ⟨u1,u2,u3,u4,u5,u6⟩:=RT.su_eq hu
  rw [Xzp] at u3 u4 u5 u6 ⊢
  have h1:=h.fr0 f1
  refine UV (t:=ZN) u.v rfl rfl (by kernel_rfl) (by kernel_rfl) fun w3 f3 hC10=>?_
  obtain ⟨k10,hk10⟩:∃ k,k=w1.heap.size:=⟨_,rfl⟩
  rw [← hk10] at hC10 ⊢
  have h3:=h1.fr0 f3
  have hU3:=hU1.fr0 f3
  have hne10:k10≠k6:=by have:=h1.c6.lt; omega
  refine ⟨_,_,_,hC10.get (by kernel_rfl) (j:=4) rfl,?_⟩
  refine h3.c6.sto (j:=4) (by show 4<6; omega) (.slice u.p3 u.tok.length u.c3) rfl rfl (by kernel_rfl) fun w4 f4 hC4 s4=>?_
  have f13:=f1.then f3
  obtain ⟨F,hF⟩:∃ F:RT,F={ f with tok:=u.tok,p3:=u.p3,c3:=u.c3 }:=⟨_,rfl⟩
  have hC4:CAt w4 k6 F.v:=by rw [hF]; exact hC4
  have lt6:=h.c6.lt
  have hU4:RT.own w4 u w.heap.size:=by
    refine ⟨⟨hU3.h.o1.fr_sep f4 (by omega),hU3.h.o2.fr_sep f4 (by omega),hU3.h.b1,hU3.h.b2⟩,hU3.o3.fr_sep f4 (by omega),hU3.o4.fr_sep f4 (by omega)⟩
  have G4:FrP (fun z=>MB b br p es z∨z=k6) w3 w4:=FrP.of f4 (Yo (.inr rfl))
  obtain ⟨g1,g2,g3,g4⟩:=h3.ff
  have fo4:=h3.fo.frP G4 g1 g2 g3 g4
  have hX:((((mx0 pl21).took (Xs 17)).took (X0 B21)).took (Xs 21)).pl=pl21:=rfl
  have A4:AS w0 w4 b ((((mx0 pl21).took (Xs 17)).took (X0 B21)).took (Xs 21)) br p es 7 lo k6 F p5 k7 p7 c7:=by
    refine ⟨h3.M.fr f4 (Yo (MB.off h.n6)),h.ks,hX,h3.f0.st f4 h.g6,h.low,hC4,h.n6,h.g6,?_,?_,?_,?_,?_,G4.row h3.rr h.rf,h.rf,h3.c7.frP G4 h.n7,h.n7,?_⟩
    · rw [hF]; exact ⟨fo4.h,hU4.o3.row,hU4.o3.cap,fo4.r4,fo4.h4⟩
    · rw [hF]; exact ⟨g1,g2,fun z hz=>h.new (hU1.o3.2.2 z hz),g4⟩
    · rw [hF]; exact h.to
    · rw [hF]; exact h.fr
    · rw [hF]; exact h.st
    · rw [hF]
      rintro z (hz | hz | hz | hz | hz)
      · have:=h3.rl z (.inl hz); omega
      · have:=h3.rl z (.inr (.inl hz)); omega
      · exact hU4.o3.lt z hz
      · have:=h3.rl z (.inr (.inr (.inr (.inl hz)))); omega
      · have:=h3.rl z (.inr (.inr (.inr (.inr hz)))); omega
  have hFt:F.tok=T21:=by rw [hF]; exact u5
  have hFl:F.tok.length≤100:=by rw [hFt,XaN]; omega
  have h84:=(h8.fr0 f13).frP G4 n8
  have h94:=(h9.fr0 f13).frP G4 n9
  have r84:=G4.row (r8.fr0 f13) g8
  have n14:=f13.size
  clear h84 h94 r84 hU4 hU3 hU1 fo4 hC4 h3 h1
  refine mkL (n:=1) (xs:=[5]) rfl rfl (by kernel_rfl) fun pd wd fd hOd sd=>?_
  have Ad:=A4.fr0 fd
  refine ⟨_,_,_,_,_,_,_,_,_,_,_,_,_,_,Ad.c6.ld (by kernel_rfl) (by kernel_rfl),?_⟩
  refine Ad.take (cl:=[5]) (rd:=[]) (now:=110) (by omega) ⟨by decide,by decide,by decide,by decide⟩ hFl hOd.row rfl (by omega) (fun z hz hh=>A4.new (hOd.2.2 z hz) (.inl hh)) (Row.nil _ _) rfl (by omega) (by simp [Xb]) (by omega) (by omega) (by omega) fun od we Ae ge hOe hue=>⟨_,_,_,_,_,_,_,rfl,?_⟩
  have hue:od.u=JO true:=by rw [hue]; exact (Xgu Ad.to Ad.fr).2.2.2.1 hFt rfl rfl
  obtain ⟨ud,po,co⟩:=od
  have hue:ud=JO true:=hue
  subst hue
  replace Ae:AS w0 we b (((((mx0 pl21).took (Xs 17)).took (X0 B21)).took (Xs 21)).took (JO true)) br p es (7+2) lo k6 F p5 k7 p7 c7:=Ae
  refine UV (t:=Xo) (OC.mk (JO true) po co).v rfl rfl (by kernel_rfl) (by kernel_rfl) fun w8 f8 hC12=>?_
  obtain ⟨k12,hk12⟩:∃ k,k=we.heap.size:=⟨_,rfl⟩
  rw [← hk12] at hC12 ⊢
  have A8:=Ae.fr0 f8
  have n12:¬ (MB b br p es k12∨k12=k6):=Ae.new (by omega)
  refine mkL (n:=1) (xs:=[6]) rfl rfl (by kernel_rfl) fun ph wh fh hOh sh=>?_
  have Ah:=A8.fr0 fh
  refine ⟨_,_,_,_,_,_,_,_,_,_,_,_,_,_,Ah.c6.ld (by kernel_rfl) (by kernel_rfl),?_⟩
  refine Ah.take (cl:=[6]) (rd:=[]) (now:=110) (by omega) ⟨by decide,by decide,by decide,by decide⟩ hFl hOh.row rfl (by omega) (fun z hz hh=>A8.new (hOh.2.2 z hz) (.inl hh)) (Row.nil _ _) rfl (by omega) (by simp [Xb]) (by omega) (by omega) (by omega) fun oh wi Ai gi hOi hui=>⟨_,_,_,_,_,_,_,rfl,?_⟩
  have hui:oh.u=Xs 13:=by rw [hui]; exact (Xgu Ah.to Ah.fr).2.2.2.2.1 hFt rfl rfl
  obtain ⟨uh,po2,co2⟩:=oh
  have hui:uh=Xs 13:=hui
  subst hui
  replace Ai:AS w0 wi b ((((((mx0 pl21).took (Xs 17)).took (X0 B21)).took (Xs 21)).took (JO true)).took (Xs 13)) br p es (7+2+2) lo k6 F p5 k7 p7 c7:=Ai
  refine UV (t:=Xo) (OC.mk (Xs 13) po2 co2).v rfl rfl (by kernel_rfl) (by kernel_rfl) fun w12 f12 hC13=>?_
  obtain ⟨k13,hk13⟩:∃ k,k=wi.heap.size:=⟨_,rfl⟩
  rw [← hk13] at hC13 ⊢
  have A12:=Ai.fr0 f12
  have n13:¬ (MB b br p es k13∨k13=k6):=Ai.new (by omega)
  refine mkL (n:=1) (xs:=[5]) rfl rfl (by kernel_rfl) fun pj wj fj hOj sj=>?_
  have Aj:=A12.fr0 fj
  refine ⟨_,_,_,_,_,_,_,_,_,_,_,_,_,_,Aj.c6.ld (by kernel_rfl) (by kernel_rfl),?_⟩
  refine Aj.take (cl:=[5]) (rd:=R20) (now:=111) (by omega) ⟨by decide,by decide,by decide,by decide⟩ hFl hOj.row rfl (by omega) (fun z hz hh=>A12.new (hOj.2.2 z hz) (.inl hh)) Aj.rr rfl h5 (fun z hz hh=>Aj.rf z hz (.inl hh)) (by omega) (by omega) (by omega) fun oi wk Ak gk hOk huk=>⟨_,_,_,_,_,_,_,rfl,?_⟩
  have huk:oi.u.kd=1:=by rw [huk]; exact (Xgu Aj.to Aj.fr).2.2.2.2.2 hFt rfl rfl rfl
  refine UV (t:=Xo) oi.v rfl rfl (by kernel_rfl) (by kernel_rfl) fun w16 f16 hC14=>?_
  obtain ⟨k14,hk14⟩:∃ k,k=wk.heap.size:=⟨_,rfl⟩
  rw [← hk14] at hC14 ⊢
  have A16:=Ak.fr0 f16
  obtain ⟨X,hXX⟩:∃ X,X=((((((mx0 pl21).took (Xs 17)).took (X0 B21)).took (Xs 21)).took (JO true)).took (Xs 13)).took oi.u:=⟨_,rfl⟩
  have x1:X.now=6:=by rw [hXX]; rfl
  have x2:X.last=0:=by rw [hXX]; rfl
  have x3:X.c0=1:=by rw [hXX]; show 1+(if oi.u.kd=0 then 1 else 0)=1; rw [huk]; rfl
  have x4:X.c1=2:=by rw [hXX]; show 1+(if oi.u.kd=1 then 1 else 0)=2; rw [huk]; rfl
  have x5:X.c2=3:=by rw [hXX]; show 3+(if oi.u.kd=2 then 1 else 0)=3; rw [huk]; rfl
  have x6:X.pl=pl21:=by rw [hXX]; rfl
  have M16:=A16.M
  rw [← hXX] at M16
  refine ⟨_,rfl,XtZ M16 fun w17 f17=>⟨_,_,rfl,_,rfl,?_⟩⟩
  refine Xk6 (M16.fr0 f17) fun w18 f18 M18=>⟨rfl,?_⟩
  refine Xr7 M18 fun dd dr pq w19 f19 MD gz gd=>⟨_,rfl,?_⟩
  have M19:=M18.fr0 f19
  refine Xgg (q:=⟨3,false,1,0⟩) M19 fun w20 f20 M20=>⟨_,rfl,?_⟩
  have eS:Xi4 ⟨3,false,1,0⟩=11:=by decide
  have eX:(X.tick).set ⟨3,false,1,0⟩=X.tick:=by unfold MX.set; rw [if_neg (by decide)]
  rw [eX] at M20
  rw [eS]
  refine XqU M20 fun w21 f21=>⟨_,_,_,rfl,_,_,XyY (by kernel_rfl),Xl ⟨_,rfl,?_⟩⟩
  have c0:X.tick.c0=1:=x3
  have c1:X.tick.c1=2:=x4
  have c2:X.tick.c2=3:=x5
  rw [x1,x2,c0,c1,c2]
  have hdb:dd≠b:=by have:=M18.lt; omega
  have MD20:=MD.fr f20 (Yo ⟨MD.a |> fun _=>(by
    refine ⟨fun hm=>?_,fun e he=>M18.a.2 e he⟩
    have:=gz b hm; have:=M18.lt; omega),fun hh=>hdb hh.symm⟩)
  refine Vq (MD20.fr0 f21) fun w23 f23=>⟨_,rfl,?_⟩
  have hact:X.tick.copy.act=true:=by
    unfold MX.act
    exact decide_eq_true (.inl (show X.pl.md=2 by rw [x6]; rfl))
  rw [hact]
  have g23:FrP (MB b br p es) w16 w23:=((((FrP.of0 f17).trans (FrP.of f18 (Yo (.inl rfl)))).then f19).trans (FrP.of f20 (Yo (.inl rfl)))).trans (FrP.of0 (f21.then f23))
  have g423:FrP (MB b br p es) w4 w23:=(((((((FrP.of0 fd).trans ge).then f8).then fh).trans gi).then f12).then fj).trans gk |>.then f16 |>.trans g23
  have gP:∀ {w w'},FrP (MB b br p es) w w'→FrP (fun z=>MB b br p es z∨z=k6) w w':=fun ⟨L,hL,hf⟩=>⟨L,fun z hz=>.inl (hL z hz),hf⟩
  have G3:FrP (fun z=>MB b br p es z∨z=k6) w w23:=((FrP.of0 f13).trans G4).trans (gP g423)
  have C7:=h.c7.frP G3 h.n7
  have C8:=h8.frP G3 n8
  have C9:=h9.frP G3 n9
  have R8:=G3.row r8 g8
  have g823:FrP (fun z=>MB b br p es z∨z=k6) w8 w23:=gP ((((((FrP.of0 fh).trans gi).then f12).then fj).trans gk |>.then f16).trans g23)
  have C12:=hC12.frP g823 n12
  have g1223:FrP (fun z=>MB b br p es z∨z=k6) w12 w23:=gP (((FrP.of0 fj).trans gk |>.then f16).trans g23)
  have C13:=hC13.frP g1223 n13
  have C14:=hC14.frP (gP g23) (Ak.new (by omega))
  have F0:Fr [] w0 w23:=g23.news A16.f0 h.low
  refine Xl ⟨_,C7.get (by kernel_rfl) (j:=0) rfl,XV rfl ⟨_,C7.get (by kernel_rfl) (j:=2) rfl,XV rfl ⟨_,C8.get (by kernel_rfl) (j:=0) rfl,XV rfl ⟨_,C8.get (by kernel_rfl) (j:=4) rfl,XV rfl (XV rfl ⟨_,C9.get (by kernel_rfl) (j:=0) rfl,XV rfl ⟨_,C9.get (by kernel_rfl) (j:=2) rfl,XV rfl ⟨_,_,_,C8.get (by kernel_rfl) (j:=3) rfl,?_⟩⟩⟩)⟩⟩⟩⟩
  refine mkL (n:=2) (xs:=[7,8]) rfl rfl (by kernel_rfl) fun px wx fx hOx sx=>?_
  refine XqT (b:=B21) (id:=[7,8]) (R8.fr0 fx) rfl d8 (by omega) hOx.row rfl (by omega) fun wy fy=>⟨_,rfl,?_⟩
  rw [XzC]
  have fxy:=fx.then fy
  refine XV rfl ⟨_,(C12.fr0 fxy).get (by kernel_rfl) (j:=0) rfl,XV rfl ⟨_,(C12.fr0 fxy).get (by kernel_rfl) (j:=1) rfl,XV rfl ⟨_,(C13.fr0 fxy).get (by kernel_rfl) (j:=0) rfl,XV rfl ⟨_,(C13.fr0 fxy).get (by kernel_rfl) (j:=2) rfl,XV rfl ⟨_,(C14.fr0 fxy).get (by kernel_rfl) (j:=0) rfl,?_⟩⟩⟩⟩⟩
  rw [huk]
  refine XV rfl (XV rfl (XV rfl (XV rfl (XV rfl (XV rfl (XV rfl ?_))))))
  refine Xdu ((M20.fr0 (f21.then f23)).fr0 fxy) fun wz fz=>⟨_,_,_,_,rfl,?_⟩
  have e10:X.tick.pl.li=10:=by
    show X.pl.li=10
    rw [x6]; rfl
  rw [e10]
  exact hk wz ((F0.then fxy).then fz)
end
end Go.Sh
end

section
namespace Go.Sh
open Go Go.Fw Go.Proofs
set_option maxRecDepth 100000
set_option linter.unusedVariables false
section
variable {w0 w:World} {b br lo k6 k7 c7:Nat} {X:MX} {p p5 p7:Option Addr} {es:List RE} {N:Int} {K:VWP} {f:RT}
theorem Xt4 {P:Nat→Prop} {w w1:World} {k n:Nat} {g:Nat→Value} (h:Blk w k n g) (f:FrP P w w1) (hk:¬ P k):Blk w1 k n g:=by
  obtain ⟨L,h1,h2⟩:=f
  exact h.fr h2 fun hm=>hk (h1 k hm)
theorem Xt5 {cap5:Nat} (h:AS w0 w b ((mx0 pl21).took (Xs 17)) br p es 3 lo k6 f p5 k7 p7 c7) (ht:f.tok=[]) (h5:20≤cap5) (hk:∀ w',Fr [] w0 w'→K (.bool true) w') :
    Jn false (some ⟨b,0,none⟩) p5 20 cap5 ⟨k6,0,none⟩ ⟨k7,0,none⟩ w K:=by
  unfold Jn
  have hfl:f.tok.length≤100:=by rw [ht]; decide
  refine mkL (n:=1) (xs:=[5]) rfl rfl (by kernel_rfl) fun pa w1 f1 hOa s1=>?_
  have A1:=h.fr0 f1
  refine ⟨_,_,_,_,_,_,_,_,_,_,_,_,_,_,A1.c6.ld (by kernel_rfl) (by kernel_rfl),?_⟩
  refine A1.take (cl:=[5]) (rd:=R20) (now:=100) (by omega) ⟨by decide,by decide,by decide,by decide⟩ hfl hOa.row rfl (by omega) (fun z hz hh=>h.new (hOa.2.2 z hz) (.inl hh)) A1.rr rfl h5 (fun z hz hh=>A1.rf z hz (.inl hh)) (by omega) (by omega) (by omega) fun o w2 A2 g2 hO2 hu2=>⟨_,_,_,_,_,_,_,rfl,?_⟩
  have hu2:o.u=X0 B21:=by rw [hu2]; exact (Xgu A1.to A1.fr).2.1 ht rfl rfl rfl
  obtain ⟨u8,p8,c8⟩:=o
  have hu2:u8=X0 B21:=hu2
  subst hu2
  replace A2:AS w0 w2 b (((mx0 pl21).took (Xs 17)).took (X0 B21)) br p es (3+2) lo k6 f p5 k7 p7 c7:=A2
  have hO2:OB w2 p8 B21.length c8 B21 w1.heap.size:=hO2
  refine UV (t:=Xo) (OC.mk (X0 B21) p8 c8).v rfl rfl (by kernel_rfl) (by kernel_rfl) fun w4 f4 hC8=>?_
  obtain ⟨k8,hk8⟩:∃ k,k=w2.heap.size:=⟨_,rfl⟩
  rw [← hk8] at hC8 ⊢
  have A4:=A2.fr0 f4
  have n8:¬ (MB b br p es k8∨k8=k6):=A2.new (by omega)
  have r8:Row w4 p8 (B21.map vb):=hO2.row.fr0 f4
  have g8:∀ z∈Xb p8,¬ (MB b br p es z∨z=k6):=fun z hz=>A1.new (hO2.2.2 z hz)
  have gP:∀ {w w'},FrP (MB b br p es) w w'→FrP (fun z=>MB b br p es z∨z=k6) w w':=fun ⟨L,hL,hf⟩=>⟨L,fun z hz=>.inl (hL z hz),hf⟩
  refine ⟨fun w'=>CAt w' k6 f.v,Drw.intro fun w5 f5 s5=>?_⟩
  have A5:=A4.fr0 f5
  refine WA A5.rr rfl (n:=19) (by decide) h5 fun q80 d80 hq80 hl80 hd80 hb80=>?_
  refine ⟨_,_,_,_,_,_,_,_,_,_,_,_,_,_,⟨A5.c6,fun w' hw=>hw.ld (by kernel_rfl) (by kernel_rfl)⟩,?_⟩
  have n58:k8<w5.heap.size:=by have:=hC8.lt; have:=f5.size; omega
  have n57:k7<w5.heap.size:=A5.c7.lt
  have n5p:∀ z∈Xb p8,z<w5.heap.size:=fun z hz=>by have:=hO2.lt z hz; have:=f4.size; have:=f5.size; omega
  have fin : ∀ (k9 : Nat) (wb w9 : World) (o : OC), AS w0 wb b ((((mx0 pl21).took (Xs 17)).took (X0 B21)).took o.u) br p es (3 + 2 + 2) lo k6 f p5 k7 p7 c7 → FrP (MB b br p es) w5 wb → o.u = Xs 21 → CAt w9 k9 o.v → Fr [k9] wb w9 → w5.heap.size ≤ k9 →
      Zt false (some ⟨b,0,none⟩) p5 20 cap5 ⟨k6,0,none⟩ ⟨k7,0,none⟩ ⟨k8,0,none⟩ ⟨k9,0,none⟩ w9 K:=by
    intro k9 wb w9 o A G hu hC9 f9 h59
    obtain ⟨u9,p9,c9⟩:=o
    have hu:u9=Xs 21:=hu
    subst hu
    replace A:AS w0 wb b ((((mx0 pl21).took (Xs 17)).took (X0 B21)).took (Xs 21)) br p es (3+2+2) lo k6 f p5 k7 p7 c7:=A
    have G9:FrP (fun z=>z=k9) wb w9:=FrP.of f9 (Yo rfl)
    have n9:¬ (MB b br p es k9∨k9=k6):=A5.new h59
    have n5:=A5.f0.size
    have G59:=gP G
    have lt:∀ z,z<w5.heap.size→z≠k9:=fun z hz=>by omega
    have rl:=A5.rl
    have A9:AS w0 w9 b ((((mx0 pl21).took (Xs 17)).took (X0 B21)).took (Xs 21)) br p es 7 lo k6 f p5 k7 p7 c7:=by
      refine ⟨(A.M.fr f9 (Yo (MB.off fun hh=>n9 (.inl hh)))).mono (by omega),A.ks,rfl,A.f0.st f9 (by omega),A.low,A.c6.fr f9 (by simp; exact fun hh=>n9 (.inr hh.symm)),A.n6,A.g6,A.fo.frP G9 (fun z hz=>lt z (rl z (.inl hz))) (fun z hz=>lt z (rl z (.inr (.inl hz)))) (fun z hz=>lt z (rl z (.inr (.inr (.inl hz))))) (fun z hz=>lt z (rl z (.inr (.inr (.inr (.inl hz)))))),A.ff,A.to,A.fr,A.st,G9.row A.rr fun z hz=>lt z (rl z (.inr (.inr (.inr (.inr hz))))),A.rf,A.c7.frP G9 (lt k7 n57),A.n7,fun z hz=>Nat.lt_of_lt_of_le (A.rl z hz) f9.size⟩
    have h89:CAt w9 k8 (OC.mk (X0 B21) p8 c8).v:=((hC8.fr0 f5).frP G59 n8).frP G9 (lt k8 n58)
    have r89:Row w9 p8 (B21.map vb):=G9.row (G59.row (r8.fr0 f5) g8) fun z hz=>lt z (n5p z hz)
    exact Xt3 A9 ht h5 h89 n8 r89 g8 hO2.cap hC9 n9 hk
  have tk : ∀ {wa : World} {q : Option Addr} {lo' : Nat} {K : Value → World → Prop}, Fr [] w5 wa → OB wa q 1 1 [5] lo' → w5.heap.size ≤ lo' → (∀ (o : OC) (wb : World), AS w0 wb b ((((mx0 pl21).took (Xs 17)).took (X0 B21)).took o.u) br p es (3 + 2 + 2) lo k6 f p5 k7 p7 c7 → FrP (MB b br p es) wa wb → o.u = Xs 21 → K o.a wb) →
      Xa Tryz.prog X9 #[.pointer (some ⟨b,0,none⟩),.slice q 1 1,f.a,.int .u64 100,.slice q80 19 d80] wa K:=by
    intro wa q lo' K fa hO hlo hK
    have Aa:=A5.fr0 fa
    refine Aa.take (cl:=[5]) (rd:=R20.take 19) (now:=100) (by omega) ⟨by decide,by decide,by decide,by decide⟩ hfl hO.row rfl (by omega) (fun z hz hh=>A5.new (Nat.le_trans hlo (hO.2.2 z hz)) (.inl hh)) (hq80.fr0 fa) hl80 hd80 (fun z hz hh=>Aa.rf z (hb80 z hz) (.inl hh)) (by omega) (by omega) (by omega) fun o wb Ab gb hOb hub=>hK o wb Ab gb ?_
    rw [hub]; exact (Xgu Aa.to Aa.fr).2.2.1 ht rfl
  constructor
  · refine mkL (n:=1) (xs:=[5]) rfl rfl (by kernel_rfl) fun pc w6 f6 hO6 s6=>⟨.inr (A5.c6.fr0 f6),?_⟩
    constructor
    · refine tk f6 hO6 (Nat.le_refl _) fun o w7 A7 g7 hu7=>⟨_,_,_,_,_,_,_,rfl,?_⟩
      refine XG (s:=5) (by kernel_rfl) fun w8 g f8 hB8 s8=>⟨.inr (A7.c6.fr0 f8),?_⟩
      refine Xi3 hB8 o.v rfl rfl (by kernel_rfl) fun w9 f9 hC9 s9=>?_
      have n6:=f6.size; have n7:=g7.size
      exact fin _ w8 w9 o (A7.fr0 f8) (((FrP.of0 f6).trans g7).then f8) hu7 hC9 f9 (by omega)
    · refine XG (s:=5) (by kernel_rfl) fun w7 g f7 hB7 s7=>⟨.inr (A5.c6.fr0 (f6.then f7)),?_⟩
      obtain ⟨k9,hk9⟩:∃ k,k=w6.heap.size:=⟨_,rfl⟩
      rw [← hk9] at hB7 ⊢
      refine tk (f6.then f7) (hO6.fr0 f7) (Nat.le_refl _) fun o w8 A8 g8' hu8=>⟨_,_,_,_,_,_,_,rfl,?_⟩
      have n6:=f6.size
      have n9:¬ (MB b br p es k9∨k9=k6):=A5.new (by omega)
      refine Xi3 (Xt4 hB7 g8' fun hh=>n9 (.inl hh)) o.v rfl rfl (by kernel_rfl) fun w9 f9 hC9 s9=>?_
      exact fin _ w8 w9 o A8 ((FrP.of0 (f6.then f7)).trans g8') hu8 hC9 f9 (by omega)
  · refine XG (s:=5) (by kernel_rfl) fun w6 g f6 hB6 s6=>⟨.inr (A5.c6.fr0 f6),?_⟩
    obtain ⟨k9,hk9⟩:∃ k,k=w5.heap.size:=⟨_,rfl⟩
    rw [← hk9] at hB6 ⊢
    refine mkL (n:=1) (xs:=[5]) rfl rfl (by kernel_rfl) fun pc w7 f7 hO7 s7=>⟨.inr (A5.c6.fr0 (f6.then f7)),?_⟩
    refine tk (f6.then f7) hO7 f6.size fun o w8 A8 g8' hu8=>⟨_,_,_,_,_,_,_,rfl,?_⟩
    have n9:¬ (MB b br p es k9∨k9=k6):=A5.new (by omega)
    refine Xi3 (Xt4 (hB6.fr0 f7) g8' fun hh=>n9 (.inl hh)) o.v rfl rfl (by kernel_rfl) fun w9 f9 hC9 s9=>?_
    exact fin _ w8 w9 o A8 ((FrP.of0 (f6.then f7)).trans g8') hu8 hC9 f9 (by omega)
end
end Go.Sh
end

section
namespace Go.Sh
open Go Go.Fw Go.Proofs
set_option maxRecDepth 100000
set_option linter.unusedVariables false
section
variable {w0 w:World} {b br lo:Nat} {K:VWP}
theorem Xt6 (hM:MintAt w b (mx0 pl21) br none [] 1 lo) (f0:Fr [] w0 w) (hb:w0.heap.size≤b) (hbr:w0.heap.size≤br) (hlo:w0.heap.size≤lo) (hk:∀ w',Fr [] w0 w'→K (.bool true) w') :
    VO false (some ⟨b,0,none⟩) w K:=by
  unfold VO
  have hbl:=hM.lt
  have hbrl:=hM.r.lt br (List.mem_cons_self ..)
  have n0:=f0.size
  refine mkL (n:=20) (xs:=R20) rfl rfl (by kernel_rfl) fun p5 w1 f1 hO5 s1=>?_
  refine UV (t:=Zd) [.int .u8 0,.int .u32 0,.slice none 0 0,.slice none 0 0,.slice none 0 0,.slice none 0 0] rfl rfl (by kernel_rfl) (by kernel_rfl) fun w3 f3 hC3=>?_
  obtain ⟨k6,hk6⟩:∃ k,k=w1.heap.size:=⟨_,rfl⟩
  rw [← hk6] at hC3 ⊢
  have n1:=f1.size; have n3:=f3.size
  have lt6:=hC3.lt
  refine mkL (n:=2) (xs:=[7,8]) rfl rfl (by kernel_rfl) fun p1 w4 f4 hO1 s4=>?_
  have hC4:=hC3.fr0 f4
  refine hC4.sto (j:=2) (by show 2<6; omega) (.slice p1 2 2) rfl rfl (by kernel_rfl) fun w5 f5 hC5 s5=>?_
  refine mkL (n:=1) (xs:=[9]) rfl rfl (by kernel_rfl) fun p2 w6 f6 hO2 s6=>?_
  refine (hC5.fr0 f6).sto (j:=3) (by show 3<6; omega) (.slice p2 1 1) rfl rfl (by kernel_rfl) fun w7 f7 hC7 s7=>?_
  refine mkL (n:=1) (xs:=[5]) rfl rfl (by kernel_rfl) fun p63 w8 f8 hO63 s8=>?_
  obtain ⟨F,hF⟩:∃ F:RT,F=⟨⟨0,0,[7,8],[9],p1,2,p2,1⟩,[],[],none,0,none,0⟩:=⟨_,rfl⟩
  have hC8:CAt w8 k6 F.v:=by rw [hF]; exact hC7.fr0 f8
  have n4:=f4.size; have n5:=f5.size; have n6:=f6.size; have n7:=f7.size; have n8:=f8.size
  have f13:=f1.then f3
  have k6w:w.heap.size≤k6:=by omega
  have f08:Fr [] w w8:=((((f13.then f4).st f5 k6w).then f6).st f7 k6w).then f8
  have hM8:=hM.fr0 f08
  have hO58:OB w8 p5 20 20 R20 w.heap.size:=by
    have hz:∀ z∈Xb p5,z∉[k6]:=fun z hz hm=>by have:=hO5.lt z hz; have:=List.mem_singleton.1 hm; omega
    exact ((((((hO5.fr0 f3).fr0 f4).fr f5 hz).fr0 f6).fr f7 hz).fr0 f8)
  have hO18:OB w8 p1 2 2 [7,8] w3.heap.size:=((((hO1.fr_sep f5 (by omega)).fr0 f6).fr_sep f7 (by omega)).fr0 f8)
  have hO28:OB w8 p2 1 1 [9] w5.heap.size:=((hO2.fr_sep f7 (by omega)).fr0 f8)
  have hFo:RT.ok w8 F:=by rw [hF]; exact ⟨⟨hO18.row,hO18.cap,hO28.row,hO28.cap,by show 0<256; omega,by show 0<4294967296; omega⟩,Row.nil _ _,Nat.le_refl _,Row.nil _ _,Nat.le_refl _⟩
  refine ⟨_,_,_,_,_,_,_,_,_,_,_,_,_,_,hC8.ld (by kernel_rfl) (by kernel_rfl),?_⟩
  have hno:∀ {z:Nat},z=b∨inR [] z→z=b:=fun hz=>by
    rcases hz with hz | ⟨e,he,_⟩
    · exact hz
    · cases he
  have tk:=Qb (K:=fun v w9=>∃ (n66:Int) (b66:Bool) (n66_1:Int) (p66:Option Addr) (l66 c66:Nat) (n66_2:Int),v=.agg #[.int .i64 n66,.bool b66,.int .i64 n66_1,.slice p66 l66 c66,.int .i64 n66_2]∧∃ o:OC,o.u.kd=n66∧o.u.ch=b66∧o.u.er=n66_1∧o.p=p66∧o.u.bs.length=l66∧o.c=c66∧o.u.us=n66_2∧Fr [b] w8 w9∧MintAt w9 b ((mx0 pl21).took o.u) br none [] 3 lo∧o.u=Xs 17)
    (x:=⟨F,p63,1,[5],p5,20,R20,100⟩) hM8 (by omega) ⟨hFo,hO63.row,by show 1≤1; omega,hO58.row,by show 20≤20; omega,by show 100<_; omega⟩
    ⟨fun _ z hz hh=>by have:=hO18.2.2 z (by rw [hF] at hz; exact hz); have:=hno hh; omega,
     fun _ z hz hh=>by have:=hO28.2.2 z (by rw [hF] at hz; exact hz); have:=hno hh; omega,
     fun _ z hz hh=>by rw [hF] at hz; simp [Xb] at hz,
     fun _ z hz hh=>by rw [hF] at hz; simp [Xb] at hz,
     fun _ z hz hh=>by have:=hO63.2.2 z hz; have:=hno hh; omega,
     fun _ z hz hh=>by have:=hO58.2.2 z hz; have:=hno hh; omega⟩
    ⟨by show 1≤1000; omega,by show 20≤1000; omega,by show F.tok.length≤5000; rw [hF]; show 0≤5000; omega,by show F.h.to.length≤1000; rw [hF]; show 2≤1000; omega,by show F.h.fr.length≤1000; rw [hF]; show 1≤1000; omega,by show F.st.length≤1000; rw [hF]; show 0≤1000; omega⟩
    ⟨by decide,by decide,by decide,by decide⟩ fun o L w' hL f hM' hO hu=>⟨_,_,_,_,_,_,_,rfl,o,rfl,rfl,rfl,rfl,rfl,rfl,rfl,f.mono fun z hz=>by rw [List.mem_singleton]; exact hno (hL z hz),hM',by
      rw [hu]; exact (Xgu (x:=⟨F,p63,1,[5],p5,20,R20,100⟩) (by show F.h.to=_; rw [hF]) (by show F.h.fr=_; rw [hF])).1 (by show F.tok=_; rw [hF])⟩
  refine Ue ?_ tk
  rintro v w9 ⟨_,_,_,_,_,_,_,rfl,o,rfl,rfl,rfl,rfl,rfl,rfl,rfl,f9,hM9,hu⟩
  refine ⟨_,_,_,_,_,_,_,rfl,?_⟩
  obtain ⟨uu,p7,c7⟩:=o
  have hu:uu=Xs 17:=hu
  subst hu
  replace hM9:MintAt w9 b ((mx0 pl21).took (Xs 17)) br none [] 3 lo:=hM9
  refine UV (t:=Xo) (OC.mk (Xs 17) p7 c7).v rfl rfl (by kernel_rfl) (by kernel_rfl) fun w11 f11 hC7'=>?_
  obtain ⟨k7,hk7⟩:∃ k,k=w9.heap.size:=⟨_,rfl⟩
  rw [← hk7] at hC7' ⊢
  have n9:=f9.size; have n11:=f11.size
  have hM11:=hM9.fr0 f11
  have hC11:CAt w11 k6 F.v:=(hC8.fr f9 (by simp; omega)).fr0 f11
  have rowP:∀ {q:Option Addr} {l c lo':Nat} {xs:List UInt8},OB w8 q l c xs lo'→w.heap.size≤lo'→OB w11 q l c xs lo':=fun hO hl=>(hO.fr_sep f9 (by omega)).fr0 f11
  have hO5b:=rowP hO58 (Nat.le_refl _)
  have hO1b:=rowP hO18 (by omega)
  have hO2b:=rowP hO28 (by omega)
  have f0b:Fr [] w0 w11:=((f0.then f08).st f9 hb).then f11
  have lt7:=hC7'.lt
  have inst : ∀ (wa : World) (pk : Option Addr) (lo' : Nat), Fr [] w11 wa → OB wa pk 16 16 Z16 lo' → Xa Tryz.prog JI #[.pointer (some ⟨br, 0, none⟩), .int .i64 4, .slice pk 16 16] wa fun r70 w15 =>
      ∃ (n70:Int),r70=.int .i64 n70∧Jn false (some ⟨b,0,none⟩) p5 20 20 ⟨k6,0,none⟩ ⟨k7,0,none⟩ w15 K:=by
    intro wa pk lo' fa hOk
    have hMa:=hM11.fr0 fa
    have na:=fa.size
    refine Xcf (s:=4) hMa.r (by omega) hOk.row hOk.2.1 hOk.cap fun wb p' es' fb hR hp he hm=>⟨_,rfl,?_⟩
    have hba:=hMa.lt
    have hne:b≠br:=fun hh=>hMa.a.1 (by rw [hh]; exact List.mem_cons_self ..)
    have fb:Fr [br] wa wb:=fb
    have nb:=fb.size
    have fnb:Fr [] w0 wb:=(f0b.then fa).st fb hbr
    have notMB:∀ {z:Nat},z≠b→z≠br→z<wa.heap.size→¬ MB b br p' es' z:=by
      intro z h1 h2 h3 hh
      rcases hh with hh | hh | ⟨e,hE,h4,h5⟩
      · exact h1 hh
      · rcases List.mem_cons.1 hh with hh | hh
        · exact h2 hh
        · rcases hp z hh with hx | hx
          · simp [Xb] at hx
          · omega
      · rcases he e hE with hx | hx
        · cases hx
        · omega
    have lowMB:∀ z,MB b br p' es' z→w0.heap.size≤z:=by
      intro z hh
      have:=f0b.size
      rcases hh with hh | hh | ⟨e,hE,h4,h5⟩
      · omega
      · rcases List.mem_cons.1 hh with hh | hh
        · omega
        · rcases hp z hh with hx | hx
          · simp [Xb] at hx
          · omega
      · rcases he e hE with hx | hx
        · cases hx
        · omega
    have hrow:∀ {q:Option Addr} {l c lo2:Nat} {xs:List UInt8},OB w11 q l c xs lo2→w.heap.size≤lo2→OB wb q l c xs lo2∧(∀ z∈Xb q,¬ MB b br p' es' z)∧∀ z∈Xb q,z<wb.heap.size:=by
      intro q l c lo2 xs hO hl
      refine ⟨(hO.fr0 fa).fr_sep fb (by omega),fun z hz=>?_,fun z hz=>?_⟩
      · have h1:=hO.2.2 z hz; have h2:=hO.lt z hz
        exact notMB (by omega) (by omega) (by omega)
      · have h2:=hO.lt z hz; omega
    obtain ⟨q5,q5a,q5b⟩:=hrow hO5b (Nat.le_refl _)
    obtain ⟨q1,q1a,q1b⟩:=hrow hO1b (by omega)
    obtain ⟨q2,q2a,q2b⟩:=hrow hO2b (by omega)
    have A:AS w0 wb b ((mx0 pl21).took (Xs 17)) br p' es' 3 lo k6 F p5 k7 p7 c7:=by
      refine ⟨⟨hMa.c.fr fb (by simpa using hne),hR,Wp hMa.a hba hp he,hMa.o⟩,hm.trans (by rfl),rfl,fnb,lowMB,(hC11.fr0 fa).fr fb (by simp; omega),notMB (by omega) (by omega) (by omega),by omega,?_,?_,by rw [hF],by rw [hF],by rw [hF],q5.row,fun z hz hh=>?_,(hC7'.fr0 fa).fr fb (by simp; omega),fun hh=>?_,?_⟩
      · rw [hF]; exact ⟨⟨q1.row,q1.cap,q2.row,q2.cap,by show 0<256; omega,by show 0<4294967296; omega⟩,Row.nil _ _,Nat.le_refl _,Row.nil _ _,Nat.le_refl _⟩
      · rw [hF]
        refine ⟨fun z hz hh=>?_,fun z hz hh=>?_,fun z hz=>by simp [Xb] at hz,fun z hz=>by simp [Xb] at hz⟩
        · rcases hh with hh | hh
          · exact q1a z hz hh
          · have:=hO1b.2.2 z hz; omega
        · rcases hh with hh | hh
          · exact q2a z hz hh
          · have:=hO2b.2.2 z hz; omega
      · rcases hh with hh | hh
        · exact q5a z hz hh
        · have:=hO5.lt z hz; omega
      · rcases hh with hh | hh
        · exact notMB (by omega) (by omega) (by omega) hh
        · omega
      · rw [hF]
        rintro z (hz | hz | hz | hz | hz)
        · exact q1b z hz
        · exact q2b z hz
        · simp [Xb] at hz
        · simp [Xb] at hz
        · exact q5b z hz
    exact Xt5 A (by rw [hF]) (Nat.le_refl _) hk
  refine ⟨fun _=>True,Drw.intro fun w12 f12 s12=>?_⟩
  constructor
  · refine Zl (hM11.fr0 f12) ⟨_,rfl,mkN (n:=16) (c:=16) (by omega) (by omega) fun pk w14 f14 hOk s14=>?_⟩
    exact inst w14 pk _ (f12.then f14) hOk
  · refine mkN (n:=16) (c:=16) (by omega) (by omega) fun pk w14 f14 hOk s14=>?_
    refine Zl (hM11.fr0 (f12.then f14)) ⟨_,rfl,?_⟩
    exact inst w14 pk _ (f12.then f14) hOk
theorem Xvn (hk:∀ w',Fr [] w w'→K (.bool true) w'):Xa Tryz.prog Xnp #[] w K:=by
  apply XiM
  unfold XhP
  refine Xgf (q:=pl21) (fun hh=>absurd (by decide) hh) fun b br lo w1 _ f1 hM e1 e2 e3 e4=>⟨_,_,rfl,?_⟩
  refine Xgf (q:=⟨0,false,0,0⟩) (fun _ w2 f2=>⟨_,_,rfl,?_⟩) fun _ _ _ _ hh=>absurd hh (by decide)
  have hM2:=hM.fr0 f2
  refine ⟨_,_,ptrNil (by kernel_rfl),Xi (Xi (Xi (Zl hM2 ⟨_,rfl,_,_,ptrNil (by kernel_rfl),Xi ⟨_,rfl,Vq hM2 fun w3 f3=>⟨_,rfl,?_⟩⟩⟩)))⟩
  refine Xi (Xt6 (hM2.fr0 f3) ((f1.then f2).then f3) e3 e1 e2 hk)
end
end Go.Sh
end

section
namespace Go.Sh
open Go Go.Fw Go.Proofs
set_option maxRecDepth 100000
set_option linter.unusedVariables false
structure MS (w0 w:World) (b:Nat) (X:MX) (br:Nat) (p:Option Addr) (es:List RE) (N:Int) (lo:Nat):Prop where
  M:MintAt w b X br p es N lo
  f0:Fr [] w0 w
  low:∀ z,MB b br p es z→w0.heap.size≤z
section
variable {w0 w wa:World} {b br lo c r lo2:Nat} {X:MX} {p q:Option Addr} {es:List RE} {rs:List RR} {N:Int} {K:VWP} {V:VI}
theorem Two.ms (h:Two w0 w b X br p es N lo c r q rs lo2):MS w0 w b X br p es N lo:=
  ⟨h.M,h.f,fun z hz=>h.low (by
    rcases hz with hz | hz | hz
    · exact .inl hz
    · exact .inr (.inr (.inl hz))
    · exact .inr (.inr (.inr (.inr hz))))⟩
theorem MS.fr0 (h:MS w0 w b X br p es N lo) {w':World} (f:Fr [] w w'):MS w0 w' b X br p es N lo:=⟨h.M.fr0 f,h.f0.then f,h.low⟩
theorem MS.lt (h:MS w0 w b X br p es N lo) {z:Nat} (hz:MB b br p es z):z<w.heap.size:=h.M.mbLt hz
theorem MS.step (h:MS w0 w b X br p es N lo) {w':World} {X':MX} {N':Int} (f:FrP (MB b br p es) w w') (hM:MintAt w' b X' br p es N' lo):MS w0 w' b X' br p es N' lo:=⟨hM,f.news h.f0 h.low,h.low⟩
theorem FrP.fresh {P:Nat→Prop} {w w1 w2:World} (h:FrP P w w1) {k:Nat} (f:Fr [k] w1 w2) (hk:w.heap.size≤k):FrP P w w2:=by
  obtain ⟨L,h1,h2⟩:=h
  exact ⟨L,h1,h2.trans f fun z hz=>.inr (by have:=List.mem_singleton.1 hz; omega)⟩
theorem VI.ok.frP {P:Nat→Prop} {w':World} (h:VI.ok w V) (g:FrP P w w') (ho:V.off P):VI.ok w' V:=by
  obtain ⟨L,h1,h2⟩:=g
  exact h.keep ho h2 h1
theorem VI.off_old {P:Nat→Prop} (h:VI.ok w0 V) (hP:∀ z,P z→w0.heap.size≤z):V.off P:=by
  have old:∀ {q:Option Addr} {xs:List UInt8},Row w0 q (xs.map vb)→0<xs.length→∀ z∈Xb q,¬ P z:=fun hR h0 z hz hh=>by
    have:=Row.blk_lt hR h0 z hz; have:=hP z hh; omega
  exact ⟨old h.f.h.r1,old h.f.h.r2,old h.f.r3,old h.f.r4,old h.r1,old h.r2⟩
theorem MS.takeV (h:MS w0 w b X br p es N lo) (hN:N<10000000) (hX:X.now<1000000∧X.c0<1000000∧X.c1<1000000∧X.c2<1000000) (fa:FrP (MB b br p es) w wa) (hMa:MintAt wa b X br p es N lo) (hV:VI.ok wa V) (ho:V.off (MB b br p es)) (hf:V.few)
    (hk:∀ o wb,FrP (MB b br p es) wa wb→MintAt wb b (X.took o.u) br p es (N+2) lo→OC.own wb o wa.heap.size→o.u=JP (es.map RE.ke) X V→K o.a wb) :
    Xa Tryz.prog X9 #[.pointer (some ⟨b,0,none⟩),.slice V.cp V.cl.length V.cc,V.f.a,.int .u64 (V.now:Int),.slice V.rp V.rd.length V.rc] wa K:=by
  have hin:∀ z,(z=b∨inR es z)→MB b br p es z:=fun z hz=>by
    rcases hz with hz | hz
    · exact .inl hz
    · exact .inr (.inr hz)
  exact Qb hMa hN hV (ho.mono hin) hf hX fun o L wb hL f hM hO hu=>hk o wb (FrP.of f fun z hz=>hin z (hL z hz)) hM hO hu
theorem MS.ordA {S:World→Prop} {J:Addr→World→Prop} (h:MS w0 w b X br p es N lo) (hN:N<10000000) (hX:X.now<1000000∧X.c0<1000000∧X.c1<1000000∧X.c2<1000000) (fa:Fr [] w wa) (hV:VI.ok wa V) (ho:V.off (MB b br p es)) (hf:V.few)
    (hS:∀ w',FrP (MB b br p es) w w'→S w')
    (hJ:∀ o k8 w9,MS w0 w9 b (X.took o.u) br p es (N+2) lo→FrP (MB b br p es) w w9→CAt w9 k8 o.v→OC.own w9 o w.heap.size→w.heap.size≤k8→(∀ z∈Xb o.p,z≠k8)→o.u=JP (es.map RE.ke) X V→J ⟨k8,0,none⟩ w9) :
    Xa Tryz.prog X9 #[.pointer (some ⟨b,0,none⟩),.slice V.cp V.cl.length V.cc,V.f.a,.int .u64 (V.now:Int),.slice V.rp V.rd.length V.rc] wa fun r51 w8=>
      ∃ (n51:Int) (b51:Bool) (n51_1:Int) (p51:Option Addr) (l51:Nat) (c51:Nat) (n51_2:Int),r51=.agg #[.int .i64 n51,.bool b51,.int .i64 n51_1,.slice p51 l51 c51,.int .i64 n51_2]∧
      ∃ (z8:Value),Pu Tryz.prog (zeroValue Xo) z8∧New z8.cells Xo w8 fun k8 w9=>(w9=w8∨S w9)∧
      ∃ (w10:World),Sto Tryz.prog Xo (.pointer (some (⟨k8,0,none⟩:Addr))) (.agg #[.int .i64 n51,.bool b51,.int .i64 n51_1,.slice p51 l51 c51,.int .i64 n51_2]) w9 w10∧J (⟨k8,0,none⟩:Addr) w10:=by
  refine h.takeV hN hX (FrP.of0 fa) (h.M.fr0 fa) hV ho hf fun o wb fb hM hO hu=>⟨_,_,_,_,_,_,_,rfl,?_⟩
  have fwb:=(FrP.of0 fa).trans fb
  refine XG (s:=5) (by kernel_rfl) fun wc g fc hBc sc=>⟨.inr (hS wc (fwb.then fc)),?_⟩
  refine Xi3 hBc o.v rfl rfl (by kernel_rfl) fun wd fd hCd sd=>?_
  have n1:=fwb.size
  have f9:FrP (MB b br p es) w wd:=(fwb.then fc).fresh fd n1
  have hMd:MintAt wd b (X.took o.u) br p es (N+2) lo:=(hM.fr0 fc).fr fd (Yo (MB.off fun hh=>by have:=h.lt hh; omega))
  have hlt:∀ z∈Xb o.p,z<wb.heap.size:=fun z hz=>OB.lt hO z hz
  refine hJ o _ wd (h.step f9 hMd) f9 hCd ?_ n1 (fun z hz=>by have:=hlt z hz; omega) hu
  exact OB.mono ((OB.fr0 hO fc).fr fd fun z hz hm=>by have:=hlt z hz; have:=List.mem_singleton.1 hm; omega) (by have:=fa.size; omega)
theorem MS.ordB {J:Addr→World→Prop} (h:MS w0 w b X br p es N lo) (hN:N<10000000) (hX:X.now<1000000∧X.c0<1000000∧X.c1<1000000∧X.c2<1000000) {k8:Nat} {g:Nat→Value} (fa:Fr [] w wa) (hB:Blk wa k8 5 g) (h8:w.heap.size≤k8) (hV:VI.ok wa V) (ho:V.off (MB b br p es)) (hf:V.few)
    (hJ:∀ o k8 w9,MS w0 w9 b (X.took o.u) br p es (N+2) lo→FrP (MB b br p es) w w9→CAt w9 k8 o.v→OC.own w9 o w.heap.size→w.heap.size≤k8→(∀ z∈Xb o.p,z≠k8)→o.u=JP (es.map RE.ke) X V→J ⟨k8,0,none⟩ w9) :
    Xa Tryz.prog X9 #[.pointer (some ⟨b,0,none⟩),.slice V.cp V.cl.length V.cc,V.f.a,.int .u64 (V.now:Int),.slice V.rp V.rd.length V.rc] wa fun r51 w8=>
      ∃ (n51:Int) (b51:Bool) (n51_1:Int) (p51:Option Addr) (l51:Nat) (c51:Nat) (n51_2:Int),r51=.agg #[.int .i64 n51,.bool b51,.int .i64 n51_1,.slice p51 l51 c51,.int .i64 n51_2]∧
      ∃ (w10:World),Sto Tryz.prog Xo (.pointer (some (⟨k8,0,none⟩:Addr))) (.agg #[.int .i64 n51,.bool b51,.int .i64 n51_1,.slice p51 l51 c51,.int .i64 n51_2]) w8 w10∧J (⟨k8,0,none⟩:Addr) w10:=by
  refine h.takeV hN hX (FrP.of0 fa) (h.M.fr0 fa) hV ho hf fun o wb fb hM hO hu=>⟨_,_,_,_,_,_,_,rfl,?_⟩
  have hnm:¬ MB b br p es k8:=fun hh=>by have:=h.lt hh; omega
  have hk8:=hB.lt
  refine Xi3 (Xt4 hB fb hnm) o.v rfl rfl (by kernel_rfl) fun wd fd hCd sd=>?_
  have fwb:=(FrP.of0 fa).trans fb
  have f9:FrP (MB b br p es) w wd:=fwb.fresh fd h8
  have hMd:MintAt wd b (X.took o.u) br p es (N+2) lo:=hM.fr fd (Yo (MB.off hnm))
  have hge:∀ z∈Xb o.p,wa.heap.size≤z:=fun z hz=>hO.2.2 z hz
  refine hJ o _ wd (h.step f9 hMd) f9 hCd ?_ h8 (fun z hz=>by have:=hge z hz; omega) hu
  exact OB.mono (OB.fr hO fd fun z hz hm=>by have:=hge z hz; have:=List.mem_singleton.1 hm; omega) (by have:=fa.size; omega)
theorem MS.openV (h:MS w0 w b X br p es N lo) (hN:N<10000000) (fa:Fr [] w wa) {p1 p2:Option Addr} {l1 c1 l2 c2 now:Nat} {client tok:List UInt8} (h1:Row wa p1 (client.map vb)) (hl1:l1=client.length) (hc1:l1≤c1) (hb1:l1≤1000000)
    (h2:Row wa p2 (tok.map vb)) (hl2:l2=tok.length) (hc2:l2≤c2) (hb2:l2≤1000000) (hq2:0<tok.length→∀ z∈Xb p2,¬ MB b br p es z)
    (hk:∀ u wb,FrP (MB b br p es) wa wb→MintAt wb b X br p es (N+1) lo→TF.own wb u wa.heap.size→u.ut (XA (es.map RE.ke) client tok now).e=XA (es.map RE.ke) client tok now→K (.tuple #[u.a,.int .i64 (XA (es.map RE.ke) client tok now).e]) wb) :
    Xa Tryz.prog Jj #[.pointer (some ⟨br,0,none⟩),.slice p1 l1 c1,.slice p2 l2 c2,.int .u64 (now:Int)] wa K:=by
  have hMa:=h.M.fr0 fa
  refine Xgc hMa.r (by omega) h1 hl1 hc1 hb1 h2 hl2 hc2 hb2 (fun h0 z hz hh=>hq2 h0 z hz (.inr (.inr hh))) fun u L wb hL f hR hU hu=>?_
  refine hk u wb (FrP.of f fun z hz=>.inr (.inr (hL z hz))) ⟨hMa.c.fr f fun hm=>?_,hR,hMa.a,hMa.o⟩ hU hu
  obtain ⟨e,he,h3,h4⟩:=hL b hm
  have:=hMa.a.2 e he; omega
theorem MS.opnA {S:World→Prop} {J:Addr→Int→World→Prop} (h:MS w0 w b X br p es N lo) (hN:N<10000000) (fa:Fr [] w wa) {p1 p2:Option Addr} {l1 c1 l2 c2 now:Nat} {client tok:List UInt8} (h1:Row wa p1 (client.map vb)) (hl1:l1=client.length) (hc1:l1≤c1) (hb1:l1≤1000000)
    (h2:Row wa p2 (tok.map vb)) (hl2:l2=tok.length) (hc2:l2≤c2) (hb2:l2≤1000000) (hq2:0<tok.length→∀ z∈Xb p2,¬ MB b br p es z) (hS:∀ w',FrP (MB b br p es) w w'→S w')
    (hJ:∀ u k8 w9,MS w0 w9 b X br p es (N+1) lo→FrP (MB b br p es) w w9→TAt w9 k8 u→TF.ok w9 u→w.heap.size≤k8→u.ut (XA (es.map RE.ke) client tok now).e=XA (es.map RE.ke) client tok now→J ⟨k8,0,none⟩ (XA (es.map RE.ke) client tok now).e w9) :
    Xa Tryz.prog Jj #[.pointer (some ⟨br,0,none⟩),.slice p1 l1 c1,.slice p2 l2 c2,.int .u64 (now:Int)] wa fun r82 w9=>
      ∃ (n82:Int) (p82:Option Addr) (l82:Nat) (c82:Nat) (p82_1:Option Addr) (l82_1:Nat) (c82_1:Nat) (n82_1:Int),r82=.tuple #[.agg #[.int .u64 n82,.slice p82 l82 c82,.slice p82_1 l82_1 c82_1],.int .i64 n82_1]∧
      ∃ (z15:Value),Pu Tryz.prog (zeroValue Xn) z15∧New z15.cells Xn w9 fun k15 w10=>(w10=w9∨S w10)∧
      ∃ (w11:World),Sto Tryz.prog Xn (.pointer (some (⟨k15,0,none⟩:Addr))) (.agg #[.int .u64 n82,.slice p82 l82 c82,.slice p82_1 l82_1 c82_1]) w10 w11∧J (⟨k15,0,none⟩:Addr) n82_1 w11:=by
  refine h.openV hN fa h1 hl1 hc1 hb1 h2 hl2 hc2 hb2 hq2 fun u wb fb hM hU hu=>⟨_,_,_,_,_,_,_,_,rfl,?_⟩
  have fwb:=(FrP.of0 fa).trans fb
  refine XG (s:=3) (by kernel_rfl) fun wc g fc hBc sc=>⟨.inr (hS wc (fwb.then fc)),?_⟩
  refine UJ (by kernel_rfl) hBc u fun wd fd hTd sd=>?_
  have n1:=fwb.size
  have f9:FrP (MB b br p es) w wd:=(fwb.then fc).fresh fd n1
  have hMd:MintAt wd b X br p es (N+1) lo:=(hM.fr0 fc).fr fd (Yo (MB.off fun hh=>by have:=h.lt hh; omega))
  have hUd:TF.ok wd u:=by
    have l1:∀ z∈Xb u.p1,z∉[wb.heap.size]:=fun z hz hm=>by have:=hU.o1.lt z hz; have:=List.mem_singleton.1 hm; omega
    have l2:∀ z∈Xb u.p2,z∉[wb.heap.size]:=fun z hz hm=>by have:=hU.o2.lt z hz; have:=List.mem_singleton.1 hm; omega
    have h1:=(hU.o1.fr0 fc).fr fd l1
    have h2:=(hU.o2.fr0 fc).fr fd l2
    exact ⟨h1.row,h1.cap,h2.row,h2.cap,hU.e⟩
  exact hJ u _ wd (h.step f9 hMd) f9 hTd hUd n1 hu
theorem MS.opnB {J:Addr→Int→World→Prop} (h:MS w0 w b X br p es N lo) (hN:N<10000000) {k8:Nat} {g:Nat→Value} (fa:Fr [] w wa) (hB:Blk wa k8 3 g) (h8:w.heap.size≤k8) {p1 p2:Option Addr} {l1 c1 l2 c2 now:Nat} {client tok:List UInt8} (h1:Row wa p1 (client.map vb)) (hl1:l1=client.length) (hc1:l1≤c1) (hb1:l1≤1000000)
    (h2:Row wa p2 (tok.map vb)) (hl2:l2=tok.length) (hc2:l2≤c2) (hb2:l2≤1000000) (hq2:0<tok.length→∀ z∈Xb p2,¬ MB b br p es z)
    (hJ:∀ u k8 w9,MS w0 w9 b X br p es (N+1) lo→FrP (MB b br p es) w w9→TAt w9 k8 u→TF.ok w9 u→w.heap.size≤k8→u.ut (XA (es.map RE.ke) client tok now).e=XA (es.map RE.ke) client tok now→J ⟨k8,0,none⟩ (XA (es.map RE.ke) client tok now).e w9) :
    Xa Tryz.prog Jj #[.pointer (some ⟨br,0,none⟩),.slice p1 l1 c1,.slice p2 l2 c2,.int .u64 (now:Int)] wa fun r82 w9=>
      ∃ (n82:Int) (p82:Option Addr) (l82:Nat) (c82:Nat) (p82_1:Option Addr) (l82_1:Nat) (c82_1:Nat) (n82_1:Int),r82=.tuple #[.agg #[.int .u64 n82,.slice p82 l82 c82,.slice p82_1 l82_1 c82_1],.int .i64 n82_1]∧
      ∃ (w11:World),Sto Tryz.prog Xn (.pointer (some (⟨k8,0,none⟩:Addr))) (.agg #[.int .u64 n82,.slice p82 l82 c82,.slice p82_1 l82_1 c82_1]) w9 w11∧J (⟨k8,0,none⟩:Addr) n82_1 w11:=by
  refine h.openV hN fa h1 hl1 hc1 hb1 h2 hl2 hc2 hb2 hq2 fun u wb fb hM hU hu=>⟨_,_,_,_,_,_,_,_,rfl,?_⟩
  have hnm:¬ MB b br p es k8:=fun hh=>by have:=h.lt hh; omega
  have hk8:=hB.lt
  refine UJ (by kernel_rfl) (Xt4 hB fb hnm) u fun wd fd hTd sd=>?_
  have f9:FrP (MB b br p es) w wd:=((FrP.of0 fa).trans fb).fresh fd h8
  have hMd:MintAt wd b X br p es (N+1) lo:=hM.fr fd (Yo (MB.off hnm))
  have hUd:TF.ok wd u:=by
    have l1:∀ z∈Xb u.p1,z∉[k8]:=fun z hz hm=>by have:=hU.o1.2.2 z hz; have:=List.mem_singleton.1 hm; omega
    have l2:∀ z∈Xb u.p2,z∉[k8]:=fun z hz hm=>by have:=hU.o2.2.2 z hz; have:=List.mem_singleton.1 hm; omega
    have h1:=hU.o1.fr fd l1
    have h2:=hU.o2.fr fd l2
    exact ⟨h1.row,h1.cap,h2.row,h2.cap,hU.e⟩
  exact hJ u _ wd (h.step f9 hMd) f9 hTd hUd h8 hu
end
end Go.Sh
end

section
namespace Go.Sh
open Go Go.Fw Go.Proofs
set_option maxRecDepth 100000
set_option linter.unusedVariables false
def TkA (b:Nat) (f:RT) (now:Nat) (qa:Option Addr) (la da:Nat) (qb:Option Addr) (lb db:Nat) (S:World→Prop) (J:Addr→World→Prop) (wa:World):Prop:=
  Xa Tryz.prog X9 #[.pointer (some ⟨b,0,none⟩),.slice qa la da,f.a,.int .u64 (now:Int),.slice qb lb db] wa fun r51 w8=>
    ∃ (n51:Int) (b51:Bool) (n51_1:Int) (p51:Option Addr) (l51:Nat) (c51:Nat) (n51_2:Int),r51=.agg #[.int .i64 n51,.bool b51,.int .i64 n51_1,.slice p51 l51 c51,.int .i64 n51_2]∧
    ∃ (z8:Value),Pu Tryz.prog (zeroValue Xo) z8∧New z8.cells Xo w8 fun k8 w9=>(w9=w8∨S w9)∧
    ∃ (w10:World),Sto Tryz.prog Xo (.pointer (some (⟨k8,0,none⟩:Addr))) (.agg #[.int .i64 n51,.bool b51,.int .i64 n51_1,.slice p51 l51 c51,.int .i64 n51_2]) w9 w10∧J (⟨k8,0,none⟩:Addr) w10
def TkB (b:Nat) (f:RT) (now:Nat) (qa:Option Addr) (la da:Nat) (qb:Option Addr) (lb db:Nat) (J:Addr→World→Prop) (k8:Nat) (wa:World):Prop:=
  Xa Tryz.prog X9 #[.pointer (some ⟨b,0,none⟩),.slice qa la da,f.a,.int .u64 (now:Int),.slice qb lb db] wa fun r51 w8=>
    ∃ (n51:Int) (b51:Bool) (n51_1:Int) (p51:Option Addr) (l51:Nat) (c51:Nat) (n51_2:Int),r51=.agg #[.int .i64 n51,.bool b51,.int .i64 n51_1,.slice p51 l51 c51,.int .i64 n51_2]∧
    ∃ (w10:World),Sto Tryz.prog Xo (.pointer (some (⟨k8,0,none⟩:Addr))) (.agg #[.int .i64 n51,.bool b51,.int .i64 n51_1,.slice p51 l51 c51,.int .i64 n51_2]) w8 w10∧J (⟨k8,0,none⟩:Addr) w10
def CpB (p:Option Addr) (l c:Nat) (S:World→Prop) (w:World) (K:Option Addr→Nat→Nat→World→Prop):Prop:=
  Xa Tryz.prog Uq #[.slice p l c] w fun r43 w6=>∃ (p43:Option Addr) (l43:Nat) (c43:Nat),r43=.slice p43 l43 c43∧(w6=w∨S w6)∧K p43 l43 c43 w6
def NwO (S:World→Prop) (w:World) (K:Nat→World→Prop):Prop:=∃ (z8:Value),Pu Tryz.prog (zeroValue Xo) z8∧New z8.cells Xo w fun k8 w11=>(w11=w∨S w11)∧K k8 w11
def NwF (S:World→Prop) (w:World) (K:Nat→World→Prop):Prop:=∃ (z8:Value),Pu Tryz.prog (zeroValue Xn) z8∧New z8.cells Xn w fun k8 w11=>(w11=w∨S w11)∧K k8 w11
def RgS (b:Nat) (S:World→Prop) (w:World) (K:Option Addr→World→Prop):Prop:=Xa Tryz.prog Qm #[.pointer (some ⟨b,0,none⟩)] w fun r75 w8=>∃ (p75:Option Addr),r75=.pointer p75∧(w8=w∨S w8)∧K p75 w8
def OpA (br:Option Addr) (p1:Option Addr) (l1 c1:Nat) (p2:Option Addr) (l2 c2:Nat) (now:Nat) (S:World→Prop) (J:Addr→Int→World→Prop) (wa:World):Prop:=
  Xa Tryz.prog Jj #[.pointer br,.slice p1 l1 c1,.slice p2 l2 c2,.int .u64 (now:Int)] wa fun r82 w9=>
    ∃ (n82:Int) (p82:Option Addr) (l82:Nat) (c82:Nat) (p82_1:Option Addr) (l82_1:Nat) (c82_1:Nat) (n82_1:Int),r82=.tuple #[.agg #[.int .u64 n82,.slice p82 l82 c82,.slice p82_1 l82_1 c82_1],.int .i64 n82_1]∧
    ∃ (z15:Value),Pu Tryz.prog (zeroValue Xn) z15∧New z15.cells Xn w9 fun k15 w10=>(w10=w9∨S w10)∧
    ∃ (w11:World),Sto Tryz.prog Xn (.pointer (some (⟨k15,0,none⟩:Addr))) (.agg #[.int .u64 n82,.slice p82 l82 c82,.slice p82_1 l82_1 c82_1]) w10 w11∧J (⟨k15,0,none⟩:Addr) n82_1 w11
def OpB (br:Option Addr) (p1:Option Addr) (l1 c1:Nat) (p2:Option Addr) (l2 c2:Nat) (now:Nat) (J:Addr→Int→World→Prop) (k8:Nat) (wa:World):Prop:=
  Xa Tryz.prog Jj #[.pointer br,.slice p1 l1 c1,.slice p2 l2 c2,.int .u64 (now:Int)] wa fun r82 w9=>
    ∃ (n82:Int) (p82:Option Addr) (l82:Nat) (c82:Nat) (p82_1:Option Addr) (l82_1:Nat) (c82_1:Nat) (n82_1:Int),r82=.tuple #[.agg #[.int .u64 n82,.slice p82 l82 c82,.slice p82_1 l82_1 c82_1],.int .i64 n82_1]∧
    ∃ (w11:World),Sto Tryz.prog Xn (.pointer (some (⟨k8,0,none⟩:Addr))) (.agg #[.int .u64 n82,.slice p82 l82 c82,.slice p82_1 l82_1 c82_1]) w9 w11∧J (⟨k8,0,none⟩:Addr) n82_1 w11
section
variable {w0 w:World} {b br lo:Nat} {X:MX} {p:Option Addr} {es:List RE} {N:Int} {K:VWP}
theorem MS.copies {x:MC} {S:World→Prop} {J:Addr→World→Prop} (h:MS w0 w b X br p es N lo) (hN:N<10000000) (hX:X.now<1000000∧X.c0<1000000∧X.c1<1000000∧X.c2<1000000) (hx:MC.ok w0 x) (hf:x.few) (hS:∀ w',FrP (MB b br p es) w w'→S w')
    (hJ:∀ o k8 w9,MS w0 w9 b (X.took o.u) br p es (N+2) lo→FrP (MB b br p es) w w9→CAt w9 k8 o.v→OC.own w9 o w.heap.size→w.heap.size≤k8→(∀ z∈Xb o.p,z≠k8)→o.u=JP (es.map RE.ke) X x.vi→J ⟨k8,0,none⟩ w9) :
    (CpB x.cp x.cl.length x.cc S w fun p43 l43 c43 w6=>
      (CpB x.rp x.rd.length x.rc S w6 fun p50 l50 c50 w7=>(TkA b x.f x.now p43 l43 c43 p50 l50 c50 S J w7)∧(NwO S w7 fun k8 w11=>TkB b x.f x.now p43 l43 c43 p50 l50 c50 J k8 w11))∧
      (NwO S w6 fun k8 w14=>CpB x.rp x.rd.length x.rc S w14 fun p50 l50 c50 w15=>TkB b x.f x.now p43 l43 c43 p50 l50 c50 J k8 w15))∧
    (NwO S w fun k8 w18=>CpB x.cp x.cl.length x.cc S w18 fun p43 l43 c43 w19=>CpB x.rp x.rd.length x.rc S w19 fun p50 l50 c50 w20=>TkB b x.f x.now p43 l43 c43 p50 l50 c50 J k8 w20):=by
  have hx0:=hx.1
  have l1:=hf.l1; have l2:=hf.l2
  have hS0:∀ w',Fr [] w w'→S w':=fun w' f=>hS w' (FrP.of0 f)
  have cpa:∀ {wa:World} {K:Option Addr→Nat→Nat→World→Prop},Fr [] w wa→(∀ q d w',Fr [] wa w'→OB w' q x.cl.length d x.cl w.heap.size→K q x.cl.length d w')→CpB x.cp x.cl.length x.cc S wa K:=by
    intro wa K fa hK
    refine Z9 ((hx0.fr0 (h.f0.then fa)).r1) rfl (by show x.cl.length≤_; omega) fun q d w' f hO=>⟨_,_,_,rfl,.inr (hS0 w' (fa.then f)),hK q d w' f (hO.mono fa.size)⟩
  have cpb:∀ {wa:World} {K:Option Addr→Nat→Nat→World→Prop},Fr [] w wa→(∀ q d w',Fr [] wa w'→OB w' q x.rd.length d x.rd w.heap.size→K q x.rd.length d w')→CpB x.rp x.rd.length x.rc S wa K:=by
    intro wa K fa hK
    refine Z9 ((hx0.fr0 (h.f0.then fa)).r2) rfl (by show x.rd.length≤_; omega) fun q d w' f hO=>⟨_,_,_,rfl,.inr (hS0 w' (fa.then f)),hK q d w' f (hO.mono fa.size)⟩
  have nw:∀ {wa:World} {K:Nat→World→Prop},Fr [] w wa→(∀ k g w',Fr [] wa w'→Blk w' k 5 g→w.heap.size≤k→K k w')→NwO S wa K:=by
    intro wa K fa hK
    exact XG (s:=5) (by kernel_rfl) fun w' g f hB s=>⟨.inr (hS0 w' (fa.then f)),hK _ g w' f hB fa.size⟩
  have old:=VI.off_old hx0 h.low
  have hV:∀ {wa:World} {qa qb:Option Addr} {da db:Nat},Fr [] w wa→OB wa qa x.cl.length da x.cl w.heap.size→OB wa qb x.rd.length db x.rd w.heap.size→VI.ok wa ⟨x.f,qa,da,x.cl,qb,db,x.rd,x.now⟩∧(⟨x.f,qa,da,x.cl,qb,db,x.rd,x.now⟩:VI).off (MB b br p es)∧(⟨x.f,qa,da,x.cl,qb,db,x.rd,x.now⟩:VI).few:=by
    intro wa qa qb da db fa hA hB
    have hxa:=hx0.fr0 (h.f0.then fa)
    refine ⟨⟨hxa.f,hA.row,hA.cap,hB.row,hB.cap,hxa.n⟩,⟨old.o1,old.o2,old.o3,old.o4,fun _ z hz hh=>?_,fun _ z hz hh=>?_⟩,hf.vi.l1,hf.vi.l2,hf.vi.l3,hf.vi.l4,hf.vi.l5,hf.vi.l6⟩
    · have:=hA.2.2 z hz; have:=h.lt hh; omega
    · have:=hB.2.2 z hz; have:=h.lt hh; omega
  have eq:∀ {qa qb:Option Addr} {da db:Nat},JP (es.map RE.ke) X ⟨x.f,qa,da,x.cl,qb,db,x.rd,x.now⟩=JP (es.map RE.ke) X x.vi:=Xdv rfl rfl rfl rfl rfl rfl
  have tA:∀ {wa:World} {qa qb:Option Addr} {da db:Nat},Fr [] w wa→OB wa qa x.cl.length da x.cl w.heap.size→OB wa qb x.rd.length db x.rd w.heap.size→TkA b x.f x.now qa x.cl.length da qb x.rd.length db S J wa:=by
    intro wa qa qb da db fa hA hB
    obtain ⟨v1,v2,v3⟩:=hV fa hA hB
    exact h.ordA hN hX fa v1 v2 v3 hS fun o k8 w9 a1 a2 a3 a4 a5 a6 a7=>hJ o k8 w9 a1 a2 a3 a4 a5 a6 (by rw [a7]; exact eq)
  have tB:∀ {wa:World} {qa qb:Option Addr} {da db k8:Nat} {g:Nat→Value},Fr [] w wa→Blk wa k8 5 g→w.heap.size≤k8→OB wa qa x.cl.length da x.cl w.heap.size→OB wa qb x.rd.length db x.rd w.heap.size→TkB b x.f x.now qa x.cl.length da qb x.rd.length db J k8 wa:=by
    intro wa qa qb da db k8 g fa hBk h8 hA hB
    obtain ⟨v1,v2,v3⟩:=hV fa hA hB
    exact h.ordB hN hX fa hBk h8 v1 v2 v3 fun o k8 w9 a1 a2 a3 a4 a5 a6 a7=>hJ o k8 w9 a1 a2 a3 a4 a5 a6 (by rw [a7]; exact eq)
  refine ⟨cpa (Fr.refl _ _) fun qa da w6 f6 hA => ⟨cpb f6 fun qb db w7 f7 hB => ⟨tA (f6.then f7) (hA.fr0 f7) hB, nw (f6.then f7) fun k8 g w11 f11 hBk h8 => tB ((f6.then f7).then f11) hBk h8 ((hA.fr0 f7).fr0 f11) (hB.fr0 f11)⟩,
      nw f6 fun k8 g w14 f14 hBk h8=>cpb (f6.then f14) fun qb db w15 f15 hB=>tB ((f6.then f14).then f15) (hBk.fr0 f15) h8 ((hA.fr0 f14).fr0 f15) hB⟩,
    nw (Fr.refl _ _) fun k8 g w18 f18 hBk h8=>cpa f18 fun qa da w19 f19 hA=>cpb (f18.then f19) fun qb db w20 f20 hB=>tB ((f18.then f19).then f20) ((hBk.fr0 f19).fr0 f20) h8 (hA.fr0 f20) hB⟩
theorem MS.opens {S:World→Prop} {J:Addr→Int→World→Prop} (h:MS w0 w b X br p es N lo) (hN:N<10000000) {p1 p2:Option Addr} {l1 c1 l2 c2 now:Nat} {client tok:List UInt8} (h1:Row w p1 (client.map vb)) (hl1:l1=client.length) (hc1:l1≤c1) (hb1:l1≤1000000)
    (h2:Row w p2 (tok.map vb)) (hl2:l2=tok.length) (hc2:l2≤c2) (hb2:l2≤1000000) (hq2:0<tok.length→∀ z∈Xb p2,¬ MB b br p es z) (hS:∀ w',FrP (MB b br p es) w w'→S w')
    (hJ:∀ u k8 w9,MS w0 w9 b X br p es (N+1) lo→FrP (MB b br p es) w w9→TAt w9 k8 u→TF.ok w9 u→w.heap.size≤k8→u.ut (XA (es.map RE.ke) client tok now).e=XA (es.map RE.ke) client tok now→J ⟨k8,0,none⟩ (XA (es.map RE.ke) client tok now).e w9) :
    (RgS b S w fun p75 w8=>(OpA p75 p1 l1 c1 p2 l2 c2 now S J w8)∧(NwF S w8 fun k15 w12=>OpB p75 p1 l1 c1 p2 l2 c2 now J k15 w12))∧
    (NwF S w fun k15 w15=>RgS b S w15 fun p75 w16=>OpB p75 p1 l1 c1 p2 l2 c2 now J k15 w16):=by
  have hS0:∀ w',Fr [] w w'→S w':=fun w' f=>hS w' (FrP.of0 f)
  constructor
  · refine Zl h.M ⟨_,rfl,.inl rfl,h.opnA hN (Fr.refl _ _) h1 hl1 hc1 hb1 h2 hl2 hc2 hb2 hq2 hS hJ,?_⟩
    exact XG (s:=3) (by kernel_rfl) fun w' g f hB s=>⟨.inr (hS0 w' f),h.opnB hN f hB (Nat.le_refl _) (h1.fr0 f) hl1 hc1 hb1 (h2.fr0 f) hl2 hc2 hb2 hq2 hJ⟩
  · refine XG (s:=3) (by kernel_rfl) fun w' g f hB s=>⟨.inr (hS0 w' f),?_⟩
    exact Zl (h.M.fr0 f) ⟨_,rfl,.inl rfl,h.opnB hN f hB (Nat.le_refl _) (h1.fr0 f) hl1 hc1 hb1 (h2.fr0 f) hl2 hc2 hb2 hq2 hJ⟩
end
end Go.Sh
end

section
namespace Go.Sh
open Go Go.Fw Go.Proofs
set_option maxRecDepth 100000
set_option linter.unusedVariables false
theorem Xvo {ks:List KE} {li:Nat} {x:VI} (h:(XX ks li x).kd=1) :
    ks.length≠0∧20≤x.rd.length∧VV ks li x=0∧rtE x.f.h.fr (XC x.rd) x.f.h.to (Yw ks li x)=0∧XX ks li x=X0 (rtL x.f.h.fr (XC x.rd) x.f.h.to (Yw ks li x)):=by
  have e:=h
  unfold XX at e
  split at e
  · exact absurd e (by show ¬ (2:Int)=1; omega)
  · rename_i h1
    split at e
    · exact absurd e (by show ¬ (2:Int)=1; omega)
    · rename_i h2
      split at e
      · exact absurd e (by show ¬ (2:Int)=1; omega)
      · rename_i h3
        split at e
        · exact absurd e (by show ¬ (2:Int)=1; omega)
        · rename_i h4
          refine ⟨h1,by omega,by omega,by omega,?_⟩
          unfold XX
          rw [if_neg h1,if_neg h2,if_neg h3,if_neg h4]
theorem Xvp {ks:List KE} {pl:MP} {act:Bool} {x:VI} (h:(XI ks pl act x).kd=1) :
    XI ks pl act x=XX ks pl.li x∧act=true∧(Yj x.f.tok=true∨YS ks x≠0):=by
  have e:=h
  unfold XI at e
  split at e
  · rename_i h1
    split at e
    · rename_i h2
      refine ⟨?_,h2,.inl h1⟩
      unfold XI
      rw [if_pos h1,if_pos h2]
    · exact absurd e (by show ¬ (0:Int)=1; omega)
  · rename_i h1
    split at e
    · exact absurd e (by show ¬ (0:Int)=1; omega)
    · rename_i h2
      split at e
      · exact absurd e (by show ¬ (0:Int)=1; omega)
      · rename_i h3
        split at e
        · exact absurd e (by show ¬ (2:Int)=1; omega)
        · rename_i h4
          refine ⟨?_,?_,.inr h3⟩
          · unfold XI
            rw [if_neg h1,if_neg h2,if_neg h3,if_neg h4]
          · cases act with
            | true=>rfl
            | false=>exact absurd (.inl rfl) h4
theorem RingAt.newK_le {w:World} {b lo:Nat} {p:Option Addr} {es:List RE} {N:Int} (h:RingAt w b p es N lo):0≤Yc (es.map RE.ke)∧Yc (es.map RE.ke)≤127:=by
  unfold Yc
  cases hl:(es.map RE.ke).getLast? with
  | none=>exact ⟨by show (0:Int)≤0; omega,by show (0:Int)≤127; omega⟩
  | some k=>
    have hm:=List.mem_of_getLast? hl
    obtain ⟨e,he,hk⟩:=List.mem_map.1 hm
    have:=(h.ent e he).2.2
    have hk:e.sq=k.sq:=by rw [← hk]; rfl
    exact ⟨by show (0:Int)≤(k.sq:Int); omega,by show (k.sq:Int)≤127; omega⟩
structure MadeT (ks:List KE) (li:Nat) (x:VI) (B T S:List UInt8):Prop where
  u:XX ks li x=X0 B
  t:T=Yw ks li x
  bl:B.length≤5000
  p:stP B=⟨0,255,1,x.f.h.fr,XC x.rd,T,S⟩
  c:ckE B x.f.h.to=0
  q:XyB T=(Yc ks,true)
  nb:Yj T=false
  k0:tk0 T=(Yc ks).toNat
  l1:29≤T.length
  l2:T.length≤4096
  sl:(XC x.rd).length=9
  has:ks.length≠0
  cl:x.cl.length≤64
  o:∀ now',XA ks x.cl T now'=if XP x.now li<now' then .bad 20 else (VU li x).ut 0
  e:VV ks li x=0
theorem Xwm {ks:List KE} {li:Nat} {x:VI} (hs:0≤Yc ks∧Yc ks≤127) (hn:x.now<18446744073709551616) (h:(XX ks li x).kd=1):∃ B T S,MadeT ks li x B T S:=by
  obtain ⟨h1,h2,h3,h4,h5⟩:=Xvo h
  obtain ⟨r1,r2,r3,r4,r5,r6⟩:=Xmr h4
  have hunt:XP x.now li<18446744073709551616:=by unfold XP; split <;> omega
  have hsc:(XC x.rd).length=9:=by
    have hl:(x.rd.take 8).length=8:=by rw [List.length_take]; omega
    unfold XC ZI
    rw [if_pos (show UW 3 (x.rd.take 8).length from by rw [hl]; exact ⟨by omega,by omega,by omega⟩),List.length_cons,hl]
  obtain ⟨⟨g1,g2,g3,g4⟩,g5⟩:=QP h3
  have hT:Yw ks li x=UInt8.ofNat (Yc ks).toNat::(UA x.rd++slL (Uz ks (Yc ks)) (UA x.rd) (XN (VU li x)) (UInt8.ofNat (Yc ks).toNat::x.cl)):=by
    unfold Yw X6
    rw [if_pos (show XS ks (Yc ks) (UA x.rd) x.cl (VU li x)=0 from h3)]
  have hT0:tk0 (Yw ks li x)=(Yc ks).toNat:=by
    rw [hT]
    show (UInt8.ofNat (Yc ks).toNat).toNat=_
    simp; omega
  have hl29:29≤(Yw ks li x).length:=by unfold Yw; rw [g5]; omega
  have hstl:(stL x.f.h.to (rtH x.f.h.fr (XC x.rd) (Yw ks li x))).length=16:=Qe r4 (by rw [VT]; omega)
  have hB:rtL x.f.h.fr (XC x.rd) x.f.h.to (Yw ks li x)=rtH x.f.h.fr (XC x.rd) (Yw ks li x)++stL x.f.h.to (rtH x.f.h.fr (XC x.rd) (Yw ks li x)):=by unfold rtL; rw [if_pos h4]
  refine ⟨rtL x.f.h.fr (XC x.rd) x.f.h.to (Yw ks li x),Yw ks li x,stL x.f.h.to (rtH x.f.h.fr (XC x.rd) (Yw ks li x)),h5,rfl,r1,?_,?_,?_,?_,hT0,hl29,r6,hsc,h1,g3,?_,h3⟩
  · rw [hB]; exact Xi5 r2 r3 r5 hstl
  · rw [hB,XsP r2 r3 r5 r6 r4 hstl,if_pos rfl]
  · have e0:(fl (Yw ks li x) 0).toNat=(Yc ks).toNat:=hT0
    unfold XyB
    rw [if_neg (by rw [e0]; omega),e0]
    have:(((Yc ks).toNat:Nat):Int)=Yc ks:=by omega
    rw [this]
  · unfold Yj
    rw [hT0]
    exact decide_eq_false (by omega)
  · intro now'
    unfold Yw
    exact Xgh h3 ⟨hs.1,by omega⟩ hunt
end Go.Sh
end

section
namespace Go.Sh
open Go Go.Fw Go.Proofs
set_option maxRecDepth 100000
set_option linter.unusedVariables false
section
variable {w0 w:World} {b br lo:Nat} {X:MX} {p:Option Addr} {es:List RE} {N:Int} {K:VWP} {x:MC}
theorem Xwn {g:MP} {p1:Option Addr} {l1 c1 k3:Nat} {cs:List MC} {M:Option Addr→World→Prop} (hC:CAt w k3 g.v) (h1:Row w p1 (cs.flatMap MC.v)) (hok:∀ x∈cs,MC.ok w x) (hl1:l1=cs.length) (hfew:Xwe cs)
    (hK:∀ w',Fr [] w w'→K (.bool true) w')
    (hM:∀ b X br p es lo c r q rs lo2 w',g.ok→Two w w' b X br p es (2*(l1:Int)+1) lo c r q rs lo2→X.now≤l1→X.c0+X.c1+X.c2≤l1→M (some ⟨b,0,none⟩) w') :
    ∃ (n31:Int) (b31:Bool) (n31_1:Int) (n31_2:Int),Ld Tryz.prog YA (.pointer (some ⟨k3,0,none⟩)) w (.agg #[.int .i64 n31,.bool b31,.int .i64 n31_1,.int .u64 n31_2])∧
    Xa Tryz.prog XeO #[.agg #[.int .i64 n31,.bool b31,.int .i64 n31_1,.int .u64 n31_2],.slice p1 l1 c1] w fun r33 w1=>
    ∃ (p33:Option Addr),r33=.pointer p33∧
    ∃ (b35:Bool) (w2:World),Ef Tryz.prog (do eqGuard .eql Xdz (.tmp 34) (.const (.pointer none)) (.pointer p33) (.pointer none); binOp .eql Xdz (.pointer p33) (.pointer none):Sem Value) w1 (.bool b35) w2∧
    cond b35
    (∃ (n36:Int) (b36:Bool) (n36_1:Int) (n36_2:Int),Ld Tryz.prog YA (.pointer (some ⟨k3,0,none⟩)) w2 (.agg #[.int .i64 n36,.bool b36,.int .i64 n36_1,.int .u64 n36_2])∧
      Xa Tryz.prog Xje #[.agg #[.int .i64 n36,.bool b36,.int .i64 n36_1,.int .u64 n36_2]] w2 fun r37 w3=>
      ∃ (n37:Int) (b37:Bool) (n37_1:Int) (n37_2:Int),r37=.agg #[.int .i64 n37,.bool b37,.int .i64 n37_1,.int .u64 n37_2]∧
      Xa Tryz.prog Xdx #[.agg #[.int .i64 n37,.bool b37,.int .i64 n37_1,.int .u64 n37_2]] w3 fun r38 w4=>
      ∃ (b38:Bool),r38=.bool b38∧K (.bool (!b38)) w4)
    (M p33 w2):=by
  refine ⟨_,_,_,_,hC.ld (by kernel_rfl) (by kernel_rfl),Xwi (g:=g) h1 hok hl1 hfew (fun hg w1 f1=>⟨_,rfl,_,_,ptrNil (by kernel_rfl),Xl ?_⟩) fun b X br p es lo c r q rs lo2 w' hg T hn hc=>⟨_,rfl,_,_,ptrNil (by kernel_rfl),Xi (hM b X br p es lo c r q rs lo2 w' hg T hn hc)⟩⟩
  refine ⟨_,_,_,_,(hC.fr0 f1).ld (by kernel_rfl) (by kernel_rfl),Xk9 (q:=g) fun w3 f3=>⟨_,_,_,_,rfl,QQ (g:=g) fun w4 f4=>⟨_,rfl,?_⟩⟩⟩
  rw [decide_eq_false hg]
  exact hK w4 (f1.then (f3.then f4))
end
end Go.Sh
end
