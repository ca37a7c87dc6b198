/- A part of a proof of a given law of this program: lemmas, printed forms of its functions, contracts. It has no conditions of its own. -/
import Derived.Test.YtlnohlefimgdnaaGreatDoorMC5
import Derived.Test.YtlnohlefimgdnaaGreatDoorMS4

set_option maxHeartbeats 16000000
section
namespace Go.Sh
open Go Go.Fw Go.Proofs
set_option maxRecDepth 100000
set_option linter.unusedVariables false
section
variable {w:World} {K:VWP}
structure Both (w0 w:World) (b:Nat) (p:Option Addr) (es:List RE) (lo r:Nat) (q:Option Addr) (rs:List RR) (lo2:Nat) (N:Int):Prop where
  R:RingAt w b p es N lo
  S:RefAt w r q rs lo2
  A:Apart b p es r q rs
  f:Fr [] w0 w
  b0:w0.heap.size≤b
  l0:w0.heap.size≤lo
  r0:w0.heap.size≤r
  m0:w0.heap.size≤lo2
theorem Both.step {w0 w w':World} {b lo r lo2:Nat} {p q:Option Addr} {es:List RE} {rs:List RR} {N:Int} (h:Both w0 w b p es lo r q rs lo2 N) (f:Fr ((b::Xb p)++(r::Xb q)) w w'):Fr [] w0 w':=
  h.f.trans f fun k hk=>by
    rcases List.mem_append.1 hk with hk | hk
    · rcases List.mem_cons.1 hk with rfl | hk
      · exact .inr h.b0
      · have:=(h.R.arr k hk).1; have:=h.l0; right; omega
    · rcases List.mem_cons.1 hk with rfl | hk
      · exact .inr h.r0
      · have:=(h.S.arr k hk).1; have:=h.m0; right; omega
theorem Both.fr0 {w0 w w':World} {b lo r lo2:Nat} {p q:Option Addr} {es:List RE} {rs:List RR} {N:Int} (h:Both w0 w b p es lo r q rs lo2 N) (f:Fr [] w w'):Both w0 w' b p es lo r q rs lo2 N:=
  ⟨h.R.fr0 f,h.S.fr0 f,h.A,h.f.then f,h.b0,h.l0,h.r0,h.m0⟩
theorem Both.box {w0 w w':World} {b lo r lo2:Nat} {p q:Option Addr} {es:List RE} {rs:List RR} {N N':Int} {L:List Nat} (h:Both w0 w b p es lo r q rs lo2 N) (hL:∀ z∈L,inR es z) (f:Fr L w w') (hR:RingAt w' b p es N' lo) (hoff:UI es rs):Both w0 w' b p es lo r q rs lo2 N':=
  ⟨hR,h.S.fr f fun k hk=>Xvy h.A hoff (hL k hk),h.A,h.f.trans f fun k hk=>by obtain ⟨e,he,h1,h2⟩:=hL k hk; have:=(h.R.ent e he).2.1; have:=h.l0; right; omega,h.b0,h.l0,h.r0,h.m0⟩
theorem Xtg {p0:Option Addr} {l0 c0:Nat} {cs:List RC} (h0:Row w p0 (cs.flatMap RC.v)) (hok:∀ x∈cs,RC.ok w x) (hl0:l0=cs.length) (hfew:Xwv cs)
    (hk:∀ b p es lo r q rs lo2 w',Both w w' b p es lo r q rs lo2 1→es.map RE.ke=rs.map RR.ke→UI es rs→K (.tuple #[.pointer (some ⟨b,0,none⟩),.pointer (some ⟨r,0,none⟩)]) w') :
    Xa Tryz.prog Xlv #[.slice p0 l0 c0] w K:=by
  apply Xha
  unfold Xgj
  refine XsZ fun w2 f2 hR2 s2=>⟨_,rfl,Xue fun w3 f3 hS3 s3=>⟨_,_,ptrNil (by kernel_rfl),Xz ?_⟩⟩
  obtain ⟨b,hb⟩:∃ b,b=w.heap.size:=⟨_,rfl⟩
  obtain ⟨lo,hlo⟩:∃ lo,lo=w2.heap.size:=⟨_,rfl⟩
  rw [← hlo] at hR2
  rw [← hb] at hR2 ⊢
  obtain ⟨r,hr⟩:∃ r,r=w2.heap.size:=⟨_,rfl⟩
  obtain ⟨lo2,hlo2⟩:∃ lo2,lo2=w3.heap.size:=⟨_,rfl⟩
  rw [← hlo2] at hS3
  rw [← hr] at hS3 ⊢
  have f03:=f2.then f3
  have n2:=f2.size; have n3:=f03.size
  have hA3:Apart b none [] r none []:=Apart.new (lo2:=0) hR2 (by omega)
  refine LoopS.ind (fun k us w'=>∃ (i:Nat) (p q:Option Addr) (es:List RE) (rs:List RR),i+k=l0∧us=[.slice p0 l0 c0,.pointer none,.pointer none,.pointer (some ⟨b,0,none⟩),.pointer (some ⟨r,0,none⟩),.int .i64 (i:Int)]∧Both w w' b p es lo r q rs lo2 1∧es.map RE.ke=rs.map RR.ke∧UI es rs) l0 ⟨0,none,none,[],[],by omega,rfl,⟨hR2.fr0 f3,hS3,hA3,f03,by omega,by omega,by omega,by omega⟩,rfl,fun z ⟨e,he,_⟩=>by simp at he⟩ ?_
  rintro k us rr w5 I μ hgo ⟨i,p,q,es,rs,hi,rfl,hB5,hm5,hoff⟩
  refine ⟨_,_,_,_,_,_,_,_,rfl,Xc (fun g2=>?_) fun _=>?_⟩
  · obtain ⟨x,g,o,hx,hxm,ha,hld,_⟩:=Xqm (c0:=c0) (h0.fr0 hB5.f) hl0 (i:=i) (by omega)
    refine ⟨_,ha,_,_,_,_,_,hld,?_⟩
    have hxa:=hok x hxm
    refine XvA hB5.R (by omega) hB5.S hB5.A (hxa.fr0 hB5.f) (fun w' f=>hxa.1.fr0 (hB5.R.news hB5.f f hB5.b0 hB5.l0)) (hfew.2 x hxm) fun w6 p6 es6 q6 rs6 bb f6 hR6 hS6 hA6 _ _ _ ho6 hm6 hn6 _=>⟨_,rfl,?_⟩
    have hl60:cs.length≤60:=hfew.1
    have ew:IntKind.i64.wrap ((i:Int)+1)=((i+1:Nat):Int):=by rw [Xe (by omega) (by omega)]; omega
    rw [ew]
    exact hgo _ _ _ (k - 1) (by omega) ⟨i+1,p6,q6,es6,rs6,by omega,rfl,⟨hR6,hS6,hA6,hB5.step f6,hB5.b0,hB5.l0,hB5.r0,hB5.m0⟩,by rw [hm6,hn6,hm5],ho6 hoff⟩
  · exact hk b p es lo r q rs lo2 w5 hB5 hm5 hoff
end
end Go.Sh
end

section
namespace Go.Sh
open Go Go.Fw Go.Proofs
set_option maxRecDepth 100000
set_option linter.unusedVariables false
theorem Xuk (ks:List KE) (s:Int) (nonce client:List UInt8) (f:TF):(UU ks s nonce client f).length≤100:=by
  by_cases h:Z7 ks s nonce client f=0
  · obtain ⟨⟨_,_,_,h4⟩,h5⟩:=XoJ h
    rw [h5,XaG]
    unfold Zd at h4; omega
  · unfold UU; rw [if_neg h]; simp
section
variable {w:World} {K:VWP}
theorem RingAt.notIn {w1:World} {b lo:Nat} {p q:Option Addr} {es:List RE} {N:Int} {xs:List UInt8} (hR:RingAt w1 b p es N lo) (h:Row w q (xs.map vb)) (hl:w.heap.size≤lo):0<xs.length→∀ z∈Xb q,¬ inR es z:=fun h0 z hz ⟨e,he,h1,h2⟩=>by
  have:=Xrp h hl h0 z hz; have:=(hR.ent e he).2.1; omega
theorem fields_of {w:World} {cs:Array Value} (h:DecL w [.int .u64,.bytes,.bytes] cs.toList):∃ f:TF,TF.ok w f∧cs=#[.int .u64 (f.exp:Int),.slice f.p1 f.od.length f.c1,.slice f.p2 f.sc.length f.c2]:=by
  obtain ⟨a1,r1,e1,⟨n,rfl,hn⟩,a2,r2,e2,⟨q,xs,c,rfl,hc,_,hR⟩,a3,r3,e3,⟨q2,ys,c2,rfl,hc2,_,hR2⟩,rfl⟩:=h
  have hn':0≤n∧n<18446744073709551616:=by
    simp [Lit.wf,IntKind.min,IntKind.max,IntKind.bits,IntKind.signed] at hn; omega
  obtain ⟨m,rfl⟩:=Int.eq_ofNat_of_zero_le hn'.1
  refine ⟨⟨m,xs,ys,q,c,q2,c2⟩,⟨hR,hc,hR2,hc2,by show m<_; omega⟩,?_⟩
  apply Array.ext'
  rw [e1,e2,e3]
  simp
end
end Go.Sh
end

section
namespace Go.Sh
open Go Go.Fw Go.Proofs
set_option maxRecDepth 100000
set_option linter.unusedVariables false
theorem Xth {ks:List KE} {s:Int} {nonce client:List UInt8} {f:TF} (h1:nonce.length=12) (h2:client.length≤64) (h3:f.od.length≤20∧f.sc.length≤20):Z7 ks s nonce client f=if XT ks s then 0 else 17:=by
  unfold Z7
  by_cases h:XT ks s
  · rw [if_neg (fun x=>x h),if_neg (by omega),if_neg (by unfold Zd; omega),if_pos h]
  · rw [if_pos h,if_neg h]
section
variable {w:World} {K:VWP}
theorem RingAt.sq0 {b lo:Nat} {p:Option Addr} {es:List RE} {N:Int} (h:RingAt w b p es N lo) {s:Int} (hs:XT (es.map RE.ke) s):0≤s∧s<128:=by
  obtain ⟨e,_,he,hem⟩:=h.sq hs
  have:=(h.ent e hem).2.2
  omega
end
end Go.Sh
end

section
namespace Go.Sh
open Go Go.Fw Go.Proofs
set_option maxRecDepth 100000
set_option linter.unusedVariables false
theorem Xul (b:List UInt8):(Zx b).e≠13:=by
  have h12:∀ s:Int×List UInt8,(s.1=0∨s.1=12)→(XB s).2.1=0∨(XB s).2.1=12:=by
    intro s h
    unfold XB
    split
    · exact .inl rfl
    · show (if s.1=0 then 12 else s.1)=0∨(if s.1=0 then 12 else s.1)=12
      split <;> omega
  have hn:(Yb 8 (0,b)).2.1=0∨(Yb 8 (0,b)).2.1=12:=by
    unfold Yb
    split
    · exact .inl rfl
    · exact .inr rfl
  have h2:=h12 _ (h12 _ hn)
  have he:∀ s:Int×List UInt8,(s.1=0∨s.1=12)→U1 s≠13:=by
    intro s h
    unfold U1
    split
    · split <;> omega
    · omega
  unfold Zx
  split
  · exact he _ h2
  · split
    · show (10:Int)≠13; omega
    · show (0:Int)≠13; omega
theorem Xti {ks:List KE} {client tok:List UInt8} (h:29≤tok.length) (hs:¬ XT ks (tk0 tok:Int)):(X8 ks client tok 0).e=17:=by
  have:YN ks client tok=17:=by unfold YN; rw [if_neg (by omega),if_pos hs]
  unfold X8
  rw [if_pos (by rw [this]; omega),this]; rfl
theorem Xum {ks:List KE} {client tok:List UInt8} (h:29≤tok.length) (hs:XT ks (tk0 tok:Int)) (hc:client.length≤64) (ht:tok.length≤4096) :
    (X8 ks client tok 0).e=13↔opE (Vz ks (tk0 tok:Int)) (tkN tok) (tkS tok) (UInt8.ofNat (tk0 tok)::client)≠0:=by
  by_cases h0:opE (Vz ks (tk0 tok:Int)) (tkN tok) (tkS tok) (UInt8.ofNat (tk0 tok)::client)=0
  · have eE:YN ks client tok=0:=by unfold YN; rw [if_neg (by omega),if_neg (fun hh=>hh hs),if_neg (by omega),if_neg (fun hh=>hh h0)]
    refine ⟨fun he=>?_,fun hh=>absurd h0 hh⟩
    unfold X8 at he
    rw [if_neg (fun hh=>hh eE)] at he
    have:=Xul (Jk ks client tok)
    split at he
    · exact absurd he this
    · split at he
      · rename_i hh; omega
      · exact absurd he this
  · have eE:YN ks client tok=13:=by unfold YN; rw [if_neg (by omega),if_neg (fun hh=>hh hs),if_neg (by omega),if_pos h0]
    refine ⟨fun _=>h0,fun _=>?_⟩
    unfold X8
    rw [if_pos (by rw [eE]; omega),eE]; rfl
section
variable {w:World} {K:VWP}
theorem Xkz {r lo:Nat} {q:Option Addr} {rs:List RR} (hS:RefAt w r q rs lo) {p1 p2:Option Addr} {l1 c1 l2 c2:Nat} {client tok:List UInt8} {bb:Bool} (h1:Row w p1 (client.map vb)) (hl1:l1=client.length) (hc1:l1≤64)
    (h2:Row w p2 (tok.map vb)) (hl2:l2=tok.length) (hc2:l2≤c2) (hb2:29≤l2∧l2≤4096) (h:∀ w',Fr [] w w'→K (.bool true) w') :
    Zn p1 l1 c1 bb (some ⟨r,0,none⟩) p2 l2 c2 (X8 (rs.map RR.ke) client tok 0).e w K:=by
  unfold Zn
  obtain ⟨a,ha,hca⟩:=XD (t:=Xg) (by kernel_rfl) h2 (c:=c2) hl2 (i:=0) (by omega) (k:=.i64)
  have h256:=(fl tok 0).toNat_lt
  refine ⟨_,ha,_,Ld.cell (by kernel_rfl) hca,?_⟩
  rw [Xe (by omega) (by show ((fl tok 0).toNat:Int)<_; omega)]
  have etk:(((tok.getD 0 0).toNat:Nat):Int)=(tk0 tok:Int):=rfl
  rw [etk]
  refine XaF hS ⟨_,rfl,?_⟩
  unfold Uo
  by_cases hs:XT (rs.map RR.ke) (tk0 tok:Int)
  · rw [if_pos hs]
    refine Xc (fun hh=>by omega) fun _=>?_
    obtain ⟨e,he,hes,hem,hkey⟩:=hS.sq hs
    obtain ⟨g,c,hB,e0,hO⟩:=hS.blk
    refine ⟨fun w'=>Fr [] w w',Drw.intro fun w2 f2 s2=>⟨_,rfl,?_⟩⟩
    refine Xrn (h2.fr0 f2) hl2 (a:=1) (b:=13) (by omega) (by omega) hc2 fun qa da hqa hla hda hba=>?_
    refine Ww (h2.fr0 f2) hl2 (n:=13) (by omega) hc2 fun qb db hqb hlb hdb hbb=>?_
    obtain ⟨a2,ha2,hca2⟩:=XD (t:=Xg) (by kernel_rfl) (h2.fr0 f2) (c:=c2) hl2 (i:=0) (by omega) (k:=.i64)
    have ldr:∀ {w'},Fr [] w w'→Ld Tryz.prog XK (.pointer (some ((⟨r,0,none⟩:Addr).add 0))) w' (.slice q rs.length c):=fun {w'} f=>by rw [Xi]; exact Ld.blk (by kernel_rfl) (hB.fr0 f) (by omega) e0
    obtain ⟨gb,go,hx,_,_⟩:=Xji (hO.fr0 f2) rfl he
    have hlk:∀ {w'},Fr [] w w'→Ld Tryz.prog Xg (.pointer (some ((⟨gb,go,none⟩:Addr).add 1))) w' (.slice e.kp 16 e.kc):=fun {w'} f=>by
      obtain ⟨gb2,go2,hx2,_,hk2⟩:=Xji (hO.fr0 f) rfl he
      have:=hx.symm.trans hx2
      have ha:(⟨gb,go,none⟩:Addr)=⟨gb2,go2,none⟩:=by simpa using this
      rw [ha]; exact hk2
    refine ⟨_,ha2,_,_,_,⟨f2,fun w' hw'=>ldr hw'⟩,_,hx,_,_,_,⟨f2,fun w' hw'=>hlk hw'⟩,_,Ld.cell (by kernel_rfl) hca2,.inl rfl,?_⟩
    refine mk1 (x:=fl tok 0) fun p3 w3 f3 hO3 s3=>⟨.inr (f2.then f3),?_⟩
    have f03:=f2.then f3
    refine JW (m:=l1) hO3 (by omega) (h1.fr0 f03) hl1 (by omega) fun p4 c4 w4 f4 hO4=>⟨.inr (f2.then (f3.trans f4 fun z hz=>.inr (hO3.2.2 z hz))),?_⟩
    have f04:=f2.then (f3.trans f4 fun z hz=>.inr (hO3.2.2 z hz))
    have f24:=f3.trans f4 fun z hz=>.inr (hO3.2.2 z hz)
    have en:[fl tok 0]++client=UInt8.ofNat (tk0 tok)::client:=by unfold tk0; simp
    rw [en] at hO4
    obtain ⟨a1,a2',a3,a4⟩:=hS.ent e hem
    refine Xjm (a1.fr0 f04) a2'.symm a3 rfl (hqa.fr0 f24) hla (hqb.fr0 f24) hlb hdb (by omega) hO4.row hO4.2.1 fun qo do_ w5 f5 hO5=>⟨_,_,_,_,rfl,?_⟩
    have eN:(tok.take 13).drop 1=tkN tok:=rfl
    have eS:tok.drop 13=tkS tok:=rfl
    rw [eN,eS,← hkey]
    have ht:=Xum (client:=client) (tok:=tok) (by omega) hs (by omega) (by omega)
    obtain ⟨x,hx⟩:∃ x,x=opE (Vz (rs.map RR.ke) (tk0 tok:Int)) (tkN tok) (tkS tok) (UInt8.ofNat (tk0 tok)::client):=⟨_,rfl⟩
    obtain ⟨y,hy⟩:∃ y,y=(X8 (rs.map RR.ke) client tok 0).e:=⟨_,rfl⟩
    rw [← hx,← hy] at ht ⊢
    have:((x != 0) == (y == 13))=true:=by
      rw [beq_iff_eq,Bool.eq_iff_iff,bne_iff_ne,beq_iff_eq]; exact ht.symm
    rw [this]
    exact h _ (f04.then f5)
  · rw [if_neg hs]
    refine Xc (fun _=>?_) fun hh=>by omega
    rw [Xti (by omega) hs]
    exact h _ (Fr.refl _ _)
end
end Go.Sh
namespace Go.Sh
open Go Go.Fw Go.Proofs
section
variable {w:World} {K:VWP}
theorem Both.keep {w0 w1 w w':World} {b lo r lo2:Nat} {p q:Option Addr} {es:List RE} {rs:List RR} {N N':Int} {L:List Nat} (h1:Both w0 w1 b p es lo r q rs lo2 N) (h:Both w0 w b p es lo r q rs lo2 N') (f:Fr L w w') (hL:∀ k∈L,w1.heap.size≤k):Both w0 w' b p es lo r q rs lo2 N':=by
  have hr:=h1.S.lt
  refine ⟨h.R.fr f fun k hk=>VZ h1.R (hL k hk),h.S.fr f fun k hk=>⟨fun hm=>?_,fun e he hm=>?_⟩,h.A,h.f.trans f fun k hk=>?_,h.b0,h.l0,h.r0,h.m0⟩
  · have:=hr k hm; have:=hL k hk; omega
  · have:=((h1.S.ent e he).2.2.2 k hm).2; have:=hL k hk; omega
  · have:=hL k hk; have:=h1.f.size; right; omega
theorem TopSpoilt_c (hal:∀ (w:World) (K:VWP),(∀ w',Fr [] w w'→K (.bool true) w')→Xa Tryz.prog Xc8 #[] w K)
    {p0 p2 p3:Option Addr} {l0 c0 l2 c2 l3 c3:Nat} {cs:List RC} {seq at_:Int} {by_:UInt8} {nonce client:List UInt8} {f:TF} (h0:Row w p0 (cs.flatMap RC.v)) (hok:∀ x∈cs,RC.ok w x) (hl0:l0=cs.length)
    (h2:Row w p2 (nonce.map vb)) (hl2:l2=nonce.length) (hc2:l2≤c2) (h3:Row w p3 (client.map vb)) (hl3:l3=client.length) (hc3:l3≤c3) (hf:TF.ok w f) (h:∀ w',Fr [] w w'→K (.bool true) w') :
    Xa Tryz.prog QR #[.slice p0 l0 c0,.int .i64 seq,.slice p2 l2 c2,.slice p3 l3 c3,f.a,.int .i64 at_,.int .u8 (by_.toNat:Int)] w K:=by
  apply WI
  unfold U7
  refine Xky f fun w1 f1 hT1 s1=>?_
  obtain ⟨k11,hk11⟩:∃ k,k=w.heap.size:=⟨_,rfl⟩
  rw [← hk11] at hT1 ⊢
  refine hal _ _ fun w2 f2=>⟨_,rfl,Xz ?_⟩
  have f02:=f1.then f2
  refine Xs0 (h0.fr0 f02) hl0 ⟨_,rfl,X2 (h w2 f02)⟩ fun hfew=>⟨_,rfl,Xz ?_⟩
  have hT2:=hT1.fr0 f2
  refine XF (fun _=>h w2 f02) fun g2=>Xc (fun _=>h w2 f02) fun g3=>⟨_,_,_,hT2.ldO,Xc (fun _=>h w2 f02) fun g4=>⟨_,_,_,hT2.ldS,Xc (fun _=>h w2 f02) fun g5=>?_⟩⟩
  have hlf:f.od.length≤20∧f.sc.length≤20:=by omega
  unfold Ud
  refine Xtg (h0.fr0 f02) (fun x hx=>(hok x hx).fr0 f02) hl0 hfew fun b p es lo r q rs lo2 w7 hB hm hko=>⟨_,_,rfl,_,_,ptrNil (by kernel_rfl),Xz ?_⟩
  have f07:=f02.then hB.f
  have n02:=f02.size
  have hll:w.heap.size≤lo:=by have:=hB.l0; omega
  have hT7:=hT2.fr0 hB.f
  refine ⟨_,_,_,_,_,_,_,hT7.ldF,Xtc (s:=seq) hB.R (by omega) (h2.fr0 f07) hl2 hc2 (by omega) (hB.R.notIn h2 hll) (h3.fr0 f07) hl3 hc3 (by omega) (hf.fr0 f07) fun qs ds L w8 hL f8 hR8 hO8=>⟨_,_,_,_,rfl,?_⟩⟩
  have hB8:=hB.box hL f8 hR8 hko
  have f08:=f02.then hB8.f
  have eE:=Xth (ks:=es.map RE.ke) (s:=seq) (nonce:=nonce) (client:=client) (f:=f) (by omega) (by omega) hlf
  by_cases hs:XT (es.map RE.ke) seq
  · rw [if_pos hs] at eE
    have hs0:=hR8.sq0 hs
    have hle:=Xuk (es.map RE.ke) seq nonce client f
    obtain ⟨T,hT⟩:∃ T,T=UU (es.map RE.ke) seq nonce client f:=⟨_,rfl⟩
    have hlen:=(XoJ eE).2
    rw [← hT] at hlen hle hO8 ⊢
    rw [eE]
    refine Xz (Xc (fun _=>h _ f08) fun g6=>Xc (fun _=>h _ f08) fun g7=>Yn (fun _=>h _ f08) fun g8=>?_)
    obtain ⟨i,rfl⟩:=Int.eq_ofNat_of_zero_le (show 0≤at_ by omega)
    have hi:i<T.length:=by omega
    unfold Uc
    obtain ⟨a,ha,hca⟩:=hO8.get (k:=.i64) hi
    refine ⟨_,ha,_,Ld.cell (by kernel_rfl) hca,_,ha,?_⟩
    rw [UV]
    refine hO8.stoAt (k:=.i64) (x:=fl T i ^^^ by_) hi ha fun w9 f9 hO9 s9=>?_
    have n7:=hB.f.size; have n8:=f8.size
    have hB9:=hB.keep hB8 f9 hO8.2.2
    obtain ⟨U,hU⟩:∃ U,U=T.set i (fl T i ^^^ by_):=⟨_,rfl⟩
    have hUl:T.length=U.length:=by rw [hU,List.length_set]
    rw [← hU] at hO9
    have f09:=f02.then hB9.f
    have hoff:∀ z∈Xb qs,¬ inR es z:=fun z hz ⟨e,he,_,h2⟩=>by have:=(hB.R.ent e he).1.lh; have:=hO8.2.2 z hz; omega
    refine Xtd (now:=0) hB9.R (by omega) (h3.fr0 f09) hl3 hc3 (by omega) hO9.row hUl hO9.cap (by omega) (fun _=>hoff) fun u LA wA hLA fA hRA hUA hu=>⟨_,_,_,_,_,_,_,_,rfl,?_⟩
    have hBA:=hB9.box hLA fA hRA hko
    have hOA:OB wA qs T.length ds U w7.heap.size:=hO9.fr fA fun k hk hm2=>hoff k hk (hLA k hm2)
    refine Xui u fun wB fB hTB=>?_
    obtain ⟨k19,hk19⟩:∃ k,k=wA.heap.size:=⟨_,rfl⟩
    rw [← hk19] at hTB ⊢
    have hBB:=hBA.fr0 fB
    have f0B:=f02.then hBB.f
    refine Xtf (now:=0) hBB.S (h3.fr0 f0B) hl3 (by omega) (hOA.fr0 fB).row hUl hOA.cap (by omega) fun v wC fC hVC hv=>⟨_,_,_,_,_,_,_,_,rfl,?_⟩
    refine XwB v fun wD fD hTD=>?_
    obtain ⟨k21,hk21⟩:∃ k,k=wC.heap.size:=⟨_,rfl⟩
    rw [← hk21] at hTD ⊢
    rw [← hm] at hv ⊢
    have fBD:=fC.then fD
    have hTBD:=hTB.fr0 fBD
    have f0D:=f0B.then fBD
    have huv:u.ut (X8 (es.map RE.ke) client U 0).e=v.ut (X8 (es.map RE.ke) client U 0).e:=hu.trans hv.symm
    unfold TF.ut at huv
    injection huv with _ x1 x2 x3
    refine XF (fun hh=>absurd rfl hh) fun _=>?_
    refine ⟨_,_,_,_,_,_,_,hTBD.ldF,_,hTD.ldE,_,_,_,hTD.ldO,_,_,_,hTD.ldS,?_⟩
    refine Xtb ((hUA.fr0 fB).fr0 fBD).ok (hVC.fr0 fD).ok fun wE fE=>⟨_,rfl,?_⟩
    rw [decide_eq_true ⟨x1,x2,x3⟩]
    refine Xz ?_
    have fBE:=fBD.then fE
    have f0E:=f0B.then fBE
    rw [hm]
    exact Xkz (hBB.S.fr0 fBE) (h3.fr0 f0E) hl3 (by omega) ((hOA.fr0 fB).fr0 fBE).row hUl hOA.cap (by omega) fun w' f'=>h w' (f0E.then f')
  · rw [if_neg hs] at eE
    rw [eE]
    exact X2 (h _ f08)
end
end Go.Sh
end
