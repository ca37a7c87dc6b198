/- A part of a proof of a given law of this program: lemmas, printed forms of its functions, contracts. It has no conditions of its own. -/
import Derived.Test.YtlfdlhgbppahgaaGreatMC5
import Derived.Test.YtlfdlhgbppahgaaGreatMC4
import Derived.Test.YtlfdlhgbppahgaaGreatMS3
import Derived.Test.YtlfdlhgbppahgaaGreatMC3
import Derived.Test.YtlfdlhgbppahgaaGreatMS4
import Derived.Test.YtlfdlhgbppahgaaGreatMC2
import Derived.Test.YtlfdlhgbppahgaaGreatMW1
import Derived.Test.YtlfdlhgbppahgaaGreatMC0

set_option maxHeartbeats 16000000
section
namespace Go.Sh
open Go Go.Fw Go.Proofs
set_option maxRecDepth 100000
set_option linter.unusedVariables false
section
variable {w:World} {f:TF} {K:VWP}
theorem XoD {k:Nat} {g:Nat→Value} (hB:Blk w k 3 g) (f:TF) {e:Int} (h:∀ w',Fr [k] w w'→K (.tuple #[f.a,.int .i64 e]) w') :
    ∃ w2,Sto Tryz.prog XE (.pointer (some ⟨k,0,none⟩)) f.a w w2∧∃ (a4:Addr) (v4:Value),(.pointer (some ⟨k,0,none⟩):Value)=.pointer (some a4)∧(loadVar XE a4).run Tryz.prog w2=.ok v4 w2∧K (.tuple #[v4,.int .i64 e]) w2:=
  UJ (by kernel_rfl) hB f fun w3 f3 hT s3=>⟨_,_,rfl,hT.ldG,h w3 f3⟩
theorem XyF (f:TF) {K:Nat→World→Prop} (h:∀ w',Fr [] w w'→TAt w' w.heap.size f→K w.heap.size w') :
    ∃ z,Pu Tryz.prog (zeroValue XE) z∧New z.cells XE w fun k w2=>∃ w3,Sto Tryz.prog XE (.pointer (some ⟨k,0,none⟩)) f.a w2 w3∧K k w3:=
  XG (s:=3) (by kernel_rfl) fun w2 g2 f2 hB2 s2=>UJ (by kernel_rfl) hB2 f fun w3 f3 hT s3=>h w3 (f2.st f3 (Nat.le_refl _)) hT
theorem Xva (hf:TF.ok w f) (hk:∀ q d w',Fr [] w w'→OB w' q (JA f).length d (JA f) w.heap.size→K (.tuple #[.slice q (JA f).length d,.int .i64 (Jz f)]) w'):Xa Tryz.prog Xpy #[f.a] w K:=by
  apply Xku
  unfold Xkt
  refine XqJ f fun w1 f1 hT s1=>?_
  obtain ⟨k1,hk1⟩:∃ k,k=w.heap.size:=⟨_,rfl⟩
  rw [← hk1] at hT ⊢
  have bad:XZ f→K (.tuple #[.slice none 0 0,.int .i64 15]) w1:=fun hl=>by
    have e1:Jz f=15:=by unfold Jz; rw [if_pos hl]
    have e2:JA f=[]:=by unfold JA; rw [if_pos hl]
    rw [e1,e2] at hk
    exact hk none 0 w1 f1 (OB.nil _ _)
  refine ⟨_,_,_,hT.ldO,Xd (fun h1=>bad (.inl (by omega))) fun h1=>⟨_,_,_,hT.ldS,Xd (fun h2=>bad (.inr (by omega))) fun h2=>?_⟩⟩
  have hl:¬ XZ f:=by unfold XZ; omega
  have e1:Jz f=0:=by unfold Jz; rw [if_neg hl]
  have e2:JA f=XN f:=by unfold JA; rw [if_neg hl]
  rw [e1,e2] at hk
  unfold XdS
  have hk1l:=hT.lt
  refine ⟨_,hT.ldE,XtR (n:=f.exp) (size:=8) (by omega) (by have:=hf.e; simpa using this) hf.e fun p2 c2 w2 f2 hO2=>⟨_,_,_,_,rfl,?_⟩⟩
  have n1:=f1.size
  have f02:=f1.then f2
  have hT2:=hT.fr0 f2
  refine ⟨fun w'=>TAt w' k1 f,Drw.intro fun w3 f3 s3=>?_⟩
  have hT3:=hT2.fr0 f3
  refine ⟨_,_,_,⟨hT3,fun w' hw'=>hw'.ldO⟩,_,_,_,⟨hT3,fun w' hw'=>hw'.ldO⟩,?_⟩
  have eb:∀ n:Nat,n≤20→IntKind.u8.wrap (n:Int)=((UInt8.ofNat n).toNat:Int):=fun n hn=>by rw [W0 (by omega) (by omega)]; simp; omega
  rw [eb _ (by omega)]
  refine mk1 (x:=UInt8.ofNat f.od.length) fun p4 w4 f4 hO4 s4=>⟨.inr (hT3.fr0 f4),?_⟩
  have hO24:=(hO2.fr0 f3).fr0 f4
  have hlo:∀ z∈Xb p2,w1.heap.size≤z:=hO2.2.2
  have m4:=f4.size; have m3:=f3.size; have m2:=f2.size
  refine XY (m:=1) hO24 (by omega) hO4.row rfl (by omega) fun p5 c5 w5 f5 hO5=>?_
  have hT5:TAt w5 k1 f:=(hT3.fr0 f4).fr f5 fun hm=>by have:=hlo _ hm; omega
  refine ⟨.inr hT5,?_⟩
  have f05:Fr [] w w5:=((f02.then f3).then f4).trans f5 fun z hz=>.inr (by have:=hlo z hz; omega)
  have m5:=f5.size
  refine XY (m:=f.od.length) hO5 (by omega) (hf.fr0 f05).r1 rfl (by omega) fun p6 c6 w6 f6 hO6=>?_
  have hT6:TAt w6 k1 f:=hT5.fr f6 fun hm=>by have:=hO5.2.2 _ hm; omega
  have f06:Fr [] w w6:=f05.trans f6 fun z hz=>.inr (by have:=hO5.2.2 z hz; omega)
  have m6:=f6.size
  refine ⟨fun w'=>TAt w' k1 f,Drw.intro fun w7 f7 s7=>?_⟩
  have hT7:=hT6.fr0 f7
  refine ⟨_,_,_,⟨hT7,fun w' hw'=>hw'.ldS⟩,_,_,_,⟨hT7,fun w' hw'=>hw'.ldS⟩,?_⟩
  rw [eb _ (by omega)]
  refine mk1 (x:=UInt8.ofNat f.sc.length) fun p8 w8 f8 hO8 s8=>⟨.inr (hT7.fr0 f8),?_⟩
  have m8:=f8.size; have m7:=f7.size
  refine XY (m:=1) ((hO6.fr0 f7).fr0 f8) (by omega) hO8.row rfl (by omega) fun p9 c9 w9 f9 hO9=>?_
  have hT9:TAt w9 k1 f:=(hT7.fr0 f8).fr f9 fun hm=>by have:=hO6.2.2 _ hm; omega
  refine ⟨.inr hT9,?_⟩
  have f09:Fr [] w w9:=((f06.then f7).then f8).trans f9 fun z hz=>.inr (by have:=hO6.2.2 z hz; omega)
  have m9:=f9.size
  refine XY (m:=f.sc.length) hO9 (by omega) (hf.fr0 f09).r2 rfl (by omega) fun pa ca wa fa hOa=>?_
  have f0a:Fr [] w wa:=f09.trans fa fun z hz=>.inr (by have:=hO9.2.2 z hz; omega)
  have eT:XO f.exp 8++[UInt8.ofNat f.od.length]++f.od++[UInt8.ofNat f.sc.length]++f.sc=XN f:=by simp [XN]
  rw [eT] at hOa
  have ell:8+1+f.od.length+1+f.sc.length=(XN f).length:=hOa.2.1
  rw [ell] at hOa ⊢
  exact hk pa ca wa f0a (hOa.mono (by omega))
theorem Xni {n:Nat} (hn:n<256) {p:Option Addr} {l c:Nat} {xs:List UInt8} (hR:Row w p (xs.map vb)) (hl:l=xs.length) (hlb:l≤1000000)
    (hk:∀ q d w',Fr [] w w'→OB w' q (UInt8.ofNat n::xs).length d (UInt8.ofNat n::xs) w.heap.size→K (.slice q (UInt8.ofNat n::xs).length d) w'):Xa Tryz.prog Xpt #[.int .i64 (n:Int),.slice p l c] w K:=by
  apply Xkr
  unfold Xkq
  have ew:IntKind.u8.wrap (n:Int)=((UInt8.ofNat n).toNat:Int):=by rw [W0 (by omega) (by omega)]; simp; omega
  rw [ew]
  refine mk1 (x:=UInt8.ofNat n) fun p1 w1 f1 h1 s1=>?_
  refine XY (m:=l) h1 (by omega) (hR.fr0 f1) hl (by omega) fun p2 c2 w2 f2 hO2=>?_
  have e1:1+l=(UInt8.ofNat n::xs).length:=by rw [List.length_cons]; omega
  have e2:[UInt8.ofNat n]++xs=UInt8.ofNat n::xs:=rfl
  rw [e1,e2] at hO2
  rw [e1]
  exact hk p2 c2 w2 (f1.trans f2 fun z hz=>.inr (h1.2.2 z hz)) hO2
theorem Xr3 {p:Option Addr} {l c:Nat} {b:List UInt8} (hR:Row w p (b.map vb)) (hl:l=b.length) (hc:l≤c) (hlb:b.length≤1000000)
    (hk:∀ u w',Fr [] w w'→TF.own w' u w.heap.size→u.ut (ZM b).e=ZM b→K (.tuple #[u.a,.int .i64 (ZM b).e]) w'):Xa Tryz.prog Xls #[.slice p l c] w K:=by
  apply Xhd
  unfold XfM
  refine XG (s:=3) (by kernel_rfl) fun w1 g1 f1 hB1 s1=>?_
  obtain ⟨k2,hk2⟩:∃ k,k=w.heap.size:=⟨_,rfl⟩
  rw [← hk2] at hB1 ⊢
  refine XxA (hR.fr0 f1) hl hc fun w2 f2 hR2 s2=>?_
  obtain ⟨r,hr⟩:∃ r,r=w1.heap.size:=⟨_,rfl⟩
  rw [← hr] at hR2 ⊢
  obtain ⟨n,hn⟩:∃ n,n=XR 8 (0,b):=⟨_,rfl⟩
  refine XsK hR2 8 (by omega) hlb fun w3 f3 hR3=>⟨_,rfl,?_⟩
  have hlt:=XsH (0,b)
  have n1:(XR 8 (0,b)).2.2.length≤b.length:=VS 8 (0,b)
  rw [← hn] at hR3 hlt n1 ⊢
  refine XG (s:=3) (by kernel_rfl) fun w3a g3a f3a hB3a s3a=>?_
  obtain ⟨k5,hk5⟩:∃ k,k=w3.heap.size:=⟨_,rfl⟩
  rw [← hk5] at hB3a ⊢
  refine Sto.agg (m:=3) (cs:=[.int .u64 (n.1:Int),.slice none 0 0,.slice none 0 0]) (by kernel_rfl) rfl hB3a (by omega) (by simp; exact ⟨rfl,rfl⟩) fun w3b f3b hB3b s3b=>?_
  have f33:Fr [] w3 w3b:=f3a.st f3b (by omega)
  have hR3b:=(hR3.fr0 f3a).fr f3b (by simp; have:=hR3.lt; omega)
  obtain ⟨o,ho⟩:∃ o,o=Xp n.2:=⟨_,rfl⟩
  have hn2:(n.2.1,n.2.2)=n.2:=rfl
  have m1:=f1.size; have m2:=f2.size; have m3:=f3.size; have m33:=f33.size
  have hrl:=hR3.lt
  refine Xnh hR3b (by omega) fun q4 d4 w4 f4 hR4 hO4=>⟨_,_,_,rfl,?_⟩
  have o1:=(Ul n.2).1
  rw [hn2,← ho] at hR4 hO4
  rw [hn2,← ho]
  rw [← ho] at o1
  have hB4:=hB3b.fr f4 (by simp; omega)
  rw [Xg]
  refine Sto.blk (by kernel_rfl) hB4 (by omega) rfl rfl fun w5 f5 hB5 s5=>?_
  have hR5:=hR4.fr f5 (by simp; omega)
  have m4:=f4.size
  have hO45:=hO4.fr_sep f5 (by omega)
  obtain ⟨s,hs⟩:∃ s,s=Xp o.2:=⟨_,rfl⟩
  have ho2:(o.2.1,o.2.2)=o.2:=rfl
  refine Xnh hR5 (by omega) fun q6 d6 w6 f6 hR6 hO6=>⟨_,_,_,rfl,?_⟩
  rw [ho2,← hs] at hR6 hO6
  rw [ho2,← hs]
  have hB6:=hB5.fr f6 (by simp; omega)
  have m6:=f6.size
  have hO46:=hO45.fr_sep f6 (by omega)
  rw [Xg]
  refine Sto.blk (by kernel_rfl) hB6 (by omega) rfl rfl fun w7 f7 hB7 s7=>?_
  have hR7:=hR6.fr f7 (by simp; omega)
  have hO47:=hO46.fr_sep f7 (by omega)
  have hO67:=hO6.fr_sep f7 (by omega)
  obtain ⟨u,hu⟩:∃ u:TF,u=⟨n.1,o.1,s.1,q4,d4,q6,d6⟩:=⟨_,rfl⟩
  have hT7:TAt w7 k5 u:=by
    refine ⟨_,hB7,fun j v hj=>?_⟩
    rw [hu] at hj
    have hj3:=(List.getElem?_eq_some_iff.1 hj).1
    have hj3:j<3:=hj3
    match j,hj3 with
    | 0,_=>
      rw [upd_ne _ _ _ (by omega),upd_ne _ _ _ (by omega)]
      unfold updN
      rw [dif_pos ⟨by omega,by simp⟩]
      exact Option.some.inj hj
    | 1,_=>
      rw [upd_ne _ _ _ (by omega)]
      show upd _ (0+1) _ (0+1)=_
      rw [upd_same]
      exact Option.some.inj hj
    | 2,_=>
      show upd _ (0+2) _ (0+2)=_
      rw [upd_same]
      exact Option.some.inj hj
  have fa:Fr [] w w3b:=((f1.then f2).trans f3 (fun z hz=>.inr (by simp at hz; omega))).then f33
  have f07:Fr [] w w7:=(((fa.trans f4 (fun z hz=>.inr (by simp at hz; omega))).trans f5 (fun z hz=>.inr (by simp at hz; omega))).trans f6 (fun z hz=>.inr (by simp at hz; omega))).trans f7 (fun z hz=>.inr (by simp at hz; omega))
  refine XxB hR7 fun w8 f8 _=>⟨_,rfl,?_⟩
  have hs2:(s.2.1,s.2.2)=s.2:=rfl
  rw [hs2]
  have f08:Fr [] w w8:=f07.trans f8 (fun z hz=>.inr (by simp at hz; omega))
  have hT8:=hT7.fr f8 (by simp; omega)
  have hU8:TF.own w8 u (k5+1):=by
    rw [hu]
    exact ⟨(hO47.fr_sep f8 (by omega)).mono (by omega),(hO67.fr_sep f8 (by omega)).mono (by omega),hlt⟩
  have hut:ZM b=if Vl s.2≠0 then .bad (Vl s.2) else if 20<o.1.length∨20<s.1.length then .bad 10 else ⟨0,n.1,o.1,s.1⟩:=by
    rw [hs,ho,hn]; rfl
  have hB8:Blk w8 k2 3 g1:=by
    have hx:Blk w3b k2 3 g1:=((((hB1.fr0 f2).fr f3 (by simp; omega)).fr0 f33))
    exact ((((hx.fr f4 (by simp; omega)).fr f5 (by simp; omega)).fr f6 (by simp; omega)).fr f7 (by simp; omega)).fr f8 (by simp; omega)
  have fin:∀ (e:Int),(e≠0→ZM b=.bad e)→(e=0→ZM b=⟨0,n.1,o.1,s.1⟩)→Zb ⟨k2,0,none⟩ 0 ⟨k5,0,none⟩ e w8 K:=by
    intro e hbe hoe
    unfold Zb
    refine Xt (fun he=>?_) fun he=>?_
    · have hbe:=hbe he
      refine XoD hB8 tf0 fun w10 f10=>?_
      have:=hk tf0 w10 (f08.st f10 (by omega)) (Xgr _ _) (by rw [hbe]; rfl)
      rw [hbe] at this; exact this
    · have hok:=hoe he
      refine ⟨_,_,_,_,_,_,_,hT8.ldG,?_⟩
      refine XoD hB8 u fun w10 f10=>?_
      have:=hk u w10 (f08.st f10 (by omega)) ((hU8.fr_sep f10 (by omega)).mono (by omega)) (by rw [hok,hu]; rfl)
      rw [hok] at this; exact this
  refine Xx (fun he=>?_) fun he=>?_
  · have hou:u.od=o.1:=by rw [hu]
    have hsu:u.sc=s.1:=by rw [hu]
    refine ⟨_,_,_,hT8.ldO,Xd (fun h1=>?_) fun h1=>⟨_,_,_,hT8.ldS,Xd (fun h2=>?_) fun h2=>?_⟩⟩
    · exact fin 10 (fun _=>by rw [hut,if_neg (fun hh=>hh he),if_pos (.inl (by rw [hou] at h1; omega))]) (fun hh=>by omega)
    · exact fin 10 (fun _=>by rw [hut,if_neg (fun hh=>hh he),if_pos (.inr (by rw [hsu] at h2; omega))]) (fun hh=>by omega)
    · exact fin _ (fun hh=>absurd he hh) (fun _=>by rw [hut,if_neg (fun hh=>hh he),if_neg (by rw [hou] at h1; rw [hsu] at h2; omega)])
  · exact fin _ (fun _=>by rw [hut,if_pos he]) (fun hh=>absurd hh he)
end
section
variable {w:World} {K:VWP} {r lo:Nat} {q:Option Addr} {rs:List RR}
theorem RefAt.sq {s:Int} (h:RefAt w r q rs lo) (hs:hasK (rs.map RR.ke) s):∃ e,rs[Yz (rs.map RR.ke) s]?=some e∧(e.sq:Int)=s∧e∈rs∧Uz (rs.map RR.ke) s=e.key:=by
  obtain ⟨e,h1,h2⟩:=XsD hs
  unfold Uz
  rw [h1]
  rw [List.getElem?_map] at h1
  cases he:rs[Yz (rs.map RR.ke) s]? with
  | none=>rw [he] at h1; cases h1
  | some x=>
    rw [he] at h1
    cases h1
    exact ⟨x,rfl,h2,List.mem_of_getElem? he,rfl⟩
theorem Xvb (hS:RefAt w r q rs lo) {s:Int} (hs0:hasK (rs.map RR.ke) s→0≤s∧s<256) {p2 p3:Option Addr} {l2 c2 l3 c3:Nat} {nonce client:List UInt8} {f:TF} (h2:Row w p2 (nonce.map vb)) (hl2:l2=nonce.length)
    (h3:Row w p3 (client.map vb)) (hl3:l3=client.length) (hb3:l3≤1000000) (hf:TF.ok w f)
    (hk:∀ q' d w',Fr [] w w'→OB w' q' (X6 (rs.map RR.ke) s nonce client f).length d (X6 (rs.map RR.ke) s nonce client f) w.heap.size→K (.tuple #[.slice q' (X6 (rs.map RR.ke) s nonce client f).length d,.int .i64 (XS (rs.map RR.ke) s nonce client f)]) w') :
    Xa Tryz.prog Xpr #[.pointer (some ⟨r,0,none⟩),.int .i64 s,.slice p2 l2 c2,.slice p3 l3 c3,f.a] w K:=by
  apply Xkp
  unfold Xko
  have bad:∀ (e:Int) w',XS (rs.map RR.ke) s nonce client f=e→e≠0→Fr [] w w'→K (.tuple #[.slice none 0 0,.int .i64 e]) w':=by
    intro e w' he h0 f'
    have h1:X6 (rs.map RR.ke) s nonce client f=[]:=by unfold X6; rw [if_neg (by rw [he]; exact h0)]
    have:=hk none 0 w' f'
    rw [h1,he] at this
    exact this (OB.nil _ _)
  refine XqJ f fun w1 f1 hT s1=>?_
  have hS1:=hS.fr0 f1
  refine XaL hS1 ⟨_,rfl,?_⟩
  unfold Uk
  by_cases hs:hasK (rs.map RR.ke) s
  · rw [if_pos hs]
    have hs':¬ ¬ hasK (rs.map RR.ke) s:=fun hh=>hh hs
    refine Xd (fun hh=>by omega) fun _=>?_
    refine Xt (fun hne=>bad 11 w1 (by unfold XS; rw [if_neg hs',if_pos (.inl (by omega))]) (by omega) f1) fun h12=>?_
    refine Xd (fun h64=>bad 11 w1 (by unfold XS; rw [if_neg hs',if_pos (.inr (by omega))]) (by omega) f1) fun h64=>?_
    have hin:¬ (nonce.length≠12∨64<client.length):=by omega
    unfold XdR
    refine ⟨_,_,_,_,_,_,_,hT.ldG,Xva (hf.fr0 f1) fun qt dt w3 f3 hO3=>⟨_,_,_,_,rfl,?_⟩⟩
    have f03:=f1.then f3
    by_cases hl:XZ f
    · have et:Jz f=15:=by unfold Jz; rw [if_pos hl]
      rw [et]
      exact Xl (bad 15 w3 (by unfold XS; rw [if_neg hs',if_neg hin,if_pos hl]) (by omega) f03)
    · have et:Jz f=0:=by unfold Jz; rw [if_neg hl]
      have er:JA f=XN f:=by unfold JA; rw [if_neg hl]
      have eE:XS (rs.map RR.ke) s nonce client f=0:=by unfold XS; rw [if_neg hs',if_neg hin,if_neg hl]
      obtain ⟨e,he,hes,hem,hkey⟩:=hS.sq hs
      obtain ⟨hs1,hs2⟩:=hs0 hs
      obtain ⟨n,rfl⟩:=Int.eq_ofNat_of_zero_le hs1
      have eL:X6 (rs.map RR.ke) (n:Int) nonce client f=UInt8.ofNat n::(nonce++slL e.key nonce (XN f) (UInt8.ofNat n::client)):=by
        unfold X6; rw [if_pos eE,hkey,Int.toNat_natCast]
      rw [eE,eL] at hk
      rw [er] at hO3
      rw [et,er]
      have hlf:f.od.length≤20∧f.sc.length≤20:=by unfold XZ at hl; omega
      have hll:=Ub f
      obtain ⟨g,c,hB,e0,hO⟩:=hS.blk
      refine Xi ⟨fun w'=>Fr [] w3 w',Drw.intro fun w4 f4 s4=>⟨_,rfl,?_⟩⟩
      have ldr:∀ {w'},Fr [] w3 w'→Ld Tryz.prog XF (.pointer (some ((⟨r,0,none⟩:Addr).add 0))) w' (.slice q rs.length c):=fun {w'} f=>by rw [Xg]; exact Ld.blk (by kernel_rfl) ((hB.fr0 f03).fr0 f) (by omega) e0
      have f04:=f03.then f4
      obtain ⟨gb,go,hx,_,_⟩:=XkW (hO.fr0 f04) rfl he
      have hlk:∀ {w'},Fr [] w3 w'→Ld Tryz.prog Xf (.pointer (some ((⟨gb,go,none⟩:Addr).add 1))) w' (.slice e.kp 16 e.kc):=fun {w'} f=>by
        obtain ⟨gb2,go2,hx2,_,hk2⟩:=XkW (hO.fr0 (f03.then f)) rfl he
        have:=hx.symm.trans hx2
        have ha:(⟨gb,go,none⟩:Addr)=⟨gb2,go2,none⟩:=by simpa using this
        rw [ha]; exact hk2
      refine ⟨_,_,_,⟨f4,fun w' hw'=>ldr hw'⟩,_,hx,_,_,_,⟨f4,fun w' hw'=>hlk hw'⟩,?_⟩
      refine Xni (n:=n) (by omega) (h3.fr0 f04) hl3 hb3 fun qn dn w5 f5 hO5=>⟨_,_,_,rfl,.inr (f4.then f5),?_⟩
      have f05:=f04.then f5
      obtain ⟨a1,a2,a3,a4⟩:=hS.ent e hem
      refine Xk0 (a1.fr0 f05) a2.symm a3 rfl (h2.fr0 f05) hl2 (hO3.fr0 (f4.then f5)).row rfl hO5.row rfl fun qs ds w6 f6 hO6=>⟨_,_,_,_,rfl,?_⟩
      have f06:=f05.then f6
      have ew:IntKind.u8.wrap (n:Int)=((UInt8.ofNat n).toNat:Int):=by rw [W0 (by omega) (by omega)]; simp; omega
      rw [ew]
      obtain ⟨S,hSS⟩:∃ S,S=slL e.key nonce (XN f) (UInt8.ofNat n::client):=⟨_,rfl⟩
      have hSl:=Xu8 e.key nonce (XN f) (UInt8.ofNat n::client)
      rw [← hSS] at hO6 hSl hk ⊢
      refine mk1 (x:=UInt8.ofNat n) fun p7 w7 f7 hO7 s7=>?_
      have f07:=f06.then f7
      refine XY (m:=l2) hO7 (by omega) (h2.fr0 f07) hl2 (by omega) fun p8 c8 w8 f8 hO8=>?_
      have f68:Fr [] w6 w8:=f7.trans f8 fun z hz=>.inr (hO7.2.2 z hz)
      refine XY (m:=S.length) hO8 (by have:=f68.size; omega) (hO6.fr0 f68).row rfl (by omega) fun p9 c9 w9 f9 hO9=>?_
      have f69:Fr [] w6 w9:=f68.trans f9 fun z hz=>.inr (hO8.2.2 z hz)
      have e1:[UInt8.ofNat n]++nonce++S=UInt8.ofNat n::(nonce++S):=by simp
      have e2:1+l2+S.length=(UInt8.ofNat n::(nonce++S)).length:=by rw [← e1]; exact hO9.2.1
      rw [e1,e2] at hO9
      rw [e2]
      exact hk p9 c9 w9 (f06.then f69) (hO9.mono f06.size)
  · rw [if_neg hs]
    exact Xd (fun _=>bad 17 w1 (by unfold XS; rw [if_pos hs]) (by omega) f1) fun hh=>by omega
theorem Xnj (hS:RefAt w r q rs lo) {p1 p2:Option Addr} {l1 c1 l2 c2 now:Nat} {client tok:List UInt8} (h1:Row w p1 (client.map vb)) (hl1:l1=client.length) (hb1:l1≤1000000)
    (h2:Row w p2 (tok.map vb)) (hl2:l2=tok.length) (hc2:l2≤c2) (hb2:l2≤900000)
    (hk:∀ u w',Fr [] w w'→TF.own w' u w.heap.size→u.ut (XA (rs.map RR.ke) client tok now).e=XA (rs.map RR.ke) client tok now→K (.tuple #[u.a,.int .i64 (XA (rs.map RR.ke) client tok now).e]) w') :
    Xa Tryz.prog Xpk #[.pointer (some ⟨r,0,none⟩),.slice p1 l1 c1,.slice p2 l2 c2,.int .u64 (now:Int)] w K:=by
  apply Xkn
  unfold Xkm
  refine XG (s:=3) (by kernel_rfl) fun w1 g1 f1 hB1 s1=>?_
  obtain ⟨k8,hk8⟩:∃ k,k=w.heap.size:=⟨_,rfl⟩
  rw [← hk8] at hB1 ⊢
  have bad:∀ (w':World) (e:Int),Fr [] w1 w'→XA (rs.map RR.ke) client tok now=.bad e→∃ w3,Sto Tryz.prog XE (.pointer (some ⟨k8,0,none⟩)) tf0.a w' w3∧∃ (a4:Addr) (v4:Value),(.pointer (some ⟨k8,0,none⟩):Value)=.pointer (some a4)∧(loadVar XE a4).run Tryz.prog w3=.ok v4 w3∧K (.tuple #[v4,.int .i64 e]) w3:=by
    intro w' e f' he
    refine XoD (hB1.fr0 f') tf0 fun w4 f4=>?_
    have:=hk tf0 w4 ((f1.then f').st f4 (by omega)) (Xgr _ _) (by rw [he]; rfl)
    rw [he] at this; exact this
  have ou:∀ e,YQ (rs.map RR.ke) client tok=e→e≠0→XA (rs.map RR.ke) client tok now=.bad e:=fun e he h0=>by unfold XA; rw [if_pos (by rw [he]; exact h0),he]
  refine Xd (fun h29=>bad w1 12 (Fr.refl _ _) (ou 12 (by unfold YQ; rw [if_pos (by omega)]) (by omega))) fun h29=>?_
  have hn29:¬ tok.length<29:=by omega
  obtain ⟨a,ha,hca⟩:=Xy (t:=Xf) (by kernel_rfl) (h2.fr0 f1) (c:=c2) hl2 (i:=0) (by omega) (k:=.i64)
  have h256:=(fl tok 0).toNat_lt
  refine ⟨_,ha,_,Ld.cell (by kernel_rfl) hca,?_⟩
  rw [Xe (by omega) (by show ((fl tok 0).toNat:Int)<_; omega)]
  have etk:(((tok.getD 0 0).toNat:Nat):Int)=(tk0 tok:Int):=rfl
  rw [etk]
  refine XaL (hS.fr0 f1) ⟨_,rfl,?_⟩
  unfold Uk
  by_cases hs:hasK (rs.map RR.ke) (tk0 tok:Int)
  · rw [if_pos hs]
    have hs':¬ ¬ hasK (rs.map RR.ke) (tk0 tok:Int):=fun hh=>hh hs
    refine Xd (fun hh=>by omega) fun _=>?_
    have b13:(64<client.length∨4096<tok.length)→∀ bb,bb=true→JF (some ⟨r,0,none⟩) p1 l1 c1 p2 l2 c2 (now:Int) ⟨k8,0,none⟩ 0 (Yz (rs.map RR.ke) (tk0 tok:Int):Int) bb w1 K:=fun hh bb hb=>by
      subst hb
      unfold JF
      exact Xl (bad w1 13 (Fr.refl _ _) (ou 13 (by unfold YQ; rw [if_neg hn29,if_neg hs',if_pos hh]) (by omega)))
    refine Xd (fun h64=>b13 (.inl (by omega)) true rfl) fun h64=>?_
    by_cases h4:(l2:Int) > 4096
    · rw [decide_eq_true h4]
      exact b13 (.inr (by omega)) true rfl
    rw [decide_eq_false h4]
    have hin:¬ (64<client.length∨4096<tok.length):=by omega
    unfold JF
    refine Xi ?_
    unfold XdQ
    obtain ⟨e,he,hes,hem,hkey⟩:=hS.sq hs
    obtain ⟨g,c,hB,e0,hO⟩:=hS.blk
    refine ⟨fun w'=>Fr [] w1 w',Drw.intro fun w2 f2 s2=>⟨_,rfl,?_⟩⟩
    have f02:=f1.then f2
    refine XkO (h2.fr0 f02) hl2 (a:=1) (b:=13) (by omega) (by omega) hc2 fun qa da hqa hla hda hba=>?_
    refine Wn (h2.fr0 f02) hl2 (n:=13) (by omega) hc2 fun qb db hqb hlb hdb hbb=>?_
    obtain ⟨a2,ha2,hca2⟩:=Xy (t:=Xf) (by kernel_rfl) (h2.fr0 f02) (c:=c2) hl2 (i:=0) (by omega) (k:=.i64)
    have ldr:∀ {w'},Fr [] w1 w'→Ld Tryz.prog XF (.pointer (some ((⟨r,0,none⟩:Addr).add 0))) w' (.slice q rs.length c):=fun {w'} f=>by rw [Xg]; exact Ld.blk (by kernel_rfl) ((hB.fr0 f1).fr0 f) (by omega) e0
    obtain ⟨gb,go,hx,_,_⟩:=XkW (hO.fr0 f02) rfl he
    have hlk:∀ {w'},Fr [] w1 w'→Ld Tryz.prog Xf (.pointer (some ((⟨gb,go,none⟩:Addr).add 1))) w' (.slice e.kp 16 e.kc):=fun {w'} f=>by
      obtain ⟨gb2,go2,hx2,_,hk2⟩:=XkW (hO.fr0 (f1.then f)) rfl he
      have:=hx.symm.trans hx2
      have ha:(⟨gb,go,none⟩:Addr)=⟨gb2,go2,none⟩:=by simpa using this
      rw [ha]; exact hk2
    refine ⟨_,ha2,_,_,_,⟨f2,fun w' hw'=>ldr hw'⟩,_,hx,_,_,_,⟨f2,fun w' hw'=>hlk hw'⟩,_,Ld.cell (by kernel_rfl) hca2,.inl rfl,?_⟩
    rw [Xe (by omega) (by show ((fl tok 0).toNat:Int)<_; omega),etk]
    refine Xni (n:=tk0 tok) h256 (h1.fr0 f02) hl1 hb1 fun qn dn w3 f3 hO3=>⟨_,_,_,rfl,.inr (f2.then f3),?_⟩
    have f03:=f02.then f3
    obtain ⟨a1,a2',a3,a4⟩:=hS.ent e hem
    refine Xk1 (a1.fr0 f03) a2'.symm a3 rfl (hqa.fr0 f3) hla (hqb.fr0 f3) hlb hdb (by omega) hO3.row rfl fun qo do_ w4 f4 hO4=>⟨_,_,_,_,rfl,?_⟩
    have f14:=(f2.then f3).then f4
    have eN:(tok.take 13).drop 1=tkN tok:=rfl
    have eS:tok.drop 13=tkS tok:=rfl
    rw [eN,eS,← hkey] at hO4
    rw [eN,eS,← hkey]
    by_cases h0:opE (Uz (rs.map RR.ke) (tk0 tok:Int)) (tkN tok) (tkS tok) (UInt8.ofNat (tk0 tok)::client)=0
    · have eE:YQ (rs.map RR.ke) client tok=0:=by unfold YQ; rw [if_neg hn29,if_neg hs',if_neg hin,if_neg (fun hh=>hh h0)]
      have eL:Jb (rs.map RR.ke) client tok=opL (Uz (rs.map RR.ke) (tk0 tok:Int)) (tkN tok) (tkS tok) (UInt8.ofNat (tk0 tok)::client):=by unfold Jb; rw [if_pos eE]
      have ule:=XsI (rs.map RR.ke) client tok
      rw [← eL] at hO4
      rw [h0,← eL]
      refine Xi (Xr3 hO4.row rfl hO4.cap (by omega) fun u w5 f5 hU5 hu=>⟨_,_,_,_,_,_,_,_,rfl,?_⟩)
      refine XyF u fun w6 f6 hT6=>?_
      have f46:=f5.then f6
      refine Xt (fun he=>?_) fun he=>?_
      · exact bad w6 _ (f14.then f46) (by unfold XA; rw [if_neg (fun hh=>hh eE),if_pos he])
      · refine ⟨_,hT6.ldE,?_⟩
        have hue:u.exp=(ZM (Jb (rs.map RR.ke) client tok)).exp:=by rw [← hu]; rfl
        refine Xd (fun hlt=>?_) fun hlt=>?_
        · exact bad w6 20 (f14.then f46) (by unfold XA; rw [if_neg (fun hh=>hh eE),if_neg (fun hh=>hh he),if_pos (by omega)])
        · have hok:XA (rs.map RR.ke) client tok now=ZM (Jb (rs.map RR.ke) client tok):=by unfold XA; rw [if_neg (fun hh=>hh eE),if_neg (fun hh=>hh he),if_neg (by omega)]
          refine ⟨_,_,_,_,_,_,_,hT6.ldG,?_⟩
          have hB6:=hB1.fr0 (f14.then f46)
          refine XoD hB6 u fun w7 f7=>?_
          have hkl:=hB1.lt
          have m4:=f14.size
          have hU7:TF.own w7 u w4.heap.size:=(hU5.fr0 f6).fr_sep f7 (by omega)
          have:=hk u w7 (((f1.then f14).then f46).st f7 (by omega)) (hU7.mono (f1.then f14).size) (by rw [hok,hu])
          rw [hok,he] at this
          exact this
    · have eE:YQ (rs.map RR.ke) client tok=13:=by unfold YQ; rw [if_neg hn29,if_neg hs',if_neg hin,if_pos h0]
      exact Xds h0 (bad w4 13 f14 (ou 13 eE (by omega)))
  · rw [if_neg hs]
    exact Xd (fun _=>bad w1 17 (Fr.refl _ _) (ou 17 (by unfold YQ; rw [if_neg hn29,if_pos hs]) (by omega))) fun hh=>by omega
end
end Go.Sh
end

section
namespace Go.Sh
open Go Go.Fw Go.Proofs
set_option maxRecDepth 100000
set_option linter.unusedVariables false
def hdL (to fr:List UInt8):List UInt8:=[255,0,0,0,1]++(UInt8.ofNat to.length::to)++(UInt8.ofNat fr.length::fr)
theorem Xgt (to fr:List UInt8):(hdL to fr).length=7+to.length+fr.length:=by simp [hdL]; omega
section
variable {w:World} {K:VWP}
theorem Xr4 {p0 p1:Option Addr} {c0 c1:Nat} {to fr:List UInt8} (h0:Row w p0 (to.map vb)) (hc0:to.length≤c0) (ht:to.length≤255) (h1:Row w p1 (fr.map vb)) (hc1:fr.length≤c1) (hr:fr.length≤255)
    (hk:∀ q d w',Fr [] w w'→OB w' q (hdL to fr).length d (hdL to fr) w.heap.size→K (.tuple #[.slice q (hdL to fr).length d,.int .i64 0]) w') :
    Xa Tryz.prog XgN #[.agg #[.int .u8 255,.int .u32 1,.slice p0 to.length c0,.slice p1 fr.length c1]] w K:=by
  apply XcW
  unfold Xav
  refine Y3 (t:=JG) [.int .u8 255,.int .u32 1,.slice p0 to.length c0,.slice p1 fr.length c1] fun w1 f1 hC1 s1=>?_
  obtain ⟨k1,hk1⟩:∃ k,k=w.heap.size:=⟨_,rfl⟩
  rw [← hk1] at hC1 ⊢
  refine ⟨_,hC1.get (by kernel_rfl) (j:=0) rfl,Xgs (by kernel_rfl) ?_⟩
  refine ⟨fun w'=>FrA w1.heap.size w1 w',Drw.intro fun w3 f3 s3=>?_⟩
  have hkl:=hC1.lt
  have keep:∀ {w'},FrA w1.heap.size w1 w'→CAt w' k1 [.int .u8 255,.int .u32 1,.slice p0 to.length c0,.slice p1 fr.length c1]:=fun hw=>hC1.frA hw hkl
  refine ⟨_,⟨FrA.of0 f3,fun w' hw'=>(keep hw').get (by kernel_rfl) (j:=0) rfl⟩,_,⟨FrA.of0 f3,fun w' hw'=>(keep hw').get (by kernel_rfl) (j:=1) rfl⟩,_,_,_,⟨FrA.of0 f3,fun w' hw'=>(keep hw').get (by kernel_rfl) (j:=2) rfl⟩,_,_,_,⟨FrA.of0 f3,fun w' hw'=>(keep hw').get (by kernel_rfl) (j:=3) rfl⟩,?_⟩
  have f03:=f1.then f3
  refine Xbf fun w4 f4 hW4 s4=>⟨_,rfl,.inr ((FrA.of0 f3).trans (FrA.of0 f4)),?_⟩
  obtain ⟨b,hb⟩:∃ b,b=w3.heap.size:=⟨_,rfl⟩
  rw [← hb] at hW4 ⊢
  have hb2:w1.heap.size≤b:=by have:=f3.size; omega
  have hq1:0<to.length→∀ z∈Xb p0,z<b:=XaK h0 (by have:=f03.size; omega)
  have hq2:0<fr.length→∀ z∈Xb p1,z<b:=XaK h1 (by have:=f03.size; omega)
  have e1:IntKind.u64.wrap 255=((255:Nat):Int):=by kernel_rfl
  have e2:IntKind.u64.wrap 1=((1:Nat):Int):=by kernel_rfl
  rw [e1,e2]
  refine Xgn (n:=255) (size:=1) hW4 (by omega) (by omega) (by simp) fun w5 f5 hW5=>⟨_,rfl,.inr (((FrA.of0 f3).trans (FrA.of0 f4)).trans (f5.mono hb2)),?_⟩
  have fa5:FrA b w3 w5:=(FrA.of0 f4).trans f5
  refine Xgn (n:=1) (size:=4) hW5 (by omega) (by omega) (by simp [Yb]) fun w6 f6 hW6=>⟨_,rfl,.inr ((FrA.of0 f3).trans ((fa5.trans f6).mono hb2)),?_⟩
  have fa6:=fa5.trans f6
  refine Wo hW6 (fa6.row (h0.fr0 f03) hq1) rfl hc0 ht hq1 (by simp [Yb]) fun w7 f7 hW7=>⟨_,rfl,.inr ((FrA.of0 f3).trans ((fa6.trans f7).mono hb2)),?_⟩
  have fa7:=fa6.trans f7
  refine Wo hW7 (fa7.row (h1.fr0 f03) hq2) rfl hc1 hr hq2 (by simp [Yb]; omega) fun w8 f8 hW8=>⟨_,rfl,?_⟩
  have fa8:=fa7.trans f8
  have eT:[]++XO 255 1++XO 1 4++UInt8.ofNat to.length::to++UInt8.ofNat fr.length::fr=hdL to fr:=by
    unfold hdL
    have:XO 255 1=[255]:=by decide
    rw [this,show XO 1 4=[0,0,0,1] by decide]; rfl
  rw [eT] at hW8
  have hll:=Xgt to fr
  have f08:Fr [] w w8:=fa8.news f03 (by have:=f03.size; omega)
  refine XiU hW8 (by omega) fun q d w9 f9 hO9=>⟨_,_,_,_,rfl,?_⟩
  exact hk q d w9 (f08.then f9) (hO9.mono f08.size)
theorem XtU {p0 p1:Option Addr} {c0 c1:Nat} {to fr:List UInt8} (h0:Row w p0 (to.map vb)) (ht:to.length≤255) (h1:Row w p1 (fr.map vb)) (hr:fr.length≤255)
    (hk:∀ q d w',Fr [] w w'→OB w' q (hdL to fr).length d (hdL to fr) w.heap.size→K (.tuple #[.slice q (hdL to fr).length d,.int .i64 0]) w') :
    Xa Tryz.prog XnE #[.agg #[.int .u8 255,.int .u32 1,.slice p0 to.length c0,.slice p1 fr.length c1]] w K:=by
  apply XiD
  unfold XhH
  refine Y3 (t:=Xe1) [.int .u8 255,.int .u32 1,.slice p0 to.length c0,.slice p1 fr.length c1] fun w1 f1 hC1 s1=>?_
  obtain ⟨k1,hk1⟩:∃ k,k=w.heap.size:=⟨_,rfl⟩
  rw [← hk1] at hC1 ⊢
  refine ⟨_,hC1.get (by kernel_rfl) (j:=0) rfl,Xgs (by kernel_rfl) ?_⟩
  refine ⟨_,_,_,hC1.get (by kernel_rfl) (j:=2) rfl,Xd (fun hh=>by omega) fun _=>?_⟩
  refine ⟨_,_,_,hC1.get (by kernel_rfl) (j:=3) rfl,Xd (fun hh=>by omega) fun _=>?_⟩
  unfold Xb0
  refine ⟨_,hC1.get (by kernel_rfl) (j:=0) rfl,_,hC1.get (by kernel_rfl) (j:=1) rfl,_,hC1.get (by kernel_rfl) (j:=1) rfl,_,hC1.get (by kernel_rfl) (j:=1) rfl,_,hC1.get (by kernel_rfl) (j:=1) rfl,?_⟩
  have ea:IntKind.u8.wrap (Int.fdiv 1 (2 ^ 24))=0:=by kernel_rfl
  have eb:IntKind.u8.wrap (Int.fdiv 1 (2 ^ 16))=0:=by kernel_rfl
  have ec:IntKind.u8.wrap (Int.fdiv 1 (2 ^ 8))=0:=by kernel_rfl
  have ed:IntKind.u8.wrap 1=1:=by kernel_rfl
  rw [ea,eb,ec,ed]
  refine mkL (n:=5) (xs:=[255,0,0,0,1]) rfl rfl (by kernel_rfl) fun p2 w2 f2 hO2 s2=>?_
  have f02:=f1.then f2
  have n02:=f02.size
  have hkl:=hC1.lt
  have hC2:=hC1.fr0 f2
  have keep:∀ {w'},FrA w1.heap.size w2 w'→CAt w' k1 [.int .u8 255,.int .u32 1,.slice p0 to.length c0,.slice p1 fr.length c1]:=fun hw=>hC2.frA hw hkl
  have n1:=f1.size
  refine ⟨fun w'=>FrA w1.heap.size w2 w',Drw.intro fun w3 f3 s3=>?_⟩
  refine ⟨_,_,_,⟨FrA.of0 f3,fun w' hw'=>(keep hw').get (by kernel_rfl) (j:=2) rfl⟩,_,_,_,⟨FrA.of0 f3,fun w' hw'=>(keep hw').get (by kernel_rfl) (j:=2) rfl⟩,?_⟩
  have et:IntKind.u8.wrap ((to.length:Nat):Int)=((UInt8.ofNat to.length).toNat:Int):=XkH (by omega)
  have er:IntKind.u8.wrap ((fr.length:Nat):Int)=((UInt8.ofNat fr.length).toNat:Int):=XkH (by omega)
  rw [et]
  have hO3:=hO2.fr0 f3
  refine mkL (n:=1) (xs:=[UInt8.ofNat to.length]) rfl rfl (by kernel_rfl) fun p4 w4 f4 hO4 s4=>⟨.inr ((FrA.of0 f3).trans (FrA.of0 f4)),?_⟩
  have hO34:=hO3.fr0 f4
  have n3:=f3.size; have n4:=f4.size
  refine XY (m:=1) hO34 (by omega) hO4.row rfl (by omega) fun p5 c5 w5 f5 hO5=>?_
  have fa5:FrA w1.heap.size w2 w5:=((FrA.of0 f3).trans (FrA.of0 f4)).trans (FrA.of f5 fun z hz=>hO2.2.2 z hz)
  refine ⟨.inr fa5,?_⟩
  have k05:Fr [] w w5:=fa5.news f02 (by omega)
  have n5:=f5.size
  refine XY hO5 (by omega) (h0.fr0 k05) rfl (by omega) fun p6 c6 w6 f6 hO6=>?_
  have fa6:FrA w1.heap.size w2 w6:=fa5.trans (FrA.of f6 fun z hz=>hO5.2.2 z hz)
  have n6:=f6.size
  refine ⟨fun w'=>FrA w1.heap.size w2 w',Drw.intro fun w7 f7 s7=>?_⟩
  have fa7:=fa6.trans (FrA.of0 f7)
  refine ⟨_,_,_,⟨fa7,fun w' hw'=>(keep hw').get (by kernel_rfl) (j:=3) rfl⟩,_,_,_,⟨fa7,fun w' hw'=>(keep hw').get (by kernel_rfl) (j:=3) rfl⟩,?_⟩
  rw [er]
  refine mkL (n:=1) (xs:=[UInt8.ofNat fr.length]) rfl rfl (by kernel_rfl) fun p8 w8 f8 hO8 s8=>⟨.inr (fa7.trans (FrA.of0 f8)),?_⟩
  have n7:=f7.size; have n8:=f8.size
  refine XY (m:=1) ((hO6.fr0 f7).fr0 f8) (by omega) hO8.row rfl (by omega) fun p9 c9 w9 f9 hO9=>?_
  have fa9:=(fa7.trans (FrA.of0 f8)).trans (FrA.of f9 fun z hz=>hO6.2.2 z hz)
  refine ⟨.inr fa9,?_⟩
  have k09:Fr [] w w9:=fa9.news f02 (by omega)
  have n9:=f9.size
  refine XY hO9 (by omega) (h1.fr0 k09) rfl (by omega) fun p10 c10 w10 f10 hO10=>?_
  have fa10:=fa9.trans (FrA.of f10 fun z hz=>hO9.2.2 z hz)
  have eT:[255,0,0,0,1]++[UInt8.ofNat to.length]++to++[UInt8.ofNat fr.length]++fr=hdL to fr:=by simp [hdL]
  have hll:(hdL to fr).length=5+1+to.length+1+fr.length:=by rw [Xgt]; omega
  rw [eT,← hll] at hO10
  rw [← hll]
  exact hk p10 c10 w10 (fa10.news f02 (by omega)) (hO10.mono (by omega))
theorem XtV {b:List UInt8} (h:(fl b 0).toNat+1≤b.length):Xp (0,b)=((b.drop 1).take (fl b 0).toNat,(0,b.drop ((fl b 0).toNat+1))):=by
  unfold Xp; rw [if_pos ⟨rfl,h⟩]
end
end Go.Sh
end

section
namespace Go.Sh
open Go Go.Fw Go.Proofs
set_option maxRecDepth 100000
set_option linter.unusedVariables false
theorem XsL (x:List UInt8):JT (0,x)=(x,(0,[])):=by unfold JT; rw [if_pos rfl]
theorem XsM {k:Nat} {x:List UInt8} (h:k≤x.length):XR k (0,x)=(Xm (x.take k),(0,x.drop k)):=by unfold XR; rw [if_pos ⟨rfl,h⟩]
theorem Xv8 {b:List UInt8} (h5:5≤b.length):hd1 b=((fl b 0).toNat,(0,b.drop 1))∧hd2 b=(Xm ((b.drop 1).take 4),(0,b.drop 5))∧hd3 b=Xp (0,b.drop 5):=by
  have e1:hd1 b=((fl b 0).toNat,(0,b.drop 1)):=by unfold hd1; rw [XsM (by omega),Xdi (by omega)]
  have e2:hd2 b=(Xm ((b.drop 1).take 4),(0,b.drop 5)):=by
    unfold hd2; rw [e1]
    show XR 4 (0,b.drop 1)=_
    rw [XsM (by rw [List.length_drop]; omega),List.drop_drop]
  exact ⟨e1,e2,by unfold hd3; rw [e2]⟩
theorem XyG {b r:List UInt8} (h5:5≤b.length) (h128:128≤(fl b 0).toNat) (h3:(Xp (0,b.drop 5)).2.1=0) (hr:r=(Xp (0,b.drop 5)).2.2) (h4:(Xp (0,r)).2.1=0) :
    hdP b=⟨0,(fl b 0).toNat,Xm ((b.drop 1).take 4),(Xp (0,b.drop 5)).1,(Xp (0,r)).1,(Xp (0,r)).2.2⟩:=by
  obtain ⟨e1,e2,e3⟩:=Xv8 h5
  have e4:(hd3 b).2=(0,r):=by rw [e3,hr]; exact Prod.ext h3 rfl
  have h4':hd4 b=Xp (0,r):=by unfold hd4; rw [e4]
  have h4'':(hd4 b).2=(0,(Xp (0,r)).2.2):=by rw [h4']; exact Prod.ext h4 rfl
  have h5':hd5 b=((Xp (0,r)).2.2,(0,[])):=by unfold hd5; rw [h4'']; exact XsL _
  unfold hdP
  rw [if_neg (fun hh=>by omega),h5',if_neg (fun hh=>hh rfl),e1,e2,e3,h4']
section
variable {w:World} {K:VWP}
end
end Go.Sh
end

section
namespace Go.Sh
open Go Go.Fw Go.Proofs
set_option maxRecDepth 100000
set_option linter.unusedVariables false
theorem Xr5 (key from_ text:List UInt8):Vk key from_ (Vk key from_ text)=text:=by
  unfold Vk
  rw [YE (UU _ _ _)]
  exact Xtn (UU _ _ _)
end Go.Sh
end

section
namespace Go.Sh
open Go Go.Fw Go.Proofs
set_option maxRecDepth 100000
set_option linter.unusedVariables false
def z12:List UInt8:=List.replicate 12 0
theorem Xzi:XtG z16=0x66e94bd4ef8a2c3b884cfa59ca342b2e:=by
  have:List.replicate 16 (0:UInt8)=z16:=rfl
  unfold XtG; rw [this,Xv2]; decide +kernel
theorem Xv9 {a b c:List UInt8} (h1:a.length=c.length) (h2:b.length=c.length) (h:Vj a c=Vj b c):a=b:=by
  refine Xcd (by omega) fun j hj=>?_
  have e1:=J9 h1 (i:=j) (by omega)
  have e2:=J9 h2 (i:=j) (by omega)
  rw [h,e2] at e1
  have e3:=congrArg (fun x=>x ^^^ c.getD j 0) e1
  simp only [UInt8.xor_assoc,UInt8.xor_self,UInt8.xor_zero] at e3
  exact e3.symm
section
variable {w:World} {K:VWP}
theorem Xzj {w1 w2:World} {lo hi:Nat} (f:Fr [] w w1) (h:Fr (rg lo hi) w1 w2) (hlo:w.heap.size≤lo):Fr [] w w2:=f.trans h fun x hx=>.inr (Nat.le_trans hlo (Vn.1 hx).1)
theorem OB.sp {p:Option Addr} {l c:Nat} {xs:List UInt8} {lo lo0 hi:Nat} (h:OB w p l c xs lo0) (h1:hi≤lo0):Go.Sh.sp lo hi p xs:=.inr fun k hk=>.inr (Nat.le_trans h1 (h.2.2 k hk))
theorem Xvc (w:World):Row w none (([]:List UInt8).map vb):=.inl rfl
end
end Go.Sh
end

section
namespace Go.Sh
open Go Go.Fw Go.Proofs
set_option maxRecDepth 100000
set_option linter.unusedVariables false
section
variable {w:World} {K:VWP} {p0 p1 p2 p3:Option Addr} {l0 c0 l1 c1 l2 c2 l3 c3:Nat} {key nonce text note:List UInt8}
theorem XqO (hok:okG nonce.length [text,note]):opE key nonce (slL key nonce text note) note=0∧opL key nonce (slL key nonce text note) note=text∧(slL key nonce text note).length=text.length+16:=by
  have e:slL key nonce text note=XK key nonce text++Yn key nonce (XK key nonce text) note:=by unfold slL; rw [if_pos hok]
  have el:(slL key nonce text note).length=text.length+16:=by rw [e,List.length_append,Yi,Yy]
  have et:(slL key nonce text note).take ((slL key nonce text note).length - 16)=XK key nonce text:=by
    rw [el,Nat.add_sub_cancel,e,← Yi key nonce text,List.take_left']; rfl
  have ed:(slL key nonce text note).drop ((slL key nonce text note).length - 16)=Yn key nonce (XK key nonce text) note:=by
    rw [el,Nat.add_sub_cancel,e,← Yi key nonce text,List.drop_left']; rfl
  have h0:opE key nonce (slL key nonce text note) note=0:=by
    unfold opE
    rw [et,ed,if_pos (by rw [YP,Yi]; exact YP.1 hok),if_neg (by omega),if_pos rfl]
  refine ⟨h0,?_,el⟩
  unfold opL
  rw [if_pos h0,et]
  unfold XK; rw [Xr5]
end
end Go.Sh
end

section
namespace Go.Sh
open Go Go.Fw Go.Proofs
set_option maxRecDepth 100000
set_option linter.unusedVariables false
def stKs:List UInt8:=[98,101,48,99,54,57,48,98,57,102,54,54,53,55,53,97,49,100,55,54,54,98,53,52,101,51,54,56,99,56,52,101]
def stNs:List UInt8:=[52,54,49,53,57,57,100,51,53,100,54,51,50,98,102,50,50,51,57,56,50,53,98,98]
def stK:List UInt8:=[190,12,105,11,159,102,87,90,29,118,107,84,227,104,200,78]
def stN:List UInt8:=[70,21,153,211,93,99,43,242,35,152,37,187]
theorem Xvd:Zx stKs=stK:=by kernel_rfl
theorem Xve:Zx stNs=stN:=by kernel_rfl
theorem XqP:∀ x∈stKs,YR x<16:=by
  have:stKs.all (fun x=>decide (YR x<16))=true:=by kernel_rfl
  exact fun x hx=>of_decide_eq_true (List.all_eq_true.1 this x hx)
theorem XqQ:∀ x∈stNs,YR x<16:=by
  have:stNs.all (fun x=>decide (YR x<16))=true:=by kernel_rfl
  exact fun x hx=>of_decide_eq_true (List.all_eq_true.1 this x hx)
def Jp (id ahead:List UInt8):List UInt8:=UInt8.ofNat id.length::(id++ahead)
def stE (id ahead:List UInt8):Int:=if 20<id.length then 15 else if 65000<ahead.length then 11 else 0
def stL (id ahead:List UInt8):List UInt8:=if stE id ahead=0 then slL stK stN [] (Jp id ahead) else []
theorem Xdt (id ahead:List UInt8):(Jp id ahead).length=1+id.length+ahead.length:=by simp [Jp]; omega
theorem XyH {id ahead:List UInt8} (h:stE id ahead=0):id.length≤20∧ahead.length≤65000:=by
  unfold stE at h
  split at h
  · omega
  · split at h <;> omega
theorem Xgd {id ahead:List UInt8} (h1:id.length≤20) (h2:ahead.length≤65000):stE id ahead=0:=by unfold stE; rw [if_neg (by omega),if_neg (by omega)]
theorem Xvf {id ahead:List UInt8} (h1:id.length≤20) (h2:ahead.length≤65000):tgE stN [] (Jp id ahead)=0:=by
  unfold tgE
  rw [if_pos (show okG stN.length [[],Jp id ahead] from YP.2 ⟨rfl,by show 0≤65535; omega,by rw [Xdt]; omega⟩)]
theorem XqR {id ahead:List UInt8} (h1:id.length≤20) (h2:ahead.length≤65000):stL id ahead=slL stK stN [] (Jp id ahead):=by unfold stL; rw [if_pos (Xgd h1 h2)]
theorem Qe {id ahead:List UInt8} (h1:id.length≤20) (h2:ahead.length≤65000):(stL id ahead).length=16:=by
  rw [XqR h1 h2]
  unfold slL
  rw [if_pos (show okG stN.length [[],Jp id ahead] from YP.2 ⟨rfl,by show 0≤65535; omega,by rw [Xdt]; omega⟩),List.length_append,Yi,Yy]; rfl
section
variable {w:World} {K:VWP}
theorem Xbl {p:Option Addr} {l c:Nat} {rs:List (List UInt8)} (hR:RowB w p rs) (hl:l=rs.length) (hl2:l≤1000) (hbad:(∃ r∈rs,20<r.length)→K (.bool true) w) (hok:(∀ r∈rs,r.length≤20)→K (.bool false) w) :
    Xa Tryz.prog Xpc #[.slice p l c] w K:=by
  apply Xkw
  unfold Xkv
  refine LoopS.ind (fun k us w'=>w'=w∧∃ i:Nat,i+k=l∧us=[.bool false,.slice p l c,.int .i64 (l:Int),.int .i64 (i:Int)]∧∀ j,j<i→(rs.getD j []).length≤20) l ⟨rfl,0,by omega,rfl,by omega⟩ ?_
  rintro k us r w2 I μ hgo ⟨rfl,i,hi,rfl,hs⟩
  refine ⟨_,_,_,_,_,_,rfl,Xd (fun h3=>?_) (fun h3=>?_)⟩
  · have hil:i<l:=by omega
    obtain ⟨a,q,d,ha,hca,hq,_⟩:=QK (t:=Xu) (by kernel_rfl) hR (c:=c) hl hil (k:=.i64)
    have hm:rs.getD i []∈rs:=by
      rw [List.getD_eq_getElem?_getD,List.getElem?_eq_getElem (by omega)]; exact List.getElem_mem _
    refine ⟨a,ha,_,_,_,Ld.cell (by kernel_rfl) hca,Xd (fun h4=>hbad ⟨_,hm,by omega⟩) fun h4=>?_⟩
    rw [Xe (by omega) (by omega)]
    refine hgo _ _ _ (k - 1) (by omega) ⟨rfl,i+1,by omega,rfl,fun j hj=>?_⟩
    by_cases hji:j=i
    · subst hji; omega
    · exact hs j (by omega)
  · refine hok fun r hr=>?_
    obtain ⟨j,hj,rfl⟩:=List.getElem_of_mem hr
    have:=hs j (by omega)
    rw [List.getD_eq_getElem?_getD,List.getElem?_eq_getElem hj] at this
    simpa using this
theorem Xge {p0 p1:Option Addr} {l0 c0 l1 c1:Nat} {id ahead:List UInt8} (h0:Row w p0 (id.map vb)) (hl0:l0=id.length) (hc0:l0≤c0) (h1:Row w p1 (ahead.map vb)) (hl1:l1=ahead.length) (hc1:l1≤c1)
    (hk:∀ q d w',Fr [] w w'→OB w' q (stL id ahead).length d (stL id ahead) w.heap.size→K (.tuple #[.slice q (stL id ahead).length d,.int .i64 (stE id ahead)]) w') :
    Xa Tryz.prog Xnt #[.slice p0 l0 c0,.slice p1 l1 c1] w K:=by
  apply XiG
  unfold XhK
  have bad:∀ (e:Int) w',stE id ahead=e→e≠0→Fr [] w w'→K (.tuple #[.slice none 0 0,.int .i64 e]) w':=by
    intro e w' he h0 f'
    have h1:stL id ahead=[]:=by unfold stL; rw [if_neg (by rw [he]; exact h0)]
    have:=hk none 0 w' f'
    rw [h1,he] at this
    exact this (OB.nil _ _)
  refine ⟨_,_,_,Ef.new (v:=.slice (some ⟨w.heap.size,0,none⟩) 1 1) (cs:=([.slice p0 l0 c0]:List Value).toArray) (e:=Xf) (by kernel_rfl) fun w1 f1 hB1 s1=>?_⟩
  refine Xbl (RowB.of1 hB1.rowL (byS (h0.fr0 f1) hl0 hc0)) rfl (by omega) (fun ⟨r,hr,hlr⟩=>⟨_,rfl,Xl (bad 15 w1 ?_ (by omega) f1)⟩) fun hr=>⟨_,rfl,Xi ?_⟩
  · have:r=id:=by simpa using hr
    rw [this] at hlr
    unfold stE; rw [if_pos hlr]
  have hid:id.length≤20:=hr id (by simp)
  refine Xd (fun hh=>bad 11 w1 (by unfold stE; rw [if_neg (by omega),if_pos (by omega)]) (by omega) f1) fun hh=>?_
  have hah:ahead.length≤65000:=by omega
  rw [Xgd hid hah,XqR hid hah] at hk
  unfold Xb2
  refine Xk3 (xs:=stKs) (m:=16) rfl (by omega) XqP fun q2 d2 w2 f2 hO2=>⟨_,_,_,_,rfl,?_⟩
  rw [Xvd] at hO2
  refine Xk3 (xs:=stNs) (m:=12) rfl (by omega) XqQ fun q3 d3 w3 f3 hO3=>⟨_,_,_,_,rfl,?_⟩
  rw [Xve] at hO3
  have hK3:=hO2.fr0 f3
  refine XqC hK3.row rfl hK3.cap (fun h16=>absurd rfl h16) fun _ b w4 f4 hX4=>⟨_,_,rfl,?_⟩
  have f04:=((f1.then f2).then f3).then f4
  refine Xbf fun w5 f5 hW5 s5=>⟨_,rfl,?_⟩
  obtain ⟨r,hr⟩:∃ r,r=w4.heap.size:=⟨_,rfl⟩
  rw [← hr] at hW5 ⊢
  have f05:=f04.then f5
  have n4:=f04.size
  have hq0:0<id.length→∀ z∈Xb p0,z<r:=XaK h0 (by omega)
  have hq1:0<ahead.length→∀ z∈Xb p1,z<r:=XaK h1 (by omega)
  have hq3:0<stN.length→∀ z∈Xb q3,z<r:=XaK (hO3.fr0 f4).row (by omega)
  refine Wo hW5 (h0.fr0 f05) hl0 hc0 (by omega) hq0 (by simp) fun w6 f6 hW6=>⟨_,rfl,?_⟩
  have h16:=f6.row (h1.fr0 f05) hq1
  refine ⟨_,_,_,Ef.new (v:=.slice (some ⟨w6.heap.size,0,none⟩) 1 1) (cs:=([.slice p1 l1 c1]:List Value).toArray) (e:=Xf) (by kernel_rfl) fun w7 f7 hB7 s7=>?_⟩
  have hRB:=RowB.of1 hB7.rowL (byS (h16.fr0 f7) hl1 hc1)
  have ef:[ahead].flatten=ahead:=by simp
  refine Xm6 (m:=1) (hW6.fr0 f7) hRB rfl (by omega) (by simp; omega) (by rw [ef]; omega) fun w8 f8 hW8=>⟨_,rfl,?_⟩
  have eN:[]++UInt8.ofNat id.length::id++[ahead].flatten=Jp id ahead:=by rw [ef]; simp [Jp]
  rw [eN] at hW8
  have hnl:=Xdt id ahead
  refine XiU hW8 (by omega) fun q9 d9 w9 f9 hO9=>⟨_,_,_,_,rfl,?_⟩
  have fa9:FrA r w5 w9:=((f6.trans (FrA.of0 f7)).trans f8).trans (FrA.of0 f9)
  have hN9:=fa9.row ((hO3.fr0 f4).fr0 f5).row hq3
  have hX9:BoxAt w9 b stK 0 1 w3.heap.size w4.heap.size:=by
    obtain ⟨L,hL,hf⟩:=fa9
    exact (hX4.fr0 f5).fr hf fun z hz=>.inr (by have:=hL z hz; omega)
  have f09:=fa9.news f05 (by omega)
  have n9:=fa9.size
  have n5:=f5.size
  refine XsB (nonce:=stN) (text:=[]) (note:=Jp id ahead) hX9 (by omega) hN9 rfl hO3.cap (by show 12≤1000000; omega) (Xvc _) rfl (by omega) hO9.row rfl hO9.cap (.inr fun k hk'=>by have:=hO9.2.2 k hk'; have:=(f6.trans (FrA.of0 f7)).trans f8 |>.size; omega) fun qs ds w10 f10 hX10 hO10=>⟨_,_,_,_,rfl,?_⟩
  rw [Xvf hid hah]
  have n3:=((f1.then f2).then f3).size
  exact hk qs ds w10 (Xzj f09 f10 n3) (hO10.mono f09.size)
def rtE (to fr id tok:List UInt8):Int:=if 20<to.length∨20<fr.length∨20<id.length then 15 else if tok.length<1∨4096<tok.length then 11 else 0
def rtH (to fr tok:List UInt8):List UInt8:=hdL to fr++tok
def rtL (to fr id tok:List UInt8):List UInt8:=if rtE to fr id tok=0 then rtH to fr tok++stL id (rtH to fr tok) else []
theorem VT (to fr tok:List UInt8):(rtH to fr tok).length=7+to.length+fr.length+tok.length:=by simp [rtH,Xgt]
theorem Xr6 {p0 p1 p2 p3:Option Addr} {l0 c0 l1 c1 l2 c2 l3 c3:Nat} {to fr id tok:List UInt8} (h0:Row w p0 (to.map vb)) (hl0:l0=to.length) (hc0:l0≤c0) (h1:Row w p1 (fr.map vb)) (hl1:l1=fr.length) (hc1:l1≤c1)
    (h2:Row w p2 (id.map vb)) (hl2:l2=id.length) (hc2:l2≤c2) (h3:Row w p3 (tok.map vb)) (hl3:l3=tok.length) (hc3:l3≤c3)
    (hk:∀ q d w',Fr [] w w'→OB w' q (rtL to fr id tok).length d (rtL to fr id tok) w.heap.size→K (.tuple #[.slice q (rtL to fr id tok).length d,.int .i64 (rtE to fr id tok)]) w') :
    Xa Tryz.prog Xpi #[.slice p0 l0 c0,.slice p1 l1 c1,.slice p2 l2 c2,.slice p3 l3 c3] w K:=by
  apply Xky
  unfold Xkx
  have bad:∀ (e:Int) w',rtE to fr id tok=e→e≠0→Fr [] w w'→K (.tuple #[.slice none 0 0,.int .i64 e]) w':=by
    intro e w' he h0 f'
    have h1:rtL to fr id tok=[]:=by unfold rtL; rw [if_neg (by rw [he]; exact h0)]
    have:=hk none 0 w' f'
    rw [h1,he] at this
    exact this (OB.nil _ _)
  refine ⟨_,_,_,Ef.new (v:=.slice (some ⟨w.heap.size,0,none⟩) 3 3) (cs:=([.slice p0 l0 c0,.slice p1 l1 c1,.slice p2 l2 c2]:List Value).toArray) (e:=Xf) (by kernel_rfl) fun w1 f1 hB1 s1=>?_⟩
  refine Xbl (RowB.of3 hB1.rowL (byS (h0.fr0 f1) hl0 hc0) (byS (h1.fr0 f1) hl1 hc1) (byS (h2.fr0 f1) hl2 hc2)) rfl (by omega) (fun ⟨r,hr,hlr⟩=>⟨_,rfl,Xl (bad 15 w1 ?_ (by omega) f1)⟩) fun hr=>⟨_,rfl,Xi ?_⟩
  · have : 20 < to.length ∨ 20 < fr.length ∨ 20 < id.length := by
      simp only [List.mem_cons,List.not_mem_nil,or_false] at hr
      rcases hr with rfl | rfl | rfl
      · exact .inl hlr
      · exact .inr (.inl hlr)
      · exact .inr (.inr hlr)
    unfold rtE; rw [if_pos this]
  have ht:=hr to (by simp)
  have hf:=hr fr (by simp)
  have hi:=hr id (by simp)
  have hno:¬ (20<to.length∨20<fr.length∨20<id.length):=by omega
  refine Xd (fun hh=>bad 11 w1 (by unfold rtE; rw [if_neg hno,if_pos (.inl (by omega))]) (by omega) f1) fun hh1=>?_
  refine Xd (fun hh=>bad 11 w1 (by unfold rtE; rw [if_neg hno,if_pos (.inr (by omega))]) (by omega) f1) fun hh2=>?_
  have eE:rtE to fr id tok=0:=by unfold rtE; rw [if_neg hno,if_neg (by omega)]
  have eL:rtL to fr id tok=rtH to fr tok++stL id (rtH to fr tok):=by unfold rtL; rw [if_pos eE]
  rw [eE,eL] at hk
  have hHl:=VT to fr tok
  unfold XdT
  subst hl0; subst hl1
  refine Xr4 (h0.fr0 f1) hc0 (by omega) (h1.fr0 f1) hc1 (by omega) fun q2 d2 w2 f2 hO2=>⟨_,_,_,_,rfl,?_⟩
  have f02:=f1.then f2
  refine ⟨_,_,_,Ef.new (v:=.slice (some ⟨w2.heap.size,0,none⟩) 2 2) (cs:=([.slice q2 (hdL to fr).length d2,.slice p3 l3 c3]:List Value).toArray) (e:=Xf) (by kernel_rfl) fun w3 f3 hB3 s3=>?_⟩
  have hR3:=RowB.of2 hB3.rowL ((hO2.fr0 f3).byS) (byS ((h3.fr0 f02).fr0 f3) hl3 hc3)
  have efl:[hdL to fr,tok].flatten=rtH to fr tok:=by simp [rtH]
  refine Ua (l:=2) hR3 rfl (by rw [efl]; omega) (by omega) fun q4 d4 w4 f4 hO4=>⟨_,_,_,rfl,?_⟩
  rw [efl] at hO4
  rw [efl]
  have f04:=(f02.then f3).then f4
  refine Xge (h2.fr0 f04) hl2 hc2 hO4.row rfl hO4.cap fun q5 d5 w5 f5 hO5=>⟨_,_,_,_,rfl,?_⟩
  obtain ⟨S,hS⟩:∃ S,S=stL id (rtH to fr tok):=⟨_,rfl⟩
  have hSl:S.length=16:=by rw [hS]; exact Qe hi (by omega)
  rw [← hS] at hO5 hk ⊢
  refine ⟨_,_,_,Ef.new (v:=.slice (some ⟨w5.heap.size,0,none⟩) 2 2) (cs:=([.slice q4 (rtH to fr tok).length d4,.slice q5 S.length d5]:List Value).toArray) (e:=Xf) (by kernel_rfl) fun w6 f6 hB6 s6=>?_⟩
  have hR6:=RowB.of2 hB6.rowL (((hO4.fr0 f5).fr0 f6).byS) ((hO5.fr0 f6).byS)
  have efl2:[rtH to fr tok,S].flatten=rtH to fr tok++S:=by simp
  refine Ua (l:=2) hR6 rfl (by rw [efl2,List.length_append]; omega) (by omega) fun q7 d7 w7 f7 hO7=>⟨_,_,_,rfl,?_⟩
  rw [efl2] at hO7
  rw [efl2]
  have f06:=(f04.then f5).then f6
  exact hk q7 d7 w7 (f06.then f7) (hO7.mono f06.size)
end
end Go.Sh
end

section
namespace Go.Sh
open Go Go.Fw Go.Proofs
set_option maxRecDepth 100000
set_option linter.unusedVariables false
structure RT where
  h:HF
  tok:List UInt8
  st:List UInt8
  p3:Option Addr
  c3:Nat
  p4:Option Addr
  c4:Nat
def RT.v (f:RT):List Value:=[.int .u8 (f.h.fi:Int),.int .u32 (f.h.ve:Int),.slice f.h.p1 f.h.to.length f.h.c1,.slice f.h.p2 f.h.fr.length f.h.c2,.slice f.p3 f.tok.length f.c3,.slice f.p4 f.st.length f.c4]
def RT.a (f:RT):Value:=.agg #[.int .u8 (f.h.fi:Int),.int .u32 (f.h.ve:Int),.slice f.h.p1 f.h.to.length f.h.c1,.slice f.h.p2 f.h.fr.length f.h.c2,.slice f.p3 f.tok.length f.c3,.slice f.p4 f.st.length f.c4]
structure RT.ok (w:World) (f:RT):Prop where
  h:HF.ok w f.h
  r3:Row w f.p3 (f.tok.map vb)
  h3:f.tok.length≤f.c3
  r4:Row w f.p4 (f.st.map vb)
  h4:f.st.length≤f.c4
structure RT.own (w:World) (f:RT) (lo:Nat):Prop where
  h:HF.own w f.h lo
  o3:OB w f.p3 f.tok.length f.c3 f.tok lo
  o4:OB w f.p4 f.st.length f.c4 f.st lo
theorem RT.own.ok {w:World} {f:RT} {lo:Nat} (h:RT.own w f lo):RT.ok w f:=⟨h.h.ok,h.o3.row,h.o3.cap,h.o4.row,h.o4.cap⟩
theorem RT.ok.fr0 {w w':World} {f:RT} (h:RT.ok w f) (hf:Fr [] w w'):RT.ok w' f:=⟨h.h.fr0 hf,h.r3.fr0 hf,h.h3,h.r4.fr0 hf,h.h4⟩
theorem RT.own.fr0 {w w':World} {f:RT} {lo:Nat} (h:RT.own w f lo) (hf:Fr [] w w'):RT.own w' f lo:=⟨h.h.fr0 hf,h.o3.fr0 hf,h.o4.fr0 hf⟩
theorem RT.own.mono {w:World} {f:RT} {lo lo':Nat} (h:RT.own w f lo) (hl:lo'≤lo):RT.own w f lo':=⟨h.h.mono hl,h.o3.mono hl,h.o4.mono hl⟩
theorem RT.own.fr_sep {w w':World} {f:RT} {lo b:Nat} (h:RT.own w f lo) (hf:Fr [b] w w') (hl:b<lo):RT.own w' f lo:=⟨h.h.fr_sep hf hl,h.o3.fr_sep hf hl,h.o4.fr_sep hf hl⟩
def rt0:RT:=⟨hf0,[],[],none,0,none,0⟩
theorem XxC (w:World) (lo:Nat):RT.own w rt0 lo:=⟨XsJ _ _,OB.nil _ _,OB.nil _ _⟩
structure SU where
  e:Int
  fi:Nat
  ve:Nat
  to:List UInt8
  fr:List UInt8
  tok:List UInt8
  st:List UInt8
def SU.bad (e:Int):SU:=⟨e,0,0,[],[],[],[]⟩
def RT.su (f:RT) (e:Int):SU:=⟨e,f.h.fi,f.h.ve,f.h.to,f.h.fr,f.tok,f.st⟩
def stP (b:List UInt8):SU:=
  if (hdP b).e≠0 then .bad (hdP b).e else if (hdP b).ve≠1∨Xbk (hdP b).fi≠3 then .bad 14 else if 20<(hdP b).to.length∨20<(hdP b).fr.length then .bad 15
  else if (hdP b).rest.length≤16 then .bad 12
  else ⟨0,(hdP b).fi,(hdP b).ve,(hdP b).to,(hdP b).fr,(hdP b).rest.take ((hdP b).rest.length - 16),(hdP b).rest.drop ((hdP b).rest.length - 16)⟩
theorem Xvg (s:Int×List UInt8):(JT s).1.length≤s.2.length:=by unfold JT; split <;> simp
theorem XqS (b:List UInt8):(hdP b).rest.length≤b.length:=by
  unfold hdP
  split
  · simp [HU.bad]
  · split
    · simp [HU.bad]
    · show (hd5 b).1.length≤_
      have n1:(hd1 b).2.2.length≤b.length:=VS 1 (0,b)
      have n2:(hd2 b).2.2.length≤(hd1 b).2.2.length:=VS 4 _
      have n3:(hd3 b).2.2.length≤(hd2 b).2.2.length:=(Ul _).1
      have n4:(hd4 b).2.2.length≤(hd3 b).2.2.length:=(Ul _).1
      have n5:(hd5 b).1.length≤(hd4 b).2.2.length:=Xvg _
      omega
theorem HF.hu_eq {u:HF} {e:Int} {rest b:List UInt8} (h:u.hu e rest=hdP b):u.fi=(hdP b).fi∧u.ve=(hdP b).ve∧u.to=(hdP b).to∧u.fr=(hdP b).fr:=by
  rw [← h]; exact ⟨rfl,rfl,rfl,rfl⟩
section
variable {w:World} {K:VWP}
theorem QO {p:Option Addr} {l c:Nat} {b:List UInt8} (hR:Row w p (b.map vb)) (hl:l=b.length) (hc:l≤c) (hlb:b.length≤1000000)
    (hk:∀ u w',Fr [] w w'→RT.own w' u w.heap.size→u.su (stP b).e=stP b→K (.tuple #[u.a,.int .i64 (stP b).e]) w') :
    Xa Tryz.prog Xnr #[.slice p l c] w K:=by
  apply XiE
  unfold XhI
  refine XG (s:=6) (by kernel_rfl) fun w1 g1 f1 hB1 s1=>?_
  obtain ⟨k2,hk2⟩:∃ k,k=w.heap.size:=⟨_,rfl⟩
  rw [← hk2] at hB1 ⊢
  have bad:∀ (w9:World) (e:Int),Blk w9 k2 6 g1→Fr [] w w9→stP b=.bad e→∃ w2,Sto Tryz.prog ZN (.pointer (some ⟨k2,0,none⟩)) rt0.a w9 w2∧∃ (a4:Addr) (v4:Value),(.pointer (some ⟨k2,0,none⟩):Value)=.pointer (some a4)∧(loadVar ZN a4).run Tryz.prog w2=.ok v4 w2∧K (.tuple #[v4,.int .i64 e]) w2:=by
    intro w9 e hB9 f9 hbe
    refine V0 hB9 rt0.v rfl rfl (by kernel_rfl) (by kernel_rfl) (K:=fun v w'=>K (.tuple #[v,.int .i64 e]) w') fun w10 f10=>?_
    have:=hk rt0 w10 (f9.st f10 (by omega)) (XxC _ _)
    rw [hbe] at this
    exact this rfl
  refine Xr2 (hR.fr0 f1) hl hc hlb fun u q d w2 f2 hU2 hO2 hu=>⟨_,_,_,_,_,_,_,_,_,_,_,_,rfl,?_⟩
  obtain ⟨u1,u2,u3,u4⟩:=HF.hu_eq hu
  have f02:=f1.then f2
  have hrl:=XqS b
  refine UV (t:=JG) u.v rfl rfl (by kernel_rfl) (by kernel_rfl) fun w3 f3 hC3=>?_
  obtain ⟨k4,hk4⟩:∃ k,k=w2.heap.size:=⟨_,rfl⟩
  rw [← hk4] at hC3 ⊢
  have f03:=f02.then f3
  have hB3:=(hB1.fr0 f2).fr0 f3
  refine Xt (fun he=>bad w3 _ hB3 f03 (by unfold stP; rw [if_pos he])) fun he=>?_
  have he':¬ (hdP b).e≠0:=fun hh=>hh he
  refine ⟨_,hC3.get (by kernel_rfl) (j:=1) rfl,?_⟩
  have b14:∀ w9,Fr [] w3 w9→((hdP b).ve≠1∨Xbk (hdP b).fi≠3)→Jm ⟨k2,0,none⟩ 0 ⟨k4,0,none⟩ q (hdP b).rest.length d true w9 K:=by
    intro w9 f9 hh
    unfold Jm
    exact Xl (bad w9 14 (hB3.fr0 f9) (f03.then f9) (by unfold stP; rw [if_neg he',if_pos hh]))
  refine Xt (fun h1=>b14 w3 (Fr.refl _ _) (.inl (by omega))) fun h1=>?_
  have hve:(hdP b).ve=1:=by omega
  refine ⟨_,hC3.get (by kernel_rfl) (j:=0) rfl,?_⟩
  have hb1:=hU2.b1
  refine XtO hb1 ⟨_,rfl,?_⟩
  by_cases ht:Xbk u.fi=3
  · have e1:(((Xbk u.fi:Nat):Int) != 3)=false:=by simp [ht]
    rw [e1]
    have hno:¬ ((hdP b).ve≠1∨Xbk (hdP b).fi≠3):=by rw [← u1]; omega
    unfold Jm
    refine Xi ?_
    refine ⟨_,_,_,hC3.get (by kernel_rfl) (j:=2) rfl,_,_,_,hC3.get (by kernel_rfl) (j:=3) rfl,?_⟩
    refine ⟨_,_,_,Ef.new (v:=.slice (some ⟨w3.heap.size,0,none⟩) 2 2) (cs:=([.slice u.p1 u.to.length u.c1,.slice u.p2 u.fr.length u.c2]:List Value).toArray) (e:=Xf) (by kernel_rfl) fun w4 f4 hB4 s4=>?_⟩
    have f04:=f03.then f4
    have hU4:=(hU2.fr0 f3).fr0 f4
    refine Xbl (l:=2) (RowB.of2 hB4.rowL hU4.o1.byS hU4.o2.byS) rfl (by omega) (fun ⟨r,hr,hlr⟩=>⟨_,rfl,Xl (bad w4 15 (hB3.fr0 f4) f04 ?_)⟩) fun hr=>⟨_,rfl,Xi ?_⟩
    · have : 20 < (hdP b).to.length ∨ 20 < (hdP b).fr.length := by
        simp only [List.mem_cons,List.not_mem_nil,or_false] at hr
        rcases hr with rfl | rfl
        · rw [u3] at hlr; exact .inl hlr
        · rw [u4] at hlr; exact .inr hlr
      unfold stP; rw [if_neg he',if_neg hno,if_pos this]
    have ht1:=hr u.to (by simp)
    have hf1:=hr u.fr (by simp)
    have hno2:¬ (20<(hdP b).to.length∨20<(hdP b).fr.length):=by rw [← u3,← u4]; omega
    refine Xd (fun hh=>bad w4 12 (hB3.fr0 f4) f04 (by unfold stP; rw [if_neg he',if_neg hno,if_neg hno2,if_pos (by omega)])) fun hh=>?_
    have hgt:¬ (hdP b).rest.length≤16:=by omega
    have hok:stP b=⟨0,(hdP b).fi,(hdP b).ve,(hdP b).to,(hdP b).fr,(hdP b).rest.take ((hdP b).rest.length - 16),(hdP b).rest.drop ((hdP b).rest.length - 16)⟩:=by
      unfold stP; rw [if_neg he',if_neg hno,if_neg hno2,if_neg hgt]
    obtain ⟨R,hRr⟩:∃ R,R=(hdP b).rest:=⟨_,rfl⟩
    rw [← hRr] at hO2 hrl hgt hok ⊢
    unfold Xb1
    have hO4:=(hO2.fr0 f3).fr0 f4
    refine Xdh hO4.row rfl hO4.cap fun w5 f5 hR5 s5=>⟨_,rfl,?_⟩
    obtain ⟨r,hr'⟩:∃ r,r=w4.heap.size:=⟨_,rfl⟩
    rw [← hr'] at hR5 ⊢
    have m1:=f1.size; have m2:=f2.size; have m3:=f3.size; have m4:=f4.size; have m5:=f5.size
    have hk4l:=hC3.lt
    have hC5:=(hC3.fr0 f4).fr0 f5
    refine ⟨fun w'=>FrA r w5 w',Drw.intro fun w6 f6 s6=>?_⟩
    have keep:∀ {w'},FrA r w5 w'→CAt w' k4 u.v:=fun hw=>hC5.frA hw (by omega)
    refine ⟨_,_,_,_,_,_,_,_,⟨FrA.of0 f6,fun w' hw'=>(keep hw').ld (by kernel_rfl) (by kernel_rfl)⟩,?_⟩
    have ew:IntKind.i64.wrap ((R.length:Int) - 16)=((R.length - 16:Nat):Int):=by rw [Xe (by omega) (by omega)]; omega
    rw [ew]
    refine Xm5 (hR5.fr0 f6) (R.length - 16) (by omega) (fun hh=>by omega) fun _ _ q7 d7 w7 f7 hR7 hO7=>⟨_,_,_,rfl,?_⟩
    have fa7:FrA r w5 w7:=(FrA.of0 f6).trans (FrA.of f7 (by simp))
    refine ⟨.inr (fa7),?_⟩
    refine Xm7 hR7 (by rw [List.length_drop]; omega) fun q8 d8 w8 f8 hR8 hO8=>⟨_,_,_,rfl,?_⟩
    rw [XsL] at hO8 ⊢
    have fa8:FrA r w5 w8:=fa7.trans (FrA.of f8 (by simp))
    refine ⟨.inr fa8,?_⟩
    have m6:=f6.size; have m7:=f7.size; have m8:=f8.size
    obtain ⟨v,hv⟩:∃ v:RT,v=⟨u,R.take (R.length - 16),R.drop (R.length - 16),q7,d7,q8,d8⟩:=⟨_,rfl⟩
    have etl:(R.take (R.length - 16)).length=R.length - 16:=by rw [List.length_take]; omega
    have hB8:Blk w8 k2 6 g1:=((((hB3.fr0 f4).fr0 f5).fr0 f6).fr f7 (by simp; omega)).fr f8 (by simp; omega)
    have f08:Fr [] w w8:=(((f04.then f5).then f6).st f7 (by omega)).st f8 (by omega)
    have hU8:HF.own w8 u w1.heap.size:=by
      have h6:=(hU4.fr0 f5).fr0 f6
      have Q:∀ {q:Option Addr} {l c:Nat} {xs:List UInt8},OB w4 q l c xs w1.heap.size→OB w8 q l c xs w1.heap.size:=fun h=>
        (((h.fr0 f5).fr0 f6).fr f7 fun z hz hm=>by have:=h.lt z hz; simp at hm; omega).fr f8 fun z hz hm=>by have:=h.lt z hz; simp at hm; omega
      exact ⟨Q hU4.o1,Q hU4.o2,hU4.b1,hU4.b2⟩
    have hV8:RT.own w8 v w1.heap.size:=by
      rw [hv]
      refine ⟨hU8,?_,?_⟩
      · show OB w8 q7 (R.take (R.length - 16)).length d7 (R.take (R.length - 16)) _
        rw [etl]; exact (hO7.fr_sep f8 (by omega)).mono (by omega)
      · exact hO8.mono (by omega)
    have hva:(.agg #[.int .u8 (u.fi:Int),.int .u32 (u.ve:Int),.slice u.p1 u.to.length u.c1,.slice u.p2 u.fr.length u.c2,.slice q7 (R.length - 16) d7,.slice q8 (R.drop (R.length - 16)).length d8]:Value)=.agg ⟨v.v⟩:=by
      rw [hv]; unfold RT.v; rw [etl]
    show ∃ w5,Sto Tryz.prog ZN (.pointer (some ⟨k2,0,none⟩)) (.agg #[.int .u8 (u.fi:Int),.int .u32 (u.ve:Int),.slice u.p1 u.to.length u.c1,.slice u.p2 u.fr.length u.c2,.slice q7 (R.length - 16) d7,.slice q8 (R.drop (R.length - 16)).length d8]) w8 w5∧_
    rw [hva]
    refine V0 hB8 v.v rfl rfl (by kernel_rfl) (by kernel_rfl) (K:=fun v w'=>K (.tuple #[v,.int .i64 0]) w') fun w9 f9=>?_
    have:=hk v w9 (f08.st f9 (by omega)) ((hV8.fr_sep f9 (by omega)).mono (by omega))
    rw [hok] at this
    exact this (by rw [hv]; show (⟨0,u.fi,u.ve,u.to,u.fr,_,_⟩:SU)=_; rw [u1,u2,u3,u4])
  · have e1:(((Xbk u.fi:Nat):Int) != 3)=true:=by simpa using fun hh=>ht (by omega)
    rw [e1]
    exact b14 w3 (Fr.refl _ _) (.inr (by rw [← u1]; exact ht))
end
end Go.Sh
end

section
namespace Go.Sh
open Go Go.Fw Go.Proofs
set_option maxRecDepth 100000
set_option linter.unusedVariables false
def ahd (b:List UInt8):List UInt8:=b.take (b.length - 16)
def ckE (b id:List UInt8):Int:=if (stP b).e≠0 then (stP b).e else if stE id (ahd b)≠0 then stE id (ahd b) else if stL id (ahd b)=(stP b).st then 0 else 13
theorem XxD {b:List UInt8} (h:(stP b).e=0):16<b.length:=by
  unfold stP at h
  have:=XqS b
  split at h
  · rename_i h1; exact absurd h h1
  · split at h
    · exact absurd h (by show (14:Int)≠0; omega)
    · split at h
      · exact absurd h (by show (15:Int)≠0; omega)
      · split at h
        · exact absurd h (by show (12:Int)≠0; omega)
        · omega
theorem RT.su_eq {u:RT} {e:Int} {b:List UInt8} (h:u.su e=stP b):u.h.fi=(stP b).fi∧u.h.ve=(stP b).ve∧u.h.to=(stP b).to∧u.h.fr=(stP b).fr∧u.tok=(stP b).tok∧u.st=(stP b).st:=by
  rw [← h]; exact ⟨rfl,rfl,rfl,rfl,rfl,rfl⟩
section
variable {w:World} {K:VWP}
theorem XqT {p0 p1:Option Addr} {l0 c0 l1 c1:Nat} {b id:List UInt8} (h0:Row w p0 (b.map vb)) (hl0:l0=b.length) (hc0:l0≤c0) (hlb:b.length≤1000000) (h1:Row w p1 (id.map vb)) (hl1:l1=id.length) (hc1:l1≤c1)
    (hk:∀ w',Fr [] w w'→K (.int .i64 (ckE b id)) w'):Xa Tryz.prog Xns #[.slice p0 l0 c0,.slice p1 l1 c1] w K:=by
  apply XiF
  unfold XhJ
  refine QO h0 hl0 hc0 hlb fun u w1 f1 hU1 hu=>⟨_,_,_,_,_,_,_,_,_,_,_,_,_,_,_,rfl,?_⟩
  obtain ⟨_,_,_,_,_,u6⟩:=RT.su_eq hu
  refine UV (t:=ZN) u.v rfl rfl (by kernel_rfl) (by kernel_rfl) fun w2 f2 hC2=>?_
  have f02:=f1.then f2
  refine Xt (fun he=>?_) fun he=>?_
  · have:=hk w2 f02
    unfold ckE at this; rw [if_pos he] at this; exact this
  · have he':¬ (stP b).e≠0:=fun hh=>hh he
    have h16:=XxD he
    have ew:IntKind.i64.wrap (((l0:Nat):Int) - 16)=((b.length - 16:Nat):Int):=by rw [Xe (by omega) (by omega)]; omega
    rw [ew]
    refine WA (h0.fr0 f02) hl0 (n:=b.length - 16) (by omega) hc0 fun q d hq hql hqd _=>?_
    refine Xge (ahead:=ahd b) (h1.fr0 f02) hl1 hc1 hq hql hqd fun q3 d3 w3 f3 hO3=>⟨_,_,_,_,rfl,?_⟩
    have f03:=f02.then f3
    refine Xx (fun h3=>?_) fun h3=>?_
    · refine ⟨_,_,_,(hC2.fr0 f3).get (by kernel_rfl) (j:=5) rfl,?_⟩
      have hU3:=(hU1.fr0 f2).fr0 f3
      have hl3:(stL id (ahd b)).length=16:=Qe (XyH h3).1 (XyH h3).2
      refine XsA hO3.row rfl hU3.o4.row rfl (by omega) fun w4 f4=>⟨_,rfl,?_⟩
      rw [u6]
      have:=hk w4 (f03.then f4)
      unfold ckE at this
      rw [if_neg he',if_neg (fun hh=>hh h3)] at this
      by_cases hs:stL id (ahd b)=(stP b).st
      · rw [if_pos hs] at this
        rw [decide_eq_true hs]
        refine Xi ?_
        rw [h3]; exact this
      · rw [if_neg hs] at this
        rw [decide_eq_false hs]
        exact Xl this
    · have:=hk w3 f03
      unfold ckE at this; rw [if_neg he',if_pos h3] at this; exact this
theorem XtW {p0 p1:Option Addr} {l0 c0 l1 c1:Nat} {id ahead:List UInt8} (h0:Row w p0 (id.map vb)) (hl0:l0=id.length) (h1:Row w p1 (ahead.map vb)) (hl1:l1=ahead.length)
    (hk:∀ q d w',Fr [] w w'→OB w' q (stL id ahead).length d (stL id ahead) w.heap.size→K (.tuple #[.slice q (stL id ahead).length d,.int .i64 (stE id ahead)]) w') :
    Xa Tryz.prog XnF #[.slice p0 l0 c0,.slice p1 l1 c1] w K:=by
  apply XiH
  unfold XhL
  have bad:∀ (e:Int) w',stE id ahead=e→e≠0→Fr [] w w'→K (.tuple #[.slice none 0 0,.int .i64 e]) w':=by
    intro e w' he h0 f'
    have h1:stL id ahead=[]:=by unfold stL; rw [if_neg (by rw [he]; exact h0)]
    have:=hk none 0 w' f'
    rw [h1,he] at this
    exact this (OB.nil _ _)
  refine Xd (fun hh=>bad 15 w (by unfold stE; rw [if_pos (by omega)]) (by omega) (Fr.refl _ _)) fun hi=>?_
  have hid:id.length≤20:=by omega
  refine Xd (fun hh=>bad 11 w (by unfold stE; rw [if_neg (by omega),if_pos (by omega)]) (by omega) (Fr.refl _ _)) fun hh=>?_
  have hah:ahead.length≤65000:=by omega
  rw [Xgd hid hah,XqR hid hah] at hk
  refine Xk5 (xs:=stKs) (m:=16) rfl (by omega) XqP fun q2 d2 w2 f2 hO2=>⟨_,_,_,_,rfl,?_⟩
  rw [Xvd] at hO2
  refine Xk5 (xs:=stNs) (m:=12) rfl (by omega) XqQ fun q3 d3 w3 f3 hO3=>⟨_,_,_,_,rfl,?_⟩
  rw [Xve] at hO3
  have et:IntKind.u8.wrap ((l0:Nat):Int)=((UInt8.ofNat id.length).toNat:Int):=by rw [hl0]; exact XkH (by omega)
  rw [et]
  have f03:=f2.then f3
  refine mkL (n:=1) (xs:=[UInt8.ofNat id.length]) rfl rfl (by kernel_rfl) fun p4 w4 f4 hO4 s4=>?_
  have f04:=f03.then f4
  have n03:=f03.size; have n4:=f4.size
  refine XY (m:=l0) hO4 n4 (h0.fr0 f04) hl0 (by omega) fun p5 c5 w5 f5 hO5=>?_
  have g5:Fr [] w3 w5:=f4.trans f5 fun z hz=>.inr (hO4.2.2 z hz)
  have n5:=g5.size
  refine XY (m:=l1) hO5 n5 ((h1.fr0 f03).fr0 g5) hl1 (by omega) fun p6 c6 w6 f6 hO6=>?_
  have g6:Fr [] w3 w6:=g5.trans f6 fun z hz=>.inr (hO5.2.2 z hz)
  have eN:[UInt8.ofNat id.length]++id++ahead=Jp id ahead:=by simp [Jp]
  rw [eN] at hO6
  refine Xk0 (key:=stK) (nonce:=stN) (text:=[]) (note:=Jp id ahead) ((hO2.fr0 f3).fr0 g6).row rfl hO2.cap rfl (hO3.fr0 g6).row rfl (Xvc _) rfl hO6.row hO6.2.1 fun q7 d7 w7 f7 hO7=>⟨_,_,_,_,rfl,?_⟩
  rw [Xvf hid hah]
  exact hk q7 d7 w7 ((f03.then g6).then f7) (hO7.mono (f03.then g6).size)
theorem Xvh {p0 p1 p2 p3:Option Addr} {l0 c0 l1 c1 l2 c2 l3 c3:Nat} {to fr id tok:List UInt8} (h0:Row w p0 (to.map vb)) (hl0:l0=to.length) (h1:Row w p1 (fr.map vb)) (hl1:l1=fr.length)
    (h2:Row w p2 (id.map vb)) (hl2:l2=id.length) (h3:Row w p3 (tok.map vb)) (hl3:l3=tok.length)
    (hk:∀ q d w',Fr [] w w'→OB w' q (rtL to fr id tok).length d (rtL to fr id tok) w.heap.size→K (.tuple #[.slice q (rtL to fr id tok).length d,.int .i64 (rtE to fr id tok)]) w') :
    Xa Tryz.prog Xps #[.slice p0 l0 c0,.slice p1 l1 c1,.slice p2 l2 c2,.slice p3 l3 c3] w K:=by
  apply XkA
  unfold Xkz
  have bad:∀ (e:Int) w',rtE to fr id tok=e→e≠0→Fr [] w w'→K (.tuple #[.slice none 0 0,.int .i64 e]) w':=by
    intro e w' he h0 f'
    have h1:rtL to fr id tok=[]:=by unfold rtL; rw [if_neg (by rw [he]; exact h0)]
    have:=hk none 0 w' f'
    rw [h1,he] at this
    exact this (OB.nil _ _)
  have b15:(20<to.length∨20<fr.length∨20<id.length)→K (.tuple #[.slice none 0 0,.int .i64 15]) w:=fun hh=>bad 15 w (by unfold rtE; rw [if_pos hh]) (by omega) (Fr.refl _ _)
  refine Xd (fun hh=>b15 (.inl (by omega))) fun _=>Xd (fun hh=>b15 (.inr (.inl (by omega)))) fun _=>Xd (fun hh=>b15 (.inr (.inr (by omega)))) fun _=>?_
  have hno:¬ (20<to.length∨20<fr.length∨20<id.length):=by omega
  unfold XdV
  refine Xd (fun hh=>bad 11 w (by unfold rtE; rw [if_neg hno,if_pos (.inl (by omega))]) (by omega) (Fr.refl _ _)) fun _=>?_
  refine Xd (fun hh=>bad 11 w (by unfold rtE; rw [if_neg hno,if_pos (.inr (by omega))]) (by omega) (Fr.refl _ _)) fun _=>?_
  have eE:rtE to fr id tok=0:=by unfold rtE; rw [if_neg hno,if_neg (by omega)]
  have eL:rtL to fr id tok=rtH to fr tok++stL id (rtH to fr tok):=by unfold rtL; rw [if_pos eE]
  rw [eE,eL] at hk
  have hHl:=VT to fr tok
  have hdl:=Xgt to fr
  have hSE:stE id (rtH to fr tok)=0:=Xgd (by omega) (by omega)
  unfold XdU
  subst hl0; subst hl1
  refine XtU h0 (by omega) h1 (by omega) fun q2 d2 w2 f2 hO2=>⟨_,_,_,_,rfl,?_⟩
  refine XY (m:=l3) hO2 f2.size (h3.fr0 f2) hl3 (by omega) fun p3' c3' w3 f3 hO3=>?_
  have f03:Fr [] w w3:=f2.trans f3 fun z hz=>.inr (hO2.2.2 z hz)
  have eH:hdL to fr++tok=rtH to fr tok:=rfl
  have elH:(hdL to fr).length+l3=(rtH to fr tok).length:=by rw [hHl,hdl,hl3]
  rw [eH,elH] at hO3
  rw [elH]
  refine XtW (h2.fr0 f03) hl2 hO3.row rfl fun q4 d4 w4 f4 hO4=>⟨_,_,_,_,rfl,?_⟩
  rw [hSE]
  obtain ⟨S,hS⟩:∃ S,S=stL id (rtH to fr tok):=⟨_,rfl⟩
  have hSl:S.length=16:=by rw [hS]; exact Qe (by omega) (by omega)
  rw [← hS] at hO4 hk ⊢
  have f04:=f03.then f4
  have n4:=f4.size; have n3:=f03.size
  refine XY (m:=S.length) (hO3.fr0 f4) (by omega) hO4.row rfl (by omega) fun p5 c5 w5 f5 hO5=>?_
  have f05:Fr [] w w5:=f04.trans f5 fun z hz=>.inr (hO3.2.2 z hz)
  have el:(rtH to fr tok).length+S.length=(rtH to fr tok++S).length:=by rw [List.length_append]
  rw [el] at hO5
  rw [el]
  exact hk p5 c5 w5 f05 hO5
end
end Go.Sh
end

section
namespace Go.Sh
open Go Go.Fw Go.Proofs
set_option maxRecDepth 100000
set_option linter.unusedVariables false
def Cfg (w:World) (b:Nat) (m s n:Int) (key:List UInt8):Prop:=∃ f,Blk w b 19 f∧∀ j v,(Xzt m s n key)[j]?=some v→f j=v
section
variable {w:World} {b:Nat} {m s n:Int} {key:List UInt8}
theorem Cfg.fr {w':World} {L:List Nat} (h:Cfg w b m s n key) (hf:Fr L w w') (hb:b∉L):Cfg w' b m s n key:=by
  obtain ⟨f,hB,hc⟩:=h; exact ⟨f,hB.fr hf hb,hc⟩
theorem Cfg.fr0 {w':World} (h:Cfg w b m s n key) (hf:Fr [] w w'):Cfg w' b m s n key:=h.fr hf (by simp)
theorem Cfg.lt (h:Cfg w b m s n key):b<w.heap.size:=by obtain ⟨f,hB,_⟩:=h; exact hB.lt
theorem Cfg.nonce (h:Cfg w b m s n key):Ld Tryz.prog Ye (.pointer (some ((⟨b,0,none⟩:Addr).add 2))) w (.int .i64 n):=by
  obtain ⟨f,hB,hc⟩:=h; rw [Xg]; exact Ld.blk (by kernel_rfl) hB (by omega) (hc 2 _ rfl)
end
def XzA:List UInt8:=List.replicate 16 0
def okC (m s n:Int) (key:List UInt8):Prop:=0≤m∧m≤2∧1≤s∧s≤15∧4≤n∧n≤18∧s+n≤19∧(m=0→key=XzA)∧(m=1→s+n=16)
instance (m s n:Int) (key:List UInt8):Decidable (okC m s n key):=by unfold okC; infer_instance
section
variable {w:World} {m s n:Int} {key:List UInt8} {K:VWP}
end
end Go.Sh
end

section
namespace Go.Sh
open Go Go.Fw Go.Proofs
set_option maxRecDepth 100000
set_option linter.unusedVariables false
section
variable {w:World} {m s n:Int} {key:List UInt8} {K:VWP}
def okR (xs:List UInt8):Prop:=xs.length=20∧fl xs 3=0∧okC ((fl xs 0).toNat:Int) ((fl xs 1).toNat:Int) ((fl xs 2).toNat:Int) (xs.drop 4)
end
end Go.Sh
end

section
namespace Go.Sh
open Go Go.Fw Go.Proofs
set_option maxRecDepth 100000
set_option linter.unusedVariables false
theorem Row.old {a w w':World} {p:Option Addr} {xs:List UInt8} {b:Nat} (h0:Row a p (xs.map vb)) (h:Row w p (xs.map vb)) (hf:Fr [b] w w') (hb:a.heap.size≤b):Row w' p (xs.map vb):=by
  by_cases hx:xs.length=0
  · have:xs=[]:=List.length_eq_zero_iff.1 hx
    subst this; exact Row.nil _ _
  · exact Row.fr_lt h hf fun hk=>by have:=Row.blk_lt h0 (by omega) _ hk; omega
end Go.Sh
end

section
namespace Go.Sh
open Go Go.Fw Go.Proofs
set_option maxRecDepth 100000
set_option linter.unusedVariables false
theorem _root_.Go.Fw.Fr.at {a b c:World} {k:Nat} (h:Fr [] a b) (f:Fr [k] b c) (hk:a.heap.size≤k):Fr [] a c:=h.trans f (fun z hz=>.inr (by simp at hz; omega))
section
variable {c lo hi:Nat} {key:List UInt8} {d:Int}
def outs (ok:Prop) (s:List UInt8×List UInt8) (er:Int) (a b:List UInt8):Prop:=(ok∧er=0∧(a,b)=s)∨(¬ ok∧er=11∧(a,b)=([],[]))
theorem outs.eq {ok:Prop} {s:List UInt8×List UInt8} {e1 e2:Int} {a1 b1 a2 b2:List UInt8} (h:outs ok s e1 a1 b1) (k:outs ok s e2 a2 b2):e1=e2∧a1=a2∧b1=b2:=by
  have fin:∀ t:List UInt8×List UInt8,(a1,b1)=t→(a2,b2)=t→a1=a2∧b1=b2:=by
    rintro t rfl h; injection h with h1 h2; exact ⟨h1.symm,h2.symm⟩
  rcases h with ⟨a,b,c⟩ | ⟨a,b,c⟩ <;> rcases k with ⟨a',b',c'⟩ | ⟨a',b',c'⟩
  · exact ⟨by rw [b,b'],fin _ c c'⟩
  · exact absurd a a'
  · exact absurd a' a
  · exact ⟨by rw [b,b'],fin _ c c'⟩
def OR (w:World) (q:Option Addr) (l c:Nat) (xs:List UInt8) (lo:Nat):Prop:=Row w q (xs.map vb)∧l=xs.length∧l≤c∧∀ z∈Xb q,lo≤z
theorem OR.fr {w w':World} {q:Option Addr} {l c:Nat} {xs:List UInt8} {lo k:Nat} (h:OR w q l c xs lo) (f:Fr [k] w w') (hk:k<lo):OR w' q l c xs lo:=⟨Row.cells_fr h.1 f (fun z hz=>by have:=h.2.2.2 z hz; simp; omega),h.2⟩
theorem OR.fr0 {w w':World} {q:Option Addr} {l c:Nat} {xs:List UInt8} {lo:Nat} (h:OR w q l c xs lo) (f:Fr [] w w'):OR w' q l c xs lo:=⟨Row.cells_fr h.1 f (fun z hz=>by simp),h.2⟩
theorem OR.nil (w:World) (lo:Nat):OR w none 0 0 [] lo:=⟨Row.nil _ _,rfl,Nat.le_refl _,by simp [Xb]⟩
theorem OB.or {w:World} {q:Option Addr} {l c:Nat} {xs:List UInt8} {lo:Nat} (h:OB w q l c xs lo):OR w q l c xs lo:=⟨h.row,h.2.1,h.cap,h.2.2⟩
end
end Go.Sh
end

section
namespace Go.Sh
open Go Go.Fw Go.Proofs
set_option maxRecDepth 100000
set_option linter.unusedVariables false
theorem outIs.cg {ok ok':Prop} {o:List UInt8} {e:Int} {x:List UInt8} (h:outIs ok o e x) (hk:ok↔ok'):outIs ok' o e x:=by
  rcases h with ⟨a,b⟩ | ⟨a,b⟩
  · exact .inl ⟨hk.1 a,b⟩
  · exact .inr ⟨fun h=>a (hk.2 h),b⟩
end Go.Sh
end

section
namespace Go.Sh
open Go Go.Fw Go.Proofs
set_option maxRecDepth 100000
set_option linter.unusedVariables false
def JB (point n:Nat):UInt8:=UInt8.ofNat (64*point+n)
theorem Xwa {p n:Nat} (hp:p<4) (hn:n<64):IntKind.u8.wrap (ior .i64 (IntKind.i64.wrap ((p:Int)*2 ^ 6)) (n:Int))=((JB p n).toNat:Int):=by
  have:∀ p:Nat,p<4→∀ n:Nat,n<64→IntKind.u8.wrap (ior .i64 (IntKind.i64.wrap ((p:Int)*2 ^ 6)) (n:Int))=((JB p n).toNat:Int):=by decide +kernel
  exact this p hp n hn
section
variable {w:World} {m s n:Int} {key text:List UInt8} {K:VWP}
theorem XzB {p:Option Addr} {l c:Nat} {point:Nat} {rest:List UInt8} (hp:point<4) (hx:Row w p (rest.map vb)) (hl:l=rest.length) (hc:l≤c) (hn:l<64)
    (h:∀ q d w',Fr [] w w'→OB w' q (l+1) d (JB point l::rest) w.heap.size→K (.slice q (l+1) d) w'):Xa Tryz.prog Xta #[.int .i64 (point:Int),.slice p l c] w K:=by
  apply Xof
  unfold Xp9
  rw [Xwa hp hn]
  refine mk1 (x:=JB point l) fun p1 w1 f1 h1 s1=>?_
  refine ⟨_,_,_,Ef.new (v:=.slice (some ⟨w1.heap.size,0,none⟩) 2 2) (cs:=([.slice p1 1 1,.slice p l c]:List Value).toArray) (e:=Xf) (by kernel_rfl) fun w2 f2 hB2 s2=>?_⟩
  have hR2:=RowB.of2 hB2.rowL ((h1.fr0 f2).byS) (byS ((hx.fr0 f1).fr0 f2) hl hc)
  have efl:[[JB point l],rest].flatten=JB point l::rest:=by simp
  have hbl:(JB point l::rest).length=l+1:=by simp [hl]
  refine Ua (l:=2) hR2 rfl (by rw [efl,hbl]; omega) (by omega) fun q d w3 f3 hO3=>⟨_,_,_,rfl,?_⟩
  rw [efl,hbl] at hO3
  rw [efl,hbl]
  have n02:=(f1.then f2).size
  exact h q d w3 ((f1.then f2).then f3) (hO3.mono n02)
def UW (point:Int) (n:Nat):Prop:=0≤point∧point≤3∧n≤19
theorem XxE {p:Option Addr} {l c:Nat} {point:Int} {rest:List UInt8} (hx:Row w p (rest.map vb)) (hl:l=rest.length) (hc:l≤c)
    (hbad:¬ UW point l→∀ w',Fr [] w w'→K (.tuple #[.slice none 0 0,.int .i64 11]) w') (hok:UW point l→∀ q d w',Fr [] w w'→OB w' q (l+1) d (JB point.toNat l::rest) w.heap.size→K (.tuple #[.slice q (l+1) d,.int .i64 0]) w') :
    Xa Tryz.prog Xdy #[.int .i64 point,.slice p l c] w K:=by
  apply XiI
  unfold XhM
  refine Xd (fun h=>hbad (fun hh=>by unfold UW at hh; omega) w (Fr.refl _ _)) fun h1=>Xd (fun h=>hbad (fun hh=>by unfold UW at hh; omega) w (Fr.refl _ _)) fun h2=>Xd (fun h=>hbad (fun hh=>by unfold UW at hh; omega) w (Fr.refl _ _)) fun h3=>?_
  obtain ⟨m,rfl⟩:=Int.eq_ofNat_of_zero_le (show 0≤point by omega)
  refine XzB (by omega) hx hl hc (by omega) fun q d w' f hO=>⟨_,_,_,rfl,?_⟩
  exact hok ⟨by omega,by omega,by omega⟩ q d w' f hO
def XyI (m s n:Int) (key:List UInt8) (point:Int) (l2 l3:Nat):Prop:=0≤point∧point≤2∧(l2:Int)=s∧(l3:Int)=n
end
end Go.Sh
end

section
namespace Go.Sh
open Go Go.Fw Go.Proofs
set_option maxRecDepth 100000
set_option linter.unusedVariables false
section
variable {w:World} {m s n:Int} {key text:List UInt8} {K:VWP}
def XyJ (m s n:Int) (key id:List UInt8):Prop:=okC m s n key∧(id.length:Int)=1+(s+n)∧(fl id 0).toNat % 64+1=id.length
end
end Go.Sh
end

section
namespace Go.Sh
open Go Go.Fw Go.Proofs
set_option maxRecDepth 100000
set_option linter.unusedVariables false
def PAt (w:World) (b:Nat) (cs:List Value):Prop:=∃ f,Blk w b 3 f∧∀ j v,cs[j]?=some v→f j=v
theorem PAt.fr0 {w w':World} {b:Nat} {cs:List Value} (h:PAt w b cs) (f:Fr [] w w'):PAt w' b cs:=by obtain ⟨g,hB,hc⟩:=h; exact ⟨g,hB.fr0 f,hc⟩
section
variable {w:World} {b:Nat} {pt:Int} {q1 q2:Option Addr} {l1 d1 l2 d2:Nat}
end
end Go.Sh
end
