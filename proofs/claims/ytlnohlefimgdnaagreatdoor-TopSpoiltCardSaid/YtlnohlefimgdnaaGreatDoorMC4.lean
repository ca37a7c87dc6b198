/- A part of a proof of a given law of this program: lemmas, printed forms of its functions, contracts. It has no conditions of its own. -/
import Derived.Test.YtlnohlefimgdnaaGreatDoorMC3
import Derived.Test.YtlnohlefimgdnaaGreatDoorMC1
import Derived.Test.YtlnohlefimgdnaaGreatDoorMC2
import Derived.Test.YtlnohlefimgdnaaGreatDoorMW1
import Derived.Test.YtlnohlefimgdnaaGreatDoorMS3
import Derived.Test.YtlnohlefimgdnaaGreatDoorMS4

set_option maxHeartbeats 16000000
section
namespace Go.Sh
open Go Go.Fw Go.Proofs
set_option maxRecDepth 100000
set_option linter.unusedVariables false
section
variable {w:World} {b:Nat} {key nonce text note:List UInt8} {n D:Int} {lo hi:Nat} {K:VWP}
theorem Xvx (hX:BoxAt w b key n D lo hi) (hD:D<1000000000) (hn0:0≤n) (hn1:n<1000000000) {p1 p2 p3:Option Addr} {l1 c1 l2 c2 l3 c3:Nat} (h1:Row w p1 (nonce.map vb)) (hl1:l1=nonce.length) (hc1:l1≤c1) (hb1:l1≤1000000) (hs1:sp lo hi p1 nonce)
    (h2:Row w p2 (text.map vb)) (hl2:l2=text.length) (hc2:l2≤c2) (hb2:l2≤1000000) (hs2:sp lo hi p2 text) (h3:Row w p3 (note.map vb)) (hl3:l3=note.length) (hc3:l3≤c3) (hs3:sp lo hi p3 note)
    (h:∀ q d w',Fr (rg lo hi) w w'→BoxAt w' b key (n+if opE key nonce text note=13 then 1 else 0) (D+1) lo hi→OB w' q (opL key nonce text note).length d (opL key nonce text note) w.heap.size→K (.tuple #[.slice q (opL key nonce text note).length d,.int .i64 (opE key nonce text note)]) w') :
    Xa Tryz.prog XjL #[.pointer (some ⟨b,0,none⟩),.slice p1 l1 c1,.slice p2 l2 c2,.slice p3 l3 c3] w K:=by
  apply XfF
  unfold XeA
  rw [Xe (n:=(l2:Int) - 16) (by omega) (by omega)]
  have em:max ((l2:Int) - 16) 0=((l2 - 16:Nat):Int):=by omega
  refine ⟨_,XuE,?_⟩
  rw [em]
  refine XeU h2 hl2 (n:=l2 - 16) (by omega) hc2 fun q2 d2 hq2 hql2 hqc2 hqs2=>?_
  refine Xjg (byS hq2 hql2 hqc2) (byS h3 hl3 hc3) (by kernel_rfl) fun p0 w1 f1 hR1 s1=>?_
  have fin:∀ e:Int,opE key nonce text note=e→e≠0→e≠13→∀ w',Fr [] w w'→K (.tuple #[.slice none 0 0,.int .i64 e]) w':=by
    intro e he h0 h13 w' f
    have e2:opL key nonce text note=[]:=by unfold opL; rw [if_neg (by rw [he]; exact h0)]
    rw [e2,he,if_neg h13,Int.add_zero] at h
    exact h none 0 w' (f.mono (by simp)) ((hX.fr0 f).mono (by omega)) (OB.nil _ _)
  refine Xhi (l:=2) hR1 rfl (by omega) (fun hno=>?_) fun hok=>?_
  · refine ⟨_,rfl,X2 (fin 11 ?_ (by omega) (by omega) w1 f1)⟩
    unfold opE; rw [if_neg (by rw [← hl1,← hl2]; exact hno)]
  · have hok':okG nonce.length [text.take (text.length - 16),note]:=by rw [← hl1,← hl2]; exact hok
    refine ⟨_,rfl,Xz (Xc (fun hlt=>?_) fun hlt=>?_)⟩
    · refine fin 12 ?_ (by omega) (by omega) w1 f1
      unfold opE; rw [if_pos hok',if_pos (by omega)]
    · have e16:(l2:Int) - 16=((l2 - 16:Nat):Int):=by omega
      rw [e16]
      have hok2:=JN.1 hok
      have hlh:=hX.lohi
      refine XeU (h2.fr0 f1) hl2 (n:=l2 - 16) (by omega) hc2 fun q3 d3 hq3 hql3 hqc3 hqs3=>?_
      refine XsY (hX.fr0 f1) hD (h1.fr0 f1) hl1 hc1 hb1 hq3 hql3 hqc3 (hs2.take hqs3) (h3.fr0 f1) hl3 hc3 hs3 fun q4 d4 w4 f4 hX4 hO4=>⟨_,_,_,_,rfl,?_⟩
      have et:tgL key nonce (text.take (l2 - 16)) note=Y5 key nonce (text.take (l2 - 16)) note:=by unfold tgL; rw [if_pos (by rw [← hl1]; exact hok)]
      rw [et] at hO4
      rw [et]
      have n1:=f1.size
      have f04:Fr (rg lo hi) w w4:=(f1.mono (by simp)).trans f4 (fun x hx=>.inl hx)
      have keep:∀ {p:Option Addr} {xs:List UInt8},Row w p (xs.map vb)→sp lo hi p xs→Row w4 p (xs.map vb):=fun {p xs} hr hs=>hs.keep hr f04 fun k hk=>Wy.1 hk
      refine Ww (keep h2 hs2) hl2 (n:=l2 - 16) (by omega) hc2 fun q5 d5 hq5 hql5 hqc5 hqs5=>?_
      refine Xvv hO4.row rfl hq5 hql5 (by rw [Jr]; omega) fun w6 f6=>⟨_,rfl,?_⟩
      have f06:=f04.then f6
      by_cases hg:Y5 key nonce (text.take (l2 - 16)) note=text.drop (l2 - 16)
      · have eo:opE key nonce text note=0:=by unfold opE; rw [if_pos hok',if_neg (by omega),← hl2,if_pos hg]
        have el:opL key nonce text note=Yf key nonce (text.take (l2 - 16)):=by unfold opL; rw [if_pos eo,← hl2]
        rw [eo,el,if_neg (by omega),Int.add_zero,YQ] at h
        rw [decide_eq_true hg]
        refine Xz ?_
        refine XeU ((keep h2 hs2).fr0 f6) hl2 (n:=l2 - 16) (by omega) hc2 fun q7 d7 hq7 hql7 hqc7 hqs7=>?_
        refine Xqj (hX4.fr0 f6) ((keep h1 hs1).fr0 f6) hl1 hc1 hok2.1 hq7 hql7 hqc7 (by omega) fun q8 d8 w8 f8 hO8=>⟨_,_,_,rfl,?_⟩
        have n6:=f06.size
        rw [← hql7] at h
        exact h q8 d8 w8 (f06.then f8) (hX4.fr0 (f6.then f8)) (hO8.mono n6)
      · have eo:opE key nonce text note=13:=by unfold opE; rw [if_pos hok',if_neg (by omega),← hl2,if_neg hg]
        have el:opL key nonce text note=[]:=by unfold opL; rw [if_neg (by omega)]
        rw [eo,el,if_pos rfl] at h
        rw [decide_eq_false hg]
        refine X2 ?_
        obtain ⟨f,c,hh,pk,ck,d,m,chi,hB,e0,ea,eb,ec,hk,h16,hkl,hC,hH,d0,d1,o1,o2,o3,o4,o5⟩:=hX4.fr0 f6
        have hcl:=hC.lt
        refine ⟨_,rfl,?_⟩
        refine YG hB (by show (0+3:Nat)<4; omega) ec fun w7 f7 hB7 s7=>⟨_,rfl,?_⟩
        rw [Xe (by omega) (by omega)] at hB7
        refine h none 0 w7 (f06.trans f7 (fun x hx=>.inl (by simp at hx; subst hx; exact Wy.2 ⟨by omega,by omega⟩))) ?_ (OB.nil _ _)
        have n7:=f7.size
        refine ⟨_,c,hh,pk,ck,d,m,chi,hB7,?_,?_,?_,upd_same _ _ _,Row.fr_lt hk f7 fun hm=>by have:=o2 _ hm; omega,h16,hkl,hC.fr f7 (fun k hk=>by simp at hk; omega),hH.fr f7 (by simp; omega),d0,d1,o1,o2,o3,o4,by omega⟩
        · rw [upd_ne _ _ _ (by show (0:Nat)≠0+3; omega)]; exact e0
        · rw [upd_ne _ _ _ (by show (1:Nat)≠0+3; omega)]; exact ea
        · rw [upd_ne _ _ _ (by show (2:Nat)≠0+3; omega)]; exact eb
end
end Go.Sh
end

section
namespace Go.Sh
open Go Go.Fw Go.Proofs
abbrev vi (n:Int):Value:=.int .i64 n
end Go.Sh
end

section
namespace Go.Sh
open Go Go.Fw Go.Proofs
set_option maxRecDepth 100000
set_option linter.unusedVariables false
def OI (w:World) (p:Option Addr) (l c:Nat) (xs:List Int) (lo:Nat):Prop:=OwnS w p l c (xs.map vi)∧l=xs.length∧∀ k∈Xb p,lo≤k
theorem OI.row {w:World} {p:Option Addr} {l c:Nat} {xs:List Int} {lo:Nat} (h:OI w p l c xs lo):Row w p (xs.map vi):=h.1.row
theorem OI.fr {w w':World} {p:Option Addr} {l c:Nat} {xs:List Int} {lo:Nat} {L:List Nat} (h:OI w p l c xs lo) (hf:Fr L w w') (hl:∀ k∈Xb p,k∉L):OI w' p l c xs lo:=⟨h.1.fr hf hl,h.2⟩
theorem OI.fr0 {w w':World} {p:Option Addr} {l c:Nat} {xs:List Int} {lo:Nat} (h:OI w p l c xs lo) (hf:Fr [] w w'):OI w' p l c xs lo:=h.fr hf (by simp)
theorem OI.fr_sep {w w':World} {p:Option Addr} {l c:Nat} {xs:List Int} {lo b:Nat} (h:OI w p l c xs lo) (hf:Fr [b] w w') (hl:b<lo):OI w' p l c xs lo:=
  h.fr hf fun k hk=>by have:=h.2.2 k hk; simp; omega
theorem OI.mono {w:World} {p:Option Addr} {l c:Nat} {xs:List Int} {lo lo':Nat} (h:OI w p l c xs lo) (h1:lo'≤lo):OI w p l c xs lo':=⟨h.1,h.2.1,fun k hk=>Nat.le_trans h1 (h.2.2 k hk)⟩
theorem OI.news {a w w':World} {p:Option Addr} {l c:Nat} {xs:List Int} {lo:Nat} (h:OI w p l c xs lo) (h1:Fr [] a w) (h2:Fr (Xb p) w w') (h3:a.heap.size≤lo):Fr [] a w':=h1.trans h2 fun z hz=>.inr (Nat.le_trans h3 (h.2.2 z hz))
end Go.Sh
end

section
namespace Go.Sh
open Go Go.Fw Go.Proofs
set_option maxRecDepth 100000
set_option linter.unusedVariables false
structure KE where
  sq:Nat
  key:List UInt8
def Xhj (s:Int) (e:KE):Bool:=decide ((e.sq:Int)=s)
def YA (ks:List KE) (s:Int):Nat:=ks.findIdx (Xhj s)
def XT (ks:List KE) (s:Int):Prop:=YA ks s<ks.length
instance (ks:List KE) (s:Int):Decidable (XT ks s):=by unfold XT; infer_instance
def Uo (ks:List KE) (s:Int):Int:=if XT ks s then (YA ks s:Int) else -1
theorem XoB {ks:List KE} {s:Int} {i:Nat} {e:KE} (hi:ks[i]?=some e) (he:(e.sq:Int)=s) (hs:∀ j,j<i→∀ e,ks[j]?=some e→(e.sq:Int)≠s):YA ks s=i∧XT ks s:=by
  obtain ⟨h1,h2⟩:=List.getElem?_eq_some_iff.1 hi
  have e1:YA ks s=i:=by
    unfold YA
    refine (List.findIdx_eq h1).2 ⟨?_,fun j hj=>?_⟩
    · rw [h2]; simp [Xhj,he]
    · have:=hs j hj _ (List.getElem?_eq_getElem (by omega))
      simp [Xhj,this]
  exact ⟨e1,by unfold XT; omega⟩
theorem Xqk {ks:List KE} {s:Int} (hs:∀ j,j<ks.length→∀ e,ks[j]?=some e→(e.sq:Int)≠s):¬ XT ks s:=by
  unfold XT YA
  intro hlt
  have h2:=List.findIdx_getElem (w:=hlt)
  have:=hs _ hlt _ (List.getElem?_eq_getElem hlt)
  simp [Xhj] at h2
  exact this h2
theorem Xql {ks:List KE} {s:Int} (h:XT ks s):∃ e,ks[YA ks s]?=some e∧(e.sq:Int)=s:=by
  have hlt:ks.findIdx (Xhj s)<ks.length:=h
  have h2:=List.findIdx_getElem (w:=hlt)
  exact ⟨_,List.getElem?_eq_getElem hlt,by simpa [Xhj] using h2⟩
theorem Xuc {ks:List KE} {s:Int} (h:¬ XT ks s):∀ e∈ks,(e.sq:Int)≠s:=by
  intro e he hes
  apply h
  unfold XT YA
  exact List.findIdx_lt_length_of_exists ⟨e,he,by simp [Xhj,hes]⟩
def Z1 (ks:List KE) (s:Int) (key:List UInt8):Int:=if s<0∨127<s∨key.length≠16 then 11 else if XT ks s then 16 else if 16≤ks.length then 18 else 0
def Ux (ks:List KE) (s:Int):Int:=if s<0∨127<s then 11 else if XT ks s then 0 else 17
def Xhk (ks:List KE) (s:Int) (key:List UInt8):List KE:=if Z1 ks s key=0 then ks++[⟨s.toNat,key⟩] else ks
def XcN (ks:List KE) (s:Int):List KE:=if Ux ks s=0 then ks.take (YA ks s)++ks.drop (YA ks s+1) else ks
structure RE where
  sq:Nat
  key:List UInt8
  bx:Nat
  kp:Option Addr
  kc:Nat
  lo:Nat
  hi:Nat
def RE.ke (e:RE):KE:=⟨e.sq,e.key⟩
def RE.v (e:RE):List Value:=[.pointer (some ⟨e.bx,0,none⟩),.int .i64 (e.sq:Int),.slice e.kp 16 e.kc]
theorem RE.v_len (e:RE):e.v.length=3:=rfl
theorem RE.v_one (e:RE):∀ u∈e.v,u.oneCell'=true:=by
  intro u hu
  simp [RE.v] at hu
  rcases hu with rfl | rfl | rfl <;> rfl
def EntAt (w:World) (e:RE) (N:Int):Prop:=∃ n hb,0≤n∧n≤N∧BoxAt w e.bx e.key n N e.lo hb∧Row w e.kp (e.key.map vb)∧16≤e.kc∧(∀ k∈Xb e.kp,hb≤k∧k<e.hi)∧hb≤e.hi∧e.hi≤w.heap.size
theorem EntAt.fr {w w':World} {e:RE} {N:Int} {L:List Nat} (h:EntAt w e N) (hf:Fr L w w') (hL:∀ k∈L,k<e.lo∨e.hi≤k):EntAt w' e N:=by
  obtain ⟨n,hb,n0,n1,hX,hk,h16,hbk,o1,o2⟩:=h
  have hlh:=hX.lohi
  refine ⟨n,hb,n0,n1,hX.fr hf fun k hk=>?_,Row.cells_fr hk hf fun k hk hm=>?_,h16,hbk,o1,Nat.le_trans o2 hf.size⟩
  · have:=hL k hk; omega
  · have:=hL k hm; have:=hbk k hk; omega
theorem EntAt.fr0 {w w':World} {e:RE} {N:Int} (h:EntAt w e N) (hf:Fr [] w w'):EntAt w' e N:=h.fr hf (by simp)
theorem EntAt.len {w:World} {e:RE} {N:Int} (h:EntAt w e N):e.key.length=16:=by obtain ⟨n,hb,n0,n1,hX,_⟩:=h; exact hX.lohi.2.2.1
theorem EntAt.lh {w:World} {e:RE} {N:Int} (h:EntAt w e N):e.lo<e.hi∧e.hi≤w.heap.size:=by obtain ⟨n,hb,n0,n1,hX,hk,h16,hbk,o1,o2⟩:=h; have:=hX.lohi; omega
theorem EntAt.mono {w:World} {e:RE} {N N':Int} (h:EntAt w e N) (hN:N≤N'):EntAt w e N':=by
  obtain ⟨n,hb,n0,n1,hX,r⟩:=h
  exact ⟨n,hb,n0,by omega,hX.mono hN,r⟩
structure RingAt (w:World) (b:Nat) (p:Option Addr) (es:List RE) (N:Int) (lo:Nat):Prop where
  blk:∃ f c,Blk w b 1 f∧f 0=.slice p es.length c∧OwnN 3 w p es.length c (es.flatMap RE.v)
  ent:∀ e∈es,EntAt w e N∧lo≤e.lo∧e.sq≤127
  len:es.length≤16
  pw:es.Pairwise fun x y=>x.hi≤y.lo∧x.sq≠y.sq
  sep:∀ k∈b::Xb p,∀ e∈es,k<e.lo∨e.hi≤k
  arr:∀ k∈Xb p,lo≤k∧k≠b
  siz:lo≤w.heap.size
def offR (b:Nat) (p:Option Addr) (es:List RE) (k:Nat):Prop:=k∉b::Xb p∧∀ e∈es,k<e.lo∨e.hi≤k
section
variable {w:World} {b lo:Nat} {p:Option Addr} {es:List RE} {N:Int} {K:VWP}
theorem RingAt.fr {w':World} {L:List Nat} (h:RingAt w b p es N lo) (hf:Fr L w w') (hL:∀ k∈L,offR b p es k):RingAt w' b p es N lo:=by
  obtain ⟨⟨f,c,hB,e0,hO⟩,h2,h3,h4,h5,h6,h7⟩:=h
  refine ⟨⟨f,c,hB.fr hf fun hb=>(hL b hb).1 (List.mem_cons_self ..),e0,hO.fr hf fun k hk hm=>(hL k hm).1 (List.mem_cons_of_mem _ hk)⟩,fun e he=>⟨(h2 e he).1.fr hf fun k hk=>(hL k hk).2 e he,(h2 e he).2⟩,h3,h4,h5,h6,Nat.le_trans h7 hf.size⟩
theorem RingAt.fr0 {w':World} (h:RingAt w b p es N lo) (hf:Fr [] w w'):RingAt w' b p es N lo:=h.fr hf (by simp)
theorem RingAt.lt (h:RingAt w b p es N lo):∀ k∈b::Xb p,k<w.heap.size:=by
  obtain ⟨⟨f,c,hB,e0,hO⟩,_⟩:=h
  intro k hk
  rcases List.mem_cons.1 hk with rfl | hk
  · exact hB.lt
  · exact hO.lt k hk
theorem RingAt.mono {N':Int} (h:RingAt w b p es N lo) (hN:N≤N'):RingAt w b p es N' lo:=
  ⟨h.blk,fun e he=>⟨(h.ent e he).1.mono hN,(h.ent e he).2⟩,h.len,h.pw,h.sep,h.arr,h.siz⟩
theorem XuM {l c i:Nat} {e:RE} (hO:OwnN 3 w p l c (es.flatMap RE.v)) (hl:l=es.length) (he:es[i]?=some e) :
    ∃ g o,IxA Tryz.prog Ys (.slice p l c) (.int .i64 (i:Int)) ⟨g,o,none⟩∧(∀ j v,e.v[j]?=some v→w.cell? ⟨g,o+j,none⟩=some v)∧
      Ld Tryz.prog J8 (.pointer (some ⟨g,o,none⟩)) w (.agg #[.pointer (some ⟨e.bx,0,none⟩),.int .i64 (e.sq:Int),.slice e.kp 16 e.kc]):=by
  have hil:i<l:=by have:=(List.getElem?_eq_some_iff.1 he).1; omega
  obtain ⟨g,o,hx,_,hc⟩:=hO.cellAt (P:=Tryz.prog) (t:=Ys) (by kernel_rfl) (k:=.i64) (i:=i) hil (by omega)
  have hc':∀ j v,e.v[j]?=some v→w.cell? ⟨g,o+j,none⟩=some v:=fun j v hj=>by
    have hlt:=(List.getElem?_eq_some_iff.1 hj).1
    exact hc j v (by rw [RE.v_len] at hlt; omega) (Xhu RE.v_len he hj)
  exact ⟨g,o,hx,hc',Ld.agg (n:=3) (cs:=e.v) (by kernel_rfl) (by kernel_rfl) rfl fun j v hj=>by rw [Xi]; exact hc' j v hj⟩
theorem XsZ (h:∀ w',Fr [] w w'→RingAt w' w.heap.size none [] 1 w'.heap.size→w'.heap.size=w.heap.size+1→K (.pointer (some ⟨w.heap.size,0,none⟩)) w'):Xa Tryz.prog Xq4 #[] w K:=by
  apply XlS
  unfold Xn9
  refine New.intro fun w1 f1 hB1 s1=>h w1 f1 ⟨⟨_,0,hB1,rfl,OwnN.nil _ _⟩,by simp,by simp,.nil,by simp,by simp [Xb],Nat.le_refl _⟩ s1
theorem XoC {i:Nat} {e:RE} (he:es[i]?=some e):(es.map RE.ke)[i]?=some e.ke:=by rw [List.getElem?_map,he]; rfl
theorem XcO (h:RingAt w b p es N lo) {s:Int} (hk:∀ w',Fr [] w w'→K (.int .i64 (Uo (es.map RE.ke) s)) w'):Xa Tryz.prog XgK #[.pointer (some ⟨b,0,none⟩),.int .i64 s] w K:=by
  apply Xdv
  unfold XbI
  obtain ⟨f,c,hB,e0,hO⟩:=h.blk
  have hlen:=h.len
  refine New.intro fun w1 f1 hB1 s1=>⟨_,rfl,_,_,_,by rw [Xi]; exact Ld.blk (by kernel_rfl) (hB.fr0 f1) (by omega) e0,?_⟩
  obtain ⟨k3,hk3⟩:∃ k,k=w.heap.size:=⟨_,rfl⟩
  rw [← hk3] at hB1 ⊢
  apply Z3
  unfold YJ
  refine LoopS.ind (fun k us w'=>∃ i:Nat,i+k=es.length∧us=[.slice p es.length c,.func (.func Xdf) #[] #[.pointer (some ⟨k3,0,none⟩)],.int .i64 0,.int .i64 (es.length:Int),.int .i64 (i:Int)]∧Fr [] w1 w'∧∀ j,j<i→∀ e,(es.map RE.ke)[j]?=some e→(e.sq:Int)≠s) es.length ⟨0,by omega,rfl,Fr.refl _ _,by omega⟩ ?_
  rintro k us rr w2 I μ hgo ⟨i,hi,rfl,f2,hs⟩
  refine ⟨_,_,_,_,_,_,_,rfl,Xc (fun h3=>?_) fun h3=>?_⟩
  · obtain ⟨e,he⟩:∃ e,es[i]?=some e:=⟨_,List.getElem?_eq_getElem (by omega)⟩
    obtain ⟨g,o,hx,_,hld⟩:=XuM (hO.fr0 (f1.then f2)) rfl he
    refine ⟨_,hx,_,_,_,_,_,hld,?_⟩
    refine Js ?_
    apply XaY
    unfold WX
    refine New.intro fun w3 f3 hB3 s3=>⟨_,by rw [Xi]; exact Ld.blk (by kernel_rfl) hB3 (by show (0+1:Nat)<3; omega) rfl,_,Ld.blk (by kernel_rfl) ((hB1.fr0 f2).fr0 f3) (by show (0:Nat)<1; omega) rfl,?_⟩
    refine ⟨_,rfl,Yn (fun heq=>?_) fun hne=>?_⟩
    · obtain ⟨e1,e2⟩:=XoB (XoC he) heq hs
      have:=hk w3 ((f1.then f2).then f3)
      unfold Uo at this
      rw [if_pos e2,e1] at this
      exact ⟨_,rfl,this⟩
    · rw [Xe (by omega) (by omega)]
      refine hgo _ _ _ (k - 1) (by omega) ⟨i+1,by omega,rfl,f2.then f3,fun j hj e' he'=>?_⟩
      by_cases hji:j=i
      · subst hji
        rw [XoC he] at he'
        cases he'
        exact hne
      · exact hs j (by omega) e' he'
  · have hno:=Xqk (ks:=es.map RE.ke) (s:=s) fun j hj e he=>hs j (by rw [List.length_map] at hj; omega) e he
    have:=hk w2 (f1.then f2)
    unfold Uo at this
    rw [if_neg hno] at this
    exact ⟨_,rfl,this⟩
theorem RingAt.sq {s:Int} (h:RingAt w b p es N lo) (hs:XT (es.map RE.ke) s):∃ e,es[YA (es.map RE.ke) s]?=some e∧(e.sq:Int)=s∧e∈es:=by
  obtain ⟨e,h1,h2⟩:=Xql hs
  rw [List.getElem?_map] at h1
  cases he:es[YA (es.map RE.ke) s]? with
  | none=>rw [he] at h1; cases h1
  | some x=>
    rw [he] at h1
    cases h1
    exact ⟨x,rfl,h2,List.mem_of_getElem? he⟩
theorem Xud (h:RingAt w b p es N lo) {s:Int} (hy:∀ e w',XT (es.map RE.ke) s→e∈es→es[YA (es.map RE.ke) s]?=some e→(e.sq:Int)=s→Fr [] w w'→K (.tuple #[.agg #[.pointer (some ⟨e.bx,0,none⟩),.int .i64 (e.sq:Int),.slice e.kp 16 e.kc],.bool true]) w')
    (hn:∀ w',¬ XT (es.map RE.ke) s→Fr [] w w'→K (.tuple #[.agg #[.pointer none,.int .i64 0,.slice none 0 0],.bool false]) w'):Xa Tryz.prog XjJ #[.pointer (some ⟨b,0,none⟩),.int .i64 s] w K:=by
  apply XfH
  unfold XeD
  refine ZL (s:=3) (by kernel_rfl) fun w1 g1 f1 hB1 s1=>?_
  obtain ⟨k4,hk4⟩:∃ k,k=w.heap.size:=⟨_,rfl⟩
  rw [← hk4] at hB1 ⊢
  refine XcO (h.fr0 f1) fun w2 f2=>⟨_,rfl,?_⟩
  have h2:=(h.fr0 f1).fr0 f2
  obtain ⟨f,c,hB,e0,hO⟩:=h2.blk
  have f02:=f1.then f2
  unfold Uo
  by_cases hs:XT (es.map RE.ke) s
  · rw [if_pos hs]
    obtain ⟨e,he,hes,hem⟩:=h2.sq hs
    refine Xc (fun _=>?_) fun hh=>by omega
    obtain ⟨g,o,hx,_,hld⟩:=XuM hO rfl he
    refine ⟨_,rfl,_,_,_,by rw [Xi]; exact Ld.blk (by kernel_rfl) hB (by omega) e0,_,hx,_,_,_,_,_,hld,?_⟩
    refine Sto.agg (m:=3) (cs:=e.v) (by kernel_rfl) rfl (hB1.fr0 f2) (by omega) e.v_one fun w3 f3 hB3 s3=>⟨_,_,rfl,LdA (m:=3) (by kernel_rfl) (by kernel_rfl) hB3 (o:=0) (by omega) e.v rfl (fun j v hj=>?_),?_⟩
    · obtain ⟨q1,q2⟩:=List.getElem?_eq_some_iff.1 hj
      unfold updN
      rw [dif_pos ⟨by omega,by omega⟩]
      simpa using q2
    · exact hy e w3 hs hem he hes (f02.st f3 (by omega))
  · rw [if_neg hs]
    refine Xc (fun hh=>by omega) fun _=>?_
    refine Sto.agg (m:=3) (cs:=[.pointer none,.int .i64 0,.slice none 0 0]) (by kernel_rfl) rfl (hB1.fr0 f2) (by omega) (by simp; exact ⟨rfl,rfl,rfl⟩) fun w3 f3 hB3 s3=>⟨_,_,rfl,LdA (m:=3) (by kernel_rfl) (by kernel_rfl) hB3 (o:=0) (by omega) [.pointer none,.int .i64 0,.slice none 0 0] rfl (fun j v hj=>?_),?_⟩
    · obtain ⟨q1,q2⟩:=List.getElem?_eq_some_iff.1 hj
      unfold updN
      rw [dif_pos ⟨by omega,by omega⟩]
      simpa using q2
    · exact hn w3 hs (f02.st f3 (by omega))
theorem Xli (h:RingAt w b p es N lo) {s:Int} (hy:∀ e w',XT (es.map RE.ke) s→e∈es→es[YA (es.map RE.ke) s]?=some e→(e.sq:Int)=s→Fr [] w w'→K (.tuple #[.pointer (some ⟨e.bx,0,none⟩),.bool true]) w')
    (hn:∀ w',¬ XT (es.map RE.ke) s→Fr [] w w'→K (.tuple #[.pointer none,.bool false]) w'):Xa Tryz.prog XhW #[.pointer (some ⟨b,0,none⟩),.int .i64 s] w K:=by
  apply XeC
  unfold Xc1
  have tail : ∀ {q : Option Addr} {n : Int} {q2 : Option Addr} {l c : Nat} {w1 : World} {b1 : Bool}, Fr [] w w1 → (∀ w', Fr [] w w' → K (.tuple #[.pointer q, .bool b1]) w') →
      ∃ z6,Pu Tryz.prog (zeroValue J8) z6∧New z6.cells J8 w1 fun k6 w2=>∃ w3,Sto Tryz.prog J8 (.pointer (some ⟨k6,0,none⟩)) (.agg #[.pointer q,.int .i64 n,.slice q2 l c]) w2 w3∧∃ p15,Ld Tryz.prog Xpm (.pointer (some ((⟨k6,0,none⟩:Addr).add 0))) w3 (.pointer p15)∧K (.tuple #[.pointer p15,.bool b1]) w3:=by
    intro q n q2 l c w1 b1 f1 hk
    refine ZL (s:=3) (by kernel_rfl) fun w2 g2 f2 hB2 s2=>?_
    refine Sto.agg (m:=3) (cs:=[.pointer q,.int .i64 n,.slice q2 l c]) (by kernel_rfl) rfl hB2 (by omega) (by simp; exact ⟨rfl,rfl,rfl⟩) fun w3 f3 hB3 s3=>⟨_,by rw [Xi]; exact Ld.blk (by kernel_rfl) hB3 (by omega) (by unfold updN; rw [dif_pos ⟨by omega,by simp⟩]; rfl),?_⟩
    exact hk w3 (f1.then (f2.st f3 (Nat.le_refl _)))
  refine Xud h (fun e w1 h1 h2 h3 h4 f1=>⟨_,_,_,_,_,_,rfl,tail f1 fun w' f=>hy e w' h1 h2 h3 h4 f⟩) (fun w1 h1 f1=>⟨_,_,_,_,_,_,rfl,tail f1 fun w' f=>hn w' h1 f⟩)
end
end Go.Sh
end

section
namespace Go.Sh
open Go Go.Fw Go.Proofs
set_option maxRecDepth 100000
set_option linter.unusedVariables false
section
variable {w:World} {b lo:Nat} {p:Option Addr} {es:List RE} {N:Int} {K:VWP}
theorem XpE (es:List RE):∀ u∈es.flatMap RE.v,u.oneCell'=true:=XrU RE.v_one es
theorem Xl7 (h:RingAt w b p es N lo) (hN:1≤N) {s:Int} {q:Option Addr} {l cap:Nat} {key:List UInt8} (hx:Row w q (key.map vb)) (hl:l=key.length) (hcap:l≤cap)
    (hk:∀ w' p' es',Fr (b::Xb p) w w'→RingAt w' b p' es' N lo→(∀ k∈Xb p',k∈Xb p∨w.heap.size≤k)→
      (Z1 (es.map RE.ke) s key≠0→es'=es∧p'=p)→(Z1 (es.map RE.ke) s key=0→∃ e,es'=es++[e]∧e.ke=⟨s.toNat,key⟩∧w.heap.size≤e.lo)→K (.int .i64 (Z1 (es.map RE.ke) s key)) w') :
    Xa Tryz.prog VE #[.pointer (some ⟨b,0,none⟩),.int .i64 s,.slice q l cap] w K:=by
  apply XaX
  unfold WW
  have hlen:=h.len
  have same:∀ (r:Int) w',Z1 (es.map RE.ke) s key=r→r≠0→Fr [] w w'→K (.int .i64 r) w':=by
    intro r w' hr h0 f
    have:=hk w' p es (f.mono (by simp)) (h.fr0 f) (fun k hk=>.inl hk) (fun _=>⟨rfl,rfl⟩) (fun hh=>absurd (hr.symm.trans hh) h0)
    rw [hr] at this; exact this
  have bad:∀ {w':World} {px:Option Addr} {bb:Bool},bb=true→(s<0∨127<s∨key.length≠16)→Fr [] w w'→Ya (some ⟨b,0,none⟩) s q l cap 0 px bb w' K:=by
    intro w' px bb hb hs f
    subst hb
    unfold Ya
    exact X2 (same 11 w' (by unfold Z1; rw [if_pos hs]) (by omega) f)
  refine Xub hx hl hcap (fun h16=>⟨_,_,rfl,?_⟩) fun h16 bx w1 f1 hX=>⟨_,_,rfl,?_⟩
  · refine Xc (fun hs=>bad rfl (.inl hs) (Fr.refl _ _)) fun _=>Xc (fun hs=>bad rfl (.inr (.inl hs)) (Fr.refl _ _)) fun _=>bad (by decide) (.inr (.inr (by omega))) (Fr.refl _ _)
  · refine Xc (fun hs=>bad rfl (.inl hs) f1) fun hs1=>Xc (fun hs=>bad rfl (.inr (.inl hs)) f1) fun hs2=>?_
    have hin:¬ (s<0∨127<s∨key.length≠16):=by omega
    have e0:((0:Int) != 0)=false:=rfl
    rw [e0]
    unfold Ya
    refine Xz (XcO (h.fr0 f1) fun w2 f2=>⟨_,rfl,?_⟩)
    have f02:=f1.then f2
    have h2:=h.fr0 f02
    unfold Uo
    by_cases hs:XT (es.map RE.ke) s
    · rw [if_pos hs]
      exact Xc (fun _=>same 16 w2 (by unfold Z1; rw [if_neg hin,if_pos hs]) (by omega) f02) fun hh=>by omega
    · rw [if_neg hs]
      refine Xc (fun hh=>by omega) fun _=>?_
      obtain ⟨f,c,hB,e1,hO⟩:=h2.blk
      refine ⟨_,rfl,_,_,_,by rw [Xi]; exact Ld.blk (by kernel_rfl) hB (by omega) e1,Xc (fun h3=>?_) fun h3=>?_⟩
      · exact same 18 w2 (by unfold Z1; rw [if_neg hin,if_neg hs,if_pos (by rw [List.length_map]; omega)]) (by omega) f02
      · have hz:Z1 (es.map RE.ke) s key=0:=by unfold Z1; rw [if_neg hin,if_neg hs,if_neg (by rw [List.length_map]; omega)]
        unfold Vq
        refine ⟨fun w'=>Fr [] w2 w',Drw.intro fun w3 f3 s3=>⟨_,rfl,_,_,_,⟨f3,fun w' hw'=>by rw [Xi]; exact Ld.blk (by kernel_rfl) (hB.fr0 hw') (by omega) e1⟩,?_⟩⟩
        have f03:=f02.then f3
        refine Jh (hx.fr0 f03) (by simpa using hl) (by omega) (UZ _) fun kp kc w4 f4 hO4 hn4=>⟨_,_,_,rfl,.inr (f3.then f4),?_⟩
        have hO4:OB w4 kp l kc key w3.heap.size:=⟨hO4,hl,hn4⟩
        subst h16
        obtain ⟨e,he⟩:∃ e:RE,e=⟨s.toNat,key,bx,kp,kc,w.heap.size,w4.heap.size⟩:=⟨_,rfl⟩
        refine ⟨_,_,_,Ef.new (v:=.slice (some ⟨w4.heap.size,0,none⟩) 1 1) (cs:=(([.pointer (some ⟨bx,0,none⟩),.int .i64 s,.slice kp 16 kc]:List Value)).toArray) (e:=J8) (by kernel_rfl) fun w5 f5 hB5 s5=>⟨.inr ((f3.then f4).then f5),?_⟩⟩
        have ev:e.v=[.pointer (some ⟨bx,0,none⟩),.int .i64 s,.slice kp 16 kc]:=by
          rw [he]
          show [Value.pointer (some ⟨bx,0,none⟩),.int .i64 (s.toNat:Int),.slice kp 16 kc]=_
          rw [Int.toNat_of_nonneg (by omega)]
        rw [← ev] at hB5
        have f25:=(f3.then f4).then f5
        obtain ⟨p',c',w6,hap,hO6,f6,hcase⟩:=Ef.appendN (P:=Tryz.prog) (t:=Ys) (ty:=Ys) (s:=3) (by kernel_rfl) (hO.fr0 f25) (m:=1) (d:=1) hB5.rowL rfl e.v_one (by omega)
        refine ⟨_,_,_,_,hap,?_⟩
        have hbl:=h2.lt b (List.mem_cons_self ..)
        have hpl:∀ k∈Xb p,k<w.heap.size:=fun k hk=>h.lt k (List.mem_cons_of_mem _ hk)
        have hbw:=h.lt b (List.mem_cons_self ..)
        have harr:=h.arr
        have hB6:=(hB.fr0 f25).fr f6 fun hm=>(harr b hm).2 rfl
        refine ⟨_,rfl,?_⟩
        rw [Xi]
        refine Sto.blk (by kernel_rfl) hB6 (by omega) rfl rfl fun w7 f7 hB7 s7=>?_
        have n1:=f1.size; have n2:=f2.size; have n3:=f3.size; have n4:=f4.size; have n5:=f5.size; have n6:=f6.size; have n7:=f7.size; have n02:=f02.size; have n25:=f25.size
        have hp':∀ k∈Xb p',k∈Xb p∨w5.heap.size≤k:=by
          rcases hcase with ⟨rfl,_⟩ | ⟨rfl,_⟩
          · exact fun k hk=>.inl hk
          · intro k hk; simp only [Xb,List.mem_singleton] at hk; right; omega
        have hpn:∀ k∈Xb p',k≠b:=by
          intro k hk hkb
          rcases hp' k hk with hh | hh
          · exact (harr k hh).2 hkb
          · omega
        have f57:Fr (b::Xb p) w5 w7:=(f6.mono (fun k hk=>List.mem_cons_of_mem _ hk)).trans f7 (fun k hk=>.inl (by simp at hk; simp [hk]))
        have f07:Fr (b::Xb p) w w7:=((f02.then f25).mono (by simp)).trans f57 (fun k hk=>.inl hk)
        have hold:∀ x∈es,EntAt w7 x N∧lo≤x.lo∧x.sq≤127:=fun x hx=>⟨(h.ent x hx).1.fr f07 fun k hk=>h.sep k hk x hx,(h.ent x hx).2⟩
        have hkl:∀ k∈b::Xb p,k<w.heap.size:=h.lt
        have hnew:EntAt w7 e N∧lo≤e.lo∧e.sq≤127:=by
          have hsz:=h.siz
          refine ⟨?_,by rw [he]; exact hsz,by rw [he]; show s.toNat≤127; omega⟩
          rw [he]
          have hX5:=(hX.fr0 f2).fr0 f25
          refine ⟨0,w1.heap.size,by omega,by omega,(hX5.mono hN).fr f57 (fun k hk=>.inl (hkl k hk)),?_,hO4.cap,fun k hk=>?_,by show w1.heap.size≤w4.heap.size; omega,by show w4.heap.size≤w7.heap.size; omega⟩
          · exact Row.cells_fr (hO4.fr0 f5).row f57 fun k hk hm=>by have:=hO4.2.2 k hk; have:=hkl k hm; omega
          · show w1.heap.size≤k∧k<w4.heap.size
            have:=hO4.2.2 k hk; have:=hO4.lt k hk; omega
        have:=hk w7 p' (es++[e]) f07 ?_ (fun k hk=>by rcases hp' k hk with hh | hh; exact .inl hh; right; omega) (fun hh=>absurd hz hh) (fun _=>⟨e,rfl,by rw [he]; rfl,by rw [he]; exact Nat.le_refl _⟩)
        · rw [hz] at this; exact this
        · have hsz:=h.siz
          refine ⟨⟨_,c',hB7,by rw [List.length_append]; exact upd_same _ _ _,?_⟩,?_,by rw [List.length_append]; show es.length+1≤16; omega,?_,?_,?_,by omega⟩
          · rw [List.length_append,List.flatMap_append,List.flatMap_cons,List.flatMap_nil,List.append_nil]
            exact hO6.fr f7 fun k hk hm=>hpn k hk (by simpa using hm)
          · intro x hx
            rcases List.mem_append.1 hx with hx | hx
            · exact hold x hx
            · simp at hx; subst hx; exact hnew
          · rw [List.pairwise_append]
            refine ⟨h.pw,by simp,fun x hx y hy=>?_⟩
            simp at hy; subst hy
            have hx1:=(h.ent x hx).1.lh
            refine ⟨by rw [he]; exact hx1.2,fun hxs=>Xuc hs x.ke (List.mem_map_of_mem hx) ?_⟩
            rw [he] at hxs
            show (x.sq:Int)=s
            rw [hxs]; show ((s.toNat:Nat):Int)=s; omega
          · intro k hk x hx
            have hkc:k∈b::Xb p∨w5.heap.size≤k:=by
              rcases List.mem_cons.1 hk with rfl | hk
              · exact .inl (List.mem_cons_self ..)
              · rcases hp' k hk with hh | hh
                · exact .inl (List.mem_cons_of_mem _ hh)
                · exact .inr hh
            rcases List.mem_append.1 hx with hx | hx
            · rcases hkc with hh | hh
              · exact h.sep k hh x hx
              · have:=(h.ent x hx).1.lh; right; omega
            · simp at hx; subst hx
              rcases hkc with hh | hh
              · left; rw [he]; exact hkl k hh
              · right; rw [he]; show w4.heap.size≤k; omega
          · intro k hk
            refine ⟨?_,hpn k hk⟩
            rcases hp' k hk with hh | hh
            · exact (harr k hh).1
            · omega
theorem Xjh {l c i:Nat} {vs:List Value} (hO:OwnN 3 w p l c vs) (hi:i<l) (hl:l≤1000000) (h1:∀ u∈vs,u.oneCell'=true)
    (hk:∀ w',Fr (Xb p) w w'→OwnN 3 w' p (l - 1) c (vs.take (i*3)++vs.drop ((i+1)*3))→K (.slice p (l - 1) c) w') :
    Xa Tryz.prog JY #[.slice p l c,.int .i64 (i:Int),.int .i64 ((i+1:Nat):Int)] w K:=by
  apply JH
  unfold YZ
  have hlc:=hO.cap
  have hvl:=hO.1
  refine ⟨_,_,_,Xut (s:=3) (kl:=.i64) (kh:=.i64) (km:=.i64) (lo:=(i:Int)) (hi:=((i+1:Nat):Int)) (mx:=(l:Int)) (by kernel_rfl) (by omega) (by omega) (by omega) (by omega),?_⟩
  refine Yn (fun hh=>by omega) fun _=>Drw.intro fun w1 f1 s1=>?_
  have hO1:=hO.fr0 f1
  have hOc:=hO1.cut (i:=i) (by omega)
  obtain ⟨_,⟨rfl,h0,_⟩ | ⟨g,o,N,f,rfl,hB,hoc,_,hf⟩⟩:=hO1
  · omega
  have p1:=XvR (P:=Tryz.prog) (t:=Ys) (s:=3) (p:=some ⟨g,o,none⟩) (len:=l) (cap:=c) (by kernel_rfl) (n:=i) (by omega)
  rw [XoV] at p1
  refine ⟨_,_,_,p1,_,_,_,XrV (s:=3) (by kernel_rfl) (n:=i+1) (by omega) hlc,?_⟩
  have hR:=(hO.fr0 f1).row.partN (c:=c) (i:=i+1) (s:=3) (by omega) (by omega)
  obtain ⟨w2,hap,hO2,f2,s2⟩:=Ef.appendIn (P:=Tryz.prog) (t:=Ys) (ty:=Ys) (s:=3) (by kernel_rfl) hOc (m:=l - (i+1)) (d:=c - (i+1)) hR (by rw [List.length_drop,hvl,Nat.sub_mul]) (fun u hu=>h1 u (List.mem_of_mem_drop hu)) (by omega)
  refine ⟨_,_,_,_,hap,?_⟩
  have el:i+(l - (i+1))=l - 1:=by omega
  rw [el] at hO2
  rw [el]
  refine ⟨_,_,_,XwI (s:=3) (by kernel_rfl) (a:=l - 1) (b:=l) (by omega) hlc,?_⟩
  rw [XkD (show c≠l - 1 by omega)]
  obtain ⟨hl2,⟨hh,_⟩ | ⟨g2,o2,N2,f2',he,hB2,hoc2,hlc2,hf2⟩⟩:=hO2
  · cases hh
  cases he
  obtain ⟨w3,zs,hcl,f3,hz,hB3,s3⟩:=Ef.clearN (P:=Tryz.prog) (t:=Ys) (s:=3) (by kernel_rfl) hB2 (o:=o+(l - 1)*3) (n:=l - (l - 1)) (d:=c - (l - 1)) (by omega)
  refine ⟨w3,hcl,?_⟩
  refine hk w3 ((f1.mono (by simp)).trans f2 (fun x hx=>.inl hx) |>.trans f3 (fun x hx=>.inl (by simpa [Xb] using hx))) ⟨hl2,.inr ⟨g,o,N2,_,rfl,hB3,hoc2,hlc2,fun j v hj=>?_⟩⟩
  have hjl:=(List.getElem?_eq_some_iff.1 hj).1
  unfold updN
  rw [dif_neg (by omega)]
  exact hf2 j v hj
theorem XoD (h:RingAt w b p es N lo) {s:Int}
    (hk:∀ w' es',Fr (b::Xb p) w w'→RingAt w' b p es' N lo→(∀ e∈es',e∈es)→(Ux (es.map RE.ke) s≠0→es'=es)→es'.map RE.ke=XcN (es.map RE.ke) s→K (.int .i64 (Ux (es.map RE.ke) s)) w') :
    Xa Tryz.prog Xd3 #[.pointer (some ⟨b,0,none⟩),.int .i64 s] w K:=by
  apply XbH
  unfold QI
  have hlen:=h.len
  refine XcO h fun w1 f1=>⟨_,rfl,?_⟩
  have same:∀ (r:Int),Ux (es.map RE.ke) s=r→r≠0→K (.int .i64 r) w1:=by
    intro r hr h0
    have:=hk w1 es (f1.mono (by simp)) (h.fr0 f1) (fun _ h=>h) (fun _=>rfl) (by unfold XcN; rw [if_neg (by rw [hr]; exact h0)])
    rw [hr] at this; exact this
  refine Xc (fun hs=>?_) fun hs1=>?_
  · unfold Zr
    exact X2 (same 11 (by unfold Ux; rw [if_pos (.inl hs)]) (by omega))
  unfold Zr
  refine Xc (fun hs=>same 11 (by unfold Ux; rw [if_pos (.inr hs)]) (by omega)) fun hs2=>?_
  have hin:¬ (s<0∨127<s):=by omega
  unfold Uo
  by_cases hs:XT (es.map RE.ke) s
  · rw [if_pos hs]
    refine Xc (fun hh=>by omega) fun _=>?_
    have hz:Ux (es.map RE.ke) s=0:=by unfold Ux; rw [if_neg hin,if_pos hs]
    have hil:YA (es.map RE.ke) s<es.length:=by have:YA (es.map RE.ke) s<(es.map RE.ke).length:=hs; rwa [List.length_map] at this
    have hrK:XcN (es.map RE.ke) s=((es.map RE.ke).take (YA (es.map RE.ke) s)++(es.map RE.ke).drop (YA (es.map RE.ke) s+1)):=by unfold XcN; rw [if_pos hz]
    obtain ⟨i,hi⟩:∃ i,i=YA (es.map RE.ke) s:=⟨_,rfl⟩
    rw [← hi] at hil hrK ⊢
    unfold VH
    have h1:=h.fr0 f1
    obtain ⟨f,c,hB,e1,hO⟩:=h1.blk
    refine ⟨_,rfl,_,_,_,by rw [Xi]; exact Ld.blk (by kernel_rfl) hB (by omega) e1,?_⟩
    have ew:IntKind.i64.wrap ((i:Int)+1)=((i+1:Nat):Int):=by rw [Xe (by omega) (by omega)]; omega
    rw [ew]
    refine Xjh hO hil (by omega) (XpE es) fun w2 f2 hO2=>⟨_,_,_,rfl,_,rfl,?_⟩
    have harr:=h.arr
    have hB2:=hB.fr f2 fun hm=>(harr b hm).2 rfl
    rw [Xi]
    refine Sto.blk (by kernel_rfl) hB2 (by omega) rfl rfl fun w3 f3 hB3 s3=>?_
    have f13:Fr (b::Xb p) w1 w3:=(f2.mono (fun k hk=>List.mem_cons_of_mem _ hk)).trans f3 (fun k hk=>.inl (by simp at hk; simp [hk]))
    have f03:Fr (b::Xb p) w w3:=(f1.mono (by simp)).trans f13 (fun k hk=>.inl hk)
    have hsub:(es.take i++es.drop (i+1)).Sublist es:=by
      have:(es.eraseIdx i).Sublist es:=List.eraseIdx_sublist ..
      rwa [List.eraseIdx_eq_take_drop_succ] at this
    have hmem:∀ e∈es.take i++es.drop (i+1),e∈es:=fun e he=>hsub.subset he
    have hln:(es.take i++es.drop (i+1)).length=es.length - 1:=by rw [List.length_append,List.length_take,List.length_drop]; omega
    have:=hk w3 (es.take i++es.drop (i+1)) f03 ⟨⟨_,c,hB3,by rw [hln]; exact upd_same _ _ _,?_⟩,?_,by rw [hln]; omega,h.pw.sublist hsub,fun k hk e he=>h.sep k hk e (hmem e he),harr,Nat.le_trans h.siz f03.size⟩ hmem (fun hh=>absurd hz hh) ?_
    · rw [hz] at this; exact this
    · rw [hln,List.flatMap_append,← Xjw RE.v_len,← Xjx RE.v_len]
      exact hO2.fr f3 fun k hk hm=>(harr k hk).2 (by simpa using hm)
    · intro e he
      exact ⟨(h.ent e (hmem e he)).1.fr f03 fun k hk=>h.sep k hk e (hmem e he),(h.ent e (hmem e he)).2⟩
    · rw [hrK,List.map_append,List.map_take,List.map_drop]
  · rw [if_neg hs]
    exact Xc (fun _=>same 17 (by unfold Ux; rw [if_neg hin,if_neg hs]) (by omega)) fun hh=>by omega
end
end Go.Sh
end

section
namespace Go.Sh
open Go Go.Fw Go.Proofs
set_option maxRecDepth 100000
set_option linter.unusedVariables false
structure RR where
  sq:Nat
  key:List UInt8
  kp:Option Addr
  kc:Nat
def RR.ke (e:RR):KE:=⟨e.sq,e.key⟩
def RR.v (e:RR):List Value:=[.int .i64 (e.sq:Int),.slice e.kp 16 e.kc]
theorem RR.v_len (e:RR):e.v.length=2:=rfl
theorem RR.v_one (e:RR):∀ u∈e.v,u.oneCell'=true:=by
  intro u hu
  simp [RR.v] at hu
  rcases hu with rfl | rfl <;> rfl
theorem Xgm (rs:List RR):∀ u∈rs.flatMap RR.v,u.oneCell'=true:=XrU RR.v_one rs
structure RefAt (w:World) (r:Nat) (q:Option Addr) (rs:List RR) (lo:Nat):Prop where
  blk:∃ f c,Blk w r 1 f∧f 0=.slice q rs.length c∧OwnN 2 w q rs.length c (rs.flatMap RR.v)
  ent:∀ e∈rs,Row w e.kp (e.key.map vb)∧e.key.length=16∧16≤e.kc∧∀ k∈Xb e.kp,k∉r::Xb q∧k<w.heap.size
  len:rs.length≤16
  arr:∀ k∈Xb q,lo≤k∧k≠r
  siz:lo≤w.heap.size
def Xkw (r:Nat) (q:Option Addr) (rs:List RR) (k:Nat):Prop:=k∉r::Xb q∧∀ e∈rs,k∉Xb e.kp
section
variable {w:World} {r lo:Nat} {q:Option Addr} {rs:List RR} {K:VWP}
theorem RefAt.fr {w':World} {L:List Nat} (h:RefAt w r q rs lo) (hf:Fr L w w') (hL:∀ k∈L,Xkw r q rs k):RefAt w' r q rs lo:=by
  obtain ⟨⟨f,c,hB,e0,hO⟩,h2,h3,h4,h5⟩:=h
  refine ⟨⟨f,c,hB.fr hf fun hb=>(hL r hb).1 (List.mem_cons_self ..),e0,hO.fr hf fun k hk hm=>(hL k hm).1 (List.mem_cons_of_mem _ hk)⟩,fun e he=>?_,h3,h4,Nat.le_trans h5 hf.size⟩
  obtain ⟨a1,a2,a3,a4⟩:=h2 e he
  exact ⟨Row.cells_fr a1 hf fun k hk hm=>(hL k hm).2 e he hk,a2,a3,fun k hk=>⟨(a4 k hk).1,Nat.lt_of_lt_of_le (a4 k hk).2 hf.size⟩⟩
theorem RefAt.fr0 {w':World} (h:RefAt w r q rs lo) (hf:Fr [] w w'):RefAt w' r q rs lo:=h.fr hf (by simp)
theorem RefAt.lt (h:RefAt w r q rs lo):∀ k∈r::Xb q,k<w.heap.size:=by
  obtain ⟨⟨f,c,hB,e0,hO⟩,_⟩:=h
  intro k hk
  rcases List.mem_cons.1 hk with rfl | hk
  · exact hB.lt
  · exact hO.lt k hk
theorem RefAt.ofNew {f:Nat→Value} (hB:Blk w r 1 f) (h0:f 0=.slice none 0 0):RefAt w r none [] w.heap.size:=
  ⟨⟨f,0,hB,h0,OwnN.nil _ _⟩,by simp,by simp,by simp [Xb],Nat.le_refl _⟩
theorem XoE {i:Nat} {e:RR} (he:rs[i]?=some e):(rs.map RR.ke)[i]?=some e.ke:=by rw [List.getElem?_map,he]; rfl
theorem Xji {l c i:Nat} {e:RR} (hO:OwnN 2 w q l c (rs.flatMap RR.v)) (hl:l=rs.length) (he:rs[i]?=some e) :
    ∃ g o,IxA Tryz.prog XK (.slice q l c) (.int .i64 (i:Int)) ⟨g,o,none⟩∧Ld Tryz.prog Y9 (.pointer (some ((⟨g,o,none⟩:Addr).add 0))) w (.int .i64 (e.sq:Int))∧
      Ld Tryz.prog Xg (.pointer (some ((⟨g,o,none⟩:Addr).add 1))) w (.slice e.kp 16 e.kc):=by
  have hil:i<l:=by have:=(List.getElem?_eq_some_iff.1 he).1; omega
  obtain ⟨g,o,hx,_,hc⟩:=hO.cellAt (P:=Tryz.prog) (t:=XK) (by kernel_rfl) (k:=.i64) (i:=i) hil (by omega)
  have hc':∀ j v,e.v[j]?=some v→w.cell? ⟨g,o+j,none⟩=some v:=fun j v hj=>by
    have hlt:=(List.getElem?_eq_some_iff.1 hj).1
    exact hc j v (by rw [RR.v_len] at hlt; omega) (Xhu RR.v_len he hj)
  exact ⟨g,o,hx,by rw [Xi]; exact Ld.cell (by kernel_rfl) (hc' 0 _ rfl),by rw [Xi]; exact Ld.cell (by kernel_rfl) (hc' 1 _ rfl)⟩
theorem XaF (h:RefAt w r q rs lo) {s:Int} (hk:K (.int .i64 (Uo (rs.map RR.ke) s)) w):Xa Tryz.prog Xfj #[.pointer (some ⟨r,0,none⟩),.int .i64 s] w K:=by
  apply Xcz
  unfold Xay
  obtain ⟨f,c,hB,e0,hO⟩:=h.blk
  have hlen:=h.len
  have ldx:Ld Tryz.prog XK (.pointer (some ((⟨r,0,none⟩:Addr).add 0))) w (.slice q rs.length c):=by rw [Xi]; exact Ld.blk (by kernel_rfl) hB (by omega) e0
  refine LoopS.ind (fun k us w'=>w'=w∧∃ i:Nat,i+k=rs.length∧us=[.pointer (some ⟨r,0,none⟩),.int .i64 s,.int .i64 0,.int .i64 (i:Int)]∧∀ j,j<i→∀ e,(rs.map RR.ke)[j]?=some e→(e.sq:Int)≠s) rs.length ⟨rfl,0,by omega,rfl,by omega⟩ ?_
  rintro k us rr w2 I μ hgo ⟨rfl,i,hi,rfl,hs⟩
  refine ⟨_,_,_,_,rfl,_,rfl,_,_,_,ldx,Xc (fun h3=>?_) fun h3=>?_⟩
  · obtain ⟨e,he⟩:∃ e,rs[i]?=some e:=⟨_,List.getElem?_eq_getElem (by omega)⟩
    obtain ⟨g,o,hx,hsq,_⟩:=Xji hO rfl he
    refine ⟨_,rfl,_,_,_,ldx,_,hx,_,hsq,Yn (fun heq=>?_) fun hne=>?_⟩
    · obtain ⟨e1,e2⟩:=XoB (XoE he) heq hs
      unfold Uo at hk
      rw [if_pos e2,e1] at hk
      exact hk
    · rw [Xe (by omega) (by omega)]
      refine hgo _ _ _ (k - 1) (by omega) ⟨rfl,i+1,by omega,rfl,fun j hj e' he'=>?_⟩
      by_cases hji:j=i
      · subst hji
        rw [XoE he] at he'
        cases he'
        exact hne
      · exact hs j (by omega) e' he'
  · have hno:=Xqk (ks:=rs.map RR.ke) (s:=s) fun j hj e he=>hs j (by rw [List.length_map] at hj; omega) e he
    unfold Uo at hk
    rw [if_neg hno] at hk
    exact hk
theorem XoF (h:RefAt w r q rs lo) {s:Int} {kq:Option Addr} {l cap:Nat} {key:List UInt8} (hx:Row w kq (key.map vb)) (hl:l=key.length) (hcap:l≤cap)
    (hk:∀ w' q' rs',Fr (r::Xb q) w w'→RefAt w' r q' rs' lo→(∀ k∈Xb q',k∈Xb q∨w.heap.size≤k)→(∀ e∈rs',e∈rs∨∀ k∈Xb e.kp,w.heap.size≤k)→rs'.map RR.ke=Xhk (rs.map RR.ke) s key→K (.int .i64 (Z1 (rs.map RR.ke) s key)) w') :
    Xa Tryz.prog Xb8 #[.pointer (some ⟨r,0,none⟩),.int .i64 s,.slice kq l cap] w K:=by
  apply Q3
  unfold Wn
  have hlen:=h.len
  have same:∀ (n:Int),Z1 (rs.map RR.ke) s key=n→n≠0→K (.int .i64 n) w:=by
    intro n hr h0
    have:=hk w q rs (Fr.refl _ _) h (fun k hk=>.inl hk) (fun e he=>.inl he) (by unfold Xhk; rw [if_neg (by rw [hr]; exact h0)])
    rw [hr] at this; exact this
  refine Xc (fun hs=>same 11 (by unfold Z1; rw [if_pos (.inl hs)]) (by omega)) fun hs1=>Xc (fun hs=>same 11 (by unfold Z1; rw [if_pos (.inr (.inl hs))]) (by omega)) fun hs2=>XF (fun h16=>same 11 (by unfold Z1; rw [if_pos (.inr (.inr (by omega)))]) (by omega)) fun h16=>?_
  have hin:¬ (s<0∨127<s∨key.length≠16):=by omega
  unfold U6
  refine XaF h ⟨_,rfl,?_⟩
  unfold Uo
  by_cases hs:XT (rs.map RR.ke) s
  · rw [if_pos hs]
    exact Xc (fun _=>same 16 (by unfold Z1; rw [if_neg hin,if_pos hs]) (by omega)) fun hh=>by omega
  · rw [if_neg hs]
    refine Xc (fun hh=>by omega) fun _=>?_
    obtain ⟨f,c,hB,e1,hO⟩:=h.blk
    have ldx:∀ {w'},Fr [] w w'→Ld Tryz.prog XK (.pointer (some ((⟨r,0,none⟩:Addr).add 0))) w' (.slice q rs.length c):=fun {w'} f=>by rw [Xi]; exact Ld.blk (by kernel_rfl) (hB.fr0 f) (by omega) e1
    refine ⟨_,rfl,_,_,_,ldx (Fr.refl _ _),Yn (fun h3=>?_) fun h3=>?_⟩
    · exact same 18 (by unfold Z1; rw [if_neg hin,if_neg hs,if_pos (by rw [List.length_map]; omega)]) (by omega)
    · have hz:Z1 (rs.map RR.ke) s key=0:=by unfold Z1; rw [if_neg hin,if_neg hs,if_neg (by rw [List.length_map]; omega)]
      refine ⟨fun w'=>Fr [] w w',Drw.intro fun w2 f2 s2=>⟨_,rfl,_,_,_,⟨f2,fun w' hw'=>ldx hw'⟩,?_⟩⟩
      refine mk0 fun p3 w3 f3 hO3 s3=>⟨.inr (f2.then f3),?_⟩
      refine JW (m:=l) hO3 (by omega) ((hx.fr0 f2).fr0 f3) hl (by omega) fun kp kc w4 f4 hO4=>?_
      have f24:Fr [] w2 w4:=f3.trans f4 (fun y hy=>.inr (hO3.2.2 y hy))
      have f04:=f2.then f24
      refine ⟨.inr f04,?_⟩
      have hl16:0+l=16:=by omega
      rw [hl16,List.nil_append] at hO4
      rw [hl16]
      obtain ⟨e,he⟩:∃ e:RR,e=⟨s.toNat,key,kp,kc⟩:=⟨_,rfl⟩
      refine ⟨_,_,_,Ef.new (v:=.slice (some ⟨w4.heap.size,0,none⟩) 1 1) (cs:=(([.int .i64 s,.slice kp 16 kc]:List Value)).toArray) (e:=Xf3) (by kernel_rfl) fun w5 f5 hB5 s5=>⟨.inr (f04.then f5),?_⟩⟩
      have ev:e.v=[.int .i64 s,.slice kp 16 kc]:=by
        rw [he]
        show [Value.int .i64 (s.toNat:Int),.slice kp 16 kc]=_
        rw [Int.toNat_of_nonneg (by omega)]
      rw [← ev] at hB5
      have f05:=f04.then f5
      obtain ⟨q',c',w6,hap,hO6,f6,hcase⟩:=Ef.appendN (P:=Tryz.prog) (t:=XK) (ty:=XK) (s:=2) (by kernel_rfl) (hO.fr0 f05) (m:=1) (d:=1) hB5.rowL rfl e.v_one (by omega)
      refine ⟨_,_,_,_,hap,?_⟩
      have hql:∀ k∈r::Xb q,k<w.heap.size:=h.lt
      have hrl:=hql r (List.mem_cons_self ..)
      have harr:=h.arr
      have hB6:=(hB.fr0 f05).fr f6 fun hm=>(harr r hm).2 rfl
      refine ⟨_,rfl,?_⟩
      rw [Xi]
      refine Sto.blk (by kernel_rfl) hB6 (by omega) rfl rfl fun w7 f7 hB7 s7=>?_
      have n2:=f2.size; have n3:=f3.size; have n24:=f24.size; have n5:=f5.size; have n6:=f6.size; have n7:=f7.size; have n05:=f05.size
      have hq':∀ k∈Xb q',k∈Xb q∨w5.heap.size≤k:=by
        rcases hcase with ⟨rfl,_⟩ | ⟨rfl,_⟩
        · exact fun k hk=>.inl hk
        · intro k hk; simp only [Xb,List.mem_singleton] at hk; right; omega
      have hqn:∀ k∈Xb q',k≠r:=by
        intro k hk hkr
        rcases hq' k hk with hh | hh
        · exact (harr k hh).2 hkr
        · omega
      have hqc:∀ k∈r::Xb q',k∈r::Xb q∨w5.heap.size≤k:=by
        intro k hk
        rcases List.mem_cons.1 hk with rfl | hk
        · exact .inl (List.mem_cons_self ..)
        · rcases hq' k hk with hh | hh
          · exact .inl (List.mem_cons_of_mem _ hh)
          · exact .inr hh
      have f57:Fr (r::Xb q) w5 w7:=(f6.mono (fun k hk=>List.mem_cons_of_mem _ hk)).trans f7 (fun k hk=>.inl (by simp at hk; simp [hk]))
      have f07:Fr (r::Xb q) w w7:=(f05.mono (by simp)).trans f57 (fun k hk=>.inl hk)
      have:=hk w7 q' (rs++[e]) f07 ?_ (fun k hk=>by rcases hq' k hk with hh | hh; exact .inl hh; right; omega) (fun x hx=>?_) ?_
      · rw [hz] at this; exact this
      · have hsz:=h.siz
        refine ⟨⟨_,c',hB7,by rw [List.length_append]; exact upd_same _ _ _,?_⟩,?_,by rw [List.length_append]; show rs.length+1≤16; omega,fun k hk=>⟨?_,hqn k hk⟩,by omega⟩
        · rw [List.length_append,List.flatMap_append,List.flatMap_cons,List.flatMap_nil,List.append_nil]
          exact hO6.fr f7 fun k hk hm=>hqn k hk (by simpa using hm)
        · intro x hx
          rcases List.mem_append.1 hx with hx | hx
          · obtain ⟨a1,a2,a3,a4⟩:=h.ent x hx
            refine ⟨Row.cells_fr a1 f07 fun k hk hm=>(a4 k hk).1 hm,a2,a3,fun k hk=>⟨fun hm=>?_,by have:=(a4 k hk).2; omega⟩⟩
            rcases hqc k hm with hh | hh
            · exact (a4 k hk).1 hh
            · have:=(a4 k hk).2; omega
          · simp at hx; subst hx
            rw [he]
            refine ⟨Row.cells_fr (hO4.fr0 f5).row f57 fun k hk hm=>by have:=hO4.2.2 k hk; have:=hql k hm; omega,by show key.length=16; omega,hO4.cap,fun k hk=>⟨fun hm=>?_,by have:=hO4.lt k hk; omega⟩⟩
            have h1:=hO4.2.2 k hk; have h2:=hO4.lt k hk
            rcases hqc k hm with hh | hh
            · have:=hql k hh; omega
            · omega
        · rcases hq' k hk with hh | hh
          · exact (harr k hh).1
          · omega
      · rcases List.mem_append.1 hx with hx | hx
        · exact .inl hx
        · simp at hx; subst hx
          right
          rw [he]
          intro k hk
          have:=hO4.2.2 k hk; omega
      · unfold Xhk
        rw [if_pos hz,List.map_append,he]; rfl
theorem XpF (h:RefAt w r q rs lo) {s:Int}
    (hk:∀ w' q' rs',Fr (r::Xb q) w w'→RefAt w' r q' rs' lo→(∀ k∈Xb q',k∈Xb q∨w.heap.size≤k)→(∀ e∈rs',e∈rs)→rs'.map RR.ke=XcN (rs.map RR.ke) s→K (.int .i64 (Ux (rs.map RR.ke) s)) w') :
    Xa Tryz.prog Xc9 #[.pointer (some ⟨r,0,none⟩),.int .i64 s] w K:=by
  apply XaZ
  unfold WY
  have hlen:=h.len
  have same:∀ (n:Int),Ux (rs.map RR.ke) s=n→n≠0→K (.int .i64 n) w:=by
    intro n hr h0
    have:=hk w q rs (Fr.refl _ _) h (fun k hk=>.inl hk) (fun e he=>he) (by unfold XcN; rw [if_neg (by rw [hr]; exact h0)])
    rw [hr] at this; exact this
  refine Xc (fun hs=>same 11 (by unfold Ux; rw [if_pos (.inl hs)]) (by omega)) fun hs1=>Xc (fun hs=>same 11 (by unfold Ux; rw [if_pos (.inr hs)]) (by omega)) fun hs2=>?_
  have hin:¬ (s<0∨127<s):=by omega
  unfold Vr
  refine XaF h ⟨_,rfl,?_⟩
  unfold Uo
  by_cases hs:XT (rs.map RR.ke) s
  · rw [if_pos hs]
    refine Xc (fun hh=>by omega) fun _=>?_
    have hz:Ux (rs.map RR.ke) s=0:=by unfold Ux; rw [if_neg hin,if_pos hs]
    have hil:YA (rs.map RR.ke) s<rs.length:=by have:YA (rs.map RR.ke) s<(rs.map RR.ke).length:=hs; rwa [List.length_map] at this
    have hrK:XcN (rs.map RR.ke) s=((rs.map RR.ke).take (YA (rs.map RR.ke) s)++(rs.map RR.ke).drop (YA (rs.map RR.ke) s+1)):=by unfold XcN; rw [if_pos hz]
    obtain ⟨i,hi⟩:∃ i,i=YA (rs.map RR.ke) s:=⟨_,rfl⟩
    rw [← hi] at hil hrK ⊢
    obtain ⟨f,c,hB,e1,hO⟩:=h.blk
    have hlc:=hO.cap
    have ldx:∀ {w'},Fr [] w w'→Ld Tryz.prog XK (.pointer (some ((⟨r,0,none⟩:Addr).add 0))) w' (.slice q rs.length c):=fun {w'} f=>by rw [Xi]; exact Ld.blk (by kernel_rfl) (hB.fr0 f) (by omega) e1
    have ew:IntKind.i64.wrap ((i:Int)+1)=((i+1:Nat):Int):=by rw [Xe (by omega) (by omega)]; omega
    refine ⟨fun w'=>Fr [] w w',Drw.intro fun w2 f2 s2=>⟨_,rfl,_,rfl,_,_,_,⟨f2,fun w' hw'=>ldx hw'⟩,?_⟩⟩
    rw [ew]
    refine ⟨_,_,_,XvR (s:=2) (by kernel_rfl) (n:=i) (by omega),_,_,_,⟨f2,fun w' hw'=>ldx hw'⟩,_,_,_,XrV (s:=2) (by kernel_rfl) (n:=i+1) (by omega) hlc,?_⟩
    refine ⟨_,_,_,Ef.new (cs:=#[]) (v:=.slice (some ⟨w2.heap.size,0,none⟩) 0 0) (e:=Xf3) (by kernel_rfl) fun w3 f3 hB3 s3=>⟨.inr (f2.then f3),?_⟩⟩
    have hO3:OwnN 2 w3 (some ⟨w2.heap.size,0,none⟩) 0 0 []:=⟨rfl,.inr ⟨_,_,_,_,rfl,hB3,by simp,by simp,by simp⟩⟩
    have f03:=f2.then f3
    have hv:=hO.1
    have hR1:Row w3 (Go.Fw.partAt q c 0 2) ((rs.flatMap RR.v).take (i*2)):=by
      have:=((hO.fr0 f03).row.partN (c:=c) (i:=0) (s:=2) (by omega) (by omega)).take (i*2)
      rwa [Nat.zero_mul,List.drop_zero] at this
    obtain ⟨p4,c4,w4,hap4,hO4,f4,hcase4⟩:=Ef.appendN (P:=Tryz.prog) (t:=XK) (ty:=XK) (s:=2) (by kernel_rfl) hO3 (m:=i) (d:=c) hR1 (by rw [List.length_take]; omega) (fun u hu=>Xgm rs u (List.mem_of_mem_take hu)) (by omega)
    rw [Nat.zero_add,List.nil_append] at hO4
    rw [Nat.zero_add] at hap4
    have hp4:∀ k∈Xb p4,w.heap.size≤k:=by
      have:=f2.size; have:=f3.size
      rcases hcase4 with ⟨rfl,_⟩ | ⟨rfl,_⟩
      · intro k hk; simp [Xb] at hk; omega
      · intro k hk; simp only [Xb,List.mem_singleton] at hk; omega
    have f24:Fr [] w2 w4:=f3.trans f4 (fun k hk=>.inr (by simp [Xb] at hk; omega))
    have f04:=f2.then f24
    refine ⟨_,_,_,_,hap4,.inr f04,?_⟩
    have hR2:=(hO.fr0 f04).row.partN (c:=c) (i:=i+1) (s:=2) (by omega) (by omega)
    obtain ⟨p5,c5,w5,hap5,hO5,f5,hcase5⟩:=Ef.appendN (P:=Tryz.prog) (t:=XK) (ty:=XK) (s:=2) (by kernel_rfl) hO4 (m:=rs.length - (i+1)) (d:=c - (i+1)) hR2 (by rw [List.length_drop,hv,Nat.sub_mul]) (fun u hu=>Xgm rs u (List.mem_of_mem_drop hu)) (by omega)
    have hp5:∀ k∈Xb p5,w.heap.size≤k:=by
      have:=f04.size
      rcases hcase5 with ⟨rfl,_⟩ | ⟨rfl,_⟩
      · exact hp4
      · intro k hk; simp only [Xb,List.mem_singleton] at hk; omega
    have f05:Fr [] w w5:=f04.trans f5 (fun k hk=>.inr (hp4 k hk))
    refine ⟨_,_,_,_,hap5,_,rfl,?_⟩
    have hrl:=h.lt r (List.mem_cons_self ..)
    rw [Xi]
    refine Sto.blk (by kernel_rfl) (hB.fr0 f05) (by omega) rfl rfl fun w6 f6 hB6 s6=>?_
    have f06:Fr (r::Xb q) w w6:=(f05.mono (by simp)).trans f6 (fun k hk=>.inl (by simp at hk; simp [hk]))
    have n6:=f06.size
    have hsub:(rs.take i++rs.drop (i+1)).Sublist rs:=by
      have:(rs.eraseIdx i).Sublist rs:=List.eraseIdx_sublist ..
      rwa [List.eraseIdx_eq_take_drop_succ] at this
    have hmem:∀ e∈rs.take i++rs.drop (i+1),e∈rs:=fun e he=>hsub.subset he
    have hln:(rs.take i++rs.drop (i+1)).length=rs.length - 1:=by rw [List.length_append,List.length_take,List.length_drop]; omega
    have hln2:i+(rs.length - (i+1))=rs.length - 1:=by omega
    have:=hk w6 p5 (rs.take i++rs.drop (i+1)) f06 ⟨⟨_,c5,hB6,by rw [hln,hln2]; exact upd_same _ _ _,?_⟩,?_,by rw [hln]; omega,fun k hk=>⟨by have:=hp5 k hk; have:=h.siz; omega,fun hh=>by have:=hp5 k hk; omega⟩,Nat.le_trans h.siz n6⟩ (fun k hk=>.inr (hp5 k hk)) hmem ?_
    · rw [hz] at this; exact this
    · rw [hln,List.flatMap_append,← Xjw RR.v_len,← Xjx RR.v_len,← hln2]
      exact hO5.fr f6 fun k hk hm=>by have:=hp5 k hk; simp at hm; omega
    · intro e he
      obtain ⟨a1,a2,a3,a4⟩:=h.ent e (hmem e he)
      refine ⟨Row.cells_fr a1 f06 fun k hk hm=>(a4 k hk).1 hm,a2,a3,fun k hk=>⟨fun hm=>?_,by have:=(a4 k hk).2; omega⟩⟩
      rcases List.mem_cons.1 hm with hkr | hm
      · exact (a4 k hk).1 (by rw [hkr]; exact List.mem_cons_self ..)
      · have:=hp5 k hm; have:=(a4 k hk).2; omega
    · rw [hrK,List.map_append,List.map_take,List.map_drop]
  · rw [if_neg hs]
    exact Xc (fun _=>same 17 (by unfold Ux; rw [if_neg hin,if_neg hs]) (by omega)) fun hh=>by omega
end
end Go.Sh
end

section
namespace Go.Sh
open Go Go.Fw Go.Proofs
set_option maxRecDepth 100000
set_option linter.unusedVariables false
structure RC where
  op:Int
  sq:Int
  kp:Option Addr
  kc:Nat
  key:List UInt8
def RC.v (x:RC):List Value:=[.int .i64 x.op,.int .i64 x.sq,.slice x.kp x.key.length x.kc]
theorem RC.v_len (x:RC):x.v.length=3:=rfl
def RC.ok (w:World) (x:RC):Prop:=Row w x.kp (x.key.map vb)∧x.key.length≤x.kc
theorem RC.ok.fr0 {w w':World} {x:RC} (h:RC.ok w x) (f:Fr [] w w'):RC.ok w' x:=⟨h.1.fr0 f,h.2⟩
theorem rcalls_of {w:World}:∀ (vss:List (List Value)),(∀ vs∈vss,vs.length=3∧DecL w [.int .i64,.int .i64,.bytes] vs)→∃ cs:List RC,(∀ x∈cs,RC.ok w x)∧cs.length=vss.length∧vss.flatten=cs.flatMap RC.v:=by
  intro vss
  induction vss with
  | nil=>intro _; exact ⟨[],by simp,rfl,rfl⟩
  | cons vs l ih=>
    intro h
    obtain ⟨cs,h1,h2,h3⟩:=ih fun y hy=>h y (List.mem_cons_of_mem _ hy)
    obtain ⟨a1,r1,e1,⟨op,rfl,_⟩,a2,r2,e2,⟨sq,rfl,_⟩,a3,r3,e3,⟨q,xs,c,rfl,hc,_,hR⟩,rfl⟩:=(h vs (List.mem_cons_self ..)).2
    refine ⟨⟨op,sq,q,c,xs⟩::cs,fun x hx=>?_,by simp [h2],?_⟩
    · rcases List.mem_cons.1 hx with rfl | hx
      · exact ⟨hR,hc⟩
      · exact h1 x hx
    · rw [List.flatten_cons,h3,e1,e2,e3]
      simp [RC.v]
def UR (ks:List KE) (x:RC):List KE:=if x.op=0 then Xhk ks x.sq x.key else if x.op=1 then XcN ks x.sq else ks
section
variable {w:World} {K:VWP}
theorem Xqm {p0:Option Addr} {l0 c0 i:Nat} {cs:List RC} (h0:Row w p0 (cs.flatMap RC.v)) (hl0:l0=cs.length) (hi:i<l0) :
    ∃ x g o,cs[i]?=some x∧x∈cs∧IxA Tryz.prog Xbn (.slice p0 l0 c0) (.int .i64 (i:Int)) ⟨g,o,none⟩∧Ld Tryz.prog T_law19_Call (.pointer (some ⟨g,o,none⟩)) w (.agg #[.int .i64 x.op,.int .i64 x.sq,.slice x.kp x.key.length x.kc])∧Ld Tryz.prog Xg (.pointer (some ((⟨g,o,none⟩:Addr).add 2))) w (.slice x.kp x.key.length x.kc):=by
  obtain ⟨x,hx⟩:∃ x,cs[i]?=some x:=⟨_,List.getElem?_eq_getElem (by omega)⟩
  obtain ⟨g,o,ha,_,hc⟩:=h0.cellAt (P:=Tryz.prog) (t:=Xbn) (s:=3) (by kernel_rfl) (k:=.i64) (l:=l0) (c:=c0) (i:=i) (by rw [XrT RC.v_len,hl0]) (by omega) (by omega)
  have hc':∀ j v,x.v[j]?=some v→w.cell? ⟨g,o+j,none⟩=some v:=fun j v hj=>by
    have hlt:=(List.getElem?_eq_some_iff.1 hj).1
    exact hc j v (by rw [RC.v_len] at hlt; omega) (Xhu RC.v_len hx hj)
  exact ⟨x,g,o,hx,List.mem_of_getElem? hx,ha,Ld.agg (n:=3) (cs:=x.v) (by kernel_rfl) (by kernel_rfl) rfl (fun j v hj=>by rw [Xi]; exact hc' j v hj),by rw [Xi]; exact Ld.cell (by kernel_rfl) (hc' 2 _ rfl)⟩
def Xwv (cs:List RC):Prop:=cs.length≤60∧∀ x∈cs,x.key.length≤100
theorem Xs0 {p0:Option Addr} {l0 c0:Nat} {cs:List RC} (h0:Row w p0 (cs.flatMap RC.v)) (hl0:l0=cs.length) (hy:K (.bool true) w) (hn:Xwv cs→K (.bool false) w):Xa Tryz.prog Xlu #[.slice p0 l0 c0] w K:=by
  apply Xg5
  unfold Xgd
  refine Xc (fun _=>hy) fun g0=>?_
  refine LoopS.ind (fun k us w'=>w'=w∧∃ i:Nat,i+k=l0∧us=[.slice p0 l0 c0,.bool false,.int .i64 (i:Int)]∧∀ j,j<i→∀ x,cs[j]?=some x→x.key.length≤100) l0 ⟨rfl,0,by omega,rfl,by omega⟩ ?_
  rintro k us rr w2 I μ hgo ⟨rfl,i,hi,rfl,hs⟩
  refine ⟨_,_,_,_,_,rfl,Xc (fun h3=>?_) fun h3=>?_⟩
  · obtain ⟨x,g,o,hx,hm,ha,hld,hld2⟩:=Xqm (c0:=c0) h0 hl0 (i:=i) (by omega)
    refine ⟨_,ha,_,_,_,hld2,Xc (fun _=>hy) fun h4=>?_⟩
    rw [Xe (by omega) (by omega)]
    refine hgo _ _ _ (k - 1) (by omega) ⟨rfl,i+1,by omega,rfl,fun j hj y hy'=>?_⟩
    by_cases hji:j=i
    · subst hji; rw [hx] at hy'; cases hy'; omega
    · exact hs j (by omega) y hy'
  · refine hn ⟨by omega,fun x hx=>?_⟩
    obtain ⟨j,hj,rfl⟩:=List.getElem_of_mem hx
    exact hs j (by omega) _ (List.getElem?_eq_getElem hj)
def Apart (b:Nat) (p:Option Addr) (es:List RE) (r:Nat) (q:Option Addr) (rs:List RR):Prop:=(∀ k∈b::Xb p,Xkw r q rs k)∧∀ k∈r::Xb q,offR b p es k
def inR (es:List RE) (z:Nat):Prop:=∃ e∈es,e.lo≤z∧z<e.hi
def UI (es:List RE) (rs:List RR):Prop:=∀ z,inR es z→∀ e∈rs,z∉Xb e.kp
theorem Xvy {b r:Nat} {p q:Option Addr} {es:List RE} {rs:List RR} (h:Apart b p es r q rs) (k:UI es rs) {z:Nat} (hz:inR es z):Xkw r q rs z:=
  ⟨fun hm=>by obtain ⟨e,he,h1,h2⟩:=hz; have:=(h.2 z hm).2 e he; omega,k z hz⟩
theorem VZ {b lo:Nat} {p:Option Addr} {es:List RE} {N:Int} (h:RingAt w b p es N lo) {k:Nat} (hk:w.heap.size≤k):offR b p es k:=
  ⟨fun hm=>by have:=h.lt k hm; omega,fun e he=>by have:=(h.ent e he).1.lh; omega⟩
theorem Xlj {b:Nat} {p p':Option Addr} {es es':List RE} {k:Nat} (h:offR b p es k) (hk:k<w.heap.size) (hp:∀ k∈Xb p',k∈Xb p∨w.heap.size≤k) (he:∀ e∈es',e∈es∨w.heap.size≤e.lo):offR b p' es' k:=by
  refine ⟨fun hm=>?_,fun e hm=>?_⟩
  · rcases List.mem_cons.1 hm with rfl | hm
    · exact h.1 (List.mem_cons_self ..)
    · rcases hp k hm with hh | hh
      · exact h.1 (List.mem_cons_of_mem _ hh)
      · omega
  · rcases he e hm with hh | hh
    · exact h.2 e hh
    · left; omega
theorem XoG {r lo:Nat} {q:Option Addr} {rs:List RR} (h:RefAt w r q rs lo) {k:Nat} (hk:w.heap.size≤k):Xkw r q rs k:=
  ⟨fun hm=>by have:=h.lt k hm; omega,fun e he hm=>by have:=((h.ent e he).2.2.2 k hm).2; omega⟩
theorem Xlk {r:Nat} {q q':Option Addr} {rs rs':List RR} {k:Nat} (h:Xkw r q rs k) (hk:k<w.heap.size) (hp:∀ k∈Xb q',k∈Xb q∨w.heap.size≤k) (he:∀ e∈rs',e∈rs∨∀ k∈Xb e.kp,w.heap.size≤k):Xkw r q' rs' k:=by
  refine ⟨fun hm=>?_,fun e hm hm2=>?_⟩
  · rcases List.mem_cons.1 hm with rfl | hm
    · exact h.1 (List.mem_cons_self ..)
    · rcases hp k hm with hh | hh
      · exact h.1 (List.mem_cons_of_mem _ hh)
      · omega
  · rcases he e hm with hh | hh
    · exact h.2 e hh hm2
    · have:=hh k hm2; omega
theorem Apart.stepR {b lo lo2 r:Nat} {p p' q:Option Addr} {es es':List RE} {rs:List RR} {N:Int} (h:Apart b p es r q rs) (hR:RingAt w b p es N lo) (hS:RefAt w r q rs lo2) (hp:∀ k∈Xb p',k∈Xb p∨w.heap.size≤k) (he:∀ e∈es',e∈es∨w.heap.size≤e.lo):Apart b p' es' r q rs:=by
  refine ⟨fun k hk=>?_,fun k hk=>Xlj (h.2 k hk) (hS.lt k hk) hp he⟩
  rcases List.mem_cons.1 hk with rfl | hk
  · exact h.1 _ (List.mem_cons_self ..)
  · rcases hp k hk with hh | hh
    · exact h.1 k (List.mem_cons_of_mem _ hh)
    · exact XoG hS hh
theorem Apart.stepS {b lo lo2 r:Nat} {p q q':Option Addr} {es:List RE} {rs rs':List RR} {N:Int} (h:Apart b p es r q rs) (hR:RingAt w b p es N lo) (hS:RefAt w r q rs lo2) (hp:∀ k∈Xb q',k∈Xb q∨w.heap.size≤k) (he:∀ e∈rs',e∈rs∨∀ k∈Xb e.kp,w.heap.size≤k):Apart b p es r q' rs':=by
  refine ⟨fun k hk=>Xlk (h.1 k hk) (hR.lt k hk) hp he,fun k hk=>?_⟩
  rcases List.mem_cons.1 hk with rfl | hk
  · exact h.2 _ (List.mem_cons_self ..)
  · rcases hp k hk with hh | hh
    · exact h.2 k (List.mem_cons_of_mem _ hh)
    · exact VZ hR hh
theorem Xkx {b lo:Nat} {p:Option Addr} {es:List RE} {N:Int} (h:RingAt w b p es N lo) (hN:1≤N) {s:Int} {q:Option Addr} {l cap:Nat} {key:List UInt8} (hx:Row w q (key.map vb)) (hl:l=key.length) (hcap:l≤cap)
    (hk:∀ w' p' es',Fr (b::Xb p) w w'→RingAt w' b p' es' N lo→(∀ k∈Xb p',k∈Xb p∨w.heap.size≤k)→(∀ e∈es',e∈es∨w.heap.size≤e.lo)→es'.map RE.ke=Xhk (es.map RE.ke) s key→K (.int .i64 (Z1 (es.map RE.ke) s key)) w') :
    Xa Tryz.prog VE #[.pointer (some ⟨b,0,none⟩),.int .i64 s,.slice q l cap] w K:=by
  refine Xl7 h hN hx hl hcap fun w' p' es' f hR hp hne heq=>?_
  by_cases h0:Z1 (es.map RE.ke) s key=0
  · obtain ⟨e,rfl,e1,e2⟩:=heq h0
    refine hk w' p' _ f hR hp (fun x hx=>?_) (by unfold Xhk; rw [if_pos h0,List.map_append,List.map_cons,e1]; rfl)
    rcases List.mem_append.1 hx with hx | hx
    · exact .inl hx
    · simp at hx; subst hx; exact .inr e2
  · obtain ⟨rfl,rfl⟩:=hne h0
    exact hk w' _ _ f hR hp (fun x hx=>.inl hx) (by unfold Xhk; rw [if_neg h0])
theorem Xs1 {po:Option Addr} {l co lo:Nat} {key:List UInt8} {bb:Bool} (hO:OB w po l co key lo) (hlb:l<1000000) (h:∀ w',Fr (Xb po) w w'→K (.bool bb) w'):JM false po l co bb w K:=by
  unfold JM
  refine LoopS.ind (fun k us w'=>∃ (i:Nat) (xs:List UInt8),i+k=l∧us=[.bool false,.slice po l co,.bool bb,.int .i64 (i:Int)]∧Fr (Xb po) w w'∧OB w' po l co xs lo) l ⟨0,key,by omega,rfl,Fr.refl _ _,hO⟩ ?_
  rintro k us rr w2 I μ hgo ⟨i,xs,hi,rfl,f2,hO2⟩
  refine ⟨_,_,_,_,_,_,rfl,Xc (fun h3=>?_) fun _=>h w2 f2⟩
  obtain ⟨a,ha,hca⟩:=hO2.get (k:=.i64) (i:=i) (by omega)
  refine ⟨_,ha,_,Ld.cell (by kernel_rfl) hca,?_⟩
  obtain ⟨y,hy⟩:∃ y:UInt8,IntKind.u8.wrap (((fl xs i).toNat:Int)+1)=(y.toNat:Int):=byte_of (by rw [IntKind.wrap_u8]; omega) (by rw [IntKind.wrap_u8]; omega)
  rw [hy,Xe (by omega) (by omega)]
  refine hO2.sto (k:=.i64) (i:=i) (x:=y) (by omega) fun w3 f3 hO3 s3=>?_
  exact hgo _ _ _ (k - 1) (by omega) ⟨i+1,_,by omega,rfl,f2.trans f3 (fun x hx=>.inl hx),hO3⟩
theorem Xvz {b lo r lo2:Nat} {p q:Option Addr} {es:List RE} {rs:List RR} {N:Int} {x:RC} (hR:RingAt w b p es N lo) (hN:1≤N) (hS:RefAt w r q rs lo2) (hA:Apart b p es r q rs) (hx:RC.ok w x) (hxs:∀ w',Fr (b::Xb p) w w'→Row w' x.kp (x.key.map vb)) (hxl:x.key.length≤100)
    (hk:∀ w' p' es' q' rs' bb,Fr ((b::Xb p)++(r::Xb q)) w w'→RingAt w' b p' es' N lo→RefAt w' r q' rs' lo2→Apart b p' es' r q' rs'→(∀ k∈Xb p',k∈Xb p∨w.heap.size≤k)→(∀ k∈Xb q',k∈Xb q∨w.heap.size≤k)→(∀ e∈es',e∈es∨w.heap.size≤e.lo)→(∀ e∈rs',e∈rs∨∀ k∈Xb e.kp,w.heap.size≤k)→(UI es rs→UI es' rs')→
      es'.map RE.ke=UR (es.map RE.ke) x→rs'.map RR.ke=UR (rs.map RR.ke) x→(es.map RE.ke=rs.map RR.ke→bb=true)→K (.bool bb) w') :
    Xa Tryz.prog XhV #[.pointer (some ⟨b,0,none⟩),.pointer (some ⟨r,0,none⟩),.agg #[.int .i64 x.op,.int .i64 x.sq,.slice x.kp x.key.length x.kc]] w K:=by
  apply XlT
  unfold Xoa
  have hRl:=hR.lt; have hSl:=hS.lt
  refine New.intro fun w1 f1 hB1 s1=>?_
  obtain ⟨k5,hk5⟩:∃ k,k=w.heap.size:=⟨_,rfl⟩
  rw [← hk5] at hB1 ⊢
  have hB:Blk w1 k5 3 (fun i=>(#[.int .i64 x.op,.int .i64 x.sq,.slice x.kp x.key.length x.kc]:Array Value).getD i undef):=hB1
  have ld0:∀ {w':World},Blk w' k5 3 (fun i=>(#[.int .i64 x.op,.int .i64 x.sq,.slice x.kp x.key.length x.kc]:Array Value).getD i undef)→Ld Tryz.prog Y9 (.pointer (some ((⟨k5,0,none⟩:Addr).add 0))) w' (.int .i64 x.op):=fun {w'} hB=>Ld.blk (by kernel_rfl) hB (by omega) rfl
  have ld1:∀ {w':World},Blk w' k5 3 (fun i=>(#[.int .i64 x.op,.int .i64 x.sq,.slice x.kp x.key.length x.kc]:Array Value).getD i undef)→Ld Tryz.prog Y9 (.pointer (some ((⟨k5,0,none⟩:Addr).add 1))) w' (.int .i64 x.sq):=fun {w'} hB=>by rw [Xi]; exact Ld.blk (by kernel_rfl) hB (by omega) rfl
  have ld2:∀ {w':World},Blk w' k5 3 (fun i=>(#[.int .i64 x.op,.int .i64 x.sq,.slice x.kp x.key.length x.kc]:Array Value).getD i undef)→Ld Tryz.prog Xg (.pointer (some ((⟨k5,0,none⟩:Addr).add 2))) w' (.slice x.kp x.key.length x.kc):=fun {w'} hB=>by rw [Xi]; exact Ld.blk (by kernel_rfl) hB (by omega) rfl
  refine ⟨_,_,_,ld2 hB,Xua (hx.1.fr0 f1) rfl (by omega) fun po co w2 f2 hO=>⟨_,_,_,rfl,?_⟩⟩
  have hB2:=hB.fr0 f2
  have f02:=f1.then f2
  have n1:=f1.size; have n2:=f2.size
  have keep:∀ {w':World},Fr ((b::Xb p)++(r::Xb q)) w2 w'→Blk w' k5 3 (fun i=>(#[.int .i64 x.op,.int .i64 x.sq,.slice x.kp x.key.length x.kc]:Array Value).getD i undef):=fun {w'} f=>hB2.fr f fun hm=>by
    rcases List.mem_append.1 hm with hh | hh
    · have:=hRl _ hh; omega
    · have:=hSl _ hh; omega
  have hR2:=hR.fr0 f02; have hS2:=hS.fr0 f02
  have tail : ∀ (w' : World) (p' q' : Option Addr) (es' : List RE) (rs' : List RR) (bb : Bool), Fr ((b :: Xb p) ++ (r :: Xb q)) w2 w' → RingAt w' b p' es' N lo → RefAt w' r q' rs' lo2 → Apart b p' es' r q' rs' → (∀ k ∈ Xb p', k ∈ Xb p ∨ w2.heap.size ≤ k) → (∀ k ∈ Xb q', k ∈ Xb q ∨ w2.heap.size ≤ k) → (∀ e ∈ es', e ∈ es ∨ w2.heap.size ≤ e.lo) → (∀ e ∈ rs', e ∈ rs ∨ ∀ k ∈ Xb e.kp, w2.heap.size ≤ k) → (UI es rs → UI es' rs') →
      es'.map RE.ke=UR (es.map RE.ke) x→rs'.map RR.ke=UR (rs.map RR.ke) x→(es.map RE.ke=rs.map RR.ke→bb=true)→JM false po x.key.length co bb w' K:=by
    intro w' p' q' es' rs' bb f hR' hS' hA' hp hq he hr hko h1 h2 h3
    have hnew:∀ k∈Xb po,w.heap.size≤k∧k<w2.heap.size:=fun k hk=>⟨by have:=hO.2.2 k hk; omega,hO.lt k hk⟩
    have hO':OB w' po x.key.length co x.key w1.heap.size:=hO.fr f fun k hk hm=>by
      have:=(hnew k hk).1
      rcases List.mem_append.1 hm with hh | hh
      · have:=hRl _ hh; omega
      · have:=hSl _ hh; omega
    refine Xs1 hO' (by omega) fun w3 f3=>?_
    have f03:Fr ((b::Xb p)++(r::Xb q)) w w3:=((f02.mono (by simp)).trans f (fun y hy=>.inl hy)).trans f3 fun y hy=>.inr (hnew y hy).1
    refine hk w3 p' es' q' rs' bb f03 (hR'.fr f3 fun k hk=>Xlj (w:=w2) (VZ hR (hnew k hk).1) (hnew k hk).2 hp he) (hS'.fr f3 fun k hk=>Xlk (w:=w2) (XoG hS (hnew k hk).1) (hnew k hk).2 hq hr) hA' (fun k hk=>?_) (fun k hk=>?_) (fun e hm=>?_) (fun e hm=>?_) hko h1 h2 h3
    · rcases hp k hk with hh | hh
      · exact .inl hh
      · right; omega
    · rcases hq k hk with hh | hh
      · exact .inl hh
      · right; omega
    · rcases he e hm with hh | hh
      · exact .inl hh
      · right; omega
    · rcases hr e hm with hh | hh
      · exact .inl hh
      · right; intro k hk; have:=hh k hk; omega
  refine ⟨_,ld0 hB2,Yn (fun h0=>?_) fun h0=>Yn (fun h1=>?_) fun h1=>?_⟩
  · refine ⟨fun w'=>Fr ((b::Xb p)++(r::Xb q)) w2 w',Drw.intro fun w3 f3 s3=>?_⟩
    have f3':Fr ((b::Xb p)++(r::Xb q)) w2 w3:=f3.mono (by simp)
    refine ⟨_,⟨f3',fun w' hw'=>ld1 (keep hw')⟩,_,⟨f3',fun w' hw'=>ld1 (keep hw')⟩,_,_,_,⟨f3',fun w' hw'=>ld2 (keep hw')⟩,?_⟩
    have hR3:=hR2.fr0 f3; have hS3:=hS2.fr0 f3
    refine Xkx hR3 hN (hO.fr0 f3).row hO.2.1 hO.cap fun w4 p4 es4 f4 hR4 hp4 he4 hm4=>⟨_,rfl,?_⟩
    have f34:Fr ((b::Xb p)++(r::Xb q)) w2 w4:=f3'.trans f4 fun y hy=>.inl (List.mem_append_left _ hy)
    have hS4:=hS3.fr f4 hA.1
    have hA4:=hA.stepR hR3 hS3 hp4 he4
    refine ⟨.inr f34,?_⟩
    have hrow:=hxs w4 ((f02.mono (by simp)).trans ((f3.mono (by simp)).trans f4 fun y hy=>.inl hy) fun y hy=>.inl hy)
    refine XoF hS4 hrow rfl hx.2 fun w5 q5 rs5 f5 hS5 hq5 hr5 hm5=>⟨_,rfl,?_⟩
    have hR5:=hR4.fr f5 hA4.2
    have hA5:=hA4.stepS hR4 hS4 hq5 hr5
    have n3:=f3.size; have n4:=f4.size
    refine tail w5 p4 q5 es4 rs5 _ (f34.trans f5 fun y hy=>.inl (List.mem_append_right _ hy)) hR5 hS5 hA5 (fun k hk=>?_) (fun k hk=>?_) (fun e hm=>?_) (fun e hm=>?_) (fun hko z hz e' he' hm=>?_) ?_ ?_ (fun hh=>by rw [hh]; exact beq_self_eq_true _)
    · rcases hp4 k hk with hh | hh
      · exact .inl hh
      · right; omega
    · rcases hq5 k hk with hh | hh
      · exact .inl hh
      · right; omega
    · rcases he4 e hm with hh | hh
      · exact .inl hh
      · right; omega
    · rcases hr5 e hm with hh | hh
      · exact .inl hh
      · right; intro k hk; have:=hh k hk; omega
    · obtain ⟨e,he,h1,h2⟩:=hz
      have hlh:=(hR4.ent e he).1.lh
      rcases hr5 e' he' with hh | hh
      · rcases he4 e he with hh2 | hh2
        · exact hko z ⟨e,hh2,h1,h2⟩ e' hh hm
        · have:=((hS.ent e' hh).2.2.2 z hm).2; omega
      · have:=hh z hm; omega
    · unfold UR; rw [if_pos h0,hm4]
    · unfold UR; rw [if_pos h0,hm5]
  · refine ⟨fun w'=>Fr ((b::Xb p)++(r::Xb q)) w2 w',Drw.intro fun w3 f3 s3=>?_⟩
    have f3':Fr ((b::Xb p)++(r::Xb q)) w2 w3:=f3.mono (by simp)
    refine ⟨_,⟨f3',fun w' hw'=>ld1 (keep hw')⟩,_,⟨f3',fun w' hw'=>ld1 (keep hw')⟩,?_⟩
    have hR3:=hR2.fr0 f3; have hS3:=hS2.fr0 f3
    refine XoD hR3 fun w4 es4 f4 hR4 he4 _ hm4=>⟨_,rfl,?_⟩
    have f34:Fr ((b::Xb p)++(r::Xb q)) w2 w4:=f3'.trans f4 fun y hy=>.inl (List.mem_append_left _ hy)
    have hS4:=hS3.fr f4 hA.1
    have hA4:=hA.stepR (p':=p) hR3 hS3 (fun k hk=>.inl hk) (fun e he=>.inl (he4 e he))
    refine ⟨.inr f34,?_⟩
    refine XpF hS4 fun w5 q5 rs5 f5 hS5 hq5 hr5 hm5=>⟨_,rfl,?_⟩
    have hR5:=hR4.fr f5 hA4.2
    have hA5:=hA4.stepS hR4 hS4 hq5 (fun e he=>.inl (hr5 e he))
    have n3:=f3.size; have n4:=f4.size
    refine tail w5 p q5 es4 rs5 _ (f34.trans f5 fun y hy=>.inl (List.mem_append_right _ hy)) hR5 hS5 hA5 (fun k hk=>.inl hk) (fun k hk=>?_) (fun e hm=>.inl (he4 e hm)) (fun e hm=>.inl (hr5 e hm)) (fun hko z hz e' he'=>hko z (by obtain ⟨e,he,h12⟩:=hz; exact ⟨e,he4 e he,h12⟩) e' (hr5 e' he')) ?_ ?_ (fun hh=>by rw [hh]; exact beq_self_eq_true _)
    · rcases hq5 k hk with hh | hh
      · exact .inl hh
      · right; omega
    · unfold UR; rw [if_neg h0,if_pos h1,hm4]
    · unfold UR; rw [if_neg h0,if_pos h1,hm5]
  · refine tail w2 p q es rs true (Fr.refl _ _) hR2 hS2 hA (fun k hk=>.inl hk) (fun k hk=>.inl hk) (fun e hm=>.inl hm) (fun e hm=>.inl hm) (fun hko=>hko) ?_ ?_ fun _=>rfl
    · unfold UR; rw [if_neg h0,if_neg h1]
    · unfold UR; rw [if_neg h0,if_neg h1]
theorem XvA {b lo r lo2:Nat} {p q:Option Addr} {es:List RE} {rs:List RR} {N:Int} {x:RC} (hR:RingAt w b p es N lo) (hN:1≤N) (hS:RefAt w r q rs lo2) (hA:Apart b p es r q rs) (hx:RC.ok w x) (hxs:∀ w',Fr (b::Xb p) w w'→Row w' x.kp (x.key.map vb)) (hxl:x.key.length≤100)
    (hk:∀ w' p' es' q' rs' bb,Fr ((b::Xb p)++(r::Xb q)) w w'→RingAt w' b p' es' N lo→RefAt w' r q' rs' lo2→Apart b p' es' r q' rs'→(∀ k∈Xb p',k∈Xb p∨w.heap.size≤k)→(∀ k∈Xb q',k∈Xb q∨w.heap.size≤k)→(∀ e∈es',e∈es∨w.heap.size≤e.lo)→(UI es rs→UI es' rs')→
      es'.map RE.ke=UR (es.map RE.ke) x→rs'.map RR.ke=UR (rs.map RR.ke) x→(es.map RE.ke=rs.map RR.ke→bb=true)→K (.bool bb) w') :
    Xa Tryz.prog XhV #[.pointer (some ⟨b,0,none⟩),.pointer (some ⟨r,0,none⟩),.agg #[.int .i64 x.op,.int .i64 x.sq,.slice x.kp x.key.length x.kc]] w K:=
  Xvz hR hN hS hA hx hxs hxl fun w' p' es' q' rs' bb f hR' hS' hA' hp hq he _ ho h1 h2 h3=>hk w' p' es' q' rs' bb f hR' hS' hA' hp hq he ho h1 h2 h3
end
end Go.Sh
end

section
namespace Go.Sh
open Go Go.Fw Go.Proofs
set_option maxRecDepth 100000
set_option linter.unusedVariables false
section
variable {w:World} {K:VWP}
theorem RingAt.news {b lo:Nat} {p:Option Addr} {es:List RE} {N:Int} {w0 w':World} (h:RingAt w b p es N lo) (f0:Fr [] w0 w) (f:Fr (b::Xb p) w w') (hb:w0.heap.size≤b) (hlo:w0.heap.size≤lo):Fr [] w0 w':=
  f0.trans f fun k hk=>by
    rcases List.mem_cons.1 hk with rfl | hk
    · exact .inr hb
    · have:=(h.arr k hk).1; right; omega
theorem RefAt.news {r lo:Nat} {q:Option Addr} {rs:List RR} {w0 w':World} (h:RefAt w r q rs lo) (f0:Fr [] w0 w) (f:Fr (r::Xb q) w w') (hb:w0.heap.size≤r) (hlo:w0.heap.size≤lo):Fr [] w0 w':=
  f0.trans f fun k hk=>by
    rcases List.mem_cons.1 hk with rfl | hk
    · exact .inr hb
    · have:=(h.arr k hk).1; right; omega
theorem RingAt.keep {b lo:Nat} {p:Option Addr} {es:List RE} {N:Int} {w':World} (h:RingAt w b p es N lo) (f:Fr (b::Xb p) w w') {q:Option Addr} {l d lo0:Nat} {xs:List UInt8} (hO:OB w q l d xs lo0) (hlt:∀ k∈Xb q,k<lo∧k≠b):OB w' q l d xs lo0:=
  hO.fr f fun k hk hm=>by
    have:=hlt k hk
    rcases List.mem_cons.1 hm with hh | hm
    · exact this.2 hh
    · have:=(h.arr k hm).1; omega
end
end Go.Sh
end

section
namespace Go.Sh
open Go Go.Fw Go.Proofs
set_option maxRecDepth 100000
set_option linter.unusedVariables false
section
variable {w:World} {K:VWP}
theorem Xue {t:TypeId} {K:Nat→World→Prop} (h:∀ w',Fr [] w w'→RefAt w' w.heap.size none [] w'.heap.size→w'.heap.size=w.heap.size+1→K w.heap.size w'):New #[.slice none 0 0] t w K:=
  New.intro fun w1 f1 hB s1=>h w1 f1 (RefAt.ofNew hB rfl) s1
theorem Apart.new {wa:World} {b lo r lo2:Nat} {p:Option Addr} {es:List RE} {N:Int} (hR:RingAt wa b p es N lo) (hr:wa.heap.size≤r):Apart b p es r none []:=
  ⟨fun k hk=>⟨fun hm=>by have:=hR.lt k hk; simp [Xb] at hm; omega,by simp⟩,fun k hk=>by simp [Xb] at hk; subst hk; exact VZ hR hr⟩
end
end Go.Sh
end

section
namespace Go.Sh
open Go Go.Fw Go.Proofs
set_option maxRecDepth 100000
set_option linter.unusedVariables false
def bA (n:Nat) (g:Nat→Bool):List Value:=(List.range n).map fun j=>.bool (g j)
theorem Vy (n:Nat) (g:Nat→Bool):(bA n g).length=n:=by simp [bA]
theorem Xww {n:Nat} {g:Nat→Bool} {j:Nat} {v:Value} (h:(bA n g)[j]?=some v):j<n∧v=.bool (g j):=by
  have h1:=(List.getElem?_eq_some_iff.1 h).1
  rw [Vy] at h1
  simp [bA,h1] at h
  exact ⟨h1,h.symm⟩
theorem XuN {n:Nat} {g:Nat→Bool} {j:Nat} (h:j<n):(bA n g)[j]?=some (.bool (g j)):=by simp [bA,h]
theorem Xhl {n:Nat} {g g':Nat→Bool} (h:∀ j,j<n→g j=g' j):bA n g=bA n g':=by
  unfold bA
  exact List.map_congr_left fun j hj=>by rw [h j (List.mem_range.1 hj)]
def PolB (w:World) (b n:Nat) (g:Nat→Bool):Prop:=∃ f,Blk w b n f∧∀ j,j<n→f j=.bool (g j)
section
variable {w:World} {b n:Nat} {g:Nat→Bool} {K:VWP}
theorem PolB.fr {L:List Nat} {w':World} (h:PolB w b n g) (hf:Fr L w w') (hn:b∉L):PolB w' b n g:=by obtain ⟨f,hB,r⟩:=h; exact ⟨f,hB.fr hf hn,r⟩
theorem PolB.fr0 {w':World} (h:PolB w b n g) (hf:Fr [] w w'):PolB w' b n g:=h.fr hf (by simp)
theorem PolB.lt (h:PolB w b n g):b<w.heap.size:=by obtain ⟨f,hB,_⟩:=h; exact hB.lt
theorem PolB.blk (h:PolB w b n g):∃ f,Blk w b n f:=by obtain ⟨f,hB,_⟩:=h; exact ⟨f,hB⟩
theorem PolB.congr {g':Nat→Bool} (h:PolB w b n g) (hg:∀ j,j<n→g j=g' j):PolB w b n g':=by obtain ⟨f,hB,r⟩:=h; exact ⟨f,hB,fun j hj=>by rw [r j hj,hg j hj]⟩
theorem XcP {t:TypeId} {cs:Array Value} (he:cs=⟨bA n g⟩) {K:Nat→World→Prop} (h:∀ w',Fr [] w w'→PolB w' w.heap.size n g→w'.heap.size=w.heap.size+1→K w.heap.size w'):New cs t w K:=by
  subst he
  refine New.intro fun w' f hB s=>h w' f ⟨_,by simpa [Vy] using hB,fun j hj=>?_⟩ s
  rw [XuN hj]; rfl
theorem ldB {o:Nat} (h:∀ j,j<128→w.cell? ⟨b,o+j,none⟩=some (.bool (g j))):Ld Tryz.prog YU (.pointer (some ⟨b,o,none⟩)) w (.agg ⟨bA 128 g⟩):=by
  refine Ld.agg (n:=128) (cs:=bA 128 g) (by kernel_rfl) (by kernel_rfl) (Vy _ _) fun j v hj=>?_
  obtain ⟨h1,rfl⟩:=Xww hj
  rw [Xi]; exact h j h1
theorem PolB.ld (h:PolB w b 128 g):Ld Tryz.prog YU (.pointer (some ⟨b,0,none⟩)) w (.agg ⟨bA 128 g⟩):=by
  obtain ⟨f,hB,hf⟩:=h
  refine ldB fun j hj=>?_
  rw [Nat.zero_add,hB.cell hj,hf j hj]
theorem PolB.get (h:PolB w b n g) {i:Nat} (hi:i<n):Ld Tryz.prog XnN (.pointer (some ⟨b,i,none⟩)) w (.bool (g i)):=by
  obtain ⟨f,hB,hf⟩:=h
  exact Ld.blk (by kernel_rfl) hB hi (hf i hi)
theorem PolB.cellB (h:PolB w b n g) {i:Nat} (hi:i<n):w.cell? ⟨b,i,none⟩=some (.bool (g i)):=by
  obtain ⟨f,hB,hf⟩:=h
  rw [hB.cell hi,hf i hi]
theorem PolB.set (h:PolB w b n g) {i:Nat} {v:Bool} (hi:i<n) {K:World→Prop} (hk:∀ w',Fr [b] w w'→PolB w' b n (fun j=>if j=i then v else g j)→w'.heap.size=w.heap.size→K w') :
    ∃ w',Sto Tryz.prog XnN (.pointer (some ⟨b,i,none⟩)) (.bool v) w w'∧K w':=by
  obtain ⟨f,hB,hf⟩:=h
  refine Sto.blk (by kernel_rfl) hB hi rfl rfl fun w' f' hB' s=>hk w' f' ⟨_,hB',fun j hj=>?_⟩ s
  show _=Value.bool (if j=i then v else g j)
  by_cases hji:j=i
  · rw [hji,upd_same,if_pos rfl]
  · rw [upd_ne _ _ _ hji,if_neg hji,hf j hj]
theorem Xe0 {t:TypeId} {cs:Array Value} {f:Nat→Value} (he:cs=⟨bA n g⟩) (hs:res Tryz.prog (sizeOf t)=some n) (hB:Blk w b n f) {K:World→Prop} (h:∀ w',Fr [b] w w'→PolB w' b n g→w'.heap.size=w.heap.size→K w') :
    ∃ w',Sto Tryz.prog t (.pointer (some ⟨b,0,none⟩)) (.agg cs) w w'∧K w':=by
  subst he
  refine Sto.agg hs (Vy _ _) hB (by omega) (fun v hv=>?_) fun w' f' hB' s=>h w' f' ⟨_,hB',fun j hj=>?_⟩ s
  · obtain ⟨j,hj,rfl⟩:=List.mem_map.1 hv; rfl
  · unfold updN
    rw [dif_pos ⟨Nat.zero_le _,by rw [Vy]; omega⟩]
    simp [bA]
theorem ixP {k:IntKind} {i:Nat} (hi:i<128):IxA Tryz.prog YU (.pointer (some ⟨b,0,none⟩)) (.int k (i:Int)) ⟨b,i,none⟩:=by
  have:=YM (P:=Tryz.prog) (t:=YU) (n:=128) (by kernel_rfl) (b:=b) (o:=0) (k:=k) (i:=(i:Int)) (by omega) (by omega)
  rw [Int.toNat_natCast,Nat.zero_add] at this; exact this
theorem ixQ {k:IntKind} {i:Nat} (hi:i<255):IxA Tryz.prog Xf6 (.pointer (some ⟨b,0,none⟩)) (.int k (i:Int)) ⟨b,i,none⟩:=by
  have:=YM (P:=Tryz.prog) (t:=Xf6) (n:=255) (by kernel_rfl) (b:=b) (o:=0) (k:=k) (i:=(i:Int)) (by omega) (by omega)
  rw [Int.toNat_natCast,Nat.zero_add] at this; exact this
theorem Xff {K:Nat→World→Prop} (h:∀ w' f,Fr [] w w'→Blk w' w.heap.size 128 f→w'.heap.size=w.heap.size+1→K w.heap.size w'):∃ z,Pu Tryz.prog (zeroValue YU) z∧New z.cells YU w K:=ZL (s:=128) (by kernel_rfl) h
theorem XwY:∀ r:Nat,r<8→IntKind.u64.wrap (IntKind.i64.wrap (7 - (r:Int)))=((7 - r:Nat):Int):=by decide
theorem XrB (i m:Nat):Int.tmod (i:Int) (m:Int)=((i % m:Nat):Int):=rfl
theorem XuO (i m:Nat):Int.tdiv (i:Int) (m:Int)=((i / m:Nat):Int):=rfl
theorem Xs2 (i:Nat):IntKind.u64.wrap (IntKind.i64.wrap (7 - Int.tmod (i:Int) 8))=((7 - i % 8:Nat):Int):=by
  rw [show (8:Int)=((8:Nat):Int) from rfl,XrB]; exact XwY _ (by omega)
theorem ix8 {i:Nat} (hi:i<128):IntKind.i64.wrap (Int.tdiv (i:Int) 8)=((i / 8:Nat):Int):=by
  rw [show (8:Int)=((8:Nat):Int) from rfl,XuO,Xe (by omega) (by omega)]
theorem XvB (x s:Nat):(Int.tmod (Int.fdiv (x:Int) (2 ^ s)) 2 == 1)=x.testBit s:=by
  have e:Int.fdiv (x:Int) (2 ^ s)=((x / 2 ^ s:Nat):Int):=by
    rw [Int.fdiv_eq_ediv_of_nonneg _ (by exact_mod_cast Nat.zero_le _)]; push_cast; rfl
  rw [e,show (2:Int)=((2:Nat):Int) from rfl,XrB,Nat.testBit_eq_decide_div_mod_eq]
  by_cases h:x / 2 ^ s % 2=1
  · rw [h]; rfl
  · have:x / 2 ^ s % 2=0:=by omega
    rw [this]; rfl
theorem Xuf {xs:List UInt8}:∀ {j:Nat},j<8*xs.length→(Xp xs).testBit (8*xs.length - 1 - j)=(fl xs (j / 8)).toNat.testBit (7 - j % 8):=by
  intro j hj
  have hq:j / 8<xs.length:=by omega
  have e:xs=xs.take (j / 8)++(xs[j / 8]::xs.drop (j / 8+1)):=by
    rw [← List.drop_eq_getElem_cons hq,List.take_append_drop]
  have hfl:fl xs (j / 8)=xs[j / 8]:=by unfold fl; rw [List.getD_eq_getElem?_getD,List.getElem?_eq_getElem hq]; rfl
  obtain ⟨D,hD⟩:∃ D,D=xs.drop (j / 8+1):=⟨_,rfl⟩
  obtain ⟨T,hT⟩:∃ T,T=xs.take (j / 8):=⟨_,rfl⟩
  have hDl:D.length=xs.length - (j / 8+1):=by rw [hD,List.length_drop]
  have hN:Xp xs=(Xp T*256+(xs[j / 8]).toNat)*256 ^ D.length+Xp D:=by
    have h2:xs=(T++[xs[j / 8]])++D:=by rw [hT,hD,List.append_assoc]; exact e
    have h3:=congrArg Xp h2
    rw [V6,XaD] at h3
    exact h3
  have hDlt:=Ji D
  rw [hN,hfl]
  have e256:256 ^ D.length=2 ^ (8*D.length):=by rw [Nat.pow_mul]
  have hx:8*xs.length - 1 - j=8*D.length+(7 - j % 8):=by rw [hDl]; omega
  rw [e256] at hDlt ⊢
  rw [hx,Nat.mul_comm,Nat.testBit_two_pow_mul_add _ hDlt,if_neg (by omega),Nat.add_sub_cancel_left]
  have hb:(xs[j / 8]).toNat<2 ^ 8:=(xs[j / 8]).toNat_lt
  rw [show Xp T*256+(xs[j / 8]).toNat=2 ^ 8*Xp T+(xs[j / 8]).toNat by omega,Nat.testBit_two_pow_mul_add _ hb,if_pos (by omega)]
theorem Xs3 {xs:List UInt8} (h:xs.length=16) {j:Nat} (hj:j<128):cf (Xp xs) j=(fl xs (j / 8)).toNat.testBit (7 - j % 8):=by
  unfold cf
  rw [decide_eq_true hj,Bool.true_and]
  have:=Xuf (xs:=xs) (j:=j) (by omega)
  rw [h] at this
  exact this
theorem Xjj (e:Nat):(ZK e).length=16:=by simp [ZK,Y7]
theorem XrC {e:Nat} (h:e<2 ^ 128):Xp (ZK e)=e:=by
  unfold ZK
  rw [V6,XbO _ _ (by omega),XbO _ _ (by omega),Y7]
  omega
theorem XoH {p:Option Addr} {l c:Nat} {xs:List UInt8} (hx:Row w p (xs.map vb)) (hl:l=xs.length) (h16:l=16) (h:∀ w',Fr [] w w'→K (.agg ⟨bA 128 (cf (Xp xs))⟩) w'):Xa Tryz.prog Xq5 #[.slice p l c] w K:=by
  apply XlU
  unfold Xob
  refine Xff fun w1 g1 f1 hB1 s1=>Xff fun w2 g2 f2 hB2 s2=>?_
  refine Xe0 (n:=128) (g:=fun _=>false) (by kernel_rfl) (by kernel_rfl) hB2 fun w3 f3 hA3 s3=>?_
  have f03:Fr [] w w3:=(f1.then f2).st f3 (by omega)
  have hB13:=(hB1.fr0 f2).fr f3 (by simp; omega)
  refine LoopS.ind (fun k us w'=>∃ (i:Nat) (g:Nat→Bool),i+k=128∧us=[.slice p l c,.pointer (some ⟨w.heap.size,0,none⟩),.pointer (some ⟨w1.heap.size,0,none⟩),.int .i64 (i:Int)]∧Fr [] w w'∧(∃ g1,Blk w' w.heap.size 128 g1)∧PolB w' w1.heap.size 128 g∧∀ j,j<i→g j=cf (Xp xs) j) 128
    ⟨0,_,by omega,rfl,f03,⟨_,hB13⟩,hA3,by omega⟩ ?_
  rintro k us r w4 I μ hgo ⟨i,g,hi,rfl,f4,⟨g1,hB4⟩,hA4,hg⟩
  refine ⟨_,_,_,_,_,_,rfl,Xc (fun h1=>?_) (fun h1=>?_)⟩
  · have hi2:i<128:=by omega
    rw [ix8 hi2]
    obtain ⟨a,ha,hca⟩:=XD (t:=Xg) (by kernel_rfl) (hx.fr0 f4) (c:=c) hl (i:=i / 8) (by omega) (k:=.i64)
    refine ⟨a,ha,_,Ld.cell (by kernel_rfl) hca,?_⟩
    rw [Xs2]
    refine ⟨_,Pu.shr (by omega),⟨w1.heap.size,i,none⟩,ixP hi2,?_⟩
    have e:min ((7 - i % 8:Nat):Int).toNat IntKind.u8.bits=7 - i % 8:=by
      have:IntKind.u8.bits=8:=rfl
      rw [this,Int.toNat_natCast]; omega
    rw [e,XvB]
    refine hA4.set hi2 fun w5 f5 hA5 s5=>?_
    rw [Xe (by omega) (by omega)]
    refine hgo _ _ _ (k - 1) (by omega) ⟨i+1,_,by omega,rfl,f4.st f5 (by omega),⟨_,hB4.fr f5 (by simp; omega)⟩,hA5,fun j hj=>?_⟩
    show (if j=i then _ else g j)=_
    by_cases hji:j=i
    · subst hji; rw [if_pos rfl,Xs3 (by omega) hi2]; rfl
    · rw [if_neg hji]; exact hg j (by omega)
  · have hil:i=128:=by omega
    subst hil
    unfold Xgf
    have e:bA 128 g=bA 128 (cf (Xp xs)):=Xhl hg
    refine ⟨_,hA4.ld,Xe0 rfl (by kernel_rfl) hB4 fun w5 f5 hA5 s5=>⟨_,_,rfl,hA5.ld,?_⟩⟩
    rw [e]
    exact h w5 (f4.st f5 (Nat.le_refl _))
theorem Xwx (x y:Bool):(!(x == y))=(x ^^ y):=by cases x <;> cases y <;> rfl
theorem Xs4 {p q:Nat→Bool} (h:∀ w',Fr [] w w'→K (.agg ⟨bA 128 (fun j=>p j ^^ q j)⟩) w'):Xa Tryz.prog Xpf #[.agg ⟨bA 128 p⟩,.agg ⟨bA 128 q⟩] w K:=by
  apply Xkh
  unfold XkZ
  refine XcP rfl fun w1 f1 hA1 s1=>XcP rfl fun w2 f2 hA2 s2=>Xff fun w3 g3 f3 hB3 s3=>?_
  have f03:=(f1.then f2).then f3
  refine LoopS.ind (fun k us w'=>∃ (i:Nat) (g:Nat→Bool),i+k=128∧us=[.pointer (some ⟨w.heap.size,0,none⟩),.pointer (some ⟨w1.heap.size,0,none⟩),.pointer (some ⟨w2.heap.size,0,none⟩),.int .i64 (i:Int)]∧Fr [] w w'∧(∃ g1,Blk w' w2.heap.size 128 g1)∧PolB w' w1.heap.size 128 q∧PolB w' w.heap.size 128 g∧∀ j,j<128→g j=if j<i then p j ^^ q j else p j) 128
    ⟨0,_,by omega,rfl,f03,⟨_,hB3⟩,hA2.fr0 f3,hA1.fr0 (f2.then f3),fun j _=>by simp⟩ ?_
  rintro k us r w4 I μ hgo ⟨i,g,hi,rfl,f4,⟨g1,hB4⟩,hQ4,hA4,hg⟩
  refine ⟨_,_,_,_,rfl,Xc (fun h1=>?_) (fun h1=>?_)⟩
  · have hi2:i<128:=by omega
    refine ⟨fun w'=>PolB w' w.heap.size 128 g,Drw.intro fun w5 f5 s5=>?_⟩
    refine ⟨⟨_,i,none⟩,ixP hi2,⟨_,i,none⟩,ixP hi2,_,⟨hA4.fr0 f5,fun w' hw'=>hw'.get hi2⟩,_,(hQ4.fr0 f5).get hi2,.inl rfl,⟨_,i,none⟩,ixP hi2,?_⟩
    refine (hA4.fr0 f5).set hi2 fun w6 f6 hA6 s6=>?_
    rw [Xe (by omega) (by omega)]
    refine hgo _ _ _ (k - 1) (by omega) ⟨i+1,_,by omega,rfl,(f4.then f5).st f6 (Nat.le_refl _),⟨_,(hB4.fr0 f5).fr f6 (by simp; omega)⟩,(hQ4.fr0 f5).fr f6 (by simp; omega),hA6,fun j hj=>?_⟩
    show (if j=i then _ else g j)=_
    by_cases hji:j=i
    · subst hji; rw [if_pos rfl,if_pos (by omega),Xwx,hg j hj,if_neg (by omega)]
    · rw [if_neg hji,hg j hj]
      by_cases hlt:j<i
      · rw [if_pos hlt,if_pos (by omega)]
      · rw [if_neg hlt,if_neg (by omega)]
  · have hil:i=128:=by omega
    subst hil
    unfold XeI
    have e:bA 128 g=bA 128 (fun j=>p j ^^ q j):=Xhl fun j hj=>by rw [hg j hj,if_pos hj]
    refine ⟨_,hA4.ld,Xe0 rfl (by kernel_rfl) hB4 fun w5 f5 hA5 s5=>⟨_,_,rfl,hA5.ld,?_⟩⟩
    rw [e]
    exact h w5 (f4.st f5 (by omega))
end
end Go.Sh
end

section
namespace Go.Sh
open Go Go.Fw Go.Proofs
set_option maxRecDepth 100000
set_option linter.unusedVariables false
set_option linter.unusedSimpArgs false
section
variable {w:World} {b n:Nat} {g:Nat→Bool} {K:VWP}
theorem Xw8:∀ s:Nat,s<8→IntKind.u8.wrap (1*2 ^ min s 8)=(((UInt8.ofNat (2 ^ s)).toNat:Nat):Int)∧(UInt8.ofNat (2 ^ s)).toNat=2 ^ s:=by decide
theorem XpG {e:Nat} (he:e<2 ^ 128) (h:∀ q d w',Fr [] w w'→OB w' q 16 d (ZK e) w.heap.size→K (.slice q 16 d) w'):Xa Tryz.prog XlD #[.agg ⟨bA 128 (cf e)⟩] w K:=by
  apply Xg6
  unfold Xge
  refine XcP rfl fun w1 f1 hA1 s1=>?_
  refine mkN (n:=16) (c:=16) (by omega) (by omega) fun p0 w2 f2 hO2 s2=>?_
  have f02:=f1.then f2
  have n1:=f1.size
  refine LoopS.ind (fun k us w'=>∃ (i:Nat) (zs:List UInt8),i+k=128∧us=[.pointer (some ⟨w.heap.size,0,none⟩),.slice none 0 0,.slice p0 16 16,.int .i64 (i:Int)]∧Fr [] w w'∧PolB w' w.heap.size 128 (cf e)∧OB w' p0 16 16 zs w1.heap.size∧∀ j t,j<16→t<8→(fl zs j).toNat.testBit t=(decide (8*j+(7 - t)<i) && cf e (8*j+(7 - t)))) 128
    ⟨0,_,by omega,rfl,f02,hA1.fr0 f2,hO2,fun j t hj ht=>?_⟩ ?_
  · have:fl (List.replicate 16 (0:UInt8)) j=0:=by unfold fl; rw [List.getD_eq_getElem?_getD,List.getElem?_replicate]; split <;> rfl
    rw [this]; simp
  rintro k us r w4 I μ hgo ⟨i,zs,hi,rfl,f4,hA4,hO4,hz⟩
  refine ⟨_,_,_,_,_,_,_,_,rfl,Xc (fun h1=>?_) (fun h1=>?_)⟩
  · have hi2:i<128:=by omega
    have hzl:=hO4.2.1
    refine ⟨_,ixP hi2,_,hA4.get hi2,?_⟩
    rw [ix8 hi2,Xs2,Xe (n:=(i:Int)+1) (by omega) (by omega)]
    refine XR (fun hb=>?_) fun hb=>?_
    · obtain ⟨a,ha,hca⟩:=hO4.get (k:=.i64) (i:=i / 8) (by omega)
      refine ⟨a,ha,_,Ld.cell (by kernel_rfl) hca,_,Pu.shl (by omega),?_⟩
      have e8:min ((7 - i % 8:Nat):Int).toNat IntKind.u8.bits=min (7 - i % 8) 8:=by rw [Int.toNat_natCast]; rfl
      obtain ⟨ep,ep2⟩:=Xw8 (7 - i % 8) (by omega)
      rw [e8,ep,or8]
      refine hO4.sto (k:=.i64) (i:=i / 8) (by omega) fun w5 f5 hO5 s5=>?_
      refine hgo _ _ _ (k - 1) (by omega) ⟨i+1,_,by omega,rfl,f4.trans f5 (fun x hx=>.inr (by have:=hO4.2.2 x hx; omega)),hA4.fr f5 (fun hm=>by have:=hO4.2.2 _ hm; omega),hO5,fun j t hj ht=>?_⟩
      rw [ZJ (by omega)]
      by_cases hji:j=i / 8
      · subst hji
        rw [if_pos rfl,UInt8.toNat_or,Nat.testBit_or,ep2,Nat.testBit_two_pow,hz _ t hj ht]
        by_cases hti:7 - i % 8=t
        · have e1:8*(i / 8)+(7 - t)=i:=by omega
          rw [e1,hb,decide_eq_true hti,decide_eq_true (show i<i+1 by omega)]; simp
        · rw [decide_eq_false hti,Bool.or_false]
          have:(8*(i / 8)+(7 - t)<i)↔(8*(i / 8)+(7 - t)<i+1):=by omega
          rw [decide_eq_decide.2 this]
      · rw [if_neg hji,hz j t hj ht]
        have:(8*j+(7 - t)<i)↔(8*j+(7 - t)<i+1):=by omega
        rw [decide_eq_decide.2 this]
    · refine hgo _ _ _ (k - 1) (by omega) ⟨i+1,zs,by omega,rfl,f4,hA4,hO4,fun j t hj ht=>?_⟩
      rw [hz j t hj ht]
      by_cases hji:8*j+(7 - t)=i
      · rw [hji,hb]; simp
      · have:(8*j+(7 - t)<i)↔(8*j+(7 - t)<i+1):=by omega
        rw [decide_eq_decide.2 this]
  · have hil:i=128:=by omega
    subst hil
    have e1:zs=ZK e:=Xi7 (by rw [Xjj,← hO4.2.1]) fun j hj=>by
      rw [← hO4.2.1] at hj
      apply UInt8.toNat_inj.1
      apply Nat.eq_of_testBit_eq
      intro t
      by_cases ht:t<8
      · rw [hz j t hj ht,decide_eq_true (by omega),Bool.true_and]
        have:=Xs3 (Xjj e) (j:=8*j+(7 - t)) (by omega)
        rw [XrC he] at this
        rw [this,show (8*j+(7 - t)) / 8=j by omega,show 7 - (8*j+(7 - t)) % 8=t by omega]
      · have hlt:∀ x:UInt8,x.toNat.testBit t=false:=fun x=>Nat.testBit_lt_two_pow (Nat.lt_of_lt_of_le x.toNat_lt (Nat.pow_le_pow_right (n:=2) (by omega) (show 8≤t by omega)))
        rw [hlt,hlt]
    rw [e1] at hO4
    exact h p0 16 w4 f4 (hO4.mono n1)
theorem PolB.flip (h:PolB w b n g) {i:Nat} (hi:i<n) {K:World→Prop} (hk:∀ w',Fr [b] w w'→PolB w' b n (fun j=>if j=i then !g i else g j)→w'.heap.size=w.heap.size→K w') :
    ∃ w',Sto Tryz.prog XnN (.pointer (some ⟨b,i,none⟩)) (.bool (!g i)) w w'∧K w':=h.set hi hk
theorem XrD {i m:Nat} (h1:m≤i) (h2:i<1000):IntKind.i64.wrap ((i:Int) - (m:Int))=((i - m:Nat):Int):=by
  rw [Xe (by omega) (by omega)]; omega
theorem Xqn (top m:Nat) (p:Nat→Bool):rF top (m+1) p=stp (top - m) (rF top m p):=rfl
theorem Xs5 {a b:Nat} (hb:b<2 ^ 128) (h:∀ w',Fr [] w w'→K (.agg ⟨bA 128 (cf (QO a b))⟩) w'):Xa Tryz.prog Xpe #[.agg ⟨bA 128 (cf a)⟩,.agg ⟨bA 128 (cf b)⟩] w K:=by
  apply Xkg
  unfold XkY
  refine XcP rfl fun w1 f1 hA1 s1=>XcP rfl fun w2 f2 hB2 s2=>Xff fun w3 g3 f3 hZ3 s3=>ZL (s:=255) (by kernel_rfl) fun w4 g4 f4 hP4 s4=>?_
  refine Xe0 (n:=255) (g:=fun _=>false) (by kernel_rfl) (by kernel_rfl) hP4 fun w5 f5 hC5 s5=>?_
  have f04:=((f1.then f2).then f3).then f4
  have n4:=((f1.then f2).then f3).size
  have f05:Fr [] w w5:=f04.st f5 n4
  have hA5:=(hA1.fr0 ((f2.then f3).then f4)).fr f5 (by simp; omega)
  have hB5:=(hB2.fr0 (f3.then f4)).fr f5 (by simp; omega)
  have hZ5:=(hZ3.fr0 f4).fr f5 (by simp; omega)
  obtain ⟨A,hA⟩:∃ A,A=w.heap.size:=⟨_,rfl⟩
  obtain ⟨B,hBn⟩:∃ B,B=w1.heap.size:=⟨_,rfl⟩
  obtain ⟨Z,hZ⟩:∃ Z,Z=w2.heap.size:=⟨_,rfl⟩
  obtain ⟨C,hC⟩:∃ C,C=w3.heap.size:=⟨_,rfl⟩
  rw [← hA] at hA5; rw [← hBn] at hB5; rw [← hZ] at hZ5; rw [← hC] at hC5
  rw [← hA,← hBn,← hZ,← hC]
  have oA:w.heap.size≤C∧A<C∧B<C∧Z<C∧w.heap.size≤Z∧A<Z∧B<Z:=by omega
  refine LoopS.ind (fun k us w'=>∃ i:Nat,i+k=128∧us=[.pointer (some ⟨A,0,none⟩),.pointer (some ⟨B,0,none⟩),.pointer (some ⟨Z,0,none⟩),.pointer (some ⟨C,0,none⟩),.int .i64 (i:Int)]∧Fr [] w w'∧PolB w' A 128 (cf a)∧PolB w' B 128 (cf b)∧(∃ g1,Blk w' Z 128 g1)∧PolB w' C 255 (Vw a b i)) 128
    ⟨0,by omega,rfl,f05,hA5,hB5,⟨_,hZ5⟩,hC5⟩ ?_
  rintro k us r w6 I μ hgo ⟨i,hi,rfl,f6,hA6,hB6,⟨g6,hZ6⟩,hC6⟩
  refine ⟨_,_,_,_,_,rfl,Xc (fun h1=>?_) (fun h1=>?_)⟩
  · have hi2:i<128:=by omega
    refine ⟨_,ixP hi2,_,hA6.get hi2,?_⟩
    refine XR (fun hc=>?_) fun hc=>?_
    · have hc':cf a i=false:=by simpa using hc
      rw [Xe (by omega) (by omega)]
      refine hgo _ _ _ (k - 1) (by omega) ⟨i+1,by omega,rfl,f6,hA6,hB6,⟨g6,hZ6⟩,hC6.congr fun j _=>?_⟩
      show _=(Vw a b i j ^^ (cf a i && shN i (cf b) j))
      rw [hc']; simp
    · have hc':cf a i=true:=by simpa using hc
      refine LoopS.ind (fun k2 us w'=>∃ j:Nat,j+k2=128∧us=[.pointer (some ⟨A,0,none⟩),.pointer (some ⟨B,0,none⟩),.pointer (some ⟨Z,0,none⟩),.pointer (some ⟨C,0,none⟩),.int .i64 (i:Int),.int .i64 (j:Int)]∧Fr [] w w'∧PolB w' A 128 (cf a)∧PolB w' B 128 (cf b)∧(∃ g1,Blk w' Z 128 g1)∧
        PolB w' C 255 (fun t=>Vw a b i t ^^ (decide (t<i+j) && shN i (cf b) t))) 128
        ⟨0,by omega,rfl,f6,hA6,hB6,⟨g6,hZ6⟩,hC6.congr fun t _=>?_⟩ ?_
      · rw [Xjc]
        by_cases ht:t<i
        · rw [decide_eq_false (show ¬ i≤t by omega)]; simp
        · rw [decide_eq_false (show ¬ t<i+0 by omega)]; simp
      rintro k2 us2 r2 w7 I2 μ2 hgo2 ⟨j,hj,rfl,f7,hA7,hB7,⟨g7,hZ7⟩,hC7⟩
      refine ⟨_,_,_,_,_,_,rfl,Xc (fun h2=>?_) (fun h2=>?_)⟩
      · have hj2:j<128:=by omega
        have hw:IntKind.i64.wrap ((i:Int)+(j:Int))=((i+j:Nat):Int):=by rw [Xe (by omega) (by omega)]; omega
        rw [hw]
        refine ⟨fun w'=>Fr [] w7 w',Drw.intro fun w8 f8 s8=>?_⟩
        refine ⟨_,ixQ (show i+j<255 by omega),_,ixP hj2,_,⟨f8,fun w' hw'=>(hC7.fr0 hw').get (by omega)⟩,_,(hB7.fr0 f8).get hj2,.inl rfl,_,ixQ (show i+j<255 by omega),?_⟩
        refine (hC7.fr0 f8).set (by omega) fun w9 f9 hC9 s9=>?_
        rw [Xe (n:=(j:Int)+1) (by omega) (by omega)]
        refine hgo2 _ _ _ (k2 - 1) (by omega) ⟨j+1,by omega,rfl,(f7.then f8).st f9 (by omega),(hA7.fr0 f8).fr f9 (by simp; omega),(hB7.fr0 f8).fr f9 (by simp; omega),⟨_,(hZ7.fr0 f8).fr f9 (by simp; omega)⟩,hC9.congr fun t _=>?_⟩
        show (if t=i+j then _ else _)=_
        by_cases ht:t=i+j
        · rw [if_pos ht]
          subst ht
          rw [Xwx,decide_eq_false (show ¬ i+j<i+j by omega),decide_eq_true (show i+j<i+(j+1) by omega),Xjc,decide_eq_true (show i≤i+j by omega),Nat.add_sub_cancel_left]; simp
        · rw [if_neg ht]
          have:(t<i+j)↔(t<i+(j+1)):=by omega
          rw [decide_eq_decide.2 this]
      · have hjl:j=128:=by omega
        subst hjl
        rw [Xe (by omega) (by omega)]
        refine hgo _ _ _ (k - 1) (by omega) ⟨i+1,by omega,rfl,f7,hA7,hB7,⟨g7,hZ7⟩,hC7.congr fun t _=>?_⟩
        show _=(Vw a b i t ^^ (cf a i && shN i (cf b) t))
        rw [hc',Bool.true_and]
        by_cases ht:t<i+128
        · rw [decide_eq_true ht]; simp
        · rw [decide_eq_false ht,Xjc]
          have:cf b (t - i)=false:=by unfold cf; rw [decide_eq_false (by omega)]; rfl
          rw [this]; simp
  · have hil:i=128:=by omega
    subst hil
    unfold XeH
    refine LoopS.ind (fun k us w'=>∃ m:Nat,m+k=127∧us=[.pointer (some ⟨Z,0,none⟩),.pointer (some ⟨C,0,none⟩),.int .i64 ((254 - m:Nat):Int)]∧Fr [] w w'∧(∃ g1,Blk w' Z 128 g1)∧PolB w' C 255 (rF 254 m (Vw a b 128))) 127
      ⟨0,by omega,rfl,f6,⟨g6,hZ6⟩,hC6⟩ ?_
    rintro k2 us2 r2 w7 I2 μ2 hgo2 ⟨m,hm,rfl,f7,⟨g7,hZ7⟩,hC7⟩
    refine ⟨_,_,_,rfl,Xc (fun h2=>?_) (fun h2=>?_)⟩
    · have hm2:m<127:=by omega
      obtain ⟨x,hx⟩:∃ x,x=254 - m:=⟨_,rfl⟩
      obtain ⟨G,hG⟩:∃ G,G=rF 254 m (Vw a b 128):=⟨_,rfl⟩
      rw [← hG] at hC7
      rw [← hx] at hgo2 ⊢
      have x1:128≤x:=by omega
      have x2:x<255:=by omega
      have ex:254 - (m+1)=x - 1:=by omega
      refine ⟨_,ixQ x2,_,hC7.get x2,?_⟩
      rw [show (128:Int)=((128:Nat):Int) from rfl,show (127:Int)=((127:Nat):Int) from rfl,show (126:Int)=((126:Nat):Int) from rfl,show (121:Int)=((121:Nat):Int) from rfl,XrD (m:=128) (by omega) (by omega),XrD (m:=127) (by omega) (by omega),XrD (m:=126) (by omega) (by omega),XrD (m:=121) (by omega) (by omega)]
      have ew:IntKind.i64.wrap ((x:Int) - 1)=((x - 1:Nat):Int):=by rw [Xe (by omega) (by omega)]; omega
      rw [ew]
      refine XR (fun hc=>?_) fun hc=>?_
      · refine ⟨_,ixQ x2,hC7.set x2 fun v1 e1 hD1 t1=>⟨_,ixQ (show x - 128<255 by omega),_,hD1.get (by omega),_,ixQ (show x - 128<255 by omega),?_⟩⟩
        refine hD1.flip (show x - 128<255 by omega) fun v2 e2 hD2 t2=>⟨_,ixQ (show x - 127<255 by omega),_,hD2.get (by omega),_,ixQ (show x - 127<255 by omega),?_⟩
        refine hD2.flip (show x - 127<255 by omega) fun v3 e3 hD3 t3=>⟨_,ixQ (show x - 126<255 by omega),_,hD3.get (by omega),_,ixQ (show x - 126<255 by omega),?_⟩
        refine hD3.flip (show x - 126<255 by omega) fun v4 e4 hD4 t4=>⟨_,ixQ (show x - 121<255 by omega),_,hD4.get (by omega),_,ixQ (show x - 121<255 by omega),?_⟩
        refine hD4.flip (show x - 121<255 by omega) fun v5 e5 hD5 t5=>?_
        have fv:Fr [C] w7 v5:=(((e1.trans e2 (fun y hy=>.inl hy)).trans e3 (fun y hy=>.inl hy)).trans e4 (fun y hy=>.inl hy)).trans e5 (fun y hy=>.inl hy)
        refine hgo2 _ _ _ (k2 - 1) (by omega) ⟨m+1,by omega,by rw [ex],f7.st fv (by omega),⟨_,hZ7.fr fv (by simp; omega)⟩,hD5.congr fun t _=>?_⟩
        rw [Xqn,← hx,← hG]
        unfold stp
        rw [hc,Bool.true_and]
        by_cases q0:t=x
        · subst q0
          rw [if_neg (by omega),if_neg (by omega),if_neg (by omega),if_neg (by omega),if_pos rfl,if_pos rfl]
        · by_cases q1:t=x - 128
          · subst q1
            have z1:¬ (x - 128=x):=by omega
            have y128:x - 128+128=x:=by omega
            have z127:¬ (x - 128=x - 127):=by omega
            have y127:¬ (x - 128+127=x):=by omega
            have z126:¬ (x - 128=x - 126):=by omega
            have y126:¬ (x - 128+126=x):=by omega
            have z121:¬ (x - 128=x - 121):=by omega
            have y121:¬ (x - 128+121=x):=by omega
            simp only [z1,z127,z126,z121,y128,y127,y126,y121,if_true,if_false,decide_true,decide_false,Bool.or_false,Bool.false_or,Bool.or_true,Bool.true_or,Bool.xor_true,↓reduceIte]
          · by_cases q2:t=x - 127
            · subst q2
              have z1:¬ (x - 127=x):=by omega
              have z128:¬ (x - 127=x - 128):=by omega
              have y128:¬ (x - 127+128=x):=by omega
              have y127:x - 127+127=x:=by omega
              have z126:¬ (x - 127=x - 126):=by omega
              have y126:¬ (x - 127+126=x):=by omega
              have z121:¬ (x - 127=x - 121):=by omega
              have y121:¬ (x - 127+121=x):=by omega
              simp only [z1,z128,z126,z121,y128,y127,y126,y121,if_true,if_false,decide_true,decide_false,Bool.or_false,Bool.false_or,Bool.or_true,Bool.true_or,Bool.xor_true,↓reduceIte]
            · by_cases q3:t=x - 126
              · subst q3
                have z1:¬ (x - 126=x):=by omega
                have z128:¬ (x - 126=x - 128):=by omega
                have y128:¬ (x - 126+128=x):=by omega
                have z127:¬ (x - 126=x - 127):=by omega
                have y127:¬ (x - 126+127=x):=by omega
                have y126:x - 126+126=x:=by omega
                have z121:¬ (x - 126=x - 121):=by omega
                have y121:¬ (x - 126+121=x):=by omega
                simp only [z1,z128,z127,z121,y128,y127,y126,y121,if_true,if_false,decide_true,decide_false,Bool.or_false,Bool.false_or,Bool.or_true,Bool.true_or,Bool.xor_true,↓reduceIte]
              · by_cases q4:t=x - 121
                · subst q4
                  have z1:¬ (x - 121=x):=by omega
                  have z128:¬ (x - 121=x - 128):=by omega
                  have y128:¬ (x - 121+128=x):=by omega
                  have z127:¬ (x - 121=x - 127):=by omega
                  have y127:¬ (x - 121+127=x):=by omega
                  have z126:¬ (x - 121=x - 126):=by omega
                  have y126:¬ (x - 121+126=x):=by omega
                  have y121:x - 121+121=x:=by omega
                  simp only [z1,z128,z127,z126,y128,y127,y126,y121,if_true,if_false,decide_true,decide_false,Bool.or_false,Bool.false_or,Bool.or_true,Bool.true_or,Bool.xor_true,↓reduceIte]
                · have y128:¬ (t+128=x):=by omega
                  have y127:¬ (t+127=x):=by omega
                  have y126:¬ (t+126=x):=by omega
                  have y121:¬ (t+121=x):=by omega
                  simp only [q0,q1,q2,q3,q4,y128,y127,y126,y121,decide_false,Bool.or_false,Bool.xor_false,↓reduceIte]
      · refine hgo2 _ _ _ (k2 - 1) (by omega) ⟨m+1,by omega,by rw [ex],f7,⟨_,hZ7⟩,hC7.congr fun t _=>?_⟩
        rw [Xqn,← hx,← hG,XcK hc]
    · have hml:m=127:=by omega
      subst hml
      unfold XeG
      refine Xff fun u1 g1 e1 hY1 s1=>Xe0 (n:=128) (g:=fun _=>false) (by kernel_rfl) (by kernel_rfl) hY1 fun u2 e2 hY2 s2=>?_
      have n7:=f7.size
      have hCl:=hC7.lt; have hZl:=hZ7.lt
      have f72:Fr [] w7 u2:=e1.st e2 (Nat.le_refl _)
      have hC2:=hC7.fr0 f72; have hZ2:=hZ7.fr0 f72
      obtain ⟨Y,hYe⟩:∃ Y,Y=w7.heap.size:=⟨_,rfl⟩
      rw [← hYe] at hY2 hZl hCl n7 ⊢
      refine LoopS.ind (fun k us w'=>∃ (t:Nat) (gg:Nat→Bool),t+k=128∧us=[.pointer (some ⟨Z,0,none⟩),.pointer (some ⟨C,0,none⟩),.pointer (some ⟨Y,0,none⟩),.int .i64 (t:Int)]∧Fr [] w w'∧(∃ g1,Blk w' Z 128 g1)∧PolB w' C 255 (red (Vw a b 128))∧PolB w' Y 128 gg∧∀ j,j<t→gg j=red (Vw a b 128) j) 128
        ⟨0,_,by omega,rfl,f7.then f72,⟨_,hZ2⟩,hC2,hY2,by omega⟩ ?_
      rintro k3 us3 r3 u3 I3 μ3 hgo3 ⟨t,gg,ht,rfl,f3',⟨g3',hZ3'⟩,hC3',hY3',hgg⟩
      refine ⟨_,_,_,_,rfl,Xc (fun h3=>?_) (fun h3=>?_)⟩
      · refine ⟨_,ixQ (show t<255 by omega),_,hC3'.get (by omega),_,ixP (show t<128 by omega),hY3'.set (by omega) fun u4 e4 hY4 s4'=>?_⟩
        rw [Xe (by omega) (by omega)]
        refine hgo3 _ _ _ (k3 - 1) (by omega) ⟨t+1,_,by omega,rfl,f3'.st e4 (by omega),⟨_,hZ3'.fr e4 (by simp; omega)⟩,hC3'.fr e4 (by simp; omega),hY4,fun j hj=>?_⟩
        show (if j=t then _ else _)=_
        by_cases hjt:j=t
        · rw [if_pos hjt,hjt]
        · rw [if_neg hjt]; exact hgg j (by omega)
      · have htl:t=128:=by omega
        subst htl
        unfold XeF
        have e:bA 128 gg=bA 128 (cf (QO a b)):=by rw [← Xvh hb]; exact Xhl hgg
        refine ⟨_,hY3'.ld,Xe0 rfl (by kernel_rfl) hZ3' fun u5 e5 hA5' s5'=>⟨_,_,rfl,hA5'.ld,?_⟩⟩
        rw [e]
        exact h u5 (f3'.st e5 (by omega))
end
end Go.Sh
end
