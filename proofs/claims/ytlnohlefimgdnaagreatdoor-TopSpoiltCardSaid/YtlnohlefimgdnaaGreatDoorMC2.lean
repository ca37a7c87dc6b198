/- A part of a proof of a given law of this program: lemmas, printed forms of its functions, contracts. It has no conditions of its own. -/
import Derived.Test.YtlnohlefimgdnaaGreatDoorMC1
import Derived.Test.YtlnohlefimgdnaaGreatDoorMW1
import Derived.Test.YtlnohlefimgdnaaGreatDoorMS2
import Derived.Test.YtlnohlefimgdnaaGreatDoorMS3

set_option maxHeartbeats 16000000
section
namespace Go.Sh
open Go Go.Fw Go.Proofs
set_option maxRecDepth 100000
set_option linter.unusedVariables false
theorem ORows.outer {w:World} {p:Option Addr} {l c:Nat} {rs:List (List UInt8)} {lo hi:Nat} (h:ORows w p l c rs lo hi):∀ k∈Xb p,lo≤k∧k<hi:=by obtain ⟨vs,q,d,_,_,hp,_⟩:=h; exact hp
theorem ORows.len {w:World} {p:Option Addr} {l c:Nat} {rs:List (List UInt8)} {lo hi:Nat} (h:ORows w p l c rs lo hi):l=rs.length:=by obtain ⟨vs,q,d,_,hl,_⟩:=h; exact hl
theorem Xwa {w:World} {K:Option Addr→Nat→Nat→World→Prop} (h:∀ p w',Fr [] w w'→ORows w' p 0 0 [] w.heap.size w'.heap.size→K p 0 0 w'):∃ p l c w',Ef Tryz.prog (Instr.buildSlice XA 0 #[]) w (.slice p l c) w'∧K p l c w':=
  ⟨_,_,_,Ef.new (cs:=#[]) (v:=.slice (some ⟨w.heap.size,0,none⟩) 0 0) (e:=Xg) (by kernel_rfl) fun w' f hB s=>h _ w' f ⟨[],fun _=>none,fun _=>0,⟨rfl,.inr ⟨_,_,_,_,rfl,hB,by simp,by simp,by simp⟩⟩,rfl,by simp [Xb]; omega,by omega⟩⟩
theorem Xrm {w:World} {p:Option Addr} {l c:Nat} {rs:List (List UInt8)} {lo hi lo1:Nat} (h:ORows w p l c rs lo hi) (hhi:hi≤w.heap.size) (hlo:lo≤hi) {q1:Option Addr} {n1 d1:Nat} {r:List UInt8} (hq:OB w q1 n1 d1 r lo1) (hn:hi≤lo1) (hlen:l<1073741824) {K:Option Addr→Nat→Nat→World→Prop}
    (hk:∀ p' c' w',Fr (Xb p) w w'→ORows w' p' (l+1) c' (rs++[r]) lo w'.heap.size→K p' (l+1) c' w') :
    ∃ q m d w1,Ef Tryz.prog (Instr.buildSlice XA 1 #[(0,.slice q1 n1 d1)]) w (.slice q m d) w1∧∃ p' l' c' w2,Ef Tryz.prog (Builtin.append_ #[XA,XA] XA #[.slice p l c,.slice q m d]) w1 (.slice p' l' c') w2∧K p' l' c' w2:=by
  refine ⟨_,_,_,Ef.new (v:=.slice (some ⟨w.heap.size,0,none⟩) 1 1) (cs:=([.slice q1 n1 d1]:List Value).toArray) (e:=Xg) (by kernel_rfl) fun w1 f1 hB1 s1=>?_⟩
  obtain ⟨p',c',w2,he,hO2,f2⟩:=(h.fr0 f1).push (by omega) hlo (r:=r) (hq.1.fr0 f1) hq.2.1 (fun k hk=>by have:=hq.2.2 k hk; omega) hB1.rowL (d2:=1) hlen
  exact ⟨_,_,_,_,he,hk p' c' w2 (f1.after f2) hO2⟩
theorem ORows.news {a w w':World} {p:Option Addr} {l c:Nat} {rs:List (List UInt8)} {lo hi:Nat} (h:ORows w p l c rs lo hi) (h1:Fr [] a w) (h2:Fr (Xb p) w w') (h3:a.heap.size≤lo):Fr [] a w':=h1.trans h2 fun z hz=>.inr (Nat.le_trans h3 (h.outer z hz).1)
def XaE (n s:Nat) (x:Nat→UInt8):List (List UInt8):=(List.range n).map fun k=>bl s (fun j=>x (s*k+j))
theorem XcI (n s:Nat) (x:Nat→UInt8):XaE (n+1) s x=XaE n s x++[bl s (fun j=>x (s*n+j))]:=by simp [XaE,List.range_succ]
theorem Xhe {n s:Nat} {x:Nat→UInt8} {k:Nat} (h:k<n):(XaE n s x).getD k []=bl s (fun j=>x (s*k+j)):=by simp [XaE,h]
theorem Xwb (m n:Nat) (x:Nat→UInt8):bl (m+n) x=bl m x++bl n (fun j=>x (m+j)):=by
  unfold bl
  rw [List.range_add,List.map_append,List.map_map]
  rfl
theorem Xu9 {xs:List UInt8} {i s:Nat} (h:i+s≤xs.length):(xs.take (i+s)).drop i=bl s (fun j=>fl xs (i+j)):=by
  apply List.ext_getElem?
  intro j
  rw [List.getElem?_drop]
  by_cases hj:j<s
  · rw [List.getElem?_take,if_pos (by omega),XsA hj]
    unfold fl
    rw [List.getD_eq_getElem?_getD,List.getElem?_eq_getElem (by omega)]
    rfl
  · rw [List.getElem?_eq_none (by simp; omega),List.getElem?_eq_none (by rw [XN]; omega)]
theorem XsH {w:World} {p q:Option Addr} {l c m d:Nat} {xs:List UInt8} (hx:Row w p (xs.map vb)) (hl:l=xs.length) (h16:xs.length=16) (hcap:l≤c) (ht:Row w q (tblL.map vb)) (hm:m=256) {K:VWP}
    (h:∀ p' c' w',Fr [] w w'→ORows w' p' 11 c' (Xi6 (X4 (fl xs)) 11) w.heap.size w'.heap.size→K (.slice p' 11 c') w'):Xa Tryz.prog XnI #[.slice p l c,.slice q m d] w K:=by
  apply Xij
  unfold Xii
  obtain ⟨A,hA⟩:∃ A,A=X4 (fl xs):=⟨_,rfl⟩
  have hword:∀ k j,k<44→j<4→A (4*k+j)=Vv (fl xs) k A j:=fun k j hk hj=>by rw [hA]; exact XcG _ hk hj
  rw [← hA] at h
  refine Xwa fun p0 w1 f1 hR1=>?_
  refine LoopS.ind (fun k us w'=>∃ (i:Nat) (p5:Option Addr) (c5:Nat),i+k=4∧us=[.slice p l c,.slice q m d,.slice none 0 0,.slice p5 i c5,.int .i64 (i:Int)]∧Fr [] w w'∧ORows w' p5 i c5 (XaE i 4 A) w.heap.size w'.heap.size) 4
    ⟨0,p0,0,by omega,rfl,f1,hR1⟩ ?_
  rintro k us rr w2 I μ hgo ⟨i,p5,c5,hi,rfl,f2,hR2⟩
  have n2:=f2.size
  refine ⟨_,_,_,_,_,_,_,_,_,_,_,_,_,rfl,Xc (fun h1=>?_) (fun h1=>?_)⟩
  · have hi4:i<4:=by omega
    refine mk0 fun p19 w3 f3 hO3 s3=>?_
    have e1:IntKind.i64.wrap (4*(i:Int))=((4*i:Nat):Int):=by rw [Xe (by omega) (by omega)]; omega
    have e2:IntKind.i64.wrap (((4*i:Nat):Int)+4)=((4*i+4:Nat):Int):=by rw [Xe (by omega) (by omega)]; omega
    rw [e1,e2]
    refine ⟨_,_,_,VK (s:=1) (kl:=.i64) (kh:=.i64) (lo:=some ((4*i:Nat):Int)) (hi:=some ((4*i+4:Nat):Int)) (by kernel_rfl) (by show 0≤((4*i:Nat):Int); omega) (by show ((4*i:Nat):Int)≤((4*i+4:Nat):Int); omega) (by show ((4*i+4:Nat):Int)≤(c:Int); omega),?_⟩
    simp only [Option.getD,Int.toNat_natCast]
    have hx3:=(hx.fr0 f2).fr0 f3
    have hrow:Row w3 (Go.Fw.partAt p c (4*i) 1) ((bl 4 (fun j=>A (4*i+j))).map vb):=by
      have h5:=(hx3.take (4*i+4)).part (c:=c) (l:=4*i) (by simp; omega)
      rw [← List.map_take,← List.map_drop,Xu9 (by omega)] at h5
      have e5:bl 4 (fun j=>fl xs (4*i+j))=bl 4 (fun j=>A (4*i+j)):=Z0 fun j hj=>by
        show fl xs (4*i+j)=A (4*i+j)
        rw [hword i j (by omega) hj]; unfold Vv; rw [if_pos hi4]
      rw [e5] at h5
      exact h5
    refine JW hO3 (by omega) hrow (m:=4*i+4 - 4*i) (by rw [XN]; omega) (by omega) fun p' c' w4 f4 hO4=>?_
    have e4:0+(4*i+4 - 4*i)=4:=by omega
    rw [e4] at hO4
    rw [e4]
    have f24:Fr [] w2 w4:=hO3.news f3 f4 (Nat.le_refl _)
    have n24:=f24.size
    refine Xrm (hR2.fr0 f24) (by omega) n2 hO4 (Nat.le_refl _) (by omega) fun p6 c6 w5 f5 hR5=>?_
    rw [Xe (by omega) (by omega)]
    refine hgo _ _ _ (k - 1) (by omega) ⟨i+1,p6,c6,by omega,rfl,(hR2.fr0 f24).news (f2.then f24) f5 (Nat.le_refl _),?_⟩
    rw [XcI]
    exact hR5
  · have hi4:i=4:=by omega
    subst hi4
    unfold XcX
    refine LoopS.ind (fun k us w'=>∃ (i:Nat) (p5:Option Addr) (c5:Nat),4≤i∧i+k=44∧us=[.slice q m d,.slice none 0 0,.slice p5 i c5,.int .i64 (i:Int)]∧Fr [] w w'∧ORows w' p5 i c5 (XaE i 4 A) w.heap.size w'.heap.size) 40
      ⟨4,p5,c5,by omega,by omega,rfl,f2,hR2⟩ ?_
    rintro k us rr w3 I2 μ2 hgo2 ⟨i,p5,c5,hi4,hi,rfl,f3,hR3⟩
    have n3:=f3.size
    refine ⟨_,_,_,_,_,_,_,_,_,_,rfl,Xc (fun h2=>?_) (fun h2=>?_)⟩
    · have hi44:i<44:=by omega
      have e1:IntKind.i64.wrap ((i:Int) - 1)=((i - 1:Nat):Int):=by rw [Xe (by omega) (by omega)]; omega
      have e4:IntKind.i64.wrap ((i:Int) - 4)=((i - 4:Nat):Int):=by rw [Xe (by omega) (by omega)]; omega
      rw [e1]
      obtain ⟨a,qa,da,ha,hca,hOa,hqa⟩:=hR3.get (i:=i - 1) (by omega) (k:=.i64)
      rw [Xhe (by omega),XN] at hca hOa
      refine ⟨a,ha,_,_,_,Ld.cell (by kernel_rfl) hca,?_⟩
      have em:Int.tmod (i:Int) 4=((i % 4:Nat):Int):=rfl
      have ed:IntKind.i64.wrap (Int.tdiv (i:Int) 4)=((i / 4:Nat):Int):=by
        have:Int.tdiv (i:Int) 4=((i / 4:Nat):Int):=rfl
        rw [this]; exact Xe (by omega) (by omega)
      rw [em,ed]
      have fin : ∀ w4 q8 c8, Fr [] w3 w4 → Row w4 q8 ((bl 4 (fun j => if i % 4 = 0 then Yu (fun j => A (4 * (i - 1) + j)) (i / 4) j else A (4 * (i - 1) + j))).map vb) →
          UP I2 μ2 [.slice q m d,.slice none 0 0,.slice p5 i c5,.int .i64 (i:Int)] w3 q m d none 0 0 p5 i c5 (i:Int) q8 4 c8 w4 K:=by
        intro w4 q8 c8 f34 hrow
        unfold UP
        have n34:=f34.size
        rw [e4]
        have hR4:=hR3.fr0 f34
        obtain ⟨b,qb,db,hb,hcb,hOb,hqb⟩:=hR4.get (i:=i - 4) (by omega) (k:=.i64)
        rw [Xhe (by omega),XN] at hcb hOb
        refine ⟨b,hb,_,_,_,Ld.cell (by kernel_rfl) hcb,?_⟩
        refine XeS hOb.row (by rw [XN]) hrow (by rw [XN]) (Nat.le_refl _) (by omega) fun p9 c9 w5 f5 hO5=>⟨_,_,_,rfl,?_⟩
        have n5:=f5.size
        refine Xrm (hR4.fr0 f5) (by omega) n3 hO5 n34 (by omega) fun p6 c6 w6 f6 hR6=>?_
        rw [Xe (by omega) (by omega)]
        refine hgo2 _ _ _ (k - 1) (by omega) ⟨i+1,p6,c6,by omega,by omega,rfl,(hR4.fr0 f5).news ((f3.then f34).then f5) f6 (Nat.le_refl _),?_⟩
        rw [XcI]
        have e6:bl 4 (Uf (fl (bl 4 (fun j=>A (4*(i - 4)+j)))) (fl (bl 4 (fun j=>if i % 4=0 then Yu (fun j=>A (4*(i - 1)+j)) (i / 4) j else A (4*(i - 1)+j)))))=bl 4 (fun j=>A (4*i+j)):=by
          rw [XsB]
          refine Z0 fun j hj=>?_
          show A (4*(i - 4)+j) ^^^ _=A (4*i+j)
          rw [hword i j hi44 hj]
          unfold Vv
          rw [if_neg (by omega)]
        rw [e6] at hR6
        exact hR6
      refine Yn (fun h3=>?_) (fun h3=>?_)
      · have hm4:i % 4=0:=by omega
        have hil:i - 1<44:=by omega
        obtain ⟨y,hy⟩:∃ y:Nat→UInt8,y=fun j=>A (4*(i - 1)+j):=⟨_,rfl⟩
        rw [← hy] at hOa fin
        obtain ⟨a1,ha1,hc1⟩:=XD (t:=Xg) (by kernel_rfl) hOa.row (c:=da) (l:=4) (by rw [XN]) (i:=1) (by omega) (k:=.i64)
        obtain ⟨a2,ha2,hc2⟩:=XD (t:=Xg) (by kernel_rfl) hOa.row (c:=da) (l:=4) (by rw [XN]) (i:=2) (by omega) (k:=.i64)
        obtain ⟨a3,ha3,hc3⟩:=XD (t:=Xg) (by kernel_rfl) hOa.row (c:=da) (l:=4) (by rw [XN]) (i:=3) (by omega) (k:=.i64)
        obtain ⟨a0,ha0,hc0⟩:=XD (t:=Xg) (by kernel_rfl) hOa.row (c:=da) (l:=4) (by rw [XN]) (i:=0) (by omega) (k:=.i64)
        rw [Xkt (by omega)] at hc0 hc1 hc2 hc3
        refine ⟨fun w'=>Fr [] w3 w',Drw.intro fun w4 f4 s4=>?_⟩
        refine ⟨a1,ha1,a2,ha2,a3,ha3,a0,ha0,_,⟨f4,fun w' hw'=>Ld.cell (by kernel_rfl) (hw'.cell hc1 (by simp))⟩,_,⟨f4,fun w' hw'=>Ld.cell (by kernel_rfl) (hw'.cell hc2 (by simp))⟩,_,⟨f4,fun w' hw'=>Ld.cell (by kernel_rfl) (hw'.cell hc3 (by simp))⟩,_,Ld.cell (by kernel_rfl) (f4.cell hc0 (by simp)),.inl rfl,?_⟩
        refine ⟨_,_,_,Ef.new (v:=.slice (some ⟨w4.heap.size,0,none⟩) 4 4) (cs:=(([y 1,y 2,y 3,y 0]:List UInt8).map vb).toArray) (e:=Jf) (by kernel_rfl) fun w5 f5 hB5 s5=>?_⟩
        have f35:=f4.then f5
        refine Xi4 (l:=4) (xs:=[y 1,y 2,y 3,y 0]) hB5.rowL rfl (((ht.fr0 f3).fr0 f35)) (ts:=tblL) (by rw [hm]; exact (XN _ _).symm) hm (by omega) fun p6 c6 w6 f6 hO6=>⟨_,_,_,rfl,?_⟩
        have e5:([y 1,y 2,y 3,y 0]:List UInt8).map (fun a=>fl tblL a.toNat)=bl 4 (fun j=>XE (y ((j+1) % 4))):=by
          have:∀ a:UInt8,fl tblL a.toNat=XE a:=Xp8
          simp only [List.map,this]
          rfl
        rw [e5] at hO6
        obtain ⟨z,hz⟩:∃ z:Nat→UInt8,z=fun j=>XE (y ((j+1) % 4)):=⟨_,rfl⟩
        rw [← hz] at hO6
        obtain ⟨b,hb,hcb⟩:=hO6.get (k:=.i64) (i:=0) (by omega)
        rw [V4 4 z 0 (by omega)] at hcb
        refine ⟨fun w'=>w'.cell? b=some (vb (z 0)),Drw.intro fun w7 f7 s7=>?_⟩
        refine ⟨b,hb,_,⟨f7.cell hcb (by simp),fun w' hw'=>Ld.cell (by kernel_rfl) hw'⟩,?_⟩
        have er:IntKind.u64.wrap (IntKind.i64.wrap (((i / 4:Nat):Int) - 1))=((UInt64.ofNat (i / 4 - 1)).toNat:Int):=by
          have e1:((i / 4:Nat):Int) - 1=((i / 4 - 1:Nat):Int):=by omega
          have e2:(UInt64.ofNat (i / 4 - 1)).toNat=i / 4 - 1:=by simp; omega
          rw [e1,Xe (by omega) (by omega),XC (by omega) (by omega),e2]
        rw [er]
        obtain ⟨p0,hp0⟩:∃ p,p=Vt 2 (UInt64.ofNat (i / 4 - 1)):=⟨_,rfl⟩
        refine XtO 2 _ _ _ ?_
        rw [← hp0]
        refine ⟨_,rfl,.inl rfl,?_⟩
        rw [UV]
        have f37:=(f35.then f6).then f7
        have hlen6:=hO6.2.1
        refine (hO6.fr0 f7).sto (i:=0) (by omega) fun w8 f8 hO8 s8=>?_
        refine fin w8 p6 c6 ((hO6.fr0 f7).news f37 f8 f35.size) ?_
        have e8:(bl 4 z).set 0 (z 0 ^^^ p0)=bl 4 (fun j=>if i % 4=0 then Yu y (i / 4) j else y j):=by
          refine XcH (by simp [XN]) fun j hj=>?_
          rw [ZJ (by rw [XN]; omega)]
          show _=if i % 4=0 then Yu y (i / 4) j else y j
          rw [if_pos hm4]
          unfold Yu
          by_cases hj0:j=0
          · subst hj0; rw [if_pos rfl,if_pos rfl,← hp0,hz]
          · rw [if_neg hj0,if_neg hj0,V4 4 z j hj,hz]
        have hrow8:=hO8.row
        rw [e8] at hrow8
        rw [hy] at hrow8 ⊢
        exact hrow8
      · have hm4:¬ i % 4=0:=by omega
        refine fin w3 qa da (Fr.refl _ _) ?_
        have e6:bl 4 (fun j=>if i % 4=0 then Yu (fun j=>A (4*(i - 1)+j)) (i / 4) j else A (4*(i - 1)+j))=bl 4 (fun j=>A (4*(i - 1)+j)):=Z0 fun j hj=>if_neg hm4
        rw [e6]
        exact hOa.row
    · have hi44:i=44:=by omega
      subst hi44
      unfold XcW
      refine Xwa fun p7 w4 f4 hR4=>?_
      refine LoopS.ind (fun k us w'=>∃ (i:Nat) (p9:Option Addr) (c9:Nat),i+k=11∧us=[.slice none 0 0,.slice p5 44 c5,.slice p9 i c9,.int .i64 (i:Int)]∧Fr [] w3 w'∧ORows w' p9 i c9 (XaE i 16 A) w3.heap.size w'.heap.size) 11
        ⟨0,p7,0,by omega,rfl,f4,hR4⟩ ?_
      rintro k us rr w5 I3 μ3 hgo3 ⟨i,p9,c9,hi,rfl,f5,hR5⟩
      have n5:=f5.size
      refine ⟨_,_,_,_,_,_,_,_,_,_,rfl,Xc (fun h3=>?_) (fun h3=>?_)⟩
      · have hi11:i<11:=by omega
        refine mk0 fun p10 w6 f6 hO6 s6=>?_
        refine LoopS.ind (fun k us w'=>∃ (j:Nat) (p11:Option Addr) (c11:Nat),j+k=4∧us=[.slice none 0 0,.slice p5 44 c5,.slice p9 i c9,.int .i64 (i:Int),.slice p11 (4*j) c11,.int .i64 (j:Int)]∧Fr [] w5 w'∧OB w' p11 (4*j) c11 (bl (4*j) (fun t=>A (16*i+t))) w5.heap.size) 4
          ⟨0,p10,0,by omega,rfl,f6,hO6⟩ ?_
        rintro k2 us2 rr2 w7 I4 μ4 hgo4 ⟨j,p11,c11,hj,rfl,f7,hO7⟩
        refine ⟨_,_,_,_,_,_,_,_,_,_,_,_,_,_,rfl,Xc (fun h4=>?_) (fun h4=>?_)⟩
        · have hj4:j<4:=by omega
          have e1:IntKind.i64.wrap (4*(i:Int))=((4*i:Nat):Int):=by rw [Xe (by omega) (by omega)]; omega
          have e2:IntKind.i64.wrap (((4*i:Nat):Int)+(j:Int))=((4*i+j:Nat):Int):=by rw [Xe (by omega) (by omega)]; omega
          rw [e1,e2]
          obtain ⟨a,qa,da,ha,hca,hOa,hqa⟩:=((hR3.fr0 f5).fr0 f7).get (i:=4*i+j) (by omega) (k:=.i64)
          rw [Xhe (by omega),XN] at hca hOa
          refine ⟨a,ha,_,_,_,Ld.cell (by kernel_rfl) hca,?_⟩
          refine JW hO7 f7.size hOa.row (by rw [XN]) (by omega) fun p' c' w8 f8 hO8=>?_
          rw [Xe (by omega) (by omega)]
          refine hgo4 _ _ _ (k2 - 1) (by omega) ⟨j+1,p',c',by omega,rfl,hO7.news f7 f8 (Nat.le_refl _),?_⟩
          have e8:bl (4*j) (fun t=>A (16*i+t))++bl 4 (fun t=>A (4*(4*i+j)+t))=bl (4*(j+1)) (fun t=>A (16*i+t)):=by
            rw [show 4*(j+1)=4*j+4 by omega,Xwb]
            congr 1
            refine Z0 fun t _=>?_
            show A _=A _
            congr 1; omega
          rw [e8] at hO8
          exact hO8
        · have hj4:j=4:=by omega
          subst hj4
          have n7:=f7.size
          refine Xrm (hR5.fr0 f7) n7 n5 hO7 (Nat.le_refl _) (by omega) fun p12 c12 w8 f8 hR8=>?_
          rw [Xe (by omega) (by omega)]
          refine hgo3 _ _ _ (k - 1) (by omega) ⟨i+1,p12,c12,by omega,rfl,(hR5.fr0 f7).news (f5.then f7) f8 (Nat.le_refl _),?_⟩
          rw [XcI]
          exact hR8
      · have hi11:i=11:=by omega
        subst hi11
        exact h p9 c9 w5 (f3.then f5) (hR5.mono n3 (Nat.le_refl _))
end Go.Sh
end

section
namespace Go.Sh
open Go Go.Fw Go.Proofs
set_option maxRecDepth 100000
set_option linter.unusedVariables false
def hsz (n:Nat):Nat:=n - n / 2
theorem Xi7 {xs ys:List UInt8} (hl:xs.length=ys.length) (h:∀ j,j<xs.length→fl xs j=fl ys j):xs=ys:=X3 hl h
end Go.Sh
end

section
namespace Go.Sh
open Go Go.Fw Go.Proofs
set_option maxRecDepth 100000
set_option linter.unusedVariables false
def Xwc (n:Int) (rs:List (List UInt8)):Prop:=2≤n∧n≤28∧∀ r∈rs,r.length=hsz n.toNat
instance (n:Int) (rs:List (List UInt8)):Decidable (Xwc n rs):=by unfold Xwc; exact inferInstance
end Go.Sh
end

section
namespace Go.Sh
open Go Go.Fw Go.Proofs
set_option maxRecDepth 100000
set_option linter.unusedVariables false
def Cip (w:World) (c:Nat) (key:List UInt8) (d:Int) (lo hi:Nat):Prop:=∃ t F,Ciph w c t F (X4 (fl key)) d∧(∀ k∈F,lo≤k∧k<hi)∧lo≤c∧c<hi
theorem Cip.fr {w w':World} {c:Nat} {key:List UInt8} {d:Int} {lo hi:Nat} {L:List Nat} (h:Cip w c key d lo hi) (hf:Fr L w w') (hl:∀ k∈L,k<lo∨hi≤k):Cip w' c key d lo hi:=by
  obtain ⟨t,F,hC,hF,h1,h2⟩:=h
  exact ⟨t,F,hC.fr hf (fun hc=>by have:=hl _ hc; omega) (fun k hk hkF=>by have:=hl k hk; have:=hF k hkF; omega),hF,h1,h2⟩
theorem Cip.fr0 {w w':World} {c:Nat} {key:List UInt8} {d:Int} {lo hi:Nat} (h:Cip w c key d lo hi) (hf:Fr [] w w'):Cip w' c key d lo hi:=h.fr hf (by simp)
theorem Cip.lt {w:World} {c:Nat} {key:List UInt8} {d:Int} {lo hi:Nat} (h:Cip w c key d lo hi):lo≤c∧c<hi:=by obtain ⟨t,F,hC,hF,h1,h2⟩:=h; exact ⟨h1,h2⟩
theorem Row.blk_lt {w:World} {p:Option Addr} {xs:List UInt8} (h:Row w p (xs.map vb)) (h0:0<xs.length):∀ k∈Xb p,k<w.heap.size:=by
  obtain ⟨b,o,rfl,hc⟩:=Row.some h h0
  simp only [Xb,List.mem_singleton]
  rintro k rfl
  exact World.block_lt_of_cell? w _ (hc 0 h0)
theorem Xox {w:World} {p:Option Addr} {l cap:Nat} {xs:List UInt8} (hx:Row w p (xs.map vb)) (hl:l=xs.length) (h16:xs.length=16) (hcap:xs.length≤cap) {K:VWP}
    (h:∀ c w',Fr [] w w'→Cip w' c xs 0 w.heap.size w'.heap.size→K (.tuple #[.pointer (some ⟨c,0,none⟩),.int .i64 0]) w'):Xa Tryz.prog Xd7 #[.slice p l cap] w K:=
  Xt0 hx hl h16 hcap fun c t F w' f hC hF hc=>h c w' f ⟨t,F,hC,fun k hk=>⟨hF k hk,by obtain ⟨_,_,_,_,_,_,_,h⟩:=hC; exact h k hk⟩,hc,hC.lt⟩
theorem Xhf {w:World} {c:Nat} {key:List UInt8} {d:Int} {lo hi:Nat} (hC:Cip w c key d lo hi) (hd0:0≤d) (hd:d<1000000000000) {p:Option Addr} {l cap:Nat} {xs:List UInt8} (hx:Row w p (xs.map vb)) (hl:l=xs.length) (h16:xs.length=16) (hpc:∀ k∈Xb p,k<lo∨hi≤k) {K:VWP}
    (h:∀ p' w',Fr [c] w w'→Cip w' c key (d+1) lo hi→OB w' p' 16 16 (UQ key xs) w.heap.size→K (.tuple #[.slice p' 16 16,.int .i64 0]) w') :
    Xa Tryz.prog Vj #[.pointer (some ⟨c,0,none⟩),.slice p l cap] w K:=by
  obtain ⟨t,F,hC,hF,h1,h2⟩:=hC
  exact XsF hC hd0 hd hx hl h16 (fun hk=>by have:=hpc _ hk; omega) fun b w' f hC' hb hbl=>h _ w' f ⟨t,F,hC',hF,h1,h2⟩ ⟨hb.own,by simp [Jq],by simp [Xb]; exact hbl⟩
theorem OB.fr_sep {w w':World} {p:Option Addr} {l c:Nat} {xs:List UInt8} {lo b:Nat} (h:OB w p l c xs lo) (hf:Fr [b] w w') (hl:b<lo):OB w' p l c xs lo:=
  h.fr hf fun k hk=>by have:=h.2.2 k hk; simp; omega
theorem Row.fr_lt {w w':World} {p:Option Addr} {xs:List UInt8} {b:Nat} (h:Row w p (xs.map vb)) (hf:Fr [b] w w') (hb:b∉Xb p):Row w' p (xs.map vb):=
  Row.cells_fr h hf fun k hk=>by simp; rintro rfl; exact hb hk
theorem mkL {w:World} {xs:List UInt8} {n:Nat} {ps:Array (Nat×Value)} (hn:n=xs.length) (hps:ps=⟨(List.range xs.length).zip (xs.map vb)⟩) (hr:(Instr.buildSlice Xg n ps).run Tryz.prog w=.ok (.slice (some ⟨w.heap.size,0,none⟩) n n) (w.alloc (.cells (xs.map vb).toArray Jf)))
    {K:Option Addr→Nat→Nat→World→Prop} (h:∀ p w',Fr [] w w'→OB w' p n n xs w.heap.size→w'.heap.size=w.heap.size+1→K p n n w'):∃ p l c w',Ef Tryz.prog (Instr.buildSlice Xg n ps) w (.slice p l c) w'∧K p l c w':=by
  subst hn
  refine ⟨_,_,_,Ef.new hr fun w' f hB s=>h _ w' f ⟨?_,rfl,by simp [Xb]⟩ s⟩
  have:=hB.own
  simpa using this
end Go.Sh
end

section
namespace Go.Sh
open Go Go.Fw Go.Proofs
set_option maxRecDepth 100000
set_option linter.unusedVariables false
theorem Row.takeB {w:World} {p:Option Addr} {xs:List UInt8} (h:Row w p (xs.map vb)) (n:Nat):Row w p ((xs.take n).map vb):=by rw [List.map_take]; exact h.take n
theorem Row.partB {w:World} {p:Option Addr} {xs:List UInt8} (h:Row w p (xs.map vb)) {c l:Nat} (hc:xs.length≤c):Row w (Go.Fw.partAt p c l 1) ((xs.drop l).map vb):=by rw [List.map_drop]; exact h.part (by simpa using hc)
theorem XwS {p:Option Addr} {c:Nat} (h:c≠0):Go.Fw.partAt p c 0 1=p:=by
  unfold Go.Fw.partAt
  rw [if_neg h]
  cases p with
  | none=>rfl
  | some a=>rfl
theorem Row.front {w:World} {p:Option Addr} {xs:List UInt8} (h:Row w p (xs.map vb)) (c n:Nat):Row w (Go.Fw.partAt p c 0 1) ((xs.take n).map vb):=by
  unfold Go.Fw.partAt
  split
  · exact Row.takeB h n
  · cases p with
    | none=>exact Row.takeB h n
    | some a=>exact Row.takeB h n
theorem Xva {w:World} {p:Option Addr} {l c:Nat} {xs:List UInt8} (hx:Row w p (xs.map vb)) (hl:l=xs.length) (hc:l≤c) (h16:xs.length=16) (n:Nat) (hn:n<18446744073709551616) {K:VWP}
    (h:∀ q d w',Fr [] w w'→OB w' q 16 d (XH xs n) w.heap.size→K (.tuple #[.slice q 16 d,.int .i64 0]) w'):Xa Tryz.prog XlE #[.slice p l c,.int .u64 (n:Int)] w K:=by
  apply Xg0
  unfold Xf9
  refine XF (fun h1=>by omega) fun _=>?_
  refine ⟨_,_,_,VK (s:=1) (kl:=.i64) (kh:=.i64) (lo:=some 12) (hi:=none) (by kernel_rfl) (by show (0:Int)≤12; omega) (by show (12:Int)≤(l:Int); omega) (by show (l:Int)≤(c:Int); omega),?_⟩
  have e12:(Option.getD (some (12:Int)) 0).toNat=12:=rfl
  have el:(Option.getD (none:Option Int) (l:Int)).toNat=l:=Int.toNat_natCast l
  rw [e12,el]
  have hd:=Row.partB hx (c:=c) (l:=12) (by omega)
  refine Xmo hd (by simp; omega) (by omega) ⟨_,_,rfl,?_⟩
  have hnum:=Ji (xs.drop 12)
  have h4:(xs.drop 12).length=4:=by simp [h16]
  rw [h4] at hnum
  have e:IntKind.u64.wrap (IntKind.u32.wrap (IntKind.u64.wrap ((Xp (xs.drop 12):Int)+(n:Int))))=(((Xp (xs.drop 12)+n) % 4294967296:Nat):Int):=by
    rw [IntKind.wrap_u64,IntKind.wrap_u32,IntKind.wrap_u64]; omega
  rw [e]
  refine Xi5 (size:=4) (by omega) (Nat.mod_lt _ (by decide)) fun q2 d2 w2 f2 hO2=>⟨_,_,_,_,rfl,?_⟩
  refine ⟨_,_,_,VK (s:=1) (kl:=.i64) (kh:=.i64) (lo:=none) (hi:=some 12) (by kernel_rfl) (by show (0:Int)≤0; omega) (by show (0:Int)≤(12:Int); omega) (by show (12:Int)≤(c:Int); omega),?_⟩
  have e0:(Option.getD (none:Option Int) 0).toNat=0:=rfl
  have e12':(Option.getD (some (12:Int)) (l:Int)).toNat=12:=rfl
  rw [e0,e12']
  refine ⟨_,_,_,Ef.new (v:=.slice (some ⟨w2.heap.size,0,none⟩) 2 2) (cs:=([.slice (Go.Fw.partAt p c 0 1) (12 - 0) (c - 0),.slice q2 4 d2]:List Value).toArray) (e:=Xg) (by kernel_rfl) fun w3 f3 hB3 s3=>?_⟩
  have hR:=RowB.of2 hB3.rowL (byS (r:=xs.take 12) (Row.front (hx.fr0 (f2.then f3)) c 12) (by simp; omega) (by omega)) ((hO2.fr0 f3).byS)
  have efl:[xs.take 12,X6 ((Xp (xs.drop 12)+n) % 4294967296) 4].flatten=XH xs n:=by simp [XH]
  refine Wv (l:=2) hR rfl (by rw [efl,Un n h16]; omega) (by omega) fun q d w4 f4 hO4=>⟨_,_,_,rfl,?_⟩
  rw [efl,Un n h16] at hO4
  rw [efl,Un n h16]
  have n2:=f2.size; have n3:=f3.size
  exact h q d w4 ((f2.then f3).then f4) (hO4.mono (by omega))
theorem XsI {w:World} {p:Option Addr} {l c:Nat} {xs:List UInt8} (hx:Row w p (xs.map vb)) (hl:l=xs.length) (hc:l≤c) (h16:xs.length=16) {K:VWP}
    (h:∀ q d w',Fr [] w w'→OB w' q 16 d (XH xs 1) w.heap.size→K (.tuple #[.slice q 16 d,.int .i64 0]) w'):Xa Tryz.prog XnD #[.slice p l c] w K:=by
  apply Xip
  unfold Xio
  exact Xva hx hl hc h16 1 (by omega) fun q d w' f hO=>⟨_,_,_,_,rfl,h q d w' f hO⟩
theorem Xt1 {w:World} {p q:Option Addr} {l c m d:Nat} {key from_:List UInt8} (hx:Row w p (key.map vb)) (hl:l=key.length) (hc:l≤c) (h16:key.length=16) (hy:Row w q (from_.map vb)) (hm:m=from_.length) (hd:m≤d) (h16':from_.length=16) (n:Nat) (hn:n≤65535) {K:VWP}
    (h:∀ p' c' w',Fr [] w w'→OB w' p' n c' (Xa1 key from_ n) w.heap.size→K (.tuple #[.slice p' n c',.int .i64 0]) w'):Xa Tryz.prog XjP #[.slice p l c,.slice q m d,.int .i64 (n:Int)] w K:=by
  apply Xfw
  unfold Xel
  refine Xox hx hl h16 (by omega) fun cc w1 f1 hC=>⟨_,_,rfl,Xz ?_⟩
  refine XF (fun h1=>by omega) fun h1=>Xc (fun h2=>by omega) fun h2=>Xc (fun h3=>by omega) fun h3=>?_
  unfold Xao
  have n1:=f1.size
  have hcl:=hC.lt
  obtain rfl:m=16:=by omega
  have hq0:∀ z∈Xb q,z<w.heap.size:=Row.blk_lt hy (by omega)
  refine LoopS.ind (fun k us w' => ∃ (i : Nat) (q1 : Option Addr) (d1 : Nat) (po : Option Addr) (co : Nat), i + k = 5000 ∧ (i = 0 ∨ 16 * (i - 1) < n) ∧ us = [.slice q1 16 d1, .int .i64 (n : Int), .slice none 0 0, .int .i64 0, .pointer (some ⟨cc, 0, none⟩), .slice po (16 * i) co] ∧ Fr [] w w' ∧ w1.heap.size ≤ w'.heap.size ∧ 16 ≤ d1 ∧
      Cip w' cc key (i:Int) w.heap.size w1.heap.size∧Row w' q1 ((XH from_ i).map vb)∧(∀ z∈Xb q1,z<w.heap.size∨w1.heap.size≤z)∧(∀ z∈Xb q1,z∉Xb po)∧OB w' po (16*i) co (JO key from_ i) w1.heap.size) 5000
    ⟨0,q,d,none,0,by omega,.inl rfl,rfl,f1,Nat.le_refl _,hd,hC,by rw [XpB h16']; exact hy.fr0 f1,fun z hz=>.inl (hq0 z hz),by simp [Xb],OB.nil _ _⟩ ?_
  rintro k us r w2 I μ hgo ⟨i,q1,d1,po,co,hi,hin,rfl,f2,k2,hd1,hC2,hq,hqs,hqo,hO⟩
  refine ⟨_,_,_,_,_,_,_,_,_,_,_,_,rfl,Xc (fun h4=>?_) (fun h4=>?_)⟩
  · have hal:=Un i h16'
    refine Xhf hC2 (by omega) (by omega) hq hal.symm hal hqs fun pa w3 f3 hC3 ha=>⟨_,_,_,_,rfl,?_⟩
    have f03:Fr [] w w3:=f2.trans f3 (fun z hz=>.inr (by simp at hz; omega))
    have n3:=f3.size
    have hO3:=hO.fr_sep f3 (by omega)
    refine JW hO3 (by omega) ha.row (Jq _ _).symm (by omega) fun p4 c4 w4 f4 hO4=>?_
    have f04:Fr [] w w4:=f03.trans f4 (fun z hz=>.inr (by have:=hO3.2.2 z hz; omega))
    have n4:=f4.size
    have hC4:=hC3.fr f4 (fun z hz=>.inr (hO3.2.2 z hz))
    have hq4:Row w4 q1 ((XH from_ i).map vb):=by
      have hq3:Row w3 q1 ((XH from_ i).map vb):=Row.cells_fr hq f3 (fun z hz hzc=>by simp at hzc; have:=hqs _ hz; omega)
      exact Row.cells_fr hq3 f4 (fun z hz hzp=>hqo z hz hzp)
    refine XsI hq4 hal.symm hd1 hal fun q5 d5 w5 f5 hO5=>⟨_,_,_,_,rfl,?_⟩
    have n5:=f5.size
    rw [Xi3 i 1 h16'] at hO5
    refine hgo _ _ _ (k - 1) (by omega) ⟨i+1,q5,d5,p4,c4,by omega,.inr (by simpa using by omega),by rw [show 16*(i+1)=16*i+16 by omega],f04.then f5,by omega,hO5.cap,hC4.fr0 f5,hO5.row,fun z hz=>.inr (by have:=hO5.2.2 z hz; omega),fun z hz hzp=>?_,?_⟩
    · have h1:=hO5.2.2 z hz
      have h2:=hO4.lt z hzp
      omega
    · rw [show 16*(i+1)=16*i+16 by omega]
      exact hO4.fr0 f5
  · have hge:n≤16*i:=by omega
    have hcap:=hO.cap
    refine ⟨_,_,_,XwG (s:=1) (kh:=.i64) (km:=.i64) (by kernel_rfl) (by omega) (Int.le_refl _) (by omega),?_⟩
    rw [Int.toNat_natCast]
    have hOp:=hO.1
    have e:=Xp9 key h16' hge
    refine h _ _ w2 f2 ⟨?_,(U0 _ _ _).symm,fun z hz=>Nat.le_trans n1 (hO.2.2 z (XfT z hz))⟩
    rw [← e,List.map_take]
    obtain ⟨hl',⟨h5,h6,h7⟩ | ⟨g,o,N,f,h5,hB,hoc,hlc,hf⟩⟩:=hOp
    · have hn0:n=0:=by omega
      subst hn0
      refine ⟨by simp,.inl ⟨?_,rfl,rfl⟩⟩
      rw [h5]; rfl
    · refine ⟨by rw [List.length_take,List.length_map,Xhd]; omega,.inr ⟨g,o,N,f,?_,hB,by omega,Nat.le_refl _,fun j v hj=>?_⟩⟩
      · rw [h5]
        by_cases hn0:n=0
        · rw [hn0]; rfl
        · exact XwS hn0
      · rw [List.getElem?_take] at hj
        split at hj
        · exact hf j v hj
        · cases hj
end Go.Sh
end

section
namespace Go.Sh
open Go Go.Fw Go.Proofs
set_option maxRecDepth 100000
set_option linter.unusedVariables false
theorem OB.stoAt {w:World} {p:Option Addr} {l c:Nat} {xs:List UInt8} {lo:Nat} (h:OB w p l c xs lo) {k:IntKind} {i:Nat} {x:UInt8} (hi:i<l) {a:Addr} (ha:IxA Tryz.prog Xg (.slice p l c) (.int k (i:Int)) a) {K:World→Prop} (hk:∀ w',Fr (Xb p) w w'→OB w' p l c (xs.set i x) lo→w'.heap.size=w.heap.size→K w') :
    ∃ w',Sto Tryz.prog Jf (.pointer (some a)) (.int .u8 (x.toNat:Int)) w w'∧K w':=by
  obtain ⟨a',ha',hs⟩:=h.sto (k:=k) (x:=x) hi hk
  have:a'=a:=by have:=ha'.symm.trans ha; simpa using this
  subst this
  exact hs
theorem XwT {w:World} {v:Value} {r:List UInt8} (hv:ByS w v r) {K:Option Addr→Nat→Nat→World→Prop} (hr:(Instr.buildSlice XA 1 #[(0,v)]).run Tryz.prog w=.ok (.slice (some ⟨w.heap.size,0,none⟩) 1 1) (w.alloc (.cells ([v]:List Value).toArray Xg)))
    (h:∀ p w',Fr [] w w'→RowB w' p [r]→w'.heap.size=w.heap.size+1→K p 1 1 w'):∃ p l c w',Ef Tryz.prog (Instr.buildSlice XA 1 #[(0,v)]) w (.slice p l c) w'∧K p l c w':=
  ⟨_,_,_,Ef.new hr fun w' f hB s=>h _ w' f (RowB.of1 hB.rowL (hv.fr0 f)) s⟩
end Go.Sh
end

section
namespace Go.Sh
open Go Go.Fw Go.Proofs
set_option maxRecDepth 100000
set_option linter.unusedVariables false
theorem Xa2 {p:Option Addr} {c a s:Nat}:∀ z∈Xb (Go.Fw.partAt p c a s),z∈Xb p:=by
  intro z hz
  unfold Go.Fw.partAt at hz
  split at hz
  · exact hz
  · cases p with
    | none=>exact hz
    | some b=>
      have e:(b.add (a*s)).block=b.block:=by unfold Addr.add; split <;> rfl
      simp only [Option.map,Xb,List.mem_singleton,e] at hz ⊢
      exact hz
theorem XeU {w:World} {p:Option Addr} {l c:Nat} {xs:List UInt8} (hR:Row w p (xs.map vb)) (hl:l=xs.length) {n:Nat} (hn:n≤l) (hc:l≤c) {K:Option Addr→Nat→Nat→Prop}
    (h:∀ q d,Row w q ((xs.take n).map vb)→n=(xs.take n).length→n≤d→(∀ z∈Xb q,z∈Xb p)→K q n d) :
    ∃ q m d,Pu Tryz.prog (Instr.sliceAt Xg (.slice p l c) none (some (.int .i64 (n:Int))) none) (.slice q m d)∧K q m d:=by
  refine ⟨_,_,_,VK (s:=1) (kl:=.i64) (kh:=.i64) (lo:=none) (hi:=some (n:Int)) (by kernel_rfl) (by show (0:Int)≤0; omega) (by show (0:Int)≤(n:Int); omega) (by show (n:Int)≤(c:Int); omega),?_⟩
  have e3:(Option.getD (some (n:Int)) (l:Int)).toNat - (Option.getD (none:Option Int) 0).toNat=n:=by show ((n:Int)).toNat - 0=n; omega
  rw [e3]
  refine h _ _ (Row.front hR c n) (by rw [List.length_take]; omega) ?_ Xa2
  show n≤c - 0
  omega
theorem Ww {w:World} {p:Option Addr} {l c:Nat} {xs:List UInt8} (hR:Row w p (xs.map vb)) (hl:l=xs.length) {n:Nat} (hn:n≤l) (hc:l≤c) {K:Option Addr→Nat→Nat→Prop}
    (h:∀ q d,Row w q ((xs.drop n).map vb)→l - n=(xs.drop n).length→l - n≤d→(∀ z∈Xb q,z∈Xb p)→K q (l - n) d) :
    ∃ q m d,Pu Tryz.prog (Instr.sliceAt Xg (.slice p l c) (some (.int .i64 (n:Int))) none none) (.slice q m d)∧K q m d:=by
  refine ⟨_,_,_,VK (s:=1) (kl:=.i64) (kh:=.i64) (lo:=some (n:Int)) (hi:=none) (by kernel_rfl) (by show (0:Int)≤(n:Int); omega) (by show (n:Int)≤(l:Int); omega) (by show (l:Int)≤(c:Int); omega),?_⟩
  have e3:(Option.getD (none:Option Int) (l:Int)).toNat - (Option.getD (some (n:Int)) 0).toNat=l - n:=by show ((l:Int)).toNat - ((n:Int)).toNat=l - n; omega
  rw [e3]
  have e5:(Option.getD (some (n:Int)) 0).toNat=n:=by show ((n:Int)).toNat=n; omega
  rw [e5]
  exact h _ _ (Row.partB hR (by omega)) (by rw [List.length_drop]; omega) (by omega) Xa2
theorem Xrn {w:World} {p:Option Addr} {l c:Nat} {xs:List UInt8} (hR:Row w p (xs.map vb)) (hl:l=xs.length) {a b:Nat} (hab:a≤b) (hn:b≤l) (hc:l≤c) {K:Option Addr→Nat→Nat→Prop}
    (h:∀ q d,Row w q (((xs.take b).drop a).map vb)→b - a=((xs.take b).drop a).length→b - a≤d→(∀ z∈Xb q,z∈Xb p)→K q (b - a) d) :
    ∃ q m d,Pu Tryz.prog (Instr.sliceAt Xg (.slice p l c) (some (.int .i64 (a:Int))) (some (.int .i64 (b:Int))) none) (.slice q m d)∧K q m d:=by
  refine ⟨_,_,_,VK (s:=1) (kl:=.i64) (kh:=.i64) (lo:=some (a:Int)) (hi:=some (b:Int)) (by kernel_rfl) (by show (0:Int)≤(a:Int); omega) (by show (a:Int)≤(b:Int); omega) (by show (b:Int)≤(c:Int); omega),?_⟩
  have e3:(Option.getD (some (b:Int)) (l:Int)).toNat - (Option.getD (some (a:Int)) 0).toNat=b - a:=by show ((b:Int)).toNat - ((a:Int)).toNat=b - a; omega
  rw [e3]
  have e5:(Option.getD (some (a:Int)) 0).toNat=a:=by show ((a:Int)).toNat=a; omega
  rw [e5]
  refine h _ _ ?_ (by rw [List.length_drop,List.length_take]; omega) (by omega) Xa2
  exact Row.partB (Row.takeB hR b) (by rw [List.length_take]; omega)
end Go.Sh
end

section
namespace Go.Sh
open Go Go.Fw Go.Proofs
set_option maxRecDepth 100000
set_option linter.unusedVariables false
theorem Xqd {w:World} {p:Option Addr} {rs:List (List UInt8)} (h:RowB w p rs) {l c i:Nat} (hl:l=rs.length) (hi:i<l) {r:List UInt8} (hr:rs.getD i []=r) {k:IntKind} :
    ∃ a q d,IxA Tryz.prog XA (.slice p l c) (.int k (i:Int)) a∧Ld Tryz.prog Xg (.pointer (some a)) w (.slice q r.length d)∧Row w q (r.map vb):=by
  obtain ⟨a,q,d,h1,h2,h3,_⟩:=XcF (t:=XA) (by kernel_rfl) h (c:=c) hl hi (k:=k)
  rw [hr] at h2 h3
  exact ⟨a,q,d,h1,Ld.cell (by kernel_rfl) h2,h3⟩
theorem Xle {w:World} {p q t:Option Addr} {l c m d n e:Nat} {xs ys:List UInt8} (hx:Row w p (xs.map vb)) (hl:l=xs.length) (h16:xs.length=16) (hcap:l≤c) (hy:Row w q (ys.map vb)) (hm:m=ys.length) (h16':ys.length=16) (ht:Row w t (tblL.map vb)) (hn:n=256) {K:VWP}
    (h:∀ p' c' w',Fr [] w w'→OB w' p' 16 c' (UQ xs ys) w.heap.size→K (.slice p' 16 c') w'):Xa Tryz.prog XnF #[.slice p l c,.slice q m d,.slice t n e] w K:=by
  apply Xih
  unfold Xig
  obtain ⟨A,hA⟩:∃ A,A=X4 (fl xs):=⟨_,rfl⟩
  have hfin:UQ xs ys=bl 16 (VW A (fl ys) 10):=by rw [hA]; rfl
  rw [hfin] at h
  refine XsH hx hl h16 hcap ht hn fun pk ck w1 f1 hK=>⟨_,_,_,rfl,?_⟩
  rw [← hA] at hK
  have hKB:=hK.rowB
  obtain ⟨a,qa,da,ha,lda,hra⟩:=Xqd hKB (c:=ck) (l:=11) (i:=0) (by rw [Xld]) (by omega) (Xow A (by omega)) (k:=.i64)
  refine ⟨a,ha,_,_,_,lda,?_⟩
  subst hm
  refine XeS (hy.fr0 f1) rfl hra rfl (by rw [XN]; omega) (by omega) fun p8 c8 w2 f2 hO2=>⟨_,_,_,rfl,?_⟩
  rw [h16'] at hO2
  have e0:bl 16 (Uf (fl ys) (fl (bl 16 (kAt A 0))))=bl 16 (VW A (fl ys) 0):=Z0 (Xpy (fun _ _=>rfl) (V4 16 _))
  rw [e0] at hO2
  rw [h16']
  have n1:=f1.size
  refine LoopS.ind (fun k us w'=>∃ (r:Nat) (p8:Option Addr) (c8:Nat),r+k=10∧us=[.slice t n e,.slice none 0 0,.slice pk 11 ck,.slice p8 16 c8,.int .i64 ((r+1:Nat):Int)]∧Fr [] w1 w'∧OB w' p8 16 c8 (bl 16 (VW A (fl ys) r)) w1.heap.size) 10
    ⟨0,p8,c8,by omega,rfl,f2,hO2⟩ ?_
  rintro k us rr w3 I μ hgo ⟨r,p8,c8,hr,rfl,f3,hO3⟩
  have n3:=f3.size
  refine ⟨_,_,_,_,_,_,_,_,_,_,_,_,_,rfl,Xc (fun h2=>?_) (fun h2=>?_)⟩
  · obtain ⟨y,hy⟩:∃ y,y=VW A (fl ys) r:=⟨_,rfl⟩
    rw [← hy] at hO3
    refine Xi4 hO3.row (by rw [XN]) ((ht.fr0 f1).fr0 f3) (by rw [hn]; exact (XN _ _).symm) hn (by omega) fun p4 c4 w4 f4 hO4=>⟨_,_,_,rfl,?_⟩
    have e4:(bl 16 y).map (fun a=>fl tblL a.toNat)=bl 16 (fun j=>XE (y j)):=by
      rw [Xv6]
      exact Z0 fun j _=>Xp8 _
    rw [e4] at hO4
    refine Xri (m:=1) hO4.row (by rw [XN]) (XN _ _) (by omega) fun p5 w5 f5 hO5=>⟨_,_,_,rfl,?_⟩
    rw [Xu2] at hO5
    have f35:=f4.then f5
    have fin : ∀ w6 p6 c6 z, Fr [] w3 w6 → OB w6 p6 16 c6 (bl 16 z) w3.heap.size → Uf z (kAt A (r + 1)) = VW A (fl ys) (r + 1) →
        UO I μ [.slice t n e,.slice none 0 0,.slice pk 11 ck,.slice p8 16 c8,.int .i64 ((r+1:Nat):Int)] w3 t n e none 0 0 pk 11 ck p6 16 c6 ((r+1:Nat):Int) w6 K:=by
      intro w6 p6 c6 z f36 hO6 hz
      unfold UO
      obtain ⟨b,qb,db,hb,ldb,hrb⟩:=Xqd ((hKB.fr0 f3).fr0 f36) (c:=ck) (l:=11) (i:=r+1) (by rw [Xld]) (by omega) (Xow A (by omega)) (k:=.i64)
      refine ⟨b,hb,_,_,_,ldb,?_⟩
      refine XeS hO6.row (by rw [XN]) hrb rfl (by rw [XN]; exact Nat.le_refl _) (by omega) fun p7 c7 w7 f7 hO7=>⟨_,_,_,rfl,?_⟩
      rw [XsB,hz] at hO7
      rw [Xe (by omega) (by omega)]
      have n36:=f36.size
      exact hgo _ _ _ (k - 1) (by omega) ⟨r+1,p7,c7,by omega,rfl,(f3.then f36).then f7,hO7.mono (by omega)⟩
    refine Xc (fun h3=>?_) (fun h3=>?_)
    · have hr9:r+1<10:=by omega
      refine Xl5 (f:=fE) hO5.row (by rw [XN]) (XN _ _) fun p6 w6 f6 hO6=>⟨_,_,_,rfl,?_⟩
      rw [Xu3] at hO6
      refine fin w6 p6 16 _ (f35.then f6) (hO6.mono f35.size) ?_
      rw [Xk8,← hy]
      unfold XtU
      rw [if_pos hr9]
    · have hr9:¬ r+1<10:=by omega
      refine fin w5 p5 16 _ f35 (hO5.mono f4.size) ?_
      rw [Xk8,← hy]
      unfold XtU
      rw [if_neg hr9]
  · have hr10:r=10:=by omega
    subst hr10
    exact h p8 c8 w3 (f1.then f3) (hO3.mono n1)
theorem XeV {w:World} {p q:Option Addr} {l c m d:Nat} {xs ys:List UInt8} (hx:Row w p (xs.map vb)) (hl:l=xs.length) (h16:xs.length=16) (hcap:l≤c) (hy:Row w q (ys.map vb)) (hm:m=ys.length) (h16':ys.length=16) {K:VWP}
    (h:∀ p' c' w',Fr [] w w'→OB w' p' 16 c' (UQ xs ys) w.heap.size→K (.slice p' 16 c') w'):Xa Tryz.prog XhX #[.slice p l c,.slice q m d] w K:=by
  apply Xej
  unfold XcV
  refine Xqb fun pt w1 f1 hT=>⟨_,_,_,rfl,?_⟩
  refine Xle (hx.fr0 f1) hl h16 hcap (hy.fr0 f1) hm h16' hT.row rfl fun p' c' w2 f2 hO=>⟨_,_,_,rfl,?_⟩
  exact h p' c' w2 (f1.then f2) (hO.mono f1.size)
end Go.Sh
end

section
namespace Go.Sh
open Go Go.Fw Go.Proofs
set_option maxRecDepth 100000
set_option linter.unusedVariables false
theorem Xwd {w:World} {p q t:Option Addr} {l c m d n e:Nat} {key from_ text:List UInt8} (hx:Row w p (key.map vb)) (hl:l=key.length) (hc:l≤c) (h16:key.length=16) (hy:Row w q (from_.map vb)) (hm:m=from_.length) (hd:m≤d) (h16':from_.length=16)
    (ht:Row w t (text.map vb)) (hn:n=text.length) (hn2:n≤65535) {K:VWP} (h:∀ p' c' w',Fr [] w w'→OB w' p' n c' (V5 key from_ text) w.heap.size→K (.tuple #[.slice p' n c',.int .i64 0]) w') :
    Xa Tryz.prog XnE #[.slice p l c,.slice q m d,.slice t n e] w K:=by
  apply Xir
  unfold Xiq
  refine Xt1 hx hl hc h16 hy hm hd h16' n hn2 fun p1 c1 w1 f1 hO1=>⟨_,_,_,_,rfl,Xz ?_⟩
  refine XuA hO1.row (U0 _ _ _).symm (ht.fr0 f1) hn (by rw [U0,hn]) (by omega) fun p2 c2 w2 f2 hO2=>⟨_,_,_,_,rfl,?_⟩
  subst hn
  exact h p2 c2 w2 (f1.then f2) (hO2.mono f1.size)
theorem XsJ {xs:List UInt8} (n:Nat) (h16:xs.length=16) {j:Nat} (hj:j<16):fl (XH xs n) j=if j<12 then fl xs j else UInt8.ofNat ((Xp (xs.drop 12)+n) % 4294967296 / 256 ^ (15 - j)):=by
  unfold XH fl
  rw [List.getD_eq_getElem?_getD]
  by_cases h12:j<12
  · rw [if_pos h12,List.getElem?_append_left (by simp [h16]; omega),List.getElem?_take,if_pos h12,List.getD_eq_getElem?_getD]
  · rw [if_neg h12,List.getElem?_append_right (by simp [h16]; omega)]
    have e:(xs.take 12).length=12:=by simp [h16]
    rw [e]
    unfold X6
    rw [List.getElem?_map,List.getElem?_range (by omega)]
    show UInt8.ofNat _=_
    rw [show 4 - 1 - (j - 12)=15 - j by omega]
theorem Xi8 {w:World} {p:Option Addr} {l c:Nat} {xs:List UInt8} (hx:Row w p (xs.map vb)) (hl:l=xs.length) (h16:xs.length=16) (n:Nat) (hn:n<18446744073709551616) {K:VWP}
    (h:∀ q d w',Fr [] w w'→OB w' q 16 d (XH xs n) w.heap.size→K (.slice q 16 d) w'):Xa Tryz.prog Xlx #[.slice p l c,.int .u64 (n:Int)] w K:=by
  apply Xg1
  unfold Xga
  have hdl:(xs.drop 12).length=4:=by simp [h16]
  refine LoopS.ind (fun k us w'=>w'=w∧∃ i:Nat,12≤i∧i+k=16∧us=[.slice p l c,.int .u64 (n:Int),.slice none 0 0,.int .u64 (Xp ((xs.drop 12).take (i - 12)):Int),.int .i64 (i:Int)]) 4 ⟨rfl,12,by omega,by omega,rfl⟩ ?_
  rintro k us r w1 I μ hgo ⟨rfl,i,hi12,hi,rfl⟩
  refine ⟨_,_,_,_,_,_,_,_,_,rfl,Xc (fun h1=>?_) (fun h1=>?_)⟩
  · have hi16:i<16:=by omega
    obtain ⟨a,ha,hca⟩:=XD (t:=Xg) (by kernel_rfl) hx (c:=c) hl (i:=i) (by omega) (k:=.i64)
    refine ⟨a,ha,_,Ld.cell (by kernel_rfl) hca,?_⟩
    have hb:=(xs.getD i 0).toNat_lt
    have h2:=Ji ((xs.drop 12).take (i - 12))
    have h3:((xs.drop 12).take (i - 12)).length≤3:=by rw [List.length_take]; omega
    have h4:256 ^ ((xs.drop 12).take (i - 12)).length≤256 ^ 3:=Nat.pow_le_pow_right (by omega) h3
    have h5:Xp ((xs.drop 12).take (i - 12))<16777216:=Nat.lt_of_lt_of_le h2 h4
    have e:IntKind.u64.wrap (IntKind.u64.wrap ((Xp ((xs.drop 12).take (i - 12)):Int)*256)+IntKind.u64.wrap ((xs.getD i 0).toNat:Int))=(Xp ((xs.drop 12).take (i+1 - 12)):Int):=by
      rw [XC (n:=(Xp ((xs.drop 12).take (i - 12)):Int)*256) (by omega) (by omega),XC (n:=((xs.getD i 0).toNat:Int)) (by omega) (by omega),XC (by omega) (by omega)]
      have:=XeT (xs.drop 12) (i:=i - 12) (by omega)
      rw [show i - 12+1=i+1 - 12 by omega,Xqc,show 12+(i - 12)=i by omega] at this
      rw [this]
      show _=((Xp ((xs.drop 12).take (i - 12))*256+(xs.getD i 0).toNat:Nat):Int)
      omega
    rw [e,Xe (by omega) (by omega)]
    exact hgo _ _ _ (k - 1) (by omega) ⟨rfl,i+1,by omega,by omega,rfl⟩
  · have hi16:i=16:=by omega
    subst hi16
    rw [List.take_of_length_le (by omega)]
    unfold XbA
    have hnum:=Ji (xs.drop 12)
    rw [hdl] at hnum
    have e:Int.tmod (IntKind.u64.wrap ((Xp (xs.drop 12):Int)+Int.tmod (n:Int) 4294967296)) 4294967296=(((Xp (xs.drop 12)+n) % 4294967296:Nat):Int):=by
      have e1:Int.tmod (n:Int) 4294967296=((n % 4294967296:Nat):Int):=rfl
      rw [e1,XC (by omega) (by omega),← Int.natCast_add]
      have e2:Int.tmod ((Xp (xs.drop 12)+n % 4294967296:Nat):Int) 4294967296=(((Xp (xs.drop 12)+n % 4294967296) % 4294967296:Nat):Int):=rfl
      rw [e2]; congr 1; omega
    rw [e]
    obtain ⟨V,hV⟩:∃ V,V=(Xp (xs.drop 12)+n) % 4294967296:=⟨_,rfl⟩
    have hVl:V<4294967296:=by rw [hV]; exact Nat.mod_lt _ (by decide)
    rw [← hV]
    refine mk0 fun p0 w2 f2 hO2 s2=>?_
    refine JW hO2 f2.size (hx.fr0 f2) hl (by omega) fun p3 c3 w3 f3 hO3=>?_
    have e16:0+l=16:=by omega
    rw [e16] at hO3 ⊢
    have f03:=hO2.news f2 f3 (Nat.le_refl _)
    refine LoopS.ind (fun k us w'=>∃ (t:Nat) (zs:List UInt8),t+k=4∧us=[.slice none 0 0,.int .u64 ((V / 256 ^ t:Nat):Int),.slice p3 16 c3,.int .i64 ((15 - t:Nat):Int)]∧Fr [] w1 w'∧OB w' p3 16 c3 zs w1.heap.size∧∀ j,j<16→(j<12→fl zs j=fl xs j)∧(15 - t<j→fl zs j=UInt8.ofNat (V / 256 ^ (15 - j)))) 4
      ⟨0,xs,by omega,by rw [Nat.pow_zero,Nat.div_one]; rfl,f03,hO3,fun j hj=>⟨fun _=>rfl,fun h=>by omega⟩⟩ ?_
    rintro k us r w4 I2 μ2 hgo2 ⟨t,zs,ht,rfl,f4,hO4,hz⟩
    refine ⟨_,_,_,_,_,_,_,_,rfl,Xc (fun h2=>?_) (fun h2=>?_)⟩
    · have ht4:t<4:=by omega
      have e5:IntKind.u8.wrap (Int.tmod ((V / 256 ^ t:Nat):Int) 256)=((UInt8.ofNat (V / 256 ^ t)).toNat:Int):=by
        have e6:Int.tmod ((V / 256 ^ t:Nat):Int) 256=((V / 256 ^ t % 256:Nat):Int):=rfl
        rw [e6,IntKind.wrap_u8]; simp
      rw [e5]
      have hzl:=hO4.2.1
      refine hO4.sto (by omega) fun w5 f5 hO5 s5=>?_
      have e8:IntKind.u64.wrap (Int.tdiv ((V / 256 ^ t:Nat):Int) 256)=((V / 256 ^ (t+1):Nat):Int):=by
        have e9:Int.tdiv ((V / 256 ^ t:Nat):Int) 256=((V / 256 ^ t / 256:Nat):Int):=rfl
        have hle:V / 256 ^ t / 256≤V:=Nat.le_trans (Nat.div_le_self _ _) (Nat.div_le_self _ _)
        have e10:V / 256 ^ t / 256=V / 256 ^ (t+1):=by rw [Nat.div_div_eq_div_mul,Nat.pow_succ]
        rw [e9,e10]
        rw [e10] at hle
        obtain ⟨Q,hQ⟩:∃ Q,Q=V / 256 ^ (t+1):=⟨_,rfl⟩
        rw [← hQ] at hle ⊢
        exact XC (by omega) (by omega)
      rw [e8,Xe (by omega) (by omega)]
      refine hgo2 _ _ _ (k - 1) (by omega) ⟨t+1,_,by omega,?_,hO4.news f4 f5 (Nat.le_refl _),hO5,fun j hj=>?_⟩
      · have:((15 - t:Nat):Int) - 1=((15 - (t+1):Nat):Int):=by omega
        rw [this]
      · rw [ZJ (by omega)]
        by_cases hjt:j=15 - t
        · rw [if_pos hjt]
          refine ⟨fun h=>by omega,fun _=>?_⟩
          rw [hjt,show 15 - (15 - t)=t by omega]
        · rw [if_neg hjt]
          exact ⟨(hz j hj).1,fun h=>(hz j hj).2 (by omega)⟩
    · have ht4:t=4:=by omega
      subst ht4
      have ez:zs=XH xs n:=X3 (by rw [Un n h16]; exact hO4.2.1.symm) fun j hj=>by
        have hj16:j<16:=by have:=hO4.2.1; omega
        show fl zs j=fl (XH xs n) j
        rw [XsJ n h16 hj16,← hV]
        by_cases h12:j<12
        · rw [if_pos h12]; exact (hz j hj16).1 h12
        · rw [if_neg h12]; exact (hz j hj16).2 (by omega)
      rw [ez] at hO4
      exact h p3 c3 w4 f4 hO4
theorem OB.part {w:World} {p:Option Addr} {l c:Nat} {xs:List UInt8} {lo:Nat} (h:OB w p l c xs lo) {a b:Nat} (h1:a≤b) (h2:b≤l):OB w (Go.Fw.partAt p c a 1) (b - a) (c - a) ((xs.take b).drop a) lo:=by
  have:=h.1.part h1 h2
  rw [← List.map_take,← List.map_drop] at this
  have hl:=h.2.1
  exact ⟨this,by simp; omega,fun k hk=>h.2.2 k (XfT k hk)⟩
end Go.Sh
end

section
namespace Go.Sh
open Go Go.Fw Go.Proofs
set_option maxRecDepth 100000
set_option linter.unusedVariables false
theorem Zz {w w':World} {p:Option Addr} {xs:List UInt8} {L:List Nat} (h:Row w p (xs.map vb)) (hf:Fr L w w') (hn:0<xs.length→∀ z∈Xb p,z∉L):Row w' p (xs.map vb):=by
  by_cases hx:xs.length=0
  · have:xs=[]:=List.length_eq_zero_iff.1 hx
    subst this; exact Row.nil _ _
  · exact Row.cells_fr h hf (hn (by omega))
def RdAt (w:World) (b:Nat) (err:Int) (rest:List UInt8):Prop:=
  ∃ f p c,Blk w b 2 f∧f 0=.int .i64 err∧f 1=.slice p rest.length c∧rest.length≤c∧Row w p (rest.map vb)∧(0<rest.length→∀ z∈Xb p,z<b)
theorem RdAt.lt {w:World} {b:Nat} {err:Int} {rest:List UInt8} (h:RdAt w b err rest):b<w.heap.size:=by obtain ⟨f,p,c,hB,_⟩:=h; exact hB.lt
theorem RdAt.fr {w w':World} {b:Nat} {err:Int} {rest:List UInt8} {L:List Nat} (h:RdAt w b err rest) (hf:Fr L w w') (hL:∀ z∈L,b<z):RdAt w' b err rest:=by
  obtain ⟨f,p,c,hB,h0,h1,hc,hR,hn⟩:=h
  exact ⟨f,p,c,hB.fr hf (fun hb=>by have:=hL b hb; omega),h0,h1,hc,Zz hR hf (fun h0 z hz hz'=>by have:=hL z hz'; have:=hn h0 z hz; omega),hn⟩
theorem RdAt.fr0 {w w':World} {b:Nat} {err:Int} {rest:List UInt8} (h:RdAt w b err rest) (hf:Fr [] w w'):RdAt w' b err rest:=h.fr hf (by simp)
section
variable {w:World} {b:Nat} {err:Int} {rest:List UInt8}
theorem Xi9 {f:Nat→Value} {n:Nat} (hB:Blk w b n f) (hn:0<n) (h0:f 0=.int .i64 err) (e:Int) {K:VWP}
    (hk:∀ w' f',Fr [b] w w'→Blk w' b n f'→f' 0=.int .i64 (if err=0 then e else err)→(∀ j,0<j→f' j=f j)→w'.heap.size=w.heap.size→K (.bool (decide ((if err=0 then e else err)≠0))) w') :
    Xa Tryz.prog Xfn #[.pointer (some ⟨b,0,none⟩),.int .i64 e] w K:=by
  apply Xcq
  unfold Xat
  have a0:(⟨b,0,none⟩:Addr).add 0=⟨b,0,none⟩:=rfl
  refine ⟨_,rfl,_,Ld.blk (by kernel_rfl) hB hn h0,?_⟩
  have fin:∀ (w':World) (f':Nat→Value) (r:Int),Fr [b] w w'→Blk w' b n f'→f' 0=.int .i64 r→r=(if err=0 then e else err)→(∀ j,0<j→f' j=f j)→w'.heap.size=w.heap.size→ZC (some ⟨b,0,none⟩) false w' K:=by
    intro w' f' r hf hB' hr he hj hs
    unfold ZC
    refine ⟨_,rfl,_,Ld.blk (by kernel_rfl) hB' hn hr,?_⟩
    have e1:(r != 0)=decide ((if err=0 then e else err)≠0):=by rw [← he,Bool.eq_iff_iff]; simp
    rw [e1]
    exact hk w' f' hf hB' (by rw [hr,he]) hj hs
  refine Yn (fun h=>?_) (fun h=>?_)
  · refine ⟨_,rfl,?_⟩
    refine Sto.blk (by kernel_rfl) hB hn rfl rfl fun w' hf hB' hs=>?_
    refine fin w' _ e hf hB' ?_ (by rw [if_pos h]) (fun j hj=>?_) hs
    · unfold upd; rw [if_pos rfl]
    · unfold upd; rw [if_neg (by omega)]
  · exact fin w f err (Fr.refl _ _) hB h0 (by rw [if_neg h]) (fun _ _=>rfl) rfl
theorem Xvb {f:Nat→Value} {p:Option Addr} {l c:Nat} (hB:Blk w b 2 f) (h1:f 1=.slice p l c) (n most:Int) {K:VWP}
    (hk:K (.int .i64 (if n<0∨n > most then 11 else if n > l then 12 else 0)) w):Xa Tryz.prog Xde #[.pointer (some ⟨b,0,none⟩),.int .i64 n,.int .i64 most] w K:=by
  apply XaV
  unfold WT
  have a1:(⟨b,0,none⟩:Addr).add 1=⟨b,1,none⟩:=Xi _ _ _
  have tail:∀ bb:Bool,(bb=true↔(n<0∨n > most))→Zb (some ⟨b,0,none⟩) n 0 bb w K:=by
    intro bb hbb
    unfold Zb
    refine XR (fun hb=>?_) (fun hb=>?_)
    · rw [if_pos (hbb.1 hb)] at hk; exact hk
    · have hno:¬ (n<0∨n > most):=fun h=>by rw [hbb.2 h] at hb; cases hb
      rw [if_neg hno] at hk
      refine ⟨_,rfl,?_⟩
      rw [a1]
      refine ⟨_,_,_,Ld.blk (by kernel_rfl) hB (by omega) h1,Xc (fun h=>?_) (fun h=>?_)⟩
      · rw [if_pos h] at hk; exact hk
      · rw [if_neg h] at hk; exact hk
  refine Xc (fun h=>tail true (by simp [h])) (fun h=>tail _ (by simp [h]))
theorem XuD (hR:RdAt w b err rest) (n:Nat) (hn:n≤rest.length) (hlb:rest.length≤1000000) {K:VWP}
    (hk:∀ q d w',Fr [b] w w'→RdAt w' b err (rest.drop n)→OB w' q n d (rest.take n) w.heap.size→K (.slice q n d) w'):Xa Tryz.prog Xfo #[.pointer (some ⟨b,0,none⟩),.int .i64 (n:Int)] w K:=by
  obtain ⟨f,p,c,hB,h0,h1,hc,hRow,hnb⟩:=hR
  apply Xcs
  unfold Xau
  have a1:(⟨b,0,none⟩:Addr).add 1=⟨b,1,none⟩:=Xi _ _ _
  refine ⟨_,rfl,?_⟩
  rw [a1]
  refine ⟨_,_,_,Ld.blk (by kernel_rfl) hB (by omega) h1,?_⟩
  refine XeU hRow rfl hn hc fun q d hq hql hqd hqb=>?_
  refine Jh hq (by simpa using hql) (by omega) (UZ _) fun q2 d2 w1 f1 hO hnew=>⟨_,_,_,rfl,_,rfl,?_⟩
  rw [a1]
  have hB1:=hB.fr0 f1
  refine ⟨_,_,_,Ld.blk (by kernel_rfl) hB1 (by omega) h1,?_⟩
  refine Ww (hRow.fr0 f1) rfl hn hc fun q3 d3 hq3 hq3l hq3d hq3b=>⟨_,rfl,?_⟩
  rw [a1]
  have hlt:=hB.lt
  refine Sto.blk (by kernel_rfl) hB1 (by omega) rfl rfl fun w2 f2 hB2 s2=>?_
  have hsep:0<rest.length→∀ z∈Xb q3,z∉[b]:=fun h z hz hz'=>by
    simp at hz'; subst hz'; have:=hnb h _ (hq3b _ hz); omega
  refine hk q2 d2 w2 (f1.after f2) ⟨_,q3,d3,hB2,?_,?_,by omega,Zz hq3 f2 (fun h=>hsep (by rw [List.length_drop] at h; omega)),fun h z hz=>hnb (by rw [List.length_drop] at h; omega) z (hq3b z hz)⟩ ?_
  · unfold upd; rw [if_neg (by omega)]; exact h0
  · unfold upd; rw [if_pos rfl,hq3l]
  · have hOB:OB w1 q2 n d2 (rest.take n) w.heap.size:=⟨hO,hql,hnew⟩
    exact hOB.fr_sep f2 hlt
theorem Xqe (hR:RdAt w b err rest) (n:Nat) (h8:n≤8) (hlb:rest.length≤1000000) {K:VWP}
    (hbad:(err≠0∨rest.length<n)→∀ w',Fr [b] w w'→RdAt w' b (if err=0 then 12 else err) rest→K (.int .u64 0) w')
    (hok:err=0→n≤rest.length→∀ w',Fr [b] w w'→RdAt w' b 0 (rest.drop n)→K (.int .u64 (Xp (rest.take n):Int)) w') :
    Xa Tryz.prog WK #[.pointer (some ⟨b,0,none⟩),.int .i64 (n:Int)] w K:=by
  have hR0:=hR
  obtain ⟨f,p,c,hB,h0,h1,hc,hRow,hnb⟩:=hR
  apply Xcl
  unfold Xaq
  refine Drw.intro fun w1 f1 s1=>⟨_,rfl,?_⟩
  have hB1:=hB.fr0 f1
  refine Xvb hB1 h1 n 8 ⟨_,rfl,?_⟩
  have a0:(⟨b,0,none⟩:Addr).add 0=⟨b,0,none⟩:=rfl
  rw [a0,if_neg (by omega)]
  refine Xi9 hB1 (by omega) h0 _ fun w2 f' f2 hB2 h0' hj s2=>⟨_,rfl,?_⟩
  have hlt:=hB.lt
  have f02:=f1.after f2
  have hR2:∀ e,f' 0=.int .i64 e→RdAt w2 b e rest:=fun e he=>⟨f',p,c,hB2,he,by rw [hj 1 (by omega)]; exact h1,hc,Zz (hRow.fr0 f1) f2 (fun h z hz hz'=>by simp at hz'; subst hz'; have:=hnb h _ hz; omega),hnb⟩
  by_cases he:err=0
  · subst he
    rw [if_pos rfl] at h0' ⊢
    by_cases hl:(n:Int) > (rest.length:Int)
    · rw [if_pos hl] at h0' ⊢
      exact X2 (hbad (.inr (by omega)) w2 f02 (hR2 12 h0'))
    · rw [if_neg hl] at h0' ⊢
      refine Xz (XuD (hR2 0 h0') n (by omega) hlb fun q d w3 f3 hR3 hO3=>⟨_,_,_,rfl,?_⟩)
      refine Xmo hO3.row hO3.2.1 h8 ⟨_,_,rfl,?_⟩
      exact hok rfl (by omega) w3 (f02.trans f3 (fun z hz=>.inl hz)) hR3
  · rw [if_neg he] at h0' ⊢
    rw [decide_eq_true he]
    refine X2 (hbad (.inl he) w2 f02 ?_)
    rw [if_neg he]
    exact hR2 err h0'
end
end Go.Sh
end

section
namespace Go.Sh
open Go Go.Fw Go.Proofs
set_option maxRecDepth 100000
set_option linter.unusedVariables false
theorem XuE {n m:Int}:Pu Tryz.prog (Builtin.max_ #[Y9,Y9] Y9 #[.int .i64 n,.int .i64 m]) (.int .i64 (max n m)):=by
  have e:Pu Tryz.prog (Builtin.max_ #[Y9,Y9] Y9 #[.int .i64 n,.int .i64 m]) (.int .i64 (if m > n then m else n)):=by unfold Pu; kernel_rfl
  have:(if m > n then m else n)=max n m:=by split <;> omega
  rwa [this] at e
theorem Xro {w:World} {p:Option Addr} {l c:Nat} {xs:List UInt8} (hR:Row w p (xs.map vb)) (hl:l=xs.length) (hc:l≤c) {K:VWP}
    (h:∀ w',Fr [] w w'→RdAt w' w.heap.size 0 xs→w'.heap.size=w.heap.size+1→K (.pointer (some ⟨w.heap.size,0,none⟩)) w'):Xa Tryz.prog Xo4 #[.slice p l c] w K:=by
  apply Xj9
  unfold XkU
  refine New.intro fun w1 f1 hB s1=>h w1 f1 ⟨_,p,c,hB,rfl,?_,by omega,hR.fr0 f1,fun h0 z hz=>Row.blk_lt hR h0 _ hz⟩ s1
  rw [← hl]; rfl
section
variable {w:World} {b:Nat} {err:Int} {rest:List UInt8}
theorem Xvc (hR:RdAt w b err rest) {K:VWP}
    (hk:∀ w',Fr [b] w w'→RdAt w' b (if err=0 then (if rest.length=0 then 0 else 10) else err) rest→K (.int .i64 (if err=0 then (if rest.length=0 then 0 else 10) else err)) w') :
    Xa Tryz.prog Xfl #[.pointer (some ⟨b,0,none⟩)] w K:=by
  obtain ⟨f,p,c,hB,h0,h1,hc,hRow,hnb⟩:=hR
  apply Xcn
  unfold Xar
  have a1:(⟨b,0,none⟩:Addr).add 1=⟨b,1,none⟩:=Xi _ _ _
  have a0:(⟨b,0,none⟩:Addr).add 0=⟨b,0,none⟩:=rfl
  refine ⟨_,rfl,?_⟩
  rw [a1]
  refine ⟨_,_,_,Ld.blk (by kernel_rfl) hB (by omega) h1,Xc (fun h=>?_) (fun h=>?_)⟩
  · refine ⟨_,rfl,?_⟩
    rw [a0]
    refine Xi9 hB (by omega) h0 _ fun w2 f' f2 hB2 h0' hj s2=>⟨_,rfl,?_⟩
    unfold ZB
    refine ⟨_,rfl,?_⟩
    rw [a0,a0]
    refine ⟨_,Ld.blk (by kernel_rfl) hB2 (by omega) h0',?_⟩
    have e:(if err=0 then (if rest.length=0 then 0 else 10) else err)=(if err=0 then 10 else err):=by rw [if_neg (show ¬ rest.length=0 by omega)]
    rw [e] at hk
    exact hk w2 f2 ⟨f',p,c,hB2,h0',by rw [hj 1 (by omega)]; exact h1,hc,Zz hRow f2 (fun h z hz hz'=>by simp at hz'; subst hz'; have:=hnb h _ hz; omega),hnb⟩
  · unfold ZB
    refine ⟨_,rfl,?_⟩
    rw [a0,a0]
    have e:(if err=0 then (if rest.length=0 then 0 else 10) else err)=err:=by
      rw [if_pos (show rest.length=0 by omega)]
      by_cases h:err=0
      · rw [if_pos h,h]
      · rw [if_neg h]
    rw [e] at hk
    exact ⟨_,Ld.blk (by kernel_rfl) hB (by omega) h0,hk w (Fr.refl _ _) ⟨f,p,c,hB,h0,h1,hc,hRow,hnb⟩⟩
end
end Go.Sh
end

section
namespace Go.Sh
open Go Go.Fw Go.Proofs
set_option maxRecDepth 100000
set_option linter.unusedVariables false
def FrA (b:Nat) (w w':World):Prop:=∃ L,(∀ z∈L,b≤z)∧Fr L w w'
theorem FrA.refl (b:Nat) (w:World):FrA b w w:=⟨[],by simp,Fr.refl _ _⟩
theorem FrA.of {b:Nat} {w w':World} {L:List Nat} (f:Fr L w w') (h:∀ z∈L,b≤z):FrA b w w':=⟨L,h,f⟩
theorem FrA.of0 {b:Nat} {w w':World} (f:Fr [] w w'):FrA b w w':=⟨[],by simp,f⟩
theorem FrA.trans {b:Nat} {w w1 w2:World} (h:FrA b w w1) (k:FrA b w1 w2):FrA b w w2:=by
  obtain ⟨L,h1,h2⟩:=h
  obtain ⟨M,k1,k2⟩:=k
  exact ⟨L++M,fun z hz=>by rcases List.mem_append.1 hz with hz | hz; exact h1 z hz; exact k1 z hz,(h2.mono (fun z hz=>List.mem_append_left _ hz)).trans k2 (fun z hz=>.inl (List.mem_append_right _ hz))⟩
theorem FrA.size {b:Nat} {w w':World} (h:FrA b w w'):w.heap.size≤w'.heap.size:=by obtain ⟨L,_,h2⟩:=h; exact h2.size
theorem FrA.news {b:Nat} {w0 w w':World} (h:FrA b w w') (f:Fr [] w0 w) (hb:w0.heap.size≤b):Fr [] w0 w':=by
  obtain ⟨L,h1,h2⟩:=h
  exact f.trans h2 fun z hz=>.inr (by have:=h1 z hz; omega)
theorem FrA.mono {b b':Nat} {w w':World} (h:FrA b w w') (hb:b'≤b):FrA b' w w':=by
  obtain ⟨L,h1,h2⟩:=h
  exact ⟨L,fun z hz=>by have:=h1 z hz; omega,h2⟩
theorem FrA.row {b:Nat} {w w':World} {p:Option Addr} {xs:List UInt8} (h:FrA b w w') (hR:Row w p (xs.map vb)) (hp:0<xs.length→∀ z∈Xb p,z<b):Row w' p (xs.map vb):=by
  obtain ⟨L,h1,h2⟩:=h
  exact Zz hR h2 fun h0 z hz hm=>by have:=h1 z hm; have:=hp h0 z hz; omega
theorem FrA.blk {b k n:Nat} {w w':World} {f:Nat→Value} (h:FrA b w w') (hB:Blk w k n f) (hk:k<b):Blk w' k n f:=by
  obtain ⟨L,h1,h2⟩:=h
  exact hB.fr h2 fun hm=>by have:=h1 k hm; omega
theorem Xrp {w:World} {p:Option Addr} {xs:List UInt8} {b:Nat} (hR:Row w p (xs.map vb)) (hb:w.heap.size≤b):0<xs.length→∀ z∈Xb p,z<b:=fun h0 z hz=>by
  have:=Row.blk_lt hR h0 _ hz; omega
def WrAt (w:World) (b:Nat) (xs:List UInt8):Prop:=
  ∃ f p c,Blk w b 2 f∧f 0=.int .i64 0∧f 1=.slice p xs.length c∧OB w p xs.length c xs (b+1)
section
variable {w:World} {b:Nat} {xs:List UInt8} {K:VWP}
theorem WrAt.fr {w':World} {L:List Nat} (h:WrAt w b xs) (hf:Fr L w w') (hL:∀ z∈L,z<b):WrAt w' b xs:=by
  obtain ⟨f,p,c,hB,h0,h1,hO⟩:=h
  exact ⟨f,p,c,hB.fr hf (fun hb=>by have:=hL b hb; omega),h0,h1,hO.fr hf fun z hz hm=>by have:=hO.2.2 z hz; have:=hL z hm; omega⟩
theorem WrAt.fr0 {w':World} (h:WrAt w b xs) (hf:Fr [] w w'):WrAt w' b xs:=h.fr hf (by simp)
theorem XpC (h:∀ w',Fr [] w w'→WrAt w' w.heap.size []→w'.heap.size=w.heap.size+1→K (.pointer (some ⟨w.heap.size,0,none⟩)) w'):Xa Tryz.prog XnC #[] w K:=by
  apply Xix
  unfold Xiw
  exact New.intro fun w1 f1 hB s1=>h w1 f1 ⟨_,none,0,hB,rfl,rfl,OB.nil _ _⟩ s1
theorem Xqf (hW:WrAt w b xs) {q:Option Addr} {m d:Nat} {ys:List UInt8} (hR:Row w q (ys.map vb)) (hm:m=ys.length) (hq:0<ys.length→∀ z∈Xb q,z≠b) (hlen:xs.length+m≤1000000)
    (hk:∀ w',FrA b w w'→WrAt w' b (xs++ys)→K (.pointer (some ⟨b,0,none⟩)) w'):Xa Tryz.prog Xfm #[.pointer (some ⟨b,0,none⟩),.slice q m d,.int .i64 0] w K:=by
  obtain ⟨f,p,c,hB,h0,h1,hO⟩:=hW
  apply Xco
  unfold Xas
  have a0:(⟨b,0,none⟩:Addr).add 0=⟨b,0,none⟩:=rfl
  have a1:(⟨b,0,none⟩:Addr).add 1=⟨b,1,none⟩:=Xi _ _ _
  refine ⟨_,rfl,?_⟩
  rw [a0]
  refine Xi9 hB (by omega) h0 0 fun w1 f' f1 hB1 h0' hj s1=>⟨_,rfl,?_⟩
  refine X2 ⟨_,rfl,?_⟩
  rw [a1]
  have hb:=hB.lt
  have hO1:=hO.fr f1 fun z hz hm=>by have:=hO.2.2 z hz; simp at hm; omega
  refine ⟨_,_,_,Ld.blk (by kernel_rfl) hB1 (by omega) (by rw [hj 1 (by omega)]; exact h1),?_⟩
  refine JW (m:=m) hO1 (by omega) (Zz hR f1 fun h0 z hz hm=>hq h0 z hz (by simpa using hm)) hm (by omega) fun p' c' w2 f2 hO2=>⟨_,rfl,?_⟩
  rw [a1]
  have hB2:=hB1.fr f2 fun hm=>by have:=hO.2.2 b hm; omega
  refine Sto.blk (by kernel_rfl) hB2 (by omega) rfl rfl fun w3 f3 hB3 s3=>?_
  refine hk w3 (((FrA.of f1 (by simp)).trans (FrA.of f2 fun z hz=>by have:=hO.2.2 z hz; omega)).trans (FrA.of f3 (by simp))) ⟨_,p',c',hB3,?_,?_,?_⟩
  · rw [upd_ne _ _ _ (by omega)]; simpa using h0'
  · rw [upd_same,List.length_append,hm]
  · rw [List.length_append,← hm]
    exact hO2.fr f3 fun z hz hm=>by have:=hO2.2.2 z hz; simp at hm; omega
theorem Xqg (hW:WrAt w b xs) {n size:Nat} (h8:size≤8) (hn:n<256 ^ size) (hlen:xs.length≤900000)
    (hk:∀ w',FrA b w w'→WrAt w' b (xs++X6 n size)→K (.pointer (some ⟨b,0,none⟩)) w'):Xa Tryz.prog Xfk #[.pointer (some ⟨b,0,none⟩),.int .u64 (n:Int),.int .i64 (size:Int)] w K:=by
  apply Xcj
  unfold Xap
  have hb:b<w.heap.size:=by obtain ⟨f,p,c,hB,_⟩:=hW; exact hB.lt
  refine Xi5 h8 hn fun q d w1 f1 hO1=>⟨_,_,_,_,rfl,?_⟩
  refine Xqf (hW.fr0 f1) hO1.row hO1.2.1 (fun _ z hz=>by have:=hO1.2.2 z hz; omega) (by omega) fun w2 f2 hW2=>⟨_,rfl,hk w2 ((FrA.of0 f1).trans f2) hW2⟩
theorem XsK (hW:WrAt w b xs) {q:Option Addr} {m d:Nat} {rs:List (List UInt8)} (hR:RowB w q rs) (hm:m=rs.length) (hm2:m≤1000) (hl:xs.length≤400000) (hl2:rs.flatten.length≤400000)
    (hk:∀ w',FrA b w w'→WrAt w' b (xs++rs.flatten)→K (.pointer (some ⟨b,0,none⟩)) w'):Xa Tryz.prog Xdd #[.pointer (some ⟨b,0,none⟩),.slice q m d] w K:=by
  apply XaU
  unfold WS
  have hb:b<w.heap.size:=by obtain ⟨f,p,c,hB,_⟩:=hW; exact hB.lt
  refine Wv hR hm (by omega) (by omega) fun q1 d1 w1 f1 hO1=>⟨_,_,_,rfl,?_⟩
  refine Xqf (hW.fr0 f1) hO1.row rfl (fun _ z hz=>by have:=hO1.2.2 z hz; omega) (by omega) fun w2 f2 hW2=>⟨_,rfl,hk w2 ((FrA.of0 f1).trans f2) hW2⟩
theorem XwU (n:Nat):X6 n 1=[UInt8.ofNat n]:=by
  unfold X6
  show [UInt8.ofNat (n / 256 ^ (1 - 1 - 0))]=_
  simp
theorem Xlf (hW:WrAt w b xs) {q:Option Addr} {m d:Nat} {ys:List UInt8} (hR:Row w q (ys.map vb)) (hm:m=ys.length) (hd:m≤d) (h255:m≤255) (hq:0<ys.length→∀ z∈Xb q,z<b) (hl:xs.length≤300000)
    (hk:∀ w',FrA b w w'→WrAt w' b (xs++UInt8.ofNat ys.length::ys)→K (.pointer (some ⟨b,0,none⟩)) w'):Xa Tryz.prog Xdb #[.pointer (some ⟨b,0,none⟩),.slice q m d] w K:=by
  apply XaS
  unfold WQ
  refine Xc (fun hh=>by omega) fun _=>?_
  rw [XC (by omega) (by omega)]
  refine Xqg (n:=m) (size:=1) hW (by omega) (by omega) (by omega) fun w1 f1 hW1=>⟨_,rfl,?_⟩
  have hR1:=f1.row hR hq
  refine ⟨_,_,_,Ef.new (v:=.slice (some ⟨w1.heap.size,0,none⟩) 1 1) (cs:=([.slice q m d]:List Value).toArray) (e:=Xg) (by kernel_rfl) fun w2 f2 hB2 s2=>?_⟩
  have hRB:=RowB.of1 hB2.rowL (byS (hR1.fr0 f2) hm hd)
  have ef:[ys].flatten=ys:=by simp
  refine XsK (m:=1) (hW1.fr0 f2) hRB rfl (by omega) (by rw [List.length_append,Y7]; omega) (by rw [ef]; omega) fun w3 f3 hW3=>⟨_,rfl,?_⟩
  rw [ef,XwU,List.append_assoc,hm] at hW3
  exact hk w3 ((f1.trans (FrA.of0 f2)).trans f3) hW3
theorem Xt2 (hW:WrAt w b xs) (hl:xs.length≤1000000) (hk:∀ q d w',Fr [] w w'→OB w' q xs.length d xs w.heap.size→K (.tuple #[.slice q xs.length d,.int .i64 0]) w'):Xa Tryz.prog Xd4 #[.pointer (some ⟨b,0,none⟩)] w K:=by
  obtain ⟨f,p,c,hB,h0,h1,hO⟩:=hW
  apply XbB
  unfold QF
  have a0:(⟨b,0,none⟩:Addr).add 0=⟨b,0,none⟩:=rfl
  have a1:(⟨b,0,none⟩:Addr).add 1=⟨b,1,none⟩:=Xi _ _ _
  refine ⟨_,rfl,?_⟩
  rw [a0,a0]
  refine ⟨_,Ld.blk (by kernel_rfl) hB (by omega) h0,Xz ⟨_,rfl,?_⟩⟩
  rw [a1]
  refine ⟨_,_,_,Ld.blk (by kernel_rfl) hB (by omega) h1,?_⟩
  exact Jh hO.row (by simp) (by omega) (UZ _) fun q d w1 f1 hO1 hn1=>⟨_,_,_,rfl,hk q d w1 f1 ⟨hO1,rfl,hn1⟩⟩
end
def Yb (k:Nat) (s:Int×List UInt8):Nat×(Int×List UInt8):=if s.1=0∧k≤s.2.length then (Xp (s.2.take k),(0,s.2.drop k)) else (0,(if s.1=0 then 12 else s.1,s.2))
def XB (s:Int×List UInt8):List UInt8×(Int×List UInt8):=
  if s.1=0∧(fl s.2 0).toNat+1≤s.2.length then ((s.2.drop 1).take (fl s.2 0).toNat,(0,s.2.drop ((fl s.2 0).toNat+1))) else ([],(if s.1=0 then 12 else s.1,s.2))
def U1 (s:Int×List UInt8):Int:=if s.1=0 then (if s.2.length=0 then 0 else 10) else s.1
theorem Xja {rest:List UInt8} (h:1≤rest.length):Xp (rest.take 1)=(fl rest 0).toNat:=by
  cases rest with
  | nil=>simp at h
  | cons x r=>simp [Xp,fl]
section
variable {w:World} {b:Nat} {err:Int} {rest:List UInt8} {K:VWP}
theorem Xt3 (hR:RdAt w b err rest) (n:Nat) (h8:n≤8) (hlb:rest.length≤1000000)
    (hk:∀ w',Fr [b] w w'→RdAt w' b (Yb n (err,rest)).2.1 (Yb n (err,rest)).2.2→K (.int .u64 ((Yb n (err,rest)).1:Int)) w'):Xa Tryz.prog WK #[.pointer (some ⟨b,0,none⟩),.int .i64 (n:Int)] w K:=by
  refine Xqe hR n h8 hlb (fun hb w' f h=>?_) fun he hn w' f h=>?_
  · have e:Yb n (err,rest)=(0,(if err=0 then 12 else err,rest)):=by unfold Yb; rw [if_neg (by show ¬ (err=0∧n≤rest.length); omega)]
    rw [e] at hk
    exact hk w' f h
  · have e:Yb n (err,rest)=(Xp (rest.take n),(0,rest.drop n)):=by unfold Yb; rw [if_pos (by show err=0∧n≤rest.length; omega)]
    rw [e] at hk
    exact hk w' f h
theorem Xjb (hR:RdAt w b err rest) (hlb:rest.length≤1000000)
    (hk:∀ q d w',Fr [b] w w'→RdAt w' b (XB (err,rest)).2.1 (XB (err,rest)).2.2→OB w' q (XB (err,rest)).1.length d (XB (err,rest)).1 w.heap.size→K (.slice q (XB (err,rest)).1.length d) w'):Xa Tryz.prog Xdc #[.pointer (some ⟨b,0,none⟩)] w K:=by
  apply XaT
  unfold WR
  have hb:=hR.lt
  refine New.intro fun w1 f1 hB1 s1=>?_
  obtain ⟨k1,hk1⟩:∃ k,k=w.heap.size:=⟨_,rfl⟩
  rw [← hk1] at hB1 ⊢
  have hB1:Blk w1 k1 1 (fun i=>(#[.pointer (some ⟨b,0,none⟩)]:Array Value).getD i undef):=hB1
  refine ⟨_,Ld.blk (by kernel_rfl) hB1 (by omega) rfl,?_⟩
  apply QG
  unfold VF
  have hR1:=hR.fr0 f1
  have hR1':=hR1
  obtain ⟨f,p,c,hB,h0,h1,hc,hRow,hnb⟩:=hR1
  have a0:(⟨b,0,none⟩:Addr).add 0=⟨b,0,none⟩:=rfl
  have a1:(⟨b,0,none⟩:Addr).add 1=⟨b,1,none⟩:=Xi _ _ _
  refine ⟨_,rfl,?_⟩
  rw [a1]
  refine ⟨_,_,_,Ld.blk (by kernel_rfl) hB (by omega) h1,?_⟩
  refine Js ?_
  apply Qg
  unfold Vo
  refine ⟨_,Ld.blk (by kernel_rfl) hB1 (by omega) rfl,?_⟩
  have bad:∀ (w2:World) (e2:Int) (g:Nat→Value) (n6:Int),Fr [b] w1 w2→Blk w2 b 2 g→g 0=.int .i64 e2→e2≠0→XB (err,rest)=([],(e2,rest))→Yj (some ⟨b,0,none⟩) none 0 0 p rest.length c n6 w2 (fun r5 w2=>∃ p5 l5 c5,r5=.slice p5 l5 c5∧K (.slice p5 l5 c5) w2):=by
    intro w2 e2 g n6 f2 hB2 hg0 he hs
    unfold Yj
    refine ⟨_,rfl,?_⟩
    rw [a0,a0]
    refine ⟨_,Ld.blk (by kernel_rfl) hB2 (by omega) hg0,XF (fun _=>?_) fun hh=>absurd hh he⟩
    refine ⟨_,rfl,?_⟩
    rw [a1]
    refine Sto.blk (by kernel_rfl) hB2 (by omega) rfl rfl fun w3 f3 hB3 s3=>?_
    have f13:Fr [b] w1 w3:=f2.trans f3 fun z hz=>.inl hz
    rw [hs] at hk
    refine ⟨_,_,_,rfl,hk none 0 w3 (f1.after f13) ⟨_,p,c,hB3,by rw [upd_ne _ _ _ (by omega)]; exact hg0,upd_same _ _ _,hc,Zz hRow f13 (fun hh z hz hm=>by have:=hnb hh z hz; simp at hm; omega),hnb⟩ (OB.nil _ _)⟩
  refine Xqe hR1' 1 (by omega) hlb (fun hbd w2 f2 hR2=>⟨_,rfl,_,rfl,?_⟩) fun he h1l w2 f2 hR2=>⟨_,rfl,_,rfl,?_⟩
  ·
    obtain ⟨g,p2,c2,hB2,g0,g1,hc2,hRow2,hnb2⟩:=hR2
    have he2:(if err=0 then (12:Int) else err)≠0:=by split <;> omega
    have hs:XB (err,rest)=([],(if err=0 then 12 else err,rest)):=by
      unfold XB; rw [if_neg (by show ¬ (err=0∧(fl rest 0).toNat+1≤rest.length); omega)]
    refine ⟨_,rfl,?_⟩
    rw [a1]
    refine ⟨_,_,_,Ld.blk (by kernel_rfl) hB2 (by omega) g1,?_⟩
    rw [XC (by omega) (by omega)]
    refine Xc (fun hh=>by omega) fun _=>bad w2 _ g _ f2 hB2 g0 he2 hs
  · subst he
    obtain ⟨g,p2,c2,hB2,g0,g1,hc2,hRow2,hnb2⟩:=hR2
    have hR2:RdAt w2 b 0 (rest.drop 1):=⟨g,p2,c2,hB2,g0,g1,hc2,hRow2,hnb2⟩
    rw [Xja h1l]
    refine ⟨_,rfl,?_⟩
    rw [a1]
    refine ⟨_,_,_,Ld.blk (by kernel_rfl) hB2 (by omega) g1,?_⟩
    have hdl:(rest.drop 1).length=rest.length - 1:=List.length_drop
    rw [XC (by omega) (by omega)]
    refine Xc (fun hh=>?_) fun hh=>?_
    · have hs : XB (0, rest) = ([], (12, rest)) := by
        unfold XB; rw [if_neg (by show ¬ ((0:Int)=0∧(fl rest 0).toNat+1≤rest.length); omega)]; rfl
      refine ⟨_,rfl,?_⟩
      rw [a0]
      refine Xi9 hB2 (by omega) g0 12 fun w3 g' f3 hB3 g0' hj s3=>⟨_,rfl,?_⟩
      exact bad w3 12 g' _ (f2.trans f3 fun z hz=>.inl hz) hB3 (by simpa using g0') (by omega) hs
    · have hs : XB (0, rest) = ((rest.drop 1).take (fl rest 0).toNat, (0, rest.drop ((fl rest 0).toNat + 1))) := by
        unfold XB; rw [if_pos (by show (0:Int)=0∧(fl rest 0).toNat+1≤rest.length; omega)]
      unfold Yj
      refine ⟨_,rfl,?_⟩
      rw [a0,a0]
      refine ⟨_,Ld.blk (by kernel_rfl) hB2 (by omega) g0,Xz ?_⟩
      rw [Xe (by omega) (by omega)]
      refine XuD hR2 (fl rest 0).toNat (by omega) (by omega) fun q d w3 f3 hR3 hO3=>⟨_,_,_,rfl,?_⟩
      rw [hs] at hk
      have el:((rest.drop 1).take (fl rest 0).toNat).length=(fl rest 0).toNat:=by rw [List.length_take]; omega
      have:=hk q d w3 (f1.after (f2.trans f3 fun z hz=>.inl hz)) (by rw [List.drop_drop] at hR3; rw [Nat.add_comm]; exact hR3) (by rw [el]; exact hO3.mono (by have:=f1.size; have:=f2.size; omega))
      rw [el] at this
      exact ⟨_,_,_,rfl,this⟩
end
end Go.Sh
end
