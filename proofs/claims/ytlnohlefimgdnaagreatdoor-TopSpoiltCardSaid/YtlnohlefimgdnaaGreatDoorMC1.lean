/- A part of a proof of a given law of this program: lemmas, printed forms of its functions, contracts. It has no conditions of its own. -/
import Derived.Test.YtlnohlefimgdnaaGreatDoorMC0
import Derived.Test.YtlnohlefimgdnaaGreatDoorMW1
import Derived.Test.YtlnohlefimgdnaaGreatDoorMS1
import Derived.Test.YtlnohlefimgdnaaGreatDoorMS2

set_option maxHeartbeats 16000000
section
namespace Go.Sh
open Go Go.Fw Go.Proofs
set_option maxRecDepth 100000
set_option linter.unusedVariables false
def Eqn (n:Nat) (x y:Nat→UInt8):Prop:=∀ j,j<n→x j=y j
def gF (f:Nat→UInt8) (j:Nat) (a:UInt8):UInt8:=Xl a (f j)
def fE:Nat→UInt8:=fun j=>if j=0 then 2 else if j=1 then 3 else 1
def fD:Nat→UInt8:=fun j=>if j=0 then 14 else if j=1 then 11 else if j=2 then 13 else 9
def kAt (ks:Nat→UInt8) (r:Nat):Nat→UInt8:=fun j=>ks (16*r+j)
def Uf (x y:Nat→UInt8):Nat→UInt8:=fun j=>x j ^^^ y j
def VW (ks x:Nat→UInt8):Nat→(Nat→UInt8)
  | 0=>Uf x (kAt ks 0)
  | r+1=>Uf (if r+1<10 then ZI (gF fE) (Z5 1 (fun j=>XE (VW ks x r j))) else Z5 1 (fun j=>XE (VW ks x r j))) (kAt ks (r+1))
def Xv5 (ks x:Nat→UInt8):Nat→UInt8:=VW ks x 10
theorem Xrf {g:Nat→UInt8→UInt8} {x y:Nat→UInt8} (h:Eqn 16 x y) {k:Nat} (hk:k<16):∀ m,Xks g x k m=Xks g y k m:=by
  intro m
  induction m with
  | zero=>rfl
  | succ m ih=>unfold Xks; rw [ih,h _ (by omega)]
theorem Xpv {g:Nat→UInt8→UInt8} {x y:Nat→UInt8} (h:Eqn 16 x y):Eqn 16 (ZI g x) (ZI g y):=fun k hk=>Xrf h hk 4
theorem Xpw {m:Nat} {x y:Nat→UInt8} (h:Eqn 16 x y):Eqn 16 (Z5 m x) (Z5 m y):=fun k hk=>h _ (Nat.mod_lt _ (by omega))
theorem XwP (g:Nat→UInt8→UInt8) (x:Nat→UInt8) (k:Nat):ZI g x k=g 0 (x (4*(k / 4)+(k % 4+0) % 4)) ^^^ g 1 (x (4*(k / 4)+(k % 4+1) % 4)) ^^^ g 2 (x (4*(k / 4)+(k % 4+2) % 4)) ^^^ g 3 (x (4*(k / 4)+(k % 4+3) % 4)):=by
  show (((0 ^^^ _) ^^^ _) ^^^ _) ^^^ _=_
  rw [XaB]
theorem Eqn.trans {n:Nat} {x y z:Nat→UInt8} (h:Eqn n x y) (k:Eqn n y z):Eqn n x z:=fun j hj=>(h j hj).trans (k j hj)
theorem Eqn.symm {n:Nat} {x y:Nat→UInt8} (h:Eqn n x y):Eqn n y x:=fun j hj=>(h j hj).symm
theorem Eqn.map {n:Nat} {x y:Nat→UInt8} (h:Eqn n x y) (g:UInt8→UInt8):Eqn n (fun j=>g (x j)) (fun j=>g (y j)):=fun j hj=>by show g (x j)=g (y j); rw [h j hj]
end Go.Sh
end

section
namespace Go.Sh
open Go Go.Fw Go.Proofs
set_option maxRecDepth 100000
set_option linter.unusedVariables false
def bl (n:Nat) (x:Nat→UInt8):List UInt8:=(List.range n).map x
def fl (xs:List UInt8):Nat→UInt8:=fun j=>xs.getD j 0
theorem XN (n:Nat) (x:Nat→UInt8):(bl n x).length=n:=by simp [bl]
theorem Xkt {n:Nat} {x:Nat→UInt8} {j:Nat} (h:j<n):(bl n x).getD j 0=x j:=by simp [bl,h]
theorem XsA {n:Nat} {x:Nat→UInt8} {j:Nat} (h:j<n):(bl n x)[j]?=some (x j):=by simp [bl,h]
theorem V4 (n:Nat) (x:Nat→UInt8):Eqn n (fl (bl n x)) x:=fun j hj=>Xkt hj
theorem Z0 {n:Nat} {x y:Nat→UInt8} (h:Eqn n x y):bl n x=bl n y:=by
  unfold bl
  exact List.map_congr_left fun j hj=>h j (by simpa using hj)
theorem XwQ (xs:List UInt8):bl xs.length (fl xs)=xs:=by
  apply List.ext_getElem?
  intro j
  by_cases hj:j<xs.length
  · rw [XsA hj,List.getElem?_eq_getElem hj]; unfold fl; rw [List.getD_eq_getElem?_getD,List.getElem?_eq_getElem hj]; rfl
  · rw [List.getElem?_eq_none (by rw [XN]; omega),List.getElem?_eq_none (by omega)]
theorem XtQ (n:Nat) (x:Nat→UInt8):Xy n x=(bl n x).map vb:=by simp [Xy,bl]
theorem XwR {xs:List UInt8} {n:Nat} (h:xs.length=n):xs=bl n (fl xs):=by subst h; exact (XwQ xs).symm
def Yu (x:Nat→UInt8) (r:Nat):Nat→UInt8:=fun j=>if j=0 then XE (x 1) ^^^ Vt 2 (UInt64.ofNat (r - 1)) else XE (x ((j+1) % 4))
def Vv (key:Nat→UInt8) (k:Nat) (ws:Nat→UInt8):Nat→UInt8:=fun j=>
  if k<4 then key (4*k+j) else ws (4*(k - 4)+j) ^^^ (if k % 4=0 then Yu (fun i=>ws (4*(k - 1)+i)) (k / 4) j else ws (4*(k - 1)+j))
def QM (key:Nat→UInt8):Nat→(Nat→UInt8)
  | 0=>fun _=>0
  | n+1=>fun i=>if i<4*n then QM key n i else Vv key n (QM key n) (i - 4*n)
def X4 (key:Nat→UInt8):Nat→UInt8:=QM key 44
theorem Xk7 (key:Nat→UInt8) {n:Nat}:∀ m,n≤m→∀ i,i<4*n→QM key m i=QM key n i:=by
  intro m
  induction m with
  | zero=>intro h i hi; omega
  | succ m ih=>
    intro h i hi
    by_cases hm:n=m+1
    · subst hm; rfl
    · show (if i<4*m then QM key m i else _)=_
      rw [if_pos (by omega),ih (by omega) i hi]
theorem Xpx {key:Nat→UInt8} {k:Nat} {ws ws':Nat→UInt8} (h:∀ i,i<4*k→ws i=ws' i) {j:Nat} (hj:j<4):Vv key k ws j=Vv key k ws' j:=by
  unfold Vv
  by_cases hk:k<4
  · rw [if_pos hk,if_pos hk]
  · rw [if_neg hk,if_neg hk,h _ (by omega),h (4*(k - 1)+j) (by omega)]
    have:Yu (fun i=>ws (4*(k - 1)+i)) (k / 4) j=Yu (fun i=>ws' (4*(k - 1)+i)) (k / 4) j:=by
      show (if j=0 then XE (ws (4*(k - 1)+1)) ^^^ Vt 2 (UInt64.ofNat (k / 4 - 1)) else XE (ws (4*(k - 1)+(j+1) % 4)))=(if j=0 then XE (ws' (4*(k - 1)+1)) ^^^ Vt 2 (UInt64.ofNat (k / 4 - 1)) else XE (ws' (4*(k - 1)+(j+1) % 4)))
      rw [h (4*(k - 1)+1) (by omega),h (4*(k - 1)+(j+1) % 4) (by omega)]
    rw [this]
theorem XcG (key:Nat→UInt8) {k j:Nat} (hk:k<44) (hj:j<4):X4 key (4*k+j)=Vv key k (X4 key) j:=by
  unfold X4
  rw [Xk7 key (n:=k+1) 44 (by omega) _ (by omega)]
  show (if 4*k+j<4*k then _ else Vv key k (QM key k) (4*k+j - 4*k))=_
  rw [if_neg (by omega),show 4*k+j - 4*k=j by omega]
  exact Xpx (fun i hi=>(Xk7 key (n:=k) 44 (by omega) i hi).symm) hj
def UQ (key xs:List UInt8):List UInt8:=bl 16 (Xv5 (X4 (fl key)) (fl xs))
theorem Jq (key xs:List UInt8):(UQ key xs).length=16:=XN _ _
end Go.Sh
end

section
namespace Go.Sh
open Go Go.Fw Go.Proofs
set_option maxRecDepth 100000
set_option linter.unusedVariables false
def OB (w:World) (p:Option Addr) (l c:Nat) (xs:List UInt8) (lo:Nat):Prop:=OwnS w p l c (xs.map vb)∧l=xs.length∧∀ k∈Xb p,lo≤k
theorem OB.row {w:World} {p:Option Addr} {l c:Nat} {xs:List UInt8} {lo:Nat} (h:OB w p l c xs lo):Row w p (xs.map vb):=h.1.row
theorem OB.fr {w w':World} {p:Option Addr} {l c:Nat} {xs:List UInt8} {lo:Nat} {L:List Nat} (h:OB w p l c xs lo) (hf:Fr L w w') (hl:∀ k∈Xb p,k∉L):OB w' p l c xs lo:=⟨h.1.fr hf hl,h.2⟩
theorem OB.fr0 {w w':World} {p:Option Addr} {l c:Nat} {xs:List UInt8} {lo:Nat} (h:OB w p l c xs lo) (hf:Fr [] w w'):OB w' p l c xs lo:=h.fr hf (by simp)
theorem OB.mono {w:World} {p:Option Addr} {l c:Nat} {xs:List UInt8} {lo lo':Nat} (h:OB w p l c xs lo) (h1:lo'≤lo):OB w p l c xs lo':=⟨h.1,h.2.1,fun k hk=>Nat.le_trans h1 (h.2.2 k hk)⟩
theorem OB.nil (w:World) (lo:Nat):OB w none 0 0 [] lo:=⟨OwnS.nil w,rfl,by simp [Xb]⟩
theorem OB.lt {w:World} {p:Option Addr} {l c:Nat} {xs:List UInt8} {lo:Nat} (h:OB w p l c xs lo):∀ k∈Xb p,k<w.heap.size:=h.1.lt
theorem OB.cap {w:World} {p:Option Addr} {l c:Nat} {xs:List UInt8} {lo:Nat} (h:OB w p l c xs lo):l≤c:=by
  obtain ⟨⟨hl,⟨_,h0,h1⟩ | ⟨g,o,N,f,rfl,hB,hoc,hlc,hf⟩⟩,_⟩:=h <;> omega
theorem OB.news {a w w':World} {p:Option Addr} {l c:Nat} {xs:List UInt8} {lo:Nat} (h:OB w p l c xs lo) (h1:Fr [] a w) (h2:Fr (Xb p) w w') (h3:a.heap.size≤lo):Fr [] a w':=h1.trans h2 fun z hz=>.inr (Nat.le_trans h3 (h.2.2 z hz))
theorem mk0 {w:World} {K:Option Addr→Nat→Nat→World→Prop} (h:∀ p w',Fr [] w w'→OB w' p 0 0 [] w.heap.size→w'.heap.size=w.heap.size+1→K p 0 0 w'):∃ p l c w',Ef Tryz.prog (Instr.buildSlice Xg 0 #[]) w (.slice p l c) w'∧K p l c w':=
  ⟨_,_,_,Ef.new (cs:=#[]) (v:=.slice (some ⟨w.heap.size,0,none⟩) 0 0) (e:=Jf) (by kernel_rfl) fun w' f hB s=>h _ w' f ⟨⟨rfl,.inr ⟨_,_,_,_,rfl,hB,by simp,by simp,by simp⟩⟩,rfl,by simp [Xb]⟩ s⟩
theorem Xmn {w:World} {p:Option Addr} {l c:Nat} {xs:List UInt8} {lo:Nat} {x:UInt8} (h:OB w p l c xs lo) (hlo:lo≤w.heap.size) (hlen:l<1073741824) {K:Option Addr→Nat→Nat→World→Prop}
    (hk:∀ p' c' w',Fr (Xb p) w w'→OB w' p' (l+1) c' (xs++[x]) lo→K p' (l+1) c' w') :
    ∃ q m d w1,Ef Tryz.prog (Instr.buildSlice Xg 1 #[(0,.int .u8 (x.toNat:Int))]) w (.slice q m d) w1∧∃ p' l' c' w2,Ef Tryz.prog (Builtin.append_ #[Xg,Xg] Xg #[.slice p l c,.slice q m d]) w1 (.slice p' l' c') w2∧K p' l' c' w2:=by
  refine ⟨_,_,_,Ef.new (v:=.slice (some ⟨w.heap.size,0,none⟩) 1 1) (cs:=([vb x]:List Value).toArray) (e:=Jf) (by kernel_rfl) fun w1 f1 hB1 s1=>?_⟩
  obtain ⟨hO,hl,hp⟩:=h.fr0 f1
  obtain ⟨p',c',w',he,hO',hf,hcase⟩:=Ef.append (P:=Tryz.prog) (t:=Xg) (ty:=Xg) (by kernel_rfl) hO (m:=1) (d:=1) hB1.rowL rfl (by simp; rfl) (by omega)
  refine ⟨_,_,_,_,he,hk p' c' w' (f1.after hf) ⟨by simpa using hO',by simp [hl],fun z hz=>?_⟩⟩
  rcases hcase with ⟨rfl,_,_⟩ | ⟨rfl,_,h3⟩
  · exact hp z hz
  · simp only [Xb,List.mem_singleton] at hz; omega
theorem JW {w:World} {p:Option Addr} {l c:Nat} {xs:List UInt8} {lo:Nat} {q:Option Addr} {m d:Nat} {ys:List UInt8} (h:OB w p l c xs lo) (hlo:lo≤w.heap.size) (hR:Row w q (ys.map vb)) (hm:m=ys.length) (hlen:l+m≤1073741824) {K:Option Addr→Nat→Nat→World→Prop}
    (hk:∀ p' c' w',Fr (Xb p) w w'→OB w' p' (l+m) c' (xs++ys) lo→K p' (l+m) c' w') :
    ∃ p' l' c' w2,Ef Tryz.prog (Builtin.append_ #[Xg,Xg] Xg #[.slice p l c,.slice q m d]) w (.slice p' l' c') w2∧K p' l' c' w2:=by
  obtain ⟨hO,hl,hp⟩:=h
  obtain ⟨p',c',w',he,hO',hf,hcase⟩:=Ef.append (P:=Tryz.prog) (t:=Xg) (ty:=Xg) (by kernel_rfl) hO (m:=m) (d:=d) hR (by simpa using hm) (UZ ys) hlen
  refine ⟨_,_,_,_,he,hk p' c' w' hf ⟨by simpa using hO',by simp [hl,hm],fun z hz=>?_⟩⟩
  rcases hcase with ⟨rfl,_,_⟩ | ⟨rfl,_,h3⟩
  · exact hp z hz
  · simp only [Xb,List.mem_singleton] at hz; omega
theorem mkN {w:World} {n c:Nat} (hn:n≤c) (hc:c≤1073741824) {k k':IntKind} {K:Option Addr→Nat→Nat→World→Prop} (h:∀ p w',Fr [] w w'→OB w' p n c (List.replicate n 0) w.heap.size→w'.heap.size=w.heap.size+1→K p n c w') :
    ∃ p l' c' w',Ef Tryz.prog (Instr.makeSlice Xg (.int k (n:Int)) (.int k' (c:Int))) w (.slice p l' c') w'∧K p l' c' w':=by
  obtain ⟨w',he,hf,hB,hs⟩:=Ef.make (P:=Tryz.prog) (t:=Xg) (by kernel_rfl) (z:=.int .u8 0) (by kernel_rfl) (by kernel_rfl) (w:=w) (k:=k) (k':=k') hn hc
  refine ⟨_,_,_,_,he,h _ w' hf ⟨⟨by simp,.inr ⟨_,0,c,_,rfl,hB,by omega,hn,fun i v hi=>?_⟩⟩,by simp,by simp [Xb]⟩ hs⟩
  simp only [List.map_replicate,List.getElem?_replicate] at hi
  split at hi
  · exact Option.some.inj hi
  · cases hi
theorem OB.sto {w:World} {p:Option Addr} {l c:Nat} {xs:List UInt8} {lo:Nat} (h:OB w p l c xs lo) {k:IntKind} {i:Nat} {x:UInt8} (hi:i<l) {K:World→Prop} (hk:∀ w',Fr (Xb p) w w'→OB w' p l c (xs.set i x) lo→w'.heap.size=w.heap.size→K w') :
    ∃ a,IxA Tryz.prog Xg (.slice p l c) (.int k (i:Int)) a∧∃ w',Sto Tryz.prog Jf (.pointer (some a)) (.int .u8 (x.toNat:Int)) w w'∧K w':=by
  obtain ⟨hO,hl,hp⟩:=h
  refine OwnS.sto (P:=Tryz.prog) (by kernel_rfl) (by kernel_rfl) hO (k:=k) (i:=(i:Int)) (by omega) (by omega) rfl rfl fun w' f hO' s=>hk w' f ⟨?_,by simpa using hl,hp⟩ s
  rw [Int.toNat_natCast] at hO'
  rw [List.map_set]
  exact hO'
theorem OB.get {w:World} {p:Option Addr} {l c:Nat} {xs:List UInt8} {lo:Nat} (h:OB w p l c xs lo) {k:IntKind} {i:Nat} (hi:i<l):∃ a,IxA Tryz.prog Xg (.slice p l c) (.int k (i:Int)) a∧w.cell? a=some (vb (fl xs i)):=XD (by kernel_rfl) h.row h.2.1 hi
end Go.Sh
end

section
namespace Go.Sh
open Go Go.Fw Go.Proofs
set_option maxRecDepth 100000
set_option linter.unusedVariables false
theorem Xv6 (n:Nat) (x:Nat→UInt8) (g:UInt8→UInt8):(bl n x).map g=bl n (fun j=>g (x j)):=by simp [bl]
theorem Xu2 (m:Nat) (x:Nat→UInt8):bl 16 (Z5 m (fl (bl 16 x)))=bl 16 (Z5 m x):=Z0 (Xpw (V4 16 x))
theorem Xu3 (g:Nat→UInt8→UInt8) (x:Nat→UInt8):bl 16 (ZI g (fl (bl 16 x)))=bl 16 (ZI g x):=Z0 (Xpv (V4 16 x))
theorem XsB (n:Nat) (x y:Nat→UInt8):bl n (Uf (fl (bl n x)) (fl (bl n y)))=bl n (Uf x y):=Z0 fun j hj=>by unfold Uf; rw [V4 n x j hj,V4 n y j hj]
theorem XsC (f x:Nat→UInt8) {k:Nat} (hk:k<16) :
    0 ^^^ Xl (f ((0+4 - k % 4) % 4)) (x (4*(k / 4)+0)) ^^^ Xl (f ((1+4 - k % 4) % 4)) (x (4*(k / 4)+1)) ^^^ Xl (f ((2+4 - k % 4) % 4)) (x (4*(k / 4)+2)) ^^^ Xl (f ((3+4 - k % 4) % 4)) (x (4*(k / 4)+3))=ZI (gF f) x k:=by
  rw [XwP,XaB]
  unfold gF
  have hr:k % 4<4:=Nat.mod_lt _ (by omega)
  generalize k / 4=c
  generalize hk4:k % 4=r at hr
  rcases (by omega:r=0∨r=1∨r=2∨r=3) with rfl | rfl | rfl | rfl
  · show Xl (f 0) (x (4*c+0)) ^^^ Xl (f 1) (x (4*c+1)) ^^^ Xl (f 2) (x (4*c+2)) ^^^ Xl (f 3) (x (4*c+3))=Xl (x (4*c+0)) (f 0) ^^^ Xl (x (4*c+1)) (f 1) ^^^ Xl (x (4*c+2)) (f 2) ^^^ Xl (x (4*c+3)) (f 3)
    simp only [ZG (f _)]
  · show Xl (f 3) (x (4*c+0)) ^^^ Xl (f 0) (x (4*c+1)) ^^^ Xl (f 1) (x (4*c+2)) ^^^ Xl (f 2) (x (4*c+3))=Xl (x (4*c+1)) (f 0) ^^^ Xl (x (4*c+2)) (f 1) ^^^ Xl (x (4*c+3)) (f 2) ^^^ Xl (x (4*c+0)) (f 3)
    simp only [ZG (f _)]
    ac_rfl
  · show Xl (f 2) (x (4*c+0)) ^^^ Xl (f 3) (x (4*c+1)) ^^^ Xl (f 0) (x (4*c+2)) ^^^ Xl (f 1) (x (4*c+3))=Xl (x (4*c+2)) (f 0) ^^^ Xl (x (4*c+3)) (f 1) ^^^ Xl (x (4*c+0)) (f 2) ^^^ Xl (x (4*c+1)) (f 3)
    simp only [ZG (f _)]
    ac_rfl
  · show Xl (f 1) (x (4*c+0)) ^^^ Xl (f 2) (x (4*c+1)) ^^^ Xl (f 3) (x (4*c+2)) ^^^ Xl (f 0) (x (4*c+3))=Xl (x (4*c+3)) (f 0) ^^^ Xl (x (4*c+0)) (f 1) ^^^ Xl (x (4*c+1)) (f 2) ^^^ Xl (x (4*c+2)) (f 3)
    simp only [ZG (f _)]
    ac_rfl
def XtR:Nat→UInt8:=fun n=>XE (UInt8.ofNat n)
def tblL:List UInt8:=bl 256 XtR
theorem Xp8 (a:UInt8):tblL.getD a.toNat 0=XE a:=by
  unfold tblL
  rw [Xkt a.toNat_lt]
  unfold XtR
  rw [UInt8.ofNat_toNat]
def glogs:List Nat:=[0,0,25,1,50,2,26,198,75,199,27,104,51,238,223,3,100,4,224,14,52,141,129,239,76,113,8,200,248,105,28,193,125,194,29,181,249,185,39,106,77,228,166,114,154,201,9,120,101,47,138,5,33,15,225,36,18,240,130,69,53,147,218,142,150,143,219,189,54,208,206,148,19,92,210,241,64,70,131,56,102,221,253,48,191,6,139,98,179,37,226,152,34,136,145,16,126,110,72,195,163,182,30,66,58,107,40,84,250,133,61,186,43,121,10,21,155,159,94,202,78,212,172,229,243,115,167,87,175,88,168,80,244,234,214,116,79,174,233,213,231,230,173,232,44,215,117,122,235,22,11,245,89,203,95,176,156,169,81,160,127,12,246,111,23,196,73,236,216,67,31,45,164,118,123,183,204,187,62,90,251,96,177,134,59,82,161,108,170,85,41,157,151,178,135,144,97,190,220,252,188,149,207,205,55,63,91,209,83,57,132,60,65,162,109,71,20,42,158,93,86,242,211,171,68,17,146,217,35,32,46,137,180,124,184,38,119,153,227,165,103,74,237,222,197,49,254,24,13,99,140,128,192,247,112,7]
theorem Xu4 (a:UInt8) (h:a≠0):∃ i,i<255∧XM 3 i=a:=by
  have h1:=Xgq (p:=fun a=>a == 0 || (decide (glogs.getD a.toNat 0<255) && Vt 3 (UInt64.ofNat (glogs.getD a.toNat 0)) == a)) (by kernel_rfl) a
  simp only [beq_iff_eq,Bool.or_eq_true,Bool.and_eq_true,decide_eq_true_eq,h,false_or] at h1
  obtain ⟨h2,h3⟩:=h1
  refine ⟨glogs.getD a.toNat 0,h2,?_⟩
  rw [Xkr] at h3
  have e:∀ x:Nat,x<255→(UInt64.ofNat x).toNat=x:=by intro x hx; simp; omega
  rwa [e _ h2] at h3
theorem XtS (i:Nat):XM 3 i≠0:=by
  induction i with
  | zero=>decide
  | succ i ih=>intro h; rcases (Xol _ _).1 h with h | h; exact ih h; cases h
theorem XtT (i:Nat) (h:i<255):ZZ (XM 3 i)=XM 3 ((255 - i) % 255):=by
  refine (Xsv _ _ ?_).symm
  rw [Xoo 3 (by decide),← Xhb,show i+(255 - i)=255 by omega]
  exact Xom 3 (by decide)
end Go.Sh
end

section
namespace Go.Sh
open Go Go.Fw Go.Proofs
set_option maxRecDepth 100000
set_option linter.unusedVariables false
def XtU (r:Nat) (y:Nat→UInt8):Nat→UInt8:=if r+1<10 then ZI (gF fE) (Z5 1 (fun j=>XE (y j))) else Z5 1 (fun j=>XE (y j))
theorem Xk8 (ks x:Nat→UInt8) (r:Nat):VW ks x (r+1)=Uf (XtU r (VW ks x r)) (kAt ks (r+1)):=rfl
theorem Xpy {x y k l:Nat→UInt8} (h:Eqn 16 x y) (g:Eqn 16 k l):Eqn 16 (Uf x k) (Uf y l):=fun j hj=>by unfold Uf; rw [h j hj,g j hj]
end Go.Sh
end

section
namespace Go.Sh
open Go Go.Fw Go.Proofs
set_option maxRecDepth 100000
set_option linter.unusedVariables false
def Xp (xs:List UInt8):Nat:=xs.foldl (fun n x=>n*256+x.toNat) 0
theorem XaD (xs:List UInt8) (x:UInt8):Xp (xs++[x])=Xp xs*256+x.toNat:=by simp [Xp]
theorem Ji (xs:List UInt8):Xp xs<256 ^ xs.length:=by
  have key:∀ (l:List UInt8) (n m:Nat),n<256 ^ m→l.foldl (fun n x=>n*256+x.toNat) n<256 ^ (m+l.length):=by
    intro l
    induction l with
    | nil=>intro n m h; exact h
    | cons x l ih=>
      intro n m h
      have hx:=x.toNat_lt
      have h2:n*256+x.toNat<256 ^ (m+1):=by rw [Nat.pow_succ]; omega
      have:=ih _ _ h2
      simp only [List.foldl_cons,List.length_cons]
      rwa [show m+(l.length+1)=m+1+l.length by omega]
  have:=key xs 0 0 (by decide)
  rwa [Nat.zero_add] at this
def X6 (n size:Nat):List UInt8:=(List.range size).map fun i=>UInt8.ofNat (n / 256 ^ (size - 1 - i))
theorem Y7 (n size:Nat):(X6 n size).length=size:=by simp [X6]
theorem Xk9 (n size:Nat):X6 n (size+1)=X6 (n / 256) size++[UInt8.ofNat n]:=by
  unfold X6
  rw [List.range_succ,List.map_append]
  congr 1
  · apply List.map_congr_left
    intro i hi
    have hi:i<size:=by simpa using hi
    have e:size+1 - 1 - i=(size - 1 - i)+1:=by omega
    rw [e,Nat.pow_succ,Nat.mul_comm,← Nat.div_div_eq_div_mul]
  · simp
theorem XbO:∀ (size n:Nat),n<256 ^ size→Xp (X6 n size)=n:=by
  intro size
  induction size with
  | zero=>
    intro n h
    have h0:n=0:=by simpa using h
    subst h0; rfl
  | succ size ih=>
    intro n h
    rw [Xk9,XaD,ih (n / 256) (by rw [Nat.pow_succ] at h; omega)]
    have:(UInt8.ofNat n).toNat=n % 256:=by simp
    rw [this]; omega
theorem Xu5:∀ (size:Nat) (xs:List UInt8),xs.length=size→X6 (Xp xs) size=xs:=by
  intro size
  induction size with
  | zero=>intro xs h; rw [List.length_eq_zero_iff.1 h]; rfl
  | succ size ih=>
    intro xs h
    rcases List.eq_nil_or_concat xs with rfl | ⟨ys,y,rfl⟩
    · simp at h
    · have hl:ys.length=size:=by simpa using h
      have hy:=y.toNat_lt
      rw [List.concat_eq_append,XaD,Xk9]
      have e1:(Xp ys*256+y.toNat) / 256=Xp ys:=by omega
      have e2:UInt8.ofNat (Xp ys*256+y.toNat)=y:=by
        rw [← UInt8.toNat_inj]; simp
      rw [e1,e2,ih ys hl]
def XH (b:List UInt8) (n:Nat):List UInt8:=b.take 12++X6 ((Xp (b.drop 12)+n) % 4294967296) 4
theorem Un {b:List UInt8} (n:Nat) (h:b.length=16):(XH b n).length=16:=by simp [XH,Y7,h]
theorem Xpz {b:List UInt8} (n:Nat) (h:b.length=16):(XH b n).drop 12=X6 ((Xp (b.drop 12)+n) % 4294967296) 4:=by
  unfold XH
  rw [List.drop_append_of_le_length (by simp [h]),List.drop_eq_nil_of_le (by simp; omega),List.nil_append]
theorem XpA {b:List UInt8} (n:Nat) (h:b.length=16):(XH b n).take 12=b.take 12:=by
  unfold XH
  rw [List.take_append_of_le_length (by simp [h]),List.take_of_length_le (by simp; omega)]
theorem Xi3 {b:List UInt8} (m n:Nat) (h:b.length=16):XH (XH b m) n=XH b (m+n):=by
  show (XH b m).take 12++X6 ((Xp ((XH b m).drop 12)+n) % 4294967296) 4=b.take 12++X6 ((Xp (b.drop 12)+(m+n)) % 4294967296) 4
  rw [XpA m h,Xpz m h,XbO 4 _ (Nat.mod_lt _ (by decide))]
  congr 2; omega
theorem XpB {b:List UInt8} (h:b.length=16):XH b 0=b:=by
  unfold XH
  have hl:(b.drop 12).length=4:=by simp [h]
  have:=Ji (b.drop 12)
  rw [hl] at this
  rw [Nat.add_zero,Nat.mod_eq_of_lt (by omega),Xu5 4 _ hl,List.take_append_drop]
def JO (key b:List UInt8):Nat→List UInt8
  | 0=>[]
  | k+1=>JO key b k++UQ key (XH b k)
theorem Xhd (key b:List UInt8) (k:Nat):(JO key b k).length=16*k:=by
  induction k with
  | zero=>rfl
  | succ k ih=>simp [JO,ih,Jq]; omega
theorem XtV (key:List UInt8) {b:List UInt8} (h:b.length=16) (m:Nat):∀ k,JO key b (m+k)=JO key b m++JO key (XH b m) k:=by
  intro k
  induction k with
  | zero=>simp [JO]
  | succ k ih=>
    show JO key b (m+k)++UQ key (XH b (m+k))=JO key b m++(JO key (XH b m) k++UQ key (XH (XH b m) k))
    rw [ih,Xi3 m k h,List.append_assoc]
def Xa1 (key b:List UInt8) (n:Nat):List UInt8:=(JO key b ((n+15) / 16)).take n
theorem U0 (key b:List UInt8) (n:Nat):(Xa1 key b n).length=n:=by
  unfold Xa1; rw [List.length_take,Xhd]; omega
theorem Xp9 (key:List UInt8) {b:List UInt8} (h:b.length=16) {n k:Nat} (hk:n≤16*k):(JO key b k).take n=Xa1 key b n:=by
  unfold Xa1
  have hle:(n+15) / 16≤k:=by omega
  obtain ⟨d,rfl⟩:=Nat.exists_eq_add_of_le hle
  rw [XtV key h,List.take_append_of_le_length (by rw [Xhd]; omega)]
def QN (xs ys:List UInt8):List UInt8:=List.zipWith (· ^^^ ·) xs ys
theorem Yy {xs ys:List UInt8} (h:xs.length=ys.length):(QN xs ys).length=ys.length:=by simp [QN,h]
theorem Wu {xs ys:List UInt8} (h:xs.length=ys.length) {i:Nat} (hi:i<ys.length):(QN xs ys).getD i 0=xs.getD i 0 ^^^ ys.getD i 0:=by
  unfold QN
  simp only [List.getD_eq_getElem?_getD,List.getElem?_zipWith]
  rw [List.getElem?_eq_getElem hi,List.getElem?_eq_getElem (by omega)]
  rfl
theorem Xrg {xs ys:List UInt8} (h:xs.length=ys.length):QN xs (QN xs ys)=ys:=by
  apply X3 (by rw [Yy (by rw [Yy h,h]),Yy h])
  intro i hi
  rw [Yy (by rw [Yy h,h]),Yy h] at hi
  rw [Wu (by rw [Yy h,h]) (by rw [Yy h]; exact hi),Wu h hi,← Zc,Zh,XaB]
def V5 (key b text:List UInt8):List UInt8:=QN (Xa1 key b text.length) text
end Go.Sh
end

section
namespace Go.Sh
open Go Go.Fw Go.Proofs
set_option maxRecDepth 100000
set_option linter.unusedVariables false
theorem byS {w:World} {q:Option Addr} {n c:Nat} {r:List UInt8} (hR:Row w q (r.map vb)) (hn:n=r.length) (hc:n≤c):ByS w (.slice q n c) r:=by subst hn; exact ⟨q,c,rfl,hc,hR⟩
theorem OB.byS {w:World} {p:Option Addr} {l c:Nat} {xs:List UInt8} {lo:Nat} (h:OB w p l c xs lo):ByS w (.slice p l c) xs:=Go.Sh.byS h.row h.2.1 h.cap
theorem RowB.of1 {w:World} {p:Option Addr} {v1:Value} {r1:List UInt8} (h:Row w p [v1]) (h1:ByS w v1 r1):RowB w p [r1]:=⟨[v1],h,rfl,fun j r hj=>by
  match j,hj with
  | 0, hj => obtain rfl : r1 = r := by simpa using hj
             exact ⟨v1,rfl,h1⟩⟩
theorem RowB.of2 {w:World} {p:Option Addr} {v1 v2:Value} {r1 r2:List UInt8} (h:Row w p [v1,v2]) (h1:ByS w v1 r1) (h2:ByS w v2 r2):RowB w p [r1,r2]:=⟨[v1,v2],h,rfl,fun j r hj=>by
  match j,hj with
  | 0, hj => obtain rfl : r1 = r := by simpa using hj
             exact ⟨v1,rfl,h1⟩
  | 1, hj => obtain rfl : r2 = r := by simpa using hj
             exact ⟨v2,rfl,h2⟩⟩
theorem RowB.of3 {w:World} {p:Option Addr} {v1 v2 v3:Value} {r1 r2 r3:List UInt8} (h:Row w p [v1,v2,v3]) (h1:ByS w v1 r1) (h2:ByS w v2 r2) (h3:ByS w v3 r3):RowB w p [r1,r2,r3]:=⟨[v1,v2,v3],h,rfl,fun j r hj=>by
  match j,hj with
  | 0, hj => obtain rfl : r1 = r := by simpa using hj
             exact ⟨v1,rfl,h1⟩
  | 1, hj => obtain rfl : r2 = r := by simpa using hj
             exact ⟨v2,rfl,h2⟩
  | 2, hj => obtain rfl : r3 = r := by simpa using hj
             exact ⟨v3,rfl,h3⟩⟩
theorem Xv7 {w:World} {n:Nat} (hn:n≤1073741824) {K:VWP} (h:∀ q c w',Fr [] w w'→OB w' q 0 c [] w.heap.size→K (.slice q 0 c) w'):Xa Tryz.prog QS #[.slice none 0 0,.int .i64 (n:Int)] w K:=by
  apply WH
  unfold U5
  refine Xc (fun h1=>by omega) fun _=>?_
  unfold J9
  refine ⟨0,by unfold Pu; kernel_rfl,?_⟩
  have e0:IntKind.i64.wrap ((0:Int) - ((0:Nat):Int))=0:=rfl
  rw [e0,Int.sub_zero,Xe (by omega) (by omega)]
  refine Xc (fun h1=>?_) (fun h1=>h none 0 w (Fr.refl _ _) (OB.nil _ _))
  refine ⟨0,by unfold Pu; kernel_rfl,none,0,0,by unfold Pu; kernel_rfl,?_⟩
  obtain ⟨c',w',he,hge,hf,⟨f,hB⟩,hs⟩:=Ef.appendZ (P:=Tryz.prog) (t:=Xg) (ti:=Y9) (ty:=Xg) (by kernel_rfl) (by kernel_rfl) (w:=w) (n:=n) (by omega) hn
  refine ⟨_,_,_,_,he,?_⟩
  refine ⟨_,_,_,VK (s:=1) (kl:=.i64) (kh:=.i64) (lo:=none) (hi:=some 0) (by kernel_rfl) (by simp) (by simp) (by simp),?_⟩
  have hc0:c'≠0:=by omega
  simp only [Option.getD]
  rw [V1 (by simpa using hc0)]
  exact h _ c' w' hf ⟨⟨rfl,.inr ⟨_,0,c',f,rfl,hB,by omega,by omega,by simp⟩⟩,rfl,by simp [Xb]⟩
theorem Xla (rs:List (List UInt8)) {i:Nat} (h:i<rs.length):(rs.take (i+1)).flatten=(rs.take i).flatten++rs.getD i []:=by
  rw [List.take_add_one,List.getElem?_eq_getElem h,List.flatten_append,List.getD_eq_getElem?_getD,List.getElem?_eq_getElem h]
  simp
theorem Xqa (rs:List (List UInt8)) (i:Nat):(rs.take i).flatten.length≤rs.flatten.length:=by
  have h:rs.flatten=(rs.take i).flatten++(rs.drop i).flatten:=by rw [← List.flatten_append,List.take_append_drop]
  rw [h,List.length_append]; omega
theorem XtW {w:World} {p:Option Addr} {l c:Nat} {rs:List (List UInt8)} (hR:RowB w p rs) (hl:l=rs.length) (hb:rs.flatten.length≤1000000000) (hl2:l≤1000000000) {K:VWP}
    (h:∀ q d w',Fr [] w w'→OB w' q rs.flatten.length d rs.flatten w.heap.size→K (.slice q rs.flatten.length d) w'):Xa Tryz.prog Qa #[.slice p l c] w K:=by
  apply VT
  unfold Uq
  refine LoopS.ind (fun k us w'=>w'=w∧∃ i:Nat,i+k=l∧us=[.slice p l c,.slice none 0 0,.int .i64 ((rs.take i).flatten.length:Int),.slice p l c,.int .i64 (l:Int),.int .i64 (i:Int)]) l ⟨rfl,0,by omega,rfl⟩ ?_
  rintro k us r w1 I μ hgo ⟨rfl,i,hi,rfl⟩
  refine ⟨_,_,_,_,_,_,_,_,_,_,_,_,rfl,Xc (fun h1=>?_) (fun h1=>?_)⟩
  · have hil:i<l:=by omega
    obtain ⟨a,q,d,ha,hca,hq,_⟩:=XcF (t:=XA) (by kernel_rfl) hR (c:=c) hl hil (k:=.i64)
    refine ⟨a,ha,_,_,_,Ld.cell (by kernel_rfl) hca,?_⟩
    have e:=congrArg List.length (Xla rs (i:=i) (by omega))
    rw [List.length_append] at e
    have:=Xqa rs (i+1)
    rw [Xe (n:=((rs.take i).flatten.length:Int)+_) (by omega) (by omega)]
    refine Xc (fun h2=>by omega) fun _=>?_
    rw [Xe (by omega) (by omega)]
    refine hgo _ _ _ (k - 1) (by omega) ⟨rfl,i+1,by omega,?_⟩
    rw [e]; rfl
  · have hil:i=l:=by omega
    subst hil
    rw [List.take_of_length_le (by omega)]
    unfold JJ
    refine Xv7 (by omega) fun q d w2 f2 hO2=>⟨_,_,_,rfl,?_⟩
    refine LoopS.ind (fun k us w'=>∃ (j:Nat) (q:Option Addr) (d:Nat),j+k=i∧us=[.slice none 0 0,.slice q (rs.take j).flatten.length d,.slice p i c,.int .i64 (i:Int),.int .i64 (j:Int)]∧Fr [] w1 w'∧OB w' q (rs.take j).flatten.length d (rs.take j).flatten w1.heap.size) i
      ⟨0,q,d,by omega,rfl,f2,hO2⟩ ?_
    rintro k us r w3 I2 μ2 hgo2 ⟨j,q,d,hj,rfl,f3,hO3⟩
    refine ⟨_,_,_,_,_,_,_,_,_,_,_,rfl,Xc (fun h2=>?_) (fun h2=>?_)⟩
    · have hjl:j<i:=by omega
      obtain ⟨a,q1,d1,ha,hca,hq1,_⟩:=XcF (t:=XA) (by kernel_rfl) (hR.fr0 f3) (c:=c) hl hjl (k:=.i64)
      refine ⟨a,ha,_,_,_,Ld.cell (by kernel_rfl) hca,?_⟩
      have e:=Xla rs (i:=j) (by omega)
      have e2:=congrArg List.length e
      rw [List.length_append] at e2
      have:=Xqa rs (j+1)
      refine JW hO3 f3.size hq1 rfl (by omega) fun p' c' w4 f4 hO4=>?_
      rw [Xe (by omega) (by omega)]
      refine hgo2 _ _ _ (k - 1) (by omega) ⟨j+1,p',c',by omega,by rw [e2]; rfl,hO3.news f3 f4 (Nat.le_refl _),?_⟩
      rw [← e2,← e] at hO4
      exact hO4
    · have hjl:j=i:=by omega
      subst hjl
      rw [List.take_of_length_le (by omega)] at hO3 ⊢
      exact h q d w3 f3 hO3
theorem Wv {w:World} {p:Option Addr} {l c:Nat} {rs:List (List UInt8)} (hR:RowB w p rs) (hl:l=rs.length) (hb:rs.flatten.length≤1000000000) (hl2:l≤1000000000) {K:VWP}
    (h:∀ q d w',Fr [] w w'→OB w' q rs.flatten.length d rs.flatten w.heap.size→K (.slice q rs.flatten.length d) w'):Xa Tryz.prog Xnz #[.slice p l c] w K:=by
  apply Xif
  unfold Xie
  exact XtW hR hl hb hl2 fun q d w' f hO=>⟨_,_,_,rfl,h q d w' f hO⟩
end Go.Sh
end

section
namespace Go.Sh
open Go Go.Fw Go.Proofs
set_option maxRecDepth 100000
set_option linter.unusedVariables false
theorem Xrh {r c:Nat} (hr:r<4) (hc:c<1000000) {w:World} {K:VWP} (h:K (.int .i64 ((4*(c % 4)+r:Nat):Int)) w):Xa Tryz.prog Xq6 #[.int .i64 (r:Int),.int .i64 (c:Int)] w K:=by
  apply XlM
  unfold Xn1
  have e:Int.tmod (c:Int) 4=((c % 4:Nat):Int):=rfl
  rw [e,Xe (n:=4*((c % 4:Nat):Int)) (by omega) (by omega),Xe (by omega) (by omega)]
  have:4*((c % 4:Nat):Int)+(r:Int)=((4*(c % 4)+r:Nat):Int):=by omega
  rw [this]
  exact h
theorem Xlb (xs:List UInt8) {i:Nat} (h:i<xs.length):xs.take (i+1)=xs.take i++[fl xs i]:=by
  rw [List.take_add_one,List.getElem?_eq_getElem h]
  unfold fl
  rw [List.getD_eq_getElem?_getD,List.getElem?_eq_getElem h]
  rfl
theorem Xku (n:Nat) (x:Nat→UInt8):bl (n+1) x=bl n x++[x n]:=by simp [bl,List.range_succ]
theorem Xi4 {w:World} {p q:Option Addr} {l c m d:Nat} {xs ts:List UInt8} (hx:Row w p (xs.map vb)) (hl:l=xs.length) (ht:Row w q (ts.map vb)) (hm:m=ts.length) (hm2:m=256) (hlen:l≤1000) {K:VWP}
    (h:∀ p' c' w',Fr [] w w'→OB w' p' l c' (xs.map fun a=>fl ts a.toNat) w.heap.size→K (.slice p' l c') w'):Xa Tryz.prog XnK #[.slice p l c,.slice q m d] w K:=by
  apply Xin
  unfold Xim
  refine mk0 fun p0 w1 f1 hO1 s1=>?_
  refine LoopS.ind (fun k us w'=>∃ (i:Nat) (p1:Option Addr) (c1:Nat),i+k=l∧us=[.slice p l c,.slice q m d,.slice none 0 0,.slice p1 i c1,.int .i64 (i:Int)]∧Fr [] w w'∧OB w' p1 i c1 ((xs.take i).map fun a=>fl ts a.toNat) w.heap.size) l
    ⟨0,p0,0,by omega,rfl,f1,by simpa using hO1⟩ ?_
  rintro k us r w2 I μ hgo ⟨i,p1,c1,hi,rfl,f2,hO⟩
  refine ⟨_,_,_,_,_,_,_,_,_,_,_,_,_,rfl,Xc (fun h1=>?_) (fun h1=>?_)⟩
  · have hil:i<l:=by omega
    obtain ⟨a,ha,hca⟩:=XD (t:=Xg) (by kernel_rfl) (hx.fr0 f2) (c:=c) hl hil (k:=.i64)
    have hb:=(xs.getD i 0).toNat_lt
    obtain ⟨b,hb',hcb⟩:=XD (t:=Xg) (by kernel_rfl) (ht.fr0 f2) (c:=d) hm (i:=(xs.getD i 0).toNat) (by omega) (k:=.u8)
    refine ⟨a,ha,_,Ld.cell (by kernel_rfl) hca,b,hb',_,Ld.cell (by kernel_rfl) hcb,?_⟩
    refine Xmn hO f2.size (by omega) fun p' c' w3 f3 hO3=>?_
    rw [Xe (by omega) (by omega)]
    refine hgo _ _ _ (k - 1) (by omega) ⟨i+1,p',c',by omega,rfl,hO.news f2 f3 (Nat.le_refl _),?_⟩
    rw [Xlb xs (by omega),List.map_append]
    exact hO3
  · have hil:i=l:=by omega
    subst hil
    rw [List.take_of_length_le (by omega)] at hO
    exact h p1 c1 w2 f2 hO
theorem XeS {w:World} {p q:Option Addr} {l c m d:Nat} {xs ys:List UInt8} (hx:Row w p (xs.map vb)) (hl:l=xs.length) (hy:Row w q (ys.map vb)) (hm:m=ys.length) (hlm:l≤m) (hlen:l≤1000) {K:VWP}
    (h:∀ p' c' w',Fr [] w w'→OB w' p' l c' (bl l (Uf (fl xs) (fl ys))) w.heap.size→K (.slice p' l c') w'):Xa Tryz.prog Xpc #[.slice p l c,.slice q m d] w K:=by
  apply Xj6
  unfold XkT
  refine mk0 fun p0 w1 f1 hO1 s1=>?_
  refine LoopS.ind (fun k us w'=>∃ (i:Nat) (p1:Option Addr) (c1:Nat),i+k=l∧us=[.slice p l c,.slice q m d,.slice none 0 0,.slice p1 i c1,.int .i64 (i:Int)]∧Fr [] w w'∧OB w' p1 i c1 (bl i (Uf (fl xs) (fl ys))) w.heap.size) l
    ⟨0,p0,0,by omega,rfl,f1,hO1⟩ ?_
  rintro k us r w2 I μ hgo ⟨i,p1,c1,hi,rfl,f2,hO⟩
  refine ⟨_,_,_,_,_,_,_,_,_,_,_,_,_,rfl,Xc (fun h1=>?_) (fun h1=>?_)⟩
  · have hil:i<l:=by omega
    obtain ⟨a,ha,hca⟩:=XD (t:=Xg) (by kernel_rfl) (hx.fr0 f2) (c:=c) hl hil (k:=.i64)
    obtain ⟨b,hb,hcb⟩:=XD (t:=Xg) (by kernel_rfl) (hy.fr0 f2) (c:=d) hm (i:=i) (by omega) (k:=.i64)
    refine ⟨fun w'=>w'.cell? a=some (vb (xs.getD i 0)),Drw.intro fun w3 f3 s3=>?_⟩
    refine ⟨a,ha,b,hb,_,⟨f3.cell hca (by simp),fun w' hw'=>Ld.cell (by kernel_rfl) hw'⟩,_,Ld.cell (by kernel_rfl) (f3.cell hcb (by simp)),.inl rfl,?_⟩
    rw [UV]
    have f23:=f2.then f3
    refine Xmn (hO.fr0 f3) f23.size (by omega) fun p' c' w4 f4 hO4=>?_
    rw [Xe (by omega) (by omega)]
    refine hgo _ _ _ (k - 1) (by omega) ⟨i+1,p',c',by omega,rfl,(hO.fr0 f3).news f23 f4 (Nat.le_refl _),?_⟩
    rw [Xku]
    exact hO4
  · have hil:i=l:=by omega
    subst hil
    exact h p1 c1 w2 f2 hO
end Go.Sh
end

section
namespace Go.Sh
open Go Go.Fw Go.Proofs
set_option maxRecDepth 100000
set_option linter.unusedVariables false
theorem ZJ {zs:List UInt8} {i:Nat} {x:UInt8} (h:i<zs.length) (j:Nat):fl (zs.set i x) j=if j=i then x else fl zs j:=by
  unfold fl
  rw [List.getD_eq_getElem?_getD,List.getD_eq_getElem?_getD,List.getElem?_set]
  by_cases hj:j=i
  · subst hj; simp [h]
  · rw [if_neg (Ne.symm hj),if_neg hj]
theorem XcH {zs:List UInt8} {n:Nat} {x:Nat→UInt8} (hl:zs.length=n) (h:∀ j,j<n→fl zs j=x j):zs=bl n x:=by
  rw [XwR hl]; exact Z0 h
theorem Xri {w:World} {p:Option Addr} {l c:Nat} {xs:List UInt8} (hx:Row w p (xs.map vb)) (hl:l=xs.length) (h16:xs.length=16) {m:Nat} (hm:m≤3) {K:VWP}
    (h:∀ p' w',Fr [] w w'→OB w' p' 16 16 (bl 16 (Z5 m (fl xs))) w.heap.size→K (.slice p' 16 16) w'):Xa Tryz.prog XnJ #[.slice p l c,.int .i64 (m:Int)] w K:=by
  apply Xil
  unfold Xik
  refine mkN (n:=16) (c:=16) (k:=.i64) (k':=.i64) (Nat.le_refl _) (by omega) fun p0 w1 f1 hO1 s1=>?_
  refine LoopS.ind (fun k us w'=>∃ (r:Nat) (zs:List UInt8),r+k=4∧us=[.slice p l c,.int .i64 (m:Int),.slice none 0 0,.slice p0 16 16,.int .i64 (r:Int)]∧Fr [] w w'∧OB w' p0 16 16 zs w.heap.size∧∀ j,j<16→j % 4<r→fl zs j=Z5 m (fl xs) j) 4
    ⟨0,_,by omega,rfl,f1,hO1,by omega⟩ ?_
  rintro k us rr w2 I μ hgo ⟨r,zs,hr,rfl,f2,hO2,hz⟩
  refine ⟨_,_,_,_,_,_,_,_,_,_,_,rfl,Xc (fun h1=>?_) (fun h1=>?_)⟩
  · have hr4:r<4:=by omega
    refine LoopS.ind (fun k us w'=>∃ (cc:Nat) (zs:List UInt8),cc+k=4∧us=[.slice p l c,.int .i64 (m:Int),.slice none 0 0,.slice p0 16 16,.int .i64 (r:Int),.int .i64 (cc:Int)]∧Fr [] w w'∧OB w' p0 16 16 zs w.heap.size∧∀ j,j<16→(j % 4<r∨(j % 4=r∧j / 4<cc))→fl zs j=Z5 m (fl xs) j) 4
      ⟨0,zs,by omega,rfl,f2,hO2,fun j hj h=>hz j hj (by omega)⟩ ?_
    rintro k2 us2 rr2 w3 I2 μ2 hgo2 ⟨cc,zs2,hc,rfl,f3,hO3,hz3⟩
    refine ⟨_,_,_,_,_,_,_,_,_,_,_,_,rfl,Xc (fun h2=>?_) (fun h2=>?_)⟩
    · have hc4:cc<4:=by omega
      have hmr:m*r≤3*3:=Nat.mul_le_mul hm (by omega)
      have e1:IntKind.i64.wrap ((m:Int)*(r:Int))=((m*r:Nat):Int):=by rw [← Int.natCast_mul]; exact Xe (by omega) (by omega)
      have e2:IntKind.i64.wrap ((cc:Int)+((m*r:Nat):Int))=((cc+m*r:Nat):Int):=by rw [← Int.natCast_add]; exact Xe (by omega) (by omega)
      rw [e1,e2]
      refine Xrh hr4 (by omega) ⟨_,rfl,Xrh hr4 (by omega) ⟨_,rfl,?_⟩⟩
      have hlt:4*((cc+m*r) % 4)+r<16:=by omega
      obtain ⟨a,ha,hca⟩:=XD (t:=Xg) (by kernel_rfl) (hx.fr0 f3) (c:=c) hl (i:=4*((cc+m*r) % 4)+r) (by omega) (k:=.i64)
      refine ⟨a,ha,_,Ld.cell (by kernel_rfl) hca,?_⟩
      have hzl:=hO3.2.1
      refine hO3.sto (by omega) fun w4 f4 hO4 s4=>?_
      rw [Xe (by omega) (by omega)]
      refine hgo2 _ _ _ (k2 - 1) (by omega) ⟨cc+1,_,by omega,rfl,hO3.news f3 f4 (Nat.le_refl _),hO4,fun j hj hjc=>?_⟩
      rw [ZJ (by omega)]
      by_cases hji:j=4*(cc % 4)+r
      · rw [if_pos hji]
        show fl xs _=fl xs _
        have:4*m*(j % 4)=4*(m*r):=by rw [show j % 4=r by omega,Nat.mul_assoc]
        rw [this]
        congr 1; omega
      · rw [if_neg hji]
        exact hz3 j hj (by omega)
    · have hc4:cc=4:=by omega
      subst hc4
      rw [Xe (by omega) (by omega)]
      exact hgo _ _ _ (k - 1) (by omega) ⟨r+1,zs2,by omega,rfl,f3,hO3,fun j hj hjr=>hz3 j hj (by omega)⟩
  · have hr4:r=4:=by omega
    subst hr4
    rw [XcH (zs:=zs) hO2.2.1.symm (fun j hj=>hz j hj (by omega))] at hO2
    exact h p0 w2 f2 hO2
def XtX (f x:Nat→UInt8) (c r:Nat):Nat→UInt8
  | 0=>0
  | k+1=>XtX f x c r k ^^^ Xl (f ((k+4 - r) % 4)) (x (4*c+k))
theorem Xu6 (f x:Nat→UInt8) {j:Nat} (hj:j<16):XtX f x (j / 4) (j % 4) 4=ZI (gF f) x j:=XsC f x hj
theorem Xl5 {w:World} {p:Option Addr} {l c:Nat} {xs:List UInt8} (hx:Row w p (xs.map vb)) (hl:l=xs.length) (h16:xs.length=16) {f:Nat→UInt8} {K:VWP}
    (h:∀ p' w',Fr [] w w'→OB w' p' 16 16 (bl 16 (ZI (gF f) (fl xs))) w.heap.size→K (.slice p' 16 16) w'):Xa Tryz.prog Xh0 #[.slice p l c,.agg ⟨Xy 4 f⟩] w K:=by
  apply Xek
  unfold XcY
  refine Xoq fun w0 ff f0 hF hf s0=>?_
  refine mkN (n:=16) (c:=16) (k:=.i64) (k':=.i64) (Nat.le_refl _) (by omega) fun p0 w1 f1 hO1 s1=>?_
  have n0:=f0.size
  have hx0:=hx.fr0 f0
  refine LoopS.ind (fun k us w'=>∃ (cc:Nat) (zs:List UInt8),cc+k=4∧us=[.slice p l c,.pointer (some ⟨w.heap.size,0,none⟩),.slice none 0 0,.slice p0 16 16,.int .i64 (cc:Int)]∧Fr [] w0 w'∧OB w' p0 16 16 zs w0.heap.size∧∀ j,j<16→j / 4<cc→fl zs j=ZI (gF f) (fl xs) j) 4
    ⟨0,_,by omega,rfl,f1,hO1,by omega⟩ ?_
  rintro k us rr w2 I μ hgo ⟨cc,zs,hc,rfl,f2,hO2,hz⟩
  refine ⟨_,_,_,_,_,_,_,_,_,_,_,rfl,Xc (fun h1=>?_) (fun h1=>?_)⟩
  · have hc4:cc<4:=by omega
    refine LoopS.ind (fun k us w'=>∃ (r:Nat) (zs:List UInt8),r+k=4∧us=[.slice p l c,.pointer (some ⟨w.heap.size,0,none⟩),.slice none 0 0,.slice p0 16 16,.int .i64 (cc:Int),.int .i64 (r:Int)]∧Fr [] w0 w'∧OB w' p0 16 16 zs w0.heap.size∧∀ j,j<16→(j / 4<cc∨(j / 4=cc∧j % 4<r))→fl zs j=ZI (gF f) (fl xs) j) 4
      ⟨0,zs,by omega,rfl,f2,hO2,fun j hj h=>hz j hj (by omega)⟩ ?_
    rintro k2 us2 rr2 w3 I2 μ2 hgo2 ⟨r,zs2,hr,rfl,f3,hO3,hz3⟩
    refine ⟨_,_,_,_,_,_,_,_,_,_,_,_,rfl,Xc (fun h2=>?_) (fun h2=>?_)⟩
    · have hr4:r<4:=by omega
      refine LoopS.ind (fun k us w'=>∃ i:Nat,i+k=4∧us=[.slice p l c,.pointer (some ⟨w.heap.size,0,none⟩),.slice none 0 0,.slice p0 16 16,.int .i64 (cc:Int),.int .i64 (r:Int),vb (XtX f (fl xs) cc r i),.int .i64 (i:Int)]∧Fr [] w3 w') 4
        ⟨0,by omega,rfl,Fr.refl _ _⟩ ?_
      rintro k3 us3 rr3 w4 I3 μ3 hgo3 ⟨i,hi,rfl,f4⟩
      refine ⟨_,_,_,_,_,_,_,_,_,_,_,_,_,_,rfl,Xc (fun h3=>?_) (fun h3=>?_)⟩
      · have hi4:i<4:=by omega
        have e1:IntKind.i64.wrap (IntKind.i64.wrap ((i:Int)+4) - (r:Int))=((i+4 - r:Nat):Int):=by
          rw [Xe (n:=(i:Int)+4) (by omega) (by omega),Xe (by omega) (by omega)]; omega
        have e2:Int.tmod ((i+4 - r:Nat):Int) 4=(((i+4 - r) % 4:Nat):Int):=rfl
        rw [e1,e2]
        have hm4:(i+4 - r) % 4<4:=Nat.mod_lt _ (by omega)
        have fv:ff ((i+4 - r) % 4)=vb (f ((i+4 - r) % 4)):=by have:=hf _ hm4; rwa [Nat.zero_add] at this
        refine ⟨fun w'=>w'.cell? ⟨w.heap.size,(i+4 - r) % 4,none⟩=some (vb (f ((i+4 - r) % 4))),Drw.intro fun w5 f5 s5=>?_⟩
        have f05:=(f3.then f4).then f5
        have hF5:=hF.fr0 f05
        have hc5:w5.cell? ⟨w.heap.size,(i+4 - r) % 4,none⟩=some (vb (f ((i+4 - r) % 4))):=by rw [hF5.cell hm4,fv]
        refine ⟨_,YM (n:=4) (by kernel_rfl) (by omega) (by omega),_,⟨hc5,fun w' hw'=>Ld.cell (by kernel_rfl) (by rw [Int.toNat_natCast,Nat.zero_add]; exact hw')⟩,?_⟩
        refine Xrh hi4 (by omega) ⟨_,rfl,.inl rfl,?_⟩
        rw [show 4*(cc % 4)+i=4*cc+i by omega]
        obtain ⟨a,ha,hca⟩:=XD (t:=Xg) (by kernel_rfl) (hx0.fr0 f05) (c:=c) hl (i:=4*cc+i) (by omega) (k:=.i64)
        refine ⟨a,ha,_,Ld.cell (by kernel_rfl) hca,.inl rfl,?_⟩
        refine Xhc _ _ _ _ ⟨_,rfl,?_⟩
        rw [UV,Xe (by omega) (by omega)]
        exact hgo3 _ _ _ (k3 - 1) (by omega) ⟨i+1,by omega,rfl,f4.then f5⟩
      · have hi4:i=4:=by omega
        subst hi4
        unfold QE
        refine Xrh hr4 (by omega) ⟨_,rfl,?_⟩
        have hO4:=hO3.fr0 f4
        have hzl:=hO4.2.1
        refine hO4.sto (by omega) fun w5 f5 hO5 s5=>?_
        rw [Xe (by omega) (by omega)]
        refine hgo2 _ _ _ (k2 - 1) (by omega) ⟨r+1,_,by omega,rfl,hO4.news (f3.then f4) f5 (Nat.le_refl _),hO5,fun j hj hjc=>?_⟩
        rw [ZJ (by omega)]
        by_cases hji:j=4*(cc % 4)+r
        · rw [if_pos hji,← Xu6 f _ hj,show j / 4=cc by omega,show j % 4=r by omega]
        · rw [if_neg hji]
          exact hz3 j hj (by omega)
    · have hr4:r=4:=by omega
      subst hr4
      rw [Xe (by omega) (by omega)]
      exact hgo _ _ _ (k - 1) (by omega) ⟨cc+1,zs2,by omega,rfl,f3,hO3,fun j hj hjr=>hz3 j hj (by omega)⟩
  · have hc4:cc=4:=by omega
    subst hc4
    rw [XcH (zs:=zs) hO2.2.1.symm (fun j hj=>hz j hj (by omega))] at hO2
    exact h p0 w2 (f0.then f2) (hO2.mono n0)
end Go.Sh
end

section
namespace Go.Sh
open Go Go.Fw Go.Proofs
set_option maxRecDepth 100000
set_option linter.unusedVariables false
theorem Xv8 (a b:Nat) (ha:a<18446744073709551616) (hb:b<18446744073709551616):ior .u64 (a:Int) (b:Int)=((a ||| b:Nat):Int):=by
  have e1:(UInt64.ofNat a).toNat=a:=by simp; omega
  have e2:(UInt64.ofNat b).toNat=b:=by simp; omega
  have:=XvI (UInt64.ofNat a) (UInt64.ofNat b)
  rw [UInt64.toNat_or,e1,e2] at this
  exact this
theorem Xv9 {a b:Nat} (hb:b<256):(a*256) ||| b=a*256+b:=by
  have:=Nat.shiftLeft_add_eq_or_of_lt (i:=8) (b:=b) (by omega) a
  rw [Nat.shiftLeft_eq] at this
  exact this.symm
theorem XeT (xs:List UInt8) {i:Nat} (h:i<xs.length):Xp (xs.take (i+1))=Xp (xs.take i)*256+(fl xs i).toNat:=by
  rw [Xlb xs h,XaD]
theorem Xmo {w:World} {p:Option Addr} {l c:Nat} {xs:List UInt8} (hx:Row w p (xs.map vb)) (hl:l=xs.length) (h8:l≤8) {K:VWP} (h:K (.tuple #[.int .u64 (Xp xs:Int),.int .i64 0]) w):Xa Tryz.prog Xo9 #[.slice p l c] w K:=by
  apply Xj4
  unfold XkS
  refine Xc (fun h1=>by omega) fun _=>?_
  refine LoopS.ind (fun k us w'=>w'=w∧∃ i:Nat,i+k=l∧us=[.int .u64 0,.int .i64 0,.int .u64 (Xp (xs.take i):Int),.slice p l c,.int .i64 (l:Int),.int .i64 (i:Int)]) l ⟨rfl,0,by omega,rfl⟩ ?_
  rintro k us r w1 I μ hgo ⟨rfl,i,hi,rfl⟩
  refine ⟨_,_,_,_,_,_,_,_,rfl,Xc (fun h1=>?_) (fun h1=>?_)⟩
  · have hil:i<l:=by omega
    obtain ⟨a,ha,hca⟩:=XD (t:=Xg) (by kernel_rfl) hx (c:=c) hl hil (k:=.i64)
    refine ⟨a,ha,_,Ld.cell (by kernel_rfl) hca,?_⟩
    have hb:=(xs.getD i 0).toNat_lt
    have h1:=Ji (xs.take i)
    have h2:(xs.take i).length≤7:=by rw [List.length_take]; omega
    have h3:256 ^ (xs.take i).length≤256 ^ 7:=Nat.pow_le_pow_right (by omega) h2
    have h4:Xp (xs.take i)<72057594037927936:=Nat.lt_of_lt_of_le h1 h3
    have e1:IntKind.u64.wrap ((Xp (xs.take i):Int)*2 ^ 8)=((Xp (xs.take i)*256:Nat):Int):=by
      have:((Xp (xs.take i):Int)*2 ^ 8)=((Xp (xs.take i)*256:Nat):Int):=by omega
      rw [this]; exact XC (by omega) (by omega)
    rw [e1,XC (n:=((xs.getD i 0).toNat:Int)) (by omega) (by omega),Xv8 _ _ (by omega) (by omega),Xv9 hb,Xe (by omega) (by omega)]
    refine hgo _ _ _ (k - 1) (by omega) ⟨rfl,i+1,by omega,?_⟩
    rw [XeT xs (by omega)]; rfl
  · have hil:i=l:=by omega
    subst hil
    rw [List.take_of_length_le (by omega)]
    exact h
theorem XtY {P:Program} {t:TypeId} {x y:Operand} {n s:Nat} (hn:n<18446744073709551616) (hs:s<64):Pu P (do eqGuard .shr t x y (.int .u64 (n:Int)) (.int .i64 (s:Int)); binOp .shr t (.int .u64 (n:Int)) (.int .i64 (s:Int)):Sem Value) (.int .u64 ((n / 2 ^ s:Nat):Int)):=by
  have h:=Pu.shr (P:=P) (t:=t) (x:=x) (y:=y) (k:=.u64) (k':=.i64) (a:=(n:Int)) (s:=(s:Int)) (by omega)
  have e:(n:Int).fdiv (2 ^ min ((s:Int)).toNat IntKind.u64.bits)=((n / 2 ^ s:Nat):Int):=by
    have e1:min ((s:Int)).toNat IntKind.u64.bits=s:=by simp [IntKind.bits]; omega
    have e2:((2:Int) ^ s)=((2 ^ s:Nat):Int):=by simp
    rw [e1,e2,VJ]
  rw [e] at h
  exact h
theorem XsD (k:Nat):2 ^ (8*k)=256 ^ k:=by rw [Nat.pow_mul]
theorem Xi5 {w:World} {n size:Nat} (h8:size≤8) (hn:n<256 ^ size) {K:VWP} (h:∀ q d w',Fr [] w w'→OB w' q size d (X6 n size) w.heap.size→K (.tuple #[.slice q size d,.int .i64 0]) w') :
    Xa Tryz.prog Xo6 #[.int .u64 (n:Int),.int .i64 (size:Int)] w K:=by
  apply Xj1
  unfold XkQ
  have hn64:n<18446744073709551616:=by
    have:256 ^ size≤256 ^ 8:=Nat.pow_le_pow_right (by omega) h8
    omega
  have fin:Vn (n:Int) (size:Int) none 0 0 0 w K:=by
    unfold Vn
    refine mkN (n:=0) (c:=size) (k:=.i64) (k':=.i64) (Nat.zero_le _) (by omega) fun q w1 f1 hO1 s1=>?_
    rw [Xe (n:=(size:Int) - 1) (by omega) (by omega)]
    refine LoopS.ind (fun k us w'=>∃ (i:Nat) (q:Option Addr) (d:Nat),i+k=size∧us=[.int .u64 (n:Int),.slice none 0 0,.int .i64 0,.slice q i d,.int .i64 ((size:Int) - 1 - (i:Int))]∧Fr [] w w'∧OB w' q i d (bl i (fun t=>UInt8.ofNat (n / 256 ^ (size - 1 - t)))) w.heap.size) size
      ⟨0,q,size,by omega,by simp,f1,hO1⟩ ?_
    rintro k us r w2 I μ hgo ⟨i,q,d,hi,rfl,f2,hO2⟩
    refine ⟨_,_,_,_,_,_,_,_,_,rfl,Xc (fun h1=>?_) (fun h1=>?_)⟩
    · have hil:i<size:=by omega
      have e1:IntKind.i64.wrap (8*((size:Int) - 1 - (i:Int)))=((8*(size - 1 - i):Nat):Int):=by rw [Xe (by omega) (by omega)]; omega
      rw [e1]
      refine ⟨_,XtY hn64 (by omega),?_⟩
      rw [XsD]
      have e2:IntKind.u8.wrap ((n / 256 ^ (size - 1 - i):Nat):Int)=((UInt8.ofNat (n / 256 ^ (size - 1 - i))).toNat:Int):=by rw [IntKind.wrap_u8]; simp
      rw [e2]
      refine Xmn hO2 f2.size (by omega) fun p' c' w3 f3 hO3=>?_
      rw [Xe (n:=(size:Int) - 1 - (i:Int) - 1) (by omega) (by omega)]
      refine hgo _ _ _ (k - 1) (by omega) ⟨i+1,p',c',by omega,?_,hO2.news f2 f3 (Nat.le_refl _),?_⟩
      · have:(size:Int) - 1 - (i:Int) - 1=(size:Int) - 1 - ((i+1:Nat):Int):=by omega
        rw [this]
      · rw [Xku]; exact hO3
    · have hil:i=size:=by omega
      subst hil
      exact h q d w2 f2 hO2
  refine Xc (fun h1=>by omega) fun _=>Xc (fun h1=>by omega) fun _=>Xc (fun h1=>?_) fun _=>fin
  rw [Xe (n:=8*(size:Int)) (by omega) (by omega)]
  have e:(8*(size:Int))=((8*size:Nat):Int):=by omega
  rw [e]
  refine ⟨_,XtY hn64 (by omega),?_⟩
  rw [XsD,Nat.div_eq_of_lt hn]
  exact Xz fin
theorem XuA {w:World} {p q:Option Addr} {l c m d:Nat} {xs ys:List UInt8} (hx:Row w p (xs.map vb)) (hl:l=xs.length) (hy:Row w q (ys.map vb)) (hm:m=ys.length) (hlm:xs.length=ys.length) (hlen:l≤1000000000) {K:VWP}
    (h:∀ p' c' w',Fr [] w w'→OB w' p' l c' (QN xs ys) w.heap.size→K (.tuple #[.slice p' l c',.int .i64 0]) w'):Xa Tryz.prog Xo8 #[.slice p l c,.slice q m d] w K:=by
  apply Xj2
  unfold XkR
  refine XF (fun h1=>by omega) fun _=>?_
  refine mkN (n:=l) (c:=l) (k:=.i64) (k':=.i64) (Nat.le_refl _) (by omega) fun p0 w1 f1 hO1 s1=>?_
  refine LoopS.ind (fun k us w'=>∃ (i:Nat) (zs:List UInt8),i+k=l∧us=[.slice p l c,.slice q m d,.slice none 0 0,.int .i64 0,.slice p0 l l,.int .i64 (l:Int),.int .i64 (i:Int)]∧Fr [] w w'∧OB w' p0 l l zs w.heap.size∧∀ j,j<i→fl zs j=fl xs j ^^^ fl ys j) l
    ⟨0,_,by omega,rfl,f1,hO1,by omega⟩ ?_
  rintro k us r w2 I μ hgo ⟨i,zs,hi,rfl,f2,hO2,hz⟩
  refine ⟨_,_,_,_,_,_,_,_,_,_,_,_,_,_,_,rfl,Xc (fun h1=>?_) (fun h1=>?_)⟩
  · have hil:i<l:=by omega
    obtain ⟨a,ha,hca⟩:=XD (t:=Xg) (by kernel_rfl) (hx.fr0 f2) (c:=c) hl hil (k:=.i64)
    obtain ⟨b,hb,hcb⟩:=XD (t:=Xg) (by kernel_rfl) (hy.fr0 f2) (c:=d) hm (i:=i) (by omega) (k:=.i64)
    refine ⟨fun w'=>w'.cell? a=some (vb (xs.getD i 0)),Drw.intro fun w3 f3 s3=>?_⟩
    refine ⟨a,ha,b,hb,_,⟨f3.cell hca (by simp),fun w' hw'=>Ld.cell (by kernel_rfl) hw'⟩,_,Ld.cell (by kernel_rfl) (f3.cell hcb (by simp)),.inl rfl,?_⟩
    rw [UV]
    have hzl:=hO2.2.1
    refine (hO2.fr0 f3).sto hil fun w4 f4 hO4 s4=>?_
    rw [Xe (by omega) (by omega)]
    refine hgo _ _ _ (k - 1) (by omega) ⟨i+1,_,by omega,rfl,(hO2.fr0 f3).news (f2.then f3) f4 (Nat.le_refl _),hO4,fun j hj=>?_⟩
    rw [ZJ (by omega)]
    by_cases hji:j=i
    · subst hji; rw [if_pos rfl]; rfl
    · rw [if_neg hji]; exact hz j (by omega)
  · have hil:i=l:=by omega
    subst hil
    have e:zs=QN xs ys:=X3 (by rw [Yy hlm,← hO2.2.1]; omega) fun j hj=>by
      rw [Wu hlm (by have:=hO2.2.1; omega)]
      exact hz j (by have:=hO2.2.1; omega)
    rw [e] at hO2
    exact h p0 i w2 f2 hO2
end Go.Sh
end

section
namespace Go.Sh
open Go Go.Fw Go.Proofs
set_option maxRecDepth 100000
set_option linter.unusedVariables false
theorem mk1 {w:World} {x:UInt8} {K:Option Addr→Nat→Nat→World→Prop} (h:∀ p w',Fr [] w w'→OB w' p 1 1 [x] w.heap.size→w'.heap.size=w.heap.size+1→K p 1 1 w'):∃ p l c w',Ef Tryz.prog (Instr.buildSlice Xg 1 #[(0,.int .u8 (x.toNat:Int))]) w (.slice p l c) w'∧K p l c w':=
  ⟨_,_,_,Ef.new (v:=.slice (some ⟨w.heap.size,0,none⟩) 1 1) (cs:=([vb x]:List Value).toArray) (e:=Jf) (by kernel_rfl) fun w' f hB s=>h _ w' f ⟨hB.own,rfl,by simp [Xb]⟩ s⟩
theorem Xqb {w:World} {K:VWP} (h:∀ p w',Fr [] w w'→OB w' p 256 256 tblL w.heap.size→K (.slice p 256 256) w'):Xa Tryz.prog XlC #[] w K:=by
  apply XgY
  unfold Xf8
  obtain ⟨P,hP⟩:∃ P,P=XM 3:=⟨_,rfl⟩
  have hP0:P 0=1:=by rw [hP]; rfl
  have hPs:∀ k,P (k+1)=Xl (P k) 3:=fun k=>by rw [hP]; rfl
  refine mk1 (x:=1) fun p1 w1 f1 hO1 s1=>?_
  refine LoopS.ind (fun k us w'=>∃ (i:Nat) (q:Option Addr) (cq:Nat),1≤i∧i+k=255∧us=[.slice none 0 0,.slice q i cq,.int .i64 (i:Int)]∧Fr [] w w'∧OB w' q i cq (bl i P) w.heap.size) 254
    ⟨1,p1,1,by omega,by omega,rfl,f1,by rw [show bl 1 P=[1] by simp [bl,hP0]]; exact hO1⟩ ?_
  rintro k us rr w2 I μ hgo ⟨i,q,cq,hi1,hi,rfl,f2,hO2⟩
  refine ⟨_,_,_,_,_,_,_,rfl,Xc (fun h1=>?_) (fun h1=>?_)⟩
  · have hi255:i<255:=by omega
    have e1:IntKind.i64.wrap ((i:Int) - 1)=((i - 1:Nat):Int):=by rw [Xe (by omega) (by omega)]; omega
    rw [e1]
    obtain ⟨a,ha,hca⟩:=hO2.get (k:=.i64) (i:=i - 1) (by omega)
    rw [V4 i P _ (by omega)] at hca
    refine ⟨a,ha,_,Ld.cell (by kernel_rfl) hca,?_⟩
    refine Xhc (P (i - 1)) 3 _ _ ?_
    rw [← hPs,show i - 1+1=i by omega]
    refine ⟨_,rfl,?_⟩
    refine Xmn hO2 f2.size (by omega) fun p' c' w3 f3 hO3=>?_
    rw [Xe (by omega) (by omega)]
    refine hgo _ _ _ (k - 1) (by omega) ⟨i+1,p',c',by omega,by omega,rfl,hO2.news f2 f3 (Nat.le_refl _),?_⟩
    rw [Xku]
    exact hO3
  · have hi255:i=255:=by omega
    subst hi255
    unfold Xbz
    refine mkN (n:=256) (c:=256) (k:=.i64) (k':=.i64) (Nat.le_refl _) (by omega) fun p3 w3 f3 hO3 s3=>?_
    refine Xk6 0 _ _ ?_
    have e0:XaC 0=XE 0:=by have:=Xop 0; rwa [Xsw] at this
    obtain ⟨s0,hs0⟩:∃ s,s=XE 0:=⟨_,rfl⟩
    rw [e0,← hs0]
    refine ⟨_,rfl,?_⟩
    have n2:=f2.size
    have hzl:=hO3.2.1
    refine hO3.sto (i:=0) (by omega) fun w4 f4 hO4 s4=>?_
    have f24:Fr [] w2 w4:=hO3.news f3 f4 (Nat.le_refl _)
    refine LoopS.ind (fun k us w'=>∃ (i:Nat) (zs:List UInt8),i+k=255∧us=[.slice none 0 0,.slice q 255 cq,.slice p3 256 256,.int .i64 (i:Int)]∧Fr [] w2 w'∧OB w' p3 256 256 zs w2.heap.size∧fl zs 0=s0∧∀ j,j<i→fl zs (P j).toNat=XE (P j)) 255
      ⟨0,_,by omega,rfl,f24,hO4,by rw [ZJ (by omega)]; rfl,by omega⟩ ?_
    rintro k us rr w5 I2 μ2 hgo2 ⟨i,zs,hi,rfl,f5,hO5,hz0,hz⟩
    refine ⟨_,_,_,_,_,_,_,_,_,_,rfl,Xc (fun h1=>?_) (fun h1=>?_)⟩
    · have hi255:i<255:=by omega
      have e1:Int.tmod (IntKind.i64.wrap (255 - (i:Int))) 255=(((255 - i) % 255:Nat):Int):=by
        rw [Xe (by omega) (by omega),show (255:Int) - (i:Int)=((255 - i:Nat):Int) by omega]; rfl
      rw [e1]
      have hm:(255 - i) % 255<255:=Nat.mod_lt _ (by omega)
      have hO25:=hO2.fr0 f5
      obtain ⟨a,ha,hca⟩:=hO25.get (k:=.i64) (i:=i) (by omega)
      obtain ⟨b,hb,hcb⟩:=hO25.get (k:=.i64) (i:=(255 - i) % 255) hm
      rw [V4 255 P _ hi255] at hca
      rw [V4 255 P _ hm] at hcb
      refine ⟨fun w'=>w'.cell? a=some (vb (P i)),Drw.intro fun w6 f6 s6=>?_⟩
      refine ⟨a,ha,b,hb,_,⟨f6.cell hca (by simp),fun w' hw'=>Ld.cell (by kernel_rfl) hw'⟩,_,Ld.cell (by kernel_rfl) (f6.cell hcb (by simp)),.inl rfl,?_⟩
      refine Xk6 _ _ _ ?_
      have e2:XaC (P ((255 - i) % 255))=XE (P i):=by
        rw [← Xop (P i),hP,XtT i hi255]
      obtain ⟨s,hs⟩:∃ s,s=XE (P i):=⟨_,rfl⟩
      rw [e2,← hs]
      have hpl:=(P i).toNat_lt
      have hzl:=hO5.2.1
      refine ⟨_,rfl,.inl rfl,?_⟩
      refine (hO5.fr0 f6).sto (by omega) fun w7 f7 hO7 s7=>?_
      rw [Xe (by omega) (by omega)]
      refine hgo2 _ _ _ (k - 1) (by omega) ⟨i+1,_,by omega,rfl,(hO5.fr0 f6).news (f5.then f6) f7 (Nat.le_refl _),hO7,?_,fun j hj=>?_⟩
      · rw [ZJ (by omega),if_neg ?_]
        · exact hz0
        · intro h0
          apply XtS i
          rw [← hP]
          exact UInt8.toNat_inj.1 h0.symm
      · rw [ZJ (by omega)]
        by_cases hji:(P j).toNat=(P i).toNat
        · rw [if_pos hji,hs,UInt8.toNat_inj.1 hji]
        · rw [if_neg hji]
          by_cases hj2:j=i
          · exact absurd (by rw [hj2]) hji
          · exact hz j (by omega)
    · have hi255:i=255:=by omega
      subst hi255
      have e:zs=tblL:=XcH hO5.2.1.symm fun j hj=>by
        have ej:(UInt8.ofNat j).toNat=j:=by simp; omega
        unfold XtR
        by_cases h0:UInt8.ofNat j=0
        · have hj0:j=0:=by rw [← ej,h0]; rfl
          subst hj0
          rw [hz0,hs0]; rfl
        · obtain ⟨n,hn,hnp⟩:=Xu4 _ h0
          have:=hz n hn
          rw [hP,hnp,ej] at this
          exact this
      rw [e] at hO5
      exact h p3 w5 (f2.then f5) (hO5.mono n2)
end Go.Sh
end

section
namespace Go.Sh
open Go Go.Fw Go.Proofs
set_option maxRecDepth 100000
set_option linter.unusedVariables false
theorem XtZ {n:Nat} {x:Nat→UInt8} {i:Nat} (h:i<n) {k:Int} (hk:k=(i:Int)):(Xy n x)[k.toNat]?=some (vb (x i)):=by subst hk; rw [Int.toNat_natCast]; exact Wt h
def grewF (F F':List Nat) (w w':World):Prop:=(∀ k∈F,k∈F')∧∀ k∈F',k∈F∨(w.heap.size≤k∧k<w'.heap.size)
theorem grewF.refl (F:List Nat) (w w':World):grewF F F w w':=⟨fun _ h=>h,fun _ h=>.inl h⟩
theorem grewF.trans {F F' F'':List Nat} {a b c:World} (h:grewF F F' a b) (k:grewF F' F'' b c) (h1:a.heap.size≤b.heap.size) (h2:b.heap.size≤c.heap.size):grewF F F'' a c:=by
  refine ⟨fun x hx=>k.1 x (h.1 x hx),fun x hx=>?_⟩
  rcases k.2 x hx with hx | hx
  · rcases h.2 x hx with hx | hx
    · exact .inl hx
    · exact .inr ⟨hx.1,by omega⟩
  · exact .inr ⟨by omega,hx.2⟩
theorem Xrj {w:World} {c t:Nat} {f:Nat→Value} {F:List Nat} {m:Bool} {x:Nat→UInt8} {r:Nat} (hC:Blk w c 178 f) (h0:f 0=.pointer (some ⟨t,0,none⟩)) (hT:TabF w t [2,3,9,11,13,14] F m) (hcF:c∉F) (hFw:∀ k∈F,k<w.heap.size) (hr1:1≤r) (hr2:r≤20)
    {K:VWP} (h:∀ w' F',Fr [t] w w'→TabF w' t [2,3,9,11,13,14] F' true→grewF F F' w w'→K (.agg ⟨Xy 4 (Yu x r)⟩) w'):Xa Tryz.prog Xdh #[.pointer (some ⟨c,0,none⟩),.agg ⟨Xy 4 x⟩,.int .i64 (r:Int)] w K:=by
  apply XaR
  unfold WP
  have htw:=hT.lt
  have hcw:=hC.lt
  refine Xoq fun w1 fx f1 hX hx s1=>?_
  refine ZL (s:=4) (by kernel_rfl) fun w2 fz f2 hZ s2=>?_
  have hX2:=hX.fr0 f2
  have g:∀ i,i<4→fx i=vb (x i):=fun i hi=>by have:=hx i hi; rwa [Nat.zero_add] at this
  refine ⟨_,YM (n:=4) (by kernel_rfl) (by omega) (by omega),_,Ld.blk (by kernel_rfl) hX2 (by show 0+1<4; omega) (g 1 (by omega)),_,YM (n:=4) (by kernel_rfl) (by omega) (by omega),_,Ld.blk (by kernel_rfl) hX2 (by show 0+2<4; omega) (g 2 (by omega)),
    _,YM (n:=4) (by kernel_rfl) (by omega) (by omega),_,Ld.blk (by kernel_rfl) hX2 (by show 0+3<4; omega) (g 3 (by omega)),_,YM (n:=4) (by kernel_rfl) (by omega) (by omega),_,Ld.blk (by kernel_rfl) hX2 (by show 0+0<4; omega) (g 0 (by omega)),?_⟩
  refine ZL (s:=4) (by kernel_rfl) fun w3 fo f3 hO s3=>?_
  obtain ⟨y,hy⟩:∃ y:Nat→UInt8,y=fun j=>x ((j+1) % 4):=⟨_,rfl⟩
  have ey:(#[vb (x 1),vb (x 2),vb (x 3),vb (x 0)]:Array Value)=⟨Xy 4 y⟩:=by rw [hy]; rfl
  rw [ey]
  refine Sto.agg (by kernel_rfl) (Xr 4 _) hO (Nat.le_refl 4) YD fun w4 f4 hO4 s4=>?_
  refine ⟨_,LdA (m:=4) (by kernel_rfl) (by kernel_rfl) hO4 (Nat.le_refl 4) (Xy 4 y) (Xr _ _) BAt.updN.ld,?_⟩
  have fn:Fr [] w w4:=((f1.then f2).then f3).trans f4 (fun z hz=>.inr (by simp at hz; have:=f1.size; have:=f2.size; omega))
  have n1:=f1.size; have n2:=f2.size; have n3:=f3.size; have n4:=fn.size
  have hZ4:=(hZ.fr0 f3).fr f4 (by simp; omega)
  refine LoopS.ind (fun k us w' => ∃ i : Nat, i + k = 4 ∧ us = [.pointer (some ⟨c, 0, none⟩), .int .i64 (r : Int), .pointer (some ⟨w1.heap.size, 0, none⟩), .pointer (some ⟨w2.heap.size, 0, none⟩), .agg ⟨Xy 4 y⟩, .int .i64 (i : Int)] ∧ Fr [t, w2.heap.size] w4 w' ∧
      ∃ m' F',TabF w' t [2,3,9,11,13,14] F' m'∧grewF F F' w4 w'∧(0<i→m'=true)∧∃ fo,Blk w' w2.heap.size 4 fo∧BAt fo 0 4 (fun j=>if j<i then XE (y j) else y j)) 4
    ⟨0,rfl,rfl,Fr.refl _ _,m,F,hT.fr0 fn,grewF.refl _ _ _,by omega,_,hO4,by simpa using BAt.updN⟩ ?_
  rintro k us rr w5 I μ hgo ⟨i,hi,rfl,f5,m',F',hT5,gF5,hm5,fo5,hO5,ho5⟩
  have nFx:∀ z,w.heap.size≤z→z<w4.heap.size→z∉F':=fun z h1 h2 hk=>by rcases gF5.2 _ hk with hk | hk; have:=hFw _ hk; omega; omega
  have ntw:t≠w2.heap.size:=by have:=htw.1; omega
  have ncw:c≠w2.heap.size:=by omega
  have nct:c≠t:=fun h=>hcF (h ▸ htw.2)
  have hC5:Blk w5 c 178 f:=(hC.fr0 fn).fr f5 (by simp; omega)
  refine ⟨_,_,_,_,_,_,rfl,Xc (fun h1=>?_) (fun h1=>?_)⟩
  · have hi4:i<4:=by omega
    refine ⟨_,XvO (n:=4) (by kernel_rfl) (by omega) (by omega) (XtZ hi4 rfl),_,rfl,?_⟩
    rw [Xi]
    refine ⟨_,Ld.blk (by kernel_rfl) hC5 (by omega) h0,?_⟩
    refine Xsz hT5 (y i) fun w6 F6 f6 hT6 g1 g2 g3=>⟨_,rfl,_,YM (n:=4) (by kernel_rfl) (by omega) (by omega),?_⟩
    rw [Int.toNat_natCast,Nat.zero_add]
    have nF6:w2.heap.size∉F6:=fun hk=>by rcases g2 _ hk with hk | hk; exact nFx _ (by omega) (by omega) hk; have:=f5.size; omega
    refine Sto.blk (by kernel_rfl) (hO5.fr f6 (by simp; omega)) hi4 rfl rfl fun w7 f7 hO7 s7=>?_
    have hs6:=f6.size
    have hT7:=hT6.fr f7 (by simp; exact nF6)
    refine hgo _ _ _ (k - 1) (by omega) ⟨i+1,by omega,by rw [Xe (by omega) (by omega)]; rfl,(f5.trans f6 (fun z hz=>.inl (by simp at hz; simp [hz]))).trans f7 (fun z hz=>.inl (by simp at hz; simp [hz])),true,F6,hT7,gF5.trans ⟨g1,fun z hz=>?_⟩ f5.size (by omega),fun _=>rfl,_,hO7,fun j hj=>?_⟩
    · rcases g2 z hz with hz | hz
      · exact .inl hz
      · exact .inr ⟨hz.1,by omega⟩
    · rw [Nat.zero_add]
      show _=vb (if j<i+1 then XE (y j) else y j)
      by_cases hji:j=i
      · subst hji; rw [upd_same,if_pos (by omega)]
      · rw [Go.Fw.upd_ne _ _ _ hji]
        have:=ho5 j hj
        rw [Nat.zero_add] at this
        rw [this]
        show vb (if j<i then XE (y j) else y j)=_
        by_cases hj2:j<i
        · rw [if_pos hj2,if_pos (by omega)]
        · rw [if_neg hj2,if_neg (by omega)]
  · have hi4:i=4:=by omega
    subst hi4
    have hm5:=hm5 (by omega)
    subst hm5
    unfold Vm
    have e0:fo5 0=vb (XE (y 0)):=by have:=ho5 0 (by omega); rw [Nat.zero_add] at this; exact this
    obtain ⟨s0,hs0⟩:∃ s,s=XE (y 0):=⟨_,rfl⟩
    rw [← hs0] at e0
    have er:IntKind.u64.wrap (IntKind.i64.wrap ((r:Int) - 1))=((UInt64.ofNat (r - 1)).toNat:Int):=by
      have e1:(r:Int) - 1=((r - 1:Nat):Int):=by omega
      have e2:(UInt64.ofNat (r - 1)).toNat=r - 1:=by simp; omega
      rw [e1,Xe (by omega) (by omega),XC (by omega) (by omega),e2]
    rw [er]
    obtain ⟨p0,hp0⟩:∃ p,p=Vt 2 (UInt64.ofNat (r - 1)):=⟨_,rfl⟩
    have hZ5:=hZ4.fr f5 (by simp; have:=htw.1; omega)
    have nz:w1.heap.size≠w2.heap.size:=by omega
    refine ⟨fun w'=>w'.cell? ⟨w2.heap.size,0,none⟩=some (vb s0),Drw.intro fun w6 f6 s6=>?_⟩
    have hO6:=hO5.fr0 f6
    have hc6:w6.cell? ⟨w2.heap.size,0,none⟩=some (vb s0):=by rw [hO6.cell (by omega),e0]
    refine ⟨_,YM (n:=4) (by kernel_rfl) (by omega) (by omega),_,⟨hc6,fun w' hw'=>Ld.cell (by kernel_rfl) hw'⟩,?_⟩
    refine Xuw 2 _ _ _ ?_
    rw [← hp0]
    refine ⟨_,rfl,.inl rfl,_,YM (n:=4) (by kernel_rfl) (by omega) (by omega),?_⟩
    rw [UV]
    refine Sto.blk (by kernel_rfl) hO6 (by show 0+0<4; omega) rfl rfl fun w7 f7 hO7 s7=>?_
    have hb7:BAt (upd fo5 (0+(0:Int).toNat) (vb (s0 ^^^ p0))) 0 4 (Yu x r):=by
      intro j hj
      unfold Yu
      by_cases hj0:j=0
      · subst hj0
        rw [if_pos rfl,← hp0]
        show upd fo5 0 _ 0=_
        rw [upd_same,hs0,hy]
      · rw [if_neg hj0]
        show upd fo5 0 _ (0+j)=_
        rw [Go.Fw.upd_ne _ _ _ (by omega),ho5 j hj]
        show vb (if j<4 then XE (y j) else y j)=_
        rw [if_pos hj,hy]
    refine ⟨_,LdA (m:=4) (by kernel_rfl) (by kernel_rfl) hO7 (Nat.le_refl 4) (Xy 4 (Yu x r)) (Xr _ _) hb7.ld,?_⟩
    refine Sto.agg (by kernel_rfl) (Xr 4 _) ((hZ5.fr0 f6).fr f7 (by simp; omega)) (Nat.le_refl 4) YD fun w8 f8 hZ8 s8=>?_
    refine ⟨_,_,rfl,LdA (m:=4) (by kernel_rfl) (by kernel_rfl) hZ8 (Nat.le_refl 4) (Xy 4 (Yu x r)) (Xr _ _) BAt.updN.ld,?_⟩
    have n5:=f5.size
    have fA:Fr [t] w w5:=(fn.mono (by simp)).trans f5 (fun z hz=>by simp at hz; rcases hz with rfl | rfl; exact .inl (by simp); exact .inr (by omega))
    have fB:Fr [t] w w7:=(fA.then f6).trans f7 (fun z hz=>.inr (by simp at hz; omega))
    have fC:Fr [t] w w8:=fB.trans f8 (fun z hz=>.inr (by simp at hz; omega))
    have n6:=f6.size
    have n8:=f8.size
    have n7:=f7.size
    refine h w8 F' fC (((hT5.fr0 f6).fr f7 ?_).fr f8 ?_) ⟨gF5.1,fun z hz=>?_⟩
    · simp only [List.mem_singleton]; rintro z rfl; exact nFx _ (by omega) (by omega)
    · simp only [List.mem_singleton]; rintro z rfl; exact nFx _ (by omega) (by omega)
    · rcases gF5.2 z hz with hz | hz
      · exact .inl hz
      · exact .inr ⟨by omega,by omega⟩
end Go.Sh
end

section
namespace Go.Sh
open Go Go.Fw Go.Proofs
set_option maxRecDepth 100000
set_option linter.unusedVariables false
section
variable {c t:Nat} {F:List Nat} {ks:Nat→UInt8} {d:Int}
theorem Ciph.lt {w:World} (h:Ciph w c t F ks d):c<w.heap.size:=by obtain ⟨f,hB,_⟩:=h; exact hB.lt
theorem XsE {t:Nat} {F:List Nat}:Xuz (.func (.func J6) #[.pointer (some ⟨t,0,none⟩)] #[]) (fun w=>Ciph w c t F ks d) [] XE:=by
  intro a w K hT hk
  refine Js ?_
  obtain ⟨f,hB,h0,hks,hd,hTab,hn,hF⟩:=id hT
  show Xa Tryz.prog J6 #[.pointer (some ⟨t,0,none⟩),vb a] w K
  refine Xsz hTab a fun w' F' f1 hT1 g1 g2 g3=>?_
  obtain ⟨_,f0⟩:=g3 rfl
  exact hk w' f0 (hT.fr0 f0)
theorem Xu7 {w:World} (hT:Ciph w c t F ks d) (k:Int) (x a:UInt8) (hk:(k=-1∧x=1)∨∃ n:Nat,k=(n:Int)∧([2,3,9,11,13,14]:List UInt8)[n]?=some x) {K:VWP} (h:∀ w',Fr [] w w'→Ciph w' c t F ks d→K (vb (Xl a x)) w') :
    Xa Tryz.prog J7 #[.pointer (some ⟨c,0,none⟩),.int .i64 k,vb a] w K:=by
  apply Xby
  rcases hk with ⟨rfl,rfl⟩ | ⟨n,rfl,hx⟩
  · have:=h w (Fr.refl _ _) hT
    rw [UY] at this
    exact this
  · unfold QC
    have e:(((n:Nat):Int) == -1)=false:=by rw [beq_eq_false_iff_ne]; omega
    rw [e]
    refine Xz ⟨_,rfl,?_⟩
    rw [Xi]
    obtain ⟨f,hB,h0,hks,hd,hTab,hn,hF⟩:=id hT
    refine ⟨_,Ld.blk (by kernel_rfl) hB (by omega) h0,?_⟩
    obtain ⟨g,hg⟩:∃ g,g=Xl a x:=⟨_,rfl⟩
    refine XtP hTab n x a hx fun w' f1 hT1=>?_
    have h2:=h w' f1 (hT.fr0 f1)
    rw [← hg] at h2 ⊢
    exact ⟨_,_,rfl,h2⟩
def Xrk:Nat→Int:=fun j=>if j=0 then 0 else if j=1 then 1 else -1
theorem Xou (fac:Nat→Int) (g:Nat→UInt8) (hf:∀ j,j<4→(fac j=-1∧g j=1)∨∃ n:Nat,fac j=(n:Int)∧([2,3,9,11,13,14]:List UInt8)[n]?=some (g j)) :
    Xsx (.func (.func J7) #[.pointer (some ⟨c,0,none⟩)] #[]) (fun w=>Ciph w c t F ks d) [] (gF g) fac:=by
  intro j a w K hj hT hk
  refine Js ?_
  show Xa Tryz.prog J7 #[.pointer (some ⟨c,0,none⟩),.int .i64 (fac j),vb a] w K
  exact Xu7 hT _ (g j) a (hf j hj) fun w' f1 hT1=>hk w' f1 hT1
theorem Xu8:∀ j,j<4→(Xrk j=-1∧fE j=1)∨∃ n:Nat,Xrk j=(n:Int)∧([2,3,9,11,13,14]:List UInt8)[n]?=some (fE j):=by
  intro j hj
  rcases (by omega:j=0∨j=1∨j=2∨j=3) with rfl | rfl | rfl | rfl
  · exact .inr ⟨0,rfl,rfl⟩
  · exact .inr ⟨1,rfl,rfl⟩
  · exact .inl ⟨rfl,rfl⟩
  · exact .inl ⟨rfl,rfl⟩
theorem XuB {w:World} {f:Nat→Value} (hB:Blk w c 178 f) (hks:BAt f 1 176 ks) {r:Nat} (hr:r<11):IxA Tryz.prog Xh3 (.pointer (some ⟨c,0+1,none⟩)) (.int .i64 (r:Int)) ⟨c,1+r*16,none⟩∧Ld Tryz.prog Xpn (.pointer (some ⟨c,1+r*16,none⟩)) w (.agg ⟨Xy 16 (kAt ks r)⟩):=by
  refine ⟨ixA (n:=11) (s:=16) (by kernel_rfl) (by omega) (by omega),LdA (m:=16) (by kernel_rfl) (by kernel_rfl) hB (by omega) (Xy 16 (kAt ks r)) (Xr _ _) ?_⟩
  have:BAt f (1+r*16) 16 (kAt ks r):=by
    intro j hj
    have:=hks (r*16+j) (by omega)
    rw [show 1+r*16+j=1+(r*16+j) by omega,this]
    unfold kAt
    rw [Nat.mul_comm]
  exact this.ld
theorem Row.some {w:World} {p:Option Addr} {xs:List UInt8} (h:Row w p (xs.map vb)) (h0:0<xs.length):∃ b o,p=some ⟨b,o,none⟩∧∀ j,j<xs.length→w.cell? ⟨b,o+j,none⟩=some (vb (fl xs j)):=by
  rcases h with h | ⟨b,o,rfl,h⟩
  · simp at h; subst h; simp at h0
  · refine ⟨b,o,rfl,fun j hj=>h j _ ?_⟩
    rw [List.getElem?_map,List.getElem?_eq_getElem hj]
    unfold fl
    rw [List.getD_eq_getElem?_getD,List.getElem?_eq_getElem hj]
    rfl
theorem XuC {P:Program} {t:TypeId} {m:Nat} (ht:res P (isAgg t)=some true) (hs:res P (sizeOf t)=some m) {w:World} {p:Option Addr} {xs:List UInt8} (h:Row w p (xs.map vb)) (h0:0<m) (hm:m≤xs.length):Ld P t (.pointer p) w (.agg ⟨Xy m (fl xs)⟩):=by
  obtain ⟨b,o,rfl,hc⟩:=Row.some h (by omega)
  refine Ld.agg ht hs (Xr _ _) fun j v hj=>?_
  have hlt:=(List.getElem?_eq_some_iff.1 hj).1
  rw [Xr] at hlt
  rw [Wt hlt] at hj
  rw [Xi,hc j (by omega)]
  exact hj
theorem Bk.own {w:World} {b:Nat} {x:Nat→UInt8} (h:Bk w b x):OwnS w (some ⟨b,0,none⟩) 16 16 ((bl 16 x).map vb):=by
  obtain ⟨f,hB,hx⟩:=h
  refine ⟨by simp [XN],.inr ⟨b,0,16,f,rfl,hB,by omega,by omega,fun j v hj=>?_⟩⟩
  rw [← XtQ] at hj
  exact hx.ld j v hj
theorem XsF {w:World} (hC:Ciph w c t F ks d) (hd0:0≤d) (hd:d<1000000000000) {p:Option Addr} {l cap:Nat} {xs:List UInt8} (hx:Row w p (xs.map vb)) (hl:l=xs.length) (h16:xs.length=16) (hpc:c∉Xb p) {K:VWP}
    (h:∀ b w',Fr [c] w w'→Ciph w' c t F ks (d+1)→Bk w' b (Xv5 ks (fl xs))→w.heap.size≤b→K (.tuple #[.slice (some ⟨b,0,none⟩) 16 16,.int .i64 0]) w') :
    Xa Tryz.prog Vj #[.pointer (some ⟨c,0,none⟩),.slice p l cap] w K:=by
  apply Q1
  unfold Wj
  refine XF (fun h1=>by omega) (fun h1=>?_)
  obtain ⟨f,hB,h0,hks,hdone,hTab,hn,hF⟩:=id hC
  refine ⟨_,rfl,?_⟩
  rw [Xi]
  refine YG hB (by omega) hdone fun w1 f1 hB1 s1=>⟨_,rfl,?_⟩
  rw [Xe (by omega) (by omega)] at hB1
  have hC1:Ciph w1 c t F ks (d+1):=⟨_,hB1,by rw [upd_ne _ _ _ (by omega)]; exact h0,BAt.upd_ne hks (by omega),upd_same _ _ _,hTab.fr f1 (by simpa using hn),hn,fun k hk=>by have:=hF k hk; omega⟩
  refine ⟨p,Xus (n:=16) (s:=1) (by kernel_rfl) (by omega),?_⟩
  have hx1:Row w1 p (xs.map vb):=Row.cells_fr hx f1 (fun k hk=>by simp only [List.mem_singleton]; rintro rfl; exact hpc hk)
  refine ⟨_,XuC (m:=16) (by kernel_rfl) (by kernel_rfl) hx1 (by omega) (by omega),?_⟩
  refine ZL (s:=16) (by kernel_rfl) fun w2 g0 f2 hG s2=>?_
  refine Sto.agg (by kernel_rfl) (Xr 16 _) hG (Nat.le_refl 16) YD fun w3 f3 hG3 s3=>?_
  have hcw:=hC.lt
  have n1:=f1.size
  have hsep:∀ k,k∈F→k<w1.heap.size:=fun k hk=>by have:=hF k hk; omega
  have hC3:Ciph w3 c t F ks (d+1):=(hC1.fr0 f2).fr f3 (by simp; omega) (by simp only [List.mem_singleton]; rintro k rfl hk; have:=hsep _ hk; omega)
  have hbc:w1.heap.size≠c:=by omega
  obtain ⟨f',hB3,h03,hks3,hd3,_⟩:=id hC3
  obtain ⟨ix0,ld0⟩:=XuB hB3 hks3 (r:=0) (by omega)
  refine ⟨_,rfl,_,by rw [Xi]; exact ix0,_,ld0,?_⟩
  refine Xgk (y:=kAt ks 0) (⟨_,hG3,BAt.updN⟩:Bk w3 w1.heap.size (fl xs)) fun w4 f4 hb4=>⟨rfl,?_⟩
  have stays:∀ {a b:World},Fr [w1.heap.size] a b→Ciph a c t F ks (d+1)→Ciph b c t F ks (d+1):=fun {a b} fr hc=>hc.fr fr (by simp; omega) (by simp only [List.mem_singleton]; rintro k rfl hk; have:=hsep _ hk; omega)
  have hC4:=stays f4 hC3
  have fA:Fr [c] w w4:=((f1.then f2).trans f3 (fun z hz=>.inr (by simp at hz; omega))).trans f4 (fun z hz=>.inr (by simp at hz; omega))
  refine LoopS.ind (fun k us w'=>∃ r:Nat,r+k=10∧us=[.pointer (some ⟨c,0,none⟩),.slice none 0 0,.int .i64 0,.pointer (some ⟨w1.heap.size,0,none⟩),.int .i64 ((r+1:Nat):Int)]∧Fr [c] w w'∧Ciph w' c t F ks (d+1)∧Bk w' w1.heap.size (VW ks (fl xs) r)) 10
    ⟨0,rfl,rfl,fA,hC4,hb4⟩ ?_
  rintro k us rr w5 I μ hgo ⟨r,hr,rfl,f5,hC5,hb5⟩
  obtain ⟨y,hy⟩:∃ y,y=VW ks (fl xs) r:=⟨_,rfl⟩
  refine ⟨_,_,_,_,_,_,_,rfl,Xc (fun h2=>?_) (fun h2=>?_)⟩
  · obtain ⟨f5',hB5,h05,hks5,hd5,_⟩:=id hC5
    refine ⟨_,rfl,?_⟩
    rw [Xi]
    refine ⟨_,Ld.blk (by kernel_rfl) hB5 (by omega) h05,?_⟩
    rw [← hy] at hb5
    refine Xor hb5 hC5 XsE (by simp) (fun a b ha fr=>stays fr ha) fun w6 f6 hC6 hb6=>⟨rfl,?_⟩
    refine Xos (m:=1) hb6 (by omega) fun w7 f7 hb7=>⟨rfl,?_⟩
    have hC7:=stays f7 hC6
    have f57:Fr [c] w w7:=(f5.trans f6 (fun z hz=>.inr (by simp at hz; omega))).trans f7 (fun z hz=>.inr (by simp at hz; omega))
    have fin : ∀ w8 z, Fr [c] w w8 → Ciph w8 c t F ks (d + 1) → Bk w8 w1.heap.size z → Uf z (kAt ks (r + 1)) = VW ks (fl xs) (r + 1) →
        Y0 I μ [.pointer (some ⟨c,0,none⟩),.slice none 0 0,.int .i64 0,.pointer (some ⟨w1.heap.size,0,none⟩),.int .i64 ((r+1:Nat):Int)] w5 (some ⟨c,0,none⟩) none 0 0 0 ⟨w1.heap.size,0,none⟩ ((r+1:Nat):Int) w8 K:=by
      intro w8 z f8 hC8 hb8 hz
      unfold Y0
      obtain ⟨f8',hB8,h08,hks8,hd8,_⟩:=id hC8
      obtain ⟨ix8,ld8⟩:=XuB hB8 hks8 (r:=r+1) (by omega)
      refine ⟨_,rfl,_,by rw [Xi]; exact ix8,_,ld8,?_⟩
      refine Xgk (y:=kAt ks (r+1)) hb8 fun w9 f9 hb9=>⟨rfl,?_⟩
      rw [Xe (by omega) (by omega)]
      refine hgo _ _ _ (k - 1) (by omega) ⟨r+1,by omega,rfl,f8.trans f9 (fun z hz=>.inr (by simp at hz; omega)),stays f9 hC8,?_⟩
      rw [← hz]
      exact hb9
    refine Xc (fun h3=>?_) (fun h3=>?_)
    · have hr9:r+1<10:=by omega
      refine Xi2 (fac:=Xrk) (g:=gF fE) hb7 hC7 (Xou Xrk fE Xu8) (by simp) (by simp) (fun a b ha fr=>stays fr ha) fun w8 f8 hC8 hb8=>⟨rfl,?_⟩
      refine fin w8 _ (f57.trans f8 (fun z hz=>.inr (by simp at hz; omega))) hC8 hb8 ?_
      show _=Uf (if r+1<10 then _ else _) _
      rw [if_pos hr9,hy]
    · have hr9:¬ r+1<10:=by omega
      refine fin w7 _ f57 hC7 hb7 ?_
      show _=Uf (if r+1<10 then _ else _) _
      rw [if_neg hr9,hy]
  · have hr10:r=10:=by omega
    subst hr10
    refine ⟨_,_,_,Xmc (n:=16) (s:=1) (kl:=.i64) (kh:=.i64) (lo:=none) (hi:=none) (by kernel_rfl) (by simp) (by simp) (by simp),?_⟩
    exact h w1.heap.size w5 f5 hC5 hb5 (by omega)
end
end Go.Sh
end

section
namespace Go.Sh
open Go Go.Fw Go.Proofs
set_option maxRecDepth 100000
set_option linter.unusedVariables false
section
variable {c t:Nat} {F:List Nat} {ks:Nat→UInt8} {d:Int}
theorem Xlc (m n:Nat) (x:Nat→UInt8):Xy (m+n) x=Xy m x++Xy n (fun j=>x (m+j)):=by
  unfold Xy
  rw [List.range_add,List.map_append,List.map_map]
  rfl
theorem Xrl {n s i:Nat} {x:Nat→UInt8} (h:(i+1)*s≤n):((Xy n x).drop (i*s)).take s=Xy s (fun j=>x (i*s+j)):=by
  have h1:(i+1)*s=i*s+s:=Nat.succ_mul i s
  obtain ⟨r,rfl⟩:=Nat.exists_eq_add_of_le (show i*s+s≤n by omega)
  rw [Nat.add_assoc,Xlc,List.drop_append_of_le_length (by rw [Xr]; exact Nat.le_refl _),List.drop_eq_nil_of_le (by rw [Xr]; exact Nat.le_refl _),List.nil_append,Xlc,List.take_append_of_le_length (by rw [Xr]; exact Nat.le_refl _),List.take_of_length_le (by rw [Xr]; exact Nat.le_refl _)]
end
end Go.Sh
end

section
namespace Go.Sh
open Go Go.Fw Go.Proofs
set_option maxRecDepth 100000
set_option linter.unusedVariables false
theorem BAt.snoc {f:Nat→Value} {o n m:Nat} {x y:Nat→UInt8} (h:BAt f o n x) (hy:∀ j,j<m→y j=x (n+j)):BAt (Go.Fw.updN f (o+n) (Xy m y)) o (n+m) x:=by
  intro j hj
  by_cases hjn:j<n
  · unfold Go.Fw.updN
    rw [dif_neg (by omega)]
    exact h j hjn
  · have:=(BAt.updN (f:=f) (o:=o+n) (n:=m) (x:=y)) (j - n) (by omega)
    rw [show o+n+(j - n)=o+j by omega,hy _ (by omega),show n+(j - n)=j by omega] at this
    exact this
theorem Xov {f:Nat→Value} {o m:Nat} {y:Nat→UInt8} {i:Nat} (h:i<o∨o+m≤i):Go.Fw.updN f o (Xy m y) i=f i:=by
  unfold Go.Fw.updN
  rw [dif_neg (by rw [Xr]; omega)]
theorem Xqc (xs:List UInt8) (k j:Nat):fl (xs.drop k) j=fl xs (k+j):=by
  unfold fl
  simp [List.getD_eq_getElem?_getD]
theorem XsG {w:World} {p:Option Addr} {l cap:Nat} (h:(l:Int)≠16) {K:VWP} (hk:K (.tuple #[.pointer none,.int .i64 11]) w):Xa Tryz.prog Xd7 #[.slice p l cap] w K:=by
  apply Xeg
  unfold Xj0
  exact XF (fun _=>hk) (fun h1=>absurd h1 h)
theorem Xt0 {w:World} {p:Option Addr} {l cap:Nat} {xs:List UInt8} (hx:Row w p (xs.map vb)) (hl:l=xs.length) (h16:xs.length=16) (hcap:xs.length≤cap) {K:VWP}
    (h:∀ c t F w',Fr [] w w'→Ciph w' c t F (X4 (fl xs)) 0→(∀ k∈F,w.heap.size≤k)→w.heap.size≤c→K (.tuple #[.pointer (some ⟨c,0,none⟩),.int .i64 0]) w'):Xa Tryz.prog Xd7 #[.slice p l cap] w K:=by
  apply Xeg
  unfold Xj0
  refine XF (fun h1=>by omega) (fun h1=>?_)
  refine ⟨_,_,_,Ef.new (v:=.slice (some ⟨w.heap.size,0,none⟩) 6 6) (cs:=(([2,3,9,11,13,14]:List UInt8).map vb).toArray) (e:=Jf) (by kernel_rfl) fun w1 f1 hB1 s1=>?_⟩
  refine Xv4 (bl:=[2,3,9,11,13,14]) hB1.rowL rfl (by decide) fun t F w2 f2 hT2 hF2=>⟨_,rfl,New.intro fun w3 f3 hC3 s3=>?_⟩
  obtain ⟨fc,hfc⟩:∃ fc:Nat→Value,Blk w3 w2.heap.size 178 fc∧fc 0=.pointer (some ⟨t,0,none⟩)∧fc 177=.int .i64 0:=⟨_,hC3,rfl,rfl⟩
  clear hC3
  obtain ⟨hC3,hc0,hc177⟩:=hfc
  refine ZL (s:=176) (by kernel_rfl) fun w4 fz f4 hW4 s4=>?_
  have n1:=f1.size; have n2:=f2.size; have n3:=f3.size; have n4:=f4.size
  have hT4:=(hT2.fr0 f3).fr0 f4
  have htF:=hT4.lt
  have hC4:=hC3.fr0 f4
  have f04:Fr [] w w4:=((f1.then f2).then f3).then f4
  have hF4:∀ k∈F,w.heap.size≤k∧k<w2.heap.size:=fun k hk=>⟨by have:=hF2 k hk; omega,(hF2 k hk).2⟩
  have ht2:=hF4 t htF.2
  refine LoopS.ind (fun k us w' => ∃ i : Nat, i + k = 44 ∧ us = [.slice p l cap, .pointer none, .int .i64 0, .pointer (some ⟨w2.heap.size, 0, none⟩), .pointer (some ⟨w3.heap.size, 0, none⟩), .int .i64 (i : Int)] ∧ Fr [t, w3.heap.size] w4 w' ∧
      ∃ m' F',TabF w' t [2,3,9,11,13,14] F' m'∧grewF F F' w4 w'∧(4<i→m'=true)∧∃ fw,Blk w' w3.heap.size 176 fw∧BAt fw 0 (4*i) (X4 (fl xs))) 44
    ⟨0,rfl,rfl,Fr.refl _ _,false,F,hT4,grewF.refl _ _ _,by omega,_,hW4,fun j hj=>by omega⟩ ?_
  rintro k us rr w5 I μ hgo ⟨i,hi,rfl,f5,m',F',hT5,gF5,hm5,fw,hW5,hw5⟩
  have n5:=f5.size
  have hC5:Blk w5 w2.heap.size 178 fc:=hC4.fr f5 (by simp; omega)
  have hFx:∀ k∈F',(k<w2.heap.size∧w.heap.size≤k)∨w4.heap.size≤k:=fun k hk=>by
    rcases gF5.2 k hk with hk | hk
    · have:=hF4 k hk; omega
    · omega
  have hFsz:∀ k∈F',k<w5.heap.size:=fun k hk=>by
    rcases gF5.2 k hk with hk | hk
    · have:=hF4 k hk; omega
    · omega
  have nW:w3.heap.size∉F':=fun hk=>by have:=hFx _ hk; omega
  have nC:w2.heap.size∉F':=fun hk=>by have:=hFx _ hk; omega
  refine ⟨_,_,_,_,_,_,_,_,rfl,Xc (fun h1=>?_) (fun h1=>?_)⟩
  · have hi44:i<44:=by omega
    have inext:IntKind.i64.wrap ((i:Int)+1)=((i+1:Nat):Int):=by rw [Xe (by omega) (by omega)]; rfl
    refine Xc (fun h2=>?_) (fun h2=>?_)
    · have hi4:i<4:=by omega
      have hx5:Row w5 p (xs.map vb):=Row.cells_fr hx (f04.trans f5 (fun z hz=>by simp at hz; rcases hz with rfl | rfl; exact .inr (by omega); exact .inr (by omega))) (by simp)
      rw [Xe (by omega) (by omega)]
      refine ⟨_,_,_,VK (s:=1) (kl:=.i64) (kh:=.i64) (lo:=some (4*(i:Int))) (hi:=none) (by kernel_rfl) (by show 0≤4*(i:Int); omega) (by show 4*(i:Int)≤(l:Int); omega) (by show (l:Int)≤(cap:Int); omega),?_⟩
      have e4:(4*(i:Int)).toNat=4*i:=by omega
      simp only [Option.getD,e4,Int.toNat_natCast]
      refine ⟨_,Xus (n:=4) (s:=1) (by kernel_rfl) (by omega),?_⟩
      have hxd:Row w5 (Go.Fw.partAt p cap (4*i) 1) ((xs.drop (4*i)).map vb):=by
        rw [List.map_drop]; exact hx5.part (by simpa using hcap)
      refine ⟨_,XuC (m:=4) (by kernel_rfl) (by kernel_rfl) hxd (by omega) (by simp; omega),_,ixA (n:=44) (s:=4) (by kernel_rfl) (by omega) (by omega),?_⟩
      rw [Int.toNat_natCast,Nat.zero_add]
      refine Sto.agg (by kernel_rfl) (Xr 4 _) hW5 (by omega) YD fun w6 f6 hW6 s6=>?_
      refine hgo _ _ _ (k - 1) (by omega) ⟨i+1,by omega,by rw [inext],f5.trans f6 (fun z hz=>.inl (by simp at hz; simp [hz])),m',F',hT5.fr f6 (by simpa using nW),gF5.trans (grewF.refl _ _ _) n5 (by omega),by omega,_,hW6,?_⟩
      have:=hw5.snoc (m:=4) (y:=fl (xs.drop (4*i))) (fun j hj=>by
        rw [Xqc,XcG _ hi44 hj]; unfold Vv; rw [if_pos hi4])
      rw [Nat.zero_add] at this
      rw [show i*4=4*i by omega]
      exact this
    · have hi4:¬ i<4:=by omega
      have e1:IntKind.i64.wrap ((i:Int) - 1)=((i - 1:Nat):Int):=by rw [Xe (by omega) (by omega)]; omega
      have e4:IntKind.i64.wrap ((i:Int) - 4)=((i - 4:Nat):Int):=by rw [Xe (by omega) (by omega)]; omega
      rw [e1]
      refine ⟨_,ixA (n:=44) (s:=4) (by kernel_rfl) (by omega) (by omega),?_⟩
      rw [Int.toNat_natCast,Nat.zero_add]
      have bAt:∀ {g:Nat→Value} {n k:Nat},BAt g 0 n (X4 (fl xs))→k+4≤n→BAt g k 4 (fun j=>X4 (fl xs) (k+j)):=by
        intro g n k hg hk j hj
        have:=hg (k+j) (by omega)
        rwa [Nat.zero_add] at this
      have bw1:=bAt hw5 (k:=(i - 1)*4) (by omega)
      refine ⟨_,LdA (m:=4) (by kernel_rfl) (by kernel_rfl) hW5 (by omega) (Xy 4 (fun j=>X4 (fl xs) ((i - 1)*4+j))) (Xr _ _) bw1.ld,?_⟩
      refine ZL (s:=4) (by kernel_rfl) fun w6 g6 f6 hG s6=>?_
      refine Sto.agg (by kernel_rfl) (Xr 4 _) hG (Nat.le_refl 4) YD fun w7 f7 hG7 s7=>?_
      have n6:=f6.size
      have f57:Fr [] w5 w7:=f6.trans f7 (fun z hz=>.inr (by simp at hz; omega))
      have n7:=f57.size
      have hw5f : ∀ {m'' F''} {w8 : World}, Fr [t, w5.heap.size] w7 w8 → TabF w8 t [2, 3, 9, 11, 13, 14] F'' m'' → grewF F' F'' w7 w8 → (4 < i + 1 → m'' = true) → ∀ {f8 : Nat → Value}, Blk w8 w5.heap.size 4 f8 → BAt f8 0 4 (fun j => if i % 4 = 0 then Yu (fun j => X4 (fl xs) (4 * (i - 1) + j)) (i / 4) j else X4 (fl xs) (4 * (i - 1) + j)) →
          Qf I μ [.slice p l cap,.pointer none,.int .i64 0,.pointer (some ⟨w2.heap.size,0,none⟩),.pointer (some ⟨w3.heap.size,0,none⟩),.int .i64 (i:Int)] w5 p l cap none 0 ⟨w2.heap.size,0,none⟩ ⟨w3.heap.size,0,none⟩ (i:Int) ⟨w5.heap.size,0,none⟩ (i:Int) w8 K:=by
        intro m'' F'' w8 f8 hT8 g8 hm8 fv8 hG8 hb8
        unfold Qf
        have n8:=f8.size
        have hW8:Blk w8 w3.heap.size 176 fw:=(hW5.fr0 f57).fr f8 (by simp; omega)
        have bw4:=bAt hw5 (k:=(i - 4)*4) (by omega)
        refine ⟨fun w'=>Ld Tryz.prog Xq7 (.pointer (some ⟨w3.heap.size,0+(i - 4)*4,none⟩)) w' (.agg ⟨Xy 4 (fun j=>X4 (fl xs) ((i - 4)*4+j))⟩),Drw.intro fun w9 f9 s9=>?_⟩
        rw [e4]
        refine ⟨_,ixA (n:=44) (s:=4) (by kernel_rfl) (by omega) (by omega),⟨Xy 4 (fun j=>X4 (fl xs) ((i - 4)*4+j))⟩,⟨?_,fun w' hw'=>?_⟩,_,LdA (m:=4) (by kernel_rfl) (by kernel_rfl) (hG8.fr0 f9) (Nat.le_refl 4) _ (Xr 4 _) hb8.ld,.inl rfl,?_⟩
        · rw [Nat.zero_add]
          exact LdA (m:=4) (by kernel_rfl) (by kernel_rfl) (hW8.fr0 f9) (by omega) (Xy 4 (fun j=>X4 (fl xs) ((i - 4)*4+j))) (Xr _ _) bw4.ld
        · exact hw'
        · refine Xpu fun w10 f10=>⟨_,rfl,_,ixA (n:=44) (s:=4) (by kernel_rfl) (by omega) (by omega),?_⟩
          rw [Int.toNat_natCast,Nat.zero_add]
          have n9:=f9.size
          have n10:=f10.size
          have f810:=f9.then f10
          refine Sto.agg (by kernel_rfl) (Xr 4 _) (hW8.fr0 f810) (by omega) YD fun w11 f11 hW11 s11=>?_
          have hT10:=hT8.fr0 f810
          have nW':w3.heap.size∉F'':=fun hk=>by
            rcases g8.2 _ hk with hk | hk
            · exact nW hk
            · omega
          have f511:Fr [t,w3.heap.size] w5 w11:=((f57.mono (by simp)).trans f8 (fun z hz=>by simp at hz; rcases hz with rfl | rfl; exact .inl (by simp); exact .inr (by omega))).trans f810 (by simp) |>.trans f11 (fun z hz=>.inl (by simp at hz; simp [hz]))
          refine hgo _ _ _ (k - 1) (by omega) ⟨i+1,by omega,by rw [inext],f5.trans f511 (fun z hz=>.inl hz),m'',F'',hT10.fr f11 (by simpa using nW'),gF5.trans ⟨g8.1,fun z hz=>?_⟩ n5 (by omega),hm8,_,hW11,?_⟩
          · rcases g8.2 z hz with hz | hz
            · exact .inl hz
            · exact .inr ⟨by omega,by omega⟩
          · have := hw5.snoc (m := 4) (y := fun j => X4 (fl xs) ((i - 4) * 4 + j) ^^^ (if i % 4 = 0 then Yu (fun j => X4 (fl xs) (4 * (i - 1) + j)) (i / 4) j else X4 (fl xs) (4 * (i - 1) + j))) (fun j hj => by
              rw [XcG _ hi44 hj]; unfold Vv; rw [if_neg hi4,show (i - 4)*4=4*(i - 4) by omega])
            rw [Nat.zero_add] at this
            rw [show i*4=4*i by omega]
            exact this
      have hT7:=hT5.fr0 f57
      have em:Int.tmod (i:Int) 4=((i % 4:Nat):Int):=rfl
      have ed:IntKind.i64.wrap (Int.tdiv (i:Int) 4)=((i / 4:Nat):Int):=by
        have:Int.tdiv (i:Int) 4=((i / 4:Nat):Int):=rfl
        rw [this]; exact Xe (by omega) (by omega)
      rw [em,ed]
      have hb7:BAt (Go.Fw.updN g6 0 (Xy 4 (fun j=>X4 (fl xs) ((i - 1)*4+j)))) 0 4 (fun j=>X4 (fl xs) ((i - 1)*4+j)):=BAt.updN
      refine Yn (fun h3=>?_) (fun h3=>?_)
      · have hm4:i % 4=0:=by omega
        refine ⟨_,LdA (m:=4) (by kernel_rfl) (by kernel_rfl) hG7 (Nat.le_refl 4) _ (Xr 4 _) hb7.ld,?_⟩
        refine Xrj (hC5.fr0 f57) hc0 hT7 nC (fun k hk=>by have:=hFsz k hk; omega) (by omega) (by omega) fun w8 F8 f8 hT8 g8=>⟨_,rfl,?_⟩
        refine Sto.agg (by kernel_rfl) (Xr 4 _) (hG7.fr f8 (by simp; have:=hFsz _ hT5.lt.2; omega)) (Nat.le_refl 4) YD fun w9 f9 hG9 s9=>?_
        have nG:w5.heap.size∉F8:=fun hk=>by
          rcases g8.2 _ hk with hk | hk
          · have:=hFsz _ hk; omega
          · omega
        refine hw5f ((f8.mono (l':=[t,w5.heap.size]) (by simp)).trans f9 (fun z hz=>.inl (by simp at hz; simp [hz]))) (hT8.fr f9 (by simpa using nG)) ⟨g8.1,fun z hz=>?_⟩ (fun _=>rfl) hG9 (fun j hj=>?_)
        · rcases g8.2 z hz with hz | hz
          · exact .inl hz
          · exact .inr ⟨hz.1,by have:=f9.size; omega⟩
        · have:=BAt.updN (f:=Go.Fw.updN g6 0 (Xy 4 (fun j=>X4 (fl xs) ((i - 1)*4+j)))) (o:=0) (n:=4) (x:=Yu (fun j=>X4 (fl xs) ((i - 1)*4+j)) (i / 4)) j hj
          rw [this]
          show _=vb (if i % 4=0 then _ else _)
          rw [if_pos hm4,show (i - 1)*4=4*(i - 1) by omega]
      · have hm4:¬ i % 4=0:=by omega
        refine hw5f (Fr.refl _ _) hT7 (grewF.refl _ _ _) (fun _=>hm5 (by omega)) hG7 (fun j hj=>?_)
        rw [hb7 j hj]
        show _=vb (if i % 4=0 then _ else _)
        rw [if_neg hm4,show (i - 1)*4=4*(i - 1) by omega]
  · have hi44:i=44:=by omega
    subst hi44
    have hm5:=hm5 (by omega)
    subst hm5
    unfold Xid
    refine ⟨_,LdA (m:=176) (by kernel_rfl) (by kernel_rfl) hW5 (Nat.le_refl 176) (Xy 176 (X4 (fl xs))) (Xr _ _) hw5.ld,?_⟩
    refine LoopS.ind (fun k us w' => ∃ i : Nat, i + k = 44 ∧ us = [.pointer none, .int .i64 0, .pointer (some ⟨w2.heap.size, 0, none⟩), .agg ⟨Xy 176 (X4 (fl xs))⟩, .int .i64 (i : Int)] ∧ Fr [w2.heap.size] w5 w' ∧
        ∃ f,Blk w' w2.heap.size 178 f∧f 0=.pointer (some ⟨t,0,none⟩)∧BAt f 1 (4*i) (X4 (fl xs))∧f 177=.int .i64 0) 44
      ⟨0,rfl,rfl,Fr.refl _ _,fc,hC5,hc0,fun j hj=>by omega,hc177⟩ ?_
    rintro k2 us2 rr2 w6 I2 μ2 hgo2 ⟨i,hi2,rfl,f6,f,hC6,g0,gk,gd⟩
    have n6:=f6.size
    refine ⟨_,_,_,_,_,rfl,Xc (fun h2=>?_) (fun h2=>?_)⟩
    · have hi44:i<44:=by omega
      refine ⟨_,XwF (n:=44) (s:=4) (by kernel_rfl) (by omega) (by omega),?_⟩
      rw [Int.toNat_natCast,Xrl (n:=176) (s:=4) (i:=i) (by omega)]
      refine ZL (s:=4) (by kernel_rfl) fun w7 g7 f7 hG s7=>?_
      refine Sto.agg (by kernel_rfl) (Xr 4 _) hG (Nat.le_refl 4) YD fun w8 f8 hG8 s8=>?_
      refine Drw.intro fun w9 f9 s9=>⟨_,rfl,?_⟩
      have n7:=f7.size
      have f69:Fr [] w6 w9:=(f7.trans f8 (fun z hz=>.inr (by simp at hz; omega))).then f9
      have em:Int.tmod (i:Int) 4=((i % 4:Nat):Int):=rfl
      have ed:IntKind.i64.wrap (Int.tdiv (i:Int) 4)=((i / 4:Nat):Int):=by
        have:Int.tdiv (i:Int) 4=((i / 4:Nat):Int):=rfl
        rw [this]; exact Xe (by omega) (by omega)
      rw [em,ed,Xi,Xe (n:=4*((i % 4:Nat):Int)) (by omega) (by omega)]
      refine ⟨_,ixA (n:=11) (s:=16) (by kernel_rfl) (by omega) (by omega),?_⟩
      rw [Int.toNat_natCast]
      refine ⟨_,_,_,Xmc (n:=16) (s:=1) (kl:=.i64) (kh:=.i64) (lo:=some (4*((i % 4:Nat):Int))) (hi:=none) (by kernel_rfl) (by show 0≤4*((i % 4:Nat):Int); omega) (by show 4*((i % 4:Nat):Int)≤16; omega) (by simp),?_⟩
      refine ⟨_,_,_,Xmc (n:=4) (s:=1) (kl:=.i64) (kh:=.i64) (lo:=none) (hi:=none) (by kernel_rfl) (by simp) (by simp) (by simp),?_⟩
      have e4:(4*((i % 4:Nat):Int)).toNat=4*(i % 4):=by omega
      simp only [Option.getD,e4]
      rw [V1 (by omega),V1 (by simp)]
      have hG9:=hG8.fr0 f9
      have hrow:Row w9 (some ⟨w6.heap.size,0+(0:Int).toNat*1,none⟩) (Xy 4 (fun j=>X4 (fl xs) (i*4+j))):=by
        refine hG9.row 0 _ fun j v hj=>⟨?_,BAt.updN.ld j v hj⟩
        have:=(List.getElem?_eq_some_iff.1 hj).1
        rw [Xr] at this
        omega
      obtain ⟨w10,he,f10,hC10,s10⟩:=Ef.copy (P:=Tryz.prog) (t:=Xg) (ty:=Y9) (by kernel_rfl) (dl:=((16:Int)).toNat - 4*(i % 4)) (dc:=16 - 4*(i % 4)) (o:=0+1+i / 4*16+4*(i % 4)*1) (hC6.fr0 f69) hrow (m:=((4:Int)).toNat - (0:Int).toNat) (d:=4 - (0:Int).toNat) (by rw [Xr]; rfl) YD (by show _+min 4 (16 - _)≤178; omega)
      refine ⟨_,_,he,?_⟩
      have hmin:min (((4:Int)).toNat - (0:Int).toNat) (((16:Int)).toNat - 4*(i % 4))=4:=by show min 4 (16 - 4*(i % 4))=4; omega
      rw [hmin,List.take_of_length_le (by rw [Xr]; exact Nat.le_refl _),show 0+1+i / 4*16+4*(i % 4)*1=1+4*i by omega] at hC10
      rw [Xe (n:=(i:Int)+1) (by omega) (by omega)]
      refine hgo2 _ _ _ (k2 - 1) (by omega) ⟨i+1,by omega,rfl,f6.trans (f69.after f10) (fun z hz=>.inl hz),_,hC10,?_,gk.snoc (fun j hj=>by rw [Nat.mul_comm]),?_⟩
      · rw [Xov (by omega)]; exact g0
      · rw [Xov (by omega)]; exact gd
    · have hi44:i=44:=by omega
      subst hi44
      refine h w2.heap.size t F' w6 ((f04.trans f5 (fun z hz=>by simp at hz; rcases hz with rfl | rfl; exact .inr (by omega); exact .inr (by omega))).trans f6 (fun z hz=>by simp at hz; exact .inr (by omega))) ⟨f,hC6,g0,gk,gd,hT5.fr f6 (by simpa using nC),nC,fun k hk=>by have:=hFsz k hk; omega⟩ (fun k hk=>?_) (by omega)
      have:=hFx k hk; omega
end Go.Sh
end

section
namespace Go.Sh
open Go Go.Fw Go.Proofs
set_option maxRecDepth 100000
set_option linter.unusedVariables false
def Xi6 (ks:Nat→UInt8) (n:Nat):List (List UInt8):=(List.range n).map fun r=>bl 16 (kAt ks r)
theorem Xld (ks:Nat→UInt8) (n:Nat):(Xi6 ks n).length=n:=by simp [Xi6]
theorem Xow (ks:Nat→UInt8) {n r:Nat} (h:r<n):(Xi6 ks n).getD r []=bl 16 (kAt ks r):=by simp [Xi6,h]
end Go.Sh
end
