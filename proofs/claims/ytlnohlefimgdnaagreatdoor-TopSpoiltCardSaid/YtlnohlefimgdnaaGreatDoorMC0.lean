/- A part of a proof of a given law of this program: lemmas, printed forms of its functions, contracts. It has no conditions of its own. -/
import Derived.ProofKit
import Derived.OpenShut
import Derived.Test.YtlnohlefimgdnaaGreatDoorMS0
import Derived.Test.YtlnohlefimgdnaaGreatDoorMW0
import Derived.Test.YtlnohlefimgdnaaGreatDoorMS1
import Derived.Test.YtlnohlefimgdnaaGreatDoorMW1
import Derived.Test.YtlnohlefimgdnaaGreatDoorMS2

set_option maxHeartbeats 16000000
section
namespace Go.Sh
open Go Go.Fw Go.Proofs
set_option maxRecDepth 100000
set_option linter.unusedVariables false
def dbl (a:UInt8):UInt8:=if (a &&& 128) != 0 then (a <<< 1) ^^^ 27 else a <<< 1
def JT:Nat→UInt8→UInt8→UInt8→UInt8
  | 0,_,_,out=>out
  | n+1,a,b,out=>if b=0 then out else JT n (dbl a) (b >>> 1) (if (b &&& 1) != 0 then out ^^^ a else out)
def Xl (a b:UInt8):UInt8:=JT 8 a b 0
abbrev vb (a:UInt8):Value:=.int .u8 (a.toNat:Int)
abbrev vw (a:UInt64):Value:=.int .u64 (a.toNat:Int)
theorem Xoh (a:UInt8) (w:World) (K:VWP) (h:K (vb (dbl a)) w):Xa Tryz.prog XjR #[vb a] w K:=by
  apply Xfs
  unfold Xeb
  have e1:(J0 .u8 (a.toNat:Int) 128)=((a &&& 128).toNat:Int):=XvH a 128
  have e2:IntKind.u8.wrap ((a.toNat:Int)*2 ^ 1)=((a <<< 1).toNat:Int):=XvK a 1 (by omega)
  have e3:YE .u8 ((a <<< 1).toNat:Int) 27=(((a <<< 1) ^^^ 27).toNat:Int):=UV (a <<< 1) 27
  have e4:(((a &&& 128).toNat:Int) != 0)=((a &&& 128) != 0):=by rw [bne,bne]; exact congrArg not (XmG (a &&& 128) 0)
  rw [e1,e2,e3,e4]
  unfold dbl at h
  cases hb:(a &&& 128) != 0 <;> rw [hb] at h <;> exact h
theorem Xmk (a b:UInt8) (w:World) (K:VWP) (h:K (vb (Xl a b)) w):Xa Tryz.prog Xpj #[vb a,vb b] w K:=by
  apply XjV
  unfold XkM
  refine LoopS.ind (fun k us w'=>w'=w∧∃ x y out:UInt8,us=[vb x,vb y,.int .u8 0,vb out]∧y.toNat<2 ^ k∧JT k x y out=Xl a b) 8 ⟨rfl,a,b,0,rfl,b.toNat_lt,rfl⟩ ?_
  rintro k us r w' I μ hgo ⟨rfl,x,y,out,rfl,hy,hm⟩
  refine ⟨_,_,_,_,rfl,?_⟩
  have e4:((y.toNat:Int) != 0)=(y != 0):=by rw [bne,bne]; exact congrArg not (XmG y 0)
  rw [e4]
  cases k with
  | zero=>
    have:y=0:=by rw [← UInt8.toNat_inj]; simpa using hy
    subst this
    have hm:out=Xl a b:=hm
    subst hm
    exact h
  | succ k=>
    refine XR (fun h1=>?_) (fun h1=>?_)
    · have hne:y≠0:=by simpa using h1
      have e1:(J0 .u8 (y.toNat:Int) 1)=((y &&& 1).toNat:Int):=XvH y 1
      have e5:(((y &&& 1).toNat:Int) != 0)=((y &&& 1) != 0):=by rw [bne,bne]; exact congrArg not (XmG (y &&& 1) 0)
      have e2:Int.fdiv (y.toNat:Int) (2 ^ 1)=((y >>> 1).toNat:Int):=XvJ y 1 (by omega)
      have hy2:(y >>> 1).toNat<2 ^ k:=by
        have:(y >>> 1).toNat=y.toNat >>> 1:=UInt8.toNat_shiftRight y 1
        rw [this,Nat.shiftRight_eq_div_pow]
        rw [Nat.pow_succ] at hy
        omega
      unfold JT at hm
      rw [if_neg hne] at hm
      rw [e1,e5,e2,UV]
      refine XR (fun h2=>?_) (fun h2=>?_)
      · refine Xoh _ _ _ ⟨_,rfl,hgo _ _ _ k (by omega) ⟨rfl,_,_,_,rfl,hy2,?_⟩⟩
        rw [h2] at hm; exact hm
      · refine Xoh _ _ _ ⟨_,rfl,hgo _ _ _ k (by omega) ⟨rfl,_,_,_,rfl,hy2,?_⟩⟩
        rw [h2] at hm; exact hm
    · have:y=0:=by simpa using h1
      subst this
      have hm:out=Xl a b:=hm
      subst hm
      exact h
end Go.Sh
end

section
namespace Go.Sh
open Go Go.Fw Go.Proofs
set_option maxRecDepth 100000
set_option linter.unusedVariables false
theorem YG {b n o:Nat} {g:Nat→Value} {x y:Int} {w:World} (hB:Blk w b n g) (ho:o<n) (hv:g o=.int .i64 x) {K:VWP}
    (h:∀ w',Fr [b] w w'→Blk w' b n (upd g o (.int .i64 (IntKind.i64.wrap (x+y))))→w'.heap.size=w.heap.size→K (.int .i64 (IntKind.i64.wrap (x+y))) w') :
    Xa Tryz.prog QT #[.pointer (some ⟨b,o,none⟩),.int .i64 y] w K:=by
  apply WE
  refine ⟨_,rfl,?_⟩
  refine XaN hB ho hv fun w' h1 h2 h3=>?_
  exact ⟨_,rfl,h w' h1 h2 h3⟩
theorem Zw {b n o:Nat} {g:Nat→Value} {x:Int} {w:World} (hB:Blk w b n g) (ho:o<n) (hv:g o=.int .u32 x) {K:VWP}
    (h:K (.bool (x != 0)) w):Xa Tryz.prog QU #[.pointer (some ⟨b,o,none⟩)] w K:=by
  apply WF
  refine ⟨_,rfl,?_⟩
  refine Qx hB ho hv ?_
  exact ⟨_,rfl,h⟩
theorem Wq {b n o:Nat} {g:Nat→Value} {w:World} (hB:Blk w b n g) (ho:o<n) {Q:VWP}
    (h:∀ w',Fr [b] w w'→Blk w' b n (upd g o (.int .u32 1))→w'.heap.size=w.heap.size→Q (.tuple #[]) w'):ZY (some ⟨b,o,none⟩) true w Q:=by
  refine Drw.intro fun w1 h1 hs1=>?_
  refine ⟨_,rfl,?_⟩
  apply Xcf
  refine ⟨_,rfl,?_⟩
  refine Qc (hB.fr0 h1) ho fun w2 h2 h3 h4=>?_
  exact ⟨rfl,h w2 (h1.after h2) h3 (by omega)⟩
theorem Xoi {b n o:Nat} {g:Nat→Value} {w:World} (hB:Blk w b n g) (ho:o<n) (hv:g o=.int .i32 0) {K:VWP}
    (h:∀ w',Fr [b] w w'→Blk w' b n (upd g o (.int .i32 1))→w'.heap.size=w.heap.size→K (.tuple #[]) w'):Xa Tryz.prog WC #[.pointer (some ⟨b,o,none⟩)] w K:=by
  apply VA
  refine Up ⟨rfl,_,rfl,?_⟩
  refine UF hB ho hv fun w1 h1 h2 h3=>?_
  refine ⟨_,rfl,X2 ?_⟩
  refine UG ⟨rfl,_,_,uns (by kernel_rfl) h2 ho,?_⟩
  exact QZ ⟨rfl,h w1 h1 h2 h3⟩
theorem Xkp {b n o:Nat} {g:Nat→Value} {w:World} (hB:Blk w b n g) (ho:o<n) (hv:g o=.int .i32 1) {K:VWP}
    (h:∀ w',Fr [b] w w'→Blk w' b n (upd g o (.int .i32 0))→w'.heap.size=w.heap.size→K (.tuple #[]) w'):Xa Tryz.prog VO #[.pointer (some ⟨b,o,none⟩)] w K:=by
  apply U9
  refine ⟨_,rfl,_,Ld.blk (by kernel_rfl) hB ho hv,_,_,uns (by kernel_rfl) hB ho,?_⟩
  refine VQ ⟨rfl,?_⟩
  refine Up ⟨rfl,_,rfl,?_⟩
  refine XaO hB ho hv fun w1 h1 h2 h3=>?_
  refine ⟨_,rfl,Xz ?_⟩
  exact UG ⟨rfl,h w1 h1 h2 h3⟩
theorem XfN {b n o:Nat} {g:Nat→Value} {w:World} (hB:Blk w b n g) (ho:o<n) (hv:g o=.int .i32 0) {K:VWP}
    (h:∀ w',Fr [b] w w'→Blk w' b n (upd g o (.int .i32 1))→w'.heap.size=w.heap.size→K (.tuple #[]) w'):Xa Tryz.prog Xfr #[.pointer (some ⟨b,o,none⟩)] w K:=by
  apply Xce
  refine ⟨_,rfl,?_⟩
  refine Xoi hB ho hv fun w1 h1 h2 h3=>?_
  exact ⟨rfl,h w1 h1 h2 h3⟩
theorem Xdy {b n o:Nat} {g:Nat→Value} {w:World} (hB:Blk w b n g) (ho:o<n) (hv:g o=.int .i32 1) {Q:VWP}
    (h:∀ w',Fr [b] w w'→Blk w' b n (upd g o (.int .i32 0))→w'.heap.size=w.heap.size→Q (.tuple #[]) w'):Us (some ⟨b,o,none⟩) w Q:=by
  refine ⟨_,rfl,?_⟩
  refine Xkp hB ho hv fun w1 h1 h2 h3=>?_
  exact ⟨rfl,h w1 h1 h2 h3⟩
theorem W0 {b n o:Nat} {g:Nat→Value} {w:World} {v:Value} (hB:Blk w b n g) (ho:o<n) (hv:g o=.int .u32 1) {K:VWP} (h:K (.tuple #[]) w) :
    Xa Tryz.prog VN #[.pointer (some ⟨b,o,none⟩),v] w K:=by
  apply WN
  refine ⟨_,rfl,?_⟩
  refine Zw hB ho hv ?_
  exact ⟨_,rfl,Xz h⟩
theorem Wr {b n o:Nat} {g:Nat→Value} {w:World} {v:Value} (hB:Blk w b n g) (ho:o+1<n) (hv:g o=.int .u32 0) (hm:g (o+1)=.int .i32 0) {K:VWP}
    (h:∀ w',Fr [b] w w'→Blk w' b n (upd g (o+1) (.int .i32 1))→w'.heap.size=w.heap.size→
      Yv Tryz.prog v [] w' fun r w1=>r=.tuple #[]∧∃ g',Blk w1 b n g'∧g' (o+1)=.int .i32 1∧
        ∀ w2,Fr [b] w1 w2→Blk w2 b n (upd (upd g' o (.int .u32 1)) (o+1) (.int .i32 0))→w2.heap.size=w1.heap.size→K (.tuple #[]) w2) :
    Xa Tryz.prog VN #[.pointer (some ⟨b,o,none⟩),v] w K:=by
  apply WN
  refine ⟨_,rfl,?_⟩
  refine Zw hB (by omega) hv ?_
  refine ⟨_,rfl,X2 ?_⟩
  apply Xbs
  refine ⟨_,rfl,?_⟩
  rw [Xi]
  refine XfN hB ho hm fun w1 h1 h2 h3=>?_
  refine ⟨rfl,_,rfl,_,rfl,?_⟩
  refine Zw h2 (by omega) (by rw [upd_ne _ _ _ (by omega)]; exact hv) ?_
  refine ⟨_,rfl,X2 ?_⟩
  refine ⟨_,rfl,?_⟩
  refine W2 ?_ (h w1 h1 h2 h3)
  rintro r w3 ⟨rfl,g',hB',hm',hk⟩
  refine ⟨rfl,?_⟩
  apply VS
  refine Wq hB' (by omega) fun w4 h4 h5 h6=>?_
  apply Q0
  rw [Xi]
  refine Xdy h5 ho (by rw [upd_ne _ _ _ (by omega)]; exact hm') fun w5 h7 h8 h9=>?_
  exact ⟨rfl,hk w5 (h4.trans h7 (fun _ h=>.inl h)) h8 (by omega)⟩
end Go.Sh
end

section
namespace Go.Sh
open Go Go.Fw Go.Proofs
set_option maxRecDepth 100000
set_option linter.unusedVariables false
theorem Jh {w:World} {p:Option Addr} {l c:Nat} {vs:List Value} (hR:Row w p vs) (hl:l=vs.length) (hb:l≤1000000) (h1:∀ v∈vs,v.oneCell'=true) {K:VWP}
    (h:∀ p' c' w',Fr [] w w'→OwnS w' p' l c' vs→(∀ k∈Xb p',w.heap.size≤k)→K (.slice p' l c') w'):Xa Tryz.prog Qv #[.slice p l c] w K:=by
  apply Wh
  refine ⟨_,_,sliceNil (by kernel_rfl),XR (fun hp=>?_) (fun hp=>?_)⟩
  · cases p with
    | some a=>cases hp
    | none=>
      rcases hR with rfl | ⟨b,o,hb,_⟩
      · subst hl; exact h none 0 w (Fr.refl _ _) (OwnS.nil w) (by simp [Xb])
      · cases hb
  · refine ⟨_,_,_,Ef.new (cs:=#[]) (v:=.slice (some ⟨w.heap.size,0,none⟩) 0 0) (e:=Jf) (by kernel_rfl) fun w1 h1' hB hs=>?_⟩
    have hO:OwnS w1 (some ⟨w.heap.size,0,none⟩) 0 0 []:=⟨rfl,.inr ⟨_,_,_,_,rfl,hB,by simp,by simp,by simp⟩⟩
    obtain ⟨p',c',w',he,hO',hf,hcase⟩:=Ef.append (P:=Tryz.prog) (t:=Xg) (ty:=Xg) (by kernel_rfl) hO (d:=c) (hR.fr0 h1') hl h1 (by omega)
    rw [Nat.zero_add] at he hO'
    refine ⟨_,_,_,_,he,?_⟩
    refine h p' c' w' ?_ hO' ?_
    · exact (h1'.mono (by simp)).trans hf (by simp [Xb])
    · rcases hcase with ⟨rfl,_,_⟩ | ⟨rfl,_,_⟩
      · simp [Xb]
      · simp only [Xb,List.mem_singleton]; rintro k rfl; omega
end Go.Sh
end

section
namespace Go.Sh
open Go Go.Fw Go.Proofs
set_option maxRecDepth 100000
set_option linter.unusedVariables false
def Xkq:Nat→UInt8→UInt64→UInt8→UInt8
  | 0,_,_,out=>out
  | k+1,a,n,out=>if n=0 then out else Xkq k (Xl a a) (n >>> 1) (if (n &&& 1) != 0 then Xl out a else out)
def Vt (a:UInt8) (n:UInt64):UInt8:=Xkq 64 a n 1
def ZZ (a:UInt8):UInt8:=Vt a 254
def Xrc (l:List UInt8):UInt8:=l.foldl (fun x y=>x ^^^ y) 0
def rot (a:UInt8) (k:Nat):UInt8:=(a <<< UInt8.ofNat k) ||| (a >>> UInt8.ofNat (8 - k))
def XE (a:UInt8):UInt8:=let b:=ZZ a; Xrc [b,rot b 1,rot b 2,rot b 3,rot b 4,99]
theorem Xuv (x y:UInt64):((x.toNat:Int) == (y.toNat:Int))=(x == y):=by
  rw [Bool.eq_iff_iff]; simp [Xw0]
theorem Xuw (a:UInt8) (n:UInt64) (w:World) (K:VWP) (h:K (vb (Vt a n)) w):Xa Tryz.prog Xpi #[vb a,vw n] w K:=by
  apply XjU
  unfold XkL
  refine LoopS.ind (fun k us w'=>w'=w∧∃ (x:UInt8) (y:UInt64) (out:UInt8),us=[vb x,vw y,.int .u8 0,vb out]∧y.toNat<2 ^ k∧Xkq k x y out=Vt a n) 64 ⟨rfl,a,n,1,rfl,n.toNat_lt,rfl⟩ ?_
  rintro k us r w' I μ hgo ⟨rfl,x,y,out,rfl,hy,hm⟩
  refine ⟨_,_,_,_,rfl,?_⟩
  have e4:((y.toNat:Int) != 0)=(y != 0):=by rw [bne,bne]; exact congrArg not (Xuv y 0)
  rw [e4]
  cases k with
  | zero=>
    have:y=0:=by rw [← UInt64.toNat_inj]; simpa using hy
    subst this
    have hm:out=Vt a n:=hm
    subst hm
    exact h
  | succ k=>
    refine XR (fun h1=>?_) (fun h1=>?_)
    · have hne:y≠0:=by simpa using h1
      have e1:(J0 .u64 (y.toNat:Int) 1)=((y &&& 1).toNat:Int):=Xup y 1
      have e5:(((y &&& 1).toNat:Int) != 0)=((y &&& 1) != 0):=by rw [bne,bne]; exact congrArg not (Xuv (y &&& 1) 0)
      have e2:Int.fdiv (y.toNat:Int) (2 ^ 1)=((y >>> 1).toNat:Int):=XwD y 1 (by omega)
      have hy2:(y >>> 1).toNat<2 ^ k:=by
        have:(y >>> 1).toNat=y.toNat >>> 1:=UInt64.toNat_shiftRight y 1
        rw [this,Nat.shiftRight_eq_div_pow]
        rw [Nat.pow_succ] at hy
        omega
      unfold Xkq at hm
      rw [if_neg hne] at hm
      rw [e1,e5,e2]
      refine XR (fun h2=>?_) (fun h2=>?_)
      · rw [h2] at hm
        refine Xmk _ _ _ _ ⟨_,rfl,Xmk _ _ _ _ ⟨_,rfl,hgo _ _ _ k (by omega) ⟨rfl,_,_,_,rfl,hy2,?_⟩⟩⟩
        exact hm
      · rw [h2] at hm
        refine Xmk _ _ _ _ ⟨_,rfl,hgo _ _ _ k (by omega) ⟨rfl,_,_,_,rfl,hy2,?_⟩⟩
        exact hm
    · have:y=0:=by simpa using h1
      subst this
      have hm:out=Vt a n:=hm
      subst hm
      exact h
theorem XwM (a:UInt8) (w:World) (K:VWP) (h:K (vb (ZZ a)) w):Xa Tryz.prog Xpk #[vb a] w K:=by
  apply XjW
  exact Xuw a 254 w _ ⟨_,rfl,h⟩
theorem XwN {w:World} {p:Option Addr} {l c:Nat} {xs:List UInt8} (hR:Row w p (xs.map vb)) (hl:l=xs.length) (hb:l≤1000000) {K:VWP} (h:K (vb (Xrc xs)) w):Xa Tryz.prog Xpl #[.slice p l c] w K:=by
  apply XjX
  unfold XkN
  refine LoopS.ind (fun k us w'=>w'=w∧∃ i:Nat,i+k=l∧us=[.int .u8 0,vb ((xs.take i).foldl (fun x y=>x ^^^ y) 0),.slice p l c,.int .i64 (l:Nat),.int .i64 (i:Nat)]) l ⟨rfl,0,by omega,rfl⟩ ?_
  rintro k us r w' I μ hgo ⟨rfl,i,hi,rfl⟩
  refine ⟨_,_,_,_,_,_,_,rfl,Xc (fun h1=>?_) (fun h1=>?_)⟩
  · have hil:i<xs.length:=by omega
    obtain ⟨a,hix,hc⟩:=ixR (P:=Tryz.prog) (t:=Xg) (by kernel_rfl) hR (cap:=c) (k:=.i64) (i:=(i:Int)) (by simpa using hl) (by omega) h1 (v:=vb xs[i]) (by simp [hil])
    refine ⟨a,hix,_,Ld.cell (by kernel_rfl) hc,?_⟩
    refine hgo _ _ _ (k - 1) (by omega) ⟨rfl,i+1,by omega,?_⟩
    rw [UV,Xe (by omega) (by omega),List.take_succ_eq_append_getElem hil,List.foldl_append]
    rfl
  · have hil:i=xs.length:=by omega
    subst hil
    rw [List.take_length]
    exact h
theorem XcC (a:UInt8) (k:Nat) (h0:0<k) (h8:k<8) (w:World) (K:VWP) (h:∀ w',Fr [] w w'→w'.heap.size=w.heap.size→K (vb (rot a k)) w'):Xa Tryz.prog XjS #[vb a,.int .i64 (k:Nat)] w K:=by
  apply Xft
  refine Drw.intro fun w1 h1 h2=>?_
  have e1:min ((k:Int)).toNat IntKind.u8.bits=k:=by simp [IntKind.bits]; omega
  have e0:IntKind.i64.wrap (8 - (k:Int))=((8 - k:Nat):Int):=by rw [Xe (by omega) (by omega)]; omega
  have e2:min (((8 - k:Nat):Int)).toNat IntKind.u8.bits=8 - k:=by simp [IntKind.bits]
  refine ⟨_,Pu.shl (by omega),?_⟩
  rw [e0]
  refine ⟨_,Pu.shr (by omega),?_⟩
  rw [e1,e2,XvK a k (by omega),XvJ a (8 - k) (by omega),or8]
  exact h w1 h1 h2
theorem XvY (a:UInt8) (w:World) (K:VWP) (h:∀ w',Fr [] w w'→K (vb (XE a)) w'):Xa Tryz.prog XnM #[vb a] w K:=by
  apply Xh5
  refine XwM a w _ ⟨_,rfl,?_⟩
  refine XcC _ 1 (by omega) (by omega) w _ fun w1 h1 _=>⟨_,rfl,?_⟩
  refine XcC _ 2 (by omega) (by omega) w1 _ fun w2 h2 _=>⟨_,rfl,?_⟩
  refine XcC _ 3 (by omega) (by omega) w2 _ fun w3 h3 _=>⟨_,rfl,?_⟩
  refine XcC _ 4 (by omega) (by omega) w3 _ fun w4 h4 _=>⟨_,rfl,?_⟩
  refine ⟨_,_,_,Ef.new (v:=.slice (some ⟨w4.heap.size,0,none⟩) 6 6) (cs:=(([ZZ a,rot (ZZ a) 1,rot (ZZ a) 2,rot (ZZ a) 3,rot (ZZ a) 4,99]:List UInt8).map vb).toArray) (e:=Jf) (by kernel_rfl) fun w5 h5 hB _=>?_⟩
  refine XwN (l:=6) hB.rowL rfl (by omega) ⟨_,rfl,?_⟩
  exact h w5 ((((h1.then h2).then h3).then h4).then h5)
end Go.Sh
end

section
namespace Go.Sh
open Go Go.Fw Go.Proofs
set_option maxRecDepth 100000
theorem Zh (a:UInt8):a ^^^ a=0:=UInt8.xor_self
theorem Zc (a b c:UInt8):a ^^^ b ^^^ c=a ^^^ (b ^^^ c):=UInt8.xor_assoc a b c
theorem Ws (a b:UInt8):a ^^^ b=b ^^^ a:=UInt8.xor_comm a b
theorem XeN (a b c:UInt8):a ^^^ (b ^^^ c)=b ^^^ (a ^^^ c):=by rw [← Zc,Ws a b,Zc]
theorem XaB (a:UInt8):0 ^^^ a=a:=UInt8.zero_xor
theorem XeO (x:UInt8) (k:Nat) (hk:k<8):x &&& (1 <<< UInt8.ofNat k)=0∨x &&& (1 <<< UInt8.ofNat k)=1 <<< UInt8.ofNat k:=by
  have h:=Xgq (p:=fun x=>(List.range 8).all fun k=>x &&& (1 <<< UInt8.ofNat k) == 0 || x &&& (1 <<< UInt8.ofNat k) == 1 <<< UInt8.ofNat k) (by kernel_rfl) x
  have h2:=List.all_eq_true.1 h k (by simpa using hk)
  simpa using h2
theorem XtI (x:UInt8):(List.range 8).foldl (fun s k=>s ^^^ (x &&& (1 <<< UInt8.ofNat k))) 0=x:=by
  have h:=Xgq (p:=fun x=>(List.range 8).foldl (fun s k=>s ^^^ (x &&& (1 <<< UInt8.ofNat k))) 0 == x) (by kernel_rfl) x
  simpa using h
theorem UX {p:UInt8→Prop} (h0:p 0) (hb:∀ k,k<8→p (1 <<< UInt8.ofNat k)) (hx:∀ x y,p x→p y→p (x ^^^ y)) (x:UInt8):p x:=by
  rw [← XtI x]
  have key:∀ (l:List Nat) (s:UInt8),(∀ k∈l,k<8)→p s→p (l.foldl (fun s k=>s ^^^ (x &&& (1 <<< UInt8.ofNat k))) s):=by
    intro l
    induction l with
    | nil=>exact fun s _ h=>h
    | cons k l ih=>
      intro s hl hs
      refine ih _ (fun j hj=>hl j (by simp [hj])) (hx _ _ hs ?_)
      rcases XeO x k (hl k (by simp)) with h | h <;> rw [h]
      · exact h0
      · exact hb k (hl k (by simp))
  exact key _ 0 (by simp) h0
theorem Xk3 (a:UInt8):a &&& 128=0∨a &&& 128=128:=XeO a 7 (by omega)
theorem Xk4 (a:UInt8):a &&& 1=0∨a &&& 1=1:=XeO a 0 (by omega)
theorem Xoj (a b c:UInt8):(a ^^^ b) &&& c=(a &&& c) ^^^ (b &&& c):=by
  rw [← UInt8.toBitVec_inj]; simp only [UInt8.toBitVec_and,UInt8.toBitVec_xor]
  apply BitVec.eq_of_getLsbD_eq
  intro i _
  simp only [BitVec.getLsbD_and,BitVec.getLsbD_xor]
  cases a.toBitVec.getLsbD i <;> cases b.toBitVec.getLsbD i <;> cases c.toBitVec.getLsbD i <;> rfl
theorem XtJ (a b:UInt8):(a ^^^ b) <<< 1=(a <<< 1) ^^^ (b <<< 1):=by
  rw [← UInt8.toBitVec_inj]; simp [BitVec.shiftLeft_xor_distrib]
theorem XtK (a b:UInt8):(a ^^^ b) >>> 1=(a >>> 1) ^^^ (b >>> 1):=by
  rw [← UInt8.toBitVec_inj]; simp [BitVec.ushiftRight_xor_distrib]
def ifb (t:Bool) (a:UInt8):UInt8:=if t then a else 0
theorem Xok (a:UInt8):dbl a=(a <<< 1) ^^^ ifb ((a &&& 128) != 0) 27:=by
  unfold dbl ifb
  cases (a &&& 128) != 0 <;> simp
theorem XuY (a b:UInt8):dbl (a ^^^ b)=dbl a ^^^ dbl b:=by
  rw [Xok,Xok,Xok,XtJ,Xoj]
  rcases Xk3 a with ha | ha <;> rcases Xk3 b with hb | hb <;> rw [ha,hb] <;> simp [ifb,Zc,Ws,XeN]
theorem XeP (n:Nat) (a o:UInt8):JT n a 0 o=o:=by cases n <;> simp [JT]
theorem Jo (n:Nat) (a b o:UInt8):JT (n+1) a b o=JT n (dbl a) (b >>> 1) (o ^^^ ifb ((b &&& 1) != 0) a):=by
  by_cases h:b=0
  · subst h
    rw [XeP]
    show o=JT n (dbl a) ((0:UInt8) >>> 1) (o ^^^ ifb false a)
    rw [show ((0:UInt8) >>> 1)=0 from rfl,XeP]
    simp [ifb]
  · rw [JT,if_neg h]
    unfold ifb
    cases (b &&& 1) != 0 <;> simp
theorem VV (n:Nat):∀ (a b o c:UInt8),JT n a b (o ^^^ c)=JT n a b o ^^^ c:=by
  induction n with
  | zero=>intros; rfl
  | succ n ih=>
    intro a b o c
    rw [Jo,Jo,Zc,Ws c,← Zc,ih]
theorem Xso (n:Nat):∀ (a a' b:UInt8),JT n (a ^^^ a') b 0=JT n a b 0 ^^^ JT n a' b 0:=by
  induction n with
  | zero=>intros; exact (Zh 0).symm
  | succ n ih=>
    intro a a' b
    rw [Jo,Jo,Jo,VV,VV,VV,XuY,ih]
    cases (b &&& 1) != 0 <;> simp [ifb,Zc,Ws,XeN]
theorem Xrd (n:Nat):∀ (a b b':UInt8),JT n a (b ^^^ b') 0=JT n a b 0 ^^^ JT n a b' 0:=by
  induction n with
  | zero=>intros; exact (Zh 0).symm
  | succ n ih=>
    intro a b b'
    rw [Jo,Jo,Jo,VV,VV,VV,XtK,ih,Xoj]
    rcases Xk4 b with hb | hb <;> rcases Xk4 b' with hb' | hb' <;> rw [hb,hb'] <;> simp [ifb,Zc,Ws,XeN]
    rw [← Zc a a,Zh,XaB]
theorem ZE (a a' b:UInt8):Xl (a ^^^ a') b=Xl a b ^^^ Xl a' b:=Xso 8 a a' b
theorem ZF (a b b':UInt8):Xl a (b ^^^ b')=Xl a b ^^^ Xl a b':=Xrd 8 a b b'
theorem Jp (a:UInt8):Xl a 0=0:=XeP 8 a 0
theorem Ue (b:UInt8):Xl 0 b=0:=by
  have:=ZE 0 0 b
  rw [Zh,Zh] at this
  exact this
theorem ZG (a b:UInt8):Xl a b=Xl b a:=by
  refine UX (p:=fun a=>Xl a b=Xl b a) (by rw [Jp,Ue]) (fun k hk=>?_) (fun x y hx hy=>by rw [ZE,ZF,hx,hy]) a
  refine UX (p:=fun b=>Xl (1 <<< UInt8.ofNat k) b=Xl b (1 <<< UInt8.ofNat k)) (by rw [Jp,Ue]) (fun j hj=>?_) (fun x y hx hy=>by rw [ZE,ZF,hx,hy]) b
  have h:((List.range 8).all fun k=>(List.range 8).all fun j=>Xl (1 <<< UInt8.ofNat k) (1 <<< UInt8.ofNat j) == Xl (1 <<< UInt8.ofNat j) (1 <<< UInt8.ofNat k))=true:=by kernel_rfl
  have h2:=List.all_eq_true.1 (List.all_eq_true.1 h k (by simpa using hk)) j (by simpa using hj)
  simpa using h2
theorem Vu (a b c:UInt8):Xl (Xl a b) c=Xl a (Xl b c):=by
  refine UX (p:=fun a=>Xl (Xl a b) c=Xl a (Xl b c)) (by simp only [Ue]) (fun k hk=>?_) (fun x y hx hy=>by rw [ZE,ZE,ZE,hx,hy]) a
  refine UX (p:=fun b=>Xl (Xl (1 <<< UInt8.ofNat k) b) c=Xl (1 <<< UInt8.ofNat k) (Xl b c)) (by simp only [Ue,Jp]) (fun j hj=>?_) (fun x y hx hy=>by rw [ZF,ZE,ZE,ZF,hx,hy]) b
  refine UX (p:=fun c=>Xl (Xl (1 <<< UInt8.ofNat k) (1 <<< UInt8.ofNat j)) c=Xl (1 <<< UInt8.ofNat k) (Xl (1 <<< UInt8.ofNat j) c)) (by simp only [Jp]) (fun i hi=>?_) (fun x y hx hy=>by rw [ZF,ZF,ZF,hx,hy]) c
  have h:((List.range 8).all fun k=>(List.range 8).all fun j=>(List.range 8).all fun i=>Xl (Xl (1 <<< UInt8.ofNat k) (1 <<< UInt8.ofNat j)) (1 <<< UInt8.ofNat i) == Xl (1 <<< UInt8.ofNat k) (Xl (1 <<< UInt8.ofNat j) (1 <<< UInt8.ofNat i)))=true:=by kernel_rfl
  have h2:=List.all_eq_true.1 (List.all_eq_true.1 (List.all_eq_true.1 h k (by simpa using hk)) j (by simpa using hj)) i (by simpa using hi)
  simpa using h2
theorem UY (a:UInt8):Xl a 1=a:=by
  have:=Xgq (p:=fun a=>Xl a 1 == a) (by kernel_rfl) a
  simpa using this
theorem XcD (a:UInt8):Xl 1 a=a:=by rw [ZG,UY]
theorem XeQ (a:UInt8) (h:a≠0):Xl a (ZZ a)=1:=by
  have:=Xgq (p:=fun a=>a == 0 || Xl a (ZZ a) == 1) (by kernel_rfl) a
  simpa [h] using this
theorem Xol (a b:UInt8):Xl a b=0↔a=0∨b=0:=by
  refine ⟨fun h=>?_,fun h=>by rcases h with rfl | rfl; exact Ue b; exact Jp a⟩
  by_cases ha:a=0
  · exact .inl ha
  · right
    have h2:Xl (ZZ a) (Xl a b)=b:=by rw [← Vu,ZG (ZZ a),XeQ a ha,XcD]
    rw [h,Jp] at h2
    exact h2.symm
def XM (a:UInt8):Nat→UInt8
  | 0=>1
  | k+1=>Xl (XM a k) a
theorem Xhb (a:UInt8) (m n:Nat):XM a (m+n)=Xl (XM a m) (XM a n):=by
  induction n with
  | zero=>exact (UY _).symm
  | succ n ih=>show Xl (XM a (m+n)) a=Xl (XM a m) (Xl (XM a n) a); rw [ih,Vu]
theorem XuZ (a:UInt8) (q:Nat):XM (Xl a a) q=XM a (2*q):=by
  induction q with
  | zero=>rfl
  | succ q ih=>
    show Xl (XM (Xl a a) q) (Xl a a)=XM a (2*q+1+1)
    rw [ih]
    show _=Xl (Xl (XM a (2*q)) a) a
    rw [Vu]
theorem XtL (a:UInt8) (m n:Nat):XM (XM a m) n=XM a (m*n):=by
  induction n with
  | zero=>rfl
  | succ n ih=>show Xl (XM (XM a m) n) (XM a m)=XM a (m*n+m); rw [ih,Xhb]
theorem Xsp (n:Nat):XM 0 (n+1)=0:=Jp _
theorem Xu0 (k:Nat):∀ (a:UInt8) (n:UInt64) (o:UInt8),n.toNat<2 ^ k→Xkq k a n o=Xl o (XM a n.toNat):=by
  induction k with
  | zero=>
    intro a n o h
    have:n.toNat=0:=by simpa using h
    rw [this]; exact (UY o).symm
  | succ k ih=>
    intro a n o h
    unfold Xkq
    by_cases hn:n=0
    · subst hn; rw [if_pos rfl]; exact (UY o).symm
    · rw [if_neg hn]
      have h1:(n >>> 1).toNat=n.toNat / 2:=by
        have:(n >>> 1).toNat=n.toNat >>> 1:=UInt64.toNat_shiftRight n 1
        rw [this,Nat.shiftRight_eq_div_pow]
      have h2:(n &&& 1).toNat=n.toNat % 2:=by
        have:(n &&& 1).toNat=n.toNat &&& 1:=UInt64.toNat_and n 1
        rw [this,Nat.and_one_is_mod]
      rw [ih _ _ _ (by rw [h1,Nat.pow_succ] at *; omega),h1,XuZ]
      have hd:n.toNat=2*(n.toNat / 2)+n.toNat % 2:=by omega
      rcases Nat.mod_two_eq_zero_or_one n.toNat with hm | hm
      · have hb : ((n &&& 1) != 0) = false := by
          have:n &&& 1=0:=by rw [← UInt64.toNat_inj,h2,hm]; rfl
          rw [this]; rfl
        rw [hb]
        simp only [Bool.false_eq_true,if_false]
        rw [show n.toNat=2*(n.toNat / 2) by omega]
        congr 2; omega
      · have hb : ((n &&& 1) != 0) = true := by
          have:n &&& 1=1:=by rw [← UInt64.toNat_inj,h2,hm]; rfl
          rw [this]; rfl
        rw [hb]
        simp only [if_true]
        have e:XM a n.toNat=Xl (XM a (2*(n.toNat / 2))) a:=by
          rw [show n.toNat=2*(n.toNat / 2)+1 by omega]
          show Xl (XM a _) a=_
          congr 2; omega
        rw [e,Vu,ZG a]
theorem Xkr (a:UInt8) (n:UInt64):Vt a n=XM a n.toNat:=by
  unfold Vt
  rw [Xu0 64 a n 1 n.toNat_lt,XcD]
theorem Xom (a:UInt8) (h:a≠0):XM a 255=1:=by
  have h1:ZZ a=XM a 254:=Xkr a 254
  show Xl (XM a 254) a=1
  rw [← h1,ZG,XeQ a h]
end Go.Sh
end

section
namespace Go.Sh
open Go Go.Fw Go.Proofs
set_option maxRecDepth 100000
set_option linter.unusedVariables false
def Xux (s:UInt8):UInt8:=rot s 1 ^^^ rot s 3 ^^^ rot s 6 ^^^ 5
theorem Xsq (a:UInt8):ZZ (Xux (XE a))=a:=by
  have:=Xgq (p:=fun a=>ZZ (Xux (XE a)) == a) (by kernel_rfl) a
  simpa using this
theorem Xsr {a b:UInt8} (h:XE a=XE b):a=b:=by rw [← Xsq a,h,Xsq b]
end Go.Sh
end

section
namespace Go.Sh
open Go Go.Fw Go.Proofs
set_option maxRecDepth 100000
set_option linter.unusedVariables false
theorem Xuy {i:Nat} (h:i<256):IntKind.u8.wrap (i:Int)=((UInt8.ofNat i).toNat:Int):=by
  rw [Xhs (by omega) (by omega)]; simp; omega
structure Tab (w:World) (b:Nat) (bl:List UInt8) (f:Nat→Value) (p:Option Addr) (c:Nat):Prop where
  blk:Blk w b 518 f
  by_:f 0=.slice p bl.length c
  row:Row w p (bl.map vb)
  apart:∀ k∈Xb p,k≠b
  mu:f 2=.int .i32 0
def Xml (w:World) (b:Nat) (bl:List UInt8) (f:Nat→Value) (n:Nat):Prop:=
  (∀ i,i<n→f (5+i)=vb (XE (UInt8.ofNat i)))∧(∀ i,i<n→f (261+(XE (UInt8.ofNat i)).toNat)=vb (UInt8.ofNat i)) 
def XeR (bl:List UInt8) (ft:Nat→Value) (n:Nat):Prop:=∀ k x,bl[k]?=some x→∀ i,i<n→ft (k*256+i)=vb (Xl (UInt8.ofNat i) x)
theorem Row.cells_fr {l:List Nat} {w w':World} {p:Option Addr} {vs:List Value} (h:Row w p vs) (hf:Fr l w w') (hn:∀ k∈Xb p,k∉l):Row w' p vs:=
  h.fr hf fun a ha=>hn _ (by subst ha; simp [Xb])
theorem XvZ {w:World} {b:Nat} {bl:List UInt8} {f:Nat→Value} {p:Option Addr} {c:Nat} (hB:Blk w b 518 f) (h0:f 0=.slice p bl.length c) (hR:Row w p (bl.map vb)) (hap:∀ k∈Xb p,k≠b) (hlt:∀ k∈Xb p,k<w.heap.size) (hm:f 4=.int .i64 0)
    (hbl:bl.length≤1000) {K:VWP}
    (h:∀ w' f' q ft,Fr [b] w w'→Blk w' b 518 f'→f' 0=f 0→f' 1=f 1→f' 2=f 2→f' 4=.int .i64 1→Xml w' b bl f' 256→f' 517=.slice (some ⟨q,0,none⟩) bl.length bl.length→w.heap.size≤q→Blk w' q (bl.length*256) ft→XeR bl ft 256→K (.tuple #[]) w') :
    Xa Tryz.prog Xdi #[.pointer (some ⟨b,0,none⟩)] w K:=by
  have hbw:=hB.lt
  apply XaM
  unfold WM
  refine ⟨_,rfl,?_⟩
  rw [Xi,Nat.zero_add]
  refine YG hB (by omega) hm fun w1 f1 hB1 s1=>?_
  refine ⟨_,rfl,_,rfl,p,bl.length,c,?_,?_⟩
  · rw [Xi]; exact Ld.blk (by kernel_rfl) hB1 (by omega) (by rw [upd_ne _ _ _ (by omega)]; exact h0)
  obtain ⟨ft0,w2,he,f2,hQ,s2⟩:=Ef.makeN (P:=Tryz.prog) (t:=Xh4) (s:=256) (by kernel_rfl) (w:=w1) (k:=.i64) (k':=.i64) (Nat.le_refl bl.length) (by omega)
  refine ⟨_,_,_,w2,he,_,rfl,?_⟩
  rw [Xi,Nat.zero_add]
  refine Sto.blk (by kernel_rfl) (hB1.fr0 f2) (by omega) rfl rfl fun w3 f3 hB3 s3=>?_
  have hq:w1.heap.size≠b:=by omega
  have f03:Fr [b] w w3:=(f1.then f2).trans f3 (fun _ h=>.inl h)
  have hQ3:=hQ.fr f3 (by simpa using hq)
  refine LoopS.ind (fun k us w'=>∃ i:Nat,i+k=256∧us=[.pointer (some ⟨b,0,none⟩),.int .i64 (i:Nat)]∧Fr [b,w1.heap.size] w3 w'∧∃ g gt,Blk w' b 518 g∧Blk w' w1.heap.size (bl.length*256) gt∧
    g 0=f 0∧g 1=f 1∧g 2=f 2∧g 4=.int .i64 1∧g 517=.slice (some ⟨w1.heap.size,0,none⟩) bl.length bl.length∧Xml w' b bl g i∧XeR bl gt i) 256
    ⟨0,rfl,rfl,Fr.refl _ _,_,_,hB3,hQ3,by simp [upd],by simp [upd],by simp [upd],by simp [upd,Xe],by simp [upd],⟨by omega,by omega⟩,fun _ _ _ _ h=>by omega⟩ ?_
  rintro k us r w4 I μ hgo ⟨i,hi,rfl,f4,g,gt,hB4,hQ4,g0,g1,g2,g4,g517,hok,hrows⟩
  refine ⟨_,_,rfl,Xc (fun h1=>?_) (fun h1=>?_)⟩
  · have hi256:i<256:=by omega
    rw [Xuy hi256]
    refine XvY _ _ _ fun w5 f5=>⟨_,rfl,_,rfl,_,YM (n:=256) (by kernel_rfl) (by omega) (by omega),?_⟩
    rw [Int.toNat_natCast,Nat.zero_add]
    refine Sto.blk (by kernel_rfl) (hB4.fr0 f5) (by omega) rfl rfl fun w6 f6 hB6 s6=>?_
    refine ⟨_,rfl,_,YM (n:=256) (by kernel_rfl) (by omega) (by have:=(XE (UInt8.ofNat i)).toNat_lt; omega),?_⟩
    rw [Int.toNat_natCast,Nat.zero_add]
    have hgl:=(XE (UInt8.ofNat i)).toNat_lt
    refine Sto.blk (by kernel_rfl) hB6 (by omega) rfl rfl fun w7 f7 hB7 s7=>?_
    have f47:Fr [b] w4 w7:=(f5.after f6).trans f7 (fun _ h=>.inl h)
    have f07:Fr [b,w1.heap.size] w3 w7:=f4.trans f47 (by simp)
    have hQ7:=hQ4.fr f47 (by simpa using hq)
    have hw3s:w3.heap.size=w1.heap.size+1:=by omega
    have fw7:Fr [b] w w7:=by
      refine ((f03.trans f07 ?_))
      intro x hx
      simp only [List.mem_cons,List.not_mem_nil,or_false] at hx
      rcases hx with rfl | rfl
      · exact .inl (by simp)
      · exact .inr f1.size
    refine ⟨_,rfl,p,bl.length,c,?_,?_⟩
    · rw [Xi]; exact Ld.blk (by kernel_rfl) hB7 (by omega) (by rw [upd_ne _ _ _ (by omega),upd_ne _ _ _ (by omega),g0]; exact h0)
    refine LoopS.ind (fun k2 us w'=>∃ m:Nat,m+k2=bl.length∧us=[.pointer (some ⟨b,0,none⟩),.int .i64 (i:Nat),.int .i64 (i:Nat),.slice p bl.length c,.int .i64 (bl.length:Nat),.int .i64 (m:Nat)]∧Fr [w1.heap.size] w7 w'∧
      ∃ gt',Blk w' w1.heap.size (bl.length*256) gt'∧XeR bl gt' i∧∀ k x,k<m→bl[k]?=some x→gt' (k*256+i)=vb (Xl (UInt8.ofNat i) x)) bl.length
      ⟨0,by omega,rfl,Fr.refl _ _,gt,hQ7,hrows,by omega⟩ ?_
    rintro k2 us r2 w8 I2 μ2 hgo2 ⟨m,hm2,rfl,f8,gt',hQ8,hr8,hd8⟩
    have hB8:=hB7.fr f8 (by simp; omega)
    have hR8:Row w8 p (bl.map vb):=by
      refine Row.cells_fr (Row.cells_fr hR fw7 (fun k hk=>by simpa using hap k hk)) f8 fun k hk=>?_
      have:=hlt k hk
      have:=f1.size
      simp; omega
    refine ⟨_,_,_,_,_,_,_,_,rfl,Xc (fun h2=>?_) (fun h2=>?_)⟩
    · have hml:m<bl.length:=by omega
      obtain ⟨a,hix,hc⟩:=ixR (P:=Tryz.prog) (t:=Xg) (by kernel_rfl) hR8 (cap:=c) (k:=.i64) (i:=(m:Int)) (len:=bl.length) (by simp) (by omega) (by omega) (v:=vb bl[m]) (by simp [hml])
      refine ⟨a,hix,_,Ld.cell (by kernel_rfl) hc,fun w'=>w'.cell? ⟨b,517,none⟩=some (.slice (some ⟨w1.heap.size,0,none⟩) bl.length bl.length),?_⟩
      refine Drw.intro fun w9 f9 s9=>?_
      have hB9:=hB8.fr0 f9
      have hc9:w9.cell? ⟨b,517,none⟩=some (.slice (some ⟨w1.heap.size,0,none⟩) bl.length bl.length):=by
        rw [hB9.cell (by omega),upd_ne _ _ _ (by omega),upd_ne _ _ _ (by omega),g517]
      refine ⟨_,rfl,_,_,_,⟨hc9,fun w' hw'=>by rw [Xi]; exact Ld.cell (by kernel_rfl) hw'⟩,_,ixS (s:=256) (by kernel_rfl) (by omega) (by omega),?_⟩
      rw [Xuy hi256]
      refine Xmk _ _ _ _ ⟨_,rfl,.inl rfl,_,YM (n:=256) (by kernel_rfl) (by omega) (by omega),?_⟩
      rw [Int.toNat_natCast,Int.toNat_natCast,Nat.zero_add]
      have hin:m*256+i<bl.length*256:=by
        have:(m+1)*256≤bl.length*256:=Nat.mul_le_mul_right _ hml
        omega
      refine Sto.blk (by kernel_rfl) (hQ8.fr0 f9) hin rfl rfl fun w10 f10 hQ10 s10=>?_
      refine hgo2 _ _ _ (k2 - 1) (by omega) ⟨m+1,by omega,by rw [Xe (by omega) (by omega)]; rfl,?_,_,hQ10,?_,?_⟩
      · exact (f8.then f9).trans f10 (fun _ h=>.inl h)
      · intro k x hx j hj
        rw [upd_ne _ _ _ (by omega)]
        exact hr8 k x hx j hj
      · intro k x hk hx
        by_cases hkm:k=m
        · subst hkm
          rw [upd_same]
          have:bl[k]=x:=by rw [List.getElem?_eq_getElem hml] at hx; exact Option.some.inj hx
          rw [this]
        · rw [upd_ne _ _ _ (by omega)]
          exact hd8 k x (by omega) hx
    · have hmb:m=bl.length:=by omega
      refine hgo _ _ _ (k - 1) (by omega) ⟨i+1,by omega,by rw [Xe (by omega) (by omega)]; rfl,f07.trans f8 (by simp),_,_,hB8,hQ8,?_,?_,?_,?_,?_,⟨?_,?_⟩,?_⟩
      · rw [upd_ne _ _ _ (by omega),upd_ne _ _ _ (by omega)]; exact g0
      · rw [upd_ne _ _ _ (by omega),upd_ne _ _ _ (by omega)]; exact g1
      · rw [upd_ne _ _ _ (by omega),upd_ne _ _ _ (by omega)]; exact g2
      · rw [upd_ne _ _ _ (by omega),upd_ne _ _ _ (by omega)]; exact g4
      · rw [upd_ne _ _ _ (by omega),upd_ne _ _ _ (by omega)]; exact g517
      · intro j hj
        rw [upd_ne _ _ _ (by omega)]
        by_cases hji:j=i
        · subst hji; rw [upd_same]
        · rw [upd_ne _ _ _ (by omega)]; exact hok.1 j (by omega)
      · intro j hj
        have hgj:=(XE (UInt8.ofNat j)).toNat_lt
        by_cases hji:j=i
        · subst hji; rw [upd_same]
        · have hne : (XE (UInt8.ofNat j)).toNat ≠ (XE (UInt8.ofNat i)).toNat := by
            intro he
            have h3:=Xsr (UInt8.toNat_inj.1 he)
            have h4:=congrArg UInt8.toNat h3
            simp at h4
            omega
          rw [upd_ne _ _ _ (by omega),upd_ne _ _ _ (by omega)]
          exact hok.2 j (by omega)
      · intro k x hx j hj
        by_cases hji:j=i
        · subst hji; exact hd8 k x (by have:=(List.getElem?_eq_some_iff.1 hx).1; omega) hx
        · exact hr8 k x hx j (by omega)
  · have hie:i=256:=by omega
    subst hie
    have fw:Fr [b] w w4:=by
      refine f03.trans f4 ?_
      intro x hx
      simp only [List.mem_cons,List.not_mem_nil,or_false] at hx
      rcases hx with rfl | rfl
      · exact .inl (by simp)
      · exact .inr f1.size
    exact h w4 g w1.heap.size gt fw hB4 g0 g1 g2 g4 hok g517 f1.size hQ4 hrows
end Go.Sh
end

section
namespace Go.Sh
open Go Go.Fw Go.Proofs
set_option maxRecDepth 100000
set_option linter.unusedVariables false
def TabAt (w:World) (b:Nat) (bl:List UInt8) (lo hi:Nat) (made:Bool):Prop:=
  ∃ f p c,Blk w b 518 f∧f 0=.slice p bl.length c∧Row w p (bl.map vb)∧f 2=.int .i32 0∧(∀ k∈Xb p,lo≤k∧k<b)∧lo≤b∧b<hi∧bl.length≤1000∧
    match made with
    | false=>f 1=.int .u32 0∧f 4=.int .i64 0
    | true=>f 1=.int .u32 1∧f 4=.int .i64 1∧Xml w b bl f 256∧∃ q ft,f 517=.slice (some ⟨q,0,none⟩) bl.length bl.length∧b<q∧q<hi∧Blk w q (bl.length*256) ft∧XeR bl ft 256
theorem TabAt.fr {w w':World} {b:Nat} {bl:List UInt8} {lo hi:Nat} {m:Bool} {l:List Nat} (h:TabAt w b bl lo hi m) (hf:Fr l w w') (hl:∀ k∈l,k<lo∨hi≤k):TabAt w' b bl lo hi m:=by
  obtain ⟨f,p,c,hB,h0,hR,h2,hp,hlo,hhi,hbl,hm⟩:=h
  refine ⟨f,p,c,hB.fr hf ?_,h0,Row.cells_fr hR hf ?_,h2,hp,hlo,hhi,hbl,?_⟩
  · intro hk; have:=hl _ hk; omega
  · intro k hk hkl; have:=hl _ hkl; have:=hp k hk; omega
  · cases m with
    | false=>exact hm
    | true=>
      obtain ⟨a1,a2,a3,q,ft,a4,a5,a6,a7,a8⟩:=hm
      refine ⟨a1,a2,a3,q,ft,a4,a5,a6,a7.fr hf ?_,a8⟩
      intro hk; have:=hl _ hk; omega
theorem TabAt.fr0 {w w':World} {b:Nat} {bl:List UInt8} {lo hi:Nat} {m:Bool} (h:TabAt w b bl lo hi m) (hf:Fr [] w w'):TabAt w' b bl lo hi m:=h.fr hf (by simp)
theorem TabAt.mono {w:World} {b:Nat} {bl:List UInt8} {lo hi lo' hi':Nat} {m:Bool} (h:TabAt w b bl lo hi m) (h1:lo'≤lo) (h2:hi≤hi'):TabAt w b bl lo' hi' m:=by
  obtain ⟨f,p,c,hB,h0,hR,h2',hp,hlo,hhi,hbl,hm⟩:=h
  refine ⟨f,p,c,hB,h0,hR,h2',fun k hk=>⟨by have:=hp k hk; omega,(hp k hk).2⟩,by omega,by omega,hbl,?_⟩
  cases m with
  | false=>exact hm
  | true=>obtain ⟨a1,a2,a3,q,ft,a4,a5,a6,a7,a8⟩:=hm; exact ⟨a1,a2,a3,q,ft,a4,a5,by omega,a7,a8⟩
theorem TabAt.lt {w:World} {b:Nat} {bl:List UInt8} {lo hi:Nat} {m:Bool} (h:TabAt w b bl lo hi m):b<w.heap.size∧lo≤b∧b<hi:=by
  obtain ⟨f,p,c,hB,h0,hR,h2',hp,hlo,hhi,hbl,hm⟩:=h
  exact ⟨hB.lt,hlo,hhi⟩
theorem Xp6 {P:Program} {g:FuncId} {v:Value} {w:World} {K:VWP} (h:Xa P g #[v] w K):Yv P (.func (.func g) #[v] #[]) [] w K:=Js h
end Go.Sh
end

section
namespace Go.Sh
open Go Go.Fw Go.Proofs
set_option maxRecDepth 100000
set_option linter.unusedVariables false
theorem cond_true {b:Bool} {A B:Prop} (hb:b=true) (h:A):cond b A B:=by subst hb; exact h
theorem cond_false {b:Bool} {A B:Prop} (hb:b=false) (h:B):cond b A B:=by subst hb; exact h
end Go.Sh
end

section
namespace Go.Sh
open Go Go.Fw Go.Proofs
set_option maxRecDepth 100000
set_option linter.unusedVariables false
theorem bz (a:UInt8):((a.toNat:Int) == 0)=(a == 0):=XmG a 0
end Go.Sh
end

section
namespace Go.Sh
open Go Go.Fw Go.Proofs
set_option maxRecDepth 100000
set_option linter.unusedVariables false
theorem Xre {i:Nat} (h:i<62):(2:Nat) ^ i<9223372036854775808:=Nat.lt_of_lt_of_le (Nat.pow_lt_pow_right (by omega) h) (by decide)
theorem ZH {n:Nat} (h:n<9223372036854775808):IntKind.i64.wrap (n:Int)=(n:Int):=Xe (by omega) (by omega)
theorem U8 {i:Nat} (h:i<62):IntKind.i64.wrap (1*2 ^ min (IntKind.u64.wrap (i:Int)).toNat IntKind.i64.bits)=((2 ^ i:Nat):Int):=by
  have e1:IntKind.u64.wrap (i:Int)=(i:Int):=XC (by omega) (by omega)
  have e2:min ((i:Int)).toNat IntKind.i64.bits=i:=by simp [IntKind.bits]; omega
  have e3:((2:Int) ^ i)=((2 ^ i:Nat):Int):=by simp
  have:=Xre h
  rw [e1,e2,Int.one_mul,e3]
  exact ZH this
theorem XcE (a b:Nat):Int.tdiv (a:Int) (b:Int)=((a / b:Nat):Int):=rfl
theorem Xv0 (x y:Nat) (hx:x<2 ^ 62) (hy:y<2 ^ 62):YE .i64 (x:Int) (y:Int)=((x ^^^ y:Nat):Int):=by
  have hz:x ^^^ y<2 ^ 62:=Nat.xor_lt_two_pow hx hy
  show IntKind.i64.wrap (((BitVec.ofInt 64 (x:Int) ^^^ BitVec.ofInt 64 (y:Int)).toNat:Nat):Int)=_
  rw [Yg,Yg,BitVec.toNat_xor,BitVec.toNat_ofNat,BitVec.toNat_ofNat,Nat.mod_eq_of_lt (by omega),Nat.mod_eq_of_lt (by omega)]
  exact ZH (by omega)
def rm1 (a b:Nat):Nat→Nat
  | 0=>0
  | i+1=>if b.testBit i then rm1 a b i ^^^ (a*2 ^ i) else rm1 a b i
def rm2 (n:Nat):Nat→Nat
  | 0=>n
  | j+1=>if (rm2 n j).testBit (14 - j) then rm2 n j ^^^ (283*2 ^ (6 - j)) else rm2 n j
theorem Xss (a b:Nat) (ha:a<256):∀ i,i≤8→rm1 a b i<2 ^ 16:=by
  intro i
  induction i with
  | zero=>intro _; show 0<2 ^ 16; omega
  | succ i ih=>
    intro hi
    have h1:=ih (by omega)
    have h2:a*2 ^ i<2 ^ 16:=by
      have h3:2 ^ i≤2 ^ 7:=Nat.pow_le_pow_right (by omega) (by omega)
      have h4:a*2 ^ i≤255*2 ^ 7:=Nat.mul_le_mul (by omega) h3
      omega
    unfold rm1
    split
    · exact Nat.xor_lt_two_pow h1 h2
    · exact h1
theorem Xv1 (n:Nat) (hn:n<2 ^ 16):∀ j,rm2 n j<2 ^ 16:=by
  intro j
  induction j with
  | zero=>exact hn
  | succ j ih=>
    have h2:283*2 ^ (6 - j)<2 ^ 16:=by
      have h3:2 ^ (6 - j)≤2 ^ 6:=Nat.pow_le_pow_right (by omega) (by omega)
      omega
    unfold rm2
    split
    · exact Nat.xor_lt_two_pow ih h2
    · exact ih
def Uv (a b:UInt8):UInt8:=UInt8.ofNat (rm2 (rm1 a.toNat b.toNat 8) 7)
theorem Xon (n:Nat):(((n:Nat):Int) == 1)=decide (n=1):=by
  rw [Bool.eq_iff_iff]; simp; omega
theorem Xst (x y i:Nat):(x ^^^ y)*2 ^ i=(x*2 ^ i) ^^^ (y*2 ^ i):=by
  rw [← Nat.shiftLeft_eq,← Nat.shiftLeft_eq,← Nat.shiftLeft_eq,Nat.shiftLeft_xor_distrib]
theorem XtM (x y b:Nat):∀ i,rm1 (x ^^^ y) b i=rm1 x b i ^^^ rm1 y b i:=by
  intro i
  induction i with
  | zero=>exact (Nat.xor_self 0).symm
  | succ i ih=>
    unfold rm1
    rw [ih,Xst]
    split
    · ac_rfl
    · rfl
theorem Xsu (a x y:Nat):∀ i,rm1 a (x ^^^ y) i=rm1 a x i ^^^ rm1 a y i:=by
  intro i
  induction i with
  | zero=>exact (Nat.xor_self 0).symm
  | succ i ih=>
    unfold rm1
    rw [ih,Nat.testBit_xor]
    cases x.testBit i <;> cases y.testBit i <;> simp <;> try ac_rfl
    have e:∀ p q r:Nat,p ^^^ q=(p ^^^ r) ^^^ (q ^^^ r):=by
      intro p q r
      have:(p ^^^ r) ^^^ (q ^^^ r)=(p ^^^ q) ^^^ (r ^^^ r):=by ac_rfl
      rw [this,Nat.xor_self,Nat.xor_zero]
    exact e _ _ _
theorem Xp7 (x y:Nat):∀ j,rm2 (x ^^^ y) j=rm2 x j ^^^ rm2 y j:=by
  intro j
  induction j with
  | zero=>rfl
  | succ j ih=>
    unfold rm2
    rw [ih,Nat.testBit_xor]
    cases (rm2 x j).testBit (14 - j) <;> cases (rm2 y j).testBit (14 - j) <;> simp <;> try ac_rfl
    have e:∀ p q r:Nat,p ^^^ q=(p ^^^ r) ^^^ (q ^^^ r):=by
      intro p q r
      have:(p ^^^ r) ^^^ (q ^^^ r)=(p ^^^ q) ^^^ (r ^^^ r):=by ac_rfl
      rw [this,Nat.xor_self,Nat.xor_zero]
    exact e _ _ _
theorem Xk5 (x y:Nat):UInt8.ofNat (x ^^^ y)=UInt8.ofNat x ^^^ UInt8.ofNat y:=by
  rw [← UInt8.toNat_inj,UInt8.toNat_xor]
  simp only [UInt8.toNat_ofNat']
  exact Nat.xor_mod_two_pow
theorem Xu1 (a b:UInt8):Uv a b=Xl a b:=by
  have l:∀ x y b,Uv (x ^^^ y) b=Uv x b ^^^ Uv y b:=by
    intro x y b
    unfold Uv
    rw [UInt8.toNat_xor,XtM,Xp7,Xk5]
  have r:∀ a x y,Uv a (x ^^^ y)=Uv a x ^^^ Uv a y:=by
    intro a x y
    unfold Uv
    rw [UInt8.toNat_xor,Xsu,Xp7,Xk5]
  have z1:∀ b,Uv 0 b=0:=by intro b; have:=l 0 0 b; rw [Zh,Zh] at this; exact this
  have z2:∀ a,Uv a 0=0:=by intro a; have:=r a 0 0; rw [Zh,Zh] at this; exact this
  refine UX (p:=fun a=>Uv a b=Xl a b) (by rw [z1,Ue]) (fun k hk=>?_) (fun x y hx hy=>by rw [l,ZE,hx,hy]) a
  refine UX (p:=fun b=>Uv (1 <<< UInt8.ofNat k) b=Xl (1 <<< UInt8.ofNat k) b) (by rw [z2,Jp]) (fun j hj=>?_) (fun x y hx hy=>by rw [r,ZF,hx,hy]) b
  have h:((List.range 8).all fun k=>(List.range 8).all fun j=>Uv (1 <<< UInt8.ofNat k) (1 <<< UInt8.ofNat j) == Xl (1 <<< UInt8.ofNat k) (1 <<< UInt8.ofNat j))=true:=by kernel_rfl
  have h2:=List.all_eq_true.1 (List.all_eq_true.1 h k (by simpa using hk)) j (by simpa using hj)
  simpa using h2
theorem Xhc (a b:UInt8) (w:World) (K:VWP) (h:K (vb (Xl a b)) w):Xa Tryz.prog Xpd #[vb a,vb b] w K:=by
  rw [← Xu1] at h
  have ha:=a.toNat_lt
  have hb:=b.toNat_lt
  apply XjY
  unfold XkO
  refine LoopS.ind (fun k us w'=>w'=w∧∃ i:Nat,i+k=8∧us=[vb a,vb b,.int .u8 0,.int .i64 ((rm1 a.toNat b.toNat i:Nat):Int),.int .i64 (i:Int)]) 8 ⟨rfl,0,rfl,rfl⟩ ?_
  rintro k us r w' I μ hgo ⟨rfl,i,hi,rfl⟩
  refine ⟨_,_,_,_,_,rfl,Xc (fun h1=>?_) (fun h1=>?_)⟩
  · have hi8:i<8:=by omega
    have hp:=Xre (i:=i) (by omega)
    have hpos:0<2 ^ i:=Nat.two_pow_pos i
    have hl1:=Xss a.toNat b.toNat ha i (by omega)
    refine ⟨_,Pu.shl (by rw [XC (by omega) (by omega)]; omega),?_⟩
    rw [U8 (by omega),ZH (n:=b.toNat) (by omega)]
    refine ⟨_,Pu.quo (by omega),?_⟩
    have hq:b.toNat / 2 ^ i≤b.toNat:=Nat.div_le_self _ _
    rw [XcE,ZH (by omega)]
    have e2:Int.tmod ((b.toNat / 2 ^ i:Nat):Int) 2=((b.toNat / 2 ^ i % 2:Nat):Int):=rfl
    rw [e2,Xon,← Nat.testBit_eq_decide_div_mod_eq]
    have hm:a.toNat*2 ^ i<2 ^ 16:=by
      have h3:2 ^ i≤2 ^ 7:=Nat.pow_le_pow_right (by omega) (by omega)
      have h4:a.toNat*2 ^ i≤255*2 ^ 7:=Nat.mul_le_mul (by omega) h3
      omega
    refine XR (fun h2=>?_) (fun h2=>?_)
    · refine ⟨_,Pu.shl (by rw [XC (by omega) (by omega)]; omega),?_⟩
      rw [U8 (by omega),ZH (n:=a.toNat) (by omega),← Int.natCast_mul,ZH (by omega),Xv0 _ _ (by omega) (by omega),Xe (by omega) (by omega)]
      refine hgo _ _ _ (k - 1) (by omega) ⟨rfl,i+1,by omega,?_⟩
      have e3:rm1 a.toNat b.toNat (i+1)=rm1 a.toNat b.toNat i ^^^ (a.toNat*2 ^ i):=by rw [rm1,if_pos h2]
      rw [e3]; rfl
    · rw [Xe (by omega) (by omega)]
      refine hgo _ _ _ (k - 1) (by omega) ⟨rfl,i+1,by omega,?_⟩
      have e3:rm1 a.toNat b.toNat (i+1)=rm1 a.toNat b.toNat i:=by rw [rm1,h2]; rfl
      rw [e3]; rfl
  · have hi8:i=8:=by omega
    subst hi8
    have hn:=Xss a.toNat b.toNat ha 8 (by omega)
    unfold Xee
    refine LoopS.ind (fun k us w2=>w2=w'∧∃ j:Nat,j+k=7∧us=[.int .u8 0,.int .i64 ((rm2 (rm1 a.toNat b.toNat 8) j:Nat):Int),.int .i64 ((14 - j:Nat):Int)]) 7 ⟨rfl,0,rfl,rfl⟩ ?_
    rintro k2 us2 r2 w2 I2 μ2 hgo2 ⟨rfl,j,hj,rfl⟩
    have hl2:=Xv1 _ hn j
    refine ⟨_,_,_,rfl,Xc (fun h3=>?_) (fun h3=>?_)⟩
    · have hj7:j<7:=by omega
      have hp:=Xre (i:=14 - j) (by omega)
      have hpos:0<2 ^ (14 - j):=Nat.two_pow_pos _
      refine ⟨_,Pu.shl (by rw [XC (by omega) (by omega)]; omega),?_⟩
      rw [U8 (by omega)]
      refine ⟨_,Pu.quo (by omega),?_⟩
      have hq:rm2 (rm1 a.toNat b.toNat 8) j / 2 ^ (14 - j)≤rm2 (rm1 a.toNat b.toNat 8) j:=Nat.div_le_self _ _
      rw [XcE,ZH (by omega)]
      have e2:Int.tmod ((rm2 (rm1 a.toNat b.toNat 8) j / 2 ^ (14 - j):Nat):Int) 2=((rm2 (rm1 a.toNat b.toNat 8) j / 2 ^ (14 - j) % 2:Nat):Int):=rfl
      rw [e2,Xon,← Nat.testBit_eq_decide_div_mod_eq]
      have e14:((14 - j:Nat):Int) - 1=((14 - (j+1):Nat):Int):=by omega
      refine XR (fun h4=>?_) (fun h4=>?_)
      · have e6:IntKind.i64.wrap (((14 - j:Nat):Int) - 8)=((6 - j:Nat):Int):=by rw [Xe (by omega) (by omega)]; omega
        have h6:283*2 ^ (6 - j)<2 ^ 16:=by
          have h3:2 ^ (6 - j)≤2 ^ 6:=Nat.pow_le_pow_right (by omega) (by omega)
          omega
        rw [e6]
        refine ⟨_,Pu.shl (by rw [XC (by omega) (by omega)]; omega),?_⟩
        have e283:(283:Int)*((2 ^ (6 - j):Nat):Int)=((283*2 ^ (6 - j):Nat):Int):=by rw [Int.natCast_mul]; rfl
        rw [U8 (by omega),e283,ZH (by omega),Xv0 _ _ (by omega) (by omega),Xe (by omega) (by omega),e14]
        refine hgo2 _ _ _ (k2 - 1) (by omega) ⟨rfl,j+1,by omega,?_⟩
        have e3:rm2 (rm1 a.toNat b.toNat 8) (j+1)=rm2 (rm1 a.toNat b.toNat 8) j ^^^ (283*2 ^ (6 - j)):=by rw [rm2,if_pos h4]
        rw [e3]
      · rw [Xe (by omega) (by omega),e14]
        refine hgo2 _ _ _ (k2 - 1) (by omega) ⟨rfl,j+1,by omega,?_⟩
        have e3:rm2 (rm1 a.toNat b.toNat 8) (j+1)=rm2 (rm1 a.toNat b.toNat 8) j:=by rw [rm2,h4]; rfl
        rw [e3]
    · have hj7:j=7:=by omega
      subst hj7
      have e:IntKind.u8.wrap ((rm2 (rm1 a.toNat b.toNat 8) 7:Nat):Int)=((Uv a b).toNat:Int):=by
        rw [IntKind.wrap_u8]; unfold Uv; simp
      rw [e]
      exact h
end Go.Sh
end

section
namespace Go.Sh
open Go Go.Fw Go.Proofs
set_option maxRecDepth 100000
set_option linter.unusedVariables false
theorem Xsv (a x:UInt8) (h:Xl a x=1):x=ZZ a:=by
  have ha:a≠0:=by intro ha; subst ha; rw [Ue] at h; cases h
  have h2:Xl (ZZ a) (Xl a x)=x:=by rw [← Vu,ZG (ZZ a),XeQ a ha,XcD]
  rw [h,UY] at h2
  exact h2.symm
theorem Xsw:ZZ 0=0:=by kernel_rfl
theorem XtN (n:Nat):XM 1 n=1:=by
  induction n with
  | zero=>rfl
  | succ n ih=>show Xl (XM 1 n) 1=1; rw [UY,ih]
theorem Xoo (a:UInt8) (ha:a≠0) (n:Nat):XM a (n % 255)=XM a n:=by
  have h:n=255*(n / 255)+n % 255:=by omega
  have h2:XM a n=Xl (XM a (255*(n / 255))) (XM a (n % 255)):=by rw [← Xhb,← h]
  rw [h2,← XtL,Xom a ha,XtN,XcD]
theorem XtO (a:UInt8) (n:UInt64) (w:World) (K:VWP) (h:K (vb (Vt a n)) w):Xa Tryz.prog Xph #[vb a,vw n] w K:=by
  rw [Xkr] at h
  have hnl:=n.toNat_lt
  apply XjZ
  unfold XkP
  refine Yn (fun h0=>?_) (fun h0=>?_)
  · have h1:n.toNat=0:=by omega
    rw [h1] at h
    exact h
  · have h1:n.toNat≠0:=by omega
    rw [bz]
    refine XR (fun ha=>?_) (fun ha=>?_)
    · have ha':a=0:=by simpa using ha
      subst ha'
      obtain ⟨m,hm⟩:=Nat.exists_eq_succ_of_ne_zero h1
      rw [hm,Xsp] at h
      exact h
    · have ha':a≠0:=by simpa using ha
      have hlt:n.toNat % 255<255:=Nat.mod_lt _ (by omega)
      have e2:Int.tmod (n.toNat:Int) 255=((n.toNat % 255:Nat):Int):=rfl
      refine LoopS.ind (fun k us w'=>w'=w∧∃ i:Nat,i+k=n.toNat % 255∧us=[vb a,vw n,.int .u8 0,vb (XM a i),.int .u64 (i:Int)]) (n.toNat % 255) ⟨rfl,0,by omega,rfl⟩ ?_
      rintro k us r w' I μ hgo ⟨rfl,i,hi,rfl⟩
      refine ⟨_,_,_,_,_,rfl,?_⟩
      rw [e2]
      refine Xc (fun h3=>?_) (fun h3=>?_)
      · refine Xhc _ a _ _ ⟨_,rfl,?_⟩
        rw [XC (by omega) (by omega)]
        exact hgo _ _ _ (k - 1) (by omega) ⟨rfl,i+1,by omega,rfl⟩
      · have hie:i=n.toNat % 255:=by omega
        subst hie
        rw [Xoo a ha'] 
        exact h
end Go.Sh
end

section
namespace Go.Sh
open Go Go.Fw Go.Proofs
set_option maxRecDepth 100000
set_option linter.unusedVariables false
def rsn (b k:Nat):Nat→Nat
  | 0=>99 / 2 ^ k % 2+b / 2 ^ k % 2
  | j+1=>rsn b k j+b / 2 ^ ((k+(4+j)) % 8) % 2
def rsg (b:Nat):Nat→Nat
  | 0=>0
  | k+1=>rsg b k+rsn b k 4 % 2*2 ^ k
theorem Xv2 (b k:Nat):∀ j,rsn b k j≤2+j:=by
  intro j
  induction j with
  | zero=>unfold rsn; have:=Nat.mod_lt (99 / 2 ^ k) (show 2 > 0 by omega); have:=Nat.mod_lt (b / 2 ^ k) (show 2 > 0 by omega); omega
  | succ j ih=>unfold rsn; have:=Nat.mod_lt (b / 2 ^ ((k+(4+j)) % 8)) (show 2 > 0 by omega); omega
theorem Xv3 (b:Nat):∀ k,rsg b k<2 ^ k:=by
  intro k
  induction k with
  | zero=>show 0<1; omega
  | succ k ih=>
    unfold rsg
    have h1:=Nat.mod_lt (rsn b k 4) (show 2 > 0 by omega)
    have h2:rsn b k 4 % 2*2 ^ k≤1*2 ^ k:=Nat.mul_le_mul_right _ (by omega)
    rw [Nat.pow_succ]; omega
def XaC (b:UInt8):UInt8:=UInt8.ofNat (rsg b.toNat 8)
theorem Xop (a:UInt8):XaC (ZZ a)=XE a:=by
  have e:∀ b:UInt8,XaC b=Xrc [b,rot b 1,rot b 2,rot b 3,rot b 4,99]:=by
    intro b
    have:=Xgq (p:=fun b=>XaC b == Xrc [b,rot b 1,rot b 2,rot b 3,rot b 4,99]) (by kernel_rfl) b
    simpa using this
  exact e (ZZ a)
theorem XwO (n:Nat):Int.tmod (n:Int) 8=((n % 8:Nat):Int):=rfl
theorem Xmm (n:Nat):Int.tmod (n:Int) 2=((n % 2:Nat):Int):=rfl
theorem Xk6 (b:UInt8) (w:World) (K:VWP) (h:K (vb (XaC b)) w):Xa Tryz.prog XnL #[vb b] w K:=by
  have hb:=b.toNat_lt
  apply Xic
  unfold Xib
  rw [ZH (n:=b.toNat) (by omega)]
  refine LoopS.ind (fun K us w'=>w'=w∧∃ k:Nat,k+K=8∧us=[.int .u8 0,.int .i64 (b.toNat:Int),.int .i64 ((rsg b.toNat k:Nat):Int),.int .i64 (k:Int)]) 8 ⟨rfl,0,rfl,rfl⟩ ?_
  rintro K1 us r w' I μ hgo ⟨rfl,k,hk,rfl⟩
  have hg:=Xv3 b.toNat k
  refine ⟨_,_,_,_,rfl,Xc (fun h1=>?_) (fun h1=>?_)⟩
  · have hk8:k<8:=by omega
    have hpos:0<2 ^ k:=Nat.two_pow_pos k
    have hp8:2 ^ k≤2 ^ 7:=Nat.pow_le_pow_right (by omega) (by omega)
    refine ⟨_,Pu.shl (by rw [XC (by omega) (by omega)]; omega),?_⟩
    rw [U8 (by omega)]
    refine ⟨_,Pu.quo (by omega),?_⟩
    have e99:Int.tdiv 99 ((2 ^ k:Nat):Int)=((99 / 2 ^ k:Nat):Int):=rfl
    have q99:99 / 2 ^ k≤99:=Nat.div_le_self _ _
    rw [e99,ZH (n:=99 / 2 ^ k) (by omega)]
    refine ⟨_,Pu.shl (by rw [XC (by omega) (by omega)]; omega),?_⟩
    rw [U8 (by omega)]
    refine ⟨_,Pu.quo (by omega),?_⟩
    have qb:b.toNat / 2 ^ k≤b.toNat:=Nat.div_le_self _ _
    rw [XcE,ZH (n:=b.toNat / 2 ^ k) (by omega),Xmm,Xmm,← Int.natCast_add]
    have m1:=Nat.mod_lt (99 / 2 ^ k) (show 2 > 0 by omega)
    have m2:=Nat.mod_lt (b.toNat / 2 ^ k) (show 2 > 0 by omega)
    rw [ZH (by omega)]
    refine LoopS.ind (fun K us w2=>w2=w'∧∃ j:Nat,j+K=4∧us=[.int .u8 0,.int .i64 (b.toNat:Int),.int .i64 ((rsg b.toNat k:Nat):Int),.int .i64 (k:Int),.int .i64 ((rsn b.toNat k j:Nat):Int),.int .i64 ((4+j:Nat):Int)]) 4 ⟨rfl,0,rfl,rfl⟩ ?_
    rintro K2 us2 r2 w2 I2 μ2 hgo2 ⟨rfl,j,hj,rfl⟩
    have hs:=Xv2 b.toNat k j
    refine ⟨_,_,_,_,_,_,rfl,Xc (fun h2=>?_) (fun h2=>?_)⟩
    · have hj4:j<4:=by omega
      have hm8:=Nat.mod_lt (k+(4+j)) (show 8 > 0 by omega)
      rw [← Int.natCast_add,ZH (n:=k+(4+j)) (by omega),XwO]
      refine ⟨_,Pu.shl (by rw [XC (by omega) (by omega)]; omega),?_⟩
      rw [U8 (by omega)]
      have hpos2:0<2 ^ ((k+(4+j)) % 8):=Nat.two_pow_pos _
      refine ⟨_,Pu.quo (by omega),?_⟩
      have qb2:b.toNat / 2 ^ ((k+(4+j)) % 8)≤b.toNat:=Nat.div_le_self _ _
      have m3:=Nat.mod_lt (b.toNat / 2 ^ ((k+(4+j)) % 8)) (show 2 > 0 by omega)
      rw [XcE,ZH (n:=b.toNat / 2 ^ ((k+(4+j)) % 8)) (by omega),Xmm,← Int.natCast_add,ZH (by omega),Xe (n:=((4+j:Nat):Int)+1) (by omega) (by omega)]
      exact hgo2 _ _ _ (K2 - 1) (by omega) ⟨rfl,j+1,by omega,rfl⟩
    · have hj4:j=4:=by omega
      subst hj4
      unfold XcS
      refine ⟨_,Pu.shl (by rw [XC (by omega) (by omega)]; omega),?_⟩
      have m4:=Nat.mod_lt (rsn b.toNat k 4) (show 2 > 0 by omega)
      have hm:rsn b.toNat k 4 % 2*2 ^ k≤1*2 ^ k:=Nat.mul_le_mul_right _ (by omega)
      rw [U8 (by omega),Xmm,← Int.natCast_mul,ZH (n:=rsn b.toNat k 4 % 2*2 ^ k) (by omega),← Int.natCast_add,ZH (by omega),Xe (n:=(k:Int)+1) (by omega) (by omega)]
      exact hgo _ _ _ (K1 - 1) (by omega) ⟨rfl,k+1,by omega,rfl⟩
  · have hk8:k=8:=by omega
    subst hk8
    have e:IntKind.u8.wrap ((rsg b.toNat 8:Nat):Int)=((XaC b).toNat:Int):=by
      rw [IntKind.wrap_u8]; unfold XaC; simp
    rw [e]
    exact h
end Go.Sh
end

section
namespace Go.Sh
open Go Go.Fw Go.Proofs
set_option maxRecDepth 100000
set_option linter.unusedVariables false
theorem Fr.news {l:List Nat} {a b c:World} (h:Fr [] a b) (k:Fr l b c) (hl:∀ x∈l,a.heap.size≤x):Fr [] a c:=h.trans k fun x hx=>.inr (hl x hx)
theorem OwnS.sto {P:Program} {t te:TypeId} (ht:YT P t 1=true) (hs:res P (sizeOf te)=some 1) {w:World} {p:Option Addr} {l c:Nat} {vs:List Value} (hO:OwnS w p l c vs) {k:IntKind} {i:Int} (h0:0≤i) (h1:i<l)
    {v:Value} (hv:v.oneCell'=true) (hc:v.cells=#[v]) {K:World→Prop} (h:∀ w',Fr (Xb p) w w'→OwnS w' p l c (vs.set i.toNat v)→w'.heap.size=w.heap.size→K w') :
    ∃ a,IxA P t (.slice p l c) (.int k i) a∧∃ w',Sto P te (.pointer (some a)) v w w'∧K w':=by
  obtain ⟨hl,⟨_,h2,_⟩ | ⟨g,o,N,f,rfl,hB,hoc,hlc,hf⟩⟩:=hO
  · omega
  · refine ⟨_,Xw1 ht h0 h1,?_⟩
    refine Sto.blk hs hB (by omega) hv hc fun w' f1 hB1 s1=>h w' f1 ⟨by simpa using hl,.inr ⟨g,o,N,_,rfl,hB1,hoc,hlc,?_⟩⟩ s1
    intro j u hj
    rw [List.getElem?_set] at hj
    by_cases hji:i.toNat=j
    · rw [if_pos hji] at hj
      subst hji
      rw [upd_same]
      split at hj
      · exact Option.some.inj hj
      · cases hj
    · rw [if_neg hji] at hj
      rw [upd_ne _ _ _ (by omega)]
      exact hf j u hj
theorem UZ (l:List UInt8):∀ u∈l.map vb,u.oneCell'=true:=by simp; intros; rfl
end Go.Sh
end

section
namespace Go.Sh
open Go Go.Fw Go.Proofs
set_option maxRecDepth 100000
set_option linter.unusedVariables false
theorem XD {w:World} {t:TypeId} (ht:YT Tryz.prog t 1=true) {p:Option Addr} {xs:List UInt8} (h:Row w p (xs.map vb)) {l c i:Nat} (hl:l=xs.length) (hi:i<l) {k:IntKind} :
    ∃ a,IxA Tryz.prog t (.slice p l c) (.int k (i:Int)) a∧w.cell? a=some (vb (xs.getD i 0)):=by
  refine ixR ht h (by simpa using hl) (by omega) (by omega) ?_
  rw [Int.toNat_natCast,List.getElem?_map,List.getElem?_eq_getElem (by omega),List.getD_eq_getElem?_getD,List.getElem?_eq_getElem (by omega)]
  rfl
theorem X3 {xs ys:List UInt8} (hl:xs.length=ys.length) (h:∀ i,i<xs.length→xs.getD i 0=ys.getD i 0):xs=ys:=by
  apply List.ext_getElem hl
  intro i h1 h2
  have:=h i h1
  rwa [List.getD_eq_getElem?_getD,List.getD_eq_getElem?_getD,List.getElem?_eq_getElem h1,List.getElem?_eq_getElem h2] at this
theorem Xpt {w:World} {p:Option Addr} {l c:Nat} {xs:List UInt8} (hx:Row w p (xs.map vb)) (hl:l=xs.length) (hlen:l≤1073741824) {K:VWP}
    (h:∀ q cq w',Fr [] w w'→OwnS w' q l cq (xs.map vb)→(∀ x∈Xb q,w.heap.size≤x)→K (.slice q l cq) w'):Xa Tryz.prog WJ #[.slice p l c] w K:=by
  apply Xcg
  unfold Xan
  refine ⟨_,_,_,Ef.new (cs:=#[]) (v:=.slice (some ⟨w.heap.size,0,none⟩) 0 0) (e:=Jf) (by kernel_rfl) fun w2 f2 hB s2=>?_⟩
  have hO:OwnS w2 (some ⟨w.heap.size,0,none⟩) 0 0 []:=⟨rfl,.inr ⟨_,_,_,_,rfl,hB,by simp,by simp,by simp⟩⟩
  obtain ⟨q,cq,w3,he,hO3,hf,hcase⟩:=Ef.append (P:=Tryz.prog) (t:=Xg) (ty:=Xg) (by kernel_rfl) hO (m:=l) (d:=c) (hx.fr0 f2) (by simpa using hl) (UZ xs) (by omega)
  rw [Nat.zero_add] at he hO3
  simp only [List.nil_append] at hO3
  refine ⟨_,_,_,_,he,h q cq w3 (Fr.news f2 hf (by simp [Xb])) hO3 ?_⟩
  have:=f2.size
  rcases hcase with ⟨rfl,_,_⟩ | ⟨rfl,_,_⟩ <;> simp only [Xb,List.mem_singleton] <;> rintro x rfl <;> omega
theorem XcF {w:World} {t:TypeId} (ht:YT Tryz.prog t 1=true) {p:Option Addr} {rs:List (List UInt8)} (h:RowB w p rs) {l c i:Nat} (hl:l=rs.length) (hi:i<l) {k:IntKind} :
    ∃ a q d,IxA Tryz.prog t (.slice p l c) (.int k (i:Int)) a∧w.cell? a=some (.slice q (rs.getD i []).length d)∧Row w q ((rs.getD i []).map vb)∧(rs.getD i []).length≤d:=by
  obtain ⟨vs,hR,hvl,hv⟩:=h
  have hi':i<rs.length:=by omega
  obtain ⟨v,hvi,q,d,rfl,hd,hq⟩:=hv i (rs.getD i []) (by rw [List.getD_eq_getElem?_getD,List.getElem?_eq_getElem hi']; rfl)
  obtain ⟨a,h1,h2⟩:=ixR ht hR (len:=l) (cap:=c) (k:=k) (i:=(i:Int)) (by omega) (by omega) (by omega) (by rw [Int.toNat_natCast]; exact hvi)
  exact ⟨a,q,d,h1,h2,hq,hd⟩
end Go.Sh
end

section
namespace Go.Sh
open Go Go.Fw Go.Proofs
set_option maxRecDepth 100000
set_option linter.unusedVariables false
def ORows (w:World) (p:Option Addr) (l c:Nat) (rs:List (List UInt8)) (lo hi:Nat):Prop:=
  ∃ (vs:List Value) (q:Nat→Option Addr) (d:Nat→Nat),OwnS w p l c vs∧l=rs.length∧(∀ k∈Xb p,lo≤k∧k<hi)∧
    ∀ j,j<l→vs[j]?=some (.slice (q j) (rs.getD j []).length (d j))∧OwnS w (q j) (rs.getD j []).length (d j) ((rs.getD j []).map vb)∧∀ k∈Xb (q j),lo≤k∧k<hi∧k∉Xb p∧∀ j',j' < j→k∉Xb (q j')
theorem ORows.fr {w w':World} {p:Option Addr} {l c:Nat} {rs:List (List UInt8)} {lo hi:Nat} {L:List Nat} (h:ORows w p l c rs lo hi) (hf:Fr L w w') (hl:∀ k∈L,k<lo∨hi≤k):ORows w' p l c rs lo hi:=by
  obtain ⟨vs,q,d,hO,hlen,hp,hr⟩:=h
  refine ⟨vs,q,d,hO.fr hf (fun k hk hkL=>by have:=hp k hk; have:=hl k hkL; omega),hlen,hp,fun j hj=>?_⟩
  obtain ⟨h1,h2,h3⟩:=hr j hj
  exact ⟨h1,h2.fr hf (fun k hk hkL=>by have:=h3 k hk; have:=hl k hkL; omega),h3⟩
theorem ORows.fr0 {w w':World} {p:Option Addr} {l c:Nat} {rs:List (List UInt8)} {lo hi:Nat} (h:ORows w p l c rs lo hi) (hf:Fr [] w w'):ORows w' p l c rs lo hi:=h.fr hf (by simp)
theorem ORows.mono {w:World} {p:Option Addr} {l c:Nat} {rs:List (List UInt8)} {lo hi lo' hi':Nat} (h:ORows w p l c rs lo hi) (h1:lo'≤lo) (h2:hi≤hi'):ORows w p l c rs lo' hi':=by
  obtain ⟨vs,q,d,hO,hlen,hp,hr⟩:=h
  refine ⟨vs,q,d,hO,hlen,fun k hk=>by have:=hp k hk; omega,fun j hj=>?_⟩
  obtain ⟨g1,g2,g3⟩:=hr j hj
  exact ⟨g1,g2,fun k hk=>by have:=g3 k hk; exact ⟨by omega,by omega,this.2.2⟩⟩
theorem ORows.rowB {w:World} {p:Option Addr} {l c:Nat} {rs:List (List UInt8)} {lo hi:Nat} (h:ORows w p l c rs lo hi):RowB w p rs:=by
  obtain ⟨vs,q,d,hO,hlen,hp,hr⟩:=h
  refine ⟨vs,hO.row,by have:=hO.1; omega,fun j r hj=>?_⟩
  have hlt:=(List.getElem?_eq_some_iff.1 hj).1
  obtain ⟨g1,g2,g3⟩:=hr j (by omega)
  have e:rs.getD j []=r:=by rw [List.getD_eq_getElem?_getD,hj]; rfl
  rw [e] at g1 g2
  exact ⟨_,g1,q j,d j,rfl,(by obtain ⟨hl,⟨_,h0,h1⟩ | ⟨g,o,N,f,_,hB,hoc,hlc,hf⟩⟩:=g2 <;> omega),g2.row⟩
theorem ORows.nil (w:World) (lo hi:Nat):ORows w none 0 0 [] lo hi:=⟨[],fun _=>none,fun _=>0,OwnS.nil w,rfl,by simp [Xb],by omega⟩
theorem ORows.push {w:World} {p:Option Addr} {l c:Nat} {rs:List (List UInt8)} {lo hi:Nat} (h:ORows w p l c rs lo hi) (hhi:hi≤w.heap.size) (hlo:lo≤hi) {q1:Option Addr} {n1 d1:Nat} {r:List UInt8} (hq:OwnS w q1 n1 d1 (r.map vb)) (hn1:n1=r.length) (hn:∀ k∈Xb q1,hi≤k)
    {q2:Option Addr} {d2:Nat} (hR:Row w q2 [.slice q1 n1 d1]) (hlen:l<1073741824) :
    ∃ p' c' w',Ef Tryz.prog (Builtin.append_ #[XA,XA] XA #[.slice p l c,.slice q2 1 d2]) w (.slice p' (l+1) c') w'∧ORows w' p' (l+1) c' (rs++[r]) lo w'.heap.size∧Fr (Xb p) w w':=by
  subst hn1
  obtain ⟨vs,q,d,hO,hl,hp,hr⟩:=h
  obtain ⟨p',c',w',he,hO',hf,hcase⟩:=Ef.append (P:=Tryz.prog) (t:=XA) (ty:=XA) (by kernel_rfl) hO (m:=1) (d:=d2) hR rfl (by simp; rfl) (by omega)
  have hs:=hf.size
  have hqw:=hq.lt
  have hvl:=hO.1
  have hp':∀ k∈Xb p',(lo≤k∧k<hi∧k∈Xb p)∨(w.heap.size≤k∧k<w'.heap.size):=by
    rcases hcase with ⟨rfl,_,_⟩ | ⟨rfl,_,h3⟩
    · exact fun k hk=>.inl ⟨(hp k hk).1,(hp k hk).2,hk⟩
    · intro k hk; simp only [Xb,List.mem_singleton] at hk; subst hk; exact .inr ⟨by omega,by omega⟩
  refine ⟨p',c',w',he,⟨vs++[.slice q1 r.length d1],fun j=>if j<l then q j else q1,fun j=>if j<l then d j else d1,hO',by simp [hl],fun k hk=>by rcases hp' k hk with h | h <;> omega,fun j hj=>?_⟩,hf⟩
  by_cases hjl:j<l
  · obtain ⟨g1,g2,g3⟩:=hr j hjl
    have e:(rs++[r]).getD j []=rs.getD j []:=by rw [List.getD_eq_getElem?_getD,List.getD_eq_getElem?_getD,List.getElem?_append_left (by omega)]
    have g2w:=g2.lt
    simp only [hjl,if_true,e]
    refine ⟨by rw [List.getElem?_append_left (by omega)]; exact g1,g2.fr hf (fun k hk hkp=>(g3 k hk).2.2.1 hkp),fun k hk=>?_⟩
    have:=g3 k hk
    refine ⟨by omega,by omega,fun hkp=>?_,fun j' hj'=>?_⟩
    · rcases hp' k hkp with h | h
      · exact this.2.2.1 h.2.2
      · have:=g2w k hk; omega
    · rw [if_pos (by omega)]; exact this.2.2.2 j' hj'
  · have hjl':j=l:=by omega
    subst hjl'
    have e:(rs++[r]).getD j []=r:=by rw [List.getD_eq_getElem?_getD,List.getElem?_append_right (by omega),hl]; simp
    simp only [hjl,if_false,e]
    refine ⟨by rw [List.getElem?_append_right (by omega)]; simp [← hvl],hq.fr hf (fun k hk hkp=>by have:=hn k hk; have:=hp k hkp; omega),fun k hk=>?_⟩
    have h1:=hn k hk
    have h2:=hqw k hk
    refine ⟨by omega,by omega,fun hkp=>?_,fun j' hj'=>?_⟩
    · rcases hp' k hkp with h | h <;> omega
    · rw [if_pos hj']
      intro hkq
      have:=(hr j' hj').2.2 k hkq
      omega
theorem ORows.get {w:World} {p:Option Addr} {l c:Nat} {rs:List (List UInt8)} {lo hi:Nat} (h:ORows w p l c rs lo hi) {i:Nat} (hi':i<l) {k:IntKind} :
    ∃ a q d,IxA Tryz.prog XA (.slice p l c) (.int k (i:Int)) a∧w.cell? a=some (.slice q (rs.getD i []).length d)∧OwnS w q (rs.getD i []).length d ((rs.getD i []).map vb)∧∀ k∈Xb q,lo≤k∧k<hi:=by
  obtain ⟨vs,q,d,hO,hl,hp,hr⟩:=h
  obtain ⟨g1,g2,g3⟩:=hr i hi'
  obtain ⟨a,h1,h2⟩:=ixR (P:=Tryz.prog) (t:=XA) (by kernel_rfl) hO.row (cap:=c) (k:=k) (i:=(i:Int)) hO.1 (by omega) (by omega) (by rw [Int.toNat_natCast]; exact g1)
  exact ⟨a,q i,d i,h1,h2,g2,fun k hk=>⟨(g3 k hk).1,(g3 k hk).2.1⟩⟩
theorem ORows.sto {w w':World} {p:Option Addr} {l c:Nat} {rs:List (List UInt8)} {lo hi:Nat} (h:ORows w p l c rs lo hi) {i:Nat} (hi':i<l) {q:Option Addr} {n d:Nat} {a:Addr} (ha:IxA Tryz.prog XA (.slice p l c) (.int .i64 (i:Int)) a) (hc:w.cell? a=some (.slice q n d)) (hf:Fr (Xb q) w w') {r':List UInt8} (hr':OwnS w' q n d (r'.map vb)) (hn:r'.length=n) :
    ORows w' p l c (rs.set i r') lo hi:=by
  obtain ⟨vs,q0,d0,hO,hl,hp,hr⟩:=h
  obtain ⟨g1,g2,g3⟩:=hr i hi'
  obtain ⟨a0,h1,h2⟩:=ixR (P:=Tryz.prog) (t:=XA) (by kernel_rfl) hO.row (cap:=c) (k:=.i64) (i:=(i:Int)) hO.1 (by omega) (by omega) (by rw [Int.toNat_natCast]; exact g1)
  have ea:a=a0:=by have:=ha.symm.trans h1; simpa using this
  subst ea
  rw [h2] at hc
  obtain ⟨rfl,rfl,rfl⟩:q0 i=q∧(rs.getD i []).length=n∧d0 i=d:=by simpa using hc
  refine ⟨vs,q0,d0,hO.fr hf (fun k hk hkq=>(g3 k hkq).2.2.1 hk),by simpa using hl,hp,fun j hj=>?_⟩
  obtain ⟨k1,k2,k3⟩:=hr j hj
  by_cases hji:j=i
  · subst hji
    have e:(rs.set j r').getD j []=r':=by rw [List.getD_eq_getElem?_getD,List.getElem?_set_self (by omega)]; rfl
    rw [e,hn]
    exact ⟨k1,hr',k3⟩
  · have e:(rs.set i r').getD j []=rs.getD j []:=by rw [List.getD_eq_getElem?_getD,List.getD_eq_getElem?_getD,List.getElem?_set_ne (Ne.symm hji)]
    rw [e]
    refine ⟨k1,k2.fr hf (fun k hk hkq=>?_),k3⟩
    rcases Nat.lt_or_ge j i with h | h
    · exact (g3 k hkq).2.2.2 j h hk
    · exact (k3 k hk).2.2.2 i (by omega) hkq
end Go.Sh
end

section
namespace Go.Sh
open Go Go.Fw Go.Proofs
set_option maxRecDepth 100000
set_option linter.unusedVariables false
def BAt (f:Nat→Value) (o n:Nat) (x:Nat→UInt8):Prop:=∀ j,j<n→f (o+j)=vb (x j)
def Xy (n:Nat) (x:Nat→UInt8):List Value:=(List.range n).map fun j=>vb (x j)
theorem Xr (n:Nat) (x:Nat→UInt8):(Xy n x).length=n:=by simp [Xy]
theorem Wt {n:Nat} {x:Nat→UInt8} {j:Nat} (h:j<n):(Xy n x)[j]?=some (vb (x j)):=by simp [Xy,h]
theorem YD {n:Nat} {x:Nat→UInt8}:∀ u∈Xy n x,u.oneCell'=true:=by simp [Xy]; intros; rfl
theorem BAt.ld {f:Nat→Value} {o n:Nat} {x:Nat→UInt8} (h:BAt f o n x):∀ j v,(Xy n x)[j]?=some v→f (o+j)=v:=by
  intro j v hj
  have hlt:=(List.getElem?_eq_some_iff.1 hj).1
  rw [Xr] at hlt
  rw [Wt hlt] at hj
  rw [h j hlt]
  exact Option.some.inj hj
def Bk (w:World) (b:Nat) (x:Nat→UInt8):Prop:=∃ f,Blk w b 16 f∧BAt f 0 16 x
theorem Bk.fr {w w':World} {b:Nat} {x:Nat→UInt8} {l:List Nat} (h:Bk w b x) (hf:Fr l w w') (hn:b∉l):Bk w' b x:=by
  obtain ⟨f,hB,hx⟩:=h; exact ⟨f,hB.fr hf hn,hx⟩
theorem Bk.lt {w:World} {b:Nat} {x:Nat→UInt8} (h:Bk w b x):b<w.heap.size:=by obtain ⟨f,hB,hx⟩:=h; exact hB.lt
theorem Xoq {n:Nat} {x:Nat→UInt8} {t:TypeId} {w:World} {K:Nat→World→Prop} (h:∀ w' f,Fr [] w w'→Blk w' w.heap.size n f→BAt f 0 n x→w'.heap.size=w.heap.size+1→K w.heap.size w'):New ⟨Xy n x⟩ t w K:=by
  refine New.intro fun w' f1 hB hs=>?_
  have e:(⟨Xy n x⟩:Array Value).size=n:=by simp [Xy]
  rw [e] at hB
  refine h w' _ f1 hB (fun j hj=>?_) hs
  show (⟨Xy n x⟩:Array Value).getD (0+j) undef=_
  rw [Nat.zero_add,Array.getD_eq_getD_getElem?]
  have:(⟨Xy n x⟩:Array Value)[j]?=some (vb (x j)):=by rw [← Wt hj]; simp
  rw [this]; rfl
theorem Xgk {w:World} {b:Nat} {x y:Nat→UInt8} (hx:Bk w b x) {K:VWP} (h:∀ w',Fr [b] w w'→Bk w' b (fun j=>x j ^^^ y j)→K (.tuple #[]) w') :
    Xa Tryz.prog XhY #[.pointer (some ⟨b,0,none⟩),.agg ⟨Xy 16 y⟩] w K:=by
  apply Xeh
  unfold XcT
  have hbw:=hx.lt
  refine Xoq fun w1 g f1 hG hg s1=>?_
  have hx1:=hx.fr f1 (by simp)
  refine LoopS.ind (fun k us w'=>∃ i:Nat,i+k=16∧us=[.pointer (some ⟨b,0,none⟩),.pointer (some ⟨w.heap.size,0,none⟩),.int .i64 (i:Int)]∧Fr [b] w1 w'∧Bk w' b (fun j=>if j<i then x j ^^^ y j else x j)) 16
    ⟨0,rfl,rfl,Fr.refl _ _,by simpa using hx1⟩ ?_
  rintro k us r w2 I μ hgo ⟨i,hi,rfl,f2,f,hB,hf⟩
  refine ⟨_,_,_,rfl,Xc (fun h1=>?_) (fun h1=>?_)⟩
  · have hi16:i<16:=by omega
    refine ⟨fun w'=>w'.cell? ⟨b,i,none⟩=some (vb (x i)),Drw.intro fun w3 f3 s3=>?_⟩
    have hB3:=hB.fr0 f3
    have hG3:=(hG.fr f2 (by simp; omega)).fr0 f3
    have hfi:f i=vb (x i):=by have:=hf i hi16; rw [Nat.zero_add] at this; rw [this]; simp
    have hc:w3.cell? ⟨b,i,none⟩=some (vb (x i)):=by rw [hB3.cell hi16,hfi]
    refine ⟨_,rfl,_,YM (n:=16) (by kernel_rfl) (by omega) (by omega),_,YM (n:=16) (by kernel_rfl) (by omega) (by omega),_,rfl,?_⟩
    rw [Int.toNat_natCast,Nat.zero_add]
    refine ⟨_,⟨hc,fun w' hw'=>Ld.cell (by kernel_rfl) hw'⟩,_,Ld.blk (by kernel_rfl) hG3 hi16 (by have:=hg i hi16; rwa [Nat.zero_add] at this),.inl rfl,_,YM (n:=16) (by kernel_rfl) (by omega) (by omega),?_⟩
    rw [Int.toNat_natCast,Nat.zero_add,UV]
    refine Sto.blk (by kernel_rfl) hB3 hi16 rfl rfl fun w4 f4 hB4 s4=>?_
    refine hgo _ _ _ (k - 1) (by omega) ⟨i+1,by omega,by rw [Xe (by omega) (by omega)]; rfl,(f2.then f3).trans f4 (fun _ h=>.inl h),_,hB4,fun j hj=>?_⟩
    rw [Nat.zero_add]
    show _=vb (if j<i+1 then x j ^^^ y j else x j)
    by_cases hji:j=i
    · subst hji; rw [upd_same,if_pos (by omega)]
    · rw [upd_ne _ _ _ hji]
      have:=hf j hj
      rw [Nat.zero_add] at this
      rw [this]
      show vb (if j<i then x j ^^^ y j else x j)=_
      by_cases hj2:j<i
      · rw [if_pos hj2,if_pos (by omega)]
      · rw [if_neg hj2,if_neg (by omega)]
  · have hi16:i=16:=by omega
    subst hi16
    refine h w2 (f1.after f2) ⟨f,hB,fun j hj=>?_⟩
    rw [hf j hj]
    show vb (if j<16 then x j ^^^ y j else x j)=_
    rw [if_pos hj]
end Go.Sh
end

section
namespace Go.Sh
open Go Go.Fw Go.Proofs
set_option maxRecDepth 100000
set_option linter.unusedVariables false
def Xuz (fv:Value) (T:World→Prop) (l:List Nat) (g:UInt8→UInt8):Prop:=
  ∀ (a:UInt8) (w:World) (K:VWP),T w→(∀ w',Fr l w w'→T w'→K (vb (g a)) w')→Yv Tryz.prog fv [vb a] w K
theorem Xor {w:World} {b:Nat} {x:Nat→UInt8} (hx:Bk w b x) {fv:Value} {T:World→Prop} {l:List Nat} {g:UInt8→UInt8} (hT:T w) (hg:Xuz fv T l g) (hbl:b∉l)
    (hTf:∀ w w',T w→Fr [b] w w'→T w') {K:VWP} (h:∀ w',Fr (b::l) w w'→T w'→Bk w' b (fun j=>g (x j))→K (.tuple #[]) w') :
    Xa Tryz.prog XgM #[.pointer (some ⟨b,0,none⟩),fv] w K:=by
  apply Xdl
  unfold Xbw
  refine LoopS.ind (fun k us w'=>∃ i:Nat,i+k=16∧us=[.pointer (some ⟨b,0,none⟩),fv,.pointer (some ⟨b,0,none⟩),.int .i64 (i:Int)]∧Fr (b::l) w w'∧T w'∧Bk w' b (fun j=>if j<i then g (x j) else x j)) 16
    ⟨0,rfl,rfl,Fr.refl _ _,hT,by simpa using hx⟩ ?_
  rintro k us r w2 I μ hgo ⟨i,hi,rfl,f2,hT2,f,hB,hf⟩
  refine ⟨_,_,_,_,rfl,Xc (fun h1=>?_) (fun h1=>?_)⟩
  · have hi16:i<16:=by omega
    have hfi:f i=vb (x i):=by
      have:=hf i hi16
      rw [Nat.zero_add] at this
      rw [this]
      show vb (if i<i then g (x i) else x i)=_
      rw [if_neg (by omega)]
    refine Drw.intro fun w3 f3 s3=>?_
    refine ⟨_,rfl,_,YM (n:=16) (by kernel_rfl) (by omega) (by omega),?_⟩
    rw [Int.toNat_natCast,Nat.zero_add]
    refine ⟨_,Ld.blk (by kernel_rfl) (hB.fr0 f3) hi16 hfi,?_⟩
    refine Drw.intro fun w4 f4 s4=>⟨_,rfl,?_⟩
    have hT4:=hTf _ _ (hTf _ _ hT2 (f3.mono (by simp))) (f4.mono (by simp))
    refine hg (x i) w4 _ hT4 fun w5 f5 hT5=>⟨_,rfl,_,YM (n:=16) (by kernel_rfl) (by omega) (by omega),?_⟩
    rw [Int.toNat_natCast,Nat.zero_add]
    refine Sto.blk (by kernel_rfl) (((hB.fr0 f3).fr0 f4).fr f5 hbl) hi16 rfl rfl fun w6 f6 hB6 s6=>?_
    have fA:Fr (b::l) w w6:=(((f2.then f3).then f4).trans f5 (fun x hx=>.inl (by simp [hx]))).trans f6 (fun x hx=>.inl (by simp at hx; simp [hx]))
    refine hgo _ _ _ (k - 1) (by omega) ⟨i+1,by omega,by rw [Xe (by omega) (by omega)]; rfl,fA,hTf _ _ hT5 f6,_,hB6,fun j hj=>?_⟩
    rw [Nat.zero_add]
    show _=vb (if j<i+1 then g (x j) else x j)
    by_cases hji:j=i
    · subst hji; rw [upd_same,if_pos (by omega)]
    · rw [upd_ne _ _ _ hji]
      have:=hf j hj
      rw [Nat.zero_add] at this
      rw [this]
      show vb (if j<i then g (x j) else x j)=_
      by_cases hj2:j<i
      · rw [if_pos hj2,if_pos (by omega)]
      · rw [if_neg hj2,if_neg (by omega)]
  · have hi16:i=16:=by omega
    subst hi16
    refine h w2 f2 hT2 ⟨f,hB,fun j hj=>?_⟩
    rw [hf j hj]
    show vb (if j<16 then g (x j) else x j)=_
    rw [if_pos hj]
end Go.Sh
end

section
namespace Go.Sh
open Go Go.Fw Go.Proofs
set_option maxRecDepth 100000
set_option linter.unusedVariables false
theorem BAt.upd_ne {f:Nat→Value} {o n:Nat} {x:Nat→UInt8} (h:BAt f o n x) {k:Nat} {v:Value} (hk:k<o∨o+n≤k):BAt (upd f k v) o n x:=by
  intro j hj
  rw [Go.Fw.upd_ne _ _ _ (by omega)]
  exact h j hj
theorem BAt.updN {f:Nat→Value} {o n:Nat} {x:Nat→UInt8}:BAt (updN f o (Xy n x)) o n x:=by
  intro j hj
  unfold Go.Fw.updN
  rw [dif_pos ⟨by omega,by rw [Xr]; omega⟩]
  have h:=Wt (x:=x) hj
  rw [List.getElem?_eq_some_iff] at h
  obtain ⟨_,h⟩:=h
  have e:o+j - o=j:=by omega
  simp only [e]
  exact h
def Z5 (by_:Nat) (x:Nat→UInt8):Nat→UInt8:=fun j=>x ((j+4*by_*(j % 4)) % 16)
theorem Xos {w:World} {b:Nat} {x:Nat→UInt8} (hx:Bk w b x) {m:Nat} (hm:m≤3) {K:VWP} (h:∀ w',Fr [b] w w'→Bk w' b (Z5 m x)→K (.tuple #[]) w') :
    Xa Tryz.prog XgN #[.pointer (some ⟨b,0,none⟩),.int .i64 (m:Int)] w K:=by
  apply Xdm
  unfold Xbx
  have hbw:=hx.lt
  obtain ⟨f0,hB0,hf0⟩:=id hx
  refine ⟨_,rfl,_,LdA (by kernel_rfl) (by kernel_rfl) hB0 (Nat.le_refl 16) (Xy 16 x) (Xr _ _) hf0.ld,?_⟩
  refine ZL (s:=16) (by kernel_rfl) fun w1 g0 f1 hG s1=>?_
  refine Sto.agg (by kernel_rfl) (Xr 16 x) hG (Nat.le_refl 16) YD fun w2 f2 hG2 s2=>?_
  have hg2:BAt (updN g0 0 (Xy 16 x)) 0 16 x:=BAt.updN
  have hx2:=(hx.fr f1 (by simp)).fr f2 (by simp; omega)
  refine LoopS.ind (fun k us w'=>∃ i:Nat,i+k=16∧us=[.pointer (some ⟨b,0,none⟩),.int .i64 (m:Int),.pointer (some ⟨w.heap.size,0,none⟩),.int .i64 (i:Int)]∧Fr [b] w2 w'∧Bk w' b (fun j=>if j<i then Z5 m x j else x j)) 16
    ⟨0,rfl,rfl,Fr.refl _ _,by simpa using hx2⟩ ?_
  rintro k us r w3 I μ hgo ⟨i,hi,rfl,f3,f,hB,hf⟩
  refine ⟨_,_,_,_,rfl,Xc (fun h1=>?_) (fun h1=>?_)⟩
  · have hi16:i<16:=by omega
    have hG3:=hG2.fr f3 (by simp; omega)
    refine Drw.intro fun w4 f4 s4=>?_
    have e4:(Int.tmod (i:Int) 4)=((i % 4:Nat):Int):=rfl
    have hi4:i % 4<4:=Nat.mod_lt _ (by omega)
    have hmm:4*m*(i % 4)≤12*3:=Nat.mul_le_mul (by omega) (by omega)
    have e5:IntKind.i64.wrap (4*(m:Int))=((4*m:Nat):Int):=by rw [Xe (by omega) (by omega)]; omega
    have e6:IntKind.i64.wrap ((i:Int)+IntKind.i64.wrap (IntKind.i64.wrap (4*(m:Int))*Int.tmod (i:Int) 4))=((i+4*m*(i % 4):Nat):Int):=by
      rw [e4,e5,← Int.natCast_mul,Xe (n:=((4*m*(i % 4):Nat):Int)) (by omega) (by omega),← Int.natCast_add,Xe (by omega) (by omega)]
    have e7:Int.tmod ((i+4*m*(i % 4):Nat):Int) 16=(((i+4*m*(i % 4)) % 16:Nat):Int):=rfl
    have h16:(i+4*m*(i % 4)) % 16<16:=Nat.mod_lt _ (by omega)
    rw [e6,e7]
    refine ⟨_,YM (n:=16) (by kernel_rfl) (by omega) (by omega),_,rfl,?_⟩
    rw [Int.toNat_natCast,Nat.zero_add]
    refine ⟨_,Ld.blk (by kernel_rfl) (hG3.fr0 f4) h16 (by have:=hg2 _ h16; rwa [Nat.zero_add] at this),_,YM (n:=16) (by kernel_rfl) (by omega) (by omega),?_⟩
    rw [Int.toNat_natCast,Nat.zero_add]
    refine Sto.blk (by kernel_rfl) (hB.fr0 f4) hi16 rfl rfl fun w5 f5 hB5 s5=>?_
    refine hgo _ _ _ (k - 1) (by omega) ⟨i+1,by omega,by rw [Xe (by omega) (by omega)]; rfl,(f3.then f4).trans f5 (fun _ h=>.inl h),_,hB5,fun j hj=>?_⟩
    rw [Nat.zero_add]
    show _=vb (if j<i+1 then Z5 m x j else x j)
    by_cases hji:j=i
    · subst hji; rw [upd_same,if_pos (by omega)]; rfl
    · rw [Go.Fw.upd_ne _ _ _ hji]
      have:=hf j hj
      rw [Nat.zero_add] at this
      rw [this]
      show vb (if j<i then Z5 m x j else x j)=_
      by_cases hj2:j<i
      · rw [if_pos hj2,if_pos (by omega)]
      · rw [if_neg hj2,if_neg (by omega)]
  · have hi16:i=16:=by omega
    subst hi16
    have fA:Fr [b] w w3:=(f1.trans f2 (fun y hy=>.inr (by simp at hy; omega))).after f3
    refine h w3 fA ⟨f,hB,fun j hj=>?_⟩
    rw [hf j hj]
    show vb (if j<16 then Z5 m x j else x j)=_
    rw [if_pos hj]
end Go.Sh
end

section
namespace Go.Sh
open Go Go.Fw Go.Proofs
set_option maxRecDepth 100000
set_option linter.unusedVariables false
def Xsx (fv:Value) (T:World→Prop) (l:List Nat) (g:Nat→UInt8→UInt8) (fac:Nat→Int):Prop:=
  ∀ (j:Nat) (a:UInt8) (w:World) (K:VWP),j<4→T w→(∀ w',Fr l w w'→T w'→K (vb (g j a)) w')→Yv Tryz.prog fv [.int .i64 (fac j),vb a] w K
def Xks (g:Nat→UInt8→UInt8) (x:Nat→UInt8) (k:Nat):Nat→UInt8
  | 0=>0
  | j+1=>Xks g x k j ^^^ g j (x (4*(k / 4)+(k % 4+j) % 4))
def ZI (g:Nat→UInt8→UInt8) (x:Nat→UInt8):Nat→UInt8:=fun k=>Xks g x k 4
def Um (fac:Nat→Int):List Value:=(List.range 4).map fun j=>.int .i64 (fac j)
theorem Xsy {fac:Nat→Int} {j:Nat} (h:j<4):(Um fac)[j]?=some (.int .i64 (fac j)):=by simp [Um,h]
theorem Xi2 {w:World} {b:Nat} {x:Nat→UInt8} (hx:Bk w b x) {fv:Value} {T:World→Prop} {l:List Nat} {g:Nat→UInt8→UInt8} {fac:Nat→Int} (hT:T w) (hg:Xsx fv T l g fac) (hbl:b∉l)
    (hlw:∀ k∈l,k<w.heap.size) (hTf:∀ w w',T w→Fr [b] w w'→T w') {K:VWP} (h:∀ w',Fr (b::l) w w'→T w'→Bk w' b (ZI g x)→K (.tuple #[]) w') :
    Xa Tryz.prog Xdg #[.pointer (some ⟨b,0,none⟩),fv,.agg ⟨Um fac⟩] w K:=by
  apply XaQ
  unfold WO
  have hbw:=hx.lt
  refine New.intro fun w1 f1 hF s1=>?_
  have hF:Blk w1 w.heap.size 4 (fun i=>(⟨Um fac⟩:Array Value).getD i undef):=by
    have e:(⟨Um fac⟩:Array Value).size=4:=by simp [Um]
    rw [e] at hF; exact hF
  have hFv:∀ j v,(Um fac)[j]?=some v→(fun i=>(⟨Um fac⟩:Array Value).getD i undef) (0+j)=v:=by
    intro j v hj
    show (⟨Um fac⟩:Array Value).getD (0+j) undef=v
    rw [Nat.zero_add,Array.getD_eq_getD_getElem?]
    have:(⟨Um fac⟩:Array Value)[j]?=some v:=by rw [← hj]; simp
    rw [this]; rfl
  have hx1:=hx.fr f1 (by simp)
  obtain ⟨f0,hB0,hf0⟩:=id hx1
  refine ⟨_,rfl,_,LdA (by kernel_rfl) (by kernel_rfl) hB0 (Nat.le_refl 16) (Xy 16 x) (Xr _ _) hf0.ld,?_⟩
  refine ZL (s:=16) (by kernel_rfl) fun w2 g0 f2 hG s2=>?_
  refine Sto.agg (by kernel_rfl) (Xr 16 x) hG (Nat.le_refl 16) YD fun w3 f3 hG3 s3=>?_
  have hg3:BAt (updN g0 0 (Xy 16 x)) 0 16 x:=BAt.updN
  have fn:Fr [] w w3:=(f1.then f2).trans f3 (fun y hy=>.inr (by simp at hy; omega))
  have hx3:=hx.fr fn (by simp)
  have hT3:T w3:=hTf _ _ hT (fn.mono (by simp))
  have hF3:=(hF.fr0 f2).fr f3 (by simp; omega)
  have hsep:∀ k∈b::l,k≠w.heap.size∧k≠w1.heap.size:=by
    intro k hk
    simp only [List.mem_cons] at hk
    rcases hk with rfl | hk
    · omega
    · have:=hlw k hk; omega
  refine LoopS.ind (fun k us w'=>∃ i:Nat,i+k=16∧us=[.pointer (some ⟨b,0,none⟩),fv,.pointer (some ⟨w.heap.size,0,none⟩),.pointer (some ⟨w1.heap.size,0,none⟩),.int .i64 (i:Int)]∧Fr (b::l) w3 w'∧T w'∧Bk w' b (fun j=>if j<i then ZI g x j else x j)) 16
    ⟨0,rfl,rfl,Fr.refl _ _,hT3,by simpa using hx3⟩ ?_
  rintro k us r w4 I μ hgo ⟨i,hi,rfl,f4,hT4,f,hB,hf⟩
  have hF4:=hF3.fr f4 (fun hk=>(hsep _ hk).1 rfl)
  have hG4:=hG3.fr f4 (fun hk=>(hsep _ hk).2 rfl)
  refine ⟨_,_,_,_,_,rfl,Xc (fun h1=>?_) (fun h1=>?_)⟩
  · have hi16:i<16:=by omega
    have e8:IntKind.i64.wrap (Int.tdiv (i:Int) 4)=((i / 4:Nat):Int):=by
      have:Int.tdiv (i:Int) 4=((i / 4:Nat):Int):=rfl
      rw [this]
      exact Xe (by omega) (by omega)
    have e9:Int.tmod (i:Int) 4=((i % 4:Nat):Int):=rfl
    refine ⟨_,LdA (m:=4) (by kernel_rfl) (by kernel_rfl) hF4 (Nat.le_refl 4) (Um fac) (by simp [Um]) hFv,?_⟩
    rw [e8,e9]
    refine LoopS.ind (fun k2 us w'=>∃ j:Nat,j+k2=4∧us=[.pointer (some ⟨b,0,none⟩),fv,.pointer (some ⟨w.heap.size,0,none⟩),.pointer (some ⟨w1.heap.size,0,none⟩),.int .i64 (i:Int),.int .i64 ((i / 4:Nat):Int),.int .i64 ((i % 4:Nat):Int),vb (Xks g x i j),.int .i64 (i:Int),.agg ⟨Um fac⟩,.int .i64 (j:Int)]∧Fr l w4 w'∧T w') 4
      ⟨0,rfl,rfl,Fr.refl _ _,hT4⟩ ?_
    rintro k2 us2 r2 w5 I2 μ2 hgo2 ⟨j,hj,rfl,f5,hT5⟩
    have hG5:=hG4.fr f5 (fun hk=>(hsep _ (by simp [hk])).2 rfl)
    refine ⟨_,_,_,_,_,_,_,_,_,_,_,rfl,Xc (fun h2=>?_) (fun h2=>?_)⟩
    · have hj4:j<4:=by omega
      have hm4:=Nat.mod_lt (i % 4+j) (show 4 > 0 by omega)
      have hi4:i / 4<4:=by omega
      have ea:IntKind.i64.wrap (((i % 4:Nat):Int)+(j:Int))=((i % 4+j:Nat):Int):=by rw [Xe (by omega) (by omega)]; omega
      have eb:Int.tmod ((i % 4+j:Nat):Int) 4=(((i % 4+j) % 4:Nat):Int):=rfl
      have ec:IntKind.i64.wrap (4*((i / 4:Nat):Int))=((4*(i / 4):Nat):Int):=by rw [Xe (by omega) (by omega)]; omega
      have ed:IntKind.i64.wrap (((4*(i / 4):Nat):Int)+(((i % 4+j) % 4:Nat):Int))=((4*(i / 4)+(i % 4+j) % 4:Nat):Int):=by rw [Xe (by omega) (by omega)]; omega
      have h16:4*(i / 4)+(i % 4+j) % 4<16:=by omega
      rw [ea,eb,ec,ed]
      refine ⟨_,XvO (n:=4) (by kernel_rfl) (by omega) (by omega) (by rw [Int.toNat_natCast]; exact Xsy hj4),_,YM (n:=16) (by kernel_rfl) (by omega) (by omega),?_⟩
      rw [Int.toNat_natCast,Nat.zero_add]
      refine ⟨_,Ld.blk (by kernel_rfl) hG5 h16 (by have:=hg3 _ h16; rwa [Nat.zero_add] at this),?_⟩
      refine hg j _ w5 _ hj4 hT5 fun w6 f6 hT6=>⟨_,rfl,?_⟩
      rw [UV,Xe (n:=(j:Int)+1) (by omega) (by omega)]
      exact hgo2 _ _ _ (k2 - 1) (by omega) ⟨j+1,by omega,rfl,f5.trans f6 (fun _ h=>.inl h),hT6⟩
    · have hj4:j=4:=by omega
      subst hj4
      unfold Vl
      refine ⟨_,rfl,_,YM (n:=16) (by kernel_rfl) (by omega) (by omega),?_⟩
      rw [Int.toNat_natCast,Nat.zero_add]
      refine Sto.blk (by kernel_rfl) (hB.fr f5 hbl) hi16 rfl rfl fun w6 f6 hB6 s6=>?_
      have fA:Fr (b::l) w3 w6:=(f4.trans f5 (fun y hy=>.inl (by simp [hy]))).trans f6 (fun y hy=>.inl (by simp at hy; simp [hy]))
      refine hgo _ _ _ (k - 1) (by omega) ⟨i+1,by omega,by rw [Xe (by omega) (by omega)]; rfl,fA,hTf _ _ hT5 f6,_,hB6,fun j hj=>?_⟩
      rw [Nat.zero_add]
      show _=vb (if j<i+1 then ZI g x j else x j)
      by_cases hji:j=i
      · subst hji; rw [upd_same,if_pos (by omega)]; rfl
      · rw [Go.Fw.upd_ne _ _ _ hji]
        have:=hf j hj
        rw [Nat.zero_add] at this
        rw [this]
        show vb (if j<i then ZI g x j else x j)=_
        by_cases hj2:j<i
        · rw [if_pos hj2,if_pos (by omega)]
        · rw [if_neg hj2,if_neg (by omega)]
  · have hi16:i=16:=by omega
    subst hi16
    refine h w4 (fn.after f4) hT4 ⟨f,hB,fun j hj=>?_⟩
    rw [hf j hj]
    show vb (if j<16 then ZI g x j else x j)=_
    rw [if_pos hj]
end Go.Sh
end

section
namespace Go.Sh
open Go Go.Fw Go.Proofs
set_option maxRecDepth 100000
set_option linter.unusedVariables false
def TabF (w:World) (b:Nat) (bl:List UInt8) (F:List Nat) (made:Bool):Prop:=
  ∃ f p c,Blk w b 518 f∧f 0=.slice p bl.length c∧Row w p (bl.map vb)∧f 2=.int .i32 0∧(∀ k∈Xb p,k∈F∧k<b)∧b∈F∧bl.length≤1000∧
    match made with
    | false=>f 1=.int .u32 0∧f 4=.int .i64 0
    | true=>f 1=.int .u32 1∧f 4=.int .i64 1∧Xml w b bl f 256∧∃ q ft,f 517=.slice (some ⟨q,0,none⟩) bl.length bl.length∧b<q∧q∈F∧Blk w q (bl.length*256) ft∧XeR bl ft 256
theorem TabF.fr {w w':World} {b:Nat} {bl:List UInt8} {F:List Nat} {m:Bool} {l:List Nat} (h:TabF w b bl F m) (hf:Fr l w w') (hl:∀ k∈l,k∉F):TabF w' b bl F m:=by
  obtain ⟨f,p,c,hB,h0,hR,h2,hp,hb,hbl,hm⟩:=h
  refine ⟨f,p,c,hB.fr hf (fun hk=>hl _ hk hb),h0,Row.cells_fr hR hf (fun k hk hkl=>hl _ hkl (hp k hk).1),h2,hp,hb,hbl,?_⟩
  cases m with
  | false=>exact hm
  | true=>
    obtain ⟨a1,a2,a3,q,ft,a4,a5,a6,a7,a8⟩:=hm
    exact ⟨a1,a2,a3,q,ft,a4,a5,a6,a7.fr hf (fun hk=>hl _ hk a6),a8⟩
theorem TabF.fr0 {w w':World} {b:Nat} {bl:List UInt8} {F:List Nat} {m:Bool} (h:TabF w b bl F m) (hf:Fr [] w w'):TabF w' b bl F m:=h.fr hf (by simp)
theorem TabF.lt {w:World} {b:Nat} {bl:List UInt8} {F:List Nat} {m:Bool} (h:TabF w b bl F m):b<w.heap.size∧b∈F:=by
  obtain ⟨f,p,c,hB,h0,hR,h2,hp,hb,hbl,hm⟩:=h; exact ⟨hB.lt,hb⟩
theorem Xv4 {w:World} {p:Option Addr} {c:Nat} {l:Nat} {bl:List UInt8} (hR:Row w p (bl.map vb)) (hl:l=bl.length) (hbl:bl.length≤1000) {K:VWP}
    (h:∀ b F w',Fr [] w w'→TabF w' b bl F false→(∀ k∈F,w.heap.size≤k∧k<w'.heap.size)→K (.pointer (some ⟨b,0,none⟩)) w'):Xa Tryz.prog Xpg #[.slice p l c] w K:=by
  subst hl
  apply XjT
  unfold XkK
  refine Jh hR (by simp) (by omega) (by simp; intros; rfl) fun p' c' w1 f1 hO hnew=>?_
  refine ⟨_,_,_,rfl,New.intro fun w2 f2 hB s2=>?_⟩
  refine h _ (w1.heap.size::Xb p') w2 (f1.then f2) ⟨_,p',c',hB,rfl,hO.row.fr0 f2,rfl,fun k hk=>⟨by simp [hk],hO.lt k hk⟩,by simp,hbl,rfl,rfl⟩ ?_
  intro k hk
  have:=f1.size
  simp only [List.mem_cons] at hk
  rcases hk with rfl | hk
  · omega
  · have:=hnew k hk; have:=hO.lt k hk; omega
theorem Xot {w:World} {b:Nat} {bl:List UInt8} {F:List Nat} {m:Bool} (hT:TabF w b bl F m) {K:VWP}
    (h:∀ w' F',Fr [b] w w'→TabF w' b bl F' true→(∀ k∈F,k∈F')→(∀ k∈F',k∈F∨w.heap.size≤k∧k<w'.heap.size)→(m=true→F'=F∧Fr [] w w')→K (.pointer (some ⟨b,0,none⟩)) w'):Xa Tryz.prog Xcb #[.pointer (some ⟨b,0,none⟩)] w K:=by
  apply QX
  refine ⟨_,rfl,?_⟩
  rw [Xi]
  cases m with
  | true=>
    obtain ⟨f,p,c,hB,h0,hR,h2',hp,hb,hbl,hm⟩:=id hT
    refine W0 hB (by omega) hm.1 ⟨rfl,?_⟩
    exact h w F (Fr.refl _ _) hT (fun _ h=>h) (fun _ h=>.inl h) (fun _=>⟨rfl,Fr.refl _ _⟩)
  | false=>
    obtain ⟨f,p,c,hB,h0,hR,h2',hp,hb,hbl,h1,h4⟩:=hT
    refine Wr hB (by omega) h1 h2' fun w1 f1 hB1 s1=>Xp6 ?_
    refine XvZ hB1 (by rw [upd_ne _ _ _ (by omega)]; exact h0) (Row.cells_fr hR f1 fun k hk=>by have:=(hp k hk).2; simp; omega) (fun k hk=>by have:=(hp k hk).2; omega) (fun k hk=>by have:=(hp k hk).2; have:=hB1.lt; omega)
      (by rw [upd_ne _ _ _ (by omega)]; exact h4) hbl fun w2 f' q ft f2 hB2 g0 g1 g2 g4 gok g517 hq hQ hrows=>?_
    refine ⟨rfl,f',hB2,by rw [g2,upd_same],fun w3 f3 hB3 s3=>⟨rfl,?_⟩⟩
    have hqb:q≠b:=by have:=hB1.lt; omega
    have fA:Fr [b] w w2:=f1.trans f2 (fun _ h=>.inl h)
    have fB:Fr [b] w w3:=fA.trans f3 (fun _ h=>.inl h)
    have hqw:=hQ.lt
    refine h w3 (q::F) fB ⟨_,p,c,hB3,?_,Row.cells_fr hR fB fun k hk=>by have:=(hp k hk).2; simp; omega,upd_same _ _ _,fun k hk=>⟨by simp [(hp k hk).1],(hp k hk).2⟩,by simp [hb],hbl,?_,?_,⟨?_,?_⟩,q,ft,?_,by have:=hB.lt; omega,by simp,hQ.fr f3 (by simpa using hqb),hrows⟩ (fun k hk=>by simp [hk])
      (fun k hk=>by simp only [List.mem_cons] at hk; rcases hk with rfl | hk; exact .inr (by have:=f3.size; omega); exact .inl hk) (by simp)
    · rw [upd_ne _ _ _ (by omega),upd_ne _ _ _ (by omega),g0,upd_ne _ _ _ (by omega)]; exact h0
    · rw [upd_ne _ _ _ (by omega)]; exact upd_same _ _ _
    · rw [upd_ne _ _ _ (by omega),upd_ne _ _ _ (by omega)]; exact g4
    · intro i hi; rw [upd_ne _ _ _ (by omega),upd_ne _ _ _ (by omega)]; exact gok.1 i hi
    · intro i hi; rw [upd_ne _ _ _ (by omega),upd_ne _ _ _ (by omega)]; exact gok.2 i hi
    · rw [upd_ne _ _ _ (by omega),upd_ne _ _ _ (by omega)]; exact g517
theorem Xsz {w:World} {b:Nat} {bl:List UInt8} {F:List Nat} {m:Bool} (hT:TabF w b bl F m) (a:UInt8) {K:VWP}
    (h:∀ w' F',Fr [b] w w'→TabF w' b bl F' true→(∀ k∈F,k∈F')→(∀ k∈F',k∈F∨w.heap.size≤k∧k<w'.heap.size)→(m=true→F'=F∧Fr [] w w')→K (vb (XE a)) w'):Xa Tryz.prog J6 #[.pointer (some ⟨b,0,none⟩),vb a] w K:=by
  apply Xbo
  refine Xot hT fun w' F' f1 hT' h1 h2 h3=>⟨_,rfl,_,rfl,?_⟩
  obtain ⟨f,p,c,hB,h0,hR,h2',hp,hb,hbl,a1,a2,a3,_⟩:=id hT'
  have hal:=a.toNat_lt
  refine ⟨_,YM (n:=256) (by kernel_rfl) (by omega) (by omega),_,Ld.blk (by kernel_rfl) hB (by simp; omega) ?_,h w' F' f1 hT' h1 h2 h3⟩
  rw [Int.toNat_natCast,Nat.zero_add,a3.1 a.toNat hal]
  simp
theorem XtP {w:World} {b:Nat} {bl:List UInt8} {F:List Nat} (hT:TabF w b bl F true) (k:Nat) (x a:UInt8) (hk:bl[k]?=some x) {K:VWP} (h:∀ w',Fr [] w w'→TabF w' b bl F true→K (.tuple #[vb (Xl a x),.int .i64 0]) w') :
    Xa Tryz.prog Xcc #[.pointer (some ⟨b,0,none⟩),.int .i64 (k:Nat),vb a] w K:=by
  apply QY
  refine Xot hT fun w' F' f1 hT' _ _ h3=>⟨_,rfl,?_⟩
  obtain ⟨rfl,fz⟩:=h3 rfl
  obtain ⟨f,p,c,hB,h0,hR,h2',hp,hb,hbl,a1,a2,a3,q,ft,a4,a5,a6,a7,a8⟩:=id hT'
  have hal:=a.toNat_lt
  have hkl:=(List.getElem?_eq_some_iff.1 hk).1
  have hin:k*256+a.toNat<bl.length*256:=by
    have:(k+1)*256≤bl.length*256:=Nat.mul_le_mul_right _ hkl
    omega
  refine Xc (fun h=>by omega) fun _=>⟨_,rfl,_,_,_,Ld.blk (by kernel_rfl) hB (by show (517:Nat)<518; omega) a4,Xc (fun h=>by omega) fun _=>?_⟩
  refine ⟨_,rfl,_,_,_,Ld.blk (by kernel_rfl) hB (by show (517:Nat)<518; omega) a4,_,ixS (s:=256) (by kernel_rfl) (by omega) (by omega),_,YM (n:=256) (by kernel_rfl) (by omega) (by omega),_,Ld.blk (by kernel_rfl) a7 (by simp; omega) ?_,h w' fz hT'⟩
  have:=a8 k x hk a.toNat hal
  simp only [UInt8.ofNat_toNat] at this
  rw [Int.toNat_natCast,Int.toNat_natCast,Nat.zero_add,this]
end Go.Sh
end

section
namespace Go.Sh
open Go Go.Fw Go.Proofs
set_option maxRecDepth 100000
set_option linter.unusedVariables false
theorem Xpu {w:World} {x y:Nat→UInt8} {K:VWP} (h:∀ w',Fr [] w w'→K (.agg ⟨Xy 4 (fun j=>x j ^^^ y j)⟩) w'):Xa Tryz.prog Xh1 #[.agg ⟨Xy 4 x⟩,.agg ⟨Xy 4 y⟩] w K:=by
  apply Xei
  unfold XcU
  refine Xoq fun w1 fx f1 hX hx s1=>?_
  refine Xoq fun w2 fy f2 hY hy s2=>?_
  refine ZL (s:=4) (by kernel_rfl) fun w3 fz f3 hZ s3=>?_
  have hX3:=(hX.fr0 f2).fr0 f3
  have hY3:=hY.fr0 f3
  refine LoopS.ind (fun k us w'=>∃ i:Nat,i+k=4∧us=[.pointer (some ⟨w.heap.size,0,none⟩),.pointer (some ⟨w1.heap.size,0,none⟩),.pointer (some ⟨w2.heap.size,0,none⟩),.int .i64 (i:Int)]∧Fr [w.heap.size] w3 w'∧∃ f,Blk w' w.heap.size 4 f∧BAt f 0 4 (fun j=>if j<i then x j ^^^ y j else x j)) 4
    ⟨0,rfl,rfl,Fr.refl _ _,fx,hX3,by simpa using hx⟩ ?_
  rintro k us r w4 I μ hgo ⟨i,hi,rfl,f4,f,hB,hf⟩
  refine ⟨_,_,_,_,rfl,Xc (fun h1=>?_) (fun h1=>?_)⟩
  · have hi4:i<4:=by omega
    refine ⟨fun w'=>w'.cell? ⟨w.heap.size,i,none⟩=some (vb (x i)),Drw.intro fun w5 f5 s5=>?_⟩
    have hB5:=hB.fr0 f5
    have hY5:=(hY3.fr f4 (by simp; omega)).fr0 f5
    have hfi:f i=vb (x i):=by
      have:=hf i hi4
      rw [Nat.zero_add] at this
      rw [this]
      show vb (if i<i then x i ^^^ y i else x i)=_
      rw [if_neg (by omega)]
    have hc:w5.cell? ⟨w.heap.size,i,none⟩=some (vb (x i)):=by rw [hB5.cell hi4,hfi]
    refine ⟨_,YM (n:=4) (by kernel_rfl) (by omega) (by omega),_,YM (n:=4) (by kernel_rfl) (by omega) (by omega),?_⟩
    rw [Int.toNat_natCast,Nat.zero_add]
    refine ⟨_,⟨hc,fun w' hw'=>Ld.cell (by kernel_rfl) hw'⟩,_,Ld.blk (by kernel_rfl) hY5 hi4 (by have:=hy i hi4; rwa [Nat.zero_add] at this),.inl rfl,_,YM (n:=4) (by kernel_rfl) (by omega) (by omega),?_⟩
    rw [Int.toNat_natCast,Nat.zero_add,UV]
    refine Sto.blk (by kernel_rfl) hB5 hi4 rfl rfl fun w6 f6 hB6 s6=>?_
    refine hgo _ _ _ (k - 1) (by omega) ⟨i+1,by omega,by rw [Xe (by omega) (by omega)]; rfl,(f4.then f5).trans f6 (fun _ h=>.inl h),_,hB6,fun j hj=>?_⟩
    rw [Nat.zero_add]
    show _=vb (if j<i+1 then x j ^^^ y j else x j)
    by_cases hji:j=i
    · subst hji; rw [upd_same,if_pos (by omega)]
    · rw [Go.Fw.upd_ne _ _ _ hji]
      have:=hf j hj
      rw [Nat.zero_add] at this
      rw [this]
      show vb (if j<i then x j ^^^ y j else x j)=_
      by_cases hj2:j<i
      · rw [if_pos hj2,if_pos (by omega)]
      · rw [if_neg hj2,if_neg (by omega)]
  · have hi4:i=4:=by omega
    subst hi4
    unfold QD
    have hf4:BAt f 0 4 (fun j=>x j ^^^ y j):=by
      intro j hj
      rw [hf j hj]
      show vb (if j<4 then x j ^^^ y j else x j)=_
      rw [if_pos hj]
    refine ⟨_,LdA (m:=4) (by kernel_rfl) (by kernel_rfl) hB (Nat.le_refl 4) (Xy 4 (fun j=>x j ^^^ y j)) (Xr _ _) hf4.ld,?_⟩
    refine Sto.agg (by kernel_rfl) (Xr 4 _) (hZ.fr f4 (by simp; omega)) (Nat.le_refl 4) YD fun w5 f5 hZ5 s5=>?_
    refine ⟨_,_,rfl,LdA (m:=4) (by kernel_rfl) (by kernel_rfl) hZ5 (Nat.le_refl 4) (Xy 4 (fun j=>x j ^^^ y j)) (Xr _ _) BAt.updN.ld,?_⟩
    refine h w5 ?_
    have fA:Fr [] w w3:=(f1.then f2).then f3
    exact (fA.trans f4 (fun z hz=>.inr (by simp at hz; omega))).trans f5 (fun z hz=>.inr (by simp at hz; have:=f1.size; have:=f2.size; omega))
def Ciph (w:World) (c t:Nat) (F:List Nat) (ks:Nat→UInt8) (done:Int):Prop:=
  ∃ f,Blk w c 178 f∧f 0=.pointer (some ⟨t,0,none⟩)∧BAt f 1 176 ks∧f 177=.int .i64 done∧TabF w t [2,3,9,11,13,14] F true∧c∉F∧∀ k∈F,k<w.heap.size
theorem Ciph.fr {w w':World} {c t:Nat} {F:List Nat} {ks:Nat→UInt8} {done:Int} {l:List Nat} (h:Ciph w c t F ks done) (hf:Fr l w w') (hc:c∉l) (hl:∀ k∈l,k∉F):Ciph w' c t F ks done:=by
  obtain ⟨f,hB,h0,hk,hd,hT,hn,hF⟩:=h
  exact ⟨f,hB.fr hf hc,h0,hk,hd,hT.fr hf hl,hn,fun k hk=>Nat.lt_of_lt_of_le (hF k hk) hf.size⟩
theorem Ciph.fr0 {w w':World} {c t:Nat} {F:List Nat} {ks:Nat→UInt8} {done:Int} (h:Ciph w c t F ks done) (hf:Fr [] w w'):Ciph w' c t F ks done:=h.fr hf (by simp) (by simp)
end Go.Sh
end
