/- A part of a proof of a given law of this program: lemmas, printed forms of its functions, contracts. It has no conditions of its own. -/
import Derived.Test.YtlfdlhgbppahgaaGreatMC4
import Derived.Test.YtlfdlhgbppahgaaGreatMS3
import Derived.Test.YtlfdlhgbppahgaaGreatMC3
import Derived.Test.YtlfdlhgbppahgaaGreatMC2
import Derived.Test.YtlfdlhgbppahgaaGreatMC1
import Derived.Test.YtlfdlhgbppahgaaGreatMC0
import Derived.Test.YtlfdlhgbppahgaaGreatMS1

set_option maxHeartbeats 16000000
section
namespace Go.Sh
open Go Go.Fw Go.Proofs
set_option maxRecDepth 100000
set_option linter.unusedVariables false
theorem Xv5 {P:Program} {f:FuncId} {a a':Array Value} {w:World} {K:VWP} (he:a=a') (h:Xa P f a' w K):Xa P f a w K:=by subst he; exact h
def Yv:List Nat→List Value
  | []=>[]
  | e::l=>bA 128 (cf e)++Yv l
theorem XkY (l:List Nat):(Yv l).length=l.length*128:=by induction l with | nil=>rfl | cons r l ih=>simp only [Yv,List.length_cons,List.length_append,Vp,ih]; omega
theorem Xoq (a b:List Nat):Yv (a++b)=Yv a++Yv b:=by induction a with | nil=>rfl | cons r a ih=>simp [Yv,ih]
theorem XtL:∀ (l:List Nat) (i e j:Nat),l[i]?=some e→j<128→(Yv l)[i*128+j]?=some (.bool (cf e j)):=by
  intro l
  induction l with
  | nil=>intro i r j h; simp at h
  | cons x l ih=>
    intro i r j h hj
    cases i with
    | zero=>
      simp at h; subst h
      show (bA 128 (cf x)++Yv l)[0*128+j]?=_
      rw [List.getElem?_append_left (by rw [Vp]; omega),Nat.zero_mul,Nat.zero_add,XwN hj]
    | succ i=>
      show (bA 128 (cf x)++Yv l)[(i+1)*128+j]?=_
      rw [List.getElem?_append_right (by rw [Vp]; omega),Vp,show (i+1)*128+j - 128=i*128+j by omega]
      exact ih i r j (by simpa using h) hj
theorem Xyz (n:Nat) (g:Nat→Bool):∀ v∈bA n g,v.oneCell'=true:=by
  intro v hv
  obtain ⟨j,hj,rfl⟩:=List.mem_map.1 hv; rfl
theorem XtM (l:List Nat):∀ v∈Yv l,v.oneCell'=true:=by
  induction l with
  | nil=>simp [Yv]
  | cons r l ih=>intro v hv; rcases List.mem_append.1 hv with hv | hv; exact Xyz _ _ v hv; exact ih v hv
def PE (w:World) (p:Option Addr) (l c:Nat) (es:List Nat) (lo:Nat):Prop:=OwnN 128 w p l c (Yv es)∧l=es.length∧∀ k∈Xb p,lo≤k
section
variable {w:World} {b n:Nat} {K:VWP}
theorem PE.fr {p:Option Addr} {l c lo:Nat} {es:List Nat} {w':World} {L:List Nat} (h:PE w p l c es lo) (f:Fr L w w') (hL:∀ k∈L,k<lo):PE w' p l c es lo:=⟨h.1.fr f fun k hk hm=>by have:=hL k hm; have:=h.2.2 k hk; omega,h.2⟩
theorem PE.fr0 {p:Option Addr} {l c lo:Nat} {es:List Nat} {w':World} (h:PE w p l c es lo) (f:Fr [] w w'):PE w' p l c es lo:=⟨h.1.fr0 f,h.2⟩
theorem PE.mono {p:Option Addr} {l c lo lo':Nat} {es:List Nat} (h:PE w p l c es lo) (hl:lo'≤lo):PE w p l c es lo':=⟨h.1,h.2.1,fun k hk=>Nat.le_trans hl (h.2.2 k hk)⟩
theorem PE.row {p:Option Addr} {l c lo:Nat} {es:List Nat} (h:PE w p l c es lo):Row w p (Yv es):=h.1.row
theorem Xzy {K:Option Addr→Nat→Nat→World→Prop} (h:∀ p w',Fr [] w w'→PE w' p 0 0 [] w.heap.size→w'.heap.size=w.heap.size+1→K p 0 0 w'):∃ p l c w',Ef Tryz.prog (Instr.buildSlice Yf 0 #[]) w (.slice p l c) w'∧K p l c w':=
  ⟨_,_,_,Ef.new (v:=.slice (some ⟨w.heap.size,0,none⟩) 0 0) (cs:=([]:List Value).toArray) (e:=YW) (by kernel_rfl) fun w' f hB s=>h _ w' f ⟨⟨rfl,.inr ⟨_,0,_,_,rfl,hB,by omega,by omega,by simp [Yv]⟩⟩,rfl,by simp [Xb]⟩ s⟩
theorem Xzz {e:Nat} {K:Option Addr→Nat→Nat→World→Prop} (h:∀ p w',Fr [] w w'→Row w' p (Yv [e])→w'.heap.size=w.heap.size+1→K p 1 1 w'):∃ p l c w',Ef Tryz.prog (Instr.buildSlice Yf 1 #[(0,.agg ⟨bA 128 (cf e)⟩)]) w (.slice p l c) w'∧K p l c w':=by
  obtain ⟨g,hg⟩:∃ g,g=cf e:=⟨_,rfl⟩
  have e1:Yv [e]=bA 128 g:=by rw [hg]; simp [Yv]
  rw [← hg]
  rw [e1] at h
  exact ⟨_,_,_,Ef.new (v:=.slice (some ⟨w.heap.size,0,none⟩) 1 1) (cs:=(bA 128 g).toArray) (e:=YW) (by kernel_rfl) fun w' f hB s=>h _ w' f hB.rowL s⟩
theorem XtN {p q:Option Addr} {l c lo m d:Nat} {es ys:List Nat} (h:PE w p l c es lo) (hlo:lo≤w.heap.size) (hR:Row w q (Yv ys)) (hm:m=ys.length) (hlen:l+m≤1073741824) {K:Option Addr→Nat→Nat→World→Prop}
    (hk:∀ p' c' w',Fr (Xb p) w w'→PE w' p' (l+m) c' (es++ys) lo→K p' (l+m) c' w'):∃ p' l' c' w',Ef Tryz.prog (Builtin.append_ #[Yf,Yf] Yf #[.slice p l c,.slice q m d]) w (.slice p' l' c') w'∧K p' l' c' w':=by
  obtain ⟨p',c',w',he,hO,hf,hcase⟩:=Ef.appendN (P:=Tryz.prog) (t:=Yf) (ty:=Yf) (s:=128) (by kernel_rfl) h.1 (m:=m) (d:=d) hR (by rw [XkY,hm]) (XtM ys) hlen
  rw [← Xoq] at hO
  refine ⟨_,_,_,_,he,hk p' c' w' hf ⟨hO,by rw [List.length_append,← hm,← h.2.1],?_⟩⟩
  rcases hcase with ⟨rfl,_,_⟩ | ⟨rfl,_,_⟩
  · exact h.2.2
  · intro k hk'; simp [Xb] at hk'; omega
theorem Xzg {p:Option Addr} {es:List Nat} (hX:Row w p (Yv es)) {l c i:Nat} (hl:l=es.length) (hi:i<l) :
    ∃ b o e,es[i]?=some e∧IxA Tryz.prog Yf (.slice p l c) (.int .i64 (i:Int)) ⟨b,o,none⟩∧∀ j,j<128→w.cell? ⟨b,o+j,none⟩=some (.bool (cf e j)):=by
  have hlt:i<es.length:=by omega
  obtain ⟨b,o,ha,_,hc⟩:=hX.cellAt (P:=Tryz.prog) (t:=Yf) (s:=128) (by kernel_rfl) (k:=.i64) (l:=l) (c:=c) (by rw [XkY,hl]) hi (by omega)
  exact ⟨b,o,_,List.getElem?_eq_getElem hlt,ha,fun j hj=>hc j _ hj (XtL es i _ j (List.getElem?_eq_getElem hlt) hj)⟩
theorem Xnc {n:Nat} (hn:n<1000000000) (h:∀ q d w',Fr [] w w'→OB w' q 8 d (XO (n*8) 8) w.heap.size→K (.slice q 8 d) w'):Xa Tryz.prog Xpm #[.int .i64 (n:Int)] w K:=by
  apply Xj2
  unfold Xj1
  refine mkN (n:=8) (c:=8) (by omega) (by omega) fun p w1 f1 hO1 s1=>?_
  have e8:IntKind.i64.wrap ((n:Int)*8)=((n*8:Nat):Int):=by rw [Xe (by omega) (by omega)]; omega
  rw [e8]
  obtain ⟨N,hN⟩:∃ N,N=n*8:=⟨_,rfl⟩
  rw [← hN] at h ⊢
  have hNb:N<8000000000:=by omega
  refine LoopS.ind (fun k us w'=>∃ (t:Nat) (zs:List UInt8),t+k=8∧us=[.int .i64 ((N / 256 ^ t:Nat):Int),.slice none 0 0,.slice p 8 8,.int .i64 (7 - (t:Int))]∧Fr [] w w'∧OB w' p 8 8 zs w.heap.size∧∀ j,j<8→7 - j<t→fl zs j=UInt8.ofNat (N / 256 ^ (7 - j))) 8
    ⟨0,_,by omega,by simp,f1,hO1,by omega⟩ ?_
  rintro k us r w2 I μ hgo ⟨t,zs,ht,rfl,f2,hO2,hz⟩
  refine ⟨_,_,_,_,_,_,_,_,rfl,Xd (fun h1=>?_) (fun h1=>?_)⟩
  · have e7:(7 - (t:Int))=((7 - t:Nat):Int):=by omega
    have hM:N / 256 ^ t≤N:=Nat.div_le_self _ _
    obtain ⟨M,hMe⟩:∃ M,M=N / 256 ^ t:=⟨_,rfl⟩
    rw [← hMe] at hM ⊢
    have eb:IntKind.u8.wrap (Int.tmod (M:Int) 256)=(((UInt8.ofNat M).toNat:Nat):Int):=by
      rw [show (256:Int)=((256:Nat):Int) from rfl,XtI,UInt8.toNat_ofNat']
      rw [W0 (by omega) (by omega)]
    rw [eb,e7]
    have hzl:=hO2.2.1
    refine hO2.sto (k:=.i64) (i:=7 - t) (by omega) fun w3 f3 hO3 s3=>?_
    have ed:IntKind.i64.wrap (Int.tdiv (M:Int) 256)=((N / 256 ^ (t+1):Nat):Int):=by
      rw [show (256:Int)=((256:Nat):Int) from rfl,XwO,Xe (by omega) (by omega),hMe,Nat.div_div_eq_div_mul,← Nat.pow_succ]
    have es:IntKind.i64.wrap (((7 - t:Nat):Int) - 1)=7 - ((t+1:Nat):Int):=by rw [Xe (by omega) (by omega)]; omega
    rw [ed,es,← e7,hMe]
    refine hgo _ _ _ (k - 1) (by omega) ⟨t+1,_,by omega,rfl,hO2.news f2 f3 (Nat.le_refl _),hO3,fun j hj hjt=>?_⟩
    rw [Z4 (by omega)]
    by_cases hji:j=7 - t
    · rw [if_pos hji,hMe,show 7 - j=t by omega]
    · rw [if_neg hji]; exact hz j hj (by omega)
  · have e1 : zs = XO N 8 := Xcd (by rw [Yb, ← hO2.2.1]) fun j hj => by
      rw [← hO2.2.1] at hj
      rw [hz j hj (by omega)]
      unfold XO fl
      rw [List.getD_eq_getElem?_getD,List.getElem?_map,List.getElem?_range hj]; rfl
    rw [e1] at hO2
    exact h p 8 w2 f2 hO2
end
end Go.Sh
end

section
namespace Go.Sh
open Go Go.Fw Go.Proofs
set_option maxRecDepth 100000
set_option linter.unusedVariables false
theorem Xxw (a b:Nat):(fun j=>cf a j ^^ cf b j)=cf (a ^^^ b):=by
  funext j
  unfold cf
  rw [Nat.testBit_xor]
  cases decide (j<128) <;> simp
theorem Xu4 (xs:List UInt8) (i:Nat) {j:Nat} (hj:j<16):fl (VR (X7 xs i)) j=if 16*i+j<xs.length then fl xs (16*i+j) else 0:=by
  have hl:=QN xs i
  unfold VR fl
  rw [List.getD_eq_getElem?_getD]
  by_cases h:16*i+j<xs.length
  · rw [if_pos h,List.getElem?_append_left (by omega)]
    unfold X7
    rw [List.getElem?_take,if_pos hj,List.getElem?_drop,List.getD_eq_getElem?_getD]
  · rw [if_neg h,List.getElem?_append_right (by omega),List.getElem?_replicate]
    split <;> rfl
section
variable {w:World} {b n:Nat} {K:VWP}
theorem XrX {xs:List UInt8} {i:Nat} (hi:i<Yh xs.length):(XH xs).take (i+1)=(XH xs).take i++[QM xs i]:=by
  rw [List.take_add_one]
  congr 1
  unfold XH
  rw [List.getElem?_map,List.getElem?_range hi]; rfl
theorem Xbj {p:Option Addr} {l c:Nat} {xs:List UInt8} (hx:Row w p (xs.map vb)) (hl:l=xs.length) (hlb:l<1000000)
    (h:∀ q d w',Fr [] w w'→PE w' q (Yh l) d (XH xs) w.heap.size→K (.slice q (Yh l) d) w'):Xa Tryz.prog Xlq #[.slice p l c] w K:=by
  apply Xg9
  unfold XfF
  refine Xzy fun p0 w1 f1 hO1 s1=>?_
  have hN:∀ i,16*i<l↔i<Yh l:=fun i=>by unfold Yh; omega
  refine LoopS.ind (fun k us w'=>∃ (i:Nat) (q:Option Addr) (d:Nat),i+k=Yh l∧us=[.slice p l c,.slice none 0 0,.slice q i d,.int .i64 ((16*i:Nat):Int)]∧Fr [] w w'∧PE w' q i d ((XH xs).take i) w.heap.size) (Yh l)
    ⟨0,p0,0,by omega,rfl,f1,hO1⟩ ?_
  rintro k us r w2 I μ hgo ⟨i,q,d,hi,rfl,f2,hO2⟩
  refine ⟨_,_,_,_,_,_,_,_,_,_,rfl,Xd (fun h1=>?_) (fun h1=>?_)⟩
  · have h1':16*i<l:=by omega
    have hi2:=(hN i).1 h1'
    refine mkN (n:=16) (c:=16) (by omega) (by omega) fun p3 w3 f3 hO3 s3=>?_
    have fin : ∀ (w5 : World) (zs : List UInt8), Fr [] w2 w5 → OB w5 p3 16 16 zs w2.heap.size → (∀ j, j < 16 → fl zs j = if 16 * i + j < l then fl xs (16 * i + j) else 0) →
        ZS I μ [.slice p l c,.slice none 0 0,.slice q i d,.int .i64 ((16*i:Nat):Int)] w2 p l c none 0 0 q i d ((16*i:Nat):Int) p3 16 16 w5 K:=by
      intro w5 zs f5 hO5 hz
      unfold ZS
      have ez:zs=VR (X7 xs i):=Xcd (by rw [Xdm (by rw [QN]; omega),← hO5.2.1]) fun j hj=>by
        rw [← hO5.2.1] at hj
        rw [hz j hj,Xu4 xs i hj,hl]
      have en:Xm zs=QM xs i:=by rw [ez]; rfl
      refine XqI hO5.row hO5.2.1 rfl fun w6 f6=>⟨_,rfl,?_⟩
      rw [en]
      refine Xzz fun p7 w7 f7 hR7 s7=>?_
      have f57:=f5.then (f6.then f7)
      have f07:=f2.then f57
      refine XtN (m:=1) (hO2.fr0 f57) f07.size hR7 rfl (by unfold Yh at hi2; omega) fun p8 c8 w8 f8 hO8=>?_
      have e16:IntKind.i64.wrap (((16*i:Nat):Int)+16)=((16*(i+1):Nat):Int):=by rw [Xe (by omega) (by omega)]; omega
      rw [e16]
      refine hgo _ _ _ (k - 1) (by omega) ⟨i+1,p8,c8,by omega,rfl,f07.trans f8 (fun x hx=>.inr (hO2.2.2 x hx)),?_⟩
      rw [XrX (by rw [← hl]; exact hi2)]
      exact hO8
    refine LoopS.ind (fun k2 us w'=>∃ (t:Nat) (zs:List UInt8),t+k2=16∧us=[.slice p l c,.slice none 0 0,.slice q i d,.int .i64 ((16*i:Nat):Int),.slice p3 16 16,.int .i64 (t:Int)]∧16*i+t≤l∧Fr [] w2 w'∧OB w' p3 16 16 zs w2.heap.size∧∀ j,j<16→fl zs j=if j<t then fl xs (16*i+j) else 0) 16
      ⟨0,_,by omega,rfl,by omega,f3,hO3,fun j hj=>?_⟩ ?_
    · rw [if_neg (by omega)]
      unfold fl; rw [List.getD_eq_getElem?_getD,List.getElem?_replicate]; split <;> rfl
    rintro k2 us2 r2 w4 I2 μ2 hgo2 ⟨t,zs,ht,rfl,htl,f4,hO4,hz⟩
    have fin4:(t=16∨l≤16*i+t)→ZS I μ [.slice p l c,.slice none 0 0,.slice q i d,.int .i64 ((16*i:Nat):Int)] w2 p l c none 0 0 q i d ((16*i:Nat):Int) p3 16 16 w4 K:=fun hor=>fin w4 zs f4 hO4 fun j hj=>by
      rw [hz j hj]
      by_cases hjt:j<t
      · rw [if_pos hjt,if_pos (by omega)]
      · rw [if_neg hjt,if_neg (by omega)]
    refine ⟨_,_,_,_,_,_,_,_,_,_,_,_,_,_,rfl,Xd (fun h2=>?_) (fun h2=>fin4 (.inl (by omega)))⟩
    have ew:IntKind.i64.wrap (((16*i:Nat):Int)+(t:Int))=((16*i+t:Nat):Int):=by rw [Xe (by omega) (by omega)]; omega
    rw [ew]
    refine Xd (fun h3=>?_) (fun h3=>fin4 (.inr (by omega)))
    unfold Xat
    rw [ew]
    obtain ⟨a,ha,hca⟩:=Xy (t:=Xf) (by kernel_rfl) (hx.fr0 (f2.then f4)) (c:=c) hl (i:=16*i+t) (by omega) (k:=.i64)
    refine ⟨a,ha,_,Ld.cell (by kernel_rfl) hca,?_⟩
    have hzl:=hO4.2.1
    refine hO4.sto (k:=.i64) (i:=t) (by omega) fun w5 f5 hO5 s5=>?_
    rw [Xe (by omega) (by omega)]
    refine hgo2 _ _ _ (k2 - 1) (by omega) ⟨t+1,_,by omega,rfl,by omega,hO4.news f4 f5 (Nat.le_refl _),hO5,fun j hj=>?_⟩
    rw [Z4 (by omega)]
    by_cases hjt:j=t
    · subst hjt; rw [if_pos rfl,if_pos (by omega)]; rfl
    · rw [if_neg hjt,hz j hj]
      by_cases hlt:j<t
      · rw [if_pos hlt,if_pos (by omega)]
      · rw [if_neg hlt,if_neg (by omega)]
  · have hil:i=Yh l:=by have:=hN i; omega
    subst hil
    rw [List.take_of_length_le (by rw [XhW,← hl]; exact Nat.le_refl _)] at hO2
    exact h q d w2 f2 hO2
theorem Xu5 {H a0:Nat} {p:Option Addr} {l c:Nat} {es:List Nat} (hH:H<2 ^ 128) (hE:Row w p (Yv es)) (hl:l=es.length) (hlb:l<1000000)
    (h:∀ w',Fr [] w w'→K (.agg ⟨bA 128 (cf (Jg H a0 es))⟩) w'):Xa Tryz.prog Xpn #[.agg ⟨bA 128 (cf H)⟩,.agg ⟨bA 128 (cf a0)⟩,.slice p l c] w K:=by
  apply Xj4
  unfold Xj3
  refine Xdq rfl fun w1 f1 hA1 s1=>Xdq rfl fun w2 f2 hA2 s2=>Xgq fun w3 g3 f3 hB3 s3=>?_
  have f03:=(f1.then f2).then f3
  refine LoopS.ind (fun k us w'=>∃ i:Nat,i+k=l∧us=[.slice p l c,.pointer (some ⟨w.heap.size,0,none⟩),.pointer (some ⟨w1.heap.size,0,none⟩),.pointer (some ⟨w2.heap.size,0,none⟩),.int .i64 (i:Int)]∧Fr [] w w'∧PolB w' w.heap.size 128 (cf H)∧PolB w' w1.heap.size 128 (cf (Jg H a0 (es.take i)))∧∃ g1,Blk w' w2.heap.size 128 g1) l
    ⟨0,by omega,rfl,f03,hA1.fr0 (f2.then f3),hA2.fr0 f3,_,hB3⟩ ?_
  rintro k us r w4 I μ hgo ⟨i,hi,rfl,f4,hH4,hA4,⟨g4,hB4⟩⟩
  refine ⟨_,_,_,_,_,_,_,rfl,Xd (fun h1=>?_) (fun h1=>?_)⟩
  · refine ⟨fun w'=>Fr [] w4 w',Drw.intro fun w5 f5 s5=>?_⟩
    obtain ⟨b,o,x,hx,ha,hc⟩:=Xzg (hE.fr0 f4) (c:=c) hl (i:=i) (by omega)
    refine ⟨_,ha,_,⟨f5,fun w' hw'=>(hA4.fr0 hw').ld⟩,_,⟨f5,fun w' hw'=>ldB (g:=cf x) fun j hj=>hw'.cell (hc j hj) (by simp)⟩,_,⟨f5,fun w' hw'=>(hH4.fr0 hw').ld⟩,?_⟩
    refine Xu2 fun w6 f6=>⟨_,rfl,.inr (f5.then f6),?_⟩
    rw [Xxw]
    refine Xu3 hH fun w7 f7=>⟨_,rfl,?_⟩
    have f47:=(f5.then f6).then f7
    obtain ⟨ga,hga⟩:=(hA4.fr0 f47).blk
    refine Xgb rfl (by kernel_rfl) hga fun w8 f8 hA8 s8=>?_
    rw [Xe (by omega) (by omega)]
    have e1:QL (Jg H a0 (es.take i) ^^^ x) H=Jg H a0 (es.take (i+1)):=by unfold Jg; rw [List.take_add_one,hx,List.foldl_append]; rfl
    rw [e1] at hA8
    exact hgo _ _ _ (k - 1) (by omega) ⟨i+1,by omega,rfl,(f4.then f47).st f8 (by omega),(hH4.fr0 f47).fr f8 (by simp; omega),hA8,_,(hB4.fr0 f47).fr f8 (by simp; omega)⟩
  · have hil:i=l:=by omega
    subst hil
    unfold XdL
    rw [List.take_of_length_le (by omega)] at hA4
    exact ⟨_,hA4.ld,Xgb rfl (by kernel_rfl) hB4 fun w5 f5 hA5 s5=>⟨_,_,rfl,hA5.ld,h w5 (f4.st f5 (by omega))⟩⟩
theorem Xu6 {p0 p1 p2:Option Addr} {l0 c0 l1 c1 l2 c2:Nat} {key xs ys:List UInt8} (hk:Row w p0 (key.map vb)) (hl0:l0=key.length) (h16:l0=16) (hx:Row w p1 (xs.map vb)) (hl1:l1=xs.length) (hb1:l1<1000000) (hy:Row w p2 (ys.map vb)) (hl2:l2=ys.length) (hb2:l2<1000000)
    (h:∀ q d w',Fr [] w w'→OB w' q 16 d (UI (Xm key) xs ys) w.heap.size→K (.slice q 16 d) w'):Xa Tryz.prog Xrh #[.slice p0 l0 c0,.slice p1 l1 c1,.slice p2 l2 c2] w K:=by
  apply XlX
  unfold XmN
  refine Xbj hx hl1 hb1 fun q1 d1 w1 f1 hO1=>⟨_,_,_,rfl,?_⟩
  refine Xbj (hy.fr0 f1) hl2 hb2 fun q2 d2 w2 f2 hO2=>⟨_,_,_,rfl,?_⟩
  have f02:=f1.then f2
  have hN:∀ n,n<1000000→Yh n<100000:=fun n hn=>by unfold Yh; omega
  have hN1:=hN l1 hb1; have hN2:=hN l2 hb2
  refine XtN (hO1.fr0 f2) f02.size hO2.row hO2.2.1 (by omega) fun p3 c3 w3 f3 hO3=>?_
  have f03:Fr [] w w3:=f02.trans f3 (fun x hx=>.inr (hO1.2.2 x hx))
  refine Xnc (by omega) fun q4 d4 w4 f4 hO4=>⟨_,_,_,rfl,?_⟩
  refine Xnc (by omega) fun q5 d5 w5 f5 hO5=>⟨_,_,_,rfl,?_⟩
  have f45:=f4.then f5
  have n3:=f03.size; have n4:=f4.size
  refine XY (hO4.fr0 f5) (f45.size) hO5.row hO5.2.1 (by omega) fun p6 c6 w6 f6 hO6=>?_
  have f36:Fr [] w3 w6:=f45.trans f6 (fun x hx=>.inr (hO4.2.2 x hx))
  refine Xbj (l:=8+8) hO6.row hO6.2.1 (by omega) fun q7 d7 w7 f7 hO7=>⟨_,_,_,rfl,?_⟩
  have f37:=f36.then f7
  have f07:=f03.then f37
  refine XtN (hO3.fr0 f37) f07.size hO7.row hO7.2.1 (by unfold Yh at *; omega) fun p8 c8 w8 f8 hO8=>?_
  have f08:Fr [] w w8:=f07.trans f8 (fun x hx=>.inr (hO3.2.2 x hx))
  refine XqI (hk.fr0 f08) hl0 h16 fun w9 f9=>⟨_,rfl,?_⟩
  refine Xv5 (a':=#[.agg ⟨bA 128 (cf (Xm key))⟩,.agg ⟨bA 128 (cf 0)⟩,.slice p8 (Yh l1+Yh l2+Yh (8+8)) c8]) (by kernel_rfl) ?_
  have hlt:Xm key<2 ^ 128:=Xf9 (by omega)
  refine Xu5 hlt (hO8.fr0 f9).row hO8.2.1 (by unfold Yh at *; omega) fun w10 f10=>⟨_,rfl,?_⟩
  have es:XH xs++XH ys++XH (XO (l1*8) 8++XO (l2*8) 8)=Xga xs ys:=by
    have e1:XH (XO (l1*8) 8++XO (l2*8) 8)=[XiX xs.length ys.length]:=by
      have hlen:(XO (l1*8) 8++XO (l2*8) 8).length=16:=by simp [Yb]
      obtain ⟨Y,hY⟩:∃ Y,Y=XO (l1*8) 8++XO (l2*8) 8:=⟨_,rfl⟩
      have hn:Xm Y=XiX xs.length ys.length:=by
        rw [hY,VY,Qd _ _ (by omega),Qd _ _ (by omega),Yb]
        unfold XiX
        omega
      rw [← hY] at hlen ⊢
      have hb:XH Y=[QM Y 0]:=by unfold XH; rw [hlen]; rfl
      have hp:VR (X7 Y 0)=Y:=by
        have:X7 Y 0=Y:=by unfold X7; rw [Nat.mul_zero,List.drop_zero,List.take_of_length_le (by omega)]
        rw [this]; unfold VR; rw [hlen]; simp
      rw [hb]
      unfold QM
      rw [hp,hn]
    rw [e1]; rfl
  have ho:Jg (Xm key) 0 (Xga xs ys)<2 ^ 128:=XiW hlt _ _ (by decide)
  rw [es]
  refine XrW ho fun q11 d11 w11 f11 hO11=>⟨_,_,_,rfl,?_⟩
  have f010:=(f08.then f9).then f10
  exact h q11 d11 w11 (f010.then f11) (hO11.mono f010.size)
end
end Go.Sh
end

section
namespace Go.Sh
open Go Go.Fw Go.Proofs
set_option maxRecDepth 100000
set_option linter.unusedVariables false
section
variable {w:World} {key nonce text note:List UInt8} {K:VWP}
theorem XkZ {p0 p1 p2 p3:Option Addr} {l0 c0 l1 c1 l2 c2 l3 c3:Nat} (h16:l0=16) (hl1:l1=nonce.length) (hl2:l2=text.length) (hl3:l3=note.length)
    (hbad:¬ okG nonce.length [text,note]→K (.bool true) w) (hok:okG nonce.length [text,note]→K (.bool false) w):Xa Tryz.prog Xny #[.slice p0 l0 c0,.slice p1 l1 c1,.slice p2 l2 c2,.slice p3 l3 c3] w K:=by
  apply XiA
  unfold XhE
  rw [YP] at hbad hok
  refine Xt (fun h1=>by omega) fun _=>Xt (fun h1=>hbad (by omega)) fun h1=>Xd (fun h2=>hbad (by omega)) fun h2=>?_
  by_cases h3:(l3:Int) > 65535
  · rw [decide_eq_true h3]; exact hbad (by omega)
  · rw [decide_eq_false h3]; exact hok (by omega)
theorem Xdr {p:Option Addr} {l c:Nat} (hx:Row w p (nonce.map vb)) (hl:l=nonce.length) (hlb:l≤1000000) (h:∀ q d w',Fr [] w w'→OB w' q (l+4) d (YM nonce) w.heap.size→K (.slice q (l+4) d) w') :
    Xa Tryz.prog Xnw #[.slice p l c] w K:=by
  apply Xiz
  unfold XhD
  refine mk0 fun p1 w1 f1 hO1 s1=>?_
  refine XY hO1 f1.size (hx.fr0 f1) hl (by omega) fun p2 c2 w2 f2 hO2=>?_
  have f02:Fr [] w w2:=f1.trans f2 (fun x hx=>.inr (hO1.2.2 x hx))
  refine mkL (xs:=[0,0,0,1]) rfl rfl (by kernel_rfl) fun p3 w3 f3 hO3 s3=>?_
  refine XY (m:=4) (hO2.fr0 f3) (f02.then f3).size hO3.row rfl (by omega) fun p4 c4 w4 f4 hO4=>?_
  have f04:Fr [] w w4:=(f02.then f3).trans f4 (fun x hx=>.inr (hO2.2.2 x hx))
  rw [Nat.zero_add] at hO4 ⊢
  rw [List.nil_append] at hO4
  exact h p4 c4 w4 f04 hO4
theorem Xnd {p0 p1 p2 p3:Option Addr} {l0 c0 l1 c1 l2 c2 l3 c3:Nat} (hk:Row w p0 (key.map vb)) (hl0:l0=key.length) (hc0:l0≤c0) (h16:l0=16) (h1:Row w p1 (nonce.map vb)) (hl1:l1=nonce.length) (h2:Row w p2 (text.map vb)) (hl2:l2=text.length) (h3:Row w p3 (note.map vb)) (hl3:l3=note.length)
    (h:∀ q d w',Fr [] w w'→OB w' q (tgL key nonce text note).length d (tgL key nonce text note) w.heap.size→K (.tuple #[.slice q (tgL key nonce text note).length d,.int .i64 (tgE nonce text note)]) w') :
    Xa Tryz.prog Xrf #[.slice p0 l0 c0,.slice p1 l1 c1,.slice p2 l2 c2,.slice p3 l3 c3] w K:=by
  apply XlY
  unfold XmO
  refine XkZ h16 hl1 hl2 hl3 (fun hno=>?_) fun hok=>?_
  · have e1:tgE nonce text note=11:=by unfold tgE; rw [if_neg hno]
    have e2:tgL key nonce text note=[]:=by unfold tgL; rw [if_neg hno]
    rw [e1,e2] at h
    exact ⟨_,rfl,Xl (h none 0 w (Fr.refl _ _) (OB.nil _ _))⟩
  · have e1:tgE nonce text note=0:=by unfold tgE; rw [if_pos hok]
    have e2:tgL key nonce text note=Yn key nonce text note:=by unfold tgL; rw [if_pos hok]
    rw [e1,e2,Yy] at h
    rw [YP] at hok
    refine ⟨_,rfl,Xi ?_⟩
    refine mkN (n:=16) (c:=16) (by omega) (by omega) fun q1 w1 f1 hO1 s1=>?_
    refine Xf5 (hk.fr0 f1) hl0 (by omega) hc0 hO1.row rfl (by simp) fun q2 d2 w2 f2 hO2=>⟨_,_,_,rfl,?_⟩
    have f02:=f1.then f2
    refine Xu6 hO2.row hO2.2.1 rfl (h3.fr0 f02) hl3 (by omega) (h2.fr0 f02) hl2 (by omega) fun q3 d3 w3 f3 hO3=>⟨_,_,_,rfl,?_⟩
    have f03:=f02.then f3
    refine Xdr (h1.fr0 f03) hl1 (by omega) fun q4 d4 w4 f4 hO4=>⟨_,_,_,rfl,?_⟩
    have f04:=f03.then f4
    refine Xf5 (hk.fr0 f04) hl0 (by omega) hc0 hO4.row hO4.2.1 (by rw [← hO4.2.1]; omega) fun q5 d5 w5 f5 hO5=>⟨_,_,_,rfl,?_⟩
    have f05:=f04.then f5
    obtain ⟨G,hG⟩:∃ G,G=UI (Xm (Zk key (List.replicate 16 0))) note text:=⟨_,rfl⟩
    obtain ⟨E,hE⟩:∃ E,E=Zk key (YM nonce):=⟨_,rfl⟩
    rw [← hG] at hO3; rw [← hE] at hO5
    have hR3:=hO3.fr0 (f4.then f5)
    have hGl:G.length=16:=hO3.2.1.symm
    have hEl:E.length=16:=hO5.2.1.symm
    have n2:=f02.size; have n3:=f03.size; have n4:=f04.size
    have n35:w3.heap.size≤w4.heap.size:=f4.size
    have hap:∀ k∈Xb q5,k∉Xb q3:=fun k hk hm=>by have:=hO3.lt k hm; have:=hO5.2.2 k hk; omega
    refine LoopS.ind (fun k us w'=>∃ (i:Nat) (zs:List UInt8),i+k=16∧us=[.slice none 0 0,.int .i64 0,.slice q3 16 d3,.slice q5 16 d5,.int .i64 (i:Int)]∧Fr [] w w'∧OB w' q3 16 d3 zs w2.heap.size∧Row w' q5 (E.map vb)∧∀ j,fl zs j=if j<i then fl G j ^^^ fl E j else fl G j) 16
      ⟨0,G,by omega,rfl,f05,hR3,hO5.row,fun j=>by simp⟩ ?_
    rintro k us r w6 I μ hgo ⟨i,zs,hi,rfl,f6,hO6,hR6,hz⟩
    refine ⟨_,_,_,_,_,_,_,_,_,_,_,rfl,Xd (fun g1=>?_) (fun g1=>?_)⟩
    · have hzl:=hO6.2.1
      obtain ⟨a,ha,hca⟩:=Xy (t:=Xf) (by kernel_rfl) hO6.row (c:=d3) (l:=16) hzl (i:=i) (by omega) (k:=.i64)
      obtain ⟨b,hb,hcb⟩:=Xy (t:=Xf) (by kernel_rfl) hR6 (c:=d5) (l:=16) hEl.symm (i:=i) (by omega) (k:=.i64)
      refine ⟨fun w'=>w'.cell? a=some (vb (zs.getD i 0)),Drw.intro fun w7 f7 s7=>?_⟩
      refine ⟨a,ha,b,hb,_,⟨f7.cell hca (by simp),fun w' hw'=>Ld.cell (by kernel_rfl) hw'⟩,_,Ld.cell (by kernel_rfl) (f7.cell hcb (by simp)),.inl rfl,?_⟩
      rw [U6]
      refine (hO6.fr0 f7).sto (by omega) fun w8 f8 hO8 s8=>?_
      rw [Xe (by omega) (by omega)]
      refine hgo _ _ _ (k - 1) (by omega) ⟨i+1,_,by omega,rfl,(f6.then f7).trans f8 (fun x hx=>.inr (by have:=hO6.2.2 x hx; omega)),hO8,Row.cells_fr (hR6.fr0 f7) f8 hap,fun j=>?_⟩
      rw [Z4 (by omega)]
      by_cases hji:j=i
      · subst hji
        rw [if_pos rfl,if_pos (by omega)]
        have:=hz j
        rw [if_neg (by omega)] at this
        show fl zs j ^^^ _=_
        rw [this]; rfl
      · rw [if_neg hji,hz j]
        by_cases hlt:j<i
        · rw [if_pos hlt,if_pos (by omega)]
        · rw [if_neg hlt,if_neg (by omega)]
    · have hil:i=16:=by omega
      subst hil
      have e:zs=Yn key nonce text note:=by
        have e0:Yn key nonce text note=Vj G E:=by rw [hG,hE]; rfl
        rw [e0]
        refine Z2 (by rw [YE (by omega),← hO6.2.1]; omega) fun j hj=>?_
        rw [← hO6.2.1] at hj
        rw [J9 (by omega) (by omega)]
        have:=hz j
        rw [if_pos hj] at this
        exact this
      rw [e] at hO6
      exact h q3 d3 w6 f6 (hO6.mono n2)
theorem Xk0 {p0 p1 p2 p3:Option Addr} {l0 c0 l1 c1 l2 c2 l3 c3:Nat} (hk:Row w p0 (key.map vb)) (hl0:l0=key.length) (hc0:l0≤c0) (h16:l0=16) (h1:Row w p1 (nonce.map vb)) (hl1:l1=nonce.length) (h2:Row w p2 (text.map vb)) (hl2:l2=text.length) (h3:Row w p3 (note.map vb)) (hl3:l3=note.length)
    (h:∀ q d w',Fr [] w w'→OB w' q (slL key nonce text note).length d (slL key nonce text note) w.heap.size→K (.tuple #[.slice q (slL key nonce text note).length d,.int .i64 (tgE nonce text note)]) w') :
    Xa Tryz.prog Xpz #[.slice p0 l0 c0,.slice p1 l1 c1,.slice p2 l2 c2,.slice p3 l3 c3] w K:=by
  apply Xj8
  unfold Xj7
  refine XkZ h16 hl1 hl2 hl3 (fun hno=>?_) fun hok=>?_
  · have e1:tgE nonce text note=11:=by unfold tgE; rw [if_neg hno]
    have e2:slL key nonce text note=[]:=by unfold slL; rw [if_neg hno]
    rw [e1,e2] at h
    exact ⟨_,rfl,Xl (h none 0 w (Fr.refl _ _) (OB.nil _ _))⟩
  · have e1:tgE nonce text note=0:=by unfold tgE; rw [if_pos hok]
    have e2:slL key nonce text note=XK key nonce text++Yn key nonce (XK key nonce text) note:=by unfold slL; rw [if_pos hok]
    have hbl:(XK key nonce text++Yn key nonce (XK key nonce text) note).length=l2+16:=by rw [List.length_append,Yi,Yy,hl2]
    rw [e1,e2,hbl] at h
    rw [YP] at hok
    refine ⟨_,rfl,Xi ?_⟩
    refine Xdr h1 hl1 (by omega) fun q1 d1 w1 f1 hO1=>⟨_,_,_,rfl,?_⟩
    refine Xdg hO1.row hO1.2.1 (by rw [← hO1.2.1]; omega) 1 (by omega) fun q2 d2 w2 f2 hO2=>⟨_,_,_,rfl,?_⟩
    have f02:=f1.then f2
    refine Xna (hk.fr0 f02) hl0 hc0 (by omega) hO2.row hO2.2.1 (by rw [← hO2.2.1]) (h2.fr0 f02) hl2 (by omega) fun q3 d3 w3 f3 hO3=>⟨_,_,_,_,rfl,?_⟩
    have f03:=f02.then f3
    have hgok:okG nonce.length [XK key nonce text,note]:=by rw [YP,Yi]; omega
    have et:tgL key nonce (XK key nonce text) note=Yn key nonce (XK key nonce text) note:=by unfold tgL; rw [if_pos hgok]
    refine Xnd (text:=XK key nonce text) (hk.fr0 f03) hl0 hc0 h16 (h1.fr0 f03) hl1 hO3.row hO3.2.1 (h3.fr0 f03) hl3 fun q4 d4 w4 f4 hO4=>⟨_,_,_,_,rfl,?_⟩
    rw [et,Yy] at hO4
    rw [et,Yy]
    have f04:=f03.then f4
    refine XY (hO3.fr0 f4) (by have:=f3.then f4; exact this.size) hO4.row hO4.2.1 (by omega) fun p5 c5 w5 f5 hO5=>?_
    have n2:=f02.size
    exact h p5 c5 w5 (f04.trans f5 (fun x hx=>.inr (by have:=hO3.2.2 x hx; omega))) (hO5.mono n2)
theorem Xk1 {p0 p1 p2 p3:Option Addr} {l0 c0 l1 c1 l2 c2 l3 c3:Nat} (hk:Row w p0 (key.map vb)) (hl0:l0=key.length) (hc0:l0≤c0) (h16:l0=16) (h1:Row w p1 (nonce.map vb)) (hl1:l1=nonce.length) (h2:Row w p2 (text.map vb)) (hl2:l2=text.length) (hc2:l2≤c2) (hb2:l2<1000000) (h3:Row w p3 (note.map vb)) (hl3:l3=note.length)
    (h:∀ q d w',Fr [] w w'→OB w' q (opL key nonce text note).length d (opL key nonce text note) w.heap.size→K (.tuple #[.slice q (opL key nonce text note).length d,.int .i64 (opE key nonce text note)]) w') :
    Xa Tryz.prog Xpa #[.slice p0 l0 c0,.slice p1 l1 c1,.slice p2 l2 c2,.slice p3 l3 c3] w K:=by
  apply Xj6
  unfold Xj5
  have fin:∀ e:Int,opE key nonce text note=e→e≠0→∀ w',Fr [] w w'→K (.tuple #[.slice none 0 0,.int .i64 e]) w':=by
    intro e he h0 w' f
    have e2:opL key nonce text note=[]:=by unfold opL; rw [if_neg (by rw [he]; exact h0)]
    rw [e2,he] at h
    exact h none 0 w' f (OB.nil _ _)
  have hokg:okG nonce.length [text.take (text.length - 16),note]↔(nonce.length=12∧text.length≤65551∧note.length≤65535):=by rw [YP,List.length_take]; omega
  have bad:¬ (nonce.length=12∧text.length≤65551∧note.length≤65535)→K (.tuple #[.slice none 0 0,.int .i64 11]) w:=fun hno=>fin 11 (by unfold opE; rw [if_neg (by rw [hokg]; exact hno)]) (by omega) w (Fr.refl _ _)
  refine Xt (fun g1=>by omega) fun _=>Xt (fun g1=>bad (by omega)) fun g1=>Xd (fun g2=>bad (by omega)) fun g2=>Xd (fun g3=>bad (by omega)) fun g3=>?_
  have hok:okG nonce.length [text.take (text.length - 16),note]:=hokg.2 (by omega)
  unfold XdN
  rw [Xe (n:=(l2:Int) - 16) (by omega) (by omega)]
  refine Xd (fun g4=>fin 12 (by unfold opE; rw [if_pos hok,if_pos (by omega)]) (by omega) w (Fr.refl _ _)) fun g4=>?_
  have e16:(l2:Int) - 16=((l2 - 16:Nat):Int):=by omega
  rw [e16]
  refine WA h2 hl2 (n:=l2 - 16) (by omega) hc2 fun q1 d1 hq1 hql1 hqc1 hqs1=>?_
  refine Xnd hk hl0 hc0 h16 h1 hl1 hq1 hql1 h3 hl3 fun q2 d2 w2 f2 hO2=>⟨_,_,_,_,rfl,?_⟩
  have hok':okG nonce.length [text.take (l2 - 16),note]:=by rw [hl2]; exact hok
  have et:tgL key nonce (text.take (l2 - 16)) note=Yn key nonce (text.take (l2 - 16)) note:=by unfold tgL; rw [if_pos hok']
  rw [et,Yy] at hO2
  rw [et,Yy]
  obtain ⟨G,hG⟩:∃ G,G=Yn key nonce (text.take (l2 - 16)) note:=⟨_,rfl⟩
  rw [← hG] at hO2
  have hGl:G.length=16:=hO2.2.1.symm
  have n2:=f2.size
  refine LoopS.ind (fun k us w'=>∃ i:Nat,i+k=16∧us=[.slice p0 l0 c0,.slice p1 l1 c1,.slice p2 l2 c2,.slice none 0 0,.int .i64 0,.int .i64 ((l2 - 16:Nat):Int),.slice q2 16 d2,.int .i64 (i:Int)]∧Fr [] w w'∧Row w' q2 (G.map vb)∧∀ j,j<i→fl G j=fl text (l2 - 16+j)) 16
    ⟨0,by omega,rfl,f2,hO2.row,by omega⟩ ?_
  rintro k us r w3 I μ hgo ⟨i,hi,rfl,f3,hR3,hz⟩
  refine ⟨_,_,_,_,_,_,_,_,_,_,_,_,_,_,_,_,_,_,rfl,Xd (fun g5=>?_) (fun g5=>?_)⟩
  · have ew:IntKind.i64.wrap (((l2 - 16:Nat):Int)+(i:Int))=((l2 - 16+i:Nat):Int):=by rw [Xe (by omega) (by omega)]; omega
    rw [ew]
    obtain ⟨a,ha,hca⟩:=Xy (t:=Xf) (by kernel_rfl) hR3 (c:=d2) (l:=16) hGl.symm (i:=i) (by omega) (k:=.i64)
    obtain ⟨b,hb,hcb⟩:=Xy (t:=Xf) (by kernel_rfl) (h2.fr0 f3) (c:=c2) hl2 (i:=l2 - 16+i) (by omega) (k:=.i64)
    refine ⟨fun w'=>w'.cell? a=some (vb (G.getD i 0)),Drw.intro fun w4 f4 s4=>?_⟩
    refine ⟨a,ha,b,hb,_,⟨f4.cell hca (by simp),fun w' hw'=>Ld.cell (by kernel_rfl) hw'⟩,_,Ld.cell (by kernel_rfl) (f4.cell hcb (by simp)),.inl rfl,?_⟩
    rw [bne,Xld]
    refine XQ (fun g6=>?_) (fun g6=>?_)
    · refine fin 13 ?_ (by omega) w4 (f3.then f4)
      unfold opE
      rw [if_pos hok,if_neg (by omega),← hl2,if_neg]
      intro hE
      rw [← hG] at hE
      have:fl G i=fl text (l2 - 16+i):=by
        rw [hE]; unfold fl; rw [List.getD_eq_getElem?_getD,List.getElem?_drop,List.getD_eq_getElem?_getD]
      have g7:G.getD i 0=text.getD (l2 - 16+i) 0:=this
      rw [g7] at g6
      simp at g6
    · rw [Xe (by omega) (by omega)]
      refine hgo _ _ _ (k - 1) (by omega) ⟨i+1,by omega,rfl,f3.then f4,hR3.fr0 f4,fun j hj=>?_⟩
      by_cases hji:j=i
      · rw [hji]; unfold fl; simpa using g6
      · exact hz j (by omega)
  · have hil:i=16:=by omega
    subst hil
    have hE:Yn key nonce (text.take (l2 - 16)) note=text.drop (l2 - 16):=by
      rw [← hG]
      refine Xcd (by rw [List.length_drop]; omega) fun j hj=>?_
      rw [hz j (by omega)]
      unfold fl; rw [List.getD_eq_getElem?_getD,List.getD_eq_getElem?_getD,List.getElem?_drop]
    have eo:opE key nonce text note=0:=by unfold opE; rw [if_pos hok,if_neg (by omega),← hl2,if_pos hE]
    have el:opL key nonce text note=XK key nonce (text.take (l2 - 16)):=by unfold opL; rw [if_pos eo,← hl2]
    rw [eo,el,Yi] at h
    unfold XdM
    refine Drw.intro fun w4 f4 s4=>?_
    have f04:=f3.then f4
    refine WA (h2.fr0 f04) hl2 (n:=l2 - 16) (by omega) hc2 fun q5 d5 hq5 hql5 hqc5 hqs5=>?_
    refine Xdr (h1.fr0 f04) hl1 (by omega) fun q6 d6 w6 f6 hO6=>⟨_,_,_,rfl,?_⟩
    refine Xdg hO6.row hO6.2.1 (by rw [← hO6.2.1]; omega) 1 (by omega) fun q7 d7 w7 f7 hO7=>⟨_,_,_,rfl,?_⟩
    have f47:=f6.then f7
    have f07:=f04.then f47
    refine Xna (hk.fr0 f07) hl0 hc0 (by omega) hO7.row hO7.2.1 (by rw [← hO7.2.1]) (hq5.fr0 f47) hql5 (by omega) fun q8 d8 w8 f8 hO8=>⟨_,_,_,_,rfl,?_⟩
    rw [← hql5] at h
    exact h q8 d8 w8 (f07.then f8) (hO8.mono f07.size)
end
end Go.Sh
end

section
namespace Go.Sh
open Go Go.Fw Go.Proofs
set_option maxRecDepth 100000
set_option linter.unusedVariables false
section
variable {w:World} {K:VWP}
theorem Xv6 {α:Type} {R:α→α→Prop} {l:List α} (h:l.Pairwise R) {x y:α} (hx:x∈l) (hy:y∈l):x=y∨R x y∨R y x:=by
  obtain ⟨i,hi,rfl⟩:=List.getElem_of_mem hx
  obtain ⟨j,hj,rfl⟩:=List.getElem_of_mem hy
  rcases Nat.lt_trichotomy i j with h1 | h1 | h1
  · exact .inr (.inl (List.pairwise_iff_getElem.1 h i j hi hj h1))
  · subst h1; exact .inl rfl
  · exact .inr (.inr (List.pairwise_iff_getElem.1 h j i hj hi h1))
theorem RingAt.box {b lo:Nat} {p:Option Addr} {es:List RE} {N:Int} (h:RingAt w b p es N lo) {e:RE} (he:e∈es):∃ n hb,0≤n∧n≤N∧BoxAt w e.bx e.key n N e.lo hb∧hb≤e.hi∧e.key.length=16∧∀ k∈Xb e.kp,hb≤k:=by
  obtain ⟨n,hb,n0,n1,hX,hk,h16,hbk,o1,o2⟩:=(h.ent e he).1
  exact ⟨n,hb,n0,n1,hX,o1,hX.lohi.2.2.1,fun k hk=>(hbk k hk).1⟩
theorem RingAt.after {b lo:Nat} {p:Option Addr} {es:List RE} {N N' n':Int} {w':World} (h:RingAt w b p es N lo) {e:RE} (he:e∈es) {hb:Nat} (hhb:hb≤e.hi) (hkp:∀ k∈Xb e.kp,hb≤k) (f:Fr (rg e.lo hb) w w') (hN:N≤N') (h0:0≤n') (h1:n'≤N') (hX:BoxAt w' e.bx e.key n' N' e.lo hb):RingAt w' b p es N' lo:=by
  have hr:∀ k∈rg e.lo hb,e.lo≤k∧k<hb:=fun k hk=>Vn.1 hk
  obtain ⟨⟨g,c,hB,e0,hO⟩,h2,h3,h4,h5,h6,h7⟩:=h
  have hnot:∀ k∈b::Xb p,k∉rg e.lo hb:=fun k hk hm=>by have:=hr k hm; have:=h5 k hk e he; omega
  refine ⟨⟨g,c,hB.fr f (hnot b (List.mem_cons_self ..)),e0,hO.fr f fun k hk=>hnot k (List.mem_cons_of_mem _ hk)⟩,fun x hx=>⟨?_,(h2 x hx).2⟩,h3,h4,h5,h6,Nat.le_trans h7 f.size⟩
  have other:(x.hi≤e.lo∨e.hi≤x.lo)→EntAt w' x N':=fun ho=>((h2 x hx).1.fr f fun k hk=>by have:=hr k hk; omega).mono hN
  rcases Xv6 h4 hx he with rfl | hh | hh
  · obtain ⟨n,hb2,n0,n1,hX2,hk,h16,hbk,o1,o2⟩:=(h2 x he).1
    exact ⟨n',hb,h0,h1,hX,Row.cells_fr hk f fun k hk' hm=>by have:=hr k hm; have:=hkp k hk'; omega,h16,fun k hk'=>⟨hkp k hk',(hbk k hk').2⟩,hhb,Nat.le_trans o2 f.size⟩
  · exact other (.inl hh.1)
  · exact other (.inr hh.1)
theorem offR.sp {b:Nat} {p q:Option Addr} {es:List RE} {e:RE} {hb:Nat} {xs:List UInt8} (he:e∈es) (hhb:hb≤e.hi) (h:∀ k∈Xb q,offR b p es k):sp e.lo hb q xs:=
  .inr fun k hk=>by have:=(h k hk).2 e he; omega
end
end Go.Sh
end

section
namespace Go.Sh
open Go Go.Fw Go.Proofs
set_option maxRecDepth 100000
set_option linter.unusedVariables false
structure TF where
  exp:Nat
  od:List UInt8
  sc:List UInt8
  p1:Option Addr
  c1:Nat
  p2:Option Addr
  c2:Nat
def TF.v (f:TF):List Value:=[.int .u64 (f.exp:Int),.slice f.p1 f.od.length f.c1,.slice f.p2 f.sc.length f.c2]
def TF.a (f:TF):Value:=.agg #[.int .u64 (f.exp:Int),.slice f.p1 f.od.length f.c1,.slice f.p2 f.sc.length f.c2]
theorem TF.v_one (f:TF):∀ u∈f.v,u.oneCell'=true:=by
  intro u hu
  simp [TF.v] at hu
  rcases hu with rfl | rfl | rfl <;> rfl
structure TF.ok (w:World) (f:TF):Prop where
  r1:Row w f.p1 (f.od.map vb)
  h1:f.od.length≤f.c1
  r2:Row w f.p2 (f.sc.map vb)
  h2:f.sc.length≤f.c2
  e:f.exp<18446744073709551616
theorem TF.ok.fr0 {w w':World} {f:TF} (h:TF.ok w f) (hf:Fr [] w w'):TF.ok w' f:=⟨h.r1.fr0 hf,h.h1,h.r2.fr0 hf,h.h2,h.e⟩
structure TF.own (w:World) (f:TF) (lo:Nat):Prop where
  o1:OB w f.p1 f.od.length f.c1 f.od lo
  o2:OB w f.p2 f.sc.length f.c2 f.sc lo
  e:f.exp<18446744073709551616
theorem TF.own.ok {w:World} {f:TF} {lo:Nat} (h:TF.own w f lo):TF.ok w f:=⟨h.o1.row,h.o1.cap,h.o2.row,h.o2.cap,h.e⟩
theorem TF.own.fr0 {w w':World} {f:TF} {lo:Nat} (h:TF.own w f lo) (hf:Fr [] w w'):TF.own w' f lo:=⟨h.o1.fr0 hf,h.o2.fr0 hf,h.e⟩
theorem TF.own.mono {w:World} {f:TF} {lo lo':Nat} (h:TF.own w f lo) (hl:lo'≤lo):TF.own w f lo':=⟨h.o1.mono hl,h.o2.mono hl,h.e⟩
theorem TF.own.fr_sep {w w':World} {f:TF} {lo b:Nat} (h:TF.own w f lo) (hf:Fr [b] w w') (hl:b<lo):TF.own w' f lo:=⟨h.o1.fr_sep hf hl,h.o2.fr_sep hf hl,h.e⟩
def tf0:TF:=⟨0,[],[],none,0,none,0⟩
theorem Xgr (w:World) (lo:Nat):TF.own w tf0 lo:=⟨OB.nil _ _,OB.nil _ _,by show 0<_; omega⟩
def TAt (w:World) (k:Nat) (f:TF):Prop:=∃ g,Blk w k 3 g∧∀ j v,f.v[j]?=some v→g j=v
section
variable {w:World} {k:Nat} {f:TF} {K:VWP}
theorem TAt.lt (h:TAt w k f):k<w.heap.size:=by obtain ⟨g,hB,_⟩:=h; exact hB.lt
theorem TAt.fr {w':World} {L:List Nat} (h:TAt w k f) (hf:Fr L w w') (hk:k∉L):TAt w' k f:=by obtain ⟨g,hB,hv⟩:=h; exact ⟨g,hB.fr hf hk,hv⟩
theorem TAt.fr0 {w':World} (h:TAt w k f) (hf:Fr [] w w'):TAt w' k f:=h.fr hf (by simp)
theorem TAt.ldF (h:TAt w k f):Ld Tryz.prog Xn (.pointer (some ⟨k,0,none⟩)) w f.a:=by
  obtain ⟨g,hB,hv⟩:=h
  exact LdA (m:=3) (by kernel_rfl) (by kernel_rfl) hB (o:=0) (by omega) f.v rfl fun j v hj=>by rw [Nat.zero_add]; exact hv j v hj
theorem TAt.ldG (h:TAt w k f):Ld Tryz.prog XE (.pointer (some ⟨k,0,none⟩)) w f.a:=by
  obtain ⟨g,hB,hv⟩:=h
  exact LdA (m:=3) (by kernel_rfl) (by kernel_rfl) hB (o:=0) (by omega) f.v rfl fun j v hj=>by rw [Nat.zero_add]; exact hv j v hj
theorem TAt.ldE (h:TAt w k f):Ld Tryz.prog Xii (.pointer (some ((⟨k,0,none⟩:Addr).add 0))) w (.int .u64 (f.exp:Int)):=by
  obtain ⟨g,hB,hv⟩:=h
  rw [Xg]; exact Ld.blk (by kernel_rfl) hB (by omega) (hv 0 _ rfl)
theorem TAt.ldO (h:TAt w k f):Ld Tryz.prog Xf (.pointer (some ((⟨k,0,none⟩:Addr).add 1))) w (.slice f.p1 f.od.length f.c1):=by
  obtain ⟨g,hB,hv⟩:=h
  rw [Xg]; exact Ld.blk (by kernel_rfl) hB (by omega) (hv 1 _ rfl)
theorem TAt.ldS (h:TAt w k f):Ld Tryz.prog Xf (.pointer (some ((⟨k,0,none⟩:Addr).add 2))) w (.slice f.p2 f.sc.length f.c2):=by
  obtain ⟨g,hB,hv⟩:=h
  rw [Xg]; exact Ld.blk (by kernel_rfl) hB (by omega) (hv 2 _ rfl)
theorem XqJ {t:TypeId} {K:Nat→World→Prop} (f:TF) (h:∀ w',Fr [] w w'→TAt w' w.heap.size f→w'.heap.size=w.heap.size+1→K w.heap.size w'):New #[.int .u64 (f.exp:Int),.slice f.p1 f.od.length f.c1,.slice f.p2 f.sc.length f.c2] t w K:=
  New.intro fun w1 f1 hB s1=>h w1 f1 ⟨_,hB,fun j v hj=>by
    show Array.getD ⟨f.v⟩ j undef=v
    rw [Array.getD_eq_getD_getElem?,List.getElem?_toArray,hj]; rfl⟩ s1
theorem UJ {t:TypeId} (ht:res Tryz.prog (sizeOf t)=some 3) {g:Nat→Value} (hB:Blk w k 3 g) (f:TF) {K:World→Prop} (h:∀ w',Fr [k] w w'→TAt w' k f→w'.heap.size=w.heap.size→K w'):∃ w',Sto Tryz.prog t (.pointer (some ⟨k,0,none⟩)) f.a w w'∧K w':=
  Sto.agg (m:=3) (cs:=f.v) ht rfl hB (by omega) f.v_one fun w' hf hB' hs=>h w' hf ⟨_,hB',fun j v hj=>by
    obtain ⟨q1,q2⟩:=List.getElem?_eq_some_iff.1 hj
    unfold updN
    rw [dif_pos ⟨by omega,by omega⟩]
    simpa using q2⟩ hs
theorem XyA (f:TF) {K:Nat→World→Prop} (h:∀ w',Fr [] w w'→TAt w' w.heap.size f→K w.heap.size w') :
    ∃ z,Pu Tryz.prog (zeroValue Xn) z∧New z.cells Xn w fun k w2=>∃ w3,Sto Tryz.prog Xn (.pointer (some ⟨k,0,none⟩)) f.a w2 w3∧K k w3:=
  XG (s:=3) (by kernel_rfl) fun w2 g2 f2 hB2 s2=>UJ (by kernel_rfl) hB2 f fun w3 f3 hT s3=>h w3 (f2.st f3 (Nat.le_refl _)) hT
theorem XoC {g:Nat→Value} (hB:Blk w k 3 g) (f:TF) {e:Int} (h:∀ w',Fr [k] w w'→K (.tuple #[f.a,.int .i64 e]) w') :
    ∃ w2,Sto Tryz.prog Xn (.pointer (some ⟨k,0,none⟩)) f.a w w2∧∃ (a4:Addr) (v4:Value),(.pointer (some ⟨k,0,none⟩):Value)=.pointer (some a4)∧(loadVar Xn a4).run Tryz.prog w2=.ok v4 w2∧K (.tuple #[v4,.int .i64 e]) w2:=
  UJ (by kernel_rfl) hB f fun w3 f3 hT s3=>⟨_,_,rfl,hT.ldF,h w3 f3⟩
def XZ (f:TF):Prop:=20<f.od.length∨20<f.sc.length
instance (f:TF):Decidable (XZ f):=by unfold XZ; infer_instance
theorem Xne (hk:∀ w',Fr [] w w'→K (.bool (decide (XZ f))) w'):Xa Tryz.prog Xd2 #[f.a] w K:=by
  apply Xa9
  unfold WR
  refine XqJ f fun w1 f1 hT s1=>⟨_,_,_,hT.ldO,_,_,_,hT.ldS,_,XoA,?_⟩
  have:=hk w1 f1
  have e:decide (XZ f)=decide (max (f.od.length:Int) (f.sc.length:Int) > 20):=by
    apply decide_eq_decide.2; unfold XZ; omega
  rw [e] at this; exact this
def XN (f:TF):List UInt8:=XO f.exp 8++(UInt8.ofNat f.od.length::f.od)++(UInt8.ofNat f.sc.length::f.sc)
def Jz (f:TF):Int:=if XZ f then 15 else 0
def JA (f:TF):List UInt8:=if XZ f then [] else XN f
theorem Ub (f:TF):(XN f).length=10+f.od.length+f.sc.length:=by simp [XN,Yb]; omega
theorem Xu7 (hf:TF.ok w f) (hk:∀ q d w',Fr [] w w'→OB w' q (JA f).length d (JA f) w.heap.size→K (.tuple #[.slice q (JA f).length d,.int .i64 (Jz f)]) w'):Xa Tryz.prog Xpo #[f.a] w K:=by
  apply Xki
  unfold Xkh
  refine XqJ f fun w1 f1 hT s1=>⟨_,_,_,_,_,_,_,hT.ldF,Xne fun w2 f2=>⟨_,rfl,?_⟩⟩
  have f02:=f1.then f2
  unfold JA Jz at hk
  by_cases hl:XZ f
  · rw [if_pos hl,if_pos hl] at hk
    rw [decide_eq_true hl]
    exact Xl (hk none 0 w2 f02 (OB.nil _ _))
  · rw [if_neg hl,if_neg hl] at hk
    rw [decide_eq_false hl]
    have hl':f.od.length≤20∧f.sc.length≤20:=by unfold XZ at hl; omega
    have hT2:=hT.fr0 f2
    obtain ⟨k1,hk1⟩:∃ k,k=w.heap.size:=⟨_,rfl⟩
    rw [← hk1] at hT2 ⊢
    refine Xi ⟨fun w'=>FrA w2.heap.size w2 w',Drw.intro fun w3 f3 s3=>?_⟩
    have hkl:=hT2.lt
    have keep:∀ {w'},FrA w2.heap.size w2 w'→TAt w' k1 f:=fun {w'} ⟨L,h1,h2⟩=>hT2.fr h2 fun hm=>by have:=h1 _ hm; omega
    refine ⟨_,⟨FrA.of0 f3,fun w' hw'=>(keep hw').ldE⟩,_,_,_,⟨FrA.of0 f3,fun w' hw'=>(keep hw').ldO⟩,_,_,_,⟨FrA.of0 f3,fun w' hw'=>(keep hw').ldS⟩,?_⟩
    have f03:=f02.then f3
    refine Xbf fun w4 f4 hW4 s4=>⟨_,rfl,.inr ((FrA.of0 f3).trans (FrA.of0 f4)),?_⟩
    obtain ⟨b,hb⟩:∃ b,b=w3.heap.size:=⟨_,rfl⟩
    rw [← hb] at hW4 ⊢
    have hb2:w2.heap.size≤b:=by have:=f3.size; omega
    have hq1:0<f.od.length→∀ z∈Xb f.p1,z<b:=XaK (hf.r1) (by have:=f03.size; omega)
    have hq2:0<f.sc.length→∀ z∈Xb f.p2,z<b:=XaK (hf.r2) (by have:=f03.size; omega)
    refine Xgn (n:=f.exp) (size:=8) hW4 (by omega) (by have:=hf.e; simpa using this) (by simp) fun w5 f5 hW5=>⟨_,rfl,.inr (((FrA.of0 f3).trans (FrA.of0 f4)).trans (f5.mono hb2)),?_⟩
    have fa5:FrA b w3 w5:=(FrA.of0 f4).trans f5
    refine Wo hW5 (fa5.row (hf.r1.fr0 f03) hq1) rfl hf.h1 (by omega) hq1 (by simp [Yb]) fun w6 f6 hW6=>⟨_,rfl,.inr ((FrA.of0 f3).trans ((fa5.trans f6).mono hb2)),?_⟩
    have fa6:=fa5.trans f6
    refine Wo hW6 (fa6.row (hf.r2.fr0 f03) hq2) rfl hf.h2 (by omega) hq2 (by simp [Yb]; omega) fun w7 f7 hW7=>⟨_,rfl,?_⟩
    have fa7:=fa6.trans f7
    have eT:[]++XO f.exp 8++UInt8.ofNat f.od.length::f.od++UInt8.ofNat f.sc.length::f.sc=XN f:=by simp [XN]
    rw [eT] at hW7
    have hll:=Ub f
    have f07:Fr [] w w7:=fa7.news f03 (by have:=f03.size; omega)
    refine XiU hW7 (by omega) fun q d w8 f8 hO8=>⟨_,_,_,_,rfl,?_⟩
    exact hk q d w8 (f07.then f8) (hO8.mono f07.size)
structure UT where
  e:Int
  exp:Nat
  od:List UInt8
  sc:List UInt8
def UT.bad (e:Int):UT:=⟨e,0,[],[]⟩
def ZM (b:List UInt8):UT:=
  if Vl (Xp (Xp (XR 8 (0,b)).2).2).2≠0 then .bad (Vl (Xp (Xp (XR 8 (0,b)).2).2).2)
  else if 20<(Xp (XR 8 (0,b)).2).1.length∨20<(Xp (Xp (XR 8 (0,b)).2).2).1.length then .bad 10
  else ⟨0,(XR 8 (0,b)).1,(Xp (XR 8 (0,b)).2).1,(Xp (Xp (XR 8 (0,b)).2).2).1⟩
def TF.ut (f:TF) (e:Int):UT:=⟨e,f.exp,f.od,f.sc⟩
theorem XsH (s:Int×List UInt8):(XR 8 s).1<18446744073709551616:=by
  unfold XR
  split
  · rename_i h
    have:=ZO (s.2.take 8)
    rw [List.length_take,Nat.min_eq_left h.2] at this
    exact this
  · show 0<_; omega
theorem VS (k:Nat) (s:Int×List UInt8):(XR k s).2.2.length≤s.2.length:=by unfold XR; split <;> simp
theorem Ul (s:Int×List UInt8):(Xp s).2.2.length≤s.2.length∧(Xp s).1.length≤255:=by
  unfold Xp
  split
  · refine ⟨by simp,?_⟩
    show ((s.2.drop 1).take (fl s.2 0).toNat).length≤255
    have:=(fl s.2 0).toNat_lt
    rw [List.length_take]; omega
  · simp
theorem XrY {p:Option Addr} {l c:Nat} {b:List UInt8} (hR:Row w p (b.map vb)) (hl:l=b.length) (hc:l≤c) (hlb:b.length≤1000000)
    (hk:∀ u w',Fr [] w w'→TF.own w' u w.heap.size→u.ut (ZM b).e=ZM b→K (.tuple #[u.a,.int .i64 (ZM b).e]) w'):Xa Tryz.prog Xlj #[.slice p l c] w K:=by
  apply Xhb
  unfold XfH
  refine XG (s:=3) (by kernel_rfl) fun w1 g1 f1 hB1 s1=>?_
  obtain ⟨k2,hk2⟩:∃ k,k=w.heap.size:=⟨_,rfl⟩
  rw [← hk2] at hB1 ⊢
  refine Xdh (hR.fr0 f1) hl hc fun w2 f2 hR2 s2=>⟨_,rfl,?_⟩
  obtain ⟨r,hr⟩:∃ r,r=w1.heap.size:=⟨_,rfl⟩
  rw [← hr] at hR2 ⊢
  obtain ⟨n,hn⟩:∃ n,n=XR 8 (0,b):=⟨_,rfl⟩
  refine XiV hR2 8 (by omega) hlb fun w3 f3 hR3=>⟨_,rfl,?_⟩
  have hlt:=XsH (0,b)
  have n1:(XR 8 (0,b)).2.2.length≤b.length:=VS 8 (0,b)
  rw [← hn] at hR3 hlt n1 ⊢
  obtain ⟨o,ho⟩:∃ o,o=Xp n.2:=⟨_,rfl⟩
  have hn2:(n.2.1,n.2.2)=n.2:=rfl
  refine Qa hR3 (by omega) fun q4 d4 w4 f4 hR4 hO4=>⟨_,_,_,rfl,?_⟩
  have o1:=(Ul n.2).1
  rw [hn2,← ho] at hR4 hO4
  rw [hn2,← ho]
  rw [← ho] at o1
  obtain ⟨s,hs⟩:∃ s,s=Xp o.2:=⟨_,rfl⟩
  have ho2:(o.2.1,o.2.2)=o.2:=rfl
  refine Qa hR4 (by omega) fun q5 d5 w5 f5 hR5 hO5=>⟨_,_,_,rfl,?_⟩
  rw [ho2,← hs] at hR5 hO5
  rw [ho2,← hs]
  have m1:=f1.size; have m2:=f2.size; have m3:=f3.size; have m4:=f4.size; have m5:=f5.size
  have hO45:=hO4.fr_sep f5 (by omega)
  obtain ⟨u,hu⟩:∃ u:TF,u=⟨n.1,o.1,s.1,q4,d4,q5,d5⟩:=⟨_,rfl⟩
  have hua:(.agg #[.int .u64 (n.1:Int),.slice q4 o.1.length d4,.slice q5 s.1.length d5]:Value)=u.a:=by rw [hu]; rfl
  rw [hua]
  have f05:Fr [] w w5:=(((f1.then f2).trans f3 (fun z hz=>.inr (by simp at hz; omega))).trans f4 (fun z hz=>.inr (by simp at hz; omega))).trans f5 (fun z hz=>.inr (by simp at hz; omega))
  have hU5:TF.own w5 u (w1.heap.size+1):=by rw [hu]; exact ⟨hO45.mono (by omega),hO5.mono (by omega),hlt⟩
  refine XyA u fun w7 f7 hT7=>?_
  obtain ⟨k5,hk5⟩:∃ k,k=w5.heap.size:=⟨_,rfl⟩
  rw [← hk5] at hT7 ⊢
  have hR7:=hR5.fr0 f7
  refine Xw9 hR7 fun w8 f8 _=>⟨_,rfl,?_⟩
  have f05':Fr [] w w8:=(f05.then f7).trans f8 (fun z hz=>.inr (by simp at hz; omega))
  have hr8:r<w5.heap.size:=hR5.lt
  have hT8:=hT7.fr f8 (by simp; omega)
  have hU8:=(hU5.fr0 f7).fr_sep f8 (by omega)
  have ee:(if s.2.1=0 then (if s.2.2.length=0 then 0 else 10) else s.2.1)=Vl s.2:=rfl
  rw [ee]
  have hut:ZM b=if Vl s.2≠0 then .bad (Vl s.2) else if 20<o.1.length∨20<s.1.length then .bad 10 else ⟨0,n.1,o.1,s.1⟩:=by
    rw [hs,ho,hn]; rfl
  have hB8:Blk w8 k2 3 g1:=by
    have h5:Blk w5 k2 3 g1:=(((hB1.fr0 f2).fr f3 (by simp; omega)).fr f4 (by simp; omega)).fr f5 (by simp; omega)
    exact (h5.fr0 f7).fr f8 (by simp; omega)
  have bad:∀ (w9:World) (e:Int),Fr [] w8 w9→ZM b=.bad e→∃ w2,Sto Tryz.prog Xn (.pointer (some ⟨k2,0,none⟩)) tf0.a w9 w2∧∃ (a4:Addr) (v4:Value),(.pointer (some ⟨k2,0,none⟩):Value)=.pointer (some a4)∧(loadVar Xn a4).run Tryz.prog w2=.ok v4 w2∧K (.tuple #[v4,.int .i64 e]) w2:=by
    intro w9 e f9 hbe
    refine XoC (hB8.fr0 f9) tf0 fun w10 f10=>?_
    have:=hk tf0 w10 ((f05'.then f9).st f10 (by omega)) (Xgr _ _) (by rw [hbe]; rfl)
    rw [hbe] at this; exact this
  refine Xt (fun he=>?_) fun he=>?_
  · exact bad w8 _ (Fr.refl _ _) (by rw [hut,if_pos he])
  · refine ⟨_,_,_,_,_,_,_,hT8.ldF,Xne fun w9 f9=>⟨_,rfl,?_⟩⟩
    have hlu:XZ u↔(20<o.1.length∨20<s.1.length):=by rw [hu]; rfl
    by_cases hl:XZ u
    · rw [decide_eq_true hl]
      exact Xl (bad w9 10 f9 (by rw [hut,if_neg (fun hh=>hh he),if_pos (hlu.1 hl)]))
    · rw [decide_eq_false hl]
      have hok:ZM b=⟨0,n.1,o.1,s.1⟩:=by rw [hut,if_neg (fun hh=>hh he),if_neg (fun hh=>hl (hlu.2 hh))]
      refine Xi ⟨_,_,_,_,_,_,_,(hT8.fr0 f9).ldF,?_⟩
      refine XoC (hB8.fr0 f9) u fun w10 f10=>?_
      have:=hk u w10 ((f05'.then f9).st f10 (by omega)) (((hU8.fr0 f9).fr_sep f10 (by omega)).mono (by omega)) (by rw [hok,hu]; rfl)
      rw [hok] at this; exact this
def XyB (b:List UInt8):Int×Bool:=if b.length=0∨127<(fl b 0).toNat then (0,false) else (((fl b 0).toNat:Int),true)
theorem Xnf {n:Nat} (hn:n<256) {p:Option Addr} {l c:Nat} {xs:List UInt8} (hR:Row w p (xs.map vb)) (hl:l=xs.length) (hc:l≤c) (hlb:l≤1000000)
    (hk:∀ q d w',Fr [] w w'→OB w' q (UInt8.ofNat n::xs).length d (UInt8.ofNat n::xs) w.heap.size→K (.slice q (UInt8.ofNat n::xs).length d) w'):Xa Tryz.prog Xpf #[.int .i64 (n:Int),.slice p l c] w K:=by
  apply Xke
  unfold Xkd
  have ew:IntKind.u8.wrap (n:Int)=((UInt8.ofNat n).toNat:Int):=by rw [W0 (by omega) (by omega)]; simp; omega
  rw [ew]
  refine mk1 (x:=UInt8.ofNat n) fun p1 w1 f1 h1 s1=>?_
  refine ⟨_,_,_,Ef.new (v:=.slice (some ⟨w1.heap.size,0,none⟩) 2 2) (cs:=([.slice p1 1 1,.slice p l c]:List Value).toArray) (e:=Xf) (by kernel_rfl) fun w2 f2 hB2 s2=>?_⟩
  have hR2:=RowB.of2 hB2.rowL ((h1.fr0 f2).byS) (byS ((hR.fr0 f1).fr0 f2) hl hc)
  have efl:[[UInt8.ofNat n],xs].flatten=UInt8.ofNat n::xs:=by simp
  refine Ua (l:=2) hR2 rfl (by rw [efl,List.length_cons]; omega) (by omega) fun q d w3 f3 hO3=>⟨_,_,_,rfl,?_⟩
  rw [efl] at hO3
  rw [efl]
  exact hk q d w3 ((f1.then f2).then f3) (hO3.mono (f1.then f2).size)
end
end Go.Sh
end

section
namespace Go.Sh
open Go Go.Fw Go.Proofs
set_option maxRecDepth 100000
set_option linter.unusedVariables false
theorem Xds {n:Int} {A B:Prop} (h:n≠0) (ha:A):cond (n != 0) A B:=by
  have:(n != 0)=true:=by simpa using h
  rw [this]; exact ha
def Uz (ks:List KE) (s:Int):List UInt8:=((ks[Yz ks s]?).map KE.key).getD []
theorem Xmp {es:List RE} {s:Int} {e:RE} (he:es[Yz (es.map RE.ke) s]?=some e):Uz (es.map RE.ke) s=e.key:=by
  unfold Uz
  rw [XkU he]; rfl
theorem XrZ {f g:TF} (h1:f.exp=g.exp) (h2:f.od=g.od) (h3:f.sc=g.sc):XN f=XN g:=by unfold XN; rw [h1,h2,h3]
theorem Xr0 {f g:TF} (h2:f.od=g.od) (h3:f.sc=g.sc):XZ f↔XZ g:=by unfold XZ; rw [h2,h3]
def XS (ks:List KE) (s:Int) (nonce client:List UInt8) (f:TF):Int:=if ¬ hasK ks s then 17 else if nonce.length≠12∨64<client.length then 11 else if XZ f then 15 else 0
def X6 (ks:List KE) (s:Int) (nonce client:List UInt8) (f:TF):List UInt8:=
  if XS ks s nonce client f=0 then UInt8.ofNat s.toNat::(nonce++slL (Uz ks s) nonce (XN f) (UInt8.ofNat s.toNat::client)) else []
section
variable {w:World} {K:VWP} {b lo:Nat} {p:Option Addr} {es:List RE} {N:Int}
theorem Xu8 (key nonce text note:List UInt8):(slL key nonce text note).length≤text.length+16:=by
  unfold slL
  split
  · rw [List.length_append,Yi,Yy]; omega
  · simp
theorem Xu9 (hR:RingAt w b p es N lo) (hN:N<100000000) {s:Int} {p2 p3:Option Addr} {l2 c2 l3 c3:Nat} {nonce client:List UInt8} {f:TF} (h2:Row w p2 (nonce.map vb)) (hl2:l2=nonce.length) (hc2:l2≤c2) (hb2:l2≤1000000) (hq2:0<nonce.length→∀ z∈Xb p2,¬ inR es z)
    (h3:Row w p3 (client.map vb)) (hl3:l3=client.length) (hc3:l3≤c3) (hb3:l3≤1000000) (hf:TF.ok w f)
    (hk:∀ q d L w',(∀ z∈L,inR es z)→Fr L w w'→RingAt w' b p es (N+1) lo→OB w' q (X6 (es.map RE.ke) s nonce client f).length d (X6 (es.map RE.ke) s nonce client f) w.heap.size→K (.tuple #[.slice q (X6 (es.map RE.ke) s nonce client f).length d,.int .i64 (XS (es.map RE.ke) s nonce client f)]) w') :
    Xa Tryz.prog Xph #[.pointer (some ⟨b,0,none⟩),.int .i64 s,.slice p2 l2 c2,.slice p3 l3 c3,f.a] w K:=by
  apply Xkg
  unfold Xkf
  have bad:∀ (e:Int) w',XS (es.map RE.ke) s nonce client f=e→e≠0→Fr [] w w'→K (.tuple #[.slice none 0 0,.int .i64 e]) w':=by
    intro e w' he h0 f'
    have h1:X6 (es.map RE.ke) s nonce client f=[]:=by unfold X6; rw [if_neg (by rw [he]; exact h0)]
    have:=hk none 0 [] w' (by simp) f' ((hR.fr0 f').mono (by omega))
    rw [h1,he] at this
    exact this (OB.nil _ _)
  refine XqJ f fun w1 f1 hT s1=>?_
  refine Xnb (hR.fr0 f1) (fun e w2 hs hem hei hes f2=>⟨_,_,rfl,Xi ?_⟩) fun w2 hs f2=>⟨_,_,rfl,Xl (bad 17 w2 (by unfold XS; rw [if_pos hs]) (by omega) (f1.then f2))⟩
  have f02:=f1.then f2
  have hs':¬ ¬ hasK (es.map RE.ke) s:=fun hh=>hh hs
  refine Xt (fun hne=>bad 11 w2 (by unfold XS; rw [if_neg hs',if_pos (.inl (by omega))]) (by omega) f02) fun h12=>?_
  refine Xd (fun h64=>bad 11 w2 (by unfold XS; rw [if_neg hs',if_pos (.inr (by omega))]) (by omega) f02) fun h64=>?_
  have hin:¬ (nonce.length≠12∨64<client.length):=by omega
  unfold XdP
  refine ⟨_,_,_,_,_,_,_,(hT.fr0 f2).ldF,Xu7 (hf.fr0 f02) fun qt dt w3 f3 hO3=>⟨_,_,_,_,rfl,?_⟩⟩
  have f03:=f02.then f3
  by_cases hl:XZ f
  · have et:Jz f=15:=by unfold Jz; rw [if_pos hl]
    rw [et]
    exact Xl (bad 15 w3 (by unfold XS; rw [if_neg hs',if_neg hin,if_pos hl]) (by omega) f03)
  · have et:Jz f=0:=by unfold Jz; rw [if_neg hl]
    have er:JA f=XN f:=by unfold JA; rw [if_neg hl]
    have eE:XS (es.map RE.ke) s nonce client f=0:=by unfold XS; rw [if_neg hs',if_neg hin,if_neg hl]
    have eL:X6 (es.map RE.ke) s nonce client f=UInt8.ofNat e.sq::(nonce++slL e.key nonce (XN f) (UInt8.ofNat e.sq::client)):=by
      unfold X6; rw [if_pos eE,Xmp hei,← hes,Int.toNat_natCast]
    rw [eE,eL] at hk
    rw [er] at hO3
    rw [et,er]
    have hsq:=(hR.ent e hem).2.2
    have ehi:=(hR.ent e hem).1.lh
    rw [← hes]
    have hll:=Ub f
    have hlf:f.od.length≤20∧f.sc.length≤20:=by unfold XZ at hl; omega
    refine Xi (Xnf (n:=e.sq) (by omega) (h3.fr0 f03) hl3 hc3 hb3 fun qn dn w4 f4 hO4=>⟨_,_,_,rfl,?_⟩)
    have f04:=f03.then f4
    have hR4:=hR.fr0 f04
    obtain ⟨n,hb,n0,n1,hX,hhb,hkl,hkp⟩:=hR4.box hem
    have n03:=f03.size; have n04:=f04.size
    refine XsB hX (by omega) (h2.fr0 f04) hl2 hc2 hb2 (hO3.fr0 f4).row rfl hO3.cap hO4.row rfl hO4.cap (.inr fun k hk'=>by have:=hO4.2.2 k hk'; omega) fun qs ds w5 f5 hX5 hO5=>⟨_,_,_,_,rfl,?_⟩
    have hR5:=hR4.after hem hhb hkp f5 (show N≤N+1 by omega) n0 (by omega) hX5
    have hLin:∀ z∈rg e.lo hb,inR es z:=fun z hz=>⟨e,hem,by have:=Vn.1 hz; omega⟩
    have h25:Row w5 p2 (nonce.map vb):=X8 (h2.fr0 f04) f5 fun h0 z hz hm=>hq2 h0 z hz (hLin z hm)
    have ew:IntKind.u8.wrap (e.sq:Int)=((UInt8.ofNat e.sq).toNat:Int):=by rw [W0 (by omega) (by omega)]; simp; omega
    rw [ew]
    refine mk1 (x:=UInt8.ofNat e.sq) fun p6 w6 f6 hO6 s6=>?_
    obtain ⟨S,hS⟩:∃ S,S=slL e.key nonce (XN f) (UInt8.ofNat e.sq::client):=⟨_,rfl⟩
    have hSl:=Xu8 e.key nonce (XN f) (UInt8.ofNat e.sq::client)
    rw [← hS] at hO5 hSl hk ⊢
    refine ⟨_,_,_,Ef.new (v:=.slice (some ⟨w6.heap.size,0,none⟩) 3 3) (cs:=([.slice p6 1 1,.slice p2 l2 c2,.slice qs S.length ds]:List Value).toArray) (e:=Xf) (by kernel_rfl) fun w7 f7 hB7 s7=>?_⟩
    have f67:=f6.then f7
    have hRB:=RowB.of3 hB7.rowL ((hO6.fr0 f7).byS) (byS (h25.fr0 f67) hl2 hc2) ((hO5.fr0 f67).byS)
    have efl:[[UInt8.ofNat e.sq],nonce,S].flatten=UInt8.ofNat e.sq::(nonce++S):=by simp
    refine Ua (l:=3) hRB rfl (by rw [efl]; simp; omega) (by omega) fun q8 d8 w8 f8 hO8=>⟨_,_,_,rfl,?_⟩
    rw [efl] at hO8
    rw [efl]
    have f58:=f67.then f8
    have f08:Fr (rg e.lo hb) w w8:=(f04.after f5).then f58
    exact hk q8 d8 _ w8 hLin f08 (hR5.fr0 f58) (hO8.mono (by have:=f67.size; have:=f5.size; omega))
def tk0 (tok:List UInt8):Nat:=(fl tok 0).toNat
def tkN (tok:List UInt8):List UInt8:=(tok.take 13).drop 1
def tkS (tok:List UInt8):List UInt8:=tok.drop 13
def YQ (ks:List KE) (client tok:List UInt8):Int:=
  if tok.length<29 then 12 else if ¬ hasK ks (tk0 tok:Int) then 17 else if 64<client.length∨4096<tok.length then 13
  else if opE (Uz ks (tk0 tok:Int)) (tkN tok) (tkS tok) (UInt8.ofNat (tk0 tok)::client)≠0 then 13 else 0
def Jb (ks:List KE) (client tok:List UInt8):List UInt8:=if YQ ks client tok=0 then opL (Uz ks (tk0 tok:Int)) (tkN tok) (tkS tok) (UInt8.ofNat (tk0 tok)::client) else []
theorem XyC (key nonce text note:List UInt8):(opL key nonce text note).length≤text.length:=by
  unfold opL
  split
  · rw [Yi,List.length_take]; omega
  · simp
theorem Xr1 (hR:RingAt w b p es N lo) (hN:N<100000000) {p1 p2:Option Addr} {l1 c1 l2 c2:Nat} {client tok:List UInt8} (h1:Row w p1 (client.map vb)) (hl1:l1=client.length) (hc1:l1≤c1) (hb1:l1≤1000000)
    (h2:Row w p2 (tok.map vb)) (hl2:l2=tok.length) (hc2:l2≤c2) (hq2:0<tok.length→∀ z∈Xb p2,¬ inR es z)
    (hk:∀ q d L w',(∀ z∈L,inR es z)→Fr L w w'→RingAt w' b p es (N+1) lo→OB w' q (Jb (es.map RE.ke) client tok).length d (Jb (es.map RE.ke) client tok) w.heap.size→K (.tuple #[.slice q (Jb (es.map RE.ke) client tok).length d,.int .i64 (YQ (es.map RE.ke) client tok)]) w') :
    Xa Tryz.prog Xli #[.pointer (some ⟨b,0,none⟩),.slice p1 l1 c1,.slice p2 l2 c2] w K:=by
  apply Xha
  unfold XfG
  have bad:∀ (e:Int) L w',(∀ z∈L,inR es z)→Fr L w w'→RingAt w' b p es (N+1) lo→YQ (es.map RE.ke) client tok=e→e≠0→K (.tuple #[.slice none 0 0,.int .i64 e]) w':=by
    intro e L w' hL f' hR' he h0
    have h1:Jb (es.map RE.ke) client tok=[]:=by unfold Jb; rw [if_neg (by rw [he]; exact h0)]
    have:=hk none 0 L w' hL f' hR'
    rw [h1,he] at this
    exact this (OB.nil _ _)
  refine Xd (fun h29=>bad 12 [] w (by simp) (Fr.refl _ _) (hR.mono (by omega)) (by unfold YQ; rw [if_pos (by omega)]) (by omega)) fun h29=>?_
  have hn29:¬ tok.length<29:=by omega
  obtain ⟨a,ha,hca⟩:=Xy (t:=Xf) (by kernel_rfl) h2 (c:=c2) hl2 (i:=0) (by omega) (k:=.i64)
  have h256:=(fl tok 0).toNat_lt
  refine ⟨_,ha,_,Ld.cell (by kernel_rfl) hca,?_⟩
  rw [Xe (by omega) (by show ((fl tok 0).toNat:Int)<_; omega)]
  have etk:(((tok.getD 0 0).toNat:Nat):Int)=(tk0 tok:Int):=rfl
  rw [etk]
  refine Xnb hR (fun e w1 hs hem hei hes f1=>⟨_,_,rfl,Xi ?_⟩) fun w1 hs f1=>⟨_,_,rfl,Xl (bad 17 [] w1 (by simp) f1 ((hR.fr0 f1).mono (by omega)) (by unfold YQ; rw [if_neg hn29,if_pos hs]) (by omega))⟩
  have hs':¬ ¬ hasK (es.map RE.ke) (tk0 tok:Int):=fun hh=>hh hs
  have b13:(64<client.length∨4096<tok.length)→K (.tuple #[.slice none 0 0,.int .i64 13]) w1:=fun hh=>bad 13 [] w1 (by simp) f1 ((hR.fr0 f1).mono (by omega)) (by unfold YQ; rw [if_neg hn29,if_neg hs',if_pos hh]) (by omega)
  refine Xd (fun h64=>b13 (.inl (by omega))) fun h64=>Xd (fun h4=>b13 (.inr (by omega))) fun h4=>?_
  have hin:¬ (64<client.length∨4096<tok.length):=by omega
  unfold Xau
  refine Drw.intro fun w2 f2 s2=>?_
  have f02:=f1.then f2
  refine XkO (h2.fr0 f02) hl2 (a:=1) (b:=13) (by omega) (by omega) hc2 fun qa da hqa hla hda hba=>?_
  refine Wn (h2.fr0 f02) hl2 (n:=13) (by omega) hc2 fun qb db hqb hlb hdb hbb=>?_
  have hsq:=(hR.ent e hem).2.2
  have ehi:=(hR.ent e hem).1.lh
  refine Xnf (n:=tk0 tok) h256 (h1.fr0 f02) hl1 hc1 hb1 fun qn dn w3 f3 hO3=>⟨_,_,_,rfl,?_⟩
  have f03:=f02.then f3
  have hR3:=hR.fr0 f03
  obtain ⟨n,hb,n0,n1,hX,hhb,hkl,hkp⟩:=hR3.box hem
  have n03:=f02.size
  have hsp:∀ {q:Option Addr} {xs:List UInt8},(∀ z∈Xb q,z∈Xb p2)→sp e.lo hb q xs:=fun hz=>.inr fun k hk'=>by
    have:=hq2 (by omega) k (hz k hk')
    by_cases hlt:k<e.lo
    · exact .inl hlt
    · by_cases hge:hb≤k
      · exact .inr hge
      · exact absurd ⟨e,hem,by omega,by omega⟩ this
  refine Xxt hX (by omega) n0 (by omega) (hqa.fr0 f3) hla hda (by omega) (hsp hba) (hqb.fr0 f3) hlb hdb (by omega) (hsp hbb) hO3.row rfl hO3.cap (.inr fun k hk'=>by have:=hO3.2.2 k hk'; omega) fun qo do_ w4 f4 hX4 hO4=>⟨_,_,_,_,rfl,?_⟩
  have hR4:=hR3.after hem hhb hkp f4 (show N≤N+1 by omega) (by split <;> omega) (by split <;> omega) hX4
  have hLin:∀ z∈rg e.lo hb,inR es z:=fun z hz=>⟨e,hem,by have:=Vn.1 hz; omega⟩
  have f04:Fr (rg e.lo hb) w w4:=f03.after f4
  have hkey:=Xmp hei
  have eN:(tok.take 13).drop 1=tkN tok:=rfl
  have eS:tok.drop 13=tkS tok:=rfl
  rw [eN,eS,← hkey] at hO4
  rw [eN,eS,← hkey]
  by_cases h0:opE (Uz (es.map RE.ke) (tk0 tok:Int)) (tkN tok) (tkS tok) (UInt8.ofNat (tk0 tok)::client)=0
  · have eE:YQ (es.map RE.ke) client tok=0:=by unfold YQ; rw [if_neg hn29,if_neg hs',if_neg hin,if_neg (fun hh=>hh h0)]
    have eL:Jb (es.map RE.ke) client tok=opL (Uz (es.map RE.ke) (tk0 tok:Int)) (tkN tok) (tkS tok) (UInt8.ofNat (tk0 tok)::client):=by unfold Jb; rw [if_pos eE]
    rw [eE,eL] at hk
    rw [h0]
    exact Xi (hk qo do_ _ w4 hLin f04 hR4 (hO4.mono f03.size))
  · have eE:YQ (es.map RE.ke) client tok=13:=by unfold YQ; rw [if_neg hn29,if_neg hs',if_neg hin,if_pos h0]
    exact Xds h0 (bad 13 _ w4 hLin f04 hR4 eE (by omega))
def XA (ks:List KE) (client tok:List UInt8) (now:Nat):UT:=
  if YQ ks client tok≠0 then .bad (YQ ks client tok) else if (ZM (Jb ks client tok)).e≠0 then .bad (ZM (Jb ks client tok)).e
  else if (ZM (Jb ks client tok)).exp<now then .bad 20 else ZM (Jb ks client tok)
theorem XsI (ks:List KE) (client tok:List UInt8):(Jb ks client tok).length≤tok.length:=by
  unfold Jb
  split
  · refine Nat.le_trans (XyC _ _ _ _) ?_
    unfold tkS; rw [List.length_drop]; omega
  · simp
theorem Xgc (hR:RingAt w b p es N lo) (hN:N<100000000) {p1 p2:Option Addr} {l1 c1 l2 c2 now:Nat} {client tok:List UInt8} (h1:Row w p1 (client.map vb)) (hl1:l1=client.length) (hc1:l1≤c1) (hb1:l1≤1000000)
    (h2:Row w p2 (tok.map vb)) (hl2:l2=tok.length) (hc2:l2≤c2) (hb2:l2≤1000000) (hq2:0<tok.length→∀ z∈Xb p2,¬ inR es z)
    (hk:∀ u L w',(∀ z∈L,inR es z)→Fr L w w'→RingAt w' b p es (N+1) lo→TF.own w' u w.heap.size→u.ut (XA (es.map RE.ke) client tok now).e=XA (es.map RE.ke) client tok now→K (.tuple #[u.a,.int .i64 (XA (es.map RE.ke) client tok now).e]) w') :
    Xa Tryz.prog Jj #[.pointer (some ⟨b,0,none⟩),.slice p1 l1 c1,.slice p2 l2 c2,.int .u64 (now:Int)] w K:=by
  apply Xka
  unfold Xj9
  refine XG (s:=3) (by kernel_rfl) fun w1 g1 f1 hB1 s1=>?_
  obtain ⟨k8,hk8⟩:∃ k,k=w.heap.size:=⟨_,rfl⟩
  rw [← hk8] at hB1 ⊢
  refine Xr1 (hR.fr0 f1) hN (h1.fr0 f1) hl1 hc1 hb1 (h2.fr0 f1) hl2 hc2 hq2 fun q d L w2 hL f2 hR2 hO2=>⟨_,_,_,_,rfl,?_⟩
  have hLlt:∀ z∈L,z<w.heap.size:=fun z hz=>by obtain ⟨e,he,h3,h4⟩:=hL z hz; have:=(hR.ent e he).1.lh; omega
  have f02:Fr L w w2:=f1.after f2
  have hB2:=hB1.fr f2 fun hm=>by have:=hLlt _ hm; omega
  have ule:=XsI (es.map RE.ke) client tok
  have n02:=f02.size
  have n1:=f1.size
  have hk2:=hB2.lt
  have bad:∀ (w':World) (e:Int),Fr [] w2 w'→XA (es.map RE.ke) client tok now=.bad e→∃ w3,Sto Tryz.prog Xn (.pointer (some ⟨k8,0,none⟩)) tf0.a w' w3∧∃ (a4:Addr) (v4:Value),(.pointer (some ⟨k8,0,none⟩):Value)=.pointer (some a4)∧(loadVar Xn a4).run Tryz.prog w3=.ok v4 w3∧K (.tuple #[v4,.int .i64 e]) w3:=by
    intro w' e f' he
    have hRx:=hR2.fr0 f'
    refine XoC (hB2.fr0 f') tf0 fun w4 f4=>?_
    have hR4:RingAt w4 b p es (N+1) lo:=hRx.fr f4 fun z hz=>by
      simp at hz
      subst hz
      exact Zw hR (by omega)
    have:=hk tf0 L w4 hL ((f02.then f').trans f4 fun z hz=>.inr (by simp at hz; omega)) hR4 (Xgr _ _) (by rw [he]; rfl)
    rw [he] at this; exact this
  by_cases hE:YQ (es.map RE.ke) client tok=0
  · rw [hE]
    refine Xi (XrY hO2.row rfl hO2.cap (by omega) fun u w3 f3 hU3 hu=>⟨_,_,_,_,_,_,_,_,rfl,?_⟩)
    refine XyA u fun w4 f4 hT4=>?_
    obtain ⟨k12,hk12⟩:∃ k,k=w3.heap.size:=⟨_,rfl⟩
    rw [← hk12] at hT4 ⊢
    have f24:=f3.then f4
    refine Xt (fun he=>?_) fun he=>?_
    · exact bad w4 _ f24 (by unfold XA; rw [if_neg (fun hh=>hh hE),if_pos he])
    · refine ⟨_,hT4.ldE,?_⟩
      have hue:u.exp=(ZM (Jb (es.map RE.ke) client tok)).exp:=by rw [← hu]; rfl
      refine Xd (fun hlt=>?_) fun hlt=>?_
      · exact bad w4 20 f24 (by unfold XA; rw [if_neg (fun hh=>hh hE),if_neg (fun hh=>hh he),if_pos (by omega)])
      · have hok:XA (es.map RE.ke) client tok now=ZM (Jb (es.map RE.ke) client tok):=by unfold XA; rw [if_neg (fun hh=>hh hE),if_neg (fun hh=>hh he),if_neg (by omega)]
        unfold XdO
        refine ⟨_,_,_,_,_,_,_,hT4.ldF,?_⟩
        have hR4:=hR2.fr0 f24
        refine XoC (hB2.fr0 f24) u fun w5 f5=>?_
        have hR5:RingAt w5 b p es (N+1) lo:=hR4.fr f5 fun z hz=>by
          simp at hz
          subst hz
          exact Zw hR (by omega)
        have hU5:TF.own w5 u w2.heap.size:=(hU3.fr0 f4).fr_sep f5 (by omega)
        have:=hk u L w5 hL ((f02.then f24).trans f5 fun z hz=>.inr (by simp at hz; omega)) hR5 (hU5.mono n02) (by rw [hok,hu])
        rw [hok,he] at this
        exact this
  · refine Xds hE (bad w2 _ (Fr.refl _ _) (by unfold XA; rw [if_pos hE]))
end
end Go.Sh
end

section
namespace Go.Sh
open Go Go.Fw Go.Proofs
set_option maxRecDepth 100000
set_option linter.unusedVariables false
def CAt (w:World) (k:Nat) (cs:List Value):Prop:=∃ g,Blk w k cs.length g∧∀ j v,cs[j]?=some v→g j=v
section
variable {w:World} {k:Nat} {cs:List Value} {t:TypeId}
theorem CAt.lt (h:CAt w k cs):k<w.heap.size:=by obtain ⟨g,hB,_⟩:=h; exact hB.lt
theorem CAt.fr {w':World} {L:List Nat} (h:CAt w k cs) (hf:Fr L w w') (hk:k∉L):CAt w' k cs:=by obtain ⟨g,hB,hv⟩:=h; exact ⟨g,hB.fr hf hk,hv⟩
theorem CAt.fr0 {w':World} (h:CAt w k cs) (hf:Fr [] w w'):CAt w' k cs:=h.fr hf (by simp)
theorem CAt.frA {w':World} {b:Nat} (h:CAt w k cs) (hf:FrA b w w') (hk:k<b):CAt w' k cs:=by
  obtain ⟨L,h1,h2⟩:=hf
  exact h.fr h2 fun hm=>by have:=h1 _ hm; omega
theorem CAt.ld (h:CAt w k cs) (ht:res Tryz.prog (isAgg t)=some true) (hs:res Tryz.prog (sizeOf t)=some cs.length):Ld Tryz.prog t (.pointer (some ⟨k,0,none⟩)) w (.agg ⟨cs⟩):=by
  obtain ⟨g,hB,hv⟩:=h
  exact LdA (m:=cs.length) ht hs hB (o:=0) (by omega) cs rfl fun j v hj=>by rw [Nat.zero_add]; exact hv j v hj
theorem CAt.ld0 {ds rs:List Value} (h:CAt w k cs) (he:cs=ds++rs) (ht:res Tryz.prog (isAgg t)=some true) (hs:res Tryz.prog (sizeOf t)=some ds.length):Ld Tryz.prog t (.pointer (some ((⟨k,0,none⟩:Addr).add 0))) w (.agg ⟨ds⟩):=by
  obtain ⟨g,hB,hv⟩:=h
  rw [Xg]
  refine LdA (m:=ds.length) ht hs hB (o:=0) (by rw [he,List.length_append]; omega) ds rfl fun j v hj=>?_
  rw [Nat.zero_add]
  exact hv j v (by rw [he,List.getElem?_append_left (List.getElem?_eq_some_iff.1 hj).1]; exact hj)
theorem CAt.get (h:CAt w k cs) (ht:res Tryz.prog (isAgg t)=some false) {j:Nat} {v:Value} (hj:cs[j]?=some v):Ld Tryz.prog t (.pointer (some ((⟨k,0,none⟩:Addr).add j))) w v:=by
  obtain ⟨g,hB,hv⟩:=h
  rw [Xg]
  exact Ld.blk ht hB (by have:=(List.getElem?_eq_some_iff.1 hj).1; omega) (by rw [Nat.zero_add]; exact hv j v hj)
theorem CAt.get0 (h:CAt w k cs) (ht:res Tryz.prog (isAgg t)=some false) {j:Nat} {v:Value} (hj:cs[j]?=some v):Ld Tryz.prog t (.pointer (some (((⟨k,0,none⟩:Addr).add 0).add j))) w v:=by
  have:(⟨k,0,none⟩:Addr).add 0=⟨k,0,none⟩:=rfl
  rw [this]; exact h.get ht hj
theorem Y3 {t:TypeId} {K:Nat→World→Prop} (cs:List Value) (h:∀ w',Fr [] w w'→CAt w' w.heap.size cs→w'.heap.size=w.heap.size+1→K w.heap.size w'):New ⟨cs⟩ t w K:=
  New.intro fun w1 f1 hB s1=>h w1 f1 ⟨_,hB,fun j v hj=>by
    show Array.getD ⟨cs⟩ j undef=v
    rw [Array.getD_eq_getD_getElem?,List.getElem?_toArray,hj]; rfl⟩ s1
theorem Xi3 {n:Nat} {g:Nat→Value} (hB:Blk w k n g) (cs:List Value) (hn:cs.length=n) (h1:cs.all (·.oneCell')=true) (ht:res Tryz.prog (sizeOf t)=some n) {K:World→Prop} (h:∀ w',Fr [k] w w'→CAt w' k cs→w'.heap.size=w.heap.size→K w') :
    ∃ w',Sto Tryz.prog t (.pointer (some ⟨k,0,none⟩)) (.agg ⟨cs⟩) w w'∧K w':=
  Sto.agg (m:=n) (cs:=cs) ht hn hB (by omega) (fun v hv=>List.all_eq_true.1 h1 v hv) fun w' hf hB' hs=>h w' hf ⟨_,by rw [hn]; exact hB',fun j v hj=>by
    obtain ⟨q1,q2⟩:=List.getElem?_eq_some_iff.1 hj
    unfold updN
    rw [dif_pos ⟨by omega,by omega⟩]
    simpa using q2⟩ hs
theorem CAt.blk (h:CAt w k cs):∃ g,Blk w k cs.length g:=by obtain ⟨g,hB,_⟩:=h; exact ⟨g,hB⟩
theorem CAt.sto (h:CAt w k cs) {j:Nat} (hj:j<cs.length) (v:Value) (hv:v.oneCell'=true) (hc:v.cells=#[v]) (hs:res Tryz.prog (sizeOf t)=some 1) {K:World→Prop} (hk:∀ w',Fr [k] w w'→CAt w' k (cs.set j v)→w'.heap.size=w.heap.size→K w') :
    ∃ w',Sto Tryz.prog t (.pointer (some ((⟨k,0,none⟩:Addr).add j))) v w w'∧K w':=by
  obtain ⟨g,hB,hg⟩:=h
  rw [Xg,Nat.zero_add]
  refine Sto.blk hs hB hj hv hc fun w' f hB' s=>hk w' f ⟨_,by rw [List.length_set]; exact hB',fun i u hi=>?_⟩ s
  rw [List.getElem?_set] at hi
  unfold upd
  by_cases hij:j=i
  · subst hij
    rw [if_pos rfl,if_pos hj] at hi
    rw [if_pos rfl]; exact Option.some.inj hi
  · rw [if_neg hij] at hi
    rw [if_neg (fun hh=>hij hh.symm)]; exact hg i u hi
theorem UV (cs:List Value) {n:Nat} (hn:cs.length=n) (h1:cs.all (·.oneCell')=true) (hz:zsB Tryz.prog t n=true) (ht:res Tryz.prog (sizeOf t)=some n) {K:Nat→World→Prop} (h:∀ w',Fr [] w w'→CAt w' w.heap.size cs→K w.heap.size w') :
    ∃ z,Pu Tryz.prog (zeroValue t) z∧New z.cells t w fun k w2=>∃ w3,Sto Tryz.prog t (.pointer (some ⟨k,0,none⟩)) (.agg ⟨cs⟩) w2 w3∧K k w3:=
  XG (s:=n) hz fun w2 g2 f2 hB2 s2=>Xi3 hB2 cs hn h1 ht fun w3 f3 hC s3=>h w3 (f2.st f3 (Nat.le_refl _)) hC
theorem V0 {n:Nat} {g:Nat→Value} (hB:Blk w k n g) (cs:List Value) (hn:cs.length=n) (h1:cs.all (·.oneCell')=true) (ha:res Tryz.prog (isAgg t)=some true) (ht:res Tryz.prog (sizeOf t)=some n) {K:VWP} (h:∀ w',Fr [k] w w'→K (.agg ⟨cs⟩) w') :
    ∃ w2,Sto Tryz.prog t (.pointer (some ⟨k,0,none⟩)) (.agg ⟨cs⟩) w w2∧∃ (a4:Addr) (v4:Value),(.pointer (some ⟨k,0,none⟩):Value)=.pointer (some a4)∧(loadVar t a4).run Tryz.prog w2=.ok v4 w2∧K v4 w2:=
  Xi3 hB cs hn h1 ht fun w3 f3 hT s3=>⟨_,_,rfl,hT.ld ha (by rw [hn]; exact ht),h w3 f3⟩
end
end Go.Sh
end

section
namespace Go.Sh
open Go Go.Fw Go.Proofs
set_option maxRecDepth 100000
set_option linter.unusedVariables false
def YR (x:UInt8):Nat:=if 48≤x.toNat∧x.toNat≤57 then x.toNat - 48 else if 97≤x.toNat∧x.toNat≤102 then x.toNat - 87 else 16
def digs:List UInt8:=[48,49,50,51,52,53,54,55,56,57,97,98,99,100,101,102]
def Zx:List UInt8→List UInt8
  | a::b::t=>UInt8.ofNat (16*YR a+YR b)::Zx t
  | _=>[]
theorem XqK {p:UInt8→Bool} (h:(List.range 256).all (fun n=>p (UInt8.ofNat n))=true) (x:UInt8):p x=true:=by
  have:=List.all_eq_true.1 h x.toNat (List.mem_range.2 x.toNat_lt)
  rwa [UInt8.ofNat_toNat] at this
theorem XqL (x:UInt8) (h:YR x<16):firstIdx (Ys digs) x=(YR x:Int):=by
  have:=XqK (p:=fun x=>!(decide (YR x<16)) || decide (firstIdx (Ys digs) x=(YR x:Int))) (by kernel_rfl) x
  simp only [decide_eq_true h,Bool.not_true,Bool.false_or,decide_eq_true_eq] at this
  exact this
theorem XqM (x:UInt8) (h:YR x<16) {i:Nat} (hi:i<16):((digs.getD i 0).toNat:Int)=(x.toNat:Int)↔i=YR x:=by
  have:=XqK (p:=fun x=>!(decide (YR x<16)) || (List.range 16).all fun i=>decide (((digs.getD i 0).toNat:Int)=(x.toNat:Int)↔i=YR x)) (by kernel_rfl) x
  simp only [decide_eq_true h,Bool.not_true,Bool.false_or,List.all_eq_true,List.mem_range,decide_eq_true_eq] at this
  exact this i hi
theorem Xgs {b:Bool} {A B:Prop} (h:b=false) (hb:B):cond b A B:=by rw [h]; exact hb
theorem XyD {a b:Nat} (ha:a<16) (hb:b<16):IntKind.u8.wrap (ior .i64 (IntKind.i64.wrap ((a:Int)*2 ^ 4)) (b:Int))=((UInt8.ofNat (16*a+b)).toNat:Int):=by
  have:(List.range 16).all (fun a=>(List.range 16).all fun b=>decide (IntKind.u8.wrap (ior .i64 (IntKind.i64.wrap ((a:Int)*2 ^ 4)) (b:Int))=((UInt8.ofNat (16*a+b)).toNat:Int)))=true:=by kernel_rfl
  have h1:=List.all_eq_true.1 this a (List.mem_range.2 ha)
  have h2:=List.all_eq_true.1 h1 b (List.mem_range.2 hb)
  exact of_decide_eq_true h2
theorem XyE {a b:Nat} (ha:a<16) (hb:b<16):IntKind.u8.wrap (IntKind.i64.wrap ((IntKind.i64.wrap (16*(a:Int)))+(b:Int)))=((UInt8.ofNat (16*a+b)).toNat:Int):=by
  have:(List.range 16).all (fun a=>(List.range 16).all fun b=>decide (IntKind.u8.wrap (IntKind.i64.wrap ((IntKind.i64.wrap (16*(a:Int)))+(b:Int)))=((UInt8.ofNat (16*a+b)).toNat:Int)))=true:=by kernel_rfl
  have h1:=List.all_eq_true.1 this a (List.mem_range.2 ha)
  have h2:=List.all_eq_true.1 h1 b (List.mem_range.2 hb)
  exact of_decide_eq_true h2
section
variable {w:World} {K:VWP}
theorem Xk2 {x:UInt8} (hx:YR x<16) (h:K (.int .i64 (YR x:Int)) w):Xa Tryz.prog Xd8 #[.string (Ys digs),.int .u8 (x.toNat:Int)] w K:=by
  apply Xba
  unfold WS
  apply Ug
  unfold ZT
  apply Uv
  have e:(x.toNat:Int).toNat.toUInt8=x:=by rw [Int.toNat_natCast]; exact UInt8.ofNat_toNat
  rw [e,XqL x hx]
  exact ⟨_,rfl,_,rfl,h⟩
theorem Xzh {n m:Int}:Pu Tryz.prog (Builtin.min_ #[Ye,Ye] Ye #[.int .i64 n,.int .i64 m]) (.int .i64 (min n m)):=by
  have e:Pu Tryz.prog (Builtin.min_ #[Ye,Ye] Ye #[.int .i64 n,.int .i64 m]) (.int .i64 (if m<n then m else n)):=by unfold Pu; kernel_rfl
  have:(if m<n then m else n)=min n m:=by split <;> omega
  rwa [this] at e
theorem Xk3 {xs:List UInt8} {m:Nat} (hl:xs.length=2*m) (hm:m≤1000) (hx:∀ x∈xs,YR x<16) (h:∀ q d w',Fr [] w w'→OB w' q m d (Zx xs) w.heap.size→K (.tuple #[.slice q m d,.int .i64 0]) w') :
    Xa Tryz.prog Xnx #[.string (Ys xs)] w K:=by
  apply Xio
  unfold Xhv
  have e0:Int.tmod (((Ys xs).size:Nat):Int) 2=0:=by rw [V2,hl,Int.tmod_eq_emod_of_nonneg (by omega)]; omega
  rw [e0]
  refine Xgs rfl ?_
  refine LoopS.ind (fun k us w'=>∃ (i:Nat) (rest ys:List UInt8) (p:Option Addr) (c:Nat),i+k=m∧rest.length=2*k∧ys++Zx rest=Zx xs∧(∀ x∈rest,YR x<16)∧us=[.string (Ys rest),.slice none 0 0,.int .i64 0,.slice p i c]∧OB w' p i c ys w.heap.size∧Fr [] w w') m
    ⟨0,xs,[],none,0,by omega,hl,rfl,hx,rfl,OB.nil _ _,Fr.refl _ _⟩ ?_
  rintro k us rr w1 I μ hgo ⟨i,rest,ys,p,c,hi,hr,he,hxr,rfl,hO,hf⟩
  refine ⟨_,_,_,_,_,_,_,_,rfl,_,_,Ef.strNe,?_⟩
  match rest,hr,he,hxr with
  | [],hr,he,hxr=>
    have hk0:k=0:=by simp at hr; omega
    have e1:(!((Ys []).toList == (⟨#[]⟩:ByteArray).toList))=false:=by rw [show (⟨#[]⟩:ByteArray)=Ys [] from rfl,XeM]; rfl
    rw [e1]
    refine Xi ?_
    have him:i=m:=by omega
    subst him
    have he':ys=Zx xs:=by simpa [Zx] using he
    exact h p c w1 hf (by rw [← he']; exact hO)
  | [a],hr,he,hxr=>exact absurd hr (by simp; omega)
  | a::b::t,hr,he,hxr=>
    have e1:(!((Ys (a::b::t)).toList == (⟨#[]⟩:ByteArray).toList))=true:=by rw [show (⟨#[]⟩:ByteArray)=Ys [] from rfl,XeM,XeM]; rfl
    rw [e1]
    refine Xl (Drw.intro fun w2 f2 s2=>?_)
    refine ⟨_,Xbv (by kernel_rfl) (xs:=a::b::t) (i:=0) (by simp),_,Xbv (by kernel_rfl) (xs:=a::b::t) (i:=1) (by simp),?_⟩
    have ha:=hxr a (by simp)
    have hb:=hxr b (by simp)
    refine Xk2 (x:=a) ha ⟨_,rfl,Xk2 (x:=b) hb ⟨_,rfl,_,Xzh,Xd (fun hh=>by omega) fun _=>?_⟩⟩
    rw [XyD ha hb]
    refine Xgl (hO.fr0 f2) (hf.then f2).size (by omega) fun p' c' w3 f3 hO3=>⟨_,Xuj (by kernel_rfl) (n:=2) (by simp),?_⟩
    refine hgo _ _ _ (k - 1) (by simp at hr; omega) ⟨i+1,t,ys++[UInt8.ofNat (16*YR a+YR b)],p',c',by simp at hr; omega,by simp at hr; omega,by simpa [Zx] using he,fun x hx=>hxr x (by simp [hx]),rfl,hO3,(hf.then f2).trans f3 fun z hz=>.inr (hO.2.2 z hz)⟩
theorem Xk4 {x:UInt8} (hx:YR x<16) (h:K (.int .i64 (YR x:Int)) w):Xa Tryz.prog XnH #[.int .u8 (x.toNat:Int)] w K:=by
  apply XiC
  unfold XhG
  refine LoopS.ind (fun k us w'=>∃ i:Nat,i+k=16∧i≤YR x∧us=[.int .u8 (x.toNat:Int),.int .i64 0,.int .i64 (i:Int)]∧w'=w) 16 ⟨0,rfl,by omega,rfl,rfl⟩ ?_
  rintro k us rr w1 I μ hgo ⟨i,hi,hle,rfl,rfl⟩
  refine ⟨_,_,_,rfl,Xd (fun hlt=>?_) fun hge=>by omega⟩
  refine ⟨_,Xbv (by kernel_rfl) (xs:=digs) (i:=i) (by show i<16; omega),Xx (fun h1=>?_) fun h1=>?_⟩
  · have:=(XqM x hx (i:=i) (by omega)).1 h1
    rw [this]; exact h
  · have hne:i≠YR x:=fun hh=>h1 ((XqM x hx (i:=i) (by omega)).2 hh)
    rw [Xe (by omega) (by omega)]
    exact hgo _ _ _ (k - 1) (by omega) ⟨i+1,by omega,by omega,rfl,rfl⟩
theorem Xk5 {xs:List UInt8} {m:Nat} (hl:xs.length=2*m) (hm:m≤1000) (hx:∀ x∈xs,YR x<16) (h:∀ q d w',Fr [] w w'→OB w' q m d (Zx xs) w.heap.size→K (.tuple #[.slice q m d,.int .i64 0]) w') :
    Xa Tryz.prog XnG #[.string (Ys xs)] w K:=by
  apply XiB
  unfold XhF
  have e0:Int.tmod (((Ys xs).size:Nat):Int) 2=0:=by rw [V2,hl,Int.tmod_eq_emod_of_nonneg (by omega)]; omega
  rw [e0]
  refine Xgs rfl (mk0 fun p0 w0 f0 hO0 s0=>?_)
  refine LoopS.ind (fun k us w'=>∃ (i:Nat) (rest ys:List UInt8) (p:Option Addr) (c:Nat),i+k=m∧rest=xs.drop (2*i)∧ys++Zx rest=Zx xs∧us=[.string (Ys xs),.slice none 0 0,.int .i64 0,.slice p i c,.int .i64 ((2*i:Nat):Int)]∧OB w' p i c ys w.heap.size∧Fr [] w w') m
    ⟨0,xs,[],p0,0,by omega,rfl,rfl,rfl,hO0,f0⟩ ?_
  rintro k us rr w1 I μ hgo ⟨i,rest,ys,p,c,hi,hr,he,rfl,hO,hf⟩
  refine ⟨_,_,_,_,_,_,_,_,_,rfl,?_⟩
  rw [V2]
  have hrl:rest.length=2*k:=by rw [hr,List.length_drop]; omega
  match rest,hr,he,hrl with
  | [],hr,he,hrl=>
    have hk0:k=0:=by simp at hrl; omega
    refine Xd (fun hh=>by omega) fun _=>?_
    have him:i=m:=by omega
    subst him
    have he':ys=Zx xs:=by simpa [Zx] using he
    exact h p c w1 hf (by rw [← he']; exact hO)
  | [a],hr,he,hrl=>exact absurd hrl (by simp; omega)
  | a::b::t,hr,he,hrl=>
    simp at hrl
    refine Xd (fun hh=>?_) fun hh=>by omega
    have ga:xs.getD (2*i) 0=a:=by
      have:xs[2*i]?=some a:=by
        have:=congrArg (·[0]?) hr
        simpa using this.symm
      rw [List.getD_eq_getElem?_getD,this]; rfl
    have gb:xs.getD (2*i+1) 0=b:=by
      have:xs[2*i+1]?=some b:=by
        have:=congrArg (·[1]?) hr
        simpa using this.symm
      rw [List.getD_eq_getElem?_getD,this]; rfl
    have hmem:∀ x∈a::b::t,x∈xs:=fun x hx=>List.mem_of_mem_drop (by rw [← hr]; exact hx)
    have ha:=hx a (hmem a (by simp))
    have hb:=hx b (hmem b (by simp))
    refine ⟨_,Xbv (by kernel_rfl) (xs:=xs) (i:=2*i) (by omega),?_⟩
    rw [ga]
    have e1:IntKind.i64.wrap (((2*i:Nat):Int)+1)=((2*i+1:Nat):Int):=by rw [Xe (by omega) (by omega)]; omega
    rw [e1]
    refine Xk4 ha ⟨_,rfl,_,Xbv (by kernel_rfl) (xs:=xs) (i:=2*i+1) (by omega),?_⟩
    rw [gb]
    refine Xk4 hb ⟨_,rfl,Xd (fun hh=>by omega) fun _=>Xd (fun hh=>by omega) fun _=>?_⟩
    unfold XbV
    rw [XyE ha hb]
    have e2:IntKind.i64.wrap (((2*i:Nat):Int)+2)=((2*(i+1):Nat):Int):=by rw [Xe (by omega) (by omega)]; omega
    rw [e2]
    refine Xgl hO hf.size (by omega) fun p' c' w3 f3 hO3=>?_
    refine hgo _ _ _ (k - 1) (by omega) ⟨i+1,t,ys++[UInt8.ofNat (16*YR a+YR b)],p',c',by omega,?_,by simpa [Zx] using he,rfl,hO3,hf.trans f3 fun z hz=>.inr (hO.2.2 z hz)⟩
    have:=congrArg (List.drop 2) hr
    rw [List.drop_drop] at this
    have e3:2*i+2=2*(i+1):=by omega
    rw [e3] at this
    simpa using this
end
end Go.Sh
end

section
namespace Go.Sh
open Go Go.Fw Go.Proofs
set_option maxRecDepth 100000
set_option linter.unusedVariables false
structure HF where
  fi:Nat
  ve:Nat
  to:List UInt8
  fr:List UInt8
  p1:Option Addr
  c1:Nat
  p2:Option Addr
  c2:Nat
def HF.v (f:HF):List Value:=[.int .u8 (f.fi:Int),.int .u32 (f.ve:Int),.slice f.p1 f.to.length f.c1,.slice f.p2 f.fr.length f.c2]
def HF.a (f:HF):Value:=.agg #[.int .u8 (f.fi:Int),.int .u32 (f.ve:Int),.slice f.p1 f.to.length f.c1,.slice f.p2 f.fr.length f.c2]
structure HF.ok (w:World) (f:HF):Prop where
  r1:Row w f.p1 (f.to.map vb)
  h1:f.to.length≤f.c1
  r2:Row w f.p2 (f.fr.map vb)
  h2:f.fr.length≤f.c2
  b1:f.fi<256
  b2:f.ve<4294967296
structure HF.own (w:World) (f:HF) (lo:Nat):Prop where
  o1:OB w f.p1 f.to.length f.c1 f.to lo
  o2:OB w f.p2 f.fr.length f.c2 f.fr lo
  b1:f.fi<256
  b2:f.ve<4294967296
theorem HF.own.ok {w:World} {f:HF} {lo:Nat} (h:HF.own w f lo):HF.ok w f:=⟨h.o1.row,h.o1.cap,h.o2.row,h.o2.cap,h.b1,h.b2⟩
theorem HF.ok.fr0 {w w':World} {f:HF} (h:HF.ok w f) (hf:Fr [] w w'):HF.ok w' f:=⟨h.r1.fr0 hf,h.h1,h.r2.fr0 hf,h.h2,h.b1,h.b2⟩
theorem HF.own.fr0 {w w':World} {f:HF} {lo:Nat} (h:HF.own w f lo) (hf:Fr [] w w'):HF.own w' f lo:=⟨h.o1.fr0 hf,h.o2.fr0 hf,h.b1,h.b2⟩
theorem HF.own.mono {w:World} {f:HF} {lo lo':Nat} (h:HF.own w f lo) (hl:lo'≤lo):HF.own w f lo':=⟨h.o1.mono hl,h.o2.mono hl,h.b1,h.b2⟩
theorem HF.own.fr_sep {w w':World} {f:HF} {lo b:Nat} (h:HF.own w f lo) (hf:Fr [b] w w') (hl:b<lo):HF.own w' f lo:=⟨h.o1.fr_sep hf hl,h.o2.fr_sep hf hl,h.b1,h.b2⟩
def hf0:HF:=⟨0,0,[],[],none,0,none,0⟩
theorem XsJ (w:World) (lo:Nat):HF.own w hf0 lo:=⟨OB.nil _ _,OB.nil _ _,by show 0<_; omega,by show 0<_; omega⟩
structure HU where
  e:Int
  fi:Nat
  ve:Nat
  to:List UInt8
  fr:List UInt8
  rest:List UInt8
def HU.bad (e:Int):HU:=⟨e,0,0,[],[],[]⟩
def HF.hu (f:HF) (e:Int) (rest:List UInt8):HU:=⟨e,f.fi,f.ve,f.to,f.fr,rest⟩
def hd1 (b:List UInt8):=XR 1 (0,b)
def hd2 (b:List UInt8):=XR 4 (hd1 b).2
def hd3 (b:List UInt8):=Xp (hd2 b).2
def hd4 (b:List UInt8):=Xp (hd3 b).2
def hd5 (b:List UInt8):=JT (hd4 b).2
def hdP (b:List UInt8):HU:=
  if 0<b.length∧(fl b 0).toNat<128 then .bad 14
  else if (hd5 b).2.1≠0 then .bad (hd5 b).2.1
  else ⟨0,(hd1 b).1,(hd2 b).1,(hd3 b).1,(hd4 b).1,(hd5 b).1⟩
theorem XqN (k:Nat) (s:Int×List UInt8):(XR k s).1<256 ^ k:=by
  unfold XR
  split
  · rename_i h
    have:=ZO (s.2.take k)
    rw [List.length_take,Nat.min_eq_left h.2] at this
    exact this
  · exact Nat.pow_pos (by omega)
theorem Xv7 (x:UInt8):((Zc .u8 (x.toNat:Int) 128) != 0)=decide (128≤x.toNat):=by
  have:=XqK (p:=fun x=>decide (((Zc .u8 (x.toNat:Int) 128) != 0)=decide (128≤x.toNat))) (by kernel_rfl) x
  exact of_decide_eq_true this
def Xbk (n:Nat):Nat:=n / 16 % 4
theorem Xxx {n:Nat} (h:n<256):IntKind.i64.wrap (Zc .u8 (Int.fdiv (n:Int) (2 ^ 4)) 3)=(Xbk n:Int):=by
  have:(List.range 256).all (fun n=>decide (IntKind.i64.wrap (Zc .u8 (Int.fdiv (n:Int) (2 ^ 4)) 3)=(Xbk n:Int)))=true:=by kernel_rfl
  exact of_decide_eq_true (List.all_eq_true.1 this n (List.mem_range.2 h))
section
variable {w:World} {K:VWP}
theorem XtO {n:Nat} (hn:n<256) (h:K (.int .i64 (Xbk n:Int)) w):Xa Tryz.prog Xlk #[.int .u8 (n:Int)] w K:=by
  apply Xhc
  unfold XfL
  rw [Xxx hn]; exact h
theorem XtP {p:Option Addr} {l c:Nat} {b:List UInt8} (hR:Row w p (b.map vb)) (hl:l=b.length) (h:K (.bool (decide (0<b.length∧128≤(fl b 0).toNat))) w):Xa Tryz.prog Xrg #[.slice p l c] w K:=by
  apply Xl5
  unfold XmR
  refine Xd (fun h0=>?_) fun h0=>?_
  · obtain ⟨a,ha,hca⟩:=Xy (t:=Xf) (by kernel_rfl) hR (c:=c) hl (i:=0) (by omega) (k:=.i64)
    refine ⟨_,ha,_,Ld.cell (by kernel_rfl) hca,?_⟩
    show K (.bool ((Zc .u8 ((fl b 0).toNat:Int) 128) != 0)) w
    rw [Xv7 (fl b 0)]
    have e:decide (0<b.length∧128≤(fl b 0).toNat)=decide (128≤(fl b 0).toNat):=by
      apply decide_eq_decide.2; exact ⟨fun h=>h.2,fun h=>⟨by omega,h⟩⟩
    rw [e] at h; exact h
  · have e:decide (0<b.length∧128≤(fl b 0).toNat)=false:=decide_eq_false fun hh=>by omega
    rw [e] at h; exact h
theorem Xr2 {p:Option Addr} {l c:Nat} {b:List UInt8} (hR:Row w p (b.map vb)) (hl:l=b.length) (hc:l≤c) (hlb:b.length≤1000000)
    (hk:∀ u q d w',Fr [] w w'→HF.own w' u w.heap.size→OB w' q (hdP b).rest.length d (hdP b).rest w.heap.size→u.hu (hdP b).e (hdP b).rest=hdP b→K (.tuple #[u.a,.slice q (hdP b).rest.length d,.int .i64 (hdP b).e]) w') :
    Xa Tryz.prog Xpb #[.slice p l c] w K:=by
  apply Xkk
  unfold Xkj
  refine XG (s:=4) (by kernel_rfl) fun w1 g1 f1 hB1 s1=>?_
  obtain ⟨k2,hk2⟩:∃ k,k=w.heap.size:=⟨_,rfl⟩
  rw [← hk2] at hB1 ⊢
  have bad:∀ (w9:World) (e:Int),Blk w9 k2 4 g1→Fr [] w w9→hdP b=.bad e→∃ w2,Sto Tryz.prog JG (.pointer (some ⟨k2,0,none⟩)) hf0.a w9 w2∧∃ (a4:Addr) (v4:Value),(.pointer (some ⟨k2,0,none⟩):Value)=.pointer (some a4)∧(loadVar JG a4).run Tryz.prog w2=.ok v4 w2∧K (.tuple #[v4,.slice none 0 0,.int .i64 e]) w2:=by
    intro w9 e hB9 f9 hbe
    refine V0 hB9 hf0.v rfl rfl (by kernel_rfl) (by kernel_rfl) (K:=fun v w'=>K (.tuple #[v,.slice none 0 0,.int .i64 e]) w') fun w10 f10=>?_
    have:=hk hf0 none 0 w10 (f9.st f10 (by omega)) (XsJ _ _)
    rw [hbe] at this
    exact this (OB.nil _ _) rfl
  have main:¬ (0<b.length∧(fl b 0).toNat<128)→Wy p l c ⟨k2,0,none⟩ none 0 0 0 w1 K:=by
    intro hno
    unfold Wy
    refine Xdh (hR.fr0 f1) hl hc fun w2 f2 hR2 s2=>⟨_,rfl,?_⟩
    obtain ⟨r,hr⟩:∃ r,r=w1.heap.size:=⟨_,rfl⟩
    rw [← hr] at hR2 ⊢
    have n1:(hd1 b).2.2.length≤b.length:=VS 1 (0,b)
    have t1:(hd1 b).1<256:=XqN 1 (0,b)
    have n2:(hd2 b).2.2.length≤(hd1 b).2.2.length:=VS 4 _
    have t2:(hd2 b).1<4294967296:=XqN 4 (hd1 b).2
    have n3:(hd3 b).2.2.length≤(hd2 b).2.2.length:=(Ul _).1
    have n4:(hd4 b).2.2.length≤(hd3 b).2.2.length:=(Ul _).1
    have hdp:hdP b=if (hd5 b).2.1≠0 then .bad (hd5 b).2.1 else ⟨0,(hd1 b).1,(hd2 b).1,(hd3 b).1,(hd4 b).1,(hd5 b).1⟩:=by unfold hdP; rw [if_neg hno]
    refine XiV hR2 1 (by omega) hlb fun w3 f3 hR3=>⟨_,rfl,?_⟩
    obtain ⟨d1,hd1'⟩:∃ d,d=hd1 b:=⟨_,rfl⟩
    change RdAt w3 r (hd1 b).2.1 (hd1 b).2.2 at hR3
    show Xa _ _ _ _ (fun r24 w3=>∃ (n24:Int),_)
    refine XiV hR3 4 (by omega) (by omega) fun w4 f4 hR4=>⟨_,rfl,?_⟩
    change RdAt w4 r (hd2 b).2.1 (hd2 b).2.2 at hR4
    have e1:IntKind.u8.wrap (((XR 1 (0,b)).1:Nat):Int)=(((hd1 b).1:Nat):Int):=W0 (by omega) (by show (((hd1 b).1:Nat):Int)<256; omega)
    have e2:IntKind.u32.wrap (((XR 4 ((hd1 b).2.1,(hd1 b).2.2)).1:Nat):Int)=(((hd2 b).1:Nat):Int):=XxR (by omega) (by show (((hd2 b).1:Nat):Int)<4294967296; omega)
    rw [e1,e2]
    refine UV (t:=JG) [.int .u8 ((hd1 b).1:Int),.int .u32 ((hd2 b).1:Int),.slice none 0 0,.slice none 0 0] rfl rfl (by kernel_rfl) (by kernel_rfl) fun w5 f5 hC5=>?_
    obtain ⟨k6,hk6⟩:∃ k,k=w4.heap.size:=⟨_,rfl⟩
    rw [← hk6] at hC5 ⊢
    have m1:=f1.size; have m2:=f2.size; have m3:=f3.size; have m4:=f4.size; have m5:=f5.size
    have hk6l:=hC5.lt
    have hrl:r<w4.heap.size:=hR4.lt
    refine Qa (hR4.fr0 f5) (by omega) fun q6 d6 w6 f6 hR6 hO6=>⟨_,_,_,rfl,?_⟩
    change RdAt w6 r (hd3 b).2.1 (hd3 b).2.2 at hR6
    change OB w6 q6 (hd3 b).1.length d6 (hd3 b).1 w5.heap.size at hO6
    refine Qa hR6 (by omega) fun q7 d7 w7 f7 hR7 hO7=>⟨_,_,_,rfl,?_⟩
    change RdAt w7 r (hd4 b).2.1 (hd4 b).2.2 at hR7
    change OB w7 q7 (hd4 b).1.length d7 (hd4 b).1 w6.heap.size at hO7
    have m6:=f6.size; have m7:=f7.size
    have hC7:=(hC5.fr f6 (by simp; omega)).fr f7 (by simp; omega)
    have hO67:=hO6.fr_sep f7 (by omega)
    refine hC7.sto (j:=2) (by simp) (.slice q6 (hd3 b).1.length d6) rfl rfl (by kernel_rfl) fun w8 f8 hC8 s8=>?_
    refine hC8.sto (j:=3) (by simp) (.slice q7 (hd4 b).1.length d7) rfl rfl (by kernel_rfl) fun w9 f9 hC9 s9=>?_
    have hR9:RdAt w9 r (hd4 b).2.1 (hd4 b).2.2:=(hR7.fr f8 (by simp; omega)).fr f9 (by simp; omega)
    have hO69:=(hO67.fr_sep f8 (by omega)).fr_sep f9 (by omega)
    have hO79:=(hO7.fr_sep f8 (by omega)).fr_sep f9 (by omega)
    refine Xm7 hR9 (by omega) fun q10 d10 w10 f10 hR10 hO10=>⟨_,_,_,rfl,?_⟩
    change RdAt w10 r (hd5 b).2.1 (hd5 b).2.2 at hR10
    change OB w10 q10 (hd5 b).1.length d10 (hd5 b).1 w9.heap.size at hO10
    have m8:=f8.size; have m9:=f9.size; have m10:=f10.size
    have hC10:=hC9.fr f10 (by simp; omega)
    have hO610:=hO69.fr_sep f10 (by omega)
    have hO710:=hO79.fr_sep f10 (by omega)
    have a0:(⟨r,0,none⟩:Addr).add 0=⟨r,0,none⟩:=rfl
    refine ⟨_,rfl,?_⟩
    rw [a0]
    have B:∀ {x y:World} {L:List Nat},Fr L x y→(∀ z∈L,k2≠z)→Blk x k2 4 g1→Blk y k2 4 g1:=fun hf hz hB=>hB.fr hf fun hm=>hz _ hm rfl
    have hB10:Blk w10 k2 4 g1:=by
      have h2:=(((hB1.fr0 f2).fr f3 (by simp; omega)).fr f4 (by simp; omega)).fr0 f5
      exact ((((h2.fr f6 (by simp; omega)).fr f7 (by simp; omega)).fr f8 (by simp; omega)).fr f9 (by simp; omega)).fr f10 (by simp; omega)
    have f010:Fr [] w w10:=(((((((((f1.then f2).st f3 (by omega)).st f4 (by omega)).then f5).st f6 (by omega)).st f7 (by omega)).st f8 (by omega)).st f9 (by omega)).st f10 (by omega))
    refine Xxa hR10 ⟨_,rfl,Xt (fun he=>?_) fun he=>?_⟩
    · exact bad w10 _ hB10 f010 (by rw [hdp,if_pos he])
    · have hok:hdP b=⟨0,(hd1 b).1,(hd2 b).1,(hd3 b).1,(hd4 b).1,(hd5 b).1⟩:=by rw [hdp,if_neg (fun hh=>hh he)]
      obtain ⟨u,hu⟩:∃ u:HF,u=⟨(hd1 b).1,(hd2 b).1,(hd3 b).1,(hd4 b).1,q6,d6,q7,d7⟩:=⟨_,rfl⟩
      have hC10':CAt w10 k6 u.v:=by rw [hu]; exact hC10
      refine ⟨_,_,_,_,_,_,_,_,hC10'.ld (by kernel_rfl) (by kernel_rfl),?_⟩
      refine V0 hB10 u.v rfl rfl (by kernel_rfl) (by kernel_rfl) (K:=fun v w'=>K (.tuple #[v,.slice q10 (hd5 b).1.length d10,.int .i64 0]) w') fun w11 f11=>?_
      have hU10:HF.own w10 u w.heap.size:=by rw [hu]; exact ⟨hO610.mono (by omega),hO710.mono (by omega),t1,t2⟩
      have:=hk u q10 d10 w11 (f010.st f11 (by omega)) ⟨(hU10.o1.mono (Nat.le_refl _)).fr f11 (fun z hz hm=>?_),hU10.o2.fr f11 (fun z hz hm=>?_),hU10.b1,hU10.b2⟩
      · rw [hok] at this
        exact this ((hO10.fr_sep f11 (by omega)).mono (by omega)) (by rw [hu]; rfl)
      · have h1:z∈Xb q6:=by rw [hu] at hz; exact hz
        have:=hO6.2.2 z h1; simp at hm; omega
      · have h1:z∈Xb q7:=by rw [hu] at hz; exact hz
        have:=hO7.2.2 z h1; simp at hm; omega
  refine Xd (fun h0=>?_) fun h0=>?_
  · refine XtP (hR.fr0 f1) hl ⟨_,rfl,?_⟩
    unfold UO
    by_cases h128:128≤(fl b 0).toNat
    · rw [decide_eq_true ⟨by omega,h128⟩]
      exact Xi (main fun hh=>by omega)
    · rw [decide_eq_false fun hh=>h128 hh.2]
      exact Xl (bad w1 14 hB1 f1 (by unfold hdP; rw [if_pos ⟨by omega,by omega⟩]))
  · unfold UO
    exact Xi (main fun hh=>by omega)
end
end Go.Sh
end

section
namespace Go.Sh
open Go Go.Fw Go.Proofs
set_option maxRecDepth 100000
set_option linter.unusedVariables false
section
variable {w:World} {K:VWP}
theorem XtQ {p:Option Addr} {l c:Nat} {xs:List UInt8} (hx:Row w p (xs.map vb)) (hl:l=xs.length) (h8:l≤8) (hk:K (.tuple #[.int .u64 (Xm xs:Int),.int .i64 0]) w):Xa Tryz.prog Xrx #[.slice p l c] w K:=by
  apply Xl3
  unfold XmQ
  refine Xd (fun hh=>by omega) fun _=>?_
  refine LoopS.ind (fun k us w'=>w'=w∧∃ i:Nat,i+k=l∧us=[.slice p l c,.int .u64 0,.int .i64 0,.int .u64 (Xm (xs.take i):Int),.int .i64 (i:Int)]) l ⟨rfl,0,by omega,rfl⟩ ?_
  rintro k us rr w2 I μ hgo ⟨rfl,i,hi,rfl⟩
  refine ⟨_,_,_,_,_,_,_,rfl,Xd (fun h3=>?_) fun h3=>?_⟩
  · obtain ⟨a,ha,hca⟩:=Xy (t:=Xf) (by kernel_rfl) hx (c:=c) hl (i:=i) (by omega) (k:=.i64)
    refine ⟨_,ha,_,Ld.cell (by kernel_rfl) hca,?_⟩
    have hlt:=ZO (xs.take i)
    rw [List.length_take,Nat.min_eq_left (by omega)] at hlt
    have hle:256 ^ i≤256 ^ 7:=Nat.pow_le_pow_right (by omega) (by omega)
    have h7:(256:Nat) ^ 7=72057594037927936:=by decide
    have hb:=(fl xs i).toNat_lt
    have hb':((xs.getD i 0).toNat:Int)=((fl xs i).toNat:Int):=rfl
    have ew:IntKind.u64.wrap (IntKind.u64.wrap ((Xm (xs.take i):Int)*256)+IntKind.u64.wrap ((xs.getD i 0).toNat:Int))=(Xm (xs.take (i+1)):Int):=by
      rw [hb',XB (n:=(Xm (xs.take i):Int)*256) (by omega) (by omega),XB (n:=((fl xs i).toNat:Int)) (by omega) (by omega),XB (by omega) (by omega),Xf4 xs (by omega)]
      omega
    rw [ew,Xe (by omega) (by omega)]
    exact hgo _ _ _ (k - 1) (by omega) ⟨rfl,i+1,by omega,rfl⟩
  · have hil:i=l:=by omega
    subst hil
    rw [List.take_of_length_le (by omega)]
    exact hk
theorem Xxy (m:Nat):IntKind.u8.wrap (Int.tmod (m:Int) 256)=((UInt8.ofNat m).toNat:Int):=by
  have:Int.tmod (m:Int) 256=((m % 256:Nat):Int):=by rw [Int.tmod_eq_emod_of_nonneg (by omega)]; omega
  rw [this,W0 (by omega) (by omega)]; simp
theorem Xxz {m:Nat} (h:m<18446744073709551616):IntKind.u64.wrap (Int.tdiv (m:Int) 256)=((m / 256:Nat):Int):=by
  have:Int.tdiv (m:Int) 256=((m / 256:Nat):Int):=by rw [Int.tdiv_eq_ediv_of_nonneg (by omega)]; omega
  rw [this,XB (by omega) (by omega)]
theorem XtR {n size:Nat} (h8:size≤8) (hn:n<256 ^ size) (h64:n<18446744073709551616) (hk:∀ q d w',Fr [] w w'→OB w' q size d (XO n size) w.heap.size→K (.tuple #[.slice q size d,.int .i64 0]) w') :
    Xa Tryz.prog Xrw #[.int .u64 (n:Int),.int .i64 (size:Int)] w K:=by
  apply Xl1
  unfold XmP
  refine Xd (fun hh=>by omega) fun _=>Xd (fun hh=>by omega) fun _=>?_
  unfold XfJ
  refine mkN (n:=size) (c:=size) (by omega) (by omega) fun q w1 f1 hO1 s1=>?_
  have ew0:IntKind.i64.wrap ((size:Int) - 1)=(size:Int) - 1:=by rw [Xe (by omega) (by omega)]
  rw [ew0]
  refine LoopS.ind (fun k us w'=>∃ (i:Nat) (xs:List UInt8),i+k=size∧us=[.int .u64 ((n / 256 ^ i:Nat):Int),.slice none 0 0,.int .i64 0,.slice q size size,.int .i64 (((size - i:Nat):Int) - 1)]∧Fr [] w w'∧OB w' q size size xs w.heap.size∧∀ j,size - i≤j→j<size→fl xs j=UInt8.ofNat (n / 256 ^ (size - 1 - j))) size ⟨0,_,by omega,by simp,f1,hO1,by omega⟩ ?_
  rintro k us rr w2 I μ hgo ⟨i,xs,hi,rfl,f2,hO2,hx⟩
  have hdl:n / 256 ^ i≤n:=Nat.div_le_self _ _
  refine ⟨_,_,_,_,_,_,_,_,_,rfl,Xd (fun h3=>?_) fun h3=>?_⟩
  · have ei:((size - i:Nat):Int) - 1=((size - i - 1:Nat):Int):=by omega
    rw [ei]
    obtain ⟨a,ha,hca⟩:=hO2.get (k:=.i64) (i:=size - i - 1) (by omega)
    have eb:=Xxy (n / 256 ^ i)
    have ed:IntKind.u64.wrap (Int.tdiv ((n / 256 ^ i:Nat):Int) 256)=((n / 256 ^ (i+1):Nat):Int):=by
      rw [Xxz (Nat.lt_of_le_of_lt hdl h64),Nat.pow_succ,Nat.div_div_eq_div_mul]
    rw [eb,ed]
    obtain ⟨a2,ha2,w3,hst,f3,hO3⟩:∃ a2,IxA Tryz.prog Xf (.slice q size size) (.int .i64 ((size - i - 1:Nat):Int)) a2∧∃ w3,Sto Tryz.prog Jk (.pointer (some a2)) (.int .u8 ((UInt8.ofNat (n / 256 ^ i)).toNat:Int)) w2 w3∧Fr (Xb q) w2 w3∧OB w3 q size size (xs.set (size - i - 1) (UInt8.ofNat (n / 256 ^ i))) w.heap.size:=by
      obtain ⟨a2,ha2,w3,hst,hk3⟩:=hO2.sto (k:=.i64) (i:=size - i - 1) (x:=UInt8.ofNat (n / 256 ^ i)) (by omega) (K:=fun w3=>Fr (Xb q) w2 w3∧OB w3 q size size (xs.set (size - i - 1) (UInt8.ofNat (n / 256 ^ i))) w.heap.size) fun w3 f3 hO3 s3=>⟨f3,hO3⟩
      exact ⟨a2,ha2,w3,hst,hk3.1,hk3.2⟩
    refine ⟨_,ha2,w3,hst,?_⟩
    have ew:IntKind.i64.wrap (((size - i - 1:Nat):Int) - 1)=((size - (i+1):Nat):Int) - 1:=by rw [Xe (by omega) (by omega)]; omega
    rw [ew]
    have goal:=hgo [] [.int .u64 ((n / 256 ^ (i+1):Nat):Int),.slice none 0 0,.int .i64 0,.slice q size size,.int .i64 (((size - (i+1):Nat):Int) - 1)] w3 (k - 1) (by omega) ⟨i+1,_,by omega,rfl,hO2.news f2 f3 (Nat.le_refl _),hO3,fun j hj1 hj2=>?_⟩
    · rw [ei] at goal; exact goal
    · by_cases hje:j=size - i - 1
      · subst hje
        unfold fl
        rw [List.getD_eq_getElem?_getD,List.getElem?_set_self (by have:=hO2.2.1; omega)]
        have:size - 1 - (size - i - 1)=i:=by omega
        rw [this]; rfl
      · have:=hx j (by omega) hj2
        unfold fl at this ⊢
        rw [List.getD_eq_getElem?_getD,List.getElem?_set_ne (by omega),← List.getD_eq_getElem?_getD]
        exact this
  · have his:i=size:=by omega
    subst his
    unfold XfI
    have e0:n / 256 ^ i=0:=Nat.div_eq_of_lt hn
    rw [e0]
    refine Xd (fun hh=>by omega) fun _=>?_
    have ex:xs=XO n i:=by
      refine Xcd (by rw [Yb]; exact hO2.2.1.symm) fun j hj=>?_
      have hjl:j<i:=by have:=hO2.2.1; omega
      rw [hx j (by omega) hjl]
      unfold fl XO
      rw [List.getD_eq_getElem?_getD,List.getElem?_map,List.getElem?_range hjl]; rfl
    rw [ex] at hO2
    exact hk q i w2 f2 hO2
end
def RrAt (w:World) (b:Nat) (err:Int) (rest:List UInt8):Prop:=
  ∃ f p c,Blk w b 2 f∧f 0=.slice p rest.length c∧f 1=.int .i64 err∧rest.length≤c∧Row w p (rest.map vb)∧(0<rest.length→∀ z∈Xb p,z<b)
def Y4 (k:Nat) (s:Int×List UInt8):List UInt8×(Int×List UInt8):=if s.1=0∧k≤s.2.length then (s.2.take k,(0,s.2.drop k)) else ([],(if s.1=0 then 12 else s.1,s.2))
section
variable {w:World} {b:Nat} {err:Int} {rest:List UInt8} {K:VWP}
theorem RrAt.lt (h:RrAt w b err rest):b<w.heap.size:=by obtain ⟨f,p,c,hB,_⟩:=h; exact hB.lt
theorem RrAt.fr {w':World} {L:List Nat} (h:RrAt w b err rest) (hf:Fr L w w') (hL:∀ z∈L,b<z):RrAt w' b err rest:=by
  obtain ⟨f,p,c,hB,h0,h1,hc,hR,hn⟩:=h
  exact ⟨f,p,c,hB.fr hf (fun hb=>by have:=hL b hb; omega),h0,h1,hc,X8 hR hf (fun h0 z hz hz'=>by have:=hL z hz'; have:=hn h0 z hz; omega),hn⟩
theorem RrAt.fr0 {w':World} (h:RrAt w b err rest) (hf:Fr [] w w'):RrAt w' b err rest:=h.fr hf (by simp)
theorem XxA {t:TypeId} {p:Option Addr} {l c:Nat} {xs:List UInt8} (hR:Row w p (xs.map vb)) (hl:l=xs.length) (hc:l≤c) {K:Nat→World→Prop} (h:∀ w',Fr [] w w'→RrAt w' w.heap.size 0 xs→w'.heap.size=w.heap.size+1→K w.heap.size w'):New #[.slice p l c,.int .i64 0] t w K:=
  New.intro fun w1 f1 hB s1=>h w1 f1 ⟨_,p,c,hB,by rw [← hl]; rfl,rfl,by omega,hR.fr0 f1,fun h0 z hz=>Row.blk_lt hR h0 _ hz⟩ s1
theorem XtS (h:RrAt w b err rest) (e:Int) {K:World→Prop} (hk:∀ w',Fr [b] w w'→RrAt w' b e rest→K w'):∃ w',Sto Tryz.prog Xho (.pointer (some ((⟨b,0,none⟩:Addr).add 1))) (.int .i64 e) w w'∧K w':=by
  obtain ⟨f,p,c,hB,h0,h1,hc,hR,hn⟩:=h
  rw [Xg]
  refine Sto.blk (by kernel_rfl) hB (by omega) rfl rfl fun w1 f1 hB1 s1=>hk w1 f1 ⟨_,p,c,hB1,by rw [upd_ne _ _ _ (by omega)]; exact h0,upd_same _ _ _,hc,X8 hR f1 (fun hh z hz hm=>by have:=hn hh z hz; simp at hm; omega),hn⟩
theorem RrAt.ldE (h:RrAt w b err rest):Ld Tryz.prog Xho (.pointer (some ((⟨b,0,none⟩:Addr).add 1))) w (.int .i64 err):=by
  obtain ⟨f,p,c,hB,h0,h1,hc,hR,hn⟩:=h
  rw [Xg]; exact Ld.blk (by kernel_rfl) hB (by omega) h1
theorem Xng (h:RrAt w b err rest) (n:Nat) (hn:n<1000000000) (hlb:rest.length≤1000000)
    (hk:∀ q d w',Fr [b] w w'→RrAt w' b (Y4 n (err,rest)).2.1 (Y4 n (err,rest)).2.2→OB w' q (Y4 n (err,rest)).1.length d (Y4 n (err,rest)).1 w.heap.size→K (.slice q (Y4 n (err,rest)).1.length d) w') :
    Xa Tryz.prog Xcs #[.pointer (some ⟨b,0,none⟩),.int .i64 (n:Int)] w K:=by
  apply Q6
  unfold We
  have a0:(⟨b,0,none⟩:Addr).add 0=⟨b,0,none⟩:=rfl
  have main:Za (some ⟨b,0,none⟩) (n:Int) none 0 0 false w K:=by
    unfold Za
    refine Xi ?_
    unfold Jl
    refine ⟨_,rfl,_,h.ldE,?_⟩
    have bad:∀ (w':World) (e:Int),Fr [b] w w'→RrAt w' b e rest→e≠0→Y4 n (err,rest)=([],(e,rest))→Yx (some ⟨b,0,none⟩) (n:Int) none 0 0 w' K:=by
      intro w' e f' h' he hp
      unfold Yx
      rw [hp] at hk
      exact ⟨_,rfl,_,h'.ldE,Xt (fun _=>hk none 0 w' f' h' (OB.nil _ _)) fun hh=>absurd hh he⟩
    refine Xx (fun he=>?_) fun he=>?_
    · subst he
      have h':=h
      obtain ⟨f,p,c,hB,h0,h1,hc,hR,hnb⟩:=h
      refine ⟨_,rfl,?_⟩
      rw [a0]
      refine ⟨_,_,_,Ld.blk (by kernel_rfl) hB (by omega) h0,?_⟩
      unfold Y9
      refine Xd (fun hgt=>?_) fun hle=>?_
      · refine ⟨_,rfl,XtS h' 12 fun w1 f1 h1'=>?_⟩
        exact bad w1 12 f1 h1' (by omega) (by unfold Y4; rw [if_neg (by show ¬ ((0:Int)=0∧n≤rest.length); omega)]; rfl)
      · have hp:Y4 n (0,rest)=(rest.take n,(0,rest.drop n)):=by unfold Y4; rw [if_pos (by show (0:Int)=0∧n≤rest.length; omega)]
        rw [hp] at hk
        unfold Yx
        refine ⟨_,rfl,_,h'.ldE,Xi ?_⟩
        refine mk0 fun p1 w1 f1 hO1 s1=>⟨_,rfl,?_⟩
        rw [a0]
        refine ⟨_,_,_,Ld.blk (by kernel_rfl) (hB.fr0 f1) (by omega) h0,?_⟩
        refine WA (hR.fr0 f1) rfl (n:=n) (by omega) hc fun q2 d2 hq2 hl2 hd2 hb2=>?_
        refine XY (m:=n) hO1 (by omega) hq2 hl2 (by omega) fun p3 c3 w3 f3 hO3=>⟨_,rfl,?_⟩
        have f03:Fr [] w w3:=f1.trans f3 fun z hz=>.inr (hO1.2.2 z hz)
        rw [a0]
        have hB3:=hB.fr0 f03
        refine ⟨_,_,_,Ld.blk (by kernel_rfl) hB3 (by omega) h0,?_⟩
        refine Wn (hR.fr0 f03) rfl (n:=n) (by omega) hc fun q4 d4 hq4 hl4 hd4 hb4=>⟨_,rfl,?_⟩
        rw [a0]
        refine Sto.blk (by kernel_rfl) hB3 (by omega) rfl rfl fun w5 f5 hB5 s5=>?_
        have hbl:=hB.lt
        rw [Nat.zero_add,List.nil_append] at hO3
        rw [Nat.zero_add]
        have el:(rest.take n).length=n:=hl2.symm
        have:=hk p3 c3 w5 (f03.after f5) ⟨_,q4,d4,hB5,by rw [upd_same,hl4],by rw [upd_ne _ _ _ (by omega)]; exact h1,by show (rest.drop n).length≤d4; omega,X8 hq4 f5 (fun hh z hz hm=>by have:=hnb (by rw [List.length_drop] at hh; omega) z (hb4 z hz); simp at hm; omega),fun hh z hz=>hnb (by rw [List.length_drop] at hh; omega) z (hb4 z hz)⟩ (by rw [el]; exact hO3.fr_sep f5 (by omega))
        rw [el] at this
        exact this
    · unfold Y9
      refine Xi (bad w err (Fr.refl _ _) h he (by unfold Y4; rw [if_neg (by show ¬ (err=0∧n≤rest.length); omega)]; show ([],(if err=0 then 12 else err,rest))=_; rw [if_neg he]))
  refine ⟨_,rfl,_,h.ldE,Xx (fun he=>?_) fun _=>main⟩
  have e0:decide ((n:Int)<0)=false:=decide_eq_false (by omega)
  rw [e0]; exact main
theorem XtT (k:Nat) (s:Int×List UInt8):XR k s=(Xm (Y4 k s).1,(Y4 k s).2):=by
  unfold XR Y4
  split <;> rfl
theorem XsK (h:RrAt w b err rest) (n:Nat) (h8:n≤8) (hlb:rest.length≤1000000)
    (hk:∀ w',Fr [b] w w'→RrAt w' b (XR n (err,rest)).2.1 (XR n (err,rest)).2.2→K (.int .u64 ((XR n (err,rest)).1:Int)) w'):Xa Tryz.prog XeY #[.pointer (some ⟨b,0,none⟩),.int .i64 (n:Int)] w K:=by
  apply XbW
  unfold QE
  have main:YL (some ⟨b,0,none⟩) (n:Int) 0 false w K:=by
    unfold YL
    refine Xi ?_
    unfold JL
    refine Xng h n (by omega) hlb fun q d w1 f1 h1 hO1=>⟨_,_,_,rfl,?_⟩
    have hle:(Y4 n (err,rest)).1.length≤8:=by
      unfold Y4
      split
      · show (rest.take n).length≤8; rw [List.length_take]; omega
      · simp
    refine XtQ hO1.row rfl hle ⟨_,_,rfl,?_⟩
    rw [XtT] at hk
    exact hk w1 f1 h1
  have e0:decide ((n:Int)<0)=false:=decide_eq_false (by omega)
  have e8:decide ((n:Int) > 8)=false:=decide_eq_false (by omega)
  refine ⟨_,rfl,_,h.ldE,Xx (fun _=>?_) fun _=>main⟩
  rw [e0,e8]
  exact Xi main
theorem Xnh (h:RrAt w b err rest) (hlb:rest.length≤1000000)
    (hk:∀ q d w',Fr [b] w w'→RrAt w' b (Xp (err,rest)).2.1 (Xp (err,rest)).2.2→OB w' q (Xp (err,rest)).1.length d (Xp (err,rest)).1 w.heap.size→K (.slice q (Xp (err,rest)).1.length d) w') :
    Xa Tryz.prog Xcr #[.pointer (some ⟨b,0,none⟩)] w K:=by
  apply Q5
  unfold Wd
  have a0:(⟨b,0,none⟩:Addr).add 0=⟨b,0,none⟩:=rfl
  have h':=h
  obtain ⟨f,p,c,hB,h0,h1,hc,hR,hnb⟩:=h
  have hbl:=hB.lt
  refine ⟨_,rfl,?_⟩
  rw [a0]
  refine ⟨_,_,_,Ld.blk (by kernel_rfl) hB (by omega) h0,?_⟩
  refine XsK h' 1 (by omega) hlb fun w1 f1 h1'=>⟨_,rfl,?_⟩
  apply W9
  unfold Vg
  have bad:∀ (w2:World) (e2:Int) (r2:List UInt8) (n6:Int),Fr [b] w w2→RrAt w2 b e2 r2→e2≠0→Xp (err,rest)=([],(e2,rest))→Yk (some ⟨b,0,none⟩) p rest.length c n6 none 0 0 w2 (fun r5 w2=>∃ p5 l5 c5,r5=.slice p5 l5 c5∧K (.slice p5 l5 c5) w2):=by
    intro w2 e2 r2 n6 f2 h2 he hs
    unfold Yk
    refine ⟨_,rfl,_,h2.ldE,Xt (fun _=>⟨_,rfl,?_⟩) fun hh=>absurd hh he⟩
    obtain ⟨g,p2,c2,hB2,g0,g1,_⟩:=h2
    rw [a0]
    refine Sto.blk (by kernel_rfl) hB2 (by omega) rfl rfl fun w3 f3 hB3 s3=>?_
    have f13:Fr [b] w w3:=f2.trans f3 fun z hz=>.inl hz
    rw [hs] at hk
    exact ⟨_,_,_,rfl,hk none 0 w3 f13 ⟨_,p,c,hB3,upd_same _ _ _,by rw [upd_ne _ _ _ (by omega)]; exact g1,hc,X8 hR f13 (fun hh z hz hm=>by have:=hnb hh z hz; simp at hm; omega),hnb⟩ (OB.nil _ _)⟩
  refine ⟨_,rfl,_,h1'.ldE,?_⟩
  by_cases hg:err=0∧1≤rest.length
  · obtain ⟨rfl,h1l⟩:=hg
    have e1:XR 1 (0,rest)=(Xm (rest.take 1),(0,rest.drop 1)):=by unfold XR; rw [if_pos ⟨rfl,h1l⟩]
    rw [e1] at h1' ⊢
    rw [Xdi h1l]
    refine Xl ?_
    have h1'':RrAt w1 b 0 (rest.drop 1):=h1'
    have h1c:=h1''
    obtain ⟨g,p2,c2,hB2,g0,g1,hc2,hR2,hnb2⟩:=h1''
    refine ⟨_,rfl,?_⟩
    rw [a0]
    refine ⟨_,_,_,Ld.blk (by kernel_rfl) hB2 (by omega) g0,?_⟩
    have hdl:(rest.drop 1).length=rest.length - 1:=List.length_drop
    have hb255:=(fl rest 0).toNat_lt
    rw [XB (by omega) (by omega)]
    unfold YI
    refine Xd (fun hh=>?_) fun hh=>?_
    · refine ⟨_,rfl,XtS h1c 12 fun w2 f2 h2=>?_⟩
      exact bad w2 12 _ _ (f1.trans f2 fun z hz=>.inl hz) h2 (by omega) (by unfold Xp; rw [if_neg (by show ¬ ((0:Int)=0∧(fl rest 0).toNat+1≤rest.length); omega)]; rfl)
    · have hs : Xp (0, rest) = ((rest.drop 1).take (fl rest 0).toNat, (0, rest.drop ((fl rest 0).toNat + 1))) := by
        unfold Xp; rw [if_pos (by show (0:Int)=0∧(fl rest 0).toNat+1≤rest.length; omega)]
      unfold Yk
      refine ⟨_,rfl,_,h1c.ldE,Xi ?_⟩
      rw [Xe (by omega) (by omega)]
      refine Xng h1c (fl rest 0).toNat (by omega) (by omega) fun q d w2 f2 h2 hO2=>⟨_,_,_,rfl,?_⟩
      have hp:Y4 (fl rest 0).toNat (0,rest.drop 1)=((rest.drop 1).take (fl rest 0).toNat,(0,(rest.drop 1).drop (fl rest 0).toNat)):=by unfold Y4; rw [if_pos (by show (0:Int)=0∧_≤(rest.drop 1).length; omega)]
      rw [hp] at h2 hO2 ⊢
      rw [hs] at hk
      rw [List.drop_drop] at h2
      exact ⟨_,_,_,rfl,hk q d w2 (f1.trans f2 fun z hz=>.inl hz) (by rw [Nat.add_comm]; exact h2) (hO2.mono f1.size)⟩
  · have he2:(if err=0 then (12:Int) else err)≠0:=by split <;> omega
    have e1:XR 1 (err,rest)=(0,(if err=0 then 12 else err,rest)):=by unfold XR; rw [if_neg hg]
    rw [e1] at h1' ⊢
    have hs:Xp (err,rest)=([],(if err=0 then 12 else err,rest)):=by
      unfold Xp; rw [if_neg (by show ¬ (err=0∧(fl rest 0).toNat+1≤rest.length); omega)]
    have ec:((if err=0 then (12:Int) else err) == 0)=false:=by simpa using he2
    rw [ec]
    refine Xi ?_
    unfold YI
    exact Xi (bad w1 _ rest _ f1 h1' he2 hs)
theorem XxB (h:RrAt w b err rest) (hk:∀ w',Fr [b] w w'→RrAt w' b (Vl (err,rest)) rest→K (.int .i64 (Vl (err,rest))) w'):Xa Tryz.prog XeZ #[.pointer (some ⟨b,0,none⟩)] w K:=by
  apply XbY
  unfold QF
  have a0:(⟨b,0,none⟩:Addr).add 0=⟨b,0,none⟩:=rfl
  have fin:∀ (w':World) (e:Int),Fr [b] w w'→RrAt w' b e rest→Vl (err,rest)=e→ZB (some ⟨b,0,none⟩) 0 w' K:=by
    intro w' e f' h' he
    unfold ZB
    rw [he] at hk
    exact ⟨_,rfl,_,h'.ldE,hk w' f' h'⟩
  refine ⟨_,rfl,_,h.ldE,Xx (fun he=>?_) fun he=>?_⟩
  · subst he
    have h':=h
    obtain ⟨f,p,c,hB,h0,h1,hc,hR,hnb⟩:=h
    refine ⟨_,rfl,?_⟩
    rw [a0]
    refine ⟨_,_,_,Ld.blk (by kernel_rfl) hB (by omega) h0,?_⟩
    unfold ZC
    refine Xd (fun hgt=>?_) fun hle=>?_
    · refine ⟨_,rfl,XtS h' 10 fun w1 f1 h1=>fin w1 10 f1 h1 (by unfold Vl; rw [if_pos rfl,if_neg (by show ¬ rest.length=0; omega)])⟩
    · exact fin w 0 (Fr.refl _ _) h' (by unfold Vl; rw [if_pos rfl,if_pos (by show rest.length=0; omega)])
  · unfold ZC
    exact Xi (fin w err (Fr.refl _ _) h (by unfold Vl; rw [if_neg he]))
end
end Go.Sh
end
