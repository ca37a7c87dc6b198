/- A part of a proof of a given law of this program: lemmas, printed forms of its functions, contracts. It has no conditions of its own. -/
import Derived.Test.YtlnohlefimgdnaaGreatDoorMC4
import Derived.Test.YtlnohlefimgdnaaGreatDoorMS4
import Derived.Test.YtlnohlefimgdnaaGreatDoorMC3
import Derived.Test.YtlnohlefimgdnaaGreatDoorMC2

set_option maxHeartbeats 16000000
section
namespace Go.Sh
open Go Go.Fw Go.Proofs
set_option maxRecDepth 100000
set_option linter.unusedVariables false
theorem Xug {P:Program} {f:FuncId} {a a':Array Value} {w:World} {K:VWP} (he:a=a') (h:Xa P f a' w K):Xa P f a w K:=by subst he; exact h
def Yl:List Nat→List Value
  | []=>[]
  | e::l=>bA 128 (cf e)++Yl l
theorem Xjk (l:List Nat):(Yl l).length=l.length*128:=by induction l with | nil=>rfl | cons r l ih=>simp only [Yl,List.length_cons,List.length_append,Vy,ih]; omega
theorem Xl8 (a b:List Nat):Yl (a++b)=Yl a++Yl b:=by induction a with | nil=>rfl | cons r a ih=>simp [Yl,ih]
theorem XrE:∀ (l:List Nat) (i e j:Nat),l[i]?=some e→j<128→(Yl l)[i*128+j]?=some (.bool (cf e j)):=by
  intro l
  induction l with
  | nil=>intro i r j h; simp at h
  | cons x l ih=>
    intro i r j h hj
    cases i with
    | zero=>
      simp at h; subst h
      show (bA 128 (cf x)++Yl l)[0*128+j]?=_
      rw [List.getElem?_append_left (by rw [Vy]; omega),Nat.zero_mul,Nat.zero_add,XuN hj]
    | succ i=>
      show (bA 128 (cf x)++Yl l)[(i+1)*128+j]?=_
      rw [List.getElem?_append_right (by rw [Vy]; omega),Vy,show (i+1)*128+j - 128=i*128+j by omega]
      exact ih i r j (by simpa using h) hj
theorem Xwy (n:Nat) (g:Nat→Bool):∀ v∈bA n g,v.oneCell'=true:=by
  intro v hv
  obtain ⟨j,hj,rfl⟩:=List.mem_map.1 hv; rfl
theorem XrF (l:List Nat):∀ v∈Yl l,v.oneCell'=true:=by
  induction l with
  | nil=>simp [Yl]
  | cons r l ih=>intro v hv; rcases List.mem_append.1 hv with hv | hv; exact Xwy _ _ v hv; exact ih v hv
def PE (w:World) (p:Option Addr) (l c:Nat) (es:List Nat) (lo:Nat):Prop:=OwnN 128 w p l c (Yl es)∧l=es.length∧∀ k∈Xb p,lo≤k
section
variable {w:World} {b n:Nat} {K:VWP}
theorem PE.fr {p:Option Addr} {l c lo:Nat} {es:List Nat} {w':World} {L:List Nat} (h:PE w p l c es lo) (f:Fr L w w') (hL:∀ k∈L,k<lo):PE w' p l c es lo:=⟨h.1.fr f fun k hk hm=>by have:=hL k hm; have:=h.2.2 k hk; omega,h.2⟩
theorem PE.fr0 {p:Option Addr} {l c lo:Nat} {es:List Nat} {w':World} (h:PE w p l c es lo) (f:Fr [] w w'):PE w' p l c es lo:=⟨h.1.fr0 f,h.2⟩
theorem PE.mono {p:Option Addr} {l c lo lo':Nat} {es:List Nat} (h:PE w p l c es lo) (hl:lo'≤lo):PE w p l c es lo':=⟨h.1,h.2.1,fun k hk=>Nat.le_trans hl (h.2.2 k hk)⟩
theorem PE.row {p:Option Addr} {l c lo:Nat} {es:List Nat} (h:PE w p l c es lo):Row w p (Yl es):=h.1.row
theorem Xw9 {K:Option Addr→Nat→Nat→World→Prop} (h:∀ p w',Fr [] w w'→PE w' p 0 0 [] w.heap.size→w'.heap.size=w.heap.size+1→K p 0 0 w'):∃ p l c w',Ef Tryz.prog (Instr.buildSlice X9 0 #[]) w (.slice p l c) w'∧K p l c w':=
  ⟨_,_,_,Ef.new (v:=.slice (some ⟨w.heap.size,0,none⟩) 0 0) (cs:=([]:List Value).toArray) (e:=YU) (by kernel_rfl) fun w' f hB s=>h _ w' f ⟨⟨rfl,.inr ⟨_,0,_,_,rfl,hB,by omega,by omega,by simp [Yl]⟩⟩,rfl,by simp [Xb]⟩ s⟩
theorem Xxa {e:Nat} {K:Option Addr→Nat→Nat→World→Prop} (h:∀ p w',Fr [] w w'→Row w' p (Yl [e])→w'.heap.size=w.heap.size+1→K p 1 1 w'):∃ p l c w',Ef Tryz.prog (Instr.buildSlice X9 1 #[(0,.agg ⟨bA 128 (cf e)⟩)]) w (.slice p l c) w'∧K p l c w':=by
  obtain ⟨g,hg⟩:∃ g,g=cf e:=⟨_,rfl⟩
  have e1:Yl [e]=bA 128 g:=by rw [hg]; simp [Yl]
  rw [← hg]
  rw [e1] at h
  exact ⟨_,_,_,Ef.new (v:=.slice (some ⟨w.heap.size,0,none⟩) 1 1) (cs:=(bA 128 g).toArray) (e:=YU) (by kernel_rfl) fun w' f hB s=>h _ w' f hB.rowL s⟩
theorem XrG {p q:Option Addr} {l c lo m d:Nat} {es ys:List Nat} (h:PE w p l c es lo) (hlo:lo≤w.heap.size) (hR:Row w q (Yl ys)) (hm:m=ys.length) (hlen:l+m≤1073741824) {K:Option Addr→Nat→Nat→World→Prop}
    (hk:∀ p' c' w',Fr (Xb p) w w'→PE w' p' (l+m) c' (es++ys) lo→K p' (l+m) c' w'):∃ p' l' c' w',Ef Tryz.prog (Builtin.append_ #[X9,X9] X9 #[.slice p l c,.slice q m d]) w (.slice p' l' c') w'∧K p' l' c' w':=by
  obtain ⟨p',c',w',he,hO,hf,hcase⟩:=Ef.appendN (P:=Tryz.prog) (t:=X9) (ty:=X9) (s:=128) (by kernel_rfl) h.1 (m:=m) (d:=d) hR (by rw [Xjk,hm]) (XrF ys) hlen
  rw [← Xl8] at hO
  refine ⟨_,_,_,_,he,hk p' c' w' hf ⟨hO,by rw [List.length_append,← hm,← h.2.1],?_⟩⟩
  rcases hcase with ⟨rfl,_,_⟩ | ⟨rfl,_,_⟩
  · exact h.2.2
  · intro k hk'; simp [Xb] at hk'; omega
theorem XwZ {p:Option Addr} {es:List Nat} (hX:Row w p (Yl es)) {l c i:Nat} (hl:l=es.length) (hi:i<l) :
    ∃ b o e,es[i]?=some e∧IxA Tryz.prog X9 (.slice p l c) (.int .i64 (i:Int)) ⟨b,o,none⟩∧∀ j,j<128→w.cell? ⟨b,o+j,none⟩=some (.bool (cf e j)):=by
  have hlt:i<es.length:=by omega
  obtain ⟨b,o,ha,_,hc⟩:=hX.cellAt (P:=Tryz.prog) (t:=X9) (s:=128) (by kernel_rfl) (k:=.i64) (l:=l) (c:=c) (by rw [Xjk,hl]) hi (by omega)
  exact ⟨b,o,_,List.getElem?_eq_getElem hlt,ha,fun j hj=>hc j _ hj (XrE es i _ j (List.getElem?_eq_getElem hlt) hj)⟩
theorem Xll {n:Nat} (hn:n<1000000000) (h:∀ q d w',Fr [] w w'→OB w' q 8 d (X6 (n*8) 8) w.heap.size→K (.slice q 8 d) w'):Xa Tryz.prog XnG #[.int .i64 (n:Int)] w K:=by
  apply XiG
  unfold XiF
  refine mkN (n:=8) (c:=8) (by omega) (by omega) fun p w1 f1 hO1 s1=>?_
  have e8:IntKind.i64.wrap ((n:Int)*8)=((n*8:Nat):Int):=by rw [Xe (by omega) (by omega)]; omega
  rw [e8]
  obtain ⟨N,hN⟩:∃ N,N=n*8:=⟨_,rfl⟩
  rw [← hN] at h ⊢
  have hNb:N<8000000000:=by omega
  refine LoopS.ind (fun k us w'=>∃ (t:Nat) (zs:List UInt8),t+k=8∧us=[.int .i64 ((N / 256 ^ t:Nat):Int),.slice none 0 0,.slice p 8 8,.int .i64 (7 - (t:Int))]∧Fr [] w w'∧OB w' p 8 8 zs w.heap.size∧∀ j,j<8→7 - j<t→fl zs j=UInt8.ofNat (N / 256 ^ (7 - j))) 8
    ⟨0,_,by omega,by simp,f1,hO1,by omega⟩ ?_
  rintro k us r w2 I μ hgo ⟨t,zs,ht,rfl,f2,hO2,hz⟩
  refine ⟨_,_,_,_,_,_,_,_,rfl,Xc (fun h1=>?_) (fun h1=>?_)⟩
  · have e7:(7 - (t:Int))=((7 - t:Nat):Int):=by omega
    have hM:N / 256 ^ t≤N:=Nat.div_le_self _ _
    obtain ⟨M,hMe⟩:∃ M,M=N / 256 ^ t:=⟨_,rfl⟩
    rw [← hMe] at hM ⊢
    have eb:IntKind.u8.wrap (Int.tmod (M:Int) 256)=(((UInt8.ofNat M).toNat:Nat):Int):=by
      rw [show (256:Int)=((256:Nat):Int) from rfl,XrB,UInt8.toNat_ofNat']
      rw [Xhs (by omega) (by omega)]
    rw [eb,e7]
    have hzl:=hO2.2.1
    refine hO2.sto (k:=.i64) (i:=7 - t) (by omega) fun w3 f3 hO3 s3=>?_
    have ed:IntKind.i64.wrap (Int.tdiv (M:Int) 256)=((N / 256 ^ (t+1):Nat):Int):=by
      rw [show (256:Int)=((256:Nat):Int) from rfl,XuO,Xe (by omega) (by omega),hMe,Nat.div_div_eq_div_mul,← Nat.pow_succ]
    have es:IntKind.i64.wrap (((7 - t:Nat):Int) - 1)=7 - ((t+1:Nat):Int):=by rw [Xe (by omega) (by omega)]; omega
    rw [ed,es,← e7,hMe]
    refine hgo _ _ _ (k - 1) (by omega) ⟨t+1,_,by omega,rfl,hO2.news f2 f3 (Nat.le_refl _),hO3,fun j hj hjt=>?_⟩
    rw [ZJ (by omega)]
    by_cases hji:j=7 - t
    · rw [if_pos hji,hMe,show 7 - j=t by omega]
    · rw [if_neg hji]; exact hz j hj (by omega)
  · have e1 : zs = X6 N 8 := Xi7 (by rw [Y7, ← hO2.2.1]) fun j hj => by
      rw [← hO2.2.1] at hj
      rw [hz j hj (by omega)]
      unfold X6 fl
      rw [List.getD_eq_getElem?_getD,List.getElem?_map,List.getElem?_range hj]; rfl
    rw [e1] at hO2
    exact h p 8 w2 f2 hO2
end
end Go.Sh
end

section
namespace Go.Sh
open Go Go.Fw Go.Proofs
set_option maxRecDepth 100000
set_option linter.unusedVariables false
theorem XvC (a b:Nat):(fun j=>cf a j ^^ cf b j)=cf (a ^^^ b):=by
  funext j
  unfold cf
  rw [Nat.testBit_xor]
  cases decide (j<128) <;> simp
theorem Xs6 (xs:List UInt8) (i:Nat) {j:Nat} (hj:j<16):fl (VY (X7 xs i)) j=if 16*i+j<xs.length then fl xs (16*i+j) else 0:=by
  have hl:=QQ xs i
  unfold VY fl
  rw [List.getD_eq_getElem?_getD]
  by_cases h:16*i+j<xs.length
  · rw [if_pos h,List.getElem?_append_left (by omega)]
    unfold X7
    rw [List.getElem?_take,if_pos hj,List.getElem?_drop,List.getD_eq_getElem?_getD]
  · rw [if_neg h,List.getElem?_append_right (by omega),List.getElem?_replicate]
    split <;> rfl
section
variable {w:World} {b n:Nat} {K:VWP}
theorem XpH {xs:List UInt8} {i:Nat} (hi:i<Yc xs.length):(XG xs).take (i+1)=(XG xs).take i++[QP xs i]:=by
  rw [List.take_add_one]
  congr 1
  unfold XG
  rw [List.getElem?_map,List.getElem?_range hi]; rfl
theorem Xa5 {p:Option Addr} {l c:Nat} {xs:List UInt8} (hx:Row w p (xs.map vb)) (hl:l=xs.length) (hlb:l<1000000)
    (h:∀ q d w',Fr [] w w'→PE w' q (Yc l) d (XG xs) w.heap.size→K (.slice q (Yc l) d) w'):Xa Tryz.prog XjO #[.slice p l c] w K:=by
  apply XfJ
  unfold XeJ
  refine Xw9 fun p0 w1 f1 hO1 s1=>?_
  have hN:∀ i,16*i<l↔i<Yc l:=fun i=>by unfold Yc; omega
  refine LoopS.ind (fun k us w'=>∃ (i:Nat) (q:Option Addr) (d:Nat),i+k=Yc l∧us=[.slice p l c,.slice none 0 0,.slice q i d,.int .i64 ((16*i:Nat):Int)]∧Fr [] w w'∧PE w' q i d ((XG xs).take i) w.heap.size) (Yc l)
    ⟨0,p0,0,by omega,rfl,f1,hO1⟩ ?_
  rintro k us r w2 I μ hgo ⟨i,q,d,hi,rfl,f2,hO2⟩
  refine ⟨_,_,_,_,_,_,_,_,_,_,rfl,Xc (fun h1=>?_) (fun h1=>?_)⟩
  · have h1':16*i<l:=by omega
    have hi2:=(hN i).1 h1'
    refine mkN (n:=16) (c:=16) (by omega) (by omega) fun p3 w3 f3 hO3 s3=>?_
    have fin : ∀ (w5 : World) (zs : List UInt8), Fr [] w2 w5 → OB w5 p3 16 16 zs w2.heap.size → (∀ j, j < 16 → fl zs j = if 16 * i + j < l then fl xs (16 * i + j) else 0) →
        ZD I μ [.slice p l c,.slice none 0 0,.slice q i d,.int .i64 ((16*i:Nat):Int)] w2 p l c none 0 0 q i d ((16*i:Nat):Int) p3 16 16 w5 K:=by
      intro w5 zs f5 hO5 hz
      unfold ZD
      have ez:zs=VY (X7 xs i):=Xi7 (by rw [XcM (by rw [QQ]; omega),← hO5.2.1]) fun j hj=>by
        rw [← hO5.2.1] at hj
        rw [hz j hj,Xs6 xs i hj,hl]
      have en:Xp zs=QP xs i:=by rw [ez]; rfl
      refine XoH hO5.row hO5.2.1 rfl fun w6 f6=>⟨_,rfl,?_⟩
      rw [en]
      refine Xxa fun p7 w7 f7 hR7 s7=>?_
      have f57:=f5.then (f6.then f7)
      have f07:=f2.then f57
      refine XrG (m:=1) (hO2.fr0 f57) f07.size hR7 rfl (by unfold Yc at hi2; omega) fun p8 c8 w8 f8 hO8=>?_
      have e16:IntKind.i64.wrap (((16*i:Nat):Int)+16)=((16*(i+1):Nat):Int):=by rw [Xe (by omega) (by omega)]; omega
      rw [e16]
      refine hgo _ _ _ (k - 1) (by omega) ⟨i+1,p8,c8,by omega,rfl,f07.trans f8 (fun x hx=>.inr (hO2.2.2 x hx)),?_⟩
      rw [XpH (by rw [← hl]; exact hi2)]
      exact hO8
    refine LoopS.ind (fun k2 us w'=>∃ (t:Nat) (zs:List UInt8),t+k2=16∧us=[.slice p l c,.slice none 0 0,.slice q i d,.int .i64 ((16*i:Nat):Int),.slice p3 16 16,.int .i64 (t:Int)]∧16*i+t≤l∧Fr [] w2 w'∧OB w' p3 16 16 zs w2.heap.size∧∀ j,j<16→fl zs j=if j<t then fl xs (16*i+j) else 0) 16
      ⟨0,_,by omega,rfl,by omega,f3,hO3,fun j hj=>?_⟩ ?_
    · rw [if_neg (by omega)]
      unfold fl; rw [List.getD_eq_getElem?_getD,List.getElem?_replicate]; split <;> rfl
    rintro k2 us2 r2 w4 I2 μ2 hgo2 ⟨t,zs,ht,rfl,htl,f4,hO4,hz⟩
    have fin4:(t=16∨l≤16*i+t)→ZD I μ [.slice p l c,.slice none 0 0,.slice q i d,.int .i64 ((16*i:Nat):Int)] w2 p l c none 0 0 q i d ((16*i:Nat):Int) p3 16 16 w4 K:=fun hor=>fin w4 zs f4 hO4 fun j hj=>by
      rw [hz j hj]
      by_cases hjt:j<t
      · rw [if_pos hjt,if_pos (by omega)]
      · rw [if_neg hjt,if_neg (by omega)]
    refine ⟨_,_,_,_,_,_,_,_,_,_,_,_,_,_,rfl,Xc (fun h2=>?_) (fun h2=>fin4 (.inl (by omega)))⟩
    have ew:IntKind.i64.wrap (((16*i:Nat):Int)+(t:Int))=((16*i+t:Nat):Int):=by rw [Xe (by omega) (by omega)]; omega
    rw [ew]
    refine Xc (fun h3=>?_) (fun h3=>fin4 (.inr (by omega)))
    unfold Xaz
    rw [ew]
    obtain ⟨a,ha,hca⟩:=XD (t:=Xg) (by kernel_rfl) (hx.fr0 (f2.then f4)) (c:=c) hl (i:=16*i+t) (by omega) (k:=.i64)
    refine ⟨a,ha,_,Ld.cell (by kernel_rfl) hca,?_⟩
    have hzl:=hO4.2.1
    refine hO4.sto (k:=.i64) (i:=t) (by omega) fun w5 f5 hO5 s5=>?_
    rw [Xe (by omega) (by omega)]
    refine hgo2 _ _ _ (k2 - 1) (by omega) ⟨t+1,_,by omega,rfl,by omega,hO4.news f4 f5 (Nat.le_refl _),hO5,fun j hj=>?_⟩
    rw [ZJ (by omega)]
    by_cases hjt:j=t
    · subst hjt; rw [if_pos rfl,if_pos (by omega)]; rfl
    · rw [if_neg hjt,hz j hj]
      by_cases hlt:j<t
      · rw [if_pos hlt,if_pos (by omega)]
      · rw [if_neg hlt,if_neg (by omega)]
  · have hil:i=Yc l:=by have:=hN i; omega
    subst hil
    rw [List.take_of_length_le (by rw [Xgl,← hl]; exact Nat.le_refl _)] at hO2
    exact h q d w2 f2 hO2
theorem Xs7 {H a0:Nat} {p:Option Addr} {l c:Nat} {es:List Nat} (hH:H<2 ^ 128) (hE:Row w p (Yl es)) (hl:l=es.length) (hlb:l<1000000)
    (h:∀ w',Fr [] w w'→K (.agg ⟨bA 128 (cf (Z6 H a0 es))⟩) w'):Xa Tryz.prog XnH #[.agg ⟨bA 128 (cf H)⟩,.agg ⟨bA 128 (cf a0)⟩,.slice p l c] w K:=by
  apply XiI
  unfold XiH
  refine XcP rfl fun w1 f1 hA1 s1=>XcP rfl fun w2 f2 hA2 s2=>Xff fun w3 g3 f3 hB3 s3=>?_
  have f03:=(f1.then f2).then f3
  refine LoopS.ind (fun k us w'=>∃ i:Nat,i+k=l∧us=[.slice p l c,.pointer (some ⟨w.heap.size,0,none⟩),.pointer (some ⟨w1.heap.size,0,none⟩),.pointer (some ⟨w2.heap.size,0,none⟩),.int .i64 (i:Int)]∧Fr [] w w'∧PolB w' w.heap.size 128 (cf H)∧PolB w' w1.heap.size 128 (cf (Z6 H a0 (es.take i)))∧∃ g1,Blk w' w2.heap.size 128 g1) l
    ⟨0,by omega,rfl,f03,hA1.fr0 (f2.then f3),hA2.fr0 f3,_,hB3⟩ ?_
  rintro k us r w4 I μ hgo ⟨i,hi,rfl,f4,hH4,hA4,⟨g4,hB4⟩⟩
  refine ⟨_,_,_,_,_,_,_,rfl,Xc (fun h1=>?_) (fun h1=>?_)⟩
  · refine ⟨fun w'=>Fr [] w4 w',Drw.intro fun w5 f5 s5=>?_⟩
    obtain ⟨b,o,x,hx,ha,hc⟩:=XwZ (hE.fr0 f4) (c:=c) hl (i:=i) (by omega)
    refine ⟨_,ha,_,⟨f5,fun w' hw'=>(hA4.fr0 hw').ld⟩,_,⟨f5,fun w' hw'=>ldB (g:=cf x) fun j hj=>hw'.cell (hc j hj) (by simp)⟩,_,⟨f5,fun w' hw'=>(hH4.fr0 hw').ld⟩,?_⟩
    refine Xs4 fun w6 f6=>⟨_,rfl,.inr (f5.then f6),?_⟩
    rw [XvC]
    refine Xs5 hH fun w7 f7=>⟨_,rfl,?_⟩
    have f47:=(f5.then f6).then f7
    obtain ⟨ga,hga⟩:=(hA4.fr0 f47).blk
    refine Xe0 rfl (by kernel_rfl) hga fun w8 f8 hA8 s8=>?_
    rw [Xe (by omega) (by omega)]
    have e1:QO (Z6 H a0 (es.take i) ^^^ x) H=Z6 H a0 (es.take (i+1)):=by unfold Z6; rw [List.take_add_one,hx,List.foldl_append]; rfl
    rw [e1] at hA8
    exact hgo _ _ _ (k - 1) (by omega) ⟨i+1,by omega,rfl,(f4.then f47).st f8 (by omega),(hH4.fr0 f47).fr f8 (by simp; omega),hA8,_,(hB4.fr0 f47).fr f8 (by simp; omega)⟩
  · have hil:i=l:=by omega
    subst hil
    unfold Xc2
    rw [List.take_of_length_le (by omega)] at hA4
    exact ⟨_,hA4.ld,Xe0 rfl (by kernel_rfl) hB4 fun w5 f5 hA5 s5=>⟨_,_,rfl,hA5.ld,h w5 (f4.st f5 (by omega))⟩⟩
theorem Xs8 {p0 p1 p2:Option Addr} {l0 c0 l1 c1 l2 c2:Nat} {key xs ys:List UInt8} (hk:Row w p0 (key.map vb)) (hl0:l0=key.length) (h16:l0=16) (hx:Row w p1 (xs.map vb)) (hl1:l1=xs.length) (hb1:l1<1000000) (hy:Row w p2 (ys.map vb)) (hl2:l2=ys.length) (hb2:l2<1000000)
    (h:∀ q d w',Fr [] w w'→OB w' q 16 d (Wx (Xp key) xs ys) w.heap.size→K (.slice q 16 d) w'):Xa Tryz.prog Xo5 #[.slice p0 l0 c0,.slice p1 l1 c1,.slice p2 l2 c2] w K:=by
  apply Xki
  unfold Xk0
  refine Xa5 hx hl1 hb1 fun q1 d1 w1 f1 hO1=>⟨_,_,_,rfl,?_⟩
  refine Xa5 (hy.fr0 f1) hl2 hb2 fun q2 d2 w2 f2 hO2=>⟨_,_,_,rfl,?_⟩
  have f02:=f1.then f2
  have hN:∀ n,n<1000000→Yc n<100000:=fun n hn=>by unfold Yc; omega
  have hN1:=hN l1 hb1; have hN2:=hN l2 hb2
  refine XrG (hO1.fr0 f2) f02.size hO2.row hO2.2.1 (by omega) fun p3 c3 w3 f3 hO3=>?_
  have f03:Fr [] w w3:=f02.trans f3 (fun x hx=>.inr (hO1.2.2 x hx))
  refine Xll (by omega) fun q4 d4 w4 f4 hO4=>⟨_,_,_,rfl,?_⟩
  refine Xll (by omega) fun q5 d5 w5 f5 hO5=>⟨_,_,_,rfl,?_⟩
  have f45:=f4.then f5
  have n3:=f03.size; have n4:=f4.size
  refine JW (hO4.fr0 f5) (f45.size) hO5.row hO5.2.1 (by omega) fun p6 c6 w6 f6 hO6=>?_
  have f36:Fr [] w3 w6:=f45.trans f6 (fun x hx=>.inr (hO4.2.2 x hx))
  refine Xa5 (l:=8+8) hO6.row hO6.2.1 (by omega) fun q7 d7 w7 f7 hO7=>⟨_,_,_,rfl,?_⟩
  have f37:=f36.then f7
  have f07:=f03.then f37
  refine XrG (hO3.fr0 f37) f07.size hO7.row hO7.2.1 (by unfold Yc at *; omega) fun p8 c8 w8 f8 hO8=>?_
  have f08:Fr [] w w8:=f07.trans f8 (fun x hx=>.inr (hO3.2.2 x hx))
  refine XoH (hk.fr0 f08) hl0 h16 fun w9 f9=>⟨_,rfl,?_⟩
  refine Xug (a':=#[.agg ⟨bA 128 (cf (Xp key))⟩,.agg ⟨bA 128 (cf 0)⟩,.slice p8 (Yc l1+Yc l2+Yc (8+8)) c8]) (by kernel_rfl) ?_
  have hlt:Xp key<2 ^ 128:=XeY (by omega)
  refine Xs7 hlt (hO8.fr0 f9).row hO8.2.1 (by unfold Yc at *; omega) fun w10 f10=>⟨_,rfl,?_⟩
  have es:XG xs++XG ys++XG (X6 (l1*8) 8++X6 (l2*8) 8)=XeZ xs ys:=by
    have e1:XG (X6 (l1*8) 8++X6 (l2*8) 8)=[Xhh xs.length ys.length]:=by
      have hlen:(X6 (l1*8) 8++X6 (l2*8) 8).length=16:=by simp [Y7]
      obtain ⟨Y,hY⟩:∃ Y,Y=X6 (l1*8) 8++X6 (l2*8) 8:=⟨_,rfl⟩
      have hn:Xp Y=Xhh xs.length ys.length:=by
        rw [hY,V6,XbO _ _ (by omega),XbO _ _ (by omega),Y7]
        unfold Xhh
        omega
      rw [← hY] at hlen ⊢
      have hb:XG Y=[QP Y 0]:=by unfold XG; rw [hlen]; rfl
      have hp:VY (X7 Y 0)=Y:=by
        have:X7 Y 0=Y:=by unfold X7; rw [Nat.mul_zero,List.drop_zero,List.take_of_length_le (by omega)]
        rw [this]; unfold VY; rw [hlen]; simp
      rw [hb]
      unfold QP
      rw [hp,hn]
    rw [e1]; rfl
  have ho:Z6 (Xp key) 0 (XeZ xs ys)<2 ^ 128:=Xhg hlt _ _ (by decide)
  rw [es]
  refine XpG ho fun q11 d11 w11 f11 hO11=>⟨_,_,_,rfl,?_⟩
  have f010:=(f08.then f9).then f10
  exact h q11 d11 w11 (f010.then f11) (hO11.mono f010.size)
end
end Go.Sh
end

section
namespace Go.Sh
open Go Go.Fw Go.Proofs
set_option maxRecDepth 100000
set_option linter.unusedVariables false
section
variable {w:World} {key nonce text note:List UInt8} {K:VWP}
theorem XrH {p0 p1 p2 p3:Option Addr} {l0 c0 l1 c1 l2 c2 l3 c3:Nat} (h16:l0=16) (hl1:l1=nonce.length) (hl2:l2=text.length) (hl3:l3=note.length)
    (hbad:¬ okG nonce.length [text,note]→K (.bool true) w) (hok:okG nonce.length [text,note]→K (.bool false) w):Xa Tryz.prog XlA #[.slice p0 l0 c0,.slice p1 l1 c1,.slice p2 l2 c2,.slice p3 l3 c3] w K:=by
  apply Xg8
  unfold Xgh
  rw [JN] at hbad hok
  refine XF (fun h1=>by omega) fun _=>XF (fun h1=>hbad (by omega)) fun h1=>Xc (fun h2=>hbad (by omega)) fun h2=>?_
  by_cases h3:(l3:Int) > 65535
  · rw [decide_eq_true h3]; exact hbad (by omega)
  · rw [decide_eq_false h3]; exact hok (by omega)
theorem Xjl {p:Option Addr} {l c:Nat} (hx:Row w p (nonce.map vb)) (hl:l=nonce.length) (hlb:l≤1000000) (h:∀ q d w',Fr [] w w'→OB w' q (l+4) d (Ug nonce) w.heap.size→K (.slice q (l+4) d) w') :
    Xa Tryz.prog Xly #[.slice p l c] w K:=by
  apply Xg7
  unfold Xgg
  refine mk0 fun p1 w1 f1 hO1 s1=>?_
  refine JW hO1 f1.size (hx.fr0 f1) hl (by omega) fun p2 c2 w2 f2 hO2=>?_
  have f02:Fr [] w w2:=f1.trans f2 (fun x hx=>.inr (hO1.2.2 x hx))
  refine mkL (xs:=[0,0,0,1]) rfl rfl (by kernel_rfl) fun p3 w3 f3 hO3 s3=>?_
  refine JW (m:=4) (hO2.fr0 f3) (f02.then f3).size hO3.row rfl (by omega) fun p4 c4 w4 f4 hO4=>?_
  have f04:Fr [] w w4:=(f02.then f3).trans f4 (fun x hx=>.inr (hO2.2.2 x hx))
  rw [Nat.zero_add] at hO4 ⊢
  rw [List.nil_append] at hO4
  exact h p4 c4 w4 f04 hO4
theorem Xs9 {p0 p1 p2 p3:Option Addr} {l0 c0 l1 c1 l2 c2 l3 c3:Nat} (hk:Row w p0 (key.map vb)) (hl0:l0=key.length) (hc0:l0≤c0) (h16:l0=16) (h1:Row w p1 (nonce.map vb)) (hl1:l1=nonce.length) (h2:Row w p2 (text.map vb)) (hl2:l2=text.length) (h3:Row w p3 (note.map vb)) (hl3:l3=note.length)
    (h:∀ q d w',Fr [] w w'→OB w' q (tgL key nonce text note).length d (tgL key nonce text note) w.heap.size→K (.tuple #[.slice q (tgL key nonce text note).length d,.int .i64 (tgE nonce text note)]) w') :
    Xa Tryz.prog Xo2 #[.slice p0 l0 c0,.slice p1 l1 c1,.slice p2 l2 c2,.slice p3 l3 c3] w K:=by
  apply Xkj
  unfold Xk1
  refine XrH h16 hl1 hl2 hl3 (fun hno=>?_) fun hok=>?_
  · have e1:tgE nonce text note=11:=by unfold tgE; rw [if_neg hno]
    have e2:tgL key nonce text note=[]:=by unfold tgL; rw [if_neg hno]
    rw [e1,e2] at h
    exact ⟨_,rfl,X2 (h none 0 w (Fr.refl _ _) (OB.nil _ _))⟩
  · have e1:tgE nonce text note=0:=by unfold tgE; rw [if_pos hok]
    have e2:tgL key nonce text note=Y5 key nonce text note:=by unfold tgL; rw [if_pos hok]
    rw [e1,e2,Jr] at h
    rw [JN] at hok
    refine ⟨_,rfl,Xz ?_⟩
    refine mkN (n:=16) (c:=16) (by omega) (by omega) fun q1 w1 f1 hO1 s1=>?_
    refine XeV (hk.fr0 f1) hl0 (by omega) hc0 hO1.row rfl (by simp) fun q2 d2 w2 f2 hO2=>⟨_,_,_,rfl,?_⟩
    have f02:=f1.then f2
    refine Xs8 hO2.row hO2.2.1 rfl (h3.fr0 f02) hl3 (by omega) (h2.fr0 f02) hl2 (by omega) fun q3 d3 w3 f3 hO3=>⟨_,_,_,rfl,?_⟩
    have f03:=f02.then f3
    refine Xjl (h1.fr0 f03) hl1 (by omega) fun q4 d4 w4 f4 hO4=>⟨_,_,_,rfl,?_⟩
    have f04:=f03.then f4
    refine XeV (hk.fr0 f04) hl0 (by omega) hc0 hO4.row hO4.2.1 (by rw [← hO4.2.1]; omega) fun q5 d5 w5 f5 hO5=>⟨_,_,_,rfl,?_⟩
    have f05:=f04.then f5
    obtain ⟨G,hG⟩:∃ G,G=Wx (Xp (UQ key (List.replicate 16 0))) note text:=⟨_,rfl⟩
    obtain ⟨E,hE⟩:∃ E,E=UQ key (Ug nonce):=⟨_,rfl⟩
    rw [← hG] at hO3; rw [← hE] at hO5
    have hR3:=hO3.fr0 (f4.then f5)
    have hGl:G.length=16:=hO3.2.1.symm
    have hEl:E.length=16:=hO5.2.1.symm
    have n2:=f02.size; have n3:=f03.size; have n4:=f04.size
    have n35:w3.heap.size≤w4.heap.size:=f4.size
    have hap:∀ k∈Xb q5,k∉Xb q3:=fun k hk hm=>by have:=hO3.lt k hm; have:=hO5.2.2 k hk; omega
    refine LoopS.ind (fun k us w'=>∃ (i:Nat) (zs:List UInt8),i+k=16∧us=[.slice none 0 0,.int .i64 0,.slice q3 16 d3,.slice q5 16 d5,.int .i64 (i:Int)]∧Fr [] w w'∧OB w' q3 16 d3 zs w2.heap.size∧Row w' q5 (E.map vb)∧∀ j,fl zs j=if j<i then fl G j ^^^ fl E j else fl G j) 16
      ⟨0,G,by omega,rfl,f05,hR3,hO5.row,fun j=>by simp⟩ ?_
    rintro k us r w6 I μ hgo ⟨i,zs,hi,rfl,f6,hO6,hR6,hz⟩
    refine ⟨_,_,_,_,_,_,_,_,_,_,_,rfl,Xc (fun g1=>?_) (fun g1=>?_)⟩
    · have hzl:=hO6.2.1
      obtain ⟨a,ha,hca⟩:=XD (t:=Xg) (by kernel_rfl) hO6.row (c:=d3) (l:=16) hzl (i:=i) (by omega) (k:=.i64)
      obtain ⟨b,hb,hcb⟩:=XD (t:=Xg) (by kernel_rfl) hR6 (c:=d5) (l:=16) hEl.symm (i:=i) (by omega) (k:=.i64)
      refine ⟨fun w'=>w'.cell? a=some (vb (zs.getD i 0)),Drw.intro fun w7 f7 s7=>?_⟩
      refine ⟨a,ha,b,hb,_,⟨f7.cell hca (by simp),fun w' hw'=>Ld.cell (by kernel_rfl) hw'⟩,_,Ld.cell (by kernel_rfl) (f7.cell hcb (by simp)),.inl rfl,?_⟩
      rw [UV]
      refine (hO6.fr0 f7).sto (by omega) fun w8 f8 hO8 s8=>?_
      rw [Xe (by omega) (by omega)]
      refine hgo _ _ _ (k - 1) (by omega) ⟨i+1,_,by omega,rfl,(f6.then f7).trans f8 (fun x hx=>.inr (by have:=hO6.2.2 x hx; omega)),hO8,Row.cells_fr (hR6.fr0 f7) f8 hap,fun j=>?_⟩
      rw [ZJ (by omega)]
      by_cases hji:j=i
      · subst hji
        rw [if_pos rfl,if_pos (by omega)]
        have:=hz j
        rw [if_neg (by omega)] at this
        show fl zs j ^^^ _=_
        rw [this]; rfl
      · rw [if_neg hji,hz j]
        by_cases hlt:j<i
        · rw [if_pos hlt,if_pos (by omega)]
        · rw [if_neg hlt,if_neg (by omega)]
    · have hil:i=16:=by omega
      subst hil
      have e:zs=Y5 key nonce text note:=by
        have e0:Y5 key nonce text note=QN G E:=by rw [hG,hE]; rfl
        rw [e0]
        refine X3 (by rw [Yy (by omega),← hO6.2.1]; omega) fun j hj=>?_
        rw [← hO6.2.1] at hj
        rw [Wu (by omega) (by omega)]
        have:=hz j
        rw [if_pos hj] at this
        exact this
      rw [e] at hO6
      exact h q3 d3 w6 f6 (hO6.mono n2)
theorem Xjm {p0 p1 p2 p3:Option Addr} {l0 c0 l1 c1 l2 c2 l3 c3:Nat} (hk:Row w p0 (key.map vb)) (hl0:l0=key.length) (hc0:l0≤c0) (h16:l0=16) (h1:Row w p1 (nonce.map vb)) (hl1:l1=nonce.length) (h2:Row w p2 (text.map vb)) (hl2:l2=text.length) (hc2:l2≤c2) (hb2:l2<1000000) (h3:Row w p3 (note.map vb)) (hl3:l3=note.length)
    (h:∀ q d w',Fr [] w w'→OB w' q (opL key nonce text note).length d (opL key nonce text note) w.heap.size→K (.tuple #[.slice q (opL key nonce text note).length d,.int .i64 (opE key nonce text note)]) w') :
    Xa Tryz.prog Xnw #[.slice p0 l0 c0,.slice p1 l1 c1,.slice p2 l2 c2,.slice p3 l3 c3] w K:=by
  apply XiK
  unfold XiJ
  have fin:∀ e:Int,opE key nonce text note=e→e≠0→∀ w',Fr [] w w'→K (.tuple #[.slice none 0 0,.int .i64 e]) w':=by
    intro e he h0 w' f
    have e2:opL key nonce text note=[]:=by unfold opL; rw [if_neg (by rw [he]; exact h0)]
    rw [e2,he] at h
    exact h none 0 w' f (OB.nil _ _)
  have hokg:okG nonce.length [text.take (text.length - 16),note]↔(nonce.length=12∧text.length≤65551∧note.length≤65535):=by rw [JN,List.length_take]; omega
  have bad:¬ (nonce.length=12∧text.length≤65551∧note.length≤65535)→K (.tuple #[.slice none 0 0,.int .i64 11]) w:=fun hno=>fin 11 (by unfold opE; rw [if_neg (by rw [hokg]; exact hno)]) (by omega) w (Fr.refl _ _)
  refine XF (fun g1=>by omega) fun _=>XF (fun g1=>bad (by omega)) fun g1=>Xc (fun g2=>bad (by omega)) fun g2=>Xc (fun g3=>bad (by omega)) fun g3=>?_
  have hok:okG nonce.length [text.take (text.length - 16),note]:=hokg.2 (by omega)
  unfold Xc4
  rw [Xe (n:=(l2:Int) - 16) (by omega) (by omega)]
  refine Xc (fun g4=>fin 12 (by unfold opE; rw [if_pos hok,if_pos (by omega)]) (by omega) w (Fr.refl _ _)) fun g4=>?_
  have e16:(l2:Int) - 16=((l2 - 16:Nat):Int):=by omega
  rw [e16]
  refine XeU h2 hl2 (n:=l2 - 16) (by omega) hc2 fun q1 d1 hq1 hql1 hqc1 hqs1=>?_
  refine Xs9 hk hl0 hc0 h16 h1 hl1 hq1 hql1 h3 hl3 fun q2 d2 w2 f2 hO2=>⟨_,_,_,_,rfl,?_⟩
  have hok':okG nonce.length [text.take (l2 - 16),note]:=by rw [hl2]; exact hok
  have et:tgL key nonce (text.take (l2 - 16)) note=Y5 key nonce (text.take (l2 - 16)) note:=by unfold tgL; rw [if_pos hok']
  rw [et,Jr] at hO2
  rw [et,Jr]
  obtain ⟨G,hG⟩:∃ G,G=Y5 key nonce (text.take (l2 - 16)) note:=⟨_,rfl⟩
  rw [← hG] at hO2
  have hGl:G.length=16:=hO2.2.1.symm
  have n2:=f2.size
  refine LoopS.ind (fun k us w'=>∃ i:Nat,i+k=16∧us=[.slice p0 l0 c0,.slice p1 l1 c1,.slice p2 l2 c2,.slice none 0 0,.int .i64 0,.int .i64 ((l2 - 16:Nat):Int),.slice q2 16 d2,.int .i64 (i:Int)]∧Fr [] w w'∧Row w' q2 (G.map vb)∧∀ j,j<i→fl G j=fl text (l2 - 16+j)) 16
    ⟨0,by omega,rfl,f2,hO2.row,by omega⟩ ?_
  rintro k us r w3 I μ hgo ⟨i,hi,rfl,f3,hR3,hz⟩
  refine ⟨_,_,_,_,_,_,_,_,_,_,_,_,_,_,_,_,_,_,rfl,Xc (fun g5=>?_) (fun g5=>?_)⟩
  · have ew:IntKind.i64.wrap (((l2 - 16:Nat):Int)+(i:Int))=((l2 - 16+i:Nat):Int):=by rw [Xe (by omega) (by omega)]; omega
    rw [ew]
    obtain ⟨a,ha,hca⟩:=XD (t:=Xg) (by kernel_rfl) hR3 (c:=d2) (l:=16) hGl.symm (i:=i) (by omega) (k:=.i64)
    obtain ⟨b,hb,hcb⟩:=XD (t:=Xg) (by kernel_rfl) (h2.fr0 f3) (c:=c2) hl2 (i:=l2 - 16+i) (by omega) (k:=.i64)
    refine ⟨fun w'=>w'.cell? a=some (vb (G.getD i 0)),Drw.intro fun w4 f4 s4=>?_⟩
    refine ⟨a,ha,b,hb,_,⟨f4.cell hca (by simp),fun w' hw'=>Ld.cell (by kernel_rfl) hw'⟩,_,Ld.cell (by kernel_rfl) (f4.cell hcb (by simp)),.inl rfl,?_⟩
    rw [bne,XmG]
    refine XR (fun g6=>?_) (fun g6=>?_)
    · refine fin 13 ?_ (by omega) w4 (f3.then f4)
      unfold opE
      rw [if_pos hok,if_neg (by omega),← hl2,if_neg]
      intro hE
      rw [← hG] at hE
      have:fl G i=fl text (l2 - 16+i):=by
        rw [hE]; unfold fl; rw [List.getD_eq_getElem?_getD,List.getElem?_drop,List.getD_eq_getElem?_getD]
      have g7:G.getD i 0=text.getD (l2 - 16+i) 0:=this
      rw [g7] at g6
      simp at g6
    · rw [Xe (by omega) (by omega)]
      refine hgo _ _ _ (k - 1) (by omega) ⟨i+1,by omega,rfl,f3.then f4,hR3.fr0 f4,fun j hj=>?_⟩
      by_cases hji:j=i
      · rw [hji]; unfold fl; simpa using g6
      · exact hz j (by omega)
  · have hil:i=16:=by omega
    subst hil
    have hE:Y5 key nonce (text.take (l2 - 16)) note=text.drop (l2 - 16):=by
      rw [← hG]
      refine Xi7 (by rw [List.length_drop]; omega) fun j hj=>?_
      rw [hz j (by omega)]
      unfold fl; rw [List.getD_eq_getElem?_getD,List.getD_eq_getElem?_getD,List.getElem?_drop]
    have eo:opE key nonce text note=0:=by unfold opE; rw [if_pos hok,if_neg (by omega),← hl2,if_pos hE]
    have el:opL key nonce text note=Yf key nonce (text.take (l2 - 16)):=by unfold opL; rw [if_pos eo,← hl2]
    rw [eo,el,YQ] at h
    unfold Xc3
    refine Drw.intro fun w4 f4 s4=>?_
    have f04:=f3.then f4
    refine XeU (h2.fr0 f04) hl2 (n:=l2 - 16) (by omega) hc2 fun q5 d5 hq5 hql5 hqc5 hqs5=>?_
    refine Xjl (h1.fr0 f04) hl1 (by omega) fun q6 d6 w6 f6 hO6=>⟨_,_,_,rfl,?_⟩
    refine Xi8 hO6.row hO6.2.1 (by rw [← hO6.2.1]; omega) 1 (by omega) fun q7 d7 w7 f7 hO7=>⟨_,_,_,rfl,?_⟩
    have f47:=f6.then f7
    have f07:=f04.then f47
    refine XsW (hk.fr0 f07) hl0 hc0 (by omega) hO7.row hO7.2.1 (by rw [← hO7.2.1]) (hq5.fr0 f47) hql5 (by omega) fun q8 d8 w8 f8 hO8=>⟨_,_,_,_,rfl,?_⟩
    rw [← hql5] at h
    exact h q8 d8 w8 (f07.then f8) (hO8.mono f07.size)
end
end Go.Sh
end

section
namespace Go.Sh
open Go Go.Fw Go.Proofs
set_option maxRecDepth 100000
set_option linter.unusedVariables false
section
variable {w:World} {K:VWP}
theorem Xuh {α:Type} {R:α→α→Prop} {l:List α} (h:l.Pairwise R) {x y:α} (hx:x∈l) (hy:y∈l):x=y∨R x y∨R y x:=by
  obtain ⟨i,hi,rfl⟩:=List.getElem_of_mem hx
  obtain ⟨j,hj,rfl⟩:=List.getElem_of_mem hy
  rcases Nat.lt_trichotomy i j with h1 | h1 | h1
  · exact .inr (.inl (List.pairwise_iff_getElem.1 h i j hi hj h1))
  · subst h1; exact .inl rfl
  · exact .inr (.inr (List.pairwise_iff_getElem.1 h j i hj hi h1))
theorem RingAt.box {b lo:Nat} {p:Option Addr} {es:List RE} {N:Int} (h:RingAt w b p es N lo) {e:RE} (he:e∈es):∃ n hb,0≤n∧n≤N∧BoxAt w e.bx e.key n N e.lo hb∧hb≤e.hi∧e.key.length=16∧∀ k∈Xb e.kp,hb≤k:=by
  obtain ⟨n,hb,n0,n1,hX,hk,h16,hbk,o1,o2⟩:=(h.ent e he).1
  exact ⟨n,hb,n0,n1,hX,o1,hX.lohi.2.2.1,fun k hk=>(hbk k hk).1⟩
theorem RingAt.after {b lo:Nat} {p:Option Addr} {es:List RE} {N N' n':Int} {w':World} (h:RingAt w b p es N lo) {e:RE} (he:e∈es) {hb:Nat} (hhb:hb≤e.hi) (hkp:∀ k∈Xb e.kp,hb≤k) (f:Fr (rg e.lo hb) w w') (hN:N≤N') (h0:0≤n') (h1:n'≤N') (hX:BoxAt w' e.bx e.key n' N' e.lo hb):RingAt w' b p es N' lo:=by
  have hr:∀ k∈rg e.lo hb,e.lo≤k∧k<hb:=fun k hk=>Wy.1 hk
  obtain ⟨⟨g,c,hB,e0,hO⟩,h2,h3,h4,h5,h6,h7⟩:=h
  have hnot:∀ k∈b::Xb p,k∉rg e.lo hb:=fun k hk hm=>by have:=hr k hm; have:=h5 k hk e he; omega
  refine ⟨⟨g,c,hB.fr f (hnot b (List.mem_cons_self ..)),e0,hO.fr f fun k hk=>hnot k (List.mem_cons_of_mem _ hk)⟩,fun x hx=>⟨?_,(h2 x hx).2⟩,h3,h4,h5,h6,Nat.le_trans h7 f.size⟩
  have other:(x.hi≤e.lo∨e.hi≤x.lo)→EntAt w' x N':=fun ho=>((h2 x hx).1.fr f fun k hk=>by have:=hr k hk; omega).mono hN
  rcases Xuh h4 hx he with rfl | hh | hh
  · obtain ⟨n,hb2,n0,n1,hX2,hk,h16,hbk,o1,o2⟩:=(h2 x he).1
    exact ⟨n',hb,h0,h1,hX,Row.cells_fr hk f fun k hk' hm=>by have:=hr k hm; have:=hkp k hk'; omega,h16,fun k hk'=>⟨hkp k hk',(hbk k hk').2⟩,hhb,Nat.le_trans o2 f.size⟩
  · exact other (.inl hh.1)
  · exact other (.inr hh.1)
theorem offR.sp {b:Nat} {p q:Option Addr} {es:List RE} {e:RE} {hb:Nat} {xs:List UInt8} (he:e∈es) (hhb:hb≤e.hi) (h:∀ k∈Xb q,offR b p es k):sp e.lo hb q xs:=
  .inr fun k hk=>by have:=(h k hk).2 e he; omega
end
end Go.Sh
end

section
namespace Go.Sh
open Go Go.Fw Go.Proofs
set_option maxRecDepth 100000
set_option linter.unusedVariables false
structure TF where
  exp:Nat
  od:List UInt8
  sc:List UInt8
  p1:Option Addr
  c1:Nat
  p2:Option Addr
  c2:Nat
def TF.v (f:TF):List Value:=[.int .u64 (f.exp:Int),.slice f.p1 f.od.length f.c1,.slice f.p2 f.sc.length f.c2]
def TF.a (f:TF):Value:=.agg #[.int .u64 (f.exp:Int),.slice f.p1 f.od.length f.c1,.slice f.p2 f.sc.length f.c2]
theorem TF.v_one (f:TF):∀ u∈f.v,u.oneCell'=true:=by
  intro u hu
  simp [TF.v] at hu
  rcases hu with rfl | rfl | rfl <;> rfl
structure TF.ok (w:World) (f:TF):Prop where
  r1:Row w f.p1 (f.od.map vb)
  h1:f.od.length≤f.c1
  r2:Row w f.p2 (f.sc.map vb)
  h2:f.sc.length≤f.c2
  e:f.exp<18446744073709551616
theorem TF.ok.fr0 {w w':World} {f:TF} (h:TF.ok w f) (hf:Fr [] w w'):TF.ok w' f:=⟨h.r1.fr0 hf,h.h1,h.r2.fr0 hf,h.h2,h.e⟩
structure TF.own (w:World) (f:TF) (lo:Nat):Prop where
  o1:OB w f.p1 f.od.length f.c1 f.od lo
  o2:OB w f.p2 f.sc.length f.c2 f.sc lo
  e:f.exp<18446744073709551616
theorem TF.own.ok {w:World} {f:TF} {lo:Nat} (h:TF.own w f lo):TF.ok w f:=⟨h.o1.row,h.o1.cap,h.o2.row,h.o2.cap,h.e⟩
theorem TF.own.fr0 {w w':World} {f:TF} {lo:Nat} (h:TF.own w f lo) (hf:Fr [] w w'):TF.own w' f lo:=⟨h.o1.fr0 hf,h.o2.fr0 hf,h.e⟩
theorem TF.own.mono {w:World} {f:TF} {lo lo':Nat} (h:TF.own w f lo) (hl:lo'≤lo):TF.own w f lo':=⟨h.o1.mono hl,h.o2.mono hl,h.e⟩
theorem TF.own.fr_sep {w w':World} {f:TF} {lo b:Nat} (h:TF.own w f lo) (hf:Fr [b] w w') (hl:b<lo):TF.own w' f lo:=⟨h.o1.fr_sep hf hl,h.o2.fr_sep hf hl,h.e⟩
def tf0:TF:=⟨0,[],[],none,0,none,0⟩
theorem Xfg (w:World) (lo:Nat):TF.own w tf0 lo:=⟨OB.nil _ _,OB.nil _ _,by show 0<_; omega⟩
def TAt (w:World) (k:Nat) (f:TF):Prop:=∃ g,Blk w k 3 g∧∀ j v,f.v[j]?=some v→g j=v
section
variable {w:World} {k:Nat} {f:TF} {K:VWP}
theorem TAt.lt (h:TAt w k f):k<w.heap.size:=by obtain ⟨g,hB,_⟩:=h; exact hB.lt
theorem TAt.fr {w':World} {L:List Nat} (h:TAt w k f) (hf:Fr L w w') (hk:k∉L):TAt w' k f:=by obtain ⟨g,hB,hv⟩:=h; exact ⟨g,hB.fr hf hk,hv⟩
theorem TAt.fr0 {w':World} (h:TAt w k f) (hf:Fr [] w w'):TAt w' k f:=h.fr hf (by simp)
theorem TAt.ldF (h:TAt w k f):Ld Tryz.prog XZ (.pointer (some ⟨k,0,none⟩)) w f.a:=by
  obtain ⟨g,hB,hv⟩:=h
  exact LdA (m:=3) (by kernel_rfl) (by kernel_rfl) hB (o:=0) (by omega) f.v rfl fun j v hj=>by rw [Nat.zero_add]; exact hv j v hj
theorem TAt.ldG (h:TAt w k f):Ld Tryz.prog Yr (.pointer (some ⟨k,0,none⟩)) w f.a:=by
  obtain ⟨g,hB,hv⟩:=h
  exact LdA (m:=3) (by kernel_rfl) (by kernel_rfl) hB (o:=0) (by omega) f.v rfl fun j v hj=>by rw [Nat.zero_add]; exact hv j v hj
theorem TAt.ldE (h:TAt w k f):Ld Tryz.prog XgR (.pointer (some ((⟨k,0,none⟩:Addr).add 0))) w (.int .u64 (f.exp:Int)):=by
  obtain ⟨g,hB,hv⟩:=h
  rw [Xi]; exact Ld.blk (by kernel_rfl) hB (by omega) (hv 0 _ rfl)
theorem TAt.ldO (h:TAt w k f):Ld Tryz.prog Xg (.pointer (some ((⟨k,0,none⟩:Addr).add 1))) w (.slice f.p1 f.od.length f.c1):=by
  obtain ⟨g,hB,hv⟩:=h
  rw [Xi]; exact Ld.blk (by kernel_rfl) hB (by omega) (hv 1 _ rfl)
theorem TAt.ldS (h:TAt w k f):Ld Tryz.prog Xg (.pointer (some ((⟨k,0,none⟩:Addr).add 2))) w (.slice f.p2 f.sc.length f.c2):=by
  obtain ⟨g,hB,hv⟩:=h
  rw [Xi]; exact Ld.blk (by kernel_rfl) hB (by omega) (hv 2 _ rfl)
theorem Xky {t:TypeId} {K:Nat→World→Prop} (f:TF) (h:∀ w',Fr [] w w'→TAt w' w.heap.size f→w'.heap.size=w.heap.size+1→K w.heap.size w'):New #[.int .u64 (f.exp:Int),.slice f.p1 f.od.length f.c1,.slice f.p2 f.sc.length f.c2] t w K:=
  New.intro fun w1 f1 hB s1=>h w1 f1 ⟨_,hB,fun j v hj=>by
    show Array.getD ⟨f.v⟩ j undef=v
    rw [Array.getD_eq_getD_getElem?,List.getElem?_toArray,hj]; rfl⟩ s1
theorem Xjn {t:TypeId} (ht:res Tryz.prog (sizeOf t)=some 3) {g:Nat→Value} (hB:Blk w k 3 g) (f:TF) {K:World→Prop} (h:∀ w',Fr [k] w w'→TAt w' k f→w'.heap.size=w.heap.size→K w'):∃ w',Sto Tryz.prog t (.pointer (some ⟨k,0,none⟩)) f.a w w'∧K w':=
  Sto.agg (m:=3) (cs:=f.v) ht rfl hB (by omega) f.v_one fun w' hf hB' hs=>h w' hf ⟨_,hB',fun j v hj=>by
    obtain ⟨q1,q2⟩:=List.getElem?_eq_some_iff.1 hj
    unfold updN
    rw [dif_pos ⟨by omega,by omega⟩]
    simpa using q2⟩ hs
theorem Xui (f:TF) {K:Nat→World→Prop} (h:∀ w',Fr [] w w'→TAt w' w.heap.size f→K w.heap.size w') :
    ∃ z,Pu Tryz.prog (zeroValue XZ) z∧New z.cells XZ w fun k w2=>∃ w3,Sto Tryz.prog XZ (.pointer (some ⟨k,0,none⟩)) f.a w2 w3∧K k w3:=
  ZL (s:=3) (by kernel_rfl) fun w2 g2 f2 hB2 s2=>Xjn (by kernel_rfl) hB2 f fun w3 f3 hT s3=>h w3 (f2.st f3 (Nat.le_refl _)) hT
theorem Xmq {g:Nat→Value} (hB:Blk w k 3 g) (f:TF) {e:Int} (h:∀ w',Fr [k] w w'→K (.tuple #[f.a,.int .i64 e]) w') :
    ∃ w2,Sto Tryz.prog XZ (.pointer (some ⟨k,0,none⟩)) f.a w w2∧∃ (a4:Addr) (v4:Value),(.pointer (some ⟨k,0,none⟩):Value)=.pointer (some a4)∧(loadVar XZ a4).run Tryz.prog w2=.ok v4 w2∧K (.tuple #[v4,.int .i64 e]) w2:=
  Xjn (by kernel_rfl) hB f fun w3 f3 hT s3=>⟨_,_,rfl,hT.ldF,h w3 f3⟩
def Zd (f:TF):Prop:=20<f.od.length∨20<f.sc.length
instance (f:TF):Decidable (Zd f):=by unfold Zd; infer_instance
theorem Xlm (hk:∀ w',Fr [] w w'→K (.bool (decide (Zd f))) w'):Xa Tryz.prog Xda #[f.a] w K:=by
  apply Xa0
  unfold WZ
  refine Xky f fun w1 f1 hT s1=>⟨_,_,_,hT.ldO,_,_,_,hT.ldS,_,XuE,?_⟩
  have:=hk w1 f1
  have e:decide (Zd f)=decide (max (f.od.length:Int) (f.sc.length:Int) > 20):=by
    apply decide_eq_decide.2; unfold Zd; omega
  rw [e] at this; exact this
def US (f:TF):List UInt8:=X6 f.exp 8++(UInt8.ofNat f.od.length::f.od)++(UInt8.ofNat f.sc.length::f.sc)
def Xfh (f:TF):Int:=if Zd f then 15 else 0
def Xfi (f:TF):List UInt8:=if Zd f then [] else US f
theorem XaG (f:TF):(US f).length=10+f.od.length+f.sc.length:=by simp [US,Y7]; omega
theorem Xta (hf:TF.ok w f) (hk:∀ q d w',Fr [] w w'→OB w' q (Xfi f).length d (Xfi f) w.heap.size→K (.tuple #[.slice q (Xfi f).length d,.int .i64 (Xfh f)]) w'):Xa Tryz.prog Xnx #[f.a] w K:=by
  apply XiS
  unfold XiR
  refine Xky f fun w1 f1 hT s1=>⟨_,_,_,_,_,_,_,hT.ldF,Xlm fun w2 f2=>⟨_,rfl,?_⟩⟩
  have f02:=f1.then f2
  unfold Xfi Xfh at hk
  by_cases hl:Zd f
  · rw [if_pos hl,if_pos hl] at hk
    rw [decide_eq_true hl]
    exact X2 (hk none 0 w2 f02 (OB.nil _ _))
  · rw [if_neg hl,if_neg hl] at hk
    rw [decide_eq_false hl]
    have hl':f.od.length≤20∧f.sc.length≤20:=by unfold Zd at hl; omega
    have hT2:=hT.fr0 f2
    obtain ⟨k1,hk1⟩:∃ k,k=w.heap.size:=⟨_,rfl⟩
    rw [← hk1] at hT2 ⊢
    refine Xz ⟨fun w'=>FrA w2.heap.size w2 w',Drw.intro fun w3 f3 s3=>?_⟩
    have hkl:=hT2.lt
    have keep:∀ {w'},FrA w2.heap.size w2 w'→TAt w' k1 f:=fun {w'} ⟨L,h1,h2⟩=>hT2.fr h2 fun hm=>by have:=h1 _ hm; omega
    refine ⟨_,⟨FrA.of0 f3,fun w' hw'=>(keep hw').ldE⟩,_,_,_,⟨FrA.of0 f3,fun w' hw'=>(keep hw').ldO⟩,_,_,_,⟨FrA.of0 f3,fun w' hw'=>(keep hw').ldS⟩,?_⟩
    have f03:=f02.then f3
    refine XpC fun w4 f4 hW4 s4=>⟨_,rfl,.inr ((FrA.of0 f3).trans (FrA.of0 f4)),?_⟩
    obtain ⟨b,hb⟩:∃ b,b=w3.heap.size:=⟨_,rfl⟩
    rw [← hb] at hW4 ⊢
    have hb2:w2.heap.size≤b:=by have:=f3.size; omega
    have hq1:0<f.od.length→∀ z∈Xb f.p1,z<b:=Xrp (hf.r1) (by have:=f03.size; omega)
    have hq2:0<f.sc.length→∀ z∈Xb f.p2,z<b:=Xrp (hf.r2) (by have:=f03.size; omega)
    refine Xqg (n:=f.exp) (size:=8) hW4 (by omega) (by have:=hf.e; simpa using this) (by simp) fun w5 f5 hW5=>⟨_,rfl,.inr (((FrA.of0 f3).trans (FrA.of0 f4)).trans (f5.mono hb2)),?_⟩
    have fa5:FrA b w3 w5:=(FrA.of0 f4).trans f5
    refine Xlf hW5 (fa5.row (hf.r1.fr0 f03) hq1) rfl hf.h1 (by omega) hq1 (by simp [Y7]) fun w6 f6 hW6=>⟨_,rfl,.inr ((FrA.of0 f3).trans ((fa5.trans f6).mono hb2)),?_⟩
    have fa6:=fa5.trans f6
    refine Xlf hW6 (fa6.row (hf.r2.fr0 f03) hq2) rfl hf.h2 (by omega) hq2 (by simp [Y7]; omega) fun w7 f7 hW7=>⟨_,rfl,?_⟩
    have fa7:=fa6.trans f7
    have eT:[]++X6 f.exp 8++UInt8.ofNat f.od.length::f.od++UInt8.ofNat f.sc.length::f.sc=US f:=by simp [US]
    rw [eT] at hW7
    have hll:=XaG f
    have f07:Fr [] w w7:=fa7.news f03 (by have:=f03.size; omega)
    refine Xt2 hW7 (by omega) fun q d w8 f8 hO8=>⟨_,_,_,_,rfl,?_⟩
    exact hk q d w8 (f07.then f8) (hO8.mono f07.size)
structure UT where
  e:Int
  exp:Nat
  od:List UInt8
  sc:List UInt8
def UT.bad (e:Int):UT:=⟨e,0,[],[]⟩
def Zx (b:List UInt8):UT:=
  if U1 (XB (XB (Yb 8 (0,b)).2).2).2≠0 then .bad (U1 (XB (XB (Yb 8 (0,b)).2).2).2)
  else if 20<(XB (Yb 8 (0,b)).2).1.length∨20<(XB (XB (Yb 8 (0,b)).2).2).1.length then .bad 10
  else ⟨0,(Yb 8 (0,b)).1,(XB (Yb 8 (0,b)).2).1,(XB (XB (Yb 8 (0,b)).2).2).1⟩
def TF.ut (f:TF) (e:Int):UT:=⟨e,f.exp,f.od,f.sc⟩
theorem Xqo (s:Int×List UInt8):(Yb 8 s).1<18446744073709551616:=by
  unfold Yb
  split
  · rename_i h
    have:=Ji (s.2.take 8)
    rw [List.length_take,Nat.min_eq_left h.2] at this
    exact this
  · show 0<_; omega
theorem XoI (k:Nat) (s:Int×List UInt8):(Yb k s).2.2.length≤s.2.length:=by unfold Yb; split <;> simp
theorem Xjo (s:Int×List UInt8):(XB s).2.2.length≤s.2.length∧(XB s).1.length≤255:=by
  unfold XB
  split
  · refine ⟨by simp,?_⟩
    show ((s.2.drop 1).take (fl s.2 0).toNat).length≤255
    have:=(fl s.2 0).toNat_lt
    rw [List.length_take]; omega
  · simp
theorem XpI {p:Option Addr} {l c:Nat} {b:List UInt8} (hR:Row w p (b.map vb)) (hl:l=b.length) (hc:l≤c) (hlb:b.length≤1000000)
    (hk:∀ u w',Fr [] w w'→TF.own w' u w.heap.size→u.ut (Zx b).e=Zx b→K (.tuple #[u.a,.int .i64 (Zx b).e]) w'):Xa Tryz.prog XjH #[.slice p l c] w K:=by
  apply XfL
  unfold XeL
  refine ZL (s:=3) (by kernel_rfl) fun w1 g1 f1 hB1 s1=>?_
  obtain ⟨k2,hk2⟩:∃ k,k=w.heap.size:=⟨_,rfl⟩
  rw [← hk2] at hB1 ⊢
  refine Xro (hR.fr0 f1) hl hc fun w2 f2 hR2 s2=>⟨_,rfl,?_⟩
  obtain ⟨r,hr⟩:∃ r,r=w1.heap.size:=⟨_,rfl⟩
  rw [← hr] at hR2 ⊢
  obtain ⟨n,hn⟩:∃ n,n=Yb 8 (0,b):=⟨_,rfl⟩
  refine Xt3 hR2 8 (by omega) hlb fun w3 f3 hR3=>⟨_,rfl,?_⟩
  have hlt:=Xqo (0,b)
  have n1:(Yb 8 (0,b)).2.2.length≤b.length:=XoI 8 (0,b)
  rw [← hn] at hR3 hlt n1 ⊢
  obtain ⟨o,ho⟩:∃ o,o=XB n.2:=⟨_,rfl⟩
  have hn2:(n.2.1,n.2.2)=n.2:=rfl
  refine Xjb hR3 (by omega) fun q4 d4 w4 f4 hR4 hO4=>⟨_,_,_,rfl,?_⟩
  have o1:=(Xjo n.2).1
  rw [hn2,← ho] at hR4 hO4
  rw [hn2,← ho]
  rw [← ho] at o1
  obtain ⟨s,hs⟩:∃ s,s=XB o.2:=⟨_,rfl⟩
  have ho2:(o.2.1,o.2.2)=o.2:=rfl
  refine Xjb hR4 (by omega) fun q5 d5 w5 f5 hR5 hO5=>⟨_,_,_,rfl,?_⟩
  rw [ho2,← hs] at hR5 hO5
  rw [ho2,← hs]
  have m1:=f1.size; have m2:=f2.size; have m3:=f3.size; have m4:=f4.size; have m5:=f5.size
  have hO45:=hO4.fr_sep f5 (by omega)
  obtain ⟨u,hu⟩:∃ u:TF,u=⟨n.1,o.1,s.1,q4,d4,q5,d5⟩:=⟨_,rfl⟩
  have hua:(.agg #[.int .u64 (n.1:Int),.slice q4 o.1.length d4,.slice q5 s.1.length d5]:Value)=u.a:=by rw [hu]; rfl
  rw [hua]
  have f05:Fr [] w w5:=(((f1.then f2).trans f3 (fun z hz=>.inr (by simp at hz; omega))).trans f4 (fun z hz=>.inr (by simp at hz; omega))).trans f5 (fun z hz=>.inr (by simp at hz; omega))
  have hU5:TF.own w5 u (w1.heap.size+1):=by rw [hu]; exact ⟨hO45.mono (by omega),hO5.mono (by omega),hlt⟩
  refine Xui u fun w7 f7 hT7=>?_
  obtain ⟨k5,hk5⟩:∃ k,k=w5.heap.size:=⟨_,rfl⟩
  rw [← hk5] at hT7 ⊢
  have hR7:=hR5.fr0 f7
  refine Xvc hR7 fun w8 f8 _=>⟨_,rfl,?_⟩
  have f05':Fr [] w w8:=(f05.then f7).trans f8 (fun z hz=>.inr (by simp at hz; omega))
  have hr8:r<w5.heap.size:=hR5.lt
  have hT8:=hT7.fr f8 (by simp; omega)
  have hU8:=(hU5.fr0 f7).fr_sep f8 (by omega)
  have ee:(if s.2.1=0 then (if s.2.2.length=0 then 0 else 10) else s.2.1)=U1 s.2:=rfl
  rw [ee]
  have hut:Zx b=if U1 s.2≠0 then .bad (U1 s.2) else if 20<o.1.length∨20<s.1.length then .bad 10 else ⟨0,n.1,o.1,s.1⟩:=by
    rw [hs,ho,hn]; rfl
  have hB8:Blk w8 k2 3 g1:=by
    have h5:Blk w5 k2 3 g1:=(((hB1.fr0 f2).fr f3 (by simp; omega)).fr f4 (by simp; omega)).fr f5 (by simp; omega)
    exact (h5.fr0 f7).fr f8 (by simp; omega)
  have bad:∀ (w9:World) (e:Int),Fr [] w8 w9→Zx b=.bad e→∃ w2,Sto Tryz.prog XZ (.pointer (some ⟨k2,0,none⟩)) tf0.a w9 w2∧∃ (a4:Addr) (v4:Value),(.pointer (some ⟨k2,0,none⟩):Value)=.pointer (some a4)∧(loadVar XZ a4).run Tryz.prog w2=.ok v4 w2∧K (.tuple #[v4,.int .i64 e]) w2:=by
    intro w9 e f9 hbe
    refine Xmq (hB8.fr0 f9) tf0 fun w10 f10=>?_
    have:=hk tf0 w10 ((f05'.then f9).st f10 (by omega)) (Xfg _ _) (by rw [hbe]; rfl)
    rw [hbe] at this; exact this
  refine XF (fun he=>?_) fun he=>?_
  · exact bad w8 _ (Fr.refl _ _) (by rw [hut,if_pos he])
  · refine ⟨_,_,_,_,_,_,_,hT8.ldF,Xlm fun w9 f9=>⟨_,rfl,?_⟩⟩
    have hlu:Zd u↔(20<o.1.length∨20<s.1.length):=by rw [hu]; rfl
    by_cases hl:Zd u
    · rw [decide_eq_true hl]
      exact X2 (bad w9 10 f9 (by rw [hut,if_neg (fun hh=>hh he),if_pos (hlu.1 hl)]))
    · rw [decide_eq_false hl]
      have hok:Zx b=⟨0,n.1,o.1,s.1⟩:=by rw [hut,if_neg (fun hh=>hh he),if_neg (fun hh=>hl (hlu.2 hh))]
      refine Xz ⟨_,_,_,_,_,_,_,(hT8.fr0 f9).ldF,?_⟩
      refine Xmq (hB8.fr0 f9) u fun w10 f10=>?_
      have:=hk u w10 ((f05'.then f9).st f10 (by omega)) (((hU8.fr0 f9).fr_sep f10 (by omega)).mono (by omega)) (by rw [hok,hu]; rfl)
      rw [hok] at this; exact this
theorem Xln {p q:Option Addr} {l c m d:Nat} {xs ys:List UInt8} (hx:Row w p (xs.map vb)) (hl:l=xs.length) (hy:Row w q (ys.map vb)) (hm:m=ys.length) (hk:K (.bool (decide (xs=ys))) w):Xa Tryz.prog Xlw #[.slice p l c,.slice q m d] w K:=by
  apply Xg9
  unfold Xgi
  refine ⟨_,_,Ef.toStr (by kernel_rfl) hx hl,_,_,Ef.toStr (by kernel_rfl) hy hm,_,_,Ef.strEq,?_⟩
  rw [XuQ]; exact hk
theorem Xtb {g:TF} (hf:TF.ok w f) (hg:TF.ok w g) (hk:∀ w',Fr [] w w'→K (.bool (decide (f.exp=g.exp∧f.od=g.od∧f.sc=g.sc))) w'):Xa Tryz.prog Xnv #[f.a,g.a] w K:=by
  apply XiQ
  unfold XiP
  refine Xky f fun w1 f1 hT1 s1=>Xky g fun w2 f2 hT2 s2=>?_
  have f02:=f1.then f2
  have hT12:=hT1.fr0 f2
  have hf2:=hf.fr0 f02; have hg2:=hg.fr0 f02
  refine ⟨_,hT12.ldE,_,hT2.ldE,Yn (fun h1=>?_) fun h1=>?_⟩
  · refine ⟨_,_,_,hT12.ldO,_,_,_,hT2.ldO,Xln hf2.r1 rfl hg2.r1 rfl ⟨_,rfl,?_⟩⟩
    refine Xc (fun h2=>?_) fun h2=>?_
    · refine ⟨_,_,_,hT12.ldS,_,_,_,hT2.ldS,Xln hf2.r2 rfl hg2.r2 rfl ⟨_,rfl,?_⟩⟩
      have:=hk w2 f02
      have e:decide (f.exp=g.exp∧f.od=g.od∧f.sc=g.sc)=decide (f.sc=g.sc):=by
        apply decide_eq_decide.2; exact ⟨fun h=>h.2.2,fun h=>⟨by omega,h2,h⟩⟩
      rw [e] at this; exact this
    · have:=hk w2 f02
      rw [decide_eq_false (fun h=>h2 h.2.1)] at this; exact this
  · have:=hk w2 f02
    rw [decide_eq_false (fun h=>h1 (by rw [h.1]))] at this; exact this
theorem Xlo {n:Nat} (hn:n<256) {p:Option Addr} {l c:Nat} {xs:List UInt8} (hR:Row w p (xs.map vb)) (hl:l=xs.length) (hc:l≤c) (hlb:l≤1000000)
    (hk:∀ q d w',Fr [] w w'→OB w' q (UInt8.ofNat n::xs).length d (UInt8.ofNat n::xs) w.heap.size→K (.slice q (UInt8.ofNat n::xs).length d) w'):Xa Tryz.prog Xny #[.int .i64 (n:Int),.slice p l c] w K:=by
  apply XiU
  unfold XiT
  have ew:IntKind.u8.wrap (n:Int)=((UInt8.ofNat n).toNat:Int):=by rw [Xhs (by omega) (by omega)]; simp; omega
  rw [ew]
  refine mk1 (x:=UInt8.ofNat n) fun p1 w1 f1 h1 s1=>?_
  refine ⟨_,_,_,Ef.new (v:=.slice (some ⟨w1.heap.size,0,none⟩) 2 2) (cs:=([.slice p1 1 1,.slice p l c]:List Value).toArray) (e:=Xg) (by kernel_rfl) fun w2 f2 hB2 s2=>?_⟩
  have hR2:=RowB.of2 hB2.rowL ((h1.fr0 f2).byS) (byS ((hR.fr0 f1).fr0 f2) hl hc)
  have efl:[[UInt8.ofNat n],xs].flatten=UInt8.ofNat n::xs:=by simp
  refine Wv (l:=2) hR2 rfl (by rw [efl,List.length_cons]; omega) (by omega) fun q d w3 f3 hO3=>⟨_,_,_,rfl,?_⟩
  rw [efl] at hO3
  rw [efl]
  exact hk q d w3 ((f1.then f2).then f3) (hO3.mono (f1.then f2).size)
end
end Go.Sh
end

section
namespace Go.Sh
open Go Go.Fw Go.Proofs
set_option maxRecDepth 100000
set_option linter.unusedVariables false
theorem XcQ {n:Int} {A B:Prop} (h:n≠0) (ha:A):cond (n != 0) A B:=by
  have:(n != 0)=true:=by simpa using h
  rw [this]; exact ha
def Vz (ks:List KE) (s:Int):List UInt8:=((ks[YA ks s]?).map KE.key).getD []
theorem Xqp {es:List RE} {s:Int} {e:RE} (he:es[YA (es.map RE.ke) s]?=some e):Vz (es.map RE.ke) s=e.key:=by
  unfold Vz
  rw [XoC he]; rfl
def Z7 (ks:List KE) (s:Int) (nonce client:List UInt8) (f:TF):Int:=if ¬ XT ks s then 17 else if nonce.length≠12∨64<client.length then 11 else if Zd f then 15 else 0
def UU (ks:List KE) (s:Int) (nonce client:List UInt8) (f:TF):List UInt8:=
  if Z7 ks s nonce client f=0 then UInt8.ofNat s.toNat::(nonce++slL (Vz ks s) nonce (US f) (UInt8.ofNat s.toNat::client)) else []
section
variable {w:World} {K:VWP} {b lo:Nat} {p:Option Addr} {es:List RE} {N:Int}
theorem Xwz (key nonce text note:List UInt8):(slL key nonce text note).length≤text.length+16:=by
  unfold slL
  split
  · rw [List.length_append,YQ,Jr]; omega
  · simp
theorem Xtc (hR:RingAt w b p es N lo) (hN:N<100000000) {s:Int} {p2 p3:Option Addr} {l2 c2 l3 c3:Nat} {nonce client:List UInt8} {f:TF} (h2:Row w p2 (nonce.map vb)) (hl2:l2=nonce.length) (hc2:l2≤c2) (hb2:l2≤1000000) (hq2:0<nonce.length→∀ z∈Xb p2,¬ inR es z)
    (h3:Row w p3 (client.map vb)) (hl3:l3=client.length) (hc3:l3≤c3) (hb3:l3≤1000000) (hf:TF.ok w f)
    (hk:∀ q d L w',(∀ z∈L,inR es z)→Fr L w w'→RingAt w' b p es (N+1) lo→OB w' q (UU (es.map RE.ke) s nonce client f).length d (UU (es.map RE.ke) s nonce client f) w.heap.size→K (.tuple #[.slice q (UU (es.map RE.ke) s nonce client f).length d,.int .i64 (Z7 (es.map RE.ke) s nonce client f)]) w') :
    Xa Tryz.prog Xns #[.pointer (some ⟨b,0,none⟩),.int .i64 s,.slice p2 l2 c2,.slice p3 l3 c3,f.a] w K:=by
  apply XiM
  unfold XiL
  have bad:∀ (e:Int) w',Z7 (es.map RE.ke) s nonce client f=e→e≠0→Fr [] w w'→K (.tuple #[.slice none 0 0,.int .i64 e]) w':=by
    intro e w' he h0 f'
    have h1:UU (es.map RE.ke) s nonce client f=[]:=by unfold UU; rw [if_neg (by rw [he]; exact h0)]
    have:=hk none 0 [] w' (by simp) f' ((hR.fr0 f').mono (by omega))
    rw [h1,he] at this
    exact this (OB.nil _ _)
  refine Xky f fun w1 f1 hT s1=>?_
  refine Xli (hR.fr0 f1) (fun e w2 hs hem hei hes f2=>⟨_,_,rfl,Xz ?_⟩) fun w2 hs f2=>⟨_,_,rfl,X2 (bad 17 w2 (by unfold Z7; rw [if_pos hs]) (by omega) (f1.then f2))⟩
  have f02:=f1.then f2
  have hs':¬ ¬ XT (es.map RE.ke) s:=fun hh=>hh hs
  refine XF (fun hne=>bad 11 w2 (by unfold Z7; rw [if_neg hs',if_pos (.inl (by omega))]) (by omega) f02) fun h12=>?_
  refine Xc (fun h64=>bad 11 w2 (by unfold Z7; rw [if_neg hs',if_pos (.inr (by omega))]) (by omega) f02) fun h64=>?_
  have hin:¬ (nonce.length≠12∨64<client.length):=by omega
  unfold Xc5
  refine ⟨_,_,_,_,_,_,_,(hT.fr0 f2).ldF,Xta (hf.fr0 f02) fun qt dt w3 f3 hO3=>⟨_,_,_,_,rfl,?_⟩⟩
  have f03:=f02.then f3
  by_cases hl:Zd f
  · have et:Xfh f=15:=by unfold Xfh; rw [if_pos hl]
    rw [et]
    exact X2 (bad 15 w3 (by unfold Z7; rw [if_neg hs',if_neg hin,if_pos hl]) (by omega) f03)
  · have et:Xfh f=0:=by unfold Xfh; rw [if_neg hl]
    have er:Xfi f=US f:=by unfold Xfi; rw [if_neg hl]
    have eE:Z7 (es.map RE.ke) s nonce client f=0:=by unfold Z7; rw [if_neg hs',if_neg hin,if_neg hl]
    have eL:UU (es.map RE.ke) s nonce client f=UInt8.ofNat e.sq::(nonce++slL e.key nonce (US f) (UInt8.ofNat e.sq::client)):=by
      unfold UU; rw [if_pos eE,Xqp hei,← hes,Int.toNat_natCast]
    rw [eE,eL] at hk
    rw [er] at hO3
    rw [et,er]
    have hsq:=(hR.ent e hem).2.2
    have ehi:=(hR.ent e hem).1.lh
    rw [← hes]
    have hll:=XaG f
    have hlf:f.od.length≤20∧f.sc.length≤20:=by unfold Zd at hl; omega
    refine Xz (Xlo (n:=e.sq) (by omega) (h3.fr0 f03) hl3 hc3 hb3 fun qn dn w4 f4 hO4=>⟨_,_,_,rfl,?_⟩)
    have f04:=f03.then f4
    have hR4:=hR.fr0 f04
    obtain ⟨n,hb,n0,n1,hX,hhb,hkl,hkp⟩:=hR4.box hem
    have n03:=f03.size; have n04:=f04.size
    refine Xvw hX (by omega) (h2.fr0 f04) hl2 hc2 hb2 (hO3.fr0 f4).row rfl hO3.cap hO4.row rfl hO4.cap (.inr fun k hk'=>by have:=hO4.2.2 k hk'; omega) fun qs ds w5 f5 hX5 hO5=>⟨_,_,_,_,rfl,?_⟩
    have hR5:=hR4.after hem hhb hkp f5 (show N≤N+1 by omega) n0 (by omega) hX5
    have hLin:∀ z∈rg e.lo hb,inR es z:=fun z hz=>⟨e,hem,by have:=Wy.1 hz; omega⟩
    have h25:Row w5 p2 (nonce.map vb):=Zz (h2.fr0 f04) f5 fun h0 z hz hm=>hq2 h0 z hz (hLin z hm)
    have ew:IntKind.u8.wrap (e.sq:Int)=((UInt8.ofNat e.sq).toNat:Int):=by rw [Xhs (by omega) (by omega)]; simp; omega
    rw [ew]
    refine mk1 (x:=UInt8.ofNat e.sq) fun p6 w6 f6 hO6 s6=>?_
    obtain ⟨S,hS⟩:∃ S,S=slL e.key nonce (US f) (UInt8.ofNat e.sq::client):=⟨_,rfl⟩
    have hSl:=Xwz e.key nonce (US f) (UInt8.ofNat e.sq::client)
    rw [← hS] at hO5 hSl hk ⊢
    refine ⟨_,_,_,Ef.new (v:=.slice (some ⟨w6.heap.size,0,none⟩) 3 3) (cs:=([.slice p6 1 1,.slice p2 l2 c2,.slice qs S.length ds]:List Value).toArray) (e:=Xg) (by kernel_rfl) fun w7 f7 hB7 s7=>?_⟩
    have f67:=f6.then f7
    have hRB:=RowB.of3 hB7.rowL ((hO6.fr0 f7).byS) (byS (h25.fr0 f67) hl2 hc2) ((hO5.fr0 f67).byS)
    have efl:[[UInt8.ofNat e.sq],nonce,S].flatten=UInt8.ofNat e.sq::(nonce++S):=by simp
    refine Wv (l:=3) hRB rfl (by rw [efl]; simp; omega) (by omega) fun q8 d8 w8 f8 hO8=>⟨_,_,_,rfl,?_⟩
    rw [efl] at hO8
    rw [efl]
    have f58:=f67.then f8
    have f08:Fr (rg e.lo hb) w w8:=(f04.after f5).then f58
    exact hk q8 d8 _ w8 hLin f08 (hR5.fr0 f58) (hO8.mono (by have:=f67.size; have:=f5.size; omega))
def tk0 (tok:List UInt8):Nat:=(fl tok 0).toNat
def tkN (tok:List UInt8):List UInt8:=(tok.take 13).drop 1
def tkS (tok:List UInt8):List UInt8:=tok.drop 13
def YN (ks:List KE) (client tok:List UInt8):Int:=
  if tok.length<29 then 12 else if ¬ XT ks (tk0 tok:Int) then 17 else if 64<client.length∨4096<tok.length then 13
  else if opE (Vz ks (tk0 tok:Int)) (tkN tok) (tkS tok) (UInt8.ofNat (tk0 tok)::client)≠0 then 13 else 0
def Jk (ks:List KE) (client tok:List UInt8):List UInt8:=if YN ks client tok=0 then opL (Vz ks (tk0 tok:Int)) (tkN tok) (tkS tok) (UInt8.ofNat (tk0 tok)::client) else []
theorem XwA (key nonce text note:List UInt8):(opL key nonce text note).length≤text.length:=by
  unfold opL
  split
  · rw [YQ,List.length_take]; omega
  · simp
theorem XpJ (hR:RingAt w b p es N lo) (hN:N<100000000) {p1 p2:Option Addr} {l1 c1 l2 c2:Nat} {client tok:List UInt8} (h1:Row w p1 (client.map vb)) (hl1:l1=client.length) (hc1:l1≤c1) (hb1:l1≤1000000)
    (h2:Row w p2 (tok.map vb)) (hl2:l2=tok.length) (hc2:l2≤c2) (hq2:0<tok.length→∀ z∈Xb p2,¬ inR es z)
    (hk:∀ q d L w',(∀ z∈L,inR es z)→Fr L w w'→RingAt w' b p es (N+1) lo→OB w' q (Jk (es.map RE.ke) client tok).length d (Jk (es.map RE.ke) client tok) w.heap.size→K (.tuple #[.slice q (Jk (es.map RE.ke) client tok).length d,.int .i64 (YN (es.map RE.ke) client tok)]) w') :
    Xa Tryz.prog XjG #[.pointer (some ⟨b,0,none⟩),.slice p1 l1 c1,.slice p2 l2 c2] w K:=by
  apply XfK
  unfold XeK
  have bad:∀ (e:Int) L w',(∀ z∈L,inR es z)→Fr L w w'→RingAt w' b p es (N+1) lo→YN (es.map RE.ke) client tok=e→e≠0→K (.tuple #[.slice none 0 0,.int .i64 e]) w':=by
    intro e L w' hL f' hR' he h0
    have h1:Jk (es.map RE.ke) client tok=[]:=by unfold Jk; rw [if_neg (by rw [he]; exact h0)]
    have:=hk none 0 L w' hL f' hR'
    rw [h1,he] at this
    exact this (OB.nil _ _)
  refine Xc (fun h29=>bad 12 [] w (by simp) (Fr.refl _ _) (hR.mono (by omega)) (by unfold YN; rw [if_pos (by omega)]) (by omega)) fun h29=>?_
  have hn29:¬ tok.length<29:=by omega
  obtain ⟨a,ha,hca⟩:=XD (t:=Xg) (by kernel_rfl) h2 (c:=c2) hl2 (i:=0) (by omega) (k:=.i64)
  have h256:=(fl tok 0).toNat_lt
  refine ⟨_,ha,_,Ld.cell (by kernel_rfl) hca,?_⟩
  rw [Xe (by omega) (by show ((fl tok 0).toNat:Int)<_; omega)]
  have etk:(((tok.getD 0 0).toNat:Nat):Int)=(tk0 tok:Int):=rfl
  rw [etk]
  refine Xli hR (fun e w1 hs hem hei hes f1=>⟨_,_,rfl,Xz ?_⟩) fun w1 hs f1=>⟨_,_,rfl,X2 (bad 17 [] w1 (by simp) f1 ((hR.fr0 f1).mono (by omega)) (by unfold YN; rw [if_neg hn29,if_pos hs]) (by omega))⟩
  have hs':¬ ¬ XT (es.map RE.ke) (tk0 tok:Int):=fun hh=>hh hs
  have b13:(64<client.length∨4096<tok.length)→K (.tuple #[.slice none 0 0,.int .i64 13]) w1:=fun hh=>bad 13 [] w1 (by simp) f1 ((hR.fr0 f1).mono (by omega)) (by unfold YN; rw [if_neg hn29,if_neg hs',if_pos hh]) (by omega)
  refine Xc (fun h64=>b13 (.inl (by omega))) fun h64=>Xc (fun h4=>b13 (.inr (by omega))) fun h4=>?_
  have hin:¬ (64<client.length∨4096<tok.length):=by omega
  unfold XaA
  refine Drw.intro fun w2 f2 s2=>?_
  have f02:=f1.then f2
  refine Xrn (h2.fr0 f02) hl2 (a:=1) (b:=13) (by omega) (by omega) hc2 fun qa da hqa hla hda hba=>?_
  refine Ww (h2.fr0 f02) hl2 (n:=13) (by omega) hc2 fun qb db hqb hlb hdb hbb=>?_
  have hsq:=(hR.ent e hem).2.2
  have ehi:=(hR.ent e hem).1.lh
  refine Xlo (n:=tk0 tok) h256 (h1.fr0 f02) hl1 hc1 hb1 fun qn dn w3 f3 hO3=>⟨_,_,_,rfl,?_⟩
  have f03:=f02.then f3
  have hR3:=hR.fr0 f03
  obtain ⟨n,hb,n0,n1,hX,hhb,hkl,hkp⟩:=hR3.box hem
  have n03:=f02.size
  have hsp:∀ {q:Option Addr} {xs:List UInt8},(∀ z∈Xb q,z∈Xb p2)→sp e.lo hb q xs:=fun hz=>.inr fun k hk'=>by
    have:=hq2 (by omega) k (hz k hk')
    by_cases hlt:k<e.lo
    · exact .inl hlt
    · by_cases hge:hb≤k
      · exact .inr hge
      · exact absurd ⟨e,hem,by omega,by omega⟩ this
  refine Xvx hX (by omega) n0 (by omega) (hqa.fr0 f3) hla hda (by omega) (hsp hba) (hqb.fr0 f3) hlb hdb (by omega) (hsp hbb) hO3.row rfl hO3.cap (.inr fun k hk'=>by have:=hO3.2.2 k hk'; omega) fun qo do_ w4 f4 hX4 hO4=>⟨_,_,_,_,rfl,?_⟩
  have hR4:=hR3.after hem hhb hkp f4 (show N≤N+1 by omega) (by split <;> omega) (by split <;> omega) hX4
  have hLin:∀ z∈rg e.lo hb,inR es z:=fun z hz=>⟨e,hem,by have:=Wy.1 hz; omega⟩
  have f04:Fr (rg e.lo hb) w w4:=f03.after f4
  have hkey:=Xqp hei
  have eN:(tok.take 13).drop 1=tkN tok:=rfl
  have eS:tok.drop 13=tkS tok:=rfl
  rw [eN,eS,← hkey] at hO4
  rw [eN,eS,← hkey]
  by_cases h0:opE (Vz (es.map RE.ke) (tk0 tok:Int)) (tkN tok) (tkS tok) (UInt8.ofNat (tk0 tok)::client)=0
  · have eE:YN (es.map RE.ke) client tok=0:=by unfold YN; rw [if_neg hn29,if_neg hs',if_neg hin,if_neg (fun hh=>hh h0)]
    have eL:Jk (es.map RE.ke) client tok=opL (Vz (es.map RE.ke) (tk0 tok:Int)) (tkN tok) (tkS tok) (UInt8.ofNat (tk0 tok)::client):=by unfold Jk; rw [if_pos eE]
    rw [eE,eL] at hk
    rw [h0]
    exact Xz (hk qo do_ _ w4 hLin f04 hR4 (hO4.mono f03.size))
  · have eE:YN (es.map RE.ke) client tok=13:=by unfold YN; rw [if_neg hn29,if_neg hs',if_neg hin,if_pos h0]
    exact XcQ h0 (bad 13 _ w4 hLin f04 hR4 eE (by omega))
def X8 (ks:List KE) (client tok:List UInt8) (now:Nat):UT:=
  if YN ks client tok≠0 then .bad (YN ks client tok) else if (Zx (Jk ks client tok)).e≠0 then .bad (Zx (Jk ks client tok)).e
  else if (Zx (Jk ks client tok)).exp<now then .bad 20 else Zx (Jk ks client tok)
theorem Xqq (ks:List KE) (client tok:List UInt8):(Jk ks client tok).length≤tok.length:=by
  unfold Jk
  split
  · refine Nat.le_trans (XwA _ _ _ _) ?_
    unfold tkS; rw [List.length_drop]; omega
  · simp
theorem Xtd (hR:RingAt w b p es N lo) (hN:N<100000000) {p1 p2:Option Addr} {l1 c1 l2 c2 now:Nat} {client tok:List UInt8} (h1:Row w p1 (client.map vb)) (hl1:l1=client.length) (hc1:l1≤c1) (hb1:l1≤1000000)
    (h2:Row w p2 (tok.map vb)) (hl2:l2=tok.length) (hc2:l2≤c2) (hb2:l2≤1000000) (hq2:0<tok.length→∀ z∈Xb p2,¬ inR es z)
    (hk:∀ u L w',(∀ z∈L,inR es z)→Fr L w w'→RingAt w' b p es (N+1) lo→TF.own w' u w.heap.size→u.ut (X8 (es.map RE.ke) client tok now).e=X8 (es.map RE.ke) client tok now→K (.tuple #[u.a,.int .i64 (X8 (es.map RE.ke) client tok now).e]) w') :
    Xa Tryz.prog Xnt #[.pointer (some ⟨b,0,none⟩),.slice p1 l1 c1,.slice p2 l2 c2,.int .u64 (now:Int)] w K:=by
  apply XiO
  unfold XiN
  refine ZL (s:=3) (by kernel_rfl) fun w1 g1 f1 hB1 s1=>?_
  obtain ⟨k8,hk8⟩:∃ k,k=w.heap.size:=⟨_,rfl⟩
  rw [← hk8] at hB1 ⊢
  refine XpJ (hR.fr0 f1) hN (h1.fr0 f1) hl1 hc1 hb1 (h2.fr0 f1) hl2 hc2 hq2 fun q d L w2 hL f2 hR2 hO2=>⟨_,_,_,_,rfl,?_⟩
  have hLlt:∀ z∈L,z<w.heap.size:=fun z hz=>by obtain ⟨e,he,h3,h4⟩:=hL z hz; have:=(hR.ent e he).1.lh; omega
  have f02:Fr L w w2:=f1.after f2
  have hB2:=hB1.fr f2 fun hm=>by have:=hLlt _ hm; omega
  have ule:=Xqq (es.map RE.ke) client tok
  have n02:=f02.size
  have n1:=f1.size
  have hk2:=hB2.lt
  have bad:∀ (w':World) (e:Int),Fr [] w2 w'→X8 (es.map RE.ke) client tok now=.bad e→∃ w3,Sto Tryz.prog XZ (.pointer (some ⟨k8,0,none⟩)) tf0.a w' w3∧∃ (a4:Addr) (v4:Value),(.pointer (some ⟨k8,0,none⟩):Value)=.pointer (some a4)∧(loadVar XZ a4).run Tryz.prog w3=.ok v4 w3∧K (.tuple #[v4,.int .i64 e]) w3:=by
    intro w' e f' he
    have hRx:=hR2.fr0 f'
    refine Xmq (hB2.fr0 f') tf0 fun w4 f4=>?_
    have hR4:RingAt w4 b p es (N+1) lo:=hRx.fr f4 fun z hz=>by
      simp at hz
      subst hz
      exact VZ hR (by omega)
    have:=hk tf0 L w4 hL ((f02.then f').trans f4 fun z hz=>.inr (by simp at hz; omega)) hR4 (Xfg _ _) (by rw [he]; rfl)
    rw [he] at this; exact this
  by_cases hE:YN (es.map RE.ke) client tok=0
  · rw [hE]
    refine Xz (XpI hO2.row rfl hO2.cap (by omega) fun u w3 f3 hU3 hu=>⟨_,_,_,_,_,_,_,_,rfl,?_⟩)
    refine Xui u fun w4 f4 hT4=>?_
    obtain ⟨k12,hk12⟩:∃ k,k=w3.heap.size:=⟨_,rfl⟩
    rw [← hk12] at hT4 ⊢
    have f24:=f3.then f4
    refine XF (fun he=>?_) fun he=>?_
    · exact bad w4 _ f24 (by unfold X8; rw [if_neg (fun hh=>hh hE),if_pos he])
    · refine ⟨_,hT4.ldE,?_⟩
      have hue:u.exp=(Zx (Jk (es.map RE.ke) client tok)).exp:=by rw [← hu]; rfl
      refine Xc (fun hlt=>?_) fun hlt=>?_
      · exact bad w4 20 f24 (by unfold X8; rw [if_neg (fun hh=>hh hE),if_neg (fun hh=>hh he),if_pos (by omega)])
      · have hok:X8 (es.map RE.ke) client tok now=Zx (Jk (es.map RE.ke) client tok):=by unfold X8; rw [if_neg (fun hh=>hh hE),if_neg (fun hh=>hh he),if_neg (by omega)]
        unfold Xc6
        refine ⟨_,_,_,_,_,_,_,hT4.ldF,?_⟩
        have hR4:=hR2.fr0 f24
        refine Xmq (hB2.fr0 f24) u fun w5 f5=>?_
        have hR5:RingAt w5 b p es (N+1) lo:=hR4.fr f5 fun z hz=>by
          simp at hz
          subst hz
          exact VZ hR (by omega)
        have hU5:TF.own w5 u w2.heap.size:=(hU3.fr0 f4).fr_sep f5 (by omega)
        have:=hk u L w5 hL ((f02.then f24).trans f5 fun z hz=>.inr (by simp at hz; omega)) hR5 (hU5.mono n02) (by rw [hok,hu])
        rw [hok,he] at this
        exact this
  · refine XcQ hE (bad w2 _ (Fr.refl _ _) (by unfold X8; rw [if_pos hE]))
end
end Go.Sh
end

section
namespace Go.Sh
open Go Go.Fw Go.Proofs
set_option maxRecDepth 100000
set_option linter.unusedVariables false
section
variable {w:World} {K:VWP}
theorem XrI {p:Option Addr} {l c:Nat} {xs:List UInt8} (hx:Row w p (xs.map vb)) (hl:l=xs.length) (h8:l≤8) (hk:K (.tuple #[.int .u64 (Xp xs:Int),.int .i64 0]) w):Xa Tryz.prog Xpa #[.slice p l c] w K:=by
  apply Xkn
  unfold Xk2
  refine Xc (fun hh=>by omega) fun _=>?_
  refine LoopS.ind (fun k us w'=>w'=w∧∃ i:Nat,i+k=l∧us=[.slice p l c,.int .u64 0,.int .i64 0,.int .u64 (Xp (xs.take i):Int),.int .i64 (i:Int)]) l ⟨rfl,0,by omega,rfl⟩ ?_
  rintro k us rr w2 I μ hgo ⟨rfl,i,hi,rfl⟩
  refine ⟨_,_,_,_,_,_,_,rfl,Xc (fun h3=>?_) fun h3=>?_⟩
  · obtain ⟨a,ha,hca⟩:=XD (t:=Xg) (by kernel_rfl) hx (c:=c) hl (i:=i) (by omega) (k:=.i64)
    refine ⟨_,ha,_,Ld.cell (by kernel_rfl) hca,?_⟩
    have hlt:=Ji (xs.take i)
    rw [List.length_take,Nat.min_eq_left (by omega)] at hlt
    have hle:256 ^ i≤256 ^ 7:=Nat.pow_le_pow_right (by omega) (by omega)
    have h7:(256:Nat) ^ 7=72057594037927936:=by decide
    have hb:=(fl xs i).toNat_lt
    have hb':((xs.getD i 0).toNat:Int)=((fl xs i).toNat:Int):=rfl
    have ew:IntKind.u64.wrap (IntKind.u64.wrap ((Xp (xs.take i):Int)*256)+IntKind.u64.wrap ((xs.getD i 0).toNat:Int))=(Xp (xs.take (i+1)):Int):=by
      rw [hb',XC (n:=(Xp (xs.take i):Int)*256) (by omega) (by omega),XC (n:=((fl xs i).toNat:Int)) (by omega) (by omega),XC (by omega) (by omega),XeT xs (by omega)]
      omega
    rw [ew,Xe (by omega) (by omega)]
    exact hgo _ _ _ (k - 1) (by omega) ⟨rfl,i+1,by omega,rfl⟩
  · have hil:i=l:=by omega
    subst hil
    rw [List.take_of_length_le (by omega)]
    exact hk
end
def RrAt (w:World) (b:Nat) (err:Int) (rest:List UInt8):Prop:=
  ∃ f p c,Blk w b 2 f∧f 0=.slice p rest.length c∧f 1=.int .i64 err∧rest.length≤c∧Row w p (rest.map vb)∧(0<rest.length→∀ z∈Xb p,z<b)
def YW (k:Nat) (s:Int×List UInt8):List UInt8×(Int×List UInt8):=if s.1=0∧k≤s.2.length then (s.2.take k,(0,s.2.drop k)) else ([],(if s.1=0 then 12 else s.1,s.2))
section
variable {w:World} {b:Nat} {err:Int} {rest:List UInt8} {K:VWP}
theorem RrAt.lt (h:RrAt w b err rest):b<w.heap.size:=by obtain ⟨f,p,c,hB,_⟩:=h; exact hB.lt
theorem RrAt.fr {w':World} {L:List Nat} (h:RrAt w b err rest) (hf:Fr L w w') (hL:∀ z∈L,b<z):RrAt w' b err rest:=by
  obtain ⟨f,p,c,hB,h0,h1,hc,hR,hn⟩:=h
  exact ⟨f,p,c,hB.fr hf (fun hb=>by have:=hL b hb; omega),h0,h1,hc,Zz hR hf (fun h0 z hz hz'=>by have:=hL z hz'; have:=hn h0 z hz; omega),hn⟩
theorem RrAt.fr0 {w':World} (h:RrAt w b err rest) (hf:Fr [] w w'):RrAt w' b err rest:=h.fr hf (by simp)
theorem XvD {t:TypeId} {p:Option Addr} {l c:Nat} {xs:List UInt8} (hR:Row w p (xs.map vb)) (hl:l=xs.length) (hc:l≤c) {K:Nat→World→Prop} (h:∀ w',Fr [] w w'→RrAt w' w.heap.size 0 xs→w'.heap.size=w.heap.size+1→K w.heap.size w'):New #[.slice p l c,.int .i64 0] t w K:=
  New.intro fun w1 f1 hB s1=>h w1 f1 ⟨_,p,c,hB,by rw [← hl]; rfl,rfl,by omega,hR.fr0 f1,fun h0 z hz=>Row.blk_lt hR h0 _ hz⟩ s1
theorem XrJ (h:RrAt w b err rest) (e:Int) {K:World→Prop} (hk:∀ w',Fr [b] w w'→RrAt w' b e rest→K w'):∃ w',Sto Tryz.prog Xf2 (.pointer (some ((⟨b,0,none⟩:Addr).add 1))) (.int .i64 e) w w'∧K w':=by
  obtain ⟨f,p,c,hB,h0,h1,hc,hR,hn⟩:=h
  rw [Xi]
  refine Sto.blk (by kernel_rfl) hB (by omega) rfl rfl fun w1 f1 hB1 s1=>hk w1 f1 ⟨_,p,c,hB1,by rw [upd_ne _ _ _ (by omega)]; exact h0,upd_same _ _ _,hc,Zz hR f1 (fun hh z hz hm=>by have:=hn hh z hz; simp at hm; omega),hn⟩
theorem RrAt.ldE (h:RrAt w b err rest):Ld Tryz.prog Xf2 (.pointer (some ((⟨b,0,none⟩:Addr).add 1))) w (.int .i64 err):=by
  obtain ⟨f,p,c,hB,h0,h1,hc,hR,hn⟩:=h
  rw [Xi]; exact Ld.blk (by kernel_rfl) hB (by omega) h1
theorem Xlp (h:RrAt w b err rest) (n:Nat) (hn:n<1000000000) (hlb:rest.length≤1000000)
    (hk:∀ q d w',Fr [b] w w'→RrAt w' b (YW n (err,rest)).2.1 (YW n (err,rest)).2.2→OB w' q (YW n (err,rest)).1.length d (YW n (err,rest)).1 w.heap.size→K (.slice q (YW n (err,rest)).1.length d) w') :
    Xa Tryz.prog Xca #[.pointer (some ⟨b,0,none⟩),.int .i64 (n:Int)] w K:=by
  apply Q5
  unfold Wp
  have a0:(⟨b,0,none⟩:Addr).add 0=⟨b,0,none⟩:=rfl
  have main:Y3 (some ⟨b,0,none⟩) (n:Int) none 0 0 false w K:=by
    unfold Y3
    refine Xz ?_
    unfold Jg
    refine ⟨_,rfl,_,h.ldE,?_⟩
    have bad:∀ (w':World) (e:Int),Fr [b] w w'→RrAt w' b e rest→e≠0→YW n (err,rest)=([],(e,rest))→Yt (some ⟨b,0,none⟩) (n:Int) none 0 0 w' K:=by
      intro w' e f' h' he hp
      unfold Yt
      rw [hp] at hk
      exact ⟨_,rfl,_,h'.ldE,XF (fun _=>hk none 0 w' f' h' (OB.nil _ _)) fun hh=>absurd hh he⟩
    refine Yn (fun he=>?_) fun he=>?_
    · subst he
      have h':=h
      obtain ⟨f,p,c,hB,h0,h1,hc,hR,hnb⟩:=h
      refine ⟨_,rfl,?_⟩
      rw [a0]
      refine ⟨_,_,_,Ld.blk (by kernel_rfl) hB (by omega) h0,?_⟩
      unfold Y2
      refine Xc (fun hgt=>?_) fun hle=>?_
      · refine ⟨_,rfl,XrJ h' 12 fun w1 f1 h1'=>?_⟩
        exact bad w1 12 f1 h1' (by omega) (by unfold YW; rw [if_neg (by show ¬ ((0:Int)=0∧n≤rest.length); omega)]; rfl)
      · have hp:YW n (0,rest)=(rest.take n,(0,rest.drop n)):=by unfold YW; rw [if_pos (by show (0:Int)=0∧n≤rest.length; omega)]
        rw [hp] at hk
        unfold Yt
        refine ⟨_,rfl,_,h'.ldE,Xz ?_⟩
        refine mk0 fun p1 w1 f1 hO1 s1=>⟨_,rfl,?_⟩
        rw [a0]
        refine ⟨_,_,_,Ld.blk (by kernel_rfl) (hB.fr0 f1) (by omega) h0,?_⟩
        refine XeU (hR.fr0 f1) rfl (n:=n) (by omega) hc fun q2 d2 hq2 hl2 hd2 hb2=>?_
        refine JW (m:=n) hO1 (by omega) hq2 hl2 (by omega) fun p3 c3 w3 f3 hO3=>⟨_,rfl,?_⟩
        have f03:Fr [] w w3:=f1.trans f3 fun z hz=>.inr (hO1.2.2 z hz)
        rw [a0]
        have hB3:=hB.fr0 f03
        refine ⟨_,_,_,Ld.blk (by kernel_rfl) hB3 (by omega) h0,?_⟩
        refine Ww (hR.fr0 f03) rfl (n:=n) (by omega) hc fun q4 d4 hq4 hl4 hd4 hb4=>⟨_,rfl,?_⟩
        rw [a0]
        refine Sto.blk (by kernel_rfl) hB3 (by omega) rfl rfl fun w5 f5 hB5 s5=>?_
        have hbl:=hB.lt
        rw [Nat.zero_add,List.nil_append] at hO3
        rw [Nat.zero_add]
        have el:(rest.take n).length=n:=hl2.symm
        have:=hk p3 c3 w5 (f03.after f5) ⟨_,q4,d4,hB5,by rw [upd_same,hl4],by rw [upd_ne _ _ _ (by omega)]; exact h1,by show (rest.drop n).length≤d4; omega,Zz hq4 f5 (fun hh z hz hm=>by have:=hnb (by rw [List.length_drop] at hh; omega) z (hb4 z hz); simp at hm; omega),fun hh z hz=>hnb (by rw [List.length_drop] at hh; omega) z (hb4 z hz)⟩ (by rw [el]; exact hO3.fr_sep f5 (by omega))
        rw [el] at this
        exact this
    · unfold Y2
      refine Xz (bad w err (Fr.refl _ _) h he (by unfold YW; rw [if_neg (by show ¬ (err=0∧n≤rest.length); omega)]; show ([],(if err=0 then 12 else err,rest))=_; rw [if_neg he]))
  refine ⟨_,rfl,_,h.ldE,Yn (fun he=>?_) fun _=>main⟩
  have e0:decide ((n:Int)<0)=false:=decide_eq_false (by omega)
  rw [e0]; exact main
theorem XrK (k:Nat) (s:Int×List UInt8):Yb k s=(Xp (YW k s).1,(YW k s).2):=by
  unfold Yb YW
  split <;> rfl
theorem Xqr (h:RrAt w b err rest) (n:Nat) (h8:n≤8) (hlb:rest.length≤1000000)
    (hk:∀ w',Fr [b] w w'→RrAt w' b (Yb n (err,rest)).2.1 (Yb n (err,rest)).2.2→K (.int .u64 ((Yb n (err,rest)).1:Int)) w'):Xa Tryz.prog Xd5 #[.pointer (some ⟨b,0,none⟩),.int .i64 (n:Int)] w K:=by
  apply XbK
  unfold QJ
  have main:YK (some ⟨b,0,none⟩) (n:Int) 0 false w K:=by
    unfold YK
    refine Xz ?_
    unfold JS
    refine Xlp h n (by omega) hlb fun q d w1 f1 h1 hO1=>⟨_,_,_,rfl,?_⟩
    have hle:(YW n (err,rest)).1.length≤8:=by
      unfold YW
      split
      · show (rest.take n).length≤8; rw [List.length_take]; omega
      · simp
    refine XrI hO1.row rfl hle ⟨_,_,rfl,?_⟩
    rw [XrK] at hk
    exact hk w1 f1 h1
  have e0:decide ((n:Int)<0)=false:=decide_eq_false (by omega)
  have e8:decide ((n:Int) > 8)=false:=decide_eq_false (by omega)
  refine ⟨_,rfl,_,h.ldE,Yn (fun _=>?_) fun _=>main⟩
  rw [e0,e8]
  exact Xz main
theorem Xlq (h:RrAt w b err rest) (hlb:rest.length≤1000000)
    (hk:∀ q d w',Fr [b] w w'→RrAt w' b (XB (err,rest)).2.1 (XB (err,rest)).2.2→OB w' q (XB (err,rest)).1.length d (XB (err,rest)).1 w.heap.size→K (.slice q (XB (err,rest)).1.length d) w') :
    Xa Tryz.prog Xb9 #[.pointer (some ⟨b,0,none⟩)] w K:=by
  apply Q4
  unfold Wo
  have a0:(⟨b,0,none⟩:Addr).add 0=⟨b,0,none⟩:=rfl
  have h':=h
  obtain ⟨f,p,c,hB,h0,h1,hc,hR,hnb⟩:=h
  have hbl:=hB.lt
  refine ⟨_,rfl,?_⟩
  rw [a0]
  refine ⟨_,_,_,Ld.blk (by kernel_rfl) hB (by omega) h0,?_⟩
  refine Xqr h' 1 (by omega) hlb fun w1 f1 h1'=>⟨_,rfl,?_⟩
  apply Qh
  unfold Vs
  have bad:∀ (w2:World) (e2:Int) (r2:List UInt8) (n6:Int),Fr [b] w w2→RrAt w2 b e2 r2→e2≠0→XB (err,rest)=([],(e2,rest))→Ye (some ⟨b,0,none⟩) p rest.length c n6 none 0 0 w2 (fun r5 w2=>∃ p5 l5 c5,r5=.slice p5 l5 c5∧K (.slice p5 l5 c5) w2):=by
    intro w2 e2 r2 n6 f2 h2 he hs
    unfold Ye
    refine ⟨_,rfl,_,h2.ldE,XF (fun _=>⟨_,rfl,?_⟩) fun hh=>absurd hh he⟩
    obtain ⟨g,p2,c2,hB2,g0,g1,_⟩:=h2
    rw [a0]
    refine Sto.blk (by kernel_rfl) hB2 (by omega) rfl rfl fun w3 f3 hB3 s3=>?_
    have f13:Fr [b] w w3:=f2.trans f3 fun z hz=>.inl hz
    rw [hs] at hk
    exact ⟨_,_,_,rfl,hk none 0 w3 f13 ⟨_,p,c,hB3,upd_same _ _ _,by rw [upd_ne _ _ _ (by omega)]; exact g1,hc,Zz hR f13 (fun hh z hz hm=>by have:=hnb hh z hz; simp at hm; omega),hnb⟩ (OB.nil _ _)⟩
  refine ⟨_,rfl,_,h1'.ldE,?_⟩
  by_cases hg:err=0∧1≤rest.length
  · obtain ⟨rfl,h1l⟩:=hg
    have e1:Yb 1 (0,rest)=(Xp (rest.take 1),(0,rest.drop 1)):=by unfold Yb; rw [if_pos ⟨rfl,h1l⟩]
    rw [e1] at h1' ⊢
    rw [Xja h1l]
    refine X2 ?_
    have h1'':RrAt w1 b 0 (rest.drop 1):=h1'
    have h1c:=h1''
    obtain ⟨g,p2,c2,hB2,g0,g1,hc2,hR2,hnb2⟩:=h1''
    refine ⟨_,rfl,?_⟩
    rw [a0]
    refine ⟨_,_,_,Ld.blk (by kernel_rfl) hB2 (by omega) g0,?_⟩
    have hdl:(rest.drop 1).length=rest.length - 1:=List.length_drop
    have hb255:=(fl rest 0).toNat_lt
    rw [XC (by omega) (by omega)]
    unfold YF
    refine Xc (fun hh=>?_) fun hh=>?_
    · refine ⟨_,rfl,XrJ h1c 12 fun w2 f2 h2=>?_⟩
      exact bad w2 12 _ _ (f1.trans f2 fun z hz=>.inl hz) h2 (by omega) (by unfold XB; rw [if_neg (by show ¬ ((0:Int)=0∧(fl rest 0).toNat+1≤rest.length); omega)]; rfl)
    · have hs : XB (0, rest) = ((rest.drop 1).take (fl rest 0).toNat, (0, rest.drop ((fl rest 0).toNat + 1))) := by
        unfold XB; rw [if_pos (by show (0:Int)=0∧(fl rest 0).toNat+1≤rest.length; omega)]
      unfold Ye
      refine ⟨_,rfl,_,h1c.ldE,Xz ?_⟩
      rw [Xe (by omega) (by omega)]
      refine Xlp h1c (fl rest 0).toNat (by omega) (by omega) fun q d w2 f2 h2 hO2=>⟨_,_,_,rfl,?_⟩
      have hp:YW (fl rest 0).toNat (0,rest.drop 1)=((rest.drop 1).take (fl rest 0).toNat,(0,(rest.drop 1).drop (fl rest 0).toNat)):=by unfold YW; rw [if_pos (by show (0:Int)=0∧_≤(rest.drop 1).length; omega)]
      rw [hp] at h2 hO2 ⊢
      rw [hs] at hk
      rw [List.drop_drop] at h2
      exact ⟨_,_,_,rfl,hk q d w2 (f1.trans f2 fun z hz=>.inl hz) (by rw [Nat.add_comm]; exact h2) (hO2.mono f1.size)⟩
  · have he2:(if err=0 then (12:Int) else err)≠0:=by split <;> omega
    have e1:Yb 1 (err,rest)=(0,(if err=0 then 12 else err,rest)):=by unfold Yb; rw [if_neg hg]
    rw [e1] at h1' ⊢
    have hs:XB (err,rest)=([],(if err=0 then 12 else err,rest)):=by
      unfold XB; rw [if_neg (by show ¬ (err=0∧(fl rest 0).toNat+1≤rest.length); omega)]
    have ec:((if err=0 then (12:Int) else err) == 0)=false:=by simpa using he2
    rw [ec]
    refine Xz ?_
    unfold YF
    exact Xz (bad w1 _ rest _ f1 h1' he2 hs)
theorem XvE (h:RrAt w b err rest) (hk:∀ w',Fr [b] w w'→RrAt w' b (U1 (err,rest)) rest→K (.int .i64 (U1 (err,rest))) w'):Xa Tryz.prog Xd6 #[.pointer (some ⟨b,0,none⟩)] w K:=by
  apply XbM
  unfold QK
  have a0:(⟨b,0,none⟩:Addr).add 0=⟨b,0,none⟩:=rfl
  have fin:∀ (w':World) (e:Int),Fr [b] w w'→RrAt w' b e rest→U1 (err,rest)=e→Zs (some ⟨b,0,none⟩) 0 w' K:=by
    intro w' e f' h' he
    unfold Zs
    rw [he] at hk
    exact ⟨_,rfl,_,h'.ldE,hk w' f' h'⟩
  refine ⟨_,rfl,_,h.ldE,Yn (fun he=>?_) fun he=>?_⟩
  · subst he
    have h':=h
    obtain ⟨f,p,c,hB,h0,h1,hc,hR,hnb⟩:=h
    refine ⟨_,rfl,?_⟩
    rw [a0]
    refine ⟨_,_,_,Ld.blk (by kernel_rfl) hB (by omega) h0,?_⟩
    unfold Zt
    refine Xc (fun hgt=>?_) fun hle=>?_
    · refine ⟨_,rfl,XrJ h' 10 fun w1 f1 h1=>fin w1 10 f1 h1 (by unfold U1; rw [if_pos rfl,if_neg (by show ¬ rest.length=0; omega)])⟩
    · exact fin w 0 (Fr.refl _ _) h' (by unfold U1; rw [if_pos rfl,if_pos (by show rest.length=0; omega)])
  · unfold Zt
    exact Xz (fin w err (Fr.refl _ _) h (by unfold U1; rw [if_neg he]))
end
end Go.Sh
end

section
namespace Go.Sh
open Go Go.Fw Go.Proofs
set_option maxRecDepth 100000
set_option linter.unusedVariables false
section
variable {w:World} {f:TF} {K:VWP}
theorem Xmr {k:Nat} {g:Nat→Value} (hB:Blk w k 3 g) (f:TF) {e:Int} (h:∀ w',Fr [k] w w'→K (.tuple #[f.a,.int .i64 e]) w') :
    ∃ w2,Sto Tryz.prog Yr (.pointer (some ⟨k,0,none⟩)) f.a w w2∧∃ (a4:Addr) (v4:Value),(.pointer (some ⟨k,0,none⟩):Value)=.pointer (some a4)∧(loadVar Yr a4).run Tryz.prog w2=.ok v4 w2∧K (.tuple #[v4,.int .i64 e]) w2:=
  Xjn (by kernel_rfl) hB f fun w3 f3 hT s3=>⟨_,_,rfl,hT.ldG,h w3 f3⟩
theorem XwB (f:TF) {K:Nat→World→Prop} (h:∀ w',Fr [] w w'→TAt w' w.heap.size f→K w.heap.size w') :
    ∃ z,Pu Tryz.prog (zeroValue Yr) z∧New z.cells Yr w fun k w2=>∃ w3,Sto Tryz.prog Yr (.pointer (some ⟨k,0,none⟩)) f.a w2 w3∧K k w3:=
  ZL (s:=3) (by kernel_rfl) fun w2 g2 f2 hB2 s2=>Xjn (by kernel_rfl) hB2 f fun w3 f3 hT s3=>h w3 (f2.st f3 (Nat.le_refl _)) hT
theorem Xte {n:Nat} (hn:n<256) {p:Option Addr} {l c:Nat} {xs:List UInt8} (hR:Row w p (xs.map vb)) (hl:l=xs.length) (hlb:l≤1000000)
    (hk:∀ q d w',Fr [] w w'→OB w' q (UInt8.ofNat n::xs).length d (UInt8.ofNat n::xs) w.heap.size→K (.slice q (UInt8.ofNat n::xs).length d) w'):Xa Tryz.prog XnA #[.int .i64 (n:Int),.slice p l c] w K:=by
  apply Xi0
  unfold XiZ
  have ew:IntKind.u8.wrap (n:Int)=((UInt8.ofNat n).toNat:Int):=by rw [Xhs (by omega) (by omega)]; simp; omega
  rw [ew]
  refine mk1 (x:=UInt8.ofNat n) fun p1 w1 f1 h1 s1=>?_
  refine JW (m:=l) h1 (by omega) (hR.fr0 f1) hl (by omega) fun p2 c2 w2 f2 hO2=>?_
  have e1:1+l=(UInt8.ofNat n::xs).length:=by rw [List.length_cons]; omega
  have e2:[UInt8.ofNat n]++xs=UInt8.ofNat n::xs:=rfl
  rw [e1,e2] at hO2
  rw [e1]
  exact hk p2 c2 w2 (f1.trans f2 fun z hz=>.inr (h1.2.2 z hz)) hO2
theorem XpK {p:Option Addr} {l c:Nat} {b:List UInt8} (hR:Row w p (b.map vb)) (hl:l=b.length) (hc:l≤c) (hlb:b.length≤1000000)
    (hk:∀ u w',Fr [] w w'→TF.own w' u w.heap.size→u.ut (Zx b).e=Zx b→K (.tuple #[u.a,.int .i64 (Zx b).e]) w'):Xa Tryz.prog XjI #[.slice p l c] w K:=by
  apply XfM
  unfold XeM
  refine ZL (s:=3) (by kernel_rfl) fun w1 g1 f1 hB1 s1=>?_
  obtain ⟨k2,hk2⟩:∃ k,k=w.heap.size:=⟨_,rfl⟩
  rw [← hk2] at hB1 ⊢
  refine XvD (hR.fr0 f1) hl hc fun w2 f2 hR2 s2=>?_
  obtain ⟨r,hr⟩:∃ r,r=w1.heap.size:=⟨_,rfl⟩
  rw [← hr] at hR2 ⊢
  obtain ⟨n,hn⟩:∃ n,n=Yb 8 (0,b):=⟨_,rfl⟩
  refine Xqr hR2 8 (by omega) hlb fun w3 f3 hR3=>⟨_,rfl,?_⟩
  have hlt:=Xqo (0,b)
  have n1:(Yb 8 (0,b)).2.2.length≤b.length:=XoI 8 (0,b)
  rw [← hn] at hR3 hlt n1 ⊢
  refine ZL (s:=3) (by kernel_rfl) fun w3a g3a f3a hB3a s3a=>?_
  obtain ⟨k5,hk5⟩:∃ k,k=w3.heap.size:=⟨_,rfl⟩
  rw [← hk5] at hB3a ⊢
  refine Sto.agg (m:=3) (cs:=[.int .u64 (n.1:Int),.slice none 0 0,.slice none 0 0]) (by kernel_rfl) rfl hB3a (by omega) (by simp; exact ⟨rfl,rfl⟩) fun w3b f3b hB3b s3b=>?_
  have f33:Fr [] w3 w3b:=f3a.st f3b (by omega)
  have hR3b:=(hR3.fr0 f3a).fr f3b (by simp; have:=hR3.lt; omega)
  obtain ⟨o,ho⟩:∃ o,o=XB n.2:=⟨_,rfl⟩
  have hn2:(n.2.1,n.2.2)=n.2:=rfl
  have m1:=f1.size; have m2:=f2.size; have m3:=f3.size; have m33:=f33.size
  have hrl:=hR3.lt
  refine Xlq hR3b (by omega) fun q4 d4 w4 f4 hR4 hO4=>⟨_,_,_,rfl,?_⟩
  have o1:=(Xjo n.2).1
  rw [hn2,← ho] at hR4 hO4
  rw [hn2,← ho]
  rw [← ho] at o1
  have hB4:=hB3b.fr f4 (by simp; omega)
  rw [Xi]
  refine Sto.blk (by kernel_rfl) hB4 (by omega) rfl rfl fun w5 f5 hB5 s5=>?_
  have hR5:=hR4.fr f5 (by simp; omega)
  have m4:=f4.size
  have hO45:=hO4.fr_sep f5 (by omega)
  obtain ⟨s,hs⟩:∃ s,s=XB o.2:=⟨_,rfl⟩
  have ho2:(o.2.1,o.2.2)=o.2:=rfl
  refine Xlq hR5 (by omega) fun q6 d6 w6 f6 hR6 hO6=>⟨_,_,_,rfl,?_⟩
  rw [ho2,← hs] at hR6 hO6
  rw [ho2,← hs]
  have hB6:=hB5.fr f6 (by simp; omega)
  have m6:=f6.size
  have hO46:=hO45.fr_sep f6 (by omega)
  rw [Xi]
  refine Sto.blk (by kernel_rfl) hB6 (by omega) rfl rfl fun w7 f7 hB7 s7=>?_
  have hR7:=hR6.fr f7 (by simp; omega)
  have hO47:=hO46.fr_sep f7 (by omega)
  have hO67:=hO6.fr_sep f7 (by omega)
  obtain ⟨u,hu⟩:∃ u:TF,u=⟨n.1,o.1,s.1,q4,d4,q6,d6⟩:=⟨_,rfl⟩
  have hT7:TAt w7 k5 u:=by
    refine ⟨_,hB7,fun j v hj=>?_⟩
    rw [hu] at hj
    have hj3:=(List.getElem?_eq_some_iff.1 hj).1
    have hj3:j<3:=hj3
    match j,hj3 with
    | 0,_=>
      rw [upd_ne _ _ _ (by omega),upd_ne _ _ _ (by omega)]
      unfold updN
      rw [dif_pos ⟨by omega,by simp⟩]
      exact Option.some.inj hj
    | 1,_=>
      rw [upd_ne _ _ _ (by omega)]
      show upd _ (0+1) _ (0+1)=_
      rw [upd_same]
      exact Option.some.inj hj
    | 2,_=>
      show upd _ (0+2) _ (0+2)=_
      rw [upd_same]
      exact Option.some.inj hj
  have fa:Fr [] w w3b:=((f1.then f2).trans f3 (fun z hz=>.inr (by simp at hz; omega))).then f33
  have f07:Fr [] w w7:=(((fa.trans f4 (fun z hz=>.inr (by simp at hz; omega))).trans f5 (fun z hz=>.inr (by simp at hz; omega))).trans f6 (fun z hz=>.inr (by simp at hz; omega))).trans f7 (fun z hz=>.inr (by simp at hz; omega))
  refine XvE hR7 fun w8 f8 _=>⟨_,rfl,?_⟩
  have hs2:(s.2.1,s.2.2)=s.2:=rfl
  rw [hs2]
  have f08:Fr [] w w8:=f07.trans f8 (fun z hz=>.inr (by simp at hz; omega))
  have hT8:=hT7.fr f8 (by simp; omega)
  have hU8:TF.own w8 u (k5+1):=by
    rw [hu]
    exact ⟨(hO47.fr_sep f8 (by omega)).mono (by omega),(hO67.fr_sep f8 (by omega)).mono (by omega),hlt⟩
  have hut:Zx b=if U1 s.2≠0 then .bad (U1 s.2) else if 20<o.1.length∨20<s.1.length then .bad 10 else ⟨0,n.1,o.1,s.1⟩:=by
    rw [hs,ho,hn]; rfl
  have hB8:Blk w8 k2 3 g1:=by
    have hx:Blk w3b k2 3 g1:=((((hB1.fr0 f2).fr f3 (by simp; omega)).fr0 f33))
    exact ((((hx.fr f4 (by simp; omega)).fr f5 (by simp; omega)).fr f6 (by simp; omega)).fr f7 (by simp; omega)).fr f8 (by simp; omega)
  have fin:∀ (e:Int),(e≠0→Zx b=.bad e)→(e=0→Zx b=⟨0,n.1,o.1,s.1⟩)→Y4 ⟨k2,0,none⟩ 0 ⟨k5,0,none⟩ e w8 K:=by
    intro e hbe hoe
    unfold Y4
    refine XF (fun he=>?_) fun he=>?_
    · have hbe:=hbe he
      refine Xmr hB8 tf0 fun w10 f10=>?_
      have:=hk tf0 w10 (f08.st f10 (by omega)) (Xfg _ _) (by rw [hbe]; rfl)
      rw [hbe] at this; exact this
    · have hok:=hoe he
      refine ⟨_,_,_,_,_,_,_,hT8.ldG,?_⟩
      refine Xmr hB8 u fun w10 f10=>?_
      have:=hk u w10 (f08.st f10 (by omega)) ((hU8.fr_sep f10 (by omega)).mono (by omega)) (by rw [hok,hu]; rfl)
      rw [hok] at this; exact this
  refine Yn (fun he=>?_) fun he=>?_
  · have hou:u.od=o.1:=by rw [hu]
    have hsu:u.sc=s.1:=by rw [hu]
    refine ⟨_,_,_,hT8.ldO,Xc (fun h1=>?_) fun h1=>⟨_,_,_,hT8.ldS,Xc (fun h2=>?_) fun h2=>?_⟩⟩
    · exact fin 10 (fun _=>by rw [hut,if_neg (fun hh=>hh he),if_pos (.inl (by rw [hou] at h1; omega))]) (fun hh=>by omega)
    · exact fin 10 (fun _=>by rw [hut,if_neg (fun hh=>hh he),if_pos (.inr (by rw [hsu] at h2; omega))]) (fun hh=>by omega)
    · exact fin _ (fun hh=>absurd he hh) (fun _=>by rw [hut,if_neg (fun hh=>hh he),if_neg (by rw [hou] at h1; rw [hsu] at h2; omega)])
  · exact fin _ (fun _=>by rw [hut,if_pos he]) (fun hh=>absurd hh he)
end
section
variable {w:World} {K:VWP} {r lo:Nat} {q:Option Addr} {rs:List RR}
theorem RefAt.sq {s:Int} (h:RefAt w r q rs lo) (hs:XT (rs.map RR.ke) s):∃ e,rs[YA (rs.map RR.ke) s]?=some e∧(e.sq:Int)=s∧e∈rs∧Vz (rs.map RR.ke) s=e.key:=by
  obtain ⟨e,h1,h2⟩:=Xql hs
  unfold Vz
  rw [h1]
  rw [List.getElem?_map] at h1
  cases he:rs[YA (rs.map RR.ke) s]? with
  | none=>rw [he] at h1; cases h1
  | some x=>
    rw [he] at h1
    cases h1
    exact ⟨x,rfl,h2,List.mem_of_getElem? he,rfl⟩
theorem Xtf (hS:RefAt w r q rs lo) {p1 p2:Option Addr} {l1 c1 l2 c2 now:Nat} {client tok:List UInt8} (h1:Row w p1 (client.map vb)) (hl1:l1=client.length) (hb1:l1≤1000000)
    (h2:Row w p2 (tok.map vb)) (hl2:l2=tok.length) (hc2:l2≤c2) (hb2:l2≤900000)
    (hk:∀ u w',Fr [] w w'→TF.own w' u w.heap.size→u.ut (X8 (rs.map RR.ke) client tok now).e=X8 (rs.map RR.ke) client tok now→K (.tuple #[u.a,.int .i64 (X8 (rs.map RR.ke) client tok now).e]) w') :
    Xa Tryz.prog Xnu #[.pointer (some ⟨r,0,none⟩),.slice p1 l1 c1,.slice p2 l2 c2,.int .u64 (now:Int)] w K:=by
  apply XiY
  unfold XiX
  refine ZL (s:=3) (by kernel_rfl) fun w1 g1 f1 hB1 s1=>?_
  obtain ⟨k8,hk8⟩:∃ k,k=w.heap.size:=⟨_,rfl⟩
  rw [← hk8] at hB1 ⊢
  have bad:∀ (w':World) (e:Int),Fr [] w1 w'→X8 (rs.map RR.ke) client tok now=.bad e→∃ w3,Sto Tryz.prog Yr (.pointer (some ⟨k8,0,none⟩)) tf0.a w' w3∧∃ (a4:Addr) (v4:Value),(.pointer (some ⟨k8,0,none⟩):Value)=.pointer (some a4)∧(loadVar Yr a4).run Tryz.prog w3=.ok v4 w3∧K (.tuple #[v4,.int .i64 e]) w3:=by
    intro w' e f' he
    refine Xmr (hB1.fr0 f') tf0 fun w4 f4=>?_
    have:=hk tf0 w4 ((f1.then f').st f4 (by omega)) (Xfg _ _) (by rw [he]; rfl)
    rw [he] at this; exact this
  have ou:∀ e,YN (rs.map RR.ke) client tok=e→e≠0→X8 (rs.map RR.ke) client tok now=.bad e:=fun e he h0=>by unfold X8; rw [if_pos (by rw [he]; exact h0),he]
  refine Xc (fun h29=>bad w1 12 (Fr.refl _ _) (ou 12 (by unfold YN; rw [if_pos (by omega)]) (by omega))) fun h29=>?_
  have hn29:¬ tok.length<29:=by omega
  obtain ⟨a,ha,hca⟩:=XD (t:=Xg) (by kernel_rfl) (h2.fr0 f1) (c:=c2) hl2 (i:=0) (by omega) (k:=.i64)
  have h256:=(fl tok 0).toNat_lt
  refine ⟨_,ha,_,Ld.cell (by kernel_rfl) hca,?_⟩
  rw [Xe (by omega) (by show ((fl tok 0).toNat:Int)<_; omega)]
  have etk:(((tok.getD 0 0).toNat:Nat):Int)=(tk0 tok:Int):=rfl
  rw [etk]
  refine XaF (hS.fr0 f1) ⟨_,rfl,?_⟩
  unfold Uo
  by_cases hs:XT (rs.map RR.ke) (tk0 tok:Int)
  · rw [if_pos hs]
    have hs':¬ ¬ XT (rs.map RR.ke) (tk0 tok:Int):=fun hh=>hh hs
    refine Xc (fun hh=>by omega) fun _=>?_
    have b13:(64<client.length∨4096<tok.length)→∀ bb,bb=true→JL (some ⟨r,0,none⟩) p1 l1 c1 p2 l2 c2 (now:Int) ⟨k8,0,none⟩ 0 (YA (rs.map RR.ke) (tk0 tok:Int):Int) bb w1 K:=fun hh bb hb=>by
      subst hb
      unfold JL
      exact X2 (bad w1 13 (Fr.refl _ _) (ou 13 (by unfold YN; rw [if_neg hn29,if_neg hs',if_pos hh]) (by omega)))
    refine Xc (fun h64=>b13 (.inl (by omega)) true rfl) fun h64=>?_
    by_cases h4:(l2:Int) > 4096
    · rw [decide_eq_true h4]
      exact b13 (.inr (by omega)) true rfl
    rw [decide_eq_false h4]
    have hin:¬ (64<client.length∨4096<tok.length):=by omega
    unfold JL
    refine Xz ?_
    unfold Xc7
    obtain ⟨e,he,hes,hem,hkey⟩:=hS.sq hs
    obtain ⟨g,c,hB,e0,hO⟩:=hS.blk
    refine ⟨fun w'=>Fr [] w1 w',Drw.intro fun w2 f2 s2=>⟨_,rfl,?_⟩⟩
    have f02:=f1.then f2
    refine Xrn (h2.fr0 f02) hl2 (a:=1) (b:=13) (by omega) (by omega) hc2 fun qa da hqa hla hda hba=>?_
    refine Ww (h2.fr0 f02) hl2 (n:=13) (by omega) hc2 fun qb db hqb hlb hdb hbb=>?_
    obtain ⟨a2,ha2,hca2⟩:=XD (t:=Xg) (by kernel_rfl) (h2.fr0 f02) (c:=c2) hl2 (i:=0) (by omega) (k:=.i64)
    have ldr:∀ {w'},Fr [] w1 w'→Ld Tryz.prog XK (.pointer (some ((⟨r,0,none⟩:Addr).add 0))) w' (.slice q rs.length c):=fun {w'} f=>by rw [Xi]; exact Ld.blk (by kernel_rfl) ((hB.fr0 f1).fr0 f) (by omega) e0
    obtain ⟨gb,go,hx,_,_⟩:=Xji (hO.fr0 f02) rfl he
    have hlk:∀ {w'},Fr [] w1 w'→Ld Tryz.prog Xg (.pointer (some ((⟨gb,go,none⟩:Addr).add 1))) w' (.slice e.kp 16 e.kc):=fun {w'} f=>by
      obtain ⟨gb2,go2,hx2,_,hk2⟩:=Xji (hO.fr0 (f1.then f)) rfl he
      have:=hx.symm.trans hx2
      have ha:(⟨gb,go,none⟩:Addr)=⟨gb2,go2,none⟩:=by simpa using this
      rw [ha]; exact hk2
    refine ⟨_,ha2,_,_,_,⟨f2,fun w' hw'=>ldr hw'⟩,_,hx,_,_,_,⟨f2,fun w' hw'=>hlk hw'⟩,_,Ld.cell (by kernel_rfl) hca2,.inl rfl,?_⟩
    rw [Xe (by omega) (by show ((fl tok 0).toNat:Int)<_; omega),etk]
    refine Xte (n:=tk0 tok) h256 (h1.fr0 f02) hl1 hb1 fun qn dn w3 f3 hO3=>⟨_,_,_,rfl,.inr (f2.then f3),?_⟩
    have f03:=f02.then f3
    obtain ⟨a1,a2',a3,a4⟩:=hS.ent e hem
    refine Xjm (a1.fr0 f03) a2'.symm a3 rfl (hqa.fr0 f3) hla (hqb.fr0 f3) hlb hdb (by omega) hO3.row rfl fun qo do_ w4 f4 hO4=>⟨_,_,_,_,rfl,?_⟩
    have f14:=(f2.then f3).then f4
    have eN:(tok.take 13).drop 1=tkN tok:=rfl
    have eS:tok.drop 13=tkS tok:=rfl
    rw [eN,eS,← hkey] at hO4
    rw [eN,eS,← hkey]
    by_cases h0:opE (Vz (rs.map RR.ke) (tk0 tok:Int)) (tkN tok) (tkS tok) (UInt8.ofNat (tk0 tok)::client)=0
    · have eE:YN (rs.map RR.ke) client tok=0:=by unfold YN; rw [if_neg hn29,if_neg hs',if_neg hin,if_neg (fun hh=>hh h0)]
      have eL:Jk (rs.map RR.ke) client tok=opL (Vz (rs.map RR.ke) (tk0 tok:Int)) (tkN tok) (tkS tok) (UInt8.ofNat (tk0 tok)::client):=by unfold Jk; rw [if_pos eE]
      have ule:=Xqq (rs.map RR.ke) client tok
      rw [← eL] at hO4
      rw [h0,← eL]
      refine Xz (XpK hO4.row rfl hO4.cap (by omega) fun u w5 f5 hU5 hu=>⟨_,_,_,_,_,_,_,_,rfl,?_⟩)
      refine XwB u fun w6 f6 hT6=>?_
      have f46:=f5.then f6
      refine XF (fun he=>?_) fun he=>?_
      · exact bad w6 _ (f14.then f46) (by unfold X8; rw [if_neg (fun hh=>hh eE),if_pos he])
      · refine ⟨_,hT6.ldE,?_⟩
        have hue:u.exp=(Zx (Jk (rs.map RR.ke) client tok)).exp:=by rw [← hu]; rfl
        refine Xc (fun hlt=>?_) fun hlt=>?_
        · exact bad w6 20 (f14.then f46) (by unfold X8; rw [if_neg (fun hh=>hh eE),if_neg (fun hh=>hh he),if_pos (by omega)])
        · have hok:X8 (rs.map RR.ke) client tok now=Zx (Jk (rs.map RR.ke) client tok):=by unfold X8; rw [if_neg (fun hh=>hh eE),if_neg (fun hh=>hh he),if_neg (by omega)]
          refine ⟨_,_,_,_,_,_,_,hT6.ldG,?_⟩
          have hB6:=hB1.fr0 (f14.then f46)
          refine Xmr hB6 u fun w7 f7=>?_
          have hkl:=hB1.lt
          have m4:=f14.size
          have hU7:TF.own w7 u w4.heap.size:=(hU5.fr0 f6).fr_sep f7 (by omega)
          have:=hk u w7 (((f1.then f14).then f46).st f7 (by omega)) (hU7.mono (f1.then f14).size) (by rw [hok,hu])
          rw [hok,he] at this
          exact this
    · have eE:YN (rs.map RR.ke) client tok=13:=by unfold YN; rw [if_neg hn29,if_neg hs',if_neg hin,if_pos h0]
      exact XcQ h0 (bad w4 13 f14 (ou 13 eE (by omega)))
  · rw [if_neg hs]
    exact Xc (fun _=>bad w1 17 (Fr.refl _ _) (ou 17 (by unfold YN; rw [if_neg hn29,if_pos hs]) (by omega))) fun hh=>by omega
end
end Go.Sh
end

section
namespace Go.Sh
open Go Go.Fw Go.Proofs
set_option maxRecDepth 100000
set_option linter.unusedVariables false
theorem XpL (key from_ text:List UInt8):V5 key from_ (V5 key from_ text)=text:=by
  unfold V5
  rw [Yy (U0 _ _ _)]
  exact Xrg (U0 _ _ _)
end Go.Sh
end

section
namespace Go.Sh
open Go Go.Fw Go.Proofs
set_option maxRecDepth 100000
set_option linter.unusedVariables false
def z12:List UInt8:=List.replicate 12 0
section
variable {w:World} {K:VWP}
theorem OB.sp {p:Option Addr} {l c:Nat} {xs:List UInt8} {lo lo0 hi:Nat} (h:OB w p l c xs lo0) (h1:hi≤lo0):Go.Sh.sp lo hi p xs:=.inr fun k hk=>.inr (Nat.le_trans h1 (h.2.2 k hk))
end
end Go.Sh
end

section
namespace Go.Sh
open Go Go.Fw Go.Proofs
set_option maxRecDepth 100000
set_option linter.unusedVariables false
section
variable {w:World} {K:VWP} {p0 p1 p2 p3:Option Addr} {l0 c0 l1 c1 l2 c2 l3 c3:Nat} {key nonce text note:List UInt8}
theorem Xuj (hok:okG nonce.length [text,note]):opE key nonce (slL key nonce text note) note=0∧opL key nonce (slL key nonce text note) note=text∧(slL key nonce text note).length=text.length+16:=by
  have e:slL key nonce text note=Yf key nonce text++Y5 key nonce (Yf key nonce text) note:=by unfold slL; rw [if_pos hok]
  have el:(slL key nonce text note).length=text.length+16:=by rw [e,List.length_append,YQ,Jr]
  have et:(slL key nonce text note).take ((slL key nonce text note).length - 16)=Yf key nonce text:=by
    rw [el,Nat.add_sub_cancel,e,← YQ key nonce text,List.take_left']; rfl
  have ed:(slL key nonce text note).drop ((slL key nonce text note).length - 16)=Y5 key nonce (Yf key nonce text) note:=by
    rw [el,Nat.add_sub_cancel,e,← YQ key nonce text,List.drop_left']; rfl
  have h0:opE key nonce (slL key nonce text note) note=0:=by
    unfold opE
    rw [et,ed,if_pos (by rw [JN,YQ]; exact JN.1 hok),if_neg (by omega),if_pos rfl]
  refine ⟨h0,?_,el⟩
  unfold opL
  rw [if_pos h0,et]
  unfold Yf; rw [XpL]
end
end Go.Sh
end

section
namespace Go.Sh
open Go Go.Fw Go.Proofs
set_option maxRecDepth 100000
set_option linter.unusedVariables false
theorem XoJ {ks:List KE} {s:Int} {nonce client:List UInt8} {f:TF} (h:Z7 ks s nonce client f=0):(XT ks s∧nonce.length=12∧client.length≤64∧¬ Zd f)∧(UU ks s nonce client f).length=29+(US f).length:=by
  have h1:XT ks s:=by
    by_cases hh:XT ks s
    · exact hh
    · unfold Z7 at h; rw [if_pos hh] at h; omega
  have h2:¬ (nonce.length≠12∨64<client.length):=fun hh=>by unfold Z7 at h; rw [if_neg (fun x=>x h1),if_pos hh] at h; omega
  have h3:¬ Zd f:=fun hh=>by unfold Z7 at h; rw [if_neg (fun x=>x h1),if_neg h2,if_pos hh] at h; omega
  refine ⟨⟨h1,by omega,by omega,h3⟩,?_⟩
  have hlf:f.od.length≤20∧f.sc.length≤20:=by unfold Zd at h3; omega
  have hll:=XaG f
  have hok:okG nonce.length [US f,UInt8.ofNat s.toNat::client]:=JN.2 ⟨by omega,by omega,by rw [List.length_cons]; omega⟩
  unfold UU
  rw [if_pos h,List.length_cons,List.length_append,(Xuj hok).2.2]; omega
def FrM (a m:Nat) (w w':World):Prop:=∃ L,(∀ z∈L,a≤z∧z<m)∧Fr L w w'
theorem FrM.of0 {a m:Nat} {w w':World} (f:Fr [] w w'):FrM a m w w':=⟨[],by simp,f⟩
theorem FrM.of {a m:Nat} {w w':World} {L:List Nat} (f:Fr L w w') (h:∀ z∈L,a≤z∧z<m):FrM a m w w':=⟨L,h,f⟩
theorem FrM.trans {a m:Nat} {w w1 w2:World} (h:FrM a m w w1) (k:FrM a m w1 w2):FrM a m w w2:=by
  obtain ⟨L,h1,h2⟩:=h
  obtain ⟨M,k1,k2⟩:=k
  exact ⟨L++M,fun z hz=>by rcases List.mem_append.1 hz with hz | hz; exact h1 z hz; exact k1 z hz,(h2.mono (fun z hz=>List.mem_append_left _ hz)).trans k2 (fun z hz=>.inl (List.mem_append_right _ hz))⟩
theorem FrM.then {a m:Nat} {w w1 w2:World} (h:FrM a m w w1) (k:Fr [] w1 w2):FrM a m w w2:=h.trans (.of0 k)
theorem FrM.size {a m:Nat} {w w':World} (h:FrM a m w w'):w.heap.size≤w'.heap.size:=by obtain ⟨L,_,h2⟩:=h; exact h2.size
theorem FrM.news {a m:Nat} {w0 w w':World} (h:FrM a m w w') (f:Fr [] w0 w) (ha:w0.heap.size≤a):Fr [] w0 w':=by
  obtain ⟨L,h1,h2⟩:=h
  exact f.trans h2 fun z hz=>.inr (by have:=h1 z hz; omega)
end Go.Sh
end
