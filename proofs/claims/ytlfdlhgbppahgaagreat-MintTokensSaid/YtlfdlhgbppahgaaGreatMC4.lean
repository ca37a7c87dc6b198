/- A part of a proof of a given law of this program: lemmas, printed forms of its functions, contracts. It has no conditions of its own. -/
import Derived.Test.YtlfdlhgbppahgaaGreatMC3
import Derived.Test.YtlfdlhgbppahgaaGreatMW1
import Derived.Test.YtlfdlhgbppahgaaGreatMS2

set_option maxHeartbeats 16000000
section
namespace Go.Sh
open Go Go.Fw Go.Proofs
set_option maxRecDepth 100000
set_option linter.unusedVariables false
structure KE where
  sq:Nat
  key:List UInt8
def XiZ (s:Int) (e:KE):Bool:=decide ((e.sq:Int)=s)
def Yz (ks:List KE) (s:Int):Nat:=ks.findIdx (XiZ s)
def hasK (ks:List KE) (s:Int):Prop:=Yz ks s<ks.length
instance (ks:List KE) (s:Int):Decidable (hasK ks s):=by unfold hasK; infer_instance
def Uk (ks:List KE) (s:Int):Int:=if hasK ks s then (Yz ks s:Int) else -1
theorem XqD {ks:List KE} {s:Int} {i:Nat} {e:KE} (hi:ks[i]?=some e) (he:(e.sq:Int)=s) (hs:∀ j,j<i→∀ e,ks[j]?=some e→(e.sq:Int)≠s):Yz ks s=i∧hasK ks s:=by
  obtain ⟨h1,h2⟩:=List.getElem?_eq_some_iff.1 hi
  have e1:Yz ks s=i:=by
    unfold Yz
    refine (List.findIdx_eq h1).2 ⟨?_,fun j hj=>?_⟩
    · rw [h2]; simp [XiZ,he]
    · have:=hs j hj _ (List.getElem?_eq_getElem (by omega))
      simp [XiZ,this]
  exact ⟨e1,by unfold hasK; omega⟩
theorem XsC {ks:List KE} {s:Int} (hs:∀ j,j<ks.length→∀ e,ks[j]?=some e→(e.sq:Int)≠s):¬ hasK ks s:=by
  unfold hasK Yz
  intro hlt
  have h2:=List.findIdx_getElem (w:=hlt)
  have:=hs _ hlt _ (List.getElem?_eq_getElem hlt)
  simp [XiZ] at h2
  exact this h2
theorem XsD {ks:List KE} {s:Int} (h:hasK ks s):∃ e,ks[Yz ks s]?=some e∧(e.sq:Int)=s:=by
  have hlt:ks.findIdx (XiZ s)<ks.length:=h
  have h2:=List.findIdx_getElem (w:=hlt)
  exact ⟨_,List.getElem?_eq_getElem hlt,by simpa [XiZ] using h2⟩
theorem Xv3 {ks:List KE} {s:Int} (h:¬ hasK ks s):∀ e∈ks,(e.sq:Int)≠s:=by
  intro e he hes
  apply h
  unfold hasK Yz
  exact List.findIdx_lt_length_of_exists ⟨e,he,by simp [XiZ,hes]⟩
def Ja (ks:List KE) (s:Int) (key:List UInt8):Int:=if s<0∨127<s∨key.length≠16 then 11 else if hasK ks s then 16 else if 16≤ks.length then 18 else 0
def Uy (ks:List KE) (s:Int):Int:=if s<0∨127<s then 11 else if hasK ks s then 0 else 17
def Xi0 (ks:List KE) (s:Int) (key:List UInt8):List KE:=if Ja ks s key=0 then ks++[⟨s.toNat,key⟩] else ks
def Xdn (ks:List KE) (s:Int):List KE:=if Uy ks s=0 then ks.take (Yz ks s)++ks.drop (Yz ks s+1) else ks
structure RE where
  sq:Nat
  key:List UInt8
  bx:Nat
  kp:Option Addr
  kc:Nat
  lo:Nat
  hi:Nat
def RE.ke (e:RE):KE:=⟨e.sq,e.key⟩
def RE.v (e:RE):List Value:=[.pointer (some ⟨e.bx,0,none⟩),.int .i64 (e.sq:Int),.slice e.kp 16 e.kc]
theorem RE.v_len (e:RE):e.v.length=3:=rfl
theorem RE.v_one (e:RE):∀ u∈e.v,u.oneCell'=true:=by
  intro u hu
  simp [RE.v] at hu
  rcases hu with rfl | rfl | rfl <;> rfl
def EntAt (w:World) (e:RE) (N:Int):Prop:=∃ n hb,0≤n∧n≤N∧BoxAt w e.bx e.key n N e.lo hb∧Row w e.kp (e.key.map vb)∧16≤e.kc∧(∀ k∈Xb e.kp,hb≤k∧k<e.hi)∧hb≤e.hi∧e.hi≤w.heap.size
theorem EntAt.fr {w w':World} {e:RE} {N:Int} {L:List Nat} (h:EntAt w e N) (hf:Fr L w w') (hL:∀ k∈L,k<e.lo∨e.hi≤k):EntAt w' e N:=by
  obtain ⟨n,hb,n0,n1,hX,hk,h16,hbk,o1,o2⟩:=h
  have hlh:=hX.lohi
  refine ⟨n,hb,n0,n1,hX.fr hf fun k hk=>?_,Row.cells_fr hk hf fun k hk hm=>?_,h16,hbk,o1,Nat.le_trans o2 hf.size⟩
  · have:=hL k hk; omega
  · have:=hL k hm; have:=hbk k hk; omega
theorem EntAt.fr0 {w w':World} {e:RE} {N:Int} (h:EntAt w e N) (hf:Fr [] w w'):EntAt w' e N:=h.fr hf (by simp)
theorem EntAt.len {w:World} {e:RE} {N:Int} (h:EntAt w e N):e.key.length=16:=by obtain ⟨n,hb,n0,n1,hX,_⟩:=h; exact hX.lohi.2.2.1
theorem EntAt.lh {w:World} {e:RE} {N:Int} (h:EntAt w e N):e.lo<e.hi∧e.hi≤w.heap.size:=by obtain ⟨n,hb,n0,n1,hX,hk,h16,hbk,o1,o2⟩:=h; have:=hX.lohi; omega
theorem EntAt.mono {w:World} {e:RE} {N N':Int} (h:EntAt w e N) (hN:N≤N'):EntAt w e N':=by
  obtain ⟨n,hb,n0,n1,hX,r⟩:=h
  exact ⟨n,hb,n0,by omega,hX.mono hN,r⟩
structure RingAt (w:World) (b:Nat) (p:Option Addr) (es:List RE) (N:Int) (lo:Nat):Prop where
  blk:∃ f c,Blk w b 1 f∧f 0=.slice p es.length c∧OwnN 3 w p es.length c (es.flatMap RE.v)
  ent:∀ e∈es,EntAt w e N∧lo≤e.lo∧e.sq≤127
  len:es.length≤16
  pw:es.Pairwise fun x y=>x.hi≤y.lo∧x.sq≠y.sq
  sep:∀ k∈b::Xb p,∀ e∈es,k<e.lo∨e.hi≤k
  arr:∀ k∈Xb p,lo≤k∧k≠b
  siz:lo≤w.heap.size
def offR (b:Nat) (p:Option Addr) (es:List RE) (k:Nat):Prop:=k∉b::Xb p∧∀ e∈es,k<e.lo∨e.hi≤k
section
variable {w:World} {b lo:Nat} {p:Option Addr} {es:List RE} {N:Int} {K:VWP}
theorem RingAt.fr {w':World} {L:List Nat} (h:RingAt w b p es N lo) (hf:Fr L w w') (hL:∀ k∈L,offR b p es k):RingAt w' b p es N lo:=by
  obtain ⟨⟨f,c,hB,e0,hO⟩,h2,h3,h4,h5,h6,h7⟩:=h
  refine ⟨⟨f,c,hB.fr hf fun hb=>(hL b hb).1 (List.mem_cons_self ..),e0,hO.fr hf fun k hk hm=>(hL k hm).1 (List.mem_cons_of_mem _ hk)⟩,fun e he=>⟨(h2 e he).1.fr hf fun k hk=>(hL k hk).2 e he,(h2 e he).2⟩,h3,h4,h5,h6,Nat.le_trans h7 hf.size⟩
theorem RingAt.fr0 {w':World} (h:RingAt w b p es N lo) (hf:Fr [] w w'):RingAt w' b p es N lo:=h.fr hf (by simp)
theorem RingAt.lt (h:RingAt w b p es N lo):∀ k∈b::Xb p,k<w.heap.size:=by
  obtain ⟨⟨f,c,hB,e0,hO⟩,_⟩:=h
  intro k hk
  rcases List.mem_cons.1 hk with rfl | hk
  · exact hB.lt
  · exact hO.lt k hk
theorem RingAt.mono {N':Int} (h:RingAt w b p es N lo) (hN:N≤N'):RingAt w b p es N' lo:=
  ⟨h.blk,fun e he=>⟨(h.ent e he).1.mono hN,(h.ent e he).2⟩,h.len,h.pw,h.sep,h.arr,h.siz⟩
theorem XtH {l c i:Nat} {e:RE} (hO:OwnN 3 w p l c (es.flatMap RE.v)) (hl:l=es.length) (he:es[i]?=some e) :
    ∃ g o,IxA Tryz.prog XT (.slice p l c) (.int .i64 (i:Int)) ⟨g,o,none⟩∧(∀ j v,e.v[j]?=some v→w.cell? ⟨g,o+j,none⟩=some v)∧
      Ld Tryz.prog YD (.pointer (some ⟨g,o,none⟩)) w (.agg #[.pointer (some ⟨e.bx,0,none⟩),.int .i64 (e.sq:Int),.slice e.kp 16 e.kc]):=by
  have hil:i<l:=by have:=(List.getElem?_eq_some_iff.1 he).1; omega
  obtain ⟨g,o,hx,_,hc⟩:=hO.cellAt (P:=Tryz.prog) (t:=XT) (by kernel_rfl) (k:=.i64) (i:=i) hil (by omega)
  have hc':∀ j v,e.v[j]?=some v→w.cell? ⟨g,o+j,none⟩=some v:=fun j v hj=>by
    have hlt:=(List.getElem?_eq_some_iff.1 hj).1
    exact hc j v (by rw [RE.v_len] at hlt; omega) (XeL RE.v_len he hj)
  exact ⟨g,o,hx,hc',Ld.agg (n:=3) (cs:=e.v) (by kernel_rfl) (by kernel_rfl) rfl fun j v hj=>by rw [Xg]; exact hc' j v hj⟩
theorem XuX (h:∀ w',Fr [] w w'→RingAt w' w.heap.size none [] 1 w'.heap.size→w'.heap.size=w.heap.size+1→K (.pointer (some ⟨w.heap.size,0,none⟩)) w'):Xa Tryz.prog Xs5 #[] w K:=by
  apply XnV
  unfold XpY
  refine New.intro fun w1 f1 hB1 s1=>h w1 f1 ⟨⟨_,0,hB1,rfl,OwnN.nil _ _⟩,by simp,by simp,.nil,by simp,by simp [Xb],Nat.le_refl _⟩ s1
theorem XkU {i:Nat} {e:RE} (he:es[i]?=some e):(es.map RE.ke)[i]?=some e.ke:=by rw [List.getElem?_map,he]; rfl
theorem Xdo (h:RingAt w b p es N lo) {s:Int} (hk:∀ w',Fr [] w w'→K (.int .i64 (Uk (es.map RE.ke) s)) w'):Xa Tryz.prog Xia #[.pointer (some ⟨b,0,none⟩),.int .i64 s] w K:=by
  apply Xeq
  unfold XbS
  obtain ⟨f,c,hB,e0,hO⟩:=h.blk
  have hlen:=h.len
  refine New.intro fun w1 f1 hB1 s1=>⟨_,rfl,_,_,_,by rw [Xg]; exact Ld.blk (by kernel_rfl) (hB.fr0 f1) (by omega) e0,?_⟩
  obtain ⟨k3,hk3⟩:∃ k,k=w.heap.size:=⟨_,rfl⟩
  rw [← hk3] at hB1 ⊢
  apply Je
  unfold YK
  refine LoopS.ind (fun k us w'=>∃ i:Nat,i+k=es.length∧us=[.slice p es.length c,.func (.func Xd7) #[] #[.pointer (some ⟨k3,0,none⟩)],.int .i64 0,.int .i64 (es.length:Int),.int .i64 (i:Int)]∧Fr [] w1 w'∧∀ j,j<i→∀ e,(es.map RE.ke)[j]?=some e→(e.sq:Int)≠s) es.length ⟨0,by omega,rfl,Fr.refl _ _,by omega⟩ ?_
  rintro k us rr w2 I μ hgo ⟨i,hi,rfl,f2,hs⟩
  refine ⟨_,_,_,_,_,_,_,rfl,Xd (fun h3=>?_) fun h3=>?_⟩
  · obtain ⟨e,he⟩:∃ e,es[i]?=some e:=⟨_,List.getElem?_eq_getElem (by omega)⟩
    obtain ⟨g,o,hx,_,hld⟩:=XtH (hO.fr0 (f1.then f2)) rfl he
    refine ⟨_,hx,_,_,_,_,_,hld,?_⟩
    refine JY ?_
    apply Xa7
    unfold WP
    refine New.intro fun w3 f3 hB3 s3=>⟨_,by rw [Xg]; exact Ld.blk (by kernel_rfl) hB3 (by show (0+1:Nat)<3; omega) rfl,_,Ld.blk (by kernel_rfl) ((hB1.fr0 f2).fr0 f3) (by show (0:Nat)<1; omega) rfl,?_⟩
    refine ⟨_,rfl,Xx (fun heq=>?_) fun hne=>?_⟩
    · obtain ⟨e1,e2⟩:=XqD (XkU he) heq hs
      have:=hk w3 ((f1.then f2).then f3)
      unfold Uk at this
      rw [if_pos e2,e1] at this
      exact ⟨_,rfl,this⟩
    · rw [Xe (by omega) (by omega)]
      refine hgo _ _ _ (k - 1) (by omega) ⟨i+1,by omega,rfl,f2.then f3,fun j hj e' he'=>?_⟩
      by_cases hji:j=i
      · subst hji
        rw [XkU he] at he'
        cases he'
        exact hne
      · exact hs j (by omega) e' he'
  · have hno:=XsC (ks:=es.map RE.ke) (s:=s) fun j hj e he=>hs j (by rw [List.length_map] at hj; omega) e he
    have:=hk w2 (f1.then f2)
    unfold Uk at this
    rw [if_neg hno] at this
    exact ⟨_,rfl,this⟩
theorem RingAt.sq {s:Int} (h:RingAt w b p es N lo) (hs:hasK (es.map RE.ke) s):∃ e,es[Yz (es.map RE.ke) s]?=some e∧(e.sq:Int)=s∧e∈es:=by
  obtain ⟨e,h1,h2⟩:=XsD hs
  rw [List.getElem?_map] at h1
  cases he:es[Yz (es.map RE.ke) s]? with
  | none=>rw [he] at h1; cases h1
  | some x=>
    rw [he] at h1
    cases h1
    exact ⟨x,rfl,h2,List.mem_of_getElem? he⟩
theorem XqE (h:RingAt w b p es N lo) {s:Int} (hy:∀ e w',hasK (es.map RE.ke) s→e∈es→es[Yz (es.map RE.ke) s]?=some e→(e.sq:Int)=s→Fr [] w w'→K (.tuple #[.agg #[.pointer (some ⟨e.bx,0,none⟩),.int .i64 (e.sq:Int),.slice e.kp 16 e.kc],.bool true]) w')
    (hn:∀ w',¬ hasK (es.map RE.ke) s→Fr [] w w'→K (.tuple #[.agg #[.pointer none,.int .i64 0,.slice none 0 0],.bool false]) w'):Xa Tryz.prog Xll #[.pointer (some ⟨b,0,none⟩),.int .i64 s] w K:=by
  apply Xg7
  unfold Xfx
  refine XG (s:=3) (by kernel_rfl) fun w1 g1 f1 hB1 s1=>?_
  obtain ⟨k4,hk4⟩:∃ k,k=w.heap.size:=⟨_,rfl⟩
  rw [← hk4] at hB1 ⊢
  refine Xdo (h.fr0 f1) fun w2 f2=>⟨_,rfl,?_⟩
  have h2:=(h.fr0 f1).fr0 f2
  obtain ⟨f,c,hB,e0,hO⟩:=h2.blk
  have f02:=f1.then f2
  unfold Uk
  by_cases hs:hasK (es.map RE.ke) s
  · rw [if_pos hs]
    obtain ⟨e,he,hes,hem⟩:=h2.sq hs
    refine Xd (fun _=>?_) fun hh=>by omega
    obtain ⟨g,o,hx,_,hld⟩:=XtH hO rfl he
    refine ⟨_,rfl,_,_,_,by rw [Xg]; exact Ld.blk (by kernel_rfl) hB (by omega) e0,_,hx,_,_,_,_,_,hld,?_⟩
    refine Sto.agg (m:=3) (cs:=e.v) (by kernel_rfl) rfl (hB1.fr0 f2) (by omega) e.v_one fun w3 f3 hB3 s3=>⟨_,_,rfl,LdA (m:=3) (by kernel_rfl) (by kernel_rfl) hB3 (o:=0) (by omega) e.v rfl (fun j v hj=>?_),?_⟩
    · obtain ⟨q1,q2⟩:=List.getElem?_eq_some_iff.1 hj
      unfold updN
      rw [dif_pos ⟨by omega,by omega⟩]
      simpa using q2
    · exact hy e w3 hs hem he hes (f02.st f3 (by omega))
  · rw [if_neg hs]
    refine Xd (fun hh=>by omega) fun _=>?_
    refine Sto.agg (m:=3) (cs:=[.pointer none,.int .i64 0,.slice none 0 0]) (by kernel_rfl) rfl (hB1.fr0 f2) (by omega) (by simp; exact ⟨rfl,rfl,rfl⟩) fun w3 f3 hB3 s3=>⟨_,_,rfl,LdA (m:=3) (by kernel_rfl) (by kernel_rfl) hB3 (o:=0) (by omega) [.pointer none,.int .i64 0,.slice none 0 0] rfl (fun j v hj=>?_),?_⟩
    · obtain ⟨q1,q2⟩:=List.getElem?_eq_some_iff.1 hj
      unfold updN
      rw [dif_pos ⟨by omega,by omega⟩]
      simpa using q2
    · exact hn w3 hs (f02.st f3 (by omega))
theorem Xnb (h:RingAt w b p es N lo) {s:Int} (hy:∀ e w',hasK (es.map RE.ke) s→e∈es→es[Yz (es.map RE.ke) s]?=some e→(e.sq:Int)=s→Fr [] w w'→K (.tuple #[.pointer (some ⟨e.bx,0,none⟩),.bool true]) w')
    (hn:∀ w',¬ hasK (es.map RE.ke) s→Fr [] w w'→K (.tuple #[.pointer none,.bool false]) w'):Xa Tryz.prog Xjh #[.pointer (some ⟨b,0,none⟩),.int .i64 s] w K:=by
  apply Xfz
  unfold XdK
  have tail : ∀ {q : Option Addr} {n : Int} {q2 : Option Addr} {l c : Nat} {w1 : World} {b1 : Bool}, Fr [] w w1 → (∀ w', Fr [] w w' → K (.tuple #[.pointer q, .bool b1]) w') →
      ∃ z6,Pu Tryz.prog (zeroValue YD) z6∧New z6.cells YD w1 fun k6 w2=>∃ w3,Sto Tryz.prog YD (.pointer (some ⟨k6,0,none⟩)) (.agg #[.pointer q,.int .i64 n,.slice q2 l c]) w2 w3∧∃ p15,Ld Tryz.prog XrA (.pointer (some ((⟨k6,0,none⟩:Addr).add 0))) w3 (.pointer p15)∧K (.tuple #[.pointer p15,.bool b1]) w3:=by
    intro q n q2 l c w1 b1 f1 hk
    refine XG (s:=3) (by kernel_rfl) fun w2 g2 f2 hB2 s2=>?_
    refine Sto.agg (m:=3) (cs:=[.pointer q,.int .i64 n,.slice q2 l c]) (by kernel_rfl) rfl hB2 (by omega) (by simp; exact ⟨rfl,rfl,rfl⟩) fun w3 f3 hB3 s3=>⟨_,by rw [Xg]; exact Ld.blk (by kernel_rfl) hB3 (by omega) (by unfold updN; rw [dif_pos ⟨by omega,by simp⟩]; rfl),?_⟩
    exact hk w3 (f1.then (f2.st f3 (Nat.le_refl _)))
  refine XqE h (fun e w1 h1 h2 h3 h4 f1=>⟨_,_,_,_,_,_,rfl,tail f1 fun w' f=>hy e w' h1 h2 h3 h4 f⟩) (fun w1 h1 f1=>⟨_,_,_,_,_,_,rfl,tail f1 fun w' f=>hn w' h1 f⟩)
theorem XuY (h:RingAt w b p es N lo) {s:Int} (hy:∀ e q d w',hasK (es.map RE.ke) s→e∈es→es[Yz (es.map RE.ke) s]?=some e→(e.sq:Int)=s→Fr [] w w'→OB w' q 16 d e.key w.heap.size→K (.tuple #[.slice q 16 d,.bool true]) w')
    (hn:∀ q d w',¬ hasK (es.map RE.ke) s→Fr [] w w'→OB w' q 0 d [] w.heap.size→K (.tuple #[.slice q 0 d,.bool false]) w'):Xa Tryz.prog Xjg #[.pointer (some ⟨b,0,none⟩),.int .i64 s] w K:=by
  apply Xfw
  unfold XdJ
  have tail : ∀ {q : Option Addr} {n : Int} {q2 : Option Addr} {l c : Nat} {w1 : World} {b1 : Bool} {xs : List UInt8}, Fr [] w w1 → Row w1 q2 (xs.map vb) → l = xs.length → l ≤ 1000000 → (∀ q3 d w', Fr [] w w' → OB w' q3 l d xs w.heap.size → K (.tuple #[.slice q3 l d, .bool b1]) w') →
      ∃ z6,Pu Tryz.prog (zeroValue YD) z6∧New z6.cells YD w1 fun k6 w2=>∃ w3,Sto Tryz.prog YD (.pointer (some ⟨k6,0,none⟩)) (.agg #[.pointer q,.int .i64 n,.slice q2 l c]) w2 w3∧∃ p15 l15 c15,Ld Tryz.prog Xf (.pointer (some ((⟨k6,0,none⟩:Addr).add 2))) w3 (.slice p15 l15 c15)∧
        Xa Tryz.prog J0 #[.slice p15 l15 c15] w3 fun r16 w4=>∃ p16 l16 c16,r16=.slice p16 l16 c16∧K (.tuple #[.slice p16 l16 c16,.bool b1]) w4:=by
    intro q n q2 l c w1 b1 xs f1 hR hl hlb hk
    refine XG (s:=3) (by kernel_rfl) fun w2 g2 f2 hB2 s2=>?_
    refine Sto.agg (m:=3) (cs:=[.pointer q,.int .i64 n,.slice q2 l c]) (by kernel_rfl) rfl hB2 (by omega) (by simp; exact ⟨rfl,rfl,rfl⟩) fun w3 f3 hB3 s3=>⟨_,_,_,by rw [Xg]; exact Ld.blk (by kernel_rfl) hB3 (by omega) (by unfold updN; rw [dif_pos ⟨by omega,by simp⟩]; rfl),?_⟩
    have f13:Fr [] w1 w3:=f2.st f3 (Nat.le_refl _)
    have n3:=(f1.then f13).size
    refine Zu (hR.fr0 f13) (by simpa using hl) hlb (J8 _) fun q3 d w4 f4 hO4 hn4=>⟨_,_,_,rfl,hk q3 d w4 ((f1.then f13).then f4) ⟨hO4,hl,fun k hk=>by have:=hn4 k hk; omega⟩⟩
  refine XqE h (fun e w1 h1 h2 h3 h4 f1=>⟨_,_,_,_,_,_,rfl,?_⟩) (fun w1 h1 f1=>⟨_,_,_,_,_,_,rfl,tail (xs:=[]) f1 (Row.nil _ _) rfl (by omega) fun q3 d w' f hO=>hn q3 d w' h1 f hO⟩)
  have hE:=(h.ent e h2).1.fr0 f1
  have hl:=hE.len
  obtain ⟨n,hb,n0,n1,hX,hR,_⟩:=hE
  exact tail (xs:=e.key) f1 hR hl.symm (by omega) fun q3 d w' f hO=>hy e q3 d w' h1 h2 h3 h4 f hO
def Yc (ks:List KE):Int:=(((ks.getLast?).map KE.sq).getD 0:Nat)
theorem XqF (h:RingAt w b p es N lo) (hk:∀ w',Fr [] w w'→K (.tuple #[.int .i64 (Yc (es.map RE.ke)),.bool (decide (0<es.length))]) w'):Xa Tryz.prog XeQ #[.pointer (some ⟨b,0,none⟩)] w K:=by
  apply XbR
  unfold QC
  obtain ⟨f,c,hB,e0,hO⟩:=h.blk
  have hlen:=h.len
  have ldx:∀ {w'},Fr [] w w'→Ld Tryz.prog XT (.pointer (some ((⟨b,0,none⟩:Addr).add 0))) w' (.slice p es.length c):=fun {w'} f=>by rw [Xg]; exact Ld.blk (by kernel_rfl) (hB.fr0 f) (by omega) e0
  refine ⟨_,rfl,_,_,_,ldx (Fr.refl _ _),?_⟩
  refine Xx (fun h0=>?_) fun h0=>?_
  · have he:es=[]:=List.length_eq_zero_iff.1 (by omega)
    subst he
    exact hk w (Fr.refl _ _)
  · refine ⟨fun w'=>Fr [] w w',Drw.intro fun w1 f1 s1=>⟨_,rfl,_,rfl,_,_,_,⟨f1,fun w' hw'=>ldx hw'⟩,_,_,_,ldx f1,.inl rfl,?_⟩⟩
    obtain ⟨e,he⟩:∃ e,es[es.length - 1]?=some e:=⟨_,List.getElem?_eq_getElem (by omega)⟩
    obtain ⟨g,o,hx,hc,_⟩:=XtH (hO.fr0 f1) rfl he
    have ew:IntKind.i64.wrap ((es.length:Int) - 1)=((es.length - 1:Nat):Int):=by rw [Xe (by omega) (by omega)]; omega
    rw [ew]
    refine ⟨_,hx,_,by rw [Xg]; exact Ld.cell (by kernel_rfl) (hc 1 _ rfl),?_⟩
    have:=hk w1 f1
    have e1:Yc (es.map RE.ke)=(e.sq:Int):=by
      unfold Yc
      rw [List.getLast?_eq_getElem?,List.length_map,XkU he]; rfl
    rw [e1,decide_eq_true (by omega)] at this
    exact this
end
end Go.Sh
end

section
namespace Go.Sh
open Go Go.Fw Go.Proofs
set_option maxRecDepth 100000
set_option linter.unusedVariables false
section
variable {w:World} {b lo:Nat} {p:Option Addr} {es:List RE} {N:Int} {K:VWP}
theorem XhX (es:List RE):∀ u∈es.flatMap RE.v,u.oneCell'=true:=Xuh RE.v_one es
theorem Xop (h:RingAt w b p es N lo) (hN:1≤N) {s:Int} {q:Option Addr} {l cap:Nat} {key:List UInt8} (hx:Row w q (key.map vb)) (hl:l=key.length) (hcap:l≤cap)
    (hk:∀ w' p' es',Fr (b::Xb p) w w'→RingAt w' b p' es' N lo→(∀ k∈Xb p',k∈Xb p∨w.heap.size≤k)→
      (Ja (es.map RE.ke) s key≠0→es'=es∧p'=p)→(Ja (es.map RE.ke) s key=0→∃ e,es'=es++[e]∧e.ke=⟨s.toNat,key⟩∧w.heap.size≤e.lo)→K (.int .i64 (Ja (es.map RE.ke) s key)) w') :
    Xa Tryz.prog JI #[.pointer (some ⟨b,0,none⟩),.int .i64 s,.slice q l cap] w K:=by
  apply Xa6
  unfold WO
  have hlen:=h.len
  have same:∀ (r:Int) w',Ja (es.map RE.ke) s key=r→r≠0→Fr [] w w'→K (.int .i64 r) w':=by
    intro r w' hr h0 f
    have:=hk w' p es (f.mono (by simp)) (h.fr0 f) (fun k hk=>.inl hk) (fun _=>⟨rfl,rfl⟩) (fun hh=>absurd (hr.symm.trans hh) h0)
    rw [hr] at this; exact this
  have bad:∀ {w':World} {px:Option Addr} {bb:Bool},bb=true→(s<0∨127<s∨key.length≠16)→Fr [] w w'→Yg (some ⟨b,0,none⟩) s q l cap 0 px bb w' K:=by
    intro w' px bb hb hs f
    subst hb
    unfold Yg
    exact Xl (same 11 w' (by unfold Ja; rw [if_pos hs]) (by omega) f)
  refine XqC hx hl hcap (fun h16=>⟨_,_,rfl,?_⟩) fun h16 bx w1 f1 hX=>⟨_,_,rfl,?_⟩
  · refine Xd (fun hs=>bad rfl (.inl hs) (Fr.refl _ _)) fun _=>Xd (fun hs=>bad rfl (.inr (.inl hs)) (Fr.refl _ _)) fun _=>bad (by decide) (.inr (.inr (by omega))) (Fr.refl _ _)
  · refine Xd (fun hs=>bad rfl (.inl hs) f1) fun hs1=>Xd (fun hs=>bad rfl (.inr (.inl hs)) f1) fun hs2=>?_
    have hin:¬ (s<0∨127<s∨key.length≠16):=by omega
    have e0:((0:Int) != 0)=false:=rfl
    rw [e0]
    unfold Yg
    refine Xi (Xdo (h.fr0 f1) fun w2 f2=>⟨_,rfl,?_⟩)
    have f02:=f1.then f2
    have h2:=h.fr0 f02
    unfold Uk
    by_cases hs:hasK (es.map RE.ke) s
    · rw [if_pos hs]
      exact Xd (fun _=>same 16 w2 (by unfold Ja; rw [if_neg hin,if_pos hs]) (by omega) f02) fun hh=>by omega
    · rw [if_neg hs]
      refine Xd (fun hh=>by omega) fun _=>?_
      obtain ⟨f,c,hB,e1,hO⟩:=h2.blk
      refine ⟨_,rfl,_,_,_,by rw [Xg]; exact Ld.blk (by kernel_rfl) hB (by omega) e1,Xd (fun h3=>?_) fun h3=>?_⟩
      · exact same 18 w2 (by unfold Ja; rw [if_neg hin,if_neg hs,if_pos (by rw [List.length_map]; omega)]) (by omega) f02
      · have hz:Ja (es.map RE.ke) s key=0:=by unfold Ja; rw [if_neg hin,if_neg hs,if_neg (by rw [List.length_map]; omega)]
        unfold Ve
        refine ⟨fun w'=>Fr [] w2 w',Drw.intro fun w3 f3 s3=>⟨_,rfl,_,_,_,⟨f3,fun w' hw'=>by rw [Xg]; exact Ld.blk (by kernel_rfl) (hB.fr0 hw') (by omega) e1⟩,?_⟩⟩
        have f03:=f02.then f3
        refine Zu (hx.fr0 f03) (by simpa using hl) (by omega) (J8 _) fun kp kc w4 f4 hO4 hn4=>⟨_,_,_,rfl,.inr (f3.then f4),?_⟩
        have hO4:OB w4 kp l kc key w3.heap.size:=⟨hO4,hl,hn4⟩
        subst h16
        obtain ⟨e,he⟩:∃ e:RE,e=⟨s.toNat,key,bx,kp,kc,w.heap.size,w4.heap.size⟩:=⟨_,rfl⟩
        refine ⟨_,_,_,Ef.new (v:=.slice (some ⟨w4.heap.size,0,none⟩) 1 1) (cs:=(([.pointer (some ⟨bx,0,none⟩),.int .i64 s,.slice kp 16 kc]:List Value)).toArray) (e:=YD) (by kernel_rfl) fun w5 f5 hB5 s5=>⟨.inr ((f3.then f4).then f5),?_⟩⟩
        have ev:e.v=[.pointer (some ⟨bx,0,none⟩),.int .i64 s,.slice kp 16 kc]:=by
          rw [he]
          show [Value.pointer (some ⟨bx,0,none⟩),.int .i64 (s.toNat:Int),.slice kp 16 kc]=_
          rw [Int.toNat_of_nonneg (by omega)]
        rw [← ev] at hB5
        have f25:=(f3.then f4).then f5
        obtain ⟨p',c',w6,hap,hO6,f6,hcase⟩:=Ef.appendN (P:=Tryz.prog) (t:=XT) (ty:=XT) (s:=3) (by kernel_rfl) (hO.fr0 f25) (m:=1) (d:=1) hB5.rowL rfl e.v_one (by omega)
        refine ⟨_,_,_,_,hap,?_⟩
        have hbl:=h2.lt b (List.mem_cons_self ..)
        have hpl:∀ k∈Xb p,k<w.heap.size:=fun k hk=>h.lt k (List.mem_cons_of_mem _ hk)
        have hbw:=h.lt b (List.mem_cons_self ..)
        have harr:=h.arr
        have hB6:=(hB.fr0 f25).fr f6 fun hm=>(harr b hm).2 rfl
        refine ⟨_,rfl,?_⟩
        rw [Xg]
        refine Sto.blk (by kernel_rfl) hB6 (by omega) rfl rfl fun w7 f7 hB7 s7=>?_
        have n1:=f1.size; have n2:=f2.size; have n3:=f3.size; have n4:=f4.size; have n5:=f5.size; have n6:=f6.size; have n7:=f7.size; have n02:=f02.size; have n25:=f25.size
        have hp':∀ k∈Xb p',k∈Xb p∨w5.heap.size≤k:=by
          rcases hcase with ⟨rfl,_⟩ | ⟨rfl,_⟩
          · exact fun k hk=>.inl hk
          · intro k hk; simp only [Xb,List.mem_singleton] at hk; right; omega
        have hpn:∀ k∈Xb p',k≠b:=by
          intro k hk hkb
          rcases hp' k hk with hh | hh
          · exact (harr k hh).2 hkb
          · omega
        have f57:Fr (b::Xb p) w5 w7:=(f6.mono (fun k hk=>List.mem_cons_of_mem _ hk)).trans f7 (fun k hk=>.inl (by simp at hk; simp [hk]))
        have f07:Fr (b::Xb p) w w7:=((f02.then f25).mono (by simp)).trans f57 (fun k hk=>.inl hk)
        have hold:∀ x∈es,EntAt w7 x N∧lo≤x.lo∧x.sq≤127:=fun x hx=>⟨(h.ent x hx).1.fr f07 fun k hk=>h.sep k hk x hx,(h.ent x hx).2⟩
        have hkl:∀ k∈b::Xb p,k<w.heap.size:=h.lt
        have hnew:EntAt w7 e N∧lo≤e.lo∧e.sq≤127:=by
          have hsz:=h.siz
          refine ⟨?_,by rw [he]; exact hsz,by rw [he]; show s.toNat≤127; omega⟩
          rw [he]
          have hX5:=(hX.fr0 f2).fr0 f25
          refine ⟨0,w1.heap.size,by omega,by omega,(hX5.mono hN).fr f57 (fun k hk=>.inl (hkl k hk)),?_,hO4.cap,fun k hk=>?_,by show w1.heap.size≤w4.heap.size; omega,by show w4.heap.size≤w7.heap.size; omega⟩
          · exact Row.cells_fr (hO4.fr0 f5).row f57 fun k hk hm=>by have:=hO4.2.2 k hk; have:=hkl k hm; omega
          · show w1.heap.size≤k∧k<w4.heap.size
            have:=hO4.2.2 k hk; have:=hO4.lt k hk; omega
        have:=hk w7 p' (es++[e]) f07 ?_ (fun k hk=>by rcases hp' k hk with hh | hh; exact .inl hh; right; omega) (fun hh=>absurd hz hh) (fun _=>⟨e,rfl,by rw [he]; rfl,by rw [he]; exact Nat.le_refl _⟩)
        · rw [hz] at this; exact this
        · have hsz:=h.siz
          refine ⟨⟨_,c',hB7,by rw [List.length_append]; exact upd_same _ _ _,?_⟩,?_,by rw [List.length_append]; show es.length+1≤16; omega,?_,?_,?_,by omega⟩
          · rw [List.length_append,List.flatMap_append,List.flatMap_cons,List.flatMap_nil,List.append_nil]
            exact hO6.fr f7 fun k hk hm=>hpn k hk (by simpa using hm)
          · intro x hx
            rcases List.mem_append.1 hx with hx | hx
            · exact hold x hx
            · simp at hx; subst hx; exact hnew
          · rw [List.pairwise_append]
            refine ⟨h.pw,by simp,fun x hx y hy=>?_⟩
            simp at hy; subst hy
            have hx1:=(h.ent x hx).1.lh
            refine ⟨by rw [he]; exact hx1.2,fun hxs=>Xv3 hs x.ke (List.mem_map_of_mem hx) ?_⟩
            rw [he] at hxs
            show (x.sq:Int)=s
            rw [hxs]; show ((s.toNat:Nat):Int)=s; omega
          · intro k hk x hx
            have hkc:k∈b::Xb p∨w5.heap.size≤k:=by
              rcases List.mem_cons.1 hk with rfl | hk
              · exact .inl (List.mem_cons_self ..)
              · rcases hp' k hk with hh | hh
                · exact .inl (List.mem_cons_of_mem _ hh)
                · exact .inr hh
            rcases List.mem_append.1 hx with hx | hx
            · rcases hkc with hh | hh
              · exact h.sep k hh x hx
              · have:=(h.ent x hx).1.lh; right; omega
            · simp at hx; subst hx
              rcases hkc with hh | hh
              · left; rw [he]; exact hkl k hh
              · right; rw [he]; show w4.heap.size≤k; omega
          · intro k hk
            refine ⟨?_,hpn k hk⟩
            rcases hp' k hk with hh | hh
            · exact (harr k hh).1
            · omega
theorem XkV {l c i:Nat} {vs:List Value} (hO:OwnN 3 w p l c vs) (hi:i<l) (hl:l≤1000000) (h1:∀ u∈vs,u.oneCell'=true)
    (hk:∀ w',Fr (Xb p) w w'→OwnN 3 w' p (l - 1) c (vs.take (i*3)++vs.drop ((i+1)*3))→K (.slice p (l - 1) c) w') :
    Xa Tryz.prog JV #[.slice p l c,.int .i64 (i:Int),.int .i64 ((i+1:Nat):Int)] w K:=by
  apply Jw
  unfold Y6
  have hlc:=hO.cap
  have hvl:=hO.1
  refine ⟨_,_,_,Xwx (s:=3) (kl:=.i64) (kh:=.i64) (km:=.i64) (lo:=(i:Int)) (hi:=((i+1:Nat):Int)) (mx:=(l:Int)) (by kernel_rfl) (by omega) (by omega) (by omega) (by omega),?_⟩
  refine Xx (fun hh=>by omega) fun _=>Drw.intro fun w1 f1 s1=>?_
  have hO1:=hO.fr0 f1
  have hOc:=hO1.cut (i:=i) (by omega)
  obtain ⟨_,⟨rfl,h0,_⟩ | ⟨g,o,N,f,rfl,hB,hoc,_,hf⟩⟩:=hO1
  · omega
  have p1:=Xx1 (P:=Tryz.prog) (t:=XT) (s:=3) (p:=some ⟨g,o,none⟩) (len:=l) (cap:=c) (by kernel_rfl) (n:=i) (by omega)
  rw [Xrb] at p1
  refine ⟨_,_,_,p1,_,_,_,Xui (s:=3) (by kernel_rfl) (n:=i+1) (by omega) hlc,?_⟩
  have hR:=(hO.fr0 f1).row.partN (c:=c) (i:=i+1) (s:=3) (by omega) (by omega)
  obtain ⟨w2,hap,hO2,f2,s2⟩:=Ef.appendIn (P:=Tryz.prog) (t:=XT) (ty:=XT) (s:=3) (by kernel_rfl) hOc (m:=l - (i+1)) (d:=c - (i+1)) hR (by rw [List.length_drop,hvl,Nat.sub_mul]) (fun u hu=>h1 u (List.mem_of_mem_drop hu)) (by omega)
  refine ⟨_,_,_,_,hap,?_⟩
  have el:i+(l - (i+1))=l - 1:=by omega
  rw [el] at hO2
  rw [el]
  refine ⟨_,_,_,Xy1 (s:=3) (by kernel_rfl) (a:=l - 1) (b:=l) (by omega) hlc,?_⟩
  rw [Xmw (show c≠l - 1 by omega)]
  obtain ⟨hl2,⟨hh,_⟩ | ⟨g2,o2,N2,f2',he,hB2,hoc2,hlc2,hf2⟩⟩:=hO2
  · cases hh
  cases he
  obtain ⟨w3,zs,hcl,f3,hz,hB3,s3⟩:=Ef.clearN (P:=Tryz.prog) (t:=XT) (s:=3) (by kernel_rfl) hB2 (o:=o+(l - 1)*3) (n:=l - (l - 1)) (d:=c - (l - 1)) (by omega)
  refine ⟨w3,hcl,?_⟩
  refine hk w3 ((f1.mono (by simp)).trans f2 (fun x hx=>.inl hx) |>.trans f3 (fun x hx=>.inl (by simpa [Xb] using hx))) ⟨hl2,.inr ⟨g,o,N2,_,rfl,hB3,hoc2,hlc2,fun j v hj=>?_⟩⟩
  have hjl:=(List.getElem?_eq_some_iff.1 hj).1
  unfold updN
  rw [dif_neg (by omega)]
  exact hf2 j v hj
theorem XqG (h:RingAt w b p es N lo) {s:Int}
    (hk:∀ w' es',Fr (b::Xb p) w w'→RingAt w' b p es' N lo→(∀ e∈es',e∈es)→(Uy (es.map RE.ke) s≠0→es'=es)→es'.map RE.ke=Xdn (es.map RE.ke) s→K (.int .i64 (Uy (es.map RE.ke) s)) w') :
    Xa Tryz.prog XeT #[.pointer (some ⟨b,0,none⟩),.int .i64 s] w K:=by
  apply XbT
  unfold QD
  have hlen:=h.len
  refine Xdo h fun w1 f1=>⟨_,rfl,?_⟩
  have same:∀ (r:Int),Uy (es.map RE.ke) s=r→r≠0→K (.int .i64 r) w1:=by
    intro r hr h0
    have:=hk w1 es (f1.mono (by simp)) (h.fr0 f1) (fun _ h=>h) (fun _=>rfl) (by unfold Xdn; rw [if_neg (by rw [hr]; exact h0)])
    rw [hr] at this; exact this
  refine Xd (fun hs=>?_) fun hs1=>?_
  · unfold ZA
    exact Xl (same 11 (by unfold Uy; rw [if_pos (.inl hs)]) (by omega))
  unfold ZA
  refine Xd (fun hs=>same 11 (by unfold Uy; rw [if_pos (.inr hs)]) (by omega)) fun hs2=>?_
  have hin:¬ (s<0∨127<s):=by omega
  unfold Uk
  by_cases hs:hasK (es.map RE.ke) s
  · rw [if_pos hs]
    refine Xd (fun hh=>by omega) fun _=>?_
    have hz:Uy (es.map RE.ke) s=0:=by unfold Uy; rw [if_neg hin,if_pos hs]
    have hil:Yz (es.map RE.ke) s<es.length:=by have:Yz (es.map RE.ke) s<(es.map RE.ke).length:=hs; rwa [List.length_map] at this
    have hrK:Xdn (es.map RE.ke) s=((es.map RE.ke).take (Yz (es.map RE.ke) s)++(es.map RE.ke).drop (Yz (es.map RE.ke) s+1)):=by unfold Xdn; rw [if_pos hz]
    obtain ⟨i,hi⟩:∃ i,i=Yz (es.map RE.ke) s:=⟨_,rfl⟩
    rw [← hi] at hil hrK ⊢
    unfold Vx
    have h1:=h.fr0 f1
    obtain ⟨f,c,hB,e1,hO⟩:=h1.blk
    refine ⟨_,rfl,_,_,_,by rw [Xg]; exact Ld.blk (by kernel_rfl) hB (by omega) e1,?_⟩
    have ew:IntKind.i64.wrap ((i:Int)+1)=((i+1:Nat):Int):=by rw [Xe (by omega) (by omega)]; omega
    rw [ew]
    refine XkV hO hil (by omega) (XhX es) fun w2 f2 hO2=>⟨_,_,_,rfl,_,rfl,?_⟩
    have harr:=h.arr
    have hB2:=hB.fr f2 fun hm=>(harr b hm).2 rfl
    rw [Xg]
    refine Sto.blk (by kernel_rfl) hB2 (by omega) rfl rfl fun w3 f3 hB3 s3=>?_
    have f13:Fr (b::Xb p) w1 w3:=(f2.mono (fun k hk=>List.mem_cons_of_mem _ hk)).trans f3 (fun k hk=>.inl (by simp at hk; simp [hk]))
    have f03:Fr (b::Xb p) w w3:=(f1.mono (by simp)).trans f13 (fun k hk=>.inl hk)
    have hsub:(es.take i++es.drop (i+1)).Sublist es:=by
      have:(es.eraseIdx i).Sublist es:=List.eraseIdx_sublist ..
      rwa [List.eraseIdx_eq_take_drop_succ] at this
    have hmem:∀ e∈es.take i++es.drop (i+1),e∈es:=fun e he=>hsub.subset he
    have hln:(es.take i++es.drop (i+1)).length=es.length - 1:=by rw [List.length_append,List.length_take,List.length_drop]; omega
    have:=hk w3 (es.take i++es.drop (i+1)) f03 ⟨⟨_,c,hB3,by rw [hln]; exact upd_same _ _ _,?_⟩,?_,by rw [hln]; omega,h.pw.sublist hsub,fun k hk e he=>h.sep k hk e (hmem e he),harr,Nat.le_trans h.siz f03.size⟩ hmem (fun hh=>absurd hz hh) ?_
    · rw [hz] at this; exact this
    · rw [hln,List.flatMap_append,← Xlg RE.v_len,← Xlh RE.v_len]
      exact hO2.fr f3 fun k hk hm=>(harr k hk).2 (by simpa using hm)
    · intro e he
      exact ⟨(h.ent e (hmem e he)).1.fr f03 fun k hk=>h.sep k hk e (hmem e he),(h.ent e (hmem e he)).2⟩
    · rw [hrK,List.map_append,List.map_take,List.map_drop]
  · rw [if_neg hs]
    exact Xd (fun _=>same 17 (by unfold Uy; rw [if_neg hin,if_neg hs]) (by omega)) fun hh=>by omega
theorem XrU (h:RingAt w b p es N lo) (hk:∀ c p' w',Fr [] w w'→RingAt w' c p' es N lo→(∀ k∈c::Xb p',w.heap.size≤k)→K (.pointer (some ⟨c,0,none⟩)) w') :
    Xa Tryz.prog XgD #[.pointer (some ⟨b,0,none⟩)] w K:=by
  apply XcQ
  unfold Xar
  obtain ⟨f,c,hB,e0,hO⟩:=h.blk
  have hlen:=h.len
  have hsz:=h.siz
  refine ⟨_,rfl,_,_,_,by rw [Xg]; exact Ld.blk (by kernel_rfl) hB (by omega) e0,?_⟩
  have fin:∀ (p':Option Addr) (c':Nat) (w1:World),Fr [] w w1→OwnN 3 w1 p' es.length c' (es.flatMap RE.v)→(∀ k∈Xb p',w.heap.size≤k)→New #[.slice p' es.length c'] XrB w1 fun k9 w2=>K (.pointer (some ⟨k9,0,none⟩)) w2:=by
    intro p' c' w1 f1 hO1 hp
    refine New.intro fun w2 f2 hB2 s2=>?_
    have f02:=f1.then f2
    have n1:=f1.size
    have hk':∀ k∈w1.heap.size::Xb p',w.heap.size≤k:=fun k hk=>by
      rcases List.mem_cons.1 hk with rfl | hk
      · exact n1
      · exact hp k hk
    refine hk _ p' w2 f02 ⟨⟨_,c',hB2,rfl,hO1.fr0 f2⟩,fun e he=>⟨(h.ent e he).1.fr0 f02,(h.ent e he).2⟩,hlen,h.pw,fun k hk e he=>.inr (by have:=(h.ent e he).1.lh; have:=hk' k hk; omega),fun k hk=>⟨by have:=hp k hk; omega,by have:=hO1.lt k hk; omega⟩,by have:=f02.size; omega⟩ hk'
  apply JC
  unfold Ze
  refine ⟨_,_,sliceNil (by kernel_rfl),XQ (fun hp=>?_) fun hp=>?_⟩
  · cases p with
    | some a=>cases hp
    | none=>
      obtain ⟨hl,⟨_,h0,hc0⟩ | ⟨g,o,N,f,hh,_⟩⟩:=hO
      · have he:es=[]:=List.length_eq_zero_iff.1 h0
        subst he
        exact ⟨_,_,_,rfl,fin none 0 w (Fr.refl _ _) (OwnN.nil _ _) (by simp [Xb])⟩
      · cases hh
  · refine ⟨_,_,_,Ef.new (cs:=#[]) (v:=.slice (some ⟨w.heap.size,0,none⟩) 0 0) (e:=YD) (by kernel_rfl) fun w1 f1 hB1 s1=>?_⟩
    have hO1:OwnN 3 w1 (some ⟨w.heap.size,0,none⟩) 0 0 []:=⟨rfl,.inr ⟨_,_,_,_,rfl,hB1,by simp,by simp,by simp⟩⟩
    obtain ⟨p',c',w2,hap,hO2,f2,hcase⟩:=Ef.appendN (P:=Tryz.prog) (t:=XT) (ty:=XT) (s:=3) (by kernel_rfl) hO1 (m:=es.length) (d:=c) (hO.fr0 f1).row (Xo7 RE.v_len es) (XhX es) (by omega)
    rw [Nat.zero_add,List.nil_append] at hO2
    rw [Nat.zero_add] at hap
    refine ⟨_,_,_,_,hap,_,_,_,rfl,fin p' c' w2 (f1.trans f2 fun k hk=>.inr (by simp [Xb] at hk; omega)) hO2 fun k hk=>?_⟩
    rcases hcase with ⟨rfl,_,_⟩ | ⟨rfl,_,_⟩
    · simp [Xb] at hk; omega
    · simp only [Xb,List.mem_singleton] at hk; omega
end
end Go.Sh
end

section
namespace Go.Sh
open Go Go.Fw Go.Proofs
set_option maxRecDepth 100000
set_option linter.unusedVariables false
structure RR where
  sq:Nat
  key:List UInt8
  kp:Option Addr
  kc:Nat
def RR.ke (e:RR):KE:=⟨e.sq,e.key⟩
def RR.v (e:RR):List Value:=[.int .i64 (e.sq:Int),.slice e.kp 16 e.kc]
theorem RR.v_len (e:RR):e.v.length=2:=rfl
theorem RR.v_one (e:RR):∀ u∈e.v,u.oneCell'=true:=by
  intro u hu
  simp [RR.v] at hu
  rcases hu with rfl | rfl <;> rfl
theorem XhY (rs:List RR):∀ u∈rs.flatMap RR.v,u.oneCell'=true:=Xuh RR.v_one rs
structure RefAt (w:World) (r:Nat) (q:Option Addr) (rs:List RR) (lo:Nat):Prop where
  blk:∃ f c,Blk w r 1 f∧f 0=.slice q rs.length c∧OwnN 2 w q rs.length c (rs.flatMap RR.v)
  ent:∀ e∈rs,Row w e.kp (e.key.map vb)∧e.key.length=16∧16≤e.kc∧∀ k∈Xb e.kp,k∉r::Xb q∧k<w.heap.size
  len:rs.length≤16
  arr:∀ k∈Xb q,lo≤k∧k≠r
  siz:lo≤w.heap.size
def Xbi (r:Nat) (q:Option Addr) (rs:List RR) (k:Nat):Prop:=k∉r::Xb q∧∀ e∈rs,k∉Xb e.kp
section
variable {w:World} {r lo:Nat} {q:Option Addr} {rs:List RR} {K:VWP}
theorem RefAt.fr {w':World} {L:List Nat} (h:RefAt w r q rs lo) (hf:Fr L w w') (hL:∀ k∈L,Xbi r q rs k):RefAt w' r q rs lo:=by
  obtain ⟨⟨f,c,hB,e0,hO⟩,h2,h3,h4,h5⟩:=h
  refine ⟨⟨f,c,hB.fr hf fun hb=>(hL r hb).1 (List.mem_cons_self ..),e0,hO.fr hf fun k hk hm=>(hL k hm).1 (List.mem_cons_of_mem _ hk)⟩,fun e he=>?_,h3,h4,Nat.le_trans h5 hf.size⟩
  obtain ⟨a1,a2,a3,a4⟩:=h2 e he
  exact ⟨Row.cells_fr a1 hf fun k hk hm=>(hL k hm).2 e he hk,a2,a3,fun k hk=>⟨(a4 k hk).1,Nat.lt_of_lt_of_le (a4 k hk).2 hf.size⟩⟩
theorem RefAt.fr0 {w':World} (h:RefAt w r q rs lo) (hf:Fr [] w w'):RefAt w' r q rs lo:=h.fr hf (by simp)
theorem RefAt.lt (h:RefAt w r q rs lo):∀ k∈r::Xb q,k<w.heap.size:=by
  obtain ⟨⟨f,c,hB,e0,hO⟩,_⟩:=h
  intro k hk
  rcases List.mem_cons.1 hk with rfl | hk
  · exact hB.lt
  · exact hO.lt k hk
theorem RefAt.ofNew {f:Nat→Value} (hB:Blk w r 1 f) (h0:f 0=.slice none 0 0):RefAt w r none [] w.heap.size:=
  ⟨⟨f,0,hB,h0,OwnN.nil _ _⟩,by simp,by simp,by simp [Xb],Nat.le_refl _⟩
theorem Xi1 {i:Nat} {e:RR} (he:rs[i]?=some e):(rs.map RR.ke)[i]?=some e.ke:=by rw [List.getElem?_map,he]; rfl
theorem XkW {l c i:Nat} {e:RR} (hO:OwnN 2 w q l c (rs.flatMap RR.v)) (hl:l=rs.length) (he:rs[i]?=some e) :
    ∃ g o,IxA Tryz.prog XF (.slice q l c) (.int .i64 (i:Int)) ⟨g,o,none⟩∧Ld Tryz.prog Ye (.pointer (some ((⟨g,o,none⟩:Addr).add 0))) w (.int .i64 (e.sq:Int))∧
      Ld Tryz.prog Xf (.pointer (some ((⟨g,o,none⟩:Addr).add 1))) w (.slice e.kp 16 e.kc):=by
  have hil:i<l:=by have:=(List.getElem?_eq_some_iff.1 he).1; omega
  obtain ⟨g,o,hx,_,hc⟩:=hO.cellAt (P:=Tryz.prog) (t:=XF) (by kernel_rfl) (k:=.i64) (i:=i) hil (by omega)
  have hc':∀ j v,e.v[j]?=some v→w.cell? ⟨g,o+j,none⟩=some v:=fun j v hj=>by
    have hlt:=(List.getElem?_eq_some_iff.1 hj).1
    exact hc j v (by rw [RR.v_len] at hlt; omega) (XeL RR.v_len he hj)
  exact ⟨g,o,hx,by rw [Xg]; exact Ld.cell (by kernel_rfl) (hc' 0 _ rfl),by rw [Xg]; exact Ld.cell (by kernel_rfl) (hc' 1 _ rfl)⟩
theorem XaL (h:RefAt w r q rs lo) {s:Int} (hk:K (.int .i64 (Uk (rs.map RR.ke) s)) w):Xa Tryz.prog XgM #[.pointer (some ⟨r,0,none⟩),.int .i64 s] w K:=by
  apply XcT
  unfold Xas
  obtain ⟨f,c,hB,e0,hO⟩:=h.blk
  have hlen:=h.len
  have ldx:Ld Tryz.prog XF (.pointer (some ((⟨r,0,none⟩:Addr).add 0))) w (.slice q rs.length c):=by rw [Xg]; exact Ld.blk (by kernel_rfl) hB (by omega) e0
  refine LoopS.ind (fun k us w'=>w'=w∧∃ i:Nat,i+k=rs.length∧us=[.pointer (some ⟨r,0,none⟩),.int .i64 s,.int .i64 0,.int .i64 (i:Int)]∧∀ j,j<i→∀ e,(rs.map RR.ke)[j]?=some e→(e.sq:Int)≠s) rs.length ⟨rfl,0,by omega,rfl,by omega⟩ ?_
  rintro k us rr w2 I μ hgo ⟨rfl,i,hi,rfl,hs⟩
  refine ⟨_,_,_,_,rfl,_,rfl,_,_,_,ldx,Xd (fun h3=>?_) fun h3=>?_⟩
  · obtain ⟨e,he⟩:∃ e,rs[i]?=some e:=⟨_,List.getElem?_eq_getElem (by omega)⟩
    obtain ⟨g,o,hx,hsq,_⟩:=XkW hO rfl he
    refine ⟨_,rfl,_,_,_,ldx,_,hx,_,hsq,Xx (fun heq=>?_) fun hne=>?_⟩
    · obtain ⟨e1,e2⟩:=XqD (Xi1 he) heq hs
      unfold Uk at hk
      rw [if_pos e2,e1] at hk
      exact hk
    · rw [Xe (by omega) (by omega)]
      refine hgo _ _ _ (k - 1) (by omega) ⟨rfl,i+1,by omega,rfl,fun j hj e' he'=>?_⟩
      by_cases hji:j=i
      · subst hji
        rw [Xi1 he] at he'
        cases he'
        exact hne
      · exact hs j (by omega) e' he'
  · have hno:=XsC (ks:=rs.map RR.ke) (s:=s) fun j hj e he=>hs j (by rw [List.length_map] at hj; omega) e he
    unfold Uk at hk
    rw [if_neg hno] at hk
    exact hk
theorem XqH (h:RefAt w r q rs lo) {s:Int} {kq:Option Addr} {l cap:Nat} {key:List UInt8} (hx:Row w kq (key.map vb)) (hl:l=key.length) (hcap:l≤cap)
    (hk:∀ w' q' rs',Fr (r::Xb q) w w'→RefAt w' r q' rs' lo→(∀ k∈Xb q',k∈Xb q∨w.heap.size≤k)→(∀ e∈rs',e∈rs∨∀ k∈Xb e.kp,w.heap.size≤k)→rs'.map RR.ke=Xi0 (rs.map RR.ke) s key→K (.int .i64 (Ja (rs.map RR.ke) s key)) w') :
    Xa Tryz.prog Xco #[.pointer (some ⟨r,0,none⟩),.int .i64 s,.slice kq l cap] w K:=by
  apply Q4
  unfold Wc
  have hlen:=h.len
  have same:∀ (n:Int),Ja (rs.map RR.ke) s key=n→n≠0→K (.int .i64 n) w:=by
    intro n hr h0
    have:=hk w q rs (Fr.refl _ _) h (fun k hk=>.inl hk) (fun e he=>.inl he) (by unfold Xi0; rw [if_neg (by rw [hr]; exact h0)])
    rw [hr] at this; exact this
  refine Xd (fun hs=>same 11 (by unfold Ja; rw [if_pos (.inl hs)]) (by omega)) fun hs1=>Xd (fun hs=>same 11 (by unfold Ja; rw [if_pos (.inr (.inl hs))]) (by omega)) fun hs2=>Xt (fun h16=>same 11 (by unfold Ja; rw [if_pos (.inr (.inr (by omega)))]) (by omega)) fun h16=>?_
  have hin:¬ (s<0∨127<s∨key.length≠16):=by omega
  unfold UY
  refine XaL h ⟨_,rfl,?_⟩
  unfold Uk
  by_cases hs:hasK (rs.map RR.ke) s
  · rw [if_pos hs]
    exact Xd (fun _=>same 16 (by unfold Ja; rw [if_neg hin,if_pos hs]) (by omega)) fun hh=>by omega
  · rw [if_neg hs]
    refine Xd (fun hh=>by omega) fun _=>?_
    obtain ⟨f,c,hB,e1,hO⟩:=h.blk
    have ldx:∀ {w'},Fr [] w w'→Ld Tryz.prog XF (.pointer (some ((⟨r,0,none⟩:Addr).add 0))) w' (.slice q rs.length c):=fun {w'} f=>by rw [Xg]; exact Ld.blk (by kernel_rfl) (hB.fr0 f) (by omega) e1
    refine ⟨_,rfl,_,_,_,ldx (Fr.refl _ _),Xx (fun h3=>?_) fun h3=>?_⟩
    · exact same 18 (by unfold Ja; rw [if_neg hin,if_neg hs,if_pos (by rw [List.length_map]; omega)]) (by omega)
    · have hz:Ja (rs.map RR.ke) s key=0:=by unfold Ja; rw [if_neg hin,if_neg hs,if_neg (by rw [List.length_map]; omega)]
      refine ⟨fun w'=>Fr [] w w',Drw.intro fun w2 f2 s2=>⟨_,rfl,_,_,_,⟨f2,fun w' hw'=>ldx hw'⟩,?_⟩⟩
      refine mk0 fun p3 w3 f3 hO3 s3=>⟨.inr (f2.then f3),?_⟩
      refine XY (m:=l) hO3 (by omega) ((hx.fr0 f2).fr0 f3) hl (by omega) fun kp kc w4 f4 hO4=>?_
      have f24:Fr [] w2 w4:=f3.trans f4 (fun y hy=>.inr (hO3.2.2 y hy))
      have f04:=f2.then f24
      refine ⟨.inr f04,?_⟩
      have hl16:0+l=16:=by omega
      rw [hl16,List.nil_append] at hO4
      rw [hl16]
      obtain ⟨e,he⟩:∃ e:RR,e=⟨s.toNat,key,kp,kc⟩:=⟨_,rfl⟩
      refine ⟨_,_,_,Ef.new (v:=.slice (some ⟨w4.heap.size,0,none⟩) 1 1) (cs:=(([.int .i64 s,.slice kp 16 kc]:List Value)).toArray) (e:=Xhq) (by kernel_rfl) fun w5 f5 hB5 s5=>⟨.inr (f04.then f5),?_⟩⟩
      have ev:e.v=[.int .i64 s,.slice kp 16 kc]:=by
        rw [he]
        show [Value.int .i64 (s.toNat:Int),.slice kp 16 kc]=_
        rw [Int.toNat_of_nonneg (by omega)]
      rw [← ev] at hB5
      have f05:=f04.then f5
      obtain ⟨q',c',w6,hap,hO6,f6,hcase⟩:=Ef.appendN (P:=Tryz.prog) (t:=XF) (ty:=XF) (s:=2) (by kernel_rfl) (hO.fr0 f05) (m:=1) (d:=1) hB5.rowL rfl e.v_one (by omega)
      refine ⟨_,_,_,_,hap,?_⟩
      have hql:∀ k∈r::Xb q,k<w.heap.size:=h.lt
      have hrl:=hql r (List.mem_cons_self ..)
      have harr:=h.arr
      have hB6:=(hB.fr0 f05).fr f6 fun hm=>(harr r hm).2 rfl
      refine ⟨_,rfl,?_⟩
      rw [Xg]
      refine Sto.blk (by kernel_rfl) hB6 (by omega) rfl rfl fun w7 f7 hB7 s7=>?_
      have n2:=f2.size; have n3:=f3.size; have n24:=f24.size; have n5:=f5.size; have n6:=f6.size; have n7:=f7.size; have n05:=f05.size
      have hq':∀ k∈Xb q',k∈Xb q∨w5.heap.size≤k:=by
        rcases hcase with ⟨rfl,_⟩ | ⟨rfl,_⟩
        · exact fun k hk=>.inl hk
        · intro k hk; simp only [Xb,List.mem_singleton] at hk; right; omega
      have hqn:∀ k∈Xb q',k≠r:=by
        intro k hk hkr
        rcases hq' k hk with hh | hh
        · exact (harr k hh).2 hkr
        · omega
      have hqc:∀ k∈r::Xb q',k∈r::Xb q∨w5.heap.size≤k:=by
        intro k hk
        rcases List.mem_cons.1 hk with rfl | hk
        · exact .inl (List.mem_cons_self ..)
        · rcases hq' k hk with hh | hh
          · exact .inl (List.mem_cons_of_mem _ hh)
          · exact .inr hh
      have f57:Fr (r::Xb q) w5 w7:=(f6.mono (fun k hk=>List.mem_cons_of_mem _ hk)).trans f7 (fun k hk=>.inl (by simp at hk; simp [hk]))
      have f07:Fr (r::Xb q) w w7:=(f05.mono (by simp)).trans f57 (fun k hk=>.inl hk)
      have:=hk w7 q' (rs++[e]) f07 ?_ (fun k hk=>by rcases hq' k hk with hh | hh; exact .inl hh; right; omega) (fun x hx=>?_) ?_
      · rw [hz] at this; exact this
      · have hsz:=h.siz
        refine ⟨⟨_,c',hB7,by rw [List.length_append]; exact upd_same _ _ _,?_⟩,?_,by rw [List.length_append]; show rs.length+1≤16; omega,fun k hk=>⟨?_,hqn k hk⟩,by omega⟩
        · rw [List.length_append,List.flatMap_append,List.flatMap_cons,List.flatMap_nil,List.append_nil]
          exact hO6.fr f7 fun k hk hm=>hqn k hk (by simpa using hm)
        · intro x hx
          rcases List.mem_append.1 hx with hx | hx
          · obtain ⟨a1,a2,a3,a4⟩:=h.ent x hx
            refine ⟨Row.cells_fr a1 f07 fun k hk hm=>(a4 k hk).1 hm,a2,a3,fun k hk=>⟨fun hm=>?_,by have:=(a4 k hk).2; omega⟩⟩
            rcases hqc k hm with hh | hh
            · exact (a4 k hk).1 hh
            · have:=(a4 k hk).2; omega
          · simp at hx; subst hx
            rw [he]
            refine ⟨Row.cells_fr (hO4.fr0 f5).row f57 fun k hk hm=>by have:=hO4.2.2 k hk; have:=hql k hm; omega,by show key.length=16; omega,hO4.cap,fun k hk=>⟨fun hm=>?_,by have:=hO4.lt k hk; omega⟩⟩
            have h1:=hO4.2.2 k hk; have h2:=hO4.lt k hk
            rcases hqc k hm with hh | hh
            · have:=hql k hh; omega
            · omega
        · rcases hq' k hk with hh | hh
          · exact (harr k hh).1
          · omega
      · rcases List.mem_append.1 hx with hx | hx
        · exact .inl hx
        · simp at hx; subst hx
          right
          rw [he]
          intro k hk
          have:=hO4.2.2 k hk; omega
      · unfold Xi0
        rw [if_pos hz,List.map_append,he]; rfl
theorem XrV (h:RefAt w r q rs lo) {s:Int}
    (hk:∀ w' q' rs',Fr (r::Xb q) w w'→RefAt w' r q' rs' lo→(∀ k∈Xb q',k∈Xb q∨w.heap.size≤k)→(∀ e∈rs',e∈rs)→rs'.map RR.ke=Xdn (rs.map RR.ke) s→K (.int .i64 (Uy (rs.map RR.ke) s)) w') :
    Xa Tryz.prog Xd6 #[.pointer (some ⟨r,0,none⟩),.int .i64 s] w K:=by
  apply Xa8
  unfold WQ
  have hlen:=h.len
  have same:∀ (n:Int),Uy (rs.map RR.ke) s=n→n≠0→K (.int .i64 n) w:=by
    intro n hr h0
    have:=hk w q rs (Fr.refl _ _) h (fun k hk=>.inl hk) (fun e he=>he) (by unfold Xdn; rw [if_neg (by rw [hr]; exact h0)])
    rw [hr] at this; exact this
  refine Xd (fun hs=>same 11 (by unfold Uy; rw [if_pos (.inl hs)]) (by omega)) fun hs1=>Xd (fun hs=>same 11 (by unfold Uy; rw [if_pos (.inr hs)]) (by omega)) fun hs2=>?_
  have hin:¬ (s<0∨127<s):=by omega
  unfold Vf
  refine XaL h ⟨_,rfl,?_⟩
  unfold Uk
  by_cases hs:hasK (rs.map RR.ke) s
  · rw [if_pos hs]
    refine Xd (fun hh=>by omega) fun _=>?_
    have hz:Uy (rs.map RR.ke) s=0:=by unfold Uy; rw [if_neg hin,if_pos hs]
    have hil:Yz (rs.map RR.ke) s<rs.length:=by have:Yz (rs.map RR.ke) s<(rs.map RR.ke).length:=hs; rwa [List.length_map] at this
    have hrK:Xdn (rs.map RR.ke) s=((rs.map RR.ke).take (Yz (rs.map RR.ke) s)++(rs.map RR.ke).drop (Yz (rs.map RR.ke) s+1)):=by unfold Xdn; rw [if_pos hz]
    obtain ⟨i,hi⟩:∃ i,i=Yz (rs.map RR.ke) s:=⟨_,rfl⟩
    rw [← hi] at hil hrK ⊢
    obtain ⟨f,c,hB,e1,hO⟩:=h.blk
    have hlc:=hO.cap
    have ldx:∀ {w'},Fr [] w w'→Ld Tryz.prog XF (.pointer (some ((⟨r,0,none⟩:Addr).add 0))) w' (.slice q rs.length c):=fun {w'} f=>by rw [Xg]; exact Ld.blk (by kernel_rfl) (hB.fr0 f) (by omega) e1
    have ew:IntKind.i64.wrap ((i:Int)+1)=((i+1:Nat):Int):=by rw [Xe (by omega) (by omega)]; omega
    refine ⟨fun w'=>Fr [] w w',Drw.intro fun w2 f2 s2=>⟨_,rfl,_,rfl,_,_,_,⟨f2,fun w' hw'=>ldx hw'⟩,?_⟩⟩
    rw [ew]
    refine ⟨_,_,_,Xx1 (s:=2) (by kernel_rfl) (n:=i) (by omega),_,_,_,⟨f2,fun w' hw'=>ldx hw'⟩,_,_,_,Xui (s:=2) (by kernel_rfl) (n:=i+1) (by omega) hlc,?_⟩
    refine ⟨_,_,_,Ef.new (cs:=#[]) (v:=.slice (some ⟨w2.heap.size,0,none⟩) 0 0) (e:=Xhq) (by kernel_rfl) fun w3 f3 hB3 s3=>⟨.inr (f2.then f3),?_⟩⟩
    have hO3:OwnN 2 w3 (some ⟨w2.heap.size,0,none⟩) 0 0 []:=⟨rfl,.inr ⟨_,_,_,_,rfl,hB3,by simp,by simp,by simp⟩⟩
    have f03:=f2.then f3
    have hv:=hO.1
    have hR1:Row w3 (Go.Fw.partAt q c 0 2) ((rs.flatMap RR.v).take (i*2)):=by
      have:=((hO.fr0 f03).row.partN (c:=c) (i:=0) (s:=2) (by omega) (by omega)).take (i*2)
      rwa [Nat.zero_mul,List.drop_zero] at this
    obtain ⟨p4,c4,w4,hap4,hO4,f4,hcase4⟩:=Ef.appendN (P:=Tryz.prog) (t:=XF) (ty:=XF) (s:=2) (by kernel_rfl) hO3 (m:=i) (d:=c) hR1 (by rw [List.length_take]; omega) (fun u hu=>XhY rs u (List.mem_of_mem_take hu)) (by omega)
    rw [Nat.zero_add,List.nil_append] at hO4
    rw [Nat.zero_add] at hap4
    have hp4:∀ k∈Xb p4,w.heap.size≤k:=by
      have:=f2.size; have:=f3.size
      rcases hcase4 with ⟨rfl,_⟩ | ⟨rfl,_⟩
      · intro k hk; simp [Xb] at hk; omega
      · intro k hk; simp only [Xb,List.mem_singleton] at hk; omega
    have f24:Fr [] w2 w4:=f3.trans f4 (fun k hk=>.inr (by simp [Xb] at hk; omega))
    have f04:=f2.then f24
    refine ⟨_,_,_,_,hap4,.inr f04,?_⟩
    have hR2:=(hO.fr0 f04).row.partN (c:=c) (i:=i+1) (s:=2) (by omega) (by omega)
    obtain ⟨p5,c5,w5,hap5,hO5,f5,hcase5⟩:=Ef.appendN (P:=Tryz.prog) (t:=XF) (ty:=XF) (s:=2) (by kernel_rfl) hO4 (m:=rs.length - (i+1)) (d:=c - (i+1)) hR2 (by rw [List.length_drop,hv,Nat.sub_mul]) (fun u hu=>XhY rs u (List.mem_of_mem_drop hu)) (by omega)
    have hp5:∀ k∈Xb p5,w.heap.size≤k:=by
      have:=f04.size
      rcases hcase5 with ⟨rfl,_⟩ | ⟨rfl,_⟩
      · exact hp4
      · intro k hk; simp only [Xb,List.mem_singleton] at hk; omega
    have f05:Fr [] w w5:=f04.trans f5 (fun k hk=>.inr (hp4 k hk))
    refine ⟨_,_,_,_,hap5,_,rfl,?_⟩
    have hrl:=h.lt r (List.mem_cons_self ..)
    rw [Xg]
    refine Sto.blk (by kernel_rfl) (hB.fr0 f05) (by omega) rfl rfl fun w6 f6 hB6 s6=>?_
    have f06:Fr (r::Xb q) w w6:=(f05.mono (by simp)).trans f6 (fun k hk=>.inl (by simp at hk; simp [hk]))
    have n6:=f06.size
    have hsub:(rs.take i++rs.drop (i+1)).Sublist rs:=by
      have:(rs.eraseIdx i).Sublist rs:=List.eraseIdx_sublist ..
      rwa [List.eraseIdx_eq_take_drop_succ] at this
    have hmem:∀ e∈rs.take i++rs.drop (i+1),e∈rs:=fun e he=>hsub.subset he
    have hln:(rs.take i++rs.drop (i+1)).length=rs.length - 1:=by rw [List.length_append,List.length_take,List.length_drop]; omega
    have hln2:i+(rs.length - (i+1))=rs.length - 1:=by omega
    have:=hk w6 p5 (rs.take i++rs.drop (i+1)) f06 ⟨⟨_,c5,hB6,by rw [hln,hln2]; exact upd_same _ _ _,?_⟩,?_,by rw [hln]; omega,fun k hk=>⟨by have:=hp5 k hk; have:=h.siz; omega,fun hh=>by have:=hp5 k hk; omega⟩,Nat.le_trans h.siz n6⟩ (fun k hk=>.inr (hp5 k hk)) hmem ?_
    · rw [hz] at this; exact this
    · rw [hln,List.flatMap_append,← Xlg RR.v_len,← Xlh RR.v_len,← hln2]
      exact hO5.fr f6 fun k hk hm=>by have:=hp5 k hk; simp at hm; omega
    · intro e he
      obtain ⟨a1,a2,a3,a4⟩:=h.ent e (hmem e he)
      refine ⟨Row.cells_fr a1 f06 fun k hk hm=>(a4 k hk).1 hm,a2,a3,fun k hk=>⟨fun hm=>?_,by have:=(a4 k hk).2; omega⟩⟩
      rcases List.mem_cons.1 hm with hkr | hm
      · exact (a4 k hk).1 (by rw [hkr]; exact List.mem_cons_self ..)
      · have:=hp5 k hm; have:=(a4 k hk).2; omega
    · rw [hrK,List.map_append,List.map_take,List.map_drop]
  · rw [if_neg hs]
    exact Xd (fun _=>same 17 (by unfold Uy; rw [if_neg hin,if_neg hs]) (by omega)) fun hh=>by omega
end
end Go.Sh
end

section
namespace Go.Sh
open Go Go.Fw Go.Proofs
set_option maxRecDepth 100000
set_option linter.unusedVariables false
structure RC where
  op:Int
  sq:Int
  kp:Option Addr
  kc:Nat
  key:List UInt8
def RC.v (x:RC):List Value:=[.int .i64 x.op,.int .i64 x.sq,.slice x.kp x.key.length x.kc]
theorem RC.v_len (x:RC):x.v.length=3:=rfl
def RC.ok (w:World) (x:RC):Prop:=Row w x.kp (x.key.map vb)∧x.key.length≤x.kc
theorem RC.ok.fr0 {w w':World} {x:RC} (h:RC.ok w x) (f:Fr [] w w'):RC.ok w' x:=⟨h.1.fr0 f,h.2⟩
def VZ (ks:List KE) (x:RC):List KE:=if x.op=0 then Xi0 ks x.sq x.key else if x.op=1 then Xdn ks x.sq else ks
section
variable {w:World} {K:VWP}
def Apart (b:Nat) (p:Option Addr) (es:List RE) (r:Nat) (q:Option Addr) (rs:List RR):Prop:=(∀ k∈b::Xb p,Xbi r q rs k)∧∀ k∈r::Xb q,offR b p es k
def inR (es:List RE) (z:Nat):Prop:=∃ e∈es,e.lo≤z∧z<e.hi
def Vo (es:List RE) (rs:List RR):Prop:=∀ z,inR es z→∀ e∈rs,z∉Xb e.kp
theorem XsE {b r:Nat} {p q:Option Addr} {es:List RE} {rs:List RR} (h:Apart b p es r q rs) (k:Vo es rs) {z:Nat} (hz:inR es z):Xbi r q rs z:=
  ⟨fun hm=>by obtain ⟨e,he,h1,h2⟩:=hz; have:=(h.2 z hm).2 e he; omega,k z hz⟩
theorem Zw {b lo:Nat} {p:Option Addr} {es:List RE} {N:Int} (h:RingAt w b p es N lo) {k:Nat} (hk:w.heap.size≤k):offR b p es k:=
  ⟨fun hm=>by have:=h.lt k hm; omega,fun e he=>by have:=(h.ent e he).1.lh; omega⟩
theorem Wp {b:Nat} {p p':Option Addr} {es es':List RE} {k:Nat} (h:offR b p es k) (hk:k<w.heap.size) (hp:∀ k∈Xb p',k∈Xb p∨w.heap.size≤k) (he:∀ e∈es',e∈es∨w.heap.size≤e.lo):offR b p' es' k:=by
  refine ⟨fun hm=>?_,fun e hm=>?_⟩
  · rcases List.mem_cons.1 hm with rfl | hm
    · exact h.1 (List.mem_cons_self ..)
    · rcases hp k hm with hh | hh
      · exact h.1 (List.mem_cons_of_mem _ hh)
      · omega
  · rcases he e hm with hh | hh
    · exact h.2 e hh
    · left; omega
theorem Xdp {r lo:Nat} {q:Option Addr} {rs:List RR} (h:RefAt w r q rs lo) {k:Nat} (hk:w.heap.size≤k):Xbi r q rs k:=
  ⟨fun hm=>by have:=h.lt k hm; omega,fun e he hm=>by have:=((h.ent e he).2.2.2 k hm).2; omega⟩
theorem XaM {r:Nat} {q q':Option Addr} {rs rs':List RR} {k:Nat} (h:Xbi r q rs k) (hk:k<w.heap.size) (hp:∀ k∈Xb q',k∈Xb q∨w.heap.size≤k) (he:∀ e∈rs',e∈rs∨∀ k∈Xb e.kp,w.heap.size≤k):Xbi r q' rs' k:=by
  refine ⟨fun hm=>?_,fun e hm hm2=>?_⟩
  · rcases List.mem_cons.1 hm with rfl | hm
    · exact h.1 (List.mem_cons_self ..)
    · rcases hp k hm with hh | hh
      · exact h.1 (List.mem_cons_of_mem _ hh)
      · omega
  · rcases he e hm with hh | hh
    · exact h.2 e hh hm2
    · have:=hh k hm2; omega
theorem Apart.stepR {b lo lo2 r:Nat} {p p' q:Option Addr} {es es':List RE} {rs:List RR} {N:Int} (h:Apart b p es r q rs) (hR:RingAt w b p es N lo) (hS:RefAt w r q rs lo2) (hp:∀ k∈Xb p',k∈Xb p∨w.heap.size≤k) (he:∀ e∈es',e∈es∨w.heap.size≤e.lo):Apart b p' es' r q rs:=by
  refine ⟨fun k hk=>?_,fun k hk=>Wp (h.2 k hk) (hS.lt k hk) hp he⟩
  rcases List.mem_cons.1 hk with rfl | hk
  · exact h.1 _ (List.mem_cons_self ..)
  · rcases hp k hk with hh | hh
    · exact h.1 k (List.mem_cons_of_mem _ hh)
    · exact Xdp hS hh
theorem Apart.stepS {b lo lo2 r:Nat} {p q q':Option Addr} {es:List RE} {rs rs':List RR} {N:Int} (h:Apart b p es r q rs) (hR:RingAt w b p es N lo) (hS:RefAt w r q rs lo2) (hp:∀ k∈Xb q',k∈Xb q∨w.heap.size≤k) (he:∀ e∈rs',e∈rs∨∀ k∈Xb e.kp,w.heap.size≤k):Apart b p es r q' rs':=by
  refine ⟨fun k hk=>XaM (h.1 k hk) (hR.lt k hk) hp he,fun k hk=>?_⟩
  rcases List.mem_cons.1 hk with rfl | hk
  · exact h.2 _ (List.mem_cons_self ..)
  · rcases hp k hk with hh | hh
    · exact h.2 k (List.mem_cons_of_mem _ hh)
    · exact Zw hR hh
theorem Xcf {b lo:Nat} {p:Option Addr} {es:List RE} {N:Int} (h:RingAt w b p es N lo) (hN:1≤N) {s:Int} {q:Option Addr} {l cap:Nat} {key:List UInt8} (hx:Row w q (key.map vb)) (hl:l=key.length) (hcap:l≤cap)
    (hk:∀ w' p' es',Fr (b::Xb p) w w'→RingAt w' b p' es' N lo→(∀ k∈Xb p',k∈Xb p∨w.heap.size≤k)→(∀ e∈es',e∈es∨w.heap.size≤e.lo)→es'.map RE.ke=Xi0 (es.map RE.ke) s key→K (.int .i64 (Ja (es.map RE.ke) s key)) w') :
    Xa Tryz.prog JI #[.pointer (some ⟨b,0,none⟩),.int .i64 s,.slice q l cap] w K:=by
  refine Xop h hN hx hl hcap fun w' p' es' f hR hp hne heq=>?_
  by_cases h0:Ja (es.map RE.ke) s key=0
  · obtain ⟨e,rfl,e1,e2⟩:=heq h0
    refine hk w' p' _ f hR hp (fun x hx=>?_) (by unfold Xi0; rw [if_pos h0,List.map_append,List.map_cons,e1]; rfl)
    rcases List.mem_append.1 hx with hx | hx
    · exact .inl hx
    · simp at hx; subst hx; exact .inr e2
  · obtain ⟨rfl,rfl⟩:=hne h0
    exact hk w' _ _ f hR hp (fun x hx=>.inl hx) (by unfold Xi0; rw [if_neg h0])
theorem XuZ {po:Option Addr} {l co lo:Nat} {key:List UInt8} {bb:Bool} (hO:OB w po l co key lo) (hlb:l<1000000) (h:∀ w',Fr (Xb po) w w'→K (.bool bb) w'):JH false po l co bb w K:=by
  unfold JH
  refine LoopS.ind (fun k us w'=>∃ (i:Nat) (xs:List UInt8),i+k=l∧us=[.bool false,.slice po l co,.bool bb,.int .i64 (i:Int)]∧Fr (Xb po) w w'∧OB w' po l co xs lo) l ⟨0,key,by omega,rfl,Fr.refl _ _,hO⟩ ?_
  rintro k us rr w2 I μ hgo ⟨i,xs,hi,rfl,f2,hO2⟩
  refine ⟨_,_,_,_,_,_,rfl,Xd (fun h3=>?_) fun _=>h w2 f2⟩
  obtain ⟨a,ha,hca⟩:=hO2.get (k:=.i64) (i:=i) (by omega)
  refine ⟨_,ha,_,Ld.cell (by kernel_rfl) hca,?_⟩
  obtain ⟨y,hy⟩:∃ y:UInt8,IntKind.u8.wrap (((fl xs i).toNat:Int)+1)=(y.toNat:Int):=XwU (by rw [IntKind.wrap_u8]; omega) (by rw [IntKind.wrap_u8]; omega)
  rw [hy,Xe (by omega) (by omega)]
  refine hO2.sto (k:=.i64) (i:=i) (x:=y) (by omega) fun w3 f3 hO3 s3=>?_
  exact hgo _ _ _ (k - 1) (by omega) ⟨i+1,_,by omega,rfl,f2.trans f3 (fun x hx=>.inl hx),hO3⟩
theorem XsF {b lo r lo2:Nat} {p q:Option Addr} {es:List RE} {rs:List RR} {N:Int} {x:RC} (hR:RingAt w b p es N lo) (hN:1≤N) (hS:RefAt w r q rs lo2) (hA:Apart b p es r q rs) (hx:RC.ok w x) (hxs:∀ w',Fr (b::Xb p) w w'→Row w' x.kp (x.key.map vb)) (hxl:x.key.length≤100)
    (hk:∀ w' p' es' q' rs' bb,Fr ((b::Xb p)++(r::Xb q)) w w'→RingAt w' b p' es' N lo→RefAt w' r q' rs' lo2→Apart b p' es' r q' rs'→(∀ k∈Xb p',k∈Xb p∨w.heap.size≤k)→(∀ k∈Xb q',k∈Xb q∨w.heap.size≤k)→(∀ e∈es',e∈es∨w.heap.size≤e.lo)→(∀ e∈rs',e∈rs∨∀ k∈Xb e.kp,w.heap.size≤k)→(Vo es rs→Vo es' rs')→
      es'.map RE.ke=VZ (es.map RE.ke) x→rs'.map RR.ke=VZ (rs.map RR.ke) x→(es.map RE.ke=rs.map RR.ke→bb=true)→K (.bool bb) w') :
    Xa Tryz.prog Xs7 #[.pointer (some ⟨b,0,none⟩),.pointer (some ⟨r,0,none⟩),.agg #[.int .i64 x.op,.int .i64 x.sq,.slice x.kp x.key.length x.kc]] w K:=by
  apply XnW
  unfold XpZ
  have hRl:=hR.lt; have hSl:=hS.lt
  refine New.intro fun w1 f1 hB1 s1=>?_
  obtain ⟨k5,hk5⟩:∃ k,k=w.heap.size:=⟨_,rfl⟩
  rw [← hk5] at hB1 ⊢
  have hB:Blk w1 k5 3 (fun i=>(#[.int .i64 x.op,.int .i64 x.sq,.slice x.kp x.key.length x.kc]:Array Value).getD i undef):=hB1
  have ld0:∀ {w':World},Blk w' k5 3 (fun i=>(#[.int .i64 x.op,.int .i64 x.sq,.slice x.kp x.key.length x.kc]:Array Value).getD i undef)→Ld Tryz.prog Ye (.pointer (some ((⟨k5,0,none⟩:Addr).add 0))) w' (.int .i64 x.op):=fun {w'} hB=>Ld.blk (by kernel_rfl) hB (by omega) rfl
  have ld1:∀ {w':World},Blk w' k5 3 (fun i=>(#[.int .i64 x.op,.int .i64 x.sq,.slice x.kp x.key.length x.kc]:Array Value).getD i undef)→Ld Tryz.prog Ye (.pointer (some ((⟨k5,0,none⟩:Addr).add 1))) w' (.int .i64 x.sq):=fun {w'} hB=>by rw [Xg]; exact Ld.blk (by kernel_rfl) hB (by omega) rfl
  have ld2:∀ {w':World},Blk w' k5 3 (fun i=>(#[.int .i64 x.op,.int .i64 x.sq,.slice x.kp x.key.length x.kc]:Array Value).getD i undef)→Ld Tryz.prog Xf (.pointer (some ((⟨k5,0,none⟩:Addr).add 2))) w' (.slice x.kp x.key.length x.kc):=fun {w'} hB=>by rw [Xg]; exact Ld.blk (by kernel_rfl) hB (by omega) rfl
  refine ⟨_,_,_,ld2 hB,Z9 (hx.1.fr0 f1) rfl (by omega) fun po co w2 f2 hO=>⟨_,_,_,rfl,?_⟩⟩
  have hB2:=hB.fr0 f2
  have f02:=f1.then f2
  have n1:=f1.size; have n2:=f2.size
  have keep:∀ {w':World},Fr ((b::Xb p)++(r::Xb q)) w2 w'→Blk w' k5 3 (fun i=>(#[.int .i64 x.op,.int .i64 x.sq,.slice x.kp x.key.length x.kc]:Array Value).getD i undef):=fun {w'} f=>hB2.fr f fun hm=>by
    rcases List.mem_append.1 hm with hh | hh
    · have:=hRl _ hh; omega
    · have:=hSl _ hh; omega
  have hR2:=hR.fr0 f02; have hS2:=hS.fr0 f02
  have tail : ∀ (w' : World) (p' q' : Option Addr) (es' : List RE) (rs' : List RR) (bb : Bool), Fr ((b :: Xb p) ++ (r :: Xb q)) w2 w' → RingAt w' b p' es' N lo → RefAt w' r q' rs' lo2 → Apart b p' es' r q' rs' → (∀ k ∈ Xb p', k ∈ Xb p ∨ w2.heap.size ≤ k) → (∀ k ∈ Xb q', k ∈ Xb q ∨ w2.heap.size ≤ k) → (∀ e ∈ es', e ∈ es ∨ w2.heap.size ≤ e.lo) → (∀ e ∈ rs', e ∈ rs ∨ ∀ k ∈ Xb e.kp, w2.heap.size ≤ k) → (Vo es rs → Vo es' rs') →
      es'.map RE.ke=VZ (es.map RE.ke) x→rs'.map RR.ke=VZ (rs.map RR.ke) x→(es.map RE.ke=rs.map RR.ke→bb=true)→JH false po x.key.length co bb w' K:=by
    intro w' p' q' es' rs' bb f hR' hS' hA' hp hq he hr hko h1 h2 h3
    have hnew:∀ k∈Xb po,w.heap.size≤k∧k<w2.heap.size:=fun k hk=>⟨by have:=hO.2.2 k hk; omega,hO.lt k hk⟩
    have hO':OB w' po x.key.length co x.key w1.heap.size:=hO.fr f fun k hk hm=>by
      have:=(hnew k hk).1
      rcases List.mem_append.1 hm with hh | hh
      · have:=hRl _ hh; omega
      · have:=hSl _ hh; omega
    refine XuZ hO' (by omega) fun w3 f3=>?_
    have f03:Fr ((b::Xb p)++(r::Xb q)) w w3:=((f02.mono (by simp)).trans f (fun y hy=>.inl hy)).trans f3 fun y hy=>.inr (hnew y hy).1
    refine hk w3 p' es' q' rs' bb f03 (hR'.fr f3 fun k hk=>Wp (w:=w2) (Zw hR (hnew k hk).1) (hnew k hk).2 hp he) (hS'.fr f3 fun k hk=>XaM (w:=w2) (Xdp hS (hnew k hk).1) (hnew k hk).2 hq hr) hA' (fun k hk=>?_) (fun k hk=>?_) (fun e hm=>?_) (fun e hm=>?_) hko h1 h2 h3
    · rcases hp k hk with hh | hh
      · exact .inl hh
      · right; omega
    · rcases hq k hk with hh | hh
      · exact .inl hh
      · right; omega
    · rcases he e hm with hh | hh
      · exact .inl hh
      · right; omega
    · rcases hr e hm with hh | hh
      · exact .inl hh
      · right; intro k hk; have:=hh k hk; omega
  refine ⟨_,ld0 hB2,Xx (fun h0=>?_) fun h0=>Xx (fun h1=>?_) fun h1=>?_⟩
  · refine ⟨fun w'=>Fr ((b::Xb p)++(r::Xb q)) w2 w',Drw.intro fun w3 f3 s3=>?_⟩
    have f3':Fr ((b::Xb p)++(r::Xb q)) w2 w3:=f3.mono (by simp)
    refine ⟨_,⟨f3',fun w' hw'=>ld1 (keep hw')⟩,_,⟨f3',fun w' hw'=>ld1 (keep hw')⟩,_,_,_,⟨f3',fun w' hw'=>ld2 (keep hw')⟩,?_⟩
    have hR3:=hR2.fr0 f3; have hS3:=hS2.fr0 f3
    refine Xcf hR3 hN (hO.fr0 f3).row hO.2.1 hO.cap fun w4 p4 es4 f4 hR4 hp4 he4 hm4=>⟨_,rfl,?_⟩
    have f34:Fr ((b::Xb p)++(r::Xb q)) w2 w4:=f3'.trans f4 fun y hy=>.inl (List.mem_append_left _ hy)
    have hS4:=hS3.fr f4 hA.1
    have hA4:=hA.stepR hR3 hS3 hp4 he4
    refine ⟨.inr f34,?_⟩
    have hrow:=hxs w4 ((f02.mono (by simp)).trans ((f3.mono (by simp)).trans f4 fun y hy=>.inl hy) fun y hy=>.inl hy)
    refine XqH hS4 hrow rfl hx.2 fun w5 q5 rs5 f5 hS5 hq5 hr5 hm5=>⟨_,rfl,?_⟩
    have hR5:=hR4.fr f5 hA4.2
    have hA5:=hA4.stepS hR4 hS4 hq5 hr5
    have n3:=f3.size; have n4:=f4.size
    refine tail w5 p4 q5 es4 rs5 _ (f34.trans f5 fun y hy=>.inl (List.mem_append_right _ hy)) hR5 hS5 hA5 (fun k hk=>?_) (fun k hk=>?_) (fun e hm=>?_) (fun e hm=>?_) (fun hko z hz e' he' hm=>?_) ?_ ?_ (fun hh=>by rw [hh]; exact beq_self_eq_true _)
    · rcases hp4 k hk with hh | hh
      · exact .inl hh
      · right; omega
    · rcases hq5 k hk with hh | hh
      · exact .inl hh
      · right; omega
    · rcases he4 e hm with hh | hh
      · exact .inl hh
      · right; omega
    · rcases hr5 e hm with hh | hh
      · exact .inl hh
      · right; intro k hk; have:=hh k hk; omega
    · obtain ⟨e,he,h1,h2⟩:=hz
      have hlh:=(hR4.ent e he).1.lh
      rcases hr5 e' he' with hh | hh
      · rcases he4 e he with hh2 | hh2
        · exact hko z ⟨e,hh2,h1,h2⟩ e' hh hm
        · have:=((hS.ent e' hh).2.2.2 z hm).2; omega
      · have:=hh z hm; omega
    · unfold VZ; rw [if_pos h0,hm4]
    · unfold VZ; rw [if_pos h0,hm5]
  · refine ⟨fun w'=>Fr ((b::Xb p)++(r::Xb q)) w2 w',Drw.intro fun w3 f3 s3=>?_⟩
    have f3':Fr ((b::Xb p)++(r::Xb q)) w2 w3:=f3.mono (by simp)
    refine ⟨_,⟨f3',fun w' hw'=>ld1 (keep hw')⟩,_,⟨f3',fun w' hw'=>ld1 (keep hw')⟩,?_⟩
    have hR3:=hR2.fr0 f3; have hS3:=hS2.fr0 f3
    refine XqG hR3 fun w4 es4 f4 hR4 he4 _ hm4=>⟨_,rfl,?_⟩
    have f34:Fr ((b::Xb p)++(r::Xb q)) w2 w4:=f3'.trans f4 fun y hy=>.inl (List.mem_append_left _ hy)
    have hS4:=hS3.fr f4 hA.1
    have hA4:=hA.stepR (p':=p) hR3 hS3 (fun k hk=>.inl hk) (fun e he=>.inl (he4 e he))
    refine ⟨.inr f34,?_⟩
    refine XrV hS4 fun w5 q5 rs5 f5 hS5 hq5 hr5 hm5=>⟨_,rfl,?_⟩
    have hR5:=hR4.fr f5 hA4.2
    have hA5:=hA4.stepS hR4 hS4 hq5 (fun e he=>.inl (hr5 e he))
    have n3:=f3.size; have n4:=f4.size
    refine tail w5 p q5 es4 rs5 _ (f34.trans f5 fun y hy=>.inl (List.mem_append_right _ hy)) hR5 hS5 hA5 (fun k hk=>.inl hk) (fun k hk=>?_) (fun e hm=>.inl (he4 e hm)) (fun e hm=>.inl (hr5 e hm)) (fun hko z hz e' he'=>hko z (by obtain ⟨e,he,h12⟩:=hz; exact ⟨e,he4 e he,h12⟩) e' (hr5 e' he')) ?_ ?_ (fun hh=>by rw [hh]; exact beq_self_eq_true _)
    · rcases hq5 k hk with hh | hh
      · exact .inl hh
      · right; omega
    · unfold VZ; rw [if_neg h0,if_pos h1,hm4]
    · unfold VZ; rw [if_neg h0,if_pos h1,hm5]
  · refine tail w2 p q es rs true (Fr.refl _ _) hR2 hS2 hA (fun k hk=>.inl hk) (fun k hk=>.inl hk) (fun e hm=>.inl hm) (fun e hm=>.inl hm) (fun hko=>hko) ?_ ?_ fun _=>rfl
    · unfold VZ; rw [if_neg h0,if_neg h1]
    · unfold VZ; rw [if_neg h0,if_neg h1]
end
end Go.Sh
end

section
namespace Go.Sh
open Go Go.Fw Go.Proofs
set_option maxRecDepth 100000
set_option linter.unusedVariables false
theorem XV {b:Bool} {A B:Prop} (h:b=true) (ha:A):cond b A B:=by subst h; exact Xl ha
theorem Xxu {b:Bool} {A B:Prop} (h:b=false) (hb:B):cond b A B:=by subst h; exact Xi hb
def Z16:List UInt8:=List.replicate 16 0
section
variable {w:World} {K:VWP}
theorem RingAt.news {b lo:Nat} {p:Option Addr} {es:List RE} {N:Int} {w0 w':World} (h:RingAt w b p es N lo) (f0:Fr [] w0 w) (f:Fr (b::Xb p) w w') (hb:w0.heap.size≤b) (hlo:w0.heap.size≤lo):Fr [] w0 w':=
  f0.trans f fun k hk=>by
    rcases List.mem_cons.1 hk with rfl | hk
    · exact .inr hb
    · have:=(h.arr k hk).1; right; omega
theorem RefAt.news {r lo:Nat} {q:Option Addr} {rs:List RR} {w0 w':World} (h:RefAt w r q rs lo) (f0:Fr [] w0 w) (f:Fr (r::Xb q) w w') (hb:w0.heap.size≤r) (hlo:w0.heap.size≤lo):Fr [] w0 w':=
  f0.trans f fun k hk=>by
    rcases List.mem_cons.1 hk with rfl | hk
    · exact .inr hb
    · have:=(h.arr k hk).1; right; omega
theorem RingAt.keep {b lo:Nat} {p:Option Addr} {es:List RE} {N:Int} {w':World} (h:RingAt w b p es N lo) (f:Fr (b::Xb p) w w') {q:Option Addr} {l d lo0:Nat} {xs:List UInt8} (hO:OB w q l d xs lo0) (hlt:∀ k∈Xb q,k<lo∧k≠b):OB w' q l d xs lo0:=
  hO.fr f fun k hk hm=>by
    have:=hlt k hk
    rcases List.mem_cons.1 hm with hh | hm
    · exact this.2 hh
    · have:=(h.arr k hm).1; omega
end
end Go.Sh
end

section
namespace Go.Sh
open Go Go.Fw Go.Proofs
set_option maxRecDepth 100000
set_option linter.unusedVariables false
section
variable {w:World} {K:VWP}
theorem Apart.new {wa:World} {b lo r lo2:Nat} {p:Option Addr} {es:List RE} {N:Int} (hR:RingAt wa b p es N lo) (hr:wa.heap.size≤r):Apart b p es r none []:=
  ⟨fun k hk=>⟨fun hm=>by have:=hR.lt k hk; simp [Xb] at hm; omega,by simp⟩,fun k hk=>by simp [Xb] at hk; subst hk; exact Zw hR hr⟩
end
end Go.Sh
end

section
namespace Go.Sh
open Go Go.Fw Go.Proofs
set_option maxRecDepth 100000
set_option linter.unusedVariables false
def bA (n:Nat) (g:Nat→Bool):List Value:=(List.range n).map fun j=>.bool (g j)
theorem Vp (n:Nat) (g:Nat→Bool):(bA n g).length=n:=by simp [bA]
theorem Xyx {n:Nat} {g:Nat→Bool} {j:Nat} {v:Value} (h:(bA n g)[j]?=some v):j<n∧v=.bool (g j):=by
  have h1:=(List.getElem?_eq_some_iff.1 h).1
  rw [Vp] at h1
  simp [bA,h1] at h
  exact ⟨h1,h.symm⟩
theorem XwN {n:Nat} {g:Nat→Bool} {j:Nat} (h:j<n):(bA n g)[j]?=some (.bool (g j)):=by simp [bA,h]
theorem Xi2 {n:Nat} {g g':Nat→Bool} (h:∀ j,j<n→g j=g' j):bA n g=bA n g':=by
  unfold bA
  exact List.map_congr_left fun j hj=>by rw [h j (List.mem_range.1 hj)]
def PolB (w:World) (b n:Nat) (g:Nat→Bool):Prop:=∃ f,Blk w b n f∧∀ j,j<n→f j=.bool (g j)
section
variable {w:World} {b n:Nat} {g:Nat→Bool} {K:VWP}
theorem PolB.fr {L:List Nat} {w':World} (h:PolB w b n g) (hf:Fr L w w') (hn:b∉L):PolB w' b n g:=by obtain ⟨f,hB,r⟩:=h; exact ⟨f,hB.fr hf hn,r⟩
theorem PolB.fr0 {w':World} (h:PolB w b n g) (hf:Fr [] w w'):PolB w' b n g:=h.fr hf (by simp)
theorem PolB.lt (h:PolB w b n g):b<w.heap.size:=by obtain ⟨f,hB,_⟩:=h; exact hB.lt
theorem PolB.blk (h:PolB w b n g):∃ f,Blk w b n f:=by obtain ⟨f,hB,_⟩:=h; exact ⟨f,hB⟩
theorem PolB.congr {g':Nat→Bool} (h:PolB w b n g) (hg:∀ j,j<n→g j=g' j):PolB w b n g':=by obtain ⟨f,hB,r⟩:=h; exact ⟨f,hB,fun j hj=>by rw [r j hj,hg j hj]⟩
theorem Xdq {t:TypeId} {cs:Array Value} (he:cs=⟨bA n g⟩) {K:Nat→World→Prop} (h:∀ w',Fr [] w w'→PolB w' w.heap.size n g→w'.heap.size=w.heap.size+1→K w.heap.size w'):New cs t w K:=by
  subst he
  refine New.intro fun w' f hB s=>h w' f ⟨_,by simpa [Vp] using hB,fun j hj=>?_⟩ s
  rw [XwN hj]; rfl
theorem ldB {o:Nat} (h:∀ j,j<128→w.cell? ⟨b,o+j,none⟩=some (.bool (g j))):Ld Tryz.prog YW (.pointer (some ⟨b,o,none⟩)) w (.agg ⟨bA 128 g⟩):=by
  refine Ld.agg (n:=128) (cs:=bA 128 g) (by kernel_rfl) (by kernel_rfl) (Vp _ _) fun j v hj=>?_
  obtain ⟨h1,rfl⟩:=Xyx hj
  rw [Xg]; exact h j h1
theorem PolB.ld (h:PolB w b 128 g):Ld Tryz.prog YW (.pointer (some ⟨b,0,none⟩)) w (.agg ⟨bA 128 g⟩):=by
  obtain ⟨f,hB,hf⟩:=h
  refine ldB fun j hj=>?_
  rw [Nat.zero_add,hB.cell hj,hf j hj]
theorem PolB.get (h:PolB w b n g) {i:Nat} (hi:i<n):Ld Tryz.prog Xjo (.pointer (some ⟨b,i,none⟩)) w (.bool (g i)):=by
  obtain ⟨f,hB,hf⟩:=h
  exact Ld.blk (by kernel_rfl) hB hi (hf i hi)
theorem PolB.set (h:PolB w b n g) {i:Nat} {v:Bool} (hi:i<n) {K:World→Prop} (hk:∀ w',Fr [b] w w'→PolB w' b n (fun j=>if j=i then v else g j)→w'.heap.size=w.heap.size→K w') :
    ∃ w',Sto Tryz.prog Xjo (.pointer (some ⟨b,i,none⟩)) (.bool v) w w'∧K w':=by
  obtain ⟨f,hB,hf⟩:=h
  refine Sto.blk (by kernel_rfl) hB hi rfl rfl fun w' f' hB' s=>hk w' f' ⟨_,hB',fun j hj=>?_⟩ s
  show _=Value.bool (if j=i then v else g j)
  by_cases hji:j=i
  · rw [hji,upd_same,if_pos rfl]
  · rw [upd_ne _ _ _ hji,if_neg hji,hf j hj]
theorem Xgb {t:TypeId} {cs:Array Value} {f:Nat→Value} (he:cs=⟨bA n g⟩) (hs:res Tryz.prog (sizeOf t)=some n) (hB:Blk w b n f) {K:World→Prop} (h:∀ w',Fr [b] w w'→PolB w' b n g→w'.heap.size=w.heap.size→K w') :
    ∃ w',Sto Tryz.prog t (.pointer (some ⟨b,0,none⟩)) (.agg cs) w w'∧K w':=by
  subst he
  refine Sto.agg hs (Vp _ _) hB (by omega) (fun v hv=>?_) fun w' f' hB' s=>h w' f' ⟨_,hB',fun j hj=>?_⟩ s
  · obtain ⟨j,hj,rfl⟩:=List.mem_map.1 hv; rfl
  · unfold updN
    rw [dif_pos ⟨Nat.zero_le _,by rw [Vp]; omega⟩]
    simp [bA]
theorem ixP {k:IntKind} {i:Nat} (hi:i<128):IxA Tryz.prog YW (.pointer (some ⟨b,0,none⟩)) (.int k (i:Int)) ⟨b,i,none⟩:=by
  have:=YC (P:=Tryz.prog) (t:=YW) (n:=128) (by kernel_rfl) (b:=b) (o:=0) (k:=k) (i:=(i:Int)) (by omega) (by omega)
  rw [Int.toNat_natCast,Nat.zero_add] at this; exact this
theorem ixQ {k:IntKind} {i:Nat} (hi:i<255):IxA Tryz.prog Xht (.pointer (some ⟨b,0,none⟩)) (.int k (i:Int)) ⟨b,i,none⟩:=by
  have:=YC (P:=Tryz.prog) (t:=Xht) (n:=255) (by kernel_rfl) (b:=b) (o:=0) (k:=k) (i:=(i:Int)) (by omega) (by omega)
  rw [Int.toNat_natCast,Nat.zero_add] at this; exact this
theorem Xgq {K:Nat→World→Prop} (h:∀ w' f,Fr [] w w'→Blk w' w.heap.size 128 f→w'.heap.size=w.heap.size+1→K w.heap.size w'):∃ z,Pu Tryz.prog (zeroValue YW) z∧New z.cells YW w K:=XG (s:=128) (by kernel_rfl) h
theorem Xzf:∀ r:Nat,r<8→IntKind.u64.wrap (IntKind.i64.wrap (7 - (r:Int)))=((7 - r:Nat):Int):=by decide
theorem XtI (i m:Nat):Int.tmod (i:Int) (m:Int)=((i % m:Nat):Int):=rfl
theorem XwO (i m:Nat):Int.tdiv (i:Int) (m:Int)=((i / m:Nat):Int):=rfl
theorem Xu0 (i:Nat):IntKind.u64.wrap (IntKind.i64.wrap (7 - Int.tmod (i:Int) 8))=((7 - i % 8:Nat):Int):=by
  rw [show (8:Int)=((8:Nat):Int) from rfl,XtI]; exact Xzf _ (by omega)
theorem ix8 {i:Nat} (hi:i<128):IntKind.i64.wrap (Int.tdiv (i:Int) 8)=((i / 8:Nat):Int):=by
  rw [show (8:Int)=((8:Nat):Int) from rfl,XwO,Xe (by omega) (by omega)]
theorem Xxv (x s:Nat):(Int.tmod (Int.fdiv (x:Int) (2 ^ s)) 2 == 1)=x.testBit s:=by
  have e:Int.fdiv (x:Int) (2 ^ s)=((x / 2 ^ s:Nat):Int):=by
    rw [Int.fdiv_eq_ediv_of_nonneg _ (by exact_mod_cast Nat.zero_le _)]; push_cast; rfl
  rw [e,show (2:Int)=((2:Nat):Int) from rfl,XtI,Nat.testBit_eq_decide_div_mod_eq]
  by_cases h:x / 2 ^ s % 2=1
  · rw [h]; rfl
  · have:x / 2 ^ s % 2=0:=by omega
    rw [this]; rfl
theorem Xv4 {xs:List UInt8}:∀ {j:Nat},j<8*xs.length→(Xm xs).testBit (8*xs.length - 1 - j)=(fl xs (j / 8)).toNat.testBit (7 - j % 8):=by
  intro j hj
  have hq:j / 8<xs.length:=by omega
  have e:xs=xs.take (j / 8)++(xs[j / 8]::xs.drop (j / 8+1)):=by
    rw [← List.drop_eq_getElem_cons hq,List.take_append_drop]
  have hfl:fl xs (j / 8)=xs[j / 8]:=by unfold fl; rw [List.getD_eq_getElem?_getD,List.getElem?_eq_getElem hq]; rfl
  obtain ⟨D,hD⟩:∃ D,D=xs.drop (j / 8+1):=⟨_,rfl⟩
  obtain ⟨T,hT⟩:∃ T,T=xs.take (j / 8):=⟨_,rfl⟩
  have hDl:D.length=xs.length - (j / 8+1):=by rw [hD,List.length_drop]
  have hN:Xm xs=(Xm T*256+(xs[j / 8]).toNat)*256 ^ D.length+Xm D:=by
    have h2:xs=(T++[xs[j / 8]])++D:=by rw [hT,hD,List.append_assoc]; exact e
    have h3:=congrArg Xm h2
    rw [VY,XaI] at h3
    exact h3
  have hDlt:=ZO D
  rw [hN,hfl]
  have e256:256 ^ D.length=2 ^ (8*D.length):=by rw [Nat.pow_mul]
  have hx:8*xs.length - 1 - j=8*D.length+(7 - j % 8):=by rw [hDl]; omega
  rw [e256] at hDlt ⊢
  rw [hx,Nat.mul_comm,Nat.testBit_two_pow_mul_add _ hDlt,if_neg (by omega),Nat.add_sub_cancel_left]
  have hb:(xs[j / 8]).toNat<2 ^ 8:=(xs[j / 8]).toNat_lt
  rw [show Xm T*256+(xs[j / 8]).toNat=2 ^ 8*Xm T+(xs[j / 8]).toNat by omega,Nat.testBit_two_pow_mul_add _ hb,if_pos (by omega)]
theorem Xu1 {xs:List UInt8} (h:xs.length=16) {j:Nat} (hj:j<128):cf (Xm xs) j=(fl xs (j / 8)).toNat.testBit (7 - j % 8):=by
  unfold cf
  rw [decide_eq_true hj,Bool.true_and]
  have:=Xv4 (xs:=xs) (j:=j) (by omega)
  rw [h] at this
  exact this
theorem XkX (e:Nat):(Z5 e).length=16:=by simp [Z5,Yb]
theorem XtJ {e:Nat} (h:e<2 ^ 128):Xm (Z5 e)=e:=by
  unfold Z5
  rw [VY,Qd _ _ (by omega),Qd _ _ (by omega),Yb]
  omega
theorem XqI {p:Option Addr} {l c:Nat} {xs:List UInt8} (hx:Row w p (xs.map vb)) (hl:l=xs.length) (h16:l=16) (h:∀ w',Fr [] w w'→K (.agg ⟨bA 128 (cf (Xm xs))⟩) w'):Xa Tryz.prog Xs9 #[.slice p l c] w K:=by
  apply XnX
  unfold Xp0
  refine Xgq fun w1 g1 f1 hB1 s1=>Xgq fun w2 g2 f2 hB2 s2=>?_
  refine Xgb (n:=128) (g:=fun _=>false) (by kernel_rfl) (by kernel_rfl) hB2 fun w3 f3 hA3 s3=>?_
  have f03:Fr [] w w3:=(f1.then f2).st f3 (by omega)
  have hB13:=(hB1.fr0 f2).fr f3 (by simp; omega)
  refine LoopS.ind (fun k us w'=>∃ (i:Nat) (g:Nat→Bool),i+k=128∧us=[.slice p l c,.pointer (some ⟨w.heap.size,0,none⟩),.pointer (some ⟨w1.heap.size,0,none⟩),.int .i64 (i:Int)]∧Fr [] w w'∧(∃ g1,Blk w' w.heap.size 128 g1)∧PolB w' w1.heap.size 128 g∧∀ j,j<i→g j=cf (Xm xs) j) 128
    ⟨0,_,by omega,rfl,f03,⟨_,hB13⟩,hA3,by omega⟩ ?_
  rintro k us r w4 I μ hgo ⟨i,g,hi,rfl,f4,⟨g1,hB4⟩,hA4,hg⟩
  refine ⟨_,_,_,_,_,_,rfl,Xd (fun h1=>?_) (fun h1=>?_)⟩
  · have hi2:i<128:=by omega
    rw [ix8 hi2]
    obtain ⟨a,ha,hca⟩:=Xy (t:=Xf) (by kernel_rfl) (hx.fr0 f4) (c:=c) hl (i:=i / 8) (by omega) (k:=.i64)
    refine ⟨a,ha,_,Ld.cell (by kernel_rfl) hca,?_⟩
    rw [Xu0]
    refine ⟨_,Pu.shr (by omega),⟨w1.heap.size,i,none⟩,ixP hi2,?_⟩
    have e:min ((7 - i % 8:Nat):Int).toNat IntKind.u8.bits=7 - i % 8:=by
      have:IntKind.u8.bits=8:=rfl
      rw [this,Int.toNat_natCast]; omega
    rw [e,Xxv]
    refine hA4.set hi2 fun w5 f5 hA5 s5=>?_
    rw [Xe (by omega) (by omega)]
    refine hgo _ _ _ (k - 1) (by omega) ⟨i+1,_,by omega,rfl,f4.st f5 (by omega),⟨_,hB4.fr f5 (by simp; omega)⟩,hA5,fun j hj=>?_⟩
    show (if j=i then _ else g j)=_
    by_cases hji:j=i
    · subst hji; rw [if_pos rfl,Xu1 (by omega) hi2]; rfl
    · rw [if_neg hji]; exact hg j (by omega)
  · have hil:i=128:=by omega
    subst hil
    unfold XhC
    have e:bA 128 g=bA 128 (cf (Xm xs)):=Xi2 hg
    refine ⟨_,hA4.ld,Xgb rfl (by kernel_rfl) hB4 fun w5 f5 hA5 s5=>⟨_,_,rfl,hA5.ld,?_⟩⟩
    rw [e]
    exact h w5 (f4.st f5 (Nat.le_refl _))
theorem Xyy (x y:Bool):(!(x == y))=(x ^^ y):=by cases x <;> cases y <;> rfl
theorem Xu2 {p q:Nat→Bool} (h:∀ w',Fr [] w w'→K (.agg ⟨bA 128 (fun j=>p j ^^ q j)⟩) w'):Xa Tryz.prog Xrs #[.agg ⟨bA 128 p⟩,.agg ⟨bA 128 q⟩] w K:=by
  apply XlW
  unfold XmM
  refine Xdq rfl fun w1 f1 hA1 s1=>Xdq rfl fun w2 f2 hA2 s2=>Xgq fun w3 g3 f3 hB3 s3=>?_
  have f03:=(f1.then f2).then f3
  refine LoopS.ind (fun k us w'=>∃ (i:Nat) (g:Nat→Bool),i+k=128∧us=[.pointer (some ⟨w.heap.size,0,none⟩),.pointer (some ⟨w1.heap.size,0,none⟩),.pointer (some ⟨w2.heap.size,0,none⟩),.int .i64 (i:Int)]∧Fr [] w w'∧(∃ g1,Blk w' w2.heap.size 128 g1)∧PolB w' w1.heap.size 128 q∧PolB w' w.heap.size 128 g∧∀ j,j<128→g j=if j<i then p j ^^ q j else p j) 128
    ⟨0,_,by omega,rfl,f03,⟨_,hB3⟩,hA2.fr0 f3,hA1.fr0 (f2.then f3),fun j _=>by simp⟩ ?_
  rintro k us r w4 I μ hgo ⟨i,g,hi,rfl,f4,⟨g1,hB4⟩,hQ4,hA4,hg⟩
  refine ⟨_,_,_,_,rfl,Xd (fun h1=>?_) (fun h1=>?_)⟩
  · have hi2:i<128:=by omega
    refine ⟨fun w'=>PolB w' w.heap.size 128 g,Drw.intro fun w5 f5 s5=>?_⟩
    refine ⟨⟨_,i,none⟩,ixP hi2,⟨_,i,none⟩,ixP hi2,_,⟨hA4.fr0 f5,fun w' hw'=>hw'.get hi2⟩,_,(hQ4.fr0 f5).get hi2,.inl rfl,⟨_,i,none⟩,ixP hi2,?_⟩
    refine (hA4.fr0 f5).set hi2 fun w6 f6 hA6 s6=>?_
    rw [Xe (by omega) (by omega)]
    refine hgo _ _ _ (k - 1) (by omega) ⟨i+1,_,by omega,rfl,(f4.then f5).st f6 (Nat.le_refl _),⟨_,(hB4.fr0 f5).fr f6 (by simp; omega)⟩,(hQ4.fr0 f5).fr f6 (by simp; omega),hA6,fun j hj=>?_⟩
    show (if j=i then _ else g j)=_
    by_cases hji:j=i
    · subst hji; rw [if_pos rfl,if_pos (by omega),Xyy,hg j hj,if_neg (by omega)]
    · rw [if_neg hji,hg j hj]
      by_cases hlt:j<i
      · rw [if_pos hlt,if_pos (by omega)]
      · rw [if_neg hlt,if_neg (by omega)]
  · have hil:i=128:=by omega
    subst hil
    unfold XfE
    have e:bA 128 g=bA 128 (fun j=>p j ^^ q j):=Xi2 fun j hj=>by rw [hg j hj,if_pos hj]
    refine ⟨_,hA4.ld,Xgb rfl (by kernel_rfl) hB4 fun w5 f5 hA5 s5=>⟨_,_,rfl,hA5.ld,?_⟩⟩
    rw [e]
    exact h w5 (f4.st f5 (by omega))
end
end Go.Sh
end

section
namespace Go.Sh
open Go Go.Fw Go.Proofs
set_option maxRecDepth 100000
set_option linter.unusedVariables false
set_option linter.unusedSimpArgs false
section
variable {w:World} {b n:Nat} {g:Nat→Bool} {K:VWP}
theorem Xzx:∀ s:Nat,s<8→IntKind.u8.wrap (1*2 ^ min s 8)=(((UInt8.ofNat (2 ^ s)).toNat:Nat):Int)∧(UInt8.ofNat (2 ^ s)).toNat=2 ^ s:=by decide
theorem XrW {e:Nat} (he:e<2 ^ 128) (h:∀ q d w',Fr [] w w'→OB w' q 16 d (Z5 e) w.heap.size→K (.slice q 16 d) w'):Xa Tryz.prog XnB #[.agg ⟨bA 128 (cf e)⟩] w K:=by
  apply Xiy
  unfold XhB
  refine Xdq rfl fun w1 f1 hA1 s1=>?_
  refine mkN (n:=16) (c:=16) (by omega) (by omega) fun p0 w2 f2 hO2 s2=>?_
  have f02:=f1.then f2
  have n1:=f1.size
  refine LoopS.ind (fun k us w'=>∃ (i:Nat) (zs:List UInt8),i+k=128∧us=[.pointer (some ⟨w.heap.size,0,none⟩),.slice none 0 0,.slice p0 16 16,.int .i64 (i:Int)]∧Fr [] w w'∧PolB w' w.heap.size 128 (cf e)∧OB w' p0 16 16 zs w1.heap.size∧∀ j t,j<16→t<8→(fl zs j).toNat.testBit t=(decide (8*j+(7 - t)<i) && cf e (8*j+(7 - t)))) 128
    ⟨0,_,by omega,rfl,f02,hA1.fr0 f2,hO2,fun j t hj ht=>?_⟩ ?_
  · have:fl (List.replicate 16 (0:UInt8)) j=0:=by unfold fl; rw [List.getD_eq_getElem?_getD,List.getElem?_replicate]; split <;> rfl
    rw [this]; simp
  rintro k us r w4 I μ hgo ⟨i,zs,hi,rfl,f4,hA4,hO4,hz⟩
  refine ⟨_,_,_,_,_,_,_,_,rfl,Xd (fun h1=>?_) (fun h1=>?_)⟩
  · have hi2:i<128:=by omega
    have hzl:=hO4.2.1
    refine ⟨_,ixP hi2,_,hA4.get hi2,?_⟩
    rw [ix8 hi2,Xu0,Xe (n:=(i:Int)+1) (by omega) (by omega)]
    refine XQ (fun hb=>?_) fun hb=>?_
    · obtain ⟨a,ha,hca⟩:=hO4.get (k:=.i64) (i:=i / 8) (by omega)
      refine ⟨a,ha,_,Ld.cell (by kernel_rfl) hca,_,Pu.shl (by omega),?_⟩
      have e8:min ((7 - i % 8:Nat):Int).toNat IntKind.u8.bits=min (7 - i % 8) 8:=by rw [Int.toNat_natCast]; rfl
      obtain ⟨ep,ep2⟩:=Xzx (7 - i % 8) (by omega)
      rw [e8,ep,or8]
      refine hO4.sto (k:=.i64) (i:=i / 8) (by omega) fun w5 f5 hO5 s5=>?_
      refine hgo _ _ _ (k - 1) (by omega) ⟨i+1,_,by omega,rfl,f4.trans f5 (fun x hx=>.inr (by have:=hO4.2.2 x hx; omega)),hA4.fr f5 (fun hm=>by have:=hO4.2.2 _ hm; omega),hO5,fun j t hj ht=>?_⟩
      rw [Z4 (by omega)]
      by_cases hji:j=i / 8
      · subst hji
        rw [if_pos rfl,UInt8.toNat_or,Nat.testBit_or,ep2,Nat.testBit_two_pow,hz _ t hj ht]
        by_cases hti:7 - i % 8=t
        · have e1:8*(i / 8)+(7 - t)=i:=by omega
          rw [e1,hb,decide_eq_true hti,decide_eq_true (show i<i+1 by omega)]; simp
        · rw [decide_eq_false hti,Bool.or_false]
          have:(8*(i / 8)+(7 - t)<i)↔(8*(i / 8)+(7 - t)<i+1):=by omega
          rw [decide_eq_decide.2 this]
      · rw [if_neg hji,hz j t hj ht]
        have:(8*j+(7 - t)<i)↔(8*j+(7 - t)<i+1):=by omega
        rw [decide_eq_decide.2 this]
    · refine hgo _ _ _ (k - 1) (by omega) ⟨i+1,zs,by omega,rfl,f4,hA4,hO4,fun j t hj ht=>?_⟩
      rw [hz j t hj ht]
      by_cases hji:8*j+(7 - t)=i
      · rw [hji,hb]; simp
      · have:(8*j+(7 - t)<i)↔(8*j+(7 - t)<i+1):=by omega
        rw [decide_eq_decide.2 this]
  · have hil:i=128:=by omega
    subst hil
    have e1:zs=Z5 e:=Xcd (by rw [XkX,← hO4.2.1]) fun j hj=>by
      rw [← hO4.2.1] at hj
      apply UInt8.toNat_inj.1
      apply Nat.eq_of_testBit_eq
      intro t
      by_cases ht:t<8
      · rw [hz j t hj ht,decide_eq_true (by omega),Bool.true_and]
        have:=Xu1 (XkX e) (j:=8*j+(7 - t)) (by omega)
        rw [XtJ he] at this
        rw [this,show (8*j+(7 - t)) / 8=j by omega,show 7 - (8*j+(7 - t)) % 8=t by omega]
      · have hlt:∀ x:UInt8,x.toNat.testBit t=false:=fun x=>Nat.testBit_lt_two_pow (Nat.lt_of_lt_of_le x.toNat_lt (Nat.pow_le_pow_right (n:=2) (by omega) (show 8≤t by omega)))
        rw [hlt,hlt]
    rw [e1] at hO4
    exact h p0 16 w4 f4 (hO4.mono n1)
theorem PolB.flip (h:PolB w b n g) {i:Nat} (hi:i<n) {K:World→Prop} (hk:∀ w',Fr [b] w w'→PolB w' b n (fun j=>if j=i then !g i else g j)→w'.heap.size=w.heap.size→K w') :
    ∃ w',Sto Tryz.prog Xjo (.pointer (some ⟨b,i,none⟩)) (.bool (!g i)) w w'∧K w':=h.set hi hk
theorem XtK {i m:Nat} (h1:m≤i) (h2:i<1000):IntKind.i64.wrap ((i:Int) - (m:Int))=((i - m:Nat):Int):=by
  rw [Xe (by omega) (by omega)]; omega
theorem XsG (top m:Nat) (p:Nat→Bool):rF top (m+1) p=stp (top - m) (rF top m p):=rfl
theorem Xu3 {a b:Nat} (hb:b<2 ^ 128) (h:∀ w',Fr [] w w'→K (.agg ⟨bA 128 (cf (QL a b))⟩) w'):Xa Tryz.prog Xrr #[.agg ⟨bA 128 (cf a)⟩,.agg ⟨bA 128 (cf b)⟩] w K:=by
  apply XlV
  unfold XmL
  refine Xdq rfl fun w1 f1 hA1 s1=>Xdq rfl fun w2 f2 hB2 s2=>Xgq fun w3 g3 f3 hZ3 s3=>XG (s:=255) (by kernel_rfl) fun w4 g4 f4 hP4 s4=>?_
  refine Xgb (n:=255) (g:=fun _=>false) (by kernel_rfl) (by kernel_rfl) hP4 fun w5 f5 hC5 s5=>?_
  have f04:=((f1.then f2).then f3).then f4
  have n4:=((f1.then f2).then f3).size
  have f05:Fr [] w w5:=f04.st f5 n4
  have hA5:=(hA1.fr0 ((f2.then f3).then f4)).fr f5 (by simp; omega)
  have hB5:=(hB2.fr0 (f3.then f4)).fr f5 (by simp; omega)
  have hZ5:=(hZ3.fr0 f4).fr f5 (by simp; omega)
  obtain ⟨A,hA⟩:∃ A,A=w.heap.size:=⟨_,rfl⟩
  obtain ⟨B,hBn⟩:∃ B,B=w1.heap.size:=⟨_,rfl⟩
  obtain ⟨Z,hZ⟩:∃ Z,Z=w2.heap.size:=⟨_,rfl⟩
  obtain ⟨C,hC⟩:∃ C,C=w3.heap.size:=⟨_,rfl⟩
  rw [← hA] at hA5; rw [← hBn] at hB5; rw [← hZ] at hZ5; rw [← hC] at hC5
  rw [← hA,← hBn,← hZ,← hC]
  have oA:w.heap.size≤C∧A<C∧B<C∧Z<C∧w.heap.size≤Z∧A<Z∧B<Z:=by omega
  refine LoopS.ind (fun k us w'=>∃ i:Nat,i+k=128∧us=[.pointer (some ⟨A,0,none⟩),.pointer (some ⟨B,0,none⟩),.pointer (some ⟨Z,0,none⟩),.pointer (some ⟨C,0,none⟩),.int .i64 (i:Int)]∧Fr [] w w'∧PolB w' A 128 (cf a)∧PolB w' B 128 (cf b)∧(∃ g1,Blk w' Z 128 g1)∧PolB w' C 255 (Vm a b i)) 128
    ⟨0,by omega,rfl,f05,hA5,hB5,⟨_,hZ5⟩,hC5⟩ ?_
  rintro k us r w6 I μ hgo ⟨i,hi,rfl,f6,hA6,hB6,⟨g6,hZ6⟩,hC6⟩
  refine ⟨_,_,_,_,_,rfl,Xd (fun h1=>?_) (fun h1=>?_)⟩
  · have hi2:i<128:=by omega
    refine ⟨_,ixP hi2,_,hA6.get hi2,?_⟩
    refine XQ (fun hc=>?_) fun hc=>?_
    · have hc':cf a i=false:=by simpa using hc
      rw [Xe (by omega) (by omega)]
      refine hgo _ _ _ (k - 1) (by omega) ⟨i+1,by omega,rfl,f6,hA6,hB6,⟨g6,hZ6⟩,hC6.congr fun j _=>?_⟩
      show _=(Vm a b i j ^^ (cf a i && shN i (cf b) j))
      rw [hc']; simp
    · have hc':cf a i=true:=by simpa using hc
      refine LoopS.ind (fun k2 us w'=>∃ j:Nat,j+k2=128∧us=[.pointer (some ⟨A,0,none⟩),.pointer (some ⟨B,0,none⟩),.pointer (some ⟨Z,0,none⟩),.pointer (some ⟨C,0,none⟩),.int .i64 (i:Int),.int .i64 (j:Int)]∧Fr [] w w'∧PolB w' A 128 (cf a)∧PolB w' B 128 (cf b)∧(∃ g1,Blk w' Z 128 g1)∧
        PolB w' C 255 (fun t=>Vm a b i t ^^ (decide (t<i+j) && shN i (cf b) t))) 128
        ⟨0,by omega,rfl,f6,hA6,hB6,⟨g6,hZ6⟩,hC6.congr fun t _=>?_⟩ ?_
      · rw [XkP]
        by_cases ht:t<i
        · rw [decide_eq_false (show ¬ i≤t by omega)]; simp
        · rw [decide_eq_false (show ¬ t<i+0 by omega)]; simp
      rintro k2 us2 r2 w7 I2 μ2 hgo2 ⟨j,hj,rfl,f7,hA7,hB7,⟨g7,hZ7⟩,hC7⟩
      refine ⟨_,_,_,_,_,_,rfl,Xd (fun h2=>?_) (fun h2=>?_)⟩
      · have hj2:j<128:=by omega
        have hw:IntKind.i64.wrap ((i:Int)+(j:Int))=((i+j:Nat):Int):=by rw [Xe (by omega) (by omega)]; omega
        rw [hw]
        refine ⟨fun w'=>Fr [] w7 w',Drw.intro fun w8 f8 s8=>?_⟩
        refine ⟨_,ixQ (show i+j<255 by omega),_,ixP hj2,_,⟨f8,fun w' hw'=>(hC7.fr0 hw').get (by omega)⟩,_,(hB7.fr0 f8).get hj2,.inl rfl,_,ixQ (show i+j<255 by omega),?_⟩
        refine (hC7.fr0 f8).set (by omega) fun w9 f9 hC9 s9=>?_
        rw [Xe (n:=(j:Int)+1) (by omega) (by omega)]
        refine hgo2 _ _ _ (k2 - 1) (by omega) ⟨j+1,by omega,rfl,(f7.then f8).st f9 (by omega),(hA7.fr0 f8).fr f9 (by simp; omega),(hB7.fr0 f8).fr f9 (by simp; omega),⟨_,(hZ7.fr0 f8).fr f9 (by simp; omega)⟩,hC9.congr fun t _=>?_⟩
        show (if t=i+j then _ else _)=_
        by_cases ht:t=i+j
        · rw [if_pos ht]
          subst ht
          rw [Xyy,decide_eq_false (show ¬ i+j<i+j by omega),decide_eq_true (show i+j<i+(j+1) by omega),XkP,decide_eq_true (show i≤i+j by omega),Nat.add_sub_cancel_left]; simp
        · rw [if_neg ht]
          have:(t<i+j)↔(t<i+(j+1)):=by omega
          rw [decide_eq_decide.2 this]
      · have hjl:j=128:=by omega
        subst hjl
        rw [Xe (by omega) (by omega)]
        refine hgo _ _ _ (k - 1) (by omega) ⟨i+1,by omega,rfl,f7,hA7,hB7,⟨g7,hZ7⟩,hC7.congr fun t _=>?_⟩
        show _=(Vm a b i t ^^ (cf a i && shN i (cf b) t))
        rw [hc',Bool.true_and]
        by_cases ht:t<i+128
        · rw [decide_eq_true ht]; simp
        · rw [decide_eq_false ht,XkP]
          have:cf b (t - i)=false:=by unfold cf; rw [decide_eq_false (by omega)]; rfl
          rw [this]; simp
  · have hil:i=128:=by omega
    subst hil
    unfold XfD
    refine LoopS.ind (fun k us w'=>∃ m:Nat,m+k=127∧us=[.pointer (some ⟨Z,0,none⟩),.pointer (some ⟨C,0,none⟩),.int .i64 ((254 - m:Nat):Int)]∧Fr [] w w'∧(∃ g1,Blk w' Z 128 g1)∧PolB w' C 255 (rF 254 m (Vm a b 128))) 127
      ⟨0,by omega,rfl,f6,⟨g6,hZ6⟩,hC6⟩ ?_
    rintro k2 us2 r2 w7 I2 μ2 hgo2 ⟨m,hm,rfl,f7,⟨g7,hZ7⟩,hC7⟩
    refine ⟨_,_,_,rfl,Xd (fun h2=>?_) (fun h2=>?_)⟩
    · have hm2:m<127:=by omega
      obtain ⟨x,hx⟩:∃ x,x=254 - m:=⟨_,rfl⟩
      obtain ⟨G,hG⟩:∃ G,G=rF 254 m (Vm a b 128):=⟨_,rfl⟩
      rw [← hG] at hC7
      rw [← hx] at hgo2 ⊢
      have x1:128≤x:=by omega
      have x2:x<255:=by omega
      have ex:254 - (m+1)=x - 1:=by omega
      refine ⟨_,ixQ x2,_,hC7.get x2,?_⟩
      rw [show (128:Int)=((128:Nat):Int) from rfl,show (127:Int)=((127:Nat):Int) from rfl,show (126:Int)=((126:Nat):Int) from rfl,show (121:Int)=((121:Nat):Int) from rfl,XtK (m:=128) (by omega) (by omega),XtK (m:=127) (by omega) (by omega),XtK (m:=126) (by omega) (by omega),XtK (m:=121) (by omega) (by omega)]
      have ew:IntKind.i64.wrap ((x:Int) - 1)=((x - 1:Nat):Int):=by rw [Xe (by omega) (by omega)]; omega
      rw [ew]
      refine XQ (fun hc=>?_) fun hc=>?_
      · refine ⟨_,ixQ x2,hC7.set x2 fun v1 e1 hD1 t1=>⟨_,ixQ (show x - 128<255 by omega),_,hD1.get (by omega),_,ixQ (show x - 128<255 by omega),?_⟩⟩
        refine hD1.flip (show x - 128<255 by omega) fun v2 e2 hD2 t2=>⟨_,ixQ (show x - 127<255 by omega),_,hD2.get (by omega),_,ixQ (show x - 127<255 by omega),?_⟩
        refine hD2.flip (show x - 127<255 by omega) fun v3 e3 hD3 t3=>⟨_,ixQ (show x - 126<255 by omega),_,hD3.get (by omega),_,ixQ (show x - 126<255 by omega),?_⟩
        refine hD3.flip (show x - 126<255 by omega) fun v4 e4 hD4 t4=>⟨_,ixQ (show x - 121<255 by omega),_,hD4.get (by omega),_,ixQ (show x - 121<255 by omega),?_⟩
        refine hD4.flip (show x - 121<255 by omega) fun v5 e5 hD5 t5=>?_
        have fv:Fr [C] w7 v5:=(((e1.trans e2 (fun y hy=>.inl hy)).trans e3 (fun y hy=>.inl hy)).trans e4 (fun y hy=>.inl hy)).trans e5 (fun y hy=>.inl hy)
        refine hgo2 _ _ _ (k2 - 1) (by omega) ⟨m+1,by omega,by rw [ex],f7.st fv (by omega),⟨_,hZ7.fr fv (by simp; omega)⟩,hD5.congr fun t _=>?_⟩
        rw [XsG,← hx,← hG]
        unfold stp
        rw [hc,Bool.true_and]
        by_cases q0:t=x
        · subst q0
          rw [if_neg (by omega),if_neg (by omega),if_neg (by omega),if_neg (by omega),if_pos rfl,if_pos rfl]
        · by_cases q1:t=x - 128
          · subst q1
            have z1:¬ (x - 128=x):=by omega
            have y128:x - 128+128=x:=by omega
            have z127:¬ (x - 128=x - 127):=by omega
            have y127:¬ (x - 128+127=x):=by omega
            have z126:¬ (x - 128=x - 126):=by omega
            have y126:¬ (x - 128+126=x):=by omega
            have z121:¬ (x - 128=x - 121):=by omega
            have y121:¬ (x - 128+121=x):=by omega
            simp only [z1,z127,z126,z121,y128,y127,y126,y121,if_true,if_false,decide_true,decide_false,Bool.or_false,Bool.false_or,Bool.or_true,Bool.true_or,Bool.xor_true,↓reduceIte]
          · by_cases q2:t=x - 127
            · subst q2
              have z1:¬ (x - 127=x):=by omega
              have z128:¬ (x - 127=x - 128):=by omega
              have y128:¬ (x - 127+128=x):=by omega
              have y127:x - 127+127=x:=by omega
              have z126:¬ (x - 127=x - 126):=by omega
              have y126:¬ (x - 127+126=x):=by omega
              have z121:¬ (x - 127=x - 121):=by omega
              have y121:¬ (x - 127+121=x):=by omega
              simp only [z1,z128,z126,z121,y128,y127,y126,y121,if_true,if_false,decide_true,decide_false,Bool.or_false,Bool.false_or,Bool.or_true,Bool.true_or,Bool.xor_true,↓reduceIte]
            · by_cases q3:t=x - 126
              · subst q3
                have z1:¬ (x - 126=x):=by omega
                have z128:¬ (x - 126=x - 128):=by omega
                have y128:¬ (x - 126+128=x):=by omega
                have z127:¬ (x - 126=x - 127):=by omega
                have y127:¬ (x - 126+127=x):=by omega
                have y126:x - 126+126=x:=by omega
                have z121:¬ (x - 126=x - 121):=by omega
                have y121:¬ (x - 126+121=x):=by omega
                simp only [z1,z128,z127,z121,y128,y127,y126,y121,if_true,if_false,decide_true,decide_false,Bool.or_false,Bool.false_or,Bool.or_true,Bool.true_or,Bool.xor_true,↓reduceIte]
              · by_cases q4:t=x - 121
                · subst q4
                  have z1:¬ (x - 121=x):=by omega
                  have z128:¬ (x - 121=x - 128):=by omega
                  have y128:¬ (x - 121+128=x):=by omega
                  have z127:¬ (x - 121=x - 127):=by omega
                  have y127:¬ (x - 121+127=x):=by omega
                  have z126:¬ (x - 121=x - 126):=by omega
                  have y126:¬ (x - 121+126=x):=by omega
                  have y121:x - 121+121=x:=by omega
                  simp only [z1,z128,z127,z126,y128,y127,y126,y121,if_true,if_false,decide_true,decide_false,Bool.or_false,Bool.false_or,Bool.or_true,Bool.true_or,Bool.xor_true,↓reduceIte]
                · have y128:¬ (t+128=x):=by omega
                  have y127:¬ (t+127=x):=by omega
                  have y126:¬ (t+126=x):=by omega
                  have y121:¬ (t+121=x):=by omega
                  simp only [q0,q1,q2,q3,q4,y128,y127,y126,y121,decide_false,Bool.or_false,Bool.xor_false,↓reduceIte]
      · refine hgo2 _ _ _ (k2 - 1) (by omega) ⟨m+1,by omega,by rw [ex],f7,⟨_,hZ7⟩,hC7.congr fun t _=>?_⟩
        rw [XsG,← hx,← hG,Xdk hc]
    · have hml:m=127:=by omega
      subst hml
      unfold XfC
      refine Xgq fun u1 g1 e1 hY1 s1=>Xgb (n:=128) (g:=fun _=>false) (by kernel_rfl) (by kernel_rfl) hY1 fun u2 e2 hY2 s2=>?_
      have n7:=f7.size
      have hCl:=hC7.lt; have hZl:=hZ7.lt
      have f72:Fr [] w7 u2:=e1.st e2 (Nat.le_refl _)
      have hC2:=hC7.fr0 f72; have hZ2:=hZ7.fr0 f72
      obtain ⟨Y,hYe⟩:∃ Y,Y=w7.heap.size:=⟨_,rfl⟩
      rw [← hYe] at hY2 hZl hCl n7 ⊢
      refine LoopS.ind (fun k us w'=>∃ (t:Nat) (gg:Nat→Bool),t+k=128∧us=[.pointer (some ⟨Z,0,none⟩),.pointer (some ⟨C,0,none⟩),.pointer (some ⟨Y,0,none⟩),.int .i64 (t:Int)]∧Fr [] w w'∧(∃ g1,Blk w' Z 128 g1)∧PolB w' C 255 (red (Vm a b 128))∧PolB w' Y 128 gg∧∀ j,j<t→gg j=red (Vm a b 128) j) 128
        ⟨0,_,by omega,rfl,f7.then f72,⟨_,hZ2⟩,hC2,hY2,by omega⟩ ?_
      rintro k3 us3 r3 u3 I3 μ3 hgo3 ⟨t,gg,ht,rfl,f3',⟨g3',hZ3'⟩,hC3',hY3',hgg⟩
      refine ⟨_,_,_,_,rfl,Xd (fun h3=>?_) (fun h3=>?_)⟩
      · refine ⟨_,ixQ (show t<255 by omega),_,hC3'.get (by omega),_,ixP (show t<128 by omega),hY3'.set (by omega) fun u4 e4 hY4 s4'=>?_⟩
        rw [Xe (by omega) (by omega)]
        refine hgo3 _ _ _ (k3 - 1) (by omega) ⟨t+1,_,by omega,rfl,f3'.st e4 (by omega),⟨_,hZ3'.fr e4 (by simp; omega)⟩,hC3'.fr e4 (by simp; omega),hY4,fun j hj=>?_⟩
        show (if j=t then _ else _)=_
        by_cases hjt:j=t
        · rw [if_pos hjt,hjt]
        · rw [if_neg hjt]; exact hgg j (by omega)
      · have htl:t=128:=by omega
        subst htl
        unfold XfB
        have e:bA 128 gg=bA 128 (cf (QL a b)):=by rw [← Xxf hb]; exact Xi2 hgg
        refine ⟨_,hY3'.ld,Xgb rfl (by kernel_rfl) hZ3' fun u5 e5 hA5' s5'=>⟨_,_,rfl,hA5'.ld,?_⟩⟩
        rw [e]
        exact h u5 (f3'.st e5 (by omega))
end
end Go.Sh
end
