/- A part of a proof of a given law of this program: lemmas, printed forms of its functions, contracts. It has no conditions of its own. -/
import Derived.Lib.Bytealg
import Derived.Lib.MakeNoZero
import Derived.Lib.Builder
import Derived.Test.YtlnohlefimgdnaaGreatDoorME2

set_option maxHeartbeats 16000000
set_option linter.unusedVariables false
set_option linter.unusedSimpArgs false
section
namespace Go.Fw
open Go
theorem UC {P:Program} {ops:Array Oper} {listed:Array Bool} {i:Nat} {h:Bool} (hn:YB P ops listed=some (i,h)):i∈Region.ready .any ops listed∧(h=true→∀ o,ops[i]?=some o→Z8 o=true):=by
  unfold YB at hn
  split at hn
  · rename_i j hj
    simp only [Option.some.injEq,Prod.mk.injEq] at hn
    obtain ⟨rfl,rfl⟩:=hn
    refine ⟨?_,fun h=>by cases h⟩
    unfold Xa7 at hj
    split at hj
    · rename_i k hk
      cases hj
      exact List.mem_of_find?_eq_some hk
    · split at hj
      · rename_i k hk
        cases hj
        rw [hk]; simp
      · cases hj
  · split at hn
    · rename_i k hk
      simp only [Option.some.injEq,Prod.mk.injEq] at hn
      obtain ⟨rfl,rfl⟩:=hn
      refine ⟨List.mem_of_find?_eq_some hk,fun _ o ho=>?_⟩
      have h2:=List.find?_some hk
      rw [ho] at h2
      rw [Bool.and_eq_true] at h2
      exact h2.1
    · cases hn
theorem XhR {f:Nat→Prop}:∀ {l:List Nat},(∀ i∈l,f i)→Xe1 l f
  | [],_=>trivial
  | [a],h=>h a (by simp)
  | a::b::l,h=>⟨h a (by simp),XhR fun i hi=>h i (by simp [hi])⟩
theorem Xd2 {all:Array Oper} {l:Array Bool} (hsz:l.size=all.size) {i:Nat} (h:i∈Region.ready .any all l):i<l.size∧lst l i=false∧∀ o,all[i]?=some o→∀ e∈o.after,Region.binds .any e=true→lst l e.on=true:=by
  obtain ⟨h1,o,ho,h2⟩:=mem_ready.1 h
  have hlt:i<l.size:=by rw [hsz]; exact (Array.getElem?_eq_some_iff.1 ho).1
  refine ⟨hlt,?_,fun o' ho' e he hb=>?_⟩
  · unfold lst
    simp [Array.getD_eq_getD_getElem?,hlt] at h1 ⊢
    exact h1
  · rw [ho] at ho'; cases ho'; exact h2 e he hb
structure At (all:Array Oper) (L:List It) (l2 l:Array Bool):Prop where
  sz:l.size=all.size
  cl:Closed all l
  agree:∀ j,(∀ x∈L,x.i≠j)→l[j]?=l2[j]?
def XqY (P:Program) (all:Array Oper) (L:List It) (G:Array Bool→Prop):Prop:=∀ l,G l→l.size=all.size→(∃ x∈L,lst l x.i=false)→
  match YB P all l with
  | some (i,_)=>(∃ x∈L,x.i=i)∧G (l.setIfInBounds i true)
  | none=>Region.ready .any all l≠[]∧∀ i∈Region.ready .any all l,(∃ x∈L,x.i=i)∧G (l.setIfInBounds i true)
def left (L:List It) (l:Array Bool):Nat:=(L.filter fun x=>!lst l x.i).length
section
variable {P:Program} {E:Xv} {nt:Nat} {all:Array Oper} {p:Pl} {rb:Tr Value} {td:HT}
theorem PF.left_set (hp:PF P E nt all p rb td) {x:It} (hx:x∈p.L) {l:Array Bool} (hi:x.i<l.size) (hu:lst l x.i=false):left p.L l=left p.L (l.setIfInBounds x.i true)+1:=by
  obtain ⟨a,b,e⟩:=List.append_of_mem hx
  have hnd:=hp.nd
  rw [e,List.map_append,List.map_cons,List.nodup_append] at hnd
  obtain ⟨_,hnb,hab⟩:=hnd
  rw [List.nodup_cons] at hnb
  have hna:∀ z∈a,z.i≠x.i:=fun z hz=>hab z.i (List.mem_map_of_mem hz) x.i (by simp)
  have hnb2:∀ z∈b,z.i≠x.i:=fun z hz h=>hnb.1 (by rw [← h]; exact List.mem_map_of_mem hz)
  have same:∀ q:List It,(∀ z∈q,z.i≠x.i)→q.filter (fun z=>!lst (l.setIfInBounds x.i true) z.i)=q.filter (fun z=>!lst l z.i):=fun q hq=>by
    apply List.filter_congr
    intro z hz
    rw [Yp hi,if_neg (hq z hz)]
  unfold left
  rw [e,List.filter_append,List.filter_append,List.filter_cons,List.filter_cons,Yp hi,if_pos rfl,hu,same a hna,same b hnb2]
  simp
  omega
theorem XuX (hp:PF P E nt all p rb td) (hE:Yi P E) {held:List Nat} {S:World→Prop} {ρb:Rho} {wb:World} {ds0:List Deferred} {l2:Array Bool} {n2:Nat} {K:St→World→Prop} {G:Array Bool→Prop} (hG:XqY P all p.L G) (hl2s:l2.size=all.size) (hl2:∀ x∈p.L,l2[x.i]?=some true)
    (hS:∀ l s w ρ,PV p rb ρb wb ds0 l s w ρ→S w) (fin:Closed all l2→∀ s w ρ,PV p rb ρb wb ds0 l2 s w ρ→XU P nt all held S n2 l2 s w K) :
    ∀ (m:Nat) (l:Array Bool) (s:St) (w:World) (ρ:Rho),G l→At all p.L l2 l→left p.L l=m→PV p rb ρb wb ds0 l s w ρ→XU P nt all held S (m+n2) l s w K:=by
  intro m
  induction m with
  | zero=>
    intro l s w ρ _ hA hm hV
    have hall:∀ x∈p.L,lst l x.i=true:=fun x hx=>by
      have:=List.length_eq_zero_iff.1 hm
      rw [List.filter_eq_nil_iff] at this
      have:=this x hx
      simpa using this
    have e:l=l2:=by
      apply Array.ext_getElem?
      intro j
      by_cases h:∃ x∈p.L,x.i=j
      · obtain ⟨x,hx,rfl⟩:=h
        rw [hl2 x hx]
        have h1:=hall x hx
        unfold lst at h1
        rw [Array.getD_eq_getD_getElem?] at h1
        cases e:l[x.i]? with
        | none=>rw [e] at h1; cases h1
        | some b=>rw [e] at h1; simp at h1; rw [h1]
      · exact hA.agree j fun x hx hxj=>h ⟨x,hx,hxj⟩
    subst e
    rw [Nat.zero_add]
    exact fin hA.cl s w ρ hV
  | succ m ih=>
    intro l s w ρ hg hA hm hV
    have hex:∃ x∈p.L,lst l x.i=false:=by
      have:0<left p.L l:=by omega
      obtain ⟨x,hx⟩:=List.exists_mem_of_length_pos this
      rw [List.mem_filter] at hx
      exact ⟨x,hx.1,by simpa using hx.2⟩
    have hgood:=hG l hg hA.sz hex
    have comes:∀ x∈p.L,x.i∈Region.ready .any all l→G (l.setIfInBounds x.i true)→XbT P nt all held S x.i false x.o s w fun s' w'=>XU P nt all held S (m+n2) (l.setIfInBounds x.i true) s' w' K:=by
      intro x hx hr hg'
      obtain ⟨hi,hu,hdeps⟩:=Xd2 hA.sz hr
      have hget:=hp.get x hx
      obtain ⟨hgd,hld,_⟩:=hp.oneO hx
      have hdep:∀ y∈p.L,UN x.o y.i=true→lst l y.i=true:=fun y _ hd=>by
        unfold UN at hd
        rw [List.any_eq_true] at hd
        obtain ⟨e,he,hee⟩:=hd
        rw [Bool.and_eq_true] at hee
        rw [← beq_iff.1 hee.2]
        exact hdeps x.o hget e (by simpa using he) hee.1
      have hA':At all p.L l2 (l.setIfInBounds x.i true):=⟨by simpa using hA.sz,hA.cl.set hr,fun j hj=>by
        rw [Array.getElem?_setIfInBounds_ne (hj x hx)]; exact hA.agree j hj⟩
      have hm':left p.L (l.setIfInBounds x.i true)=m:=by have:=hp.left_set hx hi hu; omega
      unfold XbT
      rw [hgd]
      show Zv P nt all held S x.i false x.o s w _
      unfold Zv
      rw [cond_false]
      refine hp.step hE hx hi hu hA.cl hdep hV fun ρ' w' v hx' hR' hv'=>?_
      have hput:put nt x.o.dst v s fun s'=>XU P nt all held S (m+n2) (l.setIfInBounds x.i true) s' w' K:=hp.put_ok hx hi hV hx' hR' hv' fun s' hV'=>ih _ s' w' ρ' hg' hA' hm' hV'
      have hSw:S w':=hS (l.setIfInBounds x.i true) (match x.o.dst with | some d=>s.up d v | none=>s) w' ρ' (by
        have:=hp.put_ok (nt:=nt) hx hi hV hx' hR' hv' (K:=fun s'=>PV p rb ρb wb ds0 (l.setIfInBounds x.i true) s' w' ρ') fun s' h=>h
        cases e:x.o.dst with
        | none=>rw [e] at this; exact this
        | some d=>
          rw [e] at this
          obtain ⟨_,_,hd,_⟩:=hp.oneO hx
          have this:bif Nat.blt d nt then PV p rb ρb wb ds0 (l.setIfInBounds x.i true) (s.up d v) w' ρ' else False:=this
          rw [show Nat.blt d nt=true from Nat.ble_eq_true_of_le (hd d e).1] at this
          exact this)
      unfold Wa
      cases XP P x.o with
      | true=>exact hput
      | false=>
        cases Z9 all held x.i with
        | true=>exact ⟨.inr hSw,hput⟩
        | false=>exact hput
    rw [show m+1+n2=(m+n2)+1 from by omega]
    unfold XU
    cases hn:YB P all l with
    | some ih'=>
      obtain ⟨i,h⟩:=ih'
      rw [hn] at hgood
      obtain ⟨⟨x,hx,rfl⟩,hg'⟩:=hgood
      obtain ⟨hr,hload⟩:=UC hn
      have hget:=hp.get x hx
      dsimp only
      rw [hget]
      dsimp only
      have hh:h=false:=by
        cases h with
        | false=>rfl
        | true=>
          have:=hload rfl x.o hget
          rw [(hp.oneO hx).2.1] at this
          cases this
      subst hh
      exact comes x hx hr hg'
    | none=>
      rw [hn] at hgood
      obtain ⟨hne,hall⟩:=hgood
      dsimp only
      cases hr:Region.ready .any all l with
      | nil=>exact absurd hr hne
      | cons i0 q=>
        dsimp only
        refine XhR fun i hi=>?_
        rw [← hr] at hi
        obtain ⟨⟨x,hx,rfl⟩,hg'⟩:=hall i hi
        rw [hp.get x hx]
        exact comes x hx hi hg'
end
end Go.Fw
end

section
namespace Go.Fw
open Go
theorem XqZ {M:List Nat} {i:Nat}:M.any (Nat.beq i)=true↔i∈M:=by
  rw [List.any_eq_true]
  constructor
  · rintro ⟨j,hj,he⟩; rw [beq_iff.1 he]; exact hj
  · exact fun h=>⟨i,h,beq_iff.2 rfl⟩
theorem Xnq:∀ {l:List Nat},XqT l=true→l.Nodup
  | [],_=>List.nodup_nil
  | a::l,h=>by
    unfold XqT at h
    rw [Bool.and_eq_true,Bool.not_eq_true'] at h
    rw [List.nodup_cons]
    refine ⟨fun hm=>?_,Xnq h.2⟩
    have:=XqZ.2 hm
    rw [h.1] at this; cases this
theorem XtF {l:Array Bool} {L:List It} {M:List Nat} (hM:L.map (·.i)=M) (h:∃ x∈L,lst l x.i=false):Xfb l M=false:=by
  obtain ⟨x,hx,hu⟩:=h
  cases e:Xfb l M with
  | false=>rfl
  | true=>
    have:=List.all_eq_true.1 e x.i (by rw [← hM]; exact List.mem_map_of_mem hx)
    rw [hu] at this; cases this
theorem inM {L:List It} {M:List Nat} (hM:L.map (·.i)=M) {i:Nat} (h:M.any (Nat.beq i)=true):∃ x∈L,x.i=i:=by
  have:=XqZ.1 h
  rw [← hM] at this
  obtain ⟨x,hx,e⟩:=List.mem_map.1 this
  exact ⟨x,hx,e⟩
theorem Xsg {P:Program} {all:Array Oper} {L:List It} {M:List Nat} (hM:L.map (·.i)=M):XqY P all L fun l=>∃ n,We P all M n l=true:=by
  rintro l ⟨n,h⟩ _ hex
  have hno:=XtF hM hex
  cases n with
  | zero=>unfold We at h; rw [hno] at h; cases h
  | succ n=>
    unfold We at h
    rw [hno,cond_false] at h
    split
    · rename_i i hd hn
      rw [hn] at h
      rw [Bool.and_eq_true] at h
      exact ⟨inM hM h.1,n,h.2⟩
    · rename_i hn
      rw [hn] at h
      dsimp only at h
      cases hr:Region.ready .any all l with
      | nil=>rw [hr] at h; cases h
      | cons a q=>
        rw [hr] at h
        refine ⟨by simp,fun i hi=>?_⟩
        have:=List.all_eq_true.1 h i hi
        rw [Bool.and_eq_true] at this
        exact ⟨inM hM this.1,n,this.2⟩
theorem XpZ {l:Array Bool} {i:Nat} (hi:i<l.size) (j:Nat):lst (l.setIfInBounds i true) j=true↔j=i∨lst l j=true:=by
  rw [Yp hi]
  by_cases h:j=i
  · simp [h]
  · simp [h]
theorem Xo0 {P:Program} {all:Array Oper} {L:List It} {M:List Nat} {l0:Array Bool} (hM:L.map (·.i)=M) (h:Xb7 all l0 M=true) (hget:∀ x∈L,all[x.i]?=some x.o) :
    XqY P all L fun l=>(∀ j,lst l0 j=true→lst l j=true)∧∀ j,lst l j=true→lst l0 j=true∨j∈M:=by
  unfold Xb7 at h
  rw [Bool.and_eq_true] at h
  obtain ⟨hA,hB⟩:=h
  rintro l ⟨h1,h2⟩ hsz ⟨x0,hx0,hu0⟩
  have inReady:∀ i∈Region.ready .any all l,i∈M:=by
    intro i hi
    obtain ⟨hlt,hu,hdeps⟩:=Xd2 hsz hi
    obtain ⟨_,o,ho,_⟩:=mem_ready.1 hi
    have:=List.all_eq_true.1 hA i (List.mem_range.2 (by rw [← hsz]; exact hlt))
    rw [Bool.or_eq_true,Bool.or_eq_true] at this
    rcases this with (h3 | h3) | h3
    · rw [h1 i h3] at hu; cases hu
    · exact XqZ.1 h3
    · rw [ho] at h3
      have h4:=List.all_eq_true.1 h3 x0.i (by rw [← hM]; exact List.mem_map_of_mem hx0)
      unfold UN at h4
      rw [List.any_eq_true] at h4
      obtain ⟨e,he,hee⟩:=h4
      rw [Bool.and_eq_true] at hee
      have:=hdeps o ho e (by simpa using he) hee.1
      rw [beq_iff.1 hee.2,hu0] at this; cases this
  have step:∀ i∈Region.ready .any all l,(∃ x∈L,x.i=i)∧(∀ j,lst l0 j=true→lst (l.setIfInBounds i true) j=true)∧∀ j,lst (l.setIfInBounds i true) j=true→lst l0 j=true∨j∈M:=by
    intro i hi
    have hm:=inReady i hi
    obtain ⟨hlt,_,_⟩:=Xd2 hsz hi
    refine ⟨inM hM (XqZ.2 hm),fun j hj=>(XpZ hlt j).2 (.inr (h1 j hj)),fun j hj=>?_⟩
    rcases (XpZ hlt j).1 hj with rfl | hj
    · exact .inr hm
    · exact h2 j hj
  have ne:Region.ready .any all l≠[]:=by
    obtain ⟨k,⟨x,hx,hxk,hu⟩,hmin⟩:=W5 (p:=fun k=>∃ x∈L,x.i=k∧lst l k=false) ⟨x0.i,x0,hx0,rfl,hu0⟩
    subst hxk
    have hb:=List.all_eq_true.1 hB x.i (by rw [← hM]; exact List.mem_map_of_mem hx)
    rw [hget x hx] at hb
    have hb:=List.all_eq_true.1 hb
    have hlt:x.i<l.size:=by rw [hsz]; exact (Array.getElem?_eq_some_iff.1 (hget x hx)).1
    have:x.i∈Region.ready .any all l:=by
      refine mem_ready.2 ⟨?_,x.o,hget x hx,fun e he hbd=>?_⟩
      · unfold lst at hu
        simp [Array.getD_eq_getD_getElem?,hlt] at hu ⊢
        exact hu
      · have h3:=hb e (by simpa using he)
        rw [hbd] at h3
        simp only [Bool.not_true,Bool.false_or,Bool.or_eq_true,Bool.and_eq_true] at h3
        rcases h3 with h3 | ⟨h3,h4⟩
        · exact h1 _ h3
        · show lst l e.on=true
          have h4:e.on<x.i:=Nat.le_of_ble_eq_true h4
          cases hl:lst l e.on with
          | true=>rfl
          | false=>
            obtain ⟨y,hy,hye⟩:=inM hM h3
            have:=hmin e.on ⟨y,hy,hye,hl⟩
            omega
    intro h0; rw [h0] at this; cases this
  split
  · rename_i i hd hn
    exact step i (UC hn).1
  · exact ⟨ne,step⟩
theorem Xq0 {all:Array Oper} {l:Array Bool} {m:Nat} (h:MA l m) (M:List Nat):XjE all m M=Xb7 all l M:=by
  unfold XjE Xb7
  simp only [Xbl,h _]
theorem Xp0 {l:Array Bool} {m:Nat} (h:MA l m) (M:List Nat):Xnl m M=Xfb l M:=by
  unfold Xnl Xfb
  simp only [h _]
theorem XgI {P:Program} {all:Array Oper} {M:List Nat}:∀ {n:Nat} {l:Array Bool} {m:Nat},MA l m→l.size=all.size→Xfc P all M n m=true→We P all M n l=true
  | 0,l,m,h,hs,he=>by unfold Xfc at he; unfold We; rw [← Xp0 h]; exact he
  | n+1,l,m,h,hs,he=>by
    unfold Xfc at he
    unfold We
    rw [← Xp0 h]
    cases ha:Xnl m M with
    | true=>rfl
    | false=>
      rw [ha,cond_false] at he
      rw [cond_false]
      have e:=XgE (P:=P) h hs
      rw [← e,← Xaj h hs] at he
      cases hn:YB P all l with
      | some q=>
        obtain ⟨i,hd⟩:=q
        rw [hn] at he
        dsimp only at he ⊢
        rw [Bool.and_eq_true] at he ⊢
        exact ⟨he.1,XgI (h.set (Qt hs (UC hn).1)) (by simpa using hs) he.2⟩
      | none=>
        rw [hn] at he
        dsimp only at he ⊢
        cases hr:Region.ready .any all l with
        | nil=>rw [hr] at he; cases he
        | cons a q=>
          rw [hr] at he
          dsimp only at he ⊢
          rw [List.all_eq_true] at he ⊢
          intro i hi
          have h1:=he i hi
          rw [Bool.and_eq_true] at h1 ⊢
          exact ⟨h1.1,XgI (h.set (Qt hs (by rw [hr]; exact hi))) (by simpa using hs) h1.2⟩
theorem MA.setAll {all:Array Oper}:∀ {M:List Nat} {l:Array Bool} {m:Nat},MA l m→(∀ i∈M,i<l.size)→MA (setAll l M) (XqU m M)
  | [],_,_,h,_=>h
  | i::M,l,m,h,hi=>MA.setAll (all:=all) (M:=M) (h.set (hi i (by simp))) fun j hj=>by simpa using hi j (by simp [hj])
theorem XhS {all:Array Oper}:∀ {M:List Nat} {l:Array Bool},(∀ i∈M,i<l.size)→(setAll l M).size=l.size∧(∀ i∈M,(setAll l M)[i]?=some true)∧∀ j,j∉M→(setAll l M)[j]?=l[j]?
  | [],l,_=>⟨rfl,fun i hi=>(by cases hi),fun _ _=>rfl⟩
  | i::M,l,h=>by
    obtain ⟨h1,h2,h3⟩:=XhS (all:=all) (M:=M) (l:=l.setIfInBounds i true) fun j hj=>by simpa using h j (by simp [hj])
    refine ⟨by unfold setAll; rw [h1]; simp,fun j hj=>?_,fun j hj=>?_⟩
    · unfold setAll
      by_cases hm:j∈M
      · exact h2 j hm
      · rcases List.mem_cons.1 hj with rfl | hj
        · rw [h3 j hm]
          have:=h j (by simp)
          simp [this]
        · exact absurd hj hm
    · unfold setAll
      rw [List.mem_cons,not_or] at hj
      rw [h3 j hj.2,Array.getElem?_setIfInBounds_ne (fun e=>hj.1 e.symm)]
theorem XhT {P:Program} {all:Array Oper} {many:Bool}:∀ {M:List Nat} {n n1:Nat} {sk:List It},XjD P all many M n=some (sk,n1)→∀ x∈sk,x.v=undef
  | [],n,n1,sk,h,x,hx=>by cases h; cases hx
  | i::M,n,n1,sk,h,x,hx=>by
    unfold XjD at h
    rw [Xbl] at h
    split at h
    · cases h
    · split at h
      · cases h
      · rename_i r n' hr
        cases h
        rcases List.mem_cons.1 hx with rfl | hx
        · rfl
        · exact XhT hr x hx
end Go.Fw
end

section
namespace Go.Fw
open Go
theorem XwJ {p:Pl} {l:Array Bool} (h:∀ x∈p.L,lst l x.i=true) (id:Nat):TA p id=TF p l id:=by
  have e1:Xmi p.L=XL p.L l:=by
    unfold Xmi XL
    congr 1
    apply List.filter_congr
    intro z hz
    rw [h z hz,Bool.and_true]
  have e2:p.L.any (isK 1)=p.L.any (fun x=>isK 1 x && lst l x.i):=by
    rw [Bool.eq_iff_iff,List.any_eq_true,List.any_eq_true]
    exact ⟨fun ⟨z,hz,hk⟩=>⟨z,hz,by rw [h z hz,hk]; rfl⟩,fun ⟨z,hz,hk⟩=>⟨z,hz,by rw [Bool.and_eq_true] at hk; exact hk.1⟩⟩
  unfold TA TF
  rw [e2]
  cases hr:inR p.n0 p.n1 id with
  | false=>rfl
  | true=>
    rw [cond_true,cond_true]
    cases e:p.L.find? (fun x=>inR x.lo x.hi id) with
    | none=>rfl
    | some x=>
      dsimp only
      rw [h x (List.mem_of_find?_eq_some e),cond_true]
      unfold W9
      rw [e1]
theorem Xq1 {P:Program} {E:Xv} {n1:Nat} {rb:Tr Value} {td:HT} {dn:List It} {x y:It} {H:Hp} (he:Xnk P E n1 rb td dn x=some (y,some H)):y.kd=1:=by
  unfold Xnk at he
  split at he
  · split at he
    · cases he; rfl
    · cases he
  · split at he
    · split at he
      · obtain ⟨_,he⟩:=Xf he; cases he
      · cases he
    · cases he
  · split at he
    · obtain ⟨_,he⟩:=Xf he
      split at he
      · cases he
      · cases he
    · cases he
  · split at he
    · cases he
    · cases he
  · cases he
theorem Xf1 {P:Program} {E:Xv} {n1:Nat} {rb:Tr Value} {td:HT}:∀ {sk dn L:List It} {H:Hp},Xfa P E n1 rb td sk dn=some (L,some H)→∃ x∈L,x.kd=1
  | [],dn,L,H,h=>by cases h
  | x::sk,dn,L,H,h=>by
    unfold Xfa at h
    split at h
    · cases h
    · rename_i y h1 he
      split at h
      · cases h
      · rename_i r h2 hr
        split at h
        · cases h
        · cases h
          exact ⟨y,by simp,Xq1 he⟩
        · cases h
          obtain ⟨z,hz,hk⟩:=Xf1 hr
          exact ⟨z,by simp [hz],hk⟩
section
variable {P:Program} {E:Xv} {nt:Nat} {all:Array Oper}
theorem Hold.ok_congr {y:Hold} {t t':HT} (h:y.ok t=true) (e:t'.get y.i=t.get y.i):y.ok t'=true:=by
  unfold Hold.ok XX at h ⊢
  dsimp only at h ⊢
  rw [e]; exact h
theorem Hold.ok_some {y:Hold} {t:HT} (h:y.ok t=true):(t.get y.i).isSome=true:=by
  unfold Hold.ok XX at h
  dsimp only at h
  cases e:t.get y.i with
  | none=>rw [e] at h; cases h
  | some _=>rfl
theorem XtG (hE:Yi P E) {held:List Nat} {ρ0:Rho} {t00:HT} {w0:World} {Y:List Hold} {T:List HT} (h0:Rel ρ0 t00 w0) (hok:∀ y∈Y,y.vs.all Qp=true∧y.ok t00=true∧∀ t∈T,y.ok t=true) {n n2 m m2:Nat} {l:Array Bool} {r r2:Tr Value} {H H2:Hp} {sn:WB}
    (h:XqV P E nt all n m r H=some ((n2,m2),(r2,H2),sn)) (hMA:MA l m) (hTs:∀ t∈sn.2,t∈T) {ρ:Rho} {s:St} {w:World} (hS:Sm ρ nt r H.t s w) (hle:ρ0.le ρ) (hsz:l.size=all.size) (hcl:Closed all l) {K:St→World→Prop}
    (fin:∀ l2 ρ' w' s',MA l2 m2→Ext ρ H.t w ρ' H2.t w'→Sm ρ' nt r2 H2.t s' w'→s'.ds=s.ds→Closed all l2→l2.size=all.size→XU P nt all held (HoldS ρ0 w0 Y) n2 l2 s' w' K):XU P nt all held (HoldS ρ0 w0 Y) n l s w K:=by
  unfold XqV at h
  dsimp only at h
  have hMi:∀ i∈((List.range all.size).filter fun i=>!Jd m i && (Yq m all.toList 0).any fun k=>Nat.beq k i || !V0 all all.size i k),i<all.size∧lst l i=false:=fun i hi=>by
    rw [List.mem_filter,List.mem_range,Bool.and_eq_true,Bool.not_eq_true'] at hi
    exact ⟨hi.1,by rw [← hMA i]; exact hi.2.1⟩
  generalize ((List.range all.size).filter fun i=>!Jd m i && (Yq m all.toList 0).any fun k=>Nat.beq k i || !V0 all all.size i k)=M at h hMi
  generalize Nat.ble 2 (M.filter fun i=>match opF all i with | some o=>XpY o | none=>false).length=many at h
  split at h
  · cases h
  · rename_i sk n1 hsk
    split at h
    · cases h
    · rename_i L hh hL
      obtain ⟨hc,h⟩:=Xf h
      simp only [Bool.and_eq_true] at hc
      obtain ⟨⟨⟨⟨⟨⟨⟨c1,c2⟩,c3⟩,c4⟩,c5⟩,c6⟩,c7⟩,c8⟩:=hc
      have c1:n1≤4000:=Nat.le_of_ble_eq_true c1
      have c2:H.n≤n1:=Nat.le_of_ble_eq_true c2
      have c6:M.length≤n:=Nat.le_of_ble_eq_true c6
      have hin:∀ id,inR H.n n1 id=true↔H.n≤id∧id<H.n+(n1 - H.n):=fun id=>by rw [Je]; omega
      have htd:∀ id,(Xd0 (fun _=>Ob.dead) (n1 - H.n) H.n H.t).get id=if inR H.n n1 id=true then some .dead else H.t.get id:=fun id=>by
        rw [XgH _ _ _ _ (by omega)]
        by_cases e:H.n≤id∧id<H.n+(n1 - H.n)
        · rw [if_pos e,if_pos ((hin id).2 e)]
        · rw [if_neg e,if_neg (fun h=>e ((hin id).1 h))]
      generalize Xd0 (fun _=>Ob.dead) (n1 - H.n) H.n H.t=td at h hL htd
      generalize hth:XvU hh td=th at h
      generalize XvV hh n1=nn at h
      let p:Pl:=⟨H.n,n1,L,H.t,th⟩
      obtain ⟨hskM,hsko⟩:=Xno hsk
      obtain ⟨hLs,hLi⟩:=Xnp (p:=p) hL (XhT hsk) (fun H' hH'=>by rw [hH'] at hth; exact hth.symm) (fun y hy=>by cases hy) (fun y hy=>hy)
      have hLM:L.map (·.i)=M:=by
        rw [← hskM]
        have:=congrArg (List.map Prod.fst) hLs
        rw [List.map_map,List.map_map] at this
        exact this
      have hLo:∀ x∈L,∃ z∈sk,z.i=x.i∧z.o=x.o:=fun x hx=>by
        have:(x.i,x.o)∈sk.map (fun x=>(x.i,x.o)):=by rw [← hLs]; exact List.mem_map_of_mem (f:=fun x:It=>(x.i,x.o)) hx
        obtain ⟨z,hz,e⟩:=List.mem_map.1 this
        simp only [Prod.mk.injEq] at e
        exact ⟨z,hz,e.1,e.2⟩
      have hsko2:∀ z∈sk,∃ x∈L,z.o=x.o:=fun z hz=>by
        have:(z.i,z.o)∈L.map (fun x=>(x.i,x.o)):=by rw [hLs]; exact List.mem_map_of_mem (f:=fun x:It=>(x.i,x.o)) hz
        obtain ⟨x,hx,e⟩:=List.mem_map.1 this
        simp only [Prod.mk.injEq] at e
        exact ⟨x,hx,e.2.symm⟩
      have honeL:∀ x∈L,XhM nt H.n n1 x=true:=fun x hx=>List.all_eq_true.1 c4 x hx
      have hdst:∀ x∈L,∀ d,x.o.dst=some d→d<nt∧XS d=true:=fun x hx d hd=>by
        have h1:=honeL x hx
        unfold XhM at h1
        simp only [Bool.and_eq_true] at h1
        have h2:=h1.1.1.1.1.2
        rw [hd,Bool.and_eq_true] at h2
        exact ⟨Nat.le_of_ble_eq_true h2.1,h2.2⟩
      obtain ⟨hcl1,hcl2⟩:=XhQ (r:=r) (L:=sk) fun z hz d hd=>by
        obtain ⟨x,hx,e⟩:=hsko2 z hz
        exact (hdst x hx d (by rw [← e]; exact hd)).2
      have hnd:=Xnq c5
      have hinj:∀ x∈L,∀ y∈L,x.i=y.i→x=y:=by
        have:∀ (L:List It),(L.map (·.i)).Nodup→∀ x∈L,∀ y∈L,x.i=y.i→x=y:=by
          intro L
          induction L with
          | nil=>intro _ x hx; cases hx
          | cons a L ih=>
            intro hn x hx y hy e
            rw [List.map_cons,List.nodup_cons] at hn
            rcases List.mem_cons.1 hx with hxa | hx'
            · rcases List.mem_cons.1 hy with hya | hy'
              · rw [hxa,hya]
              · exact absurd (by rw [← hxa,e]; exact List.mem_map_of_mem (f:=fun x:It=>x.i) hy') hn.1
            · rcases List.mem_cons.1 hy with hya | hy'
              · exact absurd (by rw [← hya,← e]; exact List.mem_map_of_mem (f:=fun x:It=>x.i) hx') hn.1
              · exact ih hn.2 x hx' y hy' e
        exact this L (by rw [hLM]; exact hnd)
      have hget:∀ x∈L,all[x.i]?=some x.o:=fun x hx=>by
        obtain ⟨z,hz,e1,e2⟩:=hLo x hx
        rw [← e1,← e2]; exact hsko z hz
      have hp:PF P E nt all p (Vi r sk) td:={
        its:=hLi
        one:=honeL
        get:=hget
        pair:=fun x hx y hy hne=>by
          have h1:=List.all_eq_true.1 (List.all_eq_true.1 c7 x hx) y hy
          rw [Bool.or_eq_true] at h1
          rcases h1 with h1 | h1
          · exact absurd (beq_iff.1 h1) hne
          · exact h1
        inj:=hinj
        rbd:=fun x hx d hd=>by
          obtain ⟨z,hz,_,e2⟩:=hLo x hx
          exact hcl1 z hz d (by rw [e2]; exact hd)
        fresh:=fun id hid=>XhP c3 id ((hin id).1 hid).1 ((hin id).1 hid).2
        tdg:=htd
        top:=c1
        nd:=by show (L.map (·.i)).Nodup; rw [hLM]; exact hnd }
      have hunl:∀ x∈L,lst l x.i=false:=fun x hx=>(hMi x.i (by rw [← hLM]; exact List.mem_map_of_mem (f:=fun x:It=>x.i) hx)).2
      have hTF:∀ id,TF p l id=H.t.get id:=fun id=>by
        unfold TF
        cases hr:inR p.n0 p.n1 id with
        | true=>
          rw [cond_true]
          have hf:=hp.fresh id hr
          cases e:p.L.find? (fun x=>inR x.lo x.hi id) with
          | none=>exact hf.symm
          | some x=>
            dsimp only
            rw [hunl x (List.mem_of_find?_eq_some e)]
            exact hf.symm
        | false=>
          rw [cond_false]
          have:p.L.any (fun x=>isK 1 x && lst l x.i)=false:=by
            rw [List.any_eq_false]
            intro x hx hb
            rw [hunl x hx] at hb
            simp at hb
          rw [this]; rfl
      have eq1:∀ i o,H.t.get i=some o→(TT p l).get i=some o:=fun i o ho=>by rw [Yd,hTF]; exact ho
      have eq2:∀ i,H.t.get i=none→(TT p l).get i=none∨(TT p l).get i=some .dead:=fun i hi=>.inl (by rw [Yd,hTF]; exact hi)
      have hV:PV p (Vi r sk) ρ w s.ds l s w ρ:=⟨(Ext.refl ρ H.t w).deaden eq1 eq2,hS.rel.deaden eq1 eq2,rfl,fun t c hc=>hS.rr t c (hcl2 t c hc),fun x hx hl=>by rw [hunl x hx] at hl; cases hl⟩
      simp only [Option.some.injEq,Prod.mk.injEq] at h
      obtain ⟨⟨hn2,hm2⟩,⟨hr2,hH2⟩,hsn⟩:=h
      obtain ⟨l2,hl2⟩:∃ l2,setAll l M=l2:=⟨_,rfl⟩
      have hMA2:MA l2 m2:=by rw [← hl2,← hm2]; exact MA.setAll (all:=all) hMA fun i hi=>by rw [hsz]; exact (hMi i hi).1
      obtain ⟨s1,s2,s3⟩:=XhS (all:=all) (M:=M) (l:=l) fun i hi=>by rw [hsz]; exact (hMi i hi).1
      rw [hl2] at s1 s2 s3
      have hG:∃ G,XqY P all p.L G∧G l:=by
        rw [Bool.or_eq_true] at c8
        rcases c8 with c8 | c8
        · exact ⟨_,Xo0 hLM (by rw [← Xq0 hMA]; exact c8) hget,fun _ h=>h,fun _ h=>.inl h⟩
        · exact ⟨_,Xsg hLM,_,XgI hMA hsz c8⟩
      obtain ⟨G,hG1,hG2⟩:=hG
      have hleft:left p.L l=M.length:=by
        unfold left
        rw [List.filter_eq_self.2 (fun x hx=>(by rw [hunl x hx]; rfl)),← hLM,List.length_map]
      have hTin:H.t∈T∧th∈T:=⟨hTs _ (by rw [← hsn]; simp),hTs _ (by rw [← hsn]; simp)⟩
      have hHold:∀ l s w' ρ',PV p (Vi r sk) ρ w s.ds l s w' ρ'→HoldS ρ0 w0 Y w':=fun l' s' w' ρ' hV'=>by
        refine HoldS.of h0 hV'.rel (hle.trans hV'.ext.le) fun y hy=>⟨(hok y hy).1,(hok y hy).2.1,?_⟩
        have k1:=(hok y hy).2.2 _ hTin.1
        have k2:=(hok y hy).2.2 _ hTin.2
        have hnr:inR p.n0 p.n1 y.i=false:=by
          cases e:inR p.n0 p.n1 y.i with
          | false=>rfl
          | true=>
            have h3:=hp.fresh y.i e
            have h4:=Hold.ok_some k1
            have h3:H.t.get y.i=none:=h3
            rw [h3] at h4; cases h4
        by_cases hb:p.L.any (fun x=>isK 1 x && lst l' x.i)=true
        · exact Hold.ok_congr k2 (by rw [Yd]; unfold TF; rw [hnr,cond_false,hb]; rfl)
        · have hb:p.L.any (fun x=>isK 1 x && lst l' x.i)=false:=by cases e:p.L.any (fun x=>isK 1 x && lst l' x.i) with | false=>rfl | true=>exact absurd e hb
          exact Hold.ok_congr k1 (by rw [Yd]; unfold TF; rw [hnr,cond_false,hb]; rfl)
      have hnn:n=M.length+n2:=by omega
      rw [hnn]
      refine XuX (p := p) hp hE (ρb := ρ) (wb := w) (ds0 := s.ds) (l2 := l2) hG1 (s1.trans hsz) (fun x hx => s2 x.i (by rw [← hLM]; exact List.mem_map_of_mem (f := fun x : It => x.i) hx)) (fun l' s' w' ρ' hV' => by
          have e:=hV'.ds
          exact hHold l' s' w' ρ' (by rw [e]; exact hV')) (fun hcl2' s' w' ρ' hV'=>?_) M.length l s w ρ hG2 ⟨hsz,hcl,fun j hj=>(s3 j fun hm=>by
          rw [← hLM] at hm
          obtain ⟨x,hx,e⟩:=List.mem_map.1 hm
          exact hj x hx e).symm⟩ hleft hV
      have hall2:∀ x∈L,lst l2 x.i=true:=fun x hx=>by
        have:=s2 x.i (by rw [← hLM]; exact List.mem_map_of_mem (f:=fun x:It=>x.i) hx)
        unfold lst
        rw [Array.getD_eq_getD_getElem?,this]; rfl
      have hout:∀ id,inR H.n n1 id=false→TF p l2 id=th.get id:=fun id hid=>by
        unfold TF
        have e1:inR p.n0 p.n1 id=false:=hid
        rw [e1,cond_false]
        cases hb:p.L.any (fun x=>isK 1 x && lst l2 x.i) with
        | true=>rfl
        | false=>
          rw [cond_false]
          have hnone:hh=none:=by
            cases e:hh with
            | none=>rfl
            | some H'=>
              rw [e] at hL
              obtain ⟨x,hx,hk⟩:=Xf1 hL
              have:p.L.any (fun x=>isK 1 x && lst l2 x.i)=true:=List.any_eq_true.2 ⟨x,hx,by rw [hall2 x hx,XY.2 hk]; rfl⟩
              rw [hb] at this; cases this
          rw [hnone] at hth
          have hth:td=th:=hth
          rw [← hth,htd,if_neg (by rw [hid]; simp)]
      have hget2:∀ id,H2.t.get id=if inR H.n n1 id=true then some (Xnm (TF p l2 id)) else th.get id:=fun id=>by
        rw [← hH2]
        show (Xd0 (fun id=>Xnm (TA p id)) (n1 - H.n) H.n th).get id=_
        rw [XgH _ _ _ _ (by omega),XwJ hall2]
        by_cases e:H.n≤id∧id<H.n+(n1 - H.n)
        · rw [if_pos e,if_pos ((hin id).2 e)]
        · rw [if_neg e,if_neg (fun h=>e ((hin id).1 h))]
      have eq3:∀ i o,(TT p l2).get i=some o→H2.t.get i=some o:=fun i o ho=>by
        rw [Yd] at ho
        rw [hget2]
        cases hr:inR H.n n1 i with
        | true=>rw [if_pos rfl,ho]; rfl
        | false=>rw [if_neg (by simp),← hout i hr]; exact ho
      have eq4:∀ i,(TT p l2).get i=none→H2.t.get i=none∨H2.t.get i=some .dead:=fun i hi=>by
        rw [Yd] at hi
        rw [hget2]
        cases hr:inR H.n n1 i with
        | true=>rw [if_pos rfl,hi]; exact .inr rfl
        | false=>rw [if_neg (by simp),← hout i hr]; exact .inl hi
      refine fin l2 ρ' w' s' hMA2 (hV'.ext.deaden eq3 eq4) ⟨fun t c hc=>?_,fun t c hc=>?_,hV'.rel.deaden eq3 eq4⟩ hV'.ds hcl2' (s1.trans hsz)
      · rw [← hr2] at hc
        rcases Xd1 (fun x hx d hd=>(hdst x hx d hd).2) t c hc with ⟨x,hx,hd,rfl⟩ | hb
        · exact hV'.done x hx (hall2 x hx) t hd
        · exact hV'.base t c hb
      · rw [← hr2] at hc
        rcases Xd1 (fun x hx d hd=>(hdst x hx d hd).2) t c hc with ⟨x,hx,hd,rfl⟩ | hb
        · exact (hdst x hx t hd).1
        · exact hS.rn t c (hcl2 t c hb)
end
end Go.Fw
end

section
namespace Go.Fw
open Go
section
variable {P:Program} {E:Xv} {nt:Nat} {all:Array Oper}
theorem XgJ (hE:Yi P E) {held:List Nat} {ρ0:Rho} {t0:HT} {w0:World} {Y:List Hold} {T:List HT} (h0:Rel ρ0 t0 w0) (hok:∀ y∈Y,y.vs.all Qp=true∧y.ok t0=true∧∀ t∈T,y.ok t=true) {K:St→World→Prop} :
    ∀ {n n2 m m2:Nat} {l:Array Bool} {r:Tr Value} {H:Hp} {x:Ss} {sn:WB} {ρ:Rho} {s:St} {w:World},Xmj P E nt all held n m r H=some ((n2,m2),x,sn)→MA l m→(∀ y∈sn.1,y∈Y)→(∀ t∈sn.2,t∈T)→Sm ρ nt r H.t s w→ρ0.le ρ→l.size=all.size→Closed all l→
    (∀ l2 ρ' w' s',MA l2 m2→Ext ρ H.t w ρ' x.2.t w'→Sm ρ' nt x.1 x.2.t s' w'→s'.ds=s.ds→Closed all l2→l2.size=all.size→XU P nt all held (HoldS ρ0 w0 Y) n2 l2 s' w' K)→XU P nt all held (HoldS ρ0 w0 Y) n l s w K
  | 0,n2,m,m2,l,r,H,x,sn,ρ,s,w,h,hMA,_,_,hS,_,hsz,hcl,fin=>by cases h; exact fin l ρ w s hMA (Ext.refl ..) hS rfl hcl hsz
  | n+1,n2,m,m2,l,r,H,x,sn,ρ,s,w,h,hMA,hYs,hTs,hS,hle,hsz,hcl,fin=>by
    unfold Xmj at h
    rw [← XgE hMA hsz] at h
    simp only [Xbl] at h
    split at h
    · cases h; exact fin l ρ w s hMA (Ext.refl ..) hS rfl hcl hsz
    · rename_i i hd hn
      split at h
      · cases h
      · rename_i o ho
        obtain ⟨hh,h⟩:=Xf h
        split at h
        · cases h
        · rename_i r1 H1 h1
          split at h
          · cases h
          · rename_i q x' sn' h2
            cases h
            obtain ⟨hr,hload⟩:=UC hn
            have hk1:Nx ρ H.t w s.ds nt r1 H1.t fun s' w'=>XU P nt all held (HoldS ρ0 w0 Y) n (l.setIfInBounds i true) s' w' K:=fun ρ1 w1 s1 hx hS1 hd1=>
              XgJ hE h0 hok h2 (hMA.set (Qt hsz hr)) (fun y hy=>hYs y (XhG.1 y hy)) (fun t ht=>hTs t (XhG.2 t ht)) hS1 (hle.trans hx.le) (by simpa using hsz) (hcl.set hr) fun l2 ρ2 w2 s2 hM2 hx2 hS2 hd2 hc2 hs2=>fin l2 ρ2 w2 s2 hM2 (hx.trans hx2) hS2 (hd2.trans hd1) hc2 hs2
            have hhd:Head nt all o s w (fun s=>Zv P nt all held (HoldS ρ0 w0 Y) i hd o s w fun s' w'=>XU P nt all held (HoldS ρ0 w0 Y) n (l.setIfInBounds i true) s' w' K) fun s' w'=>XU P nt all held (HoldS ρ0 w0 Y) n (l.setIfInBounds i true) s' w' K:=
              XhF hS h1 (fun hg=>XuV hE h0 hle hS hg (fun hh=>hload hh o ho) hok hYs hTs hk1) hk1
            unfold XU
            rw [hn]
            dsimp only
            rw [ho]
            dsimp only
            rw [hh]
            exact hhd
theorem Xp1 (hE:Yi P E) {held:List Nat} {ρ0:Rho} {t0:HT} {w0:World} {Y:List Hold} {T:List HT} (h0:Rel ρ0 t0 w0) (hok:∀ y∈Y,y.vs.all Qp=true∧y.ok t0=true∧∀ t∈T,y.ok t=true) {K:St→World→Prop} :
    ∀ {k n m:Nat} {l:Array Bool} {r:Tr Value} {H:Hp} {x:Ss} {sn:WB} {ρ:Rho} {s:St} {w:World},XqW P E nt all held k n m r H=some (x,sn)→MA l m→(∀ y∈sn.1,y∈Y)→(∀ t∈sn.2,t∈T)→Sm ρ nt r H.t s w→ρ0.le ρ→l.size=all.size→Closed all l→
    Nx ρ H.t w s.ds nt x.1 x.2.t K→XU P nt all held (HoldS ρ0 w0 Y) n l s w K
  | 0,_,_,_,_,_,_,_,_,_,_,h,_,_,_,_,_,_,_,_=>by cases h
  | k+1,n,m,l,r,H,x,sn,ρ,s,w,h,hMA,hYs,hTs,hS,hle,hsz,hcl,hk=>by
    unfold XqW at h
    split at h
    · cases h
    · rename_i n1 m1 r1 H1 s1 h1
      split at h
      · rename_i hr
        cases h
        refine XgJ hE h0 hok h1 hMA hYs hTs hS hle hsz hcl fun l1 ρ' w' s' hM1 hx hS' hd' hc' hs'=>?_
        rw [← Xaj hM1 hs'] at hr
        have hK:=hk ρ' w' s' hx hS' hd'
        cases n1 with
        | zero=>
          unfold XU
          rw [hr]; exact hK
        | succ n1=>
          unfold XU
          cases hn:YB P all l1 with
          | some q=>
            obtain ⟨i,hd⟩:=q
            have:=(UC hn).1
            rw [hr] at this; cases this
          | none=>dsimp only; rw [hr]; exact hK
      · split at h
        · cases h
        · rename_i n2 m2 r2 H2 s2 h2
          split at h
          · cases h
          · rename_i x' s3 h3
            cases h
            refine XgJ hE h0 hok h1 hMA (fun y hy=>hYs y (by simp [hy])) (fun t ht=>hTs t (by simp [ht])) hS hle hsz hcl fun l1 ρ' w' s' hM1 hx hS' hd' hc' hs'=>?_
            refine XtG hE h0 hok h2 hM1 (fun t ht=>hTs t (by simp [ht])) hS' (hle.trans hx.le) hs' hc' fun l2 ρ2 w2 s2' hM2 hx2 hS2 hd2 hc2 hs2=>?_
            exact Xp1 hE h0 hok h3 hM2 (fun y hy=>hYs y (by simp [hy])) (fun t ht=>hTs t (by simp [ht])) hS2 ((hle.trans hx.le).trans hx2.le) hs2 hc2 fun ρ3 w3 s3' hx3 hS3 hd3=>hk ρ3 w3 s3' ((hx.trans hx2).trans hx3) hS3 (hd3.trans (hd2.trans hd'))
theorem Xsh (hE:Yi P E):XdZ P nt (Xnn P E nt):=by
  intro ops r H x h hf ρ s w K hS hk
  unfold Xnn at h
  split at h
  · rename_i x' sn h1
    obtain ⟨hok,h⟩:=Xf h
    cases h
    have hd:=Fr.drew w
    have hS':Sm ρ nt r H.t s w.drew:=⟨hS.rr,hS.rn,hS.rel.same hd⟩
    have hheld:Xma P ops=Xb6 P ops ops.size 0:=XgF (MA.zero _) (by simp)
    rw [hheld]
    refine ⟨HoldS ρ w.drew sn.1,Xp1 hE hS'.rel (XoY hok) h1 (MA.zero _) (fun _ h=>h) (fun _ h=>h) hS' (Rho.le.refl ρ) (by simp) ?_ fun ρ' w' s' hx hS2 hd2=>hk ρ' w' s' ((Ext.same hd).trans hx) hS2 hd2⟩
    intro j o ho hl
    have hlt:j<ops.size:=(Array.getElem?_eq_some_iff.1 ho).1
    simp [hlt] at hl
  · cases h
end
end Go.Fw
end

section
namespace Go.Fw
open Go
def Xq2 (c:Nat):List UInt8→Nat→Int
  | [],_=>-1
  | b::l,i=>bif Nat.beq b.toNat c then (i:Int) else Xq2 c l (i+1)
def Xnr (c:Nat):List UInt8→Nat
  | []=>0
  | b::l=>bif Nat.beq b.toNat c then Xnr c l+1 else Xnr c l
theorem Xsi {b x:UInt8} {c:Nat} (hx:x.toNat=c):Nat.beq b.toNat c=(b == x):=by
  rw [Bool.eq_iff_iff,beq_iff,beq_iff_eq,← hx]
  exact ⟨fun h=>UInt8.toNat_inj.1 h,fun h=>by rw [h]⟩
theorem Xp2 {x:UInt8} {c:Nat} (hx:x.toNat=c):∀ (l:List UInt8) (i:Nat),Xq2 c l i=if Lib.indexByte l x=-1 then -1 else Lib.indexByte l x+i
  | [],i=>rfl
  | b::l,i=>by
    unfold Xq2 Lib.indexByte
    rw [Xsi hx]
    cases h:(b == x) with
    | true=>
      simp
    | false=>
      rw [cond_false,Xp2 hx l (i+1)]
      have:=Lib.indexByte_ge l x
      simp only [Bool.false_eq_true,if_false,beq_iff_eq]
      by_cases h2:Lib.indexByte l x=-1
      · simp [h2]
      · rw [if_neg h2,if_neg h2,if_neg (by omega)]
        omega
theorem Xp3 {x:UInt8} {c:Nat} (hx:x.toNat=c):∀ (l:List UInt8),Xnr c l=Lib.countByte l x
  | []=>rfl
  | b::l=>by
    unfold Xnr
    rw [Xsi hx,Xp3 hx l]
    unfold Lib.countByte
    rw [List.count_cons]
    cases b == x <;> rfl
def Xak (P : Program) (f : FuncId) (e : Array Value → Sem Value) : Prop := ∃ fn, P.funcs[f]? = some fn ∧ (fn.name == "runtime.NumGoroutine") = false ∧ fn.body.isNone = true ∧ Extern.findNext fn = none ∧ Extern.find fn = some e
noncomputable def Xs (a b c d g h k:Nat) (e8:TypeId) (f:FuncId) (args:List Value) (H:Hp):Option (Value×Hp):=
  bif Nat.beq f a then (match args with | [.string s,.int .u8 (.ofNat n)]=>bif Nat.blt n 256 then some (.int .i64 (Xq2 n s.data.toList 0),H) else none | _=>none)
  else bif Nat.beq f b then (match args with | [.string s,.int .u8 (.ofNat n)]=>bif Nat.blt n 256 then some (.int .i64 (Xnr n s.data.toList),H) else none | _=>none)
  else bif Nat.beq f c then (match args with | [.int .i64 (.ofNat n)]=>bif Nat.ble n 1000000 then (match H.new (.cells true [] e8 true) with | some (i,H')=>some (.slice (some ⟨i,0,none⟩) n (XJ+1),H') | none=>none) else none | _=>none)
  else bif Nat.beq f d then (match args with | [p]=>some (p,H) | _=>none)
  else bif Nat.beq f g then (match args with | [.pointer (some ⟨i,o,none⟩)]=>(match XX H i o 1 with | some [.int .i64 v]=>some (.int .i64 v,H) | _=>none) | _=>none)
  else bif Nat.beq f h then (match args with | [.pointer (some ⟨i,o,none⟩),.int .i64 v]=>(match Zl H i o [.int .i64 v] with | some H'=>some (.tuple #[],H') | none=>none) | _=>none)
  else bif Nat.beq f k then (match args with
    | [.pointer (some ⟨i,o,none⟩),.int .i64 v]=>(match XX H i o 1 with
      | some [.int .i64 u]=>(match Zl H i o [.int .i64 (IntKind.i64.wrap (u+v))] with | some H'=>some (.int .i64 (IntKind.i64.wrap (u+v)),H') | none=>none)
      | _=>none)
    | _=>none)
  else none
section
variable {P:Program} {ρ:Rho} {H H':Hp} {w:World}
theorem XvX {i o:Nat} {v u:Value} (h:Zl H i o [v]=some H') (hR:Rel ρ H.t w) (hv:VR ρ v u) {m:Img} (hm:ρ i=some m):(∃ y,w.cell? ⟨m.b,m.base+o,none⟩=some y)∧w.frozen? ⟨m.b,m.base+o,none⟩=false∧
    Ext ρ H.t w ρ H'.t (w.setCell ⟨m.b,m.base+o,none⟩ u)∧Rel ρ H'.t (w.setCell ⟨m.b,m.base+o,none⟩ u):=by
  obtain ⟨w',h1,h2,h3⟩:=UB (P:=default) h hR (VRs.cons hv (.nil ρ)) hm
  unfold Zl at h
  split at h
  · rename_i cs e zb hg
    obtain ⟨hb,h⟩:=Xf h
    rw [Bool.and_eq_true,Bool.and_eq_true] at hb
    have hle:o+1≤cs.length:=Nat.le_of_ble_eq_true hb.1.1
    obtain ⟨m',O,hm',hO,c,z,rfl,_,hz,hc⟩:=hR.live i _ hg rfl
    rw [hm] at hm'; cases hm'
    obtain rfl:=hz rfl
    obtain ⟨y,hy,_⟩:=hc o _ (List.getElem?_eq_getElem (by omega))
    have hcell:w.cell? ⟨m.b,m.base+o,none⟩=some y:=by
      unfold World.cell?
      rw [hO]
      show (if (none:Option Nat).isSome=true then none else c[m.base+o]?)=_
      rw [if_neg (by simp)]; exact hy
    have hfz:w.frozen? ⟨m.b,m.base+o,none⟩=false:=by
      unfold World.frozen?
      rw [hO]
      simp
    have hone:u.oneCell'=true:=hv.one (by have:=hb.2; simpa using this)
    have e1:(storeCells ⟨m.b,m.base+o,none⟩ [u]).run (default:Program) w=.ok () (w.setCell ⟨m.b,m.base+o,none⟩ u):=by
      unfold storeCells
      rw [Sem.run_bind,Xi,Nat.add_zero,run_store _ _ _ _ _ hone,hcell]
      show (if w.frozen? ⟨m.b,m.base+o,none⟩=true then _ else _:Result Unit).andThen _=_
      rw [hfz]; rfl
    rw [e1] at h1
    injection h1 with _ h1
    subst h1
    exact ⟨⟨y,hcell⟩,hfz,h2,h3⟩
  · cases h
theorem Xsj {i o:Nat} {k:IntKind} {x:Int} (hR:Rel ρ H.t w) (h:XX H i o 1=some [.int k x]) {m:Img} (hm:ρ i=some m):w.cell? ⟨m.b,m.base+o,none⟩=some (.int k x):=by
  obtain ⟨m',vs,hm',hv,_,hc⟩:=Zm hR h
  rw [hm] at hm'; cases hm'
  obtain ⟨y,ys,rfl,hy,_⟩:=hv.cons_inv
  have:=hc 0 y rfl
  rw [Nat.add_zero] at this
  cases hy; exact this
theorem XwK {a b c d g h k:Nat} {e8:TypeId} {t:TypeId} {ps:Array TypeId} (ha:Xak P a Extern.BytealgIndexByte.indexByte) (hb:Xak P b Extern.BytealgCount.count) (hc:Xak P c (Extern.BytealgMakeNoZero.makeNoZero ps #[t])) (ht:P.underlying t=some (.slice e8))
    (hd:Xak P d Extern.AbiNoEscape.same) (hg:Xak P g (Extern.Atomic.loadT (.int .i64))) (hh:Xak P h Extern.Atomic.storeT) (hk:Xak P k (Extern.Atomic.update (Op.intArith .add) .i64 true)):XOk P (Xs a b c d g h k e8):=by
  intro f args H cv H' hX ρ w vs K hR hv hK
  have ext:∀ {e:Array Value→Sem Value},Xak P f e→∀ {u:Value} {w':World},(e ⟨vs⟩).run P w=.ok u w'→K u w'→Xa P f ⟨vs⟩ w K:=fun {e} he {u w'} hr hku=>by
    obtain ⟨fn,h1,h2,h3,h4,h5⟩:=he
    exact Yx (by rw [run_callFunc_extern h1 h2 h3 h4 h5,hr]; rfl) hku
  unfold Xs at hX
  cases e1:Nat.beq f a with
  | true=>
    rw [e1,cond_true] at hX
    obtain rfl:=beq_iff.1 e1
    split at hX
    · rename_i s n
      obtain ⟨hn,hX⟩:=Xf hX
      cases hX
      obtain ⟨v1,l1,rfl,h1,h2⟩:=hv.cons_inv
      obtain ⟨v2,l2,rfl,h3,h4⟩:=h2.cons_inv
      obtain rfl:=h4.nil_inv
      cases h1; cases h3
      have hn:n<256:=Nat.le_of_ble_eq_true hn
      have hx:((n:Int).toNat.toUInt8).toNat=n:=by simp; omega
      refine ext ha (Lib.run_indexByteString s (n:Int) w) (hK.here hR ?_)
      rw [Xp2 hx]
      have:(if Lib.indexByte s.data.toList (n:Int).toNat.toUInt8=-1 then (-1:Int) else Lib.indexByte s.data.toList (n:Int).toNat.toUInt8+((0:Nat):Int))=Lib.indexByte s.data.toList (n:Int).toNat.toUInt8:=by
        split
        · rename_i h; exact h.symm
        · simp
      rw [this]
      exact .int _ _
    · cases hX
  | false=>
  rw [e1,cond_false] at hX
  cases e2:Nat.beq f b with
  | true=>
    rw [e2,cond_true] at hX
    obtain rfl:=beq_iff.1 e2
    split at hX
    · rename_i s n
      obtain ⟨hn,hX⟩:=Xf hX
      cases hX
      obtain ⟨v1,l1,rfl,h1,h2⟩:=hv.cons_inv
      obtain ⟨v2,l2,rfl,h3,h4⟩:=h2.cons_inv
      obtain rfl:=h4.nil_inv
      cases h1; cases h3
      have hn:n<256:=Nat.le_of_ble_eq_true hn
      have hx:((n:Int).toNat.toUInt8).toNat=n:=by simp; omega
      refine ext hb (Lib.run_countString s (n:Int) w) (hK.here hR ?_)
      rw [Xp3 hx]
      exact .int _ _
    · cases hX
  | false=>
  rw [e2,cond_false] at hX
  cases e3:Nat.beq f c with
  | true=>
    rw [e3,cond_true] at hX
    obtain rfl:=beq_iff.1 e3
    split at hX
    · rename_i n
      obtain ⟨hn,hX⟩:=Xf hX
      have hn:n≤1000000:=Nat.le_of_ble_eq_true hn
      split at hX
      · rename_i i H2 hnew
        cases hX
        obtain ⟨v1,l1,rfl,h1,h2⟩:=hv.cons_inv
        obtain rfl:=h2.nil_inv
        cases h1
        obtain ⟨cs,hr,hle,_⟩:=Lib.run_makeNoZero (P:=P) w ps t e8 ht n (by omega)
        obtain ⟨k1,k2,k3⟩:=Xag hnew
        obtain ⟨hR',hE⟩:=hR.new (m:=⟨w.heap.size,0,cs.size,1⟩) (w':=w.drew.drew.alloc (.cells cs e8)) k1 k2 (((Fr.drew w).then (Fr.drew _)).then (Fr.alloc _ _)) (Nat.le_refl _) (by show (w.heap.push _)[w.heap.size]?=_; simp)
          (o:=.cells true [] e8 true) ⟨cs,(0,0),rfl,⟨rfl,fun _=>rfl⟩,fun _=>rfl,fun j x hx=>by simp at hx⟩
        refine ext hc hr (hK _ _ _ (by rw [k3]; exact hE) (by rw [k3]; exact hR') ?_)
        exact .sliceO (m:=⟨w.heap.size,0,cs.size,1⟩) (Rho.put_same ..) (by show (1:Nat)≠0; omega) rfl (by show 0+0+cs.size*1=cs.size; omega) hle
      · cases hX
    · cases hX
  | false=>
  rw [e3,cond_false] at hX
  cases e4:Nat.beq f d with
  | true=>
    rw [e4,cond_true] at hX
    obtain rfl:=beq_iff.1 e4
    split at hX
    · cases hX
      obtain ⟨v1,l1,rfl,h1,h2⟩:=hv.cons_inv
      obtain rfl:=h2.nil_inv
      exact ext hd (Lib.run_noEscape (P:=P) w v1) (hK.here hR h1)
    · cases hX
  | false=>
  rw [e4,cond_false] at hX
  cases e5:Nat.beq f g with
  | true=>
    rw [e5,cond_true] at hX
    obtain rfl:=beq_iff.1 e5
    split at hX
    · rename_i i o
      split at hX
      · rename_i x hcell
        cases hX
        obtain ⟨v1,l1,rfl,h1,h2⟩:=hv.cons_inv
        obtain rfl:=h2.nil_inv
        obtain ⟨m,hm,rfl⟩:=h1.ptr_inv
        obtain ⟨fn,f1,f2,f3,f4,f5⟩:=hg
        exact Yx (run_call_load f1 f2 f3 f4 .i64 f5 (Xsj hR hcell hm)) (hK.here hR (.int _ _))
      · cases hX
    · cases hX
  | false=>
  rw [e5,cond_false] at hX
  cases e6:Nat.beq f h with
  | true=>
    rw [e6,cond_true] at hX
    obtain rfl:=beq_iff.1 e6
    split at hX
    · rename_i i o x
      split at hX
      · rename_i H2 hput
        cases hX
        obtain ⟨v1,l1,rfl,h1,h2⟩:=hv.cons_inv
        obtain ⟨v2,l2,rfl,h3,h4⟩:=h2.cons_inv
        obtain rfl:=h4.nil_inv
        obtain ⟨m,hm,rfl⟩:=h1.ptr_inv
        have h3':=h3.int_inv
        subst h3'
        obtain ⟨⟨y,hy⟩,hfz,hE,hR'⟩:=XvX hput hR (.int _ _) hm
        obtain ⟨fn,f1,f2,f3,f4,f5⟩:=hh
        exact Yx (run_call_store f1 f2 f3 f4 f5 hy hfz) (hK _ _ _ hE hR' (VRs.tuple (.nil ρ)))
      · cases hX
    · cases hX
  | false=>
  rw [e6,cond_false] at hX
  cases e7:Nat.beq f k with
  | true=>
    rw [e7,cond_true] at hX
    obtain rfl:=beq_iff.1 e7
    split at hX
    · rename_i i o x
      split at hX
      · rename_i u hcell
        split at hX
        · rename_i H2 hput
          cases hX
          obtain ⟨v1,l1,rfl,h1,h2⟩:=hv.cons_inv
          obtain ⟨v2,l2,rfl,h3,h4⟩:=h2.cons_inv
          obtain rfl:=h4.nil_inv
          obtain ⟨m,hm,rfl⟩:=h1.ptr_inv
          have h3':=h3.int_inv
          subst h3'
          obtain ⟨_,hfz,hE,hR'⟩:=XvX hput hR (.int _ _) hm
          obtain ⟨fn,f1,f2,f3,f4,f5⟩:=hk
          exact Yx (run_call_add f1 f2 f3 f4 .i64 f5 (Xsj hR hcell hm) hfz rfl) (hK _ _ _ hE hR' (.int _ _))
        · cases hX
      · cases hX
    · cases hX
  | false=>rw [e7,cond_false] at hX; cases hX
end
theorem Xo1 {P:Program} {E:Xv} (hE:Yi P E) {f:FuncId} {c:Value} {H':Hp} (h:E (.f f) [] ⟨0,.all⟩=some (c,H')) (hg:gr c=true) {w:World} {K:VWP} (hk:∀ w',Fr [] w w'→K c w'):Xa P f #[] w K:=by
  have hR:Rel (fun _=>none) HT.all w:=⟨fun i m hm=>(by cases hm),fun i o ho hd=>(Lv.hole ⟨o,ho,hd⟩).elim,fun i j m m' hi=>(Lv.hole hi).elim⟩
  refine hE (.f f) [] ⟨0,.all⟩ c H' h _ w [] K hR (.nil _) fun ρ' w' v hx hR' hv=>?_
  have:=Xae hg hv
  subst this
  exact hk w' hx.fr
end Go.Fw
end
