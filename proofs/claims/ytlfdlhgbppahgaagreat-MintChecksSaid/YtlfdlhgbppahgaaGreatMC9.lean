/- A part of a proof of a given law of this program: lemmas, printed forms of its functions, contracts. It has no conditions of its own. -/
import Derived.Test.YtlfdlhgbppahgaaGreatMC8

set_option maxHeartbeats 16000000
section
namespace Go.Sh
open Go Go.Fw Go.Proofs
set_option maxRecDepth 100000
set_option linter.unusedVariables false
theorem Xnu {ks:List KE} {li:Nat} {x:VI} (h:(XV ks li x).kd=2):∃ e,e≠0∧XV ks li x=Xt e:=by
  have e:=h
  unfold XV at e ⊢
  split at e
  · rename_i h1; exact ⟨17,by omega,by rw [if_pos h1]⟩
  · rename_i h1
    split at e
    · rename_i h2; exact ⟨21,by omega,by rw [if_neg h1,if_pos h2]⟩
    · rename_i h2
      split at e
      · rename_i h3; exact ⟨_,h3,by rw [if_neg h1,if_neg h2,if_pos h3]⟩
      · rename_i h3
        split at e
        · rename_i h4; exact ⟨_,h4,by rw [if_neg h1,if_neg h2,if_neg h3,if_pos h4]⟩
        · exact absurd e (by show ¬ (1:Int)=2; omega)
theorem Xvx {ks:List KE} {pl:MP} {act:Bool} {x:VI} (h:(XD ks pl act x).kd=2):∃ e,e≠0∧XD ks pl act x=Xt e∧(XY x.f.tok=true∨Ze ks x≠0):=by
  have e:=h
  unfold XD at e ⊢
  split at e
  · rename_i h1
    split at e
    · rename_i h2
      obtain ⟨n,hn,hu⟩:=Xnu e
      exact ⟨n,hn,by rw [if_pos h1,if_pos h2,hu],.inl h1⟩
    · exact absurd e (by show ¬ (0:Int)=2; omega)
  · rename_i h1
    split at e
    · exact absurd e (by show ¬ (0:Int)=2; omega)
    · rename_i h2
      split at e
      · exact absurd e (by show ¬ (0:Int)=2; omega)
      · rename_i h3
        split at e
        · rename_i h4; exact ⟨_,h3,by rw [if_neg h1,if_neg h2,if_neg h3,if_pos h4],.inr h3⟩
        · rename_i h4
          obtain ⟨n,hn,hu⟩:=Xnu e
          exact ⟨n,hn,by rw [if_neg h1,if_neg h2,if_neg h3,if_neg h4,hu],.inr h3⟩
theorem Xwx {ks:List KE} {pl:MP} {act:Bool} {x:VI} (h:(XD ks pl act x).kd=0):(XD ks pl act x=Jp false∧act=false)∨(XD ks pl act x=Jp true∧Ze ks x=0∧XY x.f.tok=false):=by
  have e:=h
  unfold XD at e ⊢
  split at e
  · rename_i h1
    split at e
    · have:=Xmv ks pl.li x
      omega
    · rename_i h2
      refine .inl ⟨by rw [if_pos h1,if_neg h2],?_⟩
      cases act with
      | true=>exact absurd rfl h2
      | false=>rfl
  · rename_i h1
    split at e
    · rename_i h2
      exact .inl ⟨by rw [if_neg h1,if_pos h2],h2.1⟩
    · rename_i h2
      split at e
      · rename_i h3
        refine .inr ⟨by rw [if_neg h1,if_neg h2,if_pos h3],h3,?_⟩
        cases hb:XY x.f.tok with
        | true=>exact absurd hb h1
        | false=>rfl
      · split at e
        · exact absurd e (by show ¬ (2:Int)=0; omega)
        · have:=Xmv ks pl.li x
          omega
theorem Xvy {ks:List KE} {cl tok:List UInt8} {now:Nat} (hk:∀ k∈ks,k.sq≤127) (h:XY tok=true):tok.length=0∨(Xz ks cl tok now).e≠0:=by
  unfold XY at h
  rcases of_decide_eq_true h with h | h
  · exact .inl h
  · right
    have hno:¬ X9 ks (tk0 tok:Int):=fun hh=>by
      obtain ⟨e,he,hes⟩:=Xmu hh
      have:=hk e (List.mem_of_getElem? he)
      omega
    have hE:YR ks cl tok≠0:=by
      unfold YR
      by_cases h29:tok.length<29
      · rw [if_pos h29]; omega
      · rw [if_neg h29,if_pos hno]; omega
    unfold Xz
    rw [if_pos hE]
    exact hE
section
variable {w0 w:World} {b br lo:Nat} {X:MX} {p:Option Addr} {es:List RE} {N:Int} {K:VWP} {x:MC}
theorem Xh8 {k5 k8:Nat} {o:OC} {ob:Bool} (h:MS w0 w b (X.took o.u) br p es N lo) (hN:N<1000000) (hC:CAt w k5 x.v) (hx:MC.ok w0 x) (hf:x.few)
    (hC8:CAt w k8 o.v) (hO:OC.own w o w0.heap.size) (hu:o.u=Ux (es.map RE.ke) X x.vi) (hob:ob=decide ((Xz (es.map RE.ke) x.cl x.f.tok x.now).e=0∧0<x.f.tok.length)) (hK:∀ w',Fr [] w0 w'→K (.bool true) w') :
    ZE ⟨k5,0,none⟩ false (some ⟨b,0,none⟩) ⟨k8,0,none⟩ ob w K:=by
  have hx0:=hx.1
  have hact:(X.took o.u).act=X.see.act:=by
    unfold MX.act MX.took MX.see; rfl
  have hk127:∀ k∈es.map RE.ke,k.sq≤127:=fun k hk=>by
    obtain ⟨e,he,hke⟩:=List.mem_map.1 hk
    have:=(h.M.r.ent e he).2.2
    have hke:e.sq=k.sq:=by rw [← hke]; rfl
    omega
  have nop:(XY x.f.tok=true∨Ze (es.map RE.ke) x.vi≠0)→ob=false:=fun hh=>by
    rw [hob]
    refine decide_eq_false fun ⟨h1,h2⟩=>?_
    rcases hh with hh | hh
    · rcases Xvy (cl:=x.cl) (now:=x.now) hk127 hh with h3 | h3
      · omega
      · exact h3 h1
    · exact hh h1
  have hju:o.u=XD (es.map RE.ke) X.pl X.see.act x.vi:=hu
  unfold ZE
  refine ⟨_,hC8.get (by kernel_rfl) (j:=0) rfl,Xu (fun h0=>?_) fun h0=>?_⟩
  ·
    refine ⟨_,rfl,J8 h.M fun w1 f1=>⟨_,rfl,?_⟩⟩
    have hC81:=hC8.fr0 f1
    have fin:=hK w1 (h.f0.then f1)
    rw [hact]
    rcases Xwx (by rw [← hju]; exact h0) with ⟨e1,e2⟩ | ⟨e1,e2,e3⟩
    · have hou:o.u=Jp false:=hju.trans e1
      rw [e2]
      refine Xk ⟨_,hC81.get (by kernel_rfl) (j:=1) rfl,?_⟩
      rw [show o.u.ch=false by rw [hou]; rfl]
      refine Xk ⟨_,_,_,hC81.get (by kernel_rfl) (j:=3) rfl,XL (by rw [hou]; rfl) ⟨_,hC81.get (by kernel_rfl) (j:=4) rfl,?_⟩⟩
      rw [hou]; exact fin
    · have hou:o.u=Jp true:=hju.trans e1
      have hobt:ob=true:=by
        rw [hob]
        refine decide_eq_true ⟨e2,?_⟩
        have e3:XY x.f.tok=false:=e3
        unfold XY at e3
        have:=of_decide_eq_false e3
        omega
      rw [hobt]
      have tail : ∃ (b102 : Bool), Ld Tryz.prog Xe5 (.pointer (some ((⟨k8, 0, none⟩ : Addr).add 1))) w1 (.bool b102) ∧
          cond (!b102) (∃ (p110:Option Addr) (l110:Nat) (c110:Nat),Ld Tryz.prog Xf (.pointer (some ((⟨k8,0,none⟩:Addr).add 3))) w1 (.slice p110 l110 c110)∧cond (((l110:Nat):Int) == 0) (∃ (n116:Int),Ld Tryz.prog X4 (.pointer (some ((⟨k8,0,none⟩:Addr).add 4))) w1 (.int .i64 n116)∧K (.bool (n116 == 0)) w1) (K (.bool false) w1))
            (cond true (∃ (p110:Option Addr) (l110:Nat) (c110:Nat),Ld Tryz.prog Xf (.pointer (some ((⟨k8,0,none⟩:Addr).add 3))) w1 (.slice p110 l110 c110)∧cond (((l110:Nat):Int) == 0) (∃ (n116:Int),Ld Tryz.prog X4 (.pointer (some ((⟨k8,0,none⟩:Addr).add 4))) w1 (.int .i64 n116)∧K (.bool (n116 == 0)) w1) (K (.bool false) w1)) (K (.bool false) w1)):=by
        refine ⟨_,hC81.get (by kernel_rfl) (j:=1) rfl,?_⟩
        rw [show o.u.ch=true by rw [hou]; rfl]
        refine Xi (Xk ⟨_,_,_,hC81.get (by kernel_rfl) (j:=3) rfl,XL (by rw [hou]; rfl) ⟨_,hC81.get (by kernel_rfl) (j:=4) rfl,?_⟩⟩)
        rw [hou]; exact fin
      cases X.see.act with
      | false=>exact Xk tail
      | true=>exact Xi (Xk tail)
  refine Xu (fun h1=>?_) fun h1=>?_
  ·
    obtain ⟨m1,m2,m3⟩:=Xnt (by rw [← hju]; exact h1)
    have hobf:=nop m3
    have hnK:=h.M.r.newK_le
    obtain ⟨B,T,S,hMd⟩:=Xq6 (ks:=es.map RE.ke) (li:=X.pl.li) (x:=x.vi) hnK hx0.n (by rw [← m1,← hju]; exact h1)
    have hou:o.u=Yp B:=by rw [hju,m1,hMd.u]
    obtain ⟨uo,po,co⟩:=o
    have hou:uo=Yp B:=hou
    subst hou
    have hOB:OB w po B.length co B w0.heap.size:=hO
    have hbl:=hMd.bl
    refine ⟨_,_,_,hC8.get (by kernel_rfl) (j:=3) rfl,Vp (b:=B) hOB.row rfl hOB.cap (by omega) fun u w1 f1 hU1 hu1=>⟨_,_,_,_,_,_,_,_,_,_,_,_,_,_,_,rfl,?_⟩⟩
    obtain ⟨u1,u2,u3,u4,u5,u6⟩:=RT.su_eq hu1
    rw [hMd.p] at u3 u4 u5 u6 ⊢
    have u3:u.h.to=x.f.h.fr:=u3
    have u4:u.h.fr=XC x.rd:=u4
    refine US (t:=Zd) u.v rfl rfl (by kernel_rfl) (by kernel_rfl) fun w3 f3 hC9=>?_
    have f03:=f1.then f3
    refine ⟨_,rfl,J8 (h.M.fr0 f03) fun w5 f5=>⟨_,rfl,?_⟩⟩
    rw [hact,m2,hobf]
    have f05:=f03.then f5
    have hC85:=hC8.fr0 f05
    have hC95:=hC9.fr0 f5
    have hU5:=(hU1.fr0 f3).fr0 f5
    have hx5:=hx0.fr0 (h.f0.then f05)
    refine Xk (Xk (XL rfl ⟨_,hC85.get (by kernel_rfl) (j:=4) rfl,XL rfl ⟨_,_,_,hC95.get0 (by kernel_rfl) (j:=2) rfl,_,_,_,MC.frLd (hC.fr0 f05),?_⟩⟩))
    refine VY hU5.h.o1.row rfl hx5.f.h.r2 rfl (by rw [u3]; have:=hf.l4; omega) fun w6 f6=>⟨_,rfl,?_⟩
    rw [decide_eq_true (show u.h.to=x.vi.f.h.fr from u3)]
    have hx6:=hx5.fr0 f6
    refine Xk ⟨_,_,_,(hC85.fr0 f6).get (by kernel_rfl) (j:=3) rfl,_,_,_,MC.toLd ((hC.fr0 f05).fr0 f6),?_⟩
    refine Xgl (b:=B) (id:=x.f.h.to) ((hOB.fr0 f05).fr0 f6).row rfl hOB.cap (by omega) hx6.f.h.r1 rfl hx6.f.h.h1 fun w7 f7=>⟨_,rfl,?_⟩
    rw [show ckE B x.f.h.to=0 from hMd.c]
    refine XL rfl ⟨_,_,_,((hC95.fr0 f6).fr0 f7).get0 (by kernel_rfl) (j:=3) rfl,?_⟩
    have e9:u.h.fr.length=9:=by rw [u4]; exact hMd.sl
    rw [e9]
    exact hK w7 (h.f0.then (f05.then (f6.then f7)))
  ·
    have hkd:=XgA (es.map RE.ke) X.pl X.see.act x.vi
    rw [← hju] at hkd
    have h2:o.u.kd=2:=by omega
    refine Xu (fun _=>?_) fun hh=>absurd h2 hh
    obtain ⟨e,he,d1,d2⟩:=Xvx (by rw [← hju]; exact h2)
    have hou:o.u=Xt e:=hju.trans d1
    rw [nop d2]
    refine Xk ⟨_,hC8.get (by kernel_rfl) (j:=2) rfl,Xs (fun _=>?_) fun hh=>absurd hh (by rw [hou]; exact he)⟩
    refine ⟨_,_,_,hC8.get (by kernel_rfl) (j:=3) rfl,XL (by rw [hou]; rfl) ⟨_,hC8.get (by kernel_rfl) (j:=4) rfl,?_⟩⟩
    rw [hou]
    exact hK w h.f0
theorem Xsn {k5 k8:Nat} {o:OC} (h:MS w0 w b (X.took o.u) br p es N lo) (hN:N<100000) (hX:X.now<1000) (hC:CAt w k5 x.v) (n5:¬ MB b br p es k5) (hx:MC.ok w0 x) (hf:x.few)
    (hC8:CAt w k8 o.v) (n8:¬ MB b br p es k8) (hO:OC.own w o w0.heap.size) (ho:∀ z∈Xb o.p,¬ MB b br p es z) (hu:o.u=Ux (es.map RE.ke) X x.vi) (hK:∀ w',Fr [] w0 w'→K (.bool true) w') :
    X1 ⟨k5,0,none⟩ false (some ⟨b,0,none⟩) (X.now:Int) ⟨k8,0,none⟩ w K:=by
  unfold X1
  refine ⟨_,rfl,Xdx h.M fun w1 f1=>⟨_,_,rfl,?_⟩⟩
  have ew:IntKind.i64.wrap ((X.now:Int)+1)=((X.now+1:Nat):Int):=by rw [Xe (by omega) (by omega)]; omega
  rw [ew]
  refine Xs (fun hh=>absurd rfl hh) fun _=>⟨fun w'=>CAt w' k5 x.v,Drw.intro fun w2 f2 s2=>?_⟩
  have f02:=f1.then f2
  have h2:=h.fr0 f02
  have hC2:=hC.fr0 f02
  have hS:∀ w',FrP (MB b br p es) w2 w'→CAt w' k5 x.v:=fun w' f=>hC2.frP f n5
  refine ⟨_,_,_,⟨hC2,fun w' hw=>hw.get (by kernel_rfl) (j:=6) rfl⟩,_,_,_,⟨hC2,fun w' hw=>MC.tkLd hw⟩,_,⟨hC2,fun w' hw=>hw.get (by kernel_rfl) (j:=14) rfl⟩,?_⟩
  have hx0:=hx.1
  have hx2:=hx0.fr0 h2.f0
  have hl1:=hf.l1; have hl5:=hf.l5
  have old:=VI.off_old hx0 h.low
  refine h2.opens (now:=x.now) (J:=fun a n w'=>Yq ⟨k5,0,none⟩ false (some ⟨b,0,none⟩) ⟨k8,0,none⟩ n w' K) (by omega) hx2.r1 rfl hx2.h1 (by show x.cl.length≤_; omega) hx2.f.r3 rfl hx2.f.h3 (by show x.f.tok.length≤_; omega) old.o3 hS fun F k15 wf hf9 ff hTF hFok h15 hFu=>?_
  have hC85:CAt wf k8 o.v:=(hC8.fr0 f02).frP ff n8
  have hOf:OC.own wf o w0.heap.size:=by
    obtain ⟨L,l1,l2⟩:=ff
    exact OB.fr (OB.fr0 hO f02) l2 fun z hz hm=>ho z hz (l1 z hm)
  show Yq ⟨k5,0,none⟩ false (some ⟨b,0,none⟩) ⟨k8,0,none⟩ (Xz (es.map RE.ke) x.cl x.f.tok x.now).e wf K
  unfold Yq
  refine Xu (fun h0=>?_) fun h0=>?_
  · refine ⟨_,_,_,MC.tkLd (hS wf ff),Xh8 hf9 (by omega) (hS wf ff) hx hf hC85 hOf hu ?_ hK⟩
    refine decide_eq_decide.2 ⟨fun hh=>⟨h0,by omega⟩,fun hh=>by omega⟩
  · exact Xh8 hf9 (by omega) (hS wf ff) hx hf hC85 hOf hu (decide_eq_false fun hh=>h0 hh.1).symm hK
theorem MintChecks_c {g:MP} {p1:Option Addr} {l1 c1:Nat} {cs:List MC} {x:MC} (h1':Row w p1 (cs.flatMap MC.v)) (hok':∀ x∈cs,MC.ok w x) (hl1:l1=cs.length) (hx':MC.ok w x) (h:∀ w',Fr [] w w'→K (.bool true) w') :
    Xa Tryz.prog XeQ #[g.a,.slice p1 l1 c1,.agg ⟨x.v⟩] w K:=by
  apply Xcd
  unfold QK
  refine YS (t:=YA) g.v fun w1 f1 hC3 s1=>?_
  obtain ⟨k3,hk3⟩:∃ k,k=w.heap.size:=⟨_,rfl⟩
  rw [← hk3] at hC3 ⊢
  refine YS (t:=T_law21_Call) x.v fun w2 f2 hC5 s2=>?_
  obtain ⟨k5,hk5⟩:∃ k,k=w1.heap.size:=⟨_,rfl⟩
  rw [← hk5] at hC5 ⊢
  have f02:=f1.then f2
  refine Xns fun w3 f3=>⟨_,rfl,Xi ?_⟩
  have f03:=f02.then f3
  refine XaO (h1'.fr0 f03) hl1 (fun w4 f4=>⟨_,rfl,Xk (h w4 (f03.then f4))⟩) fun w4 f4 hfew=>⟨_,rfl,Xi ?_⟩
  have f04:=f03.then f4
  have hC54:=(hC5.fr0 f3).fr0 f4
  refine ⟨_,hC54.ld (by kernel_rfl) (by rw [x.v_len]; kernel_rfl),Xvt fun q w5 f5 hQ5=>?_⟩
  have f05:=f04.then f5
  refine XaO (cs:=[x]) hQ5 rfl (fun w6 f6=>⟨_,rfl,Xk (h w6 (f05.then f6))⟩) fun w6 f6 hfx=>⟨_,rfl,Xi ?_⟩
  have f06:=f05.then f6
  have hxf:=hfx.2 x (by simp)
  have hC56:=(hC54.fr0 f5).fr0 f6
  unfold Vx
  have hC36:CAt w6 k3 g.v:=((((hC3.fr0 f2).fr0 f3).fr0 f4).fr0 f5).fr0 f6
  have hx:=hx'.fr0 f06
  have hl60:=hfew.1
  refine Xq7 hC36 (h1'.fr0 f06) (fun y hy=>(hok' y hy).fr0 f06) hl1 hfew (fun w' f=>h w' (f06.then f)) fun b X br p es lo c r q rs lo2 wa hg T hn hc=>?_
  have hs:=T.ms
  refine ⟨_,rfl,Xdx hs.M fun wc fc=>⟨_,_,rfl,fun w'=>CAt w' k5 x.v,Drw.intro fun wb fb sb=>?_⟩⟩
  have hsb:=(hs.fr0 fc).fr0 fb
  have hC5b:=((hC56.fr0 T.f).fr0 fc).fr0 fb
  have n5:¬ MB b br p es k5:=fun hh=>by have:=hs.low k5 hh; have:=hC56.lt; omega
  have hS:∀ w',FrP (MB b br p es) wb w'→CAt w' k5 x.v:=fun w' f=>hC5b.frP f n5
  refine ⟨_,_,_,⟨hC5b,fun w' hw=>hw.get (by kernel_rfl) (j:=6) rfl⟩,_,_,_,_,_,_,_,_,_,_,_,_,_,_,⟨hC5b,fun w' hw=>MC.ldF hw⟩,_,⟨hC5b,fun w' hw=>hw.get (by kernel_rfl) (j:=14) rfl⟩,_,_,_,⟨hC5b,fun w' hw=>hw.get (by kernel_rfl) (j:=7) rfl⟩,?_⟩
  have nb:=hsb.f0.size
  refine hsb.copies (J:=fun a w'=>X1 ⟨k5,0,none⟩ false (some ⟨b,0,none⟩) (X.now:Int) a w' K) (by omega) ⟨by omega,by omega,by omega,by omega⟩ hx hxf hS fun o k8 w9 hM9 f9 hC8 hO h8 hne hu=>?_
  exact Xsn hM9 (by omega) (by omega) (hS w9 f9) n5 hx hxf hC8 (fun hh=>by have:=hsb.lt hh; omega) (OB.mono hO nb) (fun z hz hh=>by have:=hO.2.2 z hz; have:=hsb.lt hh; omega) hu fun w' f=>h w' (f06.then f)
end
end Go.Sh
end
