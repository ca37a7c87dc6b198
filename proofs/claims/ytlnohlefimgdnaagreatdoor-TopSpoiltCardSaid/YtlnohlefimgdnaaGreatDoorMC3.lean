/- A part of a proof of a given law of this program: lemmas, printed forms of its functions, contracts. It has no conditions of its own. -/
import Derived.Test.YtlnohlefimgdnaaGreatDoorMW0
import Derived.Test.YtlnohlefimgdnaaGreatDoorMC1
import Derived.Test.YtlnohlefimgdnaaGreatDoorMC2
import Derived.Test.YtlnohlefimgdnaaGreatDoorMW1
import Derived.Test.YtlnohlefimgdnaaGreatDoorMS3
import Derived.Test.YtlnohlefimgdnaaGreatDoorMC0

set_option maxHeartbeats 16000000
section
namespace Go.Sh
open Go Go.Fw
def pR:Nat:=0xe1 <<< 120
def nxt (e:Nat):Nat:=(e >>> 1) ^^^ (if e % 2=1 then pR else 0)
def Yz:Nat→Nat→Nat
  | 0,b=>b
  | i+1,b=>nxt (Yz i b)
def Yk (f:Nat→Nat):Nat→Nat
  | 0=>0
  | k+1=>Yk f k ^^^ f k
def QO (a b:Nat):Nat:=Yk (fun i=>if a.testBit (127 - i) then Yz i b else 0) 128
theorem Xoy (i j b:Nat):Yz (i+j) b=Yz i (Yz j b):=by
  induction i with
  | zero=>rw [Nat.zero_add]; rfl
  | succ i ih=>rw [show i+1+j=(i+j)+1 by omega]; show nxt _=nxt _; rw [ih]
theorem XuF:pR<2 ^ 128:=by decide
theorem Xwe {e:Nat} (h:e<2 ^ 128):nxt e<2 ^ 128:=by
  unfold nxt
  refine Nat.xor_lt_two_pow ?_ ?_
  · rw [Nat.shiftRight_eq_div_pow]; omega
  · split
    · exact XuF
    · decide
theorem VX {e:Nat} (h:e<2 ^ 128) (i:Nat):Yz i e<2 ^ 128:=by
  induction i with
  | zero=>exact h
  | succ i ih=>exact Xwe ih
theorem Xkv {f:Nat→Nat} {k:Nat} (h:∀ i,i<k→f i<2 ^ 128):Yk f k<2 ^ 128:=by
  induction k with
  | zero=>show (0:Nat)<2 ^ 128; decide
  | succ k ih=>exact Nat.xor_lt_two_pow (ih fun i hi=>h i (by omega)) (h k (by omega))
theorem Xvd {a b:Nat} (h:b<2 ^ 128):QO a b<2 ^ 128:=Xkv fun i _=>by
  split
  · exact VX h i
  · decide
theorem XcJ {f g:Nat→Nat} {k:Nat} (h:∀ i,i<k→f i=g i):Yk f k=Yk g k:=by
  induction k with
  | zero=>rfl
  | succ k ih=>unfold Yk; rw [ih fun i hi=>h i (by omega),h k (by omega)]
theorem Xt4 (f g:Nat→Nat) (k:Nat):Yk (fun i=>f i ^^^ g i) k=Yk f k ^^^ Yk g k:=by
  induction k with
  | zero=>simp [Yk]
  | succ k ih=>
    show Yk _ k ^^^ (f k ^^^ g k)=(Yk f k ^^^ f k) ^^^ (Yk g k ^^^ g k)
    rw [ih]; ac_rfl
theorem Xrq (f:Nat→Nat) (a b:Nat):Yk f (a+b)=Yk f a ^^^ Yk (fun t=>f (a+t)) b:=by
  induction b with
  | zero=>show Yk f a=Yk f a ^^^ 0; rw [Nat.xor_zero]
  | succ b ih=>show Yk f (a+b) ^^^ f (a+b)=Yk f a ^^^ (Yk _ b ^^^ f (a+b)); rw [ih,Nat.xor_assoc]
theorem XsL (f:Nat→Nat) (k:Nat):Yk f (4*k)=Yk (fun j=>Yk (fun t=>f (4*j+t)) 4) k:=by
  induction k with
  | zero=>rfl
  | succ k ih=>rw [show 4*(k+1)=4*k+4 by omega,Xrq,ih]; rfl
def Jj (F:Nat→Nat) (n:Nat):Nat:=Yk (fun t=>if n.testBit (3 - t) then F t else 0) 4
theorem Xt5 (F:Nat→Nat) (n m:Nat):Jj F (n ^^^ m)=Jj F n ^^^ Jj F m:=by
  unfold Jj
  rw [← Xt4]
  refine XcJ fun t _=>?_
  rw [Nat.testBit_xor]
  cases n.testBit (3 - t) <;> cases m.testBit (3 - t) <;> simp
def Xa3 (n:Nat):Nat:=n &&& (16 - n)
theorem XsM (F:Nat→Nat):Jj F 0=0:=by simp [Jj,Yk]
theorem XsN (F:Nat→Nat):Jj F 8=F 0∧Jj F 4=F 1∧Jj F 2=F 2∧Jj F 1=F 3:=by
  have b80:Nat.testBit 8 0=false:=by decide
  have b81:Nat.testBit 8 1=false:=by decide
  have b82:Nat.testBit 8 2=false:=by decide
  have b83:Nat.testBit 8 3=true:=by decide
  have b40:Nat.testBit 4 0=false:=by decide
  have b41:Nat.testBit 4 1=false:=by decide
  have b42:Nat.testBit 4 2=true:=by decide
  have b43:Nat.testBit 4 3=false:=by decide
  have b20:Nat.testBit 2 0=false:=by decide
  have b21:Nat.testBit 2 1=true:=by decide
  have b22:Nat.testBit 2 2=false:=by decide
  have b23:Nat.testBit 2 3=false:=by decide
  have b10:Nat.testBit 1 0=true:=by decide
  have b11:Nat.testBit 1 1=false:=by decide
  have b12:Nat.testBit 1 2=false:=by decide
  have b13:Nat.testBit 1 3=false:=by decide
  refine ⟨?_,?_,?_,?_⟩ <;> simp [Jj,Yk,b80,b81,b82,b83,b40,b41,b42,b43,b20,b21,b22,b23,b10,b11,b12,b13]
theorem Xrr (e h:Nat):QO e h=Yk (fun k=>Jj (fun t=>Yz (4*k+t) h) (e >>> (4*(31 - k)) % 16)) 32:=by
  unfold QO
  rw [show (128:Nat)=4*32 from rfl,XsL]
  refine XcJ fun k hk=>?_
  unfold Jj
  refine XcJ fun t ht=>?_
  have:(e >>> (4*(31 - k)) % 16).testBit (3 - t)=e.testBit (127 - (4*k+t)):=by
    rw [show (16:Nat)=2 ^ 4 from rfl,Nat.testBit_mod_two_pow,Nat.testBit_shiftRight,decide_eq_true (show 3 - t<4 by omega),Bool.true_and]
    congr 1; omega
  rw [this]
def cf (e j:Nat):Bool:=decide (j<128) && e.testBit (127 - j)
def sh (p:Nat→Bool) (j:Nat):Bool:=decide (0<j) && p (j - 1)
def shN:Nat→(Nat→Bool)→Nat→Bool
  | 0,p=>p
  | i+1,p=>sh (shN i p)
theorem Xjc (i:Nat) (p:Nat→Bool) (j:Nat):shN i p j=(decide (i≤j) && p (j - i)):=by
  induction i generalizing j with
  | zero=>simp [shN]
  | succ i ih=>
    show (decide (0<j) && shN i p (j - 1))=_
    rw [ih,show j - 1 - i=j - (i+1) by omega]
    by_cases h:i+1≤j
    · rw [decide_eq_true h,decide_eq_true (show 0<j by omega),decide_eq_true (show i≤j - 1 by omega)]; rfl
    · rw [decide_eq_false h]
      by_cases h0:0<j
      · rw [decide_eq_false (show ¬ i≤j - 1 by omega)]; simp
      · rw [decide_eq_false h0]; rfl
def stp (k:Nat) (p:Nat→Bool) (j:Nat):Bool:=if j=k then false else p j ^^ (p k && (decide (j+128=k) || decide (j+127=k) || decide (j+126=k) || decide (j+121=k)))
def rF (top:Nat):Nat→(Nat→Bool)→Nat→Bool
  | 0,p=>p
  | m+1,p=>stp (top - m) (rF top m p)
theorem Xve (k:Nat) (p q:Nat→Bool):stp k (fun j=>p j ^^ q j)=fun j=>stp k p j ^^ stp k q j:=by
  funext j
  unfold stp
  by_cases h:j=k
  · rw [if_pos h,if_pos h,if_pos h]; rfl
  · rw [if_neg h,if_neg h,if_neg h]
    generalize (decide (j+128=k) || decide (j+127=k) || decide (j+126=k) || decide (j+121=k))=x
    show ((p j ^^ q j) ^^ ((p k ^^ q k) && x))=((p j ^^ (p k && x)) ^^ (q j ^^ (q k && x)))
    cases p j <;> cases q j <;> cases p k <;> cases q k <;> cases x <;> rfl
theorem Xwf (top m:Nat) (p q:Nat→Bool):rF top m (fun j=>p j ^^ q j)=fun j=>rF top m p j ^^ rF top m q j:=by
  induction m with
  | zero=>rfl
  | succ m ih=>show stp _ (rF top m _)=_; rw [ih,Xve]; rfl
theorem Xwg {k:Nat} (hk:128≤k) (p:Nat→Bool):stp (k+1) (sh p)=sh (stp k p):=by
  funext j
  unfold stp sh
  cases j with
  | zero=>
    rw [if_neg (by omega)]
    have e1:decide (0+128=k+1)=false:=decide_eq_false (by omega)
    have e2:decide (0+127=k+1)=false:=decide_eq_false (by omega)
    have e3:decide (0+126=k+1)=false:=decide_eq_false (by omega)
    have e4:decide (0+121=k+1)=false:=decide_eq_false (by omega)
    rw [e1,e2,e3,e4]; simp
  | succ j=>
    by_cases h:j=k
    · subst h; simp
    · rw [if_neg (by omega)]
      simp only [Nat.add_sub_cancel,if_neg h]
      have e1:(decide (j+1+128=k+1))=decide (j+128=k):=by rw [decide_eq_decide]; omega
      have e2:(decide (j+1+127=k+1))=decide (j+127=k):=by rw [decide_eq_decide]; omega
      have e3:(decide (j+1+126=k+1))=decide (j+126=k):=by rw [decide_eq_decide]; omega
      have e4:(decide (j+1+121=k+1))=decide (j+121=k):=by rw [decide_eq_decide]; omega
      rw [e1,e2,e3,e4]; simp
theorem XcK {k:Nat} {p:Nat→Bool} (h:p k=false):stp k p=p:=by
  funext j
  unfold stp
  by_cases hj:j=k
  · rw [if_pos hj,hj,h]
  · rw [if_neg hj,h]; simp
theorem XwV (p:Nat→Bool):∀ m,m≤126→rF 254 m (sh p)=sh (rF 253 m p):=by
  intro m
  induction m with
  | zero=>intro _; rfl
  | succ m ih=>
    intro hm
    show stp (254 - m) (rF 254 m (sh p))=sh (stp (253 - m) (rF 253 m p))
    rw [ih (by omega),show 254 - m=(253 - m)+1 by omega,Xwg (by omega)]
theorem Xt6 (top:Nat) (p:Nat→Bool):∀ m,rF (top+1) (m+1) p=rF top m (stp (top+1) p):=by
  intro m
  induction m with
  | zero=>rfl
  | succ m ih=>
    show stp (top+1 - (m+1)) (rF (top+1) (m+1) p)=stp (top - m) (rF top m (stp (top+1) p))
    rw [ih,show top+1 - (m+1)=top - m by omega]
def red (p:Nat→Bool):Nat→Bool:=rF 254 127 p
theorem Xvf (p q:Nat→Bool):red (fun j=>p j ^^ q j)=fun j=>red p j ^^ red q j:=Xwf _ _ _ _
theorem Xwh {p:Nat→Bool} (h:p 254=false):red (sh p)=stp 128 (sh (red p)):=by
  have e:rF 254 127 p=rF 253 126 p:=by rw [Xt6 253 p 126,XcK h]
  show stp 128 (rF 254 126 (sh p))=_
  rw [XwV p 126 (by omega),red,e]
theorem Xwi {e:Nat} (he:e<2 ^ 128):stp 128 (sh (cf e))=cf (nxt e):=by
  funext j
  unfold stp
  have hR:∀ i,i<128→pR.testBit (127 - i)=(decide (i=0) || decide (i=1) || decide (i=2) || decide (i=7)):=by decide +kernel
  have h128:e.testBit 128=false:=Nat.testBit_lt_two_pow he
  by_cases hj:j<128
  · rw [if_neg (by omega)]
    have e127:sh (cf e) 128=decide (e % 2=1):=by
      unfold sh cf
      rw [show 127 - (128 - 1)=0 by omega,Nat.testBit_zero]; simp
    rw [e127]
    have ej:sh (cf e) j=(e >>> 1).testBit (127 - j):=by
      unfold sh cf
      rw [Nat.testBit_shiftRight]
      by_cases h0:j=0
      · subst h0; simp [h128]
      · rw [decide_eq_true (show 0<j by omega),decide_eq_true (show j - 1<128 by omega),show 127 - (j - 1)=1+(127 - j) by omega]; simp
    rw [ej]
    unfold cf nxt
    rw [decide_eq_true hj,Bool.true_and,Nat.testBit_xor]
    congr 1
    have e1:decide (j+128=128)=decide (j=0):=by rw [decide_eq_decide]; omega
    have e2:decide (j+127=128)=decide (j=1):=by rw [decide_eq_decide]; omega
    have e3:decide (j+126=128)=decide (j=2):=by rw [decide_eq_decide]; omega
    have e4:decide (j+121=128)=decide (j=7):=by rw [decide_eq_decide]; omega
    rw [e1,e2,e3,e4]
    by_cases ho:e % 2=1
    · rw [if_pos ho,decide_eq_true ho,hR j hj]; simp
    · rw [if_neg ho,decide_eq_false ho]; simp
  · have e0:cf (nxt e) j=false:=by unfold cf; rw [decide_eq_false hj]; rfl
    rw [e0]
    by_cases h1:j=128
    · rw [if_pos h1]
    · rw [if_neg h1]
      have e1:sh (cf e) j=false:=by unfold sh cf; rw [decide_eq_false (show ¬ j - 1<128 by omega)]; simp
      rw [e1]
      have d1:decide (j+128=128)=false:=decide_eq_false (by omega)
      have d2:decide (j+127=128)=false:=decide_eq_false (by omega)
      have d3:decide (j+126=128)=false:=decide_eq_false (by omega)
      have d4:decide (j+121=128)=false:=decide_eq_false (by omega)
      rw [d1,d2,d3,d4]; simp
theorem Xwj (e:Nat):red (cf e)=cf e:=by
  have:∀ m,m≤127→rF 254 m (cf e)=cf e:=by
    intro m
    induction m with
    | zero=>intro _; rfl
    | succ m ih=>
      intro hm
      show stp (254 - m) (rF 254 m (cf e))=_
      rw [ih (by omega),XcK (by unfold cf; rw [decide_eq_false (by omega)]; rfl)]
  exact this 127 (by omega)
theorem Xvg {b:Nat} (hb:b<2 ^ 128):∀ i,i≤127→red (shN i (cf b))=cf (Yz i b):=by
  intro i
  induction i with
  | zero=>intro _; exact Xwj b
  | succ i ih=>
    intro hi
    have h254:shN i (cf b) 254=false:=by
      rw [Xjc]; unfold cf; rw [decide_eq_false (show ¬ 254 - i<128 by omega)]; simp
    show red (sh (shN i (cf b)))=cf (nxt (Yz i b))
    rw [Xwh h254,ih (by omega),Xwi (VX hb i)]
def Vw (a b:Nat):Nat→Nat→Bool
  | 0,_=>false
  | m+1,j=>Vw a b m j ^^ (cf a m && shN m (cf b) j)
theorem Xqh (top m:Nat):rF top m (fun _=>false)=fun _=>false:=by
  induction m with
  | zero=>rfl
  | succ m ih=>show stp _ (rF top m _)=_; rw [ih,XcK rfl]
theorem Xt7 {a b:Nat} (hb:b<2 ^ 128):∀ m,m≤128→red (Vw a b m)=cf (Yk (fun i=>if a.testBit (127 - i) then Yz i b else 0) m):=by
  intro m
  induction m with
  | zero=>
    intro _
    have:Vw a b 0=fun _=>false:=rfl
    rw [this]
    funext j
    show rF 254 127 (fun _=>false) j=_
    rw [Xqh]; simp [cf,Yk]
  | succ m ih=>
    intro hm
    have e:Vw a b (m+1)=fun j=>Vw a b m j ^^ (cf a m && shN m (cf b) j):=rfl
    rw [e,Xvf,ih (by omega)]
    funext j
    have e2:red (fun j=>cf a m && shN m (cf b) j) j=cf (if a.testBit (127 - m) then Yz m b else 0) j:=by
      have ca:cf a m=a.testBit (127 - m):=by unfold cf; rw [decide_eq_true (show m<128 by omega)]; rfl
      rw [ca]
      cases a.testBit (127 - m) with
      | true=>
        have:(fun j=>true && shN m (cf b) j)=shN m (cf b):=by funext j; rfl
        rw [this,Xvg hb m (by omega)]; rfl
      | false=>
        have:(fun j=>false && shN m (cf b) j)=fun _=>false:=by funext j; rfl
        rw [this]
        show rF 254 127 (fun _=>false) j=_
        rw [Xqh]; simp [cf]
    show (_ ^^ red (fun j=>cf a m && shN m (cf b) j) j)=_
    rw [e2]
    unfold cf
    show ((decide (j<128) && _) ^^ (decide (j<128) && _))=(decide (j<128) && (Yk _ m ^^^ _).testBit (127 - j))
    rw [Nat.testBit_xor]
    cases decide (j<128) <;> simp
theorem Xvh {a b:Nat} (hb:b<2 ^ 128):red (Vw a b 128)=cf (QO a b):=Xt7 hb 128 (by omega)
end Go.Sh
end

section
namespace Go.Sh
open Go Go.Fw Go.Proofs
set_option maxRecDepth 100000
set_option linter.unusedVariables false
def hiE (e:Nat):Int:=((e / 18446744073709551616:Nat):Int)
def loE (e:Nat):Int:=((e % 18446744073709551616:Nat):Int)
abbrev elV (e:Nat):List Value:=[.int .u64 (hiE e),.int .u64 (loE e)]
theorem Xrs {a b:Nat} (ha:a<18446744073709551616) (hb:b<18446744073709551616):YE .u64 (a:Int) (b:Int)=((a ^^^ b:Nat):Int):=by
  have:=XwC (UInt64.ofNat a) (UInt64.ofNat b)
  rw [UInt64.toNat_xor,UInt64.toNat_ofNat_of_lt' ha,UInt64.toNat_ofNat_of_lt' hb] at this
  exact this
theorem Xw6 {a b:Nat} (ha:a<18446744073709551616) (hb:b<18446744073709551616):ior .u64 (a:Int) (b:Int)=((a ||| b:Nat):Int):=by
  have:=XvI (UInt64.ofNat a) (UInt64.ofNat b)
  rw [UInt64.toNat_or,UInt64.toNat_ofNat_of_lt' ha,UInt64.toNat_ofNat_of_lt' hb] at this
  exact this
theorem XuG {a b:Nat} (ha:a<18446744073709551616) (hb:b<18446744073709551616):J0 .u64 (a:Int) (b:Int)=((a &&& b:Nat):Int):=by
  have:=Xup (UInt64.ofNat a) (UInt64.ofNat b)
  rw [UInt64.toNat_and,UInt64.toNat_ofNat_of_lt' ha,UInt64.toNat_ofNat_of_lt' hb] at this
  exact this
theorem Xmp {e:Nat} (h:e<2 ^ 128):e / 18446744073709551616<18446744073709551616:=by omega
theorem XsO {a b:Nat} (ha:a<2 ^ 128) (hb:b<2 ^ 128):YE .u64 (hiE a) (hiE b)=hiE (a ^^^ b):=by
  unfold hiE
  rw [Xrs (Xmp ha) (Xmp hb)]
  have e:∀ x:Nat,x / 18446744073709551616=x >>> 64:=fun x=>by rw [Nat.shiftRight_eq_div_pow]
  rw [e,e,e,Nat.shiftRight_xor_distrib]
theorem XsP {a b:Nat}:YE .u64 (loE a) (loE b)=loE (a ^^^ b):=by
  unfold loE
  rw [Xrs (by omega) (by omega)]
  have e:(18446744073709551616:Nat)=2 ^ 64:=rfl
  rw [e,Nat.xor_mod_two_pow]
theorem XsQ {a b:Nat} (ha:a<2 ^ 128) (hb:b<2 ^ 128):a ^^^ b<2 ^ 128:=Nat.xor_lt_two_pow ha hb
theorem Xvi (e:Nat):Int.fdiv (hiE e) (2 ^ 1)=hiE (e >>> 1):=by
  unfold hiE
  rw [show ((2:Int) ^ 1)=((2:Nat):Int) from rfl,VJ,Nat.shiftRight_eq_div_pow]
  congr 1; omega
theorem Xvj {e:Nat} (he:e<2 ^ 128):ior .u64 (Int.fdiv (loE e) (2 ^ 1)) (IntKind.u64.wrap (hiE e*2 ^ 63))=loE (e >>> 1):=by
  unfold hiE loE
  have h1:Int.fdiv ((e % 18446744073709551616:Nat):Int) (2 ^ 1)=((e % 18446744073709551616 / 2:Nat):Int):=by
    rw [show ((2:Int) ^ 1)=((2:Nat):Int) from rfl,VJ]
  have h2:IntKind.u64.wrap (((e / 18446744073709551616:Nat):Int)*2 ^ 63)=((2 ^ 63*(e / 18446744073709551616 % 2):Nat):Int):=by
    rw [IntKind.wrap_u64]; omega
  rw [h1,h2,Xw6 (by omega) (by omega),Nat.or_comm,← Nat.two_pow_add_eq_or_of_lt (by omega),Nat.shiftRight_eq_div_pow]
  congr 1; omega
theorem Xwk (e:Nat):J0 .u64 (loE e) 1=((e % 2:Nat):Int):=by
  unfold loE
  have:=XuG (a:=e % 18446744073709551616) (b:=1) (by omega) (by decide)
  rw [Nat.and_one_is_mod] at this
  rw [show ((1:Int))=((1:Nat):Int) from rfl,this]
  congr 1; omega
def EAt (w:World) (b:Nat) (e:Nat):Prop:=∃ f,Blk w b 2 f∧f 0=.int .u64 (hiE e)∧f 1=.int .u64 (loE e)
section
variable {w:World} {b e:Nat} {K:VWP}
theorem EAt.fr {L:List Nat} {w':World} (h:EAt w b e) (hf:Fr L w w') (hn:b∉L):EAt w' b e:=by obtain ⟨f,hB,r⟩:=h; exact ⟨f,hB.fr hf hn,r⟩
theorem EAt.fr0 {w':World} (h:EAt w b e) (hf:Fr [] w w'):EAt w' b e:=h.fr hf (by simp)
theorem EAt.lt (h:EAt w b e):b<w.heap.size:=by obtain ⟨f,hB,_⟩:=h; exact hB.lt
theorem XbP {o:Nat} (h0:w.cell? ⟨b,o+0,none⟩=some (.int .u64 (hiE e))) (h1:w.cell? ⟨b,o+1,none⟩=some (.int .u64 (loE e))):Ld Tryz.prog X0 (.pointer (some ⟨b,o,none⟩)) w (.agg #[.int .u64 (hiE e),.int .u64 (loE e)]):=by
  refine Ld.agg (n:=2) (cs:=elV e) (by kernel_rfl) (by kernel_rfl) rfl fun j v hj=>?_
  rw [Xi]
  rcases j with _ | _ | j
  · simp at hj; subst hj; exact h0
  · simp at hj; subst hj; exact h1
  · simp at hj
theorem EAt.ld (h:EAt w b e):Ld Tryz.prog X0 (.pointer (some ⟨b,0,none⟩)) w (.agg #[.int .u64 (hiE e),.int .u64 (loE e)]):=by
  obtain ⟨f,hB,h0,h1⟩:=h
  exact XbP (by rw [hB.cell (by omega)]; exact congrArg some h0) (by rw [hB.cell (by omega)]; exact congrArg some h1)
theorem EAt.hiLd (h:EAt w b e):Ld Tryz.prog XgR (.pointer (some ((⟨b,0,none⟩:Addr).add 0))) w (.int .u64 (hiE e)):=by
  obtain ⟨f,hB,h0,h1⟩:=h; exact Ld.blk (by kernel_rfl) hB (by omega) h0
theorem EAt.loLd (h:EAt w b e):Ld Tryz.prog XgR (.pointer (some ((⟨b,0,none⟩:Addr).add 1))) w (.int .u64 (loE e)):=by
  obtain ⟨f,hB,h0,h1⟩:=h; rw [Xi]; exact Ld.blk (by kernel_rfl) hB (by omega) h1
theorem XeW {t:TypeId} {K:Nat→World→Prop} (h:∀ w',Fr [] w w'→EAt w' w.heap.size e→w'.heap.size=w.heap.size+1→K w.heap.size w'):New #[.int .u64 (hiE e),.int .u64 (loE e)] t w K:=
  New.intro fun w' f hB s=>h w' f ⟨_,hB,rfl,rfl⟩ s
theorem XeX {n o:Nat} {f:Nat→Value} (hB:Blk w b n f) (ho:o+2≤n) {K:World→Prop} (h:∀ w',Fr [b] w w'→Blk w' b n (updN f o (elV e))→w'.heap.size=w.heap.size→K w'):∃ w',Sto Tryz.prog X0 (.pointer (some ⟨b,o,none⟩)) (.agg #[.int .u64 (hiE e),.int .u64 (loE e)]) w w'∧K w':=
  Sto.agg (m:=2) (cs:=elV e) (by kernel_rfl) rfl hB ho (by intro v hv; simp at hv; rcases hv with rfl | rfl <;> rfl) h
theorem XuH (f:Nat→Value) (o e:Nat):updN f o (elV e) o=.int .u64 (hiE e):=by unfold updN; rw [dif_pos ⟨Nat.le_refl _,by simp⟩]; simp only [Nat.sub_self]; rfl
theorem XuI (f:Nat→Value) (o e:Nat):updN f o (elV e) (o+1)=.int .u64 (loE e):=by unfold updN; rw [dif_pos ⟨by omega,by simp⟩]; simp [show o+1 - o=1 by omega]
theorem Xfd (f:Nat→Value) (o e:Nat) {i:Nat} (h:i<o∨o+1<i):updN f o (elV e) i=f i:=by unfold updN; rw [dif_neg (by simp; omega)]
theorem Uw {f:Nat→Value} (hB:Blk w b 2 f) {K:World→Prop} (h:∀ w',Fr [b] w w'→EAt w' b e→w'.heap.size=w.heap.size→K w'):∃ w',Sto Tryz.prog X0 (.pointer (some ⟨b,0,none⟩)) (.agg #[.int .u64 (hiE e),.int .u64 (loE e)]) w w'∧K w':=
  XeX hB (Nat.le_refl 2) fun w' f' hB' s=>h w' f' ⟨_,hB',XuH _ _ _,XuI _ _ _⟩ s
theorem EAt.sto {e':Nat} (hE:EAt w b e') {K:World→Prop} (h:∀ w',Fr [b] w w'→EAt w' b e→w'.heap.size=w.heap.size→K w'):∃ w',Sto Tryz.prog X0 (.pointer (some ⟨b,0,none⟩)) (.agg #[.int .u64 (hiE e),.int .u64 (loE e)]) w w'∧K w':=by
  obtain ⟨f,hB,_⟩:=hE; exact Uw hB h
theorem JX {K:Nat→World→Prop} (h:∀ w' f,Fr [] w w'→Blk w' w.heap.size 2 f→w'.heap.size=w.heap.size+1→K w.heap.size w'):∃ z,Pu Tryz.prog (zeroValue X0) z∧New z.cells X0 w K:=
  ZL (s:=2) (by kernel_rfl) h
theorem XuJ {K:Nat→World→Prop} (h:∀ w',Fr [] w w'→EAt w' w.heap.size 0→w'.heap.size=w.heap.size+1→K w.heap.size w'):∃ z,Pu Tryz.prog (zeroValue X0) z∧New z.cells X0 w K:=
  ⟨.agg #[.int .u64 0,.int .u64 0],by unfold Pu; kernel_rfl,XeW (e:=0) h⟩
theorem Xwl {a b:Nat} (ha:a<2 ^ 128) (hb:b<2 ^ 128) (h:∀ w',Fr [] w w'→K (.agg #[.int .u64 (hiE (a ^^^ b)),.int .u64 (loE (a ^^^ b))]) w') :
    Xa Tryz.prog XgO #[.agg #[.int .u64 (hiE a),.int .u64 (loE a)],.agg #[.int .u64 (hiE b),.int .u64 (loE b)]] w K:=by
  apply Xdp
  unfold XbC
  refine XeW fun w1 f1 h1 s1=>XeW fun w2 f2 h2 s2=>JX fun w3 g3 f3 hB3 s3=>?_
  have h13:=h1.fr0 (f2.then f3); have h23:=h2.fr0 f3
  refine ⟨_,h13.hiLd,_,h23.hiLd,_,h13.loLd,_,h23.loLd,?_⟩
  rw [XsO ha hb,XsP]
  refine Uw hB3 fun w4 f4 h4 s4=>⟨_,_,rfl,h4.ld,h w4 ((((f1.then f2).then f3).st f4 (by have:=(f1.then f2).size; omega)))⟩
theorem Xwm {e:Nat} (he:e<2 ^ 128) (ho:e % 2=1):YE .u64 (hiE (e >>> 1)) 16212958658533785600=hiE (nxt e)∧loE (e >>> 1)=loE (nxt e):=by
  have hs:e >>> 1<2 ^ 128:=by rw [Nat.shiftRight_eq_div_pow]; omega
  have e1:nxt e=(e >>> 1) ^^^ pR:=by unfold nxt; rw [if_pos ho]
  have e2:(16212958658533785600:Int)=hiE pR:=by decide
  have e3:loE pR=0:=by decide
  rw [e1,← XsO hs XuF,← e2,← XsP,e3]
  refine ⟨rfl,?_⟩
  have:=Xrs (a:=(e >>> 1) % 18446744073709551616) (b:=0) (by omega) (by decide)
  rw [Nat.xor_zero] at this
  exact this.symm
theorem Xvk (he:e<2 ^ 128) (h:∀ w',Fr [] w w'→K (.agg #[.int .u64 (hiE (nxt e)),.int .u64 (loE (nxt e))]) w') :
    Xa Tryz.prog XgQ #[.agg #[.int .u64 (hiE e),.int .u64 (loE e)]] w K:=by
  apply Xdq
  unfold XbD
  refine XeW fun w1 f1 h1 s1=>JX fun w2 g2 f2 hB2 s2=>?_
  have h12:=h1.fr0 f2
  refine ⟨_,h12.hiLd,_,h12.loLd,_,h12.hiLd,JX fun w3 g3 f3 hB3 s3=>?_⟩
  rw [Xvi,Xvj he]
  have z1:=f1.size; have z2:=f2.size
  have l1:=h1.lt
  refine Uw hB3 fun w4 f4 h4 s4=>?_
  have f04:Fr [] w w4:=((f1.then f2).then f3).st f4 (by have:=(f1.then f2).size; omega)
  have h14:=(h12.fr0 f3).fr f4 (by simp; omega)
  have hB24:Blk w4 w1.heap.size 2 g2:=(hB2.fr0 f3).fr f4 (by simp; omega)
  have fin:∀ w',Fr [] w w'→EAt w' w2.heap.size (nxt e)→Blk w' w1.heap.size 2 g2→Z4 ⟨w1.heap.size,0,none⟩ ⟨w2.heap.size,0,none⟩ w' K:=by
    intro w' f' hE hB
    unfold Z4
    refine ⟨_,_,hE.ld,Uw hB fun w5 f5 h5 s5=>⟨_,_,rfl,h5.ld,h w5 (f'.st f5 (by omega))⟩⟩
  refine ⟨_,h14.loLd,?_⟩
  rw [Xwk]
  refine XF (fun ho=>?_) (fun ho=>?_)
  · have ho:e % 2=1:=by omega
    obtain ⟨e1,e2⟩:=Xwm he ho
    refine ⟨_,h4.hiLd,?_⟩
    rw [e1]
    obtain ⟨f,hB,q0,q1⟩:=h4
    refine Sto.blk (by kernel_rfl) hB (by omega) rfl rfl fun w5 f5 hB5 s5=>?_
    refine fin w5 (f04.st f5 (by omega)) ⟨_,hB5,upd_same _ _ _,?_⟩ (hB24.fr f5 (by simp; omega))
    rw [upd_ne _ _ _ (by decide),q1,e2]
  · have ho:¬ e % 2=1:=by omega
    have e1:e >>> 1=nxt e:=by unfold nxt; rw [if_neg ho,Nat.xor_zero]
    rw [e1] at h4
    exact fin w4 f04 h4 hB24
def XI:List Nat→List Value
  | []=>[]
  | e::l=>.int .u64 (hiE e)::.int .u64 (loE e)::XI l
theorem Xjd (l:List Nat):(XI l).length=l.length*2:=by induction l with | nil=>rfl | cons r l ih=>simp only [XI,List.length_cons,ih]; omega
theorem Xl6 (a b:List Nat):XI (a++b)=XI a++XI b:=by induction a with | nil=>rfl | cons r a ih=>simp [XI,ih]
theorem Xrt:∀ (l:List Nat) (i e:Nat),l[i]?=some e→(XI l)[i*2+0]?=some (.int .u64 (hiE e))∧(XI l)[i*2+1]?=some (.int .u64 (loE e)):=by
  intro l
  induction l with
  | nil=>intro i r h; simp at h
  | cons x l ih=>
    intro i r h
    cases i with
    | zero=>simp at h; subst h; exact ⟨rfl,rfl⟩
    | succ i=>
      have:=ih i r (by simpa using h)
      have e0:(i+1)*2+0=i*2+0+2:=by omega
      have e1:(i+1)*2+1=i*2+1+2:=by omega
      rw [e0,e1]; exact this
theorem Xru (l:List Nat):∀ v∈XI l,v.oneCell'=true:=by
  induction l with
  | nil=>simp [XI]
  | cons r l ih=>intro v hv; simp only [XI,List.mem_cons] at hv; rcases hv with rfl | rfl | hv; rfl; rfl; exact ih v hv
theorem Xwn {p:Option Addr} {es:List Nat} (hX:Row w p (XI es)) {l c i:Nat} (hl:l=es.length) (hi:i<l) :
    ∃ b o e,es[i]?=some e∧IxA Tryz.prog XV (.slice p l c) (.int .i64 (i:Int)) ⟨b,o,none⟩∧w.cell? ⟨b,o+0,none⟩=some (.int .u64 (hiE e))∧w.cell? ⟨b,o+1,none⟩=some (.int .u64 (loE e)):=by
  have hlt:i<es.length:=by omega
  obtain ⟨b,o,ha,_,hc⟩:=hX.cellAt (P:=Tryz.prog) (t:=XV) (s:=2) (by kernel_rfl) (k:=.i64) (l:=l) (c:=c) (by rw [Xjd,hl]) hi (by omega)
  obtain ⟨h0,h1⟩:=Xrt es i _ (List.getElem?_eq_getElem hlt)
  exact ⟨b,o,_,List.getElem?_eq_getElem hlt,ha,hc 0 _ (by omega) h0,hc 1 _ (by omega) h1⟩
def Xa4 (l:List Nat):Nat:=l.foldl (fun a e=>a ^^^ e) 0
theorem Xvl {l:List Nat} (h:∀ e∈l,e<2 ^ 128):Xa4 l<2 ^ 128:=by
  have:∀ (l:List Nat) (a:Nat),a<2 ^ 128→(∀ e∈l,e<2 ^ 128)→l.foldl (fun a e=>a ^^^ e) a<2 ^ 128:=by
    intro l
    induction l with
    | nil=>intro a ha _; exact ha
    | cons x l ih=>intro a ha hl; exact ih _ (XsQ ha (hl x (by simp))) (fun e he=>hl e (by simp [he]))
  exact this l 0 (by decide) h
theorem Xwo {p:Option Addr} {l c:Nat} {es:List Nat} (hX:Row w p (XI es)) (hl:l=es.length) (hlb:l<1000000) (hs:∀ e∈es,e<2 ^ 128) (h:∀ w',Fr [] w w'→K (.agg #[.int .u64 (hiE (Xa4 es)),.int .u64 (loE (Xa4 es))]) w') :
    Xa Tryz.prog Xh2 #[.slice p l c] w K:=by
  apply XlR
  unfold Xn4
  refine JX fun w1 g1 f1 hB1 s1=>XuJ fun w2 f2 h2 s2=>?_
  obtain ⟨a2,ha2⟩:∃ a,a=w.heap.size:=⟨_,rfl⟩
  obtain ⟨a3,ha3⟩:∃ a,a=w1.heap.size:=⟨_,rfl⟩
  rw [← ha2] at hB1 ⊢
  rw [← ha3] at h2 ⊢
  have z1:=f1.size
  have l2:=h2.lt
  refine LoopS.ind (fun k us w'=>∃ i:Nat,i+k=l∧us=[.pointer (some ⟨a2,0,none⟩),.pointer (some ⟨a3,0,none⟩),.slice p l c,.int .i64 (l:Int),.int .i64 (i:Int)]∧Fr [] w w'∧w2.heap.size≤w'.heap.size∧Blk w' a2 2 g1∧EAt w' a3 (Xa4 (es.take i))) l
    ⟨0,by omega,rfl,f1.then f2,Nat.le_refl _,hB1.fr0 f2,h2⟩ ?_
  rintro k us r w3 I μ hgo ⟨i,hi,rfl,f3,hsz,hB3,h3⟩
  refine ⟨_,_,_,_,_,_,_,rfl,Xc (fun h4=>?_) (fun h4=>?_)⟩
  · obtain ⟨bb,o,e,he,ha,hc0,hc1⟩:=Xwn hX (c:=c) hl (i:=i) (by omega)
    refine ⟨_,ha,_,_,XbP (f3.cell hc0 (by simp)) (f3.cell hc1 (by simp)),JX fun w4 g4 f4 hB4 s4=>?_⟩
    refine Uw hB4 fun w5 f5 h5 s5=>?_
    have f35:Fr [] w3 w5:=f4.st f5 (by omega)
    have hee:e<2 ^ 128:=hs e (List.mem_of_getElem? he)
    have htk:Xa4 (es.take i)<2 ^ 128:=Xvl fun x hx=>hs x (List.mem_of_mem_take hx)
    refine ⟨_,_,(h3.fr0 f35).ld,_,_,h5.ld,Xwl htk hee fun w6 f6=>⟨_,_,rfl,?_⟩⟩
    have f36:=f35.then f6
    refine (h3.fr0 f36).sto fun w7 f7 h7 s7=>?_
    rw [Xe (n:=(i:Int)+1) (by omega) (by omega)]
    have z3:=f36.size
    have eE:Xa4 (es.take i) ^^^ e=Xa4 (es.take (i+1)):=by
      unfold Xa4; rw [List.take_add_one,he,List.foldl_append]; rfl
    rw [eE] at h7
    exact hgo _ _ _ (k - 1) (by omega) ⟨i+1,by omega,rfl,(f3.then f36).st f7 (by omega),by omega,(hB3.fr0 f36).fr f7 (by simp; omega),h7⟩
  · have:i=l:=by omega
    subst this
    rw [List.take_of_length_le (by omega)] at h3
    unfold Xgb
    exact ⟨_,_,h3.ld,Uw hB3 fun w4 f4 h4 s4=>⟨_,_,rfl,h4.ld,h w4 (f3.st f4 (by omega))⟩⟩
theorem V6 (a b:List UInt8):Xp (a++b)=Xp a*256 ^ b.length+Xp b:=by
  unfold Xp
  rw [List.foldl_append]
  have:∀ (l:List UInt8) (n:Nat),l.foldl (fun n x=>n*256+x.toNat) n=n*256 ^ l.length+l.foldl (fun n x=>n*256+x.toNat) 0:=by
    intro l
    induction l with
    | nil=>intro n; simp
    | cons x l ih=>
      intro n
      rw [List.foldl_cons,List.foldl_cons,ih,ih (0*256+x.toNat),List.length_cons,Nat.pow_succ,Nat.add_mul]
      have:n*256*256 ^ l.length=n*(256 ^ l.length*256):=by rw [Nat.mul_assoc,Nat.mul_comm 256]
      rw [this,Nat.zero_mul,Nat.zero_add]; omega
  exact this b _
theorem Xrv {xs:List UInt8} (h:xs.length=16):hiE (Xp xs)=(Xp (xs.take 8):Int)∧loE (Xp xs)=(Xp (xs.drop 8):Int):=by
  have e:=V6 (xs.take 8) (xs.drop 8)
  rw [List.take_append_drop,List.length_drop,h] at e
  have b1:=Ji (xs.take 8); have b2:=Ji (xs.drop 8)
  rw [List.length_take,h] at b1
  rw [List.length_drop,h] at b2
  unfold hiE loE
  have p8:(256:Nat) ^ (16 - 8)=18446744073709551616:=by decide
  have p8':(256:Nat) ^ (min 8 16)=18446744073709551616:=by decide
  rw [p8] at e b2
  rw [p8'] at b1
  omega
theorem XeY {xs:List UInt8} (h:xs.length=16):Xp xs<2 ^ 128:=by
  have:=Ji xs
  rw [h] at this
  have e:(256:Nat) ^ 16=2 ^ 128:=by decide
  rwa [e] at this
theorem Xoz {p:Option Addr} {l c:Nat} {xs:List UInt8} (hx:Row w p (xs.map vb)) (hl:l=xs.length) (hc:l≤c) (hbad:l≠16→∀ w',Fr [] w w'→K (.tuple #[.agg #[.int .u64 0,.int .u64 0],.int .i64 11]) w')
    (hok:l=16→∀ w',Fr [] w w'→K (.tuple #[.agg #[.int .u64 (hiE (Xp xs)),.int .u64 (loE (Xp xs))],.int .i64 0]) w'):Xa Tryz.prog Xsm #[.slice p l c] w K:=by
  apply Xn3
  unfold Xp4
  refine JX fun w1 g1 f1 hB1 s1=>XF (fun hne=>?_) (fun he=>?_)
  · refine Uw (e:=0) hB1 fun w2 f2 h2 s2=>⟨_,_,rfl,h2.ld,hbad (by omega) w2 (f1.st f2 (by omega))⟩
  · have h16:l=16:=by omega
    have hx1:=hx.fr0 f1
    refine XeU hx1 hl (n:=8) (by omega) hc fun q1 d1 hq1 hl1 hd1 hb1=>?_
    refine Xmo hq1 (by omega) (by omega) ⟨_,_,rfl,?_⟩
    refine Ww hx1 hl (n:=8) (by omega) hc fun q2 d2 hq2 hl2 hd2 hb2=>?_
    refine Xmo hq2 hl2 (by omega) ⟨_,_,rfl,?_⟩
    obtain ⟨e1,e2⟩:=Xrv (xs:=xs) (by omega)
    rw [← e1,← e2]
    refine Uw hB1 fun w2 f2 h2 s2=>⟨_,_,rfl,h2.ld,hok h16 w2 (f1.st f2 (by omega))⟩
def ZK (e:Nat):List UInt8:=X6 (e / 18446744073709551616) 8++X6 (e % 18446744073709551616) 8
end
end Go.Sh
end

section
namespace Go.Sh
open Go Go.Fw Go.Proofs
set_option maxRecDepth 100000
set_option linter.unusedVariables false
theorem Xwp:∀ n:Nat,n<16→J0 .i64 (n:Int) (IntKind.i64.wrap (0 - (n:Int)))=((Xa3 n:Nat):Int):=by decide +kernel
theorem Xrw:∀ n:Nat,n<16→Xa3 n≤n∧(Xa3 n=n→n=0∨n=1∨n=2∨n=4∨n=8)∧(Xa3 n≠n→Xa3 n<n∧n - Xa3 n<n∧n=Xa3 n ^^^ (n - Xa3 n)):=by decide
theorem Xlg:∀ t:Nat,t<4→0<8 / 2 ^ t∧8 / 2 ^ t<16:=by decide
theorem XsR:∀ t:Nat,t<4→∀ s:Nat,s<4→8 / 2 ^ t=8 / 2 ^ s→t=s:=by decide
theorem XcL (F:Nat→Nat):∀ t,t<4→Jj F (8 / 2 ^ t)=F t:=by
  obtain ⟨h8,h4,h2,h1⟩:=XsN F
  intro t ht
  rcases t with _ | _ | _ | _ | t
  · exact h8
  · exact h4
  · exact h2
  · exact h1
  · omega
def ElC (f:Nat→Value) (o n e:Nat):Prop:=f (o+n*2)=.int .u64 (hiE e)∧f (o+n*2+1)=.int .u64 (loE e)
theorem ElC.upd_ne {f:Nat→Value} {o n e m e':Nat} (h:ElC f o n e) (hm:n≠m):ElC (updN f (o+m*2) (elV e')) o n e:=by
  unfold ElC
  rw [Xfd _ _ _ (by omega),Xfd _ _ _ (by omega)]; exact h
theorem ElC.upd_same (f:Nat→Value) (o n e:Nat):ElC (updN f (o+n*2) (elV e)) o n e:=⟨XuH _ _ _,XuI _ _ _⟩
theorem Xje {b o n:Nat} {k:IntKind} (hn:n<16):IxA Tryz.prog Xf5 (.pointer (some ⟨b,o,none⟩)) (.int k (n:Int)) ⟨b,o+n*2,none⟩:=by
  have:=ixA (P:=Tryz.prog) (t:=Xf5) (n:=16) (s:=2) (by kernel_rfl) (b:=b) (o:=o) (k:=k) (i:=(n:Int)) (by omega) (by omega)
  rwa [Int.toNat_natCast] at this
theorem Xrx {w:World} {b N o n e:Nat} {f:Nat→Value} (hB:Blk w b N f) (ho:o+n*2+2≤N) (h:ElC f o n e):Ld Tryz.prog X0 (.pointer (some ⟨b,o+n*2,none⟩)) w (.agg #[.int .u64 (hiE e),.int .u64 (loE e)]):=
  XbP (by rw [hB.cell (by omega)]; exact congrArg some h.1) (by rw [hB.cell (by omega)]; exact congrArg some h.2)
section
variable {w:World} {b e:Nat} {K:VWP}
theorem Xry {x y:Nat} {K:Option Addr→Nat→Nat→World→Prop} (h:∀ p w',Fr [] w w'→Row w' p (XI [x,y])→w'.heap.size=w.heap.size+1→K p 2 2 w') :
    ∃ p l c w',Ef Tryz.prog (Instr.buildSlice XV 2 #[(0,.agg #[.int .u64 (hiE x),.int .u64 (loE x)]),(1,.agg #[.int .u64 (hiE y),.int .u64 (loE y)])]) w (.slice p l c) w'∧K p l c w':=
  ⟨_,_,_,Ef.new (v:=.slice (some ⟨w.heap.size,0,none⟩) 2 2) (cs:=(XI [x,y]).toArray) (e:=X0) (by kernel_rfl) fun w' f hB s=>h _ w' f hB.rowL s⟩
theorem XwW (x y:Nat):Xa4 [x,y]=x ^^^ y:=by simp [Xa4]
theorem XoA {p:Option Addr} {x y:Nat} (hR:Row w p (XI [x,y])) (hx:x<2 ^ 128) (hy:y<2 ^ 128) (h:∀ w',Fr [] w w'→K (.agg #[.int .u64 (hiE (x ^^^ y)),.int .u64 (loE (x ^^^ y))]) w'):Xa Tryz.prog Xh2 #[.slice p 2 2] w K:=by
  refine Xwo hR rfl (by decide) (by simp [hx,hy]) fun w' f=>?_
  rw [XwW]; exact h w' f
theorem Xfe {F:Nat→Nat} (h:∀ t,F t<2 ^ 128) (n:Nat):Jj F n<2 ^ 128:=Xkv fun t _=>by
  split
  · exact h t
  · decide
theorem Xwq {N o:Nat} {f:Nat→Value} (hB:Blk w b N f) (ho:o+32≤N) (hz:ElC f o 0 0) (he:e<2 ^ 128)
    (h:∀ w' f',Fr [b] w w'→Blk w' b N f'→(∀ i,i<o∨o+32≤i→f' i=f i)→(∀ n,n<16→ElC f' o n (Jj (fun t=>Yz t e) n))→K (.agg #[.int .u64 (hiE (Yz 4 e)),.int .u64 (loE (Yz 4 e))]) w') :
    Xa Tryz.prog XgP #[.pointer (some ⟨b,o,none⟩),.agg #[.int .u64 (hiE e),.int .u64 (loE e)]] w K:=by
  apply Xdt
  unfold XbG
  refine XeW fun w1 f1 h1 s1=>JX fun w2 g2 f2 hB2 s2=>?_
  obtain ⟨a3,ha3⟩:∃ a,a=w.heap.size:=⟨_,rfl⟩
  obtain ⟨a4,ha4⟩:∃ a,a=w1.heap.size:=⟨_,rfl⟩
  rw [← ha3] at h1 ⊢
  rw [← ha4] at hB2 ⊢
  have hbl:=hB.lt
  have z1:=f1.size
  refine LoopS.ind (fun k us w' => ∃ (t : Nat) (f' : Nat → Value), t + k = 4 ∧ us = [.pointer (some ⟨b, o, none⟩), .pointer (some ⟨a3, 0, none⟩), .pointer (some ⟨a4, 0, none⟩), .int .i64 ((8 / 2 ^ t : Nat) : Int)] ∧ Fr [b, a3] w2 w' ∧ Blk w' b N f' ∧ Blk w' a4 2 g2 ∧ EAt w' a3 (Yz t e) ∧
      (∀ i,i<o∨o+32≤i→f' i=f i)∧ElC f' o 0 0∧∀ s,s<t→ElC f' o (8 / 2 ^ s) (Yz s e)) 4
    ⟨0,f,rfl,rfl,Fr.refl _ _,hB.fr0 (f1.then f2),hB2,h1.fr0 f2,fun _ _=>rfl,hz,fun s hs=>by omega⟩ ?_
  rintro k us r w3 I μ hgo ⟨t,f',ht,rfl,f3,hB3,hB43,h3,hout,hz',hs⟩
  refine ⟨_,_,_,_,rfl,Xc (fun h4=>?_) (fun h4=>?_)⟩
  · have ht4 : t < 4 := by
      rcases Nat.lt_or_ge t 4 with h | h
      · exact h
      · have:t=4:=by omega
        subst this; simp at h4
    obtain ⟨q1,q2⟩:=Xlg t ht4
    refine Drw.intro fun w4 f4 s4=>⟨_,rfl,_,_,(h3.fr0 f4).ld,_,Xje q2,?_⟩
    refine XeX (hB3.fr0 f4) (by omega) fun w5 f5 hB5 s5=>?_
    have h5:EAt w5 a3 (Yz t e):=(h3.fr0 f4).fr f5 (by simp; omega)
    refine ⟨_,_,h5.ld,Xvk (VX he t) fun w6 f6=>⟨_,_,rfl,?_⟩⟩
    refine (h5.fr0 f6).sto fun w7 f7 h7 s7=>?_
    have e1:Int.fdiv ((8 / 2 ^ t:Nat):Int) (2 ^ 1)=((8 / 2 ^ (t+1):Nat):Int):=by
      rw [show ((2:Int) ^ 1)=((2:Nat):Int) from rfl,VJ,Nat.div_div_eq_div_mul,Nat.pow_succ]
    rw [e1]
    have f37:Fr [b,a3] w3 w7:=(((f4.mono (by simp)).trans f5 (by simp)).trans f6 (by simp)).trans f7 (by simp)
    refine hgo _ _ _ (k - 1) (by omega) ⟨t+1,_,by omega,rfl,f3.trans f37 (by simp),(hB5.fr0 f6).fr f7 (by simp; omega),(((hB43.fr0 f4).fr f5 (by simp; omega)).fr0 f6).fr f7 (by simp; omega),h7,fun i hi=>?_,hz'.upd_ne (by omega),fun s hst=>?_⟩
    · rw [Xfd _ _ _ (by omega)]; exact hout i hi
    · by_cases hst':s=t
      · subst hst'; exact ElC.upd_same _ _ _ _
      · exact (hs s (by omega)).upd_ne fun hh=>hst' (XsR s (by omega) t ht4 hh)
  · have ht4 : t = 4 := by
      rcases Nat.lt_or_ge t 4 with h | h
      · have:=(Xlg t h).1; omega
      · omega
    subst ht4
    have hk:∀ n,n=0∨n=1∨n=2∨n=4∨n=8→ElC f' o n (Jj (fun t=>Yz t e) n):=by
      intro n hn
      rcases hn with rfl | rfl | rfl | rfl | rfl
      · rw [XsM]; exact hz'
      · rw [show (1:Nat)=8 / 2 ^ 3 from rfl,XcL _ 3 (by omega)]; exact hs 3 (by omega)
      · rw [show (2:Nat)=8 / 2 ^ 2 from rfl,XcL _ 2 (by omega)]; exact hs 2 (by omega)
      · rw [show (4:Nat)=8 / 2 ^ 1 from rfl,XcL _ 1 (by omega)]; exact hs 1 (by omega)
      · rw [show (8:Nat)=8 / 2 ^ 0 from rfl,XcL _ 0 (by omega)]; exact hs 0 (by omega)
    unfold WV
    refine LoopS.ind (fun k us w' => ∃ (n : Nat) (f2' : Nat → Value), n + k = 16 ∧ us = [.pointer (some ⟨b, o, none⟩), .pointer (some ⟨a3, 0, none⟩), .pointer (some ⟨a4, 0, none⟩), .int .i64 (n : Int)] ∧ Fr [b, a3] w2 w' ∧ Blk w' b N f2' ∧ Blk w' a4 2 g2 ∧ EAt w' a3 (Yz 4 e) ∧
        (∀ i,i<o∨o+32≤i→f2' i=f i)∧∀ m,m<16→(m<n∨m=0∨m=1∨m=2∨m=4∨m=8)→ElC f2' o m (Jj (fun t=>Yz t e) m)) 16
      ⟨0,f',rfl,rfl,f3,hB3,hB43,h3,hout,fun m _ hm=>hk m (by omega)⟩ ?_
    rintro k us r w4 I μ hgo ⟨n,f2',hn,rfl,f4,hB4,hB44,h4',hout',hm⟩
    refine ⟨_,_,_,_,rfl,Xc (fun h5=>?_) (fun h5=>?_)⟩
    · have hn16:n<16:=by omega
      rw [Xwp n hn16]
      obtain ⟨l0,l1,l2⟩:=Xrw n hn16
      rw [Xe (n:=(n:Int)+1) (by omega) (by omega)]
      refine XF (fun hne=>?_) (fun heq=>?_)
      · obtain ⟨l3,l4,l5⟩:=l2 (by omega)
        have e1:IntKind.i64.wrap ((n:Int) - ((Xa3 n:Nat):Int))=((n - Xa3 n:Nat):Int):=by rw [Xe (by omega) (by omega)]; omega
        rw [e1]
        refine ⟨fun w'=>Fr [] w4 w',Drw.intro fun w5 f5 s5=>?_⟩
        refine ⟨_,rfl,_,Xje (by omega),_,rfl,_,Xje (by omega),_,rfl,?_⟩
        refine ⟨_,_,⟨f5,fun w' hw'=>Xrx (hB4.fr0 hw') (by omega) (hm _ (by omega) (.inl l3))⟩,_,_,Xrx (hB4.fr0 f5) (by omega) (hm _ (by omega) (.inl l4)),.inl rfl,?_⟩
        have hF:∀ t,Yz t e<2 ^ 128:=fun t=>VX he t
        refine Xry fun p w6 f6 hR6 s6=>XoA hR6 (Xfe hF _) (Xfe hF _) fun w7 f7=>⟨_,_,rfl,_,Xje hn16,?_⟩
        rw [← Xt5,← l5]
        have f57:=(f5.then f6).then f7
        refine XeX (hB4.fr0 f57) (by omega) fun w8 f8 hB8 s8=>?_
        refine hgo _ _ _ (k - 1) (by omega) ⟨n+1,_,by omega,rfl,f4.trans (l1:=[b,a3]) ((f57.mono (by simp)).trans (l:=[b,a3]) (l1:=[b]) f8 (fun x hx=>.inl (by simp at hx; simp [hx]))) (by simp),hB8,(hB44.fr0 f57).fr f8 (by simp; omega),(h4'.fr0 f57).fr f8 (by simp; omega),fun i hi=>?_,fun m hm16 hmn=>?_⟩
        · rw [Xfd _ _ _ (by omega)]; exact hout' i hi
        · by_cases hmn':m=n
          · subst hmn'; exact ElC.upd_same _ _ _ _
          · exact (hm m hm16 (by omega)).upd_ne hmn'
      · refine hgo _ _ _ (k - 1) (by omega) ⟨n+1,f2',by omega,rfl,f4,hB4,hB44,h4',hout',fun m hm16 hmn=>?_⟩
        have:=l1 (by omega)
        exact hm m hm16 (by omega)
    · have:n=16:=by omega
      subst this
      unfold WU
      refine ⟨_,_,h4'.ld,Uw hB44 fun w5 f5 h5 s5=>⟨_,_,rfl,h5.ld,?_⟩⟩
      refine h w5 f2' ?_ (hB4.fr f5 (by simp; omega)) hout' fun m hm16=>hm m hm16 (.inl hm16)
      have g2':Fr [b] w w2:=(f1.then f2).mono (by simp)
      exact (g2'.trans f4 (fun x hx=>by simp at hx; rcases hx with rfl | rfl; exact .inl (by simp); exact .inr (by omega))).trans f5 (fun x hx=>.inr (by simp at hx; omega))
def Xt8 (f:Nat→Value) (H k:Nat):Prop:=∀ n,n<16→ElC f (6+k*32) n (Jj (fun t=>Yz (4*k+t) H) n)
theorem XuK {k:Nat} (hk:k<32):IxA Tryz.prog Xal (.pointer (some ((⟨b,0,none⟩:Addr).add 6))) (.int .i64 (k:Int)) ⟨b,6+k*32,none⟩:=by
  have:=ixA (P:=Tryz.prog) (t:=Xal) (n:=32) (s:=32) (by kernel_rfl) (b:=b) (o:=6) (k:=.i64) (i:=(k:Int)) (by omega) (by omega)
  rw [Int.toNat_natCast] at this
  rw [Xi]; exact this
theorem Xvm {f:Nat→Value} {H:Nat} {n:Int} (hB:Blk w b 1030 f) (h0:f 0=.int .u64 (hiE H)) (h1:f 1=.int .u64 (loE H)) (h5:f 5=.int .i64 n) (hn:n=0) (hz:∀ k,k<32→ElC f (6+k*32) 0 0) (hH:H<2 ^ 128)
    (h:∀ w' f',Fr [b] w w'→Blk w' b 1030 f'→(∀ i,i<5→f' i=f i)→f' 5=.int .i64 1→(∀ k,k<32→Xt8 f' H k)→K (.tuple #[]) w'):Xa Tryz.prog WL #[.pointer (some ⟨b,0,none⟩)] w K:=by
  subst hn
  apply Xcw
  unfold Xax
  refine ⟨_,rfl,?_⟩
  rw [Xi]
  refine YG hB (by omega) h5 fun w1 f1 hB1 s1=>⟨_,rfl,_,rfl,?_⟩
  have k0:upd f (0+5) (.int .i64 (IntKind.i64.wrap (0+1))) 0=.int .u64 (hiE H):=by rw [upd_ne _ _ _ (by omega)]; exact h0
  have k1:upd f (0+5) (.int .i64 (IntKind.i64.wrap (0+1))) 1=.int .u64 (loE H):=by rw [upd_ne _ _ _ (by omega)]; exact h1
  obtain ⟨g,hg⟩:∃ g,g=upd f (0+5) (.int .i64 (IntKind.i64.wrap (0+1))):=⟨_,rfl⟩
  have g5:g 5=.int .i64 1:=by rw [hg]; exact upd_same _ _ _
  have gne:∀ i,i≠5→g i=f i:=fun i hi=>by rw [hg]; exact upd_ne _ _ _ (by omega)
  rw [← hg] at hB1 k0 k1
  refine ⟨_,_,by rw [Xi]; exact XbP (by rw [hB1.cell (by omega)]; exact congrArg some k0) (by rw [hB1.cell (by omega)]; exact congrArg some k1),JX fun w2 g2 f2 hB2 s2=>?_⟩
  obtain ⟨a2,ha2⟩:∃ a,a=w1.heap.size:=⟨_,rfl⟩
  rw [← ha2] at hB2 ⊢
  have hbl:=hB.lt
  refine Uw hB2 fun w3 f3 h3 s3=>?_
  have f13:Fr [] w1 w3:=f2.st f3 (by omega)
  refine LoopS.ind (fun k us w'=>∃ (j:Nat) (f':Nat→Value),j+k=32∧us=[.pointer (some ⟨b,0,none⟩),.pointer (some ⟨a2,0,none⟩),.int .i64 (j:Int)]∧Fr [b,a2] w3 w'∧Blk w' b 1030 f'∧EAt w' a2 (Yz (4*j) H)∧(∀ i,i<6→f' i=g i)∧(∀ i,i<j→Xt8 f' H i)∧∀ i,j≤i→i<32→ElC f' (6+i*32) 0 0) 32
    ⟨0,g,rfl,rfl,Fr.refl _ _,hB1.fr0 f13,h3,fun _ _=>rfl,fun i hi=>by omega,fun i _ hi=>⟨by rw [gne _ (by omega)]; exact (hz i hi).1,by rw [gne _ (by omega)]; exact (hz i hi).2⟩⟩ ?_
  rintro k us r w4 I μ hgo ⟨j,f',hj,rfl,f4,hB4,h4,hlow,htab,hzero⟩
  refine ⟨_,_,_,rfl,Xc (fun h6=>?_) (fun h6=>?_)⟩
  · refine Drw.intro fun w5 f5 s5=>⟨_,rfl,_,XuK (by omega),_,_,(h4.fr0 f5).ld,?_⟩
    refine Xwq (hB4.fr0 f5) (by omega) (hzero j (Nat.le_refl _) (by omega)) (VX hH _) fun w6 f'' f6 hB6 hout hrow=>⟨_,_,rfl,?_⟩
    have h46:EAt w6 a2 (Yz (4*j) H):=(h4.fr0 f5).fr f6 (by simp; omega)
    refine h46.sto fun w7 f7 h7 s7=>?_
    rw [Xe (n:=(j:Int)+1) (by omega) (by omega)]
    rw [← Xoy,show 4+4*j=4*(j+1) by omega] at h7
    refine hgo _ _ _ (k - 1) (by omega) ⟨j+1,f'',by omega,rfl,f4.trans (((f5.mono (by simp)).trans (l1:=[b]) f6 (fun x hx=>.inl (by simp at hx; simp [hx]))).trans (l:=[b,a2]) f7 (fun x hx=>.inl (by simp at hx; simp [hx]))) (by simp),hB6.fr f7 (by simp; omega),h7,fun i hi=>by rw [hout i (.inl (by omega))]; exact hlow i hi,fun i hi=>?_,fun i hi hi32=>⟨by rw [hout _ (.inr (by omega))]; exact (hzero i (by omega) hi32).1,by rw [hout _ (.inr (by omega))]; exact (hzero i (by omega) hi32).2⟩⟩
    by_cases hij:i=j
    · subst hij
      intro n hn
      have:=hrow n hn
      have eF:(fun t=>Yz t (Yz (4*i) H))=fun t=>Yz (4*i+t) H:=by funext t; rw [← Xoy,Nat.add_comm]
      rw [eF] at this
      exact this
    · intro n hn
      have:=htab i (by omega) n hn
      exact ⟨by rw [hout _ (.inl (by omega))]; exact this.1,by rw [hout _ (.inl (by omega))]; exact this.2⟩
  · have:j=32:=by omega
    subst this
    refine h w4 f' ?_ hB4 (fun i hi=>by rw [hlow i (by omega),gne i (by omega)]) (by rw [hlow 5 (by omega)]; exact g5) htab
    exact ((f1.trans f13 (by simp)).trans f4 (fun x hx=>by simp at hx; rcases hx with rfl | rfl; exact .inl (by simp); exact .inr (by have:=f1.size; omega)))
def HAt (w:World) (b H:Nat) (m:Bool):Prop:=∃ f,Blk w b 1030 f∧H<2 ^ 128∧f 0=.int .u64 (hiE H)∧f 1=.int .u64 (loE H)∧f 3=.int .i32 0∧
  (match m with | true=>f 2=.int .u32 1∧∀ k,k<32→Xt8 f H k | false=>f 2=.int .u32 0∧f 5=.int .i64 0∧∀ k,k<32→ElC f (6+k*32) 0 0)
theorem HAt.fr {L:List Nat} {w':World} {H:Nat} {m:Bool} (h:HAt w b H m) (hf:Fr L w w') (hn:b∉L):HAt w' b H m:=by obtain ⟨f,hB,r⟩:=h; exact ⟨f,hB.fr hf hn,r⟩
theorem HAt.fr0 {w':World} {H:Nat} {m:Bool} (h:HAt w b H m) (hf:Fr [] w w'):HAt w' b H m:=h.fr hf (by simp)
theorem HAt.lt {H:Nat} {m:Bool} (h:HAt w b H m):b<w.heap.size:=by obtain ⟨f,hB,_⟩:=h; exact hB.lt
theorem Xvn {H:Nat} {m:Bool} (hH:HAt w b H m) (h:∀ w',Fr [b] w w'→HAt w' b H true→K (.tuple #[]) w') :
    Xa Tryz.prog VN #[.pointer (some ((⟨b,0,none⟩:Addr).add 2)),.func (.func WL) #[.pointer (some ⟨b,0,none⟩)] #[]] w K:=by
  obtain ⟨f,hB,hlt,h0,h1,h3,hm⟩:=hH
  rw [Xi]
  cases m with
  | true=>exact W0 hB (by omega) hm.1 (h w (Fr.refl _ _) ⟨f,hB,hlt,h0,h1,h3,hm⟩)
  | false=>
    obtain ⟨h2,h5,hz⟩:=hm
    refine Wr hB (by omega) h2 h3 fun w1 f1 hB1 s1=>Xp6 ?_
    refine Xvm hB1 (by rw [upd_ne _ _ _ (by omega)]; exact h0) (by rw [upd_ne _ _ _ (by omega)]; exact h1) (by rw [upd_ne _ _ _ (by omega)]; exact h5) rfl (fun k hk=>⟨by rw [upd_ne _ _ _ (by omega)]; exact (hz k hk).1,by rw [upd_ne _ _ _ (by omega)]; exact (hz k hk).2⟩) hlt fun w2 f' f2 hB2 hlow g5 htab=>?_
    refine ⟨rfl,f',hB2,by rw [hlow _ (by omega)]; exact upd_same _ _ _,fun w3 f3 hB3 s3=>?_⟩
    have fB:Fr [b] w w3:=(f1.trans f2 (fun _ h=>.inl h)).trans f3 (fun _ h=>.inl h)
    refine h w3 fB ⟨_,hB3,hlt,?_,?_,upd_same _ _ _,?_,fun k hk n hn=>⟨?_,?_⟩⟩
    · rw [upd_ne _ _ _ (by omega),upd_ne _ _ _ (by omega),hlow 0 (by omega),upd_ne _ _ _ (by omega)]; exact h0
    · rw [upd_ne _ _ _ (by omega),upd_ne _ _ _ (by omega),hlow 1 (by omega),upd_ne _ _ _ (by omega)]; exact h1
    · rw [upd_ne _ _ _ (by omega)]; exact upd_same _ _ _
    · rw [upd_ne _ _ _ (by omega),upd_ne _ _ _ (by omega)]; exact (htab k hk n hn).1
    · rw [upd_ne _ _ _ (by omega),upd_ne _ _ _ (by omega)]; exact (htab k hk n hn).2
end
end Go.Sh
end

section
namespace Go.Sh
open Go Go.Fw Go.Proofs
set_option maxRecDepth 100000
set_option linter.unusedVariables false
theorem Xvo (e k:Nat) (hk:k<16):e / 18446744073709551616 / 2 ^ (4*(15 - k)) % 16=e >>> (4*(31 - k)) % 16:=by
  rw [Nat.shiftRight_eq_div_pow,Nat.div_div_eq_div_mul,show (18446744073709551616:Nat)=2 ^ 64 from rfl,← Nat.pow_add]
  congr 3; omega
theorem Xvp (e k:Nat) (hk:16≤k) (hk2:k<32):e % 18446744073709551616 / 2 ^ (4*(31 - k)) % 16=e >>> (4*(31 - k)) % 16:=by
  rw [← Nat.shiftRight_eq_div_pow,show (18446744073709551616:Nat)=2 ^ 64 from rfl,show (16:Nat)=2 ^ 4 from rfl]
  apply Nat.eq_of_testBit_eq
  intro i
  rw [Nat.testBit_mod_two_pow,Nat.testBit_mod_two_pow,Nat.testBit_shiftRight,Nat.testBit_shiftRight,Nat.testBit_mod_two_pow]
  by_cases hi:i<4
  · rw [decide_eq_true hi,decide_eq_true (show 4*(31 - k)+i<64 by omega)]; simp
  · rw [decide_eq_false hi]; simp
section
variable {w:World} {b:Nat} {K:VWP}
theorem Xt9 {H e:Nat} {m:Bool} (hH:HAt w b H m) (he:e<2 ^ 128) (h:∀ w',Fr [b] w w'→HAt w' b H true→K (.agg #[.int .u64 (hiE (QO e H)),.int .u64 (loE (QO e H))]) w') :
    Xa Tryz.prog Xd8 #[.pointer (some ⟨b,0,none⟩),.agg #[.int .u64 (hiE e),.int .u64 (loE e)]] w K:=by
  apply XbF
  unfold QH
  have hbl:=hH.lt
  refine XeW fun w1 f1 h1 s1=>JX fun w2 g2 f2 hB2 s2=>⟨_,rfl,?_⟩
  obtain ⟨a3,ha3⟩:∃ a,a=w.heap.size:=⟨_,rfl⟩
  obtain ⟨a4,ha4⟩:∃ a,a=w1.heap.size:=⟨_,rfl⟩
  rw [← ha3] at h1 ⊢
  rw [← ha4] at hB2 ⊢
  have z1:=f1.size; have z2:=f2.size
  refine Xvn (hH.fr0 (f1.then f2)) fun w3 f3 hH3=>⟨rfl,XuJ fun w4 f4 h4 s4=>?_⟩
  obtain ⟨a5,ha5⟩:∃ a,a=w3.heap.size:=⟨_,rfl⟩
  rw [← ha5] at h4 ⊢
  have z3:=f3.size; have z4:=f4.size
  have hE4:EAt w4 a3 e:=((h1.fr0 f2).fr f3 (by simp; omega)).fr0 f4
  have hB4:Blk w4 a4 2 g2:=(hB2.fr f3 (by simp; omega)).fr0 f4
  have fw4:Fr [b] w w4:=(((f1.then f2).mono (by simp)).trans f3 (fun x hx=>.inl hx)).trans f4 (by simp)
  have hH4:=hH3.fr0 f4
  refine LoopS.ind (fun k us w'=>∃ j:Nat,j+k=32∧us=[.pointer (some ⟨b,0,none⟩),.pointer (some ⟨a3,0,none⟩),.pointer (some ⟨a4,0,none⟩),.pointer (some ⟨a5,0,none⟩),.int .i64 (j:Int)]∧Fr [a5] w4 w'∧EAt w' a5 (Yk (fun k=>Jj (fun t=>Yz (4*k+t) H) (e >>> (4*(31 - k)) % 16)) j)) 32
    ⟨0,rfl,rfl,Fr.refl _ _,h4⟩ ?_
  rintro k us r w5 I μ hgo ⟨j,hj,rfl,f5,h5⟩
  have hE5:=hE4.fr f5 (by simp; omega)
  have hH5:=hH4.fr f5 (by simp; omega)
  refine ⟨_,_,_,_,_,rfl,Xc (fun h6=>?_) (fun h6=>?_)⟩
  · have hj32:j<32:=by omega
    obtain ⟨f,hB,hlt,q0,q1,q3,q2,htab⟩:=id hH5
    have hF:∀ t,Yz (4*j+t) H<2 ^ 128:=fun t=>VX hlt _
    have step : ∀ x : Nat, x < 18446744073709551616 → x / 2 ^ (4 * (15 - j % 16)) % 16 = e >>> (4 * (31 - j)) % 16 →
        Zq I μ [.pointer (some ⟨b,0,none⟩),.pointer (some ⟨a3,0,none⟩),.pointer (some ⟨a4,0,none⟩),.pointer (some ⟨a5,0,none⟩),.int .i64 (j:Int)] w5 (some ⟨b,0,none⟩) ⟨a3,0,none⟩ ⟨a4,0,none⟩ ⟨a5,0,none⟩ (j:Int) (x:Int) (j:Int) w5 K:=by
      intro x hx hn
      unfold Zq
      refine ⟨fun w'=>Fr [] w5 w',Drw.intro fun w6 f6 s6=>?_⟩
      have esh:IntKind.i64.wrap (4*(IntKind.i64.wrap (15 - (Int.tmod (j:Int) 16))))=((4*(15 - j % 16):Nat):Int):=by
        have:Int.tmod (j:Int) 16=((j % 16:Nat):Int):=by rw [Int.tmod_eq_emod_of_nonneg (by omega)]; rfl
        rw [this,Xe (n:=15 - ((j % 16:Nat):Int)) (by omega) (by omega),Xe (by omega) (by omega)]; omega
      rw [esh]
      refine ⟨_,XtY hx (by omega),_,rfl,_,XuK hj32,?_⟩
      have hdl:x / 2 ^ (4*(15 - j % 16))<18446744073709551616:=Nat.lt_of_le_of_lt (Nat.div_le_self _ _) hx
      have ea:J0 .u64 ((x / 2 ^ (4*(15 - j % 16)):Nat):Int) 15=((e >>> (4*(31 - j)) % 16:Nat):Int):=by
        have:=XuG (a:=x / 2 ^ (4*(15 - j % 16))) (b:=15) hdl (by decide)
        rw [show (15:Nat)=2 ^ 4 - 1 from rfl,Nat.and_two_pow_sub_one_eq_mod] at this
        rw [show ((15:Int))=(((2 ^ 4 - 1:Nat):Nat):Int) from rfl,this,show (2 ^ 4:Nat)=16 from rfl,hn]
      rw [ea]
      have hnib:e >>> (4*(31 - j)) % 16<16:=Nat.mod_lt _ (by decide)
      have hB6:=hB.fr0 f6
      refine ⟨_,Xje hnib,_,_,⟨f6,fun w' hw'=>(h5.fr0 hw').ld⟩,_,_,Xrx hB6 (by omega) (htab j hj32 _ hnib),.inl rfl,?_⟩
      refine Xry fun p w7 f7 hR7 s7=>XoA hR7 (Xkv fun i _=>Xfe (fun t=>VX hlt _) _) (Xfe hF _) fun w8 f8=>⟨_,_,rfl,?_⟩
      have f58:=(f6.then f7).then f8
      refine (h5.fr0 f58).sto fun w9 f9 h9 s9=>?_
      rw [Xe (n:=(j:Int)+1) (by omega) (by omega)]
      exact hgo _ _ _ (k - 1) (by omega) ⟨j+1,by omega,rfl,f5.trans ((f58.mono (by simp)).trans f9 (fun x hx=>.inl hx)) (fun x hx=>.inl hx),h9⟩
    refine ⟨_,hE5.hiLd,Xc (fun h7=>⟨_,hE5.loLd,?_⟩) (fun h7=>?_)⟩
    · refine step _ (by omega) ?_
      rw [show 15 - j % 16=31 - j by omega]
      exact Xvp e j (by omega) hj32
    · refine step _ (Xmp he) ?_
      rw [show j % 16=j by omega]
      exact Xvo e j (by omega)
  · have:j=32:=by omega
    subst this
    rw [← Xrr] at h5
    unfold VG
    have hB5:Blk w5 a4 2 g2:=hB4.fr f5 (by simp; omega)
    refine ⟨_,_,h5.ld,Uw hB5 fun w6 f6 h6' s6=>⟨_,_,rfl,h6'.ld,?_⟩⟩
    exact h w6 ((fw4.trans f5 (fun x hx=>.inr (by simp at hx; omega))).trans f6 (fun x hx=>.inr (by simp at hx; omega))) (hH5.fr f6 (by simp; omega))
def Z6 (H:Nat) (a:Nat) (es:List Nat):Nat:=es.foldl (fun a x=>QO (a ^^^ x) H) a
theorem Xhg {H:Nat} (hH:H<2 ^ 128):∀ (es:List Nat) (a:Nat),a<2 ^ 128→Z6 H a es<2 ^ 128:=by
  intro es
  induction es with
  | nil=>intro a ha; exact ha
  | cons x es ih=>intro a _; exact ih _ (Xvd hH)
theorem Xvq {H e:Nat} {m:Bool} {p:Option Addr} {l c:Nat} {es:List Nat} (hH:HAt w b H m) (he:e<2 ^ 128) (hX:Row w p (XI es)) (hp:∀ k∈Xb p,k≠b) (hl:l=es.length) (hlb:l<1000000) (hs:∀ x∈es,x<2 ^ 128)
    (h:∀ w' m',Fr [b] w w'→HAt w' b H m'→K (.agg #[.int .u64 (hiE (Z6 H e es)),.int .u64 (loE (Z6 H e es))]) w') :
    Xa Tryz.prog Xfp #[.pointer (some ⟨b,0,none⟩),.agg #[.int .u64 (hiE e),.int .u64 (loE e)],.slice p l c] w K:=by
  apply Xcv
  unfold Xaw
  have hbl:=hH.lt
  have hlt:H<2 ^ 128:=by obtain ⟨_,_,q,_⟩:=hH; exact q
  refine XeW fun w1 f1 h1 s1=>JX fun w2 g2 f2 hB2 s2=>?_
  obtain ⟨a4,ha4⟩:∃ a,a=w.heap.size:=⟨_,rfl⟩
  obtain ⟨a6,ha6⟩:∃ a,a=w1.heap.size:=⟨_,rfl⟩
  rw [← ha4] at h1 ⊢
  rw [← ha6] at hB2 ⊢
  have z1:=f1.size; have z2:=f2.size
  refine LoopS.ind (fun k us w'=>∃ (j:Nat) (m':Bool),j+k=l∧us=[.pointer (some ⟨b,0,none⟩),.pointer (some ⟨a4,0,none⟩),.pointer (some ⟨a6,0,none⟩),.slice p l c,.int .i64 (l:Int),.int .i64 (j:Int)]∧Fr [b] w w'∧w2.heap.size≤w'.heap.size∧HAt w' b H m'∧EAt w' a4 (Z6 H e (es.take j))∧Blk w' a6 2 g2) l
    ⟨0,m,by omega,rfl,(f1.then f2).mono (by simp),Nat.le_refl _,hH.fr0 (f1.then f2),h1.fr0 f2,hB2⟩ ?_
  rintro k us r w3 I μ hgo ⟨j,m',hj,rfl,f3,hsz,hH3,h3,hB3⟩
  refine ⟨_,_,_,_,_,_,_,_,rfl,Xc (fun h4=>?_) (fun h4=>?_)⟩
  · have hX3:Row w3 p (XI es):=hX.fr f3 (fun a ha hm=>by simp at hm; exact hp a.block (by simp [ha,Xb]) hm)
    obtain ⟨bb,o,x,hx,ha,hc0,hc1⟩:=Xwn hX3 (c:=c) hl (i:=j) (by omega)
    have hx8:x<2 ^ 128:=hs x (List.mem_of_getElem? hx)
    refine ⟨_,ha,_,_,XbP hc0 hc1,JX fun w4 g4 f4 hB4 s4=>Uw hB4 fun w5 f5 h5 s5=>?_⟩
    have f35:Fr [] w3 w5:=f4.st f5 (by omega)
    refine ⟨_,_,(h3.fr0 f35).ld,_,_,h5.ld,Xry fun q w6 f6 hR6 s6=>?_⟩
    have hacc:=Xhg hlt (es.take j) e he
    refine XoA hR6 hacc hx8 fun w7 f7=>⟨_,_,rfl,?_⟩
    have f37:=(f35.then f6).then f7
    refine Xt9 (hH3.fr0 f37) (XsQ hacc hx8) fun w8 f8 hH8=>⟨_,_,rfl,?_⟩
    have z3:=f37.size; have z8:=f8.size
    have h8:=(h3.fr0 f37).fr f8 (by simp; omega)
    refine h8.sto fun w9 f9 h9 s9=>?_
    have e1:QO (Z6 H e (es.take j) ^^^ x) H=Z6 H e (es.take (j+1)):=by unfold Z6; rw [List.take_add_one,hx,List.foldl_append]; rfl
    rw [e1] at h9
    rw [Xe (n:=(j:Int)+1) (by omega) (by omega)]
    refine hgo _ _ _ (k - 1) (by omega) ⟨j+1,true,by omega,rfl,((f3.trans f37 (by simp)).trans f8 (fun x hx=>.inl hx)).trans f9 (fun x hx=>.inr (by simp at hx; omega)),by omega,hH8.fr f9 (by simp; omega),h9,((hB3.fr0 f37).fr f8 (by simp; omega)).fr f9 (by simp; omega)⟩
  · have:j=l:=by omega
    subst this
    rw [List.take_of_length_le (by omega)] at h3
    unfold Wm
    refine ⟨_,_,h3.ld,Uw hB3 fun w4 f4 h4' s4=>⟨_,_,rfl,h4'.ld,?_⟩⟩
    exact h w4 m' (f3.trans f4 (fun x hx=>.inr (by simp at hx; omega))) (hH3.fr f4 (by simp; omega))
theorem Xrz {p q:Option Addr} {l c k d:Nat} (hl:l<1000000000) (hk:k<1000000000) (h:∀ w',Fr [] w w'→K (.agg #[.int .u64 (hiE (l*8*18446744073709551616+k*8)),.int .u64 (loE (l*8*18446744073709551616+k*8))]) w') :
    Xa Tryz.prog XhZ #[.slice p l c,.slice q k d] w K:=by
  apply Xev
  unfold Xc0
  refine JX fun w1 g1 f1 hB1 s1=>?_
  have e1:IntKind.u64.wrap (IntKind.u64.wrap ((l:Nat):Int)*8)=hiE (l*8*18446744073709551616+k*8):=by
    unfold hiE; rw [XC (n:=(l:Int)) (by omega) (by omega),XC (by omega) (by omega)]; omega
  have e2:IntKind.u64.wrap (IntKind.u64.wrap ((k:Nat):Int)*8)=loE (l*8*18446744073709551616+k*8):=by
    unfold loE; rw [XC (n:=(k:Int)) (by omega) (by omega),XC (by omega) (by omega)]; omega
  rw [e1,e2]
  exact Uw hB1 fun w2 f2 h2 s2=>⟨_,_,rfl,h2.ld,h w2 (f1.st f2 (by omega))⟩
theorem XsS {e:Nat} (he:e<2 ^ 128) (h:∀ q d w',Fr [] w w'→OB w' q 16 d (ZK e) w.heap.size→K (.slice q 16 d) w') :
    Xa Tryz.prog Xfq #[.agg #[.int .u64 (hiE e),.int .u64 (loE e)]] w K:=by
  apply Xct
  unfold Xav
  refine XeW fun w1 f1 h1 s1=>⟨_,h1.hiLd,?_⟩
  have p8:(256:Nat) ^ 8=18446744073709551616:=by decide
  refine Xi5 (size:=8) (by omega) (by rw [p8]; exact Xmp he) fun q2 d2 w2 f2 hO2=>⟨_,_,_,_,rfl,_,(h1.fr0 f2).loLd,?_⟩
  refine Xi5 (size:=8) (by omega) (by rw [p8]; omega) fun q3 d3 w3 f3 hO3=>⟨_,_,_,_,rfl,?_⟩
  refine ⟨_,_,_,Ef.new (v:=.slice (some ⟨w3.heap.size,0,none⟩) 2 2) (cs:=([.slice q2 8 d2,.slice q3 8 d3]:List Value).toArray) (e:=Xg) (by kernel_rfl) fun w4 f4 hB4 s4=>?_⟩
  have hR4:=RowB.of2 hB4.rowL ((hO2.fr0 (f3.then f4)).byS) ((hO3.fr0 f4).byS)
  have efl:[X6 (e / 18446744073709551616) 8,X6 (e % 18446744073709551616) 8].flatten=ZK e:=by simp [ZK]
  have hbl:(ZK e).length=16:=by simp [ZK,Y7]
  refine Wv (l:=2) hR4 rfl (by rw [efl,hbl]; omega) (by omega) fun q d w5 f5 hO5=>⟨_,_,_,rfl,?_⟩
  rw [efl,hbl] at hO5
  rw [efl,hbl]
  have f04:=((f1.then f2).then f3).then f4
  exact h q d w5 (f04.then f5) (hO5.mono f04.size)
end
end Go.Sh
end

section
namespace Go.Sh
open Go Go.Fw Go.Proofs
set_option maxRecDepth 100000
set_option linter.unusedVariables false
theorem Xua {w:World} {p:Option Addr} {l c:Nat} {xs:List UInt8} (hx:Row w p (xs.map vb)) (hl:l=xs.length) (hlen:l≤1073741824) {K:VWP}
    (h:∀ q d w',Fr [] w w'→OB w' q l d xs w.heap.size→K (.slice q l d) w'):Xa Tryz.prog WJ #[.slice p l c] w K:=
  Xpt hx hl hlen fun q d w' f hO hn=>h q d w' f ⟨hO,hl,hn⟩
end Go.Sh
end

section
namespace Go.Sh
open Go Go.Fw Go.Proofs
set_option maxRecDepth 100000
set_option linter.unusedVariables false
theorem New.as {cs cs':Array Value} {t:TypeId} {w:World} {K:Nat→World→Prop} (he:cs=cs') (h:New cs' t w K):New cs t w K:=by subst he; exact h
section
variable {w:World} {b:Nat} {K:VWP}
theorem XrA {p:Option Addr} {l c:Nat} {xs:List UInt8} (hx:Row w p (xs.map vb)) (hl:l=xs.length) (hc:l≤c) (h16:l=16)
    (h:∀ b w',Fr [] w w'→HAt w' b (Xp xs) false→w.heap.size≤b→K (.tuple #[.pointer (some ⟨b,0,none⟩),.int .i64 0]) w'):Xa Tryz.prog Xpb #[.slice p l c] w K:=by
  apply Xka
  unfold XkV
  refine Xoz hx hl hc (fun hb=>absurd h16 hb) fun _ w1 f1=>⟨_,_,_,rfl,JX fun w2 g2 f2 hB2 s2=>Uw hB2 fun w3 f3 h3 s3=>?_⟩
  refine XF (fun hne=>absurd rfl hne) fun _=>⟨_,_,h3.ld,?_⟩
  refine New.as (cs':=⟨[.int .u64 (hiE (Xp xs)),.int .u64 (loE (Xp xs)),.int .u32 0,.int .i32 0,.int .u32 0,.int .i64 0]++List.replicate 1024 (.int .u64 0)⟩) (by kernel_rfl) ?_
  have f03:Fr [] w w3:=f1.then (f2.st f3 (by omega))
  refine New.intro fun w4 f4 hB4 s4=>h _ w4 (f03.then f4) ⟨_,hB4,XeY (by omega),rfl,rfl,rfl,rfl,rfl,fun k hk=>?_⟩ f03.size
  have e:∀ i,6≤i→i<1030→Array.getD ⟨[.int .u64 (hiE (Xp xs)),.int .u64 (loE (Xp xs)),.int .u32 0,.int .i32 0,.int .u32 0,.int .i64 0]++List.replicate 1024 (.int .u64 0)⟩ i undef=.int .u64 0:=by
    intro i h6 hi
    rw [Array.getD_eq_getD_getElem?,List.getElem?_toArray,List.getElem?_append_right (by simpa using h6),List.getElem?_replicate,if_pos (by simp; omega)]; rfl
  exact ⟨e _ (by omega) (by omega),e _ (by omega) (by omega)⟩
def X7 (xs:List UInt8) (j:Nat):List UInt8:=(xs.drop (16*j)).take 16
def VY (xs:List UInt8):List UInt8:=xs++List.replicate (16 - xs.length) 0
def QP (xs:List UInt8) (j:Nat):Nat:=Xp (VY (X7 xs j))
def Yc (n:Nat):Nat:=(n+15) / 16
def XG (xs:List UInt8):List Nat:=(List.range (Yc xs.length)).map (QP xs)
theorem QQ (xs:List UInt8) (j:Nat):(X7 xs j).length=min 16 (xs.length - 16*j):=by unfold X7; rw [List.length_take,List.length_drop]
theorem XcM {xs:List UInt8} (h:xs.length≤16):(VY xs).length=16:=by unfold VY; rw [List.length_append,List.length_replicate]; omega
theorem Xvr (xs:List UInt8) (j:Nat):QP xs j<2 ^ 128:=XeY (XcM (by rw [QQ]; omega))
theorem Xjf (xs:List UInt8):∀ e∈XG xs,e<2 ^ 128:=by
  intro e he
  unfold XG at he
  obtain ⟨j,_,rfl⟩:=List.mem_map.1 he
  exact Xvr xs j
theorem Xgl (xs:List UInt8):(XG xs).length=Yc xs.length:=by simp [XG]
theorem XsT {l0 k2 k3:Nat} {p:Option Addr} {l c:Nat} {xs:List UInt8} (hl:l=xs.length) (hc:l≤c) (hlb:l<1000000) (J:Nat→World→Prop)
    (h0:J 0 w) (hdrew:∀ j w' w'',J j w'→Fr [] w' w''→J j w'') (hrow:∀ j w',J j w'→Row w' p (xs.map vb)) (hk2:∀ j w',J j w'→∃ f,Blk w' k2 1 f∧f 0=.slice p l c) (hk3:∀ j w',J j w'→∃ f,Blk w' k3 1 f∧f 0=.int .i64 16)
    (hstep:∀ j w' q d (K':VWP),16*j<l→J j w'→Row w' q ((X7 xs j).map vb)→(X7 xs j).length≤d→(∀ w'',J (j+1) w''→K' (.bool true) w'')→Yv Tryz.prog (.func (.yield l0) #[] #[]) [.slice q (X7 xs j).length d] w' K')
    (hend:∀ j w',j=Yc l→J j w'→K (.tuple #[]) w'):Xa Tryz.prog Wf #[.func (.yield l0) #[] #[],.pointer (some ⟨k2,0,none⟩),.pointer (some ⟨k3,0,none⟩)] w K:=by
  apply Vk
  unfold JV
  refine LoopS.ind (fun k us w'=>∃ j:Nat,j+k=Yc l∧us=[.func (.yield l0) #[] #[],.pointer (some ⟨k2,0,none⟩),.pointer (some ⟨k3,0,none⟩),.int .i64 ((16*j:Nat):Int)]∧J j w') (Yc l) ⟨0,by omega,rfl,h0⟩ ?_
  rintro k us r w2 I μ hgo ⟨j,hj,rfl,hJ⟩
  obtain ⟨f,hB,hf⟩:=hk2 j w2 hJ
  refine ⟨_,_,_,_,rfl,_,_,_,Ld.blk (by kernel_rfl) hB (by omega) hf,Xc (fun h1=>?_) (fun h1=>?_)⟩
  · have hjl:16*j<l:=by omega
    have hbl:=QQ xs j
    refine ⟨fun w'=>J j w',Drw.intro fun w3 f3 s3=>?_⟩
    have hJ3:=hdrew j w2 w3 hJ f3
    obtain ⟨f',hB',hf'⟩:=hk2 j w3 hJ3
    refine ⟨16,⟨hJ3,fun w' hw'=>?_⟩,_,_,_,Ld.blk (by kernel_rfl) hB' (by omega) hf',.inl rfl,?_⟩
    · obtain ⟨g,hg,hg0⟩:=hk3 j w' hw'
      exact Ld.blk (by kernel_rfl) hg (by omega) hg0
    refine Ww (hrow j w3 hJ3) hl (n:=16*j) (by omega) hc fun q1 d1 hq1 hl1 hd1 hb1=>?_
    have emin:Pu Tryz.prog (Builtin.min_ #[Y9,Y9] Y9 #[.int .i64 16,.int .i64 ((l - 16*j:Nat):Int)]) (.int .i64 (((X7 xs j).length:Nat):Int)):=by
      have e:Pu Tryz.prog (Builtin.min_ #[Y9,Y9] Y9 #[.int .i64 16,.int .i64 ((l - 16*j:Nat):Int)]) (.int .i64 (if ((l - 16*j:Nat):Int)<16 then ((l - 16*j:Nat):Int) else 16)):=by unfold Pu; kernel_rfl
      have e2:(if ((l - 16*j:Nat):Int)<16 then ((l - 16*j:Nat):Int) else 16)=(((X7 xs j).length:Nat):Int):=by rw [hbl]; split <;> omega
      rwa [e2] at e
    refine ⟨_,emin,_,_,_,Ld.blk (by kernel_rfl) hB' (by omega) hf',?_⟩
    rw [Xe (n:=((16*j:Nat):Int)+(((X7 xs j).length:Nat):Int)) (by omega) (by omega)]
    refine ⟨_,_,_,Xut (s:=1) (by kernel_rfl) (by omega) (by omega) (by omega) (by omega),?_⟩
    have ea:(((16*j:Nat):Int)+(((X7 xs j).length:Nat):Int)).toNat=16*j+(X7 xs j).length:=by omega
    have eb:(((16*j:Nat):Int)).toNat=16*j:=by omega
    rw [ea,eb,show 16*j+(X7 xs j).length - 16*j=(X7 xs j).length by omega]
    have hR:Row w3 (Go.Fw.partAt p (16*j+(X7 xs j).length) (16*j) 1) ((X7 xs j).map vb):=by
      have h1:=Row.partB (Row.takeB (hrow j w3 hJ3) (16*j+(X7 xs j).length)) (c:=16*j+(X7 xs j).length) (l:=16*j) (by rw [List.length_take]; omega)
      have e:((xs.take (16*j+(X7 xs j).length)).drop (16*j))=X7 xs j:=by
        rw [List.drop_take,show 16*j+(X7 xs j).length - 16*j=(X7 xs j).length by omega]
        unfold X7 at hbl ⊢
        rw [hbl]
        by_cases h:16≤xs.length - 16*j
        · rw [show min 16 (xs.length - 16*j)=16 by omega]
        · rw [List.take_of_length_le (by rw [List.length_drop]; omega),List.take_of_length_le (by rw [List.length_drop]; omega)]
      rwa [e] at h1
    refine hstep j w3 _ _ _ hjl hJ3 hR (by omega) fun w4 hJ4=>⟨_,rfl,Xz ?_⟩
    obtain ⟨g,hg,hg0⟩:=hk3 (j+1) w4 hJ4
    refine ⟨_,Ld.blk (by kernel_rfl) hg (by omega) hg0,?_⟩
    rw [Xe (n:=((16*j:Nat):Int)+16) (by omega) (by omega),show ((16*j:Nat):Int)+16=((16*(j+1):Nat):Int) by omega]
    refine hgo _ _ _ (k - 1) (by unfold Yc at hj; omega) ⟨j+1,by unfold Yc at hj ⊢; omega,rfl,hJ4⟩
  · exact hend j w2 (by unfold Yc at hj ⊢; omega) hJ
def EO (w:World) (p:Option Addr) (l c:Nat) (es:List Nat) (lo:Nat):Prop:=OwnN 2 w p l c (XI es)∧l=es.length∧∀ k∈Xb p,lo≤k
theorem EO.fr0 {p:Option Addr} {l c lo:Nat} {es:List Nat} {w':World} (h:EO w p l c es lo) (f:Fr [] w w'):EO w' p l c es lo:=⟨h.1.fr0 f,h.2⟩
theorem EO.fr {p:Option Addr} {l c lo:Nat} {es:List Nat} {w':World} {L:List Nat} (h:EO w p l c es lo) (f:Fr L w w') (hL:∀ k∈L,k<lo):EO w' p l c es lo:=⟨h.1.fr f fun k hk hm=>by have:=hL k hm; have:=h.2.2 k hk; omega,h.2⟩
theorem EO.mono {p:Option Addr} {l c lo lo':Nat} {es:List Nat} (h:EO w p l c es lo) (hl:lo'≤lo):EO w p l c es lo':=⟨h.1,h.2.1,fun k hk=>Nat.le_trans hl (h.2.2 k hk)⟩
theorem EO.row {p:Option Addr} {l c lo:Nat} {es:List Nat} (h:EO w p l c es lo):Row w p (XI es):=h.1.row
theorem XuL {p q:Option Addr} {l c lo m d:Nat} {es ys:List Nat} (h:EO w p l c es lo) (hlo:lo≤w.heap.size) (hR:Row w q (XI ys)) (hm:m=ys.length) (hlen:l+m≤1073741824) {K:Option Addr→Nat→Nat→World→Prop}
    (hk:∀ p' c' L w',Fr L w w'→(∀ k∈L,lo≤k)→EO w' p' (l+m) c' (es++ys) lo→w.heap.size≤w'.heap.size→K p' (l+m) c' w'):∃ p' l' c' w',Ef Tryz.prog (Builtin.append_ #[XV,XV] XV #[.slice p l c,.slice q m d]) w (.slice p' l' c') w'∧K p' l' c' w':=by
  obtain ⟨p',c',w',he,hO,hf,hcase⟩:=Ef.appendN (P:=Tryz.prog) (t:=XV) (ty:=XV) (s:=2) (by kernel_rfl) h.1 (m:=m) (d:=d) hR (by rw [Xjd,hm]) (Xru ys) hlen
  rw [← Xl6] at hO
  refine ⟨_,_,_,_,he,hk p' c' (Xb p) w' hf h.2.2 ⟨hO,by rw [List.length_append,← hm,← h.2.1],?_⟩ hf.size⟩
  rcases hcase with ⟨rfl,_,_⟩ | ⟨rfl,_,_⟩
  · exact h.2.2
  · intro k hk'; simp [Xb] at hk'; omega
theorem Xvs:Pu Tryz.prog (zeroValue Xf4) (.agg ⟨List.replicate 16 (.int .u8 0)⟩):=by unfold Pu; kernel_rfl
theorem Xlh {p:Option Addr} {l c:Nat} {xs:List UInt8} (hx:Row w p (xs.map vb)) (hl:l=xs.length) (hc:l≤c) (hlb:l<1000000)
    (h:∀ q d w',Fr [] w w'→EO w' q (Yc l) d (XG xs) w.heap.size→K (.slice q (Yc l) d) w'):Xa Tryz.prog XjQ #[.slice p l c] w K:=by
  apply XfB
  unfold Xeu
  refine ⟨.slice none 0 0,by unfold Pu; kernel_rfl,New.intro fun w1 f1 hB1 s1=>?_⟩
  obtain ⟨a3,ha3⟩:∃ a,a=w.heap.size:=⟨_,rfl⟩
  rw [← ha3] at hB1 ⊢
  have hB1':Blk w1 a3 1 (fun _=>.slice none 0 0):=hB1.ext fun i hi=>by obtain rfl:i=0:=by { have:i<1:=hi; omega }; rfl
  apply Wi
  unfold UH
  refine New.intro fun w2 f2 hB2 s2=>New.intro fun w3 f3 hB3 s3=>?_
  obtain ⟨k2,hk2⟩:∃ a,a=w1.heap.size:=⟨_,rfl⟩
  obtain ⟨k3,hk3⟩:∃ a,a=w2.heap.size:=⟨_,rfl⟩
  rw [← hk2] at hB2 ⊢
  rw [← hk3] at hB3 ⊢
  refine ⟨_,Ld.blk (by kernel_rfl) hB3 (by decide) rfl,Xz ⟨_,rfl,?_⟩⟩
  have f03:=(f1.then f2).then f3
  have z1:=f1.size; have z2:=f2.size; have z3:=f3.size
  refine RangeF.of (fun _ _=>by kernel_rfl) fun fn w4 f4 s4 hD4 hL4=>?_
  have n4:=f4.size
  refine XsT (k2:=k2) (k3:=k3) hl hc hlb (fun j w'=>Fr [] w w'∧w4.heap.size≤w'.heap.size∧LpAt w' (w3.heap.size+1) _∧DfAt w' w3.heap.size∧(∃ f,Blk w' k2 1 f∧f 0=.slice p l c)∧(∃ f,Blk w' k3 1 f∧f 0=.int .i64 16)∧∃ q d f,Blk w' a3 1 f∧f 0=.slice q j d∧EO w' q j d ((List.range j).map (QP xs)) w4.heap.size)
    ⟨f03.then f4,Nat.le_refl _,hL4,hD4,⟨_,hB2.fr0 (f3.then f4),rfl⟩,⟨_,hB3.fr0 f4,rfl⟩,none,0,_,hB1'.fr0 ((f2.then f3).then f4),rfl,⟨OwnN.nil 2 _,rfl,by simp [Xb]⟩⟩
    (fun j w' w'' hj f=>?_) (fun j w' hj=>hx.fr0 hj.1) (fun j w' hj=>hj.2.2.2.2.1) (fun j w' hj=>hj.2.2.2.2.2.1) (fun j w' q d K' hjl hj hR hd hK=>?_) (fun j w' hje hj=>?_)
  · obtain ⟨j1,j2,j3,j4,⟨g2,j5,j6⟩,⟨g3,j7,j8⟩,q,d,g,j9,j10,j11⟩:=hj
    have:=f.size
    exact ⟨j1.then f,by omega,j3.fr0 f,j4.fr0 f,⟨g2,j5.fr0 f,j6⟩,⟨g3,j7.fr0 f,j8⟩,q,d,g,j9.fr0 f,j10,j11.fr0 f⟩
  · obtain ⟨j1,j2,j3,j4,⟨g2,j5,j6⟩,⟨g3,j7,j8⟩,qq,dd,g,j9,j10,j11⟩:=hj
    refine Xcu _ _ _ _ j3 ?_
    unfold Vp
    refine BegR.of j3 rfl fun w5 f5 hL5 s5=>⟨_,Xvs,New.intro fun w6 f6 hB6 s6=>?_⟩
    obtain ⟨k5,hk5⟩:∃ a,a=w5.heap.size:=⟨_,rfl⟩
    rw [← hk5] at hB6 ⊢
    have hB6':Blk w6 k5 16 (fun _=>.int .u8 0):=Blk.ext (n:=16) hB6 fun i hi=>by
      show Array.getD ⟨List.replicate 16 (.int .u8 0)⟩ i undef=_
      rw [Array.getD_eq_getD_getElem?,List.getElem?_toArray,List.getElem?_replicate,if_pos hi]; rfl
    have hbl:=QQ xs j
    have sl:∀ {K:Option Addr→Nat→Nat→Prop},K (some ⟨k5,0,none⟩) 16 16→∃ p l c,Pu Tryz.prog (Instr.sliceAt Xf4 (.pointer (some ⟨k5,0,none⟩)) none none none) (.slice p l c)∧K p l c:=fun h=>
      ⟨_,_,_,Xmc (n:=16) (s:=1) (kl:=.i64) (kh:=.i64) (lo:=none) (hi:=none) (by kernel_rfl) (by show (0:Int)≤0; omega) (by show (0:Int)≤((16:Nat):Int); omega) (by show ((16:Nat):Int)≤((16:Nat):Int); omega),h⟩
    refine sl ?_
    have nK:0<w.heap.size∨True:=.inr trivial
    have hq5:∀ a,q=some a→a.block∉[w3.heap.size+1]∨True:=fun _ _=>.inr trivial
    have hR6:Row w6 q ((X7 xs j).map vb):=by
      have e1:Row w5 q ((X7 xs j).map vb):=by
        rcases hR with h0 | ⟨bb,o,hq,hc0⟩
        · exact .inl h0
        · refine .inr ⟨bb,o,hq,fun i v hi=>?_⟩
          have hcell:=hc0 i v hi
          by_cases hbb:bb=w3.heap.size+1
          · exfalso
            subst hbb
            unfold LpAt at j3
            simp [World.cell?,j3] at hcell
          · exact f5.cell hcell (by simpa using hbb)
      exact e1.fr0 f6
    obtain ⟨w7,he7,f7,hB7,s7⟩:=Ef.copy (P:=Tryz.prog) (t:=Xg) (ty:=Y9) (by kernel_rfl) (dl:=16) (dc:=16) (o:=0) hB6' hR6 (d:=d) (m:=(X7 xs j).length) (by simp) (UZ _) (by omega)
    refine ⟨_,_,he7,sl ?_⟩
    have hR7:Row w7 (some ⟨k5,0,none⟩) ((VY (X7 xs j)).map vb):=by
      refine hB7.row 0 _ fun i v hi=>?_
      have hlt:=(List.getElem?_eq_some_iff.1 hi).1
      rw [List.length_map,XcM (by omega)] at hlt
      refine ⟨by omega,?_⟩
      unfold VY at hi
      rw [List.map_append] at hi
      unfold updN
      by_cases hil:i<(X7 xs j).length
      · rw [dif_pos ⟨by omega,by rw [List.length_take,List.length_map]; omega⟩]
        rw [List.getElem?_append_left (by rw [List.length_map]; exact hil)] at hi
        obtain ⟨h1,h2⟩:=List.getElem?_eq_some_iff.1 hi
        rw [← h2,List.getElem_take]
        congr 1; omega
      · rw [dif_neg (by rw [List.length_take,List.length_map]; omega)]
        rw [List.getElem?_append_right (by rw [List.length_map]; omega),List.map_replicate,List.getElem?_replicate] at hi
        split at hi
        · exact Option.some.inj hi
        · cases hi
    have h16:(VY (X7 xs j)).length=16:=XcM (by omega)
    refine Xoz hR7 h16.symm (Nat.le_refl 16) (fun hb=>absurd rfl hb) fun _ w8 f8=>⟨_,_,_,rfl,JX fun w9 g9 f9 hB9 s9=>Uw hB9 fun w10 f10 h10 s10=>?_⟩
    have f58:Fr [] w5 w8:=(f6.st f7 (by omega)).then f8
    have f510:Fr [] w5 w10:=(f58.then f9).st f10 (by have:=f58.size; omega)
    have ha3:a3≠w3.heap.size+1:=by omega
    have j9':=(j9.fr f5 (by simp; omega)).fr0 f510
    have j11':EO w10 qq j dd ((List.range j).map (QP xs)) w4.heap.size:=(j11.fr f5 (fun k hk=>by simp at hk; omega)).fr0 f510
    refine ⟨_,_,_,Ld.blk (by kernel_rfl) j9' (by omega) j10,_,_,h10.ld,?_⟩
    refine ⟨_,_,_,Ef.new (v:=.slice (some ⟨w10.heap.size,0,none⟩) 1 1) (cs:=(XI [Xp (VY (X7 xs j))]).toArray) (e:=X0) (by kernel_rfl) fun w11 f11 hB11 s11=>?_⟩
    have n5:=f5.size; have n510:=f510.size; have n11:=f11.size
    refine XuL (j11'.fr0 f11) (by omega) hB11.rowL rfl (by simp only [List.length_cons,List.length_nil]; omega) fun p' c' L w12 f12 hL12 hO12 z12=>?_
    have j9'':=(j9'.fr0 f11).fr f12 (fun hm=>by have:=hL12 _ hm; omega)
    refine Sto.blk (by kernel_rfl) j9'' (by omega) rfl rfl fun w13 f13 hB13 s13=>?_
    have f5_11:=f510.then f11
    have keep:∀ k,k<w4.heap.size→k≠w3.heap.size+1→k≠a3→True:=fun _ _ _ _=>trivial
    have hL13:LpAt w13 (w3.heap.size+1) _:=((hL5.fr0 f5_11).fr f12 (fun hm=>by have:=hL12 _ hm; omega)).fr f13 (by simp; omega)
    refine EndR.of hL13 none rfl fun w14 f14 hL14 s14=>hK w14 ⟨?_,by omega,hL14,?_,⟨g2,?_,j6⟩,⟨g3,?_,j8⟩,p',c',_,hB13.fr f14 (by simp; omega),by unfold upd; rw [if_pos rfl]; rfl,?_⟩
    · have e1:Fr [] w w5:=j1.trans f5 (fun x hx=>.inr (by simp at hx; omega))
      exact (((e1.then f5_11).trans f12 (fun x hx=>.inr (by have:=hL12 x hx; omega))).trans f13 (fun x hx=>.inr (by simp at hx; omega))).trans f14 (fun x hx=>.inr (by simp at hx; omega))
    · exact ((((j4.fr f5 (by simp)).fr0 f5_11).fr f12 (fun hm=>by have:=hL12 _ hm; omega)).fr f13 (by simp; omega)).fr f14 (by simp)
    · exact ((((j5.fr f5 (by simp; omega)).fr0 f5_11).fr f12 (fun hm=>by have:=hL12 _ hm; omega)).fr f13 (by simp; omega)).fr f14 (by simp; omega)
    · exact ((((j7.fr f5 (by simp; omega)).fr0 f5_11).fr f12 (fun hm=>by have:=hL12 _ hm; omega)).fr f13 (by simp; omega)).fr f14 (by simp; omega)
    · have e1:(List.range j).map (QP xs)++[Xp (VY (X7 xs j))]=(List.range (j+1)).map (QP xs):=by rw [List.range_succ,List.map_append]; rfl
      rw [e1] at hO12
      exact (hO12.fr f13 (fun k hk=>by simp at hk; omega)).fr f14 (fun k hk=>by simp at hk; omega)
  · obtain ⟨j1,j2,j3,j4,⟨g2,j5,j6⟩,⟨g3,j7,j8⟩,qq,dd,g,j9,j10,j11⟩:=hj
    refine ⟨_,j3,by simp [YL],fun w5 f5 s5=>?_⟩
    have hD5:DfAt w5 w3.heap.size:=j4.fr f5 (by simp)
    refine ⟨_,_,_,Ld.blk (by kernel_rfl) (j9.fr f5 (by simp; omega)) (by omega) j10,?_⟩
    obtain ⟨w6,hT,f6,s6⟩:=Tk.of (P:=Tryz.prog) hD5
    refine ⟨w6,hT,?_⟩
    subst hje
    have e1:(List.range (Yc l)).map (QP xs)=XG xs:=by unfold XG; rw [hl]
    rw [e1] at j11
    exact h qq dd w6 ((j1.trans f5 (fun x hx=>.inr (by simp at hx; omega))).trans f6 (fun x hx=>.inr (by simp at hx; omega))) (((j11.fr f5 (fun k hk=>by simp at hk; omega)).fr f6 (fun k hk=>by simp at hk; omega)).mono (by omega))
end
end Go.Sh
end

section
namespace Go.Sh
open Go Go.Fw Go.Proofs
set_option maxRecDepth 100000
set_option linter.unusedVariables false
def RowEs (w:World) (p:Option Addr) (ess:List (List Nat)):Prop:=∃ vs:List Value,Row w p vs∧vs.length=ess.length∧∀ (j:Nat) (es:List Nat),ess[j]?=some es→∃ q d,vs[j]?=some (.slice q es.length d)∧Row w q (XI es)
section
variable {w:World} {b:Nat} {K:VWP}
theorem RowEs.fr0 {w':World} {p:Option Addr} {ess:List (List Nat)} (h:RowEs w p ess) (f:Fr [] w w'):RowEs w' p ess:=by
  obtain ⟨vs,h1,h2,h3⟩:=h
  exact ⟨vs,h1.fr0 f,h2,fun j es hj=>by obtain ⟨q,d,a,b⟩:=h3 j es hj; exact ⟨q,d,a,b.fr0 f⟩⟩
theorem RowEs.of3 {p q1 q2 q3:Option Addr} {d1 d2 d3:Nat} {e1 e2 e3:List Nat} (h:Row w p [.slice q1 e1.length d1,.slice q2 e2.length d2,.slice q3 e3.length d3]) (h1:Row w q1 (XI e1)) (h2:Row w q2 (XI e2)) (h3:Row w q3 (XI e3)):RowEs w p [e1,e2,e3]:=
  ⟨_,h,rfl,fun j es hj=>by
    match j,hj with
    | 0, hj => obtain rfl : e1 = es := by simpa using hj
               exact ⟨_,_,rfl,h1⟩
    | 1, hj => obtain rfl : e2 = es := by simpa using hj
               exact ⟨_,_,rfl,h2⟩
    | 2, hj => obtain rfl : e3 = es := by simpa using hj
               exact ⟨_,_,rfl,h3⟩⟩
theorem Xwr {p:Option Addr} {ess:List (List Nat)} (h:RowEs w p ess) {l c i:Nat} (hl:l=ess.length) (hi:i<l) :
    ∃ a q d es,ess[i]?=some es∧IxA Tryz.prog Xam (.slice p l c) (.int .i64 (i:Int)) a∧w.cell? a=some (.slice q es.length d)∧Row w q (XI es):=by
  obtain ⟨vs,h1,h2,h3⟩:=h
  have hlt:i<ess.length:=by omega
  obtain ⟨q,d,hv,hr⟩:=h3 i _ (List.getElem?_eq_getElem hlt)
  obtain ⟨a,ha,hc⟩:=ixR (P:=Tryz.prog) (t:=Xam) (by kernel_rfl) h1 (len:=l) (cap:=c) (k:=.i64) (i:=(i:Int)) (by omega) (by omega) (by omega) (by rw [Int.toNat_natCast]; exact hv)
  exact ⟨a,q,d,_,List.getElem?_eq_getElem hlt,ha,hc,hr⟩
theorem Xvt {n:Nat} (hn:n≤1073741824) (h:∀ q c w',Fr [] w w'→EO w' q 0 c [] w.heap.size→K (.slice q 0 c) w'):Xa Tryz.prog UD #[.slice none 0 0,.int .i64 (n:Int)] w K:=by
  apply Ub
  unfold Zu
  refine Xc (fun h1=>by omega) fun _=>?_
  unfold Y8
  refine ⟨0,by unfold Pu; kernel_rfl,?_⟩
  have e0:IntKind.i64.wrap ((0:Int) - ((0:Nat):Int))=0:=rfl
  rw [e0,Int.sub_zero,Xe (by omega) (by omega)]
  refine Xc (fun h1=>?_) (fun h1=>h none 0 w (Fr.refl _ _) ⟨OwnN.nil 2 _,rfl,by simp [Xb]⟩)
  refine ⟨0,by unfold Pu; kernel_rfl,none,0,0,by unfold Pu; kernel_rfl,?_⟩
  obtain ⟨c',w',he,hge,hf,⟨f,hB⟩,hs⟩:=Ef.appendZN (P:=Tryz.prog) (t:=XV) (ti:=Y9) (ty:=XV) (s:=2) (by kernel_rfl) (by decide) (by kernel_rfl) (w:=w) (n:=n) (by omega) hn
  refine ⟨_,_,_,_,he,?_⟩
  refine ⟨_,_,_,VK (s:=2) (kl:=.i64) (kh:=.i64) (lo:=none) (hi:=some 0) (by kernel_rfl) (by simp) (by simp) (by simp),?_⟩
  have hc0:c'≠0:=by omega
  simp only [Option.getD]
  rw [V1 (by simpa using hc0)]
  exact h _ c' w' hf ⟨⟨by simp [XI],.inr ⟨_,0,c' * 2,f,rfl,hB,by omega,by omega,by simp [XI]⟩⟩,rfl,by simp [Xb]⟩
theorem XsU (rs:List (List Nat)) {i:Nat} {r:List Nat} (h:rs[i]?=some r):(rs.take (i+1)).flatten=(rs.take i).flatten++r:=by
  rw [List.take_add_one,h,List.flatten_append]; simp
theorem Xws (rs:List (List Nat)) (i:Nat):(rs.take i).flatten.length≤rs.flatten.length:=by
  have h:rs.flatten=(rs.take i).flatten++(rs.drop i).flatten:=by rw [← List.flatten_append,List.take_append_drop]
  rw [h,List.length_append]; omega
theorem XsV {p:Option Addr} {l c:Nat} {ess:List (List Nat)} (hR:RowEs w p ess) (hl:l=ess.length) (hb:ess.flatten.length≤1000000000) (hl2:l≤1000000000)
    (h:∀ q d w',Fr [] w w'→EO w' q ess.flatten.length d ess.flatten w.heap.size→K (.slice q ess.flatten.length d) w'):Xa Tryz.prog Ul #[.slice p l c] w K:=by
  apply JR
  unfold Zg
  refine LoopS.ind (fun k us w'=>w'=w∧∃ i:Nat,i+k=l∧us=[.slice p l c,.slice none 0 0,.int .i64 ((ess.take i).flatten.length:Int),.slice p l c,.int .i64 (l:Int),.int .i64 (i:Int)]) l ⟨rfl,0,by omega,rfl⟩ ?_
  rintro k us r w1 I μ hgo ⟨rfl,i,hi,rfl⟩
  refine ⟨_,_,_,_,_,_,_,_,_,_,_,_,rfl,Xc (fun h1=>?_) (fun h1=>?_)⟩
  · obtain ⟨a,q,d,es,hes,ha,hca,hq⟩:=Xwr hR (c:=c) hl (i:=i) (by omega)
    refine ⟨a,ha,_,_,_,Ld.cell (by kernel_rfl) hca,?_⟩
    have e:=congrArg List.length (XsU ess hes)
    rw [List.length_append] at e
    have:=Xws ess (i+1)
    rw [Xe (n:=((ess.take i).flatten.length:Int)+_) (by omega) (by omega)]
    refine Xc (fun h2=>by omega) fun _=>?_
    rw [Xe (by omega) (by omega)]
    refine hgo _ _ _ (k - 1) (by omega) ⟨rfl,i+1,by omega,?_⟩
    rw [e]; rfl
  · have hil:i=l:=by omega
    subst hil
    rw [List.take_of_length_le (by omega)]
    unfold YV
    refine Xvt (by omega) fun q d w2 f2 hO2=>⟨_,_,_,rfl,?_⟩
    refine LoopS.ind (fun k us w'=>∃ (j:Nat) (q:Option Addr) (d:Nat),j+k=i∧us=[.slice none 0 0,.slice q (ess.take j).flatten.length d,.slice p i c,.int .i64 (i:Int),.int .i64 (j:Int)]∧Fr [] w1 w'∧EO w' q (ess.take j).flatten.length d (ess.take j).flatten w1.heap.size) i
      ⟨0,q,d,by omega,rfl,f2,hO2⟩ ?_
    rintro k us r w3 I2 μ2 hgo2 ⟨j,q,d,hj,rfl,f3,hO3⟩
    refine ⟨_,_,_,_,_,_,_,_,_,_,_,rfl,Xc (fun h2=>?_) (fun h2=>?_)⟩
    · obtain ⟨a,q1,d1,es,hes,ha,hca,hq1⟩:=Xwr (hR.fr0 f3) (c:=c) hl (i:=j) (by omega)
      refine ⟨a,ha,_,_,_,Ld.cell (by kernel_rfl) hca,?_⟩
      have e:=XsU ess hes
      have e2:=congrArg List.length e
      rw [List.length_append] at e2
      have:=Xws ess (j+1)
      refine XuL hO3 f3.size hq1 rfl (by omega) fun p' c' L w4 f4 hL4 hO4 z4=>?_
      rw [Xe (by omega) (by omega)]
      refine hgo2 _ _ _ (k - 1) (by omega) ⟨j+1,p',c',by omega,by rw [e2]; rfl,f3.trans f4 (fun x hx=>.inr (hL4 x hx)),?_⟩
      rw [← e2,← e] at hO4
      exact hO4
    · have hjl:j=i:=by omega
      subst hjl
      rw [List.take_of_length_le (by omega)] at hO3 ⊢
      exact h q d w3 f3 hO3
def Xhh (n k:Nat):Nat:=n*8*18446744073709551616+k*8
theorem Xvu {n k:Nat} (hn:n<1000000000) (hk:k<1000000000):Xhh n k<2 ^ 128:=by unfold Xhh; omega
def XeZ (xs ys:List UInt8):List Nat:=XG xs++XG ys++[Xhh xs.length ys.length]
def Wx (H:Nat) (xs ys:List UInt8):List UInt8:=ZK (Z6 H 0 (XeZ xs ys))
theorem Vx (H:Nat) (xs ys:List UInt8):(Wx H xs ys).length=16:=by simp [Wx,ZK,Y7]
theorem Xwt {H:Nat} {m:Bool} {p1 p2:Option Addr} {l1 c1 l2 c2:Nat} {xs ys:List UInt8} (hH:HAt w b H m) (hx:Row w p1 (xs.map vb)) (hl1:l1=xs.length) (hc1:l1≤c1) (hb1:l1<1000000) (hy:Row w p2 (ys.map vb)) (hl2:l2=ys.length) (hc2:l2≤c2) (hb2:l2<1000000)
    (h:∀ q d w' m',Fr [b] w w'→HAt w' b H m'→OB w' q 16 d (Wx H xs ys) w.heap.size→K (.slice q 16 d) w') :
    Xa Tryz.prog XgL #[.pointer (some ⟨b,0,none⟩),.slice p1 l1 c1,.slice p2 l2 c2] w K:=by
  apply Xdr
  unfold XbE
  have hbl:=hH.lt
  have hlt:H<2 ^ 128:=by obtain ⟨_,_,q,_⟩:=hH; exact q
  refine Xlh hx hl1 hc1 hb1 fun q1 d1 w1 f1 hO1=>⟨_,_,_,rfl,?_⟩
  refine Xlh (hy.fr0 f1) hl2 hc2 hb2 fun q2 d2 w2 f2 hO2=>⟨_,_,_,rfl,?_⟩
  refine Xrz (by omega) (by omega) fun w3 f3=>⟨_,_,rfl,?_⟩
  obtain ⟨e3,he3⟩:∃ e,e=l1*8*18446744073709551616+l2*8:=⟨_,rfl⟩
  rw [← he3]
  have he3l:e3=Xhh xs.length ys.length:=by rw [he3,hl1,hl2]; rfl
  refine ⟨_,_,_,Ef.new (v:=.slice (some ⟨w3.heap.size,0,none⟩) 1 1) (cs:=(XI [e3]).toArray) (e:=X0) (by kernel_rfl) fun w4 f4 hB4 s4=>?_⟩
  have hn1:=hO1.2.1; have hn2:=hO2.2.1
  refine ⟨_,_,_,Ef.new (v:=.slice (some ⟨w4.heap.size,0,none⟩) 3 3) (cs:=([.slice q1 (Yc l1) d1,.slice q2 (Yc l2) d2,.slice (some ⟨w3.heap.size,0,none⟩) 1 1]:List Value).toArray) (e:=XV) (by kernel_rfl) fun w5 f5 hB5 s5=>?_⟩
  have f35:=f4.then f5
  have f25:=f3.then f35
  have hrow:=hB5.rowL
  rw [hn1,hn2] at hrow
  have hR5:RowEs w5 (some ⟨w4.heap.size,0,none⟩) [XG xs,XG ys,[e3]]:=RowEs.of3 hrow ((hO1.fr0 (f2.then f25)).row) ((hO2.fr0 f25).row) ((hB4.rowL).fr0 f5)
  have hlen:[XG xs,XG ys,[e3]].flatten.length=Yc l1+Yc l2+1:=by simp [Xgl,hl1,hl2]; omega
  have hbk:Yc l1+Yc l2+1<1000000:=by unfold Yc; omega
  refine XsV hR5 rfl (by rw [hlen]; omega) (by omega) fun q6 d6 w6 f6 hO6=>⟨_,_,_,rfl,?_⟩
  have f05:=(f1.then f2).then f25
  have f06:=f05.then f6
  have n5:=f05.size
  have efl:[XG xs,XG ys,[e3]].flatten=XeZ xs ys:=by simp [XeZ,he3l]
  have hall:∀ x∈[XG xs,XG ys,[e3]].flatten,x<2 ^ 128:=by
    intro x hx
    rw [efl] at hx
    unfold XeZ at hx
    rcases List.mem_append.1 hx with hx | hx
    · rcases List.mem_append.1 hx with hx | hx
      · exact Xjf xs x hx
      · exact Xjf ys x hx
    · simp at hx; subst hx; exact Xvu (by omega) (by omega)
  refine Xvq (e:=0) (hH.fr0 f06) (by decide) hO6.row (fun k hk=>by have:=hO6.2.2 k hk; omega) rfl (by rw [hlen]; exact hbk) hall fun w7 m7 f7 hH7=>⟨_,_,rfl,?_⟩
  rw [efl]
  have hfl:Z6 H 0 (XeZ xs ys)<2 ^ 128:=Xhg hlt _ _ (by decide)
  refine XsS hfl fun q8 d8 w8 f8 hO8=>⟨_,_,_,rfl,?_⟩
  refine XwT (hO8.byS) (by kernel_rfl) fun p9 w9 f9 hR9 s9=>?_
  have efb:[ZK (Z6 H 0 (XeZ xs ys))].flatten=Wx H xs ys:=by simp [Wx]
  refine Wv (l:=1) hR9 rfl (by rw [efb,Vx]; omega) (by omega) fun q d w10 f10 hO10=>⟨_,_,_,rfl,?_⟩
  rw [efb,Vx] at hO10
  rw [efb,Vx]
  have f710:=(f8.then f9).then f10
  have n7:=f06.size; have n77:=f7.size
  have n79:=(f8.then f9).size
  exact h q d w10 m7 (((f06.mono (by simp)).trans f7 (fun x hx=>.inl hx)).trans f710 (by simp)) (hH7.fr0 f710) (hO10.mono (by omega))
end
end Go.Sh
end

section
namespace Go.Sh
open Go Go.Fw Go.Proofs
set_option maxRecDepth 100000
set_option linter.unusedVariables false
theorem XpD {w:World} {p q:Option Addr} {l c m d:Nat} {key from_:List UInt8} (hx:Row w p (key.map vb)) (hl:l=key.length) (hc:l≤c) (h16:key.length=16) (hy:Row w q (from_.map vb)) (hm:m=from_.length) (h16':from_.length=16) (n:Nat) (hn:n≤65535) {K:VWP}
    (h:∀ p' c' w',Fr [] w w'→OB w' p' n c' (Xa1 key from_ n) w.heap.size→K (.slice p' n c') w'):Xa Tryz.prog XjM #[.slice p l c,.slice q m d,.int .i64 (n:Int)] w K:=by
  apply Xfx
  unfold Xem
  refine Xqb fun pt w1 f1 hT=>⟨_,_,_,rfl,?_⟩
  refine mk0 fun p0 w2 f2 hO2 s2=>?_
  have n1:=f1.size; have n2:=f2.size
  have hT2:=hT.fr0 f2
  have f02:=f1.then f2
  refine LoopS.ind (fun k us w'=>∃ (i:Nat) (po:Option Addr) (co:Nat),i+k=5000∧(i=0∨16*(i - 1)<n)∧us=[.slice p l c,.slice q m d,.int .i64 (n:Int),.slice none 0 0,.slice pt 256 256,.slice po (16*i) co,.int .u64 (i:Int)]∧Fr [] w1 w'∧OB w' po (16*i) co (JO key from_ i) w1.heap.size) 5000
    ⟨0,p0,0,by omega,.inl rfl,rfl,f2,hO2⟩ ?_
  rintro k us r w3 I μ hgo ⟨i,po,co,hi,hin,rfl,f3,hO⟩
  refine ⟨_,_,_,_,_,_,_,_,_,_,_,_,_,_,_,_,_,rfl,Xc (fun h4=>?_) (fun h4=>?_)⟩
  · have f03:=f1.then f3
    have n3:=f3.size
    refine Xi8 (hy.fr0 f03) hm h16' i (by omega) fun q4 d4 w4 f4 hO4=>⟨_,_,_,rfl,?_⟩
    have f04:=f03.then f4
    have hal:=Un i h16'
    refine Xle (hx.fr0 f04) hl h16 hc hO4.row hal.symm hal ((hT.row.fr0 f3).fr0 f4) rfl fun p5 c5 w5 f5 hO5=>⟨_,_,_,rfl,?_⟩
    have n4:=f4.size; have n5:=f5.size
    have f35:=f4.then f5
    refine JW (hO.fr0 f35) (by omega) hO5.row (Jq _ _).symm (by omega) fun p6 c6 w6 f6 hO6=>?_
    rw [XC (by omega) (by omega)]
    refine hgo _ _ _ (k - 1) (by omega) ⟨i+1,p6,c6,by omega,.inr (by simpa using by omega),by rw [show 16*(i+1)=16*i+16 by omega]; rfl,(hO.fr0 f35).news (f3.then f35) f6 (Nat.le_refl _),?_⟩
    · rw [show 16*(i+1)=16*i+16 by omega]
      exact hO6
  · have hge:n≤16*i:=by omega
    have hcap:=hO.cap
    refine ⟨_,_,_,VK (s:=1) (kl:=.i64) (kh:=.i64) (lo:=none) (hi:=some (n:Int)) (by kernel_rfl) (by show (0:Int)≤0; omega) (by show (0:Int)≤(n:Int); omega) (by show (n:Int)≤(co:Int); omega),?_⟩
    have hp:=hO.part (a:=0) (b:=n) (by omega) hge
    rw [Xp9 key h16' hge,List.drop_zero] at hp
    exact h _ _ w3 (f1.then f3) (hp.mono n1)
theorem XsW {w:World} {p q t:Option Addr} {l c m d n e:Nat} {key from_ text:List UInt8} (hx:Row w p (key.map vb)) (hl:l=key.length) (hc:l≤c) (h16:key.length=16) (hy:Row w q (from_.map vb)) (hm:m=from_.length) (h16':from_.length=16)
    (ht:Row w t (text.map vb)) (hn:n=text.length) (hn2:n≤65535) {K:VWP} (h:∀ p' c' w',Fr [] w w'→OB w' p' n c' (V5 key from_ text) w.heap.size→K (.tuple #[.slice p' n c',.int .i64 0]) w') :
    Xa Tryz.prog XnB #[.slice p l c,.slice q m d,.slice t n e] w K:=by
  apply Xiu
  unfold Xit
  refine XF (fun h1=>by omega) fun _=>XF (fun h1=>by omega) fun _=>Xc (fun h1=>by omega) fun _=>?_
  unfold XcZ
  refine XpD hx hl hc h16 hy hm h16' n hn2 fun p1 c1 w1 f1 hO1=>⟨_,_,_,rfl,?_⟩
  refine LoopS.ind (fun k us w'=>∃ (i:Nat) (zs:List UInt8),i+k=n∧us=[.slice t n e,.slice none 0 0,.int .i64 0,.slice p1 n c1,.int .i64 (i:Int)]∧Fr [] w w'∧OB w' p1 n c1 zs w.heap.size∧(∀ j,j<i→fl zs j=fl (Xa1 key from_ n) j ^^^ fl text j)∧∀ j,i≤j→fl zs j=fl (Xa1 key from_ n) j) n
    ⟨0,_,by omega,rfl,f1,hO1,by omega,fun j _=>rfl⟩ ?_
  rintro k us r w2 I μ hgo ⟨i,zs,hi,rfl,f2,hO2,hz,hz2⟩
  refine ⟨_,_,_,_,_,_,_,_,_,_,_,rfl,Xc (fun h1=>?_) (fun h1=>?_)⟩
  · have hil:i<n:=by omega
    obtain ⟨a,ha,hca⟩:=hO2.get (k:=.i64) (i:=i) hil
    obtain ⟨b,hb,hcb⟩:=XD (t:=Xg) (by kernel_rfl) (ht.fr0 f2) (c:=e) hn hil (k:=.i64)
    refine ⟨fun w'=>w'.cell? a=some (vb (fl zs i)),Drw.intro fun w3 f3 s3=>?_⟩
    refine ⟨a,ha,b,hb,_,⟨f3.cell hca (by simp),fun w' hw'=>Ld.cell (by kernel_rfl) hw'⟩,_,Ld.cell (by kernel_rfl) (f3.cell hcb (by simp)),.inl rfl,?_⟩
    rw [UV]
    have hzl:=hO2.2.1
    refine (hO2.fr0 f3).sto hil fun w4 f4 hO4 s4=>?_
    rw [Xe (by omega) (by omega)]
    refine hgo _ _ _ (k - 1) (by omega) ⟨i+1,_,by omega,rfl,(hO2.fr0 f3).news (f2.then f3) f4 (Nat.le_refl _),hO4,fun j hj=>?_,fun j hj=>?_⟩
    · rw [ZJ (by omega)]
      by_cases hji:j=i
      · subst hji; rw [if_pos rfl,hz2 j (Nat.le_refl _)]; rfl
      · rw [if_neg hji]; exact hz j (by omega)
    · rw [ZJ (by omega),if_neg (by omega)]; exact hz2 j (by omega)
  · have hil:i=n:=by omega
    subst hil
    have ez:zs=V5 key from_ text:=by
      unfold V5
      rw [← hn]
      have hlen:(Xa1 key from_ i).length=text.length:=by rw [U0,hn]
      refine X3 (by rw [Yy hlen,← hn]; exact hO2.2.1.symm) fun j hj=>?_
      rw [Wu hlen (by have:=hO2.2.1; omega)]
      exact hz j (by have:=hO2.2.1; omega)
    rw [ez] at hO2
    exact h p1 c1 w2 f2 hO2
end Go.Sh
end

section
namespace Go.Sh
open Go Go.Fw Go.Proofs
set_option maxRecDepth 100000
set_option linter.unusedVariables false
def f06:List UInt8:=[1,2,3,4,5,6,7,8,9,10,11,12,255,255,255,255]
end Go.Sh
end

section
namespace Go.Sh
open Go Go.Fw Go.Proofs
set_option maxRecDepth 100000
set_option linter.unusedVariables false
section
variable {w:World} {p q t:Option Addr} {l c m d n e:Nat} {key from_ text:List UInt8}
theorem XsX (key from_ text:List UInt8):(V5 key from_ text).length=text.length:=by unfold V5; rw [Yy (U0 _ _ _)]
end
end Go.Sh
end

section
namespace Go.Sh
open Go Go.Fw Go.Proofs
set_option maxRecDepth 100000
set_option linter.unusedVariables false
def rg (lo hi:Nat):List Nat:=List.range' lo (hi - lo)
theorem Wy {lo hi k:Nat}:k∈rg lo hi↔lo≤k∧k<hi:=by unfold rg; rw [List.mem_range'_1]; omega
def Xwu (key:List UInt8):Nat:=Xp (UQ key (List.replicate 16 0))
def Ug (nonce:List UInt8):List UInt8:=nonce++[0,0,0,1]
def Yf (key nonce text:List UInt8):List UInt8:=V5 key (XH (Ug nonce) 1) text
def Y5 (key nonce text note:List UInt8):List UInt8:=QN (Wx (Xwu key) note text) (UQ key (Ug nonce))
theorem YQ (key nonce text:List UInt8):(Yf key nonce text).length=text.length:=XsX _ _ _
theorem Jr (key nonce text note:List UInt8):(Y5 key nonce text note).length=16:=by unfold Y5; rw [Yy (by rw [Vx,Jq]),Jq]
def BoxAt (w:World) (b:Nat) (key:List UInt8) (n D:Int) (lo hi:Nat):Prop:=∃ f c hh pk ck d m chi,Blk w b 4 f∧f 0=.slice pk 16 ck∧f 1=.pointer (some ⟨c,0,none⟩)∧f 2=.pointer (some ⟨hh,0,none⟩)∧f 3=.int .i64 n∧
  Row w pk (key.map vb)∧16≤ck∧key.length=16∧Cip w c key d lo chi∧HAt w hh (Xwu key) m∧0≤d∧d≤D∧chi≤hh∧(∀ k∈Xb pk,hh<k∧k<b)∧hh<b∧b<hi∧hi≤w.heap.size
section
variable {w:World} {b:Nat} {key nonce text note:List UInt8} {n D:Int} {lo hi:Nat} {K:VWP}
theorem BoxAt.fr {w':World} {L:List Nat} (h:BoxAt w b key n D lo hi) (hf:Fr L w w') (hl:∀ k∈L,k<lo∨hi≤k):BoxAt w' b key n D lo hi:=by
  obtain ⟨f,c,hh,pk,ck,d,m,chi,hB,e0,e1,e2,e3,hk,h16,hkl,hC,hH,d0,d1,o1,o2,o3,o4,o5⟩:=h
  have hcl:=hC.lt
  have hn:∀ x,lo≤x→x<hi→x∉L:=fun x h1 h2 h3=>by have:=hl x h3; omega
  refine ⟨f,c,hh,pk,ck,d,m,chi,hB.fr hf (hn b (by omega) o4),e0,e1,e2,e3,Row.cells_fr hk hf fun k hk=>hn k (by have:=o2 k hk; omega) (by have:=o2 k hk; omega),h16,hkl,hC.fr hf fun k hk=>?_,hH.fr hf (hn hh (by omega) (by omega)),d0,d1,o1,o2,o3,o4,Nat.le_trans o5 hf.size⟩
  have:=hl k hk; omega
theorem BoxAt.fr0 {w':World} (h:BoxAt w b key n D lo hi) (hf:Fr [] w w'):BoxAt w' b key n D lo hi:=h.fr hf (by simp)
theorem BoxAt.lohi (h:BoxAt w b key n D lo hi):lo≤b∧b<hi∧key.length=16∧hi≤w.heap.size:=by
  obtain ⟨f,c,hh,pk,ck,d,m,chi,hB,e0,e1,e2,e3,hk,h16,hkl,hC,hH,d0,d1,o1,o2,o3,o4,o5⟩:=h
  have hcl:=hC.lt
  exact ⟨by omega,o4,hkl,o5⟩
theorem BoxAt.mono {D':Int} (h:BoxAt w b key n D lo hi) (hd:D≤D'):BoxAt w b key n D' lo hi:=by
  obtain ⟨f,c,hh,pk,ck,d,m,chi,hB,e0,e1,e2,e3,hk,h16,hkl,hC,hH,d0,d1,o⟩:=h
  exact ⟨f,c,hh,pk,ck,d,m,chi,hB,e0,e1,e2,e3,hk,h16,hkl,hC,hH,d0,by omega,o⟩
theorem Xub {p:Option Addr} {l cap:Nat} (hx:Row w p (key.map vb)) (hl:l=key.length) (hcap:l≤cap) (hbad:l≠16→K (.tuple #[.pointer none,.int .i64 11]) w)
    (hok:l=16→∀ b w',Fr [] w w'→BoxAt w' b key 0 1 w.heap.size w'.heap.size→K (.tuple #[.pointer (some ⟨b,0,none⟩),.int .i64 0]) w'):Xa Tryz.prog Xsl #[.slice p l cap] w K:=by
  apply Xn7
  unfold Xp5
  by_cases h16:l=16
  · refine Xox hx hl (by omega) (by omega) fun c w1 f1 hC=>⟨_,_,rfl,Xz ?_⟩
    refine mkN (n:=16) (c:=16) (by omega) (by omega) fun p2 w2 f2 hO2 s2=>?_
    refine Xhf (hC.fr0 f2) (by omega) (by omega) hO2.row rfl (by simp) (fun k hk=>.inr (hO2.2.2 k hk)) fun p3 w3 f3 hC3 hO3=>⟨_,_,_,_,rfl,?_⟩
    have hcl:=hC.lt
    refine XrA hO3.row (by simp [Jq]) (by omega) rfl fun hh w4 f4 hH4 hhn=>⟨_,_,rfl,?_⟩
    have f02:=f1.then f2
    have f03:Fr [] w w3:=f02.trans f3 (fun x hx=>.inr (by simp at hx; omega))
    have f04:=f03.then f4
    have n1:=f1.size; have n2:=f2.size; have n3:=f3.size; have n4:=f4.size
    refine Jh (hx.fr0 f04) (by simpa using hl) (by omega) (UZ _) fun pk ck w5 f5 hO5 hn5=>⟨_,_,_,rfl,?_⟩
    have hO5:OB w5 pk l ck key w4.heap.size:=⟨hO5,hl,hn5⟩
    refine New.intro fun w6 f6 hB6 s6=>?_
    subst h16
    have hhl:=hH4.lt
    have n5:=f5.size
    refine hok rfl _ w6 ((f04.then f5).then f6) ⟨_,c,hh,pk,ck,_,_,_,hB6,rfl,rfl,rfl,rfl,(hO5.fr0 f6).row,hO5.cap,hl.symm,hC3.fr0 ((f4.then f5).then f6),hH4.fr0 (f5.then f6),by omega,by omega,by omega,fun k hk=>⟨?_,?_⟩,by omega,by omega,Nat.le_refl _⟩
    · have:=hn5 k hk; omega
    · exact hO5.lt k hk
  · exact XsG (by omega) ⟨_,_,rfl,X2 (hbad h16)⟩
def okG (n:Nat) (rs:List (List UInt8)):Prop:=n=12∧∀ r∈rs,r.length≤65535
theorem Xhi {p0 p:Option Addr} {l0 c0 l c:Nat} {rs:List (List UInt8)} (hR:RowB w p rs) (hl:l=rs.length) (hl2:l≤1000000) (hbad:¬ okG l0 rs→K (.int .i64 11) w) (hok:okG l0 rs→K (.int .i64 0) w) :
    Xa Tryz.prog Xo3 #[.slice p0 l0 c0,.slice p l c] w K:=by
  apply Xkb
  unfold XkW
  refine XF (fun h1=>hbad fun h2=>by have:=h2.1; omega) fun h1=>?_
  apply Ut
  unfold Z2
  apply Va
  unfold JK
  refine LoopS.ind (fun k us w'=>w'=w∧∃ i:Nat,i+k=l∧us=[.slice p l c,.func (.func XjN) #[] #[],.int .i64 0,.int .i64 (l:Int),.int .i64 (i:Int)]∧∀ j,j<i→(rs.getD j []).length≤65535) l ⟨rfl,0,by omega,rfl,by omega⟩ ?_
  rintro k us r w2 I μ hgo ⟨rfl,i,hi,rfl,hs⟩
  refine ⟨_,_,_,_,_,_,_,rfl,Xc (fun h3=>?_) (fun h3=>?_)⟩
  · have hil:i<l:=by omega
    obtain ⟨a,q,d,ha,hca,hq,_⟩:=XcF (t:=XA) (by kernel_rfl) hR (c:=c) hl hil (k:=.i64)
    refine ⟨a,ha,_,_,_,Ld.cell (by kernel_rfl) hca,?_⟩
    refine Js ?_
    apply XfG
    unfold XeB
    refine ⟨_,rfl,?_⟩
    refine Xc (fun h4=>?_) (fun h4=>?_)
    · refine ⟨_,rfl,?_⟩
      have e1:decide ((i:Int)≥0)=true:=by simp
      rw [e1]
      refine ⟨_,rfl,X2 (hbad fun hh=>?_)⟩
      have:=hh.2 (rs.getD i []) (by rw [List.getD_eq_getElem?_getD,List.getElem?_eq_getElem (by omega)]; simp)
      omega
    · rw [Xe (by omega) (by omega)]
      refine hgo _ _ _ (k - 1) (by omega) ⟨rfl,i+1,by omega,rfl,fun j hj=>?_⟩
      by_cases hji:j=i
      · subst hji; omega
      · exact hs j (by omega)
  · refine ⟨_,rfl,?_⟩
    have e1:decide ((-1:Int)≥0)=false:=rfl
    rw [e1]
    refine ⟨_,rfl,Xz (hok ⟨by omega,fun r hr=>?_⟩)⟩
    obtain ⟨j,hj,rfl⟩:=List.getElem_of_mem hr
    have:=hs j (by omega)
    rw [List.getD_eq_getElem?_getD,List.getElem?_eq_getElem hj] at this
    simpa using this
theorem Xjg {w:World} {v1 v2:Value} {r1 r2:List UInt8} (hv:ByS w v1 r1) (hv2:ByS w v2 r2) {K:Option Addr→Nat→Nat→World→Prop} (hr:(Instr.buildSlice XA 2 #[(0,v1),(1,v2)]).run Tryz.prog w=.ok (.slice (some ⟨w.heap.size,0,none⟩) 2 2) (w.alloc (.cells ([v1,v2]:List Value).toArray Xg)))
    (h:∀ p w',Fr [] w w'→RowB w' p [r1,r2]→w'.heap.size=w.heap.size+1→K p 2 2 w'):∃ p l c w',Ef Tryz.prog (Instr.buildSlice XA 2 #[(0,v1),(1,v2)]) w (.slice p l c) w'∧K p l c w':=
  ⟨_,_,_,Ef.new hr fun w' f hB s=>h _ w' f (RowB.of2 hB.rowL (hv.fr0 f) (hv2.fr0 f)) s⟩
theorem Xqi {p:Option Addr} {l c:Nat} (hx:Row w p (nonce.map vb)) (hl:l=nonce.length) (hc:l≤c) (hlb:l≤1000000) (h:∀ q d w',Fr [] w w'→OB w' q (l+4) d (Ug nonce) w.heap.size→K (.slice q (l+4) d) w') :
    Xa Tryz.prog Xo7 #[.slice p l c] w K:=by
  apply Xkd
  unfold XkX
  refine Xi5 (n:=1) (size:=4) (by omega) (by omega) fun q d w1 f1 hO1=>⟨_,_,_,_,rfl,?_⟩
  refine Xjg (byS (hx.fr0 f1) hl hc) hO1.byS (by kernel_rfl) fun p2 w2 f2 hR2 s2=>?_
  have efl:[nonce,X6 1 4].flatten=Ug nonce:=by
    have:X6 1 4=[0,0,0,1]:=by decide
    simp [Ug,this]
  have hbl:(Ug nonce).length=l+4:=by simp [Ug,hl]
  refine Wv (l:=2) hR2 rfl (by rw [efl,hbl]; omega) (by omega) fun q3 d3 w3 f3 hO3=>⟨_,_,_,rfl,?_⟩
  rw [efl,hbl] at hO3
  rw [efl,hbl]
  have f02:=f1.then f2
  exact h q3 d3 w3 (f02.then f3) (hO3.mono f02.size)
theorem Xqj (hX:BoxAt w b key n D lo hi) {p q:Option Addr} {l c m d:Nat} (hx:Row w p (nonce.map vb)) (hl:l=nonce.length) (hc:l≤c) (h12:l=12) (hy:Row w q (text.map vb)) (hm:m=text.length) (hd:m≤d) (hm2:m≤65535)
    (h:∀ q d w',Fr [] w w'→OB w' q m d (Yf key nonce text) w.heap.size→K (.slice q m d) w'):Xa Tryz.prog XjK #[.pointer (some ⟨b,0,none⟩),.slice p l c,.slice q m d] w K:=by
  apply XfE
  unfold Xez
  subst h12
  refine Xqi hx hl hc (by omega) fun q1 d1 w1 f1 hO1=>⟨_,_,_,rfl,?_⟩
  refine XsI hO1.row hO1.2.1 hO1.cap (by rw [← hO1.2.1]) fun q2 d2 w2 f2 hO2=>⟨_,_,_,_,rfl,?_⟩
  have f02:=f1.then f2
  obtain ⟨f,c,hh,pk,ck,d,m,chi,hB,e0,e1,e2,e3,hk,h16,hkl,hC,hH,d0,d1,o1,o2,o3,o4⟩:=hX.fr0 f02
  refine ⟨_,rfl,_,_,_,Ld.blk (by kernel_rfl) hB (by omega) e0,?_⟩
  refine Xwd hk hkl.symm h16 hkl hO2.row hO2.2.1 hO2.cap (by rw [← hO2.2.1]) (hy.fr0 f02) hm hm2 fun q3 d3 w3 f3 hO3=>⟨_,_,_,_,rfl,?_⟩
  exact h q3 d3 w3 (f02.then f3) (hO3.mono f02.size)
end
end Go.Sh
end

section
namespace Go.Sh
open Go Go.Fw Go.Proofs
set_option maxRecDepth 100000
set_option linter.unusedVariables false
theorem Xw7 (a b:UInt8):(a ||| b=0)↔(a=0∧b=0):=by
  constructor
  · intro h
    have h1:=congrArg UInt8.toNat h
    rw [UInt8.toNat_or] at h1
    have h2:=Nat.or_eq_zero_iff.1 h1
    exact ⟨UInt8.toNat_inj.1 h2.1,UInt8.toNat_inj.1 h2.2⟩
  · rintro ⟨rfl,rfl⟩; rfl
theorem XwX (a b:UInt8):(a ^^^ b=0)↔a=b:=by
  constructor
  · intro h
    have h1:(a ^^^ b) ^^^ b=0 ^^^ b:=by rw [h]
    rw [UInt8.xor_assoc,UInt8.xor_self,UInt8.xor_zero,UInt8.zero_xor] at h1
    exact h1
  · rintro rfl; simp
theorem Xvv {w:World} {p q:Option Addr} {l c m d:Nat} {xs ys:List UInt8} (hx:Row w p (xs.map vb)) (hl:l=xs.length) (hy:Row w q (ys.map vb)) (hm:m=ys.length) (h63:l<1000000000) {K:VWP}
    (h:∀ w',Fr [] w w'→K (.bool (decide (xs=ys))) w'):Xa Tryz.prog XlB #[.slice p l c,.slice q m d] w K:=by
  apply XgW
  unfold Xf7
  refine XF (fun h1=>?_) (fun h1=>?_)
  · have:decide (xs=ys)=false:=by simp; rintro rfl; omega
    rw [this] at h
    exact h w (Fr.refl _ _)
  · have hlm:l=m:=by omega
    refine LoopS.ind (fun k us w'=>∃ (i:Nat) (acc:UInt8),i+k=l∧us=[.slice p l c,.slice q m d,.bool false,.int .u8 (acc.toNat:Int),.int .i64 (l:Int),.int .i64 (i:Int)]∧Fr [] w w'∧(acc=0↔∀ j,j<i→fl xs j=fl ys j)) l ⟨0,0,by omega,rfl,Fr.refl _ _,by simp⟩ ?_
    rintro k us r w2 I μ hgo ⟨i,acc,hi,rfl,f2,hs⟩
    refine ⟨_,_,_,_,_,_,_,_,_,_,rfl,Xc (fun h2=>?_) (fun h2=>?_)⟩
    · obtain ⟨a,ha,hca⟩:=XD (t:=Xg) (by kernel_rfl) (hx.fr0 f2) (c:=c) hl (i:=i) (by omega) (k:=.i64)
      obtain ⟨b,hb,hcb⟩:=XD (t:=Xg) (by kernel_rfl) (hy.fr0 f2) (c:=d) hm (i:=i) (by omega) (k:=.i64)
      refine ⟨fun w'=>w'.cell? a=some (vb (xs.getD i 0)),Drw.intro fun w3 f3 s3=>?_⟩
      have hca3:=f3.cell hca (by simp)
      have hcb3:=f3.cell hcb (by simp)
      refine ⟨a,ha,b,hb,_,⟨hca3,fun w' hw'=>Ld.cell (by kernel_rfl) hw'⟩,_,Ld.cell (by kernel_rfl) hcb3,.inl rfl,?_⟩
      rw [UV,or8,Xe (by omega) (by omega)]
      refine hgo _ _ _ (k - 1) (by omega) ⟨i+1,_,by omega,rfl,f2.then f3,?_⟩
      rw [Xw7,XwX,hs]
      constructor
      · rintro ⟨h3,h4⟩ j hj
        by_cases hji:j=i
        · subst hji; exact h4
        · exact h3 j (by omega)
      · intro h3
        exact ⟨fun j hj=>h3 j (by omega),h3 i (by omega)⟩
    · have hil:i=l:=by omega
      subst hil
      have e:((acc.toNat:Int) == 0)=decide (xs=ys):=by
        have e1:((acc.toNat:Int) == 0)=decide (acc=0):=by
          by_cases h0:acc=0
          · subst h0; rfl
          · have:acc.toNat≠0:=fun h=>h0 (UInt8.toNat_inj.1 h)
            simp [h0]; omega
        rw [e1]
        apply decide_eq_decide.2
        rw [hs]
        exact ⟨fun h3=>X3 (by omega) fun j hj=>h3 j (by omega),fun h3 j hj=>by rw [h3]⟩
      rw [e]
      exact h w2 f2
instance (n:Nat) (rs:List (List UInt8)):Decidable (okG n rs):=by unfold okG; exact inferInstance
def sp (lo hi:Nat) (p:Option Addr) (xs:List UInt8):Prop:=xs=[]∨∀ k∈Xb p,k<lo∨hi≤k
theorem sp.keep {w w':World} {lo hi:Nat} {p:Option Addr} {xs:List UInt8} {L:List Nat} (h:sp lo hi p xs) (hR:Row w p (xs.map vb)) (f:Fr L w w') (hL:∀ k∈L,lo≤k∧k<hi):Row w' p (xs.map vb):=by
  rcases h with rfl | h
  · exact .inl rfl
  · exact Row.cells_fr hR f fun k hk hm=>by have:=h k hk; have:=hL k hm; omega
theorem sp.take {lo hi n:Nat} {p q:Option Addr} {xs:List UInt8} (h:sp lo hi p xs) (hs:∀ z∈Xb q,z∈Xb p):sp lo hi q (xs.take n):=by
  rcases h with rfl | h
  · exact .inl (by simp)
  · exact .inr fun k hk=>h k (hs k hk)
theorem sp.of {w:World} {lo hi:Nat} {p:Option Addr} {xs:List UInt8} (hR:Row w p (xs.map vb)) (hlo:w.heap.size≤lo):sp lo hi p xs:=by
  by_cases h0:xs=[]
  · exact .inl h0
  · exact .inr fun k hk=>.inl (Nat.lt_of_lt_of_le (Row.blk_lt hR (List.length_pos_iff.2 h0) k hk) hlo)
def tgE (nonce text note:List UInt8):Int:=if okG nonce.length [text,note] then 0 else 11
def tgL (key nonce text note:List UInt8):List UInt8:=if okG nonce.length [text,note] then Y5 key nonce text note else []
def slL (key nonce text note:List UInt8):List UInt8:=if okG nonce.length [text,note] then Yf key nonce text++Y5 key nonce (Yf key nonce text) note else []
def opE (key nonce sealed note:List UInt8):Int:=
  if okG nonce.length [sealed.take (sealed.length - 16),note] then (if sealed.length<16 then 12 else if Y5 key nonce (sealed.take (sealed.length - 16)) note=sealed.drop (sealed.length - 16) then 0 else 13) else 11
def opL (key nonce sealed note:List UInt8):List UInt8:=if opE key nonce sealed note=0 then Yf key nonce (sealed.take (sealed.length - 16)) else []
theorem JN {n:Nat} {xs ys:List UInt8}:okG n [xs,ys]↔(n=12∧xs.length≤65535∧ys.length≤65535):=by simp [okG]
section
variable {w:World} {b:Nat} {key nonce text note:List UInt8} {n D:Int} {lo hi:Nat} {K:VWP}
theorem XsY (hX:BoxAt w b key n D lo hi) (hD:D<1000000000) {p1 p2 p3:Option Addr} {l1 c1 l2 c2 l3 c3:Nat} (h1:Row w p1 (nonce.map vb)) (hl1:l1=nonce.length) (hc1:l1≤c1) (hb1:l1≤1000000)
    (h2:Row w p2 (text.map vb)) (hl2:l2=text.length) (hc2:l2≤c2) (hs2:sp lo hi p2 text) (h3:Row w p3 (note.map vb)) (hl3:l3=note.length) (hc3:l3≤c3) (hs3:sp lo hi p3 note)
    (h:∀ q d w',Fr (rg lo hi) w w'→BoxAt w' b key n (D+1) lo hi→OB w' q (tgL key nonce text note).length d (tgL key nonce text note) w.heap.size→K (.tuple #[.slice q (tgL key nonce text note).length d,.int .i64 (tgE nonce text note)]) w') :
    Xa Tryz.prog Xlz #[.pointer (some ⟨b,0,none⟩),.slice p1 l1 c1,.slice p2 l2 c2,.slice p3 l3 c3] w K:=by
  apply Xg3
  unfold Xgc
  refine Xjg (byS h2 hl2 hc2) (byS h3 hl3 hc3) (by kernel_rfl) fun p0 w1 f1 hR1 s1=>?_
  refine Xhi (l:=2) hR1 rfl (by omega) (fun hno=>?_) fun hok=>?_
  · have e1:tgE nonce text note=11:=by unfold tgE; rw [if_neg (by rw [← hl1]; exact hno)]
    have e2:tgL key nonce text note=[]:=by unfold tgL; rw [if_neg (by rw [← hl1]; exact hno)]
    rw [e1,e2] at h
    exact ⟨_,rfl,X2 (h none 0 w1 (f1.mono (by simp)) ((hX.fr0 f1).mono (by omega)) (OB.nil _ _))⟩
  · have e1:tgE nonce text note=0:=by unfold tgE; rw [if_pos (by rw [← hl1]; exact hok)]
    have e2:tgL key nonce text note=Y5 key nonce text note:=by unfold tgL; rw [if_pos (by rw [← hl1]; exact hok)]
    rw [e1,e2,Jr] at h
    rw [JN] at hok
    refine ⟨_,rfl,Xz ⟨fun w'=>Fr [] w1 w',Drw.intro fun w2 f2 s2=>?_⟩⟩
    obtain ⟨f,c,hh,pk,ck,d,m,chi,hB,e0,ea,eb,ec,hk,h16,hkl,hC,hH,d0,d1,o1,o2,o3,o4,o5⟩:=hX.fr0 f1
    have hcl:=hC.lt
    refine ⟨_,rfl,_,⟨f2,fun w' hw'=>Ld.blk (by kernel_rfl) (hB.fr0 hw') (by show (0+1:Nat)<4; omega) ea⟩,?_⟩
    have f02:=f1.then f2
    refine Xqi (h1.fr0 f02) hl1 hc1 hb1 fun q3 d3 w3 f3 hO3=>⟨_,_,_,rfl,.inr (f2.then f3),?_⟩
    have f13:=f2.then f3
    have f03:=f1.then f13
    have n0:=f1.size; have n3:=f02.size
    have hlen:(Ug nonce).length=16:=by simp [Ug]; omega
    refine Xhf (hC.fr0 f13) d0 (by omega) hO3.row hO3.2.1 hlen (fun k hk=>.inr (by have:=hO3.2.2 k hk; omega)) fun q4 w4 f4 hC4 hO4=>⟨_,_,_,_,rfl,?_⟩
    have hB4:=(hB.fr0 f13).fr f4 (by simp; omega)
    refine ⟨_,rfl,_,Ld.blk (by kernel_rfl) hB4 (by show (0+2:Nat)<4; omega) eb,?_⟩
    have n4:=f03.size
    have sep:∀ {p:Option Addr} {xs:List UInt8},Row w p (xs.map vb)→sp lo hi p xs→Row w4 p (xs.map vb):=fun {p xs} hr hs=>hs.keep (hr.fr0 f03) f4 fun k hk=>by simp at hk; omega
    refine Xwt ((hH.fr0 f13).fr f4 (by simp; omega)) (sep h3 hs3) hl3 hc3 (by omega) (sep h2 hs2) hl2 hc2 (by omega) fun q5 d5 w5 m5 f5 hH5 hO5=>⟨_,_,_,rfl,?_⟩
    have n5:=f4.size
    refine XuA hO5.row hO5.2.1 (Row.fr_lt hO4.row f5 fun hm=>by have:=hO4.2.2 _ hm; omega) hO4.2.1 (by rw [Vx,Jq]) (by omega) fun q6 d6 w6 f6 hO6=>⟨_,_,_,_,rfl,?_⟩
    have hf:Fr (rg lo hi) w w6:=(((f03.mono (by simp)).trans f4 (fun x hx=>.inl (by simp at hx; subst hx; exact Wy.2 ⟨hcl.1,by omega⟩))).trans f5 (fun x hx=>.inl (by simp at hx; subst hx; exact Wy.2 ⟨by omega,by omega⟩))).then f6
    have n6:=f5.size
    refine h q6 d6 w6 hf ?_ (hO6.mono (by omega))
    refine ⟨f,c,hh,pk,ck,d+1,m5,chi,(hB4.fr f5 (by simp; omega)).fr0 f6,e0,ea,eb,ec,?_,h16,hkl,((hC4.fr f5 (fun k hk=>by simp at hk; omega))).fr0 f6,hH5.fr0 f6,by omega,by omega,o1,o2,o3,o4,Nat.le_trans o5 ?_⟩
    · exact (Row.fr_lt (Row.fr_lt (hk.fr0 f13) f4 fun hm=>by have:=o2 _ hm; omega) f5 fun hm=>by have:=o2 _ hm; omega).fr0 f6
    · have:=f6.size; have:=f13.size; omega
theorem Xvw (hX:BoxAt w b key n D lo hi) (hD:D<1000000000) {p1 p2 p3:Option Addr} {l1 c1 l2 c2 l3 c3:Nat} (h1:Row w p1 (nonce.map vb)) (hl1:l1=nonce.length) (hc1:l1≤c1) (hb1:l1≤1000000)
    (h2:Row w p2 (text.map vb)) (hl2:l2=text.length) (hc2:l2≤c2) (h3:Row w p3 (note.map vb)) (hl3:l3=note.length) (hc3:l3≤c3) (hs3:sp lo hi p3 note)
    (h:∀ q d w',Fr (rg lo hi) w w'→BoxAt w' b key n (D+1) lo hi→OB w' q (slL key nonce text note).length d (slL key nonce text note) w.heap.size→K (.tuple #[.slice q (slL key nonce text note).length d,.int .i64 (tgE nonce text note)]) w') :
    Xa Tryz.prog XjF #[.pointer (some ⟨b,0,none⟩),.slice p1 l1 c1,.slice p2 l2 c2,.slice p3 l3 c3] w K:=by
  apply XfD
  unfold Xey
  refine Xjg (byS h2 hl2 hc2) (byS h3 hl3 hc3) (by kernel_rfl) fun p0 w1 f1 hR1 s1=>?_
  refine Xhi (l:=2) hR1 rfl (by omega) (fun hno=>?_) fun hok=>?_
  · have e1:tgE nonce text note=11:=by unfold tgE; rw [if_neg (by rw [← hl1]; exact hno)]
    have e2:slL key nonce text note=[]:=by unfold slL; rw [if_neg (by rw [← hl1]; exact hno)]
    rw [e1,e2] at h
    exact ⟨_,rfl,X2 (h none 0 w1 (f1.mono (by simp)) ((hX.fr0 f1).mono (by omega)) (OB.nil _ _))⟩
  · have e1:tgE nonce text note=0:=by unfold tgE; rw [if_pos (by rw [← hl1]; exact hok)]
    have e2:slL key nonce text note=Yf key nonce text++Y5 key nonce (Yf key nonce text) note:=by unfold slL; rw [if_pos (by rw [← hl1]; exact hok)]
    rw [e1,e2] at h
    rw [JN] at hok
    refine ⟨_,rfl,Xz ?_⟩
    have hlh:=hX.lohi
    have n1:=f1.size
    refine Xqj (hX.fr0 f1) (h1.fr0 f1) hl1 hc1 hok.1 (h2.fr0 f1) hl2 hc2 (by omega) fun q2 d2 w2 f2 hO2=>⟨_,_,_,rfl,?_⟩
    have f02:=f1.then f2
    have hgok:okG nonce.length [Yf key nonce text,note]:=by rw [JN,YQ]; omega
    have et:tgL key nonce (Yf key nonce text) note=Y5 key nonce (Yf key nonce text) note:=by unfold tgL; rw [if_pos hgok]
    refine XsY (hX.fr0 f02) hD (h1.fr0 f02) hl1 hc1 hb1 hO2.row hO2.2.1 hO2.cap (.inr fun k hk=>.inr (by have:=hO2.2.2 k hk; omega)) (h3.fr0 f02) hl3 hc3 hs3 fun q3 d3 w3 f3 hX3 hO3=>⟨_,_,_,_,rfl,?_⟩
    rw [et] at hO3 ⊢
    have hO23:OB w3 q2 l2 d2 (Yf key nonce text) w1.heap.size:=hO2.fr f3 fun k hk hm=>by have:=hO2.2.2 k hk; have:=Wy.1 hm; omega
    refine Xjg hO23.byS hO3.byS (by kernel_rfl) fun p4 w4 f4 hR4 s4=>?_
    have efl:[Yf key nonce text,Y5 key nonce (Yf key nonce text) note].flatten=Yf key nonce text++Y5 key nonce (Yf key nonce text) note:=by simp
    refine Wv (l:=2) hR4 rfl (by rw [efl,List.length_append,YQ,Jr]; omega) (by omega) fun q5 d5 w5 f5 hO5=>⟨_,_,_,rfl,?_⟩
    rw [efl] at hO5 ⊢
    have f45:=f4.then f5
    have n2:=f02.size; have n3:=f3.size; have n4:=f4.size
    exact h q5 d5 w5 (((f02.mono (by simp)).trans f3 (fun x hx=>.inl hx)).then f45) (hX3.fr0 f45) (hO5.mono (by omega))
end
end Go.Sh
end
