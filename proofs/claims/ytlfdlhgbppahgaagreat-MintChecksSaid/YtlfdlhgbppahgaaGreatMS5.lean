/- A part of a proof of a given law of this program: lemmas, printed forms of its functions, contracts. It has no conditions of its own. -/
import Derived.Test.YtlfdlhgbppahgaaGreatProg
import Derived.Test.YtlfdlhgbppahgaaGreatMW0

set_option maxHeartbeats 16000000
section
namespace Go.Sh
open Go Go.Fw Go.Proofs
set_option maxRecDepth 100000
set_option linter.unusedVariables false
def ZE (aF:Addr) (aM:Bool) (aG:Option Addr) (a:Addr) (c:Bool) (w:World) (Q:VWP):Prop:=
 ∃ y,Ld Tryz.prog 3 (.pointer (some (a.add 0))) w (.int .i64 y)∧
 cond (y == 0)
 (∃ ao,aG=some ao∧
 Xa Tryz.prog 12 #[.pointer (some (ao.add 0))] w fun aH b=>
 ∃ ap,aH=.bool ap∧
 cond (!ap)
 (∃ z,Ld Tryz.prog 4 (.pointer (some (a.add 1))) b (.bool z)∧
 cond (!z)
 (∃ ar A au,Ld Tryz.prog 22 (.pointer (some (a.add 3))) b (.slice ar A au)∧
 cond (((A:Nat):Int) == 0)
 (∃ B,Ld Tryz.prog 3 (.pointer (some (a.add 4))) b (.int .i64 B)∧
 Q (.bool (B == 0)) b)
 (Q (.bool false) b))
 (cond c
 (∃ C d D,Ld Tryz.prog 22 (.pointer (some (a.add 3))) b (.slice C d D)∧
 cond (((d:Nat):Int) == 0)
 (∃ e,Ld Tryz.prog 3 (.pointer (some (a.add 4))) b (.int .i64 e)∧
 Q (.bool (e == 0)) b)
 (Q (.bool false) b))
 (Q (.bool false) b)))
 (cond c
 (∃ f,Ld Tryz.prog 4 (.pointer (some (a.add 1))) b (.bool f)∧
 cond (!f)
 (∃ E g F,Ld Tryz.prog 22 (.pointer (some (a.add 3))) b (.slice E g F)∧
 cond (((g:Nat):Int) == 0)
 (∃ i,Ld Tryz.prog 3 (.pointer (some (a.add 4))) b (.int .i64 i)∧
 Q (.bool (i == 0)) b)
 (Q (.bool false) b))
 (cond c
 (∃ G j H,Ld Tryz.prog 22 (.pointer (some (a.add 3))) b (.slice G j H)∧
 cond (((j:Nat):Int) == 0)
 (∃ k,Ld Tryz.prog 3 (.pointer (some (a.add 4))) b (.int .i64 k)∧
 Q (.bool (k == 0)) b)
 (Q (.bool false) b))
 (Q (.bool false) b)))
 (Q (.bool false) b)))
 (cond (y == 1)
 (∃ I J L,Ld Tryz.prog 22 (.pointer (some (a.add 3))) w (.slice I J L)∧
 Xa Tryz.prog 22 #[.slice I J L] w fun av aJ=>
 ∃ M l N O P m n o p q r s t u v,av=.tuple #[.agg #[.int .u8 M,.int .u32 l,.slice N O P,.slice m n o,.slice p q r,.slice s t u],.int .i64 v]∧
 ∃ aq,Pu Tryz.prog (zeroValue 68) aq∧
 New aq.cells 68 aJ fun R aL=>
 ∃ aI,Sto Tryz.prog 68 (.pointer (some ⟨R,0,none⟩)) (.agg #[.int .u8 M,.int .u32 l,.slice N O P,.slice m n o,.slice p q r,.slice s t u]) aL aI∧
 ∃ S,aG=some S∧
 Xa Tryz.prog 12 #[.pointer (some (S.add 0))] aI fun ax x=>
 ∃ T,ax=.bool T∧
 cond T
 (cond (!c)
 (cond (v == 0)
 (∃ U,Ld Tryz.prog 3 (.pointer (some (a.add 4))) x (.int .i64 U)∧
 cond (U == 20)
 (∃ V W X,Ld Tryz.prog 22 (.pointer (some (((⟨R,0,none⟩:Addr).add 0).add 2))) x (.slice V W X)∧
 ∃ Y Z aa,Ld Tryz.prog 22 (.pointer (some (((aF.add 8).add 0).add 3))) x (.slice Y Z aa)∧
 Xa Tryz.prog 23 #[.slice V W X,.slice Y Z aa] x fun ay an=>
 ∃ ab,ay=.bool ab∧
 cond ab
 (∃ ac ad ae,Ld Tryz.prog 22 (.pointer (some (a.add 3))) an (.slice ac ad ae)∧
 ∃ af ag ah,Ld Tryz.prog 22 (.pointer (some (((aF.add 8).add 0).add 2))) an (.slice af ag ah)∧
 Xa Tryz.prog 24 #[.slice ac ad ae,.slice af ag ah] an fun az aA=>
 ∃ ai,az=.int .i64 ai∧
 cond (ai == 0)
 (∃ aB aj aC,Ld Tryz.prog 22 (.pointer (some (((⟨R,0,none⟩:Addr).add 0).add 3))) aA (.slice aB aj aC)∧
 Q (.bool (((aj:Nat):Int) == 9)) aA)
 (Q (.bool false) aA))
 (Q (.bool false) an))
 (Q (.bool false) x))
 (Q (.bool false) x))
 (Q (.bool false) x))
 (Q (.bool false) x))
 (cond (y == 2)
 (cond (!c)
 (∃ ak,Ld Tryz.prog 25 (.pointer (some (a.add 2))) w (.int .i64 ak)∧
 cond (ak != 0)
 (∃ aD al aE,Ld Tryz.prog 22 (.pointer (some (a.add 3))) w (.slice aD al aE)∧
 cond (((al:Nat):Int) == 0)
 (∃ am,Ld Tryz.prog 3 (.pointer (some (a.add 4))) w (.int .i64 am)∧
 Q (.bool (am == 0)) w)
 (Q (.bool false) w))
 (Q (.bool false) w))
 (Q (.bool false) w))
 (Q (.bool false) w)))
def Yq (c:Addr) (d:Bool) (e:Option Addr) (a:Addr) (f:Int) (w:World) (Q:VWP):Prop:=
 cond (f == 0)
 (∃ g b i,Ld Tryz.prog 22 (.pointer (some ((c.add 8).add 4))) w (.slice g b i)∧
 ZE c d e a (decide (((b:Nat):Int) > 0)) w Q)
 (ZE c d e a false w Q)
def X1 (J:Addr) (af:Bool) (L:Option Addr) (ar:Int) (M:Addr) (w:World) (Q:VWP):Prop:=
 ∃ X,L=some X∧
 Xa Tryz.prog 18 #[.pointer (some (X.add 0))] w fun ai aj=>
 ∃ Y R,ai=.tuple #[.int .i64 Y,.int .i64 R]∧
 cond (Y != (IntKind.i64.wrap (ar+1)))
 (Q (.bool false) aj)
 (∃ (a:World→Prop),
 Drw aj fun b=>
 ∃ c d e,HLd Tryz.prog a 22 (.pointer (some (J.add 6))) b (.slice c d e)∧
 ∃ f g i,HLd Tryz.prog a 22 (.pointer (some ((J.add 8).add 4))) b (.slice f g i)∧
 ∃ j,HLd Tryz.prog a 28 (.pointer (some (J.add 14))) b (.int .u64 j)∧
 (Xa Tryz.prog 21 #[.pointer L] b fun ak N=>
 ∃ O,ak=.pointer O∧
 (N=b∨a N)∧
 (Xa Tryz.prog 20 #[.pointer O,.slice c d e,.slice f g i,.int .u64 j] N fun al am=>
 ∃ Z aa ab ac k l m n,al=.tuple #[.agg #[.int .u64 Z,.slice aa ab ac,.slice k l m],.int .i64 n]∧
 ∃ ad,Pu Tryz.prog (zeroValue 63) ad∧
 New ad.cells 63 am fun an ag=>
 (ag=am∨a ag)∧
 ∃ ao,Sto Tryz.prog 63 (.pointer (some ⟨an,0,none⟩)) (.agg #[.int .u64 Z,.slice aa ab ac,.slice k l m]) ag ao∧
 Yq J af L M n ao Q)∧
 (∃ o,Pu Tryz.prog (zeroValue 63) o∧
 New o.cells 63 N fun S ah=>
 (ah=N∨a ah)∧
 Xa Tryz.prog 20 #[.pointer O,.slice c d e,.slice f g i,.int .u64 j] ah fun T au=>
 ∃ p q r s t u v x,T=.tuple #[.agg #[.int .u64 p,.slice q r s,.slice t u v],.int .i64 x]∧
 ∃ ap,Sto Tryz.prog 63 (.pointer (some ⟨S,0,none⟩)) (.agg #[.int .u64 p,.slice q r s,.slice t u v]) au ap∧
 Yq J af L M x ap Q))∧
 (∃ y,Pu Tryz.prog (zeroValue 63) y∧
 New y.cells 63 b fun U z=>
 (z=b∨a z)∧
 Xa Tryz.prog 21 #[.pointer L] z fun V P=>
 ∃ A,V=.pointer A∧
 (P=z∨a P)∧
 Xa Tryz.prog 20 #[.pointer A,.slice c d e,.slice f g i,.int .u64 j] P fun W aq=>
 ∃ B C D E F G H I,W=.tuple #[.agg #[.int .u64 B,.slice C D E,.slice F G H],.int .i64 I]∧
 ∃ ae,Sto Tryz.prog 63 (.pointer (some ⟨U,0,none⟩)) (.agg #[.int .u64 B,.slice C D E,.slice F G H]) aq ae∧
 Yq J af L M I ae Q))
def Vx (bv:Option Addr) (bx:Nat) (bz:Nat) (bj:Addr) (n:Addr) (aP:Bool) (w:World) (Q:VWP):Prop:=
 ∃ aZ a0 y z,Ld Tryz.prog 30 (.pointer (some bj)) w (.agg #[.int .i64 aZ,.bool a0,.int .i64 y,.int .u64 z])∧
 Xa Tryz.prog 15 #[.agg #[.int .i64 aZ,.bool a0,.int .i64 y,.int .u64 z],.slice bv bx bz] w fun bk bA=>
 ∃ a,bk=.pointer a∧
 ∃ a1 aR,Ef Tryz.prog (do eqGuard .eql 24 (.tmp 30) (.const (.pointer none)) (.pointer a) (.pointer none); binOp .eql 24 (.pointer a) (.pointer none):Sem Value) bA (.bool a1) aR∧
 cond a1
 (∃ a2 a3 A B,Ld Tryz.prog 30 (.pointer (some bj)) aR (.agg #[.int .i64 a2,.bool a3,.int .i64 A,.int .u64 B])∧
 Xa Tryz.prog 17 #[.agg #[.int .i64 a2,.bool a3,.int .i64 A,.int .u64 B]] aR fun bl bB=>
 ∃ a4 a5 C D,bl=.agg #[.int .i64 a4,.bool a5,.int .i64 C,.int .u64 D]∧
 Xa Tryz.prog 16 #[.agg #[.int .i64 a4,.bool a5,.int .i64 C,.int .u64 D]] bB fun bm bC=>
 ∃ a6,bm=.bool a6∧
 Q (.bool (!a6)) bC)
 (∃ a7,a=some a7∧
 Xa Tryz.prog 18 #[.pointer (some (a7.add 0))] aR fun bn bD=>
 ∃ o aS,bn=.tuple #[.int .i64 o,.int .i64 aS]∧
 ∃ (m:World→Prop),
 Drw bD fun p=>
 ∃ aD aE aF,HLd Tryz.prog m 22 (.pointer (some (n.add 6))) p (.slice aD aE aF)∧
 ∃ q b r s t c d e f g i j k l,HLd Tryz.prog m 38 (.pointer (some (n.add 8))) p (.agg #[.int .u8 q,.int .u32 b,.slice r s t,.slice c d e,.slice f g i,.slice j k l])∧
 ∃ u,HLd Tryz.prog m 28 (.pointer (some (n.add 14))) p (.int .u64 u)∧
 ∃ E F G,HLd Tryz.prog m 22 (.pointer (some (n.add 7))) p (.slice E F G)∧
 (Xa Tryz.prog 19 #[.slice aD aE aF] p fun bo aC=>
 ∃ H I J,bo=.slice H I J∧
 (aC=p∨m aC)∧
 (Xa Tryz.prog 19 #[.slice E F G] aC fun bp aG=>
 ∃ aH aI aJ,bp=.slice aH aI aJ∧
 (aG=aC∨m aG)∧
 (Xa Tryz.prog 11 #[.pointer a,.slice H I J,.agg #[.int .u8 q,.int .u32 b,.slice r s t,.slice c d e,.slice f g i,.slice j k l],.int .u64 u,.slice aH aI aJ] aG fun bq br=>
 ∃ a8 a9 L ba bb bc M,bq=.agg #[.int .i64 a8,.bool a9,.int .i64 L,.slice ba bb bc,.int .i64 M]∧
 ∃ bd,Pu Tryz.prog (zeroValue 32) bd∧
 New bd.cells 32 br fun be aL=>
 (aL=br∨m aL)∧
 ∃ bf,Sto Tryz.prog 32 (.pointer (some ⟨be,0,none⟩)) (.agg #[.int .i64 a8,.bool a9,.int .i64 L,.slice ba bb bc,.int .i64 M]) aL bf∧
 X1 n aP a o (⟨be,0,none⟩:Addr) bf Q)∧
 (∃ N,Pu Tryz.prog (zeroValue 32) N∧
 New N.cells 32 aG fun O aM=>
 (aM=aG∨m aM)∧
 Xa Tryz.prog 11 #[.pointer a,.slice H I J,.agg #[.int .u8 q,.int .u32 b,.slice r s t,.slice c d e,.slice f g i,.slice j k l],.int .u64 u,.slice aH aI aJ] aM fun aT bs=>
 ∃ P R S T U V W,aT=.agg #[.int .i64 P,.bool R,.int .i64 S,.slice T U V,.int .i64 W]∧
 ∃ bg,Sto Tryz.prog 32 (.pointer (some ⟨O,0,none⟩)) (.agg #[.int .i64 P,.bool R,.int .i64 S,.slice T U V,.int .i64 W]) bs bg∧
 X1 n aP a o (⟨O,0,none⟩:Addr) bg Q))∧
 (∃ X,Pu Tryz.prog (zeroValue 32) X∧
 New X.cells 32 aC fun Y Z=>
 (Z=aC∨m Z)∧
 Xa Tryz.prog 19 #[.slice E F G] Z fun aU aN=>
 ∃ aa ab ac,aU=.slice aa ab ac∧
 (aN=Z∨m aN)∧
 Xa Tryz.prog 11 #[.pointer a,.slice H I J,.agg #[.int .u8 q,.int .u32 b,.slice r s t,.slice c d e,.slice f g i,.slice j k l],.int .u64 u,.slice aa ab ac] aN fun aV bt=>
 ∃ ad ae af ag ah ai aj,aV=.agg #[.int .i64 ad,.bool ae,.int .i64 af,.slice ag ah ai,.int .i64 aj]∧
 ∃ bh,Sto Tryz.prog 32 (.pointer (some ⟨Y,0,none⟩)) (.agg #[.int .i64 ad,.bool ae,.int .i64 af,.slice ag ah ai,.int .i64 aj]) bt bh∧
 X1 n aP a o (⟨Y,0,none⟩:Addr) bh Q))∧
 (∃ ak,Pu Tryz.prog (zeroValue 32) ak∧
 New ak.cells 32 p fun al am=>
 (am=p∨m am)∧
 Xa Tryz.prog 19 #[.slice aD aE aF] am fun aW an=>
 ∃ ao ap aq,aW=.slice ao ap aq∧
 (an=am∨m an)∧
 Xa Tryz.prog 19 #[.slice E F G] an fun aX aO=>
 ∃ ar au av,aX=.slice ar au av∧
 (aO=an∨m aO)∧
 Xa Tryz.prog 11 #[.pointer a,.slice ao ap aq,.agg #[.int .u8 q,.int .u32 b,.slice r s t,.slice c d e,.slice f g i,.slice j k l],.int .u64 u,.slice ar au av] aO fun aY bu=>
 ∃ ax ay v az aA aB x,aY=.agg #[.int .i64 ax,.bool ay,.int .i64 v,.slice az aA aB,.int .i64 x]∧
 ∃ bi,Sto Tryz.prog 32 (.pointer (some ⟨al,0,none⟩)) (.agg #[.int .i64 ax,.bool ay,.int .i64 v,.slice az aA aB,.int .i64 x]) bu bi∧
 X1 n aP a o (⟨al,0,none⟩:Addr) bi Q))
def QK (x:Int) (y:Bool) (i:Int) (j:Int) (l:Option Addr) (m:Nat) (n:Nat) (o:Array Value) (w:World) (Q:VWP):Prop:=
 New #[.int .i64 x,.bool y,.int .i64 i,.int .u64 j] 30 w fun z A=>
 New o 53 A fun p B=>
 Xa Tryz.prog 9 #[] B fun q r=>
 ∃ b,q=.bool b∧
 cond (!b)
 (Q (.bool false) r)
 (Xa Tryz.prog 14 #[.slice l m n] r fun s k=>
 ∃ c,s=.bool c∧
 cond c
 (Q (.bool true) k)
 (∃ (a:Array Value),Ld Tryz.prog 53 (.pointer (some ⟨p,0,none⟩)) k (.agg a)∧
 ∃ d e f t,Ef Tryz.prog (Instr.buildSlice 51 1 #[(0,.agg a)]) k (.slice d e f) t∧
 Xa Tryz.prog 14 #[.slice d e f] t fun u v=>
 ∃ g,u=.bool g∧
 cond g
 (Q (.bool true) v)
 (Vx l m n (⟨z,0,none⟩:Addr) (⟨p,0,none⟩:Addr) false v Q)))
def XeD:Nat→List (Nat×TypeId):=fun _=>[]
theorem Xcd (d:Int) (e:Bool) (a:Int) (b:Int) (f:Option Addr) (g:Nat) (i:Nat) (c:Array Value) (w:World) (Q:VWP) (h:QK d e a b f g i c w Q):Xa Tryz.prog 4 #[.agg #[.int .i64 d,.bool e,.int .i64 a,.int .u64 b],.slice f g i,.agg c] w Q:=
 Xc XeD Tryz.func4 h (fun _ _=>by kernel_rfl) (by kernel_rfl) (by kernel_rfl) (by kernel_rfl)
def Yr (H:Addr) (T:Bool) (P:Option Addr) (R:Addr) (I:Int) (J:Int) (L:Bool) (M:Int) (N:Bool) (i:Addr) (O:Int) (w:World) (Q:VWP):Prop:=
 ∃ (g:World→Prop),
 Drw w fun c=>
 cond (I == 0)
 (cond L
 (cond N
 (cond (M == J)
 (cond (O == 0)
 (∃ j,HLd Tryz.prog g 28 (.pointer (some (i.add 0))) c (.int .u64 j)∧
 ∃ k,HLd Tryz.prog g 28 (.pointer (some (H.add 14))) c (.int .u64 k)∧
 Xa Tryz.prog 28 #[.pointer P] c fun C b=>
 ∃ D E l f,C=.agg #[.int .i64 D,.bool E,.int .i64 l,.int .u64 f]∧
 (b=c∨g b)∧
 ∃ (a:World→Prop),
 (∀ v,a v→g v)∧
 cond (j == (IntKind.u64.wrap (k+f)))
 (∃ m n o,HLd Tryz.prog a 22 (.pointer (some (i.add 1))) b (.slice m n o)∧
 ∃ p q r,Ld Tryz.prog 22 (.pointer (some (((H.add 8).add 0).add 2))) b (.slice p q r)∧
 (b=b∨a b)∧
 Xa Tryz.prog 23 #[.slice m n o,.slice p q r] b fun F d=>
 ∃ s,F=.bool s∧
 (d=b∨a d)∧
 ∃ (e:World→Prop),
 (∀ v,e v→a v)∧
 cond s
 (∃ t u x,HLd Tryz.prog e 22 (.pointer (some (i.add 2))) d (.slice t u x)∧
 ∃ y z A,Ld Tryz.prog 22 (.pointer (some ((R.add 0).add 3))) d (.slice y z A)∧
 (d=d∨e d)∧
 Xa Tryz.prog 23 #[.slice t u x,.slice y z A] d fun G S=>
 ∃ B,G=.bool B∧
 Q (.bool B) S)
 (Q (.bool false) d))
 (Q (.bool false) b))
 (Q (.bool false) c))
 (Q (.bool false) c))
 (Q (.bool false) c))
 (Q (.bool false) c))
 (Q (.bool false) c)
def X2 (ae:Addr) (aM:Bool) (ac:Option Addr) (aN:Addr) (w:World) (Q:VWP):Prop:=
 ∃ an,Ld Tryz.prog 3 (.pointer (some (aN.add 0))) w (.int .i64 an)∧
 cond (an != 1)
 (Q (.bool true) w)
 (∃ ao ap aq,Ld Tryz.prog 22 (.pointer (some (aN.add 3))) w (.slice ao ap aq)∧
 Xa Tryz.prog 22 #[.slice ao ap aq] w fun aO a1=>
 ∃ ar d au av ax e f g i j k l m n b,aO=.tuple #[.agg #[.int .u8 ar,.int .u32 d,.slice au av ax,.slice e f g,.slice i j k,.slice l m n],.int .i64 b]∧
 ∃ aP,Pu Tryz.prog (zeroValue 68) aP∧
 New aP.cells 68 a1 fun ad a2=>
 ∃ aR,Sto Tryz.prog 68 (.pointer (some ⟨ad,0,none⟩)) (.agg #[.int .u8 ar,.int .u32 d,.slice au av ax,.slice e f g,.slice i j k,.slice l m n]) a2 aR∧
 Xa Tryz.prog 21 #[.pointer ac] aR fun aS a3=>
 ∃ ay,aS=.pointer ay∧
 Xa Tryz.prog 32 #[.pointer ay] a3 fun aT aU=>
 ∃ o p,aT=.tuple #[.int .i64 o,.bool p]∧
 ∃ az aA aB,Ld Tryz.prog 22 (.pointer (some ((⟨ad,0,none⟩:Addr).add 4))) aU (.slice az aA aB)∧
 Xa Tryz.prog 33 #[.slice az aA aB] aU fun aV a4=>
 ∃ q r,aV=.tuple #[.int .i64 q,.bool r]∧
 ∃ (a:World→Prop),
 Drw a4 fun c=>
 ∃ s t u,HLd Tryz.prog a 22 (.pointer (some (ae.add 6))) c (.slice s t u)∧
 ∃ v x y,HLd Tryz.prog a 22 (.pointer (some ((⟨ad,0,none⟩:Addr).add 4))) c (.slice v x y)∧
 ∃ z,HLd Tryz.prog a 28 (.pointer (some (ae.add 14))) c (.int .u64 z)∧
 (Xa Tryz.prog 21 #[.pointer ac] c fun aW af=>
 ∃ ag,aW=.pointer ag∧
 (af=c∨a af)∧
 (Xa Tryz.prog 20 #[.pointer ag,.slice s t u,.slice v x y,.int .u64 z] af fun aX aY=>
 ∃ aC aD aE aF A B C D,aX=.tuple #[.agg #[.int .u64 aC,.slice aD aE aF,.slice A B C],.int .i64 D]∧
 ∃ aG,Pu Tryz.prog (zeroValue 63) aG∧
 New aG.cells 63 aY fun aH ah=>
 (ah=aY∨a ah)∧
 ∃ aI,Sto Tryz.prog 63 (.pointer (some ⟨aH,0,none⟩)) (.agg #[.int .u64 aC,.slice aD aE aF,.slice A B C]) ah aI∧
 Yr ae aM ac (⟨ad,0,none⟩:Addr) b o p q r (⟨aH,0,none⟩:Addr) D aI Q)∧
 (∃ E,Pu Tryz.prog (zeroValue 63) E∧
 New E.cells 63 af fun F ai=>
 (ai=af∨a ai)∧
 Xa Tryz.prog 20 #[.pointer ag,.slice s t u,.slice v x y,.int .u64 z] ai fun ak aZ=>
 ∃ G H I J L M N O,ak=.tuple #[.agg #[.int .u64 G,.slice H I J,.slice L M N],.int .i64 O]∧
 ∃ aJ,Sto Tryz.prog 63 (.pointer (some ⟨F,0,none⟩)) (.agg #[.int .u64 G,.slice H I J,.slice L M N]) aZ aJ∧
 Yr ae aM ac (⟨ad,0,none⟩:Addr) b o p q r (⟨F,0,none⟩:Addr) O aJ Q))∧
 (∃ P,Pu Tryz.prog (zeroValue 63) P∧
 New P.cells 63 c fun R S=>
 (S=c∨a S)∧
 Xa Tryz.prog 21 #[.pointer ac] S fun al aj=>
 ∃ T,al=.pointer T∧
 (aj=S∨a aj)∧
 Xa Tryz.prog 20 #[.pointer T,.slice s t u,.slice v x y,.int .u64 z] aj fun am a0=>
 ∃ U V W X Y Z aa ab,am=.tuple #[.agg #[.int .u64 U,.slice V W X,.slice Y Z aa],.int .i64 ab]∧
 ∃ aL,Sto Tryz.prog 63 (.pointer (some ⟨R,0,none⟩)) (.agg #[.int .u64 U,.slice V W X,.slice Y Z aa]) a0 aL∧
 Yr ae aM ac (⟨ad,0,none⟩:Addr) b o p q r (⟨R,0,none⟩:Addr) ab aL Q))
def Vy (br:Option Addr) (bs:Nat) (bt:Nat) (be:Addr) (n:Addr) (aN:Bool) (w:World) (Q:VWP):Prop:=
 ∃ aW aX x y,Ld Tryz.prog 30 (.pointer (some be)) w (.agg #[.int .i64 aW,.bool aX,.int .i64 x,.int .u64 y])∧
 Xa Tryz.prog 15 #[.agg #[.int .i64 aW,.bool aX,.int .i64 x,.int .u64 y],.slice br bs bt] w fun bf bu=>
 ∃ a,bf=.pointer a∧
 ∃ aY aO,Ef Tryz.prog (do eqGuard .eql 24 (.tmp 34) (.const (.pointer none)) (.pointer a) (.pointer none); binOp .eql 24 (.pointer a) (.pointer none):Sem Value) bu (.bool aY) aO∧
 cond aY
 (∃ aZ a0 z A,Ld Tryz.prog 30 (.pointer (some be)) aO (.agg #[.int .i64 aZ,.bool a0,.int .i64 z,.int .u64 A])∧
 Xa Tryz.prog 17 #[.agg #[.int .i64 aZ,.bool a0,.int .i64 z,.int .u64 A]] aO fun bg bv=>
 ∃ a1 a2 B C,bg=.agg #[.int .i64 a1,.bool a2,.int .i64 B,.int .u64 C]∧
 Xa Tryz.prog 16 #[.agg #[.int .i64 a1,.bool a2,.int .i64 B,.int .u64 C]] bv fun bh bx=>
 ∃ a3,bh=.bool a3∧
 Q (.bool (!a3)) bx)
 (∃ (m:World→Prop),
 Drw aO fun o=>
 ∃ av ax ay,HLd Tryz.prog m 22 (.pointer (some (n.add 6))) o (.slice av ax ay)∧
 ∃ p b q r s c d e f g i j k l,HLd Tryz.prog m 38 (.pointer (some (n.add 8))) o (.agg #[.int .u8 p,.int .u32 b,.slice q r s,.slice c d e,.slice f g i,.slice j k l])∧
 ∃ t,HLd Tryz.prog m 28 (.pointer (some (n.add 14))) o (.int .u64 t)∧
 ∃ D E F,HLd Tryz.prog m 22 (.pointer (some (n.add 7))) o (.slice D E F)∧
 (Xa Tryz.prog 19 #[.slice av ax ay] o fun bi au=>
 ∃ G H I,bi=.slice G H I∧
 (au=o∨m au)∧
 (Xa Tryz.prog 19 #[.slice D E F] au fun bj az=>
 ∃ aA aB aC,bj=.slice aA aB aC∧
 (az=au∨m az)∧
 (Xa Tryz.prog 11 #[.pointer a,.slice G H I,.agg #[.int .u8 p,.int .u32 b,.slice q r s,.slice c d e,.slice f g i,.slice j k l],.int .u64 t,.slice aA aB aC] az fun bk bl=>
 ∃ a4 a5 J a6 a7 a8 L,bk=.agg #[.int .i64 a4,.bool a5,.int .i64 J,.slice a6 a7 a8,.int .i64 L]∧
 ∃ bm,Pu Tryz.prog (zeroValue 32) bm∧
 New bm.cells 32 bl fun bn bd=>
 (bd=bl∨m bd)∧
 ∃ a9,Sto Tryz.prog 32 (.pointer (some ⟨bn,0,none⟩)) (.agg #[.int .i64 a4,.bool a5,.int .i64 J,.slice a6 a7 a8,.int .i64 L]) bd a9∧
 X2 n aN a (⟨bn,0,none⟩:Addr) a9 Q)∧
 (∃ aD,Pu Tryz.prog (zeroValue 32) aD∧
 New aD.cells 32 az fun aE aF=>
 (aF=az∨m aF)∧
 Xa Tryz.prog 11 #[.pointer a,.slice G H I,.agg #[.int .u8 p,.int .u32 b,.slice q r s,.slice c d e,.slice f g i,.slice j k l],.int .u64 t,.slice aA aB aC] aF fun aP bo=>
 ∃ M N O P R S T,aP=.agg #[.int .i64 M,.bool N,.int .i64 O,.slice P R S,.int .i64 T]∧
 ∃ ba,Sto Tryz.prog 32 (.pointer (some ⟨aE,0,none⟩)) (.agg #[.int .i64 M,.bool N,.int .i64 O,.slice P R S,.int .i64 T]) bo ba∧
 X2 n aN a (⟨aE,0,none⟩:Addr) ba Q))∧
 (∃ aG,Pu Tryz.prog (zeroValue 32) aG∧
 New aG.cells 32 au fun aH U=>
 (U=au∨m U)∧
 Xa Tryz.prog 19 #[.slice D E F] U fun aR aI=>
 ∃ V W X,aR=.slice V W X∧
 (aI=U∨m aI)∧
 Xa Tryz.prog 11 #[.pointer a,.slice G H I,.agg #[.int .u8 p,.int .u32 b,.slice q r s,.slice c d e,.slice f g i,.slice j k l],.int .u64 t,.slice V W X] aI fun aS bp=>
 ∃ Y Z aa ab ac ad ae,aS=.agg #[.int .i64 Y,.bool Z,.int .i64 aa,.slice ab ac ad,.int .i64 ae]∧
 ∃ bb,Sto Tryz.prog 32 (.pointer (some ⟨aH,0,none⟩)) (.agg #[.int .i64 Y,.bool Z,.int .i64 aa,.slice ab ac ad,.int .i64 ae]) bp bb∧
 X2 n aN a (⟨aH,0,none⟩:Addr) bb Q))∧
 (∃ aJ,Pu Tryz.prog (zeroValue 32) aJ∧
 New aJ.cells 32 o fun aL af=>
 (af=o∨m af)∧
 Xa Tryz.prog 19 #[.slice av ax ay] af fun aT ag=>
 ∃ ah ai aj,aT=.slice ah ai aj∧
 (ag=af∨m ag)∧
 Xa Tryz.prog 19 #[.slice D E F] ag fun aU aM=>
 ∃ ak al am,aU=.slice ak al am∧
 (aM=ag∨m aM)∧
 Xa Tryz.prog 11 #[.pointer a,.slice ah ai aj,.agg #[.int .u8 p,.int .u32 b,.slice q r s,.slice c d e,.slice f g i,.slice j k l],.int .u64 t,.slice ak al am] aM fun aV bq=>
 ∃ an ao u ap aq ar v,aV=.agg #[.int .i64 an,.bool ao,.int .i64 u,.slice ap aq ar,.int .i64 v]∧
 ∃ bc,Sto Tryz.prog 32 (.pointer (some ⟨aL,0,none⟩)) (.agg #[.int .i64 an,.bool ao,.int .i64 u,.slice ap aq ar,.int .i64 v]) bq bc∧
 X2 n aN a (⟨aL,0,none⟩:Addr) bc Q))
def QL (y:Int) (z:Bool) (k:Int) (l:Int) (o:Option Addr) (p:Nat) (q:Nat) (r:Array Value) (w:World) (Q:VWP):Prop:=
 New #[.int .i64 y,.bool z,.int .i64 k,.int .u64 l] 30 w fun A B=>
 New r 53 B fun m C=>
 Xa Tryz.prog 9 #[] C fun s t=>
 ∃ c,s=.bool c∧
 cond (!c)
 (Q (.bool false) t)
 (Xa Tryz.prog 14 #[.slice o p q] t fun u n=>
 ∃ d,u=.bool d∧
 cond d
 (Q (.bool true) n)
 (∃ (a:Array Value),Ld Tryz.prog 53 (.pointer (some ⟨m,0,none⟩)) n (.agg a)∧
 ∃ e f g v,Ef Tryz.prog (Instr.buildSlice 51 1 #[(0,.agg a)]) n (.slice e f g) v∧
 Xa Tryz.prog 14 #[.slice e f g] v fun x b=>
 ∃ i,x=.bool i∧
 cond i
 (Q (.bool true) b)
 (∃ j,Ld Tryz.prog 28 (.pointer (some ((⟨m,0,none⟩:Addr).add 14))) b (.int .u64 j)∧
 cond (decide (j > 1152921504606846976))
 (Q (.bool true) b)
 (Vy o p q (⟨A,0,none⟩:Addr) (⟨m,0,none⟩:Addr) false b Q))))
def XeE:Nat→List (Nat×TypeId):=fun _=>[]
theorem Xce (d:Int) (e:Bool) (a:Int) (b:Int) (f:Option Addr) (g:Nat) (i:Nat) (c:Array Value) (w:World) (Q:VWP) (h:QL d e a b f g i c w Q):Xa Tryz.prog 7 #[.agg #[.int .i64 d,.bool e,.int .i64 a,.int .u64 b],.slice f g i,.agg c] w Q:=
 Xc XeE Tryz.func7 h (fun _ _=>by kernel_rfl) (by kernel_rfl) (by kernel_rfl) (by kernel_rfl)
def Zu (cs:Bool) (c:Option Addr) (cl:Option Addr) (cm:Nat) (cn:Nat) (a3:Addr) (b4:Addr) (a4:Addr) (b5:Addr) (w:World) (Q:VWP):Prop:=
 ∃ a5 a6 a7,Ld Tryz.prog 22 (.pointer (some (a4.add 3))) w (.slice a5 a6 a7)∧
 Xa Tryz.prog 22 #[.slice a5 a6 a7] w fun b6 co=>
 ∃ a8 v a9 ba bb x y z A B C D E F G,b6=.tuple #[.agg #[.int .u8 a8,.int .u32 v,.slice a9 ba bb,.slice x y z,.slice A B C,.slice D E F],.int .i64 G]∧
 ∃ bc,Pu Tryz.prog (zeroValue 68) bc∧
 New bc.cells 68 co fun bd cp=>
 ∃ bP,Sto Tryz.prog 68 (.pointer (some ⟨bd,0,none⟩)) (.agg #[.int .u8 a8,.int .u32 v,.slice a9 ba bb,.slice x y z,.slice A B C,.slice D E F]) cp bP∧
 ∃ be bf bg,Ld Tryz.prog 22 (.pointer (some ((⟨bd,0,none⟩:Addr).add 4))) bP (.slice be bf bg)∧
 ∃ b7,Sto Tryz.prog 22 (.pointer (some (a3.add 4))) (.slice be bf bg) bP b7∧
 ∃ bh bi bj bR,Ef Tryz.prog (Instr.buildSlice 22 1 #[(0,.int .u8 5)]) b7 (.slice bh bi bj) bR∧
 ∃ bk H bl bm bn I J L M N O P R S,Ld Tryz.prog 38 (.pointer (some a3)) bR (.agg #[.int .u8 bk,.int .u32 H,.slice bl bm bn,.slice I J L,.slice M N O,.slice P R S])∧
 Xa Tryz.prog 11 #[.pointer c,.slice bh bi bj,.agg #[.int .u8 bk,.int .u32 H,.slice bl bm bn,.slice I J L,.slice M N O,.slice P R S],.int .u64 110,.slice none 0 0] bR fun b8 cq=>
 ∃ bo bp T bq br bs U,b8=.agg #[.int .i64 bo,.bool bp,.int .i64 T,.slice bq br bs,.int .i64 U]∧
 ∃ bt,Pu Tryz.prog (zeroValue 32) bt∧
 New bt.cells 32 cq fun ah cr=>
 ∃ b9,Sto Tryz.prog 32 (.pointer (some ⟨ah,0,none⟩)) (.agg #[.int .i64 bo,.bool bp,.int .i64 T,.slice bq br bs,.int .i64 U]) cr b9∧
 ∃ bu bv bx bS,Ef Tryz.prog (Instr.buildSlice 22 1 #[(0,.int .u8 6)]) b9 (.slice bu bv bx) bS∧
 ∃ bz V bA bB bC W X Y Z aa ab ac ad ae,Ld Tryz.prog 38 (.pointer (some a3)) bS (.agg #[.int .u8 bz,.int .u32 V,.slice bA bB bC,.slice W X Y,.slice Z aa ab,.slice ac ad ae])∧
 Xa Tryz.prog 11 #[.pointer c,.slice bu bv bx,.agg #[.int .u8 bz,.int .u32 V,.slice bA bB bC,.slice W X Y,.slice Z aa ab,.slice ac ad ae],.int .u64 110,.slice none 0 0] bS fun ca cb=>
 ∃ bD bE af bF bG bH ag,ca=.agg #[.int .i64 bD,.bool bE,.int .i64 af,.slice bF bG bH,.int .i64 ag]∧
 ∃ bI,Pu Tryz.prog (zeroValue 32) bI∧
 New bI.cells 32 cb fun ai cc=>
 ∃ bJ,Sto Tryz.prog 32 (.pointer (some ⟨ai,0,none⟩)) (.agg #[.int .i64 bD,.bool bE,.int .i64 af,.slice bF bG bH,.int .i64 ag]) cc bJ∧
 ∃ aj ak al am,Ef Tryz.prog (Instr.buildSlice 22 1 #[(0,.int .u8 5)]) bJ (.slice aj ak al) am∧
 ∃ an e ao ap aq f g i j k l m n o,Ld Tryz.prog 38 (.pointer (some a3)) am (.agg #[.int .u8 an,.int .u32 e,.slice ao ap aq,.slice f g i,.slice j k l,.slice m n o])∧
 Xa Tryz.prog 11 #[.pointer c,.slice aj ak al,.agg #[.int .u8 an,.int .u32 e,.slice ao ap aq,.slice f g i,.slice j k l,.slice m n o],.int .u64 111,.slice cl cm cn] am fun bT cd=>
 ∃ ar au p av ax ay q,bT=.agg #[.int .i64 ar,.bool au,.int .i64 p,.slice av ax ay,.int .i64 q]∧
 ∃ bL,Pu Tryz.prog (zeroValue 32) bL∧
 New bL.cells 32 cd fun bM ce=>
 ∃ bN,Sto Tryz.prog 32 (.pointer (some ⟨bM,0,none⟩)) (.agg #[.int .i64 ar,.bool au,.int .i64 p,.slice av ax ay,.int .i64 q]) ce bN∧
 ∃ az,c=some az∧
 Xa Tryz.prog 18 #[.pointer (some (az.add 0))] bN fun bU cf=>
 ∃ aA r,bU=.tuple #[.int .i64 aA,.int .i64 r]∧
 ∃ aB,c=some aB∧
 Xa Tryz.prog 13 #[.pointer (some (aB.add 0))] cf fun bV cg=>
 bV=.tuple #[]∧
 Xa Tryz.prog 36 #[.pointer c] cg fun bW ch=>
 ∃ d,bW=.pointer d∧
 Xa Tryz.prog 29 #[.pointer c,.agg #[.int .i64 3,.bool false,.int .i64 1,.int .u64 0]] ch fun bX ci=>
 ∃ aC,bX=.int .i64 aC∧
 Xa Tryz.prog 27 #[.pointer c] ci fun bY cj=>
 ∃ aD s t,bY=.tuple #[.int .i64 aD,.int .i64 s,.int .i64 t]∧
 ∃ aE aF,Ef Tryz.prog (do eqGuard .neq 24 (.tmp 126) (.const (.pointer none)) (.pointer d) (.pointer none); binOp .neq 24 (.pointer d) (.pointer none):Sem Value) cj (.bool aE) aF∧
 cond aE
 (∃ aG,d=some aG∧
 Xa Tryz.prog 12 #[.pointer (some (aG.add 0))] aF fun bZ b=>
 ∃ aH,bZ=.bool aH∧
 cond aH
 (∃ aI,Ld Tryz.prog 3 (.pointer (some (b4.add 0))) b (.int .i64 aI)∧
 cond (aI == 2)
 (∃ aJ,Ld Tryz.prog 25 (.pointer (some (b4.add 2))) b (.int .i64 aJ)∧
 cond (aJ == 17)
 (∃ aL,Ld Tryz.prog 3 (.pointer (some (a4.add 0))) b (.int .i64 aL)∧
 cond (aL == 1)
 (∃ aM,Ld Tryz.prog 3 (.pointer (some (a4.add 4))) b (.int .i64 aM)∧
 cond (aM == 20)
 (cond (G == 0)
 (∃ aN,Ld Tryz.prog 3 (.pointer (some (b5.add 0))) b (.int .i64 aN)∧
 cond (aN == 2)
 (∃ aO,Ld Tryz.prog 25 (.pointer (some (b5.add 2))) b (.int .i64 aO)∧
 cond (aO == 21)
 (∃ aP aR aS,Ld Tryz.prog 22 (.pointer (some (a4.add 3))) b (.slice aP aR aS)∧
 ∃ aT aU aV bO,Ef Tryz.prog (Instr.buildSlice 22 2 #[(0,.int .u8 7),(1,.int .u8 8)]) b (.slice aT aU aV) bO∧
 Xa Tryz.prog 24 #[.slice aP aR aS,.slice aT aU aV] bO fun b0 a=>
 ∃ aW,b0=.int .i64 aW∧
 cond (aW == 0)
 (∃ aX,Ld Tryz.prog 3 (.pointer (some ((⟨ah,0,none⟩:Addr).add 0))) a (.int .i64 aX)∧
 cond (aX == 0)
 (∃ aY,Ld Tryz.prog 4 (.pointer (some ((⟨ah,0,none⟩:Addr).add 1))) a (.bool aY)∧
 cond aY
 (∃ aZ,Ld Tryz.prog 3 (.pointer (some ((⟨ai,0,none⟩:Addr).add 0))) a (.int .i64 aZ)∧
 cond (aZ == 2)
 (∃ a0,Ld Tryz.prog 25 (.pointer (some ((⟨ai,0,none⟩:Addr).add 2))) a (.int .i64 a0)∧
 cond (a0 == 13)
 (∃ a1,Ld Tryz.prog 3 (.pointer (some ((⟨bM,0,none⟩:Addr).add 0))) a (.int .i64 a1)∧
 cond (a1 == 1)
 (cond (aA == 6)
 (cond (r == 0)
 (cond (aC == 11)
 (cond (aD == 1)
 (cond (s == 2)
 (cond (t == 3)
 (Xa Tryz.prog 28 #[.pointer c] a fun b1 ck=>
 ∃ b2 b3 a2 u,b1=.agg #[.int .i64 b2,.bool b3,.int .i64 a2,.int .u64 u]∧
 Q (.bool (u == 10)) ck)
 (Q (.bool false) a))
 (Q (.bool false) a))
 (Q (.bool false) a))
 (Q (.bool false) a))
 (Q (.bool false) a))
 (Q (.bool false) a))
 (Q (.bool false) a))
 (Q (.bool false) a))
 (Q (.bool false) a))
 (Q (.bool false) a))
 (Q (.bool false) a))
 (Q (.bool false) a))
 (Q (.bool false) b))
 (Q (.bool false) b))
 (Q (.bool false) b))
 (Q (.bool false) b))
 (Q (.bool false) b))
 (Q (.bool false) b))
 (Q (.bool false) b))
 (Q (.bool false) b))
 (Q (.bool false) aF)
def Jl (aT:Bool) (m:Option Addr) (af:Option Addr) (ag:Nat) (ah:Nat) (ai:Addr) (aU:Addr) (w:World) (Q:VWP):Prop:=
 ∃ ay az aA aV,Ef Tryz.prog (Instr.buildSlice 22 1 #[(0,.int .u8 5)]) w (.slice ay az aA) aV∧
 ∃ aB n aC aD aE o p q r s t u v x,Ld Tryz.prog 38 (.pointer (some ai)) aV (.agg #[.int .u8 aB,.int .u32 n,.slice aC aD aE,.slice o p q,.slice r s t,.slice u v x])∧
 Xa Tryz.prog 11 #[.pointer m,.slice ay az aA,.agg #[.int .u8 aB,.int .u32 n,.slice aC aD aE,.slice o p q,.slice r s t,.slice u v x],.int .u64 100,.slice af ag ah] aV fun aX a7=>
 ∃ aF aG y aH aI aJ z,aX=.agg #[.int .i64 aF,.bool aG,.int .i64 y,.slice aH aI aJ,.int .i64 z]∧
 ∃ aY,Pu Tryz.prog (zeroValue 32) aY∧
 New aY.cells 32 a7 fun au a8=>
 ∃ aZ,Sto Tryz.prog 32 (.pointer (some ⟨au,0,none⟩)) (.agg #[.int .i64 aF,.bool aG,.int .i64 y,.slice aH aI aJ,.int .i64 z]) a8 aZ∧
 ∃ (l:World→Prop),
 Drw aZ fun aj=>
 ∃ A B C,Pu Tryz.prog (Instr.sliceAt 22 (.slice af ag ah) none (some (.int .i64 19)) none) (.slice A B C)∧
 ∃ D a E F G b c d e f g i j k,HLd Tryz.prog l 38 (.pointer (some ai)) aj (.agg #[.int .u8 D,.int .u32 a,.slice E F G,.slice b c d,.slice e f g,.slice i j k])∧
 (∃ ak al am ae,Ef Tryz.prog (Instr.buildSlice 22 1 #[(0,.int .u8 5)]) aj (.slice ak al am) ae∧
 (ae=aj∨l ae)∧
 (Xa Tryz.prog 11 #[.pointer m,.slice ak al am,.agg #[.int .u8 D,.int .u32 a,.slice E F G,.slice b c d,.slice e f g,.slice i j k],.int .u64 100,.slice A B C] ae fun a0 a1=>
 ∃ aL aM H aN aO aP I,a0=.agg #[.int .i64 aL,.bool aM,.int .i64 H,.slice aN aO aP,.int .i64 I]∧
 ∃ a2,Pu Tryz.prog (zeroValue 32) a2∧
 New a2.cells 32 a1 fun a3 aW=>
 (aW=a1∨l aW)∧
 ∃ a4,Sto Tryz.prog 32 (.pointer (some ⟨a3,0,none⟩)) (.agg #[.int .i64 aL,.bool aM,.int .i64 H,.slice aN aO aP,.int .i64 I]) aW a4∧
 Zu aT m af ag ah ai aU (⟨au,0,none⟩:Addr) (⟨a3,0,none⟩:Addr) a4 Q)∧
 (∃ an,Pu Tryz.prog (zeroValue 32) an∧
 New an.cells 32 ae fun ao ap=>
 (ap=ae∨l ap)∧
 Xa Tryz.prog 11 #[.pointer m,.slice ak al am,.agg #[.int .u8 D,.int .u32 a,.slice E F G,.slice b c d,.slice e f g,.slice i j k],.int .u64 100,.slice A B C] ap fun av a5=>
 ∃ J L M N O P R,av=.agg #[.int .i64 J,.bool L,.int .i64 M,.slice N O P,.int .i64 R]∧
 ∃ aR,Sto Tryz.prog 32 (.pointer (some ⟨ao,0,none⟩)) (.agg #[.int .i64 J,.bool L,.int .i64 M,.slice N O P,.int .i64 R]) a5 aR∧
 Zu aT m af ag ah ai aU (⟨au,0,none⟩:Addr) (⟨ao,0,none⟩:Addr) aR Q))∧
 (∃ aq,Pu Tryz.prog (zeroValue 32) aq∧
 New aq.cells 32 aj fun ar S=>
 (S=aj∨l S)∧
 ∃ T U V W,Ef Tryz.prog (Instr.buildSlice 22 1 #[(0,.int .u8 5)]) S (.slice T U V) W∧
 (W=S∨l W)∧
 Xa Tryz.prog 11 #[.pointer m,.slice T U V,.agg #[.int .u8 D,.int .u32 a,.slice E F G,.slice b c d,.slice e f g,.slice i j k],.int .u64 100,.slice A B C] W fun ax a6=>
 ∃ X Y Z aa ab ac ad,ax=.agg #[.int .i64 X,.bool Y,.int .i64 Z,.slice aa ab ac,.int .i64 ad]∧
 ∃ aS,Sto Tryz.prog 32 (.pointer (some ⟨ar,0,none⟩)) (.agg #[.int .i64 X,.bool Y,.int .i64 Z,.slice aa ab ac,.int .i64 ad]) a6 aS∧
 Zu aT m af ag ah ai aU (⟨au,0,none⟩:Addr) (⟨ar,0,none⟩:Addr) aS Q)
def VO (ae:Bool) (v:Option Addr) (w:World) (Q:VWP):Prop:=
 ∃ a b c af,Ef Tryz.prog (Instr.buildSlice 22 20 #[(0,.int .u8 1),(1,.int .u8 2),(2,.int .u8 3),(3,.int .u8 4),(4,.int .u8 5),(5,.int .u8 6),(6,.int .u8 7),(7,.int .u8 8),(8,.int .u8 9),(9,.int .u8 10),(10,.int .u8 11),(11,.int .u8 12),(12,.int .u8 13),(13,.int .u8 14),(14,.int .u8 15),(15,.int .u8 16),(16,.int .u8 17),(17,.int .u8 18),(18,.int .u8 19),(19,.int .u8 20)]) w (.slice a b c) af∧
 ∃ ag,Pu Tryz.prog (zeroValue 38) ag∧
 New ag.cells 38 af fun u az=>
 ∃ ah,Sto Tryz.prog 38 (.pointer (some ⟨u,0,none⟩)) (.agg #[.int .u8 0,.int .u32 0,.slice none 0 0,.slice none 0 0,.slice none 0 0,.slice none 0 0]) az ah∧
 ∃ A B C ai,Ef Tryz.prog (Instr.buildSlice 22 2 #[(0,.int .u8 7),(1,.int .u8 8)]) ah (.slice A B C) ai∧
 ∃ aj,Sto Tryz.prog 22 (.pointer (some (((⟨u,0,none⟩:Addr).add 0).add 2))) (.slice A B C) ai aj∧
 ∃ D E F ak,Ef Tryz.prog (Instr.buildSlice 22 1 #[(0,.int .u8 9)]) aj (.slice D E F) ak∧
 ∃ al,Sto Tryz.prog 22 (.pointer (some (((⟨u,0,none⟩:Addr).add 0).add 3))) (.slice D E F) ak al∧
 ∃ G H I ac,Ef Tryz.prog (Instr.buildSlice 22 1 #[(0,.int .u8 5)]) al (.slice G H I) ac∧
 ∃ J d L M N e f g i j k l m n,Ld Tryz.prog 38 (.pointer (some ⟨u,0,none⟩)) ac (.agg #[.int .u8 J,.int .u32 d,.slice L M N,.slice e f g,.slice i j k,.slice l m n])∧
 Xa Tryz.prog 11 #[.pointer v,.slice G H I,.agg #[.int .u8 J,.int .u32 d,.slice L M N,.slice e f g,.slice i j k,.slice l m n],.int .u64 100,.slice a b c] ac fun am aA=>
 ∃ O P o R S T p,am=.agg #[.int .i64 O,.bool P,.int .i64 o,.slice R S T,.int .i64 p]∧
 ∃ an,Pu Tryz.prog (zeroValue 32) an∧
 New an.cells 32 aA fun ad ao=>
 ∃ U,Sto Tryz.prog 32 (.pointer (some ⟨ad,0,none⟩)) (.agg #[.int .i64 O,.bool P,.int .i64 o,.slice R S T,.int .i64 p]) ao U∧
 ∃ (aB:World→Prop),
 Drw U fun V=>
 (Xa Tryz.prog 21 #[.pointer v] V fun ap aq=>
 ∃ W,ap=.pointer W∧
 ∃ X Y Z aa,Ef Tryz.prog (Instr.makeSlice 22 (.int .i64 16) (.int .i64 16)) aq (.slice X Y Z) aa∧
 Xa Tryz.prog 38 #[.pointer W,.int .i64 4,.slice X Y Z] aa fun ar au=>
 ∃ av,ar=.int .i64 av∧
 Jl ae v a b c (⟨u,0,none⟩:Addr) (⟨ad,0,none⟩:Addr) au Q)∧
 (∃ q r s ab,Ef Tryz.prog (Instr.makeSlice 22 (.int .i64 16) (.int .i64 16)) V (.slice q r s) ab∧
 Xa Tryz.prog 21 #[.pointer v] ab fun x ax=>
 ∃ t,x=.pointer t∧
 Xa Tryz.prog 38 #[.pointer t,.int .i64 4,.slice q r s] ax fun y ay=>
 ∃ z,y=.int .i64 z∧
 Jl ae v a b c (⟨u,0,none⟩:Addr) (⟨ad,0,none⟩:Addr) ay Q)
def XhW  (w:World) (Q:VWP):Prop:=
 Xa Tryz.prog 10 #[.agg #[.int .i64 2,.bool false,.int .i64 1,.int .u64 10]] w fun l r=>
 ∃ a d,l=.tuple #[.pointer a,.int .i64 d]∧
 Xa Tryz.prog 10 #[.agg #[.int .i64 0,.bool false,.int .i64 0,.int .u64 0]] r fun m s=>
 ∃ n e,m=.tuple #[.pointer n,.int .i64 e]∧
 ∃ f b,Ef Tryz.prog (do eqGuard .eql 24 (.tmp 32) (.const (.pointer none)) (.pointer a) (.pointer none); binOp .eql 24 (.pointer a) (.pointer none):Sem Value) s (.bool f) b∧
 cond f
 (Q (.bool false) b)
 (cond (d != 0)
 (Q (.bool false) b)
 (cond (e != 11)
 (Q (.bool false) b)
 (Xa Tryz.prog 21 #[.pointer a] b fun o t=>
 ∃ c,o=.pointer c∧
 ∃ g k,Ef Tryz.prog (do eqGuard .eql 41 (.tmp 44) (.const (.pointer none)) (.pointer c) (.pointer none); binOp .eql 41 (.pointer c) (.pointer none):Sem Value) t (.bool g) k∧
 cond g
 (Q (.bool false) k)
 (∃ i,a=some i∧
 Xa Tryz.prog 12 #[.pointer (some (i.add 0))] k fun p q=>
 ∃ j,p=.bool j∧
 cond (!j)
 (Q (.bool false) q)
 (VO false a q Q)))))
def Xml:Nat→List (Nat×TypeId):=fun _=>[]
theorem XiR  (w:World) (Q:VWP) (h:XhW  w Q):Xa Tryz.prog 9 #[] w Q:=
 Xc Xml Tryz.func9 h (fun _ _=>by kernel_rfl) (by kernel_rfl) (by kernel_rfl) (by kernel_rfl)
def XhX (H:Option Addr) (r:Nat) (I:Nat) (w:World) (Q:VWP):Prop:=
 cond (decide (((r:Nat):Int) > 60))
 (Q (.bool true) w)
 (LoopS [.slice H r I,.bool false,.int .i64 0] w fun J L j _ f=>
 ∃ c b d s i,j=[.slice c b d,.bool s,.int .i64 i]∧
 cond (decide (i<((b:Nat):Int)))
 (∃ k,IxA Tryz.prog 51 (.slice c b d) (.int .i64 i) k∧
 ∃ (g:Array Value),Ld Tryz.prog 53 (.pointer (some k)) f (.agg g)∧
 ∃ t,Pu Tryz.prog (zeroValue 53) t∧
 New t.cells 53 f fun e M=>
 ∃ a,Sto Tryz.prog 53 (.pointer (some ⟨e,0,none⟩)) (.agg g) M a∧
 ∃ u l v,Ld Tryz.prog 22 (.pointer (some ((⟨e,0,none⟩:Addr).add 6))) a (.slice u l v)∧
 cond (decide (((l:Nat):Int) > 100))
 (Q (.bool true) a)
 (∃ x m y,Ld Tryz.prog 22 (.pointer (some ((⟨e,0,none⟩:Addr).add 7))) a (.slice x m y)∧
 cond (decide (((m:Nat):Int) > 100))
 (Q (.bool true) a)
 (∃ z n A,Ld Tryz.prog 22 (.pointer (some ((((⟨e,0,none⟩:Addr).add 8).add 0).add 2))) a (.slice z n A)∧
 cond (decide (((n:Nat):Int) > 100))
 (Q (.bool true) a)
 (∃ B o C,Ld Tryz.prog 22 (.pointer (some ((((⟨e,0,none⟩:Addr).add 8).add 0).add 3))) a (.slice B o C)∧
 cond (decide (((o:Nat):Int) > 100))
 (Q (.bool true) a)
 (∃ D p E,Ld Tryz.prog 22 (.pointer (some (((⟨e,0,none⟩:Addr).add 8).add 4))) a (.slice D p E)∧
 cond (decide (((p:Nat):Int) > 300))
 (Q (.bool true) a)
 (∃ F q G,Ld Tryz.prog 22 (.pointer (some (((⟨e,0,none⟩:Addr).add 8).add 5))) a (.slice F q G)∧
 cond (decide (((q:Nat):Int) > 100))
 (Q (.bool true) a)
 (Xh [] [] J L j [.slice c b d,.bool s,.int .i64 (IntKind.i64.wrap (i+1))] f a)))))))
 (Q (.bool false) f))
def Xmm:Nat→List (Nat×TypeId):=fun n=>match n with | 0=>[(0,51),(2,4),(3,3)] | _=>[]
theorem XiS (a:Option Addr) (b:Nat) (c:Nat) (w:World) (Q:VWP) (h:XhX a b c w Q):Xa Tryz.prog 14 #[.slice a b c] w Q:=
 Xc Xmm Tryz.func14 h (fun _ _=>by kernel_rfl) (by kernel_rfl) (by kernel_rfl) (by kernel_rfl)
def XdZ (o:Option Addr) (p:Nat) (q:Nat) (r:Option Addr) (s:Option Addr) (t:Option Addr) (w:World) (Q:VWP):Prop:=
 LoopS [.slice o p q,.pointer r,.pointer s,.pointer t,.int .i64 0] w fun u v k _ f=>
 ∃ c a d g b e j,k=[.slice c a d,.pointer g,.pointer b,.pointer e,.int .i64 j]∧
 cond (decide (j<((a:Nat):Int)))
 (∃ l,IxA Tryz.prog 51 (.slice c a d) (.int .i64 j) l∧
 ∃ (i:Array Value),Ld Tryz.prog 53 (.pointer (some l)) f (.agg i)∧
 Xa Tryz.prog 26 #[.pointer b,.pointer e,.agg i] f fun m x=>
 ∃ n,m=.bool n∧
 Xh [] [] u v k [.slice c a d,.pointer g,.pointer b,.pointer e,.int .i64 (IntKind.i64.wrap (j+1))] f x)
 (Q (.pointer b) f)
def XkG (J:Int) (L:Bool) (u:Int) (v:Int) (M:Option Addr) (N:Nat) (O:Nat) (w:World) (Q:VWP):Prop:=
 New #[.int .i64 J,.bool L,.int .i64 u,.int .u64 v] 30 w fun A B=>
 ∃ k l b c,Ld Tryz.prog 30 (.pointer (some ⟨A,0,none⟩)) B (.agg #[.int .i64 k,.bool l,.int .i64 b,.int .u64 c])∧
 Xa Tryz.prog 10 #[.agg #[.int .i64 k,.bool l,.int .i64 b,.int .u64 c]] B fun C D=>
 ∃ a m,C=.tuple #[.pointer a,.int .i64 m]∧
 ∃ n o d e,Ld Tryz.prog 30 (.pointer (some ⟨A,0,none⟩)) D (.agg #[.int .i64 n,.bool o,.int .i64 d,.int .u64 e])∧
 Xa Tryz.prog 17 #[.agg #[.int .i64 n,.bool o,.int .i64 d,.int .u64 e]] D fun E P=>
 ∃ p q f g,E=.agg #[.int .i64 p,.bool q,.int .i64 f,.int .u64 g]∧
 Xa Tryz.prog 25 #[.agg #[.int .i64 p,.bool q,.int .i64 f,.int .u64 g]] P fun F G=>
 ∃ i H,F=.tuple #[.pointer i,.int .i64 H]∧
 cond (m != 0)
 (Q (.pointer none) G)
 (∃ r x,Ef Tryz.prog (do eqGuard .eql 24 (.tmp 24) (.const (.pointer none)) (.pointer a) (.pointer none); binOp .eql 24 (.pointer a) (.pointer none):Sem Value) G (.bool r) x∧
 cond r
 (Q (.pointer none) x)
 (Xa Tryz.prog 21 #[.pointer a] x fun I R=>
 ∃ j,I=.pointer j∧
 ∃ s y,Ef Tryz.prog (do eqGuard .eql 41 (.tmp 29) (.const (.pointer none)) (.pointer j) (.pointer none); binOp .eql 41 (.pointer j) (.pointer none):Sem Value) R (.bool s) y∧
 cond s
 (Q (.pointer none) y)
 (∃ t z,Ef Tryz.prog (do eqGuard .eql 74 (.tmp 33) (.const (.pointer none)) (.pointer i) (.pointer none); binOp .eql 74 (.pointer i) (.pointer none):Sem Value) y (.bool t) z∧
 cond t
 (Q (.pointer none) z)
 (XdZ M N O none a i z Q))))
def Xos:Nat→List (Nat×TypeId):=fun n=>match n with | 0=>[(1,51),(4,24),(5,24),(7,74),(9,3)] | _=>[]
theorem XkH (c:Int) (d:Bool) (a:Int) (b:Int) (e:Option Addr) (f:Nat) (g:Nat) (w:World) (Q:VWP) (h:XkG c d a b e f g w Q):Xa Tryz.prog 15 #[.agg #[.int .i64 c,.bool d,.int .i64 a,.int .u64 b],.slice e f g] w Q:=
 Xc Xos Tryz.func15 h (fun _ _=>by kernel_rfl) (by kernel_rfl) (by kernel_rfl) (by kernel_rfl)
def Xqp (o:Int) (p:Bool) (e:Int) (f:Int) (w:World) (Q:VWP):Prop:=
 New #[.int .i64 o,.bool p,.int .i64 e,.int .u64 f] 30 w fun b q=>
 ∃ g,Pu Tryz.prog (zeroValue 57) g∧
 New g.cells 57 q fun i a=>
 ∃ j,Ld Tryz.prog 3 (.pointer (some ((⟨b,0,none⟩:Addr).add 0))) a (.int .i64 j)∧
 ∃ k,Ld Tryz.prog 4 (.pointer (some ((⟨b,0,none⟩:Addr).add 1))) a (.bool k)∧
 ∃ l,Ld Tryz.prog 3 (.pointer (some ((⟨b,0,none⟩:Addr).add 2))) a (.int .i64 l)∧
 ∃ d,Ld Tryz.prog 28 (.pointer (some ((⟨b,0,none⟩:Addr).add 3))) a (.int .u64 d)∧
 ∃ c,Sto Tryz.prog 57 (.pointer (some ⟨i,0,none⟩)) (.agg #[.int .i64 j,.bool k,.int .i64 l,.int .u64 d]) a c∧
 ∃ m n,(.pointer (some ⟨i,0,none⟩):Value)=.pointer (some m)∧(loadVar 57 m).run Tryz.prog c=.ok n c∧
 Q (n) c
def XrX:Nat→List (Nat×TypeId):=fun _=>[]
theorem Xot (c:Int) (d:Bool) (a:Int) (b:Int) (w:World) (Q:VWP) (h:Xqp c d a b w Q):Xa Tryz.prog 17 #[.agg #[.int .i64 c,.bool d,.int .i64 a,.int .u64 b]] w Q:=
 Xc XrX Tryz.func17 h (fun _ _=>by kernel_rfl) (by kernel_rfl) (by kernel_rfl) (by kernel_rfl)
def Xqq (ab:Option Addr) (ac:Option Addr) (bu:Array Value) (w:World) (Q:VWP):Prop:=
 New bu 53 w fun a e=>
 ∃ aa,Ld Tryz.prog 3 (.pointer (some ((⟨a,0,none⟩:Addr).add 0))) e (.int .i64 aa)∧
 cond (aa == 0)
 (∃ (b:World→Prop),
 Drw e fun c=>
 ∃ ak al am,HLd Tryz.prog b 22 (.pointer (some ((⟨a,0,none⟩:Addr).add 6))) c (.slice ak al am)∧
 ∃ an f ao ap aq g i j k l m n o p,HLd Tryz.prog b 38 (.pointer (some ((⟨a,0,none⟩:Addr).add 8))) c (.agg #[.int .u8 an,.int .u32 f,.slice ao ap aq,.slice g i j,.slice k l m,.slice n o p])∧
 ∃ ar,HLd Tryz.prog b 28 (.pointer (some ((⟨a,0,none⟩:Addr).add 14))) c (.int .u64 ar)∧
 ∃ au av ax,HLd Tryz.prog b 22 (.pointer (some ((⟨a,0,none⟩:Addr).add 7))) c (.slice au av ax)∧
 ∃ ay az aA,HLd Tryz.prog b 22 (.pointer (some ((⟨a,0,none⟩:Addr).add 6))) c (.slice ay az aA)∧
 ∃ aB q aC aD aE r s t u v x y z A,HLd Tryz.prog b 38 (.pointer (some ((⟨a,0,none⟩:Addr).add 8))) c (.agg #[.int .u8 aB,.int .u32 q,.slice aC aD aE,.slice r s t,.slice u v x,.slice y z A])∧
 ∃ aF,HLd Tryz.prog b 28 (.pointer (some ((⟨a,0,none⟩:Addr).add 14))) c (.int .u64 aF)∧
 ∃ aG aH aI,HLd Tryz.prog b 22 (.pointer (some ((⟨a,0,none⟩:Addr).add 7))) c (.slice aG aH aI)∧
 Xa Tryz.prog 19 #[.slice ak al am] c fun bv ah=>
 ∃ aJ aL aM,bv=.slice aJ aL aM∧
 (ah=c∨b ah)∧
 Xa Tryz.prog 19 #[.slice au av ax] ah fun bx ai=>
 ∃ aN aO aP,bx=.slice aN aO aP∧
 (ai=ah∨b ai)∧
 Xa Tryz.prog 11 #[.pointer ab,.slice aJ aL aM,.agg #[.int .u8 an,.int .u32 f,.slice ao ap aq,.slice g i j,.slice k l m,.slice n o p],.int .u64 ar,.slice aN aO aP] ai fun bz aj=>
 ∃ aR aS B aT aU aV C,bz=.agg #[.int .i64 aR,.bool aS,.int .i64 B,.slice aT aU aV,.int .i64 C]∧
 (aj=ai∨b aj)∧
 Xa Tryz.prog 54 #[.agg #[.int .u8 aB,.int .u32 q,.slice aC aD aE,.slice r s t,.slice u v x,.slice y z A]] aj fun bA bs=>
 ∃ aW D aX aY aZ E F G H I J L M N,bA=.agg #[.int .u8 aW,.int .u32 D,.slice aX aY aZ,.slice E F G,.slice H I J,.slice L M N]∧
 (bs=aj∨b bs)∧
 Xa Tryz.prog 53 #[.pointer ac,.slice ay az aA,.agg #[.int .u8 aW,.int .u32 D,.slice aX aY aZ,.slice E F G,.slice H I J,.slice L M N],.int .u64 aF,.slice aG aH aI] bs fun bB bT=>
 ∃ a0 a1 O a2 a3 a4 P,bB=.agg #[.int .i64 a0,.bool a1,.int .i64 O,.slice a2 a3 a4,.int .i64 P]∧
 Xa Tryz.prog 52 #[.agg #[.int .i64 aR,.bool aS,.int .i64 B,.slice aT aU aV,.int .i64 C],.agg #[.int .i64 a0,.bool a1,.int .i64 O,.slice a2 a3 a4,.int .i64 P]] bT fun bC bU=>
 ∃ a5,bC=.bool a5∧
 Q (.bool a5) bU)
 (cond (aa == 1)
 (∃ a6,ab=some a6∧
 Xa Tryz.prog 13 #[.pointer (some (a6.add 0))] e fun bD bV=>
 bD=.tuple #[]∧
 Xa Tryz.prog 55 #[.pointer ac] bV fun bE bF=>
 bE=.tuple #[]∧
 Q (.bool true) bF)
 (cond (aa == 2)
 (∃ (bt:World→Prop),
 Drw e fun R=>
 ∃ a7 a8 S T,HLd Tryz.prog bt 30 (.pointer (some ((⟨a,0,none⟩:Addr).add 2))) R (.agg #[.int .i64 a7,.bool a8,.int .i64 S,.int .u64 T])∧
 ∃ a9 ba U V,HLd Tryz.prog bt 30 (.pointer (some ((⟨a,0,none⟩:Addr).add 2))) R (.agg #[.int .i64 a9,.bool ba,.int .i64 U,.int .u64 V])∧
 Xa Tryz.prog 29 #[.pointer ab,.agg #[.int .i64 a7,.bool a8,.int .i64 S,.int .u64 T]] R fun bG ad=>
 ∃ bb,bG=.int .i64 bb∧
 (ad=R∨bt ad)∧
 Xa Tryz.prog 17 #[.agg #[.int .i64 a9,.bool ba,.int .i64 U,.int .u64 V]] ad fun bH bI=>
 ∃ bc bd W X,bH=.agg #[.int .i64 bc,.bool bd,.int .i64 W,.int .u64 X]∧
 Xa Tryz.prog 56 #[.pointer ac,.agg #[.int .i64 bc,.bool bd,.int .i64 W,.int .u64 X]] bI fun bJ bL=>
 ∃ be,bJ=.int .i64 be∧
 Q (.bool (bb == be)) bL)
 (cond (aa == 3)
 (∃ (Y:World→Prop),
 Drw e fun d=>
 ∃ bf,ac=some bf∧
 ∃ bg,HLd Tryz.prog Y 94 (.pointer (some (bf.add 4))) d (.pointer bg)∧
 ∃ bh,HLd Tryz.prog Y 3 (.pointer (some ((⟨a,0,none⟩:Addr).add 1))) d (.int .i64 bh)∧
 ∃ bi bj bk,HLd Tryz.prog Y 22 (.pointer (some ((⟨a,0,none⟩:Addr).add 7))) d (.slice bi bj bk)∧
 Xa Tryz.prog 21 #[.pointer ab] d fun bM ae=>
 ∃ bl,bM=.pointer bl∧
 (ae=d∨Y ae)∧
 Xa Tryz.prog 57 #[.pointer bl,.pointer bg,.agg #[.int .i64 0,.int .i64 bh,.slice bi bj bk]] ae fun bN bO=>
 ∃ bm,bN=.bool bm∧
 Q (.bool bm) bO)
 (cond (aa == 4)
 (∃ (af:World→Prop),
 Drw e fun Z=>
 ∃ bn,ac=some bn∧
 ∃ bo,HLd Tryz.prog af 94 (.pointer (some (bn.add 4))) Z (.pointer bo)∧
 ∃ bp,HLd Tryz.prog af 3 (.pointer (some ((⟨a,0,none⟩:Addr).add 1))) Z (.int .i64 bp)∧
 Xa Tryz.prog 21 #[.pointer ab] Z fun bP ag=>
 ∃ bq,bP=.pointer bq∧
 (ag=Z∨af ag)∧
 Xa Tryz.prog 57 #[.pointer bq,.pointer bo,.agg #[.int .i64 1,.int .i64 bp,.slice none 0 0]] ag fun bR bS=>
 ∃ br,bR=.bool br∧
 Q (.bool br) bS)
 (Q (.bool true) e)))))
def XrY:Nat→List (Nat×TypeId):=fun _=>[]
theorem Xou (b:Option Addr) (c:Option Addr) (a:Array Value) (w:World) (Q:VWP) (h:Xqq b c a w Q):Xa Tryz.prog 26 #[.pointer b,.pointer c,.agg a] w Q:=
 Xc XrY Tryz.func26 h (fun _ _=>by kernel_rfl) (by kernel_rfl) (by kernel_rfl) (by kernel_rfl)
def XkI (A:Int) (B:Bool) (s:Int) (C:Option Addr) (D:Nat) (E:Nat) (t:Int) (F:Int) (G:Bool) (u:Int) (H:Option Addr) (I:Nat) (J:Nat) (v:Int) (w:World) (Q:VWP):Prop:=
 New #[.int .i64 A,.bool B,.int .i64 s,.slice C D E,.int .i64 t] 32 w fun b L=>
 New #[.int .i64 F,.bool G,.int .i64 u,.slice H I J,.int .i64 v] 120 L fun c a=>
 ∃ x,Ld Tryz.prog 3 (.pointer (some ((⟨b,0,none⟩:Addr).add 0))) a (.int .i64 x)∧
 ∃ y,Ld Tryz.prog 3 (.pointer (some ((⟨c,0,none⟩:Addr).add 0))) a (.int .i64 y)∧
 cond (x == y)
 (∃ e,Ld Tryz.prog 4 (.pointer (some ((⟨b,0,none⟩:Addr).add 1))) a (.bool e)∧
 ∃ f,Ld Tryz.prog 4 (.pointer (some ((⟨c,0,none⟩:Addr).add 1))) a (.bool f)∧
 cond (e == f)
 (∃ g,Ld Tryz.prog 25 (.pointer (some ((⟨b,0,none⟩:Addr).add 2))) a (.int .i64 g)∧
 ∃ i,Ld Tryz.prog 25 (.pointer (some ((⟨c,0,none⟩:Addr).add 2))) a (.int .i64 i)∧
 cond (g == i)
 (∃ j k l,Ld Tryz.prog 22 (.pointer (some ((⟨b,0,none⟩:Addr).add 3))) a (.slice j k l)∧
 ∃ m n o,Ld Tryz.prog 22 (.pointer (some ((⟨c,0,none⟩:Addr).add 3))) a (.slice m n o)∧
 Xa Tryz.prog 23 #[.slice j k l,.slice m n o] a fun z d=>
 ∃ p,z=.bool p∧
 cond p
 (∃ q,Ld Tryz.prog 3 (.pointer (some ((⟨b,0,none⟩:Addr).add 4))) d (.int .i64 q)∧
 ∃ r,Ld Tryz.prog 3 (.pointer (some ((⟨c,0,none⟩:Addr).add 4))) d (.int .i64 r)∧
 Q (.bool (q == r)) d)
 (Q (.bool false) d))
 (Q (.bool false) a))
 (Q (.bool false) a))
 (Q (.bool false) a)
def Xov:Nat→List (Nat×TypeId):=fun _=>[]
theorem XkJ (e:Int) (f:Bool) (a:Int) (g:Option Addr) (i:Nat) (j:Nat) (b:Int) (k:Int) (l:Bool) (c:Int) (m:Option Addr) (n:Nat) (o:Nat) (d:Int) (w:World) (Q:VWP) (h:XkI e f a g i j b k l c m n o d w Q):Xa Tryz.prog 52 #[.agg #[.int .i64 e,.bool f,.int .i64 a,.slice g i j,.int .i64 b],.agg #[.int .i64 k,.bool l,.int .i64 c,.slice m n o,.int .i64 d]] w Q:=
 Xc Xov Tryz.func52 h (fun _ _=>by kernel_rfl) (by kernel_rfl) (by kernel_rfl) (by kernel_rfl)
end Go.Sh
end
