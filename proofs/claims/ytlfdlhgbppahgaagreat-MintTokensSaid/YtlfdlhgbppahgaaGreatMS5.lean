/- A part of a proof of a given law of this program: lemmas, printed forms of its functions, contracts. It has no conditions of its own. -/
import Derived.Test.YtlfdlhgbppahgaaGreatProg
import Derived.Test.YtlfdlhgbppahgaaGreatMW0

set_option maxHeartbeats 16000000
section
namespace Go.Sh
open Go Go.Fw Go.Proofs
set_option maxRecDepth 100000
set_option linter.unusedVariables false
def Yp (ap:Option Addr) (aq:Nat) (ar:Nat) (ax:Addr) (az:Bool) (au:Option Addr) (c:Addr) (av:Addr) (e:Addr) (w:World) (Q:VWP):Prop:=
 ∃ f g i,Ld Tryz.prog 22 (.pointer (some (ax.add 6))) w (.slice f g i)∧
 Xa Tryz.prog 23 #[.slice ap aq ar,.slice f g i] w fun ae d=>
 ∃ j,ae=.bool j∧
 cond j
 (∃ k,Ld Tryz.prog 3 (.pointer (some (e.add 0))) d (.int .i64 k)∧
 ∃ l,Ld Tryz.prog 3 (.pointer (some (av.add 0))) d (.int .i64 l)∧
 Q (.bool (k == l)) d)
 (∃ af m ag,Ld Tryz.prog 22 (.pointer (some (c.add 4))) d (.slice af m ag)∧
 cond (decide (((m:Nat):Int)<29))
 (Q (.bool false) d)
 (∃ (n:World→Prop),
 Drw d fun ac=>
 ∃ o p q,HLd Tryz.prog n 22 (.pointer (some (c.add 4))) ac (.slice o p q)∧
 ∃ r,IxA Tryz.prog 22 (.slice o p q) (.int .i64 0) r∧
 ∃ s,HLd Tryz.prog n 5 (.pointer (some r)) ac (.int .u8 s)∧
 Xa Tryz.prog 21 #[.pointer au] ac fun ah ai=>
 ∃ t,ah=.pointer t∧
 (ai=ac∨n ai)∧
 Xa Tryz.prog 30 #[.pointer t,.int .i64 (IntKind.i64.wrap s)] ai fun aj ay=>
 ∃ u v x ak,aj=.tuple #[.slice u v x,.bool ak]∧
 ∃ (b:World→Prop),
 Drw ay fun a=>
 ∃ y z A,HLd Tryz.prog b 22 (.pointer (some (c.add 4))) a (.slice y z A)∧
 ∃ B C D,Pu Tryz.prog (Instr.sliceAt 22 (.slice y z A) (some (.int .i64 1)) (some (.int .i64 13)) none) (.slice B C D)∧
 ∃ E F G,HLd Tryz.prog b 22 (.pointer (some (c.add 4))) a (.slice E F G)∧
 ∃ H I J,Pu Tryz.prog (Instr.sliceAt 22 (.slice E F G) (some (.int .i64 13)) none none) (.slice H I J)∧
 ∃ L M N,Ld Tryz.prog 22 (.pointer (some (c.add 4))) a (.slice L M N)∧
 (a=a∨b a)∧
 ∃ O,IxA Tryz.prog 22 (.slice L M N) (.int .i64 0) O∧
 ∃ P,Ld Tryz.prog 5 (.pointer (some O)) a (.int .u8 P)∧
 (a=a∨b a)∧
 ∃ R S T U,Ef Tryz.prog (Instr.buildSlice 22 1 #[(0,.int .u8 P)]) a (.slice R S T) U∧
 (U=a∨b U)∧
 ∃ V W X ad,Ef Tryz.prog (Builtin.append_ #[22,22] 22 #[.slice R S T,.slice ap aq ar]) U (.slice V W X) ad∧
 (ad=U∨b ad)∧
 Xa Tryz.prog 31 #[.slice u v x,.slice B C D,.slice H I J,.slice V W X] ad fun al Y=>
 ∃ am an ao Z,al=.tuple #[.slice am an ao,.int .i64 Z]∧
 cond (Z == 0)
 (Q (.bool true) Y)
 (∃ aa,Ld Tryz.prog 3 (.pointer (some (e.add 0))) Y (.int .i64 aa)∧
 cond (aa == 2)
 (∃ ab,Ld Tryz.prog 25 (.pointer (some (e.add 2))) Y (.int .i64 ab)∧
 Q (.bool (ab == 13)) Y)
 (Q (.bool false) Y))))
def ZE (ap:Int) (U:Option Addr) (V:Nat) (W:Nat) (aq:Addr) (X:Bool) (l:Option Addr) (Y:Addr) (ay:Addr) (Z:Addr) (w:World) (Q:VWP):Prop:=
 ∃ (m:World→Prop),
 Drw w fun aa=>
 ∃ n a o p q b c d e f g i j k,HLd Tryz.prog m 38 (.pointer (some ay)) aa (.agg #[.int .u8 n,.int .u32 a,.slice o p q,.slice b c d,.slice e f g,.slice i j k])∧
 (Xa Tryz.prog 19 #[.slice U V W] aa fun ar ab=>
 ∃ M N O,ar=.slice M N O∧
 (ab=aa∨m ab)∧
 (Xa Tryz.prog 11 #[.pointer l,.slice M N O,.agg #[.int .u8 n,.int .u32 a,.slice o p q,.slice b c d,.slice e f g,.slice i j k],.int .u64 ap,.slice none 0 0] ab fun au az=>
 ∃ ac ad r ae af ag s,au=.agg #[.int .i64 ac,.bool ad,.int .i64 r,.slice ae af ag,.int .i64 s]∧
 ∃ am,Pu Tryz.prog (zeroValue 32) am∧
 New am.cells 32 az fun an av=>
 (av=az∨m av)∧
 ∃ aA,Sto Tryz.prog 32 (.pointer (some ⟨an,0,none⟩)) (.agg #[.int .i64 ac,.bool ad,.int .i64 r,.slice ae af ag,.int .i64 s]) av aA∧
 Yp U V W aq X l Y Z (⟨an,0,none⟩:Addr) aA Q)∧
 (∃ P,Pu Tryz.prog (zeroValue 32) P∧
 New P.cells 32 ab fun R ax=>
 (ax=ab∨m ax)∧
 Xa Tryz.prog 11 #[.pointer l,.slice M N O,.agg #[.int .u8 n,.int .u32 a,.slice o p q,.slice b c d,.slice e f g,.slice i j k],.int .u64 ap,.slice none 0 0] ax fun ah aD=>
 ∃ t u v x y z A,ah=.agg #[.int .i64 t,.bool u,.int .i64 v,.slice x y z,.int .i64 A]∧
 ∃ aB,Sto Tryz.prog 32 (.pointer (some ⟨R,0,none⟩)) (.agg #[.int .i64 t,.bool u,.int .i64 v,.slice x y z,.int .i64 A]) aD aB∧
 Yp U V W aq X l Y Z (⟨R,0,none⟩:Addr) aB Q))∧
 (∃ S,Pu Tryz.prog (zeroValue 32) S∧
 New S.cells 32 aa fun T al=>
 (al=aa∨m al)∧
 Xa Tryz.prog 19 #[.slice U V W] al fun ai aj=>
 ∃ B C D,ai=.slice B C D∧
 (aj=al∨m aj)∧
 Xa Tryz.prog 11 #[.pointer l,.slice B C D,.agg #[.int .u8 n,.int .u32 a,.slice o p q,.slice b c d,.slice e f g,.slice i j k],.int .u64 ap,.slice none 0 0] aj fun ak aC=>
 ∃ E F G H I J L,ak=.agg #[.int .i64 E,.bool F,.int .i64 G,.slice H I J,.int .i64 L]∧
 ∃ ao,Sto Tryz.prog 32 (.pointer (some ⟨T,0,none⟩)) (.agg #[.int .i64 E,.bool F,.int .i64 G,.slice H I J,.int .i64 L]) aC ao∧
 Yp U V W aq X l Y Z (⟨T,0,none⟩:Addr) ao Q)
def JM (j:Int) (k:Option Addr) (l:Nat) (m:Nat) (n:Addr) (d:Bool) (e:Option Addr) (f:Addr) (g:Addr) (a:Addr) (i:Bool) (w:World) (Q:VWP):Prop:=
 ∃ b,Ld Tryz.prog 3 (.pointer (some (a.add 0))) w (.int .i64 b)∧
 cond (b == 0)
 (∃ c,Ld Tryz.prog 4 (.pointer (some (a.add 1))) w (.bool c)∧
 cond (!(i == c))
 (Q (.bool false) w)
 (ZE j k l m n d e f g a w Q))
 (cond (!(i == false))
 (Q (.bool false) w)
 (ZE j k l m n d e f g a w Q))
def ZF (k:Int) (l:Option Addr) (m:Nat) (n:Nat) (o:Addr) (e:Bool) (f:Option Addr) (g:Addr) (i:Addr) (a:Addr) (j:Bool) (d:Bool) (w:World) (Q:VWP):Prop:=
 cond d
 (∃ b,Ld Tryz.prog 3 (.pointer (some (a.add 0))) w (.int .i64 b)∧
 cond (b == 0)
 (∃ c,Ld Tryz.prog 4 (.pointer (some (a.add 1))) w (.bool c)∧
 Q (.bool (!c)) w)
 (Q (.bool false) w))
 (JM k l m n o e f g i a j w Q)
def ZG (p:Int) (q:Option Addr) (r:Nat) (s:Nat) (t:Addr) (g:Bool) (a:Option Addr) (i:Addr) (j:Addr) (k:Addr) (l:Bool) (w:World) (Q:VWP):Prop:=
 ∃ b,a=some b∧
 Xa Tryz.prog 12 #[.pointer (some (b.add 0))] w fun m u=>
 ∃ c,m=.bool c∧
 cond (!c)
 (Xa Tryz.prog 28 #[.pointer a] u fun n v=>
 ∃ o d e f,n=.agg #[.int .i64 o,.bool d,.int .i64 e,.int .u64 f]∧
 ZF p q r s t g a i j k l d v Q)
 (ZF p q r s t g a i j k l false u Q)
def Yq (c:Int) (k:Option Addr) (l:Nat) (m:Nat) (d:Addr) (e:Bool) (f:Option Addr) (g:Addr) (n:Int) (i:Addr) (j:Addr) (w:World) (Q:VWP):Prop:=
 ∃ a,Ld Tryz.prog 28 (.pointer (some (d.add 14))) w (.int .u64 a)∧
 cond (decide (c≤a))
 (ZG c k l m d e f g i j true w Q)
 (∃ b,Ld Tryz.prog 28 (.pointer (some (d.add 14))) w (.int .u64 b)∧
 ZG c k l m d e f g i j (decide ((IntKind.u64.wrap (c - b))≤n)) w Q)
def X3 (ax:Int) (bn:Option Addr) (bo:Nat) (bp:Nat) (ay:Addr) (bu:Addr) (az:Bool) (a:Option Addr) (aU:Addr) (w:World) (Q:VWP):Prop:=
 ∃ aV,Ld Tryz.prog 3 (.pointer (some (aU.add 0))) w (.int .i64 aV)∧
 cond (aV != 1)
 (Q (.bool true) w)
 (∃ aW aX aY,Ld Tryz.prog 22 (.pointer (some (aU.add 3))) w (.slice aW aX aY)∧
 Xa Tryz.prog 22 #[.slice aW aX aY] w fun bv bJ=>
 ∃ aZ J a0 a1 a2 L M N O P R S T U V,bv=.tuple #[.agg #[.int .u8 aZ,.int .u32 J,.slice a0 a1 a2,.slice L M N,.slice O P R,.slice S T U],.int .i64 V]∧
 ∃ a3,Pu Tryz.prog (zeroValue 68) a3∧
 New a3.cells 68 bJ fun p bL=>
 ∃ bq,Sto Tryz.prog 68 (.pointer (some ⟨p,0,none⟩)) (.agg #[.int .u8 aZ,.int .u32 J,.slice a0 a1 a2,.slice L M N,.slice O P R,.slice S T U]) bL bq∧
 cond (V != 0)
 (Q (.bool false) bq)
 (Xa Tryz.prog 28 #[.pointer a] bq fun bx bz=>
 ∃ bA bB aS b,bx=.agg #[.int .i64 bA,.bool bB,.int .i64 aS,.int .u64 b]∧
 ∃ a4 a5 W X,Ld Tryz.prog 30 (.pointer (some bu)) bz (.agg #[.int .i64 a4,.bool a5,.int .i64 W,.int .u64 X])∧
 Xa Tryz.prog 29 #[.pointer a,.agg #[.int .i64 a4,.bool a5,.int .i64 W,.int .u64 X]] bz fun bC bD=>
 ∃ bE,bC=.int .i64 bE∧
 ∃ a6 Y a7 a8 a9 Z aa ab ac ad ae af ag ah,Ld Tryz.prog 38 (.pointer (some (ay.add 8))) bD (.agg #[.int .u8 a6,.int .u32 Y,.slice a7 a8 a9,.slice Z aa ab,.slice ac ad ae,.slice af ag ah])∧
 ∃ ba,Pu Tryz.prog (zeroValue 38) ba∧
 New ba.cells 38 bD fun n bM=>
 ∃ br,Sto Tryz.prog 38 (.pointer (some ⟨n,0,none⟩)) (.agg #[.int .u8 a6,.int .u32 Y,.slice a7 a8 a9,.slice Z aa ab,.slice ac ad ae,.slice af ag ah]) bM br∧
 ∃ bb bc bd,Ld Tryz.prog 22 (.pointer (some ((⟨p,0,none⟩:Addr).add 4))) br (.slice bb bc bd)∧
 ∃ bs,Sto Tryz.prog 22 (.pointer (some ((⟨n,0,none⟩:Addr).add 4))) (.slice bb bc bd) br bs∧
 ∃ be bf bg,Ld Tryz.prog 22 (.pointer (some (((⟨p,0,none⟩:Addr).add 0).add 3))) bs (.slice be bf bg)∧
 ∃ bF,Sto Tryz.prog 22 (.pointer (some (((⟨n,0,none⟩:Addr).add 0).add 2))) (.slice be bf bg) bs bF∧
 ∃ (o:World→Prop),
 Drw bF fun q=>
 ∃ aA aB aC,HLd Tryz.prog o 22 (.pointer (some (ay.add 6))) q (.slice aA aB aC)∧
 ∃ ai c aj ak al d e f g i j k l m,HLd Tryz.prog o 38 (.pointer (some ⟨n,0,none⟩)) q (.agg #[.int .u8 ai,.int .u32 c,.slice aj ak al,.slice d e f,.slice g i j,.slice k l m])∧
 (Xa Tryz.prog 19 #[.slice aA aB aC] q fun bG r=>
 ∃ aD aE aF,bG=.slice aD aE aF∧
 (r=q∨o r)∧
 (Xa Tryz.prog 11 #[.pointer a,.slice aD aE aF,.agg #[.int .u8 ai,.int .u32 c,.slice aj ak al,.slice d e f,.slice g i j,.slice k l m],.int .u64 ax,.slice none 0 0] r fun bt bh=>
 ∃ aG aH s aI aJ aL t,bt=.agg #[.int .i64 aG,.bool aH,.int .i64 s,.slice aI aJ aL,.int .i64 t]∧
 ∃ bi,Pu Tryz.prog (zeroValue 32) bi∧
 New bi.cells 32 bh fun bj aM=>
 (aM=bh∨o aM)∧
 ∃ bk,Sto Tryz.prog 32 (.pointer (some ⟨bj,0,none⟩)) (.agg #[.int .i64 aG,.bool aH,.int .i64 s,.slice aI aJ aL,.int .i64 t]) aM bk∧
 Yq ax bn bo bp ay az a (⟨p,0,none⟩:Addr) b (⟨n,0,none⟩:Addr) (⟨bj,0,none⟩:Addr) bk Q)∧
 (∃ am,Pu Tryz.prog (zeroValue 32) am∧
 New am.cells 32 r fun an aN=>
 (aN=r∨o aN)∧
 Xa Tryz.prog 11 #[.pointer a,.slice aD aE aF,.agg #[.int .u8 ai,.int .u32 c,.slice aj ak al,.slice d e f,.slice g i j,.slice k l m],.int .u64 ax,.slice none 0 0] aN fun aO bH=>
 ∃ u v x y z A B,aO=.agg #[.int .i64 u,.bool v,.int .i64 x,.slice y z A,.int .i64 B]∧
 ∃ bl,Sto Tryz.prog 32 (.pointer (some ⟨an,0,none⟩)) (.agg #[.int .i64 u,.bool v,.int .i64 x,.slice y z A,.int .i64 B]) bH bl∧
 Yq ax bn bo bp ay az a (⟨p,0,none⟩:Addr) b (⟨n,0,none⟩:Addr) (⟨an,0,none⟩:Addr) bl Q))∧
 (∃ ao,Pu Tryz.prog (zeroValue 32) ao∧
 New ao.cells 32 q fun ap aq=>
 (aq=q∨o aq)∧
 Xa Tryz.prog 19 #[.slice aA aB aC] aq fun aT aP=>
 ∃ ar au av,aT=.slice ar au av∧
 (aP=aq∨o aP)∧
 Xa Tryz.prog 11 #[.pointer a,.slice ar au av,.agg #[.int .u8 ai,.int .u32 c,.slice aj ak al,.slice d e f,.slice g i j,.slice k l m],.int .u64 ax,.slice none 0 0] aP fun aR bI=>
 ∃ C D E F G H I,aR=.agg #[.int .i64 C,.bool D,.int .i64 E,.slice F G H,.int .i64 I]∧
 ∃ bm,Sto Tryz.prog 32 (.pointer (some ⟨ap,0,none⟩)) (.agg #[.int .i64 C,.bool D,.int .i64 E,.slice F G H,.int .i64 I]) bI bm∧
 Yq ax bn bo bp ay az a (⟨p,0,none⟩:Addr) b (⟨n,0,none⟩:Addr) (⟨ap,0,none⟩:Addr) bm Q)))
def Vy (bx:Option Addr) (bz:Nat) (bA:Nat) (aP:Int) (aR:Option Addr) (aS:Nat) (aT:Nat) (bl:Addr) (n:Addr) (x:Addr) (y:Bool) (w:World) (Q:VWP):Prop:=
 ∃ a1 a2 z A,Ld Tryz.prog 30 (.pointer (some bl)) w (.agg #[.int .i64 a1,.bool a2,.int .i64 z,.int .u64 A])∧
 Xa Tryz.prog 15 #[.agg #[.int .i64 a1,.bool a2,.int .i64 z,.int .u64 A],.slice bx bz bA] w fun bm bB=>
 ∃ a,bm=.pointer a∧
 ∃ a3 aU,Ef Tryz.prog (do eqGuard .eql 24 (.tmp 49) (.const (.pointer none)) (.pointer a) (.pointer none); binOp .eql 24 (.pointer a) (.pointer none):Sem Value) bB (.bool a3) aU∧
 cond a3
 (∃ a4 a5 B C,Ld Tryz.prog 30 (.pointer (some bl)) aU (.agg #[.int .i64 a4,.bool a5,.int .i64 B,.int .u64 C])∧
 Xa Tryz.prog 17 #[.agg #[.int .i64 a4,.bool a5,.int .i64 B,.int .u64 C]] aU fun bn bC=>
 ∃ a6 a7 D E,bn=.agg #[.int .i64 a6,.bool a7,.int .i64 D,.int .u64 E]∧
 Xa Tryz.prog 16 #[.agg #[.int .i64 a6,.bool a7,.int .i64 D,.int .u64 E]] bC fun bo bD=>
 ∃ a8,bo=.bool a8∧
 Q (.bool (!a8)) bD)
 (∃ (m:World→Prop),
 Drw aU fun o=>
 ∃ aE aF aG,HLd Tryz.prog m 22 (.pointer (some (n.add 6))) o (.slice aE aF aG)∧
 ∃ p b q r s c d e f g i j k l,HLd Tryz.prog m 38 (.pointer (some (n.add 8))) o (.agg #[.int .u8 p,.int .u32 b,.slice q r s,.slice c d e,.slice f g i,.slice j k l])∧
 ∃ t,HLd Tryz.prog m 28 (.pointer (some (n.add 14))) o (.int .u64 t)∧
 ∃ F G H,HLd Tryz.prog m 22 (.pointer (some (n.add 7))) o (.slice F G H)∧
 (Xa Tryz.prog 19 #[.slice aE aF aG] o fun bp aD=>
 ∃ I J L,bp=.slice I J L∧
 (aD=o∨m aD)∧
 (Xa Tryz.prog 19 #[.slice F G H] aD fun bq aH=>
 ∃ aI aJ aL,bq=.slice aI aJ aL∧
 (aH=aD∨m aH)∧
 (Xa Tryz.prog 11 #[.pointer a,.slice I J L,.agg #[.int .u8 p,.int .u32 b,.slice q r s,.slice c d e,.slice f g i,.slice j k l],.int .u64 t,.slice aI aJ aL] aH fun br bs=>
 ∃ a9 ba M bb bc bd N,br=.agg #[.int .i64 a9,.bool ba,.int .i64 M,.slice bb bc bd,.int .i64 N]∧
 ∃ be,Pu Tryz.prog (zeroValue 32) be∧
 New be.cells 32 bs fun bf bk=>
 (bk=bs∨m bk)∧
 ∃ bg,Sto Tryz.prog 32 (.pointer (some ⟨bf,0,none⟩)) (.agg #[.int .i64 a9,.bool ba,.int .i64 M,.slice bb bc bd,.int .i64 N]) bk bg∧
 X3 aP aR aS aT n x y a (⟨bf,0,none⟩:Addr) bg Q)∧
 (∃ O,Pu Tryz.prog (zeroValue 32) O∧
 New O.cells 32 aH fun P aM=>
 (aM=aH∨m aM)∧
 Xa Tryz.prog 11 #[.pointer a,.slice I J L,.agg #[.int .u8 p,.int .u32 b,.slice q r s,.slice c d e,.slice f g i,.slice j k l],.int .u64 t,.slice aI aJ aL] aM fun aV bt=>
 ∃ R S T U V W X,aV=.agg #[.int .i64 R,.bool S,.int .i64 T,.slice U V W,.int .i64 X]∧
 ∃ bh,Sto Tryz.prog 32 (.pointer (some ⟨P,0,none⟩)) (.agg #[.int .i64 R,.bool S,.int .i64 T,.slice U V W,.int .i64 X]) bt bh∧
 X3 aP aR aS aT n x y a (⟨P,0,none⟩:Addr) bh Q))∧
 (∃ Y,Pu Tryz.prog (zeroValue 32) Y∧
 New Y.cells 32 aD fun Z aa=>
 (aa=aD∨m aa)∧
 Xa Tryz.prog 19 #[.slice F G H] aa fun aW aN=>
 ∃ ab ac ad,aW=.slice ab ac ad∧
 (aN=aa∨m aN)∧
 Xa Tryz.prog 11 #[.pointer a,.slice I J L,.agg #[.int .u8 p,.int .u32 b,.slice q r s,.slice c d e,.slice f g i,.slice j k l],.int .u64 t,.slice ab ac ad] aN fun aX bu=>
 ∃ ae af ag ah ai aj ak,aX=.agg #[.int .i64 ae,.bool af,.int .i64 ag,.slice ah ai aj,.int .i64 ak]∧
 ∃ bi,Sto Tryz.prog 32 (.pointer (some ⟨Z,0,none⟩)) (.agg #[.int .i64 ae,.bool af,.int .i64 ag,.slice ah ai aj,.int .i64 ak]) bu bi∧
 X3 aP aR aS aT n x y a (⟨Z,0,none⟩:Addr) bi Q))∧
 (∃ al,Pu Tryz.prog (zeroValue 32) al∧
 New al.cells 32 o fun am an=>
 (an=o∨m an)∧
 Xa Tryz.prog 19 #[.slice aE aF aG] an fun aY ao=>
 ∃ ap aq ar,aY=.slice ap aq ar∧
 (ao=an∨m ao)∧
 Xa Tryz.prog 19 #[.slice F G H] ao fun aZ aO=>
 ∃ au av ax,aZ=.slice au av ax∧
 (aO=ao∨m aO)∧
 Xa Tryz.prog 11 #[.pointer a,.slice ap aq ar,.agg #[.int .u8 p,.int .u32 b,.slice q r s,.slice c d e,.slice f g i,.slice j k l],.int .u64 t,.slice au av ax] aO fun a0 bv=>
 ∃ ay az u aA aB aC v,a0=.agg #[.int .i64 ay,.bool az,.int .i64 u,.slice aA aB aC,.int .i64 v]∧
 ∃ bj,Sto Tryz.prog 32 (.pointer (some ⟨am,0,none⟩)) (.agg #[.int .i64 ay,.bool az,.int .i64 u,.slice aA aB aC,.int .i64 v]) bv bj∧
 X3 aP aR aS aT n x y a (⟨am,0,none⟩:Addr) bj Q))
def QJ (E:Int) (F:Bool) (k:Int) (l:Int) (q:Option Addr) (r:Nat) (s:Nat) (t:Array Value) (G:Int) (H:Option Addr) (u:Nat) (I:Nat) (J:Int) (L:Bool) (m:Int) (n:Int) (w:World) (Q:VWP):Prop:=
 New #[.int .i64 E,.bool F,.int .i64 k,.int .u64 l] 30 w fun M N=>
 New t 53 N fun o O=>
 New #[.int .i64 J,.bool L,.int .i64 m,.int .u64 n] 30 O fun v P=>
 Xa Tryz.prog 9 #[] P fun x y=>
 ∃ c,x=.bool c∧
 cond (!c)
 (Q (.bool false) y)
 (Xa Tryz.prog 14 #[.slice q r s] y fun z p=>
 ∃ d,z=.bool d∧
 cond d
 (Q (.bool true) p)
 (∃ (a:Array Value),Ld Tryz.prog 53 (.pointer (some ⟨o,0,none⟩)) p (.agg a)∧
 ∃ e f g A,Ef Tryz.prog (Instr.buildSlice 51 1 #[(0,.agg a)]) p (.slice e f g) A∧
 Xa Tryz.prog 14 #[.slice e f g] A fun B b=>
 ∃ i,B=.bool i∧
 cond i
 (Q (.bool true) b)
 (cond (decide (((u:Nat):Int) > 64))
 (Q (.bool true) b)
 (∃ C j D,Ld Tryz.prog 22 (.pointer (some ((⟨o,0,none⟩:Addr).add 6))) b (.slice C j D)∧
 cond (decide (((j:Nat):Int) > 64))
 (Q (.bool true) b)
 (Vy q r s G H u I (⟨M,0,none⟩:Addr) (⟨o,0,none⟩:Addr) (⟨v,0,none⟩:Addr) false b Q)))))
def XeB:Nat→List (Nat×TypeId):=fun _=>[]
theorem Xcb (f:Int) (g:Bool) (a:Int) (b:Int) (i:Option Addr) (j:Nat) (k:Nat) (e:Array Value) (l:Int) (m:Option Addr) (n:Nat) (o:Nat) (p:Int) (q:Bool) (c:Int) (d:Int) (w:World) (Q:VWP) (h:QJ f g a b i j k e l m n o p q c d w Q):Xa Tryz.prog 6 #[.agg #[.int .i64 f,.bool g,.int .i64 a,.int .u64 b],.slice i j k,.agg e,.int .u64 l,.slice m n o,.agg #[.int .i64 p,.bool q,.int .i64 c,.int .u64 d]] w Q:=
 Xc XeB Tryz.func6 h (fun _ _=>by kernel_rfl) (by kernel_rfl) (by kernel_rfl) (by kernel_rfl)
def Zt (cs:Bool) (c:Option Addr) (cl:Option Addr) (cm:Nat) (cn:Nat) (a3:Addr) (b4:Addr) (a4:Addr) (b5:Addr) (w:World) (Q:VWP):Prop:=
 ∃ a5 a6 a7,Ld Tryz.prog 22 (.pointer (some (a4.add 3))) w (.slice a5 a6 a7)∧
 Xa Tryz.prog 22 #[.slice a5 a6 a7] w fun b6 co=>
 ∃ a8 v a9 ba bb x y z A B C D E F G,b6=.tuple #[.agg #[.int .u8 a8,.int .u32 v,.slice a9 ba bb,.slice x y z,.slice A B C,.slice D E F],.int .i64 G]∧
 ∃ bc,Pu Tryz.prog (zeroValue 68) bc∧
 New bc.cells 68 co fun bd cp=>
 ∃ bP,Sto Tryz.prog 68 (.pointer (some ⟨bd,0,none⟩)) (.agg #[.int .u8 a8,.int .u32 v,.slice a9 ba bb,.slice x y z,.slice A B C,.slice D E F]) cp bP∧
 ∃ be bf bg,Ld Tryz.prog 22 (.pointer (some ((⟨bd,0,none⟩:Addr).add 4))) bP (.slice be bf bg)∧
 ∃ b7,Sto Tryz.prog 22 (.pointer (some (a3.add 4))) (.slice be bf bg) bP b7∧
 ∃ bh bi bj bR,Ef Tryz.prog (Instr.buildSlice 22 1 #[(0,.int .u8 5)]) b7 (.slice bh bi bj) bR∧
 ∃ bk H bl bm bn I J L M N O P R S,Ld Tryz.prog 38 (.pointer (some a3)) bR (.agg #[.int .u8 bk,.int .u32 H,.slice bl bm bn,.slice I J L,.slice M N O,.slice P R S])∧
 Xa Tryz.prog 11 #[.pointer c,.slice bh bi bj,.agg #[.int .u8 bk,.int .u32 H,.slice bl bm bn,.slice I J L,.slice M N O,.slice P R S],.int .u64 110,.slice none 0 0] bR fun b8 cq=>
 ∃ bo bp T bq br bs U,b8=.agg #[.int .i64 bo,.bool bp,.int .i64 T,.slice bq br bs,.int .i64 U]∧
 ∃ bt,Pu Tryz.prog (zeroValue 32) bt∧
 New bt.cells 32 cq fun ah cr=>
 ∃ b9,Sto Tryz.prog 32 (.pointer (some ⟨ah,0,none⟩)) (.agg #[.int .i64 bo,.bool bp,.int .i64 T,.slice bq br bs,.int .i64 U]) cr b9∧
 ∃ bu bv bx bS,Ef Tryz.prog (Instr.buildSlice 22 1 #[(0,.int .u8 6)]) b9 (.slice bu bv bx) bS∧
 ∃ bz V bA bB bC W X Y Z aa ab ac ad ae,Ld Tryz.prog 38 (.pointer (some a3)) bS (.agg #[.int .u8 bz,.int .u32 V,.slice bA bB bC,.slice W X Y,.slice Z aa ab,.slice ac ad ae])∧
 Xa Tryz.prog 11 #[.pointer c,.slice bu bv bx,.agg #[.int .u8 bz,.int .u32 V,.slice bA bB bC,.slice W X Y,.slice Z aa ab,.slice ac ad ae],.int .u64 110,.slice none 0 0] bS fun ca cb=>
 ∃ bD bE af bF bG bH ag,ca=.agg #[.int .i64 bD,.bool bE,.int .i64 af,.slice bF bG bH,.int .i64 ag]∧
 ∃ bI,Pu Tryz.prog (zeroValue 32) bI∧
 New bI.cells 32 cb fun ai cc=>
 ∃ bJ,Sto Tryz.prog 32 (.pointer (some ⟨ai,0,none⟩)) (.agg #[.int .i64 bD,.bool bE,.int .i64 af,.slice bF bG bH,.int .i64 ag]) cc bJ∧
 ∃ aj ak al am,Ef Tryz.prog (Instr.buildSlice 22 1 #[(0,.int .u8 5)]) bJ (.slice aj ak al) am∧
 ∃ an e ao ap aq f g i j k l m n o,Ld Tryz.prog 38 (.pointer (some a3)) am (.agg #[.int .u8 an,.int .u32 e,.slice ao ap aq,.slice f g i,.slice j k l,.slice m n o])∧
 Xa Tryz.prog 11 #[.pointer c,.slice aj ak al,.agg #[.int .u8 an,.int .u32 e,.slice ao ap aq,.slice f g i,.slice j k l,.slice m n o],.int .u64 111,.slice cl cm cn] am fun bT cd=>
 ∃ ar au p av ax ay q,bT=.agg #[.int .i64 ar,.bool au,.int .i64 p,.slice av ax ay,.int .i64 q]∧
 ∃ bL,Pu Tryz.prog (zeroValue 32) bL∧
 New bL.cells 32 cd fun bM ce=>
 ∃ bN,Sto Tryz.prog 32 (.pointer (some ⟨bM,0,none⟩)) (.agg #[.int .i64 ar,.bool au,.int .i64 p,.slice av ax ay,.int .i64 q]) ce bN∧
 ∃ az,c=some az∧
 Xa Tryz.prog 18 #[.pointer (some (az.add 0))] bN fun bU cf=>
 ∃ aA r,bU=.tuple #[.int .i64 aA,.int .i64 r]∧
 ∃ aB,c=some aB∧
 Xa Tryz.prog 13 #[.pointer (some (aB.add 0))] cf fun bV cg=>
 bV=.tuple #[]∧
 Xa Tryz.prog 36 #[.pointer c] cg fun bW ch=>
 ∃ d,bW=.pointer d∧
 Xa Tryz.prog 29 #[.pointer c,.agg #[.int .i64 3,.bool false,.int .i64 1,.int .u64 0]] ch fun bX ci=>
 ∃ aC,bX=.int .i64 aC∧
 Xa Tryz.prog 27 #[.pointer c] ci fun bY cj=>
 ∃ aD s t,bY=.tuple #[.int .i64 aD,.int .i64 s,.int .i64 t]∧
 ∃ aE aF,Ef Tryz.prog (do eqGuard .neq 24 (.tmp 126) (.const (.pointer none)) (.pointer d) (.pointer none); binOp .neq 24 (.pointer d) (.pointer none):Sem Value) cj (.bool aE) aF∧
 cond aE
 (∃ aG,d=some aG∧
 Xa Tryz.prog 12 #[.pointer (some (aG.add 0))] aF fun bZ b=>
 ∃ aH,bZ=.bool aH∧
 cond aH
 (∃ aI,Ld Tryz.prog 3 (.pointer (some (b4.add 0))) b (.int .i64 aI)∧
 cond (aI == 2)
 (∃ aJ,Ld Tryz.prog 25 (.pointer (some (b4.add 2))) b (.int .i64 aJ)∧
 cond (aJ == 17)
 (∃ aL,Ld Tryz.prog 3 (.pointer (some (a4.add 0))) b (.int .i64 aL)∧
 cond (aL == 1)
 (∃ aM,Ld Tryz.prog 3 (.pointer (some (a4.add 4))) b (.int .i64 aM)∧
 cond (aM == 20)
 (cond (G == 0)
 (∃ aN,Ld Tryz.prog 3 (.pointer (some (b5.add 0))) b (.int .i64 aN)∧
 cond (aN == 2)
 (∃ aO,Ld Tryz.prog 25 (.pointer (some (b5.add 2))) b (.int .i64 aO)∧
 cond (aO == 21)
 (∃ aP aR aS,Ld Tryz.prog 22 (.pointer (some (a4.add 3))) b (.slice aP aR aS)∧
 ∃ aT aU aV bO,Ef Tryz.prog (Instr.buildSlice 22 2 #[(0,.int .u8 7),(1,.int .u8 8)]) b (.slice aT aU aV) bO∧
 Xa Tryz.prog 24 #[.slice aP aR aS,.slice aT aU aV] bO fun b0 a=>
 ∃ aW,b0=.int .i64 aW∧
 cond (aW == 0)
 (∃ aX,Ld Tryz.prog 3 (.pointer (some ((⟨ah,0,none⟩:Addr).add 0))) a (.int .i64 aX)∧
 cond (aX == 0)
 (∃ aY,Ld Tryz.prog 4 (.pointer (some ((⟨ah,0,none⟩:Addr).add 1))) a (.bool aY)∧
 cond aY
 (∃ aZ,Ld Tryz.prog 3 (.pointer (some ((⟨ai,0,none⟩:Addr).add 0))) a (.int .i64 aZ)∧
 cond (aZ == 2)
 (∃ a0,Ld Tryz.prog 25 (.pointer (some ((⟨ai,0,none⟩:Addr).add 2))) a (.int .i64 a0)∧
 cond (a0 == 13)
 (∃ a1,Ld Tryz.prog 3 (.pointer (some ((⟨bM,0,none⟩:Addr).add 0))) a (.int .i64 a1)∧
 cond (a1 == 1)
 (cond (aA == 6)
 (cond (r == 0)
 (cond (aC == 11)
 (cond (aD == 1)
 (cond (s == 2)
 (cond (t == 3)
 (Xa Tryz.prog 28 #[.pointer c] a fun b1 ck=>
 ∃ b2 b3 a2 u,b1=.agg #[.int .i64 b2,.bool b3,.int .i64 a2,.int .u64 u]∧
 Q (.bool (u == 10)) ck)
 (Q (.bool false) a))
 (Q (.bool false) a))
 (Q (.bool false) a))
 (Q (.bool false) a))
 (Q (.bool false) a))
 (Q (.bool false) a))
 (Q (.bool false) a))
 (Q (.bool false) a))
 (Q (.bool false) a))
 (Q (.bool false) a))
 (Q (.bool false) a))
 (Q (.bool false) a))
 (Q (.bool false) b))
 (Q (.bool false) b))
 (Q (.bool false) b))
 (Q (.bool false) b))
 (Q (.bool false) b))
 (Q (.bool false) b))
 (Q (.bool false) b))
 (Q (.bool false) b))
 (Q (.bool false) aF)
def Jn (aT:Bool) (m:Option Addr) (af:Option Addr) (ag:Nat) (ah:Nat) (ai:Addr) (aU:Addr) (w:World) (Q:VWP):Prop:=
 ∃ ay az aA aV,Ef Tryz.prog (Instr.buildSlice 22 1 #[(0,.int .u8 5)]) w (.slice ay az aA) aV∧
 ∃ aB n aC aD aE o p q r s t u v x,Ld Tryz.prog 38 (.pointer (some ai)) aV (.agg #[.int .u8 aB,.int .u32 n,.slice aC aD aE,.slice o p q,.slice r s t,.slice u v x])∧
 Xa Tryz.prog 11 #[.pointer m,.slice ay az aA,.agg #[.int .u8 aB,.int .u32 n,.slice aC aD aE,.slice o p q,.slice r s t,.slice u v x],.int .u64 100,.slice af ag ah] aV fun aX a7=>
 ∃ aF aG y aH aI aJ z,aX=.agg #[.int .i64 aF,.bool aG,.int .i64 y,.slice aH aI aJ,.int .i64 z]∧
 ∃ aY,Pu Tryz.prog (zeroValue 32) aY∧
 New aY.cells 32 a7 fun au a8=>
 ∃ aZ,Sto Tryz.prog 32 (.pointer (some ⟨au,0,none⟩)) (.agg #[.int .i64 aF,.bool aG,.int .i64 y,.slice aH aI aJ,.int .i64 z]) a8 aZ∧
 ∃ (l:World→Prop),
 Drw aZ fun aj=>
 ∃ A B C,Pu Tryz.prog (Instr.sliceAt 22 (.slice af ag ah) none (some (.int .i64 19)) none) (.slice A B C)∧
 ∃ D a E F G b c d e f g i j k,HLd Tryz.prog l 38 (.pointer (some ai)) aj (.agg #[.int .u8 D,.int .u32 a,.slice E F G,.slice b c d,.slice e f g,.slice i j k])∧
 (∃ ak al am ae,Ef Tryz.prog (Instr.buildSlice 22 1 #[(0,.int .u8 5)]) aj (.slice ak al am) ae∧
 (ae=aj∨l ae)∧
 (Xa Tryz.prog 11 #[.pointer m,.slice ak al am,.agg #[.int .u8 D,.int .u32 a,.slice E F G,.slice b c d,.slice e f g,.slice i j k],.int .u64 100,.slice A B C] ae fun a0 a1=>
 ∃ aL aM H aN aO aP I,a0=.agg #[.int .i64 aL,.bool aM,.int .i64 H,.slice aN aO aP,.int .i64 I]∧
 ∃ a2,Pu Tryz.prog (zeroValue 32) a2∧
 New a2.cells 32 a1 fun a3 aW=>
 (aW=a1∨l aW)∧
 ∃ a4,Sto Tryz.prog 32 (.pointer (some ⟨a3,0,none⟩)) (.agg #[.int .i64 aL,.bool aM,.int .i64 H,.slice aN aO aP,.int .i64 I]) aW a4∧
 Zt aT m af ag ah ai aU (⟨au,0,none⟩:Addr) (⟨a3,0,none⟩:Addr) a4 Q)∧
 (∃ an,Pu Tryz.prog (zeroValue 32) an∧
 New an.cells 32 ae fun ao ap=>
 (ap=ae∨l ap)∧
 Xa Tryz.prog 11 #[.pointer m,.slice ak al am,.agg #[.int .u8 D,.int .u32 a,.slice E F G,.slice b c d,.slice e f g,.slice i j k],.int .u64 100,.slice A B C] ap fun av a5=>
 ∃ J L M N O P R,av=.agg #[.int .i64 J,.bool L,.int .i64 M,.slice N O P,.int .i64 R]∧
 ∃ aR,Sto Tryz.prog 32 (.pointer (some ⟨ao,0,none⟩)) (.agg #[.int .i64 J,.bool L,.int .i64 M,.slice N O P,.int .i64 R]) a5 aR∧
 Zt aT m af ag ah ai aU (⟨au,0,none⟩:Addr) (⟨ao,0,none⟩:Addr) aR Q))∧
 (∃ aq,Pu Tryz.prog (zeroValue 32) aq∧
 New aq.cells 32 aj fun ar S=>
 (S=aj∨l S)∧
 ∃ T U V W,Ef Tryz.prog (Instr.buildSlice 22 1 #[(0,.int .u8 5)]) S (.slice T U V) W∧
 (W=S∨l W)∧
 Xa Tryz.prog 11 #[.pointer m,.slice T U V,.agg #[.int .u8 D,.int .u32 a,.slice E F G,.slice b c d,.slice e f g,.slice i j k],.int .u64 100,.slice A B C] W fun ax a6=>
 ∃ X Y Z aa ab ac ad,ax=.agg #[.int .i64 X,.bool Y,.int .i64 Z,.slice aa ab ac,.int .i64 ad]∧
 ∃ aS,Sto Tryz.prog 32 (.pointer (some ⟨ar,0,none⟩)) (.agg #[.int .i64 X,.bool Y,.int .i64 Z,.slice aa ab ac,.int .i64 ad]) a6 aS∧
 Zt aT m af ag ah ai aU (⟨au,0,none⟩:Addr) (⟨ar,0,none⟩:Addr) aS Q)
def VO (ae:Bool) (v:Option Addr) (w:World) (Q:VWP):Prop:=
 ∃ a b c af,Ef Tryz.prog (Instr.buildSlice 22 20 #[(0,.int .u8 1),(1,.int .u8 2),(2,.int .u8 3),(3,.int .u8 4),(4,.int .u8 5),(5,.int .u8 6),(6,.int .u8 7),(7,.int .u8 8),(8,.int .u8 9),(9,.int .u8 10),(10,.int .u8 11),(11,.int .u8 12),(12,.int .u8 13),(13,.int .u8 14),(14,.int .u8 15),(15,.int .u8 16),(16,.int .u8 17),(17,.int .u8 18),(18,.int .u8 19),(19,.int .u8 20)]) w (.slice a b c) af∧
 ∃ ag,Pu Tryz.prog (zeroValue 38) ag∧
 New ag.cells 38 af fun u az=>
 ∃ ah,Sto Tryz.prog 38 (.pointer (some ⟨u,0,none⟩)) (.agg #[.int .u8 0,.int .u32 0,.slice none 0 0,.slice none 0 0,.slice none 0 0,.slice none 0 0]) az ah∧
 ∃ A B C ai,Ef Tryz.prog (Instr.buildSlice 22 2 #[(0,.int .u8 7),(1,.int .u8 8)]) ah (.slice A B C) ai∧
 ∃ aj,Sto Tryz.prog 22 (.pointer (some (((⟨u,0,none⟩:Addr).add 0).add 2))) (.slice A B C) ai aj∧
 ∃ D E F ak,Ef Tryz.prog (Instr.buildSlice 22 1 #[(0,.int .u8 9)]) aj (.slice D E F) ak∧
 ∃ al,Sto Tryz.prog 22 (.pointer (some (((⟨u,0,none⟩:Addr).add 0).add 3))) (.slice D E F) ak al∧
 ∃ G H I ac,Ef Tryz.prog (Instr.buildSlice 22 1 #[(0,.int .u8 5)]) al (.slice G H I) ac∧
 ∃ J d L M N e f g i j k l m n,Ld Tryz.prog 38 (.pointer (some ⟨u,0,none⟩)) ac (.agg #[.int .u8 J,.int .u32 d,.slice L M N,.slice e f g,.slice i j k,.slice l m n])∧
 Xa Tryz.prog 11 #[.pointer v,.slice G H I,.agg #[.int .u8 J,.int .u32 d,.slice L M N,.slice e f g,.slice i j k,.slice l m n],.int .u64 100,.slice a b c] ac fun am aA=>
 ∃ O P o R S T p,am=.agg #[.int .i64 O,.bool P,.int .i64 o,.slice R S T,.int .i64 p]∧
 ∃ an,Pu Tryz.prog (zeroValue 32) an∧
 New an.cells 32 aA fun ad ao=>
 ∃ U,Sto Tryz.prog 32 (.pointer (some ⟨ad,0,none⟩)) (.agg #[.int .i64 O,.bool P,.int .i64 o,.slice R S T,.int .i64 p]) ao U∧
 ∃ (aB:World→Prop),
 Drw U fun V=>
 (Xa Tryz.prog 21 #[.pointer v] V fun ap aq=>
 ∃ W,ap=.pointer W∧
 ∃ X Y Z aa,Ef Tryz.prog (Instr.makeSlice 22 (.int .i64 16) (.int .i64 16)) aq (.slice X Y Z) aa∧
 Xa Tryz.prog 38 #[.pointer W,.int .i64 4,.slice X Y Z] aa fun ar au=>
 ∃ av,ar=.int .i64 av∧
 Jn ae v a b c (⟨u,0,none⟩:Addr) (⟨ad,0,none⟩:Addr) au Q)∧
 (∃ q r s ab,Ef Tryz.prog (Instr.makeSlice 22 (.int .i64 16) (.int .i64 16)) V (.slice q r s) ab∧
 Xa Tryz.prog 21 #[.pointer v] ab fun x ax=>
 ∃ t,x=.pointer t∧
 Xa Tryz.prog 38 #[.pointer t,.int .i64 4,.slice q r s] ax fun y ay=>
 ∃ z,y=.int .i64 z∧
 Jn ae v a b c (⟨u,0,none⟩:Addr) (⟨ad,0,none⟩:Addr) ay Q)
def XhP  (w:World) (Q:VWP):Prop:=
 Xa Tryz.prog 10 #[.agg #[.int .i64 2,.bool false,.int .i64 1,.int .u64 10]] w fun l r=>
 ∃ a d,l=.tuple #[.pointer a,.int .i64 d]∧
 Xa Tryz.prog 10 #[.agg #[.int .i64 0,.bool false,.int .i64 0,.int .u64 0]] r fun m s=>
 ∃ n e,m=.tuple #[.pointer n,.int .i64 e]∧
 ∃ f b,Ef Tryz.prog (do eqGuard .eql 24 (.tmp 32) (.const (.pointer none)) (.pointer a) (.pointer none); binOp .eql 24 (.pointer a) (.pointer none):Sem Value) s (.bool f) b∧
 cond f
 (Q (.bool false) b)
 (cond (d != 0)
 (Q (.bool false) b)
 (cond (e != 11)
 (Q (.bool false) b)
 (Xa Tryz.prog 21 #[.pointer a] b fun o t=>
 ∃ c,o=.pointer c∧
 ∃ g k,Ef Tryz.prog (do eqGuard .eql 41 (.tmp 44) (.const (.pointer none)) (.pointer c) (.pointer none); binOp .eql 41 (.pointer c) (.pointer none):Sem Value) t (.bool g) k∧
 cond g
 (Q (.bool false) k)
 (∃ i,a=some i∧
 Xa Tryz.prog 12 #[.pointer (some (i.add 0))] k fun p q=>
 ∃ j,p=.bool j∧
 cond (!j)
 (Q (.bool false) q)
 (VO false a q Q)))))
def Xmg:Nat→List (Nat×TypeId):=fun _=>[]
theorem XiM  (w:World) (Q:VWP) (h:XhP  w Q):Xa Tryz.prog 9 #[] w Q:=
 Xc Xmg Tryz.func9 h (fun _ _=>by kernel_rfl) (by kernel_rfl) (by kernel_rfl) (by kernel_rfl)
def XhQ (H:Option Addr) (r:Nat) (I:Nat) (w:World) (Q:VWP):Prop:=
 cond (decide (((r:Nat):Int) > 60))
 (Q (.bool true) w)
 (LoopS [.slice H r I,.bool false,.int .i64 0] w fun J L j _ f=>
 ∃ c b d s i,j=[.slice c b d,.bool s,.int .i64 i]∧
 cond (decide (i<((b:Nat):Int)))
 (∃ k,IxA Tryz.prog 51 (.slice c b d) (.int .i64 i) k∧
 ∃ (g:Array Value),Ld Tryz.prog 53 (.pointer (some k)) f (.agg g)∧
 ∃ t,Pu Tryz.prog (zeroValue 53) t∧
 New t.cells 53 f fun e M=>
 ∃ a,Sto Tryz.prog 53 (.pointer (some ⟨e,0,none⟩)) (.agg g) M a∧
 ∃ u l v,Ld Tryz.prog 22 (.pointer (some ((⟨e,0,none⟩:Addr).add 6))) a (.slice u l v)∧
 cond (decide (((l:Nat):Int) > 100))
 (Q (.bool true) a)
 (∃ x m y,Ld Tryz.prog 22 (.pointer (some ((⟨e,0,none⟩:Addr).add 7))) a (.slice x m y)∧
 cond (decide (((m:Nat):Int) > 100))
 (Q (.bool true) a)
 (∃ z n A,Ld Tryz.prog 22 (.pointer (some ((((⟨e,0,none⟩:Addr).add 8).add 0).add 2))) a (.slice z n A)∧
 cond (decide (((n:Nat):Int) > 100))
 (Q (.bool true) a)
 (∃ B o C,Ld Tryz.prog 22 (.pointer (some ((((⟨e,0,none⟩:Addr).add 8).add 0).add 3))) a (.slice B o C)∧
 cond (decide (((o:Nat):Int) > 100))
 (Q (.bool true) a)
 (∃ D p E,Ld Tryz.prog 22 (.pointer (some (((⟨e,0,none⟩:Addr).add 8).add 4))) a (.slice D p E)∧
 cond (decide (((p:Nat):Int) > 300))
 (Q (.bool true) a)
 (∃ F q G,Ld Tryz.prog 22 (.pointer (some (((⟨e,0,none⟩:Addr).add 8).add 5))) a (.slice F q G)∧
 cond (decide (((q:Nat):Int) > 100))
 (Q (.bool true) a)
 (Xh [] [] J L j [.slice c b d,.bool s,.int .i64 (IntKind.i64.wrap (i+1))] f a)))))))
 (Q (.bool false) f))
def Xmh:Nat→List (Nat×TypeId):=fun n=>match n with | 0=>[(0,51),(2,4),(3,3)] | _=>[]
theorem XiN (a:Option Addr) (b:Nat) (c:Nat) (w:World) (Q:VWP) (h:XhQ a b c w Q):Xa Tryz.prog 14 #[.slice a b c] w Q:=
 Xc Xmh Tryz.func14 h (fun _ _=>by kernel_rfl) (by kernel_rfl) (by kernel_rfl) (by kernel_rfl)
def XdX (o:Option Addr) (p:Nat) (q:Nat) (r:Option Addr) (s:Option Addr) (t:Option Addr) (w:World) (Q:VWP):Prop:=
 LoopS [.slice o p q,.pointer r,.pointer s,.pointer t,.int .i64 0] w fun u v k _ f=>
 ∃ c a d g b e j,k=[.slice c a d,.pointer g,.pointer b,.pointer e,.int .i64 j]∧
 cond (decide (j<((a:Nat):Int)))
 (∃ l,IxA Tryz.prog 51 (.slice c a d) (.int .i64 j) l∧
 ∃ (i:Array Value),Ld Tryz.prog 53 (.pointer (some l)) f (.agg i)∧
 Xa Tryz.prog 26 #[.pointer b,.pointer e,.agg i] f fun m x=>
 ∃ n,m=.bool n∧
 Xh [] [] u v k [.slice c a d,.pointer g,.pointer b,.pointer e,.int .i64 (IntKind.i64.wrap (j+1))] f x)
 (Q (.pointer b) f)
def XkD (J:Int) (L:Bool) (u:Int) (v:Int) (M:Option Addr) (N:Nat) (O:Nat) (w:World) (Q:VWP):Prop:=
 New #[.int .i64 J,.bool L,.int .i64 u,.int .u64 v] 30 w fun A B=>
 ∃ k l b c,Ld Tryz.prog 30 (.pointer (some ⟨A,0,none⟩)) B (.agg #[.int .i64 k,.bool l,.int .i64 b,.int .u64 c])∧
 Xa Tryz.prog 10 #[.agg #[.int .i64 k,.bool l,.int .i64 b,.int .u64 c]] B fun C D=>
 ∃ a m,C=.tuple #[.pointer a,.int .i64 m]∧
 ∃ n o d e,Ld Tryz.prog 30 (.pointer (some ⟨A,0,none⟩)) D (.agg #[.int .i64 n,.bool o,.int .i64 d,.int .u64 e])∧
 Xa Tryz.prog 17 #[.agg #[.int .i64 n,.bool o,.int .i64 d,.int .u64 e]] D fun E P=>
 ∃ p q f g,E=.agg #[.int .i64 p,.bool q,.int .i64 f,.int .u64 g]∧
 Xa Tryz.prog 25 #[.agg #[.int .i64 p,.bool q,.int .i64 f,.int .u64 g]] P fun F G=>
 ∃ i H,F=.tuple #[.pointer i,.int .i64 H]∧
 cond (m != 0)
 (Q (.pointer none) G)
 (∃ r x,Ef Tryz.prog (do eqGuard .eql 24 (.tmp 24) (.const (.pointer none)) (.pointer a) (.pointer none); binOp .eql 24 (.pointer a) (.pointer none):Sem Value) G (.bool r) x∧
 cond r
 (Q (.pointer none) x)
 (Xa Tryz.prog 21 #[.pointer a] x fun I R=>
 ∃ j,I=.pointer j∧
 ∃ s y,Ef Tryz.prog (do eqGuard .eql 41 (.tmp 29) (.const (.pointer none)) (.pointer j) (.pointer none); binOp .eql 41 (.pointer j) (.pointer none):Sem Value) R (.bool s) y∧
 cond s
 (Q (.pointer none) y)
 (∃ t z,Ef Tryz.prog (do eqGuard .eql 74 (.tmp 33) (.const (.pointer none)) (.pointer i) (.pointer none); binOp .eql 74 (.pointer i) (.pointer none):Sem Value) y (.bool t) z∧
 cond t
 (Q (.pointer none) z)
 (XdX M N O none a i z Q))))
def Xoj:Nat→List (Nat×TypeId):=fun n=>match n with | 0=>[(1,51),(4,24),(5,24),(7,74),(9,3)] | _=>[]
theorem XkE (c:Int) (d:Bool) (a:Int) (b:Int) (e:Option Addr) (f:Nat) (g:Nat) (w:World) (Q:VWP) (h:XkD c d a b e f g w Q):Xa Tryz.prog 15 #[.agg #[.int .i64 c,.bool d,.int .i64 a,.int .u64 b],.slice e f g] w Q:=
 Xc Xoj Tryz.func15 h (fun _ _=>by kernel_rfl) (by kernel_rfl) (by kernel_rfl) (by kernel_rfl)
def Xqe (o:Int) (p:Bool) (e:Int) (f:Int) (w:World) (Q:VWP):Prop:=
 New #[.int .i64 o,.bool p,.int .i64 e,.int .u64 f] 30 w fun b q=>
 ∃ g,Pu Tryz.prog (zeroValue 57) g∧
 New g.cells 57 q fun i a=>
 ∃ j,Ld Tryz.prog 3 (.pointer (some ((⟨b,0,none⟩:Addr).add 0))) a (.int .i64 j)∧
 ∃ k,Ld Tryz.prog 4 (.pointer (some ((⟨b,0,none⟩:Addr).add 1))) a (.bool k)∧
 ∃ l,Ld Tryz.prog 3 (.pointer (some ((⟨b,0,none⟩:Addr).add 2))) a (.int .i64 l)∧
 ∃ d,Ld Tryz.prog 28 (.pointer (some ((⟨b,0,none⟩:Addr).add 3))) a (.int .u64 d)∧
 ∃ c,Sto Tryz.prog 57 (.pointer (some ⟨i,0,none⟩)) (.agg #[.int .i64 j,.bool k,.int .i64 l,.int .u64 d]) a c∧
 ∃ m n,(.pointer (some ⟨i,0,none⟩):Value)=.pointer (some m)∧(loadVar 57 m).run Tryz.prog c=.ok n c∧
 Q (n) c
def XrM:Nat→List (Nat×TypeId):=fun _=>[]
theorem Xok (c:Int) (d:Bool) (a:Int) (b:Int) (w:World) (Q:VWP) (h:Xqe c d a b w Q):Xa Tryz.prog 17 #[.agg #[.int .i64 c,.bool d,.int .i64 a,.int .u64 b]] w Q:=
 Xc XrM Tryz.func17 h (fun _ _=>by kernel_rfl) (by kernel_rfl) (by kernel_rfl) (by kernel_rfl)
def Xqf (ab:Option Addr) (ac:Option Addr) (bu:Array Value) (w:World) (Q:VWP):Prop:=
 New bu 53 w fun a e=>
 ∃ aa,Ld Tryz.prog 3 (.pointer (some ((⟨a,0,none⟩:Addr).add 0))) e (.int .i64 aa)∧
 cond (aa == 0)
 (∃ (b:World→Prop),
 Drw e fun c=>
 ∃ ak al am,HLd Tryz.prog b 22 (.pointer (some ((⟨a,0,none⟩:Addr).add 6))) c (.slice ak al am)∧
 ∃ an f ao ap aq g i j k l m n o p,HLd Tryz.prog b 38 (.pointer (some ((⟨a,0,none⟩:Addr).add 8))) c (.agg #[.int .u8 an,.int .u32 f,.slice ao ap aq,.slice g i j,.slice k l m,.slice n o p])∧
 ∃ ar,HLd Tryz.prog b 28 (.pointer (some ((⟨a,0,none⟩:Addr).add 14))) c (.int .u64 ar)∧
 ∃ au av ax,HLd Tryz.prog b 22 (.pointer (some ((⟨a,0,none⟩:Addr).add 7))) c (.slice au av ax)∧
 ∃ ay az aA,HLd Tryz.prog b 22 (.pointer (some ((⟨a,0,none⟩:Addr).add 6))) c (.slice ay az aA)∧
 ∃ aB q aC aD aE r s t u v x y z A,HLd Tryz.prog b 38 (.pointer (some ((⟨a,0,none⟩:Addr).add 8))) c (.agg #[.int .u8 aB,.int .u32 q,.slice aC aD aE,.slice r s t,.slice u v x,.slice y z A])∧
 ∃ aF,HLd Tryz.prog b 28 (.pointer (some ((⟨a,0,none⟩:Addr).add 14))) c (.int .u64 aF)∧
 ∃ aG aH aI,HLd Tryz.prog b 22 (.pointer (some ((⟨a,0,none⟩:Addr).add 7))) c (.slice aG aH aI)∧
 Xa Tryz.prog 19 #[.slice ak al am] c fun bv ah=>
 ∃ aJ aL aM,bv=.slice aJ aL aM∧
 (ah=c∨b ah)∧
 Xa Tryz.prog 19 #[.slice au av ax] ah fun bx ai=>
 ∃ aN aO aP,bx=.slice aN aO aP∧
 (ai=ah∨b ai)∧
 Xa Tryz.prog 11 #[.pointer ab,.slice aJ aL aM,.agg #[.int .u8 an,.int .u32 f,.slice ao ap aq,.slice g i j,.slice k l m,.slice n o p],.int .u64 ar,.slice aN aO aP] ai fun bz aj=>
 ∃ aR aS B aT aU aV C,bz=.agg #[.int .i64 aR,.bool aS,.int .i64 B,.slice aT aU aV,.int .i64 C]∧
 (aj=ai∨b aj)∧
 Xa Tryz.prog 54 #[.agg #[.int .u8 aB,.int .u32 q,.slice aC aD aE,.slice r s t,.slice u v x,.slice y z A]] aj fun bA bs=>
 ∃ aW D aX aY aZ E F G H I J L M N,bA=.agg #[.int .u8 aW,.int .u32 D,.slice aX aY aZ,.slice E F G,.slice H I J,.slice L M N]∧
 (bs=aj∨b bs)∧
 Xa Tryz.prog 53 #[.pointer ac,.slice ay az aA,.agg #[.int .u8 aW,.int .u32 D,.slice aX aY aZ,.slice E F G,.slice H I J,.slice L M N],.int .u64 aF,.slice aG aH aI] bs fun bB bT=>
 ∃ a0 a1 O a2 a3 a4 P,bB=.agg #[.int .i64 a0,.bool a1,.int .i64 O,.slice a2 a3 a4,.int .i64 P]∧
 Xa Tryz.prog 52 #[.agg #[.int .i64 aR,.bool aS,.int .i64 B,.slice aT aU aV,.int .i64 C],.agg #[.int .i64 a0,.bool a1,.int .i64 O,.slice a2 a3 a4,.int .i64 P]] bT fun bC bU=>
 ∃ a5,bC=.bool a5∧
 Q (.bool a5) bU)
 (cond (aa == 1)
 (∃ a6,ab=some a6∧
 Xa Tryz.prog 13 #[.pointer (some (a6.add 0))] e fun bD bV=>
 bD=.tuple #[]∧
 Xa Tryz.prog 55 #[.pointer ac] bV fun bE bF=>
 bE=.tuple #[]∧
 Q (.bool true) bF)
 (cond (aa == 2)
 (∃ (bt:World→Prop),
 Drw e fun R=>
 ∃ a7 a8 S T,HLd Tryz.prog bt 30 (.pointer (some ((⟨a,0,none⟩:Addr).add 2))) R (.agg #[.int .i64 a7,.bool a8,.int .i64 S,.int .u64 T])∧
 ∃ a9 ba U V,HLd Tryz.prog bt 30 (.pointer (some ((⟨a,0,none⟩:Addr).add 2))) R (.agg #[.int .i64 a9,.bool ba,.int .i64 U,.int .u64 V])∧
 Xa Tryz.prog 29 #[.pointer ab,.agg #[.int .i64 a7,.bool a8,.int .i64 S,.int .u64 T]] R fun bG ad=>
 ∃ bb,bG=.int .i64 bb∧
 (ad=R∨bt ad)∧
 Xa Tryz.prog 17 #[.agg #[.int .i64 a9,.bool ba,.int .i64 U,.int .u64 V]] ad fun bH bI=>
 ∃ bc bd W X,bH=.agg #[.int .i64 bc,.bool bd,.int .i64 W,.int .u64 X]∧
 Xa Tryz.prog 56 #[.pointer ac,.agg #[.int .i64 bc,.bool bd,.int .i64 W,.int .u64 X]] bI fun bJ bL=>
 ∃ be,bJ=.int .i64 be∧
 Q (.bool (bb == be)) bL)
 (cond (aa == 3)
 (∃ (Y:World→Prop),
 Drw e fun d=>
 ∃ bf,ac=some bf∧
 ∃ bg,HLd Tryz.prog Y 94 (.pointer (some (bf.add 4))) d (.pointer bg)∧
 ∃ bh,HLd Tryz.prog Y 3 (.pointer (some ((⟨a,0,none⟩:Addr).add 1))) d (.int .i64 bh)∧
 ∃ bi bj bk,HLd Tryz.prog Y 22 (.pointer (some ((⟨a,0,none⟩:Addr).add 7))) d (.slice bi bj bk)∧
 Xa Tryz.prog 21 #[.pointer ab] d fun bM ae=>
 ∃ bl,bM=.pointer bl∧
 (ae=d∨Y ae)∧
 Xa Tryz.prog 57 #[.pointer bl,.pointer bg,.agg #[.int .i64 0,.int .i64 bh,.slice bi bj bk]] ae fun bN bO=>
 ∃ bm,bN=.bool bm∧
 Q (.bool bm) bO)
 (cond (aa == 4)
 (∃ (af:World→Prop),
 Drw e fun Z=>
 ∃ bn,ac=some bn∧
 ∃ bo,HLd Tryz.prog af 94 (.pointer (some (bn.add 4))) Z (.pointer bo)∧
 ∃ bp,HLd Tryz.prog af 3 (.pointer (some ((⟨a,0,none⟩:Addr).add 1))) Z (.int .i64 bp)∧
 Xa Tryz.prog 21 #[.pointer ab] Z fun bP ag=>
 ∃ bq,bP=.pointer bq∧
 (ag=Z∨af ag)∧
 Xa Tryz.prog 57 #[.pointer bq,.pointer bo,.agg #[.int .i64 1,.int .i64 bp,.slice none 0 0]] ag fun bR bS=>
 ∃ br,bR=.bool br∧
 Q (.bool br) bS)
 (Q (.bool true) e)))))
def XrN:Nat→List (Nat×TypeId):=fun _=>[]
theorem Xol (b:Option Addr) (c:Option Addr) (a:Array Value) (w:World) (Q:VWP) (h:Xqf b c a w Q):Xa Tryz.prog 26 #[.pointer b,.pointer c,.agg a] w Q:=
 Xc XrN Tryz.func26 h (fun _ _=>by kernel_rfl) (by kernel_rfl) (by kernel_rfl) (by kernel_rfl)
def XkF (A:Int) (B:Bool) (s:Int) (C:Option Addr) (D:Nat) (E:Nat) (t:Int) (F:Int) (G:Bool) (u:Int) (H:Option Addr) (I:Nat) (J:Nat) (v:Int) (w:World) (Q:VWP):Prop:=
 New #[.int .i64 A,.bool B,.int .i64 s,.slice C D E,.int .i64 t] 32 w fun b L=>
 New #[.int .i64 F,.bool G,.int .i64 u,.slice H I J,.int .i64 v] 120 L fun c a=>
 ∃ x,Ld Tryz.prog 3 (.pointer (some ((⟨b,0,none⟩:Addr).add 0))) a (.int .i64 x)∧
 ∃ y,Ld Tryz.prog 3 (.pointer (some ((⟨c,0,none⟩:Addr).add 0))) a (.int .i64 y)∧
 cond (x == y)
 (∃ e,Ld Tryz.prog 4 (.pointer (some ((⟨b,0,none⟩:Addr).add 1))) a (.bool e)∧
 ∃ f,Ld Tryz.prog 4 (.pointer (some ((⟨c,0,none⟩:Addr).add 1))) a (.bool f)∧
 cond (e == f)
 (∃ g,Ld Tryz.prog 25 (.pointer (some ((⟨b,0,none⟩:Addr).add 2))) a (.int .i64 g)∧
 ∃ i,Ld Tryz.prog 25 (.pointer (some ((⟨c,0,none⟩:Addr).add 2))) a (.int .i64 i)∧
 cond (g == i)
 (∃ j k l,Ld Tryz.prog 22 (.pointer (some ((⟨b,0,none⟩:Addr).add 3))) a (.slice j k l)∧
 ∃ m n o,Ld Tryz.prog 22 (.pointer (some ((⟨c,0,none⟩:Addr).add 3))) a (.slice m n o)∧
 Xa Tryz.prog 23 #[.slice j k l,.slice m n o] a fun z d=>
 ∃ p,z=.bool p∧
 cond p
 (∃ q,Ld Tryz.prog 3 (.pointer (some ((⟨b,0,none⟩:Addr).add 4))) d (.int .i64 q)∧
 ∃ r,Ld Tryz.prog 3 (.pointer (some ((⟨c,0,none⟩:Addr).add 4))) d (.int .i64 r)∧
 Q (.bool (q == r)) d)
 (Q (.bool false) d))
 (Q (.bool false) a))
 (Q (.bool false) a))
 (Q (.bool false) a)
def Xom:Nat→List (Nat×TypeId):=fun _=>[]
theorem XkG (e:Int) (f:Bool) (a:Int) (g:Option Addr) (i:Nat) (j:Nat) (b:Int) (k:Int) (l:Bool) (c:Int) (m:Option Addr) (n:Nat) (o:Nat) (d:Int) (w:World) (Q:VWP) (h:XkF e f a g i j b k l c m n o d w Q):Xa Tryz.prog 52 #[.agg #[.int .i64 e,.bool f,.int .i64 a,.slice g i j,.int .i64 b],.agg #[.int .i64 k,.bool l,.int .i64 c,.slice m n o,.int .i64 d]] w Q:=
 Xc Xom Tryz.func52 h (fun _ _=>by kernel_rfl) (by kernel_rfl) (by kernel_rfl) (by kernel_rfl)
end Go.Sh
end
