/- A part of a proof of a given law of this program: lemmas, printed forms of its functions, contracts. It has no conditions of its own. -/
import Derived.Test.YtlfdlhgbppahgaaGreatProg
import Derived.Test.YtlfdlhgbppahgaaGreatMW0

set_option maxHeartbeats 16000000
section
namespace Go.Sh
open Go Go.Fw Go.Proofs
set_option maxRecDepth 100000
set_option linter.unusedVariables false
def JY (P:Bool) (L:Option Addr) (E:Option Addr) (F:Option Addr) (f:Option Addr) (w:World) (Q:VWP):Prop:=
 Xa Tryz.prog 27 #[.pointer L] w fun G N=>
 ∃ g b c,G=.tuple #[.int .i64 g,.int .i64 b,.int .i64 c]∧
 Xa Tryz.prog 27 #[.pointer F] N fun H O=>
 ∃ i d e,H=.tuple #[.int .i64 i,.int .i64 d,.int .i64 e]∧
 Xa Tryz.prog 35 #[.pointer L,.pointer E] O fun I M=>
 ∃ j,I=.bool j∧
 cond j
 (Xa Tryz.prog 35 #[.pointer F,.pointer f] M fun J a=>
 ∃ k,J=.bool k∧
 cond k
 (∃ l,E=some l∧
 ∃ m,IxA Tryz.prog 95 (.pointer (some (l.add 7))) (.int .i64 0) m∧
 ∃ n,Ld Tryz.prog 3 (.pointer (some m)) a (.int .i64 n)∧
 cond (g == n)
 (∃ o,E=some o∧
 ∃ p,IxA Tryz.prog 95 (.pointer (some (o.add 7))) (.int .i64 1) p∧
 ∃ q,Ld Tryz.prog 3 (.pointer (some p)) a (.int .i64 q)∧
 cond (b == q)
 (∃ r,E=some r∧
 ∃ s,IxA Tryz.prog 95 (.pointer (some (r.add 7))) (.int .i64 2) s∧
 ∃ t,Ld Tryz.prog 3 (.pointer (some s)) a (.int .i64 t)∧
 cond (c == t)
 (∃ u,f=some u∧
 ∃ v,IxA Tryz.prog 95 (.pointer (some (u.add 7))) (.int .i64 0) v∧
 ∃ x,Ld Tryz.prog 3 (.pointer (some v)) a (.int .i64 x)∧
 cond (i == x)
 (∃ y,f=some y∧
 ∃ z,IxA Tryz.prog 95 (.pointer (some (y.add 7))) (.int .i64 1) z∧
 ∃ A,Ld Tryz.prog 3 (.pointer (some z)) a (.int .i64 A)∧
 cond (d == A)
 (∃ B,f=some B∧
 ∃ C,IxA Tryz.prog 95 (.pointer (some (B.add 7))) (.int .i64 2) C∧
 ∃ D,Ld Tryz.prog 3 (.pointer (some C)) a (.int .i64 D)∧
 Q (.bool (e == D)) a)
 (Q (.bool false) a))
 (Q (.bool false) a))
 (Q (.bool false) a))
 (Q (.bool false) a))
 (Q (.bool false) a))
 (Q (.bool false) a))
 (Q (.bool false) M)
def JZ (E:Option Addr) (F:Nat) (G:Nat) (H:Bool) (z:Option Addr) (A:Option Addr) (w:World) (Q:VWP):Prop:=
 Xa Tryz.prog 36 #[.pointer z] w fun B I=>
 ∃ j,B=.pointer j∧
 Xa Tryz.prog 37 #[.pointer A] I fun C J=>
 ∃ s,C=.pointer s∧
 ∃ t v,Ef Tryz.prog (do eqGuard .eql 24 (.tmp 93) (.const (.pointer none)) (.pointer j) (.pointer none); binOp .eql 24 (.pointer j) (.pointer none):Sem Value) J (.bool t) v∧
 cond t
 (Q (.bool false) v)
 (LoopS [.slice E F G,.bool H,.pointer z,.pointer A,.pointer j,.pointer s,.int .i64 0] v fun L M u _ n=>
 ∃ c a d e f g b k l,u=[.slice c a d,.bool e,.pointer f,.pointer g,.pointer b,.pointer k,.int .i64 l]∧
 cond (decide (l<((a:Nat):Int)))
 (Xa Tryz.prog 21 #[.pointer b] n fun x N=>
 ∃ i,x=.pointer i∧
 ∃ o r,Ef Tryz.prog (do eqGuard .eql 41 (.tmp 102) (.const (.pointer none)) (.pointer i) (.pointer none); binOp .eql 41 (.pointer i) (.pointer none):Sem Value) N (.bool o) r∧
 cond o
 (Q (.bool false) r)
 (∃ p,IxA Tryz.prog 51 (.slice c a d) (.int .i64 l) p∧
 ∃ (m:Array Value),Ld Tryz.prog 53 (.pointer (some p)) r (.agg m)∧
 Xa Tryz.prog 26 #[.pointer b,.pointer k,.agg m] r fun y D=>
 ∃ q,y=.bool q∧
 cond (!q)
 (Q (.bool false) D)
 (Xh [] [] L M u [.slice c a d,.bool e,.pointer f,.pointer g,.pointer b,.pointer k,.int .i64 (IntKind.i64.wrap (l+1))] n D)))
 (JY e f g b k n Q))
def J0 (A:Option Addr) (B:Nat) (C:Nat) (D:Option Addr) (E:Nat) (F:Nat) (G:Bool) (H:Option Addr) (I:Option Addr) (w:World) (Q:VWP):Prop:=
 LoopS [.slice A B C,.slice D E F,.bool G,.pointer H,.pointer I,.int .i64 0] w fun J L p _ l=>
 ∃ d c e f g i j a b k,p=[.slice d c e,.slice f g i,.bool j,.pointer a,.pointer b,.int .i64 k]∧
 cond (decide (k<((c:Nat):Int)))
 (Xa Tryz.prog 21 #[.pointer a] l fun u M=>
 ∃ m,u=.pointer m∧
 ∃ q o,Ef Tryz.prog (do eqGuard .eql 41 (.tmp 71) (.const (.pointer none)) (.pointer m) (.pointer none); binOp .eql 41 (.pointer m) (.pointer none):Sem Value) M (.bool q) o∧
 cond q
 (Q (.bool false) o)
 (∃ r,IxA Tryz.prog 51 (.slice d c e) (.int .i64 k) r∧
 ∃ (n:Array Value),Ld Tryz.prog 53 (.pointer (some r)) o (.agg n)∧
 Xa Tryz.prog 26 #[.pointer a,.pointer b,.agg n] o fun v x=>
 ∃ s,v=.bool s∧
 cond (!s)
 (Q (.bool false) x)
 (Xa Tryz.prog 35 #[.pointer a,.pointer b] x fun y z=>
 ∃ t,y=.bool t∧
 cond (!t)
 (Q (.bool false) z)
 (Xh [] [] J L p [.slice d c e,.slice f g i,.bool j,.pointer a,.pointer b,.int .i64 (IntKind.i64.wrap (k+1))] l z))))
 (JZ f g i j a b l Q)
def J1 (g:Option Addr) (i:Nat) (j:Nat) (k:Option Addr) (l:Nat) (m:Nat) (n:Bool) (c:Option Addr) (d:Option Addr) (w:World) (Q:VWP):Prop:=
 ∃ a e,Ef Tryz.prog (do eqGuard .eql 24 (.tmp 58) (.const (.pointer none)) (.pointer c) (.pointer none); binOp .eql 24 (.pointer c) (.pointer none):Sem Value) w (.bool a) e∧
 cond a
 (Q (.bool true) e)
 (∃ b f,Ef Tryz.prog (do eqGuard .eql 74 (.tmp 61) (.const (.pointer none)) (.pointer d) (.pointer none); binOp .eql 74 (.pointer d) (.pointer none):Sem Value) e (.bool b) f∧
 cond b
 (Q (.bool true) f)
 (J0 g i j k l m n c d f Q))
def XF (b:Option Addr) (c:Nat) (d:Nat) (e:Option Addr) (f:Nat) (g:Nat) (i:Bool) (j:Option Addr) (k:Option Addr) (a:Bool) (w:World) (Q:VWP):Prop:=
 cond a
 (Q (.bool false) w)
 (J1 b c d e f g i j k w Q)
def We (L:Option Addr) (M:Nat) (N:Nat) (O:Option Addr) (P:Nat) (R:Nat) (S:Addr) (T:Bool) (w:World) (Q:VWP):Prop:=
 ∃ aa ab g i,Ld Tryz.prog 30 (.pointer (some S)) w (.agg #[.int .i64 aa,.bool ab,.int .i64 g,.int .u64 i])∧
 Xa Tryz.prog 10 #[.agg #[.int .i64 aa,.bool ab,.int .i64 g,.int .u64 i]] w fun av ax=>
 ∃ a ac,av=.tuple #[.pointer a,.int .i64 ac]∧
 ∃ ad ae j k,Ld Tryz.prog 30 (.pointer (some S)) ax (.agg #[.int .i64 ad,.bool ae,.int .i64 j,.int .u64 k])∧
 Xa Tryz.prog 17 #[.agg #[.int .i64 ad,.bool ae,.int .i64 j,.int .u64 k]] ax fun ay aF=>
 ∃ af ag l m,ay=.agg #[.int .i64 af,.bool ag,.int .i64 l,.int .u64 m]∧
 Xa Tryz.prog 25 #[.agg #[.int .i64 af,.bool ag,.int .i64 l,.int .u64 m]] aF fun az aG=>
 ∃ b ah,az=.tuple #[.pointer b,.int .i64 ah]∧
 ∃ (d:World→Prop),
 Drw aG fun U=>
 cond (ac != ah)
 ((XF L M N O P R T a b true U Q)∧
 (XF L M N O P R T a b true U Q))
 ((∃ ai V,Ef Tryz.prog (do eqGuard .eql 24 (.tmp 44) (.const (.pointer none)) (.pointer a) (.pointer none); binOp .eql 24 (.pointer a) (.pointer none):Sem Value) U (.bool ai) V∧
 (V=U∨d V)∧
 ∃ aj e,Ef Tryz.prog (do eqGuard .eql 74 (.tmp 46) (.const (.pointer none)) (.pointer b) (.pointer none); binOp .eql 74 (.pointer b) (.pointer none):Sem Value) V (.bool aj) e∧
 (e=V∨d e)∧
 cond (!(ai == aj))
 (XF L M N O P R T a b true e Q)
 (∃ ak al n o,HLd Tryz.prog d 30 (.pointer (some S)) e (.agg #[.int .i64 ak,.bool al,.int .i64 n,.int .u64 o])∧
 ∃ am an p q,HLd Tryz.prog d 30 (.pointer (some S)) e (.agg #[.int .i64 am,.bool an,.int .i64 p,.int .u64 q])∧
 Xa Tryz.prog 34 #[.agg #[.int .i64 ak,.bool al,.int .i64 n,.int .u64 o]] e fun aA au=>
 ∃ ao,aA=.bool ao∧
 (au=e∨d au)∧
 Xa Tryz.prog 17 #[.agg #[.int .i64 am,.bool an,.int .i64 p,.int .u64 q]] au fun aB aH=>
 ∃ ap aq r s,aB=.agg #[.int .i64 ap,.bool aq,.int .i64 r,.int .u64 s]∧
 Xa Tryz.prog 16 #[.agg #[.int .i64 ap,.bool aq,.int .i64 r,.int .u64 s]] aH fun aC aI=>
 ∃ ar,aC=.bool ar∧
 XF L M N O P R T a b (!(ao == ar)) aI Q))∧
 (∃ t f,Ef Tryz.prog (do eqGuard .eql 74 (.tmp 46) (.const (.pointer none)) (.pointer b) (.pointer none); binOp .eql 74 (.pointer b) (.pointer none):Sem Value) U (.bool t) f∧
 (f=U∨d f)∧
 ∃ u c,Ef Tryz.prog (do eqGuard .eql 24 (.tmp 44) (.const (.pointer none)) (.pointer a) (.pointer none); binOp .eql 24 (.pointer a) (.pointer none):Sem Value) f (.bool u) c∧
 (c=f∨d c)∧
 cond (!(u == t))
 (XF L M N O P R T a b true c Q)
 (∃ v x y z,HLd Tryz.prog d 30 (.pointer (some S)) c (.agg #[.int .i64 v,.bool x,.int .i64 y,.int .u64 z])∧
 ∃ A B C D,HLd Tryz.prog d 30 (.pointer (some S)) c (.agg #[.int .i64 A,.bool B,.int .i64 C,.int .u64 D])∧
 Xa Tryz.prog 34 #[.agg #[.int .i64 v,.bool x,.int .i64 y,.int .u64 z]] c fun X W=>
 ∃ E,X=.bool E∧
 (W=c∨d W)∧
 Xa Tryz.prog 17 #[.agg #[.int .i64 A,.bool B,.int .i64 C,.int .u64 D]] W fun Y aD=>
 ∃ F G H I,Y=.agg #[.int .i64 F,.bool G,.int .i64 H,.int .u64 I]∧
 Xa Tryz.prog 16 #[.agg #[.int .i64 F,.bool G,.int .i64 H,.int .u64 I]] aD fun Z aE=>
 ∃ J,Z=.bool J∧
 XF L M N O P R T a b (!(E == J)) aE Q)))
def XaG (s:Int) (t:Bool) (d:Int) (e:Int) (f:Option Addr) (g:Nat) (i:Nat) (j:Option Addr) (k:Nat) (l:Nat) (w:World) (Q:VWP):Prop:=
 New #[.int .i64 s,.bool t,.int .i64 d,.int .u64 e] 30 w fun u v=>
 Xa Tryz.prog 9 #[] v fun m n=>
 ∃ a,m=.bool a∧
 cond (!a)
 (Q (.bool false) n)
 (Xa Tryz.prog 14 #[.slice f g i] n fun o p=>
 ∃ b,o=.bool b∧
 cond b
 (Q (.bool true) p)
 (Xa Tryz.prog 14 #[.slice j k l] p fun q r=>
 ∃ c,q=.bool c∧
 cond c
 (Q (.bool true) r)
 (We f g i j k l (⟨u,0,none⟩:Addr) false r Q)))
def Xgc:Nat→List (Nat×TypeId):=fun n=>match n with | 0=>[(1,51),(2,51),(6,4),(7,24),(9,74),(11,3)] | 2=>[(2,51),(6,4),(7,24),(9,74),(12,24),(13,74),(14,3)] | _=>[]
theorem Xdn (c:Int) (d:Bool) (a:Int) (b:Int) (e:Option Addr) (f:Nat) (g:Nat) (i:Option Addr) (j:Nat) (k:Nat) (w:World) (Q:VWP) (h:XaG c d a b e f g i j k w Q):Xa Tryz.prog 8 #[.agg #[.int .i64 c,.bool d,.int .i64 a,.int .u64 b],.slice e f g,.slice i j k] w Q:=
 Xc Xgc Tryz.func8 h (fun _ _=>by kernel_rfl) (by kernel_rfl) (by kernel_rfl) (by kernel_rfl)
def Zo (cs:Bool) (c:Option Addr) (cl:Option Addr) (cm:Nat) (cn:Nat) (a3:Addr) (b4:Addr) (a4:Addr) (b5:Addr) (w:World) (Q:VWP):Prop:=
 ∃ a5 a6 a7,Ld Tryz.prog 22 (.pointer (some (a4.add 3))) w (.slice a5 a6 a7)∧
 Xa Tryz.prog 22 #[.slice a5 a6 a7] w fun b6 co=>
 ∃ a8 v a9 ba bb x y z A B C D E F G,b6=.tuple #[.agg #[.int .u8 a8,.int .u32 v,.slice a9 ba bb,.slice x y z,.slice A B C,.slice D E F],.int .i64 G]∧
 ∃ bc,Pu Tryz.prog (zeroValue 68) bc∧
 New bc.cells 68 co fun bd cp=>
 ∃ bP,Sto Tryz.prog 68 (.pointer (some ⟨bd,0,none⟩)) (.agg #[.int .u8 a8,.int .u32 v,.slice a9 ba bb,.slice x y z,.slice A B C,.slice D E F]) cp bP∧
 ∃ be bf bg,Ld Tryz.prog 22 (.pointer (some ((⟨bd,0,none⟩:Addr).add 4))) bP (.slice be bf bg)∧
 ∃ b7,Sto Tryz.prog 22 (.pointer (some (a3.add 4))) (.slice be bf bg) bP b7∧
 ∃ bh bi bj bR,Ef Tryz.prog (Instr.buildSlice 22 1 #[(0,.int .u8 5)]) b7 (.slice bh bi bj) bR∧
 ∃ bk H bl bm bn I J L M N O P R S,Ld Tryz.prog 38 (.pointer (some a3)) bR (.agg #[.int .u8 bk,.int .u32 H,.slice bl bm bn,.slice I J L,.slice M N O,.slice P R S])∧
 Xa Tryz.prog 11 #[.pointer c,.slice bh bi bj,.agg #[.int .u8 bk,.int .u32 H,.slice bl bm bn,.slice I J L,.slice M N O,.slice P R S],.int .u64 110,.slice none 0 0] bR fun b8 cq=>
 ∃ bo bp T bq br bs U,b8=.agg #[.int .i64 bo,.bool bp,.int .i64 T,.slice bq br bs,.int .i64 U]∧
 ∃ bt,Pu Tryz.prog (zeroValue 32) bt∧
 New bt.cells 32 cq fun ah cr=>
 ∃ b9,Sto Tryz.prog 32 (.pointer (some ⟨ah,0,none⟩)) (.agg #[.int .i64 bo,.bool bp,.int .i64 T,.slice bq br bs,.int .i64 U]) cr b9∧
 ∃ bu bv bx bS,Ef Tryz.prog (Instr.buildSlice 22 1 #[(0,.int .u8 6)]) b9 (.slice bu bv bx) bS∧
 ∃ bz V bA bB bC W X Y Z aa ab ac ad ae,Ld Tryz.prog 38 (.pointer (some a3)) bS (.agg #[.int .u8 bz,.int .u32 V,.slice bA bB bC,.slice W X Y,.slice Z aa ab,.slice ac ad ae])∧
 Xa Tryz.prog 11 #[.pointer c,.slice bu bv bx,.agg #[.int .u8 bz,.int .u32 V,.slice bA bB bC,.slice W X Y,.slice Z aa ab,.slice ac ad ae],.int .u64 110,.slice none 0 0] bS fun ca cb=>
 ∃ bD bE af bF bG bH ag,ca=.agg #[.int .i64 bD,.bool bE,.int .i64 af,.slice bF bG bH,.int .i64 ag]∧
 ∃ bI,Pu Tryz.prog (zeroValue 32) bI∧
 New bI.cells 32 cb fun ai cc=>
 ∃ bJ,Sto Tryz.prog 32 (.pointer (some ⟨ai,0,none⟩)) (.agg #[.int .i64 bD,.bool bE,.int .i64 af,.slice bF bG bH,.int .i64 ag]) cc bJ∧
 ∃ aj ak al am,Ef Tryz.prog (Instr.buildSlice 22 1 #[(0,.int .u8 5)]) bJ (.slice aj ak al) am∧
 ∃ an e ao ap aq f g i j k l m n o,Ld Tryz.prog 38 (.pointer (some a3)) am (.agg #[.int .u8 an,.int .u32 e,.slice ao ap aq,.slice f g i,.slice j k l,.slice m n o])∧
 Xa Tryz.prog 11 #[.pointer c,.slice aj ak al,.agg #[.int .u8 an,.int .u32 e,.slice ao ap aq,.slice f g i,.slice j k l,.slice m n o],.int .u64 111,.slice cl cm cn] am fun bT cd=>
 ∃ ar au p av ax ay q,bT=.agg #[.int .i64 ar,.bool au,.int .i64 p,.slice av ax ay,.int .i64 q]∧
 ∃ bL,Pu Tryz.prog (zeroValue 32) bL∧
 New bL.cells 32 cd fun bM ce=>
 ∃ bN,Sto Tryz.prog 32 (.pointer (some ⟨bM,0,none⟩)) (.agg #[.int .i64 ar,.bool au,.int .i64 p,.slice av ax ay,.int .i64 q]) ce bN∧
 ∃ az,c=some az∧
 Xa Tryz.prog 18 #[.pointer (some (az.add 0))] bN fun bU cf=>
 ∃ aA r,bU=.tuple #[.int .i64 aA,.int .i64 r]∧
 ∃ aB,c=some aB∧
 Xa Tryz.prog 13 #[.pointer (some (aB.add 0))] cf fun bV cg=>
 bV=.tuple #[]∧
 Xa Tryz.prog 36 #[.pointer c] cg fun bW ch=>
 ∃ d,bW=.pointer d∧
 Xa Tryz.prog 29 #[.pointer c,.agg #[.int .i64 3,.bool false,.int .i64 1,.int .u64 0]] ch fun bX ci=>
 ∃ aC,bX=.int .i64 aC∧
 Xa Tryz.prog 27 #[.pointer c] ci fun bY cj=>
 ∃ aD s t,bY=.tuple #[.int .i64 aD,.int .i64 s,.int .i64 t]∧
 ∃ aE aF,Ef Tryz.prog (do eqGuard .neq 24 (.tmp 126) (.const (.pointer none)) (.pointer d) (.pointer none); binOp .neq 24 (.pointer d) (.pointer none):Sem Value) cj (.bool aE) aF∧
 cond aE
 (∃ aG,d=some aG∧
 Xa Tryz.prog 12 #[.pointer (some (aG.add 0))] aF fun bZ b=>
 ∃ aH,bZ=.bool aH∧
 cond aH
 (∃ aI,Ld Tryz.prog 3 (.pointer (some (b4.add 0))) b (.int .i64 aI)∧
 cond (aI == 2)
 (∃ aJ,Ld Tryz.prog 25 (.pointer (some (b4.add 2))) b (.int .i64 aJ)∧
 cond (aJ == 17)
 (∃ aL,Ld Tryz.prog 3 (.pointer (some (a4.add 0))) b (.int .i64 aL)∧
 cond (aL == 1)
 (∃ aM,Ld Tryz.prog 3 (.pointer (some (a4.add 4))) b (.int .i64 aM)∧
 cond (aM == 20)
 (cond (G == 0)
 (∃ aN,Ld Tryz.prog 3 (.pointer (some (b5.add 0))) b (.int .i64 aN)∧
 cond (aN == 2)
 (∃ aO,Ld Tryz.prog 25 (.pointer (some (b5.add 2))) b (.int .i64 aO)∧
 cond (aO == 21)
 (∃ aP aR aS,Ld Tryz.prog 22 (.pointer (some (a4.add 3))) b (.slice aP aR aS)∧
 ∃ aT aU aV bO,Ef Tryz.prog (Instr.buildSlice 22 2 #[(0,.int .u8 7),(1,.int .u8 8)]) b (.slice aT aU aV) bO∧
 Xa Tryz.prog 24 #[.slice aP aR aS,.slice aT aU aV] bO fun b0 a=>
 ∃ aW,b0=.int .i64 aW∧
 cond (aW == 0)
 (∃ aX,Ld Tryz.prog 3 (.pointer (some ((⟨ah,0,none⟩:Addr).add 0))) a (.int .i64 aX)∧
 cond (aX == 0)
 (∃ aY,Ld Tryz.prog 4 (.pointer (some ((⟨ah,0,none⟩:Addr).add 1))) a (.bool aY)∧
 cond aY
 (∃ aZ,Ld Tryz.prog 3 (.pointer (some ((⟨ai,0,none⟩:Addr).add 0))) a (.int .i64 aZ)∧
 cond (aZ == 2)
 (∃ a0,Ld Tryz.prog 25 (.pointer (some ((⟨ai,0,none⟩:Addr).add 2))) a (.int .i64 a0)∧
 cond (a0 == 13)
 (∃ a1,Ld Tryz.prog 3 (.pointer (some ((⟨bM,0,none⟩:Addr).add 0))) a (.int .i64 a1)∧
 cond (a1 == 1)
 (cond (aA == 6)
 (cond (r == 0)
 (cond (aC == 11)
 (cond (aD == 1)
 (cond (s == 2)
 (cond (t == 3)
 (Xa Tryz.prog 28 #[.pointer c] a fun b1 ck=>
 ∃ b2 b3 a2 u,b1=.agg #[.int .i64 b2,.bool b3,.int .i64 a2,.int .u64 u]∧
 Q (.bool (u == 10)) ck)
 (Q (.bool false) a))
 (Q (.bool false) a))
 (Q (.bool false) a))
 (Q (.bool false) a))
 (Q (.bool false) a))
 (Q (.bool false) a))
 (Q (.bool false) a))
 (Q (.bool false) a))
 (Q (.bool false) a))
 (Q (.bool false) a))
 (Q (.bool false) a))
 (Q (.bool false) a))
 (Q (.bool false) b))
 (Q (.bool false) b))
 (Q (.bool false) b))
 (Q (.bool false) b))
 (Q (.bool false) b))
 (Q (.bool false) b))
 (Q (.bool false) b))
 (Q (.bool false) b))
 (Q (.bool false) aF)
def Jf (aT:Bool) (m:Option Addr) (af:Option Addr) (ag:Nat) (ah:Nat) (ai:Addr) (aU:Addr) (w:World) (Q:VWP):Prop:=
 ∃ ay az aA aV,Ef Tryz.prog (Instr.buildSlice 22 1 #[(0,.int .u8 5)]) w (.slice ay az aA) aV∧
 ∃ aB n aC aD aE o p q r s t u v x,Ld Tryz.prog 38 (.pointer (some ai)) aV (.agg #[.int .u8 aB,.int .u32 n,.slice aC aD aE,.slice o p q,.slice r s t,.slice u v x])∧
 Xa Tryz.prog 11 #[.pointer m,.slice ay az aA,.agg #[.int .u8 aB,.int .u32 n,.slice aC aD aE,.slice o p q,.slice r s t,.slice u v x],.int .u64 100,.slice af ag ah] aV fun aX a7=>
 ∃ aF aG y aH aI aJ z,aX=.agg #[.int .i64 aF,.bool aG,.int .i64 y,.slice aH aI aJ,.int .i64 z]∧
 ∃ aY,Pu Tryz.prog (zeroValue 32) aY∧
 New aY.cells 32 a7 fun au a8=>
 ∃ aZ,Sto Tryz.prog 32 (.pointer (some ⟨au,0,none⟩)) (.agg #[.int .i64 aF,.bool aG,.int .i64 y,.slice aH aI aJ,.int .i64 z]) a8 aZ∧
 ∃ (l:World→Prop),
 Drw aZ fun aj=>
 ∃ A B C,Pu Tryz.prog (Instr.sliceAt 22 (.slice af ag ah) none (some (.int .i64 19)) none) (.slice A B C)∧
 ∃ D a E F G b c d e f g i j k,HLd Tryz.prog l 38 (.pointer (some ai)) aj (.agg #[.int .u8 D,.int .u32 a,.slice E F G,.slice b c d,.slice e f g,.slice i j k])∧
 (∃ ak al am ae,Ef Tryz.prog (Instr.buildSlice 22 1 #[(0,.int .u8 5)]) aj (.slice ak al am) ae∧
 (ae=aj∨l ae)∧
 (Xa Tryz.prog 11 #[.pointer m,.slice ak al am,.agg #[.int .u8 D,.int .u32 a,.slice E F G,.slice b c d,.slice e f g,.slice i j k],.int .u64 100,.slice A B C] ae fun a0 a1=>
 ∃ aL aM H aN aO aP I,a0=.agg #[.int .i64 aL,.bool aM,.int .i64 H,.slice aN aO aP,.int .i64 I]∧
 ∃ a2,Pu Tryz.prog (zeroValue 32) a2∧
 New a2.cells 32 a1 fun a3 aW=>
 (aW=a1∨l aW)∧
 ∃ a4,Sto Tryz.prog 32 (.pointer (some ⟨a3,0,none⟩)) (.agg #[.int .i64 aL,.bool aM,.int .i64 H,.slice aN aO aP,.int .i64 I]) aW a4∧
 Zo aT m af ag ah ai aU (⟨au,0,none⟩:Addr) (⟨a3,0,none⟩:Addr) a4 Q)∧
 (∃ an,Pu Tryz.prog (zeroValue 32) an∧
 New an.cells 32 ae fun ao ap=>
 (ap=ae∨l ap)∧
 Xa Tryz.prog 11 #[.pointer m,.slice ak al am,.agg #[.int .u8 D,.int .u32 a,.slice E F G,.slice b c d,.slice e f g,.slice i j k],.int .u64 100,.slice A B C] ap fun av a5=>
 ∃ J L M N O P R,av=.agg #[.int .i64 J,.bool L,.int .i64 M,.slice N O P,.int .i64 R]∧
 ∃ aR,Sto Tryz.prog 32 (.pointer (some ⟨ao,0,none⟩)) (.agg #[.int .i64 J,.bool L,.int .i64 M,.slice N O P,.int .i64 R]) a5 aR∧
 Zo aT m af ag ah ai aU (⟨au,0,none⟩:Addr) (⟨ao,0,none⟩:Addr) aR Q))∧
 (∃ aq,Pu Tryz.prog (zeroValue 32) aq∧
 New aq.cells 32 aj fun ar S=>
 (S=aj∨l S)∧
 ∃ T U V W,Ef Tryz.prog (Instr.buildSlice 22 1 #[(0,.int .u8 5)]) S (.slice T U V) W∧
 (W=S∨l W)∧
 Xa Tryz.prog 11 #[.pointer m,.slice T U V,.agg #[.int .u8 D,.int .u32 a,.slice E F G,.slice b c d,.slice e f g,.slice i j k],.int .u64 100,.slice A B C] W fun ax a6=>
 ∃ X Y Z aa ab ac ad,ax=.agg #[.int .i64 X,.bool Y,.int .i64 Z,.slice aa ab ac,.int .i64 ad]∧
 ∃ aS,Sto Tryz.prog 32 (.pointer (some ⟨ar,0,none⟩)) (.agg #[.int .i64 X,.bool Y,.int .i64 Z,.slice aa ab ac,.int .i64 ad]) a6 aS∧
 Zo aT m af ag ah ai aU (⟨au,0,none⟩:Addr) (⟨ar,0,none⟩:Addr) aS Q)
def VJ (ae:Bool) (v:Option Addr) (w:World) (Q:VWP):Prop:=
 ∃ a b c af,Ef Tryz.prog (Instr.buildSlice 22 20 #[(0,.int .u8 1),(1,.int .u8 2),(2,.int .u8 3),(3,.int .u8 4),(4,.int .u8 5),(5,.int .u8 6),(6,.int .u8 7),(7,.int .u8 8),(8,.int .u8 9),(9,.int .u8 10),(10,.int .u8 11),(11,.int .u8 12),(12,.int .u8 13),(13,.int .u8 14),(14,.int .u8 15),(15,.int .u8 16),(16,.int .u8 17),(17,.int .u8 18),(18,.int .u8 19),(19,.int .u8 20)]) w (.slice a b c) af∧
 ∃ ag,Pu Tryz.prog (zeroValue 38) ag∧
 New ag.cells 38 af fun u az=>
 ∃ ah,Sto Tryz.prog 38 (.pointer (some ⟨u,0,none⟩)) (.agg #[.int .u8 0,.int .u32 0,.slice none 0 0,.slice none 0 0,.slice none 0 0,.slice none 0 0]) az ah∧
 ∃ A B C ai,Ef Tryz.prog (Instr.buildSlice 22 2 #[(0,.int .u8 7),(1,.int .u8 8)]) ah (.slice A B C) ai∧
 ∃ aj,Sto Tryz.prog 22 (.pointer (some (((⟨u,0,none⟩:Addr).add 0).add 2))) (.slice A B C) ai aj∧
 ∃ D E F ak,Ef Tryz.prog (Instr.buildSlice 22 1 #[(0,.int .u8 9)]) aj (.slice D E F) ak∧
 ∃ al,Sto Tryz.prog 22 (.pointer (some (((⟨u,0,none⟩:Addr).add 0).add 3))) (.slice D E F) ak al∧
 ∃ G H I ac,Ef Tryz.prog (Instr.buildSlice 22 1 #[(0,.int .u8 5)]) al (.slice G H I) ac∧
 ∃ J d L M N e f g i j k l m n,Ld Tryz.prog 38 (.pointer (some ⟨u,0,none⟩)) ac (.agg #[.int .u8 J,.int .u32 d,.slice L M N,.slice e f g,.slice i j k,.slice l m n])∧
 Xa Tryz.prog 11 #[.pointer v,.slice G H I,.agg #[.int .u8 J,.int .u32 d,.slice L M N,.slice e f g,.slice i j k,.slice l m n],.int .u64 100,.slice a b c] ac fun am aA=>
 ∃ O P o R S T p,am=.agg #[.int .i64 O,.bool P,.int .i64 o,.slice R S T,.int .i64 p]∧
 ∃ an,Pu Tryz.prog (zeroValue 32) an∧
 New an.cells 32 aA fun ad ao=>
 ∃ U,Sto Tryz.prog 32 (.pointer (some ⟨ad,0,none⟩)) (.agg #[.int .i64 O,.bool P,.int .i64 o,.slice R S T,.int .i64 p]) ao U∧
 ∃ (aB:World→Prop),
 Drw U fun V=>
 (Xa Tryz.prog 21 #[.pointer v] V fun ap aq=>
 ∃ W,ap=.pointer W∧
 ∃ X Y Z aa,Ef Tryz.prog (Instr.makeSlice 22 (.int .i64 16) (.int .i64 16)) aq (.slice X Y Z) aa∧
 Xa Tryz.prog 38 #[.pointer W,.int .i64 4,.slice X Y Z] aa fun ar au=>
 ∃ av,ar=.int .i64 av∧
 Jf ae v a b c (⟨u,0,none⟩:Addr) (⟨ad,0,none⟩:Addr) au Q)∧
 (∃ q r s ab,Ef Tryz.prog (Instr.makeSlice 22 (.int .i64 16) (.int .i64 16)) V (.slice q r s) ab∧
 Xa Tryz.prog 21 #[.pointer v] ab fun x ax=>
 ∃ t,x=.pointer t∧
 Xa Tryz.prog 38 #[.pointer t,.int .i64 4,.slice q r s] ax fun y ay=>
 ∃ z,y=.int .i64 z∧
 Jf ae v a b c (⟨u,0,none⟩:Addr) (⟨ad,0,none⟩:Addr) ay Q)
def Xh9  (w:World) (Q:VWP):Prop:=
 Xa Tryz.prog 10 #[.agg #[.int .i64 2,.bool false,.int .i64 1,.int .u64 10]] w fun l r=>
 ∃ a d,l=.tuple #[.pointer a,.int .i64 d]∧
 Xa Tryz.prog 10 #[.agg #[.int .i64 0,.bool false,.int .i64 0,.int .u64 0]] r fun m s=>
 ∃ n e,m=.tuple #[.pointer n,.int .i64 e]∧
 ∃ f b,Ef Tryz.prog (do eqGuard .eql 24 (.tmp 32) (.const (.pointer none)) (.pointer a) (.pointer none); binOp .eql 24 (.pointer a) (.pointer none):Sem Value) s (.bool f) b∧
 cond f
 (Q (.bool false) b)
 (cond (d != 0)
 (Q (.bool false) b)
 (cond (e != 11)
 (Q (.bool false) b)
 (Xa Tryz.prog 21 #[.pointer a] b fun o t=>
 ∃ c,o=.pointer c∧
 ∃ g k,Ef Tryz.prog (do eqGuard .eql 41 (.tmp 44) (.const (.pointer none)) (.pointer c) (.pointer none); binOp .eql 41 (.pointer c) (.pointer none):Sem Value) t (.bool g) k∧
 cond g
 (Q (.bool false) k)
 (∃ i,a=some i∧
 Xa Tryz.prog 12 #[.pointer (some (i.add 0))] k fun p q=>
 ∃ j,p=.bool j∧
 cond (!j)
 (Q (.bool false) q)
 (VJ false a q Q)))))
def XmB:Nat→List (Nat×TypeId):=fun _=>[]
theorem Xi9  (w:World) (Q:VWP) (h:Xh9  w Q):Xa Tryz.prog 9 #[] w Q:=
 Xc XmB Tryz.func9 h (fun _ _=>by kernel_rfl) (by kernel_rfl) (by kernel_rfl) (by kernel_rfl)
def Xia (H:Option Addr) (r:Nat) (I:Nat) (w:World) (Q:VWP):Prop:=
 cond (decide (((r:Nat):Int) > 60))
 (Q (.bool true) w)
 (LoopS [.slice H r I,.bool false,.int .i64 0] w fun J L j _ f=>
 ∃ c b d s i,j=[.slice c b d,.bool s,.int .i64 i]∧
 cond (decide (i<((b:Nat):Int)))
 (∃ k,IxA Tryz.prog 51 (.slice c b d) (.int .i64 i) k∧
 ∃ (g:Array Value),Ld Tryz.prog 53 (.pointer (some k)) f (.agg g)∧
 ∃ t,Pu Tryz.prog (zeroValue 53) t∧
 New t.cells 53 f fun e M=>
 ∃ a,Sto Tryz.prog 53 (.pointer (some ⟨e,0,none⟩)) (.agg g) M a∧
 ∃ u l v,Ld Tryz.prog 22 (.pointer (some ((⟨e,0,none⟩:Addr).add 6))) a (.slice u l v)∧
 cond (decide (((l:Nat):Int) > 100))
 (Q (.bool true) a)
 (∃ x m y,Ld Tryz.prog 22 (.pointer (some ((⟨e,0,none⟩:Addr).add 7))) a (.slice x m y)∧
 cond (decide (((m:Nat):Int) > 100))
 (Q (.bool true) a)
 (∃ z n A,Ld Tryz.prog 22 (.pointer (some ((((⟨e,0,none⟩:Addr).add 8).add 0).add 2))) a (.slice z n A)∧
 cond (decide (((n:Nat):Int) > 100))
 (Q (.bool true) a)
 (∃ B o C,Ld Tryz.prog 22 (.pointer (some ((((⟨e,0,none⟩:Addr).add 8).add 0).add 3))) a (.slice B o C)∧
 cond (decide (((o:Nat):Int) > 100))
 (Q (.bool true) a)
 (∃ D p E,Ld Tryz.prog 22 (.pointer (some (((⟨e,0,none⟩:Addr).add 8).add 4))) a (.slice D p E)∧
 cond (decide (((p:Nat):Int) > 300))
 (Q (.bool true) a)
 (∃ F q G,Ld Tryz.prog 22 (.pointer (some (((⟨e,0,none⟩:Addr).add 8).add 5))) a (.slice F q G)∧
 cond (decide (((q:Nat):Int) > 100))
 (Q (.bool true) a)
 (Xh [] [] J L j [.slice c b d,.bool s,.int .i64 (IntKind.i64.wrap (i+1))] f a)))))))
 (Q (.bool false) f))
def XmC:Nat→List (Nat×TypeId):=fun n=>match n with | 0=>[(0,51),(2,4),(3,3)] | _=>[]
theorem Xja (a:Option Addr) (b:Nat) (c:Nat) (w:World) (Q:VWP) (h:Xia a b c w Q):Xa Tryz.prog 14 #[.slice a b c] w Q:=
 Xc XmC Tryz.func14 h (fun _ _=>by kernel_rfl) (by kernel_rfl) (by kernel_rfl) (by kernel_rfl)
def XqF (o:Int) (p:Bool) (e:Int) (f:Int) (w:World) (Q:VWP):Prop:=
 New #[.int .i64 o,.bool p,.int .i64 e,.int .u64 f] 30 w fun b q=>
 ∃ g,Pu Tryz.prog (zeroValue 57) g∧
 New g.cells 57 q fun i a=>
 ∃ j,Ld Tryz.prog 3 (.pointer (some ((⟨b,0,none⟩:Addr).add 0))) a (.int .i64 j)∧
 ∃ k,Ld Tryz.prog 4 (.pointer (some ((⟨b,0,none⟩:Addr).add 1))) a (.bool k)∧
 ∃ l,Ld Tryz.prog 3 (.pointer (some ((⟨b,0,none⟩:Addr).add 2))) a (.int .i64 l)∧
 ∃ d,Ld Tryz.prog 28 (.pointer (some ((⟨b,0,none⟩:Addr).add 3))) a (.int .u64 d)∧
 ∃ c,Sto Tryz.prog 57 (.pointer (some ⟨i,0,none⟩)) (.agg #[.int .i64 j,.bool k,.int .i64 l,.int .u64 d]) a c∧
 ∃ m n,(.pointer (some ⟨i,0,none⟩):Value)=.pointer (some m)∧(loadVar 57 m).run Tryz.prog c=.ok n c∧
 Q (n) c
def Xsd:Nat→List (Nat×TypeId):=fun _=>[]
theorem XoK (c:Int) (d:Bool) (a:Int) (b:Int) (w:World) (Q:VWP) (h:XqF c d a b w Q):Xa Tryz.prog 17 #[.agg #[.int .i64 c,.bool d,.int .i64 a,.int .u64 b]] w Q:=
 Xc Xsd Tryz.func17 h (fun _ _=>by kernel_rfl) (by kernel_rfl) (by kernel_rfl) (by kernel_rfl)
def XqG (ab:Option Addr) (ac:Option Addr) (bu:Array Value) (w:World) (Q:VWP):Prop:=
 New bu 53 w fun a e=>
 ∃ aa,Ld Tryz.prog 3 (.pointer (some ((⟨a,0,none⟩:Addr).add 0))) e (.int .i64 aa)∧
 cond (aa == 0)
 (∃ (b:World→Prop),
 Drw e fun c=>
 ∃ ak al am,HLd Tryz.prog b 22 (.pointer (some ((⟨a,0,none⟩:Addr).add 6))) c (.slice ak al am)∧
 ∃ an f ao ap aq g i j k l m n o p,HLd Tryz.prog b 38 (.pointer (some ((⟨a,0,none⟩:Addr).add 8))) c (.agg #[.int .u8 an,.int .u32 f,.slice ao ap aq,.slice g i j,.slice k l m,.slice n o p])∧
 ∃ ar,HLd Tryz.prog b 28 (.pointer (some ((⟨a,0,none⟩:Addr).add 14))) c (.int .u64 ar)∧
 ∃ au av ax,HLd Tryz.prog b 22 (.pointer (some ((⟨a,0,none⟩:Addr).add 7))) c (.slice au av ax)∧
 ∃ ay az aA,HLd Tryz.prog b 22 (.pointer (some ((⟨a,0,none⟩:Addr).add 6))) c (.slice ay az aA)∧
 ∃ aB q aC aD aE r s t u v x y z A,HLd Tryz.prog b 38 (.pointer (some ((⟨a,0,none⟩:Addr).add 8))) c (.agg #[.int .u8 aB,.int .u32 q,.slice aC aD aE,.slice r s t,.slice u v x,.slice y z A])∧
 ∃ aF,HLd Tryz.prog b 28 (.pointer (some ((⟨a,0,none⟩:Addr).add 14))) c (.int .u64 aF)∧
 ∃ aG aH aI,HLd Tryz.prog b 22 (.pointer (some ((⟨a,0,none⟩:Addr).add 7))) c (.slice aG aH aI)∧
 Xa Tryz.prog 19 #[.slice ak al am] c fun bv ah=>
 ∃ aJ aL aM,bv=.slice aJ aL aM∧
 (ah=c∨b ah)∧
 Xa Tryz.prog 19 #[.slice au av ax] ah fun bx ai=>
 ∃ aN aO aP,bx=.slice aN aO aP∧
 (ai=ah∨b ai)∧
 Xa Tryz.prog 11 #[.pointer ab,.slice aJ aL aM,.agg #[.int .u8 an,.int .u32 f,.slice ao ap aq,.slice g i j,.slice k l m,.slice n o p],.int .u64 ar,.slice aN aO aP] ai fun bz aj=>
 ∃ aR aS B aT aU aV C,bz=.agg #[.int .i64 aR,.bool aS,.int .i64 B,.slice aT aU aV,.int .i64 C]∧
 (aj=ai∨b aj)∧
 Xa Tryz.prog 54 #[.agg #[.int .u8 aB,.int .u32 q,.slice aC aD aE,.slice r s t,.slice u v x,.slice y z A]] aj fun bA bs=>
 ∃ aW D aX aY aZ E F G H I J L M N,bA=.agg #[.int .u8 aW,.int .u32 D,.slice aX aY aZ,.slice E F G,.slice H I J,.slice L M N]∧
 (bs=aj∨b bs)∧
 Xa Tryz.prog 53 #[.pointer ac,.slice ay az aA,.agg #[.int .u8 aW,.int .u32 D,.slice aX aY aZ,.slice E F G,.slice H I J,.slice L M N],.int .u64 aF,.slice aG aH aI] bs fun bB bT=>
 ∃ a0 a1 O a2 a3 a4 P,bB=.agg #[.int .i64 a0,.bool a1,.int .i64 O,.slice a2 a3 a4,.int .i64 P]∧
 Xa Tryz.prog 52 #[.agg #[.int .i64 aR,.bool aS,.int .i64 B,.slice aT aU aV,.int .i64 C],.agg #[.int .i64 a0,.bool a1,.int .i64 O,.slice a2 a3 a4,.int .i64 P]] bT fun bC bU=>
 ∃ a5,bC=.bool a5∧
 Q (.bool a5) bU)
 (cond (aa == 1)
 (∃ a6,ab=some a6∧
 Xa Tryz.prog 13 #[.pointer (some (a6.add 0))] e fun bD bV=>
 bD=.tuple #[]∧
 Xa Tryz.prog 55 #[.pointer ac] bV fun bE bF=>
 bE=.tuple #[]∧
 Q (.bool true) bF)
 (cond (aa == 2)
 (∃ (bt:World→Prop),
 Drw e fun R=>
 ∃ a7 a8 S T,HLd Tryz.prog bt 30 (.pointer (some ((⟨a,0,none⟩:Addr).add 2))) R (.agg #[.int .i64 a7,.bool a8,.int .i64 S,.int .u64 T])∧
 ∃ a9 ba U V,HLd Tryz.prog bt 30 (.pointer (some ((⟨a,0,none⟩:Addr).add 2))) R (.agg #[.int .i64 a9,.bool ba,.int .i64 U,.int .u64 V])∧
 Xa Tryz.prog 29 #[.pointer ab,.agg #[.int .i64 a7,.bool a8,.int .i64 S,.int .u64 T]] R fun bG ad=>
 ∃ bb,bG=.int .i64 bb∧
 (ad=R∨bt ad)∧
 Xa Tryz.prog 17 #[.agg #[.int .i64 a9,.bool ba,.int .i64 U,.int .u64 V]] ad fun bH bI=>
 ∃ bc bd W X,bH=.agg #[.int .i64 bc,.bool bd,.int .i64 W,.int .u64 X]∧
 Xa Tryz.prog 56 #[.pointer ac,.agg #[.int .i64 bc,.bool bd,.int .i64 W,.int .u64 X]] bI fun bJ bL=>
 ∃ be,bJ=.int .i64 be∧
 Q (.bool (bb == be)) bL)
 (cond (aa == 3)
 (∃ (Y:World→Prop),
 Drw e fun d=>
 ∃ bf,ac=some bf∧
 ∃ bg,HLd Tryz.prog Y 94 (.pointer (some (bf.add 4))) d (.pointer bg)∧
 ∃ bh,HLd Tryz.prog Y 3 (.pointer (some ((⟨a,0,none⟩:Addr).add 1))) d (.int .i64 bh)∧
 ∃ bi bj bk,HLd Tryz.prog Y 22 (.pointer (some ((⟨a,0,none⟩:Addr).add 7))) d (.slice bi bj bk)∧
 Xa Tryz.prog 21 #[.pointer ab] d fun bM ae=>
 ∃ bl,bM=.pointer bl∧
 (ae=d∨Y ae)∧
 Xa Tryz.prog 57 #[.pointer bl,.pointer bg,.agg #[.int .i64 0,.int .i64 bh,.slice bi bj bk]] ae fun bN bO=>
 ∃ bm,bN=.bool bm∧
 Q (.bool bm) bO)
 (cond (aa == 4)
 (∃ (af:World→Prop),
 Drw e fun Z=>
 ∃ bn,ac=some bn∧
 ∃ bo,HLd Tryz.prog af 94 (.pointer (some (bn.add 4))) Z (.pointer bo)∧
 ∃ bp,HLd Tryz.prog af 3 (.pointer (some ((⟨a,0,none⟩:Addr).add 1))) Z (.int .i64 bp)∧
 Xa Tryz.prog 21 #[.pointer ab] Z fun bP ag=>
 ∃ bq,bP=.pointer bq∧
 (ag=Z∨af ag)∧
 Xa Tryz.prog 57 #[.pointer bq,.pointer bo,.agg #[.int .i64 1,.int .i64 bp,.slice none 0 0]] ag fun bR bS=>
 ∃ br,bR=.bool br∧
 Q (.bool br) bS)
 (Q (.bool true) e)))))
def Xse:Nat→List (Nat×TypeId):=fun _=>[]
theorem XoL (b:Option Addr) (c:Option Addr) (a:Array Value) (w:World) (Q:VWP) (h:XqG b c a w Q):Xa Tryz.prog 26 #[.pointer b,.pointer c,.agg a] w Q:=
 Xc Xse Tryz.func26 h (fun _ _=>by kernel_rfl) (by kernel_rfl) (by kernel_rfl) (by kernel_rfl)
def Xib (o:Option Addr) (p:Option Addr) (w:World) (Q:VWP):Prop:=
 ∃ U,o=some U∧
 Xa Tryz.prog 18 #[.pointer (some (U.add 0))] w fun V ah=>
 ∃ A k,V=.tuple #[.int .i64 A,.int .i64 k]∧
 ∃ (W:World→Prop),
 Drw ah fun X=>
 Xa Tryz.prog 21 #[.pointer o] X fun Y x=>
 ∃ q,Y=.pointer q∧
 (x=X∨W x)∧
 ∃ (a:World→Prop),
 (∀ v,a v→W v)∧
 ∃ B i,Ef Tryz.prog (do eqGuard .neq 41 (.tmp 15) (.const (.pointer none)) (.pointer q) (.pointer none); binOp .neq 41 (.pointer q) (.pointer none):Sem Value) x (.bool B) i∧
 (i=x∨a i)∧
 cond B
 (∃ C,p=some C∧
 ∃ D,HLd Tryz.prog a 94 (.pointer (some (C.add 4))) i (.pointer D)∧
 Xa Tryz.prog 21 #[.pointer o] i fun Z y=>
 ∃ E,Z=.pointer E∧
 (y=i∨a y)∧
 ∃ (c:World→Prop),
 (∀ v,c v→a v)∧
 Xa Tryz.prog 65 #[.pointer E,.pointer D] y fun aa n=>
 ∃ F,aa=.bool F∧
 (n=y∨c n)∧
 ∃ (b:World→Prop),
 (∀ v,b v→c v)∧
 cond F
 (∃ G,p=some G∧
 ∃ r s d e,HLd Tryz.prog b 57 (.pointer (some (G.add 0))) n (.agg #[.int .i64 r,.bool s,.int .i64 d,.int .u64 e])∧
 Xa Tryz.prog 28 #[.pointer o] n fun ab z=>
 ∃ H I l m,ab=.agg #[.int .i64 H,.bool I,.int .i64 l,.int .u64 m]∧
 (z=n∨b z)∧
 Xa Tryz.prog 17 #[.agg #[.int .i64 H,.bool I,.int .i64 l,.int .u64 m]] z fun ac T=>
 ∃ t u f g,ac=.agg #[.int .i64 t,.bool u,.int .i64 f,.int .u64 g]∧
 (T=z∨b T)∧
 ∃ J j,Ef Tryz.prog (do eqGuard .eql 57 (.tmp 29) (.tmp 33) (.agg #[.int .i64 t,.bool u,.int .i64 f,.int .u64 g]) (.agg #[.int .i64 r,.bool s,.int .i64 d,.int .u64 e]); binOp .eql 57 (.agg #[.int .i64 t,.bool u,.int .i64 f,.int .u64 g]) (.agg #[.int .i64 r,.bool s,.int .i64 d,.int .u64 e]):Sem Value) T (.bool J) j∧
 cond J
 (∃ L,p=some L∧
 ∃ M,Ld Tryz.prog 3 (.pointer (some (L.add 5))) j (.int .i64 M)∧
 cond (A == M)
 (∃ N,p=some N∧
 ∃ O,Ld Tryz.prog 3 (.pointer (some (N.add 6))) j (.int .i64 O)∧
 cond (k == O)
 (∃ P,o=some P∧
 Xa Tryz.prog 12 #[.pointer (some (P.add 0))] j fun ad ae=>
 ∃ R,ad=.bool R∧
 Xa Tryz.prog 66 #[.pointer p] ae fun af ag=>
 ∃ S,af=.bool S∧
 Q (.bool (R == S)) ag)
 (Q (.bool false) j))
 (Q (.bool false) j))
 (Q (.bool false) j))
 (Q (.bool false) n))
 (Q (.bool false) i)
def XmD:Nat→List (Nat×TypeId):=fun _=>[]
theorem Xjb (a:Option Addr) (b:Option Addr) (w:World) (Q:VWP) (h:Xib a b w Q):Xa Tryz.prog 35 #[.pointer a,.pointer b] w Q:=
 Xc XmD Tryz.func35 h (fun _ _=>by kernel_rfl) (by kernel_rfl) (by kernel_rfl) (by kernel_rfl)
def Xk2 (A:Int) (B:Bool) (s:Int) (C:Option Addr) (D:Nat) (E:Nat) (t:Int) (F:Int) (G:Bool) (u:Int) (H:Option Addr) (I:Nat) (J:Nat) (v:Int) (w:World) (Q:VWP):Prop:=
 New #[.int .i64 A,.bool B,.int .i64 s,.slice C D E,.int .i64 t] 32 w fun b L=>
 New #[.int .i64 F,.bool G,.int .i64 u,.slice H I J,.int .i64 v] 120 L fun c a=>
 ∃ x,Ld Tryz.prog 3 (.pointer (some ((⟨b,0,none⟩:Addr).add 0))) a (.int .i64 x)∧
 ∃ y,Ld Tryz.prog 3 (.pointer (some ((⟨c,0,none⟩:Addr).add 0))) a (.int .i64 y)∧
 cond (x == y)
 (∃ e,Ld Tryz.prog 4 (.pointer (some ((⟨b,0,none⟩:Addr).add 1))) a (.bool e)∧
 ∃ f,Ld Tryz.prog 4 (.pointer (some ((⟨c,0,none⟩:Addr).add 1))) a (.bool f)∧
 cond (e == f)
 (∃ g,Ld Tryz.prog 25 (.pointer (some ((⟨b,0,none⟩:Addr).add 2))) a (.int .i64 g)∧
 ∃ i,Ld Tryz.prog 25 (.pointer (some ((⟨c,0,none⟩:Addr).add 2))) a (.int .i64 i)∧
 cond (g == i)
 (∃ j k l,Ld Tryz.prog 22 (.pointer (some ((⟨b,0,none⟩:Addr).add 3))) a (.slice j k l)∧
 ∃ m n o,Ld Tryz.prog 22 (.pointer (some ((⟨c,0,none⟩:Addr).add 3))) a (.slice m n o)∧
 Xa Tryz.prog 23 #[.slice j k l,.slice m n o] a fun z d=>
 ∃ p,z=.bool p∧
 cond p
 (∃ q,Ld Tryz.prog 3 (.pointer (some ((⟨b,0,none⟩:Addr).add 4))) d (.int .i64 q)∧
 ∃ r,Ld Tryz.prog 3 (.pointer (some ((⟨c,0,none⟩:Addr).add 4))) d (.int .i64 r)∧
 Q (.bool (q == r)) d)
 (Q (.bool false) d))
 (Q (.bool false) a))
 (Q (.bool false) a))
 (Q (.bool false) a)
def XoM:Nat→List (Nat×TypeId):=fun _=>[]
theorem Xk3 (e:Int) (f:Bool) (a:Int) (g:Option Addr) (i:Nat) (j:Nat) (b:Int) (k:Int) (l:Bool) (c:Int) (m:Option Addr) (n:Nat) (o:Nat) (d:Int) (w:World) (Q:VWP) (h:Xk2 e f a g i j b k l c m n o d w Q):Xa Tryz.prog 52 #[.agg #[.int .i64 e,.bool f,.int .i64 a,.slice g i j,.int .i64 b],.agg #[.int .i64 k,.bool l,.int .i64 c,.slice m n o,.int .i64 d]] w Q:=
 Xc XoM Tryz.func52 h (fun _ _=>by kernel_rfl) (by kernel_rfl) (by kernel_rfl) (by kernel_rfl)
end Go.Sh
end
