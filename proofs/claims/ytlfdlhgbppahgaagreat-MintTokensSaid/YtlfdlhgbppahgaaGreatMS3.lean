/- A part of a proof of a given law of this program: lemmas, printed forms of its functions, contracts. It has no conditions of its own. -/
import Derived.Test.YtlfdlhgbppahgaaGreatProg
import Derived.Test.YtlfdlhgbppahgaaGreatMW0
import Derived.Test.YtlfdlhgbppahgaaGreatMW1
import Derived.Test.YtlfdlhgbppahgaaGreatMS0

set_option maxHeartbeats 16000000
section
namespace Go.Sh
open Go Go.Fw Go.Proofs
set_option maxRecDepth 100000
set_option linter.unusedVariables false
def XmN (V:Option Addr) (W:Nat) (X:Nat) (Y:Option Addr) (C:Nat) (Z:Nat) (aa:Option Addr) (D:Nat) (ab:Nat) (w:World) (Q:VWP):Prop:=
 Xa Tryz.prog 132 #[.slice Y C Z] w fun ac ad=>
 ∃ E F G,ac=.slice E F G∧
 Xa Tryz.prog 132 #[.slice aa D ab] ad fun H ae=>
 ∃ c d e,H=.slice c d e∧
 ∃ f g i I,Ef Tryz.prog (Builtin.append_ #[213,213] 213 #[.slice E F G,.slice c d e]) ae (.slice f g i) I∧
 Xa Tryz.prog 133 #[.int .i64 ((C:Nat):Int)] I fun J af=>
 ∃ j k l,J=.slice j k l∧
 Xa Tryz.prog 133 #[.int .i64 ((D:Nat):Int)] af fun L ag=>
 ∃ m n o,L=.slice m n o∧
 ∃ p q r M,Ef Tryz.prog (Builtin.append_ #[22,22] 22 #[.slice j k l,.slice m n o]) ag (.slice p q r) M∧
 Xa Tryz.prog 132 #[.slice p q r] M fun N ah=>
 ∃ s t u,N=.slice s t u∧
 ∃ v x y O,Ef Tryz.prog (Builtin.append_ #[213,213] 213 #[.slice f g i,.slice s t u]) ah (.slice v x y) O∧
 Xa Tryz.prog 136 #[.slice V W X] O fun P ai=>
 ∃ (a:Array Value),P=.agg a∧
 Xa Tryz.prog 135 #[.agg a,.agg #[.bool false,.bool false,.bool false,.bool false,.bool false,.bool false,.bool false,.bool false,.bool false,.bool false,.bool false,.bool false,.bool false,.bool false,.bool false,.bool false,.bool false,.bool false,.bool false,.bool false,.bool false,.bool false,.bool false,.bool false,.bool false,.bool false,.bool false,.bool false,.bool false,.bool false,.bool false,.bool false,.bool false,.bool false,.bool false,.bool false,.bool false,.bool false,.bool false,.bool false,.bool false,.bool false,.bool false,.bool false,.bool false,.bool false,.bool false,.bool false,.bool false,.bool false,.bool false,.bool false,.bool false,.bool false,.bool false,.bool false,.bool false,.bool false,.bool false,.bool false,.bool false,.bool false,.bool false,.bool false,.bool false,.bool false,.bool false,.bool false,.bool false,.bool false,.bool false,.bool false,.bool false,.bool false,.bool false,.bool false,.bool false,.bool false,.bool false,.bool false,.bool false,.bool false,.bool false,.bool false,.bool false,.bool false,.bool false,.bool false,.bool false,.bool false,.bool false,.bool false,.bool false,.bool false,.bool false,.bool false,.bool false,.bool false,.bool false,.bool false,.bool false,.bool false,.bool false,.bool false,.bool false,.bool false,.bool false,.bool false,.bool false,.bool false,.bool false,.bool false,.bool false,.bool false,.bool false,.bool false,.bool false,.bool false,.bool false,.bool false,.bool false,.bool false,.bool false,.bool false,.bool false,.bool false,.bool false,.bool false],.slice v x y] ai fun R S=>
 ∃ (b:Array Value),R=.agg b∧
 Xa Tryz.prog 134 #[.agg b] S fun T U=>
 ∃ z A B,T=.slice z A B∧
 Q (.slice z A B) U
def Xp3:Nat→List (Nat×TypeId):=fun _=>[]
theorem XlX (a:Option Addr) (b:Nat) (c:Nat) (d:Option Addr) (e:Nat) (f:Nat) (g:Option Addr) (i:Nat) (j:Nat) (w:World) (Q:VWP) (h:XmN a b c d e f g i j w Q):Xa Tryz.prog 101 #[.slice a b c,.slice d e f,.slice g i j] w Q:=
 Xc Xp3 Tryz.func101 h (fun _ _=>by kernel_rfl) (by kernel_rfl) (by kernel_rfl) (by kernel_rfl)
def Xat (A:Inv) (B:JZ) (y:List Value) (z:World) (p:Inv) (q:JZ) (e:List Value) (f:World) (g:Option Addr) (i:Nat) (j:Nat) (r:Option Addr) (s:Nat) (t:Nat) (u:Option Addr) (v:Nat) (x:Nat) (k:Int) (l:Option Addr) (m:Nat) (n:Nat) (d:Int) (w:World) (Q:VWP):Prop:=
 ∃ a,IxA Tryz.prog 22 (.slice g i j) (.int .i64 (IntKind.i64.wrap (k+d))) a∧
 ∃ b,Ld Tryz.prog 5 (.pointer (some a)) w (.int .u8 b)∧
 ∃ c,IxA Tryz.prog 22 (.slice l m n) (.int .i64 d) c∧
 ∃ o,Sto Tryz.prog 5 (.pointer (some c)) (.int .u8 b) w o∧
 Xh [] [] p q e [.slice g i j,.slice r s t,.slice u v x,.int .i64 k,.slice l m n,.int .i64 (IntKind.i64.wrap (d+1))] f o
def ZS (n:Inv) (o:JZ) (i:List Value) (j:World) (p:Option Addr) (q:Nat) (r:Nat) (s:Option Addr) (t:Nat) (u:Nat) (v:Option Addr) (x:Nat) (y:Nat) (z:Int) (A:Option Addr) (B:Nat) (C:Nat) (w:World) (Q:VWP):Prop:=
 Xa Tryz.prog 136 #[.slice A B C] w fun k D=>
 ∃ (a:Array Value),k=.agg a∧
 ∃ b c d l,Ef Tryz.prog (Instr.buildSlice 213 1 #[(0,.agg a)]) D (.slice b c d) l∧
 ∃ e f g m,Ef Tryz.prog (Builtin.append_ #[213,213] 213 #[.slice v x y,.slice b c d]) l (.slice e f g) m∧
 Xh [] [] n o i [.slice p q r,.slice s t u,.slice e f g,.int .i64 (IntKind.i64.wrap (z+16))] j m
def XfF (P:Option Addr) (R:Nat) (S:Nat) (w:World) (Q:VWP):Prop:=
 ∃ G H I J,Ef Tryz.prog (Instr.buildSlice 213 0 #[]) w (.slice G H I) J∧
 LoopS [.slice P R S,.slice none 0 0,.slice G H I,.int .i64 0] J fun A B n _ l=>
 ∃ p m q L M N C D E F,n=[.slice p m q,.slice L M N,.slice C D E,.int .i64 F]∧
 cond (decide (F<((m:Nat):Int)))
 (∃ v x y O,Ef Tryz.prog (Instr.makeSlice 22 (.int .i64 16) (.int .i64 16)) l (.slice v x y) O∧
 LoopS [.slice p m q,.slice L M N,.slice C D E,.int .i64 F,.slice v x y,.int .i64 0] O fun T U z _ o=>
 ∃ c a d e f g i j k b r s t u,z=[.slice c a d,.slice e f g,.slice i j k,.int .i64 b,.slice r s t,.int .i64 u]∧
 cond (decide (u<16))
 (cond (decide ((IntKind.i64.wrap (b+u))<((a:Nat):Int)))
 (Xat A B n l T U z o c a d e f g i j k b r s t u o Q)
 (ZS A B n l c a d e f g i j k b r s t o Q))
 (ZS A B n l c a d e f g i j k b r s t o Q))
 (Q (.slice C D E) l)
def Xj0:Nat→List (Nat×TypeId):=fun n=>match n with | 0=>[(0,22),(2,213),(3,213),(4,3)] | 2=>[(0,22),(2,213),(3,213),(4,3),(5,22),(6,3)] | _=>[]
theorem Xg9 (a:Option Addr) (b:Nat) (c:Nat) (w:World) (Q:VWP) (h:XfF a b c w Q):Xa Tryz.prog 132 #[.slice a b c] w Q:=
 Xc Xj0 Tryz.func132 h (fun _ _=>by kernel_rfl) (by kernel_rfl) (by kernel_rfl) (by kernel_rfl)
def Xj1 (r:Int) (w:World) (Q:VWP):Prop:=
 ∃ j k l m,Ef Tryz.prog (Instr.makeSlice 22 (.int .i64 8) (.int .i64 8)) w (.slice j k l) m∧
 LoopS [.int .i64 (IntKind.i64.wrap (r*8)),.slice none 0 0,.slice j k l,.int .i64 7] m fun s t g _ b=>
 ∃ a n o p c d e f,g=[.int .i64 a,.slice n o p,.slice c d e,.int .i64 f]∧
 cond (decide (f≥0))
 (∃ i,IxA Tryz.prog 22 (.slice c d e) (.int .i64 f) i∧
 ∃ q,Sto Tryz.prog 5 (.pointer (some i)) (.int .u8 (IntKind.u8.wrap (Int.tmod a 256))) b q∧
 Xh [] [] s t g [.int .i64 (IntKind.i64.wrap (Int.tdiv a 256)),.slice n o p,.slice c d e,.int .i64 (IntKind.i64.wrap (f - 1))] b q)
 (Q (.slice c d e) b)
def XnY:Nat→List (Nat×TypeId):=fun n=>match n with | 0=>[(0,3),(2,22),(3,22),(4,3)] | _=>[]
theorem Xj2 (a:Int) (w:World) (Q:VWP) (h:Xj1 a w Q):Xa Tryz.prog 133 #[.int .i64 a] w Q:=
 Xc XnY Tryz.func133 h (fun _ _=>by kernel_rfl) (by kernel_rfl) (by kernel_rfl) (by kernel_rfl)
def XdL (f:Addr) (d:Addr) (w:World) (Q:VWP):Prop:=
 ∃ (a:Array Value),Ld Tryz.prog 217 (.pointer (some f)) w (.agg a)∧
 ∃ c,Sto Tryz.prog 217 (.pointer (some d)) (.agg a) w c∧
 ∃ b e,(.pointer (some d):Value)=.pointer (some b)∧(loadVar 217 b).run Tryz.prog c=.ok e c∧
 Q (e) c
def Xj3 (t:Array Value) (u:Array Value) (A:Option Addr) (B:Nat) (C:Nat) (w:World) (Q:VWP):Prop:=
 New t 217 w fun D E=>
 New u 217 E fun F G=>
 ∃ v,Pu Tryz.prog (zeroValue 217) v∧
 New v.cells 217 G fun H I=>
 LoopS [.slice A B C,.pointer (some ⟨D,0,none⟩),.pointer (some ⟨F,0,none⟩),.pointer (some ⟨H,0,none⟩),.int .i64 0] I fun J L o _ d=>
 ∃ b a c q e r m,o=[.slice b a c,.pointer (some q),.pointer (some e),.pointer (some r),.int .i64 m]∧
 cond (decide (m<((a:Nat):Int)))
 (∃ (n:World→Prop),
 Drw d fun f=>
 ∃ p,IxA Tryz.prog 213 (.slice b a c) (.int .i64 m) p∧
 ∃ (g:Array Value),HLd Tryz.prog n 217 (.pointer (some e)) f (.agg g)∧
 ∃ (i:Array Value),HLd Tryz.prog n 217 (.pointer (some p)) f (.agg i)∧
 ∃ (j:Array Value),HLd Tryz.prog n 217 (.pointer (some q)) f (.agg j)∧
 Xa Tryz.prog 173 #[.agg g,.agg i] f fun x s=>
 ∃ (k:Array Value),x=.agg k∧
 (s=f∨n s)∧
 Xa Tryz.prog 172 #[.agg k,.agg j] s fun y M=>
 ∃ (l:Array Value),y=.agg l∧
 ∃ z,Sto Tryz.prog 217 (.pointer (some e)) (.agg l) M z∧
 Xh [] [] J L o [.slice b a c,.pointer (some q),.pointer (some e),.pointer (some r),.int .i64 (IntKind.i64.wrap (m+1))] d z)
 (XdL e r d Q)
def XnZ:Nat→List (Nat×TypeId):=fun n=>match n with | 0=>[(2,213),(3,1000000),(4,1000000),(6,1000000),(7,3)] | _=>[]
theorem Xj4 (a:Array Value) (b:Array Value) (c:Option Addr) (d:Nat) (e:Nat) (w:World) (Q:VWP) (h:Xj3 a b c d e w Q):Xa Tryz.prog 135 #[.agg a,.agg b,.slice c d e] w Q:=
 Xc XnZ Tryz.func135 h (fun _ _=>by kernel_rfl) (by kernel_rfl) (by kernel_rfl) (by kernel_rfl)
end Go.Sh
end

section
namespace Go.Sh
open Go Go.Fw Go.Proofs
set_option maxRecDepth 100000
set_option linter.unusedVariables false
def XdM (s:Option Addr) (t:Nat) (u:Nat) (v:Option Addr) (x:Nat) (y:Nat) (z:Option Addr) (A:Nat) (B:Nat) (G:Option Addr) (H:Nat) (I:Nat) (J:Int) (o:Int) (w:World) (Q:VWP):Prop:=
 Drw w fun C=>
 ∃ a b c,Pu Tryz.prog (Instr.sliceAt 22 (.slice z A B) none (some (.int .i64 o)) none) (.slice a b c)∧
 Xa Tryz.prog 64 #[.slice v x y] C fun p D=>
 ∃ d e f,p=.slice d e f∧
 Xa Tryz.prog 63 #[.slice d e f,.int .u64 1] D fun q E=>
 ∃ g i j,q=.slice g i j∧
 Xa Tryz.prog 62 #[.slice s t u,.slice g i j,.slice a b c] E fun r F=>
 ∃ k l m n,r=.tuple #[.slice k l m,.int .i64 n]∧
 Q (.tuple #[.slice k l m,.int .i64 n]) F
def XdN (J:Option Addr) (L:Nat) (M:Nat) (N:Option Addr) (O:Nat) (P:Nat) (R:Option Addr) (r:Nat) (S:Nat) (V:Option Addr) (W:Nat) (X:Nat) (Y:Option Addr) (Z:Nat) (aa:Nat) (ab:Int) (w:World) (Q:VWP):Prop:=
 cond (decide ((IntKind.i64.wrap (((r:Nat):Int) - 16))<0))
 (Q (.tuple #[.slice none 0 0,.int .i64 12]) w)
 (∃ x y z,Pu Tryz.prog (Instr.sliceAt 22 (.slice R r S) none (some (.int .i64 (IntKind.i64.wrap (((r:Nat):Int) - 16)))) none) (.slice x y z)∧
 Xa Tryz.prog 61 #[.slice J L M,.slice N O P,.slice x y z,.slice V W X] w fun T ac=>
 ∃ A B C U,T=.tuple #[.slice A B C,.int .i64 U]∧
 LoopS [.slice J L M,.slice N O P,.slice R r S,.slice Y Z aa,.int .i64 ab,.int .i64 (IntKind.i64.wrap (((r:Nat):Int) - 16)),.slice A B C,.int .i64 0] ac fun ad ae D _ s=>
 ∃ e f g i j k a b c l m n o q t u v d,D=[.slice e f g,.slice i j k,.slice a b c,.slice l m n,.int .i64 o,.int .i64 q,.slice t u v,.int .i64 d]∧
 cond (decide (d<16))
 (∃ (E:World→Prop),
 Drw s fun p=>
 ∃ F,IxA Tryz.prog 22 (.slice t u v) (.int .i64 d) F∧
 ∃ G,IxA Tryz.prog 22 (.slice a b c) (.int .i64 (IntKind.i64.wrap (q+d))) G∧
 ∃ H,HLd Tryz.prog E 5 (.pointer (some F)) p (.int .u8 H)∧
 ∃ I,Ld Tryz.prog 5 (.pointer (some G)) p (.int .u8 I)∧
 (p=p∨E p)∧
 cond (H != I)
 (Q (.tuple #[.slice none 0 0,.int .i64 13]) p)
 (Xh [] [] ad ae D [.slice e f g,.slice i j k,.slice a b c,.slice l m n,.int .i64 o,.int .i64 q,.slice t u v,.int .i64 (IntKind.i64.wrap (d+1))] s p))
 (XdM e f g i j k a b c l m n o q s Q))
def Xj5 (e:Option Addr) (a:Nat) (f:Nat) (g:Option Addr) (b:Nat) (i:Nat) (j:Option Addr) (c:Nat) (k:Nat) (l:Option Addr) (d:Nat) (m:Nat) (w:World) (Q:VWP):Prop:=
 cond (((a:Nat):Int) != 16)
 (Q (.tuple #[.slice none 0 0,.int .i64 11]) w)
 (cond (((b:Nat):Int) != 12)
 (Q (.tuple #[.slice none 0 0,.int .i64 11]) w)
 (cond (decide (((d:Nat):Int) > 65535))
 (Q (.tuple #[.slice none 0 0,.int .i64 11]) w)
 (cond (decide (((c:Nat):Int) > 65551))
 (Q (.tuple #[.slice none 0 0,.int .i64 11]) w)
 (XdN e a f g b i j c k l d m none 0 0 0 w Q))))
def Xn0:Nat→List (Nat×TypeId):=fun n=>match n with | 0=>[(0,22),(1,22),(2,22),(8,22),(9,25),(10,3),(11,22),(13,3)] | _=>[]
theorem Xj6 (a:Option Addr) (b:Nat) (c:Nat) (d:Option Addr) (e:Nat) (f:Nat) (g:Option Addr) (i:Nat) (j:Nat) (k:Option Addr) (l:Nat) (m:Nat) (w:World) (Q:VWP) (h:Xj5 a b c d e f g i j k l m w Q):Xa Tryz.prog 31 #[.slice a b c,.slice d e f,.slice g i j,.slice k l m] w Q:=
 Xc Xn0 Tryz.func31 h (fun _ _=>by kernel_rfl) (by kernel_rfl) (by kernel_rfl) (by kernel_rfl)
def XmO (H:Option Addr) (I:Nat) (J:Nat) (L:Option Addr) (M:Nat) (N:Nat) (O:Option Addr) (P:Nat) (R:Nat) (S:Option Addr) (T:Nat) (U:Nat) (w:World) (Q:VWP):Prop:=
 Xa Tryz.prog 99 #[.slice H I J,.slice L M N,.slice O P R,.slice S T U] w fun V W=>
 ∃ k,V=.bool k∧
 cond k
 (Q (.tuple #[.slice none 0 0,.int .i64 11]) W)
 (∃ l m n X,Ef Tryz.prog (Instr.makeSlice 22 (.int .i64 16) (.int .i64 16)) W (.slice l m n) X∧
 Xa Tryz.prog 100 #[.slice H I J,.slice l m n] X fun Y ai=>
 ∃ o p q,Y=.slice o p q∧
 Xa Tryz.prog 101 #[.slice o p q,.slice S T U,.slice O P R] ai fun Z aj=>
 ∃ r s t,Z=.slice r s t∧
 Xa Tryz.prog 64 #[.slice L M N] aj fun aa ak=>
 ∃ u v x,aa=.slice u v x∧
 Xa Tryz.prog 100 #[.slice H I J,.slice u v x] ak fun ab al=>
 ∃ y z A,ab=.slice y z A∧
 LoopS [.slice none 0 0,.int .i64 0,.slice r s t,.slice y z A,.int .i64 0] al fun am an B _ f=>
 ∃ ac ad ae af b c d g i j a,B=[.slice ac ad ae,.int .i64 af,.slice b c d,.slice g i j,.int .i64 a]∧
 cond (decide (a<16))
 (∃ (ag:World→Prop),
 Drw f fun e=>
 ∃ C,IxA Tryz.prog 22 (.slice b c d) (.int .i64 a) C∧
 ∃ D,IxA Tryz.prog 22 (.slice g i j) (.int .i64 a) D∧
 ∃ E,HLd Tryz.prog ag 5 (.pointer (some C)) e (.int .u8 E)∧
 ∃ F,Ld Tryz.prog 5 (.pointer (some D)) e (.int .u8 F)∧
 (e=e∨ag e)∧
 ∃ G,IxA Tryz.prog 22 (.slice b c d) (.int .i64 a) G∧
 ∃ ah,Sto Tryz.prog 5 (.pointer (some G)) (.int .u8 (YN .u8 E F)) e ah∧
 Xh [] [] am an B [.slice ac ad ae,.int .i64 af,.slice b c d,.slice g i j,.int .i64 (IntKind.i64.wrap (a+1))] f ah)
 (Q (.tuple #[.slice b c d,.int .i64 0]) f))
def Xp4:Nat→List (Nat×TypeId):=fun n=>match n with | 0=>[(8,22),(9,25),(11,22),(12,22),(13,3)] | _=>[]
theorem XlY (a:Option Addr) (b:Nat) (c:Nat) (d:Option Addr) (e:Nat) (f:Nat) (g:Option Addr) (i:Nat) (j:Nat) (k:Option Addr) (l:Nat) (m:Nat) (w:World) (Q:VWP) (h:XmO a b c d e f g i j k l m w Q):Xa Tryz.prog 61 #[.slice a b c,.slice d e f,.slice g i j,.slice k l m] w Q:=
 Xc Xp4 Tryz.func61 h (fun _ _=>by kernel_rfl) (by kernel_rfl) (by kernel_rfl) (by kernel_rfl)
def XhD (r:Option Addr) (s:Nat) (t:Nat) (w:World) (Q:VWP):Prop:=
 ∃ a b c d,Ef Tryz.prog (Instr.buildSlice 22 0 #[]) w (.slice a b c) d∧
 ∃ e f g i,Ef Tryz.prog (Builtin.append_ #[22,22] 22 #[.slice a b c,.slice r s t]) d (.slice e f g) i∧
 ∃ j k l m,Ef Tryz.prog (Instr.buildSlice 22 4 #[(0,.int .u8 0),(1,.int .u8 0),(2,.int .u8 0),(3,.int .u8 1)]) i (.slice j k l) m∧
 ∃ n o p q,Ef Tryz.prog (Builtin.append_ #[22,22] 22 #[.slice e f g,.slice j k l]) m (.slice n o p) q∧
 Q (.slice n o p) q
def XlZ:Nat→List (Nat×TypeId):=fun _=>[]
theorem Xiz (a:Option Addr) (b:Nat) (c:Nat) (w:World) (Q:VWP) (h:XhD a b c w Q):Xa Tryz.prog 64 #[.slice a b c] w Q:=
 Xc XlZ Tryz.func64 h (fun _ _=>by kernel_rfl) (by kernel_rfl) (by kernel_rfl) (by kernel_rfl)
def XhE (e:Option Addr) (a:Nat) (f:Nat) (g:Option Addr) (b:Nat) (i:Nat) (j:Option Addr) (c:Nat) (k:Nat) (l:Option Addr) (d:Nat) (m:Nat) (w:World) (Q:VWP):Prop:=
 cond (((a:Nat):Int) != 16)
 (Q (.bool true) w)
 (cond (((b:Nat):Int) != 12)
 (Q (.bool true) w)
 (cond (decide (((c:Nat):Int) > 65535))
 (Q (.bool true) w)
 (Q (.bool (decide (((d:Nat):Int) > 65535))) w)))
def Xl0:Nat→List (Nat×TypeId):=fun _=>[]
theorem XiA (a:Option Addr) (b:Nat) (c:Nat) (d:Option Addr) (e:Nat) (f:Nat) (g:Option Addr) (i:Nat) (j:Nat) (k:Option Addr) (l:Nat) (m:Nat) (w:World) (Q:VWP) (h:XhE a b c d e f g i j k l m w Q):Xa Tryz.prog 99 #[.slice a b c,.slice d e f,.slice g i j,.slice k l m] w Q:=
 Xc Xl0 Tryz.func99 h (fun _ _=>by kernel_rfl) (by kernel_rfl) (by kernel_rfl) (by kernel_rfl)
def Xj7 (r:Option Addr) (s:Nat) (t:Nat) (u:Option Addr) (v:Nat) (x:Nat) (y:Option Addr) (z:Nat) (A:Nat) (B:Option Addr) (C:Nat) (D:Nat) (w:World) (Q:VWP):Prop:=
 Xa Tryz.prog 99 #[.slice r s t,.slice u v x,.slice y z A,.slice B C D] w fun E F=>
 ∃ d,E=.bool d∧
 cond d
 (Q (.tuple #[.slice none 0 0,.int .i64 11]) F)
 (Xa Tryz.prog 64 #[.slice u v x] F fun G O=>
 ∃ e f g,G=.slice e f g∧
 Xa Tryz.prog 63 #[.slice e f g,.int .u64 1] O fun H P=>
 ∃ i j k,H=.slice i j k∧
 Xa Tryz.prog 62 #[.slice r s t,.slice i j k,.slice y z A] P fun I R=>
 ∃ a b c J,I=.tuple #[.slice a b c,.int .i64 J]∧
 Xa Tryz.prog 61 #[.slice r s t,.slice u v x,.slice a b c,.slice B C D] R fun L S=>
 ∃ l m n M,L=.tuple #[.slice l m n,.int .i64 M]∧
 ∃ o p q N,Ef Tryz.prog (Builtin.append_ #[22,22] 22 #[.slice a b c,.slice l m n]) S (.slice o p q) N∧
 Q (.tuple #[.slice o p q,.int .i64 0]) N)
def Xn1:Nat→List (Nat×TypeId):=fun _=>[]
theorem Xj8 (a:Option Addr) (b:Nat) (c:Nat) (d:Option Addr) (e:Nat) (f:Nat) (g:Option Addr) (i:Nat) (j:Nat) (k:Option Addr) (l:Nat) (m:Nat) (w:World) (Q:VWP) (h:Xj7 a b c d e f g i j k l m w Q):Xa Tryz.prog 188 #[.slice a b c,.slice d e f,.slice g i j,.slice k l m] w Q:=
 Xc Xn1 Tryz.func188 h (fun _ _=>by kernel_rfl) (by kernel_rfl) (by kernel_rfl) (by kernel_rfl)
end Go.Sh
end

section
namespace Go.Sh
open Go Go.Fw Go.Proofs
set_option maxRecDepth 100000
set_option linter.unusedVariables false
def XdO (k:Addr) (n:Int) (l:Addr) (w:World) (Q:VWP):Prop:=
 ∃ f g i j a b c,Ld Tryz.prog 63 (.pointer (some l)) w (.agg #[.int .u64 f,.slice g i j,.slice a b c])∧
 ∃ e,Sto Tryz.prog 63 (.pointer (some k)) (.agg #[.int .u64 f,.slice g i j,.slice a b c]) w e∧
 ∃ d m,(.pointer (some k):Value)=.pointer (some d)∧(loadVar 63 d).run Tryz.prog e=.ok m e∧
 Q (.tuple #[m,.int .i64 0]) e
def Xj9 (G:Option Addr) (H:Option Addr) (I:Nat) (J:Nat) (L:Option Addr) (M:Nat) (N:Nat) (O:Int) (w:World) (Q:VWP):Prop:=
 ∃ A,Pu Tryz.prog (zeroValue 63) A∧
 New A.cells 63 w fun b P=>
 Xa Tryz.prog 42 #[.pointer G,.slice H I J,.slice L M N] P fun B C=>
 ∃ q r s f,B=.tuple #[.slice q r s,.int .i64 f]∧
 cond (f != 0)
 (∃ n,Sto Tryz.prog 63 (.pointer (some ⟨b,0,none⟩)) (.agg #[.int .u64 0,.slice none 0 0,.slice none 0 0]) C n∧
 ∃ D E,(.pointer (some ⟨b,0,none⟩):Value)=.pointer (some D)∧(loadVar 63 D).run Tryz.prog n=.ok E n∧
 Q (.tuple #[E,.int .i64 f]) n)
 (Xa Tryz.prog 43 #[.slice q r s] C fun F R=>
 ∃ t u v x c d e a,F=.tuple #[.agg #[.int .u64 t,.slice u v x,.slice c d e],.int .i64 a]∧
 ∃ y,Pu Tryz.prog (zeroValue 63) y∧
 New y.cells 63 R fun g S=>
 ∃ i,Sto Tryz.prog 63 (.pointer (some ⟨g,0,none⟩)) (.agg #[.int .u64 t,.slice u v x,.slice c d e]) S i∧
 cond (a != 0)
 (∃ o,Sto Tryz.prog 63 (.pointer (some ⟨b,0,none⟩)) (.agg #[.int .u64 0,.slice none 0 0,.slice none 0 0]) i o∧
 ∃ j k,(.pointer (some ⟨b,0,none⟩):Value)=.pointer (some j)∧(loadVar 63 j).run Tryz.prog o=.ok k o∧
 Q (.tuple #[k,.int .i64 a]) o)
 (∃ z,Ld Tryz.prog 28 (.pointer (some ((⟨g,0,none⟩:Addr).add 0))) i (.int .u64 z)∧
 cond (decide (z<O))
 (∃ p,Sto Tryz.prog 63 (.pointer (some ⟨b,0,none⟩)) (.agg #[.int .u64 0,.slice none 0 0,.slice none 0 0]) i p∧
 ∃ l m,(.pointer (some ⟨b,0,none⟩):Value)=.pointer (some l)∧(loadVar 63 l).run Tryz.prog p=.ok m p∧
 Q (.tuple #[m,.int .i64 20]) p)
 (XdO (⟨b,0,none⟩:Addr) 0 (⟨g,0,none⟩:Addr) i Q)))
def Xn2:Nat→List (Nat×TypeId):=fun _=>[]
theorem Xka (a:Option Addr) (b:Option Addr) (c:Nat) (d:Nat) (e:Option Addr) (f:Nat) (g:Nat) (i:Int) (w:World) (Q:VWP) (h:Xj9 a b c d e f g i w Q):Xa Tryz.prog 20 #[.pointer a,.slice b c d,.slice e f g,.int .u64 i] w Q:=
 Xc Xn2 Tryz.func20 h (fun _ _=>by kernel_rfl) (by kernel_rfl) (by kernel_rfl) (by kernel_rfl)
def Xau (u:Option Addr) (v:Nat) (x:Nat) (o:Option Addr) (p:Nat) (q:Nat) (C:Option Addr) (D:Nat) (E:Nat) (F:Int) (y:Int) (z:Option Addr) (w:World) (Q:VWP):Prop:=
 Drw w fun A=>
 ∃ a b c,Pu Tryz.prog (Instr.sliceAt 22 (.slice o p q) (some (.int .i64 1)) (some (.int .i64 13)) none) (.slice a b c)∧
 ∃ d e f,Pu Tryz.prog (Instr.sliceAt 22 (.slice o p q) (some (.int .i64 13)) none none) (.slice d e f)∧
 Xa Tryz.prog 77 #[.int .i64 y,.slice u v x] A fun r B=>
 ∃ g i j,r=.slice g i j∧
 Xa Tryz.prog 76 #[.pointer z,.slice a b c,.slice d e f,.slice g i j] B fun s t=>
 ∃ k l m n,s=.tuple #[.slice k l m,.int .i64 n]∧
 cond (n != 0)
 (Q (.tuple #[.slice none 0 0,.int .i64 13]) t)
 (Q (.tuple #[.slice k l m,.int .i64 0]) t)
def XfG (l:Option Addr) (m:Option Addr) (g:Nat) (n:Nat) (i:Option Addr) (b:Nat) (j:Nat) (w:World) (Q:VWP):Prop:=
 cond (decide (((b:Nat):Int)<29))
 (Q (.tuple #[.slice none 0 0,.int .i64 12]) w)
 (∃ d,IxA Tryz.prog 22 (.slice i b j) (.int .i64 0) d∧
 ∃ a,Ld Tryz.prog 5 (.pointer (some d)) w (.int .u8 a)∧
 Xa Tryz.prog 75 #[.pointer l,.int .i64 (IntKind.i64.wrap a)] w fun k c=>
 ∃ e f,k=.tuple #[.pointer e,.bool f]∧
 cond (!f)
 (Q (.tuple #[.slice none 0 0,.int .i64 17]) c)
 (cond (decide (((g:Nat):Int) > 64))
 (Q (.tuple #[.slice none 0 0,.int .i64 13]) c)
 (cond (decide (((b:Nat):Int) > 4096))
 (Q (.tuple #[.slice none 0 0,.int .i64 13]) c)
 (Xau m g n i b j none 0 0 0 (IntKind.i64.wrap a) e c Q))))
def Xkb:Nat→List (Nat×TypeId):=fun _=>[]
theorem Xha (a:Option Addr) (b:Option Addr) (c:Nat) (d:Nat) (e:Option Addr) (f:Nat) (g:Nat) (w:World) (Q:VWP) (h:XfG a b c d e f g w Q):Xa Tryz.prog 42 #[.pointer a,.slice b c d,.slice e f g] w Q:=
 Xc Xkb Tryz.func42 h (fun _ _=>by kernel_rfl) (by kernel_rfl) (by kernel_rfl) (by kernel_rfl)
def XfH (X:Option Addr) (Y:Nat) (Z:Nat) (w:World) (Q:VWP):Prop:=
 ∃ M,Pu Tryz.prog (zeroValue 63) M∧
 New M.cells 63 w fun j aa=>
 Xa Tryz.prog 47 #[.slice X Y Z] aa fun ab ac=>
 ∃ k,ab=.pointer k∧
 Xa Tryz.prog 78 #[.pointer k,.int .i64 8] ac fun N ad=>
 ∃ s,N=.int .u64 s∧
 Xa Tryz.prog 79 #[.pointer k] ad fun O ae=>
 ∃ t u v,O=.slice t u v∧
 Xa Tryz.prog 79 #[.pointer k] ae fun P af=>
 ∃ x y z,P=.slice x y z∧
 ∃ R,Pu Tryz.prog (zeroValue 63) R∧
 New R.cells 63 af fun J ag=>
 ∃ S,Sto Tryz.prog 63 (.pointer (some ⟨J,0,none⟩)) (.agg #[.int .u64 s,.slice t u v,.slice x y z]) ag S∧
 Xa Tryz.prog 80 #[.pointer k] S fun T L=>
 ∃ l,T=.int .i64 l∧
 cond (l != 0)
 (∃ r,Sto Tryz.prog 63 (.pointer (some ⟨j,0,none⟩)) (.agg #[.int .u64 0,.slice none 0 0,.slice none 0 0]) L r∧
 ∃ U V,(.pointer (some ⟨j,0,none⟩):Value)=.pointer (some U)∧(loadVar 63 U).run Tryz.prog r=.ok V r∧
 Q (.tuple #[V,.int .i64 l]) r)
 (∃ A B C D a b c,Ld Tryz.prog 63 (.pointer (some ⟨J,0,none⟩)) L (.agg #[.int .u64 A,.slice B C D,.slice a b c])∧
 Xa Tryz.prog 81 #[.agg #[.int .u64 A,.slice B C D,.slice a b c]] L fun W m=>
 ∃ E,W=.bool E∧
 cond E
 (∃ d,Sto Tryz.prog 63 (.pointer (some ⟨j,0,none⟩)) (.agg #[.int .u64 0,.slice none 0 0,.slice none 0 0]) m d∧
 ∃ n o,(.pointer (some ⟨j,0,none⟩):Value)=.pointer (some n)∧(loadVar 63 n).run Tryz.prog d=.ok o d∧
 Q (.tuple #[o,.int .i64 10]) d)
 (∃ F G H I e f g,Ld Tryz.prog 63 (.pointer (some ⟨J,0,none⟩)) m (.agg #[.int .u64 F,.slice G H I,.slice e f g])∧
 ∃ i,Sto Tryz.prog 63 (.pointer (some ⟨j,0,none⟩)) (.agg #[.int .u64 F,.slice G H I,.slice e f g]) m i∧
 ∃ p q,(.pointer (some ⟨j,0,none⟩):Value)=.pointer (some p)∧(loadVar 63 p).run Tryz.prog i=.ok q i∧
 Q (.tuple #[q,.int .i64 0]) i))
def Xkc:Nat→List (Nat×TypeId):=fun _=>[]
theorem Xhb (a:Option Addr) (b:Nat) (c:Nat) (w:World) (Q:VWP) (h:XfH a b c w Q):Xa Tryz.prog 43 #[.slice a b c] w Q:=
 Xc Xkc Tryz.func43 h (fun _ _=>by kernel_rfl) (by kernel_rfl) (by kernel_rfl) (by kernel_rfl)
def Xkd (n:Int) (o:Option Addr) (p:Nat) (q:Nat) (w:World) (Q:VWP):Prop:=
 ∃ d e f g,Ef Tryz.prog (Instr.buildSlice 22 1 #[(0,.int .u8 (IntKind.u8.wrap n))]) w (.slice d e f) g∧
 ∃ i j k l,Ef Tryz.prog (Instr.buildSlice 161 2 #[(0,.slice d e f),(1,.slice o p q)]) g (.slice i j k) l∧
 Xa Tryz.prog 118 #[.slice i j k] l fun m r=>
 ∃ a b c,m=.slice a b c∧
 Q (.slice a b c) r
def Xn3:Nat→List (Nat×TypeId):=fun _=>[]
theorem Xke (a:Int) (b:Option Addr) (c:Nat) (d:Nat) (w:World) (Q:VWP) (h:Xkd a b c d w Q):Xa Tryz.prog 77 #[.int .i64 a,.slice b c d] w Q:=
 Xc Xn3 Tryz.func77 h (fun _ _=>by kernel_rfl) (by kernel_rfl) (by kernel_rfl) (by kernel_rfl)
def WR (j:Int) (k:Option Addr) (l:Nat) (m:Nat) (a:Option Addr) (b:Nat) (c:Nat) (w:World) (Q:VWP):Prop:=
 New #[.int .u64 j,.slice k l m,.slice a b c] 63 w fun e d=>
 ∃ n f o,Ld Tryz.prog 22 (.pointer (some ((⟨e,0,none⟩:Addr).add 1))) d (.slice n f o)∧
 ∃ p g q,Ld Tryz.prog 22 (.pointer (some ((⟨e,0,none⟩:Addr).add 2))) d (.slice p g q)∧
 ∃ i,Pu Tryz.prog (Builtin.max_ #[3,3] 3 #[.int .i64 ((f:Nat):Int),.int .i64 ((g:Nat):Int)]) (.int .i64 i)∧
 Q (.bool (decide (i > 20))) d
def XcU:Nat→List (Nat×TypeId):=fun _=>[]
theorem Xa9 (d:Int) (e:Option Addr) (f:Nat) (g:Nat) (a:Option Addr) (b:Nat) (c:Nat) (w:World) (Q:VWP) (h:WR d e f g a b c w Q):Xa Tryz.prog 81 #[.agg #[.int .u64 d,.slice e f g,.slice a b c]] w Q:=
 Xc XcU Tryz.func81 h (fun _ _=>by kernel_rfl) (by kernel_rfl) (by kernel_rfl) (by kernel_rfl)
def XdP (C:Int) (D:Option Addr) (E:Nat) (F:Nat) (R:Option Addr) (S:Nat) (T:Nat) (U:Addr) (Y:Option Addr) (Z:Nat) (aa:Nat) (ab:Int) (G:Option Addr) (w:World) (Q:VWP):Prop:=
 ∃ e f g i a b c,Ld Tryz.prog 63 (.pointer (some U)) w (.agg #[.int .u64 e,.slice f g i,.slice a b c])∧
 Xa Tryz.prog 148 #[.agg #[.int .u64 e,.slice f g i,.slice a b c]] w fun H I=>
 ∃ j k l d,H=.tuple #[.slice j k l,.int .i64 d]∧
 cond (d != 0)
 (Q (.tuple #[.slice none 0 0,.int .i64 d]) I)
 (Xa Tryz.prog 77 #[.int .i64 C,.slice R S T] I fun J V=>
 ∃ m n o,J=.slice m n o∧
 Xa Tryz.prog 92 #[.pointer G,.slice D E F,.slice j k l,.slice m n o] V fun L W=>
 ∃ p q r M,L=.tuple #[.slice p q r,.int .i64 M]∧
 ∃ s t u N,Ef Tryz.prog (Instr.buildSlice 22 1 #[(0,.int .u8 (IntKind.u8.wrap C))]) W (.slice s t u) N∧
 ∃ v x y O,Ef Tryz.prog (Instr.buildSlice 161 3 #[(0,.slice s t u),(1,.slice D E F),(2,.slice p q r)]) N (.slice v x y) O∧
 Xa Tryz.prog 118 #[.slice v x y] O fun P X=>
 ∃ z A B,P=.slice z A B∧
 Q (.tuple #[.slice z A B,.int .i64 0]) X)
def Xkf (l:Option Addr) (g:Int) (m:Option Addr) (i:Nat) (n:Nat) (o:Option Addr) (j:Nat) (p:Nat) (q:Int) (r:Option Addr) (s:Nat) (t:Nat) (d:Option Addr) (e:Nat) (f:Nat) (w:World) (Q:VWP):Prop:=
 New #[.int .u64 q,.slice r s t,.slice d e f] 63 w fun u v=>
 Xa Tryz.prog 75 #[.pointer l,.int .i64 g] v fun k a=>
 ∃ b c,k=.tuple #[.pointer b,.bool c]∧
 cond (!c)
 (Q (.tuple #[.slice none 0 0,.int .i64 17]) a)
 (cond (((i:Nat):Int) != 12)
 (Q (.tuple #[.slice none 0 0,.int .i64 11]) a)
 (cond (decide (((j:Nat):Int) > 64))
 (Q (.tuple #[.slice none 0 0,.int .i64 11]) a)
 (XdP g m i n o j p (⟨u,0,none⟩:Addr) none 0 0 0 b a Q)))
def Xn4:Nat→List (Nat×TypeId):=fun _=>[]
theorem Xkg (d:Option Addr) (e:Int) (f:Option Addr) (g:Nat) (i:Nat) (j:Option Addr) (k:Nat) (l:Nat) (m:Int) (n:Option Addr) (o:Nat) (p:Nat) (a:Option Addr) (b:Nat) (c:Nat) (w:World) (Q:VWP) (h:Xkf d e f g i j k l m n o p a b c w Q):Xa Tryz.prog 112 #[.pointer d,.int .i64 e,.slice f g i,.slice j k l,.agg #[.int .u64 m,.slice n o p,.slice a b c]] w Q:=
 Xc Xn4 Tryz.func112 h (fun _ _=>by kernel_rfl) (by kernel_rfl) (by kernel_rfl) (by kernel_rfl)
def Xkh (O:Int) (P:Option Addr) (R:Nat) (S:Nat) (v:Option Addr) (x:Nat) (y:Nat) (w:World) (Q:VWP):Prop:=
 New #[.int .u64 O,.slice P R S,.slice v x y] 63 w fun f A=>
 ∃ B C D E b c d,Ld Tryz.prog 63 (.pointer (some ⟨f,0,none⟩)) A (.agg #[.int .u64 B,.slice C D E,.slice b c d])∧
 Xa Tryz.prog 81 #[.agg #[.int .u64 B,.slice C D E,.slice b c d]] A fun T F=>
 ∃ G,T=.bool G∧
 cond G
 (Q (.tuple #[.slice none 0 0,.int .i64 15]) F)
 (∃ (a:World→Prop),
 Drw F fun e=>
 ∃ H,HLd Tryz.prog a 28 (.pointer (some ((⟨f,0,none⟩:Addr).add 0))) e (.int .u64 H)∧
 ∃ j k l,HLd Tryz.prog a 22 (.pointer (some ((⟨f,0,none⟩:Addr).add 1))) e (.slice j k l)∧
 ∃ m n o,HLd Tryz.prog a 22 (.pointer (some ((⟨f,0,none⟩:Addr).add 2))) e (.slice m n o)∧
 Xa Tryz.prog 88 #[] e fun U g=>
 ∃ I,U=.pointer I∧
 (g=e∨a g)∧
 Xa Tryz.prog 124 #[.pointer I,.int .u64 H,.int .i64 8] g fun V i=>
 ∃ J,V=.pointer J∧
 (i=g∨a i)∧
 Xa Tryz.prog 89 #[.pointer J,.slice j k l] i fun L z=>
 ∃ p,L=.pointer p∧
 (z=i∨a z)∧
 Xa Tryz.prog 89 #[.pointer p,.slice m n o] z fun M W=>
 ∃ q,M=.pointer q∧
 Xa Tryz.prog 91 #[.pointer q] W fun N X=>
 ∃ r s t u,N=.tuple #[.slice r s t,.int .i64 u]∧
 Q (.tuple #[.slice r s t,.int .i64 u]) X)
def Xn5:Nat→List (Nat×TypeId):=fun _=>[]
theorem Xki (d:Int) (e:Option Addr) (f:Nat) (g:Nat) (a:Option Addr) (b:Nat) (c:Nat) (w:World) (Q:VWP) (h:Xkh d e f g a b c w Q):Xa Tryz.prog 148 #[.agg #[.int .u64 d,.slice e f g,.slice a b c]] w Q:=
 Xc Xn5 Tryz.func148 h (fun _ _=>by kernel_rfl) (by kernel_rfl) (by kernel_rfl) (by kernel_rfl)
end Go.Sh
end

section
namespace Go.Sh
open Go Go.Fw Go.Proofs
set_option maxRecDepth 100000
theorem Uv {s:ByteArray} {c:Int} {w:World} {K:VWP} (h:K (.int .i64 (firstIdx s c.toNat.toUInt8)) w):Xa Tryz.prog Ur #[.string s,.int .u8 c] w K:=Xrc Tryz.func186 (by kernel_rfl) (by kernel_rfl) (by kernel_rfl) (by kernel_rfl) h
end Go.Sh
end

section
namespace Go.Sh
open Go Go.Fw Go.Proofs
set_option maxRecDepth 100000
set_option linter.unusedVariables false
def WS (b:ByteArray) (c:Int) (w:World) (Q:VWP):Prop:=
 Xa Tryz.prog 158 #[.string b,.int .u8 c] w fun d e=>
 ∃ a,d=.int .i64 a∧
 Q (.int .i64 a) e
def XcV:Nat→List (Nat×TypeId):=fun _=>[]
theorem Xba (a:ByteArray) (b:Int) (w:World) (Q:VWP) (h:WS a b w Q):Xa Tryz.prog 122 #[.string a,.int .u8 b] w Q:=
 Xc XcV Tryz.func122 h (fun _ _=>by kernel_rfl) (by kernel_rfl) (by kernel_rfl) (by kernel_rfl)
end Go.Sh
end

section
namespace Go.Sh
open Go Go.Fw Go.Proofs
set_option maxRecDepth 100000
set_option linter.unusedVariables false
def ZT (b:ByteArray) (c:Int) (w:World) (Q:VWP):Prop:=
 Xa Tryz.prog 186 #[.string b,.int .u8 c] w fun d e=>
 ∃ a,d=.int .i64 a∧
 Q (.int .i64 a) e
def UH:Nat→List (Nat×TypeId):=fun _=>[]
theorem Ug (a:ByteArray) (b:Int) (w:World) (Q:VWP) (h:ZT a b w Q):Xa Tryz.prog 158 #[.string a,.int .u8 b] w Q:=
 Xc UH Tryz.func158 h (fun _ _=>by kernel_rfl) (by kernel_rfl) (by kernel_rfl) (by kernel_rfl)
end Go.Sh
end

section
namespace Go.Sh
open Go Go.Fw Go.Proofs
set_option maxRecDepth 100000
set_option linter.unusedVariables false
def XfI (a:Int) (e:Option Addr) (f:Nat) (g:Nat) (i:Int) (b:Option Addr) (c:Nat) (d:Nat) (w:World) (Q:VWP):Prop:=
 cond (decide (a > 0))
 (Q (.tuple #[.slice none 0 0,.int .i64 11]) w)
 (Q (.tuple #[.slice b c d,.int .i64 0]) w)
def XfJ (t:Int) (q:Int) (u:Option Addr) (v:Nat) (x:Nat) (y:Int) (w:World) (Q:VWP):Prop:=
 ∃ l m n r,Ef Tryz.prog (Instr.makeSlice 22 (.int .i64 q) (.int .i64 q)) w (.slice l m n) r∧
 LoopS [.int .u64 t,.slice u v x,.int .i64 y,.slice l m n,.int .i64 (IntKind.i64.wrap (q - 1))] r fun z A o _ f=>
 ∃ a b c d e g i j k,o=[.int .u64 a,.slice b c d,.int .i64 e,.slice g i j,.int .i64 k]∧
 cond (decide (k≥0))
 (∃ p,IxA Tryz.prog 22 (.slice g i j) (.int .i64 k) p∧
 ∃ s,Sto Tryz.prog 5 (.pointer (some p)) (.int .u8 (IntKind.u8.wrap (Int.tmod a 256))) f s∧
 Xh [] [] z A o [.int .u64 (IntKind.u64.wrap (Int.tdiv a 256)),.slice b c d,.int .i64 e,.slice g i j,.int .i64 (IntKind.i64.wrap (k - 1))] f s)
 (XfI a b c d e g i j f Q)
def XmP (b:Int) (a:Int) (w:World) (Q:VWP):Prop:=
 cond (decide (a<0))
 (Q (.tuple #[.slice none 0 0,.int .i64 11]) w)
 (cond (decide (a > 8))
 (Q (.tuple #[.slice none 0 0,.int .i64 11]) w)
 (XfJ b a none 0 0 0 w Q))
def Xp5:Nat→List (Nat×TypeId):=fun n=>match n with | 0=>[(0,28),(4,22),(5,25),(6,22),(7,3)] | _=>[]
theorem Xl1 (a:Int) (b:Int) (w:World) (Q:VWP) (h:XmP a b w Q):Xa Tryz.prog 203 #[.int .u64 a,.int .i64 b] w Q:=
 Xc Xp5 Tryz.func203 h (fun _ _=>by kernel_rfl) (by kernel_rfl) (by kernel_rfl) (by kernel_rfl)
def XbV (l:Inv) (m:JZ) (g:List Value) (i:World) (n:ByteArray) (o:Option Addr) (p:Nat) (q:Nat) (r:Int) (s:Option Addr) (t:Nat) (u:Nat) (v:Int) (x:Int) (y:Int) (w:World) (Q:VWP):Prop:=
 ∃ a b c j,Ef Tryz.prog (Instr.buildSlice 22 1 #[(0,.int .u8 (IntKind.u8.wrap (IntKind.i64.wrap ((IntKind.i64.wrap (16*x))+y))))]) w (.slice a b c) j∧
 ∃ d e f k,Ef Tryz.prog (Builtin.append_ #[22,22] 22 #[.slice s t u,.slice a b c]) j (.slice d e f) k∧
 Xh [] [] l m g [.string n,.slice o p q,.int .i64 r,.slice d e f,.int .i64 (IntKind.i64.wrap (v+2))] i k
def XhF (q:ByteArray) (w:World) (Q:VWP):Prop:=
 cond ((Int.tmod ((q.size:Nat):Int) 2) == 1)
 (Q (.tuple #[.slice none 0 0,.int .i64 10]) w)
 (∃ f g i r,Ef Tryz.prog (Instr.buildSlice 22 0 #[]) w (.slice f g i) r∧
 LoopS [.string q,.slice none 0 0,.int .i64 0,.slice f g i,.int .i64 0] r fun z A j _ b=>
 ∃ a s t u v m n o c,j=[.string a,.slice s t u,.int .i64 v,.slice m n o,.int .i64 c]∧
 cond (decide (c<((a.size:Nat):Int)))
 (∃ k,Pu Tryz.prog (Instr.index 9 (.string a) (.int .i64 c)) (.int .u8 k)∧
 Xa Tryz.prog 215 #[.int .u8 k] b fun x B=>
 ∃ d,x=.int .i64 d∧
 ∃ l,Pu Tryz.prog (Instr.index 9 (.string a) (.int .i64 (IntKind.i64.wrap (c+1)))) (.int .u8 l)∧
 Xa Tryz.prog 215 #[.int .u8 l] B fun y p=>
 ∃ e,y=.int .i64 e∧
 cond (decide (d<0))
 (Q (.tuple #[.slice none 0 0,.int .i64 10]) p)
 (cond (decide (e<0))
 (Q (.tuple #[.slice none 0 0,.int .i64 10]) p)
 (XbV z A j b a s t u v m n o c d e p Q)))
 (Q (.tuple #[.slice m n o,.int .i64 0]) b))
def Xl2:Nat→List (Nat×TypeId):=fun n=>match n with | 0=>[(0,9),(2,22),(3,25),(4,22),(5,3)] | _=>[]
theorem XiB (a:ByteArray) (w:World) (Q:VWP) (h:XhF a w Q):Xa Tryz.prog 204 #[.string a] w Q:=
 Xc Xl2 Tryz.func204 h (fun _ _=>by kernel_rfl) (by kernel_rfl) (by kernel_rfl) (by kernel_rfl)
def XmQ (n:Option Addr) (k:Nat) (o:Nat) (w:World) (Q:VWP):Prop:=
 cond (decide (((k:Nat):Int) > 8))
 (Q (.tuple #[.int .u64 0,.int .i64 11]) w)
 (LoopS [.slice n k o,.int .u64 0,.int .i64 0,.int .u64 0,.int .i64 0] w fun p q f _ d=>
 ∃ b a c l m j e,f=[.slice b a c,.int .u64 l,.int .i64 m,.int .u64 j,.int .i64 e]∧
 cond (decide (e<((a:Nat):Int)))
 (∃ g,IxA Tryz.prog 22 (.slice b a c) (.int .i64 e) g∧
 ∃ i,Ld Tryz.prog 5 (.pointer (some g)) d (.int .u8 i)∧
 Xh [] [] p q f [.slice b a c,.int .u64 l,.int .i64 m,.int .u64 (IntKind.u64.wrap ((IntKind.u64.wrap (j*256))+(IntKind.u64.wrap i))),.int .i64 (IntKind.i64.wrap (e+1))] d d)
 (Q (.tuple #[.int .u64 j,.int .i64 0]) d))
def Xp6:Nat→List (Nat×TypeId):=fun n=>match n with | 0=>[(0,22),(2,28),(3,25),(4,28),(5,3)] | _=>[]
theorem Xl3 (a:Option Addr) (b:Nat) (c:Nat) (w:World) (Q:VWP) (h:XmQ a b c w Q):Xa Tryz.prog 205 #[.slice a b c] w Q:=
 Xc Xp6 Tryz.func205 h (fun _ _=>by kernel_rfl) (by kernel_rfl) (by kernel_rfl) (by kernel_rfl)
def XhG (g:Int) (w:World) (Q:VWP):Prop:=
 LoopS [.int .u8 g,.int .i64 0,.int .i64 0] w fun i j d _ b=>
 ∃ a e c,d=[.int .u8 a,.int .i64 e,.int .i64 c]∧
 cond (decide (c<16))
 (∃ f,Pu Tryz.prog (Instr.index 9 (.string (⟨#[48,49,50,51,52,53,54,55,56,57,97,98,99,100,101,102]⟩:ByteArray)) (.int .i64 c)) (.int .u8 f)∧
 cond (f == a)
 (Q (.int .i64 c) b)
 (Xh [] [] i j d [.int .u8 a,.int .i64 e,.int .i64 (IntKind.i64.wrap (c+1))] b b))
 (Q (.int .i64 (-1)) b)
def Xl4:Nat→List (Nat×TypeId):=fun n=>match n with | 0=>[(0,5),(2,3),(3,3)] | _=>[]
theorem XiC (a:Int) (w:World) (Q:VWP) (h:XhG a w Q):Xa Tryz.prog 215 #[.int .u8 a] w Q:=
 Xc Xl4 Tryz.func215 h (fun _ _=>by kernel_rfl) (by kernel_rfl) (by kernel_rfl) (by kernel_rfl)
end Go.Sh
end

section
namespace Go.Sh
open Go Go.Fw Go.Proofs
set_option maxRecDepth 100000
set_option linter.unusedVariables false
def Wy (V:Option Addr) (W:Nat) (X:Nat) (n:Addr) (ae:Option Addr) (af:Nat) (ag:Nat) (ah:Int) (w:World) (Q:VWP):Prop:=
 Xa Tryz.prog 47 #[.slice V W X] w fun G Y=>
 ∃ a,G=.pointer a∧
 Xa Tryz.prog 78 #[.pointer a,.int .i64 1] Y fun H Z=>
 ∃ p,H=.int .u64 p∧
 Xa Tryz.prog 78 #[.pointer a,.int .i64 4] Z fun I aa=>
 ∃ q,I=.int .u64 q∧
 ∃ J,Pu Tryz.prog (zeroValue 36) J∧
 New J.cells 36 aa fun o ab=>
 ∃ L,Sto Tryz.prog 36 (.pointer (some ⟨o,0,none⟩)) (.agg #[.int .u8 (IntKind.u8.wrap p),.int .u32 (IntKind.u32.wrap q),.slice none 0 0,.slice none 0 0]) ab L∧
 Xa Tryz.prog 79 #[.pointer a] L fun M ac=>
 ∃ r s t,M=.slice r s t∧
 Xa Tryz.prog 79 #[.pointer a] ac fun N ad=>
 ∃ u v x,N=.slice u v x∧
 ∃ O,Sto Tryz.prog 22 (.pointer (some ((⟨o,0,none⟩:Addr).add 2))) (.slice r s t) ad O∧
 ∃ P,Sto Tryz.prog 22 (.pointer (some ((⟨o,0,none⟩:Addr).add 3))) (.slice u v x) O P∧
 Xa Tryz.prog 49 #[.pointer a] P fun R S=>
 ∃ y z A,R=.slice y z A∧
 ∃ B,a=some B∧
 Xa Tryz.prog 83 #[.pointer (some (B.add 0))] S fun T i=>
 ∃ j,T=.int .i64 j∧
 cond (j != 0)
 (∃ b,Sto Tryz.prog 36 (.pointer (some n)) (.agg #[.int .u8 0,.int .u32 0,.slice none 0 0,.slice none 0 0]) i b∧
 ∃ k U,(.pointer (some n):Value)=.pointer (some k)∧(loadVar 36 k).run Tryz.prog b=.ok U b∧
 Q (.tuple #[U,.slice none 0 0,.int .i64 j]) b)
 (∃ C c D E F d e f,Ld Tryz.prog 36 (.pointer (some ⟨o,0,none⟩)) i (.agg #[.int .u8 C,.int .u32 c,.slice D E F,.slice d e f])∧
 ∃ g,Sto Tryz.prog 36 (.pointer (some n)) (.agg #[.int .u8 C,.int .u32 c,.slice D E F,.slice d e f]) i g∧
 ∃ l m,(.pointer (some n):Value)=.pointer (some l)∧(loadVar 36 l).run Tryz.prog g=.ok m g∧
 Q (.tuple #[m,.slice y z A,.int .i64 0]) g)
def UO (f:Option Addr) (g:Nat) (i:Nat) (c:Addr) (j:Option Addr) (k:Nat) (l:Nat) (m:Int) (d:Bool) (w:World) (Q:VWP):Prop:=
 cond d
 (∃ b,Sto Tryz.prog 36 (.pointer (some c)) (.agg #[.int .u8 0,.int .u32 0,.slice none 0 0,.slice none 0 0]) w b∧
 ∃ a e,(.pointer (some c):Value)=.pointer (some a)∧(loadVar 36 a).run Tryz.prog b=.ok e b∧
 Q (.tuple #[e,.slice none 0 0,.int .i64 14]) b)
 (Wy f g i c j k l m w Q)
def Xkj (c:Option Addr) (a:Nat) (d:Nat) (w:World) (Q:VWP):Prop:=
 ∃ e,Pu Tryz.prog (zeroValue 36) e∧
 New e.cells 36 w fun f g=>
 cond (decide (((a:Nat):Int) > 0))
 (Xa Tryz.prog 82 #[.slice c a d] g fun i j=>
 ∃ b,i=.bool b∧
 UO c a d (⟨f,0,none⟩:Addr) none 0 0 0 (!b) j Q)
 (UO c a d (⟨f,0,none⟩:Addr) none 0 0 0 false g Q)
def Xn6:Nat→List (Nat×TypeId):=fun _=>[]
theorem Xkk (a:Option Addr) (b:Nat) (c:Nat) (w:World) (Q:VWP) (h:Xkj a b c w Q):Xa Tryz.prog 44 #[.slice a b c] w Q:=
 Xc Xn6 Tryz.func44 h (fun _ _=>by kernel_rfl) (by kernel_rfl) (by kernel_rfl) (by kernel_rfl)
def XmR (d:Option Addr) (a:Nat) (e:Nat) (w:World) (Q:VWP):Prop:=
 cond (decide (((a:Nat):Int) > 0))
 (∃ b,IxA Tryz.prog 22 (.slice d a e) (.int .i64 0) b∧
 ∃ c,Ld Tryz.prog 5 (.pointer (some b)) w (.int .u8 c)∧
 Q (.bool ((Zc .u8 c 128) != 0)) w)
 (Q (.bool false) w)
def Xp7:Nat→List (Nat×TypeId):=fun _=>[]
theorem Xl5 (a:Option Addr) (b:Nat) (c:Nat) (w:World) (Q:VWP) (h:XmR a b c w Q):Xa Tryz.prog 82 #[.slice a b c] w Q:=
 Xc Xp7 Tryz.func82 h (fun _ _=>by kernel_rfl) (by kernel_rfl) (by kernel_rfl) (by kernel_rfl)
def Xav (M:Int) (y:Int) (N:Option Addr) (O:Nat) (P:Nat) (z:Option Addr) (A:Nat) (B:Nat) (w:World) (Q:VWP):Prop:=
 New #[.int .u8 M,.int .u32 y,.slice N O P,.slice z A B] 36 w fun c C=>
 ∃ E,Ld Tryz.prog 5 (.pointer (some ((⟨c,0,none⟩:Addr).add 0))) C (.int .u8 E)∧
 cond ((Zc .u8 E 128) == 0)
 (Q (.tuple #[.slice none 0 0,.int .i64 14]) C)
 (∃ (a:World→Prop),
 Drw C fun b=>
 ∃ g,HLd Tryz.prog a 5 (.pointer (some ((⟨c,0,none⟩:Addr).add 0))) b (.int .u8 g)∧
 ∃ i,HLd Tryz.prog a 34 (.pointer (some ((⟨c,0,none⟩:Addr).add 1))) b (.int .u32 i)∧
 ∃ j k l,HLd Tryz.prog a 22 (.pointer (some ((⟨c,0,none⟩:Addr).add 2))) b (.slice j k l)∧
 ∃ m n o,HLd Tryz.prog a 22 (.pointer (some ((⟨c,0,none⟩:Addr).add 3))) b (.slice m n o)∧
 Xa Tryz.prog 88 #[] b fun R d=>
 ∃ F,R=.pointer F∧
 (d=b∨a d)∧
 Xa Tryz.prog 124 #[.pointer F,.int .u64 (IntKind.u64.wrap g),.int .i64 1] d fun G e=>
 ∃ p,G=.pointer p∧
 (e=d∨a e)∧
 Xa Tryz.prog 124 #[.pointer p,.int .u64 (IntKind.u64.wrap i),.int .i64 4] e fun H f=>
 ∃ q,H=.pointer q∧
 (f=e∨a f)∧
 Xa Tryz.prog 89 #[.pointer q,.slice j k l] f fun I D=>
 ∃ r,I=.pointer r∧
 (D=f∨a D)∧
 Xa Tryz.prog 89 #[.pointer r,.slice m n o] D fun J S=>
 ∃ s,J=.pointer s∧
 Xa Tryz.prog 91 #[.pointer s] S fun L T=>
 ∃ t u v x,L=.tuple #[.slice t u v,.int .i64 x]∧
 Q (.tuple #[.slice t u v,.int .i64 x]) T)
def XfK:Nat→List (Nat×TypeId):=fun _=>[]
theorem XcW (e:Int) (a:Int) (f:Option Addr) (g:Nat) (i:Nat) (b:Option Addr) (c:Nat) (d:Nat) (w:World) (Q:VWP) (h:Xav e a f g i b c d w Q):Xa Tryz.prog 149 #[.agg #[.int .u8 e,.int .u32 a,.slice f g i,.slice b c d]] w Q:=
 Xc XfK Tryz.func149 h (fun _ _=>by kernel_rfl) (by kernel_rfl) (by kernel_rfl) (by kernel_rfl)
end Go.Sh
end

section
namespace Go.Sh
open Go Go.Fw Go.Proofs
set_option maxRecDepth 100000
set_option linter.unusedVariables false
def XfL (a:Int) (w:World) (Q:VWP):Prop:=
 Q (.int .i64 (IntKind.i64.wrap (Zc .u8 (Int.fdiv a (2 ^ 4)) 3))) w
def Xkl:Nat→List (Nat×TypeId):=fun _=>[]
theorem Xhc (a:Int) (w:World) (Q:VWP) (h:XfL a w Q):Xa Tryz.prog 45 #[.int .u8 a] w Q:=
 Xc Xkl Tryz.func45 h (fun _ _=>by kernel_rfl) (by kernel_rfl) (by kernel_rfl) (by kernel_rfl)
end Go.Sh
end

section
namespace Go.Sh
open Go Go.Fw Go.Proofs
set_option maxRecDepth 100000
set_option linter.unusedVariables false
def JL (i:Option Addr) (j:Int) (m:Int) (w:World) (Q:VWP):Prop:=
 Xa Tryz.prog 206 #[.pointer i,.int .i64 j] w fun f k=>
 ∃ b c d,f=.slice b c d∧
 Xa Tryz.prog 205 #[.slice b c d] k fun g l=>
 ∃ e a,g=.tuple #[.int .u64 e,.int .i64 a]∧
 Q (.int .u64 e) l
def YL (b:Option Addr) (c:Int) (d:Int) (e:Bool) (w:World) (Q:VWP):Prop:=
 cond e
 (∃ a,b=some a∧
 ∃ f,Sto Tryz.prog 25 (.pointer (some (a.add 1))) (.int .i64 11) w f∧
 JL b c d f Q)
 (JL b c d w Q)
def QE (b:Option Addr) (a:Int) (w:World) (Q:VWP):Prop:=
 ∃ d,b=some d∧
 ∃ c,Ld Tryz.prog 25 (.pointer (some (d.add 1))) w (.int .i64 c)∧
 cond (c == 0)
 (cond (decide (a<0))
 (YL b a 0 true w Q)
 (YL b a 0 (decide (a > 8)) w Q))
 (YL b a 0 false w Q)
def Xes:Nat→List (Nat×TypeId):=fun _=>[]
theorem XbW (a:Option Addr) (b:Int) (w:World) (Q:VWP) (h:QE a b w Q):Xa Tryz.prog 191 #[.pointer a,.int .i64 b] w Q:=
 Xc Xes Tryz.func191 h (fun _ _=>by kernel_rfl) (by kernel_rfl) (by kernel_rfl) (by kernel_rfl)
def Wd (e:Option Addr) (w:World) (Q:VWP):Prop:=
 ∃ f,e=some f∧
 ∃ g i j,Ld Tryz.prog 22 (.pointer (some (f.add 0))) w (.slice g i j)∧
 Xa Tryz.prog 191 #[.pointer e,.int .i64 1] w fun k m=>
 ∃ a,k=.int .u64 a∧
 Xa Tryz.prog 207 #[.pointer e,.slice g i j,.int .u64 a] m fun l n=>
 ∃ b c d,l=.slice b c d∧
 Q (.slice b c d) n
def XbX:Nat→List (Nat×TypeId):=fun _=>[]
theorem Q5 (a:Option Addr) (w:World) (Q:VWP) (h:Wd a w Q):Xa Tryz.prog 192 #[.pointer a] w Q:=
 Xc XbX Tryz.func192 h (fun _ _=>by kernel_rfl) (by kernel_rfl) (by kernel_rfl) (by kernel_rfl)
def ZB (c:Option Addr) (d:Int) (w:World) (Q:VWP):Prop:=
 ∃ a,c=some a∧
 ∃ b,Ld Tryz.prog 25 (.pointer (some (a.add 1))) w (.int .i64 b)∧
 Q (.int .i64 b) w
def ZC (b:Option Addr) (c:Int) (d:Bool) (w:World) (Q:VWP):Prop:=
 cond d
 (∃ a,b=some a∧
 ∃ e,Sto Tryz.prog 25 (.pointer (some (a.add 1))) (.int .i64 10) w e∧
 ZB b c e Q)
 (ZB b c w Q)
def QF (a:Option Addr) (w:World) (Q:VWP):Prop:=
 ∃ d,a=some d∧
 ∃ e,Ld Tryz.prog 25 (.pointer (some (d.add 1))) w (.int .i64 e)∧
 cond (e == 0)
 (∃ b,a=some b∧
 ∃ f c g,Ld Tryz.prog 22 (.pointer (some (b.add 0))) w (.slice f c g)∧
 ZC a 0 (decide (((c:Nat):Int) > 0)) w Q)
 (ZC a 0 false w Q)
def Xet:Nat→List (Nat×TypeId):=fun _=>[]
theorem XbY (a:Option Addr) (w:World) (Q:VWP) (h:QF a w Q):Xa Tryz.prog 193 #[.pointer a] w Q:=
 Xc Xet Tryz.func193 h (fun _ _=>by kernel_rfl) (by kernel_rfl) (by kernel_rfl) (by kernel_rfl)
def Yx (a:Option Addr) (C:Int) (E:Option Addr) (F:Nat) (G:Nat) (w:World) (Q:VWP):Prop:=
 ∃ b,a=some b∧
 ∃ c,Ld Tryz.prog 25 (.pointer (some (b.add 1))) w (.int .i64 c)∧
 cond (c != 0)
 (Q (.slice none 0 0) w)
 (∃ d e f A,Ef Tryz.prog (Instr.buildSlice 22 0 #[]) w (.slice d e f) A∧
 ∃ g,a=some g∧
 ∃ i j k,Ld Tryz.prog 22 (.pointer (some (g.add 0))) A (.slice i j k)∧
 ∃ l m n,Pu Tryz.prog (Instr.sliceAt 22 (.slice i j k) none (some (.int .i64 C)) none) (.slice l m n)∧
 ∃ o p q B,Ef Tryz.prog (Builtin.append_ #[22,22] 22 #[.slice d e f,.slice l m n]) A (.slice o p q) B∧
 ∃ r,a=some r∧
 ∃ s t u,Ld Tryz.prog 22 (.pointer (some (r.add 0))) B (.slice s t u)∧
 ∃ v x y,Pu Tryz.prog (Instr.sliceAt 22 (.slice s t u) (some (.int .i64 C)) none none) (.slice v x y)∧
 ∃ z,a=some z∧
 ∃ D,Sto Tryz.prog 22 (.pointer (some (z.add 0))) (.slice v x y) B D∧
 Q (.slice o p q) D)
def Y9 (b:Option Addr) (c:Int) (d:Option Addr) (e:Nat) (f:Nat) (g:Bool) (w:World) (Q:VWP):Prop:=
 cond g
 (∃ a,b=some a∧
 ∃ i,Sto Tryz.prog 25 (.pointer (some (a.add 1))) (.int .i64 12) w i∧
 Yx b c d e f i Q)
 (Yx b c d e f w Q)
def Jl (a:Option Addr) (f:Int) (g:Option Addr) (i:Nat) (j:Nat) (w:World) (Q:VWP):Prop:=
 ∃ b,a=some b∧
 ∃ c,Ld Tryz.prog 25 (.pointer (some (b.add 1))) w (.int .i64 c)∧
 cond (c == 0)
 (∃ d,a=some d∧
 ∃ k e l,Ld Tryz.prog 22 (.pointer (some (d.add 0))) w (.slice k e l)∧
 Y9 a f g i j (decide (f > ((e:Nat):Int))) w Q)
 (Y9 a f g i j false w Q)
def Za (b:Option Addr) (c:Int) (d:Option Addr) (e:Nat) (f:Nat) (g:Bool) (w:World) (Q:VWP):Prop:=
 cond g
 (∃ a,b=some a∧
 ∃ i,Sto Tryz.prog 25 (.pointer (some (a.add 1))) (.int .i64 11) w i∧
 Jl b c d e f i Q)
 (Jl b c d e f w Q)
def We (a:Option Addr) (b:Int) (w:World) (Q:VWP):Prop:=
 ∃ c,a=some c∧
 ∃ d,Ld Tryz.prog 25 (.pointer (some (c.add 1))) w (.int .i64 d)∧
 cond (d == 0)
 (Za a b none 0 0 (decide (b<0)) w Q)
 (Za a b none 0 0 false w Q)
def XbZ:Nat→List (Nat×TypeId):=fun _=>[]
theorem Q6 (a:Option Addr) (b:Int) (w:World) (Q:VWP) (h:We a b w Q):Xa Tryz.prog 206 #[.pointer a,.int .i64 b] w Q:=
 Xc XbZ Tryz.func206 h (fun _ _=>by kernel_rfl) (by kernel_rfl) (by kernel_rfl) (by kernel_rfl)
def Yk (g:Option Addr) (k:Option Addr) (l:Nat) (m:Nat) (n:Int) (p:Option Addr) (q:Nat) (r:Nat) (w:World) (Q:VWP):Prop:=
 ∃ a,g=some a∧
 ∃ b,Ld Tryz.prog 25 (.pointer (some (a.add 1))) w (.int .i64 b)∧
 cond (b != 0)
 (∃ c,g=some c∧
 ∃ i,Sto Tryz.prog 22 (.pointer (some (c.add 0))) (.slice k l m) w i∧
 Q (.slice none 0 0) i)
 (Xa Tryz.prog 206 #[.pointer g,.int .i64 (IntKind.i64.wrap n)] w fun j o=>
 ∃ d e f,j=.slice d e f∧
 Q (.slice d e f) o)
def YI (b:Option Addr) (c:Option Addr) (d:Nat) (e:Nat) (f:Int) (g:Option Addr) (i:Nat) (j:Nat) (k:Bool) (w:World) (Q:VWP):Prop:=
 cond k
 (∃ a,b=some a∧
 ∃ l,Sto Tryz.prog 25 (.pointer (some (a.add 1))) (.int .i64 12) w l∧
 Yk b c d e f g i j l Q)
 (Yk b c d e f g i j w Q)
def Vg (a:Option Addr) (f:Option Addr) (g:Nat) (i:Nat) (e:Int) (w:World) (Q:VWP):Prop:=
 ∃ j,a=some j∧
 ∃ b,Ld Tryz.prog 25 (.pointer (some (j.add 1))) w (.int .i64 b)∧
 cond (b == 0)
 (∃ c,a=some c∧
 ∃ k d l,Ld Tryz.prog 22 (.pointer (some (c.add 0))) w (.slice k d l)∧
 YI a f g i e none 0 0 (decide (e > (IntKind.u64.wrap ((d:Nat):Int)))) w Q)
 (YI a f g i e none 0 0 false w Q)
def Q7:Nat→List (Nat×TypeId):=fun _=>[]
theorem W9 (a:Option Addr) (b:Option Addr) (c:Nat) (d:Nat) (e:Int) (w:World) (Q:VWP) (h:Vg a b c d e w Q):Xa Tryz.prog 207 #[.pointer a,.slice b c d,.int .u64 e] w Q:=
 Xc Q7 Tryz.func207 h (fun _ _=>by kernel_rfl) (by kernel_rfl) (by kernel_rfl) (by kernel_rfl)
end Go.Sh
end

section
namespace Go.Sh
open Go Go.Fw Go.Proofs
set_option maxRecDepth 100000
set_option linter.unusedVariables false
def XdQ (au:Option Addr) (av:Option Addr) (ax:Nat) (ay:Nat) (ai:Option Addr) (aj:Nat) (ak:Nat) (az:Int) (b:Addr) (aC:Int) (am:Int) (w:World) (Q:VWP):Prop:=
 ∃ (u:World→Prop),
 Drw w fun c=>
 ∃ z,au=some z∧
 ∃ A B C,Pu Tryz.prog (Instr.sliceAt 22 (.slice ai aj ak) (some (.int .i64 1)) (some (.int .i64 13)) none) (.slice A B C)∧
 ∃ D E F,Pu Tryz.prog (Instr.sliceAt 22 (.slice ai aj ak) (some (.int .i64 13)) none none) (.slice D E F)∧
 ∃ G,IxA Tryz.prog 22 (.slice ai aj ak) (.int .i64 0) G∧
 ∃ H I J,HLd Tryz.prog u 116 (.pointer (some (z.add 0))) c (.slice H I J)∧
 ∃ L,IxA Tryz.prog 116 (.slice H I J) (.int .i64 am) L∧
 ∃ M N O,HLd Tryz.prog u 22 (.pointer (some (L.add 1))) c (.slice M N O)∧
 ∃ P,Ld Tryz.prog 5 (.pointer (some G)) c (.int .u8 P)∧
 (c=c∨u c)∧
 Xa Tryz.prog 163 #[.int .i64 (IntKind.i64.wrap P),.slice av ax ay] c fun an al=>
 ∃ R S T,an=.slice R S T∧
 (al=c∨u al)∧
 Xa Tryz.prog 31 #[.slice M N O,.slice A B C,.slice D E F,.slice R S T] al fun ao ap=>
 ∃ U V W X,ao=.tuple #[.slice U V W,.int .i64 X]∧
 cond (X != 0)
 (∃ v,Sto Tryz.prog 208 (.pointer (some b)) (.agg #[.int .u64 0,.slice none 0 0,.slice none 0 0]) ap v∧
 ∃ m aq,(.pointer (some b):Value)=.pointer (some m)∧(loadVar 208 m).run Tryz.prog v=.ok aq v∧
 Q (.tuple #[aq,.int .i64 13]) v)
 (Xa Tryz.prog 164 #[.slice U V W] ap fun ar aA=>
 ∃ Y Z aa ab d e f a,ar=.tuple #[.agg #[.int .u64 Y,.slice Z aa ab,.slice d e f],.int .i64 a]∧
 ∃ ac,Pu Tryz.prog (zeroValue 208) ac∧
 New ac.cells 208 aA fun n aB=>
 ∃ l,Sto Tryz.prog 208 (.pointer (some ⟨n,0,none⟩)) (.agg #[.int .u64 Y,.slice Z aa ab,.slice d e f]) aB l∧
 cond (a != 0)
 (∃ x,Sto Tryz.prog 208 (.pointer (some b)) (.agg #[.int .u64 0,.slice none 0 0,.slice none 0 0]) l x∧
 ∃ o p,(.pointer (some b):Value)=.pointer (some o)∧(loadVar 208 o).run Tryz.prog x=.ok p x∧
 Q (.tuple #[p,.int .i64 a]) x)
 (∃ ad,Ld Tryz.prog 28 (.pointer (some ((⟨n,0,none⟩:Addr).add 0))) l (.int .u64 ad)∧
 cond (decide (ad<az))
 (∃ y,Sto Tryz.prog 208 (.pointer (some b)) (.agg #[.int .u64 0,.slice none 0 0,.slice none 0 0]) l y∧
 ∃ q r,(.pointer (some b):Value)=.pointer (some q)∧(loadVar 208 q).run Tryz.prog y=.ok r y∧
 Q (.tuple #[r,.int .i64 20]) y)
 (∃ ae af ag ah g i j,Ld Tryz.prog 208 (.pointer (some ⟨n,0,none⟩)) l (.agg #[.int .u64 ae,.slice af ag ah,.slice g i j])∧
 ∃ k,Sto Tryz.prog 208 (.pointer (some b)) (.agg #[.int .u64 ae,.slice af ag ah,.slice g i j]) l k∧
 ∃ s t,(.pointer (some b):Value)=.pointer (some s)∧(loadVar 208 s).run Tryz.prog k=.ok t k∧
 Q (.tuple #[t,.int .i64 0]) k)))
def JF (g:Option Addr) (i:Option Addr) (j:Nat) (k:Nat) (l:Option Addr) (m:Nat) (n:Nat) (o:Int) (c:Addr) (p:Int) (d:Int) (e:Bool) (w:World) (Q:VWP):Prop:=
 cond e
 (∃ b,Sto Tryz.prog 208 (.pointer (some c)) (.agg #[.int .u64 0,.slice none 0 0,.slice none 0 0]) w b∧
 ∃ a f,(.pointer (some c):Value)=.pointer (some a)∧(loadVar 208 a).run Tryz.prog b=.ok f b∧
 Q (.tuple #[f,.int .i64 13]) b)
 (XdQ g i j k l m n o c p d w Q)
def Xkm (k:Option Addr) (q:Option Addr) (l:Nat) (r:Nat) (m:Option Addr) (c:Nat) (n:Nat) (s:Int) (w:World) (Q:VWP):Prop:=
 ∃ t,Pu Tryz.prog (zeroValue 208) t∧
 New t.cells 208 w fun b o=>
 cond (decide (((c:Nat):Int)<29))
 (∃ f,Sto Tryz.prog 208 (.pointer (some ⟨b,0,none⟩)) (.agg #[.int .u64 0,.slice none 0 0,.slice none 0 0]) o f∧
 ∃ u v,(.pointer (some ⟨b,0,none⟩):Value)=.pointer (some u)∧(loadVar 208 u).run Tryz.prog f=.ok v f∧
 Q (.tuple #[v,.int .i64 12]) f)
 (∃ i,IxA Tryz.prog 22 (.slice m c n) (.int .i64 0) i∧
 ∃ j,Ld Tryz.prog 5 (.pointer (some i)) o (.int .u8 j)∧
 Xa Tryz.prog 128 #[.pointer k,.int .i64 (IntKind.i64.wrap j)] o fun x p=>
 ∃ a,x=.int .i64 a∧
 cond (decide (a<0))
 (∃ g,Sto Tryz.prog 208 (.pointer (some ⟨b,0,none⟩)) (.agg #[.int .u64 0,.slice none 0 0,.slice none 0 0]) p g∧
 ∃ d e,(.pointer (some ⟨b,0,none⟩):Value)=.pointer (some d)∧(loadVar 208 d).run Tryz.prog g=.ok e g∧
 Q (.tuple #[e,.int .i64 17]) g)
 (cond (decide (((l:Nat):Int) > 64))
 (JF k q l r m c n s (⟨b,0,none⟩:Addr) 0 a true p Q)
 (JF k q l r m c n s (⟨b,0,none⟩:Addr) 0 a (decide (((c:Nat):Int) > 4096)) p Q)))
def Xn7:Nat→List (Nat×TypeId):=fun _=>[]
theorem Xkn (a:Option Addr) (b:Option Addr) (c:Nat) (d:Nat) (e:Option Addr) (f:Nat) (g:Nat) (i:Int) (w:World) (Q:VWP) (h:Xkm a b c d e f g i w Q):Xa Tryz.prog 126 #[.pointer a,.slice b c d,.slice e f g,.int .u64 i] w Q:=
 Xc Xn7 Tryz.func126 h (fun _ _=>by kernel_rfl) (by kernel_rfl) (by kernel_rfl) (by kernel_rfl)
def XdR (ac:Option Addr) (O:Int) (P:Option Addr) (R:Nat) (S:Nat) (ad:Option Addr) (ae:Nat) (af:Nat) (ag:Addr) (ai:Option Addr) (aj:Nat) (ak:Nat) (al:Int) (T:Int) (w:World) (Q:VWP):Prop:=
 ∃ f g i j a b c,Ld Tryz.prog 208 (.pointer (some ag)) w (.agg #[.int .u64 f,.slice g i j,.slice a b c])∧
 Xa Tryz.prog 187 #[.agg #[.int .u64 f,.slice g i j,.slice a b c]] w fun U V=>
 ∃ k l m d,U=.tuple #[.slice k l m,.int .i64 d]∧
 cond (d != 0)
 (Q (.tuple #[.slice none 0 0,.int .i64 d]) V)
 (∃ (M:World→Prop),
 Drw V fun e=>
 ∃ n,ac=some n∧
 ∃ o p q,HLd Tryz.prog M 116 (.pointer (some (n.add 0))) e (.slice o p q)∧
 ∃ r,IxA Tryz.prog 116 (.slice o p q) (.int .i64 T) r∧
 ∃ s t u,HLd Tryz.prog M 22 (.pointer (some (r.add 1))) e (.slice s t u)∧
 Xa Tryz.prog 163 #[.int .i64 O,.slice ad ae af] e fun W N=>
 ∃ v x y,W=.slice v x y∧
 (N=e∨M N)∧
 Xa Tryz.prog 188 #[.slice s t u,.slice P R S,.slice k l m,.slice v x y] N fun X ah=>
 ∃ z A B Y,X=.tuple #[.slice z A B,.int .i64 Y]∧
 ∃ C D E Z,Ef Tryz.prog (Instr.buildSlice 22 1 #[(0,.int .u8 (IntKind.u8.wrap O))]) ah (.slice C D E) Z∧
 ∃ F G H aa,Ef Tryz.prog (Builtin.append_ #[22,22] 22 #[.slice C D E,.slice P R S]) Z (.slice F G H) aa∧
 ∃ I J L ab,Ef Tryz.prog (Builtin.append_ #[22,22] 22 #[.slice F G H,.slice z A B]) aa (.slice I J L) ab∧
 Q (.tuple #[.slice I J L,.int .i64 0]) ab)
def Xko (f:Option Addr) (g:Int) (l:Option Addr) (i:Nat) (m:Nat) (n:Option Addr) (j:Nat) (o:Nat) (p:Int) (q:Option Addr) (r:Nat) (s:Nat) (c:Option Addr) (d:Nat) (e:Nat) (w:World) (Q:VWP):Prop:=
 New #[.int .u64 p,.slice q r s,.slice c d e] 208 w fun t u=>
 Xa Tryz.prog 128 #[.pointer f,.int .i64 g] u fun k b=>
 ∃ a,k=.int .i64 a∧
 cond (decide (a<0))
 (Q (.tuple #[.slice none 0 0,.int .i64 17]) b)
 (cond (((i:Nat):Int) != 12)
 (Q (.tuple #[.slice none 0 0,.int .i64 11]) b)
 (cond (decide (((j:Nat):Int) > 64))
 (Q (.tuple #[.slice none 0 0,.int .i64 11]) b)
 (XdR f g l i m n j o (⟨t,0,none⟩:Addr) none 0 0 0 a b Q)))
def Xn8:Nat→List (Nat×TypeId):=fun _=>[]
theorem Xkp (d:Option Addr) (e:Int) (f:Option Addr) (g:Nat) (i:Nat) (j:Option Addr) (k:Nat) (l:Nat) (m:Int) (n:Option Addr) (o:Nat) (p:Nat) (a:Option Addr) (b:Nat) (c:Nat) (w:World) (Q:VWP) (h:Xko d e f g i j k l m n o p a b c w Q):Xa Tryz.prog 161 #[.pointer d,.int .i64 e,.slice f g i,.slice j k l,.agg #[.int .u64 m,.slice n o p,.slice a b c]] w Q:=
 Xc Xn8 Tryz.func161 h (fun _ _=>by kernel_rfl) (by kernel_rfl) (by kernel_rfl) (by kernel_rfl)
def Xkq (j:Int) (k:Option Addr) (l:Nat) (m:Nat) (w:World) (Q:VWP):Prop:=
 ∃ a b c d,Ef Tryz.prog (Instr.buildSlice 22 1 #[(0,.int .u8 (IntKind.u8.wrap j))]) w (.slice a b c) d∧
 ∃ e f g i,Ef Tryz.prog (Builtin.append_ #[22,22] 22 #[.slice a b c,.slice k l m]) d (.slice e f g) i∧
 Q (.slice e f g) i
def Xn9:Nat→List (Nat×TypeId):=fun _=>[]
theorem Xkr (a:Int) (b:Option Addr) (c:Nat) (d:Nat) (w:World) (Q:VWP) (h:Xkq a b c d w Q):Xa Tryz.prog 163 #[.int .i64 a,.slice b c d] w Q:=
 Xc Xn9 Tryz.func163 h (fun _ _=>by kernel_rfl) (by kernel_rfl) (by kernel_rfl) (by kernel_rfl)
def Zb (g:Addr) (r:Int) (q:Addr) (o:Int) (w:World) (Q:VWP):Prop:=
 cond (o != 0)
 (∃ i,Sto Tryz.prog 208 (.pointer (some g)) (.agg #[.int .u64 0,.slice none 0 0,.slice none 0 0]) w i∧
 ∃ d p,(.pointer (some g):Value)=.pointer (some d)∧(loadVar 208 d).run Tryz.prog i=.ok p i∧
 Q (.tuple #[p,.int .i64 o]) i)
 (∃ k l m n a b c,Ld Tryz.prog 208 (.pointer (some q)) w (.agg #[.int .u64 k,.slice l m n,.slice a b c])∧
 ∃ j,Sto Tryz.prog 208 (.pointer (some g)) (.agg #[.int .u64 k,.slice l m n,.slice a b c]) w j∧
 ∃ e f,(.pointer (some g):Value)=.pointer (some e)∧(loadVar 208 e).run Tryz.prog j=.ok f j∧
 Q (.tuple #[f,.int .i64 0]) j)
def XfM (D:Option Addr) (E:Nat) (F:Nat) (w:World) (Q:VWP):Prop:=
 ∃ p,Pu Tryz.prog (zeroValue 208) p∧
 New p.cells 208 w fun d G=>
 New #[.slice D E F,.int .i64 0] 289 G fun e H=>
 Xa Tryz.prog 191 #[.pointer (some ⟨e,0,none⟩),.int .i64 8] H fun q I=>
 ∃ f,q=.int .u64 f∧
 ∃ r,Pu Tryz.prog (zeroValue 208) r∧
 New r.cells 208 I fun b J=>
 ∃ s,Sto Tryz.prog 208 (.pointer (some ⟨b,0,none⟩)) (.agg #[.int .u64 f,.slice none 0 0,.slice none 0 0]) J s∧
 Xa Tryz.prog 192 #[.pointer (some ⟨e,0,none⟩)] s fun t L=>
 ∃ g i j,t=.slice g i j∧
 ∃ u,Sto Tryz.prog 22 (.pointer (some ((⟨b,0,none⟩:Addr).add 1))) (.slice g i j) L u∧
 Xa Tryz.prog 192 #[.pointer (some ⟨e,0,none⟩)] u fun v M=>
 ∃ k l m,v=.slice k l m∧
 ∃ x,Sto Tryz.prog 22 (.pointer (some ((⟨b,0,none⟩:Addr).add 2))) (.slice k l m) M x∧
 Xa Tryz.prog 193 #[.pointer (some ⟨e,0,none⟩)] x fun y a=>
 ∃ c,y=.int .i64 c∧
 cond (c == 0)
 (∃ z n A,Ld Tryz.prog 22 (.pointer (some ((⟨b,0,none⟩:Addr).add 1))) a (.slice z n A)∧
 cond (decide (((n:Nat):Int) > 20))
 (Zb (⟨d,0,none⟩:Addr) 0 (⟨b,0,none⟩:Addr) 10 a Q)
 (∃ B o C,Ld Tryz.prog 22 (.pointer (some ((⟨b,0,none⟩:Addr).add 2))) a (.slice B o C)∧
 cond (decide (((o:Nat):Int) > 20))
 (Zb (⟨d,0,none⟩:Addr) 0 (⟨b,0,none⟩:Addr) 10 a Q)
 (Zb (⟨d,0,none⟩:Addr) 0 (⟨b,0,none⟩:Addr) c a Q)))
 (Zb (⟨d,0,none⟩:Addr) 0 (⟨b,0,none⟩:Addr) c a Q)
def Xks:Nat→List (Nat×TypeId):=fun _=>[]
theorem Xhd (a:Option Addr) (b:Nat) (c:Nat) (w:World) (Q:VWP) (h:XfM a b c w Q):Xa Tryz.prog 164 #[.slice a b c] w Q:=
 Xc Xks Tryz.func164 h (fun _ _=>by kernel_rfl) (by kernel_rfl) (by kernel_rfl) (by kernel_rfl)
def XdS (a:Addr) (aa:Option Addr) (ab:Nat) (ac:Nat) (ad:Int) (w:World) (Q:VWP):Prop:=
 ∃ k,Ld Tryz.prog 28 (.pointer (some (a.add 0))) w (.int .u64 k)∧
 Xa Tryz.prog 203 #[.int .u64 k,.int .i64 8] w fun R Z=>
 ∃ l m n S,R=.tuple #[.slice l m n,.int .i64 S]∧
 ∃ (d:World→Prop),
 Drw Z fun e=>
 ∃ T o U,HLd Tryz.prog d 22 (.pointer (some (a.add 1))) e (.slice T o U)∧
 ∃ p q r,HLd Tryz.prog d 22 (.pointer (some (a.add 1))) e (.slice p q r)∧
 ∃ s t u b,Ef Tryz.prog (Instr.buildSlice 22 1 #[(0,.int .u8 (IntKind.u8.wrap ((o:Nat):Int)))]) e (.slice s t u) b∧
 (b=e∨d b)∧
 ∃ v x y f,Ef Tryz.prog (Builtin.append_ #[22,22] 22 #[.slice l m n,.slice s t u]) b (.slice v x y) f∧
 (f=b∨d f)∧
 ∃ z A B V,Ef Tryz.prog (Builtin.append_ #[22,22] 22 #[.slice v x y,.slice p q r]) f (.slice z A B) V∧
 ∃ (g:World→Prop),
 Drw V fun i=>
 ∃ W C X,HLd Tryz.prog g 22 (.pointer (some (a.add 2))) i (.slice W C X)∧
 ∃ D E F,HLd Tryz.prog g 22 (.pointer (some (a.add 2))) i (.slice D E F)∧
 ∃ G H I c,Ef Tryz.prog (Instr.buildSlice 22 1 #[(0,.int .u8 (IntKind.u8.wrap ((C:Nat):Int)))]) i (.slice G H I) c∧
 (c=i∨g c)∧
 ∃ J L M j,Ef Tryz.prog (Builtin.append_ #[22,22] 22 #[.slice z A B,.slice G H I]) c (.slice J L M) j∧
 (j=c∨g j)∧
 ∃ N O P Y,Ef Tryz.prog (Builtin.append_ #[22,22] 22 #[.slice J L M,.slice D E F]) j (.slice N O P) Y∧
 Q (.tuple #[.slice N O P,.int .i64 0]) Y
def Xkt (k:Int) (l:Option Addr) (m:Nat) (n:Nat) (c:Option Addr) (d:Nat) (e:Nat) (w:World) (Q:VWP):Prop:=
 New #[.int .u64 k,.slice l m n,.slice c d e] 208 w fun f a=>
 ∃ o g p,Ld Tryz.prog 22 (.pointer (some ((⟨f,0,none⟩:Addr).add 1))) a (.slice o g p)∧
 cond (decide (((g:Nat):Int) > 20))
 (Q (.tuple #[.slice none 0 0,.int .i64 15]) a)
 (∃ i b j,Ld Tryz.prog 22 (.pointer (some ((⟨f,0,none⟩:Addr).add 2))) a (.slice i b j)∧
 cond (decide (((b:Nat):Int) > 20))
 (Q (.tuple #[.slice none 0 0,.int .i64 15]) a)
 (XdS (⟨f,0,none⟩:Addr) none 0 0 0 a Q))
def Xoa:Nat→List (Nat×TypeId):=fun _=>[]
theorem Xku (d:Int) (e:Option Addr) (f:Nat) (g:Nat) (a:Option Addr) (b:Nat) (c:Nat) (w:World) (Q:VWP) (h:Xkt d e f g a b c w Q):Xa Tryz.prog 187 #[.agg #[.int .u64 d,.slice e f g,.slice a b c]] w Q:=
 Xc Xoa Tryz.func187 h (fun _ _=>by kernel_rfl) (by kernel_rfl) (by kernel_rfl) (by kernel_rfl)
end Go.Sh
end

section
namespace Go.Sh
open Go Go.Fw Go.Proofs
set_option maxRecDepth 100000
set_option linter.unusedVariables false
def Xb0 (a:Addr) (ac:Option Addr) (ad:Nat) (ae:Nat) (af:Int) (w:World) (Q:VWP):Prop:=
 ∃ k,Ld Tryz.prog 5 (.pointer (some (a.add 0))) w (.int .u8 k)∧
 ∃ l,Ld Tryz.prog 34 (.pointer (some (a.add 1))) w (.int .u32 l)∧
 ∃ m,Ld Tryz.prog 34 (.pointer (some (a.add 1))) w (.int .u32 m)∧
 ∃ n,Ld Tryz.prog 34 (.pointer (some (a.add 1))) w (.int .u32 n)∧
 ∃ o,Ld Tryz.prog 34 (.pointer (some (a.add 1))) w (.int .u32 o)∧
 ∃ p q r V,Ef Tryz.prog (Instr.buildSlice 22 5 #[(0,.int .u8 k),(1,.int .u8 (IntKind.u8.wrap (Int.fdiv l (2 ^ 24)))),(2,.int .u8 (IntKind.u8.wrap (Int.fdiv m (2 ^ 16)))),(3,.int .u8 (IntKind.u8.wrap (Int.fdiv n (2 ^ 8)))),(4,.int .u8 (IntKind.u8.wrap o))]) w (.slice p q r) V∧
 ∃ (d:World→Prop),
 Drw V fun e=>
 ∃ W s X,HLd Tryz.prog d 22 (.pointer (some (a.add 2))) e (.slice W s X)∧
 ∃ t u v,HLd Tryz.prog d 22 (.pointer (some (a.add 2))) e (.slice t u v)∧
 ∃ x y z b,Ef Tryz.prog (Instr.buildSlice 22 1 #[(0,.int .u8 (IntKind.u8.wrap ((s:Nat):Int)))]) e (.slice x y z) b∧
 (b=e∨d b)∧
 ∃ A B C f,Ef Tryz.prog (Builtin.append_ #[22,22] 22 #[.slice p q r,.slice x y z]) b (.slice A B C) f∧
 (f=b∨d f)∧
 ∃ D E F Y,Ef Tryz.prog (Builtin.append_ #[22,22] 22 #[.slice A B C,.slice t u v]) f (.slice D E F) Y∧
 ∃ (g:World→Prop),
 Drw Y fun i=>
 ∃ Z G aa,HLd Tryz.prog g 22 (.pointer (some (a.add 3))) i (.slice Z G aa)∧
 ∃ H I J,HLd Tryz.prog g 22 (.pointer (some (a.add 3))) i (.slice H I J)∧
 ∃ L M N c,Ef Tryz.prog (Instr.buildSlice 22 1 #[(0,.int .u8 (IntKind.u8.wrap ((G:Nat):Int)))]) i (.slice L M N) c∧
 (c=i∨g c)∧
 ∃ O P R j,Ef Tryz.prog (Builtin.append_ #[22,22] 22 #[.slice D E F,.slice L M N]) c (.slice O P R) j∧
 (j=c∨g j)∧
 ∃ S T U ab,Ef Tryz.prog (Builtin.append_ #[22,22] 22 #[.slice O P R,.slice H I J]) j (.slice S T U) ab∧
 Q (.tuple #[.slice S T U,.int .i64 0]) ab
def XhH (m:Int) (d:Int) (n:Option Addr) (o:Nat) (p:Nat) (e:Option Addr) (f:Nat) (g:Nat) (w:World) (Q:VWP):Prop:=
 New #[.int .u8 m,.int .u32 d,.slice n o p,.slice e f g] 122 w fun b a=>
 ∃ i,Ld Tryz.prog 5 (.pointer (some ((⟨b,0,none⟩:Addr).add 0))) a (.int .u8 i)∧
 cond (decide (i<128))
 (Q (.tuple #[.slice none 0 0,.int .i64 14]) a)
 (∃ q j r,Ld Tryz.prog 22 (.pointer (some ((⟨b,0,none⟩:Addr).add 2))) a (.slice q j r)∧
 cond (decide (((j:Nat):Int) > 255))
 (Q (.tuple #[.slice none 0 0,.int .i64 15]) a)
 (∃ k c l,Ld Tryz.prog 22 (.pointer (some ((⟨b,0,none⟩:Addr).add 3))) a (.slice k c l)∧
 cond (decide (((c:Nat):Int) > 255))
 (Q (.tuple #[.slice none 0 0,.int .i64 15]) a)
 (Xb0 (⟨b,0,none⟩:Addr) none 0 0 0 a Q)))
def Xl6:Nat→List (Nat×TypeId):=fun _=>[]
theorem XiD (e:Int) (a:Int) (f:Option Addr) (g:Nat) (i:Nat) (b:Option Addr) (c:Nat) (d:Nat) (w:World) (Q:VWP) (h:XhH e a f g i b c d w Q):Xa Tryz.prog 189 #[.agg #[.int .u8 e,.int .u32 a,.slice f g i,.slice b c d]] w Q:=
 Xc Xl6 Tryz.func189 h (fun _ _=>by kernel_rfl) (by kernel_rfl) (by kernel_rfl) (by kernel_rfl)
end Go.Sh
end

section
namespace Go.Sh
open Go Go.Fw Go.Proofs
set_option maxRecDepth 100000
set_option linter.unusedVariables false
def Xp8 (F:Int) (m:Int) (G:Option Addr) (H:Nat) (I:Nat) (n:Option Addr) (o:Nat) (p:Nat) (w:World) (Q:VWP):Prop:=
 New #[.int .u8 F,.int .u32 m,.slice G H I,.slice n o p] 36 w fun c J=>
 ∃ r,Pu Tryz.prog (zeroValue 122) r∧
 New r.cells 122 J fun s L=>
 ∃ (a:World→Prop),
 Drw L fun b=>
 ∃ t,HLd Tryz.prog a 5 (.pointer (some ((⟨c,0,none⟩:Addr).add 0))) b (.int .u8 t)∧
 ∃ u,HLd Tryz.prog a 34 (.pointer (some ((⟨c,0,none⟩:Addr).add 1))) b (.int .u32 u)∧
 ∃ v x y,HLd Tryz.prog a 22 (.pointer (some ((⟨c,0,none⟩:Addr).add 2))) b (.slice v x y)∧
 ∃ f g i,HLd Tryz.prog a 22 (.pointer (some ((⟨c,0,none⟩:Addr).add 3))) b (.slice f g i)∧
 Xa Tryz.prog 19 #[.slice v x y] b fun M d=>
 ∃ z A B,M=.slice z A B∧
 (d=b∨a d)∧
 Xa Tryz.prog 19 #[.slice f g i] d fun C q=>
 ∃ j k l,C=.slice j k l∧
 (q=d∨a q)∧
 ∃ e,Sto Tryz.prog 122 (.pointer (some ⟨s,0,none⟩)) (.agg #[.int .u8 t,.int .u32 u,.slice z A B,.slice j k l]) q e∧
 ∃ D E,(.pointer (some ⟨s,0,none⟩):Value)=.pointer (some D)∧(loadVar 122 D).run Tryz.prog e=.ok E e∧
 Q (E) e
def XrI:Nat→List (Nat×TypeId):=fun _=>[]
theorem Xob (e:Int) (a:Int) (f:Option Addr) (g:Nat) (i:Nat) (b:Option Addr) (c:Nat) (d:Nat) (w:World) (Q:VWP) (h:Xp8 e a f g i b c d w Q):Xa Tryz.prog 94 #[.agg #[.int .u8 e,.int .u32 a,.slice f g i,.slice b c d]] w Q:=
 Xc XrI Tryz.func94 h (fun _ _=>by kernel_rfl) (by kernel_rfl) (by kernel_rfl) (by kernel_rfl)
end Go.Sh
end

section
namespace Go.Sh
open Go Go.Fw Go.Proofs
set_option maxRecDepth 100000
set_option linter.unusedVariables false
def Xb1 (x:Addr) (H:Int) (D:Addr) (E:Option Addr) (y:Nat) (F:Nat) (w:World) (Q:VWP):Prop:=
 Xa Tryz.prog 47 #[.slice E y F] w fun z G=>
 ∃ e,z=.pointer e∧
 ∃ (f:World→Prop),
 Drw G fun u=>
 ∃ k a l m n b c d,HLd Tryz.prog f 36 (.pointer (some D)) u (.agg #[.int .u8 k,.int .u32 a,.slice l m n,.slice b c d])∧
 Xa Tryz.prog 48 #[.pointer e,.int .i64 (IntKind.i64.wrap (((y:Nat):Int) - 16))] u fun A i=>
 ∃ o p q,A=.slice o p q∧
 (i=u∨f i)∧
 Xa Tryz.prog 49 #[.pointer e] i fun B v=>
 ∃ r s t,B=.slice r s t∧
 (v=i∨f v)∧
 ∃ j,Sto Tryz.prog 68 (.pointer (some x)) (.agg #[.int .u8 k,.int .u32 a,.slice l m n,.slice b c d,.slice o p q,.slice r s t]) v j∧
 ∃ g C,(.pointer (some x):Value)=.pointer (some g)∧(loadVar 68 g).run Tryz.prog j=.ok C j∧
 Q (.tuple #[C,.int .i64 0]) j
def Jm (a:Addr) (C:Int) (u:Addr) (D:Option Addr) (x:Nat) (E:Nat) (y:Bool) (w:World) (Q:VWP):Prop:=
 cond y
 (∃ g,Sto Tryz.prog 68 (.pointer (some a)) (.agg #[.int .u8 0,.int .u32 0,.slice none 0 0,.slice none 0 0,.slice none 0 0,.slice none 0 0]) w g∧
 ∃ b z,(.pointer (some a):Value)=.pointer (some b)∧(loadVar 68 b).run Tryz.prog g=.ok z g∧
 Q (.tuple #[z,.int .i64 14]) g)
 (∃ k l m,Ld Tryz.prog 22 (.pointer (some (u.add 2))) w (.slice k l m)∧
 ∃ n o p,Ld Tryz.prog 22 (.pointer (some (u.add 3))) w (.slice n o p)∧
 ∃ q r s A,Ef Tryz.prog (Instr.buildSlice 161 2 #[(0,.slice k l m),(1,.slice n o p)]) w (.slice q r s) A∧
 Xa Tryz.prog 46 #[.slice q r s] A fun B v=>
 ∃ t,B=.bool t∧
 cond t
 (∃ i,Sto Tryz.prog 68 (.pointer (some a)) (.agg #[.int .u8 0,.int .u32 0,.slice none 0 0,.slice none 0 0,.slice none 0 0,.slice none 0 0]) v i∧
 ∃ c d,(.pointer (some a):Value)=.pointer (some c)∧(loadVar 68 c).run Tryz.prog i=.ok d i∧
 Q (.tuple #[d,.int .i64 15]) i)
 (cond (decide (((x:Nat):Int)≤16))
 (∃ j,Sto Tryz.prog 68 (.pointer (some a)) (.agg #[.int .u8 0,.int .u32 0,.slice none 0 0,.slice none 0 0,.slice none 0 0,.slice none 0 0]) v j∧
 ∃ e f,(.pointer (some a):Value)=.pointer (some e)∧(loadVar 68 e).run Tryz.prog j=.ok f j∧
 Q (.tuple #[f,.int .i64 12]) j)
 (Xb1 a C u D x E v Q)))
def XhI (B:Option Addr) (C:Nat) (D:Nat) (w:World) (Q:VWP):Prop:=
 ∃ u,Pu Tryz.prog (zeroValue 68) u∧
 New u.cells 68 w fun l E=>
 Xa Tryz.prog 44 #[.slice B C D] E fun v F=>
 ∃ n e o p q f g i a b c d,v=.tuple #[.agg #[.int .u8 n,.int .u32 e,.slice o p q,.slice f g i],.slice a b c,.int .i64 d]∧
 ∃ x,Pu Tryz.prog (zeroValue 36) x∧
 New x.cells 36 F fun k G=>
 ∃ j,Sto Tryz.prog 36 (.pointer (some ⟨k,0,none⟩)) (.agg #[.int .u8 n,.int .u32 e,.slice o p q,.slice f g i]) G j∧
 cond (d != 0)
 (∃ m,Sto Tryz.prog 68 (.pointer (some ⟨l,0,none⟩)) (.agg #[.int .u8 0,.int .u32 0,.slice none 0 0,.slice none 0 0,.slice none 0 0,.slice none 0 0]) j m∧
 ∃ y z,(.pointer (some ⟨l,0,none⟩):Value)=.pointer (some y)∧(loadVar 68 y).run Tryz.prog m=.ok z m∧
 Q (.tuple #[z,.int .i64 d]) m)
 (∃ r,Ld Tryz.prog 34 (.pointer (some ((⟨k,0,none⟩:Addr).add 1))) j (.int .u32 r)∧
 cond (r != 1)
 (Jm (⟨l,0,none⟩:Addr) 0 (⟨k,0,none⟩:Addr) a b c true j Q)
 (∃ s,Ld Tryz.prog 5 (.pointer (some ((⟨k,0,none⟩:Addr).add 0))) j (.int .u8 s)∧
 Xa Tryz.prog 45 #[.int .u8 s] j fun A H=>
 ∃ t,A=.int .i64 t∧
 Jm (⟨l,0,none⟩:Addr) 0 (⟨k,0,none⟩:Addr) a b c (t != 3) H Q))
def Xl7:Nat→List (Nat×TypeId):=fun _=>[]
theorem XiE (a:Option Addr) (b:Nat) (c:Nat) (w:World) (Q:VWP) (h:XhI a b c w Q):Xa Tryz.prog 22 #[.slice a b c] w Q:=
 Xc Xl7 Tryz.func22 h (fun _ _=>by kernel_rfl) (by kernel_rfl) (by kernel_rfl) (by kernel_rfl)
def XhJ (F:Option Addr) (C:Nat) (G:Nat) (O:Option Addr) (P:Nat) (R:Nat) (w:World) (Q:VWP):Prop:=
 Xa Tryz.prog 22 #[.slice F C G] w fun H S=>
 ∃ n b o p q c d e f g i j k l a,H=.tuple #[.agg #[.int .u8 n,.int .u32 b,.slice o p q,.slice c d e,.slice f g i,.slice j k l],.int .i64 a]∧
 ∃ I,Pu Tryz.prog (zeroValue 68) I∧
 New I.cells 68 S fun J T=>
 ∃ D,Sto Tryz.prog 68 (.pointer (some ⟨J,0,none⟩)) (.agg #[.int .u8 n,.int .u32 b,.slice o p q,.slice c d e,.slice f g i,.slice j k l]) T D∧
 cond (a != 0)
 (Q (.int .i64 a) D)
 (∃ r s t,Pu Tryz.prog (Instr.sliceAt 22 (.slice F C G) none (some (.int .i64 (IntKind.i64.wrap (((C:Nat):Int) - 16)))) none) (.slice r s t)∧
 Xa Tryz.prog 50 #[.slice O P R,.slice r s t] D fun L E=>
 ∃ u v x m,L=.tuple #[.slice u v x,.int .i64 m]∧
 cond (m == 0)
 (∃ y z A,Ld Tryz.prog 22 (.pointer (some ((⟨J,0,none⟩:Addr).add 5))) E (.slice y z A)∧
 Xa Tryz.prog 51 #[.slice u v x,.slice y z A] E fun M N=>
 ∃ B,M=.bool B∧
 cond (!B)
 (Q (.int .i64 13) N)
 (Q (.int .i64 m) N))
 (Q (.int .i64 m) E))
def Xl8:Nat→List (Nat×TypeId):=fun _=>[]
theorem XiF (a:Option Addr) (b:Nat) (c:Nat) (d:Option Addr) (e:Nat) (f:Nat) (w:World) (Q:VWP) (h:XhJ a b c d e f w Q):Xa Tryz.prog 24 #[.slice a b c,.slice d e f] w Q:=
 Xc Xl8 Tryz.func24 h (fun _ _=>by kernel_rfl) (by kernel_rfl) (by kernel_rfl) (by kernel_rfl)
def Xkv (o:Option Addr) (j:Nat) (p:Nat) (w:World) (Q:VWP):Prop:=
 LoopS [.bool false,.slice o j p,.int .i64 ((j:Nat):Int),.int .i64 0] w fun q r c _ a=>
 ∃ k e f g i b,c=[.bool k,.slice e f g,.int .i64 i,.int .i64 b]∧
 cond (decide (b<i))
 (∃ l,IxA Tryz.prog 161 (.slice e f g) (.int .i64 b) l∧
 ∃ m d n,Ld Tryz.prog 22 (.pointer (some l)) a (.slice m d n)∧
 cond (decide (((d:Nat):Int) > 20))
 (Q (.bool true) a)
 (Xh [] [] q r c [.bool k,.slice e f g,.int .i64 i,.int .i64 (IntKind.i64.wrap (b+1))] a a))
 (Q (.bool false) a)
def Xoc:Nat→List (Nat×TypeId):=fun n=>match n with | 0=>[(2,4),(5,161),(6,3),(7,3)] | _=>[]
theorem Xkw (a:Option Addr) (b:Nat) (c:Nat) (w:World) (Q:VWP) (h:Xkv a b c w Q):Xa Tryz.prog 46 #[.slice a b c] w Q:=
 Xc Xoc Tryz.func46 h (fun _ _=>by kernel_rfl) (by kernel_rfl) (by kernel_rfl) (by kernel_rfl)
def Xb2 (J:Option Addr) (L:Nat) (M:Nat) (N:Option Addr) (O:Nat) (P:Nat) (Z:Option Addr) (aa:Nat) (ab:Nat) (ac:Int) (w:World) (Q:VWP):Prop:=
 Xa Tryz.prog 87 #[.string (⟨#[98,101,48,99,54,57,48,98,57,102,54,54,53,55,53,97,49,100,55,54,54,98,53,52,101,51,54,56,99,56,52,101]⟩:ByteArray)] w fun v R=>
 ∃ a b c x,v=.tuple #[.slice a b c,.int .i64 x]∧
 Xa Tryz.prog 87 #[.string (⟨#[52,54,49,53,57,57,100,51,53,100,54,51,50,98,102,50,50,51,57,56,50,53,98,98]⟩:ByteArray)] R fun y S=>
 ∃ d e f z,y=.tuple #[.slice d e f,.int .i64 z]∧
 Xa Tryz.prog 69 #[.slice a b c] S fun A T=>
 ∃ g B,A=.tuple #[.pointer g,.int .i64 B]∧
 Xa Tryz.prog 88 #[] T fun C U=>
 ∃ i,C=.pointer i∧
 Xa Tryz.prog 89 #[.pointer i,.slice J L M] U fun D V=>
 ∃ j,D=.pointer j∧
 ∃ k l m E,Ef Tryz.prog (Instr.buildSlice 161 1 #[(0,.slice N O P)]) V (.slice k l m) E∧
 Xa Tryz.prog 90 #[.pointer j,.slice k l m] E fun F W=>
 ∃ n,F=.pointer n∧
 Xa Tryz.prog 91 #[.pointer n] W fun G X=>
 ∃ o p q H,G=.tuple #[.slice o p q,.int .i64 H]∧
 Xa Tryz.prog 92 #[.pointer g,.slice d e f,.slice none 0 0,.slice o p q] X fun I Y=>
 ∃ r s t u,I=.tuple #[.slice r s t,.int .i64 u]∧
 Q (.tuple #[.slice r s t,.int .i64 u]) Y
def XhK (f:Option Addr) (g:Nat) (i:Nat) (m:Option Addr) (j:Nat) (n:Nat) (w:World) (Q:VWP):Prop:=
 ∃ a b c k,Ef Tryz.prog (Instr.buildSlice 161 1 #[(0,.slice f g i)]) w (.slice a b c) k∧
 Xa Tryz.prog 46 #[.slice a b c] k fun l e=>
 ∃ d,l=.bool d∧
 cond d
 (Q (.tuple #[.slice none 0 0,.int .i64 15]) e)
 (cond (decide (((j:Nat):Int) > 65000))
 (Q (.tuple #[.slice none 0 0,.int .i64 11]) e)
 (Xb2 f g i m j n none 0 0 0 e Q))
def Xl9:Nat→List (Nat×TypeId):=fun _=>[]
theorem XiG (a:Option Addr) (b:Nat) (c:Nat) (d:Option Addr) (e:Nat) (f:Nat) (w:World) (Q:VWP) (h:XhK a b c d e f w Q):Xa Tryz.prog 50 #[.slice a b c,.slice d e f] w Q:=
 Xc Xl9 Tryz.func50 h (fun _ _=>by kernel_rfl) (by kernel_rfl) (by kernel_rfl) (by kernel_rfl)
def XdT (C:Option Addr) (D:Nat) (E:Nat) (F:Option Addr) (G:Nat) (H:Nat) (I:Option Addr) (J:Nat) (L:Nat) (M:Option Addr) (N:Nat) (O:Nat) (U:Option Addr) (V:Nat) (W:Nat) (X:Int) (w:World) (Q:VWP):Prop:=
 Xa Tryz.prog 149 #[.agg #[.int .u8 255,.int .u32 1,.slice C D E,.slice F G H]] w fun t P=>
 ∃ d e f u,t=.tuple #[.slice d e f,.int .i64 u]∧
 ∃ g i j v,Ef Tryz.prog (Instr.buildSlice 161 2 #[(0,.slice d e f),(1,.slice M N O)]) P (.slice g i j) v∧
 Xa Tryz.prog 118 #[.slice g i j] v fun x R=>
 ∃ a b c,x=.slice a b c∧
 Xa Tryz.prog 50 #[.slice I J L,.slice a b c] R fun y S=>
 ∃ k l m z,y=.tuple #[.slice k l m,.int .i64 z]∧
 ∃ n o p A,Ef Tryz.prog (Instr.buildSlice 161 2 #[(0,.slice a b c),(1,.slice k l m)]) S (.slice n o p) A∧
 Xa Tryz.prog 118 #[.slice n o p] A fun B T=>
 ∃ q r s,B=.slice q r s∧
 Q (.tuple #[.slice q r s,.int .i64 0]) T
def Xkx (g:Option Addr) (i:Nat) (j:Nat) (k:Option Addr) (l:Nat) (m:Nat) (n:Option Addr) (o:Nat) (p:Nat) (s:Option Addr) (f:Nat) (t:Nat) (w:World) (Q:VWP):Prop:=
 ∃ b c d q,Ef Tryz.prog (Instr.buildSlice 161 3 #[(0,.slice g i j),(1,.slice k l m),(2,.slice n o p)]) w (.slice b c d) q∧
 Xa Tryz.prog 46 #[.slice b c d] q fun r a=>
 ∃ e,r=.bool e∧
 cond e
 (Q (.tuple #[.slice none 0 0,.int .i64 15]) a)
 (cond (decide (((f:Nat):Int)<1))
 (Q (.tuple #[.slice none 0 0,.int .i64 11]) a)
 (cond (decide (((f:Nat):Int) > 4096))
 (Q (.tuple #[.slice none 0 0,.int .i64 11]) a)
 (XdT g i j k l m n o p s f t none 0 0 0 a Q)))
def Xod:Nat→List (Nat×TypeId):=fun _=>[]
theorem Xky (a:Option Addr) (b:Nat) (c:Nat) (d:Option Addr) (e:Nat) (f:Nat) (g:Option Addr) (i:Nat) (j:Nat) (k:Option Addr) (l:Nat) (m:Nat) (w:World) (Q:VWP) (h:Xkx a b c d e f g i j k l m w Q):Xa Tryz.prog 114 #[.slice a b c,.slice d e f,.slice g i j,.slice k l m] w Q:=
 Xc Xod Tryz.func114 h (fun _ _=>by kernel_rfl) (by kernel_rfl) (by kernel_rfl) (by kernel_rfl)
end Go.Sh
end
