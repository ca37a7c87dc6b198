/- A part of a proof of a given law of this program: lemmas, printed forms of its functions, contracts. It has no conditions of its own. -/
import Derived.Test.YtlnohlefimgdnaaGreatDoorProg
import Derived.Test.YtlnohlefimgdnaaGreatDoorMW0

set_option maxHeartbeats 16000000
section
namespace Go.Sh
open Go Go.Fw Go.Proofs
set_option maxRecDepth 100000
set_option linter.unusedVariables false
def Xge (r:Array Value) (w:World) (Q:VWP):Prop:=
 New r 189 w fun A B=>
 ∃ s t u v,Ef Tryz.prog (Instr.makeSlice 23 (.int .i64 16) (.int .i64 16)) B (.slice s t u) v∧
 LoopS [.pointer (some ⟨A,0,none⟩),.slice none 0 0,.slice s t u,.int .i64 0] v fun x y f _ a=>
 ∃ g o p q c d e b,f=[.pointer (some g),.slice o p q,.slice c d e,.int .i64 b]∧
 cond (decide (b<128))
 (∃ i,IxA Tryz.prog 189 (.pointer (some g)) (.int .i64 b) i∧
 ∃ j,Ld Tryz.prog 4 (.pointer (some i)) a (.bool j)∧
 cond j
 (∃ k,IxA Tryz.prog 23 (.slice c d e) (.int .i64 (IntKind.i64.wrap (Int.tdiv b 8))) k∧
 ∃ l,Ld Tryz.prog 5 (.pointer (some k)) a (.int .u8 l)∧
 ∃ m,Pu Tryz.prog (do eqGuard .shl 5 (.const (.int .u8 1)) (.tmp 21) (.int .u8 1) (.int .u64 (IntKind.u64.wrap (IntKind.i64.wrap (7 - (Int.tmod b 8))))); binOp .shl 5 (.int .u8 1) (.int .u64 (IntKind.u64.wrap (IntKind.i64.wrap (7 - (Int.tmod b 8))))):Sem Value) (.int .u8 m)∧
 ∃ n,IxA Tryz.prog 23 (.slice c d e) (.int .i64 (IntKind.i64.wrap (Int.tdiv b 8))) n∧
 ∃ z,Sto Tryz.prog 5 (.pointer (some n)) (.int .u8 (ior .u8 l m)) a z∧
 Xj [] [] x y f [.pointer (some g),.slice o p q,.slice c d e,.int .i64 (IntKind.i64.wrap (b+1))] a z)
 (Xj [] [] x y f [.pointer (some g),.slice o p q,.slice c d e,.int .i64 (IntKind.i64.wrap (b+1))] a a))
 (Q (.slice c d e) a)
def Xkf:Nat→List (Nat×TypeId):=fun n=>match n with | 0=>[(1,1000000),(2,23),(3,23),(4,3)] | _=>[]
theorem Xg6 (a:Array Value) (w:World) (Q:VWP) (h:Xge a w Q):Xa Tryz.prog 117 #[.agg a] w Q:=
 Xd Xkf Tryz.func117 h (fun _ _=>by kernel_rfl) (by kernel_rfl) (by kernel_rfl) (by kernel_rfl)
def Xgf (d:Addr) (f:Addr) (w:World) (Q:VWP):Prop:=
 ∃ (a:Array Value),Ld Tryz.prog 189 (.pointer (some f)) w (.agg a)∧
 ∃ c,Sto Tryz.prog 189 (.pointer (some d)) (.agg a) w c∧
 ∃ b e,(.pointer (some d):Value)=.pointer (some b)∧(loadVar 189 b).run Tryz.prog c=.ok e c∧
 Q (e) c
def Xob (s:Option Addr) (t:Nat) (u:Nat) (w:World) (Q:VWP):Prop:=
 ∃ n,Pu Tryz.prog (zeroValue 189) n∧
 New n.cells 189 w fun v x=>
 ∃ o,Pu Tryz.prog (zeroValue 189) o∧
 New o.cells 189 x fun p y=>
 ∃ q,Sto Tryz.prog 189 (.pointer (some ⟨p,0,none⟩)) (.agg #[.bool false,.bool false,.bool false,.bool false,.bool false,.bool false,.bool false,.bool false,.bool false,.bool false,.bool false,.bool false,.bool false,.bool false,.bool false,.bool false,.bool false,.bool false,.bool false,.bool false,.bool false,.bool false,.bool false,.bool false,.bool false,.bool false,.bool false,.bool false,.bool false,.bool false,.bool false,.bool false,.bool false,.bool false,.bool false,.bool false,.bool false,.bool false,.bool false,.bool false,.bool false,.bool false,.bool false,.bool false,.bool false,.bool false,.bool false,.bool false,.bool false,.bool false,.bool false,.bool false,.bool false,.bool false,.bool false,.bool false,.bool false,.bool false,.bool false,.bool false,.bool false,.bool false,.bool false,.bool false,.bool false,.bool false,.bool false,.bool false,.bool false,.bool false,.bool false,.bool false,.bool false,.bool false,.bool false,.bool false,.bool false,.bool false,.bool false,.bool false,.bool false,.bool false,.bool false,.bool false,.bool false,.bool false,.bool false,.bool false,.bool false,.bool false,.bool false,.bool false,.bool false,.bool false,.bool false,.bool false,.bool false,.bool false,.bool false,.bool false,.bool false,.bool false,.bool false,.bool false,.bool false,.bool false,.bool false,.bool false,.bool false,.bool false,.bool false,.bool false,.bool false,.bool false,.bool false,.bool false,.bool false,.bool false,.bool false,.bool false,.bool false,.bool false,.bool false,.bool false,.bool false,.bool false,.bool false,.bool false]) y q∧
 LoopS [.slice s t u,.pointer (some ⟨v,0,none⟩),.pointer (some ⟨p,0,none⟩),.int .i64 0] q fun z A i _ e=>
 ∃ a b c m g d,i=[.slice a b c,.pointer (some m),.pointer (some g),.int .i64 d]∧
 cond (decide (d<128))
 (∃ j,IxA Tryz.prog 23 (.slice a b c) (.int .i64 (IntKind.i64.wrap (Int.tdiv d 8))) j∧
 ∃ f,Ld Tryz.prog 5 (.pointer (some j)) e (.int .u8 f)∧
 ∃ k,Pu Tryz.prog (do eqGuard .shr 5 (.tmp 15) (.tmp 19) (.int .u8 f) (.int .u64 (IntKind.u64.wrap (IntKind.i64.wrap (7 - (Int.tmod d 8))))); binOp .shr 5 (.int .u8 f) (.int .u64 (IntKind.u64.wrap (IntKind.i64.wrap (7 - (Int.tmod d 8))))):Sem Value) (.int .u8 k)∧
 ∃ l,IxA Tryz.prog 189 (.pointer (some g)) (.int .i64 d) l∧
 ∃ r,Sto Tryz.prog 4 (.pointer (some l)) (.bool ((Int.tmod k 2) == 1)) e r∧
 Xj [] [] z A i [.slice a b c,.pointer (some m),.pointer (some g),.int .i64 (IntKind.i64.wrap (d+1))] e r)
 (Xgf m g e Q)
def Xps:Nat→List (Nat×TypeId):=fun n=>match n with | 0=>[(0,23),(2,1000000),(3,1000000),(4,3)] | _=>[]
theorem XlU (a:Option Addr) (b:Nat) (c:Nat) (w:World) (Q:VWP) (h:Xob a b c w Q):Xa Tryz.prog 119 #[.slice a b c] w Q:=
 Xd Xps Tryz.func119 h (fun _ _=>by kernel_rfl) (by kernel_rfl) (by kernel_rfl) (by kernel_rfl)
def XeF (d:Addr) (f:Addr) (w:World) (Q:VWP):Prop:=
 ∃ (a:Array Value),Ld Tryz.prog 189 (.pointer (some f)) w (.agg a)∧
 ∃ c,Sto Tryz.prog 189 (.pointer (some d)) (.agg a) w c∧
 ∃ b e,(.pointer (some d):Value)=.pointer (some b)∧(loadVar 189 b).run Tryz.prog c=.ok e c∧
 Q (e) c
def XeG (o:Addr) (p:Addr) (w:World) (Q:VWP):Prop:=
 ∃ k,Pu Tryz.prog (zeroValue 189) k∧
 New k.cells 189 w fun l q=>
 ∃ m,Sto Tryz.prog 189 (.pointer (some ⟨l,0,none⟩)) (.agg #[.bool false,.bool false,.bool false,.bool false,.bool false,.bool false,.bool false,.bool false,.bool false,.bool false,.bool false,.bool false,.bool false,.bool false,.bool false,.bool false,.bool false,.bool false,.bool false,.bool false,.bool false,.bool false,.bool false,.bool false,.bool false,.bool false,.bool false,.bool false,.bool false,.bool false,.bool false,.bool false,.bool false,.bool false,.bool false,.bool false,.bool false,.bool false,.bool false,.bool false,.bool false,.bool false,.bool false,.bool false,.bool false,.bool false,.bool false,.bool false,.bool false,.bool false,.bool false,.bool false,.bool false,.bool false,.bool false,.bool false,.bool false,.bool false,.bool false,.bool false,.bool false,.bool false,.bool false,.bool false,.bool false,.bool false,.bool false,.bool false,.bool false,.bool false,.bool false,.bool false,.bool false,.bool false,.bool false,.bool false,.bool false,.bool false,.bool false,.bool false,.bool false,.bool false,.bool false,.bool false,.bool false,.bool false,.bool false,.bool false,.bool false,.bool false,.bool false,.bool false,.bool false,.bool false,.bool false,.bool false,.bool false,.bool false,.bool false,.bool false,.bool false,.bool false,.bool false,.bool false,.bool false,.bool false,.bool false,.bool false,.bool false,.bool false,.bool false,.bool false,.bool false,.bool false,.bool false,.bool false,.bool false,.bool false,.bool false,.bool false,.bool false,.bool false,.bool false,.bool false,.bool false,.bool false,.bool false,.bool false]) q m∧
 LoopS [.pointer (some o),.pointer (some p),.pointer (some ⟨l,0,none⟩),.int .i64 0] m fun r s f _ d=>
 ∃ b c e a,f=[.pointer (some b),.pointer (some c),.pointer (some e),.int .i64 a]∧
 cond (decide (a<128))
 (∃ g,IxA Tryz.prog 388 (.pointer (some c)) (.int .i64 a) g∧
 ∃ i,Ld Tryz.prog 4 (.pointer (some g)) d (.bool i)∧
 ∃ j,IxA Tryz.prog 189 (.pointer (some e)) (.int .i64 a) j∧
 ∃ n,Sto Tryz.prog 4 (.pointer (some j)) (.bool i) d n∧
 Xj [] [] r s f [.pointer (some b),.pointer (some c),.pointer (some e),.int .i64 (IntKind.i64.wrap (a+1))] d n)
 (XeF b e d Q)
def XeH (D:Addr) (E:Addr) (w:World) (Q:VWP):Prop:=
 LoopS [.pointer (some D),.pointer (some E),.int .i64 254] w fun A B e _ c=>
 ∃ d a b,e=[.pointer (some d),.pointer (some a),.int .i64 b]∧
 cond (decide (b≥128))
 (∃ f,IxA Tryz.prog 388 (.pointer (some a)) (.int .i64 b) f∧
 ∃ g,Ld Tryz.prog 4 (.pointer (some f)) c (.bool g)∧
 cond g
 (∃ i,IxA Tryz.prog 388 (.pointer (some a)) (.int .i64 b) i∧
 ∃ v,Sto Tryz.prog 4 (.pointer (some i)) (.bool false) c v∧
 ∃ j,IxA Tryz.prog 388 (.pointer (some a)) (.int .i64 (IntKind.i64.wrap (b - 128))) j∧
 ∃ k,Ld Tryz.prog 4 (.pointer (some j)) v (.bool k)∧
 ∃ l,IxA Tryz.prog 388 (.pointer (some a)) (.int .i64 (IntKind.i64.wrap (b - 128))) l∧
 ∃ x,Sto Tryz.prog 4 (.pointer (some l)) (.bool (!k)) v x∧
 ∃ m,IxA Tryz.prog 388 (.pointer (some a)) (.int .i64 (IntKind.i64.wrap (b - 127))) m∧
 ∃ n,Ld Tryz.prog 4 (.pointer (some m)) x (.bool n)∧
 ∃ o,IxA Tryz.prog 388 (.pointer (some a)) (.int .i64 (IntKind.i64.wrap (b - 127))) o∧
 ∃ y,Sto Tryz.prog 4 (.pointer (some o)) (.bool (!n)) x y∧
 ∃ p,IxA Tryz.prog 388 (.pointer (some a)) (.int .i64 (IntKind.i64.wrap (b - 126))) p∧
 ∃ q,Ld Tryz.prog 4 (.pointer (some p)) y (.bool q)∧
 ∃ r,IxA Tryz.prog 388 (.pointer (some a)) (.int .i64 (IntKind.i64.wrap (b - 126))) r∧
 ∃ z,Sto Tryz.prog 4 (.pointer (some r)) (.bool (!q)) y z∧
 ∃ s,IxA Tryz.prog 388 (.pointer (some a)) (.int .i64 (IntKind.i64.wrap (b - 121))) s∧
 ∃ t,Ld Tryz.prog 4 (.pointer (some s)) z (.bool t)∧
 ∃ u,IxA Tryz.prog 388 (.pointer (some a)) (.int .i64 (IntKind.i64.wrap (b - 121))) u∧
 ∃ C,Sto Tryz.prog 4 (.pointer (some u)) (.bool (!t)) z C∧
 Xj [] [] A B e [.pointer (some d),.pointer (some a),.int .i64 (IntKind.i64.wrap (b - 1))] c C)
 (Xj [] [] A B e [.pointer (some d),.pointer (some a),.int .i64 (IntKind.i64.wrap (b - 1))] c c))
 (XeG d a c Q)
def XkY (z:Array Value) (A:Array Value) (w:World) (Q:VWP):Prop:=
 New z 189 w fun J L=>
 New A 189 L fun M N=>
 ∃ B,Pu Tryz.prog (zeroValue 189) B∧
 New B.cells 189 N fun O P=>
 ∃ C,Pu Tryz.prog (zeroValue 388) C∧
 New C.cells 388 P fun D R=>
 ∃ E,Sto Tryz.prog 388 (.pointer (some ⟨D,0,none⟩)) (.agg #[.bool false,.bool false,.bool false,.bool false,.bool false,.bool false,.bool false,.bool false,.bool false,.bool false,.bool false,.bool false,.bool false,.bool false,.bool false,.bool false,.bool false,.bool false,.bool false,.bool false,.bool false,.bool false,.bool false,.bool false,.bool false,.bool false,.bool false,.bool false,.bool false,.bool false,.bool false,.bool false,.bool false,.bool false,.bool false,.bool false,.bool false,.bool false,.bool false,.bool false,.bool false,.bool false,.bool false,.bool false,.bool false,.bool false,.bool false,.bool false,.bool false,.bool false,.bool false,.bool false,.bool false,.bool false,.bool false,.bool false,.bool false,.bool false,.bool false,.bool false,.bool false,.bool false,.bool false,.bool false,.bool false,.bool false,.bool false,.bool false,.bool false,.bool false,.bool false,.bool false,.bool false,.bool false,.bool false,.bool false,.bool false,.bool false,.bool false,.bool false,.bool false,.bool false,.bool false,.bool false,.bool false,.bool false,.bool false,.bool false,.bool false,.bool false,.bool false,.bool false,.bool false,.bool false,.bool false,.bool false,.bool false,.bool false,.bool false,.bool false,.bool false,.bool false,.bool false,.bool false,.bool false,.bool false,.bool false,.bool false,.bool false,.bool false,.bool false,.bool false,.bool false,.bool false,.bool false,.bool false,.bool false,.bool false,.bool false,.bool false,.bool false,.bool false,.bool false,.bool false,.bool false,.bool false,.bool false,.bool false,.bool false,.bool false,.bool false,.bool false,.bool false,.bool false,.bool false,.bool false,.bool false,.bool false,.bool false,.bool false,.bool false,.bool false,.bool false,.bool false,.bool false,.bool false,.bool false,.bool false,.bool false,.bool false,.bool false,.bool false,.bool false,.bool false,.bool false,.bool false,.bool false,.bool false,.bool false,.bool false,.bool false,.bool false,.bool false,.bool false,.bool false,.bool false,.bool false,.bool false,.bool false,.bool false,.bool false,.bool false,.bool false,.bool false,.bool false,.bool false,.bool false,.bool false,.bool false,.bool false,.bool false,.bool false,.bool false,.bool false,.bool false,.bool false,.bool false,.bool false,.bool false,.bool false,.bool false,.bool false,.bool false,.bool false,.bool false,.bool false,.bool false,.bool false,.bool false,.bool false,.bool false,.bool false,.bool false,.bool false,.bool false,.bool false,.bool false,.bool false,.bool false,.bool false,.bool false,.bool false,.bool false,.bool false,.bool false,.bool false,.bool false,.bool false,.bool false,.bool false,.bool false,.bool false,.bool false,.bool false,.bool false,.bool false,.bool false,.bool false,.bool false,.bool false,.bool false,.bool false,.bool false,.bool false,.bool false,.bool false,.bool false,.bool false,.bool false,.bool false,.bool false,.bool false,.bool false,.bool false,.bool false,.bool false,.bool false,.bool false,.bool false,.bool false,.bool false,.bool false,.bool false,.bool false,.bool false]) R E∧
 LoopS [.pointer (some ⟨J,0,none⟩),.pointer (some ⟨M,0,none⟩),.pointer (some ⟨O,0,none⟩),.pointer (some ⟨D,0,none⟩),.int .i64 0] E fun F G j _ c=>
 ∃ m y n o k,j=[.pointer (some m),.pointer (some y),.pointer (some n),.pointer (some o),.int .i64 k]∧
 cond (decide (k<128))
 (∃ p,IxA Tryz.prog 189 (.pointer (some m)) (.int .i64 k) p∧
 ∃ q,Ld Tryz.prog 4 (.pointer (some p)) c (.bool q)∧
 cond (!q)
 (Xj [] [] F G j [.pointer (some m),.pointer (some y),.pointer (some n),.pointer (some o),.int .i64 (IntKind.i64.wrap (k+1))] c c)
 (LoopS [.pointer (some m),.pointer (some y),.pointer (some n),.pointer (some o),.int .i64 k,.int .i64 0] c fun S T r _ l=>
 ∃ e d f a b g,r=[.pointer (some e),.pointer (some d),.pointer (some f),.pointer (some a),.int .i64 b,.int .i64 g]∧
 cond (decide (g<128))
 (∃ (H:World→Prop),
 Drw l fun i=>
 ∃ s,IxA Tryz.prog 388 (.pointer (some a)) (.int .i64 (IntKind.i64.wrap (b+g))) s∧
 ∃ t,IxA Tryz.prog 189 (.pointer (some d)) (.int .i64 g) t∧
 ∃ u,HLd Tryz.prog H 4 (.pointer (some s)) i (.bool u)∧
 ∃ v,Ld Tryz.prog 4 (.pointer (some t)) i (.bool v)∧
 (i=i∨H i)∧
 ∃ x,IxA Tryz.prog 388 (.pointer (some a)) (.int .i64 (IntKind.i64.wrap (b+g))) x∧
 ∃ I,Sto Tryz.prog 4 (.pointer (some x)) (.bool (!(u == v))) i I∧
 Xj [] [] S T r [.pointer (some e),.pointer (some d),.pointer (some f),.pointer (some a),.int .i64 b,.int .i64 (IntKind.i64.wrap (g+1))] l I)
 (Xj [] [] F G j [.pointer (some e),.pointer (some d),.pointer (some f),.pointer (some a),.int .i64 (IntKind.i64.wrap (b+1))] c l)))
 (XeH n o c Q)
def Xoc:Nat→List (Nat×TypeId):=fun n=>match n with | 0=>[(2,1000000),(3,1000000),(4,1000000),(5,1000000),(6,3)] | 2=>[(2,1000000),(3,1000000),(4,1000000),(5,1000000),(6,3),(7,3)] | 4=>[(4,1000000),(5,1000000),(8,3)] | 6=>[(4,1000000),(5,1000000),(9,1000000),(10,3)] | _=>[]
theorem Xkg (a:Array Value) (b:Array Value) (w:World) (Q:VWP) (h:XkY a b w Q):Xa Tryz.prog 175 #[.agg a,.agg b] w Q:=
 Xd Xoc Tryz.func175 h (fun _ _=>by kernel_rfl) (by kernel_rfl) (by kernel_rfl) (by kernel_rfl)
def XeI (f:Addr) (d:Addr) (w:World) (Q:VWP):Prop:=
 ∃ (a:Array Value),Ld Tryz.prog 189 (.pointer (some f)) w (.agg a)∧
 ∃ c,Sto Tryz.prog 189 (.pointer (some d)) (.agg a) w c∧
 ∃ b e,(.pointer (some d):Value)=.pointer (some b)∧(loadVar 189 b).run Tryz.prog c=.ok e c∧
 Q (e) c
def XkZ (n:Array Value) (o:Array Value) (w:World) (Q:VWP):Prop:=
 New n 189 w fun s t=>
 New o 189 t fun u v=>
 ∃ p,Pu Tryz.prog (zeroValue 189) p∧
 New p.cells 189 v fun x y=>
 LoopS [.pointer (some ⟨s,0,none⟩),.pointer (some ⟨u,0,none⟩),.pointer (some ⟨x,0,none⟩),.int .i64 0] y fun z A e _ c=>
 ∃ d l m a,e=[.pointer (some d),.pointer (some l),.pointer (some m),.int .i64 a]∧
 cond (decide (a<128))
 (∃ (q:World→Prop),
 Drw c fun b=>
 ∃ f,IxA Tryz.prog 189 (.pointer (some d)) (.int .i64 a) f∧
 ∃ g,IxA Tryz.prog 189 (.pointer (some l)) (.int .i64 a) g∧
 ∃ i,HLd Tryz.prog q 4 (.pointer (some f)) b (.bool i)∧
 ∃ j,Ld Tryz.prog 4 (.pointer (some g)) b (.bool j)∧
 (b=b∨q b)∧
 ∃ k,IxA Tryz.prog 189 (.pointer (some d)) (.int .i64 a) k∧
 ∃ r,Sto Tryz.prog 4 (.pointer (some k)) (.bool (!(i == j))) b r∧
 Xj [] [] z A e [.pointer (some d),.pointer (some l),.pointer (some m),.int .i64 (IntKind.i64.wrap (a+1))] c r)
 (XeI d m c Q)
def Xod:Nat→List (Nat×TypeId):=fun n=>match n with | 0=>[(2,1000000),(3,1000000),(4,1000000),(5,3)] | _=>[]
theorem Xkh (a:Array Value) (b:Array Value) (w:World) (Q:VWP) (h:XkZ a b w Q):Xa Tryz.prog 176 #[.agg a,.agg b] w Q:=
 Xd Xod Tryz.func176 h (fun _ _=>by kernel_rfl) (by kernel_rfl) (by kernel_rfl) (by kernel_rfl)
end Go.Sh
end

section
namespace Go.Sh
open Go Go.Fw Go.Proofs
set_option maxRecDepth 100000
set_option linter.unusedVariables false
def Xk0 (V:Option Addr) (W:Nat) (X:Nat) (Y:Option Addr) (C:Nat) (Z:Nat) (aa:Option Addr) (D:Nat) (ab:Nat) (w:World) (Q:VWP):Prop:=
 Xa Tryz.prog 115 #[.slice Y C Z] w fun ac ad=>
 ∃ E F G,ac=.slice E F G∧
 Xa Tryz.prog 115 #[.slice aa D ab] ad fun H ae=>
 ∃ c d e,H=.slice c d e∧
 ∃ f g i I,Ef Tryz.prog (Builtin.append_ #[185,185] 185 #[.slice E F G,.slice c d e]) ae (.slice f g i) I∧
 Xa Tryz.prog 116 #[.int .i64 ((C:Nat):Int)] I fun J af=>
 ∃ j k l,J=.slice j k l∧
 Xa Tryz.prog 116 #[.int .i64 ((D:Nat):Int)] af fun L ag=>
 ∃ m n o,L=.slice m n o∧
 ∃ p q r M,Ef Tryz.prog (Builtin.append_ #[23,23] 23 #[.slice j k l,.slice m n o]) ag (.slice p q r) M∧
 Xa Tryz.prog 115 #[.slice p q r] M fun N ah=>
 ∃ s t u,N=.slice s t u∧
 ∃ v x y O,Ef Tryz.prog (Builtin.append_ #[185,185] 185 #[.slice f g i,.slice s t u]) ah (.slice v x y) O∧
 Xa Tryz.prog 119 #[.slice V W X] O fun P ai=>
 ∃ (a:Array Value),P=.agg a∧
 Xa Tryz.prog 118 #[.agg a,.agg #[.bool false,.bool false,.bool false,.bool false,.bool false,.bool false,.bool false,.bool false,.bool false,.bool false,.bool false,.bool false,.bool false,.bool false,.bool false,.bool false,.bool false,.bool false,.bool false,.bool false,.bool false,.bool false,.bool false,.bool false,.bool false,.bool false,.bool false,.bool false,.bool false,.bool false,.bool false,.bool false,.bool false,.bool false,.bool false,.bool false,.bool false,.bool false,.bool false,.bool false,.bool false,.bool false,.bool false,.bool false,.bool false,.bool false,.bool false,.bool false,.bool false,.bool false,.bool false,.bool false,.bool false,.bool false,.bool false,.bool false,.bool false,.bool false,.bool false,.bool false,.bool false,.bool false,.bool false,.bool false,.bool false,.bool false,.bool false,.bool false,.bool false,.bool false,.bool false,.bool false,.bool false,.bool false,.bool false,.bool false,.bool false,.bool false,.bool false,.bool false,.bool false,.bool false,.bool false,.bool false,.bool false,.bool false,.bool false,.bool false,.bool false,.bool false,.bool false,.bool false,.bool false,.bool false,.bool false,.bool false,.bool false,.bool false,.bool false,.bool false,.bool false,.bool false,.bool false,.bool false,.bool false,.bool false,.bool false,.bool false,.bool false,.bool false,.bool false,.bool false,.bool false,.bool false,.bool false,.bool false,.bool false,.bool false,.bool false,.bool false,.bool false,.bool false,.bool false,.bool false,.bool false,.bool false,.bool false,.bool false],.slice v x y] ai fun R S=>
 ∃ (b:Array Value),R=.agg b∧
 Xa Tryz.prog 117 #[.agg b] S fun T U=>
 ∃ z A B,T=.slice z A B∧
 Q (.slice z A B) U
def Xoe:Nat→List (Nat×TypeId):=fun _=>[]
theorem Xki (a:Option Addr) (b:Nat) (c:Nat) (d:Option Addr) (e:Nat) (f:Nat) (g:Option Addr) (i:Nat) (j:Nat) (w:World) (Q:VWP) (h:Xk0 a b c d e f g i j w Q):Xa Tryz.prog 65 #[.slice a b c,.slice d e f,.slice g i j] w Q:=
 Xd Xoe Tryz.func65 h (fun _ _=>by kernel_rfl) (by kernel_rfl) (by kernel_rfl) (by kernel_rfl)
def Xaz (A:Inv) (B:J1) (y:List Value) (z:World) (p:Inv) (q:J1) (e:List Value) (f:World) (g:Option Addr) (i:Nat) (j:Nat) (r:Option Addr) (s:Nat) (t:Nat) (u:Option Addr) (v:Nat) (x:Nat) (k:Int) (l:Option Addr) (m:Nat) (n:Nat) (d:Int) (w:World) (Q:VWP):Prop:=
 ∃ a,IxA Tryz.prog 23 (.slice g i j) (.int .i64 (IntKind.i64.wrap (k+d))) a∧
 ∃ b,Ld Tryz.prog 5 (.pointer (some a)) w (.int .u8 b)∧
 ∃ c,IxA Tryz.prog 23 (.slice l m n) (.int .i64 d) c∧
 ∃ o,Sto Tryz.prog 5 (.pointer (some c)) (.int .u8 b) w o∧
 Xj [] [] p q e [.slice g i j,.slice r s t,.slice u v x,.int .i64 k,.slice l m n,.int .i64 (IntKind.i64.wrap (d+1))] f o
def ZD (n:Inv) (o:J1) (i:List Value) (j:World) (p:Option Addr) (q:Nat) (r:Nat) (s:Option Addr) (t:Nat) (u:Nat) (v:Option Addr) (x:Nat) (y:Nat) (z:Int) (A:Option Addr) (B:Nat) (C:Nat) (w:World) (Q:VWP):Prop:=
 Xa Tryz.prog 119 #[.slice A B C] w fun k D=>
 ∃ (a:Array Value),k=.agg a∧
 ∃ b c d l,Ef Tryz.prog (Instr.buildSlice 185 1 #[(0,.agg a)]) D (.slice b c d) l∧
 ∃ e f g m,Ef Tryz.prog (Builtin.append_ #[185,185] 185 #[.slice v x y,.slice b c d]) l (.slice e f g) m∧
 Xj [] [] n o i [.slice p q r,.slice s t u,.slice e f g,.int .i64 (IntKind.i64.wrap (z+16))] j m
def XeJ (P:Option Addr) (R:Nat) (S:Nat) (w:World) (Q:VWP):Prop:=
 ∃ G H I J,Ef Tryz.prog (Instr.buildSlice 185 0 #[]) w (.slice G H I) J∧
 LoopS [.slice P R S,.slice none 0 0,.slice G H I,.int .i64 0] J fun A B n _ l=>
 ∃ p m q L M N C D E F,n=[.slice p m q,.slice L M N,.slice C D E,.int .i64 F]∧
 cond (decide (F<((m:Nat):Int)))
 (∃ v x y O,Ef Tryz.prog (Instr.makeSlice 23 (.int .i64 16) (.int .i64 16)) l (.slice v x y) O∧
 LoopS [.slice p m q,.slice L M N,.slice C D E,.int .i64 F,.slice v x y,.int .i64 0] O fun T U z _ o=>
 ∃ c a d e f g i j k b r s t u,z=[.slice c a d,.slice e f g,.slice i j k,.int .i64 b,.slice r s t,.int .i64 u]∧
 cond (decide (u<16))
 (cond (decide ((IntKind.i64.wrap (b+u))<((a:Nat):Int)))
 (Xaz A B n l T U z o c a d e f g i j k b r s t u o Q)
 (ZD A B n l c a d e f g i j k b r s t o Q))
 (ZD A B n l c a d e f g i j k b r s t o Q))
 (Q (.slice C D E) l)
def XiE:Nat→List (Nat×TypeId):=fun n=>match n with | 0=>[(0,23),(2,185),(3,185),(4,3)] | 2=>[(0,23),(2,185),(3,185),(4,3),(5,23),(6,3)] | _=>[]
theorem XfJ (a:Option Addr) (b:Nat) (c:Nat) (w:World) (Q:VWP) (h:XeJ a b c w Q):Xa Tryz.prog 115 #[.slice a b c] w Q:=
 Xd XiE Tryz.func115 h (fun _ _=>by kernel_rfl) (by kernel_rfl) (by kernel_rfl) (by kernel_rfl)
def XiF (r:Int) (w:World) (Q:VWP):Prop:=
 ∃ j k l m,Ef Tryz.prog (Instr.makeSlice 23 (.int .i64 8) (.int .i64 8)) w (.slice j k l) m∧
 LoopS [.int .i64 (IntKind.i64.wrap (r*8)),.slice none 0 0,.slice j k l,.int .i64 7] m fun s t g _ b=>
 ∃ a n o p c d e f,g=[.int .i64 a,.slice n o p,.slice c d e,.int .i64 f]∧
 cond (decide (f≥0))
 (∃ i,IxA Tryz.prog 23 (.slice c d e) (.int .i64 f) i∧
 ∃ q,Sto Tryz.prog 5 (.pointer (some i)) (.int .u8 (IntKind.u8.wrap (Int.tmod a 256))) b q∧
 Xj [] [] s t g [.int .i64 (IntKind.i64.wrap (Int.tdiv a 256)),.slice n o p,.slice c d e,.int .i64 (IntKind.i64.wrap (f - 1))] b q)
 (Q (.slice c d e) b)
def XlV:Nat→List (Nat×TypeId):=fun n=>match n with | 0=>[(0,3),(2,23),(3,23),(4,3)] | _=>[]
theorem XiG (a:Int) (w:World) (Q:VWP) (h:XiF a w Q):Xa Tryz.prog 116 #[.int .i64 a] w Q:=
 Xd XlV Tryz.func116 h (fun _ _=>by kernel_rfl) (by kernel_rfl) (by kernel_rfl) (by kernel_rfl)
def Xc2 (f:Addr) (d:Addr) (w:World) (Q:VWP):Prop:=
 ∃ (a:Array Value),Ld Tryz.prog 189 (.pointer (some f)) w (.agg a)∧
 ∃ c,Sto Tryz.prog 189 (.pointer (some d)) (.agg a) w c∧
 ∃ b e,(.pointer (some d):Value)=.pointer (some b)∧(loadVar 189 b).run Tryz.prog c=.ok e c∧
 Q (e) c
def XiH (t:Array Value) (u:Array Value) (A:Option Addr) (B:Nat) (C:Nat) (w:World) (Q:VWP):Prop:=
 New t 189 w fun D E=>
 New u 189 E fun F G=>
 ∃ v,Pu Tryz.prog (zeroValue 189) v∧
 New v.cells 189 G fun H I=>
 LoopS [.slice A B C,.pointer (some ⟨D,0,none⟩),.pointer (some ⟨F,0,none⟩),.pointer (some ⟨H,0,none⟩),.int .i64 0] I fun J L o _ d=>
 ∃ b a c q e r m,o=[.slice b a c,.pointer (some q),.pointer (some e),.pointer (some r),.int .i64 m]∧
 cond (decide (m<((a:Nat):Int)))
 (∃ (n:World→Prop),
 Drw d fun f=>
 ∃ p,IxA Tryz.prog 185 (.slice b a c) (.int .i64 m) p∧
 ∃ (g:Array Value),HLd Tryz.prog n 189 (.pointer (some e)) f (.agg g)∧
 ∃ (i:Array Value),HLd Tryz.prog n 189 (.pointer (some p)) f (.agg i)∧
 ∃ (j:Array Value),HLd Tryz.prog n 189 (.pointer (some q)) f (.agg j)∧
 Xa Tryz.prog 176 #[.agg g,.agg i] f fun x s=>
 ∃ (k:Array Value),x=.agg k∧
 (s=f∨n s)∧
 Xa Tryz.prog 175 #[.agg k,.agg j] s fun y M=>
 ∃ (l:Array Value),y=.agg l∧
 ∃ z,Sto Tryz.prog 189 (.pointer (some e)) (.agg l) M z∧
 Xj [] [] J L o [.slice b a c,.pointer (some q),.pointer (some e),.pointer (some r),.int .i64 (IntKind.i64.wrap (m+1))] d z)
 (Xc2 e r d Q)
def XlW:Nat→List (Nat×TypeId):=fun n=>match n with | 0=>[(2,185),(3,1000000),(4,1000000),(6,1000000),(7,3)] | _=>[]
theorem XiI (a:Array Value) (b:Array Value) (c:Option Addr) (d:Nat) (e:Nat) (w:World) (Q:VWP) (h:XiH a b c d e w Q):Xa Tryz.prog 118 #[.agg a,.agg b,.slice c d e] w Q:=
 Xd XlW Tryz.func118 h (fun _ _=>by kernel_rfl) (by kernel_rfl) (by kernel_rfl) (by kernel_rfl)
end Go.Sh
end

section
namespace Go.Sh
open Go Go.Fw Go.Proofs
set_option maxRecDepth 100000
set_option linter.unusedVariables false
def Xc3 (s:Option Addr) (t:Nat) (u:Nat) (v:Option Addr) (x:Nat) (y:Nat) (z:Option Addr) (A:Nat) (B:Nat) (G:Option Addr) (H:Nat) (I:Nat) (J:Int) (o:Int) (w:World) (Q:VWP):Prop:=
 Drw w fun C=>
 ∃ a b c,Pu Tryz.prog (Instr.sliceAt 23 (.slice z A B) none (some (.int .i64 o)) none) (.slice a b c)∧
 Xa Tryz.prog 29 #[.slice v x y] C fun p D=>
 ∃ d e f,p=.slice d e f∧
 Xa Tryz.prog 28 #[.slice d e f,.int .u64 1] D fun q E=>
 ∃ g i j,q=.slice g i j∧
 Xa Tryz.prog 27 #[.slice s t u,.slice g i j,.slice a b c] E fun r F=>
 ∃ k l m n,r=.tuple #[.slice k l m,.int .i64 n]∧
 Q (.tuple #[.slice k l m,.int .i64 n]) F
def Xc4 (J:Option Addr) (L:Nat) (M:Nat) (N:Option Addr) (O:Nat) (P:Nat) (R:Option Addr) (r:Nat) (S:Nat) (V:Option Addr) (W:Nat) (X:Nat) (Y:Option Addr) (Z:Nat) (aa:Nat) (ab:Int) (w:World) (Q:VWP):Prop:=
 cond (decide ((IntKind.i64.wrap (((r:Nat):Int) - 16))<0))
 (Q (.tuple #[.slice none 0 0,.int .i64 12]) w)
 (∃ x y z,Pu Tryz.prog (Instr.sliceAt 23 (.slice R r S) none (some (.int .i64 (IntKind.i64.wrap (((r:Nat):Int) - 16)))) none) (.slice x y z)∧
 Xa Tryz.prog 26 #[.slice J L M,.slice N O P,.slice x y z,.slice V W X] w fun T ac=>
 ∃ A B C U,T=.tuple #[.slice A B C,.int .i64 U]∧
 LoopS [.slice J L M,.slice N O P,.slice R r S,.slice Y Z aa,.int .i64 ab,.int .i64 (IntKind.i64.wrap (((r:Nat):Int) - 16)),.slice A B C,.int .i64 0] ac fun ad ae D _ s=>
 ∃ e f g i j k a b c l m n o q t u v d,D=[.slice e f g,.slice i j k,.slice a b c,.slice l m n,.int .i64 o,.int .i64 q,.slice t u v,.int .i64 d]∧
 cond (decide (d<16))
 (∃ (E:World→Prop),
 Drw s fun p=>
 ∃ F,IxA Tryz.prog 23 (.slice t u v) (.int .i64 d) F∧
 ∃ G,IxA Tryz.prog 23 (.slice a b c) (.int .i64 (IntKind.i64.wrap (q+d))) G∧
 ∃ H,HLd Tryz.prog E 5 (.pointer (some F)) p (.int .u8 H)∧
 ∃ I,Ld Tryz.prog 5 (.pointer (some G)) p (.int .u8 I)∧
 (p=p∨E p)∧
 cond (H != I)
 (Q (.tuple #[.slice none 0 0,.int .i64 13]) p)
 (Xj [] [] ad ae D [.slice e f g,.slice i j k,.slice a b c,.slice l m n,.int .i64 o,.int .i64 q,.slice t u v,.int .i64 (IntKind.i64.wrap (d+1))] s p))
 (Xc3 e f g i j k a b c l m n o q s Q))
def XiJ (e:Option Addr) (a:Nat) (f:Nat) (g:Option Addr) (b:Nat) (i:Nat) (j:Option Addr) (c:Nat) (k:Nat) (l:Option Addr) (d:Nat) (m:Nat) (w:World) (Q:VWP):Prop:=
 cond (((a:Nat):Int) != 16)
 (Q (.tuple #[.slice none 0 0,.int .i64 11]) w)
 (cond (((b:Nat):Int) != 12)
 (Q (.tuple #[.slice none 0 0,.int .i64 11]) w)
 (cond (decide (((d:Nat):Int) > 65535))
 (Q (.tuple #[.slice none 0 0,.int .i64 11]) w)
 (cond (decide (((c:Nat):Int) > 65551))
 (Q (.tuple #[.slice none 0 0,.int .i64 11]) w)
 (Xc4 e a f g b i j c k l d m none 0 0 0 w Q))))
def XlX:Nat→List (Nat×TypeId):=fun n=>match n with | 0=>[(0,23),(1,23),(2,23),(8,23),(9,33),(10,3),(11,23),(13,3)] | _=>[]
theorem XiK (a:Option Addr) (b:Nat) (c:Nat) (d:Option Addr) (e:Nat) (f:Nat) (g:Option Addr) (i:Nat) (j:Nat) (k:Option Addr) (l:Nat) (m:Nat) (w:World) (Q:VWP) (h:XiJ a b c d e f g i j k l m w Q):Xa Tryz.prog 12 #[.slice a b c,.slice d e f,.slice g i j,.slice k l m] w Q:=
 Xd XlX Tryz.func12 h (fun _ _=>by kernel_rfl) (by kernel_rfl) (by kernel_rfl) (by kernel_rfl)
def Xk1 (H:Option Addr) (I:Nat) (J:Nat) (L:Option Addr) (M:Nat) (N:Nat) (O:Option Addr) (P:Nat) (R:Nat) (S:Option Addr) (T:Nat) (U:Nat) (w:World) (Q:VWP):Prop:=
 Xa Tryz.prog 63 #[.slice H I J,.slice L M N,.slice O P R,.slice S T U] w fun V W=>
 ∃ k,V=.bool k∧
 cond k
 (Q (.tuple #[.slice none 0 0,.int .i64 11]) W)
 (∃ l m n X,Ef Tryz.prog (Instr.makeSlice 23 (.int .i64 16) (.int .i64 16)) W (.slice l m n) X∧
 Xa Tryz.prog 64 #[.slice H I J,.slice l m n] X fun Y ai=>
 ∃ o p q,Y=.slice o p q∧
 Xa Tryz.prog 65 #[.slice o p q,.slice S T U,.slice O P R] ai fun Z aj=>
 ∃ r s t,Z=.slice r s t∧
 Xa Tryz.prog 29 #[.slice L M N] aj fun aa ak=>
 ∃ u v x,aa=.slice u v x∧
 Xa Tryz.prog 64 #[.slice H I J,.slice u v x] ak fun ab al=>
 ∃ y z A,ab=.slice y z A∧
 LoopS [.slice none 0 0,.int .i64 0,.slice r s t,.slice y z A,.int .i64 0] al fun am an B _ f=>
 ∃ ac ad ae af b c d g i j a,B=[.slice ac ad ae,.int .i64 af,.slice b c d,.slice g i j,.int .i64 a]∧
 cond (decide (a<16))
 (∃ (ag:World→Prop),
 Drw f fun e=>
 ∃ C,IxA Tryz.prog 23 (.slice b c d) (.int .i64 a) C∧
 ∃ D,IxA Tryz.prog 23 (.slice g i j) (.int .i64 a) D∧
 ∃ E,HLd Tryz.prog ag 5 (.pointer (some C)) e (.int .u8 E)∧
 ∃ F,Ld Tryz.prog 5 (.pointer (some D)) e (.int .u8 F)∧
 (e=e∨ag e)∧
 ∃ G,IxA Tryz.prog 23 (.slice b c d) (.int .i64 a) G∧
 ∃ ah,Sto Tryz.prog 5 (.pointer (some G)) (.int .u8 (YE .u8 E F)) e ah∧
 Xj [] [] am an B [.slice ac ad ae,.int .i64 af,.slice b c d,.slice g i j,.int .i64 (IntKind.i64.wrap (a+1))] f ah)
 (Q (.tuple #[.slice b c d,.int .i64 0]) f))
def Xof:Nat→List (Nat×TypeId):=fun n=>match n with | 0=>[(8,23),(9,33),(11,23),(12,23),(13,3)] | _=>[]
theorem Xkj (a:Option Addr) (b:Nat) (c:Nat) (d:Option Addr) (e:Nat) (f:Nat) (g:Option Addr) (i:Nat) (j:Nat) (k:Option Addr) (l:Nat) (m:Nat) (w:World) (Q:VWP) (h:Xk1 a b c d e f g i j k l m w Q):Xa Tryz.prog 26 #[.slice a b c,.slice d e f,.slice g i j,.slice k l m] w Q:=
 Xd Xof Tryz.func26 h (fun _ _=>by kernel_rfl) (by kernel_rfl) (by kernel_rfl) (by kernel_rfl)
def Xgg (r:Option Addr) (s:Nat) (t:Nat) (w:World) (Q:VWP):Prop:=
 ∃ a b c d,Ef Tryz.prog (Instr.buildSlice 23 0 #[]) w (.slice a b c) d∧
 ∃ e f g i,Ef Tryz.prog (Builtin.append_ #[23,23] 23 #[.slice a b c,.slice r s t]) d (.slice e f g) i∧
 ∃ j k l m,Ef Tryz.prog (Instr.buildSlice 23 4 #[(0,.int .u8 0),(1,.int .u8 0),(2,.int .u8 0),(3,.int .u8 1)]) i (.slice j k l) m∧
 ∃ n o p q,Ef Tryz.prog (Builtin.append_ #[23,23] 23 #[.slice e f g,.slice j k l]) m (.slice n o p) q∧
 Q (.slice n o p) q
def Xkk:Nat→List (Nat×TypeId):=fun _=>[]
theorem Xg7 (a:Option Addr) (b:Nat) (c:Nat) (w:World) (Q:VWP) (h:Xgg a b c w Q):Xa Tryz.prog 29 #[.slice a b c] w Q:=
 Xd Xkk Tryz.func29 h (fun _ _=>by kernel_rfl) (by kernel_rfl) (by kernel_rfl) (by kernel_rfl)
def Xgh (e:Option Addr) (a:Nat) (f:Nat) (g:Option Addr) (b:Nat) (i:Nat) (j:Option Addr) (c:Nat) (k:Nat) (l:Option Addr) (d:Nat) (m:Nat) (w:World) (Q:VWP):Prop:=
 cond (((a:Nat):Int) != 16)
 (Q (.bool true) w)
 (cond (((b:Nat):Int) != 12)
 (Q (.bool true) w)
 (cond (decide (((c:Nat):Int) > 65535))
 (Q (.bool true) w)
 (Q (.bool (decide (((d:Nat):Int) > 65535))) w)))
def Xkl:Nat→List (Nat×TypeId):=fun _=>[]
theorem Xg8 (a:Option Addr) (b:Nat) (c:Nat) (d:Option Addr) (e:Nat) (f:Nat) (g:Option Addr) (i:Nat) (j:Nat) (k:Option Addr) (l:Nat) (m:Nat) (w:World) (Q:VWP) (h:Xgh a b c d e f g i j k l m w Q):Xa Tryz.prog 63 #[.slice a b c,.slice d e f,.slice g i j,.slice k l m] w Q:=
 Xd Xkl Tryz.func63 h (fun _ _=>by kernel_rfl) (by kernel_rfl) (by kernel_rfl) (by kernel_rfl)
end Go.Sh
end

section
namespace Go.Sh
open Go Go.Fw Go.Proofs
set_option maxRecDepth 100000
set_option linter.unusedVariables false
def Xgi (g:Option Addr) (i:Nat) (j:Nat) (k:Option Addr) (l:Nat) (m:Nat) (w:World) (Q:VWP):Prop:=
 ∃ a c,Ef Tryz.prog (convert 23 9 (.slice g i j)) w (.string a) c∧
 ∃ b d,Ef Tryz.prog (convert 23 9 (.slice k l m)) c (.string b) d∧
 ∃ e f,Ef Tryz.prog (do eqGuard .eql 9 (.tmp 6) (.tmp 8) (.string a) (.string b); binOp .eql 9 (.string a) (.string b):Sem Value) d (.bool e) f∧
 Q (.bool e) f
def Xkm:Nat→List (Nat×TypeId):=fun _=>[]
theorem Xg9 (a:Option Addr) (b:Nat) (c:Nat) (d:Option Addr) (e:Nat) (f:Nat) (w:World) (Q:VWP) (h:Xgi a b c d e f w Q):Xa Tryz.prog 25 #[.slice a b c,.slice d e f] w Q:=
 Xd Xkm Tryz.func25 h (fun _ _=>by kernel_rfl) (by kernel_rfl) (by kernel_rfl) (by kernel_rfl)
end Go.Sh
end

section
namespace Go.Sh
open Go Go.Fw Go.Proofs
set_option maxRecDepth 100000
set_option linter.unusedVariables false
def Xc5 (C:Int) (D:Option Addr) (E:Nat) (F:Nat) (R:Option Addr) (S:Nat) (T:Nat) (U:Addr) (Y:Option Addr) (Z:Nat) (aa:Nat) (ab:Int) (G:Option Addr) (w:World) (Q:VWP):Prop:=
 ∃ e f g i a b c,Ld Tryz.prog 26 (.pointer (some U)) w (.agg #[.int .u64 e,.slice f g i,.slice a b c])∧
 Xa Tryz.prog 17 #[.agg #[.int .u64 e,.slice f g i,.slice a b c]] w fun H I=>
 ∃ j k l d,H=.tuple #[.slice j k l,.int .i64 d]∧
 cond (d != 0)
 (Q (.tuple #[.slice none 0 0,.int .i64 d]) I)
 (Xa Tryz.prog 19 #[.int .i64 C,.slice R S T] I fun J V=>
 ∃ m n o,J=.slice m n o∧
 Xa Tryz.prog 18 #[.pointer G,.slice D E F,.slice j k l,.slice m n o] V fun L W=>
 ∃ p q r M,L=.tuple #[.slice p q r,.int .i64 M]∧
 ∃ s t u N,Ef Tryz.prog (Instr.buildSlice 23 1 #[(0,.int .u8 (IntKind.u8.wrap C))]) W (.slice s t u) N∧
 ∃ v x y O,Ef Tryz.prog (Instr.buildSlice 117 3 #[(0,.slice s t u),(1,.slice D E F),(2,.slice p q r)]) N (.slice v x y) O∧
 Xa Tryz.prog 20 #[.slice v x y] O fun P X=>
 ∃ z A B,P=.slice z A B∧
 Q (.tuple #[.slice z A B,.int .i64 0]) X)
def XiL (l:Option Addr) (g:Int) (m:Option Addr) (i:Nat) (n:Nat) (o:Option Addr) (j:Nat) (p:Nat) (q:Int) (r:Option Addr) (s:Nat) (t:Nat) (d:Option Addr) (e:Nat) (f:Nat) (w:World) (Q:VWP):Prop:=
 New #[.int .u64 q,.slice r s t,.slice d e f] 26 w fun u v=>
 Xa Tryz.prog 16 #[.pointer l,.int .i64 g] v fun k a=>
 ∃ b c,k=.tuple #[.pointer b,.bool c]∧
 cond (!c)
 (Q (.tuple #[.slice none 0 0,.int .i64 17]) a)
 (cond (((i:Nat):Int) != 12)
 (Q (.tuple #[.slice none 0 0,.int .i64 11]) a)
 (cond (decide (((j:Nat):Int) > 64))
 (Q (.tuple #[.slice none 0 0,.int .i64 11]) a)
 (Xc5 g m i n o j p (⟨u,0,none⟩:Addr) none 0 0 0 b a Q)))
def XlY:Nat→List (Nat×TypeId):=fun _=>[]
theorem XiM (d:Option Addr) (e:Int) (f:Option Addr) (g:Nat) (i:Nat) (j:Option Addr) (k:Nat) (l:Nat) (m:Int) (n:Option Addr) (o:Nat) (p:Nat) (a:Option Addr) (b:Nat) (c:Nat) (w:World) (Q:VWP) (h:XiL d e f g i j k l m n o p a b c w Q):Xa Tryz.prog 7 #[.pointer d,.int .i64 e,.slice f g i,.slice j k l,.agg #[.int .u64 m,.slice n o p,.slice a b c]] w Q:=
 Xd XlY Tryz.func7 h (fun _ _=>by kernel_rfl) (by kernel_rfl) (by kernel_rfl) (by kernel_rfl)
def Xc6 (k:Addr) (n:Int) (l:Addr) (w:World) (Q:VWP):Prop:=
 ∃ f g i j a b c,Ld Tryz.prog 26 (.pointer (some l)) w (.agg #[.int .u64 f,.slice g i j,.slice a b c])∧
 ∃ e,Sto Tryz.prog 26 (.pointer (some k)) (.agg #[.int .u64 f,.slice g i j,.slice a b c]) w e∧
 ∃ d m,(.pointer (some k):Value)=.pointer (some d)∧(loadVar 26 d).run Tryz.prog e=.ok m e∧
 Q (.tuple #[m,.int .i64 0]) e
def XiN (G:Option Addr) (H:Option Addr) (I:Nat) (J:Nat) (L:Option Addr) (M:Nat) (N:Nat) (O:Int) (w:World) (Q:VWP):Prop:=
 ∃ A,Pu Tryz.prog (zeroValue 26) A∧
 New A.cells 26 w fun b P=>
 Xa Tryz.prog 21 #[.pointer G,.slice H I J,.slice L M N] P fun B C=>
 ∃ q r s f,B=.tuple #[.slice q r s,.int .i64 f]∧
 cond (f != 0)
 (∃ n,Sto Tryz.prog 26 (.pointer (some ⟨b,0,none⟩)) (.agg #[.int .u64 0,.slice none 0 0,.slice none 0 0]) C n∧
 ∃ D E,(.pointer (some ⟨b,0,none⟩):Value)=.pointer (some D)∧(loadVar 26 D).run Tryz.prog n=.ok E n∧
 Q (.tuple #[E,.int .i64 f]) n)
 (Xa Tryz.prog 22 #[.slice q r s] C fun F R=>
 ∃ t u v x c d e a,F=.tuple #[.agg #[.int .u64 t,.slice u v x,.slice c d e],.int .i64 a]∧
 ∃ y,Pu Tryz.prog (zeroValue 26) y∧
 New y.cells 26 R fun g S=>
 ∃ i,Sto Tryz.prog 26 (.pointer (some ⟨g,0,none⟩)) (.agg #[.int .u64 t,.slice u v x,.slice c d e]) S i∧
 cond (a != 0)
 (∃ o,Sto Tryz.prog 26 (.pointer (some ⟨b,0,none⟩)) (.agg #[.int .u64 0,.slice none 0 0,.slice none 0 0]) i o∧
 ∃ j k,(.pointer (some ⟨b,0,none⟩):Value)=.pointer (some j)∧(loadVar 26 j).run Tryz.prog o=.ok k o∧
 Q (.tuple #[k,.int .i64 a]) o)
 (∃ z,Ld Tryz.prog 24 (.pointer (some ((⟨g,0,none⟩:Addr).add 0))) i (.int .u64 z)∧
 cond (decide (z<O))
 (∃ p,Sto Tryz.prog 26 (.pointer (some ⟨b,0,none⟩)) (.agg #[.int .u64 0,.slice none 0 0,.slice none 0 0]) i p∧
 ∃ l m,(.pointer (some ⟨b,0,none⟩):Value)=.pointer (some l)∧(loadVar 26 l).run Tryz.prog p=.ok m p∧
 Q (.tuple #[m,.int .i64 20]) p)
 (Xc6 (⟨b,0,none⟩:Addr) 0 (⟨g,0,none⟩:Addr) i Q)))
def XlZ:Nat→List (Nat×TypeId):=fun _=>[]
theorem XiO (a:Option Addr) (b:Option Addr) (c:Nat) (d:Nat) (e:Option Addr) (f:Nat) (g:Nat) (i:Int) (w:World) (Q:VWP) (h:XiN a b c d e f g i w Q):Xa Tryz.prog 8 #[.pointer a,.slice b c d,.slice e f g,.int .u64 i] w Q:=
 Xd XlZ Tryz.func8 h (fun _ _=>by kernel_rfl) (by kernel_rfl) (by kernel_rfl) (by kernel_rfl)
def XiP (E:Int) (F:Option Addr) (G:Nat) (H:Nat) (r:Option Addr) (s:Nat) (t:Nat) (I:Int) (J:Option Addr) (L:Nat) (M:Nat) (u:Option Addr) (v:Nat) (x:Nat) (w:World) (Q:VWP):Prop:=
 New #[.int .u64 E,.slice F G H,.slice r s t] 26 w fun y N=>
 New #[.int .u64 I,.slice J L M,.slice u v x] 26 N fun z a=>
 ∃ A,Ld Tryz.prog 24 (.pointer (some ((⟨y,0,none⟩:Addr).add 0))) a (.int .u64 A)∧
 ∃ B,Ld Tryz.prog 24 (.pointer (some ((⟨z,0,none⟩:Addr).add 0))) a (.int .u64 B)∧
 cond (A == B)
 (∃ c d e,Ld Tryz.prog 23 (.pointer (some ((⟨y,0,none⟩:Addr).add 1))) a (.slice c d e)∧
 ∃ f g i,Ld Tryz.prog 23 (.pointer (some ((⟨z,0,none⟩:Addr).add 1))) a (.slice f g i)∧
 Xa Tryz.prog 25 #[.slice c d e,.slice f g i] a fun C b=>
 ∃ j,C=.bool j∧
 cond j
 (∃ k l m,Ld Tryz.prog 23 (.pointer (some ((⟨y,0,none⟩:Addr).add 2))) b (.slice k l m)∧
 ∃ n o p,Ld Tryz.prog 23 (.pointer (some ((⟨z,0,none⟩:Addr).add 2))) b (.slice n o p)∧
 Xa Tryz.prog 25 #[.slice k l m,.slice n o p] b fun D O=>
 ∃ q,D=.bool q∧
 Q (.bool q) O)
 (Q (.bool false) b))
 (Q (.bool false) a)
def Xl0:Nat→List (Nat×TypeId):=fun _=>[]
theorem XiQ (g:Int) (i:Option Addr) (j:Nat) (k:Nat) (a:Option Addr) (b:Nat) (c:Nat) (l:Int) (m:Option Addr) (n:Nat) (o:Nat) (d:Option Addr) (e:Nat) (f:Nat) (w:World) (Q:VWP) (h:XiP g i j k a b c l m n o d e f w Q):Xa Tryz.prog 10 #[.agg #[.int .u64 g,.slice i j k,.slice a b c],.agg #[.int .u64 l,.slice m n o,.slice d e f]] w Q:=
 Xd Xl0 Tryz.func10 h (fun _ _=>by kernel_rfl) (by kernel_rfl) (by kernel_rfl) (by kernel_rfl)
def XiR (O:Int) (P:Option Addr) (R:Nat) (S:Nat) (v:Option Addr) (x:Nat) (y:Nat) (w:World) (Q:VWP):Prop:=
 New #[.int .u64 O,.slice P R S,.slice v x y] 26 w fun f A=>
 ∃ B C D E b c d,Ld Tryz.prog 26 (.pointer (some ⟨f,0,none⟩)) A (.agg #[.int .u64 B,.slice C D E,.slice b c d])∧
 Xa Tryz.prog 46 #[.agg #[.int .u64 B,.slice C D E,.slice b c d]] A fun T F=>
 ∃ G,T=.bool G∧
 cond G
 (Q (.tuple #[.slice none 0 0,.int .i64 15]) F)
 (∃ (a:World→Prop),
 Drw F fun e=>
 ∃ H,HLd Tryz.prog a 24 (.pointer (some ((⟨f,0,none⟩:Addr).add 0))) e (.int .u64 H)∧
 ∃ j k l,HLd Tryz.prog a 23 (.pointer (some ((⟨f,0,none⟩:Addr).add 1))) e (.slice j k l)∧
 ∃ m n o,HLd Tryz.prog a 23 (.pointer (some ((⟨f,0,none⟩:Addr).add 2))) e (.slice m n o)∧
 Xa Tryz.prog 47 #[] e fun U g=>
 ∃ I,U=.pointer I∧
 (g=e∨a g)∧
 Xa Tryz.prog 48 #[.pointer I,.int .u64 H,.int .i64 8] g fun V i=>
 ∃ J,V=.pointer J∧
 (i=g∨a i)∧
 Xa Tryz.prog 49 #[.pointer J,.slice j k l] i fun L z=>
 ∃ p,L=.pointer p∧
 (z=i∨a z)∧
 Xa Tryz.prog 49 #[.pointer p,.slice m n o] z fun M W=>
 ∃ q,M=.pointer q∧
 Xa Tryz.prog 50 #[.pointer q] W fun N X=>
 ∃ r s t u,N=.tuple #[.slice r s t,.int .i64 u]∧
 Q (.tuple #[.slice r s t,.int .i64 u]) X)
def Xl1:Nat→List (Nat×TypeId):=fun _=>[]
theorem XiS (d:Int) (e:Option Addr) (f:Nat) (g:Nat) (a:Option Addr) (b:Nat) (c:Nat) (w:World) (Q:VWP) (h:XiR d e f g a b c w Q):Xa Tryz.prog 17 #[.agg #[.int .u64 d,.slice e f g,.slice a b c]] w Q:=
 Xd Xl1 Tryz.func17 h (fun _ _=>by kernel_rfl) (by kernel_rfl) (by kernel_rfl) (by kernel_rfl)
def XiT (n:Int) (o:Option Addr) (p:Nat) (q:Nat) (w:World) (Q:VWP):Prop:=
 ∃ d e f g,Ef Tryz.prog (Instr.buildSlice 23 1 #[(0,.int .u8 (IntKind.u8.wrap n))]) w (.slice d e f) g∧
 ∃ i j k l,Ef Tryz.prog (Instr.buildSlice 117 2 #[(0,.slice d e f),(1,.slice o p q)]) g (.slice i j k) l∧
 Xa Tryz.prog 20 #[.slice i j k] l fun m r=>
 ∃ a b c,m=.slice a b c∧
 Q (.slice a b c) r
def Xl2:Nat→List (Nat×TypeId):=fun _=>[]
theorem XiU (a:Int) (b:Option Addr) (c:Nat) (d:Nat) (w:World) (Q:VWP) (h:XiT a b c d w Q):Xa Tryz.prog 19 #[.int .i64 a,.slice b c d] w Q:=
 Xd Xl2 Tryz.func19 h (fun _ _=>by kernel_rfl) (by kernel_rfl) (by kernel_rfl) (by kernel_rfl)
def XaA (u:Option Addr) (v:Nat) (x:Nat) (o:Option Addr) (p:Nat) (q:Nat) (C:Option Addr) (D:Nat) (E:Nat) (F:Int) (y:Int) (z:Option Addr) (w:World) (Q:VWP):Prop:=
 Drw w fun A=>
 ∃ a b c,Pu Tryz.prog (Instr.sliceAt 23 (.slice o p q) (some (.int .i64 1)) (some (.int .i64 13)) none) (.slice a b c)∧
 ∃ d e f,Pu Tryz.prog (Instr.sliceAt 23 (.slice o p q) (some (.int .i64 13)) none none) (.slice d e f)∧
 Xa Tryz.prog 19 #[.int .i64 y,.slice u v x] A fun r B=>
 ∃ g i j,r=.slice g i j∧
 Xa Tryz.prog 55 #[.pointer z,.slice a b c,.slice d e f,.slice g i j] B fun s t=>
 ∃ k l m n,s=.tuple #[.slice k l m,.int .i64 n]∧
 cond (n != 0)
 (Q (.tuple #[.slice none 0 0,.int .i64 13]) t)
 (Q (.tuple #[.slice k l m,.int .i64 0]) t)
def XeK (l:Option Addr) (m:Option Addr) (g:Nat) (n:Nat) (i:Option Addr) (b:Nat) (j:Nat) (w:World) (Q:VWP):Prop:=
 cond (decide (((b:Nat):Int)<29))
 (Q (.tuple #[.slice none 0 0,.int .i64 12]) w)
 (∃ d,IxA Tryz.prog 23 (.slice i b j) (.int .i64 0) d∧
 ∃ a,Ld Tryz.prog 5 (.pointer (some d)) w (.int .u8 a)∧
 Xa Tryz.prog 16 #[.pointer l,.int .i64 (IntKind.i64.wrap a)] w fun k c=>
 ∃ e f,k=.tuple #[.pointer e,.bool f]∧
 cond (!f)
 (Q (.tuple #[.slice none 0 0,.int .i64 17]) c)
 (cond (decide (((g:Nat):Int) > 64))
 (Q (.tuple #[.slice none 0 0,.int .i64 13]) c)
 (cond (decide (((b:Nat):Int) > 4096))
 (Q (.tuple #[.slice none 0 0,.int .i64 13]) c)
 (XaA m g n i b j none 0 0 0 (IntKind.i64.wrap a) e c Q))))
def XiV:Nat→List (Nat×TypeId):=fun _=>[]
theorem XfK (a:Option Addr) (b:Option Addr) (c:Nat) (d:Nat) (e:Option Addr) (f:Nat) (g:Nat) (w:World) (Q:VWP) (h:XeK a b c d e f g w Q):Xa Tryz.prog 21 #[.pointer a,.slice b c d,.slice e f g] w Q:=
 Xd XiV Tryz.func21 h (fun _ _=>by kernel_rfl) (by kernel_rfl) (by kernel_rfl) (by kernel_rfl)
def XeL (X:Option Addr) (Y:Nat) (Z:Nat) (w:World) (Q:VWP):Prop:=
 ∃ M,Pu Tryz.prog (zeroValue 26) M∧
 New M.cells 26 w fun j aa=>
 Xa Tryz.prog 56 #[.slice X Y Z] aa fun ab ac=>
 ∃ k,ab=.pointer k∧
 Xa Tryz.prog 57 #[.pointer k,.int .i64 8] ac fun N ad=>
 ∃ s,N=.int .u64 s∧
 Xa Tryz.prog 58 #[.pointer k] ad fun O ae=>
 ∃ t u v,O=.slice t u v∧
 Xa Tryz.prog 58 #[.pointer k] ae fun P af=>
 ∃ x y z,P=.slice x y z∧
 ∃ R,Pu Tryz.prog (zeroValue 26) R∧
 New R.cells 26 af fun J ag=>
 ∃ S,Sto Tryz.prog 26 (.pointer (some ⟨J,0,none⟩)) (.agg #[.int .u64 s,.slice t u v,.slice x y z]) ag S∧
 Xa Tryz.prog 59 #[.pointer k] S fun T L=>
 ∃ l,T=.int .i64 l∧
 cond (l != 0)
 (∃ r,Sto Tryz.prog 26 (.pointer (some ⟨j,0,none⟩)) (.agg #[.int .u64 0,.slice none 0 0,.slice none 0 0]) L r∧
 ∃ U V,(.pointer (some ⟨j,0,none⟩):Value)=.pointer (some U)∧(loadVar 26 U).run Tryz.prog r=.ok V r∧
 Q (.tuple #[V,.int .i64 l]) r)
 (∃ A B C D a b c,Ld Tryz.prog 26 (.pointer (some ⟨J,0,none⟩)) L (.agg #[.int .u64 A,.slice B C D,.slice a b c])∧
 Xa Tryz.prog 46 #[.agg #[.int .u64 A,.slice B C D,.slice a b c]] L fun W m=>
 ∃ E,W=.bool E∧
 cond E
 (∃ d,Sto Tryz.prog 26 (.pointer (some ⟨j,0,none⟩)) (.agg #[.int .u64 0,.slice none 0 0,.slice none 0 0]) m d∧
 ∃ n o,(.pointer (some ⟨j,0,none⟩):Value)=.pointer (some n)∧(loadVar 26 n).run Tryz.prog d=.ok o d∧
 Q (.tuple #[o,.int .i64 10]) d)
 (∃ F G H I e f g,Ld Tryz.prog 26 (.pointer (some ⟨J,0,none⟩)) m (.agg #[.int .u64 F,.slice G H I,.slice e f g])∧
 ∃ i,Sto Tryz.prog 26 (.pointer (some ⟨j,0,none⟩)) (.agg #[.int .u64 F,.slice G H I,.slice e f g]) m i∧
 ∃ p q,(.pointer (some ⟨j,0,none⟩):Value)=.pointer (some p)∧(loadVar 26 p).run Tryz.prog i=.ok q i∧
 Q (.tuple #[q,.int .i64 0]) i))
def XiW:Nat→List (Nat×TypeId):=fun _=>[]
theorem XfL (a:Option Addr) (b:Nat) (c:Nat) (w:World) (Q:VWP) (h:XeL a b c w Q):Xa Tryz.prog 22 #[.slice a b c] w Q:=
 Xd XiW Tryz.func22 h (fun _ _=>by kernel_rfl) (by kernel_rfl) (by kernel_rfl) (by kernel_rfl)
def WZ (j:Int) (k:Option Addr) (l:Nat) (m:Nat) (a:Option Addr) (b:Nat) (c:Nat) (w:World) (Q:VWP):Prop:=
 New #[.int .u64 j,.slice k l m,.slice a b c] 26 w fun e d=>
 ∃ n f o,Ld Tryz.prog 23 (.pointer (some ((⟨e,0,none⟩:Addr).add 1))) d (.slice n f o)∧
 ∃ p g q,Ld Tryz.prog 23 (.pointer (some ((⟨e,0,none⟩:Addr).add 2))) d (.slice p g q)∧
 ∃ i,Pu Tryz.prog (Builtin.max_ #[3,3] 3 #[.int .i64 ((f:Nat):Int),.int .i64 ((g:Nat):Int)]) (.int .i64 i)∧
 Q (.bool (decide (i > 20))) d
def XcB:Nat→List (Nat×TypeId):=fun _=>[]
theorem Xa0 (d:Int) (e:Option Addr) (f:Nat) (g:Nat) (a:Option Addr) (b:Nat) (c:Nat) (w:World) (Q:VWP) (h:WZ d e f g a b c w Q):Xa Tryz.prog 46 #[.agg #[.int .u64 d,.slice e f g,.slice a b c]] w Q:=
 Xd XcB Tryz.func46 h (fun _ _=>by kernel_rfl) (by kernel_rfl) (by kernel_rfl) (by kernel_rfl)
end Go.Sh
end

section
namespace Go.Sh
open Go Go.Fw Go.Proofs
set_option maxRecDepth 100000
set_option linter.unusedVariables false
def Xk2 (n:Option Addr) (k:Nat) (o:Nat) (w:World) (Q:VWP):Prop:=
 cond (decide (((k:Nat):Int) > 8))
 (Q (.tuple #[.int .u64 0,.int .i64 11]) w)
 (LoopS [.slice n k o,.int .u64 0,.int .i64 0,.int .u64 0,.int .i64 0] w fun p q f _ d=>
 ∃ b a c l m j e,f=[.slice b a c,.int .u64 l,.int .i64 m,.int .u64 j,.int .i64 e]∧
 cond (decide (e<((a:Nat):Int)))
 (∃ g,IxA Tryz.prog 23 (.slice b a c) (.int .i64 e) g∧
 ∃ i,Ld Tryz.prog 5 (.pointer (some g)) d (.int .u8 i)∧
 Xj [] [] p q f [.slice b a c,.int .u64 l,.int .i64 m,.int .u64 (IntKind.u64.wrap ((IntKind.u64.wrap (j*256))+(IntKind.u64.wrap i))),.int .i64 (IntKind.i64.wrap (e+1))] d d)
 (Q (.tuple #[.int .u64 j,.int .i64 0]) d))
def Xog:Nat→List (Nat×TypeId):=fun n=>match n with | 0=>[(0,23),(2,24),(3,33),(4,24),(5,3)] | _=>[]
theorem Xkn (a:Option Addr) (b:Nat) (c:Nat) (w:World) (Q:VWP) (h:Xk2 a b c w Q):Xa Tryz.prog 110 #[.slice a b c] w Q:=
 Xd Xog Tryz.func110 h (fun _ _=>by kernel_rfl) (by kernel_rfl) (by kernel_rfl) (by kernel_rfl)
end Go.Sh
end

section
namespace Go.Sh
open Go Go.Fw Go.Proofs
set_option maxRecDepth 100000
set_option linter.unusedVariables false
def JS (i:Option Addr) (j:Int) (m:Int) (w:World) (Q:VWP):Prop:=
 Xa Tryz.prog 111 #[.pointer i,.int .i64 j] w fun f k=>
 ∃ b c d,f=.slice b c d∧
 Xa Tryz.prog 110 #[.slice b c d] k fun g l=>
 ∃ e a,g=.tuple #[.int .u64 e,.int .i64 a]∧
 Q (.int .u64 e) l
def YK (b:Option Addr) (c:Int) (d:Int) (e:Bool) (w:World) (Q:VWP):Prop:=
 cond e
 (∃ a,b=some a∧
 ∃ f,Sto Tryz.prog 33 (.pointer (some (a.add 1))) (.int .i64 11) w f∧
 JS b c d f Q)
 (JS b c d w Q)
def QJ (b:Option Addr) (a:Int) (w:World) (Q:VWP):Prop:=
 ∃ d,b=some d∧
 ∃ c,Ld Tryz.prog 33 (.pointer (some (d.add 1))) w (.int .i64 c)∧
 cond (c == 0)
 (cond (decide (a<0))
 (YK b a 0 true w Q)
 (YK b a 0 (decide (a > 8)) w Q))
 (YK b a 0 false w Q)
def Xdw:Nat→List (Nat×TypeId):=fun _=>[]
theorem XbK (a:Option Addr) (b:Int) (w:World) (Q:VWP) (h:QJ a b w Q):Xa Tryz.prog 60 #[.pointer a,.int .i64 b] w Q:=
 Xd Xdw Tryz.func60 h (fun _ _=>by kernel_rfl) (by kernel_rfl) (by kernel_rfl) (by kernel_rfl)
def Wo (e:Option Addr) (w:World) (Q:VWP):Prop:=
 ∃ f,e=some f∧
 ∃ g i j,Ld Tryz.prog 23 (.pointer (some (f.add 0))) w (.slice g i j)∧
 Xa Tryz.prog 60 #[.pointer e,.int .i64 1] w fun k m=>
 ∃ a,k=.int .u64 a∧
 Xa Tryz.prog 112 #[.pointer e,.slice g i j,.int .u64 a] m fun l n=>
 ∃ b c d,l=.slice b c d∧
 Q (.slice b c d) n
def XbL:Nat→List (Nat×TypeId):=fun _=>[]
theorem Q4 (a:Option Addr) (w:World) (Q:VWP) (h:Wo a w Q):Xa Tryz.prog 61 #[.pointer a] w Q:=
 Xd XbL Tryz.func61 h (fun _ _=>by kernel_rfl) (by kernel_rfl) (by kernel_rfl) (by kernel_rfl)
def Zs (c:Option Addr) (d:Int) (w:World) (Q:VWP):Prop:=
 ∃ a,c=some a∧
 ∃ b,Ld Tryz.prog 33 (.pointer (some (a.add 1))) w (.int .i64 b)∧
 Q (.int .i64 b) w
def Zt (b:Option Addr) (c:Int) (d:Bool) (w:World) (Q:VWP):Prop:=
 cond d
 (∃ a,b=some a∧
 ∃ e,Sto Tryz.prog 33 (.pointer (some (a.add 1))) (.int .i64 10) w e∧
 Zs b c e Q)
 (Zs b c w Q)
def QK (a:Option Addr) (w:World) (Q:VWP):Prop:=
 ∃ d,a=some d∧
 ∃ e,Ld Tryz.prog 33 (.pointer (some (d.add 1))) w (.int .i64 e)∧
 cond (e == 0)
 (∃ b,a=some b∧
 ∃ f c g,Ld Tryz.prog 23 (.pointer (some (b.add 0))) w (.slice f c g)∧
 Zt a 0 (decide (((c:Nat):Int) > 0)) w Q)
 (Zt a 0 false w Q)
def Xdx:Nat→List (Nat×TypeId):=fun _=>[]
theorem XbM (a:Option Addr) (w:World) (Q:VWP) (h:QK a w Q):Xa Tryz.prog 62 #[.pointer a] w Q:=
 Xd Xdx Tryz.func62 h (fun _ _=>by kernel_rfl) (by kernel_rfl) (by kernel_rfl) (by kernel_rfl)
def Yt (a:Option Addr) (C:Int) (E:Option Addr) (F:Nat) (G:Nat) (w:World) (Q:VWP):Prop:=
 ∃ b,a=some b∧
 ∃ c,Ld Tryz.prog 33 (.pointer (some (b.add 1))) w (.int .i64 c)∧
 cond (c != 0)
 (Q (.slice none 0 0) w)
 (∃ d e f A,Ef Tryz.prog (Instr.buildSlice 23 0 #[]) w (.slice d e f) A∧
 ∃ g,a=some g∧
 ∃ i j k,Ld Tryz.prog 23 (.pointer (some (g.add 0))) A (.slice i j k)∧
 ∃ l m n,Pu Tryz.prog (Instr.sliceAt 23 (.slice i j k) none (some (.int .i64 C)) none) (.slice l m n)∧
 ∃ o p q B,Ef Tryz.prog (Builtin.append_ #[23,23] 23 #[.slice d e f,.slice l m n]) A (.slice o p q) B∧
 ∃ r,a=some r∧
 ∃ s t u,Ld Tryz.prog 23 (.pointer (some (r.add 0))) B (.slice s t u)∧
 ∃ v x y,Pu Tryz.prog (Instr.sliceAt 23 (.slice s t u) (some (.int .i64 C)) none none) (.slice v x y)∧
 ∃ z,a=some z∧
 ∃ D,Sto Tryz.prog 23 (.pointer (some (z.add 0))) (.slice v x y) B D∧
 Q (.slice o p q) D)
def Y2 (b:Option Addr) (c:Int) (d:Option Addr) (e:Nat) (f:Nat) (g:Bool) (w:World) (Q:VWP):Prop:=
 cond g
 (∃ a,b=some a∧
 ∃ i,Sto Tryz.prog 33 (.pointer (some (a.add 1))) (.int .i64 12) w i∧
 Yt b c d e f i Q)
 (Yt b c d e f w Q)
def Jg (a:Option Addr) (f:Int) (g:Option Addr) (i:Nat) (j:Nat) (w:World) (Q:VWP):Prop:=
 ∃ b,a=some b∧
 ∃ c,Ld Tryz.prog 33 (.pointer (some (b.add 1))) w (.int .i64 c)∧
 cond (c == 0)
 (∃ d,a=some d∧
 ∃ k e l,Ld Tryz.prog 23 (.pointer (some (d.add 0))) w (.slice k e l)∧
 Y2 a f g i j (decide (f > ((e:Nat):Int))) w Q)
 (Y2 a f g i j false w Q)
def Y3 (b:Option Addr) (c:Int) (d:Option Addr) (e:Nat) (f:Nat) (g:Bool) (w:World) (Q:VWP):Prop:=
 cond g
 (∃ a,b=some a∧
 ∃ i,Sto Tryz.prog 33 (.pointer (some (a.add 1))) (.int .i64 11) w i∧
 Jg b c d e f i Q)
 (Jg b c d e f w Q)
def Wp (a:Option Addr) (b:Int) (w:World) (Q:VWP):Prop:=
 ∃ c,a=some c∧
 ∃ d,Ld Tryz.prog 33 (.pointer (some (c.add 1))) w (.int .i64 d)∧
 cond (d == 0)
 (Y3 a b none 0 0 (decide (b<0)) w Q)
 (Y3 a b none 0 0 false w Q)
def XbN:Nat→List (Nat×TypeId):=fun _=>[]
theorem Q5 (a:Option Addr) (b:Int) (w:World) (Q:VWP) (h:Wp a b w Q):Xa Tryz.prog 111 #[.pointer a,.int .i64 b] w Q:=
 Xd XbN Tryz.func111 h (fun _ _=>by kernel_rfl) (by kernel_rfl) (by kernel_rfl) (by kernel_rfl)
def Ye (g:Option Addr) (k:Option Addr) (l:Nat) (m:Nat) (n:Int) (p:Option Addr) (q:Nat) (r:Nat) (w:World) (Q:VWP):Prop:=
 ∃ a,g=some a∧
 ∃ b,Ld Tryz.prog 33 (.pointer (some (a.add 1))) w (.int .i64 b)∧
 cond (b != 0)
 (∃ c,g=some c∧
 ∃ i,Sto Tryz.prog 23 (.pointer (some (c.add 0))) (.slice k l m) w i∧
 Q (.slice none 0 0) i)
 (Xa Tryz.prog 111 #[.pointer g,.int .i64 (IntKind.i64.wrap n)] w fun j o=>
 ∃ d e f,j=.slice d e f∧
 Q (.slice d e f) o)
def YF (b:Option Addr) (c:Option Addr) (d:Nat) (e:Nat) (f:Int) (g:Option Addr) (i:Nat) (j:Nat) (k:Bool) (w:World) (Q:VWP):Prop:=
 cond k
 (∃ a,b=some a∧
 ∃ l,Sto Tryz.prog 33 (.pointer (some (a.add 1))) (.int .i64 12) w l∧
 Ye b c d e f g i j l Q)
 (Ye b c d e f g i j w Q)
def Vs (a:Option Addr) (f:Option Addr) (g:Nat) (i:Nat) (e:Int) (w:World) (Q:VWP):Prop:=
 ∃ j,a=some j∧
 ∃ b,Ld Tryz.prog 33 (.pointer (some (j.add 1))) w (.int .i64 b)∧
 cond (b == 0)
 (∃ c,a=some c∧
 ∃ k d l,Ld Tryz.prog 23 (.pointer (some (c.add 0))) w (.slice k d l)∧
 YF a f g i e none 0 0 (decide (e > (IntKind.u64.wrap ((d:Nat):Int)))) w Q)
 (YF a f g i e none 0 0 false w Q)
def Q6:Nat→List (Nat×TypeId):=fun _=>[]
theorem Qh (a:Option Addr) (b:Option Addr) (c:Nat) (d:Nat) (e:Int) (w:World) (Q:VWP) (h:Vs a b c d e w Q):Xa Tryz.prog 112 #[.pointer a,.slice b c d,.int .u64 e] w Q:=
 Xd Q6 Tryz.func112 h (fun _ _=>by kernel_rfl) (by kernel_rfl) (by kernel_rfl) (by kernel_rfl)
end Go.Sh
end

section
namespace Go.Sh
open Go Go.Fw Go.Proofs
set_option maxRecDepth 100000
set_option linter.unusedVariables false
def Xc7 (au:Option Addr) (av:Option Addr) (ax:Nat) (ay:Nat) (ai:Option Addr) (aj:Nat) (ak:Nat) (az:Int) (b:Addr) (aC:Int) (am:Int) (w:World) (Q:VWP):Prop:=
 ∃ (u:World→Prop),
 Drw w fun c=>
 ∃ z,au=some z∧
 ∃ A B C,Pu Tryz.prog (Instr.sliceAt 23 (.slice ai aj ak) (some (.int .i64 1)) (some (.int .i64 13)) none) (.slice A B C)∧
 ∃ D E F,Pu Tryz.prog (Instr.sliceAt 23 (.slice ai aj ak) (some (.int .i64 13)) none none) (.slice D E F)∧
 ∃ G,IxA Tryz.prog 23 (.slice ai aj ak) (.int .i64 0) G∧
 ∃ H I J,HLd Tryz.prog u 46 (.pointer (some (z.add 0))) c (.slice H I J)∧
 ∃ L,IxA Tryz.prog 46 (.slice H I J) (.int .i64 am) L∧
 ∃ M N O,HLd Tryz.prog u 23 (.pointer (some (L.add 1))) c (.slice M N O)∧
 ∃ P,Ld Tryz.prog 5 (.pointer (some G)) c (.int .u8 P)∧
 (c=c∨u c)∧
 Xa Tryz.prog 23 #[.int .i64 (IntKind.i64.wrap P),.slice av ax ay] c fun an al=>
 ∃ R S T,an=.slice R S T∧
 (al=c∨u al)∧
 Xa Tryz.prog 12 #[.slice M N O,.slice A B C,.slice D E F,.slice R S T] al fun ao ap=>
 ∃ U V W X,ao=.tuple #[.slice U V W,.int .i64 X]∧
 cond (X != 0)
 (∃ v,Sto Tryz.prog 38 (.pointer (some b)) (.agg #[.int .u64 0,.slice none 0 0,.slice none 0 0]) ap v∧
 ∃ m aq,(.pointer (some b):Value)=.pointer (some m)∧(loadVar 38 m).run Tryz.prog v=.ok aq v∧
 Q (.tuple #[aq,.int .i64 13]) v)
 (Xa Tryz.prog 24 #[.slice U V W] ap fun ar aA=>
 ∃ Y Z aa ab d e f a,ar=.tuple #[.agg #[.int .u64 Y,.slice Z aa ab,.slice d e f],.int .i64 a]∧
 ∃ ac,Pu Tryz.prog (zeroValue 38) ac∧
 New ac.cells 38 aA fun n aB=>
 ∃ l,Sto Tryz.prog 38 (.pointer (some ⟨n,0,none⟩)) (.agg #[.int .u64 Y,.slice Z aa ab,.slice d e f]) aB l∧
 cond (a != 0)
 (∃ x,Sto Tryz.prog 38 (.pointer (some b)) (.agg #[.int .u64 0,.slice none 0 0,.slice none 0 0]) l x∧
 ∃ o p,(.pointer (some b):Value)=.pointer (some o)∧(loadVar 38 o).run Tryz.prog x=.ok p x∧
 Q (.tuple #[p,.int .i64 a]) x)
 (∃ ad,Ld Tryz.prog 24 (.pointer (some ((⟨n,0,none⟩:Addr).add 0))) l (.int .u64 ad)∧
 cond (decide (ad<az))
 (∃ y,Sto Tryz.prog 38 (.pointer (some b)) (.agg #[.int .u64 0,.slice none 0 0,.slice none 0 0]) l y∧
 ∃ q r,(.pointer (some b):Value)=.pointer (some q)∧(loadVar 38 q).run Tryz.prog y=.ok r y∧
 Q (.tuple #[r,.int .i64 20]) y)
 (∃ ae af ag ah g i j,Ld Tryz.prog 38 (.pointer (some ⟨n,0,none⟩)) l (.agg #[.int .u64 ae,.slice af ag ah,.slice g i j])∧
 ∃ k,Sto Tryz.prog 38 (.pointer (some b)) (.agg #[.int .u64 ae,.slice af ag ah,.slice g i j]) l k∧
 ∃ s t,(.pointer (some b):Value)=.pointer (some s)∧(loadVar 38 s).run Tryz.prog k=.ok t k∧
 Q (.tuple #[t,.int .i64 0]) k)))
def JL (g:Option Addr) (i:Option Addr) (j:Nat) (k:Nat) (l:Option Addr) (m:Nat) (n:Nat) (o:Int) (c:Addr) (p:Int) (d:Int) (e:Bool) (w:World) (Q:VWP):Prop:=
 cond e
 (∃ b,Sto Tryz.prog 38 (.pointer (some c)) (.agg #[.int .u64 0,.slice none 0 0,.slice none 0 0]) w b∧
 ∃ a f,(.pointer (some c):Value)=.pointer (some a)∧(loadVar 38 a).run Tryz.prog b=.ok f b∧
 Q (.tuple #[f,.int .i64 13]) b)
 (Xc7 g i j k l m n o c p d w Q)
def XiX (k:Option Addr) (q:Option Addr) (l:Nat) (r:Nat) (m:Option Addr) (c:Nat) (n:Nat) (s:Int) (w:World) (Q:VWP):Prop:=
 ∃ t,Pu Tryz.prog (zeroValue 38) t∧
 New t.cells 38 w fun b o=>
 cond (decide (((c:Nat):Int)<29))
 (∃ f,Sto Tryz.prog 38 (.pointer (some ⟨b,0,none⟩)) (.agg #[.int .u64 0,.slice none 0 0,.slice none 0 0]) o f∧
 ∃ u v,(.pointer (some ⟨b,0,none⟩):Value)=.pointer (some u)∧(loadVar 38 u).run Tryz.prog f=.ok v f∧
 Q (.tuple #[v,.int .i64 12]) f)
 (∃ i,IxA Tryz.prog 23 (.slice m c n) (.int .i64 0) i∧
 ∃ j,Ld Tryz.prog 5 (.pointer (some i)) o (.int .u8 j)∧
 Xa Tryz.prog 11 #[.pointer k,.int .i64 (IntKind.i64.wrap j)] o fun x p=>
 ∃ a,x=.int .i64 a∧
 cond (decide (a<0))
 (∃ g,Sto Tryz.prog 38 (.pointer (some ⟨b,0,none⟩)) (.agg #[.int .u64 0,.slice none 0 0,.slice none 0 0]) p g∧
 ∃ d e,(.pointer (some ⟨b,0,none⟩):Value)=.pointer (some d)∧(loadVar 38 d).run Tryz.prog g=.ok e g∧
 Q (.tuple #[e,.int .i64 17]) g)
 (cond (decide (((l:Nat):Int) > 64))
 (JL k q l r m c n s (⟨b,0,none⟩:Addr) 0 a true p Q)
 (JL k q l r m c n s (⟨b,0,none⟩:Addr) 0 a (decide (((c:Nat):Int) > 4096)) p Q)))
def Xl3:Nat→List (Nat×TypeId):=fun _=>[]
theorem XiY (a:Option Addr) (b:Option Addr) (c:Nat) (d:Nat) (e:Option Addr) (f:Nat) (g:Nat) (i:Int) (w:World) (Q:VWP) (h:XiX a b c d e f g i w Q):Xa Tryz.prog 9 #[.pointer a,.slice b c d,.slice e f g,.int .u64 i] w Q:=
 Xd Xl3 Tryz.func9 h (fun _ _=>by kernel_rfl) (by kernel_rfl) (by kernel_rfl) (by kernel_rfl)
def XiZ (j:Int) (k:Option Addr) (l:Nat) (m:Nat) (w:World) (Q:VWP):Prop:=
 ∃ a b c d,Ef Tryz.prog (Instr.buildSlice 23 1 #[(0,.int .u8 (IntKind.u8.wrap j))]) w (.slice a b c) d∧
 ∃ e f g i,Ef Tryz.prog (Builtin.append_ #[23,23] 23 #[.slice a b c,.slice k l m]) d (.slice e f g) i∧
 Q (.slice e f g) i
def Xl4:Nat→List (Nat×TypeId):=fun _=>[]
theorem Xi0 (a:Int) (b:Option Addr) (c:Nat) (d:Nat) (w:World) (Q:VWP) (h:XiZ a b c d w Q):Xa Tryz.prog 23 #[.int .i64 a,.slice b c d] w Q:=
 Xd Xl4 Tryz.func23 h (fun _ _=>by kernel_rfl) (by kernel_rfl) (by kernel_rfl) (by kernel_rfl)
def Y4 (g:Addr) (r:Int) (q:Addr) (o:Int) (w:World) (Q:VWP):Prop:=
 cond (o != 0)
 (∃ i,Sto Tryz.prog 38 (.pointer (some g)) (.agg #[.int .u64 0,.slice none 0 0,.slice none 0 0]) w i∧
 ∃ d p,(.pointer (some g):Value)=.pointer (some d)∧(loadVar 38 d).run Tryz.prog i=.ok p i∧
 Q (.tuple #[p,.int .i64 o]) i)
 (∃ k l m n a b c,Ld Tryz.prog 38 (.pointer (some q)) w (.agg #[.int .u64 k,.slice l m n,.slice a b c])∧
 ∃ j,Sto Tryz.prog 38 (.pointer (some g)) (.agg #[.int .u64 k,.slice l m n,.slice a b c]) w j∧
 ∃ e f,(.pointer (some g):Value)=.pointer (some e)∧(loadVar 38 e).run Tryz.prog j=.ok f j∧
 Q (.tuple #[f,.int .i64 0]) j)
def XeM (D:Option Addr) (E:Nat) (F:Nat) (w:World) (Q:VWP):Prop:=
 ∃ p,Pu Tryz.prog (zeroValue 38) p∧
 New p.cells 38 w fun d G=>
 New #[.slice D E F,.int .i64 0] 125 G fun e H=>
 Xa Tryz.prog 60 #[.pointer (some ⟨e,0,none⟩),.int .i64 8] H fun q I=>
 ∃ f,q=.int .u64 f∧
 ∃ r,Pu Tryz.prog (zeroValue 38) r∧
 New r.cells 38 I fun b J=>
 ∃ s,Sto Tryz.prog 38 (.pointer (some ⟨b,0,none⟩)) (.agg #[.int .u64 f,.slice none 0 0,.slice none 0 0]) J s∧
 Xa Tryz.prog 61 #[.pointer (some ⟨e,0,none⟩)] s fun t L=>
 ∃ g i j,t=.slice g i j∧
 ∃ u,Sto Tryz.prog 23 (.pointer (some ((⟨b,0,none⟩:Addr).add 1))) (.slice g i j) L u∧
 Xa Tryz.prog 61 #[.pointer (some ⟨e,0,none⟩)] u fun v M=>
 ∃ k l m,v=.slice k l m∧
 ∃ x,Sto Tryz.prog 23 (.pointer (some ((⟨b,0,none⟩:Addr).add 2))) (.slice k l m) M x∧
 Xa Tryz.prog 62 #[.pointer (some ⟨e,0,none⟩)] x fun y a=>
 ∃ c,y=.int .i64 c∧
 cond (c == 0)
 (∃ z n A,Ld Tryz.prog 23 (.pointer (some ((⟨b,0,none⟩:Addr).add 1))) a (.slice z n A)∧
 cond (decide (((n:Nat):Int) > 20))
 (Y4 (⟨d,0,none⟩:Addr) 0 (⟨b,0,none⟩:Addr) 10 a Q)
 (∃ B o C,Ld Tryz.prog 23 (.pointer (some ((⟨b,0,none⟩:Addr).add 2))) a (.slice B o C)∧
 cond (decide (((o:Nat):Int) > 20))
 (Y4 (⟨d,0,none⟩:Addr) 0 (⟨b,0,none⟩:Addr) 10 a Q)
 (Y4 (⟨d,0,none⟩:Addr) 0 (⟨b,0,none⟩:Addr) c a Q)))
 (Y4 (⟨d,0,none⟩:Addr) 0 (⟨b,0,none⟩:Addr) c a Q)
def Xi1:Nat→List (Nat×TypeId):=fun _=>[]
theorem XfM (a:Option Addr) (b:Nat) (c:Nat) (w:World) (Q:VWP) (h:XeM a b c w Q):Xa Tryz.prog 24 #[.slice a b c] w Q:=
 Xd Xi1 Tryz.func24 h (fun _ _=>by kernel_rfl) (by kernel_rfl) (by kernel_rfl) (by kernel_rfl)
end Go.Sh
end

section
namespace Go.Sh
open Go Go.Fw Go.Proofs
set_option maxRecDepth 100000
set_option linter.unusedVariables false
def Xgj (y:Option Addr) (z:Nat) (A:Nat) (w:World) (Q:VWP):Prop:=
 Xa Tryz.prog 14 #[] w fun B C=>
 ∃ f,B=.pointer f∧
 New #[.slice none 0 0] 48 C fun s D=>
 ∃ k r,Ef Tryz.prog (do eqGuard .eql 29 (.tmp 10) (.const (.pointer none)) (.pointer f) (.pointer none); binOp .eql 29 (.pointer f) (.pointer none):Sem Value) D (.bool k) r∧
 cond k
 (Q (.tuple #[.pointer none,.pointer (some ⟨s,0,none⟩)]) r)
 (LoopS [.slice y z A,.pointer none,.pointer none,.pointer f,.pointer (some ⟨s,0,none⟩),.int .i64 0] r fun E F l _ d=>
 ∃ b a c t u g i j,l=[.slice b a c,.pointer t,.pointer u,.pointer g,.pointer (some i),.int .i64 j]∧
 cond (decide (j<((a:Nat):Int)))
 (∃ m,IxA Tryz.prog 22 (.slice b a c) (.int .i64 j) m∧
 ∃ n e o p q,Ld Tryz.prog 55 (.pointer (some m)) d (.agg #[.int .i64 n,.int .i64 e,.slice o p q])∧
 Xa Tryz.prog 15 #[.pointer g,.pointer (some i),.agg #[.int .i64 n,.int .i64 e,.slice o p q]] d fun v G=>
 ∃ x,v=.bool x∧
 Xj [] [] E F l [.slice b a c,.pointer t,.pointer u,.pointer g,.pointer (some i),.int .i64 (IntKind.i64.wrap (j+1))] d G)
 (Q (.tuple #[.pointer g,.pointer (some i)]) d))
def Xko:Nat→List (Nat×TypeId):=fun n=>match n with | 0=>[(0,22),(2,29),(3,30),(4,29),(5,1000000),(6,3)] | _=>[]
theorem Xha (a:Option Addr) (b:Nat) (c:Nat) (w:World) (Q:VWP) (h:Xgj a b c w Q):Xa Tryz.prog 6 #[.slice a b c] w Q:=
 Xd Xko Tryz.func6 h (fun _ _=>by kernel_rfl) (by kernel_rfl) (by kernel_rfl) (by kernel_rfl)
end Go.Sh
end

section
namespace Go.Sh
open Go Go.Fw Go.Proofs
set_option maxRecDepth 100000
set_option linter.unusedVariables false
def Zn (T:Option Addr) (U:Nat) (V:Nat) (X:Bool) (J:Option Addr) (d:Option Addr) (e:Nat) (f:Nat) (L:Int) (w:World) (Q:VWP):Prop:=
 ∃ g,IxA Tryz.prog 23 (.slice d e f) (.int .i64 0) g∧
 ∃ i,Ld Tryz.prog 5 (.pointer (some g)) w (.int .u8 i)∧
 Xa Tryz.prog 11 #[.pointer J,.int .i64 (IntKind.i64.wrap i)] w fun M S=>
 ∃ c,M=.int .i64 c∧
 cond (decide (c<0))
 (Q (.bool (L == 17)) S)
 (∃ (a:World→Prop),
 Drw S fun b=>
 ∃ j,J=some j∧
 ∃ k l m,Pu Tryz.prog (Instr.sliceAt 23 (.slice d e f) (some (.int .i64 1)) (some (.int .i64 13)) none) (.slice k l m)∧
 ∃ n o p,Pu Tryz.prog (Instr.sliceAt 23 (.slice d e f) (some (.int .i64 13)) none none) (.slice n o p)∧
 ∃ q,IxA Tryz.prog 23 (.slice d e f) (.int .i64 0) q∧
 ∃ r s t,HLd Tryz.prog a 46 (.pointer (some (j.add 0))) b (.slice r s t)∧
 ∃ u,IxA Tryz.prog 46 (.slice r s t) (.int .i64 c) u∧
 ∃ v x y,HLd Tryz.prog a 23 (.pointer (some (u.add 1))) b (.slice v x y)∧
 ∃ z,Ld Tryz.prog 5 (.pointer (some q)) b (.int .u8 z)∧
 (b=b∨a b)∧
 ∃ A B C D,Ef Tryz.prog (Instr.buildSlice 23 1 #[(0,.int .u8 z)]) b (.slice A B C) D∧
 (D=b∨a D)∧
 ∃ E F G I,Ef Tryz.prog (Builtin.append_ #[23,23] 23 #[.slice A B C,.slice T U V]) D (.slice E F G) I∧
 (I=D∨a I)∧
 Xa Tryz.prog 12 #[.slice v x y,.slice k l m,.slice n o p,.slice E F G] I fun N W=>
 ∃ O P R H,N=.tuple #[.slice O P R,.int .i64 H]∧
 Q (.bool ((H != 0) == (L == 13))) W)
def Uc (V:Option Addr) (W:Nat) (X:Nat) (aa:Int) (ah:Int) (ab:Bool) (ac:Option Addr) (I:Option Addr) (b:Option Addr) (c:Nat) (d:Nat) (w:World) (Q:VWP):Prop:=
 ∃ J,IxA Tryz.prog 23 (.slice b c d) (.int .i64 aa) J∧
 ∃ L,Ld Tryz.prog 5 (.pointer (some J)) w (.int .u8 L)∧
 ∃ M,IxA Tryz.prog 23 (.slice b c d) (.int .i64 aa) M∧
 ∃ ad,Sto Tryz.prog 5 (.pointer (some M)) (.int .u8 (YE .u8 L ah)) w ad∧
 Xa Tryz.prog 8 #[.pointer ac,.slice V W X,.slice b c d,.int .u64 0] ad fun ae ai=>
 ∃ N O P R n o p a,ae=.tuple #[.agg #[.int .u64 N,.slice O P R,.slice n o p],.int .i64 a]∧
 ∃ S,Pu Tryz.prog (zeroValue 26) S∧
 New S.cells 26 ai fun T aj=>
 ∃ af,Sto Tryz.prog 26 (.pointer (some ⟨T,0,none⟩)) (.agg #[.int .u64 N,.slice O P R,.slice n o p]) aj af∧
 Xa Tryz.prog 9 #[.pointer I,.slice V W X,.slice b c d,.int .u64 0] af fun Y ak=>
 ∃ r s t u e f g i,Y=.tuple #[.agg #[.int .u64 r,.slice s t u,.slice e f g],.int .i64 i]∧
 ∃ U,Pu Tryz.prog (zeroValue 38) U∧
 New U.cells 38 ak fun q al=>
 ∃ m,Sto Tryz.prog 38 (.pointer (some ⟨q,0,none⟩)) (.agg #[.int .u64 r,.slice s t u,.slice e f g]) al m∧
 cond (a != i)
 (Q (.bool false) m)
 (∃ v x y z j k l,Ld Tryz.prog 26 (.pointer (some ⟨T,0,none⟩)) m (.agg #[.int .u64 v,.slice x y z,.slice j k l])∧
 ∃ A,Ld Tryz.prog 24 (.pointer (some ((⟨q,0,none⟩:Addr).add 0))) m (.int .u64 A)∧
 ∃ B C D,Ld Tryz.prog 23 (.pointer (some ((⟨q,0,none⟩:Addr).add 1))) m (.slice B C D)∧
 ∃ E F G,Ld Tryz.prog 23 (.pointer (some ((⟨q,0,none⟩:Addr).add 2))) m (.slice E F G)∧
 Xa Tryz.prog 10 #[.agg #[.int .u64 v,.slice x y z,.slice j k l],.agg #[.int .u64 A,.slice B C D,.slice E F G]] m fun Z ag=>
 ∃ H,Z=.bool H∧
 cond (!H)
 (Q (.bool false) ag)
 (Zn V W X ab I b c d a ag Q))
def Ud (B:Option Addr) (C:Nat) (D:Nat) (E:Int) (F:Option Addr) (G:Nat) (H:Nat) (s:Option Addr) (t:Nat) (u:Nat) (r:Int) (v:Int) (x:Addr) (y:Bool) (w:World) (Q:VWP):Prop:=
 Xa Tryz.prog 6 #[.slice B C D] w fun z I=>
 ∃ a b,z=.tuple #[.pointer a,.pointer b]∧
 ∃ k j,Ef Tryz.prog (do eqGuard .eql 29 (.tmp 57) (.const (.pointer none)) (.pointer a) (.pointer none); binOp .eql 29 (.pointer a) (.pointer none):Sem Value) I (.bool k) j∧
 cond k
 (Q (.bool false) j)
 (∃ l m n o c d e,Ld Tryz.prog 26 (.pointer (some x)) j (.agg #[.int .u64 l,.slice m n o,.slice c d e])∧
 Xa Tryz.prog 7 #[.pointer a,.int .i64 E,.slice F G H,.slice s t u,.agg #[.int .u64 l,.slice m n o,.slice c d e]] j fun A f=>
 ∃ p g q i,A=.tuple #[.slice p g q,.int .i64 i]∧
 cond (i != 0)
 (Q (.bool (i == 17)) f)
 (cond (decide (r<0))
 (Q (.bool true) f)
 (cond (decide (r≥((g:Nat):Int)))
 (Q (.bool true) f)
 (cond (v == 0)
 (Q (.bool true) f)
 (Uc s t u r v y a b p g q f Q)))))
def U7 (k:Option Addr) (l:Nat) (m:Nat) (x:Int) (y:Option Addr) (n:Nat) (z:Nat) (A:Option Addr) (o:Nat) (B:Nat) (C:Int) (D:Option Addr) (E:Nat) (F:Nat) (g:Option Addr) (i:Nat) (j:Nat) (G:Int) (H:Int) (w:World) (Q:VWP):Prop:=
 New #[.int .u64 C,.slice D E F,.slice g i j] 26 w fun b I=>
 Xa Tryz.prog 4 #[] I fun p q=>
 ∃ c,p=.bool c∧
 cond (!c)
 (Q (.bool false) q)
 (Xa Tryz.prog 5 #[.slice k l m] q fun r a=>
 ∃ d,r=.bool d∧
 cond d
 (Q (.bool true) a)
 (cond (((n:Nat):Int) != 12)
 (Q (.bool true) a)
 (cond (decide (((o:Nat):Int) > 64))
 (Q (.bool true) a)
 (∃ s e t,Ld Tryz.prog 23 (.pointer (some ((⟨b,0,none⟩:Addr).add 1))) a (.slice s e t)∧
 cond (decide (((e:Nat):Int) > 20))
 (Q (.bool true) a)
 (∃ u f v,Ld Tryz.prog 23 (.pointer (some ((⟨b,0,none⟩:Addr).add 2))) a (.slice u f v)∧
 cond (decide (((f:Nat):Int) > 20))
 (Q (.bool true) a)
 (Ud k l m x y n z A o B G H (⟨b,0,none⟩:Addr) false a Q))))))
def QL:Nat→List (Nat×TypeId):=fun _=>[]
theorem WI (d:Option Addr) (e:Nat) (f:Nat) (g:Int) (i:Option Addr) (j:Nat) (k:Nat) (l:Option Addr) (m:Nat) (n:Nat) (o:Int) (p:Option Addr) (q:Nat) (r:Nat) (a:Option Addr) (b:Nat) (c:Nat) (s:Int) (t:Int) (w:World) (Q:VWP) (h:U7 d e f g i j k l m n o p q r a b c s t w Q):Xa Tryz.prog 3 #[.slice d e f,.int .i64 g,.slice i j k,.slice l m n,.agg #[.int .u64 o,.slice p q r,.slice a b c],.int .i64 s,.int .u8 t] w Q:=
 Xd QL Tryz.func3 h (fun _ _=>by kernel_rfl) (by kernel_rfl) (by kernel_rfl) (by kernel_rfl)
end Go.Sh
end
