/- A part of a proof of a given law of this program: lemmas, printed forms of its functions, contracts. It has no conditions of its own. -/
import Derived.Test.YtlnohlefimgdnaaGreatDoorProg
import Derived.Test.YtlnohlefimgdnaaGreatDoorMW0

set_option maxHeartbeats 16000000
section
namespace Go.Sh
open Go Go.Fw Go.Proofs
set_option maxRecDepth 100000
set_option linter.unusedVariables false
def Y0 (k:Inv) (l:J1) (d:List Value) (e:World) (f:Option Addr) (m:Option Addr) (n:Nat) (o:Nat) (p:Int) (g:Addr) (i:Int) (w:World) (Q:VWP):Prop:=
 ∃ b,f=some b∧
 ∃ c,IxA Tryz.prog 258 (.pointer (some (b.add 1))) (.int .i64 i) c∧
 ∃ (a:Array Value),Ld Tryz.prog 257 (.pointer (some c)) w (.agg a)∧
 Xa Tryz.prog 156 #[.pointer (some g),.agg a] w fun j q=>
 j=.tuple #[]∧
 Xj [] [] k l d [.pointer f,.slice m n o,.int .i64 p,.pointer (some g),.int .i64 (IntKind.i64.wrap (i+1))] e q
def Wj (r:Option Addr) (M:Option Addr) (z:Nat) (N:Nat) (w:World) (Q:VWP):Prop:=
 cond (((z:Nat):Int) != 16)
 (Q (.tuple #[.slice none 0 0,.int .i64 11]) w)
 (∃ i,r=some i∧
 Xa Tryz.prog 103 #[.pointer (some (i.add 177)),.int .i64 1] w fun A B=>
 ∃ C,A=.int .i64 C∧
 ∃ j,Pu Tryz.prog (Instr.arrayAt 257 (.slice M z N)) (.pointer j)∧
 ∃ (d:Array Value),Ld Tryz.prog 257 (.pointer j) B (.agg d)∧
 ∃ D,Pu Tryz.prog (zeroValue 257) D∧
 New D.cells 257 B fun s O=>
 ∃ t,Sto Tryz.prog 257 (.pointer (some ⟨s,0,none⟩)) (.agg d) O t∧
 ∃ k,r=some k∧
 ∃ l,IxA Tryz.prog 258 (.pointer (some (k.add 1))) (.int .i64 0) l∧
 ∃ (e:Array Value),Ld Tryz.prog 257 (.pointer (some l)) t (.agg e)∧
 Xa Tryz.prog 156 #[.pointer (some ⟨s,0,none⟩),.agg e] t fun E P=>
 E=.tuple #[]∧
 LoopS [.pointer r,.slice none 0 0,.int .i64 0,.pointer (some ⟨s,0,none⟩),.int .i64 1] P fun F G f _ b=>
 ∃ a u v x y c g,f=[.pointer a,.slice u v x,.int .i64 y,.pointer (some c),.int .i64 g]∧
 cond (decide (g≤10))
 (∃ m,a=some m∧
 ∃ n,Ld Tryz.prog 256 (.pointer (some (m.add 0))) b (.pointer n)∧
 Xa Tryz.prog 157 #[.pointer (some c),.func (.func 158) #[.pointer n] #[]] b fun H R=>
 H=.tuple #[]∧
 Xa Tryz.prog 159 #[.pointer (some c),.int .i64 1] R fun I J=>
 I=.tuple #[]∧
 cond (decide (g<10))
 (Xa Tryz.prog 160 #[.pointer (some c),.func (.func 161) #[.pointer a] #[],.agg #[.int .i64 0,.int .i64 1,.int .i64 (-1),.int .i64 (-1)]] J fun L S=>
 L=.tuple #[]∧
 Y0 F G f b a u v x y c g S Q)
 (Y0 F G f b a u v x y c g J Q))
 (∃ o p q,Pu Tryz.prog (Instr.sliceAt 257 (.pointer (some c)) none none none) (.slice o p q)∧
 Q (.tuple #[.slice o p q,.int .i64 0]) b))
def Xbv:Nat→List (Nat×TypeId):=fun n=>match n with | 0=>[(0,165),(4,23),(5,33),(6,1000000),(7,3)] | _=>[]
theorem Q1 (a:Option Addr) (b:Option Addr) (c:Nat) (d:Nat) (w:World) (Q:VWP) (h:Wj a b c d w Q):Xa Tryz.prog 98 #[.pointer a,.slice b c d] w Q:=
 Xd Xbv Tryz.func98 h (fun _ _=>by kernel_rfl) (by kernel_rfl) (by kernel_rfl) (by kernel_rfl)
def Qf (p:Inv) (q:J1) (j:List Value) (k:World) (r:Option Addr) (s:Nat) (t:Nat) (u:Option Addr) (v:Int) (x:Addr) (i:Addr) (l:Int) (y:Addr) (m:Int) (w:World) (Q:VWP):Prop:=
 ∃ (e:World→Prop),
 Drw w fun a=>
 ∃ f,IxA Tryz.prog 351 (.pointer (some i)) (.int .i64 (IntKind.i64.wrap (l - 4))) f∧
 ∃ (b:Array Value),HLd Tryz.prog e 350 (.pointer (some f)) a (.agg b)∧
 ∃ (c:Array Value),Ld Tryz.prog 350 (.pointer (some y)) a (.agg c)∧
 (a=a∨e a)∧
 Xa Tryz.prog 226 #[.agg b,.agg c] a fun n z=>
 ∃ (d:Array Value),n=.agg d∧
 ∃ g,IxA Tryz.prog 351 (.pointer (some i)) (.int .i64 l) g∧
 ∃ o,Sto Tryz.prog 350 (.pointer (some g)) (.agg d) z o∧
 Xj [] [] p q j [.slice r s t,.pointer u,.int .i64 v,.pointer (some x),.pointer (some i),.int .i64 (IntKind.i64.wrap (m+1))] k o
def Xid (y:Option Addr) (z:Int) (A:Addr) (B:Addr) (w:World) (Q:VWP):Prop:=
 ∃ (d:Array Value),Ld Tryz.prog 351 (.pointer (some B)) w (.agg d)∧
 LoopS [.pointer y,.int .i64 z,.pointer (some A),.agg d,.int .i64 0] w fun C D j _ e=>
 ∃ (f:Option Addr) (g:Int) (c:Addr) (a:Array Value) (b:Int),j=[.pointer f,.int .i64 g,.pointer (some c),.agg a,.int .i64 b]∧
 cond (decide (b<44))
 (∃ (i:Array Value),Pu Tryz.prog (Instr.index 351 (.agg a) (.int .i64 b)) (.agg i)∧
 ∃ s,Pu Tryz.prog (zeroValue 350) s∧
 New s.cells 350 e fun t E=>
 ∃ u,Sto Tryz.prog 350 (.pointer (some ⟨t,0,none⟩)) (.agg i) E u∧
 Drw u fun F=>
 ∃ k,some c=some k∧
 ∃ l,IxA Tryz.prog 258 (.pointer (some (k.add 1))) (.int .i64 (IntKind.i64.wrap (Int.tdiv b 4))) l∧
 ∃ m n o,Pu Tryz.prog (Instr.sliceAt 257 (.pointer (some l)) (some (.int .i64 (IntKind.i64.wrap (4*(Int.tmod b 4))))) none none) (.slice m n o)∧
 ∃ p q r,Pu Tryz.prog (Instr.sliceAt 350 (.pointer (some ⟨t,0,none⟩)) none none none) (.slice p q r)∧
 ∃ v x,Ef Tryz.prog (Builtin.copy_ #[23,23] 3 #[.slice m n o,.slice p q r]) F (.int .i64 v) x∧
 Xj [] [] C D j [.pointer f,.int .i64 g,.pointer (some c),.agg a,.int .i64 (IntKind.i64.wrap (b+1))] e x)
 (Q (.tuple #[.pointer (some c),.int .i64 0]) e)
def Xj0 (O:Option Addr) (E:Nat) (P:Nat) (w:World) (Q:VWP):Prop:=
 cond (((E:Nat):Int) != 16)
 (Q (.tuple #[.pointer none,.int .i64 11]) w)
 (∃ r s t F,Ef Tryz.prog (Instr.buildSlice 23 6 #[(0,.int .u8 2),(1,.int .u8 3),(2,.int .u8 9),(3,.int .u8 11),(4,.int .u8 13),(5,.int .u8 14)]) w (.slice r s t) F∧
 Xa Tryz.prog 224 #[.slice r s t] F fun G R=>
 ∃ u,G=.pointer u∧
 New #[.pointer u,.int .u8 0,.int .u8 0,.int .u8 0,.int .u8 0,.int .u8 0,.int .u8 0,.int .u8 0,.int .u8 0,.int .u8 0,.int .u8 0,.int .u8 0,.int .u8 0,.int .u8 0,.int .u8 0,.int .u8 0,.int .u8 0,.int .u8 0,.int .u8 0,.int .u8 0,.int .u8 0,.int .u8 0,.int .u8 0,.int .u8 0,.int .u8 0,.int .u8 0,.int .u8 0,.int .u8 0,.int .u8 0,.int .u8 0,.int .u8 0,.int .u8 0,.int .u8 0,.int .u8 0,.int .u8 0,.int .u8 0,.int .u8 0,.int .u8 0,.int .u8 0,.int .u8 0,.int .u8 0,.int .u8 0,.int .u8 0,.int .u8 0,.int .u8 0,.int .u8 0,.int .u8 0,.int .u8 0,.int .u8 0,.int .u8 0,.int .u8 0,.int .u8 0,.int .u8 0,.int .u8 0,.int .u8 0,.int .u8 0,.int .u8 0,.int .u8 0,.int .u8 0,.int .u8 0,.int .u8 0,.int .u8 0,.int .u8 0,.int .u8 0,.int .u8 0,.int .u8 0,.int .u8 0,.int .u8 0,.int .u8 0,.int .u8 0,.int .u8 0,.int .u8 0,.int .u8 0,.int .u8 0,.int .u8 0,.int .u8 0,.int .u8 0,.int .u8 0,.int .u8 0,.int .u8 0,.int .u8 0,.int .u8 0,.int .u8 0,.int .u8 0,.int .u8 0,.int .u8 0,.int .u8 0,.int .u8 0,.int .u8 0,.int .u8 0,.int .u8 0,.int .u8 0,.int .u8 0,.int .u8 0,.int .u8 0,.int .u8 0,.int .u8 0,.int .u8 0,.int .u8 0,.int .u8 0,.int .u8 0,.int .u8 0,.int .u8 0,.int .u8 0,.int .u8 0,.int .u8 0,.int .u8 0,.int .u8 0,.int .u8 0,.int .u8 0,.int .u8 0,.int .u8 0,.int .u8 0,.int .u8 0,.int .u8 0,.int .u8 0,.int .u8 0,.int .u8 0,.int .u8 0,.int .u8 0,.int .u8 0,.int .u8 0,.int .u8 0,.int .u8 0,.int .u8 0,.int .u8 0,.int .u8 0,.int .u8 0,.int .u8 0,.int .u8 0,.int .u8 0,.int .u8 0,.int .u8 0,.int .u8 0,.int .u8 0,.int .u8 0,.int .u8 0,.int .u8 0,.int .u8 0,.int .u8 0,.int .u8 0,.int .u8 0,.int .u8 0,.int .u8 0,.int .u8 0,.int .u8 0,.int .u8 0,.int .u8 0,.int .u8 0,.int .u8 0,.int .u8 0,.int .u8 0,.int .u8 0,.int .u8 0,.int .u8 0,.int .u8 0,.int .u8 0,.int .u8 0,.int .u8 0,.int .u8 0,.int .u8 0,.int .u8 0,.int .u8 0,.int .u8 0,.int .u8 0,.int .u8 0,.int .u8 0,.int .u8 0,.int .u8 0,.int .u8 0,.int .u8 0,.int .u8 0,.int .u8 0,.int .u8 0,.int .u8 0,.int .u8 0,.int .u8 0,.int .i64 0] 260 R fun H S=>
 ∃ I,Pu Tryz.prog (zeroValue 351) I∧
 New I.cells 351 S fun T U=>
 LoopS [.slice O E P,.pointer none,.int .i64 0,.pointer (some ⟨H,0,none⟩),.pointer (some ⟨T,0,none⟩),.int .i64 0] U fun C D g _ b=>
 ∃ c d e j k i f a,g=[.slice c d e,.pointer j,.int .i64 k,.pointer (some i),.pointer (some f),.int .i64 a]∧
 cond (decide (a<44))
 (cond (decide (a<4))
 (∃ v x y,Pu Tryz.prog (Instr.sliceAt 23 (.slice c d e) (some (.int .i64 (IntKind.i64.wrap (4*a)))) none none) (.slice v x y)∧
 ∃ z,Pu Tryz.prog (Instr.arrayAt 350 (.slice v x y)) (.pointer z)∧
 ∃ (l:Array Value),Ld Tryz.prog 350 (.pointer z) b (.agg l)∧
 ∃ A,IxA Tryz.prog 351 (.pointer (some f)) (.int .i64 a) A∧
 ∃ J,Sto Tryz.prog 350 (.pointer (some A)) (.agg l) b J∧
 Xj [] [] C D g [.slice c d e,.pointer j,.int .i64 k,.pointer (some i),.pointer (some f),.int .i64 (IntKind.i64.wrap (a+1))] b J)
 (∃ B,IxA Tryz.prog 351 (.pointer (some f)) (.int .i64 (IntKind.i64.wrap (a - 1))) B∧
 ∃ (m:Array Value),Ld Tryz.prog 350 (.pointer (some B)) b (.agg m)∧
 ∃ L,Pu Tryz.prog (zeroValue 350) L∧
 New L.cells 350 b fun n V=>
 ∃ q,Sto Tryz.prog 350 (.pointer (some ⟨n,0,none⟩)) (.agg m) V q∧
 cond ((Int.tmod a 4) == 0)
 (∃ (o:Array Value),Ld Tryz.prog 350 (.pointer (some ⟨n,0,none⟩)) q (.agg o)∧
 Xa Tryz.prog 225 #[.pointer (some i),.agg o,.int .i64 (IntKind.i64.wrap (Int.tdiv a 4))] q fun M W=>
 ∃ (p:Array Value),M=.agg p∧
 ∃ N,Sto Tryz.prog 350 (.pointer (some ⟨n,0,none⟩)) (.agg p) W N∧
 Qf C D g b c d e j k i f a (⟨n,0,none⟩:Addr) a N Q)
 (Qf C D g b c d e j k i f a (⟨n,0,none⟩:Addr) a q Q)))
 (Xid j k i f b Q))
def Xq9:Nat→List (Nat×TypeId):=fun n=>match n with | 0=>[(0,23),(2,165),(3,33),(4,1000000),(5,1000000),(17,3)] | 2=>[(2,165),(3,33),(4,1000000),(51,351),(52,3)] | _=>[]
theorem Xeg (a:Option Addr) (b:Nat) (c:Nat) (w:World) (Q:VWP) (h:Xj0 a b c w Q):Xa Tryz.prog 149 #[.slice a b c] w Q:=
 Xd Xq9 Tryz.func149 h (fun _ _=>by kernel_rfl) (by kernel_rfl) (by kernel_rfl) (by kernel_rfl)
def XcT (r:Option Addr) (o:Array Value) (w:World) (Q:VWP):Prop:=
 New o 257 w fun s t=>
 LoopS [.pointer r,.pointer (some ⟨s,0,none⟩),.int .i64 0] t fun u v e _ d=>
 ∃ a n b,e=[.pointer a,.pointer (some n),.int .i64 b]∧
 cond (decide (b<16))
 (∃ (p:World→Prop),
 Drw d fun c=>
 ∃ f,a=some f∧
 ∃ g,IxA Tryz.prog 257 (.pointer (some f)) (.int .i64 b) g∧
 ∃ i,IxA Tryz.prog 257 (.pointer (some n)) (.int .i64 b) i∧
 ∃ j,a=some j∧
 ∃ k,HLd Tryz.prog p 5 (.pointer (some g)) c (.int .u8 k)∧
 ∃ l,Ld Tryz.prog 5 (.pointer (some i)) c (.int .u8 l)∧
 (c=c∨p c)∧
 ∃ m,IxA Tryz.prog 257 (.pointer (some j)) (.int .i64 b) m∧
 ∃ q,Sto Tryz.prog 5 (.pointer (some m)) (.int .u8 (YE .u8 k l)) c q∧
 Xj [] [] u v e [.pointer a,.pointer (some n),.int .i64 (IntKind.i64.wrap (b+1))] d q)
 (Q (.tuple #[]) d)
def XgU:Nat→List (Nat×TypeId):=fun n=>match n with | 0=>[(0,370),(3,1000000),(5,3)] | _=>[]
theorem Xeh (b:Option Addr) (a:Array Value) (w:World) (Q:VWP) (h:XcT b a w Q):Xa Tryz.prog 156 #[.pointer b,.agg a] w Q:=
 Xd XgU Tryz.func156 h (fun _ _=>by kernel_rfl) (by kernel_rfl) (by kernel_rfl) (by kernel_rfl)
def Xbw (n:Option Addr) (r:Value) (w:World) (Q:VWP):Prop:=
 LoopS [.pointer n,r,.pointer n,.int .i64 0] w fun s t e _ c=>
 ∃ a b m d,e=[.pointer a,b,.pointer m,.int .i64 d]∧
 cond (decide (d<16))
 (Drw c fun o=>
 ∃ f,m=some f∧
 ∃ g,IxA Tryz.prog 257 (.pointer (some f)) (.int .i64 d) g∧
 ∃ i,Ld Tryz.prog 5 (.pointer (some g)) o (.int .u8 i)∧
 Drw o fun u=>
 ∃ j,a=some j∧
 Yv Tryz.prog (b) [.int .u8 i] u fun p v=>
 ∃ k,p=.int .u8 k∧
 ∃ l,IxA Tryz.prog 257 (.pointer (some j)) (.int .i64 d) l∧
 ∃ q,Sto Tryz.prog 5 (.pointer (some l)) (.int .u8 k) v q∧
 Xj [] [] s t e [.pointer a,b,.pointer m,.int .i64 (IntKind.i64.wrap (d+1))] c q)
 (Q (.tuple #[]) c)
def Xfu:Nat→List (Nat×TypeId):=fun n=>match n with | 0=>[(0,370),(1,263),(6,370),(7,3)] | _=>[]
theorem Xdl (a:Option Addr) (b:Value) (w:World) (Q:VWP) (h:Xbw a b w Q):Xa Tryz.prog 157 #[.pointer a,b] w Q:=
 Xd Xfu Tryz.func157 h (fun _ _=>by kernel_rfl) (by kernel_rfl) (by kernel_rfl) (by kernel_rfl)
def Xbx (m:Option Addr) (t:Int) (w:World) (Q:VWP):Prop:=
 ∃ n,m=some n∧
 ∃ (e:Array Value),Ld Tryz.prog 257 (.pointer (some n)) w (.agg e)∧
 ∃ o,Pu Tryz.prog (zeroValue 257) o∧
 New o.cells 257 w fun p u=>
 ∃ q,Sto Tryz.prog 257 (.pointer (some ⟨p,0,none⟩)) (.agg e) u q∧
 LoopS [.pointer m,.int .i64 t,.pointer (some ⟨p,0,none⟩),.int .i64 0] q fun v x f _ d=>
 ∃ b c l a,f=[.pointer b,.int .i64 c,.pointer (some l),.int .i64 a]∧
 cond (decide (a<16))
 (Drw d fun r=>
 ∃ g,IxA Tryz.prog 257 (.pointer (some l)) (.int .i64 (Int.tmod (IntKind.i64.wrap (a+(IntKind.i64.wrap ((IntKind.i64.wrap (4*c))*(Int.tmod a 4))))) 16)) g∧
 ∃ i,b=some i∧
 ∃ j,Ld Tryz.prog 5 (.pointer (some g)) r (.int .u8 j)∧
 ∃ k,IxA Tryz.prog 257 (.pointer (some i)) (.int .i64 a) k∧
 ∃ s,Sto Tryz.prog 5 (.pointer (some k)) (.int .u8 j) r s∧
 Xj [] [] v x f [.pointer b,.int .i64 c,.pointer (some l),.int .i64 (IntKind.i64.wrap (a+1))] d s)
 (Q (.tuple #[]) d)
def Xfv:Nat→List (Nat×TypeId):=fun n=>match n with | 0=>[(0,370),(1,3),(4,1000000),(10,3)] | _=>[]
theorem Xdm (a:Option Addr) (b:Int) (w:World) (Q:VWP) (h:Xbx a b w Q):Xa Tryz.prog 159 #[.pointer a,.int .i64 b] w Q:=
 Xd Xfv Tryz.func159 h (fun _ _=>by kernel_rfl) (by kernel_rfl) (by kernel_rfl) (by kernel_rfl)
def Vl (j:Inv) (k:J1) (c:List Value) (d:World) (e:Option Addr) (l:Value) (m:Addr) (n:Addr) (o:Int) (f:Int) (g:Int) (w:World) (Q:VWP):Prop:=
 ∃ a,e=some a∧
 ∃ b,IxA Tryz.prog 257 (.pointer (some a)) (.int .i64 o) b∧
 ∃ i,Sto Tryz.prog 5 (.pointer (some b)) (.int .u8 f) w i∧
 Xj [] [] j k c [.pointer e,l,.pointer (some m),.pointer (some n),.int .i64 (IntKind.i64.wrap (g+1))] d i
def WO (C:Option Addr) (L:Value) (D:Array Value) (w:World) (Q:VWP):Prop:=
 New D 267 w fun M E=>
 ∃ q,C=some q∧
 ∃ (l:Array Value),Ld Tryz.prog 257 (.pointer (some q)) E (.agg l)∧
 ∃ F,Pu Tryz.prog (zeroValue 257) F∧
 New F.cells 257 E fun G N=>
 ∃ H,Sto Tryz.prog 257 (.pointer (some ⟨G,0,none⟩)) (.agg l) N H∧
 LoopS [.pointer C,L,.pointer (some ⟨M,0,none⟩),.pointer (some ⟨G,0,none⟩),.int .i64 0] H fun O P r _ j=>
 ∃ m n y I b,r=[.pointer m,n,.pointer (some y),.pointer (some I),.int .i64 b]∧
 cond (decide (b<16))
 (∃ (o:Array Value),Ld Tryz.prog 267 (.pointer (some y)) j (.agg o)∧
 LoopS [.pointer m,n,.pointer (some y),.pointer (some I),.int .i64 b,.int .i64 (IntKind.i64.wrap (Int.tdiv b 4)),.int .i64 (Int.tmod b 4),.int .u8 0,.int .i64 b,.agg o,.int .i64 0] j fun R S s _ k=>
 ∃ (g:Option Addr) (c:Value) (i:Addr) (d:Addr) (z:Int) (A:Int) (B:Int) (p:Int) (e:Int) (a:Array Value) (f:Int),s=[.pointer g,c,.pointer (some i),.pointer (some d),.int .i64 z,.int .i64 A,.int .i64 B,.int .u8 p,.int .i64 e,.agg a,.int .i64 f]∧
 cond (decide (f<4))
 (∃ t,Pu Tryz.prog (Instr.index 267 (.agg a) (.int .i64 f)) (.int .i64 t)∧
 ∃ u,IxA Tryz.prog 257 (.pointer (some d)) (.int .i64 (IntKind.i64.wrap ((IntKind.i64.wrap (4*A))+(Int.tmod (IntKind.i64.wrap (B+f)) 4)))) u∧
 ∃ v,Ld Tryz.prog 5 (.pointer (some u)) k (.int .u8 v)∧
 Yv Tryz.prog (c) [.int .i64 t,.int .u8 v] k fun J T=>
 ∃ x,J=.int .u8 x∧
 Xj [] [] R S s [.pointer g,c,.pointer (some i),.pointer (some d),.int .i64 z,.int .i64 A,.int .i64 B,.int .u8 (YE .u8 p x),.int .i64 e,.agg a,.int .i64 (IntKind.i64.wrap (f+1))] k T)
 (Vl O P r j g (c) i d z p e k Q))
 (Q (.tuple #[]) j)
def Xch:Nat→List (Nat×TypeId):=fun n=>match n with | 0=>[(0,370),(1,266),(5,1000000),(6,1000000),(16,3)] | 2=>[(0,370),(1,266),(5,1000000),(6,1000000),(7,3),(8,3),(9,3),(10,5),(16,3),(23,267),(24,3)] | _=>[]
theorem XaQ (b:Option Addr) (c:Value) (a:Array Value) (w:World) (Q:VWP) (h:WO b c a w Q):Xa Tryz.prog 160 #[.pointer b,c,.agg a] w Q:=
 Xd Xch Tryz.func160 h (fun _ _=>by kernel_rfl) (by kernel_rfl) (by kernel_rfl) (by kernel_rfl)
def QC (i:Option Addr) (e:Int) (f:Int) (w:World) (Q:VWP):Prop:=
 cond (e == (-1))
 (Q (.int .u8 f) w)
 (∃ b,i=some b∧
 ∃ c,Ld Tryz.prog 256 (.pointer (some (b.add 0))) w (.pointer c)∧
 Xa Tryz.prog 229 #[.pointer c,.int .i64 e,.int .u8 f] w fun g j=>
 ∃ d a,g=.tuple #[.int .u8 d,.int .i64 a]∧
 Q (.int .u8 d) j)
def Xdn:Nat→List (Nat×TypeId):=fun _=>[]
theorem Xby (a:Option Addr) (b:Int) (c:Int) (w:World) (Q:VWP) (h:QC a b c w Q):Xa Tryz.prog 161 #[.pointer a,.int .i64 b,.int .u8 c] w Q:=
 Xd Xdn Tryz.func161 h (fun _ _=>by kernel_rfl) (by kernel_rfl) (by kernel_rfl) (by kernel_rfl)
def Vm (q:Int) (m:Addr) (i:Addr) (w:World) (Q:VWP):Prop:=
 ∃ (n:World→Prop),
 Drw w fun j=>
 ∃ d,IxA Tryz.prog 350 (.pointer (some i)) (.int .i64 0) d∧
 ∃ e,HLd Tryz.prog n 5 (.pointer (some d)) j (.int .u8 e)∧
 Xa Tryz.prog 294 #[.int .u8 2,.int .u64 (IntKind.u64.wrap (IntKind.i64.wrap (q - 1)))] j fun o k=>
 ∃ f,o=.int .u8 f∧
 (k=j∨n k)∧
 ∃ g,IxA Tryz.prog 350 (.pointer (some i)) (.int .i64 0) g∧
 ∃ l,Sto Tryz.prog 5 (.pointer (some g)) (.int .u8 (YE .u8 e f)) k l∧
 ∃ (a:Array Value),Ld Tryz.prog 350 (.pointer (some i)) l (.agg a)∧
 ∃ c,Sto Tryz.prog 350 (.pointer (some m)) (.agg a) l c∧
 ∃ b p,(.pointer (some m):Value)=.pointer (some b)∧(loadVar 350 b).run Tryz.prog c=.ok p c∧
 Q (p) c
def WP (H:Option Addr) (C:Array Value) (I:Int) (w:World) (Q:VWP):Prop:=
 New C 350 w fun i J=>
 ∃ D,Pu Tryz.prog (zeroValue 350) D∧
 New D.cells 350 J fun L f=>
 ∃ k,IxA Tryz.prog 350 (.pointer (some ⟨i,0,none⟩)) (.int .i64 1) k∧
 ∃ l,Ld Tryz.prog 5 (.pointer (some k)) f (.int .u8 l)∧
 ∃ m,IxA Tryz.prog 350 (.pointer (some ⟨i,0,none⟩)) (.int .i64 2) m∧
 ∃ n,Ld Tryz.prog 5 (.pointer (some m)) f (.int .u8 n)∧
 ∃ o,IxA Tryz.prog 350 (.pointer (some ⟨i,0,none⟩)) (.int .i64 3) o∧
 ∃ p,Ld Tryz.prog 5 (.pointer (some o)) f (.int .u8 p)∧
 ∃ q,IxA Tryz.prog 350 (.pointer (some ⟨i,0,none⟩)) (.int .i64 0) q∧
 ∃ r,Ld Tryz.prog 5 (.pointer (some q)) f (.int .u8 r)∧
 ∃ E,Pu Tryz.prog (zeroValue 350) E∧
 New E.cells 350 f fun z M=>
 ∃ A,Sto Tryz.prog 350 (.pointer (some ⟨z,0,none⟩)) (.agg #[.int .u8 l,.int .u8 n,.int .u8 p,.int .u8 r]) M A∧
 ∃ (g:Array Value),Ld Tryz.prog 350 (.pointer (some ⟨z,0,none⟩)) A (.agg g)∧
 LoopS [.pointer H,.int .i64 I,.pointer (some ⟨L,0,none⟩),.pointer (some ⟨z,0,none⟩),.agg g,.int .i64 0] A fun N O s _ e=>
 ∃ (c:Option Addr) (d:Int) (B:Addr) (j:Addr) (a:Array Value) (b:Int),s=[.pointer c,.int .i64 d,.pointer (some B),.pointer (some j),.agg a,.int .i64 b]∧
 cond (decide (b<4))
 (∃ t,Pu Tryz.prog (Instr.index 350 (.agg a) (.int .i64 b)) (.int .u8 t)∧
 ∃ u,c=some u∧
 ∃ v,Ld Tryz.prog 256 (.pointer (some (u.add 0))) e (.pointer v)∧
 Xa Tryz.prog 158 #[.pointer v,.int .u8 t] e fun F P=>
 ∃ x,F=.int .u8 x∧
 ∃ y,IxA Tryz.prog 350 (.pointer (some j)) (.int .i64 b) y∧
 ∃ G,Sto Tryz.prog 5 (.pointer (some y)) (.int .u8 x) P G∧
 Xj [] [] N O s [.pointer c,.int .i64 d,.pointer (some B),.pointer (some j),.agg a,.int .i64 (IntKind.i64.wrap (b+1))] e G)
 (Vm d B j e Q)
def Xci:Nat→List (Nat×TypeId):=fun n=>match n with | 0=>[(0,165),(2,3),(6,1000000),(7,1000000),(19,350),(20,3)] | _=>[]
theorem XaR (b:Option Addr) (a:Array Value) (c:Int) (w:World) (Q:VWP) (h:WP b a c w Q):Xa Tryz.prog 225 #[.pointer b,.agg a,.int .i64 c] w Q:=
 Xd Xci Tryz.func225 h (fun _ _=>by kernel_rfl) (by kernel_rfl) (by kernel_rfl) (by kernel_rfl)
def QD (f:Addr) (d:Addr) (w:World) (Q:VWP):Prop:=
 ∃ (a:Array Value),Ld Tryz.prog 350 (.pointer (some f)) w (.agg a)∧
 ∃ c,Sto Tryz.prog 350 (.pointer (some d)) (.agg a) w c∧
 ∃ b e,(.pointer (some d):Value)=.pointer (some b)∧(loadVar 350 b).run Tryz.prog c=.ok e c∧
 Q (e) c
def XcU (n:Array Value) (o:Array Value) (w:World) (Q:VWP):Prop:=
 New n 350 w fun s t=>
 New o 350 t fun u v=>
 ∃ p,Pu Tryz.prog (zeroValue 350) p∧
 New p.cells 350 v fun x y=>
 LoopS [.pointer (some ⟨s,0,none⟩),.pointer (some ⟨u,0,none⟩),.pointer (some ⟨x,0,none⟩),.int .i64 0] y fun z A e _ c=>
 ∃ d l m a,e=[.pointer (some d),.pointer (some l),.pointer (some m),.int .i64 a]∧
 cond (decide (a<4))
 (∃ (q:World→Prop),
 Drw c fun b=>
 ∃ f,IxA Tryz.prog 350 (.pointer (some d)) (.int .i64 a) f∧
 ∃ g,IxA Tryz.prog 350 (.pointer (some l)) (.int .i64 a) g∧
 ∃ i,HLd Tryz.prog q 5 (.pointer (some f)) b (.int .u8 i)∧
 ∃ j,Ld Tryz.prog 5 (.pointer (some g)) b (.int .u8 j)∧
 (b=b∨q b)∧
 ∃ k,IxA Tryz.prog 350 (.pointer (some d)) (.int .i64 a) k∧
 ∃ r,Sto Tryz.prog 5 (.pointer (some k)) (.int .u8 (YE .u8 i j)) b r∧
 Xj [] [] z A e [.pointer (some d),.pointer (some l),.pointer (some m),.int .i64 (IntKind.i64.wrap (a+1))] c r)
 (QD d m c Q)
def XgV:Nat→List (Nat×TypeId):=fun n=>match n with | 0=>[(2,1000000),(3,1000000),(4,1000000),(6,3)] | _=>[]
theorem Xei (a:Array Value) (b:Array Value) (w:World) (Q:VWP) (h:XcU a b w Q):Xa Tryz.prog 226 #[.agg a,.agg b] w Q:=
 Xd XgV Tryz.func226 h (fun _ _=>by kernel_rfl) (by kernel_rfl) (by kernel_rfl) (by kernel_rfl)
end Go.Sh
end

section
namespace Go.Sh
open Go Go.Fw Go.Proofs
set_option maxRecDepth 100000
set_option linter.unusedVariables false
def Xie (d:Option Addr) (e:Nat) (f:Nat) (w:World) (Q:VWP):Prop:=
 Xa Tryz.prog 54 #[.slice d e f] w fun g i=>
 ∃ a b c,g=.slice a b c∧
 Q (.slice a b c) i
def XlH:Nat→List (Nat×TypeId):=fun _=>[]
theorem Xif (a:Option Addr) (b:Nat) (c:Nat) (w:World) (Q:VWP) (h:Xie a b c w Q):Xa Tryz.prog 20 #[.slice a b c] w Q:=
 Xd XlH Tryz.func20 h (fun _ _=>by kernel_rfl) (by kernel_rfl) (by kernel_rfl) (by kernel_rfl)
def Vn (B:Int) (x:Int) (C:Option Addr) (D:Nat) (E:Nat) (F:Int) (w:World) (Q:VWP):Prop:=
 ∃ i j k y,Ef Tryz.prog (Instr.makeSlice 23 (.int .i64 0) (.int .i64 x)) w (.slice i j k) y∧
 LoopS [.int .u64 B,.slice C D E,.int .i64 F,.slice i j k,.int .i64 (IntKind.i64.wrap (x - 1))] y fun G H l _ b=>
 ∃ a c d e f t u v g,l=[.int .u64 a,.slice c d e,.int .i64 f,.slice t u v,.int .i64 g]∧
 cond (decide (g≥0))
 (∃ m,Pu Tryz.prog (do eqGuard .shr 24 (.tmp 34) (.tmp 36) (.int .u64 a) (.int .i64 (IntKind.i64.wrap (8*g))); binOp .shr 24 (.int .u64 a) (.int .i64 (IntKind.i64.wrap (8*g))):Sem Value) (.int .u64 m)∧
 ∃ n o p z,Ef Tryz.prog (Instr.buildSlice 23 1 #[(0,.int .u8 (IntKind.u8.wrap m))]) b (.slice n o p) z∧
 ∃ q r s A,Ef Tryz.prog (Builtin.append_ #[23,23] 23 #[.slice t u v,.slice n o p]) z (.slice q r s) A∧
 Xj [] [] G H l [.int .u64 a,.slice c d e,.int .i64 f,.slice q r s,.int .i64 (IntKind.i64.wrap (g - 1))] b A)
 (Q (.tuple #[.slice t u v,.int .i64 0]) b)
def XkQ (b:Int) (a:Int) (w:World) (Q:VWP):Prop:=
 cond (decide (a<0))
 (Q (.tuple #[.slice none 0 0,.int .i64 11]) w)
 (cond (decide (a > 8))
 (Q (.tuple #[.slice none 0 0,.int .i64 11]) w)
 (cond (decide (a<8))
 (∃ c,Pu Tryz.prog (do eqGuard .shr 24 (.tmp 18) (.tmp 20) (.int .u64 b) (.int .i64 (IntKind.i64.wrap (8*a))); binOp .shr 24 (.int .u64 b) (.int .i64 (IntKind.i64.wrap (8*a))):Sem Value) (.int .u64 c)∧
 cond (c != 0)
 (Q (.tuple #[.slice none 0 0,.int .i64 11]) w)
 (Vn b a none 0 0 0 w Q))
 (Vn b a none 0 0 0 w Q)))
def XnX:Nat→List (Nat×TypeId):=fun n=>match n with | 0=>[(0,24),(4,23),(5,33),(6,23),(7,3)] | _=>[]
theorem Xj1 (a:Int) (b:Int) (w:World) (Q:VWP) (h:XkQ a b w Q):Xa Tryz.prog 91 #[.int .u64 a,.int .i64 b] w Q:=
 Xd XnX Tryz.func91 h (fun _ _=>by kernel_rfl) (by kernel_rfl) (by kernel_rfl) (by kernel_rfl)
def XkR (H:Option Addr) (m:Nat) (I:Nat) (J:Option Addr) (z:Nat) (L:Nat) (w:World) (Q:VWP):Prop:=
 cond (((m:Nat):Int) != ((z:Nat):Int))
 (Q (.tuple #[.slice none 0 0,.int .i64 11]) w)
 (∃ q j r A,Ef Tryz.prog (Instr.makeSlice 23 (.int .i64 ((m:Nat):Int)) (.int .i64 ((m:Nat):Int))) w (.slice q j r) A∧
 LoopS [.slice H m I,.slice J z L,.slice none 0 0,.int .i64 0,.slice q j r,.int .i64 ((j:Nat):Int),.int .i64 0] A fun M N s _ k=>
 ∃ b c d e f g B C D E n o p l a,s=[.slice b c d,.slice e f g,.slice B C D,.int .i64 E,.slice n o p,.int .i64 l,.int .i64 a]∧
 cond (decide (a<l))
 (∃ (F:World→Prop),
 Drw k fun i=>
 ∃ t,IxA Tryz.prog 23 (.slice b c d) (.int .i64 a) t∧
 ∃ u,IxA Tryz.prog 23 (.slice e f g) (.int .i64 a) u∧
 ∃ v,HLd Tryz.prog F 5 (.pointer (some t)) i (.int .u8 v)∧
 ∃ x,Ld Tryz.prog 5 (.pointer (some u)) i (.int .u8 x)∧
 (i=i∨F i)∧
 ∃ y,IxA Tryz.prog 23 (.slice n o p) (.int .i64 a) y∧
 ∃ G,Sto Tryz.prog 5 (.pointer (some y)) (.int .u8 (YE .u8 v x)) i G∧
 Xj [] [] M N s [.slice b c d,.slice e f g,.slice B C D,.int .i64 E,.slice n o p,.int .i64 l,.int .i64 (IntKind.i64.wrap (a+1))] k G)
 (Q (.tuple #[.slice n o p,.int .i64 0]) k))
def XnY:Nat→List (Nat×TypeId):=fun n=>match n with | 0=>[(0,23),(1,23),(4,23),(5,33),(6,23),(17,3),(18,3)] | _=>[]
theorem Xj2 (a:Option Addr) (b:Nat) (c:Nat) (d:Option Addr) (e:Nat) (f:Nat) (w:World) (Q:VWP) (h:XkR a b c d e f w Q):Xa Tryz.prog 99 #[.slice a b c,.slice d e f] w Q:=
 Xd XnY Tryz.func99 h (fun _ _=>by kernel_rfl) (by kernel_rfl) (by kernel_rfl) (by kernel_rfl)
def Xf7 (v:Option Addr) (q:Nat) (x:Nat) (y:Option Addr) (s:Nat) (z:Nat) (w:World) (Q:VWP):Prop:=
 cond (((q:Nat):Int) != ((s:Nat):Int))
 (Q (.bool false) w)
 (LoopS [.slice v q x,.slice y s z,.bool false,.int .u8 0,.int .i64 ((q:Nat):Int),.int .i64 0] w fun A B l _ j=>
 ∃ b c d e f g t r k a,l=[.slice b c d,.slice e f g,.bool t,.int .u8 r,.int .i64 k,.int .i64 a]∧
 cond (decide (a<k))
 (∃ (u:World→Prop),
 Drw j fun i=>
 ∃ m,IxA Tryz.prog 23 (.slice b c d) (.int .i64 a) m∧
 ∃ n,IxA Tryz.prog 23 (.slice e f g) (.int .i64 a) n∧
 ∃ o,HLd Tryz.prog u 5 (.pointer (some m)) i (.int .u8 o)∧
 ∃ p,Ld Tryz.prog 5 (.pointer (some n)) i (.int .u8 p)∧
 (i=i∨u i)∧
 Xj [] [] A B l [.slice b c d,.slice e f g,.bool t,.int .u8 (ior .u8 r (YE .u8 o p)),.int .i64 k,.int .i64 (IntKind.i64.wrap (a+1))] j i)
 (Q (.bool (r == 0)) j))
def Xj3:Nat→List (Nat×TypeId):=fun n=>match n with | 0=>[(0,23),(1,23),(4,4),(5,5),(13,3),(14,3)] | _=>[]
theorem XgW (a:Option Addr) (b:Nat) (c:Nat) (d:Option Addr) (e:Nat) (f:Nat) (w:World) (Q:VWP) (h:Xf7 a b c d e f w Q):Xa Tryz.prog 102 #[.slice a b c,.slice d e f] w Q:=
 Xd Xj3 Tryz.func102 h (fun _ _=>by kernel_rfl) (by kernel_rfl) (by kernel_rfl) (by kernel_rfl)
def XkS (o:Option Addr) (k:Nat) (p:Nat) (w:World) (Q:VWP):Prop:=
 cond (decide (((k:Nat):Int) > 8))
 (Q (.tuple #[.int .u64 0,.int .i64 11]) w)
 (LoopS [.int .u64 0,.int .i64 0,.int .u64 0,.slice o k p,.int .i64 ((k:Nat):Int),.int .i64 0] w fun q r g _ a=>
 ∃ m n l c d e f b,g=[.int .u64 m,.int .i64 n,.int .u64 l,.slice c d e,.int .i64 f,.int .i64 b]∧
 cond (decide (b<f))
 (∃ i,IxA Tryz.prog 23 (.slice c d e) (.int .i64 b) i∧
 ∃ j,Ld Tryz.prog 5 (.pointer (some i)) a (.int .u8 j)∧
 Xj [] [] q r g [.int .u64 m,.int .i64 n,.int .u64 (ior .u64 (IntKind.u64.wrap (l*2 ^ 8)) (IntKind.u64.wrap j)),.slice c d e,.int .i64 f,.int .i64 (IntKind.i64.wrap (b+1))] a a)
 (Q (.tuple #[.int .u64 l,.int .i64 0]) a))
def XnZ:Nat→List (Nat×TypeId):=fun n=>match n with | 0=>[(2,24),(3,33),(4,24),(10,23),(11,3),(12,3)] | _=>[]
theorem Xj4 (a:Option Addr) (b:Nat) (c:Nat) (w:World) (Q:VWP) (h:XkS a b c w Q):Xa Tryz.prog 106 #[.slice a b c] w Q:=
 Xd XnZ Tryz.func106 h (fun _ _=>by kernel_rfl) (by kernel_rfl) (by kernel_rfl) (by kernel_rfl)
end Go.Sh
end

section
namespace Go.Sh
open Go Go.Fw Go.Proofs
set_option maxRecDepth 100000
set_option linter.unusedVariables false
def XcV (g:Option Addr) (i:Nat) (j:Nat) (k:Option Addr) (l:Nat) (m:Nat) (w:World) (Q:VWP):Prop:=
 Xa Tryz.prog 114 #[] w fun n o=>
 ∃ a b c,n=.slice a b c∧
 Xa Tryz.prog 113 #[.slice g i j,.slice k l m,.slice a b c] o fun p q=>
 ∃ d e f,p=.slice d e f∧
 Q (.slice d e f) q
def XgX:Nat→List (Nat×TypeId):=fun _=>[]
theorem Xej (a:Option Addr) (b:Nat) (c:Nat) (d:Option Addr) (e:Nat) (f:Nat) (w:World) (Q:VWP) (h:XcV a b c d e f w Q):Xa Tryz.prog 64 #[.slice a b c,.slice d e f] w Q:=
 Xd XgX Tryz.func64 h (fun _ _=>by kernel_rfl) (by kernel_rfl) (by kernel_rfl) (by kernel_rfl)
def UO (p:Inv) (q:J1) (i:List Value) (j:World) (r:Option Addr) (s:Nat) (t:Nat) (u:Option Addr) (v:Nat) (x:Nat) (k:Option Addr) (l:Nat) (m:Nat) (y:Option Addr) (z:Nat) (A:Nat) (n:Int) (w:World) (Q:VWP):Prop:=
 ∃ a,IxA Tryz.prog 117 (.slice k l m) (.int .i64 n) a∧
 ∃ b c d,Ld Tryz.prog 23 (.pointer (some a)) w (.slice b c d)∧
 Xa Tryz.prog 169 #[.slice y z A,.slice b c d] w fun o B=>
 ∃ e f g,o=.slice e f g∧
 Xj [] [] p q i [.slice r s t,.slice u v x,.slice k l m,.slice e f g,.int .i64 (IntKind.i64.wrap (n+1))] j B
def Xig (Y:Option Addr) (Z:Nat) (aa:Nat) (ab:Option Addr) (ac:Nat) (ad:Nat) (L:Option Addr) (M:Nat) (N:Nat) (w:World) (Q:VWP):Prop:=
 Xa Tryz.prog 168 #[.slice Y Z aa,.slice L M N] w fun O P=>
 ∃ e f g,O=.slice e f g∧
 ∃ n,IxA Tryz.prog 117 (.slice e f g) (.int .i64 0) n∧
 ∃ o p q,Ld Tryz.prog 23 (.pointer (some n)) P (.slice o p q)∧
 Xa Tryz.prog 169 #[.slice ab ac ad,.slice o p q] P fun R ae=>
 ∃ r s t,R=.slice r s t∧
 LoopS [.slice L M N,.slice none 0 0,.slice e f g,.slice r s t,.int .i64 1] ae fun S T i _ d=>
 ∃ a b c B C D E F G H I J j,i=[.slice a b c,.slice B C D,.slice E F G,.slice H I J,.int .i64 j]∧
 cond (decide (j≤10))
 (Xa Tryz.prog 171 #[.slice H I J,.slice a b c] d fun U af=>
 ∃ u v x,U=.slice u v x∧
 Xa Tryz.prog 170 #[.slice u v x,.int .i64 1] af fun V W=>
 ∃ k l m,V=.slice k l m∧
 cond (decide (j<10))
 (Xa Tryz.prog 172 #[.slice k l m,.agg #[.int .u8 2,.int .u8 3,.int .u8 1,.int .u8 1]] W fun X ag=>
 ∃ y z A,X=.slice y z A∧
 UO S T i d a b c B C D E F G y z A j ag Q)
 (UO S T i d a b c B C D E F G k l m j W Q))
 (Q (.slice H I J) d)
def XlI:Nat→List (Nat×TypeId):=fun n=>match n with | 0=>[(2,23),(6,23),(7,117),(8,23),(9,3)] | _=>[]
theorem Xih (a:Option Addr) (b:Nat) (c:Nat) (d:Option Addr) (e:Nat) (f:Nat) (g:Option Addr) (i:Nat) (j:Nat) (w:World) (Q:VWP) (h:Xig a b c d e f g i j w Q):Xa Tryz.prog 113 #[.slice a b c,.slice d e f,.slice g i j] w Q:=
 Xd XlI Tryz.func113 h (fun _ _=>by kernel_rfl) (by kernel_rfl) (by kernel_rfl) (by kernel_rfl)
def Xbz (H:Option Addr) (I:Nat) (J:Nat) (L:Option Addr) (M:Nat) (N:Nat) (w:World) (Q:VWP):Prop:=
 ∃ e f g C,Ef Tryz.prog (Instr.makeSlice 23 (.int .i64 256) (.int .i64 256)) w (.slice e f g) C∧
 Xa Tryz.prog 174 #[.int .u8 0] C fun D O=>
 ∃ r,D=.int .u8 r∧
 ∃ s,IxA Tryz.prog 23 (.slice e f g) (.int .i64 0) s∧
 ∃ E,Sto Tryz.prog 5 (.pointer (some s)) (.int .u8 r) O E∧
 LoopS [.slice H I J,.slice L M N,.slice e f g,.int .i64 0] E fun P R t _ i=>
 ∃ j k l a b c o p q m,t=[.slice j k l,.slice a b c,.slice o p q,.int .i64 m]∧
 cond (decide (m<255))
 (∃ (n:World→Prop),
 Drw i fun d=>
 ∃ u,IxA Tryz.prog 23 (.slice a b c) (.int .i64 m) u∧
 ∃ v,IxA Tryz.prog 23 (.slice a b c) (.int .i64 (Int.tmod (IntKind.i64.wrap (255 - m)) 255)) v∧
 ∃ x,HLd Tryz.prog n 5 (.pointer (some u)) d (.int .u8 x)∧
 ∃ y,Ld Tryz.prog 5 (.pointer (some v)) d (.int .u8 y)∧
 (d=d∨n d)∧
 Xa Tryz.prog 174 #[.int .u8 y] d fun F B=>
 ∃ z,F=.int .u8 z∧
 (B=d∨n B)∧
 ∃ A,IxA Tryz.prog 23 (.slice o p q) (.int .u8 x) A∧
 ∃ G,Sto Tryz.prog 5 (.pointer (some A)) (.int .u8 z) B G∧
 Xj [] [] P R t [.slice j k l,.slice a b c,.slice o p q,.int .i64 (IntKind.i64.wrap (m+1))] i G)
 (Q (.slice o p q) i)
def Xf8  (w:World) (Q:VWP):Prop:=
 ∃ t u v x,Ef Tryz.prog (Instr.buildSlice 23 1 #[(0,.int .u8 1)]) w (.slice t u v) x∧
 LoopS [.slice none 0 0,.slice t u v,.int .i64 1] x fun B C f _ a=>
 ∃ q r s b c d e,f=[.slice q r s,.slice b c d,.int .i64 e]∧
 cond (decide (e<255))
 (∃ g,IxA Tryz.prog 23 (.slice b c d) (.int .i64 (IntKind.i64.wrap (e - 1))) g∧
 ∃ i,Ld Tryz.prog 5 (.pointer (some g)) a (.int .u8 i)∧
 Xa Tryz.prog 173 #[.int .u8 i,.int .u8 3] a fun y D=>
 ∃ j,y=.int .u8 j∧
 ∃ k l m z,Ef Tryz.prog (Instr.buildSlice 23 1 #[(0,.int .u8 j)]) D (.slice k l m) z∧
 ∃ n o p A,Ef Tryz.prog (Builtin.append_ #[23,23] 23 #[.slice b c d,.slice k l m]) z (.slice n o p) A∧
 Xj [] [] B C f [.slice q r s,.slice n o p,.int .i64 (IntKind.i64.wrap (e+1))] a A)
 (Xbz q r s b c d a Q)
def Xj5:Nat→List (Nat×TypeId):=fun n=>match n with | 0=>[(0,23),(1,23),(2,3)] | 2=>[(0,23),(1,23),(3,23),(4,3)] | _=>[]
theorem XgY  (w:World) (Q:VWP) (h:Xf8  w Q):Xa Tryz.prog 114 #[] w Q:=
 Xd Xj5 Tryz.func114 h (fun _ _=>by kernel_rfl) (by kernel_rfl) (by kernel_rfl) (by kernel_rfl)
def UP (y:Inv) (z:J1) (o:List Value) (p:World) (A:Option Addr) (B:Nat) (C:Nat) (D:Option Addr) (E:Nat) (F:Nat) (q:Option Addr) (r:Nat) (s:Nat) (t:Int) (G:Option Addr) (H:Nat) (I:Nat) (w:World) (Q:VWP):Prop:=
 ∃ a,IxA Tryz.prog 117 (.slice q r s) (.int .i64 (IntKind.i64.wrap (t - 4))) a∧
 ∃ b c d,Ld Tryz.prog 23 (.pointer (some a)) w (.slice b c d)∧
 Xa Tryz.prog 169 #[.slice b c d,.slice G H I] w fun u J=>
 ∃ e f g,u=.slice e f g∧
 ∃ i j k v,Ef Tryz.prog (Instr.buildSlice 117 1 #[(0,.slice e f g)]) J (.slice i j k) v∧
 ∃ l m n x,Ef Tryz.prog (Builtin.append_ #[117,117] 117 #[.slice q r s,.slice i j k]) v (.slice l m n) x∧
 Xj [] [] y z o [.slice A B C,.slice D E F,.slice l m n,.int .i64 (IntKind.i64.wrap (t+1))] p x
def XcW (ae:Option Addr) (af:Nat) (ag:Nat) (ah:Option Addr) (ai:Nat) (aj:Nat) (w:World) (Q:VWP):Prop:=
 ∃ z A B Z,Ef Tryz.prog (Instr.buildSlice 117 0 #[]) w (.slice z A B) Z∧
 LoopS [.slice ae af ag,.slice ah ai aj,.slice z A B,.int .i64 0] Z fun ak al C _ n=>
 ∃ o p q r s t W X Y u,C=[.slice o p q,.slice r s t,.slice W X Y,.int .i64 u]∧
 cond (decide (u<11))
 (∃ D E F aa,Ef Tryz.prog (Instr.buildSlice 23 0 #[]) n (.slice D E F) aa∧
 LoopS [.slice o p q,.slice r s t,.slice W X Y,.int .i64 u,.slice D E F,.int .i64 0] aa fun am an G _ l=>
 ∃ e f g b c d i j k a v x y m,G=[.slice e f g,.slice b c d,.slice i j k,.int .i64 a,.slice v x y,.int .i64 m]∧
 cond (decide (m<4))
 (∃ H,IxA Tryz.prog 117 (.slice b c d) (.int .i64 (IntKind.i64.wrap ((IntKind.i64.wrap (4*a))+m))) H∧
 ∃ I J L,Ld Tryz.prog 23 (.pointer (some H)) l (.slice I J L)∧
 ∃ M N O ab,Ef Tryz.prog (Builtin.append_ #[23,23] 23 #[.slice v x y,.slice I J L]) l (.slice M N O) ab∧
 Xj [] [] am an G [.slice e f g,.slice b c d,.slice i j k,.int .i64 a,.slice M N O,.int .i64 (IntKind.i64.wrap (m+1))] l ab)
 (∃ P R S ac,Ef Tryz.prog (Instr.buildSlice 117 1 #[(0,.slice v x y)]) l (.slice P R S) ac∧
 ∃ T U V ad,Ef Tryz.prog (Builtin.append_ #[117,117] 117 #[.slice i j k,.slice P R S]) ac (.slice T U V) ad∧
 Xj [] [] ak al C [.slice e f g,.slice b c d,.slice T U V,.int .i64 (IntKind.i64.wrap (a+1))] n ad))
 (Q (.slice W X Y) n)
def XcX (X:Option Addr) (Y:Nat) (Z:Nat) (aa:Option Addr) (ab:Nat) (ac:Nat) (ad:Option Addr) (ae:Nat) (af:Nat) (w:World) (Q:VWP):Prop:=
 LoopS [.slice X Y Z,.slice aa ab ac,.slice ad ae af,.int .i64 4] w fun R S u _ d=>
 ∃ i j k l m n a b c p,u=[.slice i j k,.slice l m n,.slice a b c,.int .i64 p]∧
 cond (decide (p<44))
 (∃ v,IxA Tryz.prog 117 (.slice a b c) (.int .i64 (IntKind.i64.wrap (p - 1))) v∧
 ∃ e f g,Ld Tryz.prog 23 (.pointer (some v)) d (.slice e f g)∧
 cond ((Int.tmod p 4) == 0)
 (∃ (q:World→Prop),
 Drw d fun o=>
 ∃ x,IxA Tryz.prog 23 (.slice e f g) (.int .i64 1) x∧
 ∃ y,IxA Tryz.prog 23 (.slice e f g) (.int .i64 2) y∧
 ∃ z,IxA Tryz.prog 23 (.slice e f g) (.int .i64 3) z∧
 ∃ A,IxA Tryz.prog 23 (.slice e f g) (.int .i64 0) A∧
 ∃ B,HLd Tryz.prog q 5 (.pointer (some x)) o (.int .u8 B)∧
 ∃ C,HLd Tryz.prog q 5 (.pointer (some y)) o (.int .u8 C)∧
 ∃ D,HLd Tryz.prog q 5 (.pointer (some z)) o (.int .u8 D)∧
 ∃ E,Ld Tryz.prog 5 (.pointer (some A)) o (.int .u8 E)∧
 (o=o∨q o)∧
 ∃ F G H T,Ef Tryz.prog (Instr.buildSlice 23 4 #[(0,.int .u8 B),(1,.int .u8 C),(2,.int .u8 D),(3,.int .u8 E)]) o (.slice F G H) T∧
 Xa Tryz.prog 171 #[.slice F G H,.slice i j k] T fun U ag=>
 ∃ r s t,U=.slice r s t∧
 ∃ (I:World→Prop),
 Drw ag fun O=>
 ∃ J,IxA Tryz.prog 23 (.slice r s t) (.int .i64 0) J∧
 ∃ L,HLd Tryz.prog I 5 (.pointer (some J)) O (.int .u8 L)∧
 Xa Tryz.prog 234 #[.int .u8 2,.int .u64 (IntKind.u64.wrap (IntKind.i64.wrap ((IntKind.i64.wrap (Int.tdiv p 4)) - 1)))] O fun V P=>
 ∃ M,V=.int .u8 M∧
 (P=O∨I P)∧
 ∃ N,IxA Tryz.prog 23 (.slice r s t) (.int .i64 0) N∧
 ∃ W,Sto Tryz.prog 5 (.pointer (some N)) (.int .u8 (YE .u8 L M)) P W∧
 UP R S u d i j k l m n a b c p r s t W Q)
 (UP R S u d i j k l m n a b c p e f g d Q))
 (XcW l m n a b c d Q)
def Xii (P:Option Addr) (R:Nat) (S:Nat) (T:Option Addr) (U:Nat) (V:Nat) (w:World) (Q:VWP):Prop:=
 ∃ j k l J,Ef Tryz.prog (Instr.buildSlice 117 0 #[]) w (.slice j k l) J∧
 LoopS [.slice P R S,.slice T U V,.slice none 0 0,.slice j k l,.int .i64 0] J fun W X m _ g=>
 ∃ a b c d e f D E F G H I i,m=[.slice a b c,.slice d e f,.slice D E F,.slice G H I,.int .i64 i]∧
 cond (decide (i<4))
 (∃ n o p L,Ef Tryz.prog (Instr.buildSlice 23 0 #[]) g (.slice n o p) L∧
 ∃ q r s,Pu Tryz.prog (Instr.sliceAt 23 (.slice a b c) (some (.int .i64 (IntKind.i64.wrap (4*i)))) (some (.int .i64 (IntKind.i64.wrap ((IntKind.i64.wrap (4*i))+4)))) none) (.slice q r s)∧
 ∃ t u v M,Ef Tryz.prog (Builtin.append_ #[23,23] 23 #[.slice n o p,.slice q r s]) L (.slice t u v) M∧
 ∃ x y z N,Ef Tryz.prog (Instr.buildSlice 117 1 #[(0,.slice t u v)]) M (.slice x y z) N∧
 ∃ A B C O,Ef Tryz.prog (Builtin.append_ #[117,117] 117 #[.slice G H I,.slice x y z]) N (.slice A B C) O∧
 Xj [] [] W X m [.slice a b c,.slice d e f,.slice D E F,.slice A B C,.int .i64 (IntKind.i64.wrap (i+1))] g O)
 (XcX d e f D E F G H I g Q)
def XlJ:Nat→List (Nat×TypeId):=fun n=>match n with | 0=>[(0,23),(1,23),(4,117),(5,117),(6,3)] | 2=>[(1,23),(4,117),(5,117),(7,3)] | 4=>[(4,117),(5,117),(9,117),(10,3)] | 6=>[(4,117),(5,117),(9,117),(10,3),(11,23),(12,3)] | _=>[]
theorem Xij (a:Option Addr) (b:Nat) (c:Nat) (d:Option Addr) (e:Nat) (f:Nat) (w:World) (Q:VWP) (h:Xii a b c d e f w Q):Xa Tryz.prog 168 #[.slice a b c,.slice d e f] w Q:=
 Xd XlJ Tryz.func168 h (fun _ _=>by kernel_rfl) (by kernel_rfl) (by kernel_rfl) (by kernel_rfl)
def XkT (J:Option Addr) (L:Nat) (M:Nat) (N:Option Addr) (O:Nat) (P:Nat) (w:World) (Q:VWP):Prop:=
 ∃ z A B C,Ef Tryz.prog (Instr.buildSlice 23 0 #[]) w (.slice z A B) C∧
 LoopS [.slice J L M,.slice N O P,.slice none 0 0,.slice z A B,.int .i64 0] C fun R S k _ i=>
 ∃ b a c d e f D E F v x y j,k=[.slice b a c,.slice d e f,.slice D E F,.slice v x y,.int .i64 j]∧
 cond (decide (j<((a:Nat):Int)))
 (∃ (G:World→Prop),
 Drw i fun g=>
 ∃ l,IxA Tryz.prog 23 (.slice b a c) (.int .i64 j) l∧
 ∃ m,IxA Tryz.prog 23 (.slice d e f) (.int .i64 j) m∧
 ∃ n,HLd Tryz.prog G 5 (.pointer (some l)) g (.int .u8 n)∧
 ∃ o,Ld Tryz.prog 5 (.pointer (some m)) g (.int .u8 o)∧
 (g=g∨G g)∧
 ∃ p q r H,Ef Tryz.prog (Instr.buildSlice 23 1 #[(0,.int .u8 (YE .u8 n o))]) g (.slice p q r) H∧
 ∃ s t u I,Ef Tryz.prog (Builtin.append_ #[23,23] 23 #[.slice v x y,.slice p q r]) H (.slice s t u) I∧
 Xj [] [] R S k [.slice b a c,.slice d e f,.slice D E F,.slice s t u,.int .i64 (IntKind.i64.wrap (j+1))] i I)
 (Q (.slice v x y) i)
def Xn0:Nat→List (Nat×TypeId):=fun n=>match n with | 0=>[(0,23),(1,23),(4,23),(5,23),(6,3)] | _=>[]
theorem Xj6 (a:Option Addr) (b:Nat) (c:Nat) (d:Option Addr) (e:Nat) (f:Nat) (w:World) (Q:VWP) (h:XkT a b c d e f w Q):Xa Tryz.prog 169 #[.slice a b c,.slice d e f] w Q:=
 Xd Xn0 Tryz.func169 h (fun _ _=>by kernel_rfl) (by kernel_rfl) (by kernel_rfl) (by kernel_rfl)
def Xik (S:Option Addr) (T:Nat) (U:Nat) (V:Int) (w:World) (Q:VWP):Prop:=
 ∃ F G H I,Ef Tryz.prog (Instr.makeSlice 23 (.int .i64 16) (.int .i64 16)) w (.slice F G H) I∧
 LoopS [.slice S T U,.int .i64 V,.slice none 0 0,.slice F G H,.int .i64 0] I fun W X t _ m=>
 ∃ n o p q J L M B C D E,t=[.slice n o p,.int .i64 q,.slice J L M,.slice B C D,.int .i64 E]∧
 cond (decide (E<4))
 (LoopS [.slice n o p,.int .i64 q,.slice J L M,.slice B C D,.int .i64 E,.int .i64 0] m fun Y Z u _ r=>
 ∃ b c d e j k l f g i a s,u=[.slice b c d,.int .i64 e,.slice j k l,.slice f g i,.int .i64 a,.int .i64 s]∧
 cond (decide (s<4))
 (Xa Tryz.prog 235 #[.int .i64 a,.int .i64 s] r fun N aa=>
 ∃ v,N=.int .i64 v∧
 Xa Tryz.prog 235 #[.int .i64 a,.int .i64 (IntKind.i64.wrap (s+(IntKind.i64.wrap (e*a))))] aa fun O P=>
 ∃ x,O=.int .i64 x∧
 ∃ y,IxA Tryz.prog 23 (.slice b c d) (.int .i64 x) y∧
 ∃ z,Ld Tryz.prog 5 (.pointer (some y)) P (.int .u8 z)∧
 ∃ A,IxA Tryz.prog 23 (.slice f g i) (.int .i64 v) A∧
 ∃ R,Sto Tryz.prog 5 (.pointer (some A)) (.int .u8 z) P R∧
 Xj [] [] Y Z u [.slice b c d,.int .i64 e,.slice j k l,.slice f g i,.int .i64 a,.int .i64 (IntKind.i64.wrap (s+1))] r R)
 (Xj [] [] W X t [.slice b c d,.int .i64 e,.slice j k l,.slice f g i,.int .i64 (IntKind.i64.wrap (a+1))] m r))
 (Q (.slice B C D) m)
def XlK:Nat→List (Nat×TypeId):=fun n=>match n with | 0=>[(0,23),(1,3),(4,23),(5,23),(6,3)] | 2=>[(0,23),(1,3),(4,23),(5,23),(6,3),(7,3)] | _=>[]
theorem Xil (a:Option Addr) (b:Nat) (c:Nat) (d:Int) (w:World) (Q:VWP) (h:Xik a b c d w Q):Xa Tryz.prog 170 #[.slice a b c,.int .i64 d] w Q:=
 Xd XlK Tryz.func170 h (fun _ _=>by kernel_rfl) (by kernel_rfl) (by kernel_rfl) (by kernel_rfl)
def Xim (H:Option Addr) (I:Nat) (J:Nat) (L:Option Addr) (M:Nat) (N:Nat) (w:World) (Q:VWP):Prop:=
 ∃ y z A B,Ef Tryz.prog (Instr.buildSlice 23 0 #[]) w (.slice y z A) B∧
 LoopS [.slice H I J,.slice L M N,.slice none 0 0,.slice y z A,.int .i64 0] B fun O P j _ b=>
 ∃ c a d e f g C D E u v x i,j=[.slice c a d,.slice e f g,.slice C D E,.slice u v x,.int .i64 i]∧
 cond (decide (i<((a:Nat):Int)))
 (∃ k,IxA Tryz.prog 23 (.slice c a d) (.int .i64 i) k∧
 ∃ l,Ld Tryz.prog 5 (.pointer (some k)) b (.int .u8 l)∧
 ∃ m,IxA Tryz.prog 23 (.slice e f g) (.int .u8 l) m∧
 ∃ n,Ld Tryz.prog 5 (.pointer (some m)) b (.int .u8 n)∧
 ∃ o p q F,Ef Tryz.prog (Instr.buildSlice 23 1 #[(0,.int .u8 n)]) b (.slice o p q) F∧
 ∃ r s t G,Ef Tryz.prog (Builtin.append_ #[23,23] 23 #[.slice u v x,.slice o p q]) F (.slice r s t) G∧
 Xj [] [] O P j [.slice c a d,.slice e f g,.slice C D E,.slice r s t,.int .i64 (IntKind.i64.wrap (i+1))] b G)
 (Q (.slice u v x) b)
def XlL:Nat→List (Nat×TypeId):=fun n=>match n with | 0=>[(0,23),(1,23),(4,23),(5,23),(6,3)] | _=>[]
theorem Xin (a:Option Addr) (b:Nat) (c:Nat) (d:Option Addr) (e:Nat) (f:Nat) (w:World) (Q:VWP) (h:Xim a b c d e f w Q):Xa Tryz.prog 171 #[.slice a b c,.slice d e f] w Q:=
 Xd XlL Tryz.func171 h (fun _ _=>by kernel_rfl) (by kernel_rfl) (by kernel_rfl) (by kernel_rfl)
def QE (A:Inv) (B:J1) (y:List Value) (z:World) (m:Inv) (n:J1) (c:List Value) (d:World) (o:Option Addr) (p:Nat) (q:Nat) (r:Addr) (s:Option Addr) (t:Nat) (u:Nat) (e:Option Addr) (f:Nat) (g:Nat) (i:Int) (j:Int) (v:Int) (w:World) (Q:VWP):Prop:=
 Xa Tryz.prog 235 #[.int .i64 j,.int .i64 i] w fun k x=>
 ∃ a,k=.int .i64 a∧
 ∃ b,IxA Tryz.prog 23 (.slice e f g) (.int .i64 a) b∧
 ∃ l,Sto Tryz.prog 5 (.pointer (some b)) (.int .u8 v) x l∧
 Xj [] [] m n c [.slice o p q,.pointer (some r),.slice s t u,.slice e f g,.int .i64 i,.int .i64 (IntKind.i64.wrap (j+1))] d l
def XcY (an:Option Addr) (ao:Nat) (ap:Nat) (ad:Array Value) (w:World) (Q:VWP):Prop:=
 New ad 282 w fun aq ar=>
 ∃ J L M ae,Ef Tryz.prog (Instr.makeSlice 23 (.int .i64 16) (.int .i64 16)) ar (.slice J L M) ae∧
 LoopS [.slice an ao ap,.pointer (some ⟨aq,0,none⟩),.slice none 0 0,.slice J L M,.int .i64 0] ae fun af ag B _ A=>
 ∃ C D E ah ai aj ak W X Y Z,B=[.slice C D E,.pointer (some ah),.slice ai aj ak,.slice W X Y,.int .i64 Z]∧
 cond (decide (Z<4))
 (LoopS [.slice C D E,.pointer (some ah),.slice ai aj ak,.slice W X Y,.int .i64 Z,.int .i64 0] A fun au av N _ F=>
 ∃ g i j k l m n o p q r aa,N=[.slice g i j,.pointer (some k),.slice l m n,.slice o p q,.int .i64 r,.int .i64 aa]∧
 cond (decide (aa<4))
 (LoopS [.slice g i j,.pointer (some k),.slice l m n,.slice o p q,.int .i64 r,.int .i64 aa,.int .u8 0,.int .i64 0] F fun ax ay O _ G=>
 ∃ a b c d s t u v x y e f ab H,O=[.slice a b c,.pointer (some d),.slice s t u,.slice v x y,.int .i64 e,.int .i64 f,.int .u8 ab,.int .i64 H]∧
 cond (decide (H<4))
 (∃ (I:World→Prop),
 Drw G fun ac=>
 ∃ P,IxA Tryz.prog 282 (.pointer (some d)) (.int .i64 (Int.tmod (IntKind.i64.wrap ((IntKind.i64.wrap (H+4)) - f)) 4)) P∧
 ∃ R,HLd Tryz.prog I 5 (.pointer (some P)) ac (.int .u8 R)∧
 Xa Tryz.prog 235 #[.int .i64 H,.int .i64 e] ac fun al z=>
 ∃ S,al=.int .i64 S∧
 (z=ac∨I z)∧
 ∃ T,IxA Tryz.prog 23 (.slice a b c) (.int .i64 S) T∧
 ∃ U,Ld Tryz.prog 5 (.pointer (some T)) z (.int .u8 U)∧
 (z=z∨I z)∧
 Xa Tryz.prog 173 #[.int .u8 R,.int .u8 U] z fun am az=>
 ∃ V,am=.int .u8 V∧
 Xj [] [] ax ay O [.slice a b c,.pointer (some d),.slice s t u,.slice v x y,.int .i64 e,.int .i64 f,.int .u8 (YE .u8 ab V),.int .i64 (IntKind.i64.wrap (H+1))] G az)
 (QE af ag B A au av N F a b c d s t u v x y e f ab G Q))
 (Xj [] [] af ag B [.slice g i j,.pointer (some k),.slice l m n,.slice o p q,.int .i64 (IntKind.i64.wrap (r+1))] A F))
 (Q (.slice W X Y) A)
def XgZ:Nat→List (Nat×TypeId):=fun n=>match n with | 0=>[(0,23),(3,1000000),(4,23),(5,23),(6,3)] | 2=>[(0,23),(3,1000000),(4,23),(5,23),(6,3),(7,3)] | 4=>[(0,23),(3,1000000),(4,23),(5,23),(6,3),(7,3),(8,5),(9,3)] | _=>[]
theorem Xek (b:Option Addr) (c:Nat) (d:Nat) (a:Array Value) (w:World) (Q:VWP) (h:XcY b c d a w Q):Xa Tryz.prog 172 #[.slice b c d,.agg a] w Q:=
 Xd XgZ Tryz.func172 h (fun _ _=>by kernel_rfl) (by kernel_rfl) (by kernel_rfl) (by kernel_rfl)
def Xn1 (a:Int) (b:Int) (w:World) (Q:VWP):Prop:=
 Q (.int .i64 (IntKind.i64.wrap ((IntKind.i64.wrap (4*(Int.tmod b 4)))+a))) w
def Xpo:Nat→List (Nat×TypeId):=fun _=>[]
theorem XlM (a:Int) (b:Int) (w:World) (Q:VWP) (h:Xn1 a b w Q):Xa Tryz.prog 235 #[.int .i64 a,.int .i64 b] w Q:=
 Xd Xpo Tryz.func235 h (fun _ _=>by kernel_rfl) (by kernel_rfl) (by kernel_rfl) (by kernel_rfl)
end Go.Sh
end

section
namespace Go.Sh
open Go Go.Fw Go.Proofs
set_option maxRecDepth 100000
set_option linter.unusedVariables false
def Xio (e:Option Addr) (f:Nat) (g:Nat) (w:World) (Q:VWP):Prop:=
 Xa Tryz.prog 154 #[.slice e f g,.int .u64 1] w fun i j=>
 ∃ a b c d,i=.tuple #[.slice a b c,.int .i64 d]∧
 Q (.tuple #[.slice a b c,.int .i64 d]) j
def XlN:Nat→List (Nat×TypeId):=fun _=>[]
theorem Xip (a:Option Addr) (b:Nat) (c:Nat) (w:World) (Q:VWP) (h:Xio a b c w Q):Xa Tryz.prog 95 #[.slice a b c] w Q:=
 Xd XlN Tryz.func95 h (fun _ _=>by kernel_rfl) (by kernel_rfl) (by kernel_rfl) (by kernel_rfl)
def Xiq (n:Option Addr) (o:Nat) (p:Nat) (q:Option Addr) (r:Nat) (s:Nat) (t:Option Addr) (j:Nat) (u:Nat) (w:World) (Q:VWP):Prop:=
 Xa Tryz.prog 155 #[.slice n o p,.slice q r s,.int .i64 ((j:Nat):Int)] w fun k l=>
 ∃ b c d a,k=.tuple #[.slice b c d,.int .i64 a]∧
 cond (a != 0)
 (Q (.tuple #[.slice none 0 0,.int .i64 a]) l)
 (Xa Tryz.prog 99 #[.slice b c d,.slice t j u] l fun m v=>
 ∃ e f g i,m=.tuple #[.slice e f g,.int .i64 i]∧
 Q (.tuple #[.slice e f g,.int .i64 i]) v)
def XlO:Nat→List (Nat×TypeId):=fun _=>[]
theorem Xir (a:Option Addr) (b:Nat) (c:Nat) (d:Option Addr) (e:Nat) (f:Nat) (g:Option Addr) (i:Nat) (j:Nat) (w:World) (Q:VWP) (h:Xiq a b c d e f g i j w Q):Xa Tryz.prog 97 #[.slice a b c,.slice d e f,.slice g i j] w Q:=
 Xd XlO Tryz.func97 h (fun _ _=>by kernel_rfl) (by kernel_rfl) (by kernel_rfl) (by kernel_rfl)
def Xf9 (t:Option Addr) (s:Nat) (u:Nat) (B:Int) (w:World) (Q:VWP):Prop:=
 cond (((s:Nat):Int) != 16)
 (Q (.tuple #[.slice none 0 0,.int .i64 11]) w)
 (∃ b c d,Pu Tryz.prog (Instr.sliceAt 23 (.slice t s u) (some (.int .i64 12)) none none) (.slice b c d)∧
 Xa Tryz.prog 106 #[.slice b c d] w fun v C=>
 ∃ e a,v=.tuple #[.int .u64 e,.int .i64 a]∧
 Xa Tryz.prog 91 #[.int .u64 (IntKind.u64.wrap (IntKind.u32.wrap (IntKind.u64.wrap (e+B)))),.int .i64 4] C fun x D=>
 ∃ f g i y,x=.tuple #[.slice f g i,.int .i64 y]∧
 ∃ j k l,Pu Tryz.prog (Instr.sliceAt 23 (.slice t s u) none (some (.int .i64 12)) none) (.slice j k l)∧
 ∃ m n o z,Ef Tryz.prog (Instr.buildSlice 117 2 #[(0,.slice j k l),(1,.slice f g i)]) D (.slice m n o) z∧
 Xa Tryz.prog 20 #[.slice m n o] z fun A E=>
 ∃ p q r,A=.slice p q r∧
 Q (.tuple #[.slice p q r,.int .i64 0]) E)
def Xj7:Nat→List (Nat×TypeId):=fun _=>[]
theorem Xg0 (a:Option Addr) (b:Nat) (c:Nat) (d:Int) (w:World) (Q:VWP) (h:Xf9 a b c d w Q):Xa Tryz.prog 154 #[.slice a b c,.int .u64 d] w Q:=
 Xd Xj7 Tryz.func154 h (fun _ _=>by kernel_rfl) (by kernel_rfl) (by kernel_rfl) (by kernel_rfl)
def Xao (H:Option Addr) (I:Nat) (J:Nat) (L:Int) (M:Option Addr) (N:Nat) (O:Nat) (P:Int) (R:Option Addr) (w:World) (Q:VWP):Prop:=
 LoopS [.slice H I J,.int .i64 L,.slice M N O,.int .i64 P,.pointer R,.slice none 0 0] w fun S T o _ g=>
 ∃ b c d a i j k l e m f n,o=[.slice b c d,.int .i64 a,.slice i j k,.int .i64 l,.pointer e,.slice m f n]∧
 cond (decide (((f:Nat):Int)<a))
 (Xa Tryz.prog 98 #[.pointer e,.slice b c d] g fun C U=>
 ∃ p q r D,C=.tuple #[.slice p q r,.int .i64 D]∧
 ∃ s t u E,Ef Tryz.prog (Builtin.append_ #[23,23] 23 #[.slice m f n,.slice p q r]) U (.slice s t u) E∧
 Xa Tryz.prog 95 #[.slice b c d] E fun F V=>
 ∃ v x y G,F=.tuple #[.slice v x y,.int .i64 G]∧
 Xj [] [] S T o [.slice v x y,.int .i64 a,.slice i j k,.int .i64 l,.pointer e,.slice s t u] g V)
 (∃ z A B,Pu Tryz.prog (Instr.sliceAt 23 (.slice m f n) none (some (.int .i64 a)) (some (.int .i64 a))) (.slice z A B)∧
 Q (.tuple #[.slice z A B,.int .i64 0]) g)
def Xel (g:Option Addr) (i:Nat) (j:Nat) (k:Option Addr) (e:Nat) (l:Nat) (d:Int) (w:World) (Q:VWP):Prop:=
 Xa Tryz.prog 149 #[.slice g i j] w fun f a=>
 ∃ b c,f=.tuple #[.pointer b,.int .i64 c]∧
 cond (c != 0)
 (Q (.tuple #[.slice none 0 0,.int .i64 11]) a)
 (cond (((e:Nat):Int) != 16)
 (Q (.tuple #[.slice none 0 0,.int .i64 11]) a)
 (cond (decide (d<0))
 (Q (.tuple #[.slice none 0 0,.int .i64 11]) a)
 (cond (decide (d > 65535))
 (Q (.tuple #[.slice none 0 0,.int .i64 11]) a)
 (Xao k e l d none 0 0 0 b a Q))))
def Xis:Nat→List (Nat×TypeId):=fun n=>match n with | 0=>[(1,23),(2,3),(6,23),(7,33),(8,165),(10,23)] | _=>[]
theorem Xfw (a:Option Addr) (b:Nat) (c:Nat) (d:Option Addr) (e:Nat) (f:Nat) (g:Int) (w:World) (Q:VWP) (h:Xel a b c d e f g w Q):Xa Tryz.prog 155 #[.slice a b c,.slice d e f,.int .i64 g] w Q:=
 Xd Xis Tryz.func155 h (fun _ _=>by kernel_rfl) (by kernel_rfl) (by kernel_rfl) (by kernel_rfl)
end Go.Sh
end

section
namespace Go.Sh
open Go Go.Fw Go.Proofs
set_option maxRecDepth 100000
set_option linter.unusedVariables false
def XcZ (C:Option Addr) (D:Nat) (E:Nat) (F:Option Addr) (G:Nat) (H:Nat) (I:Option Addr) (y:Nat) (J:Nat) (L:Option Addr) (M:Nat) (N:Nat) (O:Int) (w:World) (Q:VWP):Prop:=
 Xa Tryz.prog 66 #[.slice C D E,.slice F G H,.int .i64 ((y:Nat):Int)] w fun z P=>
 ∃ o p q,z=.slice o p q∧
 LoopS [.slice I y J,.slice L M N,.int .i64 O,.slice o p q,.int .i64 0] P fun R S r _ f=>
 ∃ b a c g i j k l m n d,r=[.slice b a c,.slice g i j,.int .i64 k,.slice l m n,.int .i64 d]∧
 cond (decide (d<((a:Nat):Int)))
 (∃ (A:World→Prop),
 Drw f fun e=>
 ∃ s,IxA Tryz.prog 23 (.slice l m n) (.int .i64 d) s∧
 ∃ t,IxA Tryz.prog 23 (.slice b a c) (.int .i64 d) t∧
 ∃ u,HLd Tryz.prog A 5 (.pointer (some s)) e (.int .u8 u)∧
 ∃ v,Ld Tryz.prog 5 (.pointer (some t)) e (.int .u8 v)∧
 (e=e∨A e)∧
 ∃ x,IxA Tryz.prog 23 (.slice l m n) (.int .i64 d) x∧
 ∃ B,Sto Tryz.prog 5 (.pointer (some x)) (.int .u8 (YE .u8 u v)) e B∧
 Xj [] [] R S r [.slice b a c,.slice g i j,.int .i64 k,.slice l m n,.int .i64 (IntKind.i64.wrap (d+1))] f B)
 (Q (.tuple #[.slice l m n,.int .i64 0]) f)
def Xit (d:Option Addr) (a:Nat) (e:Nat) (f:Option Addr) (b:Nat) (g:Nat) (i:Option Addr) (c:Nat) (j:Nat) (w:World) (Q:VWP):Prop:=
 cond (((a:Nat):Int) != 16)
 (Q (.tuple #[.slice none 0 0,.int .i64 11]) w)
 (cond (((b:Nat):Int) != 16)
 (Q (.tuple #[.slice none 0 0,.int .i64 11]) w)
 (cond (decide (((c:Nat):Int) > 65535))
 (Q (.tuple #[.slice none 0 0,.int .i64 11]) w)
 (XcZ d a e f b g i c j none 0 0 0 w Q)))
def XlP:Nat→List (Nat×TypeId):=fun n=>match n with | 0=>[(2,23),(6,23),(7,33),(8,23),(9,3)] | _=>[]
theorem Xiu (a:Option Addr) (b:Nat) (c:Nat) (d:Option Addr) (e:Nat) (f:Nat) (g:Option Addr) (i:Nat) (j:Nat) (w:World) (Q:VWP) (h:Xit a b c d e f g i j w Q):Xa Tryz.prog 27 #[.slice a b c,.slice d e f,.slice g i j] w Q:=
 Xd XlP Tryz.func27 h (fun _ _=>by kernel_rfl) (by kernel_rfl) (by kernel_rfl) (by kernel_rfl)
def XbA (v:Option Addr) (x:Nat) (y:Nat) (z:Int) (A:Option Addr) (B:Nat) (C:Nat) (D:Int) (w:World) (Q:VWP):Prop:=
 ∃ k l m s,Ef Tryz.prog (Instr.buildSlice 23 0 #[]) w (.slice k l m) s∧
 ∃ n o p t,Ef Tryz.prog (Builtin.append_ #[23,23] 23 #[.slice k l m,.slice v x y]) s (.slice n o p) t∧
 LoopS [.slice A B C,.int .u64 (Int.tmod (IntKind.u64.wrap (D+(Int.tmod z 4294967296))) 4294967296),.slice n o p,.int .i64 15] t fun E F q _ b=>
 ∃ c d e a f g i j,q=[.slice c d e,.int .u64 a,.slice f g i,.int .i64 j]∧
 cond (decide (j≥12))
 (∃ r,IxA Tryz.prog 23 (.slice f g i) (.int .i64 j) r∧
 ∃ u,Sto Tryz.prog 5 (.pointer (some r)) (.int .u8 (IntKind.u8.wrap (Int.tmod a 256))) b u∧
 Xj [] [] E F q [.slice c d e,.int .u64 (IntKind.u64.wrap (Int.tdiv a 256)),.slice f g i,.int .i64 (IntKind.i64.wrap (j - 1))] b u)
 (Q (.slice f g i) b)
def Xga (o:Option Addr) (p:Nat) (q:Nat) (r:Int) (w:World) (Q:VWP):Prop:=
 LoopS [.slice o p q,.int .u64 r,.slice none 0 0,.int .u64 0,.int .i64 12] w fun s t g _ e=>
 ∃ a b c d k l m n f,g=[.slice a b c,.int .u64 d,.slice k l m,.int .u64 n,.int .i64 f]∧
 cond (decide (f<16))
 (∃ i,IxA Tryz.prog 23 (.slice a b c) (.int .i64 f) i∧
 ∃ j,Ld Tryz.prog 5 (.pointer (some i)) e (.int .u8 j)∧
 Xj [] [] s t g [.slice a b c,.int .u64 d,.slice k l m,.int .u64 (IntKind.u64.wrap ((IntKind.u64.wrap (n*256))+(IntKind.u64.wrap j))),.int .i64 (IntKind.i64.wrap (f+1))] e e)
 (XbA a b c d k l m n e Q)
def Xj8:Nat→List (Nat×TypeId):=fun n=>match n with | 0=>[(0,23),(1,24),(4,23),(5,24),(6,3)] | 2=>[(4,23),(5,24),(7,23),(8,3)] | _=>[]
theorem Xg1 (a:Option Addr) (b:Nat) (c:Nat) (d:Int) (w:World) (Q:VWP) (h:Xga a b c d w Q):Xa Tryz.prog 28 #[.slice a b c,.int .u64 d] w Q:=
 Xd Xj8 Tryz.func28 h (fun _ _=>by kernel_rfl) (by kernel_rfl) (by kernel_rfl) (by kernel_rfl)
def Xem (U:Option Addr) (V:Nat) (W:Nat) (X:Option Addr) (Y:Nat) (Z:Nat) (aa:Int) (w:World) (Q:VWP):Prop:=
 Xa Tryz.prog 114 #[] w fun L ab=>
 ∃ k l m,L=.slice k l m∧
 ∃ n o p M,Ef Tryz.prog (Instr.buildSlice 23 0 #[]) ab (.slice n o p) M∧
 LoopS [.slice U V W,.slice X Y Z,.int .i64 aa,.slice none 0 0,.slice k l m,.slice n o p,.int .u64 0] M fun ac ad q _ i=>
 ∃ b c d e f g a N O P E F G H j I J,q=[.slice b c d,.slice e f g,.int .i64 a,.slice N O P,.slice E F G,.slice H j I,.int .u64 J]∧
 cond (decide (((j:Nat):Int)<a))
 (Xa Tryz.prog 28 #[.slice e f g,.int .u64 J] i fun R ae=>
 ∃ r s t,R=.slice r s t∧
 Xa Tryz.prog 113 #[.slice b c d,.slice r s t,.slice E F G] ae fun S af=>
 ∃ u v x,S=.slice u v x∧
 ∃ y z A T,Ef Tryz.prog (Builtin.append_ #[23,23] 23 #[.slice H j I,.slice u v x]) af (.slice y z A) T∧
 Xj [] [] ac ad q [.slice b c d,.slice e f g,.int .i64 a,.slice N O P,.slice E F G,.slice y z A,.int .u64 (IntKind.u64.wrap (J+1))] i T)
 (∃ B C D,Pu Tryz.prog (Instr.sliceAt 23 (.slice H j I) none (some (.int .i64 a)) none) (.slice B C D)∧
 Q (.slice B C D) i)
def Xiv:Nat→List (Nat×TypeId):=fun n=>match n with | 0=>[(0,23),(1,23),(2,3),(6,23),(7,23),(8,23),(9,24)] | _=>[]
theorem Xfx (a:Option Addr) (b:Nat) (c:Nat) (d:Option Addr) (e:Nat) (f:Nat) (g:Int) (w:World) (Q:VWP) (h:Xem a b c d e f g w Q):Xa Tryz.prog 66 #[.slice a b c,.slice d e f,.int .i64 g] w Q:=
 Xd Xiv Tryz.func66 h (fun _ _=>by kernel_rfl) (by kernel_rfl) (by kernel_rfl) (by kernel_rfl)
end Go.Sh
end
