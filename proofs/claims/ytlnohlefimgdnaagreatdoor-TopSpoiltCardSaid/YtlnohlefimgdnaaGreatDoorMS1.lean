/- A part of a proof of a given law of this program: lemmas, printed forms of its functions, contracts. It has no conditions of its own. -/
import Derived.Test.YtlnohlefimgdnaaGreatDoorProg
import Derived.Test.YtlnohlefimgdnaaGreatDoorMW0

set_option maxHeartbeats 16000000
section
namespace Go.Sh
open Go Go.Fw Go.Proofs
set_option maxRecDepth 100000
set_option linter.unusedVariables false
def JJ (C:Option Addr) (z:Nat) (D:Nat) (E:Option Addr) (F:Nat) (G:Nat) (H:Int) (w:World) (Q:VWP):Prop:=
 Xa Tryz.prog 101 #[.slice none 0 0,.int .i64 H] w fun A I=>
 ∃ k l m,A=.slice k l m∧
 LoopS [.slice E F G,.slice k l m,.slice C z D,.int .i64 ((z:Nat):Int),.int .i64 0] I fun J L n _ a=>
 ∃ c d e v x y f g i j b,n=[.slice c d e,.slice v x y,.slice f g i,.int .i64 j,.int .i64 b]∧
 cond (decide (b<j))
 (∃ o,IxA Tryz.prog 117 (.slice f g i) (.int .i64 b) o∧
 ∃ p q r,Ld Tryz.prog 23 (.pointer (some o)) a (.slice p q r)∧
 ∃ s t u B,Ef Tryz.prog (Builtin.append_ #[23,23] 23 #[.slice v x y,.slice p q r]) a (.slice s t u) B∧
 Xj [] [] J L n [.slice c d e,.slice s t u,.slice f g i,.int .i64 j,.int .i64 (IntKind.i64.wrap (b+1))] a B)
 (Q (.slice v x y) a)
def Uq (s:Option Addr) (l:Nat) (t:Nat) (w:World) (Q:VWP):Prop:=
 LoopS [.slice s l t,.slice none 0 0,.int .i64 0,.slice s l t,.int .i64 ((l:Nat):Int),.int .i64 0] w fun y z j _ a=>
 ∃ b c d m n o i p q r f e,j=[.slice b c d,.slice m n o,.int .i64 i,.slice p q r,.int .i64 f,.int .i64 e]∧
 cond (decide (e<f))
 (∃ k,IxA Tryz.prog 117 (.slice p q r) (.int .i64 e) k∧
 ∃ u g v,Ld Tryz.prog 23 (.pointer (some k)) a (.slice u g v)∧
 cond (decide ((IntKind.i64.wrap (i+((g:Nat):Int)))<0))
 (∃ x A,Ef Tryz.prog (Instr.makeInterface 9 (.string (⟨#[108,101,110,32,111,117,116,32,111,102,32,114,97,110,103,101]⟩:ByteArray))) a (x) A∧
 False)
 (Xj [] [] y z j [.slice b c d,.slice m n o,.int .i64 (IntKind.i64.wrap (i+((g:Nat):Int))),.slice p q r,.int .i64 f,.int .i64 (IntKind.i64.wrap (e+1))] a a))
 (JJ b c d m n o i a Q)
def WG:Nat→List (Nat×TypeId):=fun n=>match n with | 0=>[(0,117),(2,23),(3,3),(9,117),(10,3),(11,3)] | 2=>[(2,23),(6,23),(25,117),(26,3),(27,3)] | _=>[]
theorem VT (a:Option Addr) (b:Nat) (c:Nat) (w:World) (Q:VWP) (h:Uq a b c w Q):Xa Tryz.prog 54 #[.slice a b c] w Q:=
 Xd WG Tryz.func54 h (fun _ _=>by kernel_rfl) (by kernel_rfl) (by kernel_rfl) (by kernel_rfl)
def XaP (a:Option Addr) (b:Nat) (c:Nat) (w:World) (Q:VWP):Prop:=
 ∃ e d,Ef Tryz.prog (do eqGuard .eql 23 (.tmp 3) (.const (.slice none 0 0)) (.slice a b c) (.slice none 0 0); binOp .eql 23 (.slice a b c) (.slice none 0 0):Sem Value) w (.bool e) d∧
 cond e
 (Q (.slice none 0 0) d)
 (∃ f g i j,Ef Tryz.prog (Instr.buildSlice 23 0 #[]) d (.slice f g i) j∧
 ∃ k l m n,Ef Tryz.prog (Builtin.append_ #[23,23] 23 #[.slice f g i,.slice a b c]) j (.slice k l m) n∧
 Q (.slice k l m) n)
def Qd:Nat→List (Nat×TypeId):=fun _=>[]
theorem Wh (a:Option Addr) (b:Nat) (c:Nat) (w:World) (Q:VWP) (h:XaP a b c w Q):Xa Tryz.prog 88 #[.slice a b c] w Q:=
 Xd Qd Tryz.func88 h (fun _ _=>by kernel_rfl) (by kernel_rfl) (by kernel_rfl) (by kernel_rfl)
def YZ (e:Option Addr) (b:Nat) (f:Nat) (q:Int) (r:Int) (w:World) (Q:VWP):Prop:=
 ∃ s t u,Pu Tryz.prog (Instr.sliceAt 101 (.slice e b f) (some (.int .i64 q)) (some (.int .i64 r)) (some (.int .i64 ((b:Nat):Int)))) (.slice s t u)∧
 cond (q == r)
 (Q (.slice e b f) w)
 (Drw w fun y=>
 ∃ g i j,Pu Tryz.prog (Instr.sliceAt 101 (.slice e b f) none (some (.int .i64 q)) none) (.slice g i j)∧
 ∃ k l m,Pu Tryz.prog (Instr.sliceAt 101 (.slice e b f) (some (.int .i64 r)) none none) (.slice k l m)∧
 ∃ c a d v,Ef Tryz.prog (Builtin.append_ #[101,101] 101 #[.slice g i j,.slice k l m]) y (.slice c a d) v∧
 ∃ n o p,Pu Tryz.prog (Instr.sliceAt 101 (.slice c a d) (some (.int .i64 ((a:Nat):Int))) (some (.int .i64 ((b:Nat):Int))) none) (.slice n o p)∧
 ∃ x,Ef Tryz.prog (Builtin.clear_ #[101] 0 #[.slice n o p]) v (.tuple #[]) x∧
 Q (.slice c a d) x)
def JQ:Nat→List (Nat×TypeId):=fun _=>[]
theorem JH (a:Option Addr) (b:Nat) (c:Nat) (d:Int) (e:Int) (w:World) (Q:VWP) (h:YZ a b c d e w Q):Xa Tryz.prog 89 #[.slice a b c,.int .i64 d,.int .i64 e] w Q:=
 Xd JQ Tryz.func89 h (fun _ _=>by kernel_rfl) (by kernel_rfl) (by kernel_rfl) (by kernel_rfl)
def Z2 (b:Option Addr) (c:Nat) (d:Nat) (e:Value) (w:World) (Q:VWP):Prop:=
 Xa Tryz.prog 153 #[.slice b c d,e] w fun f g=>
 ∃ a,f=.int .i64 a∧
 Q (.bool (decide (a≥0))) g
def UW:Nat→List (Nat×TypeId):=fun _=>[]
theorem Ut (a:Option Addr) (b:Nat) (c:Nat) (d:Value) (w:World) (Q:VWP) (h:Z2 a b c d w Q):Xa Tryz.prog 94 #[.slice a b c,d] w Q:=
 Xd UW Tryz.func94 h (fun _ _=>by kernel_rfl) (by kernel_rfl) (by kernel_rfl) (by kernel_rfl)
def J9 (c:Option Addr) (a:Nat) (d:Nat) (p:Int) (r:Option Addr) (s:Nat) (t:Nat) (w:World) (Q:VWP):Prop:=
 ∃ b,Pu Tryz.prog (Builtin.cap_ #[23] 3 #[.slice c a d]) (.int .i64 b)∧
 cond (decide ((IntKind.i64.wrap (p - (IntKind.i64.wrap (b - ((a:Nat):Int))))) > 0))
 (∃ e,Pu Tryz.prog (Builtin.cap_ #[23] 3 #[.slice c a d]) (.int .i64 e)∧
 ∃ f g i,Pu Tryz.prog (Instr.sliceAt 23 (.slice c a d) none (some (.int .i64 e)) none) (.slice f g i)∧
 ∃ j k l q,Ef Tryz.prog (Builtin.append_ #[23,3] 23 #[.slice f g i,.int .i64 (IntKind.i64.wrap (p - (IntKind.i64.wrap (b - ((a:Nat):Int)))))]) w (.slice j k l) q∧
 ∃ m n o,Pu Tryz.prog (Instr.sliceAt 23 (.slice j k l) none (some (.int .i64 ((a:Nat):Int))) none) (.slice m n o)∧
 Q (.slice m n o) q)
 (Q (.slice c a d) w)
def U5 (b:Option Addr) (c:Nat) (d:Nat) (a:Int) (w:World) (Q:VWP):Prop:=
 cond (decide (a<0))
 (∃ e f,Ef Tryz.prog (Instr.makeInterface 9 (.string (⟨#[99,97,110,110,111,116,32,98,101,32,110,101,103,97,116,105,118,101]⟩:ByteArray))) w (e) f∧
 False)
 (J9 b c d a none 0 0 w Q)
def QB:Nat→List (Nat×TypeId):=fun _=>[]
theorem WH (a:Option Addr) (b:Nat) (c:Nat) (d:Int) (w:World) (Q:VWP) (h:U5 a b c d w Q):Xa Tryz.prog 101 #[.slice a b c,.int .i64 d] w Q:=
 Xd QB Tryz.func101 h (fun _ _=>by kernel_rfl) (by kernel_rfl) (by kernel_rfl) (by kernel_rfl)
def YJ (u:Option Addr) (q:Nat) (v:Nat) (x:Value) (w:World) (Q:VWP):Prop:=
 LoopS [.slice u q v,x,.int .i64 0,.int .i64 ((q:Nat):Int),.int .i64 0] w fun y z i _ e=>
 ∃ a b c d r p g,i=[.slice a b c,d,.int .i64 r,.int .i64 p,.int .i64 g]∧
 cond (decide (g<p))
 (∃ j,IxA Tryz.prog 101 (.slice a b c) (.int .i64 g) j∧
 ∃ k l f m n,Ld Tryz.prog 107 (.pointer (some j)) e (.agg #[.pointer k,.int .i64 l,.slice f m n])∧
 Yv Tryz.prog (d) [.agg #[.pointer k,.int .i64 l,.slice f m n]] e fun s t=>
 ∃ o,s=.bool o∧
 cond o
 (Q (.int .i64 g) t)
 (Xj [] [] y z i [.slice a b c,d,.int .i64 r,.int .i64 p,.int .i64 (IntKind.i64.wrap (g+1))] e t))
 (Q (.int .i64 (-1)) e)
def Jl:Nat→List (Nat×TypeId):=fun n=>match n with | 0=>[(0,101),(1,252),(4,3),(7,3),(8,3)] | _=>[]
theorem Z3 (a:Option Addr) (b:Nat) (c:Nat) (d:Value) (w:World) (Q:VWP) (h:YJ a b c d w Q):Xa Tryz.prog 151 #[.slice a b c,d] w Q:=
 Xd Jl Tryz.func151 h (fun _ _=>by kernel_rfl) (by kernel_rfl) (by kernel_rfl) (by kernel_rfl)
def JK (s:Option Addr) (o:Nat) (t:Nat) (u:Value) (w:World) (Q:VWP):Prop:=
 LoopS [.slice s o t,u,.int .i64 0,.int .i64 ((o:Nat):Int),.int .i64 0] w fun v x g _ e=>
 ∃ a b c d p n f,g=[.slice a b c,d,.int .i64 p,.int .i64 n,.int .i64 f]∧
 cond (decide (f<n))
 (∃ i,IxA Tryz.prog 117 (.slice a b c) (.int .i64 f) i∧
 ∃ j k l,Ld Tryz.prog 23 (.pointer (some i)) e (.slice j k l)∧
 Yv Tryz.prog (d) [.slice j k l] e fun q r=>
 ∃ m,q=.bool m∧
 cond m
 (Q (.int .i64 f) r)
 (Xj [] [] v x g [.slice a b c,d,.int .i64 p,.int .i64 n,.int .i64 (IntKind.i64.wrap (f+1))] e r))
 (Q (.int .i64 (-1)) e)
def VD:Nat→List (Nat×TypeId):=fun n=>match n with | 0=>[(0,117),(1,162),(4,3),(7,3),(8,3)] | _=>[]
theorem Va (a:Option Addr) (b:Nat) (c:Nat) (d:Value) (w:World) (Q:VWP) (h:JK a b c d w Q):Xa Tryz.prog 153 #[.slice a b c,d] w Q:=
 Xd VD Tryz.func153 h (fun _ _=>by kernel_rfl) (by kernel_rfl) (by kernel_rfl) (by kernel_rfl)
def YV (C:Option Addr) (z:Nat) (D:Nat) (E:Option Addr) (F:Nat) (G:Nat) (H:Int) (w:World) (Q:VWP):Prop:=
 Xa Tryz.prog 230 #[.slice none 0 0,.int .i64 H] w fun A I=>
 ∃ k l m,A=.slice k l m∧
 LoopS [.slice E F G,.slice k l m,.slice C z D,.int .i64 ((z:Nat):Int),.int .i64 0] I fun J L n _ a=>
 ∃ c d e v x y f g i j b,n=[.slice c d e,.slice v x y,.slice f g i,.int .i64 j,.int .i64 b]∧
 cond (decide (b<j))
 (∃ o,IxA Tryz.prog 379 (.slice f g i) (.int .i64 b) o∧
 ∃ p q r,Ld Tryz.prog 268 (.pointer (some o)) a (.slice p q r)∧
 ∃ s t u B,Ef Tryz.prog (Builtin.append_ #[268,268] 268 #[.slice v x y,.slice p q r]) a (.slice s t u) B∧
 Xj [] [] J L n [.slice c d e,.slice s t u,.slice f g i,.int .i64 j,.int .i64 (IntKind.i64.wrap (b+1))] a B)
 (Q (.slice v x y) a)
def Zg (s:Option Addr) (l:Nat) (t:Nat) (w:World) (Q:VWP):Prop:=
 LoopS [.slice s l t,.slice none 0 0,.int .i64 0,.slice s l t,.int .i64 ((l:Nat):Int),.int .i64 0] w fun y z j _ a=>
 ∃ b c d m n o i p q r f e,j=[.slice b c d,.slice m n o,.int .i64 i,.slice p q r,.int .i64 f,.int .i64 e]∧
 cond (decide (e<f))
 (∃ k,IxA Tryz.prog 379 (.slice p q r) (.int .i64 e) k∧
 ∃ u g v,Ld Tryz.prog 268 (.pointer (some k)) a (.slice u g v)∧
 cond (decide ((IntKind.i64.wrap (i+((g:Nat):Int)))<0))
 (∃ x A,Ef Tryz.prog (Instr.makeInterface 9 (.string (⟨#[108,101,110,32,111,117,116,32,111,102,32,114,97,110,103,101]⟩:ByteArray))) a (x) A∧
 False)
 (Xj [] [] y z j [.slice b c d,.slice m n o,.int .i64 (IntKind.i64.wrap (i+((g:Nat):Int))),.slice p q r,.int .i64 f,.int .i64 (IntKind.i64.wrap (e+1))] a a))
 (YV b c d m n o i a Q)
def Ua:Nat→List (Nat×TypeId):=fun n=>match n with | 0=>[(0,379),(2,268),(3,3),(9,379),(10,3),(11,3)] | 2=>[(2,268),(6,268),(25,379),(26,3),(27,3)] | _=>[]
theorem JR (a:Option Addr) (b:Nat) (c:Nat) (w:World) (Q:VWP) (h:Zg a b c w Q):Xa Tryz.prog 162 #[.slice a b c] w Q:=
 Xd Ua Tryz.func162 h (fun _ _=>by kernel_rfl) (by kernel_rfl) (by kernel_rfl) (by kernel_rfl)
def Y8 (c:Option Addr) (a:Nat) (d:Nat) (p:Int) (r:Option Addr) (s:Nat) (t:Nat) (w:World) (Q:VWP):Prop:=
 ∃ b,Pu Tryz.prog (Builtin.cap_ #[268] 3 #[.slice c a d]) (.int .i64 b)∧
 cond (decide ((IntKind.i64.wrap (p - (IntKind.i64.wrap (b - ((a:Nat):Int))))) > 0))
 (∃ e,Pu Tryz.prog (Builtin.cap_ #[268] 3 #[.slice c a d]) (.int .i64 e)∧
 ∃ f g i,Pu Tryz.prog (Instr.sliceAt 268 (.slice c a d) none (some (.int .i64 e)) none) (.slice f g i)∧
 ∃ j k l q,Ef Tryz.prog (Builtin.append_ #[268,3] 268 #[.slice f g i,.int .i64 (IntKind.i64.wrap (p - (IntKind.i64.wrap (b - ((a:Nat):Int)))))]) w (.slice j k l) q∧
 ∃ m n o,Pu Tryz.prog (Instr.sliceAt 268 (.slice j k l) none (some (.int .i64 ((a:Nat):Int))) none) (.slice m n o)∧
 Q (.slice m n o) q)
 (Q (.slice c a d) w)
def Zu (b:Option Addr) (c:Nat) (d:Nat) (a:Int) (w:World) (Q:VWP):Prop:=
 cond (decide (a<0))
 (∃ e f,Ef Tryz.prog (Instr.makeInterface 9 (.string (⟨#[99,97,110,110,111,116,32,98,101,32,110,101,103,97,116,105,118,101]⟩:ByteArray))) w (e) f∧
 False)
 (Y8 b c d a none 0 0 w Q)
def Uu:Nat→List (Nat×TypeId):=fun _=>[]
theorem Ub (a:Option Addr) (b:Nat) (c:Nat) (d:Int) (w:World) (Q:VWP) (h:Zu a b c d w Q):Xa Tryz.prog 230 #[.slice a b c,.int .i64 d] w Q:=
 Xd Uu Tryz.func230 h (fun _ _=>by kernel_rfl) (by kernel_rfl) (by kernel_rfl) (by kernel_rfl)
def UH (d:Option Addr) (e:Nat) (f:Nat) (g:Int) (w:World) (Q:VWP):Prop:=
 New #[.slice d e f] 23 w fun i j=>
 New #[.int .i64 g] 3 j fun b a=>
 ∃ c,Ld Tryz.prog 3 (.pointer (some ⟨b,0,none⟩)) a (.int .i64 c)∧
 cond (decide (c<1))
 (∃ k l,Ef Tryz.prog (Instr.makeInterface 9 (.string (⟨#[99,97,110,110,111,116,32,98,101,32,108,101,115,115,32,116,104,97,110,32,49]⟩:ByteArray))) a (k) l∧
 False)
 (Q (.func (.func 297) #[] #[.pointer (some ⟨i,0,none⟩),.pointer (some ⟨b,0,none⟩)]) a)
def Qe:Nat→List (Nat×TypeId):=fun _=>[]
theorem Wi (a:Option Addr) (b:Nat) (c:Nat) (d:Int) (w:World) (Q:VWP) (h:UH a b c d w Q):Xa Tryz.prog 231 #[.slice a b c,.int .i64 d] w Q:=
 Xd Qe Tryz.func231 h (fun _ _=>by kernel_rfl) (by kernel_rfl) (by kernel_rfl) (by kernel_rfl)
def JV (D:Value) (E:Option Addr) (F:Option Addr) (w:World) (Q:VWP):Prop:=
 LoopS [D,.pointer E,.pointer F,.int .i64 0] w fun G H i _ f=>
 ∃ c a b d,i=[c,.pointer a,.pointer b,.int .i64 d]∧
 ∃ I y J,Ld Tryz.prog 23 (.pointer a) f (.slice I y J)∧
 cond (decide (d<((y:Nat):Int)))
 (∃ (z:World→Prop),
 Drw f fun e=>
 ∃ j,HLd Tryz.prog z 3 (.pointer b) e (.int .i64 j)∧
 ∃ k l m,Ld Tryz.prog 23 (.pointer a) e (.slice k l m)∧
 (e=e∨z e)∧
 ∃ A n B,Pu Tryz.prog (Instr.sliceAt 23 (.slice k l m) (some (.int .i64 d)) none none) (.slice A n B)∧
 ∃ g,Pu Tryz.prog (Builtin.min_ #[3,3] 3 #[.int .i64 j,.int .i64 ((n:Nat):Int)]) (.int .i64 g)∧
 ∃ o p q,Ld Tryz.prog 23 (.pointer a) e (.slice o p q)∧
 ∃ r s t,Pu Tryz.prog (Instr.sliceAt 23 (.slice o p q) (some (.int .i64 d)) (some (.int .i64 (IntKind.i64.wrap (d+g)))) (some (.int .i64 (IntKind.i64.wrap (d+g))))) (.slice r s t)∧
 Yv Tryz.prog (c) [.slice r s t] e fun C x=>
 ∃ u,C=.bool u∧
 cond (!u)
 (Q (.tuple #[]) x)
 (∃ v,Ld Tryz.prog 3 (.pointer b) x (.int .i64 v)∧
 Xj [] [] G H i [c,.pointer a,.pointer b,.int .i64 (IntKind.i64.wrap (d+v))] f x))
 (Q (.tuple #[]) f)
def VU:Nat→List (Nat×TypeId):=fun n=>match n with | 0=>[(0,162),(1,15),(2,15),(4,3)] | _=>[]
theorem Vk (a:Value) (b:Option Addr) (c:Option Addr) (w:World) (Q:VWP) (h:JV a b c w Q):Xa Tryz.prog 297 #[a,.pointer b,.pointer c] w Q:=
 Xd VU Tryz.func297 h (fun _ _=>by kernel_rfl) (by kernel_rfl) (by kernel_rfl) (by kernel_rfl)
end Go.Sh
end

section
namespace Go.Sh
open Go Go.Fw Go.Proofs
set_option maxRecDepth 100000
set_option linter.unusedVariables false
def Xee (l:Int) (m:Int) (w:World) (Q:VWP):Prop:=
 LoopS [.int .u8 l,.int .i64 m,.int .i64 14] w fun j k e _ b=>
 ∃ d a c,e=[.int .u8 d,.int .i64 a,.int .i64 c]∧
 cond (decide (c≥8))
 (∃ f,Pu Tryz.prog (do eqGuard .shl 3 (.const (.int .i64 1)) (.tmp 34) (.int .i64 1) (.int .u64 (IntKind.u64.wrap c)); binOp .shl 3 (.int .i64 1) (.int .u64 (IntKind.u64.wrap c)):Sem Value) (.int .i64 f)∧
 ∃ g,Pu Tryz.prog (do eqGuard .quo 3 (.tmp 32) (.tmp 35) (.int .i64 a) (.int .i64 f); binOp .quo 3 (.int .i64 a) (.int .i64 f):Sem Value) (.int .i64 g)∧
 cond ((Int.tmod g 2) == 1)
 (∃ i,Pu Tryz.prog (do eqGuard .shl 3 (.const (.int .i64 1)) (.tmp 42) (.int .i64 1) (.int .u64 (IntKind.u64.wrap (IntKind.i64.wrap (c - 8)))); binOp .shl 3 (.int .i64 1) (.int .u64 (IntKind.u64.wrap (IntKind.i64.wrap (c - 8)))):Sem Value) (.int .i64 i)∧
 Xj [] [] j k e [.int .u8 d,.int .i64 (YE .i64 a (IntKind.i64.wrap (283*i))),.int .i64 (IntKind.i64.wrap (c - 1))] b b)
 (Xj [] [] j k e [.int .u8 d,.int .i64 a,.int .i64 (IntKind.i64.wrap (c - 1))] b b))
 (Q (.int .u8 (IntKind.u8.wrap a)) b)
def XkO (n:Int) (o:Int) (w:World) (Q:VWP):Prop:=
 LoopS [.int .u8 n,.int .u8 o,.int .u8 0,.int .i64 0,.int .i64 0] w fun l m e _ c=>
 ∃ b a g i d,e=[.int .u8 b,.int .u8 a,.int .u8 g,.int .i64 i,.int .i64 d]∧
 cond (decide (d<8))
 (∃ f,Pu Tryz.prog (do eqGuard .shl 3 (.const (.int .i64 1)) (.tmp 15) (.int .i64 1) (.int .u64 (IntKind.u64.wrap d)); binOp .shl 3 (.int .i64 1) (.int .u64 (IntKind.u64.wrap d)):Sem Value) (.int .i64 f)∧
 ∃ j,Pu Tryz.prog (do eqGuard .quo 3 (.tmp 13) (.tmp 16) (.int .i64 (IntKind.i64.wrap a)) (.int .i64 f); binOp .quo 3 (.int .i64 (IntKind.i64.wrap a)) (.int .i64 f):Sem Value) (.int .i64 j)∧
 cond ((Int.tmod j 2) == 1)
 (∃ k,Pu Tryz.prog (do eqGuard .shl 3 (.const (.int .i64 1)) (.tmp 24) (.int .i64 1) (.int .u64 (IntKind.u64.wrap d)); binOp .shl 3 (.int .i64 1) (.int .u64 (IntKind.u64.wrap d)):Sem Value) (.int .i64 k)∧
 Xj [] [] l m e [.int .u8 b,.int .u8 a,.int .u8 g,.int .i64 (YE .i64 i (IntKind.i64.wrap ((IntKind.i64.wrap b)*k))),.int .i64 (IntKind.i64.wrap (d+1))] c c)
 (Xj [] [] l m e [.int .u8 b,.int .u8 a,.int .u8 g,.int .i64 i,.int .i64 (IntKind.i64.wrap (d+1))] c c))
 (Xee g i c Q)
def XnV:Nat→List (Nat×TypeId):=fun n=>match n with | 0=>[(0,5),(1,5),(4,5),(5,3),(6,3)] | 2=>[(4,5),(5,3),(7,3)] | _=>[]
theorem XjY (a:Int) (b:Int) (w:World) (Q:VWP) (h:XkO a b w Q):Xa Tryz.prog 173 #[.int .u8 a,.int .u8 b] w Q:=
 Xd XnV Tryz.func173 h (fun _ _=>by kernel_rfl) (by kernel_rfl) (by kernel_rfl) (by kernel_rfl)
def XcS (e:Inv) (f:J1) (c:List Value) (d:World) (g:Int) (i:Int) (j:Int) (b:Int) (k:Int) (w:World) (Q:VWP):Prop:=
 ∃ a,Pu Tryz.prog (do eqGuard .shl 3 (.const (.int .i64 1)) (.tmp 46) (.int .i64 1) (.int .u64 (IntKind.u64.wrap b)); binOp .shl 3 (.int .i64 1) (.int .u64 (IntKind.u64.wrap b)):Sem Value) (.int .i64 a)∧
 Xj [] [] e f c [.int .u8 g,.int .i64 i,.int .i64 (IntKind.i64.wrap (j+(IntKind.i64.wrap ((Int.tmod k 2)*a)))),.int .i64 (IntKind.i64.wrap (b+1))] d w
def Xib (v:Int) (w:World) (Q:VWP):Prop:=
 LoopS [.int .u8 0,.int .i64 (IntKind.i64.wrap v),.int .i64 0,.int .i64 0] w fun x y n _ f=>
 ∃ u m s c,n=[.int .u8 u,.int .i64 m,.int .i64 s,.int .i64 c]∧
 cond (decide (c<8))
 (∃ g,Pu Tryz.prog (do eqGuard .shl 3 (.const (.int .i64 1)) (.tmp 15) (.int .i64 1) (.int .u64 (IntKind.u64.wrap c)); binOp .shl 3 (.int .i64 1) (.int .u64 (IntKind.u64.wrap c)):Sem Value) (.int .i64 g)∧
 ∃ o,Pu Tryz.prog (do eqGuard .quo 3 (.const (.int .i64 99)) (.tmp 16) (.int .i64 99) (.int .i64 g); binOp .quo 3 (.int .i64 99) (.int .i64 g):Sem Value) (.int .i64 o)∧
 ∃ i,Pu Tryz.prog (do eqGuard .shl 3 (.const (.int .i64 1)) (.tmp 22) (.int .i64 1) (.int .u64 (IntKind.u64.wrap c)); binOp .shl 3 (.int .i64 1) (.int .u64 (IntKind.u64.wrap c)):Sem Value) (.int .i64 i)∧
 ∃ p,Pu Tryz.prog (do eqGuard .quo 3 (.tmp 20) (.tmp 23) (.int .i64 m) (.int .i64 i); binOp .quo 3 (.int .i64 m) (.int .i64 i):Sem Value) (.int .i64 p)∧
 LoopS [.int .u8 u,.int .i64 m,.int .i64 s,.int .i64 c,.int .i64 (IntKind.i64.wrap ((Int.tmod o 2)+(Int.tmod p 2))),.int .i64 4] f fun z A q _ j=>
 ∃ d a e b t k,q=[.int .u8 d,.int .i64 a,.int .i64 e,.int .i64 b,.int .i64 t,.int .i64 k]∧
 cond (decide (k<8))
 (∃ l,Pu Tryz.prog (do eqGuard .shl 3 (.const (.int .i64 1)) (.tmp 37) (.int .i64 1) (.int .u64 (IntKind.u64.wrap (Int.tmod (IntKind.i64.wrap (b+k)) 8))); binOp .shl 3 (.int .i64 1) (.int .u64 (IntKind.u64.wrap (Int.tmod (IntKind.i64.wrap (b+k)) 8))):Sem Value) (.int .i64 l)∧
 ∃ r,Pu Tryz.prog (do eqGuard .quo 3 (.tmp 32) (.tmp 38) (.int .i64 a) (.int .i64 l); binOp .quo 3 (.int .i64 a) (.int .i64 l):Sem Value) (.int .i64 r)∧
 Xj [] [] z A q [.int .u8 d,.int .i64 a,.int .i64 e,.int .i64 b,.int .i64 (IntKind.i64.wrap (t+(Int.tmod r 2))),.int .i64 (IntKind.i64.wrap (k+1))] j j)
 (XcS x y n f d a e b t j Q))
 (Q (.int .u8 (IntKind.u8.wrap s)) f)
def XlG:Nat→List (Nat×TypeId):=fun n=>match n with | 0=>[(2,5),(3,3),(4,3),(5,3)] | 2=>[(2,5),(3,3),(4,3),(5,3),(6,3),(7,3)] | _=>[]
theorem Xic (a:Int) (w:World) (Q:VWP) (h:Xib a w Q):Xa Tryz.prog 174 #[.int .u8 a] w Q:=
 Xd XlG Tryz.func174 h (fun _ _=>by kernel_rfl) (by kernel_rfl) (by kernel_rfl) (by kernel_rfl)
def XkP (i:Int) (j:Int) (w:World) (Q:VWP):Prop:=
 cond (j == 0)
 (Q (.int .u8 1) w)
 (cond (i == 0)
 (Q (.int .u8 0) w)
 (LoopS [.int .u8 i,.int .u64 j,.int .u8 0,.int .u8 1,.int .u64 0] w fun m n d _ c=>
 ∃ a b k f g,d=[.int .u8 a,.int .u64 b,.int .u8 k,.int .u8 f,.int .u64 g]∧
 cond (decide (g<(Int.tmod b 255)))
 (Xa Tryz.prog 173 #[.int .u8 f,.int .u8 a] c fun l o=>
 ∃ e,l=.int .u8 e∧
 Xj [] [] m n d [.int .u8 a,.int .u64 b,.int .u8 k,.int .u8 e,.int .u64 (IntKind.u64.wrap (g+1))] c o)
 (Q (.int .u8 f) c)))
def XnW:Nat→List (Nat×TypeId):=fun n=>match n with | 0=>[(0,5),(1,24),(4,5),(5,5),(6,24)] | _=>[]
theorem XjZ (a:Int) (b:Int) (w:World) (Q:VWP) (h:XkP a b w Q):Xa Tryz.prog 234 #[.int .u8 a,.int .u64 b] w Q:=
 Xd XnW Tryz.func234 h (fun _ _=>by kernel_rfl) (by kernel_rfl) (by kernel_rfl) (by kernel_rfl)
end Go.Sh
end

section
namespace Go.Sh
open Go Go.Fw Go.Proofs
set_option maxRecDepth 100000
set_option linter.unusedVariables false
def Xan (j:Option Addr) (k:Nat) (l:Nat) (w:World) (Q:VWP):Prop:=
 ∃ a b c d,Ef Tryz.prog (Instr.buildSlice 23 0 #[]) w (.slice a b c) d∧
 ∃ e f g i,Ef Tryz.prog (Builtin.append_ #[23,23] 23 #[.slice a b c,.slice j k l]) d (.slice e f g) i∧
 Q (.slice e f g) i
def Xef:Nat→List (Nat×TypeId):=fun _=>[]
theorem Xcg (a:Option Addr) (b:Nat) (c:Nat) (w:World) (Q:VWP) (h:Xan a b c w Q):Xa Tryz.prog 40 #[.slice a b c] w Q:=
 Xd Xef Tryz.func40 h (fun _ _=>by kernel_rfl) (by kernel_rfl) (by kernel_rfl) (by kernel_rfl)
end Go.Sh
end
