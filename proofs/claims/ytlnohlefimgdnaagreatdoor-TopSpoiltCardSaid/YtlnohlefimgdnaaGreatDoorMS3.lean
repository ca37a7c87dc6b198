/- A part of a proof of a given law of this program: lemmas, printed forms of its functions, contracts. It has no conditions of its own. -/
import Derived.Test.YtlnohlefimgdnaaGreatDoorProg
import Derived.Test.YtlnohlefimgdnaaGreatDoorMW0
import Derived.Test.YtlnohlefimgdnaaGreatDoorMW1

set_option maxHeartbeats 16000000
section
namespace Go.Sh
open Go Go.Fw Go.Proofs
set_option maxRecDepth 100000
set_option linter.unusedVariables false
def Xiw  (w:World) (Q:VWP):Prop:=
 New #[.int .i64 0,.slice none 0 0] 158 w fun a b=>
 Q (.pointer (some ⟨a,0,none⟩)) b
def XlQ:Nat→List (Nat×TypeId):=fun _=>[]
theorem Xix  (w:World) (Q:VWP) (h:Xiw  w Q):Xa Tryz.prog 47 #[] w Q:=
 Xd XlQ Tryz.func47 h (fun _ _=>by kernel_rfl) (by kernel_rfl) (by kernel_rfl) (by kernel_rfl)
def Xap (i:Option Addr) (j:Int) (k:Int) (w:World) (Q:VWP):Prop:=
 Xa Tryz.prog 91 #[.int .u64 j,.int .i64 k] w fun f l=>
 ∃ a b c d,f=.tuple #[.slice a b c,.int .i64 d]∧
 Xa Tryz.prog 90 #[.pointer i,.slice a b c,.int .i64 d] l fun g m=>
 ∃ e,g=.pointer e∧
 Q (.pointer e) m
def Xen:Nat→List (Nat×TypeId):=fun _=>[]
theorem Xcj (a:Option Addr) (b:Int) (c:Int) (w:World) (Q:VWP) (h:Xap a b c w Q):Xa Tryz.prog 48 #[.pointer a,.int .u64 b,.int .i64 c] w Q:=
 Xd Xen Tryz.func48 h (fun _ _=>by kernel_rfl) (by kernel_rfl) (by kernel_rfl) (by kernel_rfl)
def WQ (g:Option Addr) (m:Option Addr) (f:Nat) (n:Nat) (w:World) (Q:VWP):Prop:=
 cond (decide (((f:Nat):Int) > 255))
 (Xa Tryz.prog 90 #[.pointer g,.slice none 0 0,.int .i64 15] w fun o p=>
 ∃ i,o=.pointer i∧
 Q (.pointer i) p)
 (Xa Tryz.prog 48 #[.pointer g,.int .u64 (IntKind.u64.wrap ((f:Nat):Int)),.int .i64 1] w fun j q=>
 ∃ a,j=.pointer a∧
 ∃ b c d k,Ef Tryz.prog (Instr.buildSlice 117 1 #[(0,.slice m f n)]) q (.slice b c d) k∧
 Xa Tryz.prog 92 #[.pointer a,.slice b c d] k fun l r=>
 ∃ e,l=.pointer e∧
 Q (.pointer e) r)
def Xck:Nat→List (Nat×TypeId):=fun _=>[]
theorem XaS (a:Option Addr) (b:Option Addr) (c:Nat) (d:Nat) (w:World) (Q:VWP) (h:WQ a b c d w Q):Xa Tryz.prog 49 #[.pointer a,.slice b c d] w Q:=
 Xd Xck Tryz.func49 h (fun _ _=>by kernel_rfl) (by kernel_rfl) (by kernel_rfl) (by kernel_rfl)
def QF (k:Option Addr) (w:World) (Q:VWP):Prop:=
 ∃ l,k=some l∧
 ∃ m,Ld Tryz.prog 33 (.pointer (some ((l.add 0).add 0))) w (.int .i64 m)∧
 cond (m != 0)
 (Drw w fun n=>
 ∃ a,k=some a∧
 ∃ b,Ld Tryz.prog 33 (.pointer (some ((a.add 0).add 0))) n (.int .i64 b)∧
 Q (.tuple #[.slice none 0 0,.int .i64 b]) n)
 (∃ c,k=some c∧
 ∃ d e f,Ld Tryz.prog 23 (.pointer (some (c.add 1))) w (.slice d e f)∧
 Xa Tryz.prog 88 #[.slice d e f] w fun o p=>
 ∃ g i j,o=.slice g i j∧
 Q (.tuple #[.slice g i j,.int .i64 0]) p)
def Xdo:Nat→List (Nat×TypeId):=fun _=>[]
theorem XbB (a:Option Addr) (w:World) (Q:VWP) (h:QF a w Q):Xa Tryz.prog 50 #[.pointer a] w Q:=
 Xd Xdo Tryz.func50 h (fun _ _=>by kernel_rfl) (by kernel_rfl) (by kernel_rfl) (by kernel_rfl)
def XkU (a:Option Addr) (b:Nat) (c:Nat) (w:World) (Q:VWP):Prop:=
 New #[.int .i64 0,.slice a b c] 177 w fun d e=>
 Q (.pointer (some ⟨d,0,none⟩)) e
def Xn2:Nat→List (Nat×TypeId):=fun _=>[]
theorem Xj9 (a:Option Addr) (b:Nat) (c:Nat) (w:World) (Q:VWP) (h:XkU a b c w Q):Xa Tryz.prog 56 #[.slice a b c] w Q:=
 Xd Xn2 Tryz.func56 h (fun _ _=>by kernel_rfl) (by kernel_rfl) (by kernel_rfl) (by kernel_rfl)
def Xaq (i:Option Addr) (j:Int) (w:World) (Q:VWP):Prop:=
 Drw w fun q=>
 ∃ k,i=some k∧
 Xa Tryz.prog 105 #[.pointer i,.int .i64 j,.int .i64 8] q fun l r=>
 ∃ b,l=.int .i64 b∧
 Xa Tryz.prog 104 #[.pointer (some (k.add 0)),.int .i64 b] r fun m n=>
 ∃ c,m=.bool c∧
 cond c
 (Q (.int .u64 0) n)
 (Xa Tryz.prog 107 #[.pointer i,.int .i64 j] n fun o s=>
 ∃ d e f,o=.slice d e f∧
 Xa Tryz.prog 106 #[.slice d e f] s fun p t=>
 ∃ g a,p=.tuple #[.int .u64 g,.int .i64 a]∧
 Q (.int .u64 g) t)
def Xeo:Nat→List (Nat×TypeId):=fun _=>[]
theorem Xcl (a:Option Addr) (b:Int) (w:World) (Q:VWP) (h:Xaq a b w Q):Xa Tryz.prog 57 #[.pointer a,.int .i64 b] w Q:=
 Xd Xeo Tryz.func57 h (fun _ _=>by kernel_rfl) (by kernel_rfl) (by kernel_rfl) (by kernel_rfl)
def WR (g:Option Addr) (w:World) (Q:VWP):Prop:=
 New #[.pointer g] 118 w fun a b=>
 ∃ c,Ld Tryz.prog 118 (.pointer (some ⟨a,0,none⟩)) b (.pointer c)∧
 Xa Tryz.prog 108 #[.pointer c,.func (.func 109) #[] #[.pointer (some ⟨a,0,none⟩)]] b fun i j=>
 ∃ d e f,i=.slice d e f∧
 Q (.slice d e f) j
def Xcm:Nat→List (Nat×TypeId):=fun _=>[]
theorem XaT (a:Option Addr) (w:World) (Q:VWP) (h:WR a w Q):Xa Tryz.prog 58 #[.pointer a] w Q:=
 Xd Xcm Tryz.func58 h (fun _ _=>by kernel_rfl) (by kernel_rfl) (by kernel_rfl) (by kernel_rfl)
def ZB (c:Option Addr) (d:Int) (w:World) (Q:VWP):Prop:=
 ∃ a,c=some a∧
 ∃ b,Ld Tryz.prog 33 (.pointer (some ((a.add 0).add 0))) w (.int .i64 b)∧
 Q (.int .i64 b) w
def Xar (a:Option Addr) (w:World) (Q:VWP):Prop:=
 ∃ c,a=some c∧
 ∃ g d i,Ld Tryz.prog 23 (.pointer (some (c.add 1))) w (.slice g d i)∧
 cond (decide (((d:Nat):Int) > 0))
 (∃ b,a=some b∧
 Xa Tryz.prog 104 #[.pointer (some (b.add 0)),.int .i64 10] w fun e j=>
 ∃ f,e=.bool f∧
 ZB a 0 j Q)
 (ZB a 0 w Q)
def Xep:Nat→List (Nat×TypeId):=fun _=>[]
theorem Xcn (a:Option Addr) (w:World) (Q:VWP) (h:Xar a w Q):Xa Tryz.prog 59 #[.pointer a] w Q:=
 Xd Xep Tryz.func59 h (fun _ _=>by kernel_rfl) (by kernel_rfl) (by kernel_rfl) (by kernel_rfl)
def Xas (a:Option Addr) (q:Option Addr) (r:Nat) (s:Nat) (t:Int) (w:World) (Q:VWP):Prop:=
 ∃ m,a=some m∧
 Xa Tryz.prog 104 #[.pointer (some (m.add 0)),.int .i64 t] w fun n l=>
 ∃ b,n=.bool b∧
 cond (!b)
 (∃ c,a=some c∧
 ∃ d e f,Ld Tryz.prog 23 (.pointer (some (c.add 1))) l (.slice d e f)∧
 ∃ g i j o,Ef Tryz.prog (Builtin.append_ #[23,23] 23 #[.slice d e f,.slice q r s]) l (.slice g i j) o∧
 ∃ k,a=some k∧
 ∃ p,Sto Tryz.prog 23 (.pointer (some (k.add 1))) (.slice g i j) o p∧
 Q (.pointer a) p)
 (Q (.pointer a) l)
def Xeq:Nat→List (Nat×TypeId):=fun _=>[]
theorem Xco (a:Option Addr) (b:Option Addr) (c:Nat) (d:Nat) (e:Int) (w:World) (Q:VWP) (h:Xas a b c d e w Q):Xa Tryz.prog 90 #[.pointer a,.slice b c d,.int .i64 e] w Q:=
 Xd Xeq Tryz.func90 h (fun _ _=>by kernel_rfl) (by kernel_rfl) (by kernel_rfl) (by kernel_rfl)
def WS (e:Option Addr) (f:Option Addr) (g:Nat) (i:Nat) (w:World) (Q:VWP):Prop:=
 Xa Tryz.prog 20 #[.slice f g i] w fun j k=>
 ∃ a b c,j=.slice a b c∧
 Xa Tryz.prog 90 #[.pointer e,.slice a b c,.int .i64 0] k fun l m=>
 ∃ d,l=.pointer d∧
 Q (.pointer d) m
def Xcp:Nat→List (Nat×TypeId):=fun _=>[]
theorem XaU (a:Option Addr) (b:Option Addr) (c:Nat) (d:Nat) (w:World) (Q:VWP) (h:WS a b c d w Q):Xa Tryz.prog 92 #[.pointer a,.slice b c d] w Q:=
 Xd Xcp Tryz.func92 h (fun _ _=>by kernel_rfl) (by kernel_rfl) (by kernel_rfl) (by kernel_rfl)
def ZC (c:Option Addr) (d:Bool) (w:World) (Q:VWP):Prop:=
 ∃ a,c=some a∧
 ∃ b,Ld Tryz.prog 33 (.pointer (some (a.add 0))) w (.int .i64 b)∧
 Q (.bool (b != 0)) w
def Xat (a:Option Addr) (f:Int) (w:World) (Q:VWP):Prop:=
 ∃ c,a=some c∧
 ∃ d,Ld Tryz.prog 33 (.pointer (some (c.add 0))) w (.int .i64 d)∧
 cond (d == 0)
 (∃ b,a=some b∧
 ∃ e,Sto Tryz.prog 33 (.pointer (some (b.add 0))) (.int .i64 f) w e∧
 ZC a false e Q)
 (ZC a false w Q)
def Xer:Nat→List (Nat×TypeId):=fun _=>[]
theorem Xcq (a:Option Addr) (b:Int) (w:World) (Q:VWP) (h:Xat a b w Q):Xa Tryz.prog 104 #[.pointer a,.int .i64 b] w Q:=
 Xd Xer Tryz.func104 h (fun _ _=>by kernel_rfl) (by kernel_rfl) (by kernel_rfl) (by kernel_rfl)
def Zb (e:Option Addr) (f:Int) (i:Int) (g:Bool) (w:World) (Q:VWP):Prop:=
 cond g
 (Q (.int .i64 11) w)
 (∃ a,e=some a∧
 ∃ c b d,Ld Tryz.prog 23 (.pointer (some (a.add 1))) w (.slice c b d)∧
 cond (decide (f > ((b:Nat):Int)))
 (Q (.int .i64 12) w)
 (Q (.int .i64 0) w))
def WT (b:Option Addr) (a:Int) (c:Int) (w:World) (Q:VWP):Prop:=
 cond (decide (a<0))
 (Zb b a 0 true w Q)
 (Zb b a 0 (decide (a > c)) w Q)
def Xcr:Nat→List (Nat×TypeId):=fun _=>[]
theorem XaV (a:Option Addr) (b:Int) (c:Int) (w:World) (Q:VWP) (h:WT a b c w Q):Xa Tryz.prog 105 #[.pointer a,.int .i64 b,.int .i64 c] w Q:=
 Xd Xcr Tryz.func105 h (fun _ _=>by kernel_rfl) (by kernel_rfl) (by kernel_rfl) (by kernel_rfl)
def Xau (p:Option Addr) (q:Int) (w:World) (Q:VWP):Prop:=
 ∃ r,p=some r∧
 ∃ s t u,Ld Tryz.prog 23 (.pointer (some (r.add 1))) w (.slice s t u)∧
 ∃ a b c,Pu Tryz.prog (Instr.sliceAt 23 (.slice s t u) none (some (.int .i64 q)) none) (.slice a b c)∧
 Xa Tryz.prog 88 #[.slice a b c] w fun v x=>
 ∃ d e f,v=.slice d e f∧
 ∃ g,p=some g∧
 ∃ i j k,Ld Tryz.prog 23 (.pointer (some (g.add 1))) x (.slice i j k)∧
 ∃ l m n,Pu Tryz.prog (Instr.sliceAt 23 (.slice i j k) (some (.int .i64 q)) none none) (.slice l m n)∧
 ∃ o,p=some o∧
 ∃ y,Sto Tryz.prog 23 (.pointer (some (o.add 1))) (.slice l m n) x y∧
 Q (.slice d e f) y
def Xes:Nat→List (Nat×TypeId):=fun _=>[]
theorem Xcs (a:Option Addr) (b:Int) (w:World) (Q:VWP) (h:Xau a b w Q):Xa Tryz.prog 107 #[.pointer a,.int .i64 b] w Q:=
 Xd Xes Tryz.func107 h (fun _ _=>by kernel_rfl) (by kernel_rfl) (by kernel_rfl) (by kernel_rfl)
def Yj (g:Option Addr) (p:Option Addr) (q:Nat) (r:Nat) (k:Option Addr) (l:Nat) (m:Nat) (n:Int) (w:World) (Q:VWP):Prop:=
 ∃ a,g=some a∧
 ∃ b,Ld Tryz.prog 33 (.pointer (some ((a.add 0).add 0))) w (.int .i64 b)∧
 cond (b != 0)
 (∃ c,g=some c∧
 ∃ i,Sto Tryz.prog 23 (.pointer (some (c.add 1))) (.slice k l m) w i∧
 Q (.slice none 0 0) i)
 (Xa Tryz.prog 107 #[.pointer g,.int .i64 (IntKind.i64.wrap n)] w fun j o=>
 ∃ d e f,j=.slice d e f∧
 Q (.slice d e f) o)
def VF (b:Option Addr) (q:Value) (w:World) (Q:VWP):Prop:=
 ∃ k,b=some k∧
 ∃ c d e,Ld Tryz.prog 23 (.pointer (some (k.add 1))) w (.slice c d e)∧
 Yv Tryz.prog (q) [] w fun l j=>
 ∃ a,l=.int .u64 a∧
 ∃ f,b=some f∧
 ∃ m g n,Ld Tryz.prog 23 (.pointer (some (f.add 1))) j (.slice m g n)∧
 cond (decide (a > (IntKind.u64.wrap ((g:Nat):Int))))
 (∃ i,b=some i∧
 Xa Tryz.prog 104 #[.pointer (some (i.add 0)),.int .i64 12] j fun o r=>
 ∃ p,o=.bool p∧
 Yj b none 0 0 c d e a r Q)
 (Yj b none 0 0 c d e a j Q)
def XaW:Nat→List (Nat×TypeId):=fun _=>[]
theorem QG (a:Option Addr) (b:Value) (w:World) (Q:VWP) (h:VF a b w Q):Xa Tryz.prog 108 #[.pointer a,b] w Q:=
 Xd XaW Tryz.func108 h (fun _ _=>by kernel_rfl) (by kernel_rfl) (by kernel_rfl) (by kernel_rfl)
def Vo (c:Option Addr) (w:World) (Q:VWP):Prop:=
 ∃ a,Ld Tryz.prog 118 (.pointer c) w (.pointer a)∧
 Xa Tryz.prog 57 #[.pointer a,.int .i64 1] w fun d e=>
 ∃ b,d=.int .u64 b∧
 Q (.int .u64 b) e
def Q2:Nat→List (Nat×TypeId):=fun _=>[]
theorem Qg (a:Option Addr) (w:World) (Q:VWP) (h:Vo a w Q):Xa Tryz.prog 109 #[.pointer a] w Q:=
 Xd Q2 Tryz.func109 h (fun _ _=>by kernel_rfl) (by kernel_rfl) (by kernel_rfl) (by kernel_rfl)
end Go.Sh
end

section
namespace Go.Sh
open Go Go.Fw Go.Proofs
set_option maxRecDepth 100000
set_option linter.unusedVariables false
def Xav (A:Int) (o:Int) (w:World) (Q:VWP):Prop:=
 New #[.int .u64 A,.int .u64 o] 271 w fun p q=>
 ∃ r,Ld Tryz.prog 24 (.pointer (some ((⟨p,0,none⟩:Addr).add 0))) q (.int .u64 r)∧
 Xa Tryz.prog 91 #[.int .u64 r,.int .i64 8] q fun s t=>
 ∃ a b c u,s=.tuple #[.slice a b c,.int .i64 u]∧
 ∃ d,Ld Tryz.prog 24 (.pointer (some ((⟨p,0,none⟩:Addr).add 1))) t (.int .u64 d)∧
 Xa Tryz.prog 91 #[.int .u64 d,.int .i64 8] t fun v B=>
 ∃ e f g x,v=.tuple #[.slice e f g,.int .i64 x]∧
 ∃ i j k y,Ef Tryz.prog (Instr.buildSlice 117 2 #[(0,.slice a b c),(1,.slice e f g)]) B (.slice i j k) y∧
 Xa Tryz.prog 20 #[.slice i j k] y fun z C=>
 ∃ l m n,z=.slice l m n∧
 Q (.slice l m n) C
def Xet:Nat→List (Nat×TypeId):=fun _=>[]
theorem Xct (b:Int) (a:Int) (w:World) (Q:VWP) (h:Xav b a w Q):Xa Tryz.prog 166 #[.agg #[.int .u64 b,.int .u64 a]] w Q:=
 Xd Xet Tryz.func166 h (fun _ _=>by kernel_rfl) (by kernel_rfl) (by kernel_rfl) (by kernel_rfl)
def Xp4 (r:Option Addr) (q:Nat) (s:Nat) (w:World) (Q:VWP):Prop:=
 ∃ t,Pu Tryz.prog (zeroValue 271) t∧
 New t.cells 271 w fun c u=>
 cond (((q:Nat):Int) != 16)
 (∃ d,Sto Tryz.prog 271 (.pointer (some ⟨c,0,none⟩)) (.agg #[.int .u64 0,.int .u64 0]) u d∧
 ∃ v x,(.pointer (some ⟨c,0,none⟩):Value)=.pointer (some v)∧(loadVar 271 v).run Tryz.prog d=.ok x d∧
 Q (.tuple #[x,.int .i64 11]) d)
 (∃ i j k,Pu Tryz.prog (Instr.sliceAt 23 (.slice r q s) none (some (.int .i64 8)) none) (.slice i j k)∧
 Xa Tryz.prog 106 #[.slice i j k] u fun y A=>
 ∃ l e,y=.tuple #[.int .u64 l,.int .i64 e]∧
 ∃ m n o,Pu Tryz.prog (Instr.sliceAt 23 (.slice r q s) (some (.int .i64 8)) none none) (.slice m n o)∧
 Xa Tryz.prog 106 #[.slice m n o] A fun z B=>
 ∃ p f,z=.tuple #[.int .u64 p,.int .i64 f]∧
 ∃ g,Sto Tryz.prog 271 (.pointer (some ⟨c,0,none⟩)) (.agg #[.int .u64 l,.int .u64 p]) B g∧
 ∃ a b,(.pointer (some ⟨c,0,none⟩):Value)=.pointer (some a)∧(loadVar 271 a).run Tryz.prog g=.ok b g∧
 Q (.tuple #[b,.int .i64 0]) g)
def Xra:Nat→List (Nat×TypeId):=fun _=>[]
theorem Xn3 (a:Option Addr) (b:Nat) (c:Nat) (w:World) (Q:VWP) (h:Xp4 a b c w Q):Xa Tryz.prog 227 #[.slice a b c] w Q:=
 Xd Xra Tryz.func227 h (fun _ _=>by kernel_rfl) (by kernel_rfl) (by kernel_rfl) (by kernel_rfl)
def Xgb (e:Addr) (g:Addr) (w:World) (Q:VWP):Prop:=
 ∃ d a,Ld Tryz.prog 271 (.pointer (some g)) w (.agg #[.int .u64 d,.int .u64 a])∧
 ∃ c,Sto Tryz.prog 271 (.pointer (some e)) (.agg #[.int .u64 d,.int .u64 a]) w c∧
 ∃ b f,(.pointer (some e):Value)=.pointer (some b)∧(loadVar 271 b).run Tryz.prog c=.ok f c∧
 Q (f) c
def Xn4 (C:Option Addr) (u:Nat) (D:Nat) (w:World) (Q:VWP):Prop:=
 ∃ v,Pu Tryz.prog (zeroValue 271) v∧
 New v.cells 271 w fun E F=>
 ∃ x,Pu Tryz.prog (zeroValue 271) x∧
 New x.cells 271 F fun G H=>
 LoopS [.pointer (some ⟨E,0,none⟩),.pointer (some ⟨G,0,none⟩),.slice C u D,.int .i64 ((u:Nat):Int),.int .i64 0] H fun I J j _ a=>
 ∃ p f q r s t g,j=[.pointer (some p),.pointer (some f),.slice q r s,.int .i64 t,.int .i64 g]∧
 cond (decide (g<t))
 (∃ k,IxA Tryz.prog 268 (.slice q r s) (.int .i64 g) k∧
 ∃ l b,Ld Tryz.prog 271 (.pointer (some k)) a (.agg #[.int .u64 l,.int .u64 b])∧
 ∃ y,Pu Tryz.prog (zeroValue 271) y∧
 New y.cells 271 a fun z L=>
 ∃ i,Sto Tryz.prog 271 (.pointer (some ⟨z,0,none⟩)) (.agg #[.int .u64 l,.int .u64 b]) L i∧
 ∃ m c,Ld Tryz.prog 271 (.pointer (some f)) i (.agg #[.int .u64 m,.int .u64 c])∧
 ∃ n d,Ld Tryz.prog 271 (.pointer (some ⟨z,0,none⟩)) i (.agg #[.int .u64 n,.int .u64 d])∧
 Xa Tryz.prog 299 #[.agg #[.int .u64 m,.int .u64 c],.agg #[.int .u64 n,.int .u64 d]] i fun A M=>
 ∃ o e,A=.agg #[.int .u64 o,.int .u64 e]∧
 ∃ B,Sto Tryz.prog 271 (.pointer (some f)) (.agg #[.int .u64 o,.int .u64 e]) M B∧
 Xj [] [] I J j [.pointer (some p),.pointer (some f),.slice q r s,.int .i64 t,.int .i64 (IntKind.i64.wrap (g+1))] a B)
 (Xgb p f a Q)
def Xpp:Nat→List (Nat×TypeId):=fun n=>match n with | 0=>[(2,1000000),(3,1000000),(6,268),(7,3),(8,3)] | _=>[]
theorem XlR (a:Option Addr) (b:Nat) (c:Nat) (w:World) (Q:VWP) (h:Xn4 a b c w Q):Xa Tryz.prog 233 #[.slice a b c] w Q:=
 Xd Xpp Tryz.func233 h (fun _ _=>by kernel_rfl) (by kernel_rfl) (by kernel_rfl) (by kernel_rfl)
def XbC (p:Int) (e:Int) (q:Int) (f:Int) (w:World) (Q:VWP):Prop:=
 New #[.int .u64 p,.int .u64 e] 271 w fun g r=>
 New #[.int .u64 q,.int .u64 f] 271 r fun i s=>
 ∃ j,Pu Tryz.prog (zeroValue 271) j∧
 New j.cells 271 s fun k a=>
 ∃ l,Ld Tryz.prog 24 (.pointer (some ((⟨g,0,none⟩:Addr).add 0))) a (.int .u64 l)∧
 ∃ m,Ld Tryz.prog 24 (.pointer (some ((⟨i,0,none⟩:Addr).add 0))) a (.int .u64 m)∧
 ∃ c,Ld Tryz.prog 24 (.pointer (some ((⟨g,0,none⟩:Addr).add 1))) a (.int .u64 c)∧
 ∃ d,Ld Tryz.prog 24 (.pointer (some ((⟨i,0,none⟩:Addr).add 1))) a (.int .u64 d)∧
 ∃ b,Sto Tryz.prog 271 (.pointer (some ⟨k,0,none⟩)) (.agg #[.int .u64 (YE .u64 l m),.int .u64 (YE .u64 c d)]) a b∧
 ∃ n o,(.pointer (some ⟨k,0,none⟩):Value)=.pointer (some n)∧(loadVar 271 n).run Tryz.prog b=.ok o b∧
 Q (o) b
def Xfy:Nat→List (Nat×TypeId):=fun _=>[]
theorem Xdp (c:Int) (a:Int) (d:Int) (b:Int) (w:World) (Q:VWP) (h:XbC c a d b w Q):Xa Tryz.prog 299 #[.agg #[.int .u64 c,.int .u64 a],.agg #[.int .u64 d,.int .u64 b]] w Q:=
 Xd Xfy Tryz.func299 h (fun _ _=>by kernel_rfl) (by kernel_rfl) (by kernel_rfl) (by kernel_rfl)
def Z4 (e:Addr) (g:Addr) (w:World) (Q:VWP):Prop:=
 ∃ d a,Ld Tryz.prog 271 (.pointer (some g)) w (.agg #[.int .u64 d,.int .u64 a])∧
 ∃ c,Sto Tryz.prog 271 (.pointer (some e)) (.agg #[.int .u64 d,.int .u64 a]) w c∧
 ∃ b f,(.pointer (some e):Value)=.pointer (some b)∧(loadVar 271 b).run Tryz.prog c=.ok f c∧
 Q (f) c
def XbD (p:Int) (i:Int) (w:World) (Q:VWP):Prop:=
 New #[.int .u64 p,.int .u64 i] 271 w fun c q=>
 ∃ j,Pu Tryz.prog (zeroValue 271) j∧
 New j.cells 271 q fun k d=>
 ∃ l,Ld Tryz.prog 24 (.pointer (some ((⟨c,0,none⟩:Addr).add 0))) d (.int .u64 l)∧
 ∃ m,Ld Tryz.prog 24 (.pointer (some ((⟨c,0,none⟩:Addr).add 1))) d (.int .u64 m)∧
 ∃ e,Ld Tryz.prog 24 (.pointer (some ((⟨c,0,none⟩:Addr).add 0))) d (.int .u64 e)∧
 ∃ n,Pu Tryz.prog (zeroValue 271) n∧
 New n.cells 271 d fun a r=>
 ∃ b,Sto Tryz.prog 271 (.pointer (some ⟨a,0,none⟩)) (.agg #[.int .u64 (Int.fdiv l (2 ^ 1)),.int .u64 (ior .u64 (Int.fdiv m (2 ^ 1)) (IntKind.u64.wrap (e*2 ^ 63)))]) r b∧
 ∃ f,Ld Tryz.prog 24 (.pointer (some ((⟨c,0,none⟩:Addr).add 1))) b (.int .u64 f)∧
 cond ((J0 .u64 f 1) != 0)
 (∃ g,Ld Tryz.prog 24 (.pointer (some ((⟨a,0,none⟩:Addr).add 0))) b (.int .u64 g)∧
 ∃ o,Sto Tryz.prog 24 (.pointer (some ((⟨a,0,none⟩:Addr).add 0))) (.int .u64 (YE .u64 g 16212958658533785600)) b o∧
 Z4 (⟨k,0,none⟩:Addr) (⟨a,0,none⟩:Addr) o Q)
 (Z4 (⟨k,0,none⟩:Addr) (⟨a,0,none⟩:Addr) b Q)
def Xfz:Nat→List (Nat×TypeId):=fun _=>[]
theorem Xdq (b:Int) (a:Int) (w:World) (Q:VWP) (h:XbD b a w Q):Xa Tryz.prog 391 #[.agg #[.int .u64 b,.int .u64 a]] w Q:=
 Xd Xfz Tryz.func391 h (fun _ _=>by kernel_rfl) (by kernel_rfl) (by kernel_rfl) (by kernel_rfl)
end Go.Sh
end

section
namespace Go.Sh
open Go Go.Fw Go.Proofs
set_option maxRecDepth 100000
set_option linter.unusedVariables false
def XbE (W:Option Addr) (B:Option Addr) (C:Nat) (D:Nat) (E:Option Addr) (F:Nat) (G:Nat) (w:World) (Q:VWP):Prop:=
 Xa Tryz.prog 163 #[.slice B C D] w fun X Y=>
 ∃ H I J,X=.slice H I J∧
 Xa Tryz.prog 163 #[.slice E F G] Y fun L Z=>
 ∃ c d e,L=.slice c d e∧
 Xa Tryz.prog 164 #[.slice B C D,.slice E F G] Z fun M aa=>
 ∃ f a,M=.agg #[.int .u64 f,.int .u64 a]∧
 ∃ g i j N,Ef Tryz.prog (Instr.buildSlice 268 1 #[(0,.agg #[.int .u64 f,.int .u64 a])]) aa (.slice g i j) N∧
 ∃ k l m O,Ef Tryz.prog (Instr.buildSlice 379 3 #[(0,.slice H I J),(1,.slice c d e),(2,.slice g i j)]) N (.slice k l m) O∧
 Xa Tryz.prog 162 #[.slice k l m] O fun P ab=>
 ∃ n o p,P=.slice n o p∧
 Xa Tryz.prog 165 #[.pointer W,.agg #[.int .u64 0,.int .u64 0],.slice n o p] ab fun R ac=>
 ∃ q b,R=.agg #[.int .u64 q,.int .u64 b]∧
 Xa Tryz.prog 166 #[.agg #[.int .u64 q,.int .u64 b]] ac fun S ad=>
 ∃ r s t,S=.slice r s t∧
 ∃ u v x T,Ef Tryz.prog (Instr.buildSlice 117 1 #[(0,.slice r s t)]) ad (.slice u v x) T∧
 Xa Tryz.prog 20 #[.slice u v x] T fun U V=>
 ∃ y z A,U=.slice y z A∧
 Q (.slice y z A) V
def XfA:Nat→List (Nat×TypeId):=fun _=>[]
theorem Xdr (a:Option Addr) (b:Option Addr) (c:Nat) (d:Nat) (e:Option Addr) (f:Nat) (g:Nat) (w:World) (Q:VWP) (h:XbE a b c d e f g w Q):Xa Tryz.prog 100 #[.pointer a,.slice b c d,.slice e f g] w Q:=
 Xd XfA Tryz.func100 h (fun _ _=>by kernel_rfl) (by kernel_rfl) (by kernel_rfl) (by kernel_rfl)
def XkV (k:Option Addr) (l:Nat) (m:Nat) (w:World) (Q:VWP):Prop:=
 Xa Tryz.prog 227 #[.slice k l m] w fun n o=>
 ∃ f c a,n=.tuple #[.agg #[.int .u64 f,.int .u64 c],.int .i64 a]∧
 ∃ g,Pu Tryz.prog (zeroValue 271) g∧
 New g.cells 271 o fun i p=>
 ∃ d,Sto Tryz.prog 271 (.pointer (some ⟨i,0,none⟩)) (.agg #[.int .u64 f,.int .u64 c]) p d∧
 cond (a != 0)
 (Q (.tuple #[.pointer none,.int .i64 a]) d)
 (∃ e b,Ld Tryz.prog 271 (.pointer (some ⟨i,0,none⟩)) d (.agg #[.int .u64 e,.int .u64 b])∧
 New #[.int .u64 e,.int .u64 b,.int .u32 0,.int .i32 0,.int .u32 0,.int .i64 0,.int .u64 0,.int .u64 0,.int .u64 0,.int .u64 0,.int .u64 0,.int .u64 0,.int .u64 0,.int .u64 0,.int .u64 0,.int .u64 0,.int .u64 0,.int .u64 0,.int .u64 0,.int .u64 0,.int .u64 0,.int .u64 0,.int .u64 0,.int .u64 0,.int .u64 0,.int .u64 0,.int .u64 0,.int .u64 0,.int .u64 0,.int .u64 0,.int .u64 0,.int .u64 0,.int .u64 0,.int .u64 0,.int .u64 0,.int .u64 0,.int .u64 0,.int .u64 0,.int .u64 0,.int .u64 0,.int .u64 0,.int .u64 0,.int .u64 0,.int .u64 0,.int .u64 0,.int .u64 0,.int .u64 0,.int .u64 0,.int .u64 0,.int .u64 0,.int .u64 0,.int .u64 0,.int .u64 0,.int .u64 0,.int .u64 0,.int .u64 0,.int .u64 0,.int .u64 0,.int .u64 0,.int .u64 0,.int .u64 0,.int .u64 0,.int .u64 0,.int .u64 0,.int .u64 0,.int .u64 0,.int .u64 0,.int .u64 0,.int .u64 0,.int .u64 0,.int .u64 0,.int .u64 0,.int .u64 0,.int .u64 0,.int .u64 0,.int .u64 0,.int .u64 0,.int .u64 0,.int .u64 0,.int .u64 0,.int .u64 0,.int .u64 0,.int .u64 0,.int .u64 0,.int .u64 0,.int .u64 0,.int .u64 0,.int .u64 0,.int .u64 0,.int .u64 0,.int .u64 0,.int .u64 0,.int .u64 0,.int .u64 0,.int .u64 0,.int .u64 0,.int .u64 0,.int .u64 0,.int .u64 0,.int .u64 0,.int .u64 0,.int .u64 0,.int .u64 0,.int .u64 0,.int .u64 0,.int .u64 0,.int .u64 0,.int .u64 0,.int .u64 0,.int .u64 0,.int .u64 0,.int .u64 0,.int .u64 0,.int .u64 0,.int .u64 0,.int .u64 0,.int .u64 0,.int .u64 0,.int .u64 0,.int .u64 0,.int .u64 0,.int .u64 0,.int .u64 0,.int .u64 0,.int .u64 0,.int .u64 0,.int .u64 0,.int .u64 0,.int .u64 0,.int .u64 0,.int .u64 0,.int .u64 0,.int .u64 0,.int .u64 0,.int .u64 0,.int .u64 0,.int .u64 0,.int .u64 0,.int .u64 0,.int .u64 0,.int .u64 0,.int .u64 0,.int .u64 0,.int .u64 0,.int .u64 0,.int .u64 0,.int .u64 0,.int .u64 0,.int .u64 0,.int .u64 0,.int .u64 0,.int .u64 0,.int .u64 0,.int .u64 0,.int .u64 0,.int .u64 0,.int .u64 0,.int .u64 0,.int .u64 0,.int .u64 0,.int .u64 0,.int .u64 0,.int .u64 0,.int .u64 0,.int .u64 0,.int .u64 0,.int .u64 0,.int .u64 0,.int .u64 0,.int .u64 0,.int .u64 0,.int .u64 0,.int .u64 0,.int .u64 0,.int .u64 0,.int .u64 0,.int .u64 0,.int .u64 0,.int .u64 0,.int .u64 0,.int .u64 0,.int .u64 0,.int .u64 0,.int .u64 0,.int .u64 0,.int .u64 0,.int .u64 0,.int .u64 0,.int .u64 0,.int .u64 0,.int .u64 0,.int .u64 0,.int .u64 0,.int .u64 0,.int .u64 0,.int .u64 0,.int .u64 0,.int .u64 0,.int .u64 0,.int .u64 0,.int .u64 0,.int .u64 0,.int .u64 0,.int .u64 0,.int .u64 0,.int .u64 0,.int .u64 0,.int .u64 0,.int .u64 0,.int .u64 0,.int .u64 0,.int .u64 0,.int .u64 0,.int .u64 0,.int .u64 0,.int .u64 0,.int .u64 0,.int .u64 0,.int .u64 0,.int .u64 0,.int .u64 0,.int .u64 0,.int .u64 0,.int .u64 0,.int .u64 0,.int .u64 0,.int .u64 0,.int .u64 0,.int .u64 0,.int .u64 0,.int .u64 0,.int .u64 0,.int .u64 0,.int .u64 0,.int .u64 0,.int .u64 0,.int .u64 0,.int .u64 0,.int .u64 0,.int .u64 0,.int .u64 0,.int .u64 0,.int .u64 0,.int .u64 0,.int .u64 0,.int .u64 0,.int .u64 0,.int .u64 0,.int .u64 0,.int .u64 0,.int .u64 0,.int .u64 0,.int .u64 0,.int .u64 0,.int .u64 0,.int .u64 0,.int .u64 0,.int .u64 0,.int .u64 0,.int .u64 0,.int .u64 0,.int .u64 0,.int .u64 0,.int .u64 0,.int .u64 0,.int .u64 0,.int .u64 0,.int .u64 0,.int .u64 0,.int .u64 0,.int .u64 0,.int .u64 0,.int .u64 0,.int .u64 0,.int .u64 0,.int .u64 0,.int .u64 0,.int .u64 0,.int .u64 0,.int .u64 0,.int .u64 0,.int .u64 0,.int .u64 0,.int .u64 0,.int .u64 0,.int .u64 0,.int .u64 0,.int .u64 0,.int .u64 0,.int .u64 0,.int .u64 0,.int .u64 0,.int .u64 0,.int .u64 0,.int .u64 0,.int .u64 0,.int .u64 0,.int .u64 0,.int .u64 0,.int .u64 0,.int .u64 0,.int .u64 0,.int .u64 0,.int .u64 0,.int .u64 0,.int .u64 0,.int .u64 0,.int .u64 0,.int .u64 0,.int .u64 0,.int .u64 0,.int .u64 0,.int .u64 0,.int .u64 0,.int .u64 0,.int .u64 0,.int .u64 0,.int .u64 0,.int .u64 0,.int .u64 0,.int .u64 0,.int .u64 0,.int .u64 0,.int .u64 0,.int .u64 0,.int .u64 0,.int .u64 0,.int .u64 0,.int .u64 0,.int .u64 0,.int .u64 0,.int .u64 0,.int .u64 0,.int .u64 0,.int .u64 0,.int .u64 0,.int .u64 0,.int .u64 0,.int .u64 0,.int .u64 0,.int .u64 0,.int .u64 0,.int .u64 0,.int .u64 0,.int .u64 0,.int .u64 0,.int .u64 0,.int .u64 0,.int .u64 0,.int .u64 0,.int .u64 0,.int .u64 0,.int .u64 0,.int .u64 0,.int .u64 0,.int .u64 0,.int .u64 0,.int .u64 0,.int .u64 0,.int .u64 0,.int .u64 0,.int .u64 0,.int .u64 0,.int .u64 0,.int .u64 0,.int .u64 0,.int .u64 0,.int .u64 0,.int .u64 0,.int .u64 0,.int .u64 0,.int .u64 0,.int .u64 0,.int .u64 0,.int .u64 0,.int .u64 0,.int .u64 0,.int .u64 0,.int .u64 0,.int .u64 0,.int .u64 0,.int .u64 0,.int .u64 0,.int .u64 0,.int .u64 0,.int .u64 0,.int .u64 0,.int .u64 0,.int .u64 0,.int .u64 0,.int .u64 0,.int .u64 0,.int .u64 0,.int .u64 0,.int .u64 0,.int .u64 0,.int .u64 0,.int .u64 0,.int .u64 0,.int .u64 0,.int .u64 0,.int .u64 0,.int .u64 0,.int .u64 0,.int .u64 0,.int .u64 0,.int .u64 0,.int .u64 0,.int .u64 0,.int .u64 0,.int .u64 0,.int .u64 0,.int .u64 0,.int .u64 0,.int .u64 0,.int .u64 0,.int .u64 0,.int .u64 0,.int .u64 0,.int .u64 0,.int .u64 0,.int .u64 0,.int .u64 0,.int .u64 0,.int .u64 0,.int .u64 0,.int .u64 0,.int .u64 0,.int .u64 0,.int .u64 0,.int .u64 0,.int .u64 0,.int .u64 0,.int .u64 0,.int .u64 0,.int .u64 0,.int .u64 0,.int .u64 0,.int .u64 0,.int .u64 0,.int .u64 0,.int .u64 0,.int .u64 0,.int .u64 0,.int .u64 0,.int .u64 0,.int .u64 0,.int .u64 0,.int .u64 0,.int .u64 0,.int .u64 0,.int .u64 0,.int .u64 0,.int .u64 0,.int .u64 0,.int .u64 0,.int .u64 0,.int .u64 0,.int .u64 0,.int .u64 0,.int .u64 0,.int .u64 0,.int .u64 0,.int .u64 0,.int .u64 0,.int .u64 0,.int .u64 0,.int .u64 0,.int .u64 0,.int .u64 0,.int .u64 0,.int .u64 0,.int .u64 0,.int .u64 0,.int .u64 0,.int .u64 0,.int .u64 0,.int .u64 0,.int .u64 0,.int .u64 0,.int .u64 0,.int .u64 0,.int .u64 0,.int .u64 0,.int .u64 0,.int .u64 0,.int .u64 0,.int .u64 0,.int .u64 0,.int .u64 0,.int .u64 0,.int .u64 0,.int .u64 0,.int .u64 0,.int .u64 0,.int .u64 0,.int .u64 0,.int .u64 0,.int .u64 0,.int .u64 0,.int .u64 0,.int .u64 0,.int .u64 0,.int .u64 0,.int .u64 0,.int .u64 0,.int .u64 0,.int .u64 0,.int .u64 0,.int .u64 0,.int .u64 0,.int .u64 0,.int .u64 0,.int .u64 0,.int .u64 0,.int .u64 0,.int .u64 0,.int .u64 0,.int .u64 0,.int .u64 0,.int .u64 0,.int .u64 0,.int .u64 0,.int .u64 0,.int .u64 0,.int .u64 0,.int .u64 0,.int .u64 0,.int .u64 0,.int .u64 0,.int .u64 0,.int .u64 0,.int .u64 0,.int .u64 0,.int .u64 0,.int .u64 0,.int .u64 0,.int .u64 0,.int .u64 0,.int .u64 0,.int .u64 0,.int .u64 0,.int .u64 0,.int .u64 0,.int .u64 0,.int .u64 0,.int .u64 0,.int .u64 0,.int .u64 0,.int .u64 0,.int .u64 0,.int .u64 0,.int .u64 0,.int .u64 0,.int .u64 0,.int .u64 0,.int .u64 0,.int .u64 0,.int .u64 0,.int .u64 0,.int .u64 0,.int .u64 0,.int .u64 0,.int .u64 0,.int .u64 0,.int .u64 0,.int .u64 0,.int .u64 0,.int .u64 0,.int .u64 0,.int .u64 0,.int .u64 0,.int .u64 0,.int .u64 0,.int .u64 0,.int .u64 0,.int .u64 0,.int .u64 0,.int .u64 0,.int .u64 0,.int .u64 0,.int .u64 0,.int .u64 0,.int .u64 0,.int .u64 0,.int .u64 0,.int .u64 0,.int .u64 0,.int .u64 0,.int .u64 0,.int .u64 0,.int .u64 0,.int .u64 0,.int .u64 0,.int .u64 0,.int .u64 0,.int .u64 0,.int .u64 0,.int .u64 0,.int .u64 0,.int .u64 0,.int .u64 0,.int .u64 0,.int .u64 0,.int .u64 0,.int .u64 0,.int .u64 0,.int .u64 0,.int .u64 0,.int .u64 0,.int .u64 0,.int .u64 0,.int .u64 0,.int .u64 0,.int .u64 0,.int .u64 0,.int .u64 0,.int .u64 0,.int .u64 0,.int .u64 0,.int .u64 0,.int .u64 0,.int .u64 0,.int .u64 0,.int .u64 0,.int .u64 0,.int .u64 0,.int .u64 0,.int .u64 0,.int .u64 0,.int .u64 0,.int .u64 0,.int .u64 0,.int .u64 0,.int .u64 0,.int .u64 0,.int .u64 0,.int .u64 0,.int .u64 0,.int .u64 0,.int .u64 0,.int .u64 0,.int .u64 0,.int .u64 0,.int .u64 0,.int .u64 0,.int .u64 0,.int .u64 0,.int .u64 0,.int .u64 0,.int .u64 0,.int .u64 0,.int .u64 0,.int .u64 0,.int .u64 0,.int .u64 0,.int .u64 0,.int .u64 0,.int .u64 0,.int .u64 0,.int .u64 0,.int .u64 0,.int .u64 0,.int .u64 0,.int .u64 0,.int .u64 0,.int .u64 0,.int .u64 0,.int .u64 0,.int .u64 0,.int .u64 0,.int .u64 0,.int .u64 0,.int .u64 0,.int .u64 0,.int .u64 0,.int .u64 0,.int .u64 0,.int .u64 0,.int .u64 0,.int .u64 0,.int .u64 0,.int .u64 0,.int .u64 0,.int .u64 0,.int .u64 0,.int .u64 0,.int .u64 0,.int .u64 0,.int .u64 0,.int .u64 0,.int .u64 0,.int .u64 0,.int .u64 0,.int .u64 0,.int .u64 0,.int .u64 0,.int .u64 0,.int .u64 0,.int .u64 0,.int .u64 0,.int .u64 0,.int .u64 0,.int .u64 0,.int .u64 0,.int .u64 0,.int .u64 0,.int .u64 0,.int .u64 0,.int .u64 0,.int .u64 0,.int .u64 0,.int .u64 0,.int .u64 0,.int .u64 0,.int .u64 0,.int .u64 0,.int .u64 0,.int .u64 0,.int .u64 0,.int .u64 0,.int .u64 0,.int .u64 0,.int .u64 0,.int .u64 0,.int .u64 0,.int .u64 0,.int .u64 0,.int .u64 0,.int .u64 0,.int .u64 0,.int .u64 0,.int .u64 0,.int .u64 0,.int .u64 0,.int .u64 0,.int .u64 0,.int .u64 0,.int .u64 0,.int .u64 0,.int .u64 0,.int .u64 0,.int .u64 0,.int .u64 0,.int .u64 0,.int .u64 0,.int .u64 0,.int .u64 0,.int .u64 0,.int .u64 0,.int .u64 0,.int .u64 0,.int .u64 0,.int .u64 0,.int .u64 0,.int .u64 0,.int .u64 0,.int .u64 0,.int .u64 0,.int .u64 0,.int .u64 0,.int .u64 0,.int .u64 0,.int .u64 0,.int .u64 0,.int .u64 0,.int .u64 0,.int .u64 0,.int .u64 0,.int .u64 0,.int .u64 0,.int .u64 0,.int .u64 0,.int .u64 0,.int .u64 0,.int .u64 0,.int .u64 0,.int .u64 0,.int .u64 0,.int .u64 0,.int .u64 0,.int .u64 0,.int .u64 0,.int .u64 0,.int .u64 0,.int .u64 0,.int .u64 0,.int .u64 0,.int .u64 0,.int .u64 0,.int .u64 0,.int .u64 0,.int .u64 0,.int .u64 0,.int .u64 0,.int .u64 0,.int .u64 0,.int .u64 0,.int .u64 0,.int .u64 0,.int .u64 0,.int .u64 0,.int .u64 0,.int .u64 0,.int .u64 0,.int .u64 0,.int .u64 0,.int .u64 0,.int .u64 0,.int .u64 0,.int .u64 0,.int .u64 0,.int .u64 0,.int .u64 0,.int .u64 0,.int .u64 0,.int .u64 0,.int .u64 0,.int .u64 0,.int .u64 0,.int .u64 0,.int .u64 0,.int .u64 0,.int .u64 0,.int .u64 0,.int .u64 0,.int .u64 0,.int .u64 0,.int .u64 0,.int .u64 0,.int .u64 0,.int .u64 0,.int .u64 0,.int .u64 0,.int .u64 0,.int .u64 0,.int .u64 0,.int .u64 0,.int .u64 0,.int .u64 0,.int .u64 0,.int .u64 0,.int .u64 0,.int .u64 0,.int .u64 0,.int .u64 0,.int .u64 0,.int .u64 0,.int .u64 0,.int .u64 0,.int .u64 0,.int .u64 0,.int .u64 0,.int .u64 0,.int .u64 0,.int .u64 0,.int .u64 0,.int .u64 0,.int .u64 0,.int .u64 0,.int .u64 0,.int .u64 0,.int .u64 0,.int .u64 0,.int .u64 0,.int .u64 0,.int .u64 0,.int .u64 0,.int .u64 0,.int .u64 0,.int .u64 0,.int .u64 0,.int .u64 0,.int .u64 0,.int .u64 0,.int .u64 0,.int .u64 0,.int .u64 0,.int .u64 0,.int .u64 0,.int .u64 0,.int .u64 0,.int .u64 0,.int .u64 0,.int .u64 0,.int .u64 0,.int .u64 0,.int .u64 0,.int .u64 0,.int .u64 0,.int .u64 0,.int .u64 0,.int .u64 0,.int .u64 0,.int .u64 0,.int .u64 0,.int .u64 0,.int .u64 0,.int .u64 0,.int .u64 0,.int .u64 0,.int .u64 0,.int .u64 0,.int .u64 0,.int .u64 0,.int .u64 0,.int .u64 0,.int .u64 0,.int .u64 0,.int .u64 0,.int .u64 0,.int .u64 0,.int .u64 0,.int .u64 0,.int .u64 0,.int .u64 0,.int .u64 0,.int .u64 0,.int .u64 0,.int .u64 0,.int .u64 0,.int .u64 0,.int .u64 0,.int .u64 0,.int .u64 0,.int .u64 0,.int .u64 0,.int .u64 0,.int .u64 0,.int .u64 0,.int .u64 0,.int .u64 0,.int .u64 0,.int .u64 0,.int .u64 0,.int .u64 0,.int .u64 0,.int .u64 0,.int .u64 0,.int .u64 0,.int .u64 0,.int .u64 0,.int .u64 0,.int .u64 0,.int .u64 0,.int .u64 0,.int .u64 0,.int .u64 0,.int .u64 0,.int .u64 0,.int .u64 0,.int .u64 0,.int .u64 0,.int .u64 0,.int .u64 0,.int .u64 0,.int .u64 0,.int .u64 0,.int .u64 0,.int .u64 0,.int .u64 0,.int .u64 0,.int .u64 0,.int .u64 0,.int .u64 0,.int .u64 0,.int .u64 0,.int .u64 0,.int .u64 0,.int .u64 0,.int .u64 0,.int .u64 0,.int .u64 0,.int .u64 0,.int .u64 0,.int .u64 0,.int .u64 0,.int .u64 0,.int .u64 0,.int .u64 0,.int .u64 0,.int .u64 0,.int .u64 0,.int .u64 0,.int .u64 0,.int .u64 0,.int .u64 0,.int .u64 0,.int .u64 0,.int .u64 0,.int .u64 0,.int .u64 0,.int .u64 0,.int .u64 0,.int .u64 0,.int .u64 0,.int .u64 0,.int .u64 0,.int .u64 0,.int .u64 0,.int .u64 0,.int .u64 0,.int .u64 0,.int .u64 0,.int .u64 0,.int .u64 0,.int .u64 0,.int .u64 0,.int .u64 0,.int .u64 0,.int .u64 0,.int .u64 0,.int .u64 0,.int .u64 0,.int .u64 0,.int .u64 0,.int .u64 0,.int .u64 0,.int .u64 0,.int .u64 0,.int .u64 0,.int .u64 0,.int .u64 0,.int .u64 0,.int .u64 0,.int .u64 0,.int .u64 0,.int .u64 0,.int .u64 0,.int .u64 0] 369 d fun j q=>
 Q (.tuple #[.pointer (some ⟨j,0,none⟩),.int .i64 0]) q)
def Xn5:Nat→List (Nat×TypeId):=fun _=>[]
theorem Xka (a:Option Addr) (b:Nat) (c:Nat) (w:World) (Q:VWP) (h:XkV a b c w Q):Xa Tryz.prog 150 #[.slice a b c] w Q:=
 Xd Xn5 Tryz.func150 h (fun _ _=>by kernel_rfl) (by kernel_rfl) (by kernel_rfl) (by kernel_rfl)
noncomputable def Y1 (i:Nat):Array Tmp×Code×Code:=(rfs (Tryz.f163.body.getD .skip)).getD i (#[],.skip,.skip)
def Xeu (e:Option Addr) (f:Nat) (g:Nat) (w:World) (Q:VWP):Prop:=
 ∃ j,Pu Tryz.prog (zeroValue 268) j∧
 New j.cells 268 w fun k n=>
 Xa Tryz.prog 231 #[.slice e f g,.int .i64 16] n fun o p=>
 ∃ i,o=i∧
 RangeF Tryz.prog (i) #[.slice e f g,.tuple #[],.slice none 0 0,.pointer (some ⟨k,0,none⟩),.tuple #[],.tuple #[],.tuple #[],.tuple #[],.slice e f g,i,.tuple #[],.tuple #[],.tuple #[],.tuple #[],.tuple #[],.tuple #[],.tuple #[],.tuple #[],.tuple #[],.tuple #[],.tuple #[],.tuple #[],.tuple #[],.tuple #[]] (Y1 0) p (fun krf a=>
 ∃ b c d,Ld Tryz.prog 268 (.pointer (some ⟨k,0,none⟩)) a (.slice b c d)∧
 ∃ l,Tk Tryz.prog krf a l∧
 Q (.slice b c d) l) (fun krf a=>
 ∃ m,Tk Tryz.prog krf a m∧
 Q (.slice none 0 0) m)
def Xiy:Nat→List (Nat×TypeId):=fun _=>[]
theorem XfB (a:Option Addr) (b:Nat) (c:Nat) (w:World) (Q:VWP) (h:Xeu a b c w Q):Xa Tryz.prog 163 #[.slice a b c] w Q:=
 Xd Xiy Tryz.func163 h (fun _ _=>by kernel_rfl) (by kernel_rfl) (by kernel_rfl) (by kernel_rfl)
def Vp (y:Addr) (z:Option Addr) (A:Nat) (B:Nat) (l:Nat) (w:World) (Q:VWP):Prop:=
 BegR Tryz.prog l w fun N=>
 ∃ C,Pu Tryz.prog (zeroValue 80) C∧
 New C.cells 80 N fun D O=>
 ∃ e f g,Pu Tryz.prog (Instr.sliceAt 80 (.pointer (some ⟨D,0,none⟩)) none none none) (.slice e f g)∧
 ∃ E F,Ef Tryz.prog (Builtin.copy_ #[23,23] 3 #[.slice e f g,.slice z A B]) O (.int .i64 E) F∧
 ∃ i j k,Pu Tryz.prog (Instr.sliceAt 80 (.pointer (some ⟨D,0,none⟩)) none none none) (.slice i j k)∧
 Xa Tryz.prog 227 #[.slice i j k] F fun G P=>
 ∃ m a c,G=.tuple #[.agg #[.int .u64 m,.int .u64 a],.int .i64 c]∧
 ∃ H,Pu Tryz.prog (zeroValue 271) H∧
 New H.cells 271 P fun I R=>
 ∃ d,Sto Tryz.prog 271 (.pointer (some ⟨I,0,none⟩)) (.agg #[.int .u64 m,.int .u64 a]) R d∧
 ∃ n o p,Ld Tryz.prog 268 (.pointer (some y)) d (.slice n o p)∧
 ∃ q b,Ld Tryz.prog 271 (.pointer (some ⟨I,0,none⟩)) d (.agg #[.int .u64 q,.int .u64 b])∧
 ∃ r s t J,Ef Tryz.prog (Instr.buildSlice 268 1 #[(0,.agg #[.int .u64 q,.int .u64 b])]) d (.slice r s t) J∧
 ∃ u v x L,Ef Tryz.prog (Builtin.append_ #[268,268] 268 #[.slice n o p,.slice r s t]) J (.slice u v x) L∧
 ∃ M,Sto Tryz.prog 268 (.pointer (some y)) (.slice u v x) L M∧
 EndR Tryz.prog l none true M Q
def Wk:Nat→List (Nat×TypeId):=fun _=>[]
def Wl:Nat→List (Nat×TypeId):=fun _=>[]
theorem Xcu (d:Addr) (a:Option Addr) (b:Nat) (c:Nat) {v x y z A B C D E F g i j k m n o p q r s t u:Value} {l df:Nat} {fn:FuncId} {w:World} {Q:VWP} (h:LpAt w l (YL fn #[v,x,y,.pointer (some d),z,A,B,C,D,E,F,g,i,j,k,m,n,o,p,q,r,s,t,u] (Y1 0).1 (Y1 0).2.1 (Y1 0).2.2 df)) (hq:Vp d a b c l w Q):Yv Tryz.prog (.func (.yield l) #[] #[]) [.slice a b c] w Q:=by
 have e:Vp d a b c l w Q=sw Tryz.prog (some l) 24 Wk (Y1 0).2.1 0 (XvQ Tryz.prog l 24 Wl (Y1 0).2.2 Q) ⟨Y6 [v,x,y,.pointer (some d),z,A,B,C,D,E,.slice a b c,g,i,j,k,m,n,o,p,q,r,s,t,u],[]⟩ w:=by kernel_rfl
 have h2:=XoU (f:=fn) Wk Wl (nt:=24) (by kernel_rfl) (Eq.mp e hq)
 refine XuP h ?_ ?_ h2
 · kernel_rfl
 · kernel_rfl
def Xc0 (j:Option Addr) (f:Nat) (k:Nat) (l:Option Addr) (g:Nat) (m:Nat) (w:World) (Q:VWP):Prop:=
 ∃ b,Pu Tryz.prog (zeroValue 271) b∧
 New b.cells 271 w fun c i=>
 ∃ a,Sto Tryz.prog 271 (.pointer (some ⟨c,0,none⟩)) (.agg #[.int .u64 (IntKind.u64.wrap ((IntKind.u64.wrap ((f:Nat):Int))*8)),.int .u64 (IntKind.u64.wrap ((IntKind.u64.wrap ((g:Nat):Int))*8))]) i a∧
 ∃ d e,(.pointer (some ⟨c,0,none⟩):Value)=.pointer (some d)∧(loadVar 271 d).run Tryz.prog a=.ok e a∧
 Q (e) a
def Xg2:Nat→List (Nat×TypeId):=fun _=>[]
theorem Xev (a:Option Addr) (b:Nat) (c:Nat) (d:Option Addr) (e:Nat) (f:Nat) (w:World) (Q:VWP) (h:Xc0 a b c d e f w Q):Xa Tryz.prog 164 #[.slice a b c,.slice d e f] w Q:=
 Xd Xg2 Tryz.func164 h (fun _ _=>by kernel_rfl) (by kernel_rfl) (by kernel_rfl) (by kernel_rfl)
def Wm (g:Addr) (e:Addr) (w:World) (Q:VWP):Prop:=
 ∃ d a,Ld Tryz.prog 271 (.pointer (some g)) w (.agg #[.int .u64 d,.int .u64 a])∧
 ∃ c,Sto Tryz.prog 271 (.pointer (some e)) (.agg #[.int .u64 d,.int .u64 a]) w c∧
 ∃ b f,(.pointer (some e):Value)=.pointer (some b)∧(loadVar 271 b).run Tryz.prog c=.ok f c∧
 Q (f) c
def Xaw (L:Option Addr) (M:Int) (x:Int) (N:Option Addr) (C:Nat) (O:Nat) (w:World) (Q:VWP):Prop:=
 New #[.int .u64 M,.int .u64 x] 271 w fun P R=>
 ∃ D,Pu Tryz.prog (zeroValue 271) D∧
 New D.cells 271 R fun S T=>
 LoopS [.pointer L,.pointer (some ⟨P,0,none⟩),.pointer (some ⟨S,0,none⟩),.slice N C O,.int .i64 ((C:Nat):Int),.int .i64 0] T fun U V m _ b=>
 ∃ a j y z A B k c,m=[.pointer a,.pointer (some j),.pointer (some y),.slice z A B,.int .i64 k,.int .i64 c]∧
 cond (decide (c<k))
 (∃ n,IxA Tryz.prog 268 (.slice z A B) (.int .i64 c) n∧
 ∃ o d,Ld Tryz.prog 271 (.pointer (some n)) b (.agg #[.int .u64 o,.int .u64 d])∧
 ∃ E,Pu Tryz.prog (zeroValue 271) E∧
 New E.cells 271 b fun F W=>
 ∃ l,Sto Tryz.prog 271 (.pointer (some ⟨F,0,none⟩)) (.agg #[.int .u64 o,.int .u64 d]) W l∧
 ∃ p e,Ld Tryz.prog 271 (.pointer (some j)) l (.agg #[.int .u64 p,.int .u64 e])∧
 ∃ q f,Ld Tryz.prog 271 (.pointer (some ⟨F,0,none⟩)) l (.agg #[.int .u64 q,.int .u64 f])∧
 ∃ r s t G,Ef Tryz.prog (Instr.buildSlice 268 2 #[(0,.agg #[.int .u64 p,.int .u64 e]),(1,.agg #[.int .u64 q,.int .u64 f])]) l (.slice r s t) G∧
 Xa Tryz.prog 233 #[.slice r s t] G fun H X=>
 ∃ u g,H=.agg #[.int .u64 u,.int .u64 g]∧
 Xa Tryz.prog 232 #[.pointer a,.agg #[.int .u64 u,.int .u64 g]] X fun I Y=>
 ∃ v i,I=.agg #[.int .u64 v,.int .u64 i]∧
 ∃ J,Sto Tryz.prog 271 (.pointer (some j)) (.agg #[.int .u64 v,.int .u64 i]) Y J∧
 Xj [] [] U V m [.pointer a,.pointer (some j),.pointer (some y),.slice z A B,.int .i64 k,.int .i64 (IntKind.i64.wrap (c+1))] b J)
 (Wm j y b Q)
def Xew:Nat→List (Nat×TypeId):=fun n=>match n with | 0=>[(0,166),(4,1000000),(6,1000000),(9,268),(10,3),(11,3)] | _=>[]
theorem Xcv (b:Option Addr) (c:Int) (a:Int) (d:Option Addr) (e:Nat) (f:Nat) (w:World) (Q:VWP) (h:Xaw b c a d e f w Q):Xa Tryz.prog 165 #[.pointer b,.agg #[.int .u64 c,.int .u64 a],.slice d e f] w Q:=
 Xd Xew Tryz.func165 h (fun _ _=>by kernel_rfl) (by kernel_rfl) (by kernel_rfl) (by kernel_rfl)
def Zq (B:Inv) (C:J1) (s:List Value) (t:World) (u:Option Addr) (D:Addr) (E:Addr) (q:Addr) (r:Int) (v:Int) (x:Int) (w:World) (Q:VWP):Prop:=
 ∃ (e:World→Prop),
 Drw w fun d=>
 ∃ f,Pu Tryz.prog (do eqGuard .shr 24 (.tmp 31) (.tmp 32) (.int .u64 v) (.int .i64 (IntKind.i64.wrap (4*(IntKind.i64.wrap (15 - (Int.tmod r 16)))))); binOp .shr 24 (.int .u64 v) (.int .i64 (IntKind.i64.wrap (4*(IntKind.i64.wrap (15 - (Int.tmod r 16)))))):Sem Value) (.int .u64 f)∧
 ∃ g,u=some g∧
 ∃ i,IxA Tryz.prog 367 (.pointer (some (g.add 6))) (.int .i64 r) i∧
 ∃ j,IxA Tryz.prog 366 (.pointer (some i)) (.int .u64 (J0 .u64 f 15)) j∧
 ∃ k a,HLd Tryz.prog e 271 (.pointer (some q)) d (.agg #[.int .u64 k,.int .u64 a])∧
 ∃ l b,Ld Tryz.prog 271 (.pointer (some j)) d (.agg #[.int .u64 l,.int .u64 b])∧
 (d=d∨e d)∧
 ∃ m n o y,Ef Tryz.prog (Instr.buildSlice 268 2 #[(0,.agg #[.int .u64 k,.int .u64 a]),(1,.agg #[.int .u64 l,.int .u64 b])]) d (.slice m n o) y∧
 Xa Tryz.prog 233 #[.slice m n o] y fun z F=>
 ∃ p c,z=.agg #[.int .u64 p,.int .u64 c]∧
 ∃ A,Sto Tryz.prog 271 (.pointer (some q)) (.agg #[.int .u64 p,.int .u64 c]) F A∧
 Xj [] [] B C s [.pointer u,.pointer (some D),.pointer (some E),.pointer (some q),.int .i64 (IntKind.i64.wrap (x+1))] t A
def VG (e:Addr) (g:Addr) (w:World) (Q:VWP):Prop:=
 ∃ d a,Ld Tryz.prog 271 (.pointer (some g)) w (.agg #[.int .u64 d,.int .u64 a])∧
 ∃ c,Sto Tryz.prog 271 (.pointer (some e)) (.agg #[.int .u64 d,.int .u64 a]) w c∧
 ∃ b f,(.pointer (some e):Value)=.pointer (some b)∧(loadVar 271 b).run Tryz.prog c=.ok f c∧
 Q (f) c
def QH (l:Option Addr) (s:Int) (m:Int) (w:World) (Q:VWP):Prop:=
 New #[.int .u64 s,.int .u64 m] 271 w fun t u=>
 ∃ n,Pu Tryz.prog (zeroValue 271) n∧
 New n.cells 271 u fun v x=>
 ∃ i,l=some i∧
 Xa Tryz.prog 295 #[.pointer (some (i.add 2)),.func (.func 298) #[.pointer l] #[]] x fun o y=>
 o=.tuple #[]∧
 ∃ p,Pu Tryz.prog (zeroValue 271) p∧
 New p.cells 271 y fun z A=>
 LoopS [.pointer l,.pointer (some ⟨t,0,none⟩),.pointer (some ⟨v,0,none⟩),.pointer (some ⟨z,0,none⟩),.int .i64 0] A fun q r d _ a=>
 ∃ c e f g b,d=[.pointer c,.pointer (some e),.pointer (some f),.pointer (some g),.int .i64 b]∧
 cond (decide (b<32))
 (∃ j,Ld Tryz.prog 24 (.pointer (some (e.add 0))) a (.int .u64 j)∧
 cond (decide (b≥16))
 (∃ k,Ld Tryz.prog 24 (.pointer (some (e.add 1))) a (.int .u64 k)∧
 Zq q r d a c e f g b k b a Q)
 (Zq q r d a c e f g b j b a Q))
 (VG f g a Q)
def Xds:Nat→List (Nat×TypeId):=fun n=>match n with | 0=>[(0,166),(3,1000000),(4,1000000),(5,1000000),(15,3)] | _=>[]
theorem XbF (b:Option Addr) (c:Int) (a:Int) (w:World) (Q:VWP) (h:QH b c a w Q):Xa Tryz.prog 232 #[.pointer b,.agg #[.int .u64 c,.int .u64 a]] w Q:=
 Xd Xds Tryz.func232 h (fun _ _=>by kernel_rfl) (by kernel_rfl) (by kernel_rfl) (by kernel_rfl)
def Xax (o:Option Addr) (w:World) (Q:VWP):Prop:=
 ∃ p,o=some p∧
 Xa Tryz.prog 103 #[.pointer (some (p.add 5)),.int .i64 1] w fun z q=>
 ∃ A,z=.int .i64 A∧
 ∃ r,o=some r∧
 ∃ i b,Ld Tryz.prog 271 (.pointer (some (r.add 0))) q (.agg #[.int .u64 i,.int .u64 b])∧
 ∃ s,Pu Tryz.prog (zeroValue 271) s∧
 New s.cells 271 q fun t B=>
 ∃ u,Sto Tryz.prog 271 (.pointer (some ⟨t,0,none⟩)) (.agg #[.int .u64 i,.int .u64 b]) B u∧
 LoopS [.pointer o,.pointer (some ⟨t,0,none⟩),.int .i64 0] u fun C D j _ f=>
 ∃ a g c,j=[.pointer a,.pointer (some g),.int .i64 c]∧
 cond (decide (c<32))
 (Drw f fun v=>
 ∃ k,a=some k∧
 ∃ l,IxA Tryz.prog 367 (.pointer (some (k.add 6))) (.int .i64 c) l∧
 ∃ m d,Ld Tryz.prog 271 (.pointer (some g)) v (.agg #[.int .u64 m,.int .u64 d])∧
 Xa Tryz.prog 360 #[.pointer (some l),.agg #[.int .u64 m,.int .u64 d]] v fun x E=>
 ∃ n e,x=.agg #[.int .u64 n,.int .u64 e]∧
 ∃ y,Sto Tryz.prog 271 (.pointer (some g)) (.agg #[.int .u64 n,.int .u64 e]) E y∧
 Xj [] [] C D j [.pointer a,.pointer (some g),.int .i64 (IntKind.i64.wrap (c+1))] f y)
 (Q (.tuple #[]) f)
def Xex:Nat→List (Nat×TypeId):=fun n=>match n with | 0=>[(0,166),(2,1000000),(12,3)] | _=>[]
theorem Xcw (a:Option Addr) (w:World) (Q:VWP) (h:Xax a w Q):Xa Tryz.prog 298 #[.pointer a] w Q:=
 Xd Xex Tryz.func298 h (fun _ _=>by kernel_rfl) (by kernel_rfl) (by kernel_rfl) (by kernel_rfl)
def WU (g:Addr) (e:Addr) (w:World) (Q:VWP):Prop:=
 ∃ d a,Ld Tryz.prog 271 (.pointer (some g)) w (.agg #[.int .u64 d,.int .u64 a])∧
 ∃ c,Sto Tryz.prog 271 (.pointer (some e)) (.agg #[.int .u64 d,.int .u64 a]) w c∧
 ∃ b f,(.pointer (some e):Value)=.pointer (some b)∧(loadVar 271 b).run Tryz.prog c=.ok f c∧
 Q (f) c
def WV (E:Option Addr) (F:Addr) (G:Addr) (w:World) (Q:VWP):Prop:=
 LoopS [.pointer E,.pointer (some F),.pointer (some G),.int .i64 0] w fun z A k _ e=>
 ∃ b c d a,k=[.pointer b,.pointer (some c),.pointer (some d),.int .i64 a]∧
 cond (decide (a<16))
 (cond ((J0 .i64 a (IntKind.i64.wrap (0 - a))) != a)
 (∃ (l:World→Prop),
 Drw e fun j=>
 ∃ m,b=some m∧
 ∃ n,IxA Tryz.prog 366 (.pointer (some m)) (.int .i64 (J0 .i64 a (IntKind.i64.wrap (0 - a)))) n∧
 ∃ o,b=some o∧
 ∃ p,IxA Tryz.prog 366 (.pointer (some o)) (.int .i64 (IntKind.i64.wrap (a - (J0 .i64 a (IntKind.i64.wrap (0 - a)))))) p∧
 ∃ q,b=some q∧
 ∃ r f,HLd Tryz.prog l 271 (.pointer (some n)) j (.agg #[.int .u64 r,.int .u64 f])∧
 ∃ s g,Ld Tryz.prog 271 (.pointer (some p)) j (.agg #[.int .u64 s,.int .u64 g])∧
 (j=j∨l j)∧
 ∃ t u v B,Ef Tryz.prog (Instr.buildSlice 268 2 #[(0,.agg #[.int .u64 r,.int .u64 f]),(1,.agg #[.int .u64 s,.int .u64 g])]) j (.slice t u v) B∧
 Xa Tryz.prog 233 #[.slice t u v] B fun C H=>
 ∃ x i,C=.agg #[.int .u64 x,.int .u64 i]∧
 ∃ y,IxA Tryz.prog 366 (.pointer (some q)) (.int .i64 a) y∧
 ∃ D,Sto Tryz.prog 271 (.pointer (some y)) (.agg #[.int .u64 x,.int .u64 i]) H D∧
 Xj [] [] z A k [.pointer b,.pointer (some c),.pointer (some d),.int .i64 (IntKind.i64.wrap (a+1))] e D)
 (Xj [] [] z A k [.pointer b,.pointer (some c),.pointer (some d),.int .i64 (IntKind.i64.wrap (a+1))] e e))
 (WU c d e Q)
def XbG (v:Option Addr) (x:Int) (o:Int) (w:World) (Q:VWP):Prop:=
 New #[.int .u64 x,.int .u64 o] 271 w fun y z=>
 ∃ r,Pu Tryz.prog (zeroValue 271) r∧
 New r.cells 271 z fun A B=>
 LoopS [.pointer v,.pointer (some ⟨y,0,none⟩),.pointer (some ⟨A,0,none⟩),.int .i64 8] B fun C D i _ f=>
 ∃ a e p g,i=[.pointer a,.pointer (some e),.pointer (some p),.int .i64 g]∧
 cond (decide (g > 0))
 (Drw f fun s=>
 ∃ j,a=some j∧
 ∃ k b,Ld Tryz.prog 271 (.pointer (some e)) s (.agg #[.int .u64 k,.int .u64 b])∧
 ∃ l,IxA Tryz.prog 366 (.pointer (some j)) (.int .i64 g) l∧
 ∃ q,Sto Tryz.prog 271 (.pointer (some l)) (.agg #[.int .u64 k,.int .u64 b]) s q∧
 ∃ m c,Ld Tryz.prog 271 (.pointer (some e)) q (.agg #[.int .u64 m,.int .u64 c])∧
 Xa Tryz.prog 391 #[.agg #[.int .u64 m,.int .u64 c]] q fun t E=>
 ∃ n d,t=.agg #[.int .u64 n,.int .u64 d]∧
 ∃ u,Sto Tryz.prog 271 (.pointer (some e)) (.agg #[.int .u64 n,.int .u64 d]) E u∧
 Xj [] [] C D i [.pointer a,.pointer (some e),.pointer (some p),.int .i64 (Int.fdiv g (2 ^ 1))] f u)
 (WV a e p f Q)
def XfC:Nat→List (Nat×TypeId):=fun n=>match n with | 0=>[(0,510),(3,1000000),(4,1000000),(5,3)] | 2=>[(0,510),(3,1000000),(4,1000000),(19,3)] | _=>[]
theorem Xdt (b:Option Addr) (c:Int) (a:Int) (w:World) (Q:VWP) (h:XbG b c a w Q):Xa Tryz.prog 360 #[.pointer b,.agg #[.int .u64 c,.int .u64 a]] w Q:=
 Xd XfC Tryz.func360 h (fun _ _=>by kernel_rfl) (by kernel_rfl) (by kernel_rfl) (by kernel_rfl)
end Go.Sh
end

section
namespace Go.Sh
open Go Go.Fw Go.Proofs
set_option maxRecDepth 100000
set_option linter.unusedVariables false
def Xey (u:Option Addr) (r:Option Addr) (s:Nat) (t:Nat) (v:Option Addr) (x:Nat) (y:Nat) (z:Option Addr) (A:Nat) (B:Nat) (w:World) (Q:VWP):Prop:=
 ∃ e f g C,Ef Tryz.prog (Instr.buildSlice 117 2 #[(0,.slice v x y),(1,.slice z A B)]) w (.slice e f g) C∧
 Xa Tryz.prog 51 #[.slice r s t,.slice e f g] C fun D E=>
 ∃ a,D=.int .i64 a∧
 cond (a != 0)
 (Q (.tuple #[.slice none 0 0,.int .i64 a]) E)
 (Xa Tryz.prog 52 #[.pointer u,.slice r s t,.slice v x y] E fun F L=>
 ∃ b c d,F=.slice b c d∧
 Xa Tryz.prog 53 #[.pointer u,.slice r s t,.slice b c d,.slice z A B] L fun G M=>
 ∃ i j k H,G=.tuple #[.slice i j k,.int .i64 H]∧
 ∃ l m n I,Ef Tryz.prog (Instr.buildSlice 117 2 #[(0,.slice b c d),(1,.slice i j k)]) M (.slice l m n) I∧
 Xa Tryz.prog 20 #[.slice l m n] I fun J N=>
 ∃ o p q,J=.slice o p q∧
 Q (.tuple #[.slice o p q,.int .i64 0]) N)
def Xiz:Nat→List (Nat×TypeId):=fun _=>[]
theorem XfD (a:Option Addr) (b:Option Addr) (c:Nat) (d:Nat) (e:Option Addr) (f:Nat) (g:Nat) (i:Option Addr) (j:Nat) (k:Nat) (w:World) (Q:VWP) (h:Xey a b c d e f g i j k w Q):Xa Tryz.prog 18 #[.pointer a,.slice b c d,.slice e f g,.slice i j k] w Q:=
 Xd Xiz Tryz.func18 h (fun _ _=>by kernel_rfl) (by kernel_rfl) (by kernel_rfl) (by kernel_rfl)
def XkW (i:Option Addr) (d:Nat) (j:Nat) (e:Option Addr) (f:Nat) (g:Nat) (w:World) (Q:VWP):Prop:=
 cond (((d:Nat):Int) != 12)
 (Q (.int .i64 11) w)
 (Xa Tryz.prog 94 #[.slice e f g,.func (.func 93) #[] #[]] w fun b c=>
 ∃ a,b=.bool a∧
 cond a
 (Q (.int .i64 11) c)
 (Q (.int .i64 0) c))
def Xn6:Nat→List (Nat×TypeId):=fun _=>[]
theorem Xkb (a:Option Addr) (b:Nat) (c:Nat) (d:Option Addr) (e:Nat) (f:Nat) (w:World) (Q:VWP) (h:XkW a b c d e f w Q):Xa Tryz.prog 51 #[.slice a b c,.slice d e f] w Q:=
 Xd Xn6 Tryz.func51 h (fun _ _=>by kernel_rfl) (by kernel_rfl) (by kernel_rfl) (by kernel_rfl)
def Xez (u:Option Addr) (v:Option Addr) (x:Nat) (y:Nat) (z:Option Addr) (A:Nat) (B:Nat) (w:World) (Q:VWP):Prop:=
 Xa Tryz.prog 96 #[.slice v x y] w fun o C=>
 ∃ a b c,o=.slice a b c∧
 Xa Tryz.prog 95 #[.slice a b c] C fun p q=>
 ∃ d e f r,p=.tuple #[.slice d e f,.int .i64 r]∧
 ∃ g,u=some g∧
 ∃ i j k,Ld Tryz.prog 23 (.pointer (some (g.add 0))) q (.slice i j k)∧
 Xa Tryz.prog 97 #[.slice i j k,.slice d e f,.slice z A B] q fun s D=>
 ∃ l m n t,s=.tuple #[.slice l m n,.int .i64 t]∧
 Q (.slice l m n) D
def XiA:Nat→List (Nat×TypeId):=fun _=>[]
theorem XfE (a:Option Addr) (b:Option Addr) (c:Nat) (d:Nat) (e:Option Addr) (f:Nat) (g:Nat) (w:World) (Q:VWP) (h:Xez a b c d e f g w Q):Xa Tryz.prog 52 #[.pointer a,.slice b c d,.slice e f g] w Q:=
 Xd XiA Tryz.func52 h (fun _ _=>by kernel_rfl) (by kernel_rfl) (by kernel_rfl) (by kernel_rfl)
def Xgc (z:Option Addr) (A:Option Addr) (B:Nat) (C:Nat) (D:Option Addr) (E:Nat) (F:Nat) (G:Option Addr) (H:Nat) (I:Nat) (w:World) (Q:VWP):Prop:=
 ∃ b c d J,Ef Tryz.prog (Instr.buildSlice 117 2 #[(0,.slice D E F),(1,.slice G H I)]) w (.slice b c d) J∧
 Xa Tryz.prog 51 #[.slice A B C,.slice b c d] J fun L M=>
 ∃ a,L=.int .i64 a∧
 cond (a != 0)
 (Q (.tuple #[.slice none 0 0,.int .i64 a]) M)
 (∃ (N:World→Prop),
 Drw M fun x=>
 ∃ e,z=some e∧
 ∃ f,HLd Tryz.prog N 165 (.pointer (some (e.add 1))) x (.pointer f)∧
 Xa Tryz.prog 96 #[.slice A B C] x fun O y=>
 ∃ g i j,O=.slice g i j∧
 (y=x∨N y)∧
 Xa Tryz.prog 98 #[.pointer f,.slice g i j] y fun P R=>
 ∃ k l m S,P=.tuple #[.slice k l m,.int .i64 S]∧
 ∃ n,z=some n∧
 ∃ o,Ld Tryz.prog 166 (.pointer (some (n.add 2))) R (.pointer o)∧
 Xa Tryz.prog 100 #[.pointer o,.slice G H I,.slice D E F] R fun T V=>
 ∃ p q r,T=.slice p q r∧
 Xa Tryz.prog 99 #[.slice p q r,.slice k l m] V fun U W=>
 ∃ s t u v,U=.tuple #[.slice s t u,.int .i64 v]∧
 Q (.tuple #[.slice s t u,.int .i64 v]) W)
def Xkc:Nat→List (Nat×TypeId):=fun _=>[]
theorem Xg3 (a:Option Addr) (b:Option Addr) (c:Nat) (d:Nat) (e:Option Addr) (f:Nat) (g:Nat) (i:Option Addr) (j:Nat) (k:Nat) (w:World) (Q:VWP) (h:Xgc a b c d e f g i j k w Q):Xa Tryz.prog 53 #[.pointer a,.slice b c d,.slice e f g,.slice i j k] w Q:=
 Xd Xkc Tryz.func53 h (fun _ _=>by kernel_rfl) (by kernel_rfl) (by kernel_rfl) (by kernel_rfl)
def XeA (E:Option Addr) (F:Option Addr) (G:Nat) (H:Nat) (c:Option Addr) (a:Nat) (d:Nat) (J:Option Addr) (L:Nat) (M:Nat) (w:World) (Q:VWP):Prop:=
 ∃ e,Pu Tryz.prog (Builtin.max_ #[3,3] 3 #[.int .i64 (IntKind.i64.wrap (((a:Nat):Int) - 16)),.int .i64 0]) (.int .i64 e)∧
 ∃ f g i,Pu Tryz.prog (Instr.sliceAt 23 (.slice c a d) none (some (.int .i64 e)) none) (.slice f g i)∧
 ∃ j k l N,Ef Tryz.prog (Instr.buildSlice 117 2 #[(0,.slice f g i),(1,.slice J L M)]) w (.slice j k l) N∧
 Xa Tryz.prog 51 #[.slice F G H,.slice j k l] N fun O I=>
 ∃ b,O=.int .i64 b∧
 cond (b != 0)
 (Q (.tuple #[.slice none 0 0,.int .i64 b]) I)
 (cond (decide ((IntKind.i64.wrap (((a:Nat):Int) - 16))<0))
 (Q (.tuple #[.slice none 0 0,.int .i64 12]) I)
 (∃ m n o,Pu Tryz.prog (Instr.sliceAt 23 (.slice c a d) none (some (.int .i64 (IntKind.i64.wrap (((a:Nat):Int) - 16)))) none) (.slice m n o)∧
 Xa Tryz.prog 53 #[.pointer E,.slice F G H,.slice m n o,.slice J L M] I fun P X=>
 ∃ p q r R,P=.tuple #[.slice p q r,.int .i64 R]∧
 ∃ s t u,Pu Tryz.prog (Instr.sliceAt 23 (.slice c a d) (some (.int .i64 (IntKind.i64.wrap (((a:Nat):Int) - 16)))) none none) (.slice s t u)∧
 Xa Tryz.prog 102 #[.slice p q r,.slice s t u] X fun S T=>
 ∃ v,S=.bool v∧
 cond (!v)
 (∃ x,E=some x∧
 Xa Tryz.prog 103 #[.pointer (some (x.add 3)),.int .i64 1] T fun U Y=>
 ∃ V,U=.int .i64 V∧
 Q (.tuple #[.slice none 0 0,.int .i64 13]) Y)
 (∃ y z A,Pu Tryz.prog (Instr.sliceAt 23 (.slice c a d) none (some (.int .i64 (IntKind.i64.wrap (((a:Nat):Int) - 16)))) none) (.slice y z A)∧
 Xa Tryz.prog 52 #[.pointer E,.slice F G H,.slice y z A] T fun W Z=>
 ∃ B C D,W=.slice B C D∧
 Q (.tuple #[.slice B C D,.int .i64 0]) Z)))
def XiB:Nat→List (Nat×TypeId):=fun _=>[]
theorem XfF (a:Option Addr) (b:Option Addr) (c:Nat) (d:Nat) (e:Option Addr) (f:Nat) (g:Nat) (i:Option Addr) (j:Nat) (k:Nat) (w:World) (Q:VWP) (h:XeA a b c d e f g i j k w Q):Xa Tryz.prog 55 #[.pointer a,.slice b c d,.slice e f g,.slice i j k] w Q:=
 Xd XiB Tryz.func55 h (fun _ _=>by kernel_rfl) (by kernel_rfl) (by kernel_rfl) (by kernel_rfl)
def Xp5 (n:Option Addr) (o:Nat) (p:Nat) (w:World) (Q:VWP):Prop:=
 Xa Tryz.prog 149 #[.slice n o p] w fun q r=>
 ∃ a b,q=.tuple #[.pointer a,.int .i64 b]∧
 cond (b != 0)
 (Q (.tuple #[.pointer none,.int .i64 b]) r)
 (∃ c d e s,Ef Tryz.prog (Instr.makeSlice 23 (.int .i64 16) (.int .i64 16)) r (.slice c d e) s∧
 Xa Tryz.prog 98 #[.pointer a,.slice c d e] s fun t A=>
 ∃ f g i u,t=.tuple #[.slice f g i,.int .i64 u]∧
 Xa Tryz.prog 150 #[.slice f g i] A fun v B=>
 ∃ j x,v=.tuple #[.pointer j,.int .i64 x]∧
 Xa Tryz.prog 88 #[.slice n o p] B fun y C=>
 ∃ k l m,y=.slice k l m∧
 New #[.slice k l m,.pointer a,.pointer j,.int .i64 0] 173 C fun z D=>
 Q (.tuple #[.pointer (some ⟨z,0,none⟩),.int .i64 0]) D)
def Xrb:Nat→List (Nat×TypeId):=fun _=>[]
theorem Xn7 (a:Option Addr) (b:Nat) (c:Nat) (w:World) (Q:VWP) (h:Xp5 a b c w Q):Xa Tryz.prog 86 #[.slice a b c] w Q:=
 Xd Xrb Tryz.func86 h (fun _ _=>by kernel_rfl) (by kernel_rfl) (by kernel_rfl) (by kernel_rfl)
def XeB (b:Option Addr) (a:Nat) (c:Nat) (w:World) (Q:VWP):Prop:=
 Q (.bool (decide (((a:Nat):Int) > 65535))) w
def XiC:Nat→List (Nat×TypeId):=fun _=>[]
theorem XfG (a:Option Addr) (b:Nat) (c:Nat) (w:World) (Q:VWP) (h:XeB a b c w Q):Xa Tryz.prog 93 #[.slice a b c] w Q:=
 Xd XiC Tryz.func93 h (fun _ _=>by kernel_rfl) (by kernel_rfl) (by kernel_rfl) (by kernel_rfl)
def XkX (m:Option Addr) (n:Nat) (o:Nat) (w:World) (Q:VWP):Prop:=
 Xa Tryz.prog 91 #[.int .u64 1,.int .i64 4] w fun p q=>
 ∃ g i j r,p=.tuple #[.slice g i j,.int .i64 r]∧
 ∃ a b c k,Ef Tryz.prog (Instr.buildSlice 117 2 #[(0,.slice m n o),(1,.slice g i j)]) q (.slice a b c) k∧
 Xa Tryz.prog 20 #[.slice a b c] k fun l s=>
 ∃ d e f,l=.slice d e f∧
 Q (.slice d e f) s
def Xn8:Nat→List (Nat×TypeId):=fun _=>[]
theorem Xkd (a:Option Addr) (b:Nat) (c:Nat) (w:World) (Q:VWP) (h:XkX a b c w Q):Xa Tryz.prog 96 #[.slice a b c] w Q:=
 Xd Xn8 Tryz.func96 h (fun _ _=>by kernel_rfl) (by kernel_rfl) (by kernel_rfl) (by kernel_rfl)
end Go.Sh
end

section
namespace Go.Sh
open Go Go.Fw Go.Proofs
set_option maxRecDepth 100000
set_option linter.unusedVariables false
def Xn9  (w:World) (Q:VWP):Prop:=
 New #[.slice none 0 0] 103 w fun a b=>
 Q (.pointer (some ⟨a,0,none⟩)) b
def Xpq:Nat→List (Nat×TypeId):=fun _=>[]
theorem XlS  (w:World) (Q:VWP) (h:Xn9  w Q):Xa Tryz.prog 14 #[] w Q:=
 Xd Xpq Tryz.func14 h (fun _ _=>by kernel_rfl) (by kernel_rfl) (by kernel_rfl) (by kernel_rfl)
def Xc1 (m:Option Addr) (n:Int) (w:World) (Q:VWP):Prop:=
 Xa Tryz.prog 45 #[.pointer m,.int .i64 n] w fun j o=>
 ∃ b c a d e f,j=.tuple #[.agg #[.pointer b,.int .i64 c,.slice a d e],.bool f]∧
 ∃ k,Pu Tryz.prog (zeroValue 107) k∧
 New k.cells 107 o fun l p=>
 ∃ i,Sto Tryz.prog 107 (.pointer (some ⟨l,0,none⟩)) (.agg #[.pointer b,.int .i64 c,.slice a d e]) p i∧
 ∃ g,Ld Tryz.prog 58 (.pointer (some ((⟨l,0,none⟩:Addr).add 0))) i (.pointer g)∧
 Q (.tuple #[.pointer g,.bool f]) i
def Xg4:Nat→List (Nat×TypeId):=fun _=>[]
theorem XeC (a:Option Addr) (b:Int) (w:World) (Q:VWP) (h:Xc1 a b w Q):Xa Tryz.prog 16 #[.pointer a,.int .i64 b] w Q:=
 Xd Xg4 Tryz.func16 h (fun _ _=>by kernel_rfl) (by kernel_rfl) (by kernel_rfl) (by kernel_rfl)
def Vq (t:Option Addr) (y:Int) (z:Option Addr) (A:Nat) (B:Nat) (D:Int) (C:Option Addr) (w:World) (Q:VWP):Prop:=
 ∃ (r:World→Prop),
 Drw w fun s=>
 ∃ c,t=some c∧
 ∃ d e f,HLd Tryz.prog r 101 (.pointer (some (c.add 0))) s (.slice d e f)∧
 Xa Tryz.prog 88 #[.slice z A B] s fun u a=>
 ∃ g i j,u=.slice g i j∧
 (a=s∨r a)∧
 ∃ k l m b,Ef Tryz.prog (Instr.buildSlice 101 1 #[(0,.agg #[.pointer C,.int .i64 y,.slice g i j])]) a (.slice k l m) b∧
 (b=a∨r b)∧
 ∃ n o p v,Ef Tryz.prog (Builtin.append_ #[101,101] 101 #[.slice d e f,.slice k l m]) b (.slice n o p) v∧
 ∃ q,t=some q∧
 ∃ x,Sto Tryz.prog 101 (.pointer (some (q.add 0))) (.slice n o p) v x∧
 Q (.int .i64 0) x
def Ya (e:Option Addr) (f:Int) (l:Option Addr) (m:Nat) (n:Nat) (o:Int) (p:Option Addr) (g:Bool) (w:World) (Q:VWP):Prop:=
 cond g
 (Q (.int .i64 11) w)
 (Xa Tryz.prog 87 #[.pointer e,.int .i64 f] w fun i a=>
 ∃ b,i=.int .i64 b∧
 cond (decide (b≥0))
 (Q (.int .i64 16) a)
 (∃ c,e=some c∧
 ∃ j d k,Ld Tryz.prog 101 (.pointer (some (c.add 0))) a (.slice j d k)∧
 cond (decide (((d:Nat):Int)≥16))
 (Q (.int .i64 18) a)
 (Vq e f l m n o p a Q)))
def WW (g:Option Addr) (b:Int) (c:Option Addr) (d:Nat) (e:Nat) (w:World) (Q:VWP):Prop:=
 Xa Tryz.prog 86 #[.slice c d e] w fun j i=>
 ∃ a f,j=.tuple #[.pointer a,.int .i64 f]∧
 cond (decide (b<0))
 (Ya g b c d e 0 a true i Q)
 (cond (decide (b > 127))
 (Ya g b c d e 0 a true i Q)
 (Ya g b c d e 0 a (f != 0) i Q))
def Xcx:Nat→List (Nat×TypeId):=fun _=>[]
theorem XaX (a:Option Addr) (b:Int) (c:Option Addr) (d:Nat) (e:Nat) (w:World) (Q:VWP) (h:WW a b c d e w Q):Xa Tryz.prog 41 #[.pointer a,.int .i64 b,.slice c d e] w Q:=
 Xd Xcx Tryz.func41 h (fun _ _=>by kernel_rfl) (by kernel_rfl) (by kernel_rfl) (by kernel_rfl)
def VH (j:Option Addr) (o:Int) (k:Int) (w:World) (Q:VWP):Prop:=
 ∃ a,j=some a∧
 ∃ b c d,Ld Tryz.prog 101 (.pointer (some (a.add 0))) w (.slice b c d)∧
 Xa Tryz.prog 89 #[.slice b c d,.int .i64 k,.int .i64 (IntKind.i64.wrap (k+1))] w fun l n=>
 ∃ e f g,l=.slice e f g∧
 ∃ i,j=some i∧
 ∃ m,Sto Tryz.prog 101 (.pointer (some (i.add 0))) (.slice e f g) n m∧
 Q (.int .i64 0) m
def Zr (b:Option Addr) (c:Int) (a:Int) (d:Bool) (w:World) (Q:VWP):Prop:=
 cond d
 (Q (.int .i64 11) w)
 (cond (decide (a<0))
 (Q (.int .i64 17) w)
 (VH b c a w Q))
def QI (a:Option Addr) (b:Int) (w:World) (Q:VWP):Prop:=
 Xa Tryz.prog 87 #[.pointer a,.int .i64 b] w fun e d=>
 ∃ c,e=.int .i64 c∧
 cond (decide (b<0))
 (Zr a 0 c true d Q)
 (Zr a 0 c (decide (b > 127)) d Q)
def Xdu:Nat→List (Nat×TypeId):=fun _=>[]
theorem XbH (a:Option Addr) (b:Int) (w:World) (Q:VWP) (h:QI a b w Q):Xa Tryz.prog 43 #[.pointer a,.int .i64 b] w Q:=
 Xd Xdu Tryz.func43 h (fun _ _=>by kernel_rfl) (by kernel_rfl) (by kernel_rfl) (by kernel_rfl)
def XeD (s:Option Addr) (x:Int) (w:World) (Q:VWP):Prop:=
 ∃ t,Pu Tryz.prog (zeroValue 107) t∧
 New t.cells 107 w fun d y=>
 Xa Tryz.prog 87 #[.pointer s,.int .i64 x] y fun z e=>
 ∃ r,z=.int .i64 r∧
 cond (decide (r≥0))
 (∃ i,s=some i∧
 ∃ j k l,Ld Tryz.prog 101 (.pointer (some (i.add 0))) e (.slice j k l)∧
 ∃ m,IxA Tryz.prog 101 (.slice j k l) (.int .i64 r) m∧
 ∃ n o a p q,Ld Tryz.prog 107 (.pointer (some m)) e (.agg #[.pointer n,.int .i64 o,.slice a p q])∧
 ∃ f,Sto Tryz.prog 107 (.pointer (some ⟨d,0,none⟩)) (.agg #[.pointer n,.int .i64 o,.slice a p q]) e f∧
 ∃ u v,(.pointer (some ⟨d,0,none⟩):Value)=.pointer (some u)∧(loadVar 107 u).run Tryz.prog f=.ok v f∧
 Q (.tuple #[v,.bool true]) f)
 (∃ g,Sto Tryz.prog 107 (.pointer (some ⟨d,0,none⟩)) (.agg #[.pointer none,.int .i64 0,.slice none 0 0]) e g∧
 ∃ b c,(.pointer (some ⟨d,0,none⟩):Value)=.pointer (some b)∧(loadVar 107 b).run Tryz.prog g=.ok c g∧
 Q (.tuple #[c,.bool false]) g)
def XiD:Nat→List (Nat×TypeId):=fun _=>[]
theorem XfH (a:Option Addr) (b:Int) (w:World) (Q:VWP) (h:XeD a b w Q):Xa Tryz.prog 45 #[.pointer a,.int .i64 b] w Q:=
 Xd XiD Tryz.func45 h (fun _ _=>by kernel_rfl) (by kernel_rfl) (by kernel_rfl) (by kernel_rfl)
def XbI (i:Option Addr) (j:Int) (w:World) (Q:VWP):Prop:=
 New #[.int .i64 j] 3 w fun k b=>
 ∃ c,i=some c∧
 ∃ d e f,Ld Tryz.prog 101 (.pointer (some (c.add 0))) b (.slice d e f)∧
 Xa Tryz.prog 151 #[.slice d e f,.func (.func 152) #[] #[.pointer (some ⟨k,0,none⟩)]] b fun g l=>
 ∃ a,g=.int .i64 a∧
 Q (.int .i64 a) l
def XfI:Nat→List (Nat×TypeId):=fun _=>[]
theorem Xdv (a:Option Addr) (b:Int) (w:World) (Q:VWP) (h:XbI a b w Q):Xa Tryz.prog 87 #[.pointer a,.int .i64 b] w Q:=
 Xd XfI Tryz.func87 h (fun _ _=>by kernel_rfl) (by kernel_rfl) (by kernel_rfl) (by kernel_rfl)
def WX (e:Option Addr) (f:Int) (a:Option Addr) (g:Nat) (i:Nat) (j:Option Addr) (w:World) (Q:VWP):Prop:=
 New #[.pointer e,.int .i64 f,.slice a g i] 107 w fun k b=>
 ∃ c,Ld Tryz.prog 3 (.pointer (some ((⟨k,0,none⟩:Addr).add 1))) b (.int .i64 c)∧
 ∃ d,Ld Tryz.prog 3 (.pointer j) b (.int .i64 d)∧
 Q (.bool (c == d)) b
def Xcy:Nat→List (Nat×TypeId):=fun _=>[]
theorem XaY (b:Option Addr) (c:Int) (a:Option Addr) (d:Nat) (e:Nat) (f:Option Addr) (w:World) (Q:VWP) (h:WX b c a d e f w Q):Xa Tryz.prog 152 #[.agg #[.pointer b,.int .i64 c,.slice a d e],.pointer f] w Q:=
 Xd Xcy Tryz.func152 h (fun _ _=>by kernel_rfl) (by kernel_rfl) (by kernel_rfl) (by kernel_rfl)
end Go.Sh
end

section
namespace Go.Sh
open Go Go.Fw Go.Proofs
set_option maxRecDepth 100000
set_option linter.unusedVariables false
def Xay (r:Option Addr) (s:Int) (w:World) (Q:VWP):Prop:=
 LoopS [.pointer r,.int .i64 s,.int .i64 0,.int .i64 0] w fun t u e _ a=>
 ∃ b c n d,e=[.pointer b,.int .i64 c,.int .i64 n,.int .i64 d]∧
 ∃ o,b=some o∧
 ∃ p f q,Ld Tryz.prog 46 (.pointer (some (o.add 0))) a (.slice p f q)∧
 cond (decide (d<((f:Nat):Int)))
 (∃ g,b=some g∧
 ∃ i j k,Ld Tryz.prog 46 (.pointer (some (g.add 0))) a (.slice i j k)∧
 ∃ l,IxA Tryz.prog 46 (.slice i j k) (.int .i64 d) l∧
 ∃ m,Ld Tryz.prog 3 (.pointer (some (l.add 0))) a (.int .i64 m)∧
 cond (m == c)
 (Q (.int .i64 d) a)
 (Xj [] [] t u e [.pointer b,.int .i64 c,.int .i64 n,.int .i64 (IntKind.i64.wrap (d+1))] a a))
 (Q (.int .i64 (-1)) a)
def XeE:Nat→List (Nat×TypeId):=fun n=>match n with | 0=>[(0,30),(1,3),(4,3),(5,3)] | _=>[]
theorem Xcz (a:Option Addr) (b:Int) (w:World) (Q:VWP) (h:Xay a b w Q):Xa Tryz.prog 11 #[.pointer a,.int .i64 b] w Q:=
 Xd XeE Tryz.func11 h (fun _ _=>by kernel_rfl) (by kernel_rfl) (by kernel_rfl) (by kernel_rfl)
def U6 (c:Option Addr) (D:Int) (J:Option Addr) (L:Nat) (M:Nat) (N:Int) (w:World) (Q:VWP):Prop:=
 Xa Tryz.prog 11 #[.pointer c,.int .i64 D] w fun E d=>
 ∃ g,E=.int .i64 g∧
 cond (decide (g≥0))
 (Q (.int .i64 16) d)
 (∃ i,c=some i∧
 ∃ F j G,Ld Tryz.prog 46 (.pointer (some (i.add 0))) d (.slice F j G)∧
 cond (((j:Nat):Int) == 16)
 (Q (.int .i64 18) d)
 (∃ (e:World→Prop),
 Drw d fun C=>
 ∃ k,c=some k∧
 ∃ l m n,HLd Tryz.prog e 46 (.pointer (some (k.add 0))) C (.slice l m n)∧
 ∃ o p q a,Ef Tryz.prog (Instr.buildSlice 23 0 #[]) C (.slice o p q) a∧
 (a=C∨e a)∧
 ∃ r s t b,Ef Tryz.prog (Builtin.append_ #[23,23] 23 #[.slice o p q,.slice J L M]) a (.slice r s t) b∧
 (b=a∨e b)∧
 ∃ u v x f,Ef Tryz.prog (Instr.buildSlice 46 1 #[(0,.agg #[.int .i64 D,.slice r s t])]) b (.slice u v x) f∧
 (f=b∨e f)∧
 ∃ y z A H,Ef Tryz.prog (Builtin.append_ #[46,46] 46 #[.slice l m n,.slice u v x]) f (.slice y z A) H∧
 ∃ B,c=some B∧
 ∃ I,Sto Tryz.prog 46 (.pointer (some (B.add 0))) (.slice y z A) H I∧
 Q (.int .i64 0) I))
def Wn (c:Option Addr) (a:Int) (d:Option Addr) (b:Nat) (e:Nat) (w:World) (Q:VWP):Prop:=
 cond (decide (a<0))
 (Q (.int .i64 11) w)
 (cond (decide (a > 127))
 (Q (.int .i64 11) w)
 (cond (((b:Nat):Int) != 16)
 (Q (.int .i64 11) w)
 (U6 c a d b e 0 w Q)))
def XbJ:Nat→List (Nat×TypeId):=fun _=>[]
theorem Q3 (a:Option Addr) (b:Int) (c:Option Addr) (d:Nat) (e:Nat) (w:World) (Q:VWP) (h:Wn a b c d e w Q):Xa Tryz.prog 42 #[.pointer a,.int .i64 b,.slice c d e] w Q:=
 Xd XbJ Tryz.func42 h (fun _ _=>by kernel_rfl) (by kernel_rfl) (by kernel_rfl) (by kernel_rfl)
def Vr (c:Option Addr) (L:Int) (M:Int) (w:World) (Q:VWP):Prop:=
 Xa Tryz.prog 11 #[.pointer c,.int .i64 L] w fun G H=>
 ∃ a,G=.int .i64 a∧
 cond (decide (a<0))
 (Q (.int .i64 17) H)
 (∃ (d:World→Prop),
 Drw H fun e=>
 ∃ g,c=some g∧
 ∃ i,c=some i∧
 ∃ j k l,HLd Tryz.prog d 46 (.pointer (some (g.add 0))) e (.slice j k l)∧
 ∃ m n o,Pu Tryz.prog (Instr.sliceAt 46 (.slice j k l) none (some (.int .i64 a)) none) (.slice m n o)∧
 ∃ p q r,HLd Tryz.prog d 46 (.pointer (some (i.add 0))) e (.slice p q r)∧
 ∃ s t u,Pu Tryz.prog (Instr.sliceAt 46 (.slice p q r) (some (.int .i64 (IntKind.i64.wrap (a+1)))) none none) (.slice s t u)∧
 ∃ v x y b,Ef Tryz.prog (Instr.buildSlice 46 0 #[]) e (.slice v x y) b∧
 (b=e∨d b)∧
 ∃ z A B f,Ef Tryz.prog (Builtin.append_ #[46,46] 46 #[.slice v x y,.slice m n o]) b (.slice z A B) f∧
 (f=b∨d f)∧
 ∃ C D E I,Ef Tryz.prog (Builtin.append_ #[46,46] 46 #[.slice z A B,.slice s t u]) f (.slice C D E) I∧
 ∃ F,c=some F∧
 ∃ J,Sto Tryz.prog 46 (.pointer (some (F.add 0))) (.slice C D E) I J∧
 Q (.int .i64 0) J)
def WY (b:Option Addr) (a:Int) (w:World) (Q:VWP):Prop:=
 cond (decide (a<0))
 (Q (.int .i64 11) w)
 (cond (decide (a > 127))
 (Q (.int .i64 11) w)
 (Vr b a 0 w Q))
def XcA:Nat→List (Nat×TypeId):=fun _=>[]
theorem XaZ (a:Option Addr) (b:Int) (w:World) (Q:VWP) (h:WY a b w Q):Xa Tryz.prog 44 #[.pointer a,.int .i64 b] w Q:=
 Xd XcA Tryz.func44 h (fun _ _=>by kernel_rfl) (by kernel_rfl) (by kernel_rfl) (by kernel_rfl)
end Go.Sh
end

section
namespace Go.Sh
open Go Go.Fw Go.Proofs
set_option maxRecDepth 100000
set_option linter.unusedVariables false
def Xgd (n:Option Addr) (j:Nat) (o:Nat) (w:World) (Q:VWP):Prop:=
 cond (decide (((j:Nat):Int) > 60))
 (Q (.bool true) w)
 (LoopS [.slice n j o,.bool false,.int .i64 0] w fun p q f _ b=>
 ∃ c a d k e,f=[.slice c a d,.bool k,.int .i64 e]∧
 cond (decide (e<((a:Nat):Int)))
 (∃ g,IxA Tryz.prog 22 (.slice c a d) (.int .i64 e) g∧
 ∃ l i m,Ld Tryz.prog 23 (.pointer (some (g.add 2))) b (.slice l i m)∧
 cond (decide (((i:Nat):Int) > 100))
 (Q (.bool true) b)
 (Xj [] [] p q f [.slice c a d,.bool k,.int .i64 (IntKind.i64.wrap (e+1))] b b))
 (Q (.bool false) b))
def Xke:Nat→List (Nat×TypeId):=fun n=>match n with | 0=>[(0,22),(2,4),(3,3)] | _=>[]
theorem Xg5 (a:Option Addr) (b:Nat) (c:Nat) (w:World) (Q:VWP) (h:Xgd a b c w Q):Xa Tryz.prog 5 #[.slice a b c] w Q:=
 Xd Xke Tryz.func5 h (fun _ _=>by kernel_rfl) (by kernel_rfl) (by kernel_rfl) (by kernel_rfl)
def JM (n:Bool) (o:Option Addr) (p:Nat) (q:Nat) (r:Bool) (w:World) (Q:VWP):Prop:=
 LoopS [.bool n,.slice o p q,.bool r,.int .i64 0] w fun s t i _ e=>
 ∃ f b a c d g,i=[.bool f,.slice b a c,.bool d,.int .i64 g]∧
 cond (decide (g<((a:Nat):Int)))
 (∃ j,IxA Tryz.prog 23 (.slice b a c) (.int .i64 g) j∧
 ∃ k,Ld Tryz.prog 5 (.pointer (some j)) e (.int .u8 k)∧
 ∃ l,IxA Tryz.prog 23 (.slice b a c) (.int .i64 g) l∧
 ∃ m,Sto Tryz.prog 5 (.pointer (some l)) (.int .u8 (IntKind.u8.wrap (k+1))) e m∧
 Xj [] [] s t i [.bool f,.slice b a c,.bool d,.int .i64 (IntKind.i64.wrap (g+1))] e m)
 (Q (.bool d) e)
def Xoa (D:Option Addr) (E:Option Addr) (M:Int) (z:Int) (N:Option Addr) (O:Nat) (P:Nat) (w:World) (Q:VWP):Prop:=
 New #[.int .i64 M,.int .i64 z,.slice N O P] 55 w fun d F=>
 ∃ k l m,Ld Tryz.prog 23 (.pointer (some ((⟨d,0,none⟩:Addr).add 2))) F (.slice k l m)∧
 Xa Tryz.prog 40 #[.slice k l m] F fun G g=>
 ∃ a b c,G=.slice a b c∧
 ∃ e,Ld Tryz.prog 3 (.pointer (some ((⟨d,0,none⟩:Addr).add 0))) g (.int .i64 e)∧
 cond (e == 0)
 (∃ (i:World→Prop),
 Drw g fun f=>
 ∃ n,HLd Tryz.prog i 3 (.pointer (some ((⟨d,0,none⟩:Addr).add 1))) f (.int .i64 n)∧
 ∃ o,HLd Tryz.prog i 3 (.pointer (some ((⟨d,0,none⟩:Addr).add 1))) f (.int .i64 o)∧
 ∃ p q r,HLd Tryz.prog i 23 (.pointer (some ((⟨d,0,none⟩:Addr).add 2))) f (.slice p q r)∧
 Xa Tryz.prog 41 #[.pointer D,.int .i64 n,.slice a b c] f fun H A=>
 ∃ s,H=.int .i64 s∧
 (A=f∨i A)∧
 Xa Tryz.prog 42 #[.pointer E,.int .i64 o,.slice p q r] A fun I R=>
 ∃ t,I=.int .i64 t∧
 JM false a b c (s == t) R Q)
 (cond (e == 1)
 (∃ (B:World→Prop),
 Drw g fun j=>
 ∃ u,HLd Tryz.prog B 3 (.pointer (some ((⟨d,0,none⟩:Addr).add 1))) j (.int .i64 u)∧
 ∃ v,HLd Tryz.prog B 3 (.pointer (some ((⟨d,0,none⟩:Addr).add 1))) j (.int .i64 v)∧
 Xa Tryz.prog 43 #[.pointer D,.int .i64 u] j fun J C=>
 ∃ x,J=.int .i64 x∧
 (C=j∨B C)∧
 Xa Tryz.prog 44 #[.pointer E,.int .i64 v] C fun L S=>
 ∃ y,L=.int .i64 y∧
 JM false a b c (x == y) S Q)
 (JM false a b c true g Q))
def Xpr:Nat→List (Nat×TypeId):=fun n=>match n with | 1=>[(6,4),(7,23),(8,4),(9,3)] | _=>[]
theorem XlT (b:Option Addr) (c:Option Addr) (d:Int) (a:Int) (e:Option Addr) (f:Nat) (g:Nat) (w:World) (Q:VWP) (h:Xoa b c d a e f g w Q):Xa Tryz.prog 15 #[.pointer b,.pointer c,.agg #[.int .i64 d,.int .i64 a,.slice e f g]] w Q:=
 Xd Xpr Tryz.func15 h (fun _ _=>by kernel_rfl) (by kernel_rfl) (by kernel_rfl) (by kernel_rfl)
end Go.Sh
end
