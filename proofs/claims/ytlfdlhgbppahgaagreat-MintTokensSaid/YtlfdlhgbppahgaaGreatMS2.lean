/- A part of a proof of a given law of this program: lemmas, printed forms of its functions, contracts. It has no conditions of its own. -/
import Derived.Test.YtlfdlhgbppahgaaGreatProg
import Derived.Test.YtlfdlhgbppahgaaGreatMW0
import Derived.Test.YtlfdlhgbppahgaaGreatMW1

set_option maxHeartbeats 16000000
section
namespace Go.Sh
open Go Go.Fw Go.Proofs
set_option maxRecDepth 100000
set_option linter.unusedVariables false
def Xsi (r:Option Addr) (q:Nat) (s:Nat) (w:World) (Q:VWP):Prop:=
 ∃ t,Pu Tryz.prog (zeroValue 240) t∧
 New t.cells 240 w fun c u=>
 cond (((q:Nat):Int) != 16)
 (∃ d,Sto Tryz.prog 240 (.pointer (some ⟨c,0,none⟩)) (.agg #[.int .u64 0,.int .u64 0]) u d∧
 ∃ v x,(.pointer (some ⟨c,0,none⟩):Value)=.pointer (some v)∧(loadVar 240 v).run Tryz.prog d=.ok x d∧
 Q (.tuple #[x,.int .i64 11]) d)
 (∃ i j k,Pu Tryz.prog (Instr.sliceAt 22 (.slice r q s) none (some (.int .i64 8)) none) (.slice i j k)∧
 Xa Tryz.prog 119 #[.slice i j k] u fun y A=>
 ∃ l e,y=.tuple #[.int .u64 l,.int .i64 e]∧
 ∃ m n o,Pu Tryz.prog (Instr.sliceAt 22 (.slice r q s) (some (.int .i64 8)) none none) (.slice m n o)∧
 Xa Tryz.prog 119 #[.slice m n o] A fun z B=>
 ∃ p f,z=.tuple #[.int .u64 p,.int .i64 f]∧
 ∃ g,Sto Tryz.prog 240 (.pointer (some ⟨c,0,none⟩)) (.agg #[.int .u64 l,.int .u64 p]) B g∧
 ∃ a b,(.pointer (some ⟨c,0,none⟩):Value)=.pointer (some a)∧(loadVar 240 a).run Tryz.prog g=.ok b g∧
 Q (.tuple #[b,.int .i64 0]) g)
def Xtf:Nat→List (Nat×TypeId):=fun _=>[]
theorem XpS (a:Option Addr) (b:Nat) (c:Nat) (w:World) (Q:VWP) (h:Xsi a b c w Q):Xa Tryz.prog 146 #[.slice a b c] w Q:=
 Xc Xtf Tryz.func146 h (fun _ _=>by kernel_rfl) (by kernel_rfl) (by kernel_rfl) (by kernel_rfl)
def Xao (A:Int) (o:Int) (w:World) (Q:VWP):Prop:=
 New #[.int .u64 A,.int .u64 o] 240 w fun p q=>
 ∃ r,Ld Tryz.prog 28 (.pointer (some ((⟨p,0,none⟩:Addr).add 0))) q (.int .u64 r)∧
 Xa Tryz.prog 159 #[.int .u64 r,.int .i64 8] q fun s t=>
 ∃ a b c u,s=.tuple #[.slice a b c,.int .i64 u]∧
 ∃ d,Ld Tryz.prog 28 (.pointer (some ((⟨p,0,none⟩:Addr).add 1))) t (.int .u64 d)∧
 Xa Tryz.prog 159 #[.int .u64 d,.int .i64 8] t fun v B=>
 ∃ e f g x,v=.tuple #[.slice e f g,.int .i64 x]∧
 ∃ i j k y,Ef Tryz.prog (Instr.buildSlice 161 2 #[(0,.slice a b c),(1,.slice e f g)]) B (.slice i j k) y∧
 Xa Tryz.prog 118 #[.slice i j k] y fun z C=>
 ∃ l m n,z=.slice l m n∧
 Q (.slice l m n) C
def Xfn:Nat→List (Nat×TypeId):=fun _=>[]
theorem XcL (b:Int) (a:Int) (w:World) (Q:VWP) (h:Xao b a w Q):Xa Tryz.prog 182 #[.agg #[.int .u64 b,.int .u64 a]] w Q:=
 Xc Xfn Tryz.func182 h (fun _ _=>by kernel_rfl) (by kernel_rfl) (by kernel_rfl) (by kernel_rfl)
def Xhz (e:Addr) (g:Addr) (w:World) (Q:VWP):Prop:=
 ∃ d a,Ld Tryz.prog 240 (.pointer (some g)) w (.agg #[.int .u64 d,.int .u64 a])∧
 ∃ c,Sto Tryz.prog 240 (.pointer (some e)) (.agg #[.int .u64 d,.int .u64 a]) w c∧
 ∃ b f,(.pointer (some e):Value)=.pointer (some b)∧(loadVar 240 b).run Tryz.prog c=.ok f c∧
 Q (f) c
def XpT (C:Option Addr) (u:Nat) (D:Nat) (w:World) (Q:VWP):Prop:=
 ∃ v,Pu Tryz.prog (zeroValue 240) v∧
 New v.cells 240 w fun E F=>
 ∃ x,Pu Tryz.prog (zeroValue 240) x∧
 New x.cells 240 F fun G H=>
 LoopS [.pointer (some ⟨E,0,none⟩),.pointer (some ⟨G,0,none⟩),.slice C u D,.int .i64 ((u:Nat):Int),.int .i64 0] H fun I J j _ a=>
 ∃ p f q r s t g,j=[.pointer (some p),.pointer (some f),.slice q r s,.int .i64 t,.int .i64 g]∧
 cond (decide (g<t))
 (∃ k,IxA Tryz.prog 278 (.slice q r s) (.int .i64 g) k∧
 ∃ l b,Ld Tryz.prog 240 (.pointer (some k)) a (.agg #[.int .u64 l,.int .u64 b])∧
 ∃ y,Pu Tryz.prog (zeroValue 240) y∧
 New y.cells 240 a fun z L=>
 ∃ i,Sto Tryz.prog 240 (.pointer (some ⟨z,0,none⟩)) (.agg #[.int .u64 l,.int .u64 b]) L i∧
 ∃ m c,Ld Tryz.prog 240 (.pointer (some f)) i (.agg #[.int .u64 m,.int .u64 c])∧
 ∃ n d,Ld Tryz.prog 240 (.pointer (some ⟨z,0,none⟩)) i (.agg #[.int .u64 n,.int .u64 d])∧
 Xa Tryz.prog 214 #[.agg #[.int .u64 m,.int .u64 c],.agg #[.int .u64 n,.int .u64 d]] i fun A M=>
 ∃ o e,A=.agg #[.int .u64 o,.int .u64 e]∧
 ∃ B,Sto Tryz.prog 240 (.pointer (some f)) (.agg #[.int .u64 o,.int .u64 e]) M B∧
 Xh [] [] I J j [.pointer (some p),.pointer (some f),.slice q r s,.int .i64 t,.int .i64 (IntKind.i64.wrap (g+1))] a B)
 (Xhz p f a Q)
def XrE:Nat→List (Nat×TypeId):=fun n=>match n with | 0=>[(2,1000000),(3,1000000),(6,278),(7,3),(8,3)] | _=>[]
theorem XnU (a:Option Addr) (b:Nat) (c:Nat) (w:World) (Q:VWP) (h:XpT a b c w Q):Xa Tryz.prog 202 #[.slice a b c] w Q:=
 Xc XrE Tryz.func202 h (fun _ _=>by kernel_rfl) (by kernel_rfl) (by kernel_rfl) (by kernel_rfl)
def XbM (p:Int) (e:Int) (q:Int) (f:Int) (w:World) (Q:VWP):Prop:=
 New #[.int .u64 p,.int .u64 e] 240 w fun g r=>
 New #[.int .u64 q,.int .u64 f] 240 r fun i s=>
 ∃ j,Pu Tryz.prog (zeroValue 240) j∧
 New j.cells 240 s fun k a=>
 ∃ l,Ld Tryz.prog 28 (.pointer (some ((⟨g,0,none⟩:Addr).add 0))) a (.int .u64 l)∧
 ∃ m,Ld Tryz.prog 28 (.pointer (some ((⟨i,0,none⟩:Addr).add 0))) a (.int .u64 m)∧
 ∃ c,Ld Tryz.prog 28 (.pointer (some ((⟨g,0,none⟩:Addr).add 1))) a (.int .u64 c)∧
 ∃ d,Ld Tryz.prog 28 (.pointer (some ((⟨i,0,none⟩:Addr).add 1))) a (.int .u64 d)∧
 ∃ b,Sto Tryz.prog 240 (.pointer (some ⟨k,0,none⟩)) (.agg #[.int .u64 (YN .u64 l m),.int .u64 (YN .u64 c d)]) a b∧
 ∃ n o,(.pointer (some ⟨k,0,none⟩):Value)=.pointer (some n)∧(loadVar 240 n).run Tryz.prog b=.ok o b∧
 Q (o) b
def XgY:Nat→List (Nat×TypeId):=fun _=>[]
theorem Xek (c:Int) (a:Int) (d:Int) (b:Int) (w:World) (Q:VWP) (h:XbM c a d b w Q):Xa Tryz.prog 214 #[.agg #[.int .u64 c,.int .u64 a],.agg #[.int .u64 d,.int .u64 b]] w Q:=
 Xc XgY Tryz.func214 h (fun _ _=>by kernel_rfl) (by kernel_rfl) (by kernel_rfl) (by kernel_rfl)
def Jf (e:Addr) (g:Addr) (w:World) (Q:VWP):Prop:=
 ∃ d a,Ld Tryz.prog 240 (.pointer (some g)) w (.agg #[.int .u64 d,.int .u64 a])∧
 ∃ c,Sto Tryz.prog 240 (.pointer (some e)) (.agg #[.int .u64 d,.int .u64 a]) w c∧
 ∃ b f,(.pointer (some e):Value)=.pointer (some b)∧(loadVar 240 b).run Tryz.prog c=.ok f c∧
 Q (f) c
def XbN (p:Int) (i:Int) (w:World) (Q:VWP):Prop:=
 New #[.int .u64 p,.int .u64 i] 240 w fun c q=>
 ∃ j,Pu Tryz.prog (zeroValue 240) j∧
 New j.cells 240 q fun k d=>
 ∃ l,Ld Tryz.prog 28 (.pointer (some ((⟨c,0,none⟩:Addr).add 0))) d (.int .u64 l)∧
 ∃ m,Ld Tryz.prog 28 (.pointer (some ((⟨c,0,none⟩:Addr).add 1))) d (.int .u64 m)∧
 ∃ e,Ld Tryz.prog 28 (.pointer (some ((⟨c,0,none⟩:Addr).add 0))) d (.int .u64 e)∧
 ∃ n,Pu Tryz.prog (zeroValue 240) n∧
 New n.cells 240 d fun a r=>
 ∃ b,Sto Tryz.prog 240 (.pointer (some ⟨a,0,none⟩)) (.agg #[.int .u64 (Int.fdiv l (2 ^ 1)),.int .u64 (ior .u64 (Int.fdiv m (2 ^ 1)) (IntKind.u64.wrap (e*2 ^ 63)))]) r b∧
 ∃ f,Ld Tryz.prog 28 (.pointer (some ((⟨c,0,none⟩:Addr).add 1))) b (.int .u64 f)∧
 cond ((Zc .u64 f 1) != 0)
 (∃ g,Ld Tryz.prog 28 (.pointer (some ((⟨a,0,none⟩:Addr).add 0))) b (.int .u64 g)∧
 ∃ o,Sto Tryz.prog 28 (.pointer (some ((⟨a,0,none⟩:Addr).add 0))) (.int .u64 (YN .u64 g 16212958658533785600)) b o∧
 Jf (⟨k,0,none⟩:Addr) (⟨a,0,none⟩:Addr) o Q)
 (Jf (⟨k,0,none⟩:Addr) (⟨a,0,none⟩:Addr) b Q)
def XgZ:Nat→List (Nat×TypeId):=fun _=>[]
theorem Xel (b:Int) (a:Int) (w:World) (Q:VWP) (h:XbN b a w Q):Xa Tryz.prog 228 #[.agg #[.int .u64 b,.int .u64 a]] w Q:=
 Xc XgZ Tryz.func228 h (fun _ _=>by kernel_rfl) (by kernel_rfl) (by kernel_rfl) (by kernel_rfl)
end Go.Sh
end

section
namespace Go.Sh
open Go Go.Fw Go.Proofs
set_option maxRecDepth 100000
set_option linter.unusedVariables false
def XmI (k:Option Addr) (l:Nat) (m:Nat) (w:World) (Q:VWP):Prop:=
 Xa Tryz.prog 146 #[.slice k l m] w fun n o=>
 ∃ f c a,n=.tuple #[.agg #[.int .u64 f,.int .u64 c],.int .i64 a]∧
 ∃ g,Pu Tryz.prog (zeroValue 240) g∧
 New g.cells 240 o fun i p=>
 ∃ d,Sto Tryz.prog 240 (.pointer (some ⟨i,0,none⟩)) (.agg #[.int .u64 f,.int .u64 c]) p d∧
 cond (a != 0)
 (Q (.tuple #[.pointer none,.int .i64 a]) d)
 (∃ e b,Ld Tryz.prog 240 (.pointer (some ⟨i,0,none⟩)) d (.agg #[.int .u64 e,.int .u64 b])∧
 New #[.int .u64 e,.int .u64 b,.int .u32 0,.int .i32 0,.int .u32 0,.int .i64 0,.int .u64 0,.int .u64 0,.int .u64 0,.int .u64 0,.int .u64 0,.int .u64 0,.int .u64 0,.int .u64 0,.int .u64 0,.int .u64 0,.int .u64 0,.int .u64 0,.int .u64 0,.int .u64 0,.int .u64 0,.int .u64 0,.int .u64 0,.int .u64 0,.int .u64 0,.int .u64 0,.int .u64 0,.int .u64 0,.int .u64 0,.int .u64 0,.int .u64 0,.int .u64 0,.int .u64 0,.int .u64 0,.int .u64 0,.int .u64 0,.int .u64 0,.int .u64 0,.int .u64 0,.int .u64 0,.int .u64 0,.int .u64 0,.int .u64 0,.int .u64 0,.int .u64 0,.int .u64 0,.int .u64 0,.int .u64 0,.int .u64 0,.int .u64 0,.int .u64 0,.int .u64 0,.int .u64 0,.int .u64 0,.int .u64 0,.int .u64 0,.int .u64 0,.int .u64 0,.int .u64 0,.int .u64 0,.int .u64 0,.int .u64 0,.int .u64 0,.int .u64 0,.int .u64 0,.int .u64 0,.int .u64 0,.int .u64 0,.int .u64 0,.int .u64 0,.int .u64 0,.int .u64 0,.int .u64 0,.int .u64 0,.int .u64 0,.int .u64 0,.int .u64 0,.int .u64 0,.int .u64 0,.int .u64 0,.int .u64 0,.int .u64 0,.int .u64 0,.int .u64 0,.int .u64 0,.int .u64 0,.int .u64 0,.int .u64 0,.int .u64 0,.int .u64 0,.int .u64 0,.int .u64 0,.int .u64 0,.int .u64 0,.int .u64 0,.int .u64 0,.int .u64 0,.int .u64 0,.int .u64 0,.int .u64 0,.int .u64 0,.int .u64 0,.int .u64 0,.int .u64 0,.int .u64 0,.int .u64 0,.int .u64 0,.int .u64 0,.int .u64 0,.int .u64 0,.int .u64 0,.int .u64 0,.int .u64 0,.int .u64 0,.int .u64 0,.int .u64 0,.int .u64 0,.int .u64 0,.int .u64 0,.int .u64 0,.int .u64 0,.int .u64 0,.int .u64 0,.int .u64 0,.int .u64 0,.int .u64 0,.int .u64 0,.int .u64 0,.int .u64 0,.int .u64 0,.int .u64 0,.int .u64 0,.int .u64 0,.int .u64 0,.int .u64 0,.int .u64 0,.int .u64 0,.int .u64 0,.int .u64 0,.int .u64 0,.int .u64 0,.int .u64 0,.int .u64 0,.int .u64 0,.int .u64 0,.int .u64 0,.int .u64 0,.int .u64 0,.int .u64 0,.int .u64 0,.int .u64 0,.int .u64 0,.int .u64 0,.int .u64 0,.int .u64 0,.int .u64 0,.int .u64 0,.int .u64 0,.int .u64 0,.int .u64 0,.int .u64 0,.int .u64 0,.int .u64 0,.int .u64 0,.int .u64 0,.int .u64 0,.int .u64 0,.int .u64 0,.int .u64 0,.int .u64 0,.int .u64 0,.int .u64 0,.int .u64 0,.int .u64 0,.int .u64 0,.int .u64 0,.int .u64 0,.int .u64 0,.int .u64 0,.int .u64 0,.int .u64 0,.int .u64 0,.int .u64 0,.int .u64 0,.int .u64 0,.int .u64 0,.int .u64 0,.int .u64 0,.int .u64 0,.int .u64 0,.int .u64 0,.int .u64 0,.int .u64 0,.int .u64 0,.int .u64 0,.int .u64 0,.int .u64 0,.int .u64 0,.int .u64 0,.int .u64 0,.int .u64 0,.int .u64 0,.int .u64 0,.int .u64 0,.int .u64 0,.int .u64 0,.int .u64 0,.int .u64 0,.int .u64 0,.int .u64 0,.int .u64 0,.int .u64 0,.int .u64 0,.int .u64 0,.int .u64 0,.int .u64 0,.int .u64 0,.int .u64 0,.int .u64 0,.int .u64 0,.int .u64 0,.int .u64 0,.int .u64 0,.int .u64 0,.int .u64 0,.int .u64 0,.int .u64 0,.int .u64 0,.int .u64 0,.int .u64 0,.int .u64 0,.int .u64 0,.int .u64 0,.int .u64 0,.int .u64 0,.int .u64 0,.int .u64 0,.int .u64 0,.int .u64 0,.int .u64 0,.int .u64 0,.int .u64 0,.int .u64 0,.int .u64 0,.int .u64 0,.int .u64 0,.int .u64 0,.int .u64 0,.int .u64 0,.int .u64 0,.int .u64 0,.int .u64 0,.int .u64 0,.int .u64 0,.int .u64 0,.int .u64 0,.int .u64 0,.int .u64 0,.int .u64 0,.int .u64 0,.int .u64 0,.int .u64 0,.int .u64 0,.int .u64 0,.int .u64 0,.int .u64 0,.int .u64 0,.int .u64 0,.int .u64 0,.int .u64 0,.int .u64 0,.int .u64 0,.int .u64 0,.int .u64 0,.int .u64 0,.int .u64 0,.int .u64 0,.int .u64 0,.int .u64 0,.int .u64 0,.int .u64 0,.int .u64 0,.int .u64 0,.int .u64 0,.int .u64 0,.int .u64 0,.int .u64 0,.int .u64 0,.int .u64 0,.int .u64 0,.int .u64 0,.int .u64 0,.int .u64 0,.int .u64 0,.int .u64 0,.int .u64 0,.int .u64 0,.int .u64 0,.int .u64 0,.int .u64 0,.int .u64 0,.int .u64 0,.int .u64 0,.int .u64 0,.int .u64 0,.int .u64 0,.int .u64 0,.int .u64 0,.int .u64 0,.int .u64 0,.int .u64 0,.int .u64 0,.int .u64 0,.int .u64 0,.int .u64 0,.int .u64 0,.int .u64 0,.int .u64 0,.int .u64 0,.int .u64 0,.int .u64 0,.int .u64 0,.int .u64 0,.int .u64 0,.int .u64 0,.int .u64 0,.int .u64 0,.int .u64 0,.int .u64 0,.int .u64 0,.int .u64 0,.int .u64 0,.int .u64 0,.int .u64 0,.int .u64 0,.int .u64 0,.int .u64 0,.int .u64 0,.int .u64 0,.int .u64 0,.int .u64 0,.int .u64 0,.int .u64 0,.int .u64 0,.int .u64 0,.int .u64 0,.int .u64 0,.int .u64 0,.int .u64 0,.int .u64 0,.int .u64 0,.int .u64 0,.int .u64 0,.int .u64 0,.int .u64 0,.int .u64 0,.int .u64 0,.int .u64 0,.int .u64 0,.int .u64 0,.int .u64 0,.int .u64 0,.int .u64 0,.int .u64 0,.int .u64 0,.int .u64 0,.int .u64 0,.int .u64 0,.int .u64 0,.int .u64 0,.int .u64 0,.int .u64 0,.int .u64 0,.int .u64 0,.int .u64 0,.int .u64 0,.int .u64 0,.int .u64 0,.int .u64 0,.int .u64 0,.int .u64 0,.int .u64 0,.int .u64 0,.int .u64 0,.int .u64 0,.int .u64 0,.int .u64 0,.int .u64 0,.int .u64 0,.int .u64 0,.int .u64 0,.int .u64 0,.int .u64 0,.int .u64 0,.int .u64 0,.int .u64 0,.int .u64 0,.int .u64 0,.int .u64 0,.int .u64 0,.int .u64 0,.int .u64 0,.int .u64 0,.int .u64 0,.int .u64 0,.int .u64 0,.int .u64 0,.int .u64 0,.int .u64 0,.int .u64 0,.int .u64 0,.int .u64 0,.int .u64 0,.int .u64 0,.int .u64 0,.int .u64 0,.int .u64 0,.int .u64 0,.int .u64 0,.int .u64 0,.int .u64 0,.int .u64 0,.int .u64 0,.int .u64 0,.int .u64 0,.int .u64 0,.int .u64 0,.int .u64 0,.int .u64 0,.int .u64 0,.int .u64 0,.int .u64 0,.int .u64 0,.int .u64 0,.int .u64 0,.int .u64 0,.int .u64 0,.int .u64 0,.int .u64 0,.int .u64 0,.int .u64 0,.int .u64 0,.int .u64 0,.int .u64 0,.int .u64 0,.int .u64 0,.int .u64 0,.int .u64 0,.int .u64 0,.int .u64 0,.int .u64 0,.int .u64 0,.int .u64 0,.int .u64 0,.int .u64 0,.int .u64 0,.int .u64 0,.int .u64 0,.int .u64 0,.int .u64 0,.int .u64 0,.int .u64 0,.int .u64 0,.int .u64 0,.int .u64 0,.int .u64 0,.int .u64 0,.int .u64 0,.int .u64 0,.int .u64 0,.int .u64 0,.int .u64 0,.int .u64 0,.int .u64 0,.int .u64 0,.int .u64 0,.int .u64 0,.int .u64 0,.int .u64 0,.int .u64 0,.int .u64 0,.int .u64 0,.int .u64 0,.int .u64 0,.int .u64 0,.int .u64 0,.int .u64 0,.int .u64 0,.int .u64 0,.int .u64 0,.int .u64 0,.int .u64 0,.int .u64 0,.int .u64 0,.int .u64 0,.int .u64 0,.int .u64 0,.int .u64 0,.int .u64 0,.int .u64 0,.int .u64 0,.int .u64 0,.int .u64 0,.int .u64 0,.int .u64 0,.int .u64 0,.int .u64 0,.int .u64 0,.int .u64 0,.int .u64 0,.int .u64 0,.int .u64 0,.int .u64 0,.int .u64 0,.int .u64 0,.int .u64 0,.int .u64 0,.int .u64 0,.int .u64 0,.int .u64 0,.int .u64 0,.int .u64 0,.int .u64 0,.int .u64 0,.int .u64 0,.int .u64 0,.int .u64 0,.int .u64 0,.int .u64 0,.int .u64 0,.int .u64 0,.int .u64 0,.int .u64 0,.int .u64 0,.int .u64 0,.int .u64 0,.int .u64 0,.int .u64 0,.int .u64 0,.int .u64 0,.int .u64 0,.int .u64 0,.int .u64 0,.int .u64 0,.int .u64 0,.int .u64 0,.int .u64 0,.int .u64 0,.int .u64 0,.int .u64 0,.int .u64 0,.int .u64 0,.int .u64 0,.int .u64 0,.int .u64 0,.int .u64 0,.int .u64 0,.int .u64 0,.int .u64 0,.int .u64 0,.int .u64 0,.int .u64 0,.int .u64 0,.int .u64 0,.int .u64 0,.int .u64 0,.int .u64 0,.int .u64 0,.int .u64 0,.int .u64 0,.int .u64 0,.int .u64 0,.int .u64 0,.int .u64 0,.int .u64 0,.int .u64 0,.int .u64 0,.int .u64 0,.int .u64 0,.int .u64 0,.int .u64 0,.int .u64 0,.int .u64 0,.int .u64 0,.int .u64 0,.int .u64 0,.int .u64 0,.int .u64 0,.int .u64 0,.int .u64 0,.int .u64 0,.int .u64 0,.int .u64 0,.int .u64 0,.int .u64 0,.int .u64 0,.int .u64 0,.int .u64 0,.int .u64 0,.int .u64 0,.int .u64 0,.int .u64 0,.int .u64 0,.int .u64 0,.int .u64 0,.int .u64 0,.int .u64 0,.int .u64 0,.int .u64 0,.int .u64 0,.int .u64 0,.int .u64 0,.int .u64 0,.int .u64 0,.int .u64 0,.int .u64 0,.int .u64 0,.int .u64 0,.int .u64 0,.int .u64 0,.int .u64 0,.int .u64 0,.int .u64 0,.int .u64 0,.int .u64 0,.int .u64 0,.int .u64 0,.int .u64 0,.int .u64 0,.int .u64 0,.int .u64 0,.int .u64 0,.int .u64 0,.int .u64 0,.int .u64 0,.int .u64 0,.int .u64 0,.int .u64 0,.int .u64 0,.int .u64 0,.int .u64 0,.int .u64 0,.int .u64 0,.int .u64 0,.int .u64 0,.int .u64 0,.int .u64 0,.int .u64 0,.int .u64 0,.int .u64 0,.int .u64 0,.int .u64 0,.int .u64 0,.int .u64 0,.int .u64 0,.int .u64 0,.int .u64 0,.int .u64 0,.int .u64 0,.int .u64 0,.int .u64 0,.int .u64 0,.int .u64 0,.int .u64 0,.int .u64 0,.int .u64 0,.int .u64 0,.int .u64 0,.int .u64 0,.int .u64 0,.int .u64 0,.int .u64 0,.int .u64 0,.int .u64 0,.int .u64 0,.int .u64 0,.int .u64 0,.int .u64 0,.int .u64 0,.int .u64 0,.int .u64 0,.int .u64 0,.int .u64 0,.int .u64 0,.int .u64 0,.int .u64 0,.int .u64 0,.int .u64 0,.int .u64 0,.int .u64 0,.int .u64 0,.int .u64 0,.int .u64 0,.int .u64 0,.int .u64 0,.int .u64 0,.int .u64 0,.int .u64 0,.int .u64 0,.int .u64 0,.int .u64 0,.int .u64 0,.int .u64 0,.int .u64 0,.int .u64 0,.int .u64 0,.int .u64 0,.int .u64 0,.int .u64 0,.int .u64 0,.int .u64 0,.int .u64 0,.int .u64 0,.int .u64 0,.int .u64 0,.int .u64 0,.int .u64 0,.int .u64 0,.int .u64 0,.int .u64 0,.int .u64 0,.int .u64 0,.int .u64 0,.int .u64 0,.int .u64 0,.int .u64 0,.int .u64 0,.int .u64 0,.int .u64 0,.int .u64 0,.int .u64 0,.int .u64 0,.int .u64 0,.int .u64 0,.int .u64 0,.int .u64 0,.int .u64 0,.int .u64 0,.int .u64 0,.int .u64 0,.int .u64 0,.int .u64 0,.int .u64 0,.int .u64 0,.int .u64 0,.int .u64 0,.int .u64 0,.int .u64 0,.int .u64 0,.int .u64 0,.int .u64 0,.int .u64 0,.int .u64 0,.int .u64 0,.int .u64 0,.int .u64 0,.int .u64 0,.int .u64 0,.int .u64 0,.int .u64 0,.int .u64 0,.int .u64 0,.int .u64 0,.int .u64 0,.int .u64 0,.int .u64 0,.int .u64 0,.int .u64 0,.int .u64 0,.int .u64 0,.int .u64 0,.int .u64 0,.int .u64 0,.int .u64 0,.int .u64 0,.int .u64 0,.int .u64 0,.int .u64 0,.int .u64 0,.int .u64 0,.int .u64 0,.int .u64 0,.int .u64 0,.int .u64 0,.int .u64 0,.int .u64 0,.int .u64 0,.int .u64 0,.int .u64 0,.int .u64 0,.int .u64 0,.int .u64 0,.int .u64 0,.int .u64 0,.int .u64 0,.int .u64 0,.int .u64 0,.int .u64 0,.int .u64 0,.int .u64 0,.int .u64 0,.int .u64 0,.int .u64 0,.int .u64 0,.int .u64 0,.int .u64 0,.int .u64 0,.int .u64 0,.int .u64 0,.int .u64 0,.int .u64 0,.int .u64 0,.int .u64 0,.int .u64 0,.int .u64 0,.int .u64 0,.int .u64 0,.int .u64 0,.int .u64 0,.int .u64 0,.int .u64 0,.int .u64 0,.int .u64 0,.int .u64 0,.int .u64 0,.int .u64 0,.int .u64 0,.int .u64 0,.int .u64 0,.int .u64 0,.int .u64 0,.int .u64 0,.int .u64 0,.int .u64 0,.int .u64 0,.int .u64 0,.int .u64 0,.int .u64 0,.int .u64 0,.int .u64 0,.int .u64 0,.int .u64 0,.int .u64 0,.int .u64 0,.int .u64 0,.int .u64 0,.int .u64 0,.int .u64 0,.int .u64 0,.int .u64 0,.int .u64 0,.int .u64 0,.int .u64 0,.int .u64 0,.int .u64 0,.int .u64 0,.int .u64 0,.int .u64 0,.int .u64 0,.int .u64 0,.int .u64 0,.int .u64 0,.int .u64 0,.int .u64 0,.int .u64 0,.int .u64 0,.int .u64 0,.int .u64 0,.int .u64 0,.int .u64 0,.int .u64 0,.int .u64 0,.int .u64 0,.int .u64 0,.int .u64 0,.int .u64 0,.int .u64 0,.int .u64 0,.int .u64 0,.int .u64 0,.int .u64 0,.int .u64 0,.int .u64 0,.int .u64 0,.int .u64 0,.int .u64 0,.int .u64 0,.int .u64 0,.int .u64 0,.int .u64 0,.int .u64 0,.int .u64 0,.int .u64 0,.int .u64 0,.int .u64 0,.int .u64 0,.int .u64 0,.int .u64 0,.int .u64 0,.int .u64 0,.int .u64 0,.int .u64 0,.int .u64 0,.int .u64 0,.int .u64 0,.int .u64 0,.int .u64 0,.int .u64 0,.int .u64 0,.int .u64 0,.int .u64 0,.int .u64 0,.int .u64 0,.int .u64 0,.int .u64 0,.int .u64 0,.int .u64 0,.int .u64 0,.int .u64 0,.int .u64 0,.int .u64 0,.int .u64 0,.int .u64 0,.int .u64 0,.int .u64 0,.int .u64 0,.int .u64 0,.int .u64 0,.int .u64 0,.int .u64 0,.int .u64 0,.int .u64 0,.int .u64 0,.int .u64 0,.int .u64 0,.int .u64 0,.int .u64 0,.int .u64 0,.int .u64 0,.int .u64 0,.int .u64 0,.int .u64 0,.int .u64 0,.int .u64 0,.int .u64 0,.int .u64 0,.int .u64 0,.int .u64 0,.int .u64 0,.int .u64 0,.int .u64 0,.int .u64 0,.int .u64 0,.int .u64 0,.int .u64 0,.int .u64 0,.int .u64 0,.int .u64 0,.int .u64 0,.int .u64 0,.int .u64 0,.int .u64 0,.int .u64 0,.int .u64 0,.int .u64 0,.int .u64 0,.int .u64 0,.int .u64 0,.int .u64 0,.int .u64 0,.int .u64 0,.int .u64 0,.int .u64 0,.int .u64 0,.int .u64 0,.int .u64 0,.int .u64 0,.int .u64 0,.int .u64 0,.int .u64 0,.int .u64 0,.int .u64 0,.int .u64 0,.int .u64 0,.int .u64 0,.int .u64 0,.int .u64 0,.int .u64 0,.int .u64 0,.int .u64 0,.int .u64 0,.int .u64 0,.int .u64 0,.int .u64 0,.int .u64 0,.int .u64 0,.int .u64 0,.int .u64 0,.int .u64 0,.int .u64 0,.int .u64 0,.int .u64 0,.int .u64 0,.int .u64 0,.int .u64 0,.int .u64 0,.int .u64 0,.int .u64 0,.int .u64 0,.int .u64 0,.int .u64 0,.int .u64 0,.int .u64 0,.int .u64 0,.int .u64 0,.int .u64 0,.int .u64 0,.int .u64 0,.int .u64 0,.int .u64 0,.int .u64 0,.int .u64 0,.int .u64 0,.int .u64 0,.int .u64 0,.int .u64 0,.int .u64 0,.int .u64 0,.int .u64 0,.int .u64 0] 256 d fun j q=>
 Q (.tuple #[.pointer (some ⟨j,0,none⟩),.int .i64 0]) q)
def XpU:Nat→List (Nat×TypeId):=fun _=>[]
theorem XlQ (a:Option Addr) (b:Nat) (c:Nat) (w:World) (Q:VWP) (h:XmI a b c w Q):Xa Tryz.prog 108 #[.slice a b c] w Q:=
 Xc XpU Tryz.func108 h (fun _ _=>by kernel_rfl) (by kernel_rfl) (by kernel_rfl) (by kernel_rfl)
def XbO (W:Option Addr) (B:Option Addr) (C:Nat) (D:Nat) (E:Option Addr) (F:Nat) (G:Nat) (w:World) (Q:VWP):Prop:=
 Xa Tryz.prog 179 #[.slice B C D] w fun X Y=>
 ∃ H I J,X=.slice H I J∧
 Xa Tryz.prog 179 #[.slice E F G] Y fun L Z=>
 ∃ c d e,L=.slice c d e∧
 Xa Tryz.prog 180 #[.slice B C D,.slice E F G] Z fun M aa=>
 ∃ f a,M=.agg #[.int .u64 f,.int .u64 a]∧
 ∃ g i j N,Ef Tryz.prog (Instr.buildSlice 278 1 #[(0,.agg #[.int .u64 f,.int .u64 a])]) aa (.slice g i j) N∧
 ∃ k l m O,Ef Tryz.prog (Instr.buildSlice 293 3 #[(0,.slice H I J),(1,.slice c d e),(2,.slice g i j)]) N (.slice k l m) O∧
 Xa Tryz.prog 178 #[.slice k l m] O fun P ab=>
 ∃ n o p,P=.slice n o p∧
 Xa Tryz.prog 181 #[.pointer W,.agg #[.int .u64 0,.int .u64 0],.slice n o p] ab fun R ac=>
 ∃ q b,R=.agg #[.int .u64 q,.int .u64 b]∧
 Xa Tryz.prog 182 #[.agg #[.int .u64 q,.int .u64 b]] ac fun S ad=>
 ∃ r s t,S=.slice r s t∧
 ∃ u v x T,Ef Tryz.prog (Instr.buildSlice 161 1 #[(0,.slice r s t)]) ad (.slice u v x) T∧
 Xa Tryz.prog 118 #[.slice u v x] T fun U V=>
 ∃ y z A,U=.slice y z A∧
 Q (.slice y z A) V
def Xg0:Nat→List (Nat×TypeId):=fun _=>[]
theorem Xem (a:Option Addr) (b:Option Addr) (c:Nat) (d:Nat) (e:Option Addr) (f:Nat) (g:Nat) (w:World) (Q:VWP) (h:XbO a b c d e f g w Q):Xa Tryz.prog 154 #[.pointer a,.slice b c d,.slice e f g] w Q:=
 Xc Xg0 Tryz.func154 h (fun _ _=>by kernel_rfl) (by kernel_rfl) (by kernel_rfl) (by kernel_rfl)
noncomputable def Y8 (i:Nat):Array Tmp×Code×Code:=(rfs (Tryz.f179.body.getD .skip)).getD i (#[],.skip,.skip)
def Xfo (e:Option Addr) (f:Nat) (g:Nat) (w:World) (Q:VWP):Prop:=
 ∃ j,Pu Tryz.prog (zeroValue 278) j∧
 New j.cells 278 w fun k n=>
 Xa Tryz.prog 200 #[.slice e f g,.int .i64 16] n fun o p=>
 ∃ i,o=i∧
 RangeF Tryz.prog (i) #[.slice e f g,.tuple #[],.slice none 0 0,.pointer (some ⟨k,0,none⟩),.tuple #[],.tuple #[],.tuple #[],.tuple #[],.slice e f g,i,.tuple #[],.tuple #[],.tuple #[],.tuple #[],.tuple #[],.tuple #[],.tuple #[],.tuple #[],.tuple #[],.tuple #[],.tuple #[],.tuple #[],.tuple #[],.tuple #[]] (Y8 0) p (fun krf a=>
 ∃ b c d,Ld Tryz.prog 278 (.pointer (some ⟨k,0,none⟩)) a (.slice b c d)∧
 ∃ l,Tk Tryz.prog krf a l∧
 Q (.slice b c d) l) (fun krf a=>
 ∃ m,Tk Tryz.prog krf a m∧
 Q (.slice none 0 0) m)
def XjU:Nat→List (Nat×TypeId):=fun _=>[]
theorem Xg1 (a:Option Addr) (b:Nat) (c:Nat) (w:World) (Q:VWP) (h:Xfo a b c w Q):Xa Tryz.prog 179 #[.slice a b c] w Q:=
 Xc XjU Tryz.func179 h (fun _ _=>by kernel_rfl) (by kernel_rfl) (by kernel_rfl) (by kernel_rfl)
def Vd (y:Addr) (z:Option Addr) (A:Nat) (B:Nat) (l:Nat) (w:World) (Q:VWP):Prop:=
 BegR Tryz.prog l w fun N=>
 ∃ C,Pu Tryz.prog (zeroValue 222) C∧
 New C.cells 222 N fun D O=>
 ∃ e f g,Pu Tryz.prog (Instr.sliceAt 222 (.pointer (some ⟨D,0,none⟩)) none none none) (.slice e f g)∧
 ∃ E F,Ef Tryz.prog (Builtin.copy_ #[22,22] 3 #[.slice e f g,.slice z A B]) O (.int .i64 E) F∧
 ∃ i j k,Pu Tryz.prog (Instr.sliceAt 222 (.pointer (some ⟨D,0,none⟩)) none none none) (.slice i j k)∧
 Xa Tryz.prog 146 #[.slice i j k] F fun G P=>
 ∃ m a c,G=.tuple #[.agg #[.int .u64 m,.int .u64 a],.int .i64 c]∧
 ∃ H,Pu Tryz.prog (zeroValue 240) H∧
 New H.cells 240 P fun I R=>
 ∃ d,Sto Tryz.prog 240 (.pointer (some ⟨I,0,none⟩)) (.agg #[.int .u64 m,.int .u64 a]) R d∧
 ∃ n o p,Ld Tryz.prog 278 (.pointer (some y)) d (.slice n o p)∧
 ∃ q b,Ld Tryz.prog 240 (.pointer (some ⟨I,0,none⟩)) d (.agg #[.int .u64 q,.int .u64 b])∧
 ∃ r s t J,Ef Tryz.prog (Instr.buildSlice 278 1 #[(0,.agg #[.int .u64 q,.int .u64 b])]) d (.slice r s t) J∧
 ∃ u v x L,Ef Tryz.prog (Builtin.append_ #[278,278] 278 #[.slice n o p,.slice r s t]) J (.slice u v x) L∧
 ∃ M,Sto Tryz.prog 278 (.pointer (some y)) (.slice u v x) L M∧
 EndR Tryz.prog l none true M Q
def V9:Nat→List (Nat×TypeId):=fun _=>[]
def Wa:Nat→List (Nat×TypeId):=fun _=>[]
theorem XcM (d:Addr) (a:Option Addr) (b:Nat) (c:Nat) {v x y z A B C D E F g i j k m n o p q r s t u:Value} {l df:Nat} {fn:FuncId} {w:World} {Q:VWP} (h:LpAt w l (U3 fn #[v,x,y,.pointer (some d),z,A,B,C,D,E,F,g,i,j,k,m,n,o,p,q,r,s,t,u] (Y8 0).1 (Y8 0).2.1 (Y8 0).2.2 df)) (hq:Vd d a b c l w Q):YH Tryz.prog (.func (.yield l) #[] #[]) [.slice a b c] w Q:=by
 have e:Vd d a b c l w Q=sw Tryz.prog (some l) 24 V9 (Y8 0).2.1 0 (Xx0 Tryz.prog l 24 Wa (Y8 0).2.2 Q) ⟨Vz [v,x,y,.pointer (some d),z,A,B,C,D,E,.slice a b c,g,i,j,k,m,n,o,p,q,r,s,t,u],[]⟩ w:=by kernel_rfl
 have h2:=Xra (f:=fn) V9 Wa (nt:=24) (by kernel_rfl) (Eq.mp e hq)
 refine XwW h ?_ ?_ h2
 · kernel_rfl
 · kernel_rfl
def XdI (j:Option Addr) (f:Nat) (k:Nat) (l:Option Addr) (g:Nat) (m:Nat) (w:World) (Q:VWP):Prop:=
 ∃ b,Pu Tryz.prog (zeroValue 240) b∧
 New b.cells 240 w fun c i=>
 ∃ a,Sto Tryz.prog 240 (.pointer (some ⟨c,0,none⟩)) (.agg #[.int .u64 (IntKind.u64.wrap ((IntKind.u64.wrap ((f:Nat):Int))*8)),.int .u64 (IntKind.u64.wrap ((IntKind.u64.wrap ((g:Nat):Int))*8))]) i a∧
 ∃ d e,(.pointer (some ⟨c,0,none⟩):Value)=.pointer (some d)∧(loadVar 240 d).run Tryz.prog a=.ok e a∧
 Q (e) a
def Xiu:Nat→List (Nat×TypeId):=fun _=>[]
theorem Xfp (a:Option Addr) (b:Nat) (c:Nat) (d:Option Addr) (e:Nat) (f:Nat) (w:World) (Q:VWP) (h:XdI a b c d e f w Q):Xa Tryz.prog 180 #[.slice a b c,.slice d e f] w Q:=
 Xc Xiu Tryz.func180 h (fun _ _=>by kernel_rfl) (by kernel_rfl) (by kernel_rfl) (by kernel_rfl)
def Wb (g:Addr) (e:Addr) (w:World) (Q:VWP):Prop:=
 ∃ d a,Ld Tryz.prog 240 (.pointer (some g)) w (.agg #[.int .u64 d,.int .u64 a])∧
 ∃ c,Sto Tryz.prog 240 (.pointer (some e)) (.agg #[.int .u64 d,.int .u64 a]) w c∧
 ∃ b f,(.pointer (some e):Value)=.pointer (some b)∧(loadVar 240 b).run Tryz.prog c=.ok f c∧
 Q (f) c
def Xap (L:Option Addr) (M:Int) (x:Int) (N:Option Addr) (C:Nat) (O:Nat) (w:World) (Q:VWP):Prop:=
 New #[.int .u64 M,.int .u64 x] 240 w fun P R=>
 ∃ D,Pu Tryz.prog (zeroValue 240) D∧
 New D.cells 240 R fun S T=>
 LoopS [.pointer L,.pointer (some ⟨P,0,none⟩),.pointer (some ⟨S,0,none⟩),.slice N C O,.int .i64 ((C:Nat):Int),.int .i64 0] T fun U V m _ b=>
 ∃ a j y z A B k c,m=[.pointer a,.pointer (some j),.pointer (some y),.slice z A B,.int .i64 k,.int .i64 c]∧
 cond (decide (c<k))
 (∃ n,IxA Tryz.prog 278 (.slice z A B) (.int .i64 c) n∧
 ∃ o d,Ld Tryz.prog 240 (.pointer (some n)) b (.agg #[.int .u64 o,.int .u64 d])∧
 ∃ E,Pu Tryz.prog (zeroValue 240) E∧
 New E.cells 240 b fun F W=>
 ∃ l,Sto Tryz.prog 240 (.pointer (some ⟨F,0,none⟩)) (.agg #[.int .u64 o,.int .u64 d]) W l∧
 ∃ p e,Ld Tryz.prog 240 (.pointer (some j)) l (.agg #[.int .u64 p,.int .u64 e])∧
 ∃ q f,Ld Tryz.prog 240 (.pointer (some ⟨F,0,none⟩)) l (.agg #[.int .u64 q,.int .u64 f])∧
 ∃ r s t G,Ef Tryz.prog (Instr.buildSlice 278 2 #[(0,.agg #[.int .u64 p,.int .u64 e]),(1,.agg #[.int .u64 q,.int .u64 f])]) l (.slice r s t) G∧
 Xa Tryz.prog 202 #[.slice r s t] G fun H X=>
 ∃ u g,H=.agg #[.int .u64 u,.int .u64 g]∧
 Xa Tryz.prog 201 #[.pointer a,.agg #[.int .u64 u,.int .u64 g]] X fun I Y=>
 ∃ v i,I=.agg #[.int .u64 v,.int .u64 i]∧
 ∃ J,Sto Tryz.prog 240 (.pointer (some j)) (.agg #[.int .u64 v,.int .u64 i]) Y J∧
 Xh [] [] U V m [.pointer a,.pointer (some j),.pointer (some y),.slice z A B,.int .i64 k,.int .i64 (IntKind.i64.wrap (c+1))] b J)
 (Wb j y b Q)
def Xfq:Nat→List (Nat×TypeId):=fun n=>match n with | 0=>[(0,187),(4,1000000),(6,1000000),(9,278),(10,3),(11,3)] | _=>[]
theorem XcN (b:Option Addr) (c:Int) (a:Int) (d:Option Addr) (e:Nat) (f:Nat) (w:World) (Q:VWP) (h:Xap b c a d e f w Q):Xa Tryz.prog 181 #[.pointer b,.agg #[.int .u64 c,.int .u64 a],.slice d e f] w Q:=
 Xc Xfq Tryz.func181 h (fun _ _=>by kernel_rfl) (by kernel_rfl) (by kernel_rfl) (by kernel_rfl)
def Zz (B:Inv) (C:JZ) (s:List Value) (t:World) (u:Option Addr) (D:Addr) (E:Addr) (q:Addr) (r:Int) (v:Int) (x:Int) (w:World) (Q:VWP):Prop:=
 ∃ (e:World→Prop),
 Drw w fun d=>
 ∃ f,Pu Tryz.prog (do eqGuard .shr 28 (.tmp 31) (.tmp 32) (.int .u64 v) (.int .i64 (IntKind.i64.wrap (4*(IntKind.i64.wrap (15 - (Int.tmod r 16)))))); binOp .shr 28 (.int .u64 v) (.int .i64 (IntKind.i64.wrap (4*(IntKind.i64.wrap (15 - (Int.tmod r 16)))))):Sem Value) (.int .u64 f)∧
 ∃ g,u=some g∧
 ∃ i,IxA Tryz.prog 254 (.pointer (some (g.add 6))) (.int .i64 r) i∧
 ∃ j,IxA Tryz.prog 253 (.pointer (some i)) (.int .u64 (Zc .u64 f 15)) j∧
 ∃ k a,HLd Tryz.prog e 240 (.pointer (some q)) d (.agg #[.int .u64 k,.int .u64 a])∧
 ∃ l b,Ld Tryz.prog 240 (.pointer (some j)) d (.agg #[.int .u64 l,.int .u64 b])∧
 (d=d∨e d)∧
 ∃ m n o y,Ef Tryz.prog (Instr.buildSlice 278 2 #[(0,.agg #[.int .u64 k,.int .u64 a]),(1,.agg #[.int .u64 l,.int .u64 b])]) d (.slice m n o) y∧
 Xa Tryz.prog 202 #[.slice m n o] y fun z F=>
 ∃ p c,z=.agg #[.int .u64 p,.int .u64 c]∧
 ∃ A,Sto Tryz.prog 240 (.pointer (some q)) (.agg #[.int .u64 p,.int .u64 c]) F A∧
 Xh [] [] B C s [.pointer u,.pointer (some D),.pointer (some E),.pointer (some q),.int .i64 (IntKind.i64.wrap (x+1))] t A
def Vw (e:Addr) (g:Addr) (w:World) (Q:VWP):Prop:=
 ∃ d a,Ld Tryz.prog 240 (.pointer (some g)) w (.agg #[.int .u64 d,.int .u64 a])∧
 ∃ c,Sto Tryz.prog 240 (.pointer (some e)) (.agg #[.int .u64 d,.int .u64 a]) w c∧
 ∃ b f,(.pointer (some e):Value)=.pointer (some b)∧(loadVar 240 b).run Tryz.prog c=.ok f c∧
 Q (f) c
def QB (l:Option Addr) (s:Int) (m:Int) (w:World) (Q:VWP):Prop:=
 New #[.int .u64 s,.int .u64 m] 240 w fun t u=>
 ∃ n,Pu Tryz.prog (zeroValue 240) n∧
 New n.cells 240 u fun v x=>
 ∃ i,l=some i∧
 Xa Tryz.prog 197 #[.pointer (some (i.add 2)),.func (.func 213) #[.pointer l] #[]] x fun o y=>
 o=.tuple #[]∧
 ∃ p,Pu Tryz.prog (zeroValue 240) p∧
 New p.cells 240 y fun z A=>
 LoopS [.pointer l,.pointer (some ⟨t,0,none⟩),.pointer (some ⟨v,0,none⟩),.pointer (some ⟨z,0,none⟩),.int .i64 0] A fun q r d _ a=>
 ∃ c e f g b,d=[.pointer c,.pointer (some e),.pointer (some f),.pointer (some g),.int .i64 b]∧
 cond (decide (b<32))
 (∃ j,Ld Tryz.prog 28 (.pointer (some (e.add 0))) a (.int .u64 j)∧
 cond (decide (b≥16))
 (∃ k,Ld Tryz.prog 28 (.pointer (some (e.add 1))) a (.int .u64 k)∧
 Zz q r d a c e f g b k b a Q)
 (Zz q r d a c e f g b j b a Q))
 (Vw f g a Q)
def Xen:Nat→List (Nat×TypeId):=fun n=>match n with | 0=>[(0,187),(3,1000000),(4,1000000),(5,1000000),(15,3)] | _=>[]
theorem XbP (b:Option Addr) (c:Int) (a:Int) (w:World) (Q:VWP) (h:QB b c a w Q):Xa Tryz.prog 201 #[.pointer b,.agg #[.int .u64 c,.int .u64 a]] w Q:=
 Xc Xen Tryz.func201 h (fun _ _=>by kernel_rfl) (by kernel_rfl) (by kernel_rfl) (by kernel_rfl)
def Xaq (o:Option Addr) (w:World) (Q:VWP):Prop:=
 ∃ p,o=some p∧
 Xa Tryz.prog 41 #[.pointer (some (p.add 5)),.int .i64 1] w fun z q=>
 ∃ A,z=.int .i64 A∧
 ∃ r,o=some r∧
 ∃ i b,Ld Tryz.prog 240 (.pointer (some (r.add 0))) q (.agg #[.int .u64 i,.int .u64 b])∧
 ∃ s,Pu Tryz.prog (zeroValue 240) s∧
 New s.cells 240 q fun t B=>
 ∃ u,Sto Tryz.prog 240 (.pointer (some ⟨t,0,none⟩)) (.agg #[.int .u64 i,.int .u64 b]) B u∧
 LoopS [.pointer o,.pointer (some ⟨t,0,none⟩),.int .i64 0] u fun C D j _ f=>
 ∃ a g c,j=[.pointer a,.pointer (some g),.int .i64 c]∧
 cond (decide (c<32))
 (Drw f fun v=>
 ∃ k,a=some k∧
 ∃ l,IxA Tryz.prog 254 (.pointer (some (k.add 6))) (.int .i64 c) l∧
 ∃ m d,Ld Tryz.prog 240 (.pointer (some g)) v (.agg #[.int .u64 m,.int .u64 d])∧
 Xa Tryz.prog 223 #[.pointer (some l),.agg #[.int .u64 m,.int .u64 d]] v fun x E=>
 ∃ n e,x=.agg #[.int .u64 n,.int .u64 e]∧
 ∃ y,Sto Tryz.prog 240 (.pointer (some g)) (.agg #[.int .u64 n,.int .u64 e]) E y∧
 Xh [] [] C D j [.pointer a,.pointer (some g),.int .i64 (IntKind.i64.wrap (c+1))] f y)
 (Q (.tuple #[]) f)
def Xfr:Nat→List (Nat×TypeId):=fun n=>match n with | 0=>[(0,187),(2,1000000),(12,3)] | _=>[]
theorem XcO (a:Option Addr) (w:World) (Q:VWP) (h:Xaq a w Q):Xa Tryz.prog 213 #[.pointer a] w Q:=
 Xc Xfr Tryz.func213 h (fun _ _=>by kernel_rfl) (by kernel_rfl) (by kernel_rfl) (by kernel_rfl)
def WM (g:Addr) (e:Addr) (w:World) (Q:VWP):Prop:=
 ∃ d a,Ld Tryz.prog 240 (.pointer (some g)) w (.agg #[.int .u64 d,.int .u64 a])∧
 ∃ c,Sto Tryz.prog 240 (.pointer (some e)) (.agg #[.int .u64 d,.int .u64 a]) w c∧
 ∃ b f,(.pointer (some e):Value)=.pointer (some b)∧(loadVar 240 b).run Tryz.prog c=.ok f c∧
 Q (f) c
def WN (E:Option Addr) (F:Addr) (G:Addr) (w:World) (Q:VWP):Prop:=
 LoopS [.pointer E,.pointer (some F),.pointer (some G),.int .i64 0] w fun z A k _ e=>
 ∃ b c d a,k=[.pointer b,.pointer (some c),.pointer (some d),.int .i64 a]∧
 cond (decide (a<16))
 (cond ((Zc .i64 a (IntKind.i64.wrap (0 - a))) != a)
 (∃ (l:World→Prop),
 Drw e fun j=>
 ∃ m,b=some m∧
 ∃ n,IxA Tryz.prog 253 (.pointer (some m)) (.int .i64 (Zc .i64 a (IntKind.i64.wrap (0 - a)))) n∧
 ∃ o,b=some o∧
 ∃ p,IxA Tryz.prog 253 (.pointer (some o)) (.int .i64 (IntKind.i64.wrap (a - (Zc .i64 a (IntKind.i64.wrap (0 - a)))))) p∧
 ∃ q,b=some q∧
 ∃ r f,HLd Tryz.prog l 240 (.pointer (some n)) j (.agg #[.int .u64 r,.int .u64 f])∧
 ∃ s g,Ld Tryz.prog 240 (.pointer (some p)) j (.agg #[.int .u64 s,.int .u64 g])∧
 (j=j∨l j)∧
 ∃ t u v B,Ef Tryz.prog (Instr.buildSlice 278 2 #[(0,.agg #[.int .u64 r,.int .u64 f]),(1,.agg #[.int .u64 s,.int .u64 g])]) j (.slice t u v) B∧
 Xa Tryz.prog 202 #[.slice t u v] B fun C H=>
 ∃ x i,C=.agg #[.int .u64 x,.int .u64 i]∧
 ∃ y,IxA Tryz.prog 253 (.pointer (some q)) (.int .i64 a) y∧
 ∃ D,Sto Tryz.prog 240 (.pointer (some y)) (.agg #[.int .u64 x,.int .u64 i]) H D∧
 Xh [] [] z A k [.pointer b,.pointer (some c),.pointer (some d),.int .i64 (IntKind.i64.wrap (a+1))] e D)
 (Xh [] [] z A k [.pointer b,.pointer (some c),.pointer (some d),.int .i64 (IntKind.i64.wrap (a+1))] e e))
 (WM c d e Q)
def XbQ (v:Option Addr) (x:Int) (o:Int) (w:World) (Q:VWP):Prop:=
 New #[.int .u64 x,.int .u64 o] 240 w fun y z=>
 ∃ r,Pu Tryz.prog (zeroValue 240) r∧
 New r.cells 240 z fun A B=>
 LoopS [.pointer v,.pointer (some ⟨y,0,none⟩),.pointer (some ⟨A,0,none⟩),.int .i64 8] B fun C D i _ f=>
 ∃ a e p g,i=[.pointer a,.pointer (some e),.pointer (some p),.int .i64 g]∧
 cond (decide (g > 0))
 (Drw f fun s=>
 ∃ j,a=some j∧
 ∃ k b,Ld Tryz.prog 240 (.pointer (some e)) s (.agg #[.int .u64 k,.int .u64 b])∧
 ∃ l,IxA Tryz.prog 253 (.pointer (some j)) (.int .i64 g) l∧
 ∃ q,Sto Tryz.prog 240 (.pointer (some l)) (.agg #[.int .u64 k,.int .u64 b]) s q∧
 ∃ m c,Ld Tryz.prog 240 (.pointer (some e)) q (.agg #[.int .u64 m,.int .u64 c])∧
 Xa Tryz.prog 228 #[.agg #[.int .u64 m,.int .u64 c]] q fun t E=>
 ∃ n d,t=.agg #[.int .u64 n,.int .u64 d]∧
 ∃ u,Sto Tryz.prog 240 (.pointer (some e)) (.agg #[.int .u64 n,.int .u64 d]) E u∧
 Xh [] [] C D i [.pointer a,.pointer (some e),.pointer (some p),.int .i64 (Int.fdiv g (2 ^ 1))] f u)
 (WN a e p f Q)
def Xg2:Nat→List (Nat×TypeId):=fun n=>match n with | 0=>[(0,310),(3,1000000),(4,1000000),(5,3)] | 2=>[(0,310),(3,1000000),(4,1000000),(19,3)] | _=>[]
theorem Xeo (b:Option Addr) (c:Int) (a:Int) (w:World) (Q:VWP) (h:XbQ b c a w Q):Xa Tryz.prog 223 #[.pointer b,.agg #[.int .u64 c,.int .u64 a]] w Q:=
 Xc Xg2 Tryz.func223 h (fun _ _=>by kernel_rfl) (by kernel_rfl) (by kernel_rfl) (by kernel_rfl)
end Go.Sh
end

section
namespace Go.Sh
open Go Go.Fw Go.Proofs
set_option maxRecDepth 100000
set_option linter.unusedVariables false
def Xsj (n:Option Addr) (o:Nat) (p:Nat) (w:World) (Q:VWP):Prop:=
 Xa Tryz.prog 106 #[.slice n o p] w fun q r=>
 ∃ a b,q=.tuple #[.pointer a,.int .i64 b]∧
 cond (b != 0)
 (Q (.tuple #[.pointer none,.int .i64 b]) r)
 (∃ c d e s,Ef Tryz.prog (Instr.makeSlice 22 (.int .i64 16) (.int .i64 16)) r (.slice c d e) s∧
 Xa Tryz.prog 107 #[.pointer a,.slice c d e] s fun t A=>
 ∃ f g i u,t=.tuple #[.slice f g i,.int .i64 u]∧
 Xa Tryz.prog 108 #[.slice f g i] A fun v B=>
 ∃ j x,v=.tuple #[.pointer j,.int .i64 x]∧
 Xa Tryz.prog 60 #[.slice n o p] B fun y C=>
 ∃ k l m,y=.slice k l m∧
 New #[.slice k l m,.pointer a,.pointer j,.int .i64 0] 191 C fun z D=>
 Q (.tuple #[.pointer (some ⟨z,0,none⟩),.int .i64 0]) D)
def Xtg:Nat→List (Nat×TypeId):=fun _=>[]
theorem XpV (a:Option Addr) (b:Nat) (c:Nat) (w:World) (Q:VWP) (h:Xsj a b c w Q):Xa Tryz.prog 69 #[.slice a b c] w Q:=
 Xc Xtg Tryz.func69 h (fun _ _=>by kernel_rfl) (by kernel_rfl) (by kernel_rfl) (by kernel_rfl)
def Xfs (E:Option Addr) (F:Option Addr) (G:Nat) (H:Nat) (c:Option Addr) (a:Nat) (d:Nat) (J:Option Addr) (L:Nat) (M:Nat) (w:World) (Q:VWP):Prop:=
 ∃ e,Pu Tryz.prog (Builtin.max_ #[3,3] 3 #[.int .i64 (IntKind.i64.wrap (((a:Nat):Int) - 16)),.int .i64 0]) (.int .i64 e)∧
 ∃ f g i,Pu Tryz.prog (Instr.sliceAt 22 (.slice c a d) none (some (.int .i64 e)) none) (.slice f g i)∧
 ∃ j k l N,Ef Tryz.prog (Instr.buildSlice 161 2 #[(0,.slice f g i),(1,.slice J L M)]) w (.slice j k l) N∧
 Xa Tryz.prog 115 #[.slice F G H,.slice j k l] N fun O I=>
 ∃ b,O=.int .i64 b∧
 cond (b != 0)
 (Q (.tuple #[.slice none 0 0,.int .i64 b]) I)
 (cond (decide ((IntKind.i64.wrap (((a:Nat):Int) - 16))<0))
 (Q (.tuple #[.slice none 0 0,.int .i64 12]) I)
 (∃ m n o,Pu Tryz.prog (Instr.sliceAt 22 (.slice c a d) none (some (.int .i64 (IntKind.i64.wrap (((a:Nat):Int) - 16)))) none) (.slice m n o)∧
 Xa Tryz.prog 116 #[.pointer E,.slice F G H,.slice m n o,.slice J L M] I fun P X=>
 ∃ p q r R,P=.tuple #[.slice p q r,.int .i64 R]∧
 ∃ s t u,Pu Tryz.prog (Instr.sliceAt 22 (.slice c a d) (some (.int .i64 (IntKind.i64.wrap (((a:Nat):Int) - 16)))) none none) (.slice s t u)∧
 Xa Tryz.prog 51 #[.slice p q r,.slice s t u] X fun S T=>
 ∃ v,S=.bool v∧
 cond (!v)
 (∃ x,E=some x∧
 Xa Tryz.prog 41 #[.pointer (some (x.add 3)),.int .i64 1] T fun U Y=>
 ∃ V,U=.int .i64 V∧
 Q (.tuple #[.slice none 0 0,.int .i64 13]) Y)
 (∃ y z A,Pu Tryz.prog (Instr.sliceAt 22 (.slice c a d) none (some (.int .i64 (IntKind.i64.wrap (((a:Nat):Int) - 16)))) none) (.slice y z A)∧
 Xa Tryz.prog 117 #[.pointer E,.slice F G H,.slice y z A] T fun W Z=>
 ∃ B C D,W=.slice B C D∧
 Q (.tuple #[.slice B C D,.int .i64 0]) Z)))
def XjV:Nat→List (Nat×TypeId):=fun _=>[]
theorem Xg3 (a:Option Addr) (b:Option Addr) (c:Nat) (d:Nat) (e:Option Addr) (f:Nat) (g:Nat) (i:Option Addr) (j:Nat) (k:Nat) (w:World) (Q:VWP) (h:Xfs a b c d e f g i j k w Q):Xa Tryz.prog 76 #[.pointer a,.slice b c d,.slice e f g,.slice i j k] w Q:=
 Xc XjV Tryz.func76 h (fun _ _=>by kernel_rfl) (by kernel_rfl) (by kernel_rfl) (by kernel_rfl)
def Xft (u:Option Addr) (r:Option Addr) (s:Nat) (t:Nat) (v:Option Addr) (x:Nat) (y:Nat) (z:Option Addr) (A:Nat) (B:Nat) (w:World) (Q:VWP):Prop:=
 ∃ e f g C,Ef Tryz.prog (Instr.buildSlice 161 2 #[(0,.slice v x y),(1,.slice z A B)]) w (.slice e f g) C∧
 Xa Tryz.prog 115 #[.slice r s t,.slice e f g] C fun D E=>
 ∃ a,D=.int .i64 a∧
 cond (a != 0)
 (Q (.tuple #[.slice none 0 0,.int .i64 a]) E)
 (Xa Tryz.prog 117 #[.pointer u,.slice r s t,.slice v x y] E fun F L=>
 ∃ b c d,F=.slice b c d∧
 Xa Tryz.prog 116 #[.pointer u,.slice r s t,.slice b c d,.slice z A B] L fun G M=>
 ∃ i j k H,G=.tuple #[.slice i j k,.int .i64 H]∧
 ∃ l m n I,Ef Tryz.prog (Instr.buildSlice 161 2 #[(0,.slice b c d),(1,.slice i j k)]) M (.slice l m n) I∧
 Xa Tryz.prog 118 #[.slice l m n] I fun J N=>
 ∃ o p q,J=.slice o p q∧
 Q (.tuple #[.slice o p q,.int .i64 0]) N)
def XjW:Nat→List (Nat×TypeId):=fun _=>[]
theorem Xg4 (a:Option Addr) (b:Option Addr) (c:Nat) (d:Nat) (e:Option Addr) (f:Nat) (g:Nat) (i:Option Addr) (j:Nat) (k:Nat) (w:World) (Q:VWP) (h:Xft a b c d e f g i j k w Q):Xa Tryz.prog 92 #[.pointer a,.slice b c d,.slice e f g,.slice i j k] w Q:=
 Xc XjW Tryz.func92 h (fun _ _=>by kernel_rfl) (by kernel_rfl) (by kernel_rfl) (by kernel_rfl)
def XmJ (i:Option Addr) (d:Nat) (j:Nat) (e:Option Addr) (f:Nat) (g:Nat) (w:World) (Q:VWP):Prop:=
 cond (((d:Nat):Int) != 12)
 (Q (.int .i64 11) w)
 (Xa Tryz.prog 151 #[.slice e f g,.func (.func 150) #[] #[]] w fun b c=>
 ∃ a,b=.bool a∧
 cond a
 (Q (.int .i64 11) c)
 (Q (.int .i64 0) c))
def XpW:Nat→List (Nat×TypeId):=fun _=>[]
theorem XlR (a:Option Addr) (b:Nat) (c:Nat) (d:Option Addr) (e:Nat) (f:Nat) (w:World) (Q:VWP) (h:XmJ a b c d e f w Q):Xa Tryz.prog 115 #[.slice a b c,.slice d e f] w Q:=
 Xc XpW Tryz.func115 h (fun _ _=>by kernel_rfl) (by kernel_rfl) (by kernel_rfl) (by kernel_rfl)
def XhA (z:Option Addr) (A:Option Addr) (B:Nat) (C:Nat) (D:Option Addr) (E:Nat) (F:Nat) (G:Option Addr) (H:Nat) (I:Nat) (w:World) (Q:VWP):Prop:=
 ∃ b c d J,Ef Tryz.prog (Instr.buildSlice 161 2 #[(0,.slice D E F),(1,.slice G H I)]) w (.slice b c d) J∧
 Xa Tryz.prog 115 #[.slice A B C,.slice b c d] J fun L M=>
 ∃ a,L=.int .i64 a∧
 cond (a != 0)
 (Q (.tuple #[.slice none 0 0,.int .i64 a]) M)
 (∃ (N:World→Prop),
 Drw M fun x=>
 ∃ e,z=some e∧
 ∃ f,HLd Tryz.prog N 183 (.pointer (some (e.add 1))) x (.pointer f)∧
 Xa Tryz.prog 152 #[.slice A B C] x fun O y=>
 ∃ g i j,O=.slice g i j∧
 (y=x∨N y)∧
 Xa Tryz.prog 107 #[.pointer f,.slice g i j] y fun P R=>
 ∃ k l m S,P=.tuple #[.slice k l m,.int .i64 S]∧
 ∃ n,z=some n∧
 ∃ o,Ld Tryz.prog 187 (.pointer (some (n.add 2))) R (.pointer o)∧
 Xa Tryz.prog 154 #[.pointer o,.slice G H I,.slice D E F] R fun T V=>
 ∃ p q r,T=.slice p q r∧
 Xa Tryz.prog 153 #[.slice p q r,.slice k l m] V fun U W=>
 ∃ s t u v,U=.tuple #[.slice s t u,.int .i64 v]∧
 Q (.tuple #[.slice s t u,.int .i64 v]) W)
def XlS:Nat→List (Nat×TypeId):=fun _=>[]
theorem Xiv (a:Option Addr) (b:Option Addr) (c:Nat) (d:Nat) (e:Option Addr) (f:Nat) (g:Nat) (i:Option Addr) (j:Nat) (k:Nat) (w:World) (Q:VWP) (h:XhA a b c d e f g i j k w Q):Xa Tryz.prog 116 #[.pointer a,.slice b c d,.slice e f g,.slice i j k] w Q:=
 Xc XlS Tryz.func116 h (fun _ _=>by kernel_rfl) (by kernel_rfl) (by kernel_rfl) (by kernel_rfl)
def Xfu (u:Option Addr) (v:Option Addr) (x:Nat) (y:Nat) (z:Option Addr) (A:Nat) (B:Nat) (w:World) (Q:VWP):Prop:=
 Xa Tryz.prog 152 #[.slice v x y] w fun o C=>
 ∃ a b c,o=.slice a b c∧
 Xa Tryz.prog 155 #[.slice a b c] C fun p q=>
 ∃ d e f r,p=.tuple #[.slice d e f,.int .i64 r]∧
 ∃ g,u=some g∧
 ∃ i j k,Ld Tryz.prog 22 (.pointer (some (g.add 0))) q (.slice i j k)∧
 Xa Tryz.prog 156 #[.slice i j k,.slice d e f,.slice z A B] q fun s D=>
 ∃ l m n t,s=.tuple #[.slice l m n,.int .i64 t]∧
 Q (.slice l m n) D
def XjX:Nat→List (Nat×TypeId):=fun _=>[]
theorem Xg5 (a:Option Addr) (b:Option Addr) (c:Nat) (d:Nat) (e:Option Addr) (f:Nat) (g:Nat) (w:World) (Q:VWP) (h:Xfu a b c d e f g w Q):Xa Tryz.prog 117 #[.pointer a,.slice b c d,.slice e f g] w Q:=
 Xc XjX Tryz.func117 h (fun _ _=>by kernel_rfl) (by kernel_rfl) (by kernel_rfl) (by kernel_rfl)
def Xfv (b:Option Addr) (a:Nat) (c:Nat) (w:World) (Q:VWP):Prop:=
 Q (.bool (decide (((a:Nat):Int) > 65535))) w
def XjY:Nat→List (Nat×TypeId):=fun _=>[]
theorem Xg6 (a:Option Addr) (b:Nat) (c:Nat) (w:World) (Q:VWP) (h:Xfv a b c w Q):Xa Tryz.prog 150 #[.slice a b c] w Q:=
 Xc XjY Tryz.func150 h (fun _ _=>by kernel_rfl) (by kernel_rfl) (by kernel_rfl) (by kernel_rfl)
def XmK (m:Option Addr) (n:Nat) (o:Nat) (w:World) (Q:VWP):Prop:=
 Xa Tryz.prog 159 #[.int .u64 1,.int .i64 4] w fun p q=>
 ∃ g i j r,p=.tuple #[.slice g i j,.int .i64 r]∧
 ∃ a b c k,Ef Tryz.prog (Instr.buildSlice 161 2 #[(0,.slice m n o),(1,.slice g i j)]) q (.slice a b c) k∧
 Xa Tryz.prog 118 #[.slice a b c] k fun l s=>
 ∃ d e f,l=.slice d e f∧
 Q (.slice d e f) s
def XpX:Nat→List (Nat×TypeId):=fun _=>[]
theorem XlT (a:Option Addr) (b:Nat) (c:Nat) (w:World) (Q:VWP) (h:XmK a b c w Q):Xa Tryz.prog 152 #[.slice a b c] w Q:=
 Xc XpX Tryz.func152 h (fun _ _=>by kernel_rfl) (by kernel_rfl) (by kernel_rfl) (by kernel_rfl)
end Go.Sh
end

section
namespace Go.Sh
open Go Go.Fw Go.Proofs
set_option maxRecDepth 100000
set_option linter.unusedVariables false
def XdJ (s:Option Addr) (t:Int) (w:World) (Q:VWP):Prop:=
 Xa Tryz.prog 59 #[.pointer s,.int .i64 t] w fun o u=>
 ∃ b c a d e f,o=.tuple #[.agg #[.pointer b,.int .i64 c,.slice a d e],.bool f]∧
 ∃ p,Pu Tryz.prog (zeroValue 133) p∧
 New p.cells 133 u fun q v=>
 ∃ n,Sto Tryz.prog 133 (.pointer (some ⟨q,0,none⟩)) (.agg #[.pointer b,.int .i64 c,.slice a d e]) v n∧
 ∃ g i j,Ld Tryz.prog 22 (.pointer (some ((⟨q,0,none⟩:Addr).add 2))) n (.slice g i j)∧
 Xa Tryz.prog 60 #[.slice g i j] n fun r x=>
 ∃ k l m,r=.slice k l m∧
 Q (.tuple #[.slice k l m,.bool f]) x
def Xiw:Nat→List (Nat×TypeId):=fun _=>[]
theorem Xfw (a:Option Addr) (b:Int) (w:World) (Q:VWP) (h:XdJ a b w Q):Xa Tryz.prog 30 #[.pointer a,.int .i64 b] w Q:=
 Xc Xiw Tryz.func30 h (fun _ _=>by kernel_rfl) (by kernel_rfl) (by kernel_rfl) (by kernel_rfl)
def QC (k:Option Addr) (w:World) (Q:VWP):Prop:=
 ∃ l,k=some l∧
 ∃ q m r,Ld Tryz.prog 138 (.pointer (some (l.add 0))) w (.slice q m r)∧
 cond (((m:Nat):Int) == 0)
 (Q (.tuple #[.int .i64 0,.bool false]) w)
 (∃ (n:World→Prop),
 Drw w fun a=>
 ∃ b,k=some b∧
 ∃ c,k=some c∧
 ∃ d e f,HLd Tryz.prog n 138 (.pointer (some (b.add 0))) a (.slice d e f)∧
 ∃ o g p,Ld Tryz.prog 138 (.pointer (some (c.add 0))) a (.slice o g p)∧
 (a=a∨n a)∧
 ∃ i,IxA Tryz.prog 138 (.slice d e f) (.int .i64 (IntKind.i64.wrap (((g:Nat):Int) - 1))) i∧
 ∃ j,Ld Tryz.prog 3 (.pointer (some (i.add 1))) a (.int .i64 j)∧
 Q (.tuple #[.int .i64 j,.bool true]) a)
def Xep:Nat→List (Nat×TypeId):=fun _=>[]
theorem XbR (a:Option Addr) (w:World) (Q:VWP) (h:QC a w Q):Xa Tryz.prog 32 #[.pointer a] w Q:=
 Xc Xep Tryz.func32 h (fun _ _=>by kernel_rfl) (by kernel_rfl) (by kernel_rfl) (by kernel_rfl)
def Ve (t:Option Addr) (y:Int) (z:Option Addr) (A:Nat) (B:Nat) (D:Int) (C:Option Addr) (w:World) (Q:VWP):Prop:=
 ∃ (r:World→Prop),
 Drw w fun s=>
 ∃ c,t=some c∧
 ∃ d e f,HLd Tryz.prog r 138 (.pointer (some (c.add 0))) s (.slice d e f)∧
 Xa Tryz.prog 60 #[.slice z A B] s fun u a=>
 ∃ g i j,u=.slice g i j∧
 (a=s∨r a)∧
 ∃ k l m b,Ef Tryz.prog (Instr.buildSlice 138 1 #[(0,.agg #[.pointer C,.int .i64 y,.slice g i j])]) a (.slice k l m) b∧
 (b=a∨r b)∧
 ∃ n o p v,Ef Tryz.prog (Builtin.append_ #[138,138] 138 #[.slice d e f,.slice k l m]) b (.slice n o p) v∧
 ∃ q,t=some q∧
 ∃ x,Sto Tryz.prog 138 (.pointer (some (q.add 0))) (.slice n o p) v x∧
 Q (.int .i64 0) x
def Yg (e:Option Addr) (f:Int) (l:Option Addr) (m:Nat) (n:Nat) (o:Int) (p:Option Addr) (g:Bool) (w:World) (Q:VWP):Prop:=
 cond g
 (Q (.int .i64 11) w)
 (Xa Tryz.prog 70 #[.pointer e,.int .i64 f] w fun i a=>
 ∃ b,i=.int .i64 b∧
 cond (decide (b≥0))
 (Q (.int .i64 16) a)
 (∃ c,e=some c∧
 ∃ j d k,Ld Tryz.prog 138 (.pointer (some (c.add 0))) a (.slice j d k)∧
 cond (decide (((d:Nat):Int)≥16))
 (Q (.int .i64 18) a)
 (Ve e f l m n o p a Q)))
def WO (g:Option Addr) (b:Int) (c:Option Addr) (d:Nat) (e:Nat) (w:World) (Q:VWP):Prop:=
 Xa Tryz.prog 69 #[.slice c d e] w fun j i=>
 ∃ a f,j=.tuple #[.pointer a,.int .i64 f]∧
 cond (decide (b<0))
 (Yg g b c d e 0 a true i Q)
 (cond (decide (b > 127))
 (Yg g b c d e 0 a true i Q)
 (Yg g b c d e 0 a (f != 0) i Q))
def XcP:Nat→List (Nat×TypeId):=fun _=>[]
theorem Xa6 (a:Option Addr) (b:Int) (c:Option Addr) (d:Nat) (e:Nat) (w:World) (Q:VWP) (h:WO a b c d e w Q):Xa Tryz.prog 38 #[.pointer a,.int .i64 b,.slice c d e] w Q:=
 Xc XcP Tryz.func38 h (fun _ _=>by kernel_rfl) (by kernel_rfl) (by kernel_rfl) (by kernel_rfl)
def XpY  (w:World) (Q:VWP):Prop:=
 New #[.slice none 0 0] 140 w fun a b=>
 Q (.pointer (some ⟨a,0,none⟩)) b
def XrF:Nat→List (Nat×TypeId):=fun _=>[]
theorem XnV  (w:World) (Q:VWP) (h:XpY  w Q):Xa Tryz.prog 39 #[] w Q:=
 Xc XrF Tryz.func39 h (fun _ _=>by kernel_rfl) (by kernel_rfl) (by kernel_rfl) (by kernel_rfl)
def Xfx (s:Option Addr) (x:Int) (w:World) (Q:VWP):Prop:=
 ∃ t,Pu Tryz.prog (zeroValue 133) t∧
 New t.cells 133 w fun d y=>
 Xa Tryz.prog 70 #[.pointer s,.int .i64 x] y fun z e=>
 ∃ r,z=.int .i64 r∧
 cond (decide (r≥0))
 (∃ i,s=some i∧
 ∃ j k l,Ld Tryz.prog 138 (.pointer (some (i.add 0))) e (.slice j k l)∧
 ∃ m,IxA Tryz.prog 138 (.slice j k l) (.int .i64 r) m∧
 ∃ n o a p q,Ld Tryz.prog 133 (.pointer (some m)) e (.agg #[.pointer n,.int .i64 o,.slice a p q])∧
 ∃ f,Sto Tryz.prog 133 (.pointer (some ⟨d,0,none⟩)) (.agg #[.pointer n,.int .i64 o,.slice a p q]) e f∧
 ∃ u v,(.pointer (some ⟨d,0,none⟩):Value)=.pointer (some u)∧(loadVar 133 u).run Tryz.prog f=.ok v f∧
 Q (.tuple #[v,.bool true]) f)
 (∃ g,Sto Tryz.prog 133 (.pointer (some ⟨d,0,none⟩)) (.agg #[.pointer none,.int .i64 0,.slice none 0 0]) e g∧
 ∃ b c,(.pointer (some ⟨d,0,none⟩):Value)=.pointer (some b)∧(loadVar 133 b).run Tryz.prog g=.ok c g∧
 Q (.tuple #[c,.bool false]) g)
def XjZ:Nat→List (Nat×TypeId):=fun _=>[]
theorem Xg7 (a:Option Addr) (b:Int) (w:World) (Q:VWP) (h:Xfx a b w Q):Xa Tryz.prog 59 #[.pointer a,.int .i64 b] w Q:=
 Xc XjZ Tryz.func59 h (fun _ _=>by kernel_rfl) (by kernel_rfl) (by kernel_rfl) (by kernel_rfl)
def Xar (i:Option Addr) (w:World) (Q:VWP):Prop:=
 ∃ a,i=some a∧
 ∃ b c d,Ld Tryz.prog 138 (.pointer (some (a.add 0))) w (.slice b c d)∧
 Xa Tryz.prog 105 #[.slice b c d] w fun j k=>
 ∃ e f g,j=.slice e f g∧
 New #[.slice e f g] 140 k fun l m=>
 Q (.pointer (some ⟨l,0,none⟩)) m
def Xfy:Nat→List (Nat×TypeId):=fun _=>[]
theorem XcQ (a:Option Addr) (w:World) (Q:VWP) (h:Xar a w Q):Xa Tryz.prog 67 #[.pointer a] w Q:=
 Xc Xfy Tryz.func67 h (fun _ _=>by kernel_rfl) (by kernel_rfl) (by kernel_rfl) (by kernel_rfl)
def XbS (i:Option Addr) (j:Int) (w:World) (Q:VWP):Prop:=
 New #[.int .i64 j] 3 w fun k b=>
 ∃ c,i=some c∧
 ∃ d e f,Ld Tryz.prog 138 (.pointer (some (c.add 0))) b (.slice d e f)∧
 Xa Tryz.prog 109 #[.slice d e f,.func (.func 110) #[] #[.pointer (some ⟨k,0,none⟩)]] b fun g l=>
 ∃ a,g=.int .i64 a∧
 Q (.int .i64 a) l
def Xg8:Nat→List (Nat×TypeId):=fun _=>[]
theorem Xeq (a:Option Addr) (b:Int) (w:World) (Q:VWP) (h:XbS a b w Q):Xa Tryz.prog 70 #[.pointer a,.int .i64 b] w Q:=
 Xc Xg8 Tryz.func70 h (fun _ _=>by kernel_rfl) (by kernel_rfl) (by kernel_rfl) (by kernel_rfl)
def XdK (m:Option Addr) (n:Int) (w:World) (Q:VWP):Prop:=
 Xa Tryz.prog 59 #[.pointer m,.int .i64 n] w fun j o=>
 ∃ b c a d e f,j=.tuple #[.agg #[.pointer b,.int .i64 c,.slice a d e],.bool f]∧
 ∃ k,Pu Tryz.prog (zeroValue 133) k∧
 New k.cells 133 o fun l p=>
 ∃ i,Sto Tryz.prog 133 (.pointer (some ⟨l,0,none⟩)) (.agg #[.pointer b,.int .i64 c,.slice a d e]) p i∧
 ∃ g,Ld Tryz.prog 131 (.pointer (some ((⟨l,0,none⟩:Addr).add 0))) i (.pointer g)∧
 Q (.tuple #[.pointer g,.bool f]) i
def Xix:Nat→List (Nat×TypeId):=fun _=>[]
theorem Xfz (a:Option Addr) (b:Int) (w:World) (Q:VWP) (h:XdK a b w Q):Xa Tryz.prog 75 #[.pointer a,.int .i64 b] w Q:=
 Xc Xix Tryz.func75 h (fun _ _=>by kernel_rfl) (by kernel_rfl) (by kernel_rfl) (by kernel_rfl)
def Vx (j:Option Addr) (o:Int) (k:Int) (w:World) (Q:VWP):Prop:=
 ∃ a,j=some a∧
 ∃ b c d,Ld Tryz.prog 138 (.pointer (some (a.add 0))) w (.slice b c d)∧
 Xa Tryz.prog 129 #[.slice b c d,.int .i64 k,.int .i64 (IntKind.i64.wrap (k+1))] w fun l n=>
 ∃ e f g,l=.slice e f g∧
 ∃ i,j=some i∧
 ∃ m,Sto Tryz.prog 138 (.pointer (some (i.add 0))) (.slice e f g) n m∧
 Q (.int .i64 0) m
def ZA (b:Option Addr) (c:Int) (a:Int) (d:Bool) (w:World) (Q:VWP):Prop:=
 cond d
 (Q (.int .i64 11) w)
 (cond (decide (a<0))
 (Q (.int .i64 17) w)
 (Vx b c a w Q))
def QD (a:Option Addr) (b:Int) (w:World) (Q:VWP):Prop:=
 Xa Tryz.prog 70 #[.pointer a,.int .i64 b] w fun e d=>
 ∃ c,e=.int .i64 c∧
 cond (decide (b<0))
 (ZA a 0 c true d Q)
 (ZA a 0 c (decide (b > 127)) d Q)
def Xer:Nat→List (Nat×TypeId):=fun _=>[]
theorem XbT (a:Option Addr) (b:Int) (w:World) (Q:VWP) (h:QD a b w Q):Xa Tryz.prog 96 #[.pointer a,.int .i64 b] w Q:=
 Xc Xer Tryz.func96 h (fun _ _=>by kernel_rfl) (by kernel_rfl) (by kernel_rfl) (by kernel_rfl)
def WP (e:Option Addr) (f:Int) (a:Option Addr) (g:Nat) (i:Nat) (j:Option Addr) (w:World) (Q:VWP):Prop:=
 New #[.pointer e,.int .i64 f,.slice a g i] 133 w fun k b=>
 ∃ c,Ld Tryz.prog 3 (.pointer (some ((⟨k,0,none⟩:Addr).add 1))) b (.int .i64 c)∧
 ∃ d,Ld Tryz.prog 3 (.pointer j) b (.int .i64 d)∧
 Q (.bool (c == d)) b
def XcR:Nat→List (Nat×TypeId):=fun _=>[]
theorem Xa7 (b:Option Addr) (c:Int) (a:Option Addr) (d:Nat) (e:Nat) (f:Option Addr) (w:World) (Q:VWP) (h:WP b c a d e f w Q):Xa Tryz.prog 110 #[.agg #[.pointer b,.int .i64 c,.slice a d e],.pointer f] w Q:=
 Xc XcR Tryz.func110 h (fun _ _=>by kernel_rfl) (by kernel_rfl) (by kernel_rfl) (by kernel_rfl)
end Go.Sh
end

section
namespace Go.Sh
open Go Go.Fw Go.Proofs
set_option maxRecDepth 100000
set_option linter.unusedVariables false
def UY (c:Option Addr) (D:Int) (J:Option Addr) (L:Nat) (M:Nat) (N:Int) (w:World) (Q:VWP):Prop:=
 Xa Tryz.prog 128 #[.pointer c,.int .i64 D] w fun E d=>
 ∃ g,E=.int .i64 g∧
 cond (decide (g≥0))
 (Q (.int .i64 16) d)
 (∃ i,c=some i∧
 ∃ F j G,Ld Tryz.prog 116 (.pointer (some (i.add 0))) d (.slice F j G)∧
 cond (((j:Nat):Int) == 16)
 (Q (.int .i64 18) d)
 (∃ (e:World→Prop),
 Drw d fun C=>
 ∃ k,c=some k∧
 ∃ l m n,HLd Tryz.prog e 116 (.pointer (some (k.add 0))) C (.slice l m n)∧
 ∃ o p q a,Ef Tryz.prog (Instr.buildSlice 22 0 #[]) C (.slice o p q) a∧
 (a=C∨e a)∧
 ∃ r s t b,Ef Tryz.prog (Builtin.append_ #[22,22] 22 #[.slice o p q,.slice J L M]) a (.slice r s t) b∧
 (b=a∨e b)∧
 ∃ u v x f,Ef Tryz.prog (Instr.buildSlice 116 1 #[(0,.agg #[.int .i64 D,.slice r s t])]) b (.slice u v x) f∧
 (f=b∨e f)∧
 ∃ y z A H,Ef Tryz.prog (Builtin.append_ #[116,116] 116 #[.slice l m n,.slice u v x]) f (.slice y z A) H∧
 ∃ B,c=some B∧
 ∃ I,Sto Tryz.prog 116 (.pointer (some (B.add 0))) (.slice y z A) H I∧
 Q (.int .i64 0) I))
def Wc (c:Option Addr) (a:Int) (d:Option Addr) (b:Nat) (e:Nat) (w:World) (Q:VWP):Prop:=
 cond (decide (a<0))
 (Q (.int .i64 11) w)
 (cond (decide (a > 127))
 (Q (.int .i64 11) w)
 (cond (((b:Nat):Int) != 16)
 (Q (.int .i64 11) w)
 (UY c a d b e 0 w Q)))
def XbU:Nat→List (Nat×TypeId):=fun _=>[]
theorem Q4 (a:Option Addr) (b:Int) (c:Option Addr) (d:Nat) (e:Nat) (w:World) (Q:VWP) (h:Wc a b c d e w Q):Xa Tryz.prog 95 #[.pointer a,.int .i64 b,.slice c d e] w Q:=
 Xc XbU Tryz.func95 h (fun _ _=>by kernel_rfl) (by kernel_rfl) (by kernel_rfl) (by kernel_rfl)
def Vf (c:Option Addr) (L:Int) (M:Int) (w:World) (Q:VWP):Prop:=
 Xa Tryz.prog 128 #[.pointer c,.int .i64 L] w fun G H=>
 ∃ a,G=.int .i64 a∧
 cond (decide (a<0))
 (Q (.int .i64 17) H)
 (∃ (d:World→Prop),
 Drw H fun e=>
 ∃ g,c=some g∧
 ∃ i,c=some i∧
 ∃ j k l,HLd Tryz.prog d 116 (.pointer (some (g.add 0))) e (.slice j k l)∧
 ∃ m n o,Pu Tryz.prog (Instr.sliceAt 116 (.slice j k l) none (some (.int .i64 a)) none) (.slice m n o)∧
 ∃ p q r,HLd Tryz.prog d 116 (.pointer (some (i.add 0))) e (.slice p q r)∧
 ∃ s t u,Pu Tryz.prog (Instr.sliceAt 116 (.slice p q r) (some (.int .i64 (IntKind.i64.wrap (a+1)))) none none) (.slice s t u)∧
 ∃ v x y b,Ef Tryz.prog (Instr.buildSlice 116 0 #[]) e (.slice v x y) b∧
 (b=e∨d b)∧
 ∃ z A B f,Ef Tryz.prog (Builtin.append_ #[116,116] 116 #[.slice v x y,.slice m n o]) b (.slice z A B) f∧
 (f=b∨d f)∧
 ∃ C D E I,Ef Tryz.prog (Builtin.append_ #[116,116] 116 #[.slice z A B,.slice s t u]) f (.slice C D E) I∧
 ∃ F,c=some F∧
 ∃ J,Sto Tryz.prog 116 (.pointer (some (F.add 0))) (.slice C D E) I J∧
 Q (.int .i64 0) J)
def WQ (b:Option Addr) (a:Int) (w:World) (Q:VWP):Prop:=
 cond (decide (a<0))
 (Q (.int .i64 11) w)
 (cond (decide (a > 127))
 (Q (.int .i64 11) w)
 (Vf b a 0 w Q))
def XcS:Nat→List (Nat×TypeId):=fun _=>[]
theorem Xa8 (a:Option Addr) (b:Int) (w:World) (Q:VWP) (h:WQ a b w Q):Xa Tryz.prog 97 #[.pointer a,.int .i64 b] w Q:=
 Xc XcS Tryz.func97 h (fun _ _=>by kernel_rfl) (by kernel_rfl) (by kernel_rfl) (by kernel_rfl)
def Xas (r:Option Addr) (s:Int) (w:World) (Q:VWP):Prop:=
 LoopS [.pointer r,.int .i64 s,.int .i64 0,.int .i64 0] w fun t u e _ a=>
 ∃ b c n d,e=[.pointer b,.int .i64 c,.int .i64 n,.int .i64 d]∧
 ∃ o,b=some o∧
 ∃ p f q,Ld Tryz.prog 116 (.pointer (some (o.add 0))) a (.slice p f q)∧
 cond (decide (d<((f:Nat):Int)))
 (∃ g,b=some g∧
 ∃ i j k,Ld Tryz.prog 116 (.pointer (some (g.add 0))) a (.slice i j k)∧
 ∃ l,IxA Tryz.prog 116 (.slice i j k) (.int .i64 d) l∧
 ∃ m,Ld Tryz.prog 3 (.pointer (some (l.add 0))) a (.int .i64 m)∧
 cond (m == c)
 (Q (.int .i64 d) a)
 (Xh [] [] t u e [.pointer b,.int .i64 c,.int .i64 n,.int .i64 (IntKind.i64.wrap (d+1))] a a))
 (Q (.int .i64 (-1)) a)
def XfA:Nat→List (Nat×TypeId):=fun n=>match n with | 0=>[(0,94),(1,3),(4,3),(5,3)] | _=>[]
theorem XcT (a:Option Addr) (b:Int) (w:World) (Q:VWP) (h:Xas a b w Q):Xa Tryz.prog 128 #[.pointer a,.int .i64 b] w Q:=
 Xc XfA Tryz.func128 h (fun _ _=>by kernel_rfl) (by kernel_rfl) (by kernel_rfl) (by kernel_rfl)
end Go.Sh
end

section
namespace Go.Sh
open Go Go.Fw Go.Proofs
set_option maxRecDepth 100000
set_option linter.unusedVariables false
def JH (n:Bool) (o:Option Addr) (p:Nat) (q:Nat) (r:Bool) (w:World) (Q:VWP):Prop:=
 LoopS [.bool n,.slice o p q,.bool r,.int .i64 0] w fun s t i _ e=>
 ∃ f b a c d g,i=[.bool f,.slice b a c,.bool d,.int .i64 g]∧
 cond (decide (g<((a:Nat):Int)))
 (∃ j,IxA Tryz.prog 22 (.slice b a c) (.int .i64 g) j∧
 ∃ k,Ld Tryz.prog 5 (.pointer (some j)) e (.int .u8 k)∧
 ∃ l,IxA Tryz.prog 22 (.slice b a c) (.int .i64 g) l∧
 ∃ m,Sto Tryz.prog 5 (.pointer (some l)) (.int .u8 (IntKind.u8.wrap (k+1))) e m∧
 Xh [] [] s t i [.bool f,.slice b a c,.bool d,.int .i64 (IntKind.i64.wrap (g+1))] e m)
 (Q (.bool d) e)
def XpZ (D:Option Addr) (E:Option Addr) (M:Int) (z:Int) (N:Option Addr) (O:Nat) (P:Nat) (w:World) (Q:VWP):Prop:=
 New #[.int .i64 M,.int .i64 z,.slice N O P] 129 w fun d F=>
 ∃ k l m,Ld Tryz.prog 22 (.pointer (some ((⟨d,0,none⟩:Addr).add 2))) F (.slice k l m)∧
 Xa Tryz.prog 19 #[.slice k l m] F fun G g=>
 ∃ a b c,G=.slice a b c∧
 ∃ e,Ld Tryz.prog 3 (.pointer (some ((⟨d,0,none⟩:Addr).add 0))) g (.int .i64 e)∧
 cond (e == 0)
 (∃ (i:World→Prop),
 Drw g fun f=>
 ∃ n,HLd Tryz.prog i 3 (.pointer (some ((⟨d,0,none⟩:Addr).add 1))) f (.int .i64 n)∧
 ∃ o,HLd Tryz.prog i 3 (.pointer (some ((⟨d,0,none⟩:Addr).add 1))) f (.int .i64 o)∧
 ∃ p q r,HLd Tryz.prog i 22 (.pointer (some ((⟨d,0,none⟩:Addr).add 2))) f (.slice p q r)∧
 Xa Tryz.prog 38 #[.pointer D,.int .i64 n,.slice a b c] f fun H A=>
 ∃ s,H=.int .i64 s∧
 (A=f∨i A)∧
 Xa Tryz.prog 95 #[.pointer E,.int .i64 o,.slice p q r] A fun I R=>
 ∃ t,I=.int .i64 t∧
 JH false a b c (s == t) R Q)
 (cond (e == 1)
 (∃ (B:World→Prop),
 Drw g fun j=>
 ∃ u,HLd Tryz.prog B 3 (.pointer (some ((⟨d,0,none⟩:Addr).add 1))) j (.int .i64 u)∧
 ∃ v,HLd Tryz.prog B 3 (.pointer (some ((⟨d,0,none⟩:Addr).add 1))) j (.int .i64 v)∧
 Xa Tryz.prog 96 #[.pointer D,.int .i64 u] j fun J C=>
 ∃ x,J=.int .i64 x∧
 (C=j∨B C)∧
 Xa Tryz.prog 97 #[.pointer E,.int .i64 v] C fun L S=>
 ∃ y,L=.int .i64 y∧
 JH false a b c (x == y) S Q)
 (JH false a b c true g Q))
def XrG:Nat→List (Nat×TypeId):=fun n=>match n with | 1=>[(6,4),(7,22),(8,4),(9,3)] | _=>[]
theorem XnW (b:Option Addr) (c:Option Addr) (d:Int) (a:Int) (e:Option Addr) (f:Nat) (g:Nat) (w:World) (Q:VWP) (h:XpZ b c d a e f g w Q):Xa Tryz.prog 57 #[.pointer b,.pointer c,.agg #[.int .i64 d,.int .i64 a,.slice e f g]] w Q:=
 Xc XrG Tryz.func57 h (fun _ _=>by kernel_rfl) (by kernel_rfl) (by kernel_rfl) (by kernel_rfl)
end Go.Sh
end

section
namespace Go.Sh
open Go Go.Fw Go.Proofs
set_option maxRecDepth 100000
set_option linter.unusedVariables false
def XhB (r:Array Value) (w:World) (Q:VWP):Prop:=
 New r 217 w fun A B=>
 ∃ s t u v,Ef Tryz.prog (Instr.makeSlice 22 (.int .i64 16) (.int .i64 16)) B (.slice s t u) v∧
 LoopS [.pointer (some ⟨A,0,none⟩),.slice none 0 0,.slice s t u,.int .i64 0] v fun x y f _ a=>
 ∃ g o p q c d e b,f=[.pointer (some g),.slice o p q,.slice c d e,.int .i64 b]∧
 cond (decide (b<128))
 (∃ i,IxA Tryz.prog 217 (.pointer (some g)) (.int .i64 b) i∧
 ∃ j,Ld Tryz.prog 4 (.pointer (some i)) a (.bool j)∧
 cond j
 (∃ k,IxA Tryz.prog 22 (.slice c d e) (.int .i64 (IntKind.i64.wrap (Int.tdiv b 8))) k∧
 ∃ l,Ld Tryz.prog 5 (.pointer (some k)) a (.int .u8 l)∧
 ∃ m,Pu Tryz.prog (do eqGuard .shl 5 (.const (.int .u8 1)) (.tmp 21) (.int .u8 1) (.int .u64 (IntKind.u64.wrap (IntKind.i64.wrap (7 - (Int.tmod b 8))))); binOp .shl 5 (.int .u8 1) (.int .u64 (IntKind.u64.wrap (IntKind.i64.wrap (7 - (Int.tmod b 8))))):Sem Value) (.int .u8 m)∧
 ∃ n,IxA Tryz.prog 22 (.slice c d e) (.int .i64 (IntKind.i64.wrap (Int.tdiv b 8))) n∧
 ∃ z,Sto Tryz.prog 5 (.pointer (some n)) (.int .u8 (ior .u8 l m)) a z∧
 Xh [] [] x y f [.pointer (some g),.slice o p q,.slice c d e,.int .i64 (IntKind.i64.wrap (b+1))] a z)
 (Xh [] [] x y f [.pointer (some g),.slice o p q,.slice c d e,.int .i64 (IntKind.i64.wrap (b+1))] a a))
 (Q (.slice c d e) a)
def XlU:Nat→List (Nat×TypeId):=fun n=>match n with | 0=>[(1,1000000),(2,22),(3,22),(4,3)] | _=>[]
theorem Xiy (a:Array Value) (w:World) (Q:VWP) (h:XhB a w Q):Xa Tryz.prog 134 #[.agg a] w Q:=
 Xc XlU Tryz.func134 h (fun _ _=>by kernel_rfl) (by kernel_rfl) (by kernel_rfl) (by kernel_rfl)
def XhC (d:Addr) (f:Addr) (w:World) (Q:VWP):Prop:=
 ∃ (a:Array Value),Ld Tryz.prog 217 (.pointer (some f)) w (.agg a)∧
 ∃ c,Sto Tryz.prog 217 (.pointer (some d)) (.agg a) w c∧
 ∃ b e,(.pointer (some d):Value)=.pointer (some b)∧(loadVar 217 b).run Tryz.prog c=.ok e c∧
 Q (e) c
def Xp0 (s:Option Addr) (t:Nat) (u:Nat) (w:World) (Q:VWP):Prop:=
 ∃ n,Pu Tryz.prog (zeroValue 217) n∧
 New n.cells 217 w fun v x=>
 ∃ o,Pu Tryz.prog (zeroValue 217) o∧
 New o.cells 217 x fun p y=>
 ∃ q,Sto Tryz.prog 217 (.pointer (some ⟨p,0,none⟩)) (.agg #[.bool false,.bool false,.bool false,.bool false,.bool false,.bool false,.bool false,.bool false,.bool false,.bool false,.bool false,.bool false,.bool false,.bool false,.bool false,.bool false,.bool false,.bool false,.bool false,.bool false,.bool false,.bool false,.bool false,.bool false,.bool false,.bool false,.bool false,.bool false,.bool false,.bool false,.bool false,.bool false,.bool false,.bool false,.bool false,.bool false,.bool false,.bool false,.bool false,.bool false,.bool false,.bool false,.bool false,.bool false,.bool false,.bool false,.bool false,.bool false,.bool false,.bool false,.bool false,.bool false,.bool false,.bool false,.bool false,.bool false,.bool false,.bool false,.bool false,.bool false,.bool false,.bool false,.bool false,.bool false,.bool false,.bool false,.bool false,.bool false,.bool false,.bool false,.bool false,.bool false,.bool false,.bool false,.bool false,.bool false,.bool false,.bool false,.bool false,.bool false,.bool false,.bool false,.bool false,.bool false,.bool false,.bool false,.bool false,.bool false,.bool false,.bool false,.bool false,.bool false,.bool false,.bool false,.bool false,.bool false,.bool false,.bool false,.bool false,.bool false,.bool false,.bool false,.bool false,.bool false,.bool false,.bool false,.bool false,.bool false,.bool false,.bool false,.bool false,.bool false,.bool false,.bool false,.bool false,.bool false,.bool false,.bool false,.bool false,.bool false,.bool false,.bool false,.bool false,.bool false,.bool false,.bool false,.bool false,.bool false]) y q∧
 LoopS [.slice s t u,.pointer (some ⟨v,0,none⟩),.pointer (some ⟨p,0,none⟩),.int .i64 0] q fun z A i _ e=>
 ∃ a b c m g d,i=[.slice a b c,.pointer (some m),.pointer (some g),.int .i64 d]∧
 cond (decide (d<128))
 (∃ j,IxA Tryz.prog 22 (.slice a b c) (.int .i64 (IntKind.i64.wrap (Int.tdiv d 8))) j∧
 ∃ f,Ld Tryz.prog 5 (.pointer (some j)) e (.int .u8 f)∧
 ∃ k,Pu Tryz.prog (do eqGuard .shr 5 (.tmp 15) (.tmp 19) (.int .u8 f) (.int .u64 (IntKind.u64.wrap (IntKind.i64.wrap (7 - (Int.tmod d 8))))); binOp .shr 5 (.int .u8 f) (.int .u64 (IntKind.u64.wrap (IntKind.i64.wrap (7 - (Int.tmod d 8))))):Sem Value) (.int .u8 k)∧
 ∃ l,IxA Tryz.prog 217 (.pointer (some g)) (.int .i64 d) l∧
 ∃ r,Sto Tryz.prog 4 (.pointer (some l)) (.bool ((Int.tmod k 2) == 1)) e r∧
 Xh [] [] z A i [.slice a b c,.pointer (some m),.pointer (some g),.int .i64 (IntKind.i64.wrap (d+1))] e r)
 (XhC m g e Q)
def XrH:Nat→List (Nat×TypeId):=fun n=>match n with | 0=>[(0,22),(2,1000000),(3,1000000),(4,3)] | _=>[]
theorem XnX (a:Option Addr) (b:Nat) (c:Nat) (w:World) (Q:VWP) (h:Xp0 a b c w Q):Xa Tryz.prog 136 #[.slice a b c] w Q:=
 Xc XrH Tryz.func136 h (fun _ _=>by kernel_rfl) (by kernel_rfl) (by kernel_rfl) (by kernel_rfl)
def XfB (d:Addr) (f:Addr) (w:World) (Q:VWP):Prop:=
 ∃ (a:Array Value),Ld Tryz.prog 217 (.pointer (some f)) w (.agg a)∧
 ∃ c,Sto Tryz.prog 217 (.pointer (some d)) (.agg a) w c∧
 ∃ b e,(.pointer (some d):Value)=.pointer (some b)∧(loadVar 217 b).run Tryz.prog c=.ok e c∧
 Q (e) c
def XfC (o:Addr) (p:Addr) (w:World) (Q:VWP):Prop:=
 ∃ k,Pu Tryz.prog (zeroValue 217) k∧
 New k.cells 217 w fun l q=>
 ∃ m,Sto Tryz.prog 217 (.pointer (some ⟨l,0,none⟩)) (.agg #[.bool false,.bool false,.bool false,.bool false,.bool false,.bool false,.bool false,.bool false,.bool false,.bool false,.bool false,.bool false,.bool false,.bool false,.bool false,.bool false,.bool false,.bool false,.bool false,.bool false,.bool false,.bool false,.bool false,.bool false,.bool false,.bool false,.bool false,.bool false,.bool false,.bool false,.bool false,.bool false,.bool false,.bool false,.bool false,.bool false,.bool false,.bool false,.bool false,.bool false,.bool false,.bool false,.bool false,.bool false,.bool false,.bool false,.bool false,.bool false,.bool false,.bool false,.bool false,.bool false,.bool false,.bool false,.bool false,.bool false,.bool false,.bool false,.bool false,.bool false,.bool false,.bool false,.bool false,.bool false,.bool false,.bool false,.bool false,.bool false,.bool false,.bool false,.bool false,.bool false,.bool false,.bool false,.bool false,.bool false,.bool false,.bool false,.bool false,.bool false,.bool false,.bool false,.bool false,.bool false,.bool false,.bool false,.bool false,.bool false,.bool false,.bool false,.bool false,.bool false,.bool false,.bool false,.bool false,.bool false,.bool false,.bool false,.bool false,.bool false,.bool false,.bool false,.bool false,.bool false,.bool false,.bool false,.bool false,.bool false,.bool false,.bool false,.bool false,.bool false,.bool false,.bool false,.bool false,.bool false,.bool false,.bool false,.bool false,.bool false,.bool false,.bool false,.bool false,.bool false,.bool false,.bool false,.bool false,.bool false]) q m∧
 LoopS [.pointer (some o),.pointer (some p),.pointer (some ⟨l,0,none⟩),.int .i64 0] m fun r s f _ d=>
 ∃ b c e a,f=[.pointer (some b),.pointer (some c),.pointer (some e),.int .i64 a]∧
 cond (decide (a<128))
 (∃ g,IxA Tryz.prog 291 (.pointer (some c)) (.int .i64 a) g∧
 ∃ i,Ld Tryz.prog 4 (.pointer (some g)) d (.bool i)∧
 ∃ j,IxA Tryz.prog 217 (.pointer (some e)) (.int .i64 a) j∧
 ∃ n,Sto Tryz.prog 4 (.pointer (some j)) (.bool i) d n∧
 Xh [] [] r s f [.pointer (some b),.pointer (some c),.pointer (some e),.int .i64 (IntKind.i64.wrap (a+1))] d n)
 (XfB b e d Q)
def XfD (D:Addr) (E:Addr) (w:World) (Q:VWP):Prop:=
 LoopS [.pointer (some D),.pointer (some E),.int .i64 254] w fun A B e _ c=>
 ∃ d a b,e=[.pointer (some d),.pointer (some a),.int .i64 b]∧
 cond (decide (b≥128))
 (∃ f,IxA Tryz.prog 291 (.pointer (some a)) (.int .i64 b) f∧
 ∃ g,Ld Tryz.prog 4 (.pointer (some f)) c (.bool g)∧
 cond g
 (∃ i,IxA Tryz.prog 291 (.pointer (some a)) (.int .i64 b) i∧
 ∃ v,Sto Tryz.prog 4 (.pointer (some i)) (.bool false) c v∧
 ∃ j,IxA Tryz.prog 291 (.pointer (some a)) (.int .i64 (IntKind.i64.wrap (b - 128))) j∧
 ∃ k,Ld Tryz.prog 4 (.pointer (some j)) v (.bool k)∧
 ∃ l,IxA Tryz.prog 291 (.pointer (some a)) (.int .i64 (IntKind.i64.wrap (b - 128))) l∧
 ∃ x,Sto Tryz.prog 4 (.pointer (some l)) (.bool (!k)) v x∧
 ∃ m,IxA Tryz.prog 291 (.pointer (some a)) (.int .i64 (IntKind.i64.wrap (b - 127))) m∧
 ∃ n,Ld Tryz.prog 4 (.pointer (some m)) x (.bool n)∧
 ∃ o,IxA Tryz.prog 291 (.pointer (some a)) (.int .i64 (IntKind.i64.wrap (b - 127))) o∧
 ∃ y,Sto Tryz.prog 4 (.pointer (some o)) (.bool (!n)) x y∧
 ∃ p,IxA Tryz.prog 291 (.pointer (some a)) (.int .i64 (IntKind.i64.wrap (b - 126))) p∧
 ∃ q,Ld Tryz.prog 4 (.pointer (some p)) y (.bool q)∧
 ∃ r,IxA Tryz.prog 291 (.pointer (some a)) (.int .i64 (IntKind.i64.wrap (b - 126))) r∧
 ∃ z,Sto Tryz.prog 4 (.pointer (some r)) (.bool (!q)) y z∧
 ∃ s,IxA Tryz.prog 291 (.pointer (some a)) (.int .i64 (IntKind.i64.wrap (b - 121))) s∧
 ∃ t,Ld Tryz.prog 4 (.pointer (some s)) z (.bool t)∧
 ∃ u,IxA Tryz.prog 291 (.pointer (some a)) (.int .i64 (IntKind.i64.wrap (b - 121))) u∧
 ∃ C,Sto Tryz.prog 4 (.pointer (some u)) (.bool (!t)) z C∧
 Xh [] [] A B e [.pointer (some d),.pointer (some a),.int .i64 (IntKind.i64.wrap (b - 1))] c C)
 (Xh [] [] A B e [.pointer (some d),.pointer (some a),.int .i64 (IntKind.i64.wrap (b - 1))] c c))
 (XfC d a c Q)
def XmL (z:Array Value) (A:Array Value) (w:World) (Q:VWP):Prop:=
 New z 217 w fun J L=>
 New A 217 L fun M N=>
 ∃ B,Pu Tryz.prog (zeroValue 217) B∧
 New B.cells 217 N fun O P=>
 ∃ C,Pu Tryz.prog (zeroValue 291) C∧
 New C.cells 291 P fun D R=>
 ∃ E,Sto Tryz.prog 291 (.pointer (some ⟨D,0,none⟩)) (.agg #[.bool false,.bool false,.bool false,.bool false,.bool false,.bool false,.bool false,.bool false,.bool false,.bool false,.bool false,.bool false,.bool false,.bool false,.bool false,.bool false,.bool false,.bool false,.bool false,.bool false,.bool false,.bool false,.bool false,.bool false,.bool false,.bool false,.bool false,.bool false,.bool false,.bool false,.bool false,.bool false,.bool false,.bool false,.bool false,.bool false,.bool false,.bool false,.bool false,.bool false,.bool false,.bool false,.bool false,.bool false,.bool false,.bool false,.bool false,.bool false,.bool false,.bool false,.bool false,.bool false,.bool false,.bool false,.bool false,.bool false,.bool false,.bool false,.bool false,.bool false,.bool false,.bool false,.bool false,.bool false,.bool false,.bool false,.bool false,.bool false,.bool false,.bool false,.bool false,.bool false,.bool false,.bool false,.bool false,.bool false,.bool false,.bool false,.bool false,.bool false,.bool false,.bool false,.bool false,.bool false,.bool false,.bool false,.bool false,.bool false,.bool false,.bool false,.bool false,.bool false,.bool false,.bool false,.bool false,.bool false,.bool false,.bool false,.bool false,.bool false,.bool false,.bool false,.bool false,.bool false,.bool false,.bool false,.bool false,.bool false,.bool false,.bool false,.bool false,.bool false,.bool false,.bool false,.bool false,.bool false,.bool false,.bool false,.bool false,.bool false,.bool false,.bool false,.bool false,.bool false,.bool false,.bool false,.bool false,.bool false,.bool false,.bool false,.bool false,.bool false,.bool false,.bool false,.bool false,.bool false,.bool false,.bool false,.bool false,.bool false,.bool false,.bool false,.bool false,.bool false,.bool false,.bool false,.bool false,.bool false,.bool false,.bool false,.bool false,.bool false,.bool false,.bool false,.bool false,.bool false,.bool false,.bool false,.bool false,.bool false,.bool false,.bool false,.bool false,.bool false,.bool false,.bool false,.bool false,.bool false,.bool false,.bool false,.bool false,.bool false,.bool false,.bool false,.bool false,.bool false,.bool false,.bool false,.bool false,.bool false,.bool false,.bool false,.bool false,.bool false,.bool false,.bool false,.bool false,.bool false,.bool false,.bool false,.bool false,.bool false,.bool false,.bool false,.bool false,.bool false,.bool false,.bool false,.bool false,.bool false,.bool false,.bool false,.bool false,.bool false,.bool false,.bool false,.bool false,.bool false,.bool false,.bool false,.bool false,.bool false,.bool false,.bool false,.bool false,.bool false,.bool false,.bool false,.bool false,.bool false,.bool false,.bool false,.bool false,.bool false,.bool false,.bool false,.bool false,.bool false,.bool false,.bool false,.bool false,.bool false,.bool false,.bool false,.bool false,.bool false,.bool false,.bool false,.bool false,.bool false,.bool false,.bool false,.bool false,.bool false,.bool false,.bool false,.bool false,.bool false,.bool false,.bool false,.bool false,.bool false,.bool false,.bool false,.bool false]) R E∧
 LoopS [.pointer (some ⟨J,0,none⟩),.pointer (some ⟨M,0,none⟩),.pointer (some ⟨O,0,none⟩),.pointer (some ⟨D,0,none⟩),.int .i64 0] E fun F G j _ c=>
 ∃ m y n o k,j=[.pointer (some m),.pointer (some y),.pointer (some n),.pointer (some o),.int .i64 k]∧
 cond (decide (k<128))
 (∃ p,IxA Tryz.prog 217 (.pointer (some m)) (.int .i64 k) p∧
 ∃ q,Ld Tryz.prog 4 (.pointer (some p)) c (.bool q)∧
 cond (!q)
 (Xh [] [] F G j [.pointer (some m),.pointer (some y),.pointer (some n),.pointer (some o),.int .i64 (IntKind.i64.wrap (k+1))] c c)
 (LoopS [.pointer (some m),.pointer (some y),.pointer (some n),.pointer (some o),.int .i64 k,.int .i64 0] c fun S T r _ l=>
 ∃ e d f a b g,r=[.pointer (some e),.pointer (some d),.pointer (some f),.pointer (some a),.int .i64 b,.int .i64 g]∧
 cond (decide (g<128))
 (∃ (H:World→Prop),
 Drw l fun i=>
 ∃ s,IxA Tryz.prog 291 (.pointer (some a)) (.int .i64 (IntKind.i64.wrap (b+g))) s∧
 ∃ t,IxA Tryz.prog 217 (.pointer (some d)) (.int .i64 g) t∧
 ∃ u,HLd Tryz.prog H 4 (.pointer (some s)) i (.bool u)∧
 ∃ v,Ld Tryz.prog 4 (.pointer (some t)) i (.bool v)∧
 (i=i∨H i)∧
 ∃ x,IxA Tryz.prog 291 (.pointer (some a)) (.int .i64 (IntKind.i64.wrap (b+g))) x∧
 ∃ I,Sto Tryz.prog 4 (.pointer (some x)) (.bool (!(u == v))) i I∧
 Xh [] [] S T r [.pointer (some e),.pointer (some d),.pointer (some f),.pointer (some a),.int .i64 b,.int .i64 (IntKind.i64.wrap (g+1))] l I)
 (Xh [] [] F G j [.pointer (some e),.pointer (some d),.pointer (some f),.pointer (some a),.int .i64 (IntKind.i64.wrap (b+1))] c l)))
 (XfD n o c Q)
def Xp1:Nat→List (Nat×TypeId):=fun n=>match n with | 0=>[(2,1000000),(3,1000000),(4,1000000),(5,1000000),(6,3)] | 2=>[(2,1000000),(3,1000000),(4,1000000),(5,1000000),(6,3),(7,3)] | 4=>[(4,1000000),(5,1000000),(8,3)] | 6=>[(4,1000000),(5,1000000),(9,1000000),(10,3)] | _=>[]
theorem XlV (a:Array Value) (b:Array Value) (w:World) (Q:VWP) (h:XmL a b w Q):Xa Tryz.prog 172 #[.agg a,.agg b] w Q:=
 Xc Xp1 Tryz.func172 h (fun _ _=>by kernel_rfl) (by kernel_rfl) (by kernel_rfl) (by kernel_rfl)
def XfE (f:Addr) (d:Addr) (w:World) (Q:VWP):Prop:=
 ∃ (a:Array Value),Ld Tryz.prog 217 (.pointer (some f)) w (.agg a)∧
 ∃ c,Sto Tryz.prog 217 (.pointer (some d)) (.agg a) w c∧
 ∃ b e,(.pointer (some d):Value)=.pointer (some b)∧(loadVar 217 b).run Tryz.prog c=.ok e c∧
 Q (e) c
def XmM (n:Array Value) (o:Array Value) (w:World) (Q:VWP):Prop:=
 New n 217 w fun s t=>
 New o 217 t fun u v=>
 ∃ p,Pu Tryz.prog (zeroValue 217) p∧
 New p.cells 217 v fun x y=>
 LoopS [.pointer (some ⟨s,0,none⟩),.pointer (some ⟨u,0,none⟩),.pointer (some ⟨x,0,none⟩),.int .i64 0] y fun z A e _ c=>
 ∃ d l m a,e=[.pointer (some d),.pointer (some l),.pointer (some m),.int .i64 a]∧
 cond (decide (a<128))
 (∃ (q:World→Prop),
 Drw c fun b=>
 ∃ f,IxA Tryz.prog 217 (.pointer (some d)) (.int .i64 a) f∧
 ∃ g,IxA Tryz.prog 217 (.pointer (some l)) (.int .i64 a) g∧
 ∃ i,HLd Tryz.prog q 4 (.pointer (some f)) b (.bool i)∧
 ∃ j,Ld Tryz.prog 4 (.pointer (some g)) b (.bool j)∧
 (b=b∨q b)∧
 ∃ k,IxA Tryz.prog 217 (.pointer (some d)) (.int .i64 a) k∧
 ∃ r,Sto Tryz.prog 4 (.pointer (some k)) (.bool (!(i == j))) b r∧
 Xh [] [] z A e [.pointer (some d),.pointer (some l),.pointer (some m),.int .i64 (IntKind.i64.wrap (a+1))] c r)
 (XfE d m c Q)
def Xp2:Nat→List (Nat×TypeId):=fun n=>match n with | 0=>[(2,1000000),(3,1000000),(4,1000000),(5,3)] | _=>[]
theorem XlW (a:Array Value) (b:Array Value) (w:World) (Q:VWP) (h:XmM a b w Q):Xa Tryz.prog 173 #[.agg a,.agg b] w Q:=
 Xc Xp2 Tryz.func173 h (fun _ _=>by kernel_rfl) (by kernel_rfl) (by kernel_rfl) (by kernel_rfl)
end Go.Sh
end
