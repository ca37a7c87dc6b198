/- A part of a proof of a given law of this program: lemmas, printed forms of its functions, contracts. It has no conditions of its own. -/
import Derived.Test.YtlfdlhgbppahgaaGreatProg
import Derived.Test.YtlfdlhgbppahgaaGreatMW0
import Derived.Test.YtlfdlhgbppahgaaGreatMW1

set_option maxHeartbeats 16000000
section
namespace Go.Sh
open Go Go.Fw Go.Proofs
set_option maxRecDepth 100000
set_option linter.unusedVariables false
def XsG (r:Option Addr) (q:Nat) (s:Nat) (w:World) (Q:VWP):Prop:=
 ∃ t,Pu Tryz.prog (zeroValue 240) t∧
 New t.cells 240 w fun c u=>
 cond (((q:Nat):Int) != 16)
 (∃ d,Sto Tryz.prog 240 (.pointer (some ⟨c,0,none⟩)) (.agg #[.int .u64 0,.int .u64 0]) u d∧
 ∃ v x,(.pointer (some ⟨c,0,none⟩):Value)=.pointer (some v)∧(loadVar 240 v).run Tryz.prog d=.ok x d∧
 Q (.tuple #[x,.int .i64 11]) d)
 (∃ i j k,Pu Tryz.prog (Instr.sliceAt 22 (.slice r q s) none (some (.int .i64 8)) none) (.slice i j k)∧
 Xa Tryz.prog 119 #[.slice i j k] u fun y A=>
 ∃ l e,y=.tuple #[.int .u64 l,.int .i64 e]∧
 ∃ m n o,Pu Tryz.prog (Instr.sliceAt 22 (.slice r q s) (some (.int .i64 8)) none none) (.slice m n o)∧
 Xa Tryz.prog 119 #[.slice m n o] A fun z B=>
 ∃ p f,z=.tuple #[.int .u64 p,.int .i64 f]∧
 ∃ g,Sto Tryz.prog 240 (.pointer (some ⟨c,0,none⟩)) (.agg #[.int .u64 l,.int .u64 p]) B g∧
 ∃ a b,(.pointer (some ⟨c,0,none⟩):Value)=.pointer (some a)∧(loadVar 240 a).run Tryz.prog g=.ok b g∧
 Q (.tuple #[b,.int .i64 0]) g)
def XtD:Nat→List (Nat×TypeId):=fun _=>[]
theorem Xqj (a:Option Addr) (b:Nat) (c:Nat) (w:World) (Q:VWP) (h:XsG a b c w Q):Xa Tryz.prog 146 #[.slice a b c] w Q:=
 Xc XtD Tryz.func146 h (fun _ _=>by kernel_rfl) (by kernel_rfl) (by kernel_rfl) (by kernel_rfl)
def Xam (A:Int) (o:Int) (w:World) (Q:VWP):Prop:=
 New #[.int .u64 A,.int .u64 o] 240 w fun p q=>
 ∃ r,Ld Tryz.prog 28 (.pointer (some ((⟨p,0,none⟩:Addr).add 0))) q (.int .u64 r)∧
 Xa Tryz.prog 159 #[.int .u64 r,.int .i64 8] q fun s t=>
 ∃ a b c u,s=.tuple #[.slice a b c,.int .i64 u]∧
 ∃ d,Ld Tryz.prog 28 (.pointer (some ((⟨p,0,none⟩:Addr).add 1))) t (.int .u64 d)∧
 Xa Tryz.prog 159 #[.int .u64 d,.int .i64 8] t fun v B=>
 ∃ e f g x,v=.tuple #[.slice e f g,.int .i64 x]∧
 ∃ i j k y,Ef Tryz.prog (Instr.buildSlice 161 2 #[(0,.slice a b c),(1,.slice e f g)]) B (.slice i j k) y∧
 Xa Tryz.prog 118 #[.slice i j k] y fun z C=>
 ∃ l m n,z=.slice l m n∧
 Q (.slice l m n) C
def Xfz:Nat→List (Nat×TypeId):=fun _=>[]
theorem XcX (b:Int) (a:Int) (w:World) (Q:VWP) (h:Xam b a w Q):Xa Tryz.prog 182 #[.agg #[.int .u64 b,.int .u64 a]] w Q:=
 Xc Xfz Tryz.func182 h (fun _ _=>by kernel_rfl) (by kernel_rfl) (by kernel_rfl) (by kernel_rfl)
def XhS (e:Addr) (g:Addr) (w:World) (Q:VWP):Prop:=
 ∃ d a,Ld Tryz.prog 240 (.pointer (some g)) w (.agg #[.int .u64 d,.int .u64 a])∧
 ∃ c,Sto Tryz.prog 240 (.pointer (some e)) (.agg #[.int .u64 d,.int .u64 a]) w c∧
 ∃ b f,(.pointer (some e):Value)=.pointer (some b)∧(loadVar 240 b).run Tryz.prog c=.ok f c∧
 Q (f) c
def Xqk (C:Option Addr) (u:Nat) (D:Nat) (w:World) (Q:VWP):Prop:=
 ∃ v,Pu Tryz.prog (zeroValue 240) v∧
 New v.cells 240 w fun E F=>
 ∃ x,Pu Tryz.prog (zeroValue 240) x∧
 New x.cells 240 F fun G H=>
 LoopS [.pointer (some ⟨E,0,none⟩),.pointer (some ⟨G,0,none⟩),.slice C u D,.int .i64 ((u:Nat):Int),.int .i64 0] H fun I J j _ a=>
 ∃ p f q r s t g,j=[.pointer (some p),.pointer (some f),.slice q r s,.int .i64 t,.int .i64 g]∧
 cond (decide (g<t))
 (∃ k,IxA Tryz.prog 278 (.slice q r s) (.int .i64 g) k∧
 ∃ l b,Ld Tryz.prog 240 (.pointer (some k)) a (.agg #[.int .u64 l,.int .u64 b])∧
 ∃ y,Pu Tryz.prog (zeroValue 240) y∧
 New y.cells 240 a fun z L=>
 ∃ i,Sto Tryz.prog 240 (.pointer (some ⟨z,0,none⟩)) (.agg #[.int .u64 l,.int .u64 b]) L i∧
 ∃ m c,Ld Tryz.prog 240 (.pointer (some f)) i (.agg #[.int .u64 m,.int .u64 c])∧
 ∃ n d,Ld Tryz.prog 240 (.pointer (some ⟨z,0,none⟩)) i (.agg #[.int .u64 n,.int .u64 d])∧
 Xa Tryz.prog 214 #[.agg #[.int .u64 m,.int .u64 c],.agg #[.int .u64 n,.int .u64 d]] i fun A M=>
 ∃ o e,A=.agg #[.int .u64 o,.int .u64 e]∧
 ∃ B,Sto Tryz.prog 240 (.pointer (some f)) (.agg #[.int .u64 o,.int .u64 e]) M B∧
 Xh [] [] I J j [.pointer (some p),.pointer (some f),.slice q r s,.int .i64 t,.int .i64 (IntKind.i64.wrap (g+1))] a B)
 (XhS p f a Q)
def Xr5:Nat→List (Nat×TypeId):=fun n=>match n with | 0=>[(2,1000000),(3,1000000),(6,278),(7,3),(8,3)] | _=>[]
theorem Xol (a:Option Addr) (b:Nat) (c:Nat) (w:World) (Q:VWP) (h:Xqk a b c w Q):Xa Tryz.prog 202 #[.slice a b c] w Q:=
 Xc Xr5 Tryz.func202 h (fun _ _=>by kernel_rfl) (by kernel_rfl) (by kernel_rfl) (by kernel_rfl)
def XbT (p:Int) (e:Int) (q:Int) (f:Int) (w:World) (Q:VWP):Prop:=
 New #[.int .u64 p,.int .u64 e] 240 w fun g r=>
 New #[.int .u64 q,.int .u64 f] 240 r fun i s=>
 ∃ j,Pu Tryz.prog (zeroValue 240) j∧
 New j.cells 240 s fun k a=>
 ∃ l,Ld Tryz.prog 28 (.pointer (some ((⟨g,0,none⟩:Addr).add 0))) a (.int .u64 l)∧
 ∃ m,Ld Tryz.prog 28 (.pointer (some ((⟨i,0,none⟩:Addr).add 0))) a (.int .u64 m)∧
 ∃ c,Ld Tryz.prog 28 (.pointer (some ((⟨g,0,none⟩:Addr).add 1))) a (.int .u64 c)∧
 ∃ d,Ld Tryz.prog 28 (.pointer (some ((⟨i,0,none⟩:Addr).add 1))) a (.int .u64 d)∧
 ∃ b,Sto Tryz.prog 240 (.pointer (some ⟨k,0,none⟩)) (.agg #[.int .u64 (YG .u64 l m),.int .u64 (YG .u64 c d)]) a b∧
 ∃ n o,(.pointer (some ⟨k,0,none⟩):Value)=.pointer (some n)∧(loadVar 240 n).run Tryz.prog b=.ok o b∧
 Q (o) b
def Xhh:Nat→List (Nat×TypeId):=fun _=>[]
theorem Xex (c:Int) (a:Int) (d:Int) (b:Int) (w:World) (Q:VWP) (h:XbT c a d b w Q):Xa Tryz.prog 214 #[.agg #[.int .u64 c,.int .u64 a],.agg #[.int .u64 d,.int .u64 b]] w Q:=
 Xc Xhh Tryz.func214 h (fun _ _=>by kernel_rfl) (by kernel_rfl) (by kernel_rfl) (by kernel_rfl)
def Z8 (e:Addr) (g:Addr) (w:World) (Q:VWP):Prop:=
 ∃ d a,Ld Tryz.prog 240 (.pointer (some g)) w (.agg #[.int .u64 d,.int .u64 a])∧
 ∃ c,Sto Tryz.prog 240 (.pointer (some e)) (.agg #[.int .u64 d,.int .u64 a]) w c∧
 ∃ b f,(.pointer (some e):Value)=.pointer (some b)∧(loadVar 240 b).run Tryz.prog c=.ok f c∧
 Q (f) c
def XbU (p:Int) (i:Int) (w:World) (Q:VWP):Prop:=
 New #[.int .u64 p,.int .u64 i] 240 w fun c q=>
 ∃ j,Pu Tryz.prog (zeroValue 240) j∧
 New j.cells 240 q fun k d=>
 ∃ l,Ld Tryz.prog 28 (.pointer (some ((⟨c,0,none⟩:Addr).add 0))) d (.int .u64 l)∧
 ∃ m,Ld Tryz.prog 28 (.pointer (some ((⟨c,0,none⟩:Addr).add 1))) d (.int .u64 m)∧
 ∃ e,Ld Tryz.prog 28 (.pointer (some ((⟨c,0,none⟩:Addr).add 0))) d (.int .u64 e)∧
 ∃ n,Pu Tryz.prog (zeroValue 240) n∧
 New n.cells 240 d fun a r=>
 ∃ b,Sto Tryz.prog 240 (.pointer (some ⟨a,0,none⟩)) (.agg #[.int .u64 (Int.fdiv l (2 ^ 1)),.int .u64 (ior .u64 (Int.fdiv m (2 ^ 1)) (IntKind.u64.wrap (e*2 ^ 63)))]) r b∧
 ∃ f,Ld Tryz.prog 28 (.pointer (some ((⟨c,0,none⟩:Addr).add 1))) b (.int .u64 f)∧
 cond ((Y4 .u64 f 1) != 0)
 (∃ g,Ld Tryz.prog 28 (.pointer (some ((⟨a,0,none⟩:Addr).add 0))) b (.int .u64 g)∧
 ∃ o,Sto Tryz.prog 28 (.pointer (some ((⟨a,0,none⟩:Addr).add 0))) (.int .u64 (YG .u64 g 16212958658533785600)) b o∧
 Z8 (⟨k,0,none⟩:Addr) (⟨a,0,none⟩:Addr) o Q)
 (Z8 (⟨k,0,none⟩:Addr) (⟨a,0,none⟩:Addr) b Q)
def Xhi:Nat→List (Nat×TypeId):=fun _=>[]
theorem Xey (b:Int) (a:Int) (w:World) (Q:VWP) (h:XbU b a w Q):Xa Tryz.prog 228 #[.agg #[.int .u64 b,.int .u64 a]] w Q:=
 Xc Xhi Tryz.func228 h (fun _ _=>by kernel_rfl) (by kernel_rfl) (by kernel_rfl) (by kernel_rfl)
end Go.Sh
end

section
namespace Go.Sh
open Go Go.Fw Go.Proofs
set_option maxRecDepth 100000
set_option linter.unusedVariables false
def Xm4 (k:Option Addr) (l:Nat) (m:Nat) (w:World) (Q:VWP):Prop:=
 Xa Tryz.prog 146 #[.slice k l m] w fun n o=>
 ∃ f c a,n=.tuple #[.agg #[.int .u64 f,.int .u64 c],.int .i64 a]∧
 ∃ g,Pu Tryz.prog (zeroValue 240) g∧
 New g.cells 240 o fun i p=>
 ∃ d,Sto Tryz.prog 240 (.pointer (some ⟨i,0,none⟩)) (.agg #[.int .u64 f,.int .u64 c]) p d∧
 cond (a != 0)
 (Q (.tuple #[.pointer none,.int .i64 a]) d)
 (∃ e b,Ld Tryz.prog 240 (.pointer (some ⟨i,0,none⟩)) d (.agg #[.int .u64 e,.int .u64 b])∧
 New #[.int .u64 e,.int .u64 b,.int .u32 0,.int .i32 0,.int .u32 0,.int .i64 0,.int .u64 0,.int .u64 0,.int .u64 0,.int .u64 0,.int .u64 0,.int .u64 0,.int .u64 0,.int .u64 0,.int .u64 0,.int .u64 0,.int .u64 0,.int .u64 0,.int .u64 0,.int .u64 0,.int .u64 0,.int .u64 0,.int .u64 0,.int .u64 0,.int .u64 0,.int .u64 0,.int .u64 0,.int .u64 0,.int .u64 0,.int .u64 0,.int .u64 0,.int .u64 0,.int .u64 0,.int .u64 0,.int .u64 0,.int .u64 0,.int .u64 0,.int .u64 0,.int .u64 0,.int .u64 0,.int .u64 0,.int .u64 0,.int .u64 0,.int .u64 0,.int .u64 0,.int .u64 0,.int .u64 0,.int .u64 0,.int .u64 0,.int .u64 0,.int .u64 0,.int .u64 0,.int .u64 0,.int .u64 0,.int .u64 0,.int .u64 0,.int .u64 0,.int .u64 0,.int .u64 0,.int .u64 0,.int .u64 0,.int .u64 0,.int .u64 0,.int .u64 0,.int .u64 0,.int .u64 0,.int .u64 0,.int .u64 0,.int .u64 0,.int .u64 0,.int .u64 0,.int .u64 0,.int .u64 0,.int .u64 0,.int .u64 0,.int .u64 0,.int .u64 0,.int .u64 0,.int .u64 0,.int .u64 0,.int .u64 0,.int .u64 0,.int .u64 0,.int .u64 0,.int .u64 0,.int .u64 0,.int .u64 0,.int .u64 0,.int .u64 0,.int .u64 0,.int .u64 0,.int .u64 0,.int .u64 0,.int .u64 0,.int .u64 0,.int .u64 0,.int .u64 0,.int .u64 0,.int .u64 0,.int .u64 0,.int .u64 0,.int .u64 0,.int .u64 0,.int .u64 0,.int .u64 0,.int .u64 0,.int .u64 0,.int .u64 0,.int .u64 0,.int .u64 0,.int .u64 0,.int .u64 0,.int .u64 0,.int .u64 0,.int .u64 0,.int .u64 0,.int .u64 0,.int .u64 0,.int .u64 0,.int .u64 0,.int .u64 0,.int .u64 0,.int .u64 0,.int .u64 0,.int .u64 0,.int .u64 0,.int .u64 0,.int .u64 0,.int .u64 0,.int .u64 0,.int .u64 0,.int .u64 0,.int .u64 0,.int .u64 0,.int .u64 0,.int .u64 0,.int .u64 0,.int .u64 0,.int .u64 0,.int .u64 0,.int .u64 0,.int .u64 0,.int .u64 0,.int .u64 0,.int .u64 0,.int .u64 0,.int .u64 0,.int .u64 0,.int .u64 0,.int .u64 0,.int .u64 0,.int .u64 0,.int .u64 0,.int .u64 0,.int .u64 0,.int .u64 0,.int .u64 0,.int .u64 0,.int .u64 0,.int .u64 0,.int .u64 0,.int .u64 0,.int .u64 0,.int .u64 0,.int .u64 0,.int .u64 0,.int .u64 0,.int .u64 0,.int .u64 0,.int .u64 0,.int .u64 0,.int .u64 0,.int .u64 0,.int .u64 0,.int .u64 0,.int .u64 0,.int .u64 0,.int .u64 0,.int .u64 0,.int .u64 0,.int .u64 0,.int .u64 0,.int .u64 0,.int .u64 0,.int .u64 0,.int .u64 0,.int .u64 0,.int .u64 0,.int .u64 0,.int .u64 0,.int .u64 0,.int .u64 0,.int .u64 0,.int .u64 0,.int .u64 0,.int .u64 0,.int .u64 0,.int .u64 0,.int .u64 0,.int .u64 0,.int .u64 0,.int .u64 0,.int .u64 0,.int .u64 0,.int .u64 0,.int .u64 0,.int .u64 0,.int .u64 0,.int .u64 0,.int .u64 0,.int .u64 0,.int .u64 0,.int .u64 0,.int .u64 0,.int .u64 0,.int .u64 0,.int .u64 0,.int .u64 0,.int .u64 0,.int .u64 0,.int .u64 0,.int .u64 0,.int .u64 0,.int .u64 0,.int .u64 0,.int .u64 0,.int .u64 0,.int .u64 0,.int .u64 0,.int .u64 0,.int .u64 0,.int .u64 0,.int .u64 0,.int .u64 0,.int .u64 0,.int .u64 0,.int .u64 0,.int .u64 0,.int .u64 0,.int .u64 0,.int .u64 0,.int .u64 0,.int .u64 0,.int .u64 0,.int .u64 0,.int .u64 0,.int .u64 0,.int .u64 0,.int .u64 0,.int .u64 0,.int .u64 0,.int .u64 0,.int .u64 0,.int .u64 0,.int .u64 0,.int .u64 0,.int .u64 0,.int .u64 0,.int .u64 0,.int .u64 0,.int .u64 0,.int .u64 0,.int .u64 0,.int .u64 0,.int .u64 0,.int .u64 0,.int .u64 0,.int .u64 0,.int .u64 0,.int .u64 0,.int .u64 0,.int .u64 0,.int .u64 0,.int .u64 0,.int .u64 0,.int .u64 0,.int .u64 0,.int .u64 0,.int .u64 0,.int .u64 0,.int .u64 0,.int .u64 0,.int .u64 0,.int .u64 0,.int .u64 0,.int .u64 0,.int .u64 0,.int .u64 0,.int .u64 0,.int .u64 0,.int .u64 0,.int .u64 0,.int .u64 0,.int .u64 0,.int .u64 0,.int .u64 0,.int .u64 0,.int .u64 0,.int .u64 0,.int .u64 0,.int .u64 0,.int .u64 0,.int .u64 0,.int .u64 0,.int .u64 0,.int .u64 0,.int .u64 0,.int .u64 0,.int .u64 0,.int .u64 0,.int .u64 0,.int .u64 0,.int .u64 0,.int .u64 0,.int .u64 0,.int .u64 0,.int .u64 0,.int .u64 0,.int .u64 0,.int .u64 0,.int .u64 0,.int .u64 0,.int .u64 0,.int .u64 0,.int .u64 0,.int .u64 0,.int .u64 0,.int .u64 0,.int .u64 0,.int .u64 0,.int .u64 0,.int .u64 0,.int .u64 0,.int .u64 0,.int .u64 0,.int .u64 0,.int .u64 0,.int .u64 0,.int .u64 0,.int .u64 0,.int .u64 0,.int .u64 0,.int .u64 0,.int .u64 0,.int .u64 0,.int .u64 0,.int .u64 0,.int .u64 0,.int .u64 0,.int .u64 0,.int .u64 0,.int .u64 0,.int .u64 0,.int .u64 0,.int .u64 0,.int .u64 0,.int .u64 0,.int .u64 0,.int .u64 0,.int .u64 0,.int .u64 0,.int .u64 0,.int .u64 0,.int .u64 0,.int .u64 0,.int .u64 0,.int .u64 0,.int .u64 0,.int .u64 0,.int .u64 0,.int .u64 0,.int .u64 0,.int .u64 0,.int .u64 0,.int .u64 0,.int .u64 0,.int .u64 0,.int .u64 0,.int .u64 0,.int .u64 0,.int .u64 0,.int .u64 0,.int .u64 0,.int .u64 0,.int .u64 0,.int .u64 0,.int .u64 0,.int .u64 0,.int .u64 0,.int .u64 0,.int .u64 0,.int .u64 0,.int .u64 0,.int .u64 0,.int .u64 0,.int .u64 0,.int .u64 0,.int .u64 0,.int .u64 0,.int .u64 0,.int .u64 0,.int .u64 0,.int .u64 0,.int .u64 0,.int .u64 0,.int .u64 0,.int .u64 0,.int .u64 0,.int .u64 0,.int .u64 0,.int .u64 0,.int .u64 0,.int .u64 0,.int .u64 0,.int .u64 0,.int .u64 0,.int .u64 0,.int .u64 0,.int .u64 0,.int .u64 0,.int .u64 0,.int .u64 0,.int .u64 0,.int .u64 0,.int .u64 0,.int .u64 0,.int .u64 0,.int .u64 0,.int .u64 0,.int .u64 0,.int .u64 0,.int .u64 0,.int .u64 0,.int .u64 0,.int .u64 0,.int .u64 0,.int .u64 0,.int .u64 0,.int .u64 0,.int .u64 0,.int .u64 0,.int .u64 0,.int .u64 0,.int .u64 0,.int .u64 0,.int .u64 0,.int .u64 0,.int .u64 0,.int .u64 0,.int .u64 0,.int .u64 0,.int .u64 0,.int .u64 0,.int .u64 0,.int .u64 0,.int .u64 0,.int .u64 0,.int .u64 0,.int .u64 0,.int .u64 0,.int .u64 0,.int .u64 0,.int .u64 0,.int .u64 0,.int .u64 0,.int .u64 0,.int .u64 0,.int .u64 0,.int .u64 0,.int .u64 0,.int .u64 0,.int .u64 0,.int .u64 0,.int .u64 0,.int .u64 0,.int .u64 0,.int .u64 0,.int .u64 0,.int .u64 0,.int .u64 0,.int .u64 0,.int .u64 0,.int .u64 0,.int .u64 0,.int .u64 0,.int .u64 0,.int .u64 0,.int .u64 0,.int .u64 0,.int .u64 0,.int .u64 0,.int .u64 0,.int .u64 0,.int .u64 0,.int .u64 0,.int .u64 0,.int .u64 0,.int .u64 0,.int .u64 0,.int .u64 0,.int .u64 0,.int .u64 0,.int .u64 0,.int .u64 0,.int .u64 0,.int .u64 0,.int .u64 0,.int .u64 0,.int .u64 0,.int .u64 0,.int .u64 0,.int .u64 0,.int .u64 0,.int .u64 0,.int .u64 0,.int .u64 0,.int .u64 0,.int .u64 0,.int .u64 0,.int .u64 0,.int .u64 0,.int .u64 0,.int .u64 0,.int .u64 0,.int .u64 0,.int .u64 0,.int .u64 0,.int .u64 0,.int .u64 0,.int .u64 0,.int .u64 0,.int .u64 0,.int .u64 0,.int .u64 0,.int .u64 0,.int .u64 0,.int .u64 0,.int .u64 0,.int .u64 0,.int .u64 0,.int .u64 0,.int .u64 0,.int .u64 0,.int .u64 0,.int .u64 0,.int .u64 0,.int .u64 0,.int .u64 0,.int .u64 0,.int .u64 0,.int .u64 0,.int .u64 0,.int .u64 0,.int .u64 0,.int .u64 0,.int .u64 0,.int .u64 0,.int .u64 0,.int .u64 0,.int .u64 0,.int .u64 0,.int .u64 0,.int .u64 0,.int .u64 0,.int .u64 0,.int .u64 0,.int .u64 0,.int .u64 0,.int .u64 0,.int .u64 0,.int .u64 0,.int .u64 0,.int .u64 0,.int .u64 0,.int .u64 0,.int .u64 0,.int .u64 0,.int .u64 0,.int .u64 0,.int .u64 0,.int .u64 0,.int .u64 0,.int .u64 0,.int .u64 0,.int .u64 0,.int .u64 0,.int .u64 0,.int .u64 0,.int .u64 0,.int .u64 0,.int .u64 0,.int .u64 0,.int .u64 0,.int .u64 0,.int .u64 0,.int .u64 0,.int .u64 0,.int .u64 0,.int .u64 0,.int .u64 0,.int .u64 0,.int .u64 0,.int .u64 0,.int .u64 0,.int .u64 0,.int .u64 0,.int .u64 0,.int .u64 0,.int .u64 0,.int .u64 0,.int .u64 0,.int .u64 0,.int .u64 0,.int .u64 0,.int .u64 0,.int .u64 0,.int .u64 0,.int .u64 0,.int .u64 0,.int .u64 0,.int .u64 0,.int .u64 0,.int .u64 0,.int .u64 0,.int .u64 0,.int .u64 0,.int .u64 0,.int .u64 0,.int .u64 0,.int .u64 0,.int .u64 0,.int .u64 0,.int .u64 0,.int .u64 0,.int .u64 0,.int .u64 0,.int .u64 0,.int .u64 0,.int .u64 0,.int .u64 0,.int .u64 0,.int .u64 0,.int .u64 0,.int .u64 0,.int .u64 0,.int .u64 0,.int .u64 0,.int .u64 0,.int .u64 0,.int .u64 0,.int .u64 0,.int .u64 0,.int .u64 0,.int .u64 0,.int .u64 0,.int .u64 0,.int .u64 0,.int .u64 0,.int .u64 0,.int .u64 0,.int .u64 0,.int .u64 0,.int .u64 0,.int .u64 0,.int .u64 0,.int .u64 0,.int .u64 0,.int .u64 0,.int .u64 0,.int .u64 0,.int .u64 0,.int .u64 0,.int .u64 0,.int .u64 0,.int .u64 0,.int .u64 0,.int .u64 0,.int .u64 0,.int .u64 0,.int .u64 0,.int .u64 0,.int .u64 0,.int .u64 0,.int .u64 0,.int .u64 0,.int .u64 0,.int .u64 0,.int .u64 0,.int .u64 0,.int .u64 0,.int .u64 0,.int .u64 0,.int .u64 0,.int .u64 0,.int .u64 0,.int .u64 0,.int .u64 0,.int .u64 0,.int .u64 0,.int .u64 0,.int .u64 0,.int .u64 0,.int .u64 0,.int .u64 0,.int .u64 0,.int .u64 0,.int .u64 0,.int .u64 0,.int .u64 0,.int .u64 0,.int .u64 0,.int .u64 0,.int .u64 0,.int .u64 0,.int .u64 0,.int .u64 0,.int .u64 0,.int .u64 0,.int .u64 0,.int .u64 0,.int .u64 0,.int .u64 0,.int .u64 0,.int .u64 0,.int .u64 0,.int .u64 0,.int .u64 0,.int .u64 0,.int .u64 0,.int .u64 0,.int .u64 0,.int .u64 0,.int .u64 0,.int .u64 0,.int .u64 0,.int .u64 0,.int .u64 0,.int .u64 0,.int .u64 0,.int .u64 0,.int .u64 0,.int .u64 0,.int .u64 0,.int .u64 0,.int .u64 0,.int .u64 0,.int .u64 0,.int .u64 0,.int .u64 0,.int .u64 0,.int .u64 0,.int .u64 0,.int .u64 0,.int .u64 0,.int .u64 0,.int .u64 0,.int .u64 0,.int .u64 0,.int .u64 0,.int .u64 0,.int .u64 0,.int .u64 0,.int .u64 0,.int .u64 0,.int .u64 0,.int .u64 0,.int .u64 0,.int .u64 0,.int .u64 0,.int .u64 0,.int .u64 0,.int .u64 0,.int .u64 0,.int .u64 0,.int .u64 0,.int .u64 0,.int .u64 0,.int .u64 0,.int .u64 0,.int .u64 0,.int .u64 0,.int .u64 0,.int .u64 0,.int .u64 0,.int .u64 0,.int .u64 0,.int .u64 0,.int .u64 0,.int .u64 0,.int .u64 0,.int .u64 0,.int .u64 0,.int .u64 0,.int .u64 0,.int .u64 0,.int .u64 0,.int .u64 0,.int .u64 0,.int .u64 0,.int .u64 0,.int .u64 0,.int .u64 0,.int .u64 0,.int .u64 0,.int .u64 0,.int .u64 0,.int .u64 0,.int .u64 0,.int .u64 0,.int .u64 0,.int .u64 0,.int .u64 0,.int .u64 0,.int .u64 0,.int .u64 0,.int .u64 0,.int .u64 0,.int .u64 0,.int .u64 0,.int .u64 0,.int .u64 0,.int .u64 0,.int .u64 0,.int .u64 0,.int .u64 0,.int .u64 0,.int .u64 0,.int .u64 0,.int .u64 0,.int .u64 0,.int .u64 0,.int .u64 0,.int .u64 0,.int .u64 0,.int .u64 0,.int .u64 0,.int .u64 0,.int .u64 0,.int .u64 0,.int .u64 0,.int .u64 0,.int .u64 0,.int .u64 0,.int .u64 0,.int .u64 0,.int .u64 0,.int .u64 0,.int .u64 0,.int .u64 0,.int .u64 0,.int .u64 0,.int .u64 0,.int .u64 0,.int .u64 0,.int .u64 0,.int .u64 0,.int .u64 0,.int .u64 0,.int .u64 0,.int .u64 0,.int .u64 0,.int .u64 0,.int .u64 0,.int .u64 0,.int .u64 0,.int .u64 0,.int .u64 0,.int .u64 0,.int .u64 0,.int .u64 0,.int .u64 0,.int .u64 0,.int .u64 0,.int .u64 0,.int .u64 0,.int .u64 0,.int .u64 0,.int .u64 0,.int .u64 0,.int .u64 0,.int .u64 0,.int .u64 0,.int .u64 0,.int .u64 0,.int .u64 0,.int .u64 0,.int .u64 0,.int .u64 0,.int .u64 0,.int .u64 0,.int .u64 0,.int .u64 0,.int .u64 0,.int .u64 0,.int .u64 0,.int .u64 0,.int .u64 0,.int .u64 0,.int .u64 0,.int .u64 0,.int .u64 0,.int .u64 0,.int .u64 0,.int .u64 0,.int .u64 0,.int .u64 0,.int .u64 0,.int .u64 0,.int .u64 0,.int .u64 0,.int .u64 0,.int .u64 0,.int .u64 0,.int .u64 0,.int .u64 0,.int .u64 0,.int .u64 0,.int .u64 0,.int .u64 0,.int .u64 0,.int .u64 0,.int .u64 0,.int .u64 0,.int .u64 0,.int .u64 0,.int .u64 0,.int .u64 0,.int .u64 0,.int .u64 0,.int .u64 0,.int .u64 0,.int .u64 0,.int .u64 0,.int .u64 0,.int .u64 0,.int .u64 0,.int .u64 0,.int .u64 0,.int .u64 0,.int .u64 0,.int .u64 0,.int .u64 0,.int .u64 0,.int .u64 0,.int .u64 0,.int .u64 0,.int .u64 0,.int .u64 0,.int .u64 0,.int .u64 0,.int .u64 0,.int .u64 0,.int .u64 0,.int .u64 0,.int .u64 0,.int .u64 0,.int .u64 0,.int .u64 0,.int .u64 0,.int .u64 0,.int .u64 0,.int .u64 0,.int .u64 0,.int .u64 0,.int .u64 0,.int .u64 0,.int .u64 0,.int .u64 0,.int .u64 0,.int .u64 0,.int .u64 0,.int .u64 0,.int .u64 0,.int .u64 0,.int .u64 0,.int .u64 0,.int .u64 0,.int .u64 0,.int .u64 0,.int .u64 0,.int .u64 0,.int .u64 0,.int .u64 0,.int .u64 0,.int .u64 0,.int .u64 0,.int .u64 0,.int .u64 0,.int .u64 0,.int .u64 0,.int .u64 0,.int .u64 0,.int .u64 0,.int .u64 0,.int .u64 0,.int .u64 0,.int .u64 0,.int .u64 0,.int .u64 0,.int .u64 0,.int .u64 0,.int .u64 0,.int .u64 0,.int .u64 0,.int .u64 0,.int .u64 0,.int .u64 0,.int .u64 0,.int .u64 0,.int .u64 0,.int .u64 0,.int .u64 0,.int .u64 0,.int .u64 0,.int .u64 0,.int .u64 0,.int .u64 0,.int .u64 0,.int .u64 0,.int .u64 0,.int .u64 0,.int .u64 0,.int .u64 0,.int .u64 0,.int .u64 0,.int .u64 0,.int .u64 0,.int .u64 0,.int .u64 0,.int .u64 0] 256 d fun j q=>
 Q (.tuple #[.pointer (some ⟨j,0,none⟩),.int .i64 0]) q)
def Xql:Nat→List (Nat×TypeId):=fun _=>[]
theorem Xma (a:Option Addr) (b:Nat) (c:Nat) (w:World) (Q:VWP) (h:Xm4 a b c w Q):Xa Tryz.prog 108 #[.slice a b c] w Q:=
 Xc Xql Tryz.func108 h (fun _ _=>by kernel_rfl) (by kernel_rfl) (by kernel_rfl) (by kernel_rfl)
def XbV (W:Option Addr) (B:Option Addr) (C:Nat) (D:Nat) (E:Option Addr) (F:Nat) (G:Nat) (w:World) (Q:VWP):Prop:=
 Xa Tryz.prog 179 #[.slice B C D] w fun X Y=>
 ∃ H I J,X=.slice H I J∧
 Xa Tryz.prog 179 #[.slice E F G] Y fun L Z=>
 ∃ c d e,L=.slice c d e∧
 Xa Tryz.prog 180 #[.slice B C D,.slice E F G] Z fun M aa=>
 ∃ f a,M=.agg #[.int .u64 f,.int .u64 a]∧
 ∃ g i j N,Ef Tryz.prog (Instr.buildSlice 278 1 #[(0,.agg #[.int .u64 f,.int .u64 a])]) aa (.slice g i j) N∧
 ∃ k l m O,Ef Tryz.prog (Instr.buildSlice 293 3 #[(0,.slice H I J),(1,.slice c d e),(2,.slice g i j)]) N (.slice k l m) O∧
 Xa Tryz.prog 178 #[.slice k l m] O fun P ab=>
 ∃ n o p,P=.slice n o p∧
 Xa Tryz.prog 181 #[.pointer W,.agg #[.int .u64 0,.int .u64 0],.slice n o p] ab fun R ac=>
 ∃ q b,R=.agg #[.int .u64 q,.int .u64 b]∧
 Xa Tryz.prog 182 #[.agg #[.int .u64 q,.int .u64 b]] ac fun S ad=>
 ∃ r s t,S=.slice r s t∧
 ∃ u v x T,Ef Tryz.prog (Instr.buildSlice 161 1 #[(0,.slice r s t)]) ad (.slice u v x) T∧
 Xa Tryz.prog 118 #[.slice u v x] T fun U V=>
 ∃ y z A,U=.slice y z A∧
 Q (.slice y z A) V
def Xhj:Nat→List (Nat×TypeId):=fun _=>[]
theorem Xez (a:Option Addr) (b:Option Addr) (c:Nat) (d:Nat) (e:Option Addr) (f:Nat) (g:Nat) (w:World) (Q:VWP) (h:XbV a b c d e f g w Q):Xa Tryz.prog 154 #[.pointer a,.slice b c d,.slice e f g] w Q:=
 Xc Xhj Tryz.func154 h (fun _ _=>by kernel_rfl) (by kernel_rfl) (by kernel_rfl) (by kernel_rfl)
noncomputable def YZ (i:Nat):Array Tmp×Code×Code:=(rfs (Tryz.f179.body.getD .skip)).getD i (#[],.skip,.skip)
def XfA (e:Option Addr) (f:Nat) (g:Nat) (w:World) (Q:VWP):Prop:=
 ∃ j,Pu Tryz.prog (zeroValue 278) j∧
 New j.cells 278 w fun k n=>
 Xa Tryz.prog 200 #[.slice e f g,.int .i64 16] n fun o p=>
 ∃ i,o=i∧
 RangeF Tryz.prog (i) #[.slice e f g,.tuple #[],.slice none 0 0,.pointer (some ⟨k,0,none⟩),.tuple #[],.tuple #[],.tuple #[],.tuple #[],.slice e f g,i,.tuple #[],.tuple #[],.tuple #[],.tuple #[],.tuple #[],.tuple #[],.tuple #[],.tuple #[],.tuple #[],.tuple #[],.tuple #[],.tuple #[],.tuple #[],.tuple #[]] (YZ 0) p (fun krf a=>
 ∃ b c d,Ld Tryz.prog 278 (.pointer (some ⟨k,0,none⟩)) a (.slice b c d)∧
 ∃ l,Tk Tryz.prog krf a l∧
 Q (.slice b c d) l) (fun krf a=>
 ∃ m,Tk Tryz.prog krf a m∧
 Q (.slice none 0 0) m)
def Xkj:Nat→List (Nat×TypeId):=fun _=>[]
theorem Xhk (a:Option Addr) (b:Nat) (c:Nat) (w:World) (Q:VWP) (h:XfA a b c w Q):Xa Tryz.prog 179 #[.slice a b c] w Q:=
 Xc Xkj Tryz.func179 h (fun _ _=>by kernel_rfl) (by kernel_rfl) (by kernel_rfl) (by kernel_rfl)
def U8 (y:Addr) (z:Option Addr) (A:Nat) (B:Nat) (l:Nat) (w:World) (Q:VWP):Prop:=
 BegR Tryz.prog l w fun N=>
 ∃ C,Pu Tryz.prog (zeroValue 222) C∧
 New C.cells 222 N fun D O=>
 ∃ e f g,Pu Tryz.prog (Instr.sliceAt 222 (.pointer (some ⟨D,0,none⟩)) none none none) (.slice e f g)∧
 ∃ E F,Ef Tryz.prog (Builtin.copy_ #[22,22] 3 #[.slice e f g,.slice z A B]) O (.int .i64 E) F∧
 ∃ i j k,Pu Tryz.prog (Instr.sliceAt 222 (.pointer (some ⟨D,0,none⟩)) none none none) (.slice i j k)∧
 Xa Tryz.prog 146 #[.slice i j k] F fun G P=>
 ∃ m a c,G=.tuple #[.agg #[.int .u64 m,.int .u64 a],.int .i64 c]∧
 ∃ H,Pu Tryz.prog (zeroValue 240) H∧
 New H.cells 240 P fun I R=>
 ∃ d,Sto Tryz.prog 240 (.pointer (some ⟨I,0,none⟩)) (.agg #[.int .u64 m,.int .u64 a]) R d∧
 ∃ n o p,Ld Tryz.prog 278 (.pointer (some y)) d (.slice n o p)∧
 ∃ q b,Ld Tryz.prog 240 (.pointer (some ⟨I,0,none⟩)) d (.agg #[.int .u64 q,.int .u64 b])∧
 ∃ r s t J,Ef Tryz.prog (Instr.buildSlice 278 1 #[(0,.agg #[.int .u64 q,.int .u64 b])]) d (.slice r s t) J∧
 ∃ u v x L,Ef Tryz.prog (Builtin.append_ #[278,278] 278 #[.slice n o p,.slice r s t]) J (.slice u v x) L∧
 ∃ M,Sto Tryz.prog 278 (.pointer (some y)) (.slice u v x) L M∧
 EndR Tryz.prog l none true M Q
def V5:Nat→List (Nat×TypeId):=fun _=>[]
def V6:Nat→List (Nat×TypeId):=fun _=>[]
theorem XcY (d:Addr) (a:Option Addr) (b:Nat) (c:Nat) {v x y z A B C D E F g i j k m n o p q r s t u:Value} {l df:Nat} {fn:FuncId} {w:World} {Q:VWP} (h:LpAt w l (UY fn #[v,x,y,.pointer (some d),z,A,B,C,D,E,F,g,i,j,k,m,n,o,p,q,r,s,t,u] (YZ 0).1 (YZ 0).2.1 (YZ 0).2.2 df)) (hq:U8 d a b c l w Q):YA Tryz.prog (.func (.yield l) #[] #[]) [.slice a b c] w Q:=by
 have e:U8 d a b c l w Q=sw Tryz.prog (some l) 24 V5 (YZ 0).2.1 0 (Xyq Tryz.prog l 24 V6 (YZ 0).2.2 Q) ⟨Vv [v,x,y,.pointer (some d),z,A,B,C,D,E,.slice a b c,g,i,j,k,m,n,o,p,q,r,s,t,u],[]⟩ w:=by kernel_rfl
 have h2:=XrB (f:=fn) V5 V6 (nt:=24) (by kernel_rfl) (Eq.mp e hq)
 refine Xxn h ?_ ?_ h2
 · kernel_rfl
 · kernel_rfl
def XdU (j:Option Addr) (f:Nat) (k:Nat) (l:Option Addr) (g:Nat) (m:Nat) (w:World) (Q:VWP):Prop:=
 ∃ b,Pu Tryz.prog (zeroValue 240) b∧
 New b.cells 240 w fun c i=>
 ∃ a,Sto Tryz.prog 240 (.pointer (some ⟨c,0,none⟩)) (.agg #[.int .u64 (IntKind.u64.wrap ((IntKind.u64.wrap ((f:Nat):Int))*8)),.int .u64 (IntKind.u64.wrap ((IntKind.u64.wrap ((g:Nat):Int))*8))]) i a∧
 ∃ d e,(.pointer (some ⟨c,0,none⟩):Value)=.pointer (some d)∧(loadVar 240 d).run Tryz.prog a=.ok e a∧
 Q (e) a
def XiQ:Nat→List (Nat×TypeId):=fun _=>[]
theorem XfB (a:Option Addr) (b:Nat) (c:Nat) (d:Option Addr) (e:Nat) (f:Nat) (w:World) (Q:VWP) (h:XdU a b c d e f w Q):Xa Tryz.prog 180 #[.slice a b c,.slice d e f] w Q:=
 Xc XiQ Tryz.func180 h (fun _ _=>by kernel_rfl) (by kernel_rfl) (by kernel_rfl) (by kernel_rfl)
def V7 (g:Addr) (e:Addr) (w:World) (Q:VWP):Prop:=
 ∃ d a,Ld Tryz.prog 240 (.pointer (some g)) w (.agg #[.int .u64 d,.int .u64 a])∧
 ∃ c,Sto Tryz.prog 240 (.pointer (some e)) (.agg #[.int .u64 d,.int .u64 a]) w c∧
 ∃ b f,(.pointer (some e):Value)=.pointer (some b)∧(loadVar 240 b).run Tryz.prog c=.ok f c∧
 Q (f) c
def Xan (L:Option Addr) (M:Int) (x:Int) (N:Option Addr) (C:Nat) (O:Nat) (w:World) (Q:VWP):Prop:=
 New #[.int .u64 M,.int .u64 x] 240 w fun P R=>
 ∃ D,Pu Tryz.prog (zeroValue 240) D∧
 New D.cells 240 R fun S T=>
 LoopS [.pointer L,.pointer (some ⟨P,0,none⟩),.pointer (some ⟨S,0,none⟩),.slice N C O,.int .i64 ((C:Nat):Int),.int .i64 0] T fun U V m _ b=>
 ∃ a j y z A B k c,m=[.pointer a,.pointer (some j),.pointer (some y),.slice z A B,.int .i64 k,.int .i64 c]∧
 cond (decide (c<k))
 (∃ n,IxA Tryz.prog 278 (.slice z A B) (.int .i64 c) n∧
 ∃ o d,Ld Tryz.prog 240 (.pointer (some n)) b (.agg #[.int .u64 o,.int .u64 d])∧
 ∃ E,Pu Tryz.prog (zeroValue 240) E∧
 New E.cells 240 b fun F W=>
 ∃ l,Sto Tryz.prog 240 (.pointer (some ⟨F,0,none⟩)) (.agg #[.int .u64 o,.int .u64 d]) W l∧
 ∃ p e,Ld Tryz.prog 240 (.pointer (some j)) l (.agg #[.int .u64 p,.int .u64 e])∧
 ∃ q f,Ld Tryz.prog 240 (.pointer (some ⟨F,0,none⟩)) l (.agg #[.int .u64 q,.int .u64 f])∧
 ∃ r s t G,Ef Tryz.prog (Instr.buildSlice 278 2 #[(0,.agg #[.int .u64 p,.int .u64 e]),(1,.agg #[.int .u64 q,.int .u64 f])]) l (.slice r s t) G∧
 Xa Tryz.prog 202 #[.slice r s t] G fun H X=>
 ∃ u g,H=.agg #[.int .u64 u,.int .u64 g]∧
 Xa Tryz.prog 201 #[.pointer a,.agg #[.int .u64 u,.int .u64 g]] X fun I Y=>
 ∃ v i,I=.agg #[.int .u64 v,.int .u64 i]∧
 ∃ J,Sto Tryz.prog 240 (.pointer (some j)) (.agg #[.int .u64 v,.int .u64 i]) Y J∧
 Xh [] [] U V m [.pointer a,.pointer (some j),.pointer (some y),.slice z A B,.int .i64 k,.int .i64 (IntKind.i64.wrap (c+1))] b J)
 (V7 j y b Q)
def XfC:Nat→List (Nat×TypeId):=fun n=>match n with | 0=>[(0,187),(4,1000000),(6,1000000),(9,278),(10,3),(11,3)] | _=>[]
theorem XcZ (b:Option Addr) (c:Int) (a:Int) (d:Option Addr) (e:Nat) (f:Nat) (w:World) (Q:VWP) (h:Xan b c a d e f w Q):Xa Tryz.prog 181 #[.pointer b,.agg #[.int .u64 c,.int .u64 a],.slice d e f] w Q:=
 Xc XfC Tryz.func181 h (fun _ _=>by kernel_rfl) (by kernel_rfl) (by kernel_rfl) (by kernel_rfl)
def Zu (B:Inv) (C:JQ) (s:List Value) (t:World) (u:Option Addr) (D:Addr) (E:Addr) (q:Addr) (r:Int) (v:Int) (x:Int) (w:World) (Q:VWP):Prop:=
 ∃ (e:World→Prop),
 Drw w fun d=>
 ∃ f,Pu Tryz.prog (do eqGuard .shr 28 (.tmp 31) (.tmp 32) (.int .u64 v) (.int .i64 (IntKind.i64.wrap (4*(IntKind.i64.wrap (15 - (Int.tmod r 16)))))); binOp .shr 28 (.int .u64 v) (.int .i64 (IntKind.i64.wrap (4*(IntKind.i64.wrap (15 - (Int.tmod r 16)))))):Sem Value) (.int .u64 f)∧
 ∃ g,u=some g∧
 ∃ i,IxA Tryz.prog 254 (.pointer (some (g.add 6))) (.int .i64 r) i∧
 ∃ j,IxA Tryz.prog 253 (.pointer (some i)) (.int .u64 (Y4 .u64 f 15)) j∧
 ∃ k a,HLd Tryz.prog e 240 (.pointer (some q)) d (.agg #[.int .u64 k,.int .u64 a])∧
 ∃ l b,Ld Tryz.prog 240 (.pointer (some j)) d (.agg #[.int .u64 l,.int .u64 b])∧
 (d=d∨e d)∧
 ∃ m n o y,Ef Tryz.prog (Instr.buildSlice 278 2 #[(0,.agg #[.int .u64 k,.int .u64 a]),(1,.agg #[.int .u64 l,.int .u64 b])]) d (.slice m n o) y∧
 Xa Tryz.prog 202 #[.slice m n o] y fun z F=>
 ∃ p c,z=.agg #[.int .u64 p,.int .u64 c]∧
 ∃ A,Sto Tryz.prog 240 (.pointer (some q)) (.agg #[.int .u64 p,.int .u64 c]) F A∧
 Xh [] [] B C s [.pointer u,.pointer (some D),.pointer (some E),.pointer (some q),.int .i64 (IntKind.i64.wrap (x+1))] t A
def Vt (e:Addr) (g:Addr) (w:World) (Q:VWP):Prop:=
 ∃ d a,Ld Tryz.prog 240 (.pointer (some g)) w (.agg #[.int .u64 d,.int .u64 a])∧
 ∃ c,Sto Tryz.prog 240 (.pointer (some e)) (.agg #[.int .u64 d,.int .u64 a]) w c∧
 ∃ b f,(.pointer (some e):Value)=.pointer (some b)∧(loadVar 240 b).run Tryz.prog c=.ok f c∧
 Q (f) c
def Qy (l:Option Addr) (s:Int) (m:Int) (w:World) (Q:VWP):Prop:=
 New #[.int .u64 s,.int .u64 m] 240 w fun t u=>
 ∃ n,Pu Tryz.prog (zeroValue 240) n∧
 New n.cells 240 u fun v x=>
 ∃ i,l=some i∧
 Xa Tryz.prog 197 #[.pointer (some (i.add 2)),.func (.func 213) #[.pointer l] #[]] x fun o y=>
 o=.tuple #[]∧
 ∃ p,Pu Tryz.prog (zeroValue 240) p∧
 New p.cells 240 y fun z A=>
 LoopS [.pointer l,.pointer (some ⟨t,0,none⟩),.pointer (some ⟨v,0,none⟩),.pointer (some ⟨z,0,none⟩),.int .i64 0] A fun q r d _ a=>
 ∃ c e f g b,d=[.pointer c,.pointer (some e),.pointer (some f),.pointer (some g),.int .i64 b]∧
 cond (decide (b<32))
 (∃ j,Ld Tryz.prog 28 (.pointer (some (e.add 0))) a (.int .u64 j)∧
 cond (decide (b≥16))
 (∃ k,Ld Tryz.prog 28 (.pointer (some (e.add 1))) a (.int .u64 k)∧
 Zu q r d a c e f g b k b a Q)
 (Zu q r d a c e f g b j b a Q))
 (Vt f g a Q)
def XeA:Nat→List (Nat×TypeId):=fun n=>match n with | 0=>[(0,187),(3,1000000),(4,1000000),(5,1000000),(15,3)] | _=>[]
theorem XbW (b:Option Addr) (c:Int) (a:Int) (w:World) (Q:VWP) (h:Qy b c a w Q):Xa Tryz.prog 201 #[.pointer b,.agg #[.int .u64 c,.int .u64 a]] w Q:=
 Xc XeA Tryz.func201 h (fun _ _=>by kernel_rfl) (by kernel_rfl) (by kernel_rfl) (by kernel_rfl)
def Xao (o:Option Addr) (w:World) (Q:VWP):Prop:=
 ∃ p,o=some p∧
 Xa Tryz.prog 41 #[.pointer (some (p.add 5)),.int .i64 1] w fun z q=>
 ∃ A,z=.int .i64 A∧
 ∃ r,o=some r∧
 ∃ i b,Ld Tryz.prog 240 (.pointer (some (r.add 0))) q (.agg #[.int .u64 i,.int .u64 b])∧
 ∃ s,Pu Tryz.prog (zeroValue 240) s∧
 New s.cells 240 q fun t B=>
 ∃ u,Sto Tryz.prog 240 (.pointer (some ⟨t,0,none⟩)) (.agg #[.int .u64 i,.int .u64 b]) B u∧
 LoopS [.pointer o,.pointer (some ⟨t,0,none⟩),.int .i64 0] u fun C D j _ f=>
 ∃ a g c,j=[.pointer a,.pointer (some g),.int .i64 c]∧
 cond (decide (c<32))
 (Drw f fun v=>
 ∃ k,a=some k∧
 ∃ l,IxA Tryz.prog 254 (.pointer (some (k.add 6))) (.int .i64 c) l∧
 ∃ m d,Ld Tryz.prog 240 (.pointer (some g)) v (.agg #[.int .u64 m,.int .u64 d])∧
 Xa Tryz.prog 223 #[.pointer (some l),.agg #[.int .u64 m,.int .u64 d]] v fun x E=>
 ∃ n e,x=.agg #[.int .u64 n,.int .u64 e]∧
 ∃ y,Sto Tryz.prog 240 (.pointer (some g)) (.agg #[.int .u64 n,.int .u64 e]) E y∧
 Xh [] [] C D j [.pointer a,.pointer (some g),.int .i64 (IntKind.i64.wrap (c+1))] f y)
 (Q (.tuple #[]) f)
def XfD:Nat→List (Nat×TypeId):=fun n=>match n with | 0=>[(0,187),(2,1000000),(12,3)] | _=>[]
theorem Xc0 (a:Option Addr) (w:World) (Q:VWP) (h:Xao a w Q):Xa Tryz.prog 213 #[.pointer a] w Q:=
 Xc XfD Tryz.func213 h (fun _ _=>by kernel_rfl) (by kernel_rfl) (by kernel_rfl) (by kernel_rfl)
def WL (g:Addr) (e:Addr) (w:World) (Q:VWP):Prop:=
 ∃ d a,Ld Tryz.prog 240 (.pointer (some g)) w (.agg #[.int .u64 d,.int .u64 a])∧
 ∃ c,Sto Tryz.prog 240 (.pointer (some e)) (.agg #[.int .u64 d,.int .u64 a]) w c∧
 ∃ b f,(.pointer (some e):Value)=.pointer (some b)∧(loadVar 240 b).run Tryz.prog c=.ok f c∧
 Q (f) c
def WM (E:Option Addr) (F:Addr) (G:Addr) (w:World) (Q:VWP):Prop:=
 LoopS [.pointer E,.pointer (some F),.pointer (some G),.int .i64 0] w fun z A k _ e=>
 ∃ b c d a,k=[.pointer b,.pointer (some c),.pointer (some d),.int .i64 a]∧
 cond (decide (a<16))
 (cond ((Y4 .i64 a (IntKind.i64.wrap (0 - a))) != a)
 (∃ (l:World→Prop),
 Drw e fun j=>
 ∃ m,b=some m∧
 ∃ n,IxA Tryz.prog 253 (.pointer (some m)) (.int .i64 (Y4 .i64 a (IntKind.i64.wrap (0 - a)))) n∧
 ∃ o,b=some o∧
 ∃ p,IxA Tryz.prog 253 (.pointer (some o)) (.int .i64 (IntKind.i64.wrap (a - (Y4 .i64 a (IntKind.i64.wrap (0 - a)))))) p∧
 ∃ q,b=some q∧
 ∃ r f,HLd Tryz.prog l 240 (.pointer (some n)) j (.agg #[.int .u64 r,.int .u64 f])∧
 ∃ s g,Ld Tryz.prog 240 (.pointer (some p)) j (.agg #[.int .u64 s,.int .u64 g])∧
 (j=j∨l j)∧
 ∃ t u v B,Ef Tryz.prog (Instr.buildSlice 278 2 #[(0,.agg #[.int .u64 r,.int .u64 f]),(1,.agg #[.int .u64 s,.int .u64 g])]) j (.slice t u v) B∧
 Xa Tryz.prog 202 #[.slice t u v] B fun C H=>
 ∃ x i,C=.agg #[.int .u64 x,.int .u64 i]∧
 ∃ y,IxA Tryz.prog 253 (.pointer (some q)) (.int .i64 a) y∧
 ∃ D,Sto Tryz.prog 240 (.pointer (some y)) (.agg #[.int .u64 x,.int .u64 i]) H D∧
 Xh [] [] z A k [.pointer b,.pointer (some c),.pointer (some d),.int .i64 (IntKind.i64.wrap (a+1))] e D)
 (Xh [] [] z A k [.pointer b,.pointer (some c),.pointer (some d),.int .i64 (IntKind.i64.wrap (a+1))] e e))
 (WL c d e Q)
def XbX (v:Option Addr) (x:Int) (o:Int) (w:World) (Q:VWP):Prop:=
 New #[.int .u64 x,.int .u64 o] 240 w fun y z=>
 ∃ r,Pu Tryz.prog (zeroValue 240) r∧
 New r.cells 240 z fun A B=>
 LoopS [.pointer v,.pointer (some ⟨y,0,none⟩),.pointer (some ⟨A,0,none⟩),.int .i64 8] B fun C D i _ f=>
 ∃ a e p g,i=[.pointer a,.pointer (some e),.pointer (some p),.int .i64 g]∧
 cond (decide (g > 0))
 (Drw f fun s=>
 ∃ j,a=some j∧
 ∃ k b,Ld Tryz.prog 240 (.pointer (some e)) s (.agg #[.int .u64 k,.int .u64 b])∧
 ∃ l,IxA Tryz.prog 253 (.pointer (some j)) (.int .i64 g) l∧
 ∃ q,Sto Tryz.prog 240 (.pointer (some l)) (.agg #[.int .u64 k,.int .u64 b]) s q∧
 ∃ m c,Ld Tryz.prog 240 (.pointer (some e)) q (.agg #[.int .u64 m,.int .u64 c])∧
 Xa Tryz.prog 228 #[.agg #[.int .u64 m,.int .u64 c]] q fun t E=>
 ∃ n d,t=.agg #[.int .u64 n,.int .u64 d]∧
 ∃ u,Sto Tryz.prog 240 (.pointer (some e)) (.agg #[.int .u64 n,.int .u64 d]) E u∧
 Xh [] [] C D i [.pointer a,.pointer (some e),.pointer (some p),.int .i64 (Int.fdiv g (2 ^ 1))] f u)
 (WM a e p f Q)
def Xhl:Nat→List (Nat×TypeId):=fun n=>match n with | 0=>[(0,310),(3,1000000),(4,1000000),(5,3)] | 2=>[(0,310),(3,1000000),(4,1000000),(19,3)] | _=>[]
theorem XeB (b:Option Addr) (c:Int) (a:Int) (w:World) (Q:VWP) (h:XbX b c a w Q):Xa Tryz.prog 223 #[.pointer b,.agg #[.int .u64 c,.int .u64 a]] w Q:=
 Xc Xhl Tryz.func223 h (fun _ _=>by kernel_rfl) (by kernel_rfl) (by kernel_rfl) (by kernel_rfl)
end Go.Sh
end

section
namespace Go.Sh
open Go Go.Fw Go.Proofs
set_option maxRecDepth 100000
set_option linter.unusedVariables false
def XsH (n:Option Addr) (o:Nat) (p:Nat) (w:World) (Q:VWP):Prop:=
 Xa Tryz.prog 106 #[.slice n o p] w fun q r=>
 ∃ a b,q=.tuple #[.pointer a,.int .i64 b]∧
 cond (b != 0)
 (Q (.tuple #[.pointer none,.int .i64 b]) r)
 (∃ c d e s,Ef Tryz.prog (Instr.makeSlice 22 (.int .i64 16) (.int .i64 16)) r (.slice c d e) s∧
 Xa Tryz.prog 107 #[.pointer a,.slice c d e] s fun t A=>
 ∃ f g i u,t=.tuple #[.slice f g i,.int .i64 u]∧
 Xa Tryz.prog 108 #[.slice f g i] A fun v B=>
 ∃ j x,v=.tuple #[.pointer j,.int .i64 x]∧
 Xa Tryz.prog 60 #[.slice n o p] B fun y C=>
 ∃ k l m,y=.slice k l m∧
 New #[.slice k l m,.pointer a,.pointer j,.int .i64 0] 191 C fun z D=>
 Q (.tuple #[.pointer (some ⟨z,0,none⟩),.int .i64 0]) D)
def XtE:Nat→List (Nat×TypeId):=fun _=>[]
theorem Xqm (a:Option Addr) (b:Nat) (c:Nat) (w:World) (Q:VWP) (h:XsH a b c w Q):Xa Tryz.prog 69 #[.slice a b c] w Q:=
 Xc XtE Tryz.func69 h (fun _ _=>by kernel_rfl) (by kernel_rfl) (by kernel_rfl) (by kernel_rfl)
def XfE (E:Option Addr) (F:Option Addr) (G:Nat) (H:Nat) (c:Option Addr) (a:Nat) (d:Nat) (J:Option Addr) (L:Nat) (M:Nat) (w:World) (Q:VWP):Prop:=
 ∃ e,Pu Tryz.prog (Builtin.max_ #[3,3] 3 #[.int .i64 (IntKind.i64.wrap (((a:Nat):Int) - 16)),.int .i64 0]) (.int .i64 e)∧
 ∃ f g i,Pu Tryz.prog (Instr.sliceAt 22 (.slice c a d) none (some (.int .i64 e)) none) (.slice f g i)∧
 ∃ j k l N,Ef Tryz.prog (Instr.buildSlice 161 2 #[(0,.slice f g i),(1,.slice J L M)]) w (.slice j k l) N∧
 Xa Tryz.prog 115 #[.slice F G H,.slice j k l] N fun O I=>
 ∃ b,O=.int .i64 b∧
 cond (b != 0)
 (Q (.tuple #[.slice none 0 0,.int .i64 b]) I)
 (cond (decide ((IntKind.i64.wrap (((a:Nat):Int) - 16))<0))
 (Q (.tuple #[.slice none 0 0,.int .i64 12]) I)
 (∃ m n o,Pu Tryz.prog (Instr.sliceAt 22 (.slice c a d) none (some (.int .i64 (IntKind.i64.wrap (((a:Nat):Int) - 16)))) none) (.slice m n o)∧
 Xa Tryz.prog 116 #[.pointer E,.slice F G H,.slice m n o,.slice J L M] I fun P X=>
 ∃ p q r R,P=.tuple #[.slice p q r,.int .i64 R]∧
 ∃ s t u,Pu Tryz.prog (Instr.sliceAt 22 (.slice c a d) (some (.int .i64 (IntKind.i64.wrap (((a:Nat):Int) - 16)))) none none) (.slice s t u)∧
 Xa Tryz.prog 51 #[.slice p q r,.slice s t u] X fun S T=>
 ∃ v,S=.bool v∧
 cond (!v)
 (∃ x,E=some x∧
 Xa Tryz.prog 41 #[.pointer (some (x.add 3)),.int .i64 1] T fun U Y=>
 ∃ V,U=.int .i64 V∧
 Q (.tuple #[.slice none 0 0,.int .i64 13]) Y)
 (∃ y z A,Pu Tryz.prog (Instr.sliceAt 22 (.slice c a d) none (some (.int .i64 (IntKind.i64.wrap (((a:Nat):Int) - 16)))) none) (.slice y z A)∧
 Xa Tryz.prog 117 #[.pointer E,.slice F G H,.slice y z A] T fun W Z=>
 ∃ B C D,W=.slice B C D∧
 Q (.tuple #[.slice B C D,.int .i64 0]) Z)))
def Xkk:Nat→List (Nat×TypeId):=fun _=>[]
theorem Xhm (a:Option Addr) (b:Option Addr) (c:Nat) (d:Nat) (e:Option Addr) (f:Nat) (g:Nat) (i:Option Addr) (j:Nat) (k:Nat) (w:World) (Q:VWP) (h:XfE a b c d e f g i j k w Q):Xa Tryz.prog 76 #[.pointer a,.slice b c d,.slice e f g,.slice i j k] w Q:=
 Xc Xkk Tryz.func76 h (fun _ _=>by kernel_rfl) (by kernel_rfl) (by kernel_rfl) (by kernel_rfl)
def XfF (u:Option Addr) (r:Option Addr) (s:Nat) (t:Nat) (v:Option Addr) (x:Nat) (y:Nat) (z:Option Addr) (A:Nat) (B:Nat) (w:World) (Q:VWP):Prop:=
 ∃ e f g C,Ef Tryz.prog (Instr.buildSlice 161 2 #[(0,.slice v x y),(1,.slice z A B)]) w (.slice e f g) C∧
 Xa Tryz.prog 115 #[.slice r s t,.slice e f g] C fun D E=>
 ∃ a,D=.int .i64 a∧
 cond (a != 0)
 (Q (.tuple #[.slice none 0 0,.int .i64 a]) E)
 (Xa Tryz.prog 117 #[.pointer u,.slice r s t,.slice v x y] E fun F L=>
 ∃ b c d,F=.slice b c d∧
 Xa Tryz.prog 116 #[.pointer u,.slice r s t,.slice b c d,.slice z A B] L fun G M=>
 ∃ i j k H,G=.tuple #[.slice i j k,.int .i64 H]∧
 ∃ l m n I,Ef Tryz.prog (Instr.buildSlice 161 2 #[(0,.slice b c d),(1,.slice i j k)]) M (.slice l m n) I∧
 Xa Tryz.prog 118 #[.slice l m n] I fun J N=>
 ∃ o p q,J=.slice o p q∧
 Q (.tuple #[.slice o p q,.int .i64 0]) N)
def Xkl:Nat→List (Nat×TypeId):=fun _=>[]
theorem Xhn (a:Option Addr) (b:Option Addr) (c:Nat) (d:Nat) (e:Option Addr) (f:Nat) (g:Nat) (i:Option Addr) (j:Nat) (k:Nat) (w:World) (Q:VWP) (h:XfF a b c d e f g i j k w Q):Xa Tryz.prog 92 #[.pointer a,.slice b c d,.slice e f g,.slice i j k] w Q:=
 Xc Xkl Tryz.func92 h (fun _ _=>by kernel_rfl) (by kernel_rfl) (by kernel_rfl) (by kernel_rfl)
def Xm5 (i:Option Addr) (d:Nat) (j:Nat) (e:Option Addr) (f:Nat) (g:Nat) (w:World) (Q:VWP):Prop:=
 cond (((d:Nat):Int) != 12)
 (Q (.int .i64 11) w)
 (Xa Tryz.prog 151 #[.slice e f g,.func (.func 150) #[] #[]] w fun b c=>
 ∃ a,b=.bool a∧
 cond a
 (Q (.int .i64 11) c)
 (Q (.int .i64 0) c))
def Xqn:Nat→List (Nat×TypeId):=fun _=>[]
theorem Xmb (a:Option Addr) (b:Nat) (c:Nat) (d:Option Addr) (e:Nat) (f:Nat) (w:World) (Q:VWP) (h:Xm5 a b c d e f w Q):Xa Tryz.prog 115 #[.slice a b c,.slice d e f] w Q:=
 Xc Xqn Tryz.func115 h (fun _ _=>by kernel_rfl) (by kernel_rfl) (by kernel_rfl) (by kernel_rfl)
def XhT (z:Option Addr) (A:Option Addr) (B:Nat) (C:Nat) (D:Option Addr) (E:Nat) (F:Nat) (G:Option Addr) (H:Nat) (I:Nat) (w:World) (Q:VWP):Prop:=
 ∃ b c d J,Ef Tryz.prog (Instr.buildSlice 161 2 #[(0,.slice D E F),(1,.slice G H I)]) w (.slice b c d) J∧
 Xa Tryz.prog 115 #[.slice A B C,.slice b c d] J fun L M=>
 ∃ a,L=.int .i64 a∧
 cond (a != 0)
 (Q (.tuple #[.slice none 0 0,.int .i64 a]) M)
 (∃ (N:World→Prop),
 Drw M fun x=>
 ∃ e,z=some e∧
 ∃ f,HLd Tryz.prog N 183 (.pointer (some (e.add 1))) x (.pointer f)∧
 Xa Tryz.prog 152 #[.slice A B C] x fun O y=>
 ∃ g i j,O=.slice g i j∧
 (y=x∨N y)∧
 Xa Tryz.prog 107 #[.pointer f,.slice g i j] y fun P R=>
 ∃ k l m S,P=.tuple #[.slice k l m,.int .i64 S]∧
 ∃ n,z=some n∧
 ∃ o,Ld Tryz.prog 187 (.pointer (some (n.add 2))) R (.pointer o)∧
 Xa Tryz.prog 154 #[.pointer o,.slice G H I,.slice D E F] R fun T V=>
 ∃ p q r,T=.slice p q r∧
 Xa Tryz.prog 153 #[.slice p q r,.slice k l m] V fun U W=>
 ∃ s t u v,U=.tuple #[.slice s t u,.int .i64 v]∧
 Q (.tuple #[.slice s t u,.int .i64 v]) W)
def Xmc:Nat→List (Nat×TypeId):=fun _=>[]
theorem XiR (a:Option Addr) (b:Option Addr) (c:Nat) (d:Nat) (e:Option Addr) (f:Nat) (g:Nat) (i:Option Addr) (j:Nat) (k:Nat) (w:World) (Q:VWP) (h:XhT a b c d e f g i j k w Q):Xa Tryz.prog 116 #[.pointer a,.slice b c d,.slice e f g,.slice i j k] w Q:=
 Xc Xmc Tryz.func116 h (fun _ _=>by kernel_rfl) (by kernel_rfl) (by kernel_rfl) (by kernel_rfl)
def XfG (u:Option Addr) (v:Option Addr) (x:Nat) (y:Nat) (z:Option Addr) (A:Nat) (B:Nat) (w:World) (Q:VWP):Prop:=
 Xa Tryz.prog 152 #[.slice v x y] w fun o C=>
 ∃ a b c,o=.slice a b c∧
 Xa Tryz.prog 155 #[.slice a b c] C fun p q=>
 ∃ d e f r,p=.tuple #[.slice d e f,.int .i64 r]∧
 ∃ g,u=some g∧
 ∃ i j k,Ld Tryz.prog 22 (.pointer (some (g.add 0))) q (.slice i j k)∧
 Xa Tryz.prog 156 #[.slice i j k,.slice d e f,.slice z A B] q fun s D=>
 ∃ l m n t,s=.tuple #[.slice l m n,.int .i64 t]∧
 Q (.slice l m n) D
def Xkm:Nat→List (Nat×TypeId):=fun _=>[]
theorem Xho (a:Option Addr) (b:Option Addr) (c:Nat) (d:Nat) (e:Option Addr) (f:Nat) (g:Nat) (w:World) (Q:VWP) (h:XfG a b c d e f g w Q):Xa Tryz.prog 117 #[.pointer a,.slice b c d,.slice e f g] w Q:=
 Xc Xkm Tryz.func117 h (fun _ _=>by kernel_rfl) (by kernel_rfl) (by kernel_rfl) (by kernel_rfl)
def XfH (b:Option Addr) (a:Nat) (c:Nat) (w:World) (Q:VWP):Prop:=
 Q (.bool (decide (((a:Nat):Int) > 65535))) w
def Xkn:Nat→List (Nat×TypeId):=fun _=>[]
theorem Xhp (a:Option Addr) (b:Nat) (c:Nat) (w:World) (Q:VWP) (h:XfH a b c w Q):Xa Tryz.prog 150 #[.slice a b c] w Q:=
 Xc Xkn Tryz.func150 h (fun _ _=>by kernel_rfl) (by kernel_rfl) (by kernel_rfl) (by kernel_rfl)
def Xm6 (m:Option Addr) (n:Nat) (o:Nat) (w:World) (Q:VWP):Prop:=
 Xa Tryz.prog 159 #[.int .u64 1,.int .i64 4] w fun p q=>
 ∃ g i j r,p=.tuple #[.slice g i j,.int .i64 r]∧
 ∃ a b c k,Ef Tryz.prog (Instr.buildSlice 161 2 #[(0,.slice m n o),(1,.slice g i j)]) q (.slice a b c) k∧
 Xa Tryz.prog 118 #[.slice a b c] k fun l s=>
 ∃ d e f,l=.slice d e f∧
 Q (.slice d e f) s
def Xqo:Nat→List (Nat×TypeId):=fun _=>[]
theorem Xmd (a:Option Addr) (b:Nat) (c:Nat) (w:World) (Q:VWP) (h:Xm6 a b c w Q):Xa Tryz.prog 152 #[.slice a b c] w Q:=
 Xc Xqo Tryz.func152 h (fun _ _=>by kernel_rfl) (by kernel_rfl) (by kernel_rfl) (by kernel_rfl)
end Go.Sh
end

section
namespace Go.Sh
open Go Go.Fw Go.Proofs
set_option maxRecDepth 100000
set_option linter.unusedVariables false
def XdV (s:Option Addr) (t:Int) (w:World) (Q:VWP):Prop:=
 Xa Tryz.prog 59 #[.pointer s,.int .i64 t] w fun o u=>
 ∃ b c a d e f,o=.tuple #[.agg #[.pointer b,.int .i64 c,.slice a d e],.bool f]∧
 ∃ p,Pu Tryz.prog (zeroValue 133) p∧
 New p.cells 133 u fun q v=>
 ∃ n,Sto Tryz.prog 133 (.pointer (some ⟨q,0,none⟩)) (.agg #[.pointer b,.int .i64 c,.slice a d e]) v n∧
 ∃ g i j,Ld Tryz.prog 22 (.pointer (some ((⟨q,0,none⟩:Addr).add 2))) n (.slice g i j)∧
 Xa Tryz.prog 60 #[.slice g i j] n fun r x=>
 ∃ k l m,r=.slice k l m∧
 Q (.tuple #[.slice k l m,.bool f]) x
def XiS:Nat→List (Nat×TypeId):=fun _=>[]
theorem XfI (a:Option Addr) (b:Int) (w:World) (Q:VWP) (h:XdV a b w Q):Xa Tryz.prog 30 #[.pointer a,.int .i64 b] w Q:=
 Xc XiS Tryz.func30 h (fun _ _=>by kernel_rfl) (by kernel_rfl) (by kernel_rfl) (by kernel_rfl)
def Qz (k:Option Addr) (w:World) (Q:VWP):Prop:=
 ∃ l,k=some l∧
 ∃ q m r,Ld Tryz.prog 138 (.pointer (some (l.add 0))) w (.slice q m r)∧
 cond (((m:Nat):Int) == 0)
 (Q (.tuple #[.int .i64 0,.bool false]) w)
 (∃ (n:World→Prop),
 Drw w fun a=>
 ∃ b,k=some b∧
 ∃ c,k=some c∧
 ∃ d e f,HLd Tryz.prog n 138 (.pointer (some (b.add 0))) a (.slice d e f)∧
 ∃ o g p,Ld Tryz.prog 138 (.pointer (some (c.add 0))) a (.slice o g p)∧
 (a=a∨n a)∧
 ∃ i,IxA Tryz.prog 138 (.slice d e f) (.int .i64 (IntKind.i64.wrap (((g:Nat):Int) - 1))) i∧
 ∃ j,Ld Tryz.prog 3 (.pointer (some (i.add 1))) a (.int .i64 j)∧
 Q (.tuple #[.int .i64 j,.bool true]) a)
def XeC:Nat→List (Nat×TypeId):=fun _=>[]
theorem XbY (a:Option Addr) (w:World) (Q:VWP) (h:Qz a w Q):Xa Tryz.prog 32 #[.pointer a] w Q:=
 Xc XeC Tryz.func32 h (fun _ _=>by kernel_rfl) (by kernel_rfl) (by kernel_rfl) (by kernel_rfl)
def U9 (t:Option Addr) (y:Int) (z:Option Addr) (A:Nat) (B:Nat) (D:Int) (C:Option Addr) (w:World) (Q:VWP):Prop:=
 ∃ (r:World→Prop),
 Drw w fun s=>
 ∃ c,t=some c∧
 ∃ d e f,HLd Tryz.prog r 138 (.pointer (some (c.add 0))) s (.slice d e f)∧
 Xa Tryz.prog 60 #[.slice z A B] s fun u a=>
 ∃ g i j,u=.slice g i j∧
 (a=s∨r a)∧
 ∃ k l m b,Ef Tryz.prog (Instr.buildSlice 138 1 #[(0,.agg #[.pointer C,.int .i64 y,.slice g i j])]) a (.slice k l m) b∧
 (b=a∨r b)∧
 ∃ n o p v,Ef Tryz.prog (Builtin.append_ #[138,138] 138 #[.slice d e f,.slice k l m]) b (.slice n o p) v∧
 ∃ q,t=some q∧
 ∃ x,Sto Tryz.prog 138 (.pointer (some (q.add 0))) (.slice n o p) v x∧
 Q (.int .i64 0) x
def Ya (e:Option Addr) (f:Int) (l:Option Addr) (m:Nat) (n:Nat) (o:Int) (p:Option Addr) (g:Bool) (w:World) (Q:VWP):Prop:=
 cond g
 (Q (.int .i64 11) w)
 (Xa Tryz.prog 70 #[.pointer e,.int .i64 f] w fun i a=>
 ∃ b,i=.int .i64 b∧
 cond (decide (b≥0))
 (Q (.int .i64 16) a)
 (∃ c,e=some c∧
 ∃ j d k,Ld Tryz.prog 138 (.pointer (some (c.add 0))) a (.slice j d k)∧
 cond (decide (((d:Nat):Int)≥16))
 (Q (.int .i64 18) a)
 (U9 e f l m n o p a Q)))
def WN (g:Option Addr) (b:Int) (c:Option Addr) (d:Nat) (e:Nat) (w:World) (Q:VWP):Prop:=
 Xa Tryz.prog 69 #[.slice c d e] w fun j i=>
 ∃ a f,j=.tuple #[.pointer a,.int .i64 f]∧
 cond (decide (b<0))
 (Ya g b c d e 0 a true i Q)
 (cond (decide (b > 127))
 (Ya g b c d e 0 a true i Q)
 (Ya g b c d e 0 a (f != 0) i Q))
def Xc1:Nat→List (Nat×TypeId):=fun _=>[]
theorem Xba (a:Option Addr) (b:Int) (c:Option Addr) (d:Nat) (e:Nat) (w:World) (Q:VWP) (h:WN a b c d e w Q):Xa Tryz.prog 38 #[.pointer a,.int .i64 b,.slice c d e] w Q:=
 Xc Xc1 Tryz.func38 h (fun _ _=>by kernel_rfl) (by kernel_rfl) (by kernel_rfl) (by kernel_rfl)
def Xqp  (w:World) (Q:VWP):Prop:=
 New #[.slice none 0 0] 140 w fun a b=>
 Q (.pointer (some ⟨a,0,none⟩)) b
def Xr6:Nat→List (Nat×TypeId):=fun _=>[]
theorem Xom  (w:World) (Q:VWP) (h:Xqp  w Q):Xa Tryz.prog 39 #[] w Q:=
 Xc Xr6 Tryz.func39 h (fun _ _=>by kernel_rfl) (by kernel_rfl) (by kernel_rfl) (by kernel_rfl)
def XfJ (s:Option Addr) (x:Int) (w:World) (Q:VWP):Prop:=
 ∃ t,Pu Tryz.prog (zeroValue 133) t∧
 New t.cells 133 w fun d y=>
 Xa Tryz.prog 70 #[.pointer s,.int .i64 x] y fun z e=>
 ∃ r,z=.int .i64 r∧
 cond (decide (r≥0))
 (∃ i,s=some i∧
 ∃ j k l,Ld Tryz.prog 138 (.pointer (some (i.add 0))) e (.slice j k l)∧
 ∃ m,IxA Tryz.prog 138 (.slice j k l) (.int .i64 r) m∧
 ∃ n o a p q,Ld Tryz.prog 133 (.pointer (some m)) e (.agg #[.pointer n,.int .i64 o,.slice a p q])∧
 ∃ f,Sto Tryz.prog 133 (.pointer (some ⟨d,0,none⟩)) (.agg #[.pointer n,.int .i64 o,.slice a p q]) e f∧
 ∃ u v,(.pointer (some ⟨d,0,none⟩):Value)=.pointer (some u)∧(loadVar 133 u).run Tryz.prog f=.ok v f∧
 Q (.tuple #[v,.bool true]) f)
 (∃ g,Sto Tryz.prog 133 (.pointer (some ⟨d,0,none⟩)) (.agg #[.pointer none,.int .i64 0,.slice none 0 0]) e g∧
 ∃ b c,(.pointer (some ⟨d,0,none⟩):Value)=.pointer (some b)∧(loadVar 133 b).run Tryz.prog g=.ok c g∧
 Q (.tuple #[c,.bool false]) g)
def Xko:Nat→List (Nat×TypeId):=fun _=>[]
theorem Xhq (a:Option Addr) (b:Int) (w:World) (Q:VWP) (h:XfJ a b w Q):Xa Tryz.prog 59 #[.pointer a,.int .i64 b] w Q:=
 Xc Xko Tryz.func59 h (fun _ _=>by kernel_rfl) (by kernel_rfl) (by kernel_rfl) (by kernel_rfl)
def Xap (i:Option Addr) (w:World) (Q:VWP):Prop:=
 ∃ a,i=some a∧
 ∃ b c d,Ld Tryz.prog 138 (.pointer (some (a.add 0))) w (.slice b c d)∧
 Xa Tryz.prog 105 #[.slice b c d] w fun j k=>
 ∃ e f g,j=.slice e f g∧
 New #[.slice e f g] 140 k fun l m=>
 Q (.pointer (some ⟨l,0,none⟩)) m
def XfK:Nat→List (Nat×TypeId):=fun _=>[]
theorem Xc2 (a:Option Addr) (w:World) (Q:VWP) (h:Xap a w Q):Xa Tryz.prog 67 #[.pointer a] w Q:=
 Xc XfK Tryz.func67 h (fun _ _=>by kernel_rfl) (by kernel_rfl) (by kernel_rfl) (by kernel_rfl)
def XbZ (i:Option Addr) (j:Int) (w:World) (Q:VWP):Prop:=
 New #[.int .i64 j] 3 w fun k b=>
 ∃ c,i=some c∧
 ∃ d e f,Ld Tryz.prog 138 (.pointer (some (c.add 0))) b (.slice d e f)∧
 Xa Tryz.prog 109 #[.slice d e f,.func (.func 110) #[] #[.pointer (some ⟨k,0,none⟩)]] b fun g l=>
 ∃ a,g=.int .i64 a∧
 Q (.int .i64 a) l
def Xhr:Nat→List (Nat×TypeId):=fun _=>[]
theorem XeD (a:Option Addr) (b:Int) (w:World) (Q:VWP) (h:XbZ a b w Q):Xa Tryz.prog 70 #[.pointer a,.int .i64 b] w Q:=
 Xc Xhr Tryz.func70 h (fun _ _=>by kernel_rfl) (by kernel_rfl) (by kernel_rfl) (by kernel_rfl)
def XdW (m:Option Addr) (n:Int) (w:World) (Q:VWP):Prop:=
 Xa Tryz.prog 59 #[.pointer m,.int .i64 n] w fun j o=>
 ∃ b c a d e f,j=.tuple #[.agg #[.pointer b,.int .i64 c,.slice a d e],.bool f]∧
 ∃ k,Pu Tryz.prog (zeroValue 133) k∧
 New k.cells 133 o fun l p=>
 ∃ i,Sto Tryz.prog 133 (.pointer (some ⟨l,0,none⟩)) (.agg #[.pointer b,.int .i64 c,.slice a d e]) p i∧
 ∃ g,Ld Tryz.prog 131 (.pointer (some ((⟨l,0,none⟩:Addr).add 0))) i (.pointer g)∧
 Q (.tuple #[.pointer g,.bool f]) i
def XiT:Nat→List (Nat×TypeId):=fun _=>[]
theorem XfL (a:Option Addr) (b:Int) (w:World) (Q:VWP) (h:XdW a b w Q):Xa Tryz.prog 75 #[.pointer a,.int .i64 b] w Q:=
 Xc XiT Tryz.func75 h (fun _ _=>by kernel_rfl) (by kernel_rfl) (by kernel_rfl) (by kernel_rfl)
def Vu (j:Option Addr) (o:Int) (k:Int) (w:World) (Q:VWP):Prop:=
 ∃ a,j=some a∧
 ∃ b c d,Ld Tryz.prog 138 (.pointer (some (a.add 0))) w (.slice b c d)∧
 Xa Tryz.prog 129 #[.slice b c d,.int .i64 k,.int .i64 (IntKind.i64.wrap (k+1))] w fun l n=>
 ∃ e f g,l=.slice e f g∧
 ∃ i,j=some i∧
 ∃ m,Sto Tryz.prog 138 (.pointer (some (i.add 0))) (.slice e f g) n m∧
 Q (.int .i64 0) m
def Zv (b:Option Addr) (c:Int) (a:Int) (d:Bool) (w:World) (Q:VWP):Prop:=
 cond d
 (Q (.int .i64 11) w)
 (cond (decide (a<0))
 (Q (.int .i64 17) w)
 (Vu b c a w Q))
def QA (a:Option Addr) (b:Int) (w:World) (Q:VWP):Prop:=
 Xa Tryz.prog 70 #[.pointer a,.int .i64 b] w fun e d=>
 ∃ c,e=.int .i64 c∧
 cond (decide (b<0))
 (Zv a 0 c true d Q)
 (Zv a 0 c (decide (b > 127)) d Q)
def XeE:Nat→List (Nat×TypeId):=fun _=>[]
theorem Xb0 (a:Option Addr) (b:Int) (w:World) (Q:VWP) (h:QA a b w Q):Xa Tryz.prog 96 #[.pointer a,.int .i64 b] w Q:=
 Xc XeE Tryz.func96 h (fun _ _=>by kernel_rfl) (by kernel_rfl) (by kernel_rfl) (by kernel_rfl)
def Xb1 (M:Option Addr) (w:World) (Q:VWP):Prop:=
 ∃ B,M=some B∧
 ∃ C v D,Ld Tryz.prog 138 (.pointer (some (B.add 0))) w (.slice C v D)∧
 LoopS [.slice none 0 0,.slice none 0 0,.slice C v D,.int .i64 ((v:Nat):Int),.int .i64 0] w fun N O i _ d=>
 ∃ E F G x y z a b c g e,i=[.slice E F G,.slice x y z,.slice a b c,.int .i64 g,.int .i64 e]∧
 cond (decide (e<g))
 (∃ j,IxA Tryz.prog 138 (.slice a b c) (.int .i64 e) j∧
 ∃ k l f m n,Ld Tryz.prog 133 (.pointer (some j)) d (.agg #[.pointer k,.int .i64 l,.slice f m n])∧
 ∃ H,Pu Tryz.prog (zeroValue 133) H∧
 New H.cells 133 d fun I P=>
 ∃ A,Sto Tryz.prog 133 (.pointer (some ⟨I,0,none⟩)) (.agg #[.pointer k,.int .i64 l,.slice f m n]) P A∧
 ∃ o,Ld Tryz.prog 3 (.pointer (some ((⟨I,0,none⟩:Addr).add 1))) A (.int .i64 o)∧
 ∃ p q r J,Ef Tryz.prog (Instr.buildSlice 177 1 #[(0,.int .i64 o)]) A (.slice p q r) J∧
 ∃ s t u L,Ef Tryz.prog (Builtin.append_ #[177,177] 177 #[.slice x y z,.slice p q r]) J (.slice s t u) L∧
 Xh [] [] N O i [.slice E F G,.slice s t u,.slice a b c,.int .i64 g,.int .i64 (IntKind.i64.wrap (e+1))] d L)
 (Q (.slice x y z) d)
def Xhs:Nat→List (Nat×TypeId):=fun n=>match n with | 0=>[(2,177),(3,177),(9,138),(10,3),(11,3)] | _=>[]
theorem XeF (a:Option Addr) (w:World) (Q:VWP) (h:Xb1 a w Q):Xa Tryz.prog 104 #[.pointer a] w Q:=
 Xc Xhs Tryz.func104 h (fun _ _=>by kernel_rfl) (by kernel_rfl) (by kernel_rfl) (by kernel_rfl)
def WO (e:Option Addr) (f:Int) (a:Option Addr) (g:Nat) (i:Nat) (j:Option Addr) (w:World) (Q:VWP):Prop:=
 New #[.pointer e,.int .i64 f,.slice a g i] 133 w fun k b=>
 ∃ c,Ld Tryz.prog 3 (.pointer (some ((⟨k,0,none⟩:Addr).add 1))) b (.int .i64 c)∧
 ∃ d,Ld Tryz.prog 3 (.pointer j) b (.int .i64 d)∧
 Q (.bool (c == d)) b
def Xc3:Nat→List (Nat×TypeId):=fun _=>[]
theorem Xbb (b:Option Addr) (c:Int) (a:Option Addr) (d:Nat) (e:Nat) (f:Option Addr) (w:World) (Q:VWP) (h:WO b c a d e f w Q):Xa Tryz.prog 110 #[.agg #[.pointer b,.int .i64 c,.slice a d e],.pointer f] w Q:=
 Xc Xc3 Tryz.func110 h (fun _ _=>by kernel_rfl) (by kernel_rfl) (by kernel_rfl) (by kernel_rfl)
end Go.Sh
end

section
namespace Go.Sh
open Go Go.Fw Go.Proofs
set_option maxRecDepth 100000
set_option linter.unusedVariables false
def Xaq (o:Option Addr) (w:World) (Q:VWP):Prop:=
 ∃ b c d a,Ef Tryz.prog (Instr.buildSlice 116 0 #[]) w (.slice b c d) a∧
 ∃ e,o=some e∧
 ∃ f g i,Ld Tryz.prog 116 (.pointer (some (e.add 0))) a (.slice f g i)∧
 ∃ j k l m,Ef Tryz.prog (Builtin.append_ #[116,116] 116 #[.slice b c d,.slice f g i]) a (.slice j k l) m∧
 New #[.slice j k l] 118 m fun n p=>
 Q (.pointer (some ⟨n,0,none⟩)) p
def XfM:Nat→List (Nat×TypeId):=fun _=>[]
theorem Xc4 (a:Option Addr) (w:World) (Q:VWP) (h:Xaq a w Q):Xa Tryz.prog 68 #[.pointer a] w Q:=
 Xc XfM Tryz.func68 h (fun _ _=>by kernel_rfl) (by kernel_rfl) (by kernel_rfl) (by kernel_rfl)
def US (c:Option Addr) (D:Int) (J:Option Addr) (L:Nat) (M:Nat) (N:Int) (w:World) (Q:VWP):Prop:=
 Xa Tryz.prog 128 #[.pointer c,.int .i64 D] w fun E d=>
 ∃ g,E=.int .i64 g∧
 cond (decide (g≥0))
 (Q (.int .i64 16) d)
 (∃ i,c=some i∧
 ∃ F j G,Ld Tryz.prog 116 (.pointer (some (i.add 0))) d (.slice F j G)∧
 cond (((j:Nat):Int) == 16)
 (Q (.int .i64 18) d)
 (∃ (e:World→Prop),
 Drw d fun C=>
 ∃ k,c=some k∧
 ∃ l m n,HLd Tryz.prog e 116 (.pointer (some (k.add 0))) C (.slice l m n)∧
 ∃ o p q a,Ef Tryz.prog (Instr.buildSlice 22 0 #[]) C (.slice o p q) a∧
 (a=C∨e a)∧
 ∃ r s t b,Ef Tryz.prog (Builtin.append_ #[22,22] 22 #[.slice o p q,.slice J L M]) a (.slice r s t) b∧
 (b=a∨e b)∧
 ∃ u v x f,Ef Tryz.prog (Instr.buildSlice 116 1 #[(0,.agg #[.int .i64 D,.slice r s t])]) b (.slice u v x) f∧
 (f=b∨e f)∧
 ∃ y z A H,Ef Tryz.prog (Builtin.append_ #[116,116] 116 #[.slice l m n,.slice u v x]) f (.slice y z A) H∧
 ∃ B,c=some B∧
 ∃ I,Sto Tryz.prog 116 (.pointer (some (B.add 0))) (.slice y z A) H I∧
 Q (.int .i64 0) I))
def V8 (c:Option Addr) (a:Int) (d:Option Addr) (b:Nat) (e:Nat) (w:World) (Q:VWP):Prop:=
 cond (decide (a<0))
 (Q (.int .i64 11) w)
 (cond (decide (a > 127))
 (Q (.int .i64 11) w)
 (cond (((b:Nat):Int) != 16)
 (Q (.int .i64 11) w)
 (US c a d b e 0 w Q)))
def Xb2:Nat→List (Nat×TypeId):=fun _=>[]
theorem Q2 (a:Option Addr) (b:Int) (c:Option Addr) (d:Nat) (e:Nat) (w:World) (Q:VWP) (h:V8 a b c d e w Q):Xa Tryz.prog 95 #[.pointer a,.int .i64 b,.slice c d e] w Q:=
 Xc Xb2 Tryz.func95 h (fun _ _=>by kernel_rfl) (by kernel_rfl) (by kernel_rfl) (by kernel_rfl)
def Va (c:Option Addr) (L:Int) (M:Int) (w:World) (Q:VWP):Prop:=
 Xa Tryz.prog 128 #[.pointer c,.int .i64 L] w fun G H=>
 ∃ a,G=.int .i64 a∧
 cond (decide (a<0))
 (Q (.int .i64 17) H)
 (∃ (d:World→Prop),
 Drw H fun e=>
 ∃ g,c=some g∧
 ∃ i,c=some i∧
 ∃ j k l,HLd Tryz.prog d 116 (.pointer (some (g.add 0))) e (.slice j k l)∧
 ∃ m n o,Pu Tryz.prog (Instr.sliceAt 116 (.slice j k l) none (some (.int .i64 a)) none) (.slice m n o)∧
 ∃ p q r,HLd Tryz.prog d 116 (.pointer (some (i.add 0))) e (.slice p q r)∧
 ∃ s t u,Pu Tryz.prog (Instr.sliceAt 116 (.slice p q r) (some (.int .i64 (IntKind.i64.wrap (a+1)))) none none) (.slice s t u)∧
 ∃ v x y b,Ef Tryz.prog (Instr.buildSlice 116 0 #[]) e (.slice v x y) b∧
 (b=e∨d b)∧
 ∃ z A B f,Ef Tryz.prog (Builtin.append_ #[116,116] 116 #[.slice v x y,.slice m n o]) b (.slice z A B) f∧
 (f=b∨d f)∧
 ∃ C D E I,Ef Tryz.prog (Builtin.append_ #[116,116] 116 #[.slice z A B,.slice s t u]) f (.slice C D E) I∧
 ∃ F,c=some F∧
 ∃ J,Sto Tryz.prog 116 (.pointer (some (F.add 0))) (.slice C D E) I J∧
 Q (.int .i64 0) J)
def WP (b:Option Addr) (a:Int) (w:World) (Q:VWP):Prop:=
 cond (decide (a<0))
 (Q (.int .i64 11) w)
 (cond (decide (a > 127))
 (Q (.int .i64 11) w)
 (Va b a 0 w Q))
def Xc5:Nat→List (Nat×TypeId):=fun _=>[]
theorem Xbc (a:Option Addr) (b:Int) (w:World) (Q:VWP) (h:WP a b w Q):Xa Tryz.prog 97 #[.pointer a,.int .i64 b] w Q:=
 Xc Xc5 Tryz.func97 h (fun _ _=>by kernel_rfl) (by kernel_rfl) (by kernel_rfl) (by kernel_rfl)
def Xar (r:Option Addr) (s:Int) (w:World) (Q:VWP):Prop:=
 LoopS [.pointer r,.int .i64 s,.int .i64 0,.int .i64 0] w fun t u e _ a=>
 ∃ b c n d,e=[.pointer b,.int .i64 c,.int .i64 n,.int .i64 d]∧
 ∃ o,b=some o∧
 ∃ p f q,Ld Tryz.prog 116 (.pointer (some (o.add 0))) a (.slice p f q)∧
 cond (decide (d<((f:Nat):Int)))
 (∃ g,b=some g∧
 ∃ i j k,Ld Tryz.prog 116 (.pointer (some (g.add 0))) a (.slice i j k)∧
 ∃ l,IxA Tryz.prog 116 (.slice i j k) (.int .i64 d) l∧
 ∃ m,Ld Tryz.prog 3 (.pointer (some (l.add 0))) a (.int .i64 m)∧
 cond (m == c)
 (Q (.int .i64 d) a)
 (Xh [] [] t u e [.pointer b,.int .i64 c,.int .i64 n,.int .i64 (IntKind.i64.wrap (d+1))] a a))
 (Q (.int .i64 (-1)) a)
def XfN:Nat→List (Nat×TypeId):=fun n=>match n with | 0=>[(0,94),(1,3),(4,3),(5,3)] | _=>[]
theorem Xc6 (a:Option Addr) (b:Int) (w:World) (Q:VWP) (h:Xar a b w Q):Xa Tryz.prog 128 #[.pointer a,.int .i64 b] w Q:=
 Xc XfN Tryz.func128 h (fun _ _=>by kernel_rfl) (by kernel_rfl) (by kernel_rfl) (by kernel_rfl)
end Go.Sh
end

section
namespace Go.Sh
open Go Go.Fw Go.Proofs
set_option maxRecDepth 100000
set_option linter.unusedVariables false
def JA (n:Bool) (o:Option Addr) (p:Nat) (q:Nat) (r:Bool) (w:World) (Q:VWP):Prop:=
 LoopS [.bool n,.slice o p q,.bool r,.int .i64 0] w fun s t i _ e=>
 ∃ f b a c d g,i=[.bool f,.slice b a c,.bool d,.int .i64 g]∧
 cond (decide (g<((a:Nat):Int)))
 (∃ j,IxA Tryz.prog 22 (.slice b a c) (.int .i64 g) j∧
 ∃ k,Ld Tryz.prog 5 (.pointer (some j)) e (.int .u8 k)∧
 ∃ l,IxA Tryz.prog 22 (.slice b a c) (.int .i64 g) l∧
 ∃ m,Sto Tryz.prog 5 (.pointer (some l)) (.int .u8 (IntKind.u8.wrap (k+1))) e m∧
 Xh [] [] s t i [.bool f,.slice b a c,.bool d,.int .i64 (IntKind.i64.wrap (g+1))] e m)
 (Q (.bool d) e)
def Xqq (D:Option Addr) (E:Option Addr) (M:Int) (z:Int) (N:Option Addr) (O:Nat) (P:Nat) (w:World) (Q:VWP):Prop:=
 New #[.int .i64 M,.int .i64 z,.slice N O P] 129 w fun d F=>
 ∃ k l m,Ld Tryz.prog 22 (.pointer (some ((⟨d,0,none⟩:Addr).add 2))) F (.slice k l m)∧
 Xa Tryz.prog 19 #[.slice k l m] F fun G g=>
 ∃ a b c,G=.slice a b c∧
 ∃ e,Ld Tryz.prog 3 (.pointer (some ((⟨d,0,none⟩:Addr).add 0))) g (.int .i64 e)∧
 cond (e == 0)
 (∃ (i:World→Prop),
 Drw g fun f=>
 ∃ n,HLd Tryz.prog i 3 (.pointer (some ((⟨d,0,none⟩:Addr).add 1))) f (.int .i64 n)∧
 ∃ o,HLd Tryz.prog i 3 (.pointer (some ((⟨d,0,none⟩:Addr).add 1))) f (.int .i64 o)∧
 ∃ p q r,HLd Tryz.prog i 22 (.pointer (some ((⟨d,0,none⟩:Addr).add 2))) f (.slice p q r)∧
 Xa Tryz.prog 38 #[.pointer D,.int .i64 n,.slice a b c] f fun H A=>
 ∃ s,H=.int .i64 s∧
 (A=f∨i A)∧
 Xa Tryz.prog 95 #[.pointer E,.int .i64 o,.slice p q r] A fun I R=>
 ∃ t,I=.int .i64 t∧
 JA false a b c (s == t) R Q)
 (cond (e == 1)
 (∃ (B:World→Prop),
 Drw g fun j=>
 ∃ u,HLd Tryz.prog B 3 (.pointer (some ((⟨d,0,none⟩:Addr).add 1))) j (.int .i64 u)∧
 ∃ v,HLd Tryz.prog B 3 (.pointer (some ((⟨d,0,none⟩:Addr).add 1))) j (.int .i64 v)∧
 Xa Tryz.prog 96 #[.pointer D,.int .i64 u] j fun J C=>
 ∃ x,J=.int .i64 x∧
 (C=j∨B C)∧
 Xa Tryz.prog 97 #[.pointer E,.int .i64 v] C fun L S=>
 ∃ y,L=.int .i64 y∧
 JA false a b c (x == y) S Q)
 (JA false a b c true g Q))
def Xr7:Nat→List (Nat×TypeId):=fun n=>match n with | 1=>[(6,4),(7,22),(8,4),(9,3)] | _=>[]
theorem Xon (b:Option Addr) (c:Option Addr) (d:Int) (a:Int) (e:Option Addr) (f:Nat) (g:Nat) (w:World) (Q:VWP) (h:Xqq b c d a e f g w Q):Xa Tryz.prog 57 #[.pointer b,.pointer c,.agg #[.int .i64 d,.int .i64 a,.slice e f g]] w Q:=
 Xc Xr7 Tryz.func57 h (fun _ _=>by kernel_rfl) (by kernel_rfl) (by kernel_rfl) (by kernel_rfl)
def Zn (g:Option Addr) (n:Bool) (i:Option Addr) (j:Nat) (k:Nat) (w:World) (Q:VWP):Prop:=
 Xa Tryz.prog 104 #[.pointer g] w fun e l=>
 ∃ a b c,e=.slice a b c∧
 Xa Tryz.prog 103 #[.slice a b c,.slice i j k] l fun f m=>
 ∃ d,f=.bool d∧
 Q (.bool d) m
def Xb3 (j:Option Addr) (k:Bool) (g:Option Addr) (b:Nat) (i:Nat) (w:World) (Q:VWP):Prop:=
 Xa Tryz.prog 32 #[.pointer j] w fun n a=>
 ∃ c d,n=.tuple #[.int .i64 c,.bool d]∧
 cond (((b:Nat):Int) == 0)
 (cond d
 (Q (.bool false) a)
 (cond (c != 0)
 (Q (.bool false) a)
 (cond (decide (((b:Nat):Int) > 0))
 (cond (!d)
 (Q (.bool false) a)
 (∃ l,IxA Tryz.prog 177 (.slice g b i) (.int .i64 (IntKind.i64.wrap (((b:Nat):Int) - 1))) l∧
 ∃ m,Ld Tryz.prog 3 (.pointer (some l)) a (.int .i64 m)∧
 cond (c != m)
 (Q (.bool false) a)
 (Zn j k g b i a Q)))
 (Zn j k g b i a Q))))
 (cond (decide (((b:Nat):Int) > 0))
 (cond (!d)
 (Q (.bool false) a)
 (∃ e,IxA Tryz.prog 177 (.slice g b i) (.int .i64 (IntKind.i64.wrap (((b:Nat):Int) - 1))) e∧
 ∃ f,Ld Tryz.prog 3 (.pointer (some e)) a (.int .i64 f)∧
 cond (c != f)
 (Q (.bool false) a)
 (Zn j k g b i a Q)))
 (Zn j k g b i a Q))
def XhU (ag:Option Addr) (ah:Option Addr) (w:World) (Q:VWP):Prop:=
 ∃ g i j Z,Ef Tryz.prog (Instr.buildSlice 177 0 #[]) w (.slice g i j) Z∧
 LoopS [.pointer ag,.pointer ah,.bool false,.slice g i j,.int .i64 0] Z fun ai aj k _ b=>
 ∃ c a V W X Y d,k=[.pointer c,.pointer a,.bool V,.slice W X Y,.int .i64 d]∧
 ∃ l,a=some l∧
 ∃ aa m ab,Ld Tryz.prog 116 (.pointer (some (l.add 0))) b (.slice aa m ab)∧
 cond (decide (d<((m:Nat):Int)))
 (∃ n,a=some n∧
 ∃ o p q,Ld Tryz.prog 116 (.pointer (some (n.add 0))) b (.slice o p q)∧
 ∃ r,IxA Tryz.prog 116 (.slice o p q) (.int .i64 d) r∧
 ∃ s,Ld Tryz.prog 3 (.pointer (some (r.add 0))) b (.int .i64 s)∧
 ∃ t u v ac,Ef Tryz.prog (Instr.buildSlice 177 1 #[(0,.int .i64 s)]) b (.slice t u v) ac∧
 ∃ x y z e,Ef Tryz.prog (Builtin.append_ #[177,177] 177 #[.slice W X Y,.slice t u v]) ac (.slice x y z) e∧
 ∃ A,a=some A∧
 ∃ B C D,Ld Tryz.prog 116 (.pointer (some (A.add 0))) e (.slice B C D)∧
 ∃ E,IxA Tryz.prog 116 (.slice B C D) (.int .i64 d) E∧
 ∃ F,Ld Tryz.prog 3 (.pointer (some (E.add 0))) e (.int .i64 F)∧
 Xa Tryz.prog 30 #[.pointer c,.int .i64 F] e fun ad f=>
 ∃ G H I J,ad=.tuple #[.slice G H I,.bool J]∧
 cond (!J)
 (Q (.bool false) f)
 (∃ L,a=some L∧
 ∃ M N O,Ld Tryz.prog 116 (.pointer (some (L.add 0))) f (.slice M N O)∧
 ∃ P,IxA Tryz.prog 116 (.slice M N O) (.int .i64 d) P∧
 ∃ R S T,Ld Tryz.prog 22 (.pointer (some (P.add 1))) f (.slice R S T)∧
 Xa Tryz.prog 23 #[.slice G H I,.slice R S T] f fun ae af=>
 ∃ U,ae=.bool U∧
 cond (!U)
 (Q (.bool false) af)
 (Xh [] [] ai aj k [.pointer c,.pointer a,.bool V,.slice x y z,.int .i64 (IntKind.i64.wrap (d+1))] b af)))
 (Xb3 c V W X Y b Q)
def Xme:Nat→List (Nat×TypeId):=fun n=>match n with | 0=>[(0,41),(1,94),(4,4),(5,177),(6,3)] | _=>[]
theorem XiU (a:Option Addr) (b:Option Addr) (w:World) (Q:VWP) (h:XhU a b w Q):Xa Tryz.prog 65 #[.pointer a,.pointer b] w Q:=
 Xc Xme Tryz.func65 h (fun _ _=>by kernel_rfl) (by kernel_rfl) (by kernel_rfl) (by kernel_rfl)
end Go.Sh
end

section
namespace Go.Sh
open Go Go.Fw Go.Proofs
set_option maxRecDepth 100000
set_option linter.unusedVariables false
def XhV (r:Array Value) (w:World) (Q:VWP):Prop:=
 New r 217 w fun A B=>
 ∃ s t u v,Ef Tryz.prog (Instr.makeSlice 22 (.int .i64 16) (.int .i64 16)) B (.slice s t u) v∧
 LoopS [.pointer (some ⟨A,0,none⟩),.slice none 0 0,.slice s t u,.int .i64 0] v fun x y f _ a=>
 ∃ g o p q c d e b,f=[.pointer (some g),.slice o p q,.slice c d e,.int .i64 b]∧
 cond (decide (b<128))
 (∃ i,IxA Tryz.prog 217 (.pointer (some g)) (.int .i64 b) i∧
 ∃ j,Ld Tryz.prog 4 (.pointer (some i)) a (.bool j)∧
 cond j
 (∃ k,IxA Tryz.prog 22 (.slice c d e) (.int .i64 (IntKind.i64.wrap (Int.tdiv b 8))) k∧
 ∃ l,Ld Tryz.prog 5 (.pointer (some k)) a (.int .u8 l)∧
 ∃ m,Pu Tryz.prog (do eqGuard .shl 5 (.const (.int .u8 1)) (.tmp 21) (.int .u8 1) (.int .u64 (IntKind.u64.wrap (IntKind.i64.wrap (7 - (Int.tmod b 8))))); binOp .shl 5 (.int .u8 1) (.int .u64 (IntKind.u64.wrap (IntKind.i64.wrap (7 - (Int.tmod b 8))))):Sem Value) (.int .u8 m)∧
 ∃ n,IxA Tryz.prog 22 (.slice c d e) (.int .i64 (IntKind.i64.wrap (Int.tdiv b 8))) n∧
 ∃ z,Sto Tryz.prog 5 (.pointer (some n)) (.int .u8 (ior .u8 l m)) a z∧
 Xh [] [] x y f [.pointer (some g),.slice o p q,.slice c d e,.int .i64 (IntKind.i64.wrap (b+1))] a z)
 (Xh [] [] x y f [.pointer (some g),.slice o p q,.slice c d e,.int .i64 (IntKind.i64.wrap (b+1))] a a))
 (Q (.slice c d e) a)
def Xmf:Nat→List (Nat×TypeId):=fun n=>match n with | 0=>[(1,1000000),(2,22),(3,22),(4,3)] | _=>[]
theorem XiV (a:Array Value) (w:World) (Q:VWP) (h:XhV a w Q):Xa Tryz.prog 134 #[.agg a] w Q:=
 Xc Xmf Tryz.func134 h (fun _ _=>by kernel_rfl) (by kernel_rfl) (by kernel_rfl) (by kernel_rfl)
def XhW (d:Addr) (f:Addr) (w:World) (Q:VWP):Prop:=
 ∃ (a:Array Value),Ld Tryz.prog 217 (.pointer (some f)) w (.agg a)∧
 ∃ c,Sto Tryz.prog 217 (.pointer (some d)) (.agg a) w c∧
 ∃ b e,(.pointer (some d):Value)=.pointer (some b)∧(loadVar 217 b).run Tryz.prog c=.ok e c∧
 Q (e) c
def Xqr (s:Option Addr) (t:Nat) (u:Nat) (w:World) (Q:VWP):Prop:=
 ∃ n,Pu Tryz.prog (zeroValue 217) n∧
 New n.cells 217 w fun v x=>
 ∃ o,Pu Tryz.prog (zeroValue 217) o∧
 New o.cells 217 x fun p y=>
 ∃ q,Sto Tryz.prog 217 (.pointer (some ⟨p,0,none⟩)) (.agg #[.bool false,.bool false,.bool false,.bool false,.bool false,.bool false,.bool false,.bool false,.bool false,.bool false,.bool false,.bool false,.bool false,.bool false,.bool false,.bool false,.bool false,.bool false,.bool false,.bool false,.bool false,.bool false,.bool false,.bool false,.bool false,.bool false,.bool false,.bool false,.bool false,.bool false,.bool false,.bool false,.bool false,.bool false,.bool false,.bool false,.bool false,.bool false,.bool false,.bool false,.bool false,.bool false,.bool false,.bool false,.bool false,.bool false,.bool false,.bool false,.bool false,.bool false,.bool false,.bool false,.bool false,.bool false,.bool false,.bool false,.bool false,.bool false,.bool false,.bool false,.bool false,.bool false,.bool false,.bool false,.bool false,.bool false,.bool false,.bool false,.bool false,.bool false,.bool false,.bool false,.bool false,.bool false,.bool false,.bool false,.bool false,.bool false,.bool false,.bool false,.bool false,.bool false,.bool false,.bool false,.bool false,.bool false,.bool false,.bool false,.bool false,.bool false,.bool false,.bool false,.bool false,.bool false,.bool false,.bool false,.bool false,.bool false,.bool false,.bool false,.bool false,.bool false,.bool false,.bool false,.bool false,.bool false,.bool false,.bool false,.bool false,.bool false,.bool false,.bool false,.bool false,.bool false,.bool false,.bool false,.bool false,.bool false,.bool false,.bool false,.bool false,.bool false,.bool false,.bool false,.bool false,.bool false,.bool false,.bool false]) y q∧
 LoopS [.slice s t u,.pointer (some ⟨v,0,none⟩),.pointer (some ⟨p,0,none⟩),.int .i64 0] q fun z A i _ e=>
 ∃ a b c m g d,i=[.slice a b c,.pointer (some m),.pointer (some g),.int .i64 d]∧
 cond (decide (d<128))
 (∃ j,IxA Tryz.prog 22 (.slice a b c) (.int .i64 (IntKind.i64.wrap (Int.tdiv d 8))) j∧
 ∃ f,Ld Tryz.prog 5 (.pointer (some j)) e (.int .u8 f)∧
 ∃ k,Pu Tryz.prog (do eqGuard .shr 5 (.tmp 15) (.tmp 19) (.int .u8 f) (.int .u64 (IntKind.u64.wrap (IntKind.i64.wrap (7 - (Int.tmod d 8))))); binOp .shr 5 (.int .u8 f) (.int .u64 (IntKind.u64.wrap (IntKind.i64.wrap (7 - (Int.tmod d 8))))):Sem Value) (.int .u8 k)∧
 ∃ l,IxA Tryz.prog 217 (.pointer (some g)) (.int .i64 d) l∧
 ∃ r,Sto Tryz.prog 4 (.pointer (some l)) (.bool ((Int.tmod k 2) == 1)) e r∧
 Xh [] [] z A i [.slice a b c,.pointer (some m),.pointer (some g),.int .i64 (IntKind.i64.wrap (d+1))] e r)
 (XhW m g e Q)
def Xr8:Nat→List (Nat×TypeId):=fun n=>match n with | 0=>[(0,22),(2,1000000),(3,1000000),(4,3)] | _=>[]
theorem Xoo (a:Option Addr) (b:Nat) (c:Nat) (w:World) (Q:VWP) (h:Xqr a b c w Q):Xa Tryz.prog 136 #[.slice a b c] w Q:=
 Xc Xr8 Tryz.func136 h (fun _ _=>by kernel_rfl) (by kernel_rfl) (by kernel_rfl) (by kernel_rfl)
def XfO (d:Addr) (f:Addr) (w:World) (Q:VWP):Prop:=
 ∃ (a:Array Value),Ld Tryz.prog 217 (.pointer (some f)) w (.agg a)∧
 ∃ c,Sto Tryz.prog 217 (.pointer (some d)) (.agg a) w c∧
 ∃ b e,(.pointer (some d):Value)=.pointer (some b)∧(loadVar 217 b).run Tryz.prog c=.ok e c∧
 Q (e) c
def XfP (o:Addr) (p:Addr) (w:World) (Q:VWP):Prop:=
 ∃ k,Pu Tryz.prog (zeroValue 217) k∧
 New k.cells 217 w fun l q=>
 ∃ m,Sto Tryz.prog 217 (.pointer (some ⟨l,0,none⟩)) (.agg #[.bool false,.bool false,.bool false,.bool false,.bool false,.bool false,.bool false,.bool false,.bool false,.bool false,.bool false,.bool false,.bool false,.bool false,.bool false,.bool false,.bool false,.bool false,.bool false,.bool false,.bool false,.bool false,.bool false,.bool false,.bool false,.bool false,.bool false,.bool false,.bool false,.bool false,.bool false,.bool false,.bool false,.bool false,.bool false,.bool false,.bool false,.bool false,.bool false,.bool false,.bool false,.bool false,.bool false,.bool false,.bool false,.bool false,.bool false,.bool false,.bool false,.bool false,.bool false,.bool false,.bool false,.bool false,.bool false,.bool false,.bool false,.bool false,.bool false,.bool false,.bool false,.bool false,.bool false,.bool false,.bool false,.bool false,.bool false,.bool false,.bool false,.bool false,.bool false,.bool false,.bool false,.bool false,.bool false,.bool false,.bool false,.bool false,.bool false,.bool false,.bool false,.bool false,.bool false,.bool false,.bool false,.bool false,.bool false,.bool false,.bool false,.bool false,.bool false,.bool false,.bool false,.bool false,.bool false,.bool false,.bool false,.bool false,.bool false,.bool false,.bool false,.bool false,.bool false,.bool false,.bool false,.bool false,.bool false,.bool false,.bool false,.bool false,.bool false,.bool false,.bool false,.bool false,.bool false,.bool false,.bool false,.bool false,.bool false,.bool false,.bool false,.bool false,.bool false,.bool false,.bool false,.bool false,.bool false,.bool false]) q m∧
 LoopS [.pointer (some o),.pointer (some p),.pointer (some ⟨l,0,none⟩),.int .i64 0] m fun r s f _ d=>
 ∃ b c e a,f=[.pointer (some b),.pointer (some c),.pointer (some e),.int .i64 a]∧
 cond (decide (a<128))
 (∃ g,IxA Tryz.prog 291 (.pointer (some c)) (.int .i64 a) g∧
 ∃ i,Ld Tryz.prog 4 (.pointer (some g)) d (.bool i)∧
 ∃ j,IxA Tryz.prog 217 (.pointer (some e)) (.int .i64 a) j∧
 ∃ n,Sto Tryz.prog 4 (.pointer (some j)) (.bool i) d n∧
 Xh [] [] r s f [.pointer (some b),.pointer (some c),.pointer (some e),.int .i64 (IntKind.i64.wrap (a+1))] d n)
 (XfO b e d Q)
def XfQ (D:Addr) (E:Addr) (w:World) (Q:VWP):Prop:=
 LoopS [.pointer (some D),.pointer (some E),.int .i64 254] w fun A B e _ c=>
 ∃ d a b,e=[.pointer (some d),.pointer (some a),.int .i64 b]∧
 cond (decide (b≥128))
 (∃ f,IxA Tryz.prog 291 (.pointer (some a)) (.int .i64 b) f∧
 ∃ g,Ld Tryz.prog 4 (.pointer (some f)) c (.bool g)∧
 cond g
 (∃ i,IxA Tryz.prog 291 (.pointer (some a)) (.int .i64 b) i∧
 ∃ v,Sto Tryz.prog 4 (.pointer (some i)) (.bool false) c v∧
 ∃ j,IxA Tryz.prog 291 (.pointer (some a)) (.int .i64 (IntKind.i64.wrap (b - 128))) j∧
 ∃ k,Ld Tryz.prog 4 (.pointer (some j)) v (.bool k)∧
 ∃ l,IxA Tryz.prog 291 (.pointer (some a)) (.int .i64 (IntKind.i64.wrap (b - 128))) l∧
 ∃ x,Sto Tryz.prog 4 (.pointer (some l)) (.bool (!k)) v x∧
 ∃ m,IxA Tryz.prog 291 (.pointer (some a)) (.int .i64 (IntKind.i64.wrap (b - 127))) m∧
 ∃ n,Ld Tryz.prog 4 (.pointer (some m)) x (.bool n)∧
 ∃ o,IxA Tryz.prog 291 (.pointer (some a)) (.int .i64 (IntKind.i64.wrap (b - 127))) o∧
 ∃ y,Sto Tryz.prog 4 (.pointer (some o)) (.bool (!n)) x y∧
 ∃ p,IxA Tryz.prog 291 (.pointer (some a)) (.int .i64 (IntKind.i64.wrap (b - 126))) p∧
 ∃ q,Ld Tryz.prog 4 (.pointer (some p)) y (.bool q)∧
 ∃ r,IxA Tryz.prog 291 (.pointer (some a)) (.int .i64 (IntKind.i64.wrap (b - 126))) r∧
 ∃ z,Sto Tryz.prog 4 (.pointer (some r)) (.bool (!q)) y z∧
 ∃ s,IxA Tryz.prog 291 (.pointer (some a)) (.int .i64 (IntKind.i64.wrap (b - 121))) s∧
 ∃ t,Ld Tryz.prog 4 (.pointer (some s)) z (.bool t)∧
 ∃ u,IxA Tryz.prog 291 (.pointer (some a)) (.int .i64 (IntKind.i64.wrap (b - 121))) u∧
 ∃ C,Sto Tryz.prog 4 (.pointer (some u)) (.bool (!t)) z C∧
 Xh [] [] A B e [.pointer (some d),.pointer (some a),.int .i64 (IntKind.i64.wrap (b - 1))] c C)
 (Xh [] [] A B e [.pointer (some d),.pointer (some a),.int .i64 (IntKind.i64.wrap (b - 1))] c c))
 (XfP d a c Q)
def Xm7 (z:Array Value) (A:Array Value) (w:World) (Q:VWP):Prop:=
 New z 217 w fun J L=>
 New A 217 L fun M N=>
 ∃ B,Pu Tryz.prog (zeroValue 217) B∧
 New B.cells 217 N fun O P=>
 ∃ C,Pu Tryz.prog (zeroValue 291) C∧
 New C.cells 291 P fun D R=>
 ∃ E,Sto Tryz.prog 291 (.pointer (some ⟨D,0,none⟩)) (.agg #[.bool false,.bool false,.bool false,.bool false,.bool false,.bool false,.bool false,.bool false,.bool false,.bool false,.bool false,.bool false,.bool false,.bool false,.bool false,.bool false,.bool false,.bool false,.bool false,.bool false,.bool false,.bool false,.bool false,.bool false,.bool false,.bool false,.bool false,.bool false,.bool false,.bool false,.bool false,.bool false,.bool false,.bool false,.bool false,.bool false,.bool false,.bool false,.bool false,.bool false,.bool false,.bool false,.bool false,.bool false,.bool false,.bool false,.bool false,.bool false,.bool false,.bool false,.bool false,.bool false,.bool false,.bool false,.bool false,.bool false,.bool false,.bool false,.bool false,.bool false,.bool false,.bool false,.bool false,.bool false,.bool false,.bool false,.bool false,.bool false,.bool false,.bool false,.bool false,.bool false,.bool false,.bool false,.bool false,.bool false,.bool false,.bool false,.bool false,.bool false,.bool false,.bool false,.bool false,.bool false,.bool false,.bool false,.bool false,.bool false,.bool false,.bool false,.bool false,.bool false,.bool false,.bool false,.bool false,.bool false,.bool false,.bool false,.bool false,.bool false,.bool false,.bool false,.bool false,.bool false,.bool false,.bool false,.bool false,.bool false,.bool false,.bool false,.bool false,.bool false,.bool false,.bool false,.bool false,.bool false,.bool false,.bool false,.bool false,.bool false,.bool false,.bool false,.bool false,.bool false,.bool false,.bool false,.bool false,.bool false,.bool false,.bool false,.bool false,.bool false,.bool false,.bool false,.bool false,.bool false,.bool false,.bool false,.bool false,.bool false,.bool false,.bool false,.bool false,.bool false,.bool false,.bool false,.bool false,.bool false,.bool false,.bool false,.bool false,.bool false,.bool false,.bool false,.bool false,.bool false,.bool false,.bool false,.bool false,.bool false,.bool false,.bool false,.bool false,.bool false,.bool false,.bool false,.bool false,.bool false,.bool false,.bool false,.bool false,.bool false,.bool false,.bool false,.bool false,.bool false,.bool false,.bool false,.bool false,.bool false,.bool false,.bool false,.bool false,.bool false,.bool false,.bool false,.bool false,.bool false,.bool false,.bool false,.bool false,.bool false,.bool false,.bool false,.bool false,.bool false,.bool false,.bool false,.bool false,.bool false,.bool false,.bool false,.bool false,.bool false,.bool false,.bool false,.bool false,.bool false,.bool false,.bool false,.bool false,.bool false,.bool false,.bool false,.bool false,.bool false,.bool false,.bool false,.bool false,.bool false,.bool false,.bool false,.bool false,.bool false,.bool false,.bool false,.bool false,.bool false,.bool false,.bool false,.bool false,.bool false,.bool false,.bool false,.bool false,.bool false,.bool false,.bool false,.bool false,.bool false,.bool false,.bool false,.bool false,.bool false,.bool false,.bool false,.bool false,.bool false,.bool false,.bool false,.bool false,.bool false,.bool false,.bool false,.bool false]) R E∧
 LoopS [.pointer (some ⟨J,0,none⟩),.pointer (some ⟨M,0,none⟩),.pointer (some ⟨O,0,none⟩),.pointer (some ⟨D,0,none⟩),.int .i64 0] E fun F G j _ c=>
 ∃ m y n o k,j=[.pointer (some m),.pointer (some y),.pointer (some n),.pointer (some o),.int .i64 k]∧
 cond (decide (k<128))
 (∃ p,IxA Tryz.prog 217 (.pointer (some m)) (.int .i64 k) p∧
 ∃ q,Ld Tryz.prog 4 (.pointer (some p)) c (.bool q)∧
 cond (!q)
 (Xh [] [] F G j [.pointer (some m),.pointer (some y),.pointer (some n),.pointer (some o),.int .i64 (IntKind.i64.wrap (k+1))] c c)
 (LoopS [.pointer (some m),.pointer (some y),.pointer (some n),.pointer (some o),.int .i64 k,.int .i64 0] c fun S T r _ l=>
 ∃ e d f a b g,r=[.pointer (some e),.pointer (some d),.pointer (some f),.pointer (some a),.int .i64 b,.int .i64 g]∧
 cond (decide (g<128))
 (∃ (H:World→Prop),
 Drw l fun i=>
 ∃ s,IxA Tryz.prog 291 (.pointer (some a)) (.int .i64 (IntKind.i64.wrap (b+g))) s∧
 ∃ t,IxA Tryz.prog 217 (.pointer (some d)) (.int .i64 g) t∧
 ∃ u,HLd Tryz.prog H 4 (.pointer (some s)) i (.bool u)∧
 ∃ v,Ld Tryz.prog 4 (.pointer (some t)) i (.bool v)∧
 (i=i∨H i)∧
 ∃ x,IxA Tryz.prog 291 (.pointer (some a)) (.int .i64 (IntKind.i64.wrap (b+g))) x∧
 ∃ I,Sto Tryz.prog 4 (.pointer (some x)) (.bool (!(u == v))) i I∧
 Xh [] [] S T r [.pointer (some e),.pointer (some d),.pointer (some f),.pointer (some a),.int .i64 b,.int .i64 (IntKind.i64.wrap (g+1))] l I)
 (Xh [] [] F G j [.pointer (some e),.pointer (some d),.pointer (some f),.pointer (some a),.int .i64 (IntKind.i64.wrap (b+1))] c l)))
 (XfQ n o c Q)
def Xqs:Nat→List (Nat×TypeId):=fun n=>match n with | 0=>[(2,1000000),(3,1000000),(4,1000000),(5,1000000),(6,3)] | 2=>[(2,1000000),(3,1000000),(4,1000000),(5,1000000),(6,3),(7,3)] | 4=>[(4,1000000),(5,1000000),(8,3)] | 6=>[(4,1000000),(5,1000000),(9,1000000),(10,3)] | _=>[]
theorem Xmg (a:Array Value) (b:Array Value) (w:World) (Q:VWP) (h:Xm7 a b w Q):Xa Tryz.prog 172 #[.agg a,.agg b] w Q:=
 Xc Xqs Tryz.func172 h (fun _ _=>by kernel_rfl) (by kernel_rfl) (by kernel_rfl) (by kernel_rfl)
def XfR (f:Addr) (d:Addr) (w:World) (Q:VWP):Prop:=
 ∃ (a:Array Value),Ld Tryz.prog 217 (.pointer (some f)) w (.agg a)∧
 ∃ c,Sto Tryz.prog 217 (.pointer (some d)) (.agg a) w c∧
 ∃ b e,(.pointer (some d):Value)=.pointer (some b)∧(loadVar 217 b).run Tryz.prog c=.ok e c∧
 Q (e) c
def Xm8 (n:Array Value) (o:Array Value) (w:World) (Q:VWP):Prop:=
 New n 217 w fun s t=>
 New o 217 t fun u v=>
 ∃ p,Pu Tryz.prog (zeroValue 217) p∧
 New p.cells 217 v fun x y=>
 LoopS [.pointer (some ⟨s,0,none⟩),.pointer (some ⟨u,0,none⟩),.pointer (some ⟨x,0,none⟩),.int .i64 0] y fun z A e _ c=>
 ∃ d l m a,e=[.pointer (some d),.pointer (some l),.pointer (some m),.int .i64 a]∧
 cond (decide (a<128))
 (∃ (q:World→Prop),
 Drw c fun b=>
 ∃ f,IxA Tryz.prog 217 (.pointer (some d)) (.int .i64 a) f∧
 ∃ g,IxA Tryz.prog 217 (.pointer (some l)) (.int .i64 a) g∧
 ∃ i,HLd Tryz.prog q 4 (.pointer (some f)) b (.bool i)∧
 ∃ j,Ld Tryz.prog 4 (.pointer (some g)) b (.bool j)∧
 (b=b∨q b)∧
 ∃ k,IxA Tryz.prog 217 (.pointer (some d)) (.int .i64 a) k∧
 ∃ r,Sto Tryz.prog 4 (.pointer (some k)) (.bool (!(i == j))) b r∧
 Xh [] [] z A e [.pointer (some d),.pointer (some l),.pointer (some m),.int .i64 (IntKind.i64.wrap (a+1))] c r)
 (XfR d m c Q)
def Xqt:Nat→List (Nat×TypeId):=fun n=>match n with | 0=>[(2,1000000),(3,1000000),(4,1000000),(5,3)] | _=>[]
theorem Xmh (a:Array Value) (b:Array Value) (w:World) (Q:VWP) (h:Xm8 a b w Q):Xa Tryz.prog 173 #[.agg a,.agg b] w Q:=
 Xc Xqt Tryz.func173 h (fun _ _=>by kernel_rfl) (by kernel_rfl) (by kernel_rfl) (by kernel_rfl)
end Go.Sh
end
