/- A part of a proof of a given law of this program: lemmas, printed forms of its functions, contracts. It has no conditions of its own. -/
import Derived.Test.YtlfdlhgbppahgaaGreatProg
import Derived.Test.YtlfdlhgbppahgaaGreatMW0

set_option maxHeartbeats 16000000
section
namespace Go.Sh
open Go Go.Fw Go.Proofs
set_option maxRecDepth 100000
set_option linter.unusedVariables false
def XdU (t:Option Addr) (u:Nat) (v:Nat) (x:Option Addr) (y:Nat) (z:Nat) (A:Option Addr) (B:Nat) (C:Nat) (D:Option Addr) (E:Nat) (F:Nat) (I:Option Addr) (J:Nat) (L:Nat) (M:Int) (w:World) (Q:VWP):Prop:=
 Xa Tryz.prog 189 #[.agg #[.int .u8 255,.int .u32 1,.slice t u v,.slice x y z]] w fun o G=>
 ∃ d e f p,o=.tuple #[.slice d e f,.int .i64 p]∧
 ∃ a b c q,Ef Tryz.prog (Builtin.append_ #[22,22] 22 #[.slice d e f,.slice D E F]) G (.slice a b c) q∧
 Xa Tryz.prog 190 #[.slice A B C,.slice a b c] q fun r H=>
 ∃ g i j k,r=.tuple #[.slice g i j,.int .i64 k]∧
 ∃ l m n s,Ef Tryz.prog (Builtin.append_ #[22,22] 22 #[.slice a b c,.slice g i j]) H (.slice l m n) s∧
 Q (.tuple #[.slice l m n,.int .i64 k]) s
def XdV (b:Option Addr) (c:Nat) (d:Nat) (e:Option Addr) (f:Nat) (g:Nat) (i:Option Addr) (j:Nat) (k:Nat) (l:Option Addr) (a:Nat) (m:Nat) (n:Option Addr) (o:Nat) (p:Nat) (q:Int) (w:World) (Q:VWP):Prop:=
 cond (decide (((a:Nat):Int)<1))
 (Q (.tuple #[.slice none 0 0,.int .i64 11]) w)
 (cond (decide (((a:Nat):Int) > 4096))
 (Q (.tuple #[.slice none 0 0,.int .i64 11]) w)
 (XdU b c d e f g i j k l a m n o p q w Q))
def Xkz (d:Option Addr) (a:Nat) (e:Nat) (f:Option Addr) (b:Nat) (g:Nat) (i:Option Addr) (c:Nat) (j:Nat) (k:Option Addr) (l:Nat) (m:Nat) (w:World) (Q:VWP):Prop:=
 cond (decide (((a:Nat):Int) > 20))
 (Q (.tuple #[.slice none 0 0,.int .i64 15]) w)
 (cond (decide (((b:Nat):Int) > 20))
 (Q (.tuple #[.slice none 0 0,.int .i64 15]) w)
 (cond (decide (((c:Nat):Int) > 20))
 (Q (.tuple #[.slice none 0 0,.int .i64 15]) w)
 (XdV d a e f b g i c j k l m none 0 0 0 w Q)))
def Xoe:Nat→List (Nat×TypeId):=fun _=>[]
theorem XkA (a:Option Addr) (b:Nat) (c:Nat) (d:Option Addr) (e:Nat) (f:Nat) (g:Option Addr) (i:Nat) (j:Nat) (k:Option Addr) (l:Nat) (m:Nat) (w:World) (Q:VWP) (h:Xkz a b c d e f g i j k l m w Q):Xa Tryz.prog 162 #[.slice a b c,.slice d e f,.slice g i j,.slice k l m] w Q:=
 Xc Xoe Tryz.func162 h (fun _ _=>by kernel_rfl) (by kernel_rfl) (by kernel_rfl) (by kernel_rfl)
def XhL (F:Option Addr) (u:Nat) (G:Nat) (H:Option Addr) (v:Nat) (I:Nat) (w:World) (Q:VWP):Prop:=
 cond (decide (((u:Nat):Int) > 20))
 (Q (.tuple #[.slice none 0 0,.int .i64 15]) w)
 (cond (decide (((v:Nat):Int) > 65000))
 (Q (.tuple #[.slice none 0 0,.int .i64 11]) w)
 (Xa Tryz.prog 204 #[.string (⟨#[98,101,48,99,54,57,48,98,57,102,54,54,53,55,53,97,49,100,55,54,54,98,53,52,101,51,54,56,99,56,52,101]⟩:ByteArray)] w fun x J=>
 ∃ a b c y,x=.tuple #[.slice a b c,.int .i64 y]∧
 Xa Tryz.prog 204 #[.string (⟨#[52,54,49,53,57,57,100,51,53,100,54,51,50,98,102,50,50,51,57,56,50,53,98,98]⟩:ByteArray)] J fun z L=>
 ∃ d e f A,z=.tuple #[.slice d e f,.int .i64 A]∧
 ∃ g i j B,Ef Tryz.prog (Instr.buildSlice 22 1 #[(0,.int .u8 (IntKind.u8.wrap ((u:Nat):Int)))]) L (.slice g i j) B∧
 ∃ k l m C,Ef Tryz.prog (Builtin.append_ #[22,22] 22 #[.slice g i j,.slice F u G]) B (.slice k l m) C∧
 ∃ n o p D,Ef Tryz.prog (Builtin.append_ #[22,22] 22 #[.slice k l m,.slice H v I]) C (.slice n o p) D∧
 Xa Tryz.prog 188 #[.slice a b c,.slice d e f,.slice none 0 0,.slice n o p] D fun E M=>
 ∃ q r s t,E=.tuple #[.slice q r s,.int .i64 t]∧
 Q (.tuple #[.slice q r s,.int .i64 t]) M))
def Xma:Nat→List (Nat×TypeId):=fun _=>[]
theorem XiH (a:Option Addr) (b:Nat) (c:Nat) (d:Option Addr) (e:Nat) (f:Nat) (w:World) (Q:VWP) (h:XhL a b c d e f w Q):Xa Tryz.prog 190 #[.slice a b c,.slice d e f] w Q:=
 Xc Xma Tryz.func190 h (fun _ _=>by kernel_rfl) (by kernel_rfl) (by kernel_rfl) (by kernel_rfl)
end Go.Sh
end

section
namespace Go.Sh
open Go Go.Fw Go.Proofs
set_option maxRecDepth 100000
set_option linter.unusedVariables false
def XhM (d:Int) (g:Option Addr) (e:Nat) (i:Nat) (w:World) (Q:VWP):Prop:=
 cond (decide (d<0))
 (Q (.tuple #[.slice none 0 0,.int .i64 11]) w)
 (cond (decide (d > 3))
 (Q (.tuple #[.slice none 0 0,.int .i64 11]) w)
 (cond (decide (((e:Nat):Int) > 19))
 (Q (.tuple #[.slice none 0 0,.int .i64 11]) w)
 (Xa Tryz.prog 147 #[.int .i64 d,.slice g e i] w fun f j=>
 ∃ a b c,f=.slice a b c∧
 Q (.tuple #[.slice a b c,.int .i64 0]) j)))
def Xmb:Nat→List (Nat×TypeId):=fun _=>[]
theorem XiI (a:Int) (b:Option Addr) (c:Nat) (d:Nat) (w:World) (Q:VWP) (h:XhM a b c d w Q):Xa Tryz.prog 111 #[.int .i64 a,.slice b c d] w Q:=
 Xc Xmb Tryz.func111 h (fun _ _=>by kernel_rfl) (by kernel_rfl) (by kernel_rfl) (by kernel_rfl)
def Xp9 (o:Int) (p:Option Addr) (k:Nat) (q:Nat) (w:World) (Q:VWP):Prop:=
 ∃ a b c l,Ef Tryz.prog (Instr.buildSlice 22 1 #[(0,.int .u8 (IntKind.u8.wrap (ior .i64 (IntKind.i64.wrap (o*2 ^ 6)) ((k:Nat):Int))))]) w (.slice a b c) l∧
 ∃ d e f m,Ef Tryz.prog (Instr.buildSlice 161 2 #[(0,.slice a b c),(1,.slice p k q)]) l (.slice d e f) m∧
 Xa Tryz.prog 118 #[.slice d e f] m fun n r=>
 ∃ g i j,n=.slice g i j∧
 Q (.slice g i j) r
def XrJ:Nat→List (Nat×TypeId):=fun _=>[]
theorem Xof (a:Int) (b:Option Addr) (c:Nat) (d:Nat) (w:World) (Q:VWP) (h:Xp9 a b c d w Q):Xa Tryz.prog 147 #[.int .i64 a,.slice b c d] w Q:=
 Xc XrJ Tryz.func147 h (fun _ _=>by kernel_rfl) (by kernel_rfl) (by kernel_rfl) (by kernel_rfl)
end Go.Sh
end

section
namespace Go.Sh
open Go Go.Fw Go.Proofs
set_option maxRecDepth 100000
set_option linter.unusedVariables false
def Xb3 (k:Int) (l:Option Addr) (g:Nat) (m:Nat) (n:Option Addr) (o:Nat) (p:Nat) (q:Int) (w:World) (Q:VWP):Prop:=
 ∃ a b c i,Ef Tryz.prog (Instr.buildSlice 22 1 #[(0,.int .u8 (IntKind.u8.wrap (IntKind.i64.wrap ((IntKind.i64.wrap (64*k))+((g:Nat):Int)))))]) w (.slice a b c) i∧
 ∃ d e f j,Ef Tryz.prog (Builtin.append_ #[22,22] 22 #[.slice a b c,.slice l g m]) i (.slice d e f) j∧
 Q (.tuple #[.slice d e f,.int .i64 0]) j
def XhN (a:Int) (c:Option Addr) (b:Nat) (d:Nat) (w:World) (Q:VWP):Prop:=
 cond (decide (a<0))
 (Q (.tuple #[.slice none 0 0,.int .i64 11]) w)
 (cond (decide (a > 3))
 (Q (.tuple #[.slice none 0 0,.int .i64 11]) w)
 (cond (decide (((b:Nat):Int) > 19))
 (Q (.tuple #[.slice none 0 0,.int .i64 11]) w)
 (Xb3 a c b d none 0 0 0 w Q)))
def Xmc:Nat→List (Nat×TypeId):=fun _=>[]
theorem XiJ (a:Int) (b:Option Addr) (c:Nat) (d:Nat) (w:World) (Q:VWP) (h:XhN a b c d w Q):Xa Tryz.prog 160 #[.int .i64 a,.slice b c d] w Q:=
 Xc Xmc Tryz.func160 h (fun _ _=>by kernel_rfl) (by kernel_rfl) (by kernel_rfl) (by kernel_rfl)
end Go.Sh
end

section
namespace Go.Sh
open Go Go.Fw Go.Proofs
set_option maxRecDepth 100000
set_option linter.unusedVariables false
def Xqa (u:Int) (v:Bool) (e:Int) (f:Int) (w:World) (Q:VWP):Prop:=
 New #[.int .i64 u,.bool v,.int .i64 e,.int .u64 f] 30 w fun j k=>
 ∃ l m a b,Ld Tryz.prog 30 (.pointer (some ⟨j,0,none⟩)) k (.agg #[.int .i64 l,.bool m,.int .i64 a,.int .u64 b])∧
 Xa Tryz.prog 34 #[.agg #[.int .i64 l,.bool m,.int .i64 a,.int .u64 b]] k fun x n=>
 ∃ o,x=.bool o∧
 cond (!o)
 (Q (.tuple #[.pointer none,.int .i64 11]) n)
 (∃ (p:World→Prop),
 Drw n fun g=>
 ∃ q r c d,HLd Tryz.prog p 30 (.pointer (some ⟨j,0,none⟩)) g (.agg #[.int .i64 q,.bool r,.int .i64 c,.int .u64 d])∧
 Xa Tryz.prog 39 #[] g fun y i=>
 ∃ s,y=.pointer s∧
 (i=g∨p i)∧
 New #[.int .i64 q,.bool r,.int .i64 c,.int .u64 d,.int .i64 0,.int .i64 0,.pointer s,.int .i64 0,.int .i64 0,.int .i64 0] 49 i fun t z=>
 Q (.tuple #[.pointer (some ⟨t,0,none⟩),.int .i64 0]) z)
def XrK:Nat→List (Nat×TypeId):=fun _=>[]
theorem Xog (c:Int) (d:Bool) (a:Int) (b:Int) (w:World) (Q:VWP) (h:Xqa c d a b w Q):Xa Tryz.prog 10 #[.agg #[.int .i64 c,.bool d,.int .i64 a,.int .u64 b]] w Q:=
 Xc XrK Tryz.func10 h (fun _ _=>by kernel_rfl) (by kernel_rfl) (by kernel_rfl) (by kernel_rfl)
def Xb4 (q:Option Addr) (am:Option Addr) (an:Nat) (ao:Nat) (ap:Int) (U:Int) (aq:Option Addr) (ar:Nat) (au:Nat) (V:Option Addr) (W:Nat) (X:Nat) (Y:Option Addr) (Z:Nat) (aa:Nat) (ab:Option Addr) (ac:Nat) (ad:Nat) (av:Int) (ax:Option Addr) (ay:Nat) (az:Nat) (w:World) (Q:VWP):Prop:=
 New #[.int .u8 ap,.int .u32 U,.slice aq ar au,.slice V W X,.slice Y Z aa,.slice ab ac ad] 38 w fun aA aB=>
 ∃ s,Pu Tryz.prog (zeroValue 32) s∧
 New s.cells 32 aB fun t af=>
 ∃ u,q=some u∧
 ∃ v,Ld Tryz.prog 3 (.pointer (some ((u.add 0).add 4))) af (.int .i64 v)∧
 ∃ x,q=some x∧
 ∃ ae,Sto Tryz.prog 3 (.pointer (some ((x.add 0).add 4))) (.int .i64 (IntKind.i64.wrap (v+1))) af ae∧
 ∃ y a z A B b c d e f g i j k,Ld Tryz.prog 38 (.pointer (some ⟨aA,0,none⟩)) ae (.agg #[.int .u8 y,.int .u32 a,.slice z A B,.slice b c d,.slice e f g,.slice i j k])∧
 Xa Tryz.prog 40 #[.pointer q,.agg #[.int .u8 y,.int .u32 a,.slice z A B,.slice b c d,.slice e f g,.slice i j k,.slice am an ao,.slice ax ay az,.int .u64 av]] ae fun ag aC=>
 ∃ C D l E F G m,ag=.agg #[.int .i64 C,.bool D,.int .i64 l,.slice E F G,.int .i64 m]∧
 ∃ H,Pu Tryz.prog (zeroValue 32) H∧
 New H.cells 32 aC fun p aD=>
 ∃ ah,Sto Tryz.prog 32 (.pointer (some ⟨p,0,none⟩)) (.agg #[.int .i64 C,.bool D,.int .i64 l,.slice E F G,.int .i64 m]) aD ah∧
 Drw ah fun ai=>
 ∃ I,q=some I∧
 ∃ J,Ld Tryz.prog 3 (.pointer (some ((⟨p,0,none⟩:Addr).add 0))) ai (.int .i64 J)∧
 ∃ L,IxA Tryz.prog 47 (.pointer (some (I.add 7))) (.int .i64 J) L∧
 Xa Tryz.prog 41 #[.pointer (some L),.int .i64 1] ai fun aj ak=>
 ∃ al,aj=.int .i64 al∧
 ∃ M N n O P R o,Ld Tryz.prog 32 (.pointer (some ⟨p,0,none⟩)) ak (.agg #[.int .i64 M,.bool N,.int .i64 n,.slice O P R,.int .i64 o])∧
 ∃ r,Sto Tryz.prog 32 (.pointer (some ⟨t,0,none⟩)) (.agg #[.int .i64 M,.bool N,.int .i64 n,.slice O P R,.int .i64 o]) ak r∧
 ∃ S T,(.pointer (some ⟨t,0,none⟩):Value)=.pointer (some S)∧(loadVar 32 S).run Tryz.prog r=.ok T r∧
 Q (T) r
def Xhe:Nat→List (Nat×TypeId):=fun _=>[]
theorem Xeu (l:Option Addr) (m:Option Addr) (n:Nat) (o:Nat) (p:Int) (a:Int) (q:Option Addr) (r:Nat) (s:Nat) (b:Option Addr) (c:Nat) (d:Nat) (e:Option Addr) (f:Nat) (g:Nat) (i:Option Addr) (j:Nat) (k:Nat) (t:Int) (u:Option Addr) (v:Nat) (x:Nat) (w:World) (Q:VWP) (h:Xb4 l m n o p a q r s b c d e f g i j k t u v x w Q):Xa Tryz.prog 11 #[.pointer l,.slice m n o,.agg #[.int .u8 p,.int .u32 a,.slice q r s,.slice b c d,.slice e f g,.slice i j k],.int .u64 t,.slice u v x] w Q:=
 Xc Xhe Tryz.func11 h (fun _ _=>by kernel_rfl) (by kernel_rfl) (by kernel_rfl) (by kernel_rfl)
def WT (b:Option Addr) (w:World) (Q:VWP):Prop:=
 ∃ m,b=some m∧
 ∃ k,Ld Tryz.prog 3 (.pointer (some ((m.add 0).add 0))) w (.int .i64 k)∧
 cond (k == 2)
 (Q (.bool true) w)
 (cond (k == 1)
 (∃ (l:World→Prop),
 Drw w fun a=>
 ∃ c,b=some c∧
 ∃ d,b=some d∧
 ∃ e,b=some e∧
 ∃ f,HLd Tryz.prog l 3 (.pointer (some (c.add 4))) a (.int .i64 f)∧
 ∃ g,HLd Tryz.prog l 3 (.pointer (some (d.add 5))) a (.int .i64 g)∧
 ∃ i,Pu Tryz.prog (Builtin.max_ #[3,3] 3 #[.int .i64 f,.int .i64 g]) (.int .i64 i)∧
 ∃ j,Ld Tryz.prog 3 (.pointer (some ((e.add 0).add 2))) a (.int .i64 j)∧
 (a=a∨l a)∧
 Q (.bool (decide (i≥j))) a)
 (Q (.bool false) w))
def XcX:Nat→List (Nat×TypeId):=fun _=>[]
theorem Xbb (a:Option Addr) (w:World) (Q:VWP) (h:WT a w Q):Xa Tryz.prog 12 #[.pointer a] w Q:=
 Xc XcX Tryz.func12 h (fun _ _=>by kernel_rfl) (by kernel_rfl) (by kernel_rfl) (by kernel_rfl)
def Xaw (b:Option Addr) (w:World) (Q:VWP):Prop:=
 ∃ c,b=some c∧
 ∃ d,Ld Tryz.prog 3 (.pointer (some (c.add 4))) w (.int .i64 d)∧
 ∃ e,b=some e∧
 ∃ f,Sto Tryz.prog 3 (.pointer (some (e.add 4))) (.int .i64 0) w f∧
 ∃ a,b=some a∧
 ∃ g,Sto Tryz.prog 3 (.pointer (some (a.add 5))) (.int .i64 d) f g∧
 Q (.tuple #[]) g
def XfN:Nat→List (Nat×TypeId):=fun _=>[]
theorem XcY (a:Option Addr) (w:World) (Q:VWP) (h:Xaw a w Q):Xa Tryz.prog 13 #[.pointer a] w Q:=
 Xc XfN Tryz.func13 h (fun _ _=>by kernel_rfl) (by kernel_rfl) (by kernel_rfl) (by kernel_rfl)
def Xax (c:Option Addr) (w:World) (Q:VWP):Prop:=
 ∃ (d:World→Prop),
 Drw w fun a=>
 ∃ e,c=some e∧
 ∃ f,c=some f∧
 ∃ g,HLd Tryz.prog d 3 (.pointer (some (e.add 4))) a (.int .i64 g)∧
 ∃ b,Ld Tryz.prog 3 (.pointer (some (f.add 5))) a (.int .i64 b)∧
 (a=a∨d a)∧
 Q (.tuple #[.int .i64 g,.int .i64 b]) a
def XfO:Nat→List (Nat×TypeId):=fun _=>[]
theorem XcZ (a:Option Addr) (w:World) (Q:VWP) (h:Xax a w Q):Xa Tryz.prog 18 #[.pointer a] w Q:=
 Xc XfO Tryz.func18 h (fun _ _=>by kernel_rfl) (by kernel_rfl) (by kernel_rfl) (by kernel_rfl)
def Xb5 (c:Option Addr) (w:World) (Q:VWP):Prop:=
 ∃ a,c=some a∧
 ∃ b,Ld Tryz.prog 41 (.pointer (some (a.add 6))) w (.pointer b)∧
 Q (.pointer b) w
def Xhf:Nat→List (Nat×TypeId):=fun _=>[]
theorem Xev (a:Option Addr) (w:World) (Q:VWP) (h:Xb5 a w Q):Xa Tryz.prog 21 #[.pointer a] w Q:=
 Xc Xhf Tryz.func21 h (fun _ _=>by kernel_rfl) (by kernel_rfl) (by kernel_rfl) (by kernel_rfl)
def QG (g:Option Addr) (w:World) (Q:VWP):Prop:=
 Drw w fun n=>
 ∃ i,g=some i∧
 ∃ j,IxA Tryz.prog 47 (.pointer (some (i.add 7))) (.int .i64 0) j∧
 ∃ a,g=some a∧
 ∃ b,IxA Tryz.prog 47 (.pointer (some (a.add 7))) (.int .i64 1) b∧
 ∃ c,g=some c∧
 ∃ d,IxA Tryz.prog 47 (.pointer (some (c.add 7))) (.int .i64 2) d∧
 Xa Tryz.prog 58 #[.pointer (some j)] n fun o p=>
 ∃ k,o=.int .i64 k∧
 Xa Tryz.prog 58 #[.pointer (some b)] p fun l q=>
 ∃ e,l=.int .i64 e∧
 Xa Tryz.prog 58 #[.pointer (some d)] q fun m r=>
 ∃ f,m=.int .i64 f∧
 Q (.tuple #[.int .i64 k,.int .i64 e,.int .i64 f]) r
def Xew:Nat→List (Nat×TypeId):=fun _=>[]
theorem Xb6 (a:Option Addr) (w:World) (Q:VWP) (h:QG a w Q):Xa Tryz.prog 27 #[.pointer a] w Q:=
 Xc Xew Tryz.func27 h (fun _ _=>by kernel_rfl) (by kernel_rfl) (by kernel_rfl) (by kernel_rfl)
def Xb7 (m:Option Addr) (w:World) (Q:VWP):Prop:=
 ∃ d,Pu Tryz.prog (zeroValue 30) d∧
 New d.cells 30 w fun e f=>
 ∃ g,m=some g∧
 ∃ i j a b,Ld Tryz.prog 30 (.pointer (some ((g.add 0).add 0))) f (.agg #[.int .i64 i,.bool j,.int .i64 a,.int .u64 b])∧
 ∃ c,Sto Tryz.prog 30 (.pointer (some ⟨e,0,none⟩)) (.agg #[.int .i64 i,.bool j,.int .i64 a,.int .u64 b]) f c∧
 ∃ k l,(.pointer (some ⟨e,0,none⟩):Value)=.pointer (some k)∧(loadVar 30 k).run Tryz.prog c=.ok l c∧
 Q (l) c
def Xhg:Nat→List (Nat×TypeId):=fun _=>[]
theorem Xex (a:Option Addr) (w:World) (Q:VWP) (h:Xb7 a w Q):Xa Tryz.prog 28 #[.pointer a] w Q:=
 Xc Xhg Tryz.func28 h (fun _ _=>by kernel_rfl) (by kernel_rfl) (by kernel_rfl) (by kernel_rfl)
def XdW (r:Option Addr) (s:Int) (t:Bool) (f:Int) (g:Int) (w:World) (Q:VWP):Prop:=
 New #[.int .i64 s,.bool t,.int .i64 f,.int .u64 g] 30 w fun j k=>
 ∃ l m a b,Ld Tryz.prog 30 (.pointer (some ⟨j,0,none⟩)) k (.agg #[.int .i64 l,.bool m,.int .i64 a,.int .u64 b])∧
 Xa Tryz.prog 34 #[.agg #[.int .i64 l,.bool m,.int .i64 a,.int .u64 b]] k fun u i=>
 ∃ n,u=.bool n∧
 cond (!n)
 (Q (.int .i64 11) i)
 (∃ o p c d,Ld Tryz.prog 30 (.pointer (some ⟨j,0,none⟩)) i (.agg #[.int .i64 o,.bool p,.int .i64 c,.int .u64 d])∧
 ∃ e,r=some e∧
 ∃ q,Sto Tryz.prog 30 (.pointer (some ((e.add 0).add 0))) (.agg #[.int .i64 o,.bool p,.int .i64 c,.int .u64 d]) i q∧
 Q (.int .i64 0) q)
def XiK:Nat→List (Nat×TypeId):=fun _=>[]
theorem XfP (c:Option Addr) (d:Int) (e:Bool) (a:Int) (b:Int) (w:World) (Q:VWP) (h:XdW c d e a b w Q):Xa Tryz.prog 29 #[.pointer c,.agg #[.int .i64 d,.bool e,.int .i64 a,.int .u64 b]] w Q:=
 Xc XiK Tryz.func29 h (fun _ _=>by kernel_rfl) (by kernel_rfl) (by kernel_rfl) (by kernel_rfl)
def Xay (k:Int) (l:Bool) (f:Int) (g:Int) (w:World) (Q:VWP):Prop:=
 New #[.int .i64 k,.bool l,.int .i64 f,.int .u64 g] 30 w fun b a=>
 ∃ i,Ld Tryz.prog 3 (.pointer (some ((⟨b,0,none⟩:Addr).add 0))) a (.int .i64 i)∧
 cond (decide (i≥0))
 (∃ j,Ld Tryz.prog 3 (.pointer (some ((⟨b,0,none⟩:Addr).add 0))) a (.int .i64 j)∧
 cond (decide (j≤2))
 (∃ c,Ld Tryz.prog 3 (.pointer (some ((⟨b,0,none⟩:Addr).add 2))) a (.int .i64 c)∧
 cond (decide (c≥1))
 (∃ d,Ld Tryz.prog 3 (.pointer (some ((⟨b,0,none⟩:Addr).add 2))) a (.int .i64 d)∧
 cond (decide (d≤65535))
 (∃ e,Ld Tryz.prog 28 (.pointer (some ((⟨b,0,none⟩:Addr).add 3))) a (.int .u64 e)∧
 Q (.bool (decide (e≤1099511627776))) a)
 (Q (.bool false) a))
 (Q (.bool false) a))
 (Q (.bool false) a))
 (Q (.bool false) a)
def XfQ:Nat→List (Nat×TypeId):=fun _=>[]
theorem Xc0 (c:Int) (d:Bool) (a:Int) (b:Int) (w:World) (Q:VWP) (h:Xay c d a b w Q):Xa Tryz.prog 34 #[.agg #[.int .i64 c,.bool d,.int .i64 a,.int .u64 b]] w Q:=
 Xc XfQ Tryz.func34 h (fun _ _=>by kernel_rfl) (by kernel_rfl) (by kernel_rfl) (by kernel_rfl)
def Xaz (k:Option Addr) (w:World) (Q:VWP):Prop:=
 ∃ (i:World→Prop),
 Drw w fun a=>
 ∃ l,k=some l∧
 ∃ m,k=some m∧
 ∃ n o b c d e,HLd Tryz.prog i 40 (.pointer (some (l.add 0))) a (.agg #[.int .i64 n,.bool o,.int .i64 b,.int .u64 c,.int .i64 d,.int .i64 e])∧
 ∃ f,Ld Tryz.prog 41 (.pointer (some (m.add 6))) a (.pointer f)∧
 (a=a∨i a)∧
 Xa Tryz.prog 67 #[.pointer f] a fun p j=>
 ∃ g,p=.pointer g∧
 (j=a∨i j)∧
 New #[.int .i64 n,.bool o,.int .i64 b,.int .u64 c,.int .i64 d,.int .i64 e,.pointer g,.int .i64 0,.int .i64 0,.int .i64 0] 49 j fun q r=>
 Q (.pointer (some ⟨q,0,none⟩)) r
def XfR:Nat→List (Nat×TypeId):=fun _=>[]
theorem Xc1 (a:Option Addr) (w:World) (Q:VWP) (h:Xaz a w Q):Xa Tryz.prog 36 #[.pointer a] w Q:=
 Xc XfR Tryz.func36 h (fun _ _=>by kernel_rfl) (by kernel_rfl) (by kernel_rfl) (by kernel_rfl)
def ZU (o:Option Addr) (p:Addr) (l:Addr) (w:World) (Q:VWP):Prop:=
 ∃ (c:Array Value),Ld Tryz.prog 102 (.pointer (some p)) w (.agg c)∧
 Xa Tryz.prog 72 #[.pointer o,.agg c] w fun m q=>
 ∃ f g a i j k b,m=.agg #[.int .i64 f,.bool g,.int .i64 a,.slice i j k,.int .i64 b]∧
 ∃ e,Sto Tryz.prog 32 (.pointer (some l)) (.agg #[.int .i64 f,.bool g,.int .i64 a,.slice i j k,.int .i64 b]) q e∧
 ∃ d n,(.pointer (some l):Value)=.pointer (some d)∧(loadVar 32 d).run Tryz.prog e=.ok n e∧
 Q (n) e
def YY (o:Option Addr) (p:Addr) (k:Addr) (q:Int) (l:Bool) (w:World) (Q:VWP):Prop:=
 cond l
 (Xa Tryz.prog 73 #[.int .i64 q] w fun m r=>
 ∃ e f a g i j b,m=.agg #[.int .i64 e,.bool f,.int .i64 a,.slice g i j,.int .i64 b]∧
 ∃ d,Sto Tryz.prog 32 (.pointer (some k)) (.agg #[.int .i64 e,.bool f,.int .i64 a,.slice g i j,.int .i64 b]) r d∧
 ∃ c n,(.pointer (some k):Value)=.pointer (some c)∧(loadVar 32 c).run Tryz.prog d=.ok n d∧
 Q (n) d)
 (ZU o p k w Q)
def ZV (e:Option Addr) (f:Addr) (b:Addr) (i:Bool) (c:Int) (w:World) (Q:VWP):Prop:=
 cond (c == 0)
 (∃ d,Sto Tryz.prog 32 (.pointer (some b)) (.agg #[.int .i64 0,.bool true,.int .i64 0,.slice none 0 0,.int .i64 0]) w d∧
 ∃ a g,(.pointer (some b):Value)=.pointer (some a)∧(loadVar 32 a).run Tryz.prog d=.ok g d∧
 Q (g) d)
 (cond (!i)
 (YY e f b c true w Q)
 (YY e f b c (c == 13) w Q))
def Wf (G:Option Addr) (p:Addr) (L:Addr) (M:Bool) (w:World) (Q:VWP):Prop:=
 ∃ (o:World→Prop),
 Drw w fun a=>
 ∃ B,G=some B∧
 ∃ q,HLd Tryz.prog o 41 (.pointer (some (B.add 6))) a (.pointer q)∧
 ∃ r s t,HLd Tryz.prog o 22 (.pointer (some (p.add 6))) a (.slice r s t)∧
 ∃ u v x,HLd Tryz.prog o 22 (.pointer (some ((p.add 0).add 4))) a (.slice u v x)∧
 ∃ y,HLd Tryz.prog o 28 (.pointer (some (p.add 8))) a (.int .u64 y)∧
 (Xa Tryz.prog 20 #[.pointer q,.slice r s t,.slice u v x,.int .u64 y] a fun N O=>
 ∃ C D E F b c d e,N=.tuple #[.agg #[.int .u64 C,.slice D E F,.slice b c d],.int .i64 e]∧
 ∃ P,Pu Tryz.prog (zeroValue 63) P∧
 New P.cells 63 O fun T H=>
 (H=O∨o H)∧
 ∃ R,Sto Tryz.prog 63 (.pointer (some ⟨T,0,none⟩)) (.agg #[.int .u64 C,.slice D E F,.slice b c d]) H R∧
 ZV G p L M e R Q)∧
 (∃ z,Pu Tryz.prog (zeroValue 63) z∧
 New z.cells 63 a fun I J=>
 (J=a∨o J)∧
 Xa Tryz.prog 20 #[.pointer q,.slice r s t,.slice u v x,.int .u64 y] J fun A U=>
 ∃ f g i j k l m n,A=.tuple #[.agg #[.int .u64 f,.slice g i j,.slice k l m],.int .i64 n]∧
 ∃ S,Sto Tryz.prog 63 (.pointer (some ⟨I,0,none⟩)) (.agg #[.int .u64 f,.slice g i j,.slice k l m]) U S∧
 ZV G p L M n S Q)
def Ya (f:Option Addr) (g:Addr) (c:Addr) (i:Bool) (d:Bool) (w:World) (Q:VWP):Prop:=
 cond d
 (∃ b,Sto Tryz.prog 32 (.pointer (some c)) (.agg #[.int .i64 0,.bool false,.int .i64 0,.slice none 0 0,.int .i64 0]) w b∧
 ∃ a e,(.pointer (some c):Value)=.pointer (some a)∧(loadVar 32 a).run Tryz.prog b=.ok e b∧
 Q (e) b)
 (Wf f g c i w Q)
def YZ (c:Option Addr) (d:Addr) (e:Addr) (j:Bool) (u:Bool) (w:World) (Q:VWP):Prop:=
 cond u
 (∃ (f:Array Value),Ld Tryz.prog 102 (.pointer (some d)) w (.agg f)∧
 Xa Tryz.prog 72 #[.pointer c,.agg f] w fun v z=>
 ∃ m n a o p q b,v=.agg #[.int .i64 m,.bool n,.int .i64 a,.slice o p q,.int .i64 b]∧
 ∃ k,Sto Tryz.prog 32 (.pointer (some e)) (.agg #[.int .i64 m,.bool n,.int .i64 a,.slice o p q,.int .i64 b]) z k∧
 ∃ g x,(.pointer (some e):Value)=.pointer (some g)∧(loadVar 32 g).run Tryz.prog k=.ok x k∧
 Q (x) k)
 (∃ (i:Array Value),Ld Tryz.prog 102 (.pointer (some d)) w (.agg i)∧
 Xa Tryz.prog 71 #[.agg i] w fun y l=>
 ∃ r,y=.bool r∧
 cond r
 (Ya c d e j true l Q)
 (cond (!j)
 (∃ s,c=some s∧
 ∃ t,Ld Tryz.prog 4 (.pointer (some (((s.add 0).add 0).add 1))) l (.bool t)∧
 Ya c d e j t l Q)
 (Ya c d e j false l Q)))
def XaA (d:Option Addr) (f:Array Value) (w:World) (Q:VWP):Prop:=
 New f 102 w fun e o=>
 ∃ g,Pu Tryz.prog (zeroValue 32) g∧
 New g.cells 32 o fun i p=>
 ∃ j,d=some j∧
 Xa Tryz.prog 12 #[.pointer (some (j.add 0))] p fun k l=>
 ∃ a,k=.bool a∧
 ∃ (b:Array Value),Ld Tryz.prog 102 (.pointer (some ⟨e,0,none⟩)) l (.agg b)∧
 Xa Tryz.prog 71 #[.agg b] l fun m n=>
 ∃ c,m=.bool c∧
 cond c
 (YZ d (⟨e,0,none⟩:Addr) (⟨i,0,none⟩:Addr) a a n Q)
 (YZ d (⟨e,0,none⟩:Addr) (⟨i,0,none⟩:Addr) a false n Q)
def XfS:Nat→List (Nat×TypeId):=fun _=>[]
theorem Xc2 (b:Option Addr) (a:Array Value) (w:World) (Q:VWP) (h:XaA b a w Q):Xa Tryz.prog 40 #[.pointer b,.agg a] w Q:=
 Xc XfS Tryz.func40 h (fun _ _=>by kernel_rfl) (by kernel_rfl) (by kernel_rfl) (by kernel_rfl)
def XaB (g:Array Value) (w:World) (Q:VWP):Prop:=
 New g 102 w fun i a=>
 ∃ k j l,Ld Tryz.prog 22 (.pointer (some (((⟨i,0,none⟩:Addr).add 0).add 4))) a (.slice k j l)∧
 cond (((j:Nat):Int) == 0)
 (Q (.bool true) a)
 (∃ b c d,Ld Tryz.prog 22 (.pointer (some (((⟨i,0,none⟩:Addr).add 0).add 4))) a (.slice b c d)∧
 ∃ e,IxA Tryz.prog 22 (.slice b c d) (.int .i64 0) e∧
 ∃ f,Ld Tryz.prog 5 (.pointer (some e)) a (.int .u8 f)∧
 Q (.bool (decide (f≥128))) a)
def XfT:Nat→List (Nat×TypeId):=fun _=>[]
theorem Xc3 (a:Array Value) (w:World) (Q:VWP) (h:XaB a w Q):Xa Tryz.prog 71 #[.agg a] w Q:=
 Xc XfT Tryz.func71 h (fun _ _=>by kernel_rfl) (by kernel_rfl) (by kernel_rfl) (by kernel_rfl)
def Wg (ay:Option Addr) (b:Addr) (j:Addr) (aI:Int) (w:World) (Q:VWP):Prop:=
 ∃ z A B,Ld Tryz.prog 22 (.pointer (some (b.add 7))) w (.slice z A B)∧
 ∃ C D E,Pu Tryz.prog (Instr.sliceAt 22 (.slice z A B) none (some (.int .i64 8)) none) (.slice C D E)∧
 Xa Tryz.prog 111 #[.int .i64 3,.slice C D E] w fun az aJ=>
 ∃ k l m aA,az=.tuple #[.slice k l m,.int .i64 aA]∧
 ∃ (c:World→Prop),
 Drw aJ fun a=>
 ∃ F,ay=some F∧
 ∃ G,ay=some G∧
 ∃ H,HLd Tryz.prog c 41 (.pointer (some (F.add 6))) a (.pointer H)∧
 ∃ I J L,HLd Tryz.prog c 22 (.pointer (some (b.add 7))) a (.slice I J L)∧
 ∃ M N O,Pu Tryz.prog (Instr.sliceAt 22 (.slice I J L) (some (.int .i64 8)) (some (.int .i64 20)) none) (.slice M N O)∧
 ∃ P R S,HLd Tryz.prog c 22 (.pointer (some (b.add 6))) a (.slice P R S)∧
 ∃ (n:Array Value),HLd Tryz.prog c 102 (.pointer (some b)) a (.agg n)∧
 ∃ T,HLd Tryz.prog c 28 (.pointer (some (((G.add 0).add 0).add 3))) a (.int .u64 T)∧
 ∃ U V W,HLd Tryz.prog c 22 (.pointer (some (((b.add 0).add 0).add 2))) a (.slice U V W)∧
 Xa Tryz.prog 113 #[.agg n,.int .u64 T] a fun aB ax=>
 ∃ X,aB=.int .u64 X∧
 (ax=a∨c ax)∧
 Xa Tryz.prog 112 #[.pointer H,.int .i64 aI,.slice M N O,.slice P R S,.agg #[.int .u64 X,.slice U V W,.slice k l m]] ax fun aC v=>
 ∃ Y Z aa o,aC=.tuple #[.slice Y Z aa,.int .i64 o]∧
 cond (o != 0)
 (Xa Tryz.prog 73 #[.int .i64 o] v fun aD aL=>
 ∃ ab ac d ad ae af e,aD=.agg #[.int .i64 ab,.bool ac,.int .i64 d,.slice ad ae af,.int .i64 e]∧
 ∃ x,Sto Tryz.prog 32 (.pointer (some j)) (.agg #[.int .i64 ab,.bool ac,.int .i64 d,.slice ad ae af,.int .i64 e]) aL x∧
 ∃ p aE,(.pointer (some j):Value)=.pointer (some p)∧(loadVar 32 p).run Tryz.prog x=.ok aE x∧
 Q (aE) x)
 (∃ ag ah ai,Ld Tryz.prog 22 (.pointer (some (((b.add 0).add 0).add 3))) v (.slice ag ah ai)∧
 ∃ aj ak al,Ld Tryz.prog 22 (.pointer (some (((b.add 0).add 0).add 2))) v (.slice aj ak al)∧
 Xa Tryz.prog 114 #[.slice ag ah ai,.slice k l m,.slice aj ak al,.slice Y Z aa] v fun aF aG=>
 ∃ am an ao q,aF=.tuple #[.slice am an ao,.int .i64 q]∧
 cond (q != 0)
 (Xa Tryz.prog 73 #[.int .i64 q] aG fun aH aM=>
 ∃ ap aq f ar au av g,aH=.agg #[.int .i64 ap,.bool aq,.int .i64 f,.slice ar au av,.int .i64 g]∧
 ∃ y,Sto Tryz.prog 32 (.pointer (some j)) (.agg #[.int .i64 ap,.bool aq,.int .i64 f,.slice ar au av,.int .i64 g]) aM y∧
 ∃ r s,(.pointer (some j):Value)=.pointer (some r)∧(loadVar 32 r).run Tryz.prog y=.ok s y∧
 Q (s) y)
 (∃ i,Sto Tryz.prog 32 (.pointer (some j)) (.agg #[.int .i64 1,.bool false,.int .i64 0,.slice am an ao,.int .i64 20]) aG i∧
 ∃ t u,(.pointer (some j):Value)=.pointer (some t)∧(loadVar 32 t).run Tryz.prog i=.ok u i∧
 Q (u) i))
def XaC (B:Option Addr) (C:Array Value) (w:World) (Q:VWP):Prop:=
 New C 102 w fun D O=>
 ∃ E,Pu Tryz.prog (zeroValue 32) E∧
 New E.cells 32 O fun e F=>
 ∃ l,B=some l∧
 ∃ m,Ld Tryz.prog 41 (.pointer (some (l.add 6))) F (.pointer m)∧
 Xa Tryz.prog 32 #[.pointer m] F fun G i=>
 ∃ n o,G=.tuple #[.int .i64 n,.bool o]∧
 cond (!o)
 (Xa Tryz.prog 73 #[.int .i64 17] i fun H P=>
 ∃ p q a r s t b,H=.agg #[.int .i64 p,.bool q,.int .i64 a,.slice r s t,.int .i64 b]∧
 ∃ j,Sto Tryz.prog 32 (.pointer (some ⟨e,0,none⟩)) (.agg #[.int .i64 p,.bool q,.int .i64 a,.slice r s t,.int .i64 b]) P j∧
 ∃ I J,(.pointer (some ⟨e,0,none⟩):Value)=.pointer (some I)∧(loadVar 32 I).run Tryz.prog j=.ok J j∧
 Q (J) j)
 (∃ L u M,Ld Tryz.prog 22 (.pointer (some ((⟨D,0,none⟩:Addr).add 7))) i (.slice L u M)∧
 cond (decide (((u:Nat):Int)<20))
 (Xa Tryz.prog 73 #[.int .i64 21] i fun N R=>
 ∃ v x c y z A d,N=.agg #[.int .i64 v,.bool x,.int .i64 c,.slice y z A,.int .i64 d]∧
 ∃ k,Sto Tryz.prog 32 (.pointer (some ⟨e,0,none⟩)) (.agg #[.int .i64 v,.bool x,.int .i64 c,.slice y z A,.int .i64 d]) R k∧
 ∃ f g,(.pointer (some ⟨e,0,none⟩):Value)=.pointer (some f)∧(loadVar 32 f).run Tryz.prog k=.ok g k∧
 Q (g) k)
 (Wg B (⟨D,0,none⟩:Addr) (⟨e,0,none⟩:Addr) n i Q))
def XfU:Nat→List (Nat×TypeId):=fun _=>[]
theorem Xc4 (b:Option Addr) (a:Array Value) (w:World) (Q:VWP) (h:XaC b a w Q):Xa Tryz.prog 72 #[.pointer b,.agg a] w Q:=
 Xc XfU Tryz.func72 h (fun _ _=>by kernel_rfl) (by kernel_rfl) (by kernel_rfl) (by kernel_rfl)
def XmS (f:Int) (w:World) (Q:VWP):Prop:=
 ∃ b,Pu Tryz.prog (zeroValue 32) b∧
 New b.cells 32 w fun c g=>
 ∃ a,Sto Tryz.prog 32 (.pointer (some ⟨c,0,none⟩)) (.agg #[.int .i64 2,.bool false,.int .i64 f,.slice none 0 0,.int .i64 0]) g a∧
 ∃ d e,(.pointer (some ⟨c,0,none⟩):Value)=.pointer (some d)∧(loadVar 32 d).run Tryz.prog a=.ok e a∧
 Q (e) a
def Xqb:Nat→List (Nat×TypeId):=fun _=>[]
theorem Xmd (a:Int) (w:World) (Q:VWP) (h:XmS a w Q):Xa Tryz.prog 73 #[.int .i64 a] w Q:=
 Xc Xqb Tryz.func73 h (fun _ _=>by kernel_rfl) (by kernel_rfl) (by kernel_rfl) (by kernel_rfl)
def QH (c:Array Value) (d:Int) (w:World) (Q:VWP):Prop:=
 New c 102 w fun e a=>
 ∃ f,Ld Tryz.prog 28 (.pointer (some ((⟨e,0,none⟩:Addr).add 8))) a (.int .u64 f)∧
 cond (decide (d > (IntKind.u64.wrap (18446744073709551615 - f))))
 (Q (.int .u64 18446744073709551615) a)
 (∃ b,Ld Tryz.prog 28 (.pointer (some ((⟨e,0,none⟩:Addr).add 8))) a (.int .u64 b)∧
 Q (.int .u64 (IntKind.u64.wrap (b+d))) a)
def Xey:Nat→List (Nat×TypeId):=fun _=>[]
theorem Xb8 (a:Array Value) (b:Int) (w:World) (Q:VWP) (h:QH a b w Q):Xa Tryz.prog 113 #[.agg a,.int .u64 b] w Q:=
 Xc Xey Tryz.func113 h (fun _ _=>by kernel_rfl) (by kernel_rfl) (by kernel_rfl) (by kernel_rfl)
end Go.Sh
end

section
namespace Go.Sh
open Go Go.Fw Go.Proofs
set_option maxRecDepth 100000
set_option linter.unusedVariables false
def XhO (k:Int) (l:Bool) (f:Int) (g:Int) (w:World) (Q:VWP):Prop:=
 New #[.int .i64 k,.bool l,.int .i64 f,.int .u64 g] 57 w fun b a=>
 ∃ i,Ld Tryz.prog 3 (.pointer (some ((⟨b,0,none⟩:Addr).add 0))) a (.int .i64 i)∧
 cond (decide (i≥0))
 (∃ j,Ld Tryz.prog 3 (.pointer (some ((⟨b,0,none⟩:Addr).add 0))) a (.int .i64 j)∧
 cond (decide (j≤2))
 (∃ c,Ld Tryz.prog 3 (.pointer (some ((⟨b,0,none⟩:Addr).add 2))) a (.int .i64 c)∧
 cond (decide (c≥1))
 (∃ d,Ld Tryz.prog 3 (.pointer (some ((⟨b,0,none⟩:Addr).add 2))) a (.int .i64 d)∧
 cond (decide (d≤65535))
 (∃ e,Ld Tryz.prog 28 (.pointer (some ((⟨b,0,none⟩:Addr).add 3))) a (.int .u64 e)∧
 Q (.bool (decide (e≤1099511627776))) a)
 (Q (.bool false) a))
 (Q (.bool false) a))
 (Q (.bool false) a))
 (Q (.bool false) a)
def Xme:Nat→List (Nat×TypeId):=fun _=>[]
theorem XiL (c:Int) (d:Bool) (a:Int) (b:Int) (w:World) (Q:VWP) (h:XhO c d a b w Q):Xa Tryz.prog 16 #[.agg #[.int .i64 c,.bool d,.int .i64 a,.int .u64 b]] w Q:=
 Xc Xme Tryz.func16 h (fun _ _=>by kernel_rfl) (by kernel_rfl) (by kernel_rfl) (by kernel_rfl)
def XmT (q:Int) (r:Bool) (e:Int) (f:Int) (w:World) (Q:VWP):Prop:=
 New #[.int .i64 q,.bool r,.int .i64 e,.int .u64 f] 57 w fun i j=>
 ∃ k l a b,Ld Tryz.prog 57 (.pointer (some ⟨i,0,none⟩)) j (.agg #[.int .i64 k,.bool l,.int .i64 a,.int .u64 b])∧
 Xa Tryz.prog 16 #[.agg #[.int .i64 k,.bool l,.int .i64 a,.int .u64 b]] j fun s g=>
 ∃ m,s=.bool m∧
 cond (!m)
 (Q (.tuple #[.pointer none,.int .i64 11]) g)
 (∃ n o c d,Ld Tryz.prog 57 (.pointer (some ⟨i,0,none⟩)) g (.agg #[.int .i64 n,.bool o,.int .i64 c,.int .u64 d])∧
 New #[.slice none 0 0] 118 g fun t u=>
 New #[.int .i64 n,.bool o,.int .i64 c,.int .u64 d,.pointer (some ⟨t,0,none⟩),.int .i64 0,.int .i64 0,.int .i64 0,.int .i64 0,.int .i64 0] 97 u fun p v=>
 Q (.tuple #[.pointer (some ⟨p,0,none⟩),.int .i64 0]) v)
def Xqc:Nat→List (Nat×TypeId):=fun _=>[]
theorem Xmf (c:Int) (d:Bool) (a:Int) (b:Int) (w:World) (Q:VWP) (h:XmT c d a b w Q):Xa Tryz.prog 25 #[.agg #[.int .i64 c,.bool d,.int .i64 a,.int .u64 b]] w Q:=
 Xc Xqc Tryz.func25 h (fun _ _=>by kernel_rfl) (by kernel_rfl) (by kernel_rfl) (by kernel_rfl)
def XaD (p:Option Addr) (an:Option Addr) (ao:Nat) (ap:Nat) (aq:Int) (X:Int) (ar:Option Addr) (au:Nat) (av:Nat) (Y:Option Addr) (Z:Nat) (aa:Nat) (ab:Option Addr) (ac:Nat) (ad:Nat) (ae:Option Addr) (af:Nat) (ag:Nat) (ax:Int) (ay:Option Addr) (az:Nat) (aA:Nat) (w:World) (Q:VWP):Prop:=
 New #[.int .u8 aq,.int .u32 X,.slice ar au av,.slice Y Z aa,.slice ab ac ad,.slice ae af ag] 124 w fun aB aC=>
 ∃ t,Pu Tryz.prog (zeroValue 120) t∧
 New t.cells 120 aC fun u ak=>
 ∃ v,p=some v∧
 ∃ x,Ld Tryz.prog 3 (.pointer (some (v.add 5))) ak (.int .i64 x)∧
 ∃ y,p=some y∧
 ∃ ah,Sto Tryz.prog 3 (.pointer (some (y.add 5))) (.int .i64 (IntKind.i64.wrap (x+1))) ak ah∧
 ∃ z a A B C b c d e f g i j k,Ld Tryz.prog 124 (.pointer (some ⟨aB,0,none⟩)) ah (.agg #[.int .u8 z,.int .u32 a,.slice A B C,.slice b c d,.slice e f g,.slice i j k])∧
 Xa Tryz.prog 93 #[.pointer p,.slice an ao ap,.agg #[.int .u8 z,.int .u32 a,.slice A B C,.slice b c d,.slice e f g,.slice i j k],.int .u64 ax,.slice ay az aA] ah fun al aD=>
 ∃ D E l F G H m,al=.agg #[.int .i64 D,.bool E,.int .i64 l,.slice F G H,.int .i64 m]∧
 ∃ I,Pu Tryz.prog (zeroValue 120) I∧
 New I.cells 120 aD fun q aE=>
 ∃ am,Sto Tryz.prog 120 (.pointer (some ⟨q,0,none⟩)) (.agg #[.int .i64 D,.bool E,.int .i64 l,.slice F G H,.int .i64 m]) aE am∧
 Drw am fun ai=>
 ∃ J,p=some J∧
 ∃ L,p=some L∧
 ∃ r,Ld Tryz.prog 3 (.pointer (some ((⟨q,0,none⟩:Addr).add 0))) ai (.int .i64 r)∧
 ∃ M,IxA Tryz.prog 95 (.pointer (some (J.add 7))) (.int .i64 r) M∧
 ∃ N,Ld Tryz.prog 3 (.pointer (some M)) ai (.int .i64 N)∧
 ∃ O,IxA Tryz.prog 95 (.pointer (some (L.add 7))) (.int .i64 r) O∧
 ∃ aj,Sto Tryz.prog 3 (.pointer (some O)) (.int .i64 (IntKind.i64.wrap (N+1))) ai aj∧
 ∃ P R n S T U o,Ld Tryz.prog 120 (.pointer (some ⟨q,0,none⟩)) aj (.agg #[.int .i64 P,.bool R,.int .i64 n,.slice S T U,.int .i64 o])∧
 ∃ s,Sto Tryz.prog 120 (.pointer (some ⟨u,0,none⟩)) (.agg #[.int .i64 P,.bool R,.int .i64 n,.slice S T U,.int .i64 o]) aj s∧
 ∃ V W,(.pointer (some ⟨u,0,none⟩):Value)=.pointer (some V)∧(loadVar 120 V).run Tryz.prog s=.ok W s∧
 Q (W) s
def XfV:Nat→List (Nat×TypeId):=fun _=>[]
theorem Xc5 (l:Option Addr) (m:Option Addr) (n:Nat) (o:Nat) (p:Int) (a:Int) (q:Option Addr) (r:Nat) (s:Nat) (b:Option Addr) (c:Nat) (d:Nat) (e:Option Addr) (f:Nat) (g:Nat) (i:Option Addr) (j:Nat) (k:Nat) (t:Int) (u:Option Addr) (v:Nat) (x:Nat) (w:World) (Q:VWP) (h:XaD l m n o p a q r s b c d e f g i j k t u v x w Q):Xa Tryz.prog 53 #[.pointer l,.slice m n o,.agg #[.int .u8 p,.int .u32 a,.slice q r s,.slice b c d,.slice e f g,.slice i j k],.int .u64 t,.slice u v x] w Q:=
 Xc XfV Tryz.func53 h (fun _ _=>by kernel_rfl) (by kernel_rfl) (by kernel_rfl) (by kernel_rfl)
def XaE (b:Option Addr) (w:World) (Q:VWP):Prop:=
 ∃ c,b=some c∧
 ∃ d,Ld Tryz.prog 3 (.pointer (some (c.add 5))) w (.int .i64 d)∧
 ∃ e,b=some e∧
 ∃ f,Sto Tryz.prog 3 (.pointer (some (e.add 6))) (.int .i64 d) w f∧
 ∃ a,b=some a∧
 ∃ g,Sto Tryz.prog 3 (.pointer (some (a.add 5))) (.int .i64 0) f g∧
 Q (.tuple #[]) g
def XfW:Nat→List (Nat×TypeId):=fun _=>[]
theorem Xc6 (a:Option Addr) (w:World) (Q:VWP) (h:XaE a w Q):Xa Tryz.prog 55 #[.pointer a] w Q:=
 Xc XfW Tryz.func55 h (fun _ _=>by kernel_rfl) (by kernel_rfl) (by kernel_rfl) (by kernel_rfl)
def Xb9 (r:Option Addr) (s:Int) (t:Bool) (f:Int) (g:Int) (w:World) (Q:VWP):Prop:=
 New #[.int .i64 s,.bool t,.int .i64 f,.int .u64 g] 57 w fun j k=>
 ∃ l m a b,Ld Tryz.prog 57 (.pointer (some ⟨j,0,none⟩)) k (.agg #[.int .i64 l,.bool m,.int .i64 a,.int .u64 b])∧
 Xa Tryz.prog 16 #[.agg #[.int .i64 l,.bool m,.int .i64 a,.int .u64 b]] k fun u i=>
 ∃ n,u=.bool n∧
 cond (!n)
 (Q (.int .i64 11) i)
 (∃ o p c d,Ld Tryz.prog 57 (.pointer (some ⟨j,0,none⟩)) i (.agg #[.int .i64 o,.bool p,.int .i64 c,.int .u64 d])∧
 ∃ e,r=some e∧
 ∃ q,Sto Tryz.prog 57 (.pointer (some (e.add 0))) (.agg #[.int .i64 o,.bool p,.int .i64 c,.int .u64 d]) i q∧
 Q (.int .i64 0) q)
def Xhh:Nat→List (Nat×TypeId):=fun _=>[]
theorem Xez (c:Option Addr) (d:Int) (e:Bool) (a:Int) (b:Int) (w:World) (Q:VWP) (h:Xb9 c d e a b w Q):Xa Tryz.prog 56 #[.pointer c,.agg #[.int .i64 d,.bool e,.int .i64 a,.int .u64 b]] w Q:=
 Xc Xhh Tryz.func56 h (fun _ _=>by kernel_rfl) (by kernel_rfl) (by kernel_rfl) (by kernel_rfl)
def WU (b:Option Addr) (w:World) (Q:VWP):Prop:=
 ∃ (c:World→Prop),
 Drw w fun a=>
 ∃ o,b=some o∧
 ∃ p,Ld Tryz.prog 3 (.pointer (some ((o.add 0).add 0))) a (.int .i64 p)∧
 (a=a∨c a)∧
 cond (p == 2)
 (Q (.bool true) a)
 (∃ d,b=some d∧
 ∃ e,Ld Tryz.prog 3 (.pointer (some ((d.add 0).add 0))) a (.int .i64 e)∧
 (a=a∨c a)∧
 cond (e == 1)
 (∃ f,b=some f∧
 ∃ g,b=some g∧
 ∃ i,HLd Tryz.prog c 3 (.pointer (some (f.add 5))) a (.int .i64 i)∧
 ∃ j,Ld Tryz.prog 3 (.pointer (some ((g.add 0).add 2))) a (.int .i64 j)∧
 (a=a∨c a)∧
 cond (decide (i≥j))
 (Q (.bool true) a)
 (∃ k,b=some k∧
 ∃ l,b=some l∧
 ∃ m,HLd Tryz.prog c 3 (.pointer (some (k.add 6))) a (.int .i64 m)∧
 ∃ n,Ld Tryz.prog 3 (.pointer (some ((l.add 0).add 2))) a (.int .i64 n)∧
 (a=a∨c a)∧
 Q (.bool (decide (m≥n))) a))
 (Q (.bool false) a))
def Xc7:Nat→List (Nat×TypeId):=fun _=>[]
theorem Xbc (a:Option Addr) (w:World) (Q:VWP) (h:WU a w Q):Xa Tryz.prog 66 #[.pointer a] w Q:=
 Xc Xc7 Tryz.func66 h (fun _ _=>by kernel_rfl) (by kernel_rfl) (by kernel_rfl) (by kernel_rfl)
def ZW (C:Option Addr) (D:Option Addr) (E:Nat) (F:Nat) (G:Int) (H:Option Addr) (I:Nat) (J:Nat) (L:Addr) (p:Addr) (w:World) (Q:VWP):Prop:=
 ∃ q a r s t b c d e f g i j k,Ld Tryz.prog 124 (.pointer (some L)) w (.agg #[.int .u8 q,.int .u32 a,.slice r s t,.slice b c d,.slice e f g,.slice i j k])∧
 Xa Tryz.prog 125 #[.pointer C,.slice D E F,.agg #[.int .u8 q,.int .u32 a,.slice r s t,.slice b c d,.slice e f g,.slice i j k],.int .u64 G,.slice H I J] w fun B M=>
 ∃ u v l x y z m,B=.agg #[.int .i64 u,.bool v,.int .i64 l,.slice x y z,.int .i64 m]∧
 ∃ o,Sto Tryz.prog 120 (.pointer (some p)) (.agg #[.int .i64 u,.bool v,.int .i64 l,.slice x y z,.int .i64 m]) M o∧
 ∃ n A,(.pointer (some p):Value)=.pointer (some n)∧(loadVar 120 n).run Tryz.prog o=.ok A o∧
 Q (A) o
def Y0 (p:Option Addr) (q:Option Addr) (r:Nat) (s:Nat) (t:Int) (u:Option Addr) (v:Nat) (x:Nat) (y:Addr) (d:Addr) (m:Int) (n:Bool) (w:World) (Q:VWP):Prop:=
 cond n
 (Xa Tryz.prog 127 #[.int .i64 m] w fun o z=>
 ∃ f g a i j k b,o=.agg #[.int .i64 f,.bool g,.int .i64 a,.slice i j k,.int .i64 b]∧
 ∃ e,Sto Tryz.prog 120 (.pointer (some d)) (.agg #[.int .i64 f,.bool g,.int .i64 a,.slice i j k,.int .i64 b]) z e∧
 ∃ c l,(.pointer (some d):Value)=.pointer (some c)∧(loadVar 120 c).run Tryz.prog e=.ok l e∧
 Q (l) e)
 (ZW p q r s t u v x y d w Q)
def ZX (f:Option Addr) (g:Option Addr) (i:Nat) (j:Nat) (k:Int) (l:Option Addr) (m:Nat) (n:Nat) (o:Addr) (a:Addr) (p:Bool) (b:Int) (w:World) (Q:VWP):Prop:=
 cond (b == 0)
 (∃ d,Sto Tryz.prog 120 (.pointer (some a)) (.agg #[.int .i64 0,.bool true,.int .i64 0,.slice none 0 0,.int .i64 0]) w d∧
 ∃ c e,(.pointer (some a):Value)=.pointer (some c)∧(loadVar 120 c).run Tryz.prog d=.ok e d∧
 Q (e) d)
 (cond (!p)
 (Y0 f g i j k l m n o a b true w Q)
 (Y0 f g i j k l m n o a b (b == 13) w Q))
def Wh (J:Option Addr) (t:Option Addr) (u:Nat) (v:Nat) (x:Int) (O:Option Addr) (P:Nat) (R:Nat) (L:Addr) (B:Addr) (C:Bool) (w:World) (Q:VWP):Prop:=
 ∃ (y:World→Prop),
 Drw w fun o=>
 ∃ D,J=some D∧
 ∃ p,HLd Tryz.prog y 94 (.pointer (some (D.add 4))) o (.pointer p)∧
 ∃ q r s,HLd Tryz.prog y 22 (.pointer (some (L.add 4))) o (.slice q r s)∧
 (Xa Tryz.prog 126 #[.pointer p,.slice t u v,.slice q r s,.int .u64 x] o fun S T=>
 ∃ E F G H a b c d,S=.tuple #[.agg #[.int .u64 E,.slice F G H,.slice a b c],.int .i64 d]∧
 ∃ I,Pu Tryz.prog (zeroValue 208) I∧
 New I.cells 208 T fun U M=>
 (M=T∨y M)∧
 ∃ V,Sto Tryz.prog 208 (.pointer (some ⟨U,0,none⟩)) (.agg #[.int .u64 E,.slice F G H,.slice a b c]) M V∧
 ZX J t u v x O P R L B C d V Q)∧
 (∃ e,Pu Tryz.prog (zeroValue 208) e∧
 New e.cells 208 o fun z N=>
 (N=o∨y N)∧
 Xa Tryz.prog 126 #[.pointer p,.slice t u v,.slice q r s,.int .u64 x] N fun A X=>
 ∃ f g i j k l m n,A=.tuple #[.agg #[.int .u64 f,.slice g i j,.slice k l m],.int .i64 n]∧
 ∃ W,Sto Tryz.prog 208 (.pointer (some ⟨z,0,none⟩)) (.agg #[.int .u64 f,.slice g i j,.slice k l m]) X W∧
 ZX J t u v x O P R L B C n W Q)
def Y1 (g:Option Addr) (i:Option Addr) (j:Nat) (k:Nat) (l:Int) (m:Option Addr) (n:Nat) (o:Nat) (p:Addr) (b:Addr) (e:Bool) (f:Bool) (w:World) (Q:VWP):Prop:=
 cond f
 (∃ c,Sto Tryz.prog 120 (.pointer (some b)) (.agg #[.int .i64 0,.bool false,.int .i64 0,.slice none 0 0,.int .i64 0]) w c∧
 ∃ a d,(.pointer (some b):Value)=.pointer (some a)∧(loadVar 120 a).run Tryz.prog c=.ok d c∧
 Q (d) c)
 (Wh g i j k l m n o p b e w Q)
def J6 (e:Option Addr) (f:Option Addr) (g:Nat) (i:Nat) (j:Int) (k:Option Addr) (l:Nat) (m:Nat) (n:Addr) (b:Addr) (a:Bool) (w:World) (Q:VWP):Prop:=
 cond (!a)
 (∃ c,e=some c∧
 ∃ d,Ld Tryz.prog 4 (.pointer (some ((c.add 0).add 1))) w (.bool d)∧
 Y1 e f g i j k l m n b a d w Q)
 (Y1 e f g i j k l m n b a false w Q)
def Y2 (F:Option Addr) (G:Option Addr) (H:Nat) (I:Nat) (J:Int) (L:Option Addr) (M:Nat) (N:Nat) (O:Addr) (a:Addr) (t:Bool) (P:Bool) (w:World) (Q:VWP):Prop:=
 cond P
 (cond (!t)
 (∃ r,Sto Tryz.prog 120 (.pointer (some a)) (.agg #[.int .i64 0,.bool false,.int .i64 0,.slice none 0 0,.int .i64 0]) w r∧
 ∃ b u,(.pointer (some a):Value)=.pointer (some b)∧(loadVar 120 b).run Tryz.prog r=.ok u r∧
 Q (u) r)
 (∃ v c x y z d e f g i j k l m,Ld Tryz.prog 124 (.pointer (some O)) w (.agg #[.int .u8 v,.int .u32 c,.slice x y z,.slice d e f,.slice g i j,.slice k l m])∧
 Xa Tryz.prog 125 #[.pointer F,.slice G H I,.agg #[.int .u8 v,.int .u32 c,.slice x y z,.slice d e f,.slice g i j,.slice k l m],.int .u64 J,.slice L M N] w fun R S=>
 ∃ A B n C D E o,R=.agg #[.int .i64 A,.bool B,.int .i64 n,.slice C D E,.int .i64 o]∧
 ∃ s,Sto Tryz.prog 120 (.pointer (some a)) (.agg #[.int .i64 A,.bool B,.int .i64 n,.slice C D E,.int .i64 o]) S s∧
 ∃ p q,(.pointer (some a):Value)=.pointer (some p)∧(loadVar 120 p).run Tryz.prog s=.ok q s∧
 Q (q) s))
 (J6 F G H I J L M N O a t w Q)
def XaF (m:Option Addr) (y:Option Addr) (z:Nat) (A:Nat) (I:Int) (n:Int) (J:Option Addr) (L:Nat) (M:Nat) (o:Option Addr) (p:Nat) (q:Nat) (r:Option Addr) (s:Nat) (t:Nat) (u:Option Addr) (v:Nat) (x:Nat) (B:Int) (C:Option Addr) (D:Nat) (E:Nat) (w:World) (Q:VWP):Prop:=
 New #[.int .u8 I,.int .u32 n,.slice J L M,.slice o p q,.slice r s t,.slice u v x] 124 w fun c N=>
 ∃ d,Pu Tryz.prog (zeroValue 120) d∧
 New d.cells 120 N fun e O=>
 Xa Tryz.prog 66 #[.pointer m] O fun F a=>
 ∃ b,F=.bool b∧
 ∃ G f H,Ld Tryz.prog 22 (.pointer (some ((⟨c,0,none⟩:Addr).add 4))) a (.slice G f H)∧
 cond (((f:Nat):Int) == 0)
 (Y2 m y z A B C D E (⟨c,0,none⟩:Addr) (⟨e,0,none⟩:Addr) b true a Q)
 (∃ g i j,Ld Tryz.prog 22 (.pointer (some ((⟨c,0,none⟩:Addr).add 4))) a (.slice g i j)∧
 ∃ k,IxA Tryz.prog 22 (.slice g i j) (.int .i64 0) k∧
 ∃ l,Ld Tryz.prog 5 (.pointer (some k)) a (.int .u8 l)∧
 Y2 m y z A B C D E (⟨c,0,none⟩:Addr) (⟨e,0,none⟩:Addr) b (decide (l≥128)) a Q)
def XfX:Nat→List (Nat×TypeId):=fun _=>[]
theorem Xc8 (l:Option Addr) (m:Option Addr) (n:Nat) (o:Nat) (p:Int) (a:Int) (q:Option Addr) (r:Nat) (s:Nat) (b:Option Addr) (c:Nat) (d:Nat) (e:Option Addr) (f:Nat) (g:Nat) (i:Option Addr) (j:Nat) (k:Nat) (t:Int) (u:Option Addr) (v:Nat) (x:Nat) (w:World) (Q:VWP) (h:XaF l m n o p a q r s b c d e f g i j k t u v x w Q):Xa Tryz.prog 93 #[.pointer l,.slice m n o,.agg #[.int .u8 p,.int .u32 a,.slice q r s,.slice b c d,.slice e f g,.slice i j k],.int .u64 t,.slice u v x] w Q:=
 Xc XfX Tryz.func93 h (fun _ _=>by kernel_rfl) (by kernel_rfl) (by kernel_rfl) (by kernel_rfl)
def ZD (aC:Option Addr) (aO:Option Addr) (aP:Nat) (aR:Nat) (aS:Option Addr) (aT:Nat) (aU:Nat) (aD:Addr) (c:Addr) (C:Option Addr) (D:Nat) (E:Nat) (aF:Int) (w:World) (Q:VWP):Prop:=
 ∃ F G H,Ld Tryz.prog 22 (.pointer (some ((aD.add 0).add 2))) w (.slice F G H)∧
 ∃ I,Pu Tryz.prog (zeroValue 208) I∧
 New I.cells 208 w fun J aV=>
 ∃ aG,Sto Tryz.prog 208 (.pointer (some ⟨J,0,none⟩)) (.agg #[.int .u64 aF,.slice F G H,.slice C D E]) aV aG∧
 ∃ (a:World→Prop),
 Drw aG fun b=>
 ∃ L,aC=some L∧
 ∃ M,aC=some M∧
 ∃ N,aC=some N∧
 ∃ O P R,Pu Tryz.prog (Instr.sliceAt 22 (.slice aS aT aU) (some (.int .i64 8)) (some (.int .i64 20)) none) (.slice O P R)∧
 ∃ S,HLd Tryz.prog a 94 (.pointer (some (L.add 4))) b (.pointer S)∧
 ∃ T,HLd Tryz.prog a 94 (.pointer (some (M.add 4))) b (.pointer T)∧
 ∃ U,T=some U∧
 ∃ V W X,HLd Tryz.prog a 116 (.pointer (some (U.add 0))) b (.slice V W X)∧
 ∃ Y,HLd Tryz.prog a 94 (.pointer (some (N.add 4))) b (.pointer Y)∧
 ∃ Z,Y=some Z∧
 ∃ aH aa aI,HLd Tryz.prog a 116 (.pointer (some (Z.add 0))) b (.slice aH aa aI)∧
 ∃ ab,IxA Tryz.prog 116 (.slice V W X) (.int .i64 (IntKind.i64.wrap (((aa:Nat):Int) - 1))) ab∧
 ∃ ac,HLd Tryz.prog a 3 (.pointer (some (ab.add 0))) b (.int .i64 ac)∧
 ∃ ad ae af ag f g i,Ld Tryz.prog 208 (.pointer (some ⟨J,0,none⟩)) b (.agg #[.int .u64 ad,.slice ae af ag,.slice f g i])∧
 (b=b∨a b)∧
 Xa Tryz.prog 161 #[.pointer S,.int .i64 ac,.slice O P R,.slice aO aP aR,.agg #[.int .u64 ad,.slice ae af ag,.slice f g i]] b fun aJ z=>
 ∃ ah ai aj r,aJ=.tuple #[.slice ah ai aj,.int .i64 r]∧
 cond (r != 0)
 (Xa Tryz.prog 127 #[.int .i64 r] z fun aL aW=>
 ∃ ak al j am an ao k,aL=.agg #[.int .i64 ak,.bool al,.int .i64 j,.slice am an ao,.int .i64 k]∧
 ∃ A,Sto Tryz.prog 120 (.pointer (some c)) (.agg #[.int .i64 ak,.bool al,.int .i64 j,.slice am an ao,.int .i64 k]) aW A∧
 ∃ l ap,(.pointer (some c):Value)=.pointer (some l)∧(loadVar 120 l).run Tryz.prog A=.ok ap A∧
 Q (ap) A)
 (∃ aq ar au,Ld Tryz.prog 22 (.pointer (some ((aD.add 0).add 3))) z (.slice aq ar au)∧
 ∃ av ax ay,Ld Tryz.prog 22 (.pointer (some ((aD.add 0).add 2))) z (.slice av ax ay)∧
 Xa Tryz.prog 162 #[.slice aq ar au,.slice C D E,.slice av ax ay,.slice ah ai aj] z fun aM aN=>
 ∃ az aA aB s,aM=.tuple #[.slice az aA aB,.int .i64 s]∧
 cond (s != 0)
 (Xa Tryz.prog 127 #[.int .i64 s] aN fun aE aX=>
 ∃ t u d v x y e,aE=.agg #[.int .i64 t,.bool u,.int .i64 d,.slice v x y,.int .i64 e]∧
 ∃ B,Sto Tryz.prog 120 (.pointer (some c)) (.agg #[.int .i64 t,.bool u,.int .i64 d,.slice v x y,.int .i64 e]) aX B∧
 ∃ m n,(.pointer (some c):Value)=.pointer (some m)∧(loadVar 120 m).run Tryz.prog B=.ok n B∧
 Q (n) B)
 (∃ o,Sto Tryz.prog 120 (.pointer (some c)) (.agg #[.int .i64 1,.bool false,.int .i64 0,.slice az aA aB,.int .i64 20]) aN o∧
 ∃ p q,(.pointer (some c):Value)=.pointer (some p)∧(loadVar 120 p).run Tryz.prog o=.ok q o∧
 Q (q) o))
def QI (n:Option Addr) (ad:Option Addr) (ae:Nat) (af:Nat) (an:Int) (O:Int) (ao:Option Addr) (ap:Nat) (aq:Nat) (P:Option Addr) (R:Nat) (S:Nat) (T:Option Addr) (U:Nat) (V:Nat) (W:Option Addr) (X:Nat) (Y:Nat) (Z:Int) (aa:Option Addr) (o:Nat) (ab:Nat) (w:World) (Q:VWP):Prop:=
 New #[.int .u8 an,.int .u32 O,.slice ao ap aq,.slice P R S,.slice T U V,.slice W X Y] 124 w fun ag ar=>
 ∃ r,Pu Tryz.prog (zeroValue 120) r∧
 New r.cells 120 ar fun a i=>
 ∃ s,n=some s∧
 ∃ t,Ld Tryz.prog 94 (.pointer (some (s.add 4))) i (.pointer t)∧
 ∃ u,t=some u∧
 ∃ ah v ai,Ld Tryz.prog 116 (.pointer (some (u.add 0))) i (.slice ah v ai)∧
 cond (((v:Nat):Int) == 0)
 (Xa Tryz.prog 127 #[.int .i64 17] i fun aj au=>
 ∃ x y b z A B c,aj=.agg #[.int .i64 x,.bool y,.int .i64 b,.slice z A B,.int .i64 c]∧
 ∃ p,Sto Tryz.prog 120 (.pointer (some ⟨a,0,none⟩)) (.agg #[.int .i64 x,.bool y,.int .i64 b,.slice z A B,.int .i64 c]) au p∧
 ∃ C D,(.pointer (some ⟨a,0,none⟩):Value)=.pointer (some C)∧(loadVar 120 C).run Tryz.prog p=.ok D p∧
 Q (D) p)
 (cond (decide (((o:Nat):Int)<20))
 (Xa Tryz.prog 127 #[.int .i64 21] i fun ak av=>
 ∃ E F d G H I e,ak=.agg #[.int .i64 E,.bool F,.int .i64 d,.slice G H I,.int .i64 e]∧
 ∃ q,Sto Tryz.prog 120 (.pointer (some ⟨a,0,none⟩)) (.agg #[.int .i64 E,.bool F,.int .i64 d,.slice G H I,.int .i64 e]) av q∧
 ∃ f g,(.pointer (some ⟨a,0,none⟩):Value)=.pointer (some f)∧(loadVar 120 f).run Tryz.prog q=.ok g q∧
 Q (g) q)
 (∃ J L M,Pu Tryz.prog (Instr.sliceAt 22 (.slice aa o ab) none (some (.int .i64 8)) none) (.slice J L M)∧
 Xa Tryz.prog 160 #[.int .i64 3,.slice J L M] i fun al ac=>
 ∃ j k l am,al=.tuple #[.slice j k l,.int .i64 am]∧
 ∃ N,n=some N∧
 ∃ m,Ld Tryz.prog 28 (.pointer (some ((N.add 0).add 3))) ac (.int .u64 m)∧
 cond (decide ((IntKind.u64.wrap (Z+m))<Z))
 (ZD n ad ae af aa o ab (⟨ag,0,none⟩:Addr) (⟨a,0,none⟩:Addr) j k l 18446744073709551615 ac Q)
 (ZD n ad ae af aa o ab (⟨ag,0,none⟩:Addr) (⟨a,0,none⟩:Addr) j k l (IntKind.u64.wrap (Z+m)) ac Q)))
def XeA:Nat→List (Nat×TypeId):=fun _=>[]
theorem Xca (l:Option Addr) (m:Option Addr) (n:Nat) (o:Nat) (p:Int) (a:Int) (q:Option Addr) (r:Nat) (s:Nat) (b:Option Addr) (c:Nat) (d:Nat) (e:Option Addr) (f:Nat) (g:Nat) (i:Option Addr) (j:Nat) (k:Nat) (t:Int) (u:Option Addr) (v:Nat) (x:Nat) (w:World) (Q:VWP) (h:QI l m n o p a q r s b c d e f g i j k t u v x w Q):Xa Tryz.prog 125 #[.pointer l,.slice m n o,.agg #[.int .u8 p,.int .u32 a,.slice q r s,.slice b c d,.slice e f g,.slice i j k],.int .u64 t,.slice u v x] w Q:=
 Xc XeA Tryz.func125 h (fun _ _=>by kernel_rfl) (by kernel_rfl) (by kernel_rfl) (by kernel_rfl)
def XkB (f:Int) (w:World) (Q:VWP):Prop:=
 ∃ b,Pu Tryz.prog (zeroValue 120) b∧
 New b.cells 120 w fun c g=>
 ∃ a,Sto Tryz.prog 120 (.pointer (some ⟨c,0,none⟩)) (.agg #[.int .i64 2,.bool false,.int .i64 f,.slice none 0 0,.int .i64 0]) g a∧
 ∃ d e,(.pointer (some ⟨c,0,none⟩):Value)=.pointer (some d)∧(loadVar 120 d).run Tryz.prog a=.ok e a∧
 Q (e) a
def Xoh:Nat→List (Nat×TypeId):=fun _=>[]
theorem XkC (a:Int) (w:World) (Q:VWP) (h:XkB a w Q):Xa Tryz.prog 127 #[.int .i64 a] w Q:=
 Xc Xoh Tryz.func127 h (fun _ _=>by kernel_rfl) (by kernel_rfl) (by kernel_rfl) (by kernel_rfl)
end Go.Sh
end

section
namespace Go.Sh
open Go Go.Fw Go.Proofs
set_option maxRecDepth 100000
set_option linter.unusedVariables false
def Xqd (ab:Int) (t:Int) (ac:Option Addr) (ad:Nat) (ae:Nat) (u:Option Addr) (v:Nat) (x:Nat) (y:Option Addr) (z:Nat) (A:Nat) (B:Option Addr) (C:Nat) (D:Nat) (w:World) (Q:VWP):Prop:=
 New #[.int .u8 ab,.int .u32 t,.slice ac ad ae,.slice u v x,.slice y z A,.slice B C D] 38 w fun E af=>
 ∃ G,Pu Tryz.prog (zeroValue 124) G∧
 New G.cells 124 af fun H ag=>
 ∃ (a:World→Prop),
 Drw ag fun b=>
 ∃ I c J L M d e f,HLd Tryz.prog a 36 (.pointer (some ((⟨E,0,none⟩:Addr).add 0))) b (.agg #[.int .u8 I,.int .u32 c,.slice J L M,.slice d e f])∧
 ∃ N O P,HLd Tryz.prog a 22 (.pointer (some ((⟨E,0,none⟩:Addr).add 4))) b (.slice N O P)∧
 ∃ n o p,HLd Tryz.prog a 22 (.pointer (some ((⟨E,0,none⟩:Addr).add 5))) b (.slice n o p)∧
 Xa Tryz.prog 94 #[.agg #[.int .u8 I,.int .u32 c,.slice J L M,.slice d e f]] b fun ah l=>
 ∃ R g S T U i j k,ah=.agg #[.int .u8 R,.int .u32 g,.slice S T U,.slice i j k]∧
 (l=b∨a l)∧
 Xa Tryz.prog 19 #[.slice N O P] l fun ai F=>
 ∃ V W X,ai=.slice V W X∧
 (F=l∨a F)∧
 Xa Tryz.prog 19 #[.slice n o p] F fun Y aj=>
 ∃ q r s,Y=.slice q r s∧
 ∃ m,Sto Tryz.prog 124 (.pointer (some ⟨H,0,none⟩)) (.agg #[.int .u8 R,.int .u32 g,.slice S T U,.slice i j k,.slice V W X,.slice q r s]) aj m∧
 ∃ Z aa,(.pointer (some ⟨H,0,none⟩):Value)=.pointer (some Z)∧(loadVar 124 Z).run Tryz.prog m=.ok aa m∧
 Q (aa) m
def XrL:Nat→List (Nat×TypeId):=fun _=>[]
theorem Xoi (l:Int) (a:Int) (m:Option Addr) (n:Nat) (o:Nat) (b:Option Addr) (c:Nat) (d:Nat) (e:Option Addr) (f:Nat) (g:Nat) (i:Option Addr) (j:Nat) (k:Nat) (w:World) (Q:VWP) (h:Xqd l a m n o b c d e f g i j k w Q):Xa Tryz.prog 54 #[.agg #[.int .u8 l,.int .u32 a,.slice m n o,.slice b c d,.slice e f g,.slice i j k]] w Q:=
 Xc XrL Tryz.func54 h (fun _ _=>by kernel_rfl) (by kernel_rfl) (by kernel_rfl) (by kernel_rfl)
end Go.Sh
end
