/- A part of a proof of a given law of this program: lemmas, printed forms of its functions, contracts. It has no conditions of its own. -/
import Derived.Test.YtlnohlefimgdnaaGreatDoorProg
import Derived.Test.YtlnohlefimgdnaaGreatDoorMW0

set_option maxHeartbeats 16000000
section
namespace Go.Sh
open Go
abbrev QR:FuncId:=3
abbrev Xc8:FuncId:=4
abbrev Xlu:FuncId:=5
abbrev Xlv:FuncId:=6
abbrev Xns:FuncId:=7
abbrev Xnt:FuncId:=8
abbrev Xnu:FuncId:=9
abbrev Xnv:FuncId:=10
abbrev Xfj:FuncId:=11
abbrev Xnw:FuncId:=12
abbrev Xq4:FuncId:=14
abbrev XhV:FuncId:=15
abbrev XhW:FuncId:=16
abbrev Xnx:FuncId:=17
abbrev XjF:FuncId:=18
abbrev Xny:FuncId:=19
abbrev Xnz:FuncId:=20
abbrev XjG:FuncId:=21
abbrev XjH:FuncId:=22
abbrev XnA:FuncId:=23
abbrev XjI:FuncId:=24
abbrev Xlw:FuncId:=25
abbrev Xo2:FuncId:=26
abbrev XnB:FuncId:=27
abbrev Xlx:FuncId:=28
abbrev Xly:FuncId:=29
abbrev WJ:FuncId:=40
abbrev VE:FuncId:=41
abbrev Xb8:FuncId:=42
abbrev Xd3:FuncId:=43
abbrev Xc9:FuncId:=44
abbrev XjJ:FuncId:=45
abbrev Xda:FuncId:=46
abbrev XnC:FuncId:=47
abbrev Xfk:FuncId:=48
abbrev Xdb:FuncId:=49
abbrev Xd4:FuncId:=50
abbrev Xo3:FuncId:=51
abbrev XjK:FuncId:=52
abbrev Xlz:FuncId:=53
abbrev Qa:FuncId:=54
abbrev XjL:FuncId:=55
abbrev Xo4:FuncId:=56
abbrev WK:FuncId:=57
abbrev Xdc:FuncId:=58
abbrev Xfl:FuncId:=59
abbrev Xd5:FuncId:=60
abbrev Xb9:FuncId:=61
abbrev Xd6:FuncId:=62
abbrev XlA:FuncId:=63
abbrev XhX:FuncId:=64
abbrev Xo5:FuncId:=65
abbrev XjM:FuncId:=66
abbrev Xsl:FuncId:=86
abbrev XgK:FuncId:=87
abbrev Qv:FuncId:=88
abbrev JY:FuncId:=89
abbrev Xfm:FuncId:=90
abbrev Xo6:FuncId:=91
abbrev Xdd:FuncId:=92
abbrev XjN:FuncId:=93
abbrev XnD:FuncId:=95
abbrev Xo7:FuncId:=96
abbrev XnE:FuncId:=97
abbrev Vj:FuncId:=98
abbrev Xo8:FuncId:=99
abbrev XgL:FuncId:=100
abbrev QS:FuncId:=101
abbrev XlB:FuncId:=102
abbrev QT:FuncId:=103
abbrev Xfn:FuncId:=104
abbrev Xde:FuncId:=105
abbrev Xo9:FuncId:=106
abbrev Xfo:FuncId:=107
abbrev Xpa:FuncId:=110
abbrev Xca:FuncId:=111
abbrev XnF:FuncId:=113
abbrev XlC:FuncId:=114
abbrev XjO:FuncId:=115
abbrev XnG:FuncId:=116
abbrev XlD:FuncId:=117
abbrev XnH:FuncId:=118
abbrev Xq5:FuncId:=119
abbrev Xd7:FuncId:=149
abbrev Xpb:FuncId:=150
abbrev Xdf:FuncId:=152
abbrev XlE:FuncId:=154
abbrev XjP:FuncId:=155
abbrev XhY:FuncId:=156
abbrev XgM:FuncId:=157
abbrev J6:FuncId:=158
abbrev XgN:FuncId:=159
abbrev Xdg:FuncId:=160
abbrev J7:FuncId:=161
abbrev Ul:FuncId:=162
abbrev XjQ:FuncId:=163
abbrev XhZ:FuncId:=164
abbrev Xfp:FuncId:=165
abbrev Xfq:FuncId:=166
abbrev XaJ:FuncId:=167
abbrev XnI:FuncId:=168
abbrev Xpc:FuncId:=169
abbrev XnJ:FuncId:=170
abbrev XnK:FuncId:=171
abbrev Xh0:FuncId:=172
abbrev Xpd:FuncId:=173
abbrev XnL:FuncId:=174
abbrev Xpe:FuncId:=175
abbrev Xpf:FuncId:=176
abbrev Xpg:FuncId:=224
abbrev Xdh:FuncId:=225
abbrev Xh1:FuncId:=226
abbrev Xsm:FuncId:=227
abbrev Xcb:FuncId:=228
abbrev Xcc:FuncId:=229
abbrev UD:FuncId:=230
abbrev Xd8:FuncId:=232
abbrev Xh2:FuncId:=233
abbrev Xph:FuncId:=234
abbrev Xq6:FuncId:=235
abbrev Xpi:FuncId:=294
abbrev VN:FuncId:=295
abbrev Xdi:FuncId:=296
abbrev Wf:FuncId:=297
abbrev WL:FuncId:=298
abbrev XgO:FuncId:=299
abbrev Xpj:FuncId:=356
abbrev QU:FuncId:=357
abbrev XnM:FuncId:=359
abbrev XgP:FuncId:=360
abbrev XjR:FuncId:=383
abbrev Qw:FuncId:=384
abbrev Xfr:FuncId:=385
abbrev Xpk:FuncId:=388
abbrev Xpl:FuncId:=389
abbrev XjS:FuncId:=390
abbrev XgQ:FuncId:=391
abbrev WC:FuncId:=414
abbrev VO:FuncId:=415
abbrev Qb:FuncId:=416
abbrev QV:FuncId:=435
abbrev UE:FuncId:=436
abbrev XaK:FuncId:=437
abbrev QW:FuncId:=438
abbrev VP:FuncId:=440
abbrev XaL:FuncId:=441
abbrev Y9:TypeId:=3
abbrev XnN:TypeId:=4
abbrev Jf:TypeId:=5
abbrev Xbn:TypeId:=22
abbrev Xg:TypeId:=23
abbrev XgR:TypeId:=24
abbrev XZ:TypeId:=26
abbrev Xf2:TypeId:=33
abbrev Yr:TypeId:=38
abbrev Xf3:TypeId:=45
abbrev XK:TypeId:=46
abbrev T_law19_Call:TypeId:=55
abbrev Xpm:TypeId:=58
abbrev Xf4:TypeId:=80
abbrev Ys:TypeId:=101
abbrev J8:TypeId:=107
abbrev XA:TypeId:=117
abbrev X9:TypeId:=185
abbrev YU:TypeId:=189
abbrev Xpn:TypeId:=257
abbrev Xh3:TypeId:=258
abbrev XV:TypeId:=268
abbrev X0:TypeId:=271
abbrev Xq7:TypeId:=350
abbrev Xf5:TypeId:=366
abbrev Xal:TypeId:=367
abbrev Xh4:TypeId:=373
abbrev Xam:TypeId:=379
abbrev Xf6:TypeId:=388
end Go.Sh
end

section
namespace Go.Sh
open Go Go.Fw Go.Proofs
set_option maxRecDepth 100000
set_option linter.unusedVariables false
def XgS (f:Option Addr) (g:Int) (w:World) (Q:VWP):Prop:=
 Xa Tryz.prog 228 #[.pointer f] w fun i c=>
 ∃ d,i=.pointer d∧
 ∃ e,d=some e∧
 ∃ a,IxA Tryz.prog 372 (.pointer (some (e.add 5))) (.int .u8 g) a∧
 ∃ b,Ld Tryz.prog 5 (.pointer (some a)) c (.int .u8 b)∧
 Q (.int .u8 b) c
def Xdj:Nat→List (Nat×TypeId):=fun _=>[]
theorem Xbo (a:Option Addr) (b:Int) (w:World) (Q:VWP) (h:XgS a b w Q):Xa Tryz.prog 158 #[.pointer a,.int .u8 b] w Q:=
 Xd Xdj Tryz.func158 h (fun _ _=>by kernel_rfl) (by kernel_rfl) (by kernel_rfl) (by kernel_rfl)
def XkK (d:Option Addr) (e:Nat) (f:Nat) (w:World) (Q:VWP):Prop:=
 Xa Tryz.prog 88 #[.slice d e f] w fun g i=>
 ∃ a b c,g=.slice a b c∧
 New #[.slice a b c,.int .u32 0,.int .i32 0,.int .u32 0,.int .i64 0,.int .u8 0,.int .u8 0,.int .u8 0,.int .u8 0,.int .u8 0,.int .u8 0,.int .u8 0,.int .u8 0,.int .u8 0,.int .u8 0,.int .u8 0,.int .u8 0,.int .u8 0,.int .u8 0,.int .u8 0,.int .u8 0,.int .u8 0,.int .u8 0,.int .u8 0,.int .u8 0,.int .u8 0,.int .u8 0,.int .u8 0,.int .u8 0,.int .u8 0,.int .u8 0,.int .u8 0,.int .u8 0,.int .u8 0,.int .u8 0,.int .u8 0,.int .u8 0,.int .u8 0,.int .u8 0,.int .u8 0,.int .u8 0,.int .u8 0,.int .u8 0,.int .u8 0,.int .u8 0,.int .u8 0,.int .u8 0,.int .u8 0,.int .u8 0,.int .u8 0,.int .u8 0,.int .u8 0,.int .u8 0,.int .u8 0,.int .u8 0,.int .u8 0,.int .u8 0,.int .u8 0,.int .u8 0,.int .u8 0,.int .u8 0,.int .u8 0,.int .u8 0,.int .u8 0,.int .u8 0,.int .u8 0,.int .u8 0,.int .u8 0,.int .u8 0,.int .u8 0,.int .u8 0,.int .u8 0,.int .u8 0,.int .u8 0,.int .u8 0,.int .u8 0,.int .u8 0,.int .u8 0,.int .u8 0,.int .u8 0,.int .u8 0,.int .u8 0,.int .u8 0,.int .u8 0,.int .u8 0,.int .u8 0,.int .u8 0,.int .u8 0,.int .u8 0,.int .u8 0,.int .u8 0,.int .u8 0,.int .u8 0,.int .u8 0,.int .u8 0,.int .u8 0,.int .u8 0,.int .u8 0,.int .u8 0,.int .u8 0,.int .u8 0,.int .u8 0,.int .u8 0,.int .u8 0,.int .u8 0,.int .u8 0,.int .u8 0,.int .u8 0,.int .u8 0,.int .u8 0,.int .u8 0,.int .u8 0,.int .u8 0,.int .u8 0,.int .u8 0,.int .u8 0,.int .u8 0,.int .u8 0,.int .u8 0,.int .u8 0,.int .u8 0,.int .u8 0,.int .u8 0,.int .u8 0,.int .u8 0,.int .u8 0,.int .u8 0,.int .u8 0,.int .u8 0,.int .u8 0,.int .u8 0,.int .u8 0,.int .u8 0,.int .u8 0,.int .u8 0,.int .u8 0,.int .u8 0,.int .u8 0,.int .u8 0,.int .u8 0,.int .u8 0,.int .u8 0,.int .u8 0,.int .u8 0,.int .u8 0,.int .u8 0,.int .u8 0,.int .u8 0,.int .u8 0,.int .u8 0,.int .u8 0,.int .u8 0,.int .u8 0,.int .u8 0,.int .u8 0,.int .u8 0,.int .u8 0,.int .u8 0,.int .u8 0,.int .u8 0,.int .u8 0,.int .u8 0,.int .u8 0,.int .u8 0,.int .u8 0,.int .u8 0,.int .u8 0,.int .u8 0,.int .u8 0,.int .u8 0,.int .u8 0,.int .u8 0,.int .u8 0,.int .u8 0,.int .u8 0,.int .u8 0,.int .u8 0,.int .u8 0,.int .u8 0,.int .u8 0,.int .u8 0,.int .u8 0,.int .u8 0,.int .u8 0,.int .u8 0,.int .u8 0,.int .u8 0,.int .u8 0,.int .u8 0,.int .u8 0,.int .u8 0,.int .u8 0,.int .u8 0,.int .u8 0,.int .u8 0,.int .u8 0,.int .u8 0,.int .u8 0,.int .u8 0,.int .u8 0,.int .u8 0,.int .u8 0,.int .u8 0,.int .u8 0,.int .u8 0,.int .u8 0,.int .u8 0,.int .u8 0,.int .u8 0,.int .u8 0,.int .u8 0,.int .u8 0,.int .u8 0,.int .u8 0,.int .u8 0,.int .u8 0,.int .u8 0,.int .u8 0,.int .u8 0,.int .u8 0,.int .u8 0,.int .u8 0,.int .u8 0,.int .u8 0,.int .u8 0,.int .u8 0,.int .u8 0,.int .u8 0,.int .u8 0,.int .u8 0,.int .u8 0,.int .u8 0,.int .u8 0,.int .u8 0,.int .u8 0,.int .u8 0,.int .u8 0,.int .u8 0,.int .u8 0,.int .u8 0,.int .u8 0,.int .u8 0,.int .u8 0,.int .u8 0,.int .u8 0,.int .u8 0,.int .u8 0,.int .u8 0,.int .u8 0,.int .u8 0,.int .u8 0,.int .u8 0,.int .u8 0,.int .u8 0,.int .u8 0,.int .u8 0,.int .u8 0,.int .u8 0,.int .u8 0,.int .u8 0,.int .u8 0,.int .u8 0,.int .u8 0,.int .u8 0,.int .u8 0,.int .u8 0,.int .u8 0,.int .u8 0,.int .u8 0,.int .u8 0,.int .u8 0,.int .u8 0,.int .u8 0,.int .u8 0,.int .u8 0,.int .u8 0,.int .u8 0,.int .u8 0,.int .u8 0,.int .u8 0,.int .u8 0,.int .u8 0,.int .u8 0,.int .u8 0,.int .u8 0,.int .u8 0,.int .u8 0,.int .u8 0,.int .u8 0,.int .u8 0,.int .u8 0,.int .u8 0,.int .u8 0,.int .u8 0,.int .u8 0,.int .u8 0,.int .u8 0,.int .u8 0,.int .u8 0,.int .u8 0,.int .u8 0,.int .u8 0,.int .u8 0,.int .u8 0,.int .u8 0,.int .u8 0,.int .u8 0,.int .u8 0,.int .u8 0,.int .u8 0,.int .u8 0,.int .u8 0,.int .u8 0,.int .u8 0,.int .u8 0,.int .u8 0,.int .u8 0,.int .u8 0,.int .u8 0,.int .u8 0,.int .u8 0,.int .u8 0,.int .u8 0,.int .u8 0,.int .u8 0,.int .u8 0,.int .u8 0,.int .u8 0,.int .u8 0,.int .u8 0,.int .u8 0,.int .u8 0,.int .u8 0,.int .u8 0,.int .u8 0,.int .u8 0,.int .u8 0,.int .u8 0,.int .u8 0,.int .u8 0,.int .u8 0,.int .u8 0,.int .u8 0,.int .u8 0,.int .u8 0,.int .u8 0,.int .u8 0,.int .u8 0,.int .u8 0,.int .u8 0,.int .u8 0,.int .u8 0,.int .u8 0,.int .u8 0,.int .u8 0,.int .u8 0,.int .u8 0,.int .u8 0,.int .u8 0,.int .u8 0,.int .u8 0,.int .u8 0,.int .u8 0,.int .u8 0,.int .u8 0,.int .u8 0,.int .u8 0,.int .u8 0,.int .u8 0,.int .u8 0,.int .u8 0,.int .u8 0,.int .u8 0,.int .u8 0,.int .u8 0,.int .u8 0,.int .u8 0,.int .u8 0,.int .u8 0,.int .u8 0,.int .u8 0,.int .u8 0,.int .u8 0,.int .u8 0,.int .u8 0,.int .u8 0,.int .u8 0,.int .u8 0,.int .u8 0,.int .u8 0,.int .u8 0,.int .u8 0,.int .u8 0,.int .u8 0,.int .u8 0,.int .u8 0,.int .u8 0,.int .u8 0,.int .u8 0,.int .u8 0,.int .u8 0,.int .u8 0,.int .u8 0,.int .u8 0,.int .u8 0,.int .u8 0,.int .u8 0,.int .u8 0,.int .u8 0,.int .u8 0,.int .u8 0,.int .u8 0,.int .u8 0,.int .u8 0,.int .u8 0,.int .u8 0,.int .u8 0,.int .u8 0,.int .u8 0,.int .u8 0,.int .u8 0,.int .u8 0,.int .u8 0,.int .u8 0,.int .u8 0,.int .u8 0,.int .u8 0,.int .u8 0,.int .u8 0,.int .u8 0,.int .u8 0,.int .u8 0,.int .u8 0,.int .u8 0,.int .u8 0,.int .u8 0,.int .u8 0,.int .u8 0,.int .u8 0,.int .u8 0,.int .u8 0,.int .u8 0,.int .u8 0,.int .u8 0,.int .u8 0,.int .u8 0,.int .u8 0,.int .u8 0,.int .u8 0,.int .u8 0,.int .u8 0,.int .u8 0,.int .u8 0,.int .u8 0,.int .u8 0,.int .u8 0,.int .u8 0,.int .u8 0,.int .u8 0,.int .u8 0,.int .u8 0,.int .u8 0,.int .u8 0,.int .u8 0,.int .u8 0,.int .u8 0,.int .u8 0,.int .u8 0,.int .u8 0,.int .u8 0,.int .u8 0,.int .u8 0,.int .u8 0,.int .u8 0,.int .u8 0,.int .u8 0,.int .u8 0,.int .u8 0,.int .u8 0,.int .u8 0,.int .u8 0,.int .u8 0,.int .u8 0,.int .u8 0,.int .u8 0,.int .u8 0,.int .u8 0,.int .u8 0,.int .u8 0,.int .u8 0,.int .u8 0,.int .u8 0,.int .u8 0,.int .u8 0,.int .u8 0,.int .u8 0,.int .u8 0,.int .u8 0,.int .u8 0,.int .u8 0,.int .u8 0,.int .u8 0,.int .u8 0,.int .u8 0,.int .u8 0,.int .u8 0,.int .u8 0,.int .u8 0,.int .u8 0,.int .u8 0,.int .u8 0,.int .u8 0,.int .u8 0,.int .u8 0,.int .u8 0,.int .u8 0,.int .u8 0,.slice none 0 0] 375 i fun j k=>
 Q (.pointer (some ⟨j,0,none⟩)) k
def XnO:Nat→List (Nat×TypeId):=fun _=>[]
theorem XjT (a:Option Addr) (b:Nat) (c:Nat) (w:World) (Q:VWP) (h:XkK a b c w Q):Xa Tryz.prog 224 #[.slice a b c] w Q:=
 Xd XnO Tryz.func224 h (fun _ _=>by kernel_rfl) (by kernel_rfl) (by kernel_rfl) (by kernel_rfl)
def Xd9 (a:Option Addr) (w:World) (Q:VWP):Prop:=
 ∃ b,a=some b∧
 Xa Tryz.prog 295 #[.pointer (some (b.add 1)),.func (.func 296) #[.pointer a] #[]] w fun c d=>
 c=.tuple #[]∧
 Q (.pointer a) d
def Xbp:Nat→List (Nat×TypeId):=fun _=>[]
theorem QX (a:Option Addr) (w:World) (Q:VWP) (h:Xd9 a w Q):Xa Tryz.prog 228 #[.pointer a] w Q:=
 Xd Xbp Tryz.func228 h (fun _ _=>by kernel_rfl) (by kernel_rfl) (by kernel_rfl) (by kernel_rfl)
def Xbq (i:Option Addr) (j:Int) (k:Int) (l:Int) (m:Int) (w:World) (Q:VWP):Prop:=
 ∃ a,i=some a∧
 ∃ b c d,Ld Tryz.prog 373 (.pointer (some (a.add 517))) w (.slice b c d)∧
 ∃ e,IxA Tryz.prog 373 (.slice b c d) (.int .i64 j) e∧
 ∃ f,IxA Tryz.prog 372 (.pointer (some e)) (.int .u8 k) f∧
 ∃ g,Ld Tryz.prog 5 (.pointer (some f)) w (.int .u8 g)∧
 Q (.tuple #[.int .u8 g,.int .i64 0]) w
def Xea (d:Option Addr) (e:Int) (i:Int) (w:World) (Q:VWP):Prop:=
 Xa Tryz.prog 228 #[.pointer d] w fun j a=>
 ∃ k,j=.pointer k∧
 cond (decide (e<0))
 (Q (.tuple #[.int .u8 0,.int .i64 11]) a)
 (∃ b,d=some b∧
 ∃ f c g,Ld Tryz.prog 373 (.pointer (some (b.add 517))) a (.slice f c g)∧
 cond (decide (e≥((c:Nat):Int)))
 (Q (.tuple #[.int .u8 0,.int .i64 11]) a)
 (Xbq d e i 0 0 a Q))
def Xbr:Nat→List (Nat×TypeId):=fun _=>[]
theorem QY (a:Option Addr) (b:Int) (c:Int) (w:World) (Q:VWP) (h:Xea a b c w Q):Xa Tryz.prog 229 #[.pointer a,.int .i64 b,.int .u8 c] w Q:=
 Xd Xbr Tryz.func229 h (fun _ _=>by kernel_rfl) (by kernel_rfl) (by kernel_rfl) (by kernel_rfl)
def XkL (p:Int) (q:Int) (w:World) (Q:VWP):Prop:=
 LoopS [.int .u8 p,.int .u64 q,.int .u8 0,.int .u8 1] w fun l m e _ c=>
 ∃ a b k f,e=[.int .u8 a,.int .u64 b,.int .u8 k,.int .u8 f]∧
 cond (b != 0)
 (cond ((J0 .u64 b 1) != 0)
 (Xa Tryz.prog 356 #[.int .u8 f,.int .u8 a] c fun n r=>
 ∃ i,n=.int .u8 i∧
 Xa Tryz.prog 356 #[.int .u8 a,.int .u8 a] r fun o s=>
 ∃ j,o=.int .u8 j∧
 Xj [] [] l m e [.int .u8 j,.int .u64 (Int.fdiv b (2 ^ 1)),.int .u8 k,.int .u8 i] c s)
 (Xa Tryz.prog 356 #[.int .u8 a,.int .u8 a] c fun g t=>
 ∃ d,g=.int .u8 d∧
 Xj [] [] l m e [.int .u8 d,.int .u64 (Int.fdiv b (2 ^ 1)),.int .u8 k,.int .u8 f] c t))
 (Q (.int .u8 f) c)
def XnP:Nat→List (Nat×TypeId):=fun n=>match n with | 0=>[(0,5),(1,24),(4,5),(5,5)] | _=>[]
theorem XjU (a:Int) (b:Int) (w:World) (Q:VWP) (h:XkL a b w Q):Xa Tryz.prog 294 #[.int .u8 a,.int .u64 b] w Q:=
 Xd XnP Tryz.func294 h (fun _ _=>by kernel_rfl) (by kernel_rfl) (by kernel_rfl) (by kernel_rfl)
def WM (p:Option Addr) (w:World) (Q:VWP):Prop:=
 ∃ V,p=some V∧
 Xa Tryz.prog 103 #[.pointer (some (V.add 4)),.int .i64 1] w fun af W=>
 ∃ ag,af=.int .i64 ag∧
 ∃ r,p=some r∧
 ∃ X k Y,Ld Tryz.prog 23 (.pointer (some (r.add 0))) W (.slice X k Y)∧
 ∃ s t u Z,Ef Tryz.prog (Instr.makeSlice 373 (.int .i64 ((k:Nat):Int)) (.int .i64 ((k:Nat):Int))) W (.slice s t u) Z∧
 ∃ v,p=some v∧
 ∃ aa,Sto Tryz.prog 373 (.pointer (some (v.add 517))) (.slice s t u) Z aa∧
 LoopS [.pointer p,.int .i64 0] aa fun ah ai x _ l=>
 ∃ a b,x=[.pointer a,.int .i64 b]∧
 cond (decide (b<256))
 (Xa Tryz.prog 359 #[.int .u8 (IntKind.u8.wrap b)] l fun ab aj=>
 ∃ m,ab=.int .u8 m∧
 ∃ y,a=some y∧
 ∃ z,IxA Tryz.prog 372 (.pointer (some (y.add 5))) (.int .i64 b) z∧
 ∃ ac,Sto Tryz.prog 5 (.pointer (some z)) (.int .u8 m) aj ac∧
 ∃ A,a=some A∧
 ∃ B,IxA Tryz.prog 372 (.pointer (some (A.add 261))) (.int .u8 m) B∧
 ∃ S,Sto Tryz.prog 5 (.pointer (some B)) (.int .u8 (IntKind.u8.wrap b)) ac S∧
 ∃ C,a=some C∧
 ∃ D n E,Ld Tryz.prog 23 (.pointer (some (C.add 0))) S (.slice D n E)∧
 LoopS [.pointer a,.int .i64 b,.int .i64 b,.slice D n E,.int .i64 ((n:Nat):Int),.int .i64 0] S fun ak al F _ j=>
 ∃ c q d e f g o i,F=[.pointer c,.int .i64 q,.int .i64 d,.slice e f g,.int .i64 o,.int .i64 i]∧
 cond (decide (i<o))
 (∃ G,IxA Tryz.prog 23 (.slice e f g) (.int .i64 i) G∧
 ∃ H,Ld Tryz.prog 5 (.pointer (some G)) j (.int .u8 H)∧
 ∃ (I:World→Prop),
 Drw j fun T=>
 ∃ J,c=some J∧
 ∃ L M N,HLd Tryz.prog I 373 (.pointer (some (J.add 517))) T (.slice L M N)∧
 ∃ O,IxA Tryz.prog 373 (.slice L M N) (.int .i64 i) O∧
 Xa Tryz.prog 356 #[.int .u8 (IntKind.u8.wrap q),.int .u8 H] T fun ad U=>
 ∃ P,ad=.int .u8 P∧
 (U=T∨I U)∧
 ∃ R,IxA Tryz.prog 372 (.pointer (some O)) (.int .i64 q) R∧
 ∃ ae,Sto Tryz.prog 5 (.pointer (some R)) (.int .u8 P) U ae∧
 Xj [] [] ak al F [.pointer c,.int .i64 q,.int .i64 d,.slice e f g,.int .i64 o,.int .i64 (IntKind.i64.wrap (i+1))] j ae)
 (Xj [] [] ah ai x [.pointer c,.int .i64 (IntKind.i64.wrap (d+1))] l j))
 (Q (.tuple #[]) l)
def Xcd:Nat→List (Nat×TypeId):=fun n=>match n with | 0=>[(0,256),(19,3)] | 2=>[(0,256),(2,3),(19,3),(41,23),(42,3),(43,3)] | _=>[]
theorem XaM (a:Option Addr) (w:World) (Q:VWP) (h:WM a w Q):Xa Tryz.prog 296 #[.pointer a] w Q:=
 Xd Xcd Tryz.func296 h (fun _ _=>by kernel_rfl) (by kernel_rfl) (by kernel_rfl) (by kernel_rfl)
def XkM (n:Int) (o:Int) (w:World) (Q:VWP):Prop:=
 LoopS [.int .u8 n,.int .u8 o,.int .u8 0,.int .u8 0] w fun k l e _ c=>
 ∃ b a j f,e=[.int .u8 b,.int .u8 a,.int .u8 j,.int .u8 f]∧
 cond (a != 0)
 (cond ((J0 .u8 a 1) != 0)
 (Xa Tryz.prog 383 #[.int .u8 b] c fun m p=>
 ∃ i,m=.int .u8 i∧
 Xj [] [] k l e [.int .u8 i,.int .u8 (Int.fdiv a (2 ^ 1)),.int .u8 j,.int .u8 (YE .u8 f b)] c p)
 (Xa Tryz.prog 383 #[.int .u8 b] c fun g q=>
 ∃ d,g=.int .u8 d∧
 Xj [] [] k l e [.int .u8 d,.int .u8 (Int.fdiv a (2 ^ 1)),.int .u8 j,.int .u8 f] c q))
 (Q (.int .u8 f) c)
def XnQ:Nat→List (Nat×TypeId):=fun n=>match n with | 0=>[(0,5),(1,5),(4,5),(5,5)] | _=>[]
theorem XjV (a:Int) (b:Int) (w:World) (Q:VWP) (h:XkM a b w Q):Xa Tryz.prog 356 #[.int .u8 a,.int .u8 b] w Q:=
 Xd XnQ Tryz.func356 h (fun _ _=>by kernel_rfl) (by kernel_rfl) (by kernel_rfl) (by kernel_rfl)
def Xq8 (p:Int) (w:World) (Q:VWP):Prop:=
 Xa Tryz.prog 388 #[.int .u8 p] w fun q r=>
 ∃ a,q=.int .u8 a∧
 Xa Tryz.prog 390 #[.int .u8 a,.int .i64 1] r fun s t=>
 ∃ j,s=.int .u8 j∧
 Xa Tryz.prog 390 #[.int .u8 a,.int .i64 2] t fun k u=>
 ∃ b,k=.int .u8 b∧
 Xa Tryz.prog 390 #[.int .u8 a,.int .i64 3] u fun l v=>
 ∃ c,l=.int .u8 c∧
 Xa Tryz.prog 390 #[.int .u8 a,.int .i64 4] v fun m x=>
 ∃ d,m=.int .u8 d∧
 ∃ e f g n,Ef Tryz.prog (Instr.buildSlice 23 6 #[(0,.int .u8 a),(1,.int .u8 j),(2,.int .u8 b),(3,.int .u8 c),(4,.int .u8 d),(5,.int .u8 99)]) x (.slice e f g) n∧
 Xa Tryz.prog 389 #[.slice e f g] n fun o y=>
 ∃ i,o=.int .u8 i∧
 Q (.int .u8 i) y
def XlF:Nat→List (Nat×TypeId):=fun _=>[]
theorem Xh5 (a:Int) (w:World) (Q:VWP) (h:Xq8 a w Q):Xa Tryz.prog 359 #[.int .u8 a] w Q:=
 Xd XlF Tryz.func359 h (fun _ _=>by kernel_rfl) (by kernel_rfl) (by kernel_rfl) (by kernel_rfl)
def Xeb (a:Int) (w:World) (Q:VWP):Prop:=
 cond ((J0 .u8 a 128) != 0)
 (Q (.int .u8 (YE .u8 (IntKind.u8.wrap (a*2 ^ 1)) 27)) w)
 (Q (.int .u8 (IntKind.u8.wrap (a*2 ^ 1))) w)
def Xh6:Nat→List (Nat×TypeId):=fun _=>[]
theorem Xfs (a:Int) (w:World) (Q:VWP) (h:Xeb a w Q):Xa Tryz.prog 383 #[.int .u8 a] w Q:=
 Xd Xh6 Tryz.func383 h (fun _ _=>by kernel_rfl) (by kernel_rfl) (by kernel_rfl) (by kernel_rfl)
def Xsn (b:Int) (w:World) (Q:VWP):Prop:=
 Xa Tryz.prog 294 #[.int .u8 b,.int .u64 254] w fun c d=>
 ∃ a,c=.int .u8 a∧
 Q (.int .u8 a) d
def XnR:Nat→List (Nat×TypeId):=fun _=>[]
theorem XjW (a:Int) (w:World) (Q:VWP) (h:Xsn a w Q):Xa Tryz.prog 388 #[.int .u8 a] w Q:=
 Xd XnR Tryz.func388 h (fun _ _=>by kernel_rfl) (by kernel_rfl) (by kernel_rfl) (by kernel_rfl)
def XkN (n:Option Addr) (l:Nat) (o:Nat) (w:World) (Q:VWP):Prop:=
 LoopS [.int .u8 0,.int .u8 0,.slice n l o,.int .i64 ((l:Nat):Int),.int .i64 0] w fun p q c _ a=>
 ∃ m f g i j k b,c=[.int .u8 m,.int .u8 f,.slice g i j,.int .i64 k,.int .i64 b]∧
 cond (decide (b<k))
 (∃ d,IxA Tryz.prog 23 (.slice g i j) (.int .i64 b) d∧
 ∃ e,Ld Tryz.prog 5 (.pointer (some d)) a (.int .u8 e)∧
 Xj [] [] p q c [.int .u8 m,.int .u8 (YE .u8 f e),.slice g i j,.int .i64 k,.int .i64 (IntKind.i64.wrap (b+1))] a a)
 (Q (.int .u8 f) a)
def XnS:Nat→List (Nat×TypeId):=fun n=>match n with | 0=>[(2,5),(3,5),(6,23),(7,3),(8,3)] | _=>[]
theorem XjX (a:Option Addr) (b:Nat) (c:Nat) (w:World) (Q:VWP) (h:XkN a b c w Q):Xa Tryz.prog 389 #[.slice a b c] w Q:=
 Xd XnS Tryz.func389 h (fun _ _=>by kernel_rfl) (by kernel_rfl) (by kernel_rfl) (by kernel_rfl)
def XnT (a:Int) (b:Int) (w:World) (Q:VWP):Prop:=
 Drw w fun e=>
 ∃ d,Pu Tryz.prog (do eqGuard .shl 5 (.tmp 5) (.tmp 6) (.int .u8 a) (.int .i64 b); binOp .shl 5 (.int .u8 a) (.int .i64 b):Sem Value) (.int .u8 d)∧
 ∃ c,Pu Tryz.prog (do eqGuard .shr 5 (.tmp 8) (.tmp 10) (.int .u8 a) (.int .i64 (IntKind.i64.wrap (8 - b))); binOp .shr 5 (.int .u8 a) (.int .i64 (IntKind.i64.wrap (8 - b))):Sem Value) (.int .u8 c)∧
 Q (.int .u8 (ior .u8 d c)) e
def Xh7:Nat→List (Nat×TypeId):=fun _=>[]
theorem Xft (a:Int) (b:Int) (w:World) (Q:VWP) (h:XnT a b w Q):Xa Tryz.prog 390 #[.int .u8 a,.int .i64 b] w Q:=
 Xd Xh7 Tryz.func390 h (fun _ _=>by kernel_rfl) (by kernel_rfl) (by kernel_rfl) (by kernel_rfl)
end Go.Sh
end

section
namespace Go.Sh
open Go Go.Fw Go.Proofs
set_option maxRecDepth 100000
theorem XaN {b n o:Nat} {g:Nat→Value} {x y:Int} {w:World} (hB:Blk w b n g) (ho:o<n) (hv:g o=.int .i64 x) {K:VWP} (h:∀ w',Fr [b] w w'→Blk w' b n (upd g o (.int .i64 (IntKind.i64.wrap (x+y))))→w'.heap.size=w.heap.size→K (.int .i64 (IntKind.i64.wrap (x+y))) w'):Xa Tryz.prog XaJ #[.pointer (some ⟨b,o,none⟩),.int .i64 y] w K:=Xuq Tryz.func167 (by kernel_rfl) (by kernel_rfl) (by kernel_rfl) .i64 (by kernel_rfl) hB ho hv h
theorem Qx {b n o:Nat} {g:Nat→Value} {x:Int} {w:World} (hB:Blk w b n g) (ho:o<n) (hv:g o=.int .u32 x) {K:VWP} (h:K (.int .u32 x) w):Xa Tryz.prog Qw #[.pointer (some ⟨b,o,none⟩)] w K:=XvL Tryz.func384 (by kernel_rfl) (by kernel_rfl) (by kernel_rfl) .u32 (by kernel_rfl) hB ho hv h
theorem Qc {b n o:Nat} {g:Nat→Value} {y:Int} {w:World} (hB:Blk w b n g) (ho:o<n) {K:VWP} (h:∀ w',Fr [b] w w'→Blk w' b n (upd g o (.int .u32 y))→w'.heap.size=w.heap.size→K (.tuple #[]) w'):Xa Tryz.prog Qb #[.pointer (some ⟨b,o,none⟩),.int .u32 y] w K:=Xtl Tryz.func416 (by kernel_rfl) (by kernel_rfl) (by kernel_rfl) (by kernel_rfl) hB ho h
theorem Up {w:World} {K:VWP} (h:K (.tuple #[]) w):Xa Tryz.prog QV #[] w K:=XpP Tryz.func435 (by kernel_rfl) (by kernel_rfl) (by kernel_rfl) .disable (by kernel_rfl) h
theorem UF {b n o:Nat} {g:Nat→Value} {x y:Int} {w:World} (hB:Blk w b n g) (ho:o<n) (hv:g o=.int .i32 x) {K:VWP} (h:∀ w',Fr [b] w w'→Blk w' b n (upd g o (.int .i32 y))→w'.heap.size=w.heap.size→K (.bool true) w'):Xa Tryz.prog UE #[.pointer (some ⟨b,o,none⟩),.int .i32 x,.int .i32 y] w K:=XwE Tryz.func436 (by kernel_rfl) (by kernel_rfl) (by kernel_rfl) .i32 (by kernel_rfl) hB ho hv h
theorem UG {w:World} {K:VWP} (h:K (.tuple #[]) w):Xa Tryz.prog XaK #[] w K:=XpP Tryz.func437 (by kernel_rfl) (by kernel_rfl) (by kernel_rfl) .enable (by kernel_rfl) h
theorem QZ {a:Addr} {w:World} {K:VWP} (h:K (.tuple #[]) w):Xa Tryz.prog QW #[.pointer (some a)] w K:=XmH Tryz.func438 (by kernel_rfl) (by kernel_rfl) (by kernel_rfl) .acquire (by kernel_rfl) h
theorem VQ {a:Addr} {w:World} {K:VWP} (h:K (.tuple #[]) w):Xa Tryz.prog VP #[.pointer (some a)] w K:=XmH Tryz.func440 (by kernel_rfl) (by kernel_rfl) (by kernel_rfl) .releaseMerge (by kernel_rfl) h
theorem XaO {b n o:Nat} {g:Nat→Value} {x y:Int} {w:World} (hB:Blk w b n g) (ho:o<n) (hv:g o=.int .i32 x) {K:VWP} (h:∀ w',Fr [b] w w'→Blk w' b n (upd g o (.int .i32 (IntKind.i32.wrap (x+y))))→w'.heap.size=w.heap.size→K (.int .i32 (IntKind.i32.wrap (x+y))) w'):Xa Tryz.prog XaL #[.pointer (some ⟨b,o,none⟩),.int .i32 y] w K:=Xuq Tryz.func441 (by kernel_rfl) (by kernel_rfl) (by kernel_rfl) .i32 (by kernel_rfl) hB ho hv h
end Go.Sh
end

section
namespace Go.Sh
open Go Go.Fw Go.Proofs
set_option maxRecDepth 100000
set_option linter.unusedVariables false
def Qy (a:Option Addr) (w:World) (Q:VWP):Prop:=
 Xa Tryz.prog 435 #[] w fun j k=>
 j=.tuple #[]∧
 ∃ b,a=some b∧
 Xa Tryz.prog 436 #[.pointer (some (b.add 0)),.int .i32 0,.int .i32 1] k fun l c=>
 ∃ d,l=.bool d∧
 cond d
 (Xa Tryz.prog 437 #[] c fun m n=>
 m=.tuple #[]∧
 ∃ e f,Ef Tryz.prog (convert 551 241 (.pointer a)) n (e) f∧
 Xa Tryz.prog 438 #[e] f fun g o=>
 g=.tuple #[]∧
 Q (.tuple #[]) o)
 (Xa Tryz.prog 439 #[.pointer a] c fun i p=>
 i=.tuple #[]∧
 Q (.tuple #[]) p)
def Wg:Nat→List (Nat×TypeId):=fun _=>[]
theorem VA (a:Option Addr) (w:World) (Q:VWP) (h:Qy a w Q):Xa Tryz.prog 414 #[.pointer a] w Q:=
 Xd Wg Tryz.func414 h (fun _ _=>by kernel_rfl) (by kernel_rfl) (by kernel_rfl) (by kernel_rfl)
def VB (d:Option Addr) (w:World) (Q:VWP):Prop:=
 ∃ c,d=some c∧
 Xa Tryz.prog 441 #[.pointer (some (c.add 0)),.int .i32 (-1)] w fun e f=>
 ∃ a,e=.int .i32 a∧
 cond (a != 0)
 (Xa Tryz.prog 442 #[.pointer d,.int .i32 a] f fun g j=>
 g=.tuple #[]∧
 Xa Tryz.prog 437 #[] j fun i k=>
 i=.tuple #[]∧
 Q (.tuple #[]) k)
 (Xa Tryz.prog 437 #[] f fun b l=>
 b=.tuple #[]∧
 Q (.tuple #[]) l)
def WD (a:Option Addr) (w:World) (Q:VWP):Prop:=
 ∃ b,a=some b∧
 ∃ f,Ld Tryz.prog 21 (.pointer (some (b.add 0))) w (.int .i32 f)∧
 ∃ c d,Ef Tryz.prog (convert 551 241 (.pointer a)) w (c) d∧
 Xa Tryz.prog 440 #[c] d fun g i=>
 g=.tuple #[]∧
 Xa Tryz.prog 435 #[] i fun e j=>
 e=.tuple #[]∧
 VB a j Q
def VC:Nat→List (Nat×TypeId):=fun _=>[]
theorem U9 (a:Option Addr) (w:World) (Q:VWP) (h:WD a w Q):Xa Tryz.prog 415 #[.pointer a] w Q:=
 Xd VC Tryz.func415 h (fun _ _=>by kernel_rfl) (by kernel_rfl) (by kernel_rfl) (by kernel_rfl)
end Go.Sh
end

section
namespace Go.Sh
open Go Go.Fw Go.Proofs
set_option maxRecDepth 100000
set_option linter.unusedVariables false
def XnU (a:Option Addr) (f:Value) (w:World) (Q:VWP):Prop:=
 ∃ b,a=some b∧
 Xa Tryz.prog 357 #[.pointer (some (b.add 0))] w fun g c=>
 ∃ d,g=.bool d∧
 cond (!d)
 (Xa Tryz.prog 358 #[.pointer a,f] c fun e i=>
 e=.tuple #[]∧
 Q (.tuple #[]) i)
 (Q (.tuple #[]) c)
def Xh8:Nat→List (Nat×TypeId):=fun _=>[]
theorem WN (a:Option Addr) (b:Value) (w:World) (Q:VWP) (h:XnU a b w Q):Xa Tryz.prog 295 #[.pointer a,b] w Q:=
 Xd Xh8 Tryz.func295 h (fun _ _=>by kernel_rfl) (by kernel_rfl) (by kernel_rfl) (by kernel_rfl)
def XgT (a:Option Addr) (k:Value) (w:World) (Q:VWP):Prop:=
 ∃ f,a=some f∧
 Xa Tryz.prog 385 #[.pointer (some (f.add 1))] w fun l m=>
 l=.tuple #[]∧
 ∃ e,a=some e∧
 ∃ b,a=some b∧
 Xa Tryz.prog 357 #[.pointer (some (b.add 0))] m fun g i=>
 ∃ c,g=.bool c∧
 cond (!c)
 (∃ d,a=some d∧
 Yv Tryz.prog (k) [] i fun j n=>
 j=.tuple #[]∧
 Xba Tryz.prog 387 #[.pointer (some (d.add 0)),.bool true] n fun o=>
 Xba Tryz.prog 386 #[.pointer (some (e.add 1))] o fun p=>
 Q (.tuple #[]) p)
 (Xba Tryz.prog 386 #[.pointer (some (e.add 1))] i fun q=>
 Q (.tuple #[]) q)
def Xdk:Nat→List (Nat×TypeId):=fun _=>[]
theorem Xbs (a:Option Addr) (b:Value) (w:World) (Q:VWP) (h:XgT a b w Q):Xa Tryz.prog 358 #[.pointer a,b] w Q:=
 Xd Xdk Tryz.func358 h (fun _ _=>by kernel_rfl) (by kernel_rfl) (by kernel_rfl) (by kernel_rfl)
def Xh9 (b:Option Addr) (w:World) (Q:VWP):Prop:=
 ∃ a,b=some a∧
 Xa Tryz.prog 414 #[.pointer (some (a.add 0))] w fun c d=>
 c=.tuple #[]∧
 Q (.tuple #[]) d
def Xec:Nat→List (Nat×TypeId):=fun _=>[]
theorem Xce (a:Option Addr) (w:World) (Q:VWP) (h:Xh9 a w Q):Xa Tryz.prog 385 #[.pointer a] w Q:=
 Xd Xec Tryz.func385 h (fun _ _=>by kernel_rfl) (by kernel_rfl) (by kernel_rfl) (by kernel_rfl)
def Us (b:Option Addr) (w:World) (Q:VWP):Prop:=
 ∃ a,b=some a∧
 Xa Tryz.prog 415 #[.pointer (some (a.add 0))] w fun c d=>
 c=.tuple #[]∧
 Q (.tuple #[]) d
def JG:Nat→List (Nat×TypeId):=fun _=>[]
theorem Q0 (a:Option Addr) (w:World) (K:World→Prop) (h:Us a w (fun _ w=>K w)):Xba Tryz.prog 386 #[.pointer a] w K:=
 ⟨fun _ _=>by kernel_rfl,XfS JG Tryz.func386 rfl (by kernel_rfl) (show sw Tryz.prog none 6 JG _ 0 (XmD Tryz.prog [] K) ⟨Y6 [.pointer a],[]⟩ w from
 Eq.mp (by kernel_rfl:Us a w (fun _ w=>K w)=sw Tryz.prog none 6 JG (Tryz.f386.body.getD .skip) 0 (XmD Tryz.prog [] K) ⟨Y6 [.pointer a],[]⟩ w) h)⟩
end Go.Sh
end

section
namespace Go.Sh
open Go Go.Fw Go.Proofs
set_option maxRecDepth 100000
set_option linter.unusedVariables false
def Xbt (c:Option Addr) (d:Int) (w:World) (Q:VWP):Prop:=
 ∃ a,c=some a∧
 Xa Tryz.prog 167 #[.pointer (some (a.add 0)),.int .i64 d] w fun e f=>
 ∃ b,e=.int .i64 b∧
 Q (.int .i64 b) f
def Qz:Nat→List (Nat×TypeId):=fun _=>[]
theorem WE (a:Option Addr) (b:Int) (w:World) (Q:VWP) (h:Xbt a b w Q):Xa Tryz.prog 103 #[.pointer a,.int .i64 b] w Q:=
 Xd Qz Tryz.func103 h (fun _ _=>by kernel_rfl) (by kernel_rfl) (by kernel_rfl) (by kernel_rfl)
def Xbu (c:Option Addr) (w:World) (Q:VWP):Prop:=
 ∃ a,c=some a∧
 Xa Tryz.prog 384 #[.pointer (some (a.add 0))] w fun d e=>
 ∃ b,d=.int .u32 b∧
 Q (.bool (b != 0)) e
def QA:Nat→List (Nat×TypeId):=fun _=>[]
theorem WF (a:Option Addr) (w:World) (Q:VWP) (h:Xbu a w Q):Xa Tryz.prog 357 #[.pointer a] w Q:=
 Xd QA Tryz.func357 h (fun _ _=>by kernel_rfl) (by kernel_rfl) (by kernel_rfl) (by kernel_rfl)
def ZY (c:Option Addr) (d:Bool) (w:World) (Q:VWP):Prop:=
 Drw w fun e=>
 ∃ a,c=some a∧
 Xa Tryz.prog 417 #[.bool d] e fun f g=>
 ∃ b,f=.int .u32 b∧
 Xa Tryz.prog 416 #[.pointer (some (a.add 0)),.int .u32 b] g fun i j=>
 i=.tuple #[]∧
 Q (.tuple #[]) j
def Za:Nat→List (Nat×TypeId):=fun _=>[]
theorem VS (a:Option Addr) (b:Bool) (w:World) (K:World→Prop) (h:ZY a b w (fun _ w=>K w)):Xba Tryz.prog 387 #[.pointer a,.bool b] w K:=
 ⟨fun _ _=>by kernel_rfl,XfS Za Tryz.func387 rfl (by kernel_rfl) (show sw Tryz.prog none 10 Za _ 0 (XmD Tryz.prog [] K) ⟨Y6 [.pointer a,.bool b],[]⟩ w from
 Eq.mp (by kernel_rfl:ZY a b w (fun _ w=>K w)=sw Tryz.prog none 10 Za (Tryz.f387.body.getD .skip) 0 (XmD Tryz.prog [] K) ⟨Y6 [.pointer a,.bool b],[]⟩ w) h)⟩
def Xia (a:Bool) (w:World) (Q:VWP):Prop:=
 cond a
 (Q (.int .u32 1) w)
 (Q (.int .u32 0) w)
def Xed:Nat→List (Nat×TypeId):=fun _=>[]
theorem Xcf (a:Bool) (w:World) (Q:VWP) (h:Xia a w Q):Xa Tryz.prog 417 #[.bool a] w Q:=
 Xd Xed Tryz.func417 h (fun _ _=>by kernel_rfl) (by kernel_rfl) (by kernel_rfl) (by kernel_rfl)
end Go.Sh
end
