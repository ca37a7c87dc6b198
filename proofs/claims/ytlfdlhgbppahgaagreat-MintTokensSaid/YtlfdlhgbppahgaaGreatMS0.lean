/- A part of a proof of a given law of this program: lemmas, printed forms of its functions, contracts. It has no conditions of its own. -/
import Derived.Test.YtlfdlhgbppahgaaGreatProg
import Derived.Test.YtlfdlhgbppahgaaGreatMW0

set_option maxHeartbeats 16000000
section
namespace Go.Sh
open Go
abbrev XeN:FuncId:=6
abbrev Xnp:FuncId:=9
abbrev Xs3:FuncId:=10
abbrev X9:FuncId:=11
abbrev XdY:FuncId:=12
abbrev Xgv:FuncId:=13
abbrev Xnq:FuncId:=14
abbrev XeO:FuncId:=15
abbrev Xdx:FuncId:=16
abbrev Xje:FuncId:=17
abbrev Xgw:FuncId:=18
abbrev Uq:FuncId:=19
abbrev Jj:FuncId:=20
abbrev Qm:FuncId:=21
abbrev Xnr:FuncId:=22
abbrev Xgx:FuncId:=23
abbrev Xns:FuncId:=24
abbrev Xrd:FuncId:=25
abbrev Xs4:FuncId:=26
abbrev XeP:FuncId:=27
abbrev Xh8:FuncId:=28
abbrev Xjf:FuncId:=29
abbrev Xjg:FuncId:=30
abbrev Xpa:FuncId:=31
abbrev XeQ:FuncId:=32
abbrev Xgy:FuncId:=34
abbrev Xgz:FuncId:=36
abbrev JI:FuncId:=38
abbrev Xs5:FuncId:=39
abbrev XgA:FuncId:=40
abbrev QR:FuncId:=41
abbrev Xli:FuncId:=42
abbrev Xlj:FuncId:=43
abbrev Xpb:FuncId:=44
abbrev Xlk:FuncId:=45
abbrev Xpc:FuncId:=46
abbrev Xre:FuncId:=47
abbrev XdZ:FuncId:=48
abbrev XeR:FuncId:=49
abbrev Xnt:FuncId:=50
abbrev Xnu:FuncId:=51
abbrev Xpd:FuncId:=52
abbrev XgB:FuncId:=53
abbrev Xs6:FuncId:=54
abbrev XgC:FuncId:=55
abbrev Xh9:FuncId:=56
abbrev Xs7:FuncId:=57
abbrev Qn:FuncId:=58
abbrev Xll:FuncId:=59
abbrev J0:FuncId:=60
abbrev Xrf:FuncId:=61
abbrev Xpe:FuncId:=62
abbrev Xnv:FuncId:=63
abbrev Xnw:FuncId:=64
abbrev Xd0:FuncId:=66
abbrev XgD:FuncId:=67
abbrev Xuk:FuncId:=69
abbrev Xia:FuncId:=70
abbrev XgE:FuncId:=71
abbrev XgF:FuncId:=72
abbrev Xhn:FuncId:=73
abbrev XaQ:FuncId:=74
abbrev Xjh:FuncId:=75
abbrev Xlm:FuncId:=76
abbrev Xpf:FuncId:=77
abbrev WB:FuncId:=78
abbrev Xd1:FuncId:=79
abbrev XgG:FuncId:=80
abbrev Xd2:FuncId:=81
abbrev Xrg:FuncId:=82
abbrev Xib:FuncId:=83
abbrev XgH:FuncId:=84
abbrev Xd3:FuncId:=85
abbrev XgI:FuncId:=86
abbrev Xnx:FuncId:=87
abbrev Xpg:FuncId:=88
abbrev Xd4:FuncId:=89
abbrev Xd5:FuncId:=90
abbrev XeS:FuncId:=91
abbrev Xln:FuncId:=92
abbrev XgJ:FuncId:=93
abbrev Xs8:FuncId:=94
abbrev Xco:FuncId:=95
abbrev XeT:FuncId:=96
abbrev Xd6:FuncId:=97
abbrev QS:FuncId:=98
abbrev Xny:FuncId:=99
abbrev Xji:FuncId:=100
abbrev Xrh:FuncId:=101
abbrev Xlo:FuncId:=102
abbrev XeU:FuncId:=106
abbrev U7:FuncId:=107
abbrev Xri:FuncId:=108
abbrev Xd7:FuncId:=110
abbrev Xdy:FuncId:=111
abbrev Xph:FuncId:=112
abbrev XeV:FuncId:=113
abbrev Xpi:FuncId:=114
abbrev Xrj:FuncId:=115
abbrev Xnz:FuncId:=116
abbrev Xlp:FuncId:=117
abbrev Xpj:FuncId:=118
abbrev Xrk:FuncId:=119
abbrev Xd8:FuncId:=122
abbrev XgK:FuncId:=123
abbrev XgL:FuncId:=124
abbrev XeW:FuncId:=125
abbrev Xpk:FuncId:=126
abbrev XeX:FuncId:=127
abbrev XgM:FuncId:=128
abbrev JV:FuncId:=129
abbrev Xpl:FuncId:=130
abbrev XnA:FuncId:=131
abbrev Xlq:FuncId:=132
abbrev Xpm:FuncId:=133
abbrev XnB:FuncId:=134
abbrev Xpn:FuncId:=135
abbrev Xs9:FuncId:=136
abbrev Xrl:FuncId:=137
abbrev Xd9:FuncId:=138
abbrev Xjj:FuncId:=139
abbrev Xjk:FuncId:=140
abbrev Xic:FuncId:=141
abbrev J1:FuncId:=142
abbrev Xid:FuncId:=143
abbrev Xea:FuncId:=144
abbrev J2:FuncId:=145
abbrev Xul:FuncId:=146
abbrev Xta:FuncId:=147
abbrev Xpo:FuncId:=148
abbrev XgN:FuncId:=149
abbrev Xlr:FuncId:=150
abbrev Xrm:FuncId:=152
abbrev Xrn:FuncId:=153
abbrev Xie:FuncId:=154
abbrev Xpp:FuncId:=155
abbrev Xpq:FuncId:=156
abbrev W1:FuncId:=157
abbrev Xro:FuncId:=159
abbrev XnC:FuncId:=160
abbrev Xpr:FuncId:=161
abbrev Xps:FuncId:=162
abbrev Xpt:FuncId:=163
abbrev Xls:FuncId:=164
abbrev Xpu:FuncId:=165
abbrev Xrp:FuncId:=166
abbrev Xpv:FuncId:=167
abbrev Xpw:FuncId:=168
abbrev Xjl:FuncId:=169
abbrev Xrq:FuncId:=170
abbrev Xpx:FuncId:=171
abbrev Xrr:FuncId:=172
abbrev Xrs:FuncId:=173
abbrev Xrt:FuncId:=174
abbrev Xcp:FuncId:=175
abbrev Xcq:FuncId:=176
abbrev Uf:FuncId:=178
abbrev Xlt:FuncId:=179
abbrev Xjm:FuncId:=180
abbrev XgO:FuncId:=181
abbrev XgP:FuncId:=182
abbrev XnD:FuncId:=183
abbrev Xlu:FuncId:=184
abbrev QT:FuncId:=185
abbrev Ur:FuncId:=186
abbrev Xpy:FuncId:=187
abbrev Xpz:FuncId:=188
abbrev XnE:FuncId:=189
abbrev XnF:FuncId:=190
abbrev XeY:FuncId:=191
abbrev Xcr:FuncId:=192
abbrev XeZ:FuncId:=193
abbrev Xru:FuncId:=194
abbrev Xtb:FuncId:=195
abbrev Xrv:FuncId:=196
abbrev VF:FuncId:=197
abbrev Xeb:FuncId:=198
abbrev UB:FuncId:=199
abbrev Xe0:FuncId:=201
abbrev Xjn:FuncId:=202
abbrev Xrw:FuncId:=203
abbrev XnG:FuncId:=204
abbrev Xrx:FuncId:=205
abbrev Xcs:FuncId:=206
abbrev Xlv:FuncId:=208
abbrev QU:FuncId:=209
abbrev XpA:FuncId:=211
abbrev V3:FuncId:=212
abbrev WC:FuncId:=213
abbrev Xif:FuncId:=214
abbrev XnH:FuncId:=215
abbrev Qo:FuncId:=216
abbrev XgQ:FuncId:=217
abbrev Xry:FuncId:=220
abbrev Xrz:FuncId:=221
abbrev Xlw:FuncId:=222
abbrev Xig:FuncId:=223
abbrev Ws:FuncId:=224
abbrev VG:FuncId:=225
abbrev W2:FuncId:=226
abbrev Xih:FuncId:=228
abbrev QV:FuncId:=229
abbrev UC:FuncId:=230
abbrev XaR:FuncId:=231
abbrev QW:FuncId:=232
abbrev VH:FuncId:=234
abbrev XaS:FuncId:=235
abbrev Ye:TypeId:=3
abbrev Xjo:TypeId:=4
abbrev Jk:TypeId:=5
abbrev Xf:TypeId:=22
abbrev Xdz:TypeId:=24
abbrev Xho:TypeId:=25
abbrev Xii:TypeId:=28
abbrev YA:TypeId:=30
abbrev Xo:TypeId:=32
abbrev JG:TypeId:=36
abbrev Zd:TypeId:=38
abbrev UD:TypeId:=47
abbrev Xhp:TypeId:=49
abbrev VJ:TypeId:=51
abbrev T_law21_Call:TypeId:=53
abbrev Qp:TypeId:=57
abbrev Xn:TypeId:=63
abbrev ZN:TypeId:=68
abbrev Xlx:TypeId:=94
abbrev XpB:TypeId:=95
abbrev XpC:TypeId:=97
abbrev XF:TypeId:=116
abbrev XL:TypeId:=120
abbrev Xe1:TypeId:=122
abbrev JQ:TypeId:=124
abbrev XrA:TypeId:=131
abbrev YD:TypeId:=133
abbrev XT:TypeId:=138
abbrev XrB:TypeId:=140
abbrev Xu:TypeId:=161
abbrev Xhq:TypeId:=179
abbrev XE:TypeId:=208
abbrev Yf:TypeId:=213
abbrev YW:TypeId:=217
abbrev Xhr:TypeId:=222
abbrev XrC:TypeId:=223
abbrev Xjp:TypeId:=224
abbrev Xtc:TypeId:=228
abbrev X2:TypeId:=240
abbrev Xhs:TypeId:=253
abbrev Xad:TypeId:=254
abbrev Xjq:TypeId:=269
abbrev XW:TypeId:=278
abbrev Xht:TypeId:=291
abbrev Xae:TypeId:=293
end Go.Sh
end

section
namespace Go.Sh
open Go Go.Fw Go.Proofs
set_option maxRecDepth 100000
set_option linter.unusedVariables false
def Xmx (d:Option Addr) (e:Nat) (f:Nat) (w:World) (Q:VWP):Prop:=
 Xa Tryz.prog 60 #[.slice d e f] w fun g i=>
 ∃ a b c,g=.slice a b c∧
 New #[.slice a b c,.int .u32 0,.int .i32 0,.int .u32 0,.int .i64 0,.int .u8 0,.int .u8 0,.int .u8 0,.int .u8 0,.int .u8 0,.int .u8 0,.int .u8 0,.int .u8 0,.int .u8 0,.int .u8 0,.int .u8 0,.int .u8 0,.int .u8 0,.int .u8 0,.int .u8 0,.int .u8 0,.int .u8 0,.int .u8 0,.int .u8 0,.int .u8 0,.int .u8 0,.int .u8 0,.int .u8 0,.int .u8 0,.int .u8 0,.int .u8 0,.int .u8 0,.int .u8 0,.int .u8 0,.int .u8 0,.int .u8 0,.int .u8 0,.int .u8 0,.int .u8 0,.int .u8 0,.int .u8 0,.int .u8 0,.int .u8 0,.int .u8 0,.int .u8 0,.int .u8 0,.int .u8 0,.int .u8 0,.int .u8 0,.int .u8 0,.int .u8 0,.int .u8 0,.int .u8 0,.int .u8 0,.int .u8 0,.int .u8 0,.int .u8 0,.int .u8 0,.int .u8 0,.int .u8 0,.int .u8 0,.int .u8 0,.int .u8 0,.int .u8 0,.int .u8 0,.int .u8 0,.int .u8 0,.int .u8 0,.int .u8 0,.int .u8 0,.int .u8 0,.int .u8 0,.int .u8 0,.int .u8 0,.int .u8 0,.int .u8 0,.int .u8 0,.int .u8 0,.int .u8 0,.int .u8 0,.int .u8 0,.int .u8 0,.int .u8 0,.int .u8 0,.int .u8 0,.int .u8 0,.int .u8 0,.int .u8 0,.int .u8 0,.int .u8 0,.int .u8 0,.int .u8 0,.int .u8 0,.int .u8 0,.int .u8 0,.int .u8 0,.int .u8 0,.int .u8 0,.int .u8 0,.int .u8 0,.int .u8 0,.int .u8 0,.int .u8 0,.int .u8 0,.int .u8 0,.int .u8 0,.int .u8 0,.int .u8 0,.int .u8 0,.int .u8 0,.int .u8 0,.int .u8 0,.int .u8 0,.int .u8 0,.int .u8 0,.int .u8 0,.int .u8 0,.int .u8 0,.int .u8 0,.int .u8 0,.int .u8 0,.int .u8 0,.int .u8 0,.int .u8 0,.int .u8 0,.int .u8 0,.int .u8 0,.int .u8 0,.int .u8 0,.int .u8 0,.int .u8 0,.int .u8 0,.int .u8 0,.int .u8 0,.int .u8 0,.int .u8 0,.int .u8 0,.int .u8 0,.int .u8 0,.int .u8 0,.int .u8 0,.int .u8 0,.int .u8 0,.int .u8 0,.int .u8 0,.int .u8 0,.int .u8 0,.int .u8 0,.int .u8 0,.int .u8 0,.int .u8 0,.int .u8 0,.int .u8 0,.int .u8 0,.int .u8 0,.int .u8 0,.int .u8 0,.int .u8 0,.int .u8 0,.int .u8 0,.int .u8 0,.int .u8 0,.int .u8 0,.int .u8 0,.int .u8 0,.int .u8 0,.int .u8 0,.int .u8 0,.int .u8 0,.int .u8 0,.int .u8 0,.int .u8 0,.int .u8 0,.int .u8 0,.int .u8 0,.int .u8 0,.int .u8 0,.int .u8 0,.int .u8 0,.int .u8 0,.int .u8 0,.int .u8 0,.int .u8 0,.int .u8 0,.int .u8 0,.int .u8 0,.int .u8 0,.int .u8 0,.int .u8 0,.int .u8 0,.int .u8 0,.int .u8 0,.int .u8 0,.int .u8 0,.int .u8 0,.int .u8 0,.int .u8 0,.int .u8 0,.int .u8 0,.int .u8 0,.int .u8 0,.int .u8 0,.int .u8 0,.int .u8 0,.int .u8 0,.int .u8 0,.int .u8 0,.int .u8 0,.int .u8 0,.int .u8 0,.int .u8 0,.int .u8 0,.int .u8 0,.int .u8 0,.int .u8 0,.int .u8 0,.int .u8 0,.int .u8 0,.int .u8 0,.int .u8 0,.int .u8 0,.int .u8 0,.int .u8 0,.int .u8 0,.int .u8 0,.int .u8 0,.int .u8 0,.int .u8 0,.int .u8 0,.int .u8 0,.int .u8 0,.int .u8 0,.int .u8 0,.int .u8 0,.int .u8 0,.int .u8 0,.int .u8 0,.int .u8 0,.int .u8 0,.int .u8 0,.int .u8 0,.int .u8 0,.int .u8 0,.int .u8 0,.int .u8 0,.int .u8 0,.int .u8 0,.int .u8 0,.int .u8 0,.int .u8 0,.int .u8 0,.int .u8 0,.int .u8 0,.int .u8 0,.int .u8 0,.int .u8 0,.int .u8 0,.int .u8 0,.int .u8 0,.int .u8 0,.int .u8 0,.int .u8 0,.int .u8 0,.int .u8 0,.int .u8 0,.int .u8 0,.int .u8 0,.int .u8 0,.int .u8 0,.int .u8 0,.int .u8 0,.int .u8 0,.int .u8 0,.int .u8 0,.int .u8 0,.int .u8 0,.int .u8 0,.int .u8 0,.int .u8 0,.int .u8 0,.int .u8 0,.int .u8 0,.int .u8 0,.int .u8 0,.int .u8 0,.int .u8 0,.int .u8 0,.int .u8 0,.int .u8 0,.int .u8 0,.int .u8 0,.int .u8 0,.int .u8 0,.int .u8 0,.int .u8 0,.int .u8 0,.int .u8 0,.int .u8 0,.int .u8 0,.int .u8 0,.int .u8 0,.int .u8 0,.int .u8 0,.int .u8 0,.int .u8 0,.int .u8 0,.int .u8 0,.int .u8 0,.int .u8 0,.int .u8 0,.int .u8 0,.int .u8 0,.int .u8 0,.int .u8 0,.int .u8 0,.int .u8 0,.int .u8 0,.int .u8 0,.int .u8 0,.int .u8 0,.int .u8 0,.int .u8 0,.int .u8 0,.int .u8 0,.int .u8 0,.int .u8 0,.int .u8 0,.int .u8 0,.int .u8 0,.int .u8 0,.int .u8 0,.int .u8 0,.int .u8 0,.int .u8 0,.int .u8 0,.int .u8 0,.int .u8 0,.int .u8 0,.int .u8 0,.int .u8 0,.int .u8 0,.int .u8 0,.int .u8 0,.int .u8 0,.int .u8 0,.int .u8 0,.int .u8 0,.int .u8 0,.int .u8 0,.int .u8 0,.int .u8 0,.int .u8 0,.int .u8 0,.int .u8 0,.int .u8 0,.int .u8 0,.int .u8 0,.int .u8 0,.int .u8 0,.int .u8 0,.int .u8 0,.int .u8 0,.int .u8 0,.int .u8 0,.int .u8 0,.int .u8 0,.int .u8 0,.int .u8 0,.int .u8 0,.int .u8 0,.int .u8 0,.int .u8 0,.int .u8 0,.int .u8 0,.int .u8 0,.int .u8 0,.int .u8 0,.int .u8 0,.int .u8 0,.int .u8 0,.int .u8 0,.int .u8 0,.int .u8 0,.int .u8 0,.int .u8 0,.int .u8 0,.int .u8 0,.int .u8 0,.int .u8 0,.int .u8 0,.int .u8 0,.int .u8 0,.int .u8 0,.int .u8 0,.int .u8 0,.int .u8 0,.int .u8 0,.int .u8 0,.int .u8 0,.int .u8 0,.int .u8 0,.int .u8 0,.int .u8 0,.int .u8 0,.int .u8 0,.int .u8 0,.int .u8 0,.int .u8 0,.int .u8 0,.int .u8 0,.int .u8 0,.int .u8 0,.int .u8 0,.int .u8 0,.int .u8 0,.int .u8 0,.int .u8 0,.int .u8 0,.int .u8 0,.int .u8 0,.int .u8 0,.int .u8 0,.int .u8 0,.int .u8 0,.int .u8 0,.int .u8 0,.int .u8 0,.int .u8 0,.int .u8 0,.int .u8 0,.int .u8 0,.int .u8 0,.int .u8 0,.int .u8 0,.int .u8 0,.int .u8 0,.int .u8 0,.int .u8 0,.int .u8 0,.int .u8 0,.int .u8 0,.int .u8 0,.int .u8 0,.int .u8 0,.int .u8 0,.int .u8 0,.int .u8 0,.int .u8 0,.int .u8 0,.int .u8 0,.int .u8 0,.int .u8 0,.int .u8 0,.int .u8 0,.int .u8 0,.int .u8 0,.int .u8 0,.int .u8 0,.int .u8 0,.int .u8 0,.int .u8 0,.int .u8 0,.int .u8 0,.int .u8 0,.int .u8 0,.int .u8 0,.int .u8 0,.int .u8 0,.int .u8 0,.int .u8 0,.int .u8 0,.int .u8 0,.int .u8 0,.int .u8 0,.int .u8 0,.int .u8 0,.int .u8 0,.int .u8 0,.int .u8 0,.int .u8 0,.int .u8 0,.int .u8 0,.int .u8 0,.int .u8 0,.int .u8 0,.int .u8 0,.int .u8 0,.int .u8 0,.int .u8 0,.int .u8 0,.int .u8 0,.int .u8 0,.int .u8 0,.int .u8 0,.int .u8 0,.int .u8 0,.int .u8 0,.int .u8 0,.int .u8 0,.int .u8 0,.int .u8 0,.int .u8 0,.int .u8 0,.int .u8 0,.int .u8 0,.int .u8 0,.int .u8 0,.int .u8 0,.int .u8 0,.int .u8 0,.int .u8 0,.int .u8 0,.int .u8 0,.int .u8 0,.int .u8 0,.int .u8 0,.int .u8 0,.slice none 0 0] 271 i fun j k=>
 Q (.pointer (some ⟨j,0,none⟩)) k
def XpD:Nat→List (Nat×TypeId):=fun _=>[]
theorem Xly (a:Option Addr) (b:Nat) (c:Nat) (w:World) (Q:VWP) (h:Xmx a b c w Q):Xa Tryz.prog 137 #[.slice a b c] w Q:=
 Xc XpD Tryz.func137 h (fun _ _=>by kernel_rfl) (by kernel_rfl) (by kernel_rfl) (by kernel_rfl)
def Xij (f:Option Addr) (g:Int) (w:World) (Q:VWP):Prop:=
 Xa Tryz.prog 175 #[.pointer f] w fun i c=>
 ∃ d,i=.pointer d∧
 ∃ e,d=some e∧
 ∃ a,IxA Tryz.prog 268 (.pointer (some (e.add 5))) (.int .u8 g) a∧
 ∃ b,Ld Tryz.prog 5 (.pointer (some a)) c (.int .u8 b)∧
 Q (.int .u8 b) c
def Xec:Nat→List (Nat×TypeId):=fun _=>[]
theorem Xbw (a:Option Addr) (b:Int) (w:World) (Q:VWP) (h:Xij a b w Q):Xa Tryz.prog 142 #[.pointer a,.int .u8 b] w Q:=
 Xc Xec Tryz.func142 h (fun _ _=>by kernel_rfl) (by kernel_rfl) (by kernel_rfl) (by kernel_rfl)
def Xmy (p:Int) (q:Int) (w:World) (Q:VWP):Prop:=
 LoopS [.int .u8 p,.int .u64 q,.int .u8 0,.int .u8 1] w fun l m e _ c=>
 ∃ a b k f,e=[.int .u8 a,.int .u64 b,.int .u8 k,.int .u8 f]∧
 cond (b != 0)
 (cond ((Zc .u64 b 1) != 0)
 (Xa Tryz.prog 196 #[.int .u8 f,.int .u8 a] c fun n r=>
 ∃ i,n=.int .u8 i∧
 Xa Tryz.prog 196 #[.int .u8 a,.int .u8 a] r fun o s=>
 ∃ j,o=.int .u8 j∧
 Xh [] [] l m e [.int .u8 j,.int .u64 (Int.fdiv b (2 ^ 1)),.int .u8 k,.int .u8 i] c s)
 (Xa Tryz.prog 196 #[.int .u8 a,.int .u8 a] c fun g t=>
 ∃ d,g=.int .u8 d∧
 Xh [] [] l m e [.int .u8 d,.int .u64 (Int.fdiv b (2 ^ 1)),.int .u8 k,.int .u8 f] c t))
 (Q (.int .u8 f) c)
def XpE:Nat→List (Nat×TypeId):=fun n=>match n with | 0=>[(0,5),(1,28),(4,5),(5,5)] | _=>[]
theorem Xlz (a:Int) (b:Int) (w:World) (Q:VWP) (h:Xmy a b w Q):Xa Tryz.prog 174 #[.int .u8 a,.int .u64 b] w Q:=
 Xc XpE Tryz.func174 h (fun _ _=>by kernel_rfl) (by kernel_rfl) (by kernel_rfl) (by kernel_rfl)
def Xe2 (a:Option Addr) (w:World) (Q:VWP):Prop:=
 ∃ b,a=some b∧
 Xa Tryz.prog 197 #[.pointer (some (b.add 1)),.func (.func 198) #[.pointer a] #[]] w fun c d=>
 c=.tuple #[]∧
 Q (.pointer a) d
def Xbx:Nat→List (Nat×TypeId):=fun _=>[]
theorem QX (a:Option Addr) (w:World) (Q:VWP) (h:Xe2 a w Q):Xa Tryz.prog 175 #[.pointer a] w Q:=
 Xc Xbx Tryz.func175 h (fun _ _=>by kernel_rfl) (by kernel_rfl) (by kernel_rfl) (by kernel_rfl)
def Xby (i:Option Addr) (j:Int) (k:Int) (l:Int) (m:Int) (w:World) (Q:VWP):Prop:=
 ∃ a,i=some a∧
 ∃ b c d,Ld Tryz.prog 269 (.pointer (some (a.add 517))) w (.slice b c d)∧
 ∃ e,IxA Tryz.prog 269 (.slice b c d) (.int .i64 j) e∧
 ∃ f,IxA Tryz.prog 268 (.pointer (some e)) (.int .u8 k) f∧
 ∃ g,Ld Tryz.prog 5 (.pointer (some f)) w (.int .u8 g)∧
 Q (.tuple #[.int .u8 g,.int .i64 0]) w
def Xe3 (d:Option Addr) (e:Int) (i:Int) (w:World) (Q:VWP):Prop:=
 Xa Tryz.prog 175 #[.pointer d] w fun j a=>
 ∃ k,j=.pointer k∧
 cond (decide (e<0))
 (Q (.tuple #[.int .u8 0,.int .i64 11]) a)
 (∃ b,d=some b∧
 ∃ f c g,Ld Tryz.prog 269 (.pointer (some (b.add 517))) a (.slice f c g)∧
 cond (decide (e≥((c:Nat):Int)))
 (Q (.tuple #[.int .u8 0,.int .i64 11]) a)
 (Xby d e i 0 0 a Q))
def Xbz:Nat→List (Nat×TypeId):=fun _=>[]
theorem QY (a:Option Addr) (b:Int) (c:Int) (w:World) (Q:VWP) (h:Xe3 a b c w Q):Xa Tryz.prog 176 #[.pointer a,.int .i64 b,.int .u8 c] w Q:=
 Xc Xbz Tryz.func176 h (fun _ _=>by kernel_rfl) (by kernel_rfl) (by kernel_rfl) (by kernel_rfl)
def Xmz (n:Int) (o:Int) (w:World) (Q:VWP):Prop:=
 LoopS [.int .u8 n,.int .u8 o,.int .u8 0,.int .u8 0] w fun k l e _ c=>
 ∃ b a j f,e=[.int .u8 b,.int .u8 a,.int .u8 j,.int .u8 f]∧
 cond (a != 0)
 (cond ((Zc .u8 a 1) != 0)
 (Xa Tryz.prog 208 #[.int .u8 b] c fun m p=>
 ∃ i,m=.int .u8 i∧
 Xh [] [] k l e [.int .u8 i,.int .u8 (Int.fdiv a (2 ^ 1)),.int .u8 j,.int .u8 (YN .u8 f b)] c p)
 (Xa Tryz.prog 208 #[.int .u8 b] c fun g q=>
 ∃ d,g=.int .u8 d∧
 Xh [] [] k l e [.int .u8 d,.int .u8 (Int.fdiv a (2 ^ 1)),.int .u8 j,.int .u8 f] c q))
 (Q (.int .u8 f) c)
def XpF:Nat→List (Nat×TypeId):=fun n=>match n with | 0=>[(0,5),(1,5),(4,5),(5,5)] | _=>[]
theorem XlA (a:Int) (b:Int) (w:World) (Q:VWP) (h:Xmz a b w Q):Xa Tryz.prog 196 #[.int .u8 a,.int .u8 b] w Q:=
 Xc XpF Tryz.func196 h (fun _ _=>by kernel_rfl) (by kernel_rfl) (by kernel_rfl) (by kernel_rfl)
def WD (p:Option Addr) (w:World) (Q:VWP):Prop:=
 ∃ V,p=some V∧
 Xa Tryz.prog 41 #[.pointer (some (V.add 4)),.int .i64 1] w fun af W=>
 ∃ ag,af=.int .i64 ag∧
 ∃ r,p=some r∧
 ∃ X k Y,Ld Tryz.prog 22 (.pointer (some (r.add 0))) W (.slice X k Y)∧
 ∃ s t u Z,Ef Tryz.prog (Instr.makeSlice 269 (.int .i64 ((k:Nat):Int)) (.int .i64 ((k:Nat):Int))) W (.slice s t u) Z∧
 ∃ v,p=some v∧
 ∃ aa,Sto Tryz.prog 269 (.pointer (some (v.add 517))) (.slice s t u) Z aa∧
 LoopS [.pointer p,.int .i64 0] aa fun ah ai x _ l=>
 ∃ a b,x=[.pointer a,.int .i64 b]∧
 cond (decide (b<256))
 (Xa Tryz.prog 211 #[.int .u8 (IntKind.u8.wrap b)] l fun ab aj=>
 ∃ m,ab=.int .u8 m∧
 ∃ y,a=some y∧
 ∃ z,IxA Tryz.prog 268 (.pointer (some (y.add 5))) (.int .i64 b) z∧
 ∃ ac,Sto Tryz.prog 5 (.pointer (some z)) (.int .u8 m) aj ac∧
 ∃ A,a=some A∧
 ∃ B,IxA Tryz.prog 268 (.pointer (some (A.add 261))) (.int .u8 m) B∧
 ∃ S,Sto Tryz.prog 5 (.pointer (some B)) (.int .u8 (IntKind.u8.wrap b)) ac S∧
 ∃ C,a=some C∧
 ∃ D n E,Ld Tryz.prog 22 (.pointer (some (C.add 0))) S (.slice D n E)∧
 LoopS [.pointer a,.int .i64 b,.int .i64 b,.slice D n E,.int .i64 ((n:Nat):Int),.int .i64 0] S fun ak al F _ j=>
 ∃ c q d e f g o i,F=[.pointer c,.int .i64 q,.int .i64 d,.slice e f g,.int .i64 o,.int .i64 i]∧
 cond (decide (i<o))
 (∃ G,IxA Tryz.prog 22 (.slice e f g) (.int .i64 i) G∧
 ∃ H,Ld Tryz.prog 5 (.pointer (some G)) j (.int .u8 H)∧
 ∃ (I:World→Prop),
 Drw j fun T=>
 ∃ J,c=some J∧
 ∃ L M N,HLd Tryz.prog I 269 (.pointer (some (J.add 517))) T (.slice L M N)∧
 ∃ O,IxA Tryz.prog 269 (.slice L M N) (.int .i64 i) O∧
 Xa Tryz.prog 196 #[.int .u8 (IntKind.u8.wrap q),.int .u8 H] T fun ad U=>
 ∃ P,ad=.int .u8 P∧
 (U=T∨I U)∧
 ∃ R,IxA Tryz.prog 268 (.pointer (some O)) (.int .i64 q) R∧
 ∃ ae,Sto Tryz.prog 5 (.pointer (some R)) (.int .u8 P) U ae∧
 Xh [] [] ak al F [.pointer c,.int .i64 q,.int .i64 d,.slice e f g,.int .i64 o,.int .i64 (IntKind.i64.wrap (i+1))] j ae)
 (Xh [] [] ah ai x [.pointer c,.int .i64 (IntKind.i64.wrap (d+1))] l j))
 (Q (.tuple #[]) l)
def Xct:Nat→List (Nat×TypeId):=fun n=>match n with | 0=>[(0,220),(19,3)] | 2=>[(0,220),(2,3),(19,3),(41,22),(42,3),(43,3)] | _=>[]
theorem XaT (a:Option Addr) (w:World) (Q:VWP) (h:WD a w Q):Xa Tryz.prog 198 #[.pointer a] w Q:=
 Xc Xct Tryz.func198 h (fun _ _=>by kernel_rfl) (by kernel_rfl) (by kernel_rfl) (by kernel_rfl)
def Xe4 (a:Int) (w:World) (Q:VWP):Prop:=
 cond ((Zc .u8 a 128) != 0)
 (Q (.int .u8 (YN .u8 (IntKind.u8.wrap (a*2 ^ 1)) 27)) w)
 (Q (.int .u8 (IntKind.u8.wrap (a*2 ^ 1))) w)
def Xjr:Nat→List (Nat×TypeId):=fun _=>[]
theorem XgR (a:Int) (w:World) (Q:VWP) (h:Xe4 a w Q):Xa Tryz.prog 208 #[.int .u8 a] w Q:=
 Xc Xjr Tryz.func208 h (fun _ _=>by kernel_rfl) (by kernel_rfl) (by kernel_rfl) (by kernel_rfl)
def Xtd (p:Int) (w:World) (Q:VWP):Prop:=
 Xa Tryz.prog 220 #[.int .u8 p] w fun q r=>
 ∃ a,q=.int .u8 a∧
 Xa Tryz.prog 222 #[.int .u8 a,.int .i64 1] r fun s t=>
 ∃ j,s=.int .u8 j∧
 Xa Tryz.prog 222 #[.int .u8 a,.int .i64 2] t fun k u=>
 ∃ b,k=.int .u8 b∧
 Xa Tryz.prog 222 #[.int .u8 a,.int .i64 3] u fun l v=>
 ∃ c,l=.int .u8 c∧
 Xa Tryz.prog 222 #[.int .u8 a,.int .i64 4] v fun m x=>
 ∃ d,m=.int .u8 d∧
 ∃ e f g n,Ef Tryz.prog (Instr.buildSlice 22 6 #[(0,.int .u8 a),(1,.int .u8 j),(2,.int .u8 b),(3,.int .u8 c),(4,.int .u8 d),(5,.int .u8 99)]) x (.slice e f g) n∧
 Xa Tryz.prog 221 #[.slice e f g] n fun o y=>
 ∃ i,o=.int .u8 i∧
 Q (.int .u8 i) y
def XnI:Nat→List (Nat×TypeId):=fun _=>[]
theorem Xjs (a:Int) (w:World) (Q:VWP) (h:Xtd a w Q):Xa Tryz.prog 211 #[.int .u8 a] w Q:=
 Xc XnI Tryz.func211 h (fun _ _=>by kernel_rfl) (by kernel_rfl) (by kernel_rfl) (by kernel_rfl)
def Xum (b:Int) (w:World) (Q:VWP):Prop:=
 Xa Tryz.prog 174 #[.int .u8 b,.int .u64 254] w fun c d=>
 ∃ a,c=.int .u8 a∧
 Q (.int .u8 a) d
def XpG:Nat→List (Nat×TypeId):=fun _=>[]
theorem XlB (a:Int) (w:World) (Q:VWP) (h:Xum a w Q):Xa Tryz.prog 220 #[.int .u8 a] w Q:=
 Xc XpG Tryz.func220 h (fun _ _=>by kernel_rfl) (by kernel_rfl) (by kernel_rfl) (by kernel_rfl)
def XmA (n:Option Addr) (l:Nat) (o:Nat) (w:World) (Q:VWP):Prop:=
 LoopS [.int .u8 0,.int .u8 0,.slice n l o,.int .i64 ((l:Nat):Int),.int .i64 0] w fun p q c _ a=>
 ∃ m f g i j k b,c=[.int .u8 m,.int .u8 f,.slice g i j,.int .i64 k,.int .i64 b]∧
 cond (decide (b<k))
 (∃ d,IxA Tryz.prog 22 (.slice g i j) (.int .i64 b) d∧
 ∃ e,Ld Tryz.prog 5 (.pointer (some d)) a (.int .u8 e)∧
 Xh [] [] p q c [.int .u8 m,.int .u8 (YN .u8 f e),.slice g i j,.int .i64 k,.int .i64 (IntKind.i64.wrap (b+1))] a a)
 (Q (.int .u8 f) a)
def XpH:Nat→List (Nat×TypeId):=fun n=>match n with | 0=>[(2,5),(3,5),(6,22),(7,3),(8,3)] | _=>[]
theorem XlC (a:Option Addr) (b:Nat) (c:Nat) (w:World) (Q:VWP) (h:XmA a b c w Q):Xa Tryz.prog 221 #[.slice a b c] w Q:=
 Xc XpH Tryz.func221 h (fun _ _=>by kernel_rfl) (by kernel_rfl) (by kernel_rfl) (by kernel_rfl)
def XpI (a:Int) (b:Int) (w:World) (Q:VWP):Prop:=
 Drw w fun e=>
 ∃ d,Pu Tryz.prog (do eqGuard .shl 5 (.tmp 5) (.tmp 6) (.int .u8 a) (.int .i64 b); binOp .shl 5 (.int .u8 a) (.int .i64 b):Sem Value) (.int .u8 d)∧
 ∃ c,Pu Tryz.prog (do eqGuard .shr 5 (.tmp 8) (.tmp 10) (.int .u8 a) (.int .i64 (IntKind.i64.wrap (8 - b))); binOp .shr 5 (.int .u8 a) (.int .i64 (IntKind.i64.wrap (8 - b))):Sem Value) (.int .u8 c)∧
 Q (.int .u8 (ior .u8 d c)) e
def Xjt:Nat→List (Nat×TypeId):=fun _=>[]
theorem XgS (a:Int) (b:Int) (w:World) (Q:VWP) (h:XpI a b w Q):Xa Tryz.prog 222 #[.int .u8 a,.int .i64 b] w Q:=
 Xc Xjt Tryz.func222 h (fun _ _=>by kernel_rfl) (by kernel_rfl) (by kernel_rfl) (by kernel_rfl)
end Go.Sh
end

section
namespace Go.Sh
open Go Go.Fw Go.Proofs
set_option maxRecDepth 100000
theorem XaU {b n o:Nat} {g:Nat→Value} {x y:Int} {w:World} (hB:Blk w b n g) (ho:o<n) (hv:g o=.int .i64 x) {K:VWP} (h:∀ w',Fr [b] w w'→Blk w' b n (upd g o (.int .i64 (IntKind.i64.wrap (x+y))))→w'.heap.size=w.heap.size→K (.int .i64 (IntKind.i64.wrap (x+y))) w'):Xa Tryz.prog XaQ #[.pointer (some ⟨b,o,none⟩),.int .i64 y] w K:=Xwu Tryz.func74 (by kernel_rfl) (by kernel_rfl) (by kernel_rfl) .i64 (by kernel_rfl) hB ho hv h
theorem QZ {b n o:Nat} {g:Nat→Value} {x:Int} {w:World} (hB:Blk w b n g) (ho:o<n) (hv:g o=.int .i64 x) {K:VWP} (h:K (.int .i64 x) w):Xa Tryz.prog QS #[.pointer (some ⟨b,o,none⟩)] w K:=Xud Tryz.func98 (by kernel_rfl) (by kernel_rfl) (by kernel_rfl) .i64 (by kernel_rfl) hB ho hv h
theorem Qq {b n o:Nat} {g:Nat→Value} {x:Int} {w:World} (hB:Blk w b n g) (ho:o<n) (hv:g o=.int .u32 x) {K:VWP} (h:K (.int .u32 x) w):Xa Tryz.prog Qo #[.pointer (some ⟨b,o,none⟩)] w K:=Xud Tryz.func216 (by kernel_rfl) (by kernel_rfl) (by kernel_rfl) .u32 (by kernel_rfl) hB ho hv h
theorem W3 {b n o:Nat} {g:Nat→Value} {y:Int} {w:World} (hB:Blk w b n g) (ho:o<n) {K:VWP} (h:∀ w',Fr [b] w w'→Blk w' b n (upd g o (.int .u32 y))→w'.heap.size=w.heap.size→K (.tuple #[]) w'):Xa Tryz.prog W2 #[.pointer (some ⟨b,o,none⟩),.int .u32 y] w K:=Xvw Tryz.func226 (by kernel_rfl) (by kernel_rfl) (by kernel_rfl) (by kernel_rfl) hB ho h
theorem Um {w:World} {K:VWP} (h:K (.tuple #[]) w):Xa Tryz.prog QV #[] w K:=Xse Tryz.func229 (by kernel_rfl) (by kernel_rfl) (by kernel_rfl) .disable (by kernel_rfl) h
theorem UE {b n o:Nat} {g:Nat→Value} {x y:Int} {w:World} (hB:Blk w b n g) (ho:o<n) (hv:g o=.int .i32 x) {K:VWP} (h:∀ w',Fr [b] w w'→Blk w' b n (upd g o (.int .i32 y))→w'.heap.size=w.heap.size→K (.bool true) w'):Xa Tryz.prog UC #[.pointer (some ⟨b,o,none⟩),.int .i32 x,.int .i32 y] w K:=XyW Tryz.func230 (by kernel_rfl) (by kernel_rfl) (by kernel_rfl) .i32 (by kernel_rfl) hB ho hv h
theorem UF {w:World} {K:VWP} (h:K (.tuple #[]) w):Xa Tryz.prog XaR #[] w K:=Xse Tryz.func231 (by kernel_rfl) (by kernel_rfl) (by kernel_rfl) .enable (by kernel_rfl) h
theorem Q0 {a:Addr} {w:World} {K:VWP} (h:K (.tuple #[]) w):Xa Tryz.prog QW #[.pointer (some a)] w K:=Xo0 Tryz.func232 (by kernel_rfl) (by kernel_rfl) (by kernel_rfl) .acquire (by kernel_rfl) h
theorem VK {a:Addr} {w:World} {K:VWP} (h:K (.tuple #[]) w):Xa Tryz.prog VH #[.pointer (some a)] w K:=Xo0 Tryz.func234 (by kernel_rfl) (by kernel_rfl) (by kernel_rfl) .releaseMerge (by kernel_rfl) h
theorem XaV {b n o:Nat} {g:Nat→Value} {x y:Int} {w:World} (hB:Blk w b n g) (ho:o<n) (hv:g o=.int .i32 x) {K:VWP} (h:∀ w',Fr [b] w w'→Blk w' b n (upd g o (.int .i32 (IntKind.i32.wrap (x+y))))→w'.heap.size=w.heap.size→K (.int .i32 (IntKind.i32.wrap (x+y))) w'):Xa Tryz.prog XaS #[.pointer (some ⟨b,o,none⟩),.int .i32 y] w K:=Xwu Tryz.func235 (by kernel_rfl) (by kernel_rfl) (by kernel_rfl) .i32 (by kernel_rfl) hB ho hv h
end Go.Sh
end

section
namespace Go.Sh
open Go Go.Fw Go.Proofs
set_option maxRecDepth 100000
set_option linter.unusedVariables false
def Qr (a:Option Addr) (w:World) (Q:VWP):Prop:=
 Xa Tryz.prog 229 #[] w fun j k=>
 j=.tuple #[]∧
 ∃ b,a=some b∧
 Xa Tryz.prog 230 #[.pointer (some (b.add 0)),.int .i32 0,.int .i32 1] k fun l c=>
 ∃ d,l=.bool d∧
 cond d
 (Xa Tryz.prog 231 #[] c fun m n=>
 m=.tuple #[]∧
 ∃ e f,Ef Tryz.prog (convert 312 316 (.pointer a)) n (e) f∧
 Xa Tryz.prog 232 #[e] f fun g o=>
 g=.tuple #[]∧
 Q (.tuple #[]) o)
 (Xa Tryz.prog 233 #[.pointer a] c fun i p=>
 i=.tuple #[]∧
 Q (.tuple #[]) p)
def V4:Nat→List (Nat×TypeId):=fun _=>[]
theorem Vr (a:Option Addr) (w:World) (Q:VWP) (h:Qr a w Q):Xa Tryz.prog 224 #[.pointer a] w Q:=
 Xc V4 Tryz.func224 h (fun _ _=>by kernel_rfl) (by kernel_rfl) (by kernel_rfl) (by kernel_rfl)
def Vs (d:Option Addr) (w:World) (Q:VWP):Prop:=
 ∃ c,d=some c∧
 Xa Tryz.prog 235 #[.pointer (some (c.add 0)),.int .i32 (-1)] w fun e f=>
 ∃ a,e=.int .i32 a∧
 cond (a != 0)
 (Xa Tryz.prog 236 #[.pointer d,.int .i32 a] f fun g j=>
 g=.tuple #[]∧
 Xa Tryz.prog 231 #[] j fun i k=>
 i=.tuple #[]∧
 Q (.tuple #[]) k)
 (Xa Tryz.prog 231 #[] f fun b l=>
 b=.tuple #[]∧
 Q (.tuple #[]) l)
def Wt (a:Option Addr) (w:World) (Q:VWP):Prop:=
 ∃ b,a=some b∧
 ∃ f,Ld Tryz.prog 21 (.pointer (some (b.add 0))) w (.int .i32 f)∧
 ∃ c d,Ef Tryz.prog (convert 312 316 (.pointer a)) w (c) d∧
 Xa Tryz.prog 234 #[c] d fun g i=>
 g=.tuple #[]∧
 Xa Tryz.prog 229 #[] i fun e j=>
 e=.tuple #[]∧
 Vs a j Q
def Vt:Nat→List (Nat×TypeId):=fun _=>[]
theorem U0 (a:Option Addr) (w:World) (Q:VWP) (h:Wt a w Q):Xa Tryz.prog 225 #[.pointer a] w Q:=
 Xc Vt Tryz.func225 h (fun _ _=>by kernel_rfl) (by kernel_rfl) (by kernel_rfl) (by kernel_rfl)
end Go.Sh
end

section
namespace Go.Sh
open Go Go.Fw Go.Proofs
set_option maxRecDepth 100000
set_option linter.unusedVariables false
def XpJ (a:Option Addr) (f:Value) (w:World) (Q:VWP):Prop:=
 ∃ b,a=some b∧
 Xa Tryz.prog 209 #[.pointer (some (b.add 0))] w fun g c=>
 ∃ d,g=.bool d∧
 cond (!d)
 (Xa Tryz.prog 210 #[.pointer a,f] c fun e i=>
 e=.tuple #[]∧
 Q (.tuple #[]) i)
 (Q (.tuple #[]) c)
def Xju:Nat→List (Nat×TypeId):=fun _=>[]
theorem WE (a:Option Addr) (b:Value) (w:World) (Q:VWP) (h:XpJ a b w Q):Xa Tryz.prog 197 #[.pointer a,b] w Q:=
 Xc Xju Tryz.func197 h (fun _ _=>by kernel_rfl) (by kernel_rfl) (by kernel_rfl) (by kernel_rfl)
def Xik (a:Option Addr) (k:Value) (w:World) (Q:VWP):Prop:=
 ∃ f,a=some f∧
 Xa Tryz.prog 217 #[.pointer (some (f.add 1))] w fun l m=>
 l=.tuple #[]∧
 ∃ e,a=some e∧
 ∃ b,a=some b∧
 Xa Tryz.prog 209 #[.pointer (some (b.add 0))] m fun g i=>
 ∃ c,g=.bool c∧
 cond (!c)
 (∃ d,a=some d∧
 YH Tryz.prog (k) [] i fun j n=>
 j=.tuple #[]∧
 Xbr Tryz.prog 219 #[.pointer (some (d.add 0)),.bool true] n fun o=>
 Xbr Tryz.prog 218 #[.pointer (some (e.add 1))] o fun p=>
 Q (.tuple #[]) p)
 (Xbr Tryz.prog 218 #[.pointer (some (e.add 1))] i fun q=>
 Q (.tuple #[]) q)
def Xed:Nat→List (Nat×TypeId):=fun _=>[]
theorem XbA (a:Option Addr) (b:Value) (w:World) (Q:VWP) (h:Xik a b w Q):Xa Tryz.prog 210 #[.pointer a,b] w Q:=
 Xc Xed Tryz.func210 h (fun _ _=>by kernel_rfl) (by kernel_rfl) (by kernel_rfl) (by kernel_rfl)
def Xjv (b:Option Addr) (w:World) (Q:VWP):Prop:=
 ∃ a,b=some a∧
 Xa Tryz.prog 224 #[.pointer (some (a.add 0))] w fun c d=>
 c=.tuple #[]∧
 Q (.tuple #[]) d
def Xe5:Nat→List (Nat×TypeId):=fun _=>[]
theorem Xcu (a:Option Addr) (w:World) (Q:VWP) (h:Xjv a w Q):Xa Tryz.prog 217 #[.pointer a] w Q:=
 Xc Xe5 Tryz.func217 h (fun _ _=>by kernel_rfl) (by kernel_rfl) (by kernel_rfl) (by kernel_rfl)
def Us (b:Option Addr) (w:World) (Q:VWP):Prop:=
 ∃ a,b=some a∧
 Xa Tryz.prog 225 #[.pointer (some (a.add 0))] w fun c d=>
 c=.tuple #[]∧
 Q (.tuple #[]) d
def Jv:Nat→List (Nat×TypeId):=fun _=>[]
theorem Q1 (a:Option Addr) (w:World) (K:World→Prop) (h:Us a w (fun _ w=>K w)):Xbr Tryz.prog 218 #[.pointer a] w K:=
 ⟨fun _ _=>by kernel_rfl,Xhl Jv Tryz.func218 rfl (by kernel_rfl) (show sw Tryz.prog none 6 Jv _ 0 (XoY Tryz.prog [] K) ⟨Vz [.pointer a],[]⟩ w from
 Eq.mp (by kernel_rfl:Us a w (fun _ w=>K w)=sw Tryz.prog none 6 Jv (Tryz.f218.body.getD .skip) 0 (XoY Tryz.prog [] K) ⟨Vz [.pointer a],[]⟩ w) h)⟩
end Go.Sh
end

section
namespace Go.Sh
open Go Go.Fw Go.Proofs
set_option maxRecDepth 100000
set_option linter.unusedVariables false
def XbB (c:Option Addr) (d:Int) (w:World) (Q:VWP):Prop:=
 ∃ a,c=some a∧
 Xa Tryz.prog 74 #[.pointer (some (a.add 0)),.int .i64 d] w fun e f=>
 ∃ b,e=.int .i64 b∧
 Q (.int .i64 b) f
def Qs:Nat→List (Nat×TypeId):=fun _=>[]
theorem Wu (a:Option Addr) (b:Int) (w:World) (Q:VWP) (h:XbB a b w Q):Xa Tryz.prog 41 #[.pointer a,.int .i64 b] w Q:=
 Xc Qs Tryz.func41 h (fun _ _=>by kernel_rfl) (by kernel_rfl) (by kernel_rfl) (by kernel_rfl)
def XaW (c:Option Addr) (w:World) (Q:VWP):Prop:=
 ∃ a,c=some a∧
 Xa Tryz.prog 98 #[.pointer (some (a.add 0))] w fun d e=>
 ∃ b,d=.int .i64 b∧
 Q (.int .i64 b) e
def W4:Nat→List (Nat×TypeId):=fun _=>[]
theorem V5 (a:Option Addr) (w:World) (Q:VWP) (h:XaW a w Q):Xa Tryz.prog 58 #[.pointer a] w Q:=
 Xc W4 Tryz.func58 h (fun _ _=>by kernel_rfl) (by kernel_rfl) (by kernel_rfl) (by kernel_rfl)
def XbC (c:Option Addr) (w:World) (Q:VWP):Prop:=
 ∃ a,c=some a∧
 Xa Tryz.prog 216 #[.pointer (some (a.add 0))] w fun d e=>
 ∃ b,d=.int .u32 b∧
 Q (.bool (b != 0)) e
def Qt:Nat→List (Nat×TypeId):=fun _=>[]
theorem Wv (a:Option Addr) (w:World) (Q:VWP) (h:XbC a w Q):Xa Tryz.prog 209 #[.pointer a] w Q:=
 Xc Qt Tryz.func209 h (fun _ _=>by kernel_rfl) (by kernel_rfl) (by kernel_rfl) (by kernel_rfl)
def Z7 (c:Option Addr) (d:Bool) (w:World) (Q:VWP):Prop:=
 Drw w fun e=>
 ∃ a,c=some a∧
 Xa Tryz.prog 227 #[.bool d] e fun f g=>
 ∃ b,f=.int .u32 b∧
 Xa Tryz.prog 226 #[.pointer (some (a.add 0)),.int .u32 b] g fun i j=>
 i=.tuple #[]∧
 Q (.tuple #[]) j
def Zg:Nat→List (Nat×TypeId):=fun _=>[]
theorem VL (a:Option Addr) (b:Bool) (w:World) (K:World→Prop) (h:Z7 a b w (fun _ w=>K w)):Xbr Tryz.prog 219 #[.pointer a,.bool b] w K:=
 ⟨fun _ _=>by kernel_rfl,Xhl Zg Tryz.func219 rfl (by kernel_rfl) (show sw Tryz.prog none 10 Zg _ 0 (XoY Tryz.prog [] K) ⟨Vz [.pointer a,.bool b],[]⟩ w from
 Eq.mp (by kernel_rfl:Z7 a b w (fun _ w=>K w)=sw Tryz.prog none 10 Zg (Tryz.f219.body.getD .skip) 0 (XoY Tryz.prog [] K) ⟨Vz [.pointer a,.bool b],[]⟩ w) h)⟩
def Xjw (a:Bool) (w:World) (Q:VWP):Prop:=
 cond a
 (Q (.int .u32 1) w)
 (Q (.int .u32 0) w)
def Xe6:Nat→List (Nat×TypeId):=fun _=>[]
theorem Xcv (a:Bool) (w:World) (Q:VWP) (h:Xjw a w Q):Xa Tryz.prog 227 #[.bool a] w Q:=
 Xc Xe6 Tryz.func227 h (fun _ _=>by kernel_rfl) (by kernel_rfl) (by kernel_rfl) (by kernel_rfl)
end Go.Sh
end

section
namespace Go.Sh
open Go Go.Fw Go.Proofs
set_option maxRecDepth 100000
set_option linter.unusedVariables false
def XaX (a:Option Addr) (b:Nat) (c:Nat) (w:World) (Q:VWP):Prop:=
 ∃ e d,Ef Tryz.prog (do eqGuard .eql 22 (.tmp 3) (.const (.slice none 0 0)) (.slice a b c) (.slice none 0 0); binOp .eql 22 (.slice a b c) (.slice none 0 0):Sem Value) w (.bool e) d∧
 cond e
 (Q (.slice none 0 0) d)
 (∃ f g i j,Ef Tryz.prog (Instr.buildSlice 22 0 #[]) d (.slice f g i) j∧
 ∃ k l m n,Ef Tryz.prog (Builtin.append_ #[22,22] 22 #[.slice f g i,.slice a b c]) j (.slice k l m) n∧
 Q (.slice k l m) n)
def W5:Nat→List (Nat×TypeId):=fun _=>[]
theorem V6 (a:Option Addr) (b:Nat) (c:Nat) (w:World) (Q:VWP) (h:XaX a b c w Q):Xa Tryz.prog 60 #[.slice a b c] w Q:=
 Xc W5 Tryz.func60 h (fun _ _=>by kernel_rfl) (by kernel_rfl) (by kernel_rfl) (by kernel_rfl)
def Ze (a:Option Addr) (b:Nat) (c:Nat) (w:World) (Q:VWP):Prop:=
 ∃ e d,Ef Tryz.prog (do eqGuard .eql 138 (.tmp 3) (.const (.slice none 0 0)) (.slice a b c) (.slice none 0 0); binOp .eql 138 (.slice a b c) (.slice none 0 0):Sem Value) w (.bool e) d∧
 cond e
 (Q (.slice none 0 0) d)
 (∃ f g i j,Ef Tryz.prog (Instr.buildSlice 138 0 #[]) d (.slice f g i) j∧
 ∃ k l m n,Ef Tryz.prog (Builtin.append_ #[138,138] 138 #[.slice f g i,.slice a b c]) j (.slice k l m) n∧
 Q (.slice k l m) n)
def JW:Nat→List (Nat×TypeId):=fun _=>[]
theorem JC (a:Option Addr) (b:Nat) (c:Nat) (w:World) (Q:VWP) (h:Ze a b c w Q):Xa Tryz.prog 105 #[.slice a b c] w Q:=
 Xc JW Tryz.func105 h (fun _ _=>by kernel_rfl) (by kernel_rfl) (by kernel_rfl) (by kernel_rfl)
def YK (u:Option Addr) (q:Nat) (v:Nat) (x:Value) (w:World) (Q:VWP):Prop:=
 LoopS [.slice u q v,x,.int .i64 0,.int .i64 ((q:Nat):Int),.int .i64 0] w fun y z i _ e=>
 ∃ a b c d r p g,i=[.slice a b c,d,.int .i64 r,.int .i64 p,.int .i64 g]∧
 cond (decide (g<p))
 (∃ j,IxA Tryz.prog 138 (.slice a b c) (.int .i64 g) j∧
 ∃ k l f m n,Ld Tryz.prog 133 (.pointer (some j)) e (.agg #[.pointer k,.int .i64 l,.slice f m n])∧
 YH Tryz.prog (d) [.agg #[.pointer k,.int .i64 l,.slice f m n]] e fun s t=>
 ∃ o,s=.bool o∧
 cond o
 (Q (.int .i64 g) t)
 (Xh [] [] y z i [.slice a b c,d,.int .i64 r,.int .i64 p,.int .i64 (IntKind.i64.wrap (g+1))] e t))
 (Q (.int .i64 (-1)) e)
def Jq:Nat→List (Nat×TypeId):=fun n=>match n with | 0=>[(0,138),(1,193),(4,3),(7,3),(8,3)] | _=>[]
theorem Je (a:Option Addr) (b:Nat) (c:Nat) (d:Value) (w:World) (Q:VWP) (h:YK a b c d w Q):Xa Tryz.prog 109 #[.slice a b c,d] w Q:=
 Xc Jq Tryz.func109 h (fun _ _=>by kernel_rfl) (by kernel_rfl) (by kernel_rfl) (by kernel_rfl)
def Y6 (e:Option Addr) (b:Nat) (f:Nat) (q:Int) (r:Int) (w:World) (Q:VWP):Prop:=
 ∃ s t u,Pu Tryz.prog (Instr.sliceAt 138 (.slice e b f) (some (.int .i64 q)) (some (.int .i64 r)) (some (.int .i64 ((b:Nat):Int)))) (.slice s t u)∧
 cond (q == r)
 (Q (.slice e b f) w)
 (Drw w fun y=>
 ∃ g i j,Pu Tryz.prog (Instr.sliceAt 138 (.slice e b f) none (some (.int .i64 q)) none) (.slice g i j)∧
 ∃ k l m,Pu Tryz.prog (Instr.sliceAt 138 (.slice e b f) (some (.int .i64 r)) none none) (.slice k l m)∧
 ∃ c a d v,Ef Tryz.prog (Builtin.append_ #[138,138] 138 #[.slice g i j,.slice k l m]) y (.slice c a d) v∧
 ∃ n o p,Pu Tryz.prog (Instr.sliceAt 138 (.slice c a d) (some (.int .i64 ((a:Nat):Int))) (some (.int .i64 ((b:Nat):Int))) none) (.slice n o p)∧
 ∃ x,Ef Tryz.prog (Builtin.clear_ #[138] 0 #[.slice n o p]) v (.tuple #[]) x∧
 Q (.slice c a d) x)
def JJ:Nat→List (Nat×TypeId):=fun _=>[]
theorem Jw (a:Option Addr) (b:Nat) (c:Nat) (d:Int) (e:Int) (w:World) (Q:VWP) (h:Y6 a b c d e w Q):Xa Tryz.prog 129 #[.slice a b c,.int .i64 d,.int .i64 e] w Q:=
 Xc JJ Tryz.func129 h (fun _ _=>by kernel_rfl) (by kernel_rfl) (by kernel_rfl) (by kernel_rfl)
def Jd (b:Option Addr) (c:Nat) (d:Nat) (e:Value) (w:World) (Q:VWP):Prop:=
 Xa Tryz.prog 177 #[.slice b c d,e] w fun f g=>
 ∃ a,f=.int .i64 a∧
 Q (.bool (decide (a≥0))) g
def UP:Nat→List (Nat×TypeId):=fun _=>[]
theorem Ut (a:Option Addr) (b:Nat) (c:Nat) (d:Value) (w:World) (Q:VWP) (h:Jd a b c d w Q):Xa Tryz.prog 151 #[.slice a b c,d] w Q:=
 Xc UP Tryz.func151 h (fun _ _=>by kernel_rfl) (by kernel_rfl) (by kernel_rfl) (by kernel_rfl)
def JD (C:Option Addr) (z:Nat) (D:Nat) (E:Option Addr) (F:Nat) (G:Nat) (H:Int) (w:World) (Q:VWP):Prop:=
 Xa Tryz.prog 185 #[.slice none 0 0,.int .i64 H] w fun A I=>
 ∃ k l m,A=.slice k l m∧
 LoopS [.slice E F G,.slice k l m,.slice C z D,.int .i64 ((z:Nat):Int),.int .i64 0] I fun J L n _ a=>
 ∃ c d e v x y f g i j b,n=[.slice c d e,.slice v x y,.slice f g i,.int .i64 j,.int .i64 b]∧
 cond (decide (b<j))
 (∃ o,IxA Tryz.prog 161 (.slice f g i) (.int .i64 b) o∧
 ∃ p q r,Ld Tryz.prog 22 (.pointer (some o)) a (.slice p q r)∧
 ∃ s t u B,Ef Tryz.prog (Builtin.append_ #[22,22] 22 #[.slice v x y,.slice p q r]) a (.slice s t u) B∧
 Xh [] [] J L n [.slice c d e,.slice s t u,.slice f g i,.int .i64 j,.int .i64 (IntKind.i64.wrap (b+1))] a B)
 (Q (.slice v x y) a)
def Un (s:Option Addr) (l:Nat) (t:Nat) (w:World) (Q:VWP):Prop:=
 LoopS [.slice s l t,.slice none 0 0,.int .i64 0,.slice s l t,.int .i64 ((l:Nat):Int),.int .i64 0] w fun y z j _ a=>
 ∃ b c d m n o i p q r f e,j=[.slice b c d,.slice m n o,.int .i64 i,.slice p q r,.int .i64 f,.int .i64 e]∧
 cond (decide (e<f))
 (∃ k,IxA Tryz.prog 161 (.slice p q r) (.int .i64 e) k∧
 ∃ u g v,Ld Tryz.prog 22 (.pointer (some k)) a (.slice u g v)∧
 cond (decide ((IntKind.i64.wrap (i+((g:Nat):Int)))<0))
 (∃ x A,Ef Tryz.prog (Instr.makeInterface 9 (.string (⟨#[108,101,110,32,111,117,116,32,111,102,32,114,97,110,103,101]⟩:ByteArray))) a (x) A∧
 False)
 (Xh [] [] y z j [.slice b c d,.slice m n o,.int .i64 (IntKind.i64.wrap (i+((g:Nat):Int))),.slice p q r,.int .i64 f,.int .i64 (IntKind.i64.wrap (e+1))] a a))
 (JD b c d m n o i a Q)
def Ww:Nat→List (Nat×TypeId):=fun n=>match n with | 0=>[(0,161),(2,22),(3,3),(9,161),(10,3),(11,3)] | 2=>[(2,22),(6,22),(25,161),(26,3),(27,3)] | _=>[]
theorem VM (a:Option Addr) (b:Nat) (c:Nat) (w:World) (Q:VWP) (h:Un a b c w Q):Xa Tryz.prog 157 #[.slice a b c] w Q:=
 Xc Ww Tryz.func157 h (fun _ _=>by kernel_rfl) (by kernel_rfl) (by kernel_rfl) (by kernel_rfl)
def JE (s:Option Addr) (o:Nat) (t:Nat) (u:Value) (w:World) (Q:VWP):Prop:=
 LoopS [.slice s o t,u,.int .i64 0,.int .i64 ((o:Nat):Int),.int .i64 0] w fun v x g _ e=>
 ∃ a b c d p n f,g=[.slice a b c,d,.int .i64 p,.int .i64 n,.int .i64 f]∧
 cond (decide (f<n))
 (∃ i,IxA Tryz.prog 161 (.slice a b c) (.int .i64 f) i∧
 ∃ j k l,Ld Tryz.prog 22 (.pointer (some i)) e (.slice j k l)∧
 YH Tryz.prog (d) [.slice j k l] e fun q r=>
 ∃ m,q=.bool m∧
 cond m
 (Q (.int .i64 f) r)
 (Xh [] [] v x g [.slice a b c,d,.int .i64 p,.int .i64 n,.int .i64 (IntKind.i64.wrap (f+1))] e r))
 (Q (.int .i64 (-1)) e)
def Vu:Nat→List (Nat×TypeId):=fun n=>match n with | 0=>[(0,161),(1,155),(4,3),(7,3),(8,3)] | _=>[]
theorem U1 (a:Option Addr) (b:Nat) (c:Nat) (d:Value) (w:World) (Q:VWP) (h:JE a b c d w Q):Xa Tryz.prog 177 #[.slice a b c,d] w Q:=
 Xc Vu Tryz.func177 h (fun _ _=>by kernel_rfl) (by kernel_rfl) (by kernel_rfl) (by kernel_rfl)
def YX (C:Option Addr) (z:Nat) (D:Nat) (E:Option Addr) (F:Nat) (G:Nat) (H:Int) (w:World) (Q:VWP):Prop:=
 Xa Tryz.prog 199 #[.slice none 0 0,.int .i64 H] w fun A I=>
 ∃ k l m,A=.slice k l m∧
 LoopS [.slice E F G,.slice k l m,.slice C z D,.int .i64 ((z:Nat):Int),.int .i64 0] I fun J L n _ a=>
 ∃ c d e v x y f g i j b,n=[.slice c d e,.slice v x y,.slice f g i,.int .i64 j,.int .i64 b]∧
 cond (decide (b<j))
 (∃ o,IxA Tryz.prog 293 (.slice f g i) (.int .i64 b) o∧
 ∃ p q r,Ld Tryz.prog 278 (.pointer (some o)) a (.slice p q r)∧
 ∃ s t u B,Ef Tryz.prog (Builtin.append_ #[278,278] 278 #[.slice v x y,.slice p q r]) a (.slice s t u) B∧
 Xh [] [] J L n [.slice c d e,.slice s t u,.slice f g i,.int .i64 j,.int .i64 (IntKind.i64.wrap (b+1))] a B)
 (Q (.slice v x y) a)
def Zo (s:Option Addr) (l:Nat) (t:Nat) (w:World) (Q:VWP):Prop:=
 LoopS [.slice s l t,.slice none 0 0,.int .i64 0,.slice s l t,.int .i64 ((l:Nat):Int),.int .i64 0] w fun y z j _ a=>
 ∃ b c d m n o i p q r f e,j=[.slice b c d,.slice m n o,.int .i64 i,.slice p q r,.int .i64 f,.int .i64 e]∧
 cond (decide (e<f))
 (∃ k,IxA Tryz.prog 293 (.slice p q r) (.int .i64 e) k∧
 ∃ u g v,Ld Tryz.prog 278 (.pointer (some k)) a (.slice u g v)∧
 cond (decide ((IntKind.i64.wrap (i+((g:Nat):Int)))<0))
 (∃ x A,Ef Tryz.prog (Instr.makeInterface 9 (.string (⟨#[108,101,110,32,111,117,116,32,111,102,32,114,97,110,103,101]⟩:ByteArray))) a (x) A∧
 False)
 (Xh [] [] y z j [.slice b c d,.slice m n o,.int .i64 (IntKind.i64.wrap (i+((g:Nat):Int))),.slice p q r,.int .i64 f,.int .i64 (IntKind.i64.wrap (e+1))] a a))
 (YX b c d m n o i a Q)
def J3:Nat→List (Nat×TypeId):=fun n=>match n with | 0=>[(0,293),(2,278),(3,3),(9,293),(10,3),(11,3)] | 2=>[(2,278),(6,278),(25,293),(26,3),(27,3)] | _=>[]
theorem JK (a:Option Addr) (b:Nat) (c:Nat) (w:World) (Q:VWP) (h:Zo a b c w Q):Xa Tryz.prog 178 #[.slice a b c] w Q:=
 Xc J3 Tryz.func178 h (fun _ _=>by kernel_rfl) (by kernel_rfl) (by kernel_rfl) (by kernel_rfl)
def J4 (c:Option Addr) (a:Nat) (d:Nat) (p:Int) (r:Option Addr) (s:Nat) (t:Nat) (w:World) (Q:VWP):Prop:=
 ∃ b,Pu Tryz.prog (Builtin.cap_ #[22] 3 #[.slice c a d]) (.int .i64 b)∧
 cond (decide ((IntKind.i64.wrap (p - (IntKind.i64.wrap (b - ((a:Nat):Int))))) > 0))
 (∃ e,Pu Tryz.prog (Builtin.cap_ #[22] 3 #[.slice c a d]) (.int .i64 e)∧
 ∃ f g i,Pu Tryz.prog (Instr.sliceAt 22 (.slice c a d) none (some (.int .i64 e)) none) (.slice f g i)∧
 ∃ j k l q,Ef Tryz.prog (Builtin.append_ #[22,3] 22 #[.slice f g i,.int .i64 (IntKind.i64.wrap (p - (IntKind.i64.wrap (b - ((a:Nat):Int)))))]) w (.slice j k l) q∧
 ∃ m n o,Pu Tryz.prog (Instr.sliceAt 22 (.slice j k l) none (some (.int .i64 ((a:Nat):Int))) none) (.slice m n o)∧
 Q (.slice m n o) q)
 (Q (.slice c a d) w)
def UX (b:Option Addr) (c:Nat) (d:Nat) (a:Int) (w:World) (Q:VWP):Prop:=
 cond (decide (a<0))
 (∃ e f,Ef Tryz.prog (Instr.makeInterface 9 (.string (⟨#[99,97,110,110,111,116,32,98,101,32,110,101,103,97,116,105,118,101]⟩:ByteArray))) w (e) f∧
 False)
 (J4 b c d a none 0 0 w Q)
def Qu:Nat→List (Nat×TypeId):=fun _=>[]
theorem Wx (a:Option Addr) (b:Nat) (c:Nat) (d:Int) (w:World) (Q:VWP) (h:UX a b c d w Q):Xa Tryz.prog 185 #[.slice a b c,.int .i64 d] w Q:=
 Xc Qu Tryz.func185 h (fun _ _=>by kernel_rfl) (by kernel_rfl) (by kernel_rfl) (by kernel_rfl)
def Zf (c:Option Addr) (a:Nat) (d:Nat) (p:Int) (r:Option Addr) (s:Nat) (t:Nat) (w:World) (Q:VWP):Prop:=
 ∃ b,Pu Tryz.prog (Builtin.cap_ #[278] 3 #[.slice c a d]) (.int .i64 b)∧
 cond (decide ((IntKind.i64.wrap (p - (IntKind.i64.wrap (b - ((a:Nat):Int))))) > 0))
 (∃ e,Pu Tryz.prog (Builtin.cap_ #[278] 3 #[.slice c a d]) (.int .i64 e)∧
 ∃ f g i,Pu Tryz.prog (Instr.sliceAt 278 (.slice c a d) none (some (.int .i64 e)) none) (.slice f g i)∧
 ∃ j k l q,Ef Tryz.prog (Builtin.append_ #[278,3] 278 #[.slice f g i,.int .i64 (IntKind.i64.wrap (p - (IntKind.i64.wrap (b - ((a:Nat):Int)))))]) w (.slice j k l) q∧
 ∃ m n o,Pu Tryz.prog (Instr.sliceAt 278 (.slice j k l) none (some (.int .i64 ((a:Nat):Int))) none) (.slice m n o)∧
 Q (.slice m n o) q)
 (Q (.slice c a d) w)
def ZJ (b:Option Addr) (c:Nat) (d:Nat) (a:Int) (w:World) (Q:VWP):Prop:=
 cond (decide (a<0))
 (∃ e f,Ef Tryz.prog (Instr.makeInterface 9 (.string (⟨#[99,97,110,110,111,116,32,98,101,32,110,101,103,97,116,105,118,101]⟩:ByteArray))) w (e) f∧
 False)
 (Zf b c d a none 0 0 w Q)
def Uu:Nat→List (Nat×TypeId):=fun _=>[]
theorem J5 (a:Option Addr) (b:Nat) (c:Nat) (d:Int) (w:World) (Q:VWP) (h:ZJ a b c d w Q):Xa Tryz.prog 199 #[.slice a b c,.int .i64 d] w Q:=
 Xc Uu Tryz.func199 h (fun _ _=>by kernel_rfl) (by kernel_rfl) (by kernel_rfl) (by kernel_rfl)
def UG (d:Option Addr) (e:Nat) (f:Nat) (g:Int) (w:World) (Q:VWP):Prop:=
 New #[.slice d e f] 22 w fun i j=>
 New #[.int .i64 g] 3 j fun b a=>
 ∃ c,Ld Tryz.prog 3 (.pointer (some ⟨b,0,none⟩)) a (.int .i64 c)∧
 cond (decide (c<1))
 (∃ k l,Ef Tryz.prog (Instr.makeInterface 9 (.string (⟨#[99,97,110,110,111,116,32,98,101,32,108,101,115,115,32,116,104,97,110,32,49]⟩:ByteArray))) a (k) l∧
 False)
 (Q (.func (.func 212) #[] #[.pointer (some ⟨i,0,none⟩),.pointer (some ⟨b,0,none⟩)]) a)
def W6:Nat→List (Nat×TypeId):=fun _=>[]
theorem V7 (a:Option Addr) (b:Nat) (c:Nat) (d:Int) (w:World) (Q:VWP) (h:UG a b c d w Q):Xa Tryz.prog 200 #[.slice a b c,.int .i64 d] w Q:=
 Xc W6 Tryz.func200 h (fun _ _=>by kernel_rfl) (by kernel_rfl) (by kernel_rfl) (by kernel_rfl)
def JR (D:Value) (E:Option Addr) (F:Option Addr) (w:World) (Q:VWP):Prop:=
 LoopS [D,.pointer E,.pointer F,.int .i64 0] w fun G H i _ f=>
 ∃ c a b d,i=[c,.pointer a,.pointer b,.int .i64 d]∧
 ∃ I y J,Ld Tryz.prog 22 (.pointer a) f (.slice I y J)∧
 cond (decide (d<((y:Nat):Int)))
 (∃ (z:World→Prop),
 Drw f fun e=>
 ∃ j,HLd Tryz.prog z 3 (.pointer b) e (.int .i64 j)∧
 ∃ k l m,Ld Tryz.prog 22 (.pointer a) e (.slice k l m)∧
 (e=e∨z e)∧
 ∃ A n B,Pu Tryz.prog (Instr.sliceAt 22 (.slice k l m) (some (.int .i64 d)) none none) (.slice A n B)∧
 ∃ g,Pu Tryz.prog (Builtin.min_ #[3,3] 3 #[.int .i64 j,.int .i64 ((n:Nat):Int)]) (.int .i64 g)∧
 ∃ o p q,Ld Tryz.prog 22 (.pointer a) e (.slice o p q)∧
 ∃ r s t,Pu Tryz.prog (Instr.sliceAt 22 (.slice o p q) (some (.int .i64 d)) (some (.int .i64 (IntKind.i64.wrap (d+g)))) (some (.int .i64 (IntKind.i64.wrap (d+g))))) (.slice r s t)∧
 YH Tryz.prog (c) [.slice r s t] e fun C x=>
 ∃ u,C=.bool u∧
 cond (!u)
 (Q (.tuple #[]) x)
 (∃ v,Ld Tryz.prog 3 (.pointer b) x (.int .i64 v)∧
 Xh [] [] G H i [c,.pointer a,.pointer b,.int .i64 (IntKind.i64.wrap (d+v))] f x))
 (Q (.tuple #[]) f)
def VN:Nat→List (Nat×TypeId):=fun n=>match n with | 0=>[(0,155),(1,15),(2,15),(4,3)] | _=>[]
theorem U8 (a:Value) (b:Option Addr) (c:Option Addr) (w:World) (Q:VWP) (h:JR a b c w Q):Xa Tryz.prog 212 #[a,.pointer b,.pointer c] w Q:=
 Xc VN Tryz.func212 h (fun _ _=>by kernel_rfl) (by kernel_rfl) (by kernel_rfl) (by kernel_rfl)
end Go.Sh
end

section
namespace Go.Sh
open Go Go.Fw Go.Proofs
set_option maxRecDepth 100000
set_option linter.unusedVariables false
def Xe7 (l:Int) (m:Int) (w:World) (Q:VWP):Prop:=
 LoopS [.int .u8 l,.int .i64 m,.int .i64 14] w fun j k e _ b=>
 ∃ d a c,e=[.int .u8 d,.int .i64 a,.int .i64 c]∧
 cond (decide (c≥8))
 (∃ f,Pu Tryz.prog (do eqGuard .shl 3 (.const (.int .i64 1)) (.tmp 34) (.int .i64 1) (.int .u64 (IntKind.u64.wrap c)); binOp .shl 3 (.int .i64 1) (.int .u64 (IntKind.u64.wrap c)):Sem Value) (.int .i64 f)∧
 ∃ g,Pu Tryz.prog (do eqGuard .quo 3 (.tmp 32) (.tmp 35) (.int .i64 a) (.int .i64 f); binOp .quo 3 (.int .i64 a) (.int .i64 f):Sem Value) (.int .i64 g)∧
 cond ((Int.tmod g 2) == 1)
 (∃ i,Pu Tryz.prog (do eqGuard .shl 3 (.const (.int .i64 1)) (.tmp 42) (.int .i64 1) (.int .u64 (IntKind.u64.wrap (IntKind.i64.wrap (c - 8)))); binOp .shl 3 (.int .i64 1) (.int .u64 (IntKind.u64.wrap (IntKind.i64.wrap (c - 8)))):Sem Value) (.int .i64 i)∧
 Xh [] [] j k e [.int .u8 d,.int .i64 (YN .i64 a (IntKind.i64.wrap (283*i))),.int .i64 (IntKind.i64.wrap (c - 1))] b b)
 (Xh [] [] j k e [.int .u8 d,.int .i64 a,.int .i64 (IntKind.i64.wrap (c - 1))] b b))
 (Q (.int .u8 (IntKind.u8.wrap a)) b)
def XmB (n:Int) (o:Int) (w:World) (Q:VWP):Prop:=
 LoopS [.int .u8 n,.int .u8 o,.int .u8 0,.int .i64 0,.int .i64 0] w fun l m e _ c=>
 ∃ b a g i d,e=[.int .u8 b,.int .u8 a,.int .u8 g,.int .i64 i,.int .i64 d]∧
 cond (decide (d<8))
 (∃ f,Pu Tryz.prog (do eqGuard .shl 3 (.const (.int .i64 1)) (.tmp 15) (.int .i64 1) (.int .u64 (IntKind.u64.wrap d)); binOp .shl 3 (.int .i64 1) (.int .u64 (IntKind.u64.wrap d)):Sem Value) (.int .i64 f)∧
 ∃ j,Pu Tryz.prog (do eqGuard .quo 3 (.tmp 13) (.tmp 16) (.int .i64 (IntKind.i64.wrap a)) (.int .i64 f); binOp .quo 3 (.int .i64 (IntKind.i64.wrap a)) (.int .i64 f):Sem Value) (.int .i64 j)∧
 cond ((Int.tmod j 2) == 1)
 (∃ k,Pu Tryz.prog (do eqGuard .shl 3 (.const (.int .i64 1)) (.tmp 24) (.int .i64 1) (.int .u64 (IntKind.u64.wrap d)); binOp .shl 3 (.int .i64 1) (.int .u64 (IntKind.u64.wrap d)):Sem Value) (.int .i64 k)∧
 Xh [] [] l m e [.int .u8 b,.int .u8 a,.int .u8 g,.int .i64 (YN .i64 i (IntKind.i64.wrap ((IntKind.i64.wrap b)*k))),.int .i64 (IntKind.i64.wrap (d+1))] c c)
 (Xh [] [] l m e [.int .u8 b,.int .u8 a,.int .u8 g,.int .i64 i,.int .i64 (IntKind.i64.wrap (d+1))] c c))
 (Xe7 g i c Q)
def XpK:Nat→List (Nat×TypeId):=fun n=>match n with | 0=>[(0,5),(1,5),(4,5),(5,3),(6,3)] | 2=>[(4,5),(5,3),(7,3)] | _=>[]
theorem XlD (a:Int) (b:Int) (w:World) (Q:VWP) (h:XmB a b w Q):Xa Tryz.prog 170 #[.int .u8 a,.int .u8 b] w Q:=
 Xc XpK Tryz.func170 h (fun _ _=>by kernel_rfl) (by kernel_rfl) (by kernel_rfl) (by kernel_rfl)
def XdA (e:Inv) (f:JZ) (c:List Value) (d:World) (g:Int) (i:Int) (j:Int) (b:Int) (k:Int) (w:World) (Q:VWP):Prop:=
 ∃ a,Pu Tryz.prog (do eqGuard .shl 3 (.const (.int .i64 1)) (.tmp 46) (.int .i64 1) (.int .u64 (IntKind.u64.wrap b)); binOp .shl 3 (.int .i64 1) (.int .u64 (IntKind.u64.wrap b)):Sem Value) (.int .i64 a)∧
 Xh [] [] e f c [.int .u8 g,.int .i64 i,.int .i64 (IntKind.i64.wrap (j+(IntKind.i64.wrap ((Int.tmod k 2)*a)))),.int .i64 (IntKind.i64.wrap (b+1))] d w
def Xjx (v:Int) (w:World) (Q:VWP):Prop:=
 LoopS [.int .u8 0,.int .i64 (IntKind.i64.wrap v),.int .i64 0,.int .i64 0] w fun x y n _ f=>
 ∃ u m s c,n=[.int .u8 u,.int .i64 m,.int .i64 s,.int .i64 c]∧
 cond (decide (c<8))
 (∃ g,Pu Tryz.prog (do eqGuard .shl 3 (.const (.int .i64 1)) (.tmp 15) (.int .i64 1) (.int .u64 (IntKind.u64.wrap c)); binOp .shl 3 (.int .i64 1) (.int .u64 (IntKind.u64.wrap c)):Sem Value) (.int .i64 g)∧
 ∃ o,Pu Tryz.prog (do eqGuard .quo 3 (.const (.int .i64 99)) (.tmp 16) (.int .i64 99) (.int .i64 g); binOp .quo 3 (.int .i64 99) (.int .i64 g):Sem Value) (.int .i64 o)∧
 ∃ i,Pu Tryz.prog (do eqGuard .shl 3 (.const (.int .i64 1)) (.tmp 22) (.int .i64 1) (.int .u64 (IntKind.u64.wrap c)); binOp .shl 3 (.int .i64 1) (.int .u64 (IntKind.u64.wrap c)):Sem Value) (.int .i64 i)∧
 ∃ p,Pu Tryz.prog (do eqGuard .quo 3 (.tmp 20) (.tmp 23) (.int .i64 m) (.int .i64 i); binOp .quo 3 (.int .i64 m) (.int .i64 i):Sem Value) (.int .i64 p)∧
 LoopS [.int .u8 u,.int .i64 m,.int .i64 s,.int .i64 c,.int .i64 (IntKind.i64.wrap ((Int.tmod o 2)+(Int.tmod p 2))),.int .i64 4] f fun z A q _ j=>
 ∃ d a e b t k,q=[.int .u8 d,.int .i64 a,.int .i64 e,.int .i64 b,.int .i64 t,.int .i64 k]∧
 cond (decide (k<8))
 (∃ l,Pu Tryz.prog (do eqGuard .shl 3 (.const (.int .i64 1)) (.tmp 37) (.int .i64 1) (.int .u64 (IntKind.u64.wrap (Int.tmod (IntKind.i64.wrap (b+k)) 8))); binOp .shl 3 (.int .i64 1) (.int .u64 (IntKind.u64.wrap (Int.tmod (IntKind.i64.wrap (b+k)) 8))):Sem Value) (.int .i64 l)∧
 ∃ r,Pu Tryz.prog (do eqGuard .quo 3 (.tmp 32) (.tmp 38) (.int .i64 a) (.int .i64 l); binOp .quo 3 (.int .i64 a) (.int .i64 l):Sem Value) (.int .i64 r)∧
 Xh [] [] z A q [.int .u8 d,.int .i64 a,.int .i64 e,.int .i64 b,.int .i64 (IntKind.i64.wrap (t+(Int.tmod r 2))),.int .i64 (IntKind.i64.wrap (k+1))] j j)
 (XdA x y n f d a e b t j Q))
 (Q (.int .u8 (IntKind.u8.wrap s)) f)
def XnJ:Nat→List (Nat×TypeId):=fun n=>match n with | 0=>[(2,5),(3,3),(4,3),(5,3)] | 2=>[(2,5),(3,3),(4,3),(5,3),(6,3),(7,3)] | _=>[]
theorem Xjy (a:Int) (w:World) (Q:VWP) (h:Xjx a w Q):Xa Tryz.prog 171 #[.int .u8 a] w Q:=
 Xc XnJ Tryz.func171 h (fun _ _=>by kernel_rfl) (by kernel_rfl) (by kernel_rfl) (by kernel_rfl)
def XmC (i:Int) (j:Int) (w:World) (Q:VWP):Prop:=
 cond (j == 0)
 (Q (.int .u8 1) w)
 (cond (i == 0)
 (Q (.int .u8 0) w)
 (LoopS [.int .u8 i,.int .u64 j,.int .u8 0,.int .u8 1,.int .u64 0] w fun m n d _ c=>
 ∃ a b k f g,d=[.int .u8 a,.int .u64 b,.int .u8 k,.int .u8 f,.int .u64 g]∧
 cond (decide (g<(Int.tmod b 255)))
 (Xa Tryz.prog 170 #[.int .u8 f,.int .u8 a] c fun l o=>
 ∃ e,l=.int .u8 e∧
 Xh [] [] m n d [.int .u8 a,.int .u64 b,.int .u8 k,.int .u8 e,.int .u64 (IntKind.u64.wrap (g+1))] c o)
 (Q (.int .u8 f) c)))
def XpL:Nat→List (Nat×TypeId):=fun n=>match n with | 0=>[(0,5),(1,28),(4,5),(5,5),(6,28)] | _=>[]
theorem XlE (a:Int) (b:Int) (w:World) (Q:VWP) (h:XmC a b w Q):Xa Tryz.prog 194 #[.int .u8 a,.int .u64 b] w Q:=
 Xc XpL Tryz.func194 h (fun _ _=>by kernel_rfl) (by kernel_rfl) (by kernel_rfl) (by kernel_rfl)
end Go.Sh
end

section
namespace Go.Sh
open Go Go.Fw Go.Proofs
set_option maxRecDepth 100000
set_option linter.unusedVariables false
def Xaf (j:Option Addr) (k:Nat) (l:Nat) (w:World) (Q:VWP):Prop:=
 ∃ a b c d,Ef Tryz.prog (Instr.buildSlice 22 0 #[]) w (.slice a b c) d∧
 ∃ e f g i,Ef Tryz.prog (Builtin.append_ #[22,22] 22 #[.slice a b c,.slice j k l]) d (.slice e f g) i∧
 Q (.slice e f g) i
def Xe8:Nat→List (Nat×TypeId):=fun _=>[]
theorem Xcw (a:Option Addr) (b:Nat) (c:Nat) (w:World) (Q:VWP) (h:Xaf a b c w Q):Xa Tryz.prog 19 #[.slice a b c] w Q:=
 Xc Xe8 Tryz.func19 h (fun _ _=>by kernel_rfl) (by kernel_rfl) (by kernel_rfl) (by kernel_rfl)
def Xag (t:Option Addr) (p:Nat) (u:Nat) (v:Option Addr) (q:Nat) (x:Nat) (w:World) (Q:VWP):Prop:=
 cond (((p:Nat):Int) != ((q:Nat):Int))
 (Q (.bool false) w)
 (LoopS [.slice t p u,.slice v q x,.bool false,.int .i64 0] w fun y z k _ i=>
 ∃ b a c d e f r j,k=[.slice b a c,.slice d e f,.bool r,.int .i64 j]∧
 cond (decide (j<((a:Nat):Int)))
 (∃ (s:World→Prop),
 Drw i fun g=>
 ∃ l,IxA Tryz.prog 22 (.slice b a c) (.int .i64 j) l∧
 ∃ m,IxA Tryz.prog 22 (.slice d e f) (.int .i64 j) m∧
 ∃ n,HLd Tryz.prog s 5 (.pointer (some l)) g (.int .u8 n)∧
 ∃ o,Ld Tryz.prog 5 (.pointer (some m)) g (.int .u8 o)∧
 (g=g∨s g)∧
 cond (n != o)
 (Q (.bool false) g)
 (Xh [] [] y z k [.slice b a c,.slice d e f,.bool r,.int .i64 (IntKind.i64.wrap (j+1))] i g))
 (Q (.bool true) i))
def Xe9:Nat→List (Nat×TypeId):=fun n=>match n with | 0=>[(0,22),(1,22),(4,4),(5,3)] | _=>[]
theorem Xcx (a:Option Addr) (b:Nat) (c:Nat) (d:Option Addr) (e:Nat) (f:Nat) (w:World) (Q:VWP) (h:Xag a b c d e f w Q):Xa Tryz.prog 23 #[.slice a b c,.slice d e f] w Q:=
 Xc Xe9 Tryz.func23 h (fun _ _=>by kernel_rfl) (by kernel_rfl) (by kernel_rfl) (by kernel_rfl)
end Go.Sh
end
