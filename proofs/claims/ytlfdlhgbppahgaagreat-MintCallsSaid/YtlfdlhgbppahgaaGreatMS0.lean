/- A part of a proof of a given law of this program: lemmas, printed forms of its functions, contracts. It has no conditions of its own. -/
import Derived.Test.YtlfdlhgbppahgaaGreatProg
import Derived.Test.YtlfdlhgbppahgaaGreatMW0

set_option maxHeartbeats 16000000
section
namespace Go.Sh
open Go
abbrev XgL:FuncId:=8
abbrev XnO:FuncId:=9
abbrev Xtr:FuncId:=10
abbrev UJ:FuncId:=11
abbrev Xea:FuncId:=12
abbrev XgM:FuncId:=13
abbrev XnP:FuncId:=14
abbrev Wp:FuncId:=16
abbrev Xcz:FuncId:=17
abbrev XgN:FuncId:=18
abbrev Wz:FuncId:=19
abbrev XpB:FuncId:=20
abbrev Xir:FuncId:=21
abbrev XnQ:FuncId:=22
abbrev XgO:FuncId:=23
abbrev XnR:FuncId:=24
abbrev XrE:FuncId:=25
abbrev Xts:FuncId:=26
abbrev Xe0:FuncId:=27
abbrev Xis:FuncId:=28
abbrev XjE:FuncId:=29
abbrev XjF:FuncId:=30
abbrev XpC:FuncId:=31
abbrev Xe1:FuncId:=32
abbrev Um:FuncId:=34
abbrev XnS:FuncId:=35
abbrev XgP:FuncId:=36
abbrev XgQ:FuncId:=37
abbrev JB:FuncId:=38
abbrev Xtt:FuncId:=39
abbrev XgR:FuncId:=40
abbrev QP:FuncId:=41
abbrev XlC:FuncId:=42
abbrev XlD:FuncId:=43
abbrev XpD:FuncId:=44
abbrev XlE:FuncId:=45
abbrev XpE:FuncId:=46
abbrev XrF:FuncId:=47
abbrev Xeb:FuncId:=48
abbrev Xe2:FuncId:=49
abbrev XnT:FuncId:=50
abbrev XnU:FuncId:=51
abbrev XpF:FuncId:=52
abbrev XgS:FuncId:=53
abbrev Xtu:FuncId:=54
abbrev XgT:FuncId:=55
abbrev Xit:FuncId:=56
abbrev Xtv:FuncId:=57
abbrev Qk:FuncId:=58
abbrev XlF:FuncId:=59
abbrev JR:FuncId:=60
abbrev XrG:FuncId:=61
abbrev XpG:FuncId:=62
abbrev XnV:FuncId:=63
abbrev XnW:FuncId:=64
abbrev XnX:FuncId:=65
abbrev Xec:FuncId:=66
abbrev XgU:FuncId:=67
abbrev XgV:FuncId:=68
abbrev XuM:FuncId:=69
abbrev Xiu:FuncId:=70
abbrev XgW:FuncId:=71
abbrev XgX:FuncId:=72
abbrev XhH:FuncId:=73
abbrev XaT:FuncId:=74
abbrev XjG:FuncId:=75
abbrev XlG:FuncId:=76
abbrev XpH:FuncId:=77
abbrev WA:FuncId:=78
abbrev Xed:FuncId:=79
abbrev XgY:FuncId:=80
abbrev Xee:FuncId:=81
abbrev XrH:FuncId:=82
abbrev Xiv:FuncId:=83
abbrev XgZ:FuncId:=84
abbrev Xef:FuncId:=85
abbrev Xg0:FuncId:=86
abbrev XnY:FuncId:=87
abbrev XpI:FuncId:=88
abbrev Xeg:FuncId:=89
abbrev Xeh:FuncId:=90
abbrev Xe3:FuncId:=91
abbrev XlH:FuncId:=92
abbrev Xg1:FuncId:=93
abbrev Xtw:FuncId:=94
abbrev XcA:FuncId:=95
abbrev Xe4:FuncId:=96
abbrev Xei:FuncId:=97
abbrev QQ:FuncId:=98
abbrev XnZ:FuncId:=99
abbrev XjH:FuncId:=100
abbrev XrI:FuncId:=101
abbrev XlI:FuncId:=102
abbrev Xiw:FuncId:=103
abbrev Xix:FuncId:=104
abbrev Xe5:FuncId:=106
abbrev U2:FuncId:=107
abbrev XrJ:FuncId:=108
abbrev Xej:FuncId:=110
abbrev XdL:FuncId:=111
abbrev XpJ:FuncId:=112
abbrev Xe6:FuncId:=113
abbrev XpK:FuncId:=114
abbrev XrK:FuncId:=115
abbrev Xn0:FuncId:=116
abbrev XlJ:FuncId:=117
abbrev XpL:FuncId:=118
abbrev XrL:FuncId:=119
abbrev Xek:FuncId:=122
abbrev Xg2:FuncId:=123
abbrev Xg3:FuncId:=124
abbrev Xe7:FuncId:=125
abbrev XpM:FuncId:=126
abbrev Xe8:FuncId:=127
abbrev Xg4:FuncId:=128
abbrev JM:FuncId:=129
abbrev XpN:FuncId:=130
abbrev Xn1:FuncId:=131
abbrev XlK:FuncId:=132
abbrev XpO:FuncId:=133
abbrev Xn2:FuncId:=134
abbrev XpP:FuncId:=135
abbrev Xtx:FuncId:=136
abbrev XrM:FuncId:=137
abbrev Xel:FuncId:=138
abbrev XjI:FuncId:=139
abbrev XjJ:FuncId:=140
abbrev Xiy:FuncId:=141
abbrev JS:FuncId:=142
abbrev Xiz:FuncId:=143
abbrev Xem:FuncId:=144
abbrev JT:FuncId:=145
abbrev XuN:FuncId:=146
abbrev Xty:FuncId:=147
abbrev XpQ:FuncId:=148
abbrev Xg5:FuncId:=149
abbrev XlL:FuncId:=150
abbrev XrN:FuncId:=152
abbrev XrO:FuncId:=153
abbrev XiA:FuncId:=154
abbrev XpR:FuncId:=155
abbrev XpS:FuncId:=156
abbrev W0:FuncId:=157
abbrev XrP:FuncId:=159
abbrev Xn3:FuncId:=160
abbrev XpT:FuncId:=161
abbrev XpU:FuncId:=162
abbrev XpV:FuncId:=163
abbrev XlM:FuncId:=164
abbrev XpW:FuncId:=165
abbrev XrQ:FuncId:=166
abbrev XpX:FuncId:=167
abbrev XpY:FuncId:=168
abbrev XjK:FuncId:=169
abbrev XrR:FuncId:=170
abbrev XpZ:FuncId:=171
abbrev XrS:FuncId:=172
abbrev XrT:FuncId:=173
abbrev XrU:FuncId:=174
abbrev XcB:FuncId:=175
abbrev XcC:FuncId:=176
abbrev Ua:FuncId:=178
abbrev XlN:FuncId:=179
abbrev XjL:FuncId:=180
abbrev Xg6:FuncId:=181
abbrev Xg7:FuncId:=182
abbrev Xn4:FuncId:=183
abbrev XlO:FuncId:=184
abbrev QR:FuncId:=185
abbrev Un:FuncId:=186
abbrev Xp0:FuncId:=187
abbrev Xp1:FuncId:=188
abbrev Xn5:FuncId:=189
abbrev Xn6:FuncId:=190
abbrev Xe9:FuncId:=191
abbrev XcD:FuncId:=192
abbrev Xfa:FuncId:=193
abbrev XrV:FuncId:=194
abbrev Xtz:FuncId:=195
abbrev XrW:FuncId:=196
abbrev VB:FuncId:=197
abbrev Xen:FuncId:=198
abbrev Uw:FuncId:=199
abbrev Xfb:FuncId:=201
abbrev XjM:FuncId:=202
abbrev XrX:FuncId:=203
abbrev Xn7:FuncId:=204
abbrev XrY:FuncId:=205
abbrev XcE:FuncId:=206
abbrev XlP:FuncId:=208
abbrev QS:FuncId:=209
abbrev Xp2:FuncId:=211
abbrev VZ:FuncId:=212
abbrev WB:FuncId:=213
abbrev XiB:FuncId:=214
abbrev Xn8:FuncId:=215
abbrev Ql:FuncId:=216
abbrev Xg8:FuncId:=217
abbrev XrZ:FuncId:=220
abbrev Xr0:FuncId:=221
abbrev XlQ:FuncId:=222
abbrev XiC:FuncId:=223
abbrev Wq:FuncId:=224
abbrev VC:FuncId:=225
abbrev W1:FuncId:=226
abbrev XiD:FuncId:=228
abbrev QT:FuncId:=229
abbrev Ux:FuncId:=230
abbrev XaU:FuncId:=231
abbrev QU:FuncId:=232
abbrev VD:FuncId:=234
abbrev XaV:FuncId:=235
abbrev X0:TypeId:=3
abbrev XjN:TypeId:=4
abbrev Jc:TypeId:=5
abbrev Xf:TypeId:=22
abbrev XhI:TypeId:=25
abbrev XiE:TypeId:=28
abbrev Ys:TypeId:=30
abbrev XB:TypeId:=32
abbrev Jz:TypeId:=36
abbrev Z7:TypeId:=38
abbrev Uy:TypeId:=47
abbrev XhJ:TypeId:=49
abbrev XbB:TypeId:=51
abbrev T_law21_Call:TypeId:=53
abbrev Qm:TypeId:=57
abbrev Xx:TypeId:=63
abbrev Ju:TypeId:=68
abbrev XlR:TypeId:=94
abbrev Xp3:TypeId:=95
abbrev Xfc:TypeId:=97
abbrev Xw:TypeId:=116
abbrev XI:TypeId:=120
abbrev Xfd:TypeId:=122
abbrev JH:TypeId:=124
abbrev Xr1:TypeId:=131
abbrev Yv:TypeId:=133
abbrev XP:TypeId:=138
abbrev Xr2:TypeId:=140
abbrev Xs:TypeId:=161
abbrev Ub:TypeId:=177
abbrev XaW:TypeId:=179
abbrev XD:TypeId:=208
abbrev X9:TypeId:=213
abbrev YO:TypeId:=217
abbrev XhK:TypeId:=222
abbrev Xr3:TypeId:=223
abbrev XjO:TypeId:=224
abbrev XtA:TypeId:=228
abbrev XY:TypeId:=240
abbrev XhL:TypeId:=253
abbrev Xab:TypeId:=254
abbrev XjP:TypeId:=269
abbrev XV:TypeId:=278
abbrev XhM:TypeId:=291
abbrev Xac:TypeId:=293
end Go.Sh
end

section
namespace Go.Sh
open Go Go.Fw Go.Proofs
set_option maxRecDepth 100000
set_option linter.unusedVariables false
def XmT (d:Option Addr) (e:Nat) (f:Nat) (w:World) (Q:VWP):Prop:=
 Xa Tryz.prog 60 #[.slice d e f] w fun g i=>
 ∃ a b c,g=.slice a b c∧
 New #[.slice a b c,.int .u32 0,.int .i32 0,.int .u32 0,.int .i64 0,.int .u8 0,.int .u8 0,.int .u8 0,.int .u8 0,.int .u8 0,.int .u8 0,.int .u8 0,.int .u8 0,.int .u8 0,.int .u8 0,.int .u8 0,.int .u8 0,.int .u8 0,.int .u8 0,.int .u8 0,.int .u8 0,.int .u8 0,.int .u8 0,.int .u8 0,.int .u8 0,.int .u8 0,.int .u8 0,.int .u8 0,.int .u8 0,.int .u8 0,.int .u8 0,.int .u8 0,.int .u8 0,.int .u8 0,.int .u8 0,.int .u8 0,.int .u8 0,.int .u8 0,.int .u8 0,.int .u8 0,.int .u8 0,.int .u8 0,.int .u8 0,.int .u8 0,.int .u8 0,.int .u8 0,.int .u8 0,.int .u8 0,.int .u8 0,.int .u8 0,.int .u8 0,.int .u8 0,.int .u8 0,.int .u8 0,.int .u8 0,.int .u8 0,.int .u8 0,.int .u8 0,.int .u8 0,.int .u8 0,.int .u8 0,.int .u8 0,.int .u8 0,.int .u8 0,.int .u8 0,.int .u8 0,.int .u8 0,.int .u8 0,.int .u8 0,.int .u8 0,.int .u8 0,.int .u8 0,.int .u8 0,.int .u8 0,.int .u8 0,.int .u8 0,.int .u8 0,.int .u8 0,.int .u8 0,.int .u8 0,.int .u8 0,.int .u8 0,.int .u8 0,.int .u8 0,.int .u8 0,.int .u8 0,.int .u8 0,.int .u8 0,.int .u8 0,.int .u8 0,.int .u8 0,.int .u8 0,.int .u8 0,.int .u8 0,.int .u8 0,.int .u8 0,.int .u8 0,.int .u8 0,.int .u8 0,.int .u8 0,.int .u8 0,.int .u8 0,.int .u8 0,.int .u8 0,.int .u8 0,.int .u8 0,.int .u8 0,.int .u8 0,.int .u8 0,.int .u8 0,.int .u8 0,.int .u8 0,.int .u8 0,.int .u8 0,.int .u8 0,.int .u8 0,.int .u8 0,.int .u8 0,.int .u8 0,.int .u8 0,.int .u8 0,.int .u8 0,.int .u8 0,.int .u8 0,.int .u8 0,.int .u8 0,.int .u8 0,.int .u8 0,.int .u8 0,.int .u8 0,.int .u8 0,.int .u8 0,.int .u8 0,.int .u8 0,.int .u8 0,.int .u8 0,.int .u8 0,.int .u8 0,.int .u8 0,.int .u8 0,.int .u8 0,.int .u8 0,.int .u8 0,.int .u8 0,.int .u8 0,.int .u8 0,.int .u8 0,.int .u8 0,.int .u8 0,.int .u8 0,.int .u8 0,.int .u8 0,.int .u8 0,.int .u8 0,.int .u8 0,.int .u8 0,.int .u8 0,.int .u8 0,.int .u8 0,.int .u8 0,.int .u8 0,.int .u8 0,.int .u8 0,.int .u8 0,.int .u8 0,.int .u8 0,.int .u8 0,.int .u8 0,.int .u8 0,.int .u8 0,.int .u8 0,.int .u8 0,.int .u8 0,.int .u8 0,.int .u8 0,.int .u8 0,.int .u8 0,.int .u8 0,.int .u8 0,.int .u8 0,.int .u8 0,.int .u8 0,.int .u8 0,.int .u8 0,.int .u8 0,.int .u8 0,.int .u8 0,.int .u8 0,.int .u8 0,.int .u8 0,.int .u8 0,.int .u8 0,.int .u8 0,.int .u8 0,.int .u8 0,.int .u8 0,.int .u8 0,.int .u8 0,.int .u8 0,.int .u8 0,.int .u8 0,.int .u8 0,.int .u8 0,.int .u8 0,.int .u8 0,.int .u8 0,.int .u8 0,.int .u8 0,.int .u8 0,.int .u8 0,.int .u8 0,.int .u8 0,.int .u8 0,.int .u8 0,.int .u8 0,.int .u8 0,.int .u8 0,.int .u8 0,.int .u8 0,.int .u8 0,.int .u8 0,.int .u8 0,.int .u8 0,.int .u8 0,.int .u8 0,.int .u8 0,.int .u8 0,.int .u8 0,.int .u8 0,.int .u8 0,.int .u8 0,.int .u8 0,.int .u8 0,.int .u8 0,.int .u8 0,.int .u8 0,.int .u8 0,.int .u8 0,.int .u8 0,.int .u8 0,.int .u8 0,.int .u8 0,.int .u8 0,.int .u8 0,.int .u8 0,.int .u8 0,.int .u8 0,.int .u8 0,.int .u8 0,.int .u8 0,.int .u8 0,.int .u8 0,.int .u8 0,.int .u8 0,.int .u8 0,.int .u8 0,.int .u8 0,.int .u8 0,.int .u8 0,.int .u8 0,.int .u8 0,.int .u8 0,.int .u8 0,.int .u8 0,.int .u8 0,.int .u8 0,.int .u8 0,.int .u8 0,.int .u8 0,.int .u8 0,.int .u8 0,.int .u8 0,.int .u8 0,.int .u8 0,.int .u8 0,.int .u8 0,.int .u8 0,.int .u8 0,.int .u8 0,.int .u8 0,.int .u8 0,.int .u8 0,.int .u8 0,.int .u8 0,.int .u8 0,.int .u8 0,.int .u8 0,.int .u8 0,.int .u8 0,.int .u8 0,.int .u8 0,.int .u8 0,.int .u8 0,.int .u8 0,.int .u8 0,.int .u8 0,.int .u8 0,.int .u8 0,.int .u8 0,.int .u8 0,.int .u8 0,.int .u8 0,.int .u8 0,.int .u8 0,.int .u8 0,.int .u8 0,.int .u8 0,.int .u8 0,.int .u8 0,.int .u8 0,.int .u8 0,.int .u8 0,.int .u8 0,.int .u8 0,.int .u8 0,.int .u8 0,.int .u8 0,.int .u8 0,.int .u8 0,.int .u8 0,.int .u8 0,.int .u8 0,.int .u8 0,.int .u8 0,.int .u8 0,.int .u8 0,.int .u8 0,.int .u8 0,.int .u8 0,.int .u8 0,.int .u8 0,.int .u8 0,.int .u8 0,.int .u8 0,.int .u8 0,.int .u8 0,.int .u8 0,.int .u8 0,.int .u8 0,.int .u8 0,.int .u8 0,.int .u8 0,.int .u8 0,.int .u8 0,.int .u8 0,.int .u8 0,.int .u8 0,.int .u8 0,.int .u8 0,.int .u8 0,.int .u8 0,.int .u8 0,.int .u8 0,.int .u8 0,.int .u8 0,.int .u8 0,.int .u8 0,.int .u8 0,.int .u8 0,.int .u8 0,.int .u8 0,.int .u8 0,.int .u8 0,.int .u8 0,.int .u8 0,.int .u8 0,.int .u8 0,.int .u8 0,.int .u8 0,.int .u8 0,.int .u8 0,.int .u8 0,.int .u8 0,.int .u8 0,.int .u8 0,.int .u8 0,.int .u8 0,.int .u8 0,.int .u8 0,.int .u8 0,.int .u8 0,.int .u8 0,.int .u8 0,.int .u8 0,.int .u8 0,.int .u8 0,.int .u8 0,.int .u8 0,.int .u8 0,.int .u8 0,.int .u8 0,.int .u8 0,.int .u8 0,.int .u8 0,.int .u8 0,.int .u8 0,.int .u8 0,.int .u8 0,.int .u8 0,.int .u8 0,.int .u8 0,.int .u8 0,.int .u8 0,.int .u8 0,.int .u8 0,.int .u8 0,.int .u8 0,.int .u8 0,.int .u8 0,.int .u8 0,.int .u8 0,.int .u8 0,.int .u8 0,.int .u8 0,.int .u8 0,.int .u8 0,.int .u8 0,.int .u8 0,.int .u8 0,.int .u8 0,.int .u8 0,.int .u8 0,.int .u8 0,.int .u8 0,.int .u8 0,.int .u8 0,.int .u8 0,.int .u8 0,.int .u8 0,.int .u8 0,.int .u8 0,.int .u8 0,.int .u8 0,.int .u8 0,.int .u8 0,.int .u8 0,.int .u8 0,.int .u8 0,.int .u8 0,.int .u8 0,.int .u8 0,.int .u8 0,.int .u8 0,.int .u8 0,.int .u8 0,.int .u8 0,.int .u8 0,.int .u8 0,.int .u8 0,.int .u8 0,.int .u8 0,.int .u8 0,.int .u8 0,.int .u8 0,.int .u8 0,.int .u8 0,.int .u8 0,.int .u8 0,.int .u8 0,.int .u8 0,.int .u8 0,.int .u8 0,.int .u8 0,.int .u8 0,.int .u8 0,.int .u8 0,.int .u8 0,.int .u8 0,.int .u8 0,.int .u8 0,.int .u8 0,.int .u8 0,.int .u8 0,.int .u8 0,.int .u8 0,.int .u8 0,.int .u8 0,.int .u8 0,.int .u8 0,.int .u8 0,.int .u8 0,.int .u8 0,.int .u8 0,.int .u8 0,.int .u8 0,.int .u8 0,.int .u8 0,.int .u8 0,.int .u8 0,.int .u8 0,.int .u8 0,.int .u8 0,.int .u8 0,.int .u8 0,.int .u8 0,.int .u8 0,.int .u8 0,.int .u8 0,.int .u8 0,.int .u8 0,.int .u8 0,.int .u8 0,.int .u8 0,.int .u8 0,.int .u8 0,.int .u8 0,.int .u8 0,.int .u8 0,.int .u8 0,.int .u8 0,.int .u8 0,.int .u8 0,.int .u8 0,.int .u8 0,.int .u8 0,.int .u8 0,.int .u8 0,.slice none 0 0] 271 i fun j k=>
 Q (.pointer (some ⟨j,0,none⟩)) k
def Xp4:Nat→List (Nat×TypeId):=fun _=>[]
theorem XlS (a:Option Addr) (b:Nat) (c:Nat) (w:World) (Q:VWP) (h:XmT a b c w Q):Xa Tryz.prog 137 #[.slice a b c] w Q:=
 Xc Xp4 Tryz.func137 h (fun _ _=>by kernel_rfl) (by kernel_rfl) (by kernel_rfl) (by kernel_rfl)
def XiF (f:Option Addr) (g:Int) (w:World) (Q:VWP):Prop:=
 Xa Tryz.prog 175 #[.pointer f] w fun i c=>
 ∃ d,i=.pointer d∧
 ∃ e,d=some e∧
 ∃ a,IxA Tryz.prog 268 (.pointer (some (e.add 5))) (.int .u8 g) a∧
 ∃ b,Ld Tryz.prog 5 (.pointer (some a)) c (.int .u8 b)∧
 Q (.int .u8 b) c
def Xeo:Nat→List (Nat×TypeId):=fun _=>[]
theorem XbC (a:Option Addr) (b:Int) (w:World) (Q:VWP) (h:XiF a b w Q):Xa Tryz.prog 142 #[.pointer a,.int .u8 b] w Q:=
 Xc Xeo Tryz.func142 h (fun _ _=>by kernel_rfl) (by kernel_rfl) (by kernel_rfl) (by kernel_rfl)
def XmU (p:Int) (q:Int) (w:World) (Q:VWP):Prop:=
 LoopS [.int .u8 p,.int .u64 q,.int .u8 0,.int .u8 1] w fun l m e _ c=>
 ∃ a b k f,e=[.int .u8 a,.int .u64 b,.int .u8 k,.int .u8 f]∧
 cond (b != 0)
 (cond ((Y4 .u64 b 1) != 0)
 (Xa Tryz.prog 196 #[.int .u8 f,.int .u8 a] c fun n r=>
 ∃ i,n=.int .u8 i∧
 Xa Tryz.prog 196 #[.int .u8 a,.int .u8 a] r fun o s=>
 ∃ j,o=.int .u8 j∧
 Xh [] [] l m e [.int .u8 j,.int .u64 (Int.fdiv b (2 ^ 1)),.int .u8 k,.int .u8 i] c s)
 (Xa Tryz.prog 196 #[.int .u8 a,.int .u8 a] c fun g t=>
 ∃ d,g=.int .u8 d∧
 Xh [] [] l m e [.int .u8 d,.int .u64 (Int.fdiv b (2 ^ 1)),.int .u8 k,.int .u8 f] c t))
 (Q (.int .u8 f) c)
def Xp5:Nat→List (Nat×TypeId):=fun n=>match n with | 0=>[(0,5),(1,28),(4,5),(5,5)] | _=>[]
theorem XlT (a:Int) (b:Int) (w:World) (Q:VWP) (h:XmU a b w Q):Xa Tryz.prog 174 #[.int .u8 a,.int .u64 b] w Q:=
 Xc Xp5 Tryz.func174 h (fun _ _=>by kernel_rfl) (by kernel_rfl) (by kernel_rfl) (by kernel_rfl)
def Xfe (a:Option Addr) (w:World) (Q:VWP):Prop:=
 ∃ b,a=some b∧
 Xa Tryz.prog 197 #[.pointer (some (b.add 1)),.func (.func 198) #[.pointer a] #[]] w fun c d=>
 c=.tuple #[]∧
 Q (.pointer a) d
def XbD:Nat→List (Nat×TypeId):=fun _=>[]
theorem QV (a:Option Addr) (w:World) (Q:VWP) (h:Xfe a w Q):Xa Tryz.prog 175 #[.pointer a] w Q:=
 Xc XbD Tryz.func175 h (fun _ _=>by kernel_rfl) (by kernel_rfl) (by kernel_rfl) (by kernel_rfl)
def XbE (i:Option Addr) (j:Int) (k:Int) (l:Int) (m:Int) (w:World) (Q:VWP):Prop:=
 ∃ a,i=some a∧
 ∃ b c d,Ld Tryz.prog 269 (.pointer (some (a.add 517))) w (.slice b c d)∧
 ∃ e,IxA Tryz.prog 269 (.slice b c d) (.int .i64 j) e∧
 ∃ f,IxA Tryz.prog 268 (.pointer (some e)) (.int .u8 k) f∧
 ∃ g,Ld Tryz.prog 5 (.pointer (some f)) w (.int .u8 g)∧
 Q (.tuple #[.int .u8 g,.int .i64 0]) w
def Xff (d:Option Addr) (e:Int) (i:Int) (w:World) (Q:VWP):Prop:=
 Xa Tryz.prog 175 #[.pointer d] w fun j a=>
 ∃ k,j=.pointer k∧
 cond (decide (e<0))
 (Q (.tuple #[.int .u8 0,.int .i64 11]) a)
 (∃ b,d=some b∧
 ∃ f c g,Ld Tryz.prog 269 (.pointer (some (b.add 517))) a (.slice f c g)∧
 cond (decide (e≥((c:Nat):Int)))
 (Q (.tuple #[.int .u8 0,.int .i64 11]) a)
 (XbE d e i 0 0 a Q))
def XbF:Nat→List (Nat×TypeId):=fun _=>[]
theorem QW (a:Option Addr) (b:Int) (c:Int) (w:World) (Q:VWP) (h:Xff a b c w Q):Xa Tryz.prog 176 #[.pointer a,.int .i64 b,.int .u8 c] w Q:=
 Xc XbF Tryz.func176 h (fun _ _=>by kernel_rfl) (by kernel_rfl) (by kernel_rfl) (by kernel_rfl)
def XmV (n:Int) (o:Int) (w:World) (Q:VWP):Prop:=
 LoopS [.int .u8 n,.int .u8 o,.int .u8 0,.int .u8 0] w fun k l e _ c=>
 ∃ b a j f,e=[.int .u8 b,.int .u8 a,.int .u8 j,.int .u8 f]∧
 cond (a != 0)
 (cond ((Y4 .u8 a 1) != 0)
 (Xa Tryz.prog 208 #[.int .u8 b] c fun m p=>
 ∃ i,m=.int .u8 i∧
 Xh [] [] k l e [.int .u8 i,.int .u8 (Int.fdiv a (2 ^ 1)),.int .u8 j,.int .u8 (YG .u8 f b)] c p)
 (Xa Tryz.prog 208 #[.int .u8 b] c fun g q=>
 ∃ d,g=.int .u8 d∧
 Xh [] [] k l e [.int .u8 d,.int .u8 (Int.fdiv a (2 ^ 1)),.int .u8 j,.int .u8 f] c q))
 (Q (.int .u8 f) c)
def Xp6:Nat→List (Nat×TypeId):=fun n=>match n with | 0=>[(0,5),(1,5),(4,5),(5,5)] | _=>[]
theorem XlU (a:Int) (b:Int) (w:World) (Q:VWP) (h:XmV a b w Q):Xa Tryz.prog 196 #[.int .u8 a,.int .u8 b] w Q:=
 Xc Xp6 Tryz.func196 h (fun _ _=>by kernel_rfl) (by kernel_rfl) (by kernel_rfl) (by kernel_rfl)
def WC (p:Option Addr) (w:World) (Q:VWP):Prop:=
 ∃ V,p=some V∧
 Xa Tryz.prog 41 #[.pointer (some (V.add 4)),.int .i64 1] w fun af W=>
 ∃ ag,af=.int .i64 ag∧
 ∃ r,p=some r∧
 ∃ X k Y,Ld Tryz.prog 22 (.pointer (some (r.add 0))) W (.slice X k Y)∧
 ∃ s t u Z,Ef Tryz.prog (Instr.makeSlice 269 (.int .i64 ((k:Nat):Int)) (.int .i64 ((k:Nat):Int))) W (.slice s t u) Z∧
 ∃ v,p=some v∧
 ∃ aa,Sto Tryz.prog 269 (.pointer (some (v.add 517))) (.slice s t u) Z aa∧
 LoopS [.pointer p,.int .i64 0] aa fun ah ai x _ l=>
 ∃ a b,x=[.pointer a,.int .i64 b]∧
 cond (decide (b<256))
 (Xa Tryz.prog 211 #[.int .u8 (IntKind.u8.wrap b)] l fun ab aj=>
 ∃ m,ab=.int .u8 m∧
 ∃ y,a=some y∧
 ∃ z,IxA Tryz.prog 268 (.pointer (some (y.add 5))) (.int .i64 b) z∧
 ∃ ac,Sto Tryz.prog 5 (.pointer (some z)) (.int .u8 m) aj ac∧
 ∃ A,a=some A∧
 ∃ B,IxA Tryz.prog 268 (.pointer (some (A.add 261))) (.int .u8 m) B∧
 ∃ S,Sto Tryz.prog 5 (.pointer (some B)) (.int .u8 (IntKind.u8.wrap b)) ac S∧
 ∃ C,a=some C∧
 ∃ D n E,Ld Tryz.prog 22 (.pointer (some (C.add 0))) S (.slice D n E)∧
 LoopS [.pointer a,.int .i64 b,.int .i64 b,.slice D n E,.int .i64 ((n:Nat):Int),.int .i64 0] S fun ak al F _ j=>
 ∃ c q d e f g o i,F=[.pointer c,.int .i64 q,.int .i64 d,.slice e f g,.int .i64 o,.int .i64 i]∧
 cond (decide (i<o))
 (∃ G,IxA Tryz.prog 22 (.slice e f g) (.int .i64 i) G∧
 ∃ H,Ld Tryz.prog 5 (.pointer (some G)) j (.int .u8 H)∧
 ∃ (I:World→Prop),
 Drw j fun T=>
 ∃ J,c=some J∧
 ∃ L M N,HLd Tryz.prog I 269 (.pointer (some (J.add 517))) T (.slice L M N)∧
 ∃ O,IxA Tryz.prog 269 (.slice L M N) (.int .i64 i) O∧
 Xa Tryz.prog 196 #[.int .u8 (IntKind.u8.wrap q),.int .u8 H] T fun ad U=>
 ∃ P,ad=.int .u8 P∧
 (U=T∨I U)∧
 ∃ R,IxA Tryz.prog 268 (.pointer (some O)) (.int .i64 q) R∧
 ∃ ae,Sto Tryz.prog 5 (.pointer (some R)) (.int .u8 P) U ae∧
 Xh [] [] ak al F [.pointer c,.int .i64 q,.int .i64 d,.slice e f g,.int .i64 o,.int .i64 (IntKind.i64.wrap (i+1))] j ae)
 (Xh [] [] ah ai x [.pointer c,.int .i64 (IntKind.i64.wrap (d+1))] l j))
 (Q (.tuple #[]) l)
def XcF:Nat→List (Nat×TypeId):=fun n=>match n with | 0=>[(0,220),(19,3)] | 2=>[(0,220),(2,3),(19,3),(41,22),(42,3),(43,3)] | _=>[]
theorem XaX (a:Option Addr) (w:World) (Q:VWP) (h:WC a w Q):Xa Tryz.prog 198 #[.pointer a] w Q:=
 Xc XcF Tryz.func198 h (fun _ _=>by kernel_rfl) (by kernel_rfl) (by kernel_rfl) (by kernel_rfl)
def Xfg (a:Int) (w:World) (Q:VWP):Prop:=
 cond ((Y4 .u8 a 128) != 0)
 (Q (.int .u8 (YG .u8 (IntKind.u8.wrap (a*2 ^ 1)) 27)) w)
 (Q (.int .u8 (IntKind.u8.wrap (a*2 ^ 1))) w)
def XjQ:Nat→List (Nat×TypeId):=fun _=>[]
theorem Xg9 (a:Int) (w:World) (Q:VWP) (h:Xfg a w Q):Xa Tryz.prog 208 #[.int .u8 a] w Q:=
 Xc XjQ Tryz.func208 h (fun _ _=>by kernel_rfl) (by kernel_rfl) (by kernel_rfl) (by kernel_rfl)
def XtB (p:Int) (w:World) (Q:VWP):Prop:=
 Xa Tryz.prog 220 #[.int .u8 p] w fun q r=>
 ∃ a,q=.int .u8 a∧
 Xa Tryz.prog 222 #[.int .u8 a,.int .i64 1] r fun s t=>
 ∃ j,s=.int .u8 j∧
 Xa Tryz.prog 222 #[.int .u8 a,.int .i64 2] t fun k u=>
 ∃ b,k=.int .u8 b∧
 Xa Tryz.prog 222 #[.int .u8 a,.int .i64 3] u fun l v=>
 ∃ c,l=.int .u8 c∧
 Xa Tryz.prog 222 #[.int .u8 a,.int .i64 4] v fun m x=>
 ∃ d,m=.int .u8 d∧
 ∃ e f g n,Ef Tryz.prog (Instr.buildSlice 22 6 #[(0,.int .u8 a),(1,.int .u8 j),(2,.int .u8 b),(3,.int .u8 c),(4,.int .u8 d),(5,.int .u8 99)]) x (.slice e f g) n∧
 Xa Tryz.prog 221 #[.slice e f g] n fun o y=>
 ∃ i,o=.int .u8 i∧
 Q (.int .u8 i) y
def Xn9:Nat→List (Nat×TypeId):=fun _=>[]
theorem XjR (a:Int) (w:World) (Q:VWP) (h:XtB a w Q):Xa Tryz.prog 211 #[.int .u8 a] w Q:=
 Xc Xn9 Tryz.func211 h (fun _ _=>by kernel_rfl) (by kernel_rfl) (by kernel_rfl) (by kernel_rfl)
def XuO (b:Int) (w:World) (Q:VWP):Prop:=
 Xa Tryz.prog 174 #[.int .u8 b,.int .u64 254] w fun c d=>
 ∃ a,c=.int .u8 a∧
 Q (.int .u8 a) d
def Xp7:Nat→List (Nat×TypeId):=fun _=>[]
theorem XlV (a:Int) (w:World) (Q:VWP) (h:XuO a w Q):Xa Tryz.prog 220 #[.int .u8 a] w Q:=
 Xc Xp7 Tryz.func220 h (fun _ _=>by kernel_rfl) (by kernel_rfl) (by kernel_rfl) (by kernel_rfl)
def XmW (n:Option Addr) (l:Nat) (o:Nat) (w:World) (Q:VWP):Prop:=
 LoopS [.int .u8 0,.int .u8 0,.slice n l o,.int .i64 ((l:Nat):Int),.int .i64 0] w fun p q c _ a=>
 ∃ m f g i j k b,c=[.int .u8 m,.int .u8 f,.slice g i j,.int .i64 k,.int .i64 b]∧
 cond (decide (b<k))
 (∃ d,IxA Tryz.prog 22 (.slice g i j) (.int .i64 b) d∧
 ∃ e,Ld Tryz.prog 5 (.pointer (some d)) a (.int .u8 e)∧
 Xh [] [] p q c [.int .u8 m,.int .u8 (YG .u8 f e),.slice g i j,.int .i64 k,.int .i64 (IntKind.i64.wrap (b+1))] a a)
 (Q (.int .u8 f) a)
def Xp8:Nat→List (Nat×TypeId):=fun n=>match n with | 0=>[(2,5),(3,5),(6,22),(7,3),(8,3)] | _=>[]
theorem XlW (a:Option Addr) (b:Nat) (c:Nat) (w:World) (Q:VWP) (h:XmW a b c w Q):Xa Tryz.prog 221 #[.slice a b c] w Q:=
 Xc Xp8 Tryz.func221 h (fun _ _=>by kernel_rfl) (by kernel_rfl) (by kernel_rfl) (by kernel_rfl)
def Xp9 (a:Int) (b:Int) (w:World) (Q:VWP):Prop:=
 Drw w fun e=>
 ∃ d,Pu Tryz.prog (do eqGuard .shl 5 (.tmp 5) (.tmp 6) (.int .u8 a) (.int .i64 b); binOp .shl 5 (.int .u8 a) (.int .i64 b):Sem Value) (.int .u8 d)∧
 ∃ c,Pu Tryz.prog (do eqGuard .shr 5 (.tmp 8) (.tmp 10) (.int .u8 a) (.int .i64 (IntKind.i64.wrap (8 - b))); binOp .shr 5 (.int .u8 a) (.int .i64 (IntKind.i64.wrap (8 - b))):Sem Value) (.int .u8 c)∧
 Q (.int .u8 (ior .u8 d c)) e
def XjS:Nat→List (Nat×TypeId):=fun _=>[]
theorem Xha (a:Int) (b:Int) (w:World) (Q:VWP) (h:Xp9 a b w Q):Xa Tryz.prog 222 #[.int .u8 a,.int .i64 b] w Q:=
 Xc XjS Tryz.func222 h (fun _ _=>by kernel_rfl) (by kernel_rfl) (by kernel_rfl) (by kernel_rfl)
end Go.Sh
end

section
namespace Go.Sh
open Go Go.Fw Go.Proofs
set_option maxRecDepth 100000
theorem XaY {b n o:Nat} {g:Nat→Value} {x y:Int} {w:World} (hB:Blk w b n g) (ho:o<n) (hv:g o=.int .i64 x) {K:VWP} (h:∀ w',Fr [b] w w'→Blk w' b n (upd g o (.int .i64 (IntKind.i64.wrap (x+y))))→w'.heap.size=w.heap.size→K (.int .i64 (IntKind.i64.wrap (x+y))) w'):Xa Tryz.prog XaT #[.pointer (some ⟨b,o,none⟩),.int .i64 y] w K:=XwV Tryz.func74 (by kernel_rfl) (by kernel_rfl) (by kernel_rfl) .i64 (by kernel_rfl) hB ho hv h
theorem QX {b n o:Nat} {g:Nat→Value} {x:Int} {w:World} (hB:Blk w b n g) (ho:o<n) (hv:g o=.int .i64 x) {K:VWP} (h:K (.int .i64 x) w):Xa Tryz.prog QQ #[.pointer (some ⟨b,o,none⟩)] w K:=XuF Tryz.func98 (by kernel_rfl) (by kernel_rfl) (by kernel_rfl) .i64 (by kernel_rfl) hB ho hv h
theorem Qn {b n o:Nat} {g:Nat→Value} {x:Int} {w:World} (hB:Blk w b n g) (ho:o<n) (hv:g o=.int .u32 x) {K:VWP} (h:K (.int .u32 x) w):Xa Tryz.prog Ql #[.pointer (some ⟨b,o,none⟩)] w K:=XuF Tryz.func216 (by kernel_rfl) (by kernel_rfl) (by kernel_rfl) .u32 (by kernel_rfl) hB ho hv h
theorem W2 {b n o:Nat} {g:Nat→Value} {y:Int} {w:World} (hB:Blk w b n g) (ho:o<n) {K:VWP} (h:∀ w',Fr [b] w w'→Blk w' b n (upd g o (.int .u32 y))→w'.heap.size=w.heap.size→K (.tuple #[]) w'):Xa Tryz.prog W1 #[.pointer (some ⟨b,o,none⟩),.int .u32 y] w K:=Xv0 Tryz.func226 (by kernel_rfl) (by kernel_rfl) (by kernel_rfl) (by kernel_rfl) hB ho h
theorem Ui {w:World} {K:VWP} (h:K (.tuple #[]) w):Xa Tryz.prog QT #[] w K:=XsC Tryz.func229 (by kernel_rfl) (by kernel_rfl) (by kernel_rfl) .disable (by kernel_rfl) h
theorem Uz {b n o:Nat} {g:Nat→Value} {x y:Int} {w:World} (hB:Blk w b n g) (ho:o<n) (hv:g o=.int .i32 x) {K:VWP} (h:∀ w',Fr [b] w w'→Blk w' b n (upd g o (.int .i32 y))→w'.heap.size=w.heap.size→K (.bool true) w'):Xa Tryz.prog Ux #[.pointer (some ⟨b,o,none⟩),.int .i32 x,.int .i32 y] w K:=Xzk Tryz.func230 (by kernel_rfl) (by kernel_rfl) (by kernel_rfl) .i32 (by kernel_rfl) hB ho hv h
theorem UA {w:World} {K:VWP} (h:K (.tuple #[]) w):Xa Tryz.prog XaU #[] w K:=XsC Tryz.func231 (by kernel_rfl) (by kernel_rfl) (by kernel_rfl) .enable (by kernel_rfl) h
theorem QY {a:Addr} {w:World} {K:VWP} (h:K (.tuple #[]) w):Xa Tryz.prog QU #[.pointer (some a)] w K:=Xps Tryz.func232 (by kernel_rfl) (by kernel_rfl) (by kernel_rfl) .acquire (by kernel_rfl) h
theorem VE {a:Addr} {w:World} {K:VWP} (h:K (.tuple #[]) w):Xa Tryz.prog VD #[.pointer (some a)] w K:=Xps Tryz.func234 (by kernel_rfl) (by kernel_rfl) (by kernel_rfl) .releaseMerge (by kernel_rfl) h
theorem XaZ {b n o:Nat} {g:Nat→Value} {x y:Int} {w:World} (hB:Blk w b n g) (ho:o<n) (hv:g o=.int .i32 x) {K:VWP} (h:∀ w',Fr [b] w w'→Blk w' b n (upd g o (.int .i32 (IntKind.i32.wrap (x+y))))→w'.heap.size=w.heap.size→K (.int .i32 (IntKind.i32.wrap (x+y))) w'):Xa Tryz.prog XaV #[.pointer (some ⟨b,o,none⟩),.int .i32 y] w K:=XwV Tryz.func235 (by kernel_rfl) (by kernel_rfl) (by kernel_rfl) .i32 (by kernel_rfl) hB ho hv h
end Go.Sh
end

section
namespace Go.Sh
open Go Go.Fw Go.Proofs
set_option maxRecDepth 100000
set_option linter.unusedVariables false
def Qo (a:Option Addr) (w:World) (Q:VWP):Prop:=
 Xa Tryz.prog 229 #[] w fun j k=>
 j=.tuple #[]∧
 ∃ b,a=some b∧
 Xa Tryz.prog 230 #[.pointer (some (b.add 0)),.int .i32 0,.int .i32 1] k fun l c=>
 ∃ d,l=.bool d∧
 cond d
 (Xa Tryz.prog 231 #[] c fun m n=>
 m=.tuple #[]∧
 ∃ e f,Ef Tryz.prog (convert 312 316 (.pointer a)) n (e) f∧
 Xa Tryz.prog 232 #[e] f fun g o=>
 g=.tuple #[]∧
 Q (.tuple #[]) o)
 (Xa Tryz.prog 233 #[.pointer a] c fun i p=>
 i=.tuple #[]∧
 Q (.tuple #[]) p)
def V0:Nat→List (Nat×TypeId):=fun _=>[]
theorem Vo (a:Option Addr) (w:World) (Q:VWP) (h:Qo a w Q):Xa Tryz.prog 224 #[.pointer a] w Q:=
 Xc V0 Tryz.func224 h (fun _ _=>by kernel_rfl) (by kernel_rfl) (by kernel_rfl) (by kernel_rfl)
def Vp (d:Option Addr) (w:World) (Q:VWP):Prop:=
 ∃ c,d=some c∧
 Xa Tryz.prog 235 #[.pointer (some (c.add 0)),.int .i32 (-1)] w fun e f=>
 ∃ a,e=.int .i32 a∧
 cond (a != 0)
 (Xa Tryz.prog 236 #[.pointer d,.int .i32 a] f fun g j=>
 g=.tuple #[]∧
 Xa Tryz.prog 231 #[] j fun i k=>
 i=.tuple #[]∧
 Q (.tuple #[]) k)
 (Xa Tryz.prog 231 #[] f fun b l=>
 b=.tuple #[]∧
 Q (.tuple #[]) l)
def Wr (a:Option Addr) (w:World) (Q:VWP):Prop:=
 ∃ b,a=some b∧
 ∃ f,Ld Tryz.prog 21 (.pointer (some (b.add 0))) w (.int .i32 f)∧
 ∃ c d,Ef Tryz.prog (convert 312 316 (.pointer a)) w (c) d∧
 Xa Tryz.prog 234 #[c] d fun g i=>
 g=.tuple #[]∧
 Xa Tryz.prog 229 #[] i fun e j=>
 e=.tuple #[]∧
 Vp a j Q
def Vq:Nat→List (Nat×TypeId):=fun _=>[]
theorem UV (a:Option Addr) (w:World) (Q:VWP) (h:Wr a w Q):Xa Tryz.prog 225 #[.pointer a] w Q:=
 Xc Vq Tryz.func225 h (fun _ _=>by kernel_rfl) (by kernel_rfl) (by kernel_rfl) (by kernel_rfl)
end Go.Sh
end

section
namespace Go.Sh
open Go Go.Fw Go.Proofs
set_option maxRecDepth 100000
set_option linter.unusedVariables false
def Xqa (a:Option Addr) (f:Value) (w:World) (Q:VWP):Prop:=
 ∃ b,a=some b∧
 Xa Tryz.prog 209 #[.pointer (some (b.add 0))] w fun g c=>
 ∃ d,g=.bool d∧
 cond (!d)
 (Xa Tryz.prog 210 #[.pointer a,f] c fun e i=>
 e=.tuple #[]∧
 Q (.tuple #[]) i)
 (Q (.tuple #[]) c)
def XjT:Nat→List (Nat×TypeId):=fun _=>[]
theorem WD (a:Option Addr) (b:Value) (w:World) (Q:VWP) (h:Xqa a b w Q):Xa Tryz.prog 197 #[.pointer a,b] w Q:=
 Xc XjT Tryz.func197 h (fun _ _=>by kernel_rfl) (by kernel_rfl) (by kernel_rfl) (by kernel_rfl)
def XiG (a:Option Addr) (k:Value) (w:World) (Q:VWP):Prop:=
 ∃ f,a=some f∧
 Xa Tryz.prog 217 #[.pointer (some (f.add 1))] w fun l m=>
 l=.tuple #[]∧
 ∃ e,a=some e∧
 ∃ b,a=some b∧
 Xa Tryz.prog 209 #[.pointer (some (b.add 0))] m fun g i=>
 ∃ c,g=.bool c∧
 cond (!c)
 (∃ d,a=some d∧
 YA Tryz.prog (k) [] i fun j n=>
 j=.tuple #[]∧
 Xbw Tryz.prog 219 #[.pointer (some (d.add 0)),.bool true] n fun o=>
 Xbw Tryz.prog 218 #[.pointer (some (e.add 1))] o fun p=>
 Q (.tuple #[]) p)
 (Xbw Tryz.prog 218 #[.pointer (some (e.add 1))] i fun q=>
 Q (.tuple #[]) q)
def Xep:Nat→List (Nat×TypeId):=fun _=>[]
theorem XbG (a:Option Addr) (b:Value) (w:World) (Q:VWP) (h:XiG a b w Q):Xa Tryz.prog 210 #[.pointer a,b] w Q:=
 Xc Xep Tryz.func210 h (fun _ _=>by kernel_rfl) (by kernel_rfl) (by kernel_rfl) (by kernel_rfl)
def XjU (b:Option Addr) (w:World) (Q:VWP):Prop:=
 ∃ a,b=some a∧
 Xa Tryz.prog 224 #[.pointer (some (a.add 0))] w fun c d=>
 c=.tuple #[]∧
 Q (.tuple #[]) d
def Xfh:Nat→List (Nat×TypeId):=fun _=>[]
theorem XcG (a:Option Addr) (w:World) (Q:VWP) (h:XjU a w Q):Xa Tryz.prog 217 #[.pointer a] w Q:=
 Xc Xfh Tryz.func217 h (fun _ _=>by kernel_rfl) (by kernel_rfl) (by kernel_rfl) (by kernel_rfl)
def Uo (b:Option Addr) (w:World) (Q:VWP):Prop:=
 ∃ a,b=some a∧
 Xa Tryz.prog 225 #[.pointer (some (a.add 0))] w fun c d=>
 c=.tuple #[]∧
 Q (.tuple #[]) d
def Jn:Nat→List (Nat×TypeId):=fun _=>[]
theorem QZ (a:Option Addr) (w:World) (K:World→Prop) (h:Uo a w (fun _ w=>K w)):Xbw Tryz.prog 218 #[.pointer a] w K:=
 ⟨fun _ _=>by kernel_rfl,XhF Jn Tryz.func218 rfl (by kernel_rfl) (show sw Tryz.prog none 6 Jn _ 0 (Xpq Tryz.prog [] K) ⟨Vv [.pointer a],[]⟩ w from
 Eq.mp (by kernel_rfl:Uo a w (fun _ w=>K w)=sw Tryz.prog none 6 Jn (Tryz.f218.body.getD .skip) 0 (Xpq Tryz.prog [] K) ⟨Vv [.pointer a],[]⟩ w) h)⟩
end Go.Sh
end

section
namespace Go.Sh
open Go Go.Fw Go.Proofs
set_option maxRecDepth 100000
set_option linter.unusedVariables false
def XbH (c:Option Addr) (d:Int) (w:World) (Q:VWP):Prop:=
 ∃ a,c=some a∧
 Xa Tryz.prog 74 #[.pointer (some (a.add 0)),.int .i64 d] w fun e f=>
 ∃ b,e=.int .i64 b∧
 Q (.int .i64 b) f
def Qp:Nat→List (Nat×TypeId):=fun _=>[]
theorem Ws (a:Option Addr) (b:Int) (w:World) (Q:VWP) (h:XbH a b w Q):Xa Tryz.prog 41 #[.pointer a,.int .i64 b] w Q:=
 Xc Qp Tryz.func41 h (fun _ _=>by kernel_rfl) (by kernel_rfl) (by kernel_rfl) (by kernel_rfl)
def Xa0 (c:Option Addr) (w:World) (Q:VWP):Prop:=
 ∃ a,c=some a∧
 Xa Tryz.prog 98 #[.pointer (some (a.add 0))] w fun d e=>
 ∃ b,d=.int .i64 b∧
 Q (.int .i64 b) e
def W3:Nat→List (Nat×TypeId):=fun _=>[]
theorem V1 (a:Option Addr) (w:World) (Q:VWP) (h:Xa0 a w Q):Xa Tryz.prog 58 #[.pointer a] w Q:=
 Xc W3 Tryz.func58 h (fun _ _=>by kernel_rfl) (by kernel_rfl) (by kernel_rfl) (by kernel_rfl)
def XbI (c:Option Addr) (w:World) (Q:VWP):Prop:=
 ∃ a,c=some a∧
 Xa Tryz.prog 216 #[.pointer (some (a.add 0))] w fun d e=>
 ∃ b,d=.int .u32 b∧
 Q (.bool (b != 0)) e
def Qq:Nat→List (Nat×TypeId):=fun _=>[]
theorem Wt (a:Option Addr) (w:World) (Q:VWP) (h:XbI a w Q):Xa Tryz.prog 209 #[.pointer a] w Q:=
 Xc Qq Tryz.func209 h (fun _ _=>by kernel_rfl) (by kernel_rfl) (by kernel_rfl) (by kernel_rfl)
def ZZ (c:Option Addr) (d:Bool) (w:World) (Q:VWP):Prop:=
 Drw w fun e=>
 ∃ a,c=some a∧
 Xa Tryz.prog 227 #[.bool d] e fun f g=>
 ∃ b,f=.int .u32 b∧
 Xa Tryz.prog 226 #[.pointer (some (a.add 0)),.int .u32 b] g fun i j=>
 i=.tuple #[]∧
 Q (.tuple #[]) j
def Y8:Nat→List (Nat×TypeId):=fun _=>[]
theorem VF (a:Option Addr) (b:Bool) (w:World) (K:World→Prop) (h:ZZ a b w (fun _ w=>K w)):Xbw Tryz.prog 219 #[.pointer a,.bool b] w K:=
 ⟨fun _ _=>by kernel_rfl,XhF Y8 Tryz.func219 rfl (by kernel_rfl) (show sw Tryz.prog none 10 Y8 _ 0 (Xpq Tryz.prog [] K) ⟨Vv [.pointer a,.bool b],[]⟩ w from
 Eq.mp (by kernel_rfl:ZZ a b w (fun _ w=>K w)=sw Tryz.prog none 10 Y8 (Tryz.f219.body.getD .skip) 0 (Xpq Tryz.prog [] K) ⟨Vv [.pointer a,.bool b],[]⟩ w) h)⟩
def XjV (a:Bool) (w:World) (Q:VWP):Prop:=
 cond a
 (Q (.int .u32 1) w)
 (Q (.int .u32 0) w)
def Xfi:Nat→List (Nat×TypeId):=fun _=>[]
theorem XcH (a:Bool) (w:World) (Q:VWP) (h:XjV a w Q):Xa Tryz.prog 227 #[.bool a] w Q:=
 Xc Xfi Tryz.func227 h (fun _ _=>by kernel_rfl) (by kernel_rfl) (by kernel_rfl) (by kernel_rfl)
end Go.Sh
end

section
namespace Go.Sh
open Go Go.Fw Go.Proofs
set_option maxRecDepth 100000
set_option linter.unusedVariables false
def Xa1 (a:Option Addr) (b:Nat) (c:Nat) (w:World) (Q:VWP):Prop:=
 ∃ e d,Ef Tryz.prog (do eqGuard .eql 22 (.tmp 3) (.const (.slice none 0 0)) (.slice a b c) (.slice none 0 0); binOp .eql 22 (.slice a b c) (.slice none 0 0):Sem Value) w (.bool e) d∧
 cond e
 (Q (.slice none 0 0) d)
 (∃ f g i j,Ef Tryz.prog (Instr.buildSlice 22 0 #[]) d (.slice f g i) j∧
 ∃ k l m n,Ef Tryz.prog (Builtin.append_ #[22,22] 22 #[.slice f g i,.slice a b c]) j (.slice k l m) n∧
 Q (.slice k l m) n)
def W4:Nat→List (Nat×TypeId):=fun _=>[]
theorem V2 (a:Option Addr) (b:Nat) (c:Nat) (w:World) (Q:VWP) (h:Xa1 a b c w Q):Xa Tryz.prog 60 #[.slice a b c] w Q:=
 Xc W4 Tryz.func60 h (fun _ _=>by kernel_rfl) (by kernel_rfl) (by kernel_rfl) (by kernel_rfl)
def Y6 (a:Option Addr) (b:Nat) (c:Nat) (w:World) (Q:VWP):Prop:=
 ∃ e d,Ef Tryz.prog (do eqGuard .eql 138 (.tmp 3) (.const (.slice none 0 0)) (.slice a b c) (.slice none 0 0); binOp .eql 138 (.slice a b c) (.slice none 0 0):Sem Value) w (.bool e) d∧
 cond e
 (Q (.slice none 0 0) d)
 (∃ f g i j,Ef Tryz.prog (Instr.buildSlice 138 0 #[]) d (.slice f g i) j∧
 ∃ k l m n,Ef Tryz.prog (Builtin.append_ #[138,138] 138 #[.slice f g i,.slice a b c]) j (.slice k l m) n∧
 Q (.slice k l m) n)
def JN:Nat→List (Nat×TypeId):=fun _=>[]
theorem Jv (a:Option Addr) (b:Nat) (c:Nat) (w:World) (Q:VWP) (h:Y6 a b c w Q):Xa Tryz.prog 105 #[.slice a b c] w Q:=
 Xc JN Tryz.func105 h (fun _ _=>by kernel_rfl) (by kernel_rfl) (by kernel_rfl) (by kernel_rfl)
def YD (u:Option Addr) (q:Nat) (v:Nat) (x:Value) (w:World) (Q:VWP):Prop:=
 LoopS [.slice u q v,x,.int .i64 0,.int .i64 ((q:Nat):Int),.int .i64 0] w fun y z i _ e=>
 ∃ a b c d r p g,i=[.slice a b c,d,.int .i64 r,.int .i64 p,.int .i64 g]∧
 cond (decide (g<p))
 (∃ j,IxA Tryz.prog 138 (.slice a b c) (.int .i64 g) j∧
 ∃ k l f m n,Ld Tryz.prog 133 (.pointer (some j)) e (.agg #[.pointer k,.int .i64 l,.slice f m n])∧
 YA Tryz.prog (d) [.agg #[.pointer k,.int .i64 l,.slice f m n]] e fun s t=>
 ∃ o,s=.bool o∧
 cond o
 (Q (.int .i64 g) t)
 (Xh [] [] y z i [.slice a b c,d,.int .i64 r,.int .i64 p,.int .i64 (IntKind.i64.wrap (g+1))] e t))
 (Q (.int .i64 (-1)) e)
def Ji:Nat→List (Nat×TypeId):=fun n=>match n with | 0=>[(0,138),(1,193),(4,3),(7,3),(8,3)] | _=>[]
theorem Z6 (a:Option Addr) (b:Nat) (c:Nat) (d:Value) (w:World) (Q:VWP) (h:YD a b c d w Q):Xa Tryz.prog 109 #[.slice a b c,d] w Q:=
 Xc Ji Tryz.func109 h (fun _ _=>by kernel_rfl) (by kernel_rfl) (by kernel_rfl) (by kernel_rfl)
def YX (e:Option Addr) (b:Nat) (f:Nat) (q:Int) (r:Int) (w:World) (Q:VWP):Prop:=
 ∃ s t u,Pu Tryz.prog (Instr.sliceAt 138 (.slice e b f) (some (.int .i64 q)) (some (.int .i64 r)) (some (.int .i64 ((b:Nat):Int)))) (.slice s t u)∧
 cond (q == r)
 (Q (.slice e b f) w)
 (Drw w fun y=>
 ∃ g i j,Pu Tryz.prog (Instr.sliceAt 138 (.slice e b f) none (some (.int .i64 q)) none) (.slice g i j)∧
 ∃ k l m,Pu Tryz.prog (Instr.sliceAt 138 (.slice e b f) (some (.int .i64 r)) none none) (.slice k l m)∧
 ∃ c a d v,Ef Tryz.prog (Builtin.append_ #[138,138] 138 #[.slice g i j,.slice k l m]) y (.slice c a d) v∧
 ∃ n o p,Pu Tryz.prog (Instr.sliceAt 138 (.slice c a d) (some (.int .i64 ((a:Nat):Int))) (some (.int .i64 ((b:Nat):Int))) none) (.slice n o p)∧
 ∃ x,Ef Tryz.prog (Builtin.clear_ #[138] 0 #[.slice n o p]) v (.tuple #[]) x∧
 Q (.slice c a d) x)
def JC:Nat→List (Nat×TypeId):=fun _=>[]
theorem Jo (a:Option Addr) (b:Nat) (c:Nat) (d:Int) (e:Int) (w:World) (Q:VWP) (h:YX a b c d e w Q):Xa Tryz.prog 129 #[.slice a b c,.int .i64 d,.int .i64 e] w Q:=
 Xc JC Tryz.func129 h (fun _ _=>by kernel_rfl) (by kernel_rfl) (by kernel_rfl) (by kernel_rfl)
def Z5 (b:Option Addr) (c:Nat) (d:Nat) (e:Value) (w:World) (Q:VWP):Prop:=
 Xa Tryz.prog 177 #[.slice b c d,e] w fun f g=>
 ∃ a,f=.int .i64 a∧
 Q (.bool (decide (a≥0))) g
def UK:Nat→List (Nat×TypeId):=fun _=>[]
theorem Up (a:Option Addr) (b:Nat) (c:Nat) (d:Value) (w:World) (Q:VWP) (h:Z5 a b c d w Q):Xa Tryz.prog 151 #[.slice a b c,d] w Q:=
 Xc UK Tryz.func151 h (fun _ _=>by kernel_rfl) (by kernel_rfl) (by kernel_rfl) (by kernel_rfl)
def Jw (C:Option Addr) (z:Nat) (D:Nat) (E:Option Addr) (F:Nat) (G:Nat) (H:Int) (w:World) (Q:VWP):Prop:=
 Xa Tryz.prog 185 #[.slice none 0 0,.int .i64 H] w fun A I=>
 ∃ k l m,A=.slice k l m∧
 LoopS [.slice E F G,.slice k l m,.slice C z D,.int .i64 ((z:Nat):Int),.int .i64 0] I fun J L n _ a=>
 ∃ c d e v x y f g i j b,n=[.slice c d e,.slice v x y,.slice f g i,.int .i64 j,.int .i64 b]∧
 cond (decide (b<j))
 (∃ o,IxA Tryz.prog 161 (.slice f g i) (.int .i64 b) o∧
 ∃ p q r,Ld Tryz.prog 22 (.pointer (some o)) a (.slice p q r)∧
 ∃ s t u B,Ef Tryz.prog (Builtin.append_ #[22,22] 22 #[.slice v x y,.slice p q r]) a (.slice s t u) B∧
 Xh [] [] J L n [.slice c d e,.slice s t u,.slice f g i,.int .i64 j,.int .i64 (IntKind.i64.wrap (b+1))] a B)
 (Q (.slice v x y) a)
def Uj (s:Option Addr) (l:Nat) (t:Nat) (w:World) (Q:VWP):Prop:=
 LoopS [.slice s l t,.slice none 0 0,.int .i64 0,.slice s l t,.int .i64 ((l:Nat):Int),.int .i64 0] w fun y z j _ a=>
 ∃ b c d m n o i p q r f e,j=[.slice b c d,.slice m n o,.int .i64 i,.slice p q r,.int .i64 f,.int .i64 e]∧
 cond (decide (e<f))
 (∃ k,IxA Tryz.prog 161 (.slice p q r) (.int .i64 e) k∧
 ∃ u g v,Ld Tryz.prog 22 (.pointer (some k)) a (.slice u g v)∧
 cond (decide ((IntKind.i64.wrap (i+((g:Nat):Int)))<0))
 (∃ x A,Ef Tryz.prog (Instr.makeInterface 9 (.string (⟨#[108,101,110,32,111,117,116,32,111,102,32,114,97,110,103,101]⟩:ByteArray))) a (x) A∧
 False)
 (Xh [] [] y z j [.slice b c d,.slice m n o,.int .i64 (IntKind.i64.wrap (i+((g:Nat):Int))),.slice p q r,.int .i64 f,.int .i64 (IntKind.i64.wrap (e+1))] a a))
 (Jw b c d m n o i a Q)
def Wu:Nat→List (Nat×TypeId):=fun n=>match n with | 0=>[(0,161),(2,22),(3,3),(9,161),(10,3),(11,3)] | 2=>[(2,22),(6,22),(25,161),(26,3),(27,3)] | _=>[]
theorem VG (a:Option Addr) (b:Nat) (c:Nat) (w:World) (Q:VWP) (h:Uj a b c w Q):Xa Tryz.prog 157 #[.slice a b c] w Q:=
 Xc Wu Tryz.func157 h (fun _ _=>by kernel_rfl) (by kernel_rfl) (by kernel_rfl) (by kernel_rfl)
def Jx (s:Option Addr) (o:Nat) (t:Nat) (u:Value) (w:World) (Q:VWP):Prop:=
 LoopS [.slice s o t,u,.int .i64 0,.int .i64 ((o:Nat):Int),.int .i64 0] w fun v x g _ e=>
 ∃ a b c d p n f,g=[.slice a b c,d,.int .i64 p,.int .i64 n,.int .i64 f]∧
 cond (decide (f<n))
 (∃ i,IxA Tryz.prog 161 (.slice a b c) (.int .i64 f) i∧
 ∃ j k l,Ld Tryz.prog 22 (.pointer (some i)) e (.slice j k l)∧
 YA Tryz.prog (d) [.slice j k l] e fun q r=>
 ∃ m,q=.bool m∧
 cond m
 (Q (.int .i64 f) r)
 (Xh [] [] v x g [.slice a b c,d,.int .i64 p,.int .i64 n,.int .i64 (IntKind.i64.wrap (f+1))] e r))
 (Q (.int .i64 (-1)) e)
def Vr:Nat→List (Nat×TypeId):=fun n=>match n with | 0=>[(0,161),(1,155),(4,3),(7,3),(8,3)] | _=>[]
theorem UW (a:Option Addr) (b:Nat) (c:Nat) (d:Value) (w:World) (Q:VWP) (h:Jx a b c d w Q):Xa Tryz.prog 177 #[.slice a b c,d] w Q:=
 Xc Vr Tryz.func177 h (fun _ _=>by kernel_rfl) (by kernel_rfl) (by kernel_rfl) (by kernel_rfl)
def YP (C:Option Addr) (z:Nat) (D:Nat) (E:Option Addr) (F:Nat) (G:Nat) (H:Int) (w:World) (Q:VWP):Prop:=
 Xa Tryz.prog 199 #[.slice none 0 0,.int .i64 H] w fun A I=>
 ∃ k l m,A=.slice k l m∧
 LoopS [.slice E F G,.slice k l m,.slice C z D,.int .i64 ((z:Nat):Int),.int .i64 0] I fun J L n _ a=>
 ∃ c d e v x y f g i j b,n=[.slice c d e,.slice v x y,.slice f g i,.int .i64 j,.int .i64 b]∧
 cond (decide (b<j))
 (∃ o,IxA Tryz.prog 293 (.slice f g i) (.int .i64 b) o∧
 ∃ p q r,Ld Tryz.prog 278 (.pointer (some o)) a (.slice p q r)∧
 ∃ s t u B,Ef Tryz.prog (Builtin.append_ #[278,278] 278 #[.slice v x y,.slice p q r]) a (.slice s t u) B∧
 Xh [] [] J L n [.slice c d e,.slice s t u,.slice f g i,.int .i64 j,.int .i64 (IntKind.i64.wrap (b+1))] a B)
 (Q (.slice v x y) a)
def Zi (s:Option Addr) (l:Nat) (t:Nat) (w:World) (Q:VWP):Prop:=
 LoopS [.slice s l t,.slice none 0 0,.int .i64 0,.slice s l t,.int .i64 ((l:Nat):Int),.int .i64 0] w fun y z j _ a=>
 ∃ b c d m n o i p q r f e,j=[.slice b c d,.slice m n o,.int .i64 i,.slice p q r,.int .i64 f,.int .i64 e]∧
 cond (decide (e<f))
 (∃ k,IxA Tryz.prog 293 (.slice p q r) (.int .i64 e) k∧
 ∃ u g v,Ld Tryz.prog 278 (.pointer (some k)) a (.slice u g v)∧
 cond (decide ((IntKind.i64.wrap (i+((g:Nat):Int)))<0))
 (∃ x A,Ef Tryz.prog (Instr.makeInterface 9 (.string (⟨#[108,101,110,32,111,117,116,32,111,102,32,114,97,110,103,101]⟩:ByteArray))) a (x) A∧
 False)
 (Xh [] [] y z j [.slice b c d,.slice m n o,.int .i64 (IntKind.i64.wrap (i+((g:Nat):Int))),.slice p q r,.int .i64 f,.int .i64 (IntKind.i64.wrap (e+1))] a a))
 (YP b c d m n o i a Q)
def JU:Nat→List (Nat×TypeId):=fun n=>match n with | 0=>[(0,293),(2,278),(3,3),(9,293),(10,3),(11,3)] | 2=>[(2,278),(6,278),(25,293),(26,3),(27,3)] | _=>[]
theorem JD (a:Option Addr) (b:Nat) (c:Nat) (w:World) (Q:VWP) (h:Zi a b c w Q):Xa Tryz.prog 178 #[.slice a b c] w Q:=
 Xc JU Tryz.func178 h (fun _ _=>by kernel_rfl) (by kernel_rfl) (by kernel_rfl) (by kernel_rfl)
def JV (c:Option Addr) (a:Nat) (d:Nat) (p:Int) (r:Option Addr) (s:Nat) (t:Nat) (w:World) (Q:VWP):Prop:=
 ∃ b,Pu Tryz.prog (Builtin.cap_ #[22] 3 #[.slice c a d]) (.int .i64 b)∧
 cond (decide ((IntKind.i64.wrap (p - (IntKind.i64.wrap (b - ((a:Nat):Int))))) > 0))
 (∃ e,Pu Tryz.prog (Builtin.cap_ #[22] 3 #[.slice c a d]) (.int .i64 e)∧
 ∃ f g i,Pu Tryz.prog (Instr.sliceAt 22 (.slice c a d) none (some (.int .i64 e)) none) (.slice f g i)∧
 ∃ j k l q,Ef Tryz.prog (Builtin.append_ #[22,3] 22 #[.slice f g i,.int .i64 (IntKind.i64.wrap (p - (IntKind.i64.wrap (b - ((a:Nat):Int)))))]) w (.slice j k l) q∧
 ∃ m n o,Pu Tryz.prog (Instr.sliceAt 22 (.slice j k l) none (some (.int .i64 ((a:Nat):Int))) none) (.slice m n o)∧
 Q (.slice m n o) q)
 (Q (.slice c a d) w)
def UR (b:Option Addr) (c:Nat) (d:Nat) (a:Int) (w:World) (Q:VWP):Prop:=
 cond (decide (a<0))
 (∃ e f,Ef Tryz.prog (Instr.makeInterface 9 (.string (⟨#[99,97,110,110,111,116,32,98,101,32,110,101,103,97,116,105,118,101]⟩:ByteArray))) w (e) f∧
 False)
 (JV b c d a none 0 0 w Q)
def Qr:Nat→List (Nat×TypeId):=fun _=>[]
theorem Wv (a:Option Addr) (b:Nat) (c:Nat) (d:Int) (w:World) (Q:VWP) (h:UR a b c d w Q):Xa Tryz.prog 185 #[.slice a b c,.int .i64 d] w Q:=
 Xc Qr Tryz.func185 h (fun _ _=>by kernel_rfl) (by kernel_rfl) (by kernel_rfl) (by kernel_rfl)
def Y7 (c:Option Addr) (a:Nat) (d:Nat) (p:Int) (r:Option Addr) (s:Nat) (t:Nat) (w:World) (Q:VWP):Prop:=
 ∃ b,Pu Tryz.prog (Builtin.cap_ #[278] 3 #[.slice c a d]) (.int .i64 b)∧
 cond (decide ((IntKind.i64.wrap (p - (IntKind.i64.wrap (b - ((a:Nat):Int))))) > 0))
 (∃ e,Pu Tryz.prog (Builtin.cap_ #[278] 3 #[.slice c a d]) (.int .i64 e)∧
 ∃ f g i,Pu Tryz.prog (Instr.sliceAt 278 (.slice c a d) none (some (.int .i64 e)) none) (.slice f g i)∧
 ∃ j k l q,Ef Tryz.prog (Builtin.append_ #[278,3] 278 #[.slice f g i,.int .i64 (IntKind.i64.wrap (p - (IntKind.i64.wrap (b - ((a:Nat):Int)))))]) w (.slice j k l) q∧
 ∃ m n o,Pu Tryz.prog (Instr.sliceAt 278 (.slice j k l) none (some (.int .i64 ((a:Nat):Int))) none) (.slice m n o)∧
 Q (.slice m n o) q)
 (Q (.slice c a d) w)
def ZB (b:Option Addr) (c:Nat) (d:Nat) (a:Int) (w:World) (Q:VWP):Prop:=
 cond (decide (a<0))
 (∃ e f,Ef Tryz.prog (Instr.makeInterface 9 (.string (⟨#[99,97,110,110,111,116,32,98,101,32,110,101,103,97,116,105,118,101]⟩:ByteArray))) w (e) f∧
 False)
 (Y7 b c d a none 0 0 w Q)
def Uq:Nat→List (Nat×TypeId):=fun _=>[]
theorem JW (a:Option Addr) (b:Nat) (c:Nat) (d:Int) (w:World) (Q:VWP) (h:ZB a b c d w Q):Xa Tryz.prog 199 #[.slice a b c,.int .i64 d] w Q:=
 Xc Uq Tryz.func199 h (fun _ _=>by kernel_rfl) (by kernel_rfl) (by kernel_rfl) (by kernel_rfl)
def UB (d:Option Addr) (e:Nat) (f:Nat) (g:Int) (w:World) (Q:VWP):Prop:=
 New #[.slice d e f] 22 w fun i j=>
 New #[.int .i64 g] 3 j fun b a=>
 ∃ c,Ld Tryz.prog 3 (.pointer (some ⟨b,0,none⟩)) a (.int .i64 c)∧
 cond (decide (c<1))
 (∃ k l,Ef Tryz.prog (Instr.makeInterface 9 (.string (⟨#[99,97,110,110,111,116,32,98,101,32,108,101,115,115,32,116,104,97,110,32,49]⟩:ByteArray))) a (k) l∧
 False)
 (Q (.func (.func 212) #[] #[.pointer (some ⟨i,0,none⟩),.pointer (some ⟨b,0,none⟩)]) a)
def W5:Nat→List (Nat×TypeId):=fun _=>[]
theorem V3 (a:Option Addr) (b:Nat) (c:Nat) (d:Int) (w:World) (Q:VWP) (h:UB a b c d w Q):Xa Tryz.prog 200 #[.slice a b c,.int .i64 d] w Q:=
 Xc W5 Tryz.func200 h (fun _ _=>by kernel_rfl) (by kernel_rfl) (by kernel_rfl) (by kernel_rfl)
def JI (D:Value) (E:Option Addr) (F:Option Addr) (w:World) (Q:VWP):Prop:=
 LoopS [D,.pointer E,.pointer F,.int .i64 0] w fun G H i _ f=>
 ∃ c a b d,i=[c,.pointer a,.pointer b,.int .i64 d]∧
 ∃ I y J,Ld Tryz.prog 22 (.pointer a) f (.slice I y J)∧
 cond (decide (d<((y:Nat):Int)))
 (∃ (z:World→Prop),
 Drw f fun e=>
 ∃ j,HLd Tryz.prog z 3 (.pointer b) e (.int .i64 j)∧
 ∃ k l m,Ld Tryz.prog 22 (.pointer a) e (.slice k l m)∧
 (e=e∨z e)∧
 ∃ A n B,Pu Tryz.prog (Instr.sliceAt 22 (.slice k l m) (some (.int .i64 d)) none none) (.slice A n B)∧
 ∃ g,Pu Tryz.prog (Builtin.min_ #[3,3] 3 #[.int .i64 j,.int .i64 ((n:Nat):Int)]) (.int .i64 g)∧
 ∃ o p q,Ld Tryz.prog 22 (.pointer a) e (.slice o p q)∧
 ∃ r s t,Pu Tryz.prog (Instr.sliceAt 22 (.slice o p q) (some (.int .i64 d)) (some (.int .i64 (IntKind.i64.wrap (d+g)))) (some (.int .i64 (IntKind.i64.wrap (d+g))))) (.slice r s t)∧
 YA Tryz.prog (c) [.slice r s t] e fun C x=>
 ∃ u,C=.bool u∧
 cond (!u)
 (Q (.tuple #[]) x)
 (∃ v,Ld Tryz.prog 3 (.pointer b) x (.int .i64 v)∧
 Xh [] [] G H i [c,.pointer a,.pointer b,.int .i64 (IntKind.i64.wrap (d+v))] f x))
 (Q (.tuple #[]) f)
def VH:Nat→List (Nat×TypeId):=fun n=>match n with | 0=>[(0,155),(1,15),(2,15),(4,3)] | _=>[]
theorem U3 (a:Value) (b:Option Addr) (c:Option Addr) (w:World) (Q:VWP) (h:JI a b c w Q):Xa Tryz.prog 212 #[a,.pointer b,.pointer c] w Q:=
 Xc VH Tryz.func212 h (fun _ _=>by kernel_rfl) (by kernel_rfl) (by kernel_rfl) (by kernel_rfl)
end Go.Sh
end

section
namespace Go.Sh
open Go Go.Fw Go.Proofs
set_option maxRecDepth 100000
set_option linter.unusedVariables false
def Xfj (l:Int) (m:Int) (w:World) (Q:VWP):Prop:=
 LoopS [.int .u8 l,.int .i64 m,.int .i64 14] w fun j k e _ b=>
 ∃ d a c,e=[.int .u8 d,.int .i64 a,.int .i64 c]∧
 cond (decide (c≥8))
 (∃ f,Pu Tryz.prog (do eqGuard .shl 3 (.const (.int .i64 1)) (.tmp 34) (.int .i64 1) (.int .u64 (IntKind.u64.wrap c)); binOp .shl 3 (.int .i64 1) (.int .u64 (IntKind.u64.wrap c)):Sem Value) (.int .i64 f)∧
 ∃ g,Pu Tryz.prog (do eqGuard .quo 3 (.tmp 32) (.tmp 35) (.int .i64 a) (.int .i64 f); binOp .quo 3 (.int .i64 a) (.int .i64 f):Sem Value) (.int .i64 g)∧
 cond ((Int.tmod g 2) == 1)
 (∃ i,Pu Tryz.prog (do eqGuard .shl 3 (.const (.int .i64 1)) (.tmp 42) (.int .i64 1) (.int .u64 (IntKind.u64.wrap (IntKind.i64.wrap (c - 8)))); binOp .shl 3 (.int .i64 1) (.int .u64 (IntKind.u64.wrap (IntKind.i64.wrap (c - 8)))):Sem Value) (.int .i64 i)∧
 Xh [] [] j k e [.int .u8 d,.int .i64 (YG .i64 a (IntKind.i64.wrap (283*i))),.int .i64 (IntKind.i64.wrap (c - 1))] b b)
 (Xh [] [] j k e [.int .u8 d,.int .i64 a,.int .i64 (IntKind.i64.wrap (c - 1))] b b))
 (Q (.int .u8 (IntKind.u8.wrap a)) b)
def XmX (n:Int) (o:Int) (w:World) (Q:VWP):Prop:=
 LoopS [.int .u8 n,.int .u8 o,.int .u8 0,.int .i64 0,.int .i64 0] w fun l m e _ c=>
 ∃ b a g i d,e=[.int .u8 b,.int .u8 a,.int .u8 g,.int .i64 i,.int .i64 d]∧
 cond (decide (d<8))
 (∃ f,Pu Tryz.prog (do eqGuard .shl 3 (.const (.int .i64 1)) (.tmp 15) (.int .i64 1) (.int .u64 (IntKind.u64.wrap d)); binOp .shl 3 (.int .i64 1) (.int .u64 (IntKind.u64.wrap d)):Sem Value) (.int .i64 f)∧
 ∃ j,Pu Tryz.prog (do eqGuard .quo 3 (.tmp 13) (.tmp 16) (.int .i64 (IntKind.i64.wrap a)) (.int .i64 f); binOp .quo 3 (.int .i64 (IntKind.i64.wrap a)) (.int .i64 f):Sem Value) (.int .i64 j)∧
 cond ((Int.tmod j 2) == 1)
 (∃ k,Pu Tryz.prog (do eqGuard .shl 3 (.const (.int .i64 1)) (.tmp 24) (.int .i64 1) (.int .u64 (IntKind.u64.wrap d)); binOp .shl 3 (.int .i64 1) (.int .u64 (IntKind.u64.wrap d)):Sem Value) (.int .i64 k)∧
 Xh [] [] l m e [.int .u8 b,.int .u8 a,.int .u8 g,.int .i64 (YG .i64 i (IntKind.i64.wrap ((IntKind.i64.wrap b)*k))),.int .i64 (IntKind.i64.wrap (d+1))] c c)
 (Xh [] [] l m e [.int .u8 b,.int .u8 a,.int .u8 g,.int .i64 i,.int .i64 (IntKind.i64.wrap (d+1))] c c))
 (Xfj g i c Q)
def Xqb:Nat→List (Nat×TypeId):=fun n=>match n with | 0=>[(0,5),(1,5),(4,5),(5,3),(6,3)] | 2=>[(4,5),(5,3),(7,3)] | _=>[]
theorem XlX (a:Int) (b:Int) (w:World) (Q:VWP) (h:XmX a b w Q):Xa Tryz.prog 170 #[.int .u8 a,.int .u8 b] w Q:=
 Xc Xqb Tryz.func170 h (fun _ _=>by kernel_rfl) (by kernel_rfl) (by kernel_rfl) (by kernel_rfl)
def XdM (e:Inv) (f:JQ) (c:List Value) (d:World) (g:Int) (i:Int) (j:Int) (b:Int) (k:Int) (w:World) (Q:VWP):Prop:=
 ∃ a,Pu Tryz.prog (do eqGuard .shl 3 (.const (.int .i64 1)) (.tmp 46) (.int .i64 1) (.int .u64 (IntKind.u64.wrap b)); binOp .shl 3 (.int .i64 1) (.int .u64 (IntKind.u64.wrap b)):Sem Value) (.int .i64 a)∧
 Xh [] [] e f c [.int .u8 g,.int .i64 i,.int .i64 (IntKind.i64.wrap (j+(IntKind.i64.wrap ((Int.tmod k 2)*a)))),.int .i64 (IntKind.i64.wrap (b+1))] d w
def XjW (v:Int) (w:World) (Q:VWP):Prop:=
 LoopS [.int .u8 0,.int .i64 (IntKind.i64.wrap v),.int .i64 0,.int .i64 0] w fun x y n _ f=>
 ∃ u m s c,n=[.int .u8 u,.int .i64 m,.int .i64 s,.int .i64 c]∧
 cond (decide (c<8))
 (∃ g,Pu Tryz.prog (do eqGuard .shl 3 (.const (.int .i64 1)) (.tmp 15) (.int .i64 1) (.int .u64 (IntKind.u64.wrap c)); binOp .shl 3 (.int .i64 1) (.int .u64 (IntKind.u64.wrap c)):Sem Value) (.int .i64 g)∧
 ∃ o,Pu Tryz.prog (do eqGuard .quo 3 (.const (.int .i64 99)) (.tmp 16) (.int .i64 99) (.int .i64 g); binOp .quo 3 (.int .i64 99) (.int .i64 g):Sem Value) (.int .i64 o)∧
 ∃ i,Pu Tryz.prog (do eqGuard .shl 3 (.const (.int .i64 1)) (.tmp 22) (.int .i64 1) (.int .u64 (IntKind.u64.wrap c)); binOp .shl 3 (.int .i64 1) (.int .u64 (IntKind.u64.wrap c)):Sem Value) (.int .i64 i)∧
 ∃ p,Pu Tryz.prog (do eqGuard .quo 3 (.tmp 20) (.tmp 23) (.int .i64 m) (.int .i64 i); binOp .quo 3 (.int .i64 m) (.int .i64 i):Sem Value) (.int .i64 p)∧
 LoopS [.int .u8 u,.int .i64 m,.int .i64 s,.int .i64 c,.int .i64 (IntKind.i64.wrap ((Int.tmod o 2)+(Int.tmod p 2))),.int .i64 4] f fun z A q _ j=>
 ∃ d a e b t k,q=[.int .u8 d,.int .i64 a,.int .i64 e,.int .i64 b,.int .i64 t,.int .i64 k]∧
 cond (decide (k<8))
 (∃ l,Pu Tryz.prog (do eqGuard .shl 3 (.const (.int .i64 1)) (.tmp 37) (.int .i64 1) (.int .u64 (IntKind.u64.wrap (Int.tmod (IntKind.i64.wrap (b+k)) 8))); binOp .shl 3 (.int .i64 1) (.int .u64 (IntKind.u64.wrap (Int.tmod (IntKind.i64.wrap (b+k)) 8))):Sem Value) (.int .i64 l)∧
 ∃ r,Pu Tryz.prog (do eqGuard .quo 3 (.tmp 32) (.tmp 38) (.int .i64 a) (.int .i64 l); binOp .quo 3 (.int .i64 a) (.int .i64 l):Sem Value) (.int .i64 r)∧
 Xh [] [] z A q [.int .u8 d,.int .i64 a,.int .i64 e,.int .i64 b,.int .i64 (IntKind.i64.wrap (t+(Int.tmod r 2))),.int .i64 (IntKind.i64.wrap (k+1))] j j)
 (XdM x y n f d a e b t j Q))
 (Q (.int .u8 (IntKind.u8.wrap s)) f)
def Xoa:Nat→List (Nat×TypeId):=fun n=>match n with | 0=>[(2,5),(3,3),(4,3),(5,3)] | 2=>[(2,5),(3,3),(4,3),(5,3),(6,3),(7,3)] | _=>[]
theorem XjX (a:Int) (w:World) (Q:VWP) (h:XjW a w Q):Xa Tryz.prog 171 #[.int .u8 a] w Q:=
 Xc Xoa Tryz.func171 h (fun _ _=>by kernel_rfl) (by kernel_rfl) (by kernel_rfl) (by kernel_rfl)
def XmY (i:Int) (j:Int) (w:World) (Q:VWP):Prop:=
 cond (j == 0)
 (Q (.int .u8 1) w)
 (cond (i == 0)
 (Q (.int .u8 0) w)
 (LoopS [.int .u8 i,.int .u64 j,.int .u8 0,.int .u8 1,.int .u64 0] w fun m n d _ c=>
 ∃ a b k f g,d=[.int .u8 a,.int .u64 b,.int .u8 k,.int .u8 f,.int .u64 g]∧
 cond (decide (g<(Int.tmod b 255)))
 (Xa Tryz.prog 170 #[.int .u8 f,.int .u8 a] c fun l o=>
 ∃ e,l=.int .u8 e∧
 Xh [] [] m n d [.int .u8 a,.int .u64 b,.int .u8 k,.int .u8 e,.int .u64 (IntKind.u64.wrap (g+1))] c o)
 (Q (.int .u8 f) c)))
def Xqc:Nat→List (Nat×TypeId):=fun n=>match n with | 0=>[(0,5),(1,28),(4,5),(5,5),(6,28)] | _=>[]
theorem XlY (a:Int) (b:Int) (w:World) (Q:VWP) (h:XmY a b w Q):Xa Tryz.prog 194 #[.int .u8 a,.int .u64 b] w Q:=
 Xc Xqc Tryz.func194 h (fun _ _=>by kernel_rfl) (by kernel_rfl) (by kernel_rfl) (by kernel_rfl)
end Go.Sh
end

section
namespace Go.Sh
open Go Go.Fw Go.Proofs
set_option maxRecDepth 100000
set_option linter.unusedVariables false
def Xad (j:Option Addr) (k:Nat) (l:Nat) (w:World) (Q:VWP):Prop:=
 ∃ a b c d,Ef Tryz.prog (Instr.buildSlice 22 0 #[]) w (.slice a b c) d∧
 ∃ e f g i,Ef Tryz.prog (Builtin.append_ #[22,22] 22 #[.slice a b c,.slice j k l]) d (.slice e f g) i∧
 Q (.slice e f g) i
def Xfk:Nat→List (Nat×TypeId):=fun _=>[]
theorem XcI (a:Option Addr) (b:Nat) (c:Nat) (w:World) (Q:VWP) (h:Xad a b c w Q):Xa Tryz.prog 19 #[.slice a b c] w Q:=
 Xc Xfk Tryz.func19 h (fun _ _=>by kernel_rfl) (by kernel_rfl) (by kernel_rfl) (by kernel_rfl)
def Xae (t:Option Addr) (p:Nat) (u:Nat) (v:Option Addr) (q:Nat) (x:Nat) (w:World) (Q:VWP):Prop:=
 cond (((p:Nat):Int) != ((q:Nat):Int))
 (Q (.bool false) w)
 (LoopS [.slice t p u,.slice v q x,.bool false,.int .i64 0] w fun y z k _ i=>
 ∃ b a c d e f r j,k=[.slice b a c,.slice d e f,.bool r,.int .i64 j]∧
 cond (decide (j<((a:Nat):Int)))
 (∃ (s:World→Prop),
 Drw i fun g=>
 ∃ l,IxA Tryz.prog 22 (.slice b a c) (.int .i64 j) l∧
 ∃ m,IxA Tryz.prog 22 (.slice d e f) (.int .i64 j) m∧
 ∃ n,HLd Tryz.prog s 5 (.pointer (some l)) g (.int .u8 n)∧
 ∃ o,Ld Tryz.prog 5 (.pointer (some m)) g (.int .u8 o)∧
 (g=g∨s g)∧
 cond (n != o)
 (Q (.bool false) g)
 (Xh [] [] y z k [.slice b a c,.slice d e f,.bool r,.int .i64 (IntKind.i64.wrap (j+1))] i g))
 (Q (.bool true) i))
def Xfl:Nat→List (Nat×TypeId):=fun n=>match n with | 0=>[(0,22),(1,22),(4,4),(5,3)] | _=>[]
theorem XcJ (a:Option Addr) (b:Nat) (c:Nat) (d:Option Addr) (e:Nat) (f:Nat) (w:World) (Q:VWP) (h:Xae a b c d e f w Q):Xa Tryz.prog 23 #[.slice a b c,.slice d e f] w Q:=
 Xc Xfl Tryz.func23 h (fun _ _=>by kernel_rfl) (by kernel_rfl) (by kernel_rfl) (by kernel_rfl)
def XbJ (t:Option Addr) (p:Nat) (u:Nat) (v:Option Addr) (q:Nat) (x:Nat) (w:World) (Q:VWP):Prop:=
 cond (((p:Nat):Int) != ((q:Nat):Int))
 (Q (.bool false) w)
 (LoopS [.slice t p u,.slice v q x,.bool false,.int .i64 0] w fun y z k _ i=>
 ∃ b a c d e f r j,k=[.slice b a c,.slice d e f,.bool r,.int .i64 j]∧
 cond (decide (j<((a:Nat):Int)))
 (∃ (s:World→Prop),
 Drw i fun g=>
 ∃ l,IxA Tryz.prog 177 (.slice b a c) (.int .i64 j) l∧
 ∃ m,IxA Tryz.prog 177 (.slice d e f) (.int .i64 j) m∧
 ∃ n,HLd Tryz.prog s 3 (.pointer (some l)) g (.int .i64 n)∧
 ∃ o,Ld Tryz.prog 3 (.pointer (some m)) g (.int .i64 o)∧
 (g=g∨s g)∧
 cond (n != o)
 (Q (.bool false) g)
 (Xh [] [] y z k [.slice b a c,.slice d e f,.bool r,.int .i64 (IntKind.i64.wrap (j+1))] i g))
 (Q (.bool true) i))
def Xhb:Nat→List (Nat×TypeId):=fun n=>match n with | 0=>[(0,177),(1,177),(4,4),(5,3)] | _=>[]
theorem Xeq (a:Option Addr) (b:Nat) (c:Nat) (d:Option Addr) (e:Nat) (f:Nat) (w:World) (Q:VWP) (h:XbJ a b c d e f w Q):Xa Tryz.prog 103 #[.slice a b c,.slice d e f] w Q:=
 Xc Xhb Tryz.func103 h (fun _ _=>by kernel_rfl) (by kernel_rfl) (by kernel_rfl) (by kernel_rfl)
end Go.Sh
end
