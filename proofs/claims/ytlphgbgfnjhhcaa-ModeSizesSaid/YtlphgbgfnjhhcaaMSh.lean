/- A part of a proof of a given law of this program: lemmas, printed forms of its functions, contracts. It has no conditions of its own. -/
import Derived.Test.YtlphgbgfnjhhcaaProg
import Derived.Test.YtlphgbgfnjhhcaaMFw

section
namespace Go.Sh
open Go
abbrev F_main_main : FuncId := 0
abbrev F_gosem_cut : FuncId := 1
abbrev F_gosem_cut_init : FuncId := 2
abbrev F_law27_MeterCounts : FuncId := 3
abbrev F_law27_MeterWords : FuncId := 4
abbrev F_law27_MeterTotals : FuncId := 5
abbrev F_law02_FieldAnswers : FuncId := 6
abbrev F_law02_FieldTables : FuncId := 7
abbrev F_law02_FieldLaws : FuncId := 8
abbrev F_law02_FieldSigns : FuncId := 9
abbrev F_law02_FieldPowers : FuncId := 10
abbrev F_law03_AesBlocks : FuncId := 11
abbrev F_law03_AesDecrypts : FuncId := 12
abbrev F_law03_AesBack : FuncId := 13
abbrev F_law03_AesKeys : FuncId := 14
abbrev F_law03_AesCounts : FuncId := 15
abbrev F_law06_CountSteps : FuncId := 16
abbrev F_law06_CountStreams : FuncId := 17
abbrev F_law06_CountBack : FuncId := 18
abbrev F_law06_CountTurns : FuncId := 19
abbrev F_law15_FeistMixes : FuncId := 20
abbrev F_law15_FeistPasses : FuncId := 21
abbrev F_law15_FeistBack : FuncId := 22
abbrev F_law15_FeistSteps : FuncId := 23
abbrev F_law17_CodecBack : FuncId := 24
abbrev F_law17_CodecApart : FuncId := 25
abbrev F_law17_CodecPlain : FuncId := 26
abbrev F_law16_ModeBack : FuncId := 27
abbrev F_law16_ModeSizes : FuncId := 28
abbrev F_law27_alive : FuncId := 29
abbrev F_meter_New : FuncId := 30
abbrev F_meter_Meter_Add : FuncId := 31
abbrev F_ref27_Meter_Add : FuncId := 32
abbrev F_meter_Meter_Clone : FuncId := 33
abbrev F_law27_Agree : FuncId := 34
abbrev F_meter_Meter_Of : FuncId := 35
abbrev F_meter_Class : FuncId := 36
abbrev F_ref27_Class : FuncId := 37
abbrev F_meter_Word : FuncId := 38
abbrev F_ref27_Word : FuncId := 39
abbrev F_meter_Meter_Total : FuncId := 40
abbrev F_law02_alive : FuncId := 41
abbrev F_field_Mul : FuncId := 42
abbrev F_ref02_Mul : FuncId := 43
abbrev F_field_Inv : FuncId := 44
abbrev F_ref02_Inv : FuncId := 45
abbrev F_field_Pow : FuncId := 46
abbrev F_ref02_Pow : FuncId := 47
abbrev F_field_New : FuncId := 48
abbrev F_field_Tables_Made : FuncId := 49
abbrev F_field_Tables_Sub : FuncId := 50
abbrev F_ref02_Sub : FuncId := 51
abbrev F_field_Tables_Unsub : FuncId := 52
abbrev F_ref02_Unsub : FuncId := 53
abbrev F_field_Tables_Times : FuncId := 54
abbrev F_field_Sum : FuncId := 55
abbrev F_law03_alive : FuncId := 56
abbrev F_ref00_CopyBytes : FuncId := 57
abbrev F_aes_New : FuncId := 58
abbrev F_ref03_Table : FuncId := 59
abbrev F_ref00_SameRows : FuncId := 60
abbrev F_aes_Cipher_Keys : FuncId := 61
abbrev F_ref03_Keys : FuncId := 62
abbrev F_aes_Cipher_Encrypt : FuncId := 63
abbrev F_aes_Cipher_Done : FuncId := 64
abbrev F_ref00_SameBytes : FuncId := 65
abbrev F_ref03_With : FuncId := 66
abbrev F_aes_Cipher_Decrypt : FuncId := 67
abbrev F_ref03_Decrypt : FuncId := 68
abbrev F_ref00_Long : FuncId := 69
abbrev F_law06_alive : FuncId := 70
abbrev F_count_Next : FuncId := 71
abbrev F_count_After : FuncId := 72
abbrev F_ref06_After : FuncId := 73
abbrev F_count_Turn : FuncId := 74
abbrev F_ref06_Turn : FuncId := 75
abbrev F_count_Stream : FuncId := 76
abbrev F_ref06_Stream : FuncId := 77
abbrev F_law15_alive : FuncId := 78
abbrev F_feist_Mix : FuncId := 79
abbrev F_ref15_Passes : FuncId := 80
abbrev F_feist_Unmix : FuncId := 81
abbrev F_feist_Pass : FuncId := 82
abbrev F_ref15_Pass : FuncId := 83
abbrev F_feist_Passes : FuncId := 84
abbrev F_halves_Cut : FuncId := 85
abbrev F_halves_Join : FuncId := 86
abbrev F_law17_alive : FuncId := 87
abbrev F_mode_Config_Right : FuncId := 88
abbrev F_mode_Config_Size : FuncId := 89
abbrev F_codec_Make : FuncId := 90
abbrev F_codec_Back : FuncId := 91
abbrev F_codec_Point : FuncId := 92
abbrev F_codec_Told : FuncId := 93
abbrev F_codec_Plain : FuncId := 94
abbrev F_law16_alive : FuncId := 95
abbrev F_mode_Config_Bytes : FuncId := 96
abbrev F_mode_Read : FuncId := 97
abbrev F_mode_Config_Turn : FuncId := 98
abbrev F_mode_Config_Back : FuncId := 99
abbrev F_meter_Meter_All : FuncId := 100
abbrev F_sync_atomic_Int64_Add : FuncId := 101
abbrev F_sync_atomic_Int64_Store : FuncId := 102
abbrev F_sync_atomic_Int64_Load : FuncId := 103
abbrev F_ref27_Meter_Of : FuncId := 104
abbrev F_ref27_Meter_Total : FuncId := 105
abbrev F_field_double : FuncId := 106
abbrev F_slices_Clone_byte_byte : FuncId := 107
abbrev F_field_Tables_ready : FuncId := 108
abbrev F_ref02_Sign : FuncId := 109
abbrev F_aes_Cipher_turned : FuncId := 110
abbrev F_aes_word_plus : FuncId := 111
abbrev F_ref03_subs : FuncId := 112
abbrev F_ref03_add : FuncId := 113
abbrev F_aes_block_add : FuncId := 114
abbrev F_aes_block_each : FuncId := 115
abbrev F_aes_block_rows : FuncId := 116
abbrev F_aes_block_columns : FuncId := 117
abbrev F_aes_Cipher_times : FuncId := 118
abbrev F_ref03_rows : FuncId := 119
abbrev F_ref03_columns : FuncId := 120
abbrev F_ref03_back : FuncId := 121
abbrev F_octet_Num : FuncId := 122
abbrev F_octet_Put : FuncId := 123
abbrev F_octet_Join : FuncId := 124
abbrev F_octet_Xor : FuncId := 125
abbrev F_ref14_Cut : FuncId := 126
abbrev F_ref14_Join : FuncId := 127
abbrev F_feist_pair_pass : FuncId := 128
abbrev F_ref15_onto : FuncId := 129
abbrev F_halves_fits : FuncId := 130
abbrev F_halves_Trim : FuncId := 131
abbrev F_halves_Size : FuncId := 132
abbrev F_halves_odd : FuncId := 133
abbrev F_mode_within : FuncId := 134
abbrev F_mode_Config_both : FuncId := 135
abbrev F_codec_id : FuncId := 136
abbrev F_scan_Read : FuncId := 137
abbrev F_scan_Reader_Num : FuncId := 138
abbrev F_scan_Reader_Bytes : FuncId := 139
abbrev F_scan_Reader_End : FuncId := 140
abbrev F_mode_Config_by : FuncId := 141
abbrev F_meter_Meter_All_c1 : FuncId := 142
abbrev F_sync_atomic_AddInt64 : FuncId := 143
abbrev F_sync_atomic_StoreInt64 : FuncId := 144
abbrev F_sync_atomic_LoadInt64 : FuncId := 145
abbrev F_sync_Once_Do : FuncId := 146
abbrev F_field_Tables_make : FuncId := 147
abbrev F_ref03_at : FuncId := 148
abbrev F_slices_Concat_byte_byte : FuncId := 149
abbrev F_ref14_Fours : FuncId := 150
abbrev F_ref14_Bytes : FuncId := 151
abbrev F_ref14_fit : FuncId := 152
abbrev F_feist_pair_onto : FuncId := 153
abbrev F_ref14_Block : FuncId := 154
abbrev F_ref03_Encrypt : FuncId := 155
abbrev F_ref14_Trim : FuncId := 156
abbrev F_halves_fits_c1 : FuncId := 157
abbrev F_slices_ContainsFunc_byte_byte : FuncId := 158
abbrev F_scan_fault_fail : FuncId := 159
abbrev F_scan_Reader_check : FuncId := 160
abbrev F_scan_Reader_cut : FuncId := 161
abbrev F_sync_atomic_Bool_Load : FuncId := 162
abbrev F_sync_Once_doSlow : FuncId := 163
abbrev F_field_sign : FuncId := 164
abbrev F_slices_Grow_byte_byte : FuncId := 165
abbrev F_ref14_Size : FuncId := 166
abbrev F_halves_Block : FuncId := 167
abbrev F_slices_IndexFunc_byte_byte : FuncId := 168
abbrev F_sync_atomic_LoadUint32 : FuncId := 169
abbrev F_sync_Mutex_Lock : FuncId := 170
abbrev F_sync_Mutex_Unlock : FuncId := 171
abbrev F_sync_atomic_Bool_Store : FuncId := 172
abbrev F_field_turned : FuncId := 173
abbrev F_internal_sync_Mutex_Lock : FuncId := 174
abbrev F_internal_sync_Mutex_Unlock : FuncId := 175
abbrev F_sync_atomic_StoreUint32 : FuncId := 176
abbrev F_sync_atomic_b32 : FuncId := 177
abbrev F_internal_race_Disable : FuncId := 178
abbrev F_sync_atomic_CompareAndSwapInt32 : FuncId := 179
abbrev F_internal_race_Enable : FuncId := 180
abbrev F_internal_race_Acquire : FuncId := 181
abbrev F_internal_sync_Mutex_lockSlow : FuncId := 182
abbrev F_internal_race_ReleaseMerge : FuncId := 183
abbrev F_sync_atomic_AddInt32 : FuncId := 184
abbrev F_internal_sync_Mutex_unlockSlow : FuncId := 185
abbrev F_internal_sync_runtime_canSpin : FuncId := 186
abbrev F_internal_sync_runtime_doSpin : FuncId := 187
abbrev F_internal_sync_throw : FuncId := 188
abbrev F_internal_sync_runtime_nanotime : FuncId := 189
abbrev F_internal_sync_runtime_SemacquireMutex : FuncId := 190
abbrev F_internal_sync_fatal : FuncId := 191
abbrev F_internal_sync_runtime_Semrelease : FuncId := 192
abbrev F_runtime_boundsError_Error : FuncId := 193
abbrev F_runtime_boundsError_RuntimeError : FuncId := 194
abbrev F_runtime_errorString_Error : FuncId := 195
abbrev F_runtime_errorString_RuntimeError : FuncId := 196
abbrev F_runtime_plainError_Error : FuncId := 197
abbrev F_runtime_plainError_RuntimeError : FuncId := 198
abbrev F_runtime_errorAddressString_Error : FuncId := 199
abbrev F_runtime_errorAddressString_RuntimeError : FuncId := 200
abbrev F_runtime_TypeAssertionError_Error : FuncId := 201
abbrev F_runtime_TypeAssertionError_RuntimeError : FuncId := 202
abbrev F_runtime_PanicNilError_Error : FuncId := 203
abbrev F_runtime_PanicNilError_RuntimeError : FuncId := 204
abbrev F_internal_abi_Type_Align : FuncId := 205
abbrev F_internal_runtime_maps_unhashableTypeError_Error : FuncId := 206
abbrev F_internal_runtime_maps_unhashableTypeError_RuntimeError : FuncId := 207
abbrev F_api_Errno_Error : FuncId := 208
abbrev F_scan_Reader_Left : FuncId := 209
abbrev F_scan_fault_Err : FuncId := 210
abbrev F_internal_abi_Kind_String : FuncId := 211
end Go.Sh
end

section
namespace Go.Sh
open Go Go.Fw Go.Proofs
set_option maxRecDepth 100000
theorem sync_atomic_AddInt64_c {b n o : Nat} {g : Nat → Value} {x y : Int} {w : World} (hB : Blk w b n g) (ho : o < n) (hv : g o = .int .i64 x) {K : Value → World → Prop} (h : ∀ w', Fr [b] w w' → Blk w' b n (upd g o (.int .i64 (IntKind.i64.wrap (x + y)))) → w'.heap.size = w.heap.size → K (.int .i64 (IntKind.i64.wrap (x + y))) w') : callF Try.prog F_sync_atomic_AddInt64 #[.pointer (some ⟨b, o, none⟩), .int .i64 y] w K := add_c Try.func143 (by kernel_rfl) (by kernel_rfl) (by kernel_rfl) .i64 (by kernel_rfl) hB ho hv h
theorem sync_atomic_StoreInt64_c {b n o : Nat} {g : Nat → Value} {y : Int} {w : World} (hB : Blk w b n g) (ho : o < n) {K : Value → World → Prop} (h : ∀ w', Fr [b] w w' → Blk w' b n (upd g o (.int .i64 y)) → w'.heap.size = w.heap.size → K (.tuple #[]) w') : callF Try.prog F_sync_atomic_StoreInt64 #[.pointer (some ⟨b, o, none⟩), .int .i64 y] w K := storeA_c Try.func144 (by kernel_rfl) (by kernel_rfl) (by kernel_rfl) (by kernel_rfl) hB ho h
theorem sync_atomic_LoadInt64_c {b n o : Nat} {g : Nat → Value} {x : Int} {w : World} (hB : Blk w b n g) (ho : o < n) (hv : g o = .int .i64 x) {K : Value → World → Prop} (h : K (.int .i64 x) w) : callF Try.prog F_sync_atomic_LoadInt64 #[.pointer (some ⟨b, o, none⟩)] w K := load_c Try.func145 (by kernel_rfl) (by kernel_rfl) (by kernel_rfl) .i64 (by kernel_rfl) hB ho hv h
theorem sync_atomic_LoadUint32_c {b n o : Nat} {g : Nat → Value} {x : Int} {w : World} (hB : Blk w b n g) (ho : o < n) (hv : g o = .int .u32 x) {K : Value → World → Prop} (h : K (.int .u32 x) w) : callF Try.prog F_sync_atomic_LoadUint32 #[.pointer (some ⟨b, o, none⟩)] w K := load_c Try.func169 (by kernel_rfl) (by kernel_rfl) (by kernel_rfl) .u32 (by kernel_rfl) hB ho hv h
theorem sync_atomic_StoreUint32_c {b n o : Nat} {g : Nat → Value} {y : Int} {w : World} (hB : Blk w b n g) (ho : o < n) {K : Value → World → Prop} (h : ∀ w', Fr [b] w w' → Blk w' b n (upd g o (.int .u32 y)) → w'.heap.size = w.heap.size → K (.tuple #[]) w') : callF Try.prog F_sync_atomic_StoreUint32 #[.pointer (some ⟨b, o, none⟩), .int .u32 y] w K := storeA_c Try.func176 (by kernel_rfl) (by kernel_rfl) (by kernel_rfl) (by kernel_rfl) hB ho h
theorem internal_race_Disable_c {w : World} {K : Value → World → Prop} (h : K (.tuple #[]) w) : callF Try.prog F_internal_race_Disable #[] w K := mark0_c Try.func178 (by kernel_rfl) (by kernel_rfl) (by kernel_rfl) .disable (by kernel_rfl) h
theorem sync_atomic_CompareAndSwapInt32_c {b n o : Nat} {g : Nat → Value} {x y : Int} {w : World} (hB : Blk w b n g) (ho : o < n) (hv : g o = .int .i32 x) {K : Value → World → Prop} (h : ∀ w', Fr [b] w w' → Blk w' b n (upd g o (.int .i32 y)) → w'.heap.size = w.heap.size → K (.bool true) w') : callF Try.prog F_sync_atomic_CompareAndSwapInt32 #[.pointer (some ⟨b, o, none⟩), .int .i32 x, .int .i32 y] w K := cas_c Try.func179 (by kernel_rfl) (by kernel_rfl) (by kernel_rfl) .i32 (by kernel_rfl) hB ho hv h
theorem internal_race_Enable_c {w : World} {K : Value → World → Prop} (h : K (.tuple #[]) w) : callF Try.prog F_internal_race_Enable #[] w K := mark0_c Try.func180 (by kernel_rfl) (by kernel_rfl) (by kernel_rfl) .enable (by kernel_rfl) h
theorem internal_race_Acquire_c {a : Addr} {w : World} {K : Value → World → Prop} (h : K (.tuple #[]) w) : callF Try.prog F_internal_race_Acquire #[.pointer (some a)] w K := marked_c Try.func181 (by kernel_rfl) (by kernel_rfl) (by kernel_rfl) .acquire (by kernel_rfl) h
theorem internal_race_ReleaseMerge_c {a : Addr} {w : World} {K : Value → World → Prop} (h : K (.tuple #[]) w) : callF Try.prog F_internal_race_ReleaseMerge #[.pointer (some a)] w K := marked_c Try.func183 (by kernel_rfl) (by kernel_rfl) (by kernel_rfl) .releaseMerge (by kernel_rfl) h
theorem sync_atomic_AddInt32_c {b n o : Nat} {g : Nat → Value} {x y : Int} {w : World} (hB : Blk w b n g) (ho : o < n) (hv : g o = .int .i32 x) {K : Value → World → Prop} (h : ∀ w', Fr [b] w w' → Blk w' b n (upd g o (.int .i32 (IntKind.i32.wrap (x + y)))) → w'.heap.size = w.heap.size → K (.int .i32 (IntKind.i32.wrap (x + y))) w') : callF Try.prog F_sync_atomic_AddInt32 #[.pointer (some ⟨b, o, none⟩), .int .i32 y] w K := add_c Try.func184 (by kernel_rfl) (by kernel_rfl) (by kernel_rfl) .i32 (by kernel_rfl) hB ho hv h
end Go.Sh
end

section
namespace Go.Sh
open Go Go.Fw Go.Proofs
set_option maxRecDepth 100000
set_option linter.unusedVariables false

/-! ### (*sync/atomic.Int64).Add: function 101 -/

def sync_atomic_Int64_Add (p0 : Option Addr) (n1 : Int) (w : World) (Q : Value → World → Prop) : Prop :=
  ∃ (a6 : Addr), p0 = some a6 ∧
  callF Try.prog 143 #[.pointer (some (a6.add 0)), .int .i64 n1] w fun r9 w1 =>
  ∃ (n9 : Int), r9 = .int .i64 n9 ∧
  Q (.int .i64 n9) w1

def sync_atomic_Int64_Add_tt : Nat → List (Nat × TypeId) := fun _ => []

theorem sync_atomic_Int64_Add_call (p0 : Option Addr) (n1 : Int) (w : World) (Q : Value → World → Prop) (h : sync_atomic_Int64_Add p0 n1 w Q) : callF Try.prog 101 #[.pointer p0, .int .i64 n1] w Q :=
  callF_of (fun _ _ => by kernel_rfl) (callK_of_sw sync_atomic_Int64_Add_tt Try.func101 rfl (by kernel_rfl) (show sw Try.prog none 10 sync_atomic_Int64_Add_tt _ 0 (endK Try.prog [.tmp 4] Q) ⟨regs [.pointer p0, .int .i64 n1], []⟩ w from
    Eq.mp (by kernel_rfl : sync_atomic_Int64_Add p0 n1 w Q = sw Try.prog none 10 sync_atomic_Int64_Add_tt (Try.f101.body.getD .skip) 0 (endK Try.prog [.tmp 4] Q) ⟨regs [.pointer p0, .int .i64 n1], []⟩ w) h))


/-! ### (*sync/atomic.Int64).Store: function 102 -/

def sync_atomic_Int64_Store (p0 : Option Addr) (n1 : Int) (w : World) (Q : Value → World → Prop) : Prop :=
  ∃ (a5 : Addr), p0 = some a5 ∧
  callF Try.prog 144 #[.pointer (some (a5.add 0)), .int .i64 n1] w fun r8 w1 =>
  r8 = .tuple #[] ∧
  Q (.tuple #[]) w1

def sync_atomic_Int64_Store_tt : Nat → List (Nat × TypeId) := fun _ => []

theorem sync_atomic_Int64_Store_call (p0 : Option Addr) (n1 : Int) (w : World) (Q : Value → World → Prop) (h : sync_atomic_Int64_Store p0 n1 w Q) : callF Try.prog 102 #[.pointer p0, .int .i64 n1] w Q :=
  callF_of (fun _ _ => by kernel_rfl) (callK_of_sw sync_atomic_Int64_Store_tt Try.func102 rfl (by kernel_rfl) (show sw Try.prog none 9 sync_atomic_Int64_Store_tt _ 0 (endK Try.prog [] Q) ⟨regs [.pointer p0, .int .i64 n1], []⟩ w from
    Eq.mp (by kernel_rfl : sync_atomic_Int64_Store p0 n1 w Q = sw Try.prog none 9 sync_atomic_Int64_Store_tt (Try.f102.body.getD .skip) 0 (endK Try.prog [] Q) ⟨regs [.pointer p0, .int .i64 n1], []⟩ w) h))


/-! ### (*sync/atomic.Int64).Load: function 103 -/

def sync_atomic_Int64_Load (p0 : Option Addr) (w : World) (Q : Value → World → Prop) : Prop :=
  ∃ (a4 : Addr), p0 = some a4 ∧
  callF Try.prog 145 #[.pointer (some (a4.add 0))] w fun r6 w1 =>
  ∃ (n6 : Int), r6 = .int .i64 n6 ∧
  Q (.int .i64 n6) w1

def sync_atomic_Int64_Load_tt : Nat → List (Nat × TypeId) := fun _ => []

theorem sync_atomic_Int64_Load_call (p0 : Option Addr) (w : World) (Q : Value → World → Prop) (h : sync_atomic_Int64_Load p0 w Q) : callF Try.prog 103 #[.pointer p0] w Q :=
  callF_of (fun _ _ => by kernel_rfl) (callK_of_sw sync_atomic_Int64_Load_tt Try.func103 rfl (by kernel_rfl) (show sw Try.prog none 7 sync_atomic_Int64_Load_tt _ 0 (endK Try.prog [.tmp 2] Q) ⟨regs [.pointer p0], []⟩ w from
    Eq.mp (by kernel_rfl : sync_atomic_Int64_Load p0 w Q = sw Try.prog none 7 sync_atomic_Int64_Load_tt (Try.f103.body.getD .skip) 0 (endK Try.prog [.tmp 2] Q) ⟨regs [.pointer p0], []⟩ w) h))


/-! ### (*sync/atomic.Bool).Load: function 162 -/

def sync_atomic_Bool_Load (p0 : Option Addr) (w : World) (Q : Value → World → Prop) : Prop :=
  ∃ (a4 : Addr), p0 = some a4 ∧
  callF Try.prog 169 #[.pointer (some (a4.add 0))] w fun r6 w1 =>
  ∃ (n6 : Int), r6 = .int .u32 n6 ∧
  Q (.bool (n6 != 0)) w1

def sync_atomic_Bool_Load_tt : Nat → List (Nat × TypeId) := fun _ => []

theorem sync_atomic_Bool_Load_call (p0 : Option Addr) (w : World) (Q : Value → World → Prop) (h : sync_atomic_Bool_Load p0 w Q) : callF Try.prog 162 #[.pointer p0] w Q :=
  callF_of (fun _ _ => by kernel_rfl) (callK_of_sw sync_atomic_Bool_Load_tt Try.func162 rfl (by kernel_rfl) (show sw Try.prog none 8 sync_atomic_Bool_Load_tt _ 0 (endK Try.prog [.tmp 2] Q) ⟨regs [.pointer p0], []⟩ w from
    Eq.mp (by kernel_rfl : sync_atomic_Bool_Load p0 w Q = sw Try.prog none 8 sync_atomic_Bool_Load_tt (Try.f162.body.getD .skip) 0 (endK Try.prog [.tmp 2] Q) ⟨regs [.pointer p0], []⟩ w) h))


/-! ### (*sync/atomic.Bool).Store: function 172 -/

def sync_atomic_Bool_Store (p0 : Option Addr) (b1 : Bool) (w : World) (Q : Value → World → Prop) : Prop :=
  Drw w fun w1 =>
  ∃ (a5 : Addr), p0 = some a5 ∧
  callF Try.prog 177 #[.bool b1] w1 fun r8 w2 =>
  ∃ (n8 : Int), r8 = .int .u32 n8 ∧
  callF Try.prog 176 #[.pointer (some (a5.add 0)), .int .u32 n8] w2 fun r9 w3 =>
  r9 = .tuple #[] ∧
  Q (.tuple #[]) w3

def sync_atomic_Bool_Store_tt : Nat → List (Nat × TypeId) := fun _ => []

theorem sync_atomic_Bool_Store_call (p0 : Option Addr) (b1 : Bool) (w : World) (Q : Value → World → Prop) (h : sync_atomic_Bool_Store p0 b1 w Q) : callF Try.prog 172 #[.pointer p0, .bool b1] w Q :=
  callF_of (fun _ _ => by kernel_rfl) (callK_of_sw sync_atomic_Bool_Store_tt Try.func172 rfl (by kernel_rfl) (show sw Try.prog none 10 sync_atomic_Bool_Store_tt _ 0 (endK Try.prog [] Q) ⟨regs [.pointer p0, .bool b1], []⟩ w from
    Eq.mp (by kernel_rfl : sync_atomic_Bool_Store p0 b1 w Q = sw Try.prog none 10 sync_atomic_Bool_Store_tt (Try.f172.body.getD .skip) 0 (endK Try.prog [] Q) ⟨regs [.pointer p0, .bool b1], []⟩ w) h))

theorem sync_atomic_Bool_Store_calld (p0 : Option Addr) (b1 : Bool) (w : World) (K : World → Prop) (h : sync_atomic_Bool_Store p0 b1 w (fun _ w => K w)) : callDF Try.prog 172 #[.pointer p0, .bool b1] w K :=
  ⟨fun _ _ => by kernel_rfl, callD_of_sw sync_atomic_Bool_Store_tt Try.func172 rfl (by kernel_rfl) (show sw Try.prog none 10 sync_atomic_Bool_Store_tt _ 0 (endD Try.prog [] K) ⟨regs [.pointer p0, .bool b1], []⟩ w from
    Eq.mp (by kernel_rfl : sync_atomic_Bool_Store p0 b1 w (fun _ w => K w) = sw Try.prog none 10 sync_atomic_Bool_Store_tt (Try.f172.body.getD .skip) 0 (endD Try.prog [] K) ⟨regs [.pointer p0, .bool b1], []⟩ w) h)⟩

/-! ### sync/atomic.b32: function 177 -/

def sync_atomic_b32 (b0 : Bool) (w : World) (Q : Value → World → Prop) : Prop :=
  cond b0
  (Q (.int .u32 1) w)
  (Q (.int .u32 0) w)

def sync_atomic_b32_tt : Nat → List (Nat × TypeId) := fun _ => []

theorem sync_atomic_b32_call (b0 : Bool) (w : World) (Q : Value → World → Prop) (h : sync_atomic_b32 b0 w Q) : callF Try.prog 177 #[.bool b0] w Q :=
  callF_of (fun _ _ => by kernel_rfl) (callK_of_sw sync_atomic_b32_tt Try.func177 rfl (by kernel_rfl) (show sw Try.prog none 4 sync_atomic_b32_tt _ 0 (endK Try.prog [.tmp 2] Q) ⟨regs [.bool b0], []⟩ w from
    Eq.mp (by kernel_rfl : sync_atomic_b32 b0 w Q = sw Try.prog none 4 sync_atomic_b32_tt (Try.f177.body.getD .skip) 0 (endK Try.prog [.tmp 2] Q) ⟨regs [.bool b0], []⟩ w) h))

end Go.Sh
end

section
namespace Go.Sh
open Go Go.Fw Go.Proofs
set_option maxRecDepth 100000
set_option linter.unusedVariables false

/-! ### (*internal/sync.Mutex).Lock: function 174 -/

def internal_sync_Mutex_Lock (p0 : Option Addr) (w : World) (Q : Value → World → Prop) : Prop :=
  callF Try.prog 178 #[] w fun r2 w1 =>
  r2 = .tuple #[] ∧
  ∃ (a4 : Addr), p0 = some a4 ∧
  callF Try.prog 179 #[.pointer (some (a4.add 0)), .int .i32 0, .int .i32 1] w1 fun r6 w2 =>
  ∃ (b6 : Bool), r6 = .bool b6 ∧
  cond b6
  (callF Try.prog 180 #[] w2 fun r7 w3 =>
    r7 = .tuple #[] ∧
    ∃ (v9 : Value) (w4 : World), Ef Try.prog (convert 222 226 (.pointer p0)) w3 (v9) w4 ∧
    callF Try.prog 181 #[v9] w4 fun r10 w5 =>
    r10 = .tuple #[] ∧
    Q (.tuple #[]) w5)
  (callF Try.prog 182 #[.pointer p0] w2 fun r12 w6 =>
    r12 = .tuple #[] ∧
    Q (.tuple #[]) w6)

def internal_sync_Mutex_Lock_tt : Nat → List (Nat × TypeId) := fun _ => []

theorem internal_sync_Mutex_Lock_call (p0 : Option Addr) (w : World) (Q : Value → World → Prop) (h : internal_sync_Mutex_Lock p0 w Q) : callF Try.prog 174 #[.pointer p0] w Q :=
  callF_of (fun _ _ => by kernel_rfl) (callK_of_sw internal_sync_Mutex_Lock_tt Try.func174 rfl (by kernel_rfl) (show sw Try.prog none 13 internal_sync_Mutex_Lock_tt _ 0 (endK Try.prog [] Q) ⟨regs [.pointer p0], []⟩ w from
    Eq.mp (by kernel_rfl : internal_sync_Mutex_Lock p0 w Q = sw Try.prog none 13 internal_sync_Mutex_Lock_tt (Try.f174.body.getD .skip) 0 (endK Try.prog [] Q) ⟨regs [.pointer p0], []⟩ w) h))


/-! ### (*internal/sync.Mutex).Unlock: function 175 -/

def internal_sync_Mutex_Unlock_j1 (p0 : Option Addr) (w : World) (Q : Value → World → Prop) : Prop :=
  ∃ (a12 : Addr), p0 = some a12 ∧
  callF Try.prog 184 #[.pointer (some (a12.add 0)), .int .i32 (-1)] w fun r14 w1 =>
  ∃ (n14 : Int), r14 = .int .i32 n14 ∧
  cond (n14 != 0)
  (callF Try.prog 185 #[.pointer p0, .int .i32 n14] w1 fun r19 w2 =>
    r19 = .tuple #[] ∧
    callF Try.prog 180 #[] w2 fun r20 w3 =>
    r20 = .tuple #[] ∧
    Q (.tuple #[]) w3)
  (callF Try.prog 180 #[] w1 fun r20_1 w4 =>
    r20_1 = .tuple #[] ∧
    Q (.tuple #[]) w4)

def internal_sync_Mutex_Unlock (p0 : Option Addr) (w : World) (Q : Value → World → Prop) : Prop :=
  ∃ (a4 : Addr), p0 = some a4 ∧
  ∃ (n6 : Int), Ld Try.prog 21 (.pointer (some (a4.add 0))) w (.int .i32 n6) ∧
  ∃ (v8 : Value) (w1 : World), Ef Try.prog (convert 222 226 (.pointer p0)) w (v8) w1 ∧
  callF Try.prog 183 #[v8] w1 fun r9 w2 =>
  r9 = .tuple #[] ∧
  callF Try.prog 178 #[] w2 fun r10 w3 =>
  r10 = .tuple #[] ∧
  internal_sync_Mutex_Unlock_j1 p0 w3 Q

def internal_sync_Mutex_Unlock_tt : Nat → List (Nat × TypeId) := fun _ => []

theorem internal_sync_Mutex_Unlock_call (p0 : Option Addr) (w : World) (Q : Value → World → Prop) (h : internal_sync_Mutex_Unlock p0 w Q) : callF Try.prog 175 #[.pointer p0] w Q :=
  callF_of (fun _ _ => by kernel_rfl) (callK_of_sw internal_sync_Mutex_Unlock_tt Try.func175 rfl (by kernel_rfl) (show sw Try.prog none 21 internal_sync_Mutex_Unlock_tt _ 0 (endK Try.prog [] Q) ⟨regs [.pointer p0], []⟩ w from
    Eq.mp (by kernel_rfl : internal_sync_Mutex_Unlock p0 w Q = sw Try.prog none 21 internal_sync_Mutex_Unlock_tt (Try.f175.body.getD .skip) 0 (endK Try.prog [] Q) ⟨regs [.pointer p0], []⟩ w) h))

end Go.Sh
end

section
namespace Go.Sh
open Go Go.Fw Go.Proofs
set_option maxRecDepth 100000
set_option linter.unusedVariables false

/-! ### (*sync.Once).Do: function 146 -/

def sync_Once_Do (p0 : Option Addr) (v1 : Value) (w : World) (Q : Value → World → Prop) : Prop :=
  ∃ (a5 : Addr), p0 = some a5 ∧
  callF Try.prog 162 #[.pointer (some (a5.add 0))] w fun r7 w1 =>
  ∃ (b7 : Bool), r7 = .bool b7 ∧
  cond (!b7)
  (callF Try.prog 163 #[.pointer p0, v1] w1 fun r11 w2 =>
    r11 = .tuple #[] ∧
    Q (.tuple #[]) w2)
  (Q (.tuple #[]) w1)

def sync_Once_Do_tt : Nat → List (Nat × TypeId) := fun _ => []

theorem sync_Once_Do_call (p0 : Option Addr) (v1 : Value) (w : World) (Q : Value → World → Prop) (h : sync_Once_Do p0 v1 w Q) : callF Try.prog 146 #[.pointer p0, v1] w Q :=
  callF_of (fun _ _ => by kernel_rfl) (callK_of_sw sync_Once_Do_tt Try.func146 rfl (by kernel_rfl) (show sw Try.prog none 12 sync_Once_Do_tt _ 0 (endK Try.prog [] Q) ⟨regs [.pointer p0, v1], []⟩ w from
    Eq.mp (by kernel_rfl : sync_Once_Do p0 v1 w Q = sw Try.prog none 12 sync_Once_Do_tt (Try.f146.body.getD .skip) 0 (endK Try.prog [] Q) ⟨regs [.pointer p0, v1], []⟩ w) h))


/-! ### (*sync.Once).doSlow: function 163 -/

def sync_Once_doSlow (p0 : Option Addr) (v1 : Value) (w : World) (Q : Value → World → Prop) : Prop :=
  ∃ (a5 : Addr), p0 = some a5 ∧
  callF Try.prog 170 #[.pointer (some (a5.add 1))] w fun r7 w1 =>
  r7 = .tuple #[] ∧
  ∃ (a9 : Addr), p0 = some a9 ∧
  ∃ (a12 : Addr), p0 = some a12 ∧
  callF Try.prog 162 #[.pointer (some (a12.add 0))] w1 fun r14 w2 =>
  ∃ (b14 : Bool), r14 = .bool b14 ∧
  cond (!b14)
  (∃ (a17 : Addr), p0 = some a17 ∧
    callV Try.prog (v1) [] w2 fun r20 w3 =>
    r20 = .tuple #[] ∧
    callDF Try.prog 172 #[.pointer (some (a17.add 0)), .bool true] w3 fun w4 =>
    callDF Try.prog 171 #[.pointer (some (a9.add 1))] w4 fun w5 =>
    Q (.tuple #[]) w5)
  (callDF Try.prog 171 #[.pointer (some (a9.add 1))] w2 fun w6 =>
    Q (.tuple #[]) w6)

def sync_Once_doSlow_tt : Nat → List (Nat × TypeId) := fun _ => []

theorem sync_Once_doSlow_call (p0 : Option Addr) (v1 : Value) (w : World) (Q : Value → World → Prop) (h : sync_Once_doSlow p0 v1 w Q) : callF Try.prog 163 #[.pointer p0, v1] w Q :=
  callF_of (fun _ _ => by kernel_rfl) (callK_of_sw sync_Once_doSlow_tt Try.func163 rfl (by kernel_rfl) (show sw Try.prog none 21 sync_Once_doSlow_tt _ 0 (endK Try.prog [] Q) ⟨regs [.pointer p0, v1], []⟩ w from
    Eq.mp (by kernel_rfl : sync_Once_doSlow p0 v1 w Q = sw Try.prog none 21 sync_Once_doSlow_tt (Try.f163.body.getD .skip) 0 (endK Try.prog [] Q) ⟨regs [.pointer p0, v1], []⟩ w) h))


/-! ### (*sync.Mutex).Lock: function 170 -/

def sync_Mutex_Lock (p0 : Option Addr) (w : World) (Q : Value → World → Prop) : Prop :=
  ∃ (a3 : Addr), p0 = some a3 ∧
  callF Try.prog 174 #[.pointer (some (a3.add 0))] w fun r5 w1 =>
  r5 = .tuple #[] ∧
  Q (.tuple #[]) w1

def sync_Mutex_Lock_tt : Nat → List (Nat × TypeId) := fun _ => []

theorem sync_Mutex_Lock_call (p0 : Option Addr) (w : World) (Q : Value → World → Prop) (h : sync_Mutex_Lock p0 w Q) : callF Try.prog 170 #[.pointer p0] w Q :=
  callF_of (fun _ _ => by kernel_rfl) (callK_of_sw sync_Mutex_Lock_tt Try.func170 rfl (by kernel_rfl) (show sw Try.prog none 6 sync_Mutex_Lock_tt _ 0 (endK Try.prog [] Q) ⟨regs [.pointer p0], []⟩ w from
    Eq.mp (by kernel_rfl : sync_Mutex_Lock p0 w Q = sw Try.prog none 6 sync_Mutex_Lock_tt (Try.f170.body.getD .skip) 0 (endK Try.prog [] Q) ⟨regs [.pointer p0], []⟩ w) h))


/-! ### (*sync.Mutex).Unlock: function 171 -/

def sync_Mutex_Unlock (p0 : Option Addr) (w : World) (Q : Value → World → Prop) : Prop :=
  ∃ (a3 : Addr), p0 = some a3 ∧
  callF Try.prog 175 #[.pointer (some (a3.add 0))] w fun r5 w1 =>
  r5 = .tuple #[] ∧
  Q (.tuple #[]) w1

def sync_Mutex_Unlock_tt : Nat → List (Nat × TypeId) := fun _ => []

theorem sync_Mutex_Unlock_call (p0 : Option Addr) (w : World) (Q : Value → World → Prop) (h : sync_Mutex_Unlock p0 w Q) : callF Try.prog 171 #[.pointer p0] w Q :=
  callF_of (fun _ _ => by kernel_rfl) (callK_of_sw sync_Mutex_Unlock_tt Try.func171 rfl (by kernel_rfl) (show sw Try.prog none 6 sync_Mutex_Unlock_tt _ 0 (endK Try.prog [] Q) ⟨regs [.pointer p0], []⟩ w from
    Eq.mp (by kernel_rfl : sync_Mutex_Unlock p0 w Q = sw Try.prog none 6 sync_Mutex_Unlock_tt (Try.f171.body.getD .skip) 0 (endK Try.prog [] Q) ⟨regs [.pointer p0], []⟩ w) h))

theorem sync_Mutex_Unlock_calld (p0 : Option Addr) (w : World) (K : World → Prop) (h : sync_Mutex_Unlock p0 w (fun _ w => K w)) : callDF Try.prog 171 #[.pointer p0] w K :=
  ⟨fun _ _ => by kernel_rfl, callD_of_sw sync_Mutex_Unlock_tt Try.func171 rfl (by kernel_rfl) (show sw Try.prog none 6 sync_Mutex_Unlock_tt _ 0 (endD Try.prog [] K) ⟨regs [.pointer p0], []⟩ w from
    Eq.mp (by kernel_rfl : sync_Mutex_Unlock p0 w (fun _ w => K w) = sw Try.prog none 6 sync_Mutex_Unlock_tt (Try.f171.body.getD .skip) 0 (endD Try.prog [] K) ⟨regs [.pointer p0], []⟩ w) h)⟩
end Go.Sh
end

section
namespace Go.Sh
open Go Go.Fw Go.Proofs
set_option maxRecDepth 100000
set_option linter.unusedVariables false

/-! ### slices.Clone[[]byte,byte]: function 107 -/

def slices_Clone_byte_byte (p0 : Option Addr) (l0 : Nat) (c0 : Nat) (w : World) (Q : Value → World → Prop) : Prop :=
  ∃ (b4 : Bool) (w1 : World), Ef Try.prog (do eqGuard .eql 50 (.tmp 3) (.const (.slice none 0 0)) (.slice p0 l0 c0) (.slice none 0 0); binOp .eql 50 (.slice p0 l0 c0) (.slice none 0 0) : Sem Value) w (.bool b4) w1 ∧
  cond b4
  (Q (.slice none 0 0) w1)
  (∃ (p5 : Option Addr) (l5 : Nat) (c5 : Nat) (w2 : World), Ef Try.prog (Instr.buildSlice 50 0 #[]) w1 (.slice p5 l5 c5) w2 ∧
    ∃ (p7 : Option Addr) (l7 : Nat) (c7 : Nat) (w3 : World), Ef Try.prog (Builtin.append_ #[50, 50] 50 #[.slice p5 l5 c5, .slice p0 l0 c0]) w2 (.slice p7 l7 c7) w3 ∧
    Q (.slice p7 l7 c7) w3)

def slices_Clone_byte_byte_tt : Nat → List (Nat × TypeId) := fun _ => []

theorem slices_Clone_byte_byte_call (p0 : Option Addr) (l0 : Nat) (c0 : Nat) (w : World) (Q : Value → World → Prop) (h : slices_Clone_byte_byte p0 l0 c0 w Q) : callF Try.prog 107 #[.slice p0 l0 c0] w Q :=
  callF_of (fun _ _ => by kernel_rfl) (callK_of_sw slices_Clone_byte_byte_tt Try.func107 rfl (by kernel_rfl) (show sw Try.prog none 8 slices_Clone_byte_byte_tt _ 0 (endK Try.prog [.tmp 2] Q) ⟨regs [.slice p0 l0 c0], []⟩ w from
    Eq.mp (by kernel_rfl : slices_Clone_byte_byte p0 l0 c0 w Q = sw Try.prog none 8 slices_Clone_byte_byte_tt (Try.f107.body.getD .skip) 0 (endK Try.prog [.tmp 2] Q) ⟨regs [.slice p0 l0 c0], []⟩ w) h))


/-! ### slices.Concat[[]byte,byte]: function 149 -/

def slices_Concat_byte_byte_j1 (p0 : Option Addr) (l0 : Nat) (c0 : Nat) (p2 : Option Addr) (l2 : Nat) (c2 : Nat) (n3 : Int) (w : World) (Q : Value → World → Prop) : Prop :=
  callF Try.prog 165 #[.slice none 0 0, .int .i64 n3] w fun r24 w1 =>
  ∃ (p24 : Option Addr) (l24 : Nat) (c24 : Nat), r24 = .slice p24 l24 c24 ∧
  LoopS [.slice p2 l2 c2, .slice p24 l24 c24, .slice p0 l0 c0, .int .i64 ((l0 : Nat) : Int), .int .i64 0] w1 fun I2 μ2 us2 _ wl2 =>
  ∃ (p2_1 : Option Addr) (l2_1 : Nat) (c2_1 : Nat) (p6 : Option Addr) (l6 : Nat) (c6 : Nat) (p25 : Option Addr) (l25 : Nat) (c25 : Nat) (n26 : Int) (n27 : Int), us2 = [.slice p2_1 l2_1 c2_1, .slice p6 l6 c6, .slice p25 l25 c25, .int .i64 n26, .int .i64 n27] ∧
  cond (decide (n27 < n26))
  (∃ (a29 : Addr), IxA Try.prog 68 (.slice p25 l25 c25) (.int .i64 n27) a29 ∧
    ∃ (p30 : Option Addr) (l30 : Nat) (c30 : Nat), Ld Try.prog 50 (.pointer (some a29)) wl2 (.slice p30 l30 c30) ∧
    ∃ (p33 : Option Addr) (l33 : Nat) (c33 : Nat) (w2 : World), Ef Try.prog (Builtin.append_ #[50, 50] 50 #[.slice p6 l6 c6, .slice p30 l30 c30]) wl2 (.slice p33 l33 c33) w2 ∧
    goesOn [] [] I2 μ2 us2 [.slice p2_1 l2_1 c2_1, .slice p33 l33 c33, .slice p25 l25 c25, .int .i64 n26, .int .i64 (IntKind.i64.wrap (n27 + 1))] wl2 w2)
  (Q (.slice p6 l6 c6) wl2)

def slices_Concat_byte_byte (p0 : Option Addr) (l0 : Nat) (c0 : Nat) (w : World) (Q : Value → World → Prop) : Prop :=
  LoopS [.slice p0 l0 c0, .slice none 0 0, .int .i64 0, .slice p0 l0 c0, .int .i64 ((l0 : Nat) : Int), .int .i64 0] w fun I1 μ1 us1 _ wl1 =>
  ∃ (p0_1 : Option Addr) (l0_1 : Nat) (c0_1 : Nat) (p2 : Option Addr) (l2 : Nat) (c2 : Nat) (n3 : Int) (p9 : Option Addr) (l9 : Nat) (c9 : Nat) (n10 : Int) (n11 : Int), us1 = [.slice p0_1 l0_1 c0_1, .slice p2 l2 c2, .int .i64 n3, .slice p9 l9 c9, .int .i64 n10, .int .i64 n11] ∧
  cond (decide (n11 < n10))
  (∃ (a13 : Addr), IxA Try.prog 68 (.slice p9 l9 c9) (.int .i64 n11) a13 ∧
    ∃ (p14 : Option Addr) (l14 : Nat) (c14 : Nat), Ld Try.prog 50 (.pointer (some a13)) wl1 (.slice p14 l14 c14) ∧
    cond (decide ((IntKind.i64.wrap (n3 + ((l14 : Nat) : Int))) < 0))
    (∃ (v21 : Value) (w1 : World), Ef Try.prog (Instr.makeInterface 9 (.string (⟨#[108, 101, 110, 32, 111, 117, 116, 32, 111, 102, 32, 114, 97, 110, 103, 101]⟩ : ByteArray))) wl1 (v21) w1 ∧
      False)
    (goesOn [] [] I1 μ1 us1 [.slice p0_1 l0_1 c0_1, .slice p2 l2 c2, .int .i64 (IntKind.i64.wrap (n3 + ((l14 : Nat) : Int))), .slice p9 l9 c9, .int .i64 n10, .int .i64 (IntKind.i64.wrap (n11 + 1))] wl1 wl1))
  (slices_Concat_byte_byte_j1 p0_1 l0_1 c0_1 p2 l2 c2 n3 wl1 Q)

def slices_Concat_byte_byte_tt : Nat → List (Nat × TypeId) := fun n => match n with | 0 => [(0, 68), (2, 50), (3, 3), (9, 68), (10, 3), (11, 3)] | 2 => [(2, 50), (6, 50), (25, 68), (26, 3), (27, 3)] | _ => []

theorem slices_Concat_byte_byte_call (p0 : Option Addr) (l0 : Nat) (c0 : Nat) (w : World) (Q : Value → World → Prop) (h : slices_Concat_byte_byte p0 l0 c0 w Q) : callF Try.prog 149 #[.slice p0 l0 c0] w Q :=
  callF_of (fun _ _ => by kernel_rfl) (callK_of_sw slices_Concat_byte_byte_tt Try.func149 rfl (by kernel_rfl) (show sw Try.prog none 36 slices_Concat_byte_byte_tt _ 0 (endK Try.prog [.tmp 2] Q) ⟨regs [.slice p0 l0 c0], []⟩ w from
    Eq.mp (by kernel_rfl : slices_Concat_byte_byte p0 l0 c0 w Q = sw Try.prog none 36 slices_Concat_byte_byte_tt (Try.f149.body.getD .skip) 0 (endK Try.prog [.tmp 2] Q) ⟨regs [.slice p0 l0 c0], []⟩ w) h))


/-! ### slices.ContainsFunc[[][]byte,[]byte]: function 158 -/

def slices_ContainsFunc_byte_byte (p0 : Option Addr) (l0 : Nat) (c0 : Nat) (v1 : Value) (w : World) (Q : Value → World → Prop) : Prop :=
  callF Try.prog 168 #[.slice p0 l0 c0, v1] w fun r7 w1 =>
  ∃ (n7 : Int), r7 = .int .i64 n7 ∧
  Q (.bool (decide (n7 ≥ 0))) w1

def slices_ContainsFunc_byte_byte_tt : Nat → List (Nat × TypeId) := fun _ => []

theorem slices_ContainsFunc_byte_byte_call (p0 : Option Addr) (l0 : Nat) (c0 : Nat) (v1 : Value) (w : World) (Q : Value → World → Prop) (h : slices_ContainsFunc_byte_byte p0 l0 c0 v1 w Q) : callF Try.prog 158 #[.slice p0 l0 c0, v1] w Q :=
  callF_of (fun _ _ => by kernel_rfl) (callK_of_sw slices_ContainsFunc_byte_byte_tt Try.func158 rfl (by kernel_rfl) (show sw Try.prog none 9 slices_ContainsFunc_byte_byte_tt _ 0 (endK Try.prog [.tmp 4] Q) ⟨regs [.slice p0 l0 c0, v1], []⟩ w from
    Eq.mp (by kernel_rfl : slices_ContainsFunc_byte_byte p0 l0 c0 v1 w Q = sw Try.prog none 9 slices_ContainsFunc_byte_byte_tt (Try.f158.body.getD .skip) 0 (endK Try.prog [.tmp 4] Q) ⟨regs [.slice p0 l0 c0, v1], []⟩ w) h))


/-! ### slices.Grow[[]byte,byte]: function 165 -/

def slices_Grow_byte_byte_j1 (p0 : Option Addr) (l0 : Nat) (c0 : Nat) (n1 : Int) (p4 : Option Addr) (l4 : Nat) (c4 : Nat) (w : World) (Q : Value → World → Prop) : Prop :=
  ∃ (n10 : Int), Pu Try.prog (Builtin.cap_ #[50] 3 #[.slice p0 l0 c0]) (.int .i64 n10) ∧
  cond (decide ((IntKind.i64.wrap (n1 - (IntKind.i64.wrap (n10 - ((l0 : Nat) : Int))))) > 0))
  (∃ (n19 : Int), Pu Try.prog (Builtin.cap_ #[50] 3 #[.slice p0 l0 c0]) (.int .i64 n19) ∧
    ∃ (p20 : Option Addr) (l20 : Nat) (c20 : Nat), Pu Try.prog (Instr.sliceAt 50 (.slice p0 l0 c0) none (some (.int .i64 n19)) none) (.slice p20 l20 c20) ∧
    ∃ (p22 : Option Addr) (l22 : Nat) (c22 : Nat) (w1 : World), Ef Try.prog (Builtin.append_ #[50, 3] 50 #[.slice p20 l20 c20, .int .i64 (IntKind.i64.wrap (n1 - (IntKind.i64.wrap (n10 - ((l0 : Nat) : Int)))))]) w (.slice p22 l22 c22) w1 ∧
    ∃ (p25 : Option Addr) (l25 : Nat) (c25 : Nat), Pu Try.prog (Instr.sliceAt 50 (.slice p22 l22 c22) none (some (.int .i64 ((l0 : Nat) : Int))) none) (.slice p25 l25 c25) ∧
    Q (.slice p25 l25 c25) w1)
  (Q (.slice p0 l0 c0) w)

def slices_Grow_byte_byte (p0 : Option Addr) (l0 : Nat) (c0 : Nat) (n1 : Int) (w : World) (Q : Value → World → Prop) : Prop :=
  cond (decide (n1 < 0))
  (∃ (v7 : Value) (w1 : World), Ef Try.prog (Instr.makeInterface 9 (.string (⟨#[99, 97, 110, 110, 111, 116, 32, 98, 101, 32, 110, 101, 103, 97, 116, 105, 118, 101]⟩ : ByteArray))) w (v7) w1 ∧
    False)
  (slices_Grow_byte_byte_j1 p0 l0 c0 n1 none 0 0 w Q)

def slices_Grow_byte_byte_tt : Nat → List (Nat × TypeId) := fun _ => []

theorem slices_Grow_byte_byte_call (p0 : Option Addr) (l0 : Nat) (c0 : Nat) (n1 : Int) (w : World) (Q : Value → World → Prop) (h : slices_Grow_byte_byte p0 l0 c0 n1 w Q) : callF Try.prog 165 #[.slice p0 l0 c0, .int .i64 n1] w Q :=
  callF_of (fun _ _ => by kernel_rfl) (callK_of_sw slices_Grow_byte_byte_tt Try.func165 rfl (by kernel_rfl) (show sw Try.prog none 27 slices_Grow_byte_byte_tt _ 0 (endK Try.prog [.tmp 4] Q) ⟨regs [.slice p0 l0 c0, .int .i64 n1], []⟩ w from
    Eq.mp (by kernel_rfl : slices_Grow_byte_byte p0 l0 c0 n1 w Q = sw Try.prog none 27 slices_Grow_byte_byte_tt (Try.f165.body.getD .skip) 0 (endK Try.prog [.tmp 4] Q) ⟨regs [.slice p0 l0 c0, .int .i64 n1], []⟩ w) h))


/-! ### slices.IndexFunc[[][]byte,[]byte]: function 168 -/

def slices_IndexFunc_byte_byte (p0 : Option Addr) (l0 : Nat) (c0 : Nat) (v1 : Value) (w : World) (Q : Value → World → Prop) : Prop :=
  LoopS [.slice p0 l0 c0, v1, .int .i64 0, .int .i64 ((l0 : Nat) : Int), .int .i64 0] w fun I1 μ1 us1 _ wl1 =>
  ∃ (p0_1 : Option Addr) (l0_1 : Nat) (c0_1 : Nat) (v1_1 : Value) (n4 : Int) (n7 : Int) (n8 : Int), us1 = [.slice p0_1 l0_1 c0_1, v1_1, .int .i64 n4, .int .i64 n7, .int .i64 n8] ∧
  cond (decide (n8 < n7))
  (∃ (a14 : Addr), IxA Try.prog 68 (.slice p0_1 l0_1 c0_1) (.int .i64 n8) a14 ∧
    ∃ (p15 : Option Addr) (l15 : Nat) (c15 : Nat), Ld Try.prog 50 (.pointer (some a14)) wl1 (.slice p15 l15 c15) ∧
    callV Try.prog (v1_1) [.slice p15 l15 c15] wl1 fun r16 w1 =>
    ∃ (b16 : Bool), r16 = .bool b16 ∧
    cond b16
    (Q (.int .i64 n8) w1)
    (goesOn [] [] I1 μ1 us1 [.slice p0_1 l0_1 c0_1, v1_1, .int .i64 n4, .int .i64 n7, .int .i64 (IntKind.i64.wrap (n8 + 1))] wl1 w1))
  (Q (.int .i64 (-1)) wl1)

def slices_IndexFunc_byte_byte_tt : Nat → List (Nat × TypeId) := fun n => match n with | 0 => [(0, 68), (1, 78), (4, 3), (7, 3), (8, 3)] | _ => []

theorem slices_IndexFunc_byte_byte_call (p0 : Option Addr) (l0 : Nat) (c0 : Nat) (v1 : Value) (w : World) (Q : Value → World → Prop) (h : slices_IndexFunc_byte_byte p0 l0 c0 v1 w Q) : callF Try.prog 168 #[.slice p0 l0 c0, v1] w Q :=
  callF_of (fun _ _ => by kernel_rfl) (callK_of_sw slices_IndexFunc_byte_byte_tt Try.func168 rfl (by kernel_rfl) (show sw Try.prog none 19 slices_IndexFunc_byte_byte_tt _ 0 (endK Try.prog [.tmp 4] Q) ⟨regs [.slice p0 l0 c0, v1], []⟩ w from
    Eq.mp (by kernel_rfl : slices_IndexFunc_byte_byte p0 l0 c0 v1 w Q = sw Try.prog none 19 slices_IndexFunc_byte_byte_tt (Try.f168.body.getD .skip) 0 (endK Try.prog [.tmp 4] Q) ⟨regs [.slice p0 l0 c0, v1], []⟩ w) h))

end Go.Sh
end

section
namespace Go.Sh
open Go Go.Fw Go.Proofs
set_option maxRecDepth 100000
set_option linter.unusedVariables false

/-! ### crossway/field.Mul: function 42 -/

def field_Mul (n0 : Int) (n1 : Int) (w : World) (Q : Value → World → Prop) : Prop :=
  LoopS [.int .u8 n0, .int .u8 n1, .int .u8 0, .int .u8 0] w fun I1 μ1 us1 _ wl1 =>
  ∃ (n0_1 : Int) (n1_1 : Int) (n4 : Int) (n5 : Int), us1 = [.int .u8 n0_1, .int .u8 n1_1, .int .u8 n4, .int .u8 n5] ∧
  cond (n1_1 != 0)
  (cond ((iand .u8 n1_1 1) != 0)
    (callF Try.prog 106 #[.int .u8 n0_1] wl1 fun r17 w1 =>
      ∃ (n17 : Int), r17 = .int .u8 n17 ∧
      goesOn [] [] I1 μ1 us1 [.int .u8 n17, .int .u8 (Int.fdiv n1_1 (2 ^ 1)), .int .u8 n4, .int .u8 (ixor .u8 n5 n0_1)] wl1 w1)
    (callF Try.prog 106 #[.int .u8 n0_1] wl1 fun r17_1 w2 =>
      ∃ (n17_1 : Int), r17_1 = .int .u8 n17_1 ∧
      goesOn [] [] I1 μ1 us1 [.int .u8 n17_1, .int .u8 (Int.fdiv n1_1 (2 ^ 1)), .int .u8 n4, .int .u8 n5] wl1 w2))
  (Q (.int .u8 n5) wl1)

def field_Mul_tt : Nat → List (Nat × TypeId) := fun n => match n with | 0 => [(0, 5), (1, 5), (4, 5), (5, 5)] | _ => []

theorem field_Mul_call (n0 : Int) (n1 : Int) (w : World) (Q : Value → World → Prop) (h : field_Mul n0 n1 w Q) : callF Try.prog 42 #[.int .u8 n0, .int .u8 n1] w Q :=
  callF_of (fun _ _ => by kernel_rfl) (callK_of_sw field_Mul_tt Try.func42 rfl (by kernel_rfl) (show sw Try.prog none 19 field_Mul_tt _ 0 (endK Try.prog [.tmp 4] Q) ⟨regs [.int .u8 n0, .int .u8 n1], []⟩ w from
    Eq.mp (by kernel_rfl : field_Mul n0 n1 w Q = sw Try.prog none 19 field_Mul_tt (Try.f42.body.getD .skip) 0 (endK Try.prog [.tmp 4] Q) ⟨regs [.int .u8 n0, .int .u8 n1], []⟩ w) h))


/-! ### crossway/field.Inv: function 44 -/

def field_Inv (n0 : Int) (w : World) (Q : Value → World → Prop) : Prop :=
  callF Try.prog 46 #[.int .u8 n0, .int .u64 254] w fun r4 w1 =>
  ∃ (n4 : Int), r4 = .int .u8 n4 ∧
  Q (.int .u8 n4) w1

def field_Inv_tt : Nat → List (Nat × TypeId) := fun _ => []

theorem field_Inv_call (n0 : Int) (w : World) (Q : Value → World → Prop) (h : field_Inv n0 w Q) : callF Try.prog 44 #[.int .u8 n0] w Q :=
  callF_of (fun _ _ => by kernel_rfl) (callK_of_sw field_Inv_tt Try.func44 rfl (by kernel_rfl) (show sw Try.prog none 5 field_Inv_tt _ 0 (endK Try.prog [.tmp 2] Q) ⟨regs [.int .u8 n0], []⟩ w from
    Eq.mp (by kernel_rfl : field_Inv n0 w Q = sw Try.prog none 5 field_Inv_tt (Try.f44.body.getD .skip) 0 (endK Try.prog [.tmp 2] Q) ⟨regs [.int .u8 n0], []⟩ w) h))


/-! ### crossway/field.Pow: function 46 -/

def field_Pow (n0 : Int) (n1 : Int) (w : World) (Q : Value → World → Prop) : Prop :=
  LoopS [.int .u8 n0, .int .u64 n1, .int .u8 0, .int .u8 1] w fun I1 μ1 us1 _ wl1 =>
  ∃ (n0_1 : Int) (n1_1 : Int) (n4 : Int) (n5 : Int), us1 = [.int .u8 n0_1, .int .u64 n1_1, .int .u8 n4, .int .u8 n5] ∧
  cond (n1_1 != 0)
  (cond ((iand .u64 n1_1 1) != 0)
    (callF Try.prog 42 #[.int .u8 n5, .int .u8 n0_1] wl1 fun r15 w1 =>
      ∃ (n15 : Int), r15 = .int .u8 n15 ∧
      callF Try.prog 42 #[.int .u8 n0_1, .int .u8 n0_1] w1 fun r18 w2 =>
      ∃ (n18 : Int), r18 = .int .u8 n18 ∧
      goesOn [] [] I1 μ1 us1 [.int .u8 n18, .int .u64 (Int.fdiv n1_1 (2 ^ 1)), .int .u8 n4, .int .u8 n15] wl1 w2)
    (callF Try.prog 42 #[.int .u8 n0_1, .int .u8 n0_1] wl1 fun r18_1 w3 =>
      ∃ (n18_1 : Int), r18_1 = .int .u8 n18_1 ∧
      goesOn [] [] I1 μ1 us1 [.int .u8 n18_1, .int .u64 (Int.fdiv n1_1 (2 ^ 1)), .int .u8 n4, .int .u8 n5] wl1 w3))
  (Q (.int .u8 n5) wl1)

def field_Pow_tt : Nat → List (Nat × TypeId) := fun n => match n with | 0 => [(0, 5), (1, 45), (4, 5), (5, 5)] | _ => []

theorem field_Pow_call (n0 : Int) (n1 : Int) (w : World) (Q : Value → World → Prop) (h : field_Pow n0 n1 w Q) : callF Try.prog 46 #[.int .u8 n0, .int .u64 n1] w Q :=
  callF_of (fun _ _ => by kernel_rfl) (callK_of_sw field_Pow_tt Try.func46 rfl (by kernel_rfl) (show sw Try.prog none 20 field_Pow_tt _ 0 (endK Try.prog [.tmp 4] Q) ⟨regs [.int .u8 n0, .int .u64 n1], []⟩ w from
    Eq.mp (by kernel_rfl : field_Pow n0 n1 w Q = sw Try.prog none 20 field_Pow_tt (Try.f46.body.getD .skip) 0 (endK Try.prog [.tmp 4] Q) ⟨regs [.int .u8 n0, .int .u64 n1], []⟩ w) h))


/-! ### crossway/field.New: function 48 -/

def field_New (p0 : Option Addr) (l0 : Nat) (c0 : Nat) (w : World) (Q : Value → World → Prop) : Prop :=
  callF Try.prog 107 #[.slice p0 l0 c0] w fun r4 w1 =>
  ∃ (p4 : Option Addr) (l4 : Nat) (c4 : Nat), r4 = .slice p4 l4 c4 ∧
  New #[.slice p4 l4 c4, .int .u32 0, .int .i32 0, .int .u32 0, .int .i64 0, .int .u8 0, .int .u8 0, .int .u8 0, .int .u8 0, .int .u8 0, .int .u8 0, .int .u8 0, .int .u8 0, .int .u8 0, .int .u8 0, .int .u8 0, .int .u8 0, .int .u8 0, .int .u8 0, .int .u8 0, .int .u8 0, .int .u8 0, .int .u8 0, .int .u8 0, .int .u8 0, .int .u8 0, .int .u8 0, .int .u8 0, .int .u8 0, .int .u8 0, .int .u8 0, .int .u8 0, .int .u8 0, .int .u8 0, .int .u8 0, .int .u8 0, .int .u8 0, .int .u8 0, .int .u8 0, .int .u8 0, .int .u8 0, .int .u8 0, .int .u8 0, .int .u8 0, .int .u8 0, .int .u8 0, .int .u8 0, .int .u8 0, .int .u8 0, .int .u8 0, .int .u8 0, .int .u8 0, .int .u8 0, .int .u8 0, .int .u8 0, .int .u8 0, .int .u8 0, .int .u8 0, .int .u8 0, .int .u8 0, .int .u8 0, .int .u8 0, .int .u8 0, .int .u8 0, .int .u8 0, .int .u8 0, .int .u8 0, .int .u8 0, .int .u8 0, .int .u8 0, .int .u8 0, .int .u8 0, .int .u8 0, .int .u8 0, .int .u8 0, .int .u8 0, .int .u8 0, .int .u8 0, .int .u8 0, .int .u8 0, .int .u8 0, .int .u8 0, .int .u8 0, .int .u8 0, .int .u8 0, .int .u8 0, .int .u8 0, .int .u8 0, .int .u8 0, .int .u8 0, .int .u8 0, .int .u8 0, .int .u8 0, .int .u8 0, .int .u8 0, .int .u8 0, .int .u8 0, .int .u8 0, .int .u8 0, .int .u8 0, .int .u8 0, .int .u8 0, .int .u8 0, .int .u8 0, .int .u8 0, .int .u8 0, .int .u8 0, .int .u8 0, .int .u8 0, .int .u8 0, .int .u8 0, .int .u8 0, .int .u8 0, .int .u8 0, .int .u8 0, .int .u8 0, .int .u8 0, .int .u8 0, .int .u8 0, .int .u8 0, .int .u8 0, .int .u8 0, .int .u8 0, .int .u8 0, .int .u8 0, .int .u8 0, .int .u8 0, .int .u8 0, .int .u8 0, .int .u8 0, .int .u8 0, .int .u8 0, .int .u8 0, .int .u8 0, .int .u8 0, .int .u8 0, .int .u8 0, .int .u8 0, .int .u8 0, .int .u8 0, .int .u8 0, .int .u8 0, .int .u8 0, .int .u8 0, .int .u8 0, .int .u8 0, .int .u8 0, .int .u8 0, .int .u8 0, .int .u8 0, .int .u8 0, .int .u8 0, .int .u8 0, .int .u8 0, .int .u8 0, .int .u8 0, .int .u8 0, .int .u8 0, .int .u8 0, .int .u8 0, .int .u8 0, .int .u8 0, .int .u8 0, .int .u8 0, .int .u8 0, .int .u8 0, .int .u8 0, .int .u8 0, .int .u8 0, .int .u8 0, .int .u8 0, .int .u8 0, .int .u8 0, .int .u8 0, .int .u8 0, .int .u8 0, .int .u8 0, .int .u8 0, .int .u8 0, .int .u8 0, .int .u8 0, .int .u8 0, .int .u8 0, .int .u8 0, .int .u8 0, .int .u8 0, .int .u8 0, .int .u8 0, .int .u8 0, .int .u8 0, .int .u8 0, .int .u8 0, .int .u8 0, .int .u8 0, .int .u8 0, .int .u8 0, .int .u8 0, .int .u8 0, .int .u8 0, .int .u8 0, .int .u8 0, .int .u8 0, .int .u8 0, .int .u8 0, .int .u8 0, .int .u8 0, .int .u8 0, .int .u8 0, .int .u8 0, .int .u8 0, .int .u8 0, .int .u8 0, .int .u8 0, .int .u8 0, .int .u8 0, .int .u8 0, .int .u8 0, .int .u8 0, .int .u8 0, .int .u8 0, .int .u8 0, .int .u8 0, .int .u8 0, .int .u8 0, .int .u8 0, .int .u8 0, .int .u8 0, .int .u8 0, .int .u8 0, .int .u8 0, .int .u8 0, .int .u8 0, .int .u8 0, .int .u8 0, .int .u8 0, .int .u8 0, .int .u8 0, .int .u8 0, .int .u8 0, .int .u8 0, .int .u8 0, .int .u8 0, .int .u8 0, .int .u8 0, .int .u8 0, .int .u8 0, .int .u8 0, .int .u8 0, .int .u8 0, .int .u8 0, .int .u8 0, .int .u8 0, .int .u8 0, .int .u8 0, .int .u8 0, .int .u8 0, .int .u8 0, .int .u8 0, .int .u8 0, .int .u8 0, .int .u8 0, .int .u8 0, .int .u8 0, .int .u8 0, .int .u8 0, .int .u8 0, .int .u8 0, .int .u8 0, .int .u8 0, .int .u8 0, .int .u8 0, .int .u8 0, .int .u8 0, .int .u8 0, .int .u8 0, .int .u8 0, .int .u8 0, .int .u8 0, .int .u8 0, .int .u8 0, .int .u8 0, .int .u8 0, .int .u8 0, .int .u8 0, .int .u8 0, .int .u8 0, .int .u8 0, .int .u8 0, .int .u8 0, .int .u8 0, .int .u8 0, .int .u8 0, .int .u8 0, .int .u8 0, .int .u8 0, .int .u8 0, .int .u8 0, .int .u8 0, .int .u8 0, .int .u8 0, .int .u8 0, .int .u8 0, .int .u8 0, .int .u8 0, .int .u8 0, .int .u8 0, .int .u8 0, .int .u8 0, .int .u8 0, .int .u8 0, .int .u8 0, .int .u8 0, .int .u8 0, .int .u8 0, .int .u8 0, .int .u8 0, .int .u8 0, .int .u8 0, .int .u8 0, .int .u8 0, .int .u8 0, .int .u8 0, .int .u8 0, .int .u8 0, .int .u8 0, .int .u8 0, .int .u8 0, .int .u8 0, .int .u8 0, .int .u8 0, .int .u8 0, .int .u8 0, .int .u8 0, .int .u8 0, .int .u8 0, .int .u8 0, .int .u8 0, .int .u8 0, .int .u8 0, .int .u8 0, .int .u8 0, .int .u8 0, .int .u8 0, .int .u8 0, .int .u8 0, .int .u8 0, .int .u8 0, .int .u8 0, .int .u8 0, .int .u8 0, .int .u8 0, .int .u8 0, .int .u8 0, .int .u8 0, .int .u8 0, .int .u8 0, .int .u8 0, .int .u8 0, .int .u8 0, .int .u8 0, .int .u8 0, .int .u8 0, .int .u8 0, .int .u8 0, .int .u8 0, .int .u8 0, .int .u8 0, .int .u8 0, .int .u8 0, .int .u8 0, .int .u8 0, .int .u8 0, .int .u8 0, .int .u8 0, .int .u8 0, .int .u8 0, .int .u8 0, .int .u8 0, .int .u8 0, .int .u8 0, .int .u8 0, .int .u8 0, .int .u8 0, .int .u8 0, .int .u8 0, .int .u8 0, .int .u8 0, .int .u8 0, .int .u8 0, .int .u8 0, .int .u8 0, .int .u8 0, .int .u8 0, .int .u8 0, .int .u8 0, .int .u8 0, .int .u8 0, .int .u8 0, .int .u8 0, .int .u8 0, .int .u8 0, .int .u8 0, .int .u8 0, .int .u8 0, .int .u8 0, .int .u8 0, .int .u8 0, .int .u8 0, .int .u8 0, .int .u8 0, .int .u8 0, .int .u8 0, .int .u8 0, .int .u8 0, .int .u8 0, .int .u8 0, .int .u8 0, .int .u8 0, .int .u8 0, .int .u8 0, .int .u8 0, .int .u8 0, .int .u8 0, .int .u8 0, .int .u8 0, .int .u8 0, .int .u8 0, .int .u8 0, .int .u8 0, .int .u8 0, .int .u8 0, .int .u8 0, .int .u8 0, .int .u8 0, .int .u8 0, .int .u8 0, .int .u8 0, .int .u8 0, .int .u8 0, .int .u8 0, .int .u8 0, .int .u8 0, .int .u8 0, .int .u8 0, .int .u8 0, .int .u8 0, .int .u8 0, .int .u8 0, .int .u8 0, .int .u8 0, .int .u8 0, .int .u8 0, .int .u8 0, .int .u8 0, .int .u8 0, .int .u8 0, .int .u8 0, .int .u8 0, .int .u8 0, .int .u8 0, .int .u8 0, .int .u8 0, .int .u8 0, .int .u8 0, .int .u8 0, .int .u8 0, .int .u8 0, .int .u8 0, .int .u8 0, .int .u8 0, .int .u8 0, .int .u8 0, .int .u8 0, .int .u8 0, .int .u8 0, .int .u8 0, .int .u8 0, .int .u8 0, .int .u8 0, .int .u8 0, .int .u8 0, .int .u8 0, .int .u8 0, .int .u8 0, .int .u8 0, .int .u8 0, .int .u8 0, .int .u8 0, .int .u8 0, .int .u8 0, .int .u8 0, .int .u8 0, .int .u8 0, .int .u8 0, .int .u8 0, .int .u8 0, .int .u8 0, .int .u8 0, .int .u8 0, .int .u8 0, .int .u8 0, .int .u8 0, .int .u8 0, .int .u8 0, .int .u8 0, .int .u8 0, .int .u8 0, .int .u8 0, .int .u8 0, .int .u8 0, .int .u8 0, .int .u8 0, .int .u8 0, .int .u8 0, .int .u8 0, .int .u8 0, .int .u8 0, .slice none 0 0] 149 w1 fun k6 w2 =>
  Q (.pointer (some (⟨k6, 0, none⟩ : Addr))) w2

def field_New_tt : Nat → List (Nat × TypeId) := fun _ => []

theorem field_New_call (p0 : Option Addr) (l0 : Nat) (c0 : Nat) (w : World) (Q : Value → World → Prop) (h : field_New p0 l0 c0 w Q) : callF Try.prog 48 #[.slice p0 l0 c0] w Q :=
  callF_of (fun _ _ => by kernel_rfl) (callK_of_sw field_New_tt Try.func48 rfl (by kernel_rfl) (show sw Try.prog none 7 field_New_tt _ 0 (endK Try.prog [.tmp 2] Q) ⟨regs [.slice p0 l0 c0], []⟩ w from
    Eq.mp (by kernel_rfl : field_New p0 l0 c0 w Q = sw Try.prog none 7 field_New_tt (Try.f48.body.getD .skip) 0 (endK Try.prog [.tmp 2] Q) ⟨regs [.slice p0 l0 c0], []⟩ w) h))


/-! ### (*crossway/field.Tables).Made: function 49 -/

def field_Tables_Made (p0 : Option Addr) (w : World) (Q : Value → World → Prop) : Prop :=
  ∃ (a4 : Addr), p0 = some a4 ∧
  callF Try.prog 103 #[.pointer (some (a4.add 4))] w fun r6 w1 =>
  ∃ (n6 : Int), r6 = .int .i64 n6 ∧
  Q (.int .i64 n6) w1

def field_Tables_Made_tt : Nat → List (Nat × TypeId) := fun _ => []

theorem field_Tables_Made_call (p0 : Option Addr) (w : World) (Q : Value → World → Prop) (h : field_Tables_Made p0 w Q) : callF Try.prog 49 #[.pointer p0] w Q :=
  callF_of (fun _ _ => by kernel_rfl) (callK_of_sw field_Tables_Made_tt Try.func49 rfl (by kernel_rfl) (show sw Try.prog none 7 field_Tables_Made_tt _ 0 (endK Try.prog [.tmp 2] Q) ⟨regs [.pointer p0], []⟩ w from
    Eq.mp (by kernel_rfl : field_Tables_Made p0 w Q = sw Try.prog none 7 field_Tables_Made_tt (Try.f49.body.getD .skip) 0 (endK Try.prog [.tmp 2] Q) ⟨regs [.pointer p0], []⟩ w) h))


/-! ### (*crossway/field.Tables).Sub: function 50 -/

def field_Tables_Sub (p0 : Option Addr) (n1 : Int) (w : World) (Q : Value → World → Prop) : Prop :=
  callF Try.prog 108 #[.pointer p0] w fun r6 w1 =>
  ∃ (p6 : Option Addr), r6 = .pointer p6 ∧
  ∃ (a8 : Addr), p6 = some a8 ∧
  ∃ (a10 : Addr), IxA Try.prog 146 (.pointer (some (a8.add 5))) (.int .u8 n1) a10 ∧
  ∃ (n11 : Int), Ld Try.prog 5 (.pointer (some a10)) w1 (.int .u8 n11) ∧
  Q (.int .u8 n11) w1

def field_Tables_Sub_tt : Nat → List (Nat × TypeId) := fun _ => []

theorem field_Tables_Sub_call (p0 : Option Addr) (n1 : Int) (w : World) (Q : Value → World → Prop) (h : field_Tables_Sub p0 n1 w Q) : callF Try.prog 50 #[.pointer p0, .int .u8 n1] w Q :=
  callF_of (fun _ _ => by kernel_rfl) (callK_of_sw field_Tables_Sub_tt Try.func50 rfl (by kernel_rfl) (show sw Try.prog none 12 field_Tables_Sub_tt _ 0 (endK Try.prog [.tmp 4] Q) ⟨regs [.pointer p0, .int .u8 n1], []⟩ w from
    Eq.mp (by kernel_rfl : field_Tables_Sub p0 n1 w Q = sw Try.prog none 12 field_Tables_Sub_tt (Try.f50.body.getD .skip) 0 (endK Try.prog [.tmp 4] Q) ⟨regs [.pointer p0, .int .u8 n1], []⟩ w) h))


/-! ### (*crossway/field.Tables).Unsub: function 52 -/

def field_Tables_Unsub (p0 : Option Addr) (n1 : Int) (w : World) (Q : Value → World → Prop) : Prop :=
  callF Try.prog 108 #[.pointer p0] w fun r6 w1 =>
  ∃ (p6 : Option Addr), r6 = .pointer p6 ∧
  ∃ (a8 : Addr), p6 = some a8 ∧
  ∃ (a10 : Addr), IxA Try.prog 146 (.pointer (some (a8.add 261))) (.int .u8 n1) a10 ∧
  ∃ (n11 : Int), Ld Try.prog 5 (.pointer (some a10)) w1 (.int .u8 n11) ∧
  Q (.int .u8 n11) w1

def field_Tables_Unsub_tt : Nat → List (Nat × TypeId) := fun _ => []

theorem field_Tables_Unsub_call (p0 : Option Addr) (n1 : Int) (w : World) (Q : Value → World → Prop) (h : field_Tables_Unsub p0 n1 w Q) : callF Try.prog 52 #[.pointer p0, .int .u8 n1] w Q :=
  callF_of (fun _ _ => by kernel_rfl) (callK_of_sw field_Tables_Unsub_tt Try.func52 rfl (by kernel_rfl) (show sw Try.prog none 12 field_Tables_Unsub_tt _ 0 (endK Try.prog [.tmp 4] Q) ⟨regs [.pointer p0, .int .u8 n1], []⟩ w from
    Eq.mp (by kernel_rfl : field_Tables_Unsub p0 n1 w Q = sw Try.prog none 12 field_Tables_Unsub_tt (Try.f52.body.getD .skip) 0 (endK Try.prog [.tmp 4] Q) ⟨regs [.pointer p0, .int .u8 n1], []⟩ w) h))


/-! ### (*crossway/field.Tables).Times: function 54 -/

def field_Tables_Times_j1 (p0 : Option Addr) (n1 : Int) (n2 : Int) (n6 : Int) (n7 : Int) (w : World) (Q : Value → World → Prop) : Prop :=
  ∃ (a22 : Addr), p0 = some a22 ∧
  ∃ (p24 : Option Addr) (l24 : Nat) (c24 : Nat), Ld Try.prog 147 (.pointer (some (a22.add 517))) w (.slice p24 l24 c24) ∧
  ∃ (a27 : Addr), IxA Try.prog 147 (.slice p24 l24 c24) (.int .i64 n1) a27 ∧
  ∃ (a28 : Addr), IxA Try.prog 146 (.pointer (some a27)) (.int .u8 n2) a28 ∧
  ∃ (n29 : Int), Ld Try.prog 5 (.pointer (some a28)) w (.int .u8 n29) ∧
  Q (.tuple #[.int .u8 n29, .int .i64 0]) w

def field_Tables_Times (p0 : Option Addr) (n1 : Int) (n2 : Int) (w : World) (Q : Value → World → Prop) : Prop :=
  callF Try.prog 108 #[.pointer p0] w fun r9 w1 =>
  ∃ (p9 : Option Addr), r9 = .pointer p9 ∧
  cond (decide (n1 < 0))
  (Q (.tuple #[.int .u8 0, .int .i64 11]) w1)
  (∃ (a15 : Addr), p0 = some a15 ∧
    ∃ (p17 : Option Addr) (l17 : Nat) (c17 : Nat), Ld Try.prog 147 (.pointer (some (a15.add 517))) w1 (.slice p17 l17 c17) ∧
    cond (decide (n1 ≥ ((l17 : Nat) : Int)))
    (Q (.tuple #[.int .u8 0, .int .i64 11]) w1)
    (field_Tables_Times_j1 p0 n1 n2 0 0 w1 Q))

def field_Tables_Times_tt : Nat → List (Nat × TypeId) := fun _ => []

theorem field_Tables_Times_call (p0 : Option Addr) (n1 : Int) (n2 : Int) (w : World) (Q : Value → World → Prop) (h : field_Tables_Times p0 n1 n2 w Q) : callF Try.prog 54 #[.pointer p0, .int .i64 n1, .int .u8 n2] w Q :=
  callF_of (fun _ _ => by kernel_rfl) (callK_of_sw field_Tables_Times_tt Try.func54 rfl (by kernel_rfl) (show sw Try.prog none 30 field_Tables_Times_tt _ 0 (endK Try.prog [.tmp 6, .tmp 7] Q) ⟨regs [.pointer p0, .int .i64 n1, .int .u8 n2], []⟩ w from
    Eq.mp (by kernel_rfl : field_Tables_Times p0 n1 n2 w Q = sw Try.prog none 30 field_Tables_Times_tt (Try.f54.body.getD .skip) 0 (endK Try.prog [.tmp 6, .tmp 7] Q) ⟨regs [.pointer p0, .int .i64 n1, .int .u8 n2], []⟩ w) h))


/-! ### crossway/field.Sum: function 55 -/

def field_Sum (p0 : Option Addr) (l0 : Nat) (c0 : Nat) (w : World) (Q : Value → World → Prop) : Prop :=
  LoopS [.int .u8 0, .int .u8 0, .slice p0 l0 c0, .int .i64 ((l0 : Nat) : Int), .int .i64 0] w fun I1 μ1 us1 _ wl1 =>
  ∃ (n2 : Int) (n3 : Int) (p6 : Option Addr) (l6 : Nat) (c6 : Nat) (n7 : Int) (n8 : Int), us1 = [.int .u8 n2, .int .u8 n3, .slice p6 l6 c6, .int .i64 n7, .int .i64 n8] ∧
  cond (decide (n8 < n7))
  (∃ (a10 : Addr), IxA Try.prog 50 (.slice p6 l6 c6) (.int .i64 n8) a10 ∧
    ∃ (n11 : Int), Ld Try.prog 5 (.pointer (some a10)) wl1 (.int .u8 n11) ∧
    goesOn [] [] I1 μ1 us1 [.int .u8 n2, .int .u8 (ixor .u8 n3 n11), .slice p6 l6 c6, .int .i64 n7, .int .i64 (IntKind.i64.wrap (n8 + 1))] wl1 wl1)
  (Q (.int .u8 n3) wl1)

def field_Sum_tt : Nat → List (Nat × TypeId) := fun n => match n with | 0 => [(2, 5), (3, 5), (6, 50), (7, 3), (8, 3)] | _ => []

theorem field_Sum_call (p0 : Option Addr) (l0 : Nat) (c0 : Nat) (w : World) (Q : Value → World → Prop) (h : field_Sum p0 l0 c0 w Q) : callF Try.prog 55 #[.slice p0 l0 c0] w Q :=
  callF_of (fun _ _ => by kernel_rfl) (callK_of_sw field_Sum_tt Try.func55 rfl (by kernel_rfl) (show sw Try.prog none 17 field_Sum_tt _ 0 (endK Try.prog [.tmp 2] Q) ⟨regs [.slice p0 l0 c0], []⟩ w from
    Eq.mp (by kernel_rfl : field_Sum p0 l0 c0 w Q = sw Try.prog none 17 field_Sum_tt (Try.f55.body.getD .skip) 0 (endK Try.prog [.tmp 2] Q) ⟨regs [.slice p0 l0 c0], []⟩ w) h))


/-! ### crossway/field.double: function 106 -/

def field_double (n0 : Int) (w : World) (Q : Value → World → Prop) : Prop :=
  cond ((iand .u8 n0 128) != 0)
  (Q (.int .u8 (ixor .u8 (IntKind.u8.wrap (n0 * 2 ^ 1)) 27)) w)
  (Q (.int .u8 (IntKind.u8.wrap (n0 * 2 ^ 1))) w)

def field_double_tt : Nat → List (Nat × TypeId) := fun _ => []

theorem field_double_call (n0 : Int) (w : World) (Q : Value → World → Prop) (h : field_double n0 w Q) : callF Try.prog 106 #[.int .u8 n0] w Q :=
  callF_of (fun _ _ => by kernel_rfl) (callK_of_sw field_double_tt Try.func106 rfl (by kernel_rfl) (show sw Try.prog none 11 field_double_tt _ 0 (endK Try.prog [.tmp 2] Q) ⟨regs [.int .u8 n0], []⟩ w from
    Eq.mp (by kernel_rfl : field_double n0 w Q = sw Try.prog none 11 field_double_tt (Try.f106.body.getD .skip) 0 (endK Try.prog [.tmp 2] Q) ⟨regs [.int .u8 n0], []⟩ w) h))


/-! ### (*crossway/field.Tables).ready: function 108 -/

def field_Tables_ready (p0 : Option Addr) (w : World) (Q : Value → World → Prop) : Prop :=
  ∃ (a4 : Addr), p0 = some a4 ∧
  callF Try.prog 146 #[.pointer (some (a4.add 1)), .func (.func 147) #[.pointer p0] #[]] w fun r8 w1 =>
  r8 = .tuple #[] ∧
  Q (.pointer p0) w1

def field_Tables_ready_tt : Nat → List (Nat × TypeId) := fun _ => []

theorem field_Tables_ready_call (p0 : Option Addr) (w : World) (Q : Value → World → Prop) (h : field_Tables_ready p0 w Q) : callF Try.prog 108 #[.pointer p0] w Q :=
  callF_of (fun _ _ => by kernel_rfl) (callK_of_sw field_Tables_ready_tt Try.func108 rfl (by kernel_rfl) (show sw Try.prog none 10 field_Tables_ready_tt _ 0 (endK Try.prog [.tmp 2] Q) ⟨regs [.pointer p0], []⟩ w from
    Eq.mp (by kernel_rfl : field_Tables_ready p0 w Q = sw Try.prog none 10 field_Tables_ready_tt (Try.f108.body.getD .skip) 0 (endK Try.prog [.tmp 2] Q) ⟨regs [.pointer p0], []⟩ w) h))


/-! ### (*crossway/field.Tables).make: function 147 -/

def field_Tables_make (p0 : Option Addr) (w : World) (Q : Value → World → Prop) : Prop :=
  ∃ (a7 : Addr), p0 = some a7 ∧
  callF Try.prog 101 #[.pointer (some (a7.add 4)), .int .i64 1] w fun r9 w1 =>
  ∃ (n9 : Int), r9 = .int .i64 n9 ∧
  ∃ (a12 : Addr), p0 = some a12 ∧
  ∃ (p14 : Option Addr) (l14 : Nat) (c14 : Nat), Ld Try.prog 50 (.pointer (some (a12.add 0))) w1 (.slice p14 l14 c14) ∧
  ∃ (p16 : Option Addr) (l16 : Nat) (c16 : Nat) (w2 : World), Ef Try.prog (Instr.makeSlice 147 (.int .i64 ((l14 : Nat) : Int)) (.int .i64 ((l14 : Nat) : Int))) w1 (.slice p16 l16 c16) w2 ∧
  ∃ (a17 : Addr), p0 = some a17 ∧
  ∃ (w3 : World), Sto Try.prog 147 (.pointer (some (a17.add 517))) (.slice p16 l16 c16) w2 w3 ∧
  LoopS [.pointer p0, .int .i64 0] w3 fun I1 μ1 us1 _ wl1 =>
  ∃ (p0_1 : Option Addr) (n19 : Int), us1 = [.pointer p0_1, .int .i64 n19] ∧
  cond (decide (n19 < 256))
  (callF Try.prog 164 #[.int .u8 (IntKind.u8.wrap n19)] wl1 fun r24 w4 =>
    ∃ (n24 : Int), r24 = .int .u8 n24 ∧
    ∃ (a28 : Addr), p0_1 = some a28 ∧
    ∃ (a30 : Addr), IxA Try.prog 146 (.pointer (some (a28.add 5))) (.int .i64 n19) a30 ∧
    ∃ (w5 : World), Sto Try.prog 5 (.pointer (some a30)) (.int .u8 n24) w4 w5 ∧
    ∃ (a35 : Addr), p0_1 = some a35 ∧
    ∃ (a37 : Addr), IxA Try.prog 146 (.pointer (some (a35.add 261))) (.int .u8 n24) a37 ∧
    ∃ (w6 : World), Sto Try.prog 5 (.pointer (some a37)) (.int .u8 (IntKind.u8.wrap n19)) w5 w6 ∧
    ∃ (a39 : Addr), p0_1 = some a39 ∧
    ∃ (p41 : Option Addr) (l41 : Nat) (c41 : Nat), Ld Try.prog 50 (.pointer (some (a39.add 0))) w6 (.slice p41 l41 c41) ∧
    LoopS [.pointer p0_1, .int .i64 n19, .int .i64 n19, .slice p41 l41 c41, .int .i64 ((l41 : Nat) : Int), .int .i64 0] w6 fun I2 μ2 us2 _ wl2 =>
    ∃ (p0_2 : Option Addr) (n2 : Int) (n19_1 : Int) (p41_1 : Option Addr) (l41_1 : Nat) (c41_1 : Nat) (n42 : Int) (n43 : Int), us2 = [.pointer p0_2, .int .i64 n2, .int .i64 n19_1, .slice p41_1 l41_1 c41_1, .int .i64 n42, .int .i64 n43] ∧
    cond (decide (n43 < n42))
    (∃ (a46 : Addr), IxA Try.prog 50 (.slice p41_1 l41_1 c41_1) (.int .i64 n43) a46 ∧
      ∃ (n47 : Int), Ld Try.prog 5 (.pointer (some a46)) wl2 (.int .u8 n47) ∧
      ∃ (S11 : World → Prop),
      Drw wl2 fun w7 =>
      ∃ (a49 : Addr), p0_2 = some a49 ∧
      ∃ (p51 : Option Addr) (l51 : Nat) (c51 : Nat), HLd Try.prog S11 147 (.pointer (some (a49.add 517))) w7 (.slice p51 l51 c51) ∧
      ∃ (a58 : Addr), IxA Try.prog 147 (.slice p51 l51 c51) (.int .i64 n43) a58 ∧
      callF Try.prog 42 #[.int .u8 (IntKind.u8.wrap n2), .int .u8 n47] w7 fun r57 w8 =>
      ∃ (n57 : Int), r57 = .int .u8 n57 ∧
      (w8 = w7 ∨ S11 w8) ∧
      ∃ (a59 : Addr), IxA Try.prog 146 (.pointer (some a58)) (.int .i64 n2) a59 ∧
      ∃ (w9 : World), Sto Try.prog 5 (.pointer (some a59)) (.int .u8 n57) w8 w9 ∧
      goesOn [] [] I2 μ2 us2 [.pointer p0_2, .int .i64 n2, .int .i64 n19_1, .slice p41_1 l41_1 c41_1, .int .i64 n42, .int .i64 (IntKind.i64.wrap (n43 + 1))] wl2 w9)
    (goesOn [] [] I1 μ1 us1 [.pointer p0_2, .int .i64 (IntKind.i64.wrap (n19_1 + 1))] wl1 wl2))
  (Q (.tuple #[]) wl1)

def field_Tables_make_tt : Nat → List (Nat × TypeId) := fun n => match n with | 0 => [(0, 51), (19, 3)] | 2 => [(0, 51), (2, 3), (19, 3), (41, 50), (42, 3), (43, 3)] | _ => []

theorem field_Tables_make_call (p0 : Option Addr) (w : World) (Q : Value → World → Prop) (h : field_Tables_make p0 w Q) : callF Try.prog 147 #[.pointer p0] w Q :=
  callF_of (fun _ _ => by kernel_rfl) (callK_of_sw field_Tables_make_tt Try.func147 rfl (by kernel_rfl) (show sw Try.prog none 62 field_Tables_make_tt _ 0 (endK Try.prog [] Q) ⟨regs [.pointer p0], []⟩ w from
    Eq.mp (by kernel_rfl : field_Tables_make p0 w Q = sw Try.prog none 62 field_Tables_make_tt (Try.f147.body.getD .skip) 0 (endK Try.prog [] Q) ⟨regs [.pointer p0], []⟩ w) h))


/-! ### crossway/field.sign: function 164 -/

def field_sign (n0 : Int) (w : World) (Q : Value → World → Prop) : Prop :=
  callF Try.prog 44 #[.int .u8 n0] w fun r5 w1 =>
  ∃ (n5 : Int), r5 = .int .u8 n5 ∧
  callF Try.prog 173 #[.int .u8 n5, .int .i64 1] w1 fun r8 w2 =>
  ∃ (n8 : Int), r8 = .int .u8 n8 ∧
  callF Try.prog 173 #[.int .u8 n5, .int .i64 2] w2 fun r10 w3 =>
  ∃ (n10 : Int), r10 = .int .u8 n10 ∧
  callF Try.prog 173 #[.int .u8 n5, .int .i64 3] w3 fun r12 w4 =>
  ∃ (n12 : Int), r12 = .int .u8 n12 ∧
  callF Try.prog 173 #[.int .u8 n5, .int .i64 4] w4 fun r14 w5 =>
  ∃ (n14 : Int), r14 = .int .u8 n14 ∧
  ∃ (p15 : Option Addr) (l15 : Nat) (c15 : Nat) (w6 : World), Ef Try.prog (Instr.buildSlice 50 6 #[(0, .int .u8 n5), (1, .int .u8 n8), (2, .int .u8 n10), (3, .int .u8 n12), (4, .int .u8 n14), (5, .int .u8 99)]) w5 (.slice p15 l15 c15) w6 ∧
  callF Try.prog 55 #[.slice p15 l15 c15] w6 fun r16 w7 =>
  ∃ (n16 : Int), r16 = .int .u8 n16 ∧
  Q (.int .u8 n16) w7

def field_sign_tt : Nat → List (Nat × TypeId) := fun _ => []

theorem field_sign_call (n0 : Int) (w : World) (Q : Value → World → Prop) (h : field_sign n0 w Q) : callF Try.prog 164 #[.int .u8 n0] w Q :=
  callF_of (fun _ _ => by kernel_rfl) (callK_of_sw field_sign_tt Try.func164 rfl (by kernel_rfl) (show sw Try.prog none 17 field_sign_tt _ 0 (endK Try.prog [.tmp 2] Q) ⟨regs [.int .u8 n0], []⟩ w from
    Eq.mp (by kernel_rfl : field_sign n0 w Q = sw Try.prog none 17 field_sign_tt (Try.f164.body.getD .skip) 0 (endK Try.prog [.tmp 2] Q) ⟨regs [.int .u8 n0], []⟩ w) h))


/-! ### crossway/field.turned: function 173 -/

def field_turned (n0 : Int) (n1 : Int) (w : World) (Q : Value → World → Prop) : Prop :=
  Drw w fun w1 =>
  ∃ (n7 : Int), Pu Try.prog (do eqGuard .shl 5 (.tmp 5) (.tmp 6) (.int .u8 n0) (.int .i64 n1); binOp .shl 5 (.int .u8 n0) (.int .i64 n1) : Sem Value) (.int .u8 n7) ∧
  ∃ (n11 : Int), Pu Try.prog (do eqGuard .shr 5 (.tmp 8) (.tmp 10) (.int .u8 n0) (.int .i64 (IntKind.i64.wrap (8 - n1))); binOp .shr 5 (.int .u8 n0) (.int .i64 (IntKind.i64.wrap (8 - n1))) : Sem Value) (.int .u8 n11) ∧
  Q (.int .u8 (ior .u8 n7 n11)) w1

def field_turned_tt : Nat → List (Nat × TypeId) := fun _ => []

theorem field_turned_call (n0 : Int) (n1 : Int) (w : World) (Q : Value → World → Prop) (h : field_turned n0 n1 w Q) : callF Try.prog 173 #[.int .u8 n0, .int .i64 n1] w Q :=
  callF_of (fun _ _ => by kernel_rfl) (callK_of_sw field_turned_tt Try.func173 rfl (by kernel_rfl) (show sw Try.prog none 13 field_turned_tt _ 0 (endK Try.prog [.tmp 4] Q) ⟨regs [.int .u8 n0, .int .i64 n1], []⟩ w from
    Eq.mp (by kernel_rfl : field_turned n0 n1 w Q = sw Try.prog none 13 field_turned_tt (Try.f173.body.getD .skip) 0 (endK Try.prog [.tmp 4] Q) ⟨regs [.int .u8 n0, .int .i64 n1], []⟩ w) h))

end Go.Sh
end

section
namespace Go.Sh
open Go Go.Fw Go.Proofs
set_option maxRecDepth 100000
set_option linter.unusedVariables false

/-! ### crossway/aes.New: function 58 -/

def aes_New_j1 (I1 : Inv) (μ1 : Meas) (us1 : List Value) (wl1 : World) (p0 : Option Addr) (l0 : Nat) (c0 : Nat) (p2 : Option Addr) (n3 : Int) (a4 : Addr) (a5 : Addr) (n6 : Int) (a7 : Addr) (n17 : Int) (w : World) (Q : Value → World → Prop) : Prop :=
  ∃ (S13 : World → Prop),
  Drw w fun w1 =>
  ∃ (a45 : Addr), IxA Try.prog 157 (.pointer (some a5)) (.int .i64 (IntKind.i64.wrap (n6 - 4))) a45 ∧
  ∃ (cs46 : Array Value), HLd Try.prog S13 156 (.pointer (some a45)) w1 (.agg cs46) ∧
  ∃ (cs47 : Array Value), Ld Try.prog 156 (.pointer (some a7)) w1 (.agg cs47) ∧
  (w1 = w1 ∨ S13 w1) ∧
  callF Try.prog 111 #[.agg cs46, .agg cs47] w1 fun r48 w2 =>
  ∃ (cs48 : Array Value), r48 = .agg cs48 ∧
  ∃ (a49 : Addr), IxA Try.prog 157 (.pointer (some a5)) (.int .i64 n6) a49 ∧
  ∃ (w3 : World), Sto Try.prog 156 (.pointer (some a49)) (.agg cs48) w2 w3 ∧
  goesOn [] [] I1 μ1 us1 [.slice p0 l0 c0, .pointer p2, .int .i64 n3, .pointer (some a4), .pointer (some a5), .int .i64 (IntKind.i64.wrap (n17 + 1))] wl1 w3

def aes_New_j2 (p2 : Option Addr) (n3 : Int) (a4 : Addr) (a5 : Addr) (w : World) (Q : Value → World → Prop) : Prop :=
  ∃ (cs51 : Array Value), Ld Try.prog 157 (.pointer (some a5)) w (.agg cs51) ∧
  LoopS [.pointer p2, .int .i64 n3, .pointer (some a4), .agg cs51, .int .i64 0] w fun I2 μ2 us2 _ wl2 =>
  ∃ (p2_1 : Option Addr) (n3_1 : Int) (a4_1 : Addr) (cs51_1 : Array Value) (n52 : Int), us2 = [.pointer p2_1, .int .i64 n3_1, .pointer (some a4_1), .agg cs51_1, .int .i64 n52] ∧
  cond (decide (n52 < 44))
  (∃ (cs55 : Array Value), Pu Try.prog (Instr.index 157 (.agg cs51_1) (.int .i64 n52)) (.agg cs55) ∧
    ∃ (z9 : Value), Pu Try.prog (zeroValue 156) z9 ∧
    New z9.cells 156 wl2 fun k9 w1 =>
    ∃ (w2 : World), Sto Try.prog 156 (.pointer (some (⟨k9, 0, none⟩ : Addr))) (.agg cs55) w1 w2 ∧
    Drw w2 fun w3 =>
    ∃ (a59 : Addr), some a4_1 = some a59 ∧
    ∃ (a61 : Addr), IxA Try.prog 152 (.pointer (some (a59.add 1))) (.int .i64 (IntKind.i64.wrap (Int.tdiv n52 4))) a61 ∧
    ∃ (p65 : Option Addr) (l65 : Nat) (c65 : Nat), Pu Try.prog (Instr.sliceAt 151 (.pointer (some a61)) (some (.int .i64 (IntKind.i64.wrap (4 * (Int.tmod n52 4))))) none none) (.slice p65 l65 c65) ∧
    ∃ (p66 : Option Addr) (l66 : Nat) (c66 : Nat), Pu Try.prog (Instr.sliceAt 156 (.pointer (some (⟨k9, 0, none⟩ : Addr))) none none none) (.slice p66 l66 c66) ∧
    ∃ (n67 : Int) (w4 : World), Ef Try.prog (Builtin.copy_ #[50, 50] 3 #[.slice p65 l65 c65, .slice p66 l66 c66]) w3 (.int .i64 n67) w4 ∧
    goesOn [] [] I2 μ2 us2 [.pointer p2_1, .int .i64 n3_1, .pointer (some a4_1), .agg cs51_1, .int .i64 (IntKind.i64.wrap (n52 + 1))] wl2 w4)
  (Q (.tuple #[.pointer (some a4_1), .int .i64 0]) wl2)

def aes_New (p0 : Option Addr) (l0 : Nat) (c0 : Nat) (w : World) (Q : Value → World → Prop) : Prop :=
  cond (((l0 : Nat) : Int) != 16)
  (Q (.tuple #[.pointer none, .int .i64 11]) w)
  (∃ (p13 : Option Addr) (l13 : Nat) (c13 : Nat) (w1 : World), Ef Try.prog (Instr.buildSlice 50 6 #[(0, .int .u8 2), (1, .int .u8 3), (2, .int .u8 9), (3, .int .u8 11), (4, .int .u8 13), (5, .int .u8 14)]) w (.slice p13 l13 c13) w1 ∧
    callF Try.prog 48 #[.slice p13 l13 c13] w1 fun r14 w2 =>
    ∃ (p14 : Option Addr), r14 = .pointer p14 ∧
    New #[.pointer p14, .int .u8 0, .int .u8 0, .int .u8 0, .int .u8 0, .int .u8 0, .int .u8 0, .int .u8 0, .int .u8 0, .int .u8 0, .int .u8 0, .int .u8 0, .int .u8 0, .int .u8 0, .int .u8 0, .int .u8 0, .int .u8 0, .int .u8 0, .int .u8 0, .int .u8 0, .int .u8 0, .int .u8 0, .int .u8 0, .int .u8 0, .int .u8 0, .int .u8 0, .int .u8 0, .int .u8 0, .int .u8 0, .int .u8 0, .int .u8 0, .int .u8 0, .int .u8 0, .int .u8 0, .int .u8 0, .int .u8 0, .int .u8 0, .int .u8 0, .int .u8 0, .int .u8 0, .int .u8 0, .int .u8 0, .int .u8 0, .int .u8 0, .int .u8 0, .int .u8 0, .int .u8 0, .int .u8 0, .int .u8 0, .int .u8 0, .int .u8 0, .int .u8 0, .int .u8 0, .int .u8 0, .int .u8 0, .int .u8 0, .int .u8 0, .int .u8 0, .int .u8 0, .int .u8 0, .int .u8 0, .int .u8 0, .int .u8 0, .int .u8 0, .int .u8 0, .int .u8 0, .int .u8 0, .int .u8 0, .int .u8 0, .int .u8 0, .int .u8 0, .int .u8 0, .int .u8 0, .int .u8 0, .int .u8 0, .int .u8 0, .int .u8 0, .int .u8 0, .int .u8 0, .int .u8 0, .int .u8 0, .int .u8 0, .int .u8 0, .int .u8 0, .int .u8 0, .int .u8 0, .int .u8 0, .int .u8 0, .int .u8 0, .int .u8 0, .int .u8 0, .int .u8 0, .int .u8 0, .int .u8 0, .int .u8 0, .int .u8 0, .int .u8 0, .int .u8 0, .int .u8 0, .int .u8 0, .int .u8 0, .int .u8 0, .int .u8 0, .int .u8 0, .int .u8 0, .int .u8 0, .int .u8 0, .int .u8 0, .int .u8 0, .int .u8 0, .int .u8 0, .int .u8 0, .int .u8 0, .int .u8 0, .int .u8 0, .int .u8 0, .int .u8 0, .int .u8 0, .int .u8 0, .int .u8 0, .int .u8 0, .int .u8 0, .int .u8 0, .int .u8 0, .int .u8 0, .int .u8 0, .int .u8 0, .int .u8 0, .int .u8 0, .int .u8 0, .int .u8 0, .int .u8 0, .int .u8 0, .int .u8 0, .int .u8 0, .int .u8 0, .int .u8 0, .int .u8 0, .int .u8 0, .int .u8 0, .int .u8 0, .int .u8 0, .int .u8 0, .int .u8 0, .int .u8 0, .int .u8 0, .int .u8 0, .int .u8 0, .int .u8 0, .int .u8 0, .int .u8 0, .int .u8 0, .int .u8 0, .int .u8 0, .int .u8 0, .int .u8 0, .int .u8 0, .int .u8 0, .int .u8 0, .int .u8 0, .int .u8 0, .int .u8 0, .int .u8 0, .int .u8 0, .int .u8 0, .int .u8 0, .int .u8 0, .int .u8 0, .int .u8 0, .int .u8 0, .int .u8 0, .int .u8 0, .int .u8 0, .int .u8 0, .int .u8 0, .int .u8 0, .int .u8 0, .int .i64 0] 154 w2 fun k16 w3 =>
    ∃ (z5 : Value), Pu Try.prog (zeroValue 157) z5 ∧
    New z5.cells 157 w3 fun k5 w4 =>
    LoopS [.slice p0 l0 c0, .pointer none, .int .i64 0, .pointer (some (⟨k16, 0, none⟩ : Addr)), .pointer (some (⟨k5, 0, none⟩ : Addr)), .int .i64 0] w4 fun I1 μ1 us1 _ wl1 =>
    ∃ (p0_1 : Option Addr) (l0_1 : Nat) (c0_1 : Nat) (p2 : Option Addr) (n3 : Int) (a4 : Addr) (a5 : Addr) (n17 : Int), us1 = [.slice p0_1 l0_1 c0_1, .pointer p2, .int .i64 n3, .pointer (some a4), .pointer (some a5), .int .i64 n17] ∧
    cond (decide (n17 < 44))
    (cond (decide (n17 < 4))
      (∃ (p26 : Option Addr) (l26 : Nat) (c26 : Nat), Pu Try.prog (Instr.sliceAt 50 (.slice p0_1 l0_1 c0_1) (some (.int .i64 (IntKind.i64.wrap (4 * n17)))) none none) (.slice p26 l26 c26) ∧
        ∃ (p27 : Option Addr), Pu Try.prog (Instr.arrayAt 156 (.slice p26 l26 c26)) (.pointer p27) ∧
        ∃ (cs28 : Array Value), Ld Try.prog 156 (.pointer p27) wl1 (.agg cs28) ∧
        ∃ (a29 : Addr), IxA Try.prog 157 (.pointer (some a5)) (.int .i64 n17) a29 ∧
        ∃ (w5 : World), Sto Try.prog 156 (.pointer (some a29)) (.agg cs28) wl1 w5 ∧
        goesOn [] [] I1 μ1 us1 [.slice p0_1 l0_1 c0_1, .pointer p2, .int .i64 n3, .pointer (some a4), .pointer (some a5), .int .i64 (IntKind.i64.wrap (n17 + 1))] wl1 w5)
      (∃ (a32 : Addr), IxA Try.prog 157 (.pointer (some a5)) (.int .i64 (IntKind.i64.wrap (n17 - 1))) a32 ∧
        ∃ (cs33 : Array Value), Ld Try.prog 156 (.pointer (some a32)) wl1 (.agg cs33) ∧
        ∃ (z7 : Value), Pu Try.prog (zeroValue 156) z7 ∧
        New z7.cells 156 wl1 fun k7 w6 =>
        ∃ (w7 : World), Sto Try.prog 156 (.pointer (some (⟨k7, 0, none⟩ : Addr))) (.agg cs33) w6 w7 ∧
        cond ((Int.tmod n17 4) == 0)
        (∃ (cs38 : Array Value), Ld Try.prog 156 (.pointer (some (⟨k7, 0, none⟩ : Addr))) w7 (.agg cs38) ∧
          callF Try.prog 110 #[.pointer (some a4), .agg cs38, .int .i64 (IntKind.i64.wrap (Int.tdiv n17 4))] w7 fun r41 w8 =>
          ∃ (cs41 : Array Value), r41 = .agg cs41 ∧
          ∃ (w9 : World), Sto Try.prog 156 (.pointer (some (⟨k7, 0, none⟩ : Addr))) (.agg cs41) w8 w9 ∧
          aes_New_j1 I1 μ1 us1 wl1 p0_1 l0_1 c0_1 p2 n3 a4 a5 n17 (⟨k7, 0, none⟩ : Addr) n17 w9 Q)
        (aes_New_j1 I1 μ1 us1 wl1 p0_1 l0_1 c0_1 p2 n3 a4 a5 n17 (⟨k7, 0, none⟩ : Addr) n17 w7 Q)))
    (aes_New_j2 p2 n3 a4 a5 wl1 Q))

def aes_New_tt : Nat → List (Nat × TypeId) := fun n => match n with | 0 => [(0, 50), (2, 63), (3, 32), (4, 1000000), (5, 1000000), (17, 3)] | 2 => [(2, 63), (3, 32), (4, 1000000), (51, 157), (52, 3)] | _ => []

theorem aes_New_call (p0 : Option Addr) (l0 : Nat) (c0 : Nat) (w : World) (Q : Value → World → Prop) (h : aes_New p0 l0 c0 w Q) : callF Try.prog 58 #[.slice p0 l0 c0] w Q :=
  callF_of (fun _ _ => by kernel_rfl) (callK_of_sw aes_New_tt Try.func58 rfl (by kernel_rfl) (show sw Try.prog none 70 aes_New_tt _ 0 (endK Try.prog [.tmp 2, .tmp 3] Q) ⟨regs [.slice p0 l0 c0], []⟩ w from
    Eq.mp (by kernel_rfl : aes_New p0 l0 c0 w Q = sw Try.prog none 70 aes_New_tt (Try.f58.body.getD .skip) 0 (endK Try.prog [.tmp 2, .tmp 3] Q) ⟨regs [.slice p0 l0 c0], []⟩ w) h))


/-! ### (*crossway/aes.Cipher).Keys: function 61 -/

def aes_Cipher_Keys (p0 : Option Addr) (w : World) (Q : Value → World → Prop) : Prop :=
  ∃ (a7 : Addr), p0 = some a7 ∧
  ∃ (cs9 : Array Value), Ld Try.prog 152 (.pointer (some (a7.add 1))) w (.agg cs9) ∧
  LoopS [.slice none 0 0, .slice none 0 0, .agg cs9, .int .i64 0] w fun I1 μ1 us1 _ wl1 =>
  ∃ (p2 : Option Addr) (l2 : Nat) (c2 : Nat) (p3 : Option Addr) (l3 : Nat) (c3 : Nat) (cs9_1 : Array Value) (n10 : Int), us1 = [.slice p2 l2 c2, .slice p3 l3 c3, .agg cs9_1, .int .i64 n10] ∧
  cond (decide (n10 < 11))
  (∃ (cs12 : Array Value), Pu Try.prog (Instr.index 152 (.agg cs9_1) (.int .i64 n10)) (.agg cs12) ∧
    ∃ (z5 : Value), Pu Try.prog (zeroValue 151) z5 ∧
    New z5.cells 151 wl1 fun k5 w1 =>
    ∃ (w2 : World), Sto Try.prog 151 (.pointer (some (⟨k5, 0, none⟩ : Addr))) (.agg cs12) w1 w2 ∧
    ∃ (p14 : Option Addr) (l14 : Nat) (c14 : Nat), Pu Try.prog (Instr.sliceAt 151 (.pointer (some (⟨k5, 0, none⟩ : Addr))) none none none) (.slice p14 l14 c14) ∧
    callF Try.prog 107 #[.slice p14 l14 c14] w2 fun r15 w3 =>
    ∃ (p15 : Option Addr) (l15 : Nat) (c15 : Nat), r15 = .slice p15 l15 c15 ∧
    ∃ (p16 : Option Addr) (l16 : Nat) (c16 : Nat) (w4 : World), Ef Try.prog (Instr.buildSlice 68 1 #[(0, .slice p15 l15 c15)]) w3 (.slice p16 l16 c16) w4 ∧
    ∃ (p17 : Option Addr) (l17 : Nat) (c17 : Nat) (w5 : World), Ef Try.prog (Builtin.append_ #[68, 68] 68 #[.slice p3 l3 c3, .slice p16 l16 c16]) w4 (.slice p17 l17 c17) w5 ∧
    goesOn [] [] I1 μ1 us1 [.slice p2 l2 c2, .slice p17 l17 c17, .agg cs9_1, .int .i64 (IntKind.i64.wrap (n10 + 1))] wl1 w5)
  (Q (.slice p3 l3 c3) wl1)

def aes_Cipher_Keys_tt : Nat → List (Nat × TypeId) := fun n => match n with | 0 => [(2, 68), (3, 68), (9, 152), (10, 3)] | _ => []

theorem aes_Cipher_Keys_call (p0 : Option Addr) (w : World) (Q : Value → World → Prop) (h : aes_Cipher_Keys p0 w Q) : callF Try.prog 61 #[.pointer p0] w Q :=
  callF_of (fun _ _ => by kernel_rfl) (callK_of_sw aes_Cipher_Keys_tt Try.func61 rfl (by kernel_rfl) (show sw Try.prog none 20 aes_Cipher_Keys_tt _ 0 (endK Try.prog [.tmp 2] Q) ⟨regs [.pointer p0], []⟩ w from
    Eq.mp (by kernel_rfl : aes_Cipher_Keys p0 w Q = sw Try.prog none 20 aes_Cipher_Keys_tt (Try.f61.body.getD .skip) 0 (endK Try.prog [.tmp 2] Q) ⟨regs [.pointer p0], []⟩ w) h))


/-! ### (*crossway/aes.Cipher).Encrypt: function 63 -/

def aes_Cipher_Encrypt_j1 (I1 : Inv) (μ1 : Meas) (us1 : List Value) (wl1 : World) (p0 : Option Addr) (p4 : Option Addr) (l4 : Nat) (c4 : Nat) (n5 : Int) (a6 : Addr) (n7 : Int) (w : World) (Q : Value → World → Prop) : Prop :=
  ∃ (a43 : Addr), p0 = some a43 ∧
  ∃ (a45 : Addr), IxA Try.prog 152 (.pointer (some (a43.add 1))) (.int .i64 n7) a45 ∧
  ∃ (cs46 : Array Value), Ld Try.prog 151 (.pointer (some a45)) w (.agg cs46) ∧
  callF Try.prog 114 #[.pointer (some a6), .agg cs46] w fun r47 w1 =>
  r47 = .tuple #[] ∧
  goesOn [] [] I1 μ1 us1 [.pointer p0, .slice p4 l4 c4, .int .i64 n5, .pointer (some a6), .int .i64 (IntKind.i64.wrap (n7 + 1))] wl1 w1

def aes_Cipher_Encrypt (p0 : Option Addr) (p1 : Option Addr) (l1 : Nat) (c1 : Nat) (w : World) (Q : Value → World → Prop) : Prop :=
  cond (((l1 : Nat) : Int) != 16)
  (Q (.tuple #[.slice none 0 0, .int .i64 11]) w)
  (∃ (a12 : Addr), p0 = some a12 ∧
    callF Try.prog 101 #[.pointer (some (a12.add 177)), .int .i64 1] w fun r14 w1 =>
    ∃ (n14 : Int), r14 = .int .i64 n14 ∧
    ∃ (p16 : Option Addr), Pu Try.prog (Instr.arrayAt 151 (.slice p1 l1 c1)) (.pointer p16) ∧
    ∃ (cs17 : Array Value), Ld Try.prog 151 (.pointer p16) w1 (.agg cs17) ∧
    ∃ (z6 : Value), Pu Try.prog (zeroValue 151) z6 ∧
    New z6.cells 151 w1 fun k6 w2 =>
    ∃ (w3 : World), Sto Try.prog 151 (.pointer (some (⟨k6, 0, none⟩ : Addr))) (.agg cs17) w2 w3 ∧
    ∃ (a19 : Addr), p0 = some a19 ∧
    ∃ (a21 : Addr), IxA Try.prog 152 (.pointer (some (a19.add 1))) (.int .i64 0) a21 ∧
    ∃ (cs22 : Array Value), Ld Try.prog 151 (.pointer (some a21)) w3 (.agg cs22) ∧
    callF Try.prog 114 #[.pointer (some (⟨k6, 0, none⟩ : Addr)), .agg cs22] w3 fun r23 w4 =>
    r23 = .tuple #[] ∧
    LoopS [.pointer p0, .slice none 0 0, .int .i64 0, .pointer (some (⟨k6, 0, none⟩ : Addr)), .int .i64 1] w4 fun I1 μ1 us1 _ wl1 =>
    ∃ (p0_1 : Option Addr) (p4 : Option Addr) (l4 : Nat) (c4 : Nat) (n5 : Int) (a6 : Addr) (n7 : Int), us1 = [.pointer p0_1, .slice p4 l4 c4, .int .i64 n5, .pointer (some a6), .int .i64 n7] ∧
    cond (decide (n7 ≤ 10))
    (∃ (a29 : Addr), p0_1 = some a29 ∧
      ∃ (p31 : Option Addr), Ld Try.prog 51 (.pointer (some (a29.add 0))) wl1 (.pointer p31) ∧
      callF Try.prog 115 #[.pointer (some a6), .func (.func 50) #[.pointer p31] #[]] wl1 fun r33 w5 =>
      r33 = .tuple #[] ∧
      callF Try.prog 116 #[.pointer (some a6), .int .i64 1] w5 fun r34 w6 =>
      r34 = .tuple #[] ∧
      cond (decide (n7 < 10))
      (callF Try.prog 117 #[.pointer (some a6), .func (.func 118) #[.pointer p0_1] #[], .agg #[.int .i64 0, .int .i64 1, .int .i64 (-1), .int .i64 (-1)]] w6 fun r40 w7 =>
        r40 = .tuple #[] ∧
        aes_Cipher_Encrypt_j1 I1 μ1 us1 wl1 p0_1 p4 l4 c4 n5 a6 n7 w7 Q)
      (aes_Cipher_Encrypt_j1 I1 μ1 us1 wl1 p0_1 p4 l4 c4 n5 a6 n7 w6 Q))
    (∃ (p48 : Option Addr) (l48 : Nat) (c48 : Nat), Pu Try.prog (Instr.sliceAt 151 (.pointer (some a6)) none none none) (.slice p48 l48 c48) ∧
      Q (.tuple #[.slice p48 l48 c48, .int .i64 0]) wl1))

def aes_Cipher_Encrypt_tt : Nat → List (Nat × TypeId) := fun n => match n with | 0 => [(0, 63), (4, 50), (5, 32), (6, 1000000), (7, 3)] | _ => []

theorem aes_Cipher_Encrypt_call (p0 : Option Addr) (p1 : Option Addr) (l1 : Nat) (c1 : Nat) (w : World) (Q : Value → World → Prop) (h : aes_Cipher_Encrypt p0 p1 l1 c1 w Q) : callF Try.prog 63 #[.pointer p0, .slice p1 l1 c1] w Q :=
  callF_of (fun _ _ => by kernel_rfl) (callK_of_sw aes_Cipher_Encrypt_tt Try.func63 rfl (by kernel_rfl) (show sw Try.prog none 49 aes_Cipher_Encrypt_tt _ 0 (endK Try.prog [.tmp 4, .tmp 5] Q) ⟨regs [.pointer p0, .slice p1 l1 c1], []⟩ w from
    Eq.mp (by kernel_rfl : aes_Cipher_Encrypt p0 p1 l1 c1 w Q = sw Try.prog none 49 aes_Cipher_Encrypt_tt (Try.f63.body.getD .skip) 0 (endK Try.prog [.tmp 4, .tmp 5] Q) ⟨regs [.pointer p0, .slice p1 l1 c1], []⟩ w) h))


/-! ### (*crossway/aes.Cipher).Done: function 64 -/

def aes_Cipher_Done (p0 : Option Addr) (w : World) (Q : Value → World → Prop) : Prop :=
  ∃ (a4 : Addr), p0 = some a4 ∧
  callF Try.prog 103 #[.pointer (some (a4.add 177))] w fun r6 w1 =>
  ∃ (n6 : Int), r6 = .int .i64 n6 ∧
  Q (.int .i64 n6) w1

def aes_Cipher_Done_tt : Nat → List (Nat × TypeId) := fun _ => []

theorem aes_Cipher_Done_call (p0 : Option Addr) (w : World) (Q : Value → World → Prop) (h : aes_Cipher_Done p0 w Q) : callF Try.prog 64 #[.pointer p0] w Q :=
  callF_of (fun _ _ => by kernel_rfl) (callK_of_sw aes_Cipher_Done_tt Try.func64 rfl (by kernel_rfl) (show sw Try.prog none 7 aes_Cipher_Done_tt _ 0 (endK Try.prog [.tmp 2] Q) ⟨regs [.pointer p0], []⟩ w from
    Eq.mp (by kernel_rfl : aes_Cipher_Done p0 w Q = sw Try.prog none 7 aes_Cipher_Done_tt (Try.f64.body.getD .skip) 0 (endK Try.prog [.tmp 2] Q) ⟨regs [.pointer p0], []⟩ w) h))


/-! ### (*crossway/aes.Cipher).Decrypt: function 67 -/

def aes_Cipher_Decrypt_j1 (I1 : Inv) (μ1 : Meas) (us1 : List Value) (wl1 : World) (p0 : Option Addr) (p4 : Option Addr) (l4 : Nat) (c4 : Nat) (n5 : Int) (a6 : Addr) (n7 : Int) (w : World) (Q : Value → World → Prop) : Prop :=
  callF Try.prog 116 #[.pointer (some a6), .int .i64 3] w fun r35 w1 =>
  r35 = .tuple #[] ∧
  ∃ (a37 : Addr), p0 = some a37 ∧
  ∃ (p39 : Option Addr), Ld Try.prog 51 (.pointer (some (a37.add 0))) w1 (.pointer p39) ∧
  callF Try.prog 115 #[.pointer (some a6), .func (.func 52) #[.pointer p39] #[]] w1 fun r41 w2 =>
  r41 = .tuple #[] ∧
  goesOn [] [] I1 μ1 us1 [.pointer p0, .slice p4 l4 c4, .int .i64 n5, .pointer (some a6), .int .i64 (IntKind.i64.wrap (n7 - 1))] wl1 w2

def aes_Cipher_Decrypt_j2 (p0 : Option Addr) (p4 : Option Addr) (l4 : Nat) (c4 : Nat) (n5 : Int) (a6 : Addr) (w : World) (Q : Value → World → Prop) : Prop :=
  ∃ (a43 : Addr), p0 = some a43 ∧
  ∃ (a45 : Addr), IxA Try.prog 152 (.pointer (some (a43.add 1))) (.int .i64 0) a45 ∧
  ∃ (cs46 : Array Value), Ld Try.prog 151 (.pointer (some a45)) w (.agg cs46) ∧
  callF Try.prog 114 #[.pointer (some a6), .agg cs46] w fun r47 w1 =>
  r47 = .tuple #[] ∧
  ∃ (p48 : Option Addr) (l48 : Nat) (c48 : Nat), Pu Try.prog (Instr.sliceAt 151 (.pointer (some a6)) none none none) (.slice p48 l48 c48) ∧
  Q (.tuple #[.slice p48 l48 c48, .int .i64 0]) w1

def aes_Cipher_Decrypt (p0 : Option Addr) (p1 : Option Addr) (l1 : Nat) (c1 : Nat) (w : World) (Q : Value → World → Prop) : Prop :=
  cond (((l1 : Nat) : Int) != 16)
  (Q (.tuple #[.slice none 0 0, .int .i64 11]) w)
  (∃ (a12 : Addr), p0 = some a12 ∧
    callF Try.prog 101 #[.pointer (some (a12.add 177)), .int .i64 1] w fun r14 w1 =>
    ∃ (n14 : Int), r14 = .int .i64 n14 ∧
    ∃ (p16 : Option Addr), Pu Try.prog (Instr.arrayAt 151 (.slice p1 l1 c1)) (.pointer p16) ∧
    ∃ (cs17 : Array Value), Ld Try.prog 151 (.pointer p16) w1 (.agg cs17) ∧
    ∃ (z6 : Value), Pu Try.prog (zeroValue 151) z6 ∧
    New z6.cells 151 w1 fun k6 w2 =>
    ∃ (w3 : World), Sto Try.prog 151 (.pointer (some (⟨k6, 0, none⟩ : Addr))) (.agg cs17) w2 w3 ∧
    LoopS [.pointer p0, .slice none 0 0, .int .i64 0, .pointer (some (⟨k6, 0, none⟩ : Addr)), .int .i64 10] w3 fun I1 μ1 us1 _ wl1 =>
    ∃ (p0_1 : Option Addr) (p4 : Option Addr) (l4 : Nat) (c4 : Nat) (n5 : Int) (a6 : Addr) (n7 : Int), us1 = [.pointer p0_1, .slice p4 l4 c4, .int .i64 n5, .pointer (some a6), .int .i64 n7] ∧
    cond (decide (n7 ≥ 1))
    (∃ (a24 : Addr), p0_1 = some a24 ∧
      ∃ (a26 : Addr), IxA Try.prog 152 (.pointer (some (a24.add 1))) (.int .i64 n7) a26 ∧
      ∃ (cs27 : Array Value), Ld Try.prog 151 (.pointer (some a26)) wl1 (.agg cs27) ∧
      callF Try.prog 114 #[.pointer (some a6), .agg cs27] wl1 fun r28 w4 =>
      r28 = .tuple #[] ∧
      cond (decide (n7 < 10))
      (callF Try.prog 117 #[.pointer (some a6), .func (.func 118) #[.pointer p0_1] #[], .agg #[.int .i64 5, .int .i64 3, .int .i64 4, .int .i64 2]] w4 fun r34 w5 =>
        r34 = .tuple #[] ∧
        aes_Cipher_Decrypt_j1 I1 μ1 us1 wl1 p0_1 p4 l4 c4 n5 a6 n7 w5 Q)
      (aes_Cipher_Decrypt_j1 I1 μ1 us1 wl1 p0_1 p4 l4 c4 n5 a6 n7 w4 Q))
    (aes_Cipher_Decrypt_j2 p0_1 p4 l4 c4 n5 a6 wl1 Q))

def aes_Cipher_Decrypt_tt : Nat → List (Nat × TypeId) := fun n => match n with | 0 => [(0, 63), (4, 50), (5, 32), (6, 1000000), (7, 3)] | _ => []

theorem aes_Cipher_Decrypt_call (p0 : Option Addr) (p1 : Option Addr) (l1 : Nat) (c1 : Nat) (w : World) (Q : Value → World → Prop) (h : aes_Cipher_Decrypt p0 p1 l1 c1 w Q) : callF Try.prog 67 #[.pointer p0, .slice p1 l1 c1] w Q :=
  callF_of (fun _ _ => by kernel_rfl) (callK_of_sw aes_Cipher_Decrypt_tt Try.func67 rfl (by kernel_rfl) (show sw Try.prog none 49 aes_Cipher_Decrypt_tt _ 0 (endK Try.prog [.tmp 4, .tmp 5] Q) ⟨regs [.pointer p0, .slice p1 l1 c1], []⟩ w from
    Eq.mp (by kernel_rfl : aes_Cipher_Decrypt p0 p1 l1 c1 w Q = sw Try.prog none 49 aes_Cipher_Decrypt_tt (Try.f67.body.getD .skip) 0 (endK Try.prog [.tmp 4, .tmp 5] Q) ⟨regs [.pointer p0, .slice p1 l1 c1], []⟩ w) h))


/-! ### (*crossway/aes.Cipher).turned: function 110 -/

def aes_Cipher_turned_j1 (n2 : Int) (a6 : Addr) (a7 : Addr) (w : World) (Q : Value → World → Prop) : Prop :=
  ∃ (S7 : World → Prop),
  Drw w fun w1 =>
  ∃ (a33 : Addr), IxA Try.prog 156 (.pointer (some a7)) (.int .i64 0) a33 ∧
  ∃ (n34 : Int), HLd Try.prog S7 5 (.pointer (some a33)) w1 (.int .u8 n34) ∧
  callF Try.prog 46 #[.int .u8 2, .int .u64 (IntKind.u64.wrap (IntKind.i64.wrap (n2 - 1)))] w1 fun r38 w2 =>
  ∃ (n38 : Int), r38 = .int .u8 n38 ∧
  (w2 = w1 ∨ S7 w2) ∧
  ∃ (a40 : Addr), IxA Try.prog 156 (.pointer (some a7)) (.int .i64 0) a40 ∧
  ∃ (w3 : World), Sto Try.prog 5 (.pointer (some a40)) (.int .u8 (ixor .u8 n34 n38)) w2 w3 ∧
  ∃ (cs41 : Array Value), Ld Try.prog 156 (.pointer (some a7)) w3 (.agg cs41) ∧
  ∃ (w4 : World), Sto Try.prog 156 (.pointer (some a6)) (.agg cs41) w3 w4 ∧
  ∃ (a6_1 : Addr) (v6 : Value), (.pointer (some a6) : Value) = .pointer (some a6_1) ∧ (loadVar 156 a6_1).run Try.prog w4 = .ok v6 w4 ∧
  Q (v6) w4

def aes_Cipher_turned (p0 : Option Addr) (cs1 : Array Value) (n2 : Int) (w : World) (Q : Value → World → Prop) : Prop :=
  New cs1 156 w fun k4 w1 =>
  ∃ (z6 : Value), Pu Try.prog (zeroValue 156) z6 ∧
  New z6.cells 156 w1 fun k6 w2 =>
  ∃ (a10 : Addr), IxA Try.prog 156 (.pointer (some (⟨k4, 0, none⟩ : Addr))) (.int .i64 1) a10 ∧
  ∃ (n11 : Int), Ld Try.prog 5 (.pointer (some a10)) w2 (.int .u8 n11) ∧
  ∃ (a12 : Addr), IxA Try.prog 156 (.pointer (some (⟨k4, 0, none⟩ : Addr))) (.int .i64 2) a12 ∧
  ∃ (n13 : Int), Ld Try.prog 5 (.pointer (some a12)) w2 (.int .u8 n13) ∧
  ∃ (a14 : Addr), IxA Try.prog 156 (.pointer (some (⟨k4, 0, none⟩ : Addr))) (.int .i64 3) a14 ∧
  ∃ (n15 : Int), Ld Try.prog 5 (.pointer (some a14)) w2 (.int .u8 n15) ∧
  ∃ (a16 : Addr), IxA Try.prog 156 (.pointer (some (⟨k4, 0, none⟩ : Addr))) (.int .i64 0) a16 ∧
  ∃ (n17 : Int), Ld Try.prog 5 (.pointer (some a16)) w2 (.int .u8 n17) ∧
  ∃ (z7 : Value), Pu Try.prog (zeroValue 156) z7 ∧
  New z7.cells 156 w2 fun k7 w3 =>
  ∃ (w4 : World), Sto Try.prog 156 (.pointer (some (⟨k7, 0, none⟩ : Addr))) (.agg #[.int .u8 n11, .int .u8 n13, .int .u8 n15, .int .u8 n17]) w3 w4 ∧
  ∃ (cs19 : Array Value), Ld Try.prog 156 (.pointer (some (⟨k7, 0, none⟩ : Addr))) w4 (.agg cs19) ∧
  LoopS [.pointer p0, .int .i64 n2, .pointer (some (⟨k6, 0, none⟩ : Addr)), .pointer (some (⟨k7, 0, none⟩ : Addr)), .agg cs19, .int .i64 0] w4 fun I1 μ1 us1 _ wl1 =>
  ∃ (p0_1 : Option Addr) (n2_1 : Int) (a6 : Addr) (a7 : Addr) (cs19_1 : Array Value) (n20 : Int), us1 = [.pointer p0_1, .int .i64 n2_1, .pointer (some a6), .pointer (some a7), .agg cs19_1, .int .i64 n20] ∧
  cond (decide (n20 < 4))
  (∃ (n23 : Int), Pu Try.prog (Instr.index 156 (.agg cs19_1) (.int .i64 n20)) (.int .u8 n23) ∧
    ∃ (a26 : Addr), p0_1 = some a26 ∧
    ∃ (p28 : Option Addr), Ld Try.prog 51 (.pointer (some (a26.add 0))) wl1 (.pointer p28) ∧
    callF Try.prog 50 #[.pointer p28, .int .u8 n23] wl1 fun r30 w5 =>
    ∃ (n30 : Int), r30 = .int .u8 n30 ∧
    ∃ (a31 : Addr), IxA Try.prog 156 (.pointer (some a7)) (.int .i64 n20) a31 ∧
    ∃ (w6 : World), Sto Try.prog 5 (.pointer (some a31)) (.int .u8 n30) w5 w6 ∧
    goesOn [] [] I1 μ1 us1 [.pointer p0_1, .int .i64 n2_1, .pointer (some a6), .pointer (some a7), .agg cs19_1, .int .i64 (IntKind.i64.wrap (n20 + 1))] wl1 w6)
  (aes_Cipher_turned_j1 n2_1 a6 a7 wl1 Q)

def aes_Cipher_turned_tt : Nat → List (Nat × TypeId) := fun n => match n with | 0 => [(0, 63), (2, 3), (6, 1000000), (7, 1000000), (19, 156), (20, 3)] | _ => []

theorem aes_Cipher_turned_call (p0 : Option Addr) (cs1 : Array Value) (n2 : Int) (w : World) (Q : Value → World → Prop) (h : aes_Cipher_turned p0 cs1 n2 w Q) : callF Try.prog 110 #[.pointer p0, .agg cs1, .int .i64 n2] w Q :=
  callF_of (fun _ _ => by kernel_rfl) (callK_of_sw aes_Cipher_turned_tt Try.func110 rfl (by kernel_rfl) (show sw Try.prog none 42 aes_Cipher_turned_tt _ 0 (endK Try.prog [.cell 6 156] Q) ⟨regs [.pointer p0, .agg cs1, .int .i64 n2], []⟩ w from
    Eq.mp (by kernel_rfl : aes_Cipher_turned p0 cs1 n2 w Q = sw Try.prog none 42 aes_Cipher_turned_tt (Try.f110.body.getD .skip) 0 (endK Try.prog [.cell 6 156] Q) ⟨regs [.pointer p0, .agg cs1, .int .i64 n2], []⟩ w) h))


/-! ### (crossway/aes.word).plus: function 111 -/

def aes_word_plus_j1 (a2 : Addr) (a4 : Addr) (w : World) (Q : Value → World → Prop) : Prop :=
  ∃ (cs18 : Array Value), Ld Try.prog 156 (.pointer (some a2)) w (.agg cs18) ∧
  ∃ (w1 : World), Sto Try.prog 156 (.pointer (some a4)) (.agg cs18) w w1 ∧
  ∃ (a4_1 : Addr) (v4 : Value), (.pointer (some a4) : Value) = .pointer (some a4_1) ∧ (loadVar 156 a4_1).run Try.prog w1 = .ok v4 w1 ∧
  Q (v4) w1

def aes_word_plus (cs0 : Array Value) (cs1 : Array Value) (w : World) (Q : Value → World → Prop) : Prop :=
  New cs0 156 w fun k2 w1 =>
  New cs1 156 w1 fun k3 w2 =>
  ∃ (z4 : Value), Pu Try.prog (zeroValue 156) z4 ∧
  New z4.cells 156 w2 fun k4 w3 =>
  LoopS [.pointer (some (⟨k2, 0, none⟩ : Addr)), .pointer (some (⟨k3, 0, none⟩ : Addr)), .pointer (some (⟨k4, 0, none⟩ : Addr)), .int .i64 0] w3 fun I1 μ1 us1 _ wl1 =>
  ∃ (a2 : Addr) (a3 : Addr) (a4 : Addr) (n6 : Int), us1 = [.pointer (some a2), .pointer (some a3), .pointer (some a4), .int .i64 n6] ∧
  cond (decide (n6 < 4))
  (∃ (S4 : World → Prop),
    Drw wl1 fun w4 =>
    ∃ (a10 : Addr), IxA Try.prog 156 (.pointer (some a2)) (.int .i64 n6) a10 ∧
    ∃ (a13 : Addr), IxA Try.prog 156 (.pointer (some a3)) (.int .i64 n6) a13 ∧
    ∃ (n11 : Int), HLd Try.prog S4 5 (.pointer (some a10)) w4 (.int .u8 n11) ∧
    ∃ (n14 : Int), Ld Try.prog 5 (.pointer (some a13)) w4 (.int .u8 n14) ∧
    (w4 = w4 ∨ S4 w4) ∧
    ∃ (a16 : Addr), IxA Try.prog 156 (.pointer (some a2)) (.int .i64 n6) a16 ∧
    ∃ (w5 : World), Sto Try.prog 5 (.pointer (some a16)) (.int .u8 (ixor .u8 n11 n14)) w4 w5 ∧
    goesOn [] [] I1 μ1 us1 [.pointer (some a2), .pointer (some a3), .pointer (some a4), .int .i64 (IntKind.i64.wrap (n6 + 1))] wl1 w5)
  (aes_word_plus_j1 a2 a4 wl1 Q)

def aes_word_plus_tt : Nat → List (Nat × TypeId) := fun n => match n with | 0 => [(2, 1000000), (3, 1000000), (4, 1000000), (6, 3)] | _ => []

theorem aes_word_plus_call (cs0 : Array Value) (cs1 : Array Value) (w : World) (Q : Value → World → Prop) (h : aes_word_plus cs0 cs1 w Q) : callF Try.prog 111 #[.agg cs0, .agg cs1] w Q :=
  callF_of (fun _ _ => by kernel_rfl) (callK_of_sw aes_word_plus_tt Try.func111 rfl (by kernel_rfl) (show sw Try.prog none 19 aes_word_plus_tt _ 0 (endK Try.prog [.cell 4 156] Q) ⟨regs [.agg cs0, .agg cs1], []⟩ w from
    Eq.mp (by kernel_rfl : aes_word_plus cs0 cs1 w Q = sw Try.prog none 19 aes_word_plus_tt (Try.f111.body.getD .skip) 0 (endK Try.prog [.cell 4 156] Q) ⟨regs [.agg cs0, .agg cs1], []⟩ w) h))


/-! ### (*crossway/aes.block).add: function 114 -/

def aes_block_add (p0 : Option Addr) (cs1 : Array Value) (w : World) (Q : Value → World → Prop) : Prop :=
  New cs1 151 w fun k3 w1 =>
  LoopS [.pointer p0, .pointer (some (⟨k3, 0, none⟩ : Addr)), .int .i64 0] w1 fun I1 μ1 us1 _ wl1 =>
  ∃ (p0_1 : Option Addr) (a3 : Addr) (n5 : Int), us1 = [.pointer p0_1, .pointer (some a3), .int .i64 n5] ∧
  cond (decide (n5 < 16))
  (∃ (S4 : World → Prop),
    Drw wl1 fun w2 =>
    ∃ (a10 : Addr), p0_1 = some a10 ∧
    ∃ (a11 : Addr), IxA Try.prog 151 (.pointer (some a10)) (.int .i64 n5) a11 ∧
    ∃ (a14 : Addr), IxA Try.prog 151 (.pointer (some a3)) (.int .i64 n5) a14 ∧
    ∃ (a17 : Addr), p0_1 = some a17 ∧
    ∃ (n12 : Int), HLd Try.prog S4 5 (.pointer (some a11)) w2 (.int .u8 n12) ∧
    ∃ (n15 : Int), Ld Try.prog 5 (.pointer (some a14)) w2 (.int .u8 n15) ∧
    (w2 = w2 ∨ S4 w2) ∧
    ∃ (a18 : Addr), IxA Try.prog 151 (.pointer (some a17)) (.int .i64 n5) a18 ∧
    ∃ (w3 : World), Sto Try.prog 5 (.pointer (some a18)) (.int .u8 (ixor .u8 n12 n15)) w2 w3 ∧
    goesOn [] [] I1 μ1 us1 [.pointer p0_1, .pointer (some a3), .int .i64 (IntKind.i64.wrap (n5 + 1))] wl1 w3)
  (Q (.tuple #[]) wl1)

def aes_block_add_tt : Nat → List (Nat × TypeId) := fun n => match n with | 0 => [(0, 199), (3, 1000000), (5, 3)] | _ => []

theorem aes_block_add_call (p0 : Option Addr) (cs1 : Array Value) (w : World) (Q : Value → World → Prop) (h : aes_block_add p0 cs1 w Q) : callF Try.prog 114 #[.pointer p0, .agg cs1] w Q :=
  callF_of (fun _ _ => by kernel_rfl) (callK_of_sw aes_block_add_tt Try.func114 rfl (by kernel_rfl) (show sw Try.prog none 20 aes_block_add_tt _ 0 (endK Try.prog [] Q) ⟨regs [.pointer p0, .agg cs1], []⟩ w from
    Eq.mp (by kernel_rfl : aes_block_add p0 cs1 w Q = sw Try.prog none 20 aes_block_add_tt (Try.f114.body.getD .skip) 0 (endK Try.prog [] Q) ⟨regs [.pointer p0, .agg cs1], []⟩ w) h))


/-! ### (*crossway/aes.block).each: function 115 -/

def aes_block_each (p0 : Option Addr) (v1 : Value) (w : World) (Q : Value → World → Prop) : Prop :=
  LoopS [.pointer p0, v1, .pointer p0, .int .i64 0] w fun I1 μ1 us1 _ wl1 =>
  ∃ (p0_1 : Option Addr) (v1_1 : Value) (p6 : Option Addr) (n7 : Int), us1 = [.pointer p0_1, v1_1, .pointer p6, .int .i64 n7] ∧
  cond (decide (n7 < 16))
  (Drw wl1 fun w1 =>
    ∃ (a10 : Addr), p6 = some a10 ∧
    ∃ (a11 : Addr), IxA Try.prog 151 (.pointer (some a10)) (.int .i64 n7) a11 ∧
    ∃ (n12 : Int), Ld Try.prog 5 (.pointer (some a11)) w1 (.int .u8 n12) ∧
    Drw w1 fun w2 =>
    ∃ (a18 : Addr), p0_1 = some a18 ∧
    callV Try.prog (v1_1) [.int .u8 n12] w2 fun r17 w3 =>
    ∃ (n17 : Int), r17 = .int .u8 n17 ∧
    ∃ (a19 : Addr), IxA Try.prog 151 (.pointer (some a18)) (.int .i64 n7) a19 ∧
    ∃ (w4 : World), Sto Try.prog 5 (.pointer (some a19)) (.int .u8 n17) w3 w4 ∧
    goesOn [] [] I1 μ1 us1 [.pointer p0_1, v1_1, .pointer p6, .int .i64 (IntKind.i64.wrap (n7 + 1))] wl1 w4)
  (Q (.tuple #[]) wl1)

def aes_block_each_tt : Nat → List (Nat × TypeId) := fun n => match n with | 0 => [(0, 199), (1, 47), (6, 199), (7, 3)] | _ => []

theorem aes_block_each_call (p0 : Option Addr) (v1 : Value) (w : World) (Q : Value → World → Prop) (h : aes_block_each p0 v1 w Q) : callF Try.prog 115 #[.pointer p0, v1] w Q :=
  callF_of (fun _ _ => by kernel_rfl) (callK_of_sw aes_block_each_tt Try.func115 rfl (by kernel_rfl) (show sw Try.prog none 21 aes_block_each_tt _ 0 (endK Try.prog [] Q) ⟨regs [.pointer p0, v1], []⟩ w from
    Eq.mp (by kernel_rfl : aes_block_each p0 v1 w Q = sw Try.prog none 21 aes_block_each_tt (Try.f115.body.getD .skip) 0 (endK Try.prog [] Q) ⟨regs [.pointer p0, v1], []⟩ w) h))


/-! ### (*crossway/aes.block).rows: function 116 -/

def aes_block_rows (p0 : Option Addr) (n1 : Int) (w : World) (Q : Value → World → Prop) : Prop :=
  ∃ (a8 : Addr), p0 = some a8 ∧
  ∃ (cs9 : Array Value), Ld Try.prog 151 (.pointer (some a8)) w (.agg cs9) ∧
  ∃ (z4 : Value), Pu Try.prog (zeroValue 151) z4 ∧
  New z4.cells 151 w fun k4 w1 =>
  ∃ (w2 : World), Sto Try.prog 151 (.pointer (some (⟨k4, 0, none⟩ : Addr))) (.agg cs9) w1 w2 ∧
  LoopS [.pointer p0, .int .i64 n1, .pointer (some (⟨k4, 0, none⟩ : Addr)), .int .i64 0] w2 fun I1 μ1 us1 _ wl1 =>
  ∃ (p0_1 : Option Addr) (n1_1 : Int) (a4 : Addr) (n10 : Int), us1 = [.pointer p0_1, .int .i64 n1_1, .pointer (some a4), .int .i64 n10] ∧
  cond (decide (n10 < 16))
  (Drw wl1 fun w3 =>
    ∃ (a24 : Addr), IxA Try.prog 151 (.pointer (some a4)) (.int .i64 (Int.tmod (IntKind.i64.wrap (n10 + (IntKind.i64.wrap ((IntKind.i64.wrap (4 * n1_1)) * (Int.tmod n10 4))))) 16)) a24 ∧
    ∃ (a26 : Addr), p0_1 = some a26 ∧
    ∃ (n25 : Int), Ld Try.prog 5 (.pointer (some a24)) w3 (.int .u8 n25) ∧
    ∃ (a27 : Addr), IxA Try.prog 151 (.pointer (some a26)) (.int .i64 n10) a27 ∧
    ∃ (w4 : World), Sto Try.prog 5 (.pointer (some a27)) (.int .u8 n25) w3 w4 ∧
    goesOn [] [] I1 μ1 us1 [.pointer p0_1, .int .i64 n1_1, .pointer (some a4), .int .i64 (IntKind.i64.wrap (n10 + 1))] wl1 w4)
  (Q (.tuple #[]) wl1)

def aes_block_rows_tt : Nat → List (Nat × TypeId) := fun n => match n with | 0 => [(0, 199), (1, 3), (4, 1000000), (10, 3)] | _ => []

theorem aes_block_rows_call (p0 : Option Addr) (n1 : Int) (w : World) (Q : Value → World → Prop) (h : aes_block_rows p0 n1 w Q) : callF Try.prog 116 #[.pointer p0, .int .i64 n1] w Q :=
  callF_of (fun _ _ => by kernel_rfl) (callK_of_sw aes_block_rows_tt Try.func116 rfl (by kernel_rfl) (show sw Try.prog none 29 aes_block_rows_tt _ 0 (endK Try.prog [] Q) ⟨regs [.pointer p0, .int .i64 n1], []⟩ w from
    Eq.mp (by kernel_rfl : aes_block_rows p0 n1 w Q = sw Try.prog none 29 aes_block_rows_tt (Try.f116.body.getD .skip) 0 (endK Try.prog [] Q) ⟨regs [.pointer p0, .int .i64 n1], []⟩ w) h))


/-! ### (*crossway/aes.block).columns: function 117 -/

def aes_block_columns_j1 (I1 : Inv) (μ1 : Meas) (us1 : List Value) (wl1 : World) (p0 : Option Addr) (v1 : Value) (a5 : Addr) (a6 : Addr) (n7 : Int) (n10 : Int) (n16 : Int) (w : World) (Q : Value → World → Prop) : Prop :=
  ∃ (a46 : Addr), p0 = some a46 ∧
  ∃ (a47 : Addr), IxA Try.prog 151 (.pointer (some a46)) (.int .i64 n7) a47 ∧
  ∃ (w1 : World), Sto Try.prog 5 (.pointer (some a47)) (.int .u8 n10) w w1 ∧
  goesOn [] [] I1 μ1 us1 [.pointer p0, v1, .pointer (some a5), .pointer (some a6), .int .i64 (IntKind.i64.wrap (n16 + 1))] wl1 w1

def aes_block_columns (p0 : Option Addr) (v1 : Value) (cs2 : Array Value) (w : World) (Q : Value → World → Prop) : Prop :=
  New cs2 165 w fun k5 w1 =>
  ∃ (a14 : Addr), p0 = some a14 ∧
  ∃ (cs15 : Array Value), Ld Try.prog 151 (.pointer (some a14)) w1 (.agg cs15) ∧
  ∃ (z6 : Value), Pu Try.prog (zeroValue 151) z6 ∧
  New z6.cells 151 w1 fun k6 w2 =>
  ∃ (w3 : World), Sto Try.prog 151 (.pointer (some (⟨k6, 0, none⟩ : Addr))) (.agg cs15) w2 w3 ∧
  LoopS [.pointer p0, v1, .pointer (some (⟨k5, 0, none⟩ : Addr)), .pointer (some (⟨k6, 0, none⟩ : Addr)), .int .i64 0] w3 fun I1 μ1 us1 _ wl1 =>
  ∃ (p0_1 : Option Addr) (v1_1 : Value) (a5 : Addr) (a6 : Addr) (n16 : Int), us1 = [.pointer p0_1, v1_1, .pointer (some a5), .pointer (some a6), .int .i64 n16] ∧
  cond (decide (n16 < 16))
  (∃ (cs23 : Array Value), Ld Try.prog 165 (.pointer (some a5)) wl1 (.agg cs23) ∧
    LoopS [.pointer p0_1, v1_1, .pointer (some a5), .pointer (some a6), .int .i64 n16, .int .i64 (IntKind.i64.wrap (Int.tdiv n16 4)), .int .i64 (Int.tmod n16 4), .int .u8 0, .int .i64 n16, .agg cs23, .int .i64 0] wl1 fun I2 μ2 us2 _ wl2 =>
    ∃ (p0_2 : Option Addr) (v1_2 : Value) (a5_1 : Addr) (a6_1 : Addr) (n7 : Int) (n8 : Int) (n9 : Int) (n10 : Int) (n16_1 : Int) (cs23_1 : Array Value) (n24 : Int), us2 = [.pointer p0_2, v1_2, .pointer (some a5_1), .pointer (some a6_1), .int .i64 n7, .int .i64 n8, .int .i64 n9, .int .u8 n10, .int .i64 n16_1, .agg cs23_1, .int .i64 n24] ∧
    cond (decide (n24 < 4))
    (∃ (n27 : Int), Pu Try.prog (Instr.index 165 (.agg cs23_1) (.int .i64 n24)) (.int .i64 n27) ∧
      ∃ (a38 : Addr), IxA Try.prog 151 (.pointer (some a6_1)) (.int .i64 (IntKind.i64.wrap ((IntKind.i64.wrap (4 * n8)) + (Int.tmod (IntKind.i64.wrap (n9 + n24)) 4)))) a38 ∧
      ∃ (n39 : Int), Ld Try.prog 5 (.pointer (some a38)) wl2 (.int .u8 n39) ∧
      callV Try.prog (v1_2) [.int .i64 n27, .int .u8 n39] wl2 fun r40 w4 =>
      ∃ (n40 : Int), r40 = .int .u8 n40 ∧
      goesOn [] [] I2 μ2 us2 [.pointer p0_2, v1_2, .pointer (some a5_1), .pointer (some a6_1), .int .i64 n7, .int .i64 n8, .int .i64 n9, .int .u8 (ixor .u8 n10 n40), .int .i64 n16_1, .agg cs23_1, .int .i64 (IntKind.i64.wrap (n24 + 1))] wl2 w4)
    (aes_block_columns_j1 I1 μ1 us1 wl1 p0_2 (v1_2) a5_1 a6_1 n7 n10 n16_1 wl2 Q))
  (Q (.tuple #[]) wl1)

def aes_block_columns_tt : Nat → List (Nat × TypeId) := fun n => match n with | 0 => [(0, 199), (1, 164), (5, 1000000), (6, 1000000), (16, 3)] | 2 => [(0, 199), (1, 164), (5, 1000000), (6, 1000000), (7, 3), (8, 3), (9, 3), (10, 5), (16, 3), (23, 165), (24, 3)] | _ => []

theorem aes_block_columns_call (p0 : Option Addr) (v1 : Value) (cs2 : Array Value) (w : World) (Q : Value → World → Prop) (h : aes_block_columns p0 v1 cs2 w Q) : callF Try.prog 117 #[.pointer p0, v1, .agg cs2] w Q :=
  callF_of (fun _ _ => by kernel_rfl) (callK_of_sw aes_block_columns_tt Try.func117 rfl (by kernel_rfl) (show sw Try.prog none 49 aes_block_columns_tt _ 0 (endK Try.prog [] Q) ⟨regs [.pointer p0, v1, .agg cs2], []⟩ w from
    Eq.mp (by kernel_rfl : aes_block_columns p0 v1 cs2 w Q = sw Try.prog none 49 aes_block_columns_tt (Try.f117.body.getD .skip) 0 (endK Try.prog [] Q) ⟨regs [.pointer p0, v1, .agg cs2], []⟩ w) h))


/-! ### (*crossway/aes.Cipher).times: function 118 -/

def aes_Cipher_times (p0 : Option Addr) (n1 : Int) (n2 : Int) (w : World) (Q : Value → World → Prop) : Prop :=
  cond (n1 == (-1))
  (Q (.int .u8 n2) w)
  (∃ (a14 : Addr), p0 = some a14 ∧
    ∃ (p16 : Option Addr), Ld Try.prog 51 (.pointer (some (a14.add 0))) w (.pointer p16) ∧
    callF Try.prog 54 #[.pointer p16, .int .i64 n1, .int .u8 n2] w fun r19 w1 =>
    ∃ (n19 : Int) (n19_1 : Int), r19 = .tuple #[.int .u8 n19, .int .i64 n19_1] ∧
    Q (.int .u8 n19) w1)

def aes_Cipher_times_tt : Nat → List (Nat × TypeId) := fun _ => []

theorem aes_Cipher_times_call (p0 : Option Addr) (n1 : Int) (n2 : Int) (w : World) (Q : Value → World → Prop) (h : aes_Cipher_times p0 n1 n2 w Q) : callF Try.prog 118 #[.pointer p0, .int .i64 n1, .int .u8 n2] w Q :=
  callF_of (fun _ _ => by kernel_rfl) (callK_of_sw aes_Cipher_times_tt Try.func118 rfl (by kernel_rfl) (show sw Try.prog none 23 aes_Cipher_times_tt _ 0 (endK Try.prog [.tmp 6] Q) ⟨regs [.pointer p0, .int .i64 n1, .int .u8 n2], []⟩ w from
    Eq.mp (by kernel_rfl : aes_Cipher_times p0 n1 n2 w Q = sw Try.prog none 23 aes_Cipher_times_tt (Try.f118.body.getD .skip) 0 (endK Try.prog [.tmp 6] Q) ⟨regs [.pointer p0, .int .i64 n1, .int .u8 n2], []⟩ w) h))

end Go.Sh
end

section
namespace Go.Sh
open Go Go.Fw Go.Proofs
set_option maxRecDepth 100000
set_option linter.unusedVariables false

/-! ### crossway/crosswayref00.CopyBytes: function 57 -/

def ref00_CopyBytes (p0 : Option Addr) (l0 : Nat) (c0 : Nat) (w : World) (Q : Value → World → Prop) : Prop :=
  ∃ (p3 : Option Addr) (l3 : Nat) (c3 : Nat) (w1 : World), Ef Try.prog (Instr.buildSlice 50 0 #[]) w (.slice p3 l3 c3) w1 ∧
  ∃ (p5 : Option Addr) (l5 : Nat) (c5 : Nat) (w2 : World), Ef Try.prog (Builtin.append_ #[50, 50] 50 #[.slice p3 l3 c3, .slice p0 l0 c0]) w1 (.slice p5 l5 c5) w2 ∧
  Q (.slice p5 l5 c5) w2

def ref00_CopyBytes_tt : Nat → List (Nat × TypeId) := fun _ => []

theorem ref00_CopyBytes_call (p0 : Option Addr) (l0 : Nat) (c0 : Nat) (w : World) (Q : Value → World → Prop) (h : ref00_CopyBytes p0 l0 c0 w Q) : callF Try.prog 57 #[.slice p0 l0 c0] w Q :=
  callF_of (fun _ _ => by kernel_rfl) (callK_of_sw ref00_CopyBytes_tt Try.func57 rfl (by kernel_rfl) (show sw Try.prog none 6 ref00_CopyBytes_tt _ 0 (endK Try.prog [.tmp 2] Q) ⟨regs [.slice p0 l0 c0], []⟩ w from
    Eq.mp (by kernel_rfl : ref00_CopyBytes p0 l0 c0 w Q = sw Try.prog none 6 ref00_CopyBytes_tt (Try.f57.body.getD .skip) 0 (endK Try.prog [.tmp 2] Q) ⟨regs [.slice p0 l0 c0], []⟩ w) h))


/-! ### crossway/crosswayref00.SameRows: function 60 -/

def ref00_SameRows (p0 : Option Addr) (l0 : Nat) (c0 : Nat) (p1 : Option Addr) (l1 : Nat) (c1 : Nat) (w : World) (Q : Value → World → Prop) : Prop :=
  cond (((l0 : Nat) : Int) != ((l1 : Nat) : Int))
  (Q (.bool false) w)
  (LoopS [.slice p0 l0 c0, .slice p1 l1 c1, .bool false, .int .i64 0] w fun I1 μ1 us1 _ wl1 =>
    ∃ (p0_1 : Option Addr) (l0_1 : Nat) (c0_1 : Nat) (p1_1 : Option Addr) (l1_1 : Nat) (c1_1 : Nat) (b4 : Bool) (n5 : Int), us1 = [.slice p0_1 l0_1 c0_1, .slice p1_1 l1_1 c1_1, .bool b4, .int .i64 n5] ∧
    cond (decide (n5 < ((l0_1 : Nat) : Int)))
    (∃ (S6 : World → Prop),
      Drw wl1 fun w1 =>
      ∃ (a19 : Addr), IxA Try.prog 68 (.slice p0_1 l0_1 c0_1) (.int .i64 n5) a19 ∧
      ∃ (a23 : Addr), IxA Try.prog 68 (.slice p1_1 l1_1 c1_1) (.int .i64 n5) a23 ∧
      ∃ (p20 : Option Addr) (l20 : Nat) (c20 : Nat), HLd Try.prog S6 50 (.pointer (some a19)) w1 (.slice p20 l20 c20) ∧
      ∃ (p24 : Option Addr) (l24 : Nat) (c24 : Nat), Ld Try.prog 50 (.pointer (some a23)) w1 (.slice p24 l24 c24) ∧
      (w1 = w1 ∨ S6 w1) ∧
      callF Try.prog 65 #[.slice p20 l20 c20, .slice p24 l24 c24] w1 fun r25 w2 =>
      ∃ (b25 : Bool), r25 = .bool b25 ∧
      cond (!b25)
      (Q (.bool false) w2)
      (goesOn [] [] I1 μ1 us1 [.slice p0_1 l0_1 c0_1, .slice p1_1 l1_1 c1_1, .bool b4, .int .i64 (IntKind.i64.wrap (n5 + 1))] wl1 w2))
    (Q (.bool true) wl1))

def ref00_SameRows_tt : Nat → List (Nat × TypeId) := fun n => match n with | 0 => [(0, 68), (1, 68), (4, 4), (5, 3)] | _ => []

theorem ref00_SameRows_call (p0 : Option Addr) (l0 : Nat) (c0 : Nat) (p1 : Option Addr) (l1 : Nat) (c1 : Nat) (w : World) (Q : Value → World → Prop) (h : ref00_SameRows p0 l0 c0 p1 l1 c1 w Q) : callF Try.prog 60 #[.slice p0 l0 c0, .slice p1 l1 c1] w Q :=
  callF_of (fun _ _ => by kernel_rfl) (callK_of_sw ref00_SameRows_tt Try.func60 rfl (by kernel_rfl) (show sw Try.prog none 27 ref00_SameRows_tt _ 0 (endK Try.prog [.tmp 4] Q) ⟨regs [.slice p0 l0 c0, .slice p1 l1 c1], []⟩ w from
    Eq.mp (by kernel_rfl : ref00_SameRows p0 l0 c0 p1 l1 c1 w Q = sw Try.prog none 27 ref00_SameRows_tt (Try.f60.body.getD .skip) 0 (endK Try.prog [.tmp 4] Q) ⟨regs [.slice p0 l0 c0, .slice p1 l1 c1], []⟩ w) h))


/-! ### crossway/crosswayref00.SameBytes: function 65 -/

def ref00_SameBytes (p0 : Option Addr) (l0 : Nat) (c0 : Nat) (p1 : Option Addr) (l1 : Nat) (c1 : Nat) (w : World) (Q : Value → World → Prop) : Prop :=
  cond (((l0 : Nat) : Int) != ((l1 : Nat) : Int))
  (Q (.bool false) w)
  (LoopS [.slice p0 l0 c0, .slice p1 l1 c1, .bool false, .int .i64 0] w fun I1 μ1 us1 _ wl1 =>
    ∃ (p0_1 : Option Addr) (l0_1 : Nat) (c0_1 : Nat) (p1_1 : Option Addr) (l1_1 : Nat) (c1_1 : Nat) (b4 : Bool) (n5 : Int), us1 = [.slice p0_1 l0_1 c0_1, .slice p1_1 l1_1 c1_1, .bool b4, .int .i64 n5] ∧
    cond (decide (n5 < ((l0_1 : Nat) : Int)))
    (∃ (S6 : World → Prop),
      Drw wl1 fun w1 =>
      ∃ (a19 : Addr), IxA Try.prog 50 (.slice p0_1 l0_1 c0_1) (.int .i64 n5) a19 ∧
      ∃ (a23 : Addr), IxA Try.prog 50 (.slice p1_1 l1_1 c1_1) (.int .i64 n5) a23 ∧
      ∃ (n20 : Int), HLd Try.prog S6 5 (.pointer (some a19)) w1 (.int .u8 n20) ∧
      ∃ (n24 : Int), Ld Try.prog 5 (.pointer (some a23)) w1 (.int .u8 n24) ∧
      (w1 = w1 ∨ S6 w1) ∧
      cond (n20 != n24)
      (Q (.bool false) w1)
      (goesOn [] [] I1 μ1 us1 [.slice p0_1 l0_1 c0_1, .slice p1_1 l1_1 c1_1, .bool b4, .int .i64 (IntKind.i64.wrap (n5 + 1))] wl1 w1))
    (Q (.bool true) wl1))

def ref00_SameBytes_tt : Nat → List (Nat × TypeId) := fun n => match n with | 0 => [(0, 50), (1, 50), (4, 4), (5, 3)] | _ => []

theorem ref00_SameBytes_call (p0 : Option Addr) (l0 : Nat) (c0 : Nat) (p1 : Option Addr) (l1 : Nat) (c1 : Nat) (w : World) (Q : Value → World → Prop) (h : ref00_SameBytes p0 l0 c0 p1 l1 c1 w Q) : callF Try.prog 65 #[.slice p0 l0 c0, .slice p1 l1 c1] w Q :=
  callF_of (fun _ _ => by kernel_rfl) (callK_of_sw ref00_SameBytes_tt Try.func65 rfl (by kernel_rfl) (show sw Try.prog none 26 ref00_SameBytes_tt _ 0 (endK Try.prog [.tmp 4] Q) ⟨regs [.slice p0 l0 c0, .slice p1 l1 c1], []⟩ w from
    Eq.mp (by kernel_rfl : ref00_SameBytes p0 l0 c0 p1 l1 c1 w Q = sw Try.prog none 26 ref00_SameBytes_tt (Try.f65.body.getD .skip) 0 (endK Try.prog [.tmp 4] Q) ⟨regs [.slice p0 l0 c0, .slice p1 l1 c1], []⟩ w) h))


/-! ### crossway/crosswayref00.Long: function 69 -/

def ref00_Long (p0 : Option Addr) (l0 : Nat) (c0 : Nat) (n1 : Int) (w : World) (Q : Value → World → Prop) : Prop :=
  cond (decide (((l0 : Nat) : Int) > n1))
  (Q (.bool true) w)
  (LoopS [.slice p0 l0 c0, .int .i64 n1, .bool false, .int .i64 0, .int .i64 0] w fun I1 μ1 us1 _ wl1 =>
    ∃ (p0_1 : Option Addr) (l0_1 : Nat) (c0_1 : Nat) (n1_1 : Int) (b4 : Bool) (n5 : Int) (n6 : Int), us1 = [.slice p0_1 l0_1 c0_1, .int .i64 n1_1, .bool b4, .int .i64 n5, .int .i64 n6] ∧
    cond (decide (n6 < ((l0_1 : Nat) : Int)))
    (∃ (a19 : Addr), IxA Try.prog 68 (.slice p0_1 l0_1 c0_1) (.int .i64 n6) a19 ∧
      ∃ (p20 : Option Addr) (l20 : Nat) (c20 : Nat), Ld Try.prog 50 (.pointer (some a19)) wl1 (.slice p20 l20 c20) ∧
      cond (decide (((l20 : Nat) : Int) > n1_1))
      (Q (.bool true) wl1)
      (∃ (a27 : Addr), IxA Try.prog 68 (.slice p0_1 l0_1 c0_1) (.int .i64 n6) a27 ∧
        ∃ (p28 : Option Addr) (l28 : Nat) (c28 : Nat), Ld Try.prog 50 (.pointer (some a27)) wl1 (.slice p28 l28 c28) ∧
        cond (decide ((IntKind.i64.wrap (n5 + ((l28 : Nat) : Int))) > n1_1))
        (Q (.bool true) wl1)
        (goesOn [] [] I1 μ1 us1 [.slice p0_1 l0_1 c0_1, .int .i64 n1_1, .bool b4, .int .i64 (IntKind.i64.wrap (n5 + ((l28 : Nat) : Int))), .int .i64 (IntKind.i64.wrap (n6 + 1))] wl1 wl1)))
    (Q (.bool false) wl1))

def ref00_Long_tt : Nat → List (Nat × TypeId) := fun n => match n with | 0 => [(0, 68), (1, 3), (4, 4), (5, 3), (6, 3)] | _ => []

theorem ref00_Long_call (p0 : Option Addr) (l0 : Nat) (c0 : Nat) (n1 : Int) (w : World) (Q : Value → World → Prop) (h : ref00_Long p0 l0 c0 n1 w Q) : callF Try.prog 69 #[.slice p0 l0 c0, .int .i64 n1] w Q :=
  callF_of (fun _ _ => by kernel_rfl) (callK_of_sw ref00_Long_tt Try.func69 rfl (by kernel_rfl) (show sw Try.prog none 34 ref00_Long_tt _ 0 (endK Try.prog [.tmp 4] Q) ⟨regs [.slice p0 l0 c0, .int .i64 n1], []⟩ w from
    Eq.mp (by kernel_rfl : ref00_Long p0 l0 c0 n1 w Q = sw Try.prog none 34 ref00_Long_tt (Try.f69.body.getD .skip) 0 (endK Try.prog [.tmp 4] Q) ⟨regs [.slice p0 l0 c0, .int .i64 n1], []⟩ w) h))

end Go.Sh
end

section
namespace Go.Sh
open Go Go.Fw Go.Proofs
set_option maxRecDepth 100000
set_option linter.unusedVariables false

/-! ### crossway/crosswayref02.Mul: function 43 -/

def ref02_Mul_j1 (n4 : Int) (n5 : Int) (w : World) (Q : Value → World → Prop) : Prop :=
  LoopS [.int .u8 n4, .int .i64 n5, .int .i64 14] w fun I2 μ2 us2 _ wl2 =>
  ∃ (n4_1 : Int) (n5_1 : Int) (n7 : Int), us2 = [.int .u8 n4_1, .int .i64 n5_1, .int .i64 n7] ∧
  cond (decide (n7 ≥ 8))
  (∃ (n35 : Int), Pu Try.prog (do eqGuard .shl 3 (.const (.int .i64 1)) (.tmp 34) (.int .i64 1) (.int .u64 (IntKind.u64.wrap n7)); binOp .shl 3 (.int .i64 1) (.int .u64 (IntKind.u64.wrap n7)) : Sem Value) (.int .i64 n35) ∧
    ∃ (n36 : Int), Pu Try.prog (do eqGuard .quo 3 (.tmp 32) (.tmp 35) (.int .i64 n5_1) (.int .i64 n35); binOp .quo 3 (.int .i64 n5_1) (.int .i64 n35) : Sem Value) (.int .i64 n36) ∧
    cond ((Int.tmod n36 2) == 1)
    (∃ (n43 : Int), Pu Try.prog (do eqGuard .shl 3 (.const (.int .i64 1)) (.tmp 42) (.int .i64 1) (.int .u64 (IntKind.u64.wrap (IntKind.i64.wrap (n7 - 8)))); binOp .shl 3 (.int .i64 1) (.int .u64 (IntKind.u64.wrap (IntKind.i64.wrap (n7 - 8)))) : Sem Value) (.int .i64 n43) ∧
      goesOn [] [] I2 μ2 us2 [.int .u8 n4_1, .int .i64 (ixor .i64 n5_1 (IntKind.i64.wrap (283 * n43))), .int .i64 (IntKind.i64.wrap (n7 - 1))] wl2 wl2)
    (goesOn [] [] I2 μ2 us2 [.int .u8 n4_1, .int .i64 n5_1, .int .i64 (IntKind.i64.wrap (n7 - 1))] wl2 wl2))
  (Q (.int .u8 (IntKind.u8.wrap n5_1)) wl2)

def ref02_Mul (n0 : Int) (n1 : Int) (w : World) (Q : Value → World → Prop) : Prop :=
  LoopS [.int .u8 n0, .int .u8 n1, .int .u8 0, .int .i64 0, .int .i64 0] w fun I1 μ1 us1 _ wl1 =>
  ∃ (n0_1 : Int) (n1_1 : Int) (n4 : Int) (n5 : Int) (n6 : Int), us1 = [.int .u8 n0_1, .int .u8 n1_1, .int .u8 n4, .int .i64 n5, .int .i64 n6] ∧
  cond (decide (n6 < 8))
  (∃ (n16 : Int), Pu Try.prog (do eqGuard .shl 3 (.const (.int .i64 1)) (.tmp 15) (.int .i64 1) (.int .u64 (IntKind.u64.wrap n6)); binOp .shl 3 (.int .i64 1) (.int .u64 (IntKind.u64.wrap n6)) : Sem Value) (.int .i64 n16) ∧
    ∃ (n17 : Int), Pu Try.prog (do eqGuard .quo 3 (.tmp 13) (.tmp 16) (.int .i64 (IntKind.i64.wrap n1_1)) (.int .i64 n16); binOp .quo 3 (.int .i64 (IntKind.i64.wrap n1_1)) (.int .i64 n16) : Sem Value) (.int .i64 n17) ∧
    cond ((Int.tmod n17 2) == 1)
    (∃ (n25 : Int), Pu Try.prog (do eqGuard .shl 3 (.const (.int .i64 1)) (.tmp 24) (.int .i64 1) (.int .u64 (IntKind.u64.wrap n6)); binOp .shl 3 (.int .i64 1) (.int .u64 (IntKind.u64.wrap n6)) : Sem Value) (.int .i64 n25) ∧
      goesOn [] [] I1 μ1 us1 [.int .u8 n0_1, .int .u8 n1_1, .int .u8 n4, .int .i64 (ixor .i64 n5 (IntKind.i64.wrap ((IntKind.i64.wrap n0_1) * n25))), .int .i64 (IntKind.i64.wrap (n6 + 1))] wl1 wl1)
    (goesOn [] [] I1 μ1 us1 [.int .u8 n0_1, .int .u8 n1_1, .int .u8 n4, .int .i64 n5, .int .i64 (IntKind.i64.wrap (n6 + 1))] wl1 wl1))
  (ref02_Mul_j1 n4 n5 wl1 Q)

def ref02_Mul_tt : Nat → List (Nat × TypeId) := fun n => match n with | 0 => [(0, 5), (1, 5), (4, 5), (5, 3), (6, 3)] | 2 => [(4, 5), (5, 3), (7, 3)] | _ => []

theorem ref02_Mul_call (n0 : Int) (n1 : Int) (w : World) (Q : Value → World → Prop) (h : ref02_Mul n0 n1 w Q) : callF Try.prog 43 #[.int .u8 n0, .int .u8 n1] w Q :=
  callF_of (fun _ _ => by kernel_rfl) (callK_of_sw ref02_Mul_tt Try.func43 rfl (by kernel_rfl) (show sw Try.prog none 48 ref02_Mul_tt _ 0 (endK Try.prog [.tmp 4] Q) ⟨regs [.int .u8 n0, .int .u8 n1], []⟩ w from
    Eq.mp (by kernel_rfl : ref02_Mul n0 n1 w Q = sw Try.prog none 48 ref02_Mul_tt (Try.f43.body.getD .skip) 0 (endK Try.prog [.tmp 4] Q) ⟨regs [.int .u8 n0, .int .u8 n1], []⟩ w) h))


/-! ### crossway/crosswayref02.Inv: function 45 -/

def ref02_Inv (n0 : Int) (w : World) (Q : Value → World → Prop) : Prop :=
  LoopS [.int .u8 n0, .int .u8 0, .int .i64 0] w fun I1 μ1 us1 _ wl1 =>
  ∃ (n0_1 : Int) (n2 : Int) (n3 : Int), us1 = [.int .u8 n0_1, .int .u8 n2, .int .i64 n3] ∧
  cond (decide (n3 < 256))
  (callF Try.prog 43 #[.int .u8 n0_1, .int .u8 (IntKind.u8.wrap n3)] wl1 fun r11 w1 =>
    ∃ (n11 : Int), r11 = .int .u8 n11 ∧
    cond (n11 == 1)
    (Q (.int .u8 (IntKind.u8.wrap n3)) w1)
    (goesOn [] [] I1 μ1 us1 [.int .u8 n0_1, .int .u8 n2, .int .i64 (IntKind.i64.wrap (n3 + 1))] wl1 w1))
  (Q (.int .u8 0) wl1)

def ref02_Inv_tt : Nat → List (Nat × TypeId) := fun n => match n with | 0 => [(0, 5), (2, 5), (3, 3)] | _ => []

theorem ref02_Inv_call (n0 : Int) (w : World) (Q : Value → World → Prop) (h : ref02_Inv n0 w Q) : callF Try.prog 45 #[.int .u8 n0] w Q :=
  callF_of (fun _ _ => by kernel_rfl) (callK_of_sw ref02_Inv_tt Try.func45 rfl (by kernel_rfl) (show sw Try.prog none 15 ref02_Inv_tt _ 0 (endK Try.prog [.tmp 2] Q) ⟨regs [.int .u8 n0], []⟩ w from
    Eq.mp (by kernel_rfl : ref02_Inv n0 w Q = sw Try.prog none 15 ref02_Inv_tt (Try.f45.body.getD .skip) 0 (endK Try.prog [.tmp 2] Q) ⟨regs [.int .u8 n0], []⟩ w) h))


/-! ### crossway/crosswayref02.Pow: function 47 -/

def ref02_Pow (n0 : Int) (n1 : Int) (w : World) (Q : Value → World → Prop) : Prop :=
  cond (n1 == 0)
  (Q (.int .u8 1) w)
  (cond (n0 == 0)
    (Q (.int .u8 0) w)
    (LoopS [.int .u8 n0, .int .u64 n1, .int .u8 0, .int .u8 1, .int .u64 0] w fun I1 μ1 us1 _ wl1 =>
      ∃ (n0_1 : Int) (n1_1 : Int) (n4 : Int) (n5 : Int) (n6 : Int), us1 = [.int .u8 n0_1, .int .u64 n1_1, .int .u8 n4, .int .u8 n5, .int .u64 n6] ∧
      cond (decide (n6 < (Int.tmod n1_1 255)))
      (callF Try.prog 43 #[.int .u8 n5, .int .u8 n0_1] wl1 fun r19 w1 =>
        ∃ (n19 : Int), r19 = .int .u8 n19 ∧
        goesOn [] [] I1 μ1 us1 [.int .u8 n0_1, .int .u64 n1_1, .int .u8 n4, .int .u8 n19, .int .u64 (IntKind.u64.wrap (n6 + 1))] wl1 w1)
      (Q (.int .u8 n5) wl1)))

def ref02_Pow_tt : Nat → List (Nat × TypeId) := fun n => match n with | 0 => [(0, 5), (1, 45), (4, 5), (5, 5), (6, 45)] | _ => []

theorem ref02_Pow_call (n0 : Int) (n1 : Int) (w : World) (Q : Value → World → Prop) (h : ref02_Pow n0 n1 w Q) : callF Try.prog 47 #[.int .u8 n0, .int .u64 n1] w Q :=
  callF_of (fun _ _ => by kernel_rfl) (callK_of_sw ref02_Pow_tt Try.func47 rfl (by kernel_rfl) (show sw Try.prog none 21 ref02_Pow_tt _ 0 (endK Try.prog [.tmp 4] Q) ⟨regs [.int .u8 n0, .int .u64 n1], []⟩ w from
    Eq.mp (by kernel_rfl : ref02_Pow n0 n1 w Q = sw Try.prog none 21 ref02_Pow_tt (Try.f47.body.getD .skip) 0 (endK Try.prog [.tmp 4] Q) ⟨regs [.int .u8 n0, .int .u64 n1], []⟩ w) h))


/-! ### crossway/crosswayref02.Sub: function 51 -/

def ref02_Sub (n0 : Int) (w : World) (Q : Value → World → Prop) : Prop :=
  callF Try.prog 45 #[.int .u8 n0] w fun r4 w1 =>
  ∃ (n4 : Int), r4 = .int .u8 n4 ∧
  callF Try.prog 109 #[.int .u8 n4] w1 fun r5 w2 =>
  ∃ (n5 : Int), r5 = .int .u8 n5 ∧
  Q (.int .u8 n5) w2

def ref02_Sub_tt : Nat → List (Nat × TypeId) := fun _ => []

theorem ref02_Sub_call (n0 : Int) (w : World) (Q : Value → World → Prop) (h : ref02_Sub n0 w Q) : callF Try.prog 51 #[.int .u8 n0] w Q :=
  callF_of (fun _ _ => by kernel_rfl) (callK_of_sw ref02_Sub_tt Try.func51 rfl (by kernel_rfl) (show sw Try.prog none 6 ref02_Sub_tt _ 0 (endK Try.prog [.tmp 2] Q) ⟨regs [.int .u8 n0], []⟩ w from
    Eq.mp (by kernel_rfl : ref02_Sub n0 w Q = sw Try.prog none 6 ref02_Sub_tt (Try.f51.body.getD .skip) 0 (endK Try.prog [.tmp 2] Q) ⟨regs [.int .u8 n0], []⟩ w) h))


/-! ### crossway/crosswayref02.Unsub: function 53 -/

def ref02_Unsub (n0 : Int) (w : World) (Q : Value → World → Prop) : Prop :=
  LoopS [.int .u8 n0, .int .u8 0, .int .i64 0] w fun I1 μ1 us1 _ wl1 =>
  ∃ (n0_1 : Int) (n2 : Int) (n3 : Int), us1 = [.int .u8 n0_1, .int .u8 n2, .int .i64 n3] ∧
  cond (decide (n3 < 256))
  (callF Try.prog 51 #[.int .u8 (IntKind.u8.wrap n3)] wl1 fun r10 w1 =>
    ∃ (n10 : Int), r10 = .int .u8 n10 ∧
    cond (n10 == n0_1)
    (Q (.int .u8 (IntKind.u8.wrap n3)) w1)
    (goesOn [] [] I1 μ1 us1 [.int .u8 n0_1, .int .u8 n2, .int .i64 (IntKind.i64.wrap (n3 + 1))] wl1 w1))
  (Q (.int .u8 0) wl1)

def ref02_Unsub_tt : Nat → List (Nat × TypeId) := fun n => match n with | 0 => [(0, 5), (2, 5), (3, 3)] | _ => []

theorem ref02_Unsub_call (n0 : Int) (w : World) (Q : Value → World → Prop) (h : ref02_Unsub n0 w Q) : callF Try.prog 53 #[.int .u8 n0] w Q :=
  callF_of (fun _ _ => by kernel_rfl) (callK_of_sw ref02_Unsub_tt Try.func53 rfl (by kernel_rfl) (show sw Try.prog none 15 ref02_Unsub_tt _ 0 (endK Try.prog [.tmp 2] Q) ⟨regs [.int .u8 n0], []⟩ w from
    Eq.mp (by kernel_rfl : ref02_Unsub n0 w Q = sw Try.prog none 15 ref02_Unsub_tt (Try.f53.body.getD .skip) 0 (endK Try.prog [.tmp 2] Q) ⟨regs [.int .u8 n0], []⟩ w) h))


/-! ### crossway/crosswayref02.Sign: function 109 -/

def ref02_Sign_j1 (I1 : Inv) (μ1 : Meas) (us1 : List Value) (wl1 : World) (n2 : Int) (n3 : Int) (n4 : Int) (n5 : Int) (n6 : Int) (w : World) (Q : Value → World → Prop) : Prop :=
  ∃ (n47 : Int), Pu Try.prog (do eqGuard .shl 3 (.const (.int .i64 1)) (.tmp 46) (.int .i64 1) (.int .u64 (IntKind.u64.wrap n5)); binOp .shl 3 (.int .i64 1) (.int .u64 (IntKind.u64.wrap n5)) : Sem Value) (.int .i64 n47) ∧
  goesOn [] [] I1 μ1 us1 [.int .u8 n2, .int .i64 n3, .int .i64 (IntKind.i64.wrap (n4 + (IntKind.i64.wrap ((Int.tmod n6 2) * n47)))), .int .i64 (IntKind.i64.wrap (n5 + 1))] wl1 w

def ref02_Sign (n0 : Int) (w : World) (Q : Value → World → Prop) : Prop :=
  LoopS [.int .u8 0, .int .i64 (IntKind.i64.wrap n0), .int .i64 0, .int .i64 0] w fun I1 μ1 us1 _ wl1 =>
  ∃ (n2 : Int) (n3 : Int) (n4 : Int) (n5 : Int), us1 = [.int .u8 n2, .int .i64 n3, .int .i64 n4, .int .i64 n5] ∧
  cond (decide (n5 < 8))
  (∃ (n16 : Int), Pu Try.prog (do eqGuard .shl 3 (.const (.int .i64 1)) (.tmp 15) (.int .i64 1) (.int .u64 (IntKind.u64.wrap n5)); binOp .shl 3 (.int .i64 1) (.int .u64 (IntKind.u64.wrap n5)) : Sem Value) (.int .i64 n16) ∧
    ∃ (n17 : Int), Pu Try.prog (do eqGuard .quo 3 (.const (.int .i64 99)) (.tmp 16) (.int .i64 99) (.int .i64 n16); binOp .quo 3 (.int .i64 99) (.int .i64 n16) : Sem Value) (.int .i64 n17) ∧
    ∃ (n23 : Int), Pu Try.prog (do eqGuard .shl 3 (.const (.int .i64 1)) (.tmp 22) (.int .i64 1) (.int .u64 (IntKind.u64.wrap n5)); binOp .shl 3 (.int .i64 1) (.int .u64 (IntKind.u64.wrap n5)) : Sem Value) (.int .i64 n23) ∧
    ∃ (n24 : Int), Pu Try.prog (do eqGuard .quo 3 (.tmp 20) (.tmp 23) (.int .i64 n3) (.int .i64 n23); binOp .quo 3 (.int .i64 n3) (.int .i64 n23) : Sem Value) (.int .i64 n24) ∧
    LoopS [.int .u8 n2, .int .i64 n3, .int .i64 n4, .int .i64 n5, .int .i64 (IntKind.i64.wrap ((Int.tmod n17 2) + (Int.tmod n24 2))), .int .i64 4] wl1 fun I2 μ2 us2 _ wl2 =>
    ∃ (n2_1 : Int) (n3_1 : Int) (n4_1 : Int) (n5_1 : Int) (n6 : Int) (n7 : Int), us2 = [.int .u8 n2_1, .int .i64 n3_1, .int .i64 n4_1, .int .i64 n5_1, .int .i64 n6, .int .i64 n7] ∧
    cond (decide (n7 < 8))
    (∃ (n38 : Int), Pu Try.prog (do eqGuard .shl 3 (.const (.int .i64 1)) (.tmp 37) (.int .i64 1) (.int .u64 (IntKind.u64.wrap (Int.tmod (IntKind.i64.wrap (n5_1 + n7)) 8))); binOp .shl 3 (.int .i64 1) (.int .u64 (IntKind.u64.wrap (Int.tmod (IntKind.i64.wrap (n5_1 + n7)) 8))) : Sem Value) (.int .i64 n38) ∧
      ∃ (n39 : Int), Pu Try.prog (do eqGuard .quo 3 (.tmp 32) (.tmp 38) (.int .i64 n3_1) (.int .i64 n38); binOp .quo 3 (.int .i64 n3_1) (.int .i64 n38) : Sem Value) (.int .i64 n39) ∧
      goesOn [] [] I2 μ2 us2 [.int .u8 n2_1, .int .i64 n3_1, .int .i64 n4_1, .int .i64 n5_1, .int .i64 (IntKind.i64.wrap (n6 + (Int.tmod n39 2))), .int .i64 (IntKind.i64.wrap (n7 + 1))] wl2 wl2)
    (ref02_Sign_j1 I1 μ1 us1 wl1 n2_1 n3_1 n4_1 n5_1 n6 wl2 Q))
  (Q (.int .u8 (IntKind.u8.wrap n4)) wl1)

def ref02_Sign_tt : Nat → List (Nat × TypeId) := fun n => match n with | 0 => [(2, 5), (3, 3), (4, 3), (5, 3)] | 2 => [(2, 5), (3, 3), (4, 3), (5, 3), (6, 3), (7, 3)] | _ => []

theorem ref02_Sign_call (n0 : Int) (w : World) (Q : Value → World → Prop) (h : ref02_Sign n0 w Q) : callF Try.prog 109 #[.int .u8 n0] w Q :=
  callF_of (fun _ _ => by kernel_rfl) (callK_of_sw ref02_Sign_tt Try.func109 rfl (by kernel_rfl) (show sw Try.prog none 52 ref02_Sign_tt _ 0 (endK Try.prog [.tmp 2] Q) ⟨regs [.int .u8 n0], []⟩ w from
    Eq.mp (by kernel_rfl : ref02_Sign n0 w Q = sw Try.prog none 52 ref02_Sign_tt (Try.f109.body.getD .skip) 0 (endK Try.prog [.tmp 2] Q) ⟨regs [.int .u8 n0], []⟩ w) h))

end Go.Sh
end

section
namespace Go.Sh
open Go Go.Fw Go.Proofs
set_option maxRecDepth 100000
set_option linter.unusedVariables false

/-! ### crossway/crosswayref03.Table: function 59 -/

def ref03_Table_j1 (p0 : Option Addr) (l0 : Nat) (c0 : Nat) (p1 : Option Addr) (l1 : Nat) (c1 : Nat) (w : World) (Q : Value → World → Prop) : Prop :=
  ∃ (p19 : Option Addr) (l19 : Nat) (c19 : Nat) (w1 : World), Ef Try.prog (Instr.makeSlice 50 (.int .i64 256) (.int .i64 256)) w (.slice p19 l19 c19) w1 ∧
  callF Try.prog 109 #[.int .u8 0] w1 fun r21 w2 =>
  ∃ (n21 : Int), r21 = .int .u8 n21 ∧
  ∃ (a22 : Addr), IxA Try.prog 50 (.slice p19 l19 c19) (.int .i64 0) a22 ∧
  ∃ (w3 : World), Sto Try.prog 5 (.pointer (some a22)) (.int .u8 n21) w2 w3 ∧
  LoopS [.slice p0 l0 c0, .slice p1 l1 c1, .slice p19 l19 c19, .int .i64 0] w3 fun I2 μ2 us2 _ wl2 =>
  ∃ (p0_1 : Option Addr) (l0_1 : Nat) (c0_1 : Nat) (p1_1 : Option Addr) (l1_1 : Nat) (c1_1 : Nat) (p3 : Option Addr) (l3 : Nat) (c3 : Nat) (n4 : Int), us2 = [.slice p0_1 l0_1 c0_1, .slice p1_1 l1_1 c1_1, .slice p3 l3 c3, .int .i64 n4] ∧
  cond (decide (n4 < 255))
  (∃ (S11 : World → Prop),
    Drw wl2 fun w4 =>
    ∃ (a30 : Addr), IxA Try.prog 50 (.slice p1_1 l1_1 c1_1) (.int .i64 n4) a30 ∧
    ∃ (a36 : Addr), IxA Try.prog 50 (.slice p1_1 l1_1 c1_1) (.int .i64 (Int.tmod (IntKind.i64.wrap (255 - n4)) 255)) a36 ∧
    ∃ (n31 : Int), HLd Try.prog S11 5 (.pointer (some a30)) w4 (.int .u8 n31) ∧
    ∃ (n37 : Int), Ld Try.prog 5 (.pointer (some a36)) w4 (.int .u8 n37) ∧
    (w4 = w4 ∨ S11 w4) ∧
    callF Try.prog 109 #[.int .u8 n37] w4 fun r38 w5 =>
    ∃ (n38 : Int), r38 = .int .u8 n38 ∧
    (w5 = w4 ∨ S11 w5) ∧
    ∃ (a39 : Addr), IxA Try.prog 50 (.slice p3 l3 c3) (.int .u8 n31) a39 ∧
    ∃ (w6 : World), Sto Try.prog 5 (.pointer (some a39)) (.int .u8 n38) w5 w6 ∧
    goesOn [] [] I2 μ2 us2 [.slice p0_1 l0_1 c0_1, .slice p1_1 l1_1 c1_1, .slice p3 l3 c3, .int .i64 (IntKind.i64.wrap (n4 + 1))] wl2 w6)
  (Q (.slice p3 l3 c3) wl2)

def ref03_Table  (w : World) (Q : Value → World → Prop) : Prop :=
  ∃ (p5 : Option Addr) (l5 : Nat) (c5 : Nat) (w1 : World), Ef Try.prog (Instr.buildSlice 50 1 #[(0, .int .u8 1)]) w (.slice p5 l5 c5) w1 ∧
  LoopS [.slice none 0 0, .slice p5 l5 c5, .int .i64 1] w1 fun I1 μ1 us1 _ wl1 =>
  ∃ (p0 : Option Addr) (l0 : Nat) (c0 : Nat) (p1 : Option Addr) (l1 : Nat) (c1 : Nat) (n2 : Int), us1 = [.slice p0 l0 c0, .slice p1 l1 c1, .int .i64 n2] ∧
  cond (decide (n2 < 255))
  (∃ (a14 : Addr), IxA Try.prog 50 (.slice p1 l1 c1) (.int .i64 (IntKind.i64.wrap (n2 - 1))) a14 ∧
    ∃ (n15 : Int), Ld Try.prog 5 (.pointer (some a14)) wl1 (.int .u8 n15) ∧
    callF Try.prog 43 #[.int .u8 n15, .int .u8 3] wl1 fun r16 w2 =>
    ∃ (n16 : Int), r16 = .int .u8 n16 ∧
    ∃ (p17 : Option Addr) (l17 : Nat) (c17 : Nat) (w3 : World), Ef Try.prog (Instr.buildSlice 50 1 #[(0, .int .u8 n16)]) w2 (.slice p17 l17 c17) w3 ∧
    ∃ (p18 : Option Addr) (l18 : Nat) (c18 : Nat) (w4 : World), Ef Try.prog (Builtin.append_ #[50, 50] 50 #[.slice p1 l1 c1, .slice p17 l17 c17]) w3 (.slice p18 l18 c18) w4 ∧
    goesOn [] [] I1 μ1 us1 [.slice p0 l0 c0, .slice p18 l18 c18, .int .i64 (IntKind.i64.wrap (n2 + 1))] wl1 w4)
  (ref03_Table_j1 p0 l0 c0 p1 l1 c1 wl1 Q)

def ref03_Table_tt : Nat → List (Nat × TypeId) := fun n => match n with | 0 => [(0, 50), (1, 50), (2, 3)] | 2 => [(0, 50), (1, 50), (3, 50), (4, 3)] | _ => []

theorem ref03_Table_call  (w : World) (Q : Value → World → Prop) (h : ref03_Table  w Q) : callF Try.prog 59 #[] w Q :=
  callF_of (fun _ _ => by kernel_rfl) (callK_of_sw ref03_Table_tt Try.func59 rfl (by kernel_rfl) (show sw Try.prog none 41 ref03_Table_tt _ 0 (endK Try.prog [.tmp 0] Q) ⟨regs [], []⟩ w from
    Eq.mp (by kernel_rfl : ref03_Table  w Q = sw Try.prog none 41 ref03_Table_tt (Try.f59.body.getD .skip) 0 (endK Try.prog [.tmp 0] Q) ⟨regs [], []⟩ w) h))


/-! ### crossway/crosswayref03.Keys: function 62 -/

def ref03_Keys_j1 (I2 : Inv) (μ2 : Meas) (us2 : List Value) (wl2 : World) (p1 : Option Addr) (l1 : Nat) (c1 : Nat) (p4 : Option Addr) (l4 : Nat) (c4 : Nat) (p5 : Option Addr) (l5 : Nat) (c5 : Nat) (n7 : Int) (p8 : Option Addr) (l8 : Nat) (c8 : Nat) (w : World) (Q : Value → World → Prop) : Prop :=
  ∃ (a71 : Addr), IxA Try.prog 68 (.slice p5 l5 c5) (.int .i64 (IntKind.i64.wrap (n7 - 4))) a71 ∧
  ∃ (p72 : Option Addr) (l72 : Nat) (c72 : Nat), Ld Try.prog 50 (.pointer (some a71)) w (.slice p72 l72 c72) ∧
  callF Try.prog 113 #[.slice p72 l72 c72, .slice p8 l8 c8] w fun r74 w1 =>
  ∃ (p74 : Option Addr) (l74 : Nat) (c74 : Nat), r74 = .slice p74 l74 c74 ∧
  ∃ (p75 : Option Addr) (l75 : Nat) (c75 : Nat) (w2 : World), Ef Try.prog (Instr.buildSlice 68 1 #[(0, .slice p74 l74 c74)]) w1 (.slice p75 l75 c75) w2 ∧
  ∃ (p76 : Option Addr) (l76 : Nat) (c76 : Nat) (w3 : World), Ef Try.prog (Builtin.append_ #[68, 68] 68 #[.slice p5 l5 c5, .slice p75 l75 c75]) w2 (.slice p76 l76 c76) w3 ∧
  goesOn [] [] I2 μ2 us2 [.slice p1 l1 c1, .slice p4 l4 c4, .slice p76 l76 c76, .int .i64 (IntKind.i64.wrap (n7 + 1))] wl2 w3

def ref03_Keys_j2 (p4 : Option Addr) (l4 : Nat) (c4 : Nat) (p5 : Option Addr) (l5 : Nat) (c5 : Nat) (w : World) (Q : Value → World → Prop) : Prop :=
  ∃ (p77 : Option Addr) (l77 : Nat) (c77 : Nat) (w1 : World), Ef Try.prog (Instr.buildSlice 68 0 #[]) w (.slice p77 l77 c77) w1 ∧
  LoopS [.slice p4 l4 c4, .slice p5 l5 c5, .slice p77 l77 c77, .int .i64 0] w1 fun I3 μ3 us3 _ wl3 =>
  ∃ (p4_1 : Option Addr) (l4_1 : Nat) (c4_1 : Nat) (p5_1 : Option Addr) (l5_1 : Nat) (c5_1 : Nat) (p9 : Option Addr) (l9 : Nat) (c9 : Nat) (n10 : Int), us3 = [.slice p4_1 l4_1 c4_1, .slice p5_1 l5_1 c5_1, .slice p9 l9 c9, .int .i64 n10] ∧
  cond (decide (n10 < 11))
  (∃ (p82 : Option Addr) (l82 : Nat) (c82 : Nat) (w2 : World), Ef Try.prog (Instr.buildSlice 50 0 #[]) wl3 (.slice p82 l82 c82) w2 ∧
    LoopS [.slice p4_1 l4_1 c4_1, .slice p5_1 l5_1 c5_1, .slice p9 l9 c9, .int .i64 n10, .slice p82 l82 c82, .int .i64 0] w2 fun I4 μ4 us4 _ wl4 =>
    ∃ (p4_2 : Option Addr) (l4_2 : Nat) (c4_2 : Nat) (p5_2 : Option Addr) (l5_2 : Nat) (c5_2 : Nat) (p9_1 : Option Addr) (l9_1 : Nat) (c9_1 : Nat) (n10_1 : Int) (p11 : Option Addr) (l11 : Nat) (c11 : Nat) (n12 : Int), us4 = [.slice p4_2 l4_2 c4_2, .slice p5_2 l5_2 c5_2, .slice p9_1 l9_1 c9_1, .int .i64 n10_1, .slice p11 l11 c11, .int .i64 n12] ∧
    cond (decide (n12 < 4))
    (∃ (a93 : Addr), IxA Try.prog 68 (.slice p5_2 l5_2 c5_2) (.int .i64 (IntKind.i64.wrap ((IntKind.i64.wrap (4 * n10_1)) + n12))) a93 ∧
      ∃ (p94 : Option Addr) (l94 : Nat) (c94 : Nat), Ld Try.prog 50 (.pointer (some a93)) wl4 (.slice p94 l94 c94) ∧
      ∃ (p95 : Option Addr) (l95 : Nat) (c95 : Nat) (w3 : World), Ef Try.prog (Builtin.append_ #[50, 50] 50 #[.slice p11 l11 c11, .slice p94 l94 c94]) wl4 (.slice p95 l95 c95) w3 ∧
      goesOn [] [] I4 μ4 us4 [.slice p4_2 l4_2 c4_2, .slice p5_2 l5_2 c5_2, .slice p9_1 l9_1 c9_1, .int .i64 n10_1, .slice p95 l95 c95, .int .i64 (IntKind.i64.wrap (n12 + 1))] wl4 w3)
    (∃ (p98 : Option Addr) (l98 : Nat) (c98 : Nat) (w4 : World), Ef Try.prog (Instr.buildSlice 68 1 #[(0, .slice p11 l11 c11)]) wl4 (.slice p98 l98 c98) w4 ∧
      ∃ (p99 : Option Addr) (l99 : Nat) (c99 : Nat) (w5 : World), Ef Try.prog (Builtin.append_ #[68, 68] 68 #[.slice p9_1 l9_1 c9_1, .slice p98 l98 c98]) w4 (.slice p99 l99 c99) w5 ∧
      goesOn [] [] I3 μ3 us3 [.slice p4_2 l4_2 c4_2, .slice p5_2 l5_2 c5_2, .slice p99 l99 c99, .int .i64 (IntKind.i64.wrap (n10_1 + 1))] wl3 w5))
  (Q (.slice p9 l9 c9) wl3)

def ref03_Keys_j3 (p1 : Option Addr) (l1 : Nat) (c1 : Nat) (p4 : Option Addr) (l4 : Nat) (c4 : Nat) (p5 : Option Addr) (l5 : Nat) (c5 : Nat) (w : World) (Q : Value → World → Prop) : Prop :=
  LoopS [.slice p1 l1 c1, .slice p4 l4 c4, .slice p5 l5 c5, .int .i64 4] w fun I2 μ2 us2 _ wl2 =>
  ∃ (p1_1 : Option Addr) (l1_1 : Nat) (c1_1 : Nat) (p4_1 : Option Addr) (l4_1 : Nat) (c4_1 : Nat) (p5_1 : Option Addr) (l5_1 : Nat) (c5_1 : Nat) (n7 : Int), us2 = [.slice p1_1 l1_1 c1_1, .slice p4_1 l4_1 c4_1, .slice p5_1 l5_1 c5_1, .int .i64 n7] ∧
  cond (decide (n7 < 44))
  (∃ (a37 : Addr), IxA Try.prog 68 (.slice p5_1 l5_1 c5_1) (.int .i64 (IntKind.i64.wrap (n7 - 1))) a37 ∧
    ∃ (p38 : Option Addr) (l38 : Nat) (c38 : Nat), Ld Try.prog 50 (.pointer (some a37)) wl2 (.slice p38 l38 c38) ∧
    cond ((Int.tmod n7 4) == 0)
    (∃ (S11 : World → Prop),
      Drw wl2 fun w1 =>
      ∃ (a43 : Addr), IxA Try.prog 50 (.slice p38 l38 c38) (.int .i64 1) a43 ∧
      ∃ (a46 : Addr), IxA Try.prog 50 (.slice p38 l38 c38) (.int .i64 2) a46 ∧
      ∃ (a49 : Addr), IxA Try.prog 50 (.slice p38 l38 c38) (.int .i64 3) a49 ∧
      ∃ (a52 : Addr), IxA Try.prog 50 (.slice p38 l38 c38) (.int .i64 0) a52 ∧
      ∃ (n44 : Int), HLd Try.prog S11 5 (.pointer (some a43)) w1 (.int .u8 n44) ∧
      ∃ (n47 : Int), HLd Try.prog S11 5 (.pointer (some a46)) w1 (.int .u8 n47) ∧
      ∃ (n50 : Int), HLd Try.prog S11 5 (.pointer (some a49)) w1 (.int .u8 n50) ∧
      ∃ (n53 : Int), Ld Try.prog 5 (.pointer (some a52)) w1 (.int .u8 n53) ∧
      (w1 = w1 ∨ S11 w1) ∧
      ∃ (p54 : Option Addr) (l54 : Nat) (c54 : Nat) (w2 : World), Ef Try.prog (Instr.buildSlice 50 4 #[(0, .int .u8 n44), (1, .int .u8 n47), (2, .int .u8 n50), (3, .int .u8 n53)]) w1 (.slice p54 l54 c54) w2 ∧
      callF Try.prog 112 #[.slice p54 l54 c54, .slice p1_1 l1_1 c1_1] w2 fun r56 w3 =>
      ∃ (p56 : Option Addr) (l56 : Nat) (c56 : Nat), r56 = .slice p56 l56 c56 ∧
      ∃ (S12 : World → Prop),
      Drw w3 fun w4 =>
      ∃ (a58 : Addr), IxA Try.prog 50 (.slice p56 l56 c56) (.int .i64 0) a58 ∧
      ∃ (n59 : Int), HLd Try.prog S12 5 (.pointer (some a58)) w4 (.int .u8 n59) ∧
      callF Try.prog 47 #[.int .u8 2, .int .u64 (IntKind.u64.wrap (IntKind.i64.wrap ((IntKind.i64.wrap (Int.tdiv n7 4)) - 1)))] w4 fun r64 w5 =>
      ∃ (n64 : Int), r64 = .int .u8 n64 ∧
      (w5 = w4 ∨ S12 w5) ∧
      ∃ (a66 : Addr), IxA Try.prog 50 (.slice p56 l56 c56) (.int .i64 0) a66 ∧
      ∃ (w6 : World), Sto Try.prog 5 (.pointer (some a66)) (.int .u8 (ixor .u8 n59 n64)) w5 w6 ∧
      ref03_Keys_j1 I2 μ2 us2 wl2 p1_1 l1_1 c1_1 p4_1 l4_1 c4_1 p5_1 l5_1 c5_1 n7 p56 l56 c56 w6 Q)
    (ref03_Keys_j1 I2 μ2 us2 wl2 p1_1 l1_1 c1_1 p4_1 l4_1 c4_1 p5_1 l5_1 c5_1 n7 p38 l38 c38 wl2 Q))
  (ref03_Keys_j2 p4_1 l4_1 c4_1 p5_1 l5_1 c5_1 wl2 Q)

def ref03_Keys (p0 : Option Addr) (l0 : Nat) (c0 : Nat) (p1 : Option Addr) (l1 : Nat) (c1 : Nat) (w : World) (Q : Value → World → Prop) : Prop :=
  ∃ (p13 : Option Addr) (l13 : Nat) (c13 : Nat) (w1 : World), Ef Try.prog (Instr.buildSlice 68 0 #[]) w (.slice p13 l13 c13) w1 ∧
  LoopS [.slice p0 l0 c0, .slice p1 l1 c1, .slice none 0 0, .slice p13 l13 c13, .int .i64 0] w1 fun I1 μ1 us1 _ wl1 =>
  ∃ (p0_1 : Option Addr) (l0_1 : Nat) (c0_1 : Nat) (p1_1 : Option Addr) (l1_1 : Nat) (c1_1 : Nat) (p4 : Option Addr) (l4 : Nat) (c4 : Nat) (p5 : Option Addr) (l5 : Nat) (c5 : Nat) (n6 : Int), us1 = [.slice p0_1 l0_1 c0_1, .slice p1_1 l1_1 c1_1, .slice p4 l4 c4, .slice p5 l5 c5, .int .i64 n6] ∧
  cond (decide (n6 < 4))
  (∃ (p19 : Option Addr) (l19 : Nat) (c19 : Nat) (w2 : World), Ef Try.prog (Instr.buildSlice 50 0 #[]) wl1 (.slice p19 l19 c19) w2 ∧
    ∃ (p26 : Option Addr) (l26 : Nat) (c26 : Nat), Pu Try.prog (Instr.sliceAt 50 (.slice p0_1 l0_1 c0_1) (some (.int .i64 (IntKind.i64.wrap (4 * n6)))) (some (.int .i64 (IntKind.i64.wrap ((IntKind.i64.wrap (4 * n6)) + 4)))) none) (.slice p26 l26 c26) ∧
    ∃ (p27 : Option Addr) (l27 : Nat) (c27 : Nat) (w3 : World), Ef Try.prog (Builtin.append_ #[50, 50] 50 #[.slice p19 l19 c19, .slice p26 l26 c26]) w2 (.slice p27 l27 c27) w3 ∧
    ∃ (p28 : Option Addr) (l28 : Nat) (c28 : Nat) (w4 : World), Ef Try.prog (Instr.buildSlice 68 1 #[(0, .slice p27 l27 c27)]) w3 (.slice p28 l28 c28) w4 ∧
    ∃ (p29 : Option Addr) (l29 : Nat) (c29 : Nat) (w5 : World), Ef Try.prog (Builtin.append_ #[68, 68] 68 #[.slice p5 l5 c5, .slice p28 l28 c28]) w4 (.slice p29 l29 c29) w5 ∧
    goesOn [] [] I1 μ1 us1 [.slice p0_1 l0_1 c0_1, .slice p1_1 l1_1 c1_1, .slice p4 l4 c4, .slice p29 l29 c29, .int .i64 (IntKind.i64.wrap (n6 + 1))] wl1 w5)
  (ref03_Keys_j3 p1_1 l1_1 c1_1 p4 l4 c4 p5 l5 c5 wl1 Q)

def ref03_Keys_tt : Nat → List (Nat × TypeId) := fun n => match n with | 0 => [(0, 50), (1, 50), (4, 68), (5, 68), (6, 3)] | 2 => [(1, 50), (4, 68), (5, 68), (7, 3)] | 4 => [(4, 68), (5, 68), (9, 68), (10, 3)] | 6 => [(4, 68), (5, 68), (9, 68), (10, 3), (11, 50), (12, 3)] | _ => []

theorem ref03_Keys_call (p0 : Option Addr) (l0 : Nat) (c0 : Nat) (p1 : Option Addr) (l1 : Nat) (c1 : Nat) (w : World) (Q : Value → World → Prop) (h : ref03_Keys p0 l0 c0 p1 l1 c1 w Q) : callF Try.prog 62 #[.slice p0 l0 c0, .slice p1 l1 c1] w Q :=
  callF_of (fun _ _ => by kernel_rfl) (callK_of_sw ref03_Keys_tt Try.func62 rfl (by kernel_rfl) (show sw Try.prog none 101 ref03_Keys_tt _ 0 (endK Try.prog [.tmp 4] Q) ⟨regs [.slice p0 l0 c0, .slice p1 l1 c1], []⟩ w from
    Eq.mp (by kernel_rfl : ref03_Keys p0 l0 c0 p1 l1 c1 w Q = sw Try.prog none 101 ref03_Keys_tt (Try.f62.body.getD .skip) 0 (endK Try.prog [.tmp 4] Q) ⟨regs [.slice p0 l0 c0, .slice p1 l1 c1], []⟩ w) h))


/-! ### crossway/crosswayref03.With: function 66 -/

def ref03_With_j1 (I1 : Inv) (μ1 : Meas) (us1 : List Value) (wl1 : World) (p2 : Option Addr) (l2 : Nat) (c2 : Nat) (p6 : Option Addr) (l6 : Nat) (c6 : Nat) (p7 : Option Addr) (l7 : Nat) (c7 : Nat) (p8 : Option Addr) (l8 : Nat) (c8 : Nat) (n9 : Int) (w : World) (Q : Value → World → Prop) : Prop :=
  ∃ (a34 : Addr), IxA Try.prog 68 (.slice p7 l7 c7) (.int .i64 n9) a34 ∧
  ∃ (p35 : Option Addr) (l35 : Nat) (c35 : Nat), Ld Try.prog 50 (.pointer (some a34)) w (.slice p35 l35 c35) ∧
  callF Try.prog 113 #[.slice p8 l8 c8, .slice p35 l35 c35] w fun r36 w1 =>
  ∃ (p36 : Option Addr) (l36 : Nat) (c36 : Nat), r36 = .slice p36 l36 c36 ∧
  goesOn [] [] I1 μ1 us1 [.slice p2 l2 c2, .slice p6 l6 c6, .slice p7 l7 c7, .slice p36 l36 c36, .int .i64 (IntKind.i64.wrap (n9 + 1))] wl1 w1

def ref03_With (p0 : Option Addr) (l0 : Nat) (c0 : Nat) (p1 : Option Addr) (l1 : Nat) (c1 : Nat) (p2 : Option Addr) (l2 : Nat) (c2 : Nat) (w : World) (Q : Value → World → Prop) : Prop :=
  callF Try.prog 62 #[.slice p0 l0 c0, .slice p2 l2 c2] w fun r12 w1 =>
  ∃ (p12 : Option Addr) (l12 : Nat) (c12 : Nat), r12 = .slice p12 l12 c12 ∧
  ∃ (a15 : Addr), IxA Try.prog 68 (.slice p12 l12 c12) (.int .i64 0) a15 ∧
  ∃ (p16 : Option Addr) (l16 : Nat) (c16 : Nat), Ld Try.prog 50 (.pointer (some a15)) w1 (.slice p16 l16 c16) ∧
  callF Try.prog 113 #[.slice p1 l1 c1, .slice p16 l16 c16] w1 fun r17 w2 =>
  ∃ (p17 : Option Addr) (l17 : Nat) (c17 : Nat), r17 = .slice p17 l17 c17 ∧
  LoopS [.slice p2 l2 c2, .slice none 0 0, .slice p12 l12 c12, .slice p17 l17 c17, .int .i64 1] w2 fun I1 μ1 us1 _ wl1 =>
  ∃ (p2_1 : Option Addr) (l2_1 : Nat) (c2_1 : Nat) (p6 : Option Addr) (l6 : Nat) (c6 : Nat) (p7 : Option Addr) (l7 : Nat) (c7 : Nat) (p8 : Option Addr) (l8 : Nat) (c8 : Nat) (n9 : Int), us1 = [.slice p2_1 l2_1 c2_1, .slice p6 l6 c6, .slice p7 l7 c7, .slice p8 l8 c8, .int .i64 n9] ∧
  cond (decide (n9 ≤ 10))
  (callF Try.prog 112 #[.slice p8 l8 c8, .slice p2_1 l2_1 c2_1] wl1 fun r24 w3 =>
    ∃ (p24 : Option Addr) (l24 : Nat) (c24 : Nat), r24 = .slice p24 l24 c24 ∧
    callF Try.prog 119 #[.slice p24 l24 c24, .int .i64 1] w3 fun r25 w4 =>
    ∃ (p25 : Option Addr) (l25 : Nat) (c25 : Nat), r25 = .slice p25 l25 c25 ∧
    cond (decide (n9 < 10))
    (callF Try.prog 120 #[.slice p25 l25 c25, .agg #[.int .u8 2, .int .u8 3, .int .u8 1, .int .u8 1]] w4 fun r30 w5 =>
      ∃ (p30 : Option Addr) (l30 : Nat) (c30 : Nat), r30 = .slice p30 l30 c30 ∧
      ref03_With_j1 I1 μ1 us1 wl1 p2_1 l2_1 c2_1 p6 l6 c6 p7 l7 c7 p30 l30 c30 n9 w5 Q)
    (ref03_With_j1 I1 μ1 us1 wl1 p2_1 l2_1 c2_1 p6 l6 c6 p7 l7 c7 p25 l25 c25 n9 w4 Q))
  (Q (.slice p8 l8 c8) wl1)

def ref03_With_tt : Nat → List (Nat × TypeId) := fun n => match n with | 0 => [(2, 50), (6, 50), (7, 68), (8, 50), (9, 3)] | _ => []

theorem ref03_With_call (p0 : Option Addr) (l0 : Nat) (c0 : Nat) (p1 : Option Addr) (l1 : Nat) (c1 : Nat) (p2 : Option Addr) (l2 : Nat) (c2 : Nat) (w : World) (Q : Value → World → Prop) (h : ref03_With p0 l0 c0 p1 l1 c1 p2 l2 c2 w Q) : callF Try.prog 66 #[.slice p0 l0 c0, .slice p1 l1 c1, .slice p2 l2 c2] w Q :=
  callF_of (fun _ _ => by kernel_rfl) (callK_of_sw ref03_With_tt Try.func66 rfl (by kernel_rfl) (show sw Try.prog none 38 ref03_With_tt _ 0 (endK Try.prog [.tmp 6] Q) ⟨regs [.slice p0 l0 c0, .slice p1 l1 c1, .slice p2 l2 c2], []⟩ w from
    Eq.mp (by kernel_rfl : ref03_With p0 l0 c0 p1 l1 c1 p2 l2 c2 w Q = sw Try.prog none 38 ref03_With_tt (Try.f66.body.getD .skip) 0 (endK Try.prog [.tmp 6] Q) ⟨regs [.slice p0 l0 c0, .slice p1 l1 c1, .slice p2 l2 c2], []⟩ w) h))


/-! ### crossway/crosswayref03.Decrypt: function 68 -/

def ref03_Decrypt_j1 (I1 : Inv) (μ1 : Meas) (us1 : List Value) (wl1 : World) (p4 : Option Addr) (l4 : Nat) (c4 : Nat) (p5 : Option Addr) (l5 : Nat) (c5 : Nat) (p6 : Option Addr) (l6 : Nat) (c6 : Nat) (p7 : Option Addr) (l7 : Nat) (c7 : Nat) (n8 : Int) (w : World) (Q : Value → World → Prop) : Prop :=
  callF Try.prog 119 #[.slice p7 l7 c7, .int .i64 3] w fun r30 w1 =>
  ∃ (p30 : Option Addr) (l30 : Nat) (c30 : Nat), r30 = .slice p30 l30 c30 ∧
  callF Try.prog 121 #[.slice p5 l5 c5] w1 fun r32 w2 =>
  ∃ (p32 : Option Addr) (l32 : Nat) (c32 : Nat), r32 = .slice p32 l32 c32 ∧
  callF Try.prog 112 #[.slice p30 l30 c30, .slice p32 l32 c32] w2 fun r33 w3 =>
  ∃ (p33 : Option Addr) (l33 : Nat) (c33 : Nat), r33 = .slice p33 l33 c33 ∧
  goesOn [] [] I1 μ1 us1 [.slice p4 l4 c4, .slice p5 l5 c5, .slice p6 l6 c6, .slice p33 l33 c33, .int .i64 (IntKind.i64.wrap (n8 - 1))] wl1 w3

def ref03_Decrypt_j2 (p4 : Option Addr) (l4 : Nat) (c4 : Nat) (p6 : Option Addr) (l6 : Nat) (c6 : Nat) (p7 : Option Addr) (l7 : Nat) (c7 : Nat) (w : World) (Q : Value → World → Prop) : Prop :=
  ∃ (a36 : Addr), IxA Try.prog 68 (.slice p6 l6 c6) (.int .i64 0) a36 ∧
  ∃ (p37 : Option Addr) (l37 : Nat) (c37 : Nat), Ld Try.prog 50 (.pointer (some a36)) w (.slice p37 l37 c37) ∧
  callF Try.prog 113 #[.slice p7 l7 c7, .slice p37 l37 c37] w fun r38 w1 =>
  ∃ (p38 : Option Addr) (l38 : Nat) (c38 : Nat), r38 = .slice p38 l38 c38 ∧
  Q (.slice p38 l38 c38) w1

def ref03_Decrypt (p0 : Option Addr) (l0 : Nat) (c0 : Nat) (p1 : Option Addr) (l1 : Nat) (c1 : Nat) (w : World) (Q : Value → World → Prop) : Prop :=
  callF Try.prog 59 #[] w fun r9 w1 =>
  ∃ (p9 : Option Addr) (l9 : Nat) (c9 : Nat), r9 = .slice p9 l9 c9 ∧
  callF Try.prog 62 #[.slice p0 l0 c0, .slice p9 l9 c9] w1 fun r12 w2 =>
  ∃ (p12 : Option Addr) (l12 : Nat) (c12 : Nat), r12 = .slice p12 l12 c12 ∧
  LoopS [.slice none 0 0, .slice p9 l9 c9, .slice p12 l12 c12, .slice p1 l1 c1, .int .i64 10] w2 fun I1 μ1 us1 _ wl1 =>
  ∃ (p4 : Option Addr) (l4 : Nat) (c4 : Nat) (p5 : Option Addr) (l5 : Nat) (c5 : Nat) (p6 : Option Addr) (l6 : Nat) (c6 : Nat) (p7 : Option Addr) (l7 : Nat) (c7 : Nat) (n8 : Int), us1 = [.slice p4 l4 c4, .slice p5 l5 c5, .slice p6 l6 c6, .slice p7 l7 c7, .int .i64 n8] ∧
  cond (decide (n8 ≥ 1))
  (∃ (a21 : Addr), IxA Try.prog 68 (.slice p6 l6 c6) (.int .i64 n8) a21 ∧
    ∃ (p22 : Option Addr) (l22 : Nat) (c22 : Nat), Ld Try.prog 50 (.pointer (some a21)) wl1 (.slice p22 l22 c22) ∧
    callF Try.prog 113 #[.slice p7 l7 c7, .slice p22 l22 c22] wl1 fun r23 w3 =>
    ∃ (p23 : Option Addr) (l23 : Nat) (c23 : Nat), r23 = .slice p23 l23 c23 ∧
    cond (decide (n8 < 10))
    (callF Try.prog 120 #[.slice p23 l23 c23, .agg #[.int .u8 14, .int .u8 11, .int .u8 13, .int .u8 9]] w3 fun r28 w4 =>
      ∃ (p28 : Option Addr) (l28 : Nat) (c28 : Nat), r28 = .slice p28 l28 c28 ∧
      ref03_Decrypt_j1 I1 μ1 us1 wl1 p4 l4 c4 p5 l5 c5 p6 l6 c6 p28 l28 c28 n8 w4 Q)
    (ref03_Decrypt_j1 I1 μ1 us1 wl1 p4 l4 c4 p5 l5 c5 p6 l6 c6 p23 l23 c23 n8 w3 Q))
  (ref03_Decrypt_j2 p4 l4 c4 p6 l6 c6 p7 l7 c7 wl1 Q)

def ref03_Decrypt_tt : Nat → List (Nat × TypeId) := fun n => match n with | 0 => [(4, 50), (5, 50), (6, 68), (7, 50), (8, 3)] | _ => []

theorem ref03_Decrypt_call (p0 : Option Addr) (l0 : Nat) (c0 : Nat) (p1 : Option Addr) (l1 : Nat) (c1 : Nat) (w : World) (Q : Value → World → Prop) (h : ref03_Decrypt p0 l0 c0 p1 l1 c1 w Q) : callF Try.prog 68 #[.slice p0 l0 c0, .slice p1 l1 c1] w Q :=
  callF_of (fun _ _ => by kernel_rfl) (callK_of_sw ref03_Decrypt_tt Try.func68 rfl (by kernel_rfl) (show sw Try.prog none 39 ref03_Decrypt_tt _ 0 (endK Try.prog [.tmp 4] Q) ⟨regs [.slice p0 l0 c0, .slice p1 l1 c1], []⟩ w from
    Eq.mp (by kernel_rfl : ref03_Decrypt p0 l0 c0 p1 l1 c1 w Q = sw Try.prog none 39 ref03_Decrypt_tt (Try.f68.body.getD .skip) 0 (endK Try.prog [.tmp 4] Q) ⟨regs [.slice p0 l0 c0, .slice p1 l1 c1], []⟩ w) h))


/-! ### crossway/crosswayref03.subs: function 112 -/

def ref03_subs (p0 : Option Addr) (l0 : Nat) (c0 : Nat) (p1 : Option Addr) (l1 : Nat) (c1 : Nat) (w : World) (Q : Value → World → Prop) : Prop :=
  ∃ (p7 : Option Addr) (l7 : Nat) (c7 : Nat) (w1 : World), Ef Try.prog (Instr.buildSlice 50 0 #[]) w (.slice p7 l7 c7) w1 ∧
  LoopS [.slice p0 l0 c0, .slice p1 l1 c1, .slice none 0 0, .slice p7 l7 c7, .int .i64 0] w1 fun I1 μ1 us1 _ wl1 =>
  ∃ (p0_1 : Option Addr) (l0_1 : Nat) (c0_1 : Nat) (p1_1 : Option Addr) (l1_1 : Nat) (c1_1 : Nat) (p4 : Option Addr) (l4 : Nat) (c4 : Nat) (p5 : Option Addr) (l5 : Nat) (c5 : Nat) (n6 : Int), us1 = [.slice p0_1 l0_1 c0_1, .slice p1_1 l1_1 c1_1, .slice p4 l4 c4, .slice p5 l5 c5, .int .i64 n6] ∧
  cond (decide (n6 < ((l0_1 : Nat) : Int)))
  (∃ (a18 : Addr), IxA Try.prog 50 (.slice p0_1 l0_1 c0_1) (.int .i64 n6) a18 ∧
    ∃ (n19 : Int), Ld Try.prog 5 (.pointer (some a18)) wl1 (.int .u8 n19) ∧
    ∃ (a20 : Addr), IxA Try.prog 50 (.slice p1_1 l1_1 c1_1) (.int .u8 n19) a20 ∧
    ∃ (n21 : Int), Ld Try.prog 5 (.pointer (some a20)) wl1 (.int .u8 n21) ∧
    ∃ (p22 : Option Addr) (l22 : Nat) (c22 : Nat) (w2 : World), Ef Try.prog (Instr.buildSlice 50 1 #[(0, .int .u8 n21)]) wl1 (.slice p22 l22 c22) w2 ∧
    ∃ (p23 : Option Addr) (l23 : Nat) (c23 : Nat) (w3 : World), Ef Try.prog (Builtin.append_ #[50, 50] 50 #[.slice p5 l5 c5, .slice p22 l22 c22]) w2 (.slice p23 l23 c23) w3 ∧
    goesOn [] [] I1 μ1 us1 [.slice p0_1 l0_1 c0_1, .slice p1_1 l1_1 c1_1, .slice p4 l4 c4, .slice p23 l23 c23, .int .i64 (IntKind.i64.wrap (n6 + 1))] wl1 w3)
  (Q (.slice p5 l5 c5) wl1)

def ref03_subs_tt : Nat → List (Nat × TypeId) := fun n => match n with | 0 => [(0, 50), (1, 50), (4, 50), (5, 50), (6, 3)] | _ => []

theorem ref03_subs_call (p0 : Option Addr) (l0 : Nat) (c0 : Nat) (p1 : Option Addr) (l1 : Nat) (c1 : Nat) (w : World) (Q : Value → World → Prop) (h : ref03_subs p0 l0 c0 p1 l1 c1 w Q) : callF Try.prog 112 #[.slice p0 l0 c0, .slice p1 l1 c1] w Q :=
  callF_of (fun _ _ => by kernel_rfl) (callK_of_sw ref03_subs_tt Try.func112 rfl (by kernel_rfl) (show sw Try.prog none 25 ref03_subs_tt _ 0 (endK Try.prog [.tmp 4] Q) ⟨regs [.slice p0 l0 c0, .slice p1 l1 c1], []⟩ w from
    Eq.mp (by kernel_rfl : ref03_subs p0 l0 c0 p1 l1 c1 w Q = sw Try.prog none 25 ref03_subs_tt (Try.f112.body.getD .skip) 0 (endK Try.prog [.tmp 4] Q) ⟨regs [.slice p0 l0 c0, .slice p1 l1 c1], []⟩ w) h))


/-! ### crossway/crosswayref03.add: function 113 -/

def ref03_add (p0 : Option Addr) (l0 : Nat) (c0 : Nat) (p1 : Option Addr) (l1 : Nat) (c1 : Nat) (w : World) (Q : Value → World → Prop) : Prop :=
  ∃ (p7 : Option Addr) (l7 : Nat) (c7 : Nat) (w1 : World), Ef Try.prog (Instr.buildSlice 50 0 #[]) w (.slice p7 l7 c7) w1 ∧
  LoopS [.slice p0 l0 c0, .slice p1 l1 c1, .slice none 0 0, .slice p7 l7 c7, .int .i64 0] w1 fun I1 μ1 us1 _ wl1 =>
  ∃ (p0_1 : Option Addr) (l0_1 : Nat) (c0_1 : Nat) (p1_1 : Option Addr) (l1_1 : Nat) (c1_1 : Nat) (p4 : Option Addr) (l4 : Nat) (c4 : Nat) (p5 : Option Addr) (l5 : Nat) (c5 : Nat) (n6 : Int), us1 = [.slice p0_1 l0_1 c0_1, .slice p1_1 l1_1 c1_1, .slice p4 l4 c4, .slice p5 l5 c5, .int .i64 n6] ∧
  cond (decide (n6 < ((l0_1 : Nat) : Int)))
  (∃ (S5 : World → Prop),
    Drw wl1 fun w2 =>
    ∃ (a17 : Addr), IxA Try.prog 50 (.slice p0_1 l0_1 c0_1) (.int .i64 n6) a17 ∧
    ∃ (a21 : Addr), IxA Try.prog 50 (.slice p1_1 l1_1 c1_1) (.int .i64 n6) a21 ∧
    ∃ (n18 : Int), HLd Try.prog S5 5 (.pointer (some a17)) w2 (.int .u8 n18) ∧
    ∃ (n22 : Int), Ld Try.prog 5 (.pointer (some a21)) w2 (.int .u8 n22) ∧
    (w2 = w2 ∨ S5 w2) ∧
    ∃ (p24 : Option Addr) (l24 : Nat) (c24 : Nat) (w3 : World), Ef Try.prog (Instr.buildSlice 50 1 #[(0, .int .u8 (ixor .u8 n18 n22))]) w2 (.slice p24 l24 c24) w3 ∧
    ∃ (p25 : Option Addr) (l25 : Nat) (c25 : Nat) (w4 : World), Ef Try.prog (Builtin.append_ #[50, 50] 50 #[.slice p5 l5 c5, .slice p24 l24 c24]) w3 (.slice p25 l25 c25) w4 ∧
    goesOn [] [] I1 μ1 us1 [.slice p0_1 l0_1 c0_1, .slice p1_1 l1_1 c1_1, .slice p4 l4 c4, .slice p25 l25 c25, .int .i64 (IntKind.i64.wrap (n6 + 1))] wl1 w4)
  (Q (.slice p5 l5 c5) wl1)

def ref03_add_tt : Nat → List (Nat × TypeId) := fun n => match n with | 0 => [(0, 50), (1, 50), (4, 50), (5, 50), (6, 3)] | _ => []

theorem ref03_add_call (p0 : Option Addr) (l0 : Nat) (c0 : Nat) (p1 : Option Addr) (l1 : Nat) (c1 : Nat) (w : World) (Q : Value → World → Prop) (h : ref03_add p0 l0 c0 p1 l1 c1 w Q) : callF Try.prog 113 #[.slice p0 l0 c0, .slice p1 l1 c1] w Q :=
  callF_of (fun _ _ => by kernel_rfl) (callK_of_sw ref03_add_tt Try.func113 rfl (by kernel_rfl) (show sw Try.prog none 27 ref03_add_tt _ 0 (endK Try.prog [.tmp 4] Q) ⟨regs [.slice p0 l0 c0, .slice p1 l1 c1], []⟩ w from
    Eq.mp (by kernel_rfl : ref03_add p0 l0 c0 p1 l1 c1 w Q = sw Try.prog none 27 ref03_add_tt (Try.f113.body.getD .skip) 0 (endK Try.prog [.tmp 4] Q) ⟨regs [.slice p0 l0 c0, .slice p1 l1 c1], []⟩ w) h))


/-! ### crossway/crosswayref03.rows: function 119 -/

def ref03_rows (p0 : Option Addr) (l0 : Nat) (c0 : Nat) (n1 : Int) (w : World) (Q : Value → World → Prop) : Prop :=
  ∃ (p8 : Option Addr) (l8 : Nat) (c8 : Nat) (w1 : World), Ef Try.prog (Instr.makeSlice 50 (.int .i64 16) (.int .i64 16)) w (.slice p8 l8 c8) w1 ∧
  LoopS [.slice p0 l0 c0, .int .i64 n1, .slice none 0 0, .slice p8 l8 c8, .int .i64 0] w1 fun I1 μ1 us1 _ wl1 =>
  ∃ (p0_1 : Option Addr) (l0_1 : Nat) (c0_1 : Nat) (n1_1 : Int) (p4 : Option Addr) (l4 : Nat) (c4 : Nat) (p5 : Option Addr) (l5 : Nat) (c5 : Nat) (n6 : Int), us1 = [.slice p0_1 l0_1 c0_1, .int .i64 n1_1, .slice p4 l4 c4, .slice p5 l5 c5, .int .i64 n6] ∧
  cond (decide (n6 < 4))
  (LoopS [.slice p0_1 l0_1 c0_1, .int .i64 n1_1, .slice p4 l4 c4, .slice p5 l5 c5, .int .i64 n6, .int .i64 0] wl1 fun I2 μ2 us2 _ wl2 =>
    ∃ (p0_2 : Option Addr) (l0_2 : Nat) (c0_2 : Nat) (n1_2 : Int) (p4_1 : Option Addr) (l4_1 : Nat) (c4_1 : Nat) (p5_1 : Option Addr) (l5_1 : Nat) (c5_1 : Nat) (n6_1 : Int) (n7 : Int), us2 = [.slice p0_2 l0_2 c0_2, .int .i64 n1_2, .slice p4_1 l4_1 c4_1, .slice p5_1 l5_1 c5_1, .int .i64 n6_1, .int .i64 n7] ∧
    cond (decide (n7 < 4))
    (callF Try.prog 148 #[.int .i64 n6_1, .int .i64 n7] wl2 fun r20 w2 =>
      ∃ (n20 : Int), r20 = .int .i64 n20 ∧
      callF Try.prog 148 #[.int .i64 n6_1, .int .i64 (IntKind.i64.wrap (n7 + (IntKind.i64.wrap (n1_2 * n6_1))))] w2 fun r28 w3 =>
      ∃ (n28 : Int), r28 = .int .i64 n28 ∧
      ∃ (a29 : Addr), IxA Try.prog 50 (.slice p0_2 l0_2 c0_2) (.int .i64 n28) a29 ∧
      ∃ (n30 : Int), Ld Try.prog 5 (.pointer (some a29)) w3 (.int .u8 n30) ∧
      ∃ (a31 : Addr), IxA Try.prog 50 (.slice p5_1 l5_1 c5_1) (.int .i64 n20) a31 ∧
      ∃ (w4 : World), Sto Try.prog 5 (.pointer (some a31)) (.int .u8 n30) w3 w4 ∧
      goesOn [] [] I2 μ2 us2 [.slice p0_2 l0_2 c0_2, .int .i64 n1_2, .slice p4_1 l4_1 c4_1, .slice p5_1 l5_1 c5_1, .int .i64 n6_1, .int .i64 (IntKind.i64.wrap (n7 + 1))] wl2 w4)
    (goesOn [] [] I1 μ1 us1 [.slice p0_2 l0_2 c0_2, .int .i64 n1_2, .slice p4_1 l4_1 c4_1, .slice p5_1 l5_1 c5_1, .int .i64 (IntKind.i64.wrap (n6_1 + 1))] wl1 wl2))
  (Q (.slice p5 l5 c5) wl1)

def ref03_rows_tt : Nat → List (Nat × TypeId) := fun n => match n with | 0 => [(0, 50), (1, 3), (4, 50), (5, 50), (6, 3)] | 2 => [(0, 50), (1, 3), (4, 50), (5, 50), (6, 3), (7, 3)] | _ => []

theorem ref03_rows_call (p0 : Option Addr) (l0 : Nat) (c0 : Nat) (n1 : Int) (w : World) (Q : Value → World → Prop) (h : ref03_rows p0 l0 c0 n1 w Q) : callF Try.prog 119 #[.slice p0 l0 c0, .int .i64 n1] w Q :=
  callF_of (fun _ _ => by kernel_rfl) (callK_of_sw ref03_rows_tt Try.func119 rfl (by kernel_rfl) (show sw Try.prog none 33 ref03_rows_tt _ 0 (endK Try.prog [.tmp 4] Q) ⟨regs [.slice p0 l0 c0, .int .i64 n1], []⟩ w from
    Eq.mp (by kernel_rfl : ref03_rows p0 l0 c0 n1 w Q = sw Try.prog none 33 ref03_rows_tt (Try.f119.body.getD .skip) 0 (endK Try.prog [.tmp 4] Q) ⟨regs [.slice p0 l0 c0, .int .i64 n1], []⟩ w) h))


/-! ### crossway/crosswayref03.columns: function 120 -/

def ref03_columns_j1 (I1 : Inv) (μ1 : Meas) (us1 : List Value) (wl1 : World) (I2 : Inv) (μ2 : Meas) (us2 : List Value) (wl2 : World) (p0 : Option Addr) (l0 : Nat) (c0 : Nat) (a3 : Addr) (p4 : Option Addr) (l4 : Nat) (c4 : Nat) (p5 : Option Addr) (l5 : Nat) (c5 : Nat) (n6 : Int) (n7 : Int) (n8 : Int) (w : World) (Q : Value → World → Prop) : Prop :=
  callF Try.prog 148 #[.int .i64 n7, .int .i64 n6] w fun r42 w1 =>
  ∃ (n42 : Int), r42 = .int .i64 n42 ∧
  ∃ (a44 : Addr), IxA Try.prog 50 (.slice p5 l5 c5) (.int .i64 n42) a44 ∧
  ∃ (w2 : World), Sto Try.prog 5 (.pointer (some a44)) (.int .u8 n8) w1 w2 ∧
  goesOn [] [] I2 μ2 us2 [.slice p0 l0 c0, .pointer (some a3), .slice p4 l4 c4, .slice p5 l5 c5, .int .i64 n6, .int .i64 (IntKind.i64.wrap (n7 + 1))] wl2 w2

def ref03_columns (p0 : Option Addr) (l0 : Nat) (c0 : Nat) (cs1 : Array Value) (w : World) (Q : Value → World → Prop) : Prop :=
  New cs1 155 w fun k3 w1 =>
  ∃ (p10 : Option Addr) (l10 : Nat) (c10 : Nat) (w2 : World), Ef Try.prog (Instr.makeSlice 50 (.int .i64 16) (.int .i64 16)) w1 (.slice p10 l10 c10) w2 ∧
  LoopS [.slice p0 l0 c0, .pointer (some (⟨k3, 0, none⟩ : Addr)), .slice none 0 0, .slice p10 l10 c10, .int .i64 0] w2 fun I1 μ1 us1 _ wl1 =>
  ∃ (p0_1 : Option Addr) (l0_1 : Nat) (c0_1 : Nat) (a3 : Addr) (p4 : Option Addr) (l4 : Nat) (c4 : Nat) (p5 : Option Addr) (l5 : Nat) (c5 : Nat) (n6 : Int), us1 = [.slice p0_1 l0_1 c0_1, .pointer (some a3), .slice p4 l4 c4, .slice p5 l5 c5, .int .i64 n6] ∧
  cond (decide (n6 < 4))
  (LoopS [.slice p0_1 l0_1 c0_1, .pointer (some a3), .slice p4 l4 c4, .slice p5 l5 c5, .int .i64 n6, .int .i64 0] wl1 fun I2 μ2 us2 _ wl2 =>
    ∃ (p0_2 : Option Addr) (l0_2 : Nat) (c0_2 : Nat) (a3_1 : Addr) (p4_1 : Option Addr) (l4_1 : Nat) (c4_1 : Nat) (p5_1 : Option Addr) (l5_1 : Nat) (c5_1 : Nat) (n6_1 : Int) (n7 : Int), us2 = [.slice p0_2 l0_2 c0_2, .pointer (some a3_1), .slice p4_1 l4_1 c4_1, .slice p5_1 l5_1 c5_1, .int .i64 n6_1, .int .i64 n7] ∧
    cond (decide (n7 < 4))
    (LoopS [.slice p0_2 l0_2 c0_2, .pointer (some a3_1), .slice p4_1 l4_1 c4_1, .slice p5_1 l5_1 c5_1, .int .i64 n6_1, .int .i64 n7, .int .u8 0, .int .i64 0] wl2 fun I3 μ3 us3 _ wl3 =>
      ∃ (p0_3 : Option Addr) (l0_3 : Nat) (c0_3 : Nat) (a3_2 : Addr) (p4_2 : Option Addr) (l4_2 : Nat) (c4_2 : Nat) (p5_2 : Option Addr) (l5_2 : Nat) (c5_2 : Nat) (n6_2 : Int) (n7_1 : Int) (n8 : Int) (n9 : Int), us3 = [.slice p0_3 l0_3 c0_3, .pointer (some a3_2), .slice p4_2 l4_2 c4_2, .slice p5_2 l5_2 c5_2, .int .i64 n6_2, .int .i64 n7_1, .int .u8 n8, .int .i64 n9] ∧
      cond (decide (n9 < 4))
      (∃ (S12 : World → Prop),
        Drw wl3 fun w3 =>
        ∃ (a29 : Addr), IxA Try.prog 155 (.pointer (some a3_2)) (.int .i64 (Int.tmod (IntKind.i64.wrap ((IntKind.i64.wrap (n9 + 4)) - n7_1)) 4)) a29 ∧
        ∃ (n30 : Int), HLd Try.prog S12 5 (.pointer (some a29)) w3 (.int .u8 n30) ∧
        callF Try.prog 148 #[.int .i64 n9, .int .i64 n6_2] w3 fun r34 w4 =>
        ∃ (n34 : Int), r34 = .int .i64 n34 ∧
        (w4 = w3 ∨ S12 w4) ∧
        ∃ (a35 : Addr), IxA Try.prog 50 (.slice p0_3 l0_3 c0_3) (.int .i64 n34) a35 ∧
        ∃ (n36 : Int), Ld Try.prog 5 (.pointer (some a35)) w4 (.int .u8 n36) ∧
        (w4 = w4 ∨ S12 w4) ∧
        callF Try.prog 43 #[.int .u8 n30, .int .u8 n36] w4 fun r37 w5 =>
        ∃ (n37 : Int), r37 = .int .u8 n37 ∧
        goesOn [] [] I3 μ3 us3 [.slice p0_3 l0_3 c0_3, .pointer (some a3_2), .slice p4_2 l4_2 c4_2, .slice p5_2 l5_2 c5_2, .int .i64 n6_2, .int .i64 n7_1, .int .u8 (ixor .u8 n8 n37), .int .i64 (IntKind.i64.wrap (n9 + 1))] wl3 w5)
      (ref03_columns_j1 I1 μ1 us1 wl1 I2 μ2 us2 wl2 p0_3 l0_3 c0_3 a3_2 p4_2 l4_2 c4_2 p5_2 l5_2 c5_2 n6_2 n7_1 n8 wl3 Q))
    (goesOn [] [] I1 μ1 us1 [.slice p0_2 l0_2 c0_2, .pointer (some a3_1), .slice p4_1 l4_1 c4_1, .slice p5_1 l5_1 c5_1, .int .i64 (IntKind.i64.wrap (n6_1 + 1))] wl1 wl2))
  (Q (.slice p5 l5 c5) wl1)

def ref03_columns_tt : Nat → List (Nat × TypeId) := fun n => match n with | 0 => [(0, 50), (3, 1000000), (4, 50), (5, 50), (6, 3)] | 2 => [(0, 50), (3, 1000000), (4, 50), (5, 50), (6, 3), (7, 3)] | 4 => [(0, 50), (3, 1000000), (4, 50), (5, 50), (6, 3), (7, 3), (8, 5), (9, 3)] | _ => []

theorem ref03_columns_call (p0 : Option Addr) (l0 : Nat) (c0 : Nat) (cs1 : Array Value) (w : World) (Q : Value → World → Prop) (h : ref03_columns p0 l0 c0 cs1 w Q) : callF Try.prog 120 #[.slice p0 l0 c0, .agg cs1] w Q :=
  callF_of (fun _ _ => by kernel_rfl) (callK_of_sw ref03_columns_tt Try.func120 rfl (by kernel_rfl) (show sw Try.prog none 46 ref03_columns_tt _ 0 (endK Try.prog [.tmp 4] Q) ⟨regs [.slice p0 l0 c0, .agg cs1], []⟩ w from
    Eq.mp (by kernel_rfl : ref03_columns p0 l0 c0 cs1 w Q = sw Try.prog none 46 ref03_columns_tt (Try.f120.body.getD .skip) 0 (endK Try.prog [.tmp 4] Q) ⟨regs [.slice p0 l0 c0, .agg cs1], []⟩ w) h))


/-! ### crossway/crosswayref03.back: function 121 -/

def ref03_back (p0 : Option Addr) (l0 : Nat) (c0 : Nat) (w : World) (Q : Value → World → Prop) : Prop :=
  ∃ (p5 : Option Addr) (l5 : Nat) (c5 : Nat) (w1 : World), Ef Try.prog (Instr.makeSlice 50 (.int .i64 256) (.int .i64 256)) w (.slice p5 l5 c5) w1 ∧
  LoopS [.slice p0 l0 c0, .slice none 0 0, .slice p5 l5 c5, .int .i64 0] w1 fun I1 μ1 us1 _ wl1 =>
  ∃ (p0_1 : Option Addr) (l0_1 : Nat) (c0_1 : Nat) (p2 : Option Addr) (l2 : Nat) (c2 : Nat) (p3 : Option Addr) (l3 : Nat) (c3 : Nat) (n4 : Int), us1 = [.slice p0_1 l0_1 c0_1, .slice p2 l2 c2, .slice p3 l3 c3, .int .i64 n4] ∧
  cond (decide (n4 < 256))
  (∃ (a13 : Addr), IxA Try.prog 50 (.slice p0_1 l0_1 c0_1) (.int .i64 n4) a13 ∧
    ∃ (n14 : Int), Ld Try.prog 5 (.pointer (some a13)) wl1 (.int .u8 n14) ∧
    ∃ (a17 : Addr), IxA Try.prog 50 (.slice p3 l3 c3) (.int .u8 n14) a17 ∧
    ∃ (w2 : World), Sto Try.prog 5 (.pointer (some a17)) (.int .u8 (IntKind.u8.wrap n4)) wl1 w2 ∧
    goesOn [] [] I1 μ1 us1 [.slice p0_1 l0_1 c0_1, .slice p2 l2 c2, .slice p3 l3 c3, .int .i64 (IntKind.i64.wrap (n4 + 1))] wl1 w2)
  (Q (.slice p3 l3 c3) wl1)

def ref03_back_tt : Nat → List (Nat × TypeId) := fun n => match n with | 0 => [(0, 50), (2, 50), (3, 50), (4, 3)] | _ => []

theorem ref03_back_call (p0 : Option Addr) (l0 : Nat) (c0 : Nat) (w : World) (Q : Value → World → Prop) (h : ref03_back p0 l0 c0 w Q) : callF Try.prog 121 #[.slice p0 l0 c0] w Q :=
  callF_of (fun _ _ => by kernel_rfl) (callK_of_sw ref03_back_tt Try.func121 rfl (by kernel_rfl) (show sw Try.prog none 19 ref03_back_tt _ 0 (endK Try.prog [.tmp 2] Q) ⟨regs [.slice p0 l0 c0], []⟩ w from
    Eq.mp (by kernel_rfl : ref03_back p0 l0 c0 w Q = sw Try.prog none 19 ref03_back_tt (Try.f121.body.getD .skip) 0 (endK Try.prog [.tmp 2] Q) ⟨regs [.slice p0 l0 c0], []⟩ w) h))


/-! ### crossway/crosswayref03.at: function 148 -/

def ref03_at (n0 : Int) (n1 : Int) (w : World) (Q : Value → World → Prop) : Prop :=
  Q (.int .i64 (IntKind.i64.wrap ((IntKind.i64.wrap (4 * (Int.tmod n1 4))) + n0))) w

def ref03_at_tt : Nat → List (Nat × TypeId) := fun _ => []

theorem ref03_at_call (n0 : Int) (n1 : Int) (w : World) (Q : Value → World → Prop) (h : ref03_at n0 n1 w Q) : callF Try.prog 148 #[.int .i64 n0, .int .i64 n1] w Q :=
  callF_of (fun _ _ => by kernel_rfl) (callK_of_sw ref03_at_tt Try.func148 rfl (by kernel_rfl) (show sw Try.prog none 10 ref03_at_tt _ 0 (endK Try.prog [.tmp 4] Q) ⟨regs [.int .i64 n0, .int .i64 n1], []⟩ w from
    Eq.mp (by kernel_rfl : ref03_at n0 n1 w Q = sw Try.prog none 10 ref03_at_tt (Try.f148.body.getD .skip) 0 (endK Try.prog [.tmp 4] Q) ⟨regs [.int .i64 n0, .int .i64 n1], []⟩ w) h))


/-! ### crossway/crosswayref03.Encrypt: function 155 -/

def ref03_Encrypt (p0 : Option Addr) (l0 : Nat) (c0 : Nat) (p1 : Option Addr) (l1 : Nat) (c1 : Nat) (w : World) (Q : Value → World → Prop) : Prop :=
  callF Try.prog 59 #[] w fun r7 w1 =>
  ∃ (p7 : Option Addr) (l7 : Nat) (c7 : Nat), r7 = .slice p7 l7 c7 ∧
  callF Try.prog 66 #[.slice p0 l0 c0, .slice p1 l1 c1, .slice p7 l7 c7] w1 fun r8 w2 =>
  ∃ (p8 : Option Addr) (l8 : Nat) (c8 : Nat), r8 = .slice p8 l8 c8 ∧
  Q (.slice p8 l8 c8) w2

def ref03_Encrypt_tt : Nat → List (Nat × TypeId) := fun _ => []

theorem ref03_Encrypt_call (p0 : Option Addr) (l0 : Nat) (c0 : Nat) (p1 : Option Addr) (l1 : Nat) (c1 : Nat) (w : World) (Q : Value → World → Prop) (h : ref03_Encrypt p0 l0 c0 p1 l1 c1 w Q) : callF Try.prog 155 #[.slice p0 l0 c0, .slice p1 l1 c1] w Q :=
  callF_of (fun _ _ => by kernel_rfl) (callK_of_sw ref03_Encrypt_tt Try.func155 rfl (by kernel_rfl) (show sw Try.prog none 9 ref03_Encrypt_tt _ 0 (endK Try.prog [.tmp 4] Q) ⟨regs [.slice p0 l0 c0, .slice p1 l1 c1], []⟩ w from
    Eq.mp (by kernel_rfl : ref03_Encrypt p0 l0 c0 p1 l1 c1 w Q = sw Try.prog none 9 ref03_Encrypt_tt (Try.f155.body.getD .skip) 0 (endK Try.prog [.tmp 4] Q) ⟨regs [.slice p0 l0 c0, .slice p1 l1 c1], []⟩ w) h))

end Go.Sh
end

section
namespace Go.Sh
open Go Go.Fw Go.Proofs
set_option maxRecDepth 100000
set_option linter.unusedVariables false

/-! ### crossway/crosswaylaw02.FieldAnswers: function 6 -/

def law02_FieldAnswers (n0 : Int) (n1 : Int) (n2 : Int) (w : World) (Q : Value → World → Prop) : Prop :=
  callF Try.prog 41 #[] w fun r7 w1 =>
  ∃ (b7 : Bool), r7 = .bool b7 ∧
  cond (!b7)
  (Q (.bool false) w1)
  (callF Try.prog 42 #[.int .u8 n0, .int .u8 n1] w1 fun r11 w2 =>
    ∃ (n11 : Int), r11 = .int .u8 n11 ∧
    callF Try.prog 43 #[.int .u8 n0, .int .u8 n1] w2 fun r14 w3 =>
    ∃ (n14 : Int), r14 = .int .u8 n14 ∧
    cond (n11 == n14)
    (callF Try.prog 44 #[.int .u8 n0] w3 fun r18 w4 =>
      ∃ (n18 : Int), r18 = .int .u8 n18 ∧
      callF Try.prog 45 #[.int .u8 n0] w4 fun r20 w5 =>
      ∃ (n20 : Int), r20 = .int .u8 n20 ∧
      cond (n18 == n20)
      (callF Try.prog 46 #[.int .u8 n0, .int .u64 n2] w5 fun r26 w6 =>
        ∃ (n26 : Int), r26 = .int .u8 n26 ∧
        callF Try.prog 47 #[.int .u8 n0, .int .u64 n2] w6 fun r29 w7 =>
        ∃ (n29 : Int), r29 = .int .u8 n29 ∧
        Q (.bool (n26 == n29)) w7)
      (Q (.bool false) w5))
    (Q (.bool false) w3))

def law02_FieldAnswers_tt : Nat → List (Nat × TypeId) := fun _ => []

theorem law02_FieldAnswers_call (n0 : Int) (n1 : Int) (n2 : Int) (w : World) (Q : Value → World → Prop) (h : law02_FieldAnswers n0 n1 n2 w Q) : callF Try.prog 6 #[.int .u8 n0, .int .u8 n1, .int .u64 n2] w Q :=
  callF_of (fun _ _ => by kernel_rfl) (callK_of_sw law02_FieldAnswers_tt Try.func6 rfl (by kernel_rfl) (show sw Try.prog none 32 law02_FieldAnswers_tt _ 0 (endK Try.prog [.tmp 6] Q) ⟨regs [.int .u8 n0, .int .u8 n1, .int .u64 n2], []⟩ w from
    Eq.mp (by kernel_rfl : law02_FieldAnswers n0 n1 n2 w Q = sw Try.prog none 32 law02_FieldAnswers_tt (Try.f6.body.getD .skip) 0 (endK Try.prog [.tmp 6] Q) ⟨regs [.int .u8 n0, .int .u8 n1, .int .u64 n2], []⟩ w) h))


/-! ### crossway/crosswaylaw02.FieldTables: function 7 -/

def law02_FieldTables_j1 (I2 : Inv) (μ2 : Meas) (us2 : List Value) (wl2 : World) (p0 : Option Addr) (l0 : Nat) (c0 : Nat) (p1 : Option Addr) (l1 : Nat) (c1 : Nat) (n2 : Int) (b6 : Bool) (p8 : Option Addr) (n10 : Int) (b12 : Bool) (w : World) (Q : Value → World → Prop) : Prop :=
  cond (!b12)
  (Q (.bool false) w)
  (callF Try.prog 49 #[.pointer p8] w fun r116 w1 =>
    ∃ (n116 : Int), r116 = .int .i64 n116 ∧
    cond (n116 != 1)
    (Q (.bool false) w1)
    (goesOn [] [] I2 μ2 us2 [.slice p0 l0 c0, .slice p1 l1 c1, .int .i64 n2, .bool b6, .pointer p8, .int .i64 (IntKind.i64.wrap (n10 + 1))] wl2 w1))

def law02_FieldTables_j2 (I2 : Inv) (μ2 : Meas) (us2 : List Value) (wl2 : World) (p0 : Option Addr) (l0 : Nat) (c0 : Nat) (p1 : Option Addr) (l1 : Nat) (c1 : Nat) (n2 : Int) (b6 : Bool) (p8 : Option Addr) (n10 : Int) (n11 : Int) (b12 : Bool) (n13 : Int) (n14 : Int) (b93 : Bool) (w : World) (Q : Value → World → Prop) : Prop :=
  cond b93
  (cond (n14 == 11)
    (law02_FieldTables_j1 I2 μ2 us2 wl2 p0 l0 c0 p1 l1 c1 n2 b6 p8 n10 (n13 == 0) w Q)
    (law02_FieldTables_j1 I2 μ2 us2 wl2 p0 l0 c0 p1 l1 c1 n2 b6 p8 n10 false w Q))
  (cond (n14 == 0)
    (∃ (a106 : Addr), IxA Try.prog 50 (.slice p0 l0 c0) (.int .i64 n2) a106 ∧
      ∃ (n107 : Int), Ld Try.prog 5 (.pointer (some a106)) w (.int .u8 n107) ∧
      callF Try.prog 43 #[.int .u8 n107, .int .u8 n11] w fun r109 w1 =>
      ∃ (n109 : Int), r109 = .int .u8 n109 ∧
      law02_FieldTables_j1 I2 μ2 us2 wl2 p0 l0 c0 p1 l1 c1 n2 b6 p8 n10 (n13 == n109) w1 Q)
    (law02_FieldTables_j1 I2 μ2 us2 wl2 p0 l0 c0 p1 l1 c1 n2 b6 p8 n10 false w Q))

def law02_FieldTables_j3 (p0 : Option Addr) (l0 : Nat) (c0 : Nat) (p1 : Option Addr) (l1 : Nat) (c1 : Nat) (n2 : Int) (b6 : Bool) (p8 : Option Addr) (w : World) (Q : Value → World → Prop) : Prop :=
  LoopS [.slice p0 l0 c0, .slice p1 l1 c1, .int .i64 n2, .bool b6, .pointer p8, .int .i64 0] w fun I2 μ2 us2 _ wl2 =>
  ∃ (p0_1 : Option Addr) (l0_1 : Nat) (c0_1 : Nat) (p1_1 : Option Addr) (l1_1 : Nat) (c1_1 : Nat) (n2_1 : Int) (b6_1 : Bool) (p8_1 : Option Addr) (n10 : Int), us2 = [.slice p0_1 l0_1 c0_1, .slice p1_1 l1_1 c1_1, .int .i64 n2_1, .bool b6_1, .pointer p8_1, .int .i64 n10] ∧
  cond (decide (n10 < ((l1_1 : Nat) : Int)))
  (∃ (a57 : Addr), IxA Try.prog 50 (.slice p1_1 l1_1 c1_1) (.int .i64 n10) a57 ∧
    ∃ (n58 : Int), Ld Try.prog 5 (.pointer (some a57)) wl2 (.int .u8 n58) ∧
    cond ((Int.tmod n10 3) == 0)
    (callF Try.prog 50 #[.pointer p8_1, .int .u8 n58] wl2 fun r65 w1 =>
      ∃ (n65 : Int), r65 = .int .u8 n65 ∧
      callF Try.prog 51 #[.int .u8 n58] w1 fun r67 w2 =>
      ∃ (n67 : Int), r67 = .int .u8 n67 ∧
      law02_FieldTables_j1 I2 μ2 us2 wl2 p0_1 l0_1 c0_1 p1_1 l1_1 c1_1 n2_1 b6_1 p8_1 n10 (n65 == n67) w2 Q)
    (cond ((Int.tmod n10 3) == 1)
      (callF Try.prog 52 #[.pointer p8_1, .int .u8 n58] wl2 fun r73 w3 =>
        ∃ (n73 : Int), r73 = .int .u8 n73 ∧
        callF Try.prog 53 #[.int .u8 n58] w3 fun r75 w4 =>
        ∃ (n75 : Int), r75 = .int .u8 n75 ∧
        law02_FieldTables_j1 I2 μ2 us2 wl2 p0_1 l0_1 c0_1 p1_1 l1_1 c1_1 n2_1 b6_1 p8_1 n10 (n73 == n75) w4 Q)
      (cond ((Int.tmod n10 3) == 2)
        (callF Try.prog 54 #[.pointer p8_1, .int .i64 n2_1, .int .u8 n58] wl2 fun r83 w5 =>
          ∃ (n83 : Int) (n83_1 : Int), r83 = .tuple #[.int .u8 n83, .int .i64 n83_1] ∧
          cond (decide (n2_1 < 0))
          (law02_FieldTables_j2 I2 μ2 us2 wl2 p0_1 l0_1 c0_1 p1_1 l1_1 c1_1 n2_1 b6_1 p8_1 n10 n58 true n83 n83_1 true w5 Q)
          (law02_FieldTables_j2 I2 μ2 us2 wl2 p0_1 l0_1 c0_1 p1_1 l1_1 c1_1 n2_1 b6_1 p8_1 n10 n58 true n83 n83_1 (decide (n2_1 ≥ ((l0_1 : Nat) : Int))) w5 Q))
        (law02_FieldTables_j1 I2 μ2 us2 wl2 p0_1 l0_1 c0_1 p1_1 l1_1 c1_1 n2_1 b6_1 p8_1 n10 true wl2 Q))))
  (Q (.bool true) wl2)

def law02_FieldTables_j4 (p0 : Option Addr) (l0 : Nat) (c0 : Nat) (p1 : Option Addr) (l1 : Nat) (c1 : Nat) (n2 : Int) (b6 : Bool) (p7 : Option Addr) (l7 : Nat) (c7 : Nat) (p8 : Option Addr) (w : World) (Q : Value → World → Prop) : Prop :=
  LoopS [.slice p0 l0 c0, .slice p1 l1 c1, .int .i64 n2, .bool b6, .slice p7 l7 c7, .pointer p8, .int .i64 0] w fun I1 μ1 us1 _ wl1 =>
  ∃ (p0_1 : Option Addr) (l0_1 : Nat) (c0_1 : Nat) (p1_1 : Option Addr) (l1_1 : Nat) (c1_1 : Nat) (n2_1 : Int) (b6_1 : Bool) (p7_1 : Option Addr) (l7_1 : Nat) (c7_1 : Nat) (p8_1 : Option Addr) (n9 : Int), us1 = [.slice p0_1 l0_1 c0_1, .slice p1_1 l1_1 c1_1, .int .i64 n2_1, .bool b6_1, .slice p7_1 l7_1 c7_1, .pointer p8_1, .int .i64 n9] ∧
  cond (decide (n9 < ((l7_1 : Nat) : Int)))
  (∃ (a45 : Addr), IxA Try.prog 50 (.slice p7_1 l7_1 c7_1) (.int .i64 n9) a45 ∧
    ∃ (n46 : Int), Ld Try.prog 5 (.pointer (some a45)) wl1 (.int .u8 n46) ∧
    ∃ (a48 : Addr), IxA Try.prog 50 (.slice p7_1 l7_1 c7_1) (.int .i64 n9) a48 ∧
    ∃ (w1 : World), Sto Try.prog 5 (.pointer (some a48)) (.int .u8 (IntKind.u8.wrap (n46 + 1))) wl1 w1 ∧
    goesOn [] [] I1 μ1 us1 [.slice p0_1 l0_1 c0_1, .slice p1_1 l1_1 c1_1, .int .i64 n2_1, .bool b6_1, .slice p7_1 l7_1 c7_1, .pointer p8_1, .int .i64 (IntKind.i64.wrap (n9 + 1))] wl1 w1)
  (law02_FieldTables_j3 p0_1 l0_1 c0_1 p1_1 l1_1 c1_1 n2_1 b6_1 p8_1 wl1 Q)

def law02_FieldTables_j5 (p0 : Option Addr) (l0 : Nat) (c0 : Nat) (p1 : Option Addr) (l1 : Nat) (c1 : Nat) (n2 : Int) (b6 : Bool) (w : World) (Q : Value → World → Prop) : Prop :=
  ∃ (p25 : Option Addr) (l25 : Nat) (c25 : Nat) (w1 : World), Ef Try.prog (Instr.buildSlice 50 0 #[]) w (.slice p25 l25 c25) w1 ∧
  ∃ (p27 : Option Addr) (l27 : Nat) (c27 : Nat) (w2 : World), Ef Try.prog (Builtin.append_ #[50, 50] 50 #[.slice p25 l25 c25, .slice p0 l0 c0]) w1 (.slice p27 l27 c27) w2 ∧
  callF Try.prog 48 #[.slice p27 l27 c27] w2 fun r29 w3 =>
  ∃ (p29 : Option Addr), r29 = .pointer p29 ∧
  ∃ (b31 : Bool) (w4 : World), Ef Try.prog (do eqGuard .eql 51 (.tmp 30) (.const (.pointer none)) (.pointer p29) (.pointer none); binOp .eql 51 (.pointer p29) (.pointer none) : Sem Value) w3 (.bool b31) w4 ∧
  cond b31
  (Q (.bool false) w4)
  (callF Try.prog 49 #[.pointer p29] w4 fun r34 w5 =>
    ∃ (n34 : Int), r34 = .int .i64 n34 ∧
    cond (n34 != 0)
    (Q (.bool false) w5)
    (law02_FieldTables_j4 p0 l0 c0 p1 l1 c1 n2 b6 p27 l27 c27 p29 w5 Q))

def law02_FieldTables (p0 : Option Addr) (l0 : Nat) (c0 : Nat) (p1 : Option Addr) (l1 : Nat) (c1 : Nat) (n2 : Int) (w : World) (Q : Value → World → Prop) : Prop :=
  callF Try.prog 41 #[] w fun r15 w1 =>
  ∃ (b15 : Bool), r15 = .bool b15 ∧
  cond (!b15)
  (Q (.bool false) w1)
  (cond (decide (((l0 : Nat) : Int) > 8))
    (Q (.bool true) w1)
    (cond (decide (((l1 : Nat) : Int) > 60))
      (Q (.bool true) w1)
      (law02_FieldTables_j5 p0 l0 c0 p1 l1 c1 n2 false w1 Q)))

def law02_FieldTables_tt : Nat → List (Nat × TypeId) := fun n => match n with | 0 => [(0, 50), (1, 50), (2, 3), (6, 4), (7, 50), (8, 51), (9, 3)] | 2 => [(0, 50), (1, 50), (2, 3), (6, 4), (8, 51), (10, 3)] | _ => []

theorem law02_FieldTables_call (p0 : Option Addr) (l0 : Nat) (c0 : Nat) (p1 : Option Addr) (l1 : Nat) (c1 : Nat) (n2 : Int) (w : World) (Q : Value → World → Prop) (h : law02_FieldTables p0 l0 c0 p1 l1 c1 n2 w Q) : callF Try.prog 7 #[.slice p0 l0 c0, .slice p1 l1 c1, .int .i64 n2] w Q :=
  callF_of (fun _ _ => by kernel_rfl) (callK_of_sw law02_FieldTables_tt Try.func7 rfl (by kernel_rfl) (show sw Try.prog none 119 law02_FieldTables_tt _ 0 (endK Try.prog [.tmp 6] Q) ⟨regs [.slice p0 l0 c0, .slice p1 l1 c1, .int .i64 n2], []⟩ w from
    Eq.mp (by kernel_rfl : law02_FieldTables p0 l0 c0 p1 l1 c1 n2 w Q = sw Try.prog none 119 law02_FieldTables_tt (Try.f7.body.getD .skip) 0 (endK Try.prog [.tmp 6] Q) ⟨regs [.slice p0 l0 c0, .slice p1 l1 c1, .int .i64 n2], []⟩ w) h))


/-! ### crossway/crosswaylaw02.FieldLaws: function 8 -/

def law02_FieldLaws_j1 (n0 : Int) (b6 : Bool) (w : World) (Q : Value → World → Prop) : Prop :=
  cond (n0 == 0)
  (Q (.bool true) w)
  (callF Try.prog 44 #[.int .u8 n0] w fun r81 w1 =>
    ∃ (n81 : Int), r81 = .int .u8 n81 ∧
    callF Try.prog 42 #[.int .u8 n0, .int .u8 n81] w1 fun r82 w2 =>
    ∃ (n82 : Int), r82 = .int .u8 n82 ∧
    cond (n82 == 1)
    (callF Try.prog 46 #[.int .u8 n0, .int .u64 255] w2 fun r86 w3 =>
      ∃ (n86 : Int), r86 = .int .u8 n86 ∧
      cond (n86 == 1)
      (callF Try.prog 44 #[.int .u8 n0] w3 fun r91 w4 =>
        ∃ (n91 : Int), r91 = .int .u8 n91 ∧
        callF Try.prog 46 #[.int .u8 n0, .int .u64 254] w4 fun r93 w5 =>
        ∃ (n93 : Int), r93 = .int .u8 n93 ∧
        Q (.bool (n91 == n93)) w5)
      (Q (.bool false) w3))
    (Q (.bool false) w2))

def law02_FieldLaws_j2 (n0 : Int) (n1 : Int) (b6 : Bool) (w : World) (Q : Value → World → Prop) : Prop :=
  callF Try.prog 42 #[.int .u8 n0, .int .u8 1] w fun r47 w1 =>
  ∃ (n47 : Int), r47 = .int .u8 n47 ∧
  cond (n47 != n0)
  (Q (.bool false) w1)
  (∃ (p54 : Option Addr) (l54 : Nat) (c54 : Nat) (w2 : World), Ef Try.prog (Instr.buildSlice 50 3 #[(0, .int .u8 n0), (1, .int .u8 n1), (2, .int .u8 n0)]) w1 (.slice p54 l54 c54) w2 ∧
    callF Try.prog 55 #[.slice p54 l54 c54] w2 fun r55 w3 =>
    ∃ (n55 : Int), r55 = .int .u8 n55 ∧
    cond (n55 != n1)
    (Q (.bool false) w3)
    (callF Try.prog 55 #[.slice none 0 0] w3 fun r60 w4 =>
      ∃ (n60 : Int), r60 = .int .u8 n60 ∧
      cond (n60 != 0)
      (Q (.bool false) w4)
      (callF Try.prog 42 #[.int .u8 n0, .int .u8 n1] w4 fun r66 w5 =>
        ∃ (n66 : Int), r66 = .int .u8 n66 ∧
        cond (n0 == 0)
        (cond (!((n66 == 0) == true))
          (Q (.bool false) w5)
          (law02_FieldLaws_j1 n0 b6 w5 Q))
        (cond (!((n66 == 0) == (n1 == 0)))
          (Q (.bool false) w5)
          (law02_FieldLaws_j1 n0 b6 w5 Q)))))

def law02_FieldLaws (n0 : Int) (n1 : Int) (n2 : Int) (w : World) (Q : Value → World → Prop) : Prop :=
  callF Try.prog 41 #[] w fun r7 w1 =>
  ∃ (b7 : Bool), r7 = .bool b7 ∧
  cond (!b7)
  (Q (.bool false) w1)
  (callF Try.prog 42 #[.int .u8 n0, .int .u8 n1] w1 fun r11 w2 =>
    ∃ (n11 : Int), r11 = .int .u8 n11 ∧
    callF Try.prog 42 #[.int .u8 n1, .int .u8 n0] w2 fun r14 w3 =>
    ∃ (n14 : Int), r14 = .int .u8 n14 ∧
    cond (n11 != n14)
    (Q (.bool false) w3)
    (callF Try.prog 42 #[.int .u8 n0, .int .u8 n1] w3 fun r19 w4 =>
      ∃ (n19 : Int), r19 = .int .u8 n19 ∧
      callF Try.prog 42 #[.int .u8 n19, .int .u8 n2] w4 fun r21 w5 =>
      ∃ (n21 : Int), r21 = .int .u8 n21 ∧
      callF Try.prog 42 #[.int .u8 n1, .int .u8 n2] w5 fun r25 w6 =>
      ∃ (n25 : Int), r25 = .int .u8 n25 ∧
      callF Try.prog 42 #[.int .u8 n0, .int .u8 n25] w6 fun r26 w7 =>
      ∃ (n26 : Int), r26 = .int .u8 n26 ∧
      cond (n21 != n26)
      (Q (.bool false) w7)
      (∃ (p33 : Option Addr) (l33 : Nat) (c33 : Nat) (w8 : World), Ef Try.prog (Instr.buildSlice 50 2 #[(0, .int .u8 n1), (1, .int .u8 n2)]) w7 (.slice p33 l33 c33) w8 ∧
        callF Try.prog 55 #[.slice p33 l33 c33] w8 fun r34 w9 =>
        ∃ (n34 : Int), r34 = .int .u8 n34 ∧
        callF Try.prog 42 #[.int .u8 n0, .int .u8 n34] w9 fun r35 w10 =>
        ∃ (n35 : Int), r35 = .int .u8 n35 ∧
        callF Try.prog 42 #[.int .u8 n0, .int .u8 n1] w10 fun r38 w11 =>
        ∃ (n38 : Int), r38 = .int .u8 n38 ∧
        callF Try.prog 42 #[.int .u8 n0, .int .u8 n2] w11 fun r41 w12 =>
        ∃ (n41 : Int), r41 = .int .u8 n41 ∧
        ∃ (p42 : Option Addr) (l42 : Nat) (c42 : Nat) (w13 : World), Ef Try.prog (Instr.buildSlice 50 2 #[(0, .int .u8 n38), (1, .int .u8 n41)]) w12 (.slice p42 l42 c42) w13 ∧
        callF Try.prog 55 #[.slice p42 l42 c42] w13 fun r43 w14 =>
        ∃ (n43 : Int), r43 = .int .u8 n43 ∧
        cond (n35 != n43)
        (Q (.bool false) w14)
        (law02_FieldLaws_j2 n0 n1 false w14 Q))))

def law02_FieldLaws_tt : Nat → List (Nat × TypeId) := fun _ => []

theorem law02_FieldLaws_call (n0 : Int) (n1 : Int) (n2 : Int) (w : World) (Q : Value → World → Prop) (h : law02_FieldLaws n0 n1 n2 w Q) : callF Try.prog 8 #[.int .u8 n0, .int .u8 n1, .int .u8 n2] w Q :=
  callF_of (fun _ _ => by kernel_rfl) (callK_of_sw law02_FieldLaws_tt Try.func8 rfl (by kernel_rfl) (show sw Try.prog none 97 law02_FieldLaws_tt _ 0 (endK Try.prog [.tmp 6] Q) ⟨regs [.int .u8 n0, .int .u8 n1, .int .u8 n2], []⟩ w from
    Eq.mp (by kernel_rfl : law02_FieldLaws n0 n1 n2 w Q = sw Try.prog none 97 law02_FieldLaws_tt (Try.f8.body.getD .skip) 0 (endK Try.prog [.tmp 6] Q) ⟨regs [.int .u8 n0, .int .u8 n1, .int .u8 n2], []⟩ w) h))


/-! ### crossway/crosswaylaw02.FieldSigns: function 9 -/

def law02_FieldSigns (n0 : Int) (n1 : Int) (w : World) (Q : Value → World → Prop) : Prop :=
  callF Try.prog 41 #[] w fun r7 w1 =>
  ∃ (b7 : Bool), r7 = .bool b7 ∧
  cond (!b7)
  (Q (.bool false) w1)
  (callF Try.prog 48 #[.slice none 0 0] w1 fun r9 w2 =>
    ∃ (p9 : Option Addr), r9 = .pointer p9 ∧
    ∃ (b11 : Bool) (w3 : World), Ef Try.prog (do eqGuard .eql 51 (.tmp 10) (.const (.pointer none)) (.pointer p9) (.pointer none); binOp .eql 51 (.pointer p9) (.pointer none) : Sem Value) w2 (.bool b11) w3 ∧
    cond b11
    (Q (.bool false) w3)
    (callF Try.prog 50 #[.pointer p9, .int .u8 n0] w3 fun r14 w4 =>
      ∃ (n14 : Int), r14 = .int .u8 n14 ∧
      callF Try.prog 50 #[.pointer p9, .int .u8 n1] w4 fun r18 w5 =>
      ∃ (n18 : Int), r18 = .int .u8 n18 ∧
      cond ((n14 == n18) == (n0 == n1))
      (callF Try.prog 52 #[.pointer p9, .int .u8 n14] w5 fun r27 w6 =>
        ∃ (n27 : Int), r27 = .int .u8 n27 ∧
        cond (n27 == n0)
        (callF Try.prog 52 #[.pointer p9, .int .u8 n0] w6 fun r35 w7 =>
          ∃ (n35 : Int), r35 = .int .u8 n35 ∧
          callF Try.prog 50 #[.pointer p9, .int .u8 n35] w7 fun r36 w8 =>
          ∃ (n36 : Int), r36 = .int .u8 n36 ∧
          cond (n36 == n0)
          (cond (n14 != n0)
            (cond (n14 != (IntKind.u8.wrap (255 - n0)))
              (callF Try.prog 48 #[.slice none 0 0] w8 fun r52 w9 =>
                ∃ (p52 : Option Addr), r52 = .pointer p52 ∧
                callF Try.prog 50 #[.pointer p52, .int .u8 n0] w9 fun r54 w10 =>
                ∃ (n54 : Int), r54 = .int .u8 n54 ∧
                Q (.bool (n54 == n14)) w10)
              (Q (.bool false) w8))
            (Q (.bool false) w8))
          (Q (.bool false) w8))
        (Q (.bool false) w6))
      (Q (.bool false) w5)))

def law02_FieldSigns_tt : Nat → List (Nat × TypeId) := fun _ => []

theorem law02_FieldSigns_call (n0 : Int) (n1 : Int) (w : World) (Q : Value → World → Prop) (h : law02_FieldSigns n0 n1 w Q) : callF Try.prog 9 #[.int .u8 n0, .int .u8 n1] w Q :=
  callF_of (fun _ _ => by kernel_rfl) (callK_of_sw law02_FieldSigns_tt Try.func9 rfl (by kernel_rfl) (show sw Try.prog none 58 law02_FieldSigns_tt _ 0 (endK Try.prog [.tmp 4] Q) ⟨regs [.int .u8 n0, .int .u8 n1], []⟩ w from
    Eq.mp (by kernel_rfl : law02_FieldSigns n0 n1 w Q = sw Try.prog none 58 law02_FieldSigns_tt (Try.f9.body.getD .skip) 0 (endK Try.prog [.tmp 4] Q) ⟨regs [.int .u8 n0, .int .u8 n1], []⟩ w) h))


/-! ### crossway/crosswaylaw02.FieldPowers: function 10 -/

def law02_FieldPowers_j1 (n0 : Int) (n1 : Int) (b6 : Bool) (w : World) (Q : Value → World → Prop) : Prop :=
  cond (n0 == 0)
  (Q (.bool true) w)
  (callF Try.prog 46 #[.int .u8 n0, .int .u64 (IntKind.u64.wrap ((IntKind.u64.wrap n1) + 255))] w fun r62 w1 =>
    ∃ (n62 : Int), r62 = .int .u8 n62 ∧
    callF Try.prog 46 #[.int .u8 n0, .int .u64 (IntKind.u64.wrap n1)] w1 fun r66 w2 =>
    ∃ (n66 : Int), r66 = .int .u8 n66 ∧
    Q (.bool (n62 == n66)) w2)

def law02_FieldPowers (n0 : Int) (n1 : Int) (n2 : Int) (w : World) (Q : Value → World → Prop) : Prop :=
  callF Try.prog 41 #[] w fun r8 w1 =>
  ∃ (b8 : Bool), r8 = .bool b8 ∧
  cond (!b8)
  (Q (.bool false) w1)
  (callF Try.prog 46 #[.int .u8 n0, .int .u64 (IntKind.u64.wrap n1)] w1 fun r13 w2 =>
    ∃ (n13 : Int), r13 = .int .u8 n13 ∧
    callF Try.prog 46 #[.int .u8 n0, .int .u64 (IntKind.u64.wrap n2)] w2 fun r17 w3 =>
    ∃ (n17 : Int), r17 = .int .u8 n17 ∧
    callF Try.prog 42 #[.int .u8 n13, .int .u8 n17] w3 fun r18 w4 =>
    ∃ (n18 : Int), r18 = .int .u8 n18 ∧
    callF Try.prog 46 #[.int .u8 n0, .int .u64 (IntKind.u64.wrap ((IntKind.u64.wrap n1) + (IntKind.u64.wrap n2)))] w4 fun r26 w5 =>
    ∃ (n26 : Int), r26 = .int .u8 n26 ∧
    cond (n18 != n26)
    (Q (.bool false) w5)
    (callF Try.prog 46 #[.int .u8 n0, .int .u64 1] w5 fun r30 w6 =>
      ∃ (n30 : Int), r30 = .int .u8 n30 ∧
      cond (n30 != n0)
      (Q (.bool false) w6)
      (callF Try.prog 46 #[.int .u8 n0, .int .u64 (IntKind.u64.wrap (Int.tmod n1 999))] w6 fun r39 w7 =>
        ∃ (n39 : Int), r39 = .int .u8 n39 ∧
        callF Try.prog 46 #[.int .u8 n39, .int .u64 (IntKind.u64.wrap (Int.tmod n2 999))] w7 fun r43 w8 =>
        ∃ (n43 : Int), r43 = .int .u8 n43 ∧
        callF Try.prog 46 #[.int .u8 n0, .int .u64 (IntKind.u64.wrap ((IntKind.u64.wrap (Int.tmod n1 999)) * (IntKind.u64.wrap (Int.tmod n2 999))))] w8 fun r52 w9 =>
        ∃ (n52 : Int), r52 = .int .u8 n52 ∧
        cond (n43 != n52)
        (Q (.bool false) w9)
        (law02_FieldPowers_j1 n0 n1 false w9 Q))))

def law02_FieldPowers_tt : Nat → List (Nat × TypeId) := fun _ => []

theorem law02_FieldPowers_call (n0 : Int) (n1 : Int) (n2 : Int) (w : World) (Q : Value → World → Prop) (h : law02_FieldPowers n0 n1 n2 w Q) : callF Try.prog 10 #[.int .u8 n0, .int .u32 n1, .int .u32 n2] w Q :=
  callF_of (fun _ _ => by kernel_rfl) (callK_of_sw law02_FieldPowers_tt Try.func10 rfl (by kernel_rfl) (show sw Try.prog none 69 law02_FieldPowers_tt _ 0 (endK Try.prog [.tmp 6] Q) ⟨regs [.int .u8 n0, .int .u32 n1, .int .u32 n2], []⟩ w from
    Eq.mp (by kernel_rfl : law02_FieldPowers n0 n1 n2 w Q = sw Try.prog none 69 law02_FieldPowers_tt (Try.f10.body.getD .skip) 0 (endK Try.prog [.tmp 6] Q) ⟨regs [.int .u8 n0, .int .u32 n1, .int .u32 n2], []⟩ w) h))


/-! ### crossway/crosswaylaw02.alive: function 41 -/

def law02_alive_j1 (b0 : Bool) (p1 : Option Addr) (w : World) (Q : Value → World → Prop) : Prop :=
  callF Try.prog 50 #[.pointer p1, .int .u8 83] w fun r18 w1 =>
  ∃ (n18 : Int), r18 = .int .u8 n18 ∧
  callF Try.prog 52 #[.pointer p1, .int .u8 237] w1 fun r20 w2 =>
  ∃ (n20 : Int), r20 = .int .u8 n20 ∧
  callF Try.prog 54 #[.pointer p1, .int .i64 1, .int .u8 128] w2 fun r23 w3 =>
  ∃ (n23 : Int) (n23_1 : Int), r23 = .tuple #[.int .u8 n23, .int .i64 n23_1] ∧
  callF Try.prog 54 #[.pointer p1, .int .i64 2, .int .u8 1] w3 fun r28 w4 =>
  ∃ (n28 : Int) (n28_1 : Int), r28 = .tuple #[.int .u8 n28, .int .i64 n28_1] ∧
  callF Try.prog 42 #[.int .u8 87, .int .u8 131] w4 fun r31 w5 =>
  ∃ (n31 : Int), r31 = .int .u8 n31 ∧
  cond (n31 == 193)
  (callF Try.prog 44 #[.int .u8 0] w5 fun r34 w6 =>
    ∃ (n34 : Int), r34 = .int .u8 n34 ∧
    cond (n34 == 0)
    (callF Try.prog 44 #[.int .u8 83] w6 fun r38 w7 =>
      ∃ (n38 : Int), r38 = .int .u8 n38 ∧
      callF Try.prog 42 #[.int .u8 n38, .int .u8 83] w7 fun r39 w8 =>
      ∃ (n39 : Int), r39 = .int .u8 n39 ∧
      cond (n39 == 1)
      (callF Try.prog 46 #[.int .u8 2, .int .u64 8] w8 fun r43 w9 =>
        ∃ (n43 : Int), r43 = .int .u8 n43 ∧
        cond (n43 == 27)
        (∃ (p47 : Option Addr) (l47 : Nat) (c47 : Nat) (w10 : World), Ef Try.prog (Instr.buildSlice 50 4 #[(0, .int .u8 1), (1, .int .u8 2), (2, .int .u8 4), (3, .int .u8 1)]) w9 (.slice p47 l47 c47) w10 ∧
          callF Try.prog 55 #[.slice p47 l47 c47] w10 fun r48 w11 =>
          ∃ (n48 : Int), r48 = .int .u8 n48 ∧
          cond (n48 == 6)
          (cond (n18 == 237)
            (cond (n20 == 83)
              (cond (n23_1 == 0)
                (cond (n23 == 155)
                  (cond (n28_1 == 11)
                    (callF Try.prog 49 #[.pointer p1] w11 fun r73 w12 =>
                      ∃ (n73 : Int), r73 = .int .i64 n73 ∧
                      Q (.bool (n73 == 1)) w12)
                    (Q (.bool false) w11))
                  (Q (.bool false) w11))
                (Q (.bool false) w11))
              (Q (.bool false) w11))
            (Q (.bool false) w11))
          (Q (.bool false) w11))
        (Q (.bool false) w9))
      (Q (.bool false) w8))
    (Q (.bool false) w6))
  (Q (.bool false) w5)

def law02_alive  (w : World) (Q : Value → World → Prop) : Prop :=
  ∃ (p8 : Option Addr) (l8 : Nat) (c8 : Nat) (w1 : World), Ef Try.prog (Instr.buildSlice 50 2 #[(0, .int .u8 2), (1, .int .u8 3)]) w (.slice p8 l8 c8) w1 ∧
  callF Try.prog 48 #[.slice p8 l8 c8] w1 fun r9 w2 =>
  ∃ (p9 : Option Addr), r9 = .pointer p9 ∧
  ∃ (b11 : Bool) (w3 : World), Ef Try.prog (do eqGuard .eql 51 (.tmp 10) (.const (.pointer none)) (.pointer p9) (.pointer none); binOp .eql 51 (.pointer p9) (.pointer none) : Sem Value) w2 (.bool b11) w3 ∧
  cond b11
  (Q (.bool false) w3)
  (callF Try.prog 49 #[.pointer p9] w3 fun r14 w4 =>
    ∃ (n14 : Int), r14 = .int .i64 n14 ∧
    cond (n14 != 0)
    (Q (.bool false) w4)
    (law02_alive_j1 false p9 w4 Q))

def law02_alive_tt : Nat → List (Nat × TypeId) := fun _ => []

theorem law02_alive_call  (w : World) (Q : Value → World → Prop) (h : law02_alive  w Q) : callF Try.prog 41 #[] w Q :=
  callF_of (fun _ _ => by kernel_rfl) (callK_of_sw law02_alive_tt Try.func41 rfl (by kernel_rfl) (show sw Try.prog none 76 law02_alive_tt _ 0 (endK Try.prog [.tmp 0] Q) ⟨regs [], []⟩ w from
    Eq.mp (by kernel_rfl : law02_alive  w Q = sw Try.prog none 76 law02_alive_tt (Try.f41.body.getD .skip) 0 (endK Try.prog [.tmp 0] Q) ⟨regs [], []⟩ w) h))

end Go.Sh
end

section
namespace Go.Sh
open Go Go.Fw Go.Proofs
set_option maxRecDepth 100000
set_option linter.unusedVariables false

/-! ### crossway/crosswaylaw03.AesBlocks: function 11 -/

def law03_AesBlocks_j1 (p0 : Option Addr) (l0 : Nat) (c0 : Nat) (p1 : Option Addr) (l1 : Nat) (c1 : Nat) (b4 : Bool) (p6 : Option Addr) (w : World) (Q : Value → World → Prop) : Prop :=
  callF Try.prog 59 #[] w fun r55 w1 =>
  ∃ (p55 : Option Addr) (l55 : Nat) (c55 : Nat), r55 = .slice p55 l55 c55 ∧
  callF Try.prog 61 #[.pointer p6] w1 fun r57 w2 =>
  ∃ (p57 : Option Addr) (l57 : Nat) (c57 : Nat), r57 = .slice p57 l57 c57 ∧
  callF Try.prog 62 #[.slice p0 l0 c0, .slice p55 l55 c55] w2 fun r60 w3 =>
  ∃ (p60 : Option Addr) (l60 : Nat) (c60 : Nat), r60 = .slice p60 l60 c60 ∧
  callF Try.prog 60 #[.slice p57 l57 c57, .slice p60 l60 c60] w3 fun r61 w4 =>
  ∃ (b61 : Bool), r61 = .bool b61 ∧
  cond (!b61)
  (Q (.bool false) w4)
  (callF Try.prog 57 #[.slice p1 l1 c1] w4 fun r64 w5 =>
    ∃ (p64 : Option Addr) (l64 : Nat) (c64 : Nat), r64 = .slice p64 l64 c64 ∧
    callF Try.prog 63 #[.pointer p6, .slice p64 l64 c64] w5 fun r68 w6 =>
    ∃ (p68 : Option Addr) (l68 : Nat) (c68 : Nat) (n68 : Int), r68 = .tuple #[.slice p68 l68 c68, .int .i64 n68] ∧
    cond (((l1 : Nat) : Int) != 16)
    (cond (n68 == 11)
      (cond (((l68 : Nat) : Int) == 0)
        (callF Try.prog 64 #[.pointer p6] w6 fun r83 w7 =>
          ∃ (n83 : Int), r83 = .int .i64 n83 ∧
          Q (.bool (n83 == 0)) w7)
        (Q (.bool false) w6))
      (Q (.bool false) w6))
    (cond (n68 == 0)
      (callF Try.prog 66 #[.slice p0 l0 c0, .slice p1 l1 c1, .slice p55 l55 c55] w6 fun r93 w8 =>
        ∃ (p93 : Option Addr) (l93 : Nat) (c93 : Nat), r93 = .slice p93 l93 c93 ∧
        callF Try.prog 65 #[.slice p68 l68 c68, .slice p93 l93 c93] w8 fun r94 w9 =>
        ∃ (b94 : Bool), r94 = .bool b94 ∧
        cond b94
        (callF Try.prog 65 #[.slice p64 l64 c64, .slice p1 l1 c1] w9 fun r99 w10 =>
          ∃ (b99 : Bool), r99 = .bool b99 ∧
          cond b99
          (callF Try.prog 64 #[.pointer p6] w10 fun r103 w11 =>
            ∃ (n103 : Int), r103 = .int .i64 n103 ∧
            Q (.bool (n103 == 1)) w11)
          (Q (.bool false) w10))
        (Q (.bool false) w9))
      (Q (.bool false) w6)))

def law03_AesBlocks_j2 (p0 : Option Addr) (l0 : Nat) (c0 : Nat) (p1 : Option Addr) (l1 : Nat) (c1 : Nat) (b4 : Bool) (p5 : Option Addr) (l5 : Nat) (c5 : Nat) (p6 : Option Addr) (w : World) (Q : Value → World → Prop) : Prop :=
  LoopS [.slice p0 l0 c0, .slice p1 l1 c1, .bool b4, .slice p5 l5 c5, .pointer p6, .int .i64 0] w fun I1 μ1 us1 _ wl1 =>
  ∃ (p0_1 : Option Addr) (l0_1 : Nat) (c0_1 : Nat) (p1_1 : Option Addr) (l1_1 : Nat) (c1_1 : Nat) (b4_1 : Bool) (p5_1 : Option Addr) (l5_1 : Nat) (c5_1 : Nat) (p6_1 : Option Addr) (n8 : Int), us1 = [.slice p0_1 l0_1 c0_1, .slice p1_1 l1_1 c1_1, .bool b4_1, .slice p5_1 l5_1 c5_1, .pointer p6_1, .int .i64 n8] ∧
  cond (decide (n8 < 16))
  (∃ (a51 : Addr), IxA Try.prog 50 (.slice p5_1 l5_1 c5_1) (.int .i64 n8) a51 ∧
    ∃ (n52 : Int), Ld Try.prog 5 (.pointer (some a51)) wl1 (.int .u8 n52) ∧
    ∃ (a54 : Addr), IxA Try.prog 50 (.slice p5_1 l5_1 c5_1) (.int .i64 n8) a54 ∧
    ∃ (w1 : World), Sto Try.prog 5 (.pointer (some a54)) (.int .u8 (IntKind.u8.wrap (n52 + 1))) wl1 w1 ∧
    goesOn [] [] I1 μ1 us1 [.slice p0_1 l0_1 c0_1, .slice p1_1 l1_1 c1_1, .bool b4_1, .slice p5_1 l5_1 c5_1, .pointer p6_1, .int .i64 (IntKind.i64.wrap (n8 + 1))] wl1 w1)
  (law03_AesBlocks_j1 p0_1 l0_1 c0_1 p1_1 l1_1 c1_1 b4_1 p6_1 wl1 Q)

def law03_AesBlocks_j3 (p0 : Option Addr) (l0 : Nat) (c0 : Nat) (p1 : Option Addr) (l1 : Nat) (c1 : Nat) (b4 : Bool) (w : World) (Q : Value → World → Prop) : Prop :=
  callF Try.prog 57 #[.slice p0 l0 c0] w fun r24 w1 =>
  ∃ (p24 : Option Addr) (l24 : Nat) (c24 : Nat), r24 = .slice p24 l24 c24 ∧
  callF Try.prog 58 #[.slice p24 l24 c24] w1 fun r27 w2 =>
  ∃ (p27 : Option Addr) (n27 : Int), r27 = .tuple #[.pointer p27, .int .i64 n27] ∧
  cond (((l0 : Nat) : Int) != 16)
  (∃ (b34 : Bool) (w3 : World), Ef Try.prog (do eqGuard .eql 63 (.tmp 33) (.const (.pointer none)) (.pointer p27) (.pointer none); binOp .eql 63 (.pointer p27) (.pointer none) : Sem Value) w2 (.bool b34) w3 ∧
    cond b34
    (Q (.bool (n27 == 11)) w3)
    (Q (.bool false) w3))
  (∃ (b40 : Bool) (w4 : World), Ef Try.prog (do eqGuard .eql 63 (.tmp 39) (.const (.pointer none)) (.pointer p27) (.pointer none); binOp .eql 63 (.pointer p27) (.pointer none) : Sem Value) w2 (.bool b40) w4 ∧
    cond b40
    (Q (.bool false) w4)
    (cond (n27 != 0)
      (Q (.bool false) w4)
      (law03_AesBlocks_j2 p0 l0 c0 p1 l1 c1 b4 p24 l24 c24 p27 w4 Q)))

def law03_AesBlocks (p0 : Option Addr) (l0 : Nat) (c0 : Nat) (p1 : Option Addr) (l1 : Nat) (c1 : Nat) (w : World) (Q : Value → World → Prop) : Prop :=
  callF Try.prog 56 #[] w fun r13 w1 =>
  ∃ (b13 : Bool), r13 = .bool b13 ∧
  cond (!b13)
  (Q (.bool false) w1)
  (cond (decide (((l0 : Nat) : Int) > 100))
    (Q (.bool true) w1)
    (cond (decide (((l1 : Nat) : Int) > 100))
      (Q (.bool true) w1)
      (law03_AesBlocks_j3 p0 l0 c0 p1 l1 c1 false w1 Q)))

def law03_AesBlocks_tt : Nat → List (Nat × TypeId) := fun n => match n with | 0 => [(0, 50), (1, 50), (4, 4), (5, 50), (6, 63), (8, 3)] | _ => []

theorem law03_AesBlocks_call (p0 : Option Addr) (l0 : Nat) (c0 : Nat) (p1 : Option Addr) (l1 : Nat) (c1 : Nat) (w : World) (Q : Value → World → Prop) (h : law03_AesBlocks p0 l0 c0 p1 l1 c1 w Q) : callF Try.prog 11 #[.slice p0 l0 c0, .slice p1 l1 c1] w Q :=
  callF_of (fun _ _ => by kernel_rfl) (callK_of_sw law03_AesBlocks_tt Try.func11 rfl (by kernel_rfl) (show sw Try.prog none 106 law03_AesBlocks_tt _ 0 (endK Try.prog [.tmp 4] Q) ⟨regs [.slice p0 l0 c0, .slice p1 l1 c1], []⟩ w from
    Eq.mp (by kernel_rfl : law03_AesBlocks p0 l0 c0 p1 l1 c1 w Q = sw Try.prog none 106 law03_AesBlocks_tt (Try.f11.body.getD .skip) 0 (endK Try.prog [.tmp 4] Q) ⟨regs [.slice p0 l0 c0, .slice p1 l1 c1], []⟩ w) h))


/-! ### crossway/crosswaylaw03.AesDecrypts: function 12 -/

def law03_AesDecrypts (p0 : Option Addr) (l0 : Nat) (c0 : Nat) (p1 : Option Addr) (l1 : Nat) (c1 : Nat) (w : World) (Q : Value → World → Prop) : Prop :=
  callF Try.prog 56 #[] w fun r9 w1 =>
  ∃ (b9 : Bool), r9 = .bool b9 ∧
  cond (!b9)
  (Q (.bool false) w1)
  (cond (decide (((l1 : Nat) : Int) > 100))
    (Q (.bool true) w1)
    (callF Try.prog 58 #[.slice p0 l0 c0] w1 fun r16 w2 =>
      ∃ (p16 : Option Addr) (n16 : Int), r16 = .tuple #[.pointer p16, .int .i64 n16] ∧
      ∃ (b20 : Bool) (w3 : World), Ef Try.prog (do eqGuard .eql 63 (.tmp 19) (.const (.pointer none)) (.pointer p16) (.pointer none); binOp .eql 63 (.pointer p16) (.pointer none) : Sem Value) w2 (.bool b20) w3 ∧
      cond b20
      (cond (n16 == 11)
        (Q (.bool (((l0 : Nat) : Int) != 16)) w3)
        (Q (.bool false) w3))
      (callF Try.prog 67 #[.pointer p16, .slice p1 l1 c1] w3 fun r31 w4 =>
        ∃ (p31 : Option Addr) (l31 : Nat) (c31 : Nat) (n31 : Int), r31 = .tuple #[.slice p31 l31 c31, .int .i64 n31] ∧
        cond (((l1 : Nat) : Int) != 16)
        (cond (n31 == 11)
          (Q (.bool (((l31 : Nat) : Int) == 0)) w4)
          (Q (.bool false) w4))
        (cond (n31 == 0)
          (callF Try.prog 68 #[.slice p0 l0 c0, .slice p1 l1 c1] w4 fun r50 w5 =>
            ∃ (p50 : Option Addr) (l50 : Nat) (c50 : Nat), r50 = .slice p50 l50 c50 ∧
            callF Try.prog 65 #[.slice p31 l31 c31, .slice p50 l50 c50] w5 fun r51 w6 =>
            ∃ (b51 : Bool), r51 = .bool b51 ∧
            Q (.bool b51) w6)
          (Q (.bool false) w4)))))

def law03_AesDecrypts_tt : Nat → List (Nat × TypeId) := fun _ => []

theorem law03_AesDecrypts_call (p0 : Option Addr) (l0 : Nat) (c0 : Nat) (p1 : Option Addr) (l1 : Nat) (c1 : Nat) (w : World) (Q : Value → World → Prop) (h : law03_AesDecrypts p0 l0 c0 p1 l1 c1 w Q) : callF Try.prog 12 #[.slice p0 l0 c0, .slice p1 l1 c1] w Q :=
  callF_of (fun _ _ => by kernel_rfl) (callK_of_sw law03_AesDecrypts_tt Try.func12 rfl (by kernel_rfl) (show sw Try.prog none 53 law03_AesDecrypts_tt _ 0 (endK Try.prog [.tmp 4] Q) ⟨regs [.slice p0 l0 c0, .slice p1 l1 c1], []⟩ w from
    Eq.mp (by kernel_rfl : law03_AesDecrypts p0 l0 c0 p1 l1 c1 w Q = sw Try.prog none 53 law03_AesDecrypts_tt (Try.f12.body.getD .skip) 0 (endK Try.prog [.tmp 4] Q) ⟨regs [.slice p0 l0 c0, .slice p1 l1 c1], []⟩ w) h))


/-! ### crossway/crosswaylaw03.AesBack: function 13 -/

def law03_AesBack_j1 (p0 : Option Addr) (l0 : Nat) (c0 : Nat) (p1 : Option Addr) (l1 : Nat) (c1 : Nat) (p2 : Option Addr) (l2 : Nat) (c2 : Nat) (b6 : Bool) (w : World) (Q : Value → World → Prop) : Prop :=
  LoopS [.slice p0 l0 c0, .slice p1 l1 c1, .slice p2 l2 c2, .bool b6, .int .i64 0] w fun I1 μ1 us1 _ wl1 =>
  ∃ (p0_1 : Option Addr) (l0_1 : Nat) (c0_1 : Nat) (p1_1 : Option Addr) (l1_1 : Nat) (c1_1 : Nat) (p2_1 : Option Addr) (l2_1 : Nat) (c2_1 : Nat) (b6_1 : Bool) (n7 : Int), us1 = [.slice p0_1 l0_1 c0_1, .slice p1_1 l1_1 c1_1, .slice p2_1 l2_1 c2_1, .bool b6_1, .int .i64 n7] ∧
  cond (decide (n7 < ((l0_1 : Nat) : Int)))
  (∃ (a43 : Addr), IxA Try.prog 68 (.slice p0_1 l0_1 c0_1) (.int .i64 n7) a43 ∧
    ∃ (p44 : Option Addr) (l44 : Nat) (c44 : Nat), Ld Try.prog 50 (.pointer (some a43)) wl1 (.slice p44 l44 c44) ∧
    callF Try.prog 58 #[.slice p44 l44 c44] wl1 fun r45 w1 =>
    ∃ (p45 : Option Addr) (n45 : Int), r45 = .tuple #[.pointer p45, .int .i64 n45] ∧
    ∃ (a50 : Addr), IxA Try.prog 68 (.slice p0_1 l0_1 c0_1) (.int .i64 n7) a50 ∧
    ∃ (p51 : Option Addr) (l51 : Nat) (c51 : Nat), Ld Try.prog 50 (.pointer (some a50)) w1 (.slice p51 l51 c51) ∧
    cond (((l51 : Nat) : Int) != 16)
    (∃ (b55 : Bool) (w2 : World), Ef Try.prog (do eqGuard .neq 63 (.tmp 54) (.const (.pointer none)) (.pointer p45) (.pointer none); binOp .neq 63 (.pointer p45) (.pointer none) : Sem Value) w1 (.bool b55) w2 ∧
      cond b55
      (Q (.bool false) w2)
      (cond (n45 != 11)
        (Q (.bool false) w2)
        (goesOn [] [] I1 μ1 us1 [.slice p0_1 l0_1 c0_1, .slice p1_1 l1_1 c1_1, .slice p2_1 l2_1 c2_1, .bool b6_1, .int .i64 (IntKind.i64.wrap (n7 + 1))] wl1 w2)))
    (∃ (b61 : Bool) (w3 : World), Ef Try.prog (do eqGuard .eql 63 (.tmp 60) (.const (.pointer none)) (.pointer p45) (.pointer none); binOp .eql 63 (.pointer p45) (.pointer none) : Sem Value) w1 (.bool b61) w3 ∧
      cond b61
      (Q (.bool false) w3)
      (callF Try.prog 63 #[.pointer p45, .slice p1_1 l1_1 c1_1] w3 fun r65 w4 =>
        ∃ (p65 : Option Addr) (l65 : Nat) (c65 : Nat) (n65 : Int), r65 = .tuple #[.slice p65 l65 c65, .int .i64 n65] ∧
        callF Try.prog 67 #[.pointer p45, .slice p65 l65 c65] w4 fun r71 w5 =>
        ∃ (p71 : Option Addr) (l71 : Nat) (c71 : Nat) (n71 : Int), r71 = .tuple #[.slice p71 l71 c71, .int .i64 n71] ∧
        callF Try.prog 67 #[.pointer p45, .slice p1_1 l1_1 c1_1] w5 fun r77 w6 =>
        ∃ (p77 : Option Addr) (l77 : Nat) (c77 : Nat) (n77 : Int), r77 = .tuple #[.slice p77 l77 c77, .int .i64 n77] ∧
        callF Try.prog 63 #[.pointer p45, .slice p77 l77 c77] w6 fun r83 w7 =>
        ∃ (p83 : Option Addr) (l83 : Nat) (c83 : Nat) (n83 : Int), r83 = .tuple #[.slice p83 l83 c83, .int .i64 n83] ∧
        callF Try.prog 63 #[.pointer p45, .slice p2_1 l2_1 c2_1] w7 fun r89 w8 =>
        ∃ (p89 : Option Addr) (l89 : Nat) (c89 : Nat) (n89 : Int), r89 = .tuple #[.slice p89 l89 c89, .int .i64 n89] ∧
        cond (n65 != 0)
        (Q (.bool false) w8)
        (cond (n71 != 0)
          (Q (.bool false) w8)
          (cond (n77 != 0)
            (Q (.bool false) w8)
            (cond (n83 != 0)
              (Q (.bool false) w8)
              (cond (n89 != 0)
                (Q (.bool false) w8)
                (callF Try.prog 65 #[.slice p71 l71 c71, .slice p1_1 l1_1 c1_1] w8 fun r113 w9 =>
                  ∃ (b113 : Bool), r113 = .bool b113 ∧
                  cond (!b113)
                  (Q (.bool false) w9)
                  (callF Try.prog 65 #[.slice p83 l83 c83, .slice p1_1 l1_1 c1_1] w9 fun r119 w10 =>
                    ∃ (b119 : Bool), r119 = .bool b119 ∧
                    cond (!b119)
                    (Q (.bool false) w10)
                    (callF Try.prog 65 #[.slice p89 l89 c89, .slice p65 l65 c65] w10 fun r125 w11 =>
                      ∃ (b125 : Bool), r125 = .bool b125 ∧
                      callF Try.prog 65 #[.slice p2_1 l2_1 c2_1, .slice p1_1 l1_1 c1_1] w11 fun r128 w12 =>
                      ∃ (b128 : Bool), r128 = .bool b128 ∧
                      cond (!(b125 == b128))
                      (Q (.bool false) w12)
                      (callF Try.prog 64 #[.pointer p45] w12 fun r133 w13 =>
                        ∃ (n133 : Int), r133 = .int .i64 n133 ∧
                        cond (n133 != 5)
                        (Q (.bool false) w13)
                        (goesOn [] [] I1 μ1 us1 [.slice p0_1 l0_1 c0_1, .slice p1_1 l1_1 c1_1, .slice p2_1 l2_1 c2_1, .bool b6_1, .int .i64 (IntKind.i64.wrap (n7 + 1))] wl1 w13))))))))))))
  (Q (.bool true) wl1)

def law03_AesBack (p0 : Option Addr) (l0 : Nat) (c0 : Nat) (p1 : Option Addr) (l1 : Nat) (c1 : Nat) (p2 : Option Addr) (l2 : Nat) (c2 : Nat) (w : World) (Q : Value → World → Prop) : Prop :=
  callF Try.prog 56 #[] w fun r20 w1 =>
  ∃ (b20 : Bool), r20 = .bool b20 ∧
  cond (!b20)
  (Q (.bool false) w1)
  (callF Try.prog 69 #[.slice p0 l0 c0, .int .i64 200] w1 fun r23 w2 =>
    ∃ (b23 : Bool), r23 = .bool b23 ∧
    cond b23
    (Q (.bool true) w2)
    (cond (((l1 : Nat) : Int) != 16)
      (Q (.bool true) w2)
      (cond (((l2 : Nat) : Int) != 16)
        (Q (.bool true) w2)
        (law03_AesBack_j1 p0 l0 c0 p1 l1 c1 p2 l2 c2 false w2 Q))))

def law03_AesBack_tt : Nat → List (Nat × TypeId) := fun n => match n with | 0 => [(0, 68), (1, 50), (2, 50), (6, 4), (7, 3)] | _ => []

theorem law03_AesBack_call (p0 : Option Addr) (l0 : Nat) (c0 : Nat) (p1 : Option Addr) (l1 : Nat) (c1 : Nat) (p2 : Option Addr) (l2 : Nat) (c2 : Nat) (w : World) (Q : Value → World → Prop) (h : law03_AesBack p0 l0 c0 p1 l1 c1 p2 l2 c2 w Q) : callF Try.prog 13 #[.slice p0 l0 c0, .slice p1 l1 c1, .slice p2 l2 c2] w Q :=
  callF_of (fun _ _ => by kernel_rfl) (callK_of_sw law03_AesBack_tt Try.func13 rfl (by kernel_rfl) (show sw Try.prog none 136 law03_AesBack_tt _ 0 (endK Try.prog [.tmp 6] Q) ⟨regs [.slice p0 l0 c0, .slice p1 l1 c1, .slice p2 l2 c2], []⟩ w from
    Eq.mp (by kernel_rfl : law03_AesBack p0 l0 c0 p1 l1 c1 p2 l2 c2 w Q = sw Try.prog none 136 law03_AesBack_tt (Try.f13.body.getD .skip) 0 (endK Try.prog [.tmp 6] Q) ⟨regs [.slice p0 l0 c0, .slice p1 l1 c1, .slice p2 l2 c2], []⟩ w) h))


/-! ### crossway/crosswaylaw03.AesKeys: function 14 -/

def law03_AesKeys_j1 (I1 : Inv) (μ1 : Meas) (us1 : List Value) (wl1 : World) (b2 : Bool) (p3 : Option Addr) (p5 : Option Addr) (l5 : Nat) (c5 : Nat) (n6 : Int) (w : World) (Q : Value → World → Prop) : Prop :=
  ∃ (a81 : Addr), IxA Try.prog 68 (.slice p5 l5 c5) (.int .i64 n6) a81 ∧
  ∃ (p82 : Option Addr) (l82 : Nat) (c82 : Nat), Ld Try.prog 50 (.pointer (some a81)) w (.slice p82 l82 c82) ∧
  ∃ (a83 : Addr), IxA Try.prog 50 (.slice p82 l82 c82) (.int .i64 0) a83 ∧
  ∃ (n84 : Int), Ld Try.prog 5 (.pointer (some a83)) w (.int .u8 n84) ∧
  ∃ (a86 : Addr), IxA Try.prog 50 (.slice p82 l82 c82) (.int .i64 0) a86 ∧
  ∃ (w1 : World), Sto Try.prog 5 (.pointer (some a86)) (.int .u8 (IntKind.u8.wrap (n84 + 1))) w w1 ∧
  goesOn [] [] I1 μ1 us1 [.bool b2, .pointer p3, .slice p5 l5 c5, .int .i64 (IntKind.i64.wrap (n6 + 1))] wl1 w1

def law03_AesKeys_j2 (b2 : Bool) (p3 : Option Addr) (p5 : Option Addr) (l5 : Nat) (c5 : Nat) (w : World) (Q : Value → World → Prop) : Prop :=
  callF Try.prog 61 #[.pointer p3] w fun r88 w1 =>
  ∃ (p88 : Option Addr) (l88 : Nat) (c88 : Nat), r88 = .slice p88 l88 c88 ∧
  ∃ (S23 : World → Prop),
  Drw w1 fun w2 =>
  cond (((l88 : Nat) : Int) == 11)
  (∃ (a94 : Addr), IxA Try.prog 68 (.slice p88 l88 c88) (.int .i64 1) a94 ∧
    ∃ (a99 : Addr), IxA Try.prog 68 (.slice p5 l5 c5) (.int .i64 1) a99 ∧
    ∃ (p95 : Option Addr) (l95 : Nat) (c95 : Nat), HLd Try.prog S23 50 (.pointer (some a94)) w2 (.slice p95 l95 c95) ∧
    ∃ (a96 : Addr), IxA Try.prog 50 (.slice p95 l95 c95) (.int .i64 0) a96 ∧
    ∃ (n97 : Int), HLd Try.prog S23 5 (.pointer (some a96)) w2 (.int .u8 n97) ∧
    ∃ (p100 : Option Addr) (l100 : Nat) (c100 : Nat), Ld Try.prog 50 (.pointer (some a99)) w2 (.slice p100 l100 c100) ∧
    (w2 = w2 ∨ S23 w2) ∧
    ∃ (a101 : Addr), IxA Try.prog 50 (.slice p100 l100 c100) (.int .i64 0) a101 ∧
    ∃ (n102 : Int), Ld Try.prog 5 (.pointer (some a101)) w2 (.int .u8 n102) ∧
    (w2 = w2 ∨ S23 w2) ∧
    Q (.bool (n97 != n102)) w2)
  (Q (.bool false) w2)

def law03_AesKeys_j3 (b2 : Bool) (p3 : Option Addr) (p5 : Option Addr) (l5 : Nat) (c5 : Nat) (w : World) (Q : Value → World → Prop) : Prop :=
  LoopS [.bool b2, .pointer p3, .slice p5 l5 c5, .int .i64 1] w fun I1 μ1 us1 _ wl1 =>
  ∃ (b2_1 : Bool) (p3_1 : Option Addr) (p5_1 : Option Addr) (l5_1 : Nat) (c5_1 : Nat) (n6 : Int), us1 = [.bool b2_1, .pointer p3_1, .slice p5_1 l5_1 c5_1, .int .i64 n6] ∧
  cond (decide (n6 < 11))
  (∃ (a46 : Addr), IxA Try.prog 68 (.slice p5_1 l5_1 c5_1) (.int .i64 n6) a46 ∧
    ∃ (p47 : Option Addr) (l47 : Nat) (c47 : Nat), Ld Try.prog 50 (.pointer (some a46)) wl1 (.slice p47 l47 c47) ∧
    cond (((l47 : Nat) : Int) != 16)
    (Q (.bool false) wl1)
    (LoopS [.bool b2_1, .pointer p3_1, .slice p5_1 l5_1 c5_1, .int .i64 n6, .int .i64 4] wl1 fun I2 μ2 us2 _ wl2 =>
      ∃ (b2_2 : Bool) (p3_2 : Option Addr) (p5_2 : Option Addr) (l5_2 : Nat) (c5_2 : Nat) (n6_1 : Int) (n7 : Int), us2 = [.bool b2_2, .pointer p3_2, .slice p5_2 l5_2 c5_2, .int .i64 n6_1, .int .i64 n7] ∧
      cond (decide (n7 < 16))
      (∃ (S19 : World → Prop),
        Drw wl2 fun w1 =>
        ∃ (a56 : Addr), IxA Try.prog 68 (.slice p5_2 l5_2 c5_2) (.int .i64 n6_1) a56 ∧
        ∃ (a64 : Addr), IxA Try.prog 68 (.slice p5_2 l5_2 c5_2) (.int .i64 (IntKind.i64.wrap (n6_1 - 1))) a64 ∧
        ∃ (a71 : Addr), IxA Try.prog 68 (.slice p5_2 l5_2 c5_2) (.int .i64 n6_1) a71 ∧
        ∃ (p57 : Option Addr) (l57 : Nat) (c57 : Nat), HLd Try.prog S19 50 (.pointer (some a56)) w1 (.slice p57 l57 c57) ∧
        ∃ (a59 : Addr), IxA Try.prog 50 (.slice p57 l57 c57) (.int .i64 n7) a59 ∧
        ∃ (n60 : Int), HLd Try.prog S19 5 (.pointer (some a59)) w1 (.int .u8 n60) ∧
        ∃ (p65 : Option Addr) (l65 : Nat) (c65 : Nat), HLd Try.prog S19 50 (.pointer (some a64)) w1 (.slice p65 l65 c65) ∧
        ∃ (a67 : Addr), IxA Try.prog 50 (.slice p65 l65 c65) (.int .i64 n7) a67 ∧
        ∃ (n68 : Int), HLd Try.prog S19 5 (.pointer (some a67)) w1 (.int .u8 n68) ∧
        ∃ (p72 : Option Addr) (l72 : Nat) (c72 : Nat), Ld Try.prog 50 (.pointer (some a71)) w1 (.slice p72 l72 c72) ∧
        (w1 = w1 ∨ S19 w1) ∧
        ∃ (a75 : Addr), IxA Try.prog 50 (.slice p72 l72 c72) (.int .i64 (IntKind.i64.wrap (n7 - 4))) a75 ∧
        ∃ (n76 : Int), Ld Try.prog 5 (.pointer (some a75)) w1 (.int .u8 n76) ∧
        (w1 = w1 ∨ S19 w1) ∧
        cond (n60 != (ixor .u8 n68 n76))
        (Q (.bool false) w1)
        (goesOn [] [] I2 μ2 us2 [.bool b2_2, .pointer p3_2, .slice p5_2 l5_2 c5_2, .int .i64 n6_1, .int .i64 (IntKind.i64.wrap (n7 + 1))] wl2 w1))
      (law03_AesKeys_j1 I1 μ1 us1 wl1 b2_2 p3_2 p5_2 l5_2 c5_2 n6_1 wl2 Q)))
  (law03_AesKeys_j2 b2_1 p3_1 p5_1 l5_1 c5_1 wl1 Q)

def law03_AesKeys (p0 : Option Addr) (l0 : Nat) (c0 : Nat) (w : World) (Q : Value → World → Prop) : Prop :=
  callF Try.prog 56 #[] w fun r9 w1 =>
  ∃ (b9 : Bool), r9 = .bool b9 ∧
  cond (!b9)
  (Q (.bool false) w1)
  (callF Try.prog 58 #[.slice p0 l0 c0] w1 fun r13 w2 =>
    ∃ (p13 : Option Addr) (n13 : Int), r13 = .tuple #[.pointer p13, .int .i64 n13] ∧
    cond (((l0 : Nat) : Int) != 16)
    (∃ (b20 : Bool) (w3 : World), Ef Try.prog (do eqGuard .eql 63 (.tmp 19) (.const (.pointer none)) (.pointer p13) (.pointer none); binOp .eql 63 (.pointer p13) (.pointer none) : Sem Value) w2 (.bool b20) w3 ∧
      cond b20
      (Q (.bool (n13 == 11)) w3)
      (Q (.bool false) w3))
    (∃ (b26 : Bool) (w4 : World), Ef Try.prog (do eqGuard .eql 63 (.tmp 25) (.const (.pointer none)) (.pointer p13) (.pointer none); binOp .eql 63 (.pointer p13) (.pointer none) : Sem Value) w2 (.bool b26) w4 ∧
      cond b26
      (Q (.bool false) w4)
      (callF Try.prog 61 #[.pointer p13] w4 fun r28 w5 =>
        ∃ (p28 : Option Addr) (l28 : Nat) (c28 : Nat), r28 = .slice p28 l28 c28 ∧
        cond (((l28 : Nat) : Int) != 11)
        (Q (.bool false) w5)
        (∃ (a34 : Addr), IxA Try.prog 68 (.slice p28 l28 c28) (.int .i64 0) a34 ∧
          ∃ (p35 : Option Addr) (l35 : Nat) (c35 : Nat), Ld Try.prog 50 (.pointer (some a34)) w5 (.slice p35 l35 c35) ∧
          callF Try.prog 65 #[.slice p35 l35 c35, .slice p0 l0 c0] w5 fun r37 w6 =>
          ∃ (b37 : Bool), r37 = .bool b37 ∧
          cond (!b37)
          (Q (.bool false) w6)
          (law03_AesKeys_j3 false p13 p28 l28 c28 w6 Q)))))

def law03_AesKeys_tt : Nat → List (Nat × TypeId) := fun n => match n with | 0 => [(2, 4), (3, 63), (5, 68), (6, 3)] | 2 => [(2, 4), (3, 63), (5, 68), (6, 3), (7, 3)] | _ => []

theorem law03_AesKeys_call (p0 : Option Addr) (l0 : Nat) (c0 : Nat) (w : World) (Q : Value → World → Prop) (h : law03_AesKeys p0 l0 c0 w Q) : callF Try.prog 14 #[.slice p0 l0 c0] w Q :=
  callF_of (fun _ _ => by kernel_rfl) (callK_of_sw law03_AesKeys_tt Try.func14 rfl (by kernel_rfl) (show sw Try.prog none 105 law03_AesKeys_tt _ 0 (endK Try.prog [.tmp 2] Q) ⟨regs [.slice p0 l0 c0], []⟩ w from
    Eq.mp (by kernel_rfl : law03_AesKeys p0 l0 c0 w Q = sw Try.prog none 105 law03_AesKeys_tt (Try.f14.body.getD .skip) 0 (endK Try.prog [.tmp 2] Q) ⟨regs [.slice p0 l0 c0], []⟩ w) h))


/-! ### crossway/crosswaylaw03.AesCounts: function 15 -/

def law03_AesCounts_j1 (I1 : Inv) (μ1 : Meas) (us1 : List Value) (wl1 : World) (p1 : Option Addr) (l1 : Nat) (c1 : Nat) (b4 : Bool) (p5 : Option Addr) (p7 : Option Addr) (n9 : Int) (n10 : Int) (n12 : Int) (w : World) (Q : Value → World → Prop) : Prop :=
  cond (n12 == 0)
  (goesOn [] [] I1 μ1 us1 [.slice p1 l1 c1, .bool b4, .pointer p5, .pointer p7, .int .i64 (IntKind.i64.wrap (n9 + 1)), .int .i64 (IntKind.i64.wrap (n10 + 1))] wl1 w)
  (goesOn [] [] I1 μ1 us1 [.slice p1 l1 c1, .bool b4, .pointer p5, .pointer p7, .int .i64 n9, .int .i64 (IntKind.i64.wrap (n10 + 1))] wl1 w)

def law03_AesCounts_j2 (b4 : Bool) (p5 : Option Addr) (p7 : Option Addr) (n9 : Int) (w : World) (Q : Value → World → Prop) : Prop :=
  callF Try.prog 64 #[.pointer p5] w fun r125 w1 =>
  ∃ (n125 : Int), r125 = .int .i64 n125 ∧
  cond (n125 == n9)
  (callF Try.prog 64 #[.pointer p7] w1 fun r130 w2 =>
    ∃ (n130 : Int), r130 = .int .i64 n130 ∧
    Q (.bool (n130 == (IntKind.i64.wrap (2 * n9)))) w2)
  (Q (.bool false) w1)

def law03_AesCounts_j3 (p1 : Option Addr) (l1 : Nat) (c1 : Nat) (b4 : Bool) (p5 : Option Addr) (p7 : Option Addr) (w : World) (Q : Value → World → Prop) : Prop :=
  LoopS [.slice p1 l1 c1, .bool b4, .pointer p5, .pointer p7, .int .i64 0, .int .i64 0] w fun I1 μ1 us1 _ wl1 =>
  ∃ (p1_1 : Option Addr) (l1_1 : Nat) (c1_1 : Nat) (b4_1 : Bool) (p5_1 : Option Addr) (p7_1 : Option Addr) (n9 : Int) (n10 : Int), us1 = [.slice p1_1 l1_1 c1_1, .bool b4_1, .pointer p5_1, .pointer p7_1, .int .i64 n9, .int .i64 n10] ∧
  cond (decide (n10 < ((l1_1 : Nat) : Int)))
  (∃ (a65 : Addr), IxA Try.prog 68 (.slice p1_1 l1_1 c1_1) (.int .i64 n10) a65 ∧
    ∃ (p66 : Option Addr) (l66 : Nat) (c66 : Nat), Ld Try.prog 50 (.pointer (some a65)) wl1 (.slice p66 l66 c66) ∧
    callF Try.prog 63 #[.pointer p5_1, .slice p66 l66 c66] wl1 fun r67 w1 =>
    ∃ (p67 : Option Addr) (l67 : Nat) (c67 : Nat) (n67 : Int), r67 = .tuple #[.slice p67 l67 c67, .int .i64 n67] ∧
    ∃ (a78 : Addr), IxA Try.prog 68 (.slice p1_1 l1_1 c1_1) (.int .i64 (IntKind.i64.wrap ((IntKind.i64.wrap (((l1_1 : Nat) : Int) - 1)) - n10))) a78 ∧
    ∃ (p79 : Option Addr) (l79 : Nat) (c79 : Nat), Ld Try.prog 50 (.pointer (some a78)) w1 (.slice p79 l79 c79) ∧
    callF Try.prog 67 #[.pointer p7_1, .slice p79 l79 c79] w1 fun r80 w2 =>
    ∃ (p80 : Option Addr) (l80 : Nat) (c80 : Nat) (n80 : Int), r80 = .tuple #[.slice p80 l80 c80, .int .i64 n80] ∧
    ∃ (a87 : Addr), IxA Try.prog 68 (.slice p1_1 l1_1 c1_1) (.int .i64 n10) a87 ∧
    ∃ (p88 : Option Addr) (l88 : Nat) (c88 : Nat), Ld Try.prog 50 (.pointer (some a87)) w2 (.slice p88 l88 c88) ∧
    callF Try.prog 63 #[.pointer p7_1, .slice p88 l88 c88] w2 fun r89 w3 =>
    ∃ (p89 : Option Addr) (l89 : Nat) (c89 : Nat) (n89 : Int), r89 = .tuple #[.slice p89 l89 c89, .int .i64 n89] ∧
    ∃ (a96 : Addr), IxA Try.prog 68 (.slice p1_1 l1_1 c1_1) (.int .i64 n10) a96 ∧
    ∃ (p97 : Option Addr) (l97 : Nat) (c97 : Nat), Ld Try.prog 50 (.pointer (some a96)) w3 (.slice p97 l97 c97) ∧
    cond (!((n67 == 0) == (((l97 : Nat) : Int) == 16)))
    (Q (.bool false) w3)
    (cond (n67 != n89)
      (Q (.bool false) w3)
      (callF Try.prog 65 #[.slice p67 l67 c67, .slice p89 l89 c89] w3 fun r109 w4 =>
        ∃ (b109 : Bool), r109 = .bool b109 ∧
        cond (!b109)
        (Q (.bool false) w4)
        (cond (!((n80 == 0) == (((l80 : Nat) : Int) == 16)))
          (Q (.bool false) w4)
          (law03_AesCounts_j1 I1 μ1 us1 wl1 p1_1 l1_1 c1_1 b4_1 p5_1 p7_1 n9 n10 n67 w4 Q)))))
  (law03_AesCounts_j2 b4_1 p5_1 p7_1 n9 wl1 Q)

def law03_AesCounts_j4 (p0 : Option Addr) (l0 : Nat) (c0 : Nat) (p1 : Option Addr) (l1 : Nat) (c1 : Nat) (b4 : Bool) (w : World) (Q : Value → World → Prop) : Prop :=
  callF Try.prog 58 #[.slice p0 l0 c0] w fun r33 w1 =>
  ∃ (p33 : Option Addr) (n33 : Int), r33 = .tuple #[.pointer p33, .int .i64 n33] ∧
  callF Try.prog 58 #[.slice p0 l0 c0] w1 fun r38 w2 =>
  ∃ (p38 : Option Addr) (n38 : Int), r38 = .tuple #[.pointer p38, .int .i64 n38] ∧
  ∃ (b42 : Bool) (w3 : World), Ef Try.prog (do eqGuard .eql 63 (.tmp 41) (.const (.pointer none)) (.pointer p33) (.pointer none); binOp .eql 63 (.pointer p33) (.pointer none) : Sem Value) w2 (.bool b42) w3 ∧
  cond b42
  (Q (.bool false) w3)
  (∃ (b45 : Bool) (w4 : World), Ef Try.prog (do eqGuard .eql 63 (.tmp 44) (.const (.pointer none)) (.pointer p38) (.pointer none); binOp .eql 63 (.pointer p38) (.pointer none) : Sem Value) w3 (.bool b45) w4 ∧
    cond b45
    (Q (.bool false) w4)
    (cond (n33 != 0)
      (Q (.bool false) w4)
      (cond (n38 != 0)
        (Q (.bool false) w4)
        (law03_AesCounts_j3 p1 l1 c1 b4 p33 p38 w4 Q))))

def law03_AesCounts (p0 : Option Addr) (l0 : Nat) (c0 : Nat) (p1 : Option Addr) (l1 : Nat) (c1 : Nat) (w : World) (Q : Value → World → Prop) : Prop :=
  callF Try.prog 56 #[] w fun r17 w1 =>
  ∃ (b17 : Bool), r17 = .bool b17 ∧
  cond (!b17)
  (Q (.bool false) w1)
  (cond (((l0 : Nat) : Int) != 16)
    (Q (.bool true) w1)
    (callF Try.prog 69 #[.slice p1 l1 c1, .int .i64 400] w1 fun r24 w2 =>
      ∃ (b24 : Bool), r24 = .bool b24 ∧
      cond b24
      (Q (.bool true) w2)
      (cond (decide (((l1 : Nat) : Int) > 20))
        (Q (.bool true) w2)
        (law03_AesCounts_j4 p0 l0 c0 p1 l1 c1 false w2 Q))))

def law03_AesCounts_tt : Nat → List (Nat × TypeId) := fun n => match n with | 0 => [(1, 68), (4, 4), (5, 63), (7, 63), (9, 3), (10, 3)] | _ => []

theorem law03_AesCounts_call (p0 : Option Addr) (l0 : Nat) (c0 : Nat) (p1 : Option Addr) (l1 : Nat) (c1 : Nat) (w : World) (Q : Value → World → Prop) (h : law03_AesCounts p0 l0 c0 p1 l1 c1 w Q) : callF Try.prog 15 #[.slice p0 l0 c0, .slice p1 l1 c1] w Q :=
  callF_of (fun _ _ => by kernel_rfl) (callK_of_sw law03_AesCounts_tt Try.func15 rfl (by kernel_rfl) (show sw Try.prog none 135 law03_AesCounts_tt _ 0 (endK Try.prog [.tmp 4] Q) ⟨regs [.slice p0 l0 c0, .slice p1 l1 c1], []⟩ w from
    Eq.mp (by kernel_rfl : law03_AesCounts p0 l0 c0 p1 l1 c1 w Q = sw Try.prog none 135 law03_AesCounts_tt (Try.f15.body.getD .skip) 0 (endK Try.prog [.tmp 4] Q) ⟨regs [.slice p0 l0 c0, .slice p1 l1 c1], []⟩ w) h))


/-! ### crossway/crosswaylaw03.alive: function 56 -/

def law03_alive_j1 (b0 : Bool) (p2 : Option Addr) (l2 : Nat) (c2 : Nat) (p3 : Option Addr) (l3 : Nat) (c3 : Nat) (p4 : Option Addr) (w : World) (Q : Value → World → Prop) : Prop :=
  callF Try.prog 63 #[.pointer p4, .slice p2 l2 c2] w fun r41 w1 =>
  ∃ (p41 : Option Addr) (l41 : Nat) (c41 : Nat) (n41 : Int), r41 = .tuple #[.slice p41 l41 c41, .int .i64 n41] ∧
  callF Try.prog 67 #[.pointer p4, .slice p41 l41 c41] w1 fun r47 w2 =>
  ∃ (p47 : Option Addr) (l47 : Nat) (c47 : Nat) (n47 : Int), r47 = .tuple #[.slice p47 l47 c47, .int .i64 n47] ∧
  ∃ (p53 : Option Addr) (l53 : Nat) (c53 : Nat), Pu Try.prog (Instr.sliceAt 50 (.slice p2 l2 c2) none (some (.int .i64 15)) none) (.slice p53 l53 c53) ∧
  callF Try.prog 63 #[.pointer p4, .slice p53 l53 c53] w2 fun r54 w3 =>
  ∃ (p54 : Option Addr) (l54 : Nat) (c54 : Nat) (n54 : Int), r54 = .tuple #[.slice p54 l54 c54, .int .i64 n54] ∧
  cond (n41 == 0)
  (cond (n47 == 0)
    (cond (n54 == 11)
      (callF Try.prog 65 #[.slice p41 l41 c41, .slice p3 l3 c3] w3 fun r70 w4 =>
        ∃ (b70 : Bool), r70 = .bool b70 ∧
        cond b70
        (callF Try.prog 65 #[.slice p47 l47 c47, .slice p2 l2 c2] w4 fun r75 w5 =>
          ∃ (b75 : Bool), r75 = .bool b75 ∧
          cond b75
          (callF Try.prog 61 #[.pointer p4] w5 fun r79 w6 =>
            ∃ (p79 : Option Addr) (l79 : Nat) (c79 : Nat), r79 = .slice p79 l79 c79 ∧
            cond (((l79 : Nat) : Int) == 11)
            (callF Try.prog 64 #[.pointer p4] w6 fun r85 w7 =>
              ∃ (n85 : Int), r85 = .int .i64 n85 ∧
              Q (.bool (n85 == 2)) w7)
            (Q (.bool false) w6))
          (Q (.bool false) w5))
        (Q (.bool false) w4))
      (Q (.bool false) w3))
    (Q (.bool false) w3))
  (Q (.bool false) w3)

def law03_alive  (w : World) (Q : Value → World → Prop) : Prop :=
  ∃ (p14 : Option Addr) (l14 : Nat) (c14 : Nat) (w1 : World), Ef Try.prog (Instr.buildSlice 50 16 #[(0, .int .u8 0), (1, .int .u8 1), (2, .int .u8 2), (3, .int .u8 3), (4, .int .u8 4), (5, .int .u8 5), (6, .int .u8 6), (7, .int .u8 7), (8, .int .u8 8), (9, .int .u8 9), (10, .int .u8 10), (11, .int .u8 11), (12, .int .u8 12), (13, .int .u8 13), (14, .int .u8 14), (15, .int .u8 15)]) w (.slice p14 l14 c14) w1 ∧
  ∃ (p15 : Option Addr) (l15 : Nat) (c15 : Nat) (w2 : World), Ef Try.prog (Instr.buildSlice 50 16 #[(0, .int .u8 0), (1, .int .u8 17), (2, .int .u8 34), (3, .int .u8 51), (4, .int .u8 68), (5, .int .u8 85), (6, .int .u8 102), (7, .int .u8 119), (8, .int .u8 136), (9, .int .u8 153), (10, .int .u8 170), (11, .int .u8 187), (12, .int .u8 204), (13, .int .u8 221), (14, .int .u8 238), (15, .int .u8 255)]) w1 (.slice p15 l15 c15) w2 ∧
  ∃ (p16 : Option Addr) (l16 : Nat) (c16 : Nat) (w3 : World), Ef Try.prog (Instr.buildSlice 50 16 #[(0, .int .u8 105), (1, .int .u8 196), (2, .int .u8 224), (3, .int .u8 216), (4, .int .u8 106), (5, .int .u8 123), (6, .int .u8 4), (7, .int .u8 48), (8, .int .u8 216), (9, .int .u8 205), (10, .int .u8 183), (11, .int .u8 128), (12, .int .u8 112), (13, .int .u8 180), (14, .int .u8 197), (15, .int .u8 90)]) w2 (.slice p16 l16 c16) w3 ∧
  callF Try.prog 58 #[.slice p14 l14 c14] w3 fun r19 w4 =>
  ∃ (p19 : Option Addr) (n19 : Int), r19 = .tuple #[.pointer p19, .int .i64 n19] ∧
  ∃ (p24 : Option Addr) (l24 : Nat) (c24 : Nat), Pu Try.prog (Instr.sliceAt 50 (.slice p14 l14 c14) none (some (.int .i64 15)) none) (.slice p24 l24 c24) ∧
  callF Try.prog 58 #[.slice p24 l24 c24] w4 fun r25 w5 =>
  ∃ (p25 : Option Addr) (n25 : Int), r25 = .tuple #[.pointer p25, .int .i64 n25] ∧
  ∃ (b29 : Bool) (w6 : World), Ef Try.prog (do eqGuard .eql 63 (.tmp 28) (.const (.pointer none)) (.pointer p19) (.pointer none); binOp .eql 63 (.pointer p19) (.pointer none) : Sem Value) w5 (.bool b29) w6 ∧
  cond b29
  (Q (.bool false) w6)
  (cond (n19 != 0)
    (Q (.bool false) w6)
    (cond (n25 != 11)
      (Q (.bool false) w6)
      (law03_alive_j1 false p15 l15 c15 p16 l16 c16 p19 w6 Q)))

def law03_alive_tt : Nat → List (Nat × TypeId) := fun _ => []

theorem law03_alive_call  (w : World) (Q : Value → World → Prop) (h : law03_alive  w Q) : callF Try.prog 56 #[] w Q :=
  callF_of (fun _ _ => by kernel_rfl) (callK_of_sw law03_alive_tt Try.func56 rfl (by kernel_rfl) (show sw Try.prog none 88 law03_alive_tt _ 0 (endK Try.prog [.tmp 0] Q) ⟨regs [], []⟩ w from
    Eq.mp (by kernel_rfl : law03_alive  w Q = sw Try.prog none 88 law03_alive_tt (Try.f56.body.getD .skip) 0 (endK Try.prog [.tmp 0] Q) ⟨regs [], []⟩ w) h))

end Go.Sh
end
