/- A part of a proof of a given law of this program: lemmas, printed forms of its functions, contracts. It has no conditions of its own. -/
import Derived.Test.YtcfealonnakdcaaGreatProg
import Derived.Test.YtcfealonnakdcaaGreatMFw

section
namespace Go.Sh
open Go
abbrev F_law12_StampMakes : FuncId := 7
abbrev F_law12_StampParses : FuncId := 8
abbrev F_law12_StampEnds : FuncId := 9
abbrev F_law12_StampBack : FuncId := 16
abbrev F_ref00_CopyBytes : FuncId := 25
abbrev F_ref00_SameBytes : FuncId := 33
abbrev F_law12_alive : FuncId := 46
abbrev F_stamp_Make : FuncId := 47
abbrev F_ref12_Make : FuncId := 48
abbrev F_stamp_Stamp : FuncId := 49
abbrev F_ref12_Stamp : FuncId := 50
abbrev F_stamp_Parse : FuncId := 51
abbrev F_ref12_Parse : FuncId := 52
abbrev F_ref12_Same : FuncId := 53
abbrev F_law12_of : FuncId := 54
abbrev F_stamp_Check : FuncId := 55
abbrev F_ref12_Check : FuncId := 56
abbrev F_initial_Parse : FuncId := 76
abbrev F_initial_Type : FuncId := 77
abbrev F_slices_Clone_byte_byte : FuncId := 102
abbrev F_octet_Join : FuncId := 112
abbrev F_ref01_Unhex : FuncId := 116
abbrev F_stamp_long : FuncId := 117
abbrev F_head_Head_Bytes : FuncId := 118
abbrev F_ref10_Bytes : FuncId := 119
abbrev F_octet_Unhex : FuncId := 120
abbrev F_gcm_New : FuncId := 121
abbrev F_scan_Write : FuncId := 122
abbrev F_scan_Writer_Short : FuncId := 123
abbrev F_scan_Writer_Bytes : FuncId := 124
abbrev F_scan_Writer_Done : FuncId := 125
abbrev F_gcm_Box_Seal : FuncId := 126
abbrev F_ref07_Seal : FuncId := 127
abbrev F_head_Parse : FuncId := 128
abbrev F_scan_Read : FuncId := 129
abbrev F_scan_Reader_Bytes : FuncId := 130
abbrev F_scan_Reader_Rest : FuncId := 131
abbrev F_ref10_Parse : FuncId := 132
abbrev F_ref11_Type : FuncId := 133
abbrev F_ref10_Same : FuncId := 134
abbrev F_law10_Of : FuncId := 135
abbrev F_octet_Equal : FuncId := 136
abbrev F_scan_Writer_Num : FuncId := 140
abbrev F_scan_Reader_Num : FuncId := 142
abbrev F_scan_Reader_Short : FuncId := 143
abbrev F_initial_check : FuncId := 159
abbrev F_scan_fault_Err : FuncId := 161
abbrev F_sync_atomic_Int64_Add : FuncId := 163
abbrev F_ref07_Tag : FuncId := 170
abbrev F_ref06_Turn : FuncId := 171
abbrev F_ref06_After : FuncId := 172
abbrev F_ref07_first : FuncId := 173
abbrev F_slices_Concat_byte_byte : FuncId := 188
abbrev F_ref01_digit : FuncId := 189
abbrev F_strings_IndexByte : FuncId := 190
abbrev F_aes_New : FuncId := 191
abbrev F_aes_Cipher_Encrypt : FuncId := 192
abbrev F_ghash_New : FuncId := 193
abbrev F_scan_Writer_put : FuncId := 194
abbrev F_gcm_check : FuncId := 195
abbrev F_gcm_Box_turn : FuncId := 196
abbrev F_gcm_Box_Tag : FuncId := 197
abbrev F_ref07_wrong : FuncId := 198
abbrev F_head_Long : FuncId := 199
abbrev F_scan_fault_fail : FuncId := 200
abbrev F_scan_Reader_check : FuncId := 201
abbrev F_scan_Reader_cut : FuncId := 202
abbrev F_ref10_id : FuncId := 203
abbrev F_octet_Put : FuncId := 204
abbrev F_octet_Num : FuncId := 205
abbrev F_sync_atomic_AddInt64 : FuncId := 218
abbrev F_ref03_Encrypt : FuncId := 221
abbrev F_ref05_Sum : FuncId := 222
abbrev F_ref06_Stream : FuncId := 223
abbrev F_aes_block_add : FuncId := 230
abbrev F_aes_block_columns : FuncId := 231
abbrev F_aes_Cipher_times : FuncId := 232
abbrev F_aes_block_rows : FuncId := 233
abbrev F_aes_block_each : FuncId := 234
abbrev F_slices_Grow_byte_byte : FuncId := 237
abbrev F_field_New : FuncId := 239
abbrev F_aes_Cipher_turned : FuncId := 240
abbrev F_aes_word_plus : FuncId := 241
abbrev F_field_Tables_Sub : FuncId := 242
abbrev F_poly_Of : FuncId := 243
abbrev F_gcm_check_c1 : FuncId := 244
abbrev F_count_Next : FuncId := 246
abbrev F_gcm_first : FuncId := 247
abbrev F_count_Turn : FuncId := 248
abbrev F_octet_Xor : FuncId := 249
abbrev F_ghash_Hash_Sum : FuncId := 250
abbrev F_ref03_With : FuncId := 256
abbrev F_ref03_Table : FuncId := 257
abbrev F_ref05_Blocks : FuncId := 258
abbrev F_ref05_long : FuncId := 259
abbrev F_ref04_Bytes : FuncId := 260
abbrev F_ref05_Fold : FuncId := 261
abbrev F_ref04_Of : FuncId := 262
abbrev F_field_Tables_Times : FuncId := 264
abbrev F_field_Tables_ready : FuncId := 265
abbrev F_internal_bytealg_IndexByteString : FuncId := 269
abbrev F_field_Pow : FuncId := 270
abbrev F_count_After : FuncId := 272
abbrev F_count_Stream : FuncId := 273
abbrev F_slices_Concat_poly_Elem_poly_Elem : FuncId := 274
abbrev F_ghash_Blocks : FuncId := 275
abbrev F_ghash_lengths : FuncId := 276
abbrev F_ghash_Hash_Fold : FuncId := 277
abbrev F_poly_Elem_Bytes : FuncId := 278
abbrev F_ref03_Keys : FuncId := 282
abbrev F_ref03_add : FuncId := 283
abbrev F_ref03_rows : FuncId := 284
abbrev F_ref03_subs : FuncId := 285
abbrev F_ref03_columns : FuncId := 286
abbrev F_ref02_Mul : FuncId := 287
abbrev F_ref02_Sign : FuncId := 288
abbrev F_ref04_Mul : FuncId := 289
abbrev F_ref04_Add : FuncId := 290
abbrev F_sync_Once_Do : FuncId := 293
abbrev F_field_Tables_make : FuncId := 294
abbrev F_field_Mul : FuncId := 300
abbrev F_slices_Grow_poly_Elem_poly_Elem : FuncId := 301
abbrev F_ghash_Hash_Times : FuncId := 303
abbrev F_poly_Sum : FuncId := 304
abbrev F_ref02_Pow : FuncId := 305
abbrev F_ref03_at : FuncId := 306
abbrev F_sync_atomic_Bool_Load : FuncId := 311
abbrev F_field_sign : FuncId := 313
abbrev F_field_double : FuncId := 316
abbrev F_slices_Chunk_byte_byte_c1 : FuncId := 317
abbrev F_ghash_Hash_make : FuncId := 318
abbrev F_poly_Elem_plus : FuncId := 319
abbrev F_sync_atomic_LoadUint32 : FuncId := 324
abbrev F_sync_Mutex_Lock : FuncId := 325
abbrev F_field_Inv : FuncId := 328
abbrev F_field_Sum : FuncId := 329
abbrev F_field_turned : FuncId := 330
abbrev F_ghash_row_fill : FuncId := 331
abbrev F_internal_sync_Mutex_Lock : FuncId := 335
abbrev F_internal_sync_Mutex_Unlock : FuncId := 336
abbrev F_sync_atomic_StoreUint32 : FuncId := 337
abbrev F_poly_Elem_Next : FuncId := 339
abbrev F_internal_race_Disable : FuncId := 340
abbrev F_sync_atomic_CompareAndSwapInt32 : FuncId := 341
abbrev F_internal_race_Enable : FuncId := 342
abbrev F_internal_race_Acquire : FuncId := 343
abbrev F_internal_race_ReleaseMerge : FuncId := 345
abbrev F_sync_atomic_AddInt32 : FuncId := 346
abbrev T_int : TypeId := 3
abbrev T_bool : TypeId := 4
abbrev T_uint8 : TypeId := 5
abbrev T_A16_uint8 : TypeId := 22
abbrev T_S_uint8 : TypeId := 25
abbrev T_S_S_uint8 : TypeId := 45
abbrev T_head_Head : TypeId := 74
abbrev T_stamp_Retry : TypeId := 76
abbrev T_ref10_Head : TypeId := 79
abbrev T_ref12_Retry : TypeId := 81
abbrev T_uint64 : TypeId := 88
abbrev T_initial_Initial : TypeId := 127
abbrev T_aes_block : TypeId := 319
abbrev T_A11_aes_block : TypeId := 320
abbrev T_aes_word : TypeId := 334
abbrev T_poly_Elem : TypeId := 339
abbrev T_ghash_row : TypeId := 352
abbrev T_A32_ghash_row : TypeId := 353
abbrev T_S_ref04_Poly : TypeId := 362
abbrev T_ref04_Poly : TypeId := 366
abbrev T_S_field_table : TypeId := 375
abbrev T_S_poly_Elem : TypeId := 388
abbrev T_S_S_poly_Elem : TypeId := 408
abbrev T_A255_bool : TypeId := 416
end Go.Sh
end

section
namespace Go.Sh
open Go Go.Fw Go.Proofs
set_option maxRecDepth 100000
theorem sync_atomic_AddInt64_c {b n o : Nat} {g : Nat → Value} {x y : Int} {w : World} (hB : Blk w b n g) (ho : o < n) (hv : g o = .int .i64 x) {K : Value → World → Prop} (h : ∀ w', Fr [b] w w' → Blk w' b n (upd g o (.int .i64 (IntKind.i64.wrap (x + y)))) → w'.heap.size = w.heap.size → K (.int .i64 (IntKind.i64.wrap (x + y))) w') : callF Tryz.prog F_sync_atomic_AddInt64 #[.pointer (some ⟨b, o, none⟩), .int .i64 y] w K := add_c Tryz.func218 (by kernel_rfl) (by kernel_rfl) (by kernel_rfl) .i64 (by kernel_rfl) hB ho hv h
theorem sync_atomic_LoadUint32_c {b n o : Nat} {g : Nat → Value} {x : Int} {w : World} (hB : Blk w b n g) (ho : o < n) (hv : g o = .int .u32 x) {K : Value → World → Prop} (h : K (.int .u32 x) w) : callF Tryz.prog F_sync_atomic_LoadUint32 #[.pointer (some ⟨b, o, none⟩)] w K := load_c Tryz.func324 (by kernel_rfl) (by kernel_rfl) (by kernel_rfl) .u32 (by kernel_rfl) hB ho hv h
theorem sync_atomic_StoreUint32_c {b n o : Nat} {g : Nat → Value} {y : Int} {w : World} (hB : Blk w b n g) (ho : o < n) {K : Value → World → Prop} (h : ∀ w', Fr [b] w w' → Blk w' b n (upd g o (.int .u32 y)) → w'.heap.size = w.heap.size → K (.tuple #[]) w') : callF Tryz.prog F_sync_atomic_StoreUint32 #[.pointer (some ⟨b, o, none⟩), .int .u32 y] w K := storeA_c Tryz.func337 (by kernel_rfl) (by kernel_rfl) (by kernel_rfl) (by kernel_rfl) hB ho h
theorem internal_race_Disable_c {w : World} {K : Value → World → Prop} (h : K (.tuple #[]) w) : callF Tryz.prog F_internal_race_Disable #[] w K := mark0_c Tryz.func340 (by kernel_rfl) (by kernel_rfl) (by kernel_rfl) .disable (by kernel_rfl) h
theorem sync_atomic_CompareAndSwapInt32_c {b n o : Nat} {g : Nat → Value} {x y : Int} {w : World} (hB : Blk w b n g) (ho : o < n) (hv : g o = .int .i32 x) {K : Value → World → Prop} (h : ∀ w', Fr [b] w w' → Blk w' b n (upd g o (.int .i32 y)) → w'.heap.size = w.heap.size → K (.bool true) w') : callF Tryz.prog F_sync_atomic_CompareAndSwapInt32 #[.pointer (some ⟨b, o, none⟩), .int .i32 x, .int .i32 y] w K := cas_c Tryz.func341 (by kernel_rfl) (by kernel_rfl) (by kernel_rfl) .i32 (by kernel_rfl) hB ho hv h
theorem internal_race_Enable_c {w : World} {K : Value → World → Prop} (h : K (.tuple #[]) w) : callF Tryz.prog F_internal_race_Enable #[] w K := mark0_c Tryz.func342 (by kernel_rfl) (by kernel_rfl) (by kernel_rfl) .enable (by kernel_rfl) h
theorem internal_race_Acquire_c {a : Addr} {w : World} {K : Value → World → Prop} (h : K (.tuple #[]) w) : callF Tryz.prog F_internal_race_Acquire #[.pointer (some a)] w K := marked_c Tryz.func343 (by kernel_rfl) (by kernel_rfl) (by kernel_rfl) .acquire (by kernel_rfl) h
theorem internal_race_ReleaseMerge_c {a : Addr} {w : World} {K : Value → World → Prop} (h : K (.tuple #[]) w) : callF Tryz.prog F_internal_race_ReleaseMerge #[.pointer (some a)] w K := marked_c Tryz.func345 (by kernel_rfl) (by kernel_rfl) (by kernel_rfl) .releaseMerge (by kernel_rfl) h
theorem sync_atomic_AddInt32_c {b n o : Nat} {g : Nat → Value} {x y : Int} {w : World} (hB : Blk w b n g) (ho : o < n) (hv : g o = .int .i32 x) {K : Value → World → Prop} (h : ∀ w', Fr [b] w w' → Blk w' b n (upd g o (.int .i32 (IntKind.i32.wrap (x + y)))) → w'.heap.size = w.heap.size → K (.int .i32 (IntKind.i32.wrap (x + y))) w') : callF Tryz.prog F_sync_atomic_AddInt32 #[.pointer (some ⟨b, o, none⟩), .int .i32 y] w K := add_c Tryz.func346 (by kernel_rfl) (by kernel_rfl) (by kernel_rfl) .i32 (by kernel_rfl) hB ho hv h
end Go.Sh
end

section
namespace Go.Sh
open Go Go.Fw Go.Proofs
set_option maxRecDepth 100000
set_option linter.unusedVariables false
def sync_atomic_Int64_Add (p0 : Option Addr) (n1 : Int) (w : World) (Q : Value → World → Prop) : Prop :=
  ∃ a6, p0 = some a6 ∧
  callF Tryz.prog 218 #[.pointer (some (a6.add 0)), .int .i64 n1] w fun r9 w1 =>
  ∃ n9, r9 = .int .i64 n9 ∧
  Q (.int .i64 n9) w1
def sync_atomic_Int64_Add_tt : Nat → List (Nat × TypeId) := fun _ => []
theorem sync_atomic_Int64_Add_call (p0 : Option Addr) (n1 : Int) (w : World) (Q : Value → World → Prop) (h : sync_atomic_Int64_Add p0 n1 w Q) : callF Tryz.prog 163 #[.pointer p0, .int .i64 n1] w Q :=
  callBy sync_atomic_Int64_Add_tt Tryz.func163 h (fun _ _ => by kernel_rfl) (by kernel_rfl) (by kernel_rfl) (by kernel_rfl)
def sync_atomic_Bool_Load (p0 : Option Addr) (w : World) (Q : Value → World → Prop) : Prop :=
  ∃ a4, p0 = some a4 ∧
  callF Tryz.prog 324 #[.pointer (some (a4.add 0))] w fun r6 w1 =>
  ∃ n6, r6 = .int .u32 n6 ∧
  Q (.bool (n6 != 0)) w1
def sync_atomic_Bool_Load_tt : Nat → List (Nat × TypeId) := fun _ => []
theorem sync_atomic_Bool_Load_call (p0 : Option Addr) (w : World) (Q : Value → World → Prop) (h : sync_atomic_Bool_Load p0 w Q) : callF Tryz.prog 311 #[.pointer p0] w Q :=
  callBy sync_atomic_Bool_Load_tt Tryz.func311 h (fun _ _ => by kernel_rfl) (by kernel_rfl) (by kernel_rfl) (by kernel_rfl)
def sync_atomic_Bool_Store (p0 : Option Addr) (b1 : Bool) (w : World) (Q : Value → World → Prop) : Prop :=
  Drw w fun w1 =>
  ∃ a5, p0 = some a5 ∧
  callF Tryz.prog 338 #[.bool b1] w1 fun r8 w2 =>
  ∃ n8, r8 = .int .u32 n8 ∧
  callF Tryz.prog 337 #[.pointer (some (a5.add 0)), .int .u32 n8] w2 fun r9 w3 =>
  r9 = .tuple #[] ∧
  Q (.tuple #[]) w3
def sync_atomic_Bool_Store_tt : Nat → List (Nat × TypeId) := fun _ => []
theorem sync_atomic_Bool_Store_calld (p0 : Option Addr) (b1 : Bool) (w : World) (K : World → Prop) (h : sync_atomic_Bool_Store p0 b1 w (fun _ w => K w)) : callDF Tryz.prog 327 #[.pointer p0, .bool b1] w K :=
  ⟨fun _ _ => by kernel_rfl, callD_of_sw sync_atomic_Bool_Store_tt Tryz.func327 rfl (by kernel_rfl) (show sw Tryz.prog none 10 sync_atomic_Bool_Store_tt _ 0 (endD Tryz.prog [] K) ⟨regs [.pointer p0, .bool b1], []⟩ w from
    Eq.mp (by kernel_rfl : sync_atomic_Bool_Store p0 b1 w (fun _ w => K w) = sw Tryz.prog none 10 sync_atomic_Bool_Store_tt (Tryz.f327.body.getD .skip) 0 (endD Tryz.prog [] K) ⟨regs [.pointer p0, .bool b1], []⟩ w) h)⟩
def sync_atomic_b32 (b0 : Bool) (w : World) (Q : Value → World → Prop) : Prop :=
  cond b0
  (Q (.int .u32 1) w)
  (Q (.int .u32 0) w)
def sync_atomic_b32_tt : Nat → List (Nat × TypeId) := fun _ => []
theorem sync_atomic_b32_call (b0 : Bool) (w : World) (Q : Value → World → Prop) (h : sync_atomic_b32 b0 w Q) : callF Tryz.prog 338 #[.bool b0] w Q :=
  callBy sync_atomic_b32_tt Tryz.func338 h (fun _ _ => by kernel_rfl) (by kernel_rfl) (by kernel_rfl) (by kernel_rfl)
end Go.Sh
end

section
namespace Go.Sh
open Go Go.Fw Go.Proofs
set_option maxRecDepth 100000
set_option linter.unusedVariables false
def internal_sync_Mutex_Lock (p0 : Option Addr) (w : World) (Q : Value → World → Prop) : Prop :=
  callF Tryz.prog 340 #[] w fun r2 w1 =>
  r2 = .tuple #[] ∧
  ∃ a4, p0 = some a4 ∧
  callF Tryz.prog 341 #[.pointer (some (a4.add 0)), .int .i32 0, .int .i32 1] w1 fun r6 w2 =>
  ∃ b6, r6 = .bool b6 ∧
  cond b6
  (callF Tryz.prog 342 #[] w2 fun r7 w3 =>
    r7 = .tuple #[] ∧
    ∃ v9 w4, Ef Tryz.prog (convert 433 437 (.pointer p0)) w3 (v9) w4 ∧
    callF Tryz.prog 343 #[v9] w4 fun r10 w5 =>
    r10 = .tuple #[] ∧
    Q (.tuple #[]) w5)
  (callF Tryz.prog 344 #[.pointer p0] w2 fun r12 w6 =>
    r12 = .tuple #[] ∧
    Q (.tuple #[]) w6)
def internal_sync_Mutex_Lock_tt : Nat → List (Nat × TypeId) := fun _ => []
theorem internal_sync_Mutex_Lock_call (p0 : Option Addr) (w : World) (Q : Value → World → Prop) (h : internal_sync_Mutex_Lock p0 w Q) : callF Tryz.prog 335 #[.pointer p0] w Q :=
  callBy internal_sync_Mutex_Lock_tt Tryz.func335 h (fun _ _ => by kernel_rfl) (by kernel_rfl) (by kernel_rfl) (by kernel_rfl)
def internal_sync_Mutex_Unlock_j1 (p0 : Option Addr) (w : World) (Q : Value → World → Prop) : Prop :=
  ∃ a12, p0 = some a12 ∧
  callF Tryz.prog 346 #[.pointer (some (a12.add 0)), .int .i32 (-1)] w fun r14 w1 =>
  ∃ n14, r14 = .int .i32 n14 ∧
  cond (n14 != 0)
  (callF Tryz.prog 347 #[.pointer p0, .int .i32 n14] w1 fun r19 w2 =>
    r19 = .tuple #[] ∧
    callF Tryz.prog 342 #[] w2 fun r20 w3 =>
    r20 = .tuple #[] ∧
    Q (.tuple #[]) w3)
  (callF Tryz.prog 342 #[] w1 fun r20_1 w4 =>
    r20_1 = .tuple #[] ∧
    Q (.tuple #[]) w4)
def internal_sync_Mutex_Unlock (p0 : Option Addr) (w : World) (Q : Value → World → Prop) : Prop :=
  ∃ a4, p0 = some a4 ∧
  ∃ n6, Ld Tryz.prog 21 (.pointer (some (a4.add 0))) w (.int .i32 n6) ∧
  ∃ v8 w1, Ef Tryz.prog (convert 433 437 (.pointer p0)) w (v8) w1 ∧
  callF Tryz.prog 345 #[v8] w1 fun r9 w2 =>
  r9 = .tuple #[] ∧
  callF Tryz.prog 340 #[] w2 fun r10 w3 =>
  r10 = .tuple #[] ∧
  internal_sync_Mutex_Unlock_j1 p0 w3 Q
def internal_sync_Mutex_Unlock_tt : Nat → List (Nat × TypeId) := fun _ => []
theorem internal_sync_Mutex_Unlock_call (p0 : Option Addr) (w : World) (Q : Value → World → Prop) (h : internal_sync_Mutex_Unlock p0 w Q) : callF Tryz.prog 336 #[.pointer p0] w Q :=
  callBy internal_sync_Mutex_Unlock_tt Tryz.func336 h (fun _ _ => by kernel_rfl) (by kernel_rfl) (by kernel_rfl) (by kernel_rfl)
end Go.Sh
end

section
namespace Go.Sh
open Go Go.Fw Go.Proofs
set_option maxRecDepth 100000
set_option linter.unusedVariables false
def sync_Once_Do (p0 : Option Addr) (v1 : Value) (w : World) (Q : Value → World → Prop) : Prop :=
  ∃ a5, p0 = some a5 ∧
  callF Tryz.prog 311 #[.pointer (some (a5.add 0))] w fun r7 w1 =>
  ∃ b7, r7 = .bool b7 ∧
  cond (!b7)
  (callF Tryz.prog 312 #[.pointer p0, v1] w1 fun r11 w2 =>
    r11 = .tuple #[] ∧
    Q (.tuple #[]) w2)
  (Q (.tuple #[]) w1)
def sync_Once_Do_tt : Nat → List (Nat × TypeId) := fun _ => []
theorem sync_Once_Do_call (p0 : Option Addr) (v1 : Value) (w : World) (Q : Value → World → Prop) (h : sync_Once_Do p0 v1 w Q) : callF Tryz.prog 293 #[.pointer p0, v1] w Q :=
  callBy sync_Once_Do_tt Tryz.func293 h (fun _ _ => by kernel_rfl) (by kernel_rfl) (by kernel_rfl) (by kernel_rfl)
def sync_Once_doSlow (p0 : Option Addr) (v1 : Value) (w : World) (Q : Value → World → Prop) : Prop :=
  ∃ a5, p0 = some a5 ∧
  callF Tryz.prog 325 #[.pointer (some (a5.add 1))] w fun r7 w1 =>
  r7 = .tuple #[] ∧
  ∃ a9, p0 = some a9 ∧
  ∃ a12, p0 = some a12 ∧
  callF Tryz.prog 311 #[.pointer (some (a12.add 0))] w1 fun r14 w2 =>
  ∃ b14, r14 = .bool b14 ∧
  cond (!b14)
  (∃ a17, p0 = some a17 ∧
    callV Tryz.prog (v1) [] w2 fun r20 w3 =>
    r20 = .tuple #[] ∧
    callDF Tryz.prog 327 #[.pointer (some (a17.add 0)), .bool true] w3 fun w4 =>
    callDF Tryz.prog 326 #[.pointer (some (a9.add 1))] w4 fun w5 =>
    Q (.tuple #[]) w5)
  (callDF Tryz.prog 326 #[.pointer (some (a9.add 1))] w2 fun w6 =>
    Q (.tuple #[]) w6)
def sync_Once_doSlow_tt : Nat → List (Nat × TypeId) := fun _ => []
theorem sync_Once_doSlow_call (p0 : Option Addr) (v1 : Value) (w : World) (Q : Value → World → Prop) (h : sync_Once_doSlow p0 v1 w Q) : callF Tryz.prog 312 #[.pointer p0, v1] w Q :=
  callBy sync_Once_doSlow_tt Tryz.func312 h (fun _ _ => by kernel_rfl) (by kernel_rfl) (by kernel_rfl) (by kernel_rfl)
def sync_Mutex_Lock (p0 : Option Addr) (w : World) (Q : Value → World → Prop) : Prop :=
  ∃ a3, p0 = some a3 ∧
  callF Tryz.prog 335 #[.pointer (some (a3.add 0))] w fun r5 w1 =>
  r5 = .tuple #[] ∧
  Q (.tuple #[]) w1
def sync_Mutex_Lock_tt : Nat → List (Nat × TypeId) := fun _ => []
theorem sync_Mutex_Lock_call (p0 : Option Addr) (w : World) (Q : Value → World → Prop) (h : sync_Mutex_Lock p0 w Q) : callF Tryz.prog 325 #[.pointer p0] w Q :=
  callBy sync_Mutex_Lock_tt Tryz.func325 h (fun _ _ => by kernel_rfl) (by kernel_rfl) (by kernel_rfl) (by kernel_rfl)
def sync_Mutex_Unlock (p0 : Option Addr) (w : World) (Q : Value → World → Prop) : Prop :=
  ∃ a3, p0 = some a3 ∧
  callF Tryz.prog 336 #[.pointer (some (a3.add 0))] w fun r5 w1 =>
  r5 = .tuple #[] ∧
  Q (.tuple #[]) w1
def sync_Mutex_Unlock_tt : Nat → List (Nat × TypeId) := fun _ => []
theorem sync_Mutex_Unlock_calld (p0 : Option Addr) (w : World) (K : World → Prop) (h : sync_Mutex_Unlock p0 w (fun _ w => K w)) : callDF Tryz.prog 326 #[.pointer p0] w K :=
  ⟨fun _ _ => by kernel_rfl, callD_of_sw sync_Mutex_Unlock_tt Tryz.func326 rfl (by kernel_rfl) (show sw Tryz.prog none 6 sync_Mutex_Unlock_tt _ 0 (endD Tryz.prog [] K) ⟨regs [.pointer p0], []⟩ w from
    Eq.mp (by kernel_rfl : sync_Mutex_Unlock p0 w (fun _ w => K w) = sw Tryz.prog none 6 sync_Mutex_Unlock_tt (Tryz.f326.body.getD .skip) 0 (endD Tryz.prog [] K) ⟨regs [.pointer p0], []⟩ w) h)⟩
end Go.Sh
end

section
namespace Go.Sh
open Go Go.Fw Go.Proofs
set_option maxRecDepth 100000
set_option linter.unusedVariables false
def slices_Clone_byte_byte (p0 : Option Addr) (l0 : Nat) (c0 : Nat) (w : World) (Q : Value → World → Prop) : Prop :=
  ∃ b4 w1, Ef Tryz.prog (do eqGuard .eql 25 (.tmp 3) (.const (.slice none 0 0)) (.slice p0 l0 c0) (.slice none 0 0); binOp .eql 25 (.slice p0 l0 c0) (.slice none 0 0) : Sem Value) w (.bool b4) w1 ∧
  cond b4
  (Q (.slice none 0 0) w1)
  (∃ p5 l5 c5 w2, Ef Tryz.prog (Instr.buildSlice 25 0 #[]) w1 (.slice p5 l5 c5) w2 ∧
    ∃ p7 l7 c7 w3, Ef Tryz.prog (Builtin.append_ #[25, 25] 25 #[.slice p5 l5 c5, .slice p0 l0 c0]) w2 (.slice p7 l7 c7) w3 ∧
    Q (.slice p7 l7 c7) w3)
def slices_Clone_byte_byte_tt : Nat → List (Nat × TypeId) := fun _ => []
theorem slices_Clone_byte_byte_call (p0 : Option Addr) (l0 : Nat) (c0 : Nat) (w : World) (Q : Value → World → Prop) (h : slices_Clone_byte_byte p0 l0 c0 w Q) : callF Tryz.prog 102 #[.slice p0 l0 c0] w Q :=
  callBy slices_Clone_byte_byte_tt Tryz.func102 h (fun _ _ => by kernel_rfl) (by kernel_rfl) (by kernel_rfl) (by kernel_rfl)
def slices_Concat_byte_byte_j1 (p0 : Option Addr) (l0 : Nat) (c0 : Nat) (p2 : Option Addr) (l2 : Nat) (c2 : Nat) (n3 : Int) (w : World) (Q : Value → World → Prop) : Prop :=
  callF Tryz.prog 237 #[.slice none 0 0, .int .i64 n3] w fun r24 w1 =>
  ∃ p24 l24 c24, r24 = .slice p24 l24 c24 ∧
  LoopS [.slice p2 l2 c2, .slice p24 l24 c24, .slice p0 l0 c0, .int .i64 ((l0 : Nat) : Int), .int .i64 0] w1 fun I2 μ2 us2 _ wl2 =>
  ∃ p2_1 l2_1 c2_1 p6 l6 c6 p25 l25 c25 n26 n27, us2 = [.slice p2_1 l2_1 c2_1, .slice p6 l6 c6, .slice p25 l25 c25, .int .i64 n26, .int .i64 n27] ∧
  cond (decide (n27 < n26))
  (∃ a29, IxA Tryz.prog 45 (.slice p25 l25 c25) (.int .i64 n27) a29 ∧
    ∃ p30 l30 c30, Ld Tryz.prog 25 (.pointer (some a29)) wl2 (.slice p30 l30 c30) ∧
    ∃ p33 l33 c33 w2, Ef Tryz.prog (Builtin.append_ #[25, 25] 25 #[.slice p6 l6 c6, .slice p30 l30 c30]) wl2 (.slice p33 l33 c33) w2 ∧
    goesOn [] [] I2 μ2 us2 [.slice p2_1 l2_1 c2_1, .slice p33 l33 c33, .slice p25 l25 c25, .int .i64 n26, .int .i64 (IntKind.i64.wrap (n27 + 1))] wl2 w2)
  (Q (.slice p6 l6 c6) wl2)
def slices_Concat_byte_byte (p0 : Option Addr) (l0 : Nat) (c0 : Nat) (w : World) (Q : Value → World → Prop) : Prop :=
  LoopS [.slice p0 l0 c0, .slice none 0 0, .int .i64 0, .slice p0 l0 c0, .int .i64 ((l0 : Nat) : Int), .int .i64 0] w fun I1 μ1 us1 _ wl1 =>
  ∃ p0_1 l0_1 c0_1 p2 l2 c2 n3 p9 l9 c9 n10 n11, us1 = [.slice p0_1 l0_1 c0_1, .slice p2 l2 c2, .int .i64 n3, .slice p9 l9 c9, .int .i64 n10, .int .i64 n11] ∧
  cond (decide (n11 < n10))
  (∃ a13, IxA Tryz.prog 45 (.slice p9 l9 c9) (.int .i64 n11) a13 ∧
    ∃ p14 l14 c14, Ld Tryz.prog 25 (.pointer (some a13)) wl1 (.slice p14 l14 c14) ∧
    cond (decide ((IntKind.i64.wrap (n3 + ((l14 : Nat) : Int))) < 0))
    (∃ v21 w1, Ef Tryz.prog (Instr.makeInterface 9 (.string (⟨#[108, 101, 110, 32, 111, 117, 116, 32, 111, 102, 32, 114, 97, 110, 103, 101]⟩ : ByteArray))) wl1 (v21) w1 ∧
      False)
    (goesOn [] [] I1 μ1 us1 [.slice p0_1 l0_1 c0_1, .slice p2 l2 c2, .int .i64 (IntKind.i64.wrap (n3 + ((l14 : Nat) : Int))), .slice p9 l9 c9, .int .i64 n10, .int .i64 (IntKind.i64.wrap (n11 + 1))] wl1 wl1))
  (slices_Concat_byte_byte_j1 p0_1 l0_1 c0_1 p2 l2 c2 n3 wl1 Q)
def slices_Concat_byte_byte_tt : Nat → List (Nat × TypeId) := fun n => match n with | 0 => [(0, 45), (2, 25), (3, 3), (9, 45), (10, 3), (11, 3)] | 2 => [(2, 25), (6, 25), (25, 45), (26, 3), (27, 3)] | _ => []
theorem slices_Concat_byte_byte_call (p0 : Option Addr) (l0 : Nat) (c0 : Nat) (w : World) (Q : Value → World → Prop) (h : slices_Concat_byte_byte p0 l0 c0 w Q) : callF Tryz.prog 188 #[.slice p0 l0 c0] w Q :=
  callBy slices_Concat_byte_byte_tt Tryz.func188 h (fun _ _ => by kernel_rfl) (by kernel_rfl) (by kernel_rfl) (by kernel_rfl)
def slices_Grow_byte_byte_j1 (p0 : Option Addr) (l0 : Nat) (c0 : Nat) (n1 : Int) (p4 : Option Addr) (l4 : Nat) (c4 : Nat) (w : World) (Q : Value → World → Prop) : Prop :=
  ∃ n10, Pu Tryz.prog (Builtin.cap_ #[25] 3 #[.slice p0 l0 c0]) (.int .i64 n10) ∧
  cond (decide ((IntKind.i64.wrap (n1 - (IntKind.i64.wrap (n10 - ((l0 : Nat) : Int))))) > 0))
  (∃ n19, Pu Tryz.prog (Builtin.cap_ #[25] 3 #[.slice p0 l0 c0]) (.int .i64 n19) ∧
    ∃ p20 l20 c20, Pu Tryz.prog (Instr.sliceAt 25 (.slice p0 l0 c0) none (some (.int .i64 n19)) none) (.slice p20 l20 c20) ∧
    ∃ p22 l22 c22 w1, Ef Tryz.prog (Builtin.append_ #[25, 3] 25 #[.slice p20 l20 c20, .int .i64 (IntKind.i64.wrap (n1 - (IntKind.i64.wrap (n10 - ((l0 : Nat) : Int)))))]) w (.slice p22 l22 c22) w1 ∧
    ∃ p25 l25 c25, Pu Tryz.prog (Instr.sliceAt 25 (.slice p22 l22 c22) none (some (.int .i64 ((l0 : Nat) : Int))) none) (.slice p25 l25 c25) ∧
    Q (.slice p25 l25 c25) w1)
  (Q (.slice p0 l0 c0) w)
def slices_Grow_byte_byte (p0 : Option Addr) (l0 : Nat) (c0 : Nat) (n1 : Int) (w : World) (Q : Value → World → Prop) : Prop :=
  cond (decide (n1 < 0))
  (∃ v7 w1, Ef Tryz.prog (Instr.makeInterface 9 (.string (⟨#[99, 97, 110, 110, 111, 116, 32, 98, 101, 32, 110, 101, 103, 97, 116, 105, 118, 101]⟩ : ByteArray))) w (v7) w1 ∧
    False)
  (slices_Grow_byte_byte_j1 p0 l0 c0 n1 none 0 0 w Q)
def slices_Grow_byte_byte_tt : Nat → List (Nat × TypeId) := fun _ => []
theorem slices_Grow_byte_byte_call (p0 : Option Addr) (l0 : Nat) (c0 : Nat) (n1 : Int) (w : World) (Q : Value → World → Prop) (h : slices_Grow_byte_byte p0 l0 c0 n1 w Q) : callF Tryz.prog 237 #[.slice p0 l0 c0, .int .i64 n1] w Q :=
  callBy slices_Grow_byte_byte_tt Tryz.func237 h (fun _ _ => by kernel_rfl) (by kernel_rfl) (by kernel_rfl) (by kernel_rfl)
def slices_ContainsFunc_byte_byte (p0 : Option Addr) (l0 : Nat) (c0 : Nat) (v1 : Value) (w : World) (Q : Value → World → Prop) : Prop :=
  callF Tryz.prog 271 #[.slice p0 l0 c0, v1] w fun r7 w1 =>
  ∃ n7, r7 = .int .i64 n7 ∧
  Q (.bool (decide (n7 ≥ 0))) w1
def slices_ContainsFunc_byte_byte_tt : Nat → List (Nat × TypeId) := fun _ => []
theorem slices_ContainsFunc_byte_byte_call (p0 : Option Addr) (l0 : Nat) (c0 : Nat) (v1 : Value) (w : World) (Q : Value → World → Prop) (h : slices_ContainsFunc_byte_byte p0 l0 c0 v1 w Q) : callF Tryz.prog 245 #[.slice p0 l0 c0, v1] w Q :=
  callBy slices_ContainsFunc_byte_byte_tt Tryz.func245 h (fun _ _ => by kernel_rfl) (by kernel_rfl) (by kernel_rfl) (by kernel_rfl)
def slices_IndexFunc_byte_byte (p0 : Option Addr) (l0 : Nat) (c0 : Nat) (v1 : Value) (w : World) (Q : Value → World → Prop) : Prop :=
  LoopS [.slice p0 l0 c0, v1, .int .i64 0, .int .i64 ((l0 : Nat) : Int), .int .i64 0] w fun I1 μ1 us1 _ wl1 =>
  ∃ p0_1 l0_1 c0_1 v1_1 n4 n7 n8, us1 = [.slice p0_1 l0_1 c0_1, v1_1, .int .i64 n4, .int .i64 n7, .int .i64 n8] ∧
  cond (decide (n8 < n7))
  (∃ a14, IxA Tryz.prog 45 (.slice p0_1 l0_1 c0_1) (.int .i64 n8) a14 ∧
    ∃ p15 l15 c15, Ld Tryz.prog 25 (.pointer (some a14)) wl1 (.slice p15 l15 c15) ∧
    callV Tryz.prog (v1_1) [.slice p15 l15 c15] wl1 fun r16 w1 =>
    ∃ b16, r16 = .bool b16 ∧
    cond b16
    (Q (.int .i64 n8) w1)
    (goesOn [] [] I1 μ1 us1 [.slice p0_1 l0_1 c0_1, v1_1, .int .i64 n4, .int .i64 n7, .int .i64 (IntKind.i64.wrap (n8 + 1))] wl1 w1))
  (Q (.int .i64 (-1)) wl1)
def slices_IndexFunc_byte_byte_tt : Nat → List (Nat × TypeId) := fun n => match n with | 0 => [(0, 45), (1, 50), (4, 3), (7, 3), (8, 3)] | _ => []
theorem slices_IndexFunc_byte_byte_call (p0 : Option Addr) (l0 : Nat) (c0 : Nat) (v1 : Value) (w : World) (Q : Value → World → Prop) (h : slices_IndexFunc_byte_byte p0 l0 c0 v1 w Q) : callF Tryz.prog 271 #[.slice p0 l0 c0, v1] w Q :=
  callBy slices_IndexFunc_byte_byte_tt Tryz.func271 h (fun _ _ => by kernel_rfl) (by kernel_rfl) (by kernel_rfl) (by kernel_rfl)
def slices_Concat_poly_Elem_poly_Elem_j1 (p0 : Option Addr) (l0 : Nat) (c0 : Nat) (p2 : Option Addr) (l2 : Nat) (c2 : Nat) (n3 : Int) (w : World) (Q : Value → World → Prop) : Prop :=
  callF Tryz.prog 301 #[.slice none 0 0, .int .i64 n3] w fun r24 w1 =>
  ∃ p24 l24 c24, r24 = .slice p24 l24 c24 ∧
  LoopS [.slice p2 l2 c2, .slice p24 l24 c24, .slice p0 l0 c0, .int .i64 ((l0 : Nat) : Int), .int .i64 0] w1 fun I2 μ2 us2 _ wl2 =>
  ∃ p2_1 l2_1 c2_1 p6 l6 c6 p25 l25 c25 n26 n27, us2 = [.slice p2_1 l2_1 c2_1, .slice p6 l6 c6, .slice p25 l25 c25, .int .i64 n26, .int .i64 n27] ∧
  cond (decide (n27 < n26))
  (∃ a29, IxA Tryz.prog 408 (.slice p25 l25 c25) (.int .i64 n27) a29 ∧
    ∃ p30 l30 c30, Ld Tryz.prog 388 (.pointer (some a29)) wl2 (.slice p30 l30 c30) ∧
    ∃ p33 l33 c33 w2, Ef Tryz.prog (Builtin.append_ #[388, 388] 388 #[.slice p6 l6 c6, .slice p30 l30 c30]) wl2 (.slice p33 l33 c33) w2 ∧
    goesOn [] [] I2 μ2 us2 [.slice p2_1 l2_1 c2_1, .slice p33 l33 c33, .slice p25 l25 c25, .int .i64 n26, .int .i64 (IntKind.i64.wrap (n27 + 1))] wl2 w2)
  (Q (.slice p6 l6 c6) wl2)
def slices_Concat_poly_Elem_poly_Elem (p0 : Option Addr) (l0 : Nat) (c0 : Nat) (w : World) (Q : Value → World → Prop) : Prop :=
  LoopS [.slice p0 l0 c0, .slice none 0 0, .int .i64 0, .slice p0 l0 c0, .int .i64 ((l0 : Nat) : Int), .int .i64 0] w fun I1 μ1 us1 _ wl1 =>
  ∃ p0_1 l0_1 c0_1 p2 l2 c2 n3 p9 l9 c9 n10 n11, us1 = [.slice p0_1 l0_1 c0_1, .slice p2 l2 c2, .int .i64 n3, .slice p9 l9 c9, .int .i64 n10, .int .i64 n11] ∧
  cond (decide (n11 < n10))
  (∃ a13, IxA Tryz.prog 408 (.slice p9 l9 c9) (.int .i64 n11) a13 ∧
    ∃ p14 l14 c14, Ld Tryz.prog 388 (.pointer (some a13)) wl1 (.slice p14 l14 c14) ∧
    cond (decide ((IntKind.i64.wrap (n3 + ((l14 : Nat) : Int))) < 0))
    (∃ v21 w1, Ef Tryz.prog (Instr.makeInterface 9 (.string (⟨#[108, 101, 110, 32, 111, 117, 116, 32, 111, 102, 32, 114, 97, 110, 103, 101]⟩ : ByteArray))) wl1 (v21) w1 ∧
      False)
    (goesOn [] [] I1 μ1 us1 [.slice p0_1 l0_1 c0_1, .slice p2 l2 c2, .int .i64 (IntKind.i64.wrap (n3 + ((l14 : Nat) : Int))), .slice p9 l9 c9, .int .i64 n10, .int .i64 (IntKind.i64.wrap (n11 + 1))] wl1 wl1))
  (slices_Concat_poly_Elem_poly_Elem_j1 p0_1 l0_1 c0_1 p2 l2 c2 n3 wl1 Q)
def slices_Concat_poly_Elem_poly_Elem_tt : Nat → List (Nat × TypeId) := fun n => match n with | 0 => [(0, 408), (2, 388), (3, 3), (9, 408), (10, 3), (11, 3)] | 2 => [(2, 388), (6, 388), (25, 408), (26, 3), (27, 3)] | _ => []
theorem slices_Concat_poly_Elem_poly_Elem_call (p0 : Option Addr) (l0 : Nat) (c0 : Nat) (w : World) (Q : Value → World → Prop) (h : slices_Concat_poly_Elem_poly_Elem p0 l0 c0 w Q) : callF Tryz.prog 274 #[.slice p0 l0 c0] w Q :=
  callBy slices_Concat_poly_Elem_poly_Elem_tt Tryz.func274 h (fun _ _ => by kernel_rfl) (by kernel_rfl) (by kernel_rfl) (by kernel_rfl)
def slices_Grow_poly_Elem_poly_Elem_j1 (p0 : Option Addr) (l0 : Nat) (c0 : Nat) (n1 : Int) (p4 : Option Addr) (l4 : Nat) (c4 : Nat) (w : World) (Q : Value → World → Prop) : Prop :=
  ∃ n10, Pu Tryz.prog (Builtin.cap_ #[388] 3 #[.slice p0 l0 c0]) (.int .i64 n10) ∧
  cond (decide ((IntKind.i64.wrap (n1 - (IntKind.i64.wrap (n10 - ((l0 : Nat) : Int))))) > 0))
  (∃ n19, Pu Tryz.prog (Builtin.cap_ #[388] 3 #[.slice p0 l0 c0]) (.int .i64 n19) ∧
    ∃ p20 l20 c20, Pu Tryz.prog (Instr.sliceAt 388 (.slice p0 l0 c0) none (some (.int .i64 n19)) none) (.slice p20 l20 c20) ∧
    ∃ p22 l22 c22 w1, Ef Tryz.prog (Builtin.append_ #[388, 3] 388 #[.slice p20 l20 c20, .int .i64 (IntKind.i64.wrap (n1 - (IntKind.i64.wrap (n10 - ((l0 : Nat) : Int)))))]) w (.slice p22 l22 c22) w1 ∧
    ∃ p25 l25 c25, Pu Tryz.prog (Instr.sliceAt 388 (.slice p22 l22 c22) none (some (.int .i64 ((l0 : Nat) : Int))) none) (.slice p25 l25 c25) ∧
    Q (.slice p25 l25 c25) w1)
  (Q (.slice p0 l0 c0) w)
def slices_Grow_poly_Elem_poly_Elem (p0 : Option Addr) (l0 : Nat) (c0 : Nat) (n1 : Int) (w : World) (Q : Value → World → Prop) : Prop :=
  cond (decide (n1 < 0))
  (∃ v7 w1, Ef Tryz.prog (Instr.makeInterface 9 (.string (⟨#[99, 97, 110, 110, 111, 116, 32, 98, 101, 32, 110, 101, 103, 97, 116, 105, 118, 101]⟩ : ByteArray))) w (v7) w1 ∧
    False)
  (slices_Grow_poly_Elem_poly_Elem_j1 p0 l0 c0 n1 none 0 0 w Q)
def slices_Grow_poly_Elem_poly_Elem_tt : Nat → List (Nat × TypeId) := fun _ => []
theorem slices_Grow_poly_Elem_poly_Elem_call (p0 : Option Addr) (l0 : Nat) (c0 : Nat) (n1 : Int) (w : World) (Q : Value → World → Prop) (h : slices_Grow_poly_Elem_poly_Elem p0 l0 c0 n1 w Q) : callF Tryz.prog 301 #[.slice p0 l0 c0, .int .i64 n1] w Q :=
  callBy slices_Grow_poly_Elem_poly_Elem_tt Tryz.func301 h (fun _ _ => by kernel_rfl) (by kernel_rfl) (by kernel_rfl) (by kernel_rfl)
def slices_Chunk_byte_byte (p0 : Option Addr) (l0 : Nat) (c0 : Nat) (n1 : Int) (w : World) (Q : Value → World → Prop) : Prop :=
  New #[.slice p0 l0 c0] 25 w fun k2 w1 =>
  New #[.int .i64 n1] 3 w1 fun k3 w2 =>
  ∃ n5, Ld Tryz.prog 3 (.pointer (some (⟨k3, 0, none⟩ : Addr))) w2 (.int .i64 n5) ∧
  cond (decide (n5 < 1))
  (∃ v7 w3, Ef Tryz.prog (Instr.makeInterface 9 (.string (⟨#[99, 97, 110, 110, 111, 116, 32, 98, 101, 32, 108, 101, 115, 115, 32, 116, 104, 97, 110, 32, 49]⟩ : ByteArray))) w2 (v7) w3 ∧
    False)
  (Q (.func (.func 317) #[] #[.pointer (some (⟨k2, 0, none⟩ : Addr)), .pointer (some (⟨k3, 0, none⟩ : Addr))]) w2)
def slices_Chunk_byte_byte_tt : Nat → List (Nat × TypeId) := fun _ => []
theorem slices_Chunk_byte_byte_call (p0 : Option Addr) (l0 : Nat) (c0 : Nat) (n1 : Int) (w : World) (Q : Value → World → Prop) (h : slices_Chunk_byte_byte p0 l0 c0 n1 w Q) : callF Tryz.prog 302 #[.slice p0 l0 c0, .int .i64 n1] w Q :=
  callBy slices_Chunk_byte_byte_tt Tryz.func302 h (fun _ _ => by kernel_rfl) (by kernel_rfl) (by kernel_rfl) (by kernel_rfl)
def slices_Chunk_byte_byte_c1 (v0 : Value) (p1 : Option Addr) (p2 : Option Addr) (w : World) (Q : Value → World → Prop) : Prop :=
  LoopS [v0, .pointer p1, .pointer p2, .int .i64 0] w fun I1 μ1 us1 _ wl1 =>
  ∃ v0_1 p1_1 p2_1 n4, us1 = [v0_1, .pointer p1_1, .pointer p2_1, .int .i64 n4] ∧
  ∃ p7 l7 c7, Ld Tryz.prog 25 (.pointer p1_1) wl1 (.slice p7 l7 c7) ∧
  cond (decide (n4 < ((l7 : Nat) : Int)))
  (∃ (S3 : World → Prop),
    Drw wl1 fun w1 =>
    ∃ n13, HLd Tryz.prog S3 3 (.pointer p2_1) w1 (.int .i64 n13) ∧
    ∃ p14 l14 c14, Ld Tryz.prog 25 (.pointer p1_1) w1 (.slice p14 l14 c14) ∧
    (w1 = w1 ∨ S3 w1) ∧
    ∃ p16 l16 c16, Pu Tryz.prog (Instr.sliceAt 25 (.slice p14 l14 c14) (some (.int .i64 n4)) none none) (.slice p16 l16 c16) ∧
    ∃ n18, Pu Tryz.prog (Builtin.min_ #[3, 3] 3 #[.int .i64 n13, .int .i64 ((l16 : Nat) : Int)]) (.int .i64 n18) ∧
    ∃ p20 l20 c20, Ld Tryz.prog 25 (.pointer p1_1) w1 (.slice p20 l20 c20) ∧
    ∃ p28 l28 c28, Pu Tryz.prog (Instr.sliceAt 25 (.slice p20 l20 c20) (some (.int .i64 n4)) (some (.int .i64 (IntKind.i64.wrap (n4 + n18)))) (some (.int .i64 (IntKind.i64.wrap (n4 + n18))))) (.slice p28 l28 c28) ∧
    callV Tryz.prog (v0_1) [.slice p28 l28 c28] w1 fun r29 w2 =>
    ∃ b29, r29 = .bool b29 ∧
    cond (!b29)
    (Q (.tuple #[]) w2)
    (∃ n11, Ld Tryz.prog 3 (.pointer p2_1) w2 (.int .i64 n11) ∧
      goesOn [] [] I1 μ1 us1 [v0_1, .pointer p1_1, .pointer p2_1, .int .i64 (IntKind.i64.wrap (n4 + n11))] wl1 w2))
  (Q (.tuple #[]) wl1)
def slices_Chunk_byte_byte_c1_tt : Nat → List (Nat × TypeId) := fun n => match n with | 0 => [(0, 50), (1, 15), (2, 15), (4, 3)] | _ => []
theorem slices_Chunk_byte_byte_c1_call (v0 : Value) (p1 : Option Addr) (p2 : Option Addr) (w : World) (Q : Value → World → Prop) (h : slices_Chunk_byte_byte_c1 v0 p1 p2 w Q) : callF Tryz.prog 317 #[v0, .pointer p1, .pointer p2] w Q :=
  callBy slices_Chunk_byte_byte_c1_tt Tryz.func317 h (fun _ _ => by kernel_rfl) (by kernel_rfl) (by kernel_rfl) (by kernel_rfl)
end Go.Sh
end

section
namespace Go.Sh
open Go Go.Fw Go.Proofs
set_option maxRecDepth 100000
set_option linter.unusedVariables false
def field_New (p0 : Option Addr) (l0 : Nat) (c0 : Nat) (w : World) (Q : Value → World → Prop) : Prop :=
  callF Tryz.prog 102 #[.slice p0 l0 c0] w fun r4 w1 =>
  ∃ p4 l4 c4, r4 = .slice p4 l4 c4 ∧
  New #[.slice p4 l4 c4, .int .u32 0, .int .i32 0, .int .u32 0, .int .i64 0, .int .u8 0, .int .u8 0, .int .u8 0, .int .u8 0, .int .u8 0, .int .u8 0, .int .u8 0, .int .u8 0, .int .u8 0, .int .u8 0, .int .u8 0, .int .u8 0, .int .u8 0, .int .u8 0, .int .u8 0, .int .u8 0, .int .u8 0, .int .u8 0, .int .u8 0, .int .u8 0, .int .u8 0, .int .u8 0, .int .u8 0, .int .u8 0, .int .u8 0, .int .u8 0, .int .u8 0, .int .u8 0, .int .u8 0, .int .u8 0, .int .u8 0, .int .u8 0, .int .u8 0, .int .u8 0, .int .u8 0, .int .u8 0, .int .u8 0, .int .u8 0, .int .u8 0, .int .u8 0, .int .u8 0, .int .u8 0, .int .u8 0, .int .u8 0, .int .u8 0, .int .u8 0, .int .u8 0, .int .u8 0, .int .u8 0, .int .u8 0, .int .u8 0, .int .u8 0, .int .u8 0, .int .u8 0, .int .u8 0, .int .u8 0, .int .u8 0, .int .u8 0, .int .u8 0, .int .u8 0, .int .u8 0, .int .u8 0, .int .u8 0, .int .u8 0, .int .u8 0, .int .u8 0, .int .u8 0, .int .u8 0, .int .u8 0, .int .u8 0, .int .u8 0, .int .u8 0, .int .u8 0, .int .u8 0, .int .u8 0, .int .u8 0, .int .u8 0, .int .u8 0, .int .u8 0, .int .u8 0, .int .u8 0, .int .u8 0, .int .u8 0, .int .u8 0, .int .u8 0, .int .u8 0, .int .u8 0, .int .u8 0, .int .u8 0, .int .u8 0, .int .u8 0, .int .u8 0, .int .u8 0, .int .u8 0, .int .u8 0, .int .u8 0, .int .u8 0, .int .u8 0, .int .u8 0, .int .u8 0, .int .u8 0, .int .u8 0, .int .u8 0, .int .u8 0, .int .u8 0, .int .u8 0, .int .u8 0, .int .u8 0, .int .u8 0, .int .u8 0, .int .u8 0, .int .u8 0, .int .u8 0, .int .u8 0, .int .u8 0, .int .u8 0, .int .u8 0, .int .u8 0, .int .u8 0, .int .u8 0, .int .u8 0, .int .u8 0, .int .u8 0, .int .u8 0, .int .u8 0, .int .u8 0, .int .u8 0, .int .u8 0, .int .u8 0, .int .u8 0, .int .u8 0, .int .u8 0, .int .u8 0, .int .u8 0, .int .u8 0, .int .u8 0, .int .u8 0, .int .u8 0, .int .u8 0, .int .u8 0, .int .u8 0, .int .u8 0, .int .u8 0, .int .u8 0, .int .u8 0, .int .u8 0, .int .u8 0, .int .u8 0, .int .u8 0, .int .u8 0, .int .u8 0, .int .u8 0, .int .u8 0, .int .u8 0, .int .u8 0, .int .u8 0, .int .u8 0, .int .u8 0, .int .u8 0, .int .u8 0, .int .u8 0, .int .u8 0, .int .u8 0, .int .u8 0, .int .u8 0, .int .u8 0, .int .u8 0, .int .u8 0, .int .u8 0, .int .u8 0, .int .u8 0, .int .u8 0, .int .u8 0, .int .u8 0, .int .u8 0, .int .u8 0, .int .u8 0, .int .u8 0, .int .u8 0, .int .u8 0, .int .u8 0, .int .u8 0, .int .u8 0, .int .u8 0, .int .u8 0, .int .u8 0, .int .u8 0, .int .u8 0, .int .u8 0, .int .u8 0, .int .u8 0, .int .u8 0, .int .u8 0, .int .u8 0, .int .u8 0, .int .u8 0, .int .u8 0, .int .u8 0, .int .u8 0, .int .u8 0, .int .u8 0, .int .u8 0, .int .u8 0, .int .u8 0, .int .u8 0, .int .u8 0, .int .u8 0, .int .u8 0, .int .u8 0, .int .u8 0, .int .u8 0, .int .u8 0, .int .u8 0, .int .u8 0, .int .u8 0, .int .u8 0, .int .u8 0, .int .u8 0, .int .u8 0, .int .u8 0, .int .u8 0, .int .u8 0, .int .u8 0, .int .u8 0, .int .u8 0, .int .u8 0, .int .u8 0, .int .u8 0, .int .u8 0, .int .u8 0, .int .u8 0, .int .u8 0, .int .u8 0, .int .u8 0, .int .u8 0, .int .u8 0, .int .u8 0, .int .u8 0, .int .u8 0, .int .u8 0, .int .u8 0, .int .u8 0, .int .u8 0, .int .u8 0, .int .u8 0, .int .u8 0, .int .u8 0, .int .u8 0, .int .u8 0, .int .u8 0, .int .u8 0, .int .u8 0, .int .u8 0, .int .u8 0, .int .u8 0, .int .u8 0, .int .u8 0, .int .u8 0, .int .u8 0, .int .u8 0, .int .u8 0, .int .u8 0, .int .u8 0, .int .u8 0, .int .u8 0, .int .u8 0, .int .u8 0, .int .u8 0, .int .u8 0, .int .u8 0, .int .u8 0, .int .u8 0, .int .u8 0, .int .u8 0, .int .u8 0, .int .u8 0, .int .u8 0, .int .u8 0, .int .u8 0, .int .u8 0, .int .u8 0, .int .u8 0, .int .u8 0, .int .u8 0, .int .u8 0, .int .u8 0, .int .u8 0, .int .u8 0, .int .u8 0, .int .u8 0, .int .u8 0, .int .u8 0, .int .u8 0, .int .u8 0, .int .u8 0, .int .u8 0, .int .u8 0, .int .u8 0, .int .u8 0, .int .u8 0, .int .u8 0, .int .u8 0, .int .u8 0, .int .u8 0, .int .u8 0, .int .u8 0, .int .u8 0, .int .u8 0, .int .u8 0, .int .u8 0, .int .u8 0, .int .u8 0, .int .u8 0, .int .u8 0, .int .u8 0, .int .u8 0, .int .u8 0, .int .u8 0, .int .u8 0, .int .u8 0, .int .u8 0, .int .u8 0, .int .u8 0, .int .u8 0, .int .u8 0, .int .u8 0, .int .u8 0, .int .u8 0, .int .u8 0, .int .u8 0, .int .u8 0, .int .u8 0, .int .u8 0, .int .u8 0, .int .u8 0, .int .u8 0, .int .u8 0, .int .u8 0, .int .u8 0, .int .u8 0, .int .u8 0, .int .u8 0, .int .u8 0, .int .u8 0, .int .u8 0, .int .u8 0, .int .u8 0, .int .u8 0, .int .u8 0, .int .u8 0, .int .u8 0, .int .u8 0, .int .u8 0, .int .u8 0, .int .u8 0, .int .u8 0, .int .u8 0, .int .u8 0, .int .u8 0, .int .u8 0, .int .u8 0, .int .u8 0, .int .u8 0, .int .u8 0, .int .u8 0, .int .u8 0, .int .u8 0, .int .u8 0, .int .u8 0, .int .u8 0, .int .u8 0, .int .u8 0, .int .u8 0, .int .u8 0, .int .u8 0, .int .u8 0, .int .u8 0, .int .u8 0, .int .u8 0, .int .u8 0, .int .u8 0, .int .u8 0, .int .u8 0, .int .u8 0, .int .u8 0, .int .u8 0, .int .u8 0, .int .u8 0, .int .u8 0, .int .u8 0, .int .u8 0, .int .u8 0, .int .u8 0, .int .u8 0, .int .u8 0, .int .u8 0, .int .u8 0, .int .u8 0, .int .u8 0, .int .u8 0, .int .u8 0, .int .u8 0, .int .u8 0, .int .u8 0, .int .u8 0, .int .u8 0, .int .u8 0, .int .u8 0, .int .u8 0, .int .u8 0, .int .u8 0, .int .u8 0, .int .u8 0, .int .u8 0, .int .u8 0, .int .u8 0, .int .u8 0, .int .u8 0, .int .u8 0, .int .u8 0, .int .u8 0, .int .u8 0, .int .u8 0, .int .u8 0, .int .u8 0, .int .u8 0, .int .u8 0, .int .u8 0, .int .u8 0, .int .u8 0, .int .u8 0, .int .u8 0, .int .u8 0, .int .u8 0, .int .u8 0, .int .u8 0, .int .u8 0, .int .u8 0, .int .u8 0, .int .u8 0, .int .u8 0, .int .u8 0, .int .u8 0, .int .u8 0, .int .u8 0, .int .u8 0, .int .u8 0, .int .u8 0, .int .u8 0, .int .u8 0, .int .u8 0, .int .u8 0, .int .u8 0, .int .u8 0, .int .u8 0, .int .u8 0, .int .u8 0, .int .u8 0, .int .u8 0, .int .u8 0, .int .u8 0, .int .u8 0, .int .u8 0, .int .u8 0, .int .u8 0, .int .u8 0, .int .u8 0, .int .u8 0, .int .u8 0, .int .u8 0, .int .u8 0, .int .u8 0, .int .u8 0, .int .u8 0, .int .u8 0, .int .u8 0, .int .u8 0, .int .u8 0, .int .u8 0, .int .u8 0, .int .u8 0, .int .u8 0, .int .u8 0, .int .u8 0, .int .u8 0, .int .u8 0, .int .u8 0, .int .u8 0, .int .u8 0, .int .u8 0, .int .u8 0, .int .u8 0, .int .u8 0, .int .u8 0, .int .u8 0, .int .u8 0, .int .u8 0, .int .u8 0, .int .u8 0, .int .u8 0, .int .u8 0, .int .u8 0, .int .u8 0, .int .u8 0, .int .u8 0, .int .u8 0, .int .u8 0, .int .u8 0, .int .u8 0, .int .u8 0, .int .u8 0, .int .u8 0, .slice none 0 0] 377 w1 fun k6 w2 =>
  Q (.pointer (some (⟨k6, 0, none⟩ : Addr))) w2
def field_New_tt : Nat → List (Nat × TypeId) := fun _ => []
theorem field_New_call (p0 : Option Addr) (l0 : Nat) (c0 : Nat) (w : World) (Q : Value → World → Prop) (h : field_New p0 l0 c0 w Q) : callF Tryz.prog 239 #[.slice p0 l0 c0] w Q :=
  callBy field_New_tt Tryz.func239 h (fun _ _ => by kernel_rfl) (by kernel_rfl) (by kernel_rfl) (by kernel_rfl)
def field_Tables_Sub (p0 : Option Addr) (n1 : Int) (w : World) (Q : Value → World → Prop) : Prop :=
  callF Tryz.prog 265 #[.pointer p0] w fun r6 w1 =>
  ∃ p6, r6 = .pointer p6 ∧
  ∃ a8, p6 = some a8 ∧
  ∃ a10, IxA Tryz.prog 374 (.pointer (some (a8.add 5))) (.int .u8 n1) a10 ∧
  ∃ n11, Ld Tryz.prog 5 (.pointer (some a10)) w1 (.int .u8 n11) ∧
  Q (.int .u8 n11) w1
def field_Tables_Sub_tt : Nat → List (Nat × TypeId) := fun _ => []
theorem field_Tables_Sub_call (p0 : Option Addr) (n1 : Int) (w : World) (Q : Value → World → Prop) (h : field_Tables_Sub p0 n1 w Q) : callF Tryz.prog 242 #[.pointer p0, .int .u8 n1] w Q :=
  callBy field_Tables_Sub_tt Tryz.func242 h (fun _ _ => by kernel_rfl) (by kernel_rfl) (by kernel_rfl) (by kernel_rfl)
def field_Tables_Times_j1 (p0 : Option Addr) (n1 : Int) (n2 : Int) (n6 : Int) (n7 : Int) (w : World) (Q : Value → World → Prop) : Prop :=
  ∃ a22, p0 = some a22 ∧
  ∃ p24 l24 c24, Ld Tryz.prog 375 (.pointer (some (a22.add 517))) w (.slice p24 l24 c24) ∧
  ∃ a27, IxA Tryz.prog 375 (.slice p24 l24 c24) (.int .i64 n1) a27 ∧
  ∃ a28, IxA Tryz.prog 374 (.pointer (some a27)) (.int .u8 n2) a28 ∧
  ∃ n29, Ld Tryz.prog 5 (.pointer (some a28)) w (.int .u8 n29) ∧
  Q (.tuple #[.int .u8 n29, .int .i64 0]) w
def field_Tables_Times (p0 : Option Addr) (n1 : Int) (n2 : Int) (w : World) (Q : Value → World → Prop) : Prop :=
  callF Tryz.prog 265 #[.pointer p0] w fun r9 w1 =>
  ∃ p9, r9 = .pointer p9 ∧
  cond (decide (n1 < 0))
  (Q (.tuple #[.int .u8 0, .int .i64 11]) w1)
  (∃ a15, p0 = some a15 ∧
    ∃ p17 l17 c17, Ld Tryz.prog 375 (.pointer (some (a15.add 517))) w1 (.slice p17 l17 c17) ∧
    cond (decide (n1 ≥ ((l17 : Nat) : Int)))
    (Q (.tuple #[.int .u8 0, .int .i64 11]) w1)
    (field_Tables_Times_j1 p0 n1 n2 0 0 w1 Q))
def field_Tables_Times_tt : Nat → List (Nat × TypeId) := fun _ => []
theorem field_Tables_Times_call (p0 : Option Addr) (n1 : Int) (n2 : Int) (w : World) (Q : Value → World → Prop) (h : field_Tables_Times p0 n1 n2 w Q) : callF Tryz.prog 264 #[.pointer p0, .int .i64 n1, .int .u8 n2] w Q :=
  callBy field_Tables_Times_tt Tryz.func264 h (fun _ _ => by kernel_rfl) (by kernel_rfl) (by kernel_rfl) (by kernel_rfl)
def field_Tables_ready (p0 : Option Addr) (w : World) (Q : Value → World → Prop) : Prop :=
  ∃ a4, p0 = some a4 ∧
  callF Tryz.prog 293 #[.pointer (some (a4.add 1)), .func (.func 294) #[.pointer p0] #[]] w fun r8 w1 =>
  r8 = .tuple #[] ∧
  Q (.pointer p0) w1
def field_Tables_ready_tt : Nat → List (Nat × TypeId) := fun _ => []
theorem field_Tables_ready_call (p0 : Option Addr) (w : World) (Q : Value → World → Prop) (h : field_Tables_ready p0 w Q) : callF Tryz.prog 265 #[.pointer p0] w Q :=
  callBy field_Tables_ready_tt Tryz.func265 h (fun _ _ => by kernel_rfl) (by kernel_rfl) (by kernel_rfl) (by kernel_rfl)
def field_Pow (n0 : Int) (n1 : Int) (w : World) (Q : Value → World → Prop) : Prop :=
  LoopS [.int .u8 n0, .int .u64 n1, .int .u8 0, .int .u8 1] w fun I1 μ1 us1 _ wl1 =>
  ∃ n0_1 n1_1 n4 n5, us1 = [.int .u8 n0_1, .int .u64 n1_1, .int .u8 n4, .int .u8 n5] ∧
  cond (n1_1 != 0)
  (cond ((iand .u64 n1_1 1) != 0)
    (callF Tryz.prog 300 #[.int .u8 n5, .int .u8 n0_1] wl1 fun r15 w1 =>
      ∃ n15, r15 = .int .u8 n15 ∧
      callF Tryz.prog 300 #[.int .u8 n0_1, .int .u8 n0_1] w1 fun r18 w2 =>
      ∃ n18, r18 = .int .u8 n18 ∧
      goesOn [] [] I1 μ1 us1 [.int .u8 n18, .int .u64 (Int.fdiv n1_1 (2 ^ 1)), .int .u8 n4, .int .u8 n15] wl1 w2)
    (callF Tryz.prog 300 #[.int .u8 n0_1, .int .u8 n0_1] wl1 fun r18_1 w3 =>
      ∃ n18_1, r18_1 = .int .u8 n18_1 ∧
      goesOn [] [] I1 μ1 us1 [.int .u8 n18_1, .int .u64 (Int.fdiv n1_1 (2 ^ 1)), .int .u8 n4, .int .u8 n5] wl1 w3))
  (Q (.int .u8 n5) wl1)
def field_Pow_tt : Nat → List (Nat × TypeId) := fun n => match n with | 0 => [(0, 5), (1, 88), (4, 5), (5, 5)] | _ => []
theorem field_Pow_call (n0 : Int) (n1 : Int) (w : World) (Q : Value → World → Prop) (h : field_Pow n0 n1 w Q) : callF Tryz.prog 270 #[.int .u8 n0, .int .u64 n1] w Q :=
  callBy field_Pow_tt Tryz.func270 h (fun _ _ => by kernel_rfl) (by kernel_rfl) (by kernel_rfl) (by kernel_rfl)
def field_Tables_make (p0 : Option Addr) (w : World) (Q : Value → World → Prop) : Prop :=
  ∃ a7, p0 = some a7 ∧
  callF Tryz.prog 163 #[.pointer (some (a7.add 4)), .int .i64 1] w fun r9 w1 =>
  ∃ n9, r9 = .int .i64 n9 ∧
  ∃ a12, p0 = some a12 ∧
  ∃ p14 l14 c14, Ld Tryz.prog 25 (.pointer (some (a12.add 0))) w1 (.slice p14 l14 c14) ∧
  ∃ p16 l16 c16 w2, Ef Tryz.prog (Instr.makeSlice 375 (.int .i64 ((l14 : Nat) : Int)) (.int .i64 ((l14 : Nat) : Int))) w1 (.slice p16 l16 c16) w2 ∧
  ∃ a17, p0 = some a17 ∧
  ∃ w3, Sto Tryz.prog 375 (.pointer (some (a17.add 517))) (.slice p16 l16 c16) w2 w3 ∧
  LoopS [.pointer p0, .int .i64 0] w3 fun I1 μ1 us1 _ wl1 =>
  ∃ p0_1 n19, us1 = [.pointer p0_1, .int .i64 n19] ∧
  cond (decide (n19 < 256))
  (callF Tryz.prog 313 #[.int .u8 (IntKind.u8.wrap n19)] wl1 fun r24 w4 =>
    ∃ n24, r24 = .int .u8 n24 ∧
    ∃ a28, p0_1 = some a28 ∧
    ∃ a30, IxA Tryz.prog 374 (.pointer (some (a28.add 5))) (.int .i64 n19) a30 ∧
    ∃ w5, Sto Tryz.prog 5 (.pointer (some a30)) (.int .u8 n24) w4 w5 ∧
    ∃ a35, p0_1 = some a35 ∧
    ∃ a37, IxA Tryz.prog 374 (.pointer (some (a35.add 261))) (.int .u8 n24) a37 ∧
    ∃ w6, Sto Tryz.prog 5 (.pointer (some a37)) (.int .u8 (IntKind.u8.wrap n19)) w5 w6 ∧
    ∃ a39, p0_1 = some a39 ∧
    ∃ p41 l41 c41, Ld Tryz.prog 25 (.pointer (some (a39.add 0))) w6 (.slice p41 l41 c41) ∧
    LoopS [.pointer p0_1, .int .i64 n19, .int .i64 n19, .slice p41 l41 c41, .int .i64 ((l41 : Nat) : Int), .int .i64 0] w6 fun I2 μ2 us2 _ wl2 =>
    ∃ p0_2 n2 n19_1 p41_1 l41_1 c41_1 n42 n43, us2 = [.pointer p0_2, .int .i64 n2, .int .i64 n19_1, .slice p41_1 l41_1 c41_1, .int .i64 n42, .int .i64 n43] ∧
    cond (decide (n43 < n42))
    (∃ a46, IxA Tryz.prog 25 (.slice p41_1 l41_1 c41_1) (.int .i64 n43) a46 ∧
      ∃ n47, Ld Tryz.prog 5 (.pointer (some a46)) wl2 (.int .u8 n47) ∧
      ∃ (S11 : World → Prop),
      Drw wl2 fun w7 =>
      ∃ a49, p0_2 = some a49 ∧
      ∃ p51 l51 c51, HLd Tryz.prog S11 375 (.pointer (some (a49.add 517))) w7 (.slice p51 l51 c51) ∧
      ∃ a58, IxA Tryz.prog 375 (.slice p51 l51 c51) (.int .i64 n43) a58 ∧
      callF Tryz.prog 300 #[.int .u8 (IntKind.u8.wrap n2), .int .u8 n47] w7 fun r57 w8 =>
      ∃ n57, r57 = .int .u8 n57 ∧
      (w8 = w7 ∨ S11 w8) ∧
      ∃ a59, IxA Tryz.prog 374 (.pointer (some a58)) (.int .i64 n2) a59 ∧
      ∃ w9, Sto Tryz.prog 5 (.pointer (some a59)) (.int .u8 n57) w8 w9 ∧
      goesOn [] [] I2 μ2 us2 [.pointer p0_2, .int .i64 n2, .int .i64 n19_1, .slice p41_1 l41_1 c41_1, .int .i64 n42, .int .i64 (IntKind.i64.wrap (n43 + 1))] wl2 w9)
    (goesOn [] [] I1 μ1 us1 [.pointer p0_2, .int .i64 (IntKind.i64.wrap (n19_1 + 1))] wl1 wl2))
  (Q (.tuple #[]) wl1)
def field_Tables_make_tt : Nat → List (Nat × TypeId) := fun n => match n with | 0 => [(0, 318), (19, 3)] | 2 => [(0, 318), (2, 3), (19, 3), (41, 25), (42, 3), (43, 3)] | _ => []
theorem field_Tables_make_call (p0 : Option Addr) (w : World) (Q : Value → World → Prop) (h : field_Tables_make p0 w Q) : callF Tryz.prog 294 #[.pointer p0] w Q :=
  callBy field_Tables_make_tt Tryz.func294 h (fun _ _ => by kernel_rfl) (by kernel_rfl) (by kernel_rfl) (by kernel_rfl)
def field_Mul (n0 : Int) (n1 : Int) (w : World) (Q : Value → World → Prop) : Prop :=
  LoopS [.int .u8 n0, .int .u8 n1, .int .u8 0, .int .u8 0] w fun I1 μ1 us1 _ wl1 =>
  ∃ n0_1 n1_1 n4 n5, us1 = [.int .u8 n0_1, .int .u8 n1_1, .int .u8 n4, .int .u8 n5] ∧
  cond (n1_1 != 0)
  (cond ((iand .u8 n1_1 1) != 0)
    (callF Tryz.prog 316 #[.int .u8 n0_1] wl1 fun r17 w1 =>
      ∃ n17, r17 = .int .u8 n17 ∧
      goesOn [] [] I1 μ1 us1 [.int .u8 n17, .int .u8 (Int.fdiv n1_1 (2 ^ 1)), .int .u8 n4, .int .u8 (ixor .u8 n5 n0_1)] wl1 w1)
    (callF Tryz.prog 316 #[.int .u8 n0_1] wl1 fun r17_1 w2 =>
      ∃ n17_1, r17_1 = .int .u8 n17_1 ∧
      goesOn [] [] I1 μ1 us1 [.int .u8 n17_1, .int .u8 (Int.fdiv n1_1 (2 ^ 1)), .int .u8 n4, .int .u8 n5] wl1 w2))
  (Q (.int .u8 n5) wl1)
def field_Mul_tt : Nat → List (Nat × TypeId) := fun n => match n with | 0 => [(0, 5), (1, 5), (4, 5), (5, 5)] | _ => []
theorem field_Mul_call (n0 : Int) (n1 : Int) (w : World) (Q : Value → World → Prop) (h : field_Mul n0 n1 w Q) : callF Tryz.prog 300 #[.int .u8 n0, .int .u8 n1] w Q :=
  callBy field_Mul_tt Tryz.func300 h (fun _ _ => by kernel_rfl) (by kernel_rfl) (by kernel_rfl) (by kernel_rfl)
def field_sign (n0 : Int) (w : World) (Q : Value → World → Prop) : Prop :=
  callF Tryz.prog 328 #[.int .u8 n0] w fun r5 w1 =>
  ∃ n5, r5 = .int .u8 n5 ∧
  callF Tryz.prog 330 #[.int .u8 n5, .int .i64 1] w1 fun r8 w2 =>
  ∃ n8, r8 = .int .u8 n8 ∧
  callF Tryz.prog 330 #[.int .u8 n5, .int .i64 2] w2 fun r10 w3 =>
  ∃ n10, r10 = .int .u8 n10 ∧
  callF Tryz.prog 330 #[.int .u8 n5, .int .i64 3] w3 fun r12 w4 =>
  ∃ n12, r12 = .int .u8 n12 ∧
  callF Tryz.prog 330 #[.int .u8 n5, .int .i64 4] w4 fun r14 w5 =>
  ∃ n14, r14 = .int .u8 n14 ∧
  ∃ p15 l15 c15 w6, Ef Tryz.prog (Instr.buildSlice 25 6 #[(0, .int .u8 n5), (1, .int .u8 n8), (2, .int .u8 n10), (3, .int .u8 n12), (4, .int .u8 n14), (5, .int .u8 99)]) w5 (.slice p15 l15 c15) w6 ∧
  callF Tryz.prog 329 #[.slice p15 l15 c15] w6 fun r16 w7 =>
  ∃ n16, r16 = .int .u8 n16 ∧
  Q (.int .u8 n16) w7
def field_sign_tt : Nat → List (Nat × TypeId) := fun _ => []
theorem field_sign_call (n0 : Int) (w : World) (Q : Value → World → Prop) (h : field_sign n0 w Q) : callF Tryz.prog 313 #[.int .u8 n0] w Q :=
  callBy field_sign_tt Tryz.func313 h (fun _ _ => by kernel_rfl) (by kernel_rfl) (by kernel_rfl) (by kernel_rfl)
def field_double (n0 : Int) (w : World) (Q : Value → World → Prop) : Prop :=
  cond ((iand .u8 n0 128) != 0)
  (Q (.int .u8 (ixor .u8 (IntKind.u8.wrap (n0 * 2 ^ 1)) 27)) w)
  (Q (.int .u8 (IntKind.u8.wrap (n0 * 2 ^ 1))) w)
def field_double_tt : Nat → List (Nat × TypeId) := fun _ => []
theorem field_double_call (n0 : Int) (w : World) (Q : Value → World → Prop) (h : field_double n0 w Q) : callF Tryz.prog 316 #[.int .u8 n0] w Q :=
  callBy field_double_tt Tryz.func316 h (fun _ _ => by kernel_rfl) (by kernel_rfl) (by kernel_rfl) (by kernel_rfl)
def field_Inv (n0 : Int) (w : World) (Q : Value → World → Prop) : Prop :=
  callF Tryz.prog 270 #[.int .u8 n0, .int .u64 254] w fun r4 w1 =>
  ∃ n4, r4 = .int .u8 n4 ∧
  Q (.int .u8 n4) w1
def field_Inv_tt : Nat → List (Nat × TypeId) := fun _ => []
theorem field_Inv_call (n0 : Int) (w : World) (Q : Value → World → Prop) (h : field_Inv n0 w Q) : callF Tryz.prog 328 #[.int .u8 n0] w Q :=
  callBy field_Inv_tt Tryz.func328 h (fun _ _ => by kernel_rfl) (by kernel_rfl) (by kernel_rfl) (by kernel_rfl)
def field_Sum (p0 : Option Addr) (l0 : Nat) (c0 : Nat) (w : World) (Q : Value → World → Prop) : Prop :=
  LoopS [.int .u8 0, .int .u8 0, .slice p0 l0 c0, .int .i64 ((l0 : Nat) : Int), .int .i64 0] w fun I1 μ1 us1 _ wl1 =>
  ∃ n2 n3 p6 l6 c6 n7 n8, us1 = [.int .u8 n2, .int .u8 n3, .slice p6 l6 c6, .int .i64 n7, .int .i64 n8] ∧
  cond (decide (n8 < n7))
  (∃ a10, IxA Tryz.prog 25 (.slice p6 l6 c6) (.int .i64 n8) a10 ∧
    ∃ n11, Ld Tryz.prog 5 (.pointer (some a10)) wl1 (.int .u8 n11) ∧
    goesOn [] [] I1 μ1 us1 [.int .u8 n2, .int .u8 (ixor .u8 n3 n11), .slice p6 l6 c6, .int .i64 n7, .int .i64 (IntKind.i64.wrap (n8 + 1))] wl1 wl1)
  (Q (.int .u8 n3) wl1)
def field_Sum_tt : Nat → List (Nat × TypeId) := fun n => match n with | 0 => [(2, 5), (3, 5), (6, 25), (7, 3), (8, 3)] | _ => []
theorem field_Sum_call (p0 : Option Addr) (l0 : Nat) (c0 : Nat) (w : World) (Q : Value → World → Prop) (h : field_Sum p0 l0 c0 w Q) : callF Tryz.prog 329 #[.slice p0 l0 c0] w Q :=
  callBy field_Sum_tt Tryz.func329 h (fun _ _ => by kernel_rfl) (by kernel_rfl) (by kernel_rfl) (by kernel_rfl)
def field_turned (n0 : Int) (n1 : Int) (w : World) (Q : Value → World → Prop) : Prop :=
  Drw w fun w1 =>
  ∃ n7, Pu Tryz.prog (do eqGuard .shl 5 (.tmp 5) (.tmp 6) (.int .u8 n0) (.int .i64 n1); binOp .shl 5 (.int .u8 n0) (.int .i64 n1) : Sem Value) (.int .u8 n7) ∧
  ∃ n11, Pu Tryz.prog (do eqGuard .shr 5 (.tmp 8) (.tmp 10) (.int .u8 n0) (.int .i64 (IntKind.i64.wrap (8 - n1))); binOp .shr 5 (.int .u8 n0) (.int .i64 (IntKind.i64.wrap (8 - n1))) : Sem Value) (.int .u8 n11) ∧
  Q (.int .u8 (ior .u8 n7 n11)) w1
def field_turned_tt : Nat → List (Nat × TypeId) := fun _ => []
theorem field_turned_call (n0 : Int) (n1 : Int) (w : World) (Q : Value → World → Prop) (h : field_turned n0 n1 w Q) : callF Tryz.prog 330 #[.int .u8 n0, .int .i64 n1] w Q :=
  callBy field_turned_tt Tryz.func330 h (fun _ _ => by kernel_rfl) (by kernel_rfl) (by kernel_rfl) (by kernel_rfl)
end Go.Sh
end

section
namespace Go.Sh
open Go Go.Fw Go.Proofs
set_option maxRecDepth 100000
set_option linter.unusedVariables false
def aes_New_j1 (I1 : Inv) (μ1 : Meas) (us1 : List Value) (wl1 : World) (p0 : Option Addr) (l0 : Nat) (c0 : Nat) (p2 : Option Addr) (n3 : Int) (a4 : Addr) (a5 : Addr) (n6 : Int) (a7 : Addr) (n17 : Int) (w : World) (Q : Value → World → Prop) : Prop :=
  ∃ (S13 : World → Prop),
  Drw w fun w1 =>
  ∃ a45, IxA Tryz.prog 335 (.pointer (some a5)) (.int .i64 (IntKind.i64.wrap (n6 - 4))) a45 ∧
  ∃ (cs46 : Array Value), HLd Tryz.prog S13 334 (.pointer (some a45)) w1 (.agg cs46) ∧
  ∃ (cs47 : Array Value), Ld Tryz.prog 334 (.pointer (some a7)) w1 (.agg cs47) ∧
  (w1 = w1 ∨ S13 w1) ∧
  callF Tryz.prog 241 #[.agg cs46, .agg cs47] w1 fun r48 w2 =>
  ∃ (cs48 : Array Value), r48 = .agg cs48 ∧
  ∃ a49, IxA Tryz.prog 335 (.pointer (some a5)) (.int .i64 n6) a49 ∧
  ∃ w3, Sto Tryz.prog 334 (.pointer (some a49)) (.agg cs48) w2 w3 ∧
  goesOn [] [] I1 μ1 us1 [.slice p0 l0 c0, .pointer p2, .int .i64 n3, .pointer (some a4), .pointer (some a5), .int .i64 (IntKind.i64.wrap (n17 + 1))] wl1 w3
def aes_New_j2 (p2 : Option Addr) (n3 : Int) (a4 : Addr) (a5 : Addr) (w : World) (Q : Value → World → Prop) : Prop :=
  ∃ (cs51 : Array Value), Ld Tryz.prog 335 (.pointer (some a5)) w (.agg cs51) ∧
  LoopS [.pointer p2, .int .i64 n3, .pointer (some a4), .agg cs51, .int .i64 0] w fun I2 μ2 us2 _ wl2 =>
  ∃ (p2_1 : Option Addr) (n3_1 : Int) (a4_1 : Addr) (cs51_1 : Array Value) (n52 : Int), us2 = [.pointer p2_1, .int .i64 n3_1, .pointer (some a4_1), .agg cs51_1, .int .i64 n52] ∧
  cond (decide (n52 < 44))
  (∃ (cs55 : Array Value), Pu Tryz.prog (Instr.index 335 (.agg cs51_1) (.int .i64 n52)) (.agg cs55) ∧
    ∃ z9, Pu Tryz.prog (zeroValue 334) z9 ∧
    New z9.cells 334 wl2 fun k9 w1 =>
    ∃ w2, Sto Tryz.prog 334 (.pointer (some (⟨k9, 0, none⟩ : Addr))) (.agg cs55) w1 w2 ∧
    Drw w2 fun w3 =>
    ∃ a59, some a4_1 = some a59 ∧
    ∃ a61, IxA Tryz.prog 320 (.pointer (some (a59.add 1))) (.int .i64 (IntKind.i64.wrap (Int.tdiv n52 4))) a61 ∧
    ∃ p65 l65 c65, Pu Tryz.prog (Instr.sliceAt 319 (.pointer (some a61)) (some (.int .i64 (IntKind.i64.wrap (4 * (Int.tmod n52 4))))) none none) (.slice p65 l65 c65) ∧
    ∃ p66 l66 c66, Pu Tryz.prog (Instr.sliceAt 334 (.pointer (some (⟨k9, 0, none⟩ : Addr))) none none none) (.slice p66 l66 c66) ∧
    ∃ n67 w4, Ef Tryz.prog (Builtin.copy_ #[25, 25] 3 #[.slice p65 l65 c65, .slice p66 l66 c66]) w3 (.int .i64 n67) w4 ∧
    goesOn [] [] I2 μ2 us2 [.pointer p2_1, .int .i64 n3_1, .pointer (some a4_1), .agg cs51_1, .int .i64 (IntKind.i64.wrap (n52 + 1))] wl2 w4)
  (Q (.tuple #[.pointer (some a4_1), .int .i64 0]) wl2)
def aes_New (p0 : Option Addr) (l0 : Nat) (c0 : Nat) (w : World) (Q : Value → World → Prop) : Prop :=
  cond (((l0 : Nat) : Int) != 16)
  (Q (.tuple #[.pointer none, .int .i64 11]) w)
  (∃ p13 l13 c13 w1, Ef Tryz.prog (Instr.buildSlice 25 6 #[(0, .int .u8 2), (1, .int .u8 3), (2, .int .u8 9), (3, .int .u8 11), (4, .int .u8 13), (5, .int .u8 14)]) w (.slice p13 l13 c13) w1 ∧
    callF Tryz.prog 239 #[.slice p13 l13 c13] w1 fun r14 w2 =>
    ∃ p14, r14 = .pointer p14 ∧
    New #[.pointer p14, .int .u8 0, .int .u8 0, .int .u8 0, .int .u8 0, .int .u8 0, .int .u8 0, .int .u8 0, .int .u8 0, .int .u8 0, .int .u8 0, .int .u8 0, .int .u8 0, .int .u8 0, .int .u8 0, .int .u8 0, .int .u8 0, .int .u8 0, .int .u8 0, .int .u8 0, .int .u8 0, .int .u8 0, .int .u8 0, .int .u8 0, .int .u8 0, .int .u8 0, .int .u8 0, .int .u8 0, .int .u8 0, .int .u8 0, .int .u8 0, .int .u8 0, .int .u8 0, .int .u8 0, .int .u8 0, .int .u8 0, .int .u8 0, .int .u8 0, .int .u8 0, .int .u8 0, .int .u8 0, .int .u8 0, .int .u8 0, .int .u8 0, .int .u8 0, .int .u8 0, .int .u8 0, .int .u8 0, .int .u8 0, .int .u8 0, .int .u8 0, .int .u8 0, .int .u8 0, .int .u8 0, .int .u8 0, .int .u8 0, .int .u8 0, .int .u8 0, .int .u8 0, .int .u8 0, .int .u8 0, .int .u8 0, .int .u8 0, .int .u8 0, .int .u8 0, .int .u8 0, .int .u8 0, .int .u8 0, .int .u8 0, .int .u8 0, .int .u8 0, .int .u8 0, .int .u8 0, .int .u8 0, .int .u8 0, .int .u8 0, .int .u8 0, .int .u8 0, .int .u8 0, .int .u8 0, .int .u8 0, .int .u8 0, .int .u8 0, .int .u8 0, .int .u8 0, .int .u8 0, .int .u8 0, .int .u8 0, .int .u8 0, .int .u8 0, .int .u8 0, .int .u8 0, .int .u8 0, .int .u8 0, .int .u8 0, .int .u8 0, .int .u8 0, .int .u8 0, .int .u8 0, .int .u8 0, .int .u8 0, .int .u8 0, .int .u8 0, .int .u8 0, .int .u8 0, .int .u8 0, .int .u8 0, .int .u8 0, .int .u8 0, .int .u8 0, .int .u8 0, .int .u8 0, .int .u8 0, .int .u8 0, .int .u8 0, .int .u8 0, .int .u8 0, .int .u8 0, .int .u8 0, .int .u8 0, .int .u8 0, .int .u8 0, .int .u8 0, .int .u8 0, .int .u8 0, .int .u8 0, .int .u8 0, .int .u8 0, .int .u8 0, .int .u8 0, .int .u8 0, .int .u8 0, .int .u8 0, .int .u8 0, .int .u8 0, .int .u8 0, .int .u8 0, .int .u8 0, .int .u8 0, .int .u8 0, .int .u8 0, .int .u8 0, .int .u8 0, .int .u8 0, .int .u8 0, .int .u8 0, .int .u8 0, .int .u8 0, .int .u8 0, .int .u8 0, .int .u8 0, .int .u8 0, .int .u8 0, .int .u8 0, .int .u8 0, .int .u8 0, .int .u8 0, .int .u8 0, .int .u8 0, .int .u8 0, .int .u8 0, .int .u8 0, .int .u8 0, .int .u8 0, .int .u8 0, .int .u8 0, .int .u8 0, .int .u8 0, .int .u8 0, .int .u8 0, .int .u8 0, .int .u8 0, .int .u8 0, .int .u8 0, .int .u8 0, .int .u8 0, .int .u8 0, .int .i64 0] 322 w2 fun k16 w3 =>
    ∃ z5, Pu Tryz.prog (zeroValue 335) z5 ∧
    New z5.cells 335 w3 fun k5 w4 =>
    LoopS [.slice p0 l0 c0, .pointer none, .int .i64 0, .pointer (some (⟨k16, 0, none⟩ : Addr)), .pointer (some (⟨k5, 0, none⟩ : Addr)), .int .i64 0] w4 fun I1 μ1 us1 _ wl1 =>
    ∃ p0_1 l0_1 c0_1 p2 n3 a4 a5 n17, us1 = [.slice p0_1 l0_1 c0_1, .pointer p2, .int .i64 n3, .pointer (some a4), .pointer (some a5), .int .i64 n17] ∧
    cond (decide (n17 < 44))
    (cond (decide (n17 < 4))
      (∃ p26 l26 c26, Pu Tryz.prog (Instr.sliceAt 25 (.slice p0_1 l0_1 c0_1) (some (.int .i64 (IntKind.i64.wrap (4 * n17)))) none none) (.slice p26 l26 c26) ∧
        ∃ p27, Pu Tryz.prog (Instr.arrayAt 334 (.slice p26 l26 c26)) (.pointer p27) ∧
        ∃ (cs28 : Array Value), Ld Tryz.prog 334 (.pointer p27) wl1 (.agg cs28) ∧
        ∃ a29, IxA Tryz.prog 335 (.pointer (some a5)) (.int .i64 n17) a29 ∧
        ∃ w5, Sto Tryz.prog 334 (.pointer (some a29)) (.agg cs28) wl1 w5 ∧
        goesOn [] [] I1 μ1 us1 [.slice p0_1 l0_1 c0_1, .pointer p2, .int .i64 n3, .pointer (some a4), .pointer (some a5), .int .i64 (IntKind.i64.wrap (n17 + 1))] wl1 w5)
      (∃ a32, IxA Tryz.prog 335 (.pointer (some a5)) (.int .i64 (IntKind.i64.wrap (n17 - 1))) a32 ∧
        ∃ (cs33 : Array Value), Ld Tryz.prog 334 (.pointer (some a32)) wl1 (.agg cs33) ∧
        ∃ z7, Pu Tryz.prog (zeroValue 334) z7 ∧
        New z7.cells 334 wl1 fun k7 w6 =>
        ∃ w7, Sto Tryz.prog 334 (.pointer (some (⟨k7, 0, none⟩ : Addr))) (.agg cs33) w6 w7 ∧
        cond ((Int.tmod n17 4) == 0)
        (∃ (cs38 : Array Value), Ld Tryz.prog 334 (.pointer (some (⟨k7, 0, none⟩ : Addr))) w7 (.agg cs38) ∧
          callF Tryz.prog 240 #[.pointer (some a4), .agg cs38, .int .i64 (IntKind.i64.wrap (Int.tdiv n17 4))] w7 fun r41 w8 =>
          ∃ (cs41 : Array Value), r41 = .agg cs41 ∧
          ∃ w9, Sto Tryz.prog 334 (.pointer (some (⟨k7, 0, none⟩ : Addr))) (.agg cs41) w8 w9 ∧
          aes_New_j1 I1 μ1 us1 wl1 p0_1 l0_1 c0_1 p2 n3 a4 a5 n17 (⟨k7, 0, none⟩ : Addr) n17 w9 Q)
        (aes_New_j1 I1 μ1 us1 wl1 p0_1 l0_1 c0_1 p2 n3 a4 a5 n17 (⟨k7, 0, none⟩ : Addr) n17 w7 Q)))
    (aes_New_j2 p2 n3 a4 a5 wl1 Q))
def aes_New_tt : Nat → List (Nat × TypeId) := fun n => match n with | 0 => [(0, 25), (2, 279), (3, 33), (4, 1000000), (5, 1000000), (17, 3)] | 2 => [(2, 279), (3, 33), (4, 1000000), (51, 335), (52, 3)] | _ => []
theorem aes_New_call (p0 : Option Addr) (l0 : Nat) (c0 : Nat) (w : World) (Q : Value → World → Prop) (h : aes_New p0 l0 c0 w Q) : callF Tryz.prog 191 #[.slice p0 l0 c0] w Q :=
  callBy aes_New_tt Tryz.func191 h (fun _ _ => by kernel_rfl) (by kernel_rfl) (by kernel_rfl) (by kernel_rfl)
def aes_Cipher_Encrypt_j1 (I1 : Inv) (μ1 : Meas) (us1 : List Value) (wl1 : World) (p0 : Option Addr) (p4 : Option Addr) (l4 : Nat) (c4 : Nat) (n5 : Int) (a6 : Addr) (n7 : Int) (w : World) (Q : Value → World → Prop) : Prop :=
  ∃ a43, p0 = some a43 ∧
  ∃ a45, IxA Tryz.prog 320 (.pointer (some (a43.add 1))) (.int .i64 n7) a45 ∧
  ∃ (cs46 : Array Value), Ld Tryz.prog 319 (.pointer (some a45)) w (.agg cs46) ∧
  callF Tryz.prog 230 #[.pointer (some a6), .agg cs46] w fun r47 w1 =>
  r47 = .tuple #[] ∧
  goesOn [] [] I1 μ1 us1 [.pointer p0, .slice p4 l4 c4, .int .i64 n5, .pointer (some a6), .int .i64 (IntKind.i64.wrap (n7 + 1))] wl1 w1
def aes_Cipher_Encrypt (p0 : Option Addr) (p1 : Option Addr) (l1 : Nat) (c1 : Nat) (w : World) (Q : Value → World → Prop) : Prop :=
  cond (((l1 : Nat) : Int) != 16)
  (Q (.tuple #[.slice none 0 0, .int .i64 11]) w)
  (∃ a12, p0 = some a12 ∧
    callF Tryz.prog 163 #[.pointer (some (a12.add 177)), .int .i64 1] w fun r14 w1 =>
    ∃ n14, r14 = .int .i64 n14 ∧
    ∃ p16, Pu Tryz.prog (Instr.arrayAt 319 (.slice p1 l1 c1)) (.pointer p16) ∧
    ∃ (cs17 : Array Value), Ld Tryz.prog 319 (.pointer p16) w1 (.agg cs17) ∧
    ∃ z6, Pu Tryz.prog (zeroValue 319) z6 ∧
    New z6.cells 319 w1 fun k6 w2 =>
    ∃ w3, Sto Tryz.prog 319 (.pointer (some (⟨k6, 0, none⟩ : Addr))) (.agg cs17) w2 w3 ∧
    ∃ a19, p0 = some a19 ∧
    ∃ a21, IxA Tryz.prog 320 (.pointer (some (a19.add 1))) (.int .i64 0) a21 ∧
    ∃ (cs22 : Array Value), Ld Tryz.prog 319 (.pointer (some a21)) w3 (.agg cs22) ∧
    callF Tryz.prog 230 #[.pointer (some (⟨k6, 0, none⟩ : Addr)), .agg cs22] w3 fun r23 w4 =>
    r23 = .tuple #[] ∧
    LoopS [.pointer p0, .slice none 0 0, .int .i64 0, .pointer (some (⟨k6, 0, none⟩ : Addr)), .int .i64 1] w4 fun I1 μ1 us1 _ wl1 =>
    ∃ p0_1 p4 l4 c4 n5 a6 n7, us1 = [.pointer p0_1, .slice p4 l4 c4, .int .i64 n5, .pointer (some a6), .int .i64 n7] ∧
    cond (decide (n7 ≤ 10))
    (∃ a29, p0_1 = some a29 ∧
      ∃ p31, Ld Tryz.prog 318 (.pointer (some (a29.add 0))) wl1 (.pointer p31) ∧
      callF Tryz.prog 234 #[.pointer (some a6), .func (.func 242) #[.pointer p31] #[]] wl1 fun r33 w5 =>
      r33 = .tuple #[] ∧
      callF Tryz.prog 233 #[.pointer (some a6), .int .i64 1] w5 fun r34 w6 =>
      r34 = .tuple #[] ∧
      cond (decide (n7 < 10))
      (callF Tryz.prog 231 #[.pointer (some a6), .func (.func 232) #[.pointer p0_1] #[], .agg #[.int .i64 0, .int .i64 1, .int .i64 (-1), .int .i64 (-1)]] w6 fun r40 w7 =>
        r40 = .tuple #[] ∧
        aes_Cipher_Encrypt_j1 I1 μ1 us1 wl1 p0_1 p4 l4 c4 n5 a6 n7 w7 Q)
      (aes_Cipher_Encrypt_j1 I1 μ1 us1 wl1 p0_1 p4 l4 c4 n5 a6 n7 w6 Q))
    (∃ p48 l48 c48, Pu Tryz.prog (Instr.sliceAt 319 (.pointer (some a6)) none none none) (.slice p48 l48 c48) ∧
      Q (.tuple #[.slice p48 l48 c48, .int .i64 0]) wl1))
def aes_Cipher_Encrypt_tt : Nat → List (Nat × TypeId) := fun n => match n with | 0 => [(0, 279), (4, 25), (5, 33), (6, 1000000), (7, 3)] | _ => []
theorem aes_Cipher_Encrypt_call (p0 : Option Addr) (p1 : Option Addr) (l1 : Nat) (c1 : Nat) (w : World) (Q : Value → World → Prop) (h : aes_Cipher_Encrypt p0 p1 l1 c1 w Q) : callF Tryz.prog 192 #[.pointer p0, .slice p1 l1 c1] w Q :=
  callBy aes_Cipher_Encrypt_tt Tryz.func192 h (fun _ _ => by kernel_rfl) (by kernel_rfl) (by kernel_rfl) (by kernel_rfl)
def aes_block_add (p0 : Option Addr) (cs1 : Array Value) (w : World) (Q : Value → World → Prop) : Prop :=
  New cs1 319 w fun k3 w1 =>
  LoopS [.pointer p0, .pointer (some (⟨k3, 0, none⟩ : Addr)), .int .i64 0] w1 fun I1 μ1 us1 _ wl1 =>
  ∃ p0_1 a3 n5, us1 = [.pointer p0_1, .pointer (some a3), .int .i64 n5] ∧
  cond (decide (n5 < 16))
  (∃ (S4 : World → Prop),
    Drw wl1 fun w2 =>
    ∃ a10, p0_1 = some a10 ∧
    ∃ a11, IxA Tryz.prog 319 (.pointer (some a10)) (.int .i64 n5) a11 ∧
    ∃ a14, IxA Tryz.prog 319 (.pointer (some a3)) (.int .i64 n5) a14 ∧
    ∃ a17, p0_1 = some a17 ∧
    ∃ n12, HLd Tryz.prog S4 5 (.pointer (some a11)) w2 (.int .u8 n12) ∧
    ∃ n15, Ld Tryz.prog 5 (.pointer (some a14)) w2 (.int .u8 n15) ∧
    (w2 = w2 ∨ S4 w2) ∧
    ∃ a18, IxA Tryz.prog 319 (.pointer (some a17)) (.int .i64 n5) a18 ∧
    ∃ w3, Sto Tryz.prog 5 (.pointer (some a18)) (.int .u8 (ixor .u8 n12 n15)) w2 w3 ∧
    goesOn [] [] I1 μ1 us1 [.pointer p0_1, .pointer (some a3), .int .i64 (IntKind.i64.wrap (n5 + 1))] wl1 w3)
  (Q (.tuple #[]) wl1)
def aes_block_add_tt : Nat → List (Nat × TypeId) := fun n => match n with | 0 => [(0, 370), (3, 1000000), (5, 3)] | _ => []
theorem aes_block_add_call (p0 : Option Addr) (cs1 : Array Value) (w : World) (Q : Value → World → Prop) (h : aes_block_add p0 cs1 w Q) : callF Tryz.prog 230 #[.pointer p0, .agg cs1] w Q :=
  callBy aes_block_add_tt Tryz.func230 h (fun _ _ => by kernel_rfl) (by kernel_rfl) (by kernel_rfl) (by kernel_rfl)
def aes_block_columns_j1 (I1 : Inv) (μ1 : Meas) (us1 : List Value) (wl1 : World) (p0 : Option Addr) (v1 : Value) (a5 : Addr) (a6 : Addr) (n7 : Int) (n10 : Int) (n16 : Int) (w : World) (Q : Value → World → Prop) : Prop :=
  ∃ a46, p0 = some a46 ∧
  ∃ a47, IxA Tryz.prog 319 (.pointer (some a46)) (.int .i64 n7) a47 ∧
  ∃ w1, Sto Tryz.prog 5 (.pointer (some a47)) (.int .u8 n10) w w1 ∧
  goesOn [] [] I1 μ1 us1 [.pointer p0, v1, .pointer (some a5), .pointer (some a6), .int .i64 (IntKind.i64.wrap (n16 + 1))] wl1 w1
def aes_block_columns (p0 : Option Addr) (v1 : Value) (cs2 : Array Value) (w : World) (Q : Value → World → Prop) : Prop :=
  New cs2 326 w fun k5 w1 =>
  ∃ a14, p0 = some a14 ∧
  ∃ (cs15 : Array Value), Ld Tryz.prog 319 (.pointer (some a14)) w1 (.agg cs15) ∧
  ∃ z6, Pu Tryz.prog (zeroValue 319) z6 ∧
  New z6.cells 319 w1 fun k6 w2 =>
  ∃ w3, Sto Tryz.prog 319 (.pointer (some (⟨k6, 0, none⟩ : Addr))) (.agg cs15) w2 w3 ∧
  LoopS [.pointer p0, v1, .pointer (some (⟨k5, 0, none⟩ : Addr)), .pointer (some (⟨k6, 0, none⟩ : Addr)), .int .i64 0] w3 fun I1 μ1 us1 _ wl1 =>
  ∃ p0_1 v1_1 a5 a6 n16, us1 = [.pointer p0_1, v1_1, .pointer (some a5), .pointer (some a6), .int .i64 n16] ∧
  cond (decide (n16 < 16))
  (∃ (cs23 : Array Value), Ld Tryz.prog 326 (.pointer (some a5)) wl1 (.agg cs23) ∧
    LoopS [.pointer p0_1, v1_1, .pointer (some a5), .pointer (some a6), .int .i64 n16, .int .i64 (IntKind.i64.wrap (Int.tdiv n16 4)), .int .i64 (Int.tmod n16 4), .int .u8 0, .int .i64 n16, .agg cs23, .int .i64 0] wl1 fun I2 μ2 us2 _ wl2 =>
    ∃ (p0_2 : Option Addr) (v1_2 : Value) (a5_1 : Addr) (a6_1 : Addr) (n7 : Int) (n8 : Int) (n9 : Int) (n10 : Int) (n16_1 : Int) (cs23_1 : Array Value) (n24 : Int), us2 = [.pointer p0_2, v1_2, .pointer (some a5_1), .pointer (some a6_1), .int .i64 n7, .int .i64 n8, .int .i64 n9, .int .u8 n10, .int .i64 n16_1, .agg cs23_1, .int .i64 n24] ∧
    cond (decide (n24 < 4))
    (∃ n27, Pu Tryz.prog (Instr.index 326 (.agg cs23_1) (.int .i64 n24)) (.int .i64 n27) ∧
      ∃ a38, IxA Tryz.prog 319 (.pointer (some a6_1)) (.int .i64 (IntKind.i64.wrap ((IntKind.i64.wrap (4 * n8)) + (Int.tmod (IntKind.i64.wrap (n9 + n24)) 4)))) a38 ∧
      ∃ n39, Ld Tryz.prog 5 (.pointer (some a38)) wl2 (.int .u8 n39) ∧
      callV Tryz.prog (v1_2) [.int .i64 n27, .int .u8 n39] wl2 fun r40 w4 =>
      ∃ n40, r40 = .int .u8 n40 ∧
      goesOn [] [] I2 μ2 us2 [.pointer p0_2, v1_2, .pointer (some a5_1), .pointer (some a6_1), .int .i64 n7, .int .i64 n8, .int .i64 n9, .int .u8 (ixor .u8 n10 n40), .int .i64 n16_1, .agg cs23_1, .int .i64 (IntKind.i64.wrap (n24 + 1))] wl2 w4)
    (aes_block_columns_j1 I1 μ1 us1 wl1 p0_2 (v1_2) a5_1 a6_1 n7 n10 n16_1 wl2 Q))
  (Q (.tuple #[]) wl1)
def aes_block_columns_tt : Nat → List (Nat × TypeId) := fun n => match n with | 0 => [(0, 370), (1, 325), (5, 1000000), (6, 1000000), (16, 3)] | 2 => [(0, 370), (1, 325), (5, 1000000), (6, 1000000), (7, 3), (8, 3), (9, 3), (10, 5), (16, 3), (23, 326), (24, 3)] | _ => []
theorem aes_block_columns_call (p0 : Option Addr) (v1 : Value) (cs2 : Array Value) (w : World) (Q : Value → World → Prop) (h : aes_block_columns p0 v1 cs2 w Q) : callF Tryz.prog 231 #[.pointer p0, v1, .agg cs2] w Q :=
  callBy aes_block_columns_tt Tryz.func231 h (fun _ _ => by kernel_rfl) (by kernel_rfl) (by kernel_rfl) (by kernel_rfl)
def aes_Cipher_times (p0 : Option Addr) (n1 : Int) (n2 : Int) (w : World) (Q : Value → World → Prop) : Prop :=
  cond (n1 == (-1))
  (Q (.int .u8 n2) w)
  (∃ a14, p0 = some a14 ∧
    ∃ p16, Ld Tryz.prog 318 (.pointer (some (a14.add 0))) w (.pointer p16) ∧
    callF Tryz.prog 264 #[.pointer p16, .int .i64 n1, .int .u8 n2] w fun r19 w1 =>
    ∃ n19 n19_1, r19 = .tuple #[.int .u8 n19, .int .i64 n19_1] ∧
    Q (.int .u8 n19) w1)
def aes_Cipher_times_tt : Nat → List (Nat × TypeId) := fun _ => []
theorem aes_Cipher_times_call (p0 : Option Addr) (n1 : Int) (n2 : Int) (w : World) (Q : Value → World → Prop) (h : aes_Cipher_times p0 n1 n2 w Q) : callF Tryz.prog 232 #[.pointer p0, .int .i64 n1, .int .u8 n2] w Q :=
  callBy aes_Cipher_times_tt Tryz.func232 h (fun _ _ => by kernel_rfl) (by kernel_rfl) (by kernel_rfl) (by kernel_rfl)
def aes_block_rows (p0 : Option Addr) (n1 : Int) (w : World) (Q : Value → World → Prop) : Prop :=
  ∃ a8, p0 = some a8 ∧
  ∃ (cs9 : Array Value), Ld Tryz.prog 319 (.pointer (some a8)) w (.agg cs9) ∧
  ∃ z4, Pu Tryz.prog (zeroValue 319) z4 ∧
  New z4.cells 319 w fun k4 w1 =>
  ∃ w2, Sto Tryz.prog 319 (.pointer (some (⟨k4, 0, none⟩ : Addr))) (.agg cs9) w1 w2 ∧
  LoopS [.pointer p0, .int .i64 n1, .pointer (some (⟨k4, 0, none⟩ : Addr)), .int .i64 0] w2 fun I1 μ1 us1 _ wl1 =>
  ∃ p0_1 n1_1 a4 n10, us1 = [.pointer p0_1, .int .i64 n1_1, .pointer (some a4), .int .i64 n10] ∧
  cond (decide (n10 < 16))
  (Drw wl1 fun w3 =>
    ∃ a24, IxA Tryz.prog 319 (.pointer (some a4)) (.int .i64 (Int.tmod (IntKind.i64.wrap (n10 + (IntKind.i64.wrap ((IntKind.i64.wrap (4 * n1_1)) * (Int.tmod n10 4))))) 16)) a24 ∧
    ∃ a26, p0_1 = some a26 ∧
    ∃ n25, Ld Tryz.prog 5 (.pointer (some a24)) w3 (.int .u8 n25) ∧
    ∃ a27, IxA Tryz.prog 319 (.pointer (some a26)) (.int .i64 n10) a27 ∧
    ∃ w4, Sto Tryz.prog 5 (.pointer (some a27)) (.int .u8 n25) w3 w4 ∧
    goesOn [] [] I1 μ1 us1 [.pointer p0_1, .int .i64 n1_1, .pointer (some a4), .int .i64 (IntKind.i64.wrap (n10 + 1))] wl1 w4)
  (Q (.tuple #[]) wl1)
def aes_block_rows_tt : Nat → List (Nat × TypeId) := fun n => match n with | 0 => [(0, 370), (1, 3), (4, 1000000), (10, 3)] | _ => []
theorem aes_block_rows_call (p0 : Option Addr) (n1 : Int) (w : World) (Q : Value → World → Prop) (h : aes_block_rows p0 n1 w Q) : callF Tryz.prog 233 #[.pointer p0, .int .i64 n1] w Q :=
  callBy aes_block_rows_tt Tryz.func233 h (fun _ _ => by kernel_rfl) (by kernel_rfl) (by kernel_rfl) (by kernel_rfl)
def aes_block_each (p0 : Option Addr) (v1 : Value) (w : World) (Q : Value → World → Prop) : Prop :=
  LoopS [.pointer p0, v1, .pointer p0, .int .i64 0] w fun I1 μ1 us1 _ wl1 =>
  ∃ p0_1 v1_1 p6 n7, us1 = [.pointer p0_1, v1_1, .pointer p6, .int .i64 n7] ∧
  cond (decide (n7 < 16))
  (Drw wl1 fun w1 =>
    ∃ a10, p6 = some a10 ∧
    ∃ a11, IxA Tryz.prog 319 (.pointer (some a10)) (.int .i64 n7) a11 ∧
    ∃ n12, Ld Tryz.prog 5 (.pointer (some a11)) w1 (.int .u8 n12) ∧
    Drw w1 fun w2 =>
    ∃ a18, p0_1 = some a18 ∧
    callV Tryz.prog (v1_1) [.int .u8 n12] w2 fun r17 w3 =>
    ∃ n17, r17 = .int .u8 n17 ∧
    ∃ a19, IxA Tryz.prog 319 (.pointer (some a18)) (.int .i64 n7) a19 ∧
    ∃ w4, Sto Tryz.prog 5 (.pointer (some a19)) (.int .u8 n17) w3 w4 ∧
    goesOn [] [] I1 μ1 us1 [.pointer p0_1, v1_1, .pointer p6, .int .i64 (IntKind.i64.wrap (n7 + 1))] wl1 w4)
  (Q (.tuple #[]) wl1)
def aes_block_each_tt : Nat → List (Nat × TypeId) := fun n => match n with | 0 => [(0, 370), (1, 329), (6, 370), (7, 3)] | _ => []
theorem aes_block_each_call (p0 : Option Addr) (v1 : Value) (w : World) (Q : Value → World → Prop) (h : aes_block_each p0 v1 w Q) : callF Tryz.prog 234 #[.pointer p0, v1] w Q :=
  callBy aes_block_each_tt Tryz.func234 h (fun _ _ => by kernel_rfl) (by kernel_rfl) (by kernel_rfl) (by kernel_rfl)
def aes_Cipher_turned_j1 (n2 : Int) (a6 : Addr) (a7 : Addr) (w : World) (Q : Value → World → Prop) : Prop :=
  ∃ (S7 : World → Prop),
  Drw w fun w1 =>
  ∃ a33, IxA Tryz.prog 334 (.pointer (some a7)) (.int .i64 0) a33 ∧
  ∃ n34, HLd Tryz.prog S7 5 (.pointer (some a33)) w1 (.int .u8 n34) ∧
  callF Tryz.prog 270 #[.int .u8 2, .int .u64 (IntKind.u64.wrap (IntKind.i64.wrap (n2 - 1)))] w1 fun r38 w2 =>
  ∃ n38, r38 = .int .u8 n38 ∧
  (w2 = w1 ∨ S7 w2) ∧
  ∃ a40, IxA Tryz.prog 334 (.pointer (some a7)) (.int .i64 0) a40 ∧
  ∃ w3, Sto Tryz.prog 5 (.pointer (some a40)) (.int .u8 (ixor .u8 n34 n38)) w2 w3 ∧
  ∃ (cs41 : Array Value), Ld Tryz.prog 334 (.pointer (some a7)) w3 (.agg cs41) ∧
  ∃ w4, Sto Tryz.prog 334 (.pointer (some a6)) (.agg cs41) w3 w4 ∧
  ∃ a6_1 v6, (.pointer (some a6) : Value) = .pointer (some a6_1) ∧ (loadVar 334 a6_1).run Tryz.prog w4 = .ok v6 w4 ∧
  Q (v6) w4
def aes_Cipher_turned (p0 : Option Addr) (cs1 : Array Value) (n2 : Int) (w : World) (Q : Value → World → Prop) : Prop :=
  New cs1 334 w fun k4 w1 =>
  ∃ z6, Pu Tryz.prog (zeroValue 334) z6 ∧
  New z6.cells 334 w1 fun k6 w2 =>
  ∃ a10, IxA Tryz.prog 334 (.pointer (some (⟨k4, 0, none⟩ : Addr))) (.int .i64 1) a10 ∧
  ∃ n11, Ld Tryz.prog 5 (.pointer (some a10)) w2 (.int .u8 n11) ∧
  ∃ a12, IxA Tryz.prog 334 (.pointer (some (⟨k4, 0, none⟩ : Addr))) (.int .i64 2) a12 ∧
  ∃ n13, Ld Tryz.prog 5 (.pointer (some a12)) w2 (.int .u8 n13) ∧
  ∃ a14, IxA Tryz.prog 334 (.pointer (some (⟨k4, 0, none⟩ : Addr))) (.int .i64 3) a14 ∧
  ∃ n15, Ld Tryz.prog 5 (.pointer (some a14)) w2 (.int .u8 n15) ∧
  ∃ a16, IxA Tryz.prog 334 (.pointer (some (⟨k4, 0, none⟩ : Addr))) (.int .i64 0) a16 ∧
  ∃ n17, Ld Tryz.prog 5 (.pointer (some a16)) w2 (.int .u8 n17) ∧
  ∃ z7, Pu Tryz.prog (zeroValue 334) z7 ∧
  New z7.cells 334 w2 fun k7 w3 =>
  ∃ w4, Sto Tryz.prog 334 (.pointer (some (⟨k7, 0, none⟩ : Addr))) (.agg #[.int .u8 n11, .int .u8 n13, .int .u8 n15, .int .u8 n17]) w3 w4 ∧
  ∃ (cs19 : Array Value), Ld Tryz.prog 334 (.pointer (some (⟨k7, 0, none⟩ : Addr))) w4 (.agg cs19) ∧
  LoopS [.pointer p0, .int .i64 n2, .pointer (some (⟨k6, 0, none⟩ : Addr)), .pointer (some (⟨k7, 0, none⟩ : Addr)), .agg cs19, .int .i64 0] w4 fun I1 μ1 us1 _ wl1 =>
  ∃ (p0_1 : Option Addr) (n2_1 : Int) (a6 : Addr) (a7 : Addr) (cs19_1 : Array Value) (n20 : Int), us1 = [.pointer p0_1, .int .i64 n2_1, .pointer (some a6), .pointer (some a7), .agg cs19_1, .int .i64 n20] ∧
  cond (decide (n20 < 4))
  (∃ n23, Pu Tryz.prog (Instr.index 334 (.agg cs19_1) (.int .i64 n20)) (.int .u8 n23) ∧
    ∃ a26, p0_1 = some a26 ∧
    ∃ p28, Ld Tryz.prog 318 (.pointer (some (a26.add 0))) wl1 (.pointer p28) ∧
    callF Tryz.prog 242 #[.pointer p28, .int .u8 n23] wl1 fun r30 w5 =>
    ∃ n30, r30 = .int .u8 n30 ∧
    ∃ a31, IxA Tryz.prog 334 (.pointer (some a7)) (.int .i64 n20) a31 ∧
    ∃ w6, Sto Tryz.prog 5 (.pointer (some a31)) (.int .u8 n30) w5 w6 ∧
    goesOn [] [] I1 μ1 us1 [.pointer p0_1, .int .i64 n2_1, .pointer (some a6), .pointer (some a7), .agg cs19_1, .int .i64 (IntKind.i64.wrap (n20 + 1))] wl1 w6)
  (aes_Cipher_turned_j1 n2_1 a6 a7 wl1 Q)
def aes_Cipher_turned_tt : Nat → List (Nat × TypeId) := fun n => match n with | 0 => [(0, 279), (2, 3), (6, 1000000), (7, 1000000), (19, 334), (20, 3)] | _ => []
theorem aes_Cipher_turned_call (p0 : Option Addr) (cs1 : Array Value) (n2 : Int) (w : World) (Q : Value → World → Prop) (h : aes_Cipher_turned p0 cs1 n2 w Q) : callF Tryz.prog 240 #[.pointer p0, .agg cs1, .int .i64 n2] w Q :=
  callBy aes_Cipher_turned_tt Tryz.func240 h (fun _ _ => by kernel_rfl) (by kernel_rfl) (by kernel_rfl) (by kernel_rfl)
def aes_word_plus_j1 (a2 : Addr) (a4 : Addr) (w : World) (Q : Value → World → Prop) : Prop :=
  ∃ (cs18 : Array Value), Ld Tryz.prog 334 (.pointer (some a2)) w (.agg cs18) ∧
  ∃ w1, Sto Tryz.prog 334 (.pointer (some a4)) (.agg cs18) w w1 ∧
  ∃ a4_1 v4, (.pointer (some a4) : Value) = .pointer (some a4_1) ∧ (loadVar 334 a4_1).run Tryz.prog w1 = .ok v4 w1 ∧
  Q (v4) w1
def aes_word_plus (cs0 : Array Value) (cs1 : Array Value) (w : World) (Q : Value → World → Prop) : Prop :=
  New cs0 334 w fun k2 w1 =>
  New cs1 334 w1 fun k3 w2 =>
  ∃ z4, Pu Tryz.prog (zeroValue 334) z4 ∧
  New z4.cells 334 w2 fun k4 w3 =>
  LoopS [.pointer (some (⟨k2, 0, none⟩ : Addr)), .pointer (some (⟨k3, 0, none⟩ : Addr)), .pointer (some (⟨k4, 0, none⟩ : Addr)), .int .i64 0] w3 fun I1 μ1 us1 _ wl1 =>
  ∃ a2 a3 a4 n6, us1 = [.pointer (some a2), .pointer (some a3), .pointer (some a4), .int .i64 n6] ∧
  cond (decide (n6 < 4))
  (∃ (S4 : World → Prop),
    Drw wl1 fun w4 =>
    ∃ a10, IxA Tryz.prog 334 (.pointer (some a2)) (.int .i64 n6) a10 ∧
    ∃ a13, IxA Tryz.prog 334 (.pointer (some a3)) (.int .i64 n6) a13 ∧
    ∃ n11, HLd Tryz.prog S4 5 (.pointer (some a10)) w4 (.int .u8 n11) ∧
    ∃ n14, Ld Tryz.prog 5 (.pointer (some a13)) w4 (.int .u8 n14) ∧
    (w4 = w4 ∨ S4 w4) ∧
    ∃ a16, IxA Tryz.prog 334 (.pointer (some a2)) (.int .i64 n6) a16 ∧
    ∃ w5, Sto Tryz.prog 5 (.pointer (some a16)) (.int .u8 (ixor .u8 n11 n14)) w4 w5 ∧
    goesOn [] [] I1 μ1 us1 [.pointer (some a2), .pointer (some a3), .pointer (some a4), .int .i64 (IntKind.i64.wrap (n6 + 1))] wl1 w5)
  (aes_word_plus_j1 a2 a4 wl1 Q)
def aes_word_plus_tt : Nat → List (Nat × TypeId) := fun n => match n with | 0 => [(2, 1000000), (3, 1000000), (4, 1000000), (6, 3)] | _ => []
theorem aes_word_plus_call (cs0 : Array Value) (cs1 : Array Value) (w : World) (Q : Value → World → Prop) (h : aes_word_plus cs0 cs1 w Q) : callF Tryz.prog 241 #[.agg cs0, .agg cs1] w Q :=
  callBy aes_word_plus_tt Tryz.func241 h (fun _ _ => by kernel_rfl) (by kernel_rfl) (by kernel_rfl) (by kernel_rfl)
end Go.Sh
end

section
namespace Go.Sh
open Go Go.Fw Go.Proofs
set_option maxRecDepth 100000
set_option linter.unusedVariables false
def ref00_CopyBytes (p0 : Option Addr) (l0 : Nat) (c0 : Nat) (w : World) (Q : Value → World → Prop) : Prop :=
  ∃ p3 l3 c3 w1, Ef Tryz.prog (Instr.buildSlice 25 0 #[]) w (.slice p3 l3 c3) w1 ∧
  ∃ p5 l5 c5 w2, Ef Tryz.prog (Builtin.append_ #[25, 25] 25 #[.slice p3 l3 c3, .slice p0 l0 c0]) w1 (.slice p5 l5 c5) w2 ∧
  Q (.slice p5 l5 c5) w2
def ref00_CopyBytes_tt : Nat → List (Nat × TypeId) := fun _ => []
theorem ref00_CopyBytes_call (p0 : Option Addr) (l0 : Nat) (c0 : Nat) (w : World) (Q : Value → World → Prop) (h : ref00_CopyBytes p0 l0 c0 w Q) : callF Tryz.prog 25 #[.slice p0 l0 c0] w Q :=
  callBy ref00_CopyBytes_tt Tryz.func25 h (fun _ _ => by kernel_rfl) (by kernel_rfl) (by kernel_rfl) (by kernel_rfl)
def ref00_SameBytes (p0 : Option Addr) (l0 : Nat) (c0 : Nat) (p1 : Option Addr) (l1 : Nat) (c1 : Nat) (w : World) (Q : Value → World → Prop) : Prop :=
  cond (((l0 : Nat) : Int) != ((l1 : Nat) : Int))
  (Q (.bool false) w)
  (LoopS [.slice p0 l0 c0, .slice p1 l1 c1, .bool false, .int .i64 0] w fun I1 μ1 us1 _ wl1 =>
    ∃ p0_1 l0_1 c0_1 p1_1 l1_1 c1_1 b4 n5, us1 = [.slice p0_1 l0_1 c0_1, .slice p1_1 l1_1 c1_1, .bool b4, .int .i64 n5] ∧
    cond (decide (n5 < ((l0_1 : Nat) : Int)))
    (∃ (S6 : World → Prop),
      Drw wl1 fun w1 =>
      ∃ a19, IxA Tryz.prog 25 (.slice p0_1 l0_1 c0_1) (.int .i64 n5) a19 ∧
      ∃ a23, IxA Tryz.prog 25 (.slice p1_1 l1_1 c1_1) (.int .i64 n5) a23 ∧
      ∃ n20, HLd Tryz.prog S6 5 (.pointer (some a19)) w1 (.int .u8 n20) ∧
      ∃ n24, Ld Tryz.prog 5 (.pointer (some a23)) w1 (.int .u8 n24) ∧
      (w1 = w1 ∨ S6 w1) ∧
      cond (n20 != n24)
      (Q (.bool false) w1)
      (goesOn [] [] I1 μ1 us1 [.slice p0_1 l0_1 c0_1, .slice p1_1 l1_1 c1_1, .bool b4, .int .i64 (IntKind.i64.wrap (n5 + 1))] wl1 w1))
    (Q (.bool true) wl1))
def ref00_SameBytes_tt : Nat → List (Nat × TypeId) := fun n => match n with | 0 => [(0, 25), (1, 25), (4, 4), (5, 3)] | _ => []
theorem ref00_SameBytes_call (p0 : Option Addr) (l0 : Nat) (c0 : Nat) (p1 : Option Addr) (l1 : Nat) (c1 : Nat) (w : World) (Q : Value → World → Prop) (h : ref00_SameBytes p0 l0 c0 p1 l1 c1 w Q) : callF Tryz.prog 33 #[.slice p0 l0 c0, .slice p1 l1 c1] w Q :=
  callBy ref00_SameBytes_tt Tryz.func33 h (fun _ _ => by kernel_rfl) (by kernel_rfl) (by kernel_rfl) (by kernel_rfl)
end Go.Sh
end

section
namespace Go.Sh
open Go Go.Fw Go.Proofs
set_option maxRecDepth 100000
set_option linter.unusedVariables false
def ref02_Mul_j1 (n4 : Int) (n5 : Int) (w : World) (Q : Value → World → Prop) : Prop :=
  LoopS [.int .u8 n4, .int .i64 n5, .int .i64 14] w fun I2 μ2 us2 _ wl2 =>
  ∃ n4_1 n5_1 n7, us2 = [.int .u8 n4_1, .int .i64 n5_1, .int .i64 n7] ∧
  cond (decide (n7 ≥ 8))
  (∃ n35, Pu Tryz.prog (do eqGuard .shl 3 (.const (.int .i64 1)) (.tmp 34) (.int .i64 1) (.int .u64 (IntKind.u64.wrap n7)); binOp .shl 3 (.int .i64 1) (.int .u64 (IntKind.u64.wrap n7)) : Sem Value) (.int .i64 n35) ∧
    ∃ n36, Pu Tryz.prog (do eqGuard .quo 3 (.tmp 32) (.tmp 35) (.int .i64 n5_1) (.int .i64 n35); binOp .quo 3 (.int .i64 n5_1) (.int .i64 n35) : Sem Value) (.int .i64 n36) ∧
    cond ((Int.tmod n36 2) == 1)
    (∃ n43, Pu Tryz.prog (do eqGuard .shl 3 (.const (.int .i64 1)) (.tmp 42) (.int .i64 1) (.int .u64 (IntKind.u64.wrap (IntKind.i64.wrap (n7 - 8)))); binOp .shl 3 (.int .i64 1) (.int .u64 (IntKind.u64.wrap (IntKind.i64.wrap (n7 - 8)))) : Sem Value) (.int .i64 n43) ∧
      goesOn [] [] I2 μ2 us2 [.int .u8 n4_1, .int .i64 (ixor .i64 n5_1 (IntKind.i64.wrap (283 * n43))), .int .i64 (IntKind.i64.wrap (n7 - 1))] wl2 wl2)
    (goesOn [] [] I2 μ2 us2 [.int .u8 n4_1, .int .i64 n5_1, .int .i64 (IntKind.i64.wrap (n7 - 1))] wl2 wl2))
  (Q (.int .u8 (IntKind.u8.wrap n5_1)) wl2)
def ref02_Mul (n0 : Int) (n1 : Int) (w : World) (Q : Value → World → Prop) : Prop :=
  LoopS [.int .u8 n0, .int .u8 n1, .int .u8 0, .int .i64 0, .int .i64 0] w fun I1 μ1 us1 _ wl1 =>
  ∃ n0_1 n1_1 n4 n5 n6, us1 = [.int .u8 n0_1, .int .u8 n1_1, .int .u8 n4, .int .i64 n5, .int .i64 n6] ∧
  cond (decide (n6 < 8))
  (∃ n16, Pu Tryz.prog (do eqGuard .shl 3 (.const (.int .i64 1)) (.tmp 15) (.int .i64 1) (.int .u64 (IntKind.u64.wrap n6)); binOp .shl 3 (.int .i64 1) (.int .u64 (IntKind.u64.wrap n6)) : Sem Value) (.int .i64 n16) ∧
    ∃ n17, Pu Tryz.prog (do eqGuard .quo 3 (.tmp 13) (.tmp 16) (.int .i64 (IntKind.i64.wrap n1_1)) (.int .i64 n16); binOp .quo 3 (.int .i64 (IntKind.i64.wrap n1_1)) (.int .i64 n16) : Sem Value) (.int .i64 n17) ∧
    cond ((Int.tmod n17 2) == 1)
    (∃ n25, Pu Tryz.prog (do eqGuard .shl 3 (.const (.int .i64 1)) (.tmp 24) (.int .i64 1) (.int .u64 (IntKind.u64.wrap n6)); binOp .shl 3 (.int .i64 1) (.int .u64 (IntKind.u64.wrap n6)) : Sem Value) (.int .i64 n25) ∧
      goesOn [] [] I1 μ1 us1 [.int .u8 n0_1, .int .u8 n1_1, .int .u8 n4, .int .i64 (ixor .i64 n5 (IntKind.i64.wrap ((IntKind.i64.wrap n0_1) * n25))), .int .i64 (IntKind.i64.wrap (n6 + 1))] wl1 wl1)
    (goesOn [] [] I1 μ1 us1 [.int .u8 n0_1, .int .u8 n1_1, .int .u8 n4, .int .i64 n5, .int .i64 (IntKind.i64.wrap (n6 + 1))] wl1 wl1))
  (ref02_Mul_j1 n4 n5 wl1 Q)
def ref02_Mul_tt : Nat → List (Nat × TypeId) := fun n => match n with | 0 => [(0, 5), (1, 5), (4, 5), (5, 3), (6, 3)] | 2 => [(4, 5), (5, 3), (7, 3)] | _ => []
theorem ref02_Mul_call (n0 : Int) (n1 : Int) (w : World) (Q : Value → World → Prop) (h : ref02_Mul n0 n1 w Q) : callF Tryz.prog 287 #[.int .u8 n0, .int .u8 n1] w Q :=
  callBy ref02_Mul_tt Tryz.func287 h (fun _ _ => by kernel_rfl) (by kernel_rfl) (by kernel_rfl) (by kernel_rfl)
def ref02_Sign_j1 (I1 : Inv) (μ1 : Meas) (us1 : List Value) (wl1 : World) (n2 : Int) (n3 : Int) (n4 : Int) (n5 : Int) (n6 : Int) (w : World) (Q : Value → World → Prop) : Prop :=
  ∃ n47, Pu Tryz.prog (do eqGuard .shl 3 (.const (.int .i64 1)) (.tmp 46) (.int .i64 1) (.int .u64 (IntKind.u64.wrap n5)); binOp .shl 3 (.int .i64 1) (.int .u64 (IntKind.u64.wrap n5)) : Sem Value) (.int .i64 n47) ∧
  goesOn [] [] I1 μ1 us1 [.int .u8 n2, .int .i64 n3, .int .i64 (IntKind.i64.wrap (n4 + (IntKind.i64.wrap ((Int.tmod n6 2) * n47)))), .int .i64 (IntKind.i64.wrap (n5 + 1))] wl1 w
def ref02_Sign (n0 : Int) (w : World) (Q : Value → World → Prop) : Prop :=
  LoopS [.int .u8 0, .int .i64 (IntKind.i64.wrap n0), .int .i64 0, .int .i64 0] w fun I1 μ1 us1 _ wl1 =>
  ∃ n2 n3 n4 n5, us1 = [.int .u8 n2, .int .i64 n3, .int .i64 n4, .int .i64 n5] ∧
  cond (decide (n5 < 8))
  (∃ n16, Pu Tryz.prog (do eqGuard .shl 3 (.const (.int .i64 1)) (.tmp 15) (.int .i64 1) (.int .u64 (IntKind.u64.wrap n5)); binOp .shl 3 (.int .i64 1) (.int .u64 (IntKind.u64.wrap n5)) : Sem Value) (.int .i64 n16) ∧
    ∃ n17, Pu Tryz.prog (do eqGuard .quo 3 (.const (.int .i64 99)) (.tmp 16) (.int .i64 99) (.int .i64 n16); binOp .quo 3 (.int .i64 99) (.int .i64 n16) : Sem Value) (.int .i64 n17) ∧
    ∃ n23, Pu Tryz.prog (do eqGuard .shl 3 (.const (.int .i64 1)) (.tmp 22) (.int .i64 1) (.int .u64 (IntKind.u64.wrap n5)); binOp .shl 3 (.int .i64 1) (.int .u64 (IntKind.u64.wrap n5)) : Sem Value) (.int .i64 n23) ∧
    ∃ n24, Pu Tryz.prog (do eqGuard .quo 3 (.tmp 20) (.tmp 23) (.int .i64 n3) (.int .i64 n23); binOp .quo 3 (.int .i64 n3) (.int .i64 n23) : Sem Value) (.int .i64 n24) ∧
    LoopS [.int .u8 n2, .int .i64 n3, .int .i64 n4, .int .i64 n5, .int .i64 (IntKind.i64.wrap ((Int.tmod n17 2) + (Int.tmod n24 2))), .int .i64 4] wl1 fun I2 μ2 us2 _ wl2 =>
    ∃ n2_1 n3_1 n4_1 n5_1 n6 n7, us2 = [.int .u8 n2_1, .int .i64 n3_1, .int .i64 n4_1, .int .i64 n5_1, .int .i64 n6, .int .i64 n7] ∧
    cond (decide (n7 < 8))
    (∃ n38, Pu Tryz.prog (do eqGuard .shl 3 (.const (.int .i64 1)) (.tmp 37) (.int .i64 1) (.int .u64 (IntKind.u64.wrap (Int.tmod (IntKind.i64.wrap (n5_1 + n7)) 8))); binOp .shl 3 (.int .i64 1) (.int .u64 (IntKind.u64.wrap (Int.tmod (IntKind.i64.wrap (n5_1 + n7)) 8))) : Sem Value) (.int .i64 n38) ∧
      ∃ n39, Pu Tryz.prog (do eqGuard .quo 3 (.tmp 32) (.tmp 38) (.int .i64 n3_1) (.int .i64 n38); binOp .quo 3 (.int .i64 n3_1) (.int .i64 n38) : Sem Value) (.int .i64 n39) ∧
      goesOn [] [] I2 μ2 us2 [.int .u8 n2_1, .int .i64 n3_1, .int .i64 n4_1, .int .i64 n5_1, .int .i64 (IntKind.i64.wrap (n6 + (Int.tmod n39 2))), .int .i64 (IntKind.i64.wrap (n7 + 1))] wl2 wl2)
    (ref02_Sign_j1 I1 μ1 us1 wl1 n2_1 n3_1 n4_1 n5_1 n6 wl2 Q))
  (Q (.int .u8 (IntKind.u8.wrap n4)) wl1)
def ref02_Sign_tt : Nat → List (Nat × TypeId) := fun n => match n with | 0 => [(2, 5), (3, 3), (4, 3), (5, 3)] | 2 => [(2, 5), (3, 3), (4, 3), (5, 3), (6, 3), (7, 3)] | _ => []
theorem ref02_Sign_call (n0 : Int) (w : World) (Q : Value → World → Prop) (h : ref02_Sign n0 w Q) : callF Tryz.prog 288 #[.int .u8 n0] w Q :=
  callBy ref02_Sign_tt Tryz.func288 h (fun _ _ => by kernel_rfl) (by kernel_rfl) (by kernel_rfl) (by kernel_rfl)
def ref02_Pow (n0 : Int) (n1 : Int) (w : World) (Q : Value → World → Prop) : Prop :=
  cond (n1 == 0)
  (Q (.int .u8 1) w)
  (cond (n0 == 0)
    (Q (.int .u8 0) w)
    (LoopS [.int .u8 n0, .int .u64 n1, .int .u8 0, .int .u8 1, .int .u64 0] w fun I1 μ1 us1 _ wl1 =>
      ∃ n0_1 n1_1 n4 n5 n6, us1 = [.int .u8 n0_1, .int .u64 n1_1, .int .u8 n4, .int .u8 n5, .int .u64 n6] ∧
      cond (decide (n6 < (Int.tmod n1_1 255)))
      (callF Tryz.prog 287 #[.int .u8 n5, .int .u8 n0_1] wl1 fun r19 w1 =>
        ∃ n19, r19 = .int .u8 n19 ∧
        goesOn [] [] I1 μ1 us1 [.int .u8 n0_1, .int .u64 n1_1, .int .u8 n4, .int .u8 n19, .int .u64 (IntKind.u64.wrap (n6 + 1))] wl1 w1)
      (Q (.int .u8 n5) wl1)))
def ref02_Pow_tt : Nat → List (Nat × TypeId) := fun n => match n with | 0 => [(0, 5), (1, 88), (4, 5), (5, 5), (6, 88)] | _ => []
theorem ref02_Pow_call (n0 : Int) (n1 : Int) (w : World) (Q : Value → World → Prop) (h : ref02_Pow n0 n1 w Q) : callF Tryz.prog 305 #[.int .u8 n0, .int .u64 n1] w Q :=
  callBy ref02_Pow_tt Tryz.func305 h (fun _ _ => by kernel_rfl) (by kernel_rfl) (by kernel_rfl) (by kernel_rfl)
end Go.Sh
end

section
namespace Go.Sh
open Go Go.Fw Go.Proofs
set_option maxRecDepth 100000
set_option linter.unusedVariables false
def ref03_Encrypt (p0 : Option Addr) (l0 : Nat) (c0 : Nat) (p1 : Option Addr) (l1 : Nat) (c1 : Nat) (w : World) (Q : Value → World → Prop) : Prop :=
  callF Tryz.prog 257 #[] w fun r7 w1 =>
  ∃ p7 l7 c7, r7 = .slice p7 l7 c7 ∧
  callF Tryz.prog 256 #[.slice p0 l0 c0, .slice p1 l1 c1, .slice p7 l7 c7] w1 fun r8 w2 =>
  ∃ p8 l8 c8, r8 = .slice p8 l8 c8 ∧
  Q (.slice p8 l8 c8) w2
def ref03_Encrypt_tt : Nat → List (Nat × TypeId) := fun _ => []
theorem ref03_Encrypt_call (p0 : Option Addr) (l0 : Nat) (c0 : Nat) (p1 : Option Addr) (l1 : Nat) (c1 : Nat) (w : World) (Q : Value → World → Prop) (h : ref03_Encrypt p0 l0 c0 p1 l1 c1 w Q) : callF Tryz.prog 221 #[.slice p0 l0 c0, .slice p1 l1 c1] w Q :=
  callBy ref03_Encrypt_tt Tryz.func221 h (fun _ _ => by kernel_rfl) (by kernel_rfl) (by kernel_rfl) (by kernel_rfl)
def ref03_With_j1 (I1 : Inv) (μ1 : Meas) (us1 : List Value) (wl1 : World) (p2 : Option Addr) (l2 : Nat) (c2 : Nat) (p6 : Option Addr) (l6 : Nat) (c6 : Nat) (p7 : Option Addr) (l7 : Nat) (c7 : Nat) (p8 : Option Addr) (l8 : Nat) (c8 : Nat) (n9 : Int) (w : World) (Q : Value → World → Prop) : Prop :=
  ∃ a34, IxA Tryz.prog 45 (.slice p7 l7 c7) (.int .i64 n9) a34 ∧
  ∃ p35 l35 c35, Ld Tryz.prog 25 (.pointer (some a34)) w (.slice p35 l35 c35) ∧
  callF Tryz.prog 283 #[.slice p8 l8 c8, .slice p35 l35 c35] w fun r36 w1 =>
  ∃ p36 l36 c36, r36 = .slice p36 l36 c36 ∧
  goesOn [] [] I1 μ1 us1 [.slice p2 l2 c2, .slice p6 l6 c6, .slice p7 l7 c7, .slice p36 l36 c36, .int .i64 (IntKind.i64.wrap (n9 + 1))] wl1 w1
def ref03_With (p0 : Option Addr) (l0 : Nat) (c0 : Nat) (p1 : Option Addr) (l1 : Nat) (c1 : Nat) (p2 : Option Addr) (l2 : Nat) (c2 : Nat) (w : World) (Q : Value → World → Prop) : Prop :=
  callF Tryz.prog 282 #[.slice p0 l0 c0, .slice p2 l2 c2] w fun r12 w1 =>
  ∃ p12 l12 c12, r12 = .slice p12 l12 c12 ∧
  ∃ a15, IxA Tryz.prog 45 (.slice p12 l12 c12) (.int .i64 0) a15 ∧
  ∃ p16 l16 c16, Ld Tryz.prog 25 (.pointer (some a15)) w1 (.slice p16 l16 c16) ∧
  callF Tryz.prog 283 #[.slice p1 l1 c1, .slice p16 l16 c16] w1 fun r17 w2 =>
  ∃ p17 l17 c17, r17 = .slice p17 l17 c17 ∧
  LoopS [.slice p2 l2 c2, .slice none 0 0, .slice p12 l12 c12, .slice p17 l17 c17, .int .i64 1] w2 fun I1 μ1 us1 _ wl1 =>
  ∃ p2_1 l2_1 c2_1 p6 l6 c6 p7 l7 c7 p8 l8 c8 n9, us1 = [.slice p2_1 l2_1 c2_1, .slice p6 l6 c6, .slice p7 l7 c7, .slice p8 l8 c8, .int .i64 n9] ∧
  cond (decide (n9 ≤ 10))
  (callF Tryz.prog 285 #[.slice p8 l8 c8, .slice p2_1 l2_1 c2_1] wl1 fun r24 w3 =>
    ∃ p24 l24 c24, r24 = .slice p24 l24 c24 ∧
    callF Tryz.prog 284 #[.slice p24 l24 c24, .int .i64 1] w3 fun r25 w4 =>
    ∃ p25 l25 c25, r25 = .slice p25 l25 c25 ∧
    cond (decide (n9 < 10))
    (callF Tryz.prog 286 #[.slice p25 l25 c25, .agg #[.int .u8 2, .int .u8 3, .int .u8 1, .int .u8 1]] w4 fun r30 w5 =>
      ∃ p30 l30 c30, r30 = .slice p30 l30 c30 ∧
      ref03_With_j1 I1 μ1 us1 wl1 p2_1 l2_1 c2_1 p6 l6 c6 p7 l7 c7 p30 l30 c30 n9 w5 Q)
    (ref03_With_j1 I1 μ1 us1 wl1 p2_1 l2_1 c2_1 p6 l6 c6 p7 l7 c7 p25 l25 c25 n9 w4 Q))
  (Q (.slice p8 l8 c8) wl1)
def ref03_With_tt : Nat → List (Nat × TypeId) := fun n => match n with | 0 => [(2, 25), (6, 25), (7, 45), (8, 25), (9, 3)] | _ => []
theorem ref03_With_call (p0 : Option Addr) (l0 : Nat) (c0 : Nat) (p1 : Option Addr) (l1 : Nat) (c1 : Nat) (p2 : Option Addr) (l2 : Nat) (c2 : Nat) (w : World) (Q : Value → World → Prop) (h : ref03_With p0 l0 c0 p1 l1 c1 p2 l2 c2 w Q) : callF Tryz.prog 256 #[.slice p0 l0 c0, .slice p1 l1 c1, .slice p2 l2 c2] w Q :=
  callBy ref03_With_tt Tryz.func256 h (fun _ _ => by kernel_rfl) (by kernel_rfl) (by kernel_rfl) (by kernel_rfl)
def ref03_Table_j1 (p0 : Option Addr) (l0 : Nat) (c0 : Nat) (p1 : Option Addr) (l1 : Nat) (c1 : Nat) (w : World) (Q : Value → World → Prop) : Prop :=
  ∃ p19 l19 c19 w1, Ef Tryz.prog (Instr.makeSlice 25 (.int .i64 256) (.int .i64 256)) w (.slice p19 l19 c19) w1 ∧
  callF Tryz.prog 288 #[.int .u8 0] w1 fun r21 w2 =>
  ∃ n21, r21 = .int .u8 n21 ∧
  ∃ a22, IxA Tryz.prog 25 (.slice p19 l19 c19) (.int .i64 0) a22 ∧
  ∃ w3, Sto Tryz.prog 5 (.pointer (some a22)) (.int .u8 n21) w2 w3 ∧
  LoopS [.slice p0 l0 c0, .slice p1 l1 c1, .slice p19 l19 c19, .int .i64 0] w3 fun I2 μ2 us2 _ wl2 =>
  ∃ p0_1 l0_1 c0_1 p1_1 l1_1 c1_1 p3 l3 c3 n4, us2 = [.slice p0_1 l0_1 c0_1, .slice p1_1 l1_1 c1_1, .slice p3 l3 c3, .int .i64 n4] ∧
  cond (decide (n4 < 255))
  (∃ (S11 : World → Prop),
    Drw wl2 fun w4 =>
    ∃ a30, IxA Tryz.prog 25 (.slice p1_1 l1_1 c1_1) (.int .i64 n4) a30 ∧
    ∃ a36, IxA Tryz.prog 25 (.slice p1_1 l1_1 c1_1) (.int .i64 (Int.tmod (IntKind.i64.wrap (255 - n4)) 255)) a36 ∧
    ∃ n31, HLd Tryz.prog S11 5 (.pointer (some a30)) w4 (.int .u8 n31) ∧
    ∃ n37, Ld Tryz.prog 5 (.pointer (some a36)) w4 (.int .u8 n37) ∧
    (w4 = w4 ∨ S11 w4) ∧
    callF Tryz.prog 288 #[.int .u8 n37] w4 fun r38 w5 =>
    ∃ n38, r38 = .int .u8 n38 ∧
    (w5 = w4 ∨ S11 w5) ∧
    ∃ a39, IxA Tryz.prog 25 (.slice p3 l3 c3) (.int .u8 n31) a39 ∧
    ∃ w6, Sto Tryz.prog 5 (.pointer (some a39)) (.int .u8 n38) w5 w6 ∧
    goesOn [] [] I2 μ2 us2 [.slice p0_1 l0_1 c0_1, .slice p1_1 l1_1 c1_1, .slice p3 l3 c3, .int .i64 (IntKind.i64.wrap (n4 + 1))] wl2 w6)
  (Q (.slice p3 l3 c3) wl2)
def ref03_Table  (w : World) (Q : Value → World → Prop) : Prop :=
  ∃ p5 l5 c5 w1, Ef Tryz.prog (Instr.buildSlice 25 1 #[(0, .int .u8 1)]) w (.slice p5 l5 c5) w1 ∧
  LoopS [.slice none 0 0, .slice p5 l5 c5, .int .i64 1] w1 fun I1 μ1 us1 _ wl1 =>
  ∃ p0 l0 c0 p1 l1 c1 n2, us1 = [.slice p0 l0 c0, .slice p1 l1 c1, .int .i64 n2] ∧
  cond (decide (n2 < 255))
  (∃ a14, IxA Tryz.prog 25 (.slice p1 l1 c1) (.int .i64 (IntKind.i64.wrap (n2 - 1))) a14 ∧
    ∃ n15, Ld Tryz.prog 5 (.pointer (some a14)) wl1 (.int .u8 n15) ∧
    callF Tryz.prog 287 #[.int .u8 n15, .int .u8 3] wl1 fun r16 w2 =>
    ∃ n16, r16 = .int .u8 n16 ∧
    ∃ p17 l17 c17 w3, Ef Tryz.prog (Instr.buildSlice 25 1 #[(0, .int .u8 n16)]) w2 (.slice p17 l17 c17) w3 ∧
    ∃ p18 l18 c18 w4, Ef Tryz.prog (Builtin.append_ #[25, 25] 25 #[.slice p1 l1 c1, .slice p17 l17 c17]) w3 (.slice p18 l18 c18) w4 ∧
    goesOn [] [] I1 μ1 us1 [.slice p0 l0 c0, .slice p18 l18 c18, .int .i64 (IntKind.i64.wrap (n2 + 1))] wl1 w4)
  (ref03_Table_j1 p0 l0 c0 p1 l1 c1 wl1 Q)
def ref03_Table_tt : Nat → List (Nat × TypeId) := fun n => match n with | 0 => [(0, 25), (1, 25), (2, 3)] | 2 => [(0, 25), (1, 25), (3, 25), (4, 3)] | _ => []
theorem ref03_Table_call  (w : World) (Q : Value → World → Prop) (h : ref03_Table  w Q) : callF Tryz.prog 257 #[] w Q :=
  callBy ref03_Table_tt Tryz.func257 h (fun _ _ => by kernel_rfl) (by kernel_rfl) (by kernel_rfl) (by kernel_rfl)
def ref03_Keys_j1 (I2 : Inv) (μ2 : Meas) (us2 : List Value) (wl2 : World) (p1 : Option Addr) (l1 : Nat) (c1 : Nat) (p4 : Option Addr) (l4 : Nat) (c4 : Nat) (p5 : Option Addr) (l5 : Nat) (c5 : Nat) (n7 : Int) (p8 : Option Addr) (l8 : Nat) (c8 : Nat) (w : World) (Q : Value → World → Prop) : Prop :=
  ∃ a71, IxA Tryz.prog 45 (.slice p5 l5 c5) (.int .i64 (IntKind.i64.wrap (n7 - 4))) a71 ∧
  ∃ p72 l72 c72, Ld Tryz.prog 25 (.pointer (some a71)) w (.slice p72 l72 c72) ∧
  callF Tryz.prog 283 #[.slice p72 l72 c72, .slice p8 l8 c8] w fun r74 w1 =>
  ∃ p74 l74 c74, r74 = .slice p74 l74 c74 ∧
  ∃ p75 l75 c75 w2, Ef Tryz.prog (Instr.buildSlice 45 1 #[(0, .slice p74 l74 c74)]) w1 (.slice p75 l75 c75) w2 ∧
  ∃ p76 l76 c76 w3, Ef Tryz.prog (Builtin.append_ #[45, 45] 45 #[.slice p5 l5 c5, .slice p75 l75 c75]) w2 (.slice p76 l76 c76) w3 ∧
  goesOn [] [] I2 μ2 us2 [.slice p1 l1 c1, .slice p4 l4 c4, .slice p76 l76 c76, .int .i64 (IntKind.i64.wrap (n7 + 1))] wl2 w3
def ref03_Keys_j2 (p4 : Option Addr) (l4 : Nat) (c4 : Nat) (p5 : Option Addr) (l5 : Nat) (c5 : Nat) (w : World) (Q : Value → World → Prop) : Prop :=
  ∃ p77 l77 c77 w1, Ef Tryz.prog (Instr.buildSlice 45 0 #[]) w (.slice p77 l77 c77) w1 ∧
  LoopS [.slice p4 l4 c4, .slice p5 l5 c5, .slice p77 l77 c77, .int .i64 0] w1 fun I3 μ3 us3 _ wl3 =>
  ∃ p4_1 l4_1 c4_1 p5_1 l5_1 c5_1 p9 l9 c9 n10, us3 = [.slice p4_1 l4_1 c4_1, .slice p5_1 l5_1 c5_1, .slice p9 l9 c9, .int .i64 n10] ∧
  cond (decide (n10 < 11))
  (∃ p82 l82 c82 w2, Ef Tryz.prog (Instr.buildSlice 25 0 #[]) wl3 (.slice p82 l82 c82) w2 ∧
    LoopS [.slice p4_1 l4_1 c4_1, .slice p5_1 l5_1 c5_1, .slice p9 l9 c9, .int .i64 n10, .slice p82 l82 c82, .int .i64 0] w2 fun I4 μ4 us4 _ wl4 =>
    ∃ p4_2 l4_2 c4_2 p5_2 l5_2 c5_2 p9_1 l9_1 c9_1 n10_1 p11 l11 c11 n12, us4 = [.slice p4_2 l4_2 c4_2, .slice p5_2 l5_2 c5_2, .slice p9_1 l9_1 c9_1, .int .i64 n10_1, .slice p11 l11 c11, .int .i64 n12] ∧
    cond (decide (n12 < 4))
    (∃ a93, IxA Tryz.prog 45 (.slice p5_2 l5_2 c5_2) (.int .i64 (IntKind.i64.wrap ((IntKind.i64.wrap (4 * n10_1)) + n12))) a93 ∧
      ∃ p94 l94 c94, Ld Tryz.prog 25 (.pointer (some a93)) wl4 (.slice p94 l94 c94) ∧
      ∃ p95 l95 c95 w3, Ef Tryz.prog (Builtin.append_ #[25, 25] 25 #[.slice p11 l11 c11, .slice p94 l94 c94]) wl4 (.slice p95 l95 c95) w3 ∧
      goesOn [] [] I4 μ4 us4 [.slice p4_2 l4_2 c4_2, .slice p5_2 l5_2 c5_2, .slice p9_1 l9_1 c9_1, .int .i64 n10_1, .slice p95 l95 c95, .int .i64 (IntKind.i64.wrap (n12 + 1))] wl4 w3)
    (∃ p98 l98 c98 w4, Ef Tryz.prog (Instr.buildSlice 45 1 #[(0, .slice p11 l11 c11)]) wl4 (.slice p98 l98 c98) w4 ∧
      ∃ p99 l99 c99 w5, Ef Tryz.prog (Builtin.append_ #[45, 45] 45 #[.slice p9_1 l9_1 c9_1, .slice p98 l98 c98]) w4 (.slice p99 l99 c99) w5 ∧
      goesOn [] [] I3 μ3 us3 [.slice p4_2 l4_2 c4_2, .slice p5_2 l5_2 c5_2, .slice p99 l99 c99, .int .i64 (IntKind.i64.wrap (n10_1 + 1))] wl3 w5))
  (Q (.slice p9 l9 c9) wl3)
def ref03_Keys_j3 (p1 : Option Addr) (l1 : Nat) (c1 : Nat) (p4 : Option Addr) (l4 : Nat) (c4 : Nat) (p5 : Option Addr) (l5 : Nat) (c5 : Nat) (w : World) (Q : Value → World → Prop) : Prop :=
  LoopS [.slice p1 l1 c1, .slice p4 l4 c4, .slice p5 l5 c5, .int .i64 4] w fun I2 μ2 us2 _ wl2 =>
  ∃ p1_1 l1_1 c1_1 p4_1 l4_1 c4_1 p5_1 l5_1 c5_1 n7, us2 = [.slice p1_1 l1_1 c1_1, .slice p4_1 l4_1 c4_1, .slice p5_1 l5_1 c5_1, .int .i64 n7] ∧
  cond (decide (n7 < 44))
  (∃ a37, IxA Tryz.prog 45 (.slice p5_1 l5_1 c5_1) (.int .i64 (IntKind.i64.wrap (n7 - 1))) a37 ∧
    ∃ p38 l38 c38, Ld Tryz.prog 25 (.pointer (some a37)) wl2 (.slice p38 l38 c38) ∧
    cond ((Int.tmod n7 4) == 0)
    (∃ (S11 : World → Prop),
      Drw wl2 fun w1 =>
      ∃ a43, IxA Tryz.prog 25 (.slice p38 l38 c38) (.int .i64 1) a43 ∧
      ∃ a46, IxA Tryz.prog 25 (.slice p38 l38 c38) (.int .i64 2) a46 ∧
      ∃ a49, IxA Tryz.prog 25 (.slice p38 l38 c38) (.int .i64 3) a49 ∧
      ∃ a52, IxA Tryz.prog 25 (.slice p38 l38 c38) (.int .i64 0) a52 ∧
      ∃ n44, HLd Tryz.prog S11 5 (.pointer (some a43)) w1 (.int .u8 n44) ∧
      ∃ n47, HLd Tryz.prog S11 5 (.pointer (some a46)) w1 (.int .u8 n47) ∧
      ∃ n50, HLd Tryz.prog S11 5 (.pointer (some a49)) w1 (.int .u8 n50) ∧
      ∃ n53, Ld Tryz.prog 5 (.pointer (some a52)) w1 (.int .u8 n53) ∧
      (w1 = w1 ∨ S11 w1) ∧
      ∃ p54 l54 c54 w2, Ef Tryz.prog (Instr.buildSlice 25 4 #[(0, .int .u8 n44), (1, .int .u8 n47), (2, .int .u8 n50), (3, .int .u8 n53)]) w1 (.slice p54 l54 c54) w2 ∧
      callF Tryz.prog 285 #[.slice p54 l54 c54, .slice p1_1 l1_1 c1_1] w2 fun r56 w3 =>
      ∃ p56 l56 c56, r56 = .slice p56 l56 c56 ∧
      ∃ (S12 : World → Prop),
      Drw w3 fun w4 =>
      ∃ a58, IxA Tryz.prog 25 (.slice p56 l56 c56) (.int .i64 0) a58 ∧
      ∃ n59, HLd Tryz.prog S12 5 (.pointer (some a58)) w4 (.int .u8 n59) ∧
      callF Tryz.prog 305 #[.int .u8 2, .int .u64 (IntKind.u64.wrap (IntKind.i64.wrap ((IntKind.i64.wrap (Int.tdiv n7 4)) - 1)))] w4 fun r64 w5 =>
      ∃ n64, r64 = .int .u8 n64 ∧
      (w5 = w4 ∨ S12 w5) ∧
      ∃ a66, IxA Tryz.prog 25 (.slice p56 l56 c56) (.int .i64 0) a66 ∧
      ∃ w6, Sto Tryz.prog 5 (.pointer (some a66)) (.int .u8 (ixor .u8 n59 n64)) w5 w6 ∧
      ref03_Keys_j1 I2 μ2 us2 wl2 p1_1 l1_1 c1_1 p4_1 l4_1 c4_1 p5_1 l5_1 c5_1 n7 p56 l56 c56 w6 Q)
    (ref03_Keys_j1 I2 μ2 us2 wl2 p1_1 l1_1 c1_1 p4_1 l4_1 c4_1 p5_1 l5_1 c5_1 n7 p38 l38 c38 wl2 Q))
  (ref03_Keys_j2 p4_1 l4_1 c4_1 p5_1 l5_1 c5_1 wl2 Q)
def ref03_Keys (p0 : Option Addr) (l0 : Nat) (c0 : Nat) (p1 : Option Addr) (l1 : Nat) (c1 : Nat) (w : World) (Q : Value → World → Prop) : Prop :=
  ∃ p13 l13 c13 w1, Ef Tryz.prog (Instr.buildSlice 45 0 #[]) w (.slice p13 l13 c13) w1 ∧
  LoopS [.slice p0 l0 c0, .slice p1 l1 c1, .slice none 0 0, .slice p13 l13 c13, .int .i64 0] w1 fun I1 μ1 us1 _ wl1 =>
  ∃ p0_1 l0_1 c0_1 p1_1 l1_1 c1_1 p4 l4 c4 p5 l5 c5 n6, us1 = [.slice p0_1 l0_1 c0_1, .slice p1_1 l1_1 c1_1, .slice p4 l4 c4, .slice p5 l5 c5, .int .i64 n6] ∧
  cond (decide (n6 < 4))
  (∃ p19 l19 c19 w2, Ef Tryz.prog (Instr.buildSlice 25 0 #[]) wl1 (.slice p19 l19 c19) w2 ∧
    ∃ p26 l26 c26, Pu Tryz.prog (Instr.sliceAt 25 (.slice p0_1 l0_1 c0_1) (some (.int .i64 (IntKind.i64.wrap (4 * n6)))) (some (.int .i64 (IntKind.i64.wrap ((IntKind.i64.wrap (4 * n6)) + 4)))) none) (.slice p26 l26 c26) ∧
    ∃ p27 l27 c27 w3, Ef Tryz.prog (Builtin.append_ #[25, 25] 25 #[.slice p19 l19 c19, .slice p26 l26 c26]) w2 (.slice p27 l27 c27) w3 ∧
    ∃ p28 l28 c28 w4, Ef Tryz.prog (Instr.buildSlice 45 1 #[(0, .slice p27 l27 c27)]) w3 (.slice p28 l28 c28) w4 ∧
    ∃ p29 l29 c29 w5, Ef Tryz.prog (Builtin.append_ #[45, 45] 45 #[.slice p5 l5 c5, .slice p28 l28 c28]) w4 (.slice p29 l29 c29) w5 ∧
    goesOn [] [] I1 μ1 us1 [.slice p0_1 l0_1 c0_1, .slice p1_1 l1_1 c1_1, .slice p4 l4 c4, .slice p29 l29 c29, .int .i64 (IntKind.i64.wrap (n6 + 1))] wl1 w5)
  (ref03_Keys_j3 p1_1 l1_1 c1_1 p4 l4 c4 p5 l5 c5 wl1 Q)
def ref03_Keys_tt : Nat → List (Nat × TypeId) := fun n => match n with | 0 => [(0, 25), (1, 25), (4, 45), (5, 45), (6, 3)] | 2 => [(1, 25), (4, 45), (5, 45), (7, 3)] | 4 => [(4, 45), (5, 45), (9, 45), (10, 3)] | 6 => [(4, 45), (5, 45), (9, 45), (10, 3), (11, 25), (12, 3)] | _ => []
theorem ref03_Keys_call (p0 : Option Addr) (l0 : Nat) (c0 : Nat) (p1 : Option Addr) (l1 : Nat) (c1 : Nat) (w : World) (Q : Value → World → Prop) (h : ref03_Keys p0 l0 c0 p1 l1 c1 w Q) : callF Tryz.prog 282 #[.slice p0 l0 c0, .slice p1 l1 c1] w Q :=
  callBy ref03_Keys_tt Tryz.func282 h (fun _ _ => by kernel_rfl) (by kernel_rfl) (by kernel_rfl) (by kernel_rfl)
def ref03_add (p0 : Option Addr) (l0 : Nat) (c0 : Nat) (p1 : Option Addr) (l1 : Nat) (c1 : Nat) (w : World) (Q : Value → World → Prop) : Prop :=
  ∃ p7 l7 c7 w1, Ef Tryz.prog (Instr.buildSlice 25 0 #[]) w (.slice p7 l7 c7) w1 ∧
  LoopS [.slice p0 l0 c0, .slice p1 l1 c1, .slice none 0 0, .slice p7 l7 c7, .int .i64 0] w1 fun I1 μ1 us1 _ wl1 =>
  ∃ p0_1 l0_1 c0_1 p1_1 l1_1 c1_1 p4 l4 c4 p5 l5 c5 n6, us1 = [.slice p0_1 l0_1 c0_1, .slice p1_1 l1_1 c1_1, .slice p4 l4 c4, .slice p5 l5 c5, .int .i64 n6] ∧
  cond (decide (n6 < ((l0_1 : Nat) : Int)))
  (∃ (S5 : World → Prop),
    Drw wl1 fun w2 =>
    ∃ a17, IxA Tryz.prog 25 (.slice p0_1 l0_1 c0_1) (.int .i64 n6) a17 ∧
    ∃ a21, IxA Tryz.prog 25 (.slice p1_1 l1_1 c1_1) (.int .i64 n6) a21 ∧
    ∃ n18, HLd Tryz.prog S5 5 (.pointer (some a17)) w2 (.int .u8 n18) ∧
    ∃ n22, Ld Tryz.prog 5 (.pointer (some a21)) w2 (.int .u8 n22) ∧
    (w2 = w2 ∨ S5 w2) ∧
    ∃ p24 l24 c24 w3, Ef Tryz.prog (Instr.buildSlice 25 1 #[(0, .int .u8 (ixor .u8 n18 n22))]) w2 (.slice p24 l24 c24) w3 ∧
    ∃ p25 l25 c25 w4, Ef Tryz.prog (Builtin.append_ #[25, 25] 25 #[.slice p5 l5 c5, .slice p24 l24 c24]) w3 (.slice p25 l25 c25) w4 ∧
    goesOn [] [] I1 μ1 us1 [.slice p0_1 l0_1 c0_1, .slice p1_1 l1_1 c1_1, .slice p4 l4 c4, .slice p25 l25 c25, .int .i64 (IntKind.i64.wrap (n6 + 1))] wl1 w4)
  (Q (.slice p5 l5 c5) wl1)
def ref03_add_tt : Nat → List (Nat × TypeId) := fun n => match n with | 0 => [(0, 25), (1, 25), (4, 25), (5, 25), (6, 3)] | _ => []
theorem ref03_add_call (p0 : Option Addr) (l0 : Nat) (c0 : Nat) (p1 : Option Addr) (l1 : Nat) (c1 : Nat) (w : World) (Q : Value → World → Prop) (h : ref03_add p0 l0 c0 p1 l1 c1 w Q) : callF Tryz.prog 283 #[.slice p0 l0 c0, .slice p1 l1 c1] w Q :=
  callBy ref03_add_tt Tryz.func283 h (fun _ _ => by kernel_rfl) (by kernel_rfl) (by kernel_rfl) (by kernel_rfl)
def ref03_rows (p0 : Option Addr) (l0 : Nat) (c0 : Nat) (n1 : Int) (w : World) (Q : Value → World → Prop) : Prop :=
  ∃ p8 l8 c8 w1, Ef Tryz.prog (Instr.makeSlice 25 (.int .i64 16) (.int .i64 16)) w (.slice p8 l8 c8) w1 ∧
  LoopS [.slice p0 l0 c0, .int .i64 n1, .slice none 0 0, .slice p8 l8 c8, .int .i64 0] w1 fun I1 μ1 us1 _ wl1 =>
  ∃ p0_1 l0_1 c0_1 n1_1 p4 l4 c4 p5 l5 c5 n6, us1 = [.slice p0_1 l0_1 c0_1, .int .i64 n1_1, .slice p4 l4 c4, .slice p5 l5 c5, .int .i64 n6] ∧
  cond (decide (n6 < 4))
  (LoopS [.slice p0_1 l0_1 c0_1, .int .i64 n1_1, .slice p4 l4 c4, .slice p5 l5 c5, .int .i64 n6, .int .i64 0] wl1 fun I2 μ2 us2 _ wl2 =>
    ∃ p0_2 l0_2 c0_2 n1_2 p4_1 l4_1 c4_1 p5_1 l5_1 c5_1 n6_1 n7, us2 = [.slice p0_2 l0_2 c0_2, .int .i64 n1_2, .slice p4_1 l4_1 c4_1, .slice p5_1 l5_1 c5_1, .int .i64 n6_1, .int .i64 n7] ∧
    cond (decide (n7 < 4))
    (callF Tryz.prog 306 #[.int .i64 n6_1, .int .i64 n7] wl2 fun r20 w2 =>
      ∃ n20, r20 = .int .i64 n20 ∧
      callF Tryz.prog 306 #[.int .i64 n6_1, .int .i64 (IntKind.i64.wrap (n7 + (IntKind.i64.wrap (n1_2 * n6_1))))] w2 fun r28 w3 =>
      ∃ n28, r28 = .int .i64 n28 ∧
      ∃ a29, IxA Tryz.prog 25 (.slice p0_2 l0_2 c0_2) (.int .i64 n28) a29 ∧
      ∃ n30, Ld Tryz.prog 5 (.pointer (some a29)) w3 (.int .u8 n30) ∧
      ∃ a31, IxA Tryz.prog 25 (.slice p5_1 l5_1 c5_1) (.int .i64 n20) a31 ∧
      ∃ w4, Sto Tryz.prog 5 (.pointer (some a31)) (.int .u8 n30) w3 w4 ∧
      goesOn [] [] I2 μ2 us2 [.slice p0_2 l0_2 c0_2, .int .i64 n1_2, .slice p4_1 l4_1 c4_1, .slice p5_1 l5_1 c5_1, .int .i64 n6_1, .int .i64 (IntKind.i64.wrap (n7 + 1))] wl2 w4)
    (goesOn [] [] I1 μ1 us1 [.slice p0_2 l0_2 c0_2, .int .i64 n1_2, .slice p4_1 l4_1 c4_1, .slice p5_1 l5_1 c5_1, .int .i64 (IntKind.i64.wrap (n6_1 + 1))] wl1 wl2))
  (Q (.slice p5 l5 c5) wl1)
def ref03_rows_tt : Nat → List (Nat × TypeId) := fun n => match n with | 0 => [(0, 25), (1, 3), (4, 25), (5, 25), (6, 3)] | 2 => [(0, 25), (1, 3), (4, 25), (5, 25), (6, 3), (7, 3)] | _ => []
theorem ref03_rows_call (p0 : Option Addr) (l0 : Nat) (c0 : Nat) (n1 : Int) (w : World) (Q : Value → World → Prop) (h : ref03_rows p0 l0 c0 n1 w Q) : callF Tryz.prog 284 #[.slice p0 l0 c0, .int .i64 n1] w Q :=
  callBy ref03_rows_tt Tryz.func284 h (fun _ _ => by kernel_rfl) (by kernel_rfl) (by kernel_rfl) (by kernel_rfl)
def ref03_subs (p0 : Option Addr) (l0 : Nat) (c0 : Nat) (p1 : Option Addr) (l1 : Nat) (c1 : Nat) (w : World) (Q : Value → World → Prop) : Prop :=
  ∃ p7 l7 c7 w1, Ef Tryz.prog (Instr.buildSlice 25 0 #[]) w (.slice p7 l7 c7) w1 ∧
  LoopS [.slice p0 l0 c0, .slice p1 l1 c1, .slice none 0 0, .slice p7 l7 c7, .int .i64 0] w1 fun I1 μ1 us1 _ wl1 =>
  ∃ p0_1 l0_1 c0_1 p1_1 l1_1 c1_1 p4 l4 c4 p5 l5 c5 n6, us1 = [.slice p0_1 l0_1 c0_1, .slice p1_1 l1_1 c1_1, .slice p4 l4 c4, .slice p5 l5 c5, .int .i64 n6] ∧
  cond (decide (n6 < ((l0_1 : Nat) : Int)))
  (∃ a18, IxA Tryz.prog 25 (.slice p0_1 l0_1 c0_1) (.int .i64 n6) a18 ∧
    ∃ n19, Ld Tryz.prog 5 (.pointer (some a18)) wl1 (.int .u8 n19) ∧
    ∃ a20, IxA Tryz.prog 25 (.slice p1_1 l1_1 c1_1) (.int .u8 n19) a20 ∧
    ∃ n21, Ld Tryz.prog 5 (.pointer (some a20)) wl1 (.int .u8 n21) ∧
    ∃ p22 l22 c22 w2, Ef Tryz.prog (Instr.buildSlice 25 1 #[(0, .int .u8 n21)]) wl1 (.slice p22 l22 c22) w2 ∧
    ∃ p23 l23 c23 w3, Ef Tryz.prog (Builtin.append_ #[25, 25] 25 #[.slice p5 l5 c5, .slice p22 l22 c22]) w2 (.slice p23 l23 c23) w3 ∧
    goesOn [] [] I1 μ1 us1 [.slice p0_1 l0_1 c0_1, .slice p1_1 l1_1 c1_1, .slice p4 l4 c4, .slice p23 l23 c23, .int .i64 (IntKind.i64.wrap (n6 + 1))] wl1 w3)
  (Q (.slice p5 l5 c5) wl1)
def ref03_subs_tt : Nat → List (Nat × TypeId) := fun n => match n with | 0 => [(0, 25), (1, 25), (4, 25), (5, 25), (6, 3)] | _ => []
theorem ref03_subs_call (p0 : Option Addr) (l0 : Nat) (c0 : Nat) (p1 : Option Addr) (l1 : Nat) (c1 : Nat) (w : World) (Q : Value → World → Prop) (h : ref03_subs p0 l0 c0 p1 l1 c1 w Q) : callF Tryz.prog 285 #[.slice p0 l0 c0, .slice p1 l1 c1] w Q :=
  callBy ref03_subs_tt Tryz.func285 h (fun _ _ => by kernel_rfl) (by kernel_rfl) (by kernel_rfl) (by kernel_rfl)
def ref03_columns_j1 (I1 : Inv) (μ1 : Meas) (us1 : List Value) (wl1 : World) (I2 : Inv) (μ2 : Meas) (us2 : List Value) (wl2 : World) (p0 : Option Addr) (l0 : Nat) (c0 : Nat) (a3 : Addr) (p4 : Option Addr) (l4 : Nat) (c4 : Nat) (p5 : Option Addr) (l5 : Nat) (c5 : Nat) (n6 : Int) (n7 : Int) (n8 : Int) (w : World) (Q : Value → World → Prop) : Prop :=
  callF Tryz.prog 306 #[.int .i64 n7, .int .i64 n6] w fun r42 w1 =>
  ∃ n42, r42 = .int .i64 n42 ∧
  ∃ a44, IxA Tryz.prog 25 (.slice p5 l5 c5) (.int .i64 n42) a44 ∧
  ∃ w2, Sto Tryz.prog 5 (.pointer (some a44)) (.int .u8 n8) w1 w2 ∧
  goesOn [] [] I2 μ2 us2 [.slice p0 l0 c0, .pointer (some a3), .slice p4 l4 c4, .slice p5 l5 c5, .int .i64 n6, .int .i64 (IntKind.i64.wrap (n7 + 1))] wl2 w2
def ref03_columns (p0 : Option Addr) (l0 : Nat) (c0 : Nat) (cs1 : Array Value) (w : World) (Q : Value → World → Prop) : Prop :=
  New cs1 333 w fun k3 w1 =>
  ∃ p10 l10 c10 w2, Ef Tryz.prog (Instr.makeSlice 25 (.int .i64 16) (.int .i64 16)) w1 (.slice p10 l10 c10) w2 ∧
  LoopS [.slice p0 l0 c0, .pointer (some (⟨k3, 0, none⟩ : Addr)), .slice none 0 0, .slice p10 l10 c10, .int .i64 0] w2 fun I1 μ1 us1 _ wl1 =>
  ∃ p0_1 l0_1 c0_1 a3 p4 l4 c4 p5 l5 c5 n6, us1 = [.slice p0_1 l0_1 c0_1, .pointer (some a3), .slice p4 l4 c4, .slice p5 l5 c5, .int .i64 n6] ∧
  cond (decide (n6 < 4))
  (LoopS [.slice p0_1 l0_1 c0_1, .pointer (some a3), .slice p4 l4 c4, .slice p5 l5 c5, .int .i64 n6, .int .i64 0] wl1 fun I2 μ2 us2 _ wl2 =>
    ∃ p0_2 l0_2 c0_2 a3_1 p4_1 l4_1 c4_1 p5_1 l5_1 c5_1 n6_1 n7, us2 = [.slice p0_2 l0_2 c0_2, .pointer (some a3_1), .slice p4_1 l4_1 c4_1, .slice p5_1 l5_1 c5_1, .int .i64 n6_1, .int .i64 n7] ∧
    cond (decide (n7 < 4))
    (LoopS [.slice p0_2 l0_2 c0_2, .pointer (some a3_1), .slice p4_1 l4_1 c4_1, .slice p5_1 l5_1 c5_1, .int .i64 n6_1, .int .i64 n7, .int .u8 0, .int .i64 0] wl2 fun I3 μ3 us3 _ wl3 =>
      ∃ p0_3 l0_3 c0_3 a3_2 p4_2 l4_2 c4_2 p5_2 l5_2 c5_2 n6_2 n7_1 n8 n9, us3 = [.slice p0_3 l0_3 c0_3, .pointer (some a3_2), .slice p4_2 l4_2 c4_2, .slice p5_2 l5_2 c5_2, .int .i64 n6_2, .int .i64 n7_1, .int .u8 n8, .int .i64 n9] ∧
      cond (decide (n9 < 4))
      (∃ (S12 : World → Prop),
        Drw wl3 fun w3 =>
        ∃ a29, IxA Tryz.prog 333 (.pointer (some a3_2)) (.int .i64 (Int.tmod (IntKind.i64.wrap ((IntKind.i64.wrap (n9 + 4)) - n7_1)) 4)) a29 ∧
        ∃ n30, HLd Tryz.prog S12 5 (.pointer (some a29)) w3 (.int .u8 n30) ∧
        callF Tryz.prog 306 #[.int .i64 n9, .int .i64 n6_2] w3 fun r34 w4 =>
        ∃ n34, r34 = .int .i64 n34 ∧
        (w4 = w3 ∨ S12 w4) ∧
        ∃ a35, IxA Tryz.prog 25 (.slice p0_3 l0_3 c0_3) (.int .i64 n34) a35 ∧
        ∃ n36, Ld Tryz.prog 5 (.pointer (some a35)) w4 (.int .u8 n36) ∧
        (w4 = w4 ∨ S12 w4) ∧
        callF Tryz.prog 287 #[.int .u8 n30, .int .u8 n36] w4 fun r37 w5 =>
        ∃ n37, r37 = .int .u8 n37 ∧
        goesOn [] [] I3 μ3 us3 [.slice p0_3 l0_3 c0_3, .pointer (some a3_2), .slice p4_2 l4_2 c4_2, .slice p5_2 l5_2 c5_2, .int .i64 n6_2, .int .i64 n7_1, .int .u8 (ixor .u8 n8 n37), .int .i64 (IntKind.i64.wrap (n9 + 1))] wl3 w5)
      (ref03_columns_j1 I1 μ1 us1 wl1 I2 μ2 us2 wl2 p0_3 l0_3 c0_3 a3_2 p4_2 l4_2 c4_2 p5_2 l5_2 c5_2 n6_2 n7_1 n8 wl3 Q))
    (goesOn [] [] I1 μ1 us1 [.slice p0_2 l0_2 c0_2, .pointer (some a3_1), .slice p4_1 l4_1 c4_1, .slice p5_1 l5_1 c5_1, .int .i64 (IntKind.i64.wrap (n6_1 + 1))] wl1 wl2))
  (Q (.slice p5 l5 c5) wl1)
def ref03_columns_tt : Nat → List (Nat × TypeId) := fun n => match n with | 0 => [(0, 25), (3, 1000000), (4, 25), (5, 25), (6, 3)] | 2 => [(0, 25), (3, 1000000), (4, 25), (5, 25), (6, 3), (7, 3)] | 4 => [(0, 25), (3, 1000000), (4, 25), (5, 25), (6, 3), (7, 3), (8, 5), (9, 3)] | _ => []
theorem ref03_columns_call (p0 : Option Addr) (l0 : Nat) (c0 : Nat) (cs1 : Array Value) (w : World) (Q : Value → World → Prop) (h : ref03_columns p0 l0 c0 cs1 w Q) : callF Tryz.prog 286 #[.slice p0 l0 c0, .agg cs1] w Q :=
  callBy ref03_columns_tt Tryz.func286 h (fun _ _ => by kernel_rfl) (by kernel_rfl) (by kernel_rfl) (by kernel_rfl)
def ref03_at (n0 : Int) (n1 : Int) (w : World) (Q : Value → World → Prop) : Prop :=
  Q (.int .i64 (IntKind.i64.wrap ((IntKind.i64.wrap (4 * (Int.tmod n1 4))) + n0))) w
def ref03_at_tt : Nat → List (Nat × TypeId) := fun _ => []
theorem ref03_at_call (n0 : Int) (n1 : Int) (w : World) (Q : Value → World → Prop) (h : ref03_at n0 n1 w Q) : callF Tryz.prog 306 #[.int .i64 n0, .int .i64 n1] w Q :=
  callBy ref03_at_tt Tryz.func306 h (fun _ _ => by kernel_rfl) (by kernel_rfl) (by kernel_rfl) (by kernel_rfl)
end Go.Sh
end
