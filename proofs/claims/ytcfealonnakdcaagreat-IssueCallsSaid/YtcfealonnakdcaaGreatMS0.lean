/- A part of a proof of a given law of this program: lemmas, printed forms of its functions, contracts. It has no conditions of its own. -/
import Derived.Test.YtcfealonnakdcaaGreatProg
import Derived.Test.YtcfealonnakdcaaGreatMW0

section
namespace Go.Sh
open Go
abbrev F_law28_IssueCalls : FuncId := 3
abbrev F_law28_alive : FuncId := 23
abbrev F_law28_great : FuncId := 24
abbrev F_ref00_CopyBytes : FuncId := 25
abbrev F_issue_New : FuncId := 26
abbrev F_ref28_New : FuncId := 27
abbrev F_law16_Of : FuncId := 28
abbrev F_issue_Issuer_Place : FuncId := 29
abbrev F_law28_Do : FuncId := 30
abbrev F_issue_Issuer_Issued : FuncId := 31
abbrev F_issue_Issuer_Clone : FuncId := 32
abbrev F_ref00_SameBytes : FuncId := 33
abbrev F_issue_Issuer_Mine : FuncId := 34
abbrev F_ref28_Issuer_Mine : FuncId := 35
abbrev F_issue_Issuer_Next : FuncId := 36
abbrev F_codec_Back : FuncId := 37
abbrev F_mode_Config_Size : FuncId := 41
abbrev F_codec_Point : FuncId := 42
abbrev F_codec_Told : FuncId := 43
abbrev F_issue_Issuer_Renew : FuncId := 100
abbrev F_mode_Config_Right : FuncId := 101
abbrev F_slices_Clone_byte_byte : FuncId := 102
abbrev F_ref28_check : FuncId := 103
abbrev F_ref28_Issuer_Next : FuncId := 104
abbrev F_ref28_Issuer_Renew : FuncId := 105
abbrev F_slices_Equal_byte_byte : FuncId := 107
abbrev F_ref28_has : FuncId := 108
abbrev F_issue_up : FuncId := 109
abbrev F_codec_Make : FuncId := 110
abbrev F_mode_Config_Back : FuncId := 111
abbrev F_octet_Join : FuncId := 112
abbrev F_mode_Config_both : FuncId := 114
abbrev F_sync_atomic_Int64_Add : FuncId := 163
abbrev F_mode_within : FuncId := 178
abbrev F_ref16_Right : FuncId := 179
abbrev F_ref17_Make : FuncId := 180
abbrev F_mode_Config_Turn : FuncId := 183
abbrev F_codec_id : FuncId := 184
abbrev F_mode_Config_by : FuncId := 185
abbrev F_aes_Cipher_Decrypt : FuncId := 186
abbrev F_feist_Unmix : FuncId := 187
abbrev F_slices_Concat_byte_byte : FuncId := 188
abbrev F_aes_New : FuncId := 191
abbrev F_aes_Cipher_Encrypt : FuncId := 192
abbrev F_sync_atomic_AddInt64 : FuncId := 218
abbrev F_ref03_Encrypt : FuncId := 221
abbrev F_ref16_Turn : FuncId := 227
abbrev F_feist_Mix : FuncId := 229
abbrev F_aes_block_add : FuncId := 230
abbrev F_aes_block_columns : FuncId := 231
abbrev F_aes_Cipher_times : FuncId := 232
abbrev F_aes_block_rows : FuncId := 233
abbrev F_aes_block_each : FuncId := 234
abbrev F_field_Tables_Unsub : FuncId := 235
abbrev F_feist_Passes : FuncId := 236
abbrev F_slices_Grow_byte_byte : FuncId := 237
abbrev F_field_New : FuncId := 239
abbrev F_aes_Cipher_turned : FuncId := 240
abbrev F_aes_word_plus : FuncId := 241
abbrev F_field_Tables_Sub : FuncId := 242
abbrev F_octet_Xor : FuncId := 249
abbrev F_ref03_With : FuncId := 256
abbrev F_ref03_Table : FuncId := 257
abbrev F_ref16_turn : FuncId := 263
abbrev F_field_Tables_Times : FuncId := 264
abbrev F_field_Tables_ready : FuncId := 265
abbrev F_halves_Cut : FuncId := 266
abbrev F_feist_pair_pass : FuncId := 267
abbrev F_halves_Join : FuncId := 268
abbrev F_field_Pow : FuncId := 270
abbrev F_ref03_Keys : FuncId := 282
abbrev F_ref03_add : FuncId := 283
abbrev F_ref03_rows : FuncId := 284
abbrev F_ref03_subs : FuncId := 285
abbrev F_ref03_columns : FuncId := 286
abbrev F_ref02_Mul : FuncId := 287
abbrev F_ref02_Sign : FuncId := 288
abbrev F_ref15_Passes : FuncId := 291
abbrev F_ref03_Decrypt : FuncId := 292
abbrev F_sync_Once_Do : FuncId := 293
abbrev F_field_Tables_make : FuncId := 294
abbrev F_halves_fits : FuncId := 295
abbrev F_halves_Trim : FuncId := 296
abbrev F_halves_Size : FuncId := 297
abbrev F_feist_pair_onto : FuncId := 298
abbrev F_halves_odd : FuncId := 299
abbrev F_field_Mul : FuncId := 300
abbrev F_ref02_Pow : FuncId := 305
abbrev F_ref03_at : FuncId := 306
abbrev F_ref14_Cut : FuncId := 307
abbrev F_ref15_Pass : FuncId := 308
abbrev F_ref14_Join : FuncId := 309
abbrev F_ref03_back : FuncId := 310
abbrev F_sync_atomic_Bool_Load : FuncId := 311
abbrev F_field_sign : FuncId := 313
abbrev F_halves_fits_c1 : FuncId := 314
abbrev F_halves_Block : FuncId := 315
abbrev F_field_double : FuncId := 316
abbrev F_ref14_Fours : FuncId := 320
abbrev F_ref14_Bytes : FuncId := 321
abbrev F_ref15_onto : FuncId := 322
abbrev F_ref14_fit : FuncId := 323
abbrev F_sync_atomic_LoadUint32 : FuncId := 324
abbrev F_sync_Mutex_Lock : FuncId := 325
abbrev F_field_Inv : FuncId := 328
abbrev F_field_Sum : FuncId := 329
abbrev F_field_turned : FuncId := 330
abbrev F_ref14_Block : FuncId := 332
abbrev F_ref14_Trim : FuncId := 333
abbrev F_ref14_Size : FuncId := 334
abbrev F_internal_sync_Mutex_Lock : FuncId := 335
abbrev F_internal_sync_Mutex_Unlock : FuncId := 336
abbrev F_sync_atomic_StoreUint32 : FuncId := 337
abbrev F_internal_race_Disable : FuncId := 340
abbrev F_sync_atomic_CompareAndSwapInt32 : FuncId := 341
abbrev F_internal_race_Enable : FuncId := 342
abbrev F_internal_race_Acquire : FuncId := 343
abbrev F_internal_race_ReleaseMerge : FuncId := 345
abbrev F_sync_atomic_AddInt32 : FuncId := 346
abbrev T_R_ : TypeId := 0
abbrev T_int : TypeId := 3
abbrev T_uint8 : TypeId := 5
abbrev T_A16_uint8 : TypeId := 22
abbrev T_mode_Config : TypeId := 24
abbrev T_S_uint8 : TypeId := 25
abbrev T_S_law28_Call : TypeId := 26
abbrev T_law28_Call : TypeId := 28
abbrev T_ref16_Config : TypeId := 39
abbrev T_S_S_uint8 : TypeId := 45
abbrev T_ref28_Issuer : TypeId := 47
abbrev T_codec_Parts : TypeId := 55
abbrev T_M_string_bool : TypeId := 64
abbrev T_issue_Issuer : TypeId := 182
abbrev T_slot_slot : TypeId := 192
abbrev T_S_int : TypeId := 312
abbrev T_aes_block : TypeId := 319
abbrev T_A11_aes_block : TypeId := 320
abbrev T_aes_word : TypeId := 334
abbrev T_S_field_table : TypeId := 375
abbrev T_feist_pair : TypeId := 382
abbrev T_M_bool_S_uint8 : TypeId := 404
end Go.Sh
end

section
namespace Go.Sh
open Go Go.Fw Go.Proofs
set_option maxRecDepth 100000
set_option linter.unusedVariables false
def field_Tables_Unsub (p0 : Option Addr) (n1 : Int) (w : World) (Q : Value → World → Prop) : Prop :=
  callF Tryz.prog 265 #[.pointer p0] w fun r6 w1 =>
  ∃ p6, r6 = .pointer p6 ∧
  ∃ a8, p6 = some a8 ∧
  ∃ a10, IxA Tryz.prog 374 (.pointer (some (a8.add 261))) (.int .u8 n1) a10 ∧
  ∃ n11, Ld Tryz.prog 5 (.pointer (some a10)) w1 (.int .u8 n11) ∧
  Q (.int .u8 n11) w1
def field_Tables_Unsub_tt : Nat → List (Nat × TypeId) := fun _ => []
theorem field_Tables_Unsub_call (p0 : Option Addr) (n1 : Int) (w : World) (Q : Value → World → Prop) (h : field_Tables_Unsub p0 n1 w Q) : callF Tryz.prog 235 #[.pointer p0, .int .u8 n1] w Q :=
  callBy field_Tables_Unsub_tt Tryz.func235 h (fun _ _ => by kernel_rfl) (by kernel_rfl) (by kernel_rfl) (by kernel_rfl)
def field_New (p0 : Option Addr) (l0 : Nat) (c0 : Nat) (w : World) (Q : Value → World → Prop) : Prop :=
  callF Tryz.prog 102 #[.slice p0 l0 c0] w fun r4 w1 =>
  ∃ p4 l4 c4, r4 = .slice p4 l4 c4 ∧
  New #[.slice p4 l4 c4, .int .u32 0, .int .i32 0, .int .u32 0, .int .i64 0, .int .u8 0, .int .u8 0, .int .u8 0, .int .u8 0, .int .u8 0, .int .u8 0, .int .u8 0, .int .u8 0, .int .u8 0, .int .u8 0, .int .u8 0, .int .u8 0, .int .u8 0, .int .u8 0, .int .u8 0, .int .u8 0, .int .u8 0, .int .u8 0, .int .u8 0, .int .u8 0, .int .u8 0, .int .u8 0, .int .u8 0, .int .u8 0, .int .u8 0, .int .u8 0, .int .u8 0, .int .u8 0, .int .u8 0, .int .u8 0, .int .u8 0, .int .u8 0, .int .u8 0, .int .u8 0, .int .u8 0, .int .u8 0, .int .u8 0, .int .u8 0, .int .u8 0, .int .u8 0, .int .u8 0, .int .u8 0, .int .u8 0, .int .u8 0, .int .u8 0, .int .u8 0, .int .u8 0, .int .u8 0, .int .u8 0, .int .u8 0, .int .u8 0, .int .u8 0, .int .u8 0, .int .u8 0, .int .u8 0, .int .u8 0, .int .u8 0, .int .u8 0, .int .u8 0, .int .u8 0, .int .u8 0, .int .u8 0, .int .u8 0, .int .u8 0, .int .u8 0, .int .u8 0, .int .u8 0, .int .u8 0, .int .u8 0, .int .u8 0, .int .u8 0, .int .u8 0, .int .u8 0, .int .u8 0, .int .u8 0, .int .u8 0, .int .u8 0, .int .u8 0, .int .u8 0, .int .u8 0, .int .u8 0, .int .u8 0, .int .u8 0, .int .u8 0, .int .u8 0, .int .u8 0, .int .u8 0, .int .u8 0, .int .u8 0, .int .u8 0, .int .u8 0, .int .u8 0, .int .u8 0, .int .u8 0, .int .u8 0, .int .u8 0, .int .u8 0, .int .u8 0, .int .u8 0, .int .u8 0, .int .u8 0, .int .u8 0, .int .u8 0, .int .u8 0, .int .u8 0, .int .u8 0, .int .u8 0, .int .u8 0, .int .u8 0, .int .u8 0, .int .u8 0, .int .u8 0, .int .u8 0, .int .u8 0, .int .u8 0, .int .u8 0, .int .u8 0, .int .u8 0, .int .u8 0, .int .u8 0, .int .u8 0, .int .u8 0, .int .u8 0, .int .u8 0, .int .u8 0, .int .u8 0, .int .u8 0, .int .u8 0, .int .u8 0, .int .u8 0, .int .u8 0, .int .u8 0, .int .u8 0, .int .u8 0, .int .u8 0, .int .u8 0, .int .u8 0, .int .u8 0, .int .u8 0, .int .u8 0, .int .u8 0, .int .u8 0, .int .u8 0, .int .u8 0, .int .u8 0, .int .u8 0, .int .u8 0, .int .u8 0, .int .u8 0, .int .u8 0, .int .u8 0, .int .u8 0, .int .u8 0, .int .u8 0, .int .u8 0, .int .u8 0, .int .u8 0, .int .u8 0, .int .u8 0, .int .u8 0, .int .u8 0, .int .u8 0, .int .u8 0, .int .u8 0, .int .u8 0, .int .u8 0, .int .u8 0, .int .u8 0, .int .u8 0, .int .u8 0, .int .u8 0, .int .u8 0, .int .u8 0, .int .u8 0, .int .u8 0, .int .u8 0, .int .u8 0, .int .u8 0, .int .u8 0, .int .u8 0, .int .u8 0, .int .u8 0, .int .u8 0, .int .u8 0, .int .u8 0, .int .u8 0, .int .u8 0, .int .u8 0, .int .u8 0, .int .u8 0, .int .u8 0, .int .u8 0, .int .u8 0, .int .u8 0, .int .u8 0, .int .u8 0, .int .u8 0, .int .u8 0, .int .u8 0, .int .u8 0, .int .u8 0, .int .u8 0, .int .u8 0, .int .u8 0, .int .u8 0, .int .u8 0, .int .u8 0, .int .u8 0, .int .u8 0, .int .u8 0, .int .u8 0, .int .u8 0, .int .u8 0, .int .u8 0, .int .u8 0, .int .u8 0, .int .u8 0, .int .u8 0, .int .u8 0, .int .u8 0, .int .u8 0, .int .u8 0, .int .u8 0, .int .u8 0, .int .u8 0, .int .u8 0, .int .u8 0, .int .u8 0, .int .u8 0, .int .u8 0, .int .u8 0, .int .u8 0, .int .u8 0, .int .u8 0, .int .u8 0, .int .u8 0, .int .u8 0, .int .u8 0, .int .u8 0, .int .u8 0, .int .u8 0, .int .u8 0, .int .u8 0, .int .u8 0, .int .u8 0, .int .u8 0, .int .u8 0, .int .u8 0, .int .u8 0, .int .u8 0, .int .u8 0, .int .u8 0, .int .u8 0, .int .u8 0, .int .u8 0, .int .u8 0, .int .u8 0, .int .u8 0, .int .u8 0, .int .u8 0, .int .u8 0, .int .u8 0, .int .u8 0, .int .u8 0, .int .u8 0, .int .u8 0, .int .u8 0, .int .u8 0, .int .u8 0, .int .u8 0, .int .u8 0, .int .u8 0, .int .u8 0, .int .u8 0, .int .u8 0, .int .u8 0, .int .u8 0, .int .u8 0, .int .u8 0, .int .u8 0, .int .u8 0, .int .u8 0, .int .u8 0, .int .u8 0, .int .u8 0, .int .u8 0, .int .u8 0, .int .u8 0, .int .u8 0, .int .u8 0, .int .u8 0, .int .u8 0, .int .u8 0, .int .u8 0, .int .u8 0, .int .u8 0, .int .u8 0, .int .u8 0, .int .u8 0, .int .u8 0, .int .u8 0, .int .u8 0, .int .u8 0, .int .u8 0, .int .u8 0, .int .u8 0, .int .u8 0, .int .u8 0, .int .u8 0, .int .u8 0, .int .u8 0, .int .u8 0, .int .u8 0, .int .u8 0, .int .u8 0, .int .u8 0, .int .u8 0, .int .u8 0, .int .u8 0, .int .u8 0, .int .u8 0, .int .u8 0, .int .u8 0, .int .u8 0, .int .u8 0, .int .u8 0, .int .u8 0, .int .u8 0, .int .u8 0, .int .u8 0, .int .u8 0, .int .u8 0, .int .u8 0, .int .u8 0, .int .u8 0, .int .u8 0, .int .u8 0, .int .u8 0, .int .u8 0, .int .u8 0, .int .u8 0, .int .u8 0, .int .u8 0, .int .u8 0, .int .u8 0, .int .u8 0, .int .u8 0, .int .u8 0, .int .u8 0, .int .u8 0, .int .u8 0, .int .u8 0, .int .u8 0, .int .u8 0, .int .u8 0, .int .u8 0, .int .u8 0, .int .u8 0, .int .u8 0, .int .u8 0, .int .u8 0, .int .u8 0, .int .u8 0, .int .u8 0, .int .u8 0, .int .u8 0, .int .u8 0, .int .u8 0, .int .u8 0, .int .u8 0, .int .u8 0, .int .u8 0, .int .u8 0, .int .u8 0, .int .u8 0, .int .u8 0, .int .u8 0, .int .u8 0, .int .u8 0, .int .u8 0, .int .u8 0, .int .u8 0, .int .u8 0, .int .u8 0, .int .u8 0, .int .u8 0, .int .u8 0, .int .u8 0, .int .u8 0, .int .u8 0, .int .u8 0, .int .u8 0, .int .u8 0, .int .u8 0, .int .u8 0, .int .u8 0, .int .u8 0, .int .u8 0, .int .u8 0, .int .u8 0, .int .u8 0, .int .u8 0, .int .u8 0, .int .u8 0, .int .u8 0, .int .u8 0, .int .u8 0, .int .u8 0, .int .u8 0, .int .u8 0, .int .u8 0, .int .u8 0, .int .u8 0, .int .u8 0, .int .u8 0, .int .u8 0, .int .u8 0, .int .u8 0, .int .u8 0, .int .u8 0, .int .u8 0, .int .u8 0, .int .u8 0, .int .u8 0, .int .u8 0, .int .u8 0, .int .u8 0, .int .u8 0, .int .u8 0, .int .u8 0, .int .u8 0, .int .u8 0, .int .u8 0, .int .u8 0, .int .u8 0, .int .u8 0, .int .u8 0, .int .u8 0, .int .u8 0, .int .u8 0, .int .u8 0, .int .u8 0, .int .u8 0, .int .u8 0, .int .u8 0, .int .u8 0, .int .u8 0, .int .u8 0, .int .u8 0, .int .u8 0, .int .u8 0, .int .u8 0, .int .u8 0, .int .u8 0, .int .u8 0, .int .u8 0, .int .u8 0, .int .u8 0, .int .u8 0, .int .u8 0, .int .u8 0, .int .u8 0, .int .u8 0, .int .u8 0, .int .u8 0, .int .u8 0, .int .u8 0, .int .u8 0, .int .u8 0, .int .u8 0, .int .u8 0, .int .u8 0, .int .u8 0, .int .u8 0, .int .u8 0, .int .u8 0, .int .u8 0, .int .u8 0, .int .u8 0, .int .u8 0, .int .u8 0, .int .u8 0, .int .u8 0, .int .u8 0, .int .u8 0, .int .u8 0, .int .u8 0, .int .u8 0, .int .u8 0, .int .u8 0, .int .u8 0, .int .u8 0, .int .u8 0, .int .u8 0, .int .u8 0, .int .u8 0, .int .u8 0, .int .u8 0, .int .u8 0, .int .u8 0, .int .u8 0, .int .u8 0, .int .u8 0, .int .u8 0, .int .u8 0, .int .u8 0, .int .u8 0, .int .u8 0, .int .u8 0, .int .u8 0, .int .u8 0, .int .u8 0, .slice none 0 0] 377 w1 fun k6 w2 =>
  Q (.pointer (some (⟨k6, 0, none⟩ : Addr))) w2
def field_New_tt : Nat → List (Nat × TypeId) := fun _ => []
theorem field_New_call (p0 : Option Addr) (l0 : Nat) (c0 : Nat) (w : World) (Q : Value → World → Prop) (h : field_New p0 l0 c0 w Q) : callF Tryz.prog 239 #[.slice p0 l0 c0] w Q :=
  callBy field_New_tt Tryz.func239 h (fun _ _ => by kernel_rfl) (by kernel_rfl) (by kernel_rfl) (by kernel_rfl)
def field_Tables_Sub (p0 : Option Addr) (n1 : Int) (w : World) (Q : Value → World → Prop) : Prop :=
  callF Tryz.prog 265 #[.pointer p0] w fun r6 w1 =>
  ∃ p6, r6 = .pointer p6 ∧
  ∃ a8, p6 = some a8 ∧
  ∃ a10, IxA Tryz.prog 374 (.pointer (some (a8.add 5))) (.int .u8 n1) a10 ∧
  ∃ n11, Ld Tryz.prog 5 (.pointer (some a10)) w1 (.int .u8 n11) ∧
  Q (.int .u8 n11) w1
def field_Tables_Sub_tt : Nat → List (Nat × TypeId) := fun _ => []
theorem field_Tables_Sub_call (p0 : Option Addr) (n1 : Int) (w : World) (Q : Value → World → Prop) (h : field_Tables_Sub p0 n1 w Q) : callF Tryz.prog 242 #[.pointer p0, .int .u8 n1] w Q :=
  callBy field_Tables_Sub_tt Tryz.func242 h (fun _ _ => by kernel_rfl) (by kernel_rfl) (by kernel_rfl) (by kernel_rfl)
def field_Tables_Times_j1 (p0 : Option Addr) (n1 : Int) (n2 : Int) (n6 : Int) (n7 : Int) (w : World) (Q : Value → World → Prop) : Prop :=
  ∃ a22, p0 = some a22 ∧
  ∃ p24 l24 c24, Ld Tryz.prog 375 (.pointer (some (a22.add 517))) w (.slice p24 l24 c24) ∧
  ∃ a27, IxA Tryz.prog 375 (.slice p24 l24 c24) (.int .i64 n1) a27 ∧
  ∃ a28, IxA Tryz.prog 374 (.pointer (some a27)) (.int .u8 n2) a28 ∧
  ∃ n29, Ld Tryz.prog 5 (.pointer (some a28)) w (.int .u8 n29) ∧
  Q (.tuple #[.int .u8 n29, .int .i64 0]) w
def field_Tables_Times (p0 : Option Addr) (n1 : Int) (n2 : Int) (w : World) (Q : Value → World → Prop) : Prop :=
  callF Tryz.prog 265 #[.pointer p0] w fun r9 w1 =>
  ∃ p9, r9 = .pointer p9 ∧
  cond (decide (n1 < 0))
  (Q (.tuple #[.int .u8 0, .int .i64 11]) w1)
  (∃ a15, p0 = some a15 ∧
    ∃ p17 l17 c17, Ld Tryz.prog 375 (.pointer (some (a15.add 517))) w1 (.slice p17 l17 c17) ∧
    cond (decide (n1 ≥ ((l17 : Nat) : Int)))
    (Q (.tuple #[.int .u8 0, .int .i64 11]) w1)
    (field_Tables_Times_j1 p0 n1 n2 0 0 w1 Q))
def field_Tables_Times_tt : Nat → List (Nat × TypeId) := fun _ => []
theorem field_Tables_Times_call (p0 : Option Addr) (n1 : Int) (n2 : Int) (w : World) (Q : Value → World → Prop) (h : field_Tables_Times p0 n1 n2 w Q) : callF Tryz.prog 264 #[.pointer p0, .int .i64 n1, .int .u8 n2] w Q :=
  callBy field_Tables_Times_tt Tryz.func264 h (fun _ _ => by kernel_rfl) (by kernel_rfl) (by kernel_rfl) (by kernel_rfl)
def field_Tables_ready (p0 : Option Addr) (w : World) (Q : Value → World → Prop) : Prop :=
  ∃ a4, p0 = some a4 ∧
  callF Tryz.prog 293 #[.pointer (some (a4.add 1)), .func (.func 294) #[.pointer p0] #[]] w fun r8 w1 =>
  r8 = .tuple #[] ∧
  Q (.pointer p0) w1
def field_Tables_ready_tt : Nat → List (Nat × TypeId) := fun _ => []
theorem field_Tables_ready_call (p0 : Option Addr) (w : World) (Q : Value → World → Prop) (h : field_Tables_ready p0 w Q) : callF Tryz.prog 265 #[.pointer p0] w Q :=
  callBy field_Tables_ready_tt Tryz.func265 h (fun _ _ => by kernel_rfl) (by kernel_rfl) (by kernel_rfl) (by kernel_rfl)
def field_Pow (n0 : Int) (n1 : Int) (w : World) (Q : Value → World → Prop) : Prop :=
  LoopS [.int .u8 n0, .int .u64 n1, .int .u8 0, .int .u8 1] w fun I1 μ1 us1 _ wl1 =>
  ∃ n0_1 n1_1 n4 n5, us1 = [.int .u8 n0_1, .int .u64 n1_1, .int .u8 n4, .int .u8 n5] ∧
  cond (n1_1 != 0)
  (cond ((iand .u64 n1_1 1) != 0)
    (callF Tryz.prog 300 #[.int .u8 n5, .int .u8 n0_1] wl1 fun r15 w1 =>
      ∃ n15, r15 = .int .u8 n15 ∧
      callF Tryz.prog 300 #[.int .u8 n0_1, .int .u8 n0_1] w1 fun r18 w2 =>
      ∃ n18, r18 = .int .u8 n18 ∧
      goesOn [] [] I1 μ1 us1 [.int .u8 n18, .int .u64 (Int.fdiv n1_1 (2 ^ 1)), .int .u8 n4, .int .u8 n15] wl1 w2)
    (callF Tryz.prog 300 #[.int .u8 n0_1, .int .u8 n0_1] wl1 fun r18_1 w3 =>
      ∃ n18_1, r18_1 = .int .u8 n18_1 ∧
      goesOn [] [] I1 μ1 us1 [.int .u8 n18_1, .int .u64 (Int.fdiv n1_1 (2 ^ 1)), .int .u8 n4, .int .u8 n5] wl1 w3))
  (Q (.int .u8 n5) wl1)
def field_Pow_tt : Nat → List (Nat × TypeId) := fun n => match n with | 0 => [(0, 5), (1, 88), (4, 5), (5, 5)] | _ => []
theorem field_Pow_call (n0 : Int) (n1 : Int) (w : World) (Q : Value → World → Prop) (h : field_Pow n0 n1 w Q) : callF Tryz.prog 270 #[.int .u8 n0, .int .u64 n1] w Q :=
  callBy field_Pow_tt Tryz.func270 h (fun _ _ => by kernel_rfl) (by kernel_rfl) (by kernel_rfl) (by kernel_rfl)
def field_Tables_make (p0 : Option Addr) (w : World) (Q : Value → World → Prop) : Prop :=
  ∃ a7, p0 = some a7 ∧
  callF Tryz.prog 163 #[.pointer (some (a7.add 4)), .int .i64 1] w fun r9 w1 =>
  ∃ n9, r9 = .int .i64 n9 ∧
  ∃ a12, p0 = some a12 ∧
  ∃ p14 l14 c14, Ld Tryz.prog 25 (.pointer (some (a12.add 0))) w1 (.slice p14 l14 c14) ∧
  ∃ p16 l16 c16 w2, Ef Tryz.prog (Instr.makeSlice 375 (.int .i64 ((l14 : Nat) : Int)) (.int .i64 ((l14 : Nat) : Int))) w1 (.slice p16 l16 c16) w2 ∧
  ∃ a17, p0 = some a17 ∧
  ∃ w3, Sto Tryz.prog 375 (.pointer (some (a17.add 517))) (.slice p16 l16 c16) w2 w3 ∧
  LoopS [.pointer p0, .int .i64 0] w3 fun I1 μ1 us1 _ wl1 =>
  ∃ p0_1 n19, us1 = [.pointer p0_1, .int .i64 n19] ∧
  cond (decide (n19 < 256))
  (callF Tryz.prog 313 #[.int .u8 (IntKind.u8.wrap n19)] wl1 fun r24 w4 =>
    ∃ n24, r24 = .int .u8 n24 ∧
    ∃ a28, p0_1 = some a28 ∧
    ∃ a30, IxA Tryz.prog 374 (.pointer (some (a28.add 5))) (.int .i64 n19) a30 ∧
    ∃ w5, Sto Tryz.prog 5 (.pointer (some a30)) (.int .u8 n24) w4 w5 ∧
    ∃ a35, p0_1 = some a35 ∧
    ∃ a37, IxA Tryz.prog 374 (.pointer (some (a35.add 261))) (.int .u8 n24) a37 ∧
    ∃ w6, Sto Tryz.prog 5 (.pointer (some a37)) (.int .u8 (IntKind.u8.wrap n19)) w5 w6 ∧
    ∃ a39, p0_1 = some a39 ∧
    ∃ p41 l41 c41, Ld Tryz.prog 25 (.pointer (some (a39.add 0))) w6 (.slice p41 l41 c41) ∧
    LoopS [.pointer p0_1, .int .i64 n19, .int .i64 n19, .slice p41 l41 c41, .int .i64 ((l41 : Nat) : Int), .int .i64 0] w6 fun I2 μ2 us2 _ wl2 =>
    ∃ p0_2 n2 n19_1 p41_1 l41_1 c41_1 n42 n43, us2 = [.pointer p0_2, .int .i64 n2, .int .i64 n19_1, .slice p41_1 l41_1 c41_1, .int .i64 n42, .int .i64 n43] ∧
    cond (decide (n43 < n42))
    (∃ a46, IxA Tryz.prog 25 (.slice p41_1 l41_1 c41_1) (.int .i64 n43) a46 ∧
      ∃ n47, Ld Tryz.prog 5 (.pointer (some a46)) wl2 (.int .u8 n47) ∧
      ∃ (S11 : World → Prop),
      Drw wl2 fun w7 =>
      ∃ a49, p0_2 = some a49 ∧
      ∃ p51 l51 c51, HLd Tryz.prog S11 375 (.pointer (some (a49.add 517))) w7 (.slice p51 l51 c51) ∧
      ∃ a58, IxA Tryz.prog 375 (.slice p51 l51 c51) (.int .i64 n43) a58 ∧
      callF Tryz.prog 300 #[.int .u8 (IntKind.u8.wrap n2), .int .u8 n47] w7 fun r57 w8 =>
      ∃ n57, r57 = .int .u8 n57 ∧
      (w8 = w7 ∨ S11 w8) ∧
      ∃ a59, IxA Tryz.prog 374 (.pointer (some a58)) (.int .i64 n2) a59 ∧
      ∃ w9, Sto Tryz.prog 5 (.pointer (some a59)) (.int .u8 n57) w8 w9 ∧
      goesOn [] [] I2 μ2 us2 [.pointer p0_2, .int .i64 n2, .int .i64 n19_1, .slice p41_1 l41_1 c41_1, .int .i64 n42, .int .i64 (IntKind.i64.wrap (n43 + 1))] wl2 w9)
    (goesOn [] [] I1 μ1 us1 [.pointer p0_2, .int .i64 (IntKind.i64.wrap (n19_1 + 1))] wl1 wl2))
  (Q (.tuple #[]) wl1)
def field_Tables_make_tt : Nat → List (Nat × TypeId) := fun n => match n with | 0 => [(0, 318), (19, 3)] | 2 => [(0, 318), (2, 3), (19, 3), (41, 25), (42, 3), (43, 3)] | _ => []
theorem field_Tables_make_call (p0 : Option Addr) (w : World) (Q : Value → World → Prop) (h : field_Tables_make p0 w Q) : callF Tryz.prog 294 #[.pointer p0] w Q :=
  callBy field_Tables_make_tt Tryz.func294 h (fun _ _ => by kernel_rfl) (by kernel_rfl) (by kernel_rfl) (by kernel_rfl)
def field_Mul (n0 : Int) (n1 : Int) (w : World) (Q : Value → World → Prop) : Prop :=
  LoopS [.int .u8 n0, .int .u8 n1, .int .u8 0, .int .u8 0] w fun I1 μ1 us1 _ wl1 =>
  ∃ n0_1 n1_1 n4 n5, us1 = [.int .u8 n0_1, .int .u8 n1_1, .int .u8 n4, .int .u8 n5] ∧
  cond (n1_1 != 0)
  (cond ((iand .u8 n1_1 1) != 0)
    (callF Tryz.prog 316 #[.int .u8 n0_1] wl1 fun r17 w1 =>
      ∃ n17, r17 = .int .u8 n17 ∧
      goesOn [] [] I1 μ1 us1 [.int .u8 n17, .int .u8 (Int.fdiv n1_1 (2 ^ 1)), .int .u8 n4, .int .u8 (ixor .u8 n5 n0_1)] wl1 w1)
    (callF Tryz.prog 316 #[.int .u8 n0_1] wl1 fun r17_1 w2 =>
      ∃ n17_1, r17_1 = .int .u8 n17_1 ∧
      goesOn [] [] I1 μ1 us1 [.int .u8 n17_1, .int .u8 (Int.fdiv n1_1 (2 ^ 1)), .int .u8 n4, .int .u8 n5] wl1 w2))
  (Q (.int .u8 n5) wl1)
def field_Mul_tt : Nat → List (Nat × TypeId) := fun n => match n with | 0 => [(0, 5), (1, 5), (4, 5), (5, 5)] | _ => []
theorem field_Mul_call (n0 : Int) (n1 : Int) (w : World) (Q : Value → World → Prop) (h : field_Mul n0 n1 w Q) : callF Tryz.prog 300 #[.int .u8 n0, .int .u8 n1] w Q :=
  callBy field_Mul_tt Tryz.func300 h (fun _ _ => by kernel_rfl) (by kernel_rfl) (by kernel_rfl) (by kernel_rfl)
def field_sign (n0 : Int) (w : World) (Q : Value → World → Prop) : Prop :=
  callF Tryz.prog 328 #[.int .u8 n0] w fun r5 w1 =>
  ∃ n5, r5 = .int .u8 n5 ∧
  callF Tryz.prog 330 #[.int .u8 n5, .int .i64 1] w1 fun r8 w2 =>
  ∃ n8, r8 = .int .u8 n8 ∧
  callF Tryz.prog 330 #[.int .u8 n5, .int .i64 2] w2 fun r10 w3 =>
  ∃ n10, r10 = .int .u8 n10 ∧
  callF Tryz.prog 330 #[.int .u8 n5, .int .i64 3] w3 fun r12 w4 =>
  ∃ n12, r12 = .int .u8 n12 ∧
  callF Tryz.prog 330 #[.int .u8 n5, .int .i64 4] w4 fun r14 w5 =>
  ∃ n14, r14 = .int .u8 n14 ∧
  ∃ p15 l15 c15 w6, Ef Tryz.prog (Instr.buildSlice 25 6 #[(0, .int .u8 n5), (1, .int .u8 n8), (2, .int .u8 n10), (3, .int .u8 n12), (4, .int .u8 n14), (5, .int .u8 99)]) w5 (.slice p15 l15 c15) w6 ∧
  callF Tryz.prog 329 #[.slice p15 l15 c15] w6 fun r16 w7 =>
  ∃ n16, r16 = .int .u8 n16 ∧
  Q (.int .u8 n16) w7
def field_sign_tt : Nat → List (Nat × TypeId) := fun _ => []
theorem field_sign_call (n0 : Int) (w : World) (Q : Value → World → Prop) (h : field_sign n0 w Q) : callF Tryz.prog 313 #[.int .u8 n0] w Q :=
  callBy field_sign_tt Tryz.func313 h (fun _ _ => by kernel_rfl) (by kernel_rfl) (by kernel_rfl) (by kernel_rfl)
def field_double (n0 : Int) (w : World) (Q : Value → World → Prop) : Prop :=
  cond ((iand .u8 n0 128) != 0)
  (Q (.int .u8 (ixor .u8 (IntKind.u8.wrap (n0 * 2 ^ 1)) 27)) w)
  (Q (.int .u8 (IntKind.u8.wrap (n0 * 2 ^ 1))) w)
def field_double_tt : Nat → List (Nat × TypeId) := fun _ => []
theorem field_double_call (n0 : Int) (w : World) (Q : Value → World → Prop) (h : field_double n0 w Q) : callF Tryz.prog 316 #[.int .u8 n0] w Q :=
  callBy field_double_tt Tryz.func316 h (fun _ _ => by kernel_rfl) (by kernel_rfl) (by kernel_rfl) (by kernel_rfl)
def field_Inv (n0 : Int) (w : World) (Q : Value → World → Prop) : Prop :=
  callF Tryz.prog 270 #[.int .u8 n0, .int .u64 254] w fun r4 w1 =>
  ∃ n4, r4 = .int .u8 n4 ∧
  Q (.int .u8 n4) w1
def field_Inv_tt : Nat → List (Nat × TypeId) := fun _ => []
theorem field_Inv_call (n0 : Int) (w : World) (Q : Value → World → Prop) (h : field_Inv n0 w Q) : callF Tryz.prog 328 #[.int .u8 n0] w Q :=
  callBy field_Inv_tt Tryz.func328 h (fun _ _ => by kernel_rfl) (by kernel_rfl) (by kernel_rfl) (by kernel_rfl)
def field_Sum (p0 : Option Addr) (l0 : Nat) (c0 : Nat) (w : World) (Q : Value → World → Prop) : Prop :=
  LoopS [.int .u8 0, .int .u8 0, .slice p0 l0 c0, .int .i64 ((l0 : Nat) : Int), .int .i64 0] w fun I1 μ1 us1 _ wl1 =>
  ∃ n2 n3 p6 l6 c6 n7 n8, us1 = [.int .u8 n2, .int .u8 n3, .slice p6 l6 c6, .int .i64 n7, .int .i64 n8] ∧
  cond (decide (n8 < n7))
  (∃ a10, IxA Tryz.prog 25 (.slice p6 l6 c6) (.int .i64 n8) a10 ∧
    ∃ n11, Ld Tryz.prog 5 (.pointer (some a10)) wl1 (.int .u8 n11) ∧
    goesOn [] [] I1 μ1 us1 [.int .u8 n2, .int .u8 (ixor .u8 n3 n11), .slice p6 l6 c6, .int .i64 n7, .int .i64 (IntKind.i64.wrap (n8 + 1))] wl1 wl1)
  (Q (.int .u8 n3) wl1)
def field_Sum_tt : Nat → List (Nat × TypeId) := fun n => match n with | 0 => [(2, 5), (3, 5), (6, 25), (7, 3), (8, 3)] | _ => []
theorem field_Sum_call (p0 : Option Addr) (l0 : Nat) (c0 : Nat) (w : World) (Q : Value → World → Prop) (h : field_Sum p0 l0 c0 w Q) : callF Tryz.prog 329 #[.slice p0 l0 c0] w Q :=
  callBy field_Sum_tt Tryz.func329 h (fun _ _ => by kernel_rfl) (by kernel_rfl) (by kernel_rfl) (by kernel_rfl)
def field_turned (n0 : Int) (n1 : Int) (w : World) (Q : Value → World → Prop) : Prop :=
  Drw w fun w1 =>
  ∃ n7, Pu Tryz.prog (do eqGuard .shl 5 (.tmp 5) (.tmp 6) (.int .u8 n0) (.int .i64 n1); binOp .shl 5 (.int .u8 n0) (.int .i64 n1) : Sem Value) (.int .u8 n7) ∧
  ∃ n11, Pu Tryz.prog (do eqGuard .shr 5 (.tmp 8) (.tmp 10) (.int .u8 n0) (.int .i64 (IntKind.i64.wrap (8 - n1))); binOp .shr 5 (.int .u8 n0) (.int .i64 (IntKind.i64.wrap (8 - n1))) : Sem Value) (.int .u8 n11) ∧
  Q (.int .u8 (ior .u8 n7 n11)) w1
def field_turned_tt : Nat → List (Nat × TypeId) := fun _ => []
theorem field_turned_call (n0 : Int) (n1 : Int) (w : World) (Q : Value → World → Prop) (h : field_turned n0 n1 w Q) : callF Tryz.prog 330 #[.int .u8 n0, .int .i64 n1] w Q :=
  callBy field_turned_tt Tryz.func330 h (fun _ _ => by kernel_rfl) (by kernel_rfl) (by kernel_rfl) (by kernel_rfl)
end Go.Sh
end

section
namespace Go.Sh
open Go Go.Fw Go.Proofs
set_option maxRecDepth 100000
theorem sync_atomic_AddInt64_c {b n o : Nat} {g : Nat → Value} {x y : Int} {w : World} (hB : Blk w b n g) (ho : o < n) (hv : g o = .int .i64 x) {K : Value → World → Prop} (h : ∀ w', Fr [b] w w' → Blk w' b n (upd g o (.int .i64 (IntKind.i64.wrap (x + y)))) → w'.heap.size = w.heap.size → K (.int .i64 (IntKind.i64.wrap (x + y))) w') : callF Tryz.prog F_sync_atomic_AddInt64 #[.pointer (some ⟨b, o, none⟩), .int .i64 y] w K := add_c Tryz.func218 (by kernel_rfl) (by kernel_rfl) (by kernel_rfl) .i64 (by kernel_rfl) hB ho hv h
theorem sync_atomic_LoadUint32_c {b n o : Nat} {g : Nat → Value} {x : Int} {w : World} (hB : Blk w b n g) (ho : o < n) (hv : g o = .int .u32 x) {K : Value → World → Prop} (h : K (.int .u32 x) w) : callF Tryz.prog F_sync_atomic_LoadUint32 #[.pointer (some ⟨b, o, none⟩)] w K := load_c Tryz.func324 (by kernel_rfl) (by kernel_rfl) (by kernel_rfl) .u32 (by kernel_rfl) hB ho hv h
theorem sync_atomic_StoreUint32_c {b n o : Nat} {g : Nat → Value} {y : Int} {w : World} (hB : Blk w b n g) (ho : o < n) {K : Value → World → Prop} (h : ∀ w', Fr [b] w w' → Blk w' b n (upd g o (.int .u32 y)) → w'.heap.size = w.heap.size → K (.tuple #[]) w') : callF Tryz.prog F_sync_atomic_StoreUint32 #[.pointer (some ⟨b, o, none⟩), .int .u32 y] w K := storeA_c Tryz.func337 (by kernel_rfl) (by kernel_rfl) (by kernel_rfl) (by kernel_rfl) hB ho h
theorem internal_race_Disable_c {w : World} {K : Value → World → Prop} (h : K (.tuple #[]) w) : callF Tryz.prog F_internal_race_Disable #[] w K := mark0_c Tryz.func340 (by kernel_rfl) (by kernel_rfl) (by kernel_rfl) .disable (by kernel_rfl) h
theorem sync_atomic_CompareAndSwapInt32_c {b n o : Nat} {g : Nat → Value} {x y : Int} {w : World} (hB : Blk w b n g) (ho : o < n) (hv : g o = .int .i32 x) {K : Value → World → Prop} (h : ∀ w', Fr [b] w w' → Blk w' b n (upd g o (.int .i32 y)) → w'.heap.size = w.heap.size → K (.bool true) w') : callF Tryz.prog F_sync_atomic_CompareAndSwapInt32 #[.pointer (some ⟨b, o, none⟩), .int .i32 x, .int .i32 y] w K := cas_c Tryz.func341 (by kernel_rfl) (by kernel_rfl) (by kernel_rfl) .i32 (by kernel_rfl) hB ho hv h
theorem internal_race_Enable_c {w : World} {K : Value → World → Prop} (h : K (.tuple #[]) w) : callF Tryz.prog F_internal_race_Enable #[] w K := mark0_c Tryz.func342 (by kernel_rfl) (by kernel_rfl) (by kernel_rfl) .enable (by kernel_rfl) h
theorem internal_race_Acquire_c {a : Addr} {w : World} {K : Value → World → Prop} (h : K (.tuple #[]) w) : callF Tryz.prog F_internal_race_Acquire #[.pointer (some a)] w K := marked_c Tryz.func343 (by kernel_rfl) (by kernel_rfl) (by kernel_rfl) .acquire (by kernel_rfl) h
theorem internal_race_ReleaseMerge_c {a : Addr} {w : World} {K : Value → World → Prop} (h : K (.tuple #[]) w) : callF Tryz.prog F_internal_race_ReleaseMerge #[.pointer (some a)] w K := marked_c Tryz.func345 (by kernel_rfl) (by kernel_rfl) (by kernel_rfl) .releaseMerge (by kernel_rfl) h
theorem sync_atomic_AddInt32_c {b n o : Nat} {g : Nat → Value} {x y : Int} {w : World} (hB : Blk w b n g) (ho : o < n) (hv : g o = .int .i32 x) {K : Value → World → Prop} (h : ∀ w', Fr [b] w w' → Blk w' b n (upd g o (.int .i32 (IntKind.i32.wrap (x + y)))) → w'.heap.size = w.heap.size → K (.int .i32 (IntKind.i32.wrap (x + y))) w') : callF Tryz.prog F_sync_atomic_AddInt32 #[.pointer (some ⟨b, o, none⟩), .int .i32 y] w K := add_c Tryz.func346 (by kernel_rfl) (by kernel_rfl) (by kernel_rfl) .i32 (by kernel_rfl) hB ho hv h
end Go.Sh
end

section
namespace Go.Sh
open Go Go.Fw Go.Proofs
set_option maxRecDepth 100000
set_option linter.unusedVariables false
def internal_sync_Mutex_Lock (p0 : Option Addr) (w : World) (Q : Value → World → Prop) : Prop :=
  callF Tryz.prog 340 #[] w fun r2 w1 =>
  r2 = .tuple #[] ∧
  ∃ a4, p0 = some a4 ∧
  callF Tryz.prog 341 #[.pointer (some (a4.add 0)), .int .i32 0, .int .i32 1] w1 fun r6 w2 =>
  ∃ b6, r6 = .bool b6 ∧
  cond b6
  (callF Tryz.prog 342 #[] w2 fun r7 w3 =>
    r7 = .tuple #[] ∧
    ∃ v9 w4, Ef Tryz.prog (convert 433 437 (.pointer p0)) w3 (v9) w4 ∧
    callF Tryz.prog 343 #[v9] w4 fun r10 w5 =>
    r10 = .tuple #[] ∧
    Q (.tuple #[]) w5)
  (callF Tryz.prog 344 #[.pointer p0] w2 fun r12 w6 =>
    r12 = .tuple #[] ∧
    Q (.tuple #[]) w6)
def internal_sync_Mutex_Lock_tt : Nat → List (Nat × TypeId) := fun _ => []
theorem internal_sync_Mutex_Lock_call (p0 : Option Addr) (w : World) (Q : Value → World → Prop) (h : internal_sync_Mutex_Lock p0 w Q) : callF Tryz.prog 335 #[.pointer p0] w Q :=
  callBy internal_sync_Mutex_Lock_tt Tryz.func335 h (fun _ _ => by kernel_rfl) (by kernel_rfl) (by kernel_rfl) (by kernel_rfl)
def internal_sync_Mutex_Unlock_j1 (p0 : Option Addr) (w : World) (Q : Value → World → Prop) : Prop :=
  ∃ a12, p0 = some a12 ∧
  callF Tryz.prog 346 #[.pointer (some (a12.add 0)), .int .i32 (-1)] w fun r14 w1 =>
  ∃ n14, r14 = .int .i32 n14 ∧
  cond (n14 != 0)
  (callF Tryz.prog 347 #[.pointer p0, .int .i32 n14] w1 fun r19 w2 =>
    r19 = .tuple #[] ∧
    callF Tryz.prog 342 #[] w2 fun r20 w3 =>
    r20 = .tuple #[] ∧
    Q (.tuple #[]) w3)
  (callF Tryz.prog 342 #[] w1 fun r20_1 w4 =>
    r20_1 = .tuple #[] ∧
    Q (.tuple #[]) w4)
def internal_sync_Mutex_Unlock (p0 : Option Addr) (w : World) (Q : Value → World → Prop) : Prop :=
  ∃ a4, p0 = some a4 ∧
  ∃ n6, Ld Tryz.prog 21 (.pointer (some (a4.add 0))) w (.int .i32 n6) ∧
  ∃ v8 w1, Ef Tryz.prog (convert 433 437 (.pointer p0)) w (v8) w1 ∧
  callF Tryz.prog 345 #[v8] w1 fun r9 w2 =>
  r9 = .tuple #[] ∧
  callF Tryz.prog 340 #[] w2 fun r10 w3 =>
  r10 = .tuple #[] ∧
  internal_sync_Mutex_Unlock_j1 p0 w3 Q
def internal_sync_Mutex_Unlock_tt : Nat → List (Nat × TypeId) := fun _ => []
theorem internal_sync_Mutex_Unlock_call (p0 : Option Addr) (w : World) (Q : Value → World → Prop) (h : internal_sync_Mutex_Unlock p0 w Q) : callF Tryz.prog 336 #[.pointer p0] w Q :=
  callBy internal_sync_Mutex_Unlock_tt Tryz.func336 h (fun _ _ => by kernel_rfl) (by kernel_rfl) (by kernel_rfl) (by kernel_rfl)
end Go.Sh
end

section
namespace Go.Sh
open Go Go.Fw Go.Proofs
set_option maxRecDepth 100000
set_option linter.unusedVariables false
def sync_Once_Do (p0 : Option Addr) (v1 : Value) (w : World) (Q : Value → World → Prop) : Prop :=
  ∃ a5, p0 = some a5 ∧
  callF Tryz.prog 311 #[.pointer (some (a5.add 0))] w fun r7 w1 =>
  ∃ b7, r7 = .bool b7 ∧
  cond (!b7)
  (callF Tryz.prog 312 #[.pointer p0, v1] w1 fun r11 w2 =>
    r11 = .tuple #[] ∧
    Q (.tuple #[]) w2)
  (Q (.tuple #[]) w1)
def sync_Once_Do_tt : Nat → List (Nat × TypeId) := fun _ => []
theorem sync_Once_Do_call (p0 : Option Addr) (v1 : Value) (w : World) (Q : Value → World → Prop) (h : sync_Once_Do p0 v1 w Q) : callF Tryz.prog 293 #[.pointer p0, v1] w Q :=
  callBy sync_Once_Do_tt Tryz.func293 h (fun _ _ => by kernel_rfl) (by kernel_rfl) (by kernel_rfl) (by kernel_rfl)
def sync_Once_doSlow (p0 : Option Addr) (v1 : Value) (w : World) (Q : Value → World → Prop) : Prop :=
  ∃ a5, p0 = some a5 ∧
  callF Tryz.prog 325 #[.pointer (some (a5.add 1))] w fun r7 w1 =>
  r7 = .tuple #[] ∧
  ∃ a9, p0 = some a9 ∧
  ∃ a12, p0 = some a12 ∧
  callF Tryz.prog 311 #[.pointer (some (a12.add 0))] w1 fun r14 w2 =>
  ∃ b14, r14 = .bool b14 ∧
  cond (!b14)
  (∃ a17, p0 = some a17 ∧
    callV Tryz.prog (v1) [] w2 fun r20 w3 =>
    r20 = .tuple #[] ∧
    callDF Tryz.prog 327 #[.pointer (some (a17.add 0)), .bool true] w3 fun w4 =>
    callDF Tryz.prog 326 #[.pointer (some (a9.add 1))] w4 fun w5 =>
    Q (.tuple #[]) w5)
  (callDF Tryz.prog 326 #[.pointer (some (a9.add 1))] w2 fun w6 =>
    Q (.tuple #[]) w6)
def sync_Once_doSlow_tt : Nat → List (Nat × TypeId) := fun _ => []
theorem sync_Once_doSlow_call (p0 : Option Addr) (v1 : Value) (w : World) (Q : Value → World → Prop) (h : sync_Once_doSlow p0 v1 w Q) : callF Tryz.prog 312 #[.pointer p0, v1] w Q :=
  callBy sync_Once_doSlow_tt Tryz.func312 h (fun _ _ => by kernel_rfl) (by kernel_rfl) (by kernel_rfl) (by kernel_rfl)
def sync_Mutex_Lock (p0 : Option Addr) (w : World) (Q : Value → World → Prop) : Prop :=
  ∃ a3, p0 = some a3 ∧
  callF Tryz.prog 335 #[.pointer (some (a3.add 0))] w fun r5 w1 =>
  r5 = .tuple #[] ∧
  Q (.tuple #[]) w1
def sync_Mutex_Lock_tt : Nat → List (Nat × TypeId) := fun _ => []
theorem sync_Mutex_Lock_call (p0 : Option Addr) (w : World) (Q : Value → World → Prop) (h : sync_Mutex_Lock p0 w Q) : callF Tryz.prog 325 #[.pointer p0] w Q :=
  callBy sync_Mutex_Lock_tt Tryz.func325 h (fun _ _ => by kernel_rfl) (by kernel_rfl) (by kernel_rfl) (by kernel_rfl)
def sync_Mutex_Unlock (p0 : Option Addr) (w : World) (Q : Value → World → Prop) : Prop :=
  ∃ a3, p0 = some a3 ∧
  callF Tryz.prog 336 #[.pointer (some (a3.add 0))] w fun r5 w1 =>
  r5 = .tuple #[] ∧
  Q (.tuple #[]) w1
def sync_Mutex_Unlock_tt : Nat → List (Nat × TypeId) := fun _ => []
theorem sync_Mutex_Unlock_calld (p0 : Option Addr) (w : World) (K : World → Prop) (h : sync_Mutex_Unlock p0 w (fun _ w => K w)) : callDF Tryz.prog 326 #[.pointer p0] w K :=
  ⟨fun _ _ => by kernel_rfl, callD_of_sw sync_Mutex_Unlock_tt Tryz.func326 rfl (by kernel_rfl) (show sw Tryz.prog none 6 sync_Mutex_Unlock_tt _ 0 (endD Tryz.prog [] K) ⟨regs [.pointer p0], []⟩ w from
    Eq.mp (by kernel_rfl : sync_Mutex_Unlock p0 w (fun _ w => K w) = sw Tryz.prog none 6 sync_Mutex_Unlock_tt (Tryz.f326.body.getD .skip) 0 (endD Tryz.prog [] K) ⟨regs [.pointer p0], []⟩ w) h)⟩
end Go.Sh
end

section
namespace Go.Sh
open Go Go.Fw Go.Proofs
set_option maxRecDepth 100000
set_option linter.unusedVariables false
def sync_atomic_Int64_Add (p0 : Option Addr) (n1 : Int) (w : World) (Q : Value → World → Prop) : Prop :=
  ∃ a6, p0 = some a6 ∧
  callF Tryz.prog 218 #[.pointer (some (a6.add 0)), .int .i64 n1] w fun r9 w1 =>
  ∃ n9, r9 = .int .i64 n9 ∧
  Q (.int .i64 n9) w1
def sync_atomic_Int64_Add_tt : Nat → List (Nat × TypeId) := fun _ => []
theorem sync_atomic_Int64_Add_call (p0 : Option Addr) (n1 : Int) (w : World) (Q : Value → World → Prop) (h : sync_atomic_Int64_Add p0 n1 w Q) : callF Tryz.prog 163 #[.pointer p0, .int .i64 n1] w Q :=
  callBy sync_atomic_Int64_Add_tt Tryz.func163 h (fun _ _ => by kernel_rfl) (by kernel_rfl) (by kernel_rfl) (by kernel_rfl)
def sync_atomic_Bool_Load (p0 : Option Addr) (w : World) (Q : Value → World → Prop) : Prop :=
  ∃ a4, p0 = some a4 ∧
  callF Tryz.prog 324 #[.pointer (some (a4.add 0))] w fun r6 w1 =>
  ∃ n6, r6 = .int .u32 n6 ∧
  Q (.bool (n6 != 0)) w1
def sync_atomic_Bool_Load_tt : Nat → List (Nat × TypeId) := fun _ => []
theorem sync_atomic_Bool_Load_call (p0 : Option Addr) (w : World) (Q : Value → World → Prop) (h : sync_atomic_Bool_Load p0 w Q) : callF Tryz.prog 311 #[.pointer p0] w Q :=
  callBy sync_atomic_Bool_Load_tt Tryz.func311 h (fun _ _ => by kernel_rfl) (by kernel_rfl) (by kernel_rfl) (by kernel_rfl)
def sync_atomic_Bool_Store (p0 : Option Addr) (b1 : Bool) (w : World) (Q : Value → World → Prop) : Prop :=
  Drw w fun w1 =>
  ∃ a5, p0 = some a5 ∧
  callF Tryz.prog 338 #[.bool b1] w1 fun r8 w2 =>
  ∃ n8, r8 = .int .u32 n8 ∧
  callF Tryz.prog 337 #[.pointer (some (a5.add 0)), .int .u32 n8] w2 fun r9 w3 =>
  r9 = .tuple #[] ∧
  Q (.tuple #[]) w3
def sync_atomic_Bool_Store_tt : Nat → List (Nat × TypeId) := fun _ => []
theorem sync_atomic_Bool_Store_calld (p0 : Option Addr) (b1 : Bool) (w : World) (K : World → Prop) (h : sync_atomic_Bool_Store p0 b1 w (fun _ w => K w)) : callDF Tryz.prog 327 #[.pointer p0, .bool b1] w K :=
  ⟨fun _ _ => by kernel_rfl, callD_of_sw sync_atomic_Bool_Store_tt Tryz.func327 rfl (by kernel_rfl) (show sw Tryz.prog none 10 sync_atomic_Bool_Store_tt _ 0 (endD Tryz.prog [] K) ⟨regs [.pointer p0, .bool b1], []⟩ w from
    Eq.mp (by kernel_rfl : sync_atomic_Bool_Store p0 b1 w (fun _ w => K w) = sw Tryz.prog none 10 sync_atomic_Bool_Store_tt (Tryz.f327.body.getD .skip) 0 (endD Tryz.prog [] K) ⟨regs [.pointer p0, .bool b1], []⟩ w) h)⟩
def sync_atomic_b32 (b0 : Bool) (w : World) (Q : Value → World → Prop) : Prop :=
  cond b0
  (Q (.int .u32 1) w)
  (Q (.int .u32 0) w)
def sync_atomic_b32_tt : Nat → List (Nat × TypeId) := fun _ => []
theorem sync_atomic_b32_call (b0 : Bool) (w : World) (Q : Value → World → Prop) (h : sync_atomic_b32 b0 w Q) : callF Tryz.prog 338 #[.bool b0] w Q :=
  callBy sync_atomic_b32_tt Tryz.func338 h (fun _ _ => by kernel_rfl) (by kernel_rfl) (by kernel_rfl) (by kernel_rfl)
end Go.Sh
end

section
namespace Go.Sh
open Go Go.Fw Go.Proofs
set_option maxRecDepth 100000
set_option linter.unusedVariables false
def slices_Clone_byte_byte (p0 : Option Addr) (l0 : Nat) (c0 : Nat) (w : World) (Q : Value → World → Prop) : Prop :=
  ∃ b4 w1, Ef Tryz.prog (do eqGuard .eql 25 (.tmp 3) (.const (.slice none 0 0)) (.slice p0 l0 c0) (.slice none 0 0); binOp .eql 25 (.slice p0 l0 c0) (.slice none 0 0) : Sem Value) w (.bool b4) w1 ∧
  cond b4
  (Q (.slice none 0 0) w1)
  (∃ p5 l5 c5 w2, Ef Tryz.prog (Instr.buildSlice 25 0 #[]) w1 (.slice p5 l5 c5) w2 ∧
    ∃ p7 l7 c7 w3, Ef Tryz.prog (Builtin.append_ #[25, 25] 25 #[.slice p5 l5 c5, .slice p0 l0 c0]) w2 (.slice p7 l7 c7) w3 ∧
    Q (.slice p7 l7 c7) w3)
def slices_Clone_byte_byte_tt : Nat → List (Nat × TypeId) := fun _ => []
theorem slices_Clone_byte_byte_call (p0 : Option Addr) (l0 : Nat) (c0 : Nat) (w : World) (Q : Value → World → Prop) (h : slices_Clone_byte_byte p0 l0 c0 w Q) : callF Tryz.prog 102 #[.slice p0 l0 c0] w Q :=
  callBy slices_Clone_byte_byte_tt Tryz.func102 h (fun _ _ => by kernel_rfl) (by kernel_rfl) (by kernel_rfl) (by kernel_rfl)
def slices_Equal_byte_byte (p0 : Option Addr) (l0 : Nat) (c0 : Nat) (p1 : Option Addr) (l1 : Nat) (c1 : Nat) (w : World) (Q : Value → World → Prop) : Prop :=
  cond (((l0 : Nat) : Int) != ((l1 : Nat) : Int))
  (Q (.bool false) w)
  (LoopS [.slice p0 l0 c0, .slice p1 l1 c1, .bool false, .int .i64 ((l0 : Nat) : Int), .int .i64 0] w fun I1 μ1 us1 _ wl1 =>
    ∃ p0_1 l0_1 c0_1 p1_1 l1_1 c1_1 b4 n12 n13, us1 = [.slice p0_1 l0_1 c0_1, .slice p1_1 l1_1 c1_1, .bool b4, .int .i64 n12, .int .i64 n13] ∧
    cond (decide (n13 < n12))
    (∃ (S6 : World → Prop),
      Drw wl1 fun w1 =>
      ∃ a18, IxA Tryz.prog 25 (.slice p0_1 l0_1 c0_1) (.int .i64 n13) a18 ∧
      ∃ a22, IxA Tryz.prog 25 (.slice p1_1 l1_1 c1_1) (.int .i64 n13) a22 ∧
      ∃ n19, HLd Tryz.prog S6 5 (.pointer (some a18)) w1 (.int .u8 n19) ∧
      ∃ n23, Ld Tryz.prog 5 (.pointer (some a22)) w1 (.int .u8 n23) ∧
      (w1 = w1 ∨ S6 w1) ∧
      cond (n19 != n23)
      (Q (.bool false) w1)
      (goesOn [] [] I1 μ1 us1 [.slice p0_1 l0_1 c0_1, .slice p1_1 l1_1 c1_1, .bool b4, .int .i64 n12, .int .i64 (IntKind.i64.wrap (n13 + 1))] wl1 w1))
    (Q (.bool true) wl1))
def slices_Equal_byte_byte_tt : Nat → List (Nat × TypeId) := fun n => match n with | 0 => [(0, 25), (1, 25), (4, 4), (12, 3), (13, 3)] | _ => []
theorem slices_Equal_byte_byte_call (p0 : Option Addr) (l0 : Nat) (c0 : Nat) (p1 : Option Addr) (l1 : Nat) (c1 : Nat) (w : World) (Q : Value → World → Prop) (h : slices_Equal_byte_byte p0 l0 c0 p1 l1 c1 w Q) : callF Tryz.prog 107 #[.slice p0 l0 c0, .slice p1 l1 c1] w Q :=
  callBy slices_Equal_byte_byte_tt Tryz.func107 h (fun _ _ => by kernel_rfl) (by kernel_rfl) (by kernel_rfl) (by kernel_rfl)
def slices_Backward_byte_byte (p0 : Option Addr) (l0 : Nat) (c0 : Nat) (w : World) (Q : Value → World → Prop) : Prop :=
  New #[.slice p0 l0 c0] 25 w fun k1 w1 =>
  Q (.func (.func 228) #[] #[.pointer (some (⟨k1, 0, none⟩ : Addr))]) w1
def slices_Backward_byte_byte_tt : Nat → List (Nat × TypeId) := fun _ => []
theorem slices_Backward_byte_byte_call (p0 : Option Addr) (l0 : Nat) (c0 : Nat) (w : World) (Q : Value → World → Prop) (h : slices_Backward_byte_byte p0 l0 c0 w Q) : callF Tryz.prog 182 #[.slice p0 l0 c0] w Q :=
  callBy slices_Backward_byte_byte_tt Tryz.func182 h (fun _ _ => by kernel_rfl) (by kernel_rfl) (by kernel_rfl) (by kernel_rfl)
def slices_Concat_byte_byte_j1 (p0 : Option Addr) (l0 : Nat) (c0 : Nat) (p2 : Option Addr) (l2 : Nat) (c2 : Nat) (n3 : Int) (w : World) (Q : Value → World → Prop) : Prop :=
  callF Tryz.prog 237 #[.slice none 0 0, .int .i64 n3] w fun r24 w1 =>
  ∃ p24 l24 c24, r24 = .slice p24 l24 c24 ∧
  LoopS [.slice p2 l2 c2, .slice p24 l24 c24, .slice p0 l0 c0, .int .i64 ((l0 : Nat) : Int), .int .i64 0] w1 fun I2 μ2 us2 _ wl2 =>
  ∃ p2_1 l2_1 c2_1 p6 l6 c6 p25 l25 c25 n26 n27, us2 = [.slice p2_1 l2_1 c2_1, .slice p6 l6 c6, .slice p25 l25 c25, .int .i64 n26, .int .i64 n27] ∧
  cond (decide (n27 < n26))
  (∃ a29, IxA Tryz.prog 45 (.slice p25 l25 c25) (.int .i64 n27) a29 ∧
    ∃ p30 l30 c30, Ld Tryz.prog 25 (.pointer (some a29)) wl2 (.slice p30 l30 c30) ∧
    ∃ p33 l33 c33 w2, Ef Tryz.prog (Builtin.append_ #[25, 25] 25 #[.slice p6 l6 c6, .slice p30 l30 c30]) wl2 (.slice p33 l33 c33) w2 ∧
    goesOn [] [] I2 μ2 us2 [.slice p2_1 l2_1 c2_1, .slice p33 l33 c33, .slice p25 l25 c25, .int .i64 n26, .int .i64 (IntKind.i64.wrap (n27 + 1))] wl2 w2)
  (Q (.slice p6 l6 c6) wl2)
def slices_Concat_byte_byte (p0 : Option Addr) (l0 : Nat) (c0 : Nat) (w : World) (Q : Value → World → Prop) : Prop :=
  LoopS [.slice p0 l0 c0, .slice none 0 0, .int .i64 0, .slice p0 l0 c0, .int .i64 ((l0 : Nat) : Int), .int .i64 0] w fun I1 μ1 us1 _ wl1 =>
  ∃ p0_1 l0_1 c0_1 p2 l2 c2 n3 p9 l9 c9 n10 n11, us1 = [.slice p0_1 l0_1 c0_1, .slice p2 l2 c2, .int .i64 n3, .slice p9 l9 c9, .int .i64 n10, .int .i64 n11] ∧
  cond (decide (n11 < n10))
  (∃ a13, IxA Tryz.prog 45 (.slice p9 l9 c9) (.int .i64 n11) a13 ∧
    ∃ p14 l14 c14, Ld Tryz.prog 25 (.pointer (some a13)) wl1 (.slice p14 l14 c14) ∧
    cond (decide ((IntKind.i64.wrap (n3 + ((l14 : Nat) : Int))) < 0))
    (∃ v21 w1, Ef Tryz.prog (Instr.makeInterface 9 (.string (⟨#[108, 101, 110, 32, 111, 117, 116, 32, 111, 102, 32, 114, 97, 110, 103, 101]⟩ : ByteArray))) wl1 (v21) w1 ∧
      False)
    (goesOn [] [] I1 μ1 us1 [.slice p0_1 l0_1 c0_1, .slice p2 l2 c2, .int .i64 (IntKind.i64.wrap (n3 + ((l14 : Nat) : Int))), .slice p9 l9 c9, .int .i64 n10, .int .i64 (IntKind.i64.wrap (n11 + 1))] wl1 wl1))
  (slices_Concat_byte_byte_j1 p0_1 l0_1 c0_1 p2 l2 c2 n3 wl1 Q)
def slices_Concat_byte_byte_tt : Nat → List (Nat × TypeId) := fun n => match n with | 0 => [(0, 45), (2, 25), (3, 3), (9, 45), (10, 3), (11, 3)] | 2 => [(2, 25), (6, 25), (25, 45), (26, 3), (27, 3)] | _ => []
theorem slices_Concat_byte_byte_call (p0 : Option Addr) (l0 : Nat) (c0 : Nat) (w : World) (Q : Value → World → Prop) (h : slices_Concat_byte_byte p0 l0 c0 w Q) : callF Tryz.prog 188 #[.slice p0 l0 c0] w Q :=
  callBy slices_Concat_byte_byte_tt Tryz.func188 h (fun _ _ => by kernel_rfl) (by kernel_rfl) (by kernel_rfl) (by kernel_rfl)
def slices_Backward_byte_byte_c1 (v0 : Value) (p1 : Option Addr) (w : World) (Q : Value → World → Prop) : Prop :=
  ∃ p4 l4 c4, Ld Tryz.prog 25 (.pointer p1) w (.slice p4 l4 c4) ∧
  LoopS [v0, .pointer p1, .int .i64 (IntKind.i64.wrap (((l4 : Nat) : Int) - 1))] w fun I1 μ1 us1 _ wl1 =>
  ∃ v0_1 p1_1 n3, us1 = [v0_1, .pointer p1_1, .int .i64 n3] ∧
  cond (decide (n3 ≥ 0))
  (∃ p13 l13 c13, Ld Tryz.prog 25 (.pointer p1_1) wl1 (.slice p13 l13 c13) ∧
    ∃ a15, IxA Tryz.prog 25 (.slice p13 l13 c13) (.int .i64 n3) a15 ∧
    ∃ n16, Ld Tryz.prog 5 (.pointer (some a15)) wl1 (.int .u8 n16) ∧
    callV Tryz.prog (v0_1) [.int .i64 n3, .int .u8 n16] wl1 fun r17 w1 =>
    ∃ b17, r17 = .bool b17 ∧
    cond (!b17)
    (Q (.tuple #[]) w1)
    (goesOn [] [] I1 μ1 us1 [v0_1, .pointer p1_1, .int .i64 (IntKind.i64.wrap (n3 - 1))] wl1 w1))
  (Q (.tuple #[]) wl1)
def slices_Backward_byte_byte_c1_tt : Nat → List (Nat × TypeId) := fun n => match n with | 0 => [(0, 317), (1, 15), (3, 3)] | _ => []
theorem slices_Backward_byte_byte_c1_call (v0 : Value) (p1 : Option Addr) (w : World) (Q : Value → World → Prop) (h : slices_Backward_byte_byte_c1 v0 p1 w Q) : callF Tryz.prog 228 #[v0, .pointer p1] w Q :=
  callBy slices_Backward_byte_byte_c1_tt Tryz.func228 h (fun _ _ => by kernel_rfl) (by kernel_rfl) (by kernel_rfl) (by kernel_rfl)
def slices_Grow_byte_byte_j1 (p0 : Option Addr) (l0 : Nat) (c0 : Nat) (n1 : Int) (p4 : Option Addr) (l4 : Nat) (c4 : Nat) (w : World) (Q : Value → World → Prop) : Prop :=
  ∃ n10, Pu Tryz.prog (Builtin.cap_ #[25] 3 #[.slice p0 l0 c0]) (.int .i64 n10) ∧
  cond (decide ((IntKind.i64.wrap (n1 - (IntKind.i64.wrap (n10 - ((l0 : Nat) : Int))))) > 0))
  (∃ n19, Pu Tryz.prog (Builtin.cap_ #[25] 3 #[.slice p0 l0 c0]) (.int .i64 n19) ∧
    ∃ p20 l20 c20, Pu Tryz.prog (Instr.sliceAt 25 (.slice p0 l0 c0) none (some (.int .i64 n19)) none) (.slice p20 l20 c20) ∧
    ∃ p22 l22 c22 w1, Ef Tryz.prog (Builtin.append_ #[25, 3] 25 #[.slice p20 l20 c20, .int .i64 (IntKind.i64.wrap (n1 - (IntKind.i64.wrap (n10 - ((l0 : Nat) : Int)))))]) w (.slice p22 l22 c22) w1 ∧
    ∃ p25 l25 c25, Pu Tryz.prog (Instr.sliceAt 25 (.slice p22 l22 c22) none (some (.int .i64 ((l0 : Nat) : Int))) none) (.slice p25 l25 c25) ∧
    Q (.slice p25 l25 c25) w1)
  (Q (.slice p0 l0 c0) w)
def slices_Grow_byte_byte (p0 : Option Addr) (l0 : Nat) (c0 : Nat) (n1 : Int) (w : World) (Q : Value → World → Prop) : Prop :=
  cond (decide (n1 < 0))
  (∃ v7 w1, Ef Tryz.prog (Instr.makeInterface 9 (.string (⟨#[99, 97, 110, 110, 111, 116, 32, 98, 101, 32, 110, 101, 103, 97, 116, 105, 118, 101]⟩ : ByteArray))) w (v7) w1 ∧
    False)
  (slices_Grow_byte_byte_j1 p0 l0 c0 n1 none 0 0 w Q)
def slices_Grow_byte_byte_tt : Nat → List (Nat × TypeId) := fun _ => []
theorem slices_Grow_byte_byte_call (p0 : Option Addr) (l0 : Nat) (c0 : Nat) (n1 : Int) (w : World) (Q : Value → World → Prop) (h : slices_Grow_byte_byte p0 l0 c0 n1 w Q) : callF Tryz.prog 237 #[.slice p0 l0 c0, .int .i64 n1] w Q :=
  callBy slices_Grow_byte_byte_tt Tryz.func237 h (fun _ _ => by kernel_rfl) (by kernel_rfl) (by kernel_rfl) (by kernel_rfl)
def slices_ContainsFunc_byte_byte (p0 : Option Addr) (l0 : Nat) (c0 : Nat) (v1 : Value) (w : World) (Q : Value → World → Prop) : Prop :=
  callF Tryz.prog 271 #[.slice p0 l0 c0, v1] w fun r7 w1 =>
  ∃ n7, r7 = .int .i64 n7 ∧
  Q (.bool (decide (n7 ≥ 0))) w1
def slices_ContainsFunc_byte_byte_tt : Nat → List (Nat × TypeId) := fun _ => []
theorem slices_ContainsFunc_byte_byte_call (p0 : Option Addr) (l0 : Nat) (c0 : Nat) (v1 : Value) (w : World) (Q : Value → World → Prop) (h : slices_ContainsFunc_byte_byte p0 l0 c0 v1 w Q) : callF Tryz.prog 245 #[.slice p0 l0 c0, v1] w Q :=
  callBy slices_ContainsFunc_byte_byte_tt Tryz.func245 h (fun _ _ => by kernel_rfl) (by kernel_rfl) (by kernel_rfl) (by kernel_rfl)
def slices_IndexFunc_byte_byte (p0 : Option Addr) (l0 : Nat) (c0 : Nat) (v1 : Value) (w : World) (Q : Value → World → Prop) : Prop :=
  LoopS [.slice p0 l0 c0, v1, .int .i64 0, .int .i64 ((l0 : Nat) : Int), .int .i64 0] w fun I1 μ1 us1 _ wl1 =>
  ∃ p0_1 l0_1 c0_1 v1_1 n4 n7 n8, us1 = [.slice p0_1 l0_1 c0_1, v1_1, .int .i64 n4, .int .i64 n7, .int .i64 n8] ∧
  cond (decide (n8 < n7))
  (∃ a14, IxA Tryz.prog 45 (.slice p0_1 l0_1 c0_1) (.int .i64 n8) a14 ∧
    ∃ p15 l15 c15, Ld Tryz.prog 25 (.pointer (some a14)) wl1 (.slice p15 l15 c15) ∧
    callV Tryz.prog (v1_1) [.slice p15 l15 c15] wl1 fun r16 w1 =>
    ∃ b16, r16 = .bool b16 ∧
    cond b16
    (Q (.int .i64 n8) w1)
    (goesOn [] [] I1 μ1 us1 [.slice p0_1 l0_1 c0_1, v1_1, .int .i64 n4, .int .i64 n7, .int .i64 (IntKind.i64.wrap (n8 + 1))] wl1 w1))
  (Q (.int .i64 (-1)) wl1)
def slices_IndexFunc_byte_byte_tt : Nat → List (Nat × TypeId) := fun n => match n with | 0 => [(0, 45), (1, 50), (4, 3), (7, 3), (8, 3)] | _ => []
theorem slices_IndexFunc_byte_byte_call (p0 : Option Addr) (l0 : Nat) (c0 : Nat) (v1 : Value) (w : World) (Q : Value → World → Prop) (h : slices_IndexFunc_byte_byte p0 l0 c0 v1 w Q) : callF Tryz.prog 271 #[.slice p0 l0 c0, v1] w Q :=
  callBy slices_IndexFunc_byte_byte_tt Tryz.func271 h (fun _ _ => by kernel_rfl) (by kernel_rfl) (by kernel_rfl) (by kernel_rfl)
end Go.Sh
end

section
namespace Go.Sh
open Go Go.Fw Go.Proofs
set_option maxRecDepth 100000
set_option linter.unusedVariables false
def ref02_Mul_j1 (n4 : Int) (n5 : Int) (w : World) (Q : Value → World → Prop) : Prop :=
  LoopS [.int .u8 n4, .int .i64 n5, .int .i64 14] w fun I2 μ2 us2 _ wl2 =>
  ∃ n4_1 n5_1 n7, us2 = [.int .u8 n4_1, .int .i64 n5_1, .int .i64 n7] ∧
  cond (decide (n7 ≥ 8))
  (∃ n35, Pu Tryz.prog (do eqGuard .shl 3 (.const (.int .i64 1)) (.tmp 34) (.int .i64 1) (.int .u64 (IntKind.u64.wrap n7)); binOp .shl 3 (.int .i64 1) (.int .u64 (IntKind.u64.wrap n7)) : Sem Value) (.int .i64 n35) ∧
    ∃ n36, Pu Tryz.prog (do eqGuard .quo 3 (.tmp 32) (.tmp 35) (.int .i64 n5_1) (.int .i64 n35); binOp .quo 3 (.int .i64 n5_1) (.int .i64 n35) : Sem Value) (.int .i64 n36) ∧
    cond ((Int.tmod n36 2) == 1)
    (∃ n43, Pu Tryz.prog (do eqGuard .shl 3 (.const (.int .i64 1)) (.tmp 42) (.int .i64 1) (.int .u64 (IntKind.u64.wrap (IntKind.i64.wrap (n7 - 8)))); binOp .shl 3 (.int .i64 1) (.int .u64 (IntKind.u64.wrap (IntKind.i64.wrap (n7 - 8)))) : Sem Value) (.int .i64 n43) ∧
      goesOn [] [] I2 μ2 us2 [.int .u8 n4_1, .int .i64 (ixor .i64 n5_1 (IntKind.i64.wrap (283 * n43))), .int .i64 (IntKind.i64.wrap (n7 - 1))] wl2 wl2)
    (goesOn [] [] I2 μ2 us2 [.int .u8 n4_1, .int .i64 n5_1, .int .i64 (IntKind.i64.wrap (n7 - 1))] wl2 wl2))
  (Q (.int .u8 (IntKind.u8.wrap n5_1)) wl2)
def ref02_Mul (n0 : Int) (n1 : Int) (w : World) (Q : Value → World → Prop) : Prop :=
  LoopS [.int .u8 n0, .int .u8 n1, .int .u8 0, .int .i64 0, .int .i64 0] w fun I1 μ1 us1 _ wl1 =>
  ∃ n0_1 n1_1 n4 n5 n6, us1 = [.int .u8 n0_1, .int .u8 n1_1, .int .u8 n4, .int .i64 n5, .int .i64 n6] ∧
  cond (decide (n6 < 8))
  (∃ n16, Pu Tryz.prog (do eqGuard .shl 3 (.const (.int .i64 1)) (.tmp 15) (.int .i64 1) (.int .u64 (IntKind.u64.wrap n6)); binOp .shl 3 (.int .i64 1) (.int .u64 (IntKind.u64.wrap n6)) : Sem Value) (.int .i64 n16) ∧
    ∃ n17, Pu Tryz.prog (do eqGuard .quo 3 (.tmp 13) (.tmp 16) (.int .i64 (IntKind.i64.wrap n1_1)) (.int .i64 n16); binOp .quo 3 (.int .i64 (IntKind.i64.wrap n1_1)) (.int .i64 n16) : Sem Value) (.int .i64 n17) ∧
    cond ((Int.tmod n17 2) == 1)
    (∃ n25, Pu Tryz.prog (do eqGuard .shl 3 (.const (.int .i64 1)) (.tmp 24) (.int .i64 1) (.int .u64 (IntKind.u64.wrap n6)); binOp .shl 3 (.int .i64 1) (.int .u64 (IntKind.u64.wrap n6)) : Sem Value) (.int .i64 n25) ∧
      goesOn [] [] I1 μ1 us1 [.int .u8 n0_1, .int .u8 n1_1, .int .u8 n4, .int .i64 (ixor .i64 n5 (IntKind.i64.wrap ((IntKind.i64.wrap n0_1) * n25))), .int .i64 (IntKind.i64.wrap (n6 + 1))] wl1 wl1)
    (goesOn [] [] I1 μ1 us1 [.int .u8 n0_1, .int .u8 n1_1, .int .u8 n4, .int .i64 n5, .int .i64 (IntKind.i64.wrap (n6 + 1))] wl1 wl1))
  (ref02_Mul_j1 n4 n5 wl1 Q)
def ref02_Mul_tt : Nat → List (Nat × TypeId) := fun n => match n with | 0 => [(0, 5), (1, 5), (4, 5), (5, 3), (6, 3)] | 2 => [(4, 5), (5, 3), (7, 3)] | _ => []
theorem ref02_Mul_call (n0 : Int) (n1 : Int) (w : World) (Q : Value → World → Prop) (h : ref02_Mul n0 n1 w Q) : callF Tryz.prog 287 #[.int .u8 n0, .int .u8 n1] w Q :=
  callBy ref02_Mul_tt Tryz.func287 h (fun _ _ => by kernel_rfl) (by kernel_rfl) (by kernel_rfl) (by kernel_rfl)
def ref02_Sign_j1 (I1 : Inv) (μ1 : Meas) (us1 : List Value) (wl1 : World) (n2 : Int) (n3 : Int) (n4 : Int) (n5 : Int) (n6 : Int) (w : World) (Q : Value → World → Prop) : Prop :=
  ∃ n47, Pu Tryz.prog (do eqGuard .shl 3 (.const (.int .i64 1)) (.tmp 46) (.int .i64 1) (.int .u64 (IntKind.u64.wrap n5)); binOp .shl 3 (.int .i64 1) (.int .u64 (IntKind.u64.wrap n5)) : Sem Value) (.int .i64 n47) ∧
  goesOn [] [] I1 μ1 us1 [.int .u8 n2, .int .i64 n3, .int .i64 (IntKind.i64.wrap (n4 + (IntKind.i64.wrap ((Int.tmod n6 2) * n47)))), .int .i64 (IntKind.i64.wrap (n5 + 1))] wl1 w
def ref02_Sign (n0 : Int) (w : World) (Q : Value → World → Prop) : Prop :=
  LoopS [.int .u8 0, .int .i64 (IntKind.i64.wrap n0), .int .i64 0, .int .i64 0] w fun I1 μ1 us1 _ wl1 =>
  ∃ n2 n3 n4 n5, us1 = [.int .u8 n2, .int .i64 n3, .int .i64 n4, .int .i64 n5] ∧
  cond (decide (n5 < 8))
  (∃ n16, Pu Tryz.prog (do eqGuard .shl 3 (.const (.int .i64 1)) (.tmp 15) (.int .i64 1) (.int .u64 (IntKind.u64.wrap n5)); binOp .shl 3 (.int .i64 1) (.int .u64 (IntKind.u64.wrap n5)) : Sem Value) (.int .i64 n16) ∧
    ∃ n17, Pu Tryz.prog (do eqGuard .quo 3 (.const (.int .i64 99)) (.tmp 16) (.int .i64 99) (.int .i64 n16); binOp .quo 3 (.int .i64 99) (.int .i64 n16) : Sem Value) (.int .i64 n17) ∧
    ∃ n23, Pu Tryz.prog (do eqGuard .shl 3 (.const (.int .i64 1)) (.tmp 22) (.int .i64 1) (.int .u64 (IntKind.u64.wrap n5)); binOp .shl 3 (.int .i64 1) (.int .u64 (IntKind.u64.wrap n5)) : Sem Value) (.int .i64 n23) ∧
    ∃ n24, Pu Tryz.prog (do eqGuard .quo 3 (.tmp 20) (.tmp 23) (.int .i64 n3) (.int .i64 n23); binOp .quo 3 (.int .i64 n3) (.int .i64 n23) : Sem Value) (.int .i64 n24) ∧
    LoopS [.int .u8 n2, .int .i64 n3, .int .i64 n4, .int .i64 n5, .int .i64 (IntKind.i64.wrap ((Int.tmod n17 2) + (Int.tmod n24 2))), .int .i64 4] wl1 fun I2 μ2 us2 _ wl2 =>
    ∃ n2_1 n3_1 n4_1 n5_1 n6 n7, us2 = [.int .u8 n2_1, .int .i64 n3_1, .int .i64 n4_1, .int .i64 n5_1, .int .i64 n6, .int .i64 n7] ∧
    cond (decide (n7 < 8))
    (∃ n38, Pu Tryz.prog (do eqGuard .shl 3 (.const (.int .i64 1)) (.tmp 37) (.int .i64 1) (.int .u64 (IntKind.u64.wrap (Int.tmod (IntKind.i64.wrap (n5_1 + n7)) 8))); binOp .shl 3 (.int .i64 1) (.int .u64 (IntKind.u64.wrap (Int.tmod (IntKind.i64.wrap (n5_1 + n7)) 8))) : Sem Value) (.int .i64 n38) ∧
      ∃ n39, Pu Tryz.prog (do eqGuard .quo 3 (.tmp 32) (.tmp 38) (.int .i64 n3_1) (.int .i64 n38); binOp .quo 3 (.int .i64 n3_1) (.int .i64 n38) : Sem Value) (.int .i64 n39) ∧
      goesOn [] [] I2 μ2 us2 [.int .u8 n2_1, .int .i64 n3_1, .int .i64 n4_1, .int .i64 n5_1, .int .i64 (IntKind.i64.wrap (n6 + (Int.tmod n39 2))), .int .i64 (IntKind.i64.wrap (n7 + 1))] wl2 wl2)
    (ref02_Sign_j1 I1 μ1 us1 wl1 n2_1 n3_1 n4_1 n5_1 n6 wl2 Q))
  (Q (.int .u8 (IntKind.u8.wrap n4)) wl1)
def ref02_Sign_tt : Nat → List (Nat × TypeId) := fun n => match n with | 0 => [(2, 5), (3, 3), (4, 3), (5, 3)] | 2 => [(2, 5), (3, 3), (4, 3), (5, 3), (6, 3), (7, 3)] | _ => []
theorem ref02_Sign_call (n0 : Int) (w : World) (Q : Value → World → Prop) (h : ref02_Sign n0 w Q) : callF Tryz.prog 288 #[.int .u8 n0] w Q :=
  callBy ref02_Sign_tt Tryz.func288 h (fun _ _ => by kernel_rfl) (by kernel_rfl) (by kernel_rfl) (by kernel_rfl)
def ref02_Pow (n0 : Int) (n1 : Int) (w : World) (Q : Value → World → Prop) : Prop :=
  cond (n1 == 0)
  (Q (.int .u8 1) w)
  (cond (n0 == 0)
    (Q (.int .u8 0) w)
    (LoopS [.int .u8 n0, .int .u64 n1, .int .u8 0, .int .u8 1, .int .u64 0] w fun I1 μ1 us1 _ wl1 =>
      ∃ n0_1 n1_1 n4 n5 n6, us1 = [.int .u8 n0_1, .int .u64 n1_1, .int .u8 n4, .int .u8 n5, .int .u64 n6] ∧
      cond (decide (n6 < (Int.tmod n1_1 255)))
      (callF Tryz.prog 287 #[.int .u8 n5, .int .u8 n0_1] wl1 fun r19 w1 =>
        ∃ n19, r19 = .int .u8 n19 ∧
        goesOn [] [] I1 μ1 us1 [.int .u8 n0_1, .int .u64 n1_1, .int .u8 n4, .int .u8 n19, .int .u64 (IntKind.u64.wrap (n6 + 1))] wl1 w1)
      (Q (.int .u8 n5) wl1)))
def ref02_Pow_tt : Nat → List (Nat × TypeId) := fun n => match n with | 0 => [(0, 5), (1, 88), (4, 5), (5, 5), (6, 88)] | _ => []
theorem ref02_Pow_call (n0 : Int) (n1 : Int) (w : World) (Q : Value → World → Prop) (h : ref02_Pow n0 n1 w Q) : callF Tryz.prog 305 #[.int .u8 n0, .int .u64 n1] w Q :=
  callBy ref02_Pow_tt Tryz.func305 h (fun _ _ => by kernel_rfl) (by kernel_rfl) (by kernel_rfl) (by kernel_rfl)
end Go.Sh
end

section
namespace Go.Sh
open Go Go.Fw Go.Proofs
set_option maxRecDepth 100000
set_option linter.unusedVariables false
def ref00_CopyBytes (p0 : Option Addr) (l0 : Nat) (c0 : Nat) (w : World) (Q : Value → World → Prop) : Prop :=
  ∃ p3 l3 c3 w1, Ef Tryz.prog (Instr.buildSlice 25 0 #[]) w (.slice p3 l3 c3) w1 ∧
  ∃ p5 l5 c5 w2, Ef Tryz.prog (Builtin.append_ #[25, 25] 25 #[.slice p3 l3 c3, .slice p0 l0 c0]) w1 (.slice p5 l5 c5) w2 ∧
  Q (.slice p5 l5 c5) w2
def ref00_CopyBytes_tt : Nat → List (Nat × TypeId) := fun _ => []
theorem ref00_CopyBytes_call (p0 : Option Addr) (l0 : Nat) (c0 : Nat) (w : World) (Q : Value → World → Prop) (h : ref00_CopyBytes p0 l0 c0 w Q) : callF Tryz.prog 25 #[.slice p0 l0 c0] w Q :=
  callBy ref00_CopyBytes_tt Tryz.func25 h (fun _ _ => by kernel_rfl) (by kernel_rfl) (by kernel_rfl) (by kernel_rfl)
def ref00_SameBytes (p0 : Option Addr) (l0 : Nat) (c0 : Nat) (p1 : Option Addr) (l1 : Nat) (c1 : Nat) (w : World) (Q : Value → World → Prop) : Prop :=
  cond (((l0 : Nat) : Int) != ((l1 : Nat) : Int))
  (Q (.bool false) w)
  (LoopS [.slice p0 l0 c0, .slice p1 l1 c1, .bool false, .int .i64 0] w fun I1 μ1 us1 _ wl1 =>
    ∃ p0_1 l0_1 c0_1 p1_1 l1_1 c1_1 b4 n5, us1 = [.slice p0_1 l0_1 c0_1, .slice p1_1 l1_1 c1_1, .bool b4, .int .i64 n5] ∧
    cond (decide (n5 < ((l0_1 : Nat) : Int)))
    (∃ (S6 : World → Prop),
      Drw wl1 fun w1 =>
      ∃ a19, IxA Tryz.prog 25 (.slice p0_1 l0_1 c0_1) (.int .i64 n5) a19 ∧
      ∃ a23, IxA Tryz.prog 25 (.slice p1_1 l1_1 c1_1) (.int .i64 n5) a23 ∧
      ∃ n20, HLd Tryz.prog S6 5 (.pointer (some a19)) w1 (.int .u8 n20) ∧
      ∃ n24, Ld Tryz.prog 5 (.pointer (some a23)) w1 (.int .u8 n24) ∧
      (w1 = w1 ∨ S6 w1) ∧
      cond (n20 != n24)
      (Q (.bool false) w1)
      (goesOn [] [] I1 μ1 us1 [.slice p0_1 l0_1 c0_1, .slice p1_1 l1_1 c1_1, .bool b4, .int .i64 (IntKind.i64.wrap (n5 + 1))] wl1 w1))
    (Q (.bool true) wl1))
def ref00_SameBytes_tt : Nat → List (Nat × TypeId) := fun n => match n with | 0 => [(0, 25), (1, 25), (4, 4), (5, 3)] | _ => []
theorem ref00_SameBytes_call (p0 : Option Addr) (l0 : Nat) (c0 : Nat) (p1 : Option Addr) (l1 : Nat) (c1 : Nat) (w : World) (Q : Value → World → Prop) (h : ref00_SameBytes p0 l0 c0 p1 l1 c1 w Q) : callF Tryz.prog 33 #[.slice p0 l0 c0, .slice p1 l1 c1] w Q :=
  callBy ref00_SameBytes_tt Tryz.func33 h (fun _ _ => by kernel_rfl) (by kernel_rfl) (by kernel_rfl) (by kernel_rfl)
end Go.Sh
end
