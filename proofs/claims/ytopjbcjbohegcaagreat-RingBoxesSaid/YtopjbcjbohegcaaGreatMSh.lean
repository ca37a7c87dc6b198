/- A part of a proof of a given law of this program: lemmas, printed forms of its functions, contracts. It has no conditions of its own. -/
import Derived.Test.YtopjbcjbohegcaaGreatProg
import Derived.Test.YtopjbcjbohegcaaGreatMFw

section
namespace Go.Sh
open Go
abbrev F_law19_RingBoxes : FuncId := 9
abbrev F_gcm_New : FuncId := 12
abbrev F_ref00_CopyBytes : FuncId := 13
abbrev F_gcm_Box_Seal : FuncId := 14
abbrev F_ref07_Seal : FuncId := 15
abbrev F_gcm_Box_Tag : FuncId := 16
abbrev F_ref07_Tag : FuncId := 17
abbrev F_ref00_SameBytes : FuncId := 18
abbrev F_ref07_Open : FuncId := 20
abbrev F_gcm_Box_Open : FuncId := 21
abbrev F_law19_alive : FuncId := 35
abbrev F_law19_Great : FuncId := 36
abbrev F_ring_New : FuncId := 37
abbrev F_law19_Do : FuncId := 38
abbrev F_ring_Ring_Box : FuncId := 39
abbrev F_ring_Ring_Key : FuncId := 40
abbrev F_aes_New : FuncId := 41
abbrev F_aes_Cipher_Encrypt : FuncId := 42
abbrev F_ghash_New : FuncId := 43
abbrev F_slices_Clone_byte_byte : FuncId := 44
abbrev F_gcm_check : FuncId := 45
abbrev F_gcm_Box_turn : FuncId := 46
abbrev F_octet_Join : FuncId := 47
abbrev F_ref07_wrong : FuncId := 48
abbrev F_ref06_Turn : FuncId := 49
abbrev F_ref06_After : FuncId := 50
abbrev F_ref07_first : FuncId := 51
abbrev F_gcm_first : FuncId := 52
abbrev F_octet_Xor : FuncId := 53
abbrev F_ghash_Hash_Sum : FuncId := 54
abbrev F_ref03_Encrypt : FuncId := 55
abbrev F_ref05_Sum : FuncId := 56
abbrev F_octet_Equal : FuncId := 58
abbrev F_sync_atomic_Int64_Add : FuncId := 59
abbrev F_ring_Ring_Install : FuncId := 77
abbrev F_ring_Ring_Newest : FuncId := 78
abbrev F_ring_Ring_Clone : FuncId := 79
abbrev F_ring_Ring_Retire : FuncId := 80
abbrev F_ref00_SameInts : FuncId := 81
abbrev F_ring_Ring_Seqs : FuncId := 82
abbrev F_ref19_Ring_Install : FuncId := 83
abbrev F_ref19_Ring_Retire : FuncId := 84
abbrev F_ring_Ring_of : FuncId := 85
abbrev F_field_New : FuncId := 86
abbrev F_aes_Cipher_turned : FuncId := 87
abbrev F_aes_word_plus : FuncId := 88
abbrev F_aes_block_add : FuncId := 89
abbrev F_aes_block_each : FuncId := 90
abbrev F_field_Tables_Sub : FuncId := 91
abbrev F_aes_block_rows : FuncId := 92
abbrev F_aes_block_columns : FuncId := 93
abbrev F_aes_Cipher_times : FuncId := 94
abbrev F_poly_Of : FuncId := 95
abbrev F_gcm_check_c1 : FuncId := 96
abbrev F_count_Next : FuncId := 98
abbrev F_count_Turn : FuncId := 99
abbrev F_slices_Concat_byte_byte : FuncId := 100
abbrev F_ref06_Stream : FuncId := 101
abbrev F_octet_Put : FuncId := 102
abbrev F_slices_Concat_poly_Elem_poly_Elem : FuncId := 103
abbrev F_ghash_Blocks : FuncId := 104
abbrev F_ghash_lengths : FuncId := 105
abbrev F_ghash_Hash_Fold : FuncId := 106
abbrev F_poly_Elem_Bytes : FuncId := 107
abbrev F_ref03_With : FuncId := 108
abbrev F_ref03_Table : FuncId := 109
abbrev F_ref05_Blocks : FuncId := 110
abbrev F_ref05_long : FuncId := 111
abbrev F_ref04_Bytes : FuncId := 112
abbrev F_ref05_Fold : FuncId := 113
abbrev F_ref04_Of : FuncId := 114
abbrev F_sync_atomic_AddInt64 : FuncId := 116
abbrev F_ring_Ring_find : FuncId := 127
abbrev F_slices_Delete_ring_entry_ring_entry : FuncId := 129
abbrev F_ref19_Ring_Find : FuncId := 130
abbrev F_field_Pow : FuncId := 131
abbrev F_field_Tables_ready : FuncId := 132
abbrev F_field_Tables_Times : FuncId := 133
abbrev F_octet_Num : FuncId := 134
abbrev F_count_After : FuncId := 136
abbrev F_count_Stream : FuncId := 137
abbrev F_slices_Grow_byte_byte : FuncId := 138
abbrev F_slices_Grow_poly_Elem_poly_Elem : FuncId := 139
abbrev F_ghash_Hash_Times : FuncId := 141
abbrev F_poly_Sum : FuncId := 142
abbrev F_ref03_Keys : FuncId := 143
abbrev F_ref03_add : FuncId := 144
abbrev F_ref03_rows : FuncId := 145
abbrev F_ref03_subs : FuncId := 146
abbrev F_ref03_columns : FuncId := 147
abbrev F_ref02_Mul : FuncId := 148
abbrev F_ref02_Sign : FuncId := 149
abbrev F_ref04_Mul : FuncId := 150
abbrev F_ref04_Add : FuncId := 151
abbrev F_ring_Ring_find_c1 : FuncId := 157
abbrev F_field_Mul : FuncId := 158
abbrev F_sync_Once_Do : FuncId := 159
abbrev F_field_Tables_make : FuncId := 160
abbrev F_slices_Chunk_byte_byte_c1 : FuncId := 161
abbrev F_ghash_Hash_make : FuncId := 162
abbrev F_poly_Elem_plus : FuncId := 163
abbrev F_ref02_Pow : FuncId := 164
abbrev F_ref03_at : FuncId := 165
abbrev F_field_double : FuncId := 172
abbrev F_sync_atomic_Bool_Load : FuncId := 173
abbrev F_field_sign : FuncId := 175
abbrev F_ghash_row_fill : FuncId := 176
abbrev F_sync_atomic_LoadUint32 : FuncId := 186
abbrev F_sync_Mutex_Lock : FuncId := 187
abbrev F_field_Inv : FuncId := 190
abbrev F_field_Sum : FuncId := 191
abbrev F_field_turned : FuncId := 192
abbrev F_poly_Elem_Next : FuncId := 193
abbrev F_internal_sync_Mutex_Lock : FuncId := 200
abbrev F_internal_sync_Mutex_Unlock : FuncId := 201
abbrev F_sync_atomic_StoreUint32 : FuncId := 202
abbrev F_internal_race_Disable : FuncId := 207
abbrev F_sync_atomic_CompareAndSwapInt32 : FuncId := 208
abbrev F_internal_race_Enable : FuncId := 209
abbrev F_internal_race_Acquire : FuncId := 210
abbrev F_internal_race_ReleaseMerge : FuncId := 212
abbrev F_sync_atomic_AddInt32 : FuncId := 213
abbrev T_int : TypeId := 3
abbrev T_bool : TypeId := 4
abbrev T_uint8 : TypeId := 5
abbrev T_S_uint8 : TypeId := 22
abbrev T_P_gcm_Box : TypeId := 25
abbrev T_A16_uint8 : TypeId := 42
abbrev T_S_law19_Call : TypeId := 69
abbrev T_S_ref19_Row : TypeId := 74
abbrev T_law19_Call : TypeId := 79
abbrev T_S_S_uint8 : TypeId := 85
abbrev T_uint64 : TypeId := 104
abbrev T_S_int : TypeId := 132
abbrev T_S_ring_entry : TypeId := 134
abbrev T_ring_Ring : TypeId := 136
abbrev T_ring_entry : TypeId := 138
abbrev T_aes_block : TypeId := 143
abbrev T_A11_aes_block : TypeId := 144
abbrev T_aes_word : TypeId := 148
abbrev T_poly_Elem : TypeId := 160
abbrev T_ghash_row : TypeId := 174
abbrev T_A32_ghash_row : TypeId := 175
abbrev T_S_poly_Elem : TypeId := 182
abbrev T_S_ref04_Poly : TypeId := 188
abbrev T_ref04_Poly : TypeId := 193
abbrev T_ref19_Row : TypeId := 213
abbrev T_S_field_table : TypeId := 216
abbrev T_S_S_poly_Elem : TypeId := 230
abbrev T_A255_bool : TypeId := 247
end Go.Sh
end

section
namespace Go.Sh
open Go Go.Fw Go.Proofs
set_option maxRecDepth 100000
theorem sync_atomic_AddInt64_c {b n o : Nat} {g : Nat → Value} {x y : Int} {w : World} (hB : Blk w b n g) (ho : o < n) (hv : g o = .int .i64 x) {K : Value → World → Prop} (h : ∀ w', Fr [b] w w' → Blk w' b n (upd g o (.int .i64 (IntKind.i64.wrap (x + y)))) → w'.heap.size = w.heap.size → K (.int .i64 (IntKind.i64.wrap (x + y))) w') : callF Tryz.prog F_sync_atomic_AddInt64 #[.pointer (some ⟨b, o, none⟩), .int .i64 y] w K := add_c Tryz.func116 (by kernel_rfl) (by kernel_rfl) (by kernel_rfl) .i64 (by kernel_rfl) hB ho hv h
theorem sync_atomic_LoadUint32_c {b n o : Nat} {g : Nat → Value} {x : Int} {w : World} (hB : Blk w b n g) (ho : o < n) (hv : g o = .int .u32 x) {K : Value → World → Prop} (h : K (.int .u32 x) w) : callF Tryz.prog F_sync_atomic_LoadUint32 #[.pointer (some ⟨b, o, none⟩)] w K := load_c Tryz.func186 (by kernel_rfl) (by kernel_rfl) (by kernel_rfl) .u32 (by kernel_rfl) hB ho hv h
theorem sync_atomic_StoreUint32_c {b n o : Nat} {g : Nat → Value} {y : Int} {w : World} (hB : Blk w b n g) (ho : o < n) {K : Value → World → Prop} (h : ∀ w', Fr [b] w w' → Blk w' b n (upd g o (.int .u32 y)) → w'.heap.size = w.heap.size → K (.tuple #[]) w') : callF Tryz.prog F_sync_atomic_StoreUint32 #[.pointer (some ⟨b, o, none⟩), .int .u32 y] w K := storeA_c Tryz.func202 (by kernel_rfl) (by kernel_rfl) (by kernel_rfl) (by kernel_rfl) hB ho h
theorem internal_race_Disable_c {w : World} {K : Value → World → Prop} (h : K (.tuple #[]) w) : callF Tryz.prog F_internal_race_Disable #[] w K := mark0_c Tryz.func207 (by kernel_rfl) (by kernel_rfl) (by kernel_rfl) .disable (by kernel_rfl) h
theorem sync_atomic_CompareAndSwapInt32_c {b n o : Nat} {g : Nat → Value} {x y : Int} {w : World} (hB : Blk w b n g) (ho : o < n) (hv : g o = .int .i32 x) {K : Value → World → Prop} (h : ∀ w', Fr [b] w w' → Blk w' b n (upd g o (.int .i32 y)) → w'.heap.size = w.heap.size → K (.bool true) w') : callF Tryz.prog F_sync_atomic_CompareAndSwapInt32 #[.pointer (some ⟨b, o, none⟩), .int .i32 x, .int .i32 y] w K := cas_c Tryz.func208 (by kernel_rfl) (by kernel_rfl) (by kernel_rfl) .i32 (by kernel_rfl) hB ho hv h
theorem internal_race_Enable_c {w : World} {K : Value → World → Prop} (h : K (.tuple #[]) w) : callF Tryz.prog F_internal_race_Enable #[] w K := mark0_c Tryz.func209 (by kernel_rfl) (by kernel_rfl) (by kernel_rfl) .enable (by kernel_rfl) h
theorem internal_race_Acquire_c {a : Addr} {w : World} {K : Value → World → Prop} (h : K (.tuple #[]) w) : callF Tryz.prog F_internal_race_Acquire #[.pointer (some a)] w K := marked_c Tryz.func210 (by kernel_rfl) (by kernel_rfl) (by kernel_rfl) .acquire (by kernel_rfl) h
theorem internal_race_ReleaseMerge_c {a : Addr} {w : World} {K : Value → World → Prop} (h : K (.tuple #[]) w) : callF Tryz.prog F_internal_race_ReleaseMerge #[.pointer (some a)] w K := marked_c Tryz.func212 (by kernel_rfl) (by kernel_rfl) (by kernel_rfl) .releaseMerge (by kernel_rfl) h
theorem sync_atomic_AddInt32_c {b n o : Nat} {g : Nat → Value} {x y : Int} {w : World} (hB : Blk w b n g) (ho : o < n) (hv : g o = .int .i32 x) {K : Value → World → Prop} (h : ∀ w', Fr [b] w w' → Blk w' b n (upd g o (.int .i32 (IntKind.i32.wrap (x + y)))) → w'.heap.size = w.heap.size → K (.int .i32 (IntKind.i32.wrap (x + y))) w') : callF Tryz.prog F_sync_atomic_AddInt32 #[.pointer (some ⟨b, o, none⟩), .int .i32 y] w K := add_c Tryz.func213 (by kernel_rfl) (by kernel_rfl) (by kernel_rfl) .i32 (by kernel_rfl) hB ho hv h
end Go.Sh
end

section
namespace Go.Sh
open Go Go.Fw Go.Proofs
set_option maxRecDepth 100000
set_option linter.unusedVariables false

def sync_atomic_Int64_Add (p0 : Option Addr) (n1 : Int) (w : World) (Q : Value → World → Prop) : Prop :=
  ∃ (a6 : Addr), p0 = some a6 ∧
  callF Tryz.prog 116 #[.pointer (some (a6.add 0)), .int .i64 n1] w fun r9 w1 =>
  ∃ (n9 : Int), r9 = .int .i64 n9 ∧
  Q (.int .i64 n9) w1
def sync_atomic_Int64_Add_tt : Nat → List (Nat × TypeId) := fun _ => []
theorem sync_atomic_Int64_Add_call (p0 : Option Addr) (n1 : Int) (w : World) (Q : Value → World → Prop) (h : sync_atomic_Int64_Add p0 n1 w Q) : callF Tryz.prog 59 #[.pointer p0, .int .i64 n1] w Q :=
  callF_of (fun _ _ => by kernel_rfl) (callK_of_sw sync_atomic_Int64_Add_tt Tryz.func59 rfl (by kernel_rfl) (show sw Tryz.prog none 10 sync_atomic_Int64_Add_tt _ 0 (endK Tryz.prog [.tmp 4] Q) ⟨regs [.pointer p0, .int .i64 n1], []⟩ w from
    Eq.mp (by kernel_rfl : sync_atomic_Int64_Add p0 n1 w Q = sw Tryz.prog none 10 sync_atomic_Int64_Add_tt (Tryz.f59.body.getD .skip) 0 (endK Tryz.prog [.tmp 4] Q) ⟨regs [.pointer p0, .int .i64 n1], []⟩ w) h))

def sync_atomic_Bool_Load (p0 : Option Addr) (w : World) (Q : Value → World → Prop) : Prop :=
  ∃ (a4 : Addr), p0 = some a4 ∧
  callF Tryz.prog 186 #[.pointer (some (a4.add 0))] w fun r6 w1 =>
  ∃ (n6 : Int), r6 = .int .u32 n6 ∧
  Q (.bool (n6 != 0)) w1
def sync_atomic_Bool_Load_tt : Nat → List (Nat × TypeId) := fun _ => []
theorem sync_atomic_Bool_Load_call (p0 : Option Addr) (w : World) (Q : Value → World → Prop) (h : sync_atomic_Bool_Load p0 w Q) : callF Tryz.prog 173 #[.pointer p0] w Q :=
  callF_of (fun _ _ => by kernel_rfl) (callK_of_sw sync_atomic_Bool_Load_tt Tryz.func173 rfl (by kernel_rfl) (show sw Tryz.prog none 8 sync_atomic_Bool_Load_tt _ 0 (endK Tryz.prog [.tmp 2] Q) ⟨regs [.pointer p0], []⟩ w from
    Eq.mp (by kernel_rfl : sync_atomic_Bool_Load p0 w Q = sw Tryz.prog none 8 sync_atomic_Bool_Load_tt (Tryz.f173.body.getD .skip) 0 (endK Tryz.prog [.tmp 2] Q) ⟨regs [.pointer p0], []⟩ w) h))

def sync_atomic_Bool_Store (p0 : Option Addr) (b1 : Bool) (w : World) (Q : Value → World → Prop) : Prop :=
  Drw w fun w1 =>
  ∃ (a5 : Addr), p0 = some a5 ∧
  callF Tryz.prog 203 #[.bool b1] w1 fun r8 w2 =>
  ∃ (n8 : Int), r8 = .int .u32 n8 ∧
  callF Tryz.prog 202 #[.pointer (some (a5.add 0)), .int .u32 n8] w2 fun r9 w3 =>
  r9 = .tuple #[] ∧
  Q (.tuple #[]) w3
def sync_atomic_Bool_Store_tt : Nat → List (Nat × TypeId) := fun _ => []
theorem sync_atomic_Bool_Store_calld (p0 : Option Addr) (b1 : Bool) (w : World) (K : World → Prop) (h : sync_atomic_Bool_Store p0 b1 w (fun _ w => K w)) : callDF Tryz.prog 189 #[.pointer p0, .bool b1] w K :=
  ⟨fun _ _ => by kernel_rfl, callD_of_sw sync_atomic_Bool_Store_tt Tryz.func189 rfl (by kernel_rfl) (show sw Tryz.prog none 10 sync_atomic_Bool_Store_tt _ 0 (endD Tryz.prog [] K) ⟨regs [.pointer p0, .bool b1], []⟩ w from
    Eq.mp (by kernel_rfl : sync_atomic_Bool_Store p0 b1 w (fun _ w => K w) = sw Tryz.prog none 10 sync_atomic_Bool_Store_tt (Tryz.f189.body.getD .skip) 0 (endD Tryz.prog [] K) ⟨regs [.pointer p0, .bool b1], []⟩ w) h)⟩

def sync_atomic_b32 (b0 : Bool) (w : World) (Q : Value → World → Prop) : Prop :=
  cond b0
  (Q (.int .u32 1) w)
  (Q (.int .u32 0) w)
def sync_atomic_b32_tt : Nat → List (Nat × TypeId) := fun _ => []
theorem sync_atomic_b32_call (b0 : Bool) (w : World) (Q : Value → World → Prop) (h : sync_atomic_b32 b0 w Q) : callF Tryz.prog 203 #[.bool b0] w Q :=
  callF_of (fun _ _ => by kernel_rfl) (callK_of_sw sync_atomic_b32_tt Tryz.func203 rfl (by kernel_rfl) (show sw Tryz.prog none 4 sync_atomic_b32_tt _ 0 (endK Tryz.prog [.tmp 2] Q) ⟨regs [.bool b0], []⟩ w from
    Eq.mp (by kernel_rfl : sync_atomic_b32 b0 w Q = sw Tryz.prog none 4 sync_atomic_b32_tt (Tryz.f203.body.getD .skip) 0 (endK Tryz.prog [.tmp 2] Q) ⟨regs [.bool b0], []⟩ w) h))
end Go.Sh
end

section
namespace Go.Sh
open Go Go.Fw Go.Proofs
set_option maxRecDepth 100000
set_option linter.unusedVariables false

def internal_sync_Mutex_Lock (p0 : Option Addr) (w : World) (Q : Value → World → Prop) : Prop :=
  callF Tryz.prog 207 #[] w fun r2 w1 =>
  r2 = .tuple #[] ∧
  ∃ (a4 : Addr), p0 = some a4 ∧
  callF Tryz.prog 208 #[.pointer (some (a4.add 0)), .int .i32 0, .int .i32 1] w1 fun r6 w2 =>
  ∃ (b6 : Bool), r6 = .bool b6 ∧
  cond b6
  (callF Tryz.prog 209 #[] w2 fun r7 w3 =>
    r7 = .tuple #[] ∧
    ∃ (v9 : Value) (w4 : World), Ef Tryz.prog (convert 278 282 (.pointer p0)) w3 (v9) w4 ∧
    callF Tryz.prog 210 #[v9] w4 fun r10 w5 =>
    r10 = .tuple #[] ∧
    Q (.tuple #[]) w5)
  (callF Tryz.prog 211 #[.pointer p0] w2 fun r12 w6 =>
    r12 = .tuple #[] ∧
    Q (.tuple #[]) w6)
def internal_sync_Mutex_Lock_tt : Nat → List (Nat × TypeId) := fun _ => []
theorem internal_sync_Mutex_Lock_call (p0 : Option Addr) (w : World) (Q : Value → World → Prop) (h : internal_sync_Mutex_Lock p0 w Q) : callF Tryz.prog 200 #[.pointer p0] w Q :=
  callF_of (fun _ _ => by kernel_rfl) (callK_of_sw internal_sync_Mutex_Lock_tt Tryz.func200 rfl (by kernel_rfl) (show sw Tryz.prog none 13 internal_sync_Mutex_Lock_tt _ 0 (endK Tryz.prog [] Q) ⟨regs [.pointer p0], []⟩ w from
    Eq.mp (by kernel_rfl : internal_sync_Mutex_Lock p0 w Q = sw Tryz.prog none 13 internal_sync_Mutex_Lock_tt (Tryz.f200.body.getD .skip) 0 (endK Tryz.prog [] Q) ⟨regs [.pointer p0], []⟩ w) h))

def internal_sync_Mutex_Unlock_j1 (p0 : Option Addr) (w : World) (Q : Value → World → Prop) : Prop :=
  ∃ (a12 : Addr), p0 = some a12 ∧
  callF Tryz.prog 213 #[.pointer (some (a12.add 0)), .int .i32 (-1)] w fun r14 w1 =>
  ∃ (n14 : Int), r14 = .int .i32 n14 ∧
  cond (n14 != 0)
  (callF Tryz.prog 214 #[.pointer p0, .int .i32 n14] w1 fun r19 w2 =>
    r19 = .tuple #[] ∧
    callF Tryz.prog 209 #[] w2 fun r20 w3 =>
    r20 = .tuple #[] ∧
    Q (.tuple #[]) w3)
  (callF Tryz.prog 209 #[] w1 fun r20_1 w4 =>
    r20_1 = .tuple #[] ∧
    Q (.tuple #[]) w4)
def internal_sync_Mutex_Unlock (p0 : Option Addr) (w : World) (Q : Value → World → Prop) : Prop :=
  ∃ (a4 : Addr), p0 = some a4 ∧
  ∃ (n6 : Int), Ld Tryz.prog 21 (.pointer (some (a4.add 0))) w (.int .i32 n6) ∧
  ∃ (v8 : Value) (w1 : World), Ef Tryz.prog (convert 278 282 (.pointer p0)) w (v8) w1 ∧
  callF Tryz.prog 212 #[v8] w1 fun r9 w2 =>
  r9 = .tuple #[] ∧
  callF Tryz.prog 207 #[] w2 fun r10 w3 =>
  r10 = .tuple #[] ∧
  internal_sync_Mutex_Unlock_j1 p0 w3 Q
def internal_sync_Mutex_Unlock_tt : Nat → List (Nat × TypeId) := fun _ => []
theorem internal_sync_Mutex_Unlock_call (p0 : Option Addr) (w : World) (Q : Value → World → Prop) (h : internal_sync_Mutex_Unlock p0 w Q) : callF Tryz.prog 201 #[.pointer p0] w Q :=
  callF_of (fun _ _ => by kernel_rfl) (callK_of_sw internal_sync_Mutex_Unlock_tt Tryz.func201 rfl (by kernel_rfl) (show sw Tryz.prog none 21 internal_sync_Mutex_Unlock_tt _ 0 (endK Tryz.prog [] Q) ⟨regs [.pointer p0], []⟩ w from
    Eq.mp (by kernel_rfl : internal_sync_Mutex_Unlock p0 w Q = sw Tryz.prog none 21 internal_sync_Mutex_Unlock_tt (Tryz.f201.body.getD .skip) 0 (endK Tryz.prog [] Q) ⟨regs [.pointer p0], []⟩ w) h))
end Go.Sh
end

section
namespace Go.Sh
open Go Go.Fw Go.Proofs
set_option maxRecDepth 100000
set_option linter.unusedVariables false

def sync_Once_Do (p0 : Option Addr) (v1 : Value) (w : World) (Q : Value → World → Prop) : Prop :=
  ∃ (a5 : Addr), p0 = some a5 ∧
  callF Tryz.prog 173 #[.pointer (some (a5.add 0))] w fun r7 w1 =>
  ∃ (b7 : Bool), r7 = .bool b7 ∧
  cond (!b7)
  (callF Tryz.prog 174 #[.pointer p0, v1] w1 fun r11 w2 =>
    r11 = .tuple #[] ∧
    Q (.tuple #[]) w2)
  (Q (.tuple #[]) w1)
def sync_Once_Do_tt : Nat → List (Nat × TypeId) := fun _ => []
theorem sync_Once_Do_call (p0 : Option Addr) (v1 : Value) (w : World) (Q : Value → World → Prop) (h : sync_Once_Do p0 v1 w Q) : callF Tryz.prog 159 #[.pointer p0, v1] w Q :=
  callF_of (fun _ _ => by kernel_rfl) (callK_of_sw sync_Once_Do_tt Tryz.func159 rfl (by kernel_rfl) (show sw Tryz.prog none 12 sync_Once_Do_tt _ 0 (endK Tryz.prog [] Q) ⟨regs [.pointer p0, v1], []⟩ w from
    Eq.mp (by kernel_rfl : sync_Once_Do p0 v1 w Q = sw Tryz.prog none 12 sync_Once_Do_tt (Tryz.f159.body.getD .skip) 0 (endK Tryz.prog [] Q) ⟨regs [.pointer p0, v1], []⟩ w) h))

def sync_Once_doSlow (p0 : Option Addr) (v1 : Value) (w : World) (Q : Value → World → Prop) : Prop :=
  ∃ (a5 : Addr), p0 = some a5 ∧
  callF Tryz.prog 187 #[.pointer (some (a5.add 1))] w fun r7 w1 =>
  r7 = .tuple #[] ∧
  ∃ (a9 : Addr), p0 = some a9 ∧
  ∃ (a12 : Addr), p0 = some a12 ∧
  callF Tryz.prog 173 #[.pointer (some (a12.add 0))] w1 fun r14 w2 =>
  ∃ (b14 : Bool), r14 = .bool b14 ∧
  cond (!b14)
  (∃ (a17 : Addr), p0 = some a17 ∧
    callV Tryz.prog (v1) [] w2 fun r20 w3 =>
    r20 = .tuple #[] ∧
    callDF Tryz.prog 189 #[.pointer (some (a17.add 0)), .bool true] w3 fun w4 =>
    callDF Tryz.prog 188 #[.pointer (some (a9.add 1))] w4 fun w5 =>
    Q (.tuple #[]) w5)
  (callDF Tryz.prog 188 #[.pointer (some (a9.add 1))] w2 fun w6 =>
    Q (.tuple #[]) w6)
def sync_Once_doSlow_tt : Nat → List (Nat × TypeId) := fun _ => []
theorem sync_Once_doSlow_call (p0 : Option Addr) (v1 : Value) (w : World) (Q : Value → World → Prop) (h : sync_Once_doSlow p0 v1 w Q) : callF Tryz.prog 174 #[.pointer p0, v1] w Q :=
  callF_of (fun _ _ => by kernel_rfl) (callK_of_sw sync_Once_doSlow_tt Tryz.func174 rfl (by kernel_rfl) (show sw Tryz.prog none 21 sync_Once_doSlow_tt _ 0 (endK Tryz.prog [] Q) ⟨regs [.pointer p0, v1], []⟩ w from
    Eq.mp (by kernel_rfl : sync_Once_doSlow p0 v1 w Q = sw Tryz.prog none 21 sync_Once_doSlow_tt (Tryz.f174.body.getD .skip) 0 (endK Tryz.prog [] Q) ⟨regs [.pointer p0, v1], []⟩ w) h))

def sync_Mutex_Lock (p0 : Option Addr) (w : World) (Q : Value → World → Prop) : Prop :=
  ∃ (a3 : Addr), p0 = some a3 ∧
  callF Tryz.prog 200 #[.pointer (some (a3.add 0))] w fun r5 w1 =>
  r5 = .tuple #[] ∧
  Q (.tuple #[]) w1
def sync_Mutex_Lock_tt : Nat → List (Nat × TypeId) := fun _ => []
theorem sync_Mutex_Lock_call (p0 : Option Addr) (w : World) (Q : Value → World → Prop) (h : sync_Mutex_Lock p0 w Q) : callF Tryz.prog 187 #[.pointer p0] w Q :=
  callF_of (fun _ _ => by kernel_rfl) (callK_of_sw sync_Mutex_Lock_tt Tryz.func187 rfl (by kernel_rfl) (show sw Tryz.prog none 6 sync_Mutex_Lock_tt _ 0 (endK Tryz.prog [] Q) ⟨regs [.pointer p0], []⟩ w from
    Eq.mp (by kernel_rfl : sync_Mutex_Lock p0 w Q = sw Tryz.prog none 6 sync_Mutex_Lock_tt (Tryz.f187.body.getD .skip) 0 (endK Tryz.prog [] Q) ⟨regs [.pointer p0], []⟩ w) h))

def sync_Mutex_Unlock (p0 : Option Addr) (w : World) (Q : Value → World → Prop) : Prop :=
  ∃ (a3 : Addr), p0 = some a3 ∧
  callF Tryz.prog 201 #[.pointer (some (a3.add 0))] w fun r5 w1 =>
  r5 = .tuple #[] ∧
  Q (.tuple #[]) w1
def sync_Mutex_Unlock_tt : Nat → List (Nat × TypeId) := fun _ => []
theorem sync_Mutex_Unlock_calld (p0 : Option Addr) (w : World) (K : World → Prop) (h : sync_Mutex_Unlock p0 w (fun _ w => K w)) : callDF Tryz.prog 188 #[.pointer p0] w K :=
  ⟨fun _ _ => by kernel_rfl, callD_of_sw sync_Mutex_Unlock_tt Tryz.func188 rfl (by kernel_rfl) (show sw Tryz.prog none 6 sync_Mutex_Unlock_tt _ 0 (endD Tryz.prog [] K) ⟨regs [.pointer p0], []⟩ w from
    Eq.mp (by kernel_rfl : sync_Mutex_Unlock p0 w (fun _ w => K w) = sw Tryz.prog none 6 sync_Mutex_Unlock_tt (Tryz.f188.body.getD .skip) 0 (endD Tryz.prog [] K) ⟨regs [.pointer p0], []⟩ w) h)⟩
end Go.Sh
end

section
namespace Go.Sh
open Go Go.Fw Go.Proofs
set_option maxRecDepth 100000
set_option linter.unusedVariables false

def slices_Clone_byte_byte (p0 : Option Addr) (l0 : Nat) (c0 : Nat) (w : World) (Q : Value → World → Prop) : Prop :=
  ∃ (b4 : Bool) (w1 : World), Ef Tryz.prog (do eqGuard .eql 22 (.tmp 3) (.const (.slice none 0 0)) (.slice p0 l0 c0) (.slice none 0 0); binOp .eql 22 (.slice p0 l0 c0) (.slice none 0 0) : Sem Value) w (.bool b4) w1 ∧
  cond b4
  (Q (.slice none 0 0) w1)
  (∃ (p5 : Option Addr) (l5 : Nat) (c5 : Nat) (w2 : World), Ef Tryz.prog (Instr.buildSlice 22 0 #[]) w1 (.slice p5 l5 c5) w2 ∧
    ∃ (p7 : Option Addr) (l7 : Nat) (c7 : Nat) (w3 : World), Ef Tryz.prog (Builtin.append_ #[22, 22] 22 #[.slice p5 l5 c5, .slice p0 l0 c0]) w2 (.slice p7 l7 c7) w3 ∧
    Q (.slice p7 l7 c7) w3)
def slices_Clone_byte_byte_tt : Nat → List (Nat × TypeId) := fun _ => []
theorem slices_Clone_byte_byte_call (p0 : Option Addr) (l0 : Nat) (c0 : Nat) (w : World) (Q : Value → World → Prop) (h : slices_Clone_byte_byte p0 l0 c0 w Q) : callF Tryz.prog 44 #[.slice p0 l0 c0] w Q :=
  callF_of (fun _ _ => by kernel_rfl) (callK_of_sw slices_Clone_byte_byte_tt Tryz.func44 rfl (by kernel_rfl) (show sw Tryz.prog none 8 slices_Clone_byte_byte_tt _ 0 (endK Tryz.prog [.tmp 2] Q) ⟨regs [.slice p0 l0 c0], []⟩ w from
    Eq.mp (by kernel_rfl : slices_Clone_byte_byte p0 l0 c0 w Q = sw Tryz.prog none 8 slices_Clone_byte_byte_tt (Tryz.f44.body.getD .skip) 0 (endK Tryz.prog [.tmp 2] Q) ⟨regs [.slice p0 l0 c0], []⟩ w) h))

def slices_ContainsFunc_byte_byte (p0 : Option Addr) (l0 : Nat) (c0 : Nat) (v1 : Value) (w : World) (Q : Value → World → Prop) : Prop :=
  callF Tryz.prog 135 #[.slice p0 l0 c0, v1] w fun r7 w1 =>
  ∃ (n7 : Int), r7 = .int .i64 n7 ∧
  Q (.bool (decide (n7 ≥ 0))) w1
def slices_ContainsFunc_byte_byte_tt : Nat → List (Nat × TypeId) := fun _ => []
theorem slices_ContainsFunc_byte_byte_call (p0 : Option Addr) (l0 : Nat) (c0 : Nat) (v1 : Value) (w : World) (Q : Value → World → Prop) (h : slices_ContainsFunc_byte_byte p0 l0 c0 v1 w Q) : callF Tryz.prog 97 #[.slice p0 l0 c0, v1] w Q :=
  callF_of (fun _ _ => by kernel_rfl) (callK_of_sw slices_ContainsFunc_byte_byte_tt Tryz.func97 rfl (by kernel_rfl) (show sw Tryz.prog none 9 slices_ContainsFunc_byte_byte_tt _ 0 (endK Tryz.prog [.tmp 4] Q) ⟨regs [.slice p0 l0 c0, v1], []⟩ w from
    Eq.mp (by kernel_rfl : slices_ContainsFunc_byte_byte p0 l0 c0 v1 w Q = sw Tryz.prog none 9 slices_ContainsFunc_byte_byte_tt (Tryz.f97.body.getD .skip) 0 (endK Tryz.prog [.tmp 4] Q) ⟨regs [.slice p0 l0 c0, v1], []⟩ w) h))

def slices_Concat_byte_byte_j1 (p0 : Option Addr) (l0 : Nat) (c0 : Nat) (p2 : Option Addr) (l2 : Nat) (c2 : Nat) (n3 : Int) (w : World) (Q : Value → World → Prop) : Prop :=
  callF Tryz.prog 138 #[.slice none 0 0, .int .i64 n3] w fun r24 w1 =>
  ∃ (p24 : Option Addr) (l24 : Nat) (c24 : Nat), r24 = .slice p24 l24 c24 ∧
  LoopS [.slice p2 l2 c2, .slice p24 l24 c24, .slice p0 l0 c0, .int .i64 ((l0 : Nat) : Int), .int .i64 0] w1 fun I2 μ2 us2 _ wl2 =>
  ∃ (p2_1 : Option Addr) (l2_1 : Nat) (c2_1 : Nat) (p6 : Option Addr) (l6 : Nat) (c6 : Nat) (p25 : Option Addr) (l25 : Nat) (c25 : Nat) (n26 : Int) (n27 : Int), us2 = [.slice p2_1 l2_1 c2_1, .slice p6 l6 c6, .slice p25 l25 c25, .int .i64 n26, .int .i64 n27] ∧
  cond (decide (n27 < n26))
  (∃ (a29 : Addr), IxA Tryz.prog 85 (.slice p25 l25 c25) (.int .i64 n27) a29 ∧
    ∃ (p30 : Option Addr) (l30 : Nat) (c30 : Nat), Ld Tryz.prog 22 (.pointer (some a29)) wl2 (.slice p30 l30 c30) ∧
    ∃ (p33 : Option Addr) (l33 : Nat) (c33 : Nat) (w2 : World), Ef Tryz.prog (Builtin.append_ #[22, 22] 22 #[.slice p6 l6 c6, .slice p30 l30 c30]) wl2 (.slice p33 l33 c33) w2 ∧
    goesOn [] [] I2 μ2 us2 [.slice p2_1 l2_1 c2_1, .slice p33 l33 c33, .slice p25 l25 c25, .int .i64 n26, .int .i64 (IntKind.i64.wrap (n27 + 1))] wl2 w2)
  (Q (.slice p6 l6 c6) wl2)
def slices_Concat_byte_byte (p0 : Option Addr) (l0 : Nat) (c0 : Nat) (w : World) (Q : Value → World → Prop) : Prop :=
  LoopS [.slice p0 l0 c0, .slice none 0 0, .int .i64 0, .slice p0 l0 c0, .int .i64 ((l0 : Nat) : Int), .int .i64 0] w fun I1 μ1 us1 _ wl1 =>
  ∃ (p0_1 : Option Addr) (l0_1 : Nat) (c0_1 : Nat) (p2 : Option Addr) (l2 : Nat) (c2 : Nat) (n3 : Int) (p9 : Option Addr) (l9 : Nat) (c9 : Nat) (n10 : Int) (n11 : Int), us1 = [.slice p0_1 l0_1 c0_1, .slice p2 l2 c2, .int .i64 n3, .slice p9 l9 c9, .int .i64 n10, .int .i64 n11] ∧
  cond (decide (n11 < n10))
  (∃ (a13 : Addr), IxA Tryz.prog 85 (.slice p9 l9 c9) (.int .i64 n11) a13 ∧
    ∃ (p14 : Option Addr) (l14 : Nat) (c14 : Nat), Ld Tryz.prog 22 (.pointer (some a13)) wl1 (.slice p14 l14 c14) ∧
    cond (decide ((IntKind.i64.wrap (n3 + ((l14 : Nat) : Int))) < 0))
    (∃ (v21 : Value) (w1 : World), Ef Tryz.prog (Instr.makeInterface 9 (.string (⟨#[108, 101, 110, 32, 111, 117, 116, 32, 111, 102, 32, 114, 97, 110, 103, 101]⟩ : ByteArray))) wl1 (v21) w1 ∧
      False)
    (goesOn [] [] I1 μ1 us1 [.slice p0_1 l0_1 c0_1, .slice p2 l2 c2, .int .i64 (IntKind.i64.wrap (n3 + ((l14 : Nat) : Int))), .slice p9 l9 c9, .int .i64 n10, .int .i64 (IntKind.i64.wrap (n11 + 1))] wl1 wl1))
  (slices_Concat_byte_byte_j1 p0_1 l0_1 c0_1 p2 l2 c2 n3 wl1 Q)
def slices_Concat_byte_byte_tt : Nat → List (Nat × TypeId) := fun n => match n with | 0 => [(0, 85), (2, 22), (3, 3), (9, 85), (10, 3), (11, 3)] | 2 => [(2, 22), (6, 22), (25, 85), (26, 3), (27, 3)] | _ => []
theorem slices_Concat_byte_byte_call (p0 : Option Addr) (l0 : Nat) (c0 : Nat) (w : World) (Q : Value → World → Prop) (h : slices_Concat_byte_byte p0 l0 c0 w Q) : callF Tryz.prog 100 #[.slice p0 l0 c0] w Q :=
  callF_of (fun _ _ => by kernel_rfl) (callK_of_sw slices_Concat_byte_byte_tt Tryz.func100 rfl (by kernel_rfl) (show sw Tryz.prog none 36 slices_Concat_byte_byte_tt _ 0 (endK Tryz.prog [.tmp 2] Q) ⟨regs [.slice p0 l0 c0], []⟩ w from
    Eq.mp (by kernel_rfl : slices_Concat_byte_byte p0 l0 c0 w Q = sw Tryz.prog none 36 slices_Concat_byte_byte_tt (Tryz.f100.body.getD .skip) 0 (endK Tryz.prog [.tmp 2] Q) ⟨regs [.slice p0 l0 c0], []⟩ w) h))

def slices_Concat_poly_Elem_poly_Elem_j1 (p0 : Option Addr) (l0 : Nat) (c0 : Nat) (p2 : Option Addr) (l2 : Nat) (c2 : Nat) (n3 : Int) (w : World) (Q : Value → World → Prop) : Prop :=
  callF Tryz.prog 139 #[.slice none 0 0, .int .i64 n3] w fun r24 w1 =>
  ∃ (p24 : Option Addr) (l24 : Nat) (c24 : Nat), r24 = .slice p24 l24 c24 ∧
  LoopS [.slice p2 l2 c2, .slice p24 l24 c24, .slice p0 l0 c0, .int .i64 ((l0 : Nat) : Int), .int .i64 0] w1 fun I2 μ2 us2 _ wl2 =>
  ∃ (p2_1 : Option Addr) (l2_1 : Nat) (c2_1 : Nat) (p6 : Option Addr) (l6 : Nat) (c6 : Nat) (p25 : Option Addr) (l25 : Nat) (c25 : Nat) (n26 : Int) (n27 : Int), us2 = [.slice p2_1 l2_1 c2_1, .slice p6 l6 c6, .slice p25 l25 c25, .int .i64 n26, .int .i64 n27] ∧
  cond (decide (n27 < n26))
  (∃ (a29 : Addr), IxA Tryz.prog 230 (.slice p25 l25 c25) (.int .i64 n27) a29 ∧
    ∃ (p30 : Option Addr) (l30 : Nat) (c30 : Nat), Ld Tryz.prog 182 (.pointer (some a29)) wl2 (.slice p30 l30 c30) ∧
    ∃ (p33 : Option Addr) (l33 : Nat) (c33 : Nat) (w2 : World), Ef Tryz.prog (Builtin.append_ #[182, 182] 182 #[.slice p6 l6 c6, .slice p30 l30 c30]) wl2 (.slice p33 l33 c33) w2 ∧
    goesOn [] [] I2 μ2 us2 [.slice p2_1 l2_1 c2_1, .slice p33 l33 c33, .slice p25 l25 c25, .int .i64 n26, .int .i64 (IntKind.i64.wrap (n27 + 1))] wl2 w2)
  (Q (.slice p6 l6 c6) wl2)
def slices_Concat_poly_Elem_poly_Elem (p0 : Option Addr) (l0 : Nat) (c0 : Nat) (w : World) (Q : Value → World → Prop) : Prop :=
  LoopS [.slice p0 l0 c0, .slice none 0 0, .int .i64 0, .slice p0 l0 c0, .int .i64 ((l0 : Nat) : Int), .int .i64 0] w fun I1 μ1 us1 _ wl1 =>
  ∃ (p0_1 : Option Addr) (l0_1 : Nat) (c0_1 : Nat) (p2 : Option Addr) (l2 : Nat) (c2 : Nat) (n3 : Int) (p9 : Option Addr) (l9 : Nat) (c9 : Nat) (n10 : Int) (n11 : Int), us1 = [.slice p0_1 l0_1 c0_1, .slice p2 l2 c2, .int .i64 n3, .slice p9 l9 c9, .int .i64 n10, .int .i64 n11] ∧
  cond (decide (n11 < n10))
  (∃ (a13 : Addr), IxA Tryz.prog 230 (.slice p9 l9 c9) (.int .i64 n11) a13 ∧
    ∃ (p14 : Option Addr) (l14 : Nat) (c14 : Nat), Ld Tryz.prog 182 (.pointer (some a13)) wl1 (.slice p14 l14 c14) ∧
    cond (decide ((IntKind.i64.wrap (n3 + ((l14 : Nat) : Int))) < 0))
    (∃ (v21 : Value) (w1 : World), Ef Tryz.prog (Instr.makeInterface 9 (.string (⟨#[108, 101, 110, 32, 111, 117, 116, 32, 111, 102, 32, 114, 97, 110, 103, 101]⟩ : ByteArray))) wl1 (v21) w1 ∧
      False)
    (goesOn [] [] I1 μ1 us1 [.slice p0_1 l0_1 c0_1, .slice p2 l2 c2, .int .i64 (IntKind.i64.wrap (n3 + ((l14 : Nat) : Int))), .slice p9 l9 c9, .int .i64 n10, .int .i64 (IntKind.i64.wrap (n11 + 1))] wl1 wl1))
  (slices_Concat_poly_Elem_poly_Elem_j1 p0_1 l0_1 c0_1 p2 l2 c2 n3 wl1 Q)
def slices_Concat_poly_Elem_poly_Elem_tt : Nat → List (Nat × TypeId) := fun n => match n with | 0 => [(0, 230), (2, 182), (3, 3), (9, 230), (10, 3), (11, 3)] | 2 => [(2, 182), (6, 182), (25, 230), (26, 3), (27, 3)] | _ => []
theorem slices_Concat_poly_Elem_poly_Elem_call (p0 : Option Addr) (l0 : Nat) (c0 : Nat) (w : World) (Q : Value → World → Prop) (h : slices_Concat_poly_Elem_poly_Elem p0 l0 c0 w Q) : callF Tryz.prog 103 #[.slice p0 l0 c0] w Q :=
  callF_of (fun _ _ => by kernel_rfl) (callK_of_sw slices_Concat_poly_Elem_poly_Elem_tt Tryz.func103 rfl (by kernel_rfl) (show sw Tryz.prog none 36 slices_Concat_poly_Elem_poly_Elem_tt _ 0 (endK Tryz.prog [.tmp 2] Q) ⟨regs [.slice p0 l0 c0], []⟩ w from
    Eq.mp (by kernel_rfl : slices_Concat_poly_Elem_poly_Elem p0 l0 c0 w Q = sw Tryz.prog none 36 slices_Concat_poly_Elem_poly_Elem_tt (Tryz.f103.body.getD .skip) 0 (endK Tryz.prog [.tmp 2] Q) ⟨regs [.slice p0 l0 c0], []⟩ w) h))

def slices_Clone_ring_entry_ring_entry (p0 : Option Addr) (l0 : Nat) (c0 : Nat) (w : World) (Q : Value → World → Prop) : Prop :=
  ∃ (b4 : Bool) (w1 : World), Ef Tryz.prog (do eqGuard .eql 134 (.tmp 3) (.const (.slice none 0 0)) (.slice p0 l0 c0) (.slice none 0 0); binOp .eql 134 (.slice p0 l0 c0) (.slice none 0 0) : Sem Value) w (.bool b4) w1 ∧
  cond b4
  (Q (.slice none 0 0) w1)
  (∃ (p5 : Option Addr) (l5 : Nat) (c5 : Nat) (w2 : World), Ef Tryz.prog (Instr.buildSlice 134 0 #[]) w1 (.slice p5 l5 c5) w2 ∧
    ∃ (p7 : Option Addr) (l7 : Nat) (c7 : Nat) (w3 : World), Ef Tryz.prog (Builtin.append_ #[134, 134] 134 #[.slice p5 l5 c5, .slice p0 l0 c0]) w2 (.slice p7 l7 c7) w3 ∧
    Q (.slice p7 l7 c7) w3)
def slices_Clone_ring_entry_ring_entry_tt : Nat → List (Nat × TypeId) := fun _ => []
theorem slices_Clone_ring_entry_ring_entry_call (p0 : Option Addr) (l0 : Nat) (c0 : Nat) (w : World) (Q : Value → World → Prop) (h : slices_Clone_ring_entry_ring_entry p0 l0 c0 w Q) : callF Tryz.prog 128 #[.slice p0 l0 c0] w Q :=
  callF_of (fun _ _ => by kernel_rfl) (callK_of_sw slices_Clone_ring_entry_ring_entry_tt Tryz.func128 rfl (by kernel_rfl) (show sw Tryz.prog none 8 slices_Clone_ring_entry_ring_entry_tt _ 0 (endK Tryz.prog [.tmp 2] Q) ⟨regs [.slice p0 l0 c0], []⟩ w from
    Eq.mp (by kernel_rfl : slices_Clone_ring_entry_ring_entry p0 l0 c0 w Q = sw Tryz.prog none 8 slices_Clone_ring_entry_ring_entry_tt (Tryz.f128.body.getD .skip) 0 (endK Tryz.prog [.tmp 2] Q) ⟨regs [.slice p0 l0 c0], []⟩ w) h))

def slices_Delete_ring_entry_ring_entry (p0 : Option Addr) (l0 : Nat) (c0 : Nat) (n1 : Int) (n2 : Int) (w : World) (Q : Value → World → Prop) : Prop :=
  ∃ (p13 : Option Addr) (l13 : Nat) (c13 : Nat), Pu Tryz.prog (Instr.sliceAt 134 (.slice p0 l0 c0) (some (.int .i64 n1)) (some (.int .i64 n2)) (some (.int .i64 ((l0 : Nat) : Int)))) (.slice p13 l13 c13) ∧
  cond (n1 == n2)
  (Q (.slice p0 l0 c0) w)
  (Drw w fun w1 =>
    ∃ (p22 : Option Addr) (l22 : Nat) (c22 : Nat), Pu Tryz.prog (Instr.sliceAt 134 (.slice p0 l0 c0) none (some (.int .i64 n1)) none) (.slice p22 l22 c22) ∧
    ∃ (p25 : Option Addr) (l25 : Nat) (c25 : Nat), Pu Tryz.prog (Instr.sliceAt 134 (.slice p0 l0 c0) (some (.int .i64 n2)) none none) (.slice p25 l25 c25) ∧
    ∃ (p26 : Option Addr) (l26 : Nat) (c26 : Nat) (w2 : World), Ef Tryz.prog (Builtin.append_ #[134, 134] 134 #[.slice p22 l22 c22, .slice p25 l25 c25]) w1 (.slice p26 l26 c26) w2 ∧
    ∃ (p31 : Option Addr) (l31 : Nat) (c31 : Nat), Pu Tryz.prog (Instr.sliceAt 134 (.slice p26 l26 c26) (some (.int .i64 ((l26 : Nat) : Int))) (some (.int .i64 ((l0 : Nat) : Int))) none) (.slice p31 l31 c31) ∧
    ∃ (w3 : World), Ef Tryz.prog (Builtin.clear_ #[134] 0 #[.slice p31 l31 c31]) w2 (.tuple #[]) w3 ∧
    Q (.slice p26 l26 c26) w3)
def slices_Delete_ring_entry_ring_entry_tt : Nat → List (Nat × TypeId) := fun _ => []
theorem slices_Delete_ring_entry_ring_entry_call (p0 : Option Addr) (l0 : Nat) (c0 : Nat) (n1 : Int) (n2 : Int) (w : World) (Q : Value → World → Prop) (h : slices_Delete_ring_entry_ring_entry p0 l0 c0 n1 n2 w Q) : callF Tryz.prog 129 #[.slice p0 l0 c0, .int .i64 n1, .int .i64 n2] w Q :=
  callF_of (fun _ _ => by kernel_rfl) (callK_of_sw slices_Delete_ring_entry_ring_entry_tt Tryz.func129 rfl (by kernel_rfl) (show sw Tryz.prog none 33 slices_Delete_ring_entry_ring_entry_tt _ 0 (endK Tryz.prog [.tmp 6] Q) ⟨regs [.slice p0 l0 c0, .int .i64 n1, .int .i64 n2], []⟩ w from
    Eq.mp (by kernel_rfl : slices_Delete_ring_entry_ring_entry p0 l0 c0 n1 n2 w Q = sw Tryz.prog none 33 slices_Delete_ring_entry_ring_entry_tt (Tryz.f129.body.getD .skip) 0 (endK Tryz.prog [.tmp 6] Q) ⟨regs [.slice p0 l0 c0, .int .i64 n1, .int .i64 n2], []⟩ w) h))

def slices_IndexFunc_byte_byte (p0 : Option Addr) (l0 : Nat) (c0 : Nat) (v1 : Value) (w : World) (Q : Value → World → Prop) : Prop :=
  LoopS [.slice p0 l0 c0, v1, .int .i64 0, .int .i64 ((l0 : Nat) : Int), .int .i64 0] w fun I1 μ1 us1 _ wl1 =>
  ∃ (p0_1 : Option Addr) (l0_1 : Nat) (c0_1 : Nat) (v1_1 : Value) (n4 : Int) (n7 : Int) (n8 : Int), us1 = [.slice p0_1 l0_1 c0_1, v1_1, .int .i64 n4, .int .i64 n7, .int .i64 n8] ∧
  cond (decide (n8 < n7))
  (∃ (a14 : Addr), IxA Tryz.prog 85 (.slice p0_1 l0_1 c0_1) (.int .i64 n8) a14 ∧
    ∃ (p15 : Option Addr) (l15 : Nat) (c15 : Nat), Ld Tryz.prog 22 (.pointer (some a14)) wl1 (.slice p15 l15 c15) ∧
    callV Tryz.prog (v1_1) [.slice p15 l15 c15] wl1 fun r16 w1 =>
    ∃ (b16 : Bool), r16 = .bool b16 ∧
    cond b16
    (Q (.int .i64 n8) w1)
    (goesOn [] [] I1 μ1 us1 [.slice p0_1 l0_1 c0_1, v1_1, .int .i64 n4, .int .i64 n7, .int .i64 (IntKind.i64.wrap (n8 + 1))] wl1 w1))
  (Q (.int .i64 (-1)) wl1)
def slices_IndexFunc_byte_byte_tt : Nat → List (Nat × TypeId) := fun n => match n with | 0 => [(0, 85), (1, 178), (4, 3), (7, 3), (8, 3)] | _ => []
theorem slices_IndexFunc_byte_byte_call (p0 : Option Addr) (l0 : Nat) (c0 : Nat) (v1 : Value) (w : World) (Q : Value → World → Prop) (h : slices_IndexFunc_byte_byte p0 l0 c0 v1 w Q) : callF Tryz.prog 135 #[.slice p0 l0 c0, v1] w Q :=
  callF_of (fun _ _ => by kernel_rfl) (callK_of_sw slices_IndexFunc_byte_byte_tt Tryz.func135 rfl (by kernel_rfl) (show sw Tryz.prog none 19 slices_IndexFunc_byte_byte_tt _ 0 (endK Tryz.prog [.tmp 4] Q) ⟨regs [.slice p0 l0 c0, v1], []⟩ w from
    Eq.mp (by kernel_rfl : slices_IndexFunc_byte_byte p0 l0 c0 v1 w Q = sw Tryz.prog none 19 slices_IndexFunc_byte_byte_tt (Tryz.f135.body.getD .skip) 0 (endK Tryz.prog [.tmp 4] Q) ⟨regs [.slice p0 l0 c0, v1], []⟩ w) h))

def slices_Grow_byte_byte_j1 (p0 : Option Addr) (l0 : Nat) (c0 : Nat) (n1 : Int) (p4 : Option Addr) (l4 : Nat) (c4 : Nat) (w : World) (Q : Value → World → Prop) : Prop :=
  ∃ (n10 : Int), Pu Tryz.prog (Builtin.cap_ #[22] 3 #[.slice p0 l0 c0]) (.int .i64 n10) ∧
  cond (decide ((IntKind.i64.wrap (n1 - (IntKind.i64.wrap (n10 - ((l0 : Nat) : Int))))) > 0))
  (∃ (n19 : Int), Pu Tryz.prog (Builtin.cap_ #[22] 3 #[.slice p0 l0 c0]) (.int .i64 n19) ∧
    ∃ (p20 : Option Addr) (l20 : Nat) (c20 : Nat), Pu Tryz.prog (Instr.sliceAt 22 (.slice p0 l0 c0) none (some (.int .i64 n19)) none) (.slice p20 l20 c20) ∧
    ∃ (p22 : Option Addr) (l22 : Nat) (c22 : Nat) (w1 : World), Ef Tryz.prog (Builtin.append_ #[22, 3] 22 #[.slice p20 l20 c20, .int .i64 (IntKind.i64.wrap (n1 - (IntKind.i64.wrap (n10 - ((l0 : Nat) : Int)))))]) w (.slice p22 l22 c22) w1 ∧
    ∃ (p25 : Option Addr) (l25 : Nat) (c25 : Nat), Pu Tryz.prog (Instr.sliceAt 22 (.slice p22 l22 c22) none (some (.int .i64 ((l0 : Nat) : Int))) none) (.slice p25 l25 c25) ∧
    Q (.slice p25 l25 c25) w1)
  (Q (.slice p0 l0 c0) w)
def slices_Grow_byte_byte (p0 : Option Addr) (l0 : Nat) (c0 : Nat) (n1 : Int) (w : World) (Q : Value → World → Prop) : Prop :=
  cond (decide (n1 < 0))
  (∃ (v7 : Value) (w1 : World), Ef Tryz.prog (Instr.makeInterface 9 (.string (⟨#[99, 97, 110, 110, 111, 116, 32, 98, 101, 32, 110, 101, 103, 97, 116, 105, 118, 101]⟩ : ByteArray))) w (v7) w1 ∧
    False)
  (slices_Grow_byte_byte_j1 p0 l0 c0 n1 none 0 0 w Q)
def slices_Grow_byte_byte_tt : Nat → List (Nat × TypeId) := fun _ => []
theorem slices_Grow_byte_byte_call (p0 : Option Addr) (l0 : Nat) (c0 : Nat) (n1 : Int) (w : World) (Q : Value → World → Prop) (h : slices_Grow_byte_byte p0 l0 c0 n1 w Q) : callF Tryz.prog 138 #[.slice p0 l0 c0, .int .i64 n1] w Q :=
  callF_of (fun _ _ => by kernel_rfl) (callK_of_sw slices_Grow_byte_byte_tt Tryz.func138 rfl (by kernel_rfl) (show sw Tryz.prog none 27 slices_Grow_byte_byte_tt _ 0 (endK Tryz.prog [.tmp 4] Q) ⟨regs [.slice p0 l0 c0, .int .i64 n1], []⟩ w from
    Eq.mp (by kernel_rfl : slices_Grow_byte_byte p0 l0 c0 n1 w Q = sw Tryz.prog none 27 slices_Grow_byte_byte_tt (Tryz.f138.body.getD .skip) 0 (endK Tryz.prog [.tmp 4] Q) ⟨regs [.slice p0 l0 c0, .int .i64 n1], []⟩ w) h))

def slices_Grow_poly_Elem_poly_Elem_j1 (p0 : Option Addr) (l0 : Nat) (c0 : Nat) (n1 : Int) (p4 : Option Addr) (l4 : Nat) (c4 : Nat) (w : World) (Q : Value → World → Prop) : Prop :=
  ∃ (n10 : Int), Pu Tryz.prog (Builtin.cap_ #[182] 3 #[.slice p0 l0 c0]) (.int .i64 n10) ∧
  cond (decide ((IntKind.i64.wrap (n1 - (IntKind.i64.wrap (n10 - ((l0 : Nat) : Int))))) > 0))
  (∃ (n19 : Int), Pu Tryz.prog (Builtin.cap_ #[182] 3 #[.slice p0 l0 c0]) (.int .i64 n19) ∧
    ∃ (p20 : Option Addr) (l20 : Nat) (c20 : Nat), Pu Tryz.prog (Instr.sliceAt 182 (.slice p0 l0 c0) none (some (.int .i64 n19)) none) (.slice p20 l20 c20) ∧
    ∃ (p22 : Option Addr) (l22 : Nat) (c22 : Nat) (w1 : World), Ef Tryz.prog (Builtin.append_ #[182, 3] 182 #[.slice p20 l20 c20, .int .i64 (IntKind.i64.wrap (n1 - (IntKind.i64.wrap (n10 - ((l0 : Nat) : Int)))))]) w (.slice p22 l22 c22) w1 ∧
    ∃ (p25 : Option Addr) (l25 : Nat) (c25 : Nat), Pu Tryz.prog (Instr.sliceAt 182 (.slice p22 l22 c22) none (some (.int .i64 ((l0 : Nat) : Int))) none) (.slice p25 l25 c25) ∧
    Q (.slice p25 l25 c25) w1)
  (Q (.slice p0 l0 c0) w)
def slices_Grow_poly_Elem_poly_Elem (p0 : Option Addr) (l0 : Nat) (c0 : Nat) (n1 : Int) (w : World) (Q : Value → World → Prop) : Prop :=
  cond (decide (n1 < 0))
  (∃ (v7 : Value) (w1 : World), Ef Tryz.prog (Instr.makeInterface 9 (.string (⟨#[99, 97, 110, 110, 111, 116, 32, 98, 101, 32, 110, 101, 103, 97, 116, 105, 118, 101]⟩ : ByteArray))) w (v7) w1 ∧
    False)
  (slices_Grow_poly_Elem_poly_Elem_j1 p0 l0 c0 n1 none 0 0 w Q)
def slices_Grow_poly_Elem_poly_Elem_tt : Nat → List (Nat × TypeId) := fun _ => []
theorem slices_Grow_poly_Elem_poly_Elem_call (p0 : Option Addr) (l0 : Nat) (c0 : Nat) (n1 : Int) (w : World) (Q : Value → World → Prop) (h : slices_Grow_poly_Elem_poly_Elem p0 l0 c0 n1 w Q) : callF Tryz.prog 139 #[.slice p0 l0 c0, .int .i64 n1] w Q :=
  callF_of (fun _ _ => by kernel_rfl) (callK_of_sw slices_Grow_poly_Elem_poly_Elem_tt Tryz.func139 rfl (by kernel_rfl) (show sw Tryz.prog none 27 slices_Grow_poly_Elem_poly_Elem_tt _ 0 (endK Tryz.prog [.tmp 4] Q) ⟨regs [.slice p0 l0 c0, .int .i64 n1], []⟩ w from
    Eq.mp (by kernel_rfl : slices_Grow_poly_Elem_poly_Elem p0 l0 c0 n1 w Q = sw Tryz.prog none 27 slices_Grow_poly_Elem_poly_Elem_tt (Tryz.f139.body.getD .skip) 0 (endK Tryz.prog [.tmp 4] Q) ⟨regs [.slice p0 l0 c0, .int .i64 n1], []⟩ w) h))

def slices_Chunk_byte_byte (p0 : Option Addr) (l0 : Nat) (c0 : Nat) (n1 : Int) (w : World) (Q : Value → World → Prop) : Prop :=
  New #[.slice p0 l0 c0] 22 w fun k2 w1 =>
  New #[.int .i64 n1] 3 w1 fun k3 w2 =>
  ∃ (n5 : Int), Ld Tryz.prog 3 (.pointer (some (⟨k3, 0, none⟩ : Addr))) w2 (.int .i64 n5) ∧
  cond (decide (n5 < 1))
  (∃ (v7 : Value) (w3 : World), Ef Tryz.prog (Instr.makeInterface 9 (.string (⟨#[99, 97, 110, 110, 111, 116, 32, 98, 101, 32, 108, 101, 115, 115, 32, 116, 104, 97, 110, 32, 49]⟩ : ByteArray))) w2 (v7) w3 ∧
    False)
  (Q (.func (.func 161) #[] #[.pointer (some (⟨k2, 0, none⟩ : Addr)), .pointer (some (⟨k3, 0, none⟩ : Addr))]) w2)
def slices_Chunk_byte_byte_tt : Nat → List (Nat × TypeId) := fun _ => []
theorem slices_Chunk_byte_byte_call (p0 : Option Addr) (l0 : Nat) (c0 : Nat) (n1 : Int) (w : World) (Q : Value → World → Prop) (h : slices_Chunk_byte_byte p0 l0 c0 n1 w Q) : callF Tryz.prog 140 #[.slice p0 l0 c0, .int .i64 n1] w Q :=
  callF_of (fun _ _ => by kernel_rfl) (callK_of_sw slices_Chunk_byte_byte_tt Tryz.func140 rfl (by kernel_rfl) (show sw Tryz.prog none 9 slices_Chunk_byte_byte_tt _ 0 (endK Tryz.prog [.tmp 4] Q) ⟨regs [.slice p0 l0 c0, .int .i64 n1], []⟩ w from
    Eq.mp (by kernel_rfl : slices_Chunk_byte_byte p0 l0 c0 n1 w Q = sw Tryz.prog none 9 slices_Chunk_byte_byte_tt (Tryz.f140.body.getD .skip) 0 (endK Tryz.prog [.tmp 4] Q) ⟨regs [.slice p0 l0 c0, .int .i64 n1], []⟩ w) h))

def slices_IndexFunc_ring_entry_ring_entry (p0 : Option Addr) (l0 : Nat) (c0 : Nat) (v1 : Value) (w : World) (Q : Value → World → Prop) : Prop :=
  LoopS [.slice p0 l0 c0, v1, .int .i64 0, .int .i64 ((l0 : Nat) : Int), .int .i64 0] w fun I1 μ1 us1 _ wl1 =>
  ∃ (p0_1 : Option Addr) (l0_1 : Nat) (c0_1 : Nat) (v1_1 : Value) (n4 : Int) (n7 : Int) (n8 : Int), us1 = [.slice p0_1 l0_1 c0_1, v1_1, .int .i64 n4, .int .i64 n7, .int .i64 n8] ∧
  cond (decide (n8 < n7))
  (∃ (a14 : Addr), IxA Tryz.prog 134 (.slice p0_1 l0_1 c0_1) (.int .i64 n8) a14 ∧
    ∃ (p15 : Option Addr) (n15 : Int) (p15_1 : Option Addr) (l15 : Nat) (c15 : Nat), Ld Tryz.prog 138 (.pointer (some a14)) wl1 (.agg #[.pointer p15, .int .i64 n15, .slice p15_1 l15 c15]) ∧
    callV Tryz.prog (v1_1) [.agg #[.pointer p15, .int .i64 n15, .slice p15_1 l15 c15]] wl1 fun r16 w1 =>
    ∃ (b16 : Bool), r16 = .bool b16 ∧
    cond b16
    (Q (.int .i64 n8) w1)
    (goesOn [] [] I1 μ1 us1 [.slice p0_1 l0_1 c0_1, v1_1, .int .i64 n4, .int .i64 n7, .int .i64 (IntKind.i64.wrap (n8 + 1))] wl1 w1))
  (Q (.int .i64 (-1)) wl1)
def slices_IndexFunc_ring_entry_ring_entry_tt : Nat → List (Nat × TypeId) := fun n => match n with | 0 => [(0, 134), (1, 244), (4, 3), (7, 3), (8, 3)] | _ => []
theorem slices_IndexFunc_ring_entry_ring_entry_call (p0 : Option Addr) (l0 : Nat) (c0 : Nat) (v1 : Value) (w : World) (Q : Value → World → Prop) (h : slices_IndexFunc_ring_entry_ring_entry p0 l0 c0 v1 w Q) : callF Tryz.prog 156 #[.slice p0 l0 c0, v1] w Q :=
  callF_of (fun _ _ => by kernel_rfl) (callK_of_sw slices_IndexFunc_ring_entry_ring_entry_tt Tryz.func156 rfl (by kernel_rfl) (show sw Tryz.prog none 19 slices_IndexFunc_ring_entry_ring_entry_tt _ 0 (endK Tryz.prog [.tmp 4] Q) ⟨regs [.slice p0 l0 c0, v1], []⟩ w from
    Eq.mp (by kernel_rfl : slices_IndexFunc_ring_entry_ring_entry p0 l0 c0 v1 w Q = sw Tryz.prog none 19 slices_IndexFunc_ring_entry_ring_entry_tt (Tryz.f156.body.getD .skip) 0 (endK Tryz.prog [.tmp 4] Q) ⟨regs [.slice p0 l0 c0, v1], []⟩ w) h))

def slices_Chunk_byte_byte_c1 (v0 : Value) (p1 : Option Addr) (p2 : Option Addr) (w : World) (Q : Value → World → Prop) : Prop :=
  LoopS [v0, .pointer p1, .pointer p2, .int .i64 0] w fun I1 μ1 us1 _ wl1 =>
  ∃ (v0_1 : Value) (p1_1 : Option Addr) (p2_1 : Option Addr) (n4 : Int), us1 = [v0_1, .pointer p1_1, .pointer p2_1, .int .i64 n4] ∧
  ∃ (p7 : Option Addr) (l7 : Nat) (c7 : Nat), Ld Tryz.prog 22 (.pointer p1_1) wl1 (.slice p7 l7 c7) ∧
  cond (decide (n4 < ((l7 : Nat) : Int)))
  (∃ (S3 : World → Prop),
    Drw wl1 fun w1 =>
    ∃ (n13 : Int), HLd Tryz.prog S3 3 (.pointer p2_1) w1 (.int .i64 n13) ∧
    ∃ (p14 : Option Addr) (l14 : Nat) (c14 : Nat), Ld Tryz.prog 22 (.pointer p1_1) w1 (.slice p14 l14 c14) ∧
    (w1 = w1 ∨ S3 w1) ∧
    ∃ (p16 : Option Addr) (l16 : Nat) (c16 : Nat), Pu Tryz.prog (Instr.sliceAt 22 (.slice p14 l14 c14) (some (.int .i64 n4)) none none) (.slice p16 l16 c16) ∧
    ∃ (n18 : Int), Pu Tryz.prog (Builtin.min_ #[3, 3] 3 #[.int .i64 n13, .int .i64 ((l16 : Nat) : Int)]) (.int .i64 n18) ∧
    ∃ (p20 : Option Addr) (l20 : Nat) (c20 : Nat), Ld Tryz.prog 22 (.pointer p1_1) w1 (.slice p20 l20 c20) ∧
    ∃ (p28 : Option Addr) (l28 : Nat) (c28 : Nat), Pu Tryz.prog (Instr.sliceAt 22 (.slice p20 l20 c20) (some (.int .i64 n4)) (some (.int .i64 (IntKind.i64.wrap (n4 + n18)))) (some (.int .i64 (IntKind.i64.wrap (n4 + n18))))) (.slice p28 l28 c28) ∧
    callV Tryz.prog (v0_1) [.slice p28 l28 c28] w1 fun r29 w2 =>
    ∃ (b29 : Bool), r29 = .bool b29 ∧
    cond (!b29)
    (Q (.tuple #[]) w2)
    (∃ (n11 : Int), Ld Tryz.prog 3 (.pointer p2_1) w2 (.int .i64 n11) ∧
      goesOn [] [] I1 μ1 us1 [v0_1, .pointer p1_1, .pointer p2_1, .int .i64 (IntKind.i64.wrap (n4 + n11))] wl1 w2))
  (Q (.tuple #[]) wl1)
def slices_Chunk_byte_byte_c1_tt : Nat → List (Nat × TypeId) := fun n => match n with | 0 => [(0, 178), (1, 15), (2, 15), (4, 3)] | _ => []
theorem slices_Chunk_byte_byte_c1_call (v0 : Value) (p1 : Option Addr) (p2 : Option Addr) (w : World) (Q : Value → World → Prop) (h : slices_Chunk_byte_byte_c1 v0 p1 p2 w Q) : callF Tryz.prog 161 #[v0, .pointer p1, .pointer p2] w Q :=
  callF_of (fun _ _ => by kernel_rfl) (callK_of_sw slices_Chunk_byte_byte_c1_tt Tryz.func161 rfl (by kernel_rfl) (show sw Tryz.prog none 31 slices_Chunk_byte_byte_c1_tt _ 0 (endK Tryz.prog [] Q) ⟨regs [v0, .pointer p1, .pointer p2], []⟩ w from
    Eq.mp (by kernel_rfl : slices_Chunk_byte_byte_c1 v0 p1 p2 w Q = sw Tryz.prog none 31 slices_Chunk_byte_byte_c1_tt (Tryz.f161.body.getD .skip) 0 (endK Tryz.prog [] Q) ⟨regs [v0, .pointer p1, .pointer p2], []⟩ w) h))
end Go.Sh
end

section
namespace Go.Sh
open Go Go.Fw Go.Proofs
set_option maxRecDepth 100000
set_option linter.unusedVariables false

def field_New (p0 : Option Addr) (l0 : Nat) (c0 : Nat) (w : World) (Q : Value → World → Prop) : Prop :=
  callF Tryz.prog 44 #[.slice p0 l0 c0] w fun r4 w1 =>
  ∃ (p4 : Option Addr) (l4 : Nat) (c4 : Nat), r4 = .slice p4 l4 c4 ∧
  New #[.slice p4 l4 c4, .int .u32 0, .int .i32 0, .int .u32 0, .int .i64 0, .int .u8 0, .int .u8 0, .int .u8 0, .int .u8 0, .int .u8 0, .int .u8 0, .int .u8 0, .int .u8 0, .int .u8 0, .int .u8 0, .int .u8 0, .int .u8 0, .int .u8 0, .int .u8 0, .int .u8 0, .int .u8 0, .int .u8 0, .int .u8 0, .int .u8 0, .int .u8 0, .int .u8 0, .int .u8 0, .int .u8 0, .int .u8 0, .int .u8 0, .int .u8 0, .int .u8 0, .int .u8 0, .int .u8 0, .int .u8 0, .int .u8 0, .int .u8 0, .int .u8 0, .int .u8 0, .int .u8 0, .int .u8 0, .int .u8 0, .int .u8 0, .int .u8 0, .int .u8 0, .int .u8 0, .int .u8 0, .int .u8 0, .int .u8 0, .int .u8 0, .int .u8 0, .int .u8 0, .int .u8 0, .int .u8 0, .int .u8 0, .int .u8 0, .int .u8 0, .int .u8 0, .int .u8 0, .int .u8 0, .int .u8 0, .int .u8 0, .int .u8 0, .int .u8 0, .int .u8 0, .int .u8 0, .int .u8 0, .int .u8 0, .int .u8 0, .int .u8 0, .int .u8 0, .int .u8 0, .int .u8 0, .int .u8 0, .int .u8 0, .int .u8 0, .int .u8 0, .int .u8 0, .int .u8 0, .int .u8 0, .int .u8 0, .int .u8 0, .int .u8 0, .int .u8 0, .int .u8 0, .int .u8 0, .int .u8 0, .int .u8 0, .int .u8 0, .int .u8 0, .int .u8 0, .int .u8 0, .int .u8 0, .int .u8 0, .int .u8 0, .int .u8 0, .int .u8 0, .int .u8 0, .int .u8 0, .int .u8 0, .int .u8 0, .int .u8 0, .int .u8 0, .int .u8 0, .int .u8 0, .int .u8 0, .int .u8 0, .int .u8 0, .int .u8 0, .int .u8 0, .int .u8 0, .int .u8 0, .int .u8 0, .int .u8 0, .int .u8 0, .int .u8 0, .int .u8 0, .int .u8 0, .int .u8 0, .int .u8 0, .int .u8 0, .int .u8 0, .int .u8 0, .int .u8 0, .int .u8 0, .int .u8 0, .int .u8 0, .int .u8 0, .int .u8 0, .int .u8 0, .int .u8 0, .int .u8 0, .int .u8 0, .int .u8 0, .int .u8 0, .int .u8 0, .int .u8 0, .int .u8 0, .int .u8 0, .int .u8 0, .int .u8 0, .int .u8 0, .int .u8 0, .int .u8 0, .int .u8 0, .int .u8 0, .int .u8 0, .int .u8 0, .int .u8 0, .int .u8 0, .int .u8 0, .int .u8 0, .int .u8 0, .int .u8 0, .int .u8 0, .int .u8 0, .int .u8 0, .int .u8 0, .int .u8 0, .int .u8 0, .int .u8 0, .int .u8 0, .int .u8 0, .int .u8 0, .int .u8 0, .int .u8 0, .int .u8 0, .int .u8 0, .int .u8 0, .int .u8 0, .int .u8 0, .int .u8 0, .int .u8 0, .int .u8 0, .int .u8 0, .int .u8 0, .int .u8 0, .int .u8 0, .int .u8 0, .int .u8 0, .int .u8 0, .int .u8 0, .int .u8 0, .int .u8 0, .int .u8 0, .int .u8 0, .int .u8 0, .int .u8 0, .int .u8 0, .int .u8 0, .int .u8 0, .int .u8 0, .int .u8 0, .int .u8 0, .int .u8 0, .int .u8 0, .int .u8 0, .int .u8 0, .int .u8 0, .int .u8 0, .int .u8 0, .int .u8 0, .int .u8 0, .int .u8 0, .int .u8 0, .int .u8 0, .int .u8 0, .int .u8 0, .int .u8 0, .int .u8 0, .int .u8 0, .int .u8 0, .int .u8 0, .int .u8 0, .int .u8 0, .int .u8 0, .int .u8 0, .int .u8 0, .int .u8 0, .int .u8 0, .int .u8 0, .int .u8 0, .int .u8 0, .int .u8 0, .int .u8 0, .int .u8 0, .int .u8 0, .int .u8 0, .int .u8 0, .int .u8 0, .int .u8 0, .int .u8 0, .int .u8 0, .int .u8 0, .int .u8 0, .int .u8 0, .int .u8 0, .int .u8 0, .int .u8 0, .int .u8 0, .int .u8 0, .int .u8 0, .int .u8 0, .int .u8 0, .int .u8 0, .int .u8 0, .int .u8 0, .int .u8 0, .int .u8 0, .int .u8 0, .int .u8 0, .int .u8 0, .int .u8 0, .int .u8 0, .int .u8 0, .int .u8 0, .int .u8 0, .int .u8 0, .int .u8 0, .int .u8 0, .int .u8 0, .int .u8 0, .int .u8 0, .int .u8 0, .int .u8 0, .int .u8 0, .int .u8 0, .int .u8 0, .int .u8 0, .int .u8 0, .int .u8 0, .int .u8 0, .int .u8 0, .int .u8 0, .int .u8 0, .int .u8 0, .int .u8 0, .int .u8 0, .int .u8 0, .int .u8 0, .int .u8 0, .int .u8 0, .int .u8 0, .int .u8 0, .int .u8 0, .int .u8 0, .int .u8 0, .int .u8 0, .int .u8 0, .int .u8 0, .int .u8 0, .int .u8 0, .int .u8 0, .int .u8 0, .int .u8 0, .int .u8 0, .int .u8 0, .int .u8 0, .int .u8 0, .int .u8 0, .int .u8 0, .int .u8 0, .int .u8 0, .int .u8 0, .int .u8 0, .int .u8 0, .int .u8 0, .int .u8 0, .int .u8 0, .int .u8 0, .int .u8 0, .int .u8 0, .int .u8 0, .int .u8 0, .int .u8 0, .int .u8 0, .int .u8 0, .int .u8 0, .int .u8 0, .int .u8 0, .int .u8 0, .int .u8 0, .int .u8 0, .int .u8 0, .int .u8 0, .int .u8 0, .int .u8 0, .int .u8 0, .int .u8 0, .int .u8 0, .int .u8 0, .int .u8 0, .int .u8 0, .int .u8 0, .int .u8 0, .int .u8 0, .int .u8 0, .int .u8 0, .int .u8 0, .int .u8 0, .int .u8 0, .int .u8 0, .int .u8 0, .int .u8 0, .int .u8 0, .int .u8 0, .int .u8 0, .int .u8 0, .int .u8 0, .int .u8 0, .int .u8 0, .int .u8 0, .int .u8 0, .int .u8 0, .int .u8 0, .int .u8 0, .int .u8 0, .int .u8 0, .int .u8 0, .int .u8 0, .int .u8 0, .int .u8 0, .int .u8 0, .int .u8 0, .int .u8 0, .int .u8 0, .int .u8 0, .int .u8 0, .int .u8 0, .int .u8 0, .int .u8 0, .int .u8 0, .int .u8 0, .int .u8 0, .int .u8 0, .int .u8 0, .int .u8 0, .int .u8 0, .int .u8 0, .int .u8 0, .int .u8 0, .int .u8 0, .int .u8 0, .int .u8 0, .int .u8 0, .int .u8 0, .int .u8 0, .int .u8 0, .int .u8 0, .int .u8 0, .int .u8 0, .int .u8 0, .int .u8 0, .int .u8 0, .int .u8 0, .int .u8 0, .int .u8 0, .int .u8 0, .int .u8 0, .int .u8 0, .int .u8 0, .int .u8 0, .int .u8 0, .int .u8 0, .int .u8 0, .int .u8 0, .int .u8 0, .int .u8 0, .int .u8 0, .int .u8 0, .int .u8 0, .int .u8 0, .int .u8 0, .int .u8 0, .int .u8 0, .int .u8 0, .int .u8 0, .int .u8 0, .int .u8 0, .int .u8 0, .int .u8 0, .int .u8 0, .int .u8 0, .int .u8 0, .int .u8 0, .int .u8 0, .int .u8 0, .int .u8 0, .int .u8 0, .int .u8 0, .int .u8 0, .int .u8 0, .int .u8 0, .int .u8 0, .int .u8 0, .int .u8 0, .int .u8 0, .int .u8 0, .int .u8 0, .int .u8 0, .int .u8 0, .int .u8 0, .int .u8 0, .int .u8 0, .int .u8 0, .int .u8 0, .int .u8 0, .int .u8 0, .int .u8 0, .int .u8 0, .int .u8 0, .int .u8 0, .int .u8 0, .int .u8 0, .int .u8 0, .int .u8 0, .int .u8 0, .int .u8 0, .int .u8 0, .int .u8 0, .int .u8 0, .int .u8 0, .int .u8 0, .int .u8 0, .int .u8 0, .int .u8 0, .int .u8 0, .int .u8 0, .int .u8 0, .int .u8 0, .int .u8 0, .int .u8 0, .int .u8 0, .int .u8 0, .int .u8 0, .int .u8 0, .int .u8 0, .int .u8 0, .int .u8 0, .int .u8 0, .int .u8 0, .int .u8 0, .int .u8 0, .int .u8 0, .int .u8 0, .int .u8 0, .int .u8 0, .int .u8 0, .int .u8 0, .int .u8 0, .int .u8 0, .int .u8 0, .int .u8 0, .int .u8 0, .int .u8 0, .int .u8 0, .int .u8 0, .int .u8 0, .int .u8 0, .int .u8 0, .int .u8 0, .int .u8 0, .int .u8 0, .int .u8 0, .int .u8 0, .int .u8 0, .int .u8 0, .int .u8 0, .int .u8 0, .int .u8 0, .int .u8 0, .int .u8 0, .int .u8 0, .int .u8 0, .int .u8 0, .int .u8 0, .int .u8 0, .slice none 0 0] 218 w1 fun k6 w2 =>
  Q (.pointer (some (⟨k6, 0, none⟩ : Addr))) w2
def field_New_tt : Nat → List (Nat × TypeId) := fun _ => []
theorem field_New_call (p0 : Option Addr) (l0 : Nat) (c0 : Nat) (w : World) (Q : Value → World → Prop) (h : field_New p0 l0 c0 w Q) : callF Tryz.prog 86 #[.slice p0 l0 c0] w Q :=
  callF_of (fun _ _ => by kernel_rfl) (callK_of_sw field_New_tt Tryz.func86 rfl (by kernel_rfl) (show sw Tryz.prog none 7 field_New_tt _ 0 (endK Tryz.prog [.tmp 2] Q) ⟨regs [.slice p0 l0 c0], []⟩ w from
    Eq.mp (by kernel_rfl : field_New p0 l0 c0 w Q = sw Tryz.prog none 7 field_New_tt (Tryz.f86.body.getD .skip) 0 (endK Tryz.prog [.tmp 2] Q) ⟨regs [.slice p0 l0 c0], []⟩ w) h))

def field_Tables_Sub (p0 : Option Addr) (n1 : Int) (w : World) (Q : Value → World → Prop) : Prop :=
  callF Tryz.prog 132 #[.pointer p0] w fun r6 w1 =>
  ∃ (p6 : Option Addr), r6 = .pointer p6 ∧
  ∃ (a8 : Addr), p6 = some a8 ∧
  ∃ (a10 : Addr), IxA Tryz.prog 215 (.pointer (some (a8.add 5))) (.int .u8 n1) a10 ∧
  ∃ (n11 : Int), Ld Tryz.prog 5 (.pointer (some a10)) w1 (.int .u8 n11) ∧
  Q (.int .u8 n11) w1
def field_Tables_Sub_tt : Nat → List (Nat × TypeId) := fun _ => []
theorem field_Tables_Sub_call (p0 : Option Addr) (n1 : Int) (w : World) (Q : Value → World → Prop) (h : field_Tables_Sub p0 n1 w Q) : callF Tryz.prog 91 #[.pointer p0, .int .u8 n1] w Q :=
  callF_of (fun _ _ => by kernel_rfl) (callK_of_sw field_Tables_Sub_tt Tryz.func91 rfl (by kernel_rfl) (show sw Tryz.prog none 12 field_Tables_Sub_tt _ 0 (endK Tryz.prog [.tmp 4] Q) ⟨regs [.pointer p0, .int .u8 n1], []⟩ w from
    Eq.mp (by kernel_rfl : field_Tables_Sub p0 n1 w Q = sw Tryz.prog none 12 field_Tables_Sub_tt (Tryz.f91.body.getD .skip) 0 (endK Tryz.prog [.tmp 4] Q) ⟨regs [.pointer p0, .int .u8 n1], []⟩ w) h))

def field_Pow (n0 : Int) (n1 : Int) (w : World) (Q : Value → World → Prop) : Prop :=
  LoopS [.int .u8 n0, .int .u64 n1, .int .u8 0, .int .u8 1] w fun I1 μ1 us1 _ wl1 =>
  ∃ (n0_1 : Int) (n1_1 : Int) (n4 : Int) (n5 : Int), us1 = [.int .u8 n0_1, .int .u64 n1_1, .int .u8 n4, .int .u8 n5] ∧
  cond (n1_1 != 0)
  (cond ((iand .u64 n1_1 1) != 0)
    (callF Tryz.prog 158 #[.int .u8 n5, .int .u8 n0_1] wl1 fun r15 w1 =>
      ∃ (n15 : Int), r15 = .int .u8 n15 ∧
      callF Tryz.prog 158 #[.int .u8 n0_1, .int .u8 n0_1] w1 fun r18 w2 =>
      ∃ (n18 : Int), r18 = .int .u8 n18 ∧
      goesOn [] [] I1 μ1 us1 [.int .u8 n18, .int .u64 (Int.fdiv n1_1 (2 ^ 1)), .int .u8 n4, .int .u8 n15] wl1 w2)
    (callF Tryz.prog 158 #[.int .u8 n0_1, .int .u8 n0_1] wl1 fun r18_1 w3 =>
      ∃ (n18_1 : Int), r18_1 = .int .u8 n18_1 ∧
      goesOn [] [] I1 μ1 us1 [.int .u8 n18_1, .int .u64 (Int.fdiv n1_1 (2 ^ 1)), .int .u8 n4, .int .u8 n5] wl1 w3))
  (Q (.int .u8 n5) wl1)
def field_Pow_tt : Nat → List (Nat × TypeId) := fun n => match n with | 0 => [(0, 5), (1, 104), (4, 5), (5, 5)] | _ => []
theorem field_Pow_call (n0 : Int) (n1 : Int) (w : World) (Q : Value → World → Prop) (h : field_Pow n0 n1 w Q) : callF Tryz.prog 131 #[.int .u8 n0, .int .u64 n1] w Q :=
  callF_of (fun _ _ => by kernel_rfl) (callK_of_sw field_Pow_tt Tryz.func131 rfl (by kernel_rfl) (show sw Tryz.prog none 20 field_Pow_tt _ 0 (endK Tryz.prog [.tmp 4] Q) ⟨regs [.int .u8 n0, .int .u64 n1], []⟩ w from
    Eq.mp (by kernel_rfl : field_Pow n0 n1 w Q = sw Tryz.prog none 20 field_Pow_tt (Tryz.f131.body.getD .skip) 0 (endK Tryz.prog [.tmp 4] Q) ⟨regs [.int .u8 n0, .int .u64 n1], []⟩ w) h))

def field_Tables_ready (p0 : Option Addr) (w : World) (Q : Value → World → Prop) : Prop :=
  ∃ (a4 : Addr), p0 = some a4 ∧
  callF Tryz.prog 159 #[.pointer (some (a4.add 1)), .func (.func 160) #[.pointer p0] #[]] w fun r8 w1 =>
  r8 = .tuple #[] ∧
  Q (.pointer p0) w1
def field_Tables_ready_tt : Nat → List (Nat × TypeId) := fun _ => []
theorem field_Tables_ready_call (p0 : Option Addr) (w : World) (Q : Value → World → Prop) (h : field_Tables_ready p0 w Q) : callF Tryz.prog 132 #[.pointer p0] w Q :=
  callF_of (fun _ _ => by kernel_rfl) (callK_of_sw field_Tables_ready_tt Tryz.func132 rfl (by kernel_rfl) (show sw Tryz.prog none 10 field_Tables_ready_tt _ 0 (endK Tryz.prog [.tmp 2] Q) ⟨regs [.pointer p0], []⟩ w from
    Eq.mp (by kernel_rfl : field_Tables_ready p0 w Q = sw Tryz.prog none 10 field_Tables_ready_tt (Tryz.f132.body.getD .skip) 0 (endK Tryz.prog [.tmp 2] Q) ⟨regs [.pointer p0], []⟩ w) h))

def field_Tables_Times_j1 (p0 : Option Addr) (n1 : Int) (n2 : Int) (n6 : Int) (n7 : Int) (w : World) (Q : Value → World → Prop) : Prop :=
  ∃ (a22 : Addr), p0 = some a22 ∧
  ∃ (p24 : Option Addr) (l24 : Nat) (c24 : Nat), Ld Tryz.prog 216 (.pointer (some (a22.add 517))) w (.slice p24 l24 c24) ∧
  ∃ (a27 : Addr), IxA Tryz.prog 216 (.slice p24 l24 c24) (.int .i64 n1) a27 ∧
  ∃ (a28 : Addr), IxA Tryz.prog 215 (.pointer (some a27)) (.int .u8 n2) a28 ∧
  ∃ (n29 : Int), Ld Tryz.prog 5 (.pointer (some a28)) w (.int .u8 n29) ∧
  Q (.tuple #[.int .u8 n29, .int .i64 0]) w
def field_Tables_Times (p0 : Option Addr) (n1 : Int) (n2 : Int) (w : World) (Q : Value → World → Prop) : Prop :=
  callF Tryz.prog 132 #[.pointer p0] w fun r9 w1 =>
  ∃ (p9 : Option Addr), r9 = .pointer p9 ∧
  cond (decide (n1 < 0))
  (Q (.tuple #[.int .u8 0, .int .i64 11]) w1)
  (∃ (a15 : Addr), p0 = some a15 ∧
    ∃ (p17 : Option Addr) (l17 : Nat) (c17 : Nat), Ld Tryz.prog 216 (.pointer (some (a15.add 517))) w1 (.slice p17 l17 c17) ∧
    cond (decide (n1 ≥ ((l17 : Nat) : Int)))
    (Q (.tuple #[.int .u8 0, .int .i64 11]) w1)
    (field_Tables_Times_j1 p0 n1 n2 0 0 w1 Q))
def field_Tables_Times_tt : Nat → List (Nat × TypeId) := fun _ => []
theorem field_Tables_Times_call (p0 : Option Addr) (n1 : Int) (n2 : Int) (w : World) (Q : Value → World → Prop) (h : field_Tables_Times p0 n1 n2 w Q) : callF Tryz.prog 133 #[.pointer p0, .int .i64 n1, .int .u8 n2] w Q :=
  callF_of (fun _ _ => by kernel_rfl) (callK_of_sw field_Tables_Times_tt Tryz.func133 rfl (by kernel_rfl) (show sw Tryz.prog none 30 field_Tables_Times_tt _ 0 (endK Tryz.prog [.tmp 6, .tmp 7] Q) ⟨regs [.pointer p0, .int .i64 n1, .int .u8 n2], []⟩ w from
    Eq.mp (by kernel_rfl : field_Tables_Times p0 n1 n2 w Q = sw Tryz.prog none 30 field_Tables_Times_tt (Tryz.f133.body.getD .skip) 0 (endK Tryz.prog [.tmp 6, .tmp 7] Q) ⟨regs [.pointer p0, .int .i64 n1, .int .u8 n2], []⟩ w) h))

def field_Mul (n0 : Int) (n1 : Int) (w : World) (Q : Value → World → Prop) : Prop :=
  LoopS [.int .u8 n0, .int .u8 n1, .int .u8 0, .int .u8 0] w fun I1 μ1 us1 _ wl1 =>
  ∃ (n0_1 : Int) (n1_1 : Int) (n4 : Int) (n5 : Int), us1 = [.int .u8 n0_1, .int .u8 n1_1, .int .u8 n4, .int .u8 n5] ∧
  cond (n1_1 != 0)
  (cond ((iand .u8 n1_1 1) != 0)
    (callF Tryz.prog 172 #[.int .u8 n0_1] wl1 fun r17 w1 =>
      ∃ (n17 : Int), r17 = .int .u8 n17 ∧
      goesOn [] [] I1 μ1 us1 [.int .u8 n17, .int .u8 (Int.fdiv n1_1 (2 ^ 1)), .int .u8 n4, .int .u8 (ixor .u8 n5 n0_1)] wl1 w1)
    (callF Tryz.prog 172 #[.int .u8 n0_1] wl1 fun r17_1 w2 =>
      ∃ (n17_1 : Int), r17_1 = .int .u8 n17_1 ∧
      goesOn [] [] I1 μ1 us1 [.int .u8 n17_1, .int .u8 (Int.fdiv n1_1 (2 ^ 1)), .int .u8 n4, .int .u8 n5] wl1 w2))
  (Q (.int .u8 n5) wl1)
def field_Mul_tt : Nat → List (Nat × TypeId) := fun n => match n with | 0 => [(0, 5), (1, 5), (4, 5), (5, 5)] | _ => []
theorem field_Mul_call (n0 : Int) (n1 : Int) (w : World) (Q : Value → World → Prop) (h : field_Mul n0 n1 w Q) : callF Tryz.prog 158 #[.int .u8 n0, .int .u8 n1] w Q :=
  callF_of (fun _ _ => by kernel_rfl) (callK_of_sw field_Mul_tt Tryz.func158 rfl (by kernel_rfl) (show sw Tryz.prog none 19 field_Mul_tt _ 0 (endK Tryz.prog [.tmp 4] Q) ⟨regs [.int .u8 n0, .int .u8 n1], []⟩ w from
    Eq.mp (by kernel_rfl : field_Mul n0 n1 w Q = sw Tryz.prog none 19 field_Mul_tt (Tryz.f158.body.getD .skip) 0 (endK Tryz.prog [.tmp 4] Q) ⟨regs [.int .u8 n0, .int .u8 n1], []⟩ w) h))

def field_Tables_make (p0 : Option Addr) (w : World) (Q : Value → World → Prop) : Prop :=
  ∃ (a7 : Addr), p0 = some a7 ∧
  callF Tryz.prog 59 #[.pointer (some (a7.add 4)), .int .i64 1] w fun r9 w1 =>
  ∃ (n9 : Int), r9 = .int .i64 n9 ∧
  ∃ (a12 : Addr), p0 = some a12 ∧
  ∃ (p14 : Option Addr) (l14 : Nat) (c14 : Nat), Ld Tryz.prog 22 (.pointer (some (a12.add 0))) w1 (.slice p14 l14 c14) ∧
  ∃ (p16 : Option Addr) (l16 : Nat) (c16 : Nat) (w2 : World), Ef Tryz.prog (Instr.makeSlice 216 (.int .i64 ((l14 : Nat) : Int)) (.int .i64 ((l14 : Nat) : Int))) w1 (.slice p16 l16 c16) w2 ∧
  ∃ (a17 : Addr), p0 = some a17 ∧
  ∃ (w3 : World), Sto Tryz.prog 216 (.pointer (some (a17.add 517))) (.slice p16 l16 c16) w2 w3 ∧
  LoopS [.pointer p0, .int .i64 0] w3 fun I1 μ1 us1 _ wl1 =>
  ∃ (p0_1 : Option Addr) (n19 : Int), us1 = [.pointer p0_1, .int .i64 n19] ∧
  cond (decide (n19 < 256))
  (callF Tryz.prog 175 #[.int .u8 (IntKind.u8.wrap n19)] wl1 fun r24 w4 =>
    ∃ (n24 : Int), r24 = .int .u8 n24 ∧
    ∃ (a28 : Addr), p0_1 = some a28 ∧
    ∃ (a30 : Addr), IxA Tryz.prog 215 (.pointer (some (a28.add 5))) (.int .i64 n19) a30 ∧
    ∃ (w5 : World), Sto Tryz.prog 5 (.pointer (some a30)) (.int .u8 n24) w4 w5 ∧
    ∃ (a35 : Addr), p0_1 = some a35 ∧
    ∃ (a37 : Addr), IxA Tryz.prog 215 (.pointer (some (a35.add 261))) (.int .u8 n24) a37 ∧
    ∃ (w6 : World), Sto Tryz.prog 5 (.pointer (some a37)) (.int .u8 (IntKind.u8.wrap n19)) w5 w6 ∧
    ∃ (a39 : Addr), p0_1 = some a39 ∧
    ∃ (p41 : Option Addr) (l41 : Nat) (c41 : Nat), Ld Tryz.prog 22 (.pointer (some (a39.add 0))) w6 (.slice p41 l41 c41) ∧
    LoopS [.pointer p0_1, .int .i64 n19, .int .i64 n19, .slice p41 l41 c41, .int .i64 ((l41 : Nat) : Int), .int .i64 0] w6 fun I2 μ2 us2 _ wl2 =>
    ∃ (p0_2 : Option Addr) (n2 : Int) (n19_1 : Int) (p41_1 : Option Addr) (l41_1 : Nat) (c41_1 : Nat) (n42 : Int) (n43 : Int), us2 = [.pointer p0_2, .int .i64 n2, .int .i64 n19_1, .slice p41_1 l41_1 c41_1, .int .i64 n42, .int .i64 n43] ∧
    cond (decide (n43 < n42))
    (∃ (a46 : Addr), IxA Tryz.prog 22 (.slice p41_1 l41_1 c41_1) (.int .i64 n43) a46 ∧
      ∃ (n47 : Int), Ld Tryz.prog 5 (.pointer (some a46)) wl2 (.int .u8 n47) ∧
      ∃ (S11 : World → Prop),
      Drw wl2 fun w7 =>
      ∃ (a49 : Addr), p0_2 = some a49 ∧
      ∃ (p51 : Option Addr) (l51 : Nat) (c51 : Nat), HLd Tryz.prog S11 216 (.pointer (some (a49.add 517))) w7 (.slice p51 l51 c51) ∧
      ∃ (a58 : Addr), IxA Tryz.prog 216 (.slice p51 l51 c51) (.int .i64 n43) a58 ∧
      callF Tryz.prog 158 #[.int .u8 (IntKind.u8.wrap n2), .int .u8 n47] w7 fun r57 w8 =>
      ∃ (n57 : Int), r57 = .int .u8 n57 ∧
      (w8 = w7 ∨ S11 w8) ∧
      ∃ (a59 : Addr), IxA Tryz.prog 215 (.pointer (some a58)) (.int .i64 n2) a59 ∧
      ∃ (w9 : World), Sto Tryz.prog 5 (.pointer (some a59)) (.int .u8 n57) w8 w9 ∧
      goesOn [] [] I2 μ2 us2 [.pointer p0_2, .int .i64 n2, .int .i64 n19_1, .slice p41_1 l41_1 c41_1, .int .i64 n42, .int .i64 (IntKind.i64.wrap (n43 + 1))] wl2 w9)
    (goesOn [] [] I1 μ1 us1 [.pointer p0_2, .int .i64 (IntKind.i64.wrap (n19_1 + 1))] wl1 wl2))
  (Q (.tuple #[]) wl1)
def field_Tables_make_tt : Nat → List (Nat × TypeId) := fun n => match n with | 0 => [(0, 141), (19, 3)] | 2 => [(0, 141), (2, 3), (19, 3), (41, 22), (42, 3), (43, 3)] | _ => []
theorem field_Tables_make_call (p0 : Option Addr) (w : World) (Q : Value → World → Prop) (h : field_Tables_make p0 w Q) : callF Tryz.prog 160 #[.pointer p0] w Q :=
  callF_of (fun _ _ => by kernel_rfl) (callK_of_sw field_Tables_make_tt Tryz.func160 rfl (by kernel_rfl) (show sw Tryz.prog none 62 field_Tables_make_tt _ 0 (endK Tryz.prog [] Q) ⟨regs [.pointer p0], []⟩ w from
    Eq.mp (by kernel_rfl : field_Tables_make p0 w Q = sw Tryz.prog none 62 field_Tables_make_tt (Tryz.f160.body.getD .skip) 0 (endK Tryz.prog [] Q) ⟨regs [.pointer p0], []⟩ w) h))

def field_double (n0 : Int) (w : World) (Q : Value → World → Prop) : Prop :=
  cond ((iand .u8 n0 128) != 0)
  (Q (.int .u8 (ixor .u8 (IntKind.u8.wrap (n0 * 2 ^ 1)) 27)) w)
  (Q (.int .u8 (IntKind.u8.wrap (n0 * 2 ^ 1))) w)
def field_double_tt : Nat → List (Nat × TypeId) := fun _ => []
theorem field_double_call (n0 : Int) (w : World) (Q : Value → World → Prop) (h : field_double n0 w Q) : callF Tryz.prog 172 #[.int .u8 n0] w Q :=
  callF_of (fun _ _ => by kernel_rfl) (callK_of_sw field_double_tt Tryz.func172 rfl (by kernel_rfl) (show sw Tryz.prog none 11 field_double_tt _ 0 (endK Tryz.prog [.tmp 2] Q) ⟨regs [.int .u8 n0], []⟩ w from
    Eq.mp (by kernel_rfl : field_double n0 w Q = sw Tryz.prog none 11 field_double_tt (Tryz.f172.body.getD .skip) 0 (endK Tryz.prog [.tmp 2] Q) ⟨regs [.int .u8 n0], []⟩ w) h))

def field_sign (n0 : Int) (w : World) (Q : Value → World → Prop) : Prop :=
  callF Tryz.prog 190 #[.int .u8 n0] w fun r5 w1 =>
  ∃ (n5 : Int), r5 = .int .u8 n5 ∧
  callF Tryz.prog 192 #[.int .u8 n5, .int .i64 1] w1 fun r8 w2 =>
  ∃ (n8 : Int), r8 = .int .u8 n8 ∧
  callF Tryz.prog 192 #[.int .u8 n5, .int .i64 2] w2 fun r10 w3 =>
  ∃ (n10 : Int), r10 = .int .u8 n10 ∧
  callF Tryz.prog 192 #[.int .u8 n5, .int .i64 3] w3 fun r12 w4 =>
  ∃ (n12 : Int), r12 = .int .u8 n12 ∧
  callF Tryz.prog 192 #[.int .u8 n5, .int .i64 4] w4 fun r14 w5 =>
  ∃ (n14 : Int), r14 = .int .u8 n14 ∧
  ∃ (p15 : Option Addr) (l15 : Nat) (c15 : Nat) (w6 : World), Ef Tryz.prog (Instr.buildSlice 22 6 #[(0, .int .u8 n5), (1, .int .u8 n8), (2, .int .u8 n10), (3, .int .u8 n12), (4, .int .u8 n14), (5, .int .u8 99)]) w5 (.slice p15 l15 c15) w6 ∧
  callF Tryz.prog 191 #[.slice p15 l15 c15] w6 fun r16 w7 =>
  ∃ (n16 : Int), r16 = .int .u8 n16 ∧
  Q (.int .u8 n16) w7
def field_sign_tt : Nat → List (Nat × TypeId) := fun _ => []
theorem field_sign_call (n0 : Int) (w : World) (Q : Value → World → Prop) (h : field_sign n0 w Q) : callF Tryz.prog 175 #[.int .u8 n0] w Q :=
  callF_of (fun _ _ => by kernel_rfl) (callK_of_sw field_sign_tt Tryz.func175 rfl (by kernel_rfl) (show sw Tryz.prog none 17 field_sign_tt _ 0 (endK Tryz.prog [.tmp 2] Q) ⟨regs [.int .u8 n0], []⟩ w from
    Eq.mp (by kernel_rfl : field_sign n0 w Q = sw Tryz.prog none 17 field_sign_tt (Tryz.f175.body.getD .skip) 0 (endK Tryz.prog [.tmp 2] Q) ⟨regs [.int .u8 n0], []⟩ w) h))

def field_Inv (n0 : Int) (w : World) (Q : Value → World → Prop) : Prop :=
  callF Tryz.prog 131 #[.int .u8 n0, .int .u64 254] w fun r4 w1 =>
  ∃ (n4 : Int), r4 = .int .u8 n4 ∧
  Q (.int .u8 n4) w1
def field_Inv_tt : Nat → List (Nat × TypeId) := fun _ => []
theorem field_Inv_call (n0 : Int) (w : World) (Q : Value → World → Prop) (h : field_Inv n0 w Q) : callF Tryz.prog 190 #[.int .u8 n0] w Q :=
  callF_of (fun _ _ => by kernel_rfl) (callK_of_sw field_Inv_tt Tryz.func190 rfl (by kernel_rfl) (show sw Tryz.prog none 5 field_Inv_tt _ 0 (endK Tryz.prog [.tmp 2] Q) ⟨regs [.int .u8 n0], []⟩ w from
    Eq.mp (by kernel_rfl : field_Inv n0 w Q = sw Tryz.prog none 5 field_Inv_tt (Tryz.f190.body.getD .skip) 0 (endK Tryz.prog [.tmp 2] Q) ⟨regs [.int .u8 n0], []⟩ w) h))

def field_Sum (p0 : Option Addr) (l0 : Nat) (c0 : Nat) (w : World) (Q : Value → World → Prop) : Prop :=
  LoopS [.int .u8 0, .int .u8 0, .slice p0 l0 c0, .int .i64 ((l0 : Nat) : Int), .int .i64 0] w fun I1 μ1 us1 _ wl1 =>
  ∃ (n2 : Int) (n3 : Int) (p6 : Option Addr) (l6 : Nat) (c6 : Nat) (n7 : Int) (n8 : Int), us1 = [.int .u8 n2, .int .u8 n3, .slice p6 l6 c6, .int .i64 n7, .int .i64 n8] ∧
  cond (decide (n8 < n7))
  (∃ (a10 : Addr), IxA Tryz.prog 22 (.slice p6 l6 c6) (.int .i64 n8) a10 ∧
    ∃ (n11 : Int), Ld Tryz.prog 5 (.pointer (some a10)) wl1 (.int .u8 n11) ∧
    goesOn [] [] I1 μ1 us1 [.int .u8 n2, .int .u8 (ixor .u8 n3 n11), .slice p6 l6 c6, .int .i64 n7, .int .i64 (IntKind.i64.wrap (n8 + 1))] wl1 wl1)
  (Q (.int .u8 n3) wl1)
def field_Sum_tt : Nat → List (Nat × TypeId) := fun n => match n with | 0 => [(2, 5), (3, 5), (6, 22), (7, 3), (8, 3)] | _ => []
theorem field_Sum_call (p0 : Option Addr) (l0 : Nat) (c0 : Nat) (w : World) (Q : Value → World → Prop) (h : field_Sum p0 l0 c0 w Q) : callF Tryz.prog 191 #[.slice p0 l0 c0] w Q :=
  callF_of (fun _ _ => by kernel_rfl) (callK_of_sw field_Sum_tt Tryz.func191 rfl (by kernel_rfl) (show sw Tryz.prog none 17 field_Sum_tt _ 0 (endK Tryz.prog [.tmp 2] Q) ⟨regs [.slice p0 l0 c0], []⟩ w from
    Eq.mp (by kernel_rfl : field_Sum p0 l0 c0 w Q = sw Tryz.prog none 17 field_Sum_tt (Tryz.f191.body.getD .skip) 0 (endK Tryz.prog [.tmp 2] Q) ⟨regs [.slice p0 l0 c0], []⟩ w) h))

def field_turned (n0 : Int) (n1 : Int) (w : World) (Q : Value → World → Prop) : Prop :=
  Drw w fun w1 =>
  ∃ (n7 : Int), Pu Tryz.prog (do eqGuard .shl 5 (.tmp 5) (.tmp 6) (.int .u8 n0) (.int .i64 n1); binOp .shl 5 (.int .u8 n0) (.int .i64 n1) : Sem Value) (.int .u8 n7) ∧
  ∃ (n11 : Int), Pu Tryz.prog (do eqGuard .shr 5 (.tmp 8) (.tmp 10) (.int .u8 n0) (.int .i64 (IntKind.i64.wrap (8 - n1))); binOp .shr 5 (.int .u8 n0) (.int .i64 (IntKind.i64.wrap (8 - n1))) : Sem Value) (.int .u8 n11) ∧
  Q (.int .u8 (ior .u8 n7 n11)) w1
def field_turned_tt : Nat → List (Nat × TypeId) := fun _ => []
theorem field_turned_call (n0 : Int) (n1 : Int) (w : World) (Q : Value → World → Prop) (h : field_turned n0 n1 w Q) : callF Tryz.prog 192 #[.int .u8 n0, .int .i64 n1] w Q :=
  callF_of (fun _ _ => by kernel_rfl) (callK_of_sw field_turned_tt Tryz.func192 rfl (by kernel_rfl) (show sw Tryz.prog none 13 field_turned_tt _ 0 (endK Tryz.prog [.tmp 4] Q) ⟨regs [.int .u8 n0, .int .i64 n1], []⟩ w from
    Eq.mp (by kernel_rfl : field_turned n0 n1 w Q = sw Tryz.prog none 13 field_turned_tt (Tryz.f192.body.getD .skip) 0 (endK Tryz.prog [.tmp 4] Q) ⟨regs [.int .u8 n0, .int .i64 n1], []⟩ w) h))
end Go.Sh
end

section
namespace Go.Sh
open Go Go.Fw Go.Proofs
set_option maxRecDepth 100000
set_option linter.unusedVariables false

def aes_New_j1 (I1 : Inv) (μ1 : Meas) (us1 : List Value) (wl1 : World) (p0 : Option Addr) (l0 : Nat) (c0 : Nat) (p2 : Option Addr) (n3 : Int) (a4 : Addr) (a5 : Addr) (n6 : Int) (a7 : Addr) (n17 : Int) (w : World) (Q : Value → World → Prop) : Prop :=
  ∃ (S13 : World → Prop),
  Drw w fun w1 =>
  ∃ (a45 : Addr), IxA Tryz.prog 149 (.pointer (some a5)) (.int .i64 (IntKind.i64.wrap (n6 - 4))) a45 ∧
  ∃ (cs46 : Array Value), HLd Tryz.prog S13 148 (.pointer (some a45)) w1 (.agg cs46) ∧
  ∃ (cs47 : Array Value), Ld Tryz.prog 148 (.pointer (some a7)) w1 (.agg cs47) ∧
  (w1 = w1 ∨ S13 w1) ∧
  callF Tryz.prog 88 #[.agg cs46, .agg cs47] w1 fun r48 w2 =>
  ∃ (cs48 : Array Value), r48 = .agg cs48 ∧
  ∃ (a49 : Addr), IxA Tryz.prog 149 (.pointer (some a5)) (.int .i64 n6) a49 ∧
  ∃ (w3 : World), Sto Tryz.prog 148 (.pointer (some a49)) (.agg cs48) w2 w3 ∧
  goesOn [] [] I1 μ1 us1 [.slice p0 l0 c0, .pointer p2, .int .i64 n3, .pointer (some a4), .pointer (some a5), .int .i64 (IntKind.i64.wrap (n17 + 1))] wl1 w3
def aes_New_j2 (p2 : Option Addr) (n3 : Int) (a4 : Addr) (a5 : Addr) (w : World) (Q : Value → World → Prop) : Prop :=
  ∃ (cs51 : Array Value), Ld Tryz.prog 149 (.pointer (some a5)) w (.agg cs51) ∧
  LoopS [.pointer p2, .int .i64 n3, .pointer (some a4), .agg cs51, .int .i64 0] w fun I2 μ2 us2 _ wl2 =>
  ∃ (p2_1 : Option Addr) (n3_1 : Int) (a4_1 : Addr) (cs51_1 : Array Value) (n52 : Int), us2 = [.pointer p2_1, .int .i64 n3_1, .pointer (some a4_1), .agg cs51_1, .int .i64 n52] ∧
  cond (decide (n52 < 44))
  (∃ (cs55 : Array Value), Pu Tryz.prog (Instr.index 149 (.agg cs51_1) (.int .i64 n52)) (.agg cs55) ∧
    ∃ (z9 : Value), Pu Tryz.prog (zeroValue 148) z9 ∧
    New z9.cells 148 wl2 fun k9 w1 =>
    ∃ (w2 : World), Sto Tryz.prog 148 (.pointer (some (⟨k9, 0, none⟩ : Addr))) (.agg cs55) w1 w2 ∧
    Drw w2 fun w3 =>
    ∃ (a59 : Addr), some a4_1 = some a59 ∧
    ∃ (a61 : Addr), IxA Tryz.prog 144 (.pointer (some (a59.add 1))) (.int .i64 (IntKind.i64.wrap (Int.tdiv n52 4))) a61 ∧
    ∃ (p65 : Option Addr) (l65 : Nat) (c65 : Nat), Pu Tryz.prog (Instr.sliceAt 143 (.pointer (some a61)) (some (.int .i64 (IntKind.i64.wrap (4 * (Int.tmod n52 4))))) none none) (.slice p65 l65 c65) ∧
    ∃ (p66 : Option Addr) (l66 : Nat) (c66 : Nat), Pu Tryz.prog (Instr.sliceAt 148 (.pointer (some (⟨k9, 0, none⟩ : Addr))) none none none) (.slice p66 l66 c66) ∧
    ∃ (n67 : Int) (w4 : World), Ef Tryz.prog (Builtin.copy_ #[22, 22] 3 #[.slice p65 l65 c65, .slice p66 l66 c66]) w3 (.int .i64 n67) w4 ∧
    goesOn [] [] I2 μ2 us2 [.pointer p2_1, .int .i64 n3_1, .pointer (some a4_1), .agg cs51_1, .int .i64 (IntKind.i64.wrap (n52 + 1))] wl2 w4)
  (Q (.tuple #[.pointer (some a4_1), .int .i64 0]) wl2)
def aes_New (p0 : Option Addr) (l0 : Nat) (c0 : Nat) (w : World) (Q : Value → World → Prop) : Prop :=
  cond (((l0 : Nat) : Int) != 16)
  (Q (.tuple #[.pointer none, .int .i64 11]) w)
  (∃ (p13 : Option Addr) (l13 : Nat) (c13 : Nat) (w1 : World), Ef Tryz.prog (Instr.buildSlice 22 6 #[(0, .int .u8 2), (1, .int .u8 3), (2, .int .u8 9), (3, .int .u8 11), (4, .int .u8 13), (5, .int .u8 14)]) w (.slice p13 l13 c13) w1 ∧
    callF Tryz.prog 86 #[.slice p13 l13 c13] w1 fun r14 w2 =>
    ∃ (p14 : Option Addr), r14 = .pointer p14 ∧
    New #[.pointer p14, .int .u8 0, .int .u8 0, .int .u8 0, .int .u8 0, .int .u8 0, .int .u8 0, .int .u8 0, .int .u8 0, .int .u8 0, .int .u8 0, .int .u8 0, .int .u8 0, .int .u8 0, .int .u8 0, .int .u8 0, .int .u8 0, .int .u8 0, .int .u8 0, .int .u8 0, .int .u8 0, .int .u8 0, .int .u8 0, .int .u8 0, .int .u8 0, .int .u8 0, .int .u8 0, .int .u8 0, .int .u8 0, .int .u8 0, .int .u8 0, .int .u8 0, .int .u8 0, .int .u8 0, .int .u8 0, .int .u8 0, .int .u8 0, .int .u8 0, .int .u8 0, .int .u8 0, .int .u8 0, .int .u8 0, .int .u8 0, .int .u8 0, .int .u8 0, .int .u8 0, .int .u8 0, .int .u8 0, .int .u8 0, .int .u8 0, .int .u8 0, .int .u8 0, .int .u8 0, .int .u8 0, .int .u8 0, .int .u8 0, .int .u8 0, .int .u8 0, .int .u8 0, .int .u8 0, .int .u8 0, .int .u8 0, .int .u8 0, .int .u8 0, .int .u8 0, .int .u8 0, .int .u8 0, .int .u8 0, .int .u8 0, .int .u8 0, .int .u8 0, .int .u8 0, .int .u8 0, .int .u8 0, .int .u8 0, .int .u8 0, .int .u8 0, .int .u8 0, .int .u8 0, .int .u8 0, .int .u8 0, .int .u8 0, .int .u8 0, .int .u8 0, .int .u8 0, .int .u8 0, .int .u8 0, .int .u8 0, .int .u8 0, .int .u8 0, .int .u8 0, .int .u8 0, .int .u8 0, .int .u8 0, .int .u8 0, .int .u8 0, .int .u8 0, .int .u8 0, .int .u8 0, .int .u8 0, .int .u8 0, .int .u8 0, .int .u8 0, .int .u8 0, .int .u8 0, .int .u8 0, .int .u8 0, .int .u8 0, .int .u8 0, .int .u8 0, .int .u8 0, .int .u8 0, .int .u8 0, .int .u8 0, .int .u8 0, .int .u8 0, .int .u8 0, .int .u8 0, .int .u8 0, .int .u8 0, .int .u8 0, .int .u8 0, .int .u8 0, .int .u8 0, .int .u8 0, .int .u8 0, .int .u8 0, .int .u8 0, .int .u8 0, .int .u8 0, .int .u8 0, .int .u8 0, .int .u8 0, .int .u8 0, .int .u8 0, .int .u8 0, .int .u8 0, .int .u8 0, .int .u8 0, .int .u8 0, .int .u8 0, .int .u8 0, .int .u8 0, .int .u8 0, .int .u8 0, .int .u8 0, .int .u8 0, .int .u8 0, .int .u8 0, .int .u8 0, .int .u8 0, .int .u8 0, .int .u8 0, .int .u8 0, .int .u8 0, .int .u8 0, .int .u8 0, .int .u8 0, .int .u8 0, .int .u8 0, .int .u8 0, .int .u8 0, .int .u8 0, .int .u8 0, .int .u8 0, .int .u8 0, .int .u8 0, .int .u8 0, .int .u8 0, .int .u8 0, .int .u8 0, .int .u8 0, .int .u8 0, .int .u8 0, .int .u8 0, .int .u8 0, .int .u8 0, .int .i64 0] 146 w2 fun k16 w3 =>
    ∃ (z5 : Value), Pu Tryz.prog (zeroValue 149) z5 ∧
    New z5.cells 149 w3 fun k5 w4 =>
    LoopS [.slice p0 l0 c0, .pointer none, .int .i64 0, .pointer (some (⟨k16, 0, none⟩ : Addr)), .pointer (some (⟨k5, 0, none⟩ : Addr)), .int .i64 0] w4 fun I1 μ1 us1 _ wl1 =>
    ∃ (p0_1 : Option Addr) (l0_1 : Nat) (c0_1 : Nat) (p2 : Option Addr) (n3 : Int) (a4 : Addr) (a5 : Addr) (n17 : Int), us1 = [.slice p0_1 l0_1 c0_1, .pointer p2, .int .i64 n3, .pointer (some a4), .pointer (some a5), .int .i64 n17] ∧
    cond (decide (n17 < 44))
    (cond (decide (n17 < 4))
      (∃ (p26 : Option Addr) (l26 : Nat) (c26 : Nat), Pu Tryz.prog (Instr.sliceAt 22 (.slice p0_1 l0_1 c0_1) (some (.int .i64 (IntKind.i64.wrap (4 * n17)))) none none) (.slice p26 l26 c26) ∧
        ∃ (p27 : Option Addr), Pu Tryz.prog (Instr.arrayAt 148 (.slice p26 l26 c26)) (.pointer p27) ∧
        ∃ (cs28 : Array Value), Ld Tryz.prog 148 (.pointer p27) wl1 (.agg cs28) ∧
        ∃ (a29 : Addr), IxA Tryz.prog 149 (.pointer (some a5)) (.int .i64 n17) a29 ∧
        ∃ (w5 : World), Sto Tryz.prog 148 (.pointer (some a29)) (.agg cs28) wl1 w5 ∧
        goesOn [] [] I1 μ1 us1 [.slice p0_1 l0_1 c0_1, .pointer p2, .int .i64 n3, .pointer (some a4), .pointer (some a5), .int .i64 (IntKind.i64.wrap (n17 + 1))] wl1 w5)
      (∃ (a32 : Addr), IxA Tryz.prog 149 (.pointer (some a5)) (.int .i64 (IntKind.i64.wrap (n17 - 1))) a32 ∧
        ∃ (cs33 : Array Value), Ld Tryz.prog 148 (.pointer (some a32)) wl1 (.agg cs33) ∧
        ∃ (z7 : Value), Pu Tryz.prog (zeroValue 148) z7 ∧
        New z7.cells 148 wl1 fun k7 w6 =>
        ∃ (w7 : World), Sto Tryz.prog 148 (.pointer (some (⟨k7, 0, none⟩ : Addr))) (.agg cs33) w6 w7 ∧
        cond ((Int.tmod n17 4) == 0)
        (∃ (cs38 : Array Value), Ld Tryz.prog 148 (.pointer (some (⟨k7, 0, none⟩ : Addr))) w7 (.agg cs38) ∧
          callF Tryz.prog 87 #[.pointer (some a4), .agg cs38, .int .i64 (IntKind.i64.wrap (Int.tdiv n17 4))] w7 fun r41 w8 =>
          ∃ (cs41 : Array Value), r41 = .agg cs41 ∧
          ∃ (w9 : World), Sto Tryz.prog 148 (.pointer (some (⟨k7, 0, none⟩ : Addr))) (.agg cs41) w8 w9 ∧
          aes_New_j1 I1 μ1 us1 wl1 p0_1 l0_1 c0_1 p2 n3 a4 a5 n17 (⟨k7, 0, none⟩ : Addr) n17 w9 Q)
        (aes_New_j1 I1 μ1 us1 wl1 p0_1 l0_1 c0_1 p2 n3 a4 a5 n17 (⟨k7, 0, none⟩ : Addr) n17 w7 Q)))
    (aes_New_j2 p2 n3 a4 a5 wl1 Q))
def aes_New_tt : Nat → List (Nat × TypeId) := fun n => match n with | 0 => [(0, 22), (2, 86), (3, 26), (4, 1000000), (5, 1000000), (17, 3)] | 2 => [(2, 86), (3, 26), (4, 1000000), (51, 149), (52, 3)] | _ => []
theorem aes_New_call (p0 : Option Addr) (l0 : Nat) (c0 : Nat) (w : World) (Q : Value → World → Prop) (h : aes_New p0 l0 c0 w Q) : callF Tryz.prog 41 #[.slice p0 l0 c0] w Q :=
  callF_of (fun _ _ => by kernel_rfl) (callK_of_sw aes_New_tt Tryz.func41 rfl (by kernel_rfl) (show sw Tryz.prog none 70 aes_New_tt _ 0 (endK Tryz.prog [.tmp 2, .tmp 3] Q) ⟨regs [.slice p0 l0 c0], []⟩ w from
    Eq.mp (by kernel_rfl : aes_New p0 l0 c0 w Q = sw Tryz.prog none 70 aes_New_tt (Tryz.f41.body.getD .skip) 0 (endK Tryz.prog [.tmp 2, .tmp 3] Q) ⟨regs [.slice p0 l0 c0], []⟩ w) h))

def aes_Cipher_Encrypt_j1 (I1 : Inv) (μ1 : Meas) (us1 : List Value) (wl1 : World) (p0 : Option Addr) (p4 : Option Addr) (l4 : Nat) (c4 : Nat) (n5 : Int) (a6 : Addr) (n7 : Int) (w : World) (Q : Value → World → Prop) : Prop :=
  ∃ (a43 : Addr), p0 = some a43 ∧
  ∃ (a45 : Addr), IxA Tryz.prog 144 (.pointer (some (a43.add 1))) (.int .i64 n7) a45 ∧
  ∃ (cs46 : Array Value), Ld Tryz.prog 143 (.pointer (some a45)) w (.agg cs46) ∧
  callF Tryz.prog 89 #[.pointer (some a6), .agg cs46] w fun r47 w1 =>
  r47 = .tuple #[] ∧
  goesOn [] [] I1 μ1 us1 [.pointer p0, .slice p4 l4 c4, .int .i64 n5, .pointer (some a6), .int .i64 (IntKind.i64.wrap (n7 + 1))] wl1 w1
def aes_Cipher_Encrypt (p0 : Option Addr) (p1 : Option Addr) (l1 : Nat) (c1 : Nat) (w : World) (Q : Value → World → Prop) : Prop :=
  cond (((l1 : Nat) : Int) != 16)
  (Q (.tuple #[.slice none 0 0, .int .i64 11]) w)
  (∃ (a12 : Addr), p0 = some a12 ∧
    callF Tryz.prog 59 #[.pointer (some (a12.add 177)), .int .i64 1] w fun r14 w1 =>
    ∃ (n14 : Int), r14 = .int .i64 n14 ∧
    ∃ (p16 : Option Addr), Pu Tryz.prog (Instr.arrayAt 143 (.slice p1 l1 c1)) (.pointer p16) ∧
    ∃ (cs17 : Array Value), Ld Tryz.prog 143 (.pointer p16) w1 (.agg cs17) ∧
    ∃ (z6 : Value), Pu Tryz.prog (zeroValue 143) z6 ∧
    New z6.cells 143 w1 fun k6 w2 =>
    ∃ (w3 : World), Sto Tryz.prog 143 (.pointer (some (⟨k6, 0, none⟩ : Addr))) (.agg cs17) w2 w3 ∧
    ∃ (a19 : Addr), p0 = some a19 ∧
    ∃ (a21 : Addr), IxA Tryz.prog 144 (.pointer (some (a19.add 1))) (.int .i64 0) a21 ∧
    ∃ (cs22 : Array Value), Ld Tryz.prog 143 (.pointer (some a21)) w3 (.agg cs22) ∧
    callF Tryz.prog 89 #[.pointer (some (⟨k6, 0, none⟩ : Addr)), .agg cs22] w3 fun r23 w4 =>
    r23 = .tuple #[] ∧
    LoopS [.pointer p0, .slice none 0 0, .int .i64 0, .pointer (some (⟨k6, 0, none⟩ : Addr)), .int .i64 1] w4 fun I1 μ1 us1 _ wl1 =>
    ∃ (p0_1 : Option Addr) (p4 : Option Addr) (l4 : Nat) (c4 : Nat) (n5 : Int) (a6 : Addr) (n7 : Int), us1 = [.pointer p0_1, .slice p4 l4 c4, .int .i64 n5, .pointer (some a6), .int .i64 n7] ∧
    cond (decide (n7 ≤ 10))
    (∃ (a29 : Addr), p0_1 = some a29 ∧
      ∃ (p31 : Option Addr), Ld Tryz.prog 141 (.pointer (some (a29.add 0))) wl1 (.pointer p31) ∧
      callF Tryz.prog 90 #[.pointer (some a6), .func (.func 91) #[.pointer p31] #[]] wl1 fun r33 w5 =>
      r33 = .tuple #[] ∧
      callF Tryz.prog 92 #[.pointer (some a6), .int .i64 1] w5 fun r34 w6 =>
      r34 = .tuple #[] ∧
      cond (decide (n7 < 10))
      (callF Tryz.prog 93 #[.pointer (some a6), .func (.func 94) #[.pointer p0_1] #[], .agg #[.int .i64 0, .int .i64 1, .int .i64 (-1), .int .i64 (-1)]] w6 fun r40 w7 =>
        r40 = .tuple #[] ∧
        aes_Cipher_Encrypt_j1 I1 μ1 us1 wl1 p0_1 p4 l4 c4 n5 a6 n7 w7 Q)
      (aes_Cipher_Encrypt_j1 I1 μ1 us1 wl1 p0_1 p4 l4 c4 n5 a6 n7 w6 Q))
    (∃ (p48 : Option Addr) (l48 : Nat) (c48 : Nat), Pu Tryz.prog (Instr.sliceAt 143 (.pointer (some a6)) none none none) (.slice p48 l48 c48) ∧
      Q (.tuple #[.slice p48 l48 c48, .int .i64 0]) wl1))
def aes_Cipher_Encrypt_tt : Nat → List (Nat × TypeId) := fun n => match n with | 0 => [(0, 86), (4, 22), (5, 26), (6, 1000000), (7, 3)] | _ => []
theorem aes_Cipher_Encrypt_call (p0 : Option Addr) (p1 : Option Addr) (l1 : Nat) (c1 : Nat) (w : World) (Q : Value → World → Prop) (h : aes_Cipher_Encrypt p0 p1 l1 c1 w Q) : callF Tryz.prog 42 #[.pointer p0, .slice p1 l1 c1] w Q :=
  callF_of (fun _ _ => by kernel_rfl) (callK_of_sw aes_Cipher_Encrypt_tt Tryz.func42 rfl (by kernel_rfl) (show sw Tryz.prog none 49 aes_Cipher_Encrypt_tt _ 0 (endK Tryz.prog [.tmp 4, .tmp 5] Q) ⟨regs [.pointer p0, .slice p1 l1 c1], []⟩ w from
    Eq.mp (by kernel_rfl : aes_Cipher_Encrypt p0 p1 l1 c1 w Q = sw Tryz.prog none 49 aes_Cipher_Encrypt_tt (Tryz.f42.body.getD .skip) 0 (endK Tryz.prog [.tmp 4, .tmp 5] Q) ⟨regs [.pointer p0, .slice p1 l1 c1], []⟩ w) h))

def aes_Cipher_turned_j1 (n2 : Int) (a6 : Addr) (a7 : Addr) (w : World) (Q : Value → World → Prop) : Prop :=
  ∃ (S7 : World → Prop),
  Drw w fun w1 =>
  ∃ (a33 : Addr), IxA Tryz.prog 148 (.pointer (some a7)) (.int .i64 0) a33 ∧
  ∃ (n34 : Int), HLd Tryz.prog S7 5 (.pointer (some a33)) w1 (.int .u8 n34) ∧
  callF Tryz.prog 131 #[.int .u8 2, .int .u64 (IntKind.u64.wrap (IntKind.i64.wrap (n2 - 1)))] w1 fun r38 w2 =>
  ∃ (n38 : Int), r38 = .int .u8 n38 ∧
  (w2 = w1 ∨ S7 w2) ∧
  ∃ (a40 : Addr), IxA Tryz.prog 148 (.pointer (some a7)) (.int .i64 0) a40 ∧
  ∃ (w3 : World), Sto Tryz.prog 5 (.pointer (some a40)) (.int .u8 (ixor .u8 n34 n38)) w2 w3 ∧
  ∃ (cs41 : Array Value), Ld Tryz.prog 148 (.pointer (some a7)) w3 (.agg cs41) ∧
  ∃ (w4 : World), Sto Tryz.prog 148 (.pointer (some a6)) (.agg cs41) w3 w4 ∧
  ∃ (a6_1 : Addr) (v6 : Value), (.pointer (some a6) : Value) = .pointer (some a6_1) ∧ (loadVar 148 a6_1).run Tryz.prog w4 = .ok v6 w4 ∧
  Q (v6) w4
def aes_Cipher_turned (p0 : Option Addr) (cs1 : Array Value) (n2 : Int) (w : World) (Q : Value → World → Prop) : Prop :=
  New cs1 148 w fun k4 w1 =>
  ∃ (z6 : Value), Pu Tryz.prog (zeroValue 148) z6 ∧
  New z6.cells 148 w1 fun k6 w2 =>
  ∃ (a10 : Addr), IxA Tryz.prog 148 (.pointer (some (⟨k4, 0, none⟩ : Addr))) (.int .i64 1) a10 ∧
  ∃ (n11 : Int), Ld Tryz.prog 5 (.pointer (some a10)) w2 (.int .u8 n11) ∧
  ∃ (a12 : Addr), IxA Tryz.prog 148 (.pointer (some (⟨k4, 0, none⟩ : Addr))) (.int .i64 2) a12 ∧
  ∃ (n13 : Int), Ld Tryz.prog 5 (.pointer (some a12)) w2 (.int .u8 n13) ∧
  ∃ (a14 : Addr), IxA Tryz.prog 148 (.pointer (some (⟨k4, 0, none⟩ : Addr))) (.int .i64 3) a14 ∧
  ∃ (n15 : Int), Ld Tryz.prog 5 (.pointer (some a14)) w2 (.int .u8 n15) ∧
  ∃ (a16 : Addr), IxA Tryz.prog 148 (.pointer (some (⟨k4, 0, none⟩ : Addr))) (.int .i64 0) a16 ∧
  ∃ (n17 : Int), Ld Tryz.prog 5 (.pointer (some a16)) w2 (.int .u8 n17) ∧
  ∃ (z7 : Value), Pu Tryz.prog (zeroValue 148) z7 ∧
  New z7.cells 148 w2 fun k7 w3 =>
  ∃ (w4 : World), Sto Tryz.prog 148 (.pointer (some (⟨k7, 0, none⟩ : Addr))) (.agg #[.int .u8 n11, .int .u8 n13, .int .u8 n15, .int .u8 n17]) w3 w4 ∧
  ∃ (cs19 : Array Value), Ld Tryz.prog 148 (.pointer (some (⟨k7, 0, none⟩ : Addr))) w4 (.agg cs19) ∧
  LoopS [.pointer p0, .int .i64 n2, .pointer (some (⟨k6, 0, none⟩ : Addr)), .pointer (some (⟨k7, 0, none⟩ : Addr)), .agg cs19, .int .i64 0] w4 fun I1 μ1 us1 _ wl1 =>
  ∃ (p0_1 : Option Addr) (n2_1 : Int) (a6 : Addr) (a7 : Addr) (cs19_1 : Array Value) (n20 : Int), us1 = [.pointer p0_1, .int .i64 n2_1, .pointer (some a6), .pointer (some a7), .agg cs19_1, .int .i64 n20] ∧
  cond (decide (n20 < 4))
  (∃ (n23 : Int), Pu Tryz.prog (Instr.index 148 (.agg cs19_1) (.int .i64 n20)) (.int .u8 n23) ∧
    ∃ (a26 : Addr), p0_1 = some a26 ∧
    ∃ (p28 : Option Addr), Ld Tryz.prog 141 (.pointer (some (a26.add 0))) wl1 (.pointer p28) ∧
    callF Tryz.prog 91 #[.pointer p28, .int .u8 n23] wl1 fun r30 w5 =>
    ∃ (n30 : Int), r30 = .int .u8 n30 ∧
    ∃ (a31 : Addr), IxA Tryz.prog 148 (.pointer (some a7)) (.int .i64 n20) a31 ∧
    ∃ (w6 : World), Sto Tryz.prog 5 (.pointer (some a31)) (.int .u8 n30) w5 w6 ∧
    goesOn [] [] I1 μ1 us1 [.pointer p0_1, .int .i64 n2_1, .pointer (some a6), .pointer (some a7), .agg cs19_1, .int .i64 (IntKind.i64.wrap (n20 + 1))] wl1 w6)
  (aes_Cipher_turned_j1 n2_1 a6 a7 wl1 Q)
def aes_Cipher_turned_tt : Nat → List (Nat × TypeId) := fun n => match n with | 0 => [(0, 86), (2, 3), (6, 1000000), (7, 1000000), (19, 148), (20, 3)] | _ => []
theorem aes_Cipher_turned_call (p0 : Option Addr) (cs1 : Array Value) (n2 : Int) (w : World) (Q : Value → World → Prop) (h : aes_Cipher_turned p0 cs1 n2 w Q) : callF Tryz.prog 87 #[.pointer p0, .agg cs1, .int .i64 n2] w Q :=
  callF_of (fun _ _ => by kernel_rfl) (callK_of_sw aes_Cipher_turned_tt Tryz.func87 rfl (by kernel_rfl) (show sw Tryz.prog none 42 aes_Cipher_turned_tt _ 0 (endK Tryz.prog [.cell 6 148] Q) ⟨regs [.pointer p0, .agg cs1, .int .i64 n2], []⟩ w from
    Eq.mp (by kernel_rfl : aes_Cipher_turned p0 cs1 n2 w Q = sw Tryz.prog none 42 aes_Cipher_turned_tt (Tryz.f87.body.getD .skip) 0 (endK Tryz.prog [.cell 6 148] Q) ⟨regs [.pointer p0, .agg cs1, .int .i64 n2], []⟩ w) h))

def aes_word_plus_j1 (a2 : Addr) (a4 : Addr) (w : World) (Q : Value → World → Prop) : Prop :=
  ∃ (cs18 : Array Value), Ld Tryz.prog 148 (.pointer (some a2)) w (.agg cs18) ∧
  ∃ (w1 : World), Sto Tryz.prog 148 (.pointer (some a4)) (.agg cs18) w w1 ∧
  ∃ (a4_1 : Addr) (v4 : Value), (.pointer (some a4) : Value) = .pointer (some a4_1) ∧ (loadVar 148 a4_1).run Tryz.prog w1 = .ok v4 w1 ∧
  Q (v4) w1
def aes_word_plus (cs0 : Array Value) (cs1 : Array Value) (w : World) (Q : Value → World → Prop) : Prop :=
  New cs0 148 w fun k2 w1 =>
  New cs1 148 w1 fun k3 w2 =>
  ∃ (z4 : Value), Pu Tryz.prog (zeroValue 148) z4 ∧
  New z4.cells 148 w2 fun k4 w3 =>
  LoopS [.pointer (some (⟨k2, 0, none⟩ : Addr)), .pointer (some (⟨k3, 0, none⟩ : Addr)), .pointer (some (⟨k4, 0, none⟩ : Addr)), .int .i64 0] w3 fun I1 μ1 us1 _ wl1 =>
  ∃ (a2 : Addr) (a3 : Addr) (a4 : Addr) (n6 : Int), us1 = [.pointer (some a2), .pointer (some a3), .pointer (some a4), .int .i64 n6] ∧
  cond (decide (n6 < 4))
  (∃ (S4 : World → Prop),
    Drw wl1 fun w4 =>
    ∃ (a10 : Addr), IxA Tryz.prog 148 (.pointer (some a2)) (.int .i64 n6) a10 ∧
    ∃ (a13 : Addr), IxA Tryz.prog 148 (.pointer (some a3)) (.int .i64 n6) a13 ∧
    ∃ (n11 : Int), HLd Tryz.prog S4 5 (.pointer (some a10)) w4 (.int .u8 n11) ∧
    ∃ (n14 : Int), Ld Tryz.prog 5 (.pointer (some a13)) w4 (.int .u8 n14) ∧
    (w4 = w4 ∨ S4 w4) ∧
    ∃ (a16 : Addr), IxA Tryz.prog 148 (.pointer (some a2)) (.int .i64 n6) a16 ∧
    ∃ (w5 : World), Sto Tryz.prog 5 (.pointer (some a16)) (.int .u8 (ixor .u8 n11 n14)) w4 w5 ∧
    goesOn [] [] I1 μ1 us1 [.pointer (some a2), .pointer (some a3), .pointer (some a4), .int .i64 (IntKind.i64.wrap (n6 + 1))] wl1 w5)
  (aes_word_plus_j1 a2 a4 wl1 Q)
def aes_word_plus_tt : Nat → List (Nat × TypeId) := fun n => match n with | 0 => [(2, 1000000), (3, 1000000), (4, 1000000), (6, 3)] | _ => []
theorem aes_word_plus_call (cs0 : Array Value) (cs1 : Array Value) (w : World) (Q : Value → World → Prop) (h : aes_word_plus cs0 cs1 w Q) : callF Tryz.prog 88 #[.agg cs0, .agg cs1] w Q :=
  callF_of (fun _ _ => by kernel_rfl) (callK_of_sw aes_word_plus_tt Tryz.func88 rfl (by kernel_rfl) (show sw Tryz.prog none 19 aes_word_plus_tt _ 0 (endK Tryz.prog [.cell 4 148] Q) ⟨regs [.agg cs0, .agg cs1], []⟩ w from
    Eq.mp (by kernel_rfl : aes_word_plus cs0 cs1 w Q = sw Tryz.prog none 19 aes_word_plus_tt (Tryz.f88.body.getD .skip) 0 (endK Tryz.prog [.cell 4 148] Q) ⟨regs [.agg cs0, .agg cs1], []⟩ w) h))

def aes_block_add (p0 : Option Addr) (cs1 : Array Value) (w : World) (Q : Value → World → Prop) : Prop :=
  New cs1 143 w fun k3 w1 =>
  LoopS [.pointer p0, .pointer (some (⟨k3, 0, none⟩ : Addr)), .int .i64 0] w1 fun I1 μ1 us1 _ wl1 =>
  ∃ (p0_1 : Option Addr) (a3 : Addr) (n5 : Int), us1 = [.pointer p0_1, .pointer (some a3), .int .i64 n5] ∧
  cond (decide (n5 < 16))
  (∃ (S4 : World → Prop),
    Drw wl1 fun w2 =>
    ∃ (a10 : Addr), p0_1 = some a10 ∧
    ∃ (a11 : Addr), IxA Tryz.prog 143 (.pointer (some a10)) (.int .i64 n5) a11 ∧
    ∃ (a14 : Addr), IxA Tryz.prog 143 (.pointer (some a3)) (.int .i64 n5) a14 ∧
    ∃ (a17 : Addr), p0_1 = some a17 ∧
    ∃ (n12 : Int), HLd Tryz.prog S4 5 (.pointer (some a11)) w2 (.int .u8 n12) ∧
    ∃ (n15 : Int), Ld Tryz.prog 5 (.pointer (some a14)) w2 (.int .u8 n15) ∧
    (w2 = w2 ∨ S4 w2) ∧
    ∃ (a18 : Addr), IxA Tryz.prog 143 (.pointer (some a17)) (.int .i64 n5) a18 ∧
    ∃ (w3 : World), Sto Tryz.prog 5 (.pointer (some a18)) (.int .u8 (ixor .u8 n12 n15)) w2 w3 ∧
    goesOn [] [] I1 μ1 us1 [.pointer p0_1, .pointer (some a3), .int .i64 (IntKind.i64.wrap (n5 + 1))] wl1 w3)
  (Q (.tuple #[]) wl1)
def aes_block_add_tt : Nat → List (Nat × TypeId) := fun n => match n with | 0 => [(0, 220), (3, 1000000), (5, 3)] | _ => []
theorem aes_block_add_call (p0 : Option Addr) (cs1 : Array Value) (w : World) (Q : Value → World → Prop) (h : aes_block_add p0 cs1 w Q) : callF Tryz.prog 89 #[.pointer p0, .agg cs1] w Q :=
  callF_of (fun _ _ => by kernel_rfl) (callK_of_sw aes_block_add_tt Tryz.func89 rfl (by kernel_rfl) (show sw Tryz.prog none 20 aes_block_add_tt _ 0 (endK Tryz.prog [] Q) ⟨regs [.pointer p0, .agg cs1], []⟩ w from
    Eq.mp (by kernel_rfl : aes_block_add p0 cs1 w Q = sw Tryz.prog none 20 aes_block_add_tt (Tryz.f89.body.getD .skip) 0 (endK Tryz.prog [] Q) ⟨regs [.pointer p0, .agg cs1], []⟩ w) h))

def aes_block_each (p0 : Option Addr) (v1 : Value) (w : World) (Q : Value → World → Prop) : Prop :=
  LoopS [.pointer p0, v1, .pointer p0, .int .i64 0] w fun I1 μ1 us1 _ wl1 =>
  ∃ (p0_1 : Option Addr) (v1_1 : Value) (p6 : Option Addr) (n7 : Int), us1 = [.pointer p0_1, v1_1, .pointer p6, .int .i64 n7] ∧
  cond (decide (n7 < 16))
  (Drw wl1 fun w1 =>
    ∃ (a10 : Addr), p6 = some a10 ∧
    ∃ (a11 : Addr), IxA Tryz.prog 143 (.pointer (some a10)) (.int .i64 n7) a11 ∧
    ∃ (n12 : Int), Ld Tryz.prog 5 (.pointer (some a11)) w1 (.int .u8 n12) ∧
    Drw w1 fun w2 =>
    ∃ (a18 : Addr), p0_1 = some a18 ∧
    callV Tryz.prog (v1_1) [.int .u8 n12] w2 fun r17 w3 =>
    ∃ (n17 : Int), r17 = .int .u8 n17 ∧
    ∃ (a19 : Addr), IxA Tryz.prog 143 (.pointer (some a18)) (.int .i64 n7) a19 ∧
    ∃ (w4 : World), Sto Tryz.prog 5 (.pointer (some a19)) (.int .u8 n17) w3 w4 ∧
    goesOn [] [] I1 μ1 us1 [.pointer p0_1, v1_1, .pointer p6, .int .i64 (IntKind.i64.wrap (n7 + 1))] wl1 w4)
  (Q (.tuple #[]) wl1)
def aes_block_each_tt : Nat → List (Nat × TypeId) := fun n => match n with | 0 => [(0, 220), (1, 154), (6, 220), (7, 3)] | _ => []
theorem aes_block_each_call (p0 : Option Addr) (v1 : Value) (w : World) (Q : Value → World → Prop) (h : aes_block_each p0 v1 w Q) : callF Tryz.prog 90 #[.pointer p0, v1] w Q :=
  callF_of (fun _ _ => by kernel_rfl) (callK_of_sw aes_block_each_tt Tryz.func90 rfl (by kernel_rfl) (show sw Tryz.prog none 21 aes_block_each_tt _ 0 (endK Tryz.prog [] Q) ⟨regs [.pointer p0, v1], []⟩ w from
    Eq.mp (by kernel_rfl : aes_block_each p0 v1 w Q = sw Tryz.prog none 21 aes_block_each_tt (Tryz.f90.body.getD .skip) 0 (endK Tryz.prog [] Q) ⟨regs [.pointer p0, v1], []⟩ w) h))

def aes_block_rows (p0 : Option Addr) (n1 : Int) (w : World) (Q : Value → World → Prop) : Prop :=
  ∃ (a8 : Addr), p0 = some a8 ∧
  ∃ (cs9 : Array Value), Ld Tryz.prog 143 (.pointer (some a8)) w (.agg cs9) ∧
  ∃ (z4 : Value), Pu Tryz.prog (zeroValue 143) z4 ∧
  New z4.cells 143 w fun k4 w1 =>
  ∃ (w2 : World), Sto Tryz.prog 143 (.pointer (some (⟨k4, 0, none⟩ : Addr))) (.agg cs9) w1 w2 ∧
  LoopS [.pointer p0, .int .i64 n1, .pointer (some (⟨k4, 0, none⟩ : Addr)), .int .i64 0] w2 fun I1 μ1 us1 _ wl1 =>
  ∃ (p0_1 : Option Addr) (n1_1 : Int) (a4 : Addr) (n10 : Int), us1 = [.pointer p0_1, .int .i64 n1_1, .pointer (some a4), .int .i64 n10] ∧
  cond (decide (n10 < 16))
  (Drw wl1 fun w3 =>
    ∃ (a24 : Addr), IxA Tryz.prog 143 (.pointer (some a4)) (.int .i64 (Int.tmod (IntKind.i64.wrap (n10 + (IntKind.i64.wrap ((IntKind.i64.wrap (4 * n1_1)) * (Int.tmod n10 4))))) 16)) a24 ∧
    ∃ (a26 : Addr), p0_1 = some a26 ∧
    ∃ (n25 : Int), Ld Tryz.prog 5 (.pointer (some a24)) w3 (.int .u8 n25) ∧
    ∃ (a27 : Addr), IxA Tryz.prog 143 (.pointer (some a26)) (.int .i64 n10) a27 ∧
    ∃ (w4 : World), Sto Tryz.prog 5 (.pointer (some a27)) (.int .u8 n25) w3 w4 ∧
    goesOn [] [] I1 μ1 us1 [.pointer p0_1, .int .i64 n1_1, .pointer (some a4), .int .i64 (IntKind.i64.wrap (n10 + 1))] wl1 w4)
  (Q (.tuple #[]) wl1)
def aes_block_rows_tt : Nat → List (Nat × TypeId) := fun n => match n with | 0 => [(0, 220), (1, 3), (4, 1000000), (10, 3)] | _ => []
theorem aes_block_rows_call (p0 : Option Addr) (n1 : Int) (w : World) (Q : Value → World → Prop) (h : aes_block_rows p0 n1 w Q) : callF Tryz.prog 92 #[.pointer p0, .int .i64 n1] w Q :=
  callF_of (fun _ _ => by kernel_rfl) (callK_of_sw aes_block_rows_tt Tryz.func92 rfl (by kernel_rfl) (show sw Tryz.prog none 29 aes_block_rows_tt _ 0 (endK Tryz.prog [] Q) ⟨regs [.pointer p0, .int .i64 n1], []⟩ w from
    Eq.mp (by kernel_rfl : aes_block_rows p0 n1 w Q = sw Tryz.prog none 29 aes_block_rows_tt (Tryz.f92.body.getD .skip) 0 (endK Tryz.prog [] Q) ⟨regs [.pointer p0, .int .i64 n1], []⟩ w) h))

def aes_block_columns_j1 (I1 : Inv) (μ1 : Meas) (us1 : List Value) (wl1 : World) (p0 : Option Addr) (v1 : Value) (a5 : Addr) (a6 : Addr) (n7 : Int) (n10 : Int) (n16 : Int) (w : World) (Q : Value → World → Prop) : Prop :=
  ∃ (a46 : Addr), p0 = some a46 ∧
  ∃ (a47 : Addr), IxA Tryz.prog 143 (.pointer (some a46)) (.int .i64 n7) a47 ∧
  ∃ (w1 : World), Sto Tryz.prog 5 (.pointer (some a47)) (.int .u8 n10) w w1 ∧
  goesOn [] [] I1 μ1 us1 [.pointer p0, v1, .pointer (some a5), .pointer (some a6), .int .i64 (IntKind.i64.wrap (n16 + 1))] wl1 w1
def aes_block_columns (p0 : Option Addr) (v1 : Value) (cs2 : Array Value) (w : World) (Q : Value → World → Prop) : Prop :=
  New cs2 158 w fun k5 w1 =>
  ∃ (a14 : Addr), p0 = some a14 ∧
  ∃ (cs15 : Array Value), Ld Tryz.prog 143 (.pointer (some a14)) w1 (.agg cs15) ∧
  ∃ (z6 : Value), Pu Tryz.prog (zeroValue 143) z6 ∧
  New z6.cells 143 w1 fun k6 w2 =>
  ∃ (w3 : World), Sto Tryz.prog 143 (.pointer (some (⟨k6, 0, none⟩ : Addr))) (.agg cs15) w2 w3 ∧
  LoopS [.pointer p0, v1, .pointer (some (⟨k5, 0, none⟩ : Addr)), .pointer (some (⟨k6, 0, none⟩ : Addr)), .int .i64 0] w3 fun I1 μ1 us1 _ wl1 =>
  ∃ (p0_1 : Option Addr) (v1_1 : Value) (a5 : Addr) (a6 : Addr) (n16 : Int), us1 = [.pointer p0_1, v1_1, .pointer (some a5), .pointer (some a6), .int .i64 n16] ∧
  cond (decide (n16 < 16))
  (∃ (cs23 : Array Value), Ld Tryz.prog 158 (.pointer (some a5)) wl1 (.agg cs23) ∧
    LoopS [.pointer p0_1, v1_1, .pointer (some a5), .pointer (some a6), .int .i64 n16, .int .i64 (IntKind.i64.wrap (Int.tdiv n16 4)), .int .i64 (Int.tmod n16 4), .int .u8 0, .int .i64 n16, .agg cs23, .int .i64 0] wl1 fun I2 μ2 us2 _ wl2 =>
    ∃ (p0_2 : Option Addr) (v1_2 : Value) (a5_1 : Addr) (a6_1 : Addr) (n7 : Int) (n8 : Int) (n9 : Int) (n10 : Int) (n16_1 : Int) (cs23_1 : Array Value) (n24 : Int), us2 = [.pointer p0_2, v1_2, .pointer (some a5_1), .pointer (some a6_1), .int .i64 n7, .int .i64 n8, .int .i64 n9, .int .u8 n10, .int .i64 n16_1, .agg cs23_1, .int .i64 n24] ∧
    cond (decide (n24 < 4))
    (∃ (n27 : Int), Pu Tryz.prog (Instr.index 158 (.agg cs23_1) (.int .i64 n24)) (.int .i64 n27) ∧
      ∃ (a38 : Addr), IxA Tryz.prog 143 (.pointer (some a6_1)) (.int .i64 (IntKind.i64.wrap ((IntKind.i64.wrap (4 * n8)) + (Int.tmod (IntKind.i64.wrap (n9 + n24)) 4)))) a38 ∧
      ∃ (n39 : Int), Ld Tryz.prog 5 (.pointer (some a38)) wl2 (.int .u8 n39) ∧
      callV Tryz.prog (v1_2) [.int .i64 n27, .int .u8 n39] wl2 fun r40 w4 =>
      ∃ (n40 : Int), r40 = .int .u8 n40 ∧
      goesOn [] [] I2 μ2 us2 [.pointer p0_2, v1_2, .pointer (some a5_1), .pointer (some a6_1), .int .i64 n7, .int .i64 n8, .int .i64 n9, .int .u8 (ixor .u8 n10 n40), .int .i64 n16_1, .agg cs23_1, .int .i64 (IntKind.i64.wrap (n24 + 1))] wl2 w4)
    (aes_block_columns_j1 I1 μ1 us1 wl1 p0_2 (v1_2) a5_1 a6_1 n7 n10 n16_1 wl2 Q))
  (Q (.tuple #[]) wl1)
def aes_block_columns_tt : Nat → List (Nat × TypeId) := fun n => match n with | 0 => [(0, 220), (1, 157), (5, 1000000), (6, 1000000), (16, 3)] | 2 => [(0, 220), (1, 157), (5, 1000000), (6, 1000000), (7, 3), (8, 3), (9, 3), (10, 5), (16, 3), (23, 158), (24, 3)] | _ => []
theorem aes_block_columns_call (p0 : Option Addr) (v1 : Value) (cs2 : Array Value) (w : World) (Q : Value → World → Prop) (h : aes_block_columns p0 v1 cs2 w Q) : callF Tryz.prog 93 #[.pointer p0, v1, .agg cs2] w Q :=
  callF_of (fun _ _ => by kernel_rfl) (callK_of_sw aes_block_columns_tt Tryz.func93 rfl (by kernel_rfl) (show sw Tryz.prog none 49 aes_block_columns_tt _ 0 (endK Tryz.prog [] Q) ⟨regs [.pointer p0, v1, .agg cs2], []⟩ w from
    Eq.mp (by kernel_rfl : aes_block_columns p0 v1 cs2 w Q = sw Tryz.prog none 49 aes_block_columns_tt (Tryz.f93.body.getD .skip) 0 (endK Tryz.prog [] Q) ⟨regs [.pointer p0, v1, .agg cs2], []⟩ w) h))

def aes_Cipher_times (p0 : Option Addr) (n1 : Int) (n2 : Int) (w : World) (Q : Value → World → Prop) : Prop :=
  cond (n1 == (-1))
  (Q (.int .u8 n2) w)
  (∃ (a14 : Addr), p0 = some a14 ∧
    ∃ (p16 : Option Addr), Ld Tryz.prog 141 (.pointer (some (a14.add 0))) w (.pointer p16) ∧
    callF Tryz.prog 133 #[.pointer p16, .int .i64 n1, .int .u8 n2] w fun r19 w1 =>
    ∃ (n19 : Int) (n19_1 : Int), r19 = .tuple #[.int .u8 n19, .int .i64 n19_1] ∧
    Q (.int .u8 n19) w1)
def aes_Cipher_times_tt : Nat → List (Nat × TypeId) := fun _ => []
theorem aes_Cipher_times_call (p0 : Option Addr) (n1 : Int) (n2 : Int) (w : World) (Q : Value → World → Prop) (h : aes_Cipher_times p0 n1 n2 w Q) : callF Tryz.prog 94 #[.pointer p0, .int .i64 n1, .int .u8 n2] w Q :=
  callF_of (fun _ _ => by kernel_rfl) (callK_of_sw aes_Cipher_times_tt Tryz.func94 rfl (by kernel_rfl) (show sw Tryz.prog none 23 aes_Cipher_times_tt _ 0 (endK Tryz.prog [.tmp 6] Q) ⟨regs [.pointer p0, .int .i64 n1, .int .u8 n2], []⟩ w from
    Eq.mp (by kernel_rfl : aes_Cipher_times p0 n1 n2 w Q = sw Tryz.prog none 23 aes_Cipher_times_tt (Tryz.f94.body.getD .skip) 0 (endK Tryz.prog [.tmp 6] Q) ⟨regs [.pointer p0, .int .i64 n1, .int .u8 n2], []⟩ w) h))
end Go.Sh
end

section
namespace Go.Sh
open Go Go.Fw Go.Proofs
set_option maxRecDepth 100000
set_option linter.unusedVariables false

def ref00_CopyBytes (p0 : Option Addr) (l0 : Nat) (c0 : Nat) (w : World) (Q : Value → World → Prop) : Prop :=
  ∃ (p3 : Option Addr) (l3 : Nat) (c3 : Nat) (w1 : World), Ef Tryz.prog (Instr.buildSlice 22 0 #[]) w (.slice p3 l3 c3) w1 ∧
  ∃ (p5 : Option Addr) (l5 : Nat) (c5 : Nat) (w2 : World), Ef Tryz.prog (Builtin.append_ #[22, 22] 22 #[.slice p3 l3 c3, .slice p0 l0 c0]) w1 (.slice p5 l5 c5) w2 ∧
  Q (.slice p5 l5 c5) w2
def ref00_CopyBytes_tt : Nat → List (Nat × TypeId) := fun _ => []
theorem ref00_CopyBytes_call (p0 : Option Addr) (l0 : Nat) (c0 : Nat) (w : World) (Q : Value → World → Prop) (h : ref00_CopyBytes p0 l0 c0 w Q) : callF Tryz.prog 13 #[.slice p0 l0 c0] w Q :=
  callF_of (fun _ _ => by kernel_rfl) (callK_of_sw ref00_CopyBytes_tt Tryz.func13 rfl (by kernel_rfl) (show sw Tryz.prog none 6 ref00_CopyBytes_tt _ 0 (endK Tryz.prog [.tmp 2] Q) ⟨regs [.slice p0 l0 c0], []⟩ w from
    Eq.mp (by kernel_rfl : ref00_CopyBytes p0 l0 c0 w Q = sw Tryz.prog none 6 ref00_CopyBytes_tt (Tryz.f13.body.getD .skip) 0 (endK Tryz.prog [.tmp 2] Q) ⟨regs [.slice p0 l0 c0], []⟩ w) h))

def ref00_SameBytes (p0 : Option Addr) (l0 : Nat) (c0 : Nat) (p1 : Option Addr) (l1 : Nat) (c1 : Nat) (w : World) (Q : Value → World → Prop) : Prop :=
  cond (((l0 : Nat) : Int) != ((l1 : Nat) : Int))
  (Q (.bool false) w)
  (LoopS [.slice p0 l0 c0, .slice p1 l1 c1, .bool false, .int .i64 0] w fun I1 μ1 us1 _ wl1 =>
    ∃ (p0_1 : Option Addr) (l0_1 : Nat) (c0_1 : Nat) (p1_1 : Option Addr) (l1_1 : Nat) (c1_1 : Nat) (b4 : Bool) (n5 : Int), us1 = [.slice p0_1 l0_1 c0_1, .slice p1_1 l1_1 c1_1, .bool b4, .int .i64 n5] ∧
    cond (decide (n5 < ((l0_1 : Nat) : Int)))
    (∃ (S6 : World → Prop),
      Drw wl1 fun w1 =>
      ∃ (a19 : Addr), IxA Tryz.prog 22 (.slice p0_1 l0_1 c0_1) (.int .i64 n5) a19 ∧
      ∃ (a23 : Addr), IxA Tryz.prog 22 (.slice p1_1 l1_1 c1_1) (.int .i64 n5) a23 ∧
      ∃ (n20 : Int), HLd Tryz.prog S6 5 (.pointer (some a19)) w1 (.int .u8 n20) ∧
      ∃ (n24 : Int), Ld Tryz.prog 5 (.pointer (some a23)) w1 (.int .u8 n24) ∧
      (w1 = w1 ∨ S6 w1) ∧
      cond (n20 != n24)
      (Q (.bool false) w1)
      (goesOn [] [] I1 μ1 us1 [.slice p0_1 l0_1 c0_1, .slice p1_1 l1_1 c1_1, .bool b4, .int .i64 (IntKind.i64.wrap (n5 + 1))] wl1 w1))
    (Q (.bool true) wl1))
def ref00_SameBytes_tt : Nat → List (Nat × TypeId) := fun n => match n with | 0 => [(0, 22), (1, 22), (4, 4), (5, 3)] | _ => []
theorem ref00_SameBytes_call (p0 : Option Addr) (l0 : Nat) (c0 : Nat) (p1 : Option Addr) (l1 : Nat) (c1 : Nat) (w : World) (Q : Value → World → Prop) (h : ref00_SameBytes p0 l0 c0 p1 l1 c1 w Q) : callF Tryz.prog 18 #[.slice p0 l0 c0, .slice p1 l1 c1] w Q :=
  callF_of (fun _ _ => by kernel_rfl) (callK_of_sw ref00_SameBytes_tt Tryz.func18 rfl (by kernel_rfl) (show sw Tryz.prog none 26 ref00_SameBytes_tt _ 0 (endK Tryz.prog [.tmp 4] Q) ⟨regs [.slice p0 l0 c0, .slice p1 l1 c1], []⟩ w from
    Eq.mp (by kernel_rfl : ref00_SameBytes p0 l0 c0 p1 l1 c1 w Q = sw Tryz.prog none 26 ref00_SameBytes_tt (Tryz.f18.body.getD .skip) 0 (endK Tryz.prog [.tmp 4] Q) ⟨regs [.slice p0 l0 c0, .slice p1 l1 c1], []⟩ w) h))

def ref00_SameInts (p0 : Option Addr) (l0 : Nat) (c0 : Nat) (p1 : Option Addr) (l1 : Nat) (c1 : Nat) (w : World) (Q : Value → World → Prop) : Prop :=
  cond (((l0 : Nat) : Int) != ((l1 : Nat) : Int))
  (Q (.bool false) w)
  (LoopS [.slice p0 l0 c0, .slice p1 l1 c1, .bool false, .int .i64 0] w fun I1 μ1 us1 _ wl1 =>
    ∃ (p0_1 : Option Addr) (l0_1 : Nat) (c0_1 : Nat) (p1_1 : Option Addr) (l1_1 : Nat) (c1_1 : Nat) (b4 : Bool) (n5 : Int), us1 = [.slice p0_1 l0_1 c0_1, .slice p1_1 l1_1 c1_1, .bool b4, .int .i64 n5] ∧
    cond (decide (n5 < ((l0_1 : Nat) : Int)))
    (∃ (S6 : World → Prop),
      Drw wl1 fun w1 =>
      ∃ (a19 : Addr), IxA Tryz.prog 132 (.slice p0_1 l0_1 c0_1) (.int .i64 n5) a19 ∧
      ∃ (a23 : Addr), IxA Tryz.prog 132 (.slice p1_1 l1_1 c1_1) (.int .i64 n5) a23 ∧
      ∃ (n20 : Int), HLd Tryz.prog S6 3 (.pointer (some a19)) w1 (.int .i64 n20) ∧
      ∃ (n24 : Int), Ld Tryz.prog 3 (.pointer (some a23)) w1 (.int .i64 n24) ∧
      (w1 = w1 ∨ S6 w1) ∧
      cond (n20 != n24)
      (Q (.bool false) w1)
      (goesOn [] [] I1 μ1 us1 [.slice p0_1 l0_1 c0_1, .slice p1_1 l1_1 c1_1, .bool b4, .int .i64 (IntKind.i64.wrap (n5 + 1))] wl1 w1))
    (Q (.bool true) wl1))
def ref00_SameInts_tt : Nat → List (Nat × TypeId) := fun n => match n with | 0 => [(0, 132), (1, 132), (4, 4), (5, 3)] | _ => []
theorem ref00_SameInts_call (p0 : Option Addr) (l0 : Nat) (c0 : Nat) (p1 : Option Addr) (l1 : Nat) (c1 : Nat) (w : World) (Q : Value → World → Prop) (h : ref00_SameInts p0 l0 c0 p1 l1 c1 w Q) : callF Tryz.prog 81 #[.slice p0 l0 c0, .slice p1 l1 c1] w Q :=
  callF_of (fun _ _ => by kernel_rfl) (callK_of_sw ref00_SameInts_tt Tryz.func81 rfl (by kernel_rfl) (show sw Tryz.prog none 26 ref00_SameInts_tt _ 0 (endK Tryz.prog [.tmp 4] Q) ⟨regs [.slice p0 l0 c0, .slice p1 l1 c1], []⟩ w from
    Eq.mp (by kernel_rfl : ref00_SameInts p0 l0 c0 p1 l1 c1 w Q = sw Tryz.prog none 26 ref00_SameInts_tt (Tryz.f81.body.getD .skip) 0 (endK Tryz.prog [.tmp 4] Q) ⟨regs [.slice p0 l0 c0, .slice p1 l1 c1], []⟩ w) h))
end Go.Sh
end

section
namespace Go.Sh
open Go Go.Fw Go.Proofs
set_option maxRecDepth 100000
set_option linter.unusedVariables false

def ref02_Mul_j1 (n4 : Int) (n5 : Int) (w : World) (Q : Value → World → Prop) : Prop :=
  LoopS [.int .u8 n4, .int .i64 n5, .int .i64 14] w fun I2 μ2 us2 _ wl2 =>
  ∃ (n4_1 : Int) (n5_1 : Int) (n7 : Int), us2 = [.int .u8 n4_1, .int .i64 n5_1, .int .i64 n7] ∧
  cond (decide (n7 ≥ 8))
  (∃ (n35 : Int), Pu Tryz.prog (do eqGuard .shl 3 (.const (.int .i64 1)) (.tmp 34) (.int .i64 1) (.int .u64 (IntKind.u64.wrap n7)); binOp .shl 3 (.int .i64 1) (.int .u64 (IntKind.u64.wrap n7)) : Sem Value) (.int .i64 n35) ∧
    ∃ (n36 : Int), Pu Tryz.prog (do eqGuard .quo 3 (.tmp 32) (.tmp 35) (.int .i64 n5_1) (.int .i64 n35); binOp .quo 3 (.int .i64 n5_1) (.int .i64 n35) : Sem Value) (.int .i64 n36) ∧
    cond ((Int.tmod n36 2) == 1)
    (∃ (n43 : Int), Pu Tryz.prog (do eqGuard .shl 3 (.const (.int .i64 1)) (.tmp 42) (.int .i64 1) (.int .u64 (IntKind.u64.wrap (IntKind.i64.wrap (n7 - 8)))); binOp .shl 3 (.int .i64 1) (.int .u64 (IntKind.u64.wrap (IntKind.i64.wrap (n7 - 8)))) : Sem Value) (.int .i64 n43) ∧
      goesOn [] [] I2 μ2 us2 [.int .u8 n4_1, .int .i64 (ixor .i64 n5_1 (IntKind.i64.wrap (283 * n43))), .int .i64 (IntKind.i64.wrap (n7 - 1))] wl2 wl2)
    (goesOn [] [] I2 μ2 us2 [.int .u8 n4_1, .int .i64 n5_1, .int .i64 (IntKind.i64.wrap (n7 - 1))] wl2 wl2))
  (Q (.int .u8 (IntKind.u8.wrap n5_1)) wl2)
def ref02_Mul (n0 : Int) (n1 : Int) (w : World) (Q : Value → World → Prop) : Prop :=
  LoopS [.int .u8 n0, .int .u8 n1, .int .u8 0, .int .i64 0, .int .i64 0] w fun I1 μ1 us1 _ wl1 =>
  ∃ (n0_1 : Int) (n1_1 : Int) (n4 : Int) (n5 : Int) (n6 : Int), us1 = [.int .u8 n0_1, .int .u8 n1_1, .int .u8 n4, .int .i64 n5, .int .i64 n6] ∧
  cond (decide (n6 < 8))
  (∃ (n16 : Int), Pu Tryz.prog (do eqGuard .shl 3 (.const (.int .i64 1)) (.tmp 15) (.int .i64 1) (.int .u64 (IntKind.u64.wrap n6)); binOp .shl 3 (.int .i64 1) (.int .u64 (IntKind.u64.wrap n6)) : Sem Value) (.int .i64 n16) ∧
    ∃ (n17 : Int), Pu Tryz.prog (do eqGuard .quo 3 (.tmp 13) (.tmp 16) (.int .i64 (IntKind.i64.wrap n1_1)) (.int .i64 n16); binOp .quo 3 (.int .i64 (IntKind.i64.wrap n1_1)) (.int .i64 n16) : Sem Value) (.int .i64 n17) ∧
    cond ((Int.tmod n17 2) == 1)
    (∃ (n25 : Int), Pu Tryz.prog (do eqGuard .shl 3 (.const (.int .i64 1)) (.tmp 24) (.int .i64 1) (.int .u64 (IntKind.u64.wrap n6)); binOp .shl 3 (.int .i64 1) (.int .u64 (IntKind.u64.wrap n6)) : Sem Value) (.int .i64 n25) ∧
      goesOn [] [] I1 μ1 us1 [.int .u8 n0_1, .int .u8 n1_1, .int .u8 n4, .int .i64 (ixor .i64 n5 (IntKind.i64.wrap ((IntKind.i64.wrap n0_1) * n25))), .int .i64 (IntKind.i64.wrap (n6 + 1))] wl1 wl1)
    (goesOn [] [] I1 μ1 us1 [.int .u8 n0_1, .int .u8 n1_1, .int .u8 n4, .int .i64 n5, .int .i64 (IntKind.i64.wrap (n6 + 1))] wl1 wl1))
  (ref02_Mul_j1 n4 n5 wl1 Q)
def ref02_Mul_tt : Nat → List (Nat × TypeId) := fun n => match n with | 0 => [(0, 5), (1, 5), (4, 5), (5, 3), (6, 3)] | 2 => [(4, 5), (5, 3), (7, 3)] | _ => []
theorem ref02_Mul_call (n0 : Int) (n1 : Int) (w : World) (Q : Value → World → Prop) (h : ref02_Mul n0 n1 w Q) : callF Tryz.prog 148 #[.int .u8 n0, .int .u8 n1] w Q :=
  callF_of (fun _ _ => by kernel_rfl) (callK_of_sw ref02_Mul_tt Tryz.func148 rfl (by kernel_rfl) (show sw Tryz.prog none 48 ref02_Mul_tt _ 0 (endK Tryz.prog [.tmp 4] Q) ⟨regs [.int .u8 n0, .int .u8 n1], []⟩ w from
    Eq.mp (by kernel_rfl : ref02_Mul n0 n1 w Q = sw Tryz.prog none 48 ref02_Mul_tt (Tryz.f148.body.getD .skip) 0 (endK Tryz.prog [.tmp 4] Q) ⟨regs [.int .u8 n0, .int .u8 n1], []⟩ w) h))

def ref02_Sign_j1 (I1 : Inv) (μ1 : Meas) (us1 : List Value) (wl1 : World) (n2 : Int) (n3 : Int) (n4 : Int) (n5 : Int) (n6 : Int) (w : World) (Q : Value → World → Prop) : Prop :=
  ∃ (n47 : Int), Pu Tryz.prog (do eqGuard .shl 3 (.const (.int .i64 1)) (.tmp 46) (.int .i64 1) (.int .u64 (IntKind.u64.wrap n5)); binOp .shl 3 (.int .i64 1) (.int .u64 (IntKind.u64.wrap n5)) : Sem Value) (.int .i64 n47) ∧
  goesOn [] [] I1 μ1 us1 [.int .u8 n2, .int .i64 n3, .int .i64 (IntKind.i64.wrap (n4 + (IntKind.i64.wrap ((Int.tmod n6 2) * n47)))), .int .i64 (IntKind.i64.wrap (n5 + 1))] wl1 w
def ref02_Sign (n0 : Int) (w : World) (Q : Value → World → Prop) : Prop :=
  LoopS [.int .u8 0, .int .i64 (IntKind.i64.wrap n0), .int .i64 0, .int .i64 0] w fun I1 μ1 us1 _ wl1 =>
  ∃ (n2 : Int) (n3 : Int) (n4 : Int) (n5 : Int), us1 = [.int .u8 n2, .int .i64 n3, .int .i64 n4, .int .i64 n5] ∧
  cond (decide (n5 < 8))
  (∃ (n16 : Int), Pu Tryz.prog (do eqGuard .shl 3 (.const (.int .i64 1)) (.tmp 15) (.int .i64 1) (.int .u64 (IntKind.u64.wrap n5)); binOp .shl 3 (.int .i64 1) (.int .u64 (IntKind.u64.wrap n5)) : Sem Value) (.int .i64 n16) ∧
    ∃ (n17 : Int), Pu Tryz.prog (do eqGuard .quo 3 (.const (.int .i64 99)) (.tmp 16) (.int .i64 99) (.int .i64 n16); binOp .quo 3 (.int .i64 99) (.int .i64 n16) : Sem Value) (.int .i64 n17) ∧
    ∃ (n23 : Int), Pu Tryz.prog (do eqGuard .shl 3 (.const (.int .i64 1)) (.tmp 22) (.int .i64 1) (.int .u64 (IntKind.u64.wrap n5)); binOp .shl 3 (.int .i64 1) (.int .u64 (IntKind.u64.wrap n5)) : Sem Value) (.int .i64 n23) ∧
    ∃ (n24 : Int), Pu Tryz.prog (do eqGuard .quo 3 (.tmp 20) (.tmp 23) (.int .i64 n3) (.int .i64 n23); binOp .quo 3 (.int .i64 n3) (.int .i64 n23) : Sem Value) (.int .i64 n24) ∧
    LoopS [.int .u8 n2, .int .i64 n3, .int .i64 n4, .int .i64 n5, .int .i64 (IntKind.i64.wrap ((Int.tmod n17 2) + (Int.tmod n24 2))), .int .i64 4] wl1 fun I2 μ2 us2 _ wl2 =>
    ∃ (n2_1 : Int) (n3_1 : Int) (n4_1 : Int) (n5_1 : Int) (n6 : Int) (n7 : Int), us2 = [.int .u8 n2_1, .int .i64 n3_1, .int .i64 n4_1, .int .i64 n5_1, .int .i64 n6, .int .i64 n7] ∧
    cond (decide (n7 < 8))
    (∃ (n38 : Int), Pu Tryz.prog (do eqGuard .shl 3 (.const (.int .i64 1)) (.tmp 37) (.int .i64 1) (.int .u64 (IntKind.u64.wrap (Int.tmod (IntKind.i64.wrap (n5_1 + n7)) 8))); binOp .shl 3 (.int .i64 1) (.int .u64 (IntKind.u64.wrap (Int.tmod (IntKind.i64.wrap (n5_1 + n7)) 8))) : Sem Value) (.int .i64 n38) ∧
      ∃ (n39 : Int), Pu Tryz.prog (do eqGuard .quo 3 (.tmp 32) (.tmp 38) (.int .i64 n3_1) (.int .i64 n38); binOp .quo 3 (.int .i64 n3_1) (.int .i64 n38) : Sem Value) (.int .i64 n39) ∧
      goesOn [] [] I2 μ2 us2 [.int .u8 n2_1, .int .i64 n3_1, .int .i64 n4_1, .int .i64 n5_1, .int .i64 (IntKind.i64.wrap (n6 + (Int.tmod n39 2))), .int .i64 (IntKind.i64.wrap (n7 + 1))] wl2 wl2)
    (ref02_Sign_j1 I1 μ1 us1 wl1 n2_1 n3_1 n4_1 n5_1 n6 wl2 Q))
  (Q (.int .u8 (IntKind.u8.wrap n4)) wl1)
def ref02_Sign_tt : Nat → List (Nat × TypeId) := fun n => match n with | 0 => [(2, 5), (3, 3), (4, 3), (5, 3)] | 2 => [(2, 5), (3, 3), (4, 3), (5, 3), (6, 3), (7, 3)] | _ => []
theorem ref02_Sign_call (n0 : Int) (w : World) (Q : Value → World → Prop) (h : ref02_Sign n0 w Q) : callF Tryz.prog 149 #[.int .u8 n0] w Q :=
  callF_of (fun _ _ => by kernel_rfl) (callK_of_sw ref02_Sign_tt Tryz.func149 rfl (by kernel_rfl) (show sw Tryz.prog none 52 ref02_Sign_tt _ 0 (endK Tryz.prog [.tmp 2] Q) ⟨regs [.int .u8 n0], []⟩ w from
    Eq.mp (by kernel_rfl : ref02_Sign n0 w Q = sw Tryz.prog none 52 ref02_Sign_tt (Tryz.f149.body.getD .skip) 0 (endK Tryz.prog [.tmp 2] Q) ⟨regs [.int .u8 n0], []⟩ w) h))

def ref02_Pow (n0 : Int) (n1 : Int) (w : World) (Q : Value → World → Prop) : Prop :=
  cond (n1 == 0)
  (Q (.int .u8 1) w)
  (cond (n0 == 0)
    (Q (.int .u8 0) w)
    (LoopS [.int .u8 n0, .int .u64 n1, .int .u8 0, .int .u8 1, .int .u64 0] w fun I1 μ1 us1 _ wl1 =>
      ∃ (n0_1 : Int) (n1_1 : Int) (n4 : Int) (n5 : Int) (n6 : Int), us1 = [.int .u8 n0_1, .int .u64 n1_1, .int .u8 n4, .int .u8 n5, .int .u64 n6] ∧
      cond (decide (n6 < (Int.tmod n1_1 255)))
      (callF Tryz.prog 148 #[.int .u8 n5, .int .u8 n0_1] wl1 fun r19 w1 =>
        ∃ (n19 : Int), r19 = .int .u8 n19 ∧
        goesOn [] [] I1 μ1 us1 [.int .u8 n0_1, .int .u64 n1_1, .int .u8 n4, .int .u8 n19, .int .u64 (IntKind.u64.wrap (n6 + 1))] wl1 w1)
      (Q (.int .u8 n5) wl1)))
def ref02_Pow_tt : Nat → List (Nat × TypeId) := fun n => match n with | 0 => [(0, 5), (1, 104), (4, 5), (5, 5), (6, 104)] | _ => []
theorem ref02_Pow_call (n0 : Int) (n1 : Int) (w : World) (Q : Value → World → Prop) (h : ref02_Pow n0 n1 w Q) : callF Tryz.prog 164 #[.int .u8 n0, .int .u64 n1] w Q :=
  callF_of (fun _ _ => by kernel_rfl) (callK_of_sw ref02_Pow_tt Tryz.func164 rfl (by kernel_rfl) (show sw Tryz.prog none 21 ref02_Pow_tt _ 0 (endK Tryz.prog [.tmp 4] Q) ⟨regs [.int .u8 n0, .int .u64 n1], []⟩ w from
    Eq.mp (by kernel_rfl : ref02_Pow n0 n1 w Q = sw Tryz.prog none 21 ref02_Pow_tt (Tryz.f164.body.getD .skip) 0 (endK Tryz.prog [.tmp 4] Q) ⟨regs [.int .u8 n0, .int .u64 n1], []⟩ w) h))
end Go.Sh
end

section
namespace Go.Sh
open Go Go.Fw Go.Proofs
set_option maxRecDepth 100000
set_option linter.unusedVariables false

def ref03_Encrypt (p0 : Option Addr) (l0 : Nat) (c0 : Nat) (p1 : Option Addr) (l1 : Nat) (c1 : Nat) (w : World) (Q : Value → World → Prop) : Prop :=
  callF Tryz.prog 109 #[] w fun r7 w1 =>
  ∃ (p7 : Option Addr) (l7 : Nat) (c7 : Nat), r7 = .slice p7 l7 c7 ∧
  callF Tryz.prog 108 #[.slice p0 l0 c0, .slice p1 l1 c1, .slice p7 l7 c7] w1 fun r8 w2 =>
  ∃ (p8 : Option Addr) (l8 : Nat) (c8 : Nat), r8 = .slice p8 l8 c8 ∧
  Q (.slice p8 l8 c8) w2
def ref03_Encrypt_tt : Nat → List (Nat × TypeId) := fun _ => []
theorem ref03_Encrypt_call (p0 : Option Addr) (l0 : Nat) (c0 : Nat) (p1 : Option Addr) (l1 : Nat) (c1 : Nat) (w : World) (Q : Value → World → Prop) (h : ref03_Encrypt p0 l0 c0 p1 l1 c1 w Q) : callF Tryz.prog 55 #[.slice p0 l0 c0, .slice p1 l1 c1] w Q :=
  callF_of (fun _ _ => by kernel_rfl) (callK_of_sw ref03_Encrypt_tt Tryz.func55 rfl (by kernel_rfl) (show sw Tryz.prog none 9 ref03_Encrypt_tt _ 0 (endK Tryz.prog [.tmp 4] Q) ⟨regs [.slice p0 l0 c0, .slice p1 l1 c1], []⟩ w from
    Eq.mp (by kernel_rfl : ref03_Encrypt p0 l0 c0 p1 l1 c1 w Q = sw Tryz.prog none 9 ref03_Encrypt_tt (Tryz.f55.body.getD .skip) 0 (endK Tryz.prog [.tmp 4] Q) ⟨regs [.slice p0 l0 c0, .slice p1 l1 c1], []⟩ w) h))

def ref03_With_j1 (I1 : Inv) (μ1 : Meas) (us1 : List Value) (wl1 : World) (p2 : Option Addr) (l2 : Nat) (c2 : Nat) (p6 : Option Addr) (l6 : Nat) (c6 : Nat) (p7 : Option Addr) (l7 : Nat) (c7 : Nat) (p8 : Option Addr) (l8 : Nat) (c8 : Nat) (n9 : Int) (w : World) (Q : Value → World → Prop) : Prop :=
  ∃ (a34 : Addr), IxA Tryz.prog 85 (.slice p7 l7 c7) (.int .i64 n9) a34 ∧
  ∃ (p35 : Option Addr) (l35 : Nat) (c35 : Nat), Ld Tryz.prog 22 (.pointer (some a34)) w (.slice p35 l35 c35) ∧
  callF Tryz.prog 144 #[.slice p8 l8 c8, .slice p35 l35 c35] w fun r36 w1 =>
  ∃ (p36 : Option Addr) (l36 : Nat) (c36 : Nat), r36 = .slice p36 l36 c36 ∧
  goesOn [] [] I1 μ1 us1 [.slice p2 l2 c2, .slice p6 l6 c6, .slice p7 l7 c7, .slice p36 l36 c36, .int .i64 (IntKind.i64.wrap (n9 + 1))] wl1 w1
def ref03_With (p0 : Option Addr) (l0 : Nat) (c0 : Nat) (p1 : Option Addr) (l1 : Nat) (c1 : Nat) (p2 : Option Addr) (l2 : Nat) (c2 : Nat) (w : World) (Q : Value → World → Prop) : Prop :=
  callF Tryz.prog 143 #[.slice p0 l0 c0, .slice p2 l2 c2] w fun r12 w1 =>
  ∃ (p12 : Option Addr) (l12 : Nat) (c12 : Nat), r12 = .slice p12 l12 c12 ∧
  ∃ (a15 : Addr), IxA Tryz.prog 85 (.slice p12 l12 c12) (.int .i64 0) a15 ∧
  ∃ (p16 : Option Addr) (l16 : Nat) (c16 : Nat), Ld Tryz.prog 22 (.pointer (some a15)) w1 (.slice p16 l16 c16) ∧
  callF Tryz.prog 144 #[.slice p1 l1 c1, .slice p16 l16 c16] w1 fun r17 w2 =>
  ∃ (p17 : Option Addr) (l17 : Nat) (c17 : Nat), r17 = .slice p17 l17 c17 ∧
  LoopS [.slice p2 l2 c2, .slice none 0 0, .slice p12 l12 c12, .slice p17 l17 c17, .int .i64 1] w2 fun I1 μ1 us1 _ wl1 =>
  ∃ (p2_1 : Option Addr) (l2_1 : Nat) (c2_1 : Nat) (p6 : Option Addr) (l6 : Nat) (c6 : Nat) (p7 : Option Addr) (l7 : Nat) (c7 : Nat) (p8 : Option Addr) (l8 : Nat) (c8 : Nat) (n9 : Int), us1 = [.slice p2_1 l2_1 c2_1, .slice p6 l6 c6, .slice p7 l7 c7, .slice p8 l8 c8, .int .i64 n9] ∧
  cond (decide (n9 ≤ 10))
  (callF Tryz.prog 146 #[.slice p8 l8 c8, .slice p2_1 l2_1 c2_1] wl1 fun r24 w3 =>
    ∃ (p24 : Option Addr) (l24 : Nat) (c24 : Nat), r24 = .slice p24 l24 c24 ∧
    callF Tryz.prog 145 #[.slice p24 l24 c24, .int .i64 1] w3 fun r25 w4 =>
    ∃ (p25 : Option Addr) (l25 : Nat) (c25 : Nat), r25 = .slice p25 l25 c25 ∧
    cond (decide (n9 < 10))
    (callF Tryz.prog 147 #[.slice p25 l25 c25, .agg #[.int .u8 2, .int .u8 3, .int .u8 1, .int .u8 1]] w4 fun r30 w5 =>
      ∃ (p30 : Option Addr) (l30 : Nat) (c30 : Nat), r30 = .slice p30 l30 c30 ∧
      ref03_With_j1 I1 μ1 us1 wl1 p2_1 l2_1 c2_1 p6 l6 c6 p7 l7 c7 p30 l30 c30 n9 w5 Q)
    (ref03_With_j1 I1 μ1 us1 wl1 p2_1 l2_1 c2_1 p6 l6 c6 p7 l7 c7 p25 l25 c25 n9 w4 Q))
  (Q (.slice p8 l8 c8) wl1)
def ref03_With_tt : Nat → List (Nat × TypeId) := fun n => match n with | 0 => [(2, 22), (6, 22), (7, 85), (8, 22), (9, 3)] | _ => []
theorem ref03_With_call (p0 : Option Addr) (l0 : Nat) (c0 : Nat) (p1 : Option Addr) (l1 : Nat) (c1 : Nat) (p2 : Option Addr) (l2 : Nat) (c2 : Nat) (w : World) (Q : Value → World → Prop) (h : ref03_With p0 l0 c0 p1 l1 c1 p2 l2 c2 w Q) : callF Tryz.prog 108 #[.slice p0 l0 c0, .slice p1 l1 c1, .slice p2 l2 c2] w Q :=
  callF_of (fun _ _ => by kernel_rfl) (callK_of_sw ref03_With_tt Tryz.func108 rfl (by kernel_rfl) (show sw Tryz.prog none 38 ref03_With_tt _ 0 (endK Tryz.prog [.tmp 6] Q) ⟨regs [.slice p0 l0 c0, .slice p1 l1 c1, .slice p2 l2 c2], []⟩ w from
    Eq.mp (by kernel_rfl : ref03_With p0 l0 c0 p1 l1 c1 p2 l2 c2 w Q = sw Tryz.prog none 38 ref03_With_tt (Tryz.f108.body.getD .skip) 0 (endK Tryz.prog [.tmp 6] Q) ⟨regs [.slice p0 l0 c0, .slice p1 l1 c1, .slice p2 l2 c2], []⟩ w) h))

def ref03_Table_j1 (p0 : Option Addr) (l0 : Nat) (c0 : Nat) (p1 : Option Addr) (l1 : Nat) (c1 : Nat) (w : World) (Q : Value → World → Prop) : Prop :=
  ∃ (p19 : Option Addr) (l19 : Nat) (c19 : Nat) (w1 : World), Ef Tryz.prog (Instr.makeSlice 22 (.int .i64 256) (.int .i64 256)) w (.slice p19 l19 c19) w1 ∧
  callF Tryz.prog 149 #[.int .u8 0] w1 fun r21 w2 =>
  ∃ (n21 : Int), r21 = .int .u8 n21 ∧
  ∃ (a22 : Addr), IxA Tryz.prog 22 (.slice p19 l19 c19) (.int .i64 0) a22 ∧
  ∃ (w3 : World), Sto Tryz.prog 5 (.pointer (some a22)) (.int .u8 n21) w2 w3 ∧
  LoopS [.slice p0 l0 c0, .slice p1 l1 c1, .slice p19 l19 c19, .int .i64 0] w3 fun I2 μ2 us2 _ wl2 =>
  ∃ (p0_1 : Option Addr) (l0_1 : Nat) (c0_1 : Nat) (p1_1 : Option Addr) (l1_1 : Nat) (c1_1 : Nat) (p3 : Option Addr) (l3 : Nat) (c3 : Nat) (n4 : Int), us2 = [.slice p0_1 l0_1 c0_1, .slice p1_1 l1_1 c1_1, .slice p3 l3 c3, .int .i64 n4] ∧
  cond (decide (n4 < 255))
  (∃ (S11 : World → Prop),
    Drw wl2 fun w4 =>
    ∃ (a30 : Addr), IxA Tryz.prog 22 (.slice p1_1 l1_1 c1_1) (.int .i64 n4) a30 ∧
    ∃ (a36 : Addr), IxA Tryz.prog 22 (.slice p1_1 l1_1 c1_1) (.int .i64 (Int.tmod (IntKind.i64.wrap (255 - n4)) 255)) a36 ∧
    ∃ (n31 : Int), HLd Tryz.prog S11 5 (.pointer (some a30)) w4 (.int .u8 n31) ∧
    ∃ (n37 : Int), Ld Tryz.prog 5 (.pointer (some a36)) w4 (.int .u8 n37) ∧
    (w4 = w4 ∨ S11 w4) ∧
    callF Tryz.prog 149 #[.int .u8 n37] w4 fun r38 w5 =>
    ∃ (n38 : Int), r38 = .int .u8 n38 ∧
    (w5 = w4 ∨ S11 w5) ∧
    ∃ (a39 : Addr), IxA Tryz.prog 22 (.slice p3 l3 c3) (.int .u8 n31) a39 ∧
    ∃ (w6 : World), Sto Tryz.prog 5 (.pointer (some a39)) (.int .u8 n38) w5 w6 ∧
    goesOn [] [] I2 μ2 us2 [.slice p0_1 l0_1 c0_1, .slice p1_1 l1_1 c1_1, .slice p3 l3 c3, .int .i64 (IntKind.i64.wrap (n4 + 1))] wl2 w6)
  (Q (.slice p3 l3 c3) wl2)
def ref03_Table  (w : World) (Q : Value → World → Prop) : Prop :=
  ∃ (p5 : Option Addr) (l5 : Nat) (c5 : Nat) (w1 : World), Ef Tryz.prog (Instr.buildSlice 22 1 #[(0, .int .u8 1)]) w (.slice p5 l5 c5) w1 ∧
  LoopS [.slice none 0 0, .slice p5 l5 c5, .int .i64 1] w1 fun I1 μ1 us1 _ wl1 =>
  ∃ (p0 : Option Addr) (l0 : Nat) (c0 : Nat) (p1 : Option Addr) (l1 : Nat) (c1 : Nat) (n2 : Int), us1 = [.slice p0 l0 c0, .slice p1 l1 c1, .int .i64 n2] ∧
  cond (decide (n2 < 255))
  (∃ (a14 : Addr), IxA Tryz.prog 22 (.slice p1 l1 c1) (.int .i64 (IntKind.i64.wrap (n2 - 1))) a14 ∧
    ∃ (n15 : Int), Ld Tryz.prog 5 (.pointer (some a14)) wl1 (.int .u8 n15) ∧
    callF Tryz.prog 148 #[.int .u8 n15, .int .u8 3] wl1 fun r16 w2 =>
    ∃ (n16 : Int), r16 = .int .u8 n16 ∧
    ∃ (p17 : Option Addr) (l17 : Nat) (c17 : Nat) (w3 : World), Ef Tryz.prog (Instr.buildSlice 22 1 #[(0, .int .u8 n16)]) w2 (.slice p17 l17 c17) w3 ∧
    ∃ (p18 : Option Addr) (l18 : Nat) (c18 : Nat) (w4 : World), Ef Tryz.prog (Builtin.append_ #[22, 22] 22 #[.slice p1 l1 c1, .slice p17 l17 c17]) w3 (.slice p18 l18 c18) w4 ∧
    goesOn [] [] I1 μ1 us1 [.slice p0 l0 c0, .slice p18 l18 c18, .int .i64 (IntKind.i64.wrap (n2 + 1))] wl1 w4)
  (ref03_Table_j1 p0 l0 c0 p1 l1 c1 wl1 Q)
def ref03_Table_tt : Nat → List (Nat × TypeId) := fun n => match n with | 0 => [(0, 22), (1, 22), (2, 3)] | 2 => [(0, 22), (1, 22), (3, 22), (4, 3)] | _ => []
theorem ref03_Table_call  (w : World) (Q : Value → World → Prop) (h : ref03_Table  w Q) : callF Tryz.prog 109 #[] w Q :=
  callF_of (fun _ _ => by kernel_rfl) (callK_of_sw ref03_Table_tt Tryz.func109 rfl (by kernel_rfl) (show sw Tryz.prog none 41 ref03_Table_tt _ 0 (endK Tryz.prog [.tmp 0] Q) ⟨regs [], []⟩ w from
    Eq.mp (by kernel_rfl : ref03_Table  w Q = sw Tryz.prog none 41 ref03_Table_tt (Tryz.f109.body.getD .skip) 0 (endK Tryz.prog [.tmp 0] Q) ⟨regs [], []⟩ w) h))

def ref03_Keys_j1 (I2 : Inv) (μ2 : Meas) (us2 : List Value) (wl2 : World) (p1 : Option Addr) (l1 : Nat) (c1 : Nat) (p4 : Option Addr) (l4 : Nat) (c4 : Nat) (p5 : Option Addr) (l5 : Nat) (c5 : Nat) (n7 : Int) (p8 : Option Addr) (l8 : Nat) (c8 : Nat) (w : World) (Q : Value → World → Prop) : Prop :=
  ∃ (a71 : Addr), IxA Tryz.prog 85 (.slice p5 l5 c5) (.int .i64 (IntKind.i64.wrap (n7 - 4))) a71 ∧
  ∃ (p72 : Option Addr) (l72 : Nat) (c72 : Nat), Ld Tryz.prog 22 (.pointer (some a71)) w (.slice p72 l72 c72) ∧
  callF Tryz.prog 144 #[.slice p72 l72 c72, .slice p8 l8 c8] w fun r74 w1 =>
  ∃ (p74 : Option Addr) (l74 : Nat) (c74 : Nat), r74 = .slice p74 l74 c74 ∧
  ∃ (p75 : Option Addr) (l75 : Nat) (c75 : Nat) (w2 : World), Ef Tryz.prog (Instr.buildSlice 85 1 #[(0, .slice p74 l74 c74)]) w1 (.slice p75 l75 c75) w2 ∧
  ∃ (p76 : Option Addr) (l76 : Nat) (c76 : Nat) (w3 : World), Ef Tryz.prog (Builtin.append_ #[85, 85] 85 #[.slice p5 l5 c5, .slice p75 l75 c75]) w2 (.slice p76 l76 c76) w3 ∧
  goesOn [] [] I2 μ2 us2 [.slice p1 l1 c1, .slice p4 l4 c4, .slice p76 l76 c76, .int .i64 (IntKind.i64.wrap (n7 + 1))] wl2 w3
def ref03_Keys_j2 (p4 : Option Addr) (l4 : Nat) (c4 : Nat) (p5 : Option Addr) (l5 : Nat) (c5 : Nat) (w : World) (Q : Value → World → Prop) : Prop :=
  ∃ (p77 : Option Addr) (l77 : Nat) (c77 : Nat) (w1 : World), Ef Tryz.prog (Instr.buildSlice 85 0 #[]) w (.slice p77 l77 c77) w1 ∧
  LoopS [.slice p4 l4 c4, .slice p5 l5 c5, .slice p77 l77 c77, .int .i64 0] w1 fun I3 μ3 us3 _ wl3 =>
  ∃ (p4_1 : Option Addr) (l4_1 : Nat) (c4_1 : Nat) (p5_1 : Option Addr) (l5_1 : Nat) (c5_1 : Nat) (p9 : Option Addr) (l9 : Nat) (c9 : Nat) (n10 : Int), us3 = [.slice p4_1 l4_1 c4_1, .slice p5_1 l5_1 c5_1, .slice p9 l9 c9, .int .i64 n10] ∧
  cond (decide (n10 < 11))
  (∃ (p82 : Option Addr) (l82 : Nat) (c82 : Nat) (w2 : World), Ef Tryz.prog (Instr.buildSlice 22 0 #[]) wl3 (.slice p82 l82 c82) w2 ∧
    LoopS [.slice p4_1 l4_1 c4_1, .slice p5_1 l5_1 c5_1, .slice p9 l9 c9, .int .i64 n10, .slice p82 l82 c82, .int .i64 0] w2 fun I4 μ4 us4 _ wl4 =>
    ∃ (p4_2 : Option Addr) (l4_2 : Nat) (c4_2 : Nat) (p5_2 : Option Addr) (l5_2 : Nat) (c5_2 : Nat) (p9_1 : Option Addr) (l9_1 : Nat) (c9_1 : Nat) (n10_1 : Int) (p11 : Option Addr) (l11 : Nat) (c11 : Nat) (n12 : Int), us4 = [.slice p4_2 l4_2 c4_2, .slice p5_2 l5_2 c5_2, .slice p9_1 l9_1 c9_1, .int .i64 n10_1, .slice p11 l11 c11, .int .i64 n12] ∧
    cond (decide (n12 < 4))
    (∃ (a93 : Addr), IxA Tryz.prog 85 (.slice p5_2 l5_2 c5_2) (.int .i64 (IntKind.i64.wrap ((IntKind.i64.wrap (4 * n10_1)) + n12))) a93 ∧
      ∃ (p94 : Option Addr) (l94 : Nat) (c94 : Nat), Ld Tryz.prog 22 (.pointer (some a93)) wl4 (.slice p94 l94 c94) ∧
      ∃ (p95 : Option Addr) (l95 : Nat) (c95 : Nat) (w3 : World), Ef Tryz.prog (Builtin.append_ #[22, 22] 22 #[.slice p11 l11 c11, .slice p94 l94 c94]) wl4 (.slice p95 l95 c95) w3 ∧
      goesOn [] [] I4 μ4 us4 [.slice p4_2 l4_2 c4_2, .slice p5_2 l5_2 c5_2, .slice p9_1 l9_1 c9_1, .int .i64 n10_1, .slice p95 l95 c95, .int .i64 (IntKind.i64.wrap (n12 + 1))] wl4 w3)
    (∃ (p98 : Option Addr) (l98 : Nat) (c98 : Nat) (w4 : World), Ef Tryz.prog (Instr.buildSlice 85 1 #[(0, .slice p11 l11 c11)]) wl4 (.slice p98 l98 c98) w4 ∧
      ∃ (p99 : Option Addr) (l99 : Nat) (c99 : Nat) (w5 : World), Ef Tryz.prog (Builtin.append_ #[85, 85] 85 #[.slice p9_1 l9_1 c9_1, .slice p98 l98 c98]) w4 (.slice p99 l99 c99) w5 ∧
      goesOn [] [] I3 μ3 us3 [.slice p4_2 l4_2 c4_2, .slice p5_2 l5_2 c5_2, .slice p99 l99 c99, .int .i64 (IntKind.i64.wrap (n10_1 + 1))] wl3 w5))
  (Q (.slice p9 l9 c9) wl3)
def ref03_Keys_j3 (p1 : Option Addr) (l1 : Nat) (c1 : Nat) (p4 : Option Addr) (l4 : Nat) (c4 : Nat) (p5 : Option Addr) (l5 : Nat) (c5 : Nat) (w : World) (Q : Value → World → Prop) : Prop :=
  LoopS [.slice p1 l1 c1, .slice p4 l4 c4, .slice p5 l5 c5, .int .i64 4] w fun I2 μ2 us2 _ wl2 =>
  ∃ (p1_1 : Option Addr) (l1_1 : Nat) (c1_1 : Nat) (p4_1 : Option Addr) (l4_1 : Nat) (c4_1 : Nat) (p5_1 : Option Addr) (l5_1 : Nat) (c5_1 : Nat) (n7 : Int), us2 = [.slice p1_1 l1_1 c1_1, .slice p4_1 l4_1 c4_1, .slice p5_1 l5_1 c5_1, .int .i64 n7] ∧
  cond (decide (n7 < 44))
  (∃ (a37 : Addr), IxA Tryz.prog 85 (.slice p5_1 l5_1 c5_1) (.int .i64 (IntKind.i64.wrap (n7 - 1))) a37 ∧
    ∃ (p38 : Option Addr) (l38 : Nat) (c38 : Nat), Ld Tryz.prog 22 (.pointer (some a37)) wl2 (.slice p38 l38 c38) ∧
    cond ((Int.tmod n7 4) == 0)
    (∃ (S11 : World → Prop),
      Drw wl2 fun w1 =>
      ∃ (a43 : Addr), IxA Tryz.prog 22 (.slice p38 l38 c38) (.int .i64 1) a43 ∧
      ∃ (a46 : Addr), IxA Tryz.prog 22 (.slice p38 l38 c38) (.int .i64 2) a46 ∧
      ∃ (a49 : Addr), IxA Tryz.prog 22 (.slice p38 l38 c38) (.int .i64 3) a49 ∧
      ∃ (a52 : Addr), IxA Tryz.prog 22 (.slice p38 l38 c38) (.int .i64 0) a52 ∧
      ∃ (n44 : Int), HLd Tryz.prog S11 5 (.pointer (some a43)) w1 (.int .u8 n44) ∧
      ∃ (n47 : Int), HLd Tryz.prog S11 5 (.pointer (some a46)) w1 (.int .u8 n47) ∧
      ∃ (n50 : Int), HLd Tryz.prog S11 5 (.pointer (some a49)) w1 (.int .u8 n50) ∧
      ∃ (n53 : Int), Ld Tryz.prog 5 (.pointer (some a52)) w1 (.int .u8 n53) ∧
      (w1 = w1 ∨ S11 w1) ∧
      ∃ (p54 : Option Addr) (l54 : Nat) (c54 : Nat) (w2 : World), Ef Tryz.prog (Instr.buildSlice 22 4 #[(0, .int .u8 n44), (1, .int .u8 n47), (2, .int .u8 n50), (3, .int .u8 n53)]) w1 (.slice p54 l54 c54) w2 ∧
      callF Tryz.prog 146 #[.slice p54 l54 c54, .slice p1_1 l1_1 c1_1] w2 fun r56 w3 =>
      ∃ (p56 : Option Addr) (l56 : Nat) (c56 : Nat), r56 = .slice p56 l56 c56 ∧
      ∃ (S12 : World → Prop),
      Drw w3 fun w4 =>
      ∃ (a58 : Addr), IxA Tryz.prog 22 (.slice p56 l56 c56) (.int .i64 0) a58 ∧
      ∃ (n59 : Int), HLd Tryz.prog S12 5 (.pointer (some a58)) w4 (.int .u8 n59) ∧
      callF Tryz.prog 164 #[.int .u8 2, .int .u64 (IntKind.u64.wrap (IntKind.i64.wrap ((IntKind.i64.wrap (Int.tdiv n7 4)) - 1)))] w4 fun r64 w5 =>
      ∃ (n64 : Int), r64 = .int .u8 n64 ∧
      (w5 = w4 ∨ S12 w5) ∧
      ∃ (a66 : Addr), IxA Tryz.prog 22 (.slice p56 l56 c56) (.int .i64 0) a66 ∧
      ∃ (w6 : World), Sto Tryz.prog 5 (.pointer (some a66)) (.int .u8 (ixor .u8 n59 n64)) w5 w6 ∧
      ref03_Keys_j1 I2 μ2 us2 wl2 p1_1 l1_1 c1_1 p4_1 l4_1 c4_1 p5_1 l5_1 c5_1 n7 p56 l56 c56 w6 Q)
    (ref03_Keys_j1 I2 μ2 us2 wl2 p1_1 l1_1 c1_1 p4_1 l4_1 c4_1 p5_1 l5_1 c5_1 n7 p38 l38 c38 wl2 Q))
  (ref03_Keys_j2 p4_1 l4_1 c4_1 p5_1 l5_1 c5_1 wl2 Q)
def ref03_Keys (p0 : Option Addr) (l0 : Nat) (c0 : Nat) (p1 : Option Addr) (l1 : Nat) (c1 : Nat) (w : World) (Q : Value → World → Prop) : Prop :=
  ∃ (p13 : Option Addr) (l13 : Nat) (c13 : Nat) (w1 : World), Ef Tryz.prog (Instr.buildSlice 85 0 #[]) w (.slice p13 l13 c13) w1 ∧
  LoopS [.slice p0 l0 c0, .slice p1 l1 c1, .slice none 0 0, .slice p13 l13 c13, .int .i64 0] w1 fun I1 μ1 us1 _ wl1 =>
  ∃ (p0_1 : Option Addr) (l0_1 : Nat) (c0_1 : Nat) (p1_1 : Option Addr) (l1_1 : Nat) (c1_1 : Nat) (p4 : Option Addr) (l4 : Nat) (c4 : Nat) (p5 : Option Addr) (l5 : Nat) (c5 : Nat) (n6 : Int), us1 = [.slice p0_1 l0_1 c0_1, .slice p1_1 l1_1 c1_1, .slice p4 l4 c4, .slice p5 l5 c5, .int .i64 n6] ∧
  cond (decide (n6 < 4))
  (∃ (p19 : Option Addr) (l19 : Nat) (c19 : Nat) (w2 : World), Ef Tryz.prog (Instr.buildSlice 22 0 #[]) wl1 (.slice p19 l19 c19) w2 ∧
    ∃ (p26 : Option Addr) (l26 : Nat) (c26 : Nat), Pu Tryz.prog (Instr.sliceAt 22 (.slice p0_1 l0_1 c0_1) (some (.int .i64 (IntKind.i64.wrap (4 * n6)))) (some (.int .i64 (IntKind.i64.wrap ((IntKind.i64.wrap (4 * n6)) + 4)))) none) (.slice p26 l26 c26) ∧
    ∃ (p27 : Option Addr) (l27 : Nat) (c27 : Nat) (w3 : World), Ef Tryz.prog (Builtin.append_ #[22, 22] 22 #[.slice p19 l19 c19, .slice p26 l26 c26]) w2 (.slice p27 l27 c27) w3 ∧
    ∃ (p28 : Option Addr) (l28 : Nat) (c28 : Nat) (w4 : World), Ef Tryz.prog (Instr.buildSlice 85 1 #[(0, .slice p27 l27 c27)]) w3 (.slice p28 l28 c28) w4 ∧
    ∃ (p29 : Option Addr) (l29 : Nat) (c29 : Nat) (w5 : World), Ef Tryz.prog (Builtin.append_ #[85, 85] 85 #[.slice p5 l5 c5, .slice p28 l28 c28]) w4 (.slice p29 l29 c29) w5 ∧
    goesOn [] [] I1 μ1 us1 [.slice p0_1 l0_1 c0_1, .slice p1_1 l1_1 c1_1, .slice p4 l4 c4, .slice p29 l29 c29, .int .i64 (IntKind.i64.wrap (n6 + 1))] wl1 w5)
  (ref03_Keys_j3 p1_1 l1_1 c1_1 p4 l4 c4 p5 l5 c5 wl1 Q)
def ref03_Keys_tt : Nat → List (Nat × TypeId) := fun n => match n with | 0 => [(0, 22), (1, 22), (4, 85), (5, 85), (6, 3)] | 2 => [(1, 22), (4, 85), (5, 85), (7, 3)] | 4 => [(4, 85), (5, 85), (9, 85), (10, 3)] | 6 => [(4, 85), (5, 85), (9, 85), (10, 3), (11, 22), (12, 3)] | _ => []
theorem ref03_Keys_call (p0 : Option Addr) (l0 : Nat) (c0 : Nat) (p1 : Option Addr) (l1 : Nat) (c1 : Nat) (w : World) (Q : Value → World → Prop) (h : ref03_Keys p0 l0 c0 p1 l1 c1 w Q) : callF Tryz.prog 143 #[.slice p0 l0 c0, .slice p1 l1 c1] w Q :=
  callF_of (fun _ _ => by kernel_rfl) (callK_of_sw ref03_Keys_tt Tryz.func143 rfl (by kernel_rfl) (show sw Tryz.prog none 101 ref03_Keys_tt _ 0 (endK Tryz.prog [.tmp 4] Q) ⟨regs [.slice p0 l0 c0, .slice p1 l1 c1], []⟩ w from
    Eq.mp (by kernel_rfl : ref03_Keys p0 l0 c0 p1 l1 c1 w Q = sw Tryz.prog none 101 ref03_Keys_tt (Tryz.f143.body.getD .skip) 0 (endK Tryz.prog [.tmp 4] Q) ⟨regs [.slice p0 l0 c0, .slice p1 l1 c1], []⟩ w) h))

def ref03_add (p0 : Option Addr) (l0 : Nat) (c0 : Nat) (p1 : Option Addr) (l1 : Nat) (c1 : Nat) (w : World) (Q : Value → World → Prop) : Prop :=
  ∃ (p7 : Option Addr) (l7 : Nat) (c7 : Nat) (w1 : World), Ef Tryz.prog (Instr.buildSlice 22 0 #[]) w (.slice p7 l7 c7) w1 ∧
  LoopS [.slice p0 l0 c0, .slice p1 l1 c1, .slice none 0 0, .slice p7 l7 c7, .int .i64 0] w1 fun I1 μ1 us1 _ wl1 =>
  ∃ (p0_1 : Option Addr) (l0_1 : Nat) (c0_1 : Nat) (p1_1 : Option Addr) (l1_1 : Nat) (c1_1 : Nat) (p4 : Option Addr) (l4 : Nat) (c4 : Nat) (p5 : Option Addr) (l5 : Nat) (c5 : Nat) (n6 : Int), us1 = [.slice p0_1 l0_1 c0_1, .slice p1_1 l1_1 c1_1, .slice p4 l4 c4, .slice p5 l5 c5, .int .i64 n6] ∧
  cond (decide (n6 < ((l0_1 : Nat) : Int)))
  (∃ (S5 : World → Prop),
    Drw wl1 fun w2 =>
    ∃ (a17 : Addr), IxA Tryz.prog 22 (.slice p0_1 l0_1 c0_1) (.int .i64 n6) a17 ∧
    ∃ (a21 : Addr), IxA Tryz.prog 22 (.slice p1_1 l1_1 c1_1) (.int .i64 n6) a21 ∧
    ∃ (n18 : Int), HLd Tryz.prog S5 5 (.pointer (some a17)) w2 (.int .u8 n18) ∧
    ∃ (n22 : Int), Ld Tryz.prog 5 (.pointer (some a21)) w2 (.int .u8 n22) ∧
    (w2 = w2 ∨ S5 w2) ∧
    ∃ (p24 : Option Addr) (l24 : Nat) (c24 : Nat) (w3 : World), Ef Tryz.prog (Instr.buildSlice 22 1 #[(0, .int .u8 (ixor .u8 n18 n22))]) w2 (.slice p24 l24 c24) w3 ∧
    ∃ (p25 : Option Addr) (l25 : Nat) (c25 : Nat) (w4 : World), Ef Tryz.prog (Builtin.append_ #[22, 22] 22 #[.slice p5 l5 c5, .slice p24 l24 c24]) w3 (.slice p25 l25 c25) w4 ∧
    goesOn [] [] I1 μ1 us1 [.slice p0_1 l0_1 c0_1, .slice p1_1 l1_1 c1_1, .slice p4 l4 c4, .slice p25 l25 c25, .int .i64 (IntKind.i64.wrap (n6 + 1))] wl1 w4)
  (Q (.slice p5 l5 c5) wl1)
def ref03_add_tt : Nat → List (Nat × TypeId) := fun n => match n with | 0 => [(0, 22), (1, 22), (4, 22), (5, 22), (6, 3)] | _ => []
theorem ref03_add_call (p0 : Option Addr) (l0 : Nat) (c0 : Nat) (p1 : Option Addr) (l1 : Nat) (c1 : Nat) (w : World) (Q : Value → World → Prop) (h : ref03_add p0 l0 c0 p1 l1 c1 w Q) : callF Tryz.prog 144 #[.slice p0 l0 c0, .slice p1 l1 c1] w Q :=
  callF_of (fun _ _ => by kernel_rfl) (callK_of_sw ref03_add_tt Tryz.func144 rfl (by kernel_rfl) (show sw Tryz.prog none 27 ref03_add_tt _ 0 (endK Tryz.prog [.tmp 4] Q) ⟨regs [.slice p0 l0 c0, .slice p1 l1 c1], []⟩ w from
    Eq.mp (by kernel_rfl : ref03_add p0 l0 c0 p1 l1 c1 w Q = sw Tryz.prog none 27 ref03_add_tt (Tryz.f144.body.getD .skip) 0 (endK Tryz.prog [.tmp 4] Q) ⟨regs [.slice p0 l0 c0, .slice p1 l1 c1], []⟩ w) h))

def ref03_rows (p0 : Option Addr) (l0 : Nat) (c0 : Nat) (n1 : Int) (w : World) (Q : Value → World → Prop) : Prop :=
  ∃ (p8 : Option Addr) (l8 : Nat) (c8 : Nat) (w1 : World), Ef Tryz.prog (Instr.makeSlice 22 (.int .i64 16) (.int .i64 16)) w (.slice p8 l8 c8) w1 ∧
  LoopS [.slice p0 l0 c0, .int .i64 n1, .slice none 0 0, .slice p8 l8 c8, .int .i64 0] w1 fun I1 μ1 us1 _ wl1 =>
  ∃ (p0_1 : Option Addr) (l0_1 : Nat) (c0_1 : Nat) (n1_1 : Int) (p4 : Option Addr) (l4 : Nat) (c4 : Nat) (p5 : Option Addr) (l5 : Nat) (c5 : Nat) (n6 : Int), us1 = [.slice p0_1 l0_1 c0_1, .int .i64 n1_1, .slice p4 l4 c4, .slice p5 l5 c5, .int .i64 n6] ∧
  cond (decide (n6 < 4))
  (LoopS [.slice p0_1 l0_1 c0_1, .int .i64 n1_1, .slice p4 l4 c4, .slice p5 l5 c5, .int .i64 n6, .int .i64 0] wl1 fun I2 μ2 us2 _ wl2 =>
    ∃ (p0_2 : Option Addr) (l0_2 : Nat) (c0_2 : Nat) (n1_2 : Int) (p4_1 : Option Addr) (l4_1 : Nat) (c4_1 : Nat) (p5_1 : Option Addr) (l5_1 : Nat) (c5_1 : Nat) (n6_1 : Int) (n7 : Int), us2 = [.slice p0_2 l0_2 c0_2, .int .i64 n1_2, .slice p4_1 l4_1 c4_1, .slice p5_1 l5_1 c5_1, .int .i64 n6_1, .int .i64 n7] ∧
    cond (decide (n7 < 4))
    (callF Tryz.prog 165 #[.int .i64 n6_1, .int .i64 n7] wl2 fun r20 w2 =>
      ∃ (n20 : Int), r20 = .int .i64 n20 ∧
      callF Tryz.prog 165 #[.int .i64 n6_1, .int .i64 (IntKind.i64.wrap (n7 + (IntKind.i64.wrap (n1_2 * n6_1))))] w2 fun r28 w3 =>
      ∃ (n28 : Int), r28 = .int .i64 n28 ∧
      ∃ (a29 : Addr), IxA Tryz.prog 22 (.slice p0_2 l0_2 c0_2) (.int .i64 n28) a29 ∧
      ∃ (n30 : Int), Ld Tryz.prog 5 (.pointer (some a29)) w3 (.int .u8 n30) ∧
      ∃ (a31 : Addr), IxA Tryz.prog 22 (.slice p5_1 l5_1 c5_1) (.int .i64 n20) a31 ∧
      ∃ (w4 : World), Sto Tryz.prog 5 (.pointer (some a31)) (.int .u8 n30) w3 w4 ∧
      goesOn [] [] I2 μ2 us2 [.slice p0_2 l0_2 c0_2, .int .i64 n1_2, .slice p4_1 l4_1 c4_1, .slice p5_1 l5_1 c5_1, .int .i64 n6_1, .int .i64 (IntKind.i64.wrap (n7 + 1))] wl2 w4)
    (goesOn [] [] I1 μ1 us1 [.slice p0_2 l0_2 c0_2, .int .i64 n1_2, .slice p4_1 l4_1 c4_1, .slice p5_1 l5_1 c5_1, .int .i64 (IntKind.i64.wrap (n6_1 + 1))] wl1 wl2))
  (Q (.slice p5 l5 c5) wl1)
def ref03_rows_tt : Nat → List (Nat × TypeId) := fun n => match n with | 0 => [(0, 22), (1, 3), (4, 22), (5, 22), (6, 3)] | 2 => [(0, 22), (1, 3), (4, 22), (5, 22), (6, 3), (7, 3)] | _ => []
theorem ref03_rows_call (p0 : Option Addr) (l0 : Nat) (c0 : Nat) (n1 : Int) (w : World) (Q : Value → World → Prop) (h : ref03_rows p0 l0 c0 n1 w Q) : callF Tryz.prog 145 #[.slice p0 l0 c0, .int .i64 n1] w Q :=
  callF_of (fun _ _ => by kernel_rfl) (callK_of_sw ref03_rows_tt Tryz.func145 rfl (by kernel_rfl) (show sw Tryz.prog none 33 ref03_rows_tt _ 0 (endK Tryz.prog [.tmp 4] Q) ⟨regs [.slice p0 l0 c0, .int .i64 n1], []⟩ w from
    Eq.mp (by kernel_rfl : ref03_rows p0 l0 c0 n1 w Q = sw Tryz.prog none 33 ref03_rows_tt (Tryz.f145.body.getD .skip) 0 (endK Tryz.prog [.tmp 4] Q) ⟨regs [.slice p0 l0 c0, .int .i64 n1], []⟩ w) h))

def ref03_subs (p0 : Option Addr) (l0 : Nat) (c0 : Nat) (p1 : Option Addr) (l1 : Nat) (c1 : Nat) (w : World) (Q : Value → World → Prop) : Prop :=
  ∃ (p7 : Option Addr) (l7 : Nat) (c7 : Nat) (w1 : World), Ef Tryz.prog (Instr.buildSlice 22 0 #[]) w (.slice p7 l7 c7) w1 ∧
  LoopS [.slice p0 l0 c0, .slice p1 l1 c1, .slice none 0 0, .slice p7 l7 c7, .int .i64 0] w1 fun I1 μ1 us1 _ wl1 =>
  ∃ (p0_1 : Option Addr) (l0_1 : Nat) (c0_1 : Nat) (p1_1 : Option Addr) (l1_1 : Nat) (c1_1 : Nat) (p4 : Option Addr) (l4 : Nat) (c4 : Nat) (p5 : Option Addr) (l5 : Nat) (c5 : Nat) (n6 : Int), us1 = [.slice p0_1 l0_1 c0_1, .slice p1_1 l1_1 c1_1, .slice p4 l4 c4, .slice p5 l5 c5, .int .i64 n6] ∧
  cond (decide (n6 < ((l0_1 : Nat) : Int)))
  (∃ (a18 : Addr), IxA Tryz.prog 22 (.slice p0_1 l0_1 c0_1) (.int .i64 n6) a18 ∧
    ∃ (n19 : Int), Ld Tryz.prog 5 (.pointer (some a18)) wl1 (.int .u8 n19) ∧
    ∃ (a20 : Addr), IxA Tryz.prog 22 (.slice p1_1 l1_1 c1_1) (.int .u8 n19) a20 ∧
    ∃ (n21 : Int), Ld Tryz.prog 5 (.pointer (some a20)) wl1 (.int .u8 n21) ∧
    ∃ (p22 : Option Addr) (l22 : Nat) (c22 : Nat) (w2 : World), Ef Tryz.prog (Instr.buildSlice 22 1 #[(0, .int .u8 n21)]) wl1 (.slice p22 l22 c22) w2 ∧
    ∃ (p23 : Option Addr) (l23 : Nat) (c23 : Nat) (w3 : World), Ef Tryz.prog (Builtin.append_ #[22, 22] 22 #[.slice p5 l5 c5, .slice p22 l22 c22]) w2 (.slice p23 l23 c23) w3 ∧
    goesOn [] [] I1 μ1 us1 [.slice p0_1 l0_1 c0_1, .slice p1_1 l1_1 c1_1, .slice p4 l4 c4, .slice p23 l23 c23, .int .i64 (IntKind.i64.wrap (n6 + 1))] wl1 w3)
  (Q (.slice p5 l5 c5) wl1)
def ref03_subs_tt : Nat → List (Nat × TypeId) := fun n => match n with | 0 => [(0, 22), (1, 22), (4, 22), (5, 22), (6, 3)] | _ => []
theorem ref03_subs_call (p0 : Option Addr) (l0 : Nat) (c0 : Nat) (p1 : Option Addr) (l1 : Nat) (c1 : Nat) (w : World) (Q : Value → World → Prop) (h : ref03_subs p0 l0 c0 p1 l1 c1 w Q) : callF Tryz.prog 146 #[.slice p0 l0 c0, .slice p1 l1 c1] w Q :=
  callF_of (fun _ _ => by kernel_rfl) (callK_of_sw ref03_subs_tt Tryz.func146 rfl (by kernel_rfl) (show sw Tryz.prog none 25 ref03_subs_tt _ 0 (endK Tryz.prog [.tmp 4] Q) ⟨regs [.slice p0 l0 c0, .slice p1 l1 c1], []⟩ w from
    Eq.mp (by kernel_rfl : ref03_subs p0 l0 c0 p1 l1 c1 w Q = sw Tryz.prog none 25 ref03_subs_tt (Tryz.f146.body.getD .skip) 0 (endK Tryz.prog [.tmp 4] Q) ⟨regs [.slice p0 l0 c0, .slice p1 l1 c1], []⟩ w) h))

def ref03_columns_j1 (I1 : Inv) (μ1 : Meas) (us1 : List Value) (wl1 : World) (I2 : Inv) (μ2 : Meas) (us2 : List Value) (wl2 : World) (p0 : Option Addr) (l0 : Nat) (c0 : Nat) (a3 : Addr) (p4 : Option Addr) (l4 : Nat) (c4 : Nat) (p5 : Option Addr) (l5 : Nat) (c5 : Nat) (n6 : Int) (n7 : Int) (n8 : Int) (w : World) (Q : Value → World → Prop) : Prop :=
  callF Tryz.prog 165 #[.int .i64 n7, .int .i64 n6] w fun r42 w1 =>
  ∃ (n42 : Int), r42 = .int .i64 n42 ∧
  ∃ (a44 : Addr), IxA Tryz.prog 22 (.slice p5 l5 c5) (.int .i64 n42) a44 ∧
  ∃ (w2 : World), Sto Tryz.prog 5 (.pointer (some a44)) (.int .u8 n8) w1 w2 ∧
  goesOn [] [] I2 μ2 us2 [.slice p0 l0 c0, .pointer (some a3), .slice p4 l4 c4, .slice p5 l5 c5, .int .i64 n6, .int .i64 (IntKind.i64.wrap (n7 + 1))] wl2 w2
def ref03_columns (p0 : Option Addr) (l0 : Nat) (c0 : Nat) (cs1 : Array Value) (w : World) (Q : Value → World → Prop) : Prop :=
  New cs1 147 w fun k3 w1 =>
  ∃ (p10 : Option Addr) (l10 : Nat) (c10 : Nat) (w2 : World), Ef Tryz.prog (Instr.makeSlice 22 (.int .i64 16) (.int .i64 16)) w1 (.slice p10 l10 c10) w2 ∧
  LoopS [.slice p0 l0 c0, .pointer (some (⟨k3, 0, none⟩ : Addr)), .slice none 0 0, .slice p10 l10 c10, .int .i64 0] w2 fun I1 μ1 us1 _ wl1 =>
  ∃ (p0_1 : Option Addr) (l0_1 : Nat) (c0_1 : Nat) (a3 : Addr) (p4 : Option Addr) (l4 : Nat) (c4 : Nat) (p5 : Option Addr) (l5 : Nat) (c5 : Nat) (n6 : Int), us1 = [.slice p0_1 l0_1 c0_1, .pointer (some a3), .slice p4 l4 c4, .slice p5 l5 c5, .int .i64 n6] ∧
  cond (decide (n6 < 4))
  (LoopS [.slice p0_1 l0_1 c0_1, .pointer (some a3), .slice p4 l4 c4, .slice p5 l5 c5, .int .i64 n6, .int .i64 0] wl1 fun I2 μ2 us2 _ wl2 =>
    ∃ (p0_2 : Option Addr) (l0_2 : Nat) (c0_2 : Nat) (a3_1 : Addr) (p4_1 : Option Addr) (l4_1 : Nat) (c4_1 : Nat) (p5_1 : Option Addr) (l5_1 : Nat) (c5_1 : Nat) (n6_1 : Int) (n7 : Int), us2 = [.slice p0_2 l0_2 c0_2, .pointer (some a3_1), .slice p4_1 l4_1 c4_1, .slice p5_1 l5_1 c5_1, .int .i64 n6_1, .int .i64 n7] ∧
    cond (decide (n7 < 4))
    (LoopS [.slice p0_2 l0_2 c0_2, .pointer (some a3_1), .slice p4_1 l4_1 c4_1, .slice p5_1 l5_1 c5_1, .int .i64 n6_1, .int .i64 n7, .int .u8 0, .int .i64 0] wl2 fun I3 μ3 us3 _ wl3 =>
      ∃ (p0_3 : Option Addr) (l0_3 : Nat) (c0_3 : Nat) (a3_2 : Addr) (p4_2 : Option Addr) (l4_2 : Nat) (c4_2 : Nat) (p5_2 : Option Addr) (l5_2 : Nat) (c5_2 : Nat) (n6_2 : Int) (n7_1 : Int) (n8 : Int) (n9 : Int), us3 = [.slice p0_3 l0_3 c0_3, .pointer (some a3_2), .slice p4_2 l4_2 c4_2, .slice p5_2 l5_2 c5_2, .int .i64 n6_2, .int .i64 n7_1, .int .u8 n8, .int .i64 n9] ∧
      cond (decide (n9 < 4))
      (∃ (S12 : World → Prop),
        Drw wl3 fun w3 =>
        ∃ (a29 : Addr), IxA Tryz.prog 147 (.pointer (some a3_2)) (.int .i64 (Int.tmod (IntKind.i64.wrap ((IntKind.i64.wrap (n9 + 4)) - n7_1)) 4)) a29 ∧
        ∃ (n30 : Int), HLd Tryz.prog S12 5 (.pointer (some a29)) w3 (.int .u8 n30) ∧
        callF Tryz.prog 165 #[.int .i64 n9, .int .i64 n6_2] w3 fun r34 w4 =>
        ∃ (n34 : Int), r34 = .int .i64 n34 ∧
        (w4 = w3 ∨ S12 w4) ∧
        ∃ (a35 : Addr), IxA Tryz.prog 22 (.slice p0_3 l0_3 c0_3) (.int .i64 n34) a35 ∧
        ∃ (n36 : Int), Ld Tryz.prog 5 (.pointer (some a35)) w4 (.int .u8 n36) ∧
        (w4 = w4 ∨ S12 w4) ∧
        callF Tryz.prog 148 #[.int .u8 n30, .int .u8 n36] w4 fun r37 w5 =>
        ∃ (n37 : Int), r37 = .int .u8 n37 ∧
        goesOn [] [] I3 μ3 us3 [.slice p0_3 l0_3 c0_3, .pointer (some a3_2), .slice p4_2 l4_2 c4_2, .slice p5_2 l5_2 c5_2, .int .i64 n6_2, .int .i64 n7_1, .int .u8 (ixor .u8 n8 n37), .int .i64 (IntKind.i64.wrap (n9 + 1))] wl3 w5)
      (ref03_columns_j1 I1 μ1 us1 wl1 I2 μ2 us2 wl2 p0_3 l0_3 c0_3 a3_2 p4_2 l4_2 c4_2 p5_2 l5_2 c5_2 n6_2 n7_1 n8 wl3 Q))
    (goesOn [] [] I1 μ1 us1 [.slice p0_2 l0_2 c0_2, .pointer (some a3_1), .slice p4_1 l4_1 c4_1, .slice p5_1 l5_1 c5_1, .int .i64 (IntKind.i64.wrap (n6_1 + 1))] wl1 wl2))
  (Q (.slice p5 l5 c5) wl1)
def ref03_columns_tt : Nat → List (Nat × TypeId) := fun n => match n with | 0 => [(0, 22), (3, 1000000), (4, 22), (5, 22), (6, 3)] | 2 => [(0, 22), (3, 1000000), (4, 22), (5, 22), (6, 3), (7, 3)] | 4 => [(0, 22), (3, 1000000), (4, 22), (5, 22), (6, 3), (7, 3), (8, 5), (9, 3)] | _ => []
theorem ref03_columns_call (p0 : Option Addr) (l0 : Nat) (c0 : Nat) (cs1 : Array Value) (w : World) (Q : Value → World → Prop) (h : ref03_columns p0 l0 c0 cs1 w Q) : callF Tryz.prog 147 #[.slice p0 l0 c0, .agg cs1] w Q :=
  callF_of (fun _ _ => by kernel_rfl) (callK_of_sw ref03_columns_tt Tryz.func147 rfl (by kernel_rfl) (show sw Tryz.prog none 46 ref03_columns_tt _ 0 (endK Tryz.prog [.tmp 4] Q) ⟨regs [.slice p0 l0 c0, .agg cs1], []⟩ w from
    Eq.mp (by kernel_rfl : ref03_columns p0 l0 c0 cs1 w Q = sw Tryz.prog none 46 ref03_columns_tt (Tryz.f147.body.getD .skip) 0 (endK Tryz.prog [.tmp 4] Q) ⟨regs [.slice p0 l0 c0, .agg cs1], []⟩ w) h))

def ref03_at (n0 : Int) (n1 : Int) (w : World) (Q : Value → World → Prop) : Prop :=
  Q (.int .i64 (IntKind.i64.wrap ((IntKind.i64.wrap (4 * (Int.tmod n1 4))) + n0))) w
def ref03_at_tt : Nat → List (Nat × TypeId) := fun _ => []
theorem ref03_at_call (n0 : Int) (n1 : Int) (w : World) (Q : Value → World → Prop) (h : ref03_at n0 n1 w Q) : callF Tryz.prog 165 #[.int .i64 n0, .int .i64 n1] w Q :=
  callF_of (fun _ _ => by kernel_rfl) (callK_of_sw ref03_at_tt Tryz.func165 rfl (by kernel_rfl) (show sw Tryz.prog none 10 ref03_at_tt _ 0 (endK Tryz.prog [.tmp 4] Q) ⟨regs [.int .i64 n0, .int .i64 n1], []⟩ w from
    Eq.mp (by kernel_rfl : ref03_at n0 n1 w Q = sw Tryz.prog none 10 ref03_at_tt (Tryz.f165.body.getD .skip) 0 (endK Tryz.prog [.tmp 4] Q) ⟨regs [.int .i64 n0, .int .i64 n1], []⟩ w) h))
end Go.Sh
end
