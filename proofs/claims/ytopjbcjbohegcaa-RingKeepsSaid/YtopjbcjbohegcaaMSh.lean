/- A part of a proof of a given law of this program: lemmas, printed forms of its functions, contracts. It has no conditions of its own. -/
import Derived.Test.YtopjbcjbohegcaaProg
import Derived.Test.YtopjbcjbohegcaaMFw

section
namespace Go.Sh
open Go
abbrev F_law19_RingCalls : FuncId := 3
abbrev F_law19_RingKeeps : FuncId := 4
abbrev F_law19_RingNewest : FuncId := 5
abbrev F_law19_alive : FuncId := 9
abbrev F_law19_Great : FuncId := 10
abbrev F_ring_New : FuncId := 11
abbrev F_law19_Do : FuncId := 12
abbrev F_law19_Agree : FuncId := 13
abbrev F_ring_Ring_Key : FuncId := 14
abbrev F_ring_Ring_Box : FuncId := 15
abbrev F_ref19_Ring_Find : FuncId := 16
abbrev F_ring_Ring_Clone : FuncId := 17
abbrev F_ref19_Ring_Copy : FuncId := 18
abbrev F_ring_Ring_Seqs : FuncId := 19
abbrev F_ring_Ring_Newest : FuncId := 20
abbrev F_ring_Ring_Install : FuncId := 21
abbrev F_ring_Ring_Retire : FuncId := 22
abbrev F_ref00_SameInts : FuncId := 23
abbrev F_gcm_New : FuncId := 26
abbrev F_ref00_SameBytes : FuncId := 29
abbrev F_ref00_CopyBytes : FuncId := 41
abbrev F_ref19_Ring_Install : FuncId := 42
abbrev F_ref19_Ring_Retire : FuncId := 43
abbrev F_ring_Ring_of : FuncId := 44
abbrev F_slices_Clone_byte_byte : FuncId := 45
abbrev F_ring_Ring_find : FuncId := 47
abbrev F_slices_Delete_ring_entry_ring_entry : FuncId := 48
abbrev F_aes_New : FuncId := 49
abbrev F_aes_Cipher_Encrypt : FuncId := 50
abbrev F_ghash_New : FuncId := 51
abbrev F_sync_atomic_Int64_Add : FuncId := 60
abbrev F_ring_Ring_find_c1 : FuncId := 69
abbrev F_field_New : FuncId := 70
abbrev F_aes_Cipher_turned : FuncId := 71
abbrev F_aes_word_plus : FuncId := 72
abbrev F_aes_block_add : FuncId := 73
abbrev F_aes_block_each : FuncId := 74
abbrev F_field_Tables_Sub : FuncId := 75
abbrev F_aes_block_rows : FuncId := 76
abbrev F_aes_block_columns : FuncId := 77
abbrev F_aes_Cipher_times : FuncId := 78
abbrev F_poly_Of : FuncId := 79
abbrev F_sync_atomic_AddInt64 : FuncId := 92
abbrev F_field_Pow : FuncId := 97
abbrev F_field_Tables_ready : FuncId := 98
abbrev F_field_Tables_Times : FuncId := 99
abbrev F_octet_Num : FuncId := 100
abbrev F_field_Mul : FuncId := 112
abbrev F_sync_Once_Do : FuncId := 113
abbrev F_field_Tables_make : FuncId := 114
abbrev F_field_double : FuncId := 120
abbrev F_sync_atomic_Bool_Load : FuncId := 121
abbrev F_field_sign : FuncId := 123
abbrev F_sync_atomic_LoadUint32 : FuncId := 128
abbrev F_sync_Mutex_Lock : FuncId := 129
abbrev F_field_Inv : FuncId := 132
abbrev F_field_Sum : FuncId := 133
abbrev F_field_turned : FuncId := 134
abbrev F_internal_sync_Mutex_Lock : FuncId := 141
abbrev F_internal_sync_Mutex_Unlock : FuncId := 142
abbrev F_sync_atomic_StoreUint32 : FuncId := 143
abbrev F_internal_race_Disable : FuncId := 147
abbrev F_sync_atomic_CompareAndSwapInt32 : FuncId := 148
abbrev F_internal_race_Enable : FuncId := 149
abbrev F_internal_race_Acquire : FuncId := 150
abbrev F_internal_race_ReleaseMerge : FuncId := 152
abbrev F_sync_atomic_AddInt32 : FuncId := 153
abbrev T_int : TypeId := 3
abbrev T_bool : TypeId := 4
abbrev T_uint8 : TypeId := 5
abbrev T_S_law19_Call : TypeId := 22
abbrev T_S_uint8 : TypeId := 23
abbrev T_law19_Call : TypeId := 25
abbrev T_S_ref19_Row : TypeId := 31
abbrev T_P_gcm_Box : TypeId := 38
abbrev T_S_int : TypeId := 44
abbrev T_A128_bool : TypeId := 53
abbrev T_S_ring_entry : TypeId := 79
abbrev T_ring_Ring : TypeId := 81
abbrev T_ref19_Row : TypeId := 84
abbrev T_ring_entry : TypeId := 86
abbrev T_S_S_uint8 : TypeId := 91
abbrev T_aes_block : TypeId := 127
abbrev T_A11_aes_block : TypeId := 128
abbrev T_aes_word : TypeId := 132
abbrev T_poly_Elem : TypeId := 145
abbrev T_S_field_table : TypeId := 181
end Go.Sh
end

section
namespace Go.Sh
open Go Go.Fw Go.Proofs
set_option maxRecDepth 100000
theorem sync_atomic_AddInt64_c {b n o : Nat} {g : Nat → Value} {x y : Int} {w : World} (hB : Blk w b n g) (ho : o < n) (hv : g o = .int .i64 x) {K : Value → World → Prop} (h : ∀ w', Fr [b] w w' → Blk w' b n (upd g o (.int .i64 (IntKind.i64.wrap (x + y)))) → w'.heap.size = w.heap.size → K (.int .i64 (IntKind.i64.wrap (x + y))) w') : callF Try.prog F_sync_atomic_AddInt64 #[.pointer (some ⟨b, o, none⟩), .int .i64 y] w K := add_c Try.func92 (by kernel_rfl) (by kernel_rfl) (by kernel_rfl) .i64 (by kernel_rfl) hB ho hv h
theorem sync_atomic_LoadUint32_c {b n o : Nat} {g : Nat → Value} {x : Int} {w : World} (hB : Blk w b n g) (ho : o < n) (hv : g o = .int .u32 x) {K : Value → World → Prop} (h : K (.int .u32 x) w) : callF Try.prog F_sync_atomic_LoadUint32 #[.pointer (some ⟨b, o, none⟩)] w K := load_c Try.func128 (by kernel_rfl) (by kernel_rfl) (by kernel_rfl) .u32 (by kernel_rfl) hB ho hv h
theorem sync_atomic_StoreUint32_c {b n o : Nat} {g : Nat → Value} {y : Int} {w : World} (hB : Blk w b n g) (ho : o < n) {K : Value → World → Prop} (h : ∀ w', Fr [b] w w' → Blk w' b n (upd g o (.int .u32 y)) → w'.heap.size = w.heap.size → K (.tuple #[]) w') : callF Try.prog F_sync_atomic_StoreUint32 #[.pointer (some ⟨b, o, none⟩), .int .u32 y] w K := storeA_c Try.func143 (by kernel_rfl) (by kernel_rfl) (by kernel_rfl) (by kernel_rfl) hB ho h
theorem internal_race_Disable_c {w : World} {K : Value → World → Prop} (h : K (.tuple #[]) w) : callF Try.prog F_internal_race_Disable #[] w K := mark0_c Try.func147 (by kernel_rfl) (by kernel_rfl) (by kernel_rfl) .disable (by kernel_rfl) h
theorem sync_atomic_CompareAndSwapInt32_c {b n o : Nat} {g : Nat → Value} {x y : Int} {w : World} (hB : Blk w b n g) (ho : o < n) (hv : g o = .int .i32 x) {K : Value → World → Prop} (h : ∀ w', Fr [b] w w' → Blk w' b n (upd g o (.int .i32 y)) → w'.heap.size = w.heap.size → K (.bool true) w') : callF Try.prog F_sync_atomic_CompareAndSwapInt32 #[.pointer (some ⟨b, o, none⟩), .int .i32 x, .int .i32 y] w K := cas_c Try.func148 (by kernel_rfl) (by kernel_rfl) (by kernel_rfl) .i32 (by kernel_rfl) hB ho hv h
theorem internal_race_Enable_c {w : World} {K : Value → World → Prop} (h : K (.tuple #[]) w) : callF Try.prog F_internal_race_Enable #[] w K := mark0_c Try.func149 (by kernel_rfl) (by kernel_rfl) (by kernel_rfl) .enable (by kernel_rfl) h
theorem internal_race_Acquire_c {a : Addr} {w : World} {K : Value → World → Prop} (h : K (.tuple #[]) w) : callF Try.prog F_internal_race_Acquire #[.pointer (some a)] w K := marked_c Try.func150 (by kernel_rfl) (by kernel_rfl) (by kernel_rfl) .acquire (by kernel_rfl) h
theorem internal_race_ReleaseMerge_c {a : Addr} {w : World} {K : Value → World → Prop} (h : K (.tuple #[]) w) : callF Try.prog F_internal_race_ReleaseMerge #[.pointer (some a)] w K := marked_c Try.func152 (by kernel_rfl) (by kernel_rfl) (by kernel_rfl) .releaseMerge (by kernel_rfl) h
theorem sync_atomic_AddInt32_c {b n o : Nat} {g : Nat → Value} {x y : Int} {w : World} (hB : Blk w b n g) (ho : o < n) (hv : g o = .int .i32 x) {K : Value → World → Prop} (h : ∀ w', Fr [b] w w' → Blk w' b n (upd g o (.int .i32 (IntKind.i32.wrap (x + y)))) → w'.heap.size = w.heap.size → K (.int .i32 (IntKind.i32.wrap (x + y))) w') : callF Try.prog F_sync_atomic_AddInt32 #[.pointer (some ⟨b, o, none⟩), .int .i32 y] w K := add_c Try.func153 (by kernel_rfl) (by kernel_rfl) (by kernel_rfl) .i32 (by kernel_rfl) hB ho hv h
end Go.Sh
end

section
namespace Go.Sh
open Go Go.Fw Go.Proofs
set_option maxRecDepth 100000
set_option linter.unusedVariables false

def sync_atomic_Int64_Add (p0 : Option Addr) (n1 : Int) (w : World) (Q : Value → World → Prop) : Prop :=
  ∃ (a6 : Addr), p0 = some a6 ∧
  callF Try.prog 92 #[.pointer (some (a6.add 0)), .int .i64 n1] w fun r9 w1 =>
  ∃ (n9 : Int), r9 = .int .i64 n9 ∧
  Q (.int .i64 n9) w1
def sync_atomic_Int64_Add_tt : Nat → List (Nat × TypeId) := fun _ => []
theorem sync_atomic_Int64_Add_call (p0 : Option Addr) (n1 : Int) (w : World) (Q : Value → World → Prop) (h : sync_atomic_Int64_Add p0 n1 w Q) : callF Try.prog 60 #[.pointer p0, .int .i64 n1] w Q :=
  callF_of (fun _ _ => by kernel_rfl) (callK_of_sw sync_atomic_Int64_Add_tt Try.func60 rfl (by kernel_rfl) (show sw Try.prog none 10 sync_atomic_Int64_Add_tt _ 0 (endK Try.prog [.tmp 4] Q) ⟨regs [.pointer p0, .int .i64 n1], []⟩ w from
    Eq.mp (by kernel_rfl : sync_atomic_Int64_Add p0 n1 w Q = sw Try.prog none 10 sync_atomic_Int64_Add_tt (Try.f60.body.getD .skip) 0 (endK Try.prog [.tmp 4] Q) ⟨regs [.pointer p0, .int .i64 n1], []⟩ w) h))

def sync_atomic_Bool_Load (p0 : Option Addr) (w : World) (Q : Value → World → Prop) : Prop :=
  ∃ (a4 : Addr), p0 = some a4 ∧
  callF Try.prog 128 #[.pointer (some (a4.add 0))] w fun r6 w1 =>
  ∃ (n6 : Int), r6 = .int .u32 n6 ∧
  Q (.bool (n6 != 0)) w1
def sync_atomic_Bool_Load_tt : Nat → List (Nat × TypeId) := fun _ => []
theorem sync_atomic_Bool_Load_call (p0 : Option Addr) (w : World) (Q : Value → World → Prop) (h : sync_atomic_Bool_Load p0 w Q) : callF Try.prog 121 #[.pointer p0] w Q :=
  callF_of (fun _ _ => by kernel_rfl) (callK_of_sw sync_atomic_Bool_Load_tt Try.func121 rfl (by kernel_rfl) (show sw Try.prog none 8 sync_atomic_Bool_Load_tt _ 0 (endK Try.prog [.tmp 2] Q) ⟨regs [.pointer p0], []⟩ w from
    Eq.mp (by kernel_rfl : sync_atomic_Bool_Load p0 w Q = sw Try.prog none 8 sync_atomic_Bool_Load_tt (Try.f121.body.getD .skip) 0 (endK Try.prog [.tmp 2] Q) ⟨regs [.pointer p0], []⟩ w) h))

def sync_atomic_Bool_Store (p0 : Option Addr) (b1 : Bool) (w : World) (Q : Value → World → Prop) : Prop :=
  Drw w fun w1 =>
  ∃ (a5 : Addr), p0 = some a5 ∧
  callF Try.prog 144 #[.bool b1] w1 fun r8 w2 =>
  ∃ (n8 : Int), r8 = .int .u32 n8 ∧
  callF Try.prog 143 #[.pointer (some (a5.add 0)), .int .u32 n8] w2 fun r9 w3 =>
  r9 = .tuple #[] ∧
  Q (.tuple #[]) w3
def sync_atomic_Bool_Store_tt : Nat → List (Nat × TypeId) := fun _ => []
theorem sync_atomic_Bool_Store_calld (p0 : Option Addr) (b1 : Bool) (w : World) (K : World → Prop) (h : sync_atomic_Bool_Store p0 b1 w (fun _ w => K w)) : callDF Try.prog 131 #[.pointer p0, .bool b1] w K :=
  ⟨fun _ _ => by kernel_rfl, callD_of_sw sync_atomic_Bool_Store_tt Try.func131 rfl (by kernel_rfl) (show sw Try.prog none 10 sync_atomic_Bool_Store_tt _ 0 (endD Try.prog [] K) ⟨regs [.pointer p0, .bool b1], []⟩ w from
    Eq.mp (by kernel_rfl : sync_atomic_Bool_Store p0 b1 w (fun _ w => K w) = sw Try.prog none 10 sync_atomic_Bool_Store_tt (Try.f131.body.getD .skip) 0 (endD Try.prog [] K) ⟨regs [.pointer p0, .bool b1], []⟩ w) h)⟩

def sync_atomic_b32 (b0 : Bool) (w : World) (Q : Value → World → Prop) : Prop :=
  cond b0
  (Q (.int .u32 1) w)
  (Q (.int .u32 0) w)
def sync_atomic_b32_tt : Nat → List (Nat × TypeId) := fun _ => []
theorem sync_atomic_b32_call (b0 : Bool) (w : World) (Q : Value → World → Prop) (h : sync_atomic_b32 b0 w Q) : callF Try.prog 144 #[.bool b0] w Q :=
  callF_of (fun _ _ => by kernel_rfl) (callK_of_sw sync_atomic_b32_tt Try.func144 rfl (by kernel_rfl) (show sw Try.prog none 4 sync_atomic_b32_tt _ 0 (endK Try.prog [.tmp 2] Q) ⟨regs [.bool b0], []⟩ w from
    Eq.mp (by kernel_rfl : sync_atomic_b32 b0 w Q = sw Try.prog none 4 sync_atomic_b32_tt (Try.f144.body.getD .skip) 0 (endK Try.prog [.tmp 2] Q) ⟨regs [.bool b0], []⟩ w) h))
end Go.Sh
end

section
namespace Go.Sh
open Go Go.Fw Go.Proofs
set_option maxRecDepth 100000
set_option linter.unusedVariables false

def internal_sync_Mutex_Lock (p0 : Option Addr) (w : World) (Q : Value → World → Prop) : Prop :=
  callF Try.prog 147 #[] w fun r2 w1 =>
  r2 = .tuple #[] ∧
  ∃ (a4 : Addr), p0 = some a4 ∧
  callF Try.prog 148 #[.pointer (some (a4.add 0)), .int .i32 0, .int .i32 1] w1 fun r6 w2 =>
  ∃ (b6 : Bool), r6 = .bool b6 ∧
  cond b6
  (callF Try.prog 149 #[] w2 fun r7 w3 =>
    r7 = .tuple #[] ∧
    ∃ (v9 : Value) (w4 : World), Ef Try.prog (convert 235 239 (.pointer p0)) w3 (v9) w4 ∧
    callF Try.prog 150 #[v9] w4 fun r10 w5 =>
    r10 = .tuple #[] ∧
    Q (.tuple #[]) w5)
  (callF Try.prog 151 #[.pointer p0] w2 fun r12 w6 =>
    r12 = .tuple #[] ∧
    Q (.tuple #[]) w6)
def internal_sync_Mutex_Lock_tt : Nat → List (Nat × TypeId) := fun _ => []
theorem internal_sync_Mutex_Lock_call (p0 : Option Addr) (w : World) (Q : Value → World → Prop) (h : internal_sync_Mutex_Lock p0 w Q) : callF Try.prog 141 #[.pointer p0] w Q :=
  callF_of (fun _ _ => by kernel_rfl) (callK_of_sw internal_sync_Mutex_Lock_tt Try.func141 rfl (by kernel_rfl) (show sw Try.prog none 13 internal_sync_Mutex_Lock_tt _ 0 (endK Try.prog [] Q) ⟨regs [.pointer p0], []⟩ w from
    Eq.mp (by kernel_rfl : internal_sync_Mutex_Lock p0 w Q = sw Try.prog none 13 internal_sync_Mutex_Lock_tt (Try.f141.body.getD .skip) 0 (endK Try.prog [] Q) ⟨regs [.pointer p0], []⟩ w) h))

def internal_sync_Mutex_Unlock_j1 (p0 : Option Addr) (w : World) (Q : Value → World → Prop) : Prop :=
  ∃ (a12 : Addr), p0 = some a12 ∧
  callF Try.prog 153 #[.pointer (some (a12.add 0)), .int .i32 (-1)] w fun r14 w1 =>
  ∃ (n14 : Int), r14 = .int .i32 n14 ∧
  cond (n14 != 0)
  (callF Try.prog 154 #[.pointer p0, .int .i32 n14] w1 fun r19 w2 =>
    r19 = .tuple #[] ∧
    callF Try.prog 149 #[] w2 fun r20 w3 =>
    r20 = .tuple #[] ∧
    Q (.tuple #[]) w3)
  (callF Try.prog 149 #[] w1 fun r20_1 w4 =>
    r20_1 = .tuple #[] ∧
    Q (.tuple #[]) w4)
def internal_sync_Mutex_Unlock (p0 : Option Addr) (w : World) (Q : Value → World → Prop) : Prop :=
  ∃ (a4 : Addr), p0 = some a4 ∧
  ∃ (n6 : Int), Ld Try.prog 21 (.pointer (some (a4.add 0))) w (.int .i32 n6) ∧
  ∃ (v8 : Value) (w1 : World), Ef Try.prog (convert 235 239 (.pointer p0)) w (v8) w1 ∧
  callF Try.prog 152 #[v8] w1 fun r9 w2 =>
  r9 = .tuple #[] ∧
  callF Try.prog 147 #[] w2 fun r10 w3 =>
  r10 = .tuple #[] ∧
  internal_sync_Mutex_Unlock_j1 p0 w3 Q
def internal_sync_Mutex_Unlock_tt : Nat → List (Nat × TypeId) := fun _ => []
theorem internal_sync_Mutex_Unlock_call (p0 : Option Addr) (w : World) (Q : Value → World → Prop) (h : internal_sync_Mutex_Unlock p0 w Q) : callF Try.prog 142 #[.pointer p0] w Q :=
  callF_of (fun _ _ => by kernel_rfl) (callK_of_sw internal_sync_Mutex_Unlock_tt Try.func142 rfl (by kernel_rfl) (show sw Try.prog none 21 internal_sync_Mutex_Unlock_tt _ 0 (endK Try.prog [] Q) ⟨regs [.pointer p0], []⟩ w from
    Eq.mp (by kernel_rfl : internal_sync_Mutex_Unlock p0 w Q = sw Try.prog none 21 internal_sync_Mutex_Unlock_tt (Try.f142.body.getD .skip) 0 (endK Try.prog [] Q) ⟨regs [.pointer p0], []⟩ w) h))
end Go.Sh
end

section
namespace Go.Sh
open Go Go.Fw Go.Proofs
set_option maxRecDepth 100000
set_option linter.unusedVariables false

def sync_Once_Do (p0 : Option Addr) (v1 : Value) (w : World) (Q : Value → World → Prop) : Prop :=
  ∃ (a5 : Addr), p0 = some a5 ∧
  callF Try.prog 121 #[.pointer (some (a5.add 0))] w fun r7 w1 =>
  ∃ (b7 : Bool), r7 = .bool b7 ∧
  cond (!b7)
  (callF Try.prog 122 #[.pointer p0, v1] w1 fun r11 w2 =>
    r11 = .tuple #[] ∧
    Q (.tuple #[]) w2)
  (Q (.tuple #[]) w1)
def sync_Once_Do_tt : Nat → List (Nat × TypeId) := fun _ => []
theorem sync_Once_Do_call (p0 : Option Addr) (v1 : Value) (w : World) (Q : Value → World → Prop) (h : sync_Once_Do p0 v1 w Q) : callF Try.prog 113 #[.pointer p0, v1] w Q :=
  callF_of (fun _ _ => by kernel_rfl) (callK_of_sw sync_Once_Do_tt Try.func113 rfl (by kernel_rfl) (show sw Try.prog none 12 sync_Once_Do_tt _ 0 (endK Try.prog [] Q) ⟨regs [.pointer p0, v1], []⟩ w from
    Eq.mp (by kernel_rfl : sync_Once_Do p0 v1 w Q = sw Try.prog none 12 sync_Once_Do_tt (Try.f113.body.getD .skip) 0 (endK Try.prog [] Q) ⟨regs [.pointer p0, v1], []⟩ w) h))

def sync_Once_doSlow (p0 : Option Addr) (v1 : Value) (w : World) (Q : Value → World → Prop) : Prop :=
  ∃ (a5 : Addr), p0 = some a5 ∧
  callF Try.prog 129 #[.pointer (some (a5.add 1))] w fun r7 w1 =>
  r7 = .tuple #[] ∧
  ∃ (a9 : Addr), p0 = some a9 ∧
  ∃ (a12 : Addr), p0 = some a12 ∧
  callF Try.prog 121 #[.pointer (some (a12.add 0))] w1 fun r14 w2 =>
  ∃ (b14 : Bool), r14 = .bool b14 ∧
  cond (!b14)
  (∃ (a17 : Addr), p0 = some a17 ∧
    callV Try.prog (v1) [] w2 fun r20 w3 =>
    r20 = .tuple #[] ∧
    callDF Try.prog 131 #[.pointer (some (a17.add 0)), .bool true] w3 fun w4 =>
    callDF Try.prog 130 #[.pointer (some (a9.add 1))] w4 fun w5 =>
    Q (.tuple #[]) w5)
  (callDF Try.prog 130 #[.pointer (some (a9.add 1))] w2 fun w6 =>
    Q (.tuple #[]) w6)
def sync_Once_doSlow_tt : Nat → List (Nat × TypeId) := fun _ => []
theorem sync_Once_doSlow_call (p0 : Option Addr) (v1 : Value) (w : World) (Q : Value → World → Prop) (h : sync_Once_doSlow p0 v1 w Q) : callF Try.prog 122 #[.pointer p0, v1] w Q :=
  callF_of (fun _ _ => by kernel_rfl) (callK_of_sw sync_Once_doSlow_tt Try.func122 rfl (by kernel_rfl) (show sw Try.prog none 21 sync_Once_doSlow_tt _ 0 (endK Try.prog [] Q) ⟨regs [.pointer p0, v1], []⟩ w from
    Eq.mp (by kernel_rfl : sync_Once_doSlow p0 v1 w Q = sw Try.prog none 21 sync_Once_doSlow_tt (Try.f122.body.getD .skip) 0 (endK Try.prog [] Q) ⟨regs [.pointer p0, v1], []⟩ w) h))

def sync_Mutex_Lock (p0 : Option Addr) (w : World) (Q : Value → World → Prop) : Prop :=
  ∃ (a3 : Addr), p0 = some a3 ∧
  callF Try.prog 141 #[.pointer (some (a3.add 0))] w fun r5 w1 =>
  r5 = .tuple #[] ∧
  Q (.tuple #[]) w1
def sync_Mutex_Lock_tt : Nat → List (Nat × TypeId) := fun _ => []
theorem sync_Mutex_Lock_call (p0 : Option Addr) (w : World) (Q : Value → World → Prop) (h : sync_Mutex_Lock p0 w Q) : callF Try.prog 129 #[.pointer p0] w Q :=
  callF_of (fun _ _ => by kernel_rfl) (callK_of_sw sync_Mutex_Lock_tt Try.func129 rfl (by kernel_rfl) (show sw Try.prog none 6 sync_Mutex_Lock_tt _ 0 (endK Try.prog [] Q) ⟨regs [.pointer p0], []⟩ w from
    Eq.mp (by kernel_rfl : sync_Mutex_Lock p0 w Q = sw Try.prog none 6 sync_Mutex_Lock_tt (Try.f129.body.getD .skip) 0 (endK Try.prog [] Q) ⟨regs [.pointer p0], []⟩ w) h))

def sync_Mutex_Unlock (p0 : Option Addr) (w : World) (Q : Value → World → Prop) : Prop :=
  ∃ (a3 : Addr), p0 = some a3 ∧
  callF Try.prog 142 #[.pointer (some (a3.add 0))] w fun r5 w1 =>
  r5 = .tuple #[] ∧
  Q (.tuple #[]) w1
def sync_Mutex_Unlock_tt : Nat → List (Nat × TypeId) := fun _ => []
theorem sync_Mutex_Unlock_calld (p0 : Option Addr) (w : World) (K : World → Prop) (h : sync_Mutex_Unlock p0 w (fun _ w => K w)) : callDF Try.prog 130 #[.pointer p0] w K :=
  ⟨fun _ _ => by kernel_rfl, callD_of_sw sync_Mutex_Unlock_tt Try.func130 rfl (by kernel_rfl) (show sw Try.prog none 6 sync_Mutex_Unlock_tt _ 0 (endD Try.prog [] K) ⟨regs [.pointer p0], []⟩ w from
    Eq.mp (by kernel_rfl : sync_Mutex_Unlock p0 w (fun _ w => K w) = sw Try.prog none 6 sync_Mutex_Unlock_tt (Try.f130.body.getD .skip) 0 (endD Try.prog [] K) ⟨regs [.pointer p0], []⟩ w) h)⟩
end Go.Sh
end

section
namespace Go.Sh
open Go Go.Fw Go.Proofs
set_option maxRecDepth 100000
set_option linter.unusedVariables false

def slices_Clone_byte_byte (p0 : Option Addr) (l0 : Nat) (c0 : Nat) (w : World) (Q : Value → World → Prop) : Prop :=
  ∃ (b4 : Bool) (w1 : World), Ef Try.prog (do eqGuard .eql 23 (.tmp 3) (.const (.slice none 0 0)) (.slice p0 l0 c0) (.slice none 0 0); binOp .eql 23 (.slice p0 l0 c0) (.slice none 0 0) : Sem Value) w (.bool b4) w1 ∧
  cond b4
  (Q (.slice none 0 0) w1)
  (∃ (p5 : Option Addr) (l5 : Nat) (c5 : Nat) (w2 : World), Ef Try.prog (Instr.buildSlice 23 0 #[]) w1 (.slice p5 l5 c5) w2 ∧
    ∃ (p7 : Option Addr) (l7 : Nat) (c7 : Nat) (w3 : World), Ef Try.prog (Builtin.append_ #[23, 23] 23 #[.slice p5 l5 c5, .slice p0 l0 c0]) w2 (.slice p7 l7 c7) w3 ∧
    Q (.slice p7 l7 c7) w3)
def slices_Clone_byte_byte_tt : Nat → List (Nat × TypeId) := fun _ => []
theorem slices_Clone_byte_byte_call (p0 : Option Addr) (l0 : Nat) (c0 : Nat) (w : World) (Q : Value → World → Prop) (h : slices_Clone_byte_byte p0 l0 c0 w Q) : callF Try.prog 45 #[.slice p0 l0 c0] w Q :=
  callF_of (fun _ _ => by kernel_rfl) (callK_of_sw slices_Clone_byte_byte_tt Try.func45 rfl (by kernel_rfl) (show sw Try.prog none 8 slices_Clone_byte_byte_tt _ 0 (endK Try.prog [.tmp 2] Q) ⟨regs [.slice p0 l0 c0], []⟩ w from
    Eq.mp (by kernel_rfl : slices_Clone_byte_byte p0 l0 c0 w Q = sw Try.prog none 8 slices_Clone_byte_byte_tt (Try.f45.body.getD .skip) 0 (endK Try.prog [.tmp 2] Q) ⟨regs [.slice p0 l0 c0], []⟩ w) h))

def slices_Clone_ring_entry_ring_entry (p0 : Option Addr) (l0 : Nat) (c0 : Nat) (w : World) (Q : Value → World → Prop) : Prop :=
  ∃ (b4 : Bool) (w1 : World), Ef Try.prog (do eqGuard .eql 79 (.tmp 3) (.const (.slice none 0 0)) (.slice p0 l0 c0) (.slice none 0 0); binOp .eql 79 (.slice p0 l0 c0) (.slice none 0 0) : Sem Value) w (.bool b4) w1 ∧
  cond b4
  (Q (.slice none 0 0) w1)
  (∃ (p5 : Option Addr) (l5 : Nat) (c5 : Nat) (w2 : World), Ef Try.prog (Instr.buildSlice 79 0 #[]) w1 (.slice p5 l5 c5) w2 ∧
    ∃ (p7 : Option Addr) (l7 : Nat) (c7 : Nat) (w3 : World), Ef Try.prog (Builtin.append_ #[79, 79] 79 #[.slice p5 l5 c5, .slice p0 l0 c0]) w2 (.slice p7 l7 c7) w3 ∧
    Q (.slice p7 l7 c7) w3)
def slices_Clone_ring_entry_ring_entry_tt : Nat → List (Nat × TypeId) := fun _ => []
theorem slices_Clone_ring_entry_ring_entry_call (p0 : Option Addr) (l0 : Nat) (c0 : Nat) (w : World) (Q : Value → World → Prop) (h : slices_Clone_ring_entry_ring_entry p0 l0 c0 w Q) : callF Try.prog 46 #[.slice p0 l0 c0] w Q :=
  callF_of (fun _ _ => by kernel_rfl) (callK_of_sw slices_Clone_ring_entry_ring_entry_tt Try.func46 rfl (by kernel_rfl) (show sw Try.prog none 8 slices_Clone_ring_entry_ring_entry_tt _ 0 (endK Try.prog [.tmp 2] Q) ⟨regs [.slice p0 l0 c0], []⟩ w from
    Eq.mp (by kernel_rfl : slices_Clone_ring_entry_ring_entry p0 l0 c0 w Q = sw Try.prog none 8 slices_Clone_ring_entry_ring_entry_tt (Try.f46.body.getD .skip) 0 (endK Try.prog [.tmp 2] Q) ⟨regs [.slice p0 l0 c0], []⟩ w) h))

def slices_Delete_ring_entry_ring_entry (p0 : Option Addr) (l0 : Nat) (c0 : Nat) (n1 : Int) (n2 : Int) (w : World) (Q : Value → World → Prop) : Prop :=
  ∃ (p13 : Option Addr) (l13 : Nat) (c13 : Nat), Pu Try.prog (Instr.sliceAt 79 (.slice p0 l0 c0) (some (.int .i64 n1)) (some (.int .i64 n2)) (some (.int .i64 ((l0 : Nat) : Int)))) (.slice p13 l13 c13) ∧
  cond (n1 == n2)
  (Q (.slice p0 l0 c0) w)
  (Drw w fun w1 =>
    ∃ (p22 : Option Addr) (l22 : Nat) (c22 : Nat), Pu Try.prog (Instr.sliceAt 79 (.slice p0 l0 c0) none (some (.int .i64 n1)) none) (.slice p22 l22 c22) ∧
    ∃ (p25 : Option Addr) (l25 : Nat) (c25 : Nat), Pu Try.prog (Instr.sliceAt 79 (.slice p0 l0 c0) (some (.int .i64 n2)) none none) (.slice p25 l25 c25) ∧
    ∃ (p26 : Option Addr) (l26 : Nat) (c26 : Nat) (w2 : World), Ef Try.prog (Builtin.append_ #[79, 79] 79 #[.slice p22 l22 c22, .slice p25 l25 c25]) w1 (.slice p26 l26 c26) w2 ∧
    ∃ (p31 : Option Addr) (l31 : Nat) (c31 : Nat), Pu Try.prog (Instr.sliceAt 79 (.slice p26 l26 c26) (some (.int .i64 ((l26 : Nat) : Int))) (some (.int .i64 ((l0 : Nat) : Int))) none) (.slice p31 l31 c31) ∧
    ∃ (w3 : World), Ef Try.prog (Builtin.clear_ #[79] 0 #[.slice p31 l31 c31]) w2 (.tuple #[]) w3 ∧
    Q (.slice p26 l26 c26) w3)
def slices_Delete_ring_entry_ring_entry_tt : Nat → List (Nat × TypeId) := fun _ => []
theorem slices_Delete_ring_entry_ring_entry_call (p0 : Option Addr) (l0 : Nat) (c0 : Nat) (n1 : Int) (n2 : Int) (w : World) (Q : Value → World → Prop) (h : slices_Delete_ring_entry_ring_entry p0 l0 c0 n1 n2 w Q) : callF Try.prog 48 #[.slice p0 l0 c0, .int .i64 n1, .int .i64 n2] w Q :=
  callF_of (fun _ _ => by kernel_rfl) (callK_of_sw slices_Delete_ring_entry_ring_entry_tt Try.func48 rfl (by kernel_rfl) (show sw Try.prog none 33 slices_Delete_ring_entry_ring_entry_tt _ 0 (endK Try.prog [.tmp 6] Q) ⟨regs [.slice p0 l0 c0, .int .i64 n1, .int .i64 n2], []⟩ w from
    Eq.mp (by kernel_rfl : slices_Delete_ring_entry_ring_entry p0 l0 c0 n1 n2 w Q = sw Try.prog none 33 slices_Delete_ring_entry_ring_entry_tt (Try.f48.body.getD .skip) 0 (endK Try.prog [.tmp 6] Q) ⟨regs [.slice p0 l0 c0, .int .i64 n1, .int .i64 n2], []⟩ w) h))

def slices_IndexFunc_ring_entry_ring_entry (p0 : Option Addr) (l0 : Nat) (c0 : Nat) (v1 : Value) (w : World) (Q : Value → World → Prop) : Prop :=
  LoopS [.slice p0 l0 c0, v1, .int .i64 0, .int .i64 ((l0 : Nat) : Int), .int .i64 0] w fun I1 μ1 us1 _ wl1 =>
  ∃ (p0_1 : Option Addr) (l0_1 : Nat) (c0_1 : Nat) (v1_1 : Value) (n4 : Int) (n7 : Int) (n8 : Int), us1 = [.slice p0_1 l0_1 c0_1, v1_1, .int .i64 n4, .int .i64 n7, .int .i64 n8] ∧
  cond (decide (n8 < n7))
  (∃ (a14 : Addr), IxA Try.prog 79 (.slice p0_1 l0_1 c0_1) (.int .i64 n8) a14 ∧
    ∃ (p15 : Option Addr) (n15 : Int) (p15_1 : Option Addr) (l15 : Nat) (c15 : Nat), Ld Try.prog 86 (.pointer (some a14)) wl1 (.agg #[.pointer p15, .int .i64 n15, .slice p15_1 l15 c15]) ∧
    callV Try.prog (v1_1) [.agg #[.pointer p15, .int .i64 n15, .slice p15_1 l15 c15]] wl1 fun r16 w1 =>
    ∃ (b16 : Bool), r16 = .bool b16 ∧
    cond b16
    (Q (.int .i64 n8) w1)
    (goesOn [] [] I1 μ1 us1 [.slice p0_1 l0_1 c0_1, v1_1, .int .i64 n4, .int .i64 n7, .int .i64 (IntKind.i64.wrap (n8 + 1))] wl1 w1))
  (Q (.int .i64 (-1)) wl1)
def slices_IndexFunc_ring_entry_ring_entry_tt : Nat → List (Nat × TypeId) := fun n => match n with | 0 => [(0, 79), (1, 124), (4, 3), (7, 3), (8, 3)] | _ => []
theorem slices_IndexFunc_ring_entry_ring_entry_call (p0 : Option Addr) (l0 : Nat) (c0 : Nat) (v1 : Value) (w : World) (Q : Value → World → Prop) (h : slices_IndexFunc_ring_entry_ring_entry p0 l0 c0 v1 w Q) : callF Try.prog 68 #[.slice p0 l0 c0, v1] w Q :=
  callF_of (fun _ _ => by kernel_rfl) (callK_of_sw slices_IndexFunc_ring_entry_ring_entry_tt Try.func68 rfl (by kernel_rfl) (show sw Try.prog none 19 slices_IndexFunc_ring_entry_ring_entry_tt _ 0 (endK Try.prog [.tmp 4] Q) ⟨regs [.slice p0 l0 c0, v1], []⟩ w from
    Eq.mp (by kernel_rfl : slices_IndexFunc_ring_entry_ring_entry p0 l0 c0 v1 w Q = sw Try.prog none 19 slices_IndexFunc_ring_entry_ring_entry_tt (Try.f68.body.getD .skip) 0 (endK Try.prog [.tmp 4] Q) ⟨regs [.slice p0 l0 c0, v1], []⟩ w) h))
end Go.Sh
end

section
namespace Go.Sh
open Go Go.Fw Go.Proofs
set_option maxRecDepth 100000
set_option linter.unusedVariables false

def field_New (p0 : Option Addr) (l0 : Nat) (c0 : Nat) (w : World) (Q : Value → World → Prop) : Prop :=
  callF Try.prog 45 #[.slice p0 l0 c0] w fun r4 w1 =>
  ∃ (p4 : Option Addr) (l4 : Nat) (c4 : Nat), r4 = .slice p4 l4 c4 ∧
  New #[.slice p4 l4 c4, .int .u32 0, .int .i32 0, .int .u32 0, .int .i64 0, .int .u8 0, .int .u8 0, .int .u8 0, .int .u8 0, .int .u8 0, .int .u8 0, .int .u8 0, .int .u8 0, .int .u8 0, .int .u8 0, .int .u8 0, .int .u8 0, .int .u8 0, .int .u8 0, .int .u8 0, .int .u8 0, .int .u8 0, .int .u8 0, .int .u8 0, .int .u8 0, .int .u8 0, .int .u8 0, .int .u8 0, .int .u8 0, .int .u8 0, .int .u8 0, .int .u8 0, .int .u8 0, .int .u8 0, .int .u8 0, .int .u8 0, .int .u8 0, .int .u8 0, .int .u8 0, .int .u8 0, .int .u8 0, .int .u8 0, .int .u8 0, .int .u8 0, .int .u8 0, .int .u8 0, .int .u8 0, .int .u8 0, .int .u8 0, .int .u8 0, .int .u8 0, .int .u8 0, .int .u8 0, .int .u8 0, .int .u8 0, .int .u8 0, .int .u8 0, .int .u8 0, .int .u8 0, .int .u8 0, .int .u8 0, .int .u8 0, .int .u8 0, .int .u8 0, .int .u8 0, .int .u8 0, .int .u8 0, .int .u8 0, .int .u8 0, .int .u8 0, .int .u8 0, .int .u8 0, .int .u8 0, .int .u8 0, .int .u8 0, .int .u8 0, .int .u8 0, .int .u8 0, .int .u8 0, .int .u8 0, .int .u8 0, .int .u8 0, .int .u8 0, .int .u8 0, .int .u8 0, .int .u8 0, .int .u8 0, .int .u8 0, .int .u8 0, .int .u8 0, .int .u8 0, .int .u8 0, .int .u8 0, .int .u8 0, .int .u8 0, .int .u8 0, .int .u8 0, .int .u8 0, .int .u8 0, .int .u8 0, .int .u8 0, .int .u8 0, .int .u8 0, .int .u8 0, .int .u8 0, .int .u8 0, .int .u8 0, .int .u8 0, .int .u8 0, .int .u8 0, .int .u8 0, .int .u8 0, .int .u8 0, .int .u8 0, .int .u8 0, .int .u8 0, .int .u8 0, .int .u8 0, .int .u8 0, .int .u8 0, .int .u8 0, .int .u8 0, .int .u8 0, .int .u8 0, .int .u8 0, .int .u8 0, .int .u8 0, .int .u8 0, .int .u8 0, .int .u8 0, .int .u8 0, .int .u8 0, .int .u8 0, .int .u8 0, .int .u8 0, .int .u8 0, .int .u8 0, .int .u8 0, .int .u8 0, .int .u8 0, .int .u8 0, .int .u8 0, .int .u8 0, .int .u8 0, .int .u8 0, .int .u8 0, .int .u8 0, .int .u8 0, .int .u8 0, .int .u8 0, .int .u8 0, .int .u8 0, .int .u8 0, .int .u8 0, .int .u8 0, .int .u8 0, .int .u8 0, .int .u8 0, .int .u8 0, .int .u8 0, .int .u8 0, .int .u8 0, .int .u8 0, .int .u8 0, .int .u8 0, .int .u8 0, .int .u8 0, .int .u8 0, .int .u8 0, .int .u8 0, .int .u8 0, .int .u8 0, .int .u8 0, .int .u8 0, .int .u8 0, .int .u8 0, .int .u8 0, .int .u8 0, .int .u8 0, .int .u8 0, .int .u8 0, .int .u8 0, .int .u8 0, .int .u8 0, .int .u8 0, .int .u8 0, .int .u8 0, .int .u8 0, .int .u8 0, .int .u8 0, .int .u8 0, .int .u8 0, .int .u8 0, .int .u8 0, .int .u8 0, .int .u8 0, .int .u8 0, .int .u8 0, .int .u8 0, .int .u8 0, .int .u8 0, .int .u8 0, .int .u8 0, .int .u8 0, .int .u8 0, .int .u8 0, .int .u8 0, .int .u8 0, .int .u8 0, .int .u8 0, .int .u8 0, .int .u8 0, .int .u8 0, .int .u8 0, .int .u8 0, .int .u8 0, .int .u8 0, .int .u8 0, .int .u8 0, .int .u8 0, .int .u8 0, .int .u8 0, .int .u8 0, .int .u8 0, .int .u8 0, .int .u8 0, .int .u8 0, .int .u8 0, .int .u8 0, .int .u8 0, .int .u8 0, .int .u8 0, .int .u8 0, .int .u8 0, .int .u8 0, .int .u8 0, .int .u8 0, .int .u8 0, .int .u8 0, .int .u8 0, .int .u8 0, .int .u8 0, .int .u8 0, .int .u8 0, .int .u8 0, .int .u8 0, .int .u8 0, .int .u8 0, .int .u8 0, .int .u8 0, .int .u8 0, .int .u8 0, .int .u8 0, .int .u8 0, .int .u8 0, .int .u8 0, .int .u8 0, .int .u8 0, .int .u8 0, .int .u8 0, .int .u8 0, .int .u8 0, .int .u8 0, .int .u8 0, .int .u8 0, .int .u8 0, .int .u8 0, .int .u8 0, .int .u8 0, .int .u8 0, .int .u8 0, .int .u8 0, .int .u8 0, .int .u8 0, .int .u8 0, .int .u8 0, .int .u8 0, .int .u8 0, .int .u8 0, .int .u8 0, .int .u8 0, .int .u8 0, .int .u8 0, .int .u8 0, .int .u8 0, .int .u8 0, .int .u8 0, .int .u8 0, .int .u8 0, .int .u8 0, .int .u8 0, .int .u8 0, .int .u8 0, .int .u8 0, .int .u8 0, .int .u8 0, .int .u8 0, .int .u8 0, .int .u8 0, .int .u8 0, .int .u8 0, .int .u8 0, .int .u8 0, .int .u8 0, .int .u8 0, .int .u8 0, .int .u8 0, .int .u8 0, .int .u8 0, .int .u8 0, .int .u8 0, .int .u8 0, .int .u8 0, .int .u8 0, .int .u8 0, .int .u8 0, .int .u8 0, .int .u8 0, .int .u8 0, .int .u8 0, .int .u8 0, .int .u8 0, .int .u8 0, .int .u8 0, .int .u8 0, .int .u8 0, .int .u8 0, .int .u8 0, .int .u8 0, .int .u8 0, .int .u8 0, .int .u8 0, .int .u8 0, .int .u8 0, .int .u8 0, .int .u8 0, .int .u8 0, .int .u8 0, .int .u8 0, .int .u8 0, .int .u8 0, .int .u8 0, .int .u8 0, .int .u8 0, .int .u8 0, .int .u8 0, .int .u8 0, .int .u8 0, .int .u8 0, .int .u8 0, .int .u8 0, .int .u8 0, .int .u8 0, .int .u8 0, .int .u8 0, .int .u8 0, .int .u8 0, .int .u8 0, .int .u8 0, .int .u8 0, .int .u8 0, .int .u8 0, .int .u8 0, .int .u8 0, .int .u8 0, .int .u8 0, .int .u8 0, .int .u8 0, .int .u8 0, .int .u8 0, .int .u8 0, .int .u8 0, .int .u8 0, .int .u8 0, .int .u8 0, .int .u8 0, .int .u8 0, .int .u8 0, .int .u8 0, .int .u8 0, .int .u8 0, .int .u8 0, .int .u8 0, .int .u8 0, .int .u8 0, .int .u8 0, .int .u8 0, .int .u8 0, .int .u8 0, .int .u8 0, .int .u8 0, .int .u8 0, .int .u8 0, .int .u8 0, .int .u8 0, .int .u8 0, .int .u8 0, .int .u8 0, .int .u8 0, .int .u8 0, .int .u8 0, .int .u8 0, .int .u8 0, .int .u8 0, .int .u8 0, .int .u8 0, .int .u8 0, .int .u8 0, .int .u8 0, .int .u8 0, .int .u8 0, .int .u8 0, .int .u8 0, .int .u8 0, .int .u8 0, .int .u8 0, .int .u8 0, .int .u8 0, .int .u8 0, .int .u8 0, .int .u8 0, .int .u8 0, .int .u8 0, .int .u8 0, .int .u8 0, .int .u8 0, .int .u8 0, .int .u8 0, .int .u8 0, .int .u8 0, .int .u8 0, .int .u8 0, .int .u8 0, .int .u8 0, .int .u8 0, .int .u8 0, .int .u8 0, .int .u8 0, .int .u8 0, .int .u8 0, .int .u8 0, .int .u8 0, .int .u8 0, .int .u8 0, .int .u8 0, .int .u8 0, .int .u8 0, .int .u8 0, .int .u8 0, .int .u8 0, .int .u8 0, .int .u8 0, .int .u8 0, .int .u8 0, .int .u8 0, .int .u8 0, .int .u8 0, .int .u8 0, .int .u8 0, .int .u8 0, .int .u8 0, .int .u8 0, .int .u8 0, .int .u8 0, .int .u8 0, .int .u8 0, .int .u8 0, .int .u8 0, .int .u8 0, .int .u8 0, .int .u8 0, .int .u8 0, .int .u8 0, .int .u8 0, .int .u8 0, .int .u8 0, .int .u8 0, .int .u8 0, .int .u8 0, .int .u8 0, .int .u8 0, .int .u8 0, .int .u8 0, .int .u8 0, .int .u8 0, .int .u8 0, .int .u8 0, .int .u8 0, .int .u8 0, .int .u8 0, .int .u8 0, .int .u8 0, .int .u8 0, .int .u8 0, .int .u8 0, .int .u8 0, .int .u8 0, .int .u8 0, .int .u8 0, .int .u8 0, .int .u8 0, .int .u8 0, .int .u8 0, .int .u8 0, .int .u8 0, .int .u8 0, .int .u8 0, .int .u8 0, .int .u8 0, .int .u8 0, .int .u8 0, .int .u8 0, .int .u8 0, .int .u8 0, .int .u8 0, .int .u8 0, .int .u8 0, .slice none 0 0] 183 w1 fun k6 w2 =>
  Q (.pointer (some (⟨k6, 0, none⟩ : Addr))) w2
def field_New_tt : Nat → List (Nat × TypeId) := fun _ => []
theorem field_New_call (p0 : Option Addr) (l0 : Nat) (c0 : Nat) (w : World) (Q : Value → World → Prop) (h : field_New p0 l0 c0 w Q) : callF Try.prog 70 #[.slice p0 l0 c0] w Q :=
  callF_of (fun _ _ => by kernel_rfl) (callK_of_sw field_New_tt Try.func70 rfl (by kernel_rfl) (show sw Try.prog none 7 field_New_tt _ 0 (endK Try.prog [.tmp 2] Q) ⟨regs [.slice p0 l0 c0], []⟩ w from
    Eq.mp (by kernel_rfl : field_New p0 l0 c0 w Q = sw Try.prog none 7 field_New_tt (Try.f70.body.getD .skip) 0 (endK Try.prog [.tmp 2] Q) ⟨regs [.slice p0 l0 c0], []⟩ w) h))

def field_Tables_Sub (p0 : Option Addr) (n1 : Int) (w : World) (Q : Value → World → Prop) : Prop :=
  callF Try.prog 98 #[.pointer p0] w fun r6 w1 =>
  ∃ (p6 : Option Addr), r6 = .pointer p6 ∧
  ∃ (a8 : Addr), p6 = some a8 ∧
  ∃ (a10 : Addr), IxA Try.prog 180 (.pointer (some (a8.add 5))) (.int .u8 n1) a10 ∧
  ∃ (n11 : Int), Ld Try.prog 5 (.pointer (some a10)) w1 (.int .u8 n11) ∧
  Q (.int .u8 n11) w1
def field_Tables_Sub_tt : Nat → List (Nat × TypeId) := fun _ => []
theorem field_Tables_Sub_call (p0 : Option Addr) (n1 : Int) (w : World) (Q : Value → World → Prop) (h : field_Tables_Sub p0 n1 w Q) : callF Try.prog 75 #[.pointer p0, .int .u8 n1] w Q :=
  callF_of (fun _ _ => by kernel_rfl) (callK_of_sw field_Tables_Sub_tt Try.func75 rfl (by kernel_rfl) (show sw Try.prog none 12 field_Tables_Sub_tt _ 0 (endK Try.prog [.tmp 4] Q) ⟨regs [.pointer p0, .int .u8 n1], []⟩ w from
    Eq.mp (by kernel_rfl : field_Tables_Sub p0 n1 w Q = sw Try.prog none 12 field_Tables_Sub_tt (Try.f75.body.getD .skip) 0 (endK Try.prog [.tmp 4] Q) ⟨regs [.pointer p0, .int .u8 n1], []⟩ w) h))

def field_Pow (n0 : Int) (n1 : Int) (w : World) (Q : Value → World → Prop) : Prop :=
  LoopS [.int .u8 n0, .int .u64 n1, .int .u8 0, .int .u8 1] w fun I1 μ1 us1 _ wl1 =>
  ∃ (n0_1 : Int) (n1_1 : Int) (n4 : Int) (n5 : Int), us1 = [.int .u8 n0_1, .int .u64 n1_1, .int .u8 n4, .int .u8 n5] ∧
  cond (n1_1 != 0)
  (cond ((iand .u64 n1_1 1) != 0)
    (callF Try.prog 112 #[.int .u8 n5, .int .u8 n0_1] wl1 fun r15 w1 =>
      ∃ (n15 : Int), r15 = .int .u8 n15 ∧
      callF Try.prog 112 #[.int .u8 n0_1, .int .u8 n0_1] w1 fun r18 w2 =>
      ∃ (n18 : Int), r18 = .int .u8 n18 ∧
      goesOn [] [] I1 μ1 us1 [.int .u8 n18, .int .u64 (Int.fdiv n1_1 (2 ^ 1)), .int .u8 n4, .int .u8 n15] wl1 w2)
    (callF Try.prog 112 #[.int .u8 n0_1, .int .u8 n0_1] wl1 fun r18_1 w3 =>
      ∃ (n18_1 : Int), r18_1 = .int .u8 n18_1 ∧
      goesOn [] [] I1 μ1 us1 [.int .u8 n18_1, .int .u64 (Int.fdiv n1_1 (2 ^ 1)), .int .u8 n4, .int .u8 n5] wl1 w3))
  (Q (.int .u8 n5) wl1)
def field_Pow_tt : Nat → List (Nat × TypeId) := fun n => match n with | 0 => [(0, 5), (1, 143), (4, 5), (5, 5)] | _ => []
theorem field_Pow_call (n0 : Int) (n1 : Int) (w : World) (Q : Value → World → Prop) (h : field_Pow n0 n1 w Q) : callF Try.prog 97 #[.int .u8 n0, .int .u64 n1] w Q :=
  callF_of (fun _ _ => by kernel_rfl) (callK_of_sw field_Pow_tt Try.func97 rfl (by kernel_rfl) (show sw Try.prog none 20 field_Pow_tt _ 0 (endK Try.prog [.tmp 4] Q) ⟨regs [.int .u8 n0, .int .u64 n1], []⟩ w from
    Eq.mp (by kernel_rfl : field_Pow n0 n1 w Q = sw Try.prog none 20 field_Pow_tt (Try.f97.body.getD .skip) 0 (endK Try.prog [.tmp 4] Q) ⟨regs [.int .u8 n0, .int .u64 n1], []⟩ w) h))

def field_Tables_ready (p0 : Option Addr) (w : World) (Q : Value → World → Prop) : Prop :=
  ∃ (a4 : Addr), p0 = some a4 ∧
  callF Try.prog 113 #[.pointer (some (a4.add 1)), .func (.func 114) #[.pointer p0] #[]] w fun r8 w1 =>
  r8 = .tuple #[] ∧
  Q (.pointer p0) w1
def field_Tables_ready_tt : Nat → List (Nat × TypeId) := fun _ => []
theorem field_Tables_ready_call (p0 : Option Addr) (w : World) (Q : Value → World → Prop) (h : field_Tables_ready p0 w Q) : callF Try.prog 98 #[.pointer p0] w Q :=
  callF_of (fun _ _ => by kernel_rfl) (callK_of_sw field_Tables_ready_tt Try.func98 rfl (by kernel_rfl) (show sw Try.prog none 10 field_Tables_ready_tt _ 0 (endK Try.prog [.tmp 2] Q) ⟨regs [.pointer p0], []⟩ w from
    Eq.mp (by kernel_rfl : field_Tables_ready p0 w Q = sw Try.prog none 10 field_Tables_ready_tt (Try.f98.body.getD .skip) 0 (endK Try.prog [.tmp 2] Q) ⟨regs [.pointer p0], []⟩ w) h))

def field_Tables_Times_j1 (p0 : Option Addr) (n1 : Int) (n2 : Int) (n6 : Int) (n7 : Int) (w : World) (Q : Value → World → Prop) : Prop :=
  ∃ (a22 : Addr), p0 = some a22 ∧
  ∃ (p24 : Option Addr) (l24 : Nat) (c24 : Nat), Ld Try.prog 181 (.pointer (some (a22.add 517))) w (.slice p24 l24 c24) ∧
  ∃ (a27 : Addr), IxA Try.prog 181 (.slice p24 l24 c24) (.int .i64 n1) a27 ∧
  ∃ (a28 : Addr), IxA Try.prog 180 (.pointer (some a27)) (.int .u8 n2) a28 ∧
  ∃ (n29 : Int), Ld Try.prog 5 (.pointer (some a28)) w (.int .u8 n29) ∧
  Q (.tuple #[.int .u8 n29, .int .i64 0]) w
def field_Tables_Times (p0 : Option Addr) (n1 : Int) (n2 : Int) (w : World) (Q : Value → World → Prop) : Prop :=
  callF Try.prog 98 #[.pointer p0] w fun r9 w1 =>
  ∃ (p9 : Option Addr), r9 = .pointer p9 ∧
  cond (decide (n1 < 0))
  (Q (.tuple #[.int .u8 0, .int .i64 11]) w1)
  (∃ (a15 : Addr), p0 = some a15 ∧
    ∃ (p17 : Option Addr) (l17 : Nat) (c17 : Nat), Ld Try.prog 181 (.pointer (some (a15.add 517))) w1 (.slice p17 l17 c17) ∧
    cond (decide (n1 ≥ ((l17 : Nat) : Int)))
    (Q (.tuple #[.int .u8 0, .int .i64 11]) w1)
    (field_Tables_Times_j1 p0 n1 n2 0 0 w1 Q))
def field_Tables_Times_tt : Nat → List (Nat × TypeId) := fun _ => []
theorem field_Tables_Times_call (p0 : Option Addr) (n1 : Int) (n2 : Int) (w : World) (Q : Value → World → Prop) (h : field_Tables_Times p0 n1 n2 w Q) : callF Try.prog 99 #[.pointer p0, .int .i64 n1, .int .u8 n2] w Q :=
  callF_of (fun _ _ => by kernel_rfl) (callK_of_sw field_Tables_Times_tt Try.func99 rfl (by kernel_rfl) (show sw Try.prog none 30 field_Tables_Times_tt _ 0 (endK Try.prog [.tmp 6, .tmp 7] Q) ⟨regs [.pointer p0, .int .i64 n1, .int .u8 n2], []⟩ w from
    Eq.mp (by kernel_rfl : field_Tables_Times p0 n1 n2 w Q = sw Try.prog none 30 field_Tables_Times_tt (Try.f99.body.getD .skip) 0 (endK Try.prog [.tmp 6, .tmp 7] Q) ⟨regs [.pointer p0, .int .i64 n1, .int .u8 n2], []⟩ w) h))

def field_Mul (n0 : Int) (n1 : Int) (w : World) (Q : Value → World → Prop) : Prop :=
  LoopS [.int .u8 n0, .int .u8 n1, .int .u8 0, .int .u8 0] w fun I1 μ1 us1 _ wl1 =>
  ∃ (n0_1 : Int) (n1_1 : Int) (n4 : Int) (n5 : Int), us1 = [.int .u8 n0_1, .int .u8 n1_1, .int .u8 n4, .int .u8 n5] ∧
  cond (n1_1 != 0)
  (cond ((iand .u8 n1_1 1) != 0)
    (callF Try.prog 120 #[.int .u8 n0_1] wl1 fun r17 w1 =>
      ∃ (n17 : Int), r17 = .int .u8 n17 ∧
      goesOn [] [] I1 μ1 us1 [.int .u8 n17, .int .u8 (Int.fdiv n1_1 (2 ^ 1)), .int .u8 n4, .int .u8 (ixor .u8 n5 n0_1)] wl1 w1)
    (callF Try.prog 120 #[.int .u8 n0_1] wl1 fun r17_1 w2 =>
      ∃ (n17_1 : Int), r17_1 = .int .u8 n17_1 ∧
      goesOn [] [] I1 μ1 us1 [.int .u8 n17_1, .int .u8 (Int.fdiv n1_1 (2 ^ 1)), .int .u8 n4, .int .u8 n5] wl1 w2))
  (Q (.int .u8 n5) wl1)
def field_Mul_tt : Nat → List (Nat × TypeId) := fun n => match n with | 0 => [(0, 5), (1, 5), (4, 5), (5, 5)] | _ => []
theorem field_Mul_call (n0 : Int) (n1 : Int) (w : World) (Q : Value → World → Prop) (h : field_Mul n0 n1 w Q) : callF Try.prog 112 #[.int .u8 n0, .int .u8 n1] w Q :=
  callF_of (fun _ _ => by kernel_rfl) (callK_of_sw field_Mul_tt Try.func112 rfl (by kernel_rfl) (show sw Try.prog none 19 field_Mul_tt _ 0 (endK Try.prog [.tmp 4] Q) ⟨regs [.int .u8 n0, .int .u8 n1], []⟩ w from
    Eq.mp (by kernel_rfl : field_Mul n0 n1 w Q = sw Try.prog none 19 field_Mul_tt (Try.f112.body.getD .skip) 0 (endK Try.prog [.tmp 4] Q) ⟨regs [.int .u8 n0, .int .u8 n1], []⟩ w) h))

def field_Tables_make (p0 : Option Addr) (w : World) (Q : Value → World → Prop) : Prop :=
  ∃ (a7 : Addr), p0 = some a7 ∧
  callF Try.prog 60 #[.pointer (some (a7.add 4)), .int .i64 1] w fun r9 w1 =>
  ∃ (n9 : Int), r9 = .int .i64 n9 ∧
  ∃ (a12 : Addr), p0 = some a12 ∧
  ∃ (p14 : Option Addr) (l14 : Nat) (c14 : Nat), Ld Try.prog 23 (.pointer (some (a12.add 0))) w1 (.slice p14 l14 c14) ∧
  ∃ (p16 : Option Addr) (l16 : Nat) (c16 : Nat) (w2 : World), Ef Try.prog (Instr.makeSlice 181 (.int .i64 ((l14 : Nat) : Int)) (.int .i64 ((l14 : Nat) : Int))) w1 (.slice p16 l16 c16) w2 ∧
  ∃ (a17 : Addr), p0 = some a17 ∧
  ∃ (w3 : World), Sto Try.prog 181 (.pointer (some (a17.add 517))) (.slice p16 l16 c16) w2 w3 ∧
  LoopS [.pointer p0, .int .i64 0] w3 fun I1 μ1 us1 _ wl1 =>
  ∃ (p0_1 : Option Addr) (n19 : Int), us1 = [.pointer p0_1, .int .i64 n19] ∧
  cond (decide (n19 < 256))
  (callF Try.prog 123 #[.int .u8 (IntKind.u8.wrap n19)] wl1 fun r24 w4 =>
    ∃ (n24 : Int), r24 = .int .u8 n24 ∧
    ∃ (a28 : Addr), p0_1 = some a28 ∧
    ∃ (a30 : Addr), IxA Try.prog 180 (.pointer (some (a28.add 5))) (.int .i64 n19) a30 ∧
    ∃ (w5 : World), Sto Try.prog 5 (.pointer (some a30)) (.int .u8 n24) w4 w5 ∧
    ∃ (a35 : Addr), p0_1 = some a35 ∧
    ∃ (a37 : Addr), IxA Try.prog 180 (.pointer (some (a35.add 261))) (.int .u8 n24) a37 ∧
    ∃ (w6 : World), Sto Try.prog 5 (.pointer (some a37)) (.int .u8 (IntKind.u8.wrap n19)) w5 w6 ∧
    ∃ (a39 : Addr), p0_1 = some a39 ∧
    ∃ (p41 : Option Addr) (l41 : Nat) (c41 : Nat), Ld Try.prog 23 (.pointer (some (a39.add 0))) w6 (.slice p41 l41 c41) ∧
    LoopS [.pointer p0_1, .int .i64 n19, .int .i64 n19, .slice p41 l41 c41, .int .i64 ((l41 : Nat) : Int), .int .i64 0] w6 fun I2 μ2 us2 _ wl2 =>
    ∃ (p0_2 : Option Addr) (n2 : Int) (n19_1 : Int) (p41_1 : Option Addr) (l41_1 : Nat) (c41_1 : Nat) (n42 : Int) (n43 : Int), us2 = [.pointer p0_2, .int .i64 n2, .int .i64 n19_1, .slice p41_1 l41_1 c41_1, .int .i64 n42, .int .i64 n43] ∧
    cond (decide (n43 < n42))
    (∃ (a46 : Addr), IxA Try.prog 23 (.slice p41_1 l41_1 c41_1) (.int .i64 n43) a46 ∧
      ∃ (n47 : Int), Ld Try.prog 5 (.pointer (some a46)) wl2 (.int .u8 n47) ∧
      ∃ (S11 : World → Prop),
      Drw wl2 fun w7 =>
      ∃ (a49 : Addr), p0_2 = some a49 ∧
      ∃ (p51 : Option Addr) (l51 : Nat) (c51 : Nat), HLd Try.prog S11 181 (.pointer (some (a49.add 517))) w7 (.slice p51 l51 c51) ∧
      ∃ (a58 : Addr), IxA Try.prog 181 (.slice p51 l51 c51) (.int .i64 n43) a58 ∧
      callF Try.prog 112 #[.int .u8 (IntKind.u8.wrap n2), .int .u8 n47] w7 fun r57 w8 =>
      ∃ (n57 : Int), r57 = .int .u8 n57 ∧
      (w8 = w7 ∨ S11 w8) ∧
      ∃ (a59 : Addr), IxA Try.prog 180 (.pointer (some a58)) (.int .i64 n2) a59 ∧
      ∃ (w9 : World), Sto Try.prog 5 (.pointer (some a59)) (.int .u8 n57) w8 w9 ∧
      goesOn [] [] I2 μ2 us2 [.pointer p0_2, .int .i64 n2, .int .i64 n19_1, .slice p41_1 l41_1 c41_1, .int .i64 n42, .int .i64 (IntKind.i64.wrap (n43 + 1))] wl2 w9)
    (goesOn [] [] I1 μ1 us1 [.pointer p0_2, .int .i64 (IntKind.i64.wrap (n19_1 + 1))] wl1 wl2))
  (Q (.tuple #[]) wl1)
def field_Tables_make_tt : Nat → List (Nat × TypeId) := fun n => match n with | 0 => [(0, 125), (19, 3)] | 2 => [(0, 125), (2, 3), (19, 3), (41, 23), (42, 3), (43, 3)] | _ => []
theorem field_Tables_make_call (p0 : Option Addr) (w : World) (Q : Value → World → Prop) (h : field_Tables_make p0 w Q) : callF Try.prog 114 #[.pointer p0] w Q :=
  callF_of (fun _ _ => by kernel_rfl) (callK_of_sw field_Tables_make_tt Try.func114 rfl (by kernel_rfl) (show sw Try.prog none 62 field_Tables_make_tt _ 0 (endK Try.prog [] Q) ⟨regs [.pointer p0], []⟩ w from
    Eq.mp (by kernel_rfl : field_Tables_make p0 w Q = sw Try.prog none 62 field_Tables_make_tt (Try.f114.body.getD .skip) 0 (endK Try.prog [] Q) ⟨regs [.pointer p0], []⟩ w) h))

def field_double (n0 : Int) (w : World) (Q : Value → World → Prop) : Prop :=
  cond ((iand .u8 n0 128) != 0)
  (Q (.int .u8 (ixor .u8 (IntKind.u8.wrap (n0 * 2 ^ 1)) 27)) w)
  (Q (.int .u8 (IntKind.u8.wrap (n0 * 2 ^ 1))) w)
def field_double_tt : Nat → List (Nat × TypeId) := fun _ => []
theorem field_double_call (n0 : Int) (w : World) (Q : Value → World → Prop) (h : field_double n0 w Q) : callF Try.prog 120 #[.int .u8 n0] w Q :=
  callF_of (fun _ _ => by kernel_rfl) (callK_of_sw field_double_tt Try.func120 rfl (by kernel_rfl) (show sw Try.prog none 11 field_double_tt _ 0 (endK Try.prog [.tmp 2] Q) ⟨regs [.int .u8 n0], []⟩ w from
    Eq.mp (by kernel_rfl : field_double n0 w Q = sw Try.prog none 11 field_double_tt (Try.f120.body.getD .skip) 0 (endK Try.prog [.tmp 2] Q) ⟨regs [.int .u8 n0], []⟩ w) h))

def field_sign (n0 : Int) (w : World) (Q : Value → World → Prop) : Prop :=
  callF Try.prog 132 #[.int .u8 n0] w fun r5 w1 =>
  ∃ (n5 : Int), r5 = .int .u8 n5 ∧
  callF Try.prog 134 #[.int .u8 n5, .int .i64 1] w1 fun r8 w2 =>
  ∃ (n8 : Int), r8 = .int .u8 n8 ∧
  callF Try.prog 134 #[.int .u8 n5, .int .i64 2] w2 fun r10 w3 =>
  ∃ (n10 : Int), r10 = .int .u8 n10 ∧
  callF Try.prog 134 #[.int .u8 n5, .int .i64 3] w3 fun r12 w4 =>
  ∃ (n12 : Int), r12 = .int .u8 n12 ∧
  callF Try.prog 134 #[.int .u8 n5, .int .i64 4] w4 fun r14 w5 =>
  ∃ (n14 : Int), r14 = .int .u8 n14 ∧
  ∃ (p15 : Option Addr) (l15 : Nat) (c15 : Nat) (w6 : World), Ef Try.prog (Instr.buildSlice 23 6 #[(0, .int .u8 n5), (1, .int .u8 n8), (2, .int .u8 n10), (3, .int .u8 n12), (4, .int .u8 n14), (5, .int .u8 99)]) w5 (.slice p15 l15 c15) w6 ∧
  callF Try.prog 133 #[.slice p15 l15 c15] w6 fun r16 w7 =>
  ∃ (n16 : Int), r16 = .int .u8 n16 ∧
  Q (.int .u8 n16) w7
def field_sign_tt : Nat → List (Nat × TypeId) := fun _ => []
theorem field_sign_call (n0 : Int) (w : World) (Q : Value → World → Prop) (h : field_sign n0 w Q) : callF Try.prog 123 #[.int .u8 n0] w Q :=
  callF_of (fun _ _ => by kernel_rfl) (callK_of_sw field_sign_tt Try.func123 rfl (by kernel_rfl) (show sw Try.prog none 17 field_sign_tt _ 0 (endK Try.prog [.tmp 2] Q) ⟨regs [.int .u8 n0], []⟩ w from
    Eq.mp (by kernel_rfl : field_sign n0 w Q = sw Try.prog none 17 field_sign_tt (Try.f123.body.getD .skip) 0 (endK Try.prog [.tmp 2] Q) ⟨regs [.int .u8 n0], []⟩ w) h))

def field_Inv (n0 : Int) (w : World) (Q : Value → World → Prop) : Prop :=
  callF Try.prog 97 #[.int .u8 n0, .int .u64 254] w fun r4 w1 =>
  ∃ (n4 : Int), r4 = .int .u8 n4 ∧
  Q (.int .u8 n4) w1
def field_Inv_tt : Nat → List (Nat × TypeId) := fun _ => []
theorem field_Inv_call (n0 : Int) (w : World) (Q : Value → World → Prop) (h : field_Inv n0 w Q) : callF Try.prog 132 #[.int .u8 n0] w Q :=
  callF_of (fun _ _ => by kernel_rfl) (callK_of_sw field_Inv_tt Try.func132 rfl (by kernel_rfl) (show sw Try.prog none 5 field_Inv_tt _ 0 (endK Try.prog [.tmp 2] Q) ⟨regs [.int .u8 n0], []⟩ w from
    Eq.mp (by kernel_rfl : field_Inv n0 w Q = sw Try.prog none 5 field_Inv_tt (Try.f132.body.getD .skip) 0 (endK Try.prog [.tmp 2] Q) ⟨regs [.int .u8 n0], []⟩ w) h))

def field_Sum (p0 : Option Addr) (l0 : Nat) (c0 : Nat) (w : World) (Q : Value → World → Prop) : Prop :=
  LoopS [.int .u8 0, .int .u8 0, .slice p0 l0 c0, .int .i64 ((l0 : Nat) : Int), .int .i64 0] w fun I1 μ1 us1 _ wl1 =>
  ∃ (n2 : Int) (n3 : Int) (p6 : Option Addr) (l6 : Nat) (c6 : Nat) (n7 : Int) (n8 : Int), us1 = [.int .u8 n2, .int .u8 n3, .slice p6 l6 c6, .int .i64 n7, .int .i64 n8] ∧
  cond (decide (n8 < n7))
  (∃ (a10 : Addr), IxA Try.prog 23 (.slice p6 l6 c6) (.int .i64 n8) a10 ∧
    ∃ (n11 : Int), Ld Try.prog 5 (.pointer (some a10)) wl1 (.int .u8 n11) ∧
    goesOn [] [] I1 μ1 us1 [.int .u8 n2, .int .u8 (ixor .u8 n3 n11), .slice p6 l6 c6, .int .i64 n7, .int .i64 (IntKind.i64.wrap (n8 + 1))] wl1 wl1)
  (Q (.int .u8 n3) wl1)
def field_Sum_tt : Nat → List (Nat × TypeId) := fun n => match n with | 0 => [(2, 5), (3, 5), (6, 23), (7, 3), (8, 3)] | _ => []
theorem field_Sum_call (p0 : Option Addr) (l0 : Nat) (c0 : Nat) (w : World) (Q : Value → World → Prop) (h : field_Sum p0 l0 c0 w Q) : callF Try.prog 133 #[.slice p0 l0 c0] w Q :=
  callF_of (fun _ _ => by kernel_rfl) (callK_of_sw field_Sum_tt Try.func133 rfl (by kernel_rfl) (show sw Try.prog none 17 field_Sum_tt _ 0 (endK Try.prog [.tmp 2] Q) ⟨regs [.slice p0 l0 c0], []⟩ w from
    Eq.mp (by kernel_rfl : field_Sum p0 l0 c0 w Q = sw Try.prog none 17 field_Sum_tt (Try.f133.body.getD .skip) 0 (endK Try.prog [.tmp 2] Q) ⟨regs [.slice p0 l0 c0], []⟩ w) h))

def field_turned (n0 : Int) (n1 : Int) (w : World) (Q : Value → World → Prop) : Prop :=
  Drw w fun w1 =>
  ∃ (n7 : Int), Pu Try.prog (do eqGuard .shl 5 (.tmp 5) (.tmp 6) (.int .u8 n0) (.int .i64 n1); binOp .shl 5 (.int .u8 n0) (.int .i64 n1) : Sem Value) (.int .u8 n7) ∧
  ∃ (n11 : Int), Pu Try.prog (do eqGuard .shr 5 (.tmp 8) (.tmp 10) (.int .u8 n0) (.int .i64 (IntKind.i64.wrap (8 - n1))); binOp .shr 5 (.int .u8 n0) (.int .i64 (IntKind.i64.wrap (8 - n1))) : Sem Value) (.int .u8 n11) ∧
  Q (.int .u8 (ior .u8 n7 n11)) w1
def field_turned_tt : Nat → List (Nat × TypeId) := fun _ => []
theorem field_turned_call (n0 : Int) (n1 : Int) (w : World) (Q : Value → World → Prop) (h : field_turned n0 n1 w Q) : callF Try.prog 134 #[.int .u8 n0, .int .i64 n1] w Q :=
  callF_of (fun _ _ => by kernel_rfl) (callK_of_sw field_turned_tt Try.func134 rfl (by kernel_rfl) (show sw Try.prog none 13 field_turned_tt _ 0 (endK Try.prog [.tmp 4] Q) ⟨regs [.int .u8 n0, .int .i64 n1], []⟩ w from
    Eq.mp (by kernel_rfl : field_turned n0 n1 w Q = sw Try.prog none 13 field_turned_tt (Try.f134.body.getD .skip) 0 (endK Try.prog [.tmp 4] Q) ⟨regs [.int .u8 n0, .int .i64 n1], []⟩ w) h))
end Go.Sh
end

section
namespace Go.Sh
open Go Go.Fw Go.Proofs
set_option maxRecDepth 100000
set_option linter.unusedVariables false

def aes_New_j1 (I1 : Inv) (μ1 : Meas) (us1 : List Value) (wl1 : World) (p0 : Option Addr) (l0 : Nat) (c0 : Nat) (p2 : Option Addr) (n3 : Int) (a4 : Addr) (a5 : Addr) (n6 : Int) (a7 : Addr) (n17 : Int) (w : World) (Q : Value → World → Prop) : Prop :=
  ∃ (S13 : World → Prop),
  Drw w fun w1 =>
  ∃ (a45 : Addr), IxA Try.prog 133 (.pointer (some a5)) (.int .i64 (IntKind.i64.wrap (n6 - 4))) a45 ∧
  ∃ (cs46 : Array Value), HLd Try.prog S13 132 (.pointer (some a45)) w1 (.agg cs46) ∧
  ∃ (cs47 : Array Value), Ld Try.prog 132 (.pointer (some a7)) w1 (.agg cs47) ∧
  (w1 = w1 ∨ S13 w1) ∧
  callF Try.prog 72 #[.agg cs46, .agg cs47] w1 fun r48 w2 =>
  ∃ (cs48 : Array Value), r48 = .agg cs48 ∧
  ∃ (a49 : Addr), IxA Try.prog 133 (.pointer (some a5)) (.int .i64 n6) a49 ∧
  ∃ (w3 : World), Sto Try.prog 132 (.pointer (some a49)) (.agg cs48) w2 w3 ∧
  goesOn [] [] I1 μ1 us1 [.slice p0 l0 c0, .pointer p2, .int .i64 n3, .pointer (some a4), .pointer (some a5), .int .i64 (IntKind.i64.wrap (n17 + 1))] wl1 w3
def aes_New_j2 (p2 : Option Addr) (n3 : Int) (a4 : Addr) (a5 : Addr) (w : World) (Q : Value → World → Prop) : Prop :=
  ∃ (cs51 : Array Value), Ld Try.prog 133 (.pointer (some a5)) w (.agg cs51) ∧
  LoopS [.pointer p2, .int .i64 n3, .pointer (some a4), .agg cs51, .int .i64 0] w fun I2 μ2 us2 _ wl2 =>
  ∃ (p2_1 : Option Addr) (n3_1 : Int) (a4_1 : Addr) (cs51_1 : Array Value) (n52 : Int), us2 = [.pointer p2_1, .int .i64 n3_1, .pointer (some a4_1), .agg cs51_1, .int .i64 n52] ∧
  cond (decide (n52 < 44))
  (∃ (cs55 : Array Value), Pu Try.prog (Instr.index 133 (.agg cs51_1) (.int .i64 n52)) (.agg cs55) ∧
    ∃ (z9 : Value), Pu Try.prog (zeroValue 132) z9 ∧
    New z9.cells 132 wl2 fun k9 w1 =>
    ∃ (w2 : World), Sto Try.prog 132 (.pointer (some (⟨k9, 0, none⟩ : Addr))) (.agg cs55) w1 w2 ∧
    Drw w2 fun w3 =>
    ∃ (a59 : Addr), some a4_1 = some a59 ∧
    ∃ (a61 : Addr), IxA Try.prog 128 (.pointer (some (a59.add 1))) (.int .i64 (IntKind.i64.wrap (Int.tdiv n52 4))) a61 ∧
    ∃ (p65 : Option Addr) (l65 : Nat) (c65 : Nat), Pu Try.prog (Instr.sliceAt 127 (.pointer (some a61)) (some (.int .i64 (IntKind.i64.wrap (4 * (Int.tmod n52 4))))) none none) (.slice p65 l65 c65) ∧
    ∃ (p66 : Option Addr) (l66 : Nat) (c66 : Nat), Pu Try.prog (Instr.sliceAt 132 (.pointer (some (⟨k9, 0, none⟩ : Addr))) none none none) (.slice p66 l66 c66) ∧
    ∃ (n67 : Int) (w4 : World), Ef Try.prog (Builtin.copy_ #[23, 23] 3 #[.slice p65 l65 c65, .slice p66 l66 c66]) w3 (.int .i64 n67) w4 ∧
    goesOn [] [] I2 μ2 us2 [.pointer p2_1, .int .i64 n3_1, .pointer (some a4_1), .agg cs51_1, .int .i64 (IntKind.i64.wrap (n52 + 1))] wl2 w4)
  (Q (.tuple #[.pointer (some a4_1), .int .i64 0]) wl2)
def aes_New (p0 : Option Addr) (l0 : Nat) (c0 : Nat) (w : World) (Q : Value → World → Prop) : Prop :=
  cond (((l0 : Nat) : Int) != 16)
  (Q (.tuple #[.pointer none, .int .i64 11]) w)
  (∃ (p13 : Option Addr) (l13 : Nat) (c13 : Nat) (w1 : World), Ef Try.prog (Instr.buildSlice 23 6 #[(0, .int .u8 2), (1, .int .u8 3), (2, .int .u8 9), (3, .int .u8 11), (4, .int .u8 13), (5, .int .u8 14)]) w (.slice p13 l13 c13) w1 ∧
    callF Try.prog 70 #[.slice p13 l13 c13] w1 fun r14 w2 =>
    ∃ (p14 : Option Addr), r14 = .pointer p14 ∧
    New #[.pointer p14, .int .u8 0, .int .u8 0, .int .u8 0, .int .u8 0, .int .u8 0, .int .u8 0, .int .u8 0, .int .u8 0, .int .u8 0, .int .u8 0, .int .u8 0, .int .u8 0, .int .u8 0, .int .u8 0, .int .u8 0, .int .u8 0, .int .u8 0, .int .u8 0, .int .u8 0, .int .u8 0, .int .u8 0, .int .u8 0, .int .u8 0, .int .u8 0, .int .u8 0, .int .u8 0, .int .u8 0, .int .u8 0, .int .u8 0, .int .u8 0, .int .u8 0, .int .u8 0, .int .u8 0, .int .u8 0, .int .u8 0, .int .u8 0, .int .u8 0, .int .u8 0, .int .u8 0, .int .u8 0, .int .u8 0, .int .u8 0, .int .u8 0, .int .u8 0, .int .u8 0, .int .u8 0, .int .u8 0, .int .u8 0, .int .u8 0, .int .u8 0, .int .u8 0, .int .u8 0, .int .u8 0, .int .u8 0, .int .u8 0, .int .u8 0, .int .u8 0, .int .u8 0, .int .u8 0, .int .u8 0, .int .u8 0, .int .u8 0, .int .u8 0, .int .u8 0, .int .u8 0, .int .u8 0, .int .u8 0, .int .u8 0, .int .u8 0, .int .u8 0, .int .u8 0, .int .u8 0, .int .u8 0, .int .u8 0, .int .u8 0, .int .u8 0, .int .u8 0, .int .u8 0, .int .u8 0, .int .u8 0, .int .u8 0, .int .u8 0, .int .u8 0, .int .u8 0, .int .u8 0, .int .u8 0, .int .u8 0, .int .u8 0, .int .u8 0, .int .u8 0, .int .u8 0, .int .u8 0, .int .u8 0, .int .u8 0, .int .u8 0, .int .u8 0, .int .u8 0, .int .u8 0, .int .u8 0, .int .u8 0, .int .u8 0, .int .u8 0, .int .u8 0, .int .u8 0, .int .u8 0, .int .u8 0, .int .u8 0, .int .u8 0, .int .u8 0, .int .u8 0, .int .u8 0, .int .u8 0, .int .u8 0, .int .u8 0, .int .u8 0, .int .u8 0, .int .u8 0, .int .u8 0, .int .u8 0, .int .u8 0, .int .u8 0, .int .u8 0, .int .u8 0, .int .u8 0, .int .u8 0, .int .u8 0, .int .u8 0, .int .u8 0, .int .u8 0, .int .u8 0, .int .u8 0, .int .u8 0, .int .u8 0, .int .u8 0, .int .u8 0, .int .u8 0, .int .u8 0, .int .u8 0, .int .u8 0, .int .u8 0, .int .u8 0, .int .u8 0, .int .u8 0, .int .u8 0, .int .u8 0, .int .u8 0, .int .u8 0, .int .u8 0, .int .u8 0, .int .u8 0, .int .u8 0, .int .u8 0, .int .u8 0, .int .u8 0, .int .u8 0, .int .u8 0, .int .u8 0, .int .u8 0, .int .u8 0, .int .u8 0, .int .u8 0, .int .u8 0, .int .u8 0, .int .u8 0, .int .u8 0, .int .u8 0, .int .u8 0, .int .u8 0, .int .u8 0, .int .u8 0, .int .u8 0, .int .u8 0, .int .u8 0, .int .u8 0, .int .u8 0, .int .u8 0, .int .i64 0] 130 w2 fun k16 w3 =>
    ∃ (z5 : Value), Pu Try.prog (zeroValue 133) z5 ∧
    New z5.cells 133 w3 fun k5 w4 =>
    LoopS [.slice p0 l0 c0, .pointer none, .int .i64 0, .pointer (some (⟨k16, 0, none⟩ : Addr)), .pointer (some (⟨k5, 0, none⟩ : Addr)), .int .i64 0] w4 fun I1 μ1 us1 _ wl1 =>
    ∃ (p0_1 : Option Addr) (l0_1 : Nat) (c0_1 : Nat) (p2 : Option Addr) (n3 : Int) (a4 : Addr) (a5 : Addr) (n17 : Int), us1 = [.slice p0_1 l0_1 c0_1, .pointer p2, .int .i64 n3, .pointer (some a4), .pointer (some a5), .int .i64 n17] ∧
    cond (decide (n17 < 44))
    (cond (decide (n17 < 4))
      (∃ (p26 : Option Addr) (l26 : Nat) (c26 : Nat), Pu Try.prog (Instr.sliceAt 23 (.slice p0_1 l0_1 c0_1) (some (.int .i64 (IntKind.i64.wrap (4 * n17)))) none none) (.slice p26 l26 c26) ∧
        ∃ (p27 : Option Addr), Pu Try.prog (Instr.arrayAt 132 (.slice p26 l26 c26)) (.pointer p27) ∧
        ∃ (cs28 : Array Value), Ld Try.prog 132 (.pointer p27) wl1 (.agg cs28) ∧
        ∃ (a29 : Addr), IxA Try.prog 133 (.pointer (some a5)) (.int .i64 n17) a29 ∧
        ∃ (w5 : World), Sto Try.prog 132 (.pointer (some a29)) (.agg cs28) wl1 w5 ∧
        goesOn [] [] I1 μ1 us1 [.slice p0_1 l0_1 c0_1, .pointer p2, .int .i64 n3, .pointer (some a4), .pointer (some a5), .int .i64 (IntKind.i64.wrap (n17 + 1))] wl1 w5)
      (∃ (a32 : Addr), IxA Try.prog 133 (.pointer (some a5)) (.int .i64 (IntKind.i64.wrap (n17 - 1))) a32 ∧
        ∃ (cs33 : Array Value), Ld Try.prog 132 (.pointer (some a32)) wl1 (.agg cs33) ∧
        ∃ (z7 : Value), Pu Try.prog (zeroValue 132) z7 ∧
        New z7.cells 132 wl1 fun k7 w6 =>
        ∃ (w7 : World), Sto Try.prog 132 (.pointer (some (⟨k7, 0, none⟩ : Addr))) (.agg cs33) w6 w7 ∧
        cond ((Int.tmod n17 4) == 0)
        (∃ (cs38 : Array Value), Ld Try.prog 132 (.pointer (some (⟨k7, 0, none⟩ : Addr))) w7 (.agg cs38) ∧
          callF Try.prog 71 #[.pointer (some a4), .agg cs38, .int .i64 (IntKind.i64.wrap (Int.tdiv n17 4))] w7 fun r41 w8 =>
          ∃ (cs41 : Array Value), r41 = .agg cs41 ∧
          ∃ (w9 : World), Sto Try.prog 132 (.pointer (some (⟨k7, 0, none⟩ : Addr))) (.agg cs41) w8 w9 ∧
          aes_New_j1 I1 μ1 us1 wl1 p0_1 l0_1 c0_1 p2 n3 a4 a5 n17 (⟨k7, 0, none⟩ : Addr) n17 w9 Q)
        (aes_New_j1 I1 μ1 us1 wl1 p0_1 l0_1 c0_1 p2 n3 a4 a5 n17 (⟨k7, 0, none⟩ : Addr) n17 w7 Q)))
    (aes_New_j2 p2 n3 a4 a5 wl1 Q))
def aes_New_tt : Nat → List (Nat × TypeId) := fun n => match n with | 0 => [(0, 23), (2, 92), (3, 48), (4, 1000000), (5, 1000000), (17, 3)] | 2 => [(2, 92), (3, 48), (4, 1000000), (51, 133), (52, 3)] | _ => []
theorem aes_New_call (p0 : Option Addr) (l0 : Nat) (c0 : Nat) (w : World) (Q : Value → World → Prop) (h : aes_New p0 l0 c0 w Q) : callF Try.prog 49 #[.slice p0 l0 c0] w Q :=
  callF_of (fun _ _ => by kernel_rfl) (callK_of_sw aes_New_tt Try.func49 rfl (by kernel_rfl) (show sw Try.prog none 70 aes_New_tt _ 0 (endK Try.prog [.tmp 2, .tmp 3] Q) ⟨regs [.slice p0 l0 c0], []⟩ w from
    Eq.mp (by kernel_rfl : aes_New p0 l0 c0 w Q = sw Try.prog none 70 aes_New_tt (Try.f49.body.getD .skip) 0 (endK Try.prog [.tmp 2, .tmp 3] Q) ⟨regs [.slice p0 l0 c0], []⟩ w) h))

def aes_Cipher_Encrypt_j1 (I1 : Inv) (μ1 : Meas) (us1 : List Value) (wl1 : World) (p0 : Option Addr) (p4 : Option Addr) (l4 : Nat) (c4 : Nat) (n5 : Int) (a6 : Addr) (n7 : Int) (w : World) (Q : Value → World → Prop) : Prop :=
  ∃ (a43 : Addr), p0 = some a43 ∧
  ∃ (a45 : Addr), IxA Try.prog 128 (.pointer (some (a43.add 1))) (.int .i64 n7) a45 ∧
  ∃ (cs46 : Array Value), Ld Try.prog 127 (.pointer (some a45)) w (.agg cs46) ∧
  callF Try.prog 73 #[.pointer (some a6), .agg cs46] w fun r47 w1 =>
  r47 = .tuple #[] ∧
  goesOn [] [] I1 μ1 us1 [.pointer p0, .slice p4 l4 c4, .int .i64 n5, .pointer (some a6), .int .i64 (IntKind.i64.wrap (n7 + 1))] wl1 w1
def aes_Cipher_Encrypt (p0 : Option Addr) (p1 : Option Addr) (l1 : Nat) (c1 : Nat) (w : World) (Q : Value → World → Prop) : Prop :=
  cond (((l1 : Nat) : Int) != 16)
  (Q (.tuple #[.slice none 0 0, .int .i64 11]) w)
  (∃ (a12 : Addr), p0 = some a12 ∧
    callF Try.prog 60 #[.pointer (some (a12.add 177)), .int .i64 1] w fun r14 w1 =>
    ∃ (n14 : Int), r14 = .int .i64 n14 ∧
    ∃ (p16 : Option Addr), Pu Try.prog (Instr.arrayAt 127 (.slice p1 l1 c1)) (.pointer p16) ∧
    ∃ (cs17 : Array Value), Ld Try.prog 127 (.pointer p16) w1 (.agg cs17) ∧
    ∃ (z6 : Value), Pu Try.prog (zeroValue 127) z6 ∧
    New z6.cells 127 w1 fun k6 w2 =>
    ∃ (w3 : World), Sto Try.prog 127 (.pointer (some (⟨k6, 0, none⟩ : Addr))) (.agg cs17) w2 w3 ∧
    ∃ (a19 : Addr), p0 = some a19 ∧
    ∃ (a21 : Addr), IxA Try.prog 128 (.pointer (some (a19.add 1))) (.int .i64 0) a21 ∧
    ∃ (cs22 : Array Value), Ld Try.prog 127 (.pointer (some a21)) w3 (.agg cs22) ∧
    callF Try.prog 73 #[.pointer (some (⟨k6, 0, none⟩ : Addr)), .agg cs22] w3 fun r23 w4 =>
    r23 = .tuple #[] ∧
    LoopS [.pointer p0, .slice none 0 0, .int .i64 0, .pointer (some (⟨k6, 0, none⟩ : Addr)), .int .i64 1] w4 fun I1 μ1 us1 _ wl1 =>
    ∃ (p0_1 : Option Addr) (p4 : Option Addr) (l4 : Nat) (c4 : Nat) (n5 : Int) (a6 : Addr) (n7 : Int), us1 = [.pointer p0_1, .slice p4 l4 c4, .int .i64 n5, .pointer (some a6), .int .i64 n7] ∧
    cond (decide (n7 ≤ 10))
    (∃ (a29 : Addr), p0_1 = some a29 ∧
      ∃ (p31 : Option Addr), Ld Try.prog 125 (.pointer (some (a29.add 0))) wl1 (.pointer p31) ∧
      callF Try.prog 74 #[.pointer (some a6), .func (.func 75) #[.pointer p31] #[]] wl1 fun r33 w5 =>
      r33 = .tuple #[] ∧
      callF Try.prog 76 #[.pointer (some a6), .int .i64 1] w5 fun r34 w6 =>
      r34 = .tuple #[] ∧
      cond (decide (n7 < 10))
      (callF Try.prog 77 #[.pointer (some a6), .func (.func 78) #[.pointer p0_1] #[], .agg #[.int .i64 0, .int .i64 1, .int .i64 (-1), .int .i64 (-1)]] w6 fun r40 w7 =>
        r40 = .tuple #[] ∧
        aes_Cipher_Encrypt_j1 I1 μ1 us1 wl1 p0_1 p4 l4 c4 n5 a6 n7 w7 Q)
      (aes_Cipher_Encrypt_j1 I1 μ1 us1 wl1 p0_1 p4 l4 c4 n5 a6 n7 w6 Q))
    (∃ (p48 : Option Addr) (l48 : Nat) (c48 : Nat), Pu Try.prog (Instr.sliceAt 127 (.pointer (some a6)) none none none) (.slice p48 l48 c48) ∧
      Q (.tuple #[.slice p48 l48 c48, .int .i64 0]) wl1))
def aes_Cipher_Encrypt_tt : Nat → List (Nat × TypeId) := fun n => match n with | 0 => [(0, 92), (4, 23), (5, 48), (6, 1000000), (7, 3)] | _ => []
theorem aes_Cipher_Encrypt_call (p0 : Option Addr) (p1 : Option Addr) (l1 : Nat) (c1 : Nat) (w : World) (Q : Value → World → Prop) (h : aes_Cipher_Encrypt p0 p1 l1 c1 w Q) : callF Try.prog 50 #[.pointer p0, .slice p1 l1 c1] w Q :=
  callF_of (fun _ _ => by kernel_rfl) (callK_of_sw aes_Cipher_Encrypt_tt Try.func50 rfl (by kernel_rfl) (show sw Try.prog none 49 aes_Cipher_Encrypt_tt _ 0 (endK Try.prog [.tmp 4, .tmp 5] Q) ⟨regs [.pointer p0, .slice p1 l1 c1], []⟩ w from
    Eq.mp (by kernel_rfl : aes_Cipher_Encrypt p0 p1 l1 c1 w Q = sw Try.prog none 49 aes_Cipher_Encrypt_tt (Try.f50.body.getD .skip) 0 (endK Try.prog [.tmp 4, .tmp 5] Q) ⟨regs [.pointer p0, .slice p1 l1 c1], []⟩ w) h))

def aes_Cipher_turned_j1 (n2 : Int) (a6 : Addr) (a7 : Addr) (w : World) (Q : Value → World → Prop) : Prop :=
  ∃ (S7 : World → Prop),
  Drw w fun w1 =>
  ∃ (a33 : Addr), IxA Try.prog 132 (.pointer (some a7)) (.int .i64 0) a33 ∧
  ∃ (n34 : Int), HLd Try.prog S7 5 (.pointer (some a33)) w1 (.int .u8 n34) ∧
  callF Try.prog 97 #[.int .u8 2, .int .u64 (IntKind.u64.wrap (IntKind.i64.wrap (n2 - 1)))] w1 fun r38 w2 =>
  ∃ (n38 : Int), r38 = .int .u8 n38 ∧
  (w2 = w1 ∨ S7 w2) ∧
  ∃ (a40 : Addr), IxA Try.prog 132 (.pointer (some a7)) (.int .i64 0) a40 ∧
  ∃ (w3 : World), Sto Try.prog 5 (.pointer (some a40)) (.int .u8 (ixor .u8 n34 n38)) w2 w3 ∧
  ∃ (cs41 : Array Value), Ld Try.prog 132 (.pointer (some a7)) w3 (.agg cs41) ∧
  ∃ (w4 : World), Sto Try.prog 132 (.pointer (some a6)) (.agg cs41) w3 w4 ∧
  ∃ (a6_1 : Addr) (v6 : Value), (.pointer (some a6) : Value) = .pointer (some a6_1) ∧ (loadVar 132 a6_1).run Try.prog w4 = .ok v6 w4 ∧
  Q (v6) w4
def aes_Cipher_turned (p0 : Option Addr) (cs1 : Array Value) (n2 : Int) (w : World) (Q : Value → World → Prop) : Prop :=
  New cs1 132 w fun k4 w1 =>
  ∃ (z6 : Value), Pu Try.prog (zeroValue 132) z6 ∧
  New z6.cells 132 w1 fun k6 w2 =>
  ∃ (a10 : Addr), IxA Try.prog 132 (.pointer (some (⟨k4, 0, none⟩ : Addr))) (.int .i64 1) a10 ∧
  ∃ (n11 : Int), Ld Try.prog 5 (.pointer (some a10)) w2 (.int .u8 n11) ∧
  ∃ (a12 : Addr), IxA Try.prog 132 (.pointer (some (⟨k4, 0, none⟩ : Addr))) (.int .i64 2) a12 ∧
  ∃ (n13 : Int), Ld Try.prog 5 (.pointer (some a12)) w2 (.int .u8 n13) ∧
  ∃ (a14 : Addr), IxA Try.prog 132 (.pointer (some (⟨k4, 0, none⟩ : Addr))) (.int .i64 3) a14 ∧
  ∃ (n15 : Int), Ld Try.prog 5 (.pointer (some a14)) w2 (.int .u8 n15) ∧
  ∃ (a16 : Addr), IxA Try.prog 132 (.pointer (some (⟨k4, 0, none⟩ : Addr))) (.int .i64 0) a16 ∧
  ∃ (n17 : Int), Ld Try.prog 5 (.pointer (some a16)) w2 (.int .u8 n17) ∧
  ∃ (z7 : Value), Pu Try.prog (zeroValue 132) z7 ∧
  New z7.cells 132 w2 fun k7 w3 =>
  ∃ (w4 : World), Sto Try.prog 132 (.pointer (some (⟨k7, 0, none⟩ : Addr))) (.agg #[.int .u8 n11, .int .u8 n13, .int .u8 n15, .int .u8 n17]) w3 w4 ∧
  ∃ (cs19 : Array Value), Ld Try.prog 132 (.pointer (some (⟨k7, 0, none⟩ : Addr))) w4 (.agg cs19) ∧
  LoopS [.pointer p0, .int .i64 n2, .pointer (some (⟨k6, 0, none⟩ : Addr)), .pointer (some (⟨k7, 0, none⟩ : Addr)), .agg cs19, .int .i64 0] w4 fun I1 μ1 us1 _ wl1 =>
  ∃ (p0_1 : Option Addr) (n2_1 : Int) (a6 : Addr) (a7 : Addr) (cs19_1 : Array Value) (n20 : Int), us1 = [.pointer p0_1, .int .i64 n2_1, .pointer (some a6), .pointer (some a7), .agg cs19_1, .int .i64 n20] ∧
  cond (decide (n20 < 4))
  (∃ (n23 : Int), Pu Try.prog (Instr.index 132 (.agg cs19_1) (.int .i64 n20)) (.int .u8 n23) ∧
    ∃ (a26 : Addr), p0_1 = some a26 ∧
    ∃ (p28 : Option Addr), Ld Try.prog 125 (.pointer (some (a26.add 0))) wl1 (.pointer p28) ∧
    callF Try.prog 75 #[.pointer p28, .int .u8 n23] wl1 fun r30 w5 =>
    ∃ (n30 : Int), r30 = .int .u8 n30 ∧
    ∃ (a31 : Addr), IxA Try.prog 132 (.pointer (some a7)) (.int .i64 n20) a31 ∧
    ∃ (w6 : World), Sto Try.prog 5 (.pointer (some a31)) (.int .u8 n30) w5 w6 ∧
    goesOn [] [] I1 μ1 us1 [.pointer p0_1, .int .i64 n2_1, .pointer (some a6), .pointer (some a7), .agg cs19_1, .int .i64 (IntKind.i64.wrap (n20 + 1))] wl1 w6)
  (aes_Cipher_turned_j1 n2_1 a6 a7 wl1 Q)
def aes_Cipher_turned_tt : Nat → List (Nat × TypeId) := fun n => match n with | 0 => [(0, 92), (2, 3), (6, 1000000), (7, 1000000), (19, 132), (20, 3)] | _ => []
theorem aes_Cipher_turned_call (p0 : Option Addr) (cs1 : Array Value) (n2 : Int) (w : World) (Q : Value → World → Prop) (h : aes_Cipher_turned p0 cs1 n2 w Q) : callF Try.prog 71 #[.pointer p0, .agg cs1, .int .i64 n2] w Q :=
  callF_of (fun _ _ => by kernel_rfl) (callK_of_sw aes_Cipher_turned_tt Try.func71 rfl (by kernel_rfl) (show sw Try.prog none 42 aes_Cipher_turned_tt _ 0 (endK Try.prog [.cell 6 132] Q) ⟨regs [.pointer p0, .agg cs1, .int .i64 n2], []⟩ w from
    Eq.mp (by kernel_rfl : aes_Cipher_turned p0 cs1 n2 w Q = sw Try.prog none 42 aes_Cipher_turned_tt (Try.f71.body.getD .skip) 0 (endK Try.prog [.cell 6 132] Q) ⟨regs [.pointer p0, .agg cs1, .int .i64 n2], []⟩ w) h))

def aes_word_plus_j1 (a2 : Addr) (a4 : Addr) (w : World) (Q : Value → World → Prop) : Prop :=
  ∃ (cs18 : Array Value), Ld Try.prog 132 (.pointer (some a2)) w (.agg cs18) ∧
  ∃ (w1 : World), Sto Try.prog 132 (.pointer (some a4)) (.agg cs18) w w1 ∧
  ∃ (a4_1 : Addr) (v4 : Value), (.pointer (some a4) : Value) = .pointer (some a4_1) ∧ (loadVar 132 a4_1).run Try.prog w1 = .ok v4 w1 ∧
  Q (v4) w1
def aes_word_plus (cs0 : Array Value) (cs1 : Array Value) (w : World) (Q : Value → World → Prop) : Prop :=
  New cs0 132 w fun k2 w1 =>
  New cs1 132 w1 fun k3 w2 =>
  ∃ (z4 : Value), Pu Try.prog (zeroValue 132) z4 ∧
  New z4.cells 132 w2 fun k4 w3 =>
  LoopS [.pointer (some (⟨k2, 0, none⟩ : Addr)), .pointer (some (⟨k3, 0, none⟩ : Addr)), .pointer (some (⟨k4, 0, none⟩ : Addr)), .int .i64 0] w3 fun I1 μ1 us1 _ wl1 =>
  ∃ (a2 : Addr) (a3 : Addr) (a4 : Addr) (n6 : Int), us1 = [.pointer (some a2), .pointer (some a3), .pointer (some a4), .int .i64 n6] ∧
  cond (decide (n6 < 4))
  (∃ (S4 : World → Prop),
    Drw wl1 fun w4 =>
    ∃ (a10 : Addr), IxA Try.prog 132 (.pointer (some a2)) (.int .i64 n6) a10 ∧
    ∃ (a13 : Addr), IxA Try.prog 132 (.pointer (some a3)) (.int .i64 n6) a13 ∧
    ∃ (n11 : Int), HLd Try.prog S4 5 (.pointer (some a10)) w4 (.int .u8 n11) ∧
    ∃ (n14 : Int), Ld Try.prog 5 (.pointer (some a13)) w4 (.int .u8 n14) ∧
    (w4 = w4 ∨ S4 w4) ∧
    ∃ (a16 : Addr), IxA Try.prog 132 (.pointer (some a2)) (.int .i64 n6) a16 ∧
    ∃ (w5 : World), Sto Try.prog 5 (.pointer (some a16)) (.int .u8 (ixor .u8 n11 n14)) w4 w5 ∧
    goesOn [] [] I1 μ1 us1 [.pointer (some a2), .pointer (some a3), .pointer (some a4), .int .i64 (IntKind.i64.wrap (n6 + 1))] wl1 w5)
  (aes_word_plus_j1 a2 a4 wl1 Q)
def aes_word_plus_tt : Nat → List (Nat × TypeId) := fun n => match n with | 0 => [(2, 1000000), (3, 1000000), (4, 1000000), (6, 3)] | _ => []
theorem aes_word_plus_call (cs0 : Array Value) (cs1 : Array Value) (w : World) (Q : Value → World → Prop) (h : aes_word_plus cs0 cs1 w Q) : callF Try.prog 72 #[.agg cs0, .agg cs1] w Q :=
  callF_of (fun _ _ => by kernel_rfl) (callK_of_sw aes_word_plus_tt Try.func72 rfl (by kernel_rfl) (show sw Try.prog none 19 aes_word_plus_tt _ 0 (endK Try.prog [.cell 4 132] Q) ⟨regs [.agg cs0, .agg cs1], []⟩ w from
    Eq.mp (by kernel_rfl : aes_word_plus cs0 cs1 w Q = sw Try.prog none 19 aes_word_plus_tt (Try.f72.body.getD .skip) 0 (endK Try.prog [.cell 4 132] Q) ⟨regs [.agg cs0, .agg cs1], []⟩ w) h))

def aes_block_add (p0 : Option Addr) (cs1 : Array Value) (w : World) (Q : Value → World → Prop) : Prop :=
  New cs1 127 w fun k3 w1 =>
  LoopS [.pointer p0, .pointer (some (⟨k3, 0, none⟩ : Addr)), .int .i64 0] w1 fun I1 μ1 us1 _ wl1 =>
  ∃ (p0_1 : Option Addr) (a3 : Addr) (n5 : Int), us1 = [.pointer p0_1, .pointer (some a3), .int .i64 n5] ∧
  cond (decide (n5 < 16))
  (∃ (S4 : World → Prop),
    Drw wl1 fun w2 =>
    ∃ (a10 : Addr), p0_1 = some a10 ∧
    ∃ (a11 : Addr), IxA Try.prog 127 (.pointer (some a10)) (.int .i64 n5) a11 ∧
    ∃ (a14 : Addr), IxA Try.prog 127 (.pointer (some a3)) (.int .i64 n5) a14 ∧
    ∃ (a17 : Addr), p0_1 = some a17 ∧
    ∃ (n12 : Int), HLd Try.prog S4 5 (.pointer (some a11)) w2 (.int .u8 n12) ∧
    ∃ (n15 : Int), Ld Try.prog 5 (.pointer (some a14)) w2 (.int .u8 n15) ∧
    (w2 = w2 ∨ S4 w2) ∧
    ∃ (a18 : Addr), IxA Try.prog 127 (.pointer (some a17)) (.int .i64 n5) a18 ∧
    ∃ (w3 : World), Sto Try.prog 5 (.pointer (some a18)) (.int .u8 (ixor .u8 n12 n15)) w2 w3 ∧
    goesOn [] [] I1 μ1 us1 [.pointer p0_1, .pointer (some a3), .int .i64 (IntKind.i64.wrap (n5 + 1))] wl1 w3)
  (Q (.tuple #[]) wl1)
def aes_block_add_tt : Nat → List (Nat × TypeId) := fun n => match n with | 0 => [(0, 185), (3, 1000000), (5, 3)] | _ => []
theorem aes_block_add_call (p0 : Option Addr) (cs1 : Array Value) (w : World) (Q : Value → World → Prop) (h : aes_block_add p0 cs1 w Q) : callF Try.prog 73 #[.pointer p0, .agg cs1] w Q :=
  callF_of (fun _ _ => by kernel_rfl) (callK_of_sw aes_block_add_tt Try.func73 rfl (by kernel_rfl) (show sw Try.prog none 20 aes_block_add_tt _ 0 (endK Try.prog [] Q) ⟨regs [.pointer p0, .agg cs1], []⟩ w from
    Eq.mp (by kernel_rfl : aes_block_add p0 cs1 w Q = sw Try.prog none 20 aes_block_add_tt (Try.f73.body.getD .skip) 0 (endK Try.prog [] Q) ⟨regs [.pointer p0, .agg cs1], []⟩ w) h))

def aes_block_each (p0 : Option Addr) (v1 : Value) (w : World) (Q : Value → World → Prop) : Prop :=
  LoopS [.pointer p0, v1, .pointer p0, .int .i64 0] w fun I1 μ1 us1 _ wl1 =>
  ∃ (p0_1 : Option Addr) (v1_1 : Value) (p6 : Option Addr) (n7 : Int), us1 = [.pointer p0_1, v1_1, .pointer p6, .int .i64 n7] ∧
  cond (decide (n7 < 16))
  (Drw wl1 fun w1 =>
    ∃ (a10 : Addr), p6 = some a10 ∧
    ∃ (a11 : Addr), IxA Try.prog 127 (.pointer (some a10)) (.int .i64 n7) a11 ∧
    ∃ (n12 : Int), Ld Try.prog 5 (.pointer (some a11)) w1 (.int .u8 n12) ∧
    Drw w1 fun w2 =>
    ∃ (a18 : Addr), p0_1 = some a18 ∧
    callV Try.prog (v1_1) [.int .u8 n12] w2 fun r17 w3 =>
    ∃ (n17 : Int), r17 = .int .u8 n17 ∧
    ∃ (a19 : Addr), IxA Try.prog 127 (.pointer (some a18)) (.int .i64 n7) a19 ∧
    ∃ (w4 : World), Sto Try.prog 5 (.pointer (some a19)) (.int .u8 n17) w3 w4 ∧
    goesOn [] [] I1 μ1 us1 [.pointer p0_1, v1_1, .pointer p6, .int .i64 (IntKind.i64.wrap (n7 + 1))] wl1 w4)
  (Q (.tuple #[]) wl1)
def aes_block_each_tt : Nat → List (Nat × TypeId) := fun n => match n with | 0 => [(0, 185), (1, 138), (6, 185), (7, 3)] | _ => []
theorem aes_block_each_call (p0 : Option Addr) (v1 : Value) (w : World) (Q : Value → World → Prop) (h : aes_block_each p0 v1 w Q) : callF Try.prog 74 #[.pointer p0, v1] w Q :=
  callF_of (fun _ _ => by kernel_rfl) (callK_of_sw aes_block_each_tt Try.func74 rfl (by kernel_rfl) (show sw Try.prog none 21 aes_block_each_tt _ 0 (endK Try.prog [] Q) ⟨regs [.pointer p0, v1], []⟩ w from
    Eq.mp (by kernel_rfl : aes_block_each p0 v1 w Q = sw Try.prog none 21 aes_block_each_tt (Try.f74.body.getD .skip) 0 (endK Try.prog [] Q) ⟨regs [.pointer p0, v1], []⟩ w) h))

def aes_block_rows (p0 : Option Addr) (n1 : Int) (w : World) (Q : Value → World → Prop) : Prop :=
  ∃ (a8 : Addr), p0 = some a8 ∧
  ∃ (cs9 : Array Value), Ld Try.prog 127 (.pointer (some a8)) w (.agg cs9) ∧
  ∃ (z4 : Value), Pu Try.prog (zeroValue 127) z4 ∧
  New z4.cells 127 w fun k4 w1 =>
  ∃ (w2 : World), Sto Try.prog 127 (.pointer (some (⟨k4, 0, none⟩ : Addr))) (.agg cs9) w1 w2 ∧
  LoopS [.pointer p0, .int .i64 n1, .pointer (some (⟨k4, 0, none⟩ : Addr)), .int .i64 0] w2 fun I1 μ1 us1 _ wl1 =>
  ∃ (p0_1 : Option Addr) (n1_1 : Int) (a4 : Addr) (n10 : Int), us1 = [.pointer p0_1, .int .i64 n1_1, .pointer (some a4), .int .i64 n10] ∧
  cond (decide (n10 < 16))
  (Drw wl1 fun w3 =>
    ∃ (a24 : Addr), IxA Try.prog 127 (.pointer (some a4)) (.int .i64 (Int.tmod (IntKind.i64.wrap (n10 + (IntKind.i64.wrap ((IntKind.i64.wrap (4 * n1_1)) * (Int.tmod n10 4))))) 16)) a24 ∧
    ∃ (a26 : Addr), p0_1 = some a26 ∧
    ∃ (n25 : Int), Ld Try.prog 5 (.pointer (some a24)) w3 (.int .u8 n25) ∧
    ∃ (a27 : Addr), IxA Try.prog 127 (.pointer (some a26)) (.int .i64 n10) a27 ∧
    ∃ (w4 : World), Sto Try.prog 5 (.pointer (some a27)) (.int .u8 n25) w3 w4 ∧
    goesOn [] [] I1 μ1 us1 [.pointer p0_1, .int .i64 n1_1, .pointer (some a4), .int .i64 (IntKind.i64.wrap (n10 + 1))] wl1 w4)
  (Q (.tuple #[]) wl1)
def aes_block_rows_tt : Nat → List (Nat × TypeId) := fun n => match n with | 0 => [(0, 185), (1, 3), (4, 1000000), (10, 3)] | _ => []
theorem aes_block_rows_call (p0 : Option Addr) (n1 : Int) (w : World) (Q : Value → World → Prop) (h : aes_block_rows p0 n1 w Q) : callF Try.prog 76 #[.pointer p0, .int .i64 n1] w Q :=
  callF_of (fun _ _ => by kernel_rfl) (callK_of_sw aes_block_rows_tt Try.func76 rfl (by kernel_rfl) (show sw Try.prog none 29 aes_block_rows_tt _ 0 (endK Try.prog [] Q) ⟨regs [.pointer p0, .int .i64 n1], []⟩ w from
    Eq.mp (by kernel_rfl : aes_block_rows p0 n1 w Q = sw Try.prog none 29 aes_block_rows_tt (Try.f76.body.getD .skip) 0 (endK Try.prog [] Q) ⟨regs [.pointer p0, .int .i64 n1], []⟩ w) h))

def aes_block_columns_j1 (I1 : Inv) (μ1 : Meas) (us1 : List Value) (wl1 : World) (p0 : Option Addr) (v1 : Value) (a5 : Addr) (a6 : Addr) (n7 : Int) (n10 : Int) (n16 : Int) (w : World) (Q : Value → World → Prop) : Prop :=
  ∃ (a46 : Addr), p0 = some a46 ∧
  ∃ (a47 : Addr), IxA Try.prog 127 (.pointer (some a46)) (.int .i64 n7) a47 ∧
  ∃ (w1 : World), Sto Try.prog 5 (.pointer (some a47)) (.int .u8 n10) w w1 ∧
  goesOn [] [] I1 μ1 us1 [.pointer p0, v1, .pointer (some a5), .pointer (some a6), .int .i64 (IntKind.i64.wrap (n16 + 1))] wl1 w1
def aes_block_columns (p0 : Option Addr) (v1 : Value) (cs2 : Array Value) (w : World) (Q : Value → World → Prop) : Prop :=
  New cs2 142 w fun k5 w1 =>
  ∃ (a14 : Addr), p0 = some a14 ∧
  ∃ (cs15 : Array Value), Ld Try.prog 127 (.pointer (some a14)) w1 (.agg cs15) ∧
  ∃ (z6 : Value), Pu Try.prog (zeroValue 127) z6 ∧
  New z6.cells 127 w1 fun k6 w2 =>
  ∃ (w3 : World), Sto Try.prog 127 (.pointer (some (⟨k6, 0, none⟩ : Addr))) (.agg cs15) w2 w3 ∧
  LoopS [.pointer p0, v1, .pointer (some (⟨k5, 0, none⟩ : Addr)), .pointer (some (⟨k6, 0, none⟩ : Addr)), .int .i64 0] w3 fun I1 μ1 us1 _ wl1 =>
  ∃ (p0_1 : Option Addr) (v1_1 : Value) (a5 : Addr) (a6 : Addr) (n16 : Int), us1 = [.pointer p0_1, v1_1, .pointer (some a5), .pointer (some a6), .int .i64 n16] ∧
  cond (decide (n16 < 16))
  (∃ (cs23 : Array Value), Ld Try.prog 142 (.pointer (some a5)) wl1 (.agg cs23) ∧
    LoopS [.pointer p0_1, v1_1, .pointer (some a5), .pointer (some a6), .int .i64 n16, .int .i64 (IntKind.i64.wrap (Int.tdiv n16 4)), .int .i64 (Int.tmod n16 4), .int .u8 0, .int .i64 n16, .agg cs23, .int .i64 0] wl1 fun I2 μ2 us2 _ wl2 =>
    ∃ (p0_2 : Option Addr) (v1_2 : Value) (a5_1 : Addr) (a6_1 : Addr) (n7 : Int) (n8 : Int) (n9 : Int) (n10 : Int) (n16_1 : Int) (cs23_1 : Array Value) (n24 : Int), us2 = [.pointer p0_2, v1_2, .pointer (some a5_1), .pointer (some a6_1), .int .i64 n7, .int .i64 n8, .int .i64 n9, .int .u8 n10, .int .i64 n16_1, .agg cs23_1, .int .i64 n24] ∧
    cond (decide (n24 < 4))
    (∃ (n27 : Int), Pu Try.prog (Instr.index 142 (.agg cs23_1) (.int .i64 n24)) (.int .i64 n27) ∧
      ∃ (a38 : Addr), IxA Try.prog 127 (.pointer (some a6_1)) (.int .i64 (IntKind.i64.wrap ((IntKind.i64.wrap (4 * n8)) + (Int.tmod (IntKind.i64.wrap (n9 + n24)) 4)))) a38 ∧
      ∃ (n39 : Int), Ld Try.prog 5 (.pointer (some a38)) wl2 (.int .u8 n39) ∧
      callV Try.prog (v1_2) [.int .i64 n27, .int .u8 n39] wl2 fun r40 w4 =>
      ∃ (n40 : Int), r40 = .int .u8 n40 ∧
      goesOn [] [] I2 μ2 us2 [.pointer p0_2, v1_2, .pointer (some a5_1), .pointer (some a6_1), .int .i64 n7, .int .i64 n8, .int .i64 n9, .int .u8 (ixor .u8 n10 n40), .int .i64 n16_1, .agg cs23_1, .int .i64 (IntKind.i64.wrap (n24 + 1))] wl2 w4)
    (aes_block_columns_j1 I1 μ1 us1 wl1 p0_2 (v1_2) a5_1 a6_1 n7 n10 n16_1 wl2 Q))
  (Q (.tuple #[]) wl1)
def aes_block_columns_tt : Nat → List (Nat × TypeId) := fun n => match n with | 0 => [(0, 185), (1, 141), (5, 1000000), (6, 1000000), (16, 3)] | 2 => [(0, 185), (1, 141), (5, 1000000), (6, 1000000), (7, 3), (8, 3), (9, 3), (10, 5), (16, 3), (23, 142), (24, 3)] | _ => []
theorem aes_block_columns_call (p0 : Option Addr) (v1 : Value) (cs2 : Array Value) (w : World) (Q : Value → World → Prop) (h : aes_block_columns p0 v1 cs2 w Q) : callF Try.prog 77 #[.pointer p0, v1, .agg cs2] w Q :=
  callF_of (fun _ _ => by kernel_rfl) (callK_of_sw aes_block_columns_tt Try.func77 rfl (by kernel_rfl) (show sw Try.prog none 49 aes_block_columns_tt _ 0 (endK Try.prog [] Q) ⟨regs [.pointer p0, v1, .agg cs2], []⟩ w from
    Eq.mp (by kernel_rfl : aes_block_columns p0 v1 cs2 w Q = sw Try.prog none 49 aes_block_columns_tt (Try.f77.body.getD .skip) 0 (endK Try.prog [] Q) ⟨regs [.pointer p0, v1, .agg cs2], []⟩ w) h))

def aes_Cipher_times (p0 : Option Addr) (n1 : Int) (n2 : Int) (w : World) (Q : Value → World → Prop) : Prop :=
  cond (n1 == (-1))
  (Q (.int .u8 n2) w)
  (∃ (a14 : Addr), p0 = some a14 ∧
    ∃ (p16 : Option Addr), Ld Try.prog 125 (.pointer (some (a14.add 0))) w (.pointer p16) ∧
    callF Try.prog 99 #[.pointer p16, .int .i64 n1, .int .u8 n2] w fun r19 w1 =>
    ∃ (n19 : Int) (n19_1 : Int), r19 = .tuple #[.int .u8 n19, .int .i64 n19_1] ∧
    Q (.int .u8 n19) w1)
def aes_Cipher_times_tt : Nat → List (Nat × TypeId) := fun _ => []
theorem aes_Cipher_times_call (p0 : Option Addr) (n1 : Int) (n2 : Int) (w : World) (Q : Value → World → Prop) (h : aes_Cipher_times p0 n1 n2 w Q) : callF Try.prog 78 #[.pointer p0, .int .i64 n1, .int .u8 n2] w Q :=
  callF_of (fun _ _ => by kernel_rfl) (callK_of_sw aes_Cipher_times_tt Try.func78 rfl (by kernel_rfl) (show sw Try.prog none 23 aes_Cipher_times_tt _ 0 (endK Try.prog [.tmp 6] Q) ⟨regs [.pointer p0, .int .i64 n1, .int .u8 n2], []⟩ w from
    Eq.mp (by kernel_rfl : aes_Cipher_times p0 n1 n2 w Q = sw Try.prog none 23 aes_Cipher_times_tt (Try.f78.body.getD .skip) 0 (endK Try.prog [.tmp 6] Q) ⟨regs [.pointer p0, .int .i64 n1, .int .u8 n2], []⟩ w) h))
end Go.Sh
end

section
namespace Go.Sh
open Go Go.Fw Go.Proofs
set_option maxRecDepth 100000
set_option linter.unusedVariables false

def ref00_SameInts (p0 : Option Addr) (l0 : Nat) (c0 : Nat) (p1 : Option Addr) (l1 : Nat) (c1 : Nat) (w : World) (Q : Value → World → Prop) : Prop :=
  cond (((l0 : Nat) : Int) != ((l1 : Nat) : Int))
  (Q (.bool false) w)
  (LoopS [.slice p0 l0 c0, .slice p1 l1 c1, .bool false, .int .i64 0] w fun I1 μ1 us1 _ wl1 =>
    ∃ (p0_1 : Option Addr) (l0_1 : Nat) (c0_1 : Nat) (p1_1 : Option Addr) (l1_1 : Nat) (c1_1 : Nat) (b4 : Bool) (n5 : Int), us1 = [.slice p0_1 l0_1 c0_1, .slice p1_1 l1_1 c1_1, .bool b4, .int .i64 n5] ∧
    cond (decide (n5 < ((l0_1 : Nat) : Int)))
    (∃ (S6 : World → Prop),
      Drw wl1 fun w1 =>
      ∃ (a19 : Addr), IxA Try.prog 44 (.slice p0_1 l0_1 c0_1) (.int .i64 n5) a19 ∧
      ∃ (a23 : Addr), IxA Try.prog 44 (.slice p1_1 l1_1 c1_1) (.int .i64 n5) a23 ∧
      ∃ (n20 : Int), HLd Try.prog S6 3 (.pointer (some a19)) w1 (.int .i64 n20) ∧
      ∃ (n24 : Int), Ld Try.prog 3 (.pointer (some a23)) w1 (.int .i64 n24) ∧
      (w1 = w1 ∨ S6 w1) ∧
      cond (n20 != n24)
      (Q (.bool false) w1)
      (goesOn [] [] I1 μ1 us1 [.slice p0_1 l0_1 c0_1, .slice p1_1 l1_1 c1_1, .bool b4, .int .i64 (IntKind.i64.wrap (n5 + 1))] wl1 w1))
    (Q (.bool true) wl1))
def ref00_SameInts_tt : Nat → List (Nat × TypeId) := fun n => match n with | 0 => [(0, 44), (1, 44), (4, 4), (5, 3)] | _ => []
theorem ref00_SameInts_call (p0 : Option Addr) (l0 : Nat) (c0 : Nat) (p1 : Option Addr) (l1 : Nat) (c1 : Nat) (w : World) (Q : Value → World → Prop) (h : ref00_SameInts p0 l0 c0 p1 l1 c1 w Q) : callF Try.prog 23 #[.slice p0 l0 c0, .slice p1 l1 c1] w Q :=
  callF_of (fun _ _ => by kernel_rfl) (callK_of_sw ref00_SameInts_tt Try.func23 rfl (by kernel_rfl) (show sw Try.prog none 26 ref00_SameInts_tt _ 0 (endK Try.prog [.tmp 4] Q) ⟨regs [.slice p0 l0 c0, .slice p1 l1 c1], []⟩ w from
    Eq.mp (by kernel_rfl : ref00_SameInts p0 l0 c0 p1 l1 c1 w Q = sw Try.prog none 26 ref00_SameInts_tt (Try.f23.body.getD .skip) 0 (endK Try.prog [.tmp 4] Q) ⟨regs [.slice p0 l0 c0, .slice p1 l1 c1], []⟩ w) h))

def ref00_SameBytes (p0 : Option Addr) (l0 : Nat) (c0 : Nat) (p1 : Option Addr) (l1 : Nat) (c1 : Nat) (w : World) (Q : Value → World → Prop) : Prop :=
  cond (((l0 : Nat) : Int) != ((l1 : Nat) : Int))
  (Q (.bool false) w)
  (LoopS [.slice p0 l0 c0, .slice p1 l1 c1, .bool false, .int .i64 0] w fun I1 μ1 us1 _ wl1 =>
    ∃ (p0_1 : Option Addr) (l0_1 : Nat) (c0_1 : Nat) (p1_1 : Option Addr) (l1_1 : Nat) (c1_1 : Nat) (b4 : Bool) (n5 : Int), us1 = [.slice p0_1 l0_1 c0_1, .slice p1_1 l1_1 c1_1, .bool b4, .int .i64 n5] ∧
    cond (decide (n5 < ((l0_1 : Nat) : Int)))
    (∃ (S6 : World → Prop),
      Drw wl1 fun w1 =>
      ∃ (a19 : Addr), IxA Try.prog 23 (.slice p0_1 l0_1 c0_1) (.int .i64 n5) a19 ∧
      ∃ (a23 : Addr), IxA Try.prog 23 (.slice p1_1 l1_1 c1_1) (.int .i64 n5) a23 ∧
      ∃ (n20 : Int), HLd Try.prog S6 5 (.pointer (some a19)) w1 (.int .u8 n20) ∧
      ∃ (n24 : Int), Ld Try.prog 5 (.pointer (some a23)) w1 (.int .u8 n24) ∧
      (w1 = w1 ∨ S6 w1) ∧
      cond (n20 != n24)
      (Q (.bool false) w1)
      (goesOn [] [] I1 μ1 us1 [.slice p0_1 l0_1 c0_1, .slice p1_1 l1_1 c1_1, .bool b4, .int .i64 (IntKind.i64.wrap (n5 + 1))] wl1 w1))
    (Q (.bool true) wl1))
def ref00_SameBytes_tt : Nat → List (Nat × TypeId) := fun n => match n with | 0 => [(0, 23), (1, 23), (4, 4), (5, 3)] | _ => []
theorem ref00_SameBytes_call (p0 : Option Addr) (l0 : Nat) (c0 : Nat) (p1 : Option Addr) (l1 : Nat) (c1 : Nat) (w : World) (Q : Value → World → Prop) (h : ref00_SameBytes p0 l0 c0 p1 l1 c1 w Q) : callF Try.prog 29 #[.slice p0 l0 c0, .slice p1 l1 c1] w Q :=
  callF_of (fun _ _ => by kernel_rfl) (callK_of_sw ref00_SameBytes_tt Try.func29 rfl (by kernel_rfl) (show sw Try.prog none 26 ref00_SameBytes_tt _ 0 (endK Try.prog [.tmp 4] Q) ⟨regs [.slice p0 l0 c0, .slice p1 l1 c1], []⟩ w from
    Eq.mp (by kernel_rfl : ref00_SameBytes p0 l0 c0 p1 l1 c1 w Q = sw Try.prog none 26 ref00_SameBytes_tt (Try.f29.body.getD .skip) 0 (endK Try.prog [.tmp 4] Q) ⟨regs [.slice p0 l0 c0, .slice p1 l1 c1], []⟩ w) h))

def ref00_CopyBytes (p0 : Option Addr) (l0 : Nat) (c0 : Nat) (w : World) (Q : Value → World → Prop) : Prop :=
  ∃ (p3 : Option Addr) (l3 : Nat) (c3 : Nat) (w1 : World), Ef Try.prog (Instr.buildSlice 23 0 #[]) w (.slice p3 l3 c3) w1 ∧
  ∃ (p5 : Option Addr) (l5 : Nat) (c5 : Nat) (w2 : World), Ef Try.prog (Builtin.append_ #[23, 23] 23 #[.slice p3 l3 c3, .slice p0 l0 c0]) w1 (.slice p5 l5 c5) w2 ∧
  Q (.slice p5 l5 c5) w2
def ref00_CopyBytes_tt : Nat → List (Nat × TypeId) := fun _ => []
theorem ref00_CopyBytes_call (p0 : Option Addr) (l0 : Nat) (c0 : Nat) (w : World) (Q : Value → World → Prop) (h : ref00_CopyBytes p0 l0 c0 w Q) : callF Try.prog 41 #[.slice p0 l0 c0] w Q :=
  callF_of (fun _ _ => by kernel_rfl) (callK_of_sw ref00_CopyBytes_tt Try.func41 rfl (by kernel_rfl) (show sw Try.prog none 6 ref00_CopyBytes_tt _ 0 (endK Try.prog [.tmp 2] Q) ⟨regs [.slice p0 l0 c0], []⟩ w from
    Eq.mp (by kernel_rfl : ref00_CopyBytes p0 l0 c0 w Q = sw Try.prog none 6 ref00_CopyBytes_tt (Try.f41.body.getD .skip) 0 (endK Try.prog [.tmp 2] Q) ⟨regs [.slice p0 l0 c0], []⟩ w) h))
end Go.Sh
end
