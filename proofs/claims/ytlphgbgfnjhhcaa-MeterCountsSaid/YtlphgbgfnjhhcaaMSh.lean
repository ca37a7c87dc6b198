/- A part of a proof of a given law of this program: lemmas, printed forms of its functions, contracts. It has no conditions of its own. -/
import Derived.Test.YtlphgbgfnjhhcaaProg
import Derived.Test.YtlphgbgfnjhhcaaMFw
import Derived.Test.YtlphgbgfnjhhcaaMFw3

section
namespace Go.Sh
open Go
abbrev F_law27_MeterCounts : FuncId := 3
abbrev F_law27_MeterWords : FuncId := 4
abbrev F_law27_MeterTotals : FuncId := 5
abbrev F_law27_alive : FuncId := 29
abbrev F_meter_New : FuncId := 30
abbrev F_meter_Meter_Add : FuncId := 31
abbrev F_ref27_Meter_Add : FuncId := 32
abbrev F_meter_Meter_Clone : FuncId := 33
abbrev F_law27_Agree : FuncId := 34
abbrev F_meter_Meter_Of : FuncId := 35
abbrev F_meter_Class : FuncId := 36
abbrev F_ref27_Class : FuncId := 37
abbrev F_meter_Word : FuncId := 38
abbrev F_ref27_Word : FuncId := 39
abbrev F_meter_Meter_Total : FuncId := 40
abbrev F_meter_Meter_All : FuncId := 100
abbrev F_sync_atomic_Int64_Add : FuncId := 101
abbrev F_sync_atomic_Int64_Store : FuncId := 102
abbrev F_sync_atomic_Int64_Load : FuncId := 103
abbrev F_ref27_Meter_Of : FuncId := 104
abbrev F_ref27_Meter_Total : FuncId := 105
abbrev F_meter_Meter_All_c1 : FuncId := 142
abbrev F_sync_atomic_AddInt64 : FuncId := 143
abbrev F_sync_atomic_StoreInt64 : FuncId := 144
abbrev F_sync_atomic_LoadInt64 : FuncId := 145
abbrev T_int : TypeId := 3
abbrev T_string : TypeId := 9
abbrev T_S_law27_Row : TypeId := 22
abbrev T_law27_Row : TypeId := 24
abbrev T_S_ref27_Row : TypeId := 29
abbrev T_ref27_Meter : TypeId := 31
abbrev T_A3_int : TypeId := 41
abbrev T_A16_sync_atomic_Int64 : TypeId := 124
abbrev T_A3_sync_atomic_Int64 : TypeId := 125
abbrev T_ref27_Row : TypeId := 129
abbrev T_A16_int : TypeId := 132
abbrev T_S_string : TypeId := 134
end Go.Sh
end

section
namespace Go.Sh
open Go Go.Fw Go.Proofs
set_option maxRecDepth 100000
theorem sync_atomic_AddInt64_c {b n o : Nat} {g : Nat → Value} {x y : Int} {w : World} (hB : Blk w b n g) (ho : o < n) (hv : g o = .int .i64 x) {K : Value → World → Prop} (h : ∀ w', Fr [b] w w' → Blk w' b n (upd g o (.int .i64 (IntKind.i64.wrap (x + y)))) → w'.heap.size = w.heap.size → K (.int .i64 (IntKind.i64.wrap (x + y))) w') : callF Try.prog F_sync_atomic_AddInt64 #[.pointer (some ⟨b, o, none⟩), .int .i64 y] w K := add_c Try.func143 (by kernel_rfl) (by kernel_rfl) (by kernel_rfl) .i64 (by kernel_rfl) hB ho hv h
theorem sync_atomic_StoreInt64_c {b n o : Nat} {g : Nat → Value} {y : Int} {w : World} (hB : Blk w b n g) (ho : o < n) {K : Value → World → Prop} (h : ∀ w', Fr [b] w w' → Blk w' b n (upd g o (.int .i64 y)) → w'.heap.size = w.heap.size → K (.tuple #[]) w') : callF Try.prog F_sync_atomic_StoreInt64 #[.pointer (some ⟨b, o, none⟩), .int .i64 y] w K := storeA_c Try.func144 (by kernel_rfl) (by kernel_rfl) (by kernel_rfl) (by kernel_rfl) hB ho h
theorem sync_atomic_LoadInt64_c {b n o : Nat} {g : Nat → Value} {x : Int} {w : World} (hB : Blk w b n g) (ho : o < n) (hv : g o = .int .i64 x) {K : Value → World → Prop} (h : K (.int .i64 x) w) : callF Try.prog F_sync_atomic_LoadInt64 #[.pointer (some ⟨b, o, none⟩)] w K := load_c Try.func145 (by kernel_rfl) (by kernel_rfl) (by kernel_rfl) .i64 (by kernel_rfl) hB ho hv h
end Go.Sh
end

section
namespace Go.Sh
open Go Go.Fw Go.Proofs
set_option maxRecDepth 100000
set_option linter.unusedVariables false

def sync_atomic_Int64_Add (p0 : Option Addr) (n1 : Int) (w : World) (Q : Value → World → Prop) : Prop :=
  ∃ (a6 : Addr), p0 = some a6 ∧
  callF Try.prog 143 #[.pointer (some (a6.add 0)), .int .i64 n1] w fun r9 w1 =>
  ∃ (n9 : Int), r9 = .int .i64 n9 ∧
  Q (.int .i64 n9) w1
def sync_atomic_Int64_Add_tt : Nat → List (Nat × TypeId) := fun _ => []
theorem sync_atomic_Int64_Add_call (p0 : Option Addr) (n1 : Int) (w : World) (Q : Value → World → Prop) (h : sync_atomic_Int64_Add p0 n1 w Q) : callF Try.prog 101 #[.pointer p0, .int .i64 n1] w Q :=
  callF_of (fun _ _ => by kernel_rfl) (callK_of_sw sync_atomic_Int64_Add_tt Try.func101 rfl (by kernel_rfl) (show sw Try.prog none 10 sync_atomic_Int64_Add_tt _ 0 (endK Try.prog [.tmp 4] Q) ⟨regs [.pointer p0, .int .i64 n1], []⟩ w from
    Eq.mp (by kernel_rfl : sync_atomic_Int64_Add p0 n1 w Q = sw Try.prog none 10 sync_atomic_Int64_Add_tt (Try.f101.body.getD .skip) 0 (endK Try.prog [.tmp 4] Q) ⟨regs [.pointer p0, .int .i64 n1], []⟩ w) h))

def sync_atomic_Int64_Store (p0 : Option Addr) (n1 : Int) (w : World) (Q : Value → World → Prop) : Prop :=
  ∃ (a5 : Addr), p0 = some a5 ∧
  callF Try.prog 144 #[.pointer (some (a5.add 0)), .int .i64 n1] w fun r8 w1 =>
  r8 = .tuple #[] ∧
  Q (.tuple #[]) w1
def sync_atomic_Int64_Store_tt : Nat → List (Nat × TypeId) := fun _ => []
theorem sync_atomic_Int64_Store_call (p0 : Option Addr) (n1 : Int) (w : World) (Q : Value → World → Prop) (h : sync_atomic_Int64_Store p0 n1 w Q) : callF Try.prog 102 #[.pointer p0, .int .i64 n1] w Q :=
  callF_of (fun _ _ => by kernel_rfl) (callK_of_sw sync_atomic_Int64_Store_tt Try.func102 rfl (by kernel_rfl) (show sw Try.prog none 9 sync_atomic_Int64_Store_tt _ 0 (endK Try.prog [] Q) ⟨regs [.pointer p0, .int .i64 n1], []⟩ w from
    Eq.mp (by kernel_rfl : sync_atomic_Int64_Store p0 n1 w Q = sw Try.prog none 9 sync_atomic_Int64_Store_tt (Try.f102.body.getD .skip) 0 (endK Try.prog [] Q) ⟨regs [.pointer p0, .int .i64 n1], []⟩ w) h))

def sync_atomic_Int64_Load (p0 : Option Addr) (w : World) (Q : Value → World → Prop) : Prop :=
  ∃ (a4 : Addr), p0 = some a4 ∧
  callF Try.prog 145 #[.pointer (some (a4.add 0))] w fun r6 w1 =>
  ∃ (n6 : Int), r6 = .int .i64 n6 ∧
  Q (.int .i64 n6) w1
def sync_atomic_Int64_Load_tt : Nat → List (Nat × TypeId) := fun _ => []
theorem sync_atomic_Int64_Load_call (p0 : Option Addr) (w : World) (Q : Value → World → Prop) (h : sync_atomic_Int64_Load p0 w Q) : callF Try.prog 103 #[.pointer p0] w Q :=
  callF_of (fun _ _ => by kernel_rfl) (callK_of_sw sync_atomic_Int64_Load_tt Try.func103 rfl (by kernel_rfl) (show sw Try.prog none 7 sync_atomic_Int64_Load_tt _ 0 (endK Try.prog [.tmp 2] Q) ⟨regs [.pointer p0], []⟩ w from
    Eq.mp (by kernel_rfl : sync_atomic_Int64_Load p0 w Q = sw Try.prog none 7 sync_atomic_Int64_Load_tt (Try.f103.body.getD .skip) 0 (endK Try.prog [.tmp 2] Q) ⟨regs [.pointer p0], []⟩ w) h))
end Go.Sh
end

section
namespace Go.Sh
open Go Go.Fw Go.Proofs
set_option maxRecDepth 100000
set_option linter.unusedVariables false

def meter_New  (w : World) (Q : Value → World → Prop) : Prop :=
  New #[.int .i64 0, .int .i64 0, .int .i64 0, .int .i64 0, .int .i64 0, .int .i64 0, .int .i64 0, .int .i64 0, .int .i64 0, .int .i64 0, .int .i64 0, .int .i64 0, .int .i64 0, .int .i64 0, .int .i64 0, .int .i64 0, .int .i64 0, .int .i64 0, .int .i64 0] 127 w fun k2 w1 =>
  Q (.pointer (some (⟨k2, 0, none⟩ : Addr))) w1
def meter_New_tt : Nat → List (Nat × TypeId) := fun _ => []
theorem meter_New_call  (w : World) (Q : Value → World → Prop) (h : meter_New  w Q) : callF Try.prog 30 #[] w Q :=
  callF_of (fun _ _ => by kernel_rfl) (callK_of_sw meter_New_tt Try.func30 rfl (by kernel_rfl) (show sw Try.prog none 3 meter_New_tt _ 0 (endK Try.prog [.tmp 0] Q) ⟨regs [], []⟩ w from
    Eq.mp (by kernel_rfl : meter_New  w Q = sw Try.prog none 3 meter_New_tt (Try.f30.body.getD .skip) 0 (endK Try.prog [.tmp 0] Q) ⟨regs [], []⟩ w) h))

def meter_Meter_Add_j1 (p0 : Option Addr) (n1 : Int) (n2 : Int) (n6 : Int) (n7 : Int) (w : World) (Q : Value → World → Prop) : Prop :=
  ∃ (a26 : Addr), p0 = some a26 ∧
  ∃ (a28 : Addr), IxA Try.prog 124 (.pointer (some (a26.add 0))) (.int .i64 n1) a28 ∧
  callF Try.prog 101 #[.pointer (some a28), .int .i64 1] w fun r29 w1 =>
  ∃ (n29 : Int), r29 = .int .i64 n29 ∧
  ∃ (a32 : Addr), p0 = some a32 ∧
  ∃ (a34 : Addr), IxA Try.prog 125 (.pointer (some (a32.add 16))) (.int .i64 n7) a34 ∧
  callF Try.prog 101 #[.pointer (some a34), .int .i64 n2] w1 fun r36 w2 =>
  ∃ (n36 : Int), r36 = .int .i64 n36 ∧
  Q (.int .i64 0) w2
def meter_Meter_Add (p0 : Option Addr) (n1 : Int) (n2 : Int) (w : World) (Q : Value → World → Prop) : Prop :=
  callF Try.prog 36 #[.int .i64 n1] w fun r11 w1 =>
  ∃ (n11 : Int) (b11 : Bool), r11 = .tuple #[.int .i64 n11, .bool b11] ∧
  cond (!b11)
  (Q (.int .i64 11) w1)
  (cond (decide (n2 < 0))
    (Q (.int .i64 11) w1)
    (cond (decide (n2 > 65535))
      (Q (.int .i64 11) w1)
      (meter_Meter_Add_j1 p0 n1 n2 0 n11 w1 Q)))
def meter_Meter_Add_tt : Nat → List (Nat × TypeId) := fun _ => []
theorem meter_Meter_Add_call (p0 : Option Addr) (n1 : Int) (n2 : Int) (w : World) (Q : Value → World → Prop) (h : meter_Meter_Add p0 n1 n2 w Q) : callF Try.prog 31 #[.pointer p0, .int .i64 n1, .int .i64 n2] w Q :=
  callF_of (fun _ _ => by kernel_rfl) (callK_of_sw meter_Meter_Add_tt Try.func31 rfl (by kernel_rfl) (show sw Try.prog none 37 meter_Meter_Add_tt _ 0 (endK Try.prog [.tmp 6] Q) ⟨regs [.pointer p0, .int .i64 n1, .int .i64 n2], []⟩ w from
    Eq.mp (by kernel_rfl : meter_Meter_Add p0 n1 n2 w Q = sw Try.prog none 37 meter_Meter_Add_tt (Try.f31.body.getD .skip) 0 (endK Try.prog [.tmp 6] Q) ⟨regs [.pointer p0, .int .i64 n1, .int .i64 n2], []⟩ w) h))

def meter_Meter_Clone_j1 (p0 : Option Addr) (p2 : Option Addr) (p3 : Option Addr) (w : World) (Q : Value → World → Prop) : Prop :=
  LoopS [.pointer p0, .pointer p2, .pointer p3, .int .i64 0] w fun I2 μ2 us2 _ wl2 =>
  ∃ (p0_1 : Option Addr) (p2_1 : Option Addr) (p3_1 : Option Addr) (n23 : Int), us2 = [.pointer p0_1, .pointer p2_1, .pointer p3_1, .int .i64 n23] ∧
  cond (decide (n23 < 3))
  (Drw wl2 fun w1 =>
    ∃ (a28 : Addr), p3_1 = some a28 ∧
    ∃ (a30 : Addr), IxA Try.prog 125 (.pointer (some (a28.add 16))) (.int .i64 n23) a30 ∧
    ∃ (a33 : Addr), p0_1 = some a33 ∧
    ∃ (a35 : Addr), IxA Try.prog 125 (.pointer (some (a33.add 16))) (.int .i64 n23) a35 ∧
    callF Try.prog 103 #[.pointer (some a35)] w1 fun r36 w2 =>
    ∃ (n36 : Int), r36 = .int .i64 n36 ∧
    callF Try.prog 102 #[.pointer (some a30), .int .i64 n36] w2 fun r37 w3 =>
    r37 = .tuple #[] ∧
    goesOn [] [] I2 μ2 us2 [.pointer p0_1, .pointer p2_1, .pointer p3_1, .int .i64 (IntKind.i64.wrap (n23 + 1))] wl2 w3)
  (Q (.pointer p3_1) wl2)
def meter_Meter_Clone (p0 : Option Addr) (w : World) (Q : Value → World → Prop) : Prop :=
  callF Try.prog 30 #[] w fun r6 w1 =>
  ∃ (p6 : Option Addr), r6 = .pointer p6 ∧
  LoopS [.pointer p0, .pointer none, .pointer p6, .int .i64 0] w1 fun I1 μ1 us1 _ wl1 =>
  ∃ (p0_1 : Option Addr) (p2 : Option Addr) (p3 : Option Addr) (n7 : Int), us1 = [.pointer p0_1, .pointer p2, .pointer p3, .int .i64 n7] ∧
  cond (decide (n7 < 16))
  (Drw wl1 fun w2 =>
    ∃ (a12 : Addr), p3 = some a12 ∧
    ∃ (a14 : Addr), IxA Try.prog 124 (.pointer (some (a12.add 0))) (.int .i64 n7) a14 ∧
    ∃ (a17 : Addr), p0_1 = some a17 ∧
    ∃ (a19 : Addr), IxA Try.prog 124 (.pointer (some (a17.add 0))) (.int .i64 n7) a19 ∧
    callF Try.prog 103 #[.pointer (some a19)] w2 fun r20 w3 =>
    ∃ (n20 : Int), r20 = .int .i64 n20 ∧
    callF Try.prog 102 #[.pointer (some a14), .int .i64 n20] w3 fun r21 w4 =>
    r21 = .tuple #[] ∧
    goesOn [] [] I1 μ1 us1 [.pointer p0_1, .pointer p2, .pointer p3, .int .i64 (IntKind.i64.wrap (n7 + 1))] wl1 w4)
  (meter_Meter_Clone_j1 p0_1 p2 p3 wl1 Q)
def meter_Meter_Clone_tt : Nat → List (Nat × TypeId) := fun n => match n with | 0 => [(0, 26), (2, 26), (3, 26), (7, 3)] | 2 => [(0, 26), (2, 26), (3, 26), (23, 3)] | _ => []
theorem meter_Meter_Clone_call (p0 : Option Addr) (w : World) (Q : Value → World → Prop) (h : meter_Meter_Clone p0 w Q) : callF Try.prog 33 #[.pointer p0] w Q :=
  callF_of (fun _ _ => by kernel_rfl) (callK_of_sw meter_Meter_Clone_tt Try.func33 rfl (by kernel_rfl) (show sw Try.prog none 40 meter_Meter_Clone_tt _ 0 (endK Try.prog [.tmp 2] Q) ⟨regs [.pointer p0], []⟩ w from
    Eq.mp (by kernel_rfl : meter_Meter_Clone p0 w Q = sw Try.prog none 40 meter_Meter_Clone_tt (Try.f33.body.getD .skip) 0 (endK Try.prog [.tmp 2] Q) ⟨regs [.pointer p0], []⟩ w) h))

def meter_Meter_Of (p0 : Option Addr) (n1 : Int) (w : World) (Q : Value → World → Prop) : Prop :=
  callF Try.prog 36 #[.int .i64 n1] w fun r9 w1 =>
  ∃ (n9 : Int) (b9 : Bool), r9 = .tuple #[.int .i64 n9, .bool b9] ∧
  cond (!b9)
  (Q (.int .i64 0) w1)
  (∃ (a16 : Addr), p0 = some a16 ∧
    ∃ (a18 : Addr), IxA Try.prog 124 (.pointer (some (a16.add 0))) (.int .i64 n1) a18 ∧
    callF Try.prog 103 #[.pointer (some a18)] w1 fun r19 w2 =>
    ∃ (n19 : Int), r19 = .int .i64 n19 ∧
    Q (.int .i64 n19) w2)
def meter_Meter_Of_tt : Nat → List (Nat × TypeId) := fun _ => []
theorem meter_Meter_Of_call (p0 : Option Addr) (n1 : Int) (w : World) (Q : Value → World → Prop) (h : meter_Meter_Of p0 n1 w Q) : callF Try.prog 35 #[.pointer p0, .int .i64 n1] w Q :=
  callF_of (fun _ _ => by kernel_rfl) (callK_of_sw meter_Meter_Of_tt Try.func35 rfl (by kernel_rfl) (show sw Try.prog none 20 meter_Meter_Of_tt _ 0 (endK Try.prog [.tmp 4] Q) ⟨regs [.pointer p0, .int .i64 n1], []⟩ w from
    Eq.mp (by kernel_rfl : meter_Meter_Of p0 n1 w Q = sw Try.prog none 20 meter_Meter_Of_tt (Try.f35.body.getD .skip) 0 (endK Try.prog [.tmp 4] Q) ⟨regs [.pointer p0, .int .i64 n1], []⟩ w) h))

def meter_Class_j1 (n0 : Int) (n2 : Int) (b3 : Bool) (b4 : Bool) (w : World) (Q : Value → World → Prop) : Prop :=
  cond b4
  (Q (.tuple #[.int .i64 0, .bool false]) w)
  (cond (decide (n0 < 3))
    (Q (.tuple #[.int .i64 0, .bool true]) w)
    (cond (decide (n0 < 5))
      (Q (.tuple #[.int .i64 1, .bool true]) w)
      (Q (.tuple #[.int .i64 2, .bool true]) w)))
def meter_Class (n0 : Int) (w : World) (Q : Value → World → Prop) : Prop :=
  cond (decide (n0 < 0))
  (meter_Class_j1 n0 0 false true w Q)
  (meter_Class_j1 n0 0 false (decide (n0 ≥ 16)) w Q)
def meter_Class_tt : Nat → List (Nat × TypeId) := fun _ => []
theorem meter_Class_call (n0 : Int) (w : World) (Q : Value → World → Prop) (h : meter_Class n0 w Q) : callF Try.prog 36 #[.int .i64 n0] w Q :=
  callF_of (fun _ _ => by kernel_rfl) (callK_of_sw meter_Class_tt Try.func36 rfl (by kernel_rfl) (show sw Try.prog none 17 meter_Class_tt _ 0 (endK Try.prog [.tmp 2, .tmp 3] Q) ⟨regs [.int .i64 n0], []⟩ w from
    Eq.mp (by kernel_rfl : meter_Class n0 w Q = sw Try.prog none 17 meter_Class_tt (Try.f36.body.getD .skip) 0 (endK Try.prog [.tmp 2, .tmp 3] Q) ⟨regs [.int .i64 n0], []⟩ w) h))

def meter_Word (n0 : Int) (w : World) (Q : Value → World → Prop) : Prop :=
  callF Try.prog 36 #[.int .i64 n0] w fun r8 w1 =>
  ∃ (n8 : Int) (b8 : Bool), r8 = .tuple #[.int .i64 n8, .bool b8] ∧
  cond (!b8)
  (Q (.string (⟨#[]⟩ : ByteArray)) w1)
  (∃ (z5 : Value), Pu Try.prog (zeroValue 133) z5 ∧
    New z5.cells 133 w1 fun k5 w2 =>
    ∃ (w3 : World), Sto Try.prog 133 (.pointer (some (⟨k5, 0, none⟩ : Addr))) (.agg #[.string (⟨#[105, 100]⟩ : ByteArray), .string (⟨#[116, 97, 98, 108, 101]⟩ : ByteArray), .string (⟨#[110, 101, 119]⟩ : ByteArray), .string (⟨#[114, 101, 116, 114, 121]⟩ : ByteArray), .string (⟨#[111, 102, 102, 101, 114]⟩ : ByteArray), .string (⟨#[101, 109, 112, 116, 121]⟩ : ByteArray), .string (⟨#[115, 104, 111, 114, 116]⟩ : ByteArray), .string (⟨#[122, 101, 114, 111]⟩ : ByteArray), .string (⟨#[115, 109, 97, 108, 108]⟩ : ByteArray), .string (⟨#[107, 105, 110, 100]⟩ : ByteArray), .string (⟨#[102, 111, 114, 109]⟩ : ByteArray), .string (⟨#[116, 111, 107, 101, 110]⟩ : ByteArray), .string (⟨#[107, 101, 121]⟩ : ByteArray), .string (⟨#[100, 114, 97, 119]⟩ : ByteArray), .string (⟨#[110, 111, 110, 101]⟩ : ByteArray), .string (⟨#[108, 111, 110, 103]⟩ : ByteArray)]) w2 w3 ∧
    ∃ (a15 : Addr), IxA Try.prog 133 (.pointer (some (⟨k5, 0, none⟩ : Addr))) (.int .i64 n0) a15 ∧
    ∃ (s16 : ByteArray), Ld Try.prog 9 (.pointer (some a15)) w3 (.string s16) ∧
    Q (.string s16) w3)
def meter_Word_tt : Nat → List (Nat × TypeId) := fun _ => []
theorem meter_Word_call (n0 : Int) (w : World) (Q : Value → World → Prop) (h : meter_Word n0 w Q) : callF Try.prog 38 #[.int .i64 n0] w Q :=
  callF_of (fun _ _ => by kernel_rfl) (callK_of_sw meter_Word_tt Try.func38 rfl (by kernel_rfl) (show sw Try.prog none 17 meter_Word_tt _ 0 (endK Try.prog [.tmp 2] Q) ⟨regs [.int .i64 n0], []⟩ w from
    Eq.mp (by kernel_rfl : meter_Word n0 w Q = sw Try.prog none 17 meter_Word_tt (Try.f38.body.getD .skip) 0 (endK Try.prog [.tmp 2] Q) ⟨regs [.int .i64 n0], []⟩ w) h))

def meter_Meter_Total_j1 (p0 : Option Addr) (n1 : Int) (n4 : Int) (n5 : Int) (w : World) (Q : Value → World → Prop) : Prop :=
  ∃ (a35 : Addr), p0 = some a35 ∧
  ∃ (a37 : Addr), IxA Try.prog 125 (.pointer (some (a35.add 16))) (.int .i64 n1) a37 ∧
  callF Try.prog 103 #[.pointer (some a37)] w fun r38 w1 =>
  ∃ (n38 : Int), r38 = .int .i64 n38 ∧
  Q (.tuple #[.int .i64 n4, .int .i64 n38]) w1
def meter_Meter_Total_j2 (p0 : Option Addr) (n1 : Int) (n4 : Int) (n5 : Int) (w : World) (Q : Value → World → Prop) : Prop :=
  LoopS [.pointer p0, .int .i64 n1, .int .i64 n4, .int .i64 n5, .int .i64 0] w fun I1 μ1 us1 _ wl1 =>
  ∃ (p0_1 : Option Addr) (n1_1 : Int) (n4_1 : Int) (n5_1 : Int) (n15 : Int), us1 = [.pointer p0_1, .int .i64 n1_1, .int .i64 n4_1, .int .i64 n5_1, .int .i64 n15] ∧
  cond (decide (n15 < 16))
  (callF Try.prog 36 #[.int .i64 n15] wl1 fun r20 w1 =>
    ∃ (n20 : Int) (b20 : Bool), r20 = .tuple #[.int .i64 n20, .bool b20] ∧
    cond (n20 == n1_1)
    (callF Try.prog 35 #[.pointer p0_1, .int .i64 n15] w1 fun r29 w2 =>
      ∃ (n29 : Int), r29 = .int .i64 n29 ∧
      goesOn [] [] I1 μ1 us1 [.pointer p0_1, .int .i64 n1_1, .int .i64 (IntKind.i64.wrap (n4_1 + n29)), .int .i64 n5_1, .int .i64 (IntKind.i64.wrap (n15 + 1))] wl1 w2)
    (goesOn [] [] I1 μ1 us1 [.pointer p0_1, .int .i64 n1_1, .int .i64 n4_1, .int .i64 n5_1, .int .i64 (IntKind.i64.wrap (n15 + 1))] wl1 w1))
  (meter_Meter_Total_j1 p0_1 n1_1 n4_1 n5_1 wl1 Q)
def meter_Meter_Total (p0 : Option Addr) (n1 : Int) (w : World) (Q : Value → World → Prop) : Prop :=
  cond (decide (n1 < 0))
  (Q (.tuple #[.int .i64 0, .int .i64 0]) w)
  (cond (decide (n1 ≥ 3))
    (Q (.tuple #[.int .i64 0, .int .i64 0]) w)
    (meter_Meter_Total_j2 p0 n1 0 0 w Q))
def meter_Meter_Total_tt : Nat → List (Nat × TypeId) := fun n => match n with | 0 => [(0, 26), (1, 3), (4, 3), (5, 3), (15, 3)] | _ => []
theorem meter_Meter_Total_call (p0 : Option Addr) (n1 : Int) (w : World) (Q : Value → World → Prop) (h : meter_Meter_Total p0 n1 w Q) : callF Try.prog 40 #[.pointer p0, .int .i64 n1] w Q :=
  callF_of (fun _ _ => by kernel_rfl) (callK_of_sw meter_Meter_Total_tt Try.func40 rfl (by kernel_rfl) (show sw Try.prog none 39 meter_Meter_Total_tt _ 0 (endK Try.prog [.tmp 4, .tmp 5] Q) ⟨regs [.pointer p0, .int .i64 n1], []⟩ w from
    Eq.mp (by kernel_rfl : meter_Meter_Total p0 n1 w Q = sw Try.prog none 39 meter_Meter_Total_tt (Try.f40.body.getD .skip) 0 (endK Try.prog [.tmp 4, .tmp 5] Q) ⟨regs [.pointer p0, .int .i64 n1], []⟩ w) h))

def meter_Meter_All (p0 : Option Addr) (w : World) (Q : Value → World → Prop) : Prop :=
  New #[.pointer p0] 26 w fun k1 w1 =>
  Q (.func (.func 142) #[] #[.pointer (some (⟨k1, 0, none⟩ : Addr))]) w1
def meter_Meter_All_tt : Nat → List (Nat × TypeId) := fun _ => []
theorem meter_Meter_All_call (p0 : Option Addr) (w : World) (Q : Value → World → Prop) (h : meter_Meter_All p0 w Q) : callF Try.prog 100 #[.pointer p0] w Q :=
  callF_of (fun _ _ => by kernel_rfl) (callK_of_sw meter_Meter_All_tt Try.func100 rfl (by kernel_rfl) (show sw Try.prog none 4 meter_Meter_All_tt _ 0 (endK Try.prog [.tmp 2] Q) ⟨regs [.pointer p0], []⟩ w from
    Eq.mp (by kernel_rfl : meter_Meter_All p0 w Q = sw Try.prog none 4 meter_Meter_All_tt (Try.f100.body.getD .skip) 0 (endK Try.prog [.tmp 2] Q) ⟨regs [.pointer p0], []⟩ w) h))

def meter_Meter_All_c1 (v0 : Value) (p1 : Option Addr) (w : World) (Q : Value → World → Prop) : Prop :=
  ∃ (p6 : Option Addr), Ld Try.prog 26 (.pointer p1) w (.pointer p6) ∧
  callF Try.prog 33 #[.pointer p6] w fun r7 w1 =>
  ∃ (p7 : Option Addr), r7 = .pointer p7 ∧
  LoopS [v0, .pointer p7, .int .i64 0] w1 fun I1 μ1 us1 _ wl1 =>
  ∃ (v0_1 : Value) (p3 : Option Addr) (n8 : Int), us1 = [v0_1, .pointer p3, .int .i64 n8] ∧
  cond (decide (n8 < 16))
  (callF Try.prog 35 #[.pointer p3, .int .i64 n8] wl1 fun r13 w2 =>
    ∃ (n13 : Int), r13 = .int .i64 n13 ∧
    cond (decide (n13 > 0))
    (callV Try.prog (v0_1) [.int .i64 n8, .int .i64 n13] w2 fun r20 w3 =>
      ∃ (b20 : Bool), r20 = .bool b20 ∧
      cond (!b20)
      (Q (.tuple #[]) w3)
      (goesOn [] [] I1 μ1 us1 [v0_1, .pointer p3, .int .i64 (IntKind.i64.wrap (n8 + 1))] wl1 w3))
    (goesOn [] [] I1 μ1 us1 [v0_1, .pointer p3, .int .i64 (IntKind.i64.wrap (n8 + 1))] wl1 w2))
  (Q (.tuple #[]) wl1)
def meter_Meter_All_c1_tt : Nat → List (Nat × TypeId) := fun n => match n with | 0 => [(0, 40), (3, 26), (8, 3)] | _ => []
theorem meter_Meter_All_c1_call (v0 : Value) (p1 : Option Addr) (w : World) (Q : Value → World → Prop) (h : meter_Meter_All_c1 v0 p1 w Q) : callF Try.prog 142 #[v0, .pointer p1] w Q :=
  callF_of (fun _ _ => by kernel_rfl) (callK_of_sw meter_Meter_All_c1_tt Try.func142 rfl (by kernel_rfl) (show sw Try.prog none 24 meter_Meter_All_c1_tt _ 0 (endK Try.prog [] Q) ⟨regs [v0, .pointer p1], []⟩ w from
    Eq.mp (by kernel_rfl : meter_Meter_All_c1 v0 p1 w Q = sw Try.prog none 24 meter_Meter_All_c1_tt (Try.f142.body.getD .skip) 0 (endK Try.prog [] Q) ⟨regs [v0, .pointer p1], []⟩ w) h))
end Go.Sh
end

section
namespace Go.Sh
open Go Go.Fw Go.Proofs
set_option maxRecDepth 100000
set_option linter.unusedVariables false

def ref27_Meter_Add_j1 (p0 : Option Addr) (n1 : Int) (n2 : Int) (n6 : Int) (w : World) (Q : Value → World → Prop) : Prop :=
  ∃ (a20 : Addr), p0 = some a20 ∧
  ∃ (p22 : Option Addr) (l22 : Nat) (c22 : Nat), Ld Try.prog 29 (.pointer (some (a20.add 0))) w (.slice p22 l22 c22) ∧
  ∃ (p26 : Option Addr) (l26 : Nat) (c26 : Nat) (w1 : World), Ef Try.prog (Instr.buildSlice 29 1 #[(0, .agg #[.int .i64 n1, .int .i64 n2])]) w (.slice p26 l26 c26) w1 ∧
  ∃ (p27 : Option Addr) (l27 : Nat) (c27 : Nat) (w2 : World), Ef Try.prog (Builtin.append_ #[29, 29] 29 #[.slice p22 l22 c22, .slice p26 l26 c26]) w1 (.slice p27 l27 c27) w2 ∧
  ∃ (a28 : Addr), p0 = some a28 ∧
  ∃ (w3 : World), Sto Try.prog 29 (.pointer (some (a28.add 0))) (.slice p27 l27 c27) w2 w3 ∧
  Q (.int .i64 0) w3
def ref27_Meter_Add (p0 : Option Addr) (n1 : Int) (n2 : Int) (w : World) (Q : Value → World → Prop) : Prop :=
  callF Try.prog 37 #[.int .i64 n1] w fun r8 w1 =>
  ∃ (n8 : Int), r8 = .int .i64 n8 ∧
  cond (decide (n8 < 0))
  (Q (.int .i64 11) w1)
  (cond (decide (n2 < 0))
    (Q (.int .i64 11) w1)
    (cond (decide (n2 > 65535))
      (Q (.int .i64 11) w1)
      (ref27_Meter_Add_j1 p0 n1 n2 0 w1 Q)))
def ref27_Meter_Add_tt : Nat → List (Nat × TypeId) := fun _ => []
theorem ref27_Meter_Add_call (p0 : Option Addr) (n1 : Int) (n2 : Int) (w : World) (Q : Value → World → Prop) (h : ref27_Meter_Add p0 n1 n2 w Q) : callF Try.prog 32 #[.pointer p0, .int .i64 n1, .int .i64 n2] w Q :=
  callF_of (fun _ _ => by kernel_rfl) (callK_of_sw ref27_Meter_Add_tt Try.func32 rfl (by kernel_rfl) (show sw Try.prog none 30 ref27_Meter_Add_tt _ 0 (endK Try.prog [.tmp 6] Q) ⟨regs [.pointer p0, .int .i64 n1, .int .i64 n2], []⟩ w from
    Eq.mp (by kernel_rfl : ref27_Meter_Add p0 n1 n2 w Q = sw Try.prog none 30 ref27_Meter_Add_tt (Try.f32.body.getD .skip) 0 (endK Try.prog [.tmp 6] Q) ⟨regs [.pointer p0, .int .i64 n1, .int .i64 n2], []⟩ w) h))

def ref27_Class_j1 (n0 : Int) (n2 : Int) (w : World) (Q : Value → World → Prop) : Prop :=
  cond (decide (n0 < 3))
  (Q (.int .i64 0) w)
  (cond (decide (n0 < 5))
    (Q (.int .i64 1) w)
    (Q (.int .i64 2) w))
def ref27_Class (n0 : Int) (w : World) (Q : Value → World → Prop) : Prop :=
  cond (decide (n0 < 0))
  (Q (.int .i64 (-1)) w)
  (cond (decide (n0 > 15))
    (Q (.int .i64 (-1)) w)
    (ref27_Class_j1 n0 0 w Q))
def ref27_Class_tt : Nat → List (Nat × TypeId) := fun _ => []
theorem ref27_Class_call (n0 : Int) (w : World) (Q : Value → World → Prop) (h : ref27_Class n0 w Q) : callF Try.prog 37 #[.int .i64 n0] w Q :=
  callF_of (fun _ _ => by kernel_rfl) (callK_of_sw ref27_Class_tt Try.func37 rfl (by kernel_rfl) (show sw Try.prog none 13 ref27_Class_tt _ 0 (endK Try.prog [.tmp 2] Q) ⟨regs [.int .i64 n0], []⟩ w from
    Eq.mp (by kernel_rfl : ref27_Class n0 w Q = sw Try.prog none 13 ref27_Class_tt (Try.f37.body.getD .skip) 0 (endK Try.prog [.tmp 2] Q) ⟨regs [.int .i64 n0], []⟩ w) h))

def ref27_Word_j1 (n0 : Int) (s2 : ByteArray) (p3 : Option Addr) (l3 : Nat) (c3 : Nat) (w : World) (Q : Value → World → Prop) : Prop :=
  ∃ (a13 : Addr), IxA Try.prog 134 (.slice p3 l3 c3) (.int .i64 n0) a13 ∧
  ∃ (s14 : ByteArray), Ld Try.prog 9 (.pointer (some a13)) w (.string s14) ∧
  Q (.string s14) w
def ref27_Word (n0 : Int) (w : World) (Q : Value → World → Prop) : Prop :=
  ∃ (p4 : Option Addr) (l4 : Nat) (c4 : Nat) (w1 : World), Ef Try.prog (Instr.buildSlice 134 16 #[(0, .string (⟨#[105, 100]⟩ : ByteArray)), (1, .string (⟨#[116, 97, 98, 108, 101]⟩ : ByteArray)), (2, .string (⟨#[110, 101, 119]⟩ : ByteArray)), (3, .string (⟨#[114, 101, 116, 114, 121]⟩ : ByteArray)), (4, .string (⟨#[111, 102, 102, 101, 114]⟩ : ByteArray)), (5, .string (⟨#[101, 109, 112, 116, 121]⟩ : ByteArray)), (6, .string (⟨#[115, 104, 111, 114, 116]⟩ : ByteArray)), (7, .string (⟨#[122, 101, 114, 111]⟩ : ByteArray)), (8, .string (⟨#[115, 109, 97, 108, 108]⟩ : ByteArray)), (9, .string (⟨#[107, 105, 110, 100]⟩ : ByteArray)), (10, .string (⟨#[102, 111, 114, 109]⟩ : ByteArray)), (11, .string (⟨#[116, 111, 107, 101, 110]⟩ : ByteArray)), (12, .string (⟨#[107, 101, 121]⟩ : ByteArray)), (13, .string (⟨#[100, 114, 97, 119]⟩ : ByteArray)), (14, .string (⟨#[110, 111, 110, 101]⟩ : ByteArray)), (15, .string (⟨#[108, 111, 110, 103]⟩ : ByteArray))]) w (.slice p4 l4 c4) w1 ∧
  cond (decide (n0 < 0))
  (Q (.string (⟨#[]⟩ : ByteArray)) w1)
  (cond (decide (n0 > 15))
    (Q (.string (⟨#[]⟩ : ByteArray)) w1)
    (ref27_Word_j1 n0 (⟨#[]⟩ : ByteArray) p4 l4 c4 w1 Q))
def ref27_Word_tt : Nat → List (Nat × TypeId) := fun _ => []
theorem ref27_Word_call (n0 : Int) (w : World) (Q : Value → World → Prop) (h : ref27_Word n0 w Q) : callF Try.prog 39 #[.int .i64 n0] w Q :=
  callF_of (fun _ _ => by kernel_rfl) (callK_of_sw ref27_Word_tt Try.func39 rfl (by kernel_rfl) (show sw Try.prog none 15 ref27_Word_tt _ 0 (endK Try.prog [.tmp 2] Q) ⟨regs [.int .i64 n0], []⟩ w from
    Eq.mp (by kernel_rfl : ref27_Word n0 w Q = sw Try.prog none 15 ref27_Word_tt (Try.f39.body.getD .skip) 0 (endK Try.prog [.tmp 2] Q) ⟨regs [.int .i64 n0], []⟩ w) h))

def ref27_Meter_Of (p0 : Option Addr) (n1 : Int) (w : World) (Q : Value → World → Prop) : Prop :=
  LoopS [.pointer p0, .int .i64 n1, .int .i64 0, .int .i64 0, .int .i64 0] w fun I1 μ1 us1 _ wl1 =>
  ∃ (p0_1 : Option Addr) (n1_1 : Int) (n4 : Int) (n5 : Int) (n6 : Int), us1 = [.pointer p0_1, .int .i64 n1_1, .int .i64 n4, .int .i64 n5, .int .i64 n6] ∧
  ∃ (a9 : Addr), p0_1 = some a9 ∧
  ∃ (p11 : Option Addr) (l11 : Nat) (c11 : Nat), Ld Try.prog 29 (.pointer (some (a9.add 0))) wl1 (.slice p11 l11 c11) ∧
  cond (decide (n6 < ((l11 : Nat) : Int)))
  (∃ (a17 : Addr), p0_1 = some a17 ∧
    ∃ (p19 : Option Addr) (l19 : Nat) (c19 : Nat), Ld Try.prog 29 (.pointer (some (a17.add 0))) wl1 (.slice p19 l19 c19) ∧
    ∃ (a21 : Addr), IxA Try.prog 29 (.slice p19 l19 c19) (.int .i64 n6) a21 ∧
    ∃ (n23 : Int), Ld Try.prog 3 (.pointer (some (a21.add 0))) wl1 (.int .i64 n23) ∧
    cond (n23 == n1_1)
    (goesOn [] [] I1 μ1 us1 [.pointer p0_1, .int .i64 n1_1, .int .i64 n4, .int .i64 (IntKind.i64.wrap (n5 + 1)), .int .i64 (IntKind.i64.wrap (n6 + 1))] wl1 wl1)
    (goesOn [] [] I1 μ1 us1 [.pointer p0_1, .int .i64 n1_1, .int .i64 n4, .int .i64 n5, .int .i64 (IntKind.i64.wrap (n6 + 1))] wl1 wl1))
  (Q (.int .i64 n5) wl1)
def ref27_Meter_Of_tt : Nat → List (Nat × TypeId) := fun n => match n with | 0 => [(0, 28), (1, 3), (4, 3), (5, 3), (6, 3)] | _ => []
theorem ref27_Meter_Of_call (p0 : Option Addr) (n1 : Int) (w : World) (Q : Value → World → Prop) (h : ref27_Meter_Of p0 n1 w Q) : callF Try.prog 104 #[.pointer p0, .int .i64 n1] w Q :=
  callF_of (fun _ _ => by kernel_rfl) (callK_of_sw ref27_Meter_Of_tt Try.func104 rfl (by kernel_rfl) (show sw Try.prog none 29 ref27_Meter_Of_tt _ 0 (endK Try.prog [.tmp 4] Q) ⟨regs [.pointer p0, .int .i64 n1], []⟩ w from
    Eq.mp (by kernel_rfl : ref27_Meter_Of p0 n1 w Q = sw Try.prog none 29 ref27_Meter_Of_tt (Try.f104.body.getD .skip) 0 (endK Try.prog [.tmp 4] Q) ⟨regs [.pointer p0, .int .i64 n1], []⟩ w) h))

def ref27_Meter_Total (p0 : Option Addr) (n1 : Int) (w : World) (Q : Value → World → Prop) : Prop :=
  LoopS [.pointer p0, .int .i64 n1, .int .i64 0, .int .i64 0, .int .i64 0, .int .i64 0, .int .i64 0] w fun I1 μ1 us1 _ wl1 =>
  ∃ (p0_1 : Option Addr) (n1_1 : Int) (n4 : Int) (n5 : Int) (n6 : Int) (n7 : Int) (n8 : Int), us1 = [.pointer p0_1, .int .i64 n1_1, .int .i64 n4, .int .i64 n5, .int .i64 n6, .int .i64 n7, .int .i64 n8] ∧
  ∃ (a11 : Addr), p0_1 = some a11 ∧
  ∃ (p13 : Option Addr) (l13 : Nat) (c13 : Nat), Ld Try.prog 29 (.pointer (some (a11.add 0))) wl1 (.slice p13 l13 c13) ∧
  cond (decide (n8 < ((l13 : Nat) : Int)))
  (∃ (a19 : Addr), p0_1 = some a19 ∧
    ∃ (p21 : Option Addr) (l21 : Nat) (c21 : Nat), Ld Try.prog 29 (.pointer (some (a19.add 0))) wl1 (.slice p21 l21 c21) ∧
    ∃ (a23 : Addr), IxA Try.prog 29 (.slice p21 l21 c21) (.int .i64 n8) a23 ∧
    ∃ (n25 : Int), Ld Try.prog 3 (.pointer (some (a23.add 0))) wl1 (.int .i64 n25) ∧
    callF Try.prog 37 #[.int .i64 n25] wl1 fun r26 w1 =>
    ∃ (n26 : Int), r26 = .int .i64 n26 ∧
    cond (n26 == n1_1)
    (∃ (a33 : Addr), p0_1 = some a33 ∧
      ∃ (p35 : Option Addr) (l35 : Nat) (c35 : Nat), Ld Try.prog 29 (.pointer (some (a33.add 0))) w1 (.slice p35 l35 c35) ∧
      ∃ (a37 : Addr), IxA Try.prog 29 (.slice p35 l35 c35) (.int .i64 n8) a37 ∧
      ∃ (n39 : Int), Ld Try.prog 3 (.pointer (some (a37.add 1))) w1 (.int .i64 n39) ∧
      goesOn [] [] I1 μ1 us1 [.pointer p0_1, .int .i64 n1_1, .int .i64 n4, .int .i64 n5, .int .i64 (IntKind.i64.wrap (n6 + 1)), .int .i64 (IntKind.i64.wrap (n7 + n39)), .int .i64 (IntKind.i64.wrap (n8 + 1))] wl1 w1)
    (goesOn [] [] I1 μ1 us1 [.pointer p0_1, .int .i64 n1_1, .int .i64 n4, .int .i64 n5, .int .i64 n6, .int .i64 n7, .int .i64 (IntKind.i64.wrap (n8 + 1))] wl1 w1))
  (Q (.tuple #[.int .i64 n6, .int .i64 n7]) wl1)
def ref27_Meter_Total_tt : Nat → List (Nat × TypeId) := fun n => match n with | 0 => [(0, 28), (1, 3), (4, 3), (5, 3), (6, 3), (7, 3), (8, 3)] | _ => []
theorem ref27_Meter_Total_call (p0 : Option Addr) (n1 : Int) (w : World) (Q : Value → World → Prop) (h : ref27_Meter_Total p0 n1 w Q) : callF Try.prog 105 #[.pointer p0, .int .i64 n1] w Q :=
  callF_of (fun _ _ => by kernel_rfl) (callK_of_sw ref27_Meter_Total_tt Try.func105 rfl (by kernel_rfl) (show sw Try.prog none 43 ref27_Meter_Total_tt _ 0 (endK Try.prog [.tmp 4, .tmp 5] Q) ⟨regs [.pointer p0, .int .i64 n1], []⟩ w from
    Eq.mp (by kernel_rfl : ref27_Meter_Total p0 n1 w Q = sw Try.prog none 43 ref27_Meter_Total_tt (Try.f105.body.getD .skip) 0 (endK Try.prog [.tmp 4, .tmp 5] Q) ⟨regs [.pointer p0, .int .i64 n1], []⟩ w) h))
end Go.Sh
end

section
namespace Go.Sh
open Go Go.Fw Go.Proofs
set_option maxRecDepth 100000
set_option linter.unusedVariables false

def law27_MeterCounts_j1 (a3 : Addr) (b4 : Bool) (p5 : Option Addr) (a6 : Addr) (p8 : Option Addr) (w : World) (Q : Value → World → Prop) : Prop :=
  ∃ (n62 : Int), Ld Try.prog 3 (.pointer (some (a3.add 0))) w (.int .i64 n62) ∧
  ∃ (n64 : Int), Ld Try.prog 3 (.pointer (some (a3.add 1))) w (.int .i64 n64) ∧
  callF Try.prog 31 #[.pointer p8, .int .i64 n62, .int .i64 n64] w fun r65 w1 =>
  ∃ (n65 : Int), r65 = .int .i64 n65 ∧
  callF Try.prog 34 #[.pointer p5, .pointer (some a6)] w1 fun r68 w2 =>
  ∃ (b68 : Bool), r68 = .bool b68 ∧
  cond b68
  (callF Try.prog 35 #[.pointer p5, .int .i64 16] w2 fun r71 w3 =>
    ∃ (n71 : Int), r71 = .int .i64 n71 ∧
    cond (n71 == 0)
    (callF Try.prog 35 #[.pointer p5, .int .i64 (-1)] w3 fun r76 w4 =>
      ∃ (n76 : Int), r76 = .int .i64 n76 ∧
      Q (.bool (n76 == 0)) w4)
    (Q (.bool false) w3))
  (Q (.bool false) w2)
def law27_MeterCounts_j2 (a3 : Addr) (b4 : Bool) (p5 : Option Addr) (a6 : Addr) (w : World) (Q : Value → World → Prop) : Prop :=
  callF Try.prog 33 #[.pointer p5] w fun r51 w1 =>
  ∃ (p51 : Option Addr), r51 = .pointer p51 ∧
  ∃ (b53 : Bool) (w2 : World), Ef Try.prog (do eqGuard .eql 26 (.tmp 52) (.const (.pointer none)) (.pointer p51) (.pointer none); binOp .eql 26 (.pointer p51) (.pointer none) : Sem Value) w1 (.bool b53) w2 ∧
  cond b53
  (Q (.bool false) w2)
  (callF Try.prog 34 #[.pointer p51, .pointer (some a6)] w2 fun r57 w3 =>
    ∃ (b57 : Bool), r57 = .bool b57 ∧
    cond (!b57)
    (Q (.bool false) w3)
    (law27_MeterCounts_j1 a3 b4 p5 a6 p51 w3 Q))
def law27_MeterCounts (p0 : Option Addr) (l0 : Nat) (c0 : Nat) (n1 : Int) (n1_1 : Int) (w : World) (Q : Value → World → Prop) : Prop :=
  New #[.int .i64 n1, .int .i64 n1_1] 24 w fun k3 w1 =>
  callF Try.prog 29 #[] w1 fun r9 w2 =>
  ∃ (b9 : Bool), r9 = .bool b9 ∧
  cond (!b9)
  (Q (.bool false) w2)
  (cond (decide (((l0 : Nat) : Int) > 100))
    (Q (.bool true) w2)
    (callF Try.prog 30 #[] w2 fun r14 w3 =>
      ∃ (p14 : Option Addr), r14 = .pointer p14 ∧
      New #[.slice none 0 0] 31 w3 fun k16 w4 =>
      ∃ (b18 : Bool) (w5 : World), Ef Try.prog (do eqGuard .eql 26 (.tmp 17) (.const (.pointer none)) (.pointer p14) (.pointer none); binOp .eql 26 (.pointer p14) (.pointer none) : Sem Value) w4 (.bool b18) w5 ∧
      cond b18
      (Q (.bool false) w5)
      (LoopS [.slice p0 l0 c0, .pointer (some (⟨k3, 0, none⟩ : Addr)), .bool false, .pointer p14, .pointer (some (⟨k16, 0, none⟩ : Addr)), .int .i64 0] w5 fun I1 μ1 us1 _ wl1 =>
        ∃ (p0_1 : Option Addr) (l0_1 : Nat) (c0_1 : Nat) (a3 : Addr) (b4 : Bool) (p5 : Option Addr) (a6 : Addr) (n7 : Int), us1 = [.slice p0_1 l0_1 c0_1, .pointer (some a3), .bool b4, .pointer p5, .pointer (some a6), .int .i64 n7] ∧
        cond (decide (n7 < ((l0_1 : Nat) : Int)))
        (∃ (S12 : World → Prop),
          Drw wl1 fun w6 =>
          ∃ (a28 : Addr), IxA Try.prog 22 (.slice p0_1 l0_1 c0_1) (.int .i64 n7) a28 ∧
          ∃ (a33 : Addr), IxA Try.prog 22 (.slice p0_1 l0_1 c0_1) (.int .i64 n7) a33 ∧
          ∃ (a40 : Addr), IxA Try.prog 22 (.slice p0_1 l0_1 c0_1) (.int .i64 n7) a40 ∧
          ∃ (a45 : Addr), IxA Try.prog 22 (.slice p0_1 l0_1 c0_1) (.int .i64 n7) a45 ∧
          ∃ (n30 : Int), HLd Try.prog S12 3 (.pointer (some (a28.add 0))) w6 (.int .i64 n30) ∧
          ∃ (n35 : Int), HLd Try.prog S12 3 (.pointer (some (a33.add 1))) w6 (.int .i64 n35) ∧
          ∃ (n42 : Int), HLd Try.prog S12 3 (.pointer (some (a40.add 0))) w6 (.int .i64 n42) ∧
          ∃ (n47 : Int), HLd Try.prog S12 3 (.pointer (some (a45.add 1))) w6 (.int .i64 n47) ∧
          callF Try.prog 31 #[.pointer p5, .int .i64 n30, .int .i64 n35] w6 fun r36 w7 =>
          ∃ (n36 : Int), r36 = .int .i64 n36 ∧
          (w7 = w6 ∨ S12 w7) ∧
          callF Try.prog 32 #[.pointer (some a6), .int .i64 n42, .int .i64 n47] w7 fun r48 w8 =>
          ∃ (n48 : Int), r48 = .int .i64 n48 ∧
          cond (n36 != n48)
          (Q (.bool false) w8)
          (goesOn [] [] I1 μ1 us1 [.slice p0_1 l0_1 c0_1, .pointer (some a3), .bool b4, .pointer p5, .pointer (some a6), .int .i64 (IntKind.i64.wrap (n7 + 1))] wl1 w8))
        (law27_MeterCounts_j2 a3 b4 p5 a6 wl1 Q))))
def law27_MeterCounts_tt : Nat → List (Nat × TypeId) := fun n => match n with | 0 => [(0, 22), (3, 1000000), (4, 4), (5, 26), (6, 1000000), (7, 3)] | _ => []
theorem law27_MeterCounts_call (p0 : Option Addr) (l0 : Nat) (c0 : Nat) (n1 : Int) (n1_1 : Int) (w : World) (Q : Value → World → Prop) (h : law27_MeterCounts p0 l0 c0 n1 n1_1 w Q) : callF Try.prog 3 #[.slice p0 l0 c0, .agg #[.int .i64 n1, .int .i64 n1_1]] w Q :=
  callF_of (fun _ _ => by kernel_rfl) (callK_of_sw law27_MeterCounts_tt Try.func3 rfl (by kernel_rfl) (show sw Try.prog none 79 law27_MeterCounts_tt _ 0 (endK Try.prog [.tmp 4] Q) ⟨regs [.slice p0 l0 c0, .agg #[.int .i64 n1, .int .i64 n1_1]], []⟩ w from
    Eq.mp (by kernel_rfl : law27_MeterCounts p0 l0 c0 n1 n1_1 w Q = sw Try.prog none 79 law27_MeterCounts_tt (Try.f3.body.getD .skip) 0 (endK Try.prog [.tmp 4] Q) ⟨regs [.slice p0 l0 c0, .agg #[.int .i64 n1, .int .i64 n1_1]], []⟩ w) h))

def law27_MeterWords_j1 (n0 : Int) (n1 : Int) (b4 : Bool) (b6 : Bool) (w : World) (Q : Value → World → Prop) : Prop :=
  callF Try.prog 36 #[.int .i64 n1] w fun r48 w1 =>
  ∃ (n48 : Int) (b48 : Bool), r48 = .tuple #[.int .i64 n48, .bool b48] ∧
  cond (!b6)
  (Q (.bool true) w1)
  (cond (!b48)
    (Q (.bool true) w1)
    (callF Try.prog 38 #[.int .i64 n0] w1 fun r59 w2 =>
      ∃ (s59 : ByteArray), r59 = .string s59 ∧
      callF Try.prog 38 #[.int .i64 n1] w2 fun r61 w3 =>
      ∃ (s61 : ByteArray), r61 = .string s61 ∧
      ∃ (b62 : Bool) (w4 : World), Ef Try.prog (do eqGuard .eql 9 (.tmp 59) (.tmp 61) (.string s59) (.string s61); binOp .eql 9 (.string s59) (.string s61) : Sem Value) w3 (.bool b62) w4 ∧
      Q (.bool (b62 == (n0 == n1))) w4))
def law27_MeterWords (n0 : Int) (n1 : Int) (w : World) (Q : Value → World → Prop) : Prop :=
  callF Try.prog 29 #[] w fun r10 w1 =>
  ∃ (b10 : Bool), r10 = .bool b10 ∧
  cond (!b10)
  (Q (.bool false) w1)
  (callF Try.prog 36 #[.int .i64 n0] w1 fun r14 w2 =>
    ∃ (n14 : Int) (b14 : Bool), r14 = .tuple #[.int .i64 n14, .bool b14] ∧
    callF Try.prog 37 #[.int .i64 n0] w2 fun r18 w3 =>
    ∃ (n18 : Int), r18 = .int .i64 n18 ∧
    cond (!(b14 == (decide (n18 ≥ 0))))
    (Q (.bool false) w3)
    (cond b14
      (cond (n14 != n18)
        (Q (.bool false) w3)
        (cond (!b14)
          (cond (n14 != 0)
            (Q (.bool false) w3)
            (callF Try.prog 38 #[.int .i64 n0] w3 fun r41 w4 =>
              ∃ (s41 : ByteArray), r41 = .string s41 ∧
              callF Try.prog 39 #[.int .i64 n0] w4 fun r43 w5 =>
              ∃ (s43 : ByteArray), r43 = .string s43 ∧
              ∃ (b44 : Bool) (w6 : World), Ef Try.prog (do eqGuard .neq 9 (.tmp 41) (.tmp 43) (.string s41) (.string s43); binOp .neq 9 (.string s41) (.string s43) : Sem Value) w5 (.bool b44) w6 ∧
              cond b44
              (Q (.bool false) w6)
              (law27_MeterWords_j1 n0 n1 false b14 w6 Q)))
          (callF Try.prog 38 #[.int .i64 n0] w3 fun r41_1 w7 =>
            ∃ (s41_1 : ByteArray), r41_1 = .string s41_1 ∧
            callF Try.prog 39 #[.int .i64 n0] w7 fun r43_1 w8 =>
            ∃ (s43_1 : ByteArray), r43_1 = .string s43_1 ∧
            ∃ (b44_1 : Bool) (w9 : World), Ef Try.prog (do eqGuard .neq 9 (.tmp 41) (.tmp 43) (.string s41_1) (.string s43_1); binOp .neq 9 (.string s41_1) (.string s43_1) : Sem Value) w8 (.bool b44_1) w9 ∧
            cond b44_1
            (Q (.bool false) w9)
            (law27_MeterWords_j1 n0 n1 false b14 w9 Q))))
      (cond (!b14)
        (cond (n14 != 0)
          (Q (.bool false) w3)
          (callF Try.prog 38 #[.int .i64 n0] w3 fun r41_2 w10 =>
            ∃ (s41_2 : ByteArray), r41_2 = .string s41_2 ∧
            callF Try.prog 39 #[.int .i64 n0] w10 fun r43_2 w11 =>
            ∃ (s43_2 : ByteArray), r43_2 = .string s43_2 ∧
            ∃ (b44_2 : Bool) (w12 : World), Ef Try.prog (do eqGuard .neq 9 (.tmp 41) (.tmp 43) (.string s41_2) (.string s43_2); binOp .neq 9 (.string s41_2) (.string s43_2) : Sem Value) w11 (.bool b44_2) w12 ∧
            cond b44_2
            (Q (.bool false) w12)
            (law27_MeterWords_j1 n0 n1 false b14 w12 Q)))
        (callF Try.prog 38 #[.int .i64 n0] w3 fun r41_3 w13 =>
          ∃ (s41_3 : ByteArray), r41_3 = .string s41_3 ∧
          callF Try.prog 39 #[.int .i64 n0] w13 fun r43_3 w14 =>
          ∃ (s43_3 : ByteArray), r43_3 = .string s43_3 ∧
          ∃ (b44_3 : Bool) (w15 : World), Ef Try.prog (do eqGuard .neq 9 (.tmp 41) (.tmp 43) (.string s41_3) (.string s43_3); binOp .neq 9 (.string s41_3) (.string s43_3) : Sem Value) w14 (.bool b44_3) w15 ∧
          cond b44_3
          (Q (.bool false) w15)
          (law27_MeterWords_j1 n0 n1 false b14 w15 Q)))))
def law27_MeterWords_tt : Nat → List (Nat × TypeId) := fun _ => []
theorem law27_MeterWords_call (n0 : Int) (n1 : Int) (w : World) (Q : Value → World → Prop) (h : law27_MeterWords n0 n1 w Q) : callF Try.prog 4 #[.int .i64 n0, .int .i64 n1] w Q :=
  callF_of (fun _ _ => by kernel_rfl) (callK_of_sw law27_MeterWords_tt Try.func4 rfl (by kernel_rfl) (show sw Try.prog none 68 law27_MeterWords_tt _ 0 (endK Try.prog [.tmp 4] Q) ⟨regs [.int .i64 n0, .int .i64 n1], []⟩ w from
    Eq.mp (by kernel_rfl : law27_MeterWords n0 n1 w Q = sw Try.prog none 68 law27_MeterWords_tt (Try.f4.body.getD .skip) 0 (endK Try.prog [.tmp 4] Q) ⟨regs [.int .i64 n0, .int .i64 n1], []⟩ w) h))

def law27_MeterTotals_j1 (I1 : Inv) (μ1 : Meas) (us1 : List Value) (wl1 : World) (p0 : Option Addr) (l0 : Nat) (c0 : Nat) (b2 : Bool) (p3 : Option Addr) (p4 : Option Addr) (a5 : Addr) (a6 : Addr) (n7 : Int) (n9 : Int) (b107 : Bool) (w : World) (Q : Value → World → Prop) : Prop :=
  cond b107
  (∃ (a109 : Addr), IxA Try.prog 41 (.pointer (some a5)) (.int .i64 n9) a109 ∧
    ∃ (n110 : Int), Ld Try.prog 3 (.pointer (some a109)) w (.int .i64 n110) ∧
    ∃ (a112 : Addr), IxA Try.prog 41 (.pointer (some a5)) (.int .i64 n9) a112 ∧
    ∃ (w1 : World), Sto Try.prog 3 (.pointer (some a112)) (.int .i64 (IntKind.i64.wrap (n110 + 1))) w w1 ∧
    ∃ (S21 : World → Prop),
    Drw w1 fun w2 =>
    ∃ (a114 : Addr), IxA Try.prog 41 (.pointer (some a6)) (.int .i64 n9) a114 ∧
    ∃ (a118 : Addr), IxA Try.prog 22 (.slice p0 l0 c0) (.int .i64 n7) a118 ∧
    ∃ (n115 : Int), HLd Try.prog S21 3 (.pointer (some a114)) w2 (.int .i64 n115) ∧
    ∃ (n120 : Int), Ld Try.prog 3 (.pointer (some (a118.add 1))) w2 (.int .i64 n120) ∧
    (w2 = w2 ∨ S21 w2) ∧
    ∃ (a122 : Addr), IxA Try.prog 41 (.pointer (some a6)) (.int .i64 n9) a122 ∧
    ∃ (w3 : World), Sto Try.prog 3 (.pointer (some a122)) (.int .i64 (IntKind.i64.wrap (n115 + n120))) w2 w3 ∧
    goesOn [] [] I1 μ1 us1 [.slice p0 l0 c0, .bool b2, .pointer p3, .pointer p4, .pointer (some a5), .pointer (some a6), .int .i64 (IntKind.i64.wrap (n7 + 1))] wl1 w3)
  (goesOn [] [] I1 μ1 us1 [.slice p0 l0 c0, .bool b2, .pointer p3, .pointer p4, .pointer (some a5), .pointer (some a6), .int .i64 (IntKind.i64.wrap (n7 + 1))] wl1 w)
def law27_MeterTotals_j2 (I1 : Inv) (μ1 : Meas) (us1 : List Value) (wl1 : World) (p0 : Option Addr) (l0 : Nat) (c0 : Nat) (b2 : Bool) (p3 : Option Addr) (p4 : Option Addr) (a5 : Addr) (a6 : Addr) (n7 : Int) (n8 : Int) (n9 : Int) (w : World) (Q : Value → World → Prop) : Prop :=
  cond (n8 == 0)
  (cond (decide (n9 ≥ 0))
    (law27_MeterTotals_j1 I1 μ1 us1 wl1 p0 l0 c0 b2 p3 p4 a5 a6 n7 n9 (decide (n9 ≤ 2)) w Q)
    (law27_MeterTotals_j1 I1 μ1 us1 wl1 p0 l0 c0 b2 p3 p4 a5 a6 n7 n9 false w Q))
  (law27_MeterTotals_j1 I1 μ1 us1 wl1 p0 l0 c0 b2 p3 p4 a5 a6 n7 n9 false w Q)
def law27_MeterTotals_j3 (b2 : Bool) (p3 : Option Addr) (p4 : Option Addr) (a5 : Addr) (a6 : Addr) (w : World) (Q : Value → World → Prop) : Prop :=
  LoopS [.bool b2, .pointer p3, .pointer p4, .pointer (some a5), .pointer (some a6), .int .i64 0] w fun I2 μ2 us2 _ wl2 =>
  ∃ (b2_1 : Bool) (p3_1 : Option Addr) (p4_1 : Option Addr) (a5_1 : Addr) (a6_1 : Addr) (n11 : Int), us2 = [.bool b2_1, .pointer p3_1, .pointer p4_1, .pointer (some a5_1), .pointer (some a6_1), .int .i64 n11] ∧
  cond (decide (n11 < 3))
  (callF Try.prog 40 #[.pointer p3_1, .int .i64 n11] wl2 fun r130 w1 =>
    ∃ (n130 : Int) (n130_1 : Int), r130 = .tuple #[.int .i64 n130, .int .i64 n130_1] ∧
    callF Try.prog 40 #[.pointer p4_1, .int .i64 n11] w1 fun r136 w2 =>
    ∃ (n136 : Int) (n136_1 : Int), r136 = .tuple #[.int .i64 n136, .int .i64 n136_1] ∧
    ∃ (a141 : Addr), IxA Try.prog 41 (.pointer (some a5_1)) (.int .i64 n11) a141 ∧
    ∃ (n142 : Int), Ld Try.prog 3 (.pointer (some a141)) w2 (.int .i64 n142) ∧
    cond (n130 != n142)
    (Q (.bool false) w2)
    (∃ (a147 : Addr), IxA Try.prog 41 (.pointer (some a6_1)) (.int .i64 n11) a147 ∧
      ∃ (n148 : Int), Ld Try.prog 3 (.pointer (some a147)) w2 (.int .i64 n148) ∧
      cond (n130_1 != n148)
      (Q (.bool false) w2)
      (cond (n136 != n130)
        (Q (.bool false) w2)
        (cond (n136_1 != n130_1)
          (Q (.bool false) w2)
          (goesOn [] [] I2 μ2 us2 [.bool b2_1, .pointer p3_1, .pointer p4_1, .pointer (some a5_1), .pointer (some a6_1), .int .i64 (IntKind.i64.wrap (n11 + 1))] wl2 w2)))))
  (Q (.bool true) wl2)
def law27_MeterTotals_j4 (p0 : Option Addr) (l0 : Nat) (c0 : Nat) (b2 : Bool) (p3 : Option Addr) (p4 : Option Addr) (w : World) (Q : Value → World → Prop) : Prop :=
  ∃ (z5 : Value), Pu Try.prog (zeroValue 41) z5 ∧
  New z5.cells 41 w fun k5 w1 =>
  ∃ (w2 : World), Sto Try.prog 41 (.pointer (some (⟨k5, 0, none⟩ : Addr))) (.agg #[.int .i64 0, .int .i64 0, .int .i64 0]) w1 w2 ∧
  ∃ (z6 : Value), Pu Try.prog (zeroValue 41) z6 ∧
  New z6.cells 41 w2 fun k6 w3 =>
  ∃ (w4 : World), Sto Try.prog 41 (.pointer (some (⟨k6, 0, none⟩ : Addr))) (.agg #[.int .i64 0, .int .i64 0, .int .i64 0]) w3 w4 ∧
  LoopS [.slice p0 l0 c0, .bool b2, .pointer p3, .pointer p4, .pointer (some (⟨k5, 0, none⟩ : Addr)), .pointer (some (⟨k6, 0, none⟩ : Addr)), .int .i64 0] w4 fun I1 μ1 us1 _ wl1 =>
  ∃ (p0_1 : Option Addr) (l0_1 : Nat) (c0_1 : Nat) (b2_1 : Bool) (p3_1 : Option Addr) (p4_1 : Option Addr) (a5 : Addr) (a6 : Addr) (n7 : Int), us1 = [.slice p0_1 l0_1 c0_1, .bool b2_1, .pointer p3_1, .pointer p4_1, .pointer (some a5), .pointer (some a6), .int .i64 n7] ∧
  cond (decide (n7 < ((l0_1 : Nat) : Int)))
  (∃ (S14 : World → Prop),
    Drw wl1 fun w5 =>
    ∃ (a40 : Addr), IxA Try.prog 22 (.slice p0_1 l0_1 c0_1) (.int .i64 n7) a40 ∧
    ∃ (a45 : Addr), IxA Try.prog 22 (.slice p0_1 l0_1 c0_1) (.int .i64 n7) a45 ∧
    ∃ (n42 : Int), HLd Try.prog S14 3 (.pointer (some (a40.add 0))) w5 (.int .i64 n42) ∧
    ∃ (n47 : Int), Ld Try.prog 3 (.pointer (some (a45.add 1))) w5 (.int .i64 n47) ∧
    (w5 = w5 ∨ S14 w5) ∧
    callF Try.prog 31 #[.pointer p3_1, .int .i64 n42, .int .i64 n47] w5 fun r48 w6 =>
    ∃ (n48 : Int), r48 = .int .i64 n48 ∧
    ∃ (S15 : World → Prop),
    Drw w6 fun w7 =>
    ∃ (a56 : Addr), IxA Try.prog 22 (.slice p0_1 l0_1 c0_1) (.int .i64 (IntKind.i64.wrap ((IntKind.i64.wrap (((l0_1 : Nat) : Int) - 1)) - n7))) a56 ∧
    ∃ (a65 : Addr), IxA Try.prog 22 (.slice p0_1 l0_1 c0_1) (.int .i64 (IntKind.i64.wrap ((IntKind.i64.wrap (((l0_1 : Nat) : Int) - 1)) - n7))) a65 ∧
    ∃ (n58 : Int), HLd Try.prog S15 3 (.pointer (some (a56.add 0))) w7 (.int .i64 n58) ∧
    ∃ (n67 : Int), Ld Try.prog 3 (.pointer (some (a65.add 1))) w7 (.int .i64 n67) ∧
    (w7 = w7 ∨ S15 w7) ∧
    callF Try.prog 31 #[.pointer p4_1, .int .i64 n58, .int .i64 n67] w7 fun r68 w8 =>
    ∃ (n68 : Int), r68 = .int .i64 n68 ∧
    ∃ (a72 : Addr), IxA Try.prog 22 (.slice p0_1 l0_1 c0_1) (.int .i64 n7) a72 ∧
    ∃ (n74 : Int), Ld Try.prog 3 (.pointer (some (a72.add 0))) w8 (.int .i64 n74) ∧
    callF Try.prog 36 #[.int .i64 n74] w8 fun r75 w9 =>
    ∃ (n75 : Int) (b75 : Bool), r75 = .tuple #[.int .i64 n75, .bool b75] ∧
    cond b75
    (∃ (a84 : Addr), IxA Try.prog 22 (.slice p0_1 l0_1 c0_1) (.int .i64 n7) a84 ∧
      ∃ (n86 : Int), Ld Try.prog 3 (.pointer (some (a84.add 1))) w9 (.int .i64 n86) ∧
      cond (decide (n86 ≥ 0))
      (∃ (a92 : Addr), IxA Try.prog 22 (.slice p0_1 l0_1 c0_1) (.int .i64 n7) a92 ∧
        ∃ (n94 : Int), Ld Try.prog 3 (.pointer (some (a92.add 1))) w9 (.int .i64 n94) ∧
        cond (!((n48 == 0) == (decide (n94 ≤ 65535))))
        (Q (.bool false) w9)
        (law27_MeterTotals_j2 I1 μ1 us1 wl1 p0_1 l0_1 c0_1 b2_1 p3_1 p4_1 a5 a6 n7 n48 n75 w9 Q))
      (cond (!((n48 == 0) == false))
        (Q (.bool false) w9)
        (law27_MeterTotals_j2 I1 μ1 us1 wl1 p0_1 l0_1 c0_1 b2_1 p3_1 p4_1 a5 a6 n7 n48 n75 w9 Q)))
    (cond (!((n48 == 0) == false))
      (Q (.bool false) w9)
      (law27_MeterTotals_j2 I1 μ1 us1 wl1 p0_1 l0_1 c0_1 b2_1 p3_1 p4_1 a5 a6 n7 n48 n75 w9 Q)))
  (law27_MeterTotals_j3 b2_1 p3_1 p4_1 a5 a6 wl1 Q)
def law27_MeterTotals (p0 : Option Addr) (l0 : Nat) (c0 : Nat) (w : World) (Q : Value → World → Prop) : Prop :=
  callF Try.prog 29 #[] w fun r16 w1 =>
  ∃ (b16 : Bool), r16 = .bool b16 ∧
  cond (!b16)
  (Q (.bool false) w1)
  (cond (decide (((l0 : Nat) : Int) > 100))
    (Q (.bool true) w1)
    (callF Try.prog 30 #[] w1 fun r21 w2 =>
      ∃ (p21 : Option Addr), r21 = .pointer p21 ∧
      callF Try.prog 30 #[] w2 fun r22 w3 =>
      ∃ (p22 : Option Addr), r22 = .pointer p22 ∧
      ∃ (b24 : Bool) (w4 : World), Ef Try.prog (do eqGuard .eql 26 (.tmp 23) (.const (.pointer none)) (.pointer p21) (.pointer none); binOp .eql 26 (.pointer p21) (.pointer none) : Sem Value) w3 (.bool b24) w4 ∧
      cond b24
      (Q (.bool false) w4)
      (∃ (b27 : Bool) (w5 : World), Ef Try.prog (do eqGuard .eql 26 (.tmp 26) (.const (.pointer none)) (.pointer p22) (.pointer none); binOp .eql 26 (.pointer p22) (.pointer none) : Sem Value) w4 (.bool b27) w5 ∧
        cond b27
        (Q (.bool false) w5)
        (law27_MeterTotals_j4 p0 l0 c0 false p21 p22 w5 Q))))
def law27_MeterTotals_tt : Nat → List (Nat × TypeId) := fun n => match n with | 0 => [(0, 22), (2, 4), (3, 26), (4, 26), (5, 1000000), (6, 1000000), (7, 3)] | 2 => [(2, 4), (3, 26), (4, 26), (5, 1000000), (6, 1000000), (11, 3)] | _ => []
theorem law27_MeterTotals_call (p0 : Option Addr) (l0 : Nat) (c0 : Nat) (w : World) (Q : Value → World → Prop) (h : law27_MeterTotals p0 l0 c0 w Q) : callF Try.prog 5 #[.slice p0 l0 c0] w Q :=
  callF_of (fun _ _ => by kernel_rfl) (callK_of_sw law27_MeterTotals_tt Try.func5 rfl (by kernel_rfl) (show sw Try.prog none 161 law27_MeterTotals_tt _ 0 (endK Try.prog [.tmp 2] Q) ⟨regs [.slice p0 l0 c0], []⟩ w from
    Eq.mp (by kernel_rfl : law27_MeterTotals p0 l0 c0 w Q = sw Try.prog none 161 law27_MeterTotals_tt (Try.f5.body.getD .skip) 0 (endK Try.prog [.tmp 2] Q) ⟨regs [.slice p0 l0 c0], []⟩ w) h))

noncomputable def law27_alive_rf (i : Nat) : Array Tmp × Code × Code := (rfs (Try.f29.body.getD .skip)).getD i (#[], .skip, .skip)
def law27_alive_j1 (a0 : Addr) (p1 : Option Addr) (n2 : Int) (n3 : Int) (n4 : Int) (n5 : Int) (n6 : Int) (n7 : Int) (b8 : Bool) (b10 : Bool) (a11 : Addr) (km : Nat) (w : World) (Q : Value → World → Prop) : Prop :=
  callF Try.prog 33 #[.pointer p1] w fun r52 w1 =>
  ∃ (p52 : Option Addr), r52 = .pointer p52 ∧
  callF Try.prog 31 #[.pointer p1, .int .i64 0, .int .i64 1] w1 fun r54 w2 =>
  ∃ (n54 : Int), r54 = .int .i64 n54 ∧
  ∃ (b56 : Bool) (w3 : World), Ef Try.prog (do eqGuard .neq 26 (.tmp 55) (.const (.pointer none)) (.pointer p52) (.pointer none); binOp .neq 26 (.pointer p52) (.pointer none) : Sem Value) w2 (.bool b56) w3 ∧
  cond b56
  (cond (n2 == 0)
    (cond (n3 == 11)
      (cond (n4 == 11)
        (cond (n5 == 2)
          (cond (n6 == 42)
            (cond b8
              (cond (n7 == 1)
                (cond (!b10)
                  (∃ (n89 : Int), Ld Try.prog 3 (.pointer (some a11)) w3 (.int .i64 n89) ∧
                    cond (n89 == 1)
                    (callF Try.prog 38 #[.int .i64 15] w3 fun r93 w4 =>
                      ∃ (s93 : ByteArray), r93 = .string s93 ∧
                      ∃ (b94 : Bool) (w5 : World), Ef Try.prog (do eqGuard .eql 9 (.tmp 93) (.const (.string (⟨#[108, 111, 110, 103]⟩ : ByteArray))) (.string s93) (.string (⟨#[108, 111, 110, 103]⟩ : ByteArray)); binOp .eql 9 (.string s93) (.string (⟨#[108, 111, 110, 103]⟩ : ByteArray)) : Sem Value) w4 (.bool b94) w5 ∧
                      cond b94
                      (callF Try.prog 38 #[.int .i64 16] w5 fun r97 w6 =>
                        ∃ (s97 : ByteArray), r97 = .string s97 ∧
                        ∃ (b98 : Bool) (w7 : World), Ef Try.prog (do eqGuard .eql 9 (.tmp 97) (.const (.string (⟨#[]⟩ : ByteArray))) (.string s97) (.string (⟨#[]⟩ : ByteArray)); binOp .eql 9 (.string s97) (.string (⟨#[]⟩ : ByteArray)) : Sem Value) w6 (.bool b98) w7 ∧
                        cond b98
                        (callF Try.prog 35 #[.pointer p52, .int .i64 0] w7 fun r102 w8 =>
                          ∃ (n102 : Int), r102 = .int .i64 n102 ∧
                          cond (n102 == 0)
                          (callF Try.prog 35 #[.pointer p1, .int .i64 0] w8 fun r107 w9 =>
                            ∃ (n107 : Int), r107 = .int .i64 n107 ∧
                            ∃ (w10 : World), Sto Try.prog 4 (.pointer (some a0)) (.bool (n107 == 1)) w9 w10 ∧
                            ∃ (w11 : World), Tk Try.prog km w10 w11 ∧
                            ∃ (a0_1 : Addr) (v0 : Value), (.pointer (some a0) : Value) = .pointer (some a0_1) ∧ (loadVar 4 a0_1).run Try.prog w11 = .ok v0 w11 ∧
                            Q (v0) w11)
                          (∃ (w12 : World), Sto Try.prog 4 (.pointer (some a0)) (.bool false) w8 w12 ∧
                            ∃ (w13 : World), Tk Try.prog km w12 w13 ∧
                            ∃ (a0_2 : Addr) (v0_1 : Value), (.pointer (some a0) : Value) = .pointer (some a0_2) ∧ (loadVar 4 a0_2).run Try.prog w13 = .ok v0_1 w13 ∧
                            Q (v0_1) w13))
                        (∃ (w14 : World), Sto Try.prog 4 (.pointer (some a0)) (.bool false) w7 w14 ∧
                          ∃ (w15 : World), Tk Try.prog km w14 w15 ∧
                          ∃ (a0_3 : Addr) (v0_2 : Value), (.pointer (some a0) : Value) = .pointer (some a0_3) ∧ (loadVar 4 a0_3).run Try.prog w15 = .ok v0_2 w15 ∧
                          Q (v0_2) w15))
                      (∃ (w16 : World), Sto Try.prog 4 (.pointer (some a0)) (.bool false) w5 w16 ∧
                        ∃ (w17 : World), Tk Try.prog km w16 w17 ∧
                        ∃ (a0_4 : Addr) (v0_3 : Value), (.pointer (some a0) : Value) = .pointer (some a0_4) ∧ (loadVar 4 a0_4).run Try.prog w17 = .ok v0_3 w17 ∧
                        Q (v0_3) w17))
                    (∃ (w18 : World), Sto Try.prog 4 (.pointer (some a0)) (.bool false) w3 w18 ∧
                      ∃ (w19 : World), Tk Try.prog km w18 w19 ∧
                      ∃ (a0_5 : Addr) (v0_4 : Value), (.pointer (some a0) : Value) = .pointer (some a0_5) ∧ (loadVar 4 a0_5).run Try.prog w19 = .ok v0_4 w19 ∧
                      Q (v0_4) w19))
                  (∃ (w20 : World), Sto Try.prog 4 (.pointer (some a0)) (.bool false) w3 w20 ∧
                    ∃ (w21 : World), Tk Try.prog km w20 w21 ∧
                    ∃ (a0_6 : Addr) (v0_5 : Value), (.pointer (some a0) : Value) = .pointer (some a0_6) ∧ (loadVar 4 a0_6).run Try.prog w21 = .ok v0_5 w21 ∧
                    Q (v0_5) w21))
                (∃ (w22 : World), Sto Try.prog 4 (.pointer (some a0)) (.bool false) w3 w22 ∧
                  ∃ (w23 : World), Tk Try.prog km w22 w23 ∧
                  ∃ (a0_7 : Addr) (v0_6 : Value), (.pointer (some a0) : Value) = .pointer (some a0_7) ∧ (loadVar 4 a0_7).run Try.prog w23 = .ok v0_6 w23 ∧
                  Q (v0_6) w23))
              (∃ (w24 : World), Sto Try.prog 4 (.pointer (some a0)) (.bool false) w3 w24 ∧
                ∃ (w25 : World), Tk Try.prog km w24 w25 ∧
                ∃ (a0_8 : Addr) (v0_7 : Value), (.pointer (some a0) : Value) = .pointer (some a0_8) ∧ (loadVar 4 a0_8).run Try.prog w25 = .ok v0_7 w25 ∧
                Q (v0_7) w25))
            (∃ (w26 : World), Sto Try.prog 4 (.pointer (some a0)) (.bool false) w3 w26 ∧
              ∃ (w27 : World), Tk Try.prog km w26 w27 ∧
              ∃ (a0_9 : Addr) (v0_8 : Value), (.pointer (some a0) : Value) = .pointer (some a0_9) ∧ (loadVar 4 a0_9).run Try.prog w27 = .ok v0_8 w27 ∧
              Q (v0_8) w27))
          (∃ (w28 : World), Sto Try.prog 4 (.pointer (some a0)) (.bool false) w3 w28 ∧
            ∃ (w29 : World), Tk Try.prog km w28 w29 ∧
            ∃ (a0_10 : Addr) (v0_9 : Value), (.pointer (some a0) : Value) = .pointer (some a0_10) ∧ (loadVar 4 a0_10).run Try.prog w29 = .ok v0_9 w29 ∧
            Q (v0_9) w29))
        (∃ (w30 : World), Sto Try.prog 4 (.pointer (some a0)) (.bool false) w3 w30 ∧
          ∃ (w31 : World), Tk Try.prog km w30 w31 ∧
          ∃ (a0_11 : Addr) (v0_10 : Value), (.pointer (some a0) : Value) = .pointer (some a0_11) ∧ (loadVar 4 a0_11).run Try.prog w31 = .ok v0_10 w31 ∧
          Q (v0_10) w31))
      (∃ (w32 : World), Sto Try.prog 4 (.pointer (some a0)) (.bool false) w3 w32 ∧
        ∃ (w33 : World), Tk Try.prog km w32 w33 ∧
        ∃ (a0_12 : Addr) (v0_11 : Value), (.pointer (some a0) : Value) = .pointer (some a0_12) ∧ (loadVar 4 a0_12).run Try.prog w33 = .ok v0_11 w33 ∧
        Q (v0_11) w33))
    (∃ (w34 : World), Sto Try.prog 4 (.pointer (some a0)) (.bool false) w3 w34 ∧
      ∃ (w35 : World), Tk Try.prog km w34 w35 ∧
      ∃ (a0_13 : Addr) (v0_12 : Value), (.pointer (some a0) : Value) = .pointer (some a0_13) ∧ (loadVar 4 a0_13).run Try.prog w35 = .ok v0_12 w35 ∧
      Q (v0_12) w35))
  (∃ (w36 : World), Sto Try.prog 4 (.pointer (some a0)) (.bool false) w3 w36 ∧
    ∃ (w37 : World), Tk Try.prog km w36 w37 ∧
    ∃ (a0_14 : Addr) (v0_13 : Value), (.pointer (some a0) : Value) = .pointer (some a0_14) ∧ (loadVar 4 a0_14).run Try.prog w37 = .ok v0_13 w37 ∧
    Q (v0_13) w37)
def law27_alive  (w : World) (Q : Value → World → Prop) : Prop :=
  ∃ (z0 : Value), Pu Try.prog (zeroValue 4) z0 ∧
  New z0.cells 4 w fun k0 w1 =>
  callF Try.prog 30 #[] w1 fun r15 w2 =>
  ∃ (p15 : Option Addr), r15 = .pointer p15 ∧
  ∃ (b17 : Bool) (w3 : World), Ef Try.prog (do eqGuard .eql 26 (.tmp 16) (.const (.pointer none)) (.pointer p15) (.pointer none); binOp .eql 26 (.pointer p15) (.pointer none) : Sem Value) w2 (.bool b17) w3 ∧
  cond b17
  (∃ (w4 : World), Sto Try.prog 4 (.pointer (some (⟨k0, 0, none⟩ : Addr))) (.bool false) w3 w4 ∧
    ∃ (a0 : Addr) (v0 : Value), (.pointer (some (⟨k0, 0, none⟩ : Addr)) : Value) = .pointer (some a0) ∧ (loadVar 4 a0).run Try.prog w4 = .ok v0 w4 ∧
    Q (v0) w4)
  (callF Try.prog 31 #[.pointer p15, .int .i64 14, .int .i64 40] w3 fun r19 w5 =>
    ∃ (n19 : Int), r19 = .int .i64 n19 ∧
    callF Try.prog 31 #[.pointer p15, .int .i64 16, .int .i64 1] w5 fun r21 w6 =>
    ∃ (n21 : Int), r21 = .int .i64 n21 ∧
    callF Try.prog 31 #[.pointer p15, .int .i64 0, .int .i64 65536] w6 fun r23 w7 =>
    ∃ (n23 : Int), r23 = .int .i64 n23 ∧
    callF Try.prog 31 #[.pointer p15, .int .i64 14, .int .i64 2] w7 fun r25 w8 =>
    ∃ (n25 : Int), r25 = .int .i64 n25 ∧
    callF Try.prog 40 #[.pointer p15, .int .i64 2] w8 fun r28 w9 =>
    ∃ (n28 : Int) (n28_1 : Int), r28 = .tuple #[.int .i64 n28, .int .i64 n28_1] ∧
    callF Try.prog 36 #[.int .i64 4] w9 fun r32 w10 =>
    ∃ (n32 : Int) (b32 : Bool), r32 = .tuple #[.int .i64 n32, .bool b32] ∧
    callF Try.prog 36 #[.int .i64 (-1)] w10 fun r36 w11 =>
    ∃ (n36 : Int) (b36 : Bool), r36 = .tuple #[.int .i64 n36, .bool b36] ∧
    ∃ (z11 : Value), Pu Try.prog (zeroValue 3) z11 ∧
    New z11.cells 3 w11 fun k11 w12 =>
    ∃ (w13 : World), Sto Try.prog 3 (.pointer (some (⟨k11, 0, none⟩ : Addr))) (.int .i64 0) w12 w13 ∧
    callF Try.prog 100 #[.pointer p15] w13 fun r40 w14 =>
    ∃ (v40 : Value), r40 = v40 ∧
    RangeF Try.prog (v40) #[.pointer (some (⟨k0, 0, none⟩ : Addr)), .pointer p15, .int .i64 n19, .int .i64 n21, .int .i64 n23, .int .i64 n28, .int .i64 n28_1, .int .i64 n32, .bool b32, .int .i64 n36, .bool b36, .pointer (some (⟨k11, 0, none⟩ : Addr)), .tuple #[], .tuple #[], .tuple #[], .pointer p15, .pointer p15, .bool b17, .pointer p15, .int .i64 n19, .pointer p15, .int .i64 n21, .pointer p15, .int .i64 n23, .pointer p15, .int .i64 n25, .tuple #[.int .i64 n28, .int .i64 n28_1], .pointer p15, .tuple #[.int .i64 n28, .int .i64 n28_1], .int .i64 n28, .int .i64 n28_1, .tuple #[.int .i64 n32, .bool b32], .tuple #[.int .i64 n32, .bool b32], .int .i64 n32, .bool b32, .tuple #[.int .i64 n36, .bool b36], .tuple #[.int .i64 n36, .bool b36], .int .i64 n36, .bool b36, .pointer p15, v40, .tuple #[], .tuple #[], .tuple #[], .tuple #[], .tuple #[], .tuple #[], .tuple #[], .tuple #[], .tuple #[], .tuple #[], .tuple #[], .tuple #[], .tuple #[], .tuple #[], .tuple #[], .tuple #[], .tuple #[], .tuple #[], .tuple #[], .tuple #[], .tuple #[], .tuple #[], .tuple #[], .tuple #[], .tuple #[], .tuple #[], .tuple #[], .tuple #[], .tuple #[], .tuple #[], .tuple #[], .tuple #[], .tuple #[], .tuple #[], .tuple #[], .tuple #[], .tuple #[], .tuple #[], .tuple #[], .tuple #[], .tuple #[], .tuple #[], .tuple #[], .tuple #[], .tuple #[], .tuple #[], .tuple #[], .tuple #[], .tuple #[], .tuple #[], .tuple #[], .tuple #[], .tuple #[], .tuple #[], .tuple #[], .tuple #[], .tuple #[], .tuple #[], .tuple #[], .tuple #[], .tuple #[], .tuple #[], .tuple #[], .tuple #[], .tuple #[], .tuple #[], .tuple #[], .tuple #[], .tuple #[]] (law27_alive_rf 0) w14 (fun krf w16 =>
      law27_alive_j1 (⟨k0, 0, none⟩ : Addr) p15 n19 n21 n23 n28 n28_1 n32 b32 b36 (⟨k11, 0, none⟩ : Addr) krf w16 Q) (fun krf w16 =>
      ∃ (w17 : World), Tk Try.prog krf w16 w17 ∧
      ∃ (a0_1 : Addr) (v0_1 : Value), (.pointer (some (⟨k0, 0, none⟩ : Addr)) : Value) = .pointer (some a0_1) ∧ (loadVar 4 a0_1).run Try.prog w17 = .ok v0_1 w17 ∧
      Q (v0_1) w17))
def law27_alive_tt : Nat → List (Nat × TypeId) := fun _ => []
theorem law27_alive_call  (w : World) (Q : Value → World → Prop) (h : law27_alive  w Q) : callF Try.prog 29 #[] w Q :=
  callF_of (fun _ _ => by kernel_rfl) (callK_of_sw law27_alive_tt Try.func29 rfl (by kernel_rfl) (show sw Try.prog none 110 law27_alive_tt _ 0 (endK Try.prog [.cell 0 4] Q) ⟨regs [], []⟩ w from
    Eq.mp (by kernel_rfl : law27_alive  w Q = sw Try.prog none 110 law27_alive_tt (Try.f29.body.getD .skip) 0 (endK Try.prog [.cell 0 4] Q) ⟨regs [], []⟩ w) h))
def law27_alive_y0_j1 (l : Nat) (a11 : Addr) (w : World) (Q : Value → World → Prop) : Prop :=
  ∃ (n49 : Int), Ld Try.prog 3 (.pointer (some a11)) w (.int .i64 n49) ∧
  ∃ (w1 : World), Sto Try.prog 3 (.pointer (some a11)) (.int .i64 (IntKind.i64.wrap (n49 + 1))) w w1 ∧
  EndR Try.prog l none true w1 Q
def law27_alive_y0_j2 (l : Nat) (a0 : Addr) (a11 : Addr) (b48 : Bool) (w : World) (Q : Value → World → Prop) : Prop :=
  cond b48
  (∃ (w1 : World), Sto Try.prog 4 (.pointer (some a0)) (.bool false) w w1 ∧
    EndR Try.prog l (some .ret) false w1 Q)
  (law27_alive_y0_j1 l a11 w Q)
def law27_alive_y0 (a0 : Addr) (a11 : Addr) (n41 : Int) (n42 : Int) (l : Nat) (w : World) (Q : Value → World → Prop) : Prop :=
  BegR Try.prog l w fun w1 =>
  cond (n41 != 14)
  (law27_alive_y0_j2 l a0 a11 true w1 Q)
  (law27_alive_y0_j2 l a0 a11 (n42 != 2) w1 Q)
def law27_alive_y0_t1 : Nat → List (Nat × TypeId) := fun _ => []
def law27_alive_y0_t2 : Nat → List (Nat × TypeId) := fun _ => []
theorem law27_alive_y0_call (a0 : Addr) (a11 : Addr) (n41 : Int) (n42 : Int) {x1 x2 x3 x4 x5 x6 x7 x8 x9 x10 x12 x13 x14 x15 x16 x17 x18 x19 x20 x21 x22 x23 x24 x25 x26 x27 x28 x29 x30 x31 x32 x33 x34 x35 x36 x37 x38 x39 x40 x41 x42 x43 x44 x45 x46 x47 x48 x49 x50 x51 x52 x53 x54 x55 x56 x57 x58 x59 x60 x61 x62 x63 x64 x65 x66 x67 x68 x69 x70 x71 x72 x73 x74 x75 x76 x77 x78 x79 x80 x81 x82 x83 x84 x85 x86 x87 x88 x89 x90 x91 x92 x93 x94 x95 x96 x97 x98 x99 x100 x101 x102 x103 x104 x105 x106 x107 x108 x109 : Value} {l df : Nat} {fn : FuncId} {w : World} {Q : Value → World → Prop} (h : LpAt w l (rec0 fn #[.pointer (some a0), x1, x2, x3, x4, x5, x6, x7, x8, x9, x10, .pointer (some a11), x12, x13, x14, x15, x16, x17, x18, x19, x20, x21, x22, x23, x24, x25, x26, x27, x28, x29, x30, x31, x32, x33, x34, x35, x36, x37, x38, x39, x40, x41, x42, x43, x44, x45, x46, x47, x48, x49, x50, x51, x52, x53, x54, x55, x56, x57, x58, x59, x60, x61, x62, x63, x64, x65, x66, x67, x68, x69, x70, x71, x72, x73, x74, x75, x76, x77, x78, x79, x80, x81, x82, x83, x84, x85, x86, x87, x88, x89, x90, x91, x92, x93, x94, x95, x96, x97, x98, x99, x100, x101, x102, x103, x104, x105, x106, x107, x108, x109] (law27_alive_rf 0).1 (law27_alive_rf 0).2.1 (law27_alive_rf 0).2.2 df)) (hq : law27_alive_y0 a0 a11 n41 n42 l w Q) : callV Try.prog (.func (.yield l) #[] #[]) [.int .i64 n41, .int .i64 n42] w Q := by
  have e : law27_alive_y0 a0 a11 n41 n42 l w Q = sw Try.prog (some l) 110 law27_alive_y0_t1 (law27_alive_rf 0).2.1 0 (begK Try.prog l 110 law27_alive_y0_t2 (law27_alive_rf 0).2.2 Q) ⟨regs [.pointer (some a0), x1, x2, x3, x4, x5, x6, x7, x8, x9, x10, .pointer (some a11), x12, x13, x14, x15, x16, x17, x18, x19, x20, x21, x22, x23, x24, x25, x26, x27, x28, x29, x30, x31, x32, x33, x34, x35, x36, x37, x38, x39, x40, .int .i64 n41, .int .i64 n42, x43, x44, x45, x46, x47, x48, x49, x50, x51, x52, x53, x54, x55, x56, x57, x58, x59, x60, x61, x62, x63, x64, x65, x66, x67, x68, x69, x70, x71, x72, x73, x74, x75, x76, x77, x78, x79, x80, x81, x82, x83, x84, x85, x86, x87, x88, x89, x90, x91, x92, x93, x94, x95, x96, x97, x98, x99, x100, x101, x102, x103, x104, x105, x106, x107, x108, x109], []⟩ w := by kernel_rfl
  have h2 := round_of_sw (f := fn) law27_alive_y0_t1 law27_alive_y0_t2 (nt := 110) (by kernel_rfl) (Eq.mp e hq)
  refine yield_r h ?_ ?_ h2
  · kernel_rfl
  · kernel_rfl

noncomputable def law27_Agree_rf (i : Nat) : Array Tmp × Code × Code := (rfs (Try.f34.body.getD .skip)).getD i (#[], .skip, .skip)
def law27_Agree_j1 (a4 : Addr) (a5 : Addr) (km : Nat) (w : World) (Q : Value → World → Prop) : Prop :=
  ∃ (cs87 : Array Value), Ld Try.prog 132 (.pointer (some a5)) w (.agg cs87) ∧
  ∃ (b89 : Bool) (w1 : World), Ef Try.prog (do eqGuard .eql 132 (.tmp 87) (.tmp 88) (.agg cs87) (.agg #[.int .i64 0, .int .i64 0, .int .i64 0, .int .i64 0, .int .i64 0, .int .i64 0, .int .i64 0, .int .i64 0, .int .i64 0, .int .i64 0, .int .i64 0, .int .i64 0, .int .i64 0, .int .i64 0, .int .i64 0, .int .i64 0]); binOp .eql 132 (.agg cs87) (.agg #[.int .i64 0, .int .i64 0, .int .i64 0, .int .i64 0, .int .i64 0, .int .i64 0, .int .i64 0, .int .i64 0, .int .i64 0, .int .i64 0, .int .i64 0, .int .i64 0, .int .i64 0, .int .i64 0, .int .i64 0, .int .i64 0]) : Sem Value) w (.bool b89) w1 ∧
  ∃ (w2 : World), Sto Try.prog 4 (.pointer (some a4)) (.bool b89) w1 w2 ∧
  ∃ (w3 : World), Tk Try.prog km w2 w3 ∧
  ∃ (a4_1 : Addr) (v4 : Value), (.pointer (some a4) : Value) = .pointer (some a4_1) ∧ (loadVar 4 a4_1).run Try.prog w3 = .ok v4 w3 ∧
  Q (v4) w3
def law27_Agree (p0 : Option Addr) (p1 : Option Addr) (w : World) (Q : Value → World → Prop) : Prop :=
  ∃ (z4 : Value), Pu Try.prog (zeroValue 4) z4 ∧
  New z4.cells 4 w fun k4 w1 =>
  ∃ (z5 : Value), Pu Try.prog (zeroValue 132) z5 ∧
  New z5.cells 132 w1 fun k5 w2 =>
  ∃ (w3 : World), Sto Try.prog 132 (.pointer (some (⟨k5, 0, none⟩ : Addr))) (.agg #[.int .i64 0, .int .i64 0, .int .i64 0, .int .i64 0, .int .i64 0, .int .i64 0, .int .i64 0, .int .i64 0, .int .i64 0, .int .i64 0, .int .i64 0, .int .i64 0, .int .i64 0, .int .i64 0, .int .i64 0, .int .i64 0]) w2 w3 ∧
  LoopS [.pointer p0, .pointer p1, .pointer (some (⟨k4, 0, none⟩ : Addr)), .pointer (some (⟨k5, 0, none⟩ : Addr)), .int .i64 0] w3 fun I1 μ1 us1 r_1 wl1 =>
  ∃ (p0_1 : Option Addr) (p1_1 : Option Addr) (a4 : Addr) (a5 : Addr) (n6 : Int), us1 = [.pointer p0_1, .pointer p1_1, .pointer (some a4), .pointer (some a5), .int .i64 n6] ∧
  cond (decide (n6 < 16))
  (callF Try.prog 104 #[.pointer p1_1, .int .i64 n6] wl1 fun r23 w4 =>
    ∃ (n23 : Int), r23 = .int .i64 n23 ∧
    ∃ (a24 : Addr), IxA Try.prog 132 (.pointer (some a5)) (.int .i64 n6) a24 ∧
    ∃ (w5 : World), Sto Try.prog 3 (.pointer (some a24)) (.int .i64 n23) w4 w5 ∧
    ∃ (S6 : World → Prop),
    Drw w5 fun w6 =>
    ∃ (a29 : Addr), IxA Try.prog 132 (.pointer (some a5)) (.int .i64 n6) a29 ∧
    ∃ (n30 : Int), HLd Try.prog S6 3 (.pointer (some a29)) w6 (.int .i64 n30) ∧
    callF Try.prog 35 #[.pointer p0_1, .int .i64 n6] w6 fun r27 w7 =>
    ∃ (n27 : Int), r27 = .int .i64 n27 ∧
    (w7 = w6 ∨ S6 w7) ∧
    cond (n27 != n30)
    (∃ (w8 : World), Sto Try.prog 4 (.pointer (some a4)) (.bool false) w7 w8 ∧
      ∃ (a4_1 : Addr) (v4 : Value), (.pointer (some a4) : Value) = .pointer (some a4_1) ∧ (loadVar 4 a4_1).run Try.prog w8 = .ok v4 w8 ∧
      Q (v4) w8)
    (goesOn [] [] I1 μ1 us1 [.pointer p0_1, .pointer p1_1, .pointer (some a4), .pointer (some a5), .int .i64 (IntKind.i64.wrap (n6 + 1))] wl1 w7))
  (LoopS [.pointer p0_1, .pointer p1_1, .pointer (some a4), .pointer (some a5), .int .i64 (-1)] wl1 fun I2 μ2 us2 r_2 wl2 =>
    ∃ (p0_2 : Option Addr) (p1_2 : Option Addr) (a4_2 : Addr) (a5_1 : Addr) (n7 : Int), us2 = [.pointer p0_2, .pointer p1_2, .pointer (some a4_2), .pointer (some a5_1), .int .i64 n7] ∧
    cond (decide (n7 ≤ 3))
    (callF Try.prog 40 #[.pointer p0_2, .int .i64 n7] wl2 fun r39 w9 =>
      ∃ (n39 : Int) (n39_1 : Int), r39 = .tuple #[.int .i64 n39, .int .i64 n39_1] ∧
      cond (decide (n7 ≥ 0))
      (cond (decide (n7 ≤ 2))
        (callF Try.prog 105 #[.pointer p1_2, .int .i64 n7] w9 fun r51 w10 =>
          ∃ (n51 : Int) (n51_1 : Int), r51 = .tuple #[.int .i64 n51, .int .i64 n51_1] ∧
          cond (n39 != n51)
          (∃ (w11 : World), Sto Try.prog 4 (.pointer (some a4_2)) (.bool false) w10 w11 ∧
            ∃ (a4_3 : Addr) (v4_1 : Value), (.pointer (some a4_2) : Value) = .pointer (some a4_3) ∧ (loadVar 4 a4_3).run Try.prog w11 = .ok v4_1 w11 ∧
            Q (v4_1) w11)
          (cond (n39_1 != n51_1)
            (∃ (w12 : World), Sto Try.prog 4 (.pointer (some a4_2)) (.bool false) w10 w12 ∧
              ∃ (a4_4 : Addr) (v4_2 : Value), (.pointer (some a4_2) : Value) = .pointer (some a4_4) ∧ (loadVar 4 a4_4).run Try.prog w12 = .ok v4_2 w12 ∧
              Q (v4_2) w12)
            (goesOn [] [] I2 μ2 us2 [.pointer p0_2, .pointer p1_2, .pointer (some a4_2), .pointer (some a5_1), .int .i64 (IntKind.i64.wrap (n7 + 1))] wl2 w10)))
        (cond (n39 != 0)
          (∃ (w13 : World), Sto Try.prog 4 (.pointer (some a4_2)) (.bool false) w9 w13 ∧
            ∃ (a4_5 : Addr) (v4_3 : Value), (.pointer (some a4_2) : Value) = .pointer (some a4_5) ∧ (loadVar 4 a4_5).run Try.prog w13 = .ok v4_3 w13 ∧
            Q (v4_3) w13)
          (cond (n39_1 != 0)
            (∃ (w14 : World), Sto Try.prog 4 (.pointer (some a4_2)) (.bool false) w9 w14 ∧
              ∃ (a4_6 : Addr) (v4_4 : Value), (.pointer (some a4_2) : Value) = .pointer (some a4_6) ∧ (loadVar 4 a4_6).run Try.prog w14 = .ok v4_4 w14 ∧
              Q (v4_4) w14)
            (goesOn [] [] I2 μ2 us2 [.pointer p0_2, .pointer p1_2, .pointer (some a4_2), .pointer (some a5_1), .int .i64 (IntKind.i64.wrap (n7 + 1))] wl2 w9))))
      (cond (n39 != 0)
        (∃ (w15 : World), Sto Try.prog 4 (.pointer (some a4_2)) (.bool false) w9 w15 ∧
          ∃ (a4_7 : Addr) (v4_5 : Value), (.pointer (some a4_2) : Value) = .pointer (some a4_7) ∧ (loadVar 4 a4_7).run Try.prog w15 = .ok v4_5 w15 ∧
          Q (v4_5) w15)
        (cond (n39_1 != 0)
          (∃ (w16 : World), Sto Try.prog 4 (.pointer (some a4_2)) (.bool false) w9 w16 ∧
            ∃ (a4_8 : Addr) (v4_6 : Value), (.pointer (some a4_2) : Value) = .pointer (some a4_8) ∧ (loadVar 4 a4_8).run Try.prog w16 = .ok v4_6 w16 ∧
            Q (v4_6) w16)
          (goesOn [] [] I2 μ2 us2 [.pointer p0_2, .pointer p1_2, .pointer (some a4_2), .pointer (some a5_1), .int .i64 (IntKind.i64.wrap (n7 + 1))] wl2 w9))))
    (∃ (z12 : Value), Pu Try.prog (zeroValue 3) z12 ∧
      New z12.cells 3 wl2 fun k12 w17 =>
      ∃ (w18 : World), Sto Try.prog 3 (.pointer (some (⟨k12, 0, none⟩ : Addr))) (.int .i64 (-1)) w17 w18 ∧
      callF Try.prog 100 #[.pointer p0_2] w18 fun r63 w19 =>
      ∃ (v63 : Value), r63 = v63 ∧
      RangeF Try.prog (v63) #[.pointer p0_2, .pointer p1_2, r_2 2, r_2 3, .pointer (some a4_2), .pointer (some a5_1), r_2 6, .int .i64 n7, r_2 8, r_2 9, r_2 10, r_2 11, .pointer (some (⟨k12, 0, none⟩ : Addr)), r_2 13, r_2 14, r_2 15, r_2 16, r_2 17, r_2 18, r_2 19, r_2 20, r_2 21, r_2 22, r_2 23, r_2 24, r_2 25, r_2 26, r_2 27, r_2 28, r_2 29, r_2 30, r_2 31, .int .i64 n7, .bool (decide (n7 ≤ 3)), r_2 34, r_2 35, r_2 36, r_2 37, r_2 38, r_2 39, r_2 40, r_2 41, r_2 42, r_2 43, r_2 44, r_2 45, r_2 46, r_2 47, r_2 48, r_2 49, r_2 50, r_2 51, r_2 52, r_2 53, r_2 54, r_2 55, r_2 56, r_2 57, r_2 58, r_2 59, r_2 60, r_2 61, .pointer p0_2, v63, r_2 64, r_2 65, r_2 66, r_2 67, r_2 68, r_2 69, r_2 70, r_2 71, r_2 72, r_2 73, r_2 74, r_2 75, r_2 76, r_2 77, r_2 78, r_2 79, r_2 80, r_2 81, r_2 82, r_2 83, r_2 84, r_2 85, r_2 86, r_2 87, r_2 88, r_2 89] (law27_Agree_rf 0) w19 (fun krf w21 =>
        law27_Agree_j1 a4_2 a5_1 krf w21 Q) (fun krf w21 =>
        ∃ (w22 : World), Tk Try.prog krf w21 w22 ∧
        ∃ (a4_9 : Addr) (v4_7 : Value), (.pointer (some a4_2) : Value) = .pointer (some a4_9) ∧ (loadVar 4 a4_9).run Try.prog w22 = .ok v4_7 w22 ∧
        Q (v4_7) w22)))
def law27_Agree_tt : Nat → List (Nat × TypeId) := fun n => match n with | 0 => [(0, 26), (1, 28), (4, 1000000), (5, 1000000), (6, 3)] | 2 => [(0, 26), (1, 28), (4, 1000000), (5, 1000000), (7, 3)] | _ => []
theorem law27_Agree_call (p0 : Option Addr) (p1 : Option Addr) (w : World) (Q : Value → World → Prop) (h : law27_Agree p0 p1 w Q) : callF Try.prog 34 #[.pointer p0, .pointer p1] w Q :=
  callF_of (fun _ _ => by kernel_rfl) (callK_of_sw law27_Agree_tt Try.func34 rfl (by kernel_rfl) (show sw Try.prog none 90 law27_Agree_tt _ 0 (endK Try.prog [.cell 4 4] Q) ⟨regs [.pointer p0, .pointer p1], []⟩ w from
    Eq.mp (by kernel_rfl : law27_Agree p0 p1 w Q = sw Try.prog none 90 law27_Agree_tt (Try.f34.body.getD .skip) 0 (endK Try.prog [.cell 4 4] Q) ⟨regs [.pointer p0, .pointer p1], []⟩ w) h))
def law27_Agree_y0_j1 (l : Nat) (a5 : Addr) (a12 : Addr) (n13 : Int) (w : World) (Q : Value → World → Prop) : Prop :=
  ∃ (a85 : Addr), IxA Try.prog 132 (.pointer (some a5)) (.int .i64 n13) a85 ∧
  ∃ (w1 : World), Sto Try.prog 3 (.pointer (some a85)) (.int .i64 0) w w1 ∧
  ∃ (w2 : World), Sto Try.prog 3 (.pointer (some a12)) (.int .i64 n13) w1 w2 ∧
  EndR Try.prog l none true w2 Q
def law27_Agree_y0_j2 (l : Nat) (a4 : Addr) (a5 : Addr) (a12 : Addr) (n13 : Int) (b83 : Bool) (w : World) (Q : Value → World → Prop) : Prop :=
  cond b83
  (∃ (w1 : World), Sto Try.prog 4 (.pointer (some a4)) (.bool false) w w1 ∧
    EndR Try.prog l (some .ret) false w1 Q)
  (law27_Agree_y0_j1 l a5 a12 n13 w Q)
def law27_Agree_y0 (a4 : Addr) (a5 : Addr) (a12 : Addr) (n64 : Int) (n65 : Int) (l : Nat) (w : World) (Q : Value → World → Prop) : Prop :=
  BegR Try.prog l w fun w1 =>
  ∃ (n67 : Int), Ld Try.prog 3 (.pointer (some a12)) w1 (.int .i64 n67) ∧
  cond (decide (n64 ≤ n67))
  (law27_Agree_y0_j2 l a4 a5 a12 n64 true w1 Q)
  (cond (decide (n64 > 15))
    (law27_Agree_y0_j2 l a4 a5 a12 n64 true w1 Q)
    (∃ (a76 : Addr), IxA Try.prog 132 (.pointer (some a5)) (.int .i64 n64) a76 ∧
      ∃ (n77 : Int), Ld Try.prog 3 (.pointer (some a76)) w1 (.int .i64 n77) ∧
      cond (n65 != n77)
      (law27_Agree_y0_j2 l a4 a5 a12 n64 true w1 Q)
      (law27_Agree_y0_j2 l a4 a5 a12 n64 (n65 == 0) w1 Q)))
def law27_Agree_y0_t1 : Nat → List (Nat × TypeId) := fun _ => []
def law27_Agree_y0_t2 : Nat → List (Nat × TypeId) := fun _ => []
theorem law27_Agree_y0_call (a4 : Addr) (a5 : Addr) (a12 : Addr) (n64 : Int) (n65 : Int) {x0 x1 x2 x3 x6 x7 x8 x9 x10 x11 x13 x14 x15 x16 x17 x18 x19 x20 x21 x22 x23 x24 x25 x26 x27 x28 x29 x30 x31 x32 x33 x34 x35 x36 x37 x38 x39 x40 x41 x42 x43 x44 x45 x46 x47 x48 x49 x50 x51 x52 x53 x54 x55 x56 x57 x58 x59 x60 x61 x62 x63 x64 x65 x66 x67 x68 x69 x70 x71 x72 x73 x74 x75 x76 x77 x78 x79 x80 x81 x82 x83 x84 x85 x86 x87 x88 x89 : Value} {l df : Nat} {fn : FuncId} {w : World} {Q : Value → World → Prop} (h : LpAt w l (rec0 fn #[x0, x1, x2, x3, .pointer (some a4), .pointer (some a5), x6, x7, x8, x9, x10, x11, .pointer (some a12), x13, x14, x15, x16, x17, x18, x19, x20, x21, x22, x23, x24, x25, x26, x27, x28, x29, x30, x31, x32, x33, x34, x35, x36, x37, x38, x39, x40, x41, x42, x43, x44, x45, x46, x47, x48, x49, x50, x51, x52, x53, x54, x55, x56, x57, x58, x59, x60, x61, x62, x63, x64, x65, x66, x67, x68, x69, x70, x71, x72, x73, x74, x75, x76, x77, x78, x79, x80, x81, x82, x83, x84, x85, x86, x87, x88, x89] (law27_Agree_rf 0).1 (law27_Agree_rf 0).2.1 (law27_Agree_rf 0).2.2 df)) (hq : law27_Agree_y0 a4 a5 a12 n64 n65 l w Q) : callV Try.prog (.func (.yield l) #[] #[]) [.int .i64 n64, .int .i64 n65] w Q := by
  have e : law27_Agree_y0 a4 a5 a12 n64 n65 l w Q = sw Try.prog (some l) 90 law27_Agree_y0_t1 (law27_Agree_rf 0).2.1 0 (begK Try.prog l 90 law27_Agree_y0_t2 (law27_Agree_rf 0).2.2 Q) ⟨regs [x0, x1, x2, x3, .pointer (some a4), .pointer (some a5), x6, x7, x8, x9, x10, x11, .pointer (some a12), x13, x14, x15, x16, x17, x18, x19, x20, x21, x22, x23, x24, x25, x26, x27, x28, x29, x30, x31, x32, x33, x34, x35, x36, x37, x38, x39, x40, x41, x42, x43, x44, x45, x46, x47, x48, x49, x50, x51, x52, x53, x54, x55, x56, x57, x58, x59, x60, x61, x62, x63, .int .i64 n64, .int .i64 n65, x66, x67, x68, x69, x70, x71, x72, x73, x74, x75, x76, x77, x78, x79, x80, x81, x82, x83, x84, x85, x86, x87, x88, x89], []⟩ w := by kernel_rfl
  have h2 := round_of_sw (f := fn) law27_Agree_y0_t1 law27_Agree_y0_t2 (nt := 90) (by kernel_rfl) (Eq.mp e hq)
  refine yield_r h ?_ ?_ h2
  · kernel_rfl
  · kernel_rfl
end Go.Sh
end
