/- A part of a proof of a given law of this program: lemmas, printed forms of its functions, contracts. It has no conditions of its own. -/
import Derived.Test.YtlphgbgfnjhhcaaFw3
import Derived.Test.YtlphgbgfnjhhcaaProg
namespace Go.Sh
open Go Go.Fw Go.Proofs
set_option maxRecDepth 100000
set_option linter.unusedVariables false

/-! ### (*sync/atomic.Int64).Add: function 101 -/

def sync_atomic_Int64_Add (p0 : Option Addr) (n1 : Int) (w : World) (Q : Value → World → Prop) : Prop :=
  ∃ (a6 : Addr), p0 = some a6 ∧
  callF Try.prog 143 #[.pointer (some (a6.add 0)), .int .i64 n1] w fun r9 w1 =>
  ∃ (n9 : Int), r9 = .int .i64 n9 ∧
  Q (.int .i64 n9) w1

def sync_atomic_Int64_Add_tt : Nat → List (Nat × TypeId) := fun _ => []

theorem sync_atomic_Int64_Add_call (p0 : Option Addr) (n1 : Int) (w : World) (Q : Value → World → Prop) (h : sync_atomic_Int64_Add p0 n1 w Q) : callF Try.prog 101 #[.pointer p0, .int .i64 n1] w Q :=
  callF_of (fun _ _ => by kernel_rfl) (callK_of_sw sync_atomic_Int64_Add_tt Try.func101 rfl (by kernel_rfl) (show sw Try.prog none 10 sync_atomic_Int64_Add_tt _ 0 (endK Try.prog [.tmp 4] Q) ⟨regs [.pointer p0, .int .i64 n1], []⟩ w from
    Eq.mp (by kernel_rfl : sync_atomic_Int64_Add p0 n1 w Q = sw Try.prog none 10 sync_atomic_Int64_Add_tt (Try.f101.body.getD .skip) 0 (endK Try.prog [.tmp 4] Q) ⟨regs [.pointer p0, .int .i64 n1], []⟩ w) h))


/-! ### (*sync/atomic.Int64).Store: function 102 -/

def sync_atomic_Int64_Store (p0 : Option Addr) (n1 : Int) (w : World) (Q : Value → World → Prop) : Prop :=
  ∃ (a5 : Addr), p0 = some a5 ∧
  callF Try.prog 144 #[.pointer (some (a5.add 0)), .int .i64 n1] w fun r8 w1 =>
  r8 = .tuple #[] ∧
  Q (.tuple #[]) w1

def sync_atomic_Int64_Store_tt : Nat → List (Nat × TypeId) := fun _ => []

theorem sync_atomic_Int64_Store_call (p0 : Option Addr) (n1 : Int) (w : World) (Q : Value → World → Prop) (h : sync_atomic_Int64_Store p0 n1 w Q) : callF Try.prog 102 #[.pointer p0, .int .i64 n1] w Q :=
  callF_of (fun _ _ => by kernel_rfl) (callK_of_sw sync_atomic_Int64_Store_tt Try.func102 rfl (by kernel_rfl) (show sw Try.prog none 9 sync_atomic_Int64_Store_tt _ 0 (endK Try.prog [] Q) ⟨regs [.pointer p0, .int .i64 n1], []⟩ w from
    Eq.mp (by kernel_rfl : sync_atomic_Int64_Store p0 n1 w Q = sw Try.prog none 9 sync_atomic_Int64_Store_tt (Try.f102.body.getD .skip) 0 (endK Try.prog [] Q) ⟨regs [.pointer p0, .int .i64 n1], []⟩ w) h))


/-! ### (*sync/atomic.Int64).Load: function 103 -/

def sync_atomic_Int64_Load (p0 : Option Addr) (w : World) (Q : Value → World → Prop) : Prop :=
  ∃ (a4 : Addr), p0 = some a4 ∧
  callF Try.prog 145 #[.pointer (some (a4.add 0))] w fun r6 w1 =>
  ∃ (n6 : Int), r6 = .int .i64 n6 ∧
  Q (.int .i64 n6) w1

def sync_atomic_Int64_Load_tt : Nat → List (Nat × TypeId) := fun _ => []

theorem sync_atomic_Int64_Load_call (p0 : Option Addr) (w : World) (Q : Value → World → Prop) (h : sync_atomic_Int64_Load p0 w Q) : callF Try.prog 103 #[.pointer p0] w Q :=
  callF_of (fun _ _ => by kernel_rfl) (callK_of_sw sync_atomic_Int64_Load_tt Try.func103 rfl (by kernel_rfl) (show sw Try.prog none 7 sync_atomic_Int64_Load_tt _ 0 (endK Try.prog [.tmp 2] Q) ⟨regs [.pointer p0], []⟩ w from
    Eq.mp (by kernel_rfl : sync_atomic_Int64_Load p0 w Q = sw Try.prog none 7 sync_atomic_Int64_Load_tt (Try.f103.body.getD .skip) 0 (endK Try.prog [.tmp 2] Q) ⟨regs [.pointer p0], []⟩ w) h))


/-! ### (*sync/atomic.Bool).Load: function 162 -/

def sync_atomic_Bool_Load (p0 : Option Addr) (w : World) (Q : Value → World → Prop) : Prop :=
  ∃ (a4 : Addr), p0 = some a4 ∧
  callF Try.prog 169 #[.pointer (some (a4.add 0))] w fun r6 w1 =>
  ∃ (n6 : Int), r6 = .int .u32 n6 ∧
  Q (.bool (n6 != 0)) w1

def sync_atomic_Bool_Load_tt : Nat → List (Nat × TypeId) := fun _ => []

theorem sync_atomic_Bool_Load_call (p0 : Option Addr) (w : World) (Q : Value → World → Prop) (h : sync_atomic_Bool_Load p0 w Q) : callF Try.prog 162 #[.pointer p0] w Q :=
  callF_of (fun _ _ => by kernel_rfl) (callK_of_sw sync_atomic_Bool_Load_tt Try.func162 rfl (by kernel_rfl) (show sw Try.prog none 8 sync_atomic_Bool_Load_tt _ 0 (endK Try.prog [.tmp 2] Q) ⟨regs [.pointer p0], []⟩ w from
    Eq.mp (by kernel_rfl : sync_atomic_Bool_Load p0 w Q = sw Try.prog none 8 sync_atomic_Bool_Load_tt (Try.f162.body.getD .skip) 0 (endK Try.prog [.tmp 2] Q) ⟨regs [.pointer p0], []⟩ w) h))


/-! ### (*sync/atomic.Bool).Store: function 172 -/

def sync_atomic_Bool_Store (p0 : Option Addr) (b1 : Bool) (w : World) (Q : Value → World → Prop) : Prop :=
  Drw w fun w1 =>
  ∃ (a5 : Addr), p0 = some a5 ∧
  callF Try.prog 177 #[.bool b1] w1 fun r8 w2 =>
  ∃ (n8 : Int), r8 = .int .u32 n8 ∧
  callF Try.prog 176 #[.pointer (some (a5.add 0)), .int .u32 n8] w2 fun r9 w3 =>
  r9 = .tuple #[] ∧
  Q (.tuple #[]) w3

def sync_atomic_Bool_Store_tt : Nat → List (Nat × TypeId) := fun _ => []

theorem sync_atomic_Bool_Store_call (p0 : Option Addr) (b1 : Bool) (w : World) (Q : Value → World → Prop) (h : sync_atomic_Bool_Store p0 b1 w Q) : callF Try.prog 172 #[.pointer p0, .bool b1] w Q :=
  callF_of (fun _ _ => by kernel_rfl) (callK_of_sw sync_atomic_Bool_Store_tt Try.func172 rfl (by kernel_rfl) (show sw Try.prog none 10 sync_atomic_Bool_Store_tt _ 0 (endK Try.prog [] Q) ⟨regs [.pointer p0, .bool b1], []⟩ w from
    Eq.mp (by kernel_rfl : sync_atomic_Bool_Store p0 b1 w Q = sw Try.prog none 10 sync_atomic_Bool_Store_tt (Try.f172.body.getD .skip) 0 (endK Try.prog [] Q) ⟨regs [.pointer p0, .bool b1], []⟩ w) h))

theorem sync_atomic_Bool_Store_calld (p0 : Option Addr) (b1 : Bool) (w : World) (K : World → Prop) (h : sync_atomic_Bool_Store p0 b1 w (fun _ w => K w)) : callDF Try.prog 172 #[.pointer p0, .bool b1] w K :=
  ⟨fun _ _ => by kernel_rfl, callD_of_sw sync_atomic_Bool_Store_tt Try.func172 rfl (by kernel_rfl) (show sw Try.prog none 10 sync_atomic_Bool_Store_tt _ 0 (endD Try.prog [] K) ⟨regs [.pointer p0, .bool b1], []⟩ w from
    Eq.mp (by kernel_rfl : sync_atomic_Bool_Store p0 b1 w (fun _ w => K w) = sw Try.prog none 10 sync_atomic_Bool_Store_tt (Try.f172.body.getD .skip) 0 (endD Try.prog [] K) ⟨regs [.pointer p0, .bool b1], []⟩ w) h)⟩

/-! ### sync/atomic.b32: function 177 -/

def sync_atomic_b32 (b0 : Bool) (w : World) (Q : Value → World → Prop) : Prop :=
  cond b0
  (Q (.int .u32 1) w)
  (Q (.int .u32 0) w)

def sync_atomic_b32_tt : Nat → List (Nat × TypeId) := fun _ => []

theorem sync_atomic_b32_call (b0 : Bool) (w : World) (Q : Value → World → Prop) (h : sync_atomic_b32 b0 w Q) : callF Try.prog 177 #[.bool b0] w Q :=
  callF_of (fun _ _ => by kernel_rfl) (callK_of_sw sync_atomic_b32_tt Try.func177 rfl (by kernel_rfl) (show sw Try.prog none 4 sync_atomic_b32_tt _ 0 (endK Try.prog [.tmp 2] Q) ⟨regs [.bool b0], []⟩ w from
    Eq.mp (by kernel_rfl : sync_atomic_b32 b0 w Q = sw Try.prog none 4 sync_atomic_b32_tt (Try.f177.body.getD .skip) 0 (endK Try.prog [.tmp 2] Q) ⟨regs [.bool b0], []⟩ w) h))

end Go.Sh
