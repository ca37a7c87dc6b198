/- A part of a proof of a given law of this program: lemmas, printed forms of its functions, contracts. It has no conditions of its own. -/
import Derived.Test.YtlphgbgfnjhhcaaFw3
import Derived.Test.YtlphgbgfnjhhcaaProg
namespace Go.Sh
open Go Go.Fw Go.Proofs
set_option maxRecDepth 100000
set_option linter.unusedVariables false

/-! ### (*internal/sync.Mutex).Lock: function 174 -/

def internal_sync_Mutex_Lock (p0 : Option Addr) (w : World) (Q : Value → World → Prop) : Prop :=
  callF Try.prog 178 #[] w fun r2 w1 =>
  r2 = .tuple #[] ∧
  ∃ (a4 : Addr), p0 = some a4 ∧
  callF Try.prog 179 #[.pointer (some (a4.add 0)), .int .i32 0, .int .i32 1] w1 fun r6 w2 =>
  ∃ (b6 : Bool), r6 = .bool b6 ∧
  cond b6
  (callF Try.prog 180 #[] w2 fun r7 w3 =>
    r7 = .tuple #[] ∧
    ∃ (v9 : Value) (w4 : World), Ef Try.prog (convert 222 226 (.pointer p0)) w3 (v9) w4 ∧
    callF Try.prog 181 #[v9] w4 fun r10 w5 =>
    r10 = .tuple #[] ∧
    Q (.tuple #[]) w5)
  (callF Try.prog 182 #[.pointer p0] w2 fun r12 w6 =>
    r12 = .tuple #[] ∧
    Q (.tuple #[]) w6)

def internal_sync_Mutex_Lock_tt : Nat → List (Nat × TypeId) := fun _ => []

theorem internal_sync_Mutex_Lock_call (p0 : Option Addr) (w : World) (Q : Value → World → Prop) (h : internal_sync_Mutex_Lock p0 w Q) : callF Try.prog 174 #[.pointer p0] w Q :=
  callF_of (fun _ _ => by kernel_rfl) (callK_of_sw internal_sync_Mutex_Lock_tt Try.func174 rfl (by kernel_rfl) (show sw Try.prog none 13 internal_sync_Mutex_Lock_tt _ 0 (endK Try.prog [] Q) ⟨regs [.pointer p0], []⟩ w from
    Eq.mp (by kernel_rfl : internal_sync_Mutex_Lock p0 w Q = sw Try.prog none 13 internal_sync_Mutex_Lock_tt (Try.f174.body.getD .skip) 0 (endK Try.prog [] Q) ⟨regs [.pointer p0], []⟩ w) h))


/-! ### (*internal/sync.Mutex).Unlock: function 175 -/

def internal_sync_Mutex_Unlock_j1 (p0 : Option Addr) (w : World) (Q : Value → World → Prop) : Prop :=
  ∃ (a12 : Addr), p0 = some a12 ∧
  callF Try.prog 184 #[.pointer (some (a12.add 0)), .int .i32 (-1)] w fun r14 w1 =>
  ∃ (n14 : Int), r14 = .int .i32 n14 ∧
  cond (n14 != 0)
  (callF Try.prog 185 #[.pointer p0, .int .i32 n14] w1 fun r19 w2 =>
    r19 = .tuple #[] ∧
    callF Try.prog 180 #[] w2 fun r20 w3 =>
    r20 = .tuple #[] ∧
    Q (.tuple #[]) w3)
  (callF Try.prog 180 #[] w1 fun r20_1 w4 =>
    r20_1 = .tuple #[] ∧
    Q (.tuple #[]) w4)

def internal_sync_Mutex_Unlock (p0 : Option Addr) (w : World) (Q : Value → World → Prop) : Prop :=
  ∃ (a4 : Addr), p0 = some a4 ∧
  ∃ (n6 : Int), Ld Try.prog 21 (.pointer (some (a4.add 0))) w (.int .i32 n6) ∧
  ∃ (v8 : Value) (w1 : World), Ef Try.prog (convert 222 226 (.pointer p0)) w (v8) w1 ∧
  callF Try.prog 183 #[v8] w1 fun r9 w2 =>
  r9 = .tuple #[] ∧
  callF Try.prog 178 #[] w2 fun r10 w3 =>
  r10 = .tuple #[] ∧
  internal_sync_Mutex_Unlock_j1 p0 w3 Q

def internal_sync_Mutex_Unlock_tt : Nat → List (Nat × TypeId) := fun _ => []

theorem internal_sync_Mutex_Unlock_call (p0 : Option Addr) (w : World) (Q : Value → World → Prop) (h : internal_sync_Mutex_Unlock p0 w Q) : callF Try.prog 175 #[.pointer p0] w Q :=
  callF_of (fun _ _ => by kernel_rfl) (callK_of_sw internal_sync_Mutex_Unlock_tt Try.func175 rfl (by kernel_rfl) (show sw Try.prog none 21 internal_sync_Mutex_Unlock_tt _ 0 (endK Try.prog [] Q) ⟨regs [.pointer p0], []⟩ w from
    Eq.mp (by kernel_rfl : internal_sync_Mutex_Unlock p0 w Q = sw Try.prog none 21 internal_sync_Mutex_Unlock_tt (Try.f175.body.getD .skip) 0 (endK Try.prog [] Q) ⟨regs [.pointer p0], []⟩ w) h))

end Go.Sh
