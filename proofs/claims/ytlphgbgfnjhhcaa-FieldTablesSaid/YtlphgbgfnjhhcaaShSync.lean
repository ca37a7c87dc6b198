/- A part of a proof of a given law of this program: lemmas, printed forms of its functions, contracts. It has no conditions of its own. -/
import Derived.Test.YtlphgbgfnjhhcaaFw3
import Derived.Test.YtlphgbgfnjhhcaaProg
namespace Go.Sh
open Go Go.Fw Go.Proofs
set_option maxRecDepth 100000
set_option linter.unusedVariables false

/-! ### (*sync.Once).Do: function 146 -/

def sync_Once_Do (p0 : Option Addr) (v1 : Value) (w : World) (Q : Value → World → Prop) : Prop :=
  ∃ (a5 : Addr), p0 = some a5 ∧
  callF Try.prog 162 #[.pointer (some (a5.add 0))] w fun r7 w1 =>
  ∃ (b7 : Bool), r7 = .bool b7 ∧
  cond (!b7)
  (callF Try.prog 163 #[.pointer p0, v1] w1 fun r11 w2 =>
    r11 = .tuple #[] ∧
    Q (.tuple #[]) w2)
  (Q (.tuple #[]) w1)

def sync_Once_Do_tt : Nat → List (Nat × TypeId) := fun _ => []

theorem sync_Once_Do_call (p0 : Option Addr) (v1 : Value) (w : World) (Q : Value → World → Prop) (h : sync_Once_Do p0 v1 w Q) : callF Try.prog 146 #[.pointer p0, v1] w Q :=
  callF_of (fun _ _ => by kernel_rfl) (callK_of_sw sync_Once_Do_tt Try.func146 rfl (by kernel_rfl) (show sw Try.prog none 12 sync_Once_Do_tt _ 0 (endK Try.prog [] Q) ⟨regs [.pointer p0, v1], []⟩ w from
    Eq.mp (by kernel_rfl : sync_Once_Do p0 v1 w Q = sw Try.prog none 12 sync_Once_Do_tt (Try.f146.body.getD .skip) 0 (endK Try.prog [] Q) ⟨regs [.pointer p0, v1], []⟩ w) h))


/-! ### (*sync.Once).doSlow: function 163 -/

def sync_Once_doSlow (p0 : Option Addr) (v1 : Value) (w : World) (Q : Value → World → Prop) : Prop :=
  ∃ (a5 : Addr), p0 = some a5 ∧
  callF Try.prog 170 #[.pointer (some (a5.add 1))] w fun r7 w1 =>
  r7 = .tuple #[] ∧
  ∃ (a9 : Addr), p0 = some a9 ∧
  ∃ (a12 : Addr), p0 = some a12 ∧
  callF Try.prog 162 #[.pointer (some (a12.add 0))] w1 fun r14 w2 =>
  ∃ (b14 : Bool), r14 = .bool b14 ∧
  cond (!b14)
  (∃ (a17 : Addr), p0 = some a17 ∧
    callV Try.prog (v1) [] w2 fun r20 w3 =>
    r20 = .tuple #[] ∧
    callDF Try.prog 172 #[.pointer (some (a17.add 0)), .bool true] w3 fun w4 =>
    callDF Try.prog 171 #[.pointer (some (a9.add 1))] w4 fun w5 =>
    Q (.tuple #[]) w5)
  (callDF Try.prog 171 #[.pointer (some (a9.add 1))] w2 fun w6 =>
    Q (.tuple #[]) w6)

def sync_Once_doSlow_tt : Nat → List (Nat × TypeId) := fun _ => []

theorem sync_Once_doSlow_call (p0 : Option Addr) (v1 : Value) (w : World) (Q : Value → World → Prop) (h : sync_Once_doSlow p0 v1 w Q) : callF Try.prog 163 #[.pointer p0, v1] w Q :=
  callF_of (fun _ _ => by kernel_rfl) (callK_of_sw sync_Once_doSlow_tt Try.func163 rfl (by kernel_rfl) (show sw Try.prog none 21 sync_Once_doSlow_tt _ 0 (endK Try.prog [] Q) ⟨regs [.pointer p0, v1], []⟩ w from
    Eq.mp (by kernel_rfl : sync_Once_doSlow p0 v1 w Q = sw Try.prog none 21 sync_Once_doSlow_tt (Try.f163.body.getD .skip) 0 (endK Try.prog [] Q) ⟨regs [.pointer p0, v1], []⟩ w) h))


/-! ### (*sync.Mutex).Lock: function 170 -/

def sync_Mutex_Lock (p0 : Option Addr) (w : World) (Q : Value → World → Prop) : Prop :=
  ∃ (a3 : Addr), p0 = some a3 ∧
  callF Try.prog 174 #[.pointer (some (a3.add 0))] w fun r5 w1 =>
  r5 = .tuple #[] ∧
  Q (.tuple #[]) w1

def sync_Mutex_Lock_tt : Nat → List (Nat × TypeId) := fun _ => []

theorem sync_Mutex_Lock_call (p0 : Option Addr) (w : World) (Q : Value → World → Prop) (h : sync_Mutex_Lock p0 w Q) : callF Try.prog 170 #[.pointer p0] w Q :=
  callF_of (fun _ _ => by kernel_rfl) (callK_of_sw sync_Mutex_Lock_tt Try.func170 rfl (by kernel_rfl) (show sw Try.prog none 6 sync_Mutex_Lock_tt _ 0 (endK Try.prog [] Q) ⟨regs [.pointer p0], []⟩ w from
    Eq.mp (by kernel_rfl : sync_Mutex_Lock p0 w Q = sw Try.prog none 6 sync_Mutex_Lock_tt (Try.f170.body.getD .skip) 0 (endK Try.prog [] Q) ⟨regs [.pointer p0], []⟩ w) h))


/-! ### (*sync.Mutex).Unlock: function 171 -/

def sync_Mutex_Unlock (p0 : Option Addr) (w : World) (Q : Value → World → Prop) : Prop :=
  ∃ (a3 : Addr), p0 = some a3 ∧
  callF Try.prog 175 #[.pointer (some (a3.add 0))] w fun r5 w1 =>
  r5 = .tuple #[] ∧
  Q (.tuple #[]) w1

def sync_Mutex_Unlock_tt : Nat → List (Nat × TypeId) := fun _ => []

theorem sync_Mutex_Unlock_call (p0 : Option Addr) (w : World) (Q : Value → World → Prop) (h : sync_Mutex_Unlock p0 w Q) : callF Try.prog 171 #[.pointer p0] w Q :=
  callF_of (fun _ _ => by kernel_rfl) (callK_of_sw sync_Mutex_Unlock_tt Try.func171 rfl (by kernel_rfl) (show sw Try.prog none 6 sync_Mutex_Unlock_tt _ 0 (endK Try.prog [] Q) ⟨regs [.pointer p0], []⟩ w from
    Eq.mp (by kernel_rfl : sync_Mutex_Unlock p0 w Q = sw Try.prog none 6 sync_Mutex_Unlock_tt (Try.f171.body.getD .skip) 0 (endK Try.prog [] Q) ⟨regs [.pointer p0], []⟩ w) h))

theorem sync_Mutex_Unlock_calld (p0 : Option Addr) (w : World) (K : World → Prop) (h : sync_Mutex_Unlock p0 w (fun _ w => K w)) : callDF Try.prog 171 #[.pointer p0] w K :=
  ⟨fun _ _ => by kernel_rfl, callD_of_sw sync_Mutex_Unlock_tt Try.func171 rfl (by kernel_rfl) (show sw Try.prog none 6 sync_Mutex_Unlock_tt _ 0 (endD Try.prog [] K) ⟨regs [.pointer p0], []⟩ w from
    Eq.mp (by kernel_rfl : sync_Mutex_Unlock p0 w (fun _ w => K w) = sw Try.prog none 6 sync_Mutex_Unlock_tt (Try.f171.body.getD .skip) 0 (endD Try.prog [] K) ⟨regs [.pointer p0], []⟩ w) h)⟩
end Go.Sh
