/- A part of a proof of a given law of this program: lemmas, printed forms of its functions, contracts. It has no conditions of its own. -/
import Derived.Test.YtcfealonnakdcaaGreatMB
import Derived.Test.YtcfealonnakdcaaGreatMC
import Derived.Test.YtcfealonnakdcaaGreatMR
import Derived.Test.YtcfealonnakdcaaGreatMA

section
namespace Go.Sh
open Go Go.Fw Go.Proofs
set_option maxRecDepth 100000
set_option linter.unusedVariables false
def z12 : List UInt8 := List.replicate 12 0
def cG : List UInt8 := [3, 136, 218, 206, 96, 182, 163, 146, 243, 40, 194, 185, 113, 178, 254, 120]
theorem g_key : hKey z16 = 0x66e94bd4ef8a2c3b884cfa59ca342b2e := by
  have : List.replicate 16 (0 : UInt8) = z16 := rfl
  unfold hKey; rw [this, aes_zero]; decide +kernel
theorem g_str : aencL z16 (afterL (firstL z12) 1) = [3, 136, 218, 206, 96, 182, 163, 146, 243, 40, 194, 185, 113, 178, 254, 120] := by rw [aencL_eval]; kernel_rfl
theorem xorL_inj {a b c : List UInt8} (h1 : a.length = c.length) (h2 : b.length = c.length) (h : xorL a c = xorL b c) : a = b := by
  refine fl_ext (by omega) fun j hj => ?_
  have e1 := xorL_getD h1 (i := j) (by omega)
  have e2 := xorL_getD h2 (i := j) (by omega)
  rw [h, e2] at e1
  have e3 := congrArg (fun x => x ^^^ c.getD j 0) e1
  simp only [UInt8.xor_assoc, UInt8.xor_self, UInt8.xor_zero] at e3
  exact e3.symm
section
variable {w : World} {K : Value → World → Prop}
theorem OB.sp {p : Option Addr} {l c : Nat} {xs : List UInt8} {lo lo0 hi : Nat} (h : OB w p l c xs lo0) (h1 : hi ≤ lo0) : Go.Sh.sp lo hi p xs := .inr fun k hk => .inr (Nat.le_trans h1 (h.2.2 k hk))
end
end Go.Sh
end

section
namespace Go.Sh
open Go Go.Fw Go.Proofs
set_option maxRecDepth 100000
set_option linter.unusedVariables false
section
variable {w : World} {K : Value → World → Prop} {p0 p1 p2 p3 : Option Addr} {l0 c0 l1 c1 l2 c2 l3 c3 : Nat} {key nonce text note : List UInt8}
theorem okG_back (hok : okG nonce.length [text, note]) : opE key nonce (slL key nonce text note) note = 0 ∧ opL key nonce (slL key nonce text note) note = text ∧ (slL key nonce text note).length = text.length + 16 := by
  have e : slL key nonce text note = gturnL key nonce text ++ gtagL key nonce (gturnL key nonce text) note := by unfold slL; rw [if_pos hok]
  have el : (slL key nonce text note).length = text.length + 16 := by rw [e, List.length_append, gturnL_len, gtagL_len]
  have et : (slL key nonce text note).take ((slL key nonce text note).length - 16) = gturnL key nonce text := by
    rw [el, Nat.add_sub_cancel, e, ← gturnL_len key nonce text, List.take_left']; rfl
  have ed : (slL key nonce text note).drop ((slL key nonce text note).length - 16) = gtagL key nonce (gturnL key nonce text) note := by
    rw [el, Nat.add_sub_cancel, e, ← gturnL_len key nonce text, List.drop_left']; rfl
  have h0 : opE key nonce (slL key nonce text note) note = 0 := by
    unfold opE
    rw [et, ed, if_pos (by rw [okG_iff, gturnL_len]; exact okG_iff.1 hok), if_neg (by omega), if_pos rfl]
  refine ⟨h0, ?_, el⟩
  unfold opL
  rw [if_pos h0, et]
  unfold gturnL; rw [turnL_twice]
end
end Go.Sh
end
