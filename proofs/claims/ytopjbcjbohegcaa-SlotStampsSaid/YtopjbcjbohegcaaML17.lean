/- A part of a proof of a given law of this program: lemmas, printed forms of its functions, contracts. It has no conditions of its own. -/
import Derived.Test.YtopjbcjbohegcaaMK
import Derived.Test.YtopjbcjbohegcaaML16

section
namespace Go.Sh
open Go Go.Fw Go.Proofs
set_option maxRecDepth 100000
set_option linter.unusedVariables false
def PAt (w : World) (b : Nat) (cs : List Value) : Prop := ∃ f, Blk w b 3 f ∧ ∀ j v, cs[j]? = some v → f j = v
theorem PAt.fr0 {w w' : World} {b : Nat} {cs : List Value} (h : PAt w b cs) (f : Fr [] w w') : PAt w' b cs := by obtain ⟨g, hB, hc⟩ := h; exact ⟨g, hB.fr0 f, hc⟩
section
variable {w : World} {b : Nat} {pt : Int} {q1 q2 : Option Addr} {l1 d1 l2 d2 : Nat}
theorem PAt.ptLd (h : PAt w b (partsL pt q1 l1 d1 q2 l2 d2)) : Ld Try.prog T_int (.pointer (some ((⟨b, 0, none⟩ : Addr).add 0))) w (.int .i64 pt) := by
  obtain ⟨f, hB, hc⟩ := h; exact Ld.blk (by kernel_rfl) hB (by omega) (hc 0 _ rfl)
theorem PAt.sidLd (h : PAt w b (partsL pt q1 l1 d1 q2 l2 d2)) : Ld Try.prog T_S_uint8 (.pointer (some ((⟨b, 0, none⟩ : Addr).add 1))) w (.slice q1 l1 d1) := by
  obtain ⟨f, hB, hc⟩ := h; rw [add_mk]; exact Ld.blk (by kernel_rfl) hB (by omega) (hc 1 _ rfl)
theorem PAt.nonceLd (h : PAt w b (partsL pt q1 l1 d1 q2 l2 d2)) : Ld Try.prog T_S_uint8 (.pointer (some ((⟨b, 0, none⟩ : Addr).add 2))) w (.slice q2 l2 d2) := by
  obtain ⟨f, hB, hc⟩ := h; rw [add_mk]; exact Ld.blk (by kernel_rfl) hB (by omega) (hc 2 _ rfl)
theorem newP {K : Nat → World → Prop} (h : ∀ w', Fr [] w w' → PAt w' w.heap.size (partsL pt q1 l1 d1 q2 l2 d2) → K w.heap.size w') :
    ∃ z, Pu Try.prog (zeroValue T_codec_Parts) z ∧ New z.cells T_codec_Parts w fun k w2 => ∃ w3, Sto Try.prog T_codec_Parts (.pointer (some ⟨k, 0, none⟩)) (.agg #[.int .i64 pt, .slice q1 l1 d1, .slice q2 l2 d2]) w2 w3 ∧ K k w3 := by
  refine newZ (s := 3) (by kernel_rfl) fun w2 g2 f2 hB2 s2 => ?_
  refine stoP hB2 (cs := partsL pt q1 l1 d1 q2 l2 d2) rfl (parts_one _ _ _ _ _ _ _) fun w3 f3 hB3 hLd => ?_
  refine h w3 (f2.st f3 (Nat.le_refl _)) ⟨_, hB3, fun j v hj => ?_⟩
  unfold updN
  obtain ⟨h1, h2⟩ := List.getElem?_eq_some_iff.1 hj
  rw [dif_pos ⟨Nat.zero_le _, by simpa using h1⟩]
  simpa using h2
end
def s17 : List UInt8 := [1, 2, 3]
def n17 : List UInt8 := [4, 5, 6, 7]
def i17 : List UInt8 := [71, 1, 2, 3, 4, 5, 6, 7]
theorem zcfg : (#[.int .i64 0, .int .i64 0, .int .i64 0, .int .u8 0, .int .u8 0, .int .u8 0, .int .u8 0, .int .u8 0, .int .u8 0, .int .u8 0, .int .u8 0, .int .u8 0, .int .u8 0, .int .u8 0, .int .u8 0, .int .u8 0, .int .u8 0, .int .u8 0, .int .u8 0] : Array Value) = ⟨cfgV 0 0 0 z16k⟩ := by kernel_rfl
end Go.Sh
end

section
namespace Go.Sh
open Go Go.Fw Go.Proofs
set_option maxRecDepth 100000
set_option linter.unusedVariables false
instance (m s n : Int) (key : List UInt8) (point : Int) (l2 l3 : Nat) : Decidable (okMk m s n key point l2 l3) := by unfold okMk; infer_instance
instance (point : Int) (k : Nat) : Decidable (okPl point k) := by unfold okPl; infer_instance
section
variable {w : World} {m s n : Int} {key : List UInt8} {K : Value → World → Prop}
instance (m s n : Int) (key id : List UInt8) : Decidable (okBk m s n key id) := by unfold okBk; infer_instance
def bkE (m s n : Int) (key id : List UInt8) : Int := if okBk m s n key id then 0 else if okC m s n key then (if (id.length : Int) = 1 + (s + n) then 10 else 11) else 19
def bkP (m s n : Int) (key id : List UInt8) : Int := if okBk m s n key id then (((fl id 0).toNat / 64 : Nat) : Int) else 0
def bkS (m s n : Int) (key id : List UInt8) : List UInt8 := if okBk m s n key id then (turnC true m key (id.drop 1)).take s.toNat else []
def bkN (m s n : Int) (key id : List UInt8) : List UInt8 := if okBk m s n key id then (turnC true m key (id.drop 1)).drop s.toNat else []
def bkT (m s n : Int) (key id : List UInt8) (q1 : Option Addr) (d1 : Nat) (q2 : Option Addr) (d2 : Nat) : Value := .tuple #[.agg ⟨partsL (bkP m s n key id) q1 (bkS m s n key id).length d1 q2 (bkN m s n key id).length d2⟩, .int .i64 (bkE m s n key id)]
theorem bk_len {id : List UInt8} (hb : okBk m s n key id) : (bkS m s n key id).length = s.toNat ∧ (bkN m s n key id).length = n.toNat := by
  have ho := hb.1
  have h2 := hb.2.1
  have ho' := ho
  unfold okC at ho'
  have ht : ((id.drop 1).length : Int) = s + n := by rw [List.length_drop]; omega
  have hl := turnC_len true ho ht
  have hd : (id.drop 1).length = id.length - 1 := List.length_drop
  unfold bkS bkN
  rw [if_pos hb, if_pos hb, List.length_take, List.length_drop]
  omega
theorem bk_len2 (m s n : Int) (key id : List UInt8) : (bkS m s n key id).length + (bkN m s n key id).length ≤ id.length := by
  by_cases hb : okBk m s n key id
  · have := bk_len hb; have h2 := hb.2.1; have ho := hb.1; unfold okC at ho; omega
  · unfold bkS bkN; rw [if_neg hb, if_neg hb]; simp
end
end Go.Sh
end

section
namespace Go.Sh
open Go Go.Fw Go.Proofs
set_option maxRecDepth 100000
set_option linter.unusedVariables false
theorem PAt.ldP {w : World} {b : Nat} {pt : Int} {q1 q2 : Option Addr} {l1 d1 l2 d2 : Nat} (h : PAt w b (partsL pt q1 l1 d1 q2 l2 d2)) : Ld Try.prog T_codec_Parts (.pointer (some ⟨b, 0, none⟩)) w (.agg #[.int .i64 pt, .slice q1 l1 d1, .slice q2 l2 d2]) := by
  obtain ⟨f, hB, hc⟩ := h
  exact LdA (m := 3) (by kernel_rfl) (by kernel_rfl) hB (o := 0) (by omega) (partsL pt q1 l1 d1 q2 l2 d2) rfl (fun j v hj => by rw [Nat.zero_add]; exact hc j v hj)
section
variable {w : World} {m s n : Int} {key : List UInt8} {K : Value → World → Prop}
end
end Go.Sh
end
