/- A part of a proof of a given law of this program: lemmas, printed forms of its functions, contracts. It has no conditions of its own. -/
import Derived.Test.YtopjbcjbohegcaaGreatMK
import Derived.Test.YtopjbcjbohegcaaGreatML16
import Derived.Test.YtopjbcjbohegcaaGreatMSh5

section
namespace Go.Sh
open Go Go.Fw Go.Proofs
set_option maxRecDepth 100000
set_option linter.unusedVariables false
def PAt (w : World) (b : Nat) (cs : List Value) : Prop := ∃ f, Blk w b 3 f ∧ ∀ j v, cs[j]? = some v → f j = v
theorem PAt.fr0 {w w' : World} {b : Nat} {cs : List Value} (h : PAt w b cs) (f : Fr [] w w') : PAt w' b cs := by obtain ⟨g, hB, hc⟩ := h; exact ⟨g, hB.fr0 f, hc⟩
section
variable {w : World} {b : Nat} {pt : Int} {q1 q2 : Option Addr} {l1 d1 l2 d2 : Nat}
theorem PAt.ptLd (h : PAt w b (partsL pt q1 l1 d1 q2 l2 d2)) : Ld Tryz.prog T_int (.pointer (some ((⟨b, 0, none⟩ : Addr).add 0))) w (.int .i64 pt) := by
  obtain ⟨f, hB, hc⟩ := h; exact Ld.blk (by kernel_rfl) hB (by omega) (hc 0 _ rfl)
theorem PAt.sidLd (h : PAt w b (partsL pt q1 l1 d1 q2 l2 d2)) : Ld Tryz.prog T_S_uint8 (.pointer (some ((⟨b, 0, none⟩ : Addr).add 1))) w (.slice q1 l1 d1) := by
  obtain ⟨f, hB, hc⟩ := h; rw [add_mk]; exact Ld.blk (by kernel_rfl) hB (by omega) (hc 1 _ rfl)
theorem PAt.nonceLd (h : PAt w b (partsL pt q1 l1 d1 q2 l2 d2)) : Ld Tryz.prog T_S_uint8 (.pointer (some ((⟨b, 0, none⟩ : Addr).add 2))) w (.slice q2 l2 d2) := by
  obtain ⟨f, hB, hc⟩ := h; rw [add_mk]; exact Ld.blk (by kernel_rfl) hB (by omega) (hc 2 _ rfl)
theorem newP {K : Nat → World → Prop} (h : ∀ w', Fr [] w w' → PAt w' w.heap.size (partsL pt q1 l1 d1 q2 l2 d2) → K w.heap.size w') :
    ∃ z, Pu Tryz.prog (zeroValue T_codec_Parts) z ∧ New z.cells T_codec_Parts w fun k w2 => ∃ w3, Sto Tryz.prog T_codec_Parts (.pointer (some ⟨k, 0, none⟩)) (.agg #[.int .i64 pt, .slice q1 l1 d1, .slice q2 l2 d2]) w2 w3 ∧ K k w3 := by
  refine newZ (s := 3) (by kernel_rfl) fun w2 g2 f2 hB2 s2 => ?_
  refine stoP hB2 (cs := partsL pt q1 l1 d1 q2 l2 d2) rfl (parts_one _ _ _ _ _ _ _) fun w3 f3 hB3 hLd => ?_
  refine h w3 (f2.st f3 (Nat.le_refl _)) ⟨_, hB3, fun j v hj => ?_⟩
  unfold updN
  obtain ⟨h1, h2⟩ := List.getElem?_eq_some_iff.1 hj
  rw [dif_pos ⟨Nat.zero_le _, by simpa using h1⟩]
  simpa using h2
end
def s17 : List UInt8 := [1, 2, 3]
def n17 : List UInt8 := [4, 5, 6, 7]
def i17 : List UInt8 := [71, 1, 2, 3, 4, 5, 6, 7]
theorem zcfg : (#[.int .i64 0, .int .i64 0, .int .i64 0, .int .u8 0, .int .u8 0, .int .u8 0, .int .u8 0, .int .u8 0, .int .u8 0, .int .u8 0, .int .u8 0, .int .u8 0, .int .u8 0, .int .u8 0, .int .u8 0, .int .u8 0, .int .u8 0, .int .u8 0, .int .u8 0] : Array Value) = ⟨cfgV 0 0 0 z16k⟩ := by kernel_rfl
end Go.Sh
end

section
namespace Go.Sh
open Go Go.Fw Go.Proofs
set_option maxRecDepth 100000
set_option linter.unusedVariables false
instance (m s n : Int) (key : List UInt8) (point : Int) (l2 l3 : Nat) : Decidable (okMk m s n key point l2 l3) := by unfold okMk; infer_instance
instance (point : Int) (k : Nat) : Decidable (okPl point k) := by unfold okPl; infer_instance
def mkOut (m s n : Int) (key : List UInt8) (point : Int) (sid nonce : List UInt8) : List UInt8 :=
  if okC m s n key ∧ okMk m s n key point sid.length nonce.length then headB point.toNat (sid.length + nonce.length) :: turnC false m key (sid ++ nonce) else []
def mkE (m s n : Int) (key : List UInt8) (point : Int) (sid nonce : List UInt8) : Int :=
  if okC m s n key then (if okMk m s n key point sid.length nonce.length then 0 else 11) else 19
section
variable {w : World} {m s n : Int} {key : List UInt8} {K : Value → World → Prop}
theorem makeAny_c {p2 p3 : Option Addr} {l2 c2 l3 c3 : Nat} {point : Int} {sid nonce : List UInt8} (hk : key.length = 16) (h2 : Row w p2 (sid.map vb)) (hl2 : l2 = sid.length) (hc2 : l2 ≤ c2) (h3 : Row w p3 (nonce.map vb)) (hl3 : l3 = nonce.length) (hc3 : l3 ≤ c3)
    (h : ∀ q d w', Fr [] w w' → OB w' q (mkOut m s n key point sid nonce).length d (mkOut m s n key point sid nonce) w.heap.size → K (.tuple #[.slice q (mkOut m s n key point sid nonce).length d, .int .i64 (mkE m s n key point sid nonce)]) w') :
    callF Tryz.prog F_codec_Make #[.agg ⟨cfgV m s n key⟩, .int .i64 point, .slice p2 l2 c2, .slice p3 l3 c3] w K := by
  subst hl2; subst hl3
  refine Make_c hk h2 rfl hc2 h3 rfl hc3 (fun hn w' f => ?_) (fun ho hn w' f => ?_) (fun ho hm q d w' f hO => ?_)
  · have e1 : mkOut m s n key point sid nonce = [] := by unfold mkOut; rw [if_neg (fun hh => hn hh.1)]
    have e2 : mkE m s n key point sid nonce = 19 := by unfold mkE; rw [if_neg hn]
    rw [e1, e2] at h
    exact h none 0 w' f (OB.nil _ _)
  · have e1 : mkOut m s n key point sid nonce = [] := by unfold mkOut; rw [if_neg (fun hh => hn hh.2)]
    have e2 : mkE m s n key point sid nonce = 11 := by unfold mkE; rw [if_pos ho, if_neg hn]
    rw [e1, e2] at h
    exact h none 0 w' f (OB.nil _ _)
  · have e1 : mkOut m s n key point sid nonce = headB point.toNat (sid.length + nonce.length) :: turnC false m key (sid ++ nonce) := by unfold mkOut; rw [if_pos ⟨ho, hm⟩]
    have e2 : mkE m s n key point sid nonce = 0 := by unfold mkE; rw [if_pos ho, if_pos hm]
    rw [e1, e2] at h
    have hl := hO.2.1
    have := h q d w' f (by rw [← hl]; exact hO)
    rwa [← hl] at this
theorem refPoint_c {x : UInt8} (h : K (.int .i64 ((x.toNat / 64 : Nat) : Int)) w) : callF Tryz.prog F_ref17_Point #[.int .u8 (x.toNat : Int)] w K := by
  apply ref17_Point_call
  unfold ref17_Point
  have := x.toNat_lt
  have e : IntKind.i64.wrap (Int.tdiv (IntKind.i64.wrap (x.toNat : Int)) 64) = ((x.toNat / 64 : Nat) : Int) := by
    rw [wrap64 (n := (x.toNat : Int)) (by omega) (by omega), Int.tdiv_eq_ediv_of_nonneg (by omega), wrap64 (by omega) (by omega)]; omega
  rw [e]; exact h
theorem refTold_c {x : UInt8} (h : K (.int .i64 ((x.toNat % 64 + 1 : Nat) : Int)) w) : callF Tryz.prog F_ref17_Told #[.int .u8 (x.toNat : Int)] w K := by
  apply ref17_Told_call
  unfold ref17_Told
  have := x.toNat_lt
  have e : IntKind.i64.wrap (Int.tmod (IntKind.i64.wrap (x.toNat : Int)) 64 + 1) = ((x.toNat % 64 + 1 : Nat) : Int) := by
    rw [wrap64 (n := (x.toNat : Int)) (by omega) (by omega), Int.tmod_eq_emod_of_nonneg (by omega), wrap64 (by omega) (by omega)]; omega
  rw [e]; exact h
instance (m s n : Int) (key id : List UInt8) : Decidable (okBk m s n key id) := by unfold okBk; infer_instance
def bkE (m s n : Int) (key id : List UInt8) : Int := if okBk m s n key id then 0 else if okC m s n key then (if (id.length : Int) = 1 + (s + n) then 10 else 11) else 19
def bkP (m s n : Int) (key id : List UInt8) : Int := if okBk m s n key id then (((fl id 0).toNat / 64 : Nat) : Int) else 0
def bkS (m s n : Int) (key id : List UInt8) : List UInt8 := if okBk m s n key id then (turnC true m key (id.drop 1)).take s.toNat else []
def bkN (m s n : Int) (key id : List UInt8) : List UInt8 := if okBk m s n key id then (turnC true m key (id.drop 1)).drop s.toNat else []
def bkT (m s n : Int) (key id : List UInt8) (q1 : Option Addr) (d1 : Nat) (q2 : Option Addr) (d2 : Nat) : Value := .tuple #[.agg ⟨partsL (bkP m s n key id) q1 (bkS m s n key id).length d1 q2 (bkN m s n key id).length d2⟩, .int .i64 (bkE m s n key id)]
theorem bk_len {id : List UInt8} (hb : okBk m s n key id) : (bkS m s n key id).length = s.toNat ∧ (bkN m s n key id).length = n.toNat := by
  have ho := hb.1
  have h2 := hb.2.1
  have ho' := ho
  unfold okC at ho'
  have ht : ((id.drop 1).length : Int) = s + n := by rw [List.length_drop]; omega
  have hl := turnC_len true ho ht
  have hd : (id.drop 1).length = id.length - 1 := List.length_drop
  unfold bkS bkN
  rw [if_pos hb, if_pos hb, List.length_take, List.length_drop]
  omega
theorem bk_len2 (m s n : Int) (key id : List UInt8) : (bkS m s n key id).length + (bkN m s n key id).length ≤ id.length := by
  by_cases hb : okBk m s n key id
  · have := bk_len hb; have h2 := hb.2.1; have ho := hb.1; unfold okC at ho; omega
  · unfold bkS bkN; rw [if_neg hb, if_neg hb]; simp
theorem stoPR {b : Nat} {f : Nat → Value} (hB : Blk w b 3 f) {cs : List Value} (hm : cs.length = 3) (hv : ∀ v ∈ cs, v.oneCell' = true) {K : World → Prop}
    (h : ∀ w', Fr [b] w w' → PAt w' b cs → Ld Tryz.prog T_ref17_Parts (.pointer (some ⟨b, 0, none⟩)) w' (.agg ⟨cs⟩) → K w') : ∃ w', Sto Tryz.prog T_ref17_Parts (.pointer (some ⟨b, 0, none⟩)) (.agg ⟨cs⟩) w w' ∧ K w' := by
  refine Sto.agg (m := 3) (by kernel_rfl) hm hB (Nat.le_refl 3) hv fun w' hf hB' hs => ?_
  have key : ∀ j v, cs[j]? = some v → updN f 0 cs j = v := by
    intro j v hj
    unfold updN
    obtain ⟨h1, h2⟩ := List.getElem?_eq_some_iff.1 hj
    rw [dif_pos ⟨Nat.zero_le _, by simpa using h1⟩]
    simpa using h2
  refine h w' hf ⟨_, hB', key⟩ ?_
  exact LdA (m := 3) (by kernel_rfl) (by kernel_rfl) hB' (o := 0) (by omega) cs hm (fun j v hj => by rw [Nat.zero_add]; exact key j v hj)
end
end Go.Sh
end

section
namespace Go.Sh
open Go Go.Fw Go.Proofs
set_option maxRecDepth 100000
set_option linter.unusedVariables false
theorem PAt.ldP {w : World} {b : Nat} {pt : Int} {q1 q2 : Option Addr} {l1 d1 l2 d2 : Nat} (h : PAt w b (partsL pt q1 l1 d1 q2 l2 d2)) : Ld Tryz.prog T_codec_Parts (.pointer (some ⟨b, 0, none⟩)) w (.agg #[.int .i64 pt, .slice q1 l1 d1, .slice q2 l2 d2]) := by
  obtain ⟨f, hB, hc⟩ := h
  exact LdA (m := 3) (by kernel_rfl) (by kernel_rfl) hB (o := 0) (by omega) (partsL pt q1 l1 d1 q2 l2 d2) rfl (fun j v hj => by rw [Nat.zero_add]; exact hc j v hj)
section
variable {w : World} {m s n : Int} {key : List UInt8} {K : Value → World → Prop}
theorem newPA {t : TypeId} {pt : Int} {q1 q2 : Option Addr} {l1 d1 l2 d2 : Nat} {K : Nat → World → Prop} (h : ∀ w', Fr [] w w' → PAt w' w.heap.size (partsL pt q1 l1 d1 q2 l2 d2) → K w.heap.size w') : New #[.int .i64 pt, .slice q1 l1 d1, .slice q2 l2 d2] t w K := by
  refine New.intro fun w1 f1 hB s1 => h w1 f1 ⟨fun i => (#[.int .i64 pt, .slice q1 l1 d1, .slice q2 l2 d2] : Array Value).getD i undef, hB, fun j v hj => ?_⟩
  show Array.getD ⟨partsL pt q1 l1 d1 q2 l2 d2⟩ j undef = v
  rw [Array.getD_eq_getD_getElem?]
  have : (⟨partsL pt q1 l1 d1 q2 l2 d2⟩ : Array Value)[j]? = some v := by simpa using hj
  rw [this]; rfl
theorem Same17_c {pa pb : Int} {p0 p1 q0 q1 : Option Addr} {l0 l1 m0 m1 c0 c1 d0 d1 : Nat} {A B A' B' : List UInt8} (hA : Row w p0 (A.map vb)) (hl0 : l0 = A.length) (hB : Row w p1 (B.map vb)) (hl1 : l1 = B.length) (hA' : Row w q0 (A'.map vb)) (hm0 : m0 = A'.length) (hB' : Row w q1 (B'.map vb)) (hm1 : m1 = B'.length)
    (hb1 : l0 < 1000000) (hb2 : l1 < 1000000) (h : ∀ w', Fr [] w w' → K (.bool (decide (pa = pb ∧ A = A' ∧ B = B'))) w') :
    callF Tryz.prog F_law17_Same #[.agg #[.int .i64 pa, .slice p0 l0 c0, .slice p1 l1 c1], .agg #[.int .i64 pb, .slice q0 m0 d0, .slice q1 m1 d1]] w K := by
  apply law17_Same_call
  unfold law17_Same
  refine newPA fun w1 f1 hP1 => newPA fun w2 f2 hP2 => ?_
  have f02 := f1.then f2
  have hP12 := hP1.fr0 f2
  refine ⟨_, hP12.ptLd, _, hP2.ptLd, cond_eq (fun e => ?_) (fun e => ?_)⟩
  · refine ⟨_, _, _, hP12.sidLd, _, _, _, hP2.sidLd, SameBytes_c (hA.fr0 f02) hl0 (hA'.fr0 f02) hm0 (by omega) fun w3 f3 => ⟨_, rfl, ?_⟩⟩
    have f03 := f02.then f3
    refine cond_d (fun e1 => ?_) (fun e1 => ?_)
    · refine ⟨_, _, _, (hP12.fr0 f3).nonceLd, _, _, _, (hP2.fr0 f3).nonceLd, SameBytes_c (hB.fr0 f03) hl1 (hB'.fr0 f03) hm1 (by omega) fun w4 f4 => ⟨_, rfl, ?_⟩⟩
      have := h w4 (f03.then f4)
      have e2 : decide (pa = pb ∧ A = A' ∧ B = B') = decide (B = B') := by rw [decide_eq_decide]; exact ⟨fun hh => hh.2.2, fun hh => ⟨e, e1, hh⟩⟩
      rwa [e2] at this
    · have := h w3 f03
      rwa [decide_eq_false (fun hh => e1 hh.2.1)] at this
  · have := h w2 f02
    rwa [decide_eq_false (fun hh => e hh.1)] at this
end
end Go.Sh
end
