/- A part of a proof of a given law of this program: lemmas, printed forms of its functions, contracts. It has no conditions of its own. -/
import Derived.Test.YtcfealonnakdcaaGreatMC3
import Derived.Test.YtcfealonnakdcaaGreatMS2
import Derived.Test.YtcfealonnakdcaaGreatMC0
import Derived.Test.YtcfealonnakdcaaGreatMC2
import Derived.Test.YtcfealonnakdcaaGreatMS3
import Derived.Test.YtcfealonnakdcaaGreatMC1
import Derived.Test.YtcfealonnakdcaaGreatMW1

section
namespace Go.Sh
open Go Go.Fw Go.Proofs
set_option maxRecDepth 100000
set_option linter.unusedVariables false
theorem turn_back {m s n : Int} {key text : List UInt8} (hok : okC m s n key) (hk : key.length = 16) (hl : (text.length : Int) = s + n) : turnC true m key (turnC false m key text) = text := by
  have ho := hok
  unfold okC at ho
  unfold turnC
  by_cases h0 : m = 0
  · rw [if_pos h0, if_pos h0]
  · by_cases h1 : m = 1
    · rw [if_neg h0, if_pos h1, if_neg h0, if_pos h1]
      simp only [Bool.false_eq_true, if_true, if_false]
      exact adecL_aencL _ _ (by have := ho.2.2.2.2.2.2.2.2 h1; omega)
    · rw [if_neg h0, if_neg h1, if_neg h0, if_neg h1]
      simp only [Bool.false_eq_true, if_true, if_false]
      exact passesL_rev key text [1, 2, 3, 4] (by omega) (by omega)
end Go.Sh
end

section
namespace Go.Sh
open Go Go.Fw Go.Proofs
set_option maxRecDepth 100000
set_option linter.unusedVariables false
theorem Row.old {a w w' : World} {p : Option Addr} {xs : List UInt8} {b : Nat} (h0 : Row a p (xs.map vb)) (h : Row w p (xs.map vb)) (hf : Fr [b] w w') (hb : a.heap.size ≤ b) : Row w' p (xs.map vb) := by
  by_cases hx : xs.length = 0
  · have : xs = [] := List.length_eq_zero_iff.1 hx
    subst this; exact Row.nil _ _
  · exact Row.fr_lt h hf fun hk => by have := Row.blk_lt h0 (by omega) _ hk; omega
end Go.Sh
end

section
namespace Go.Sh
open Go Go.Fw Go.Proofs
set_option maxRecDepth 100000
set_option linter.unusedVariables false
def f06 : List UInt8 := [1, 2, 3, 4, 5, 6, 7, 8, 9, 10, 11, 12, 255, 255, 255, 255]
end Go.Sh
end

section
namespace Go.Sh
open Go Go.Fw Go.Proofs
set_option maxRecDepth 100000
set_option linter.unusedVariables false
theorem _root_.Go.Fw.Fr.at {a b c : World} {k : Nat} (h : Fr [] a b) (f : Fr [k] b c) (hk : a.heap.size ≤ k) : Fr [] a c := h.trans f (fun z hz => .inr (by simp at hz; omega))
section
variable {c lo hi : Nat} {key : List UInt8} {d : Int}
def OR (w : World) (q : Option Addr) (l c : Nat) (xs : List UInt8) (lo : Nat) : Prop := Row w q (xs.map vb) ∧ l = xs.length ∧ l ≤ c ∧ ∀ z ∈ blks q, lo ≤ z
theorem OR.fr {w w' : World} {q : Option Addr} {l c : Nat} {xs : List UInt8} {lo k : Nat} (h : OR w q l c xs lo) (f : Fr [k] w w') (hk : k < lo) : OR w' q l c xs lo := ⟨Row.cells_fr h.1 f (fun z hz => by have := h.2.2.2 z hz; simp; omega), h.2⟩
theorem OR.fr0 {w w' : World} {q : Option Addr} {l c : Nat} {xs : List UInt8} {lo : Nat} (h : OR w q l c xs lo) (f : Fr [] w w') : OR w' q l c xs lo := ⟨Row.cells_fr h.1 f (fun z hz => by simp), h.2⟩
theorem OR.nil (w : World) (lo : Nat) : OR w none 0 0 [] lo := ⟨Row.nil _ _, rfl, Nat.le_refl _, by simp [blks]⟩
theorem OB.or {w : World} {q : Option Addr} {l c : Nat} {xs : List UInt8} {lo : Nat} (h : OB w q l c xs lo) : OR w q l c xs lo := ⟨h.row, h.2.1, h.cap, h.2.2⟩
end
end Go.Sh
end

section
namespace Go.Sh
open Go Go.Fw Go.Proofs
set_option maxRecDepth 100000
set_option linter.unusedVariables false
theorem list_cons {α : Type} {l : List α} {n : Nat} (h : l.length = n + 1) : ∃ a t, l = a :: t ∧ t.length = n := by
  cases l with
  | nil => simp at h
  | cons a t => exact ⟨a, t, rfl, by simpa using h⟩
theorem list16 {l : List UInt8} (h : l.length = 16) : ∃ a b c d e f g i j k m n o p q r, l = [a, b, c, d, e, f, g, i, j, k, m, n, o, p, q, r] := by
  obtain ⟨a, l0, e0, h0⟩ := list_cons h
  obtain ⟨b, l1, e1, h1⟩ := list_cons h0
  obtain ⟨c, l2, e2, h2⟩ := list_cons h1
  obtain ⟨d, l3, e3, h3⟩ := list_cons h2
  obtain ⟨e, l4, e4, h4⟩ := list_cons h3
  obtain ⟨f, l5, e5, h5⟩ := list_cons h4
  obtain ⟨g, l6, e6, h6⟩ := list_cons h5
  obtain ⟨i, l7, e7, h7⟩ := list_cons h6
  obtain ⟨j, l8, e8, h8⟩ := list_cons h7
  obtain ⟨k, l9, e9, h9⟩ := list_cons h8
  obtain ⟨m, l10, e10, h10⟩ := list_cons h9
  obtain ⟨n, l11, e11, h11⟩ := list_cons h10
  obtain ⟨o, l12, e12, h12⟩ := list_cons h11
  obtain ⟨p, l13, e13, h13⟩ := list_cons h12
  obtain ⟨q, l14, e14, h14⟩ := list_cons h13
  obtain ⟨r, l15, e15, h15⟩ := list_cons h14
  have e16 : l15 = [] := List.length_eq_zero_iff.1 h15
  exact ⟨a, b, c, d, e, f, g, i, j, k, m, n, o, p, q, r, by rw [e0, e1, e2, e3, e4, e5, e6, e7, e8, e9, e10, e11, e12, e13, e14, e15, e16]⟩
section
variable {w : World} {b : Nat} {m s n : Int} {key text : List UInt8} {K : Value → World → Prop}
end
section
variable {w : World} {K : Value → World → Prop}
end
end Go.Sh
end

section
namespace Go.Sh
open Go Go.Fw Go.Proofs
set_option maxRecDepth 100000
set_option linter.unusedVariables false
def headB (point n : Nat) : UInt8 := UInt8.ofNat (64 * point + n)
theorem head_val {p n : Nat} (hp : p < 4) (hn : n < 64) : IntKind.u8.wrap (ior .i64 (IntKind.i64.wrap ((p : Int) * 2 ^ 6)) (n : Int)) = ((headB p n).toNat : Int) := by
  have : ∀ p : Nat, p < 4 → ∀ n : Nat, n < 64 → IntKind.u8.wrap (ior .i64 (IntKind.i64.wrap ((p : Int) * 2 ^ 6)) (n : Int)) = ((headB p n).toNat : Int) := by decide +kernel
  exact this p hp n hn
section
variable {w : World} {m s n : Int} {key text : List UInt8} {K : Value → World → Prop}
theorem Point_c {x : UInt8} (h : K (.int .i64 ((x.toNat / 64 : Nat) : Int)) w) : callF Tryz.prog F_codec_Point #[.int .u8 (x.toNat : Int)] w K := by
  apply codec_Point_call
  unfold codec_Point
  have := x.toNat_lt
  have e : IntKind.i64.wrap (Int.fdiv (x.toNat : Int) (2 ^ 6)) = ((x.toNat / 64 : Nat) : Int) := by
    rw [Int.fdiv_eq_ediv_of_nonneg _ (by decide), wrap64 (by omega) (by omega)]; omega
  rw [e]; exact h
theorem Told_c {x : UInt8} (h : K (.int .i64 ((x.toNat % 64 + 1 : Nat) : Int)) w) : callF Tryz.prog F_codec_Told #[.int .u8 (x.toNat : Int)] w K := by
  apply codec_Told_call
  unfold codec_Told
  have := x.toNat_lt
  have e : IntKind.i64.wrap (IntKind.i64.wrap (iand .u8 (x.toNat : Int) 63) + 1) = ((x.toNat % 64 + 1 : Nat) : Int) := by
    have h1 := all8 (p := fun x => iand .u8 (x.toNat : Int) 63 == ((x.toNat % 64 : Nat) : Int)) (by kernel_rfl) x
    rw [beq_iff_eq] at h1
    rw [h1, wrap64 (n := ((x.toNat % 64 : Nat) : Int)) (by omega) (by omega), wrap64 (by omega) (by omega)]; omega
  rw [e]; exact h
theorem headB_point {p n : Nat} (hp : p < 4) (hn : n < 64) : (headB p n).toNat / 64 = p := by unfold headB; simp; omega
theorem headB_told {p n : Nat} (hp : p < 4) (hn : n < 64) : (headB p n).toNat % 64 = n := by unfold headB; simp; omega
theorem id_c {p : Option Addr} {l c : Nat} {point : Nat} {rest : List UInt8} (hp : point < 4) (hx : Row w p (rest.map vb)) (hl : l = rest.length) (hc : l ≤ c) (hn : l < 64)
    (h : ∀ q d w', Fr [] w w' → OB w' q (l + 1) d (headB point l :: rest) w.heap.size → K (.slice q (l + 1) d) w') : callF Tryz.prog F_codec_id #[.int .i64 (point : Int), .slice p l c] w K := by
  apply codec_id_call
  unfold codec_id
  rw [head_val hp hn]
  refine mk1 (x := headB point l) fun p1 w1 f1 h1 s1 => ?_
  refine ⟨_, _, _, Ef.new (v := .slice (some ⟨w1.heap.size, 0, none⟩) 2 2) (cs := ([.slice p1 1 1, .slice p l c] : List Value).toArray) (e := T_S_uint8) (by kernel_rfl) fun w2 f2 hB2 s2 => ?_⟩
  have hR2 := RowB.of2 hB2.rowL ((h1.fr0 f2).byS) (byS ((hx.fr0 f1).fr0 f2) hl hc)
  have efl : [[headB point l], rest].flatten = headB point l :: rest := by simp
  have hbl : (headB point l :: rest).length = l + 1 := by simp [hl]
  refine Join_c (l := 2) hR2 rfl (by rw [efl, hbl]; omega) (by omega) fun q d w3 f3 hO3 => ⟨_, _, _, rfl, ?_⟩
  rw [efl, hbl] at hO3
  rw [efl, hbl]
  have n02 := (f1.then f2).size
  exact h q d w3 ((f1.then f2).then f3) (hO3.mono n02)
def okPl (point : Int) (n : Nat) : Prop := 0 ≤ point ∧ point ≤ 3 ∧ n ≤ 19
def okMk (m s n : Int) (key : List UInt8) (point : Int) (l2 l3 : Nat) : Prop := 0 ≤ point ∧ point ≤ 2 ∧ (l2 : Int) = s ∧ (l3 : Int) = n
theorem Make_c {p2 p3 : Option Addr} {l2 c2 l3 c3 : Nat} {point : Int} {sid nonce : List UInt8} (hk : key.length = 16) (h2 : Row w p2 (sid.map vb)) (hl2 : l2 = sid.length) (hc2 : l2 ≤ c2) (h3 : Row w p3 (nonce.map vb)) (hl3 : l3 = nonce.length) (hc3 : l3 ≤ c3)
    (hstate : ¬ okC m s n key → ∀ w', Fr [] w w' → K (.tuple #[.slice none 0 0, .int .i64 19]) w') (hrange : okC m s n key → ¬ okMk m s n key point l2 l3 → ∀ w', Fr [] w w' → K (.tuple #[.slice none 0 0, .int .i64 11]) w')
    (hok : okC m s n key → okMk m s n key point l2 l3 → ∀ q d w', Fr [] w w' → OB w' q (l2 + l3 + 1) d (headB point.toNat (l2 + l3) :: turnC false m key (sid ++ nonce)) w.heap.size → K (.tuple #[.slice q (l2 + l3 + 1) d, .int .i64 0]) w') :
    callF Tryz.prog F_codec_Make #[.agg ⟨cfgV m s n key⟩, .int .i64 point, .slice p2 l2 c2, .slice p3 l3 c3] w K := by
  apply codec_Make_call
  unfold codec_Make
  refine newCfg hk fun w1 f1 hC s1 => ⟨_, hC.ld hk, Right_c hk fun w2 f2 => ⟨_, rfl, ?_⟩⟩
  have f02 := f1.then f2
  have hC2 := hC.fr0 f2
  by_cases ho : okC m s n key
  · rw [decide_eq_true ho]
    have no : ∀ hb : ¬ okMk m s n key point l2 l3, K (.tuple #[.slice none 0 0, .int .i64 11]) w2 := fun hb => hrange ho hb w2 f02
    refine cond_f (cond_d (fun h => no fun hh => by unfold okMk at hh; omega) fun g1 => cond_d (fun h => no fun hh => by unfold okMk at hh; omega) fun g2 => ⟨_, hC2.sid, cond_ne (fun h => no fun hh => by unfold okMk at hh; omega) fun g3 => ⟨_, hC2.nonce, cond_ne (fun h => no fun hh => by unfold okMk at hh; omega) fun g4 => ?_⟩⟩)
    have hmk : okMk m s n key point l2 l3 := ⟨by omega, by omega, g3, g4⟩
    obtain ⟨pt, rfl⟩ := Int.eq_ofNat_of_zero_le (show 0 ≤ point by omega)
    have ho' := ho
    unfold okC at ho'
    unfold codec_Make_j1
    refine ⟨fun w' => Fr [] w2 w', Drw.intro fun w3 f3 s3 => ?_⟩
    refine ⟨_, ⟨f3, fun w' hw' => (hC2.fr0 hw').ld hk⟩, ?_⟩
    refine ⟨_, _, _, Ef.new (v := .slice (some ⟨w3.heap.size, 0, none⟩) 2 2) (cs := ([.slice p2 l2 c2, .slice p3 l3 c3] : List Value).toArray) (e := T_S_uint8) (by kernel_rfl) fun w4 f4 hB4 s4 => ?_⟩
    have f24 := f3.then f4
    refine ⟨.inr f24, ?_⟩
    have f04 := f02.then f24
    have hR4 := RowB.of2 hB4.rowL (byS (h2.fr0 f04) hl2 hc2) (byS (h3.fr0 f04) hl3 hc3)
    have efl : [sid, nonce].flatten = sid ++ nonce := by simp
    have hbl : (sid ++ nonce).length = l2 + l3 := by rw [List.length_append, ← hl2, ← hl3]
    refine Join_c (l := 2) hR4 rfl (by rw [efl, hbl]; omega) (by omega) fun q d w5 f5 hO5 => ⟨_, _, _, rfl, .inr (f24.then f5), ?_⟩
    rw [efl, hbl] at hO5
    rw [efl, hbl]
    have f05 := f04.then f5
    refine Turn_cfg_c hk hO5.row hO5.2.1 hO5.cap (by omega) (fun hn => absurd ho hn) (fun _ hn => absurd (by omega) hn) fun _ _ q6 d6 w6 f6 hO6 => ⟨_, _, _, _, rfl, cond_f ?_⟩
    have f06 := f05.then f6
    refine id_c (by omega) hO6.row hO6.2.1 hO6.cap (by omega) fun q7 d7 w7 f7 hO7 => ⟨_, _, _, rfl, ?_⟩
    exact hok ho hmk q7 d7 w7 (f06.then f7) (hO7.mono f06.size)
  · rw [decide_eq_false ho]
    exact cond_t (hstate ho w2 f02)
end
end Go.Sh
end

section
namespace Go.Sh
open Go Go.Fw Go.Proofs
set_option maxRecDepth 100000
set_option linter.unusedVariables false
abbrev partsL (pt : Int) (q1 : Option Addr) (l1 d1 : Nat) (q2 : Option Addr) (l2 d2 : Nat) : List Value := [.int .i64 pt, .slice q1 l1 d1, .slice q2 l2 d2]
section
variable {w : World} {m s n : Int} {key text : List UInt8} {K : Value → World → Prop}
theorem stoP {b : Nat} {f : Nat → Value} (hB : Blk w b 3 f) {cs : List Value} (hm : cs.length = 3) (hv : ∀ v ∈ cs, v.oneCell' = true) {K : World → Prop}
    (h : ∀ w', Fr [b] w w' → Blk w' b 3 (updN f 0 cs) → Ld Tryz.prog T_codec_Parts (.pointer (some ⟨b, 0, none⟩)) w' (.agg ⟨cs⟩) → K w') : ∃ w', Sto Tryz.prog T_codec_Parts (.pointer (some ⟨b, 0, none⟩)) (.agg ⟨cs⟩) w w' ∧ K w' := by
  refine Sto.agg (m := 3) (by kernel_rfl) hm hB (Nat.le_refl 3) hv fun w' hf hB' hs => h w' hf hB' ?_
  refine LdA (m := 3) (by kernel_rfl) (by kernel_rfl) hB' (o := 0) (by omega) cs hm (fun j v hj => ?_)
  rw [Nat.zero_add]
  unfold updN
  obtain ⟨h1, h2⟩ := List.getElem?_eq_some_iff.1 hj
  rw [dif_pos ⟨Nat.zero_le _, by simpa using h1⟩]
  simpa using h2
theorem parts_one (pt : Int) (q1 : Option Addr) (l1 d1 : Nat) (q2 : Option Addr) (l2 d2 : Nat) : ∀ v ∈ partsL pt q1 l1 d1 q2 l2 d2, v.oneCell' = true := by
  intro v hv
  simp only [partsL, List.mem_cons, List.not_mem_nil, or_false] at hv
  rcases hv with rfl | rfl | rfl <;> rfl
def okBk (m s n : Int) (key id : List UInt8) : Prop := okC m s n key ∧ (id.length : Int) = 1 + (s + n) ∧ (fl id 0).toNat % 64 + 1 = id.length
set_option maxHeartbeats 4000000 in
theorem codecBack_c {p1 : Option Addr} {l1 c1 : Nat} {id : List UInt8} (hk : key.length = 16) (h1 : Row w p1 (id.map vb)) (hl1 : l1 = id.length) (hc1 : l1 ≤ c1) (hlb : l1 < 1000000)
    (hbad : ¬ okBk m s n key id → ∀ er w', Fr [] w w' → er = (if okC m s n key then (if (id.length : Int) = 1 + (s + n) then 10 else 11) else 19) → K (.tuple #[.agg ⟨partsL 0 none 0 0 none 0 0⟩, .int .i64 er]) w')
    (hok : okBk m s n key id → ∀ q1 d1 q2 d2 w', Fr [] w w' → OB w' q1 s.toNat d1 ((turnC true m key (id.drop 1)).take s.toNat) w.heap.size → OB w' q2 n.toNat d2 ((turnC true m key (id.drop 1)).drop s.toNat) w.heap.size →
      K (.tuple #[.agg ⟨partsL (((fl id 0).toNat / 64 : Nat) : Int) q1 s.toNat d1 q2 n.toNat d2⟩, .int .i64 0]) w') :
    callF Tryz.prog F_codec_Back #[.agg ⟨cfgV m s n key⟩, .slice p1 l1 c1] w K := by
  apply codec_Back_call
  unfold codec_Back
  refine newCfg hk fun w1 f1 hC s1 => ?_
  refine newZ (s := 3) (by kernel_rfl) fun w2 g2 f2 hB2 s2 => ?_
  obtain ⟨kb, hkb⟩ : ∃ kb, kb = w1.heap.size := ⟨_, rfl⟩
  rw [← hkb] at hB2 ⊢
  have f02 := f1.then f2
  have n1 := f1.size
  have hltb := hB2.lt
  have hC2 := hC.fr0 f2
  have hCl := hC.lt
  refine ⟨_, hC2.ld hk, Right_c hk fun w3 f3 => ⟨_, rfl, ?_⟩⟩
  have hB3 := hB2.fr0 f3
  have hC3 := hC2.fr0 f3
  have f03 := f02.then f3
  have z3 : ∀ v ∈ partsL 0 none 0 0 none 0 0, v.oneCell' = true := parts_one _ _ _ _ _ _ _
  by_cases ho : okC m s n key
  · rw [decide_eq_true ho]
    refine cond_f ⟨_, hC3.ld hk, cfgSize_c hk fun w4 f4 => ⟨_, rfl, ?_⟩⟩
    rw [if_pos ho]
    have f04 := f03.then f4
    have hB4 := hB3.fr0 f4
    have hC4 := hC3.fr0 f4
    refine cond_ne (fun hne => ?_) (fun hlen => ?_)
    · refine stoP hB4 (cs := partsL 0 none 0 0 none 0 0) rfl z3 fun w5 f5 hB5 hLd => ⟨_, _, rfl, hLd, ?_⟩
      exact hbad (fun hh => hne (by have := hh.2.1; omega)) 11 w5 (f04.st f5 (by omega)) (by rw [if_pos ho, if_neg (by omega)])
    · have ho' := ho
      unfold okC at ho'
      have hlid : (id.length : Int) = 1 + (s + n) := by omega
      obtain ⟨a, ha, hca⟩ := row_get (t := T_S_uint8) (by kernel_rfl) (h1.fr0 f04) (c := c1) hl1 (i := 0) (by omega) (k := .i64)
      refine ⟨a, ha, _, Ld.cell (by kernel_rfl) hca, Told_c ⟨_, rfl, ?_⟩⟩
      refine cond_ne (fun hne => ?_) (fun htold => ?_)
      · refine stoP hB4 (cs := partsL 0 none 0 0 none 0 0) rfl z3 fun w5 f5 hB5 hLd => ⟨_, _, rfl, hLd, ?_⟩
        refine hbad (fun hh => hne ?_) 10 w5 (f04.st f5 (by omega)) (by rw [if_pos ho, if_pos hlid])
        have := hh.2.2
        show (((fl id 0).toNat % 64 + 1 : Nat) : Int) = _
        omega
      · have hbk : okBk m s n key id := ⟨ho, hlid, by have h' : (((fl id 0).toNat % 64 + 1 : Nat) : Int) = _ := htold; omega⟩
        unfold codec_Back_j2
        refine Drw.intro fun w5 f5 s5 => ?_
        have f05 := f04.then f5
        refine slFrom (h1.fr0 f05) hl1 (n := 1) (by omega) hc1 fun qt dt ht htl htd htb => ?_
        refine ⟨_, (hC4.fr0 f5).ld hk, ?_⟩
        obtain ⟨T, hT⟩ : ∃ T, T = turnC true m key (id.drop 1) := ⟨_, rfl⟩
        refine Back_cfg_c hk ht htl htd (by omega) (fun hn => absurd ho hn) (fun _ hn => absurd (by omega) hn) fun _ hl' q6 d6 w6 f6 hO6 => ⟨_, _, _, _, rfl, cond_f ?_⟩
        rw [← hT] at hO6 hok
        have f06 := f05.then f6
        refine ⟨fun w' => Fr [] w6 w', Drw.intro fun w7 f7 s7 => ?_⟩
        have g46 := f5.then f6
        have hC6 := hC4.fr0 g46
        have h17 := h1.fr0 (f06.then f7)
        obtain ⟨a', ha', hca'⟩ := row_get (t := T_S_uint8) (by kernel_rfl) (h1.fr0 f06) (c := c1) hl1 (i := 0) (by omega) (k := .i64)
        refine ⟨a', ha', _, ⟨f7, fun w' hw' => Ld.cell (by kernel_rfl) (Fr.cell hw' hca' (by simp))⟩, _, ⟨f7, fun w' hw' => (hC6.fr0 hw').sid⟩, ?_⟩
        obtain ⟨s', rfl⟩ := Int.eq_ofNat_of_zero_le (show 0 ≤ s by omega)
        obtain ⟨n', rfl⟩ := Int.eq_ofNat_of_zero_le (show 0 ≤ n by omega)
        rw [Int.toNat_natCast, Int.toNat_natCast] at hok
        have hTl : l1 - 1 = s' + n' := by omega
        have hcap6 := hO6.cap
        refine slTo (hO6.row.fr0 f7) hO6.2.1 (n := s') (by omega) hcap6 fun qa da hqa hla hda hba => ?_
        refine ⟨_, ⟨f7, fun w' hw' => (hC6.fr0 hw').sid⟩, ?_⟩
        refine slFrom (hO6.row.fr0 f7) hO6.2.1 (n := s') (by omega) hcap6 fun qb db hqb hlb' hdb hbb => ?_
        have enb : l1 - 1 - s' = n' := by omega
        rw [enb] at hlb' hdb ⊢
        have n06 := f06.size
        -- the parts
        have mkA : ∀ (w8 : World), Fr [] w7 w8 → ∀ {K' : Option Addr → Nat → Nat → World → Prop}, (∀ p w', Fr [] w8 w' → RowB w' p [T.take s'] → K' p 1 1 w') → ∃ p l c w', Ef Tryz.prog (Instr.buildSlice T_S_S_uint8 1 #[(0, .slice qa s' da)]) w8 (.slice p l c) w' ∧ K' p l c w' := fun w8 f8 K' h' => rowB1 (byS (hqa.fr0 f8) hla hda) (by kernel_rfl) fun p w' f hR _ => h' p w' f hR
        have mkB : ∀ (w8 : World), Fr [] w7 w8 → ∀ {K' : Option Addr → Nat → Nat → World → Prop}, (∀ p w', Fr [] w8 w' → RowB w' p [T.drop s'] → K' p 1 1 w') → ∃ p l c w', Ef Tryz.prog (Instr.buildSlice T_S_S_uint8 1 #[(0, .slice qb n' db)]) w8 (.slice p l c) w' ∧ K' p l c w' := fun w8 f8 K' h' => rowB1 (byS (hqb.fr0 f8) hlb' hdb) (by kernel_rfl) fun p w' f hR _ => h' p w' f hR
        have joA : ∀ (w8 : World) (p : Option Addr), RowB w8 p [T.take s'] → ∀ {K' : Value → World → Prop}, (∀ q d w', Fr [] w8 w' → OB w' q s' d (T.take s') w8.heap.size → K' (.slice q s' d) w') → callF Tryz.prog F_octet_Join #[.slice p 1 1] w8 K' := by
          intro w8 p hR K' h'
          have efl : [T.take s'].flatten = T.take s' := by simp
          refine Join_c (l := 1) hR rfl (by rw [efl]; omega) (by omega) fun q d w' f hO => ?_
          rw [efl, ← hla] at hO
          rw [efl, ← hla]
          exact h' q d w' f hO
        have joB : ∀ (w8 : World) (p : Option Addr), RowB w8 p [T.drop s'] → ∀ {K' : Value → World → Prop}, (∀ q d w', Fr [] w8 w' → OB w' q n' d (T.drop s') w8.heap.size → K' (.slice q n' d) w') → callF Tryz.prog F_octet_Join #[.slice p 1 1] w8 K' := by
          intro w8 p hR K' h'
          have efl : [T.drop s'].flatten = T.drop s' := by simp
          refine Join_c (l := 1) hR rfl (by rw [efl]; omega) (by omega) fun q d w' f hO => ?_
          rw [efl, ← hlb'] at hO
          rw [efl, ← hlb']
          exact h' q d w' f hO
        have fin : ∀ (w8 : World) (q1 : Option Addr) (d1 : Nat) (q2 : Option Addr) (d2 : Nat), Fr [] w7 w8 → OB w8 q1 s' d1 (T.take s') w7.heap.size → OB w8 q2 n' d2 (T.drop s') w7.heap.size →
            ∃ w10, Sto Tryz.prog T_codec_Parts (.pointer (some ⟨kb, 0, none⟩)) (.agg #[.int .i64 (((fl id 0).toNat / 64 : Nat) : Int), .slice q1 s' d1, .slice q2 n' d2]) w8 w10 ∧ codec_Back_j1 ⟨kb, 0, none⟩ 0 w10 K := by
          intro w8 q1 d1 q2 d2 f8 hO1 hO2
          have n7 := f7.size
          have g28 := ((((f3.then f4).then g46).then f7).then f8)
          have hlt2 := hB2.lt
          have n27 := (((f3.then f4).then g46).then f7).size
          refine stoP (hB2.fr0 g28) (cs := partsL (((fl id 0).toNat / 64 : Nat) : Int) q1 s' d1 q2 n' d2) rfl (parts_one _ _ _ _ _ _ _) fun w10 f10 hB10 hLd => ?_
          unfold codec_Back_j1
          refine ⟨_, _, rfl, hLd, ?_⟩
          exact hok hbk q1 d1 q2 d2 w10 ((f02.then g28).st f10 (by omega)) ((hO1.fr_sep f10 (by omega)).mono (by omega)) ((hO2.fr_sep f10 (by omega)).mono (by omega))
        -- both rows stand: they are joined
        have tAB : ∀ (w8 : World), Fr [] w7 w8 → ∀ (pA pB : Option Addr), RowB w8 pA [T.take s'] → RowB w8 pB [T.drop s'] →
            callF Tryz.prog F_octet_Join #[.slice pA 1 1] w8 fun r w9 => ∃ (p : Option Addr) (l c : Nat), r = .slice p l c ∧ (w9 = w8 ∨ Fr [] w6 w9) ∧
              callF Tryz.prog F_octet_Join #[.slice pB 1 1] w9 fun r' w10 => ∃ (p' : Option Addr) (l' c' : Nat), r' = .slice p' l' c' ∧
                ∃ w11, Sto Tryz.prog T_codec_Parts (.pointer (some ⟨kb, 0, none⟩)) (.agg #[.int .i64 (((fl id 0).toNat / 64 : Nat) : Int), .slice p l c, .slice p' l' c']) w10 w11 ∧ codec_Back_j1 ⟨kb, 0, none⟩ 0 w11 K := by
          intro w8 f8 pA pB hA hB
          refine joA w8 pA hA fun q1 d1 w9 f9 hO1 => ⟨_, _, _, rfl, .inr ((f7.then f8).then f9), ?_⟩
          refine joB w9 pB (hB.fr0 f9) fun q2 d2 w10 f10 hO2 => ⟨_, _, _, rfl, ?_⟩
          have m8 := f8.size; have m9 := f9.size
          exact fin w10 q1 d1 q2 d2 ((f8.then f9).then f10) ((hO1.fr0 f10).mono m8) (hO2.mono (by omega))
        have tA_B : ∀ (w8 : World), Fr [] w7 w8 → ∀ (pA : Option Addr), RowB w8 pA [T.take s'] →
            callF Tryz.prog F_octet_Join #[.slice pA 1 1] w8 fun r w9 => ∃ (p : Option Addr) (l c : Nat), r = .slice p l c ∧ (w9 = w8 ∨ Fr [] w6 w9) ∧
              ∃ (pb : Option Addr) (lb cb : Nat) (wb : World), Ef Tryz.prog (Instr.buildSlice T_S_S_uint8 1 #[(0, .slice qb n' db)]) w9 (.slice pb lb cb) wb ∧ (wb = w9 ∨ Fr [] w6 wb) ∧
              callF Tryz.prog F_octet_Join #[.slice pb lb cb] wb fun r' w10 => ∃ (p' : Option Addr) (l' c' : Nat), r' = .slice p' l' c' ∧
                ∃ w11, Sto Tryz.prog T_codec_Parts (.pointer (some ⟨kb, 0, none⟩)) (.agg #[.int .i64 (((fl id 0).toNat / 64 : Nat) : Int), .slice p l c, .slice p' l' c']) w10 w11 ∧ codec_Back_j1 ⟨kb, 0, none⟩ 0 w11 K := by
          intro w8 f8 pA hA
          refine joA w8 pA hA fun q1 d1 w9 f9 hO1 => ⟨_, _, _, rfl, .inr ((f7.then f8).then f9), ?_⟩
          refine mkB w9 (f8.then f9) fun pB w10 f10 hB => ⟨.inr (((f7.then f8).then f9).then f10), ?_⟩
          refine joB w10 pB hB fun q2 d2 w11 f11 hO2 => ⟨_, _, _, rfl, ?_⟩
          have m8 := f8.size; have m9 := f9.size; have m10 := f10.size
          exact fin w11 q1 d1 q2 d2 (((f8.then f9).then f10).then f11) (((hO1.fr0 f10).fr0 f11).mono m8) (hO2.mono (by omega))
        refine ⟨Point_c ⟨_, rfl, .inl rfl, ⟨?_, ?_⟩⟩, ⟨?_, ?_⟩⟩
        · exact mkA w7 (Fr.refl _ _) fun pA w8 f8 hA => ⟨.inr (f7.then f8), tA_B w8 f8 pA hA, mkB w8 f8 fun pB w9 f9 hB => ⟨.inr ((f7.then f8).then f9), tAB w9 (f8.then f9) pA pB (hA.fr0 f9) hB⟩⟩
        · exact mkB w7 (Fr.refl _ _) fun pB w8 f8 hB => ⟨.inr (f7.then f8), mkA w8 f8 fun pA w9 f9 hA => ⟨.inr ((f7.then f8).then f9), tAB w9 (f8.then f9) pA pB hA (hB.fr0 f9)⟩⟩
        · exact mkA w7 (Fr.refl _ _) fun pA w8 f8 hA => ⟨.inr (f7.then f8),
            Point_c ⟨_, rfl, .inl rfl, tA_B w8 f8 pA hA, mkB w8 f8 fun pB w9 f9 hB => ⟨.inr ((f7.then f8).then f9), tAB w9 (f8.then f9) pA pB (hA.fr0 f9) hB⟩⟩,
            mkB w8 f8 fun pB w9 f9 hB => ⟨.inr ((f7.then f8).then f9), Point_c ⟨_, rfl, .inl rfl, tAB w9 (f8.then f9) pA pB (hA.fr0 f9) hB⟩⟩⟩
        · exact mkB w7 (Fr.refl _ _) fun pB w8 f8 hB => ⟨.inr (f7.then f8),
            Point_c ⟨_, rfl, .inl rfl, mkA w8 f8 fun pA w9 f9 hA => ⟨.inr ((f7.then f8).then f9), tAB w9 (f8.then f9) pA pB hA (hB.fr0 f9)⟩⟩,
            mkA w8 f8 fun pA w9 f9 hA => ⟨.inr ((f7.then f8).then f9), Point_c ⟨_, rfl, .inl rfl, tAB w9 (f8.then f9) pA pB hA (hB.fr0 f9)⟩⟩⟩
  · rw [decide_eq_false ho]
    refine cond_t (stoP hB3 (cs := partsL 0 none 0 0 none 0 0) rfl z3 fun w5 f5 hB5 hLd => ⟨_, _, rfl, hLd, ?_⟩)
    exact hbad (fun hh => ho hh.1) 19 w5 (f03.st f5 (by omega)) (by rw [if_neg ho])
end
end Go.Sh
end

section
namespace Go.Sh
open Go Go.Fw Go.Proofs
set_option maxRecDepth 100000
set_option linter.unusedVariables false
def PAt (w : World) (b : Nat) (cs : List Value) : Prop := ∃ f, Blk w b 3 f ∧ ∀ j v, cs[j]? = some v → f j = v
theorem PAt.fr0 {w w' : World} {b : Nat} {cs : List Value} (h : PAt w b cs) (f : Fr [] w w') : PAt w' b cs := by obtain ⟨g, hB, hc⟩ := h; exact ⟨g, hB.fr0 f, hc⟩
section
variable {w : World} {b : Nat} {pt : Int} {q1 q2 : Option Addr} {l1 d1 l2 d2 : Nat}
theorem PAt.nonceLd (h : PAt w b (partsL pt q1 l1 d1 q2 l2 d2)) : Ld Tryz.prog T_S_uint8 (.pointer (some ((⟨b, 0, none⟩ : Addr).add 2))) w (.slice q2 l2 d2) := by
  obtain ⟨f, hB, hc⟩ := h; rw [add_mk]; exact Ld.blk (by kernel_rfl) hB (by omega) (hc 2 _ rfl)
theorem newP {K : Nat → World → Prop} (h : ∀ w', Fr [] w w' → PAt w' w.heap.size (partsL pt q1 l1 d1 q2 l2 d2) → K w.heap.size w') :
    ∃ z, Pu Tryz.prog (zeroValue T_codec_Parts) z ∧ New z.cells T_codec_Parts w fun k w2 => ∃ w3, Sto Tryz.prog T_codec_Parts (.pointer (some ⟨k, 0, none⟩)) (.agg #[.int .i64 pt, .slice q1 l1 d1, .slice q2 l2 d2]) w2 w3 ∧ K k w3 := by
  refine newZ (s := 3) (by kernel_rfl) fun w2 g2 f2 hB2 s2 => ?_
  refine stoP hB2 (cs := partsL pt q1 l1 d1 q2 l2 d2) rfl (parts_one _ _ _ _ _ _ _) fun w3 f3 hB3 hLd => ?_
  refine h w3 (f2.st f3 (Nat.le_refl _)) ⟨_, hB3, fun j v hj => ?_⟩
  unfold updN
  obtain ⟨h1, h2⟩ := List.getElem?_eq_some_iff.1 hj
  rw [dif_pos ⟨Nat.zero_le _, by simpa using h1⟩]
  simpa using h2
end
def n17 : List UInt8 := [4, 5, 6, 7]
theorem zcfg : (#[.int .i64 0, .int .i64 0, .int .i64 0, .int .u8 0, .int .u8 0, .int .u8 0, .int .u8 0, .int .u8 0, .int .u8 0, .int .u8 0, .int .u8 0, .int .u8 0, .int .u8 0, .int .u8 0, .int .u8 0, .int .u8 0, .int .u8 0, .int .u8 0, .int .u8 0] : Array Value) = ⟨cfgV 0 0 0 z16k⟩ := by kernel_rfl
end Go.Sh
end

section
namespace Go.Sh
open Go Go.Fw Go.Proofs
set_option maxRecDepth 100000
set_option linter.unusedVariables false
instance (m s n : Int) (key : List UInt8) (point : Int) (l2 l3 : Nat) : Decidable (okMk m s n key point l2 l3) := by unfold okMk; infer_instance
instance (point : Int) (k : Nat) : Decidable (okPl point k) := by unfold okPl; infer_instance
def mkOut (m s n : Int) (key : List UInt8) (point : Int) (sid nonce : List UInt8) : List UInt8 :=
  if okC m s n key ∧ okMk m s n key point sid.length nonce.length then headB point.toNat (sid.length + nonce.length) :: turnC false m key (sid ++ nonce) else []
def mkE (m s n : Int) (key : List UInt8) (point : Int) (sid nonce : List UInt8) : Int :=
  if okC m s n key then (if okMk m s n key point sid.length nonce.length then 0 else 11) else 19
section
variable {w : World} {m s n : Int} {key : List UInt8} {K : Value → World → Prop}
theorem makeAny_c {p2 p3 : Option Addr} {l2 c2 l3 c3 : Nat} {point : Int} {sid nonce : List UInt8} (hk : key.length = 16) (h2 : Row w p2 (sid.map vb)) (hl2 : l2 = sid.length) (hc2 : l2 ≤ c2) (h3 : Row w p3 (nonce.map vb)) (hl3 : l3 = nonce.length) (hc3 : l3 ≤ c3)
    (h : ∀ q d w', Fr [] w w' → OB w' q (mkOut m s n key point sid nonce).length d (mkOut m s n key point sid nonce) w.heap.size → K (.tuple #[.slice q (mkOut m s n key point sid nonce).length d, .int .i64 (mkE m s n key point sid nonce)]) w') :
    callF Tryz.prog F_codec_Make #[.agg ⟨cfgV m s n key⟩, .int .i64 point, .slice p2 l2 c2, .slice p3 l3 c3] w K := by
  subst hl2; subst hl3
  refine Make_c hk h2 rfl hc2 h3 rfl hc3 (fun hn w' f => ?_) (fun ho hn w' f => ?_) (fun ho hm q d w' f hO => ?_)
  · have e1 : mkOut m s n key point sid nonce = [] := by unfold mkOut; rw [if_neg (fun hh => hn hh.1)]
    have e2 : mkE m s n key point sid nonce = 19 := by unfold mkE; rw [if_neg hn]
    rw [e1, e2] at h
    exact h none 0 w' f (OB.nil _ _)
  · have e1 : mkOut m s n key point sid nonce = [] := by unfold mkOut; rw [if_neg (fun hh => hn hh.2)]
    have e2 : mkE m s n key point sid nonce = 11 := by unfold mkE; rw [if_pos ho, if_neg hn]
    rw [e1, e2] at h
    exact h none 0 w' f (OB.nil _ _)
  · have e1 : mkOut m s n key point sid nonce = headB point.toNat (sid.length + nonce.length) :: turnC false m key (sid ++ nonce) := by unfold mkOut; rw [if_pos ⟨ho, hm⟩]
    have e2 : mkE m s n key point sid nonce = 0 := by unfold mkE; rw [if_pos ho, if_pos hm]
    rw [e1, e2] at h
    have hl := hO.2.1
    have := h q d w' f (by rw [← hl]; exact hO)
    rwa [← hl] at this
instance (m s n : Int) (key id : List UInt8) : Decidable (okBk m s n key id) := by unfold okBk; infer_instance
def bkE (m s n : Int) (key id : List UInt8) : Int := if okBk m s n key id then 0 else if okC m s n key then (if (id.length : Int) = 1 + (s + n) then 10 else 11) else 19
def bkP (m s n : Int) (key id : List UInt8) : Int := if okBk m s n key id then (((fl id 0).toNat / 64 : Nat) : Int) else 0
def bkS (m s n : Int) (key id : List UInt8) : List UInt8 := if okBk m s n key id then (turnC true m key (id.drop 1)).take s.toNat else []
def bkN (m s n : Int) (key id : List UInt8) : List UInt8 := if okBk m s n key id then (turnC true m key (id.drop 1)).drop s.toNat else []
def bkT (m s n : Int) (key id : List UInt8) (q1 : Option Addr) (d1 : Nat) (q2 : Option Addr) (d2 : Nat) : Value := .tuple #[.agg ⟨partsL (bkP m s n key id) q1 (bkS m s n key id).length d1 q2 (bkN m s n key id).length d2⟩, .int .i64 (bkE m s n key id)]
theorem bk_len {id : List UInt8} (hb : okBk m s n key id) : (bkS m s n key id).length = s.toNat ∧ (bkN m s n key id).length = n.toNat := by
  have ho := hb.1
  have h2 := hb.2.1
  have ho' := ho
  unfold okC at ho'
  have ht : ((id.drop 1).length : Int) = s + n := by rw [List.length_drop]; omega
  have hl := turnC_len true ho ht
  have hd : (id.drop 1).length = id.length - 1 := List.length_drop
  unfold bkS bkN
  rw [if_pos hb, if_pos hb, List.length_take, List.length_drop]
  omega
theorem bk_len2 (m s n : Int) (key id : List UInt8) : (bkS m s n key id).length + (bkN m s n key id).length ≤ id.length := by
  by_cases hb : okBk m s n key id
  · have := bk_len hb; have h2 := hb.2.1; have ho := hb.1; unfold okC at ho; omega
  · unfold bkS bkN; rw [if_neg hb, if_neg hb]; simp
theorem backAll_c {p1 : Option Addr} {l1 c1 : Nat} {id : List UInt8} (hk : key.length = 16) (h1 : Row w p1 (id.map vb)) (hl1 : l1 = id.length) (hc1 : l1 ≤ c1) (hlb : l1 < 1000000)
    (h : ∀ q1 d1 q2 d2 w', Fr [] w w' → Row w' q1 ((bkS m s n key id).map vb) → (bkS m s n key id).length ≤ d1 → Row w' q2 ((bkN m s n key id).map vb) → (bkN m s n key id).length ≤ d2 → K (bkT m s n key id q1 d1 q2 d2) w') :
    callF Tryz.prog F_codec_Back #[.agg ⟨cfgV m s n key⟩, .slice p1 l1 c1] w K := by
  refine codecBack_c hk h1 hl1 hc1 hlb (fun hb er w' f he => ?_) (fun hb q1 d1 q2 d2 w' f hO1 hO2 => ?_)
  · unfold bkT bkP bkS bkN bkE at h
    rw [if_neg hb, if_neg hb, if_neg hb, if_neg hb, ← he] at h
    exact h none 0 none 0 w' f (Row.nil _ _) (Nat.le_refl _) (Row.nil _ _) (Nat.le_refl _)
  · obtain ⟨e1, e2⟩ := bk_len hb
    have g1 : bkS m s n key id = (turnC true m key (id.drop 1)).take s.toNat := by unfold bkS; rw [if_pos hb]
    have g2 : bkN m s n key id = (turnC true m key (id.drop 1)).drop s.toNat := by unfold bkN; rw [if_pos hb]
    rw [← g1] at hO1
    rw [← g2] at hO2
    have hd1 := hO1.cap
    have hd2 := hO2.cap
    have := h q1 d1 q2 d2 w' f hO1.row (by omega) hO2.row (by omega)
    unfold bkT at this
    rw [e1, e2] at this
    unfold bkP bkE at this
    rw [if_pos hb, if_pos hb] at this
    exact this
end
end Go.Sh
end

section
namespace Go.Sh
open Go Go.Fw Go.Proofs
set_option maxRecDepth 100000
set_option linter.unusedVariables false
structure SL where
  m : Int
  s : Int
  n : Int
  key : List UInt8
  st : Nat
def SL.v (x : SL) : List Value := slotV x.m x.s x.n x.key (x.st : Int)
def SL.c (x : SL) : List Value := cfgV x.m x.s x.n x.key
def sl0 : SL := ⟨0, 0, 0, z16k, 0⟩
def setS (sl : Nat → SL) (i : Nat) (x : SL) : Nat → SL := fun k => if k = i then x else sl k
def SL.ok (x : SL) (t : Nat) : Prop := x.key.length = 16 ∧ x.st ≤ t ∧ (x.st = 0 → x = sl0) ∧ (x.st ≠ 0 → okC x.m x.s x.n x.key)
def SlAt (w : World) (b : Nat) (sl : Nat → SL) (t : Nat) : Prop := ∃ f, Blk w b 61 f ∧ (∀ i, i < 3 → ∀ j v, (sl i).v[j]? = some v → f (i * 20 + j) = v) ∧ f 60 = .int .i64 (t : Int) ∧ ∀ i, i < 3 → (sl i).ok t
theorem SL.ok.v_len {x : SL} {t : Nat} (h : x.ok t) : x.v.length = 20 := by unfold SL.v slotV; rw [List.length_append, cfgV_len, h.1]; rfl
theorem SL.v_one (x : SL) : ∀ v ∈ x.v, v.oneCell' = true := by
  intro v hv
  rcases List.mem_append.1 hv with hv | hv
  · exact cfgV_one _ _ _ _ v hv
  · simp at hv; subst hv; rfl
section
variable {w : World} {b t : Nat} {sl : Nat → SL} {K : Value → World → Prop}
theorem SlAt.fr {w' : World} {L : List Nat} (h : SlAt w b sl t) (hf : Fr L w w') (hn : b ∉ L) : SlAt w' b sl t := by obtain ⟨f, hB, r⟩ := h; exact ⟨f, hB.fr hf hn, r⟩
theorem SlAt.fr0 {w' : World} (h : SlAt w b sl t) (hf : Fr [] w w') : SlAt w' b sl t := h.fr hf (by simp)
theorem SlAt.lt (h : SlAt w b sl t) : b < w.heap.size := by obtain ⟨f, hB, _⟩ := h; exact hB.lt
theorem SlAt.ok (h : SlAt w b sl t) {i : Nat} (hi : i < 3) : (sl i).ok t := by obtain ⟨f, hB, h1, h2, h3⟩ := h; exact h3 i hi
theorem SlAt.ld (h : SlAt w b sl t) {i : Nat} (hi : i < 3) : Ld Tryz.prog T_slot_slot (.pointer (some ⟨b, i * 20, none⟩)) w (.agg ⟨(sl i).v⟩) := by
  obtain ⟨f, hB, h1, h2, h3⟩ := h
  exact LdA (m := 20) (by kernel_rfl) (by kernel_rfl) hB (by omega) _ (h3 i hi).v_len fun j v hj => h1 i hi j v hj
theorem SlAt.sto (h : SlAt w b sl t) {i : Nat} (hi : i < 3) {x : SL} (hx : x.ok t) {K : World → Prop} (hk : ∀ w', Fr [b] w w' → SlAt w' b (setS sl i x) t → w'.heap.size = w.heap.size → K w') : ∃ w', Sto Tryz.prog T_slot_slot (.pointer (some ⟨b, i * 20, none⟩)) (.agg ⟨x.v⟩) w w' ∧ K w' := by
  obtain ⟨f, hB, h1, h2, h3⟩ := h
  have hl := hx.v_len
  refine Sto.agg (m := 20) (cs := x.v) (by kernel_rfl) hl hB (by omega) x.v_one fun w' hf hB' hs => hk w' hf ⟨_, hB', fun k hk j v hj => ?_, ?_, fun k hk => ?_⟩ hs
  · unfold setS at hj
    by_cases hki : k = i
    · rw [if_pos hki] at hj
      have hlt := (List.getElem?_eq_some_iff.1 hj).1
      unfold updN
      rw [dif_pos ⟨by omega, by omega⟩]
      obtain ⟨h4, h5⟩ := List.getElem?_eq_some_iff.1 hj
      have e : k * 20 + j - i * 20 = j := by omega
      simp only [e]; exact h5
    · rw [if_neg hki] at hj
      have hlt := (List.getElem?_eq_some_iff.1 hj).1
      rw [(h3 k hk).v_len] at hlt
      unfold updN
      rw [dif_neg (by omega)]
      exact h1 k hk j v hj
  · unfold updN
    rw [dif_neg (by omega)]; exact h2
  · unfold setS
    by_cases hki : k = i
    · rw [if_pos hki]; exact hx
    · rw [if_neg hki]; exact h3 k hk
def occ (sl : Nat → SL) (n : Int) : Prop := (0 ≤ n ∧ n < 3) ∧ (sl n.toNat).st ≠ 0
instance (sl : Nat → SL) (n : Int) : Decidable (occ sl n) := by unfold occ; infer_instance
end
end Go.Sh
end

section
namespace Go.Sh
open Go Go.Fw Go.Proofs
set_option maxRecDepth 100000
set_option linter.unusedVariables false
structure PR where
  e : Int
  p : Int
  a : List UInt8
  b : List UInt8
def PR.bad (e : Int) : PR := ⟨e, 0, [], []⟩
def SL.size (x : SL) : Nat := (1 + (x.s + x.n)).toNat
section
variable {w : World} {b t : Nat} {sl : Nat → SL} {K : Value → World → Prop}
theorem backO_c {m s n : Int} {key : List UInt8} {p1 : Option Addr} {l1 c1 : Nat} {id : List UInt8} (hk : key.length = 16) (h1 : Row w p1 (id.map vb)) (hl1 : l1 = id.length) (hc1 : l1 ≤ c1) (hlb : l1 < 1000000)
    (h : ∀ q1 d1 q2 d2 w', Fr [] w w' → OB w' q1 (bkS m s n key id).length d1 (bkS m s n key id) w.heap.size → OB w' q2 (bkN m s n key id).length d2 (bkN m s n key id) w.heap.size → K (bkT m s n key id q1 d1 q2 d2) w') :
    callF Tryz.prog F_codec_Back #[.agg ⟨cfgV m s n key⟩, .slice p1 l1 c1] w K := by
  refine codecBack_c hk h1 hl1 hc1 hlb (fun hb er w' f he => ?_) (fun hb q1 d1 q2 d2 w' f hO1 hO2 => ?_)
  · unfold bkT bkP bkS bkN bkE at h
    rw [if_neg hb, if_neg hb, if_neg hb, if_neg hb, ← he] at h
    exact h none 0 none 0 w' f (OB.nil _ _) (OB.nil _ _)
  · obtain ⟨e1, e2⟩ := bk_len hb
    have g1 : bkS m s n key id = (turnC true m key (id.drop 1)).take s.toNat := by unfold bkS; rw [if_pos hb]
    have g2 : bkN m s n key id = (turnC true m key (id.drop 1)).drop s.toNat := by unfold bkN; rw [if_pos hb]
    rw [← g1] at hO1
    rw [← g2] at hO2
    have := h q1 d1 q2 d2 w' f (by rw [e1]; exact hO1) (by rw [e2]; exact hO2)
    unfold bkT at this
    rw [e1, e2] at this
    unfold bkP bkE at this
    rw [if_pos hb, if_pos hb] at this
    exact this
end
end Go.Sh
end
