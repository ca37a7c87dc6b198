/- A part of a proof of a given law of this program: lemmas, printed forms of its functions, contracts. It has no conditions of its own. -/
import Derived.Test.YtcfealonnakdcaaGreatMC3
import Derived.Test.YtcfealonnakdcaaGreatMS2
import Derived.Test.YtcfealonnakdcaaGreatMC0
import Derived.Test.YtcfealonnakdcaaGreatMC2
import Derived.Test.YtcfealonnakdcaaGreatMS3
import Derived.Test.YtcfealonnakdcaaGreatMC1
import Derived.Test.YtcfealonnakdcaaGreatMW1

section
namespace Go.Sh
open Go Go.Fw Go.Proofs
set_option maxRecDepth 100000
set_option linter.unusedVariables false
theorem turn_back {m s n : Int} {key text : List UInt8} (hok : okC m s n key) (hk : key.length = 16) (hl : (text.length : Int) = s + n) : turnC true m key (turnC false m key text) = text := by
  have ho := hok
  unfold okC at ho
  unfold turnC
  by_cases h0 : m = 0
  · rw [if_pos h0, if_pos h0]
  · by_cases h1 : m = 1
    · rw [if_neg h0, if_pos h1, if_neg h0, if_pos h1]
      simp only [Bool.false_eq_true, if_true, if_false]
      exact adecL_aencL _ _ (by have := ho.2.2.2.2.2.2.2.2 h1; omega)
    · rw [if_neg h0, if_neg h1, if_neg h0, if_neg h1]
      simp only [Bool.false_eq_true, if_true, if_false]
      exact passesL_rev key text [1, 2, 3, 4] (by omega) (by omega)
end Go.Sh
end

section
namespace Go.Sh
open Go Go.Fw Go.Proofs
set_option maxRecDepth 100000
set_option linter.unusedVariables false
theorem Row.old {a w w' : World} {p : Option Addr} {xs : List UInt8} {b : Nat} (h0 : Row a p (xs.map vb)) (h : Row w p (xs.map vb)) (hf : Fr [b] w w') (hb : a.heap.size ≤ b) : Row w' p (xs.map vb) := by
  by_cases hx : xs.length = 0
  · have : xs = [] := List.length_eq_zero_iff.1 hx
    subst this; exact Row.nil _ _
  · exact Row.fr_lt h hf fun hk => by have := Row.blk_lt h0 (by omega) _ hk; omega
end Go.Sh
end

section
namespace Go.Sh
open Go Go.Fw Go.Proofs
set_option maxRecDepth 100000
set_option linter.unusedVariables false
def f06 : List UInt8 := [1, 2, 3, 4, 5, 6, 7, 8, 9, 10, 11, 12, 255, 255, 255, 255]
end Go.Sh
end

section
namespace Go.Sh
open Go Go.Fw Go.Proofs
set_option maxRecDepth 100000
set_option linter.unusedVariables false
theorem _root_.Go.Fw.Fr.at {a b c : World} {k : Nat} (h : Fr [] a b) (f : Fr [k] b c) (hk : a.heap.size ≤ k) : Fr [] a c := h.trans f (fun z hz => .inr (by simp at hz; omega))
section
variable {c lo hi : Nat} {key : List UInt8} {d : Int}
def OR (w : World) (q : Option Addr) (l c : Nat) (xs : List UInt8) (lo : Nat) : Prop := Row w q (xs.map vb) ∧ l = xs.length ∧ l ≤ c ∧ ∀ z ∈ blks q, lo ≤ z
theorem OR.fr {w w' : World} {q : Option Addr} {l c : Nat} {xs : List UInt8} {lo k : Nat} (h : OR w q l c xs lo) (f : Fr [k] w w') (hk : k < lo) : OR w' q l c xs lo := ⟨Row.cells_fr h.1 f (fun z hz => by have := h.2.2.2 z hz; simp; omega), h.2⟩
theorem OR.fr0 {w w' : World} {q : Option Addr} {l c : Nat} {xs : List UInt8} {lo : Nat} (h : OR w q l c xs lo) (f : Fr [] w w') : OR w' q l c xs lo := ⟨Row.cells_fr h.1 f (fun z hz => by simp), h.2⟩
theorem OR.nil (w : World) (lo : Nat) : OR w none 0 0 [] lo := ⟨Row.nil _ _, rfl, Nat.le_refl _, by simp [blks]⟩
theorem OB.or {w : World} {q : Option Addr} {l c : Nat} {xs : List UInt8} {lo : Nat} (h : OB w q l c xs lo) : OR w q l c xs lo := ⟨h.row, h.2.1, h.cap, h.2.2⟩
end
end Go.Sh
end

section
namespace Go.Sh
open Go Go.Fw Go.Proofs
set_option maxRecDepth 100000
set_option linter.unusedVariables false
theorem list_cons {α : Type} {l : List α} {n : Nat} (h : l.length = n + 1) : ∃ a t, l = a :: t ∧ t.length = n := by
  cases l with
  | nil => simp at h
  | cons a t => exact ⟨a, t, rfl, by simpa using h⟩
theorem list16 {l : List UInt8} (h : l.length = 16) : ∃ a b c d e f g i j k m n o p q r, l = [a, b, c, d, e, f, g, i, j, k, m, n, o, p, q, r] := by
  obtain ⟨a, l0, e0, h0⟩ := list_cons h
  obtain ⟨b, l1, e1, h1⟩ := list_cons h0
  obtain ⟨c, l2, e2, h2⟩ := list_cons h1
  obtain ⟨d, l3, e3, h3⟩ := list_cons h2
  obtain ⟨e, l4, e4, h4⟩ := list_cons h3
  obtain ⟨f, l5, e5, h5⟩ := list_cons h4
  obtain ⟨g, l6, e6, h6⟩ := list_cons h5
  obtain ⟨i, l7, e7, h7⟩ := list_cons h6
  obtain ⟨j, l8, e8, h8⟩ := list_cons h7
  obtain ⟨k, l9, e9, h9⟩ := list_cons h8
  obtain ⟨m, l10, e10, h10⟩ := list_cons h9
  obtain ⟨n, l11, e11, h11⟩ := list_cons h10
  obtain ⟨o, l12, e12, h12⟩ := list_cons h11
  obtain ⟨p, l13, e13, h13⟩ := list_cons h12
  obtain ⟨q, l14, e14, h14⟩ := list_cons h13
  obtain ⟨r, l15, e15, h15⟩ := list_cons h14
  have e16 : l15 = [] := List.length_eq_zero_iff.1 h15
  exact ⟨a, b, c, d, e, f, g, i, j, k, m, n, o, p, q, r, by rw [e0, e1, e2, e3, e4, e5, e6, e7, e8, e9, e10, e11, e12, e13, e14, e15, e16]⟩
section
variable {w : World} {b : Nat} {m s n : Int} {key text : List UInt8} {K : Value → World → Prop}
end
section
variable {w : World} {K : Value → World → Prop}
end
end Go.Sh
end

section
namespace Go.Sh
open Go Go.Fw Go.Proofs
set_option maxRecDepth 100000
set_option linter.unusedVariables false
def headB (point n : Nat) : UInt8 := UInt8.ofNat (64 * point + n)
theorem head_val {p n : Nat} (hp : p < 4) (hn : n < 64) : IntKind.u8.wrap (ior .i64 (IntKind.i64.wrap ((p : Int) * 2 ^ 6)) (n : Int)) = ((headB p n).toNat : Int) := by
  have : ∀ p : Nat, p < 4 → ∀ n : Nat, n < 64 → IntKind.u8.wrap (ior .i64 (IntKind.i64.wrap ((p : Int) * 2 ^ 6)) (n : Int)) = ((headB p n).toNat : Int) := by decide +kernel
  exact this p hp n hn
section
variable {w : World} {m s n : Int} {key text : List UInt8} {K : Value → World → Prop}
theorem Point_c {x : UInt8} (h : K (.int .i64 ((x.toNat / 64 : Nat) : Int)) w) : callF Tryz.prog F_codec_Point #[.int .u8 (x.toNat : Int)] w K := by
  apply codec_Point_call
  unfold codec_Point
  have := x.toNat_lt
  have e : IntKind.i64.wrap (Int.fdiv (x.toNat : Int) (2 ^ 6)) = ((x.toNat / 64 : Nat) : Int) := by
    rw [Int.fdiv_eq_ediv_of_nonneg _ (by decide), wrap64 (by omega) (by omega)]; omega
  rw [e]; exact h
theorem Told_c {x : UInt8} (h : K (.int .i64 ((x.toNat % 64 + 1 : Nat) : Int)) w) : callF Tryz.prog F_codec_Told #[.int .u8 (x.toNat : Int)] w K := by
  apply codec_Told_call
  unfold codec_Told
  have := x.toNat_lt
  have e : IntKind.i64.wrap (IntKind.i64.wrap (iand .u8 (x.toNat : Int) 63) + 1) = ((x.toNat % 64 + 1 : Nat) : Int) := by
    have h1 := all8 (p := fun x => iand .u8 (x.toNat : Int) 63 == ((x.toNat % 64 : Nat) : Int)) (by kernel_rfl) x
    rw [beq_iff_eq] at h1
    rw [h1, wrap64 (n := ((x.toNat % 64 : Nat) : Int)) (by omega) (by omega), wrap64 (by omega) (by omega)]; omega
  rw [e]; exact h
theorem headB_point {p n : Nat} (hp : p < 4) (hn : n < 64) : (headB p n).toNat / 64 = p := by unfold headB; simp; omega
theorem headB_told {p n : Nat} (hp : p < 4) (hn : n < 64) : (headB p n).toNat % 64 = n := by unfold headB; simp; omega
theorem id_c {p : Option Addr} {l c : Nat} {point : Nat} {rest : List UInt8} (hp : point < 4) (hx : Row w p (rest.map vb)) (hl : l = rest.length) (hc : l ≤ c) (hn : l < 64)
    (h : ∀ q d w', Fr [] w w' → OB w' q (l + 1) d (headB point l :: rest) w.heap.size → K (.slice q (l + 1) d) w') : callF Tryz.prog F_codec_id #[.int .i64 (point : Int), .slice p l c] w K := by
  apply codec_id_call
  unfold codec_id
  rw [head_val hp hn]
  refine mk1 (x := headB point l) fun p1 w1 f1 h1 s1 => ?_
  refine ⟨_, _, _, Ef.new (v := .slice (some ⟨w1.heap.size, 0, none⟩) 2 2) (cs := ([.slice p1 1 1, .slice p l c] : List Value).toArray) (e := T_S_uint8) (by kernel_rfl) fun w2 f2 hB2 s2 => ?_⟩
  have hR2 := RowB.of2 hB2.rowL ((h1.fr0 f2).byS) (byS ((hx.fr0 f1).fr0 f2) hl hc)
  have efl : [[headB point l], rest].flatten = headB point l :: rest := by simp
  have hbl : (headB point l :: rest).length = l + 1 := by simp [hl]
  refine Join_c (l := 2) hR2 rfl (by rw [efl, hbl]; omega) (by omega) fun q d w3 f3 hO3 => ⟨_, _, _, rfl, ?_⟩
  rw [efl, hbl] at hO3
  rw [efl, hbl]
  have n02 := (f1.then f2).size
  exact h q d w3 ((f1.then f2).then f3) (hO3.mono n02)
def okPl (point : Int) (n : Nat) : Prop := 0 ≤ point ∧ point ≤ 3 ∧ n ≤ 19
def okMk (m s n : Int) (key : List UInt8) (point : Int) (l2 l3 : Nat) : Prop := 0 ≤ point ∧ point ≤ 2 ∧ (l2 : Int) = s ∧ (l3 : Int) = n
theorem Make_c {p2 p3 : Option Addr} {l2 c2 l3 c3 : Nat} {point : Int} {sid nonce : List UInt8} (hk : key.length = 16) (h2 : Row w p2 (sid.map vb)) (hl2 : l2 = sid.length) (hc2 : l2 ≤ c2) (h3 : Row w p3 (nonce.map vb)) (hl3 : l3 = nonce.length) (hc3 : l3 ≤ c3)
    (hstate : ¬ okC m s n key → ∀ w', Fr [] w w' → K (.tuple #[.slice none 0 0, .int .i64 19]) w') (hrange : okC m s n key → ¬ okMk m s n key point l2 l3 → ∀ w', Fr [] w w' → K (.tuple #[.slice none 0 0, .int .i64 11]) w')
    (hok : okC m s n key → okMk m s n key point l2 l3 → ∀ q d w', Fr [] w w' → OB w' q (l2 + l3 + 1) d (headB point.toNat (l2 + l3) :: turnC false m key (sid ++ nonce)) w.heap.size → K (.tuple #[.slice q (l2 + l3 + 1) d, .int .i64 0]) w') :
    callF Tryz.prog F_codec_Make #[.agg ⟨cfgV m s n key⟩, .int .i64 point, .slice p2 l2 c2, .slice p3 l3 c3] w K := by
  apply codec_Make_call
  unfold codec_Make
  refine newCfg hk fun w1 f1 hC s1 => ⟨_, hC.ld hk, Right_c hk fun w2 f2 => ⟨_, rfl, ?_⟩⟩
  have f02 := f1.then f2
  have hC2 := hC.fr0 f2
  by_cases ho : okC m s n key
  · rw [decide_eq_true ho]
    have no : ∀ hb : ¬ okMk m s n key point l2 l3, K (.tuple #[.slice none 0 0, .int .i64 11]) w2 := fun hb => hrange ho hb w2 f02
    refine cond_f (cond_d (fun h => no fun hh => by unfold okMk at hh; omega) fun g1 => cond_d (fun h => no fun hh => by unfold okMk at hh; omega) fun g2 => ⟨_, hC2.sid, cond_ne (fun h => no fun hh => by unfold okMk at hh; omega) fun g3 => ⟨_, hC2.nonce, cond_ne (fun h => no fun hh => by unfold okMk at hh; omega) fun g4 => ?_⟩⟩)
    have hmk : okMk m s n key point l2 l3 := ⟨by omega, by omega, g3, g4⟩
    obtain ⟨pt, rfl⟩ := Int.eq_ofNat_of_zero_le (show 0 ≤ point by omega)
    have ho' := ho
    unfold okC at ho'
    unfold codec_Make_j1
    refine ⟨fun w' => Fr [] w2 w', Drw.intro fun w3 f3 s3 => ?_⟩
    refine ⟨_, ⟨f3, fun w' hw' => (hC2.fr0 hw').ld hk⟩, ?_⟩
    refine ⟨_, _, _, Ef.new (v := .slice (some ⟨w3.heap.size, 0, none⟩) 2 2) (cs := ([.slice p2 l2 c2, .slice p3 l3 c3] : List Value).toArray) (e := T_S_uint8) (by kernel_rfl) fun w4 f4 hB4 s4 => ?_⟩
    have f24 := f3.then f4
    refine ⟨.inr f24, ?_⟩
    have f04 := f02.then f24
    have hR4 := RowB.of2 hB4.rowL (byS (h2.fr0 f04) hl2 hc2) (byS (h3.fr0 f04) hl3 hc3)
    have efl : [sid, nonce].flatten = sid ++ nonce := by simp
    have hbl : (sid ++ nonce).length = l2 + l3 := by rw [List.length_append, ← hl2, ← hl3]
    refine Join_c (l := 2) hR4 rfl (by rw [efl, hbl]; omega) (by omega) fun q d w5 f5 hO5 => ⟨_, _, _, rfl, .inr (f24.then f5), ?_⟩
    rw [efl, hbl] at hO5
    rw [efl, hbl]
    have f05 := f04.then f5
    refine Turn_cfg_c hk hO5.row hO5.2.1 hO5.cap (by omega) (fun hn => absurd ho hn) (fun _ hn => absurd (by omega) hn) fun _ _ q6 d6 w6 f6 hO6 => ⟨_, _, _, _, rfl, cond_f ?_⟩
    have f06 := f05.then f6
    refine id_c (by omega) hO6.row hO6.2.1 hO6.cap (by omega) fun q7 d7 w7 f7 hO7 => ⟨_, _, _, rfl, ?_⟩
    exact hok ho hmk q7 d7 w7 (f06.then f7) (hO7.mono f06.size)
  · rw [decide_eq_false ho]
    exact cond_t (hstate ho w2 f02)
end
end Go.Sh
end

section
namespace Go.Sh
open Go Go.Fw Go.Proofs
set_option maxRecDepth 100000
set_option linter.unusedVariables false
abbrev partsL (pt : Int) (q1 : Option Addr) (l1 d1 : Nat) (q2 : Option Addr) (l2 d2 : Nat) : List Value := [.int .i64 pt, .slice q1 l1 d1, .slice q2 l2 d2]
section
variable {w : World} {m s n : Int} {key text : List UInt8} {K : Value → World → Prop}
theorem stoP {b : Nat} {f : Nat → Value} (hB : Blk w b 3 f) {cs : List Value} (hm : cs.length = 3) (hv : ∀ v ∈ cs, v.oneCell' = true) {K : World → Prop}
    (h : ∀ w', Fr [b] w w' → Blk w' b 3 (updN f 0 cs) → Ld Tryz.prog T_codec_Parts (.pointer (some ⟨b, 0, none⟩)) w' (.agg ⟨cs⟩) → K w') : ∃ w', Sto Tryz.prog T_codec_Parts (.pointer (some ⟨b, 0, none⟩)) (.agg ⟨cs⟩) w w' ∧ K w' := by
  refine Sto.agg (m := 3) (by kernel_rfl) hm hB (Nat.le_refl 3) hv fun w' hf hB' hs => h w' hf hB' ?_
  refine LdA (m := 3) (by kernel_rfl) (by kernel_rfl) hB' (o := 0) (by omega) cs hm (fun j v hj => ?_)
  rw [Nat.zero_add]
  unfold updN
  obtain ⟨h1, h2⟩ := List.getElem?_eq_some_iff.1 hj
  rw [dif_pos ⟨Nat.zero_le _, by simpa using h1⟩]
  simpa using h2
theorem parts_one (pt : Int) (q1 : Option Addr) (l1 d1 : Nat) (q2 : Option Addr) (l2 d2 : Nat) : ∀ v ∈ partsL pt q1 l1 d1 q2 l2 d2, v.oneCell' = true := by
  intro v hv
  simp only [partsL, List.mem_cons, List.not_mem_nil, or_false] at hv
  rcases hv with rfl | rfl | rfl <;> rfl
def okBk (m s n : Int) (key id : List UInt8) : Prop := okC m s n key ∧ (id.length : Int) = 1 + (s + n) ∧ (fl id 0).toNat % 64 + 1 = id.length
set_option maxHeartbeats 4000000 in
theorem codecBack_c {p1 : Option Addr} {l1 c1 : Nat} {id : List UInt8} (hk : key.length = 16) (h1 : Row w p1 (id.map vb)) (hl1 : l1 = id.length) (hc1 : l1 ≤ c1) (hlb : l1 < 1000000)
    (hbad : ¬ okBk m s n key id → ∀ er w', Fr [] w w' → er = (if okC m s n key then (if (id.length : Int) = 1 + (s + n) then 10 else 11) else 19) → K (.tuple #[.agg ⟨partsL 0 none 0 0 none 0 0⟩, .int .i64 er]) w')
    (hok : okBk m s n key id → ∀ q1 d1 q2 d2 w', Fr [] w w' → OB w' q1 s.toNat d1 ((turnC true m key (id.drop 1)).take s.toNat) w.heap.size → OB w' q2 n.toNat d2 ((turnC true m key (id.drop 1)).drop s.toNat) w.heap.size →
      K (.tuple #[.agg ⟨partsL (((fl id 0).toNat / 64 : Nat) : Int) q1 s.toNat d1 q2 n.toNat d2⟩, .int .i64 0]) w') :
    callF Tryz.prog F_codec_Back #[.agg ⟨cfgV m s n key⟩, .slice p1 l1 c1] w K := by
  apply codec_Back_call
  unfold codec_Back
  refine newCfg hk fun w1 f1 hC s1 => ?_
  refine newZ (s := 3) (by kernel_rfl) fun w2 g2 f2 hB2 s2 => ?_
  obtain ⟨kb, hkb⟩ : ∃ kb, kb = w1.heap.size := ⟨_, rfl⟩
  rw [← hkb] at hB2 ⊢
  have f02 := f1.then f2
  have n1 := f1.size
  have hltb := hB2.lt
  have hC2 := hC.fr0 f2
  have hCl := hC.lt
  refine ⟨_, hC2.ld hk, Right_c hk fun w3 f3 => ⟨_, rfl, ?_⟩⟩
  have hB3 := hB2.fr0 f3
  have hC3 := hC2.fr0 f3
  have f03 := f02.then f3
  have z3 : ∀ v ∈ partsL 0 none 0 0 none 0 0, v.oneCell' = true := parts_one _ _ _ _ _ _ _
  by_cases ho : okC m s n key
  · rw [decide_eq_true ho]
    refine cond_f ⟨_, hC3.ld hk, cfgSize_c hk fun w4 f4 => ⟨_, rfl, ?_⟩⟩
    rw [if_pos ho]
    have f04 := f03.then f4
    have hB4 := hB3.fr0 f4
    have hC4 := hC3.fr0 f4
    refine cond_ne (fun hne => ?_) (fun hlen => ?_)
    · refine stoP hB4 (cs := partsL 0 none 0 0 none 0 0) rfl z3 fun w5 f5 hB5 hLd => ⟨_, _, rfl, hLd, ?_⟩
      exact hbad (fun hh => hne (by have := hh.2.1; omega)) 11 w5 (f04.st f5 (by omega)) (by rw [if_pos ho, if_neg (by omega)])
    · have ho' := ho
      unfold okC at ho'
      have hlid : (id.length : Int) = 1 + (s + n) := by omega
      obtain ⟨a, ha, hca⟩ := row_get (t := T_S_uint8) (by kernel_rfl) (h1.fr0 f04) (c := c1) hl1 (i := 0) (by omega) (k := .i64)
      refine ⟨a, ha, _, Ld.cell (by kernel_rfl) hca, Told_c ⟨_, rfl, ?_⟩⟩
      refine cond_ne (fun hne => ?_) (fun htold => ?_)
      · refine stoP hB4 (cs := partsL 0 none 0 0 none 0 0) rfl z3 fun w5 f5 hB5 hLd => ⟨_, _, rfl, hLd, ?_⟩
        refine hbad (fun hh => hne ?_) 10 w5 (f04.st f5 (by omega)) (by rw [if_pos ho, if_pos hlid])
        have := hh.2.2
        show (((fl id 0).toNat % 64 + 1 : Nat) : Int) = _
        omega
      · have hbk : okBk m s n key id := ⟨ho, hlid, by have h' : (((fl id 0).toNat % 64 + 1 : Nat) : Int) = _ := htold; omega⟩
        unfold codec_Back_j2
        refine Drw.intro fun w5 f5 s5 => ?_
        have f05 := f04.then f5
        refine slFrom (h1.fr0 f05) hl1 (n := 1) (by omega) hc1 fun qt dt ht htl htd htb => ?_
        refine ⟨_, (hC4.fr0 f5).ld hk, ?_⟩
        obtain ⟨T, hT⟩ : ∃ T, T = turnC true m key (id.drop 1) := ⟨_, rfl⟩
        refine Back_cfg_c hk ht htl htd (by omega) (fun hn => absurd ho hn) (fun _ hn => absurd (by omega) hn) fun _ hl' q6 d6 w6 f6 hO6 => ⟨_, _, _, _, rfl, cond_f ?_⟩
        rw [← hT] at hO6 hok
        have f06 := f05.then f6
        refine ⟨fun w' => Fr [] w6 w', Drw.intro fun w7 f7 s7 => ?_⟩
        have g46 := f5.then f6
        have hC6 := hC4.fr0 g46
        have h17 := h1.fr0 (f06.then f7)
        obtain ⟨a', ha', hca'⟩ := row_get (t := T_S_uint8) (by kernel_rfl) (h1.fr0 f06) (c := c1) hl1 (i := 0) (by omega) (k := .i64)
        refine ⟨a', ha', _, ⟨f7, fun w' hw' => Ld.cell (by kernel_rfl) (Fr.cell hw' hca' (by simp))⟩, _, ⟨f7, fun w' hw' => (hC6.fr0 hw').sid⟩, ?_⟩
        obtain ⟨s', rfl⟩ := Int.eq_ofNat_of_zero_le (show 0 ≤ s by omega)
        obtain ⟨n', rfl⟩ := Int.eq_ofNat_of_zero_le (show 0 ≤ n by omega)
        rw [Int.toNat_natCast, Int.toNat_natCast] at hok
        have hTl : l1 - 1 = s' + n' := by omega
        have hcap6 := hO6.cap
        refine slTo (hO6.row.fr0 f7) hO6.2.1 (n := s') (by omega) hcap6 fun qa da hqa hla hda hba => ?_
        refine ⟨_, ⟨f7, fun w' hw' => (hC6.fr0 hw').sid⟩, ?_⟩
        refine slFrom (hO6.row.fr0 f7) hO6.2.1 (n := s') (by omega) hcap6 fun qb db hqb hlb' hdb hbb => ?_
        have enb : l1 - 1 - s' = n' := by omega
        rw [enb] at hlb' hdb ⊢
        have n06 := f06.size
        -- the parts
        have mkA : ∀ (w8 : World), Fr [] w7 w8 → ∀ {K' : Option Addr → Nat → Nat → World → Prop}, (∀ p w', Fr [] w8 w' → RowB w' p [T.take s'] → K' p 1 1 w') → ∃ p l c w', Ef Tryz.prog (Instr.buildSlice T_S_S_uint8 1 #[(0, .slice qa s' da)]) w8 (.slice p l c) w' ∧ K' p l c w' := fun w8 f8 K' h' => rowB1 (byS (hqa.fr0 f8) hla hda) (by kernel_rfl) fun p w' f hR _ => h' p w' f hR
        have mkB : ∀ (w8 : World), Fr [] w7 w8 → ∀ {K' : Option Addr → Nat → Nat → World → Prop}, (∀ p w', Fr [] w8 w' → RowB w' p [T.drop s'] → K' p 1 1 w') → ∃ p l c w', Ef Tryz.prog (Instr.buildSlice T_S_S_uint8 1 #[(0, .slice qb n' db)]) w8 (.slice p l c) w' ∧ K' p l c w' := fun w8 f8 K' h' => rowB1 (byS (hqb.fr0 f8) hlb' hdb) (by kernel_rfl) fun p w' f hR _ => h' p w' f hR
        have joA : ∀ (w8 : World) (p : Option Addr), RowB w8 p [T.take s'] → ∀ {K' : Value → World → Prop}, (∀ q d w', Fr [] w8 w' → OB w' q s' d (T.take s') w8.heap.size → K' (.slice q s' d) w') → callF Tryz.prog F_octet_Join #[.slice p 1 1] w8 K' := by
          intro w8 p hR K' h'
          have efl : [T.take s'].flatten = T.take s' := by simp
          refine Join_c (l := 1) hR rfl (by rw [efl]; omega) (by omega) fun q d w' f hO => ?_
          rw [efl, ← hla] at hO
          rw [efl, ← hla]
          exact h' q d w' f hO
        have joB : ∀ (w8 : World) (p : Option Addr), RowB w8 p [T.drop s'] → ∀ {K' : Value → World → Prop}, (∀ q d w', Fr [] w8 w' → OB w' q n' d (T.drop s') w8.heap.size → K' (.slice q n' d) w') → callF Tryz.prog F_octet_Join #[.slice p 1 1] w8 K' := by
          intro w8 p hR K' h'
          have efl : [T.drop s'].flatten = T.drop s' := by simp
          refine Join_c (l := 1) hR rfl (by rw [efl]; omega) (by omega) fun q d w' f hO => ?_
          rw [efl, ← hlb'] at hO
          rw [efl, ← hlb']
          exact h' q d w' f hO
        have fin : ∀ (w8 : World) (q1 : Option Addr) (d1 : Nat) (q2 : Option Addr) (d2 : Nat), Fr [] w7 w8 → OB w8 q1 s' d1 (T.take s') w7.heap.size → OB w8 q2 n' d2 (T.drop s') w7.heap.size →
            ∃ w10, Sto Tryz.prog T_codec_Parts (.pointer (some ⟨kb, 0, none⟩)) (.agg #[.int .i64 (((fl id 0).toNat / 64 : Nat) : Int), .slice q1 s' d1, .slice q2 n' d2]) w8 w10 ∧ codec_Back_j1 ⟨kb, 0, none⟩ 0 w10 K := by
          intro w8 q1 d1 q2 d2 f8 hO1 hO2
          have n7 := f7.size
          have g28 := ((((f3.then f4).then g46).then f7).then f8)
          have hlt2 := hB2.lt
          have n27 := (((f3.then f4).then g46).then f7).size
          refine stoP (hB2.fr0 g28) (cs := partsL (((fl id 0).toNat / 64 : Nat) : Int) q1 s' d1 q2 n' d2) rfl (parts_one _ _ _ _ _ _ _) fun w10 f10 hB10 hLd => ?_
          unfold codec_Back_j1
          refine ⟨_, _, rfl, hLd, ?_⟩
          exact hok hbk q1 d1 q2 d2 w10 ((f02.then g28).st f10 (by omega)) ((hO1.fr_sep f10 (by omega)).mono (by omega)) ((hO2.fr_sep f10 (by omega)).mono (by omega))
        -- both rows stand: they are joined
        have tAB : ∀ (w8 : World), Fr [] w7 w8 → ∀ (pA pB : Option Addr), RowB w8 pA [T.take s'] → RowB w8 pB [T.drop s'] →
            callF Tryz.prog F_octet_Join #[.slice pA 1 1] w8 fun r w9 => ∃ (p : Option Addr) (l c : Nat), r = .slice p l c ∧ (w9 = w8 ∨ Fr [] w6 w9) ∧
              callF Tryz.prog F_octet_Join #[.slice pB 1 1] w9 fun r' w10 => ∃ (p' : Option Addr) (l' c' : Nat), r' = .slice p' l' c' ∧
                ∃ w11, Sto Tryz.prog T_codec_Parts (.pointer (some ⟨kb, 0, none⟩)) (.agg #[.int .i64 (((fl id 0).toNat / 64 : Nat) : Int), .slice p l c, .slice p' l' c']) w10 w11 ∧ codec_Back_j1 ⟨kb, 0, none⟩ 0 w11 K := by
          intro w8 f8 pA pB hA hB
          refine joA w8 pA hA fun q1 d1 w9 f9 hO1 => ⟨_, _, _, rfl, .inr ((f7.then f8).then f9), ?_⟩
          refine joB w9 pB (hB.fr0 f9) fun q2 d2 w10 f10 hO2 => ⟨_, _, _, rfl, ?_⟩
          have m8 := f8.size; have m9 := f9.size
          exact fin w10 q1 d1 q2 d2 ((f8.then f9).then f10) ((hO1.fr0 f10).mono m8) (hO2.mono (by omega))
        have tA_B : ∀ (w8 : World), Fr [] w7 w8 → ∀ (pA : Option Addr), RowB w8 pA [T.take s'] →
            callF Tryz.prog F_octet_Join #[.slice pA 1 1] w8 fun r w9 => ∃ (p : Option Addr) (l c : Nat), r = .slice p l c ∧ (w9 = w8 ∨ Fr [] w6 w9) ∧
              ∃ (pb : Option Addr) (lb cb : Nat) (wb : World), Ef Tryz.prog (Instr.buildSlice T_S_S_uint8 1 #[(0, .slice qb n' db)]) w9 (.slice pb lb cb) wb ∧ (wb = w9 ∨ Fr [] w6 wb) ∧
              callF Tryz.prog F_octet_Join #[.slice pb lb cb] wb fun r' w10 => ∃ (p' : Option Addr) (l' c' : Nat), r' = .slice p' l' c' ∧
                ∃ w11, Sto Tryz.prog T_codec_Parts (.pointer (some ⟨kb, 0, none⟩)) (.agg #[.int .i64 (((fl id 0).toNat / 64 : Nat) : Int), .slice p l c, .slice p' l' c']) w10 w11 ∧ codec_Back_j1 ⟨kb, 0, none⟩ 0 w11 K := by
          intro w8 f8 pA hA
          refine joA w8 pA hA fun q1 d1 w9 f9 hO1 => ⟨_, _, _, rfl, .inr ((f7.then f8).then f9), ?_⟩
          refine mkB w9 (f8.then f9) fun pB w10 f10 hB => ⟨.inr (((f7.then f8).then f9).then f10), ?_⟩
          refine joB w10 pB hB fun q2 d2 w11 f11 hO2 => ⟨_, _, _, rfl, ?_⟩
          have m8 := f8.size; have m9 := f9.size; have m10 := f10.size
          exact fin w11 q1 d1 q2 d2 (((f8.then f9).then f10).then f11) (((hO1.fr0 f10).fr0 f11).mono m8) (hO2.mono (by omega))
        refine ⟨Point_c ⟨_, rfl, .inl rfl, ⟨?_, ?_⟩⟩, ⟨?_, ?_⟩⟩
        · exact mkA w7 (Fr.refl _ _) fun pA w8 f8 hA => ⟨.inr (f7.then f8), tA_B w8 f8 pA hA, mkB w8 f8 fun pB w9 f9 hB => ⟨.inr ((f7.then f8).then f9), tAB w9 (f8.then f9) pA pB (hA.fr0 f9) hB⟩⟩
        · exact mkB w7 (Fr.refl _ _) fun pB w8 f8 hB => ⟨.inr (f7.then f8), mkA w8 f8 fun pA w9 f9 hA => ⟨.inr ((f7.then f8).then f9), tAB w9 (f8.then f9) pA pB hA (hB.fr0 f9)⟩⟩
        · exact mkA w7 (Fr.refl _ _) fun pA w8 f8 hA => ⟨.inr (f7.then f8),
            Point_c ⟨_, rfl, .inl rfl, tA_B w8 f8 pA hA, mkB w8 f8 fun pB w9 f9 hB => ⟨.inr ((f7.then f8).then f9), tAB w9 (f8.then f9) pA pB (hA.fr0 f9) hB⟩⟩,
            mkB w8 f8 fun pB w9 f9 hB => ⟨.inr ((f7.then f8).then f9), Point_c ⟨_, rfl, .inl rfl, tAB w9 (f8.then f9) pA pB (hA.fr0 f9) hB⟩⟩⟩
        · exact mkB w7 (Fr.refl _ _) fun pB w8 f8 hB => ⟨.inr (f7.then f8),
            Point_c ⟨_, rfl, .inl rfl, mkA w8 f8 fun pA w9 f9 hA => ⟨.inr ((f7.then f8).then f9), tAB w9 (f8.then f9) pA pB hA (hB.fr0 f9)⟩⟩,
            mkA w8 f8 fun pA w9 f9 hA => ⟨.inr ((f7.then f8).then f9), Point_c ⟨_, rfl, .inl rfl, tAB w9 (f8.then f9) pA pB hA (hB.fr0 f9)⟩⟩⟩
  · rw [decide_eq_false ho]
    refine cond_t (stoP hB3 (cs := partsL 0 none 0 0 none 0 0) rfl z3 fun w5 f5 hB5 hLd => ⟨_, _, rfl, hLd, ?_⟩)
    exact hbad (fun hh => ho hh.1) 19 w5 (f03.st f5 (by omega)) (by rw [if_neg ho])
end
end Go.Sh
end

section
namespace Go.Sh
open Go Go.Fw Go.Proofs
set_option maxRecDepth 100000
set_option linter.unusedVariables false
def PAt (w : World) (b : Nat) (cs : List Value) : Prop := ∃ f, Blk w b 3 f ∧ ∀ j v, cs[j]? = some v → f j = v
theorem PAt.fr0 {w w' : World} {b : Nat} {cs : List Value} (h : PAt w b cs) (f : Fr [] w w') : PAt w' b cs := by obtain ⟨g, hB, hc⟩ := h; exact ⟨g, hB.fr0 f, hc⟩
section
variable {w : World} {b : Nat} {pt : Int} {q1 q2 : Option Addr} {l1 d1 l2 d2 : Nat}
theorem PAt.sidLd (h : PAt w b (partsL pt q1 l1 d1 q2 l2 d2)) : Ld Tryz.prog T_S_uint8 (.pointer (some ((⟨b, 0, none⟩ : Addr).add 1))) w (.slice q1 l1 d1) := by
  obtain ⟨f, hB, hc⟩ := h; rw [add_mk]; exact Ld.blk (by kernel_rfl) hB (by omega) (hc 1 _ rfl)
theorem PAt.nonceLd (h : PAt w b (partsL pt q1 l1 d1 q2 l2 d2)) : Ld Tryz.prog T_S_uint8 (.pointer (some ((⟨b, 0, none⟩ : Addr).add 2))) w (.slice q2 l2 d2) := by
  obtain ⟨f, hB, hc⟩ := h; rw [add_mk]; exact Ld.blk (by kernel_rfl) hB (by omega) (hc 2 _ rfl)
theorem newP {K : Nat → World → Prop} (h : ∀ w', Fr [] w w' → PAt w' w.heap.size (partsL pt q1 l1 d1 q2 l2 d2) → K w.heap.size w') :
    ∃ z, Pu Tryz.prog (zeroValue T_codec_Parts) z ∧ New z.cells T_codec_Parts w fun k w2 => ∃ w3, Sto Tryz.prog T_codec_Parts (.pointer (some ⟨k, 0, none⟩)) (.agg #[.int .i64 pt, .slice q1 l1 d1, .slice q2 l2 d2]) w2 w3 ∧ K k w3 := by
  refine newZ (s := 3) (by kernel_rfl) fun w2 g2 f2 hB2 s2 => ?_
  refine stoP hB2 (cs := partsL pt q1 l1 d1 q2 l2 d2) rfl (parts_one _ _ _ _ _ _ _) fun w3 f3 hB3 hLd => ?_
  refine h w3 (f2.st f3 (Nat.le_refl _)) ⟨_, hB3, fun j v hj => ?_⟩
  unfold updN
  obtain ⟨h1, h2⟩ := List.getElem?_eq_some_iff.1 hj
  rw [dif_pos ⟨Nat.zero_le _, by simpa using h1⟩]
  simpa using h2
end
def n17 : List UInt8 := [4, 5, 6, 7]
theorem zcfg : (#[.int .i64 0, .int .i64 0, .int .i64 0, .int .u8 0, .int .u8 0, .int .u8 0, .int .u8 0, .int .u8 0, .int .u8 0, .int .u8 0, .int .u8 0, .int .u8 0, .int .u8 0, .int .u8 0, .int .u8 0, .int .u8 0, .int .u8 0, .int .u8 0, .int .u8 0] : Array Value) = ⟨cfgV 0 0 0 z16k⟩ := by kernel_rfl
end Go.Sh
end

section
namespace Go.Sh
open Go Go.Fw Go.Proofs
set_option maxRecDepth 100000
set_option linter.unusedVariables false
instance (m s n : Int) (key : List UInt8) (point : Int) (l2 l3 : Nat) : Decidable (okMk m s n key point l2 l3) := by unfold okMk; infer_instance
instance (point : Int) (k : Nat) : Decidable (okPl point k) := by unfold okPl; infer_instance
def mkOut (m s n : Int) (key : List UInt8) (point : Int) (sid nonce : List UInt8) : List UInt8 :=
  if okC m s n key ∧ okMk m s n key point sid.length nonce.length then headB point.toNat (sid.length + nonce.length) :: turnC false m key (sid ++ nonce) else []
def mkE (m s n : Int) (key : List UInt8) (point : Int) (sid nonce : List UInt8) : Int :=
  if okC m s n key then (if okMk m s n key point sid.length nonce.length then 0 else 11) else 19
section
variable {w : World} {m s n : Int} {key : List UInt8} {K : Value → World → Prop}
theorem makeAny_c {p2 p3 : Option Addr} {l2 c2 l3 c3 : Nat} {point : Int} {sid nonce : List UInt8} (hk : key.length = 16) (h2 : Row w p2 (sid.map vb)) (hl2 : l2 = sid.length) (hc2 : l2 ≤ c2) (h3 : Row w p3 (nonce.map vb)) (hl3 : l3 = nonce.length) (hc3 : l3 ≤ c3)
    (h : ∀ q d w', Fr [] w w' → OB w' q (mkOut m s n key point sid nonce).length d (mkOut m s n key point sid nonce) w.heap.size → K (.tuple #[.slice q (mkOut m s n key point sid nonce).length d, .int .i64 (mkE m s n key point sid nonce)]) w') :
    callF Tryz.prog F_codec_Make #[.agg ⟨cfgV m s n key⟩, .int .i64 point, .slice p2 l2 c2, .slice p3 l3 c3] w K := by
  subst hl2; subst hl3
  refine Make_c hk h2 rfl hc2 h3 rfl hc3 (fun hn w' f => ?_) (fun ho hn w' f => ?_) (fun ho hm q d w' f hO => ?_)
  · have e1 : mkOut m s n key point sid nonce = [] := by unfold mkOut; rw [if_neg (fun hh => hn hh.1)]
    have e2 : mkE m s n key point sid nonce = 19 := by unfold mkE; rw [if_neg hn]
    rw [e1, e2] at h
    exact h none 0 w' f (OB.nil _ _)
  · have e1 : mkOut m s n key point sid nonce = [] := by unfold mkOut; rw [if_neg (fun hh => hn hh.2)]
    have e2 : mkE m s n key point sid nonce = 11 := by unfold mkE; rw [if_pos ho, if_neg hn]
    rw [e1, e2] at h
    exact h none 0 w' f (OB.nil _ _)
  · have e1 : mkOut m s n key point sid nonce = headB point.toNat (sid.length + nonce.length) :: turnC false m key (sid ++ nonce) := by unfold mkOut; rw [if_pos ⟨ho, hm⟩]
    have e2 : mkE m s n key point sid nonce = 0 := by unfold mkE; rw [if_pos ho, if_pos hm]
    rw [e1, e2] at h
    have hl := hO.2.1
    have := h q d w' f (by rw [← hl]; exact hO)
    rwa [← hl] at this
instance (m s n : Int) (key id : List UInt8) : Decidable (okBk m s n key id) := by unfold okBk; infer_instance
def bkE (m s n : Int) (key id : List UInt8) : Int := if okBk m s n key id then 0 else if okC m s n key then (if (id.length : Int) = 1 + (s + n) then 10 else 11) else 19
def bkP (m s n : Int) (key id : List UInt8) : Int := if okBk m s n key id then (((fl id 0).toNat / 64 : Nat) : Int) else 0
def bkS (m s n : Int) (key id : List UInt8) : List UInt8 := if okBk m s n key id then (turnC true m key (id.drop 1)).take s.toNat else []
def bkN (m s n : Int) (key id : List UInt8) : List UInt8 := if okBk m s n key id then (turnC true m key (id.drop 1)).drop s.toNat else []
def bkT (m s n : Int) (key id : List UInt8) (q1 : Option Addr) (d1 : Nat) (q2 : Option Addr) (d2 : Nat) : Value := .tuple #[.agg ⟨partsL (bkP m s n key id) q1 (bkS m s n key id).length d1 q2 (bkN m s n key id).length d2⟩, .int .i64 (bkE m s n key id)]
theorem bk_len {id : List UInt8} (hb : okBk m s n key id) : (bkS m s n key id).length = s.toNat ∧ (bkN m s n key id).length = n.toNat := by
  have ho := hb.1
  have h2 := hb.2.1
  have ho' := ho
  unfold okC at ho'
  have ht : ((id.drop 1).length : Int) = s + n := by rw [List.length_drop]; omega
  have hl := turnC_len true ho ht
  have hd : (id.drop 1).length = id.length - 1 := List.length_drop
  unfold bkS bkN
  rw [if_pos hb, if_pos hb, List.length_take, List.length_drop]
  omega
theorem bk_len2 (m s n : Int) (key id : List UInt8) : (bkS m s n key id).length + (bkN m s n key id).length ≤ id.length := by
  by_cases hb : okBk m s n key id
  · have := bk_len hb; have h2 := hb.2.1; have ho := hb.1; unfold okC at ho; omega
  · unfold bkS bkN; rw [if_neg hb, if_neg hb]; simp
end
end Go.Sh
end

section
namespace Go.Sh
open Go Go.Fw Go.Proofs
set_option maxRecDepth 100000
set_option linter.unusedVariables false
structure SL where
  m : Int
  s : Int
  n : Int
  key : List UInt8
  st : Nat
def SL.v (x : SL) : List Value := slotV x.m x.s x.n x.key (x.st : Int)
def SL.c (x : SL) : List Value := cfgV x.m x.s x.n x.key
def sl0 : SL := ⟨0, 0, 0, z16k, 0⟩
def setS (sl : Nat → SL) (i : Nat) (x : SL) : Nat → SL := fun k => if k = i then x else sl k
def SL.ok (x : SL) (t : Nat) : Prop := x.key.length = 16 ∧ x.st ≤ t ∧ (x.st = 0 → x = sl0) ∧ (x.st ≠ 0 → okC x.m x.s x.n x.key)
theorem sl0_ok (t : Nat) : sl0.ok t := ⟨rfl, Nat.zero_le _, fun _ => rfl, fun h => absurd rfl h⟩
def SlAt (w : World) (b : Nat) (sl : Nat → SL) (t : Nat) : Prop := ∃ f, Blk w b 61 f ∧ (∀ i, i < 3 → ∀ j v, (sl i).v[j]? = some v → f (i * 20 + j) = v) ∧ f 60 = .int .i64 (t : Int) ∧ ∀ i, i < 3 → (sl i).ok t
theorem SL.ok.v_len {x : SL} {t : Nat} (h : x.ok t) : x.v.length = 20 := by unfold SL.v slotV; rw [List.length_append, cfgV_len, h.1]; rfl
theorem SL.ok.v_cfg {x : SL} {t : Nat} (h : x.ok t) {j : Nat} {v : Value} (hj : x.c[j]? = some v) : x.v[j]? = some v := by
  have hlt := (List.getElem?_eq_some_iff.1 hj).1
  show (x.c ++ [.int .i64 (x.st : Int)])[j]? = some v
  rw [List.getElem?_append_left hlt]; exact hj
theorem SL.ok.v_st {x : SL} {t : Nat} (h : x.ok t) : x.v[19]? = some (.int .i64 (x.st : Int)) := by
  unfold SL.v slotV
  rw [List.getElem?_append_right (by rw [cfgV_len, h.1]; omega), cfgV_len, h.1]; rfl
theorem SL.v_one (x : SL) : ∀ v ∈ x.v, v.oneCell' = true := by
  intro v hv
  rcases List.mem_append.1 hv with hv | hv
  · exact cfgV_one _ _ _ _ v hv
  · simp at hv; subst hv; rfl
section
variable {w : World} {b t : Nat} {sl : Nat → SL} {K : Value → World → Prop}
theorem SlAt.fr {w' : World} {L : List Nat} (h : SlAt w b sl t) (hf : Fr L w w') (hn : b ∉ L) : SlAt w' b sl t := by obtain ⟨f, hB, r⟩ := h; exact ⟨f, hB.fr hf hn, r⟩
theorem SlAt.fr0 {w' : World} (h : SlAt w b sl t) (hf : Fr [] w w') : SlAt w' b sl t := h.fr hf (by simp)
theorem SlAt.lt (h : SlAt w b sl t) : b < w.heap.size := by obtain ⟨f, hB, _⟩ := h; exact hB.lt
theorem SlAt.ok (h : SlAt w b sl t) {i : Nat} (hi : i < 3) : (sl i).ok t := by obtain ⟨f, hB, h1, h2, h3⟩ := h; exact h3 i hi
theorem SlAt.cfgLd (h : SlAt w b sl t) {i : Nat} (hi : i < 3) : Ld Tryz.prog T_mode_Config (.pointer (some ⟨b, i * 20, none⟩)) w (.agg ⟨(sl i).c⟩) := by
  obtain ⟨f, hB, h1, h2, h3⟩ := h
  exact LdA (m := 19) (by kernel_rfl) (by kernel_rfl) hB (by omega) _ (by unfold SL.c; rw [cfgV_len, (h3 i hi).1]) fun j v hj => h1 i hi j v ((h3 i hi).v_cfg hj)
theorem SlAt.ld (h : SlAt w b sl t) {i : Nat} (hi : i < 3) : Ld Tryz.prog T_slot_slot (.pointer (some ⟨b, i * 20, none⟩)) w (.agg ⟨(sl i).v⟩) := by
  obtain ⟨f, hB, h1, h2, h3⟩ := h
  exact LdA (m := 20) (by kernel_rfl) (by kernel_rfl) hB (by omega) _ (h3 i hi).v_len fun j v hj => h1 i hi j v hj
theorem SlAt.stLd (h : SlAt w b sl t) {i : Nat} (hi : i < 3) : Ld Tryz.prog T_int64 (.pointer (some ((⟨b, i * 20, none⟩ : Addr).add 19))) w (.int .i64 ((sl i).st : Int)) := by
  obtain ⟨f, hB, h1, h2, h3⟩ := h
  rw [add_mk]
  exact Ld.blk (by kernel_rfl) hB (by omega) (h1 i hi 19 _ (h3 i hi).v_st)
theorem SlAt.cntLd (h : SlAt w b sl t) : Ld Tryz.prog T_int64 (.pointer (some ((⟨b, 0, none⟩ : Addr).add 60))) w (.int .i64 (t : Int)) := by
  obtain ⟨f, hB, h1, h2, h3⟩ := h
  rw [add_mk]
  exact Ld.blk (by kernel_rfl) hB (by omega) h2
theorem SlAt.sto (h : SlAt w b sl t) {i : Nat} (hi : i < 3) {x : SL} (hx : x.ok t) {K : World → Prop} (hk : ∀ w', Fr [b] w w' → SlAt w' b (setS sl i x) t → w'.heap.size = w.heap.size → K w') : ∃ w', Sto Tryz.prog T_slot_slot (.pointer (some ⟨b, i * 20, none⟩)) (.agg ⟨x.v⟩) w w' ∧ K w' := by
  obtain ⟨f, hB, h1, h2, h3⟩ := h
  have hl := hx.v_len
  refine Sto.agg (m := 20) (cs := x.v) (by kernel_rfl) hl hB (by omega) x.v_one fun w' hf hB' hs => hk w' hf ⟨_, hB', fun k hk j v hj => ?_, ?_, fun k hk => ?_⟩ hs
  · unfold setS at hj
    by_cases hki : k = i
    · rw [if_pos hki] at hj
      have hlt := (List.getElem?_eq_some_iff.1 hj).1
      unfold updN
      rw [dif_pos ⟨by omega, by omega⟩]
      obtain ⟨h4, h5⟩ := List.getElem?_eq_some_iff.1 hj
      have e : k * 20 + j - i * 20 = j := by omega
      simp only [e]; exact h5
    · rw [if_neg hki] at hj
      have hlt := (List.getElem?_eq_some_iff.1 hj).1
      rw [(h3 k hk).v_len] at hlt
      unfold updN
      rw [dif_neg (by omega)]
      exact h1 k hk j v hj
  · unfold updN
    rw [dif_neg (by omega)]; exact h2
  · unfold setS
    by_cases hki : k = i
    · rw [if_pos hki]; exact hx
    · rw [if_neg hki]; exact h3 k hk
theorem SlAt.cntSto (h : SlAt w b sl t) {K : World → Prop} (hk : ∀ w', Fr [b] w w' → SlAt w' b sl (t + 1) → w'.heap.size = w.heap.size → K w') : ∃ w', Sto Tryz.prog T_int64 (.pointer (some ((⟨b, 0, none⟩ : Addr).add 60))) (.int .i64 ((t + 1 : Nat) : Int)) w w' ∧ K w' := by
  obtain ⟨f, hB, h1, h2, h3⟩ := h
  rw [add_mk]
  refine Sto.blk (by kernel_rfl) hB (by omega) rfl rfl fun w' hf hB' hs => hk w' hf ⟨_, hB', fun i hi j v hj => ?_, upd_same _ _ _, fun i hi => ?_⟩ hs
  · have hlt := (List.getElem?_eq_some_iff.1 hj).1
    rw [(h3 i hi).v_len] at hlt
    rw [upd_ne _ _ _ (by omega)]; exact h1 i hi j v hj
  · obtain ⟨a, b, c⟩ := h3 i hi; exact ⟨a, by omega, c⟩
theorem slotAt_c {n : Int} (hbad : ¬ (0 ≤ n ∧ n < 3) → K (.pointer none) w) (hok : ∀ i : Nat, n = (i : Int) → i < 3 → K (.pointer (some ⟨b, i * 20, none⟩)) w) : callF Tryz.prog F_slot_Slots_at #[.pointer (some ⟨b, 0, none⟩), .int .i64 n] w K := by
  apply slot_Slots_at_call
  unfold slot_Slots_at
  refine cond_d (fun h => hbad (by omega)) fun h1 => cond_d (fun h => hbad (by omega)) fun h2 => ?_
  obtain ⟨i, rfl⟩ := Int.eq_ofNat_of_zero_le (show 0 ≤ n by omega)
  unfold slot_Slots_at_j1
  have hx := ixA (P := Tryz.prog) (t := T_A3_slot_slot) (n := 3) (s := 20) (by kernel_rfl) (b := b) (o := 0) (k := .i64) (i := (i : Int)) (by omega) (by omega)
  rw [Int.toNat_natCast, Nat.zero_add] at hx
  exact ⟨_, rfl, _, by rw [add_mk]; exact hx, hok i rfl (by omega)⟩
theorem slotNew_c (h : ∀ b w', Fr [] w w' → w.heap.size ≤ b → SlAt w' b (fun _ => sl0) 0 → K (.pointer (some ⟨b, 0, none⟩)) w') : callF Tryz.prog F_slot_New #[] w K := by
  apply slot_New_call
  unfold slot_New
  refine newAs (cs' := ⟨sl0.v ++ sl0.v ++ sl0.v ++ [.int .i64 0]⟩) (by kernel_rfl) ?_
  refine New.intro fun w1 f1 hB1 s1 => h _ w1 f1 (Nat.le_refl _) ⟨_, hB1, fun i hi j v hj => ?_, by rfl, fun i hi => sl0_ok 0⟩
  have hj : sl0.v[j]? = some v := hj
  have hlt := (List.getElem?_eq_some_iff.1 hj).1
  have hl : sl0.v.length = 20 := (sl0_ok 0).v_len
  show Array.getD ⟨sl0.v ++ sl0.v ++ sl0.v ++ [.int .i64 0]⟩ (i * 20 + j) undef = v
  rw [Array.getD_eq_getD_getElem?, List.getElem?_toArray]
  have e : (sl0.v ++ sl0.v ++ sl0.v ++ [.int .i64 0])[i * 20 + j]? = some v := by
    match i, hi with
    | 0, _ => rw [List.getElem?_append_left (by simp; omega), List.getElem?_append_left (by simp; omega), List.getElem?_append_left (by omega)]; rw [Nat.zero_mul, Nat.zero_add]; exact hj
    | 1, _ => rw [List.getElem?_append_left (by simp; omega), List.getElem?_append_left (by simp; omega), List.getElem?_append_right (by omega), hl, show 1 * 20 + j - 20 = j by omega]; exact hj
    | 2, _ => rw [List.getElem?_append_left (by simp; omega), List.getElem?_append_right (by simp; omega), List.length_append, hl, show 2 * 20 + j - (20 + 20) = j by omega]; exact hj
  rw [e]; rfl
def ofS (sl : Nat → SL) (n : Int) : SL := if 0 ≤ n ∧ n < 3 then sl n.toNat else sl0
def occ (sl : Nat → SL) (n : Int) : Prop := (0 ≤ n ∧ n < 3) ∧ (sl n.toNat).st ≠ 0
instance (sl : Nat → SL) (n : Int) : Decidable (occ sl n) := by unfold occ; infer_instance
theorem ofS_ok (h : SlAt w b sl t) (n : Int) : (ofS sl n).ok t := by
  unfold ofS; split
  · exact h.ok (by omega)
  · exact sl0_ok t
set_option maxHeartbeats 1000000 in
theorem slotOf_c (h : SlAt w b sl t) {n : Int} (hk : ∀ w', Fr [] w w' → K (.tuple #[.agg ⟨(ofS sl n).c⟩, .bool (decide (occ sl n))]) w') : callF Tryz.prog F_slot_Slots_Of #[.pointer (some ⟨b, 0, none⟩), .int .i64 n] w K := by
  apply slot_Slots_Of_call
  unfold slot_Slots_Of
  refine newZ (s := 19) (by kernel_rfl) fun w1 g1 f1 hB1 s1 => ?_
  have hno : ¬ occ sl n → (ofS sl n).c = sl0.c := by
    intro ho
    unfold ofS
    split
    · rename_i hr
      have h0 : (sl n.toNat).st = 0 := by
        by_cases h0 : (sl n.toNat).st = 0
        · exact h0
        · exact absurd ⟨hr, h0⟩ ho
      rw [(h.ok (show n.toNat < 3 by omega)).2.2.1 h0]
    · rfl
  have none_ : ¬ occ sl n → ∀ {b5 : Bool} {p : Option Addr}, slot_Slots_Of_j2 ⟨w.heap.size, 0, none⟩ b5 p true w1 K := by
    intro ho b5 p
    unfold slot_Slots_Of_j2
    refine cond_t ?_
    refine stoCfg (m := 0) (s := 0) (n := 0) (key := z16k) hB1 rfl fun w2 f2 hC2 s2 => ⟨_, _, rfl, hC2.ld rfl, ?_⟩
    have := hk w2 (f1.st f2 (Nat.le_refl _))
    rw [hno ho, decide_eq_false ho] at this
    have e0 : sl0.c = cfgV 0 0 0 z16k := rfl
    rw [e0] at this
    exact this
  refine slotAt_c (fun hb => ?_) fun i hn hi => ?_
  · refine ⟨_, rfl, _, _, ptrNil (by kernel_rfl), cond_t ?_⟩
    exact none_ (fun ho => hb ho.1)
  · subst hn
    refine ⟨_, rfl, _, _, ptrNil (by kernel_rfl), cond_f ⟨_, rfl, _, (h.fr0 f1).stLd hi, ?_⟩⟩
    by_cases h0 : (sl i).st = 0
    · have e : ((((sl i).st : Nat) : Int) == 0) = true := by rw [h0]; rfl
      rw [e]
      have hno2 : ¬ occ sl (i : Int) := by
        rintro ⟨_, hh⟩
        rw [Int.toNat_natCast] at hh
        exact hh h0
      exact none_ hno2
    · have e : ((((sl i).st : Nat) : Int) == 0) = false := by simp [h0]
      rw [e]
      unfold slot_Slots_Of_j2
      refine cond_f ?_
      unfold slot_Slots_Of_j1
      refine ⟨_, rfl, _, by rw [add_mk, Nat.add_zero]; exact (h.fr0 f1).cfgLd hi, ?_⟩
      have hl := (h.ok hi).1
      refine stoCfg hB1 hl fun w2 f2 hC2 s2 => ⟨_, _, rfl, hC2.ld hl, ?_⟩
      have := hk w2 (f1.st f2 (Nat.le_refl _))
      have ho : occ sl (i : Int) := ⟨by omega, by rw [Int.toNat_natCast]; exact h0⟩
      have eo : ofS sl (i : Int) = sl i := by unfold ofS; rw [if_pos (by omega), Int.toNat_natCast]
      rw [eo, decide_eq_true ho] at this
      exact this
def insE (sl : Nat → SL) (i m s n : Int) (key : List UInt8) : Int := if ¬ (0 ≤ i ∧ i < 3) then 11 else if ¬ okC m s n key then 10 else if occ sl i then 16 else 0
set_option maxHeartbeats 1000000 in
theorem slotInstall_c (h : SlAt w b sl t) (ht : t < 1000000000) {i m s n : Int} {key : List UInt8} (hl : key.length = 16)
    (hk : ∀ w' sl' t', Fr [b] w w' → SlAt w' b sl' t' → (insE sl i m s n key ≠ 0 → sl' = sl ∧ t' = t) → (insE sl i m s n key = 0 → sl' = setS sl i.toNat ⟨m, s, n, key, t + 1⟩ ∧ t' = t + 1) → K (.int .i64 (insE sl i m s n key)) w') :
    callF Tryz.prog F_slot_Slots_Install #[.pointer (some ⟨b, 0, none⟩), .int .i64 i, .agg ⟨cfgV m s n key⟩] w K := by
  apply slot_Slots_Install_call
  unfold slot_Slots_Install
  have hb := h.lt
  refine newCfg hl fun w1 f1 hC1 s1 => ?_
  have same : ∀ e, insE sl i m s n key = e → e ≠ 0 → ∀ w', Fr [] w w' → K (.int .i64 e) w' := by
    intro e he h0 w' f
    have := hk w' sl t (f.mono (by simp)) (h.fr0 f) (fun _ => ⟨rfl, rfl⟩) (fun hh => absurd (he.symm.trans hh) h0)
    rw [he] at this; exact this
  refine slotAt_c (fun hb => ?_) fun j hn hj => ?_
  · refine ⟨_, rfl, _, _, ptrNil (by kernel_rfl), cond_t (same 11 ?_ (by omega) w1 f1)⟩
    unfold insE; rw [if_pos hb]
  · subst hn
    have hr : ¬ ¬ ((0 : Int) ≤ (j : Int) ∧ (j : Int) < 3) := fun hh => hh (by omega)
    refine ⟨_, rfl, _, _, ptrNil (by kernel_rfl), cond_f ⟨_, hC1.ld hl, ?_⟩⟩
    refine Right_c hl fun w2 f2 => ⟨_, rfl, ?_⟩
    have f02 := f1.then f2
    by_cases hok : okC m s n key
    · rw [decide_eq_true hok]
      refine cond_f ⟨_, rfl, _, (h.fr0 f02).stLd hj, ?_⟩
      have hok' : ¬ ¬ okC m s n key := fun hh => hh hok
      refine cond_ne (fun h0 => same 16 ?_ (by omega) w2 f02) fun h0 => ?_
      · have ho : occ sl (j : Int) := ⟨by omega, by rw [Int.toNat_natCast]; omega⟩
        unfold insE; rw [if_neg hr, if_neg hok', if_pos ho]
      · have ho : ¬ occ sl (j : Int) := fun hh => hh.2 (by rw [Int.toNat_natCast]; omega)
        have he : insE sl (j : Int) m s n key = 0 := by unfold insE; rw [if_neg hr, if_neg hok', if_neg ho]
        unfold slot_Slots_Install_j1
        refine ⟨_, rfl, _, (h.fr0 f02).cntLd, _, rfl, ?_⟩
        have ew : IntKind.i64.wrap ((t : Int) + 1) = ((t + 1 : Nat) : Int) := by rw [wrap64 (by omega) (by omega)]; omega
        rw [ew]
        refine (h.fr0 f02).cntSto fun w3 f3 h3 s3 => ⟨fun w' => Fr [] w3 w', Drw.intro fun w4 f4 s4 => ?_⟩
        have hC3 := (hC1.fr0 f2).fr f3 (by simp; omega)
        refine ⟨_, rfl, _, ⟨f4, fun w' hw' => (hC3.fr0 hw').ld hl⟩, _, (h3.fr0 f4).cntLd, .inl rfl, ?_⟩
        have hx : SL.ok ⟨m, s, n, key, t + 1⟩ (t + 1) := ⟨hl, Nat.le_refl _, fun hh => absurd hh (by simp), fun _ => hok⟩
        refine ⟨(⟨SL.v ⟨m, s, n, key, t + 1⟩⟩ : Array Value), ?_, _, rfl, ?_⟩
        · obtain ⟨x0, x1, x2, x3, x4, x5, x6, x7, x8, x9, xa, xb, xc, xd, xe, xf, rfl⟩ := list16 hl
          unfold Pu; kernel_rfl
        · refine (h3.fr0 f4).sto hj hx fun w5 f5 h5 s5 => ?_
          have := hk w5 _ _ ((((f02.mono (by simp)).trans f3 (fun x hx => .inl hx)).then f4).trans f5 (fun x hx => .inl hx)) h5 (fun hh => absurd he hh) (fun _ => ⟨rfl, rfl⟩)
          rw [he] at this
          exact this
    · rw [decide_eq_false hok]
      refine cond_t (same 10 ?_ (by omega) w2 f02)
      unfold insE; rw [if_neg hr, if_pos hok]
end
end Go.Sh
end

section
namespace Go.Sh
open Go Go.Fw Go.Proofs
set_option maxRecDepth 100000
set_option linter.unusedVariables false
structure PR where
  e : Int
  p : Int
  a : List UInt8
  b : List UInt8
def PR.bad (e : Int) : PR := ⟨e, 0, [], []⟩
def bkR (x : SL) (id : List UInt8) : PR := ⟨bkE x.m x.s x.n x.key id, bkP x.m x.s x.n x.key id, bkS x.m x.s x.n x.key id, bkN x.m x.s x.n x.key id⟩
def ptO (id : List UInt8) : Nat := (fl id 0).toNat / 64
def showR (sl : Nat → SL) (id : List UInt8) : PR := if id.length = 0 then .bad 12 else if occ sl (ptO id : Int) then bkR (ofS sl (ptO id : Int)) id else .bad 17
def SL.size (x : SL) : Nat := (1 + (x.s + x.n)).toNat
def shortR (sl : Nat → SL) (id : List UInt8) : PR := if id.length < 2 then .bad 12 else if occ sl (ptO (id.drop 1) : Int) then (if (id.drop 1).length < (ofS sl (ptO (id.drop 1) : Int)).size then .bad 12 else bkR (ofS sl (ptO (id.drop 1) : Int)) ((id.drop 1).take (ofS sl (ptO (id.drop 1) : Int)).size)) else .bad 17
def prT (r : PR) (q1 : Option Addr) (d1 : Nat) (q2 : Option Addr) (d2 : Nat) : Value := .tuple #[.agg ⟨partsL r.p q1 r.a.length d1 q2 r.b.length d2⟩, .int .i64 r.e]
section
variable {w : World} {b t : Nat} {sl : Nat → SL} {K : Value → World → Prop}
def prK (r : PR) (K : Value → World → Prop) (w : World) : Prop := ∀ q1 d1 q2 d2 w', Fr [] w w' → OB w' q1 r.a.length d1 r.a w.heap.size → OB w' q2 r.b.length d2 r.b w.heap.size → K (prT r q1 d1 q2 d2) w'
theorem badP {kb : Nat} {w0 : World} {e : Int} {f : Nat → Value} (hB : Blk w kb 3 f) (f0 : Fr [] w0 w) (hk : w0.heap.size ≤ kb) (h : prK (.bad e) K w0) :
    ∃ w2, Sto Tryz.prog T_codec_Parts (.pointer (some ⟨kb, 0, none⟩)) (.agg #[.int .i64 0, .slice none 0 0, .slice none 0 0]) w w2 ∧ ∃ (a4 : Addr) (v4 : Value), (.pointer (some ⟨kb, 0, none⟩) : Value) = .pointer (some a4) ∧ (loadVar T_codec_Parts a4).run Tryz.prog w2 = .ok v4 w2 ∧ K (.tuple #[v4, .int .i64 e]) w2 := by
  refine stoP hB (cs := partsL 0 none 0 0 none 0 0) rfl (parts_one _ _ _ _ _ _ _) fun w3 f3 hB3 hLd => ⟨_, _, rfl, hLd, ?_⟩
  exact h none 0 none 0 w3 (f0.st f3 hk) (OB.nil _ _) (OB.nil _ _)
theorem occ_ok (h : SlAt w b sl t) {n : Int} (ho : occ sl n) : okC (ofS sl n).m (ofS sl n).s (ofS sl n).n (ofS sl n).key := by
  have e : ofS sl n = sl n.toNat := by unfold ofS; rw [if_pos ho.1]
  rw [e]
  exact (h.ok (show n.toNat < 3 by have := ho.1; omega)).2.2.2 ho.2
theorem backO_c {m s n : Int} {key : List UInt8} {p1 : Option Addr} {l1 c1 : Nat} {id : List UInt8} (hk : key.length = 16) (h1 : Row w p1 (id.map vb)) (hl1 : l1 = id.length) (hc1 : l1 ≤ c1) (hlb : l1 < 1000000)
    (h : ∀ q1 d1 q2 d2 w', Fr [] w w' → OB w' q1 (bkS m s n key id).length d1 (bkS m s n key id) w.heap.size → OB w' q2 (bkN m s n key id).length d2 (bkN m s n key id) w.heap.size → K (bkT m s n key id q1 d1 q2 d2) w') :
    callF Tryz.prog F_codec_Back #[.agg ⟨cfgV m s n key⟩, .slice p1 l1 c1] w K := by
  refine codecBack_c hk h1 hl1 hc1 hlb (fun hb er w' f he => ?_) (fun hb q1 d1 q2 d2 w' f hO1 hO2 => ?_)
  · unfold bkT bkP bkS bkN bkE at h
    rw [if_neg hb, if_neg hb, if_neg hb, if_neg hb, ← he] at h
    exact h none 0 none 0 w' f (OB.nil _ _) (OB.nil _ _)
  · obtain ⟨e1, e2⟩ := bk_len hb
    have g1 : bkS m s n key id = (turnC true m key (id.drop 1)).take s.toNat := by unfold bkS; rw [if_pos hb]
    have g2 : bkN m s n key id = (turnC true m key (id.drop 1)).drop s.toNat := by unfold bkN; rw [if_pos hb]
    rw [← g1] at hO1
    rw [← g2] at hO2
    have := h q1 d1 q2 d2 w' f (by rw [e1]; exact hO1) (by rw [e2]; exact hO2)
    unfold bkT at this
    rw [e1, e2] at this
    unfold bkP bkE at this
    rw [if_pos hb, if_pos hb] at this
    exact this
theorem tellP {kb : Nat} {w0 : World} {x : SL} {id : List UInt8} {q1 q2 : Option Addr} {d1 d2 lo : Nat} {f : Nat → Value} (hB : Blk w kb 3 f) (f0 : Fr [] w0 w) (hk : w0.heap.size ≤ kb) (hlo : kb < lo) (h1 : OB w q1 (bkR x id).a.length d1 (bkR x id).a lo) (h2 : OB w q2 (bkR x id).b.length d2 (bkR x id).b lo) (h : prK (bkR x id) K w0) :
    ∃ w2, Sto Tryz.prog T_codec_Parts (.pointer (some ⟨kb, 0, none⟩)) (.agg #[.int .i64 (bkP x.m x.s x.n x.key id), .slice q1 (bkS x.m x.s x.n x.key id).length d1, .slice q2 (bkN x.m x.s x.n x.key id).length d2]) w w2 ∧ ∃ (a4 : Addr) (v4 : Value), (.pointer (some ⟨kb, 0, none⟩) : Value) = .pointer (some a4) ∧ (loadVar T_codec_Parts a4).run Tryz.prog w2 = .ok v4 w2 ∧ K (.tuple #[v4, .int .i64 (bkE x.m x.s x.n x.key id)]) w2 := by
  refine stoP hB (cs := partsL (bkP x.m x.s x.n x.key id) q1 (bkS x.m x.s x.n x.key id).length d1 q2 (bkN x.m x.s x.n x.key id).length d2) rfl (parts_one _ _ _ _ _ _ _) fun w3 f3 hB3 hLd => ⟨_, _, rfl, hLd, ?_⟩
  have hs : ∀ k ∈ [kb], k < lo := fun k hk => by simp at hk; omega
  exact h q1 d1 q2 d2 w3 (f0.st f3 hk) ((h1.fr_sep f3 hlo).mono (by omega)) ((h2.fr_sep f3 hlo).mono (by omega))
set_option maxHeartbeats 1000000 in
theorem slotShow_c (h : SlAt w b sl t) {p : Option Addr} {l c : Nat} {id : List UInt8} (hx : Row w p (id.map vb)) (hl : l = id.length) (hc : l ≤ c) (hlb : l < 1000000) (hk : prK (showR sl id) K w) : callF Tryz.prog F_slot_Slots_Show #[.pointer (some ⟨b, 0, none⟩), .slice p l c] w K := by
  apply slot_Slots_Show_call
  unfold slot_Slots_Show
  refine newZ (s := 3) (by kernel_rfl) fun w1 g1 f1 hB1 s1 => ?_
  unfold showR at hk
  refine cond_d (fun h0 => ?_) fun h0 => ?_
  · rw [if_pos (by omega)] at hk
    exact badP hB1 f1 (Nat.le_refl _) hk
  · rw [if_neg (by omega)] at hk
    obtain ⟨a, ha, hca⟩ := row_get (t := T_S_uint8) (by kernel_rfl) (hx.fr0 f1) (c := c) hl (i := 0) (by omega) (k := .i64)
    refine ⟨a, ha, _, Ld.cell (by kernel_rfl) hca, Point_c ⟨_, rfl, ?_⟩⟩
    have ept : (((id.getD 0 0).toNat / 64 : Nat) : Int) = (ptO id : Int) := rfl
    rw [ept]
    refine slotOf_c (h.fr0 f1) fun w2 f2 => ⟨_, _, rfl, ?_⟩
    have hok := ofS_ok h (ptO id : Int)
    obtain ⟨x, hxe⟩ : ∃ x, x = ofS sl (ptO id : Int) := ⟨_, rfl⟩
    rw [← hxe] at hok hk ⊢
    refine newZ (s := 19) (by kernel_rfl) fun w3 g3 f3 hB3 s3 => ?_
    refine stoCfg (m := x.m) (s := x.s) (n := x.n) (key := x.key) hB3 hok.1 fun w4 f4 hC4 s4 => ?_
    have f24 : Fr [] w2 w4 := f3.st f4 (Nat.le_refl _)
    have f14 := f2.then f24
    have f04 := f1.then f14
    have hB4 := hB1.fr0 f14
    by_cases ho : occ sl (ptO id : Int)
    · rw [decide_eq_true ho]
      rw [if_pos ho] at hk
      refine cond_f ⟨_, hC4.ld hok.1, ?_⟩
      refine backO_c hok.1 (hx.fr0 f04) hl hc hlb fun q1 d1 q2 d2 w5 f5 hO1 hO2 => ⟨_, _, _, _, _, _, _, _, rfl, ?_⟩
      have n4 := f14.size
      exact tellP (hB4.fr0 f5) (f04.then f5) (Nat.le_refl _) (by omega) hO1 hO2 hk
    · rw [decide_eq_false ho]
      rw [if_neg ho] at hk
      exact cond_t (badP hB4 f04 (Nat.le_refl _) hk)
set_option maxHeartbeats 1000000 in
theorem slotShort_c (h : SlAt w b sl t) {p : Option Addr} {l c : Nat} {id : List UInt8} (hx : Row w p (id.map vb)) (hl : l = id.length) (hc : l ≤ c) (hlb : l < 1000000) (hk : prK (shortR sl id) K w) : callF Tryz.prog F_slot_Slots_Short #[.pointer (some ⟨b, 0, none⟩), .slice p l c] w K := by
  apply slot_Slots_Short_call
  unfold slot_Slots_Short
  refine newZ (s := 3) (by kernel_rfl) fun w1 g1 f1 hB1 s1 => ?_
  unfold shortR at hk
  refine cond_d (fun h0 => ?_) fun h0 => ?_
  · rw [if_pos (by omega)] at hk
    exact badP hB1 f1 (Nat.le_refl _) hk
  · rw [if_neg (by omega)] at hk
    refine slFrom (hx.fr0 f1) hl (n := 1) (by omega) hc fun q d hq hql hqc hqs => ?_
    obtain ⟨R, hR⟩ : ∃ R, R = id.drop 1 := ⟨_, rfl⟩
    rw [← hR] at hq hql hk
    obtain ⟨a, ha, hca⟩ := row_get (t := T_S_uint8) (by kernel_rfl) hq (c := d) hql (i := 0) (by omega) (k := .i64)
    refine ⟨a, ha, _, Ld.cell (by kernel_rfl) hca, Point_c ⟨_, rfl, ?_⟩⟩
    have ept : (((R.getD 0 0).toNat / 64 : Nat) : Int) = (ptO R : Int) := rfl
    rw [ept]
    refine slotOf_c (h.fr0 f1) fun w2 f2 => ⟨_, _, rfl, ?_⟩
    have hok := ofS_ok h (ptO R : Int)
    have hocc := occ_ok h (n := (ptO R : Int))
    obtain ⟨x, hxe⟩ : ∃ x, x = ofS sl (ptO R : Int) := ⟨_, rfl⟩
    rw [← hxe] at hok hk hocc ⊢
    refine newZ (s := 19) (by kernel_rfl) fun w3 g3 f3 hB3 s3 => ?_
    refine stoCfg (m := x.m) (s := x.s) (n := x.n) (key := x.key) hB3 hok.1 fun w4 f4 hC4 s4 => ?_
    have f24 : Fr [] w2 w4 := f3.st f4 (Nat.le_refl _)
    have f14 := f2.then f24
    have f04 := f1.then f14
    have hB4 := hB1.fr0 f14
    by_cases ho : occ sl (ptO R : Int)
    · rw [decide_eq_true ho]
      rw [if_pos ho] at hk
      have hc' := hocc ho
      have hc2 := hc'
      unfold okC at hc2
      have esz : (if okC x.m x.s x.n x.key then 1 + (x.s + x.n) else 0) = ((x.size : Nat) : Int) := by rw [if_pos hc']; unfold SL.size; omega
      refine cond_f ⟨_, hC4.ld hok.1, ?_⟩
      refine cfgSize_c hok.1 fun w5 f5 => ⟨_, rfl, ?_⟩
      rw [esz]
      have hC5 := hC4.fr0 f5
      have f15 := f14.then f5
      have f05 := f1.then f15
      refine cond_d (fun h2 => ?_) fun h2 => ?_
      · rw [if_pos (by omega)] at hk
        exact badP (hB1.fr0 f15) f05 (Nat.le_refl _) hk
      · rw [if_neg (by omega)] at hk
        unfold slot_Slots_Short_j1
        refine ⟨fun w' => Fr [] w5 w', Drw.intro fun w6 f6 s6 => ?_⟩
        refine ⟨_, ⟨f6, fun w' hw' => (hC5.fr0 hw').ld hok.1⟩, _, (hC5.fr0 f6).ld hok.1, .inl rfl, ?_⟩
        refine cfgSize_c hok.1 fun w7 f7 => ⟨_, rfl, .inr (f6.then f7), ?_⟩
        rw [esz]
        have f17 := f15.then (f6.then f7)
        refine slTo (hq.fr0 f17) hql (n := x.size) (by omega) hqc fun q8 d8 hq8 hql8 hqc8 hqs8 => ?_
        refine backO_c hok.1 hq8 hql8 hqc8 (by omega) fun q1 d1 q2 d2 w9 f9 hO1 hO2 => ⟨_, _, _, _, _, _, _, _, rfl, ?_⟩
        have n7 := f17.size
        exact tellP (hB1.fr0 (f17.then f9)) (f1.then (f17.then f9)) (Nat.le_refl _) (by omega) hO1 hO2 hk
    · rw [decide_eq_false ho]
      rw [if_neg ho] at hk
      exact cond_t (badP hB4 f04 (Nat.le_refl _) hk)
end
end Go.Sh
end
