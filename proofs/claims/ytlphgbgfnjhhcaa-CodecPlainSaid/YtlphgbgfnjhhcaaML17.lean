/- A part of a proof of a given law of this program: lemmas, printed forms of its functions, contracts. It has no conditions of its own. -/
import Derived.Test.YtlphgbgfnjhhcaaMK
import Derived.Test.YtlphgbgfnjhhcaaML16
import Derived.Test.YtlphgbgfnjhhcaaMSh5

section
namespace Go.Sh
open Go Go.Fw Go.Proofs
set_option maxRecDepth 100000
set_option linter.unusedVariables false
def PAt (w : World) (b : Nat) (cs : List Value) : Prop := ∃ f, Blk w b 3 f ∧ ∀ j v, cs[j]? = some v → f j = v
theorem PAt.fr0 {w w' : World} {b : Nat} {cs : List Value} (h : PAt w b cs) (f : Fr [] w w') : PAt w' b cs := by obtain ⟨g, hB, hc⟩ := h; exact ⟨g, hB.fr0 f, hc⟩
section
variable {w : World} {b : Nat} {pt : Int} {q1 q2 : Option Addr} {l1 d1 l2 d2 : Nat}
theorem PAt.ptLd (h : PAt w b (partsL pt q1 l1 d1 q2 l2 d2)) : Ld Try.prog 3 (.pointer (some ((⟨b, 0, none⟩ : Addr).add 0))) w (.int .i64 pt) := by
  obtain ⟨f, hB, hc⟩ := h; exact Ld.blk (by kernel_rfl) hB (by omega) (hc 0 _ rfl)
theorem PAt.sidLd (h : PAt w b (partsL pt q1 l1 d1 q2 l2 d2)) : Ld Try.prog 50 (.pointer (some ((⟨b, 0, none⟩ : Addr).add 1))) w (.slice q1 l1 d1) := by
  obtain ⟨f, hB, hc⟩ := h; rw [add_mk]; exact Ld.blk (by kernel_rfl) hB (by omega) (hc 1 _ rfl)
theorem PAt.nonceLd (h : PAt w b (partsL pt q1 l1 d1 q2 l2 d2)) : Ld Try.prog 50 (.pointer (some ((⟨b, 0, none⟩ : Addr).add 2))) w (.slice q2 l2 d2) := by
  obtain ⟨f, hB, hc⟩ := h; rw [add_mk]; exact Ld.blk (by kernel_rfl) hB (by omega) (hc 2 _ rfl)
theorem newP {K : Nat → World → Prop} (h : ∀ w', Fr [] w w' → PAt w' w.heap.size (partsL pt q1 l1 d1 q2 l2 d2) → K w.heap.size w') :
    ∃ z, Pu Try.prog (zeroValue 105) z ∧ New z.cells 105 w fun k w2 => ∃ w3, Sto Try.prog 105 (.pointer (some ⟨k, 0, none⟩)) (.agg #[.int .i64 pt, .slice q1 l1 d1, .slice q2 l2 d2]) w2 w3 ∧ K k w3 := by
  refine newZ (s := 3) (by kernel_rfl) fun w2 g2 f2 hB2 s2 => ?_
  refine stoP hB2 (cs := partsL pt q1 l1 d1 q2 l2 d2) rfl (parts_one _ _ _ _ _ _ _) fun w3 f3 hB3 hLd => ?_
  refine h w3 (f2.st f3 (Nat.le_refl _)) ⟨_, hB3, fun j v hj => ?_⟩
  unfold updN
  obtain ⟨h1, h2⟩ := List.getElem?_eq_some_iff.1 hj
  rw [dif_pos ⟨Nat.zero_le _, by simpa using h1⟩]
  simpa using h2
end
def s17 : List UInt8 := [1, 2, 3]
def n17 : List UInt8 := [4, 5, 6, 7]
def i17 : List UInt8 := [71, 1, 2, 3, 4, 5, 6, 7]
def j17 : List UInt8 := [70, 1, 2, 3, 4, 5, 6, 7]
theorem zcfg : (#[.int .i64 0, .int .i64 0, .int .i64 0, .int .u8 0, .int .u8 0, .int .u8 0, .int .u8 0, .int .u8 0, .int .u8 0, .int .u8 0, .int .u8 0, .int .u8 0, .int .u8 0, .int .u8 0, .int .u8 0, .int .u8 0, .int .u8 0, .int .u8 0, .int .u8 0] : Array Value) = ⟨cfgV 0 0 0 z16k⟩ := by kernel_rfl
theorem turn0 (back : Bool) (key text : List UInt8) : turnC back 0 key text = text := by unfold turnC; rw [if_pos rfl]
set_option maxHeartbeats 4000000 in
theorem alive17_c {w : World} {K : Value → World → Prop} (h : ∀ w', Fr [] w w' → K (.bool true) w') : callF Try.prog F_law17_alive #[] w K := by
  apply law17_alive_call
  unfold law17_alive
  refine newZ (s := 19) (by kernel_rfl) fun w1 g1 f1 hB1 s1 => ?_
  obtain ⟨b1, hb1⟩ : ∃ b, b = w.heap.size := ⟨_, rfl⟩
  rw [← hb1] at hB1 ⊢
  refine stoCfg (m := 0) (s := 3) (n := 4) (key := z16k) hB1 rfl fun w2 f2 hC s2 => ?_
  have f02 : Fr [] w w2 := f1.st f2 (by omega)
  refine mkL (n := 3) (xs := s17) rfl rfl (by kernel_rfl) fun ps w3 f3 hs s3 => ?_
  refine mkL (n := 4) (xs := n17) rfl rfl (by kernel_rfl) fun pn w4 f4 hn s4 => ?_
  have f24 := f3.then f4
  have hs4 := hs.fr0 f4
  refine ⟨_, (hC.fr0 f24).ld rfl, ?_⟩
  refine Make_c (sid := s17) (nonce := n17) rfl hs4.row rfl (by decide) hn.row rfl (by decide) (fun hh => absurd okc0 hh) (fun _ hh => absurd (by unfold okMk; decide) hh) fun _ _ pi di w5 f5 hi => ⟨_, _, _, _, rfl, ?_⟩
  have ei : headB (1 : Int).toNat (3 + 4) :: turnC false 0 z16k (s17 ++ n17) = i17 := by rw [turn0]; decide +kernel
  rw [ei] at hi
  have f25 := f24.then f5
  refine ⟨_, (hC.fr0 f25).ld rfl, ?_⟩
  have bk : okBk 0 3 4 z16k i17 := by unfold okBk; decide
  refine codecBack_c (id := i17) rfl hi.row rfl hi.cap (by decide) (fun hh => absurd bk hh) fun _ qa da qb db w6 f6 ha hb => ⟨_, _, _, _, _, _, _, _, rfl, ?_⟩
  rw [turn0] at ha hb
  have f26 := f25.then f6
  refine newP fun w7 f7 hP => ?_
  have f27 := f26.then f7
  refine ⟨_, (hC.fr0 f27).ld rfl, ?_⟩
  refine mkL (n := 8) (xs := j17) rfl rfl (by kernel_rfl) fun pj w8 f8 hj s8 => ?_
  have f28 := f27.then f8
  refine codecBack_c (m := 0) (s := 3) (n := 4) (key := z16k) (id := j17) rfl hj.row rfl (by decide) (by decide) (fun _ er w9 f9 he => ⟨_, _, _, _, _, _, _, _, rfl, ?_⟩) fun hh => absurd hh (by unfold okBk; decide)
  have e10 : er = 10 := by rw [he, if_pos okc0, if_pos (by decide)]
  subst e10
  have f29 := f28.then f9
  refine newP fun w10 f10 hP2 => ?_
  have f210 := f29.then f10
  refine ⟨_, (hC.fr0 f210).ld rfl, ?_⟩
  have g410 := ((((f5.then f6).then f7).then f8).then f9).then f10
  refine Make_c (sid := s17) (nonce := n17) rfl (hs4.row.fr0 g410) rfl (by decide) (hn.row.fr0 g410) rfl (by decide) (fun hh => absurd okc0 hh) (fun _ _ w11 f11 => ⟨_, _, _, _, rfl, ?_⟩) fun _ hh => absurd hh (by unfold okMk; decide)
  rw [zcfg]
  have g511 := ((((f6.then f7).then f8).then f9).then f10).then f11
  have nz : ¬ okC 0 0 0 z16k := by decide
  refine codecBack_c (id := i17) rfl (hi.row.fr0 g511) rfl hi.cap (by decide) (fun _ er2 w12 f12 he2 => ⟨_, _, _, _, _, _, _, _, rfl, ?_⟩) fun hh => absurd hh.1 nz
  have e19 : er2 = 19 := by rw [he2, if_neg nz]
  subst e19
  refine newP fun w13 f13 hP3 => ?_
  have g413 := ((g410.then f11).then f12).then f13
  refine Plain_c (rest := n17) (hn.row.fr0 g413) rfl (by decide) (fun hh => absurd (by unfold okPl; decide) hh) fun _ pz dz w14 f14 hz => ⟨_, _, _, _, rfl, ?_⟩
  have ez : headB (3 : Int).toNat 4 :: n17 = [196, 4, 5, 6, 7] := by decide +kernel
  rw [ez] at hz
  refine cond_t (cond_t (cond_t (cond_t (cond_t (cond_t ?_)))))
  refine mkL (n := 8) (xs := i17) rfl rfl (by kernel_rfl) fun pk w15 f15 hk s15 => ?_
  have g515 := (((g511.then f12).then f13).then f14).then f15
  refine SameBytes_c (hi.row.fr0 g515) rfl hk.row rfl (by decide) fun w16 f16 => ⟨_, rfl, ?_⟩
  rw [decide_eq_true rfl]
  have g716 := ((((((f8.then f9).then f10).then f11).then f12).then f13).then f14).then (f15.then f16)
  have hP' := hP.fr0 g716
  refine cond_t ⟨_, hP'.ptLd, cond_t ⟨_, _, _, hP'.sidLd, ?_⟩⟩
  have g616 := f7.then g716
  have g416 := ((g413.then f14).then f15).then f16
  have e1 : (i17.drop 1).take (3 : Int).toNat = s17 := by decide
  have e2 : (i17.drop 1).drop (3 : Int).toNat = n17 := by decide
  rw [e1] at ha
  rw [e2] at hb
  refine SameBytes_c (ha.row.fr0 g616) rfl (hs4.row.fr0 g416) rfl (by decide) fun w17 f17 => ⟨_, rfl, ?_⟩
  rw [decide_eq_true rfl]
  refine cond_t ⟨_, _, _, (hP'.fr0 f17).nonceLd, ?_⟩
  refine SameBytes_c (hb.row.fr0 (g616.then f17)) rfl (hn.row.fr0 (g416.then f17)) rfl (by decide) fun w18 f18 => ⟨_, rfl, ?_⟩
  rw [decide_eq_true rfl]
  refine cond_t ?_
  refine mkL (n := 5) (xs := [196, 4, 5, 6, 7]) rfl rfl (by kernel_rfl) fun pv w19 f19 hv s19 => ?_
  refine SameBytes_c (hz.row.fr0 ((f15.then f16).then ((f17.then f18).then f19))) rfl hv.row rfl (by decide) fun w20 f20 => ⟨_, rfl, ?_⟩
  rw [decide_eq_true rfl]
  refine cond_t (Point_c (x := 128) ⟨_, rfl, cond_t (Told_c (x := 71) ⟨_, rfl, ?_⟩)⟩)
  exact h w20 ((f02.then (f24.then g416)).then (((f17.then f18).then f19).then f20))
end Go.Sh
end

section
namespace Go.Sh
open Go Go.Fw Go.Proofs
set_option maxRecDepth 100000
set_option linter.unusedVariables false
theorem headB_self (x : UInt8) : headB (x.toNat / 64) (x.toNat % 64) = x := by
  unfold headB
  rw [show 64 * (x.toNat / 64) + x.toNat % 64 = x.toNat by omega]
  simp
theorem takeDrop {s n : Nat} {a b : List UInt8} (ha : a.length = s) : (a ++ b).take s = a ∧ (a ++ b).drop s = b := by subst ha; simp
section
variable {w : World} {m s n : Int} {key : List UInt8} {K : Value → World → Prop}
set_option maxHeartbeats 2000000 in
theorem CodecBack_tail {b0 : Nat} {id : List UInt8} {p4 : Option Addr} {l4 c4 : Nat} (ho : okC m s n key) (hk : key.length = 16) (hC : Cfg w b0 m s n key) (h4 : Row w p4 (id.map vb)) (hl4 : l4 = id.length) (hc4 : l4 ≤ c4)
    (h : ∀ w', Fr [] w w' → K (.bool true) w') : law17_CodecBack_j2 p4 l4 c4 ⟨b0, 0, none⟩ false w K := by
  unfold law17_CodecBack_j2
  refine ⟨_, hC.ld hk, cfgSize_c hk fun w1 f1 => ⟨_, rfl, ?_⟩⟩
  rw [if_pos ho]
  have ho' := ho
  unfold okC at ho'
  refine cond_ne (fun _ => h w1 f1) fun hlen => cond_eq (fun _ => h w1 f1) fun h0 => ?_
  obtain ⟨a, ha, hca⟩ := row_get (t := 50) (by kernel_rfl) (h4.fr0 f1) (c := c4) hl4 (i := 0) (by omega) (k := .i64)
  refine ⟨a, ha, _, Ld.cell (by kernel_rfl) hca, Told_c ⟨_, rfl, cond_ne (fun _ => h w1 f1) fun htold => ?_⟩⟩
  have htold' : (((fl id 0).toNat % 64 + 1 : Nat) : Int) = (l4 : Int) := htold
  refine ⟨a, ha, _, Ld.cell (by kernel_rfl) hca, Point_c ⟨_, rfl, cond_eq (fun _ => h w1 f1) fun hpt => ?_⟩⟩
  have hpt' : ¬ (((fl id 0).toNat / 64 : Nat) : Int) = 3 := hpt
  have hC1 := hC.fr0 f1
  have bk : okBk m s n key id := ⟨ho, by omega, by omega⟩
  unfold law17_CodecBack_j1
  refine ⟨_, hC1.ld hk, codecBack_c hk (h4.fr0 f1) hl4 hc4 (by omega) (fun hh => absurd bk hh) fun _ qa da qb db w2 f2 hA hB => ⟨_, _, _, _, _, _, _, _, rfl, ?_⟩⟩
  have f02 := f1.then f2
  refine newP fun w3 f3 hP => ?_
  have f03 := f02.then f3
  have g13 := f2.then f3
  refine ⟨_, (hC1.fr0 g13).ld hk, _, hP.ptLd, _, _, _, hP.sidLd, _, _, _, hP.nonceLd, ?_⟩
  obtain ⟨x, hx⟩ : ∃ x, x = fl id 0 := ⟨_, rfl⟩
  have hx255 := x.toNat_lt
  rw [← hx] at hpt' htold' ⊢
  obtain ⟨T, hT⟩ : ∃ T, T = turnC true m key (id.drop 1) := ⟨_, rfl⟩
  rw [← hT] at hA hB
  have hTl : T.length = id.length - 1 := by rw [hT, turnC_len true ho (by rw [List.length_drop]; omega), List.length_drop]
  refine Make_c (sid := T.take s.toNat) (nonce := T.drop s.toNat) hk (hA.row.fr0 f3) hA.2.1 hA.cap (hB.row.fr0 f3) hB.2.1 hB.cap (fun hh => absurd ho hh) (fun _ hh => absurd ⟨by omega, by omega, by omega, by omega⟩ hh) fun _ _ qo do_ w4 f4 hO => ⟨_, _, _, _, rfl, cond_t (cond_t ?_)⟩
  rw [List.take_append_drop, hT, back_turn ho hk (by rw [List.length_drop]; omega), Int.toNat_natCast] at hO
  have ei : headB (x.toNat / 64) (s.toNat + n.toNat) :: id.drop 1 = id := by
    have : s.toNat + n.toNat = x.toNat % 64 := by omega
    rw [this, headB_self]
    have hid : 0 < id.length := by omega
    cases hid' : id with
    | nil => rw [hid'] at hid; simp at hid
    | cons y ys => rw [hx, hid']; rfl
  rw [ei] at hO
  refine SameBytes_c hO.row hO.2.1 (h4.fr0 (f03.then f4)) hl4 (by omega) fun w5 f5 => ⟨_, rfl, ?_⟩
  rw [decide_same rfl]
  exact h w5 ((f03.then f4).then f5)
set_option maxHeartbeats 2000000 in
theorem CodecBack_c {p2 p3 p4 : Option Addr} {l2 c2 l3 c3 l4 c4 : Nat} {sid nonce id : List UInt8} (point : Int) (hk : key.length = 16) (h2 : Row w p2 (sid.map vb)) (hl2 : l2 = sid.length) (hc2 : l2 ≤ c2) (h3 : Row w p3 (nonce.map vb)) (hl3 : l3 = nonce.length) (hc3 : l3 ≤ c3) (h4 : Row w p4 (id.map vb)) (hl4 : l4 = id.length) (hc4 : l4 ≤ c4)
    (h : ∀ w', Fr [] w w' → K (.bool true) w') : callF Try.prog F_law17_CodecBack #[.agg ⟨cfgV m s n key⟩, .int .i64 point, .slice p2 l2 c2, .slice p3 l3 c3, .slice p4 l4 c4] w K := by
  apply law17_CodecBack_call
  unfold law17_CodecBack
  refine newCfg hk fun w1 f1 hC s1 => ?_
  refine alive17_c fun w2 f2 => ⟨_, rfl, cond_f ?_⟩
  have f02 := f1.then f2
  have hC2 := hC.fr0 f2
  refine ⟨_, hC2.ld hk, Right_c hk fun w3 f3 => ⟨_, rfl, ?_⟩⟩
  have hC3 := hC2.fr0 f3
  have f03 := f02.then f3
  by_cases ho : okC m s n key
  · rw [decide_eq_true ho]
    have ho' := ho
    unfold okC at ho'
    have tail : ∀ w', Fr [] w3 w' → law17_CodecBack_j2 p4 l4 c4 ⟨w.heap.size, 0, none⟩ false w' K := fun w' f => CodecBack_tail ho hk (hC3.fr0 f) (h4.fr0 (f03.then f)) hl4 hc4 fun w'' f' => h w'' ((f03.then f).then f')
    have no : law17_CodecBack_j3 point p2 l2 c2 p3 l3 c3 p4 l4 c4 ⟨w.heap.size, 0, none⟩ false false w3 K := by
      unfold law17_CodecBack_j3
      exact cond_f (tail w3 (Fr.refl _ _))
    refine cond_f ⟨_, hC3.sid, cond_eq (fun g2 => ⟨_, hC3.nonce, cond_eq (fun g3 => cond_d (fun g4 => ?_) (fun _ => no)) (fun _ => no)⟩) (fun _ => no)⟩
    by_cases g5 : point ≤ 2
    · rw [decide_eq_true g5]
      unfold law17_CodecBack_j3
      refine cond_t ⟨_, hC3.ld hk, ?_⟩
      obtain ⟨pt, rfl⟩ := Int.eq_ofNat_of_zero_le (show 0 ≤ point by omega)
      have hmk : okMk m s n key (pt : Int) l2 l3 := ⟨by omega, by omega, g2, g3⟩
      refine Make_c hk (h2.fr0 f03) hl2 hc2 (h3.fr0 f03) hl3 hc3 (fun hh => absurd ho hh) (fun _ hh => absurd hmk hh) fun _ _ pa da w4 f4 ha => ⟨_, _, _, _, rfl, ?_⟩
      rw [Int.toNat_natCast] at ha
      have hSN : ((sid ++ nonce).length : Int) = s + n := by rw [List.length_append]; omega
      have htl := turnC_len false ho hSN
      obtain ⟨A, hA⟩ : ∃ A, A = headB pt (l2 + l3) :: turnC false m key (sid ++ nonce) := ⟨_, rfl⟩
      rw [← hA] at ha
      have hAl : A.length = l2 + l3 + 1 := by rw [hA, List.length_cons, htl, List.length_append]; omega
      have hA0 : fl A 0 = headB pt (l2 + l3) := by rw [hA]; rfl
      have hAd : A.drop 1 = turnC false m key (sid ++ nonce) := by rw [hA]; rfl
      have e64 := headB_point (p := pt) (n := l2 + l3) (by omega) (by omega)
      have e65 := headB_told (p := pt) (n := l2 + l3) (by omega) (by omega)
      have bk : okBk m s n key A := ⟨ho, by omega, by rw [hA0, e65]; omega⟩
      refine ⟨_, (hC3.fr0 f4).ld hk, codecBack_c hk ha.row ha.2.1 ha.cap (by omega) (fun hh => absurd bk hh) fun _ qa da2 qb db2 w5 f5 hS hN => ⟨_, _, _, _, _, _, _, _, rfl, ?_⟩⟩
      rw [hAd, turn_back ho hk hSN] at hS hN
      have tk := takeDrop (s := s.toNat) (n := 0) (a := sid) (b := nonce) (by omega)
      rw [tk.1] at hS
      rw [tk.2] at hN
      refine newP fun w6 f6 hP => ?_
      have g46 := f5.then f6
      have g36 := f4.then g46
      rw [hA0, e64] at hP
      have hC6 := hC3.fr0 g36
      refine cond_f (cond_f ⟨_, hC6.sid, _, hC6.nonce, ?_⟩)
      rw [wrap64 (n := 1 + s) (by omega) (by omega), wrap64 (by omega) (by omega)]
      refine cond_ne (fun hne => by omega) fun _ => ?_
      obtain ⟨a, hix, hca⟩ := (ha.fr0 g46).get (k := .i64) (i := 0) (by omega)
      rw [hA0] at hca
      refine ⟨a, hix, _, Ld.cell (by kernel_rfl) hca, Point_c ⟨_, rfl, ?_⟩⟩
      rw [e64]
      refine cond_ne (fun hne => absurd rfl hne) fun _ => ⟨a, hix, _, Ld.cell (by kernel_rfl) hca, Told_c ⟨_, rfl, ?_⟩⟩
      rw [e65]
      refine cond_ne (fun hne => by omega) fun _ => ⟨_, hP.ptLd, cond_ne (fun hne => absurd rfl hne) fun _ => ⟨_, _, _, hP.sidLd, ?_⟩⟩
      refine SameBytes_c (hS.row.fr0 f6) hS.2.1 (h2.fr0 (f03.then g36)) hl2 (by omega) fun w7 f7 => ⟨_, rfl, ?_⟩
      rw [decide_same rfl]
      refine cond_f ⟨_, _, _, (hP.fr0 f7).nonceLd, ?_⟩
      refine SameBytes_c (hN.row.fr0 (f6.then f7)) hN.2.1 (h3.fr0 ((f03.then g36).then f7)) hl3 (by omega) fun w8 f8 => ⟨_, rfl, ?_⟩
      rw [decide_same rfl]
      exact cond_f (tail w8 ((g36.then f7).then f8))
    · rw [decide_eq_false g5]
      exact no
  · rw [decide_eq_false ho]
    refine cond_t ⟨_, hC3.ld hk, cfgSize_c hk fun w4 f4 => ⟨_, rfl, ?_⟩⟩
    rw [if_neg ho]
    exact h w4 (f03.then f4)
end
end Go.Sh
end

section
namespace Go.Sh
open Go Go.Fw Go.Proofs
set_option maxRecDepth 100000
set_option linter.unusedVariables false
section
variable {w : World} {m s n : Int} {key : List UInt8} {K : Value → World → Prop}
theorem apart_iff {p p' : Nat} {sid nonce sid2 nonce2 : List UInt8} (hp : p < 4) (hp' : p' < 4) (ho : okC m s n key) (hk : key.length = 16) (h1 : (sid.length : Int) = s) (h2 : (nonce.length : Int) = n) (h3 : (sid2.length : Int) = s) (h4 : (nonce2.length : Int) = n) {k : Nat} (hkk : k < 64) :
    (headB p k :: turnC false m key (sid ++ nonce) = headB p' k :: turnC false m key (sid2 ++ nonce2)) ↔ (p = p' ∧ sid = sid2 ∧ nonce = nonce2) := by
  constructor
  · intro h
    injection h with e1 e2
    have e3 : sid ++ nonce = sid2 ++ nonce2 := by
      rw [← turn_back ho hk (text := sid ++ nonce) (by rw [List.length_append]; omega), e2, turn_back ho hk (by rw [List.length_append]; omega)]
    obtain ⟨e4, e5⟩ := List.append_inj e3 (by omega)
    refine ⟨?_, e4, e5⟩
    rw [← headB_point hp hkk, e1, headB_point hp' hkk]
  · rintro ⟨rfl, rfl, rfl⟩; rfl
set_option maxHeartbeats 2000000 in
theorem CodecApart_c {p3 p4 p5 p6 : Option Addr} {l3 c3 l4 c4 l5 c5 l6 c6 : Nat} {sid nonce sid2 nonce2 : List UInt8} (point other : Int) (hk : key.length = 16) (h3 : Row w p3 (sid.map vb)) (hl3 : l3 = sid.length) (hc3 : l3 ≤ c3) (h4 : Row w p4 (nonce.map vb)) (hl4 : l4 = nonce.length) (hc4 : l4 ≤ c4)
    (h5 : Row w p5 (sid2.map vb)) (hl5 : l5 = sid2.length) (hc5 : l5 ≤ c5) (h6 : Row w p6 (nonce2.map vb)) (hl6 : l6 = nonce2.length) (hc6 : l6 ≤ c6)
    (h : ∀ w', Fr [] w w' → K (.bool true) w') : callF Try.prog F_law17_CodecApart #[.agg ⟨cfgV m s n key⟩, .int .i64 point, .int .i64 other, .slice p3 l3 c3, .slice p4 l4 c4, .slice p5 l5 c5, .slice p6 l6 c6] w K := by
  apply law17_CodecApart_call
  unfold law17_CodecApart
  refine newCfg hk fun w1 f1 hC s1 => ?_
  refine alive17_c fun w2 f2 => ⟨_, rfl, cond_f ?_⟩
  have f02 := f1.then f2
  have hC2 := hC.fr0 f2
  have bad1 : ∀ (er : Int) (w3 : World), er ≠ 0 → Fr [] w2 w3 → ∃ (cs31 : Array Value), Ld Try.prog 102 (.pointer (some (⟨w.heap.size, 0, none⟩ : Addr))) w3 (.agg cs31) ∧
      callF Try.prog 90 #[.agg cs31, .int .i64 other, .slice p5 l5 c5, .slice p6 l6 c6] w3 fun r35 w4 =>
      ∃ (p35 : Option Addr) (l35 : Nat) (c35 : Nat) (n35 : Int), r35 = .tuple #[.slice p35 l35 c35, .int .i64 n35] ∧
      cond (er != 0)
      (law17_CodecApart_j3 point other p3 l3 c3 p4 l4 c4 p5 l5 c5 p6 l6 c6 false none 0 0 p35 l35 c35 true w4 K)
      (law17_CodecApart_j3 point other p3 l3 c3 p4 l4 c4 p5 l5 c5 p6 l6 c6 false none 0 0 p35 l35 c35 (n35 != 0) w4 K) := by
    intro er w3 her f3
    have t : ∀ (w4 : World) p35 l35 c35, Fr [] w3 w4 → ∀ B : Prop, cond (er != 0) (law17_CodecApart_j3 point other p3 l3 c3 p4 l4 c4 p5 l5 c5 p6 l6 c6 false none 0 0 p35 l35 c35 true w4 K) B := by
      intro w4 p35 l35 c35 f4 B
      refine cond_ne (fun _ => ?_) fun he => absurd he her
      unfold law17_CodecApart_j3
      exact cond_t (cond_t (h w4 ((f02.then f3).then f4)))
    have g := f02.then f3
    exact ⟨_, (hC2.fr0 f3).ld hk, Make_c hk (h5.fr0 g) hl5 hc5 (h6.fr0 g) hl6 hc6 (fun _ w4 f4 => ⟨_, _, _, _, rfl, t w4 _ _ _ f4 _⟩) (fun _ _ w4 f4 => ⟨_, _, _, _, rfl, t w4 _ _ _ f4 _⟩) fun _ _ q d w4 f4 _ => ⟨_, _, _, _, rfl, t w4 _ _ _ f4 _⟩⟩
  refine ⟨_, hC2.ld hk, Make_c hk (h3.fr0 f02) hl3 hc3 (h4.fr0 f02) hl4 hc4 (fun _ w3 f3 => ⟨_, _, _, _, rfl, bad1 19 w3 (by omega) f3⟩) (fun _ _ w3 f3 => ⟨_, _, _, _, rfl, bad1 11 w3 (by omega) f3⟩) fun ho hm1 pa da w3 f3 ha => ⟨_, _, _, _, rfl, ?_⟩⟩
  have f03 := f02.then f3
  refine ⟨_, (hC2.fr0 f3).ld hk, Make_c hk (h5.fr0 f03) hl5 hc5 (h6.fr0 f03) hl6 hc6 (fun hh => absurd ho hh) (fun _ _ w4 f4 => ⟨_, _, _, _, rfl, ?_⟩) fun _ hm2 pb db w4 f4 hb => ⟨_, _, _, _, rfl, ?_⟩⟩
  · refine cond_f ?_
    unfold law17_CodecApart_j3
    refine cond_t (cond_eq (fun he => by omega) fun _ => ?_)
    exact h w4 (f03.then f4)
  · refine cond_f ?_
    unfold law17_CodecApart_j3
    refine cond_f ?_
    unfold law17_CodecApart_j2
    have f04 := f03.then f4
    have ho' := ho
    unfold okC at ho'
    obtain ⟨a1, a2, a3, a4⟩ := hm1
    obtain ⟨b1, b2, b3, b4⟩ := hm2
    have e5 : l5 = l3 := by omega
    have e6 : l6 = l4 := by omega
    have hq : ∀ p : Int, 0 ≤ p → p ≤ 2 → p.toNat < 4 := fun p _ _ => by omega
    have iff := apart_iff (hq point a1 a2) (hq other b1 b2) ho hk (by omega) (by omega) (by omega) (by omega) (sid := sid) (nonce := nonce) (sid2 := sid2) (nonce2 := nonce2) (k := l3 + l4) (by omega)
    rw [e5, e6] at hb
    have fin : ∀ (w5 : World) (bb : Bool), Fr [] w4 w5 → (bb = true ↔ (point = other ∧ sid = sid2 ∧ nonce = nonce2)) → law17_CodecApart_j1 false pa (l3 + l4 + 1) da pb (l5 + l6 + 1) db bb w5 K := by
      intro w5 bb f5 hbb
      unfold law17_CodecApart_j1
      refine SameBytes_c (ha.row.fr0 (f4.then f5)) ha.2.1 (hb.row.fr0 f5) (by rw [e5, e6]; exact hb.2.1) (by omega) fun w6 f6 => ⟨_, rfl, ?_⟩
      have e : (decide (headB point.toNat (l3 + l4) :: turnC false m key (sid ++ nonce) = headB other.toNat (l3 + l4) :: turnC false m key (sid2 ++ nonce2)) == bb) = true := by
        rw [beq_iff_eq, Bool.eq_iff_iff, decide_eq_true_iff, iff, hbb]
        constructor
        · rintro ⟨x, y⟩; exact ⟨by omega, y⟩
        · rintro ⟨x, y⟩; exact ⟨by omega, y⟩
      rw [e]
      exact h w6 ((f04.then f5).then f6)
    refine cond_eq (fun hpo => ?_) (fun hpo => fin w4 false (Fr.refl _ _) (by simp [hpo]))
    refine SameBytes_c (h3.fr0 f04) hl3 (h5.fr0 f04) hl5 (by omega) fun w5 f5 => ⟨_, rfl, ?_⟩
    by_cases hs : sid = sid2
    · rw [decide_eq_true hs]
      refine cond_t (SameBytes_c (h4.fr0 (f04.then f5)) hl4 (h6.fr0 (f04.then f5)) hl6 (by omega) fun w6 f6 => ⟨_, rfl, ?_⟩)
      exact fin w6 _ (f5.then f6) (by simp [hpo, hs])
    · rw [decide_eq_false hs]
      exact cond_f (fin w5 false f5 (by simp [hs]))
set_option maxHeartbeats 2000000 in
theorem CodecPlain_c {p1 : Option Addr} {l1 c1 : Nat} {nonce : List UInt8} (point : Int) (hk : key.length = 16) (h1 : Row w p1 (nonce.map vb)) (hl1 : l1 = nonce.length) (hc1 : l1 ≤ c1)
    (h : ∀ w', Fr [] w w' → K (.bool true) w') : callF Try.prog F_law17_CodecPlain #[.int .i64 point, .slice p1 l1 c1, .agg ⟨cfgV m s n key⟩] w K := by
  apply law17_CodecPlain_call
  unfold law17_CodecPlain
  refine newCfg hk fun w1 f1 hC s1 => ?_
  refine alive17_c fun w2 f2 => ⟨_, rfl, cond_f ?_⟩
  have f02 := f1.then f2
  refine cond_d (fun _ => h w2 f02) fun hlen => ?_
  have hC2 := hC.fr0 f2
  refine Plain_c (h1.fr0 f02) hl1 hc1 (fun hb w3 f3 => ⟨_, _, _, _, rfl, ?_⟩) fun ho q d w3 f3 hO => ⟨_, _, _, _, rfl, ?_⟩
  · have t : law17_CodecPlain_j5 point p1 l1 c1 ⟨w.heap.size, 0, none⟩ false none 0 0 11 true w3 K := by
      unfold law17_CodecPlain_j5
      exact cond_t (cond_t (h w3 (f02.then f3)))
    refine cond_d (fun _ => t) fun g1 => cond_d (fun _ => t) fun g2 => ?_
    have g3 : (l1 : Int) > 19 := by
      apply Classical.byContradiction
      intro hh; exact hb ⟨by omega, by omega, by omega⟩
    rw [decide_eq_true g3]
    exact t
  · obtain ⟨o1, o2, o3⟩ := ho
    refine cond_d (fun _ => by omega) fun _ => cond_d (fun _ => by omega) fun _ => ?_
    rw [decide_eq_false (by omega)]
    unfold law17_CodecPlain_j5
    refine cond_f ?_
    unfold law17_CodecPlain_j4
    refine cond_f ?_
    rw [wrap64 (by omega) (by omega)]
    refine cond_ne (fun hne => by omega) fun _ => ?_
    obtain ⟨pt, rfl⟩ := Int.eq_ofNat_of_zero_le o1
    rw [Int.toNat_natCast] at hO
    have f03 := f02.then f3
    have e64 := headB_point (p := pt) (n := l1) (by omega) (by omega)
    have e65 := headB_told (p := pt) (n := l1) (by omega) (by omega)
    obtain ⟨A, hA⟩ : ∃ A, A = headB pt l1 :: nonce := ⟨_, rfl⟩
    rw [← hA] at hO
    have hA0 : fl A 0 = headB pt l1 := by rw [hA]; rfl
    have hAd : A.drop 1 = nonce := by rw [hA]; rfl
    have hAl : A.length = l1 + 1 := by rw [hA, List.length_cons, ← hl1]
    obtain ⟨a, hix, hca⟩ := hO.get (k := .i64) (i := 0) (by omega)
    rw [hA0] at hca
    refine ⟨a, hix, _, Ld.cell (by kernel_rfl) hca, Point_c ⟨_, rfl, ?_⟩⟩
    rw [e64]
    refine cond_ne (fun hne => absurd rfl hne) fun _ => ⟨a, hix, _, Ld.cell (by kernel_rfl) hca, Told_c ⟨_, rfl, ?_⟩⟩
    rw [e65]
    refine cond_ne (fun hne => by omega) fun _ => ?_
    refine slFrom hO.row hO.2.1 (n := 1) (by omega) hO.cap fun qt dt ht htl htd _ => ?_
    rw [hAd] at ht htl
    refine SameBytes_c ht htl (h1.fr0 f03) hl1 (by omega) fun w4 f4 => ⟨_, rfl, ?_⟩
    rw [decide_same rfl]
    refine cond_f ?_
    unfold law17_CodecPlain_j3
    have f34 := f3.then f4
    have hC4 := hC2.fr0 f34
    have hO4 := hO.fr0 f4
    have f04 := f03.then f4
    by_cases hbk : okBk m s n key A
    · refine ⟨_, hC4.ld hk, codecBack_c hk hO4.row hO4.2.1 hO4.cap (by omega) (fun hh => absurd hbk hh) fun _ qa da qb db w5 f5 hS hN => ⟨_, _, _, _, _, _, _, _, rfl, ?_⟩⟩
      rw [hA0, e64]
      refine newP fun w6 f6 hP => ?_
      have g46 := f5.then f6
      refine ⟨_, (hC4.fr0 g46).ld hk, Right_c hk fun w7 f7 => ⟨_, rfl, ?_⟩⟩
      rw [decide_eq_true hbk.1]
      have g47 := g46.then f7
      refine cond_f ⟨_, (hC4.fr0 g47).ld hk, cfgSize_c hk fun w8 f8 => ⟨_, rfl, ?_⟩⟩
      rw [if_pos hbk.1]
      have g48 := g47.then f8
      have hbl := hbk.2.1
      have hl8 : (((l1 + 1 : Nat) : Int) != 1 + (s + n)) = false := by
        have : ((l1 + 1 : Nat) : Int) = 1 + (s + n) := by omega
        rw [this]; simp
      rw [hl8]
      unfold law17_CodecPlain_j2
      refine cond_f ?_
      unfold law17_CodecPlain_j1
      have hC8 := hC4.fr0 g48
      have hP8 := (hP.fr0 f7).fr0 f8
      refine ⟨fun w' => Fr [] w8 w', Drw.intro fun w9 f9 s9 => ?_⟩
      have f09 := (f04.then g48).then f9
      refine cond_t ⟨_, (hP8.fr0 f9).ptLd, .inl rfl, cond_eq (fun _ => ⟨_, (hC8.fr0 f9).mode, .inl rfl, ?_⟩) fun hne => absurd rfl hne⟩
      refine cond_ne (fun _ => h w9 f09) fun hm0 => ?_
      refine ⟨_, _, _, ⟨f9, fun w' hw' => (hP8.fr0 hw').sidLd⟩, _, (hC8.fr0 f9).sid, .inl rfl, ?_⟩
      have ho' := hbk.1
      unfold okC at ho'
      obtain ⟨s', rfl⟩ := Int.eq_ofNat_of_zero_le (show 0 ≤ s by omega)
      obtain ⟨n', rfl⟩ := Int.eq_ofNat_of_zero_le (show 0 ≤ n by omega)
      rw [Int.toNat_natCast] at hS
      rw [Int.toNat_natCast, Int.toNat_natCast] at hN
      rw [Int.toNat_natCast]
      rw [hm0, turn0, hAd] at hS hN
      have g59 := ((f6.then f7).then f8).then f9
      refine slTo (h1.fr0 f09) hl1 (n := s') (by omega) hc1 fun q1 d1 hq1 hl1' hd1 _ => ?_
      refine SameBytes_c (hS.row.fr0 g59) hS.2.1 hq1 hl1' (by omega) fun w10 f10 => ⟨_, rfl, .inr (f9.then f10), ?_⟩
      rw [decide_same rfl]
      refine cond_t ⟨_, _, _, ⟨f9.then f10, fun w' hw' => (hP8.fr0 hw').nonceLd⟩, _, (hC8.fr0 (f9.then f10)).sid, .inl rfl, ?_⟩
      refine slFrom (h1.fr0 (f09.then f10)) hl1 (n := s') (by omega) hc1 fun q2 d2 hq2 hl2' hd2 _ => ?_
      refine SameBytes_c (hN.row.fr0 (g59.then f10)) hN.2.1 hq2 hl2' (by omega) fun w11 f11 => ⟨_, rfl, ?_⟩
      rw [decide_same rfl]
      exact h w11 ((f09.then f10).then f11)
    · refine ⟨_, hC4.ld hk, codecBack_c hk hO4.row hO4.2.1 hO4.cap (by omega) (fun _ er w5 f5 he => ⟨_, _, _, _, _, _, _, _, rfl, ?_⟩) fun hh => absurd hh hbk⟩
      have her : er ≠ 0 := by rw [he]; split <;> (try split) <;> decide
      refine newP fun w6 f6 hP => ?_
      have g46 := f5.then f6
      have t : ∀ w', Fr [] w6 w' → law17_CodecPlain_j2 (pt : Int) p1 l1 c1 ⟨w.heap.size, 0, none⟩ false ⟨w5.heap.size, 0, none⟩ er true w' K := by
        intro w' f'
        unfold law17_CodecPlain_j2
        refine cond_t ?_
        have : (er != 0) = true := by simpa using her
        rw [this]
        exact h w' ((f04.then g46).then f')
      refine ⟨_, (hC4.fr0 g46).ld hk, Right_c hk fun w7 f7 => ⟨_, rfl, ?_⟩⟩
      by_cases ho : okC m s n key
      · rw [decide_eq_true ho]
        refine cond_f ⟨_, (hC4.fr0 (g46.then f7)).ld hk, cfgSize_c hk fun w8 f8 => ⟨_, rfl, ?_⟩⟩
        rw [if_pos ho]
        have : (((l1 + 1 : Nat) : Int) != 1 + (s + n)) = true := by
          simp only [bne_iff_ne, ne_eq]
          intro hh
          exact hbk ⟨ho, by omega, by rw [hA0, e65]; omega⟩
        rw [this]
        exact t w8 (f7.then f8)
      · rw [decide_eq_false ho]
        exact cond_t (t w7 f7)
end
end Go.Sh
end
