/- A part of a proof of a given law of this program: lemmas, printed forms of its functions, contracts. It has no conditions of its own. -/
import Derived.Test.YtlphgbgfnjhhcaaGreatMK
import Derived.Test.YtlphgbgfnjhhcaaGreatML16
import Derived.Test.YtlphgbgfnjhhcaaGreatMSh5

section
namespace Go.Sh
open Go Go.Fw Go.Proofs
set_option maxRecDepth 100000
set_option linter.unusedVariables false
def PAt (w : World) (b : Nat) (cs : List Value) : Prop := ∃ f, Blk w b 3 f ∧ ∀ j v, cs[j]? = some v → f j = v
theorem PAt.fr0 {w w' : World} {b : Nat} {cs : List Value} (h : PAt w b cs) (f : Fr [] w w') : PAt w' b cs := by obtain ⟨g, hB, hc⟩ := h; exact ⟨g, hB.fr0 f, hc⟩
section
variable {w : World} {b : Nat} {pt : Int} {q1 q2 : Option Addr} {l1 d1 l2 d2 : Nat}
theorem PAt.ptLd (h : PAt w b (partsL pt q1 l1 d1 q2 l2 d2)) : Ld Tryz.prog T_int (.pointer (some ((⟨b, 0, none⟩ : Addr).add 0))) w (.int .i64 pt) := by
  obtain ⟨f, hB, hc⟩ := h; exact Ld.blk (by kernel_rfl) hB (by omega) (hc 0 _ rfl)
theorem PAt.sidLd (h : PAt w b (partsL pt q1 l1 d1 q2 l2 d2)) : Ld Tryz.prog T_S_uint8 (.pointer (some ((⟨b, 0, none⟩ : Addr).add 1))) w (.slice q1 l1 d1) := by
  obtain ⟨f, hB, hc⟩ := h; rw [add_mk]; exact Ld.blk (by kernel_rfl) hB (by omega) (hc 1 _ rfl)
theorem PAt.nonceLd (h : PAt w b (partsL pt q1 l1 d1 q2 l2 d2)) : Ld Tryz.prog T_S_uint8 (.pointer (some ((⟨b, 0, none⟩ : Addr).add 2))) w (.slice q2 l2 d2) := by
  obtain ⟨f, hB, hc⟩ := h; rw [add_mk]; exact Ld.blk (by kernel_rfl) hB (by omega) (hc 2 _ rfl)
theorem newP {K : Nat → World → Prop} (h : ∀ w', Fr [] w w' → PAt w' w.heap.size (partsL pt q1 l1 d1 q2 l2 d2) → K w.heap.size w') :
    ∃ z, Pu Tryz.prog (zeroValue T_codec_Parts) z ∧ New z.cells T_codec_Parts w fun k w2 => ∃ w3, Sto Tryz.prog T_codec_Parts (.pointer (some ⟨k, 0, none⟩)) (.agg #[.int .i64 pt, .slice q1 l1 d1, .slice q2 l2 d2]) w2 w3 ∧ K k w3 := by
  refine newZ (s := 3) (by kernel_rfl) fun w2 g2 f2 hB2 s2 => ?_
  refine stoP hB2 (cs := partsL pt q1 l1 d1 q2 l2 d2) rfl (parts_one _ _ _ _ _ _ _) fun w3 f3 hB3 hLd => ?_
  refine h w3 (f2.st f3 (Nat.le_refl _)) ⟨_, hB3, fun j v hj => ?_⟩
  unfold updN
  obtain ⟨h1, h2⟩ := List.getElem?_eq_some_iff.1 hj
  rw [dif_pos ⟨Nat.zero_le _, by simpa using h1⟩]
  simpa using h2
end
def s17 : List UInt8 := [1, 2, 3]
def n17 : List UInt8 := [4, 5, 6, 7]
def i17 : List UInt8 := [71, 1, 2, 3, 4, 5, 6, 7]
def j17 : List UInt8 := [70, 1, 2, 3, 4, 5, 6, 7]
theorem zcfg : (#[.int .i64 0, .int .i64 0, .int .i64 0, .int .u8 0, .int .u8 0, .int .u8 0, .int .u8 0, .int .u8 0, .int .u8 0, .int .u8 0, .int .u8 0, .int .u8 0, .int .u8 0, .int .u8 0, .int .u8 0, .int .u8 0, .int .u8 0, .int .u8 0, .int .u8 0] : Array Value) = ⟨cfgV 0 0 0 z16k⟩ := by kernel_rfl
theorem turn0 (back : Bool) (key text : List UInt8) : turnC back 0 key text = text := by unfold turnC; rw [if_pos rfl]
set_option maxHeartbeats 4000000 in
theorem alive17_c {w : World} {K : Value → World → Prop} (h : ∀ w', Fr [] w w' → K (.bool true) w') : callF Tryz.prog F_law17_alive #[] w K := by
  apply law17_alive_call
  unfold law17_alive
  refine newZ (s := 19) (by kernel_rfl) fun w1 g1 f1 hB1 s1 => ?_
  obtain ⟨b1, hb1⟩ : ∃ b, b = w.heap.size := ⟨_, rfl⟩
  rw [← hb1] at hB1 ⊢
  refine stoCfg (m := 0) (s := 3) (n := 4) (key := z16k) hB1 rfl fun w2 f2 hC s2 => ?_
  have f02 : Fr [] w w2 := f1.st f2 (by omega)
  refine mkL (n := 3) (xs := s17) rfl rfl (by kernel_rfl) fun ps w3 f3 hs s3 => ?_
  refine mkL (n := 4) (xs := n17) rfl rfl (by kernel_rfl) fun pn w4 f4 hn s4 => ?_
  have f24 := f3.then f4
  have hs4 := hs.fr0 f4
  refine ⟨_, (hC.fr0 f24).ld rfl, ?_⟩
  refine Make_c (sid := s17) (nonce := n17) rfl hs4.row rfl (by decide) hn.row rfl (by decide) (fun hh => absurd okc0 hh) (fun _ hh => absurd (by unfold okMk; decide) hh) fun _ _ pi di w5 f5 hi => ⟨_, _, _, _, rfl, ?_⟩
  have ei : headB (1 : Int).toNat (3 + 4) :: turnC false 0 z16k (s17 ++ n17) = i17 := by rw [turn0]; decide +kernel
  rw [ei] at hi
  have f25 := f24.then f5
  refine ⟨_, (hC.fr0 f25).ld rfl, ?_⟩
  have bk : okBk 0 3 4 z16k i17 := by unfold okBk; decide
  refine codecBack_c (id := i17) rfl hi.row rfl hi.cap (by decide) (fun hh => absurd bk hh) fun _ qa da qb db w6 f6 ha hb => ⟨_, _, _, _, _, _, _, _, rfl, ?_⟩
  rw [turn0] at ha hb
  have f26 := f25.then f6
  refine newP fun w7 f7 hP => ?_
  have f27 := f26.then f7
  refine ⟨_, (hC.fr0 f27).ld rfl, ?_⟩
  refine mkL (n := 8) (xs := j17) rfl rfl (by kernel_rfl) fun pj w8 f8 hj s8 => ?_
  have f28 := f27.then f8
  refine codecBack_c (m := 0) (s := 3) (n := 4) (key := z16k) (id := j17) rfl hj.row rfl (by decide) (by decide) (fun _ er w9 f9 he => ⟨_, _, _, _, _, _, _, _, rfl, ?_⟩) fun hh => absurd hh (by unfold okBk; decide)
  have e10 : er = 10 := by rw [he, if_pos okc0, if_pos (by decide)]
  subst e10
  have f29 := f28.then f9
  refine newP fun w10 f10 hP2 => ?_
  have f210 := f29.then f10
  refine ⟨_, (hC.fr0 f210).ld rfl, ?_⟩
  have g410 := ((((f5.then f6).then f7).then f8).then f9).then f10
  refine Make_c (sid := s17) (nonce := n17) rfl (hs4.row.fr0 g410) rfl (by decide) (hn.row.fr0 g410) rfl (by decide) (fun hh => absurd okc0 hh) (fun _ _ w11 f11 => ⟨_, _, _, _, rfl, ?_⟩) fun _ hh => absurd hh (by unfold okMk; decide)
  rw [zcfg]
  have g511 := ((((f6.then f7).then f8).then f9).then f10).then f11
  have nz : ¬ okC 0 0 0 z16k := by decide
  refine codecBack_c (id := i17) rfl (hi.row.fr0 g511) rfl hi.cap (by decide) (fun _ er2 w12 f12 he2 => ⟨_, _, _, _, _, _, _, _, rfl, ?_⟩) fun hh => absurd hh.1 nz
  have e19 : er2 = 19 := by rw [he2, if_neg nz]
  subst e19
  refine newP fun w13 f13 hP3 => ?_
  have g413 := ((g410.then f11).then f12).then f13
  refine Plain_c (rest := n17) (hn.row.fr0 g413) rfl (by decide) (fun hh => absurd (by unfold okPl; decide) hh) fun _ pz dz w14 f14 hz => ⟨_, _, _, _, rfl, ?_⟩
  have ez : headB (3 : Int).toNat 4 :: n17 = [196, 4, 5, 6, 7] := by decide +kernel
  rw [ez] at hz
  refine cond_t (cond_t (cond_t (cond_t (cond_t (cond_t ?_)))))
  refine mkL (n := 8) (xs := i17) rfl rfl (by kernel_rfl) fun pk w15 f15 hk s15 => ?_
  have g515 := (((g511.then f12).then f13).then f14).then f15
  refine SameBytes_c (hi.row.fr0 g515) rfl hk.row rfl (by decide) fun w16 f16 => ⟨_, rfl, ?_⟩
  rw [decide_eq_true rfl]
  have g716 := ((((((f8.then f9).then f10).then f11).then f12).then f13).then f14).then (f15.then f16)
  have hP' := hP.fr0 g716
  refine cond_t ⟨_, hP'.ptLd, cond_t ⟨_, _, _, hP'.sidLd, ?_⟩⟩
  have g616 := f7.then g716
  have g416 := ((g413.then f14).then f15).then f16
  have e1 : (i17.drop 1).take (3 : Int).toNat = s17 := by decide
  have e2 : (i17.drop 1).drop (3 : Int).toNat = n17 := by decide
  rw [e1] at ha
  rw [e2] at hb
  refine SameBytes_c (ha.row.fr0 g616) rfl (hs4.row.fr0 g416) rfl (by decide) fun w17 f17 => ⟨_, rfl, ?_⟩
  rw [decide_eq_true rfl]
  refine cond_t ⟨_, _, _, (hP'.fr0 f17).nonceLd, ?_⟩
  refine SameBytes_c (hb.row.fr0 (g616.then f17)) rfl (hn.row.fr0 (g416.then f17)) rfl (by decide) fun w18 f18 => ⟨_, rfl, ?_⟩
  rw [decide_eq_true rfl]
  refine cond_t ?_
  refine mkL (n := 5) (xs := [196, 4, 5, 6, 7]) rfl rfl (by kernel_rfl) fun pv w19 f19 hv s19 => ?_
  refine SameBytes_c (hz.row.fr0 ((f15.then f16).then ((f17.then f18).then f19))) rfl hv.row rfl (by decide) fun w20 f20 => ⟨_, rfl, ?_⟩
  rw [decide_eq_true rfl]
  refine cond_t (Point_c (x := 128) ⟨_, rfl, cond_t (Told_c (x := 71) ⟨_, rfl, ?_⟩)⟩)
  exact h w20 ((f02.then (f24.then g416)).then (((f17.then f18).then f19).then f20))
end Go.Sh
end

section
namespace Go.Sh
open Go Go.Fw Go.Proofs
set_option maxRecDepth 100000
set_option linter.unusedVariables false
instance (m s n : Int) (key : List UInt8) (point : Int) (l2 l3 : Nat) : Decidable (okMk m s n key point l2 l3) := by unfold okMk; infer_instance
instance (point : Int) (k : Nat) : Decidable (okPl point k) := by unfold okPl; infer_instance
def mkOut (m s n : Int) (key : List UInt8) (point : Int) (sid nonce : List UInt8) : List UInt8 :=
  if okC m s n key ∧ okMk m s n key point sid.length nonce.length then headB point.toNat (sid.length + nonce.length) :: turnC false m key (sid ++ nonce) else []
def mkE (m s n : Int) (key : List UInt8) (point : Int) (sid nonce : List UInt8) : Int :=
  if okC m s n key then (if okMk m s n key point sid.length nonce.length then 0 else 11) else 19
section
variable {w : World} {m s n : Int} {key : List UInt8} {K : Value → World → Prop}
theorem makeAny_c {p2 p3 : Option Addr} {l2 c2 l3 c3 : Nat} {point : Int} {sid nonce : List UInt8} (hk : key.length = 16) (h2 : Row w p2 (sid.map vb)) (hl2 : l2 = sid.length) (hc2 : l2 ≤ c2) (h3 : Row w p3 (nonce.map vb)) (hl3 : l3 = nonce.length) (hc3 : l3 ≤ c3)
    (h : ∀ q d w', Fr [] w w' → OB w' q (mkOut m s n key point sid nonce).length d (mkOut m s n key point sid nonce) w.heap.size → K (.tuple #[.slice q (mkOut m s n key point sid nonce).length d, .int .i64 (mkE m s n key point sid nonce)]) w') :
    callF Tryz.prog F_codec_Make #[.agg ⟨cfgV m s n key⟩, .int .i64 point, .slice p2 l2 c2, .slice p3 l3 c3] w K := by
  subst hl2; subst hl3
  refine Make_c hk h2 rfl hc2 h3 rfl hc3 (fun hn w' f => ?_) (fun ho hn w' f => ?_) (fun ho hm q d w' f hO => ?_)
  · have e1 : mkOut m s n key point sid nonce = [] := by unfold mkOut; rw [if_neg (fun hh => hn hh.1)]
    have e2 : mkE m s n key point sid nonce = 19 := by unfold mkE; rw [if_neg hn]
    rw [e1, e2] at h
    exact h none 0 w' f (OB.nil _ _)
  · have e1 : mkOut m s n key point sid nonce = [] := by unfold mkOut; rw [if_neg (fun hh => hn hh.2)]
    have e2 : mkE m s n key point sid nonce = 11 := by unfold mkE; rw [if_pos ho, if_neg hn]
    rw [e1, e2] at h
    exact h none 0 w' f (OB.nil _ _)
  · have e1 : mkOut m s n key point sid nonce = headB point.toNat (sid.length + nonce.length) :: turnC false m key (sid ++ nonce) := by unfold mkOut; rw [if_pos ⟨ho, hm⟩]
    have e2 : mkE m s n key point sid nonce = 0 := by unfold mkE; rw [if_pos ho, if_pos hm]
    rw [e1, e2] at h
    have hl := hO.2.1
    have := h q d w' f (by rw [← hl]; exact hO)
    rwa [← hl] at this
theorem head_ref {p n : Nat} (hp : p < 4) (hn : n < 64) : IntKind.u8.wrap (IntKind.i64.wrap (IntKind.i64.wrap (64 * (p : Int)) + (n : Int))) = ((headB p n).toNat : Int) := by
  rw [wrap64 (n := 64 * (p : Int)) (by omega) (by omega), wrap64 (by omega) (by omega)]
  have : 64 * (p : Int) + (n : Int) = ((64 * p + n : Nat) : Int) := by omega
  rw [this, u8wrap]; rfl
theorem refMake_c {p2 p3 : Option Addr} {l2 c2 l3 c3 : Nat} {point : Int} {sid nonce : List UInt8} (hk : key.length = 16) (h2 : Row w p2 (sid.map vb)) (hl2 : l2 = sid.length) (h3 : Row w p3 (nonce.map vb)) (hl3 : l3 = nonce.length)
    (h : ∀ q d w', Fr [] w w' → OB w' q (mkOut m s n key point sid nonce).length d (mkOut m s n key point sid nonce) w.heap.size → K (.tuple #[.slice q (mkOut m s n key point sid nonce).length d, .int .i64 (mkE m s n key point sid nonce)]) w') :
    callF Tryz.prog F_ref17_Make #[.agg ⟨cfgV m s n key⟩, .int .i64 point, .slice p2 l2 c2, .slice p3 l3 c3] w K := by
  apply ref17_Make_call
  unfold ref17_Make
  subst hl2; subst hl3
  refine newCfgR hk fun w1 f1 hC s1 => ⟨_, hC.ldR hk, refRight_c hk fun w2 f2 => ⟨_, rfl, ?_⟩⟩
  have f02 := f1.then f2
  have hC2 := hC.fr0 f2
  by_cases ho : okC m s n key
  · rw [decide_eq_true ho]
    have no : ¬ okMk m s n key point sid.length nonce.length → K (.tuple #[.slice none 0 0, .int .i64 11]) w2 := by
      intro hn
      have e1 : mkOut m s n key point sid nonce = [] := by unfold mkOut; rw [if_neg (fun hh => hn hh.2)]
      have e2 : mkE m s n key point sid nonce = 11 := by unfold mkE; rw [if_pos ho, if_neg hn]
      rw [e1, e2] at h
      exact h none 0 w2 f02 (OB.nil _ _)
    refine cond_f (cond_d (fun h => no fun hh => by unfold okMk at hh; omega) fun g1 => cond_d (fun h => no fun hh => by unfold okMk at hh; omega) fun g2 => ⟨_, hC2.sid, cond_ne (fun h => no fun hh => by unfold okMk at hh; omega) fun g3 => ⟨_, hC2.nonce, cond_ne (fun h => no fun hh => by unfold okMk at hh; omega) fun g4 => ?_⟩⟩)
    have hm : okMk m s n key point sid.length nonce.length := ⟨by omega, by omega, g3, g4⟩
    have e1 : mkOut m s n key point sid nonce = headB point.toNat (sid.length + nonce.length) :: turnC false m key (sid ++ nonce) := by unfold mkOut; rw [if_pos ⟨ho, hm⟩]
    have e2 : mkE m s n key point sid nonce = 0 := by unfold mkE; rw [if_pos ho, if_pos hm]
    rw [e1, e2] at h
    obtain ⟨pt, rfl⟩ := Int.eq_ofNat_of_zero_le (show 0 ≤ point by omega)
    rw [Int.toNat_natCast] at h
    have ho' := ho
    unfold okC at ho'
    unfold ref17_Make_j1
    refine ⟨fun w' => Fr [] w2 w', Drw.intro fun w3 f3 s3 => ?_⟩
    refine ⟨_, ⟨f3, fun w' hw' => (hC2.fr0 hw').ldR hk⟩, ?_⟩
    refine mk0 fun p0 w4 f4 hO4 s4 => ⟨.inr (f3.then f4), ?_⟩
    have f24 := f3.then f4
    have f04 := f02.then f24
    refine pushN hO4 f4.size (h2.fr0 f04) rfl (by omega) fun q5 d5 w5 f5 hO5 => ?_
    have f35 := hO4.news f4 f5 (Nat.le_refl _)
    refine ⟨.inr (f3.then f35), ?_⟩
    have f05 := f02.then (f3.then f35)
    refine pushN hO5 f35.size (h3.fr0 f05) rfl (by omega) fun q6 d6 w6 f6 hO6 => ?_
    have f36 := hO5.news f35 f6 (Nat.le_refl _)
    refine ⟨.inr (f3.then f36), ?_⟩
    have f06 := f02.then (f3.then f36)
    rw [List.nil_append] at hO6
    have hlen : ((sid ++ nonce).length : Int) = s + n := by rw [List.length_append]; omega
    have hl6 : 0 + sid.length + nonce.length = (sid ++ nonce).length := by rw [List.length_append]; omega
    refine refTurn_cfg_c hk hO6.row hO6.2.1 (by omega) fun q7 d7 e7 o7 w7 f7 hO7 t7 => ⟨_, _, _, _, rfl, ?_⟩
    have hO7e : e7 = 0 ∧ o7 = turnC false m key (sid ++ nonce) := by
      rcases t7 with ⟨a, _⟩ | ⟨_, b, _⟩ | ⟨_, _, c, d⟩
      · exact absurd ho a
      · exact absurd hlen b
      · exact ⟨c, d⟩
    obtain ⟨rfl, rfl⟩ := hO7e
    have htl := turnC_len false ho hlen
    have hll : (turnC false m key (sid ++ nonce)).length = sid.length + nonce.length := by rw [htl, List.length_append]
    rw [head_ref (by omega) (by omega)]
    have f07 := f06.then f7
    refine mk1 (x := headB pt (turnC false m key (sid ++ nonce)).length) fun p8 w8 f8 hO8 s8 => ?_
    refine pushN hO8 f8.size (hO7.fr0 f8).row rfl (by omega) fun q9 d9 w9 f9 hO9 => ?_
    have hl9 := hO9.2.1
    have e9 : [headB pt (turnC false m key (sid ++ nonce)).length] ++ turnC false m key (sid ++ nonce) = headB pt (sid.length + nonce.length) :: turnC false m key (sid ++ nonce) := by rw [hll]; rfl
    rw [e9] at hO9 hl9
    have f79 := hO8.news f8 f9 (Nat.le_refl _)
    have := h q9 d9 w9 (f07.then f79) (by rw [← hl9]; exact hO9.mono f07.size)
    rwa [← hl9] at this
  · rw [decide_eq_false ho]
    have e1 : mkOut m s n key point sid nonce = [] := by unfold mkOut; rw [if_neg (fun hh => ho hh.1)]
    have e2 : mkE m s n key point sid nonce = 19 := by unfold mkE; rw [if_neg ho]
    rw [e1, e2] at h
    exact cond_t (h none 0 w2 f02 (OB.nil _ _))
def plOut (point : Int) (rest : List UInt8) : List UInt8 := if okPl point rest.length then headB point.toNat rest.length :: rest else []
def plE (point : Int) (rest : List UInt8) : Int := if okPl point rest.length then 0 else 11
theorem plainAny_c {p : Option Addr} {l c : Nat} {point : Int} {rest : List UInt8} (hx : Row w p (rest.map vb)) (hl : l = rest.length) (hc : l ≤ c)
    (h : ∀ q d w', Fr [] w w' → OB w' q (plOut point rest).length d (plOut point rest) w.heap.size → K (.tuple #[.slice q (plOut point rest).length d, .int .i64 (plE point rest)]) w') :
    callF Tryz.prog F_codec_Plain #[.int .i64 point, .slice p l c] w K := by
  subst hl
  refine Plain_c hx rfl hc (fun hn w' f => ?_) (fun hm q d w' f hO => ?_)
  · have e1 : plOut point rest = [] := by unfold plOut; rw [if_neg hn]
    have e2 : plE point rest = 11 := by unfold plE; rw [if_neg hn]
    rw [e1, e2] at h
    exact h none 0 w' f (OB.nil _ _)
  · have e1 : plOut point rest = headB point.toNat rest.length :: rest := by unfold plOut; rw [if_pos hm]
    have e2 : plE point rest = 0 := by unfold plE; rw [if_pos hm]
    rw [e1, e2] at h
    exact h q d w' f hO
theorem refPlain_c {p : Option Addr} {l c : Nat} {point : Int} {rest : List UInt8} (hx : Row w p (rest.map vb)) (hl : l = rest.length)
    (h : ∀ q d w', Fr [] w w' → OB w' q (plOut point rest).length d (plOut point rest) w.heap.size → K (.tuple #[.slice q (plOut point rest).length d, .int .i64 (plE point rest)]) w') :
    callF Tryz.prog F_ref17_Plain #[.int .i64 point, .slice p l c] w K := by
  subst hl
  apply ref17_Plain_call
  unfold ref17_Plain
  have no : ¬ okPl point rest.length → K (.tuple #[.slice none 0 0, .int .i64 11]) w := by
    intro hn
    have e1 : plOut point rest = [] := by unfold plOut; rw [if_neg hn]
    have e2 : plE point rest = 11 := by unfold plE; rw [if_neg hn]
    rw [e1, e2] at h
    exact h none 0 w (Fr.refl _ _) (OB.nil _ _)
  refine cond_d (fun h => no (fun hh => by unfold okPl at hh; omega)) fun h1 => cond_d (fun h => no (fun hh => by unfold okPl at hh; omega)) fun h2 => cond_d (fun h => no (fun hh => by unfold okPl at hh; omega)) fun h3 => ?_
  have hm : okPl point rest.length := ⟨by omega, by omega, by omega⟩
  have e1 : plOut point rest = headB point.toNat rest.length :: rest := by unfold plOut; rw [if_pos hm]
  have e2 : plE point rest = 0 := by unfold plE; rw [if_pos hm]
  rw [e1, e2] at h
  obtain ⟨pt, rfl⟩ := Int.eq_ofNat_of_zero_le (show 0 ≤ point by omega)
  rw [Int.toNat_natCast] at h
  unfold ref17_Plain_j1
  rw [head_ref (by omega) (by omega)]
  refine mk1 (x := headB pt rest.length) fun p8 w8 f8 hO8 s8 => ?_
  refine pushN hO8 f8.size (hx.fr0 f8) rfl (by omega) fun q9 d9 w9 f9 hO9 => ?_
  have hl9 := hO9.2.1
  have e9 : [headB pt rest.length] ++ rest = headB pt rest.length :: rest := rfl
  rw [e9] at hO9 hl9
  have := h q9 d9 w9 (hO8.news f8 f9 (Nat.le_refl _)) (by rw [← hl9]; exact hO9)
  rwa [← hl9] at this
theorem refPoint_c {x : UInt8} (h : K (.int .i64 ((x.toNat / 64 : Nat) : Int)) w) : callF Tryz.prog F_ref17_Point #[.int .u8 (x.toNat : Int)] w K := by
  apply ref17_Point_call
  unfold ref17_Point
  have := x.toNat_lt
  have e : IntKind.i64.wrap (Int.tdiv (IntKind.i64.wrap (x.toNat : Int)) 64) = ((x.toNat / 64 : Nat) : Int) := by
    rw [wrap64 (n := (x.toNat : Int)) (by omega) (by omega), Int.tdiv_eq_ediv_of_nonneg (by omega), wrap64 (by omega) (by omega)]; omega
  rw [e]; exact h
theorem refTold_c {x : UInt8} (h : K (.int .i64 ((x.toNat % 64 + 1 : Nat) : Int)) w) : callF Tryz.prog F_ref17_Told #[.int .u8 (x.toNat : Int)] w K := by
  apply ref17_Told_call
  unfold ref17_Told
  have := x.toNat_lt
  have e : IntKind.i64.wrap (Int.tmod (IntKind.i64.wrap (x.toNat : Int)) 64 + 1) = ((x.toNat % 64 + 1 : Nat) : Int) := by
    rw [wrap64 (n := (x.toNat : Int)) (by omega) (by omega), Int.tmod_eq_emod_of_nonneg (by omega), wrap64 (by omega) (by omega)]; omega
  rw [e]; exact h
instance (m s n : Int) (key id : List UInt8) : Decidable (okBk m s n key id) := by unfold okBk; infer_instance
def bkE (m s n : Int) (key id : List UInt8) : Int := if okBk m s n key id then 0 else if okC m s n key then (if (id.length : Int) = 1 + (s + n) then 10 else 11) else 19
def bkP (m s n : Int) (key id : List UInt8) : Int := if okBk m s n key id then (((fl id 0).toNat / 64 : Nat) : Int) else 0
def bkS (m s n : Int) (key id : List UInt8) : List UInt8 := if okBk m s n key id then (turnC true m key (id.drop 1)).take s.toNat else []
def bkN (m s n : Int) (key id : List UInt8) : List UInt8 := if okBk m s n key id then (turnC true m key (id.drop 1)).drop s.toNat else []
def bkT (m s n : Int) (key id : List UInt8) (q1 : Option Addr) (d1 : Nat) (q2 : Option Addr) (d2 : Nat) : Value := .tuple #[.agg ⟨partsL (bkP m s n key id) q1 (bkS m s n key id).length d1 q2 (bkN m s n key id).length d2⟩, .int .i64 (bkE m s n key id)]
theorem bk_len {id : List UInt8} (hb : okBk m s n key id) : (bkS m s n key id).length = s.toNat ∧ (bkN m s n key id).length = n.toNat := by
  have ho := hb.1
  have h2 := hb.2.1
  have ho' := ho
  unfold okC at ho'
  have ht : ((id.drop 1).length : Int) = s + n := by rw [List.length_drop]; omega
  have hl := turnC_len true ho ht
  have hd : (id.drop 1).length = id.length - 1 := List.length_drop
  unfold bkS bkN
  rw [if_pos hb, if_pos hb, List.length_take, List.length_drop]
  omega
theorem bk_len2 (m s n : Int) (key id : List UInt8) : (bkS m s n key id).length + (bkN m s n key id).length ≤ id.length := by
  by_cases hb : okBk m s n key id
  · have := bk_len hb; have h2 := hb.2.1; have ho := hb.1; unfold okC at ho; omega
  · unfold bkS bkN; rw [if_neg hb, if_neg hb]; simp
theorem backAll_c {p1 : Option Addr} {l1 c1 : Nat} {id : List UInt8} (hk : key.length = 16) (h1 : Row w p1 (id.map vb)) (hl1 : l1 = id.length) (hc1 : l1 ≤ c1) (hlb : l1 < 1000000)
    (h : ∀ q1 d1 q2 d2 w', Fr [] w w' → Row w' q1 ((bkS m s n key id).map vb) → (bkS m s n key id).length ≤ d1 → Row w' q2 ((bkN m s n key id).map vb) → (bkN m s n key id).length ≤ d2 → K (bkT m s n key id q1 d1 q2 d2) w') :
    callF Tryz.prog F_codec_Back #[.agg ⟨cfgV m s n key⟩, .slice p1 l1 c1] w K := by
  refine codecBack_c hk h1 hl1 hc1 hlb (fun hb er w' f he => ?_) (fun hb q1 d1 q2 d2 w' f hO1 hO2 => ?_)
  · unfold bkT bkP bkS bkN bkE at h
    rw [if_neg hb, if_neg hb, if_neg hb, if_neg hb, ← he] at h
    exact h none 0 none 0 w' f (Row.nil _ _) (Nat.le_refl _) (Row.nil _ _) (Nat.le_refl _)
  · obtain ⟨e1, e2⟩ := bk_len hb
    have g1 : bkS m s n key id = (turnC true m key (id.drop 1)).take s.toNat := by unfold bkS; rw [if_pos hb]
    have g2 : bkN m s n key id = (turnC true m key (id.drop 1)).drop s.toNat := by unfold bkN; rw [if_pos hb]
    rw [← g1] at hO1
    rw [← g2] at hO2
    have hd1 := hO1.cap
    have hd2 := hO2.cap
    have := h q1 d1 q2 d2 w' f hO1.row (by omega) hO2.row (by omega)
    unfold bkT at this
    rw [e1, e2] at this
    unfold bkP bkE at this
    rw [if_pos hb, if_pos hb] at this
    exact this
theorem stoPR {b : Nat} {f : Nat → Value} (hB : Blk w b 3 f) {cs : List Value} (hm : cs.length = 3) (hv : ∀ v ∈ cs, v.oneCell' = true) {K : World → Prop}
    (h : ∀ w', Fr [b] w w' → PAt w' b cs → Ld Tryz.prog T_ref17_Parts (.pointer (some ⟨b, 0, none⟩)) w' (.agg ⟨cs⟩) → K w') : ∃ w', Sto Tryz.prog T_ref17_Parts (.pointer (some ⟨b, 0, none⟩)) (.agg ⟨cs⟩) w w' ∧ K w' := by
  refine Sto.agg (m := 3) (by kernel_rfl) hm hB (Nat.le_refl 3) hv fun w' hf hB' hs => ?_
  have key : ∀ j v, cs[j]? = some v → updN f 0 cs j = v := by
    intro j v hj
    unfold updN
    obtain ⟨h1, h2⟩ := List.getElem?_eq_some_iff.1 hj
    rw [dif_pos ⟨Nat.zero_le _, by simpa using h1⟩]
    simpa using h2
  refine h w' hf ⟨_, hB', key⟩ ?_
  exact LdA (m := 3) (by kernel_rfl) (by kernel_rfl) hB' (o := 0) (by omega) cs hm (fun j v hj => by rw [Nat.zero_add]; exact key j v hj)
set_option maxHeartbeats 2000000 in
theorem refBackAll_c {p1 : Option Addr} {l1 c1 : Nat} {id : List UInt8} (hk : key.length = 16) (h1 : Row w p1 (id.map vb)) (hl1 : l1 = id.length) (hc1 : l1 ≤ c1) (hlb : l1 < 1000000)
    (h : ∀ q1 d1 q2 d2 w', Fr [] w w' → Row w' q1 ((bkS m s n key id).map vb) → (bkS m s n key id).length ≤ d1 → Row w' q2 ((bkN m s n key id).map vb) → (bkN m s n key id).length ≤ d2 → K (bkT m s n key id q1 d1 q2 d2) w') :
    callF Tryz.prog F_ref17_Back #[.agg ⟨cfgV m s n key⟩, .slice p1 l1 c1] w K := by
  apply ref17_Back_call
  unfold ref17_Back
  refine newCfgR hk fun w1 f1 hC s1 => ?_
  refine newZ (s := 3) (by kernel_rfl) fun w2 g2 f2 hB2 s2 => ?_
  obtain ⟨kb, hkb⟩ : ∃ kb, kb = w1.heap.size := ⟨_, rfl⟩
  rw [← hkb] at hB2 ⊢
  have n1 := f1.size
  have f02 := f1.then f2
  have hC2 := hC.fr0 f2
  refine ⟨_, hC2.ldR hk, refRight_c hk fun w3 f3 => ⟨_, rfl, ?_⟩⟩
  have f03 := f02.then f3
  have hC3 := hC2.fr0 f3
  have hB3 := hB2.fr0 f3
  have no : ∀ (er : Int) w', ¬ okBk m s n key id → er = (if okC m s n key then (if (id.length : Int) = 1 + (s + n) then 10 else 11) else 19) → Fr [] w3 w' →
      ∃ w4, Sto Tryz.prog T_ref17_Parts (.pointer (some ⟨kb, 0, none⟩)) (.agg #[.int .i64 0, .slice none 0 0, .slice none 0 0]) w' w4 ∧ ∃ (a4 : Addr) (v4 : Value), (.pointer (some ⟨kb, 0, none⟩) : Value) = .pointer (some a4) ∧ (loadVar T_ref17_Parts a4).run Tryz.prog w4 = .ok v4 w4 ∧ K (.tuple #[v4, .int .i64 er]) w4 := by
    intro er w' hb he f
    refine stoPR (hB3.fr0 f) (cs := partsL 0 none 0 0 none 0 0) rfl (parts_one _ _ _ _ _ _ _) fun w4 f4 hP hLd => ⟨_, _, rfl, hLd, ?_⟩
    unfold bkT bkP bkS bkN bkE at h
    rw [if_neg hb, if_neg hb, if_neg hb, if_neg hb, ← he] at h
    exact h none 0 none 0 w4 ((f03.then f).st f4 (by omega)) (Row.nil _ _) (Nat.le_refl _) (Row.nil _ _) (Nat.le_refl _)
  by_cases ho : okC m s n key
  · rw [decide_eq_true ho]
    have ho' := ho
    unfold okC at ho'
    refine cond_f ⟨_, hC3.ldR hk, refCfgSize_c hk fun w4 f4 => ⟨_, rfl, ?_⟩⟩
    rw [if_pos ho]
    refine cond_ne (fun hne => no 11 w4 (fun hh => hne (by have := hh.2.1; omega)) (by rw [if_pos ho, if_neg (by omega)]) f4) fun hlen => ?_
    have hlid : (id.length : Int) = 1 + (s + n) := by omega
    have f04 := f03.then f4
    obtain ⟨a, ha, hca⟩ := row_get (t := T_S_uint8) (by kernel_rfl) (h1.fr0 f04) (c := c1) hl1 (i := 0) (by omega) (k := .i64)
    refine ⟨a, ha, _, Ld.cell (by kernel_rfl) hca, refTold_c ⟨_, rfl, ?_⟩⟩
    refine cond_ne (fun hne => no 10 w4 (fun hh => hne ?_) (by rw [if_pos ho, if_pos hlid]) f4) fun htold => ?_
    · have := hh.2.2
      show (((fl id 0).toNat % 64 + 1 : Nat) : Int) = _
      omega
    · have hbk : okBk m s n key id := ⟨ho, hlid, by have h' : (((fl id 0).toNat % 64 + 1 : Nat) : Int) = _ := htold; omega⟩
      refine Drw.intro fun w5 f5 s5 => ?_
      have f05 := f04.then f5
      have f35 := f4.then f5
      refine slFrom (h1.fr0 f05) hl1 (n := 1) (by omega) hc1 fun qt dt ht htl htd htb => ?_
      have hC5 := hC3.fr0 f35
      refine ⟨_, hC5.ldR hk, ?_⟩
      refine refBack_cfg_c hk ht htl (by omega) fun q6 d6 e6 o6 w6 f6 hO6 t6 => ⟨_, _, _, _, rfl, ?_⟩
      have hoo : o6 = turnC true m key (id.drop 1) := by
        rcases t6 with ⟨a, _⟩ | ⟨_, b, _⟩ | ⟨_, _, c, d⟩
        · exact absurd ho a
        · exact absurd (by rw [List.length_drop]; omega) b
        · exact d
      have hol : o6.length = l1 - 1 := by
        rw [hoo, turnC_len true ho (by rw [List.length_drop]; omega), List.length_drop, hl1]
      have f06 := f05.then f6
      refine ⟨fun w' => Fr [] w6 w', Drw.intro fun w7 f7 s7 => ?_⟩
      have hC6 := hC5.fr0 f6
      obtain ⟨a', ha', hca'⟩ := row_get (t := T_S_uint8) (by kernel_rfl) (h1.fr0 f06) (c := c1) hl1 (i := 0) (by omega) (k := .i64)
      refine ⟨a', ha', _, ⟨f7, fun w' hw' => Ld.cell (by kernel_rfl) (Fr.cell hw' hca' (by simp))⟩, _, ⟨f7, fun w' hw' => (hC6.fr0 hw').sid⟩, ?_⟩
      obtain ⟨s', rfl⟩ := Int.eq_ofNat_of_zero_le (show 0 ≤ s by omega)
      obtain ⟨n', rfl⟩ := Int.eq_ofNat_of_zero_le (show 0 ≤ n by omega)
      have hcap6 := hO6.cap
      refine slTo (hO6.row.fr0 f7) rfl (n := s') (by omega) hcap6 fun qa da hqa hla hda hba => ?_
      refine ⟨_, ⟨f7, fun w' hw' => (hC6.fr0 hw').sid⟩, ?_⟩
      refine slFrom (hO6.row.fr0 f7) rfl (n := s') (by omega) hcap6 fun qb db hqb hlb' hdb hbb => ?_
      refine refPoint_c ⟨_, rfl, .inl rfl, ?_⟩
      have f37 := (f35.then f6).then f7
      have hB7 := hB3.fr0 f37
      refine stoPR hB7 (cs := partsL (((fl id 0).toNat / 64 : Nat) : Int) qa s' da qb (o6.length - s') db) rfl (parts_one _ _ _ _ _ _ _) fun w8 f8 hP hLd => ⟨_, _, rfl, hLd, ?_⟩
      obtain ⟨e1, e2⟩ := bk_len hbk
      rw [Int.toNat_natCast] at e1 e2
      have g1 : bkS m s' n' key id = o6.take s' := by unfold bkS; rw [if_pos hbk, hoo, Int.toNat_natCast]
      have g2 : bkN m s' n' key id = o6.drop s' := by unfold bkN; rw [if_pos hbk, hoo, Int.toNat_natCast]
      have hkb7 := hB7.lt
      have n05 := f05.size
      have hblk6 : ∀ k ∈ blks q6, k ≠ kb := fun k hk' => by have := hO6.2.2 k hk'; have hkb5 := (hB3.fr0 f35).lt; omega
      have := h qa da qb db w8 ((f06.then f7).st f8 (by omega)) (by rw [g1]; exact hqa.fr f8 (fun a ha => by simp; exact hblk6 _ (hba _ (by simp [ha, blks])))) (by omega) (by rw [g2]; exact hqb.fr f8 (fun a ha => by simp; exact hblk6 _ (hbb _ (by simp [ha, blks])))) (by omega)
      unfold bkT at this
      rw [e1, e2] at this
      unfold bkP bkE at this
      rw [if_pos hbk, if_pos hbk] at this
      have e3 : o6.length - s' = n' := by omega
      rw [e3]
      exact this
  · rw [decide_eq_false ho]
    exact cond_t (no 19 w3 (fun hh => ho hh.1) (by rw [if_neg ho]) (Fr.refl _ _))
end
end Go.Sh
end

section
namespace Go.Sh
open Go Go.Fw Go.Proofs
set_option maxRecDepth 100000
set_option linter.unusedVariables false
theorem PAt.ldP {w : World} {b : Nat} {pt : Int} {q1 q2 : Option Addr} {l1 d1 l2 d2 : Nat} (h : PAt w b (partsL pt q1 l1 d1 q2 l2 d2)) : Ld Tryz.prog T_codec_Parts (.pointer (some ⟨b, 0, none⟩)) w (.agg #[.int .i64 pt, .slice q1 l1 d1, .slice q2 l2 d2]) := by
  obtain ⟨f, hB, hc⟩ := h
  exact LdA (m := 3) (by kernel_rfl) (by kernel_rfl) hB (o := 0) (by omega) (partsL pt q1 l1 d1 q2 l2 d2) rfl (fun j v hj => by rw [Nat.zero_add]; exact hc j v hj)
section
variable {w : World} {m s n : Int} {key : List UInt8} {K : Value → World → Prop}
theorem newPA {t : TypeId} {pt : Int} {q1 q2 : Option Addr} {l1 d1 l2 d2 : Nat} {K : Nat → World → Prop} (h : ∀ w', Fr [] w w' → PAt w' w.heap.size (partsL pt q1 l1 d1 q2 l2 d2) → K w.heap.size w') : New #[.int .i64 pt, .slice q1 l1 d1, .slice q2 l2 d2] t w K := by
  refine New.intro fun w1 f1 hB s1 => h w1 f1 ⟨fun i => (#[.int .i64 pt, .slice q1 l1 d1, .slice q2 l2 d2] : Array Value).getD i undef, hB, fun j v hj => ?_⟩
  show Array.getD ⟨partsL pt q1 l1 d1 q2 l2 d2⟩ j undef = v
  rw [Array.getD_eq_getD_getElem?]
  have : (⟨partsL pt q1 l1 d1 q2 l2 d2⟩ : Array Value)[j]? = some v := by simpa using hj
  rw [this]; rfl
theorem Same17_c {pa pb : Int} {p0 p1 q0 q1 : Option Addr} {l0 l1 m0 m1 c0 c1 d0 d1 : Nat} {A B A' B' : List UInt8} (hA : Row w p0 (A.map vb)) (hl0 : l0 = A.length) (hB : Row w p1 (B.map vb)) (hl1 : l1 = B.length) (hA' : Row w q0 (A'.map vb)) (hm0 : m0 = A'.length) (hB' : Row w q1 (B'.map vb)) (hm1 : m1 = B'.length)
    (hb1 : l0 < 1000000) (hb2 : l1 < 1000000) (h : ∀ w', Fr [] w w' → K (.bool (decide (pa = pb ∧ A = A' ∧ B = B'))) w') :
    callF Tryz.prog F_law17_Same #[.agg #[.int .i64 pa, .slice p0 l0 c0, .slice p1 l1 c1], .agg #[.int .i64 pb, .slice q0 m0 d0, .slice q1 m1 d1]] w K := by
  apply law17_Same_call
  unfold law17_Same
  refine newPA fun w1 f1 hP1 => newPA fun w2 f2 hP2 => ?_
  have f02 := f1.then f2
  have hP12 := hP1.fr0 f2
  refine ⟨_, hP12.ptLd, _, hP2.ptLd, cond_eq (fun e => ?_) (fun e => ?_)⟩
  · refine ⟨_, _, _, hP12.sidLd, _, _, _, hP2.sidLd, SameBytes_c (hA.fr0 f02) hl0 (hA'.fr0 f02) hm0 (by omega) fun w3 f3 => ⟨_, rfl, ?_⟩⟩
    have f03 := f02.then f3
    refine cond_d (fun e1 => ?_) (fun e1 => ?_)
    · refine ⟨_, _, _, (hP12.fr0 f3).nonceLd, _, _, _, (hP2.fr0 f3).nonceLd, SameBytes_c (hB.fr0 f03) hl1 (hB'.fr0 f03) hm1 (by omega) fun w4 f4 => ⟨_, rfl, ?_⟩⟩
      have := h w4 (f03.then f4)
      have e2 : decide (pa = pb ∧ A = A' ∧ B = B') = decide (B = B') := by rw [decide_eq_decide]; exact ⟨fun hh => hh.2.2, fun hh => ⟨e, e1, hh⟩⟩
      rwa [e2] at this
    · have := h w3 f03
      rwa [decide_eq_false (fun hh => e1 hh.2.1)] at this
  · have := h w2 f02
    rwa [decide_eq_false (fun hh => e hh.1)] at this
theorem mkOut_len (m s n : Int) (key : List UInt8) (point : Int) (sid nonce : List UInt8) : (mkOut m s n key point sid nonce).length ≤ 100 := by
  unfold mkOut
  split
  · rename_i hh
    have ho := hh.1
    have hm := hh.2
    have hl : ((sid ++ nonce).length : Int) = s + n := by unfold okMk at hm; rw [List.length_append]; omega
    rw [List.length_cons, turnC_len false ho hl]
    unfold okC at ho; omega
  · simp
theorem plOut_len (point : Int) (rest : List UInt8) : (plOut point rest).length ≤ 100 := by
  unfold plOut
  split
  · rename_i hh; unfold okPl at hh; rw [List.length_cons]; omega
  · simp
set_option maxHeartbeats 2000000 in
theorem CodecMakes_c {p2 p3 : Option Addr} {l2 c2 l3 c3 : Nat} {point : Int} {sid nonce : List UInt8} (x : UInt8) (hk : key.length = 16) (h2 : Row w p2 (sid.map vb)) (hl2 : l2 = sid.length) (hc2 : l2 ≤ c2) (h3 : Row w p3 (nonce.map vb)) (hl3 : l3 = nonce.length) (hc3 : l3 ≤ c3)
    (h : ∀ w', Fr [] w w' → K (.bool true) w') : callF Tryz.prog F_law17_CodecMakes #[.agg ⟨cfgV m s n key⟩, .int .i64 point, .slice p2 l2 c2, .slice p3 l3 c3, .int .u8 (x.toNat : Int)] w K := by
  apply law17_CodecMakes_call
  unfold law17_CodecMakes
  refine newCfg hk fun w1 f1 hC s1 => alive17_c fun w2 f2 => ⟨_, rfl, cond_f (cond_d (fun _ => h w2 (f1.then f2)) fun b2 => cond_d (fun _ => h w2 (f1.then f2)) fun b3 => ?_)⟩
  have f02 := f1.then f2
  unfold law17_CodecMakes_j1
  refine CopyOB_c (h3.fr0 f02) hl3 (by omega) fun po co w3 f3 hO => ⟨_, _, _, rfl, ?_⟩
  have f03 := f02.then f3
  have hC3 := (hC.fr0 f2).fr0 f3
  refine ⟨_, hC3.ld hk, makeAny_c hk (h2.fr0 f03) hl2 hc2 hO.row hO.2.1 hO.cap fun qa da w4 f4 ha => ⟨_, _, _, _, rfl, ?_⟩⟩
  refine ⟨_, (hC3.fr0 f4).ld hk, law16Of_c hk fun w5 f5 => ⟨_, rfl, ?_⟩⟩
  have f05 := (f03.then f4).then f5
  refine refMake_c hk (h2.fr0 f05) hl2 (h3.fr0 f05) hl3 fun qb db w6 f6 hb => ⟨_, _, _, _, rfl, ?_⟩
  have f36 := (f4.then f5).then f6
  refine plainAny_c (hO.fr0 f36).row hO.2.1 hO.cap fun qx dx w7 f7 hx => ⟨_, _, _, _, rfl, ?_⟩
  have f07 := (f03.then f36).then f7
  refine refPlain_c (h3.fr0 f07) hl3 fun qy dy w8 f8 hy => ⟨_, _, _, _, rfl, ?_⟩
  have b1 := mkOut_len m s n key point sid nonce
  have b2' := plOut_len point nonce
  have f48 := ((f5.then f6).then f7).then f8
  refine cond_eq (fun _ => ?_) (fun hne => absurd rfl hne)
  refine SameBytes_c (ha.fr0 f48).row rfl (hb.fr0 (f7.then f8)).row rfl (by omega) fun w9 f9 => ⟨_, rfl, ?_⟩
  rw [decide_eq_true rfl]
  refine cond_t (cond_eq (fun _ => ?_) (fun hne => absurd rfl hne))
  refine SameBytes_c (hx.fr0 (f8.then f9)).row rfl (hy.fr0 f9).row rfl (by omega) fun w10 f10 => ⟨_, rfl, ?_⟩
  rw [decide_eq_true rfl]
  have f010 := ((f07.then f8).then f9).then f10
  refine cond_t (SameBytes_c (hO.fr0 (((f36.then f7).then f8).then (f9.then f10))).row hO.2.1 (h3.fr0 f010) hl3 (by omega) fun w11 f11 => ⟨_, rfl, ?_⟩)
  rw [decide_eq_true rfl]
  refine cond_t (Point_c ⟨_, rfl, refPoint_c ⟨_, rfl, cond_eq (fun _ => Told_c ⟨_, rfl, refTold_c ⟨_, rfl, ?_⟩⟩) (fun hne => absurd rfl hne)⟩⟩)
  rw [beq_self_eq_true]
  exact h w11 (f010.then f11)
set_option maxHeartbeats 2000000 in
theorem CodecBacks_c {p1 : Option Addr} {l1 c1 : Nat} {id : List UInt8} (hk : key.length = 16) (h1 : Row w p1 (id.map vb)) (hl1 : l1 = id.length) (hc1 : l1 ≤ c1)
    (h : ∀ w', Fr [] w w' → K (.bool true) w') : callF Tryz.prog F_law17_CodecBacks #[.agg ⟨cfgV m s n key⟩, .slice p1 l1 c1] w K := by
  apply law17_CodecBacks_call
  unfold law17_CodecBacks
  refine newCfg hk fun w1 f1 hC s1 => alive17_c fun w2 f2 => ⟨_, rfl, cond_f (cond_d (fun _ => h w2 (f1.then f2)) fun b1 => ?_)⟩
  have f02 := f1.then f2
  refine CopyOB_c (h1.fr0 f02) hl1 (by omega) fun po co w3 f3 hO => ⟨_, _, _, rfl, ?_⟩
  have f03 := f02.then f3
  have hC3 := (hC.fr0 f2).fr0 f3
  refine ⟨_, hC3.ld hk, backAll_c hk hO.row hO.2.1 hO.cap (by omega) fun qa da qb db w4 f4 ha hda hb hdb => ⟨_, _, _, _, _, _, _, _, rfl, ?_⟩⟩
  refine newP fun w6 f6 hP6 => ?_
  have f36 := f4.then f6
  refine ⟨_, (hC3.fr0 f36).ld hk, law16Of_c hk fun w7 f7 => ⟨_, rfl, ?_⟩⟩
  have f07 := (f03.then f36).then f7
  refine refBackAll_c hk (h1.fr0 f07) hl1 hc1 (by omega) fun qc dc qd dd w8 f8 hc hdc hd hdd => ⟨_, _, _, _, _, _, _, _, rfl, ?_⟩
  refine newZ (s := 3) (by kernel_rfl) fun w9 g9 f9 hB9 s9 => ?_
  obtain ⟨kb, hkb⟩ : ∃ kb, kb = w8.heap.size := ⟨_, rfl⟩
  rw [← hkb] at hB9 ⊢
  refine stoPR hB9 (cs := partsL (bkP m s n key id) qc (bkS m s n key id).length dc qd (bkN m s n key id).length dd) rfl (parts_one _ _ _ _ _ _ _) fun w10 f10 hP10 hLd10 => ?_
  have f810 : Fr [] w8 w10 := f9.st f10 (by omega)
  have f610 := (f7.then f8).then f810
  have f410 := f6.then f610
  have f010 := (f07.then f8).then f810
  have hll := bk_len2 m s n key id
  refine cond_eq (fun _ => ?_) (fun hne => absurd rfl hne)
  have hP610 := hP6.fr0 f610
  refine ⟨_, _, _, _, _, _, _, hP610.ldP, _, _, _, _, _, _, _, hLd10, ?_⟩
  refine Same17_c (ha.fr0 f410) rfl (hb.fr0 f410) rfl (hc.fr0 f810) rfl (hd.fr0 f810) rfl (by omega) (by omega) fun w11 f11 => ⟨_, rfl, ?_⟩
  rw [decide_eq_true ⟨rfl, rfl, rfl⟩]
  refine cond_t (SameBytes_c (hO.fr0 ((f4.then f410).then f11)).row hO.2.1 (h1.fr0 (f010.then f11)) hl1 (by omega) fun w12 f12 => ⟨_, rfl, ?_⟩)
  rw [decide_eq_true rfl]
  exact h w12 ((f010.then f11).then f12)
end
end Go.Sh
end
