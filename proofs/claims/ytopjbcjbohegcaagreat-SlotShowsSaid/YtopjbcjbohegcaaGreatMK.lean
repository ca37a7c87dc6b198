/- A part of a proof of a given law of this program: lemmas, printed forms of its functions, contracts. It has no conditions of its own. -/
import Derived.Test.YtopjbcjbohegcaaGreatMM
import Derived.Test.YtopjbcjbohegcaaGreatMSh5

section
namespace Go.Sh
open Go Go.Fw Go.Proofs
set_option maxRecDepth 100000
set_option linter.unusedVariables false
def headB (point n : Nat) : UInt8 := UInt8.ofNat (64 * point + n)
theorem head_val {p n : Nat} (hp : p < 4) (hn : n < 64) : IntKind.u8.wrap (ior .i64 (IntKind.i64.wrap ((p : Int) * 2 ^ 6)) (n : Int)) = ((headB p n).toNat : Int) := by
  have : ∀ p : Nat, p < 4 → ∀ n : Nat, n < 64 → IntKind.u8.wrap (ior .i64 (IntKind.i64.wrap ((p : Int) * 2 ^ 6)) (n : Int)) = ((headB p n).toNat : Int) := by decide +kernel
  exact this p hp n hn
section
variable {w : World} {m s n : Int} {key text : List UInt8} {K : Value → World → Prop}
theorem Point_c {x : UInt8} (h : K (.int .i64 ((x.toNat / 64 : Nat) : Int)) w) : callF Tryz.prog F_codec_Point #[.int .u8 (x.toNat : Int)] w K := by
  apply codec_Point_call
  unfold codec_Point
  have := x.toNat_lt
  have e : IntKind.i64.wrap (Int.fdiv (x.toNat : Int) (2 ^ 6)) = ((x.toNat / 64 : Nat) : Int) := by
    rw [Int.fdiv_eq_ediv_of_nonneg _ (by decide), wrap64 (by omega) (by omega)]; omega
  rw [e]; exact h
theorem Told_c {x : UInt8} (h : K (.int .i64 ((x.toNat % 64 + 1 : Nat) : Int)) w) : callF Tryz.prog F_codec_Told #[.int .u8 (x.toNat : Int)] w K := by
  apply codec_Told_call
  unfold codec_Told
  have := x.toNat_lt
  have e : IntKind.i64.wrap (IntKind.i64.wrap (iand .u8 (x.toNat : Int) 63) + 1) = ((x.toNat % 64 + 1 : Nat) : Int) := by
    have h1 := all8 (p := fun x => iand .u8 (x.toNat : Int) 63 == ((x.toNat % 64 : Nat) : Int)) (by kernel_rfl) x
    rw [beq_iff_eq] at h1
    rw [h1, wrap64 (n := ((x.toNat % 64 : Nat) : Int)) (by omega) (by omega), wrap64 (by omega) (by omega)]; omega
  rw [e]; exact h
theorem headB_point {p n : Nat} (hp : p < 4) (hn : n < 64) : (headB p n).toNat / 64 = p := by unfold headB; simp; omega
theorem headB_told {p n : Nat} (hp : p < 4) (hn : n < 64) : (headB p n).toNat % 64 = n := by unfold headB; simp; omega
theorem id_c {p : Option Addr} {l c : Nat} {point : Nat} {rest : List UInt8} (hp : point < 4) (hx : Row w p (rest.map vb)) (hl : l = rest.length) (hc : l ≤ c) (hn : l < 64)
    (h : ∀ q d w', Fr [] w w' → OB w' q (l + 1) d (headB point l :: rest) w.heap.size → K (.slice q (l + 1) d) w') : callF Tryz.prog F_codec_id #[.int .i64 (point : Int), .slice p l c] w K := by
  apply codec_id_call
  unfold codec_id
  rw [head_val hp hn]
  refine mk1 (x := headB point l) fun p1 w1 f1 h1 s1 => ?_
  refine ⟨_, _, _, Ef.new (v := .slice (some ⟨w1.heap.size, 0, none⟩) 2 2) (cs := ([.slice p1 1 1, .slice p l c] : List Value).toArray) (e := T_S_uint8) (by kernel_rfl) fun w2 f2 hB2 s2 => ?_⟩
  have hR2 := RowB.of2 hB2.rowL ((h1.fr0 f2).byS) (byS ((hx.fr0 f1).fr0 f2) hl hc)
  have efl : [[headB point l], rest].flatten = headB point l :: rest := by simp
  have hbl : (headB point l :: rest).length = l + 1 := by simp [hl]
  refine Join_c (l := 2) hR2 rfl (by rw [efl, hbl]; omega) (by omega) fun q d w3 f3 hO3 => ⟨_, _, _, rfl, ?_⟩
  rw [efl, hbl] at hO3
  rw [efl, hbl]
  have n02 := (f1.then f2).size
  exact h q d w3 ((f1.then f2).then f3) (hO3.mono n02)
def okPl (point : Int) (n : Nat) : Prop := 0 ≤ point ∧ point ≤ 3 ∧ n ≤ 19
def okMk (m s n : Int) (key : List UInt8) (point : Int) (l2 l3 : Nat) : Prop := 0 ≤ point ∧ point ≤ 2 ∧ (l2 : Int) = s ∧ (l3 : Int) = n
theorem Make_c {p2 p3 : Option Addr} {l2 c2 l3 c3 : Nat} {point : Int} {sid nonce : List UInt8} (hk : key.length = 16) (h2 : Row w p2 (sid.map vb)) (hl2 : l2 = sid.length) (hc2 : l2 ≤ c2) (h3 : Row w p3 (nonce.map vb)) (hl3 : l3 = nonce.length) (hc3 : l3 ≤ c3)
    (hstate : ¬ okC m s n key → ∀ w', Fr [] w w' → K (.tuple #[.slice none 0 0, .int .i64 19]) w') (hrange : okC m s n key → ¬ okMk m s n key point l2 l3 → ∀ w', Fr [] w w' → K (.tuple #[.slice none 0 0, .int .i64 11]) w')
    (hok : okC m s n key → okMk m s n key point l2 l3 → ∀ q d w', Fr [] w w' → OB w' q (l2 + l3 + 1) d (headB point.toNat (l2 + l3) :: turnC false m key (sid ++ nonce)) w.heap.size → K (.tuple #[.slice q (l2 + l3 + 1) d, .int .i64 0]) w') :
    callF Tryz.prog F_codec_Make #[.agg ⟨cfgV m s n key⟩, .int .i64 point, .slice p2 l2 c2, .slice p3 l3 c3] w K := by
  apply codec_Make_call
  unfold codec_Make
  refine newCfg hk fun w1 f1 hC s1 => ⟨_, hC.ld hk, Right_c hk fun w2 f2 => ⟨_, rfl, ?_⟩⟩
  have f02 := f1.then f2
  have hC2 := hC.fr0 f2
  by_cases ho : okC m s n key
  · rw [decide_eq_true ho]
    have no : ∀ hb : ¬ okMk m s n key point l2 l3, K (.tuple #[.slice none 0 0, .int .i64 11]) w2 := fun hb => hrange ho hb w2 f02
    refine cond_f (cond_d (fun h => no fun hh => by unfold okMk at hh; omega) fun g1 => cond_d (fun h => no fun hh => by unfold okMk at hh; omega) fun g2 => ⟨_, hC2.sid, cond_ne (fun h => no fun hh => by unfold okMk at hh; omega) fun g3 => ⟨_, hC2.nonce, cond_ne (fun h => no fun hh => by unfold okMk at hh; omega) fun g4 => ?_⟩⟩)
    have hmk : okMk m s n key point l2 l3 := ⟨by omega, by omega, g3, g4⟩
    obtain ⟨pt, rfl⟩ := Int.eq_ofNat_of_zero_le (show 0 ≤ point by omega)
    have ho' := ho
    unfold okC at ho'
    unfold codec_Make_j1
    refine ⟨fun w' => Fr [] w2 w', Drw.intro fun w3 f3 s3 => ?_⟩
    refine ⟨_, ⟨f3, fun w' hw' => (hC2.fr0 hw').ld hk⟩, ?_⟩
    refine ⟨_, _, _, Ef.new (v := .slice (some ⟨w3.heap.size, 0, none⟩) 2 2) (cs := ([.slice p2 l2 c2, .slice p3 l3 c3] : List Value).toArray) (e := T_S_uint8) (by kernel_rfl) fun w4 f4 hB4 s4 => ?_⟩
    have f24 := f3.then f4
    refine ⟨.inr f24, ?_⟩
    have f04 := f02.then f24
    have hR4 := RowB.of2 hB4.rowL (byS (h2.fr0 f04) hl2 hc2) (byS (h3.fr0 f04) hl3 hc3)
    have efl : [sid, nonce].flatten = sid ++ nonce := by simp
    have hbl : (sid ++ nonce).length = l2 + l3 := by rw [List.length_append, ← hl2, ← hl3]
    refine Join_c (l := 2) hR4 rfl (by rw [efl, hbl]; omega) (by omega) fun q d w5 f5 hO5 => ⟨_, _, _, rfl, .inr (f24.then f5), ?_⟩
    rw [efl, hbl] at hO5
    rw [efl, hbl]
    have f05 := f04.then f5
    refine Turn_cfg_c hk hO5.row hO5.2.1 hO5.cap (by omega) (fun hn => absurd ho hn) (fun _ hn => absurd (by omega) hn) fun _ _ q6 d6 w6 f6 hO6 => ⟨_, _, _, _, rfl, cond_f ?_⟩
    have f06 := f05.then f6
    refine id_c (by omega) hO6.row hO6.2.1 hO6.cap (by omega) fun q7 d7 w7 f7 hO7 => ⟨_, _, _, rfl, ?_⟩
    exact hok ho hmk q7 d7 w7 (f06.then f7) (hO7.mono f06.size)
  · rw [decide_eq_false ho]
    exact cond_t (hstate ho w2 f02)
end
end Go.Sh
end

section
namespace Go.Sh
open Go Go.Fw Go.Proofs
set_option maxRecDepth 100000
set_option linter.unusedVariables false
abbrev partsL (pt : Int) (q1 : Option Addr) (l1 d1 : Nat) (q2 : Option Addr) (l2 d2 : Nat) : List Value := [.int .i64 pt, .slice q1 l1 d1, .slice q2 l2 d2]
section
variable {w : World} {m s n : Int} {key text : List UInt8} {K : Value → World → Prop}
theorem stoP {b : Nat} {f : Nat → Value} (hB : Blk w b 3 f) {cs : List Value} (hm : cs.length = 3) (hv : ∀ v ∈ cs, v.oneCell' = true) {K : World → Prop}
    (h : ∀ w', Fr [b] w w' → Blk w' b 3 (updN f 0 cs) → Ld Tryz.prog T_codec_Parts (.pointer (some ⟨b, 0, none⟩)) w' (.agg ⟨cs⟩) → K w') : ∃ w', Sto Tryz.prog T_codec_Parts (.pointer (some ⟨b, 0, none⟩)) (.agg ⟨cs⟩) w w' ∧ K w' := by
  refine Sto.agg (m := 3) (by kernel_rfl) hm hB (Nat.le_refl 3) hv fun w' hf hB' hs => h w' hf hB' ?_
  refine LdA (m := 3) (by kernel_rfl) (by kernel_rfl) hB' (o := 0) (by omega) cs hm (fun j v hj => ?_)
  rw [Nat.zero_add]
  unfold updN
  obtain ⟨h1, h2⟩ := List.getElem?_eq_some_iff.1 hj
  rw [dif_pos ⟨Nat.zero_le _, by simpa using h1⟩]
  simpa using h2
theorem parts_one (pt : Int) (q1 : Option Addr) (l1 d1 : Nat) (q2 : Option Addr) (l2 d2 : Nat) : ∀ v ∈ partsL pt q1 l1 d1 q2 l2 d2, v.oneCell' = true := by
  intro v hv
  simp only [partsL, List.mem_cons, List.not_mem_nil, or_false] at hv
  rcases hv with rfl | rfl | rfl <;> rfl
def okBk (m s n : Int) (key id : List UInt8) : Prop := okC m s n key ∧ (id.length : Int) = 1 + (s + n) ∧ (fl id 0).toNat % 64 + 1 = id.length
set_option maxHeartbeats 4000000 in
theorem codecBack_c {p1 : Option Addr} {l1 c1 : Nat} {id : List UInt8} (hk : key.length = 16) (h1 : Row w p1 (id.map vb)) (hl1 : l1 = id.length) (hc1 : l1 ≤ c1) (hlb : l1 < 1000000)
    (hbad : ¬ okBk m s n key id → ∀ er w', Fr [] w w' → er = (if okC m s n key then (if (id.length : Int) = 1 + (s + n) then 10 else 11) else 19) → K (.tuple #[.agg ⟨partsL 0 none 0 0 none 0 0⟩, .int .i64 er]) w')
    (hok : okBk m s n key id → ∀ q1 d1 q2 d2 w', Fr [] w w' → OB w' q1 s.toNat d1 ((turnC true m key (id.drop 1)).take s.toNat) w.heap.size → OB w' q2 n.toNat d2 ((turnC true m key (id.drop 1)).drop s.toNat) w.heap.size →
      K (.tuple #[.agg ⟨partsL (((fl id 0).toNat / 64 : Nat) : Int) q1 s.toNat d1 q2 n.toNat d2⟩, .int .i64 0]) w') :
    callF Tryz.prog F_codec_Back #[.agg ⟨cfgV m s n key⟩, .slice p1 l1 c1] w K := by
  apply codec_Back_call
  unfold codec_Back
  refine newCfg hk fun w1 f1 hC s1 => ?_
  refine newZ (s := 3) (by kernel_rfl) fun w2 g2 f2 hB2 s2 => ?_
  obtain ⟨kb, hkb⟩ : ∃ kb, kb = w1.heap.size := ⟨_, rfl⟩
  rw [← hkb] at hB2 ⊢
  have f02 := f1.then f2
  have n1 := f1.size
  have hltb := hB2.lt
  have hC2 := hC.fr0 f2
  have hCl := hC.lt
  refine ⟨_, hC2.ld hk, Right_c hk fun w3 f3 => ⟨_, rfl, ?_⟩⟩
  have hB3 := hB2.fr0 f3
  have hC3 := hC2.fr0 f3
  have f03 := f02.then f3
  have z3 : ∀ v ∈ partsL 0 none 0 0 none 0 0, v.oneCell' = true := parts_one _ _ _ _ _ _ _
  by_cases ho : okC m s n key
  · rw [decide_eq_true ho]
    refine cond_f ⟨_, hC3.ld hk, cfgSize_c hk fun w4 f4 => ⟨_, rfl, ?_⟩⟩
    rw [if_pos ho]
    have f04 := f03.then f4
    have hB4 := hB3.fr0 f4
    have hC4 := hC3.fr0 f4
    refine cond_ne (fun hne => ?_) (fun hlen => ?_)
    · refine stoP hB4 (cs := partsL 0 none 0 0 none 0 0) rfl z3 fun w5 f5 hB5 hLd => ⟨_, _, rfl, hLd, ?_⟩
      exact hbad (fun hh => hne (by have := hh.2.1; omega)) 11 w5 (f04.st f5 (by omega)) (by rw [if_pos ho, if_neg (by omega)])
    · have ho' := ho
      unfold okC at ho'
      have hlid : (id.length : Int) = 1 + (s + n) := by omega
      obtain ⟨a, ha, hca⟩ := row_get (t := T_S_uint8) (by kernel_rfl) (h1.fr0 f04) (c := c1) hl1 (i := 0) (by omega) (k := .i64)
      refine ⟨a, ha, _, Ld.cell (by kernel_rfl) hca, Told_c ⟨_, rfl, ?_⟩⟩
      refine cond_ne (fun hne => ?_) (fun htold => ?_)
      · refine stoP hB4 (cs := partsL 0 none 0 0 none 0 0) rfl z3 fun w5 f5 hB5 hLd => ⟨_, _, rfl, hLd, ?_⟩
        refine hbad (fun hh => hne ?_) 10 w5 (f04.st f5 (by omega)) (by rw [if_pos ho, if_pos hlid])
        have := hh.2.2
        show (((fl id 0).toNat % 64 + 1 : Nat) : Int) = _
        omega
      · have hbk : okBk m s n key id := ⟨ho, hlid, by have h' : (((fl id 0).toNat % 64 + 1 : Nat) : Int) = _ := htold; omega⟩
        unfold codec_Back_j2
        refine Drw.intro fun w5 f5 s5 => ?_
        have f05 := f04.then f5
        refine slFrom (h1.fr0 f05) hl1 (n := 1) (by omega) hc1 fun qt dt ht htl htd htb => ?_
        refine ⟨_, (hC4.fr0 f5).ld hk, ?_⟩
        obtain ⟨T, hT⟩ : ∃ T, T = turnC true m key (id.drop 1) := ⟨_, rfl⟩
        refine Back_cfg_c hk ht htl htd (by omega) (fun hn => absurd ho hn) (fun _ hn => absurd (by omega) hn) fun _ hl' q6 d6 w6 f6 hO6 => ⟨_, _, _, _, rfl, cond_f ?_⟩
        rw [← hT] at hO6 hok
        have f06 := f05.then f6
        refine ⟨fun w' => Fr [] w6 w', Drw.intro fun w7 f7 s7 => ?_⟩
        have g46 := f5.then f6
        have hC6 := hC4.fr0 g46
        have h17 := h1.fr0 (f06.then f7)
        obtain ⟨a', ha', hca'⟩ := row_get (t := T_S_uint8) (by kernel_rfl) (h1.fr0 f06) (c := c1) hl1 (i := 0) (by omega) (k := .i64)
        refine ⟨a', ha', _, ⟨f7, fun w' hw' => Ld.cell (by kernel_rfl) (Fr.cell hw' hca' (by simp))⟩, _, ⟨f7, fun w' hw' => (hC6.fr0 hw').sid⟩, ?_⟩
        obtain ⟨s', rfl⟩ := Int.eq_ofNat_of_zero_le (show 0 ≤ s by omega)
        obtain ⟨n', rfl⟩ := Int.eq_ofNat_of_zero_le (show 0 ≤ n by omega)
        rw [Int.toNat_natCast, Int.toNat_natCast] at hok
        have hTl : l1 - 1 = s' + n' := by omega
        have hcap6 := hO6.cap
        refine slTo (hO6.row.fr0 f7) hO6.2.1 (n := s') (by omega) hcap6 fun qa da hqa hla hda hba => ?_
        refine ⟨_, ⟨f7, fun w' hw' => (hC6.fr0 hw').sid⟩, ?_⟩
        refine slFrom (hO6.row.fr0 f7) hO6.2.1 (n := s') (by omega) hcap6 fun qb db hqb hlb' hdb hbb => ?_
        have enb : l1 - 1 - s' = n' := by omega
        rw [enb] at hlb' hdb ⊢
        have n06 := f06.size
        -- the parts
        have mkA : ∀ (w8 : World), Fr [] w7 w8 → ∀ {K' : Option Addr → Nat → Nat → World → Prop}, (∀ p w', Fr [] w8 w' → RowB w' p [T.take s'] → K' p 1 1 w') → ∃ p l c w', Ef Tryz.prog (Instr.buildSlice T_S_S_uint8 1 #[(0, .slice qa s' da)]) w8 (.slice p l c) w' ∧ K' p l c w' := fun w8 f8 K' h' => rowB1 (byS (hqa.fr0 f8) hla hda) (by kernel_rfl) fun p w' f hR _ => h' p w' f hR
        have mkB : ∀ (w8 : World), Fr [] w7 w8 → ∀ {K' : Option Addr → Nat → Nat → World → Prop}, (∀ p w', Fr [] w8 w' → RowB w' p [T.drop s'] → K' p 1 1 w') → ∃ p l c w', Ef Tryz.prog (Instr.buildSlice T_S_S_uint8 1 #[(0, .slice qb n' db)]) w8 (.slice p l c) w' ∧ K' p l c w' := fun w8 f8 K' h' => rowB1 (byS (hqb.fr0 f8) hlb' hdb) (by kernel_rfl) fun p w' f hR _ => h' p w' f hR
        have joA : ∀ (w8 : World) (p : Option Addr), RowB w8 p [T.take s'] → ∀ {K' : Value → World → Prop}, (∀ q d w', Fr [] w8 w' → OB w' q s' d (T.take s') w8.heap.size → K' (.slice q s' d) w') → callF Tryz.prog F_octet_Join #[.slice p 1 1] w8 K' := by
          intro w8 p hR K' h'
          have efl : [T.take s'].flatten = T.take s' := by simp
          refine Join_c (l := 1) hR rfl (by rw [efl]; omega) (by omega) fun q d w' f hO => ?_
          rw [efl, ← hla] at hO
          rw [efl, ← hla]
          exact h' q d w' f hO
        have joB : ∀ (w8 : World) (p : Option Addr), RowB w8 p [T.drop s'] → ∀ {K' : Value → World → Prop}, (∀ q d w', Fr [] w8 w' → OB w' q n' d (T.drop s') w8.heap.size → K' (.slice q n' d) w') → callF Tryz.prog F_octet_Join #[.slice p 1 1] w8 K' := by
          intro w8 p hR K' h'
          have efl : [T.drop s'].flatten = T.drop s' := by simp
          refine Join_c (l := 1) hR rfl (by rw [efl]; omega) (by omega) fun q d w' f hO => ?_
          rw [efl, ← hlb'] at hO
          rw [efl, ← hlb']
          exact h' q d w' f hO
        have fin : ∀ (w8 : World) (q1 : Option Addr) (d1 : Nat) (q2 : Option Addr) (d2 : Nat), Fr [] w7 w8 → OB w8 q1 s' d1 (T.take s') w7.heap.size → OB w8 q2 n' d2 (T.drop s') w7.heap.size →
            ∃ w10, Sto Tryz.prog T_codec_Parts (.pointer (some ⟨kb, 0, none⟩)) (.agg #[.int .i64 (((fl id 0).toNat / 64 : Nat) : Int), .slice q1 s' d1, .slice q2 n' d2]) w8 w10 ∧ codec_Back_j1 ⟨kb, 0, none⟩ 0 w10 K := by
          intro w8 q1 d1 q2 d2 f8 hO1 hO2
          have n7 := f7.size
          have g28 := ((((f3.then f4).then g46).then f7).then f8)
          have hlt2 := hB2.lt
          have n27 := (((f3.then f4).then g46).then f7).size
          refine stoP (hB2.fr0 g28) (cs := partsL (((fl id 0).toNat / 64 : Nat) : Int) q1 s' d1 q2 n' d2) rfl (parts_one _ _ _ _ _ _ _) fun w10 f10 hB10 hLd => ?_
          unfold codec_Back_j1
          refine ⟨_, _, rfl, hLd, ?_⟩
          exact hok hbk q1 d1 q2 d2 w10 ((f02.then g28).st f10 (by omega)) ((hO1.fr_sep f10 (by omega)).mono (by omega)) ((hO2.fr_sep f10 (by omega)).mono (by omega))
        -- both rows stand: they are joined
        have tAB : ∀ (w8 : World), Fr [] w7 w8 → ∀ (pA pB : Option Addr), RowB w8 pA [T.take s'] → RowB w8 pB [T.drop s'] →
            callF Tryz.prog F_octet_Join #[.slice pA 1 1] w8 fun r w9 => ∃ (p : Option Addr) (l c : Nat), r = .slice p l c ∧ (w9 = w8 ∨ Fr [] w6 w9) ∧
              callF Tryz.prog F_octet_Join #[.slice pB 1 1] w9 fun r' w10 => ∃ (p' : Option Addr) (l' c' : Nat), r' = .slice p' l' c' ∧
                ∃ w11, Sto Tryz.prog T_codec_Parts (.pointer (some ⟨kb, 0, none⟩)) (.agg #[.int .i64 (((fl id 0).toNat / 64 : Nat) : Int), .slice p l c, .slice p' l' c']) w10 w11 ∧ codec_Back_j1 ⟨kb, 0, none⟩ 0 w11 K := by
          intro w8 f8 pA pB hA hB
          refine joA w8 pA hA fun q1 d1 w9 f9 hO1 => ⟨_, _, _, rfl, .inr ((f7.then f8).then f9), ?_⟩
          refine joB w9 pB (hB.fr0 f9) fun q2 d2 w10 f10 hO2 => ⟨_, _, _, rfl, ?_⟩
          have m8 := f8.size; have m9 := f9.size
          exact fin w10 q1 d1 q2 d2 ((f8.then f9).then f10) ((hO1.fr0 f10).mono m8) (hO2.mono (by omega))
        have tA_B : ∀ (w8 : World), Fr [] w7 w8 → ∀ (pA : Option Addr), RowB w8 pA [T.take s'] →
            callF Tryz.prog F_octet_Join #[.slice pA 1 1] w8 fun r w9 => ∃ (p : Option Addr) (l c : Nat), r = .slice p l c ∧ (w9 = w8 ∨ Fr [] w6 w9) ∧
              ∃ (pb : Option Addr) (lb cb : Nat) (wb : World), Ef Tryz.prog (Instr.buildSlice T_S_S_uint8 1 #[(0, .slice qb n' db)]) w9 (.slice pb lb cb) wb ∧ (wb = w9 ∨ Fr [] w6 wb) ∧
              callF Tryz.prog F_octet_Join #[.slice pb lb cb] wb fun r' w10 => ∃ (p' : Option Addr) (l' c' : Nat), r' = .slice p' l' c' ∧
                ∃ w11, Sto Tryz.prog T_codec_Parts (.pointer (some ⟨kb, 0, none⟩)) (.agg #[.int .i64 (((fl id 0).toNat / 64 : Nat) : Int), .slice p l c, .slice p' l' c']) w10 w11 ∧ codec_Back_j1 ⟨kb, 0, none⟩ 0 w11 K := by
          intro w8 f8 pA hA
          refine joA w8 pA hA fun q1 d1 w9 f9 hO1 => ⟨_, _, _, rfl, .inr ((f7.then f8).then f9), ?_⟩
          refine mkB w9 (f8.then f9) fun pB w10 f10 hB => ⟨.inr (((f7.then f8).then f9).then f10), ?_⟩
          refine joB w10 pB hB fun q2 d2 w11 f11 hO2 => ⟨_, _, _, rfl, ?_⟩
          have m8 := f8.size; have m9 := f9.size; have m10 := f10.size
          exact fin w11 q1 d1 q2 d2 (((f8.then f9).then f10).then f11) (((hO1.fr0 f10).fr0 f11).mono m8) (hO2.mono (by omega))
        refine ⟨Point_c ⟨_, rfl, .inl rfl, ⟨?_, ?_⟩⟩, ⟨?_, ?_⟩⟩
        · exact mkA w7 (Fr.refl _ _) fun pA w8 f8 hA => ⟨.inr (f7.then f8), tA_B w8 f8 pA hA, mkB w8 f8 fun pB w9 f9 hB => ⟨.inr ((f7.then f8).then f9), tAB w9 (f8.then f9) pA pB (hA.fr0 f9) hB⟩⟩
        · exact mkB w7 (Fr.refl _ _) fun pB w8 f8 hB => ⟨.inr (f7.then f8), mkA w8 f8 fun pA w9 f9 hA => ⟨.inr ((f7.then f8).then f9), tAB w9 (f8.then f9) pA pB hA (hB.fr0 f9)⟩⟩
        · exact mkA w7 (Fr.refl _ _) fun pA w8 f8 hA => ⟨.inr (f7.then f8),
            Point_c ⟨_, rfl, .inl rfl, tA_B w8 f8 pA hA, mkB w8 f8 fun pB w9 f9 hB => ⟨.inr ((f7.then f8).then f9), tAB w9 (f8.then f9) pA pB (hA.fr0 f9) hB⟩⟩,
            mkB w8 f8 fun pB w9 f9 hB => ⟨.inr ((f7.then f8).then f9), Point_c ⟨_, rfl, .inl rfl, tAB w9 (f8.then f9) pA pB (hA.fr0 f9) hB⟩⟩⟩
        · exact mkB w7 (Fr.refl _ _) fun pB w8 f8 hB => ⟨.inr (f7.then f8),
            Point_c ⟨_, rfl, .inl rfl, mkA w8 f8 fun pA w9 f9 hA => ⟨.inr ((f7.then f8).then f9), tAB w9 (f8.then f9) pA pB hA (hB.fr0 f9)⟩⟩,
            mkA w8 f8 fun pA w9 f9 hA => ⟨.inr ((f7.then f8).then f9), Point_c ⟨_, rfl, .inl rfl, tAB w9 (f8.then f9) pA pB hA (hB.fr0 f9)⟩⟩⟩
  · rw [decide_eq_false ho]
    refine cond_t (stoP hB3 (cs := partsL 0 none 0 0 none 0 0) rfl z3 fun w5 f5 hB5 hLd => ⟨_, _, rfl, hLd, ?_⟩)
    exact hbad (fun hh => ho hh.1) 19 w5 (f03.st f5 (by omega)) (by rw [if_neg ho])
end
end Go.Sh
end
