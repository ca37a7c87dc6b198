/- A part of a proof of a given law of this program: lemmas, printed forms of its functions, contracts. It has no conditions of its own. -/
import Derived.Test.YtopjbcjbohegcaaGreatMM
import Derived.Test.YtopjbcjbohegcaaGreatML16
import Derived.Test.YtopjbcjbohegcaaGreatMFw3
import Derived.Test.YtopjbcjbohegcaaGreatMSh7
import Derived.Test.YtopjbcjbohegcaaGreatML17
import Derived.Test.YtopjbcjbohegcaaGreatMK

section
namespace Go.Sh
open Go Go.Fw Go.Proofs
set_option maxRecDepth 100000
set_option linter.unusedVariables false
structure SL where
  m : Int
  s : Int
  n : Int
  key : List UInt8
  st : Nat
def SL.v (x : SL) : List Value := slotV x.m x.s x.n x.key (x.st : Int)
def SL.c (x : SL) : List Value := cfgV x.m x.s x.n x.key
def sl0 : SL := ⟨0, 0, 0, z16k, 0⟩
def setS (sl : Nat → SL) (i : Nat) (x : SL) : Nat → SL := fun k => if k = i then x else sl k
def SL.ok (x : SL) (t : Nat) : Prop := x.key.length = 16 ∧ x.st ≤ t ∧ (x.st = 0 → x = sl0) ∧ (x.st ≠ 0 → okC x.m x.s x.n x.key)
theorem sl0_ok (t : Nat) : sl0.ok t := ⟨rfl, Nat.zero_le _, fun _ => rfl, fun h => absurd rfl h⟩
def SlAt (w : World) (b : Nat) (sl : Nat → SL) (t : Nat) : Prop := ∃ f, Blk w b 61 f ∧ (∀ i, i < 3 → ∀ j v, (sl i).v[j]? = some v → f (i * 20 + j) = v) ∧ f 60 = .int .i64 (t : Int) ∧ ∀ i, i < 3 → (sl i).ok t
theorem SL.ok.v_len {x : SL} {t : Nat} (h : x.ok t) : x.v.length = 20 := by unfold SL.v slotV; rw [List.length_append, cfgV_len, h.1]; rfl
theorem SL.ok.v_cfg {x : SL} {t : Nat} (h : x.ok t) {j : Nat} {v : Value} (hj : x.c[j]? = some v) : x.v[j]? = some v := by
  have hlt := (List.getElem?_eq_some_iff.1 hj).1
  show (x.c ++ [.int .i64 (x.st : Int)])[j]? = some v
  rw [List.getElem?_append_left hlt]; exact hj
theorem SL.ok.v_st {x : SL} {t : Nat} (h : x.ok t) : x.v[19]? = some (.int .i64 (x.st : Int)) := by
  unfold SL.v slotV
  rw [List.getElem?_append_right (by rw [cfgV_len, h.1]; omega), cfgV_len, h.1]; rfl
theorem SL.v_one (x : SL) : ∀ v ∈ x.v, v.oneCell' = true := by
  intro v hv
  rcases List.mem_append.1 hv with hv | hv
  · exact cfgV_one _ _ _ _ v hv
  · simp at hv; subst hv; rfl
section
variable {w : World} {b t : Nat} {sl : Nat → SL} {K : Value → World → Prop}
theorem SlAt.fr {w' : World} {L : List Nat} (h : SlAt w b sl t) (hf : Fr L w w') (hn : b ∉ L) : SlAt w' b sl t := by obtain ⟨f, hB, r⟩ := h; exact ⟨f, hB.fr hf hn, r⟩
theorem SlAt.fr0 {w' : World} (h : SlAt w b sl t) (hf : Fr [] w w') : SlAt w' b sl t := h.fr hf (by simp)
theorem SlAt.lt (h : SlAt w b sl t) : b < w.heap.size := by obtain ⟨f, hB, _⟩ := h; exact hB.lt
theorem SlAt.ok (h : SlAt w b sl t) {i : Nat} (hi : i < 3) : (sl i).ok t := by obtain ⟨f, hB, h1, h2, h3⟩ := h; exact h3 i hi
theorem SlAt.cfgLd (h : SlAt w b sl t) {i : Nat} (hi : i < 3) : Ld Tryz.prog T_mode_Config (.pointer (some ⟨b, i * 20, none⟩)) w (.agg ⟨(sl i).c⟩) := by
  obtain ⟨f, hB, h1, h2, h3⟩ := h
  exact LdA (m := 19) (by kernel_rfl) (by kernel_rfl) hB (by omega) _ (by unfold SL.c; rw [cfgV_len, (h3 i hi).1]) fun j v hj => h1 i hi j v ((h3 i hi).v_cfg hj)
theorem SlAt.ld (h : SlAt w b sl t) {i : Nat} (hi : i < 3) : Ld Tryz.prog T_slot_slot (.pointer (some ⟨b, i * 20, none⟩)) w (.agg ⟨(sl i).v⟩) := by
  obtain ⟨f, hB, h1, h2, h3⟩ := h
  exact LdA (m := 20) (by kernel_rfl) (by kernel_rfl) hB (by omega) _ (h3 i hi).v_len fun j v hj => h1 i hi j v hj
theorem SlAt.stLd (h : SlAt w b sl t) {i : Nat} (hi : i < 3) : Ld Tryz.prog T_int64 (.pointer (some ((⟨b, i * 20, none⟩ : Addr).add 19))) w (.int .i64 ((sl i).st : Int)) := by
  obtain ⟨f, hB, h1, h2, h3⟩ := h
  rw [add_mk]
  exact Ld.blk (by kernel_rfl) hB (by omega) (h1 i hi 19 _ (h3 i hi).v_st)
theorem SlAt.cntLd (h : SlAt w b sl t) : Ld Tryz.prog T_int64 (.pointer (some ((⟨b, 0, none⟩ : Addr).add 60))) w (.int .i64 (t : Int)) := by
  obtain ⟨f, hB, h1, h2, h3⟩ := h
  rw [add_mk]
  exact Ld.blk (by kernel_rfl) hB (by omega) h2
theorem SlAt.sto (h : SlAt w b sl t) {i : Nat} (hi : i < 3) {x : SL} (hx : x.ok t) {K : World → Prop} (hk : ∀ w', Fr [b] w w' → SlAt w' b (setS sl i x) t → w'.heap.size = w.heap.size → K w') : ∃ w', Sto Tryz.prog T_slot_slot (.pointer (some ⟨b, i * 20, none⟩)) (.agg ⟨x.v⟩) w w' ∧ K w' := by
  obtain ⟨f, hB, h1, h2, h3⟩ := h
  have hl := hx.v_len
  refine Sto.agg (m := 20) (cs := x.v) (by kernel_rfl) hl hB (by omega) x.v_one fun w' hf hB' hs => hk w' hf ⟨_, hB', fun k hk j v hj => ?_, ?_, fun k hk => ?_⟩ hs
  · unfold setS at hj
    by_cases hki : k = i
    · rw [if_pos hki] at hj
      have hlt := (List.getElem?_eq_some_iff.1 hj).1
      unfold updN
      rw [dif_pos ⟨by omega, by omega⟩]
      obtain ⟨h4, h5⟩ := List.getElem?_eq_some_iff.1 hj
      have e : k * 20 + j - i * 20 = j := by omega
      simp only [e]; exact h5
    · rw [if_neg hki] at hj
      have hlt := (List.getElem?_eq_some_iff.1 hj).1
      rw [(h3 k hk).v_len] at hlt
      unfold updN
      rw [dif_neg (by omega)]
      exact h1 k hk j v hj
  · unfold updN
    rw [dif_neg (by omega)]; exact h2
  · unfold setS
    by_cases hki : k = i
    · rw [if_pos hki]; exact hx
    · rw [if_neg hki]; exact h3 k hk
theorem SlAt.cntSto (h : SlAt w b sl t) {K : World → Prop} (hk : ∀ w', Fr [b] w w' → SlAt w' b sl (t + 1) → w'.heap.size = w.heap.size → K w') : ∃ w', Sto Tryz.prog T_int64 (.pointer (some ((⟨b, 0, none⟩ : Addr).add 60))) (.int .i64 ((t + 1 : Nat) : Int)) w w' ∧ K w' := by
  obtain ⟨f, hB, h1, h2, h3⟩ := h
  rw [add_mk]
  refine Sto.blk (by kernel_rfl) hB (by omega) rfl rfl fun w' hf hB' hs => hk w' hf ⟨_, hB', fun i hi j v hj => ?_, upd_same _ _ _, fun i hi => ?_⟩ hs
  · have hlt := (List.getElem?_eq_some_iff.1 hj).1
    rw [(h3 i hi).v_len] at hlt
    rw [upd_ne _ _ _ (by omega)]; exact h1 i hi j v hj
  · obtain ⟨a, b, c⟩ := h3 i hi; exact ⟨a, by omega, c⟩
theorem slotAt_c {n : Int} (hbad : ¬ (0 ≤ n ∧ n < 3) → K (.pointer none) w) (hok : ∀ i : Nat, n = (i : Int) → i < 3 → K (.pointer (some ⟨b, i * 20, none⟩)) w) : callF Tryz.prog F_slot_Slots_at #[.pointer (some ⟨b, 0, none⟩), .int .i64 n] w K := by
  apply slot_Slots_at_call
  unfold slot_Slots_at
  refine cond_d (fun h => hbad (by omega)) fun h1 => cond_d (fun h => hbad (by omega)) fun h2 => ?_
  obtain ⟨i, rfl⟩ := Int.eq_ofNat_of_zero_le (show 0 ≤ n by omega)
  unfold slot_Slots_at_j1
  have hx := ixA (P := Tryz.prog) (t := T_A3_slot_slot) (n := 3) (s := 20) (by kernel_rfl) (b := b) (o := 0) (k := .i64) (i := (i : Int)) (by omega) (by omega)
  rw [Int.toNat_natCast, Nat.zero_add] at hx
  exact ⟨_, rfl, _, by rw [add_mk]; exact hx, hok i rfl (by omega)⟩
theorem slotNew_c (h : ∀ b w', Fr [] w w' → w.heap.size ≤ b → SlAt w' b (fun _ => sl0) 0 → K (.pointer (some ⟨b, 0, none⟩)) w') : callF Tryz.prog F_slot_New #[] w K := by
  apply slot_New_call
  unfold slot_New
  refine newAs (cs' := ⟨sl0.v ++ sl0.v ++ sl0.v ++ [.int .i64 0]⟩) (by kernel_rfl) ?_
  refine New.intro fun w1 f1 hB1 s1 => h _ w1 f1 (Nat.le_refl _) ⟨_, hB1, fun i hi j v hj => ?_, by rfl, fun i hi => sl0_ok 0⟩
  have hj : sl0.v[j]? = some v := hj
  have hlt := (List.getElem?_eq_some_iff.1 hj).1
  have hl : sl0.v.length = 20 := (sl0_ok 0).v_len
  show Array.getD ⟨sl0.v ++ sl0.v ++ sl0.v ++ [.int .i64 0]⟩ (i * 20 + j) undef = v
  rw [Array.getD_eq_getD_getElem?, List.getElem?_toArray]
  have e : (sl0.v ++ sl0.v ++ sl0.v ++ [.int .i64 0])[i * 20 + j]? = some v := by
    match i, hi with
    | 0, _ => rw [List.getElem?_append_left (by simp; omega), List.getElem?_append_left (by simp; omega), List.getElem?_append_left (by omega)]; rw [Nat.zero_mul, Nat.zero_add]; exact hj
    | 1, _ => rw [List.getElem?_append_left (by simp; omega), List.getElem?_append_left (by simp; omega), List.getElem?_append_right (by omega), hl, show 1 * 20 + j - 20 = j by omega]; exact hj
    | 2, _ => rw [List.getElem?_append_left (by simp; omega), List.getElem?_append_right (by simp; omega), List.length_append, hl, show 2 * 20 + j - (20 + 20) = j by omega]; exact hj
  rw [e]; rfl
def ofS (sl : Nat → SL) (n : Int) : SL := if 0 ≤ n ∧ n < 3 then sl n.toNat else sl0
def occ (sl : Nat → SL) (n : Int) : Prop := (0 ≤ n ∧ n < 3) ∧ (sl n.toNat).st ≠ 0
instance (sl : Nat → SL) (n : Int) : Decidable (occ sl n) := by unfold occ; infer_instance
theorem ofS_ok (h : SlAt w b sl t) (n : Int) : (ofS sl n).ok t := by
  unfold ofS; split
  · exact h.ok (by omega)
  · exact sl0_ok t
theorem slotStamp_c (h : SlAt w b sl t) {n : Int} (hk : K (.int .i64 ((ofS sl n).st : Int)) w) : callF Tryz.prog F_slot_Slots_Stamp #[.pointer (some ⟨b, 0, none⟩), .int .i64 n] w K := by
  apply slot_Slots_Stamp_call
  unfold slot_Slots_Stamp
  refine slotAt_c (fun hb => ?_) fun i hn hi => ?_
  · refine ⟨_, rfl, _, _, ptrNe (by kernel_rfl), cond_f ?_⟩
    have : ofS sl n = sl0 := by unfold ofS; rw [if_neg hb]
    rw [this] at hk; exact hk
  · subst hn
    refine ⟨_, rfl, _, _, ptrNe (by kernel_rfl), cond_t ⟨_, rfl, _, h.stLd hi, ?_⟩⟩
    have : ofS sl (i : Int) = sl i := by unfold ofS; rw [if_pos (by omega), Int.toNat_natCast]
    rw [this] at hk; exact hk
set_option maxHeartbeats 1000000 in
theorem slotOf_c (h : SlAt w b sl t) {n : Int} (hk : ∀ w', Fr [] w w' → K (.tuple #[.agg ⟨(ofS sl n).c⟩, .bool (decide (occ sl n))]) w') : callF Tryz.prog F_slot_Slots_Of #[.pointer (some ⟨b, 0, none⟩), .int .i64 n] w K := by
  apply slot_Slots_Of_call
  unfold slot_Slots_Of
  refine newZ (s := 19) (by kernel_rfl) fun w1 g1 f1 hB1 s1 => ?_
  have hno : ¬ occ sl n → (ofS sl n).c = sl0.c := by
    intro ho
    unfold ofS
    split
    · rename_i hr
      have h0 : (sl n.toNat).st = 0 := by
        by_cases h0 : (sl n.toNat).st = 0
        · exact h0
        · exact absurd ⟨hr, h0⟩ ho
      rw [(h.ok (show n.toNat < 3 by omega)).2.2.1 h0]
    · rfl
  have none_ : ¬ occ sl n → ∀ {b5 : Bool} {p : Option Addr}, slot_Slots_Of_j2 ⟨w.heap.size, 0, none⟩ b5 p true w1 K := by
    intro ho b5 p
    unfold slot_Slots_Of_j2
    refine cond_t ?_
    refine stoCfg (m := 0) (s := 0) (n := 0) (key := z16k) hB1 rfl fun w2 f2 hC2 s2 => ⟨_, _, rfl, hC2.ld rfl, ?_⟩
    have := hk w2 (f1.st f2 (Nat.le_refl _))
    rw [hno ho, decide_eq_false ho] at this
    have e0 : sl0.c = cfgV 0 0 0 z16k := rfl
    rw [e0] at this
    exact this
  refine slotAt_c (fun hb => ?_) fun i hn hi => ?_
  · refine ⟨_, rfl, _, _, ptrNil (by kernel_rfl), cond_t ?_⟩
    exact none_ (fun ho => hb ho.1)
  · subst hn
    refine ⟨_, rfl, _, _, ptrNil (by kernel_rfl), cond_f ⟨_, rfl, _, (h.fr0 f1).stLd hi, ?_⟩⟩
    by_cases h0 : (sl i).st = 0
    · have e : ((((sl i).st : Nat) : Int) == 0) = true := by rw [h0]; rfl
      rw [e]
      have hno2 : ¬ occ sl (i : Int) := by
        rintro ⟨_, hh⟩
        rw [Int.toNat_natCast] at hh
        exact hh h0
      exact none_ hno2
    · have e : ((((sl i).st : Nat) : Int) == 0) = false := by simp [h0]
      rw [e]
      unfold slot_Slots_Of_j2
      refine cond_f ?_
      unfold slot_Slots_Of_j1
      refine ⟨_, rfl, _, by rw [add_mk, Nat.add_zero]; exact (h.fr0 f1).cfgLd hi, ?_⟩
      have hl := (h.ok hi).1
      refine stoCfg hB1 hl fun w2 f2 hC2 s2 => ⟨_, _, rfl, hC2.ld hl, ?_⟩
      have := hk w2 (f1.st f2 (Nat.le_refl _))
      have ho : occ sl (i : Int) := ⟨by omega, by rw [Int.toNat_natCast]; exact h0⟩
      have eo : ofS sl (i : Int) = sl i := by unfold ofS; rw [if_pos (by omega), Int.toNat_natCast]
      rw [eo, decide_eq_true ho] at this
      exact this
def insE (sl : Nat → SL) (i m s n : Int) (key : List UInt8) : Int := if ¬ (0 ≤ i ∧ i < 3) then 11 else if ¬ okC m s n key then 10 else if occ sl i then 16 else 0
def retE (sl : Nat → SL) (i : Int) : Int := if ¬ (0 ≤ i ∧ i < 3) then 11 else if occ sl i then 0 else 17
set_option maxHeartbeats 1000000 in
theorem slotInstall_c (h : SlAt w b sl t) (ht : t < 1000000000) {i m s n : Int} {key : List UInt8} (hl : key.length = 16)
    (hk : ∀ w' sl' t', Fr [b] w w' → SlAt w' b sl' t' → (insE sl i m s n key ≠ 0 → sl' = sl ∧ t' = t) → (insE sl i m s n key = 0 → sl' = setS sl i.toNat ⟨m, s, n, key, t + 1⟩ ∧ t' = t + 1) → K (.int .i64 (insE sl i m s n key)) w') :
    callF Tryz.prog F_slot_Slots_Install #[.pointer (some ⟨b, 0, none⟩), .int .i64 i, .agg ⟨cfgV m s n key⟩] w K := by
  apply slot_Slots_Install_call
  unfold slot_Slots_Install
  have hb := h.lt
  refine newCfg hl fun w1 f1 hC1 s1 => ?_
  have same : ∀ e, insE sl i m s n key = e → e ≠ 0 → ∀ w', Fr [] w w' → K (.int .i64 e) w' := by
    intro e he h0 w' f
    have := hk w' sl t (f.mono (by simp)) (h.fr0 f) (fun _ => ⟨rfl, rfl⟩) (fun hh => absurd (he.symm.trans hh) h0)
    rw [he] at this; exact this
  refine slotAt_c (fun hb => ?_) fun j hn hj => ?_
  · refine ⟨_, rfl, _, _, ptrNil (by kernel_rfl), cond_t (same 11 ?_ (by omega) w1 f1)⟩
    unfold insE; rw [if_pos hb]
  · subst hn
    have hr : ¬ ¬ ((0 : Int) ≤ (j : Int) ∧ (j : Int) < 3) := fun hh => hh (by omega)
    refine ⟨_, rfl, _, _, ptrNil (by kernel_rfl), cond_f ⟨_, hC1.ld hl, ?_⟩⟩
    refine Right_c hl fun w2 f2 => ⟨_, rfl, ?_⟩
    have f02 := f1.then f2
    by_cases hok : okC m s n key
    · rw [decide_eq_true hok]
      refine cond_f ⟨_, rfl, _, (h.fr0 f02).stLd hj, ?_⟩
      have hok' : ¬ ¬ okC m s n key := fun hh => hh hok
      refine cond_ne (fun h0 => same 16 ?_ (by omega) w2 f02) fun h0 => ?_
      · have ho : occ sl (j : Int) := ⟨by omega, by rw [Int.toNat_natCast]; omega⟩
        unfold insE; rw [if_neg hr, if_neg hok', if_pos ho]
      · have ho : ¬ occ sl (j : Int) := fun hh => hh.2 (by rw [Int.toNat_natCast]; omega)
        have he : insE sl (j : Int) m s n key = 0 := by unfold insE; rw [if_neg hr, if_neg hok', if_neg ho]
        unfold slot_Slots_Install_j1
        refine ⟨_, rfl, _, (h.fr0 f02).cntLd, _, rfl, ?_⟩
        have ew : IntKind.i64.wrap ((t : Int) + 1) = ((t + 1 : Nat) : Int) := by rw [wrap64 (by omega) (by omega)]; omega
        rw [ew]
        refine (h.fr0 f02).cntSto fun w3 f3 h3 s3 => ⟨fun w' => Fr [] w3 w', Drw.intro fun w4 f4 s4 => ?_⟩
        have hC3 := (hC1.fr0 f2).fr f3 (by simp; omega)
        refine ⟨_, rfl, _, ⟨f4, fun w' hw' => (hC3.fr0 hw').ld hl⟩, _, (h3.fr0 f4).cntLd, .inl rfl, ?_⟩
        have hx : SL.ok ⟨m, s, n, key, t + 1⟩ (t + 1) := ⟨hl, Nat.le_refl _, fun hh => absurd hh (by simp), fun _ => hok⟩
        refine ⟨(⟨SL.v ⟨m, s, n, key, t + 1⟩⟩ : Array Value), ?_, _, rfl, ?_⟩
        · obtain ⟨x0, x1, x2, x3, x4, x5, x6, x7, x8, x9, xa, xb, xc, xd, xe, xf, rfl⟩ := list16 hl
          unfold Pu; kernel_rfl
        · refine (h3.fr0 f4).sto hj hx fun w5 f5 h5 s5 => ?_
          have := hk w5 _ _ ((((f02.mono (by simp)).trans f3 (fun x hx => .inl hx)).then f4).trans f5 (fun x hx => .inl hx)) h5 (fun hh => absurd he hh) (fun _ => ⟨rfl, rfl⟩)
          rw [he] at this
          exact this
    · rw [decide_eq_false hok]
      refine cond_t (same 10 ?_ (by omega) w2 f02)
      unfold insE; rw [if_neg hr, if_pos hok]
theorem slotRetire_c (h : SlAt w b sl t) {i : Int}
    (hk : ∀ w' sl', Fr [b] w w' → SlAt w' b sl' t → (retE sl i ≠ 0 → sl' = sl) → (retE sl i = 0 → sl' = setS sl i.toNat sl0) → K (.int .i64 (retE sl i)) w') :
    callF Tryz.prog F_slot_Slots_Retire #[.pointer (some ⟨b, 0, none⟩), .int .i64 i] w K := by
  apply slot_Slots_Retire_call
  unfold slot_Slots_Retire
  have same : ∀ e, retE sl i = e → e ≠ 0 → K (.int .i64 e) w := by
    intro e he h0
    have := hk w sl (Fr.refl _ _) h (fun _ => rfl) (fun hh => absurd (he.symm.trans hh) h0)
    rw [he] at this; exact this
  refine slotAt_c (fun hb => ?_) fun j hn hj => ?_
  · refine ⟨_, rfl, _, _, ptrNil (by kernel_rfl), cond_t (same 11 ?_ (by omega))⟩
    unfold retE; rw [if_pos hb]
  · subst hn
    have hr : ¬ ¬ ((0 : Int) ≤ (j : Int) ∧ (j : Int) < 3) := fun hh => hh (by omega)
    have hok := h.ok hj
    refine ⟨_, rfl, _, _, ptrNil (by kernel_rfl), cond_f ⟨_, rfl, _, h.ld hj, _, _, Ef.eqSlot (n := 16) (m2 := 0) (s2 := 0) (n2 := 0) (k2 := z16k) (t2 := 0) (by kernel_rfl) hok.1 rfl, ?_⟩⟩
    refine cond_d (fun h1 => same 17 ?_ (by omega)) fun h1 => ?_
    · have ho : ¬ occ sl (j : Int) := fun hh => hh.2 (by rw [Int.toNat_natCast]; have := h1.2; omega)
      unfold retE; rw [if_neg hr, if_neg ho]
    · have h0 : (sl j).st ≠ 0 := fun h0 => h1 (by rw [hok.2.2.1 h0]; exact ⟨⟨rfl, rfl, rfl, rfl⟩, rfl⟩)
      have ho : occ sl (j : Int) := ⟨by omega, by rw [Int.toNat_natCast]; exact h0⟩
      have he : retE sl (j : Int) = 0 := by unfold retE; rw [if_neg hr, if_pos ho]
      unfold slot_Slots_Retire_j1
      refine ⟨_, rfl, ?_⟩
      refine h.sto hj (sl0_ok t) fun w5 f5 h5 s5 => ?_
      have := hk w5 _ f5 h5 (fun hh => absurd he hh) (fun _ => rfl)
      rw [he] at this
      exact this
theorem slotClone_c (h : SlAt w b sl t) (hk : ∀ b' w', Fr [] w w' → w.heap.size ≤ b' → SlAt w' b' sl t → K (.pointer (some ⟨b', 0, none⟩)) w') : callF Tryz.prog F_slot_Slots_Clone #[.pointer (some ⟨b, 0, none⟩)] w K := by
  apply slot_Slots_Clone_call
  unfold slot_Slots_Clone
  obtain ⟨f, hB, h1, h2, h3⟩ := h
  have hl : ((List.range 61).map f).length = 61 := by simp
  refine ⟨_, rfl, _, LdA (m := 61) (by kernel_rfl) (by kernel_rfl) hB (o := 0) (by omega) ((List.range 61).map f) hl (fun j v hj => ?_), newZ (s := 61) (by kernel_rfl) fun w1 g1 f1 hB1 s1 => ?_⟩
  · have hlt := (List.getElem?_eq_some_iff.1 hj).1
    rw [hl] at hlt
    rw [List.getElem?_map, List.getElem?_range hlt] at hj
    rw [Nat.zero_add]; simpa using hj
  · have hone : ∀ j, j < 61 → (f j).oneCell' = true := by
      intro j hj
      by_cases h60 : j = 60
      · subst h60; rw [h2]; rfl
      · have hi : j / 20 < 3 := by omega
        have hlen := (h3 _ hi).v_len
        have hlt : j % 20 < (sl (j / 20)).v.length := by omega
        have e := h1 _ hi (j % 20) _ (List.getElem?_eq_getElem hlt)
        rw [show j / 20 * 20 + j % 20 = j by omega] at e
        rw [e]
        exact (sl (j / 20)).v_one _ (List.getElem_mem hlt)
    refine Sto.agg (m := 61) (cs := (List.range 61).map f) (by kernel_rfl) hl hB1 (by omega) (fun v hv => ?_) fun w2 f2 hB2 s2 => ?_
    · obtain ⟨j, hj, rfl⟩ := List.mem_map.1 hv
      exact hone j (List.mem_range.1 hj)
    · have e : ∀ j, j < 61 → updN g1 0 ((List.range 61).map f) j = f j := by
        intro j hj
        unfold updN
        rw [dif_pos ⟨Nat.zero_le _, by rw [hl]; omega⟩]
        simp
      refine hk _ w2 (f1.st f2 (Nat.le_refl _)) (Nat.le_refl _) ⟨f, hB2.ext e, h1, h2, h3⟩
end
end Go.Sh
end

section
namespace Go.Sh
open Go Go.Fw Go.Proofs
set_option maxRecDepth 100000
set_option linter.unusedVariables false
structure PR where
  e : Int
  p : Int
  a : List UInt8
  b : List UInt8
def PR.bad (e : Int) : PR := ⟨e, 0, [], []⟩
def bkR (x : SL) (id : List UInt8) : PR := ⟨bkE x.m x.s x.n x.key id, bkP x.m x.s x.n x.key id, bkS x.m x.s x.n x.key id, bkN x.m x.s x.n x.key id⟩
def ptO (id : List UInt8) : Nat := (fl id 0).toNat / 64
def showR (sl : Nat → SL) (id : List UInt8) : PR := if id.length = 0 then .bad 12 else if occ sl (ptO id : Int) then bkR (ofS sl (ptO id : Int)) id else .bad 17
def SL.size (x : SL) : Nat := (1 + (x.s + x.n)).toNat
def shortR (sl : Nat → SL) (id : List UInt8) : PR := if id.length < 2 then .bad 12 else if occ sl (ptO (id.drop 1) : Int) then (if (id.drop 1).length < (ofS sl (ptO (id.drop 1) : Int)).size then .bad 12 else bkR (ofS sl (ptO (id.drop 1) : Int)) ((id.drop 1).take (ofS sl (ptO (id.drop 1) : Int)).size)) else .bad 17
def prT (r : PR) (q1 : Option Addr) (d1 : Nat) (q2 : Option Addr) (d2 : Nat) : Value := .tuple #[.agg ⟨partsL r.p q1 r.a.length d1 q2 r.b.length d2⟩, .int .i64 r.e]
section
variable {w : World} {b t : Nat} {sl : Nat → SL} {K : Value → World → Prop}
def prK (r : PR) (K : Value → World → Prop) (w : World) : Prop := ∀ q1 d1 q2 d2 w', Fr [] w w' → OB w' q1 r.a.length d1 r.a w.heap.size → OB w' q2 r.b.length d2 r.b w.heap.size → K (prT r q1 d1 q2 d2) w'
theorem badP {kb : Nat} {w0 : World} {e : Int} {f : Nat → Value} (hB : Blk w kb 3 f) (f0 : Fr [] w0 w) (hk : w0.heap.size ≤ kb) (h : prK (.bad e) K w0) :
    ∃ w2, Sto Tryz.prog T_codec_Parts (.pointer (some ⟨kb, 0, none⟩)) (.agg #[.int .i64 0, .slice none 0 0, .slice none 0 0]) w w2 ∧ ∃ (a4 : Addr) (v4 : Value), (.pointer (some ⟨kb, 0, none⟩) : Value) = .pointer (some a4) ∧ (loadVar T_codec_Parts a4).run Tryz.prog w2 = .ok v4 w2 ∧ K (.tuple #[v4, .int .i64 e]) w2 := by
  refine stoP hB (cs := partsL 0 none 0 0 none 0 0) rfl (parts_one _ _ _ _ _ _ _) fun w3 f3 hB3 hLd => ⟨_, _, rfl, hLd, ?_⟩
  exact h none 0 none 0 w3 (f0.st f3 hk) (OB.nil _ _) (OB.nil _ _)
theorem occ_ok (h : SlAt w b sl t) {n : Int} (ho : occ sl n) : okC (ofS sl n).m (ofS sl n).s (ofS sl n).n (ofS sl n).key := by
  have e : ofS sl n = sl n.toNat := by unfold ofS; rw [if_pos ho.1]
  rw [e]
  exact (h.ok (show n.toNat < 3 by have := ho.1; omega)).2.2.2 ho.2
theorem backO_c {m s n : Int} {key : List UInt8} {p1 : Option Addr} {l1 c1 : Nat} {id : List UInt8} (hk : key.length = 16) (h1 : Row w p1 (id.map vb)) (hl1 : l1 = id.length) (hc1 : l1 ≤ c1) (hlb : l1 < 1000000)
    (h : ∀ q1 d1 q2 d2 w', Fr [] w w' → OB w' q1 (bkS m s n key id).length d1 (bkS m s n key id) w.heap.size → OB w' q2 (bkN m s n key id).length d2 (bkN m s n key id) w.heap.size → K (bkT m s n key id q1 d1 q2 d2) w') :
    callF Tryz.prog F_codec_Back #[.agg ⟨cfgV m s n key⟩, .slice p1 l1 c1] w K := by
  refine codecBack_c hk h1 hl1 hc1 hlb (fun hb er w' f he => ?_) (fun hb q1 d1 q2 d2 w' f hO1 hO2 => ?_)
  · unfold bkT bkP bkS bkN bkE at h
    rw [if_neg hb, if_neg hb, if_neg hb, if_neg hb, ← he] at h
    exact h none 0 none 0 w' f (OB.nil _ _) (OB.nil _ _)
  · obtain ⟨e1, e2⟩ := bk_len hb
    have g1 : bkS m s n key id = (turnC true m key (id.drop 1)).take s.toNat := by unfold bkS; rw [if_pos hb]
    have g2 : bkN m s n key id = (turnC true m key (id.drop 1)).drop s.toNat := by unfold bkN; rw [if_pos hb]
    rw [← g1] at hO1
    rw [← g2] at hO2
    have := h q1 d1 q2 d2 w' f (by rw [e1]; exact hO1) (by rw [e2]; exact hO2)
    unfold bkT at this
    rw [e1, e2] at this
    unfold bkP bkE at this
    rw [if_pos hb, if_pos hb] at this
    exact this
theorem tellP {kb : Nat} {w0 : World} {x : SL} {id : List UInt8} {q1 q2 : Option Addr} {d1 d2 lo : Nat} {f : Nat → Value} (hB : Blk w kb 3 f) (f0 : Fr [] w0 w) (hk : w0.heap.size ≤ kb) (hlo : kb < lo) (h1 : OB w q1 (bkR x id).a.length d1 (bkR x id).a lo) (h2 : OB w q2 (bkR x id).b.length d2 (bkR x id).b lo) (h : prK (bkR x id) K w0) :
    ∃ w2, Sto Tryz.prog T_codec_Parts (.pointer (some ⟨kb, 0, none⟩)) (.agg #[.int .i64 (bkP x.m x.s x.n x.key id), .slice q1 (bkS x.m x.s x.n x.key id).length d1, .slice q2 (bkN x.m x.s x.n x.key id).length d2]) w w2 ∧ ∃ (a4 : Addr) (v4 : Value), (.pointer (some ⟨kb, 0, none⟩) : Value) = .pointer (some a4) ∧ (loadVar T_codec_Parts a4).run Tryz.prog w2 = .ok v4 w2 ∧ K (.tuple #[v4, .int .i64 (bkE x.m x.s x.n x.key id)]) w2 := by
  refine stoP hB (cs := partsL (bkP x.m x.s x.n x.key id) q1 (bkS x.m x.s x.n x.key id).length d1 q2 (bkN x.m x.s x.n x.key id).length d2) rfl (parts_one _ _ _ _ _ _ _) fun w3 f3 hB3 hLd => ⟨_, _, rfl, hLd, ?_⟩
  have hs : ∀ k ∈ [kb], k < lo := fun k hk => by simp at hk; omega
  exact h q1 d1 q2 d2 w3 (f0.st f3 hk) ((h1.fr_sep f3 hlo).mono (by omega)) ((h2.fr_sep f3 hlo).mono (by omega))
set_option maxHeartbeats 1000000 in
theorem slotShow_c (h : SlAt w b sl t) {p : Option Addr} {l c : Nat} {id : List UInt8} (hx : Row w p (id.map vb)) (hl : l = id.length) (hc : l ≤ c) (hlb : l < 1000000) (hk : prK (showR sl id) K w) : callF Tryz.prog F_slot_Slots_Show #[.pointer (some ⟨b, 0, none⟩), .slice p l c] w K := by
  apply slot_Slots_Show_call
  unfold slot_Slots_Show
  refine newZ (s := 3) (by kernel_rfl) fun w1 g1 f1 hB1 s1 => ?_
  unfold showR at hk
  refine cond_d (fun h0 => ?_) fun h0 => ?_
  · rw [if_pos (by omega)] at hk
    exact badP hB1 f1 (Nat.le_refl _) hk
  · rw [if_neg (by omega)] at hk
    obtain ⟨a, ha, hca⟩ := row_get (t := T_S_uint8) (by kernel_rfl) (hx.fr0 f1) (c := c) hl (i := 0) (by omega) (k := .i64)
    refine ⟨a, ha, _, Ld.cell (by kernel_rfl) hca, Point_c ⟨_, rfl, ?_⟩⟩
    have ept : (((id.getD 0 0).toNat / 64 : Nat) : Int) = (ptO id : Int) := rfl
    rw [ept]
    refine slotOf_c (h.fr0 f1) fun w2 f2 => ⟨_, _, rfl, ?_⟩
    have hok := ofS_ok h (ptO id : Int)
    obtain ⟨x, hxe⟩ : ∃ x, x = ofS sl (ptO id : Int) := ⟨_, rfl⟩
    rw [← hxe] at hok hk ⊢
    refine newZ (s := 19) (by kernel_rfl) fun w3 g3 f3 hB3 s3 => ?_
    refine stoCfg (m := x.m) (s := x.s) (n := x.n) (key := x.key) hB3 hok.1 fun w4 f4 hC4 s4 => ?_
    have f24 : Fr [] w2 w4 := f3.st f4 (Nat.le_refl _)
    have f14 := f2.then f24
    have f04 := f1.then f14
    have hB4 := hB1.fr0 f14
    by_cases ho : occ sl (ptO id : Int)
    · rw [decide_eq_true ho]
      rw [if_pos ho] at hk
      refine cond_f ⟨_, hC4.ld hok.1, ?_⟩
      refine backO_c hok.1 (hx.fr0 f04) hl hc hlb fun q1 d1 q2 d2 w5 f5 hO1 hO2 => ⟨_, _, _, _, _, _, _, _, rfl, ?_⟩
      have n4 := f14.size
      exact tellP (hB4.fr0 f5) (f04.then f5) (Nat.le_refl _) (by omega) hO1 hO2 hk
    · rw [decide_eq_false ho]
      rw [if_neg ho] at hk
      exact cond_t (badP hB4 f04 (Nat.le_refl _) hk)
set_option maxHeartbeats 1000000 in
theorem slotShort_c (h : SlAt w b sl t) {p : Option Addr} {l c : Nat} {id : List UInt8} (hx : Row w p (id.map vb)) (hl : l = id.length) (hc : l ≤ c) (hlb : l < 1000000) (hk : prK (shortR sl id) K w) : callF Tryz.prog F_slot_Slots_Short #[.pointer (some ⟨b, 0, none⟩), .slice p l c] w K := by
  apply slot_Slots_Short_call
  unfold slot_Slots_Short
  refine newZ (s := 3) (by kernel_rfl) fun w1 g1 f1 hB1 s1 => ?_
  unfold shortR at hk
  refine cond_d (fun h0 => ?_) fun h0 => ?_
  · rw [if_pos (by omega)] at hk
    exact badP hB1 f1 (Nat.le_refl _) hk
  · rw [if_neg (by omega)] at hk
    refine slFrom (hx.fr0 f1) hl (n := 1) (by omega) hc fun q d hq hql hqc hqs => ?_
    obtain ⟨R, hR⟩ : ∃ R, R = id.drop 1 := ⟨_, rfl⟩
    rw [← hR] at hq hql hk
    obtain ⟨a, ha, hca⟩ := row_get (t := T_S_uint8) (by kernel_rfl) hq (c := d) hql (i := 0) (by omega) (k := .i64)
    refine ⟨a, ha, _, Ld.cell (by kernel_rfl) hca, Point_c ⟨_, rfl, ?_⟩⟩
    have ept : (((R.getD 0 0).toNat / 64 : Nat) : Int) = (ptO R : Int) := rfl
    rw [ept]
    refine slotOf_c (h.fr0 f1) fun w2 f2 => ⟨_, _, rfl, ?_⟩
    have hok := ofS_ok h (ptO R : Int)
    have hocc := occ_ok h (n := (ptO R : Int))
    obtain ⟨x, hxe⟩ : ∃ x, x = ofS sl (ptO R : Int) := ⟨_, rfl⟩
    rw [← hxe] at hok hk hocc ⊢
    refine newZ (s := 19) (by kernel_rfl) fun w3 g3 f3 hB3 s3 => ?_
    refine stoCfg (m := x.m) (s := x.s) (n := x.n) (key := x.key) hB3 hok.1 fun w4 f4 hC4 s4 => ?_
    have f24 : Fr [] w2 w4 := f3.st f4 (Nat.le_refl _)
    have f14 := f2.then f24
    have f04 := f1.then f14
    have hB4 := hB1.fr0 f14
    by_cases ho : occ sl (ptO R : Int)
    · rw [decide_eq_true ho]
      rw [if_pos ho] at hk
      have hc' := hocc ho
      have hc2 := hc'
      unfold okC at hc2
      have esz : (if okC x.m x.s x.n x.key then 1 + (x.s + x.n) else 0) = ((x.size : Nat) : Int) := by rw [if_pos hc']; unfold SL.size; omega
      refine cond_f ⟨_, hC4.ld hok.1, ?_⟩
      refine cfgSize_c hok.1 fun w5 f5 => ⟨_, rfl, ?_⟩
      rw [esz]
      have hC5 := hC4.fr0 f5
      have f15 := f14.then f5
      have f05 := f1.then f15
      refine cond_d (fun h2 => ?_) fun h2 => ?_
      · rw [if_pos (by omega)] at hk
        exact badP (hB1.fr0 f15) f05 (Nat.le_refl _) hk
      · rw [if_neg (by omega)] at hk
        unfold slot_Slots_Short_j1
        refine ⟨fun w' => Fr [] w5 w', Drw.intro fun w6 f6 s6 => ?_⟩
        refine ⟨_, ⟨f6, fun w' hw' => (hC5.fr0 hw').ld hok.1⟩, _, (hC5.fr0 f6).ld hok.1, .inl rfl, ?_⟩
        refine cfgSize_c hok.1 fun w7 f7 => ⟨_, rfl, .inr (f6.then f7), ?_⟩
        rw [esz]
        have f17 := f15.then (f6.then f7)
        refine slTo (hq.fr0 f17) hql (n := x.size) (by omega) hqc fun q8 d8 hq8 hql8 hqc8 hqs8 => ?_
        refine backO_c hok.1 hq8 hql8 hqc8 (by omega) fun q1 d1 q2 d2 w9 f9 hO1 hO2 => ⟨_, _, _, _, _, _, _, _, rfl, ?_⟩
        have n7 := f17.size
        exact tellP (hB1.fr0 (f17.then f9)) (f1.then (f17.then f9)) (Nat.le_refl _) (by omega) hO1 hO2 hk
    · rw [decide_eq_false ho]
      rw [if_neg ho] at hk
      exact cond_t (badP hB4 f04 (Nat.le_refl _) hk)
end
end Go.Sh
end

section
namespace Go.Sh
open Go Go.Fw Go.Proofs
set_option maxRecDepth 100000
set_option linter.unusedVariables false
section
variable {w : World} {b t : Nat} {sl : Nat → SL} {K : Value → World → Prop}
theorem puIndexS {x0 x1 x2 : SL} (h0 : x0.key.length = 16) (h1 : x1.key.length = 16) (h2 : x2.key.length = 16) {i : Nat} (hi : i < 3) :
    Pu Tryz.prog (Instr.index T_A3_slot_slot (.agg ⟨x0.v ++ x1.v ++ x2.v⟩) (.int .i64 (i : Int))) (.agg ⟨([x0, x1, x2].getD i sl0).v⟩) := by
  obtain ⟨m0, s0, n0, k0, t0⟩ := x0
  obtain ⟨m1, s1, n1, k1, t1⟩ := x1
  obtain ⟨m2, s2, n2, k2, t2⟩ := x2
  obtain ⟨a0, a1, a2, a3, a4, a5, a6, a7, a8, a9, aa, ab, ac, ad, ae, af, rfl⟩ := list16 h0
  obtain ⟨b0, b1, b2, b3, b4, b5, b6, b7, b8, b9, ba, bb, bc, bd, be, bf, rfl⟩ := list16 h1
  obtain ⟨c0, c1, c2, c3, c4, c5, c6, c7, c8, c9, ca, cb, cc, cd, ce, cf, rfl⟩ := list16 h2
  have hc : i = 0 ∨ i = 1 ∨ i = 2 := by omega
  rcases hc with rfl | rfl | rfl
  · show res _ _ = _; kernel_rfl
  · show res _ _ = _; kernel_rfl
  · show res _ _ = _; kernel_rfl
theorem SlAt.all (h : SlAt w b sl t) : Ld Tryz.prog T_A3_slot_slot (.pointer (some ⟨b, 0, none⟩)) w (.agg ⟨(sl 0).v ++ (sl 1).v ++ (sl 2).v⟩) := by
  obtain ⟨f, hB, h1, h2, h3⟩ := h
  have l0 := (h3 0 (by omega)).v_len; have l1 := (h3 1 (by omega)).v_len; have l2 := (h3 2 (by omega)).v_len
  refine LdA (m := 60) (by kernel_rfl) (by kernel_rfl) hB (o := 0) (by omega) _ (by simp; omega) fun j v hj => ?_
  rw [Nat.zero_add]
  have hlt := (List.getElem?_eq_some_iff.1 hj).1
  rw [List.length_append, List.length_append] at hlt
  by_cases j0 : j < 20
  · rw [List.append_assoc, List.getElem?_append_left (by omega)] at hj
    have := h1 0 (by omega) j v hj
    rwa [Nat.zero_mul, Nat.zero_add] at this
  · by_cases j1 : j < 40
    · rw [List.getElem?_append_left (by rw [List.length_append]; omega), List.getElem?_append_right (by omega), l0] at hj
      have := h1 1 (by omega) (j - 20) v hj
      rwa [show 1 * 20 + (j - 20) = j by omega] at this
    · rw [List.getElem?_append_right (by rw [List.length_append]; omega), List.length_append, l0, l1] at hj
      have := h1 2 (by omega) (j - 40) v hj
      rwa [show 2 * 20 + (j - 40) = j by omega] at this
set_option maxHeartbeats 1000000 in
theorem slotAll_c (h : SlAt w b sl t) {y : Value} {kb : Nat} (hkb : w.cell? ⟨kb, 0, none⟩ = some (.pointer (some ⟨b, 0, none⟩))) (J : Nat → World → Prop) (hJ : J 0 w)
    (step : ∀ (i : Nat) (w1 w2 : World) (K' : Value → World → Prop), i < 3 → J i w1 → Fr [] w1 w2 → (sl i).st ≠ 0 → (∀ w3, J (i + 1) w3 → K' (.bool true) w3) → (∀ w3, K (.tuple #[]) w3 → K' (.bool false) w3) → callV Tryz.prog y [.int .i64 (i : Int), .agg ⟨(sl i).c⟩] w2 K')
    (skip : ∀ (i : Nat) (w1 w2 : World), i < 3 → J i w1 → Fr [] w1 w2 → (sl i).st = 0 → J (i + 1) w2) (fin : ∀ w1, J 3 w1 → K (.tuple #[]) w1) :
    callF Tryz.prog F_slot_Slots_All_c1 #[y, .pointer (some ⟨kb, 0, none⟩)] w K := by
  apply slot_Slots_All_c1_call
  unfold slot_Slots_All_c1
  have hok := fun i (hi : i < 3) => h.ok hi
  refine ⟨_, Ld.cell (by kernel_rfl) hkb, _, rfl, _, by rw [add_mk]; exact h.all, ?_⟩
  refine LoopS.ind (fun k us w' => ∃ i : Nat, i + k = 3 ∧ us = [y, .agg ⟨(sl 0).v ++ (sl 1).v ++ (sl 2).v⟩, .int .i64 (i : Int)] ∧ J i w') 3 ⟨0, by omega, rfl, hJ⟩ ?_
  rintro k us r w1 I μ hgo ⟨i, hi, rfl, hJ1⟩
  refine ⟨_, _, _, rfl, cond_d (fun h1 => ?_) (fun h1 => ?_)⟩
  · have hi3 : i < 3 := by omega
    have hs : ([sl 0, sl 1, sl 2].getD i sl0) = sl i := by
      match i, hi3 with
      | 0, _ => rfl
      | 1, _ => rfl
      | 2, _ => rfl
    have hx := puIndexS (hok 0 (by omega)).1 (hok 1 (by omega)).1 (hok 2 (by omega)).1 hi3
    rw [hs] at hx
    refine ⟨_, hx, newZ (s := 20) (by kernel_rfl) fun w2 g2 f2 hB2 s2 => ?_⟩
    have hv := hok i hi3
    have hl := hv.v_len
    refine Sto.agg (m := 20) (cs := (sl i).v) (by kernel_rfl) hl hB2 (by omega) (SL.v_one _) fun w3 f3 hB3 s3 => ?_
    have f13 : Fr [] w1 w3 := f2.st f3 (Nat.le_refl _)
    have hc : ∀ j v, (sl i).v[j]? = some v → updN g2 0 (sl i).v j = v := fun j v hj => by
      obtain ⟨q1, q2⟩ := List.getElem?_eq_some_iff.1 hj
      unfold updN
      rw [dif_pos ⟨Nat.zero_le _, by omega⟩]
      simpa using q2
    have ew : IntKind.i64.wrap ((i : Int) + 1) = ((i + 1 : Nat) : Int) := by rw [wrap64 (by omega) (by omega)]; omega
    refine ⟨_, by rw [add_mk]; exact Ld.blk (by kernel_rfl) hB3 (by omega) (hc _ _ hv.v_st), ?_⟩
    rw [ew]
    refine cond_ne (fun h0 => ?_) fun h0 => ?_
    · have hcl : (sl i).c.length = 19 := by unfold SL.c; rw [cfgV_len, hv.1]
      refine ⟨_, by rw [add_mk]; exact LdA (m := 19) (by kernel_rfl) (by kernel_rfl) hB3 (o := 0) (by omega) (sl i).c hcl (fun j v hj => by rw [Nat.zero_add]; exact hc j v (hv.v_cfg hj)), ?_⟩
      refine step i w1 w3 _ hi3 hJ1 f13 (by omega) (fun w4 hJ4 => ⟨_, rfl, cond_f (hgo _ _ _ (k - 1) (by omega) ⟨i + 1, by omega, rfl, hJ4⟩)⟩) (fun w4 hK => ⟨_, rfl, cond_t hK⟩)
    · exact hgo _ _ _ (k - 1) (by omega) ⟨i + 1, by omega, rfl, skip i w1 w3 hi3 hJ1 f13 (by omega)⟩
  · have hil : i = 3 := by omega
    subst hil
    exact fin w1 hJ1
end
end Go.Sh
end

section
namespace Go.Sh
open Go Go.Fw Go.Proofs
set_option maxRecDepth 100000
set_option linter.unusedVariables false
def x18 : SL := ⟨0, 3, 4, z16k, 1⟩
def sA : Nat → SL := setS (fun _ => sl0) 1 x18
def sB : Nat → SL := setS sA 1 sl0
def rG : PR := ⟨0, 1, s17, n17⟩
theorem show18 : showR sA i17 = rG := by kernel_rfl
theorem short18 : shortR sA ([64] ++ (i17 ++ [9])) = rG := by kernel_rfl
theorem show18b : showR sB i17 = .bad 17 := by kernel_rfl
theorem cond_tt {b : Bool} {A B : Prop} (h : b = true) (ha : A) : cond b A B := by subst h; exact cond_t ha
theorem PAt.fr {w w' : World} {b : Nat} {cs : List Value} {L : List Nat} (h : PAt w b cs) (f : Fr L w w') (hb : b ∉ L) : PAt w' b cs := by obtain ⟨g, hB, hc⟩ := h; exact ⟨g, hB.fr f hb, hc⟩
theorem PAt.lt {w : World} {b : Nat} {cs : List Value} (h : PAt w b cs) : b < w.heap.size := by obtain ⟨g, hB, hc⟩ := h; exact hB.lt
section
variable {w : World} {K : Value → World → Prop}
set_option maxHeartbeats 8000000 in
theorem alive18_c (h : ∀ w', Fr [] w w' → K (.bool true) w') : callF Tryz.prog F_law18_alive #[] w K := by
  apply law18_alive_call
  unfold law18_alive
  refine newZ (s := 1) (by kernel_rfl) fun w1 g1 f1 hB0 s1 => ?_
  obtain ⟨k0, hk0⟩ : ∃ k, k = w.heap.size := ⟨_, rfl⟩
  rw [← hk0] at hB0 ⊢
  refine slotNew_c fun b w2 f2 hbn hS2 => ⟨_, rfl, _, _, ptrNil (by kernel_rfl), cond_f ?_⟩
  have hbl := hS2.lt
  refine newZ (s := 19) (by kernel_rfl) fun w3 g3 f3 hB3 s3 => ?_
  obtain ⟨k2, hk2⟩ : ∃ k, k = w2.heap.size := ⟨_, rfl⟩
  rw [← hk2] at hB3 ⊢
  refine stoCfg (m := 0) (s := 3) (n := 4) (key := z16k) hB3 rfl fun w4 f4 hC4 s4 => ?_
  have hS4 := (hS2.fr0 f3).fr f4 (by simp; omega)
  have hB04 := ((hB0.fr0 f2).fr0 f3).fr f4 (by simp; omega)
  have f04 : Fr [] w w4 := ((f1.then f2).then f3).st f4 (by have := f1.size; have := f2.size; omega)
  have n1 : k0 < w1.heap.size := by omega
  have n2 := f2.size
  refine ⟨_, hC4.ld rfl, ?_⟩
  refine slotInstall_c (i := 1) hS4 (by omega) rfl fun w5 sl5 t5 f5 hS5 _ h5 => ⟨_, rfl, ?_⟩
  obtain ⟨rfl, rfl⟩ := h5 (by kernel_rfl)
  have hS5 : SlAt w5 b sA 1 := hS5
  have hC5 := hC4.fr f5 (by simp; omega)
  refine ⟨_, hC5.ld rfl, ?_⟩
  refine slotInstall_c (i := 1) hS5 (by omega) rfl fun w6 sl6 t6 f6 hS6 h6 _ => ⟨_, rfl, ?_⟩
  obtain ⟨rfl, rfl⟩ := h6 (by decide)
  have hC6 := hC5.fr f6 (by simp; omega)
  refine ⟨_, hC6.ld rfl, ?_⟩
  refine slotInstall_c (i := 3) hS6 (by omega) rfl fun w7 sl7 t7 f7 hS7 h7 _ => ⟨_, rfl, ?_⟩
  obtain ⟨rfl, rfl⟩ := h7 (by decide)
  have hC7 := hC6.fr f7 (by simp; omega)
  rw [zcfg]
  refine slotInstall_c (i := 2) hS7 (by omega) rfl fun w8 sl8 t8 f8 hS8 h8 _ => ⟨_, rfl, ?_⟩
  obtain ⟨rfl, rfl⟩ := h8 (by decide)
  have hC8 := hC7.fr f8 (by simp; omega)
  have f48 : Fr [b] w4 w8 := ((f5.trans f6 (fun x hx => .inl hx)).trans f7 (fun x hx => .inl hx)).trans f8 (fun x hx => .inl hx)
  have hB08 := hB04.fr f48 (by simp; omega)
  have f08 : Fr [] w w8 := f04.st f48 (by omega)
  have n8 := f48.size
  have hC8l := hC8.lt
  -- Show and Short
  refine mkL (n := 8) (xs := i17) rfl rfl (by kernel_rfl) fun p9 w9 f9 hO9 s9 => ?_
  refine slotShow_c (hS8.fr0 f9) hO9.row rfl hO9.cap (by omega) ?_
  rw [show18]
  intro qa da qb db w10 f10 hA10 hB10
  refine ⟨_, _, _, _, _, _, _, _, rfl, newP (pt := 1) (l1 := 3) (l2 := 4) fun w11 f11 hP11 => ?_⟩
  obtain ⟨k8, hk8⟩ : ∃ k, k = w10.heap.size := ⟨_, rfl⟩
  rw [← hk8] at hP11 ⊢
  refine mkL (n := 1) (xs := [64]) rfl rfl (by kernel_rfl) fun p12 w12 f12 hO12 s12 => ?_
  have f912 := (f10.then f11).then f12
  refine CopyOB_c (hO9.fr0 f912).row rfl (by decide) fun p13 d13 w13 f13 hO13 => ⟨_, _, _, rfl, ?_⟩
  refine mkL (n := 1) (xs := [9]) rfl rfl (by kernel_rfl) fun p14 w14 f14 hO14 s14 => ?_
  refine pushN (m := 1) (hO13.fr0 f14) (by have := f13.then f14; exact this.size) hO14.row rfl (by decide) fun p15 c15 w15 f15 hO15 => ?_
  have n12 := f912.size
  have f1215 : Fr [] w12 w15 := (f13.then f14).trans f15 (fun x hx => .inr (hO13.2.2 x hx))
  refine pushN (m := 9) (hO12.fr0 f1215) (by have := f12.then f1215; exact this.size) hO15.row rfl (by omega) fun p16 c16 w16 f16 hO16 => ?_
  have n11 : w10.heap.size < w11.heap.size := by have := hP11.lt; omega
  have f1116 : Fr [] w11 w16 := (f12.then f1215).trans f16 (fun x hx => .inr (hO12.2.2 x hx))
  have f816 : Fr [] w8 w16 := (((f9.then f10).then f11).then f1116)
  refine slotShort_c (hS8.fr0 f816) hO16.row hO16.2.1 hO16.cap (by omega) ?_
  rw [short18]
  intro qc dc qd dd w17 f17 hC17 hD17
  refine ⟨_, _, _, _, _, _, _, _, rfl, newP (pt := 1) (l1 := 3) (l2 := 4) fun w18 f18 hP18 => ?_⟩
  obtain ⟨k10, hk10⟩ : ∃ k, k = w17.heap.size := ⟨_, rfl⟩
  rw [← hk10] at hP18 ⊢
  have f818 := f816.then (f17.then f18)
  refine slotOf_c (n := 1) (hS8.fr0 f818) fun w19 f19 => ⟨_, _, rfl, ?_⟩
  refine newZ (s := 19) (by kernel_rfl) fun w20 g20 f20 hB20 s20 => ?_
  obtain ⟨k12, hk12⟩ : ∃ k, k = w19.heap.size := ⟨_, rfl⟩
  rw [← hk12] at hB20 ⊢
  refine stoCfg (m := 0) (s := 3) (n := 4) (key := z16k) hB20 rfl fun w21 f21 hC21 s21 => ?_
  refine newZ (s := 1) (by kernel_rfl) fun w22 g22 f22 hB22 s22 => ?_
  obtain ⟨k14, hk14⟩ : ∃ k, k = w21.heap.size := ⟨_, rfl⟩
  rw [← hk14] at hB22 ⊢
  refine Sto.blk (by kernel_rfl) hB22 (by omega) rfl rfl fun w23 f23 hB23 s23 => ?_
  have n18 : w17.heap.size < w18.heap.size := by have := hP18.lt; omega
  have n16 := f1116.size; have n17 := f17.size; have n19 := f19.size; have n818 := f818.size
  have f1821 : Fr [] w18 w21 := (f19.then f20).st f21 (by omega)
  have n21 := f1821.size
  have f1823 : Fr [] w18 w23 := (f1821.then f22).st f23 (by omega)
  have f823 := f818.then f1823
  have hB14 : Blk w23 k14 1 (fun _ => .int .i64 0) := hB23.ext fun i hi => by
    obtain rfl : i = 0 := by omega
    exact upd_same _ _ _
  have hC12 : Cfg w23 k12 0 3 4 z16k := (hC21.fr0 f22).fr f23 (by simp; omega)
  have hS23 := hS8.fr0 f823
  have hC2 := hC8.fr0 f823
  have hB00 := hB08.fr0 f823
  have hP10 := hP18.fr0 f1823
  have f1123 : Fr [] w11 w23 := f1116.then ((f17.then f18).then f1823)
  have hP8 := hP11.fr0 f1123
  have hO9x := (hO9.fr0 (f10.then f11)).fr0 f1123
  have hA8 := (hA10.fr0 f11).fr0 f1123
  have hC10x := (hC17.fr0 f18).fr0 f1823
  -- the range over All
  apply slot_Slots_All_call
  unfold slot_Slots_All
  refine New.intro fun w24 f24 hB24 s24 => ⟨_, rfl, ?_⟩
  obtain ⟨kA, hkA⟩ : ∃ k, k = w23.heap.size := ⟨_, rfl⟩
  rw [← hkA] at hB24 ⊢
  refine RangeF.of (fun _ _ => by kernel_rfl) fun fn w25 f25 s25 hD25 hL25 => ?_
  obtain ⟨kd, hkd⟩ : ∃ k, k = w24.heap.size := ⟨_, rfl⟩
  rw [← hkd] at hD25 hL25 ⊢
  have f2325 := f24.then f25
  have n23 := f1823.size
  have hB14x := hB14.fr0 f2325
  have hst : ∀ i, (sA i).st ≠ 0 → i = 1 := fun i hi => by
    by_cases h1 : i = 1
    · exact h1
    · exact absurd (by unfold sA setS; rw [if_neg h1]; rfl) hi
  refine slotAll_c (hS23.fr0 f2325) (kb := kA) (by rw [(hB24.fr0 f25).cell (by show 0 < 1; omega)]; rfl) (fun i w' => Fr [kd + 1, k14] w25 w' ∧ LpAt w' (kd + 1) _ ∧ ∃ g, Blk w' k14 1 g ∧ g 0 = .int .i64 (if 1 < i then 1 else 0))
    ⟨Fr.refl _ _, hL25, _, hB14x, rfl⟩ (fun i wa wb K' hi hj fab hne hy _ => ?_) (fun i wa wb hi hj fab h0 => ?_) (fun wa hj => ?_)
  · obtain rfl := hst i hne
    obtain ⟨fj, hL, g, hB, hg⟩ := hj
    have hCb := (hC2.fr0 f2325).fr fj (by simp; omega)
    have hBb := hB.fr0 fab
    have nab := fab.size
    have nj := fj.size
    refine law18_alive_y0_call _ _ _ _ _ (hL.fr0 fab) ?_
    unfold law18_alive_y0
    refine newZ (s := 19) (by kernel_rfl) fun wc gc fc hBc sc => ?_
    refine stoCfg (m := 0) (s := 3) (n := 4) (key := z16k) hBc rfl fun wd fd hCd sd => ?_
    have fbd : Fr [] wb wd := fc.st fd (Nat.le_refl _)
    have hkl := heap_lt (hL.fr0 fab)
    refine BegR.of ((hL.fr0 fab).fr0 fbd) rfl fun we fe hLe se => ?_
    refine cond_f ?_
    have hCe := ((hCb.fr0 fab).fr0 fbd).fr fe (by simp; omega)
    have hCde := hCd.fr fe (by simp; omega)
    refine ⟨_, hCde.ld rfl, _, hCe.ld rfl, _, _, Ef.neCfg (n := 16) (by kernel_rfl) rfl rfl, ?_⟩
    unfold law18_alive_y0_j2
    refine cond_intro (fun hh => absurd hh (by decide)) fun _ => ?_
    unfold law18_alive_y0_j1
    have hBe := (hBb.fr0 fbd).fr fe (by simp; omega)
    refine ⟨_, Ld.blk (by kernel_rfl) hBe (by omega) hg, ?_⟩
    refine Sto.blk (by kernel_rfl) hBe (by omega) rfl rfl fun wf ff hBf sf => ?_
    have hLf := hLe.fr ff (by simp; omega)
    refine EndR.of hLf none rfl fun wg fg hLg sg => hy wg ⟨((((fj.then fab).then fbd).trans fe (by simp)).trans ff (by simp)).trans fg (by simp), hLg, _, hBf.fr fg (by simp; omega), ?_⟩
    unfold upd; rw [if_pos rfl]; rfl
  · obtain ⟨fj, hL, g, hB, hg⟩ := hj
    refine ⟨fj.then fab, hL.fr0 fab, g, hB.fr0 fab, ?_⟩
    have : i ≠ 1 := fun hh => by subst hh; exact absurd h0 (by decide)
    rw [hg]
    by_cases h1 : 1 < i
    · rw [if_pos h1, if_pos (by omega)]
    · rw [if_neg h1, if_neg (by omega)]
  · obtain ⟨fj, hL, g, hB, hg⟩ := hj
    refine ⟨_, hL, by simp [rec0], fun w4' f4' s4' => ?_⟩
    show law18_alive_j1 _ _ _ _ _ _ _ _ _ _ _ _ _ _ _ _ _ _ w4' K
    have nj := fj.size
    have n25 := f2325.size
    have fx : Fr [kd + 1, k14] w23 w4' := ((f2325.mono (by simp)).trans fj (fun x hx => .inl hx)).trans f4' (by simp)
    have hb14 : b < k14 := by omega
    have hSx := hS23.fr fx (by simp; omega)
    have hC2x := hC2.fr fx (by simp; omega)
    have hC12x := hC12.fr fx (by simp; omega)
    have hP8x := hP8.fr fx (by simp; have := hP11.lt; omega)
    have hP10x := hP10.fr fx (by simp; have := hP18.lt; omega)
    have hB00x := hB00.fr fx (by simp; omega)
    have hBk := hB.fr f4' (by simp; omega)
    have hDx : DfAt w4' kd := (hD25.fr fj (by simp; omega)).fr f4' (by simp)
    have hXs : ∀ {q : Option Addr} {l d lo : Nat} {ys : List UInt8}, OB w23 q l d ys lo → (∀ k ∈ blks q, k < k14) → OB w4' q l d ys lo := fun {q l d lo ys} hO hlt => hO.fr fx fun k hk hm => by have := hlt k hk; simp at hm; omega
    have hO9y := hXs hO9x fun k hk => by have := hO9.lt k hk; omega
    have hC10y := hXs hC10x fun k hk => by have := hC17.lt k hk; omega
    have f023 := f08.then f823
    have n023 := f08.size
    have f0x : Fr [] w w4' := f023.trans fx (fun x hx => .inr (by simp at hx; omega))
    have nx := fx.size
    have hkd4 : kd < w4'.heap.size := by have := heap_lt hDx; exact this
    unfold law18_alive_j1
    refine slotClone_c hSx fun c w26 f26 hcn hSc => ⟨_, rfl, ?_⟩
    have hcb : c ≠ b := by omega
    have hcl := hSc.lt
    refine slotRetire_c (i := 1) (hSx.fr0 f26) fun w27 slr f27 hS27 _ h27 => ⟨_, rfl, ?_⟩
    obtain rfl := h27 (by decide)
    have hS27 : SlAt w27 b sB 1 := hS27
    refine slotRetire_c (i := 1) hS27 fun w28 slr f28 hS28 h28 _ => ⟨_, rfl, ?_⟩
    obtain rfl := h28 (by decide)
    have f2628 : Fr [b] w26 w28 := f27.trans f28 (fun x hx => .inl hx)
    have fx28 : Fr [b] w4' w28 := f26.after f2628
    have n28 := fx28.size
    have n10 := f10.size
    have hO9z := hO9y.fr fx28 fun k hk hm => by have := hO9.2.2 k hk; simp at hm; omega
    refine slotShow_c hS28 hO9z.row rfl hO9z.cap (by decide) ?_
    rw [show18b]
    intro qe de qf df w29 f29 hE29 hF29
    refine ⟨_, _, _, _, _, _, _, _, rfl, newP (pt := 0) (l1 := 0) (l2 := 0) fun w30 f30 hP30 => ?_⟩
    have f2830 := f29.then f30
    have fx30 := fx28.then f2830
    refine ⟨_, _, ptrNe (by kernel_rfl), cond_t ?_⟩
    refine cond_tt (by decide) (cond_tt (by decide) (cond_tt (by decide) (cond_tt (by decide) (cond_tt (by decide) (cond_tt (by decide) (cond_tt (by decide) ?_))))))
    refine ⟨_, (hC12x.fr fx30 (by simp; omega)).ld rfl, _, (hC2x.fr fx30 (by simp; omega)).ld rfl, _, _, Ef.eqCfg (n := 16) (by kernel_rfl) rfl rfl, ?_⟩
    refine cond_tt (by decide) ⟨_, Ld.blk (by kernel_rfl) (hBk.fr fx30 (by simp; omega)) (by omega) hg, ?_⟩
    refine cond_tt (by decide) (cond_tt (by decide) (cond_tt (by decide) (cond_tt (by decide) ?_)))
    refine ⟨_, (hP8x.fr fx30 (by simp; omega)).ptLd, cond_tt (by decide) ⟨_, _, _, (hP10x.fr fx30 (by simp; omega)).sidLd, ?_⟩⟩
    refine mkL (n := 3) (xs := s17) rfl rfl (by kernel_rfl) fun p31 w31 f31 hO31 s31 => ?_
    have hC10z := (hC10y.fr fx30 fun k hk hm => by have := hC17.2.2 k hk; simp at hm; omega).fr0 f31
    refine SameBytes_c hC10z.row rfl hO31.row rfl (by decide) fun w32 f32 => ⟨_, rfl, ?_⟩
    refine cond_tt (by decide) ?_
    have f3032 := f31.then f32
    have hSc32 := ((hSc.fr f2628 (by simp; omega)).fr0 f2830).fr0 f3032
    refine slotStamp_c hSc32 ⟨_, rfl, cond_tt (by decide) ?_⟩
    have hS32 := (hS28.fr0 f2830).fr0 f3032
    refine slotStamp_c hS32 ⟨_, rfl, ?_⟩
    have fx32 := fx30.then f3032
    have hB032 := hB00x.fr fx32 (by simp; omega)
    refine Sto.blk (by kernel_rfl) hB032 (by omega) rfl rfl fun w33 f33 hB33 s33 => ?_
    have hD33 : DfAt w33 kd := (hDx.fr fx32 (by simp; omega)).fr f33 (by simp; omega)
    obtain ⟨w34, hT, f34, s34⟩ := Tk.of (P := Tryz.prog) hD33
    refine ⟨w34, hT, _, _, rfl, Ld.blk (by kernel_rfl) (hB33.fr f34 (by simp; omega)) (by omega) (upd_same _ _ _), ?_⟩
    have f032 : Fr [] w w32 := f0x.st fx32 (by omega)
    exact h w34 ((f032.st f33 (by omega)).st f34 (by omega))
end
end Go.Sh
end

section
namespace Go.Sh
open Go Go.Fw Go.Proofs
set_option maxRecDepth 100000
set_option linter.unusedVariables false
structure CL where
  op : Int
  at_ : Int
  m : Int
  s : Int
  n : Int
  key : List UInt8
def CL.v (x : CL) : List Value := .int .i64 x.op :: .int .i64 x.at_ :: cfgV x.m x.s x.n x.key
def clcells : List CL → List Value
  | [] => []
  | x :: l => x.v ++ clcells l
def CLok (cs : List CL) : Prop := ∀ x ∈ cs, x.key.length = 16
theorem CL.v_len {x : CL} (h : x.key.length = 16) : x.v.length = 21 := by unfold CL.v; simp [cfgV_len, h]
theorem clcells_len : ∀ {cs : List CL}, CLok cs → (clcells cs).length = cs.length * 21 := by
  intro cs
  induction cs with
  | nil => intro _; rfl
  | cons x l ih =>
    intro h
    have := ih fun y hy => h y (List.mem_cons_of_mem _ hy)
    simp only [clcells, List.length_append, this, List.length_cons, CL.v_len (h x (List.mem_cons_self ..))]; omega
theorem clcells_get : ∀ {cs : List CL}, CLok cs → ∀ (i : Nat) (x : CL) (j : Nat) (v : Value), cs[i]? = some x → x.v[j]? = some v → (clcells cs)[i * 21 + j]? = some v := by
  intro cs
  induction cs with
  | nil => intro _ i x j v h; simp at h
  | cons y l ih =>
    intro hok i x j v h hj
    have hy := CL.v_len (hok y (List.mem_cons_self ..))
    have hlt := (List.getElem?_eq_some_iff.1 hj).1
    cases i with
    | zero =>
      simp at h; subst h
      show (y.v ++ clcells l)[0 * 21 + j]? = _
      rw [List.getElem?_append_left (by omega), Nat.zero_mul, Nat.zero_add]; exact hj
    | succ i =>
      show (y.v ++ clcells l)[(i + 1) * 21 + j]? = _
      rw [List.getElem?_append_right (by omega), hy, show (i + 1) * 21 + j - 21 = i * 21 + j by omega]
      exact ih (fun z hz => hok z (List.mem_cons_of_mem _ hz)) i x j v (by simpa using h) hj
theorem calls_of {w : World} : ∀ (vss : List (List Value)), (∀ vs ∈ vss, vs.length = 21 ∧ DecL w [.int .i64, .int .i64, .int .i64, .int .i64, .int .i64, .arr8 16] vs) → ∃ cs : List CL, CLok cs ∧ cs.length = vss.length ∧ vss.flatten = clcells cs := by
  intro vss
  induction vss with
  | nil => intro _; exact ⟨[], by simp [CLok], rfl, rfl⟩
  | cons vs l ih =>
    intro h
    obtain ⟨cs, h1, h2, h3⟩ := ih fun y hy => h y (List.mem_cons_of_mem _ hy)
    obtain ⟨a1, r1, e1, ⟨op, rfl, _⟩, a2, r2, e2, ⟨at_, rfl, _⟩, a3, r3, e3, ⟨m, rfl, _⟩, a4, r4, e4, ⟨s, rfl, _⟩, a5, r5, e5, ⟨n, rfl, _⟩, a6, r6, e6, ⟨key, hk, rfl⟩, rfl⟩ := (h vs (List.mem_cons_self ..)).2
    refine ⟨⟨op, at_, m, s, n, key⟩ :: cs, fun x hx => ?_, by simp [h2], ?_⟩
    · rcases List.mem_cons.1 hx with rfl | hx
      · exact hk
      · exact h1 x hx
    · rw [List.flatten_cons, h3, e1, e2, e3, e4, e5, e6]
      simp [clcells, CL.v, cfgV]
section
variable {w : World} {K : Value → World → Prop}
end
end Go.Sh
end

section
namespace Go.Sh
open Go Go.Fw Go.Proofs
set_option maxRecDepth 100000
set_option linter.unusedVariables false
section
variable {w : World} {m s n : Int} {key : List UInt8} {K : Value → World → Prop}
set_option maxHeartbeats 2000000 in
theorem refBackO_c {p1 : Option Addr} {l1 c1 : Nat} {id : List UInt8} (hk : key.length = 16) (h1 : Row w p1 (id.map vb)) (hl1 : l1 = id.length) (hc1 : l1 ≤ c1) (hlb : l1 < 1000000)
    (h : ∀ q1 d1 q2 d2 w', Fr [] w w' → Row w' q1 ((bkS m s n key id).map vb) → (bkS m s n key id).length ≤ d1 → Row w' q2 ((bkN m s n key id).map vb) → (bkN m s n key id).length ≤ d2 → (∀ k ∈ blks q1, w.heap.size ≤ k) → (∀ k ∈ blks q2, w.heap.size ≤ k) → K (bkT m s n key id q1 d1 q2 d2) w') :
    callF Tryz.prog F_ref17_Back #[.agg ⟨cfgV m s n key⟩, .slice p1 l1 c1] w K := by
  apply ref17_Back_call
  unfold ref17_Back
  refine newCfgR hk fun w1 f1 hC s1 => ?_
  refine newZ (s := 3) (by kernel_rfl) fun w2 g2 f2 hB2 s2 => ?_
  obtain ⟨kb, hkb⟩ : ∃ kb, kb = w1.heap.size := ⟨_, rfl⟩
  rw [← hkb] at hB2 ⊢
  have n1 := f1.size
  have f02 := f1.then f2
  have hC2 := hC.fr0 f2
  refine ⟨_, hC2.ldR hk, refRight_c hk fun w3 f3 => ⟨_, rfl, ?_⟩⟩
  have f03 := f02.then f3
  have hC3 := hC2.fr0 f3
  have hB3 := hB2.fr0 f3
  have no : ∀ (er : Int) w', ¬ okBk m s n key id → er = (if okC m s n key then (if (id.length : Int) = 1 + (s + n) then 10 else 11) else 19) → Fr [] w3 w' →
      ∃ w4, Sto Tryz.prog T_ref17_Parts (.pointer (some ⟨kb, 0, none⟩)) (.agg #[.int .i64 0, .slice none 0 0, .slice none 0 0]) w' w4 ∧ ∃ (a4 : Addr) (v4 : Value), (.pointer (some ⟨kb, 0, none⟩) : Value) = .pointer (some a4) ∧ (loadVar T_ref17_Parts a4).run Tryz.prog w4 = .ok v4 w4 ∧ K (.tuple #[v4, .int .i64 er]) w4 := by
    intro er w' hb he f
    refine stoPR (hB3.fr0 f) (cs := partsL 0 none 0 0 none 0 0) rfl (parts_one _ _ _ _ _ _ _) fun w4 f4 hP hLd => ⟨_, _, rfl, hLd, ?_⟩
    unfold bkT bkP bkS bkN bkE at h
    rw [if_neg hb, if_neg hb, if_neg hb, if_neg hb, ← he] at h
    exact h none 0 none 0 w4 ((f03.then f).st f4 (by omega)) (Row.nil _ _) (Nat.le_refl _) (Row.nil _ _) (Nat.le_refl _) (by simp [blks]) (by simp [blks])
  by_cases ho : okC m s n key
  · rw [decide_eq_true ho]
    have ho' := ho
    unfold okC at ho'
    refine cond_f ⟨_, hC3.ldR hk, refCfgSize_c hk fun w4 f4 => ⟨_, rfl, ?_⟩⟩
    rw [if_pos ho]
    refine cond_ne (fun hne => no 11 w4 (fun hh => hne (by have := hh.2.1; omega)) (by rw [if_pos ho, if_neg (by omega)]) f4) fun hlen => ?_
    have hlid : (id.length : Int) = 1 + (s + n) := by omega
    have f04 := f03.then f4
    obtain ⟨a, ha, hca⟩ := row_get (t := T_S_uint8) (by kernel_rfl) (h1.fr0 f04) (c := c1) hl1 (i := 0) (by omega) (k := .i64)
    refine ⟨a, ha, _, Ld.cell (by kernel_rfl) hca, refTold_c ⟨_, rfl, ?_⟩⟩
    refine cond_ne (fun hne => no 10 w4 (fun hh => hne ?_) (by rw [if_pos ho, if_pos hlid]) f4) fun htold => ?_
    · have := hh.2.2
      show (((fl id 0).toNat % 64 + 1 : Nat) : Int) = _
      omega
    · have hbk : okBk m s n key id := ⟨ho, hlid, by have h' : (((fl id 0).toNat % 64 + 1 : Nat) : Int) = _ := htold; omega⟩
      refine Drw.intro fun w5 f5 s5 => ?_
      have f05 := f04.then f5
      have f35 := f4.then f5
      refine slFrom (h1.fr0 f05) hl1 (n := 1) (by omega) hc1 fun qt dt ht htl htd htb => ?_
      have hC5 := hC3.fr0 f35
      refine ⟨_, hC5.ldR hk, ?_⟩
      refine refBack_cfg_c hk ht htl (by omega) fun q6 d6 e6 o6 w6 f6 hO6 t6 => ⟨_, _, _, _, rfl, ?_⟩
      have hoo : o6 = turnC true m key (id.drop 1) := by
        rcases t6 with ⟨a, _⟩ | ⟨_, b, _⟩ | ⟨_, _, c, d⟩
        · exact absurd ho a
        · exact absurd (by rw [List.length_drop]; omega) b
        · exact d
      have hol : o6.length = l1 - 1 := by
        rw [hoo, turnC_len true ho (by rw [List.length_drop]; omega), List.length_drop, hl1]
      have f06 := f05.then f6
      refine ⟨fun w' => Fr [] w6 w', Drw.intro fun w7 f7 s7 => ?_⟩
      have hC6 := hC5.fr0 f6
      obtain ⟨a', ha', hca'⟩ := row_get (t := T_S_uint8) (by kernel_rfl) (h1.fr0 f06) (c := c1) hl1 (i := 0) (by omega) (k := .i64)
      refine ⟨a', ha', _, ⟨f7, fun w' hw' => Ld.cell (by kernel_rfl) (Fr.cell hw' hca' (by simp))⟩, _, ⟨f7, fun w' hw' => (hC6.fr0 hw').sid⟩, ?_⟩
      obtain ⟨s', rfl⟩ := Int.eq_ofNat_of_zero_le (show 0 ≤ s by omega)
      obtain ⟨n', rfl⟩ := Int.eq_ofNat_of_zero_le (show 0 ≤ n by omega)
      have hcap6 := hO6.cap
      refine slTo (hO6.row.fr0 f7) rfl (n := s') (by omega) hcap6 fun qa da hqa hla hda hba => ?_
      refine ⟨_, ⟨f7, fun w' hw' => (hC6.fr0 hw').sid⟩, ?_⟩
      refine slFrom (hO6.row.fr0 f7) rfl (n := s') (by omega) hcap6 fun qb db hqb hlb' hdb hbb => ?_
      refine refPoint_c ⟨_, rfl, .inl rfl, ?_⟩
      have f37 := (f35.then f6).then f7
      have hB7 := hB3.fr0 f37
      refine stoPR hB7 (cs := partsL (((fl id 0).toNat / 64 : Nat) : Int) qa s' da qb (o6.length - s') db) rfl (parts_one _ _ _ _ _ _ _) fun w8 f8 hP hLd => ⟨_, _, rfl, hLd, ?_⟩
      obtain ⟨e1, e2⟩ := bk_len hbk
      rw [Int.toNat_natCast] at e1 e2
      have g1 : bkS m s' n' key id = o6.take s' := by unfold bkS; rw [if_pos hbk, hoo, Int.toNat_natCast]
      have g2 : bkN m s' n' key id = o6.drop s' := by unfold bkN; rw [if_pos hbk, hoo, Int.toNat_natCast]
      have hkb7 := hB7.lt
      have n05 := f05.size
      have hblk6 : ∀ k ∈ blks q6, k ≠ kb := fun k hk' => by have := hO6.2.2 k hk'; have hkb5 := (hB3.fr0 f35).lt; omega
      have := h qa da qb db w8 ((f06.then f7).st f8 (by omega)) (by rw [g1]; exact hqa.fr f8 (fun a ha => by simp; exact hblk6 _ (hba _ (by simp [ha, blks])))) (by omega) (by rw [g2]; exact hqb.fr f8 (fun a ha => by simp; exact hblk6 _ (hbb _ (by simp [ha, blks])))) (by omega) (fun k hk' => by have := hO6.2.2 k (hba k hk'); omega) (fun k hk' => by have := hO6.2.2 k (hbb k hk'); omega)
      unfold bkT at this
      rw [e1, e2] at this
      unfold bkP bkE at this
      rw [if_pos hbk, if_pos hbk] at this
      have e3 : o6.length - s' = n' := by omega
      rw [e3]
      exact this
  · rw [decide_eq_false ho]
    exact cond_t (no 19 w3 (fun hh => ho hh.1) (by rw [if_neg ho]) (Fr.refl _ _))
end
def RsAt (w : World) (b : Nat) (sl : Nat → SL) (t : Nat) : Prop := ∃ f, Blk w b 61 f ∧ (∀ i, i < 3 → ∀ j v, (sl i).c[j]? = some v → f (i * 19 + j) = v) ∧ (∀ i, i < 3 → f (57 + i) = .int .i64 ((sl i).st : Int)) ∧ f 60 = .int .i64 (t : Int) ∧ ∀ i, i < 3 → (sl i).ok t
theorem SL.ok.c_len {x : SL} {t : Nat} (h : x.ok t) : x.c.length = 19 := by unfold SL.c; rw [cfgV_len, h.1]
section
variable {w : World} {b t : Nat} {sl : Nat → SL} {K : Value → World → Prop}
theorem RsAt.fr {w' : World} {L : List Nat} (h : RsAt w b sl t) (hf : Fr L w w') (hn : b ∉ L) : RsAt w' b sl t := by obtain ⟨f, hB, r⟩ := h; exact ⟨f, hB.fr hf hn, r⟩
theorem RsAt.fr0 {w' : World} (h : RsAt w b sl t) (hf : Fr [] w w') : RsAt w' b sl t := h.fr hf (by simp)
theorem RsAt.lt (h : RsAt w b sl t) : b < w.heap.size := by obtain ⟨f, hB, _⟩ := h; exact hB.lt
theorem RsAt.ok (h : RsAt w b sl t) {i : Nat} (hi : i < 3) : (sl i).ok t := by obtain ⟨f, hB, _, _, _, h3⟩ := h; exact h3 i hi
theorem RsAt.cfgLd (h : RsAt w b sl t) {i : Nat} (hi : i < 3) : Ld Tryz.prog T_ref16_Config (.pointer (some ⟨b, i * 19, none⟩)) w (.agg ⟨(sl i).c⟩) := by
  obtain ⟨f, hB, h1, h2, h3, h4⟩ := h
  exact LdA (m := 19) (by kernel_rfl) (by kernel_rfl) hB (by omega) _ (h4 i hi).c_len fun j v hj => h1 i hi j v hj
theorem RsAt.stLd (h : RsAt w b sl t) {i : Nat} (hi : i < 3) : Ld Tryz.prog T_int64 (.pointer (some ⟨b, 57 + i, none⟩)) w (.int .i64 ((sl i).st : Int)) := by
  obtain ⟨f, hB, h1, h2, h3, h4⟩ := h
  exact Ld.blk (by kernel_rfl) hB (by omega) (h2 i hi)
theorem RsAt.cntLd (h : RsAt w b sl t) : Ld Tryz.prog T_int64 (.pointer (some ((⟨b, 0, none⟩ : Addr).add 60))) w (.int .i64 (t : Int)) := by
  obtain ⟨f, hB, h1, h2, h3, h4⟩ := h
  rw [add_mk]; exact Ld.blk (by kernel_rfl) hB (by omega) h3
theorem ixRow18 {i : Nat} (hi : i < 3) : IxA Tryz.prog T_A3_ref16_Config (.pointer (some ((⟨b, 0, none⟩ : Addr).add 0))) (.int .i64 (i : Int)) ⟨b, i * 19, none⟩ := by
  have hx := ixA (P := Tryz.prog) (t := T_A3_ref16_Config) (n := 3) (s := 19) (by kernel_rfl) (b := b) (o := 0) (k := .i64) (i := (i : Int)) (by omega) (by omega)
  rw [Int.toNat_natCast, Nat.zero_add] at hx
  rw [add_mk]; exact hx
theorem ixSt18 {i : Nat} (hi : i < 3) : IxA Tryz.prog T_A3_int64 (.pointer (some ((⟨b, 0, none⟩ : Addr).add 57))) (.int .i64 (i : Int)) ⟨b, 57 + i, none⟩ := by
  have hx := ixA1 (P := Tryz.prog) (t := T_A3_int64) (n := 3) (by kernel_rfl) (b := b) (o := 0 + 57) (k := .i64) (i := (i : Int)) (by omega) (by omega)
  rw [Int.toNat_natCast, Nat.zero_add] at hx
  rw [add_mk, Nat.zero_add]; exact hx
theorem RsAt.sto2 (h : RsAt w b sl t) {i : Nat} (hi : i < 3) {x : SL} (hx : x.ok t) {K : World → Prop} (hk : ∀ w1, Fr [b] w w1 → w1.heap.size = w.heap.size → (∀ {w2 : World}, Fr [] w1 w2 → Ld Tryz.prog T_int64 (.pointer (some ((⟨b, 0, none⟩ : Addr).add 60))) w2 (.int .i64 (t : Int)) ∧ ∀ {K2 : World → Prop}, (∀ w3, Fr [b] w2 w3 → RsAt w3 b (setS sl i x) t → w3.heap.size = w2.heap.size → K2 w3) → ∃ w3, Sto Tryz.prog T_int64 (.pointer (some ⟨b, 57 + i, none⟩)) (.int .i64 (x.st : Int)) w2 w3 ∧ K2 w3) → K w1) :
    ∃ w', Sto Tryz.prog T_ref16_Config (.pointer (some ⟨b, i * 19, none⟩)) (.agg ⟨x.c⟩) w w' ∧ K w' := by
  obtain ⟨f, hB, h1, h2, h3, h4⟩ := h
  have hl := hx.c_len
  refine Sto.agg (m := 19) (cs := x.c) (by kernel_rfl) hl hB (by omega) (cfgV_one _ _ _ _) fun w1 f1 hB1 s1 => hk w1 f1 s1 fun {w2} f2 => ⟨?_, fun {K2} hk2 => ?_⟩
  · rw [add_mk]
    exact Ld.blk (by kernel_rfl) (hB1.fr0 f2) (by omega) (by unfold updN; rw [dif_neg (by omega)]; exact h3)
  · refine Sto.blk (by kernel_rfl) (hB1.fr0 f2) (by omega) rfl rfl fun w3 f3 hB3 s3 => hk2 w3 f3 ⟨_, hB3, fun k hk j v hj => ?_, fun k hk => ?_, ?_, fun k hk => ?_⟩ s3
    · unfold setS at hj
      have hlt := (List.getElem?_eq_some_iff.1 hj).1
      by_cases hki : k = i
      · rw [if_pos hki] at hj hlt
        rw [upd_ne _ _ _ (by omega)]
        unfold updN
        rw [dif_pos ⟨by omega, by omega⟩]
        obtain ⟨q1, q2⟩ := List.getElem?_eq_some_iff.1 hj
        have e : k * 19 + j - i * 19 = j := by omega
        simp only [e]; exact q2
      · rw [if_neg hki] at hj hlt
        rw [(h4 k hk).c_len] at hlt
        rw [upd_ne _ _ _ (by omega)]
        unfold updN
        rw [dif_neg (by omega)]
        exact h1 k hk j v hj
    · unfold setS
      by_cases hki : k = i
      · rw [if_pos hki, hki]; exact upd_same _ _ _
      · rw [if_neg hki, upd_ne _ _ _ (by omega)]
        unfold updN
        rw [dif_neg (by omega)]; exact h2 k hk
    · rw [upd_ne _ _ _ (by omega)]
      unfold updN
      rw [dif_neg (by omega)]; exact h3
    · unfold setS
      by_cases hki : k = i
      · rw [if_pos hki]; exact hx
      · rw [if_neg hki]; exact h4 k hk
theorem RsAt.cntSto (h : RsAt w b sl t) {K : World → Prop} (hk : ∀ w', Fr [b] w w' → RsAt w' b sl (t + 1) → w'.heap.size = w.heap.size → K w') : ∃ w', Sto Tryz.prog T_int64 (.pointer (some ((⟨b, 0, none⟩ : Addr).add 60))) (.int .i64 ((t + 1 : Nat) : Int)) w w' ∧ K w' := by
  obtain ⟨f, hB, h1, h2, h3, h4⟩ := h
  rw [add_mk]
  refine Sto.blk (by kernel_rfl) hB (by omega) rfl rfl fun w' hf hB' hs => hk w' hf ⟨_, hB', fun i hi j v hj => ?_, fun i hi => ?_, upd_same _ _ _, fun i hi => ?_⟩ hs
  · have hlt := (List.getElem?_eq_some_iff.1 hj).1
    rw [(h4 i hi).c_len] at hlt
    rw [upd_ne _ _ _ (by omega)]; exact h1 i hi j v hj
  · rw [upd_ne _ _ _ (by omega)]; exact h2 i hi
  · obtain ⟨a, b, c⟩ := h4 i hi; exact ⟨a, by omega, c⟩
theorem refHas_c (h : RsAt w b sl t) {n : Int} (hk : K (.bool (decide (occ sl n))) w) : callF Tryz.prog F_ref18_Slots_Has #[.pointer (some ⟨b, 0, none⟩), .int .i64 n] w K := by
  apply ref18_Slots_Has_call
  unfold ref18_Slots_Has
  have no : ¬ (0 ≤ n ∧ n < 3) → K (.bool false) w := fun hr => by
    have : ¬ occ sl n := fun ho => hr ho.1
    rw [decide_eq_false this] at hk; exact hk
  refine cond_d (fun h1 => cond_d (fun h2 => ?_) fun h2 => no (by omega)) fun h1 => no (by omega)
  obtain ⟨i, rfl⟩ := Int.eq_ofNat_of_zero_le (show 0 ≤ n by omega)
  refine ⟨_, rfl, _, ixSt18 (by omega), _, h.stLd (by omega), ?_⟩
  have e : decide ((((sl i).st : Nat) : Int) > 0) = decide (occ sl (i : Int)) := by
    apply decide_eq_decide.2
    unfold occ
    rw [Int.toNat_natCast]
    constructor
    · intro hh; exact ⟨by omega, by omega⟩
    · intro hh; have := hh.2; omega
  rw [e]; exact hk
set_option maxHeartbeats 1000000 in
theorem refSlotInstall_c (h : RsAt w b sl t) (ht : t < 1000000000) {i m s n : Int} {key : List UInt8} (hl : key.length = 16)
    (hk : ∀ w' sl' t', Fr [b] w w' → RsAt w' b sl' t' → (insE sl i m s n key ≠ 0 → sl' = sl ∧ t' = t) → (insE sl i m s n key = 0 → sl' = setS sl i.toNat ⟨m, s, n, key, t + 1⟩ ∧ t' = t + 1) → K (.int .i64 (insE sl i m s n key)) w') :
    callF Tryz.prog F_ref18_Slots_Install #[.pointer (some ⟨b, 0, none⟩), .int .i64 i, .agg ⟨cfgV m s n key⟩] w K := by
  apply ref18_Slots_Install_call
  unfold ref18_Slots_Install
  have hb := h.lt
  refine newCfgR hl fun w1 f1 hC1 s1 => ?_
  have same : ∀ e, insE sl i m s n key = e → e ≠ 0 → ∀ w', Fr [] w w' → K (.int .i64 e) w' := by
    intro e he h0 w' f
    have := hk w' sl t (f.mono (by simp)) (h.fr0 f) (fun _ => ⟨rfl, rfl⟩) (fun hh => absurd (he.symm.trans hh) h0)
    rw [he] at this; exact this
  have out : ¬ (0 ≤ i ∧ i < 3) → K (.int .i64 11) w1 := fun hr => same 11 (by unfold insE; rw [if_pos hr]) (by omega) w1 f1
  refine cond_d (fun h1 => out (by omega)) fun h1 => cond_d (fun h2 => out (by omega)) fun h2 => ?_
  obtain ⟨j, rfl⟩ := Int.eq_ofNat_of_zero_le (show 0 ≤ i by omega)
  have hj : j < 3 := by omega
  have hr : ¬ ¬ ((0 : Int) ≤ (j : Int) ∧ (j : Int) < 3) := fun hh => hh (by omega)
  unfold ref18_Slots_Install_j1
  refine ⟨_, hC1.ldR hl, refRight_c hl fun w2 f2 => ⟨_, rfl, ?_⟩⟩
  have f02 := f1.then f2
  by_cases hok : okC m s n key
  · rw [decide_eq_true hok]
    have hok' : ¬ ¬ okC m s n key := fun hh => hh hok
    refine cond_f ⟨_, rfl, _, ixSt18 hj, _, (h.fr0 f02).stLd hj, ?_⟩
    refine cond_d (fun h0 => same 16 ?_ (by omega) w2 f02) fun h0 => ?_
    · have ho : occ sl (j : Int) := ⟨by omega, by rw [Int.toNat_natCast]; omega⟩
      unfold insE; rw [if_neg hr, if_neg hok', if_pos ho]
    · have ho : ¬ occ sl (j : Int) := fun hh => hh.2 (by rw [Int.toNat_natCast]; omega)
      have he : insE sl (j : Int) m s n key = 0 := by unfold insE; rw [if_neg hr, if_neg hok', if_neg ho]
      refine ⟨_, rfl, _, (h.fr0 f02).cntLd, _, rfl, ?_⟩
      have ew : IntKind.i64.wrap ((t : Int) + 1) = ((t + 1 : Nat) : Int) := by rw [wrap64 (by omega) (by omega)]; omega
      rw [ew]
      refine (h.fr0 f02).cntSto fun w3 f3 h3 s3 => Drw.intro fun w4 f4 s4 => ?_
      have hC3 := (hC1.fr0 f2).fr f3 (by simp; omega)
      have hx : SL.ok ⟨m, s, n, key, t + 1⟩ (t + 1) := ⟨hl, Nat.le_refl _, fun hh => absurd hh (by simp), fun _ => hok⟩
      refine ⟨_, rfl, _, (hC3.fr0 f4).ldR hl, _, ixRow18 hj, ?_⟩
      refine (h3.fr0 f4).sto2 hj hx fun w5 f5 s5 hnext => Drw.intro fun w6 f6 s6 => ?_
      obtain ⟨hcnt, hsto⟩ := hnext f6
      refine ⟨_, rfl, _, rfl, _, hcnt, _, ixSt18 hj, ?_⟩
      refine hsto fun w7 f7 h7 s7 => ?_
      have fr : Fr [b] w w7 := ((((f02.mono (by simp)).trans f3 (fun x hx => .inl hx)).then f4).trans f5 (fun x hx => .inl hx)).then f6 |>.trans f7 (fun x hx => .inl hx)
      have := hk w7 _ _ fr h7 (fun hh => absurd he hh) (fun _ => ⟨by rw [Int.toNat_natCast], rfl⟩)
      rw [he] at this
      exact this
  · rw [decide_eq_false hok]
    refine cond_t (same 10 ?_ (by omega) w2 f02)
    unfold insE; rw [if_neg hr, if_pos hok]
set_option maxHeartbeats 1000000 in
theorem refSlotRetire_c (h : RsAt w b sl t) {i : Int}
    (hk : ∀ w' sl', Fr [b] w w' → RsAt w' b sl' t → (retE sl i ≠ 0 → sl' = sl) → (retE sl i = 0 → sl' = setS sl i.toNat sl0) → K (.int .i64 (retE sl i)) w') :
    callF Tryz.prog F_ref18_Slots_Retire #[.pointer (some ⟨b, 0, none⟩), .int .i64 i] w K := by
  apply ref18_Slots_Retire_call
  unfold ref18_Slots_Retire
  have same : ∀ e, retE sl i = e → e ≠ 0 → K (.int .i64 e) w := by
    intro e he h0
    have := hk w sl (Fr.refl _ _) h (fun _ => rfl) (fun hh => absurd (he.symm.trans hh) h0)
    rw [he] at this; exact this
  have out : ¬ (0 ≤ i ∧ i < 3) → K (.int .i64 11) w := fun hr => same 11 (by unfold retE; rw [if_pos hr]) (by omega)
  refine cond_d (fun h1 => out (by omega)) fun h1 => cond_d (fun h2 => out (by omega)) fun h2 => ?_
  obtain ⟨j, rfl⟩ := Int.eq_ofNat_of_zero_le (show 0 ≤ i by omega)
  have hj : j < 3 := by omega
  have hr : ¬ ¬ ((0 : Int) ≤ (j : Int) ∧ (j : Int) < 3) := fun hh => hh (by omega)
  unfold ref18_Slots_Retire_j1
  refine ⟨_, rfl, _, ixSt18 hj, _, h.stLd hj, cond_intro (fun h0 => ?_) fun h0 => ?_⟩
  · have h0' : (sl j).st = 0 := by simpa using h0
    have ho : ¬ occ sl (j : Int) := fun hh => hh.2 (by rw [Int.toNat_natCast]; exact h0')
    exact same 17 (by unfold retE; rw [if_neg hr, if_neg ho]) (by omega)
  · have h0' : (sl j).st ≠ 0 := by simpa using h0
    have ho : occ sl (j : Int) := ⟨by omega, by rw [Int.toNat_natCast]; exact h0'⟩
    have he : retE sl (j : Int) = 0 := by unfold retE; rw [if_neg hr, if_pos ho]
    refine ⟨_, rfl, _, ixRow18 hj, ?_⟩
    refine h.sto2 hj (sl0_ok t) fun w5 f5 s5 hnext => ?_
    obtain ⟨_, hsto⟩ := hnext (Fr.refl [] w5)
    refine ⟨_, rfl, _, ixSt18 hj, ?_⟩
    refine hsto fun w7 f7 h7 s7 => ?_
    have := hk w7 _ (f5.trans f7 (fun x hx => .inl hx)) h7 (fun hh => absurd he hh) (fun _ => by rw [Int.toNat_natCast])
    rw [he] at this
    exact this
end
end Go.Sh
end

section
namespace Go.Sh
open Go Go.Fw Go.Proofs
set_option maxRecDepth 100000
set_option linter.unusedVariables false
section
variable {w : World} {b t : Nat} {sl : Nat → SL} {K : Value → World → Prop}
def prR (r : PR) (K : Value → World → Prop) (w : World) : Prop := ∀ q1 d1 q2 d2 w', Fr [] w w' → Row w' q1 (r.a.map vb) → r.a.length ≤ d1 → Row w' q2 (r.b.map vb) → r.b.length ≤ d2 → (∀ k ∈ blks q1, w.heap.size ≤ k) → (∀ k ∈ blks q2, w.heap.size ≤ k) → K (prT r q1 d1 q2 d2) w'
theorem badR {kb : Nat} {w0 : World} {e : Int} {f : Nat → Value} (hB : Blk w kb 3 f) (f0 : Fr [] w0 w) (hk : w0.heap.size ≤ kb) (h : prR (.bad e) K w0) :
    ∃ w2, Sto Tryz.prog T_ref17_Parts (.pointer (some ⟨kb, 0, none⟩)) (.agg #[.int .i64 0, .slice none 0 0, .slice none 0 0]) w w2 ∧ ∃ (a4 : Addr) (v4 : Value), (.pointer (some ⟨kb, 0, none⟩) : Value) = .pointer (some a4) ∧ (loadVar T_ref17_Parts a4).run Tryz.prog w2 = .ok v4 w2 ∧ K (.tuple #[v4, .int .i64 e]) w2 := by
  refine stoPR hB (cs := partsL 0 none 0 0 none 0 0) rfl (parts_one _ _ _ _ _ _ _) fun w3 f3 hB3 hLd => ⟨_, _, rfl, hLd, ?_⟩
  exact h none 0 none 0 w3 (f0.st f3 hk) (.inl rfl) (Nat.le_refl _) (.inl rfl) (Nat.le_refl _) (by simp [blks]) (by simp [blks])
theorem tellR {kb : Nat} {w0 : World} {r : PR} {q1 q2 : Option Addr} {d1 d2 lo : Nat} {f : Nat → Value} (hB : Blk w kb 3 f) (f0 : Fr [] w0 w) (hk : w0.heap.size ≤ kb) (hlo : kb < lo) (h1 : Row w q1 (r.a.map vb)) (h1c : r.a.length ≤ d1) (h2 : Row w q2 (r.b.map vb)) (h2c : r.b.length ≤ d2) (b1 : ∀ k ∈ blks q1, lo ≤ k) (b2 : ∀ k ∈ blks q2, lo ≤ k) (h : prR r K w0) :
    ∃ w2, Sto Tryz.prog T_ref17_Parts (.pointer (some ⟨kb, 0, none⟩)) (.agg #[.int .i64 r.p, .slice q1 r.a.length d1, .slice q2 r.b.length d2]) w w2 ∧ ∃ (a4 : Addr) (v4 : Value), (.pointer (some ⟨kb, 0, none⟩) : Value) = .pointer (some a4) ∧ (loadVar T_ref17_Parts a4).run Tryz.prog w2 = .ok v4 w2 ∧ K (.tuple #[v4, .int .i64 r.e]) w2 := by
  refine stoPR hB (cs := partsL r.p q1 r.a.length d1 q2 r.b.length d2) rfl (parts_one _ _ _ _ _ _ _) fun w3 f3 hB3 hLd => ⟨_, _, rfl, hLd, ?_⟩
  refine h q1 d1 q2 d2 w3 (f0.st f3 hk) (Row.cells_fr h1 f3 fun k hk hm => ?_) h1c (Row.cells_fr h2 f3 fun k hk hm => ?_) h2c (fun k hk => ?_) (fun k hk => ?_)
  · have := b1 k hk; simp at hm; omega
  · have := b2 k hk; simp at hm; omega
  · have := b1 k hk; omega
  · have := b2 k hk; omega
theorem occ_okR (h : RsAt w b sl t) {n : Int} (ho : occ sl n) : okC (ofS sl n).m (ofS sl n).s (ofS sl n).n (ofS sl n).key ∧ (ofS sl n).ok t := by
  have e : ofS sl n = sl n.toNat := by unfold ofS; rw [if_pos ho.1]
  rw [e]
  have := h.ok (show n.toNat < 3 by have := ho.1; omega)
  exact ⟨this.2.2.2 ho.2, this⟩
set_option maxHeartbeats 1000000 in
theorem refSlotShow_c (h : RsAt w b sl t) {p : Option Addr} {l c : Nat} {id : List UInt8} (hx : Row w p (id.map vb)) (hl : l = id.length) (hc : l ≤ c) (hlb : l < 1000000) (hk : prR (showR sl id) K w) : callF Tryz.prog F_ref18_Slots_Show #[.pointer (some ⟨b, 0, none⟩), .slice p l c] w K := by
  apply ref18_Slots_Show_call
  unfold ref18_Slots_Show
  refine newZ (s := 3) (by kernel_rfl) fun w1 g1 f1 hB1 s1 => ?_
  unfold showR at hk
  refine cond_d (fun h0 => ?_) fun h0 => ?_
  · rw [if_pos (by omega)] at hk
    exact badR hB1 f1 (Nat.le_refl _) hk
  · rw [if_neg (by omega)] at hk
    obtain ⟨a, ha, hca⟩ := row_get (t := T_S_uint8) (by kernel_rfl) (hx.fr0 f1) (c := c) hl (i := 0) (by omega) (k := .i64)
    refine ⟨a, ha, _, Ld.cell (by kernel_rfl) hca, refPoint_c ⟨_, rfl, ?_⟩⟩
    have ept : (((id.getD 0 0).toNat / 64 : Nat) : Int) = (ptO id : Int) := rfl
    rw [ept]
    refine refHas_c (h.fr0 f1) ⟨_, rfl, ?_⟩
    by_cases ho : occ sl (ptO id : Int)
    · rw [decide_eq_true ho]
      rw [if_pos ho] at hk
      obtain ⟨hcx, hok⟩ := occ_okR h ho
      have hi : ptO id < 3 := by have := ho.1; omega
      have e : ofS sl (ptO id : Int) = sl (ptO id) := by unfold ofS; rw [if_pos ho.1, Int.toNat_natCast]
      rw [e] at hok hk
      refine cond_f ⟨_, rfl, _, ixRow18 hi, _, (h.fr0 f1).cfgLd hi, ?_⟩
      refine refBackO_c hok.1 (hx.fr0 f1) hl hc hlb fun q1 d1 q2 d2 w5 f5 hr1 hd1 hr2 hd2 b1 b2 => ⟨_, _, _, _, _, _, _, _, rfl, ?_⟩
      exact tellR (r := bkR (sl (ptO id)) id) (hB1.fr0 f5) (f1.then f5) (Nat.le_refl _) (by omega) hr1 hd1 hr2 hd2 b1 b2 hk
    · rw [decide_eq_false ho]
      rw [if_neg ho] at hk
      exact cond_t (badR hB1 f1 (Nat.le_refl _) hk)
theorem shortR_show {id : List UInt8} (h : RsAt w b sl t) (h2 : ¬ id.length < 2) (h3 : occ sl (ptO (id.drop 1) : Int)) (h4 : ¬ (id.drop 1).length < (ofS sl (ptO (id.drop 1) : Int)).size) :
    shortR sl id = showR sl ((id.drop 1).take (ofS sl (ptO (id.drop 1) : Int)).size) := by
  have hc := (occ_okR h h3).1
  unfold okC at hc
  obtain ⟨R, hR⟩ : ∃ R, R = id.drop 1 := ⟨_, rfl⟩
  have e : shortR sl id = if id.length < 2 then .bad 12 else if occ sl (ptO R : Int) then (if R.length < (ofS sl (ptO R : Int)).size then .bad 12 else bkR (ofS sl (ptO R : Int)) (R.take (ofS sl (ptO R : Int)).size)) else .bad 17 := by rw [hR]; rfl
  rw [← hR] at h3 h4 hc ⊢
  rw [e, if_neg h2, if_pos h3, if_neg h4]
  have hsz : 1 ≤ (ofS sl (ptO R : Int)).size := by unfold SL.size; omega
  have h0 : fl (R.take (ofS sl (ptO R : Int)).size) 0 = fl R 0 := by unfold fl; rw [List.getD_eq_getElem?_getD, List.getElem?_take, if_pos (by omega), List.getD_eq_getElem?_getD]
  have hp : ptO (R.take (ofS sl (ptO R : Int)).size) = ptO R := by show (fl (R.take (ofS sl (ptO R : Int)).size) 0).toNat / 64 = _; rw [h0]; rfl
  unfold showR
  rw [if_neg (by rw [List.length_take]; omega), hp, if_pos h3]
set_option maxHeartbeats 1000000 in
theorem refSlotShort_c (h : RsAt w b sl t) {p : Option Addr} {l c : Nat} {id : List UInt8} (hx : Row w p (id.map vb)) (hl : l = id.length) (hc : l ≤ c) (hlb : l < 1000000) (hk : prR (shortR sl id) K w) : callF Tryz.prog F_ref18_Slots_Short #[.pointer (some ⟨b, 0, none⟩), .slice p l c] w K := by
  apply ref18_Slots_Short_call
  unfold ref18_Slots_Short
  refine newZ (s := 3) (by kernel_rfl) fun w1 g1 f1 hB1 s1 => ?_
  have bad2 : id.length < 2 → shortR sl id = .bad 12 := fun h2 => by unfold shortR; rw [if_pos h2]
  refine cond_d (fun h0 => ?_) fun h0 => ?_
  · rw [bad2 (by omega)] at hk
    exact badR hB1 f1 (Nat.le_refl _) hk
  · obtain ⟨R, hR⟩ : ∃ R, R = id.drop 1 := ⟨_, rfl⟩
    have e : shortR sl id = if id.length < 2 then .bad 12 else if occ sl (ptO R : Int) then (if R.length < (ofS sl (ptO R : Int)).size then .bad 12 else bkR (ofS sl (ptO R : Int)) (R.take (ofS sl (ptO R : Int)).size)) else .bad 17 := by rw [hR]; rfl
    have hRl : R.length = id.length - 1 := by rw [hR, List.length_drop]
    have hshow := shortR_show (id := id) h (by omega)
    rw [← hR] at hshow
    obtain ⟨a, ha, hca⟩ := row_get (t := T_S_uint8) (by kernel_rfl) (hx.fr0 f1) (c := c) hl (i := 1) (by omega) (k := .i64)
    have ept : (((id.getD 1 0).toNat / 64 : Nat) : Int) = (ptO R : Int) := by
      have : fl R 0 = fl id 1 := by rw [hR, fl_drop]
      show _ = (((fl R 0).toNat / 64 : Nat) : Int)
      rw [this]; rfl
    refine ⟨a, ha, _, Ld.cell (by kernel_rfl) hca, refPoint_c ⟨_, rfl, ?_⟩⟩
    rw [ept]
    refine refHas_c (h.fr0 f1) ⟨_, rfl, ?_⟩
    by_cases ho : occ sl (ptO R : Int)
    · rw [decide_eq_true ho]
      obtain ⟨hcx, hok⟩ := occ_okR h ho
      have hcx2 := hcx
      unfold okC at hcx2
      have hi : ptO R < 3 := by have := ho.1; omega
      have e' : ofS sl (ptO R : Int) = sl (ptO R) := by unfold ofS; rw [if_pos ho.1, Int.toNat_natCast]
      have e3 : (sl (ptO R)).c = cfgV (ofS sl (ptO R : Int)).m (ofS sl (ptO R : Int)).s (ofS sl (ptO R : Int)).n (ofS sl (ptO R : Int)).key := by rw [e']; rfl
      obtain ⟨x, hxe⟩ : ∃ x, x = ofS sl (ptO R : Int) := ⟨_, rfl⟩
      rw [← hxe] at hcx hcx2 hok e3 e hshow
      have esz : (if okC x.m x.s x.n x.key then 1 + (x.s + x.n) else 0) = ((x.size : Nat) : Int) := by rw [if_pos hcx]; unfold SL.size; omega
      have hszl : x.size ≤ 20 := by unfold SL.size; omega
      refine cond_f ⟨_, rfl, _, ixRow18 hi, _, (h.fr0 f1).cfgLd hi, ?_⟩
      rw [e3]
      refine refCfgSize_c hok.1 fun w2 f2 => ⟨_, rfl, ?_⟩
      rw [esz, wrap64 (n := (l : Int) - 1) (by omega) (by omega)]
      have f02 := f1.then f2
      refine cond_d (fun h3 => ?_) fun h3 => ?_
      · rw [e, if_neg (by omega), if_pos ho, if_pos (by omega)] at hk
        exact badR (hB1.fr0 f2) f02 (Nat.le_refl _) hk
      · have hsh := hshow ho (by omega)
        have ew : IntKind.i64.wrap (((x.size : Nat) : Int) + 1) = ((1 + x.size : Nat) : Int) := by rw [wrap64 (by omega) (by omega)]; omega
        rw [ew]
        refine slMid (hx.fr0 f02) hl (a := 1) (b := 1 + x.size) (by omega) (by omega) hc fun q d hq hql hqc hqs => ?_
        have ed : (id.take (1 + x.size)).drop 1 = R.take x.size := by rw [hR, List.drop_take]; congr 1; omega
        rw [ed] at hq hql
        refine refSlotShow_c (h.fr0 f02) hq hql hqc (by omega) ?_
        rw [← hsh]
        intro q1 d1 q2 d2 w5 f5 hr1 hd1 hr2 hd2 b1 b2
        have n2 := f2.size
        refine ⟨_, _, _, _, _, _, _, _, rfl, ?_⟩
        exact tellR (r := shortR sl id) (hB1.fr0 (f2.then f5)) (f02.then f5) (Nat.le_refl _) (by omega) hr1 hd1 hr2 hd2 b1 b2 hk
    · rw [decide_eq_false ho]
      rw [e, if_neg (by omega), if_neg ho] at hk
      exact cond_t (badR hB1 f1 (Nat.le_refl _) hk)
end
end Go.Sh
end

section
namespace Go.Sh
open Go Go.Fw Go.Proofs
set_option maxRecDepth 100000
set_option linter.unusedVariables false
section
variable {w : World} {b r t : Nat} {sl : Nat → SL} {K : Value → World → Prop}
set_option maxHeartbeats 2000000 in
theorem Do18_c (hS : SlAt w b sl t) (hR : RsAt w r sl t) (hne : b ≠ r) (ht : t < 1000000000) {x : CL} (hx : x.key.length = 16)
    (hk : ∀ w' sl' t', Fr [b, r] w w' → SlAt w' b sl' t' → RsAt w' r sl' t' → t' ≤ t + 1 → K (.bool true) w') : callF Tryz.prog F_law18_Do #[.pointer (some ⟨b, 0, none⟩), .pointer (some ⟨r, 0, none⟩), .agg ⟨x.v⟩] w K := by
  apply law18_Do_call
  unfold law18_Do
  have hbl := hS.lt; have hrl := hR.lt
  have hvl := CL.v_len hx
  refine New.intro fun w1 f1 hB1 s1 => ?_
  obtain ⟨k5, hk5⟩ : ∃ k, k = w.heap.size := ⟨_, rfl⟩
  rw [← hk5] at hB1 ⊢
  have hsz : (⟨x.v⟩ : Array Value).size = 21 := hvl
  have hc : ∀ j v, x.v[j]? = some v → (⟨x.v⟩ : Array Value).getD j undef = v := fun j v hj => by
    rw [Array.getD_eq_getD_getElem?, List.getElem?_toArray, hj]; rfl
  have hB : Blk w1 k5 21 (fun i => (⟨x.v⟩ : Array Value).getD i undef) := by rw [hsz] at hB1; exact hB1
  have ld0 : ∀ {w' : World}, Blk w' k5 21 (fun i => (⟨x.v⟩ : Array Value).getD i undef) → Ld Tryz.prog T_int (.pointer (some ((⟨k5, 0, none⟩ : Addr).add 0))) w' (.int .i64 x.op) := fun {w'} hB => Ld.blk (by kernel_rfl) hB (by omega) (hc 0 _ rfl)
  have ld1 : ∀ {w' : World}, Blk w' k5 21 (fun i => (⟨x.v⟩ : Array Value).getD i undef) → Ld Tryz.prog T_int (.pointer (some ((⟨k5, 0, none⟩ : Addr).add 1))) w' (.int .i64 x.at_) := fun {w'} hB => by rw [add_mk]; exact Ld.blk (by kernel_rfl) hB (by omega) (hc 1 _ rfl)
  have ld2 : ∀ {w' : World}, Blk w' k5 21 (fun i => (⟨x.v⟩ : Array Value).getD i undef) → Ld Tryz.prog T_mode_Config (.pointer (some ((⟨k5, 0, none⟩ : Addr).add 2))) w' (.agg ⟨cfgV x.m x.s x.n x.key⟩) := fun {w'} hB => by
    rw [add_mk]
    exact LdA (m := 19) (by kernel_rfl) (by kernel_rfl) hB (o := 0 + 2) (by omega) _ (by rw [cfgV_len]; omega) fun j v hj => by rw [show 0 + 2 + j = j + 2 by omega]; exact hc (j + 2) v hj
  have keep : ∀ {w' : World}, Fr [b, r] w1 w' → Blk w' k5 21 (fun i => (⟨x.v⟩ : Array Value).getD i undef) := fun {w'} f => hB.fr f (by simp; omega)
  have hS1 := hS.fr0 f1; have hR1 := hR.fr0 f1
  refine ⟨_, ld0 hB, cond_intro (fun _ => ?_) fun _ => cond_intro (fun _ => ?_) fun _ => hk w1 sl t (f1.mono (by simp)) hS1 hR1 (by omega)⟩
  · refine ⟨fun w' => Fr [b, r] w1 w', Drw.intro fun w2 f2 s2 => ?_⟩
    have f2' : Fr [b, r] w1 w2 := f2.mono (by simp)
    refine ⟨_, ⟨f2', fun w' hw' => ld1 (keep hw')⟩, _, ⟨f2', fun w' hw' => ld2 (keep hw')⟩, _, ⟨f2', fun w' hw' => ld1 (keep hw')⟩, _, ⟨f2', fun w' hw' => ld2 (keep hw')⟩, ?_⟩
    refine slotInstall_c (hS1.fr0 f2) ht hx fun w3 sl3 t3 f3 hS3 h3n h3z => ⟨_, rfl, ?_⟩
    have f13 : Fr [b, r] w1 w3 := f2'.trans f3 (fun y hy => .inl (by simp at hy; simp [hy]))
    refine ⟨.inr f13, law16Of_c hx fun w4 f4 => ⟨_, rfl, .inr (f13.then f4), ?_⟩⟩
    have hR4 := ((hR1.fr0 f2).fr f3 (by simp; exact fun hh => hne hh.symm)).fr0 f4
    refine refSlotInstall_c hR4 ht hx fun w5 sl5 t5 f5 hR5 h5n h5z => ⟨_, rfl, ?_⟩
    rw [beq_self_eq_true]
    have hS5 := (hS3.fr0 f4).fr f5 (by simp; exact hne)
    have f05 : Fr [b, r] w w5 := (f1.mono (by simp)).trans ((f13.then f4).trans f5 (fun y hy => .inl (by simp at hy; simp [hy]))) (fun y hy => .inl hy)
    by_cases he : insE sl x.at_ x.m x.s x.n x.key = 0
    · obtain ⟨rfl, rfl⟩ := h3z he
      obtain ⟨rfl, rfl⟩ := h5z he
      exact hk w5 _ _ f05 hS5 hR5 (Nat.le_refl _)
    · obtain ⟨rfl, rfl⟩ := h3n he
      obtain ⟨rfl, rfl⟩ := h5n he
      exact hk w5 _ _ f05 hS5 hR5 (by omega)
  · refine ⟨fun w' => Fr [b, r] w1 w', Drw.intro fun w2 f2 s2 => ?_⟩
    have f2' : Fr [b, r] w1 w2 := f2.mono (by simp)
    refine ⟨_, ⟨f2', fun w' hw' => ld1 (keep hw')⟩, _, ⟨f2', fun w' hw' => ld1 (keep hw')⟩, ?_⟩
    refine slotRetire_c (hS1.fr0 f2) fun w3 sl3 f3 hS3 h3n h3z => ⟨_, rfl, ?_⟩
    have f13 : Fr [b, r] w1 w3 := f2'.trans f3 (fun y hy => .inl (by simp at hy; simp [hy]))
    refine ⟨.inr f13, ?_⟩
    have hR3 := (hR1.fr0 f2).fr f3 (by simp; exact fun hh => hne hh.symm)
    refine refSlotRetire_c hR3 fun w5 sl5 f5 hR5 h5n h5z => ⟨_, rfl, ?_⟩
    rw [beq_self_eq_true]
    have hS5 := hS3.fr f5 (by simp; exact hne)
    have f05 : Fr [b, r] w w5 := (f1.mono (by simp)).trans (f13.trans f5 (fun y hy => .inl (by simp at hy; simp [hy]))) (fun y hy => .inl hy)
    by_cases he : retE sl x.at_ = 0
    · obtain rfl := h3z he
      obtain rfl := h5z he
      exact hk w5 _ _ f05 hS5 hR5 (by omega)
    · obtain rfl := h3n he
      obtain rfl := h5n he
      exact hk w5 _ _ f05 hS5 hR5 (by omega)
end
end Go.Sh
end

section
namespace Go.Sh
open Go Go.Fw Go.Proofs
set_option maxRecDepth 100000
set_option linter.unusedVariables false
def cntS (sl : Nat → SL) : Nat → Nat
  | 0 => 0
  | i + 1 => cntS sl i + if (sl i).st = 0 then 0 else 1
theorem cntS_le (sl : Nat → SL) : ∀ i, cntS sl i ≤ i
  | 0 => Nat.le_refl _
  | i + 1 => by have := cntS_le sl i; unfold cntS; split <;> omega
theorem cntS_mono (sl : Nat → SL) : ∀ i j, i ≤ j → cntS sl i ≤ cntS sl j := by
  intro i j h
  induction j with
  | zero => have : i = 0 := by omega
            subst this; exact Nat.le_refl _
  | succ j ih =>
    by_cases hij : i = j + 1
    · subst hij; exact Nat.le_refl _
    · have := ih (by omega)
      have e : cntS sl (j + 1) = cntS sl j + if (sl j).st = 0 then 0 else 1 := rfl
      rw [e]; omega
theorem ofS_none {w : World} {b t : Nat} {sl : Nat → SL} (h : SlAt w b sl t) {n : Int} (ho : ¬ occ sl n) : ofS sl n = sl0 := by
  unfold ofS
  split
  · rename_i hr
    have h0 : (sl n.toNat).st = 0 := by
      by_cases h0 : (sl n.toNat).st = 0
      · exact h0
      · exact absurd ⟨hr, h0⟩ ho
    exact (h.ok (show n.toNat < 3 by omega)).2.2.1 h0
  · rfl
section
variable {w : World} {b r t : Nat} {sl : Nat → SL} {K : Value → World → Prop}
set_option maxHeartbeats 4000000 in
theorem Agree18_c (hS : SlAt w b sl t) (hR : RsAt w r sl t) (h : ∀ w', Fr [] w w' → K (.bool true) w') : callF Tryz.prog F_law18_Agree #[.pointer (some ⟨b, 0, none⟩), .pointer (some ⟨r, 0, none⟩)] w K := by
  apply law18_Agree_call
  unfold law18_Agree
  have hbl := hS.lt; have hrl := hR.lt
  refine New.intro fun w1 f1 hB1 s1 => ?_
  obtain ⟨k3, hk3⟩ : ∃ k, k = w.heap.size := ⟨_, rfl⟩
  rw [← hk3] at hB1 ⊢
  refine newZ (s := 1) (by kernel_rfl) fun w2 g2 f2 hB2 s2 => ?_
  obtain ⟨k4, hk4⟩ : ∃ k, k = w1.heap.size := ⟨_, rfl⟩
  rw [← hk4] at hB2 ⊢
  have hB1 : Blk w1 k3 1 (fun i => (#[.pointer (some ⟨r, 0, none⟩)] : Array Value).getD i undef) := hB1
  have f02 := f1.then f2
  have hP2 := hB1.fr0 f2
  have ld3 : ∀ {w' : World}, Blk w' k3 1 (fun i => (#[.pointer (some ⟨r, 0, none⟩)] : Array Value).getD i undef) → Ld Tryz.prog T_P_ref18_Slots (.pointer (some ⟨k3, 0, none⟩)) w' (.pointer (some ⟨r, 0, none⟩)) := fun {w'} hB => Ld.blk (by kernel_rfl) hB (by omega) rfl
  have n2 := f2.size
  refine LoopS.ind (fun k us w' => ∃ i : Nat, i + k = 5 ∧ us = [.pointer (some ⟨b, 0, none⟩), .pointer (some ⟨k3, 0, none⟩), .pointer (some ⟨k4, 0, none⟩), .int .i64 ((i : Int) - 1)] ∧ Fr [] w2 w') 5 ⟨0, by omega, rfl, Fr.refl _ _⟩ ?_
  rintro k us rr w3 I μ hgo ⟨i, hi, rfl, f3⟩
  have hS3 := hS.fr0 (f02.then f3); have hR3 := hR.fr0 (f02.then f3); have hP3 := hP2.fr0 f3
  refine ⟨_, _, _, _, rfl, cond_d (fun hle => ?_) fun hgt => ?_⟩
  · obtain ⟨n, hn⟩ : ∃ n : Int, n = (i : Int) - 1 := ⟨_, rfl⟩
    rw [← hn] at hle ⊢
    have goon : ∀ w', Fr [] w3 w' → goesOn [] [] I μ [.pointer (some ⟨b, 0, none⟩), .pointer (some ⟨k3, 0, none⟩), .pointer (some ⟨k4, 0, none⟩), .int .i64 ((i : Int) - 1)] [.pointer (some ⟨b, 0, none⟩), .pointer (some ⟨k3, 0, none⟩), .pointer (some ⟨k4, 0, none⟩), .int .i64 (IntKind.i64.wrap (n + 1))] w3 w' := fun w' f => by
      have ew : IntKind.i64.wrap (n + 1) = ((i + 1 : Nat) : Int) - 1 := by rw [wrap64 (by omega) (by omega)]; omega
      rw [ew]
      exact hgo _ _ _ (k - 1) (by omega) ⟨i + 1, by omega, rfl, f3.then f⟩
    rw [← hn] at goon
    refine slotOf_c hS3 fun w4 f4 => ⟨_, _, rfl, ?_⟩
    have hok := ofS_ok hS3 n
    have hno := fun ho => ofS_none hS3 (n := n) ho
    have hst : ofS sl n = if 0 ≤ n ∧ n < 3 then sl n.toNat else sl0 := rfl
    obtain ⟨x, hx⟩ : ∃ x, x = ofS sl n := ⟨_, rfl⟩
    rw [← hx] at hok hno hst ⊢
    refine newZ (s := 19) (by kernel_rfl) fun w5 g5 f5 hB5 s5 => ?_
    refine stoCfg (m := x.m) (s := x.s) (n := x.n) (key := x.key) hB5 hok.1 fun w6 f6 hC6 s6 => ?_
    have f46 : Fr [] w4 w6 := f5.st f6 (Nat.le_refl _)
    have f36 := f4.then f46
    refine ⟨_, ld3 (hP3.fr0 f36), refHas_c (hR3.fr0 f36) ⟨_, rfl, ?_⟩⟩
    rw [beq_self_eq_true]
    refine cond_f ⟨fun w' => Fr [] w6 w', Drw.intro fun w8 f8 s8 => ?_⟩
    have f38 := f36.then f8
    by_cases ho : occ sl n
    · rw [decide_eq_true ho]
      have hr := ho.1
      obtain ⟨j, rfl⟩ := Int.eq_ofNat_of_zero_le (show 0 ≤ n by omega)
      have hj : j < 3 := by omega
      rw [if_pos hr, Int.toNat_natCast] at hst
      have hP6 := hP3.fr0 f36; have hR6 := hR3.fr0 f36; have hS6 := hS3.fr0 f36
      refine cond_t ⟨_, ⟨f8, fun w' hw' => (hC6.fr0 hw').ld hok.1⟩, _, ⟨f8, fun w' hw' => ld3 (hP6.fr0 hw')⟩, _, rfl, _, ixRow18 hj, _, ⟨f8, fun w' hw' => (hR6.fr0 hw').cfgLd hj⟩, ?_⟩
      refine law16Of_c hok.1 fun w9 f9 => ⟨_, rfl, .inr (f8.then f9), ?_⟩
      have hl' := (hS.ok hj).1
      refine ⟨_, _, Ef.neCfg (n := 16) (by kernel_rfl) hok.1 hl', .inl rfl, ?_⟩
      rw [decide_eq_true ⟨by rw [hst], by rw [hst], by rw [hst], by rw [hst]⟩]
      refine cond_f ⟨_, ⟨f8.then f9, fun w' hw' => ld3 (hP6.fr0 hw')⟩, _, rfl, _, ixSt18 hj, _, ⟨f8.then f9, fun w' hw' => (hR6.fr0 hw').stLd hj⟩, ?_⟩
      refine slotStamp_c (hS6.fr0 (f8.then f9)) ⟨_, rfl, .inl rfl, ?_⟩
      have e : (ofS sl (j : Int)).st = (sl j).st := by rw [← hx, hst]
      rw [e]
      refine cond_ne (fun hh => absurd rfl hh) fun _ => cond_f (goon _ (f36.then (f8.then f9)))
    · rw [decide_eq_false ho]
      have hx0 := hno ho
      refine cond_f (cond_t ⟨_, (hC6.fr0 f8).ld hok.1, _, _, by rw [zcfg]; exact Ef.neCfg (n := 16) (by kernel_rfl) hok.1 rfl, ?_⟩)
      rw [decide_eq_true ⟨by rw [hx0]; rfl, by rw [hx0]; rfl, by rw [hx0]; rfl, by rw [hx0]; rfl⟩]
      refine cond_f (slotStamp_c (hS3.fr0 f38) ⟨_, rfl, ?_⟩)
      rw [← hx, hx0]
      exact cond_f (goon _ f38)
  · have f03 := f02.then f3
    refine newZ (s := 1) (by kernel_rfl) fun w4 g4 f4 hB4 s4 => ?_
    obtain ⟨k8, hk8⟩ : ∃ k, k = w3.heap.size := ⟨_, rfl⟩
    rw [← hk8] at hB4 ⊢
    refine Sto.blk (by kernel_rfl) hB4 (by omega) rfl rfl fun w5 f5 hB5 s5 => ?_
    refine newZ (s := 1) (by kernel_rfl) fun w6 g6 f6 hB6 s6 => ?_
    obtain ⟨k9, hk9⟩ : ∃ k, k = w5.heap.size := ⟨_, rfl⟩
    rw [← hk9] at hB6 ⊢
    refine Sto.blk (by kernel_rfl) hB6 (by omega) rfl rfl fun w7 f7 hB7 s7 => ?_
    have f35 : Fr [] w3 w5 := f4.st f5 (by omega)
    have f57 : Fr [] w5 w7 := f6.st f7 (by omega)
    have f37 := f35.then f57
    have n3 := f3.size
    have hB8 : Blk w7 k8 1 (upd g4 0 (.int .i64 (-1))) := (hB5.fr0 f6).fr f7 (by simp; omega)
    apply slot_Slots_All_call
    unfold slot_Slots_All
    refine New.intro fun w8 f8 hB8x s8 => ⟨_, rfl, ?_⟩
    obtain ⟨kA, hkA⟩ : ∃ k, k = w7.heap.size := ⟨_, rfl⟩
    rw [← hkA] at hB8x ⊢
    refine RangeF.of (fun _ _ => by kernel_rfl) fun fn w9 f9 s9 hD9 hL9 => ?_
    obtain ⟨kd, hkd⟩ : ∃ k, k = w8.heap.size := ⟨_, rfl⟩
    rw [← hkd] at hD9 hL9 ⊢
    have f79 := f8.then f9
    have f39 := f37.then f79
    have hS9 := hS3.fr0 f39; have hR9 := hR3.fr0 f39; have hP9 := hP3.fr0 f39
    have hB49 : Blk w9 k4 1 g2 := (hB2.fr0 f3).fr0 f39
    have n35 := f35.size; have n57 := f57.size; have n79 := f79.size
    refine slotAll_c hS9 (kb := kA) (by rw [(hB8x.fr0 f9).cell (by show 0 < 1; omega)]; rfl) (fun i w' => Fr [kd + 1, k8, k9] w9 w' ∧ LpAt w' (kd + 1) _ ∧ (∃ (g : Nat → Value) (la : Int), Blk w' k8 1 g ∧ g 0 = .int .i64 la ∧ la < (i : Int)) ∧ ∃ g, Blk w' k9 1 g ∧ g 0 = .int .i64 (cntS sl i : Int))
      ⟨Fr.refl _ _, hL9, ⟨_, -1, hB8.fr0 f79, upd_same _ _ _, by omega⟩, _, hB7.fr0 f79, upd_same _ _ _⟩ (fun i wa wb K' hi hj fab hne hy _ => ?_) (fun i wa wb hi hj fab h0 => ?_) (fun wa hj => ?_)
    · obtain ⟨fj, hL, ⟨g8, la, hG8, hg8, hla⟩, g9, hG9, hg9⟩ := hj
      have nab := fab.size; have nj := fj.size
      have hokx := (hS.ok hi).1
      refine law18_Agree_y0_call _ _ _ _ _ _ (hL.fr0 fab) ?_
      unfold law18_Agree_y0
      refine newZ (s := 19) (by kernel_rfl) fun wc gc fc hBc sc => ?_
      refine stoCfg (m := (sl i).m) (s := (sl i).s) (n := (sl i).n) (key := (sl i).key) hBc hokx fun wd fd hCd sd => ?_
      have fbd : Fr [] wb wd := fc.st fd (Nat.le_refl _)
      have hkl := heap_lt (hL.fr0 fab)
      refine BegR.of ((hL.fr0 fab).fr0 fbd) rfl fun we fe hLe se => ⟨fun w' => Fr [] we w', Drw.intro fun w4 f4 s4 => ?_⟩
      have fae := (fab.then fbd).trans fe (l := []) (l1 := [kd + 1])
      have f9e : Fr [kd + 1, k8, k9] w9 we := ((fj.then fab).then fbd).trans fe (by simp)
      have hGe8 : Blk we k8 1 g8 := ((hG8.fr0 fab).fr0 fbd).fr fe (by simp; omega)
      have hGe9 : Blk we k9 1 g9 := ((hG9.fr0 fab).fr0 fbd).fr fe (by simp; omega)
      have hRe := hR9.fr f9e (by simp; omega)
      have hPe := hP9.fr f9e (by simp; omega)
      have hCe := hCd.fr fe (by simp; omega)
      have hLe4 := hLe.fr0 f4
      refine ⟨_, Ld.blk (by kernel_rfl) (hGe8.fr0 f4) (by omega) hg8, .inl rfl, cond_d (fun hh => by omega) fun _ => ?_⟩
      have ho : occ sl (i : Int) := ⟨by omega, by rw [Int.toNat_natCast]; exact hne⟩
      refine ⟨_, ld3 (hPe.fr0 f4), .inl rfl, refHas_c (hRe.fr0 f4) ⟨_, rfl, .inl rfl, ?_⟩⟩
      rw [decide_eq_true ho]
      refine cond_f ⟨_, ⟨f4, fun w' hw' => (hCe.fr0 hw').ld hokx⟩, _, ⟨f4, fun w' hw' => ld3 (hPe.fr0 hw')⟩, _, rfl, _, ixRow18 hi, _, ⟨f4, fun w' hw' => (hRe.fr0 hw').cfgLd hi⟩, ?_⟩
      refine law16Of_c hokx fun w6 f6 => ⟨_, rfl, .inr (f4.then f6), ?_⟩
      refine ⟨_, _, Ef.neCfg (n := 16) (by kernel_rfl) hokx hokx, ?_⟩
      rw [decide_eq_true ⟨rfl, rfl, rfl, rfl⟩]
      unfold law18_Agree_y0_j2
      refine cond_f ?_
      unfold law18_Agree_y0_j1
      have f46 := f4.then f6
      refine Sto.blk (by kernel_rfl) (hGe8.fr0 f46) (by omega) rfl rfl fun w7x f7x hG7 s7x => ?_
      have hG97 := (hGe9.fr0 f46).fr f7x (by simp; omega)
      refine ⟨_, Ld.blk (by kernel_rfl) hG97 (by omega) hg9, ?_⟩
      refine Sto.blk (by kernel_rfl) hG97 (by omega) rfl rfl fun w8x f8x hG98 s8x => ?_
      have hLx := ((hLe4.fr0 f6).fr f7x (by simp; omega)).fr f8x (by simp; omega)
      refine EndR.of hLx none rfl fun wg fg hLg sg => hy wg ⟨((((f9e.then f46).trans f7x (by simp)).trans f8x (by simp)).trans fg (by simp)), hLg, ⟨_, _, (hG7.fr f8x (by simp; omega)).fr fg (by simp; omega), upd_same _ _ _, by omega⟩, _, hG98.fr fg (by simp; omega), ?_⟩
      have ec := cntS_le sl i
      have e1 : cntS sl (i + 1) = cntS sl i + 1 := by
        show cntS sl i + (if (sl i).st = 0 then 0 else 1) = _
        rw [if_neg hne]
      rw [e1, upd_same, wrap64 (by omega) (by omega)]; rfl
    · obtain ⟨fj, hL, ⟨g8, la, hG8, hg8, hla⟩, g9, hG9, hg9⟩ := hj
      refine ⟨fj.then fab, hL.fr0 fab, ⟨g8, la, hG8.fr0 fab, hg8, by omega⟩, g9, hG9.fr0 fab, ?_⟩
      have e1 : cntS sl (i + 1) = cntS sl i := by
        show cntS sl i + (if (sl i).st = 0 then 0 else 1) = _
        rw [if_pos h0]; rfl
      rw [e1, hg9]
    · obtain ⟨fj, hL, _, g9, hG9, hg9⟩ := hj
      refine ⟨_, hL, by simp [rec0], fun wx fx sx => ?_⟩
      show law18_Agree_j2 _ _ _ _ wx K
      have nj := fj.size
      have f9x : Fr [kd + 1, k8, k9] w9 wx := fj.trans fx (by simp)
      have hRx := hR9.fr f9x (by simp; omega)
      have hPx := hP9.fr f9x (by simp; omega)
      have hB4x := hB49.fr f9x (by simp; omega)
      have hDx : DfAt wx kd := (hD9.fr fj (by simp; omega)).fr fx (by simp)
      have hGx := hG9.fr fx (by simp; omega)
      have f0x : Fr [] w wx := (f03.then f39).trans f9x (fun y hy => .inr (by have := f03.size; simp at hy; omega))
      have n0x := f0x.size; have n03 := f03.size
      have hkdl := heap_lt hDx
      unfold law18_Agree_j2
      refine LoopS.ind (fun k us w' => ∃ i : Nat, i + k = 3 ∧ us = [.pointer (some ⟨k3, 0, none⟩), .pointer (some ⟨k4, 0, none⟩), .pointer (some ⟨k9, 0, none⟩), .int .i64 (i : Int)] ∧ Fr [k9] wx w' ∧ ∃ g, Blk w' k9 1 g ∧ g 0 = .int .i64 ((cntS sl 3 - cntS sl i : Nat) : Int)) 3 ⟨0, by omega, rfl, Fr.refl _ _, _, hGx, hg9⟩ ?_
      rintro k us rr wy I μ hgo ⟨i, hi, rfl, fy, g, hG, hg⟩
      refine ⟨_, _, _, _, rfl, cond_d (fun hlt => ?_) fun hge => ?_⟩
      · have hi3 : i < 3 := by omega
        have hRy := hRx.fr fy (by simp; omega)
        have hPy := hPx.fr fy (by simp; omega)
        have ew : IntKind.i64.wrap ((i : Int) + 1) = ((i + 1 : Nat) : Int) := by rw [wrap64 (by omega) (by omega)]; omega
        refine ⟨_, ld3 hPy, refHas_c hRy ⟨_, rfl, ?_⟩⟩
        rw [ew]
        have em := cntS_mono sl (i + 1) 3 (by omega)
        have e3 := cntS_le sl 3
        by_cases ho : occ sl (i : Int)
        · rw [decide_eq_true ho]
          have h0 : (sl i).st ≠ 0 := by have := ho.2; rw [Int.toNat_natCast] at this; exact this
          have e1 : cntS sl (i + 1) = cntS sl i + 1 := by
            show cntS sl i + (if (sl i).st = 0 then 0 else 1) = _
            rw [if_neg h0]
          refine cond_t ⟨_, Ld.blk (by kernel_rfl) hG (by omega) hg, ?_⟩
          refine Sto.blk (by kernel_rfl) hG (by omega) rfl rfl fun wz fz hGz sz => ?_
          refine hgo _ _ _ (k - 1) (by omega) ⟨i + 1, by omega, rfl, fy.trans fz (by simp), _, hGz, ?_⟩
          rw [upd_same, wrap64 (by omega) (by omega)]
          congr 1; omega
        · rw [decide_eq_false ho]
          have h0 : (sl i).st = 0 := by
            by_cases h0 : (sl i).st = 0
            · exact h0
            · exact absurd ⟨⟨by omega, by omega⟩, by rw [Int.toNat_natCast]; exact h0⟩ ho
          have e1 : cntS sl (i + 1) = cntS sl i := by
            show cntS sl i + (if (sl i).st = 0 then 0 else 1) = _
            rw [if_pos h0]; rfl
          refine cond_f (hgo _ _ _ (k - 1) (by omega) ⟨i + 1, by omega, rfl, fy, g, hG, ?_⟩)
          rw [e1]; exact hg
      · have hi3 : i = 3 := by omega
        subst hi3
        unfold law18_Agree_j1
        have hB4y := hB4x.fr fy (by simp; omega)
        rw [Nat.sub_self] at hg
        refine ⟨_, Ld.blk (by kernel_rfl) hG (by omega) hg, ?_⟩
        refine Sto.blk (by kernel_rfl) hB4y (by omega) rfl rfl fun wz fz hBz sz => ?_
        have hDz : DfAt wz kd := (hDx.fr fy (by simp; omega)).fr fz (by simp; omega)
        obtain ⟨wt, hT, ft, st⟩ := Tk.of (P := Tryz.prog) hDz
        refine ⟨wt, hT, _, _, rfl, Ld.blk (by kernel_rfl) (hBz.fr ft (by simp; omega)) (by omega) (upd_same _ _ _), ?_⟩
        have f0y : Fr [] w wy := f0x.trans fy (fun y hy => .inr (by simp at hy; omega))
        exact h wt ((f0y.st fz (by omega)).st ft (by omega))
end
end Go.Sh
end

section
namespace Go.Sh
open Go Go.Fw Go.Proofs
set_option maxRecDepth 100000
set_option linter.unusedVariables false
section
variable {w : World} {b r t : Nat} {sl : Nat → SL} {K : Value → World → Prop}
set_option maxHeartbeats 2000000 in
theorem Do18g_c (hS : SlAt w b sl t) {sr : Nat → SL} {tr : Nat} (hR : RsAt w r sr tr) (hne : b ≠ r) (ht : t < 1000000000) (htr : tr < 1000000000) {x : CL} (hx : x.key.length = 16)
    (hk : ∀ w' sl' t' sr' tr' bb, Fr [b, r] w w' → SlAt w' b sl' t' → RsAt w' r sr' tr' → t' ≤ t + 1 → K (.bool bb) w') : callF Tryz.prog F_law18_Do #[.pointer (some ⟨b, 0, none⟩), .pointer (some ⟨r, 0, none⟩), .agg ⟨x.v⟩] w K := by
  apply law18_Do_call
  unfold law18_Do
  have hbl := hS.lt; have hrl := hR.lt
  have hvl := CL.v_len hx
  refine New.intro fun w1 f1 hB1 s1 => ?_
  obtain ⟨k5, hk5⟩ : ∃ k, k = w.heap.size := ⟨_, rfl⟩
  rw [← hk5] at hB1 ⊢
  have hsz : (⟨x.v⟩ : Array Value).size = 21 := hvl
  have hc : ∀ j v, x.v[j]? = some v → (⟨x.v⟩ : Array Value).getD j undef = v := fun j v hj => by
    rw [Array.getD_eq_getD_getElem?, List.getElem?_toArray, hj]; rfl
  have hB : Blk w1 k5 21 (fun i => (⟨x.v⟩ : Array Value).getD i undef) := by rw [hsz] at hB1; exact hB1
  have ld0 : ∀ {w' : World}, Blk w' k5 21 (fun i => (⟨x.v⟩ : Array Value).getD i undef) → Ld Tryz.prog T_int (.pointer (some ((⟨k5, 0, none⟩ : Addr).add 0))) w' (.int .i64 x.op) := fun {w'} hB => Ld.blk (by kernel_rfl) hB (by omega) (hc 0 _ rfl)
  have ld1 : ∀ {w' : World}, Blk w' k5 21 (fun i => (⟨x.v⟩ : Array Value).getD i undef) → Ld Tryz.prog T_int (.pointer (some ((⟨k5, 0, none⟩ : Addr).add 1))) w' (.int .i64 x.at_) := fun {w'} hB => by rw [add_mk]; exact Ld.blk (by kernel_rfl) hB (by omega) (hc 1 _ rfl)
  have ld2 : ∀ {w' : World}, Blk w' k5 21 (fun i => (⟨x.v⟩ : Array Value).getD i undef) → Ld Tryz.prog T_mode_Config (.pointer (some ((⟨k5, 0, none⟩ : Addr).add 2))) w' (.agg ⟨cfgV x.m x.s x.n x.key⟩) := fun {w'} hB => by
    rw [add_mk]
    exact LdA (m := 19) (by kernel_rfl) (by kernel_rfl) hB (o := 0 + 2) (by omega) _ (by rw [cfgV_len]; omega) fun j v hj => by rw [show 0 + 2 + j = j + 2 by omega]; exact hc (j + 2) v hj
  have keep : ∀ {w' : World}, Fr [b, r] w1 w' → Blk w' k5 21 (fun i => (⟨x.v⟩ : Array Value).getD i undef) := fun {w'} f => hB.fr f (by simp; omega)
  have hS1 := hS.fr0 f1; have hR1 := hR.fr0 f1
  refine ⟨_, ld0 hB, cond_intro (fun _ => ?_) fun _ => cond_intro (fun _ => ?_) fun _ => hk w1 sl t sr tr true (f1.mono (by simp)) hS1 hR1 (by omega)⟩
  · refine ⟨fun w' => Fr [b, r] w1 w', Drw.intro fun w2 f2 s2 => ?_⟩
    have f2' : Fr [b, r] w1 w2 := f2.mono (by simp)
    refine ⟨_, ⟨f2', fun w' hw' => ld1 (keep hw')⟩, _, ⟨f2', fun w' hw' => ld2 (keep hw')⟩, _, ⟨f2', fun w' hw' => ld1 (keep hw')⟩, _, ⟨f2', fun w' hw' => ld2 (keep hw')⟩, ?_⟩
    refine slotInstall_c (hS1.fr0 f2) ht hx fun w3 sl3 t3 f3 hS3 h3n h3z => ⟨_, rfl, ?_⟩
    have f13 : Fr [b, r] w1 w3 := f2'.trans f3 (fun y hy => .inl (by simp at hy; simp [hy]))
    refine ⟨.inr f13, law16Of_c hx fun w4 f4 => ⟨_, rfl, .inr (f13.then f4), ?_⟩⟩
    have hR4 := ((hR1.fr0 f2).fr f3 (by simp; exact fun hh => hne hh.symm)).fr0 f4
    refine refSlotInstall_c hR4 htr hx fun w5 sl5 t5 f5 hR5 h5n h5z => ⟨_, rfl, ?_⟩
    have hS5 := (hS3.fr0 f4).fr f5 (by simp; exact hne)
    have f05 : Fr [b, r] w w5 := (f1.mono (by simp)).trans ((f13.then f4).trans f5 (fun y hy => .inl (by simp at hy; simp [hy]))) (fun y hy => .inl hy)
    have ht3 : t3 ≤ t + 1 := by
      by_cases he : insE sl x.at_ x.m x.s x.n x.key = 0
      · have := (h3z he).2; omega
      · have := (h3n he).2; omega
    exact hk w5 _ _ _ _ _ f05 hS5 hR5 ht3
  · refine ⟨fun w' => Fr [b, r] w1 w', Drw.intro fun w2 f2 s2 => ?_⟩
    have f2' : Fr [b, r] w1 w2 := f2.mono (by simp)
    refine ⟨_, ⟨f2', fun w' hw' => ld1 (keep hw')⟩, _, ⟨f2', fun w' hw' => ld1 (keep hw')⟩, ?_⟩
    refine slotRetire_c (hS1.fr0 f2) fun w3 sl3 f3 hS3 h3n h3z => ⟨_, rfl, ?_⟩
    have f13 : Fr [b, r] w1 w3 := f2'.trans f3 (fun y hy => .inl (by simp at hy; simp [hy]))
    refine ⟨.inr f13, ?_⟩
    have hR3 := (hR1.fr0 f2).fr f3 (by simp; exact fun hh => hne hh.symm)
    refine refSlotRetire_c hR3 fun w5 sl5 f5 hR5 h5n h5z => ⟨_, rfl, ?_⟩
    have hS5 := hS3.fr f5 (by simp; exact hne)
    have f05 : Fr [b, r] w w5 := (f1.mono (by simp)).trans (f13.trans f5 (fun y hy => .inl (by simp at hy; simp [hy]))) (fun y hy => .inl hy)
    exact hk w5 _ _ _ _ _ f05 hS5 hR5 (by omega)
theorem rsNew {K : Nat → World → Prop} (h : ∀ w', Fr [] w w' → RsAt w' w.heap.size (fun _ => sl0) 0 → w'.heap.size = w.heap.size + 1 → K w.heap.size w') :
    New ⟨sl0.c ++ sl0.c ++ sl0.c ++ [.int .i64 0, .int .i64 0, .int .i64 0, .int .i64 0]⟩ T_ref18_Slots w K := by
  refine New.intro fun w1 f1 hB1 s1 => h w1 f1 ⟨_, hB1, fun i hi j v hj => ?_, fun i hi => ?_, by rfl, fun i hi => sl0_ok 0⟩ s1
  · have hj : sl0.c[j]? = some v := hj
    have hlt := (List.getElem?_eq_some_iff.1 hj).1
    have hl : sl0.c.length = 19 := (sl0_ok 0).c_len
    show Array.getD ⟨sl0.c ++ sl0.c ++ sl0.c ++ [.int .i64 0, .int .i64 0, .int .i64 0, .int .i64 0]⟩ (i * 19 + j) undef = v
    rw [Array.getD_eq_getD_getElem?, List.getElem?_toArray]
    have e : (sl0.c ++ sl0.c ++ sl0.c ++ [.int .i64 0, .int .i64 0, .int .i64 0, .int .i64 0])[i * 19 + j]? = some v := by
      match i, hi with
      | 0, _ => rw [List.getElem?_append_left (by simp; omega), List.getElem?_append_left (by simp; omega), List.getElem?_append_left (by omega)]; rw [Nat.zero_mul, Nat.zero_add]; exact hj
      | 1, _ => rw [List.getElem?_append_left (by simp; omega), List.getElem?_append_left (by simp; omega), List.getElem?_append_right (by omega), hl, show 1 * 19 + j - 19 = j by omega]; exact hj
      | 2, _ => rw [List.getElem?_append_left (by simp; omega), List.getElem?_append_right (by simp; omega), List.length_append, hl, show 2 * 19 + j - (19 + 19) = j by omega]; exact hj
    rw [e]; rfl
  · match i, hi with
    | 0, _ => rfl
    | 1, _ => rfl
    | 2, _ => rfl
theorem call_of {w : World} {cs : Array Value} (h : DecL w [.int .i64, .int .i64, .int .i64, .int .i64, .int .i64, .arr8 16] cs.toList) : ∃ x : CL, x.key.length = 16 ∧ cs = ⟨x.v⟩ := by
  obtain ⟨a1, r1, e1, ⟨op, rfl, _⟩, a2, r2, e2, ⟨at_, rfl, _⟩, a3, r3, e3, ⟨m, rfl, _⟩, a4, r4, e4, ⟨s, rfl, _⟩, a5, r5, e5, ⟨n, rfl, _⟩, a6, r6, e6, ⟨key, hk, rfl⟩, rfl⟩ := h
  refine ⟨⟨op, at_, m, s, n, key⟩, hk, ?_⟩
  apply Array.ext'
  rw [e1, e2, e3, e4, e5, e6]
  simp [CL.v, cfgV]
theorem callAt {p0 : Option Addr} {l0 c0 i : Nat} {cs : List CL} (h0 : Row w p0 (clcells cs)) (hok : CLok cs) (hl0 : l0 = cs.length) (hi : i < l0) :
    ∃ x a, cs[i]? = some x ∧ x.key.length = 16 ∧ IxA Tryz.prog T_S_law18_Call (.slice p0 l0 c0) (.int .i64 (i : Int)) a ∧ Ld Tryz.prog T_law18_Call (.pointer (some a)) w (.agg ⟨x.v⟩) := by
  obtain ⟨x, hx⟩ : ∃ x, cs[i]? = some x := ⟨_, List.getElem?_eq_getElem (by omega)⟩
  have hxk : x.key.length = 16 := hok x (List.mem_of_getElem? hx)
  obtain ⟨eb, eo, ha, _, hcell⟩ := h0.cellAt (P := Tryz.prog) (t := T_S_law18_Call) (s := 21) (by kernel_rfl) (k := .i64) (l := l0) (c := c0) (i := i) (by rw [clcells_len hok, hl0]) (by omega) (by omega)
  have hvl := CL.v_len hxk
  refine ⟨x, _, hx, hxk, ha, Ld.agg (n := 21) (cs := x.v) (by kernel_rfl) (by kernel_rfl) hvl fun j v hj => ?_⟩
  have hjl := (List.getElem?_eq_some_iff.1 hj).1
  rw [add_mk]
  exact hcell j v (by omega) (clcells_get hok i x j v hx hj)
set_option maxHeartbeats 2000000 in
theorem SlotCalls_c {p0 : Option Addr} {l0 c0 : Nat} {cs : List CL} (h0 : Row w p0 (clcells cs)) (hok : CLok cs) (hl0 : l0 = cs.length)
    (h : ∀ w', Fr [] w w' → K (.bool true) w') : callF Tryz.prog F_law18_SlotCalls #[.slice p0 l0 c0] w K := by
  apply law18_SlotCalls_call
  unfold law18_SlotCalls
  refine alive18_c fun w1 f1 => ⟨_, rfl, cond_f ?_⟩
  refine cond_d (fun _ => h w1 f1) fun g0 => ?_
  refine slotNew_c fun b w2 f2 hbn hS2 => ⟨_, rfl, newAs (cs' := ⟨sl0.c ++ sl0.c ++ sl0.c ++ [.int .i64 0, .int .i64 0, .int .i64 0, .int .i64 0]⟩) (by kernel_rfl) (rsNew fun w3 f3 hR3 s3 => ?_)⟩
  obtain ⟨r, hr⟩ : ∃ r, r = w2.heap.size := ⟨_, rfl⟩
  rw [← hr] at hR3 ⊢
  refine ⟨_, _, ptrNil (by kernel_rfl), cond_f ?_⟩
  have f03 := (f1.then f2).then f3
  have hbl := hS2.lt
  have n1 := f1.size; have n2 := f2.size
  refine LoopS.ind (fun k us w' => ∃ (i : Nat) (sl : Nat → SL) (t : Nat), i + k = l0 ∧ us = [.slice p0 l0 c0, .bool false, .pointer (some ⟨b, 0, none⟩), .pointer (some ⟨r, 0, none⟩), .int .i64 (i : Int)] ∧ Fr [] w w' ∧ SlAt w' b sl t ∧ RsAt w' r sl t ∧ t ≤ i) l0
    ⟨0, _, 0, by omega, rfl, f03, hS2.fr0 f3, hR3, Nat.le_refl _⟩ ?_
  rintro k us rr w4 I μ hgo ⟨i, sl, t, hi, rfl, f4, hS4, hR4, hti⟩
  refine ⟨_, _, _, _, _, _, _, rfl, cond_d (fun g2 => ?_) fun _ => h w4 f4⟩
  obtain ⟨x, a, hx, hxk, ha, hld⟩ := callAt (c0 := c0) (h0.fr0 f4) hok hl0 (show i < l0 by omega)
  refine ⟨_, ha, _, hld, ?_⟩
  refine Do18_c hS4 hR4 (by omega) (by omega) hxk fun w5 sl5 t5 f5 hS5 hR5 ht5 => ⟨_, rfl, cond_f ?_⟩
  have f05 : Fr [] w w5 := f4.trans f5 fun y hy => .inr (by simp at hy; omega)
  refine Agree18_c hS5 hR5 fun w6 f6 => ⟨_, rfl, cond_f ?_⟩
  have ew : IntKind.i64.wrap ((i : Int) + 1) = ((i + 1 : Nat) : Int) := by rw [wrap64 (by omega) (by omega)]; omega
  rw [ew]
  exact hgo _ _ _ (k - 1) (by omega) ⟨i + 1, sl5, t5, by omega, rfl, f05.then f6, hS5.fr0 f6, hR5.fr0 f6, by omega⟩
theorem showR_len (sl : Nat → SL) (id : List UInt8) : (showR sl id).a.length + (showR sl id).b.length ≤ id.length := by
  unfold showR
  split
  · exact Nat.zero_le _
  · split
    · exact bk_len2 _ _ _ _ _
    · exact Nat.zero_le _
theorem shortR_len (sl : Nat → SL) (id : List UInt8) : (shortR sl id).a.length + (shortR sl id).b.length ≤ id.length := by
  unfold shortR
  split
  · exact Nat.zero_le _
  · split
    · split
      · exact Nat.zero_le _
      · refine Nat.le_trans (bk_len2 _ _ _ _ _) ?_
        rw [List.length_take, List.length_drop]; omega
    · exact Nat.zero_le _
theorem PAt.ldPR {w : World} {b : Nat} {pt : Int} {q1 q2 : Option Addr} {l1 d1 l2 d2 : Nat} (h : PAt w b (partsL pt q1 l1 d1 q2 l2 d2)) : Ld Tryz.prog T_ref17_Parts (.pointer (some ⟨b, 0, none⟩)) w (.agg #[.int .i64 pt, .slice q1 l1 d1, .slice q2 l2 d2]) := by
  obtain ⟨f, hB, hc⟩ := h
  exact LdA (m := 3) (by kernel_rfl) (by kernel_rfl) hB (o := 0) (by omega) (partsL pt q1 l1 d1 q2 l2 d2) rfl (fun j v hj => by rw [Nat.zero_add]; exact hc j v hj)
theorem newPR {pt : Int} {q1 q2 : Option Addr} {l1 d1 l2 d2 : Nat} {K : Nat → World → Prop} (h : ∀ w', Fr [] w w' → PAt w' w.heap.size (partsL pt q1 l1 d1 q2 l2 d2) → K w.heap.size w') :
    ∃ z, Pu Tryz.prog (zeroValue T_ref17_Parts) z ∧ New z.cells T_ref17_Parts w fun k w2 => ∃ w3, Sto Tryz.prog T_ref17_Parts (.pointer (some ⟨k, 0, none⟩)) (.agg #[.int .i64 pt, .slice q1 l1 d1, .slice q2 l2 d2]) w2 w3 ∧ K k w3 := by
  refine newZ (s := 3) (by kernel_rfl) fun w2 g2 f2 hB2 s2 => ?_
  exact stoPR hB2 (cs := partsL pt q1 l1 d1 q2 l2 d2) rfl (parts_one _ _ _ _ _ _ _) fun w3 f3 hP hLd => h w3 (f2.st f3 (Nat.le_refl _)) hP
set_option maxHeartbeats 4000000 in
theorem SlotShows_c {p0 p1 : Option Addr} {l0 c0 l1 c1 : Nat} {cs : List CL} {id : List UInt8} {last : CL} (h0 : Row w p0 (clcells cs)) (hok : CLok cs) (hl0 : l0 = cs.length) (h1 : Row w p1 (id.map vb)) (hl1 : l1 = id.length) (hc1 : l1 ≤ c1) (hlast : last.key.length = 16)
    (h : ∀ w', Fr [] w w' → K (.bool true) w') : callF Tryz.prog F_law18_SlotShows #[.slice p0 l0 c0, .slice p1 l1 c1, .agg ⟨last.v⟩] w K := by
  apply law18_SlotShows_call
  unfold law18_SlotShows
  have hvl := CL.v_len hlast
  refine New.intro fun wa fa hBa sa => ?_
  obtain ⟨k5, hk5⟩ : ∃ k, k = w.heap.size := ⟨_, rfl⟩
  rw [← hk5] at hBa ⊢
  have hsz : (⟨last.v⟩ : Array Value).size = 21 := hvl
  have hc : ∀ j v, last.v[j]? = some v → (⟨last.v⟩ : Array Value).getD j undef = v := fun j v hj => by
    rw [Array.getD_eq_getD_getElem?, List.getElem?_toArray, hj]; rfl
  have hBa : Blk wa k5 21 (fun i => (⟨last.v⟩ : Array Value).getD i undef) := by rw [hsz] at hBa; exact hBa
  refine alive18_c fun w1 f1 => ⟨_, rfl, cond_f ?_⟩
  have f01 := fa.then f1
  refine cond_d (fun _ => h w1 f01) fun g0 => cond_d (fun _ => h w1 f01) fun g1 => ?_
  unfold law18_SlotShows_j2
  refine slotNew_c fun b w2 f2 hbn hS2 => ⟨_, rfl, newAs (cs' := ⟨sl0.c ++ sl0.c ++ sl0.c ++ [.int .i64 0, .int .i64 0, .int .i64 0, .int .i64 0]⟩) (by kernel_rfl) (rsNew fun w3 f3 hR3 s3 => ?_)⟩
  obtain ⟨r, hr⟩ : ∃ r, r = w2.heap.size := ⟨_, rfl⟩
  rw [← hr] at hR3 ⊢
  refine ⟨_, _, ptrNil (by kernel_rfl), cond_f ?_⟩
  have f03 := (f01.then f2).then f3
  have hbl := hS2.lt
  have n1 := f01.size; have n2 := f2.size; have n1' := f1.size
  have hkb : k5 < w1.heap.size := by omega
  have hB3 := (hBa.fr0 f1).fr0 (f2.then f3)
  refine LoopS.ind (fun k us w' => ∃ (i : Nat) (sl : Nat → SL) (t : Nat), i + k = l0 ∧ us = [.slice p0 l0 c0, .slice p1 l1 c1, .pointer (some ⟨k5, 0, none⟩), .bool false, .pointer (some ⟨b, 0, none⟩), .pointer (some ⟨r, 0, none⟩), .int .i64 (i : Int)] ∧ Fr [] w w' ∧ Fr [b, r] w3 w' ∧ SlAt w' b sl t ∧ RsAt w' r sl t ∧ t ≤ i) l0
    ⟨0, _, 0, by omega, rfl, f03, Fr.refl _ _, hS2.fr0 f3, hR3, Nat.le_refl _⟩ ?_
  rintro k us rr w4 I μ hgo ⟨i, sl, t, hi, rfl, f4, f34, hS4, hR4, hti⟩
  refine ⟨_, _, _, _, _, _, _, _, _, _, _, rfl, cond_d (fun g2 => ?_) fun _ => ?_⟩
  · obtain ⟨x, a, hx, hxk, ha, hld⟩ := callAt (c0 := c0) (h0.fr0 f4) hok hl0 (show i < l0 by omega)
    refine ⟨_, ha, _, hld, ?_⟩
    refine Do18_c hS4 hR4 (by omega) (by omega) hxk fun w5 sl5 t5 f5 hS5 hR5 ht5 => ⟨_, rfl, ?_⟩
    have f05 : Fr [] w w5 := f4.trans f5 fun y hy => .inr (by simp at hy; omega)
    have ew : IntKind.i64.wrap ((i : Int) + 1) = ((i + 1 : Nat) : Int) := by rw [wrap64 (by omega) (by omega)]; omega
    rw [ew]
    exact hgo _ _ _ (k - 1) (by omega) ⟨i + 1, sl5, t5, by omega, rfl, f05, f34.trans f5 (fun y hy => .inl hy), hS5, hR5, by omega⟩
  · unfold law18_SlotShows_j1
    refine slotClone_c hS4 fun c w5 f5 hcn hSc => ⟨_, rfl, _, _, ptrNil (by kernel_rfl), cond_f ?_⟩
    refine newAs (cs' := ⟨sl0.c ++ sl0.c ++ sl0.c ++ [.int .i64 0, .int .i64 0, .int .i64 0, .int .i64 0]⟩) (by kernel_rfl) (rsNew fun w6 f6 hR6 s6 => ?_)
    obtain ⟨k54, hk54⟩ : ∃ k, k = w5.heap.size := ⟨_, rfl⟩
    rw [← hk54] at hR6 ⊢
    have hcl := hSc.lt
    have f46 := f5.then f6
    have hB6 := (hB3.fr f34 (by simp; omega)).fr0 f46
    refine ⟨_, LdA (m := 21) (by kernel_rfl) (by kernel_rfl) hB6 (o := 0) (by omega) last.v hvl (fun j v hj => by rw [Nat.zero_add]; exact hc j v hj), ?_⟩
    refine Do18g_c (hSc.fr0 f6) hR6 (by omega) (by omega) (by omega) hlast fun w7 sl7 t7 sr7 tr7 bb f7 _ _ _ => ⟨_, rfl, ?_⟩
    have f47 : Fr [] w4 w7 := f46.trans f7 fun y hy => .inr (by have := f5.size; simp at hy; omega)
    have f07 := f4.then f47
    refine CopyOB_c (h1.fr0 f07) hl1 (by omega) fun po co w8 f8 hO => ⟨_, _, _, rfl, ?_⟩
    have f48 := f47.then f8
    obtain ⟨A, hA⟩ : ∃ A, A = showR sl id := ⟨_, rfl⟩
    obtain ⟨B, hB⟩ : ∃ B, B = shortR sl id := ⟨_, rfl⟩
    have lA := showR_len sl id; have lB := shortR_len sl id
    rw [← hA] at lA; rw [← hB] at lB
    refine slotShow_c (hS4.fr0 f48) hO.row hO.2.1 hO.cap (by omega) ?_
    rw [← hA]
    intro qa da qb db w9 f9 hA1 hA2
    refine ⟨_, _, _, _, _, _, _, _, rfl, newP (pt := A.p) (l1 := A.a.length) (l2 := A.b.length) fun w10 f10 hP10 => ?_⟩
    obtain ⟨k12, hk12⟩ : ∃ k, k = w9.heap.size := ⟨_, rfl⟩
    rw [← hk12] at hP10 ⊢
    have f410 := (f48.then f9).then f10
    refine refSlotShow_c (hR4.fr0 f410) (h1.fr0 (f4.then f410)) hl1 hc1 (by omega) ?_
    rw [← hA]
    intro qc dc qd dd w11 f11 hC1 hC1c hC2 hC2c _ _
    refine ⟨_, _, _, _, _, _, _, _, rfl, newPR (pt := A.p) (l1 := A.a.length) (l2 := A.b.length) fun w12 f12 hP12 => ?_⟩
    obtain ⟨k14, hk14⟩ : ∃ k, k = w11.heap.size := ⟨_, rfl⟩
    rw [← hk14] at hP12 ⊢
    have f1012 := f11.then f12
    have f412 := f410.then f1012
    have hO12 := (hO.fr0 (f9.then f10)).fr0 f1012
    refine slotShort_c (hS4.fr0 f412) hO12.row hO.2.1 hO.cap (by omega) ?_
    rw [← hB]
    intro qe de qf df w13 f13 hE1 hE2
    refine ⟨_, _, _, _, _, _, _, _, rfl, newP (pt := B.p) (l1 := B.a.length) (l2 := B.b.length) fun w14 f14 hP14 => ?_⟩
    obtain ⟨k16, hk16⟩ : ∃ k, k = w13.heap.size := ⟨_, rfl⟩
    rw [← hk16] at hP14 ⊢
    have f1214 := f13.then f14
    have f414 := f412.then f1214
    refine refSlotShort_c (hR4.fr0 f414) (h1.fr0 (f4.then f414)) hl1 hc1 (by omega) ?_
    rw [← hB]
    intro qg dg qh dh w15 f15 hG1 hG1c hG2 hG2c _ _
    refine ⟨_, _, _, _, _, _, _, _, rfl, newPR (pt := B.p) (l1 := B.a.length) (l2 := B.b.length) fun w16 f16 hP16 => ?_⟩
    obtain ⟨k18, hk18⟩ : ∃ k, k = w15.heap.size := ⟨_, rfl⟩
    rw [← hk18] at hP16 ⊢
    have f1416 := f15.then f16
    have f1016 := (f1012.then f1214).then f1416
    have f1216 := f1214.then f1416
    refine cond_eq (fun _ => ?_) (fun hne => absurd rfl hne)
    refine ⟨_, _, _, _, _, _, _, (hP10.fr0 f1016).ldP, _, _, _, _, _, _, _, (hP12.fr0 f1216).ldPR, ?_⟩
    refine Same17_c ((hA1.fr0 f10).fr0 f1016).row rfl ((hA2.fr0 f10).fr0 f1016).row rfl (hC1.fr0 (f12.then f1216)) rfl (hC2.fr0 (f12.then f1216)) rfl (by omega) (by omega) fun w17 f17 => ⟨_, rfl, ?_⟩
    rw [decide_eq_true ⟨rfl, rfl, rfl⟩]
    refine cond_t (cond_eq (fun _ => ?_) (fun hne => absurd rfl hne))
    refine ⟨_, _, _, _, _, _, _, (hP14.fr0 (f1416.then f17)).ldP, _, _, _, _, _, _, _, (hP16.fr0 f17).ldPR, ?_⟩
    refine Same17_c (hE1.fr0 (f14.then (f1416.then f17))).row rfl (hE2.fr0 (f14.then (f1416.then f17))).row rfl (hG1.fr0 (f16.then f17)) rfl (hG2.fr0 (f16.then f17)) rfl (by omega) (by omega) fun w18 f18 => ⟨_, rfl, ?_⟩
    rw [decide_eq_true ⟨rfl, rfl, rfl⟩]
    have f1618 := f17.then f18
    have f418 := (f414.then f1416).then f1618
    refine cond_t (SameBytes_c (hO12.fr0 (f1216.then f1618)).row hO.2.1 (h1.fr0 (f4.then f418)) hl1 (by omega) fun w19 f19 => ⟨_, rfl, ?_⟩)
    rw [decide_eq_true rfl]
    have f419 := f418.then f19
    refine cond_t (Agree18_c (hS4.fr0 f419) (hR4.fr0 f419) fun w20 f20 => ⟨_, rfl, ?_⟩)
    exact h w20 ((f4.then f419).then f20)
theorem mk_back {m s n : Int} {key : List UInt8} {point : Nat} {sid nonce : List UInt8} {A : List UInt8} (hk : key.length = 16) (ho : okC m s n key) (hm : okMk m s n key (point : Int) sid.length nonce.length) (hA : A = headB point (sid.length + nonce.length) :: turnC false m key (sid ++ nonce)) :
    (A.length : Int) = 1 + (s + n) ∧ fl A 0 = headB point (sid.length + nonce.length) ∧ (fl A 0).toNat / 64 = point ∧ bkE m s n key A = 0 ∧ bkP m s n key A = (point : Int) ∧ bkS m s n key A = sid ∧ bkN m s n key A = nonce := by
  have hm' := hm
  have ho' := ho
  unfold okMk at hm
  unfold okC at ho
  have hSN : ((sid ++ nonce).length : Int) = s + n := by rw [List.length_append]; omega
  have htl := turnC_len false ho' hSN
  have hAl : A.length = sid.length + nonce.length + 1 := by rw [hA, List.length_cons, htl, List.length_append]
  have hA0 : fl A 0 = headB point (sid.length + nonce.length) := by rw [hA]; rfl
  have hAd : A.drop 1 = turnC false m key (sid ++ nonce) := by rw [hA]; rfl
  have e64 := headB_point (p := point) (n := sid.length + nonce.length) (by omega) (by omega)
  have e65 := headB_told (p := point) (n := sid.length + nonce.length) (by omega) (by omega)
  have bk : okBk m s n key A := ⟨ho', by omega, by rw [hA0, e65]; omega⟩
  have tk : (sid ++ nonce).take s.toNat = sid ∧ (sid ++ nonce).drop s.toNat = nonce := by
    have : s.toNat = sid.length := by omega
    rw [this]; simp
  refine ⟨by omega, hA0, by rw [hA0, e64], ?_, ?_, ?_, ?_⟩
  · unfold bkE; rw [if_pos bk]
  · unfold bkP; rw [if_pos bk, hA0, e64]
  · unfold bkS; rw [if_pos bk, hAd, turn_back ho' hk hSN, tk.1]
  · unfold bkN; rw [if_pos bk, hAd, turn_back ho' hk hSN, tk.2]
theorem occ_okS {w : World} {b t : Nat} {sl : Nat → SL} (hS : SlAt w b sl t) {n : Int} (ho : occ sl n) : (ofS sl n).key.length = 16 := (ofS_ok hS n).1
theorem show_mk {w : World} {b t : Nat} {sl : Nat → SL} (hS : SlAt w b sl t) {point : Nat} (ho : occ sl (point : Int)) {x : SL} (hx : x = ofS sl (point : Int)) {sid nonce A : List UInt8} (hm : okMk x.m x.s x.n x.key (point : Int) sid.length nonce.length)
    (hA : A = headB point (sid.length + nonce.length) :: turnC false x.m x.key (sid ++ nonce)) : showR sl A = ⟨0, (point : Int), sid, nonce⟩ ∧ ∀ (first : UInt8) (rest : List UInt8), shortR sl (first :: (A ++ rest)) = ⟨0, (point : Int), sid, nonce⟩ := by
  have hc := occ_ok hS ho
  have hl := occ_okS hS ho
  rw [← hx] at hc hl
  obtain ⟨e1, e2, e3, e4, e5, e6, e7⟩ := mk_back hl hc hm hA
  have hc' := hc
  unfold okC at hc
  have hp : ptO A = point := e3
  have hbk : bkR x A = ⟨0, (point : Int), sid, nonce⟩ := by unfold bkR; rw [e4, e5, e6, e7]
  refine ⟨?_, fun first rest => ?_⟩
  · unfold showR
    rw [if_neg (by omega), hp, if_pos ho, ← hx, hbk]
  · have hd : (first :: (A ++ rest)).drop 1 = A ++ rest := rfl
    obtain ⟨R, hR⟩ : ∃ R, R = first :: (A ++ rest) := ⟨_, rfl⟩
    rw [← hR] at hd ⊢
    have hlR : R.length = 1 + A.length + rest.length := by rw [hR, List.length_cons, List.length_append]; omega
    have h0 : fl (A ++ rest) 0 = fl A 0 := by unfold fl; rw [List.getD_eq_getElem?_getD, List.getElem?_append_left (by omega), List.getD_eq_getElem?_getD]
    have hp2 : ptO (A ++ rest) = point := by unfold ptO; rw [h0]; exact e3
    have hsz : x.size = A.length := by unfold SL.size; omega
    unfold shortR
    rw [if_neg (by omega), hd, hp2, if_pos ho, ← hx, hsz, if_neg (by rw [List.length_append]; omega), List.take_left, hbk]
set_option maxHeartbeats 4000000 in
theorem SlotIds_c {p0 p2 p3 p4 : Option Addr} {l0 c0 l2 c2 l3 c3 l4 c4 : Nat} {cs : List CL} {point : Int} {sid nonce rest : List UInt8} {first : UInt8} (h0 : Row w p0 (clcells cs)) (hok : CLok cs) (hl0 : l0 = cs.length) (h2 : Row w p2 (sid.map vb)) (hl2 : l2 = sid.length) (hc2 : l2 ≤ c2) (h3 : Row w p3 (nonce.map vb)) (hl3 : l3 = nonce.length) (hc3 : l3 ≤ c3) (h4 : Row w p4 (rest.map vb)) (hl4 : l4 = rest.length) (hc4 : l4 ≤ c4)
    (h : ∀ w', Fr [] w w' → K (.bool true) w') : callF Tryz.prog F_law18_SlotIds #[.slice p0 l0 c0, .int .i64 point, .slice p2 l2 c2, .slice p3 l3 c3, .slice p4 l4 c4, .int .u8 (first.toNat : Int)] w K := by
  apply law18_SlotIds_call
  unfold law18_SlotIds
  refine alive18_c fun w1 f1 => ⟨_, rfl, cond_f ?_⟩
  refine cond_d (fun _ => h w1 f1) fun g0 => cond_d (fun _ => h w1 f1) fun g4 => cond_d (fun _ => h w1 f1) fun g2 => cond_d (fun _ => h w1 f1) fun g3 => ?_
  unfold law18_SlotIds_j2
  refine slotNew_c fun b w2 f2 hbn hS2 => ⟨_, rfl, _, _, ptrNil (by kernel_rfl), cond_f ?_⟩
  have f02 := f1.then f2
  have n1 := f1.size
  refine LoopS.ind (fun k us w' => ∃ (i : Nat) (sl : Nat → SL) (t : Nat), i + k = l0 ∧ us = [.slice p0 l0 c0, .int .i64 point, .slice p2 l2 c2, .slice p3 l3 c3, .slice p4 l4 c4, .int .u8 (first.toNat : Int), .bool false, .pointer (some ⟨b, 0, none⟩), .int .i64 (i : Int)] ∧ Fr [] w w' ∧ SlAt w' b sl t ∧ t ≤ i) l0
    ⟨0, _, 0, by omega, rfl, f02, hS2, Nat.le_refl _⟩ ?_
  rintro k us rr w4 I μ hgo ⟨i, sl, t, hi, rfl, f4, hS4, hti⟩
  have hbl := hS4.lt
  refine ⟨_, _, _, _, _, _, _, _, _, _, _, _, _, _, _, _, _, rfl, cond_d (fun g5 => ?_) fun _ => ?_⟩
  · refine newAs (cs' := ⟨sl0.c ++ sl0.c ++ sl0.c ++ [.int .i64 0, .int .i64 0, .int .i64 0, .int .i64 0]⟩) (by kernel_rfl) (rsNew fun w5 f5 hR5 s5 => ?_)
    obtain ⟨r, hr⟩ : ∃ r, r = w4.heap.size := ⟨_, rfl⟩
    rw [← hr] at hR5 ⊢
    obtain ⟨x, a, hx, hxk, ha, hld⟩ := callAt (c0 := c0) (h0.fr0 (f4.then f5)) hok hl0 (show i < l0 by omega)
    refine ⟨_, ha, _, hld, ?_⟩
    refine Do18g_c (hS4.fr0 f5) hR5 (by omega) (by omega) (by omega) hxk fun w6 sl6 t6 _ _ bb f6 hS6 _ ht6 => ⟨_, rfl, ?_⟩
    have n04 := f4.size
    have f06 : Fr [] w w6 := (f4.then f5).trans f6 fun y hy => .inr (by simp at hy; omega)
    have ew : IntKind.i64.wrap ((i : Int) + 1) = ((i + 1 : Nat) : Int) := by rw [wrap64 (by omega) (by omega)]; omega
    rw [ew]
    exact hgo _ _ _ (k - 1) (by omega) ⟨i + 1, sl6, t6, by omega, rfl, f06, hS6, by omega⟩
  · unfold law18_SlotIds_j1
    refine slotOf_c hS4 fun w5 f5 => ⟨_, _, rfl, ?_⟩
    have hok5 := ofS_ok hS4 point
    have hsh := fun (pt : Nat) (hp : point = (pt : Int)) => show_mk (point := pt) hS4
    have hocc := fun ho => occ_ok hS4 (n := point) ho
    have hno := fun ho => ofS_none hS4 (n := point) ho
    obtain ⟨x, hx⟩ : ∃ x, x = ofS sl point := ⟨_, rfl⟩
    rw [← hx] at hok5 hocc hno ⊢
    refine newZ (s := 19) (by kernel_rfl) fun w6 g6 f6 hB6 s6 => ?_
    refine stoCfg (m := x.m) (s := x.s) (n := x.n) (key := x.key) hB6 hok5.1 fun w7 f7 hC7 s7 => ?_
    have f57 : Fr [] w5 w7 := f6.st f7 (Nat.le_refl _)
    have f47 := f5.then f57
    have f07 := f4.then f47
    by_cases ho : occ sl point
    · rw [decide_eq_true ho]
      have hcx := hocc ho
      refine cond_f ⟨_, hC7.ld hok5.1, makeAny_c hok5.1 (h2.fr0 f07) hl2 hc2 (h3.fr0 f07) hl3 hc3 fun q d w8 f8 hO => ⟨_, _, _, _, rfl, ?_⟩⟩
      by_cases hm : okMk x.m x.s x.n x.key point sid.length nonce.length
      · have eE : mkE x.m x.s x.n x.key point sid nonce = 0 := by unfold mkE; rw [if_pos hcx, if_pos hm]
        have hr := ho.1
        obtain ⟨pt, rfl⟩ := Int.eq_ofNat_of_zero_le (show 0 ≤ point by omega)
        have eA : mkOut x.m x.s x.n x.key (pt : Int) sid nonce = headB pt (sid.length + nonce.length) :: turnC false x.m x.key (sid ++ nonce) := by unfold mkOut; rw [if_pos ⟨hcx, hm⟩, Int.toNat_natCast]
        obtain ⟨A, hA⟩ : ∃ A, A = mkOut x.m x.s x.n x.key (pt : Int) sid nonce := ⟨_, rfl⟩
        rw [← hA] at eA hO ⊢
        rw [eE]
        obtain ⟨hs1, hs2⟩ := hsh pt rfl ho hx hm eA
        have hAl := (mk_back hok5.1 hcx hm eA).1
        have hcx' := hcx
        unfold okC at hcx'
        have f48 := f47.then f8
        refine cond_f (slotShow_c (hS4.fr0 f48) hO.row hO.2.1 hO.cap (by omega) ?_)
        rw [hs1]
        intro qa da qb db w9 f9 hA1 hA2
        have hA1 : OB w9 qa sid.length da sid w8.heap.size := hA1
        have hA2 : OB w9 qb nonce.length db nonce w8.heap.size := hA2
        refine ⟨_, _, _, _, _, _, _, _, rfl, newP (pt := (pt : Int)) (l1 := sid.length) (l2 := nonce.length) fun w10 f10 hP10 => ?_⟩
        obtain ⟨k19, hk19⟩ : ∃ k, k = w9.heap.size := ⟨_, rfl⟩
        rw [← hk19] at hP10 ⊢
        refine mk1 (x := first) fun p11 w11 f11 hO11 s11 => ?_
        have f811 := (f9.then f10).then f11
        refine pushN (m := A.length) hO11 (by omega) (hO.fr0 f811).row rfl (by omega) fun p12 c12 w12 f12 hO12 => ?_
        have f1112 : Fr [] w10 w12 := f11.trans f12 (fun y hy => .inr (hO11.2.2 y hy))
        have f012 := ((f07.then f8).then (f9.then f10)).then f1112
        refine pushN (m := l4) hO12 (by have := f1112.size; omega) (h4.fr0 f012) hl4 (by omega) fun p13 c13 w13 f13 hO13 => ?_
        have f1013 : Fr [] w10 w13 := f1112.trans f13 (fun y hy => .inr (hO12.2.2 y hy))
        have eL : [first] ++ A ++ rest = first :: (A ++ rest) := by simp
        rw [eL] at hO13
        have f413 := (f48.then (f9.then f10)).then f1013
        refine slotShort_c (hS4.fr0 f413) hO13.row hO13.2.1 hO13.cap (by omega) ?_
        rw [hs2]
        intro qc dc qd dd w14 f14 hC1 hC2
        have hC1 : OB w14 qc sid.length dc sid w13.heap.size := hC1
        have hC2 : OB w14 qd nonce.length dd nonce w13.heap.size := hC2
        refine ⟨_, _, _, _, _, _, _, _, rfl, newP (pt := (pt : Int)) (l1 := sid.length) (l2 := nonce.length) fun w15 f15 hP15 => ?_⟩
        have f1015 := f1013.then (f14.then f15)
        have f015 := f4.then (f413.then (f14.then f15))
        refine cond_t (cond_t ⟨_, (hP10.fr0 f1015).ptLd, cond_eq (fun _ => ?_) (fun hh => absurd rfl hh)⟩)
        refine ⟨_, _, _, (hP10.fr0 f1015).sidLd, SameBytes_c ((hA1.fr0 f10).fr0 f1015).row rfl (h2.fr0 f015) hl2 (by omega) fun w16 f16 => ⟨_, rfl, ?_⟩⟩
        rw [decide_eq_true rfl]
        refine cond_t ⟨_, _, _, (hP10.fr0 (f1015.then f16)).nonceLd, SameBytes_c ((hA2.fr0 f10).fr0 (f1015.then f16)).row rfl (h3.fr0 (f015.then f16)) hl3 (by omega) fun w17 f17 => ⟨_, rfl, ?_⟩⟩
        rw [decide_eq_true rfl]
        have f1517 := f16.then f17
        refine cond_t ⟨_, (hP15.fr0 f1517).ptLd, cond_eq (fun _ => ?_) (fun hh => absurd rfl hh)⟩
        refine ⟨_, _, _, (hP15.fr0 f1517).sidLd, SameBytes_c (hC1.fr0 (f15.then f1517)).row rfl (h2.fr0 (f015.then f1517)) hl2 (by omega) fun w18 f18 => ⟨_, rfl, ?_⟩⟩
        rw [decide_eq_true rfl]
        refine cond_t ⟨_, _, _, (hP15.fr0 (f1517.then f18)).nonceLd, SameBytes_c (hC2.fr0 (f15.then (f1517.then f18))).row rfl (h3.fr0 (f015.then (f1517.then f18))) hl3 (by omega) fun w19 f19 => ⟨_, rfl, ?_⟩⟩
        rw [decide_eq_true rfl]
        exact h w19 ((f015.then (f1517.then f18)).then f19)
      · have eE : mkE x.m x.s x.n x.key point sid nonce = 11 := by unfold mkE; rw [if_pos hcx, if_neg hm]
        rw [eE]
        exact cond_t (h w8 (f07.then f8))
    · rw [decide_eq_false ho]
      refine cond_t (slotStamp_c (hS4.fr0 f47) ⟨_, rfl, ?_⟩)
      rw [← hx, hno ho]
      exact h w7 f07
end
end Go.Sh
end
