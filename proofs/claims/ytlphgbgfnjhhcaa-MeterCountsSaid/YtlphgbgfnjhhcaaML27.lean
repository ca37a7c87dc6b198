/- A part of a proof of a given law of this program: lemmas, printed forms of its functions, contracts. It has no conditions of its own. -/
import Derived.Laws.Strings
import Derived.Test.YtlphgbgfnjhhcaaMF
import Derived.Test.YtlphgbgfnjhhcaaMSh

section
namespace Go.Sh
open Go Go.Fw Go.Proofs
set_option maxRecDepth 100000
set_option linter.unusedVariables false
def words27 : List ByteArray := [⟨#[105, 100]⟩, ⟨#[116, 97, 98, 108, 101]⟩, ⟨#[110, 101, 119]⟩, ⟨#[114, 101, 116, 114, 121]⟩, ⟨#[111, 102, 102, 101, 114]⟩, ⟨#[101, 109, 112, 116, 121]⟩, ⟨#[115, 104, 111, 114, 116]⟩, ⟨#[122, 101, 114, 111]⟩, ⟨#[115, 109, 97, 108, 108]⟩, ⟨#[107, 105, 110, 100]⟩, ⟨#[102, 111, 114, 109]⟩, ⟨#[116, 111, 107, 101, 110]⟩, ⟨#[107, 101, 121]⟩, ⟨#[100, 114, 97, 119]⟩, ⟨#[110, 111, 110, 101]⟩, ⟨#[108, 111, 110, 103]⟩]
def wordV (n : Int) : ByteArray := if okN n then words27.getD n.toNat ⟨#[]⟩ else ⟨#[]⟩
theorem word_at {i : Nat} (hi : i < 16) : (words27.map Value.string)[i]? = some (.string (words27.getD i ⟨#[]⟩)) := by
  have hl : words27.length = 16 := rfl
  rw [List.getElem?_map, List.getD_eq_getElem?_getD, List.getElem?_eq_getElem (by omega)]; rfl
section
variable {w : World} {b : Nat} {K : Value → World → Prop}
theorem Word_c {n : Int} (h : ∀ w', Fr [] w w' → K (.string (wordV n)) w') : callF Try.prog F_meter_Word #[.int .i64 n] w K := by
  apply meter_Word_call
  unfold meter_Word
  refine Class_c ⟨_, _, rfl, ?_⟩
  unfold wordV at h
  by_cases ho : okN n
  · rw [decide_eq_true ho]
    rw [if_pos ho] at h
    have ho' := ho
    unfold okN at ho'
    obtain ⟨m, rfl⟩ := Int.eq_ofNat_of_zero_le ho'.1
    rw [Int.toNat_natCast] at h
    refine cond_f ?_
    refine newZ (s := 16) (by kernel_rfl) fun w1 g1 f1 hB1 s1 => ?_
    refine Sto.agg (m := 16) (cs := words27.map Value.string) (by kernel_rfl) rfl hB1 (Nat.le_refl 16) (by intro v hv; obtain ⟨x, _, rfl⟩ := List.mem_map.1 hv; rfl) fun w2 f2 hB2 s2 => ?_
    refine ⟨_, ixA1 (n := 16) (by kernel_rfl) (by omega) (by omega), _, Ld.blk (by kernel_rfl) hB2 (by omega) ?_, h w2 (f1.st f2 (Nat.le_refl _))⟩
    have hw := word_at (i := m) (by omega)
    unfold updN
    rw [Int.toNat_natCast, Nat.zero_add]
    obtain ⟨h1, h2⟩ := List.getElem?_eq_some_iff.1 hw
    rw [dif_pos ⟨Nat.zero_le _, by simpa using h1⟩]
    simpa using h2
  · rw [decide_eq_false ho]
    rw [if_neg ho] at h
    exact cond_t (h w (Fr.refl _ _))
theorem refWord_c {n : Int} (h : ∀ w', Fr [] w w' → K (.string (wordV n)) w') : callF Try.prog F_ref27_Word #[.int .i64 n] w K := by
  apply ref27_Word_call
  unfold ref27_Word
  unfold wordV at h
  refine ⟨_, _, _, Ef.new (v := .slice (some ⟨w.heap.size, 0, none⟩) 16 16) (cs := (words27.map Value.string).toArray) (e := T_string) (by kernel_rfl) fun w1 f1 hB1 s1 => ?_⟩
  by_cases ho : okN n
  · rw [if_pos ho] at h
    have ho' := ho
    unfold okN at ho'
    obtain ⟨m, rfl⟩ := Int.eq_ofNat_of_zero_le ho'.1
    rw [Int.toNat_natCast] at h
    refine cond_d (fun h1 => by omega) fun h1 => cond_d (fun h2 => by omega) fun h2 => ?_
    unfold ref27_Word_j1
    obtain ⟨a, ha, hc⟩ := ixR (P := Try.prog) (t := T_S_string) (by kernel_rfl) hB1.rowL (len := 16) (cap := 16) (k := .i64) (i := (m : Int)) rfl (by omega) (by omega) (by rw [Int.toNat_natCast]; exact word_at (by omega))
    exact ⟨a, ha, _, Ld.cell (by kernel_rfl) hc, h w1 f1⟩
  · rw [if_neg ho] at h
    unfold okN at ho
    refine cond_d (fun h1 => h w1 f1) fun h1 => cond_d (fun h2 => h w1 f1) fun h2 => by omega
def one27 : List (Int × Int) := [(14, 40), (16, 1), (0, 65536), (14, 2)]
theorem one27_at : ∀ i, i < 19 → gOf one27 i = if i = 14 then 2 else if i = 18 then 42 else 0 := by decide +kernel
set_option maxHeartbeats 4000000 in
theorem alive27_c (h : ∀ w', Fr [] w w' → K (.bool true) w') : callF Try.prog F_law27_alive #[] w K := by
  apply law27_alive_call
  unfold law27_alive
  refine newZ (s := 1) (by kernel_rfl) fun w1 g1 f1 hB0 s1 => ?_
  obtain ⟨k0, hk0⟩ : ∃ k0, k0 = w.heap.size := ⟨_, rfl⟩
  rw [← hk0] at hB0 ⊢
  refine newMeter_c fun w2 f2 hM2 s2 => ⟨_, rfl, ?_⟩
  obtain ⟨m, hm⟩ : ∃ m, m = w1.heap.size := ⟨_, rfl⟩
  rw [← hm] at hM2 ⊢
  have f02 := f1.then f2
  refine ⟨_, _, ptrNil (by kernel_rfl), cond_f ?_⟩
  have hM2' : MtAt w2 m (gOf []) := hM2.ext fun i hi => rfl
  refine addM_c hM2' (by simp) fun w3 f3 hM3 s3 => ⟨_, rfl, ?_⟩
  have hM3 := hM3 [(14, 40)] (fun i _ => gOf_snoc [] (14, 40) i)
  refine addM_c hM3 (by simp) fun w4 f4 hM4 s4 => ⟨_, rfl, ?_⟩
  have hM4 := hM4 [(14, 40), (16, 1)] (fun i _ => gOf_snoc [(14, 40)] (16, 1) i)
  refine addM_c hM4 (by simp) fun w5 f5 hM5 s5 => ⟨_, rfl, ?_⟩
  have hM5 := hM5 [(14, 40), (16, 1), (0, 65536)] (fun i _ => gOf_snoc [(14, 40), (16, 1)] (0, 65536) i)
  refine addM_c hM5 (by simp) fun w6 f6 hM6 s6 => ⟨_, rfl, ?_⟩
  have hM6 := hM6 one27 (fun i _ => gOf_snoc [(14, 40), (16, 1), (0, 65536)] (14, 2) i)
  have n1 := f1.size
  have f06 : Fr [] w w6 := (((f02.st f3 (by omega)).st f4 (by omega)).st f5 (by omega)).st f6 (by omega)
  have g26 : Fr [m] w2 w6 := ((f3.trans f4 (by simp)).trans f5 (by simp)).trans f6 (by simp)
  refine total_c hM6 (gOf_small (by simp [one27])) (fun hh => absurd (by omega) hh) fun _ => ⟨_, _, rfl, ?_⟩
  have t1 : totN (gOf one27) (2 : Int).toNat 16 = 2 := by decide +kernel
  have t2 : gOf one27 (16 + (2 : Int).toNat) = 42 := by decide +kernel
  rw [t1, t2]
  refine Class_c ⟨_, _, rfl, Class_c ⟨_, _, rfl, ?_⟩⟩
  refine newZ (s := 1) (by kernel_rfl) fun w7 g7 f7 hB7 s7 => ?_
  obtain ⟨k11, hk11⟩ : ∃ k11, k11 = w6.heap.size := ⟨_, rfl⟩
  rw [← hk11] at hB7 ⊢
  refine Sto.blk (by kernel_rfl) hB7 (by omega) rfl rfl fun w8 f8 hB8 s8 => ?_
  refine allMeter_c fun w9 f9 hB9 s9 => ⟨_, rfl, ?_⟩
  obtain ⟨kc, hkc⟩ : ∃ kc, kc = w8.heap.size := ⟨_, rfl⟩
  rw [← hkc] at hB9 ⊢
  have f68 : Fr [] w6 w8 := f7.st f8 (by omega)
  have f69 := f68.then f9
  have n6 := f06.size
  have n7 := f7.size
  have hlt8 := hB8.lt
  have hM9 := hM6.fr0 f69
  have hmlt := Blk.lt hM9
  have hB0' : Blk w9 k0 1 g1 := ((hB0.fr0 f2).fr g26 (by simp; omega)).fr0 f69
  refine RangeF.of (fun _ _ => by kernel_rfl) fun fn w10 f10 s10 hD10 hL10 => ?_
  have f910 := f10
  have e0 : ∀ i, i < 16 → 0 < gOf one27 i → i = 14 ∧ gOf one27 i = 2 := by
    intro i hi hp
    rw [one27_at i (by omega)] at hp ⊢
    by_cases h14 : i = 14
    · exact ⟨h14, by rw [if_pos h14]⟩
    · rw [if_neg h14, if_neg (by omega)] at hp; omega
  have hB11 := hB8.fr0 (f9.then f10)
  refine allC1_c (L := [w9.heap.size + 1, k11]) (hM9.fr0 f10) (hB9.fr0 f10) rfl (fun wa i w' => Fr [w9.heap.size + 1, k11] wa w' ∧ LpAt w' (w9.heap.size + 1) _ ∧ ∃ f, Blk w' k11 1 f ∧ f 0 = .int .i64 (if 14 < i then 1 else 0))
    (fun wa fa => ⟨Fr.refl _ _, hL10.fr0 fa, _, hB11.fr0 fa, rfl⟩) (fun wa i w' hj => hj.1) (fun x hx => by simp at hx; omega) (fun wa i w' hi hj hn => ⟨hj.1, hj.2.1, ?_⟩) (fun wa i w' K' hi fa hj hp hK => ?_) (fun wa w' fa hj => ?_)
  · obtain ⟨f, hB, hf⟩ := hj.2.2
    refine ⟨f, hB, ?_⟩
    rw [hf]
    have : i ≠ 14 := fun hh => hn (by subst hh; rw [one27_at 14 (by omega)]; decide)
    by_cases h1 : 14 < i
    · rw [if_pos h1, if_pos (by omega)]
    · rw [if_neg h1, if_neg (by omega)]
  · obtain ⟨rfl, e2⟩ := e0 i hi hp
    obtain ⟨fj, hL, f, hB, hf⟩ := hj
    rw [e2]
    refine law27_alive_y0_call _ _ _ _ hL ?_
    unfold law27_alive_y0
    refine BegR.of hL rfl fun wb fb hLb sb => ?_
    refine cond_f ?_
    unfold law27_alive_y0_j2
    refine cond_f ?_
    unfold law27_alive_y0_j1
    have hBb := hB.fr fb (by simp; omega)
    refine ⟨_, Ld.blk (by kernel_rfl) hBb (by omega) hf, ?_⟩
    refine Sto.blk (by kernel_rfl) hBb (by omega) rfl rfl fun wc fc hBc sc => ?_
    have hLc := hLb.fr fc (by simp; omega)
    refine EndR.of hLc none rfl fun wd fd hLd sd => hK wd ⟨((fj.trans fb (by simp)).trans fc (by simp)).trans fd (by simp), hLd, _, hBc.fr fd (by simp; omega), ?_⟩
    unfold upd; rw [if_pos rfl]; rfl
  · obtain ⟨fj, hL, f, hB, hf⟩ := hj
    refine ⟨_, hL, by simp [rec0], fun w4 f4 s4 => ?_⟩
    show law27_alive_j1 _ _ _ _ _ _ _ _ _ _ _ _ w4 K
    have n10 := f10.size
    have g9x : Fr [w9.heap.size + 1, k11] w9 w4 := ((((f10.then fa).mono (by simp)).trans fj (fun x hx => .inl hx)).trans f4 (by simp))
    have hMx : MtAt w4 m (gOf one27) := hM9.fr g9x (by simp; omega)
    have hBk : Blk w4 k11 1 f := hB.fr f4 (by simp; omega)
    have hB0x : Blk w4 k0 1 g1 := hB0'.fr g9x (by simp; omega)
    have hDx : DfAt w4 w9.heap.size := (((hD10.fr0 fa).fr fj (by simp; omega)).fr f4 (by simp))
    have f0x : Fr [] w w4 := (f06.then f69).trans g9x (fun x hx => .inr (by simp at hx; omega))
    unfold law27_alive_j1
    refine cloneMeter_c hMx fun w11 f11 hMc => ⟨_, rfl, ?_⟩
    refine addM_c (hMx.fr0 f11) (by simp [one27]) fun w12 f12 hM12 s12 => ⟨_, rfl, ?_⟩
    have hM12 := hM12 (one27 ++ [(0, 1)]) (fun i _ => gOf_snoc one27 (0, 1) i)
    refine ⟨_, _, ptrNe (by kernel_rfl), cond_t (cond_t (cond_t (cond_t (cond_t (cond_t (cond_t (cond_t (cond_t ?_))))))))⟩
    have hBk12 := (hBk.fr0 f11).fr f12 (by simp; omega)
    refine ⟨_, Ld.blk (by kernel_rfl) hBk12 (by omega) hf, cond_t ?_⟩
    refine Word_c fun w13 f13 => ⟨_, rfl, _, _, Ef.strEq, ?_⟩
    have e1 : wordV 15 = (⟨#[108, 111, 110, 103]⟩ : ByteArray) := rfl
    rw [e1, beq_self_eq_true]
    refine cond_t (Word_c fun w14 f14 => ⟨_, rfl, _, _, Ef.strEq, ?_⟩)
    have e2 : wordV 16 = (⟨#[]⟩ : ByteArray) := rfl
    rw [e2, beq_self_eq_true]
    have hcl : w4.heap.size ≠ m := by have := Blk.lt hMx; omega
    have hMc' := ((hMc.fr f12 (by simp; exact hcl)).fr0 f13).fr0 f14
    have hM14 := (hM12.fr0 f13).fr0 f14
    refine cond_t (ofMeter_c hMc' ⟨_, rfl, ?_⟩)
    have o1 : ofG (gOf one27) 0 = 0 := by decide +kernel
    have o2 : ofG (gOf (one27 ++ [(0, 1)])) 0 = 1 := by decide +kernel
    rw [o1]
    refine cond_t (ofMeter_c hM14 ⟨_, rfl, ?_⟩)
    rw [o2]
    have hB014 := ((((hB0x.fr0 f11).fr f12 (by simp; omega)).fr0 f13).fr0 f14)
    refine Sto.blk (by kernel_rfl) hB014 (by omega) rfl rfl fun w15 f15 hB15 s15 => ?_
    have hD15 : DfAt w15 w9.heap.size := ((((hDx.fr0 f11).fr f12 (by simp; omega)).fr0 f13).fr0 f14).fr f15 (by simp; omega)
    obtain ⟨w16, hT, f16, s16⟩ := Tk.of (P := Try.prog) hD15
    refine ⟨w16, hT, _, _, rfl, Ld.blk (by kernel_rfl) (hB15.fr f16 (by simp; omega)) (by omega) rfl, ?_⟩
    have f014 := ((f0x.then f11).st f12 (by omega)).then (f13.then f14)
    have : upd g1 0 (.bool ((1 : Int) == 1)) 0 = .bool true := rfl
    rw [this]
    exact h w16 ((f014.st f15 (by omega)).st f16 (by have := f06.size; have := f69.size; omega))
end
end Go.Sh
end

section
namespace Go.Sh
open Go Go.Fw Go.Proofs
set_option maxRecDepth 100000
set_option linter.unusedVariables false
theorem rsum_congr {f g : Int × Int → Int} {l : List (Int × Int)} (h : ∀ r ∈ l, f r = g r) : rsum f l = rsum g l := by
  induction l with
  | nil => rfl
  | cons r l ih =>
    simp only [rsum]
    rw [h r (by simp), ih (fun x hx => h x (by simp [hx]))]
theorem rsum_good {f : Int × Int → Int} (hf : ∀ r : Int × Int, ¬ okA r.1 r.2 → f r = 0) (xs : List (Int × Int)) : rsum f xs = rsum f (goodR xs) := by
  induction xs with
  | nil => rfl
  | cons r xs ih =>
    unfold goodR at ih ⊢
    by_cases h : okA r.1 r.2
    · rw [List.filter_cons_of_pos (by simpa using h)]; simp only [rsum]; rw [ih]
    · rw [List.filter_cons_of_neg (by simpa using h)]; simp only [rsum]; rw [ih, hf r h]; omega
theorem good_mem {xs : List (Int × Int)} {r : Int × Int} (h : r ∈ goodR xs) : okA r.1 r.2 := by unfold goodR at h; simpa using (List.mem_filter.1 h).2
theorem good_len (xs : List (Int × Int)) : (goodR xs).length ≤ xs.length := List.length_filter_le _ _
theorem good_snoc (xs : List (Int × Int)) (r : Int × Int) : goodR (xs ++ [r]) = if okA r.1 r.2 then goodR xs ++ [r] else goodR xs := by
  unfold goodR
  rw [List.filter_append]
  by_cases h : okA r.1 r.2
  · rw [if_pos h, List.filter_cons_of_pos (by simpa using h)]; rfl
  · rw [if_neg h, List.filter_cons_of_neg (by simpa using h)]; simp
theorem gOf_cnt (xs : List (Int × Int)) {i : Nat} (hi : i < 16) : gOf xs i = cntR (i : Int) (goodR xs) := by
  unfold gOf cntR
  rw [rsum_good (fun r h => by unfold fG; rw [if_neg h])]
  exact rsum_congr fun r hr => by unfold fG; rw [if_pos (good_mem hr), if_pos hi]
theorem okA_cls {r : Int × Int} (h : okA r.1 r.2) : clsR r = clsV r.1 := by unfold clsR clsV; rw [if_pos h.1, if_pos h.1]
theorem gOf_sum (xs : List (Int × Int)) {c : Nat} (hc : c < 3) : gOf xs (16 + c) = rsum (fun r => if clsR r = (c : Int) then r.2 else 0) (goodR xs) := by
  unfold gOf
  rw [rsum_good (fun r h => by unfold fG; rw [if_neg h])]
  refine rsum_congr fun r hr => ?_
  have e : 16 + c - 16 = c := by omega
  unfold fG
  rw [if_pos (good_mem hr), if_neg (by omega), if_pos (by omega), okA_cls (good_mem hr), e]
theorem tot_delta : ∀ m, m < 16 → ∀ c, c < 3 → totN (fun i => if m = i then 1 else 0) c 16 = if clsN m = c then 1 else 0 := by decide +kernel
theorem totN_congr {g g' : Nat → Int} {c k : Nat} (h : ∀ i, i < k → g i = g' i) : totN g c k = totN g' c k := by
  induction k with
  | zero => rfl
  | succ k ih => unfold totN; rw [ih (fun i hi => h i (by omega)), h k (by omega)]
theorem totN_add (f g : Nat → Int) (c k : Nat) : totN (fun i => f i + g i) c k = totN f c k + totN g c k := by
  induction k with
  | zero => rfl
  | succ k ih => unfold totN; rw [ih]; split <;> omega
theorem totN_zero (c k : Nat) : totN (fun _ => 0) c k = 0 := by
  induction k with
  | zero => rfl
  | succ k ih => unfold totN; rw [ih]; split <;> omega
def cF (c : Nat) (r : Int × Int) : Int := if okA r.1 r.2 then (if clsR r = (c : Int) then 1 else 0) else 0
theorem totN_fG {c : Nat} (hc : c < 3) (r : Int × Int) : totN (fun i => fG i r) c 16 = cF c r := by
  unfold cF
  by_cases h : okA r.1 r.2
  · rw [if_pos h]
    have h' := h
    unfold okA okN at h'
    obtain ⟨m, hm⟩ := Int.eq_ofNat_of_zero_le h'.1.1
    have e1 : totN (fun i => fG i r) c 16 = totN (fun i => if m = i then 1 else 0) c 16 := totN_congr fun i hi => by
      unfold fG; rw [if_pos h, if_pos hi, hm]
      by_cases hmi : m = i
      · rw [if_pos hmi, if_pos (by omega)]
      · rw [if_neg hmi, if_neg (by omega)]
    rw [e1, tot_delta m (by omega) c hc]
    have e2 : clsR r = (clsN m : Int) := by unfold clsR; rw [if_pos h.1, hm, Int.toNat_natCast]
    rw [e2]
    by_cases hcm : clsN m = c
    · rw [if_pos hcm, if_pos (by omega)]
    · rw [if_neg hcm, if_neg (by omega)]
  · rw [if_neg h]
    have e1 : totN (fun i => fG i r) c 16 = totN (fun _ => 0) c 16 := totN_congr fun i hi => by unfold fG; rw [if_neg h]
    rw [e1, totN_zero]
theorem totN_gOf {c : Nat} (hc : c < 3) (xs : List (Int × Int)) : totN (gOf xs) c 16 = rsum (cF c) xs := by
  induction xs with
  | nil => exact totN_zero c 16
  | cons r xs ih =>
    have e : totN (gOf (r :: xs)) c 16 = totN (fun i => fG i r + gOf xs i) c 16 := rfl
    rw [e, totN_add, totN_fG hc, ih]; rfl
theorem tot_ref {c : Nat} (hc : c < 3) (xs : List (Int × Int)) : totN (gOf xs) c 16 = rsum (fun r => if clsR r = (c : Int) then 1 else 0) (goodR xs) := by
  rw [totN_gOf hc, rsum_good (fun r h => by unfold cF; rw [if_neg h])]
  exact rsum_congr fun r hr => by unfold cF; rw [if_pos (good_mem hr)]
def cnts (h : Nat → Int) : Nat → Value := fun i => .int .i64 (h i)
theorem eqZ16 {w : World} {x y : Operand} : Ef Try.prog (do eqGuard .eql T_A16_int x y (.agg #[.int .i64 0, .int .i64 0, .int .i64 0, .int .i64 0, .int .i64 0, .int .i64 0, .int .i64 0, .int .i64 0, .int .i64 0, .int .i64 0, .int .i64 0, .int .i64 0, .int .i64 0, .int .i64 0, .int .i64 0, .int .i64 0]) (.agg #[.int .i64 0, .int .i64 0, .int .i64 0, .int .i64 0, .int .i64 0, .int .i64 0, .int .i64 0, .int .i64 0, .int .i64 0, .int .i64 0, .int .i64 0, .int .i64 0, .int .i64 0, .int .i64 0, .int .i64 0, .int .i64 0]); binOp .eql T_A16_int (.agg #[.int .i64 0, .int .i64 0, .int .i64 0, .int .i64 0, .int .i64 0, .int .i64 0, .int .i64 0, .int .i64 0, .int .i64 0, .int .i64 0, .int .i64 0, .int .i64 0, .int .i64 0, .int .i64 0, .int .i64 0, .int .i64 0]) (.agg #[.int .i64 0, .int .i64 0, .int .i64 0, .int .i64 0, .int .i64 0, .int .i64 0, .int .i64 0, .int .i64 0, .int .i64 0, .int .i64 0, .int .i64 0, .int .i64 0, .int .i64 0, .int .i64 0, .int .i64 0, .int .i64 0]) : Sem Value) w (.bool true) w := by
  unfold Ef; kernel_rfl
section
variable {w : World} {b rb : Nat} {K : Value → World → Prop}
theorem ixC {i d : Nat} (hi : i < 16) : IxA Try.prog T_A16_int (.pointer (some ⟨d, 0, none⟩)) (.int .i64 (i : Int)) ⟨d, i, none⟩ := by
  have := ixA1 (P := Try.prog) (t := T_A16_int) (n := 16) (by kernel_rfl) (b := d) (o := 0) (k := .i64) (i := (i : Int)) (by omega) (by omega)
  rwa [Int.toNat_natCast, Nat.zero_add] at this
set_option maxHeartbeats 8000000 in
theorem Agree27_c {xs : List (Int × Int)} (hl : xs.length ≤ 1000) (hM : MtAt w b (gOf xs)) (hR : MrAt w rb (goodR xs)) (h : ∀ w', Fr [] w w' → K (.bool true) w') : callF Try.prog F_law27_Agree #[.pointer (some ⟨b, 0, none⟩), .pointer (some ⟨rb, 0, none⟩)] w K := by
  apply law27_Agree_call
  unfold law27_Agree
  have hgl : (goodR xs).length ≤ 1000 := Nat.le_trans (good_len xs) hl
  refine newZ (s := 1) (by kernel_rfl) fun w1 g1 f1 hB4 s1 => ?_
  refine newZ (s := 16) (by kernel_rfl) fun w2 g2 f2 hB5 s2 => ?_
  obtain ⟨a4, h4⟩ : ∃ a, a = w.heap.size := ⟨_, rfl⟩
  obtain ⟨a5, h5⟩ : ∃ a, a = w1.heap.size := ⟨_, rfl⟩
  rw [← h4] at hB4 ⊢
  rw [← h5] at hB5 ⊢
  refine Sto.agg (m := 16) (cs := List.replicate 16 (.int .i64 0)) (by kernel_rfl) rfl hB5 (Nat.le_refl 16) (by intro v hv; rw [List.mem_replicate] at hv; rw [hv.2]; rfl) fun w3 f3 hB5' s3 => ?_
  have hC : Blk w3 a5 16 (cnts fun _ => 0) := hB5'.ext fun i hi => by
    unfold updN; rw [dif_pos ⟨Nat.zero_le _, by simp; omega⟩]; exact List.getElem_replicate _
  have f03 : Fr [] w w3 := (f1.then f2).st f3 (by have := f1.size; omega)
  have hB43 : Blk w3 a4 1 g1 := (hB4.fr0 f2).fr f3 (by simp; omega)
  have hblt : b < w.heap.size := Blk.lt hM
  refine LoopS.ind (fun k us w' => ∃ i : Nat, i + k = 16 ∧ us = [.pointer (some ⟨b, 0, none⟩), .pointer (some ⟨rb, 0, none⟩), .pointer (some ⟨a4, 0, none⟩), .pointer (some ⟨a5, 0, none⟩), .int .i64 (i : Int)] ∧ Fr [] w w' ∧ Blk w' a4 1 g1 ∧ Blk w' a5 16 (cnts fun j => if j < i then gOf xs j else 0) ∧ w3.heap.size ≤ w'.heap.size) 16
    ⟨0, rfl, rfl, f03, hB43, hC.ext fun i hi => by simp [cnts], Nat.le_refl _⟩ ?_
  rintro k us r w4 I μ hgo ⟨i, hi, rfl, f04, hB44, hC4, hsz⟩
  refine ⟨_, _, _, _, _, rfl, cond_d (fun h3 => ?_) (fun h3 => ?_)⟩
  · refine refOf_c (hR.fr0 f04) hgl ⟨_, rfl, _, ixC (by omega), ?_⟩
    rw [← gOf_cnt xs (by omega)]
    refine Sto.blk (by kernel_rfl) hC4 (by omega) rfl rfl fun w5 f5 hC5 s5 => ?_
    have hC5' : Blk w5 a5 16 (cnts fun j => if j < i + 1 then gOf xs j else 0) := hC5.ext fun j hj => by
      show (if j = i then Value.int .i64 (gOf xs i) else Value.int .i64 (if j < i then gOf xs j else 0)) = Value.int .i64 (if j < i + 1 then gOf xs j else 0)
      by_cases hji : j = i
      · subst hji; rw [if_pos rfl, if_pos (by omega)]
      · rw [if_neg hji]
        by_cases h6 : j < i
        · rw [if_pos h6, if_pos (by omega)]
        · rw [if_neg h6, if_neg (by omega)]
    have f05 := f04.st f5 (by omega)
    refine ⟨fun w' => Fr [] w5 w', Drw.intro fun w6 f6 s6 => ?_⟩
    have e1 : cnts (fun j => if j < i + 1 then gOf xs j else 0) i = .int .i64 (gOf xs i) := by show Value.int .i64 (if i < i + 1 then gOf xs i else 0) = _; rw [if_pos (by omega)]
    refine ⟨_, ixC (by omega), _, ⟨f6, fun w' hw' => Ld.blk (by kernel_rfl) (hC5'.fr0 hw') (by omega) e1⟩, ?_⟩
    refine ofMeter_c (hM.fr0 (f05.then f6)) ⟨_, rfl, .inl rfl, ?_⟩
    rw [ofG_nat (by omega), wrap64 (n := (i : Int) + 1) (by omega) (by omega)]
    refine cond_ne (fun hne => absurd rfl hne) fun _ => ?_
    refine hgo _ _ _ (k - 1) (by omega) ⟨i + 1, by omega, rfl, f05.then f6, (hB44.fr f5 (by simp; omega)).fr0 f6, hC5'.fr0 f6, by omega⟩
  · have : i = 16 := by omega
    subst this
    -- the classes
    refine LoopS.ind (fun k us w' => ∃ i : Nat, i + k = 5 ∧ us = [.pointer (some ⟨b, 0, none⟩), .pointer (some ⟨rb, 0, none⟩), .pointer (some ⟨a4, 0, none⟩), .pointer (some ⟨a5, 0, none⟩), .int .i64 ((i : Int) - 1)] ∧ w' = w4) 5 ⟨0, rfl, rfl, rfl⟩ ?_
    rintro k us r w5 I μ hgo ⟨i, hi, rfl, rfl⟩
    have hM4 := hM.fr0 f04
    refine ⟨_, _, _, _, _, rfl, cond_d (fun h4' => ?_) (fun h4' => ?_)⟩
    · have fin : goesOn [] [] I μ [.pointer (some ⟨b, 0, none⟩), .pointer (some ⟨rb, 0, none⟩), .pointer (some ⟨a4, 0, none⟩), .pointer (some ⟨a5, 0, none⟩), .int .i64 ((i : Int) - 1)] [.pointer (some ⟨b, 0, none⟩), .pointer (some ⟨rb, 0, none⟩), .pointer (some ⟨a4, 0, none⟩), .pointer (some ⟨a5, 0, none⟩), .int .i64 (IntKind.i64.wrap ((i : Int) - 1 + 1))] w5 w5 := by
        rw [wrap64 (n := (i : Int) - 1 + 1) (by omega) (by omega), show (i : Int) - 1 + 1 = ((i + 1 : Nat) : Int) - 1 by omega]
        exact hgo _ _ _ (k - 1) (by omega) ⟨i + 1, by omega, rfl, rfl⟩
      refine total_c hM4 (gOf_small hl) (fun hb => ⟨_, _, rfl, ?_⟩) (fun hok => ⟨_, _, rfl, ?_⟩)
      · refine cond_d (fun h6 => cond_d (fun h7 => absurd ⟨h6, by omega⟩ hb) (fun h7 => ?_)) (fun h6 => ?_)
        · exact cond_ne (fun hne => absurd rfl hne) fun _ => cond_ne (fun hne => absurd rfl hne) fun _ => fin
        · exact cond_ne (fun hne => absurd rfl hne) fun _ => cond_ne (fun hne => absurd rfl hne) fun _ => fin
      · obtain ⟨c, hc⟩ := Int.eq_ofNat_of_zero_le hok.1
        refine cond_d (fun h6 => cond_d (fun h7 => ?_) (fun h7 => by omega)) (fun h6 => absurd hok.1 h6)
        refine refTotal_c (hR.fr0 f04) hgl (fun r hr => (good_mem hr).2) ⟨_, _, rfl, ?_⟩
        rw [hc, Int.toNat_natCast, tot_ref (by omega), gOf_sum xs (by omega), ← hc]
        exact cond_ne (fun hne => absurd rfl hne) fun _ => cond_ne (fun hne => absurd rfl hne) fun _ => fin
    · have : i = 5 := by omega
      subst this
      refine newZ (s := 1) (by kernel_rfl) fun w6 g6 f6 hB6 s6 => ?_
      obtain ⟨a12, h12⟩ : ∃ a, a = w5.heap.size := ⟨_, rfl⟩
      rw [← h12] at hB6 ⊢
      refine Sto.blk (by kernel_rfl) hB6 (by omega) rfl rfl fun w7 f7 hB7 s7 => ?_
      have f57 : Fr [] w5 w7 := f6.st f7 (by omega)
      refine allMeter_c fun w9 f9 hB9 s9 => ⟨_, rfl, ?_⟩
      obtain ⟨kc, hkc⟩ : ∃ kc, kc = w7.heap.size := ⟨_, rfl⟩
      rw [← hkc] at hB9 ⊢
      have f59 := f57.then f9
      have n6 := f6.size; have n7 := f7.size; have n9 := f9.size
      have hC9 : Blk w9 a5 16 (cnts (gOf xs)) := (hC4.fr0 f59).ext fun j hj => by show Value.int .i64 (if j < 16 then gOf xs j else 0) = Value.int .i64 (gOf xs j); rw [if_pos (by omega)]
      have hC9lt := hC9.lt
      have hB49 := hB44.fr0 f59
      have ha4 := hB44.lt
      have ha5 := hC4.lt
      refine RangeF.of (fun _ _ => by kernel_rfl) fun fn w10 f10 s10 hD10 hL10 => ?_
      refine allC1_c (L := [w9.heap.size + 1, a5, a12]) ((hM4.fr0 f59).fr0 f10) (hB9.fr0 f10) rfl
        (fun wa i w' => Fr [w9.heap.size + 1, a5, a12] wa w' ∧ LpAt w' (w9.heap.size + 1) _ ∧ Blk w' a5 16 (cnts fun j => if j < i then 0 else gOf xs j) ∧ ∃ f v, Blk w' a12 1 f ∧ f 0 = .int .i64 v ∧ v < i)
        (fun wa fa => ⟨Fr.refl _ _, hL10.fr0 fa, (hC9.fr0 (f10.then fa)).ext fun j hj => by simp [cnts], _, _, hB7.fr0 (f9.then (f10.then fa)), rfl, by omega⟩) (fun wa i w' hj => hj.1) (fun x hx => by simp at hx; omega) (fun wa i w' hi hj hn => ?_) (fun wa i w' K' hi fa hj hp hK => ?_) (fun wa w' fa hj => ?_)
      · obtain ⟨q1, q2, q3, f, v, q4, q5, q6⟩ := hj
        refine ⟨q1, q2, q3.ext fun j hj' => ?_, f, v, q4, q5, by omega⟩
        show Value.int .i64 (if j < i then 0 else gOf xs j) = Value.int .i64 (if j < i + 1 then 0 else gOf xs j)
        by_cases h7 : j < i
        · rw [if_pos h7, if_pos (by omega)]
        · rw [if_neg h7]
          by_cases h8 : j = i
          · subst h8; rw [if_pos (by omega)]; have := (gOf_b xs j).1; congr 1; omega
          · rw [if_neg (by omega)]
      · obtain ⟨fj, hL, hCj, f, v, hBv, hfv, hv⟩ := hj
        refine law27_Agree_y0_call _ _ _ _ _ hL ?_
        unfold law27_Agree_y0
        refine BegR.of hL rfl fun wb fb hLb sb => ?_
        have hBvb := hBv.fr fb (by simp; omega)
        have hCb := hCj.fr fb (by simp; omega)
        refine ⟨_, Ld.blk (by kernel_rfl) hBvb (by omega) hfv, cond_d (fun h7 => by omega) fun _ => cond_d (fun h7 => by omega) fun _ => ?_⟩
        refine ⟨_, ixC (by omega), _, Ld.blk (by kernel_rfl) hCb (by omega) (show Value.int .i64 (if i < i then 0 else gOf xs i) = _ by rw [if_neg (by omega)]), ?_⟩
        refine cond_ne (fun hne => absurd rfl hne) fun _ => ?_
        have e0 : (gOf xs i == 0) = false := by simp; omega
        rw [e0]
        unfold law27_Agree_y0_j2
        refine cond_f ?_
        unfold law27_Agree_y0_j1
        refine ⟨_, ixC (by omega), ?_⟩
        refine Sto.blk (by kernel_rfl) hCb (by omega) rfl rfl fun wc fc hCc sc => ?_
        refine Sto.blk (by kernel_rfl) (hBvb.fr fc (by simp; omega)) (by omega) rfl rfl fun wd fd hBd sd => ?_
        have hLd := (hLb.fr fc (by simp; omega)).fr fd (by simp; omega)
        refine EndR.of hLd none rfl fun we fe hLe se => hK we ⟨((((fj.trans fb (by simp)).trans fc (by simp)).trans fd (by simp)).trans fe (by simp)), hLe, ((hCc.fr fd (by simp; omega)).fr fe (by simp; omega)).ext fun j hj' => ?_, _, (i : Int), hBd.fr fe (by simp; omega), rfl, by omega⟩
        show (if j = i then Value.int .i64 0 else Value.int .i64 (if j < i then 0 else gOf xs j)) = Value.int .i64 (if j < i + 1 then 0 else gOf xs j)
        by_cases h7 : j = i
        · subst h7; rw [if_pos rfl, if_pos (by omega)]
        · rw [if_neg h7]
          by_cases h8 : j < i
          · rw [if_pos h8, if_pos (by omega)]
          · rw [if_neg h8, if_neg (by omega)]
      · obtain ⟨fj, hL, hCj, f, v, hBv, hfv, hv⟩ := hj
        refine ⟨_, hL, by simp [rec0], fun w4' f4 s4 => ?_⟩
        show law27_Agree_j1 _ _ _ w4' K
        unfold law27_Agree_j1
        have g9x : Fr [w9.heap.size + 1, a5, a12] w9 w4' := ((((f10.then fa).mono (by simp)).trans fj (fun x hx => .inl hx)).trans f4 (by simp))
        have hCx : Blk w4' a5 16 (fun _ => .int .i64 0) := (hCj.fr f4 (by simp; omega)).ext fun j hj' => by show Value.int .i64 (if j < 16 then 0 else gOf xs j) = _; rw [if_pos (by omega)]
        refine ⟨_, LdA (m := 16) (by kernel_rfl) (by kernel_rfl) hCx (o := 0) (by omega) (List.replicate 16 (.int .i64 0)) rfl (fun j v hj' => by
          rw [List.getElem?_replicate] at hj'; split at hj' <;> simp_all), ?_⟩
        refine ⟨_, _, eqZ16, ?_⟩
        have hB4x : Blk w4' a4 1 g1 := hB49.fr g9x (by simp; omega)
        refine Sto.blk (by kernel_rfl) hB4x (by omega) rfl rfl fun w15 f15 hB15 s15 => ?_
        have hDx : DfAt w4' w9.heap.size := (((hD10.fr0 fa).fr fj (by simp; omega)).fr f4 (by simp))
        obtain ⟨w16, hT, f16, s16⟩ := Tk.of (P := Try.prog) (hDx.fr f15 (by simp; omega))
        refine ⟨w16, hT, _, _, rfl, Ld.blk (by kernel_rfl) (hB15.fr f16 (by simp; omega)) (by omega) rfl, ?_⟩
        have : upd g1 0 (.bool true) 0 = .bool true := rfl
        rw [this]
        have f09 := f04.then f59
        have n04 := f04.size
        refine h w16 (((f09.trans g9x (fun x hx => .inr (by simp at hx; omega))).st f15 (by omega)).st f16 (by have := f09.size; omega))
end
end Go.Sh
end

section
namespace Go.Sh
open Go Go.Fw Go.Proofs
set_option maxRecDepth 100000
set_option linter.unusedVariables false
theorem words_apart : ∀ m, m < 16 → ∀ k, k < 16 → ((words27.getD m ⟨#[]⟩).toList == (words27.getD k ⟨#[]⟩).toList) = (m == k) := by
  simp only [ByteArray.toList_eq]
  decide +kernel
theorem rows_of {w : World} : ∀ vss : List (List Value), (∀ vs ∈ vss, vs.length = 2 ∧ DecL w [.int .i64, .int .i64] vs) → ∃ xs : List (Int × Int), xs.length = vss.length ∧ vss.flatten = rcells xs := by
  intro vss
  induction vss with
  | nil => intro _; exact ⟨[], rfl, rfl⟩
  | cons vs vss ih =>
    intro h
    obtain ⟨xs, h1, h2⟩ := ih fun v hv => h v (by simp [hv])
    obtain ⟨_, c1, c2, rfl, ⟨r, rfl, _⟩, c3, c4, rfl, ⟨s, rfl, _⟩, hc⟩ := h vs (by simp)
    subst hc
    exact ⟨(r, s) :: xs, by simp [h1], by rw [List.flatten_cons, h2]; rfl⟩
theorem take_snoc {xs : List (Int × Int)} {i : Nat} {x : Int × Int} (h : xs[i]? = some x) : xs.take (i + 1) = xs.take i ++ [x] := by rw [List.take_add_one, h]; rfl
section
variable {w : World} {K : Value → World → Prop}
theorem rowAt {p : Option Addr} {xs : List (Int × Int)} (hX : Row w p (rcells xs)) {l c i : Nat} (hl : l = xs.length) (hi : i < l) :
    ∃ b o x, xs[i]? = some x ∧ IxA Try.prog T_S_law27_Row (.slice p l c) (.int .i64 (i : Int)) ⟨b, o, none⟩ ∧ w.cell? ⟨b, o + 0, none⟩ = some (.int .i64 x.1) ∧ w.cell? ⟨b, o + 1, none⟩ = some (.int .i64 x.2) := by
  have hlt : i < xs.length := by omega
  obtain ⟨b, o, ha, _, hc⟩ := hX.cellAt (P := Try.prog) (t := T_S_law27_Row) (s := 2) (by kernel_rfl) (k := .i64) (l := l) (c := c) (by rw [rcells_len, hl]) hi (by omega)
  obtain ⟨h0, h1⟩ := rcells_get xs i _ (List.getElem?_eq_getElem hlt)
  exact ⟨b, o, _, List.getElem?_eq_getElem hlt, ha, hc 0 _ (by omega) h0, hc 1 _ (by omega) h1⟩
set_option maxHeartbeats 4000000 in
theorem MeterCounts_c {p0 : Option Addr} {l0 c0 : Nat} {xs : List (Int × Int)} {n s : Int} (hX : Row w p0 (rcells xs)) (hl0 : l0 = xs.length) (h : ∀ w', Fr [] w w' → K (.bool true) w') :
    callF Try.prog F_law27_MeterCounts #[.slice p0 l0 c0, .agg #[.int .i64 n, .int .i64 s]] w K := by
  apply law27_MeterCounts_call
  unfold law27_MeterCounts
  refine New.intro fun w1 f1 hB1 s1 => ?_
  obtain ⟨k3, hk3⟩ : ∃ a, a = w.heap.size := ⟨_, rfl⟩
  rw [← hk3] at hB1 ⊢
  refine alive27_c fun w2 f2 => ⟨_, rfl, cond_f (cond_d (fun _ => h w2 (f1.then f2)) fun hlb => ?_)⟩
  refine newMeter_c fun w3 f3 hM3 s3 => ⟨_, rfl, ?_⟩
  obtain ⟨m, hm⟩ : ∃ a, a = w2.heap.size := ⟨_, rfl⟩
  rw [← hm] at hM3 ⊢
  refine newMr fun w4 f4 hR4 s4 => ?_
  obtain ⟨rb, hrb⟩ : ∃ a, a = w3.heap.size := ⟨_, rfl⟩
  rw [← hrb] at hR4 ⊢
  refine ⟨_, _, ptrNil (by kernel_rfl), cond_f ?_⟩
  have f04 := ((f1.then f2).then f3).then f4
  have n1 := f1.size; have n2 := f2.size; have n3 := f3.size
  have hB4 := hB1.fr0 ((f2.then f3).then f4)
  have hk3lt := hB1.lt
  have hM4 : MtAt w4 m (gOf (xs.take 0)) := (hM3.fr0 f4).ext fun i hi => rfl
  refine LoopS.ind (fun k us w' => ∃ i : Nat, i + k = l0 ∧ us = [.slice p0 l0 c0, .pointer (some ⟨k3, 0, none⟩), .bool false, .pointer (some ⟨m, 0, none⟩), .pointer (some ⟨rb, 0, none⟩), .int .i64 (i : Int)] ∧ Fr [] w w' ∧ w4.heap.size ≤ w'.heap.size ∧ MtAt w' m (gOf (xs.take i)) ∧ MrAt w' rb (goodR (xs.take i)) ∧ ∃ f, Blk w' k3 2 f ∧ f 0 = .int .i64 n ∧ f 1 = .int .i64 s) l0
    ⟨0, by omega, rfl, f04, Nat.le_refl _, hM4, hR4, _, hB4, rfl, rfl⟩ ?_
  rintro k us r w5 I μ hgo ⟨i, hi, rfl, f05, hsz, hM5, hR5, fk, hBk, hk0, hk1⟩
  refine ⟨_, _, _, _, _, _, _, _, rfl, cond_d (fun h2 => ?_) (fun h2 => ?_)⟩
  · obtain ⟨bb, o, x, hx, ha, hc0, hc1⟩ := rowAt hX (c := c0) hl0 (i := i) (by omega)
    refine ⟨fun w' => Fr [] w w', Drw.intro fun w6 f6 s6 => ?_⟩
    have f06 := f05.then f6
    have h1 : HLd Try.prog (fun w' => Fr [] w w') T_int (.pointer (some ((⟨bb, o, none⟩ : Addr).add 0))) w6 (.int .i64 x.1) := ⟨f06, fun w' hw' => by rw [add_mk]; exact Ld.cell (by kernel_rfl) (hw'.cell hc0 (by simp))⟩
    have h2' : HLd Try.prog (fun w' => Fr [] w w') T_int (.pointer (some ((⟨bb, o, none⟩ : Addr).add 1))) w6 (.int .i64 x.2) := ⟨f06, fun w' hw' => by rw [add_mk]; exact Ld.cell (by kernel_rfl) (hw'.cell hc1 (by simp))⟩
    refine ⟨_, ha, _, ha, _, ha, _, ha, _, h1, _, h2', _, h1, _, h2', ?_⟩
    have htl : (xs.take i).length ≤ 1000 := by rw [List.length_take]; omega
    refine addM_c (hM5.fr0 f6) htl fun w7 f7 hM7 s7 => ⟨_, rfl, .inr (f06.st f7 (by omega)), ?_⟩
    have hM7 := hM7 (xs.take (i + 1)) (fun j _ => by rw [take_snoc hx]; exact gOf_snoc _ _ _)
    have hR7 : MrAt w7 rb (goodR (xs.take i)) := (hR5.fr0 f6).fr f7 (by simp; omega)
    have f07 := f06.st f7 (by omega)
    refine refAdd_c hR7 (Nat.le_trans (good_len _) htl) fun L w8 f8 hL8 hR8 => ⟨_, rfl, ?_⟩
    refine cond_ne (fun hne => absurd rfl hne) fun _ => ?_
    rw [wrap64 (n := (i : Int) + 1) (by omega) (by omega)]
    have e : (if okA x.1 x.2 then goodR (xs.take i) ++ [(x.1, x.2)] else goodR (xs.take i)) = goodR (xs.take (i + 1)) := by rw [take_snoc hx, good_snoc]
    rw [e] at hR8
    have z6 := f6.size; have z7 := f7.size; have z8 := f8.size
    refine hgo _ _ _ (k - 1) (by omega) ⟨i + 1, by omega, rfl, f07.trans f8 (fun z hz => .inr (by have := hL8 z hz; omega)), by omega, hM7.fr f8 (fun hm' => by have := hL8 _ hm'; omega), hR8, fk, ((hBk.fr0 f6).fr f7 (by simp; omega)).fr f8 (fun hm' => by have := hL8 _ hm'; omega), hk0, hk1⟩
  · have : i = l0 := by omega
    subst this
    rw [List.take_of_length_le (by omega)] at hM5 hR5
    have hxl : xs.length ≤ 1000 := by omega
    have hmlt := Blk.lt hM5
    unfold law27_MeterCounts_j2
    refine cloneMeter_c hM5 fun w6 f6 hMc => ⟨_, rfl, _, _, ptrNil (by kernel_rfl), cond_f ?_⟩
    obtain ⟨mc, hmc⟩ : ∃ a, a = w5.heap.size := ⟨_, rfl⟩
    rw [← hmc] at hMc ⊢
    refine Agree27_c hxl hMc (hR5.fr0 f6) fun w7 f7 => ⟨_, rfl, cond_f ?_⟩
    have f57 := f6.then f7
    unfold law27_MeterCounts_j1
    have hBk7 := hBk.fr0 f57
    refine ⟨_, Ld.blk (by kernel_rfl) hBk7 (by omega) hk0, _, by rw [add_mk]; exact Ld.blk (by kernel_rfl) hBk7 (by omega) hk1, ?_⟩
    refine addM_c (hMc.fr0 f7) hxl fun w8 f8 hM8 s8 => ⟨_, rfl, ?_⟩
    have f58 : Fr [] w5 w8 := f57.st f8 (by omega)
    refine Agree27_c hxl (hM5.fr0 f58) (hR5.fr0 f58) fun w9 f9 => ⟨_, rfl, cond_t ?_⟩
    have hM9 := hM5.fr0 (f58.then f9)
    refine ofMeter_c hM9 ⟨_, rfl, ?_⟩
    have o1 : ofG (gOf xs) 16 = 0 := by unfold ofG; rw [if_neg (by decide)]
    have o2 : ofG (gOf xs) (-1) = 0 := by unfold ofG; rw [if_neg (by decide)]
    rw [o1]
    refine cond_t (ofMeter_c hM9 ⟨_, rfl, ?_⟩)
    rw [o2]
    exact h w9 ((f05.then f58).then f9)
theorem MeterWords_c {a b : Int} (h : ∀ w', Fr [] w w' → K (.bool true) w') : callF Try.prog F_law27_MeterWords #[.int .i64 a, .int .i64 b] w K := by
  apply law27_MeterWords_call
  unfold law27_MeterWords
  refine alive27_c fun w1 f1 => ⟨_, rfl, cond_f (Class_c ⟨_, _, rfl, refClass_c ⟨_, rfl, ?_⟩⟩)⟩
  have tail : ∀ w', Fr [] w1 w' → law27_MeterWords_j1 a b false (decide (okN a)) w' K := by
    intro w' f
    unfold law27_MeterWords_j1
    refine Class_c ⟨_, _, rfl, ?_⟩
    by_cases ha : okN a
    · rw [decide_eq_true ha]
      by_cases hb : okN b
      · rw [decide_eq_true hb]
        refine cond_f (cond_f (Word_c fun w2 f2 => ⟨_, rfl, Word_c fun w3 f3 => ⟨_, rfl, _, _, Ef.strEq, ?_⟩⟩))
        have e : ((wordV a).toList == (wordV b).toList) = (a == b) := by
          unfold wordV
          rw [if_pos ha, if_pos hb]
          unfold okN at ha hb
          obtain ⟨m, rfl⟩ := Int.eq_ofNat_of_zero_le ha.1
          obtain ⟨k, rfl⟩ := Int.eq_ofNat_of_zero_le hb.1
          rw [Int.toNat_natCast, Int.toNat_natCast, words_apart m (by omega) k (by omega), Bool.eq_iff_iff]
          simp only [beq_iff_eq]
          omega
        rw [e, beq_self_eq_true]
        exact h w3 ((f1.then f).then (f2.then f3))
      · rw [decide_eq_false hb]
        exact cond_f (cond_t (h w' (f1.then f)))
    · rw [decide_eq_false ha]
      exact cond_t (h w' (f1.then f))
  have word : callF Try.prog F_meter_Word #[.int .i64 a] w1 fun r41 w4 => ∃ (s41 : ByteArray), r41 = .string s41 ∧ callF Try.prog F_ref27_Word #[.int .i64 a] w4 fun r43 w5 => ∃ (s43 : ByteArray), r43 = .string s43 ∧
      ∃ (b44 : Bool) (w6 : World), Ef Try.prog (do eqGuard .neq T_string (.tmp 41) (.tmp 43) (.string s41) (.string s43); binOp .neq T_string (.string s41) (.string s43) : Sem Value) w5 (.bool b44) w6 ∧
        cond b44 (K (.bool false) w6) (law27_MeterWords_j1 a b false (decide (okN a)) w6 K) := by
    refine Word_c fun w2 f2 => ⟨_, rfl, refWord_c fun w3 f3 => ⟨_, rfl, _, _, Ef.strNe, ?_⟩⟩
    rw [beq_self_eq_true]
    exact cond_f (tail w3 (f2.then f3))
  by_cases ha : okN a
  · rw [decide_eq_true ha] at word ⊢
    rw [if_pos ha]
    have ha' := ha
    unfold okN at ha'
    obtain ⟨m, rfl⟩ := Int.eq_ofNat_of_zero_le ha'.1
    rw [clsV_nat (by omega), Int.toNat_natCast]
    have e : (!(true == decide (((clsN m : Nat) : Int) ≥ 0))) = false := by simp
    rw [e]
    refine cond_f (cond_t (cond_ne (fun hne => absurd rfl hne) fun _ => ?_))
    exact cond_f word
  · rw [decide_eq_false ha] at word ⊢
    rw [if_neg ha]
    have e0 : clsV a = 0 := by unfold clsV; rw [if_neg ha]
    rw [e0]
    exact cond_f (cond_f (cond_t (cond_ne (fun hne => absurd rfl hne) fun _ => word)))
end
end Go.Sh
end

section
namespace Go.Sh
open Go Go.Fw Go.Proofs
set_option maxRecDepth 100000
set_option linter.unusedVariables false
section
variable {w : World} {K : Value → World → Prop}
theorem ix3 {i d : Nat} (hi : i < 3) : IxA Try.prog T_A3_int (.pointer (some ⟨d, 0, none⟩)) (.int .i64 (i : Int)) ⟨d, i, none⟩ := by
  have := ixA1 (P := Try.prog) (t := T_A3_int) (n := 3) (by kernel_rfl) (b := d) (o := 0) (k := .i64) (i := (i : Int)) (by omega) (by omega)
  rwa [Int.toNat_natCast, Nat.zero_add] at this
theorem zero3 {g : Nat → Value} : ∀ i, i < 3 → updN g 0 (List.replicate 3 (.int .i64 0)) i = .int .i64 0 := by
  intro i hi
  unfold updN
  rw [dif_pos ⟨Nat.zero_le _, by simp; omega⟩]
  exact List.getElem_replicate _
theorem cF_b (c : Nat) (r : Int × Int) : 0 ≤ cF c r ∧ cF c r ≤ (1 : Nat) := by unfold cF; split <;> (try split) <;> omega
theorem new3 {K : Nat → World → Prop} (h : ∀ w', Fr [] w w' → Blk w' w.heap.size 3 (fun _ => .int .i64 0) → w'.heap.size = w.heap.size + 1 → K w.heap.size w') :
    ∃ z, Pu Try.prog (zeroValue T_A3_int) z ∧ New z.cells T_A3_int w fun k w2 => ∃ w3, Sto Try.prog T_A3_int (.pointer (some ⟨k, 0, none⟩)) (.agg #[.int .i64 0, .int .i64 0, .int .i64 0]) w2 w3 ∧ K k w3 := by
  refine newZ (s := 3) (by kernel_rfl) fun w2 g2 f2 hB2 s2 => ?_
  refine Sto.agg (m := 3) (cs := List.replicate 3 (.int .i64 0)) (by kernel_rfl) rfl hB2 (Nat.le_refl 3) (by intro v hv; rw [List.mem_replicate] at hv; rw [hv.2]; rfl) fun w3 f3 hB3 s3 => ?_
  exact h w3 (f2.st f3 (Nat.le_refl _)) (hB3.ext zero3) (by omega)
set_option maxHeartbeats 8000000 in
theorem MeterTotals_c {p0 : Option Addr} {l0 c0 : Nat} {xs : List (Int × Int)} (hX : Row w p0 (rcells xs)) (hl0 : l0 = xs.length) (h : ∀ w', Fr [] w w' → K (.bool true) w') :
    callF Try.prog F_law27_MeterTotals #[.slice p0 l0 c0] w K := by
  apply law27_MeterTotals_call
  unfold law27_MeterTotals
  refine alive27_c fun w1 f1 => ⟨_, rfl, cond_f (cond_d (fun _ => h w1 f1) fun hlb => ?_)⟩
  refine newMeter_c fun w2 f2 hM2 s2 => ⟨_, rfl, newMeter_c fun w3 f3 hN3 s3 => ⟨_, rfl, ?_⟩⟩
  obtain ⟨m, hm⟩ : ∃ a, a = w1.heap.size := ⟨_, rfl⟩
  obtain ⟨m2, hm2⟩ : ∃ a, a = w2.heap.size := ⟨_, rfl⟩
  rw [← hm] at hM2 ⊢
  rw [← hm2] at hN3 ⊢
  refine ⟨_, _, ptrNil (by kernel_rfl), cond_f ⟨_, _, ptrNil (by kernel_rfl), cond_f ?_⟩⟩
  unfold law27_MeterTotals_j4
  refine new3 fun w4 f4 hB4 s4 => new3 fun w5 f5 hB5 s5 => ?_
  obtain ⟨a5, h5⟩ : ∃ a, a = w3.heap.size := ⟨_, rfl⟩
  obtain ⟨a6, h6⟩ : ∃ a, a = w4.heap.size := ⟨_, rfl⟩
  rw [← h5] at hB4 ⊢
  rw [← h6] at hB5 ⊢
  have f05 := (((f1.then f2).then f3).then f4).then f5
  have z1 := f1.size
  have hMs : MtAt w5 m (gOf (xs.take 0)) := (hM2.fr0 ((f3.then f4).then f5)).ext fun i hi => rfl
  have hNs : MtAt w5 m2 (gOf (xs.drop (l0 - 0))) := (hN3.fr0 (f4.then f5)).ext fun i hi => by rw [List.drop_of_length_le (by omega)]; rfl
  refine LoopS.ind (fun k us w' => ∃ i : Nat, i + k = l0 ∧ us = [.slice p0 l0 c0, .bool false, .pointer (some ⟨m, 0, none⟩), .pointer (some ⟨m2, 0, none⟩), .pointer (some ⟨a5, 0, none⟩), .pointer (some ⟨a6, 0, none⟩), .int .i64 (i : Int)] ∧ Fr [] w w' ∧ w5.heap.size ≤ w'.heap.size ∧ MtAt w' m (gOf (xs.take i)) ∧ MtAt w' m2 (gOf (xs.drop (l0 - i))) ∧
      Blk w' a5 3 (fun c => .int .i64 (rsum (cF c) (xs.take i))) ∧ Blk w' a6 3 (fun c => .int .i64 (gOf (xs.take i) (16 + c)))) l0
    ⟨0, by omega, rfl, f05, Nat.le_refl _, hMs, hNs, (hB4.fr0 f5), hB5⟩ ?_
  rintro k us r w6 I μ hgo ⟨i, hi, rfl, f06, hsz, hM6, hN6, hC6, hS6⟩
  refine ⟨_, _, _, _, _, _, _, _, _, rfl, cond_d (fun h2 => ?_) (fun h2 => ?_)⟩
  · have hil : i < l0 := by omega
    obtain ⟨bb, o, x, hx, ha, hc0, hc1⟩ := rowAt hX (c := c0) hl0 hil
    obtain ⟨bb', o', y, hy, ha', hc0', hc1'⟩ := rowAt hX (c := c0) hl0 (i := l0 - 1 - i) (by omega)
    have ld : ∀ w', Fr [] w w' → ∀ b o j v, w.cell? ⟨b, o + j, none⟩ = some v → Ld Try.prog T_int (.pointer (some ((⟨b, o, none⟩ : Addr).add j))) w' v := fun w' hw' b o j v hc => by rw [add_mk]; exact Ld.cell (by kernel_rfl) (hw'.cell hc (by simp))
    have htl : (xs.take i).length ≤ 1000 := by rw [List.length_take]; omega
    have hdl : (xs.drop (l0 - i)).length ≤ 1000 := by rw [List.length_drop]; omega
    refine ⟨fun w' => Fr [] w w', Drw.intro fun w7 f7 s7 => ?_⟩
    have f07 := f06.then f7
    refine ⟨_, ha, _, ha, _, ⟨f07, fun w' hw' => ld w' hw' _ _ 0 _ hc0⟩, _, ld w7 f07 _ _ 1 _ hc1, .inl rfl, ?_⟩
    refine addM_c (hM6.fr0 f7) htl fun w8 f8 hM8 s8 => ⟨_, rfl, ?_⟩
    have hM8 := hM8 (xs.take (i + 1)) (fun j _ => by rw [take_snoc hx]; exact gOf_snoc _ _ _)
    have f08 := f07.st f8 (by omega)
    refine ⟨fun w' => Fr [] w w', Drw.intro fun w9 f9 s9 => ?_⟩
    have f09 := f08.then f9
    have ei : IntKind.i64.wrap (IntKind.i64.wrap (((l0 : Nat) : Int) - 1) - (i : Int)) = ((l0 - 1 - i : Nat) : Int) := by
      rw [wrap64 (n := (l0 : Int) - 1) (by omega) (by omega), wrap64 (by omega) (by omega)]; omega
    rw [ei]
    refine ⟨_, ha', _, ha', _, ⟨f09, fun w' hw' => ld w' hw' _ _ 0 _ hc0'⟩, _, ld w9 f09 _ _ 1 _ hc1', .inl rfl, ?_⟩
    have hN9 : MtAt w9 m2 (gOf (xs.drop (l0 - i))) := ((hN6.fr0 f7).fr f8 (by simp; omega)).fr0 f9
    refine addM_c hN9 hdl fun w10 f10 hN10 s10 => ⟨_, rfl, ?_⟩
    have ed : xs.drop (l0 - (i + 1)) = y :: xs.drop (l0 - i) := by
      obtain ⟨hlt, hy'⟩ := List.getElem?_eq_some_iff.1 hy
      have : l0 - (i + 1) = l0 - 1 - i := by omega
      rw [this, List.drop_eq_getElem_cons hlt, hy', show l0 - 1 - i + 1 = l0 - i by omega]
    have hN10 := hN10 (xs.drop (l0 - (i + 1))) (fun j _ => by rw [ed, gOf_cons]; exact Int.add_comm (fG j y) _)
    have f010 := f09.st f10 (by omega)
    have z6 := f7.size
    have hM10 : MtAt w10 m (gOf (xs.take (i + 1))) := (hM8.fr0 f9).fr f10 (by simp; omega)
    have hC10 := (((hC6.fr0 f7).fr f8 (by simp; omega)).fr0 f9).fr f10 (by simp; omega)
    have hS10 := (((hS6.fr0 f7).fr f8 (by simp; omega)).fr0 f9).fr f10 (by simp; omega)
    have ea : IntKind.i64.wrap ((i : Int) + 1) = ((i + 1 : Nat) : Int) := by rw [wrap64 (by omega) (by omega)]; rfl
    refine ⟨_, ha, _, ld w10 f010 _ _ 0 _ hc0, Class_c ⟨_, _, rfl, ?_⟩⟩
    have cst : ∀ c : Nat, rsum (cF c) (xs.take (i + 1)) = rsum (cF c) (xs.take i) + cF c x := fun c => rsum_take _ hx
    have sst : ∀ c : Nat, gOf (xs.take (i + 1)) (16 + c) = gOf (xs.take i) (16 + c) + fG (16 + c) x := fun c => rsum_take _ hx
    have skip : ¬ okA x.1 x.2 → ∀ bq, law27_MeterTotals_j1 I μ [.slice p0 l0 c0, .bool false, .pointer (some ⟨m, 0, none⟩), .pointer (some ⟨m2, 0, none⟩), .pointer (some ⟨a5, 0, none⟩), .pointer (some ⟨a6, 0, none⟩), .int .i64 (i : Int)] w6 p0 l0 c0 false (some ⟨m, 0, none⟩) (some ⟨m2, 0, none⟩) ⟨a5, 0, none⟩ ⟨a6, 0, none⟩ (i : Int) bq false w10 K := by
      intro hno bq
      unfold law27_MeterTotals_j1
      refine cond_f ?_
      rw [ea]
      refine hgo _ _ _ (k - 1) (by omega) ⟨i + 1, by omega, rfl, f010, by omega, hM10, hN10, hC10.ext fun c _ => ?_, hS10.ext fun c _ => ?_⟩
      · rw [cst c]; unfold cF; rw [if_neg hno, Int.add_zero]
      · rw [sst c, show fG (16 + c) x = 0 from fG_bad hno _, Int.add_zero]
    by_cases ho : okA x.1 x.2
    · have ho1 := ho.1
      rw [if_pos ho, decide_eq_true ho1]
      refine cond_t ⟨_, ha, _, ld w10 f010 _ _ 1 _ hc1, cond_d (fun h7 => ⟨_, ha, _, ld w10 f010 _ _ 1 _ hc1, ?_⟩) (fun h7 => absurd ho.2.1 h7)⟩
      rw [decide_eq_true ho.2.2]
      refine cond_f ?_
      unfold okN at ho1
      obtain ⟨c, hc⟩ : ∃ c, c = clsN x.1.toNat := ⟨_, rfl⟩
      have hc2 : clsV x.1 = (c : Int) := by unfold clsV; rw [if_pos ho.1, hc]
      have hc3 : c < 3 := by have := clsN_le x.1.toNat; omega
      rw [hc2]
      unfold law27_MeterTotals_j2
      refine cond_t (cond_d (fun _ => ?_) (fun h7 => by omega))
      rw [decide_eq_true (by omega)]
      unfold law27_MeterTotals_j1
      refine cond_t ⟨_, ix3 hc3, _, Ld.blk (by kernel_rfl) hC10 (by omega) rfl, _, ix3 hc3, ?_⟩
      refine Sto.blk (by kernel_rfl) hC10 (by omega) rfl rfl fun w11 f11 hC11 s11 => ?_
      have f011 := f010.st f11 (by omega)
      have hS11 := hS10.fr f11 (by simp; omega)
      refine ⟨fun w' => Fr [] w11 w', Drw.intro fun w12 f12 s12 => ?_⟩
      refine ⟨_, ix3 hc3, _, ha, _, ⟨f12, fun w' hw' => Ld.blk (by kernel_rfl) (hS11.fr0 hw') (by omega) rfl⟩, _, ld w12 (f011.then f12) _ _ 1 _ hc1, .inl rfl, _, ix3 hc3, ?_⟩
      have hS12 := hS11.fr0 f12
      refine Sto.blk (by kernel_rfl) hS12 (by omega) rfl rfl fun w13 f13 hS13 s13 => ?_
      have hb1 := rsum_b (cF_b c) (xs.take i)
      have hb2 := gOf_b (xs.take i) (16 + c)
      have hx2 := ho.2
      have e1 : cF c x = 1 := by unfold cF; rw [if_pos ho, if_pos (by rw [okA_cls ho]; exact hc2)]
      have e2 : fG (16 + c) x = x.2 := by
        unfold fG; rw [if_pos ho, if_neg (by omega), if_pos (by omega), if_pos (by rw [hc2]; omega)]
      have htl2 : (xs.take i).length ≤ 100 := by rw [List.length_take]; omega
      rw [ea]
      refine hgo _ _ _ (k - 1) (by omega) ⟨i + 1, by omega, rfl, (f011.then f12).st f13 (by omega), by omega, ((hM10.fr f11 (by simp; omega)).fr0 f12).fr f13 (by simp; omega), ((hN10.fr f11 (by simp; omega)).fr0 f12).fr f13 (by simp; omega), ((hC11.fr0 f12).fr f13 (by simp; omega)).ext fun j hj => ?_, hS13.ext fun j hj => ?_⟩
      · show (if j = c then Value.int .i64 (IntKind.i64.wrap (rsum (cF c) (xs.take i) + 1)) else Value.int .i64 (rsum (cF j) (xs.take i))) = Value.int .i64 (rsum (cF j) (xs.take (i + 1)))
        rw [cst j]
        by_cases hjc : j = c
        · subst hjc; rw [if_pos rfl, e1, wrap64 (by omega) (by omega)]
        · rw [if_neg hjc]
          have : cF j x = 0 := by unfold cF; rw [if_pos ho, if_neg (by rw [okA_cls ho, hc2]; omega)]
          rw [this, Int.add_zero]
      · show (if j = c then Value.int .i64 (IntKind.i64.wrap (gOf (xs.take i) (16 + c) + x.2)) else Value.int .i64 (gOf (xs.take i) (16 + j))) = Value.int .i64 (gOf (xs.take (i + 1)) (16 + j))
        rw [sst j]
        by_cases hjc : j = c
        · subst hjc; rw [if_pos rfl, e2, wrap64 (by omega) (by omega)]
        · rw [if_neg hjc]
          have : fG (16 + j) x = 0 := by unfold fG; rw [if_pos ho, if_neg (by omega), if_pos (by omega), if_neg (by rw [hc2]; omega)]
          rw [this, Int.add_zero]
    · rw [if_neg ho]
      have j2 : law27_MeterTotals_j2 I μ [.slice p0 l0 c0, .bool false, .pointer (some ⟨m, 0, none⟩), .pointer (some ⟨m2, 0, none⟩), .pointer (some ⟨a5, 0, none⟩), .pointer (some ⟨a6, 0, none⟩), .int .i64 (i : Int)] w6 p0 l0 c0 false (some ⟨m, 0, none⟩) (some ⟨m2, 0, none⟩) ⟨a5, 0, none⟩ ⟨a6, 0, none⟩ (i : Int) 11 (clsV x.1) w10 K := by
        unfold law27_MeterTotals_j2
        exact cond_f (skip ho _)
      by_cases ho1 : okN x.1
      · rw [decide_eq_true ho1]
        refine cond_t ⟨_, ha, _, ld w10 f010 _ _ 1 _ hc1, cond_d (fun h7 => ⟨_, ha, _, ld w10 f010 _ _ 1 _ hc1, ?_⟩) (fun h7 => ?_)⟩
        · have : ¬ x.2 ≤ 65535 := fun hh => ho ⟨ho1, h7, hh⟩
          rw [decide_eq_false this]
          exact cond_f j2
        · exact cond_f j2
      · rw [decide_eq_false ho1]
        exact cond_f (cond_f j2)
  · have : i = l0 := by omega
    subst this
    rw [List.take_of_length_le (by omega)] at hM6 hC6 hS6
    rw [Nat.sub_self, List.drop_zero] at hN6
    have hxl : xs.length ≤ 1000 := by omega
    unfold law27_MeterTotals_j3
    refine LoopS.ind (fun k us w' => ∃ i : Nat, i + k = 3 ∧ us = [.bool false, .pointer (some ⟨m, 0, none⟩), .pointer (some ⟨m2, 0, none⟩), .pointer (some ⟨a5, 0, none⟩), .pointer (some ⟨a6, 0, none⟩), .int .i64 (i : Int)] ∧ w' = w6) 3 ⟨0, rfl, rfl, rfl⟩ ?_
    rintro k us r w7 I μ hgo ⟨c, hc, rfl, rfl⟩
    refine ⟨_, _, _, _, _, _, rfl, cond_d (fun h3 => ?_) (fun h3 => h w7 f06)⟩
    refine total_c hM6 (gOf_small hxl) (fun hb => absurd (by omega) hb) fun _ => ⟨_, _, rfl, total_c hN6 (gOf_small hxl) (fun hb => absurd (by omega) hb) fun _ => ⟨_, _, rfl, ?_⟩⟩
    rw [Int.toNat_natCast, totN_gOf (by omega)]
    refine ⟨_, ix3 (by omega), _, Ld.blk (by kernel_rfl) hC6 (by omega) rfl, cond_ne (fun hne => absurd rfl hne) fun _ => ?_⟩
    refine ⟨_, ix3 (by omega), _, Ld.blk (by kernel_rfl) hS6 (by omega) rfl, cond_ne (fun hne => absurd rfl hne) fun _ => cond_ne (fun hne => absurd rfl hne) fun _ => cond_ne (fun hne => absurd rfl hne) fun _ => ?_⟩
    rw [wrap64 (n := (c : Int) + 1) (by omega) (by omega)]
    exact hgo _ _ _ (k - 1) (by omega) ⟨c + 1, by omega, rfl, rfl⟩
end
end Go.Sh
end
