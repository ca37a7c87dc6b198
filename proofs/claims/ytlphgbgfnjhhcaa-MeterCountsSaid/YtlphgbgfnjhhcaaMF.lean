/- A part of a proof of a given law of this program: lemmas, printed forms of its functions, contracts. It has no conditions of its own. -/
import Derived.Test.YtlphgbgfnjhhcaaMFw
import Derived.Test.YtlphgbgfnjhhcaaMSh
import Derived.Test.YtlphgbgfnjhhcaaMFw3

section
namespace Go.Sh
open Go Go.Fw Go.Proofs
set_option maxRecDepth 100000
set_option linter.unusedVariables false
theorem sync_atomic_Int64_Add_c {b n o : Nat} {g : Nat → Value} {x y : Int} {w : World} (hB : Blk w b n g) (ho : o < n) (hv : g o = .int .i64 x) {K : Value → World → Prop}
    (h : ∀ w', Fr [b] w w' → Blk w' b n (upd g o (.int .i64 (IntKind.i64.wrap (x + y)))) → w'.heap.size = w.heap.size → K (.int .i64 (IntKind.i64.wrap (x + y))) w') :
    callF Try.prog F_sync_atomic_Int64_Add #[.pointer (some ⟨b, o, none⟩), .int .i64 y] w K := by
  apply sync_atomic_Int64_Add_call
  refine ⟨_, rfl, ?_⟩
  refine sync_atomic_AddInt64_c hB ho hv fun w' h1 h2 h3 => ?_
  exact ⟨_, rfl, h w' h1 h2 h3⟩
theorem sync_atomic_Int64_Store_c {b n o : Nat} {g : Nat → Value} {y : Int} {w : World} (hB : Blk w b n g) (ho : o < n) {K : Value → World → Prop}
    (h : ∀ w', Fr [b] w w' → Blk w' b n (upd g o (.int .i64 y)) → w'.heap.size = w.heap.size → K (.tuple #[]) w') :
    callF Try.prog F_sync_atomic_Int64_Store #[.pointer (some ⟨b, o, none⟩), .int .i64 y] w K := by
  apply sync_atomic_Int64_Store_call
  refine ⟨_, rfl, ?_⟩
  refine sync_atomic_StoreInt64_c hB ho fun w' h1 h2 h3 => ?_
  exact ⟨rfl, h w' h1 h2 h3⟩
theorem sync_atomic_Int64_Load_c {b n o : Nat} {g : Nat → Value} {x : Int} {w : World} (hB : Blk w b n g) (ho : o < n) (hv : g o = .int .i64 x) {K : Value → World → Prop}
    (h : K (.int .i64 x) w) : callF Try.prog F_sync_atomic_Int64_Load #[.pointer (some ⟨b, o, none⟩)] w K := by
  apply sync_atomic_Int64_Load_call
  refine ⟨_, rfl, ?_⟩
  refine sync_atomic_LoadInt64_c hB ho hv ?_
  exact ⟨_, rfl, h⟩
end Go.Sh
end

section
namespace Go.Sh
open Go Go.Fw Go.Proofs
set_option maxRecDepth 100000
set_option linter.unusedVariables false
def MtAt (w : World) (b : Nat) (g : Nat → Int) : Prop := Blk w b 19 (fun i => .int .i64 (g i))
def clsN (n : Nat) : Nat := if n < 3 then 0 else if n < 5 then 1 else 2
def okN (n : Int) : Prop := 0 ≤ n ∧ n < 16
instance (n : Int) : Decidable (okN n) := by unfold okN; infer_instance
def clsV (n : Int) : Int := if okN n then (clsN n.toNat : Int) else 0
theorem clsN_le (n : Nat) : clsN n ≤ 2 := by unfold clsN; split <;> (try split) <;> omega
theorem clsV_nat {n : Nat} (h : n < 16) : clsV (n : Int) = (clsN n : Int) := by unfold clsV; rw [if_pos ⟨by omega, by omega⟩, Int.toNat_natCast]
section
variable {w : World} {b : Nat} {g : Nat → Int} {K : Value → World → Prop}
theorem MtAt.fr {L : List Nat} {w' : World} (h : MtAt w b g) (hf : Fr L w w') (hn : b ∉ L) : MtAt w' b g := Blk.fr h hf hn
theorem MtAt.fr0 {w' : World} (h : MtAt w b g) (hf : Fr [] w w') : MtAt w' b g := Blk.fr0 h hf
theorem MtAt.ext {g' : Nat → Int} (h : MtAt w b g) (he : ∀ i, i < 19 → g i = g' i) : MtAt w b g' := Blk.ext h fun i hi => by show Value.int .i64 (g i) = _; rw [he i hi]
theorem ixCnt {i : Nat} (hi : i < 16) : IxA Try.prog T_A16_sync_atomic_Int64 (.pointer (some ((⟨b, 0, none⟩ : Addr).add 0))) (.int .i64 (i : Int)) ⟨b, i, none⟩ := by
  have := ixA1 (P := Try.prog) (t := T_A16_sync_atomic_Int64) (n := 16) (by kernel_rfl) (b := b) (o := 0) (k := .i64) (i := (i : Int)) (by omega) (by omega)
  rwa [Int.toNat_natCast, Nat.zero_add] at this
theorem ixSum {i : Nat} (hi : i < 3) : IxA Try.prog T_A3_sync_atomic_Int64 (.pointer (some ((⟨b, 0, none⟩ : Addr).add 16))) (.int .i64 (i : Int)) ⟨b, 16 + i, none⟩ := by
  have := ixA1 (P := Try.prog) (t := T_A3_sync_atomic_Int64) (n := 3) (by kernel_rfl) (b := b) (o := 16) (k := .i64) (i := (i : Int)) (by omega) (by omega)
  rw [Int.toNat_natCast] at this
  rw [add_mk]; exact this
theorem Class_c {n : Int} (h : K (.tuple #[.int .i64 (clsV n), .bool (decide (okN n))]) w) : callF Try.prog F_meter_Class #[.int .i64 n] w K := by
  apply meter_Class_call
  unfold meter_Class
  by_cases hok : okN n
  · rw [decide_eq_true hok] at h
    have hok' := hok
    unfold okN at hok'
    obtain ⟨m, rfl⟩ := Int.eq_ofNat_of_zero_le hok'.1
    rw [clsV_nat (by omega)] at h
    unfold clsN at h
    refine cond_d (fun h1 => by omega) fun h1 => ?_
    unfold meter_Class_j1
    rw [decide_eq_false (by omega)]
    refine cond_f (cond_d (fun h3 => ?_) fun h3 => cond_d (fun h4 => ?_) fun h4 => ?_)
    · rw [if_pos (by omega)] at h; exact h
    · rw [if_neg (by omega), if_pos (by omega)] at h; exact h
    · rw [if_neg (by omega), if_neg (by omega)] at h; exact h
  · rw [decide_eq_false hok] at h
    have e : clsV n = 0 := by unfold clsV; rw [if_neg hok]
    rw [e] at h
    unfold okN at hok
    refine cond_d (fun h1 => ?_) fun h1 => ?_
    · unfold meter_Class_j1; exact cond_t h
    · unfold meter_Class_j1; rw [decide_eq_true (by omega)]; exact cond_t h
theorem newMeter_c (h : ∀ w', Fr [] w w' → MtAt w' w.heap.size (fun _ => 0) → w'.heap.size = w.heap.size + 1 → K (.pointer (some ⟨w.heap.size, 0, none⟩)) w') : callF Try.prog F_meter_New #[] w K := by
  apply meter_New_call
  unfold meter_New
  refine New.intro fun w1 f1 hB s1 => h w1 f1 (Blk.ext (n := 19) hB fun i hi => ?_) s1
  have : ∀ i, i < 19 → (#[.int .i64 0, .int .i64 0, .int .i64 0, .int .i64 0, .int .i64 0, .int .i64 0, .int .i64 0, .int .i64 0, .int .i64 0, .int .i64 0, .int .i64 0, .int .i64 0, .int .i64 0, .int .i64 0, .int .i64 0, .int .i64 0, .int .i64 0, .int .i64 0, .int .i64 0] : Array Value).getD i undef = .int .i64 0 := by
    intro i hi
    rcases i with _ | _ | _ | _ | _ | _ | _ | _ | _ | _ | _ | _ | _ | _ | _ | _ | _ | _ | _ | i
    all_goals first | rfl | omega
  exact this i hi
def okA (n s : Int) : Prop := okN n ∧ 0 ≤ s ∧ s ≤ 65535
instance (n s : Int) : Decidable (okA n s) := by unfold okA; infer_instance
def addG (g : Nat → Int) (n : Nat) (s : Int) : Nat → Int := fun i => if i = n then g i + 1 else if i = 16 + clsN n then g i + s else g i
def small (g : Nat → Int) : Prop := ∀ i, 0 ≤ g i ∧ g i ≤ 1000000000000
theorem addMeter_c {n s : Int} (hM : MtAt w b g) (hs : small g) (hbad : ¬ okA n s → K (.int .i64 11) w) (hok : okA n s → ∀ w', Fr [b] w w' → MtAt w' b (addG g n.toNat s) → w'.heap.size = w.heap.size → K (.int .i64 0) w') :
    callF Try.prog F_meter_Meter_Add #[.pointer (some ⟨b, 0, none⟩), .int .i64 n, .int .i64 s] w K := by
  apply meter_Meter_Add_call
  unfold meter_Meter_Add
  refine Class_c ⟨_, _, rfl, ?_⟩
  by_cases ho : okN n
  · rw [decide_eq_true ho]
    refine cond_f (cond_d (fun h => hbad (fun hh => by unfold okA at hh; omega)) fun h1 => cond_d (fun h => hbad (fun hh => by unfold okA at hh; omega)) fun h2 => ?_)
    have ha : okA n s := ⟨ho, by omega, by omega⟩
    have ho' := ho
    unfold okN at ho'
    obtain ⟨m, rfl⟩ := Int.eq_ofNat_of_zero_le ho'.1
    rw [clsV_nat (by omega)]
    unfold meter_Meter_Add_j1
    have hc := clsN_le m
    refine ⟨_, rfl, _, ixCnt (by omega), ?_⟩
    refine sync_atomic_Int64_Add_c hM (by omega) rfl fun w1 f1 hB1 s1 => ⟨_, rfl, _, rfl, _, ixSum (by omega), ?_⟩
    have e0 : (16 + clsN m = m) = False := by simp; omega
    refine sync_atomic_Int64_Add_c (x := g (16 + clsN m)) hB1 (by omega) (by unfold upd; rw [if_neg (by omega)]) fun w2 f2 hB2 s2 => ⟨_, rfl, ?_⟩
    refine hok ha w2 (f1.trans f2 (by simp)) (Blk.ext hB2 fun i hi => ?_) (by omega)
    have b1 := hs m; have b2 := hs (16 + clsN m)
    rw [wrap64 (n := g m + 1) (by omega) (by omega), wrap64 (n := g (16 + clsN m) + s) (by omega) (by omega)]
    unfold upd
    show _ = Value.int .i64 (addG g (m : Int).toNat s i)
    rw [Int.toNat_natCast]
    unfold addG
    by_cases h3 : i = 16 + clsN m
    · subst h3; rw [if_pos rfl, if_neg (by omega), if_pos rfl]
    · rw [if_neg h3]
      by_cases h4 : i = m
      · subst h4; rw [if_pos rfl, if_pos rfl]
      · rw [if_neg h4, if_neg h4, if_neg h3]
  · rw [decide_eq_false ho]
    exact cond_t (hbad fun hh => ho hh.1)
def ofG (g : Nat → Int) (n : Int) : Int := if okN n then g n.toNat else 0
theorem ofMeter_c {n : Int} (hM : MtAt w b g) (h : K (.int .i64 (ofG g n)) w) : callF Try.prog F_meter_Meter_Of #[.pointer (some ⟨b, 0, none⟩), .int .i64 n] w K := by
  apply meter_Meter_Of_call
  unfold meter_Meter_Of
  refine Class_c ⟨_, _, rfl, ?_⟩
  unfold ofG at h
  by_cases ho : okN n
  · rw [decide_eq_true ho]
    rw [if_pos ho] at h
    have ho' := ho
    unfold okN at ho'
    obtain ⟨m, rfl⟩ := Int.eq_ofNat_of_zero_le ho'.1
    refine cond_f ⟨_, rfl, _, ixCnt (by omega), ?_⟩
    refine sync_atomic_Int64_Load_c hM (by omega) rfl ⟨_, rfl, ?_⟩
    rwa [Int.toNat_natCast] at h
  · rw [decide_eq_false ho]
    rw [if_neg ho] at h
    exact cond_t h
theorem ofG_nat {n : Nat} (h : n < 16) : ofG g (n : Int) = g n := by unfold ofG; rw [if_pos ⟨by omega, by omega⟩, Int.toNat_natCast]
def totN (g : Nat → Int) (c : Nat) : Nat → Int
  | 0 => 0
  | k + 1 => totN g c k + (if clsN k = c then g k else 0)
theorem totN_succ (g : Nat → Int) (c k : Nat) : totN g c (k + 1) = totN g c k + (if clsN k = c then g k else 0) := rfl
theorem totN_b (hs : small g) (c k : Nat) : 0 ≤ totN g c k ∧ totN g c k ≤ 1000000000000 * k := by
  induction k with
  | zero => simp [totN]
  | succ k ih =>
    have := hs k
    unfold totN
    split <;> omega
theorem total_c {c : Int} (hM : MtAt w b g) (hs : small g) (hbad : ¬ (0 ≤ c ∧ c < 3) → K (.tuple #[.int .i64 0, .int .i64 0]) w) (hok : 0 ≤ c ∧ c < 3 → K (.tuple #[.int .i64 (totN g c.toNat 16), .int .i64 (g (16 + c.toNat))]) w) :
    callF Try.prog F_meter_Meter_Total #[.pointer (some ⟨b, 0, none⟩), .int .i64 c] w K := by
  apply meter_Meter_Total_call
  unfold meter_Meter_Total
  refine cond_d (fun h => hbad (by omega)) fun h1 => cond_d (fun h => hbad (by omega)) fun h2 => ?_
  have hc := hok ⟨by omega, by omega⟩
  obtain ⟨m, rfl⟩ := Int.eq_ofNat_of_zero_le (show 0 ≤ c by omega)
  rw [Int.toNat_natCast] at hc
  unfold meter_Meter_Total_j2
  refine LoopS.ind (fun k us w' => w' = w ∧ ∃ i : Nat, i + k = 16 ∧ us = [.pointer (some ⟨b, 0, none⟩), .int .i64 (m : Int), .int .i64 (totN g m i), .int .i64 0, .int .i64 (i : Int)]) 16 ⟨rfl, 0, rfl, rfl⟩ ?_
  rintro k us r w2 I μ hgo ⟨rfl, i, hi, rfl⟩
  refine ⟨_, _, _, _, _, rfl, cond_d (fun h3 => ?_) (fun h3 => ?_)⟩
  · refine Class_c ⟨_, _, rfl, ?_⟩
    rw [clsV_nat (by omega), wrap64 (n := (i : Int) + 1) (by omega) (by omega)]
    have hb := totN_b hs m i; have hb2 := hs i
    refine cond_eq (fun e => ?_) (fun e => ?_)
    · refine ofMeter_c hM ⟨_, rfl, ?_⟩
      rw [ofG_nat (by omega), wrap64 (n := totN g m i + g i) (by omega) (by omega)]
      refine hgo _ _ _ (k - 1) (by omega) ⟨rfl, i + 1, by omega, ?_⟩
      have : totN g m (i + 1) = totN g m i + g i := by rw [totN_succ, if_pos (by omega)]
      rw [this]; rfl
    · refine hgo _ _ _ (k - 1) (by omega) ⟨rfl, i + 1, by omega, ?_⟩
      have : totN g m (i + 1) = totN g m i := by rw [totN_succ, if_neg (by omega)]; omega
      rw [this]; rfl
  · have : i = 16 := by omega
    subst this
    unfold meter_Meter_Total_j1
    refine ⟨_, rfl, _, ixSum (by omega), ?_⟩
    exact sync_atomic_Int64_Load_c hM (by omega) rfl ⟨_, rfl, hc⟩
theorem cloneMeter_c (hM : MtAt w b g) (h : ∀ w', Fr [] w w' → MtAt w' w.heap.size g → K (.pointer (some ⟨w.heap.size, 0, none⟩)) w') : callF Try.prog F_meter_Meter_Clone #[.pointer (some ⟨b, 0, none⟩)] w K := by
  apply meter_Meter_Clone_call
  unfold meter_Meter_Clone
  refine newMeter_c fun w1 f1 hM1 s1 => ⟨_, rfl, ?_⟩
  obtain ⟨d, hd⟩ : ∃ d, d = w.heap.size := ⟨_, rfl⟩
  rw [← hd] at hM1 h ⊢
  have hbl : b < w.heap.size := Blk.lt hM
  refine LoopS.ind (fun k us w' => ∃ i : Nat, i + k = 16 ∧ us = [.pointer (some ⟨b, 0, none⟩), .pointer none, .pointer (some ⟨d, 0, none⟩), .int .i64 (i : Int)] ∧ Fr [] w w' ∧ MtAt w' d (fun j => if j < i then g j else 0)) 16 ⟨0, rfl, rfl, f1, hM1.ext fun i hi => by simp⟩ ?_
  rintro k us r w2 I μ hgo ⟨i, hi, rfl, f2, hM2⟩
  refine ⟨_, _, _, _, rfl, cond_d (fun h3 => ?_) (fun h3 => ?_)⟩
  · refine Drw.intro fun w3 f3 s3 => ⟨_, rfl, _, ixCnt (by omega), _, rfl, _, ixCnt (by omega), ?_⟩
    refine sync_atomic_Int64_Load_c (x := g i) (hM.fr0 (f2.then f3)) (by omega) rfl ⟨_, rfl, ?_⟩
    refine sync_atomic_Int64_Store_c (hM2.fr0 f3) (by omega) fun w4 f4 hB4 s4 => ⟨rfl, ?_⟩
    rw [wrap64 (n := (i : Int) + 1) (by omega) (by omega)]
    refine hgo _ _ _ (k - 1) (by omega) ⟨i + 1, by omega, rfl, (f2.then f3).st f4 (by omega), Blk.ext hB4 fun j hj => ?_⟩
    show (if j = i then Value.int .i64 (g i) else Value.int .i64 (if j < i then g j else 0)) = Value.int .i64 (if j < i + 1 then g j else 0)
    by_cases hji : j = i
    · subst hji; rw [if_pos rfl, if_pos (by omega)]
    · rw [if_neg hji]
      by_cases h5 : j < i
      · rw [if_pos h5, if_pos (by omega)]
      · rw [if_neg h5, if_neg (by omega)]
  · have : i = 16 := by omega
    subst this
    unfold meter_Meter_Clone_j1
    refine LoopS.ind (fun k us w' => ∃ i : Nat, i + k = 3 ∧ us = [.pointer (some ⟨b, 0, none⟩), .pointer none, .pointer (some ⟨d, 0, none⟩), .int .i64 (i : Int)] ∧ Fr [] w w' ∧ MtAt w' d (fun j => if j < 16 + i then g j else 0)) 3 ⟨0, rfl, rfl, f2, hM2⟩ ?_
    rintro k us r w2 I μ hgo ⟨i, hi, rfl, f2, hM2⟩
    refine ⟨_, _, _, _, rfl, cond_d (fun h3 => ?_) (fun h3 => ?_)⟩
    · refine Drw.intro fun w3 f3 s3 => ⟨_, rfl, _, ixSum (by omega), _, rfl, _, ixSum (by omega), ?_⟩
      refine sync_atomic_Int64_Load_c (x := g (16 + i)) (hM.fr0 (f2.then f3)) (by omega) rfl ⟨_, rfl, ?_⟩
      refine sync_atomic_Int64_Store_c (hM2.fr0 f3) (by omega) fun w4 f4 hB4 s4 => ⟨rfl, ?_⟩
      rw [wrap64 (n := (i : Int) + 1) (by omega) (by omega)]
      refine hgo _ _ _ (k - 1) (by omega) ⟨i + 1, by omega, rfl, (f2.then f3).st f4 (by omega), Blk.ext hB4 fun j hj => ?_⟩
      show (if j = 16 + i then Value.int .i64 (g (16 + i)) else Value.int .i64 (if j < 16 + i then g j else 0)) = Value.int .i64 (if j < 16 + (i + 1) then g j else 0)
      by_cases hji : j = 16 + i
      · subst hji; rw [if_pos rfl, if_pos (by omega)]
      · rw [if_neg hji]
        by_cases h5 : j < 16 + i
        · rw [if_pos h5, if_pos (by omega)]
        · rw [if_neg h5, if_neg (by omega)]
    · exact h w2 f2 (hM2.ext fun j hj => by rw [if_pos (by omega)])
theorem allMeter_c {p : Option Addr} (h : ∀ w', Fr [] w w' → Blk w' w.heap.size 1 (fun _ => .pointer p) → w'.heap.size = w.heap.size + 1 → K (.func (.func F_meter_Meter_All_c1) #[] #[.pointer (some ⟨w.heap.size, 0, none⟩)]) w') : callF Try.prog F_meter_Meter_All #[.pointer p] w K := by
  apply meter_Meter_All_call
  unfold meter_Meter_All
  refine New.intro fun w1 f1 hB s1 => h w1 f1 (Blk.ext (n := 1) hB fun i hi => ?_) s1
  obtain rfl : i = 0 := by omega
  rfl
theorem allC1_c {l kc : Nat} {fk : Nat → Value} {L : List Nat} (hM : MtAt w b g) (hk : Blk w kc 1 fk) (hfk : fk 0 = .pointer (some ⟨b, 0, none⟩)) (J : World → Nat → World → Prop)
    (h0 : ∀ w1, Fr [] w w1 → J w1 0 w1) (hJ : ∀ w1 i w', J w1 i w' → Fr L w1 w') (hL : ∀ x ∈ L, x < w.heap.size) (hskip : ∀ w1 i w', i < 16 → J w1 i w' → ¬ (0 < g i) → J w1 (i + 1) w')
    (hstep : ∀ w1 i w' (K' : Value → World → Prop), i < 16 → Fr [] w w1 → J w1 i w' → 0 < g i → (∀ w'', J w1 (i + 1) w'' → K' (.bool true) w'') → callV Try.prog (.func (.yield l) #[] #[]) [.int .i64 (i : Int), .int .i64 (g i)] w' K')
    (hend : ∀ w1 w', Fr [] w w1 → J w1 16 w' → K (.tuple #[]) w') : callF Try.prog F_meter_Meter_All_c1 #[.func (.yield l) #[] #[], .pointer (some ⟨kc, 0, none⟩)] w K := by
  apply meter_Meter_All_c1_call
  unfold meter_Meter_All_c1
  refine ⟨_, Ld.blk (by kernel_rfl) hk (by omega) hfk, ?_⟩
  refine cloneMeter_c hM fun w1 f1 hM1 => ⟨_, rfl, ?_⟩
  refine LoopS.ind (fun k us w' => ∃ i : Nat, i + k = 16 ∧ us = [.func (.yield l) #[] #[], .pointer (some ⟨w.heap.size, 0, none⟩), .int .i64 (i : Int)] ∧ J w1 i w') 16 ⟨0, rfl, rfl, h0 w1 f1⟩ ?_
  rintro k us r w2 I μ hgo ⟨i, hi, rfl, hj⟩
  have hM2 := hM1.fr (hJ _ _ _ hj) (fun hm => by have := hL _ hm; omega)
  refine ⟨_, _, _, rfl, cond_d (fun h3 => ?_) (fun h3 => ?_)⟩
  · refine ofMeter_c hM2 ⟨_, rfl, ?_⟩
    rw [ofG_nat (by omega), wrap64 (n := (i : Int) + 1) (by omega) (by omega)]
    refine cond_d (fun h4 => ?_) (fun h4 => ?_)
    · refine hstep w1 i w2 _ (by omega) f1 hj (by omega) fun w3 hj3 => ⟨_, rfl, cond_f ?_⟩
      exact hgo _ _ _ (k - 1) (by omega) ⟨i + 1, by omega, rfl, hj3⟩
    · exact hgo _ _ _ (k - 1) (by omega) ⟨i + 1, by omega, rfl, hskip w1 i w2 (by omega) hj (by omega)⟩
  · have : i = 16 := by omega
    subst this
    exact hend w1 w2 f1 hj
end
end Go.Sh
end

section
namespace Go.Sh
open Go Go.Fw Go.Proofs
set_option maxRecDepth 100000
set_option linter.unusedVariables false
def rsum (f : Int × Int → Int) : List (Int × Int) → Int
  | [] => 0
  | r :: l => f r + rsum f l
theorem rsum_append (f : Int × Int → Int) (a b : List (Int × Int)) : rsum f (a ++ b) = rsum f a + rsum f b := by
  induction a with
  | nil => simp [rsum]
  | cons r a ih => simp only [List.cons_append, rsum, ih]; omega
def fG (i : Nat) (r : Int × Int) : Int :=
  if okA r.1 r.2 then (if i < 16 then (if r.1 = (i : Int) then 1 else 0) else if i < 19 then (if clsV r.1 = ((i - 16 : Nat) : Int) then r.2 else 0) else 0) else 0
def gOf (xs : List (Int × Int)) (i : Nat) : Int := rsum (fG i) xs
theorem fG_b (i : Nat) (r : Int × Int) : 0 ≤ fG i r ∧ fG i r ≤ 65535 := by
  unfold fG
  split
  · rename_i h
    have := h.2
    split
    · split <;> omega
    · split
      · split <;> omega
      · omega
  · omega
theorem gOf_b (xs : List (Int × Int)) (i : Nat) : 0 ≤ gOf xs i ∧ gOf xs i ≤ 65535 * xs.length := by
  unfold gOf
  induction xs with
  | nil => simp [rsum]
  | cons r xs ih =>
    have := fG_b i r
    simp only [rsum, List.length_cons]
    omega
theorem gOf_small {xs : List (Int × Int)} (h : xs.length ≤ 1000) : small (gOf xs) := fun i => by have := gOf_b xs i; omega
theorem gOf_snoc (xs : List (Int × Int)) (r : Int × Int) (i : Nat) : gOf (xs ++ [r]) i = gOf xs i + fG i r := by
  unfold gOf; rw [rsum_append]; simp [rsum]
theorem gOf_cons (xs : List (Int × Int)) (r : Int × Int) (i : Nat) : gOf (r :: xs) i = fG i r + gOf xs i := rfl
theorem fG_bad {n s : Int} (h : ¬ okA n s) (i : Nat) : fG i (n, s) = 0 := by unfold fG; rw [if_neg h]
theorem addG_fG {g : Nat → Int} {n s : Int} (h : okA n s) {i : Nat} (hi : i < 19) : addG g n.toNat s i = g i + fG i (n, s) := by
  have h' := h
  unfold okA okN at h'
  obtain ⟨m, rfl⟩ := Int.eq_ofNat_of_zero_le h'.1.1
  unfold addG fG
  rw [Int.toNat_natCast, if_pos h]
  have hc := clsN_le m
  by_cases h1 : i < 16
  · rw [if_pos h1]
    by_cases h2 : i = m
    · subst h2; rw [if_pos rfl, if_pos rfl]
    · rw [if_neg h2, if_neg (by omega), if_neg (by show ¬ ((m : Int) = (i : Int)); omega)]; omega
  · rw [if_neg h1, if_pos hi, if_neg (by omega)]
    have e : clsV ((m : Int), s).1 = (clsN m : Int) := clsV_nat (by omega)
    rw [e]
    by_cases h2 : i = 16 + clsN m
    · subst h2; rw [if_pos rfl, if_pos (by omega)]
    · rw [if_neg h2, if_neg (by omega)]; omega
section
variable {w : World} {b : Nat} {K : Value → World → Prop}
theorem addM_c {xs : List (Int × Int)} {n s : Int} (hM : MtAt w b (gOf xs)) (hl : xs.length ≤ 1000) (h : ∀ w', Fr [b] w w' → (∀ ys, (∀ i, i < 19 → gOf ys i = gOf xs i + fG i (n, s)) → MtAt w' b (gOf ys)) → w'.heap.size = w.heap.size → K (.int .i64 (if okA n s then 0 else 11)) w') :
    callF Try.prog F_meter_Meter_Add #[.pointer (some ⟨b, 0, none⟩), .int .i64 n, .int .i64 s] w K := by
  refine addMeter_c hM (gOf_small hl) (fun hb => ?_) (fun ho w' f hM' hs => ?_)
  · have := h w (Fr.refl _ _) (fun ys hy => hM.ext fun i hi => by rw [hy i hi, fG_bad hb]; omega) rfl
    rwa [if_neg hb] at this
  · have := h w' f (fun ys hy => hM'.ext fun i hi => by rw [hy i hi, addG_fG ho hi]) hs
    rwa [if_pos ho] at this
def rcells : List (Int × Int) → List Value
  | [] => []
  | r :: l => .int .i64 r.1 :: .int .i64 r.2 :: rcells l
theorem rcells_len (l : List (Int × Int)) : (rcells l).length = l.length * 2 := by induction l with | nil => rfl | cons r l ih => simp only [rcells, List.length_cons, ih]; omega
theorem rcells_append (a b : List (Int × Int)) : rcells (a ++ b) = rcells a ++ rcells b := by induction a with | nil => rfl | cons r a ih => simp [rcells, ih]
theorem rcells_get : ∀ (l : List (Int × Int)) (i : Nat) (r : Int × Int), l[i]? = some r → (rcells l)[i * 2 + 0]? = some (.int .i64 r.1) ∧ (rcells l)[i * 2 + 1]? = some (.int .i64 r.2) := by
  intro l
  induction l with
  | nil => intro i r h; simp at h
  | cons x l ih =>
    intro i r h
    cases i with
    | zero => simp at h; subst h; exact ⟨rfl, rfl⟩
    | succ i =>
      have := ih i r (by simpa using h)
      have e0 : (i + 1) * 2 + 0 = i * 2 + 0 + 2 := by omega
      have e1 : (i + 1) * 2 + 1 = i * 2 + 1 + 2 := by omega
      rw [e0, e1]; exact this
def MrAt (w : World) (rb : Nat) (rows : List (Int × Int)) : Prop := ∃ p c f, Blk w rb 1 f ∧ f 0 = .slice p rows.length c ∧ OwnN 2 w p rows.length c (rcells rows) ∧ ∀ k ∈ blks p, rb < k
theorem MrAt.fr {w' : World} {rb : Nat} {rows : List (Int × Int)} {L : List Nat} (h : MrAt w rb rows) (hf : Fr L w w') (hn : ∀ k ∈ L, k < rb ∨ w.heap.size ≤ k) : MrAt w' rb rows := by
  obtain ⟨p, c, f, hB, hf0, hO, hk⟩ := h
  have := hB.lt
  exact ⟨p, c, f, hB.fr hf (fun hm => by have := hn _ hm; omega), hf0, hO.fr hf (fun k hk' hm => by have := hn _ hm; have := hk k hk'; have := hO.lt k hk'; omega), hk⟩
theorem MrAt.fr0 {w' : World} {rb : Nat} {rows : List (Int × Int)} (h : MrAt w rb rows) (hf : Fr [] w w') : MrAt w' rb rows := h.fr hf (by simp)
theorem newMr {K : Nat → World → Prop} (h : ∀ w', Fr [] w w' → MrAt w' w.heap.size [] → w'.heap.size = w.heap.size + 1 → K w.heap.size w') : New #[.slice none 0 0] T_ref27_Meter w K :=
  New.intro fun w1 f1 hB s1 => h w1 f1 ⟨none, 0, _, hB, rfl, OwnN.nil 2 _, by simp [blks]⟩ s1
theorem refClass_c {n : Int} (h : K (.int .i64 (if okN n then (clsN n.toNat : Int) else -1)) w) : callF Try.prog F_ref27_Class #[.int .i64 n] w K := by
  apply ref27_Class_call
  unfold ref27_Class
  by_cases hok : okN n
  · rw [if_pos hok] at h
    unfold okN at hok
    obtain ⟨m, rfl⟩ := Int.eq_ofNat_of_zero_le hok.1
    rw [Int.toNat_natCast] at h
    unfold clsN at h
    refine cond_d (fun h1 => by omega) fun h1 => cond_d (fun h2 => by omega) fun h2 => ?_
    unfold ref27_Class_j1
    refine cond_d (fun h3 => ?_) fun h3 => cond_d (fun h4 => ?_) fun h4 => ?_
    · rw [if_pos (by omega)] at h; exact h
    · rw [if_neg (by omega), if_pos (by omega)] at h; exact h
    · rw [if_neg (by omega), if_neg (by omega)] at h; exact h
  · rw [if_neg hok] at h
    unfold okN at hok
    refine cond_d (fun h1 => h) fun h1 => cond_d (fun h2 => h) fun h2 => by omega
def goodR (xs : List (Int × Int)) : List (Int × Int) := xs.filter fun r => decide (okA r.1 r.2)
theorem refAdd_c {rb : Nat} {rows : List (Int × Int)} {n s : Int} (hR : MrAt w rb rows) (hl : rows.length ≤ 1000) (h : ∀ L w', Fr L w w' → (∀ k ∈ L, rb ≤ k) → MrAt w' rb (if okA n s then rows ++ [(n, s)] else rows) → K (.int .i64 (if okA n s then 0 else 11)) w') :
    callF Try.prog F_ref27_Meter_Add #[.pointer (some ⟨rb, 0, none⟩), .int .i64 n, .int .i64 s] w K := by
  apply ref27_Meter_Add_call
  unfold ref27_Meter_Add
  have bad : ¬ okA n s → K (.int .i64 11) w := fun hb => by
    have := h [] w (Fr.refl _ _) (by simp) (by rw [if_neg hb]; exact hR)
    rwa [if_neg hb] at this
  refine refClass_c ⟨_, rfl, cond_d (fun h1 => bad fun hh => by rw [if_pos hh.1] at h1; omega) fun h1 => cond_d (fun h2 => bad fun hh => by have := hh.2; omega) fun h2 => cond_d (fun h3 => bad fun hh => by have := hh.2; omega) fun h3 => ?_⟩
  have ho : okN n := by
    by_cases hn : okN n
    · exact hn
    · rw [if_neg hn] at h1; omega
  have ha : okA n s := ⟨ho, by omega, by omega⟩
  rw [if_pos ha, if_pos ha] at h
  unfold ref27_Meter_Add_j1
  obtain ⟨p, c, f, hB, hf0, hO, hk⟩ := hR
  refine ⟨_, rfl, _, _, _, Ld.blk (by kernel_rfl) hB (by omega) hf0, ?_⟩
  refine ⟨_, _, _, Ef.new (v := .slice (some ⟨w.heap.size, 0, none⟩) 1 1) (cs := ([.int .i64 n, .int .i64 s] : List Value).toArray) (e := T_ref27_Row) (by kernel_rfl) fun w1 f1 hB1 s1 => ?_⟩
  obtain ⟨p', c', w2, he, hO2, hf2, hcase⟩ := Ef.appendN (P := Try.prog) (t := T_S_ref27_Row) (ty := T_S_ref27_Row) (s := 2) (by kernel_rfl) (hO.fr0 f1) (m := 1) (d := 1) hB1.rowL rfl (by simp; exact ⟨rfl, rfl⟩) (by omega)
  refine ⟨_, _, _, _, he, _, rfl, ?_⟩
  have hBrb : Blk w2 rb 1 f := (hB.fr0 f1).fr hf2 (fun hm => by have := hk _ hm; omega)
  refine Sto.blk (by kernel_rfl) hBrb (by omega) rfl rfl fun w3 f3 hB3 s3 => ?_
  have hlt := hB.lt
  have hn := f1.size
  have hbl2 : ∀ k ∈ blks p', rb < k := by
    rcases hcase with ⟨rfl, _, _⟩ | ⟨rfl, _, _⟩
    · exact hk
    · intro k hk'; simp [blks] at hk'; omega
  have e : rcells rows ++ [.int .i64 n, .int .i64 s] = rcells (rows ++ [(n, s)]) := by rw [rcells_append]; rfl
  rw [e] at hO2
  refine h (rb :: blks p) w3 (((f1.mono (by simp)).trans (l1 := blks p) hf2 (fun x hx => .inl (by simp [hx]))).trans f3 (fun x hx => .inl (by simp at hx; simp [hx]))) (fun k hk' => ?_) ⟨p', c', _, hB3, ?_, ?_, hbl2⟩
  · rcases List.mem_cons.1 hk' with rfl | hm
    · omega
    · have := hk k hm; omega
  · unfold upd; rw [if_pos rfl, List.length_append]; rfl
  · rw [List.length_append]; exact hO2.fr f3 (fun k hk' hm => by have := hbl2 k hk'; simp at hm; omega)
def cntR (n : Int) (l : List (Int × Int)) : Int := rsum (fun r => if r.1 = n then 1 else 0) l
theorem rsum_b {f : Int × Int → Int} {B : Nat} (hf : ∀ r, 0 ≤ f r ∧ f r ≤ B) (l : List (Int × Int)) : 0 ≤ rsum f l ∧ rsum f l ≤ B * l.length := by
  induction l with
  | nil => simp [rsum]
  | cons r l ih =>
    have := hf r
    simp only [rsum, List.length_cons]
    have e : (B : Int) * ((l.length + 1 : Nat) : Int) = B * l.length + B := by rw [Int.natCast_add, Int.mul_add]; simp
    omega
theorem rsum_take (f : Int × Int → Int) {l : List (Int × Int)} {i : Nat} {r : Int × Int} (h : l[i]? = some r) : rsum f (l.take (i + 1)) = rsum f (l.take i) + f r := by
  rw [List.take_add_one, h, rsum_append]; simp [rsum]
theorem refOf_c {rb : Nat} {rows : List (Int × Int)} {n : Int} (hR : MrAt w rb rows) (hl : rows.length ≤ 1000) (h : K (.int .i64 (cntR n rows)) w) : callF Try.prog F_ref27_Meter_Of #[.pointer (some ⟨rb, 0, none⟩), .int .i64 n] w K := by
  apply ref27_Meter_Of_call
  unfold ref27_Meter_Of
  obtain ⟨p, c, f, hB, hf0, hO, hk⟩ := hR
  refine LoopS.ind (fun k us w' => w' = w ∧ ∃ i : Nat, i + k = rows.length ∧ us = [.pointer (some ⟨rb, 0, none⟩), .int .i64 n, .int .i64 0, .int .i64 (cntR n (rows.take i)), .int .i64 (i : Int)]) rows.length ⟨rfl, 0, by omega, rfl⟩ ?_
  rintro k us r w2 I μ hgo ⟨rfl, i, hi, rfl⟩
  refine ⟨_, _, _, _, _, rfl, _, rfl, _, _, _, Ld.blk (by kernel_rfl) hB (by omega) hf0, cond_d (fun h3 => ?_) (fun h3 => ?_)⟩
  · have hlt : i < rows.length := by omega
    obtain ⟨x, hx⟩ : ∃ x, rows[i]? = some x := ⟨_, List.getElem?_eq_getElem hlt⟩
    obtain ⟨bb, o, ha, _, hcell⟩ := hO.cellAt (P := Try.prog) (t := T_S_ref27_Row) (by kernel_rfl) (k := .i64) hlt (by omega)
    obtain ⟨r1, r2⟩ := rcells_get rows i x hx
    refine ⟨_, rfl, _, _, _, Ld.blk (by kernel_rfl) hB (by omega) hf0, _, ha, _, by rw [add_mk]; exact Ld.cell (by kernel_rfl) (hcell 0 _ (by omega) r1), ?_⟩
    rw [wrap64 (n := (i : Int) + 1) (by omega) (by omega)]
    have hb := rsum_b (f := fun r => if r.1 = n then 1 else 0) (B := 1) (fun r => by split <;> omega) (rows.take i)
    have hlen : (rows.take i).length ≤ 1000 := by rw [List.length_take]; omega
    have hst := rsum_take (fun r => if r.1 = n then 1 else 0) hx
    refine cond_eq (fun e => ?_) (fun e => ?_)
    · rw [if_pos e] at hst
      unfold cntR
      rw [wrap64 (by omega) (by omega), ← hst]
      exact hgo _ _ _ (k - 1) (by omega) ⟨rfl, i + 1, by omega, rfl⟩
    · rw [if_neg e, Int.add_zero] at hst
      refine hgo _ _ _ (k - 1) (by omega) ⟨rfl, i + 1, by omega, ?_⟩
      unfold cntR
      rw [hst]; rfl
  · rw [List.take_of_length_le (by omega)]
    exact h
def clsR (r : Int × Int) : Int := if okN r.1 then (clsN r.1.toNat : Int) else -1
theorem refTotal_c {rb : Nat} {rows : List (Int × Int)} {c : Int} (hR : MrAt w rb rows) (hl : rows.length ≤ 1000) (hs : ∀ r ∈ rows, 0 ≤ r.2 ∧ r.2 ≤ 65535)
    (h : K (.tuple #[.int .i64 (rsum (fun r => if clsR r = c then 1 else 0) rows), .int .i64 (rsum (fun r => if clsR r = c then r.2 else 0) rows)]) w) : callF Try.prog F_ref27_Meter_Total #[.pointer (some ⟨rb, 0, none⟩), .int .i64 c] w K := by
  apply ref27_Meter_Total_call
  unfold ref27_Meter_Total
  obtain ⟨p, cc, f, hB, hf0, hO, hk⟩ := hR
  have sb : ∀ i, i ≤ rows.length → 0 ≤ rsum (fun r => if clsR r = c then r.2 else 0) (rows.take i) ∧ rsum (fun r => if clsR r = c then r.2 else 0) (rows.take i) ≤ 65535 * i := by
    intro i
    induction i with
    | zero => intro _; simp [rsum]
    | succ i ih =>
      intro hi
      have := ih (by omega)
      have hx : rows[i]? = some (rows[i]'(by omega)) := List.getElem?_eq_getElem (by omega)
      have hst := rsum_take (fun r => if clsR r = c then r.2 else 0) hx
      have hb := hs _ (List.getElem_mem (h := (by omega : i < rows.length)))
      rw [hst]
      split <;> omega
  refine LoopS.ind (fun k us w' => w' = w ∧ ∃ i : Nat, i + k = rows.length ∧ us = [.pointer (some ⟨rb, 0, none⟩), .int .i64 c, .int .i64 0, .int .i64 0, .int .i64 (rsum (fun r => if clsR r = c then 1 else 0) (rows.take i)), .int .i64 (rsum (fun r => if clsR r = c then r.2 else 0) (rows.take i)), .int .i64 (i : Int)]) rows.length ⟨rfl, 0, by omega, rfl⟩ ?_
  rintro k us r w2 I μ hgo ⟨rfl, i, hi, rfl⟩
  refine ⟨_, _, _, _, _, _, _, rfl, _, rfl, _, _, _, Ld.blk (by kernel_rfl) hB (by omega) hf0, cond_d (fun h3 => ?_) (fun h3 => ?_)⟩
  · have hlt : i < rows.length := by omega
    obtain ⟨x, hx⟩ : ∃ x, rows[i]? = some x := ⟨_, List.getElem?_eq_getElem hlt⟩
    obtain ⟨bb, o, ha, _, hcell⟩ := hO.cellAt (P := Try.prog) (t := T_S_ref27_Row) (by kernel_rfl) (k := .i64) hlt (by omega)
    obtain ⟨r1, r2⟩ := rcells_get rows i x hx
    refine ⟨_, rfl, _, _, _, Ld.blk (by kernel_rfl) hB (by omega) hf0, _, ha, _, by rw [add_mk]; exact Ld.cell (by kernel_rfl) (hcell 0 _ (by omega) r1), refClass_c ⟨_, rfl, ?_⟩⟩
    rw [wrap64 (n := (i : Int) + 1) (by omega) (by omega)]
    have hb := rsum_b (f := fun r => if clsR r = c then 1 else 0) (B := 1) (fun r => by split <;> omega) (rows.take i)
    have hlen : (rows.take i).length ≤ 1000 := by rw [List.length_take]; omega
    have hst := rsum_take (fun r => if clsR r = c then 1 else 0) hx
    have hst2 := rsum_take (fun r => if clsR r = c then r.2 else 0) hx
    have hb2 := sb i (by omega)
    have hb3 := sb (i + 1) (by omega)
    refine cond_eq (fun e => ?_) (fun e => ?_)
    · have e' : clsR x = c := e
      rw [if_pos e'] at hst hst2
      refine ⟨_, rfl, _, _, _, Ld.blk (by kernel_rfl) hB (by omega) hf0, _, ha, _, by rw [add_mk]; exact Ld.cell (by kernel_rfl) (hcell 1 _ (by omega) r2), ?_⟩
      rw [wrap64 (n := _ + 1) (by omega) (by omega), ← hst, wrap64 (n := _ + x.2) (by omega) (by omega), ← hst2]
      exact hgo _ _ _ (k - 1) (by omega) ⟨rfl, i + 1, by omega, rfl⟩
    · have e' : ¬ clsR x = c := e
      rw [if_neg e', Int.add_zero] at hst hst2
      refine hgo _ _ _ (k - 1) (by omega) ⟨rfl, i + 1, by omega, ?_⟩
      rw [hst, hst2]; rfl
  · rw [List.take_of_length_le (by omega)]
    exact h
end
end Go.Sh
end
