/- A part of a proof of a given law of this program: lemmas, printed forms of its functions, contracts. It has no conditions of its own. -/
import Derived.Test.YtlphgbgfnjhhcaaCRef02c
namespace Go.Sh
open Go Go.Fw Go.Proofs
set_option maxRecDepth 100000
set_option linter.unusedVariables false

/-- What new blocks alone have turned. -/
theorem Fr.news {l : List Nat} {a b c : World} (h : Fr [] a b) (k : Fr l b c) (hl : ∀ x ∈ l, a.heap.size ≤ x) : Fr [] a c := h.trans k fun x hx => .inr (hl x hx)
theorem OwnS.sto {P : Program} {t te : TypeId} (ht : sliceB P t 1 = true) (hs : res P (sizeOf te) = some 1) {w : World} {p : Option Addr} {l c : Nat} {vs : List Value} (hO : OwnS w p l c vs) {k : IntKind} {i : Int} (h0 : 0 ≤ i) (h1 : i < l)
    {v : Value} (hv : v.oneCell' = true) (hc : v.cells = #[v]) {K : World → Prop} (h : ∀ w', Fr (blks p) w w' → OwnS w' p l c (vs.set i.toNat v) → w'.heap.size = w.heap.size → K w') :
    ∃ a, IxA P t (.slice p l c) (.int k i) a ∧ ∃ w', Sto P te (.pointer (some a)) v w w' ∧ K w' := by
  obtain ⟨hl, ⟨_, h2, _⟩ | ⟨g, o, N, f, rfl, hB, hoc, hlc, hf⟩⟩ := hO
  · omega
  · refine ⟨_, ixS1 ht h0 h1, ?_⟩
    refine Sto.blk hs hB (by omega) hv hc fun w' f1 hB1 s1 => h w' f1 ⟨by simpa using hl, .inr ⟨g, o, N, _, rfl, hB1, hoc, hlc, ?_⟩⟩ s1
    intro j u hj
    rw [List.getElem?_set] at hj
    by_cases hji : i.toNat = j
    · rw [if_pos hji] at hj
      subst hji
      rw [upd_same]
      split at hj
      · exact Option.some.inj hj
      · cases hj
    · rw [if_neg hji] at hj
      rw [upd_ne _ _ _ (by omega)]
      exact hf j u hj
theorem cell1 (a : UInt8) : (vb a).oneCell' = true := rfl
theorem cells_vb (l : List UInt8) : ∀ u ∈ l.map vb, u.oneCell' = true := by simp; intros; rfl

theorem Tables_j1 {I : Inv} {μ : Meas} {us : List Value} {wl : World} {p0 : Option Addr} {l0 c0 : Nat} {p1 : Option Addr} {l1 c1 : Nat} {n2 : Int} {b : Nat} {n10 : Int} {w : World} {bl : List UInt8} {lo hi : Nat} {Q : Value → World → Prop}
    (hT : TabAt w b bl lo hi true) (h : goesOn [] [] I μ us [.slice p0 l0 c0, .slice p1 l1 c1, .int .i64 n2, .bool false, .pointer (some ⟨b, 0, none⟩), .int .i64 (IntKind.i64.wrap (n10 + 1))] wl w) :
    law02_FieldTables_j1 I μ us wl p0 l0 c0 p1 l1 c1 n2 false (some ⟨b, 0, none⟩) n10 true w Q := by
  unfold law02_FieldTables_j1
  refine cond_false rfl (Made_c hT ⟨_, rfl, cond_false rfl h⟩)

set_option maxHeartbeats 1000000 in
theorem FieldTables_c (bys asks : List UInt8) (k : Int) {w : World} {p0 p1 : Option Addr} {l0 c0 l1 c1 : Nat} (hR0 : Row w p0 (bys.map vb)) (hl0 : l0 = bys.length) (hR1 : Row w p1 (asks.map vb)) (hl1 : l1 = asks.length)
    {K : Value → World → Prop} (h : ∀ w', Fr [] w w' → K (.bool true) w') : callF Try.prog F_law02_FieldTables #[.slice p0 l0 c0, .slice p1 l1 c1, .int .i64 k] w K := by
  apply law02_FieldTables_call
  unfold law02_FieldTables
  refine alive_c fun w1 f1 => ⟨_, rfl, cond_false rfl ?_⟩
  refine cond_d (fun _ => h w1 f1) fun h8 => cond_d (fun _ => h w1 f1) fun h60 => ?_
  unfold law02_FieldTables_j5
  refine ⟨_, _, _, Ef.new (cs := #[]) (v := .slice (some ⟨w1.heap.size, 0, none⟩) 0 0) (e := 5) (by kernel_rfl) fun w2 f2 hB s2 => ?_⟩
  have hO : OwnS w2 (some ⟨w1.heap.size, 0, none⟩) 0 0 [] := ⟨rfl, .inr ⟨_, _, _, _, rfl, hB, by simp, by simp, by simp⟩⟩
  obtain ⟨q, cq, w3, he, hO3, hf, hcase⟩ := Ef.append (P := Try.prog) (t := 50) (ty := 50) (by kernel_rfl) hO (m := l0) (d := c0) ((hR0.fr0 f1).fr0 f2) (by simpa using hl0) (cells_vb bys) (by omega)
  rw [Nat.zero_add] at he hO3
  simp only [List.nil_append] at hO3
  have f03 : Fr [] w w3 := Fr.news (f1.then f2) hf (by simp only [blks, List.mem_singleton]; rintro x rfl; exact f1.size)
  have hqn : ∀ x ∈ blks q, w.heap.size ≤ x := by
    have := f1.size; have := f2.size
    rcases hcase with ⟨rfl, _, _⟩ | ⟨rfl, _, _⟩ <;> simp only [blks, List.mem_singleton] <;> rintro x rfl <;> omega
  refine ⟨_, _, _, _, he, ?_⟩
  refine New_c hO3.row hl0 (by omega) fun b w4 f4 hb hT => ?_
  refine ⟨_, rfl, _, _, ptrNil (by kernel_rfl), cond_false rfl ?_⟩
  refine Made_c hT ⟨_, rfl, cond_false rfl ?_⟩
  have hq3 := hO3.lt
  have f04 : Fr [] w w4 := f03.then f4
  -- what was handed over is turned by its owner
  unfold law02_FieldTables_j4
  refine LoopS.ind (fun kk us w' => ∃ i : Nat, i + kk = l0 ∧ us = [.slice p0 l0 c0, .slice p1 l1 c1, .int .i64 k, .bool false, .slice q l0 cq, .pointer (some ⟨b, 0, none⟩), .int .i64 (i : Int)] ∧ Fr (blks q) w4 w' ∧ ∃ ys : List UInt8, OwnS w' q l0 cq (ys.map vb)) l0
    ⟨0, by omega, rfl, Fr.refl _ _, bys, hO3.fr0 f4⟩ ?_
  rintro kk us r w5 I μ hgo ⟨i, hi, rfl, f5, ys, hO5⟩
  refine ⟨_, _, _, _, _, _, _, _, _, _, _, _, _, rfl, cond_d (fun h1 => ?_) (fun h1 => ?_)⟩
  · have hly : l0 = ys.length := by simpa using hO5.1
    have hiy : i < ys.length := by omega
    obtain ⟨a, hix, hc⟩ := ixR (P := Try.prog) (t := 50) (by kernel_rfl) hO5.row (cap := cq) (k := .i64) (i := (i : Int)) hO5.1 (by omega) (by omega) (v := vb ys[i]) (by simp [hiy])
    refine ⟨a, hix, _, Ld.cell (by kernel_rfl) hc, ?_⟩
    refine OwnS.sto (by kernel_rfl) (by kernel_rfl) hO5 (by omega) (by omega) rfl rfl fun w6 f6 hO6 s6 => ?_
    refine hgo _ _ _ (kk - 1) (by omega) ⟨i + 1, by omega, by rw [wrap64 (by omega) (by omega)]; rfl, f5.trans f6 (fun _ h => .inl h), ys.set i (ys[i] + 1), ?_⟩
    have e : IntKind.u8.wrap ((ys[i].toNat : Int) + 1) = ((ys[i] + 1).toNat : Int) := by
      rw [IntKind.wrap_u8, UInt8.toNat_add]; simp
    rw [e] at hO6
    rw [List.map_set]
    exact hO6
  · have hT5 : TabAt w5 b bys w3.heap.size w4.heap.size false := hT.fr f5 fun x hx => .inl (hq3 x hx)
    have f05 : Fr [] w w5 := Fr.news f04 f5 hqn
    have hbw : w.heap.size ≤ b := Nat.le_trans f03.size hb
    unfold law02_FieldTables_j3
    refine LoopS.ind (fun kk us w' => ∃ i : Nat, i + kk = l1 ∧ us = [.slice p0 l0 c0, .slice p1 l1 c1, .int .i64 k, .bool false, .pointer (some ⟨b, 0, none⟩), .int .i64 (i : Int)] ∧ Fr [] w w' ∧ ∃ hi m, TabAt w' b bys w3.heap.size hi m) l1
      ⟨0, by omega, rfl, f05, _, _, hT5⟩ ?_
    rintro kk us r w6 I2 μ2 hgo2 ⟨i, hi, rfl, f6, hi6, m6, hT6⟩
    refine ⟨_, _, _, _, _, _, _, _, _, _, rfl, cond_d (fun h2 => ?_) (fun h2 => h w6 f6)⟩
    have hil : i < asks.length := by omega
    obtain ⟨x, hx⟩ : ∃ x, asks[i]? = some x := ⟨asks[i], List.getElem?_eq_getElem hil⟩
    obtain ⟨a, hix, hc⟩ := ixR (P := Try.prog) (t := 50) (by kernel_rfl) (hR1.fr0 f6) (cap := c1) (k := .i64) (i := (i : Int)) (len := l1) (by simpa using hl1) (by omega) (by omega) (v := vb x) (by rw [List.getElem?_map, Int.toNat_natCast, hx]; rfl)
    refine ⟨a, hix, _, Ld.cell (by kernel_rfl) hc, ?_⟩
    have fin : ∀ w7 hi7, Fr [b] w6 w7 → TabAt w7 b bys w3.heap.size hi7 true →
        goesOn [] [] I2 μ2 [.slice p0 l0 c0, .slice p1 l1 c1, .int .i64 k, .bool false, .pointer (some ⟨b, 0, none⟩), .int .i64 (i : Int)] [.slice p0 l0 c0, .slice p1 l1 c1, .int .i64 k, .bool false, .pointer (some ⟨b, 0, none⟩), .int .i64 (IntKind.i64.wrap ((i : Int) + 1))] w6 w7 := by
      intro w7 hi7 f7 hT7
      rw [wrap64 (by omega) (by omega)]
      exact hgo2 _ _ _ (kk - 1) (by omega) ⟨i + 1, by omega, rfl, Fr.news f6 f7 (by simp only [List.mem_singleton]; rintro y rfl; exact hbw), hi7, true, hT7⟩
    obtain ⟨s, hs⟩ : ∃ s, s = gsign x := ⟨gsign x, rfl⟩
    obtain ⟨u, hu⟩ : ∃ u, u = gunsign x := ⟨gunsign x, rfl⟩
    refine cond_intro (fun h3 => ?_) (fun h3 => cond_intro (fun h4 => ?_) (fun h4 => ?_))
    · refine Sub_c hT6 x fun w7 hi7 f7 hT7 _ _ _ => ?_
      rw [← hs]
      refine ⟨_, rfl, ?_⟩
      refine refSub_c x _ _ ?_
      rw [← hs]
      refine ⟨_, rfl, ?_⟩
      rw [beq_self_eq_true]
      exact Tables_j1 hT7 (fin w7 hi7 f7 hT7)
    · refine Unsub_c hT6 x fun w7 hi7 f7 hT7 _ _ _ => ?_
      rw [← hu]
      refine ⟨_, rfl, ?_⟩
      refine refUnsub_c x _ _ ?_
      rw [← hu]
      refine ⟨_, rfl, ?_⟩
      rw [beq_self_eq_true]
      exact Tables_j1 hT7 (fin w7 hi7 f7 hT7)
    · refine cond_intro (fun h5 => ?_) (fun h5 => ?_)
      · by_cases hk : k < 0 ∨ (bys.length : Int) ≤ k
        · refine Times_out_c hT6 k x hk fun w7 hi7 f7 hT7 _ _ _ => ⟨_, _, rfl, ?_⟩
          have g : law02_FieldTables_j2 I2 μ2 [.slice p0 l0 c0, .slice p1 l1 c1, .int .i64 k, .bool false, .pointer (some ⟨b, 0, none⟩), .int .i64 (i : Int)] w6 p0 l0 c0 p1 l1 c1 k false (some ⟨b, 0, none⟩) (i : Int) (x.toNat : Int) true 0 11 true w7 K := by
            unfold law02_FieldTables_j2
            exact cond_true rfl (cond_true rfl (Tables_j1 hT7 (fin w7 hi7 f7 hT7)))
          refine cond_d (fun _ => g) fun h6 => ?_
          have e : decide (k ≥ ((l0 : Nat) : Int)) = true := by simp; omega
          rw [e]
          exact g
        · have hk0 : 0 ≤ k ∧ k < bys.length := by omega
          obtain ⟨n, rfl⟩ := Int.eq_ofNat_of_zero_le hk0.1
          have hnl : n < bys.length := by omega
          refine Times_in_c hT6 n bys[n] x (by simp [hnl]) fun w7 hi7 f7 hT7 _ _ _ => ⟨_, _, rfl, ?_⟩
          refine cond_d (fun h6 => by omega) fun h6 => ?_
          have e : decide ((n : Int) ≥ ((l0 : Nat) : Int)) = false := by simp; omega
          rw [e]
          unfold law02_FieldTables_j2
          have f7' : Fr [] w w7 := Fr.news f6 f7 (by simp only [List.mem_singleton]; rintro y rfl; exact hbw)
          obtain ⟨a2, hix2, hc2⟩ := ixR (P := Try.prog) (t := 50) (by kernel_rfl) (hR0.fr0 f7') (cap := c0) (k := .i64) (i := (n : Int)) (len := l0) (by simpa using hl0) (by omega) (by omega) (v := vb bys[n]) (by simp [hnl])
          refine cond_false rfl (cond_true rfl ⟨a2, hix2, _, Ld.cell (by kernel_rfl) hc2, ?_⟩)
          refine refMul_c _ _ _ _ ⟨_, rfl, ?_⟩
          rw [gmul_comm bys[n], beq_self_eq_true]
          exact Tables_j1 hT7 (fin w7 hi7 f7 hT7)
      · exfalso
        have h3' : Int.tmod (i : Int) 3 ≠ 0 := by simpa using h3
        have h4' : Int.tmod (i : Int) 3 ≠ 1 := by simpa using h4
        have h5' : Int.tmod (i : Int) 3 ≠ 2 := by simpa using h5
        have e : Int.tmod (i : Int) 3 = ((i % 3 : Nat) : Int) := rfl
        omega
end Go.Sh
