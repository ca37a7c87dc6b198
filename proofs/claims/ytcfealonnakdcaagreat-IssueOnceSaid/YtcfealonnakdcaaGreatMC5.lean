/- A part of a proof of a given law of this program: lemmas, printed forms of its functions, contracts. It has no conditions of its own. -/
import Derived.Test.YtcfealonnakdcaaGreatMC1
import Derived.Test.YtcfealonnakdcaaGreatMC3
import Derived.Test.YtcfealonnakdcaaGreatMC4
import Derived.Test.YtcfealonnakdcaaGreatMS3

section
namespace Go.Sh
open Go Go.Fw Go.Proofs
set_option maxRecDepth 100000
set_option linter.unusedVariables false
structure IS where
  m : Int
  s : Int
  n : Int
  key : List UInt8
  point : Int
  room : Int
  sid : List UInt8
  ps : Option Addr
  cs : Nat
  mb : Nat
  ks : List (List UInt8)
def IS.t (x : IS) : List Value := [.int .i64 x.point, .slice x.ps x.sid.length x.cs, .int .i64 x.room, .map (some x.mb)]
def IS.v (x : IS) : List Value := cfgV x.m x.s x.n x.key ++ x.t
structure IsOk (x : IS) : Prop where
  k16 : x.key.length = 16
  ok : okC x.m x.s x.n x.key
  pt : 0 ≤ x.point ∧ x.point ≤ 2
  sl : (x.sid.length : Int) = x.s
  rm : 1 ≤ x.room ∧ x.room ≤ 65536
structure IsAt (w : World) (b : Nat) (x : IS) (lo : Nat) : Prop where
  c : CAt w b x.v
  r : OB w x.ps x.sid.length x.cs x.sid lo
  mp : SMap w x.mb x.ks
  o : IsOk x
  b0 : lo ≤ b
  m0 : lo ≤ x.mb
  bm : b ≠ x.mb
  bp : b ∉ blks x.ps
  mpp : x.mb ∉ blks x.ps
theorem IS.v_len {x : IS} (h : IsOk x) : x.v.length = 23 := by unfold IS.v IS.t; rw [List.length_append, cfgV_len, h.k16]; rfl
theorem IS.get {x : IS} (h : IsOk x) {j : Nat} {v : Value} (hj : x.t[j]? = some v) : x.v[19 + j]? = some v := by
  unfold IS.v
  rw [List.getElem?_append_right (by rw [cfgV_len, h.k16]; omega), cfgV_len, h.k16]
  have : 19 + j - (16 + 3) = j := by omega
  rw [this]; exact hj
theorem IsAt.fr {w w' : World} {b lo : Nat} {x : IS} {L : List Nat} (h : IsAt w b x lo) (f : Fr L w w') (h1 : ∀ z ∈ L, z ≠ b ∧ z ≠ x.mb ∧ z ∉ blks x.ps) : IsAt w' b x lo :=
  ⟨h.c.fr f fun hm => (h1 _ hm).1 rfl, h.r.fr f fun z hz hm => (h1 _ hm).2.2 hz, h.mp.fr f fun hm => (h1 _ hm).2.1 rfl, h.o, h.b0, h.m0, h.bm, h.bp, h.mpp⟩
theorem IsAt.fr0 {w w' : World} {b lo : Nat} {x : IS} (h : IsAt w b x lo) (f : Fr [] w w') : IsAt w' b x lo := h.fr f (by simp)
theorem IsAt.mono {w : World} {b lo lo' : Nat} {x : IS} (h : IsAt w b x lo) (hl : lo' ≤ lo) : IsAt w b x lo' := ⟨h.c, h.r.mono hl, h.mp, h.o, Nat.le_trans hl h.b0, Nat.le_trans hl h.m0, h.bm, h.bp, h.mpp⟩
theorem IsAt.fr_lt {w w' : World} {b lo : Nat} {x : IS} {L : List Nat} (h : IsAt w b x lo) (f : Fr L w w') (h1 : ∀ z ∈ L, z < lo ∨ w.heap.size ≤ z) : IsAt w' b x lo := by
  have hb := h.c.lt; have hm := h.mp.lt
  refine h.fr f fun z hz => ⟨?_, ?_, fun hp => ?_⟩
  · have := h1 z hz; have := h.b0; omega
  · have := h1 z hz; have := h.m0; omega
  · have := h1 z hz; have := h.r.2.2 z hp; have := h.r.lt z hp; omega
section
variable {w : World} {b lo : Nat} {x : IS} {K : Value → World → Prop}
theorem IsAt.cfg0 (h : IsAt w b x lo) : Ld Tryz.prog T_mode_Config (.pointer (some ((⟨b, 0, none⟩ : Addr).add 0))) w (.agg ⟨cfgV x.m x.s x.n x.key⟩) :=
  h.c.ld0 (ds := cfgV x.m x.s x.n x.key) (rs := x.t) rfl (by kernel_rfl) (by rw [cfgV_len, h.o.k16]; kernel_rfl)
theorem IsAt.pt (h : IsAt w b x lo) : Ld Tryz.prog T_int (.pointer (some ((⟨b, 0, none⟩ : Addr).add 19))) w (.int .i64 x.point) := h.c.get (by kernel_rfl) (IS.get h.o (j := 0) rfl)
theorem IsAt.sd (h : IsAt w b x lo) : Ld Tryz.prog T_S_uint8 (.pointer (some ((⟨b, 0, none⟩ : Addr).add 20))) w (.slice x.ps x.sid.length x.cs) := h.c.get (by kernel_rfl) (IS.get h.o (j := 1) rfl)
theorem IsAt.rm (h : IsAt w b x lo) : Ld Tryz.prog T_int (.pointer (some ((⟨b, 0, none⟩ : Addr).add 21))) w (.int .i64 x.room) := h.c.get (by kernel_rfl) (IS.get h.o (j := 2) rfl)
theorem IsAt.mm {t : TypeId} (ht : res Tryz.prog (isAgg t) = some false) (h : IsAt w b x lo) : Ld Tryz.prog t (.pointer (some ((⟨b, 0, none⟩ : Addr).add 22))) w (.map (some x.mb)) := h.c.get ht (IS.get h.o (j := 3) rfl)
theorem IsAt.nn (h : IsAt w b x lo) : Ld Tryz.prog T_int (.pointer (some (((⟨b, 0, none⟩ : Addr).add 0).add 2))) w (.int .i64 x.n) := h.c.get0 (by kernel_rfl) (j := 2) rfl
theorem isBuild {m s n point room : Int} {key : List UInt8} {ps : Option Addr} {l cs mb : Nat} (h : key.length = 16) :
    Pu Tryz.prog (Instr.build T_issue_Issuer #[(0, .agg ⟨cfgV m s n key⟩), (1, .int .i64 point), (2, .slice ps l cs), (3, .int .i64 room), (4, .map (some mb))]) (.agg ⟨cfgV m s n key ++ [.int .i64 point, .slice ps l cs, .int .i64 room, .map (some mb)]⟩) := by
  obtain ⟨a0, a1, a2, a3, a4, a5, a6, a7, a8, a9, aa, ab, ac, ad, ae, af, rfl⟩ := list16 h
  show res _ _ = _
  kernel_rfl
def isE (m s n : Int) (key : List UInt8) (point : Int) (l : Nat) (room : Int) : Int :=
  if ¬ okC m s n key then 10 else if point < 0 ∨ 3 ≤ point ∨ (l : Int) ≠ s ∨ room < 1 ∨ 65536 < room then 11 else 0
set_option maxHeartbeats 2000000 in
theorem issNew_c {m s n point room : Int} {key sid : List UInt8} {p : Option Addr} {l c : Nat} (hk : key.length = 16) (hR : Row w p (sid.map vb)) (hl : l = sid.length) (hlb : l ≤ 1000000)
    (hbad : isE m s n key point l room ≠ 0 → ∀ w', Fr [] w w' → K (.tuple #[.pointer none, .int .i64 (isE m s n key point l room)]) w')
    (hok : isE m s n key point l room = 0 → ∀ b x w', Fr [] w w' → IsAt w' b x w.heap.size → (∃ ps cs mb, x = ⟨m, s, n, key, point, room, sid, ps, cs, mb, []⟩) → K (.tuple #[.pointer (some ⟨b, 0, none⟩), .int .i64 0]) w') :
    callF Tryz.prog F_issue_New #[.agg ⟨cfgV m s n key⟩, .int .i64 point, .slice p l c, .int .i64 room] w K := by
  apply issue_New_call
  unfold issue_New
  refine newCfg hk fun w1 f1 hC s1 => ?_
  obtain ⟨k4, hk4⟩ : ∃ k, k = w.heap.size := ⟨_, rfl⟩
  rw [← hk4] at hC ⊢
  refine ⟨_, hC.ld hk, Right_c hk fun w2 f2 => ⟨_, rfl, ?_⟩⟩
  have f02 := f1.then f2
  have hC2 := hC.fr0 f2
  by_cases ho : okC m s n key
  · rw [decide_eq_true ho]
    have no : (point < 0 ∨ 3 ≤ point ∨ (l : Int) ≠ s ∨ room < 1 ∨ 65536 < room) → K (.tuple #[.pointer none, .int .i64 11]) w2 := by
      intro hh
      have e : isE m s n key point l room = 11 := by unfold isE; rw [if_neg (fun h => h ho), if_pos hh]
      rw [e] at hbad
      exact hbad (by omega) w2 f02
    refine cond_f (cond_d (fun h => no (.inl (by omega))) fun g1 => cond_d (fun h => no (.inr (.inl (by omega)))) fun g2 => ⟨_, hC2.sid, cond_ne (fun h => no (.inr (.inr (.inl (by omega))))) fun g3 => cond_d (fun h => no (.inr (.inr (.inr (.inl (by omega)))))) fun g4 => cond_d (fun h => no (.inr (.inr (.inr (.inr (by omega)))))) fun g5 => ?_⟩)
    have e : isE m s n key point l room = 0 := by unfold isE; rw [if_neg (fun h => h ho), if_neg (by omega)]
    have hok := hok e
    unfold issue_New_j2 issue_New_j1
    refine ⟨fun w' => Fr [] w2 w', Drw.intro fun w3 f3 s3 => ?_⟩
    refine ⟨_, ⟨f3, fun w' hw' => (hC2.fr0 hw').ld hk⟩, ?_, ?_⟩
    · refine slices_Clone_c ((hR.fr0 f02).fr0 f3) (by simpa using hl) hlb (cells_vb _) fun q d w4 f4 hO4 hn4 => ⟨_, _, _, rfl, .inr (f3.then f4), ?_⟩
      have hO4 : OB w4 q l d sid w3.heap.size := ⟨hO4, hl, hn4⟩
      obtain ⟨w5, he5, f5, hM5, s5⟩ := Ef.makeMap (P := Tryz.prog) (t := T_M_string_bool) (w := w4)
      refine ⟨_, w5, he5, .inr ((f3.then f4).then f5), _, isBuild hk, newC (t := T_issue_Issuer) (cfgV m s n key ++ [.int .i64 point, .slice q l d, .int .i64 room, .map (some w4.heap.size)]) fun w6 f6 hC6 s6 => ?_⟩
      have n2 := f02.size; have n3 := f3.size; have n4 := f4.size; have n5 := f5.size
      have f06 := (((f02.then f3).then f4).then f5).then f6
      have hO6 := ((hO4.fr0 f5).fr0 f6).mono (lo' := w.heap.size) (by omega)
      refine hok _ ⟨m, s, n, key, point, room, sid, q, d, w4.heap.size, []⟩ w6 f06 ⟨by subst hl; exact hC6, by subst hl; exact hO6, SMap.fr0 ⟨#[], 0, hM5, rfl⟩ f6, ⟨hk, ho, by show 0 ≤ point ∧ point ≤ 2; omega, by show (sid.length : Int) = s; omega, by show 1 ≤ room ∧ room ≤ 65536; omega⟩, by omega, by show w.heap.size ≤ w4.heap.size; omega, by show w5.heap.size ≠ w4.heap.size; omega, fun hm => ?_, fun hm => ?_⟩ ⟨q, d, _, rfl⟩
      · have := hO4.lt w5.heap.size hm; omega
      · have := hO4.lt w4.heap.size hm; omega
    · obtain ⟨w4, he4, f4, hM4, s4⟩ := Ef.makeMap (P := Tryz.prog) (t := T_M_string_bool) (w := w3)
      refine ⟨_, w4, he4, .inr (f3.then f4), ?_⟩
      refine slices_Clone_c (((hR.fr0 f02).fr0 f3).fr0 f4) (by simpa using hl) hlb (cells_vb _) fun q d w5 f5 hO5 hn5 => ⟨_, _, _, rfl, .inr ((f3.then f4).then f5), ?_⟩
      have hO5 : OB w5 q l d sid w4.heap.size := ⟨hO5, hl, hn5⟩
      refine ⟨_, isBuild hk, newC (t := T_issue_Issuer) (cfgV m s n key ++ [.int .i64 point, .slice q l d, .int .i64 room, .map (some w3.heap.size)]) fun w6 f6 hC6 s6 => ?_⟩
      have n2 := f02.size; have n3 := f3.size; have n4 := f4.size; have n5 := f5.size
      have f06 := (((f02.then f3).then f4).then f5).then f6
      have hO6 := (hO5.fr0 f6).mono (lo' := w.heap.size) (by omega)
      refine hok _ ⟨m, s, n, key, point, room, sid, q, d, w3.heap.size, []⟩ w6 f06 ⟨by subst hl; exact hC6, by subst hl; exact hO6, SMap.fr0 (SMap.fr0 ⟨#[], 0, hM4, rfl⟩ f5) f6, ⟨hk, ho, by show 0 ≤ point ∧ point ≤ 2; omega, by show (sid.length : Int) = s; omega, by show 1 ≤ room ∧ room ≤ 65536; omega⟩, by omega, by show w.heap.size ≤ w3.heap.size; omega, by show w5.heap.size ≠ w3.heap.size; omega, fun hm => ?_, fun hm => ?_⟩ ⟨q, d, _, rfl⟩
      · have := hO5.lt w5.heap.size hm; omega
      · have := hO5.2.2 w3.heap.size hm; omega
  · rw [decide_eq_false ho]
    have e : isE m s n key point l room = 10 := by unfold isE; rw [if_pos ho]
    rw [e] at hbad
    exact cond_t (hbad (by omega) w2 f02)
end
end Go.Sh
end

section
namespace Go.Sh
open Go Go.Fw Go.Proofs
set_option maxRecDepth 100000
set_option linter.unusedVariables false
section
variable {w : World} {b lo : Nat} {x : IS} {K : Value → World → Prop}
theorem issIssued_c (h : IsAt w b x lo) (hk : K (.int .i64 (x.ks.length : Int)) w) : callF Tryz.prog F_issue_Issuer_Issued #[.pointer (some ⟨b, 0, none⟩)] w K := by
  apply issue_Issuer_Issued_call
  unfold issue_Issuer_Issued
  exact ⟨_, rfl, _, h.mm (by kernel_rfl), _, _, Ef.lenS (by kernel_rfl) h.mp, hk⟩
theorem issPlace_c (h : IsAt w b x lo) (hk : ∀ q d w', Fr [] w w' → OB w' q x.sid.length d x.sid w.heap.size → K (.tuple #[.int .i64 x.point, .slice q x.sid.length d]) w') : callF Tryz.prog F_issue_Issuer_Place #[.pointer (some ⟨b, 0, none⟩)] w K := by
  apply issue_Issuer_Place_call
  unfold issue_Issuer_Place
  refine ⟨fun w' => Fr [] w w', Drw.intro fun w1 f1 s1 => ⟨_, rfl, _, rfl, _, ⟨f1, fun w' hw' => (h.fr0 hw').pt⟩, _, _, _, (h.fr0 f1).sd, .inl rfl, ?_⟩⟩
  have hs := h.o.sl; have ho := h.o.ok
  unfold okC at ho
  refine slices_Clone_c (h.fr0 f1).r.row (by simp) (by omega) (cells_vb _) fun q d w2 f2 hO2 hn2 => ⟨_, _, _, rfl, .inr (f1.then f2), ?_⟩
  exact hk q d w2 (f1.then f2) (OB.mono ⟨hO2, rfl, hn2⟩ f1.size)
theorem issClone_c (h : IsAt w b x lo) (hk : ∀ b' mb' w', Fr [] w w' → w.heap.size ≤ b' → IsAt w' b x lo → IsAt w' b' { x with mb := mb' } lo → b' ≠ b → mb' ≠ x.mb → mb' ≠ b → b' ≠ x.mb → b' < w'.heap.size → w.heap.size ≤ mb' → K (.pointer (some ⟨b', 0, none⟩)) w') :
    callF Tryz.prog F_issue_Issuer_Clone #[.pointer (some ⟨b, 0, none⟩)] w K := by
  apply issue_Issuer_Clone_call
  unfold issue_Issuer_Clone
  have hvl := IS.v_len h.o
  refine ⟨_, rfl, _, h.c.ld (by kernel_rfl) (by rw [hvl]; kernel_rfl), ?_⟩
  refine putC (t := T_issue_Issuer) x.v hvl ?_ (by kernel_rfl) (by kernel_rfl) fun w1 f1 hC1 => ?_
  · rw [List.all_eq_true]
    intro u hu
    unfold IS.v IS.t at hu
    rcases List.mem_append.1 hu with hh | hh
    · exact cfgV_one _ _ _ _ u hh
    · simp only [List.mem_cons, List.not_mem_nil, or_false] at hh
      rcases hh with rfl | rfl | rfl | rfl <;> rfl
  obtain ⟨k3, hk3⟩ : ∃ k, k = w.heap.size := ⟨_, rfl⟩
  rw [← hk3] at hC1 ⊢
  have h1 := h.fr0 f1
  refine ⟨_, rfl, _, h1.mm (by kernel_rfl), ?_⟩
  refine maps_Clone_c h1.mp fun w2 f2 hM2 s2 => ⟨_, rfl, ?_⟩
  have hl1 := hC1.lt
  have hbl := h.c.lt; have hml := h.mp.lt
  refine (hC1.fr0 f2).sto (j := 22) (by rw [hvl]; omega) (.map (some w1.heap.size)) rfl rfl (by kernel_rfl) fun w3 f3 hC3 s3 => ?_
  have n1 := f1.size; have n2 := f2.size
  have hset : x.v.set 22 (.map (some w1.heap.size)) = ({ x with mb := w1.heap.size } : IS).v := by
    unfold IS.v IS.t
    rw [List.set_append_right _ _ (by rw [cfgV_len, h.o.k16]; omega), cfgV_len, h.o.k16]
    rfl
  rw [hset] at hC3
  have h3 : IsAt w3 b x lo := (h1.fr0 f2).fr f3 fun z hz => by
    have hz : z = k3 := by simpa using hz
    subst hz
    exact ⟨by omega, by omega, fun hm => by have := h.r.lt _ hm; omega⟩
  have hlob := h.b0
  refine hk k3 w1.heap.size w3 ((f1.then f2).st f3 (by omega)) (by omega) h3 ⟨hC3, h3.r, hM2.fr f3 (by simp; omega), ⟨h.o.k16, h.o.ok, h.o.pt, h.o.sl, h.o.rm⟩, by omega, by show lo ≤ w1.heap.size; omega, by show k3 ≠ w1.heap.size; omega, fun hm => ?_, fun hm => ?_⟩ (by omega) (by omega) (by omega) (by omega) (by omega) (by omega)
  · have := h.r.lt k3 hm; omega
  · have := h.r.lt w1.heap.size hm; omega
theorem slicesEqual_c {p q : Option Addr} {l c m d : Nat} {xs ys : List UInt8} (hx : Row w p (xs.map vb)) (hl : l = xs.length) (hy : Row w q (ys.map vb)) (hm : m = ys.length) (h63 : l < 1000000000)
    (h : ∀ w', Fr [] w w' → K (.bool (decide (xs = ys))) w') : callF Tryz.prog F_slices_Equal_byte_byte #[.slice p l c, .slice q m d] w K := by
  apply slices_Equal_byte_byte_call
  unfold slices_Equal_byte_byte
  refine cond_ne (fun h1 => ?_) fun h1 => ?_
  · rw [decide_eq_false (by rintro rfl; omega)] at h
    exact h w (Fr.refl _ _)
  · have hlm : l = m := by omega
    refine LoopS.ind (fun k us w' => ∃ i : Nat, i + k = l ∧ us = [.slice p l c, .slice q m d, .bool false, .int .i64 (l : Int), .int .i64 (i : Int)] ∧ Fr [] w w' ∧ ∀ j, j < i → fl xs j = fl ys j) l ⟨0, by omega, rfl, Fr.refl _ _, by omega⟩ ?_
    rintro k us r w2 I μ hgo ⟨i, hi, rfl, f2, hs⟩
    refine ⟨_, _, _, _, _, _, _, _, _, rfl, cond_d (fun h3 => ?_) fun h3 => ?_⟩
    · refine ⟨fun w' => Fr [] w2 w', Drw.intro fun w3 f3 s3 => ?_⟩
      have f03 := f2.then f3
      obtain ⟨a1, ha1, hc1⟩ := row_get (t := T_S_uint8) (by kernel_rfl) (hx.fr0 f03) (c := c) hl (i := i) (by omega) (k := .i64)
      obtain ⟨a2, ha2, hc2⟩ := row_get (t := T_S_uint8) (by kernel_rfl) (hy.fr0 f03) (c := d) hm (i := i) (by omega) (k := .i64)
      have hc1' : ∀ w', Fr [] w2 w' → w'.cell? a1 = some (vb (fl xs i)) := by
        intro w' hw'
        obtain ⟨a1', ha1', hc1'⟩ := row_get (t := T_S_uint8) (by kernel_rfl) (hx.fr0 (f2.then hw')) (c := c) hl (i := i) (by omega) (k := .i64)
        have : a1' = a1 := by
          have := ha1'.symm.trans ha1
          simpa using this
        rw [← this]; exact hc1'
      refine ⟨_, ha1, _, ha2, _, ⟨f3, fun w' hw' => Ld.cell (by kernel_rfl) (hc1' w' hw')⟩, _, Ld.cell (by kernel_rfl) hc2, .inl rfl, ?_⟩
      refine cond_ne (fun hne => ?_) fun he => ?_
      · rw [decide_eq_false (by rintro rfl; exact hne rfl)] at h
        exact h w3 f03
      · have he' : fl xs i = fl ys i := UInt8.toNat_inj.1 (by have : ((fl xs i).toNat : Int) = ((fl ys i).toNat : Int) := he; omega)
        rw [wrap64 (by omega) (by omega)]
        refine hgo _ _ _ (k - 1) (by omega) ⟨i + 1, by omega, rfl, f03, fun j hj => ?_⟩
        by_cases hji : j = i
        · rw [hji]; exact he'
        · exact hs j (by omega)
    · have : xs = ys := list_eq_of (by omega) fun j hj => hs j (by omega)
      rw [decide_eq_true this] at h
      exact h w2 f2
def mineP (x : IS) (id : List UInt8) : Prop := okBk x.m x.s x.n x.key id ∧ bkP x.m x.s x.n x.key id = x.point ∧ bkS x.m x.s x.n x.key id = x.sid ∧ bkN x.m x.s x.n x.key id ∈ x.ks
instance (x : IS) (id : List UInt8) : Decidable (mineP x id) := by unfold mineP; infer_instance
theorem bkE_zero {m s n : Int} {key id : List UInt8} : bkE m s n key id = 0 ↔ okBk m s n key id := by
  unfold bkE
  by_cases h : okBk m s n key id
  · rw [if_pos h]; exact ⟨fun _ => h, fun _ => rfl⟩
  · rw [if_neg h]
    refine ⟨fun hh => ?_, fun hh => absurd hh h⟩
    split at hh
    · split at hh <;> omega
    · omega
set_option maxHeartbeats 2000000 in
theorem issMine_c (h : IsAt w b x lo) {p1 : Option Addr} {l1 c1 : Nat} {id : List UInt8} (h1 : Row w p1 (id.map vb)) (hl1 : l1 = id.length) (hc1 : l1 ≤ c1) (hlb : l1 < 1000000) (hk : ∀ w', Fr [] w w' → K (.bool (decide (mineP x id))) w') :
    callF Tryz.prog F_issue_Issuer_Mine #[.pointer (some ⟨b, 0, none⟩), .slice p1 l1 c1] w K := by
  apply issue_Issuer_Mine_call
  unfold issue_Issuer_Mine
  refine ⟨_, rfl, _, h.cfg0, ?_⟩
  refine backO_c h.o.k16 h1 hl1 hc1 hlb fun q1 d1 q2 d2 w1 f1 hO1 hO2 => ⟨_, _, _, _, _, _, _, _, rfl, ?_⟩
  obtain ⟨A, hA⟩ : ∃ A, A = bkS x.m x.s x.n x.key id := ⟨_, rfl⟩
  obtain ⟨B, hB⟩ : ∃ B, B = bkN x.m x.s x.n x.key id := ⟨_, rfl⟩
  obtain ⟨E, hE⟩ : ∃ E, E = bkE x.m x.s x.n x.key id := ⟨_, rfl⟩
  obtain ⟨Pt, hPt⟩ : ∃ Pt, Pt = bkP x.m x.s x.n x.key id := ⟨_, rfl⟩
  have hlen := bk_len2 x.m x.s x.n x.key id
  rw [← hA] at hO1; rw [← hB] at hO2
  rw [← hA, ← hB] at hlen
  rw [← hA, ← hB, ← hE, ← hPt]
  have hmp : mineP x id ↔ (E = 0 ∧ Pt = x.point ∧ A = x.sid ∧ B ∈ x.ks) := by unfold mineP; rw [← bkE_zero, hE, hPt, hA, hB]
  refine putC (t := T_codec_Parts) [.int .i64 Pt, .slice q1 A.length d1, .slice q2 B.length d2] rfl rfl (by kernel_rfl) (by kernel_rfl) fun w2 f2 hC2 => ?_
  obtain ⟨k5, hk5⟩ : ∃ k, k = w1.heap.size := ⟨_, rfl⟩
  rw [← hk5] at hC2 ⊢
  have f02 := f1.then f2
  refine ⟨fun w' => Fr [] w2 w', Drw.intro fun w3 f3 s3 => ?_⟩
  have f03 := f02.then f3
  have no : (¬ mineP x id) → ∀ w', Fr [] w w' → K (.bool false) w' := fun hn w' f' => by
    have := hk w' f'; rw [decide_eq_false hn] at this; exact this
  refine cond_eq (fun h0 => ?_) fun h0 => no (fun hh => h0 (hmp.1 hh).1) w3 f03
  refine ⟨_, rfl, _, ⟨f3, fun w' hw' => (hC2.fr0 hw').get (by kernel_rfl) (j := 0) rfl⟩, _, (h.fr0 f03).pt, .inl rfl, ?_⟩
  refine cond_eq (fun h2 => ?_) fun h2 => no (fun hh => h2 (hmp.1 hh).2.1) w3 f03
  refine ⟨_, rfl, _, _, _, ⟨f3, fun w' hw' => (hC2.fr0 hw').get (by kernel_rfl) (j := 1) rfl⟩, _, _, _, (h.fr0 f03).sd, .inl rfl, ?_⟩
  have g13 := f2.then f3
  refine slicesEqual_c (hO1.fr0 g13).row rfl (h.fr0 f03).r.row rfl (by omega) fun w4 f4 => ⟨_, rfl, .inr (f3.then f4), ?_⟩
  have f04 := f03.then f4
  refine cond_d (fun h5 => ?_) fun h5 => no (fun hh => h5 (hmp.1 hh).2.2.1) w4 f04
  refine ⟨_, rfl, _, ⟨f3.then f4, fun w' hw' => (h.fr0 (f02.then hw')).mm (by kernel_rfl)⟩, _, _, _, (hC2.fr0 (f3.then f4)).get (by kernel_rfl) (j := 2) rfl, .inl rfl, ?_⟩
  refine ⟨_, _, Ef.toStr (by kernel_rfl) (hO2.fr0 (g13.then f4)).row rfl, .inl rfl, _, _, Ef.lookupS (by kernel_rfl) (h.fr0 f04).mp, ?_⟩
  have := hk w4 f04
  have e : decide (mineP x id) = decide (B ∈ x.ks) := by apply decide_eq_decide.2; rw [hmp]; exact ⟨fun hh => hh.2.2.2, fun hh => ⟨h0, h2, h5, hh⟩⟩
  rw [e] at this; exact this
end
end Go.Sh
end

section
namespace Go.Sh
open Go Go.Fw Go.Proofs
set_option maxRecDepth 100000
set_option linter.unusedVariables false
def nxE (x : IS) (random : List UInt8) : Int := if x.room ≤ x.ks.length then 18 else if (random.length : Int) < x.n then 21 else 0
def nxN (x : IS) (random : List UInt8) : List UInt8 := nextN x.ks (random.take x.n.toNat)
def nxI (x : IS) (random : List UInt8) : List UInt8 := mkOut x.m x.s x.n x.key x.point x.sid (nxN x random)
def nxS (x : IS) (random : List UInt8) : IS := { x with ks := x.ks ++ [nxN x random] }
theorem nxE_ok {x : IS} {random : List UInt8} (h : nxE x random = 0) : ¬ x.room ≤ x.ks.length ∧ ¬ (random.length : Int) < x.n := by
  unfold nxE at h
  split at h
  · omega
  · rename_i h1
    split at h
    · omega
    · rename_i h2; exact ⟨h1, h2⟩
theorem freeN_len : ∀ (k : Nat) (ks : List (List UInt8)) (xs : List UInt8), (freeN k ks xs).length = xs.length
  | 0, _, _ => rfl
  | k + 1, ks, xs => by
    unfold freeN
    split
    · rw [freeN_len k, upL_len]
    · rfl
theorem nxN_len {x : IS} (hx : IsOk x) {random : List UInt8} (h : nxE x random = 0) : ((nxN x random).length : Int) = x.n := by
  obtain ⟨h1, h2⟩ := nxE_ok h
  have ho := hx.ok
  unfold okC at ho
  unfold nxN nextN
  rw [freeN_len, List.length_take]
  omega
theorem nx_mkE {x : IS} (hx : IsOk x) {random : List UInt8} (h : nxE x random = 0) : mkE x.m x.s x.n x.key x.point x.sid (nxN x random) = 0 := by
  unfold mkE
  rw [if_pos hx.ok, if_pos ⟨hx.pt.1, hx.pt.2, hx.sl, nxN_len hx h⟩]
section
variable {w : World} {b lo : Nat} {x : IS} {K : Value → World → Prop}
set_option maxHeartbeats 4000000 in
theorem issNext_c (h : IsAt w b x lo) (hkl : x.ks.length < 256) {p1 : Option Addr} {l1 c1 : Nat} {random : List UInt8} (h1 : Row w p1 (random.map vb)) (hl1 : l1 = random.length) (hc1 : l1 ≤ c1)
    (hbad : nxE x random ≠ 0 → ∀ w', Fr [] w w' → K (.tuple #[.slice none 0 0, .int .i64 0, .int .i64 (nxE x random)]) w')
    (hok : nxE x random = 0 → ∀ q d w', Fr [x.mb] w w' → IsAt w' b (nxS x random) lo → OB w' q (nxI x random).length d (nxI x random) w.heap.size → K (.tuple #[.slice q (nxI x random).length d, .int .i64 x.n, .int .i64 0]) w') :
    callF Tryz.prog F_issue_Issuer_Next #[.pointer (some ⟨b, 0, none⟩), .slice p1 l1 c1] w K := by
  apply issue_Issuer_Next_call
  unfold issue_Issuer_Next
  refine ⟨fun w' => Fr [] w w', Drw.intro fun w1 f1 s1 => ⟨_, rfl, _, rfl, _, ⟨f1, fun w' hw' => (h.fr0 hw').mm (by kernel_rfl)⟩, _, ⟨f1, fun w' hw' => (h.fr0 hw').rm⟩, _, _, Ef.lenS (by kernel_rfl) (h.fr0 f1).mp, .inr f1, ?_⟩⟩
  have ho := h.o.ok
  unfold okC at ho
  refine cond_d (fun hh => ?_) fun hroom => ?_
  · have e : nxE x random = 18 := by unfold nxE; rw [if_pos (by omega)]
    rw [e] at hbad
    exact hbad (by omega) w1 f1
  refine ⟨_, rfl, _, (h.fr0 f1).nn, cond_d (fun hh => ?_) fun hrand => ?_⟩
  · have e : nxE x random = 21 := by unfold nxE; rw [if_neg (by omega), if_pos (by omega)]
    rw [e] at hbad
    exact hbad (by omega) w1 f1
  have e : nxE x random = 0 := by unfold nxE; rw [if_neg (by omega), if_neg (by omega)]
  have hok := hok e
  have hmk := nx_mkE h.o e
  have hNl := nxN_len h.o e
  unfold issue_Issuer_Next_j2
  refine ⟨_, rfl, _, (h.fr0 f1).nn, ?_⟩
  obtain ⟨nn, hnn⟩ : ∃ nn : Nat, x.n = (nn : Int) := Int.eq_ofNat_of_zero_le (by omega)
  have hnt : x.n.toNat = nn := by omega
  have en : (Value.int .i64 x.n) = .int .i64 (nn : Int) := by rw [hnn]
  rw [en]
  refine slTo (h1.fr0 f1) hl1 (n := nn) (by omega) hc1 fun q2 d2 hq2 hl2 hd2 _ => ?_
  refine slices_Clone_c hq2 (by simpa using hl2) (by omega) (cells_vb _) fun q d w2 f2 hO2 hn2 => ⟨_, _, _, rfl, ?_⟩
  have f02 := f1.then f2
  have hO2 : OB w2 q nn d (random.take nn) w1.heap.size := ⟨hO2, hl2, hn2⟩
  have n1 := f1.size
  obtain ⟨N, hN⟩ : ∃ N, N = nxN x random := ⟨_, rfl⟩
  have hN' : freeN x.ks.length x.ks (random.take nn) = N := by rw [hN]; unfold nxN nextN; rw [hnt]
  obtain ⟨n0, hn0⟩ : ∃ n0, n0 = random.take nn := ⟨_, rfl⟩
  rw [← hn0] at hO2 hN'
  have hn0l : n0.length = nn := by have := hO2.2.1; omega
  unfold nxI nxS at hok
  rw [← hN] at hok hmk hNl
  have hmbl := h.mp.lt
  have hbl := h.c.lt
  refine LoopS.ind (fun k us w' => ∃ (j : Nat) (cur : List UInt8), j + k = x.ks.length ∧ us = [.pointer (some ⟨b, 0, none⟩), .slice none 0 0, .int .i64 0, .int .i64 0, .slice q nn d] ∧ OB w' q nn d cur w1.heap.size ∧ (∀ i, i < j → upN i n0 ∈ x.ks) ∧ cur = upN j n0 ∧ freeN k x.ks cur = N ∧ Fr [] w w') x.ks.length
    ⟨0, n0, by omega, rfl, hO2, fun i hi => by omega, rfl, hN', f02⟩ ?_
  rintro k us rr w3 I μ hgo ⟨j, cur, hjk, rfl, hO3, hin, hcur, hfree, f03⟩
  refine ⟨_, _, _, _, _, _, _, _, _, rfl, ?_⟩
  refine ⟨fun w' => Fr [] w3 w', Drw.intro fun w4 f4 s4 => ⟨_, rfl, _, ⟨f4, fun w' hw' => (h.fr0 (f03.then hw')).mm (by kernel_rfl)⟩, _, _, Ef.toStr (by kernel_rfl) (hO3.fr0 f4).row hO3.2.1, .inr f4, _, _, Ef.lookupS (by kernel_rfl) (h.fr0 (f03.then f4)).mp, ?_⟩⟩
  have f04 := f03.then f4
  have hO4 := hO3.fr0 f4
  refine cond_d (fun hm => ?_) fun hm => ?_
  · have hfew := upN_few (xs := n0) (ks := x.ks) (by omega) (j := j + 1) (by omega) fun i hi => by
      by_cases hij : i < j
      · exact hin i hij
      · have : i = j := by omega
        rw [this, ← hcur]; exact hm
    obtain ⟨k', hk'⟩ : ∃ k', k = k' + 1 := ⟨k - 1, by omega⟩
    subst hk'
    unfold freeN at hfree
    rw [if_pos hm] at hfree
    refine up_c hO4 (by omega) fun w5 f5 hO5 => ⟨rfl, ?_⟩
    refine hgo _ _ _ k' (by omega) ⟨j + 1, upL cur, by omega, rfl, hO5, fun i hi => ?_, by rw [hcur]; rfl, hfree, f04.trans f5 fun z hz => .inr (by have := hO4.2.2 z hz; omega)⟩
    by_cases hij : i < j
    · exact hin i hij
    · have : i = j := by omega
      rw [this, ← hcur]; exact hm
  · rw [freeN_not hm] at hfree
    subst hfree
    unfold issue_Issuer_Next_j1
    have h4 := h.fr0 f04
    refine ⟨fun w' => Fr [] w4 w', Drw.intro fun w5 f5 s5 => ⟨_, rfl, _, rfl, _, rfl, _, ⟨f5, fun w' hw' => (h4.fr0 hw').cfg0⟩, _, ⟨f5, fun w' hw' => (h4.fr0 hw').pt⟩, _, _, _, (h4.fr0 f5).sd, .inl rfl, ?_⟩⟩
    have f05 := f04.then f5
    have hO5 := hO4.fr0 f5
    refine makeAny_c h.o.k16 (h.fr0 f05).r.row rfl (h.fr0 f05).r.cap hO5.row hO5.2.1 hO5.cap fun q6 d6 w6 f6 hO6 => ⟨_, _, _, _, rfl, ?_⟩
    rw [hmk]
    have f06 := f05.then f6
    refine cond_f ⟨fun w' => Fr [] w6 w', Drw.intro fun w7 f7 s7 => ⟨_, rfl, _, ⟨f7, fun w' hw' => (h.fr0 (f06.then hw')).mm (by kernel_rfl)⟩, _, _, Ef.toStr (by kernel_rfl) ((hO5.fr0 f6).fr0 f7).row hO5.2.1, .inr f7, ?_⟩⟩
    have f07 := f06.then f7
    obtain ⟨w8, he8, f8, hM8, s8⟩ := EfU.putS (P := Tryz.prog) (t := T_M_string_bool) (by kernel_rfl) (h.fr0 f07).mp hm
    refine ⟨w8, he8, Drw.intro fun w9 f9 s9 => ?_⟩
    have n7 := f07.size
    have h8c := (h.fr0 f07).c.fr f8 (by simp; exact h.bm)
    have h8r := (h.fr0 f07).r.fr f8 fun z hz hm2 => h.mpp (by simp at hm2; rw [← hm2]; exact hz)
    have h8 : IsAt w8 b { x with ks := x.ks ++ [cur] } lo := ⟨h8c, h8r, hM8, ⟨h.o.k16, h.o.ok, h.o.pt, h.o.sl, h.o.rm⟩, h.b0, h.m0, h.bm, h.bp, h.mpp⟩
    have h9 := h8.fr0 f9
    refine ⟨_, rfl, _, h9.nn, ?_⟩
    have f09 : Fr [x.mb] w w9 := (f07.mono (l' := [x.mb]) (by simp)).trans (f8.trans f9 (l := [x.mb]) (by simp)) fun z hz => .inl hz
    have hO9 := ((hO6.fr0 f7).fr f8 fun z hz hm2 => by have := hO6.2.2 z hz; have := f05.size; simp at hm2; omega).fr0 f9
    exact hok q6 d6 w9 f09 h9 (hO9.mono f05.size)
set_option maxHeartbeats 2000000 in
theorem issRenew_c (h : IsAt w b x lo) {m s n point : Int} {key sid : List UInt8} {p : Option Addr} {l c : Nat} (hk : key.length = 16) (hR : Row w p (sid.map vb)) (hl : l = sid.length) (hlb : l ≤ 1000000)
    (hbad : isE m s n key point l x.room ≠ 0 → ∀ w', Fr [] w w' → K (.int .i64 (isE m s n key point l x.room)) w')
    (hok : isE m s n key point l x.room = 0 → ∀ y w', Fr [b] w w' → IsAt w' b y lo → (∃ ps cs mb, y = ⟨m, s, n, key, point, x.room, sid, ps, cs, mb, []⟩) → K (.int .i64 0) w') :
    callF Tryz.prog F_issue_Issuer_Renew #[.pointer (some ⟨b, 0, none⟩), .agg ⟨cfgV m s n key⟩, .int .i64 point, .slice p l c] w K := by
  apply issue_Issuer_Renew_call
  unfold issue_Issuer_Renew
  refine newCfg hk fun w1 f1 hC s1 => ?_
  obtain ⟨k5, hk5⟩ : ∃ k, k = w.heap.size := ⟨_, rfl⟩
  rw [← hk5] at hC ⊢
  refine ⟨fun w' => Fr [] w1 w', Drw.intro fun w2 f2 s2 => ⟨_, rfl, _, ⟨f2, fun w' hw' => (hC.fr0 hw').ld hk⟩, _, (h.fr0 (f1.then f2)).rm, .inl rfl, ?_⟩⟩
  have f02 := f1.then f2
  refine issNew_c hk (hR.fr0 f02) hl hlb (fun he w3 f3 => ⟨_, _, rfl, ?_⟩) fun he b' y w3 f3 hY3 hy => ⟨_, _, rfl, ?_⟩
  · have hf : (isE m s n key point l x.room == 0) = false := by simpa using he
    rw [hf]
    exact cond_f (hbad he w3 (f02.then f3))
  · have h3 := h.fr0 (f02.then f3)
    have hvl := IS.v_len hY3.o
    refine cond_t ⟨_, rfl, _, hY3.c.ld (by kernel_rfl) (by rw [hvl]; kernel_rfl), _, rfl, ?_⟩
    obtain ⟨g, hg⟩ := h3.c.blk
    rw [IS.v_len h.o] at hg
    refine stoC hg y.v hvl ?_ (by kernel_rfl) fun w4 f4 hC4 s4 => ?_
    · rw [List.all_eq_true]
      intro u hu
      unfold IS.v IS.t at hu
      rcases List.mem_append.1 hu with hh | hh
      · exact cfgV_one _ _ _ _ u hh
      · simp only [List.mem_cons, List.not_mem_nil, or_false] at hh
        rcases hh with rfl | rfl | rfl | rfl <;> rfl
    have hbl := h.c.lt
    have n2 := f02.size
    have hb := h.b0
    have hym := hY3.m0
    have hyr : b ∉ blks y.ps := fun hm => by have := hY3.r.2.2 b hm; omega
    refine hok he y w4 (((f02.then f3).mono (l' := [b]) (by simp)).trans f4 fun z hz => .inl hz) ⟨hC4, (hY3.r.fr f4 fun z hz hm => by simp at hm; exact hyr (by rw [← hm]; exact hz)).mono (by omega), hY3.mp.fr f4 (by simp; omega), hY3.o, hb, by omega, by omega, hyr, hY3.mpp⟩ hy
end
end Go.Sh
end

section
namespace Go.Sh
open Go Go.Fw Go.Proofs
set_option maxRecDepth 100000
set_option linter.unusedVariables false
theorem mkBk {m s n : Int} {key : List UInt8} {point : Int} {sid nonce : List UInt8} (hk : key.length = 16) (ho : okC m s n key) (hm : okMk m s n key point sid.length nonce.length) :
    okBk m s n key (mkOut m s n key point sid nonce) ∧ bkP m s n key (mkOut m s n key point sid nonce) = point ∧ bkS m s n key (mkOut m s n key point sid nonce) = sid ∧ bkN m s n key (mkOut m s n key point sid nonce) = nonce ∧ ((mkOut m s n key point sid nonce).length : Int) = 1 + (s + n) ∧ ((fl (mkOut m s n key point sid nonce) 0).toNat / 64 : Nat) = point.toNat := by
  obtain ⟨pt, hpt⟩ : ∃ pt : Nat, point = (pt : Int) := Int.eq_ofNat_of_zero_le hm.1
  subst hpt
  have hm' := hm
  have ho' := ho
  unfold okMk at hm
  unfold okC at ho
  have hA : mkOut m s n key (pt : Int) sid nonce = headB pt (sid.length + nonce.length) :: turnC false m key (sid ++ nonce) := by
    unfold mkOut; rw [if_pos ⟨ho', hm'⟩, Int.toNat_natCast]
  obtain ⟨A, hA'⟩ : ∃ A, A = mkOut m s n key (pt : Int) sid nonce := ⟨_, rfl⟩
  rw [← hA'] at hA ⊢
  have hSN : ((sid ++ nonce).length : Int) = s + n := by rw [List.length_append]; omega
  have htl := turnC_len false ho' hSN
  have hAl : A.length = sid.length + nonce.length + 1 := by rw [hA, List.length_cons, htl, List.length_append]
  have hA0 : fl A 0 = headB pt (sid.length + nonce.length) := by rw [hA]; rfl
  have hAd : A.drop 1 = turnC false m key (sid ++ nonce) := by rw [hA]; rfl
  have e64 := headB_point (p := pt) (n := sid.length + nonce.length) (by omega) (by omega)
  have e65 := headB_told (p := pt) (n := sid.length + nonce.length) (by omega) (by omega)
  have bk : okBk m s n key A := ⟨ho', by omega, by rw [hA0, e65]; omega⟩
  have tk : (sid ++ nonce).take s.toNat = sid ∧ (sid ++ nonce).drop s.toNat = nonce := by
    have : s.toNat = sid.length := by omega
    rw [this]; simp
  refine ⟨bk, ?_, ?_, ?_, by omega, by rw [hA0, e64]; omega⟩
  · unfold bkP; rw [if_pos bk, hA0, e64]
  · unfold bkS; rw [if_pos bk, hAd, turn_back ho' hk hSN, tk.1]
  · unfold bkN; rw [if_pos bk, hAd, turn_back ho' hk hSN, tk.2]
theorem acfg : (#[.int .i64 0, .int .i64 1, .int .i64 4, .int .u8 0, .int .u8 0, .int .u8 0, .int .u8 0, .int .u8 0, .int .u8 0, .int .u8 0, .int .u8 0, .int .u8 0, .int .u8 0, .int .u8 0, .int .u8 0, .int .u8 0, .int .u8 0, .int .u8 0, .int .u8 0] : Array Value) = ⟨cfgV 0 1 4 z16k⟩ := by kernel_rfl
section
variable {w : World} {K : Value → World → Prop}
set_option maxHeartbeats 8000000 in
theorem alive28_c (h : ∀ w', Fr [] w w' → K (.bool true) w') : callF Tryz.prog F_law28_alive #[] w K := by
  apply law28_alive_call
  unfold law28_alive
  rw [acfg, zcfg]
  refine mkL (n := 1) (xs := [9]) rfl rfl (by kernel_rfl) fun q1 w1 f1 h1 s1 => ?_
  have eN : isE 0 1 4 z16k 2 1 2 = 0 := by kernel_rfl
  refine issNew_c (m := 0) (s := 1) (n := 4) (key := z16k) (point := 2) (room := 2) rfl h1.row rfl (by omega) (fun hh => absurd eN hh) fun _ b x w2 f2 hX2 hx => ⟨_, _, rfl, ?_⟩
  obtain ⟨ps, cs, mb, rfl⟩ := hx
  refine mkL (n := 1) (xs := [9]) rfl rfl (by kernel_rfl) fun q3 w3 f3 h3 s3 => ?_
  have eZ : isE 0 0 0 z16k 2 1 2 = 10 := by kernel_rfl
  refine issNew_c (m := 0) (s := 0) (n := 0) (key := z16k) (point := 2) (room := 2) rfl h3.row rfl (by omega) (fun _ w4 f4 => ⟨_, _, rfl, ?_⟩) fun hh => absurd (eZ.symm.trans hh) (by omega)
  rw [eZ]
  refine ⟨_, _, ptrNil (by kernel_rfl), cond_f (cond_f (cond_f ?_))⟩
  unfold law28_alive_j1
  have hX4 := (hX2.fr0 f3).fr0 f4
  have f04 := ((f1.then f2).then f3).then f4
  have n1 := f1.size
  obtain ⟨X, hX⟩ : ∃ X : IS, X = ⟨0, 1, 4, z16k, 2, 2, [9], ps, cs, mb, []⟩ := ⟨_, rfl⟩
  rw [← hX] at hX4
  -- too few random bytes
  refine mkL (n := 3) (xs := [0, 0, 1]) rfl rfl (by kernel_rfl) fun q5 w5 f5 h5 s5 => ?_
  have e1 : nxE X [0, 0, 1] = 21 := by rw [hX]; kernel_rfl
  have k0 : X.ks.length < 256 := by rw [hX]; show 0 < 256; omega
  refine issNext_c (hX4.fr0 f5) k0 h5.row rfl (by omega) (fun _ w6 f6 => ⟨_, _, _, _, _, rfl, ?_⟩) fun hh => absurd (e1.symm.trans hh) (by omega)
  rw [e1]
  have g46 := f5.then f6
  refine mkL (n := 5) (xs := [0, 0, 0, 1, 7]) rfl rfl (by kernel_rfl) fun q7 w7 f7 h7 s7 => ?_
  have e2 : nxE X [0, 0, 0, 1, 7] = 0 := by rw [hX]; kernel_rfl
  have g47 := g46.then f7
  have f07 := f04.then g47
  refine issNext_c (hX4.fr0 g47) k0 h7.row rfl (by omega) (fun hh => absurd e2 hh) fun _ qa da w8 f8 hX8 ha8 => ⟨_, _, _, _, _, rfl, ?_⟩
  have eA : nxI X [0, 0, 0, 1, 7] = [133, 9, 0, 0, 0, 1] := by rw [hX]; kernel_rfl
  have eS : nxS X [0, 0, 0, 1, 7] = ⟨0, 1, 4, z16k, 2, 2, [9], ps, cs, mb, [[0, 0, 0, 1]]⟩ := by rw [hX]; kernel_rfl
  have en : X.n = 4 := by rw [hX]
  rw [eA] at ha8
  rw [eS] at hX8
  rw [eA, en]
  have hm0 := hX4.m0
  rw [hX] at hm0
  have hm0 : w1.heap.size ≤ mb := hm0
  have hXmb : X.mb = mb := by rw [hX]
  rw [hXmb] at f8
  have f08 : Fr [] w w8 := f07.st f8 (by omega)
  obtain ⟨Y, hY⟩ : ∃ Y : IS, Y = ⟨0, 1, 4, z16k, 2, 2, [9], ps, cs, mb, [[0, 0, 0, 1]]⟩ := ⟨_, rfl⟩
  rw [← hY] at hX8
  have hYmb : Y.mb = mb := by rw [hY]
  refine issClone_c hX8 fun c mc w9 f9 hcl hX9 hC9 hcb hmc hmb2 hcm hclt hmcl => ⟨_, rfl, ?_⟩
  rw [hYmb] at hmc hcm
  refine mkL (n := 4) (xs := [0, 0, 0, 1]) rfl rfl (by kernel_rfl) fun q10 w10 f10 h10 s10 => ?_
  have g810 := f9.then f10
  have e3 : nxE Y [0, 0, 0, 1] = 0 := by rw [hY]; kernel_rfl
  have k1 : Y.ks.length < 256 := by rw [hY]; show 1 < 256; omega
  refine issNext_c (hX9.fr0 f10) k1 h10.row rfl (by omega) (fun hh => absurd e3 hh) fun _ qb db w11 f11 hX11 hb11 => ⟨_, _, _, _, _, rfl, ?_⟩
  have eB : nxI Y [0, 0, 0, 1] = [133, 9, 0, 0, 0, 2] := by rw [hY]; kernel_rfl
  have eT : nxS Y [0, 0, 0, 1] = ⟨0, 1, 4, z16k, 2, 2, [9], ps, cs, mb, [[0, 0, 0, 1], [0, 0, 0, 2]]⟩ := by rw [hY]; kernel_rfl
  rw [eB] at hb11
  rw [eT] at hX11
  rw [eB]
  rw [hYmb] at f11
  have f011 : Fr [] w w11 := (f08.then g810).st f11 (by omega)
  have hC11 : IsAt w11 c { Y with mb := mc } w1.heap.size := (hC9.fr0 f10).fr f11 fun z hz => by
    have hz : z = mb := by simpa using hz
    subst hz
    exact ⟨fun hh => hcm hh.symm, fun hh => hmc hh.symm, by have := hX9.mpp; rw [hYmb] at this; exact this⟩
  obtain ⟨Z, hZ⟩ : ∃ Z : IS, Z = ⟨0, 1, 4, z16k, 2, 2, [9], ps, cs, mb, [[0, 0, 0, 1], [0, 0, 0, 2]]⟩ := ⟨_, rfl⟩
  rw [← hZ] at hX11
  refine mkL (n := 4) (xs := [0, 0, 0, 1]) rfl rfl (by kernel_rfl) fun q12 w12 f12 h12 s12 => ?_
  have e4 : nxE Z [0, 0, 0, 1] = 18 := by rw [hZ]; kernel_rfl
  have k2 : Z.ks.length < 256 := by rw [hZ]; show 2 < 256; omega
  refine issNext_c (hX11.fr0 f12) k2 h12.row rfl (by omega) (fun _ w13 f13 => ⟨_, _, _, _, _, rfl, ?_⟩) fun hh => absurd (e4.symm.trans hh) (by omega)
  rw [e4]
  have g1113 := f12.then f13
  refine issPlace_c (hX11.fr0 g1113) fun qp dp w14 f14 hp14 => ⟨_, _, _, _, rfl, ?_⟩
  have eP : Z.point = 2 := by rw [hZ]
  have eSid : Z.sid = [9] := by rw [hZ]
  rw [eSid] at hp14
  rw [eP, eSid]
  have g1114 := g1113.then f14
  have ha14 := ((ha8.fr0 g810).fr f11 fun z hz hm => by
    have := ha8.2.2 z hz; have := hX4.mp.lt; rw [hXmb] at this; have := g47.size; simp at hm; omega).fr0 g1114
  refine issMine_c (hX11.fr0 g1114) ha14.row rfl ha14.cap (by decide) fun w15 f15 => ⟨_, rfl, ?_⟩
  have m1 : decide (mineP Z [133, 9, 0, 0, 0, 1]) = true := by rw [hZ]; kernel_rfl
  rw [m1]
  have g1115 := g1114.then f15
  refine mkL (n := 1) (xs := [8]) rfl rfl (by kernel_rfl) fun q16 w16 f16 h16 s16 => ?_
  have eR : Z.room = 2 := by rw [hZ]
  have e5 : isE 0 1 4 z16k 0 1 Z.room = 0 := by rw [eR]; kernel_rfl
  refine issRenew_c (m := 0) (s := 1) (n := 4) (key := z16k) (point := 0) (hX11.fr0 (g1115.then f16)) rfl h16.row rfl (by omega) (fun hh => absurd e5 hh) fun _ y w17 f17 hY17 hy => ⟨_, rfl, ?_⟩
  obtain ⟨ps2, cs2, mb2, hy⟩ := hy
  rw [eR] at hy
  subst hy
  have hb0 := hX11.b0
  have f016 := (f011.then g1115).then f16
  have f017 : Fr [] w w17 := f016.st f17 (by omega)
  have e6 : isE 0 1 4 z16k 0 0 2 = 11 := by kernel_rfl
  refine issRenew_c (m := 0) (s := 1) (n := 4) (key := z16k) (point := 0) (sid := []) hY17 rfl (.inl rfl) rfl (by omega) (fun _ w18 f18 => ⟨_, rfl, ?_⟩) fun hh => absurd (e6.symm.trans hh) (by omega)
  show ∃ (b91 : Bool) (w15 : World), _
  have e6' : isE 0 1 4 z16k 0 0 (2 : Int) = 11 := e6
  rw [e6']
  refine ⟨_, _, ptrNe (by kernel_rfl), cond_t ?_⟩
  refine cond_t (cond_t (cond_t (cond_t (cond_t (cond_t (cond_t ?_))))))
  have ha18 := (((ha14.fr0 f15).fr0 f16).fr f17 fun z hz hm => by
    have h1 := ha8.2.2 z hz; have h2 := hX4.c.lt; have := g47.size; simp at hm; omega).fr0 f18
  have hb18 := (((hb11.fr0 g1115).fr0 f16).fr f17 fun z hz hm => by
    have h1 := hb11.2.2 z hz; have h2 := (hX9.fr0 f10).c.lt; simp at hm; omega).fr0 f18
  have hp18 := (((hp14.fr0 f15).fr0 f16).fr f17 fun z hz hm => by
    have h1 := hp14.2.2 z hz; have h2 := (hX11.fr0 g1113).c.lt; simp at hm; omega).fr0 f18
  have hC18 : IsAt w18 c { Y with mb := mc } w1.heap.size := ((hC11.fr0 (g1115.then f16)).fr f17 fun z hz => by
    have hz : z = b := by simpa using hz
    subst hz
    exact ⟨fun hh => hcb hh.symm, fun hh => hmb2 hh.symm, hX9.bp⟩).fr0 f18
  have hY18 := hY17.fr0 f18
  refine mkL (n := 6) (xs := [133, 9, 0, 0, 0, 1]) rfl rfl (by kernel_rfl) fun q19 w19 f19 h19 s19 => ?_
  refine SameBytes_c (ha18.fr0 f19).row rfl h19.row rfl (by decide) fun w20 f20 => ⟨_, rfl, ?_⟩
  rw [decide_eq_true rfl]
  have g1820 := f19.then f20
  refine cond_t ?_
  refine mkL (n := 6) (xs := [133, 9, 0, 0, 0, 2]) rfl rfl (by kernel_rfl) fun q21 w21 f21 h21 s21 => ?_
  refine SameBytes_c ((hb18.fr0 g1820).fr0 f21).row rfl h21.row rfl (by decide) fun w22 f22 => ⟨_, rfl, ?_⟩
  rw [decide_eq_true rfl]
  have g1822 := (g1820.then f21).then f22
  refine cond_t (cond_t ?_)
  refine mkL (n := 1) (xs := [9]) rfl rfl (by kernel_rfl) fun q23 w23 f23 h23 s23 => ?_
  refine SameBytes_c ((hp18.fr0 g1822).fr0 f23).row rfl h23.row rfl (by decide) fun w24 f24 => ⟨_, rfl, ?_⟩
  rw [decide_eq_true rfl]
  have g1824 := (g1822.then f23).then f24
  refine cond_t (cond_t ?_)
  refine issMine_c (hY18.fr0 g1824) (ha18.fr0 g1824).row rfl ha18.cap (by decide) fun w25 f25 => ⟨_, rfl, ?_⟩
  have m2 : decide (mineP (⟨0, 1, 4, z16k, 0, 2, [8], ps2, cs2, mb2, []⟩ : IS) [133, 9, 0, 0, 0, 1]) = false := by kernel_rfl
  rw [m2]
  have g1825 := g1824.then f25
  refine cond_t ?_
  refine issIssued_c (hY18.fr0 g1825) ⟨_, rfl, cond_t ?_⟩
  have hCks : ({ Y with mb := mc } : IS) = ⟨0, 1, 4, z16k, 2, 2, [9], ps, cs, mc, [[0, 0, 0, 1]]⟩ := by rw [hY]
  rw [hCks] at hC18
  refine issIssued_c (hC18.fr0 g1825) ⟨_, rfl, cond_t ?_⟩
  refine issMine_c (hC18.fr0 g1825) (ha18.fr0 g1825).row rfl ha18.cap (by decide) fun w26 f26 => ⟨_, rfl, ?_⟩
  have m3 : decide (mineP (⟨0, 1, 4, z16k, 2, 2, [9], ps, cs, mc, [[0, 0, 0, 1]]⟩ : IS) [133, 9, 0, 0, 0, 1]) = true := by kernel_rfl
  rw [m3]
  have g1826 := g1825.then f26
  refine cond_t ?_
  refine issMine_c (hC18.fr0 g1826) (hb18.fr0 g1826).row rfl hb18.cap (by decide) fun w27 f27 => ⟨_, rfl, ?_⟩
  have m4 : decide (mineP (⟨0, 1, 4, z16k, 2, 2, [9], ps, cs, mc, [[0, 0, 0, 1]]⟩ : IS) [133, 9, 0, 0, 0, 2]) = false := by kernel_rfl
  rw [m4]
  exact h w27 ((f017.then f18).then (g1826.then f27))
end
end Go.Sh
end

section
namespace Go.Sh
open Go Go.Fw Go.Proofs
set_option maxRecDepth 100000
set_option linter.unusedVariables false
section
variable {w : World} {K : Value → World → Prop}
theorem rowBfr {w' : World} {p : Option Addr} {rs : List (List UInt8)} (h : RowB w p rs) (f : Fr [] w w') : RowB w' p rs := by
  obtain ⟨vs, hv, hl, hr⟩ := h
  refine ⟨vs, hv.fr f (by simp), hl, fun j r hj => ?_⟩
  obtain ⟨v, hv1, q, c, e, hc, hR⟩ := hr j r hj
  exact ⟨v, hv1, q, c, e, hc, hR.fr0 f⟩
end
end Go.Sh
end

section
namespace Go.Sh
open Go Go.Fw Go.Proofs
set_option maxRecDepth 100000
set_option linter.unusedVariables false
theorem showMk {sl : Nat → SL} {m s n : Int} {key : List UInt8} {point : Int} (ho : occ sl point) {st : Nat} (hx : ofS sl point = ⟨m, s, n, key, st⟩) {sid nonce : List UInt8} (hk : key.length = 16) (hc : okC m s n key) (hm : okMk m s n key point sid.length nonce.length) {A : List UInt8} (hA : A = mkOut m s n key point sid nonce) :
    showR sl A = ⟨0, point, sid, nonce⟩ ∧ ∀ (first : UInt8) (rest : List UInt8), shortR sl (first :: (A ++ rest)) = ⟨0, point, sid, nonce⟩ := by
  obtain ⟨b1, b2, b3, b4, b5, b6⟩ := mkBk hk hc hm
  rw [← hA] at b1 b2 b3 b4 b5 b6
  have hm' := hm
  unfold okMk at hm'
  have hc' := hc
  unfold okC at hc'
  have hp : (ptO A : Int) = point := by unfold ptO; rw [b6]; omega
  have hbk : bkR (⟨m, s, n, key, st⟩ : SL) A = ⟨0, point, sid, nonce⟩ := by unfold bkR; rw [bkE_zero.2 b1, b2, b3, b4]
  refine ⟨?_, fun first rest => ?_⟩
  · unfold showR
    rw [if_neg (by omega), hp, if_pos ho, hx, hbk]
  · have hd : (first :: (A ++ rest)).drop 1 = A ++ rest := rfl
    obtain ⟨R, hR⟩ : ∃ R, R = first :: (A ++ rest) := ⟨_, rfl⟩
    rw [← hR] at hd ⊢
    have hlR : R.length = 1 + A.length + rest.length := by rw [hR, List.length_cons, List.length_append]; omega
    have h0 : fl (A ++ rest) 0 = fl A 0 := by unfold fl; rw [List.getD_eq_getElem?_getD, List.getElem?_append_left (by omega), List.getD_eq_getElem?_getD]
    have hp2 : (ptO (A ++ rest) : Int) = point := by unfold ptO; rw [h0]; exact hp
    have hsz : (⟨m, s, n, key, st⟩ : SL).size = A.length := by unfold SL.size; show (1 + (s + n)).toNat = _; omega
    unfold shortR
    rw [if_neg (by omega), hd, hp2, if_pos ho, hx, hsz, if_neg (by rw [List.length_append]; omega), List.take_left, hbk]
section
variable {w : World} {K : Value → World → Prop}
set_option maxHeartbeats 8000000 in
theorem IssueOnce_c {m s n point : Int} {key sid rest : List UInt8} {rs : List (List UInt8)} {p2 p3 p4 : Option Addr} {l2 c2 l3 c3 l4 c4 : Nat} (hk : key.length = 16) (h2 : Row w p2 (sid.map vb)) (hl2 : l2 = sid.length) (hc2 : l2 ≤ c2) (h3 : RowB w p3 rs) (hl3 : l3 = rs.length) (h4 : Row w p4 (rest.map vb)) (hl4 : l4 = rest.length) (hc4 : l4 ≤ c4)
    (h : ∀ w', Fr [] w w' → K (.bool true) w') : callF Tryz.prog F_law28_IssueOnce #[.agg ⟨cfgV m s n key⟩, .int .i64 point, .slice p2 l2 c2, .slice p3 l3 c3, .slice p4 l4 c4] w K := by
  apply law28_IssueOnce_call
  unfold law28_IssueOnce
  refine newCfg hk fun w1 f1 hC1 s1 => ?_
  obtain ⟨k5, hk5⟩ : ∃ k, k = w.heap.size := ⟨_, rfl⟩
  rw [← hk5] at hC1 ⊢
  refine alive28_c fun w2 f2 => ⟨_, rfl, cond_f ?_⟩
  have f02 := f1.then f2
  refine Long_c (rowBfr h3 f02) hl3 (m := 1000) (by omega) ⟨_, rfl, cond_t (h w2 f02)⟩ fun hfew hrl => ⟨_, rfl, cond_f ?_⟩
  refine cond_d (fun _ => h w2 f02) fun g3 => cond_d (fun _ => h w2 f02) fun g2 => cond_d (fun _ => h w2 f02) fun g4 => ?_
  have hC2 := hC1.fr0 f2
  unfold law28_IssueOnce_j5
  refine ⟨_, hC2.ld hk, ?_⟩
  refine issNew_c (room := 65536) hk (h2.fr0 f02) hl2 (by omega) (fun he w3 f3 => ⟨_, _, rfl, ?_⟩) fun he b x w3 f3 hX3 hx => ⟨_, _, rfl, ?_⟩
  · have hE : (isE m s n key point l2 65536 != 0) = true := by simpa using he
    refine slotNew_c fun bs w4 f4 hbs hS4 => ⟨_, rfl, ?_⟩
    rw [hE]
    refine cond_t ?_
    unfold law28_IssueOnce_j4
    refine cond_t ⟨_, _, ptrNil (by kernel_rfl), cond_t ?_⟩
    rw [hE]; exact h w4 ((f02.then f3).then f4)
  obtain ⟨ps, cs, mb, rfl⟩ := hx
  have f03 := f02.then f3
  have n02 := f02.size
  have n03 := f03.size
  have hXb : b < w3.heap.size := hX3.c.lt
  have hXm : mb < w3.heap.size := hX3.mp.lt
  have hXp : ∀ z ∈ blks ps, z < w3.heap.size := hX3.r.lt
  have hXm0 : w2.heap.size ≤ mb := hX3.m0
  have ho : okC m s n key := hX3.o.ok
  have hpt : 0 ≤ point ∧ point ≤ 2 := hX3.o.pt
  have hsl : (sid.length : Int) = s := hX3.o.sl
  have hoc := ho
  unfold okC at hoc
  refine slotNew_c fun bs w4 f4 hbs hS4 => ⟨_, rfl, cond_f ⟨_, _, ptrNil (by kernel_rfl), cond_f ⟨_, _, ptrNil (by kernel_rfl), ?_⟩⟩⟩
  unfold law28_IssueOnce_j4
  refine cond_f ?_
  have f04 := f03.then f4
  have hC4 := (hC2.fr0 f3).fr0 f4
  unfold law28_IssueOnce_j3
  refine ⟨_, hC4.ld hk, ?_⟩
  have eI : insE (fun _ => sl0) point m s n key = 0 := by
    unfold insE
    rw [if_neg (fun hh => hh (by omega)), if_neg (fun hh => hh ho), if_neg (fun hh => hh.2 rfl)]
  refine slotInstall_c hS4 (by omega) hk fun w5 sl t f5 hS5 _ hsl' => ⟨_, rfl, ?_⟩
  obtain ⟨hsl', ht⟩ := hsl' eI
  rw [eI]
  refine cond_f ?_
  have f05 : Fr [] w w5 := f04.st f5 (by omega)
  obtain ⟨w6, he6, f6, hM6, s6⟩ := Ef.makeMap (P := Tryz.prog) (t := T_M_string_bool) (w := w5)
  refine ⟨_, w6, he6, ?_⟩
  have hbl := hS4.lt
  have n5 := f5.size; have n4 := f4.size
  obtain ⟨sm, hsm⟩ : ∃ k, k = w5.heap.size := ⟨_, rfl⟩
  rw [← hsm] at hM6 ⊢
  have hM6 : SMap w6 sm [] := ⟨#[], 0, hM6, rfl⟩
  have f06 := f05.then f6
  have hX6 : IsAt w6 b ⟨m, s, n, key, point, 65536, sid, ps, cs, mb, []⟩ w2.heap.size := (((hX3.fr0 f4).fr f5 fun z hz => by
    have hz : z = bs := by simpa using hz
    rw [hz]
    exact ⟨by omega, by show bs ≠ mb; omega, fun hm => by have := hXp bs hm; omega⟩)).fr0 f6
  have hk5l : k5 < w2.heap.size := hC2.lt
  have hC6 : Cfg w6 k5 m s n key := (hC4.fr f5 (by simp; omega)).fr0 f6
  have hS6 := hS5.fr0 f6
  have hocc : occ sl point := by
    refine ⟨by omega, ?_⟩
    rw [hsl']; unfold setS; rw [if_pos rfl]; show (0 : Nat) + 1 ≠ 0; omega
  have hofS : ofS sl point = ⟨m, s, n, key, 0 + 1⟩ := by
    unfold ofS
    rw [if_pos (by omega), hsl']; unfold setS; rw [if_pos rfl]
  refine LoopS.ind (fun k us w' => ∃ (i : Nat) (L : List (List UInt8)), i + k = l3 ∧ us = [.int .i64 point, .slice p2 l2 c2, .slice p3 l3 c3, .slice p4 l4 c4, .pointer (some ⟨k5, 0, none⟩), .bool false, .pointer (some ⟨b, 0, none⟩), .pointer (some ⟨bs, 0, none⟩), .map (some sm), .int .i64 (i : Int)] ∧ L.length ≤ i ∧ (∀ N ∈ L, (N.length : Int) = n) ∧ IsAt w' b ⟨m, s, n, key, point, 65536, sid, ps, cs, mb, L⟩ w2.heap.size ∧ SlAt w' bs sl t ∧ SMap w' sm (L.map fun N => mkOut m s n key point sid N) ∧ Cfg w' k5 m s n key ∧ Fr [] w w') l3
    ⟨0, [], by omega, rfl, Nat.le_refl _, by simp, hX6, hS6, hM6, hC6, f06⟩ ?_
  rintro k us rr w7 I μ hgo ⟨i, L, hik, rfl, hLl, hLn, hX7, hS7, hM7, hC7, f07⟩
  obtain ⟨X, hX⟩ : ∃ X : IS, X = ⟨m, s, n, key, point, 65536, sid, ps, cs, mb, L⟩ := ⟨_, rfl⟩
  rw [← hX] at hX7
  obtain ⟨x1, x2, x3, x4, x5, x6, x7, x8, x9⟩ : X.n = n ∧ X.ks = L ∧ X.mb = mb ∧ X.point = point ∧ X.sid = sid ∧ X.m = m ∧ X.s = s ∧ X.key = key ∧ X.room = 65536 := by rw [hX]; exact ⟨rfl, rfl, rfl, rfl, rfl, rfl, rfl, rfl, rfl⟩
  have hsml := hM7.lt
  have hbsl := hS7.lt
  refine ⟨_, _, _, _, _, _, _, _, _, _, _, _, _, _, _, _, rfl, cond_d (fun hlt => ?_) fun hge => ?_⟩
  · obtain ⟨a, q, d, ha, hca, hq, hd⟩ := rows_get (t := T_S_S_uint8) (by kernel_rfl) (rowBfr h3 f07) (c := c3) hl3 (i := i) (by omega) (k := .i64)
    obtain ⟨r, hr⟩ : ∃ r, r = rs.getD i [] := ⟨_, rfl⟩
    rw [← hr] at hca hq hd
    have ew : IntKind.i64.wrap ((i : Int) + 1) = ((i + 1 : Nat) : Int) := by rw [wrap64 (by omega) (by omega)]; omega
    refine ⟨_, ha, _, _, _, Ld.cell (by kernel_rfl) hca, ?_⟩
    refine issNext_c hX7 (by rw [x2]; omega) hq rfl hd (fun hbad w8 f8 => ⟨_, _, _, _, _, rfl, ?_⟩) fun hok qa da w8 f8 hX8 ha8 => ⟨_, _, _, _, _, rfl, ?_⟩
    · have hlr : (r.length : Int) < n := by
        have hb' : ¬ nxE X r = 0 := hbad
        unfold nxE at hb'
        rw [x9, x2, x1, if_neg (by omega)] at hb'
        by_cases hh : (r.length : Int) < n
        · exact hh
        · rw [if_neg hh] at hb'; exact absurd rfl hb'
      have e21 : nxE X r = 21 := by unfold nxE; rw [x9, x2, x1, if_neg (by omega), if_pos hlr]
      rw [e21]
      refine ⟨fun w' => Fr [] w8 w', Drw.intro fun w9 f9 s9 => ?_⟩
      have f79 := f8.then f9
      refine ⟨_, ha, _, _, _, ⟨f9, fun w' hw' => Ld.cell (by kernel_rfl) ((f8.then hw').cell hca (by simp))⟩, _, (hC7.fr0 f79).nonce, .inl rfl, ?_⟩
      refine cond_d (fun _ => ?_) fun hh => absurd hlr hh
      refine cond_f (cond_f (cond_f ?_))
      rw [ew]
      exact hgo _ _ _ (k - 1) (by omega) ⟨i + 1, L, by omega, rfl, by omega, hLn, by rw [← hX]; exact hX7.fr0 f79, hS7.fr0 f79, hM7.fr0 f79, hC7.fr0 f79, f07.then f79⟩
    · rw [x3] at f8
      have f08 : Fr [] w w8 := f07.st f8 (by omega)
      have hlr := (nxE_ok hok).2
      rw [x1] at hlr
      have hNl := nxN_len hX7.o hok
      have hnew := (nextN_new (ks := X.ks) (xs := r.take X.n.toNat) (by rw [List.length_take, x1]; omega) (by rw [x2]; omega)).1
      obtain ⟨N, hN⟩ : ∃ N, N = nxN X r := ⟨_, rfl⟩
      have hnew : N ∉ L := by rw [hN, ← x2]; exact hnew
      rw [← hN, x1] at hNl
      have hmk : okMk m s n key point sid.length N.length := ⟨hpt.1, hpt.2, hsl, hNl⟩
      obtain ⟨b1, b2, b3, b4, b5, b6⟩ := mkBk hk ho hmk
      obtain ⟨A, hA⟩ : ∃ A, A = mkOut m s n key point sid N := ⟨_, rfl⟩
      rw [← hA] at b1 b2 b3 b4 b5 b6
      have eXI : nxI X r = A := by unfold nxI; rw [x1, x4, x5, x6, x7, x8, hA, hN]
      rw [eXI] at ha8
      rw [eXI, x1]
      have eXS : nxS X r = ⟨m, s, n, key, point, 65536, sid, ps, cs, mb, L ++ [N]⟩ := by unfold nxS; rw [← hN, hX]
      have pXA : mineP (nxS X r) A := by
        unfold mineP
        show okBk X.m X.s X.n X.key A ∧ bkP X.m X.s X.n X.key A = X.point ∧ bkS X.m X.s X.n X.key A = X.sid ∧ bkN X.m X.s X.n X.key A ∈ X.ks ++ [nxN X r]
        rw [x1, x4, x5, x6, x7, x8, ← hN]
        exact ⟨b1, b2, b3, by rw [b4]; simp⟩
      have hS8 := hS7.fr f8 (by simp; omega)
      have hM8 := hM7.fr f8 (by simp; omega)
      have hC8 := hC7.fr f8 (by simp; omega)
      have hca8 := rows_get (t := T_S_S_uint8) (by kernel_rfl) (rowBfr h3 f08) (c := c3) hl3 (i := i) (by omega) (k := .i64)
      rw [← hr] at hca8
      obtain ⟨a', q', d', ha', hca', hq', hd'⟩ := hca8
      refine ⟨fun w' => Fr [] w8 w', Drw.intro fun w9 f9 s9 => ?_⟩
      refine ⟨_, ha', _, _, _, ⟨f9, fun w' hw' => Ld.cell (by kernel_rfl) (hw'.cell hca' (by simp))⟩, _, (hC8.fr0 f9).nonce, .inl rfl, ?_⟩
      refine cond_d (fun hh => absurd hh hlr) fun _ => cond_f ?_
      refine ⟨_, (hC8.fr0 f9).nonce, cond_ne (fun hh => absurd rfl hh) fun _ => ⟨_, (hC8.fr0 f9).ld hk, ?_⟩⟩
      refine cfgSize_c hk fun w10 f10 => ⟨_, rfl, ?_⟩
      rw [if_pos ho]
      have g810 := f9.then f10
      refine cond_ne (fun hh => by omega) fun _ => ?_
      refine ⟨_, _, Ef.toStr (by kernel_rfl) (ha8.fr0 g810).row rfl, _, _, Ef.lookupS (by kernel_rfl) (hM8.fr0 g810), ?_⟩
      have hns : A ∉ L.map fun N => mkOut m s n key point sid N := by
        intro hm
        obtain ⟨N', hN', he'⟩ := List.mem_map.1 hm
        have hmk' : okMk m s n key point sid.length N'.length := ⟨hpt.1, hpt.2, hsl, hLn N' hN'⟩
        have b4' := (mkBk hk ho hmk').2.2.2.1
        have he' : mkOut m s n key point sid N' = A := he'
        rw [he', b4] at b4'
        exact hnew (by rw [b4']; exact hN')
      rw [decide_eq_false hns]
      refine cond_f ?_
      obtain ⟨a0, ha0, hca0⟩ := (ha8.fr0 g810).get (k := .i64) (i := 0) (by omega)
      refine ⟨_, ha0, _, Ld.cell (by kernel_rfl) hca0, Point_c ⟨_, rfl, cond_ne (fun hh => by rw [b6] at hh; omega) fun _ => ?_⟩⟩
      have htold := b1.2.2
      refine ⟨_, ha0, _, Ld.cell (by kernel_rfl) hca0, Told_c ⟨_, rfl, cond_ne (fun hh => by omega) fun _ => ?_⟩⟩
      refine issMine_c (hX8.fr0 g810) (ha8.fr0 g810).row rfl ha8.cap (by omega) fun w11 f11 => ⟨_, rfl, ?_⟩
      rw [decide_eq_true pXA]
      refine cond_f ?_
      have g811 := g810.then f11
      unfold law28_IssueOnce_j1
      refine ⟨_, _, Ef.toStr (by kernel_rfl) (ha8.fr0 g811).row rfl, ?_⟩
      obtain ⟨w12, he12, f12, hM12, s12⟩ := EfU.putS (P := Tryz.prog) (t := T_M_string_bool) (by kernel_rfl) (hM8.fr0 g811) hns
      refine ⟨w12, he12, ?_⟩
      have hal := ha8.lt
      have n8 := f8.size
      have hX12 : IsAt w12 b (nxS X r) w2.heap.size := (hX8.fr0 g811).fr f12 fun z hz => by
        have hz : z = sm := by simpa using hz
        rw [hz]
        refine ⟨by omega, ?_, ?_⟩
        · show sm ≠ X.mb
          rw [x3]; omega
        · show sm ∉ blks X.ps
          rw [hX]; exact fun hm => by have := hXp sm hm; omega
      have hS12 := (hS8.fr0 g811).fr f12 (by simp; omega)
      have hC12 := (hC8.fr0 g811).fr f12 (by simp; omega)
      have ha12 := (ha8.fr0 g811).fr f12 fun z hz hm => by have := ha8.2.2 z hz; simp at hm; omega
      have f012 : Fr [] w w12 := (f08.then g811).st f12 (by omega)
      obtain ⟨hs1, hs2⟩ := showMk (sid := sid) (nonce := N) hocc hofS hk ho hmk hA
      refine slotShow_c hS12 ha12.row rfl ha12.cap (by omega) ?_
      rw [hs1]
      intro q1 d1 q2 d2 w13 f13 hA1 hA2
      have hA1 : OB w13 q1 sid.length d1 sid w12.heap.size := hA1
      have hA2 : OB w13 q2 N.length d2 N w12.heap.size := hA2
      refine ⟨_, _, _, _, _, _, _, _, rfl, newP (pt := point) (l1 := sid.length) (l2 := N.length) fun w14 f14 hP14 => ?_⟩
      have g1214 := f13.then f14
      refine mkL (n := 1) (xs := [64]) rfl rfl (by kernel_rfl) fun q15 w15 f15 h15 s15 => ?_
      have g1215 := g1214.then f15
      refine pushN (m := A.length) h15 f15.size (ha12.fr0 g1215).row rfl (by omega) fun q16 d16 w16 f16 h16 => ?_
      have g1416 : Fr [] w14 w16 := f15.trans f16 fun z hz => .inr (h15.2.2 z hz)
      have g1216 := g1214.then g1416
      have n1416 := g1416.size
      refine pushN (m := l4) h16 n1416 (h4.fr0 (f012.then g1216)) hl4 (by omega) fun q17 d17 w17 f17 h17 => ?_
      have g1417 : Fr [] w14 w17 := g1416.trans f17 fun z hz => .inr (h16.2.2 z hz)
      have g1217 := g1214.then g1417
      have eR : [64] ++ A ++ rest = (64 : UInt8) :: (A ++ rest) := by simp
      rw [eR] at h17
      refine slotShort_c (hS12.fr0 g1217) h17.row h17.2.1 h17.cap (by omega) ?_
      rw [hs2 64 rest]
      intro q3 d3 q4 d4 w18 f18 hB1 hB2
      have hB1 : OB w18 q3 sid.length d3 sid w17.heap.size := hB1
      have hB2 : OB w18 q4 N.length d4 N w17.heap.size := hB2
      refine ⟨_, _, _, _, _, _, _, _, rfl, newP (pt := point) (l1 := sid.length) (l2 := N.length) fun w19 f19 hP19 => ?_⟩
      refine cond_f (cond_f ?_)
      have g1719 := f18.then f19
      have g1419 := g1417.then g1719
      have f019 := (f012.then g1214).then g1419
      refine ⟨_, _, _, (hP14.fr0 g1419).sidLd, SameBytes_c (hA1.fr0 (f14.then g1419)).row rfl (h2.fr0 f019) hl2 (by omega) fun w20 f20 => ⟨_, rfl, ?_⟩⟩
      rw [decide_eq_true rfl]
      refine cond_f ⟨_, _, _, (hP19.fr0 f20).sidLd, SameBytes_c (hB1.fr0 (f19.then f20)).row rfl ((h2.fr0 f019).fr0 f20) hl2 (by omega) fun w21 f21 => ⟨_, rfl, ?_⟩⟩
      rw [decide_eq_true rfl]
      have g1921 := f20.then f21
      refine cond_f ⟨_, _, _, (hP14.fr0 (g1419.then g1921)).nonceLd, _, _, _, (hP19.fr0 g1921).nonceLd, SameBytes_c (hA2.fr0 ((f14.then g1419).then g1921)).row rfl (hB2.fr0 (f19.then g1921)).row rfl (by omega) fun w22 f22 => ⟨_, rfl, ?_⟩⟩
      rw [decide_eq_true rfl]
      refine cond_f ?_
      rw [ew]
      have g1222 := ((g1214.then g1419).then g1921).then f22
      rw [eXS] at hX12
      refine hgo _ _ _ (k - 1) (by omega) ⟨i + 1, L ++ [N], by omega, rfl, by simp; omega, fun M hM => ?_, hX12.fr0 g1222, hS12.fr0 g1222, ?_, hC12.fr0 g1222, f012.then g1222⟩
      · rcases List.mem_append.1 hM with hh | hh
        · exact hLn M hh
        · rw [List.mem_singleton.1 hh]; exact hNl
      · rw [List.map_append]
        show SMap _ sm (_ ++ [mkOut m s n key point sid N])
        rw [← hA]; exact hM12.fr0 g1222
  · unfold law28_IssueOnce_j2
    refine issIssued_c hX7 ⟨_, rfl, _, _, Ef.lenS (by kernel_rfl) hM7, ?_⟩
    rw [x2, List.length_map]
    have : (((L.length : Nat) : Int) == ((L.length : Nat) : Int)) = true := by simp
    rw [this]
    exact h w7 f07
end
end Go.Sh
end
