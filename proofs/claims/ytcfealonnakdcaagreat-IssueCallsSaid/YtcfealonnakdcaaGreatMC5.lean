/- A part of a proof of a given law of this program: lemmas, printed forms of its functions, contracts. It has no conditions of its own. -/
import Derived.Test.YtcfealonnakdcaaGreatMC1
import Derived.Test.YtcfealonnakdcaaGreatMC3
import Derived.Test.YtcfealonnakdcaaGreatMC4
import Derived.Test.YtcfealonnakdcaaGreatMS3
import Derived.Test.YtcfealonnakdcaaGreatMC0
import Derived.Test.YtcfealonnakdcaaGreatMW1

section
namespace Go.Sh
open Go Go.Fw Go.Proofs
set_option maxRecDepth 100000
set_option linter.unusedVariables false
structure IS where
  m : Int
  s : Int
  n : Int
  key : List UInt8
  point : Int
  room : Int
  sid : List UInt8
  ps : Option Addr
  cs : Nat
  mb : Nat
  ks : List (List UInt8)
def IS.t (x : IS) : List Value := [.int .i64 x.point, .slice x.ps x.sid.length x.cs, .int .i64 x.room, .map (some x.mb)]
def IS.v (x : IS) : List Value := cfgV x.m x.s x.n x.key ++ x.t
structure IsOk (x : IS) : Prop where
  k16 : x.key.length = 16
  ok : okC x.m x.s x.n x.key
  pt : 0 ≤ x.point ∧ x.point ≤ 2
  sl : (x.sid.length : Int) = x.s
  rm : 1 ≤ x.room ∧ x.room ≤ 65536
structure IsAt (w : World) (b : Nat) (x : IS) (lo : Nat) : Prop where
  c : CAt w b x.v
  r : OB w x.ps x.sid.length x.cs x.sid lo
  mp : SMap w x.mb x.ks
  o : IsOk x
  b0 : lo ≤ b
  m0 : lo ≤ x.mb
  bm : b ≠ x.mb
  bp : b ∉ blks x.ps
  mpp : x.mb ∉ blks x.ps
theorem IS.v_len {x : IS} (h : IsOk x) : x.v.length = 23 := by unfold IS.v IS.t; rw [List.length_append, cfgV_len, h.k16]; rfl
theorem IS.get {x : IS} (h : IsOk x) {j : Nat} {v : Value} (hj : x.t[j]? = some v) : x.v[19 + j]? = some v := by
  unfold IS.v
  rw [List.getElem?_append_right (by rw [cfgV_len, h.k16]; omega), cfgV_len, h.k16]
  have : 19 + j - (16 + 3) = j := by omega
  rw [this]; exact hj
theorem IsAt.fr {w w' : World} {b lo : Nat} {x : IS} {L : List Nat} (h : IsAt w b x lo) (f : Fr L w w') (h1 : ∀ z ∈ L, z ≠ b ∧ z ≠ x.mb ∧ z ∉ blks x.ps) : IsAt w' b x lo :=
  ⟨h.c.fr f fun hm => (h1 _ hm).1 rfl, h.r.fr f fun z hz hm => (h1 _ hm).2.2 hz, h.mp.fr f fun hm => (h1 _ hm).2.1 rfl, h.o, h.b0, h.m0, h.bm, h.bp, h.mpp⟩
theorem IsAt.fr0 {w w' : World} {b lo : Nat} {x : IS} (h : IsAt w b x lo) (f : Fr [] w w') : IsAt w' b x lo := h.fr f (by simp)
theorem IsAt.mono {w : World} {b lo lo' : Nat} {x : IS} (h : IsAt w b x lo) (hl : lo' ≤ lo) : IsAt w b x lo' := ⟨h.c, h.r.mono hl, h.mp, h.o, Nat.le_trans hl h.b0, Nat.le_trans hl h.m0, h.bm, h.bp, h.mpp⟩
theorem IsAt.fr_lt {w w' : World} {b lo : Nat} {x : IS} {L : List Nat} (h : IsAt w b x lo) (f : Fr L w w') (h1 : ∀ z ∈ L, z < lo ∨ w.heap.size ≤ z) : IsAt w' b x lo := by
  have hb := h.c.lt; have hm := h.mp.lt
  refine h.fr f fun z hz => ⟨?_, ?_, fun hp => ?_⟩
  · have := h1 z hz; have := h.b0; omega
  · have := h1 z hz; have := h.m0; omega
  · have := h1 z hz; have := h.r.2.2 z hp; have := h.r.lt z hp; omega
section
variable {w : World} {b lo : Nat} {x : IS} {K : Value → World → Prop}
theorem IsAt.cfg0 (h : IsAt w b x lo) : Ld Tryz.prog T_mode_Config (.pointer (some ((⟨b, 0, none⟩ : Addr).add 0))) w (.agg ⟨cfgV x.m x.s x.n x.key⟩) :=
  h.c.ld0 (ds := cfgV x.m x.s x.n x.key) (rs := x.t) rfl (by kernel_rfl) (by rw [cfgV_len, h.o.k16]; kernel_rfl)
theorem IsAt.pt (h : IsAt w b x lo) : Ld Tryz.prog T_int (.pointer (some ((⟨b, 0, none⟩ : Addr).add 19))) w (.int .i64 x.point) := h.c.get (by kernel_rfl) (IS.get h.o (j := 0) rfl)
theorem IsAt.sd (h : IsAt w b x lo) : Ld Tryz.prog T_S_uint8 (.pointer (some ((⟨b, 0, none⟩ : Addr).add 20))) w (.slice x.ps x.sid.length x.cs) := h.c.get (by kernel_rfl) (IS.get h.o (j := 1) rfl)
theorem IsAt.rm (h : IsAt w b x lo) : Ld Tryz.prog T_int (.pointer (some ((⟨b, 0, none⟩ : Addr).add 21))) w (.int .i64 x.room) := h.c.get (by kernel_rfl) (IS.get h.o (j := 2) rfl)
theorem IsAt.mm {t : TypeId} (ht : res Tryz.prog (isAgg t) = some false) (h : IsAt w b x lo) : Ld Tryz.prog t (.pointer (some ((⟨b, 0, none⟩ : Addr).add 22))) w (.map (some x.mb)) := h.c.get ht (IS.get h.o (j := 3) rfl)
theorem IsAt.nn (h : IsAt w b x lo) : Ld Tryz.prog T_int (.pointer (some (((⟨b, 0, none⟩ : Addr).add 0).add 2))) w (.int .i64 x.n) := h.c.get0 (by kernel_rfl) (j := 2) rfl
theorem isBuild {m s n point room : Int} {key : List UInt8} {ps : Option Addr} {l cs mb : Nat} (h : key.length = 16) :
    Pu Tryz.prog (Instr.build T_issue_Issuer #[(0, .agg ⟨cfgV m s n key⟩), (1, .int .i64 point), (2, .slice ps l cs), (3, .int .i64 room), (4, .map (some mb))]) (.agg ⟨cfgV m s n key ++ [.int .i64 point, .slice ps l cs, .int .i64 room, .map (some mb)]⟩) := by
  obtain ⟨a0, a1, a2, a3, a4, a5, a6, a7, a8, a9, aa, ab, ac, ad, ae, af, rfl⟩ := list16 h
  show res _ _ = _
  kernel_rfl
def isE (m s n : Int) (key : List UInt8) (point : Int) (l : Nat) (room : Int) : Int :=
  if ¬ okC m s n key then 10 else if point < 0 ∨ 3 ≤ point ∨ (l : Int) ≠ s ∨ room < 1 ∨ 65536 < room then 11 else 0
set_option maxHeartbeats 2000000 in
theorem issNew_c {m s n point room : Int} {key sid : List UInt8} {p : Option Addr} {l c : Nat} (hk : key.length = 16) (hR : Row w p (sid.map vb)) (hl : l = sid.length) (hlb : l ≤ 1000000)
    (hbad : isE m s n key point l room ≠ 0 → ∀ w', Fr [] w w' → K (.tuple #[.pointer none, .int .i64 (isE m s n key point l room)]) w')
    (hok : isE m s n key point l room = 0 → ∀ b x w', Fr [] w w' → IsAt w' b x w.heap.size → (∃ ps cs mb, x = ⟨m, s, n, key, point, room, sid, ps, cs, mb, []⟩) → K (.tuple #[.pointer (some ⟨b, 0, none⟩), .int .i64 0]) w') :
    callF Tryz.prog F_issue_New #[.agg ⟨cfgV m s n key⟩, .int .i64 point, .slice p l c, .int .i64 room] w K := by
  apply issue_New_call
  unfold issue_New
  refine newCfg hk fun w1 f1 hC s1 => ?_
  obtain ⟨k4, hk4⟩ : ∃ k, k = w.heap.size := ⟨_, rfl⟩
  rw [← hk4] at hC ⊢
  refine ⟨_, hC.ld hk, Right_c hk fun w2 f2 => ⟨_, rfl, ?_⟩⟩
  have f02 := f1.then f2
  have hC2 := hC.fr0 f2
  by_cases ho : okC m s n key
  · rw [decide_eq_true ho]
    have no : (point < 0 ∨ 3 ≤ point ∨ (l : Int) ≠ s ∨ room < 1 ∨ 65536 < room) → K (.tuple #[.pointer none, .int .i64 11]) w2 := by
      intro hh
      have e : isE m s n key point l room = 11 := by unfold isE; rw [if_neg (fun h => h ho), if_pos hh]
      rw [e] at hbad
      exact hbad (by omega) w2 f02
    refine cond_f (cond_d (fun h => no (.inl (by omega))) fun g1 => cond_d (fun h => no (.inr (.inl (by omega)))) fun g2 => ⟨_, hC2.sid, cond_ne (fun h => no (.inr (.inr (.inl (by omega))))) fun g3 => cond_d (fun h => no (.inr (.inr (.inr (.inl (by omega)))))) fun g4 => cond_d (fun h => no (.inr (.inr (.inr (.inr (by omega)))))) fun g5 => ?_⟩)
    have e : isE m s n key point l room = 0 := by unfold isE; rw [if_neg (fun h => h ho), if_neg (by omega)]
    have hok := hok e
    unfold issue_New_j2 issue_New_j1
    refine ⟨fun w' => Fr [] w2 w', Drw.intro fun w3 f3 s3 => ?_⟩
    refine ⟨_, ⟨f3, fun w' hw' => (hC2.fr0 hw').ld hk⟩, ?_, ?_⟩
    · refine slices_Clone_c ((hR.fr0 f02).fr0 f3) (by simpa using hl) hlb (cells_vb _) fun q d w4 f4 hO4 hn4 => ⟨_, _, _, rfl, .inr (f3.then f4), ?_⟩
      have hO4 : OB w4 q l d sid w3.heap.size := ⟨hO4, hl, hn4⟩
      obtain ⟨w5, he5, f5, hM5, s5⟩ := Ef.makeMap (P := Tryz.prog) (t := T_M_string_bool) (w := w4)
      refine ⟨_, w5, he5, .inr ((f3.then f4).then f5), _, isBuild hk, newC (t := T_issue_Issuer) (cfgV m s n key ++ [.int .i64 point, .slice q l d, .int .i64 room, .map (some w4.heap.size)]) fun w6 f6 hC6 s6 => ?_⟩
      have n2 := f02.size; have n3 := f3.size; have n4 := f4.size; have n5 := f5.size
      have f06 := (((f02.then f3).then f4).then f5).then f6
      have hO6 := ((hO4.fr0 f5).fr0 f6).mono (lo' := w.heap.size) (by omega)
      refine hok _ ⟨m, s, n, key, point, room, sid, q, d, w4.heap.size, []⟩ w6 f06 ⟨by subst hl; exact hC6, by subst hl; exact hO6, SMap.fr0 ⟨#[], 0, hM5, rfl⟩ f6, ⟨hk, ho, by show 0 ≤ point ∧ point ≤ 2; omega, by show (sid.length : Int) = s; omega, by show 1 ≤ room ∧ room ≤ 65536; omega⟩, by omega, by show w.heap.size ≤ w4.heap.size; omega, by show w5.heap.size ≠ w4.heap.size; omega, fun hm => ?_, fun hm => ?_⟩ ⟨q, d, _, rfl⟩
      · have := hO4.lt w5.heap.size hm; omega
      · have := hO4.lt w4.heap.size hm; omega
    · obtain ⟨w4, he4, f4, hM4, s4⟩ := Ef.makeMap (P := Tryz.prog) (t := T_M_string_bool) (w := w3)
      refine ⟨_, w4, he4, .inr (f3.then f4), ?_⟩
      refine slices_Clone_c (((hR.fr0 f02).fr0 f3).fr0 f4) (by simpa using hl) hlb (cells_vb _) fun q d w5 f5 hO5 hn5 => ⟨_, _, _, rfl, .inr ((f3.then f4).then f5), ?_⟩
      have hO5 : OB w5 q l d sid w4.heap.size := ⟨hO5, hl, hn5⟩
      refine ⟨_, isBuild hk, newC (t := T_issue_Issuer) (cfgV m s n key ++ [.int .i64 point, .slice q l d, .int .i64 room, .map (some w3.heap.size)]) fun w6 f6 hC6 s6 => ?_⟩
      have n2 := f02.size; have n3 := f3.size; have n4 := f4.size; have n5 := f5.size
      have f06 := (((f02.then f3).then f4).then f5).then f6
      have hO6 := (hO5.fr0 f6).mono (lo' := w.heap.size) (by omega)
      refine hok _ ⟨m, s, n, key, point, room, sid, q, d, w3.heap.size, []⟩ w6 f06 ⟨by subst hl; exact hC6, by subst hl; exact hO6, SMap.fr0 (SMap.fr0 ⟨#[], 0, hM4, rfl⟩ f5) f6, ⟨hk, ho, by show 0 ≤ point ∧ point ≤ 2; omega, by show (sid.length : Int) = s; omega, by show 1 ≤ room ∧ room ≤ 65536; omega⟩, by omega, by show w.heap.size ≤ w3.heap.size; omega, by show w5.heap.size ≠ w3.heap.size; omega, fun hm => ?_, fun hm => ?_⟩ ⟨q, d, _, rfl⟩
      · have := hO5.lt w5.heap.size hm; omega
      · have := hO5.2.2 w3.heap.size hm; omega
  · rw [decide_eq_false ho]
    have e : isE m s n key point l room = 10 := by unfold isE; rw [if_pos ho]
    rw [e] at hbad
    exact cond_t (hbad (by omega) w2 f02)
end
end Go.Sh
end

section
namespace Go.Sh
open Go Go.Fw Go.Proofs
set_option maxRecDepth 100000
set_option linter.unusedVariables false
section
variable {w : World} {b lo : Nat} {x : IS} {K : Value → World → Prop}
theorem issIssued_c (h : IsAt w b x lo) (hk : K (.int .i64 (x.ks.length : Int)) w) : callF Tryz.prog F_issue_Issuer_Issued #[.pointer (some ⟨b, 0, none⟩)] w K := by
  apply issue_Issuer_Issued_call
  unfold issue_Issuer_Issued
  exact ⟨_, rfl, _, h.mm (by kernel_rfl), _, _, Ef.lenS (by kernel_rfl) h.mp, hk⟩
theorem issPlace_c (h : IsAt w b x lo) (hk : ∀ q d w', Fr [] w w' → OB w' q x.sid.length d x.sid w.heap.size → K (.tuple #[.int .i64 x.point, .slice q x.sid.length d]) w') : callF Tryz.prog F_issue_Issuer_Place #[.pointer (some ⟨b, 0, none⟩)] w K := by
  apply issue_Issuer_Place_call
  unfold issue_Issuer_Place
  refine ⟨fun w' => Fr [] w w', Drw.intro fun w1 f1 s1 => ⟨_, rfl, _, rfl, _, ⟨f1, fun w' hw' => (h.fr0 hw').pt⟩, _, _, _, (h.fr0 f1).sd, .inl rfl, ?_⟩⟩
  have hs := h.o.sl; have ho := h.o.ok
  unfold okC at ho
  refine slices_Clone_c (h.fr0 f1).r.row (by simp) (by omega) (cells_vb _) fun q d w2 f2 hO2 hn2 => ⟨_, _, _, rfl, .inr (f1.then f2), ?_⟩
  exact hk q d w2 (f1.then f2) (OB.mono ⟨hO2, rfl, hn2⟩ f1.size)
theorem issClone_c (h : IsAt w b x lo) (hk : ∀ b' mb' w', Fr [] w w' → w.heap.size ≤ b' → IsAt w' b x lo → IsAt w' b' { x with mb := mb' } lo → b' ≠ b → mb' ≠ x.mb → mb' ≠ b → b' ≠ x.mb → b' < w'.heap.size → w.heap.size ≤ mb' → K (.pointer (some ⟨b', 0, none⟩)) w') :
    callF Tryz.prog F_issue_Issuer_Clone #[.pointer (some ⟨b, 0, none⟩)] w K := by
  apply issue_Issuer_Clone_call
  unfold issue_Issuer_Clone
  have hvl := IS.v_len h.o
  refine ⟨_, rfl, _, h.c.ld (by kernel_rfl) (by rw [hvl]; kernel_rfl), ?_⟩
  refine putC (t := T_issue_Issuer) x.v hvl ?_ (by kernel_rfl) (by kernel_rfl) fun w1 f1 hC1 => ?_
  · rw [List.all_eq_true]
    intro u hu
    unfold IS.v IS.t at hu
    rcases List.mem_append.1 hu with hh | hh
    · exact cfgV_one _ _ _ _ u hh
    · simp only [List.mem_cons, List.not_mem_nil, or_false] at hh
      rcases hh with rfl | rfl | rfl | rfl <;> rfl
  obtain ⟨k3, hk3⟩ : ∃ k, k = w.heap.size := ⟨_, rfl⟩
  rw [← hk3] at hC1 ⊢
  have h1 := h.fr0 f1
  refine ⟨_, rfl, _, h1.mm (by kernel_rfl), ?_⟩
  refine maps_Clone_c h1.mp fun w2 f2 hM2 s2 => ⟨_, rfl, ?_⟩
  have hl1 := hC1.lt
  have hbl := h.c.lt; have hml := h.mp.lt
  refine (hC1.fr0 f2).sto (j := 22) (by rw [hvl]; omega) (.map (some w1.heap.size)) rfl rfl (by kernel_rfl) fun w3 f3 hC3 s3 => ?_
  have n1 := f1.size; have n2 := f2.size
  have hset : x.v.set 22 (.map (some w1.heap.size)) = ({ x with mb := w1.heap.size } : IS).v := by
    unfold IS.v IS.t
    rw [List.set_append_right _ _ (by rw [cfgV_len, h.o.k16]; omega), cfgV_len, h.o.k16]
    rfl
  rw [hset] at hC3
  have h3 : IsAt w3 b x lo := (h1.fr0 f2).fr f3 fun z hz => by
    have hz : z = k3 := by simpa using hz
    subst hz
    exact ⟨by omega, by omega, fun hm => by have := h.r.lt _ hm; omega⟩
  have hlob := h.b0
  refine hk k3 w1.heap.size w3 ((f1.then f2).st f3 (by omega)) (by omega) h3 ⟨hC3, h3.r, hM2.fr f3 (by simp; omega), ⟨h.o.k16, h.o.ok, h.o.pt, h.o.sl, h.o.rm⟩, by omega, by show lo ≤ w1.heap.size; omega, by show k3 ≠ w1.heap.size; omega, fun hm => ?_, fun hm => ?_⟩ (by omega) (by omega) (by omega) (by omega) (by omega) (by omega)
  · have := h.r.lt k3 hm; omega
  · have := h.r.lt w1.heap.size hm; omega
theorem slicesEqual_c {p q : Option Addr} {l c m d : Nat} {xs ys : List UInt8} (hx : Row w p (xs.map vb)) (hl : l = xs.length) (hy : Row w q (ys.map vb)) (hm : m = ys.length) (h63 : l < 1000000000)
    (h : ∀ w', Fr [] w w' → K (.bool (decide (xs = ys))) w') : callF Tryz.prog F_slices_Equal_byte_byte #[.slice p l c, .slice q m d] w K := by
  apply slices_Equal_byte_byte_call
  unfold slices_Equal_byte_byte
  refine cond_ne (fun h1 => ?_) fun h1 => ?_
  · rw [decide_eq_false (by rintro rfl; omega)] at h
    exact h w (Fr.refl _ _)
  · have hlm : l = m := by omega
    refine LoopS.ind (fun k us w' => ∃ i : Nat, i + k = l ∧ us = [.slice p l c, .slice q m d, .bool false, .int .i64 (l : Int), .int .i64 (i : Int)] ∧ Fr [] w w' ∧ ∀ j, j < i → fl xs j = fl ys j) l ⟨0, by omega, rfl, Fr.refl _ _, by omega⟩ ?_
    rintro k us r w2 I μ hgo ⟨i, hi, rfl, f2, hs⟩
    refine ⟨_, _, _, _, _, _, _, _, _, rfl, cond_d (fun h3 => ?_) fun h3 => ?_⟩
    · refine ⟨fun w' => Fr [] w2 w', Drw.intro fun w3 f3 s3 => ?_⟩
      have f03 := f2.then f3
      obtain ⟨a1, ha1, hc1⟩ := row_get (t := T_S_uint8) (by kernel_rfl) (hx.fr0 f03) (c := c) hl (i := i) (by omega) (k := .i64)
      obtain ⟨a2, ha2, hc2⟩ := row_get (t := T_S_uint8) (by kernel_rfl) (hy.fr0 f03) (c := d) hm (i := i) (by omega) (k := .i64)
      have hc1' : ∀ w', Fr [] w2 w' → w'.cell? a1 = some (vb (fl xs i)) := by
        intro w' hw'
        obtain ⟨a1', ha1', hc1'⟩ := row_get (t := T_S_uint8) (by kernel_rfl) (hx.fr0 (f2.then hw')) (c := c) hl (i := i) (by omega) (k := .i64)
        have : a1' = a1 := by
          have := ha1'.symm.trans ha1
          simpa using this
        rw [← this]; exact hc1'
      refine ⟨_, ha1, _, ha2, _, ⟨f3, fun w' hw' => Ld.cell (by kernel_rfl) (hc1' w' hw')⟩, _, Ld.cell (by kernel_rfl) hc2, .inl rfl, ?_⟩
      refine cond_ne (fun hne => ?_) fun he => ?_
      · rw [decide_eq_false (by rintro rfl; exact hne rfl)] at h
        exact h w3 f03
      · have he' : fl xs i = fl ys i := UInt8.toNat_inj.1 (by have : ((fl xs i).toNat : Int) = ((fl ys i).toNat : Int) := he; omega)
        rw [wrap64 (by omega) (by omega)]
        refine hgo _ _ _ (k - 1) (by omega) ⟨i + 1, by omega, rfl, f03, fun j hj => ?_⟩
        by_cases hji : j = i
        · rw [hji]; exact he'
        · exact hs j (by omega)
    · have : xs = ys := list_eq_of (by omega) fun j hj => hs j (by omega)
      rw [decide_eq_true this] at h
      exact h w2 f2
def mineP (x : IS) (id : List UInt8) : Prop := okBk x.m x.s x.n x.key id ∧ bkP x.m x.s x.n x.key id = x.point ∧ bkS x.m x.s x.n x.key id = x.sid ∧ bkN x.m x.s x.n x.key id ∈ x.ks
instance (x : IS) (id : List UInt8) : Decidable (mineP x id) := by unfold mineP; infer_instance
theorem bkE_zero {m s n : Int} {key id : List UInt8} : bkE m s n key id = 0 ↔ okBk m s n key id := by
  unfold bkE
  by_cases h : okBk m s n key id
  · rw [if_pos h]; exact ⟨fun _ => h, fun _ => rfl⟩
  · rw [if_neg h]
    refine ⟨fun hh => ?_, fun hh => absurd hh h⟩
    split at hh
    · split at hh <;> omega
    · omega
set_option maxHeartbeats 2000000 in
theorem issMine_c (h : IsAt w b x lo) {p1 : Option Addr} {l1 c1 : Nat} {id : List UInt8} (h1 : Row w p1 (id.map vb)) (hl1 : l1 = id.length) (hc1 : l1 ≤ c1) (hlb : l1 < 1000000) (hk : ∀ w', Fr [] w w' → K (.bool (decide (mineP x id))) w') :
    callF Tryz.prog F_issue_Issuer_Mine #[.pointer (some ⟨b, 0, none⟩), .slice p1 l1 c1] w K := by
  apply issue_Issuer_Mine_call
  unfold issue_Issuer_Mine
  refine ⟨_, rfl, _, h.cfg0, ?_⟩
  refine backO_c h.o.k16 h1 hl1 hc1 hlb fun q1 d1 q2 d2 w1 f1 hO1 hO2 => ⟨_, _, _, _, _, _, _, _, rfl, ?_⟩
  obtain ⟨A, hA⟩ : ∃ A, A = bkS x.m x.s x.n x.key id := ⟨_, rfl⟩
  obtain ⟨B, hB⟩ : ∃ B, B = bkN x.m x.s x.n x.key id := ⟨_, rfl⟩
  obtain ⟨E, hE⟩ : ∃ E, E = bkE x.m x.s x.n x.key id := ⟨_, rfl⟩
  obtain ⟨Pt, hPt⟩ : ∃ Pt, Pt = bkP x.m x.s x.n x.key id := ⟨_, rfl⟩
  have hlen := bk_len2 x.m x.s x.n x.key id
  rw [← hA] at hO1; rw [← hB] at hO2
  rw [← hA, ← hB] at hlen
  rw [← hA, ← hB, ← hE, ← hPt]
  have hmp : mineP x id ↔ (E = 0 ∧ Pt = x.point ∧ A = x.sid ∧ B ∈ x.ks) := by unfold mineP; rw [← bkE_zero, hE, hPt, hA, hB]
  refine putC (t := T_codec_Parts) [.int .i64 Pt, .slice q1 A.length d1, .slice q2 B.length d2] rfl rfl (by kernel_rfl) (by kernel_rfl) fun w2 f2 hC2 => ?_
  obtain ⟨k5, hk5⟩ : ∃ k, k = w1.heap.size := ⟨_, rfl⟩
  rw [← hk5] at hC2 ⊢
  have f02 := f1.then f2
  refine ⟨fun w' => Fr [] w2 w', Drw.intro fun w3 f3 s3 => ?_⟩
  have f03 := f02.then f3
  have no : (¬ mineP x id) → ∀ w', Fr [] w w' → K (.bool false) w' := fun hn w' f' => by
    have := hk w' f'; rw [decide_eq_false hn] at this; exact this
  refine cond_eq (fun h0 => ?_) fun h0 => no (fun hh => h0 (hmp.1 hh).1) w3 f03
  refine ⟨_, rfl, _, ⟨f3, fun w' hw' => (hC2.fr0 hw').get (by kernel_rfl) (j := 0) rfl⟩, _, (h.fr0 f03).pt, .inl rfl, ?_⟩
  refine cond_eq (fun h2 => ?_) fun h2 => no (fun hh => h2 (hmp.1 hh).2.1) w3 f03
  refine ⟨_, rfl, _, _, _, ⟨f3, fun w' hw' => (hC2.fr0 hw').get (by kernel_rfl) (j := 1) rfl⟩, _, _, _, (h.fr0 f03).sd, .inl rfl, ?_⟩
  have g13 := f2.then f3
  refine slicesEqual_c (hO1.fr0 g13).row rfl (h.fr0 f03).r.row rfl (by omega) fun w4 f4 => ⟨_, rfl, .inr (f3.then f4), fun w' => Fr [] w2 w', fun _ h => h, ?_⟩
  have f04 := f03.then f4
  refine cond_d (fun h5 => ?_) fun h5 => no (fun hh => h5 (hmp.1 hh).2.2.1) w4 f04
  refine ⟨_, rfl, _, ⟨f3.then f4, fun w' hw' => (h.fr0 (f02.then hw')).mm (by kernel_rfl)⟩, _, _, _, (hC2.fr0 (f3.then f4)).get (by kernel_rfl) (j := 2) rfl, .inl rfl, ?_⟩
  refine ⟨_, _, Ef.toStr (by kernel_rfl) (hO2.fr0 (g13.then f4)).row rfl, .inl rfl, _, _, Ef.lookupS (by kernel_rfl) (h.fr0 f04).mp, ?_⟩
  have := hk w4 f04
  have e : decide (mineP x id) = decide (B ∈ x.ks) := by apply decide_eq_decide.2; rw [hmp]; exact ⟨fun hh => hh.2.2.2, fun hh => ⟨h0, h2, h5, hh⟩⟩
  rw [e] at this; exact this
end
end Go.Sh
end

section
namespace Go.Sh
open Go Go.Fw Go.Proofs
set_option maxRecDepth 100000
set_option linter.unusedVariables false
def nxE (x : IS) (random : List UInt8) : Int := if x.room ≤ x.ks.length then 18 else if (random.length : Int) < x.n then 21 else 0
def nxN (x : IS) (random : List UInt8) : List UInt8 := nextN x.ks (random.take x.n.toNat)
def nxI (x : IS) (random : List UInt8) : List UInt8 := mkOut x.m x.s x.n x.key x.point x.sid (nxN x random)
def nxS (x : IS) (random : List UInt8) : IS := { x with ks := x.ks ++ [nxN x random] }
theorem nxE_ok {x : IS} {random : List UInt8} (h : nxE x random = 0) : ¬ x.room ≤ x.ks.length ∧ ¬ (random.length : Int) < x.n := by
  unfold nxE at h
  split at h
  · omega
  · rename_i h1
    split at h
    · omega
    · rename_i h2; exact ⟨h1, h2⟩
theorem freeN_len : ∀ (k : Nat) (ks : List (List UInt8)) (xs : List UInt8), (freeN k ks xs).length = xs.length
  | 0, _, _ => rfl
  | k + 1, ks, xs => by
    unfold freeN
    split
    · rw [freeN_len k, upL_len]
    · rfl
theorem nxN_len {x : IS} (hx : IsOk x) {random : List UInt8} (h : nxE x random = 0) : ((nxN x random).length : Int) = x.n := by
  obtain ⟨h1, h2⟩ := nxE_ok h
  have ho := hx.ok
  unfold okC at ho
  unfold nxN nextN
  rw [freeN_len, List.length_take]
  omega
theorem nx_mkE {x : IS} (hx : IsOk x) {random : List UInt8} (h : nxE x random = 0) : mkE x.m x.s x.n x.key x.point x.sid (nxN x random) = 0 := by
  unfold mkE
  rw [if_pos hx.ok, if_pos ⟨hx.pt.1, hx.pt.2, hx.sl, nxN_len hx h⟩]
section
variable {w : World} {b lo : Nat} {x : IS} {K : Value → World → Prop}
set_option maxHeartbeats 4000000 in
theorem issNext_c (h : IsAt w b x lo) (hkl : x.ks.length < 256) {p1 : Option Addr} {l1 c1 : Nat} {random : List UInt8} (h1 : Row w p1 (random.map vb)) (hl1 : l1 = random.length) (hc1 : l1 ≤ c1)
    (hbad : nxE x random ≠ 0 → ∀ w', Fr [] w w' → K (.tuple #[.slice none 0 0, .int .i64 0, .int .i64 (nxE x random)]) w')
    (hok : nxE x random = 0 → ∀ q d w', Fr [x.mb] w w' → IsAt w' b (nxS x random) lo → OB w' q (nxI x random).length d (nxI x random) w.heap.size → K (.tuple #[.slice q (nxI x random).length d, .int .i64 x.n, .int .i64 0]) w') :
    callF Tryz.prog F_issue_Issuer_Next #[.pointer (some ⟨b, 0, none⟩), .slice p1 l1 c1] w K := by
  apply issue_Issuer_Next_call
  unfold issue_Issuer_Next
  refine ⟨fun w' => Fr [] w w', Drw.intro fun w1 f1 s1 => ⟨_, rfl, _, rfl, _, ⟨f1, fun w' hw' => (h.fr0 hw').mm (by kernel_rfl)⟩, _, ⟨f1, fun w' hw' => (h.fr0 hw').rm⟩, _, _, Ef.lenS (by kernel_rfl) (h.fr0 f1).mp, .inr f1, ?_⟩⟩
  have ho := h.o.ok
  unfold okC at ho
  refine cond_d (fun hh => ?_) fun hroom => ?_
  · have e : nxE x random = 18 := by unfold nxE; rw [if_pos (by omega)]
    rw [e] at hbad
    exact hbad (by omega) w1 f1
  refine ⟨_, rfl, _, (h.fr0 f1).nn, cond_d (fun hh => ?_) fun hrand => ?_⟩
  · have e : nxE x random = 21 := by unfold nxE; rw [if_neg (by omega), if_pos (by omega)]
    rw [e] at hbad
    exact hbad (by omega) w1 f1
  have e : nxE x random = 0 := by unfold nxE; rw [if_neg (by omega), if_neg (by omega)]
  have hok := hok e
  have hmk := nx_mkE h.o e
  have hNl := nxN_len h.o e
  unfold issue_Issuer_Next_j2
  refine ⟨_, rfl, _, (h.fr0 f1).nn, ?_⟩
  obtain ⟨nn, hnn⟩ : ∃ nn : Nat, x.n = (nn : Int) := Int.eq_ofNat_of_zero_le (by omega)
  have hnt : x.n.toNat = nn := by omega
  have en : (Value.int .i64 x.n) = .int .i64 (nn : Int) := by rw [hnn]
  rw [en]
  refine slTo (h1.fr0 f1) hl1 (n := nn) (by omega) hc1 fun q2 d2 hq2 hl2 hd2 _ => ?_
  refine slices_Clone_c hq2 (by simpa using hl2) (by omega) (cells_vb _) fun q d w2 f2 hO2 hn2 => ⟨_, _, _, rfl, ?_⟩
  have f02 := f1.then f2
  have hO2 : OB w2 q nn d (random.take nn) w1.heap.size := ⟨hO2, hl2, hn2⟩
  have n1 := f1.size
  obtain ⟨N, hN⟩ : ∃ N, N = nxN x random := ⟨_, rfl⟩
  have hN' : freeN x.ks.length x.ks (random.take nn) = N := by rw [hN]; unfold nxN nextN; rw [hnt]
  obtain ⟨n0, hn0⟩ : ∃ n0, n0 = random.take nn := ⟨_, rfl⟩
  rw [← hn0] at hO2 hN'
  have hn0l : n0.length = nn := by have := hO2.2.1; omega
  unfold nxI nxS at hok
  rw [← hN] at hok hmk hNl
  have hmbl := h.mp.lt
  have hbl := h.c.lt
  refine LoopS.ind (fun k us w' => ∃ (j : Nat) (cur : List UInt8), j + k = x.ks.length ∧ us = [.pointer (some ⟨b, 0, none⟩), .slice none 0 0, .int .i64 0, .int .i64 0, .slice q nn d] ∧ OB w' q nn d cur w1.heap.size ∧ (∀ i, i < j → upN i n0 ∈ x.ks) ∧ cur = upN j n0 ∧ freeN k x.ks cur = N ∧ Fr [] w w') x.ks.length
    ⟨0, n0, by omega, rfl, hO2, fun i hi => by omega, rfl, hN', f02⟩ ?_
  rintro k us rr w3 I μ hgo ⟨j, cur, hjk, rfl, hO3, hin, hcur, hfree, f03⟩
  refine ⟨_, _, _, _, _, _, _, _, _, rfl, ?_⟩
  refine ⟨fun w' => Fr [] w3 w', Drw.intro fun w4 f4 s4 => ⟨_, rfl, _, ⟨f4, fun w' hw' => (h.fr0 (f03.then hw')).mm (by kernel_rfl)⟩, _, _, Ef.toStr (by kernel_rfl) (hO3.fr0 f4).row hO3.2.1, .inr f4, _, _, Ef.lookupS (by kernel_rfl) (h.fr0 (f03.then f4)).mp, ?_⟩⟩
  have f04 := f03.then f4
  have hO4 := hO3.fr0 f4
  refine cond_d (fun hm => ?_) fun hm => ?_
  · have hfew := upN_few (xs := n0) (ks := x.ks) (by omega) (j := j + 1) (by omega) fun i hi => by
      by_cases hij : i < j
      · exact hin i hij
      · have : i = j := by omega
        rw [this, ← hcur]; exact hm
    obtain ⟨k', hk'⟩ : ∃ k', k = k' + 1 := ⟨k - 1, by omega⟩
    subst hk'
    unfold freeN at hfree
    rw [if_pos hm] at hfree
    refine up_c hO4 (by omega) fun w5 f5 hO5 => ⟨rfl, ?_⟩
    refine hgo _ _ _ k' (by omega) ⟨j + 1, upL cur, by omega, rfl, hO5, fun i hi => ?_, by rw [hcur]; rfl, hfree, f04.trans f5 fun z hz => .inr (by have := hO4.2.2 z hz; omega)⟩
    by_cases hij : i < j
    · exact hin i hij
    · have : i = j := by omega
      rw [this, ← hcur]; exact hm
  · rw [freeN_not hm] at hfree
    subst hfree
    unfold issue_Issuer_Next_j1
    have h4 := h.fr0 f04
    refine ⟨fun w' => Fr [] w4 w', Drw.intro fun w5 f5 s5 => ⟨_, rfl, _, rfl, _, rfl, _, ⟨f5, fun w' hw' => (h4.fr0 hw').cfg0⟩, _, ⟨f5, fun w' hw' => (h4.fr0 hw').pt⟩, _, _, _, (h4.fr0 f5).sd, .inl rfl, ?_⟩⟩
    have f05 := f04.then f5
    have hO5 := hO4.fr0 f5
    refine makeAny_c h.o.k16 (h.fr0 f05).r.row rfl (h.fr0 f05).r.cap hO5.row hO5.2.1 hO5.cap fun q6 d6 w6 f6 hO6 => ⟨_, _, _, _, rfl, ?_⟩
    rw [hmk]
    have f06 := f05.then f6
    refine cond_f ⟨fun w' => Fr [] w6 w', Drw.intro fun w7 f7 s7 => ⟨_, rfl, _, ⟨f7, fun w' hw' => (h.fr0 (f06.then hw')).mm (by kernel_rfl)⟩, _, _, Ef.toStr (by kernel_rfl) ((hO5.fr0 f6).fr0 f7).row hO5.2.1, .inr f7, ?_⟩⟩
    have f07 := f06.then f7
    obtain ⟨w8, he8, f8, hM8, s8⟩ := EfU.putS (P := Tryz.prog) (t := T_M_string_bool) (by kernel_rfl) (h.fr0 f07).mp hm
    refine ⟨w8, he8, Drw.intro fun w9 f9 s9 => ?_⟩
    have n7 := f07.size
    have h8c := (h.fr0 f07).c.fr f8 (by simp; exact h.bm)
    have h8r := (h.fr0 f07).r.fr f8 fun z hz hm2 => h.mpp (by simp at hm2; rw [← hm2]; exact hz)
    have h8 : IsAt w8 b { x with ks := x.ks ++ [cur] } lo := ⟨h8c, h8r, hM8, ⟨h.o.k16, h.o.ok, h.o.pt, h.o.sl, h.o.rm⟩, h.b0, h.m0, h.bm, h.bp, h.mpp⟩
    have h9 := h8.fr0 f9
    refine ⟨_, rfl, _, h9.nn, ?_⟩
    have f09 : Fr [x.mb] w w9 := (f07.mono (l' := [x.mb]) (by simp)).trans (f8.trans f9 (l := [x.mb]) (by simp)) fun z hz => .inl hz
    have hO9 := ((hO6.fr0 f7).fr f8 fun z hz hm2 => by have := hO6.2.2 z hz; have := f05.size; simp at hm2; omega).fr0 f9
    exact hok q6 d6 w9 f09 h9 (hO9.mono f05.size)
set_option maxHeartbeats 2000000 in
theorem issRenew_c (h : IsAt w b x lo) {m s n point : Int} {key sid : List UInt8} {p : Option Addr} {l c : Nat} (hk : key.length = 16) (hR : Row w p (sid.map vb)) (hl : l = sid.length) (hlb : l ≤ 1000000)
    (hbad : isE m s n key point l x.room ≠ 0 → ∀ w', Fr [] w w' → K (.int .i64 (isE m s n key point l x.room)) w')
    (hok : isE m s n key point l x.room = 0 → ∀ y w', Fr [b] w w' → IsAt w' b y lo → (∃ ps cs mb, y = ⟨m, s, n, key, point, x.room, sid, ps, cs, mb, []⟩) → (w.heap.size ≤ y.mb ∧ ∀ z ∈ blks y.ps, w.heap.size ≤ z) → K (.int .i64 0) w') :
    callF Tryz.prog F_issue_Issuer_Renew #[.pointer (some ⟨b, 0, none⟩), .agg ⟨cfgV m s n key⟩, .int .i64 point, .slice p l c] w K := by
  apply issue_Issuer_Renew_call
  unfold issue_Issuer_Renew
  refine newCfg hk fun w1 f1 hC s1 => ?_
  obtain ⟨k5, hk5⟩ : ∃ k, k = w.heap.size := ⟨_, rfl⟩
  rw [← hk5] at hC ⊢
  refine ⟨fun w' => Fr [] w1 w', Drw.intro fun w2 f2 s2 => ⟨_, rfl, _, ⟨f2, fun w' hw' => (hC.fr0 hw').ld hk⟩, _, (h.fr0 (f1.then f2)).rm, .inl rfl, ?_⟩⟩
  have f02 := f1.then f2
  refine issNew_c hk (hR.fr0 f02) hl hlb (fun he w3 f3 => ⟨_, _, rfl, ?_⟩) fun he b' y w3 f3 hY3 hy => ⟨_, _, rfl, ?_⟩
  · have hf : (isE m s n key point l x.room == 0) = false := by simpa using he
    rw [hf]
    exact cond_f (hbad he w3 (f02.then f3))
  · have h3 := h.fr0 (f02.then f3)
    have hvl := IS.v_len hY3.o
    refine cond_t ⟨_, rfl, _, hY3.c.ld (by kernel_rfl) (by rw [hvl]; kernel_rfl), _, rfl, ?_⟩
    obtain ⟨g, hg⟩ := h3.c.blk
    rw [IS.v_len h.o] at hg
    refine stoC hg y.v hvl ?_ (by kernel_rfl) fun w4 f4 hC4 s4 => ?_
    · rw [List.all_eq_true]
      intro u hu
      unfold IS.v IS.t at hu
      rcases List.mem_append.1 hu with hh | hh
      · exact cfgV_one _ _ _ _ u hh
      · simp only [List.mem_cons, List.not_mem_nil, or_false] at hh
        rcases hh with rfl | rfl | rfl | rfl <;> rfl
    have hbl := h.c.lt
    have n2 := f02.size
    have hb := h.b0
    have hym := hY3.m0
    have hyr : b ∉ blks y.ps := fun hm => by have := hY3.r.2.2 b hm; omega
    refine hok he y w4 (((f02.then f3).mono (l' := [b]) (by simp)).trans f4 fun z hz => .inl hz) ⟨hC4, (hY3.r.fr f4 fun z hz hm => by simp at hm; exact hyr (by rw [← hm]; exact hz)).mono (by omega), hY3.mp.fr f4 (by simp; omega), hY3.o, hb, by omega, by omega, hyr, hY3.mpp⟩ hy ⟨by omega, fun z hz => by have := hY3.r.2.2 z hz; omega⟩
end
end Go.Sh
end

section
namespace Go.Sh
open Go Go.Fw Go.Proofs
set_option maxRecDepth 100000
set_option linter.unusedVariables false
theorem headB_self (x : UInt8) : headB (x.toNat / 64) (x.toNat % 64) = x := by
  unfold headB
  rw [show 64 * (x.toNat / 64) + x.toNat % 64 = x.toNat by omega]
  simp
section
variable {w : World} {m s n : Int} {key : List UInt8} {K : Value → World → Prop}
end
end Go.Sh
end

section
namespace Go.Sh
open Go Go.Fw Go.Proofs
set_option maxRecDepth 100000
set_option linter.unusedVariables false
theorem mkBk {m s n : Int} {key : List UInt8} {point : Int} {sid nonce : List UInt8} (hk : key.length = 16) (ho : okC m s n key) (hm : okMk m s n key point sid.length nonce.length) :
    okBk m s n key (mkOut m s n key point sid nonce) ∧ bkP m s n key (mkOut m s n key point sid nonce) = point ∧ bkS m s n key (mkOut m s n key point sid nonce) = sid ∧ bkN m s n key (mkOut m s n key point sid nonce) = nonce ∧ ((mkOut m s n key point sid nonce).length : Int) = 1 + (s + n) ∧ ((fl (mkOut m s n key point sid nonce) 0).toNat / 64 : Nat) = point.toNat := by
  obtain ⟨pt, hpt⟩ : ∃ pt : Nat, point = (pt : Int) := Int.eq_ofNat_of_zero_le hm.1
  subst hpt
  have hm' := hm
  have ho' := ho
  unfold okMk at hm
  unfold okC at ho
  have hA : mkOut m s n key (pt : Int) sid nonce = headB pt (sid.length + nonce.length) :: turnC false m key (sid ++ nonce) := by
    unfold mkOut; rw [if_pos ⟨ho', hm'⟩, Int.toNat_natCast]
  obtain ⟨A, hA'⟩ : ∃ A, A = mkOut m s n key (pt : Int) sid nonce := ⟨_, rfl⟩
  rw [← hA'] at hA ⊢
  have hSN : ((sid ++ nonce).length : Int) = s + n := by rw [List.length_append]; omega
  have htl := turnC_len false ho' hSN
  have hAl : A.length = sid.length + nonce.length + 1 := by rw [hA, List.length_cons, htl, List.length_append]
  have hA0 : fl A 0 = headB pt (sid.length + nonce.length) := by rw [hA]; rfl
  have hAd : A.drop 1 = turnC false m key (sid ++ nonce) := by rw [hA]; rfl
  have e64 := headB_point (p := pt) (n := sid.length + nonce.length) (by omega) (by omega)
  have e65 := headB_told (p := pt) (n := sid.length + nonce.length) (by omega) (by omega)
  have bk : okBk m s n key A := ⟨ho', by omega, by rw [hA0, e65]; omega⟩
  have tk : (sid ++ nonce).take s.toNat = sid ∧ (sid ++ nonce).drop s.toNat = nonce := by
    have : s.toNat = sid.length := by omega
    rw [this]; simp
  refine ⟨bk, ?_, ?_, ?_, by omega, by rw [hA0, e64]; omega⟩
  · unfold bkP; rw [if_pos bk, hA0, e64]
  · unfold bkS; rw [if_pos bk, hAd, turn_back ho' hk hSN, tk.1]
  · unfold bkN; rw [if_pos bk, hAd, turn_back ho' hk hSN, tk.2]
theorem okMkI {x : IS} (hx : IsOk x) {nonce : List UInt8} (hn : (nonce.length : Int) = x.n) : okMk x.m x.s x.n x.key x.point x.sid.length nonce.length := ⟨hx.pt.1, hx.pt.2, hx.sl, hn⟩
theorem mine_mk {x y : IS} (hx : IsOk x) (hm : y.m = x.m) (hs : y.s = x.s) (hn : y.n = x.n) (hk : y.key = x.key) {nonce : List UInt8} (hl : (nonce.length : Int) = x.n) :
    mineP y (mkOut x.m x.s x.n x.key x.point x.sid nonce) ↔ (x.point = y.point ∧ x.sid = y.sid ∧ nonce ∈ y.ks) := by
  obtain ⟨h1, h2, h3, h4, _, _⟩ := mkBk hx.k16 hx.ok (okMkI hx hl)
  unfold mineP
  rw [hm, hs, hn, hk, h2, h3, h4]
  exact ⟨fun h => h.2, fun h => ⟨h1, h⟩⟩
theorem acfg : (#[.int .i64 0, .int .i64 1, .int .i64 4, .int .u8 0, .int .u8 0, .int .u8 0, .int .u8 0, .int .u8 0, .int .u8 0, .int .u8 0, .int .u8 0, .int .u8 0, .int .u8 0, .int .u8 0, .int .u8 0, .int .u8 0, .int .u8 0, .int .u8 0, .int .u8 0] : Array Value) = ⟨cfgV 0 1 4 z16k⟩ := by kernel_rfl
section
variable {w : World} {K : Value → World → Prop}
set_option maxHeartbeats 8000000 in
theorem alive28_c (h : ∀ w', Fr [] w w' → K (.bool true) w') : callF Tryz.prog F_law28_alive #[] w K := by
  apply law28_alive_call
  unfold law28_alive
  rw [acfg, zcfg]
  refine mkL (n := 1) (xs := [9]) rfl rfl (by kernel_rfl) fun q1 w1 f1 h1 s1 => ?_
  have eN : isE 0 1 4 z16k 2 1 2 = 0 := by kernel_rfl
  refine issNew_c (m := 0) (s := 1) (n := 4) (key := z16k) (point := 2) (room := 2) rfl h1.row rfl (by omega) (fun hh => absurd eN hh) fun _ b x w2 f2 hX2 hx => ⟨_, _, rfl, ?_⟩
  obtain ⟨ps, cs, mb, rfl⟩ := hx
  refine mkL (n := 1) (xs := [9]) rfl rfl (by kernel_rfl) fun q3 w3 f3 h3 s3 => ?_
  have eZ : isE 0 0 0 z16k 2 1 2 = 10 := by kernel_rfl
  refine issNew_c (m := 0) (s := 0) (n := 0) (key := z16k) (point := 2) (room := 2) rfl h3.row rfl (by omega) (fun _ w4 f4 => ⟨_, _, rfl, ?_⟩) fun hh => absurd (eZ.symm.trans hh) (by omega)
  rw [eZ]
  refine ⟨_, _, ptrNil (by kernel_rfl), cond_f (cond_f (cond_f ?_))⟩
  unfold law28_alive_j1
  have hX4 := (hX2.fr0 f3).fr0 f4
  have f04 := ((f1.then f2).then f3).then f4
  have n1 := f1.size
  obtain ⟨X, hX⟩ : ∃ X : IS, X = ⟨0, 1, 4, z16k, 2, 2, [9], ps, cs, mb, []⟩ := ⟨_, rfl⟩
  rw [← hX] at hX4
  -- too few random bytes
  refine mkL (n := 3) (xs := [0, 0, 1]) rfl rfl (by kernel_rfl) fun q5 w5 f5 h5 s5 => ?_
  have e1 : nxE X [0, 0, 1] = 21 := by rw [hX]; kernel_rfl
  have k0 : X.ks.length < 256 := by rw [hX]; show 0 < 256; omega
  refine issNext_c (hX4.fr0 f5) k0 h5.row rfl (by omega) (fun _ w6 f6 => ⟨_, _, _, _, _, rfl, ?_⟩) fun hh => absurd (e1.symm.trans hh) (by omega)
  rw [e1]
  have g46 := f5.then f6
  refine mkL (n := 5) (xs := [0, 0, 0, 1, 7]) rfl rfl (by kernel_rfl) fun q7 w7 f7 h7 s7 => ?_
  have e2 : nxE X [0, 0, 0, 1, 7] = 0 := by rw [hX]; kernel_rfl
  have g47 := g46.then f7
  have f07 := f04.then g47
  refine issNext_c (hX4.fr0 g47) k0 h7.row rfl (by omega) (fun hh => absurd e2 hh) fun _ qa da w8 f8 hX8 ha8 => ⟨_, _, _, _, _, rfl, ?_⟩
  have eA : nxI X [0, 0, 0, 1, 7] = [133, 9, 0, 0, 0, 1] := by rw [hX]; kernel_rfl
  have eS : nxS X [0, 0, 0, 1, 7] = ⟨0, 1, 4, z16k, 2, 2, [9], ps, cs, mb, [[0, 0, 0, 1]]⟩ := by rw [hX]; kernel_rfl
  have en : X.n = 4 := by rw [hX]
  rw [eA] at ha8
  rw [eS] at hX8
  rw [eA, en]
  have hm0 := hX4.m0
  rw [hX] at hm0
  have hm0 : w1.heap.size ≤ mb := hm0
  have hXmb : X.mb = mb := by rw [hX]
  rw [hXmb] at f8
  have f08 : Fr [] w w8 := f07.st f8 (by omega)
  obtain ⟨Y, hY⟩ : ∃ Y : IS, Y = ⟨0, 1, 4, z16k, 2, 2, [9], ps, cs, mb, [[0, 0, 0, 1]]⟩ := ⟨_, rfl⟩
  rw [← hY] at hX8
  have hYmb : Y.mb = mb := by rw [hY]
  refine issClone_c hX8 fun c mc w9 f9 hcl hX9 hC9 hcb hmc hmb2 hcm hclt hmcl => ⟨_, rfl, ?_⟩
  rw [hYmb] at hmc hcm
  refine mkL (n := 4) (xs := [0, 0, 0, 1]) rfl rfl (by kernel_rfl) fun q10 w10 f10 h10 s10 => ?_
  have g810 := f9.then f10
  have e3 : nxE Y [0, 0, 0, 1] = 0 := by rw [hY]; kernel_rfl
  have k1 : Y.ks.length < 256 := by rw [hY]; show 1 < 256; omega
  refine issNext_c (hX9.fr0 f10) k1 h10.row rfl (by omega) (fun hh => absurd e3 hh) fun _ qb db w11 f11 hX11 hb11 => ⟨_, _, _, _, _, rfl, ?_⟩
  have eB : nxI Y [0, 0, 0, 1] = [133, 9, 0, 0, 0, 2] := by rw [hY]; kernel_rfl
  have eT : nxS Y [0, 0, 0, 1] = ⟨0, 1, 4, z16k, 2, 2, [9], ps, cs, mb, [[0, 0, 0, 1], [0, 0, 0, 2]]⟩ := by rw [hY]; kernel_rfl
  rw [eB] at hb11
  rw [eT] at hX11
  rw [eB]
  rw [hYmb] at f11
  have f011 : Fr [] w w11 := (f08.then g810).st f11 (by omega)
  have hC11 : IsAt w11 c { Y with mb := mc } w1.heap.size := (hC9.fr0 f10).fr f11 fun z hz => by
    have hz : z = mb := by simpa using hz
    subst hz
    exact ⟨fun hh => hcm hh.symm, fun hh => hmc hh.symm, by have := hX9.mpp; rw [hYmb] at this; exact this⟩
  obtain ⟨Z, hZ⟩ : ∃ Z : IS, Z = ⟨0, 1, 4, z16k, 2, 2, [9], ps, cs, mb, [[0, 0, 0, 1], [0, 0, 0, 2]]⟩ := ⟨_, rfl⟩
  rw [← hZ] at hX11
  refine mkL (n := 4) (xs := [0, 0, 0, 1]) rfl rfl (by kernel_rfl) fun q12 w12 f12 h12 s12 => ?_
  have e4 : nxE Z [0, 0, 0, 1] = 18 := by rw [hZ]; kernel_rfl
  have k2 : Z.ks.length < 256 := by rw [hZ]; show 2 < 256; omega
  refine issNext_c (hX11.fr0 f12) k2 h12.row rfl (by omega) (fun _ w13 f13 => ⟨_, _, _, _, _, rfl, ?_⟩) fun hh => absurd (e4.symm.trans hh) (by omega)
  rw [e4]
  have g1113 := f12.then f13
  refine issPlace_c (hX11.fr0 g1113) fun qp dp w14 f14 hp14 => ⟨_, _, _, _, rfl, ?_⟩
  have eP : Z.point = 2 := by rw [hZ]
  have eSid : Z.sid = [9] := by rw [hZ]
  rw [eSid] at hp14
  rw [eP, eSid]
  have g1114 := g1113.then f14
  have ha14 := ((ha8.fr0 g810).fr f11 fun z hz hm => by
    have := ha8.2.2 z hz; have := hX4.mp.lt; rw [hXmb] at this; have := g47.size; simp at hm; omega).fr0 g1114
  refine issMine_c (hX11.fr0 g1114) ha14.row rfl ha14.cap (by decide) fun w15 f15 => ⟨_, rfl, ?_⟩
  have m1 : decide (mineP Z [133, 9, 0, 0, 0, 1]) = true := by rw [hZ]; kernel_rfl
  rw [m1]
  have g1115 := g1114.then f15
  refine mkL (n := 1) (xs := [8]) rfl rfl (by kernel_rfl) fun q16 w16 f16 h16 s16 => ?_
  have eR : Z.room = 2 := by rw [hZ]
  have e5 : isE 0 1 4 z16k 0 1 Z.room = 0 := by rw [eR]; kernel_rfl
  refine issRenew_c (m := 0) (s := 1) (n := 4) (key := z16k) (point := 0) (hX11.fr0 (g1115.then f16)) rfl h16.row rfl (by omega) (fun hh => absurd e5 hh) fun _ y w17 f17 hY17 hy _ => ⟨_, rfl, ?_⟩
  obtain ⟨ps2, cs2, mb2, hy⟩ := hy
  rw [eR] at hy
  subst hy
  have hb0 := hX11.b0
  have f016 := (f011.then g1115).then f16
  have f017 : Fr [] w w17 := f016.st f17 (by omega)
  have e6 : isE 0 1 4 z16k 0 0 2 = 11 := by kernel_rfl
  refine issRenew_c (m := 0) (s := 1) (n := 4) (key := z16k) (point := 0) (sid := []) hY17 rfl (.inl rfl) rfl (by omega) (fun _ w18 f18 => ⟨_, rfl, ?_⟩) fun hh => absurd (e6.symm.trans hh) (by omega)
  show ∃ (b91 : Bool) (w15 : World), _
  have e6' : isE 0 1 4 z16k 0 0 (2 : Int) = 11 := e6
  rw [e6']
  refine ⟨_, _, ptrNe (by kernel_rfl), cond_t ?_⟩
  refine cond_t (cond_t (cond_t (cond_t (cond_t (cond_t (cond_t ?_))))))
  have ha18 := (((ha14.fr0 f15).fr0 f16).fr f17 fun z hz hm => by
    have h1 := ha8.2.2 z hz; have h2 := hX4.c.lt; have := g47.size; simp at hm; omega).fr0 f18
  have hb18 := (((hb11.fr0 g1115).fr0 f16).fr f17 fun z hz hm => by
    have h1 := hb11.2.2 z hz; have h2 := (hX9.fr0 f10).c.lt; simp at hm; omega).fr0 f18
  have hp18 := (((hp14.fr0 f15).fr0 f16).fr f17 fun z hz hm => by
    have h1 := hp14.2.2 z hz; have h2 := (hX11.fr0 g1113).c.lt; simp at hm; omega).fr0 f18
  have hC18 : IsAt w18 c { Y with mb := mc } w1.heap.size := ((hC11.fr0 (g1115.then f16)).fr f17 fun z hz => by
    have hz : z = b := by simpa using hz
    subst hz
    exact ⟨fun hh => hcb hh.symm, fun hh => hmb2 hh.symm, hX9.bp⟩).fr0 f18
  have hY18 := hY17.fr0 f18
  refine mkL (n := 6) (xs := [133, 9, 0, 0, 0, 1]) rfl rfl (by kernel_rfl) fun q19 w19 f19 h19 s19 => ?_
  refine SameBytes_c (ha18.fr0 f19).row rfl h19.row rfl (by decide) fun w20 f20 => ⟨_, rfl, ?_⟩
  rw [decide_eq_true rfl]
  have g1820 := f19.then f20
  refine cond_t ?_
  refine mkL (n := 6) (xs := [133, 9, 0, 0, 0, 2]) rfl rfl (by kernel_rfl) fun q21 w21 f21 h21 s21 => ?_
  refine SameBytes_c ((hb18.fr0 g1820).fr0 f21).row rfl h21.row rfl (by decide) fun w22 f22 => ⟨_, rfl, ?_⟩
  rw [decide_eq_true rfl]
  have g1822 := (g1820.then f21).then f22
  refine cond_t (cond_t ?_)
  refine mkL (n := 1) (xs := [9]) rfl rfl (by kernel_rfl) fun q23 w23 f23 h23 s23 => ?_
  refine SameBytes_c ((hp18.fr0 g1822).fr0 f23).row rfl h23.row rfl (by decide) fun w24 f24 => ⟨_, rfl, ?_⟩
  rw [decide_eq_true rfl]
  have g1824 := (g1822.then f23).then f24
  refine cond_t (cond_t ?_)
  refine issMine_c (hY18.fr0 g1824) (ha18.fr0 g1824).row rfl ha18.cap (by decide) fun w25 f25 => ⟨_, rfl, ?_⟩
  have m2 : decide (mineP (⟨0, 1, 4, z16k, 0, 2, [8], ps2, cs2, mb2, []⟩ : IS) [133, 9, 0, 0, 0, 1]) = false := by kernel_rfl
  rw [m2]
  have g1825 := g1824.then f25
  refine cond_t ?_
  refine issIssued_c (hY18.fr0 g1825) ⟨_, rfl, cond_t ?_⟩
  have hCks : ({ Y with mb := mc } : IS) = ⟨0, 1, 4, z16k, 2, 2, [9], ps, cs, mc, [[0, 0, 0, 1]]⟩ := by rw [hY]
  rw [hCks] at hC18
  refine issIssued_c (hC18.fr0 g1825) ⟨_, rfl, cond_t ?_⟩
  refine issMine_c (hC18.fr0 g1825) (ha18.fr0 g1825).row rfl ha18.cap (by decide) fun w26 f26 => ⟨_, rfl, ?_⟩
  have m3 : decide (mineP (⟨0, 1, 4, z16k, 2, 2, [9], ps, cs, mc, [[0, 0, 0, 1]]⟩ : IS) [133, 9, 0, 0, 0, 1]) = true := by kernel_rfl
  rw [m3]
  have g1826 := g1825.then f26
  refine cond_t ?_
  refine issMine_c (hC18.fr0 g1826) (hb18.fr0 g1826).row rfl hb18.cap (by decide) fun w27 f27 => ⟨_, rfl, ?_⟩
  have m4 : decide (mineP (⟨0, 1, 4, z16k, 2, 2, [9], ps, cs, mc, [[0, 0, 0, 1]]⟩ : IS) [133, 9, 0, 0, 0, 2]) = false := by kernel_rfl
  rw [m4]
  exact h w27 ((f017.then f18).then (g1826.then f27))
end
end Go.Sh
end

section
namespace Go.Sh
open Go Go.Fw Go.Proofs
set_option maxRecDepth 100000
set_option linter.unusedVariables false
def Rws (w : World) (vs : List Value) (rs : List (List UInt8)) (X : Nat → Prop) : Prop :=
  vs.length = rs.length ∧ ∀ (j : Nat) (r : List UInt8), rs[j]? = some r → ∃ (q : Option Addr) (d : Nat), vs[j]? = some (.slice q r.length d) ∧ r.length ≤ d ∧ Row w q (r.map vb) ∧ ∀ z ∈ blks q, z < w.heap.size ∧ ¬ X z
theorem Rws.fr {w w' : World} {vs : List Value} {rs : List (List UInt8)} {X : Nat → Prop} {L : List Nat} (h : Rws w vs rs X) (f : Fr L w w') (hL : ∀ z ∈ L, X z ∨ w.heap.size ≤ z) : Rws w' vs rs X := by
  refine ⟨h.1, fun j r hj => ?_⟩
  obtain ⟨q, d, h1, h2, h3, h4⟩ := h.2 j r hj
  have hs := f.size
  refine ⟨q, d, h1, h2, rowKeep h3 f fun h0 z hz hm => ?_, fun z hz => ⟨by have := (h4 z hz).1; omega, (h4 z hz).2⟩⟩
  rcases hL z hm with hx | hx
  · exact (h4 z hz).2 hx
  · have := (h4 z hz).1; omega
theorem Rws.weak {w : World} {vs : List Value} {rs : List (List UInt8)} {X X' : Nat → Prop} (h : Rws w vs rs X) (hX : ∀ z, z < w.heap.size → X' z → X z) : Rws w vs rs X' :=
  ⟨h.1, fun j r hj => by
    obtain ⟨q, d, h1, h2, h3, h4⟩ := h.2 j r hj
    exact ⟨q, d, h1, h2, h3, fun z hz => ⟨(h4 z hz).1, fun hx => (h4 z hz).2 (hX z (h4 z hz).1 hx)⟩⟩⟩
theorem Rws.nil (w : World) (X : Nat → Prop) : Rws w [] [] X := ⟨rfl, fun j r hj => by simp at hj⟩
theorem Rws.push {w : World} {vs : List Value} {rs : List (List UInt8)} {X : Nat → Prop} (h : Rws w vs rs X) {q : Option Addr} {d : Nat} {r : List UInt8} (hd : r.length ≤ d) (hR : Row w q (r.map vb)) (hz : ∀ z ∈ blks q, z < w.heap.size ∧ ¬ X z) : Rws w (vs ++ [.slice q r.length d]) (rs ++ [r]) X := by
  refine ⟨by simp [h.1], fun j r' hj => ?_⟩
  by_cases hjl : j < rs.length
  · rw [List.getElem?_append_left hjl] at hj
    obtain ⟨q', d', h1, h2, h3, h4⟩ := h.2 j r' hj
    exact ⟨q', d', by rw [List.getElem?_append_left (by rw [h.1]; exact hjl)]; exact h1, h2, h3, h4⟩
  · have hlt := (List.getElem?_eq_some_iff.1 hj).1
    have hjl' : j = rs.length := by simp at hlt; omega
    subst hjl'
    rw [List.getElem?_append_right (Nat.le_refl _)] at hj
    have hr : r = r' := by simpa using hj
    subst hr
    exact ⟨q, d, by rw [List.getElem?_append_right (by rw [h.1]; exact Nat.le_refl _), h.1]; simp, hd, hR, hz⟩
theorem Rws.rowB {w : World} {p : Option Addr} {vs : List Value} {rs : List (List UInt8)} {X : Nat → Prop} (h : Rws w vs rs X) (hR : Row w p vs) : RowB w p rs :=
  ⟨vs, hR, h.1, fun j r hj => by
    obtain ⟨q, d, h1, h2, h3, h4⟩ := h.2 j r hj
    exact ⟨_, h1, q, d, rfl, h2, h3⟩⟩
structure RI where
  m : Int
  s : Int
  n : Int
  key : List UInt8
  point : Int
  room : Int
  sid : List UInt8
  ps : Option Addr
  cs : Nat
  pn : Option Addr
  cn : Nat
  ns : List (List UInt8)
  pi : Option Addr
  ci : Nat
  is : List (List UInt8)
def RI.t (x : RI) : List Value := [.int .i64 x.point, .slice x.ps x.sid.length x.cs, .int .i64 x.room, .slice x.pn x.ns.length x.cn, .slice x.pi x.is.length x.ci]
def RI.v (x : RI) : List Value := cfgV x.m x.s x.n x.key ++ x.t
structure RiOk (x : RI) : Prop where
  k16 : x.key.length = 16
  ok : okC x.m x.s x.n x.key
  pt : 0 ≤ x.point ∧ x.point ≤ 2
  sl : (x.sid.length : Int) = x.s
  rm : 1 ≤ x.room ∧ x.room ≤ 65536
def mutR (b : Nat) (x : RI) (z : Nat) : Prop := z = b ∨ z ∈ blks x.pn ∨ z ∈ blks x.pi
structure RiAt (w : World) (b : Nat) (x : RI) (lo : Nat) (Y : Nat → Prop) : Prop where
  c : CAt w b x.v
  r : OB w x.ps x.sid.length x.cs x.sid lo
  a1 : ∃ vs, OwnS w x.pn x.ns.length x.cn vs ∧ Rws w vs x.ns (fun z => mutR b x z ∨ Y z)
  a2 : ∃ vs, OwnS w x.pi x.is.length x.ci vs ∧ Rws w vs x.is (fun z => mutR b x z ∨ Y z)
  o : RiOk x
  lo1 : ∀ z, mutR b x z → lo ≤ z
  bn : b ∉ blks x.pn
  bi : b ∉ blks x.pi
  ni : ∀ z ∈ blks x.pn, z ∉ blks x.pi
  sp : ∀ z ∈ blks x.ps, ¬ (mutR b x z ∨ Y z)
  my : ∀ z, mutR b x z → ¬ Y z
theorem RI.v_len {x : RI} (h : RiOk x) : x.v.length = 24 := by unfold RI.v RI.t; rw [List.length_append, cfgV_len, h.k16]; rfl
theorem RI.get {x : RI} (h : RiOk x) {j : Nat} {v : Value} (hj : x.t[j]? = some v) : x.v[19 + j]? = some v := by
  unfold RI.v
  rw [List.getElem?_append_right (by rw [cfgV_len, h.k16]; omega), cfgV_len, h.k16]
  have : 19 + j - (16 + 3) = j := by omega
  rw [this]; exact hj
theorem RI.v_one (x : RI) : x.v.all (·.oneCell') = true := by
  rw [List.all_eq_true]
  intro u hu
  unfold RI.v RI.t at hu
  rcases List.mem_append.1 hu with hh | hh
  · exact cfgV_one _ _ _ _ u hh
  · simp only [List.mem_cons, List.not_mem_nil, or_false] at hh
    rcases hh with rfl | rfl | rfl | rfl | rfl <;> rfl
section
variable {w : World} {b lo : Nat} {x : RI} {Y : Nat → Prop} {K : Value → World → Prop}
theorem RiAt.mut_lt (h : RiAt w b x lo Y) {z : Nat} (hz : mutR b x z) : z < w.heap.size := by
  rcases hz with hz | hz | hz
  · rw [hz]; exact h.c.lt
  · obtain ⟨vs, hO, _⟩ := h.a1; exact hO.lt z hz
  · obtain ⟨vs, hO, _⟩ := h.a2; exact hO.lt z hz
theorem RiAt.fr {w' : World} {L : List Nat} (h : RiAt w b x lo Y) (f : Fr L w w') (hL : ∀ z ∈ L, Y z ∨ w.heap.size ≤ z) : RiAt w' b x lo Y := by
  obtain ⟨v1, o1, r1⟩ := h.a1
  obtain ⟨v2, o2, r2⟩ := h.a2
  have hm : ∀ z, mutR b x z → z ∉ L := fun z hz hm => by
    rcases hL z hm with hh | hh
    · exact h.my z hz hh
    · have := h.mut_lt hz; omega
  refine ⟨h.c.fr f (hm b (.inl rfl)), h.r.fr f fun z hz hm2 => ?_, ⟨v1, o1.fr f (fun z hz => hm z (.inr (.inl hz))), r1.fr f fun z hz => ?_⟩, ⟨v2, o2.fr f (fun z hz => hm z (.inr (.inr hz))), r2.fr f fun z hz => ?_⟩, h.o, h.lo1, h.bn, h.bi, h.ni, h.sp, h.my⟩
  · rcases hL z hm2 with hh | hh
    · exact h.sp z hz (.inr hh)
    · have := h.r.lt z hz; omega
  · rcases hL z hz with hh | hh
    · exact .inl (.inr hh)
    · exact .inr hh
  · rcases hL z hz with hh | hh
    · exact .inl (.inr hh)
    · exact .inr hh
theorem RiAt.fr0 {w' : World} (h : RiAt w b x lo Y) (f : Fr [] w w') : RiAt w' b x lo Y := h.fr f (by simp)
theorem RiAt.weak {Y' : Nat → Prop} (h : RiAt w b x lo Y) (hY : ∀ z, z < w.heap.size → Y' z → Y z) : RiAt w b x lo Y' := by
  obtain ⟨v1, o1, r1⟩ := h.a1
  obtain ⟨v2, o2, r2⟩ := h.a2
  have hw : ∀ z, z < w.heap.size → (mutR b x z ∨ Y' z) → (mutR b x z ∨ Y z) := fun z hz hh => hh.elim .inl fun h2 => .inr (hY z hz h2)
  exact ⟨h.c, h.r, ⟨v1, o1, r1.weak hw⟩, ⟨v2, o2, r2.weak hw⟩, h.o, h.lo1, h.bn, h.bi, h.ni, fun z hz hh => h.sp z hz (hw z (h.r.lt z hz) hh), fun z hz hh => h.my z hz (hY z (h.mut_lt hz) hh)⟩
theorem RiAt.cfg0 (h : RiAt w b x lo Y) : Ld Tryz.prog T_ref16_Config (.pointer (some ((⟨b, 0, none⟩ : Addr).add 0))) w (.agg ⟨cfgV x.m x.s x.n x.key⟩) :=
  h.c.ld0 (ds := cfgV x.m x.s x.n x.key) (rs := x.t) rfl (by kernel_rfl) (by rw [cfgV_len, h.o.k16]; kernel_rfl)
theorem RiAt.pt (h : RiAt w b x lo Y) : Ld Tryz.prog T_int (.pointer (some ((⟨b, 0, none⟩ : Addr).add 19))) w (.int .i64 x.point) := h.c.get (by kernel_rfl) (RI.get h.o (j := 0) rfl)
theorem RiAt.sd (h : RiAt w b x lo Y) : Ld Tryz.prog T_S_uint8 (.pointer (some ((⟨b, 0, none⟩ : Addr).add 20))) w (.slice x.ps x.sid.length x.cs) := h.c.get (by kernel_rfl) (RI.get h.o (j := 1) rfl)
theorem RiAt.rm (h : RiAt w b x lo Y) : Ld Tryz.prog T_int (.pointer (some ((⟨b, 0, none⟩ : Addr).add 21))) w (.int .i64 x.room) := h.c.get (by kernel_rfl) (RI.get h.o (j := 2) rfl)
theorem RiAt.nl (h : RiAt w b x lo Y) : Ld Tryz.prog T_S_S_uint8 (.pointer (some ((⟨b, 0, none⟩ : Addr).add 22))) w (.slice x.pn x.ns.length x.cn) := h.c.get (by kernel_rfl) (RI.get h.o (j := 3) rfl)
theorem RiAt.il (h : RiAt w b x lo Y) : Ld Tryz.prog T_S_S_uint8 (.pointer (some ((⟨b, 0, none⟩ : Addr).add 23))) w (.slice x.pi x.is.length x.ci) := h.c.get (by kernel_rfl) (RI.get h.o (j := 4) rfl)
theorem RiAt.nn (h : RiAt w b x lo Y) : Ld Tryz.prog T_int (.pointer (some (((⟨b, 0, none⟩ : Addr).add 0).add 2))) w (.int .i64 x.n) := h.c.get0 (by kernel_rfl) (j := 2) rfl
theorem riBuild {m s n point room : Int} {key : List UInt8} {ps : Option Addr} {l cs : Nat} (h : key.length = 16) :
    Pu Tryz.prog (Instr.build T_ref28_Issuer #[(0, .agg ⟨cfgV m s n key⟩), (1, .int .i64 point), (2, .slice ps l cs), (3, .int .i64 room)]) (.agg ⟨cfgV m s n key ++ [.int .i64 point, .slice ps l cs, .int .i64 room, .slice none 0 0, .slice none 0 0]⟩) := by
  obtain ⟨a0, a1, a2, a3, a4, a5, a6, a7, a8, a9, aa, ab, ac, ad, ae, af, rfl⟩ := list16 h
  show res _ _ = _
  kernel_rfl
theorem ref28Check_c {m s n point room : Int} {key : List UInt8} {p : Option Addr} {l c : Nat} (hk : key.length = 16) (h : ∀ w', Fr [] w w' → K (.int .i64 (isE m s n key point l room)) w') :
    callF Tryz.prog F_ref28_check #[.agg ⟨cfgV m s n key⟩, .int .i64 point, .slice p l c, .int .i64 room] w K := by
  apply ref28_check_call
  unfold ref28_check
  refine newCfgR hk fun w1 f1 hC s1 => ⟨_, hC.ldR hk, refRight_c hk fun w2 f2 => ⟨_, rfl, ?_⟩⟩
  have f02 := f1.then f2
  have hC2 := hC.fr0 f2
  have h := h w2 f02
  by_cases ho : okC m s n key
  · rw [decide_eq_true ho]
    have no : (point < 0 ∨ 3 ≤ point ∨ (l : Int) ≠ s ∨ room < 1 ∨ 65536 < room) → K (.int .i64 11) w2 := by
      intro hh
      have e : isE m s n key point l room = 11 := by unfold isE; rw [if_neg (fun h => h ho), if_pos hh]
      rw [e] at h; exact h
    refine cond_f (cond_d (fun h => no (.inl (by omega))) fun g1 => cond_d (fun h => no (.inr (.inl (by omega)))) fun g2 => ⟨_, hC2.sid, cond_ne (fun h => no (.inr (.inr (.inl (by omega))))) fun g3 => cond_d (fun h => no (.inr (.inr (.inr (.inl (by omega)))))) fun g4 => cond_d (fun h => no (.inr (.inr (.inr (.inr (by omega)))))) fun g5 => ?_⟩)
    have e : isE m s n key point l room = 0 := by unfold isE; rw [if_neg (fun h => h ho), if_neg (by omega)]
    rw [e] at h; exact h
  · rw [decide_eq_false ho]
    have e : isE m s n key point l room = 10 := by unfold isE; rw [if_pos ho]
    rw [e] at h
    exact cond_t h
theorem isE_ok {m s n point room : Int} {key : List UInt8} {l : Nat} (h : isE m s n key point l room = 0) : okC m s n key ∧ 0 ≤ point ∧ point ≤ 2 ∧ (l : Int) = s ∧ 1 ≤ room ∧ room ≤ 65536 := by
  unfold isE at h
  by_cases ho : okC m s n key
  · rw [if_neg (fun hh => hh ho)] at h
    by_cases hh : (point < 0 ∨ 3 ≤ point ∨ (l : Int) ≠ s ∨ room < 1 ∨ 65536 < room)
    · rw [if_pos hh] at h; omega
    · exact ⟨ho, by omega, by omega, by omega, by omega, by omega⟩
  · rw [if_pos ho] at h; omega
set_option maxHeartbeats 2000000 in
theorem ref28New_c {m s n point room : Int} {key sid : List UInt8} {p : Option Addr} {l c : Nat} (hk : key.length = 16) (hR : Row w p (sid.map vb)) (hl : l = sid.length) (hlb : l ≤ 1000000) (hY : ∀ z, Y z → z < w.heap.size)
    (hbad : isE m s n key point l room ≠ 0 → ∀ w', Fr [] w w' → K (.tuple #[.pointer none, .int .i64 (isE m s n key point l room)]) w')
    (hok : isE m s n key point l room = 0 → ∀ b x w', Fr [] w w' → RiAt w' b x w.heap.size Y → (∃ ps cs, x = ⟨m, s, n, key, point, room, sid, ps, cs, none, 0, [], none, 0, []⟩) → K (.tuple #[.pointer (some ⟨b, 0, none⟩), .int .i64 0]) w') :
    callF Tryz.prog F_ref28_New #[.agg ⟨cfgV m s n key⟩, .int .i64 point, .slice p l c, .int .i64 room] w K := by
  apply ref28_New_call
  unfold ref28_New
  refine newCfgR hk fun w1 f1 hC s1 => ⟨_, hC.ldR hk, ref28Check_c hk fun w2 f2 => ⟨_, rfl, ?_⟩⟩
  have f02 := f1.then f2
  have hC2 := hC.fr0 f2
  refine cond_ne (fun he => hbad he w2 f02) fun he => ?_
  have hok := hok he
  obtain ⟨ho, p0, p2, hsl, r1, r2⟩ := isE_ok he
  refine ⟨fun w' => FrA w2.heap.size w2 w', Drw.intro fun w3 f3 s3 => ?_⟩
  have hkl := hC2.lt
  have keep : ∀ {w'}, FrA w2.heap.size w2 w' → Cfg w' _ m s n key := fun {w'} hw => by
    obtain ⟨L, h1, h2⟩ := hw
    exact hC2.fr h2 fun hm => by have := h1 _ hm; omega
  refine ⟨_, ⟨FrA.of0 f3, fun w' hw' => (keep hw').ldR hk⟩, ?_⟩
  refine mk0 fun q4 w4 f4 hO4 s4 => ⟨.inr ((FrA.of0 f3).trans (FrA.of0 f4)), ?_⟩
  have f03 := f02.then f3
  have f04 := f03.then f4
  refine pushN hO4 f4.size (hR.fr0 f04) hl (by omega) fun q5 d5 w5 f5 hO5 => ⟨.inr (((FrA.of0 f3).trans (FrA.of0 f4)).trans (FrA.of f5 fun z hz => by have := hO4.2.2 z hz; omega)), ?_⟩
  rw [List.nil_append, Nat.zero_add] at hO5
  rw [Nat.zero_add]
  refine ⟨_, riBuild hk, newC (t := T_ref28_Issuer) (cfgV m s n key ++ [.int .i64 point, .slice q5 l d5, .int .i64 room, .slice none 0 0, .slice none 0 0]) fun w6 f6 hC6 s6 => ?_⟩
  have n02 := f02.size; have n03 := f03.size
  have f05 : Fr [] w w5 := f04.trans f5 fun z hz => .inr (by have := hO4.2.2 z hz; omega)
  have n05 := f05.size
  have hm : ∀ z, mutR w5.heap.size (⟨m, s, n, key, point, room, sid, q5, d5, none, 0, [], none, 0, []⟩ : RI) z → z = w5.heap.size := fun z hz => by
    rcases hz with hh | hh | hh
    · exact hh
    · simp [blks] at hh
    · simp [blks] at hh
  refine hok _ ⟨m, s, n, key, point, room, sid, q5, d5, none, 0, [], none, 0, []⟩ w6 (f05.then f6) ⟨by subst hl; exact hC6, by subst hl; exact (hO5.fr0 f6).mono (by omega), ⟨[], OwnS.nil _, Rws.nil _ _⟩, ⟨[], OwnS.nil _, Rws.nil _ _⟩, ⟨hk, ho, ⟨p0, p2⟩, by show (sid.length : Int) = s; omega, ⟨r1, r2⟩⟩, fun z hz => by rw [hm z hz]; exact n05, by simp [blks], by simp [blks], by simp [blks], fun z hz hh => ?_, fun z hz hh => ?_⟩ ⟨q5, d5, rfl⟩
  · have h1 := hO5.lt z hz
    have h2 := hO5.2.2 z hz
    rcases hh with hh | hh
    · have := hm z hh; omega
    · have := hY z hh; omega
  · have := hm z hz; have := hY z hh; omega
set_option maxHeartbeats 2000000 in
theorem ref28Renew_c (h : RiAt w b x lo Y) {m s n point : Int} {key sid : List UInt8} {p : Option Addr} {l c : Nat} (hk : key.length = 16) (hR : Row w p (sid.map vb)) (hl : l = sid.length) (hlb : l ≤ 1000000) (hY : ∀ z, Y z → z < w.heap.size)
    (hbad : isE m s n key point l x.room ≠ 0 → ∀ w', Fr [] w w' → K (.int .i64 (isE m s n key point l x.room)) w')
    (hok : isE m s n key point l x.room = 0 → ∀ y w', Fr [b] w w' → RiAt w' b y lo Y → (∃ ps cs, y = ⟨m, s, n, key, point, x.room, sid, ps, cs, none, 0, [], none, 0, []⟩) → K (.int .i64 0) w') :
    callF Tryz.prog F_ref28_Issuer_Renew #[.pointer (some ⟨b, 0, none⟩), .agg ⟨cfgV m s n key⟩, .int .i64 point, .slice p l c] w K := by
  apply ref28_Issuer_Renew_call
  unfold ref28_Issuer_Renew
  refine newCfgR hk fun w1 f1 hC s1 => ?_
  refine ⟨fun w' => Fr [] w1 w', Drw.intro fun w2 f2 s2 => ⟨_, rfl, _, ⟨f2, fun w' hw' => (hC.fr0 hw').ldR hk⟩, _, (h.fr0 (f1.then f2)).rm, .inl rfl, ?_⟩⟩
  have f02 := f1.then f2
  have n02 := f02.size
  refine ref28New_c (Y := Y) hk (hR.fr0 f02) hl hlb (fun z hz => by have := hY z hz; omega) (fun he w3 f3 => ⟨_, _, rfl, ?_⟩) fun he b' y w3 f3 hY3 hy => ⟨_, _, rfl, ?_⟩
  · refine cond_ne (fun _ => hbad he w3 (f02.then f3)) fun hh => absurd hh he
  · have h3 := h.fr0 (f02.then f3)
    have hvl := RI.v_len hY3.o
    refine cond_f ⟨_, rfl, _, hY3.c.ld (by kernel_rfl) (by rw [hvl]; kernel_rfl), _, rfl, ?_⟩
    obtain ⟨g, hg⟩ := h3.c.blk
    rw [RI.v_len h.o] at hg
    refine stoC hg y.v hvl (RI.v_one y) (by kernel_rfl) fun w4 f4 hC4 s4 => ?_
    have hbl := h.c.lt
    have hlb0 := h.lo1 b (.inl rfl)
    obtain ⟨ps, cs, rfl⟩ := hy
    have hm : ∀ z, mutR b (⟨m, s, n, key, point, x.room, sid, ps, cs, none, 0, [], none, 0, []⟩ : RI) z → z = b := fun z hz => by
      rcases hz with hh | hh | hh
      · exact hh
      · simp [blks] at hh
      · simp [blks] at hh
    have hpb : ∀ z ∈ blks ps, w2.heap.size ≤ z := hY3.r.2.2
    refine hok he ⟨m, s, n, key, point, x.room, sid, ps, cs, none, 0, [], none, 0, []⟩ w4 (((f02.then f3).mono (l' := [b]) (by simp)).trans f4 fun z hz => .inl hz) ⟨hC4, (hY3.r.fr f4 fun z hz hm2 => by have := hpb z hz; simp at hm2; omega).mono (by omega), ⟨[], OwnS.nil _, Rws.nil _ _⟩, ⟨[], OwnS.nil _, Rws.nil _ _⟩, hY3.o, fun z hz => by rw [hm z hz]; exact hlb0, by simp [blks], by simp [blks], by simp [blks], fun z hz hh => ?_, fun z hz hh => ?_⟩ ⟨ps, cs, rfl⟩
    · have h1 := hpb z hz
      rcases hh with hh | hh
      · have := hm z hh; omega
      · have := hY z hh; omega
    · have e := hm z hz
      rw [e] at hh
      exact h.my b (.inl rfl) hh
end
end Go.Sh
end

section
namespace Go.Sh
open Go Go.Fw Go.Proofs
set_option maxRecDepth 100000
set_option linter.unusedVariables false
section
variable {w : World} {b lo : Nat} {x : RI} {Y : Nat → Prop} {K : Value → World → Prop}
theorem ref28Has_c {p p1 : Option Addr} {l c l1 c1 : Nat} {rs : List (List UInt8)} {r : List UInt8} (hR : RowB w p rs) (hl : l = rs.length) (hlb : l ≤ 1000000) (h1 : Row w p1 (r.map vb)) (hl1 : l1 = r.length) (hk : ∀ w', Fr [] w w' → K (.bool (decide (r ∈ rs))) w') :
    callF Tryz.prog F_ref28_has #[.slice p l c, .slice p1 l1 c1] w K := by
  apply ref28_has_call
  unfold ref28_has
  refine LoopS.ind (fun k us w' => ∃ i : Nat, i + k = l ∧ us = [.slice p l c, .slice p1 l1 c1, .bool false, .int .i64 (i : Int)] ∧ Fr [] w w' ∧ ∀ j, j < i → rs.getD j [] ≠ r) l ⟨0, by omega, rfl, Fr.refl _ _, by omega⟩ ?_
  rintro k us rr w2 I μ hgo ⟨i, hi, rfl, f2, hs⟩
  refine ⟨_, _, _, _, _, _, _, _, rfl, cond_d (fun h3 => ?_) fun h3 => ?_⟩
  · refine ⟨fun w' => Fr [] w2 w', Drw.intro fun w3 f3 s3 => ?_⟩
    have hil : i < l := by omega
    have f03 := f2.then f3
    have hR3 : RowB w3 p rs := by
      obtain ⟨vs, hv, hlv, hrv⟩ := hR
      exact ⟨vs, hv.fr f03 (by simp), hlv, fun j r hj => by obtain ⟨v, hv1, q, c, e, hc, hR⟩ := hrv j r hj; exact ⟨v, hv1, q, c, e, hc, hR.fr0 f03⟩⟩
    obtain ⟨a, q, d, ha, hca, hq, hd⟩ := rows_get (t := T_S_S_uint8) (by kernel_rfl) hR3 (c := c) hl hil (k := .i64)
    have hR2 : RowB w2 p rs := by
      obtain ⟨vs, hv, hlv, hrv⟩ := hR
      exact ⟨vs, hv.fr f2 (by simp), hlv, fun j r hj => by obtain ⟨v, hv1, q, c, e, hc, hR⟩ := hrv j r hj; exact ⟨v, hv1, q, c, e, hc, hR.fr0 f2⟩⟩
    obtain ⟨a2, q2, d2, ha2, hca2, _, _⟩ := rows_get (t := T_S_S_uint8) (by kernel_rfl) hR2 (c := c) hl hil (k := .i64)
    have haa : a2 = a := by have := ha2.symm.trans ha; simpa using this
    rw [haa] at hca2
    have hsame := hca.symm.trans (f3.cell hca2 (by simp))
    have hld : ∀ w', Fr [] w2 w' → w'.cell? a = some (.slice q (rs.getD i []).length d) := fun w' hw' => by
      have e1 : w2.cell? a = some (.slice q (rs.getD i []).length d) := by
        rw [hca2]; exact hsame.symm
      exact hw'.cell e1 (by simp)
    have hbody : ∀ w4 : World, ref28_has_j1 I μ [.slice p l c, .slice p1 l1 c1, .bool false, .int .i64 (i : Int)] w2 p l c p1 l1 c1 false (i : Int) (decide (rs.getD i [] = r)) w3 K := by
      intro _
      unfold ref28_has_j1
      refine cond_d (fun he => ?_) fun he => ?_
      · have hm : r ∈ rs := by
          rw [← he, List.getD_eq_getElem?_getD, List.getElem?_eq_getElem (by omega)]; exact List.getElem_mem _
        have := hk w3 f03
        rw [decide_eq_true hm] at this; exact this
      · rw [wrap64 (by omega) (by omega)]
        refine hgo _ _ _ (k - 1) (by omega) ⟨i + 1, by omega, rfl, f03, fun j hj => ?_⟩
        by_cases hji : j = i
        · rw [hji]; exact he
        · exact hs j (by omega)
    refine ⟨_, ha, _, _, _, ⟨f3, fun w' hw' => Ld.cell (by kernel_rfl) (hld w' hw')⟩, ?_, ?_⟩
    · refine ⟨_, _, Ef.toStr (by kernel_rfl) hq rfl, _, _, Ef.toStr (by kernel_rfl) (h1.fr0 f03) hl1, .inl rfl, _, _, Ef.strEq, ?_⟩
      rw [bstr_eq]; exact hbody w3
    · refine ⟨_, _, Ef.toStr (by kernel_rfl) (h1.fr0 f03) hl1, .inl rfl, _, _, Ef.toStr (by kernel_rfl) hq rfl, _, _, Ef.strEq, ?_⟩
      rw [bstr_eq]; exact hbody w3
  · have hn : r ∉ rs := fun hm => by
      obtain ⟨j, hj, he⟩ := List.getElem_of_mem hm
      refine hs j (by omega) ?_
      rw [List.getD_eq_getElem?_getD, List.getElem?_eq_getElem hj]; exact he
    have := hk w2 f2
    rw [decide_eq_false hn] at this; exact this
theorem ref28Mine_c (h : RiAt w b x lo Y) (hx : x.is.length ≤ 1000) {p1 : Option Addr} {l1 c1 : Nat} {id : List UInt8} (h1 : Row w p1 (id.map vb)) (hl1 : l1 = id.length) (hk : ∀ w', Fr [] w w' → K (.bool (decide (id ∈ x.is))) w') :
    callF Tryz.prog F_ref28_Issuer_Mine #[.pointer (some ⟨b, 0, none⟩), .slice p1 l1 c1] w K := by
  apply ref28_Issuer_Mine_call
  unfold ref28_Issuer_Mine
  obtain ⟨vs, hO, hW⟩ := h.a2
  exact ⟨_, rfl, _, _, _, h.il, ref28Has_c (hW.rowB hO.row) rfl (by omega) h1 hl1 fun w1 f1 => ⟨_, rfl, hk w1 f1⟩⟩
def rxE (x : RI) (random : List UInt8) : Int := if x.room ≤ x.is.length then 18 else if (random.length : Int) < x.n then 21 else 0
def rxN (x : RI) (random : List UInt8) : List UInt8 := nextN x.ns (random.take x.n.toNat)
def rxI (x : RI) (random : List UInt8) : List UInt8 := mkOut x.m x.s x.n x.key x.point x.sid (rxN x random)
theorem pushRow {p : Option Addr} {l c : Nat} {vs : List Value} (hO : OwnS w p l c vs) {q : Option Addr} {n d : Nat} (hl : l < 1000000) {K : Option Addr → Nat → Nat → World → Prop}
    (hk : ∀ p' c' w', Fr (blks p) w w' → OwnS w' p' (l + 1) c' (vs ++ [.slice q n d]) → (∀ z ∈ blks p', z ∈ blks p ∨ w.heap.size ≤ z) → K p' (l + 1) c' w') :
    ∃ q2 l2 d2 w1, Ef Tryz.prog (Instr.buildSlice T_S_S_uint8 1 #[(0, .slice q n d)]) w (.slice q2 l2 d2) w1 ∧ ∃ p' l' c' w2, Ef Tryz.prog (Builtin.append_ #[T_S_S_uint8, T_S_S_uint8] T_S_S_uint8 #[.slice p l c, .slice q2 l2 d2]) w1 (.slice p' l' c') w2 ∧ K p' l' c' w2 := by
  refine ⟨_, _, _, Ef.new (v := .slice (some ⟨w.heap.size, 0, none⟩) 1 1) (cs := ([.slice q n d] : List Value).toArray) (e := T_S_uint8) (by kernel_rfl) fun w1 f1 hB1 s1 => ?_⟩
  obtain ⟨p', c', w', he, hO', hf, hcase⟩ := Ef.append (P := Tryz.prog) (t := T_S_S_uint8) (ty := T_S_S_uint8) (by kernel_rfl) (hO.fr f1 (by simp)) (m := 1) (d := 1) hB1.rowL rfl (by simp; rfl) (by omega)
  refine ⟨_, _, _, _, he, hk p' c' w' (f1.after hf) hO' fun z hz => ?_⟩
  rcases hcase with ⟨rfl, _, _⟩ | ⟨rfl, _, h3⟩
  · exact .inl hz
  · simp only [blks, List.mem_singleton] at hz; right; omega
end
end Go.Sh
end

section
namespace Go.Sh
open Go Go.Fw Go.Proofs
set_option maxRecDepth 100000
set_option linter.unusedVariables false
section
variable {w : World} {b lo : Nat} {x : RI} {Y : Nat → Prop} {K : Value → World → Prop}
def mutL (b : Nat) (x : RI) : List Nat := b :: (blks x.pn ++ blks x.pi)
theorem mem_mutL {b : Nat} {x : RI} {z : Nat} : z ∈ mutL b x ↔ mutR b x z := by unfold mutL mutR; simp
def RI.add (x : RI) (N I : List UInt8) (p1 : Option Addr) (c1 : Nat) (p2 : Option Addr) (c2 : Nat) : RI := { x with pn := p1, cn := c1, ns := x.ns ++ [N], pi := p2, ci := c2, is := x.is ++ [I] }
set_option maxHeartbeats 4000000 in
theorem ref28Put_c {N I : List UInt8} {q q6 : Option Addr} {nn d d6 : Nat} (h : RiAt w b x lo Y) (hY : ∀ z, Y z → z < w.heap.size) {A : World} (fA : Fr [] w A) (hq : OB A q nn d N w.heap.size) (hq6 : OB A q6 I.length d6 I w.heap.size) (hns : x.ns.length ≤ 1000) (his : x.is.length ≤ 1000) (hIl : I.length ≤ 1000000)
    (hk : ∀ p1 c1 p2 c2 q8 d8 w', Fr (mutL b x) w w' → RiAt w' b (x.add N I p1 c1 p2 c2) lo Y → (∀ z, mutR b (x.add N I p1 c1 p2 c2) z → mutR b x z ∨ w.heap.size ≤ z) → OB w' q8 I.length d8 I w.heap.size → K (.tuple #[.slice q8 I.length d8, .int .i64 x.n, .int .i64 0]) w') :
    ∃ (a81 : Addr), (some ⟨b, 0, none⟩ : Option Addr) = some a81 ∧
    ∃ (p83 : Option Addr) (l83 : Nat) (c83 : Nat), Ld Tryz.prog T_S_S_uint8 (.pointer (some (a81.add 22))) A (.slice p83 l83 c83) ∧
    ∃ (p85 : Option Addr) (l85 : Nat) (c85 : Nat) (w3 : World), Ef Tryz.prog (Instr.buildSlice T_S_S_uint8 1 #[(0, .slice q nn d)]) A (.slice p85 l85 c85) w3 ∧
    ∃ (p86 : Option Addr) (l86 : Nat) (c86 : Nat) (w4 : World), Ef Tryz.prog (Builtin.append_ #[T_S_S_uint8, T_S_S_uint8] T_S_S_uint8 #[.slice p83 l83 c83, .slice p85 l85 c85]) w3 (.slice p86 l86 c86) w4 ∧
    ∃ (a87 : Addr), (some ⟨b, 0, none⟩ : Option Addr) = some a87 ∧
    ∃ (w5 : World), Sto Tryz.prog T_S_S_uint8 (.pointer (some (a87.add 22))) (.slice p86 l86 c86) w4 w5 ∧
    ∃ (a91 : Addr), (some ⟨b, 0, none⟩ : Option Addr) = some a91 ∧
    ∃ (p93 : Option Addr) (l93 : Nat) (c93 : Nat), Ld Tryz.prog T_S_S_uint8 (.pointer (some (a91.add 23))) w5 (.slice p93 l93 c93) ∧
    ∃ (p95 : Option Addr) (l95 : Nat) (c95 : Nat) (w6 : World), Ef Tryz.prog (Instr.buildSlice T_S_S_uint8 1 #[(0, .slice q6 I.length d6)]) w5 (.slice p95 l95 c95) w6 ∧
    ∃ (p96 : Option Addr) (l96 : Nat) (c96 : Nat) (w7 : World), Ef Tryz.prog (Builtin.append_ #[T_S_S_uint8, T_S_S_uint8] T_S_S_uint8 #[.slice p93 l93 c93, .slice p95 l95 c95]) w6 (.slice p96 l96 c96) w7 ∧
    ∃ (a97 : Addr), (some ⟨b, 0, none⟩ : Option Addr) = some a97 ∧
    ∃ (w8 : World), Sto Tryz.prog T_S_S_uint8 (.pointer (some (a97.add 23))) (.slice p96 l96 c96) w7 w8 ∧
    ∃ (S15 : World → Prop),
    Drw w8 fun w9 =>
    ∃ (a103 : Addr), (some ⟨b, 0, none⟩ : Option Addr) = some a103 ∧
    ∃ (n106 : Int), HLd Tryz.prog S15 T_int (.pointer (some ((a103.add 0).add 2))) w9 (.int .i64 n106) ∧
    ∃ (p99 : Option Addr) (l99 : Nat) (c99 : Nat) (w10 : World), Ef Tryz.prog (Instr.buildSlice T_S_uint8 0 #[]) w9 (.slice p99 l99 c99) w10 ∧
    (w10 = w9 ∨ S15 w10) ∧
    ∃ (p101 : Option Addr) (l101 : Nat) (c101 : Nat) (w11 : World), Ef Tryz.prog (Builtin.append_ #[T_S_uint8, T_S_uint8] T_S_uint8 #[.slice p99 l99 c99, .slice q6 I.length d6]) w10 (.slice p101 l101 c101) w11 ∧
    (w11 = w10 ∨ S15 w11) ∧
    K (.tuple #[.slice p101 l101 c101, .int .i64 n106, .int .i64 0]) w11 := by
  have hA := h.fr0 fA
  have nA := fA.size
  obtain ⟨v1, o1, r1⟩ := hA.a1
  obtain ⟨v2, o2, r2⟩ := hA.a2
  have hmw : ∀ z, mutR b x z → z < w.heap.size := fun z hz => h.mut_lt hz
  have hnl := hq.2.1
  refine ⟨_, rfl, _, _, _, hA.nl, pushRow o1 (by omega) fun p1 c1 B fB hB hp1 => ⟨_, rfl, ?_⟩⟩
  have hcB := hA.c.fr fB h.bn
  refine hcB.sto (j := 22) (by rw [RI.v_len h.o]; omega) (.slice p1 (x.ns.length + 1) c1) rfl rfl (by kernel_rfl) fun C fC hcC sC => ⟨_, rfl, ?_⟩
  have hp1b : b ∉ blks p1 := fun hm => by
    rcases hp1 b hm with hh | hh
    · exact h.bn hh
    · have := hmw b (.inl rfl); omega
  have hp1i : ∀ z ∈ blks p1, z ∉ blks x.pi := fun z hm hi => by
    rcases hp1 z hm with hh | hh
    · exact h.ni z hh hi
    · have := hmw z (.inr (.inr hi)); omega
  have o2C := (o2.fr fB fun z hz hm => h.ni z hm hz).fr fC fun z hz hm => h.bi (by simp at hm; rw [← hm]; exact hz)
  have o1C := hB.fr fC fun z hz hm => hp1b (by simp at hm; rw [← hm]; exact hz)
  refine ⟨_, _, _, hcC.get (by kernel_rfl) (j := 23) (by rw [List.getElem?_set_ne (by omega)]; exact RI.get h.o (j := 4) rfl), ?_⟩
  refine pushRow o2C (by omega) fun p2 c2 D fD hD hp2 => ⟨_, rfl, ?_⟩
  have nB := fB.size; have nC := fC.size; have nD := fD.size
  have hcD := hcC.fr fD h.bi
  have o1D := o1C.fr fD hp1i
  refine hcD.sto (j := 23) (by rw [List.length_set, RI.v_len h.o]; omega) (.slice p2 (x.is.length + 1) c2) rfl rfl (by kernel_rfl) fun E fE hcE sE => ?_
  have hp2b : b ∉ blks p2 := fun hm => by
    rcases hp2 b hm with hh | hh
    · exact h.bi hh
    · have := hmw b (.inl rfl); omega
  have hp12 : ∀ z ∈ blks p1, z ∉ blks p2 := fun z hm h2 => by
    rcases hp2 z h2 with hh | hh
    · exact hp1i z hm hh
    · have := o1C.lt z hm; omega
  have hset : (x.v.set 22 (.slice p1 (x.ns.length + 1) c1)).set 23 (.slice p2 (x.is.length + 1) c2) = (x.add N I p1 c1 p2 c2).v := by
    have hl : (cfgV x.m x.s x.n x.key).length = 19 := by rw [cfgV_len, h.o.k16]
    unfold RI.v RI.t RI.add
    rw [List.set_append_right _ _ (by omega), List.set_append_right _ _ (by omega), hl]
    simp
  rw [hset] at hcE
  have mm : ∀ z, mutR b (x.add N I p1 c1 p2 c2) z → mutR b x z ∨ A.heap.size ≤ z := fun z hz => by
    rcases hz with hh | hh | hh
    · exact .inl (.inl hh)
    · rcases hp1 z hh with h1 | h1
      · exact .inl (.inr (.inl h1))
      · exact .inr h1
    · rcases hp2 z hh with h1 | h1
      · exact .inl (.inr (.inr h1))
      · exact .inr (by omega)
  have ob1 := hB
  -- rows, over all four steps
  have rowsE : ∀ {vs : List Value} {rs : List (List UInt8)}, Rws A vs rs (fun z => mutR b x z ∨ Y z) → Rws E vs rs (fun z => mutR b (x.add N I p1 c1 p2 c2) z ∨ Y z) := by
    intro vs rs hr
    have h0 : Rws A vs rs (fun z => (mutR b x z ∨ Y z) ∨ (mutR b (x.add N I p1 c1 p2 c2) z ∨ Y z)) := hr.weak fun z hz hh => by
      rcases hh with hh | hh | hh
      · exact hh
      · rcases mm z hh with h1 | h1
        · exact .inl h1
        · omega
      · exact .inr hh
    have h1 := h0.fr fB fun z hz => .inl (.inl (.inl (.inr (.inl hz))))
    have h2 := h1.fr fC fun z hz => .inl (.inl (.inl (.inl (by simpa using hz))))
    have h3 := h2.fr fD fun z hz => .inl (.inl (.inl (.inr (.inr hz))))
    have h4 := h3.fr fE fun z hz => .inl (.inl (.inl (.inl (by simpa using hz))))
    exact h4.weak fun z _ hh => .inr hh
  have fresh : ∀ {p : Option Addr} {l c : Nat} {xs : List UInt8}, OB A p l c xs w.heap.size → ∀ z ∈ blks p, z < A.heap.size ∧ ¬ (mutR b x z ∨ Y z) := fun ho z hz => ⟨ho.lt z hz, fun hh => by
    have h1 := ho.2.2 z hz
    rcases hh with hh | hh
    · have := hmw z hh; omega
    · have := hY z hh; omega⟩
  have psE : OB E x.ps x.sid.length x.cs x.sid lo := by
    have ns1 : ∀ z ∈ blks x.ps, ¬ mutR b x z := fun z hz hh => h.sp z hz (.inl hh)
    exact (((hA.r.fr fB fun z hz hm => ns1 z hz (.inr (.inl hm))).fr fC fun z hz hm => ns1 z hz (.inl (by simpa using hm))).fr fD fun z hz hm => ns1 z hz (.inr (.inr hm))).fr fE fun z hz hm => ns1 z hz (.inl (by simpa using hm))
  have rowsN := rowsE (r1.push (q := q) (d := d) (r := N) (by have := hq.cap; omega) hq.row (fresh hq))
  have rowsI := rowsE (r2.push (q := q6) (d := d6) (r := I) hq6.cap hq6.row (fresh hq6))
  rw [hnl] at o1D
  have hE : RiAt E b (x.add N I p1 c1 p2 c2) lo Y := by
    refine ⟨hcE, psE, ⟨_, ?_, rowsN⟩, ⟨_, ?_, rowsI⟩, ⟨h.o.k16, h.o.ok, h.o.pt, h.o.sl, h.o.rm⟩, fun z hz => ?_, hp1b, hp2b, hp12, fun z hz hh => ?_, fun z hz hh => ?_⟩
    · have := o1D.fr fE fun z hz hm => hp1b (by simp at hm; rw [← hm]; exact hz)
      show OwnS E p1 (x.ns ++ [N]).length c1 _
      rw [List.length_append]; exact this
    · have := hD.fr fE fun z hz hm => hp2b (by simp at hm; rw [← hm]; exact hz)
      show OwnS E p2 (x.is ++ [I]).length c2 _
      rw [List.length_append]; exact this
    · rcases mm z hz with h1 | h1
      · exact h.lo1 z h1
      · have := h.lo1 b (.inl rfl); have := hmw b (.inl rfl); omega
    · have hz2 : z < w.heap.size := h.r.lt z hz
      rcases hh with hh | hh
      · rcases mm z hh with h1 | h1
        · exact h.sp z hz (.inl h1)
        · omega
      · exact h.sp z hz (.inr hh)
    · rcases mm z hz with h1 | h1
      · exact h.my z h1 hh
      · have := hY z hh; omega
  have q6E := (((hq6.fr fB fun z hz hm => (fresh hq6 z hz).2 (.inl (.inr (.inl hm)))).fr fC fun z hz hm => (fresh hq6 z hz).2 (.inl (.inl (by simpa using hm)))).fr fD fun z hz hm => (fresh hq6 z hz).2 (.inl (.inr (.inr hm)))).fr fE fun z hz hm => (fresh hq6 z hz).2 (.inl (.inl (by simpa using hm)))
  have fwE : Fr (mutL b x) w E := by
    have g1 : Fr (mutL b x) w B := (fA.mono (l' := mutL b x) (by simp)).trans fB fun z hz => .inl (mem_mutL.2 (.inr (.inl hz)))
    have g2 := g1.trans fC fun z hz => .inl (mem_mutL.2 (.inl (by simpa using hz)))
    have g3 := g2.trans fD fun z hz => .inl (mem_mutL.2 (.inr (.inr hz)))
    exact g3.trans fE fun z hz => .inl (mem_mutL.2 (.inl (by simpa using hz)))
  have nE := fwE.size
  refine ⟨fun w' => Fr [] E w', Drw.intro fun F fF sF => ⟨_, rfl, _, ⟨fF, fun w' hw' => (hE.fr0 hw').nn⟩, ?_⟩⟩
  refine mk0 fun q9 G fG hG sG => ⟨.inr (fF.then fG), ?_⟩
  have gEG := fF.then fG
  refine pushN (m := I.length) hG fG.size (q6E.fr0 gEG).row rfl (by omega) fun q10 d10 H fH hH => ?_
  have nG := gEG.size; have nF := fF.size
  have gEH : Fr [] E H := gEG.trans fH fun z hz => .inr (by have := hG.2.2 z hz; omega)
  refine ⟨.inr gEH, ?_⟩
  rw [List.nil_append, Nat.zero_add] at hH
  rw [Nat.zero_add]
  exact hk p1 c1 p2 c2 q10 d10 H (fwE.trans gEH fun z hz => by simp at hz) (hE.fr0 gEH) (fun z hz => by rcases mm z hz with h1 | h1; exact .inl h1; exact .inr (by omega)) (hH.mono (by omega))
set_option maxHeartbeats 4000000 in
theorem ref28Next_c (h : RiAt w b x lo Y) (hY : ∀ z, Y z → z < w.heap.size) (hkl : x.ns.length < 256) (his : x.is.length = x.ns.length) {p1 : Option Addr} {l1 c1 : Nat} {random : List UInt8} (h1 : Row w p1 (random.map vb)) (hl1 : l1 = random.length) (hc1 : l1 ≤ c1)
    (hbad : rxE x random ≠ 0 → ∀ w', Fr [] w w' → K (.tuple #[.slice none 0 0, .int .i64 0, .int .i64 (rxE x random)]) w')
    (hok : rxE x random = 0 → ∀ p1 c1 p2 c2 q8 d8 w', Fr (mutL b x) w w' → RiAt w' b (x.add (rxN x random) (rxI x random) p1 c1 p2 c2) lo Y → (∀ z, mutR b (x.add (rxN x random) (rxI x random) p1 c1 p2 c2) z → mutR b x z ∨ w.heap.size ≤ z) → OB w' q8 (rxI x random).length d8 (rxI x random) w.heap.size → K (.tuple #[.slice q8 (rxI x random).length d8, .int .i64 x.n, .int .i64 0]) w') :
    callF Tryz.prog F_ref28_Issuer_Next #[.pointer (some ⟨b, 0, none⟩), .slice p1 l1 c1] w K := by
  apply ref28_Issuer_Next_call
  unfold ref28_Issuer_Next
  refine ⟨fun w' => Fr [] w w', Drw.intro fun w1 f1 s1 => ⟨_, rfl, _, rfl, _, _, _, ⟨f1, fun w' hw' => (h.fr0 hw').il⟩, _, (h.fr0 f1).rm, .inl rfl, ?_⟩⟩
  have ho := h.o.ok
  unfold okC at ho
  refine cond_d (fun hh => ?_) fun hroom => ?_
  · have e : rxE x random = 18 := by unfold rxE; rw [if_pos (by omega)]
    rw [e] at hbad
    exact hbad (by omega) w1 f1
  refine ⟨_, rfl, _, (h.fr0 f1).nn, cond_d (fun hh => ?_) fun hrand => ?_⟩
  · have e : rxE x random = 21 := by unfold rxE; rw [if_neg (by omega), if_pos (by omega)]
    rw [e] at hbad
    exact hbad (by omega) w1 f1
  have e : rxE x random = 0 := by unfold rxE; rw [if_neg (by omega), if_neg (by omega)]
  have hok := hok e
  obtain ⟨nn, hnn⟩ : ∃ nn : Nat, x.n = (nn : Int) := Int.eq_ofNat_of_zero_le (by omega)
  have hnt : x.n.toNat = nn := by omega
  have en : (Value.int .i64 x.n) = .int .i64 (nn : Int) := by rw [hnn]
  refine mk0 fun q2 w2 f2 hO2 s2 => ⟨_, rfl, _, (h.fr0 (f1.then f2)).nn, ?_⟩
  have f02 := f1.then f2
  rw [en]
  refine slTo (h1.fr0 f02) hl1 (n := nn) (by omega) hc1 fun q3 d3 hq3 hl3 hd3 _ => ?_
  have n1 := f1.size
  refine pushN (m := nn) hO2 f2.size hq3 hl3 (by omega) fun q d w3 f3 hO3 => ?_
  have f03 : Fr [] w w3 := f02.trans f3 fun z hz => .inr (by have := hO2.2.2 z hz; omega)
  rw [List.nil_append, Nat.zero_add] at hO3
  rw [Nat.zero_add]
  obtain ⟨N, hN⟩ : ∃ N, N = rxN x random := ⟨_, rfl⟩
  have hN' : freeN x.ns.length x.ns (random.take nn) = N := by rw [hN]; unfold rxN nextN; rw [hnt]
  obtain ⟨n0, hn0⟩ : ∃ n0, n0 = random.take nn := ⟨_, rfl⟩
  rw [← hn0] at hO3 hN'
  have hn0l : n0.length = nn := by have := hO3.2.1; omega
  have hNl : N.length = nn := by rw [← hN', freeN_len, hn0l]
  have hmk : okMk x.m x.s x.n x.key x.point x.sid.length N.length := ⟨h.o.pt.1, h.o.pt.2, h.o.sl, by omega⟩
  have hmkE : mkE x.m x.s x.n x.key x.point x.sid N = 0 := by unfold mkE; rw [if_pos h.o.ok, if_pos hmk]
  have hIlen := (mkBk h.o.k16 h.o.ok hmk).2.2.2.2.1
  unfold rxI at hok
  rw [← hN] at hok
  refine LoopS.ind (fun k us w' => ∃ (j : Nat) (cur : List UInt8), j + k = x.ns.length ∧ us = [.pointer (some ⟨b, 0, none⟩), .slice none 0 0, .int .i64 0, .int .i64 0, .slice q nn d] ∧ OB w' q nn d cur w1.heap.size ∧ (∀ i, i < j → upN i n0 ∈ x.ns) ∧ cur = upN j n0 ∧ freeN k x.ns cur = N ∧ Fr [] w w') x.ns.length
    ⟨0, n0, by omega, rfl, hO3, fun i hi => by omega, rfl, hN', f03⟩ ?_
  rintro k us rr w4 I μ hgo ⟨j, cur, hjk, rfl, hO4, hin, hcur, hfree, f04⟩
  refine ⟨_, _, _, _, _, _, _, _, _, rfl, _, rfl, _, _, _, (h.fr0 f04).nl, ?_⟩
  obtain ⟨vs, hvO, hvW⟩ := (h.fr0 f04).a1
  have hcl : cur.length = nn := by have := hO4.2.1; omega
  refine ref28Has_c (hvW.rowB hvO.row) rfl (by omega) hO4.row hO4.2.1 fun w5 f5 => ⟨_, rfl, ?_⟩
  have f05 := f04.then f5
  have hO5 := hO4.fr0 f5
  refine cond_d (fun hm => ?_) fun hm => ?_
  · have hfew := upN_few (xs := n0) (ks := x.ns) (by omega) (j := j + 1) (by omega) fun i hi => by
      by_cases hij : i < j
      · exact hin i hij
      · have : i = j := by omega
        rw [this, ← hcur]; exact hm
    obtain ⟨k', hk'⟩ : ∃ k', k = k' + 1 := ⟨k - 1, by omega⟩
    subst hk'
    unfold freeN at hfree
    rw [if_pos hm] at hfree
    have go : ∀ w6, Fr [] w w6 → OB w6 q nn d (upL cur) w1.heap.size → goesOn [] [] I μ [.pointer (some ⟨b, 0, none⟩), .slice none 0 0, .int .i64 0, .int .i64 0, .slice q nn d] [.pointer (some ⟨b, 0, none⟩), .slice none 0 0, .int .i64 0, .int .i64 0, .slice q nn d] w4 w6 := by
      intro w6 f06 hO6
      refine hgo _ _ _ k' (by omega) ⟨j + 1, upL cur, by omega, rfl, hO6, fun i hi => ?_, by rw [hcur]; rfl, hfree, f06⟩
      by_cases hij : i < j
      · exact hin i hij
      · have : i = j := by omega
        rw [this, ← hcur]; exact hm
    refine LoopS.ind (fun k2 us w' => ∃ ys, k2 ≤ nn ∧ us = [.pointer (some ⟨b, 0, none⟩), .slice none 0 0, .int .i64 0, .int .i64 0, .slice q nn d, .int .i64 ((k2 : Int) - 1)] ∧ OB w' q nn d ys w1.heap.size ∧ upF k2 ys = upL cur ∧ Fr [] w w') nn
      ⟨cur, Nat.le_refl _, by rw [wrap64 (by omega) (by omega)], hO5, by unfold upL; rw [hcl], f05⟩ ?_
    rintro k2 us2 rr2 w6 I2 μ2 hgo2 ⟨ys, hk2, rfl, hO6, hup, f06⟩
    refine ⟨_, _, _, _, _, _, _, _, _, _, rfl, cond_d (fun hge => ?_) fun hlt => ?_⟩
    · obtain ⟨jj, hjj⟩ : ∃ jj, k2 = jj + 1 := ⟨k2 - 1, by omega⟩
      subst hjj
      have ej : (((jj + 1 : Nat) : Int) - 1) = ((jj : Nat) : Int) := by omega
      rw [ej] at hgo2 ⊢
      obtain ⟨a, ha, hca⟩ := hO6.get (k := .i64) (i := jj) (by omega)
      refine ⟨_, ha, _, Ld.cell (by kernel_rfl) hca, ?_⟩
      rw [incB (fl ys jj)]
      refine hO6.sto (i := jj) (by omega) fun w7 f7 hO7 s7 => ?_
      have hyl : ys.length = nn := by have := hO6.2.1; omega
      obtain ⟨a3, ha3, hca3⟩ := hO7.get (k := .i64) (i := jj) (by omega)
      have e3 : fl (ys.set jj (fl ys jj + 1)) jj = fl ys jj + 1 := fl_set_eq (by omega)
      rw [e3] at hca3
      refine ⟨_, ha3, _, Ld.cell (by kernel_rfl) hca3, ?_⟩
      have f07 : Fr [] w w7 := f06.trans f7 fun z hz => .inr (by have := hO6.2.2 z hz; omega)
      have n1e : ∀ {x : UInt8}, (((x.toNat : Nat) : Int) = 0) ↔ x = 0 := fun {x} => ⟨fun hh => UInt8.toNat_inj.1 (by rw [UInt8.toNat_zero]; omega), fun hh => by rw [hh]; rfl⟩
      refine cond_ne (fun hne => ?_) fun he => ?_
      · have hy : fl ys jj + 1 ≠ 0 := fun hh => hne (n1e.2 hh)
        unfold upF at hup
        rw [if_pos hy] at hup
        exact go w7 f07 (by rw [← hup]; exact hO7)
      · have hy : fl ys jj + 1 = 0 := n1e.1 he
        unfold upF at hup
        rw [if_neg (fun hh => hh hy)] at hup
        rw [wrap64 (by omega) (by omega)]
        exact hgo2 _ _ _ jj (by omega) ⟨_, by omega, rfl, hO7, hup, f07⟩
    · have hk0 : k2 = 0 := by omega
      subst hk0
      exact go w6 f06 (by rw [← hup]; exact hO6)
  · rw [freeN_not hm] at hfree
    subst hfree
    unfold ref28_Issuer_Next_j1
    have h5 := h.fr0 f05
    refine ⟨fun w' => Fr [] w5 w', Drw.intro fun w6 f6 s6 => ⟨_, rfl, _, rfl, _, rfl, _, ⟨f6, fun w' hw' => (h5.fr0 hw').cfg0⟩, _, ⟨f6, fun w' hw' => (h5.fr0 hw').pt⟩, _, _, _, (h5.fr0 f6).sd, .inl rfl, ?_⟩⟩
    have f06 := f05.then f6
    have hO6 := hO5.fr0 f6
    refine refMake_c h.o.k16 (h.fr0 f06).r.row rfl hO6.row hO6.2.1 fun q7 d7 w7 f7 hO7 => ⟨_, _, _, _, rfl, ?_⟩
    rw [hmkE]
    have n6 := f06.size
    exact ref28Put_c h hY (f06.then f7) ((hO6.fr0 f7).mono (by omega)) (hO7.mono n6) (by omega) (by omega) (by omega) fun p1 c1 p2 c2 q8 d8 w' f' hR' hm' hO' => hok p1 c1 p2 c2 q8 d8 w' f' hR' hm' hO'
end
end Go.Sh
end

section
namespace Go.Sh
open Go Go.Fw Go.Proofs
set_option maxRecDepth 100000
set_option linter.unusedVariables false
structure IC where
  op : Int
  pt : Int
  m : Int
  s : Int
  n : Int
  key : List UInt8
  hk : key.length = 16
  sp : Option Addr
  sid : List UInt8
  sc : Nat
  rp : Option Addr
  rnd : List UInt8
  rc : Nat
def IC.v (x : IC) : List Value := .int .i64 x.op :: .int .i64 x.pt :: (cfgV x.m x.s x.n x.key ++ [.slice x.sp x.sid.length x.sc, .slice x.rp x.rnd.length x.rc])
theorem IC.v_len (x : IC) : x.v.length = 23 := by unfold IC.v; simp [cfgV_len, x.hk]
theorem IC.v_one (x : IC) : x.v.all (·.oneCell') = true := by
  rw [List.all_eq_true]
  intro u hu
  unfold IC.v at hu
  simp only [List.mem_cons, List.mem_append, List.not_mem_nil, or_false] at hu
  rcases hu with rfl | rfl | hh | rfl | rfl
  · rfl
  · rfl
  · exact cfgV_one _ _ _ _ u hh
  · rfl
  · rfl
theorem IC.v21 (x : IC) : x.v[21]? = some (.slice x.sp x.sid.length x.sc) := by
  unfold IC.v
  have hl : (cfgV x.m x.s x.n x.key).length = 19 := by rw [cfgV_len, x.hk]
  show (cfgV x.m x.s x.n x.key ++ _)[19]? = _
  rw [List.getElem?_append_right (by omega), hl]; rfl
theorem IC.v22 (x : IC) : x.v[22]? = some (.slice x.rp x.rnd.length x.rc) := by
  unfold IC.v
  have hl : (cfgV x.m x.s x.n x.key).length = 19 := by rw [cfgV_len, x.hk]
  show (cfgV x.m x.s x.n x.key ++ _)[20]? = _
  rw [List.getElem?_append_right (by omega), hl]; rfl
structure IC.ok (w : World) (x : IC) : Prop where
  r1 : Row w x.sp (x.sid.map vb)
  h1 : x.sid.length ≤ x.sc
  r2 : Row w x.rp (x.rnd.map vb)
  h2 : x.rnd.length ≤ x.rc
theorem IC.ok.fr0 {w w' : World} {x : IC} (h : IC.ok w x) (f : Fr [] w w') : IC.ok w' x := ⟨h.r1.fr0 f, h.h1, h.r2.fr0 f, h.h2⟩
theorem icall_of {w : World} {vs : List Value} (h : DecL w [.int .i64, .int .i64, .int .i64, .int .i64, .int .i64, .arr8 16, .bytes, .bytes] vs) : ∃ x : IC, IC.ok w x ∧ vs = x.v := by
  obtain ⟨a1, r1, e1, ⟨op, rfl, _⟩, a2, r2, e2, ⟨pt, rfl, _⟩, a3, r3, e3, ⟨m, rfl, _⟩, a4, r4, e4, ⟨s, rfl, _⟩, a5, r5, e5, ⟨n, rfl, _⟩, a6, r6, e6, ⟨key, hk, rfl⟩, a7, r7, e7, ⟨q1, xs1, c1, rfl, hc1, _, hR1⟩, a8, r8, e8, ⟨q2, xs2, c2, rfl, hc2, _, hR2⟩, rfl⟩ := h
  refine ⟨⟨op, pt, m, s, n, key, hk, q1, xs1, c1, q2, xs2, c2⟩, ⟨hR1, hc1, hR2, hc2⟩, ?_⟩
  rw [e1, e2, e3, e4, e5, e6, e7, e8]
  simp [IC.v, cfgV]
theorem icalls_of {w : World} : ∀ (vss : List (List Value)), (∀ vs ∈ vss, vs.length = 23 ∧ DecL w [.int .i64, .int .i64, .int .i64, .int .i64, .int .i64, .arr8 16, .bytes, .bytes] vs) → ∃ cs : List IC, (∀ x ∈ cs, IC.ok w x) ∧ cs.length = vss.length ∧ vss.flatten = cs.flatMap IC.v := by
  intro vss
  induction vss with
  | nil => intro _; exact ⟨[], by simp, rfl, rfl⟩
  | cons vs l ih =>
    intro h
    obtain ⟨cs, h1, h2, h3⟩ := ih fun y hy => h y (List.mem_cons_of_mem _ hy)
    obtain ⟨x, hx, he⟩ := icall_of (h vs (List.mem_cons_self ..)).2
    refine ⟨x :: cs, fun y hy => ?_, by simp [h2], by rw [List.flatten_cons, h3, he]; simp⟩
    rcases List.mem_cons.1 hy with rfl | hy
    · exact hx
    · exact h1 y hy
section
variable {w : World} {K : Value → World → Prop}
theorem CAt.ldAt {t : TypeId} {k o : Nat} {cs ds : List Value} (h : CAt w k cs) (hl : o + ds.length ≤ cs.length) (hd : ∀ j v, ds[j]? = some v → cs[o + j]? = some v) (ht : res Tryz.prog (isAgg t) = some true) (hs : res Tryz.prog (sizeOf t) = some ds.length) : Ld Tryz.prog t (.pointer (some ((⟨k, 0, none⟩ : Addr).add o))) w (.agg ⟨ds⟩) := by
  obtain ⟨g, hB, hv⟩ := h
  rw [add_mk, Nat.zero_add]
  exact LdA (m := ds.length) ht hs hB (o := o) hl ds rfl fun j v hj => hv (o + j) v (hd j v hj)
theorem IC.cfgLd {k : Nat} {x : IC} (h : CAt w k x.v) : Ld Tryz.prog T_mode_Config (.pointer (some ((⟨k, 0, none⟩ : Addr).add 2))) w (.agg ⟨cfgV x.m x.s x.n x.key⟩) := by
  have hl : (cfgV x.m x.s x.n x.key).length = 19 := by rw [cfgV_len, x.hk]
  refine h.ldAt (by rw [x.v_len, hl]; omega) (fun j v hj => ?_) (by kernel_rfl) (by rw [hl]; kernel_rfl)
  have hlt := (List.getElem?_eq_some_iff.1 hj).1
  unfold IC.v
  rw [Nat.add_comm]
  show (cfgV x.m x.s x.n x.key ++ _)[j]? = _
  rw [List.getElem?_append_left hlt]; exact hj
theorem icallAt {p0 : Option Addr} {l0 c0 i : Nat} {cs : List IC} (h0 : Row w p0 (cs.flatMap IC.v)) (hl0 : l0 = cs.length) (hi : i < l0) :
    ∃ x g o, cs[i]? = some x ∧ x ∈ cs ∧ IxA Tryz.prog T_S_law28_Call (.slice p0 l0 c0) (.int .i64 (i : Int)) ⟨g, o, none⟩ ∧ Ld Tryz.prog T_law28_Call (.pointer (some ⟨g, o, none⟩)) w (.agg ⟨x.v⟩) ∧ Ld Tryz.prog T_S_uint8 (.pointer (some ((⟨g, o, none⟩ : Addr).add 21))) w (.slice x.sp x.sid.length x.sc) ∧ Ld Tryz.prog T_S_uint8 (.pointer (some ((⟨g, o, none⟩ : Addr).add 22))) w (.slice x.rp x.rnd.length x.rc) := by
  obtain ⟨x, hx⟩ : ∃ x, cs[i]? = some x := ⟨_, List.getElem?_eq_getElem (by omega)⟩
  obtain ⟨g, o, ha, _, hc⟩ := h0.cellAt (P := Tryz.prog) (t := T_S_law28_Call) (s := 23) (by kernel_rfl) (k := .i64) (l := l0) (c := c0) (i := i) (by rw [fm_len IC.v_len, hl0]) (by omega) (by omega)
  have hc' : ∀ j v, x.v[j]? = some v → w.cell? ⟨g, o + j, none⟩ = some v := fun j v hj => by
    have hlt := (List.getElem?_eq_some_iff.1 hj).1
    exact hc j v (by rw [IC.v_len] at hlt; omega) (fm_get IC.v_len hx hj)
  exact ⟨x, g, o, hx, List.mem_of_getElem? hx, ha, Ld.agg (n := 23) (cs := x.v) (by kernel_rfl) (by kernel_rfl) x.v_len (fun j v hj => by rw [add_mk]; exact hc' j v hj), by rw [add_mk]; exact Ld.cell (by kernel_rfl) (hc' 21 _ x.v21), by rw [add_mk]; exact Ld.cell (by kernel_rfl) (hc' 22 _ x.v22)⟩
def fewI (cs : List IC) : Prop := cs.length ≤ 60 ∧ ∀ x ∈ cs, x.sid.length ≤ 100 ∧ x.rnd.length ≤ 100
theorem great28_c {p0 : Option Addr} {l0 c0 : Nat} {cs : List IC} (h0 : Row w p0 (cs.flatMap IC.v)) (hl0 : l0 = cs.length) (hy : K (.bool true) w) (hn : fewI cs → K (.bool false) w) : callF Tryz.prog F_law28_great #[.slice p0 l0 c0] w K := by
  apply law28_great_call
  unfold law28_great
  refine cond_d (fun _ => hy) fun g0 => ?_
  refine LoopS.ind (fun k us w' => w' = w ∧ ∃ i : Nat, i + k = l0 ∧ us = [.slice p0 l0 c0, .bool false, .int .i64 (i : Int)] ∧ ∀ j, j < i → ∀ x, cs[j]? = some x → x.sid.length ≤ 100 ∧ x.rnd.length ≤ 100) l0 ⟨rfl, 0, by omega, rfl, by omega⟩ ?_
  rintro k us rr w2 I μ hgo ⟨rfl, i, hi, rfl, hs⟩
  refine ⟨_, _, _, _, _, rfl, cond_d (fun h3 => ?_) fun h3 => ?_⟩
  · obtain ⟨x, g, o, hx, hm, ha, hld, h21, h22⟩ := icallAt (c0 := c0) h0 hl0 (i := i) (by omega)
    refine ⟨_, ha, _, _, _, h21, cond_d (fun _ => hy) fun h4 => ⟨_, ha, _, _, _, h22, cond_d (fun _ => hy) fun h5 => ?_⟩⟩
    rw [wrap64 (by omega) (by omega)]
    refine hgo _ _ _ (k - 1) (by omega) ⟨rfl, i + 1, by omega, rfl, fun j hj y hy' => ?_⟩
    by_cases hji : j = i
    · subst hji; rw [hx] at hy'; cases hy'; omega
    · exact hs j (by omega) y hy'
  · refine hn ⟨by omega, fun x hx => ?_⟩
    obtain ⟨j, hj, rfl⟩ := List.getElem_of_mem hx
    exact hs j (by omega) _ (List.getElem?_eq_getElem hj)
def Yx (b : Nat) (X : IS) (z : Nat) : Prop := z = b ∨ z = X.mb ∨ z ∈ blks X.ps
structure Rel28 (w : World) (bx : Nat) (X : IS) (br : Nat) (R : RI) (lo : Nat) : Prop where
  x : IsAt w bx X lo
  r : RiAt w br R lo (Yx bx X)
  em : R.m = X.m
  es : R.s = X.s
  en : R.n = X.n
  ek : R.key = X.key
  ep : R.point = X.point
  er : R.room = X.room
  ed : R.sid = X.sid
  eN : R.ns = X.ks
  eI : R.is = X.ks.map fun N => mkOut X.m X.s X.n X.key X.point X.sid N
  hl : ∀ N ∈ X.ks, (N.length : Int) = X.n
theorem Rel28.fr0 {w w' : World} {bx br lo : Nat} {X : IS} {R : RI} (h : Rel28 w bx X br R lo) (f : Fr [] w w') : Rel28 w' bx X br R lo := ⟨h.x.fr0 f, h.r.fr0 f, h.em, h.es, h.en, h.ek, h.ep, h.er, h.ed, h.eN, h.eI, h.hl⟩
theorem Yx_lt {b lo : Nat} {X : IS} (h : IsAt w b X lo) {z : Nat} (hz : Yx b X z) : z < w.heap.size := by
  rcases hz with hh | hh | hh
  · rw [hh]; exact h.c.lt
  · rw [hh]; exact h.mp.lt
  · exact h.r.lt z hh
set_option maxHeartbeats 8000000 in
theorem Do28_c {bx br lo : Nat} {X : IS} {R : RI} {c : IC} (h : Rel28 w bx X br R lo) (hkl : X.ks.length < 200) (hc : IC.ok w c) (h100 : c.sid.length ≤ 100 ∧ c.rnd.length ≤ 100) (hs1 : 0 < c.sid.length → ∀ z ∈ blks c.sp, z < lo) (hs2 : 0 < c.rnd.length → ∀ z ∈ blks c.rp, z < lo)
    (hk : ∀ w' X' R', FrA lo w w' → Rel28 w' bx X' br R' lo → X'.ks.length ≤ X.ks.length + 1 → K (.bool true) w') : callF Tryz.prog F_law28_Do #[.pointer (some ⟨bx, 0, none⟩), .pointer (some ⟨br, 0, none⟩), .agg ⟨c.v⟩] w K := by
  apply law28_Do_call
  unfold law28_Do
  refine newC (t := T_law28_Call) c.v fun w1 f1 hC1 s1 => ?_
  obtain ⟨k5, hk5⟩ : ∃ k, k = w.heap.size := ⟨_, rfl⟩
  rw [← hk5] at hC1 ⊢
  have hX0 := h.x; have hR0 := h.r
  have hbx := hX0.c.lt; have hmb := hX0.mp.lt
  have hm0 := hX0.m0; have hb0 := hX0.b0
  have hYlt : ∀ z, Yx bx X z → z < w.heap.size := fun z hz => Yx_lt hX0 hz
  have hmut : ∀ z, mutR br R z → z < w.heap.size := fun z hz => hR0.mut_lt hz
  have row2 : ∀ {w'}, FrA lo w w' → Row w' c.rp (c.rnd.map vb) := fun ff => ff.row hc.r2 hs2
  have row1 : ∀ {w'}, FrA lo w w' → Row w' c.sp (c.sid.map vb) := fun ff => ff.row hc.r1 hs1
  refine ⟨_, hC1.get (by kernel_rfl) (j := 0) rfl, cond_eq (fun h0 => ?_) fun h0 => cond_eq (fun h1 => ?_) fun h1 => ?_⟩
  · -- Next
    refine ⟨_, _, _, hC1.get (by kernel_rfl) (j := 22) c.v22, CopyOB_c (hc.r2.fr0 f1) rfl (by omega) fun q2 d2 w2 f2 hO2 => ⟨_, _, _, rfl, ?_⟩⟩
    have f02 := f1.then f2
    have n1 := f1.size; have n02 := f02.size
    have eE : rxE R c.rnd = nxE X c.rnd := by unfold rxE nxE; rw [h.er, h.en, h.eI, List.length_map]
    have eNn : rxN R c.rnd = nxN X c.rnd := by unfold rxN nxN; rw [h.en, h.eN]
    have eII : rxI R c.rnd = nxI X c.rnd := by unfold rxI nxI; rw [eNn, h.em, h.es, h.en, h.ek, h.ep, h.ed]
    have hRns : R.ns.length < 256 := by rw [h.eN]; omega
    have hRis : R.is.length = R.ns.length := by rw [h.eI, h.eN, List.length_map]
    refine issNext_c (hX0.fr0 f02) (by omega) hO2.row rfl hO2.cap (fun hbad w3 f3 => ⟨_, _, _, _, _, rfl, ?_⟩) fun hok qa da w3 f3 hX3 ha3 => ⟨_, _, _, _, _, rfl, ?_⟩
    · have f03 := f02.then f3
      have hbadR : rxE R c.rnd ≠ 0 := by rw [eE]; exact hbad
      refine ⟨_, _, _, (hC1.fr0 (f2.then f3)).get (by kernel_rfl) (j := 22) c.v22, ?_⟩
      refine ref28Next_c (hR0.fr0 f03) (fun z hz => by have := hYlt z hz; have := f03.size; omega) hRns hRis (row2 (FrA.of0 f03)) rfl hc.h2 (fun _ w4 f4 => ⟨_, _, _, _, _, rfl, ?_⟩) fun hh => absurd hh hbadR
      rw [eE]
      have f04 := f03.then f4
      refine SameBytes_c (.inl rfl) rfl (.inl rfl) rfl (by simp) (xs := []) (ys := []) fun w5 f5 => ⟨_, rfl, ?_⟩
      rw [decide_eq_true rfl]
      refine cond_t (cond_t ?_)
      have e : (nxE X c.rnd == nxE X c.rnd) = true := by simp
      rw [e]
      exact hk w5 X R (FrA.of0 (f04.then f5)) (h.fr0 (f04.then f5)) (by omega)
    · have hok2 : rxE R c.rnd = 0 := by rw [eE]; exact hok
      have fa3 : FrA lo w w3 := (FrA.of0 f02).trans (FrA.of f3 fun z hz => (show z = X.mb by simpa using hz) ▸ hm0)
      have hC3 := (hC1.fr0 f2).fr f3 (by simp; omega)
      refine ⟨_, _, _, hC3.get (by kernel_rfl) (j := 22) c.v22, ?_⟩
      have hR3 : RiAt w3 br R lo (Yx bx X) := (hR0.fr0 f02).fr f3 fun z hz => .inl (.inr (.inl (by simpa using hz)))
      have n3 := f3.size
      refine ref28Next_c hR3 (fun z hz => by have := hYlt z hz; omega) hRns hRis (row2 fa3) rfl hc.h2 (fun hh => absurd hok2 hh) fun _ p1 c1 p2 c2 q8 d8 w4 f4 hR4 hm4 hO4 => ⟨_, _, _, _, _, rfl, ?_⟩
      have hX4 : IsAt w4 bx (nxS X c.rnd) lo := hX3.fr f4 fun z hz => by
        have hz := mem_mutL.1 hz
        have hny := hR3.my z hz
        exact ⟨fun hh => hny (.inl hh), fun hh => hny (.inr (.inl hh)), fun hh => hny (.inr (.inr hh))⟩
      have ha4 := ha3.fr f4 fun z hz hm => by
        have h1 := ha3.2.2 z hz
        have h2 := hmut z (mem_mutL.1 hm)
        omega
      rw [eII] at hO4
      rw [eII]
      have fa4 : FrA lo w w4 := fa3.trans (FrA.of f4 fun z hz => hR0.lo1 z (mem_mutL.1 hz))
      have hNl := nxN_len hX0.o hok
      have hIl := (mkBk hX0.o.k16 hX0.o.ok (okMkI hX0.o hNl)).2.2.2.2.1
      have hox := hX0.o.ok
      unfold okC at hox
      refine SameBytes_c ha4.row rfl hO4.row rfl (by unfold nxI; omega) fun w5 f5 => ⟨_, rfl, ?_⟩
      rw [decide_eq_true rfl, h.en]
      have e : (X.n == X.n) = true := by simp
      rw [e]
      refine cond_t (cond_t ?_)
      refine hk w5 (nxS X c.rnd) _ (fa4.trans (FrA.of0 f5)) ⟨hX4.fr0 f5, hR4.fr0 f5, h.em, h.es, h.en, h.ek, h.ep, h.er, h.ed, ?_, ?_, fun N hN => ?_⟩ (by unfold nxS; simp)
      · show R.ns ++ [rxN R c.rnd] = X.ks ++ [nxN X c.rnd]
        rw [h.eN, eNn]
      · show R.is ++ [rxI R c.rnd] = (X.ks ++ [nxN X c.rnd]).map _
        rw [eII, h.eI, List.map_append]; rfl
      · have hN : N ∈ X.ks ++ [nxN X c.rnd] := hN
        rcases List.mem_append.1 hN with hh | hh
        · exact h.hl N hh
        · rw [List.mem_singleton.1 hh]; exact hNl
  · -- Renew
    refine ⟨fun w' => CAt w' k5 c.v, Drw.intro fun w2 f2 s2 => ?_⟩
    have hC2 := hC1.fr0 f2
    refine ⟨_, ⟨hC2, fun w' hw' => IC.cfgLd hw'⟩, _, ⟨hC2, fun w' hw' => hw'.get (by kernel_rfl) (j := 1) rfl⟩, _, _, _, ⟨hC2, fun w' hw' => hw'.get (by kernel_rfl) (j := 21) c.v21⟩, _, ⟨hC2, fun w' hw' => IC.cfgLd hw'⟩, _, ⟨hC2, fun w' hw' => hw'.get (by kernel_rfl) (j := 1) rfl⟩, _, _, _, ⟨hC2, fun w' hw' => hw'.get (by kernel_rfl) (j := 21) c.v21⟩, ?_⟩
    have f02 := f1.then f2
    refine CopyOB_c (hc.r1.fr0 f02) rfl (by omega) fun q3 d3 w3 f3 hO3 => ⟨_, _, _, rfl, .inr (hC2.fr0 f3), ?_⟩
    have f03 := f02.then f3
    have n03 := f03.size
    have n1 := f1.size
    refine issRenew_c (hX0.fr0 f03) c.hk hO3.row rfl (by omega) (fun hbad w4 f4 => ⟨_, rfl, .inr ((hC2.fr0 f3).fr0 f4), ?_⟩) fun hok y w4 f4 hY4 hy hyn => ⟨_, rfl, .inr ((hC2.fr0 f3).fr f4 (by simp; omega)), ?_⟩
    · refine law16Of_c c.hk fun w5 f5 => ⟨_, rfl, .inr (((hC2.fr0 f3).fr0 f4).fr0 f5), ?_⟩
      have f05 := (f03.then f4).then f5
      have hR5 := hR0.fr0 f05
      have hbadR : isE c.m c.s c.n c.key c.pt c.sid.length R.room ≠ 0 := by rw [h.er]; exact hbad
      refine ref28Renew_c hR5 c.hk (row1 (FrA.of0 f05)) rfl (by omega) (fun z hz => by have := hYlt z hz; have := f05.size; omega) (fun _ w6 f6 => ⟨_, rfl, ?_⟩) fun hh => absurd hh hbadR
      rw [h.er]
      have e : (isE c.m c.s c.n c.key c.pt c.sid.length X.room == isE c.m c.s c.n c.key c.pt c.sid.length X.room) = true := by simp
      rw [e]
      exact hk w6 X R (FrA.of0 (f05.then f6)) (h.fr0 (f05.then f6)) (by omega)
    · obtain ⟨ps, cs, mb, rfl⟩ := hy
      have hy1 : w3.heap.size ≤ mb := hyn.1
      have hy2 : ∀ z ∈ blks ps, w3.heap.size ≤ z := hyn.2
      obtain ⟨Y2, hY2⟩ : ∃ Y2 : Nat → Prop, Y2 = fun z => Yx bx X z ∨ z = mb ∨ z ∈ blks ps := ⟨_, rfl⟩
      have hR3 : RiAt w3 br R lo Y2 := (hR0.fr0 f03).weak fun z hz hh => by
        rw [hY2] at hh
        rcases hh with hh | hh | hh
        · exact hh
        · omega
        · have := hy2 z hh; omega
      have hR4 : RiAt w4 br R lo Y2 := hR3.fr f4 fun z hz => .inl (by rw [hY2]; exact .inl (.inl (by simpa using hz)))
      have fa4 : FrA lo w w4 := (FrA.of0 f03).trans (FrA.of f4 fun z hz => (show z = bx by simpa using hz) ▸ hb0)
      refine law16Of_c c.hk fun w5 f5 => ⟨_, rfl, .inr (((hC2.fr0 f3).fr f4 (by simp; omega)).fr0 f5), ?_⟩
      have hY5 := hY4.fr0 f5
      have hok2 : isE c.m c.s c.n c.key c.pt c.sid.length R.room = 0 := by rw [h.er]; exact hok
      have n4 := f4.size; have n5 := f5.size
      have hY2lt : ∀ z, Y2 z → z < w5.heap.size := fun z hz => by
        rw [hY2] at hz
        rcases hz with hh | hh | hh
        · have := hYlt z hh; omega
        · rw [hh]; exact hY5.mp.lt
        · exact hY5.r.lt z hh
      refine ref28Renew_c (hR4.fr0 f5) c.hk (row1 (fa4.trans (FrA.of0 f5))) rfl (by omega) hY2lt (fun hh => absurd hok2 hh) fun _ R' w6 f6 hR6 hR' => ⟨_, rfl, ?_⟩
      obtain ⟨ps', cs', rfl⟩ := hR'
      have e0 : isE c.m c.s c.n c.key c.pt c.sid.length X.room = 0 := hok
      have hX6 : IsAt w6 bx ⟨c.m, c.s, c.n, c.key, c.pt, X.room, c.sid, ps, cs, mb, []⟩ lo := hY5.fr f6 fun z hz => by
        have hz : z = br := by simpa using hz
        have hny := hR4.my br (.inl rfl)
        rw [hY2] at hny
        rw [hz]
        exact ⟨fun hh => hny (.inl (.inl hh)), fun hh => hny (.inr (.inl hh)), fun hh => hny (.inr (.inr hh))⟩
      refine hk w6 _ _ ((fa4.trans (FrA.of0 f5)).trans (FrA.of f6 fun z hz => hR0.lo1 z (.inl (by simpa using hz)))) ⟨hX6, hR6.weak fun z _ hh => ?_, rfl, rfl, rfl, rfl, rfl, h.er, rfl, rfl, rfl, by simp⟩ (by simp)
      rw [hY2]
      rcases hh with hh | hh | hh
      · exact .inl (.inl hh)
      · exact .inr (.inl hh)
      · exact .inr (.inr hh)
  · exact hk w1 X R (FrA.of0 f1) (h.fr0 f1) (by omega)
end
end Go.Sh
end

section
namespace Go.Sh
open Go Go.Fw Go.Proofs
set_option maxRecDepth 100000
set_option linter.unusedVariables false
theorem bkMk {m s n : Int} {key id : List UInt8} (hk : key.length = 16) (hb : okBk m s n key id) (hp : bkP m s n key id ≤ 2) : mkOut m s n key (bkP m s n key id) (bkS m s n key id) (bkN m s n key id) = id := by
  have ho := hb.1
  have h2 := hb.2.1
  have h3 := hb.2.2
  have ho' := ho
  unfold okC at ho'
  have hl := bk_len hb
  have eP : bkP m s n key id = (((fl id 0).toNat / 64 : Nat) : Int) := by unfold bkP; rw [if_pos hb]
  unfold mkOut
  rw [if_pos ⟨ho, by rw [eP]; omega, hp, by omega, by omega⟩, hl.1, hl.2, eP, Int.toNat_natCast]
  have eS : bkS m s n key id ++ bkN m s n key id = turnC true m key (id.drop 1) := by unfold bkS bkN; rw [if_pos hb, if_pos hb, List.take_append_drop]
  rw [eS, back_turn ho hk (by rw [List.length_drop]; omega)]
  obtain ⟨x, hx⟩ : ∃ x, x = fl id 0 := ⟨_, rfl⟩
  rw [← hx] at h3 ⊢
  have : s.toNat + n.toNat = x.toNat % 64 := by omega
  rw [this, headB_self]
  have hid : 0 < id.length := by omega
  cases hid' : id with
  | nil => rw [hid'] at hid; simp at hid
  | cons y ys => rw [hx, hid']; rfl
theorem RiAt.mono {w : World} {b lo lo' : Nat} {x : RI} {Y : Nat → Prop} (h : RiAt w b x lo Y) (hl : lo' ≤ lo) : RiAt w b x lo' Y :=
  ⟨h.c, h.r.mono hl, h.a1, h.a2, h.o, fun z hz => Nat.le_trans hl (h.lo1 z hz), h.bn, h.bi, h.ni, h.sp, h.my⟩
section
variable {w : World} {K : Value → World → Prop}
theorem mine_in {bx br lo : Nat} {X : IS} {R : RI} (h : Rel28 w bx X br R lo) (id : List UInt8) : mineP X id ↔ id ∈ R.is := by
  rw [h.eI, List.mem_map]
  constructor
  · rintro ⟨hb, hp, hs, hn⟩
    refine ⟨_, hn, ?_⟩
    have := bkMk h.x.o.k16 hb (by rw [hp]; exact h.x.o.pt.2)
    rw [hp, hs] at this
    exact this
  · rintro ⟨N, hN, rfl⟩
    exact (mine_mk (x := X) (y := X) h.x.o rfl rfl rfl rfl (h.hl N hN)).2 ⟨rfl, rfl, hN⟩
theorem buildCall {x : IC} {K : Option Addr → Nat → Nat → World → Prop} (h : ∀ p w', Fr [] w w' → Row w' p ([x].flatMap IC.v) → K p 1 1 w') :
    ∃ p l c w', Ef Tryz.prog (Instr.buildSlice T_S_law28_Call 1 #[(0, .agg ⟨x.v⟩)]) w (.slice p l c) w' ∧ K p l c w' := by
  obtain ⟨op, pt, m, s, n, key, hk, sp, sid, sc, rp, rnd, rc⟩ := x
  obtain ⟨a0, a1, a2, a3, a4, a5, a6, a7, a8, a9, aa, ab, ac, ad, ae, af, rfl⟩ := list16 hk
  refine ⟨_, _, _, Ef.new (v := .slice (some ⟨w.heap.size, 0, none⟩) 1 1) (cs := (IC.v ⟨op, pt, m, s, n, _, hk, sp, sid, sc, rp, rnd, rc⟩).toArray) (e := T_law28_Call) (by kernel_rfl) fun w1 f1 hB1 s1 => h _ w1 f1 ?_⟩
  have := hB1.rowL
  exact this
set_option maxHeartbeats 8000000 in
theorem IssueCalls_c {m s n point room : Int} {key sid id : List UInt8} {p2 p4 p6 : Option Addr} {l2 c2 l4 c4 l6 c6 : Nat} {cs : List IC} {last : IC} (hk : key.length = 16) (h2' : Row w p2 (sid.map vb)) (hl2 : l2 = sid.length) (hc2 : l2 ≤ c2) (h4' : Row w p4 (cs.flatMap IC.v)) (hok' : ∀ x ∈ cs, IC.ok w x) (hl4 : l4 = cs.length) (hlast' : IC.ok w last) (h6' : Row w p6 (id.map vb)) (hl6 : l6 = id.length) (hc6 : l6 ≤ c6)
    (h : ∀ w', Fr [] w w' → K (.bool true) w') : callF Tryz.prog F_law28_IssueCalls #[.agg ⟨cfgV m s n key⟩, .int .i64 point, .slice p2 l2 c2, .int .i64 room, .slice p4 l4 c4, .agg ⟨last.v⟩, .slice p6 l6 c6] w K := by
  subst hl2 hl4 hl6
  apply law28_IssueCalls_call
  unfold law28_IssueCalls
  refine newCfg hk fun w1 f1 hC1 s1 => ?_
  obtain ⟨k7, hk7⟩ : ∃ k, k = w.heap.size := ⟨_, rfl⟩
  rw [← hk7] at hC1 ⊢
  refine newC (t := T_law28_Call) last.v fun w2 f2 hL s2 => ?_
  obtain ⟨k12, hk12⟩ : ∃ k, k = w1.heap.size := ⟨_, rfl⟩
  rw [← hk12] at hL ⊢
  have fB := f1.then f2
  have hC := hC1.fr0 f2
  have h2 := h2'.fr0 fB
  have h4 := h4'.fr0 fB
  have h6 := h6'.fr0 fB
  have hok : ∀ x ∈ cs, IC.ok w2 x := fun x hx => (hok' x hx).fr0 fB
  have hlast := hlast'.fr0 fB
  have hK : ∀ w', Fr [] w2 w' → K (.bool true) w' := fun w' f => h w' (fB.then f)
  clear h h2' h4' h6' hok' hlast' hC1
  have lt1 : ∀ {x : IC} {lo : Nat}, IC.ok w2 x → w2.heap.size ≤ lo → (0 < x.sid.length → ∀ z ∈ blks x.sp, z < lo) ∧ (0 < x.rnd.length → ∀ z ∈ blks x.rp, z < lo) := fun hx hlo => ⟨rowLt hx.r1 hlo, rowLt hx.r2 hlo⟩
  refine alive28_c fun w3 f3 => ⟨_, rfl, cond_f ?_⟩
  refine great28_c (h4.fr0 f3) rfl ⟨_, rfl, cond_t (hK w3 f3)⟩ fun hfew => ⟨_, rfl, cond_f ?_⟩
  refine ⟨_, (hL.fr0 f3).ld (by kernel_rfl) (by rw [last.v_len]; kernel_rfl), ?_⟩
  refine buildCall fun q5 w5 f5 hQ5 => ?_
  have f35 := f3.then f5
  refine great28_c (cs := [last]) hQ5 rfl ⟨_, rfl, cond_t (hK w5 f35)⟩ fun hfl => ⟨_, rfl, cond_f ?_⟩
  refine cond_d (fun _ => hK w5 f35) fun g2 => cond_d (fun _ => hK w5 f35) fun g6 => ?_
  have hl100 := hfl.2 last (by simp)
  unfold law28_IssueCalls_j7
  refine CopyOB_c (h2.fr0 f35) rfl (by omega) fun qo dq w6 f6 hO6 => ⟨_, _, _, rfl, ?_⟩
  have f26 := f35.then f6
  have n26 := f26.size
  have n35 := f35.size
  refine ⟨_, (hC.fr0 f26).ld hk, ?_⟩
  refine issNew_c (room := room) hk hO6.row rfl (by omega) (fun he w7 f7 => ⟨_, _, rfl, ?_⟩) fun he bx X w7 f7 hX7 hX => ⟨_, _, rfl, ?_⟩
  · have f27 := f26.then f7
    refine ⟨_, (hC.fr0 f27).ld hk, law16Of_c hk fun w8 f8 => ⟨_, rfl, ?_⟩⟩
    have f28 := f27.then f8
    refine ref28New_c (Y := fun _ => False) hk (h2.fr0 f28) rfl (by omega) (fun z hz => hz.elim) (fun _ w9 f9 => ⟨_, _, rfl, ?_⟩) fun hh => absurd hh he
    refine cond_ne (fun hh => absurd rfl hh) fun _ => ⟨_, _, ptrNil (by kernel_rfl), ⟨_, _, ptrNil (by kernel_rfl), cond_f ?_⟩⟩
    unfold law28_IssueCalls_j6
    exact ⟨_, _, ptrNil (by kernel_rfl), cond_t (hK w9 (f28.then f9))⟩
  have f27 := f26.then f7
  refine ⟨_, (hC.fr0 f27).ld hk, law16Of_c hk fun w8 f8 => ⟨_, rfl, ?_⟩⟩
  have f28 := f27.then f8
  have hX8 := hX7.fr0 f8
  have n67 := f7.size; have n78 := f8.size
  obtain ⟨Yo, hYo⟩ : ∃ Yo : Nat → Prop, Yo = fun z => Yx bx X z ∨ z ∈ blks qo := ⟨_, rfl⟩
  have hYlt : ∀ z, Yo z → z < w8.heap.size := fun z hz => by
    rw [hYo] at hz
    rcases hz with hh | hh
    · exact Yx_lt hX8 hh
    · have := hO6.lt z hh; omega
  refine ref28New_c (Y := Yo) hk (h2.fr0 f28) rfl (by omega) hYlt (fun hh => absurd he hh) fun _ br R w9 f9 hR9 hR => ⟨_, _, rfl, ?_⟩
  have f29 := f28.then f9
  obtain ⟨lo, hlo⟩ : ∃ lo, lo = w6.heap.size := ⟨_, rfl⟩
  rw [← hlo] at hX7 hX8
  have hR9' : RiAt w9 br R lo Yo := hR9.mono (by omega)
  have hX9 := hX8.fr0 f9
  refine cond_ne (fun hh => absurd rfl hh) fun _ => ⟨_, _, ptrNil (by kernel_rfl), ⟨_, _, ptrNil (by kernel_rfl), cond_f ?_⟩⟩
  unfold law28_IssueCalls_j6
  refine ⟨_, _, ptrNil (by kernel_rfl), cond_f ⟨_, _, ptrNil (by kernel_rfl), cond_f ?_⟩⟩
  unfold law28_IssueCalls_j5
  have hqlo : ∀ z ∈ blks qo, z < lo := fun z hz => by have := hO6.lt z hz; omega
  refine LoopS.ind (fun k us w' => ∃ (i : Nat) (ys : List UInt8), i + k = sid.length ∧ us = [.slice p4 cs.length c4, .slice p6 id.length c6, .pointer (some ⟨k12, 0, none⟩), .bool false, .slice qo sid.length dq, .pointer (some ⟨bx, 0, none⟩), .pointer (some ⟨br, 0, none⟩), .int .i64 (i : Int)] ∧ OB w' qo sid.length dq ys w5.heap.size ∧ IsAt w' bx X lo ∧ RiAt w' br R lo Yo ∧ Fr [] w2 w') sid.length
    ⟨0, sid, by omega, rfl, ((hO6.fr0 f7).fr0 f8).fr0 f9, hX9, hR9', f29⟩ ?_
  rintro k us rr wa I μ hgo ⟨i, ys, hik, rfl, hOa, hXa, hRa, fa⟩
  refine ⟨_, _, _, _, _, _, _, _, _, _, _, _, _, _, rfl, cond_d (fun hlt => ?_) fun hge => ?_⟩
  · obtain ⟨a, ha, hca⟩ := hOa.get (k := .i64) (i := i) (by omega)
    refine ⟨a, ha, _, Ld.cell (by kernel_rfl) hca, a, ha, ?_⟩
    rw [incB]
    refine hOa.stoAt (by omega) ha fun wb fb hOb sb => ?_
    rw [wrap64 (by omega) (by omega)]
    refine hgo _ _ _ (k - 1) (by omega) ⟨i + 1, _, by omega, rfl, hOb, hXa.fr fb fun z hz => ?_, hRa.fr fb fun z hz => .inl (by rw [hYo]; exact .inr hz), hOa.news fa fb (by omega)⟩
    have hz1 := hqlo z hz
    have b0 := hXa.b0; have m0 := hXa.m0
    exact ⟨by omega, by omega, fun hh => by have := hXa.r.2.2 z hh; omega⟩
  have hRel : Rel28 wa bx X br R lo := by
    obtain ⟨ps, cc, mb, rfl⟩ := hX
    obtain ⟨ps', cc', rfl⟩ := hR
    exact ⟨hXa, hRa.weak fun z _ hz => by rw [hYo]; exact .inl hz, rfl, rfl, rfl, rfl, rfl, rfl, rfl, rfl, rfl, by simp⟩
  have hX0 : X.ks.length = 0 := by
    obtain ⟨ps, cc, mb, rfl⟩ := hX; rfl
  have hB2 : w2.heap.size ≤ lo := by omega
  clear hgo hOa hXa hRa hX9 hX8 hX7 hR9 hR9'
  unfold law28_IssueCalls_j4
  refine LoopS.ind (fun k us w' => ∃ (i : Nat) (X : IS) (R : RI), i + k = cs.length ∧ us = [.slice p4 cs.length c4, .slice p6 id.length c6, .pointer (some ⟨k12, 0, none⟩), .bool false, .pointer (some ⟨bx, 0, none⟩), .pointer (some ⟨br, 0, none⟩), .int .i64 (i : Int)] ∧ Rel28 w' bx X br R lo ∧ X.ks.length ≤ i ∧ Fr [] w2 w') cs.length
    ⟨0, X, R, by omega, rfl, hRel, by omega, fa⟩ ?_
  have hcs60 := hfew.1
  clear hRel fa hX0 hX hR hYlt hYo Yo
  rintro k us rr wa I μ hgo ⟨i, X, R, hik, rfl, hRel, hXi, fa⟩
  refine ⟨_, _, _, _, _, _, _, _, _, _, _, rfl, cond_d (fun hlt => ?_) fun hge => ?_⟩
  · have hXa := hRel.x
    refine issPlace_c hXa fun qp dp wb fb hOp => ⟨_, _, _, _, rfl, ?_⟩
    have fwb := fa.then fb
    refine ⟨fun _ => True, Drw.intro fun wd gd sd => ?_⟩
    have fwd := fwb.then gd
    obtain ⟨x, g, o, hx, hm, ha, hld, _, _⟩ := icallAt (c0 := c4) (h4.fr0 fwd) rfl (i := i) (by omega)
    have hxok := hok x hm
    have hlx := lt1 hxok hB2
    refine ⟨_, ha, _, hld, .inl rfl, ?_⟩
    refine Do28_c (hRel.fr0 (fb.then gd)) (by omega) (hxok.fr0 fwd) (hfew.2 x hm) hlx.1 hlx.2 fun we X' R' fe hRe hle => ⟨_, rfl, .inr trivial, fun w' => Fr [] we w', fun _ _ => trivial, cond_f ⟨_, rfl, _, _, _, ⟨Fr.refl _ _, fun w' hw' => (hRe.r.fr0 hw').il⟩, issIssued_c hRe.x ⟨_, rfl, .inl rfl, ?_⟩⟩⟩
    have e2 : R'.is.length = X'.ks.length := by rw [hRe.eI, List.length_map]
    rw [e2]
    refine cond_ne (fun hh => absurd rfl hh) fun _ => ?_
    have hpt := hXa.o.pt.1
    have hsl := hXa.o.sl
    have hox := hXa.o.ok
    unfold okC at hox
    refine cond_d (fun hh => absurd hh (by omega)) fun _ => cond_eq (fun hh => ?_) fun _ => ?_
    · exfalso; omega
    rw [wrap64 (by omega) (by omega)]
    exact hgo _ _ _ (k - 1) (by omega) ⟨i + 1, X', R', by omega, rfl, hRe, by omega, fe.news fwd hB2⟩
  · have hXa := hRel.x
    have hRa := hRel.r
    clear hgo
    unfold law28_IssueCalls_j3
    refine issPlace_c hXa fun qp dp wb fb hOp => ⟨_, _, _, _, rfl, ?_⟩
    have fwb := fa.then fb
    refine issClone_c (hXa.fr0 fb) fun bz mz wc fc hbz hXc hZc hne1 hne2 hne3 hne4 hlt5 hmz => ⟨_, rfl, ?_⟩
    have fbc := fb.then fc
    have fwc := fwb.then fc
    have hRc := hRa.fr0 fbc
    refine ⟨_, rfl, _, hRc.pt, ?_⟩
    rw [hRel.ep]
    refine cond_ne (fun hh => absurd rfl hh) fun _ => ⟨_, rfl, _, _, _, hRc.sd, ?_⟩
    have hsl := hXa.o.sl
    have hox := hXa.o.ok
    unfold okC at hox
    refine SameBytes_c (hOp.row.fr0 fc) rfl hRc.r.row rfl (by omega) fun wd fd => ⟨_, rfl, ?_⟩
    rw [decide_eq_true hRel.ed.symm]
    refine cond_f ?_
    have fbd := fbc.then fd
    have fwd := fwc.then fd
    refine issMine_c (hXa.fr0 fbd) (h6.fr0 fwd) rfl hc6 (by omega) fun we fe => ⟨_, rfl, ?_⟩
    have fbe := fbd.then fe
    have fwe := fwd.then fe
    have hIl : R.is.length ≤ 60 := by rw [hRel.eI, List.length_map]; omega
    refine ref28Mine_c (hRa.fr0 fbe) (by omega) (h6.fr0 fwe) rfl fun wf ff => ⟨_, rfl, ?_⟩
    have e1 : (decide (mineP X id) == decide (id ∈ R.is)) = true := by
      have := mine_in hRel id
      by_cases hh : mineP X id
      · rw [decide_eq_true hh, decide_eq_true (this.1 hh)]; rfl
      · rw [decide_eq_false hh, decide_eq_false fun h2 => hh (this.2 h2)]; rfl
    rw [e1]
    refine cond_f ⟨_, _, ptrNil (by kernel_rfl), cond_f ?_⟩
    have fbf := fbe.then ff
    have fwf := fwe.then ff
    have fcf := (fd.then fe).then ff
    obtain ⟨Z, hZ⟩ : ∃ Z : IS, Z = { X with mb := mz } := ⟨_, rfl⟩
    rw [← hZ] at hZc
    have hZk : Z.ks = X.ks := by rw [hZ]
    have hZm : Z.mb = mz := by rw [hZ]
    have hZP : ∀ d, mineP Z d ↔ mineP X d := fun d => by rw [hZ]; exact Iff.rfl
    refine issIssued_c (hZc.fr0 fcf) ⟨_, rfl, issIssued_c (hXa.fr0 fbf) ⟨_, rfl, ?_⟩⟩
    rw [hZk]
    refine cond_ne (fun hh => absurd rfl hh) fun _ => ?_
    unfold law28_IssueCalls_j2
    refine LoopS.ind (fun k us w' => ∃ i : Nat, i + k = R.is.length ∧ us = [.pointer (some ⟨k12, 0, none⟩), .bool false, .pointer (some ⟨bx, 0, none⟩), .pointer (some ⟨br, 0, none⟩), .pointer (some ⟨bz, 0, none⟩), .int .i64 (i : Int)] ∧ Fr [] wf w') R.is.length ⟨0, by omega, rfl, Fr.refl _ _⟩ ?_
    rintro k us rr wg I μ hgo ⟨i, hik, rfl, fg⟩
    have fag := fbf.then fg
    have fcg := fcf.then fg
    have fwg := fwf.then fg
    have hRg := hRa.fr0 fag
    refine ⟨_, _, _, _, _, _, rfl, _, rfl, _, _, _, hRg.il, cond_d (fun hlt => ?_) fun hge => ?_⟩
    · obtain ⟨vs, hO, hW⟩ := hRg.a2
      obtain ⟨a, q, d, ha, hca, hq, hd⟩ := rows_get (t := T_S_S_uint8) (by kernel_rfl) (hW.rowB hO.row) (c := R.ci) rfl (i := i) (by omega) (k := .i64)
      obtain ⟨r, hr⟩ : ∃ r, r = R.is.getD i [] := ⟨_, rfl⟩
      have hrm : r ∈ R.is := by
        rw [hr, List.getD_eq_getElem?_getD, List.getElem?_eq_getElem (by omega)]
        exact List.getElem_mem _
      rw [← hr] at hca hq hd
      have hrP : mineP X r := (mine_in hRel r).2 hrm
      have hr20 : r.length < 1000 := by
        have := hrP.1.2.1
        omega
      refine ⟨_, rfl, _, _, _, hRg.il, a, ha, _, _, _, Ld.cell (by kernel_rfl) hca, issMine_c (hXa.fr0 fag) hq rfl hd (by omega) fun wh fh => ⟨_, rfl, ?_⟩⟩
      rw [decide_eq_true hrP]
      have hRh := hRg.fr0 fh
      refine cond_f ⟨_, rfl, _, _, _, hRh.il, a, ha, _, _, _, Ld.cell (by kernel_rfl) (fh.cell hca (by simp)), issMine_c (hZc.fr0 (fcg.then fh)) (hq.fr0 fh) rfl hd (by omega) fun wi fi => ⟨_, rfl, ?_⟩⟩
      rw [decide_eq_true ((hZP r).2 hrP), wrap64 (by omega) (by omega)]
      exact cond_f (hgo _ _ _ (k - 1) (by omega) ⟨i + 1, by omega, rfl, (fg.then fh).then fi⟩)
    · unfold law28_IssueCalls_j1
      refine ⟨_, _, _, (hL.fr0 fwg).get (by kernel_rfl) (j := 22) last.v22, ?_⟩
      have fin : ∀ (wh : World) (q : Option Addr) (l d : Nat) (n1 n2 : Int), Fr [] wa wh → Fr [] w2 wh → (∃ (p208 : Option Addr) (l208 c208 : Nat) (n208 n208_1 : Int), Value.tuple #[.slice q l d, .int .i64 n1, .int .i64 n2] = .tuple #[.slice p208 l208 c208, .int .i64 n208, .int .i64 n208_1] ∧
          ∃ (S32 : World → Prop), Drw wh fun w2 => ∃ (a212 : Addr), (some ⟨br, 0, none⟩ : Option Addr) = some a212 ∧
          ∃ (p214 : Option Addr) (l214 c214 : Nat), HLd Tryz.prog S32 T_S_S_uint8 (.pointer (some (a212.add 23))) w2 (.slice p214 l214 c214) ∧
          callF Tryz.prog F_issue_Issuer_Issued #[.pointer (some ⟨bx, 0, none⟩)] w2 fun r210 w3 => ∃ (n210 : Int), r210 = .int .i64 n210 ∧ (w3 = w2 ∨ S32 w3) ∧
          cond (n210 == ((l214 : Nat) : Int)) (∃ (cs220 : Array Value), Ld Tryz.prog T_law28_Call (.pointer (some (⟨k12, 0, none⟩ : Addr))) w3 (.agg cs220) ∧
            callF Tryz.prog F_law28_Do #[.pointer (some ⟨bx, 0, none⟩), .pointer (some ⟨br, 0, none⟩), .agg cs220] w3 fun r221 w4 => ∃ (b221 : Bool), r221 = .bool b221 ∧ K (.bool b221) w4) (K (.bool false) w3)) := by
        intro wh q l d n1 n2 fah fwh
        refine ⟨_, _, _, _, _, rfl, fun w' => Fr [] wh w', Drw.intro fun wi fi si => ⟨_, rfl, ?_⟩⟩
        have fai := fah.then fi
        have fwi := fwh.then fi
        refine ⟨_, _, _, ⟨fi, fun w' hw' => (hRa.fr0 (fah.then hw')).il⟩, issIssued_c (hXa.fr0 fai) ⟨_, rfl, .inl rfl, ?_⟩⟩
        have e2 : R.is.length = X.ks.length := by rw [hRel.eI, List.length_map]
        refine cond_eq (fun _ => ⟨_, (hL.fr0 fwi).ld (by kernel_rfl) (by rw [last.v_len]; kernel_rfl), ?_⟩) fun hh => absurd (by rw [e2]) hh
        have hll := lt1 hlast hB2
        exact Do28_c (hRel.fr0 fai) (by omega) (hlast.fr0 fwi) hl100 hll.1 hll.2 fun w' X' R' f' _ _ => ⟨_, rfl, hK w' (f'.news fwi hB2)⟩
      have hZg := hZc.fr0 fcg
      have nbc := fb.size
      refine issNext_c hZg (by rw [hZk]; omega) (hlast.r2.fr0 fwg) rfl hlast.h2 (fun _ wh fh => fin wh _ _ _ _ _ (fag.then fh) (fwg.then fh)) fun _ qa da wh fh _ _ => ?_
      rw [hZm] at fh
      exact fin wh _ _ _ _ _ (fag.st fh (by omega)) (fwg.st fh (by have := fwb.size; omega))
end
end Go.Sh
end
