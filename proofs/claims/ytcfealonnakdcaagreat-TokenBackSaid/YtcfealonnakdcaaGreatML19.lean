/- A part of a proof of a given law of this program: lemmas, printed forms of its functions, contracts. It has no conditions of its own. -/
import Derived.Test.YtcfealonnakdcaaGreatMA
import Derived.Test.YtcfealonnakdcaaGreatMH
import Derived.Test.YtcfealonnakdcaaGreatMB
import Derived.Test.YtcfealonnakdcaaGreatMFw3
import Derived.Test.YtcfealonnakdcaaGreatMSh7
import Derived.Test.YtcfealonnakdcaaGreatMR

section
namespace Go.Sh
open Go Go.Fw Go.Proofs
set_option maxRecDepth 100000
set_option linter.unusedVariables false
def OI (w : World) (p : Option Addr) (l c : Nat) (xs : List Int) (lo : Nat) : Prop := OwnS w p l c (xs.map vi) ∧ l = xs.length ∧ ∀ k ∈ blks p, lo ≤ k
theorem OI.row {w : World} {p : Option Addr} {l c : Nat} {xs : List Int} {lo : Nat} (h : OI w p l c xs lo) : Row w p (xs.map vi) := h.1.row
theorem OI.fr {w w' : World} {p : Option Addr} {l c : Nat} {xs : List Int} {lo : Nat} {L : List Nat} (h : OI w p l c xs lo) (hf : Fr L w w') (hl : ∀ k ∈ blks p, k ∉ L) : OI w' p l c xs lo := ⟨h.1.fr hf hl, h.2⟩
theorem OI.fr0 {w w' : World} {p : Option Addr} {l c : Nat} {xs : List Int} {lo : Nat} (h : OI w p l c xs lo) (hf : Fr [] w w') : OI w' p l c xs lo := h.fr hf (by simp)
theorem OI.fr_sep {w w' : World} {p : Option Addr} {l c : Nat} {xs : List Int} {lo b : Nat} (h : OI w p l c xs lo) (hf : Fr [b] w w') (hl : b < lo) : OI w' p l c xs lo :=
  h.fr hf fun k hk => by have := h.2.2 k hk; simp; omega
theorem OI.mono {w : World} {p : Option Addr} {l c : Nat} {xs : List Int} {lo lo' : Nat} (h : OI w p l c xs lo) (h1 : lo' ≤ lo) : OI w p l c xs lo' := ⟨h.1, h.2.1, fun k hk => Nat.le_trans h1 (h.2.2 k hk)⟩
theorem OI.news {a w w' : World} {p : Option Addr} {l c : Nat} {xs : List Int} {lo : Nat} (h : OI w p l c xs lo) (h1 : Fr [] a w) (h2 : Fr (blks p) w w') (h3 : a.heap.size ≤ lo) : Fr [] a w' := h1.trans h2 fun z hz => .inr (Nat.le_trans h3 (h.2.2 z hz))
end Go.Sh
end

section
namespace Go.Sh
open Go Go.Fw Go.Proofs
set_option maxRecDepth 100000
set_option linter.unusedVariables false
structure KE where
  sq : Nat
  key : List UInt8
def isSq (s : Int) (e : KE) : Bool := decide ((e.sq : Int) = s)
def idxK (ks : List KE) (s : Int) : Nat := ks.findIdx (isSq s)
def hasK (ks : List KE) (s : Int) : Prop := idxK ks s < ks.length
instance (ks : List KE) (s : Int) : Decidable (hasK ks s) := by unfold hasK; infer_instance
def findI (ks : List KE) (s : Int) : Int := if hasK ks s then (idxK ks s : Int) else -1
theorem idxK_hit {ks : List KE} {s : Int} {i : Nat} {e : KE} (hi : ks[i]? = some e) (he : (e.sq : Int) = s) (hs : ∀ j, j < i → ∀ e, ks[j]? = some e → (e.sq : Int) ≠ s) : idxK ks s = i ∧ hasK ks s := by
  obtain ⟨h1, h2⟩ := List.getElem?_eq_some_iff.1 hi
  have e1 : idxK ks s = i := by
    unfold idxK
    refine (List.findIdx_eq h1).2 ⟨?_, fun j hj => ?_⟩
    · rw [h2]; simp [isSq, he]
    · have := hs j hj _ (List.getElem?_eq_getElem (by omega))
      simp [isSq, this]
  exact ⟨e1, by unfold hasK; omega⟩
theorem idxK_no {ks : List KE} {s : Int} (hs : ∀ j, j < ks.length → ∀ e, ks[j]? = some e → (e.sq : Int) ≠ s) : ¬ hasK ks s := by
  unfold hasK idxK
  intro hlt
  have h2 := List.findIdx_getElem (w := hlt)
  have := hs _ hlt _ (List.getElem?_eq_getElem hlt)
  simp [isSq] at h2
  exact this h2
theorem hasK_at {ks : List KE} {s : Int} (h : hasK ks s) : ∃ e, ks[idxK ks s]? = some e ∧ (e.sq : Int) = s := by
  have hlt : ks.findIdx (isSq s) < ks.length := h
  have h2 := List.findIdx_getElem (w := hlt)
  exact ⟨_, List.getElem?_eq_getElem hlt, by simpa [isSq] using h2⟩
theorem hasK_not {ks : List KE} {s : Int} (h : ¬ hasK ks s) : ∀ e ∈ ks, (e.sq : Int) ≠ s := by
  intro e he hes
  apply h
  unfold hasK idxK
  exact List.findIdx_lt_length_of_exists ⟨e, he, by simp [isSq, hes]⟩
def insR (ks : List KE) (s : Int) (key : List UInt8) : Int := if s < 0 ∨ 127 < s ∨ key.length ≠ 16 then 11 else if hasK ks s then 16 else if 16 ≤ ks.length then 18 else 0
def retR (ks : List KE) (s : Int) : Int := if s < 0 ∨ 127 < s then 11 else if hasK ks s then 0 else 17
def insK (ks : List KE) (s : Int) (key : List UInt8) : List KE := if insR ks s key = 0 then ks ++ [⟨s.toNat, key⟩] else ks
def retK (ks : List KE) (s : Int) : List KE := if retR ks s = 0 then ks.take (idxK ks s) ++ ks.drop (idxK ks s + 1) else ks
structure RE where
  sq : Nat
  key : List UInt8
  bx : Nat
  kp : Option Addr
  kc : Nat
  lo : Nat
  hi : Nat
def RE.ke (e : RE) : KE := ⟨e.sq, e.key⟩
def RE.v (e : RE) : List Value := [.pointer (some ⟨e.bx, 0, none⟩), .int .i64 (e.sq : Int), .slice e.kp 16 e.kc]
theorem RE.v_len (e : RE) : e.v.length = 3 := rfl
theorem RE.v_one (e : RE) : ∀ u ∈ e.v, u.oneCell' = true := by
  intro u hu
  simp [RE.v] at hu
  rcases hu with rfl | rfl | rfl <;> rfl
def EntAt (w : World) (e : RE) (N : Int) : Prop := ∃ n hb, 0 ≤ n ∧ n ≤ N ∧ BoxAt w e.bx e.key n N e.lo hb ∧ Row w e.kp (e.key.map vb) ∧ 16 ≤ e.kc ∧ (∀ k ∈ blks e.kp, hb ≤ k ∧ k < e.hi) ∧ hb ≤ e.hi ∧ e.hi ≤ w.heap.size
theorem EntAt.fr {w w' : World} {e : RE} {N : Int} {L : List Nat} (h : EntAt w e N) (hf : Fr L w w') (hL : ∀ k ∈ L, k < e.lo ∨ e.hi ≤ k) : EntAt w' e N := by
  obtain ⟨n, hb, n0, n1, hX, hk, h16, hbk, o1, o2⟩ := h
  have hlh := hX.lohi
  refine ⟨n, hb, n0, n1, hX.fr hf fun k hk => ?_, Row.cells_fr hk hf fun k hk hm => ?_, h16, hbk, o1, Nat.le_trans o2 hf.size⟩
  · have := hL k hk; omega
  · have := hL k hm; have := hbk k hk; omega
theorem EntAt.fr0 {w w' : World} {e : RE} {N : Int} (h : EntAt w e N) (hf : Fr [] w w') : EntAt w' e N := h.fr hf (by simp)
theorem EntAt.len {w : World} {e : RE} {N : Int} (h : EntAt w e N) : e.key.length = 16 := by obtain ⟨n, hb, n0, n1, hX, _⟩ := h; exact hX.lohi.2.2.1
theorem EntAt.lh {w : World} {e : RE} {N : Int} (h : EntAt w e N) : e.lo < e.hi ∧ e.hi ≤ w.heap.size := by obtain ⟨n, hb, n0, n1, hX, hk, h16, hbk, o1, o2⟩ := h; have := hX.lohi; omega
theorem EntAt.mono {w : World} {e : RE} {N N' : Int} (h : EntAt w e N) (hN : N ≤ N') : EntAt w e N' := by
  obtain ⟨n, hb, n0, n1, hX, r⟩ := h
  exact ⟨n, hb, n0, by omega, hX.mono hN, r⟩
structure RingAt (w : World) (b : Nat) (p : Option Addr) (es : List RE) (N : Int) (lo : Nat) : Prop where
  blk : ∃ f c, Blk w b 1 f ∧ f 0 = .slice p es.length c ∧ OwnN 3 w p es.length c (es.flatMap RE.v)
  ent : ∀ e ∈ es, EntAt w e N ∧ lo ≤ e.lo ∧ e.sq ≤ 127
  len : es.length ≤ 16
  pw : es.Pairwise fun x y => x.hi ≤ y.lo ∧ x.sq ≠ y.sq
  sep : ∀ k ∈ b :: blks p, ∀ e ∈ es, k < e.lo ∨ e.hi ≤ k
  arr : ∀ k ∈ blks p, lo ≤ k ∧ k ≠ b
  siz : lo ≤ w.heap.size
def offR (b : Nat) (p : Option Addr) (es : List RE) (k : Nat) : Prop := k ∉ b :: blks p ∧ ∀ e ∈ es, k < e.lo ∨ e.hi ≤ k
section
variable {w : World} {b lo : Nat} {p : Option Addr} {es : List RE} {N : Int} {K : Value → World → Prop}
theorem RingAt.fr {w' : World} {L : List Nat} (h : RingAt w b p es N lo) (hf : Fr L w w') (hL : ∀ k ∈ L, offR b p es k) : RingAt w' b p es N lo := by
  obtain ⟨⟨f, c, hB, e0, hO⟩, h2, h3, h4, h5, h6, h7⟩ := h
  refine ⟨⟨f, c, hB.fr hf fun hb => (hL b hb).1 (List.mem_cons_self ..), e0, hO.fr hf fun k hk hm => (hL k hm).1 (List.mem_cons_of_mem _ hk)⟩, fun e he => ⟨(h2 e he).1.fr hf fun k hk => (hL k hk).2 e he, (h2 e he).2⟩, h3, h4, h5, h6, Nat.le_trans h7 hf.size⟩
theorem RingAt.fr0 {w' : World} (h : RingAt w b p es N lo) (hf : Fr [] w w') : RingAt w' b p es N lo := h.fr hf (by simp)
theorem RingAt.lt (h : RingAt w b p es N lo) : ∀ k ∈ b :: blks p, k < w.heap.size := by
  obtain ⟨⟨f, c, hB, e0, hO⟩, _⟩ := h
  intro k hk
  rcases List.mem_cons.1 hk with rfl | hk
  · exact hB.lt
  · exact hO.lt k hk
theorem RingAt.mono {N' : Int} (h : RingAt w b p es N lo) (hN : N ≤ N') : RingAt w b p es N' lo :=
  ⟨h.blk, fun e he => ⟨(h.ent e he).1.mono hN, (h.ent e he).2⟩, h.len, h.pw, h.sep, h.arr, h.siz⟩
theorem entIx {l c i : Nat} {e : RE} (hO : OwnN 3 w p l c (es.flatMap RE.v)) (hl : l = es.length) (he : es[i]? = some e) :
    ∃ g o, IxA Tryz.prog T_S_ring_entry (.slice p l c) (.int .i64 (i : Int)) ⟨g, o, none⟩ ∧ (∀ j v, e.v[j]? = some v → w.cell? ⟨g, o + j, none⟩ = some v) ∧
      Ld Tryz.prog T_ring_entry (.pointer (some ⟨g, o, none⟩)) w (.agg #[.pointer (some ⟨e.bx, 0, none⟩), .int .i64 (e.sq : Int), .slice e.kp 16 e.kc]) := by
  have hil : i < l := by have := (List.getElem?_eq_some_iff.1 he).1; omega
  obtain ⟨g, o, hx, _, hc⟩ := hO.cellAt (P := Tryz.prog) (t := T_S_ring_entry) (by kernel_rfl) (k := .i64) (i := i) hil (by omega)
  have hc' : ∀ j v, e.v[j]? = some v → w.cell? ⟨g, o + j, none⟩ = some v := fun j v hj => by
    have hlt := (List.getElem?_eq_some_iff.1 hj).1
    exact hc j v (by rw [RE.v_len] at hlt; omega) (fm_get RE.v_len he hj)
  exact ⟨g, o, hx, hc', Ld.agg (n := 3) (cs := e.v) (by kernel_rfl) (by kernel_rfl) rfl fun j v hj => by rw [add_mk]; exact hc' j v hj⟩
theorem ringNew_c (h : ∀ w', Fr [] w w' → RingAt w' w.heap.size none [] 1 w'.heap.size → w'.heap.size = w.heap.size + 1 → K (.pointer (some ⟨w.heap.size, 0, none⟩)) w') : callF Tryz.prog F_ring_New #[] w K := by
  apply ring_New_call
  unfold ring_New
  refine New.intro fun w1 f1 hB1 s1 => h w1 f1 ⟨⟨_, 0, hB1, rfl, OwnN.nil _ _⟩, by simp, by simp, .nil, by simp, by simp [blks], Nat.le_refl _⟩ s1
theorem ke_get {i : Nat} {e : RE} (he : es[i]? = some e) : (es.map RE.ke)[i]? = some e.ke := by rw [List.getElem?_map, he]; rfl
set_option maxHeartbeats 1000000 in
theorem ringFind_c (h : RingAt w b p es N lo) {s : Int} (hk : ∀ w', Fr [] w w' → K (.int .i64 (findI (es.map RE.ke) s)) w') : callF Tryz.prog F_ring_Ring_find #[.pointer (some ⟨b, 0, none⟩), .int .i64 s] w K := by
  apply ring_Ring_find_call
  unfold ring_Ring_find
  obtain ⟨f, c, hB, e0, hO⟩ := h.blk
  have hlen := h.len
  refine New.intro fun w1 f1 hB1 s1 => ⟨_, rfl, _, _, _, by rw [add_mk]; exact Ld.blk (by kernel_rfl) (hB.fr0 f1) (by omega) e0, ?_⟩
  obtain ⟨k3, hk3⟩ : ∃ k, k = w.heap.size := ⟨_, rfl⟩
  rw [← hk3] at hB1 ⊢
  apply slices_IndexFunc_ring_entry_ring_entry_call
  unfold slices_IndexFunc_ring_entry_ring_entry
  refine LoopS.ind (fun k us w' => ∃ i : Nat, i + k = es.length ∧ us = [.slice p es.length c, .func (.func F_ring_Ring_find_c1) #[] #[.pointer (some ⟨k3, 0, none⟩)], .int .i64 0, .int .i64 (es.length : Int), .int .i64 (i : Int)] ∧ Fr [] w1 w' ∧ ∀ j, j < i → ∀ e, (es.map RE.ke)[j]? = some e → (e.sq : Int) ≠ s) es.length ⟨0, by omega, rfl, Fr.refl _ _, by omega⟩ ?_
  rintro k us rr w2 I μ hgo ⟨i, hi, rfl, f2, hs⟩
  refine ⟨_, _, _, _, _, _, _, rfl, cond_d (fun h3 => ?_) fun h3 => ?_⟩
  · obtain ⟨e, he⟩ : ∃ e, es[i]? = some e := ⟨_, List.getElem?_eq_getElem (by omega)⟩
    obtain ⟨g, o, hx, _, hld⟩ := entIx (hO.fr0 (f1.then f2)) rfl he
    refine ⟨_, hx, _, _, _, _, _, hld, ?_⟩
    refine callV_in ?_
    apply ring_Ring_find_c1_call
    unfold ring_Ring_find_c1
    refine New.intro fun w3 f3 hB3 s3 => ⟨_, by rw [add_mk]; exact Ld.blk (by kernel_rfl) hB3 (by show (0 + 1 : Nat) < 3; omega) rfl, _, Ld.blk (by kernel_rfl) ((hB1.fr0 f2).fr0 f3) (by show (0 : Nat) < 1; omega) rfl, ?_⟩
    refine ⟨_, rfl, cond_eq (fun heq => ?_) fun hne => ?_⟩
    · obtain ⟨e1, e2⟩ := idxK_hit (ke_get he) heq hs
      have := hk w3 ((f1.then f2).then f3)
      unfold findI at this
      rw [if_pos e2, e1] at this
      exact ⟨_, rfl, this⟩
    · rw [wrap64 (by omega) (by omega)]
      refine hgo _ _ _ (k - 1) (by omega) ⟨i + 1, by omega, rfl, f2.then f3, fun j hj e' he' => ?_⟩
      by_cases hji : j = i
      · subst hji
        rw [ke_get he] at he'
        cases he'
        exact hne
      · exact hs j (by omega) e' he'
  · have hno := idxK_no (ks := es.map RE.ke) (s := s) fun j hj e he => hs j (by rw [List.length_map] at hj; omega) e he
    have := hk w2 (f1.then f2)
    unfold findI at this
    rw [if_neg hno] at this
    exact ⟨_, rfl, this⟩
theorem RingAt.sq {s : Int} (h : RingAt w b p es N lo) (hs : hasK (es.map RE.ke) s) : ∃ e, es[idxK (es.map RE.ke) s]? = some e ∧ (e.sq : Int) = s ∧ e ∈ es := by
  obtain ⟨e, h1, h2⟩ := hasK_at hs
  rw [List.getElem?_map] at h1
  cases he : es[idxK (es.map RE.ke) s]? with
  | none => rw [he] at h1; cases h1
  | some x =>
    rw [he] at h1
    cases h1
    exact ⟨x, rfl, h2, List.mem_of_getElem? he⟩
set_option maxHeartbeats 1000000 in
theorem ringOf_c (h : RingAt w b p es N lo) {s : Int} (hy : ∀ e w', hasK (es.map RE.ke) s → e ∈ es → es[idxK (es.map RE.ke) s]? = some e → (e.sq : Int) = s → Fr [] w w' → K (.tuple #[.agg #[.pointer (some ⟨e.bx, 0, none⟩), .int .i64 (e.sq : Int), .slice e.kp 16 e.kc], .bool true]) w')
    (hn : ∀ w', ¬ hasK (es.map RE.ke) s → Fr [] w w' → K (.tuple #[.agg #[.pointer none, .int .i64 0, .slice none 0 0], .bool false]) w') : callF Tryz.prog F_ring_Ring_of #[.pointer (some ⟨b, 0, none⟩), .int .i64 s] w K := by
  apply ring_Ring_of_call
  unfold ring_Ring_of
  refine newZ (s := 3) (by kernel_rfl) fun w1 g1 f1 hB1 s1 => ?_
  obtain ⟨k4, hk4⟩ : ∃ k, k = w.heap.size := ⟨_, rfl⟩
  rw [← hk4] at hB1 ⊢
  refine ringFind_c (h.fr0 f1) fun w2 f2 => ⟨_, rfl, ?_⟩
  have h2 := (h.fr0 f1).fr0 f2
  obtain ⟨f, c, hB, e0, hO⟩ := h2.blk
  have f02 := f1.then f2
  unfold findI
  by_cases hs : hasK (es.map RE.ke) s
  · rw [if_pos hs]
    obtain ⟨e, he, hes, hem⟩ := h2.sq hs
    refine cond_d (fun _ => ?_) fun hh => by omega
    obtain ⟨g, o, hx, _, hld⟩ := entIx hO rfl he
    refine ⟨_, rfl, _, _, _, by rw [add_mk]; exact Ld.blk (by kernel_rfl) hB (by omega) e0, _, hx, _, _, _, _, _, hld, ?_⟩
    refine Sto.agg (m := 3) (cs := e.v) (by kernel_rfl) rfl (hB1.fr0 f2) (by omega) e.v_one fun w3 f3 hB3 s3 => ⟨_, _, rfl, LdA (m := 3) (by kernel_rfl) (by kernel_rfl) hB3 (o := 0) (by omega) e.v rfl (fun j v hj => ?_), ?_⟩
    · obtain ⟨q1, q2⟩ := List.getElem?_eq_some_iff.1 hj
      unfold updN
      rw [dif_pos ⟨by omega, by omega⟩]
      simpa using q2
    · exact hy e w3 hs hem he hes (f02.st f3 (by omega))
  · rw [if_neg hs]
    refine cond_d (fun hh => by omega) fun _ => ?_
    refine Sto.agg (m := 3) (cs := [.pointer none, .int .i64 0, .slice none 0 0]) (by kernel_rfl) rfl (hB1.fr0 f2) (by omega) (by simp; exact ⟨rfl, rfl, rfl⟩) fun w3 f3 hB3 s3 => ⟨_, _, rfl, LdA (m := 3) (by kernel_rfl) (by kernel_rfl) hB3 (o := 0) (by omega) [.pointer none, .int .i64 0, .slice none 0 0] rfl (fun j v hj => ?_), ?_⟩
    · obtain ⟨q1, q2⟩ := List.getElem?_eq_some_iff.1 hj
      unfold updN
      rw [dif_pos ⟨by omega, by omega⟩]
      simpa using q2
    · exact hn w3 hs (f02.st f3 (by omega))
theorem ringBox_c (h : RingAt w b p es N lo) {s : Int} (hy : ∀ e w', hasK (es.map RE.ke) s → e ∈ es → es[idxK (es.map RE.ke) s]? = some e → (e.sq : Int) = s → Fr [] w w' → K (.tuple #[.pointer (some ⟨e.bx, 0, none⟩), .bool true]) w')
    (hn : ∀ w', ¬ hasK (es.map RE.ke) s → Fr [] w w' → K (.tuple #[.pointer none, .bool false]) w') : callF Tryz.prog F_ring_Ring_Box #[.pointer (some ⟨b, 0, none⟩), .int .i64 s] w K := by
  apply ring_Ring_Box_call
  unfold ring_Ring_Box
  have tail : ∀ {q : Option Addr} {n : Int} {q2 : Option Addr} {l c : Nat} {w1 : World} {b1 : Bool}, Fr [] w w1 → (∀ w', Fr [] w w' → K (.tuple #[.pointer q, .bool b1]) w') →
      ∃ z6, Pu Tryz.prog (zeroValue T_ring_entry) z6 ∧ New z6.cells T_ring_entry w1 fun k6 w2 => ∃ w3, Sto Tryz.prog T_ring_entry (.pointer (some ⟨k6, 0, none⟩)) (.agg #[.pointer q, .int .i64 n, .slice q2 l c]) w2 w3 ∧ ∃ p15, Ld Tryz.prog T_P_gcm_Box (.pointer (some ((⟨k6, 0, none⟩ : Addr).add 0))) w3 (.pointer p15) ∧ K (.tuple #[.pointer p15, .bool b1]) w3 := by
    intro q n q2 l c w1 b1 f1 hk
    refine newZ (s := 3) (by kernel_rfl) fun w2 g2 f2 hB2 s2 => ?_
    refine Sto.agg (m := 3) (cs := [.pointer q, .int .i64 n, .slice q2 l c]) (by kernel_rfl) rfl hB2 (by omega) (by simp; exact ⟨rfl, rfl, rfl⟩) fun w3 f3 hB3 s3 => ⟨_, by rw [add_mk]; exact Ld.blk (by kernel_rfl) hB3 (by omega) (by unfold updN; rw [dif_pos ⟨by omega, by simp⟩]; rfl), ?_⟩
    exact hk w3 (f1.then (f2.st f3 (Nat.le_refl _)))
  refine ringOf_c h (fun e w1 h1 h2 h3 h4 f1 => ⟨_, _, _, _, _, _, rfl, tail f1 fun w' f => hy e w' h1 h2 h3 h4 f⟩) (fun w1 h1 f1 => ⟨_, _, _, _, _, _, rfl, tail f1 fun w' f => hn w' h1 f⟩)
theorem ringKey_c (h : RingAt w b p es N lo) {s : Int} (hy : ∀ e q d w', hasK (es.map RE.ke) s → e ∈ es → es[idxK (es.map RE.ke) s]? = some e → (e.sq : Int) = s → Fr [] w w' → OB w' q 16 d e.key w.heap.size → K (.tuple #[.slice q 16 d, .bool true]) w')
    (hn : ∀ q d w', ¬ hasK (es.map RE.ke) s → Fr [] w w' → OB w' q 0 d [] w.heap.size → K (.tuple #[.slice q 0 d, .bool false]) w') : callF Tryz.prog F_ring_Ring_Key #[.pointer (some ⟨b, 0, none⟩), .int .i64 s] w K := by
  apply ring_Ring_Key_call
  unfold ring_Ring_Key
  have tail : ∀ {q : Option Addr} {n : Int} {q2 : Option Addr} {l c : Nat} {w1 : World} {b1 : Bool} {xs : List UInt8}, Fr [] w w1 → Row w1 q2 (xs.map vb) → l = xs.length → l ≤ 1000000 → (∀ q3 d w', Fr [] w w' → OB w' q3 l d xs w.heap.size → K (.tuple #[.slice q3 l d, .bool b1]) w') →
      ∃ z6, Pu Tryz.prog (zeroValue T_ring_entry) z6 ∧ New z6.cells T_ring_entry w1 fun k6 w2 => ∃ w3, Sto Tryz.prog T_ring_entry (.pointer (some ⟨k6, 0, none⟩)) (.agg #[.pointer q, .int .i64 n, .slice q2 l c]) w2 w3 ∧ ∃ p15 l15 c15, Ld Tryz.prog T_S_uint8 (.pointer (some ((⟨k6, 0, none⟩ : Addr).add 2))) w3 (.slice p15 l15 c15) ∧
        callF Tryz.prog F_slices_Clone_byte_byte #[.slice p15 l15 c15] w3 fun r16 w4 => ∃ p16 l16 c16, r16 = .slice p16 l16 c16 ∧ K (.tuple #[.slice p16 l16 c16, .bool b1]) w4 := by
    intro q n q2 l c w1 b1 xs f1 hR hl hlb hk
    refine newZ (s := 3) (by kernel_rfl) fun w2 g2 f2 hB2 s2 => ?_
    refine Sto.agg (m := 3) (cs := [.pointer q, .int .i64 n, .slice q2 l c]) (by kernel_rfl) rfl hB2 (by omega) (by simp; exact ⟨rfl, rfl, rfl⟩) fun w3 f3 hB3 s3 => ⟨_, _, _, by rw [add_mk]; exact Ld.blk (by kernel_rfl) hB3 (by omega) (by unfold updN; rw [dif_pos ⟨by omega, by simp⟩]; rfl), ?_⟩
    have f13 : Fr [] w1 w3 := f2.st f3 (Nat.le_refl _)
    have n3 := (f1.then f13).size
    refine slices_Clone_c (hR.fr0 f13) (by simpa using hl) hlb (cells_vb _) fun q3 d w4 f4 hO4 hn4 => ⟨_, _, _, rfl, hk q3 d w4 ((f1.then f13).then f4) ⟨hO4, hl, fun k hk => by have := hn4 k hk; omega⟩⟩
  refine ringOf_c h (fun e w1 h1 h2 h3 h4 f1 => ⟨_, _, _, _, _, _, rfl, ?_⟩) (fun w1 h1 f1 => ⟨_, _, _, _, _, _, rfl, tail (xs := []) f1 (Row.nil _ _) rfl (by omega) fun q3 d w' f hO => hn q3 d w' h1 f hO⟩)
  have hE := (h.ent e h2).1.fr0 f1
  have hl := hE.len
  obtain ⟨n, hb, n0, n1, hX, hR, _⟩ := hE
  exact tail (xs := e.key) f1 hR hl.symm (by omega) fun q3 d w' f hO => hy e q3 d w' h1 h2 h3 h4 f hO
end
end Go.Sh
end

section
namespace Go.Sh
open Go Go.Fw Go.Proofs
set_option maxRecDepth 100000
set_option linter.unusedVariables false
section
variable {w : World} {b lo : Nat} {p : Option Addr} {es : List RE} {N : Int} {K : Value → World → Prop}
theorem recells_one (es : List RE) : ∀ u ∈ es.flatMap RE.v, u.oneCell' = true := fm_all RE.v_one es
set_option maxHeartbeats 2000000 in
theorem ringInstall_c (h : RingAt w b p es N lo) (hN : 1 ≤ N) {s : Int} {q : Option Addr} {l cap : Nat} {key : List UInt8} (hx : Row w q (key.map vb)) (hl : l = key.length) (hcap : l ≤ cap)
    (hk : ∀ w' p' es', Fr (b :: blks p) w w' → RingAt w' b p' es' N lo → (∀ k ∈ blks p', k ∈ blks p ∨ w.heap.size ≤ k) →
      (insR (es.map RE.ke) s key ≠ 0 → es' = es ∧ p' = p) → (insR (es.map RE.ke) s key = 0 → ∃ e, es' = es ++ [e] ∧ e.ke = ⟨s.toNat, key⟩ ∧ w.heap.size ≤ e.lo) → K (.int .i64 (insR (es.map RE.ke) s key)) w') :
    callF Tryz.prog F_ring_Ring_Install #[.pointer (some ⟨b, 0, none⟩), .int .i64 s, .slice q l cap] w K := by
  apply ring_Ring_Install_call
  unfold ring_Ring_Install
  have hlen := h.len
  have same : ∀ (r : Int) w', insR (es.map RE.ke) s key = r → r ≠ 0 → Fr [] w w' → K (.int .i64 r) w' := by
    intro r w' hr h0 f
    have := hk w' p es (f.mono (by simp)) (h.fr0 f) (fun k hk => .inl hk) (fun _ => ⟨rfl, rfl⟩) (fun hh => absurd (hr.symm.trans hh) h0)
    rw [hr] at this; exact this
  have bad : ∀ {w' : World} {px : Option Addr} {bb : Bool}, bb = true → (s < 0 ∨ 127 < s ∨ key.length ≠ 16) → Fr [] w w' → ring_Ring_Install_j2 (some ⟨b, 0, none⟩) s q l cap 0 px bb w' K := by
    intro w' px bb hb hs f
    subst hb
    unfold ring_Ring_Install_j2
    exact cond_t (same 11 w' (by unfold insR; rw [if_pos hs]) (by omega) f)
  refine gcmNew_c hx hl hcap (fun h16 => ⟨_, _, rfl, ?_⟩) fun h16 bx w1 f1 hX => ⟨_, _, rfl, ?_⟩
  · refine cond_d (fun hs => bad rfl (.inl hs) (Fr.refl _ _)) fun _ => cond_d (fun hs => bad rfl (.inr (.inl hs)) (Fr.refl _ _)) fun _ => bad (by decide) (.inr (.inr (by omega))) (Fr.refl _ _)
  · refine cond_d (fun hs => bad rfl (.inl hs) f1) fun hs1 => cond_d (fun hs => bad rfl (.inr (.inl hs)) f1) fun hs2 => ?_
    have hin : ¬ (s < 0 ∨ 127 < s ∨ key.length ≠ 16) := by omega
    have e0 : ((0 : Int) != 0) = false := rfl
    rw [e0]
    unfold ring_Ring_Install_j2
    refine cond_f (ringFind_c (h.fr0 f1) fun w2 f2 => ⟨_, rfl, ?_⟩)
    have f02 := f1.then f2
    have h2 := h.fr0 f02
    unfold findI
    by_cases hs : hasK (es.map RE.ke) s
    · rw [if_pos hs]
      exact cond_d (fun _ => same 16 w2 (by unfold insR; rw [if_neg hin, if_pos hs]) (by omega) f02) fun hh => by omega
    · rw [if_neg hs]
      refine cond_d (fun hh => by omega) fun _ => ?_
      obtain ⟨f, c, hB, e1, hO⟩ := h2.blk
      refine ⟨_, rfl, _, _, _, by rw [add_mk]; exact Ld.blk (by kernel_rfl) hB (by omega) e1, cond_d (fun h3 => ?_) fun h3 => ?_⟩
      · exact same 18 w2 (by unfold insR; rw [if_neg hin, if_neg hs, if_pos (by rw [List.length_map]; omega)]) (by omega) f02
      · have hz : insR (es.map RE.ke) s key = 0 := by unfold insR; rw [if_neg hin, if_neg hs, if_neg (by rw [List.length_map]; omega)]
        unfold ring_Ring_Install_j1
        refine ⟨fun w' => Fr [] w2 w', Drw.intro fun w3 f3 s3 => ⟨_, rfl, _, _, _, ⟨f3, fun w' hw' => by rw [add_mk]; exact Ld.blk (by kernel_rfl) (hB.fr0 hw') (by omega) e1⟩, ?_⟩⟩
        have f03 := f02.then f3
        refine slices_Clone_c (hx.fr0 f03) (by simpa using hl) (by omega) (cells_vb _) fun kp kc w4 f4 hO4 hn4 => ⟨_, _, _, rfl, .inr (f3.then f4), ?_⟩
        have hO4 : OB w4 kp l kc key w3.heap.size := ⟨hO4, hl, hn4⟩
        subst h16
        obtain ⟨e, he⟩ : ∃ e : RE, e = ⟨s.toNat, key, bx, kp, kc, w.heap.size, w4.heap.size⟩ := ⟨_, rfl⟩
        refine ⟨_, _, _, Ef.new (v := .slice (some ⟨w4.heap.size, 0, none⟩) 1 1) (cs := (([.pointer (some ⟨bx, 0, none⟩), .int .i64 s, .slice kp 16 kc] : List Value)).toArray) (e := T_ring_entry) (by kernel_rfl) fun w5 f5 hB5 s5 => ⟨.inr ((f3.then f4).then f5), ?_⟩⟩
        have ev : e.v = [.pointer (some ⟨bx, 0, none⟩), .int .i64 s, .slice kp 16 kc] := by
          rw [he]
          show [Value.pointer (some ⟨bx, 0, none⟩), .int .i64 (s.toNat : Int), .slice kp 16 kc] = _
          rw [Int.toNat_of_nonneg (by omega)]
        rw [← ev] at hB5
        have f25 := (f3.then f4).then f5
        obtain ⟨p', c', w6, hap, hO6, f6, hcase⟩ := Ef.appendN (P := Tryz.prog) (t := T_S_ring_entry) (ty := T_S_ring_entry) (s := 3) (by kernel_rfl) (hO.fr0 f25) (m := 1) (d := 1) hB5.rowL rfl e.v_one (by omega)
        refine ⟨_, _, _, _, hap, ?_⟩
        have hbl := h2.lt b (List.mem_cons_self ..)
        have hpl : ∀ k ∈ blks p, k < w.heap.size := fun k hk => h.lt k (List.mem_cons_of_mem _ hk)
        have hbw := h.lt b (List.mem_cons_self ..)
        have harr := h.arr
        have hB6 := (hB.fr0 f25).fr f6 fun hm => (harr b hm).2 rfl
        refine ⟨_, rfl, ?_⟩
        rw [add_mk]
        refine Sto.blk (by kernel_rfl) hB6 (by omega) rfl rfl fun w7 f7 hB7 s7 => ?_
        have n1 := f1.size; have n2 := f2.size; have n3 := f3.size; have n4 := f4.size; have n5 := f5.size; have n6 := f6.size; have n7 := f7.size; have n02 := f02.size; have n25 := f25.size
        have hp' : ∀ k ∈ blks p', k ∈ blks p ∨ w5.heap.size ≤ k := by
          rcases hcase with ⟨rfl, _⟩ | ⟨rfl, _⟩
          · exact fun k hk => .inl hk
          · intro k hk; simp only [blks, List.mem_singleton] at hk; right; omega
        have hpn : ∀ k ∈ blks p', k ≠ b := by
          intro k hk hkb
          rcases hp' k hk with hh | hh
          · exact (harr k hh).2 hkb
          · omega
        have f57 : Fr (b :: blks p) w5 w7 := (f6.mono (fun k hk => List.mem_cons_of_mem _ hk)).trans f7 (fun k hk => .inl (by simp at hk; simp [hk]))
        have f07 : Fr (b :: blks p) w w7 := ((f02.then f25).mono (by simp)).trans f57 (fun k hk => .inl hk)
        have hold : ∀ x ∈ es, EntAt w7 x N ∧ lo ≤ x.lo ∧ x.sq ≤ 127 := fun x hx => ⟨(h.ent x hx).1.fr f07 fun k hk => h.sep k hk x hx, (h.ent x hx).2⟩
        have hkl : ∀ k ∈ b :: blks p, k < w.heap.size := h.lt
        have hnew : EntAt w7 e N ∧ lo ≤ e.lo ∧ e.sq ≤ 127 := by
          have hsz := h.siz
          refine ⟨?_, by rw [he]; exact hsz, by rw [he]; show s.toNat ≤ 127; omega⟩
          rw [he]
          have hX5 := (hX.fr0 f2).fr0 f25
          refine ⟨0, w1.heap.size, by omega, by omega, (hX5.mono hN).fr f57 (fun k hk => .inl (hkl k hk)), ?_, hO4.cap, fun k hk => ?_, by show w1.heap.size ≤ w4.heap.size; omega, by show w4.heap.size ≤ w7.heap.size; omega⟩
          · exact Row.cells_fr (hO4.fr0 f5).row f57 fun k hk hm => by have := hO4.2.2 k hk; have := hkl k hm; omega
          · show w1.heap.size ≤ k ∧ k < w4.heap.size
            have := hO4.2.2 k hk; have := hO4.lt k hk; omega
        have := hk w7 p' (es ++ [e]) f07 ?_ (fun k hk => by rcases hp' k hk with hh | hh; exact .inl hh; right; omega) (fun hh => absurd hz hh) (fun _ => ⟨e, rfl, by rw [he]; rfl, by rw [he]; exact Nat.le_refl _⟩)
        · rw [hz] at this; exact this
        · have hsz := h.siz
          refine ⟨⟨_, c', hB7, by rw [List.length_append]; exact upd_same _ _ _, ?_⟩, ?_, by rw [List.length_append]; show es.length + 1 ≤ 16; omega, ?_, ?_, ?_, by omega⟩
          · rw [List.length_append, List.flatMap_append, List.flatMap_cons, List.flatMap_nil, List.append_nil]
            exact hO6.fr f7 fun k hk hm => hpn k hk (by simpa using hm)
          · intro x hx
            rcases List.mem_append.1 hx with hx | hx
            · exact hold x hx
            · simp at hx; subst hx; exact hnew
          · rw [List.pairwise_append]
            refine ⟨h.pw, by simp, fun x hx y hy => ?_⟩
            simp at hy; subst hy
            have hx1 := (h.ent x hx).1.lh
            refine ⟨by rw [he]; exact hx1.2, fun hxs => hasK_not hs x.ke (List.mem_map_of_mem hx) ?_⟩
            rw [he] at hxs
            show (x.sq : Int) = s
            rw [hxs]; show ((s.toNat : Nat) : Int) = s; omega
          · intro k hk x hx
            have hkc : k ∈ b :: blks p ∨ w5.heap.size ≤ k := by
              rcases List.mem_cons.1 hk with rfl | hk
              · exact .inl (List.mem_cons_self ..)
              · rcases hp' k hk with hh | hh
                · exact .inl (List.mem_cons_of_mem _ hh)
                · exact .inr hh
            rcases List.mem_append.1 hx with hx | hx
            · rcases hkc with hh | hh
              · exact h.sep k hh x hx
              · have := (h.ent x hx).1.lh; right; omega
            · simp at hx; subst hx
              rcases hkc with hh | hh
              · left; rw [he]; exact hkl k hh
              · right; rw [he]; show w4.heap.size ≤ k; omega
          · intro k hk
            refine ⟨?_, hpn k hk⟩
            rcases hp' k hk with hh | hh
            · exact (harr k hh).1
            · omega
set_option maxHeartbeats 2000000 in
theorem slices_Delete_c {l c i : Nat} {vs : List Value} (hO : OwnN 3 w p l c vs) (hi : i < l) (hl : l ≤ 1000000) (h1 : ∀ u ∈ vs, u.oneCell' = true)
    (hk : ∀ w', Fr (blks p) w w' → OwnN 3 w' p (l - 1) c (vs.take (i * 3) ++ vs.drop ((i + 1) * 3)) → K (.slice p (l - 1) c) w') :
    callF Tryz.prog F_slices_Delete_ring_entry_ring_entry #[.slice p l c, .int .i64 (i : Int), .int .i64 ((i + 1 : Nat) : Int)] w K := by
  apply slices_Delete_ring_entry_ring_entry_call
  unfold slices_Delete_ring_entry_ring_entry
  have hlc := hO.cap
  have hvl := hO.1
  refine ⟨_, _, _, PuSl4 (s := 3) (kl := .i64) (kh := .i64) (km := .i64) (lo := (i : Int)) (hi := ((i + 1 : Nat) : Int)) (mx := (l : Int)) (by kernel_rfl) (by omega) (by omega) (by omega) (by omega), ?_⟩
  refine cond_eq (fun hh => by omega) fun _ => Drw.intro fun w1 f1 s1 => ?_
  have hO1 := hO.fr0 f1
  have hOc := hO1.cut (i := i) (by omega)
  obtain ⟨_, ⟨rfl, h0, _⟩ | ⟨g, o, N, f, rfl, hB, hoc, _, hf⟩⟩ := hO1
  · omega
  have p1 := PuTo (P := Tryz.prog) (t := T_S_ring_entry) (s := 3) (p := some ⟨g, o, none⟩) (len := l) (cap := c) (by kernel_rfl) (n := i) (by omega)
  rw [partAt_zero] at p1
  refine ⟨_, _, _, p1, _, _, _, PuFrom (s := 3) (by kernel_rfl) (n := i + 1) (by omega) hlc, ?_⟩
  have hR := (hO.fr0 f1).row.partN (c := c) (i := i + 1) (s := 3) (by omega) (by omega)
  obtain ⟨w2, hap, hO2, f2, s2⟩ := Ef.appendIn (P := Tryz.prog) (t := T_S_ring_entry) (ty := T_S_ring_entry) (s := 3) (by kernel_rfl) hOc (m := l - (i + 1)) (d := c - (i + 1)) hR (by rw [List.length_drop, hvl, Nat.sub_mul]) (fun u hu => h1 u (List.mem_of_mem_drop hu)) (by omega)
  refine ⟨_, _, _, _, hap, ?_⟩
  have el : i + (l - (i + 1)) = l - 1 := by omega
  rw [el] at hO2
  rw [el]
  refine ⟨_, _, _, PuMid (s := 3) (by kernel_rfl) (a := l - 1) (b := l) (by omega) hlc, ?_⟩
  rw [partAt_at (show c ≠ l - 1 by omega)]
  obtain ⟨hl2, ⟨hh, _⟩ | ⟨g2, o2, N2, f2', he, hB2, hoc2, hlc2, hf2⟩⟩ := hO2
  · cases hh
  cases he
  obtain ⟨w3, zs, hcl, f3, hz, hB3, s3⟩ := Ef.clearN (P := Tryz.prog) (t := T_S_ring_entry) (s := 3) (by kernel_rfl) hB2 (o := o + (l - 1) * 3) (n := l - (l - 1)) (d := c - (l - 1)) (by omega)
  refine ⟨w3, hcl, ?_⟩
  refine hk w3 ((f1.mono (by simp)).trans f2 (fun x hx => .inl hx) |>.trans f3 (fun x hx => .inl (by simpa [blks] using hx))) ⟨hl2, .inr ⟨g, o, N2, _, rfl, hB3, hoc2, hlc2, fun j v hj => ?_⟩⟩
  have hjl := (List.getElem?_eq_some_iff.1 hj).1
  unfold updN
  rw [dif_neg (by omega)]
  exact hf2 j v hj
set_option maxHeartbeats 2000000 in
theorem ringRetire_c (h : RingAt w b p es N lo) {s : Int}
    (hk : ∀ w' es', Fr (b :: blks p) w w' → RingAt w' b p es' N lo → (∀ e ∈ es', e ∈ es) → (retR (es.map RE.ke) s ≠ 0 → es' = es) → es'.map RE.ke = retK (es.map RE.ke) s → K (.int .i64 (retR (es.map RE.ke) s)) w') :
    callF Tryz.prog F_ring_Ring_Retire #[.pointer (some ⟨b, 0, none⟩), .int .i64 s] w K := by
  apply ring_Ring_Retire_call
  unfold ring_Ring_Retire
  have hlen := h.len
  refine ringFind_c h fun w1 f1 => ⟨_, rfl, ?_⟩
  have same : ∀ (r : Int), retR (es.map RE.ke) s = r → r ≠ 0 → K (.int .i64 r) w1 := by
    intro r hr h0
    have := hk w1 es (f1.mono (by simp)) (h.fr0 f1) (fun _ h => h) (fun _ => rfl) (by unfold retK; rw [if_neg (by rw [hr]; exact h0)])
    rw [hr] at this; exact this
  refine cond_d (fun hs => ?_) fun hs1 => ?_
  · unfold ring_Ring_Retire_j2
    exact cond_t (same 11 (by unfold retR; rw [if_pos (.inl hs)]) (by omega))
  unfold ring_Ring_Retire_j2
  refine cond_d (fun hs => same 11 (by unfold retR; rw [if_pos (.inr hs)]) (by omega)) fun hs2 => ?_
  have hin : ¬ (s < 0 ∨ 127 < s) := by omega
  unfold findI
  by_cases hs : hasK (es.map RE.ke) s
  · rw [if_pos hs]
    refine cond_d (fun hh => by omega) fun _ => ?_
    have hz : retR (es.map RE.ke) s = 0 := by unfold retR; rw [if_neg hin, if_pos hs]
    have hil : idxK (es.map RE.ke) s < es.length := by have : idxK (es.map RE.ke) s < (es.map RE.ke).length := hs; rwa [List.length_map] at this
    have hrK : retK (es.map RE.ke) s = ((es.map RE.ke).take (idxK (es.map RE.ke) s) ++ (es.map RE.ke).drop (idxK (es.map RE.ke) s + 1)) := by unfold retK; rw [if_pos hz]
    obtain ⟨i, hi⟩ : ∃ i, i = idxK (es.map RE.ke) s := ⟨_, rfl⟩
    rw [← hi] at hil hrK ⊢
    unfold ring_Ring_Retire_j1
    have h1 := h.fr0 f1
    obtain ⟨f, c, hB, e1, hO⟩ := h1.blk
    refine ⟨_, rfl, _, _, _, by rw [add_mk]; exact Ld.blk (by kernel_rfl) hB (by omega) e1, ?_⟩
    have ew : IntKind.i64.wrap ((i : Int) + 1) = ((i + 1 : Nat) : Int) := by rw [wrap64 (by omega) (by omega)]; omega
    rw [ew]
    refine slices_Delete_c hO hil (by omega) (recells_one es) fun w2 f2 hO2 => ⟨_, _, _, rfl, _, rfl, ?_⟩
    have harr := h.arr
    have hB2 := hB.fr f2 fun hm => (harr b hm).2 rfl
    rw [add_mk]
    refine Sto.blk (by kernel_rfl) hB2 (by omega) rfl rfl fun w3 f3 hB3 s3 => ?_
    have f13 : Fr (b :: blks p) w1 w3 := (f2.mono (fun k hk => List.mem_cons_of_mem _ hk)).trans f3 (fun k hk => .inl (by simp at hk; simp [hk]))
    have f03 : Fr (b :: blks p) w w3 := (f1.mono (by simp)).trans f13 (fun k hk => .inl hk)
    have hsub : (es.take i ++ es.drop (i + 1)).Sublist es := by
      have : (es.eraseIdx i).Sublist es := List.eraseIdx_sublist ..
      rwa [List.eraseIdx_eq_take_drop_succ] at this
    have hmem : ∀ e ∈ es.take i ++ es.drop (i + 1), e ∈ es := fun e he => hsub.subset he
    have hln : (es.take i ++ es.drop (i + 1)).length = es.length - 1 := by rw [List.length_append, List.length_take, List.length_drop]; omega
    have := hk w3 (es.take i ++ es.drop (i + 1)) f03 ⟨⟨_, c, hB3, by rw [hln]; exact upd_same _ _ _, ?_⟩, ?_, by rw [hln]; omega, h.pw.sublist hsub, fun k hk e he => h.sep k hk e (hmem e he), harr, Nat.le_trans h.siz f03.size⟩ hmem (fun hh => absurd hz hh) ?_
    · rw [hz] at this; exact this
    · rw [hln, List.flatMap_append, ← fm_take RE.v_len, ← fm_drop RE.v_len]
      exact hO2.fr f3 fun k hk hm => (harr k hk).2 (by simpa using hm)
    · intro e he
      exact ⟨(h.ent e (hmem e he)).1.fr f03 fun k hk => h.sep k hk e (hmem e he), (h.ent e (hmem e he)).2⟩
    · rw [hrK, List.map_append, List.map_take, List.map_drop]
  · rw [if_neg hs]
    exact cond_d (fun _ => same 17 (by unfold retR; rw [if_neg hin, if_neg hs]) (by omega)) fun hh => by omega
end
end Go.Sh
end

section
namespace Go.Sh
open Go Go.Fw Go.Proofs
set_option maxRecDepth 100000
set_option linter.unusedVariables false
structure RR where
  sq : Nat
  key : List UInt8
  kp : Option Addr
  kc : Nat
def RR.ke (e : RR) : KE := ⟨e.sq, e.key⟩
def RR.v (e : RR) : List Value := [.int .i64 (e.sq : Int), .slice e.kp 16 e.kc]
theorem RR.v_len (e : RR) : e.v.length = 2 := rfl
theorem RR.v_one (e : RR) : ∀ u ∈ e.v, u.oneCell' = true := by
  intro u hu
  simp [RR.v] at hu
  rcases hu with rfl | rfl <;> rfl
theorem rrcells_one (rs : List RR) : ∀ u ∈ rs.flatMap RR.v, u.oneCell' = true := fm_all RR.v_one rs
structure RefAt (w : World) (r : Nat) (q : Option Addr) (rs : List RR) (lo : Nat) : Prop where
  blk : ∃ f c, Blk w r 1 f ∧ f 0 = .slice q rs.length c ∧ OwnN 2 w q rs.length c (rs.flatMap RR.v)
  ent : ∀ e ∈ rs, Row w e.kp (e.key.map vb) ∧ e.key.length = 16 ∧ 16 ≤ e.kc ∧ ∀ k ∈ blks e.kp, k ∉ r :: blks q ∧ k < w.heap.size
  len : rs.length ≤ 16
  arr : ∀ k ∈ blks q, lo ≤ k ∧ k ≠ r
  siz : lo ≤ w.heap.size
def offS (r : Nat) (q : Option Addr) (rs : List RR) (k : Nat) : Prop := k ∉ r :: blks q ∧ ∀ e ∈ rs, k ∉ blks e.kp
section
variable {w : World} {r lo : Nat} {q : Option Addr} {rs : List RR} {K : Value → World → Prop}
theorem RefAt.fr {w' : World} {L : List Nat} (h : RefAt w r q rs lo) (hf : Fr L w w') (hL : ∀ k ∈ L, offS r q rs k) : RefAt w' r q rs lo := by
  obtain ⟨⟨f, c, hB, e0, hO⟩, h2, h3, h4, h5⟩ := h
  refine ⟨⟨f, c, hB.fr hf fun hb => (hL r hb).1 (List.mem_cons_self ..), e0, hO.fr hf fun k hk hm => (hL k hm).1 (List.mem_cons_of_mem _ hk)⟩, fun e he => ?_, h3, h4, Nat.le_trans h5 hf.size⟩
  obtain ⟨a1, a2, a3, a4⟩ := h2 e he
  exact ⟨Row.cells_fr a1 hf fun k hk hm => (hL k hm).2 e he hk, a2, a3, fun k hk => ⟨(a4 k hk).1, Nat.lt_of_lt_of_le (a4 k hk).2 hf.size⟩⟩
theorem RefAt.fr0 {w' : World} (h : RefAt w r q rs lo) (hf : Fr [] w w') : RefAt w' r q rs lo := h.fr hf (by simp)
theorem RefAt.lt (h : RefAt w r q rs lo) : ∀ k ∈ r :: blks q, k < w.heap.size := by
  obtain ⟨⟨f, c, hB, e0, hO⟩, _⟩ := h
  intro k hk
  rcases List.mem_cons.1 hk with rfl | hk
  · exact hB.lt
  · exact hO.lt k hk
theorem RefAt.ofNew {f : Nat → Value} (hB : Blk w r 1 f) (h0 : f 0 = .slice none 0 0) : RefAt w r none [] w.heap.size :=
  ⟨⟨f, 0, hB, h0, OwnN.nil _ _⟩, by simp, by simp, by simp [blks], Nat.le_refl _⟩
theorem rkey_get {i : Nat} {e : RR} (he : rs[i]? = some e) : (rs.map RR.ke)[i]? = some e.ke := by rw [List.getElem?_map, he]; rfl
theorem rowIx {l c i : Nat} {e : RR} (hO : OwnN 2 w q l c (rs.flatMap RR.v)) (hl : l = rs.length) (he : rs[i]? = some e) :
    ∃ g o, IxA Tryz.prog T_S_ref19_Row (.slice q l c) (.int .i64 (i : Int)) ⟨g, o, none⟩ ∧ Ld Tryz.prog T_int (.pointer (some ((⟨g, o, none⟩ : Addr).add 0))) w (.int .i64 (e.sq : Int)) ∧
      Ld Tryz.prog T_S_uint8 (.pointer (some ((⟨g, o, none⟩ : Addr).add 1))) w (.slice e.kp 16 e.kc) := by
  have hil : i < l := by have := (List.getElem?_eq_some_iff.1 he).1; omega
  obtain ⟨g, o, hx, _, hc⟩ := hO.cellAt (P := Tryz.prog) (t := T_S_ref19_Row) (by kernel_rfl) (k := .i64) (i := i) hil (by omega)
  have hc' : ∀ j v, e.v[j]? = some v → w.cell? ⟨g, o + j, none⟩ = some v := fun j v hj => by
    have hlt := (List.getElem?_eq_some_iff.1 hj).1
    exact hc j v (by rw [RR.v_len] at hlt; omega) (fm_get RR.v_len he hj)
  exact ⟨g, o, hx, by rw [add_mk]; exact Ld.cell (by kernel_rfl) (hc' 0 _ rfl), by rw [add_mk]; exact Ld.cell (by kernel_rfl) (hc' 1 _ rfl)⟩
theorem refFind_c (h : RefAt w r q rs lo) {s : Int} (hk : K (.int .i64 (findI (rs.map RR.ke) s)) w) : callF Tryz.prog F_ref19_Ring_Find #[.pointer (some ⟨r, 0, none⟩), .int .i64 s] w K := by
  apply ref19_Ring_Find_call
  unfold ref19_Ring_Find
  obtain ⟨f, c, hB, e0, hO⟩ := h.blk
  have hlen := h.len
  have ldx : Ld Tryz.prog T_S_ref19_Row (.pointer (some ((⟨r, 0, none⟩ : Addr).add 0))) w (.slice q rs.length c) := by rw [add_mk]; exact Ld.blk (by kernel_rfl) hB (by omega) e0
  refine LoopS.ind (fun k us w' => w' = w ∧ ∃ i : Nat, i + k = rs.length ∧ us = [.pointer (some ⟨r, 0, none⟩), .int .i64 s, .int .i64 0, .int .i64 (i : Int)] ∧ ∀ j, j < i → ∀ e, (rs.map RR.ke)[j]? = some e → (e.sq : Int) ≠ s) rs.length ⟨rfl, 0, by omega, rfl, by omega⟩ ?_
  rintro k us rr w2 I μ hgo ⟨rfl, i, hi, rfl, hs⟩
  refine ⟨_, _, _, _, rfl, _, rfl, _, _, _, ldx, cond_d (fun h3 => ?_) fun h3 => ?_⟩
  · obtain ⟨e, he⟩ : ∃ e, rs[i]? = some e := ⟨_, List.getElem?_eq_getElem (by omega)⟩
    obtain ⟨g, o, hx, hsq, _⟩ := rowIx hO rfl he
    refine ⟨_, rfl, _, _, _, ldx, _, hx, _, hsq, cond_eq (fun heq => ?_) fun hne => ?_⟩
    · obtain ⟨e1, e2⟩ := idxK_hit (rkey_get he) heq hs
      unfold findI at hk
      rw [if_pos e2, e1] at hk
      exact hk
    · rw [wrap64 (by omega) (by omega)]
      refine hgo _ _ _ (k - 1) (by omega) ⟨rfl, i + 1, by omega, rfl, fun j hj e' he' => ?_⟩
      by_cases hji : j = i
      · subst hji
        rw [rkey_get he] at he'
        cases he'
        exact hne
      · exact hs j (by omega) e' he'
  · have hno := idxK_no (ks := rs.map RR.ke) (s := s) fun j hj e he => hs j (by rw [List.length_map] at hj; omega) e he
    unfold findI at hk
    rw [if_neg hno] at hk
    exact hk
set_option maxHeartbeats 2000000 in
theorem refInstall_c (h : RefAt w r q rs lo) {s : Int} {kq : Option Addr} {l cap : Nat} {key : List UInt8} (hx : Row w kq (key.map vb)) (hl : l = key.length) (hcap : l ≤ cap)
    (hk : ∀ w' q' rs', Fr (r :: blks q) w w' → RefAt w' r q' rs' lo → (∀ k ∈ blks q', k ∈ blks q ∨ w.heap.size ≤ k) → (∀ e ∈ rs', e ∈ rs ∨ ∀ k ∈ blks e.kp, w.heap.size ≤ k) → rs'.map RR.ke = insK (rs.map RR.ke) s key → K (.int .i64 (insR (rs.map RR.ke) s key)) w') :
    callF Tryz.prog F_ref19_Ring_Install #[.pointer (some ⟨r, 0, none⟩), .int .i64 s, .slice kq l cap] w K := by
  apply ref19_Ring_Install_call
  unfold ref19_Ring_Install
  have hlen := h.len
  have same : ∀ (n : Int), insR (rs.map RR.ke) s key = n → n ≠ 0 → K (.int .i64 n) w := by
    intro n hr h0
    have := hk w q rs (Fr.refl _ _) h (fun k hk => .inl hk) (fun e he => .inl he) (by unfold insK; rw [if_neg (by rw [hr]; exact h0)])
    rw [hr] at this; exact this
  refine cond_d (fun hs => same 11 (by unfold insR; rw [if_pos (.inl hs)]) (by omega)) fun hs1 => cond_d (fun hs => same 11 (by unfold insR; rw [if_pos (.inr (.inl hs))]) (by omega)) fun hs2 => cond_ne (fun h16 => same 11 (by unfold insR; rw [if_pos (.inr (.inr (by omega)))]) (by omega)) fun h16 => ?_
  have hin : ¬ (s < 0 ∨ 127 < s ∨ key.length ≠ 16) := by omega
  unfold ref19_Ring_Install_j1
  refine refFind_c h ⟨_, rfl, ?_⟩
  unfold findI
  by_cases hs : hasK (rs.map RR.ke) s
  · rw [if_pos hs]
    exact cond_d (fun _ => same 16 (by unfold insR; rw [if_neg hin, if_pos hs]) (by omega)) fun hh => by omega
  · rw [if_neg hs]
    refine cond_d (fun hh => by omega) fun _ => ?_
    obtain ⟨f, c, hB, e1, hO⟩ := h.blk
    have ldx : ∀ {w'}, Fr [] w w' → Ld Tryz.prog T_S_ref19_Row (.pointer (some ((⟨r, 0, none⟩ : Addr).add 0))) w' (.slice q rs.length c) := fun {w'} f => by rw [add_mk]; exact Ld.blk (by kernel_rfl) (hB.fr0 f) (by omega) e1
    refine ⟨_, rfl, _, _, _, ldx (Fr.refl _ _), cond_eq (fun h3 => ?_) fun h3 => ?_⟩
    · exact same 18 (by unfold insR; rw [if_neg hin, if_neg hs, if_pos (by rw [List.length_map]; omega)]) (by omega)
    · have hz : insR (rs.map RR.ke) s key = 0 := by unfold insR; rw [if_neg hin, if_neg hs, if_neg (by rw [List.length_map]; omega)]
      refine ⟨fun w' => Fr [] w w', Drw.intro fun w2 f2 s2 => ⟨_, rfl, _, _, _, ⟨f2, fun w' hw' => ldx hw'⟩, ?_⟩⟩
      refine mk0 fun p3 w3 f3 hO3 s3 => ⟨.inr (f2.then f3), ?_⟩
      refine pushN (m := l) hO3 (by omega) ((hx.fr0 f2).fr0 f3) hl (by omega) fun kp kc w4 f4 hO4 => ?_
      have f24 : Fr [] w2 w4 := f3.trans f4 (fun y hy => .inr (hO3.2.2 y hy))
      have f04 := f2.then f24
      refine ⟨.inr f04, ?_⟩
      have hl16 : 0 + l = 16 := by omega
      rw [hl16, List.nil_append] at hO4
      rw [hl16]
      obtain ⟨e, he⟩ : ∃ e : RR, e = ⟨s.toNat, key, kp, kc⟩ := ⟨_, rfl⟩
      refine ⟨_, _, _, Ef.new (v := .slice (some ⟨w4.heap.size, 0, none⟩) 1 1) (cs := (([.int .i64 s, .slice kp 16 kc] : List Value)).toArray) (e := T_ref19_Row) (by kernel_rfl) fun w5 f5 hB5 s5 => ⟨.inr (f04.then f5), ?_⟩⟩
      have ev : e.v = [.int .i64 s, .slice kp 16 kc] := by
        rw [he]
        show [Value.int .i64 (s.toNat : Int), .slice kp 16 kc] = _
        rw [Int.toNat_of_nonneg (by omega)]
      rw [← ev] at hB5
      have f05 := f04.then f5
      obtain ⟨q', c', w6, hap, hO6, f6, hcase⟩ := Ef.appendN (P := Tryz.prog) (t := T_S_ref19_Row) (ty := T_S_ref19_Row) (s := 2) (by kernel_rfl) (hO.fr0 f05) (m := 1) (d := 1) hB5.rowL rfl e.v_one (by omega)
      refine ⟨_, _, _, _, hap, ?_⟩
      have hql : ∀ k ∈ r :: blks q, k < w.heap.size := h.lt
      have hrl := hql r (List.mem_cons_self ..)
      have harr := h.arr
      have hB6 := (hB.fr0 f05).fr f6 fun hm => (harr r hm).2 rfl
      refine ⟨_, rfl, ?_⟩
      rw [add_mk]
      refine Sto.blk (by kernel_rfl) hB6 (by omega) rfl rfl fun w7 f7 hB7 s7 => ?_
      have n2 := f2.size; have n3 := f3.size; have n24 := f24.size; have n5 := f5.size; have n6 := f6.size; have n7 := f7.size; have n05 := f05.size
      have hq' : ∀ k ∈ blks q', k ∈ blks q ∨ w5.heap.size ≤ k := by
        rcases hcase with ⟨rfl, _⟩ | ⟨rfl, _⟩
        · exact fun k hk => .inl hk
        · intro k hk; simp only [blks, List.mem_singleton] at hk; right; omega
      have hqn : ∀ k ∈ blks q', k ≠ r := by
        intro k hk hkr
        rcases hq' k hk with hh | hh
        · exact (harr k hh).2 hkr
        · omega
      have hqc : ∀ k ∈ r :: blks q', k ∈ r :: blks q ∨ w5.heap.size ≤ k := by
        intro k hk
        rcases List.mem_cons.1 hk with rfl | hk
        · exact .inl (List.mem_cons_self ..)
        · rcases hq' k hk with hh | hh
          · exact .inl (List.mem_cons_of_mem _ hh)
          · exact .inr hh
      have f57 : Fr (r :: blks q) w5 w7 := (f6.mono (fun k hk => List.mem_cons_of_mem _ hk)).trans f7 (fun k hk => .inl (by simp at hk; simp [hk]))
      have f07 : Fr (r :: blks q) w w7 := (f05.mono (by simp)).trans f57 (fun k hk => .inl hk)
      have := hk w7 q' (rs ++ [e]) f07 ?_ (fun k hk => by rcases hq' k hk with hh | hh; exact .inl hh; right; omega) (fun x hx => ?_) ?_
      · rw [hz] at this; exact this
      · have hsz := h.siz
        refine ⟨⟨_, c', hB7, by rw [List.length_append]; exact upd_same _ _ _, ?_⟩, ?_, by rw [List.length_append]; show rs.length + 1 ≤ 16; omega, fun k hk => ⟨?_, hqn k hk⟩, by omega⟩
        · rw [List.length_append, List.flatMap_append, List.flatMap_cons, List.flatMap_nil, List.append_nil]
          exact hO6.fr f7 fun k hk hm => hqn k hk (by simpa using hm)
        · intro x hx
          rcases List.mem_append.1 hx with hx | hx
          · obtain ⟨a1, a2, a3, a4⟩ := h.ent x hx
            refine ⟨Row.cells_fr a1 f07 fun k hk hm => (a4 k hk).1 hm, a2, a3, fun k hk => ⟨fun hm => ?_, by have := (a4 k hk).2; omega⟩⟩
            rcases hqc k hm with hh | hh
            · exact (a4 k hk).1 hh
            · have := (a4 k hk).2; omega
          · simp at hx; subst hx
            rw [he]
            refine ⟨Row.cells_fr (hO4.fr0 f5).row f57 fun k hk hm => by have := hO4.2.2 k hk; have := hql k hm; omega, by show key.length = 16; omega, hO4.cap, fun k hk => ⟨fun hm => ?_, by have := hO4.lt k hk; omega⟩⟩
            have h1 := hO4.2.2 k hk; have h2 := hO4.lt k hk
            rcases hqc k hm with hh | hh
            · have := hql k hh; omega
            · omega
        · rcases hq' k hk with hh | hh
          · exact (harr k hh).1
          · omega
      · rcases List.mem_append.1 hx with hx | hx
        · exact .inl hx
        · simp at hx; subst hx
          right
          rw [he]
          intro k hk
          have := hO4.2.2 k hk; omega
      · unfold insK
        rw [if_pos hz, List.map_append, he]; rfl
set_option maxHeartbeats 2000000 in
theorem refRetire_c (h : RefAt w r q rs lo) {s : Int}
    (hk : ∀ w' q' rs', Fr (r :: blks q) w w' → RefAt w' r q' rs' lo → (∀ k ∈ blks q', k ∈ blks q ∨ w.heap.size ≤ k) → (∀ e ∈ rs', e ∈ rs) → rs'.map RR.ke = retK (rs.map RR.ke) s → K (.int .i64 (retR (rs.map RR.ke) s)) w') :
    callF Tryz.prog F_ref19_Ring_Retire #[.pointer (some ⟨r, 0, none⟩), .int .i64 s] w K := by
  apply ref19_Ring_Retire_call
  unfold ref19_Ring_Retire
  have hlen := h.len
  have same : ∀ (n : Int), retR (rs.map RR.ke) s = n → n ≠ 0 → K (.int .i64 n) w := by
    intro n hr h0
    have := hk w q rs (Fr.refl _ _) h (fun k hk => .inl hk) (fun e he => he) (by unfold retK; rw [if_neg (by rw [hr]; exact h0)])
    rw [hr] at this; exact this
  refine cond_d (fun hs => same 11 (by unfold retR; rw [if_pos (.inl hs)]) (by omega)) fun hs1 => cond_d (fun hs => same 11 (by unfold retR; rw [if_pos (.inr hs)]) (by omega)) fun hs2 => ?_
  have hin : ¬ (s < 0 ∨ 127 < s) := by omega
  unfold ref19_Ring_Retire_j1
  refine refFind_c h ⟨_, rfl, ?_⟩
  unfold findI
  by_cases hs : hasK (rs.map RR.ke) s
  · rw [if_pos hs]
    refine cond_d (fun hh => by omega) fun _ => ?_
    have hz : retR (rs.map RR.ke) s = 0 := by unfold retR; rw [if_neg hin, if_pos hs]
    have hil : idxK (rs.map RR.ke) s < rs.length := by have : idxK (rs.map RR.ke) s < (rs.map RR.ke).length := hs; rwa [List.length_map] at this
    have hrK : retK (rs.map RR.ke) s = ((rs.map RR.ke).take (idxK (rs.map RR.ke) s) ++ (rs.map RR.ke).drop (idxK (rs.map RR.ke) s + 1)) := by unfold retK; rw [if_pos hz]
    obtain ⟨i, hi⟩ : ∃ i, i = idxK (rs.map RR.ke) s := ⟨_, rfl⟩
    rw [← hi] at hil hrK ⊢
    obtain ⟨f, c, hB, e1, hO⟩ := h.blk
    have hlc := hO.cap
    have ldx : ∀ {w'}, Fr [] w w' → Ld Tryz.prog T_S_ref19_Row (.pointer (some ((⟨r, 0, none⟩ : Addr).add 0))) w' (.slice q rs.length c) := fun {w'} f => by rw [add_mk]; exact Ld.blk (by kernel_rfl) (hB.fr0 f) (by omega) e1
    have ew : IntKind.i64.wrap ((i : Int) + 1) = ((i + 1 : Nat) : Int) := by rw [wrap64 (by omega) (by omega)]; omega
    refine ⟨fun w' => Fr [] w w', Drw.intro fun w2 f2 s2 => ⟨_, rfl, _, rfl, _, _, _, ⟨f2, fun w' hw' => ldx hw'⟩, ?_⟩⟩
    rw [ew]
    refine ⟨_, _, _, PuTo (s := 2) (by kernel_rfl) (n := i) (by omega), _, _, _, ⟨f2, fun w' hw' => ldx hw'⟩, _, _, _, PuFrom (s := 2) (by kernel_rfl) (n := i + 1) (by omega) hlc, ?_⟩
    refine ⟨_, _, _, Ef.new (cs := #[]) (v := .slice (some ⟨w2.heap.size, 0, none⟩) 0 0) (e := T_ref19_Row) (by kernel_rfl) fun w3 f3 hB3 s3 => ⟨.inr (f2.then f3), ?_⟩⟩
    have hO3 : OwnN 2 w3 (some ⟨w2.heap.size, 0, none⟩) 0 0 [] := ⟨rfl, .inr ⟨_, _, _, _, rfl, hB3, by simp, by simp, by simp⟩⟩
    have f03 := f2.then f3
    have hv := hO.1
    have hR1 : Row w3 (Go.Fw.partAt q c 0 2) ((rs.flatMap RR.v).take (i * 2)) := by
      have := ((hO.fr0 f03).row.partN (c := c) (i := 0) (s := 2) (by omega) (by omega)).take (i * 2)
      rwa [Nat.zero_mul, List.drop_zero] at this
    obtain ⟨p4, c4, w4, hap4, hO4, f4, hcase4⟩ := Ef.appendN (P := Tryz.prog) (t := T_S_ref19_Row) (ty := T_S_ref19_Row) (s := 2) (by kernel_rfl) hO3 (m := i) (d := c) hR1 (by rw [List.length_take]; omega) (fun u hu => rrcells_one rs u (List.mem_of_mem_take hu)) (by omega)
    rw [Nat.zero_add, List.nil_append] at hO4
    rw [Nat.zero_add] at hap4
    have hp4 : ∀ k ∈ blks p4, w.heap.size ≤ k := by
      have := f2.size; have := f3.size
      rcases hcase4 with ⟨rfl, _⟩ | ⟨rfl, _⟩
      · intro k hk; simp [blks] at hk; omega
      · intro k hk; simp only [blks, List.mem_singleton] at hk; omega
    have f24 : Fr [] w2 w4 := f3.trans f4 (fun k hk => .inr (by simp [blks] at hk; omega))
    have f04 := f2.then f24
    refine ⟨_, _, _, _, hap4, .inr f04, ?_⟩
    have hR2 := (hO.fr0 f04).row.partN (c := c) (i := i + 1) (s := 2) (by omega) (by omega)
    obtain ⟨p5, c5, w5, hap5, hO5, f5, hcase5⟩ := Ef.appendN (P := Tryz.prog) (t := T_S_ref19_Row) (ty := T_S_ref19_Row) (s := 2) (by kernel_rfl) hO4 (m := rs.length - (i + 1)) (d := c - (i + 1)) hR2 (by rw [List.length_drop, hv, Nat.sub_mul]) (fun u hu => rrcells_one rs u (List.mem_of_mem_drop hu)) (by omega)
    have hp5 : ∀ k ∈ blks p5, w.heap.size ≤ k := by
      have := f04.size
      rcases hcase5 with ⟨rfl, _⟩ | ⟨rfl, _⟩
      · exact hp4
      · intro k hk; simp only [blks, List.mem_singleton] at hk; omega
    have f05 : Fr [] w w5 := f04.trans f5 (fun k hk => .inr (hp4 k hk))
    refine ⟨_, _, _, _, hap5, _, rfl, ?_⟩
    have hrl := h.lt r (List.mem_cons_self ..)
    rw [add_mk]
    refine Sto.blk (by kernel_rfl) (hB.fr0 f05) (by omega) rfl rfl fun w6 f6 hB6 s6 => ?_
    have f06 : Fr (r :: blks q) w w6 := (f05.mono (by simp)).trans f6 (fun k hk => .inl (by simp at hk; simp [hk]))
    have n6 := f06.size
    have hsub : (rs.take i ++ rs.drop (i + 1)).Sublist rs := by
      have : (rs.eraseIdx i).Sublist rs := List.eraseIdx_sublist ..
      rwa [List.eraseIdx_eq_take_drop_succ] at this
    have hmem : ∀ e ∈ rs.take i ++ rs.drop (i + 1), e ∈ rs := fun e he => hsub.subset he
    have hln : (rs.take i ++ rs.drop (i + 1)).length = rs.length - 1 := by rw [List.length_append, List.length_take, List.length_drop]; omega
    have hln2 : i + (rs.length - (i + 1)) = rs.length - 1 := by omega
    have := hk w6 p5 (rs.take i ++ rs.drop (i + 1)) f06 ⟨⟨_, c5, hB6, by rw [hln, hln2]; exact upd_same _ _ _, ?_⟩, ?_, by rw [hln]; omega, fun k hk => ⟨by have := hp5 k hk; have := h.siz; omega, fun hh => by have := hp5 k hk; omega⟩, Nat.le_trans h.siz n6⟩ (fun k hk => .inr (hp5 k hk)) hmem ?_
    · rw [hz] at this; exact this
    · rw [hln, List.flatMap_append, ← fm_take RR.v_len, ← fm_drop RR.v_len, ← hln2]
      exact hO5.fr f6 fun k hk hm => by have := hp5 k hk; simp at hm; omega
    · intro e he
      obtain ⟨a1, a2, a3, a4⟩ := h.ent e (hmem e he)
      refine ⟨Row.cells_fr a1 f06 fun k hk hm => (a4 k hk).1 hm, a2, a3, fun k hk => ⟨fun hm => ?_, by have := (a4 k hk).2; omega⟩⟩
      rcases List.mem_cons.1 hm with hkr | hm
      · exact (a4 k hk).1 (by rw [hkr]; exact List.mem_cons_self ..)
      · have := hp5 k hm; have := (a4 k hk).2; omega
    · rw [hrK, List.map_append, List.map_take, List.map_drop]
  · rw [if_neg hs]
    exact cond_d (fun _ => same 17 (by unfold retR; rw [if_neg hin, if_neg hs]) (by omega)) fun hh => by omega
end
end Go.Sh
end

section
namespace Go.Sh
open Go Go.Fw Go.Proofs
set_option maxRecDepth 100000
set_option linter.unusedVariables false
structure RC where
  op : Int
  sq : Int
  kp : Option Addr
  kc : Nat
  key : List UInt8
def RC.v (x : RC) : List Value := [.int .i64 x.op, .int .i64 x.sq, .slice x.kp x.key.length x.kc]
theorem RC.v_len (x : RC) : x.v.length = 3 := rfl
def RC.ok (w : World) (x : RC) : Prop := Row w x.kp (x.key.map vb) ∧ x.key.length ≤ x.kc
theorem RC.ok.fr0 {w w' : World} {x : RC} (h : RC.ok w x) (f : Fr [] w w') : RC.ok w' x := ⟨h.1.fr0 f, h.2⟩
theorem rcalls_of {w : World} : ∀ (vss : List (List Value)), (∀ vs ∈ vss, vs.length = 3 ∧ DecL w [.int .i64, .int .i64, .bytes] vs) → ∃ cs : List RC, (∀ x ∈ cs, RC.ok w x) ∧ cs.length = vss.length ∧ vss.flatten = cs.flatMap RC.v := by
  intro vss
  induction vss with
  | nil => intro _; exact ⟨[], by simp, rfl, rfl⟩
  | cons vs l ih =>
    intro h
    obtain ⟨cs, h1, h2, h3⟩ := ih fun y hy => h y (List.mem_cons_of_mem _ hy)
    obtain ⟨a1, r1, e1, ⟨op, rfl, _⟩, a2, r2, e2, ⟨sq, rfl, _⟩, a3, r3, e3, ⟨q, xs, c, rfl, hc, _, hR⟩, rfl⟩ := (h vs (List.mem_cons_self ..)).2
    refine ⟨⟨op, sq, q, c, xs⟩ :: cs, fun x hx => ?_, by simp [h2], ?_⟩
    · rcases List.mem_cons.1 hx with rfl | hx
      · exact ⟨hR, hc⟩
      · exact h1 x hx
    · rw [List.flatten_cons, h3, e1, e2, e3]
      simp [RC.v]
def stepK (ks : List KE) (x : RC) : List KE := if x.op = 0 then insK ks x.sq x.key else if x.op = 1 then retK ks x.sq else ks
section
variable {w : World} {K : Value → World → Prop}
theorem rcallAt {p0 : Option Addr} {l0 c0 i : Nat} {cs : List RC} (h0 : Row w p0 (cs.flatMap RC.v)) (hl0 : l0 = cs.length) (hi : i < l0) :
    ∃ x g o, cs[i]? = some x ∧ x ∈ cs ∧ IxA Tryz.prog T_S_law19_Call (.slice p0 l0 c0) (.int .i64 (i : Int)) ⟨g, o, none⟩ ∧ Ld Tryz.prog T_law19_Call (.pointer (some ⟨g, o, none⟩)) w (.agg #[.int .i64 x.op, .int .i64 x.sq, .slice x.kp x.key.length x.kc]) ∧ Ld Tryz.prog T_S_uint8 (.pointer (some ((⟨g, o, none⟩ : Addr).add 2))) w (.slice x.kp x.key.length x.kc) := by
  obtain ⟨x, hx⟩ : ∃ x, cs[i]? = some x := ⟨_, List.getElem?_eq_getElem (by omega)⟩
  obtain ⟨g, o, ha, _, hc⟩ := h0.cellAt (P := Tryz.prog) (t := T_S_law19_Call) (s := 3) (by kernel_rfl) (k := .i64) (l := l0) (c := c0) (i := i) (by rw [fm_len RC.v_len, hl0]) (by omega) (by omega)
  have hc' : ∀ j v, x.v[j]? = some v → w.cell? ⟨g, o + j, none⟩ = some v := fun j v hj => by
    have hlt := (List.getElem?_eq_some_iff.1 hj).1
    exact hc j v (by rw [RC.v_len] at hlt; omega) (fm_get RC.v_len hx hj)
  exact ⟨x, g, o, hx, List.mem_of_getElem? hx, ha, Ld.agg (n := 3) (cs := x.v) (by kernel_rfl) (by kernel_rfl) rfl (fun j v hj => by rw [add_mk]; exact hc' j v hj), by rw [add_mk]; exact Ld.cell (by kernel_rfl) (hc' 2 _ rfl)⟩
def fewC (cs : List RC) : Prop := cs.length ≤ 60 ∧ ∀ x ∈ cs, x.key.length ≤ 100
theorem Great19_c {p0 : Option Addr} {l0 c0 : Nat} {cs : List RC} (h0 : Row w p0 (cs.flatMap RC.v)) (hl0 : l0 = cs.length) (hy : K (.bool true) w) (hn : fewC cs → K (.bool false) w) : callF Tryz.prog F_law19_Great #[.slice p0 l0 c0] w K := by
  apply law19_Great_call
  unfold law19_Great
  refine cond_d (fun _ => hy) fun g0 => ?_
  refine LoopS.ind (fun k us w' => w' = w ∧ ∃ i : Nat, i + k = l0 ∧ us = [.slice p0 l0 c0, .bool false, .int .i64 (i : Int)] ∧ ∀ j, j < i → ∀ x, cs[j]? = some x → x.key.length ≤ 100) l0 ⟨rfl, 0, by omega, rfl, by omega⟩ ?_
  rintro k us rr w2 I μ hgo ⟨rfl, i, hi, rfl, hs⟩
  refine ⟨_, _, _, _, _, rfl, cond_d (fun h3 => ?_) fun h3 => ?_⟩
  · obtain ⟨x, g, o, hx, hm, ha, hld, hld2⟩ := rcallAt (c0 := c0) h0 hl0 (i := i) (by omega)
    refine ⟨_, ha, _, _, _, hld2, cond_d (fun _ => hy) fun h4 => ?_⟩
    rw [wrap64 (by omega) (by omega)]
    refine hgo _ _ _ (k - 1) (by omega) ⟨rfl, i + 1, by omega, rfl, fun j hj y hy' => ?_⟩
    by_cases hji : j = i
    · subst hji; rw [hx] at hy'; cases hy'; omega
    · exact hs j (by omega) y hy'
  · refine hn ⟨by omega, fun x hx => ?_⟩
    obtain ⟨j, hj, rfl⟩ := List.getElem_of_mem hx
    exact hs j (by omega) _ (List.getElem?_eq_getElem hj)
def Apart (b : Nat) (p : Option Addr) (es : List RE) (r : Nat) (q : Option Addr) (rs : List RR) : Prop := (∀ k ∈ b :: blks p, offS r q rs k) ∧ ∀ k ∈ r :: blks q, offR b p es k
def inR (es : List RE) (z : Nat) : Prop := ∃ e ∈ es, e.lo ≤ z ∧ z < e.hi
def KeyOff (es : List RE) (rs : List RR) : Prop := ∀ z, inR es z → ∀ e ∈ rs, z ∉ blks e.kp
theorem offS_of {b r : Nat} {p q : Option Addr} {es : List RE} {rs : List RR} (h : Apart b p es r q rs) (k : KeyOff es rs) {z : Nat} (hz : inR es z) : offS r q rs z :=
  ⟨fun hm => by obtain ⟨e, he, h1, h2⟩ := hz; have := (h.2 z hm).2 e he; omega, k z hz⟩
theorem offR_new {b lo : Nat} {p : Option Addr} {es : List RE} {N : Int} (h : RingAt w b p es N lo) {k : Nat} (hk : w.heap.size ≤ k) : offR b p es k :=
  ⟨fun hm => by have := h.lt k hm; omega, fun e he => by have := (h.ent e he).1.lh; omega⟩
theorem offR_step {b : Nat} {p p' : Option Addr} {es es' : List RE} {k : Nat} (h : offR b p es k) (hk : k < w.heap.size) (hp : ∀ k ∈ blks p', k ∈ blks p ∨ w.heap.size ≤ k) (he : ∀ e ∈ es', e ∈ es ∨ w.heap.size ≤ e.lo) : offR b p' es' k := by
  refine ⟨fun hm => ?_, fun e hm => ?_⟩
  · rcases List.mem_cons.1 hm with rfl | hm
    · exact h.1 (List.mem_cons_self ..)
    · rcases hp k hm with hh | hh
      · exact h.1 (List.mem_cons_of_mem _ hh)
      · omega
  · rcases he e hm with hh | hh
    · exact h.2 e hh
    · left; omega
theorem offS_new {r lo : Nat} {q : Option Addr} {rs : List RR} (h : RefAt w r q rs lo) {k : Nat} (hk : w.heap.size ≤ k) : offS r q rs k :=
  ⟨fun hm => by have := h.lt k hm; omega, fun e he hm => by have := ((h.ent e he).2.2.2 k hm).2; omega⟩
theorem offS_step {r : Nat} {q q' : Option Addr} {rs rs' : List RR} {k : Nat} (h : offS r q rs k) (hk : k < w.heap.size) (hp : ∀ k ∈ blks q', k ∈ blks q ∨ w.heap.size ≤ k) (he : ∀ e ∈ rs', e ∈ rs ∨ ∀ k ∈ blks e.kp, w.heap.size ≤ k) : offS r q' rs' k := by
  refine ⟨fun hm => ?_, fun e hm hm2 => ?_⟩
  · rcases List.mem_cons.1 hm with rfl | hm
    · exact h.1 (List.mem_cons_self ..)
    · rcases hp k hm with hh | hh
      · exact h.1 (List.mem_cons_of_mem _ hh)
      · omega
  · rcases he e hm with hh | hh
    · exact h.2 e hh hm2
    · have := hh k hm2; omega
theorem Apart.stepR {b lo lo2 r : Nat} {p p' q : Option Addr} {es es' : List RE} {rs : List RR} {N : Int} (h : Apart b p es r q rs) (hR : RingAt w b p es N lo) (hS : RefAt w r q rs lo2) (hp : ∀ k ∈ blks p', k ∈ blks p ∨ w.heap.size ≤ k) (he : ∀ e ∈ es', e ∈ es ∨ w.heap.size ≤ e.lo) : Apart b p' es' r q rs := by
  refine ⟨fun k hk => ?_, fun k hk => offR_step (h.2 k hk) (hS.lt k hk) hp he⟩
  rcases List.mem_cons.1 hk with rfl | hk
  · exact h.1 _ (List.mem_cons_self ..)
  · rcases hp k hk with hh | hh
    · exact h.1 k (List.mem_cons_of_mem _ hh)
    · exact offS_new hS hh
theorem Apart.stepS {b lo lo2 r : Nat} {p q q' : Option Addr} {es : List RE} {rs rs' : List RR} {N : Int} (h : Apart b p es r q rs) (hR : RingAt w b p es N lo) (hS : RefAt w r q rs lo2) (hp : ∀ k ∈ blks q', k ∈ blks q ∨ w.heap.size ≤ k) (he : ∀ e ∈ rs', e ∈ rs ∨ ∀ k ∈ blks e.kp, w.heap.size ≤ k) : Apart b p es r q' rs' := by
  refine ⟨fun k hk => offS_step (h.1 k hk) (hR.lt k hk) hp he, fun k hk => ?_⟩
  rcases List.mem_cons.1 hk with rfl | hk
  · exact h.2 _ (List.mem_cons_self ..)
  · rcases hp k hk with hh | hh
    · exact h.2 k (List.mem_cons_of_mem _ hh)
    · exact offR_new hR hh
theorem ringInstall2_c {b lo : Nat} {p : Option Addr} {es : List RE} {N : Int} (h : RingAt w b p es N lo) (hN : 1 ≤ N) {s : Int} {q : Option Addr} {l cap : Nat} {key : List UInt8} (hx : Row w q (key.map vb)) (hl : l = key.length) (hcap : l ≤ cap)
    (hk : ∀ w' p' es', Fr (b :: blks p) w w' → RingAt w' b p' es' N lo → (∀ k ∈ blks p', k ∈ blks p ∨ w.heap.size ≤ k) → (∀ e ∈ es', e ∈ es ∨ w.heap.size ≤ e.lo) → es'.map RE.ke = insK (es.map RE.ke) s key → K (.int .i64 (insR (es.map RE.ke) s key)) w') :
    callF Tryz.prog F_ring_Ring_Install #[.pointer (some ⟨b, 0, none⟩), .int .i64 s, .slice q l cap] w K := by
  refine ringInstall_c h hN hx hl hcap fun w' p' es' f hR hp hne heq => ?_
  by_cases h0 : insR (es.map RE.ke) s key = 0
  · obtain ⟨e, rfl, e1, e2⟩ := heq h0
    refine hk w' p' _ f hR hp (fun x hx => ?_) (by unfold insK; rw [if_pos h0, List.map_append, List.map_cons, e1]; rfl)
    rcases List.mem_append.1 hx with hx | hx
    · exact .inl hx
    · simp at hx; subst hx; exact .inr e2
  · obtain ⟨rfl, rfl⟩ := hne h0
    exact hk w' _ _ f hR hp (fun x hx => .inl hx) (by unfold insK; rw [if_neg h0])
theorem Do19_j1_c {po : Option Addr} {l co lo : Nat} {key : List UInt8} {bb : Bool} (hO : OB w po l co key lo) (hlb : l < 1000000) (h : ∀ w', Fr (blks po) w w' → K (.bool bb) w') : law19_Do_j1 false po l co bb w K := by
  unfold law19_Do_j1
  refine LoopS.ind (fun k us w' => ∃ (i : Nat) (xs : List UInt8), i + k = l ∧ us = [.bool false, .slice po l co, .bool bb, .int .i64 (i : Int)] ∧ Fr (blks po) w w' ∧ OB w' po l co xs lo) l ⟨0, key, by omega, rfl, Fr.refl _ _, hO⟩ ?_
  rintro k us rr w2 I μ hgo ⟨i, xs, hi, rfl, f2, hO2⟩
  refine ⟨_, _, _, _, _, _, rfl, cond_d (fun h3 => ?_) fun _ => h w2 f2⟩
  obtain ⟨a, ha, hca⟩ := hO2.get (k := .i64) (i := i) (by omega)
  refine ⟨_, ha, _, Ld.cell (by kernel_rfl) hca, ?_⟩
  obtain ⟨y, hy⟩ : ∃ y : UInt8, IntKind.u8.wrap (((fl xs i).toNat : Int) + 1) = (y.toNat : Int) := byte_of (by rw [IntKind.wrap_u8]; omega) (by rw [IntKind.wrap_u8]; omega)
  rw [hy, wrap64 (by omega) (by omega)]
  refine hO2.sto (k := .i64) (i := i) (x := y) (by omega) fun w3 f3 hO3 s3 => ?_
  exact hgo _ _ _ (k - 1) (by omega) ⟨i + 1, _, by omega, rfl, f2.trans f3 (fun x hx => .inl hx), hO3⟩
set_option maxHeartbeats 2000000 in
theorem Do19x_c {b lo r lo2 : Nat} {p q : Option Addr} {es : List RE} {rs : List RR} {N : Int} {x : RC} (hR : RingAt w b p es N lo) (hN : 1 ≤ N) (hS : RefAt w r q rs lo2) (hA : Apart b p es r q rs) (hx : RC.ok w x) (hxs : ∀ w', Fr (b :: blks p) w w' → Row w' x.kp (x.key.map vb)) (hxl : x.key.length ≤ 100)
    (hk : ∀ w' p' es' q' rs' bb, Fr ((b :: blks p) ++ (r :: blks q)) w w' → RingAt w' b p' es' N lo → RefAt w' r q' rs' lo2 → Apart b p' es' r q' rs' → (∀ k ∈ blks p', k ∈ blks p ∨ w.heap.size ≤ k) → (∀ k ∈ blks q', k ∈ blks q ∨ w.heap.size ≤ k) → (∀ e ∈ es', e ∈ es ∨ w.heap.size ≤ e.lo) → (KeyOff es rs → KeyOff es' rs') →
      es'.map RE.ke = stepK (es.map RE.ke) x → rs'.map RR.ke = stepK (rs.map RR.ke) x → (es.map RE.ke = rs.map RR.ke → bb = true) → K (.bool bb) w') :
    callF Tryz.prog F_law19_Do #[.pointer (some ⟨b, 0, none⟩), .pointer (some ⟨r, 0, none⟩), .agg #[.int .i64 x.op, .int .i64 x.sq, .slice x.kp x.key.length x.kc]] w K := by
  apply law19_Do_call
  unfold law19_Do
  have hRl := hR.lt; have hSl := hS.lt
  refine New.intro fun w1 f1 hB1 s1 => ?_
  obtain ⟨k5, hk5⟩ : ∃ k, k = w.heap.size := ⟨_, rfl⟩
  rw [← hk5] at hB1 ⊢
  have hB : Blk w1 k5 3 (fun i => (#[.int .i64 x.op, .int .i64 x.sq, .slice x.kp x.key.length x.kc] : Array Value).getD i undef) := hB1
  have ld0 : ∀ {w' : World}, Blk w' k5 3 (fun i => (#[.int .i64 x.op, .int .i64 x.sq, .slice x.kp x.key.length x.kc] : Array Value).getD i undef) → Ld Tryz.prog T_int (.pointer (some ((⟨k5, 0, none⟩ : Addr).add 0))) w' (.int .i64 x.op) := fun {w'} hB => Ld.blk (by kernel_rfl) hB (by omega) rfl
  have ld1 : ∀ {w' : World}, Blk w' k5 3 (fun i => (#[.int .i64 x.op, .int .i64 x.sq, .slice x.kp x.key.length x.kc] : Array Value).getD i undef) → Ld Tryz.prog T_int (.pointer (some ((⟨k5, 0, none⟩ : Addr).add 1))) w' (.int .i64 x.sq) := fun {w'} hB => by rw [add_mk]; exact Ld.blk (by kernel_rfl) hB (by omega) rfl
  have ld2 : ∀ {w' : World}, Blk w' k5 3 (fun i => (#[.int .i64 x.op, .int .i64 x.sq, .slice x.kp x.key.length x.kc] : Array Value).getD i undef) → Ld Tryz.prog T_S_uint8 (.pointer (some ((⟨k5, 0, none⟩ : Addr).add 2))) w' (.slice x.kp x.key.length x.kc) := fun {w'} hB => by rw [add_mk]; exact Ld.blk (by kernel_rfl) hB (by omega) rfl
  refine ⟨_, _, _, ld2 hB, CopyOB_c (hx.1.fr0 f1) rfl (by omega) fun po co w2 f2 hO => ⟨_, _, _, rfl, ?_⟩⟩
  have hB2 := hB.fr0 f2
  have f02 := f1.then f2
  have n1 := f1.size; have n2 := f2.size
  have keep : ∀ {w' : World}, Fr ((b :: blks p) ++ (r :: blks q)) w2 w' → Blk w' k5 3 (fun i => (#[.int .i64 x.op, .int .i64 x.sq, .slice x.kp x.key.length x.kc] : Array Value).getD i undef) := fun {w'} f => hB2.fr f fun hm => by
    rcases List.mem_append.1 hm with hh | hh
    · have := hRl _ hh; omega
    · have := hSl _ hh; omega
  have hR2 := hR.fr0 f02; have hS2 := hS.fr0 f02
  have tail : ∀ (w' : World) (p' q' : Option Addr) (es' : List RE) (rs' : List RR) (bb : Bool), Fr ((b :: blks p) ++ (r :: blks q)) w2 w' → RingAt w' b p' es' N lo → RefAt w' r q' rs' lo2 → Apart b p' es' r q' rs' → (∀ k ∈ blks p', k ∈ blks p ∨ w2.heap.size ≤ k) → (∀ k ∈ blks q', k ∈ blks q ∨ w2.heap.size ≤ k) → (∀ e ∈ es', e ∈ es ∨ w2.heap.size ≤ e.lo) → (∀ e ∈ rs', e ∈ rs ∨ ∀ k ∈ blks e.kp, w2.heap.size ≤ k) → (KeyOff es rs → KeyOff es' rs') →
      es'.map RE.ke = stepK (es.map RE.ke) x → rs'.map RR.ke = stepK (rs.map RR.ke) x → (es.map RE.ke = rs.map RR.ke → bb = true) → law19_Do_j1 false po x.key.length co bb w' K := by
    intro w' p' q' es' rs' bb f hR' hS' hA' hp hq he hr hko h1 h2 h3
    have hnew : ∀ k ∈ blks po, w.heap.size ≤ k ∧ k < w2.heap.size := fun k hk => ⟨by have := hO.2.2 k hk; omega, hO.lt k hk⟩
    have hO' : OB w' po x.key.length co x.key w1.heap.size := hO.fr f fun k hk hm => by
      have := (hnew k hk).1
      rcases List.mem_append.1 hm with hh | hh
      · have := hRl _ hh; omega
      · have := hSl _ hh; omega
    refine Do19_j1_c hO' (by omega) fun w3 f3 => ?_
    have f03 : Fr ((b :: blks p) ++ (r :: blks q)) w w3 := ((f02.mono (by simp)).trans f (fun y hy => .inl hy)).trans f3 fun y hy => .inr (hnew y hy).1
    refine hk w3 p' es' q' rs' bb f03 (hR'.fr f3 fun k hk => offR_step (w := w2) (offR_new hR (hnew k hk).1) (hnew k hk).2 hp he) (hS'.fr f3 fun k hk => offS_step (w := w2) (offS_new hS (hnew k hk).1) (hnew k hk).2 hq hr) hA' (fun k hk => ?_) (fun k hk => ?_) (fun e hm => ?_) hko h1 h2 h3
    · rcases hp k hk with hh | hh
      · exact .inl hh
      · right; omega
    · rcases hq k hk with hh | hh
      · exact .inl hh
      · right; omega
    · rcases he e hm with hh | hh
      · exact .inl hh
      · right; omega
  refine ⟨_, ld0 hB2, cond_eq (fun h0 => ?_) fun h0 => cond_eq (fun h1 => ?_) fun h1 => ?_⟩
  · refine ⟨fun w' => Fr ((b :: blks p) ++ (r :: blks q)) w2 w', Drw.intro fun w3 f3 s3 => ?_⟩
    have f3' : Fr ((b :: blks p) ++ (r :: blks q)) w2 w3 := f3.mono (by simp)
    refine ⟨_, ⟨f3', fun w' hw' => ld1 (keep hw')⟩, _, ⟨f3', fun w' hw' => ld1 (keep hw')⟩, _, _, _, ⟨f3', fun w' hw' => ld2 (keep hw')⟩, ?_⟩
    have hR3 := hR2.fr0 f3; have hS3 := hS2.fr0 f3
    refine ringInstall2_c hR3 hN (hO.fr0 f3).row hO.2.1 hO.cap fun w4 p4 es4 f4 hR4 hp4 he4 hm4 => ⟨_, rfl, ?_⟩
    have f34 : Fr ((b :: blks p) ++ (r :: blks q)) w2 w4 := f3'.trans f4 fun y hy => .inl (List.mem_append_left _ hy)
    have hS4 := hS3.fr f4 hA.1
    have hA4 := hA.stepR hR3 hS3 hp4 he4
    refine ⟨.inr f34, ?_⟩
    have hrow := hxs w4 ((f02.mono (by simp)).trans ((f3.mono (by simp)).trans f4 fun y hy => .inl hy) fun y hy => .inl hy)
    refine refInstall_c hS4 hrow rfl hx.2 fun w5 q5 rs5 f5 hS5 hq5 hr5 hm5 => ⟨_, rfl, ?_⟩
    have hR5 := hR4.fr f5 hA4.2
    have hA5 := hA4.stepS hR4 hS4 hq5 hr5
    have n3 := f3.size; have n4 := f4.size
    refine tail w5 p4 q5 es4 rs5 _ (f34.trans f5 fun y hy => .inl (List.mem_append_right _ hy)) hR5 hS5 hA5 (fun k hk => ?_) (fun k hk => ?_) (fun e hm => ?_) (fun e hm => ?_) (fun hko z hz e' he' hm => ?_) ?_ ?_ (fun hh => by rw [hh]; exact beq_self_eq_true _)
    · rcases hp4 k hk with hh | hh
      · exact .inl hh
      · right; omega
    · rcases hq5 k hk with hh | hh
      · exact .inl hh
      · right; omega
    · rcases he4 e hm with hh | hh
      · exact .inl hh
      · right; omega
    · rcases hr5 e hm with hh | hh
      · exact .inl hh
      · right; intro k hk; have := hh k hk; omega
    · obtain ⟨e, he, h1, h2⟩ := hz
      have hlh := (hR4.ent e he).1.lh
      rcases hr5 e' he' with hh | hh
      · rcases he4 e he with hh2 | hh2
        · exact hko z ⟨e, hh2, h1, h2⟩ e' hh hm
        · have := ((hS.ent e' hh).2.2.2 z hm).2; omega
      · have := hh z hm; omega
    · unfold stepK; rw [if_pos h0, hm4]
    · unfold stepK; rw [if_pos h0, hm5]
  · refine ⟨fun w' => Fr ((b :: blks p) ++ (r :: blks q)) w2 w', Drw.intro fun w3 f3 s3 => ?_⟩
    have f3' : Fr ((b :: blks p) ++ (r :: blks q)) w2 w3 := f3.mono (by simp)
    refine ⟨_, ⟨f3', fun w' hw' => ld1 (keep hw')⟩, _, ⟨f3', fun w' hw' => ld1 (keep hw')⟩, ?_⟩
    have hR3 := hR2.fr0 f3; have hS3 := hS2.fr0 f3
    refine ringRetire_c hR3 fun w4 es4 f4 hR4 he4 _ hm4 => ⟨_, rfl, ?_⟩
    have f34 : Fr ((b :: blks p) ++ (r :: blks q)) w2 w4 := f3'.trans f4 fun y hy => .inl (List.mem_append_left _ hy)
    have hS4 := hS3.fr f4 hA.1
    have hA4 := hA.stepR (p' := p) hR3 hS3 (fun k hk => .inl hk) (fun e he => .inl (he4 e he))
    refine ⟨.inr f34, ?_⟩
    refine refRetire_c hS4 fun w5 q5 rs5 f5 hS5 hq5 hr5 hm5 => ⟨_, rfl, ?_⟩
    have hR5 := hR4.fr f5 hA4.2
    have hA5 := hA4.stepS hR4 hS4 hq5 (fun e he => .inl (hr5 e he))
    have n3 := f3.size; have n4 := f4.size
    refine tail w5 p q5 es4 rs5 _ (f34.trans f5 fun y hy => .inl (List.mem_append_right _ hy)) hR5 hS5 hA5 (fun k hk => .inl hk) (fun k hk => ?_) (fun e hm => .inl (he4 e hm)) (fun e hm => .inl (hr5 e hm)) (fun hko z hz e' he' => hko z (by obtain ⟨e, he, h12⟩ := hz; exact ⟨e, he4 e he, h12⟩) e' (hr5 e' he')) ?_ ?_ (fun hh => by rw [hh]; exact beq_self_eq_true _)
    · rcases hq5 k hk with hh | hh
      · exact .inl hh
      · right; omega
    · unfold stepK; rw [if_neg h0, if_pos h1, hm4]
    · unfold stepK; rw [if_neg h0, if_pos h1, hm5]
  · refine tail w2 p q es rs true (Fr.refl _ _) hR2 hS2 hA (fun k hk => .inl hk) (fun k hk => .inl hk) (fun e hm => .inl hm) (fun e hm => .inl hm) (fun hko => hko) ?_ ?_ fun _ => rfl
    · unfold stepK; rw [if_neg h0, if_neg h1]
    · unfold stepK; rw [if_neg h0, if_neg h1]
end
end Go.Sh
end

section
namespace Go.Sh
open Go Go.Fw Go.Proofs
set_option maxRecDepth 100000
set_option linter.unusedVariables false
theorem cond_tr {b : Bool} {A B : Prop} (h : b = true) (ha : A) : cond b A B := by subst h; exact cond_t ha
theorem cond_fl {b : Bool} {A B : Prop} (h : b = false) (hb : B) : cond b A B := by subst h; exact cond_f hb
def Z16 : List UInt8 := List.replicate 16 0
section
variable {w : World} {K : Value → World → Prop}
theorem RingAt.reset {b lo : Nat} {N : Int} (h : RingAt w b none [] N lo) : RingAt w b none [] N w.heap.size :=
  ⟨h.blk, by simp, by simp, .nil, by simp, by simp [blks], Nat.le_refl _⟩
theorem RingAt.news {b lo : Nat} {p : Option Addr} {es : List RE} {N : Int} {w0 w' : World} (h : RingAt w b p es N lo) (f0 : Fr [] w0 w) (f : Fr (b :: blks p) w w') (hb : w0.heap.size ≤ b) (hlo : w0.heap.size ≤ lo) : Fr [] w0 w' :=
  f0.trans f fun k hk => by
    rcases List.mem_cons.1 hk with rfl | hk
    · exact .inr hb
    · have := (h.arr k hk).1; right; omega
theorem RefAt.news {r lo : Nat} {q : Option Addr} {rs : List RR} {w0 w' : World} (h : RefAt w r q rs lo) (f0 : Fr [] w0 w) (f : Fr (r :: blks q) w w') (hb : w0.heap.size ≤ r) (hlo : w0.heap.size ≤ lo) : Fr [] w0 w' :=
  f0.trans f fun k hk => by
    rcases List.mem_cons.1 hk with rfl | hk
    · exact .inr hb
    · have := (h.arr k hk).1; right; omega
theorem RingAt.keep {b lo : Nat} {p : Option Addr} {es : List RE} {N : Int} {w' : World} (h : RingAt w b p es N lo) (f : Fr (b :: blks p) w w') {q : Option Addr} {l d lo0 : Nat} {xs : List UInt8} (hO : OB w q l d xs lo0) (hlt : ∀ k ∈ blks q, k < lo ∧ k ≠ b) : OB w' q l d xs lo0 :=
  hO.fr f fun k hk hm => by
    have := hlt k hk
    rcases List.mem_cons.1 hm with hh | hm
    · exact this.2 hh
    · have := (h.arr k hm).1; omega
end
end Go.Sh
end

section
namespace Go.Sh
open Go Go.Fw Go.Proofs
set_option maxRecDepth 100000
set_option linter.unusedVariables false
section
variable {w : World} {K : Value → World → Prop}
theorem refNew_c {t : TypeId} {K : Nat → World → Prop} (h : ∀ w', Fr [] w w' → RefAt w' w.heap.size none [] w'.heap.size → w'.heap.size = w.heap.size + 1 → K w.heap.size w') : New #[.slice none 0 0] t w K :=
  New.intro fun w1 f1 hB s1 => h w1 f1 (RefAt.ofNew hB rfl) s1
theorem Apart.new {wa : World} {b lo r lo2 : Nat} {p : Option Addr} {es : List RE} {N : Int} (hR : RingAt wa b p es N lo) (hr : wa.heap.size ≤ r) : Apart b p es r none [] :=
  ⟨fun k hk => ⟨fun hm => by have := hR.lt k hk; simp [blks] at hm; omega, by simp⟩, fun k hk => by simp [blks] at hk; subst hk; exact offR_new hR hr⟩
end
end Go.Sh
end

section
namespace Go.Sh
open Go Go.Fw Go.Proofs
set_option maxRecDepth 100000
set_option linter.unusedVariables false
section
variable {w : World} {K : Value → World → Prop}
theorem pw_cases {α : Type} {R : α → α → Prop} {l : List α} (h : l.Pairwise R) {x y : α} (hx : x ∈ l) (hy : y ∈ l) : x = y ∨ R x y ∨ R y x := by
  obtain ⟨i, hi, rfl⟩ := List.getElem_of_mem hx
  obtain ⟨j, hj, rfl⟩ := List.getElem_of_mem hy
  rcases Nat.lt_trichotomy i j with h1 | h1 | h1
  · exact .inr (.inl (List.pairwise_iff_getElem.1 h i j hi hj h1))
  · subst h1; exact .inl rfl
  · exact .inr (.inr (List.pairwise_iff_getElem.1 h j i hj hi h1))
theorem RingAt.box {b lo : Nat} {p : Option Addr} {es : List RE} {N : Int} (h : RingAt w b p es N lo) {e : RE} (he : e ∈ es) : ∃ n hb, 0 ≤ n ∧ n ≤ N ∧ BoxAt w e.bx e.key n N e.lo hb ∧ hb ≤ e.hi ∧ e.key.length = 16 ∧ ∀ k ∈ blks e.kp, hb ≤ k := by
  obtain ⟨n, hb, n0, n1, hX, hk, h16, hbk, o1, o2⟩ := (h.ent e he).1
  exact ⟨n, hb, n0, n1, hX, o1, hX.lohi.2.2.1, fun k hk => (hbk k hk).1⟩
theorem RingAt.after {b lo : Nat} {p : Option Addr} {es : List RE} {N N' n' : Int} {w' : World} (h : RingAt w b p es N lo) {e : RE} (he : e ∈ es) {hb : Nat} (hhb : hb ≤ e.hi) (hkp : ∀ k ∈ blks e.kp, hb ≤ k) (f : Fr (rg e.lo hb) w w') (hN : N ≤ N') (h0 : 0 ≤ n') (h1 : n' ≤ N') (hX : BoxAt w' e.bx e.key n' N' e.lo hb) : RingAt w' b p es N' lo := by
  have hr : ∀ k ∈ rg e.lo hb, e.lo ≤ k ∧ k < hb := fun k hk => mem_rg.1 hk
  obtain ⟨⟨g, c, hB, e0, hO⟩, h2, h3, h4, h5, h6, h7⟩ := h
  have hnot : ∀ k ∈ b :: blks p, k ∉ rg e.lo hb := fun k hk hm => by have := hr k hm; have := h5 k hk e he; omega
  refine ⟨⟨g, c, hB.fr f (hnot b (List.mem_cons_self ..)), e0, hO.fr f fun k hk => hnot k (List.mem_cons_of_mem _ hk)⟩, fun x hx => ⟨?_, (h2 x hx).2⟩, h3, h4, h5, h6, Nat.le_trans h7 f.size⟩
  have other : (x.hi ≤ e.lo ∨ e.hi ≤ x.lo) → EntAt w' x N' := fun ho => ((h2 x hx).1.fr f fun k hk => by have := hr k hk; omega).mono hN
  rcases pw_cases h4 hx he with rfl | hh | hh
  · obtain ⟨n, hb2, n0, n1, hX2, hk, h16, hbk, o1, o2⟩ := (h2 x he).1
    exact ⟨n', hb, h0, h1, hX, Row.cells_fr hk f fun k hk' hm => by have := hr k hm; have := hkp k hk'; omega, h16, fun k hk' => ⟨hkp k hk', (hbk k hk').2⟩, hhb, Nat.le_trans o2 f.size⟩
  · exact other (.inl hh.1)
  · exact other (.inr hh.1)
theorem offR.sp {b : Nat} {p q : Option Addr} {es : List RE} {e : RE} {hb : Nat} {xs : List UInt8} (he : e ∈ es) (hhb : hb ≤ e.hi) (h : ∀ k ∈ blks q, offR b p es k) : sp e.lo hb q xs :=
  .inr fun k hk => by have := (h k hk).2 e he; omega
end
end Go.Sh
end
